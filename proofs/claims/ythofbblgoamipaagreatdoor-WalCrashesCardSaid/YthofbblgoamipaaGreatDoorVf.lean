/-
  Chapter 12: wal.frame: the frame of a kind and bytes.
-/
import Derived.Test.YthofbblgoamipaaGreatDoorVe
namespace Go.Proofs.YthofbblgoamipaaGreatDoor.Wa
open Go.RowKit Pt
set_option linter.unusedVariables false
set_option linter.unusedSimpArgs false
set_option maxRecDepth 100000

theorem rd_back {w : World} {v : Value} {l : By} (h : Rd w 1 v l.length (Lib.byteCells l)) : Sem.run Tryz.prog (convert 32 9 v) w = .ok (.string ⟨l.toArray⟩) w := by
  rcases h.2 with ⟨⟨a, c, rfl⟩, h0⟩ | ⟨b, off, cap, rfl, hc, hcells⟩
  · obtain rfl : l = [] := List.eq_nil_of_length_eq_zero h0
    cases a <;> rfl
  · refine run_convert_bytes_back w 32 9 5 ⟨b, off, none⟩ cap l Tryz.underlying32 Tryz.underlying5 Tryz.underlying9 ?_
    intro j hj
    have := hcells j _ (by simp [Lib.byteCells, hj] : (Lib.byteCells l)[j]? = some (.int .u8 (l[j].toNat : Int)))
    rw [Addr.add_lit]; exact this
theorem Out.belowG {g B : Nat} {w w' : World} (h : Out (fun k => k = g ∨ g + 1 ≤ k) w w') (hg : B ≤ g) (hB : B ≤ w.heap.size) : Below B w w' := h.below hB (fun k hk => by rcases hk with rfl | hk <;> omega)
set_option maxHeartbeats 4000000 in
theorem wframe_any (k : Nat) (b : By) (v : Value) (w : World) (hk : k < 128) (hr : Rd w 1 v b.length (Lib.byteCells b)) (hl : b.length ≤ 60000) :
    Calls Tryz.prog 36 #[.int .i64 (k : Int), v] w fun e w' => ∃ s, e = .returned s ∧ w'.ownsRow w.heap.size 5 1 s (enc k b).length (Lib.byteCells (enc k b)) ∧ Below w.heap.size w w' := by
  obtain ⟨a, c, e1⟩ := hr.slice
  subst e1
  have HR := Lib.hid hr
  have HN := Lib.hid (newWriter_any w)
  have HL := Lib.hid hl
  have HK := Lib.hid hk
  clear hr hl hk
  obtain ⟨n, hn⟩ : ∃ n, n = b.length := ⟨_, rfl⟩
  rw [← hn] at HR ⊢
  have HNN := Lib.hid hn
  clear hn
  go_enter Tryz.func36, Tryz.ntmps36
  go_wp2_with fail
  refine HN.out.mono ?_
  rintro e w1 ⟨rfl, hc1, hb1⟩
  have HB1 := Lib.hid hb1
  have HCN := Lib.hid (wcount_any k (w.heap.size + 1) w.heap.size [] _ w1 (by have := HK.out; omega) hc1 (by simp))
  clear hc1 hb1 HN
  go_wp2_with fail
  refine HCN.out.mono ?_
  rintro e w2 ⟨rfl, s2, hc2, ho2⟩
  have HB2 : Hid (Below w.heap.size w w2) := Lib.hid (HB1.out.trans (Out.belowG ho2 (Nat.le_refl _) HB1.out.size))
  have hcv : Sem.run Tryz.prog (convert 32 9 (.slice a n c)) w2 = .ok (.string ⟨b.toArray⟩) w2 := rd_back (l := b) (by have h := HR.out.below HB2.out; rw [HNN.out] at h ⊢; exact h)
  simp only [List.nil_append] at hc2
  have HTX := Lib.hid (wtext_any b (w.heap.size + 1) w.heap.size (uv k) s2 w2 HL.out hc2 (by rw [uv_lt HK.out]; simp))
  clear hc2 ho2 HCN
  go_wp2_with fail
  refine HTX.out.mono ?_
  rintro e w3 ⟨rfl, s3, hc3, ho3⟩
  have HB3 : Hid (Below w.heap.size w w3) := Lib.hid (HB2.out.trans (Out.belowG ho3 (Nat.le_refl _) HB2.out.size))
  have HFR := Lib.hid (frame_any (w.heap.size + 1) w.heap.size (rcd k b) s3 w3 hc3 (by have h1 := rcd_len k b HK.out HL.out; have := HL.out; omega))
  clear hc3 ho3 HTX hcv
  go_wp2_with fail
  refine HFR.out.mono ?_
  rintro e w4 ⟨s4, rfl, how4, hb4⟩
  have HB4 : Hid (Below w.heap.size w w4) := Lib.hid (HB3.out.trans (hb4.mono HB3.out.size))
  obtain ⟨E, hE⟩ : ∃ E, E = enc k b := ⟨_, rfl⟩
  obtain ⟨M, hM⟩ : ∃ M, M = E.length := ⟨_, rfl⟩
  have HOW4 : Hid (w4.ownsRow w.heap.size 5 1 s4 M (Lib.byteCells E)) := Lib.hid (by rw [hM, hE]; exact own_mono how4 HB3.out.size)
  obtain ⟨x, y, e4⟩ := (Rd.of_own HOW4.out).slice
  have HEM := Lib.hid (And.intro hE hM)
  clear how4 hb4 HFR hE hM
  subst e4
  go_wp2_with fail
  go_ret
  exact ⟨_, rfl, by rw [← HEM.out.1, ← HEM.out.2]; exact HOW4.out, HB4.out⟩
end Go.Proofs.YthofbblgoamipaaGreatDoor.Wa
