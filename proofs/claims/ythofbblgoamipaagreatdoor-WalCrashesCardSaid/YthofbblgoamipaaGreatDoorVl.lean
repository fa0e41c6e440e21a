/-
  Chapter 12: wal.next at a frame.
-/
import Derived.Test.YthofbblgoamipaaGreatDoorVk
import Derived.Test.YthofbblgoamipaaGreatDoorBj
import Derived.Deep.QuietTactic
import Derived.BigQuiet
namespace Go.Proofs.YthofbblgoamipaaGreatDoor.Wa
open Go.RowKit Pt
set_option linter.unusedVariables false
set_option linter.unusedSimpArgs false
set_option maxRecDepth 100000

/-- a text's bytes, laid anew from block B on: they have their block for themselves -/
def Cv (W : World) (B : Nat) (u : Value) (b : By) : Prop :=
  ∃ g cap cur, u = .slice (some ⟨g, 0, none⟩) b.length cap ∧ B ≤ g ∧ W.heap[g]? = some (.cells cur 5 (cap, cap + 1)) ∧ b.length ≤ cap ∧ cap ≤ maxLen ∧ cur.size = cap ∧ cur.toList.take b.length = Lib.byteCells b
theorem Cv.rd {W : World} {B : Nat} {u : Value} {b : By} (h : Cv W B u b) : Rd W 1 u b.length (Lib.byteCells b) := by
  obtain ⟨g, cap, cur, rfl, _, hh, hle, _, _, ht⟩ := h
  refine ⟨by rw [bc_length, Nat.mul_one], .inr ⟨g, 0, cap, rfl, hle, fun j u hj => ?_⟩⟩
  rw [Nat.zero_add, Lib.cell_of_heap hh]
  have hj2 := (List.getElem?_eq_some_iff.1 hj).1
  rw [bc_length] at hj2
  rw [← ht, List.getElem?_take_of_lt hj2] at hj
  simpa using hj
theorem Cv.lt {W : World} {B : Nat} {u : Value} {b : By} (h : Cv W B u b) : ∀ g, u.ownBlock = some g → B ≤ g ∧ g < W.heap.size := by
  obtain ⟨g, cap, cur, rfl, hB, hh, _⟩ := h
  intro g' hg
  cases hg
  exact ⟨hB, (Array.getElem?_eq_some_iff.1 hh).1⟩
theorem Cv.keep {W W' : World} {B : Nat} {u : Value} {b : By} (h : Cv W B u b) (hb : ∀ g, u.ownBlock = some g → W'.heap[g]? = W.heap[g]?) : Cv W' B u b := by
  obtain ⟨g, cap, cur, rfl, hB, hh, r⟩ := h
  exact ⟨g, cap, cur, rfl, hB, (hb g rfl).trans hh, r⟩
theorem Cv.mono {W : World} {B B' : Nat} {u : Value} {b : By} (h : Cv W B u b) (hB : B' ≤ B) : Cv W B' u b := by
  obtain ⟨g, cap, cur, e, h1, r⟩ := h
  exact ⟨g, cap, cur, e, Nat.le_trans hB h1, r⟩
theorem wpList_bytes {P : Program} {w : World} {ops : Array Oper} {rest : List Oper} {o : Oper} {a : Act} {Q : Exit → Act → World → Prop} (hgd : o.guard = none) (src dst : TypeId) (s : Operand)
    (ho : o.op = .convert src dst s) (x : By) (hs : a.eval s = .string ⟨x.toArray⟩) (hl : x.length ≤ maxLen) (hu : P.underlying src = some .string) (hd : P.underlying dst = some (.slice 5)) (he : P.underlying 5 = some (.int .u8))
    (h : ∀ v w', Cv w' w.heap.size v x → Below w.heap.size w w' → wpList P ops Q rest (a.put o.dst v) w') : wpList P ops Q (o :: rest) a w := by
  refine wpList_step fun K hK => ?_
  have hw : Region.wanted o (yielded ops a.tmps) = true := by unfold Region.wanted; rw [hgd]
  rw [if_pos hw]
  have hr := run_bytes_of_string w src dst 5 ⟨x.toArray⟩ hu hd he
  have hsz : ∀ cp, x.length ≤ cp → (bytesRow ⟨x.toArray⟩ cp).size = cp := fun cp h => by unfold bytesRow; simp [st_size]; omega
  unfold Oper.wp execOp
  simp only [ho, hs, hr, Sem.run_bind, Sem.run_pure, Result.andThen_ok]
  rw [st_size] at *
  have hcp := grownCap_ge w x.length 0 5
  have hcm := grownCap_le_maxLen w x.length 0 5 hl
  generalize grownCap w x.length 0 5 = cp at *
  refine hK _ _ (h _ _ ?_ ?_)
  · refine ⟨w.heap.size, cp, bytesRow ⟨x.toArray⟩ cp, rfl, Nat.le_refl _, ?_, hcp, hcm, hsz cp hcp, ?_⟩
    · have := heap_alloc_new w.drew (.cells (bytesRow ⟨x.toArray⟩ cp) 5 ((bytesRow ⟨x.toArray⟩ cp).size, (bytesRow ⟨x.toArray⟩ cp).size + 1))
      rw [hsz cp hcp] at this ⊢
      exact this
    · unfold bytesRow Lib.byteCells
      simp
  · exact ((Below.refl _ _).drew.alloc (Nat.le_refl _) _)
theorem rd_fr {W : World} {b o m cap : Nat} {l r : By} (h : Rd W 1 (.slice (some ⟨b, o, none⟩) m cap) m (Lib.byteCells (l ++ r))) (hl : l.length ≤ m) (h0 : 0 < l.length) : Rd W 1 (.slice (some ⟨b, o, none⟩) l.length cap) l.length (Lib.byteCells l) := by
  refine ⟨by rw [bc_length, Nat.mul_one], ?_⟩
  rcases h.2 with ⟨_, h1⟩ | ⟨b', o', cap', e, hle, hc⟩
  · omega
  · cases e
    refine .inr ⟨b, o, cap, rfl, by omega, fun j u hj => hc j u ?_⟩
    rw [bc_append, List.getElem?_append_left (List.getElem?_eq_some_iff.1 hj).1]; exact hj
set_option maxHeartbeats 8000000 in
theorem next_any (k : Nat) (b r : By) (v : Value) (w : World) (hk : k ≤ 2) (hl : b.length ≤ 60000) (hr : Rd w 1 v (enc k b ++ r).length (Lib.byteCells (enc k b ++ r))) (hl2 : (enc k b ++ r).length ≤ 140737488355000) :
    Calls Tryz.prog 32 #[v] w fun e w' => ∃ u, e = .returned (.tuple #[.int .i64 (k : Int), u, .int .i64 ((enc k b).length : Int)]) ∧ Cv w' w.heap.size u b ∧ Below w.heap.size w w' := by
  have hrl := rcd_len k b (by omega) hl
  have hel := enc_len k b
  obtain ⟨bb, off, cap, e1, hcap, hcells⟩ := hr.pos (by rw [List.length_append]; omega)
  subst e1
  obtain ⟨L, hL⟩ : ∃ L, L = (enc k b ++ r).length := ⟨_, rfl⟩
  obtain ⟨n, hn⟩ : ∃ n, n = (rcd k b).length := ⟨_, rfl⟩
  have t1 : ¬ (L : Int) < 8 := by rw [hL, List.length_append]; omega
  rw [← hL] at hr hcap ⊢
  have HR := Lib.hid hr
  have e4 : enc k b ++ r = UInt8.ofNat (n / 16777216 % 256) :: UInt8.ofNat (n / 65536 % 256) :: UInt8.ofNat (n / 256 % 256) :: UInt8.ofNat (n % 256) :: (four (crc (rcd k b)).toNat ++ rcd k b ++ r) := by rw [hn]; rfl
  rw [e4] at hcells
  obtain ⟨a0, ha0⟩ : ∃ x, x = UInt8.ofNat (n / 16777216 % 256) := ⟨_, rfl⟩
  obtain ⟨a1, ha1⟩ : ∃ x, x = UInt8.ofNat (n / 65536 % 256) := ⟨_, rfl⟩
  obtain ⟨a2, ha2⟩ : ∃ x, x = UInt8.ofNat (n / 256 % 256) := ⟨_, rfl⟩
  obtain ⟨a3, ha3⟩ : ∃ x, x = UInt8.ofNat (n % 256) := ⟨_, rfl⟩
  rw [← ha0, ← ha1, ← ha2, ← ha3] at hcells
  have c0 : w.cell? ⟨bb, off + 0, none⟩ = some (.int .u8 (a0.toNat : Int)) := hcells 0 _ rfl
  have c1 : w.cell? ⟨bb, off + 1, none⟩ = some (.int .u8 (a1.toNat : Int)) := hcells 1 _ rfl
  have c2 : w.cell? ⟨bb, off + 2, none⟩ = some (.int .u8 (a2.toNat : Int)) := hcells 2 _ rfl
  have c3 : w.cell? ⟨bb, off + 3, none⟩ = some (.int .u8 (a3.toNat : Int)) := hcells 3 _ rfl
  simp only [Nat.add_zero] at c0
  have HLN := Lib.hid (And.intro hL (And.intro hn (And.intro hel (And.intro hrl hcap))))
  have h8 : 8 + n ≤ L := by rw [hL, List.length_append]; omega
  have HA := Lib.hid (And.intro ha0 (And.intro ha1 (And.intro ha2 ha3)))
  have u0 : (0 : Int) < (L : Int) := by omega
  have u1 : (1 : Int) < (L : Int) := by omega
  have u2 : (2 : Int) < (L : Int) := by omega
  have u3 : (3 : Int) < (L : Int) := by omega
  have HEL : Hid ((enc k b).length = 8 + n) := Lib.hid (by omega)
  clear hr hcells e4 ha0 ha1 ha2 ha3 hel hrl hcap hL hn
  go_enter Tryz.func32, Tryz.ntmps32
  go_wp2_with fail
  go_quiet (fail)
  have WS : wrap64 (wrap64 (wrap64 (wrap64 (8 + wrap64 (wrap64 (a0.toNat : Int) * 16777216)) + wrap64 (wrap64 (a1.toNat : Int) * 65536)) + wrap64 (wrap64 (a2.toNat : Int) * 256)) + wrap64 (a3.toNat : Int)) = ((8 + n : Nat) : Int) := by
    have hn1 := HLN.out.2.2.2
    have hn2 := HLN.out.2.1
    obtain ⟨q0, q1, q2, q3⟩ := HA.out
    have p0 : a0.toNat = n / 16777216 % 256 := by rw [q0]; exact UInt8.toNat_ofNat_of_lt (by show _ < 256; omega)
    have p1 : a1.toNat = n / 65536 % 256 := by rw [q1]; exact UInt8.toNat_ofNat_of_lt (by show _ < 256; omega)
    have p2 : a2.toNat = n / 256 % 256 := by rw [q2]; exact UInt8.toNat_ofNat_of_lt (by show _ < 256; omega)
    have p3 : a3.toNat = n % 256 := by rw [q3]; exact UInt8.toNat_ofNat_of_lt (by show _ < 256; omega)
    have hs : a0.toNat * 16777216 + a1.toNat * 65536 + a2.toNat * 256 + a3.toNat = n := by omega
    have l0 := a0.toNat_lt
    have l1 := a1.toNat_lt
    have l2 := a2.toNat_lt
    have l3 := a3.toNat_lt
    clear p0 p1 p2 p3 q0 q1 q2 q3
    have e (x : Int) (h : -9223372036854775808 ≤ x ∧ x < 9223372036854775808) : wrap64 x = x := by simp only [wrap64]; omega
    rw [e (a0.toNat : Int) (by omega), e ((a0.toNat : Int) * 16777216) (by omega), e (8 + (a0.toNat : Int) * 16777216) (by omega), e (a1.toNat : Int) (by omega), e ((a1.toNat : Int) * 65536) (by omega), e (8 + (a0.toNat : Int) * 16777216 + (a1.toNat : Int) * 65536) (by omega), e (a2.toNat : Int) (by omega), e ((a2.toNat : Int) * 256) (by omega), e (8 + (a0.toNat : Int) * 16777216 + (a1.toNat : Int) * 65536 + (a2.toNat : Int) * 256) (by omega), e (a3.toNat : Int) (by omega), e _ (by omega)]
    omega
  rw [WS]
  have hc8 : 8 + n ≤ cap := by have := HLN.out.2.2.2.2; omega
  have hc9 : (8 : Int) + (n : Int) ≤ (cap : Int) := by omega
  have hc10 : (0 : Int) ≤ 8 + (n : Int) := by omega
  have t5 : ¬ (L : Int) < ((8 + n : Nat) : Int) := by omega
  go_wp2_with fail
  refine (newReader_any k b (.slice (some ⟨bb, off, none⟩) (8 + n) cap) _ (by omega) hl (by
    have h := rd_fr HR.out (by have := HEL.out; omega) (by have := HEL.out; omega)
    rw [HEL.out] at h ⊢
    exact h.below (below_drewN (Below.refl _ _) _))).mono ?_
  rintro e w1 ⟨g, sl, rfl, hg, hrc, hb1⟩
  go_wp2_with fail
  have hrc' : RC w1 g (uv k ++ (uv b.length ++ (b ++ []))) sl := by rw [List.append_nil]; exact hrc
  refine (rcount_any k (uv b.length ++ (b ++ [])) g sl w1 (by omega) hrc' (by have q := rcd_len k b (by omega) hl; unfold rcd at q; rw [List.append_nil]; simp only [List.length_append] at q ⊢; omega)).mono ?_
  rintro e w2 ⟨rfl, sl2, hrc2, ho2⟩
  go_wp2_with fail
  refine (rtext_any b [] g sl2 w2 (by omega) hrc2 (by rw [List.append_nil]; omega)).mono ?_
  rintro e w3 ⟨rfl, sl3, hrc3, ho3⟩
  go_wp2_with fail
  refine (rend_any g sl3 w3 hrc3).mono ?_
  rintro e w4 ⟨rfl, rfl⟩
  have t9 : ¬ (2 : Int) < (k : Int) := by omega
  go_wp2_with (with_reducible refine wpList_bytes rfl 9 32 (.tmp 61) rfl b rfl (by unfold maxLen; omega) Tryz.underlying9 Tryz.underlying32 Tryz.underlying5 ?_)
  intro v' w' hrd hb5
  go_wp2_with fail
  go_ret3
  have HB1 : Below w.heap.size w w1 := (below_drewN (Below.refl _ _) _).trans hb1
  have HB2 : Below w.heap.size w w2 := HB1.trans (ho2.below HB1.size (fun q hq => by subst hq; exact hg))
  have HB3 : Below w.heap.size w w4 := HB2.trans (ho3.below HB2.size (fun q hq => by subst hq; exact hg))
  refine ⟨v', ?_, hrd.mono HB3.size, HB3.trans (hb5.mono HB3.size)⟩
  rw [HEL.out]
  simp
end Go.Proofs.YthofbblgoamipaaGreatDoor.Wa
