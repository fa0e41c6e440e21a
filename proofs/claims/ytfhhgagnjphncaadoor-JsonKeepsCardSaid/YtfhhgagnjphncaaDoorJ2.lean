/-
  Chapter 5: the chapter's example, walked; the contracts that the laws use. Conditions: the listed variables lie as the program's text lays them.
-/
import Derived.Test.YtfhhgagnjphncaaDoorJo
import Derived.Test.YtfhhgagnjphncaaDoorJy
import Derived.Test.YtfhhgagnjphncaaDoorJg
import Derived.Test.YtfhhgagnjphncaaDoorJ1
namespace Go.Proofs.YtfhhgagnjphncaaDoor
open Go.RowKit Js

theorem same_true (v u : Value) (l : List Mb) (w : World) (h : RdM w v l) (h' : RdM w u l) (hm : l.length ≤ 1152921504606846976) :
    Calls Tryd.prog 15 #[v, u] w fun e w' => e = .returned (.bool true) ∧ Below w.heap.size w w' :=
  (same_any v u l l w h h' hm).mono fun e w' ⟨⟨t, h1, h2⟩, h3⟩ => ⟨by rw [h1, h2.2 rfl], h3⟩
theorem same_dec (v u : Value) (l m : List Mb) (w : World) (h : RdM w v l) (h' : RdM w u m) (hm : l.length ≤ 1152921504606846976) (t : Bool) (ht : t = true ↔ l = m) :
    Calls Tryd.prog 15 #[v, u] w fun e w' => e = .returned (.bool t) ∧ Below w.heap.size w w' :=
  (same_any v u l m w h h' hm).mono fun e w' ⟨⟨t', h1, h2⟩, h3⟩ => ⟨by rw [h1]; congr 2; rw [Bool.eq_iff_iff, h2, ht], h3⟩
theorem fit_k3 : fitL k3 := by
  intro m hm
  simp [k3] at hm
  rcases hm with rfl | rfl | rfl <;> exact ⟨by decide, by decide, by unfold inI; decide⟩

set_option maxRecDepth 20000 in
set_option maxHeartbeats 4000000 in
theorem known_any (B : Nat) (w : World) (hB : B ≤ w.heap.size) (hL : Hid (LaidB B w)) :
    Calls Tryd.prog 12 #[] w fun e w' => e = .returned (.bool true) ∧ Below w.heap.size w w' := by
  have HB := Lib.hid hB
  clear hB
  go_enter Tryd.func12, Tryd.ntmps12
  go_wp2_with fail
  refine (bool_any [97, 99, 116, 105, 118, 101] true _).mono ?_
  rintro e w1 ⟨rfl, hb1⟩
  go_wp2_with fail
  refine (int_any [110] (-5) _).mono ?_
  rintro e w2 ⟨rfl, hb2⟩
  go_wp2_with fail
  refine (text_any [115] [97, 34] _).mono ?_
  rintro e w3 ⟨rfl, hb3⟩
  have hbw3 : Below w.heap.size w w3 := below_step (below_step hb1 hb2) hb3
  clear hb1 hb2 hb3
  unfold mv
  go_wp2_with fail
  have hrd : RdM (w3.alloc (.cells (mCells k3).toArray 38)) (.slice (some ⟨w3.heap.size, 0, none⟩) 3 3) k3 := ⟨rfl, .inr ⟨_, 0, 3, rfl, by decide, fun j u hj => by
    have h := cells_new w3 (mCells k3) 38 j u hj
    rw [Addr.add_lit] at h; exact h⟩⟩
  have hb4 : Below w.heap.size w (w3.alloc (.cells (mCells k3).toArray 38)) := hbw3.alloc hbw3.size _
  have hk : (mCells k3).toArray = #[.string ⟨#[97, 99, 116, 105, 118, 101]⟩, .int .i64 2, .string ⟨#[]⟩, .int .i64 0, .bool true, .string ⟨#[110]⟩, .int .i64 1, .string ⟨#[]⟩, .int .i64 (-5), .bool false, .string ⟨#[115]⟩, .int .i64 0, .string ⟨#[97, 34]⟩, .int .i64 0, .bool false] := rfl
  refine ((print_any _ k3 _ hrd (Lib.hid fit_k3) (by decide) (Lib.hid (hL.out.on (hb4.mono HB.out)).tab.here))).mono ?_
  rintro e w5 ⟨rfl, hb5⟩
  have hbw5 := below_step hb4 hb5
  clear hb5 hb4 hbw3 hrd hk
  rw [pr_k3]
  go_wp2_with fail
  refine (jparse_any k1t _ (Lib.hid ((hL.out.on (hbw5.mono HB.out)).mono (Nat.le_trans HB.out hbw5.size)))).mono ?_
  intro e w6 hP
  unfold PaR at hP
  rw [parse_k1] at hP
  obtain ⟨v, rfl, hown, hb6⟩ := hP
  have hbw6 := below_step hbw5 hb6
  clear hbw5 hb6
  obtain ⟨b, o, cap, e1, hcap, q0, q1, q2, q3, q4⟩ := mc_cells hown.rd 0 (by decide)
  subst e1
  have hse : ((⟨k3t.toArray⟩ : ByteArray).toList == (⟨#[123, 34, 97, 99, 116, 105, 118, 101, 34, 58, 116, 114, 117, 101, 44, 34, 110, 34, 58, 45, 53, 44, 34, 115, 34, 58, 34, 97, 92, 34, 34, 125]⟩ : ByteArray).toList) = true := str_eq rfl
  have q : w6.cell? ⟨b, o + 3, none⟩ = some (.int .i64 7) := by rw [show o + 3 = o + 0 * 5 + 3 from by omega]; exact q3
  have hcap2 : 1 ≤ cap := hcap
  have hlen : (k1, (0 : Int)).fst.length = 1 := rfl
  rw [hlen]
  clear hown q0 q1 q2 q3 q4 hcap hlen
  go_wp2
  go_ret
  exact ⟨rfl, hbw6⟩
end Go.Proofs.YtfhhgagnjphncaaDoor
