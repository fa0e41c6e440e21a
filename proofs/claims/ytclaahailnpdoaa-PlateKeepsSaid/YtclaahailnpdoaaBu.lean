/-
  Chapter 10: PlatePlays' walk. Printed by gen_plate_plays.py.
-/
import Derived.Test.YtclaahailnpdoaaBt
namespace Go.Proofs.Ytclaahailnpdoaa.Pt
open Go.RowKit Go.Maps
set_option linter.unusedVariables false
set_option linter.unusedSimpArgs false

/-- a slice reads as these steps; all of it lies below B -/
structure SpsAt (B : Nat) (W : World) (v : Value) (l : List Sp) (vb vk : Nat → Value) : Prop where
  shp : ∃ a c, v = .slice a l.length c
  cel : 0 < l.length → ∃ b o c, v = .slice (some ⟨b, o, none⟩) l.length c ∧ b < B ∧ ∀ k s, l[k]? = some s → ∀ (j : Nat) (u : Value), (spc s (vb k) (vk k))[j]? = some u → W.cell? ⟨b, o + k * 5 + j, none⟩ = some u
  stp : ∀ k s, l[k]? = some s → StepAt B W s (vb k) (vk k)
theorem SpsAt.below {B : Nat} {W W' : World} {v : Value} {l : List Sp} {vb vk : Nat → Value} (h : SpsAt B W v l vb vk) (hb : Below B W W') : SpsAt B W' v l vb vk := by
  refine ⟨h.shp, fun hl => ?_, fun k s hk => (h.stp k s hk).below hb⟩
  obtain ⟨b, o, c, e, hbB, hc⟩ := h.cel hl
  exact ⟨b, o, c, e, hbB, fun k s hk j u hj => (World.cell?_of_block (a := ⟨b, o + k * 5 + j, none⟩) (hb.block b hbB)).trans (hc k s hk j u hj)⟩
/-- all steps up to k -/
def stps (st : St) (l : List Sp) (k : Nat) : St := (l.take k).foldl Pt.stp st
theorem stps_succ {st : St} {l : List Sp} {k : Nat} {s : Sp} (h : l[k]? = some s) : stps st l (k + 1) = Pt.stp (stps st l k) s := by
  have hk : k < l.length := (List.getElem?_eq_some_iff.1 h).1
  unfold stps
  rw [List.take_succ_eq_append_getElem hk, List.foldl_append, (List.getElem?_eq_some_iff.1 h).2]
  rfl
/-- a new plate of the reference -/
theorem ref_new (W : World) (R : Nat) (sl : By → Value) (K : Nat → Prop) (hK : K W.heap.size) (hR : R ≤ 268435456) :
    RA (W.alloc (.cells #[.slice none 0 0, .int .i64 (R : Int), .bool false, .int .i64 0, .bool false] 31)) W.heap.size (newS R) sl (.slice none 0 0) 0 K :=
  ⟨Blk.new W 31 [.slice none 0 0, .int .i64 (R : Int), .bool false, .int .i64 0, .bool false], fun h => (by cases h), Rd.nil _ _, fun g hg => (by cases hg), fun f hf => (by cases hf), fun f hf => (by cases hf), hK,
    ⟨List.Pairwise.nil, hR, Nat.zero_le _, fun f hf => (by cases hf), Nat.zero_le _⟩⟩
/-- both new plates in one memory -/
theorem duo_new {B : Nat} {w W : World} {q m : Nat} {R R2 : Nat} {sl : By → Value} (hp : PA W q m (newS R) sl) (hB : B ≤ W.heap.size) (hq : B ≤ q) (hm : B ≤ m) (hR : R2 ≤ 268435456) :
    Duo B (W.alloc (.cells #[.slice none 0 0, .int .i64 (R2 : Int), .bool false, .int .i64 0, .bool false] 31)) q m W.heap.size (newS R) (newS R2) sl := by
  have hb : Below W.heap.size W (W.alloc (.cells #[.slice none 0 0, .int .i64 (R2 : Int), .bool false, .int .i64 0, .bool false] 31)) := (Below.refl _ _).alloc (Nat.le_refl _) _
  refine ⟨hp.below hb, ⟨sl, .slice none 0 0, 0, ref_new W R2 sl _ ⟨hB, fun hf => ?_⟩ hR⟩, fun k hk => ?_, Nat.le_trans hB hb.size⟩
  · have := hp.foot_lt hf; omega
  · rcases hk with rfl | rfl | ⟨f, hf, _⟩
    · exact hq
    · exact hm
    · cases hf
set_option maxRecDepth 100000 in
set_option maxHeartbeats 4000000 in
theorem _root_.Go.Proofs.Ytclaahailnpdoaa.platePlays_walk (room : Int) (v : Value) (l : List Sp) (vb vk : Nat → Value) (w : World) (h : SpsAt w.heap.size w v l vb vk) (hl : l.length ≤ 4611686018427387904) :
    Calls Try.prog 3 #[.int .i64 room, v] w fun e w' => e = .returned (.bool true) ∧ Below w.heap.size w w' := by
  obtain ⟨a, c, rfl⟩ := h.shp
  have H := Lib.hid h
  clear h
  by_cases hr : room < 0 ∨ 268435456 < room
  case pos =>
    have HNB := Lib.hid (new_bad room w hr)
    by_cases h0 : room < 0
    case pos =>
      clear hr
      go_enter Try.func3, Try.ntmps3
      go_wp2_with fail
      refine HNB.out.mono ?_
      rintro e w1 ⟨rfl, hw⟩
      obtain rfl := hw.symm
      go_wp2_with fail
      refine (known_any _).mono ?_
      rintro e w2 ⟨rfl, hb2⟩
      go_wp2_with fail
      refine (known_any _).mono ?_
      rintro e w3 ⟨rfl, hb3⟩
      have HE := Lib.hid (hb2.trans (hb3.mono hb2.size))
      clear hb2 hb3
      go_wp2_with fail
      go_ret
      exact ⟨rfl, HE.out⟩
    case neg =>
      have h1 := hr.resolve_left h0
      clear hr
      go_enter Try.func3, Try.ntmps3
      go_wp2_with fail
      refine HNB.out.mono ?_
      rintro e w1 ⟨rfl, hw⟩
      obtain rfl := hw.symm
      go_wp2_with fail
      refine (known_any _).mono ?_
      rintro e w2 ⟨rfl, hb2⟩
      go_wp2_with fail
      refine (known_any _).mono ?_
      rintro e w3 ⟨rfl, hb3⟩
      have HE := Lib.hid (hb2.trans (hb3.mono hb2.size))
      clear hb2 hb3
      go_wp2_with fail
      go_ret
      exact ⟨rfl, HE.out⟩
  case neg =>
    obtain ⟨R, hR⟩ : ∃ R : Nat, room = (R : Int) := ⟨room.toNat, by omega⟩
    subst hR
    have h0 : ¬ (R : Int) < 0 := by omega
    have h1 : ¬ (268435456 : Int) < (R : Int) := by omega
    have hRR : R ≤ 268435456 := by omega
    clear hr
    go_enter Try.func3, Try.ntmps3
    go_wp2_with fail
    refine (new_any R (fun _ => .slice none 0 0) w hRR).mono ?_
    rintro e w1 ⟨q, m, rfl, hp1, hb1, hq, hm⟩
    have H1 := Lib.hid (And.intro hp1 (And.intro hb1 (And.intro hq hm)))
    clear hp1 hb1 hq hm
    go_wp2_with fail
    refine (known_any _).mono ?_
    rintro e w2 ⟨rfl, hb2⟩
    have H2 := Lib.hid hb2
    clear hb2
    go_wp2_with fail
    have hW2 : Below w.heap.size w w2 := H1.out.2.1.trans (H2.out.mono H1.out.2.1.size)
    have hD0 := duo_new (w := w) (H1.out.1.below H2.out) hW2.size H1.out.2.2.1 H1.out.2.2.2 hRR
    have hb0 : Below w.heap.size w (w2.alloc (.cells #[.slice none 0 0, .int .i64 (R : Int), .bool false, .int .i64 0, .bool false] 31)) := hW2.alloc hW2.size _
    generalize w2.alloc (.cells #[.slice none 0 0, .int .i64 (R : Int), .bool false, .int .i64 0, .bool false] 31) = W0 at *
    generalize w2.heap.size = r at *
    clear hW2 H1 H2
    go_loopw [8] (fun i wr => ∃ (k : Nat) (sl : By → Value), k ≤ l.length ∧ i = .int .i64 (k : Int) ∧ Duo w.heap.size wr q m r (stps (newS R) l k) (stps (newS R) l k) sl ∧ Below w.heap.size w wr) (fun i _ => l.length - (intOf i).toNat)
    case atStart => exact ⟨0, _, Nat.zero_le _, rfl, hD0, hb0⟩
    case round =>
      clear hD0 hb0
      obtain ⟨k, sl, hk, rfl, hD, hb⟩ := hrel
      by_cases hkn : k < l.length
      case neg =>
        have t1 : ¬ (k : Int) < (l.length : Int) := by omega
        clear hD
        go_wp2_with fail
        go_ret
        exact ⟨rfl, hb⟩
      case pos =>
      have t1 : (k : Int) < (l.length : Int) := by omega
      by_cases hk1 : (k : Int) < 120
      case neg =>
        clear hD
        go_wp2_with fail
        go_ret
        exact ⟨rfl, hb⟩
      case pos =>
      obtain ⟨s, hs⟩ : ∃ s, l[k]? = some s := ⟨_, List.getElem?_eq_getElem hkn⟩
      have hH := H.out.below hb
      obtain ⟨b1, o1, c1, e1, hb1, hc1⟩ := hH.cel (by omega)
      cases e1
      have y0 := hc1 k s hs 0 _ rfl
      have y1 := hc1 k s hs 1 _ rfl
      have y2 := hc1 k s hs 2 _ rfl
      have y3 := hc1 k s hs 3 _ rfl
      have y4 := hc1 k s hs 4 _ rfl
      simp only [Nat.add_zero] at y0
      have HDO := Lib.hid (do_any _ q m r _ _ sl s (vb k) (vk k) wr hD (hH.stp k s hs))
      rw [← stps_succ hs] at HDO
      have HB := Lib.hid hb
      clear hc1 hH hD hb hs
      go_wp2_with fail
      refine HDO.out.mono ?_
      rintro e w4 ⟨⟨b, rfl, hbt⟩, ⟨sl2, hD2⟩, hb4⟩
      obtain rfl := hbt rfl
      have HAL := Lib.hid (alike_any _ q m r _ sl2 w4 hD2)
      have HB4 := Lib.hid (HB.out.trans hb4)
      clear hbt hD2 hb4 HDO
      go_wp2_with fail
      refine HAL.out.mono ?_
      rintro e w5 ⟨rfl, hD5, hb5⟩
      have HX := Lib.hid (And.intro hD5 (HB4.out.trans hb5))
      clear hD5 hb5 HAL y0 y1 y2 y3 y4
      go_wp2_with fail
      go_roundw
      case rel => exact ⟨k + 1, sl2, by omega, by go_num, HX.out⟩
      case measure => simp [intOf]; omega
end Go.Proofs.Ytclaahailnpdoaa.Pt
