/-
  Chapter 17: the reference's id, texts, set.
  (Texts put together: Rt.)
-/
import Derived.Test.YtdmjegelcdghlaaGreatGRp
import Derived.Test.YtdmjegelcdghlaaGreatGRs
import Derived.Test.YtdmjegelcdghlaaGreatGRc
namespace Go.Proofs.YtdmjegelcdghlaaGreat.Gr
open Go.RowKit
set_option linter.unusedVariables false
set_option linter.unusedSimpArgs false
set_option maxRecDepth 100000

set_option maxHeartbeats 1000000 in
theorem rid_any (f : By) (w : World) (hl : f.length ≤ 140737488355000) :
    Calls Tryz.prog 102 #[.string ⟨f.toArray⟩] w fun e w' => e = .returned (.bool (idC f)) ∧ Below w.heap.size w w' := by
  have H := Lib.hid (fun w => Se.rright_any ⟨1, f, 0⟩ w (by show f.length ≤ _; omega))
  unfold Se.tkv at H
  go_enter Tryz.func102, Tryz.ntmps102
  go_wp2_with fail
  refine (H.out _).mono ?_
  rintro e w1 ⟨rfl, hb⟩
  have HB := Lib.hid hb
  clear hb
  go_wp2_with fail
  go_ret
  exact ⟨rfl, HB.out⟩
set_option maxHeartbeats 4000000 in
theorem rtexts_any (v : Value) (l : List By) (w : World) (h : RdS w v l) (hN : l.length ≤ 1048576) :
    Calls Tryz.prog 103 #[v] w fun e w' => e = .returned (.bool (!l.any lng)) ∧ Below w.heap.size w w' := by
  obtain ⟨a, c, rfl⟩ := h.1.slice
  have HA := Lib.hid h
  have HN := Lib.hid hN
  clear h hN
  go_enter Tryz.func103, Tryz.ntmps103
  go_wp2_with fail
  go_loopw [3] (fun i wr => ∃ k : Nat, k ≤ l.length ∧ i = .int .i64 k ∧ wr = w ∧ (l.take k).any lng = false) (fun i _ => l.length - (intOf i).toNat)
  case atStart => exact ⟨0, by omega, rfl, rfl, rfl⟩
  case round =>
    obtain ⟨k, hk, rfl, rfl, hno⟩ := hrel
    by_cases hkn : k < l.length
    case neg =>
      have HR : Hid ((!l.any lng) = true) := Lib.hid (by
        rw [List.take_of_length_le (by omega)] at hno
        rw [hno]; rfl)
      clear hno
      go_wp2_with fail
      go_ret
      exact ⟨by rw [HR.out]; rfl, Below.refl _ _⟩
    case pos =>
    obtain ⟨b1, o1, cap1, e1, hcap1, hc1⟩ := HA.out.1.pos (by omega)
    cases e1
    obtain ⟨x, hx⟩ : ∃ x, l[k]? = some x := ⟨_, List.getElem?_eq_getElem hkn⟩
    have q1 : wr.cell? ⟨b1, o1 + k, none⟩ = some (.string ⟨x.toArray⟩) := hc1 k (sv x) (by rw [List.getElem?_map, hx]; rfl)
    have g1 : (k : Int) < (l.length : Int) := by omega
    have hsz : (⟨x.toArray⟩ : ByteArray).size = x.length := st_size x
    have HX := Lib.hid (And.intro hx hno)
    clear hc1 hx hno
    by_cases hb : 128 < x.length
    case pos =>
      have t1 : (128 : Int) < (x.length : Int) := by omega
      have HR : Hid ((!l.any lng) = false) := Lib.hid (by
        have : l.any lng = true := List.any_eq_true.2 ⟨x, List.mem_of_getElem? HX.out.1, by unfold lng; exact decide_eq_true hb⟩
        rw [this]; rfl)
      go_wp2_with fail
      go_ret
      exact ⟨by rw [HR.out]; rfl, Below.refl _ _⟩
    case neg =>
      have t1 : ¬ (128 : Int) < (x.length : Int) := by omega
      have hn9 : l.length ≤ 1048576 := HN.out
      have HR : Hid ((l.take (k + 1)).any lng = false) := Lib.hid (by
        rw [List.take_add_one, HX.out.1, List.any_append, HX.out.2]
        show (false || ([x].any lng)) = false
        simp [lng]
        omega)
      go_wp2_with fail
      go_roundw
      case rel => exact ⟨k + 1, by omega, by go_num, trivial, HR.out⟩
      case measure => simp [intOf]; omega
set_option maxHeartbeats 4000000 in
theorem rset17_any (v : Value) (l : List By) (w : World) (h : RdS w v l) (hN : l.length ≤ 1048576) :
    Calls Tryz.prog 104 #[v] w fun e w' => e = .returned (.bool (setC l)) ∧ Below w.heap.size w w' := by
  obtain ⟨a, c, rfl⟩ := h.1.slice
  have HS := Lib.hid (rset_any (.slice a l.length c) l w h hN)
  have HA := Lib.hid h
  have HN := Lib.hid hN
  clear h hN
  go_enter Tryz.func104, Tryz.ntmps104
  by_cases hlen : l.length ≤ 32
  case neg =>
    have t1 : ¬ (l.length : Int) ≤ 32 := by omega
    have HR : Hid (setC l = false) := Lib.hid (by unfold setC; rw [decide_eq_false hlen]; rfl)
    clear hlen
    go_wp2_with fail
    go_ret
    exact ⟨by rw [HR.out]; rfl, Below.refl _ _⟩
  have t1 : (l.length : Int) ≤ 32 := by omega
  have HLEN := Lib.hid hlen
  clear hlen
  go_wp2_with fail
  refine HS.out.mono ?_
  rintro e w1 ⟨v1, rfl, ho1, hb1⟩
  have hr1 : RdS w1 v1 (Sc.set l) := ho1.rd fun x hx => set_short hx
  obtain ⟨a1, c1, e1⟩ := hr1.1.slice
  subst e1
  have hr2 : RdS w1 (.slice a l.length c) l := ⟨HA.out.1.below hb1, HA.out.2⟩
  have hsl := Sc.set_len l
  have HSM := Lib.hid (same_any (.slice a1 (Sc.set l).length c1) (.slice a l.length c) (Sc.set l) l w1 hr1 hr2 (by have := HN.out; omega))
  have HB1 := Lib.hid hb1
  clear ho1 hb1 hr1 hr2 hsl
  go_wp2_with fail
  refine HSM.out.mono ?_
  rintro e w2 ⟨rfl, hb2⟩
  have HB2 := Lib.hid (HB1.out.trans (hb2.mono HB1.out.size))
  clear hb2
  by_cases hsm : Sc.set l = l
  case neg =>
    have HR : Hid (setC l = false) := Lib.hid (by unfold setC; rw [decide_eq_false hsm, Bool.false_and, Bool.and_false])
    have t2 : decide (Sc.set l = l) = false := decide_eq_false hsm
    rw [t2]
    clear hsm t2
    go_wp2_with fail
    go_ret
    exact ⟨by rw [HR.out]; rfl, HB2.out⟩
  have t2 : decide (Sc.set l = l) = true := decide_eq_true hsm
  rw [t2]
  have HP := Lib.hid (rprint_any (.slice a l.length c) l w2 ⟨HA.out.1.below HB2.out, HA.out.2⟩ HN.out)
  have HSQ := Lib.hid hsm
  clear hsm t2
  go_wp2_with fail
  refine HP.out.mono ?_
  rintro e w3 ⟨rfl, hb3⟩
  have HB3 := Lib.hid (HB2.out.trans (hb3.mono HB2.out.size))
  clear hb3
  obtain ⟨t, ht⟩ : ∃ t, t = Sc.join (Sc.set l) := ⟨_, rfl⟩
  have hsz : (⟨t.toArray⟩ : ByteArray).size = t.length := st_size t
  have HR : Hid (setC l = decide (t.length ≤ 128)) := Lib.hid (by unfold setC; rw [decide_eq_true HLEN.out, decide_eq_true HSQ.out, ← ht]; rfl)
  rw [← ht]
  clear ht
  have HDE : Hid (decide ((t.length : Int) ≤ 128) = decide (t.length ≤ 128)) := Lib.hid (decide_eq_decide.2 (by omega))
  go_wp2_with fail
  go_ret
  refine ⟨?_, HB3.out⟩
  show Ending.returned (.bool (decide ((t.length : Int) ≤ 128))) = _
  rw [HDE.out, HR.out]
end Go.Proofs.YtdmjegelcdghlaaGreat.Gr
