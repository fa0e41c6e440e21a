/-
  Chapter 1, the reference: bits, numbers, signs; bytes by the web's signs.
-/
import Derived.Test.YtefofalobpepcaaDoorEt
import Derived.Test.YtefofalobpepcaaDoorHp
import Derived.Test.YtefofalobpepcaaDoorEe
namespace Go.Proofs.YtefofalobpepcaaDoor.Se
open Go.RowKit
set_option linter.unusedVariables false
set_option linter.unusedSimpArgs false

theorem bool_row : (Tryd.prog.info? 4).map (fun i => (i.zero, i.size, i.bytes)) = some (some (.bool false), 1, 1) := by kernel_rfl
def bcells (l : List Bool) : List Value := l.map Value.bool
theorem bcl (l : List Bool) : (bcells l).length = l.length := by simp [bcells]
theorem bc1 (l : List Bool) : ∀ u ∈ bcells l, u.oneCell' = true := by
  intro u hu; simp only [bcells, List.mem_map] at hu; obtain ⟨x, _, rfl⟩ := hu; rfl
theorem sub_u8 (x : Int) (h0 : 0 ≤ x) (h1 : x ≤ 255) : IntKind.u8.wrap x = x := by rw [IntKind.wrap_u8]; omega
set_option maxRecDepth 20000 in
set_option maxHeartbeats 2000000 in
theorem sign01_any (n : Nat) (h : n < 64) (w : World) : Calls Tryd.prog 48 #[.int .i64 (n : Int), .bool true] w fun e w' => e = .returned (.int .u8 ((sg n).toNat : Int)) ∧ w' = w := by
  have hs := sg_val n h
  generalize (sg n).toNat = r at hs ⊢
  by_cases h1 : n < 26
  · rw [if_pos h1] at hs
    have b1 : decide ((n : Int) < 26) = true := by rw [decide_eq_true_iff]; omega
    have e1 : IntKind.i64.wrap (65 + (n : Int)) = 65 + (n : Int) := w_i64 _ (by omega) (by omega)
    have e2 : IntKind.u8.wrap (65 + (n : Int)) = (r : Int) := by rw [sub_u8 _ (by omega) (by omega)]; omega
    clear hs h1
    go_enter Tryd.func48, Tryd.ntmps48
    go_wp2
    go_ret
    exact ⟨rfl, rfl⟩
  rw [if_neg h1] at hs
  have b1 : decide ((n : Int) < 26) = false := by rw [decide_eq_false_iff_not]; omega
  by_cases h2 : n < 52
  · rw [if_pos h2] at hs
    have b2 : decide ((n : Int) < 52) = true := by rw [decide_eq_true_iff]; omega
    have e1 : IntKind.i64.wrap (71 + (n : Int)) = 71 + (n : Int) := w_i64 _ (by omega) (by omega)
    have e2 : IntKind.u8.wrap (71 + (n : Int)) = (r : Int) := by rw [sub_u8 _ (by omega) (by omega)]; omega
    clear hs h1 h2
    go_enter Tryd.func48, Tryd.ntmps48
    go_wp2
    go_ret
    exact ⟨rfl, rfl⟩
  rw [if_neg h2] at hs
  have b2 : decide ((n : Int) < 52) = false := by rw [decide_eq_false_iff_not]; omega
  by_cases h3 : n < 62
  · rw [if_pos h3] at hs
    have b3 : decide ((n : Int) < 62) = true := by rw [decide_eq_true_iff]; omega
    have e1 : IntKind.i64.wrap ((n : Int) - 4) = (n : Int) - 4 := w_i64 _ (by omega) (by omega)
    have e2 : IntKind.u8.wrap ((n : Int) - 4) = (r : Int) := by rw [sub_u8 _ (by omega) (by omega)]; omega
    clear hs h1 h2 h3
    go_enter Tryd.func48, Tryd.ntmps48
    go_wp2
    go_ret
    exact ⟨rfl, rfl⟩
  rw [if_neg h3] at hs
  have b3 : decide ((n : Int) < 62) = false := by rw [decide_eq_false_iff_not]; omega
  by_cases h4 : n = 62
  · rw [if_pos h4] at hs
    have b4 : ((n : Int) == 62) = true := by rw [beq_iff_eq]; omega
    subst hs
    clear h1 h2 h3 h4
    go_enter Tryd.func48, Tryd.ntmps48
    go_wp2
    go_ret
    exact ⟨rfl, rfl⟩
  · rw [if_neg h4] at hs
    have b4 : ((n : Int) == 62) = false := by rw [beq_eq_false_iff_ne]; omega
    subst hs
    clear h1 h2 h3 h4
    go_enter Tryd.func48, Tryd.ntmps48
    go_wp2
    go_ret
    exact ⟨rfl, rfl⟩

set_option maxRecDepth 20000 in
set_option maxHeartbeats 2000000 in
theorem number_any (v : Value) (l : List Bool) (w : World) (h : Rd w 1 v l.length (bcells l)) (hl : l.length ≤ 40) :
    Calls Tryd.prog 49 #[v] w fun e w' => e = .returned (.int .i64 (nb l : Int)) ∧ w' = w := by
  obtain ⟨a, c, hv⟩ := h.slice
  subst hv
  have HR := Lib.hid h
  clear h
  go_enter Tryd.func49, Tryd.ntmps49
  go_wp2_with fail
  go_loop [3, 4] (fun n i => ∃ k : Nat, k ≤ l.length ∧ i = .int .i64 (k : Int) ∧ n = .int .i64 (nb (l.take k) : Int)) (fun _ i => l.length - (intOf i).toNat)
  case atStart => exact ⟨0, by omega, rfl, rfl⟩
  case round =>
    obtain ⟨k, hk, rfl, rfl⟩ := hrel
    by_cases hlt : k < l.length
    case pos =>
      have k0 : (k : Int) < (l.length : Int) := by omega
      have k1 : (0 : Int) ≤ (k : Int) := by omega
      have hn := nb_lt (l.take k)
      have hn2 : nb (l.take k) < 2 ^ 40 := Nat.lt_of_lt_of_le hn (Nat.pow_le_pow_right (by omega) (by rw [List.length_take]; omega))
      obtain ⟨x, hx⟩ : ∃ x, l[k] = x := ⟨_, rfl⟩
      have hs : nb (l.take (k + 1)) = 2 * nb (l.take k) + (if x then 1 else 0) := by rw [List.take_succ_eq_append_getElem hlt, nb_snoc, hx]
      obtain ⟨b, o, cap, e1, hcp, hc⟩ := HR.out.pos (by omega)
      cases e1
      have q := hc k (.bool x) (by unfold bcells; rw [List.getElem?_map, List.getElem?_eq_getElem hlt, hx]; rfl)
      have HS := Lib.hid hs
      generalize nb (l.take k) = N at hn2 HS ⊢
      have e1 : IntKind.i64.wrap (2 * (N : Int)) = 2 * (N : Int) := IntWalk.i64_in _ (by omega)
      have e2 : IntKind.i64.wrap (2 * (N : Int) + 1) = 2 * (N : Int) + 1 := IntWalk.i64_in _ (by omega)
      have HN2 := Lib.hid hn2
      clear hn hx hs hc hn2
      cases x with
      | true =>
        go_wp2_with fail
        go_round
        case rel => exact ⟨k + 1, by omega, by go_num, by rw [HS.out]; go_num⟩
        case measure => simp [intOf]; omega
      | false =>
        go_wp2_with fail
        go_round
        case rel => exact ⟨k + 1, by omega, by go_num, by rw [HS.out]; go_num⟩
        case measure => simp [intOf]; omega
    case neg =>
      have hke : l.take k = l := List.take_of_length_le (by omega)
      rw [hke]
      have k0 : ¬ (k : Int) < (l.length : Int) := by omega
      clear hke
      go_wp2_with fail
      go_ret
      exact ⟨rfl, rfl⟩
end Go.Proofs.YtefofalobpepcaaDoor.Se
