/-
  Chapter 6: the words of lists, gathered in a map. Condition: at most 1048576 texts in all.
-/
import Derived.Test.YtonbpekogfaibaaGreatWm
namespace Go.Proofs.YtonbpekogfaibaaGreat
open Go.RowKit Go.Maps

theorem isWord_sv (x : List UInt8) (w : World) (hx : x.length ≤ 9223372036854775807) :
    Calls Tryz.prog 88 #[.string ⟨x.toArray⟩] w fun e w' => e = .returned (.bool (Sc.word x)) ∧ w = w' := isWord_any ⟨x.toArray⟩ w (by rw [st_size]; exact hx)
theorem take_flat (L : List (List (List UInt8))) (i : Nat) (l : List (List UInt8)) (h : L[i]? = some l) : (L.take (i + 1)).flatten = (L.take i).flatten ++ l := by
  obtain ⟨hi, rfl⟩ := List.getElem?_eq_some_iff.1 h
  rw [List.take_succ_eq_append_getElem hi]
  simp only [List.flatten_append, List.flatten_cons, List.flatten_nil, List.append_nil]
theorem flat_len (L : List (List (List UInt8))) (i : Nat) : (L.take i).flatten.length ≤ L.flatten.length := by
  have := congrArg (fun l => (List.flatten l).length) (List.take_append_drop i L)
  simp only [List.flatten_append, List.length_append] at this
  omega
theorem take_snocL {α : Type} (l : List α) (j : Nat) (x : α) (h : l[j]? = some x) : l.take (j + 1) = l.take j ++ [x] := by
  obtain ⟨hi, rfl⟩ := List.getElem?_eq_some_iff.1 h
  rw [List.take_succ_eq_append_getElem hi]

set_option maxRecDepth 20000 in
set_option maxHeartbeats 2000000 in
theorem gathered_any (v : Value) (L : List (List (List UInt8))) (w : World) (h : RdL w v L) (hN : L.flatten.length ≤ 1048576) (hL : L.length ≤ 1048576) :
    Calls Tryz.prog 78 #[v] w fun e w' => e = .returned (.map (some w.heap.size)) ∧ SM w' w.heap.size L.flatten.length (L.flatten.filter Sc.word) ∧ Below w.heap.size w w' := by
  obtain ⟨vs, hvl, hrd, hel⟩ := h
  obtain ⟨a, c, rfl⟩ := hrd.slice
  have HR := Lib.hid hrd
  have HE := Lib.hid hel
  have HVL := Lib.hid hvl
  have hmm := @run_makeMap Tryz.prog
  clear hrd hel hvl
  go_enter Tryz.func78, Tryz.ntmps78
  go_wp2_with fail
  have hS0 : SM (w.alloc (.map #[] 0)) w.heap.size (L.take 0).flatten.length ((L.take 0).flatten.filter Sc.word) := by simpa using SM.made w
  have hb0 : Below w.heap.size w (w.alloc (.map #[] 0)) := (Below.refl _ _).alloc (Nat.le_refl _) _
  go_loopw [11] (fun i wr => ∃ k : Nat, k ≤ L.length ∧ i = .int .i64 k ∧ SM wr w.heap.size (L.take k).flatten.length ((L.take k).flatten.filter Sc.word) ∧ Below w.heap.size w wr) (fun i _ => L.length - (intOf i).toNat)
  case atStart => exact ⟨0, by omega, rfl, hS0, hb0⟩
  case round =>
    clear hS0 hb0
    obtain ⟨k, hk, rfl, hS, hb⟩ := hrel
    by_cases hkn : k < L.length
    case neg =>
      have hk' : k = L.length := by omega
      subst hk'
      rw [List.take_of_length_le (Nat.le_refl _)] at hS
      go_wp2_with fail
      go_ret
      exact ⟨rfl, hS, hb⟩
    case pos =>
    obtain ⟨b, o, cap, e1, hcap, hc⟩ := (HR.out.below hb).pos (by omega)
    cases e1
    obtain ⟨l, hl⟩ : ∃ l, L[k]? = some l := ⟨_, List.getElem?_eq_getElem hkn⟩
    obtain ⟨x, hx⟩ : ∃ x, vs[k]? = some x := ⟨_, List.getElem?_eq_getElem (by rw [HVL.out]; exact hkn)⟩
    have hrs := HE.out k x l hx hl
    have q0 := hc k x hx
    have htf := take_flat L k l hl
    have hfl := flat_len L (k + 1)
    rw [htf] at hfl
    rw [List.length_append] at hfl
    obtain ⟨a1, c1, rfl⟩ := hrs.1.slice
    have HS := Lib.hid hrs
    have HTF := Lib.hid htf
    have HX := Lib.hid hx
    clear hc hrs htf hl hx
    go_wp2_with fail
    clear q0
    obtain ⟨wo, rfl⟩ : ∃ wo : World, wo = wr := ⟨_, rfl⟩
    generalize hpre : (L.take k).flatten = pre at *
    have HPRE := Lib.hid hpre
    clear hpre
    have hS0 : SM wo w.heap.size (pre ++ l.take 0).length ((pre ++ l.take 0).filter Sc.word) := by simpa using hS
    clear hS
    go_loopw [17] (fun j wq => ∃ m : Nat, m ≤ l.length ∧ j = .int .i64 m ∧ SM wq w.heap.size (pre ++ l.take m).length ((pre ++ l.take m).filter Sc.word) ∧ Below w.heap.size w wq) (fun j _ => l.length - (intOf j).toNat)
    case atStart => exact ⟨0, by omega, rfl, hS0, hb⟩
    case round =>
      clear hS0
      obtain ⟨m, hm, rfl, hS, hq⟩ := hrel
      by_cases hmn : m < l.length
      case neg =>
        have hm' : m = l.length := by omega
        subst hm'
        rw [List.take_of_length_le (Nat.le_refl _)] at hS
        go_wp2_with fail
        go_roundw
        case rel => exact ⟨k + 1, by omega, by go_num, by rw [HTF.out]; exact hS, hq⟩
        case measure => simp [intOf]; omega
      case pos =>
      obtain ⟨b1, o1, cap1, e1, hcap1, hc1⟩ := (HS.out.1.below hq).pos (by omega)
      cases e1
      obtain ⟨s, hs⟩ : ∃ s, l[m]? = some s := ⟨_, List.getElem?_eq_getElem hmn⟩
      have hsl : s.length ≤ 9223372036854775807 := HS.out.2 s (List.mem_of_getElem? hs)
      have q1 := hc1 m (sv s) (by rw [List.getElem?_map, hs]; rfl)
      have hts := take_snocL l m s hs
      have hml : (l.take m).length ≤ l.length := by rw [List.length_take]; omega
      have HTS := Lib.hid hts
      have HW := Lib.hid (isWord_sv s · hsl)
      clear hc1 hts hs
      simp only [sv] at q1
      cases hw : Sc.word s with
      | false =>
        rw [hw] at HW
        have hfs : (pre ++ l.take (m + 1)).filter Sc.word = (pre ++ l.take m).filter Sc.word := by
          rw [HTS.out, ← List.append_assoc, List.filter_append, List.filter_cons, hw]; simp
        have HF := Lib.hid hfs
        clear hfs hw
        go_wp2_with fail
        refine (HW.out _).mono ?_
        rintro e w2 ⟨rfl, e2⟩
        subst e2
        go_wp2_with fail
        go_roundw
        case rel => exact ⟨m + 1, by omega, by go_num, by rw [HF.out]; exact hS.mono (by rw [HTS.out]; simp), hq⟩
        case measure => simp [intOf]; omega
      | true =>
        rw [hw] at HW
        have hfs : (pre ++ l.take (m + 1)).filter Sc.word = (pre ++ l.take m).filter Sc.word ++ [s] := by
          rw [HTS.out, ← List.append_assoc, List.filter_append, List.filter_cons, hw]; simp
        have hln : (pre ++ l.take (m + 1)).length = (pre ++ l.take m).length + 1 := by rw [HTS.out]; simp; omega
        have hlm : (pre ++ l.take m).length < 9223372036854775807 := by rw [List.length_append]; omega
        have HF := Lib.hid hfs
        have HLN := Lib.hid hln
        clear hfs hw hln
        obtain ⟨D, hown, hD⟩ := hS
        have HD := Lib.hid hD
        have him := hown.isMap
        clear hD
        go_wp2_with fail
        refine (HW.out _).mono ?_
        rintro e w2 ⟨rfl, e2⟩
        subst e2
        go_wp2_with (at_mapUpdate; go_loud (refine wpList_mapUpdate_own _ rfl _ _ _ 114 rfl 9 4 skey Tryz.underlying114 _ w.heap.size _ D rfl hown (by unfold maxLen; omega) _ _ (.string s) rfl rfl (WideMaps.keyOf_string_mk Tryz.underlying9 (by rw [st_size]; exact hsl)) (.lit (.bool true)) [] (plainElem_bool Tryz.underlying4 true) ?_))
        intro w1 hown1 hgrow1
        have hS1 := SM.put HD.out him hown1
        have hbs := hq.size
        have hq1 := hq.grown hgrow1 hq.size (fun j hj => by cases hj; exact Nat.le_refl _)
        clear hown1 hgrow1 hq
        go_wp2_with fail
        go_roundw
        case rel => exact ⟨m + 1, by omega, by go_num, by rw [HF.out, HLN.out]; exact hS1.mono (by rw [List.length_append, List.length_take]; omega), hq1⟩
        case measure => simp [intOf]; omega
end Go.Proofs.YtonbpekogfaibaaGreat
