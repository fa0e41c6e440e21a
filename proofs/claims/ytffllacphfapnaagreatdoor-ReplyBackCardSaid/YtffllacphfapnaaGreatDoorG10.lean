/-
  strings.Cut at a separator of one byte: what stands ahead of it, what stands behind it, whether it is there. Condition: a string is at most 2^47 bytes.
-/
import Derived.Test.YtffllacphfapnaaGreatDoorG02
import Derived.Test.YtffllacphfapnaaGreatDoorShelf
namespace Go.Proofs.YtffllacphfapnaaGreatDoor
open Go.RowKit
namespace Cut
abbrev By := List UInt8
def before (l : By) (c : UInt8) : By := l.takeWhile (· != c)
def after (l : By) (c : UInt8) : By := l.drop ((before l c).length + 1)
def has (l : By) (c : UInt8) : Bool := l.contains c
theorem before_le (l : By) (c : UInt8) : (before l c).length ≤ l.length := by unfold before; exact (List.takeWhile_sublist _).length_le
theorem idx_eq (l : By) (c : UInt8) : Lib.indexByte l c = if l.contains c then ((before l c).length : Int) else -1 := by
  induction l with
  | nil => simp [Lib.indexByte]
  | cons b l ih =>
    unfold Lib.indexByte before
    by_cases h : b = c
    · subst h; simp
    · have h1 : (b == c) = false := by simpa using h
      have h2 : (b != c) = true := by simp [h]
      have h3 : (c == b) = false := by simpa using Ne.symm h
      simp only [h1, Bool.false_eq_true, if_false, List.takeWhile_cons, h2, if_true, List.length_cons, List.contains_cons, h3, Bool.false_or, ih]
      unfold before
      by_cases hc : l.contains c = true
      · simp only [hc, if_true]
        rw [if_neg (by simp)]
        omega
      · simp only [hc, if_false, Bool.false_eq_true]; simp
theorem tw_self (l : By) (p : UInt8 → Bool) (h : ∀ a ∈ l, p a = true) : l.takeWhile p = l := by
  induction l with
  | nil => rfl
  | cons b l ih => rw [List.takeWhile_cons, if_pos (h b (by simp)), ih fun a ha => h a (by simp [ha])]
theorem tw_all (l : By) (p : UInt8 → Bool) : ∀ a ∈ l.takeWhile p, p a = true := by
  induction l with
  | nil => simp
  | cons b l ih =>
    rw [List.takeWhile_cons]
    by_cases hb : p b = true
    · rw [if_pos hb]; intro a ha; rcases List.mem_cons.1 ha with rfl | ha
      · exact hb
      · exact ih a ha
    · rw [if_neg hb]; simp
theorem not_mem (l : By) (c : UInt8) (h : l.contains c = false) : before l c = l := by
  refine tw_self l _ fun a ha => ?_
  simp only [bne_iff_ne, ne_eq]
  intro e; subst e
  simp at h; exact h ha
theorem mem_lt (l : By) (c : UInt8) (h : l.contains c = true) : (before l c).length < l.length := by
  have h1 := before_le l c
  rcases Nat.lt_or_ge (before l c).length l.length with h2 | h2
  · exact h2
  · have hp : before l c = l := (List.takeWhile_sublist _).eq_of_length_le h2
    have := tw_all l (· != c) c (by unfold before at hp; rw [hp]; simpa using h)
    simp at this
theorem take_eq (l : By) (c : UInt8) : l.take (before l c).length = before l c := by
  have := List.takeWhile_prefix (l := l) (· != c)
  exact (List.prefix_iff_eq_take.1 this).symm
end Cut
theorem ext_list (s : ByteArray) (a b : Nat) : (s.extract a b).data.toList = (s.data.toList.take b).drop a := by
  rw [ByteArray.data_extract, Array.toList_extract, List.extract_eq_take_drop, List.drop_take]
theorem ba_ext (a b : ByteArray) (h : a.data.toList = b.data.toList) : a = b := by
  apply ByteArray.ext; rw [← Array.toList_inj]; exact h
theorem ext_take (s : ByteArray) (n : Nat) : s.extract 0 n = ⟨(s.data.toList.take n).toArray⟩ := by
  apply ba_ext; rw [ext_list]; simp
theorem ext_drop (s : ByteArray) (n : Nat) : s.extract n s.size = ⟨(s.data.toList.drop n).toArray⟩ := by
  apply ba_ext; rw [ext_list, List.take_of_length_le (by rw [Array.length_toList]; exact Nat.le_refl _)]

/-- what Cut answers -/
def cutV (l : List UInt8) (c : UInt8) : Value := .tuple #[.string ⟨(Cut.before l c).toArray⟩, .string ⟨(Cut.after l c).toArray⟩, .bool (Cut.has l c)]

set_option maxRecDepth 20000 in
set_option maxHeartbeats 400000 in
theorem cut_lite (s : ByteArray) (c : UInt8) (hs : s.size ≤ 140737488355328) (w : World) :
    Calls Tryz.prog 105 #[.string s, .string ⟨#[c]⟩] w fun e w' => e = .returned (cutV s.data.toList c) ∧ ∃ n, w' = w.drewN n := by
  have hi := Cut.idx_eq s.data.toList c
  by_cases hm : s.data.toList.contains c = true
  · rw [if_pos hm] at hi
    have hlt := Cut.mem_lt _ _ hm
    have hcv : cutV s.data.toList c = .tuple #[.string (s.extract 0 (Cut.before s.data.toList c).length), .string (s.extract ((Cut.before s.data.toList c).length + 1) s.size), .bool true] := by
      rw [ext_take, ext_drop, Cut.take_eq]; unfold cutV Cut.has; rw [hm]; rfl
    have HC := Lib.hid hcv
    clear hcv
    have hsz : s.data.toList.length = s.size := by rw [Array.length_toList]; rfl
    rw [hsz] at hlt
    generalize (Cut.before s.data.toList c).length = k at hi hlt HC
    clear hsz hm
    go_enter Tryz.func105, Tryz.ntmps105
    go_wp2_with (go_at_call 82; refine (Tryz.stringslite_Index_one _ _ _).mono ?_; rintro e w' ⟨rfl, rfl⟩)
    go_quiet (fail)
    go_wp2
    go_ret3
    exact ⟨by rw [HC.out]; rfl, _, rfl⟩
  · rw [if_neg hm] at hi
    have hm' : s.data.toList.contains c = false := by simpa using hm
    have hcv : cutV s.data.toList c = .tuple #[.string s, .string ⟨#[]⟩, .bool false] := by
      unfold cutV Cut.after Cut.has; rw [Cut.not_mem _ _ hm', hm']; simp
    have HC := Lib.hid hcv
    clear hcv hm hm'
    go_enter Tryz.func105, Tryz.ntmps105
    go_wp2_with (go_at_call 82; refine (Tryz.stringslite_Index_one _ _ _).mono ?_; rintro e w' ⟨rfl, rfl⟩)
    go_ret3
    exact ⟨by rw [HC.out]; rfl, 0, rfl⟩

set_option maxHeartbeats 400000 in
theorem cut_one (s : ByteArray) (c : UInt8) (hs : s.size ≤ 140737488355328) (w : World) :
    Calls Tryz.prog 81 #[.string s, .string ⟨#[c]⟩] w fun e w' => e = .returned (cutV s.data.toList c) ∧ ∃ n, w' = w.drewN n := by
  go_enter Tryz.func81, Tryz.ntmps81
  unfold cutV
  go_wp2_with (go_at_call 105; refine (cut_lite _ _ hs _).mono ?_; unfold cutV; rintro e w' ⟨rfl, nd, rfl⟩)
  go_ret3
  exact ⟨rfl, _, rfl⟩
end Go.Proofs.YtffllacphfapnaaGreatDoor
