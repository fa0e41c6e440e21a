/-
  Chapter 5, plain: the chapter's example; what the laws ask of Print's and Parse's answers. No program here.
-/
import Derived.Test.YtffllacphfapnaaGreatDoorG09
namespace Go.Proofs.YtffllacphfapnaaGreatDoor.Js

theorem goodB (l : List Mb) (h : (List.range l.length).all (fun i => match l[i]? with | some m => !hasN (l.take i) m.nm && rt m | none => true) = true) : good l := by
  intro i hi
  have := List.all_eq_true.1 h i (List.mem_range.2 hi)
  rw [List.getElem?_eq_getElem hi] at this
  simpa using this
/-- the three members of the example -/
def k3 : List Mb := [⟨[97, 99, 116, 105, 118, 101], 2, [], 0, true⟩, ⟨[110], 1, [], -5, false⟩, ⟨[115], 0, [97, 34], 0, false⟩]
def k3t : By := [123, 34, 97, 99, 116, 105, 118, 101, 34, 58, 116, 114, 117, 101, 44, 34, 110, 34, 58, 45, 53, 44, 34, 115, 34, 58, 34, 97, 92, 34, 34, 125]
theorem pr_k3 : pr k3 = (k3t, 0) := by
  unfold pr
  rw [if_neg (by decide), if_pos (goodB _ (by decide)), show txt k3 ++ [125] = k3t from by decide +kernel, if_pos (by decide +kernel)]
def k1 : List Mb := [⟨[97], 1, [], 7, false⟩]
def k1t : By := [123, 34, 97, 34, 58, 55, 125]
theorem pr_k1 : pr k1 = (k1t, 0) := by
  unfold pr
  rw [if_neg (by decide), if_pos (goodB _ (by decide)), show txt k1 ++ [125] = k1t from by decide +kernel, if_pos (by decide +kernel)]
theorem parse_k1 : parse k1t = (k1, 0) := parse_pr pr_k1 (fun m hm => by simp [k1] at hm; subst hm; decide)
theorem pr_err {l : List Mb} (h : (pr l).2 ≠ 0) : (pr l).1 = [] := by
  unfold pr at h ⊢
  by_cases h1 : l.length > 64
  · rw [if_pos h1]
  · rw [if_neg h1] at h ⊢
    by_cases h2 : good l
    · rw [if_pos h2] at h ⊢
      by_cases h3 : (txt l).length < 16384
      · rw [if_pos h3] at h; exact absurd rfl h
      · rw [if_neg h3]
    · rw [if_neg h2]
theorem parse_bad {s : By} (h : (parse s).2 ≠ 0) : (parse s).1 = [] := by
  rcases parse_err s with h1 | ⟨h1, _⟩ | ⟨h1, _⟩
  · exact absurd h1 h
  · rw [h1]
  · rw [h1]
/-- two texts that are parsed to the same members are one text -/
theorem parse_inj {s t : By} {l : List Mb} (h : parse s = (l, 0)) (k : parse t = (l, 0)) : s = t := by
  have h1 := (pr_parse h).1
  have h2 := (pr_parse k).1
  rw [h1] at h2
  exact congrArg Prod.fst h2
end Go.Proofs.YtffllacphfapnaaGreatDoor.Js
