/-
  Chapter 15: Ids.
-/
import Derived.Test.YtonbpekogfaibaaGreatOn
import Derived.Maps.RangeWalk
import Derived.Sort.KeysCollected
import Derived.Sort.OwnSorted
import Derived.OwnWalk
namespace Go.Proofs.YtonbpekogfaibaaGreat.Ro
open Go.RowKit Go.Maps Go.Sort
set_option linter.unusedVariables false
set_option linter.unusedSimpArgs false

/-- a value behind a name -/
structure VX where
  v : Value
def vx (c : VX) : Value := c.v
theorem invV (v : Value) (y : DataW Value × List MemPlace) (hv : hR v = some y) : ∃ c, v = vx c := ⟨⟨v⟩, rfl⟩
/-- all clients' Ids, rising -/
def idsOf (cs : List Cl) : List By := (cs.map Cl.id).mergeSort fun x y => decide (x ≤ y)
theorem find_mem {cs : List Cl} {x : By} : x ∈ cs.map Cl.id ↔ (find cs x).isSome = true := by
  unfold find
  rw [List.find?_isSome, List.mem_map]
  simp
theorem sorted_le (l : List By) : (l.mergeSort fun x y => decide (x ≤ y)).Pairwise (fun x y => x ≤ y) := by
  have := List.pairwise_mergeSort (le := fun x y : By => decide (x ≤ y)) (fun a b c h1 h2 => by simp only [decide_eq_true_eq] at *; exact List.le_trans h1 h2) (fun a b => by
    rcases List.le_total a b with h | h
    · simp [h]
    · simp [h]) l
  exact this.imp (fun h => by simpa using h)
theorem collected_ids {D : DataW Value} {left : Lit → Bool} {ss : List By} {cs : List Cl} (ha : (cs.map Cl.id).Nodup) (hC : Collected D left ss) (hl : ∀ kl, left kl = false) (hD : ∀ x, has D (.string x) = (find cs x).isSome) :
    (ss.mergeSort fun x y => decide (x ≤ y)) = idsOf cs := by
  have hp : ((ss.mergeSort fun x y => decide (x ≤ y))).Perm ss := List.mergeSort_perm ..
  have hq : (idsOf cs).Perm (cs.map Cl.id) := List.mergeSort_perm ..
  have h1 := sorted_le ss
  have h2 : (idsOf cs).Pairwise (fun x y => x ≤ y) := sorted_le _
  have nd1 : (ss.mergeSort fun x y => decide (x ≤ y)).Nodup := hp.nodup_iff.2 hC.1
  have nd2 : (idsOf cs).Nodup := hq.nodup_iff.2 ha
  refine List.Perm.eq_of_pairwise (le := fun x y : By => x ≤ y) (fun a b _ _ h1 h2 => List.le_antisymm h1 h2) h1 h2 ((List.perm_ext_iff_of_nodup nd1 nd2).2 fun x => ?_)
  rw [List.mem_mergeSort, hC.2 x, hl, hD x, hq.mem_iff, find_mem]
  simp
end Go.Proofs.YtonbpekogfaibaaGreat.Ro
