/-
  Chapter 16: seal.part: what stands ahead of the next point, or the panic.
-/
import Derived.Test.YtefofalobpepcaaDoorEe
namespace Go.Proofs.YtefofalobpepcaaDoor.Se
open Go.RowKit
set_option linter.unusedVariables false

set_option maxRecDepth 20000 in
set_option maxHeartbeats 2000000 in
theorem part_ok (b : Nat) (s k r : By) (w : World) (hc : Blk w b 9 [.string ⟨s.toArray⟩]) (hs : s.length ≤ 140737488355328) (h : cut s = some (k, r)) :
    Calls Tryd.prog 26 #[.pointer (some ⟨b, 0, none⟩)] w fun e w' => e = .returned (.string ⟨k.toArray⟩) ∧ Blk w' b 9 [.string ⟨r.toArray⟩] ∧ w.grownBy w' (some b) := by
  have hh : Cut.has s 46 = true ∧ Cut.before s 46 = k ∧ Cut.after s 46 = r := by
    unfold cut at h
    split at h
    · rename_i h1; cases h; exact ⟨h1, rfl, rfl⟩
    · cases h
  have hz : (⟨s.toArray⟩ : ByteArray).size ≤ 140737488355328 := by rw [st_size]; exact hs
  have HC := Lib.hid (cut_one ⟨s.toArray⟩ 46 hz)
  have hcell := hc.cell 0 rfl
  have hfr := hc.frozen 0
  clear h
  go_enter Tryd.func26, Tryd.ntmps26
  go_wp2_with fail
  refine (HC.out w).mono ?_
  rintro e w1 ⟨rfl, n, rfl⟩
  unfold cutV
  rw [hh.1, hh.2.1, hh.2.2]
  have hcN : Blk (w.drewN n) b 9 [.string ⟨s.toArray⟩] := hc.drewN n
  have hgN : w.grownBy (w.drewN n) (some b) := ⟨rfl, rfl, rfl, Nat.le_refl _, fun _ _ _ => rfl⟩
  generalize w.drewN n = w2 at hcN hgN ⊢
  have hcell2 := hcN.cell 0 rfl
  have hfr2 := hcN.frozen 0
  clear hcell hfr hh
  go_wp2_with fail
  go_ret
  exact ⟨rfl, hcN.set 0 _, gr_set hgN 0 _⟩
/-- seal's own panic -/
def spoilP : List PanicEntry := [{ v := .iface 51 (.agg #[]), recovered := false }]
set_option maxRecDepth 20000 in
set_option maxHeartbeats 2000000 in
theorem part_no (b : Nat) (s : By) (w : World) (hc : Blk w b 9 [.string ⟨s.toArray⟩]) (hs : s.length ≤ 140737488355328) (h : cut s = none) :
    Calls Tryd.prog 26 #[.pointer (some ⟨b, 0, none⟩)] w fun e w' => e = .panicked spoilP ∧ w.grownBy w' (some b) := by
  have hh : Cut.has s 46 = false := by
    unfold cut at h
    split at h
    · cases h
    · rename_i h1; simpa [Cut.has] using h1
  have hz : (⟨s.toArray⟩ : ByteArray).size ≤ 140737488355328 := by rw [st_size]; exact hs
  have HC := Lib.hid (cut_one ⟨s.toArray⟩ 46 hz)
  have hcell := hc.cell 0 rfl
  clear h
  go_enter Tryd.func26, Tryd.ntmps26
  go_wp2_with fail
  refine (HC.out w).mono ?_
  rintro e w1 ⟨rfl, n, rfl⟩
  unfold cutV
  rw [hh]
  have hgN : w.grownBy (w.drewN n) (some b) := ⟨rfl, rfl, rfl, Nat.le_refl _, fun _ _ _ => rfl⟩
  generalize w.drewN n = w2 at hgN ⊢
  clear hcell hh
  go_wp2_with fail
  exact ⟨rfl, rfl, hgN⟩
end Go.Proofs.YtefofalobpepcaaDoor.Se
