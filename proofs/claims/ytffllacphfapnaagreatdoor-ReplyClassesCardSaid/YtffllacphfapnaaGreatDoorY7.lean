/-
  Chapter 20: what the rows' listed variables give the walks.
-/
import Derived.Test.YtffllacphfapnaaGreatDoorJu
import Derived.Test.YtffllacphfapnaaGreatDoorRows
import Derived.Stop.LaidErr
import Derived.LaidByTextLater
namespace Go.Proofs.YtffllacphfapnaaGreatDoor
open Go.RowKit Js

theorem star_is : "*" ++ "errors.errorString" = "*errors.errorString" := by decide
theorem err_row (u : TypeId) (h : Tryz.prog.typeName? 3 u = some "*errors.errorString") : u = 208 :=
  typeName_ptr_named (nm := "errors.errorString") (by rw [star_is]; kernel_rfl) (by kernel_rfl) (by decide) u (by rw [star_is]; exact h)
theorem laid_here {W : World} (h : laidMetH Tryz.prog Rows.replyFailsRow.laid W) : LaidB W.heap.size W := by
  rw [MakeChecks.laidMetH_plain _ _ _ (by kernel_rfl)] at h
  have h3 := laidMet.tail (laidMet.tail h)
  have h4 := laidMet.tail h3
  have h5 := laidMet.tail h4
  have h1 : Lib.TabIs Tryz.prog W "internal/strconv.uint64pow10" .u64 Lib.pow10Tab := Lib.tabIs_of_head (t := 191) (e := 132) (n := 20) (g := 3) (by kernel_rfl) (by kernel_rfl) (by kernel_rfl) (by kernel_rfl) (by kernel_rfl) (by kernel_rfl) h3
  obtain ⟨a, s, hr, _⟩ := laid_sentinel (g := 2) (ti := 100) (tp := 208) (te := 210) (ts := 9) h4 (by kernel_rfl) (by kernel_rfl) Tryz.underlying100 err_row (by kernel_rfl) Tryz.underlying210 rfl rfl (by kernel_rfl) (by kernel_rfl) (by kernel_rfl)
  obtain ⟨a2, s2, hs, _⟩ := laid_sentinel (g := 1) (ti := 100) (tp := 208) (te := 210) (ts := 9) h5 (by kernel_rfl) (by kernel_rfl) Tryz.underlying100 err_row (by kernel_rfl) Tryz.underlying210 rfl rfl (by kernel_rfl) (by kernel_rfl) (by kernel_rfl)
  exact LaidB.start h1 ⟨_, _, hs⟩ ⟨_, _, hr⟩
end Go.Proofs.YtffllacphfapnaaGreatDoor
