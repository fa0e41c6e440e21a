/-
  Chapter 10: PlateNil's walk. Condition: none.
-/
import Derived.Test.YtclaahailnpdoaaBk
namespace Go.Proofs.Ytclaahailnpdoaa.Pt
open Go.RowKit Go.Maps
set_option linter.unusedVariables false
set_option linter.unusedSimpArgs false

set_option maxRecDepth 20000 in
set_option maxHeartbeats 2000000 in
theorem _root_.Go.Proofs.Ytclaahailnpdoaa.plateNil_walk (k : Int) (x : By) (vb vk : Value) (n : Int) (w : World) :
    Calls Try.prog 8 #[.agg #[.int .i64 k, .string ⟨x.toArray⟩, vb, .int .i64 n, vk]] w fun e w' => e = .returned (.bool true) ∧ Below w.heap.size w w' := by
  go_enter Try.func8, Try.ntmps8
  go_wp2_with fail
  generalize hWA : w.alloc (.cells #[.int .i64 k, .string ⟨x.toArray⟩, vb, .int .i64 n, vk] 36) = WA
  have hbk : Blk WA w.heap.size 36 [.int .i64 k, .string ⟨x.toArray⟩, vb, .int .i64 n, vk] := by rw [← hWA]; exact Blk.new w 36 [.int .i64 k, .string ⟨x.toArray⟩, vb, .int .i64 n, vk]
  have hbl : Below w.heap.size w WA := by rw [← hWA]; exact (Below.refl _ _).alloc (Nat.le_refl _) _
  clear hWA
  have HB := Lib.hid (And.intro hbk hbl)
  have c1 := hbk.cell 1 rfl
  have c2 := hbk.cell 2 rfl
  have c3 := hbk.cell 3 rfl
  have c4 := hbk.cell 4 rfl
  clear hbk hbl
  refine (arm_nil n _).mono ?_
  rintro e w' ⟨rfl, hw⟩
  obtain rfl := hw.symm
  go_wp2_with fail
  refine (crash_nil vk _).mono ?_
  rintro e w' ⟨rfl, hw⟩
  obtain rfl := hw.symm
  go_wp2_with fail
  refine (read_nil x _).mono ?_
  rintro e w' ⟨rfl, hw⟩
  obtain rfl := hw.symm
  go_wp2_with fail
  refine (known_any WA).mono ?_
  rintro e W2 ⟨rfl, hb2⟩
  have hbk := HB.out.1.below hb2 HB.out.1.lt
  have HB2 := Lib.hid (And.intro hbk (HB.out.2.trans (hb2.mono HB.out.2.size)))
  clear c1 c2 c3 c4 HB hb2
  have c1 := hbk.cell 1 rfl
  have c2 := hbk.cell 2 rfl
  have c3 := hbk.cell 3 rfl
  clear hbk
  go_wp2_with fail
  refine (append_nil x vb _).mono ?_
  rintro e w' ⟨rfl, hw⟩
  obtain rfl := hw.symm
  go_wp2_with fail
  refine (sync_nil x _).mono ?_
  rintro e w' ⟨rfl, hw⟩
  obtain rfl := hw.symm
  go_wp2_with fail
  refine (cut_nil x n _).mono ?_
  rintro e w' ⟨rfl, hw⟩
  obtain rfl := hw.symm
  go_wp2_with fail
  refine (names_nil _).mono ?_
  rintro e w' ⟨rfl, hw⟩
  obtain rfl := hw.symm
  go_wp2_with fail
  refine (used_nil _).mono ?_
  rintro e w' ⟨rfl, hw⟩
  obtain rfl := hw.symm
  go_wp2_with fail
  refine (synced_nil x _).mono ?_
  rintro e w' ⟨rfl, hw⟩
  obtain rfl := hw.symm
  go_wp2_with fail
  refine (down_nil _).mono ?_
  rintro e w' ⟨rfl, hw⟩
  obtain rfl := hw.symm
  go_wp2_with fail
  refine (copy_nil _).mono ?_
  rintro e w' ⟨rfl, hw⟩
  obtain rfl := hw.symm
  go_wp2_with fail
  go_ret
  exact ⟨rfl, HB2.out.2⟩
end Go.Proofs.Ytclaahailnpdoaa.Pt
