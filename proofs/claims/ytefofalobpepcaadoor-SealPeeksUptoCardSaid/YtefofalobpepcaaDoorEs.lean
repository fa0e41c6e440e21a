/-
  Chapter 16: the walk of SealPeeks, at texts of at most 1048576 bytes.
-/
import Derived.Test.YtefofalobpepcaaDoorEl
import Derived.Test.YtefofalobpepcaaDoorEr
namespace Go.Proofs.YtefofalobpepcaaDoor.Se
open Go.RowKit
set_option linter.unusedVariables false

theorem pkV_parts (s : By) : ∃ (kd : Int) (fam : By) (ser : Int) (k : Int), pkV s = .tuple #[.agg #[.int .i64 kd, .string ⟨fam.toArray⟩, .int .i64 ser], .int .i64 k] := ⟨_, _, _, _, rfl⟩
set_option maxRecDepth 20000 in
set_option maxHeartbeats 4000000 in
theorem sealPeeks_walk (s : By) (w : World) (hs : s.length ≤ 1048576) (hL : Hid (LaidS w.heap.size w)) :
    Calls Tryd.prog 4 #[.string ⟨s.toArray⟩] w fun e w' => e = .returned (.bool true) ∧ Below w.heap.size w w' := by
  obtain ⟨kd, fam, ser, k, hV⟩ := pkV_parts s
  have HP := Lib.hid (peek_any s w (by omega) hL)
  have HQ := Lib.hid (fun W => rpeek_any s W hs)
  rw [hV] at HP HQ
  clear hV
  go_enter Tryd.func4, Tryd.ntmps4
  go_wp2_with fail
  refine HP.out.mono ?_
  rintro e w1 ⟨rfl, hb1⟩
  have hU1 := Blk.new w1 24 [.int .i64 kd, .string ⟨fam.toArray⟩, .int .i64 ser]
  have hbA := hb1.alloc hb1.size (.cells #[.int .i64 kd, .string ⟨fam.toArray⟩, .int .i64 ser] 24)
  clear hb1
  go_wp2_with fail
  refine (HQ.out _).mono ?_
  rintro e w2 ⟨rfl, hb2⟩
  have hU2 := (hU1.below hb2 hU1.lt).alloc (.cells #[.int .i64 kd, .string ⟨fam.toArray⟩, .int .i64 ser] 24)
  have hV2 := Blk.new w2 24 [.int .i64 kd, .string ⟨fam.toArray⟩, .int .i64 ser]
  have hbB := (hbA.trans (hb2.mono hbA.size)).alloc (hbA.trans (hb2.mono hbA.size)).size (.cells #[.int .i64 kd, .string ⟨fam.toArray⟩, .int .i64 ser] 24)
  clear hU1 hbA hb2
  go_wp2_with fail
  refine (known_any w.heap.size _ hbB.size (Lib.hid (hL.out.on hbB))).mono ?_
  rintro e w3 ⟨rfl, hb3⟩
  have hU3 := hU2.below hb3 hU2.lt
  have hV3 := hV2.below hb3 hV2.lt
  have hbC := hbB.trans (hb3.mono hbB.size)
  have c0 := hU3.cell 0 rfl
  have c1 := hU3.cell 1 rfl
  have c2 := hU3.cell 2 rfl
  have d0 := hV3.cell 0 rfl
  have d1 := hV3.cell 1 rfl
  have d2 := hV3.cell 2 rfl
  have heq := eql_self kd fam ser
  have hgd := guard_tk
  clear hU2 hV2 hbB hb3 hU3 hV3
  go_wp2_with fail
  go_ret
  exact ⟨rfl, hbC⟩
end Go.Proofs.YtefofalobpepcaaDoor.Se
