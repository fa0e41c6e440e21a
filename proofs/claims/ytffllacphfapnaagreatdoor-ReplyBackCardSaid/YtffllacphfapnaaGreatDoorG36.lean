/-
  Chapter 20: the walks of ReplyFails and ReplyClasses. Conditions: the listed variables lie as the program's text lays them.
-/
import Derived.Test.YtffllacphfapnaaGreatDoorG33
namespace Go.Proofs.YtffllacphfapnaaGreatDoor
open Go.RowKit Js Rp

theorem rk3 {W w : World} {g B : Nat} {s : Int} {b : By} (h : Blk W g 23 (rc s b)) (hB : Below B w W) : W.cell? ⟨g, 0, none⟩ = some (.int .i64 s) ∧ W.cell? ⟨g, 1, none⟩ = some (.string ⟨b.toArray⟩) ∧ Blk W g 23 (rc s b) ∧ Below B w W := rk_here h hB
set_option maxRecDepth 20000 in
set_option maxHeartbeats 2000000 in
theorem known_any (B : Nat) (w : World) (hB : B ≤ w.heap.size) (hL : Hid (LaidB B w)) : Calls Tryz.prog 8 #[] w fun e w' => e = .returned (.bool true) ∧ Below w.heap.size w w' := by
  have HB := Lib.hid hB
  have hf : ∀ W, B ≤ W.heap.size → LaidB B W → Calls Tryz.prog 6 #[.int .i64 3] W fun e w' => e = .returned (.agg #[.int .i64 400, .string ⟨(bd 3).toArray⟩]) ∧ Below W.heap.size W w' := fun W h1 h2 => fail_in 3 (by omega) (by omega) B W h1 (Lib.hid h2)
  have HF := Lib.hid hf
  have ho := Lib.hid (fun W h1 h2 => of_z B W h1 (Lib.hid h2))
  unfold zc za intro rv at ho
  have hse : ((⟨(bd 3).toArray⟩ : ByteArray).toList == (⟨#[123, 34, 101, 114, 114, 111, 114, 34, 58, 34, 105, 110, 118, 97, 108, 105, 100, 95, 103, 114, 97, 110, 116, 34, 125]⟩ : ByteArray).toList) = true := str_eq rfl
  have hsf : ((⟨abt.toArray⟩ : ByteArray).toList == (⟨#[123, 34, 97, 99, 116, 105, 118, 101, 34, 58, 102, 97, 108, 115, 101, 125]⟩ : ByteArray).toList) = true := str_eq rfl
  have HS := Lib.hid (And.intro hse hsf)
  clear hB hf hse hsf
  go_enter Tryz.func8, Tryz.ntmps8
  go_wp2_with fail
  refine (HF.out _ HB.out hL.out).mono ?_
  rintro e w1 ⟨rfl, hb1⟩
  have hx1 : Blk (w1.alloc (.cells #[.int .i64 400, .string ⟨(bd 3).toArray⟩] 23)) w1.heap.size 23 (rc 400 (bd 3)) := Blk.new w1 _ _
  have hb2 := hb1.alloc hb1.size (.cells #[.int .i64 400, .string ⟨(bd 3).toArray⟩] 23)
  clear hb1
  go_wp2_with fail
  refine (ho.out _ (Nat.le_trans HB.out hb2.size) (hL.out.on (hb2.mono HB.out))).mono ?_
  rintro e w3 ⟨rfl, hc3⟩
  have hb3 := below_step hb2 hc3
  have hx3 := (hx1.below hc3 hx1.lt).alloc (.cells #[.int .i64 200, .string ⟨abt.toArray⟩] 23)
  have hy3 : Blk (w3.alloc (.cells #[.int .i64 200, .string ⟨abt.toArray⟩] 23)) w3.heap.size 23 (rc 200 abt) := Blk.new w3 _ _
  have hb4 := hb3.alloc hb3.size (.cells #[.int .i64 200, .string ⟨abt.toArray⟩] 23)
  clear hc3 hb2 hx1 hb3
  have hc := Lib.hid (class_any 200 abt _ (Lib.hid ((hL.out.on (hb4.mono HB.out)).mono (Nat.le_trans HB.out hb4.size))))
  unfold rv ClR at hc
  rw [cl_ab] at hc
  go_wp2_with fail
  refine hc.out.mono ?_
  rintro e w5 ⟨rfl, hc5⟩
  have hb5 := below_step hb4 hc5
  have hx5 := hx3.below hc5 hx3.lt
  have hy5 := hy3.below hc5 hy3.lt
  have c0 := hx5.cell 0 rfl
  have c1 := hx5.cell 1 rfl
  have d0 := hy5.cell 0 rfl
  have d1 := hy5.cell 1 rfl
  have hse := HS.out.1
  have hsf := HS.out.2
  clear hc5 hb4 hx3 hy3 hx5 hy5 hc
  go_wp2
  go_ret
  exact ⟨rfl, hb5⟩

end Go.Proofs.YtffllacphfapnaaGreatDoor
