/-
  Chapter 20: the walks of ReplyFails and ReplyClasses. Conditions: the listed variables lie as the program's text lays them.
-/
import Derived.Test.YtffllacphfapnaaGreatDoorY5
namespace Go.Proofs.YtffllacphfapnaaGreatDoor
open Go.RowKit Js Rp

theorem rk3 {W w : World} {g B : Nat} {s : Int} {b : By} (h : Blk W g 23 (rc s b)) (hB : Below B w W) : W.cell? ⟨g, 0, none⟩ = some (.int .i64 s) ∧ W.cell? ⟨g, 1, none⟩ = some (.string ⟨b.toArray⟩) ∧ Blk W g 23 (rc s b) ∧ Below B w W := rk_here h hB
set_option maxRecDepth 20000 in
set_option maxHeartbeats 2000000 in
theorem known_any (B : Nat) (w : World) (hB : B ≤ w.heap.size) (hL : Hid (LaidB B w)) : Calls Tryz.prog 8 #[] w fun e w' => e = .returned (.bool true) ∧ Below w.heap.size w w' := by
  have HB := Lib.hid hB
  have hf : ∀ W, B ≤ W.heap.size → LaidB B W → Calls Tryz.prog 6 #[.int .i64 3] W fun e w' => e = .returned (.agg #[.int .i64 400, .string ⟨(bd 3).toArray⟩]) ∧ Below W.heap.size W w' := fun W h1 h2 => fail_in 3 (by omega) (by omega) B W h1 (Lib.hid h2)
  have HF := Lib.hid hf
  have ho := Lib.hid (fun W h1 h2 => of_z B W h1 (Lib.hid h2))
  unfold zc za intro rv at ho
  have hse : ((⟨(bd 3).toArray⟩ : ByteArray).toList == (⟨#[123, 34, 101, 114, 114, 111, 114, 34, 58, 34, 105, 110, 118, 97, 108, 105, 100, 95, 103, 114, 97, 110, 116, 34, 125]⟩ : ByteArray).toList) = true := str_eq rfl
  have hsf : ((⟨abt.toArray⟩ : ByteArray).toList == (⟨#[123, 34, 97, 99, 116, 105, 118, 101, 34, 58, 102, 97, 108, 115, 101, 125]⟩ : ByteArray).toList) = true := str_eq rfl
  have HS := Lib.hid (And.intro hse hsf)
  clear hB hf hse hsf
  go_enter Tryz.func8, Tryz.ntmps8
  go_wp2_with fail
  refine (HF.out _ HB.out hL.out).mono ?_
  rintro e w1 ⟨rfl, hb1⟩
  have hx1 : Blk (w1.alloc (.cells #[.int .i64 400, .string ⟨(bd 3).toArray⟩] 23)) w1.heap.size 23 (rc 400 (bd 3)) := Blk.new w1 _ _
  have hb2 := hb1.alloc hb1.size (.cells #[.int .i64 400, .string ⟨(bd 3).toArray⟩] 23)
  clear hb1
  go_wp2_with fail
  refine (ho.out _ (Nat.le_trans HB.out hb2.size) (hL.out.on (hb2.mono HB.out))).mono ?_
  rintro e w3 ⟨rfl, hc3⟩
  have hb3 := below_step hb2 hc3
  have hx3 := (hx1.below hc3 hx1.lt).alloc (.cells #[.int .i64 200, .string ⟨abt.toArray⟩] 23)
  have hy3 : Blk (w3.alloc (.cells #[.int .i64 200, .string ⟨abt.toArray⟩] 23)) w3.heap.size 23 (rc 200 abt) := Blk.new w3 _ _
  have hb4 := hb3.alloc hb3.size (.cells #[.int .i64 200, .string ⟨abt.toArray⟩] 23)
  clear hc3 hb2 hx1 hb3
  have hc := Lib.hid (class_any 200 abt _ (Lib.hid ((hL.out.on (hb4.mono HB.out)).mono (Nat.le_trans HB.out hb4.size))))
  unfold rv ClR at hc
  rw [cl_ab] at hc
  go_wp2_with fail
  refine hc.out.mono ?_
  rintro e w5 ⟨rfl, hc5⟩
  have hb5 := below_step hb4 hc5
  have hx5 := hx3.below hc5 hx3.lt
  have hy5 := hy3.below hc5 hy3.lt
  have c0 := hx5.cell 0 rfl
  have c1 := hx5.cell 1 rfl
  have d0 := hy5.cell 0 rfl
  have d1 := hy5.cell 1 rfl
  have hse := HS.out.1
  have hsf := HS.out.2
  clear hc5 hb4 hx3 hy3 hx5 hy5 hc
  go_wp2
  go_ret
  exact ⟨rfl, hb5⟩

set_option maxRecDepth 20000 in
set_option maxHeartbeats 2000000 in
theorem classes_walk (s : Int) (b : By) (w : World) (hL : Hid (LaidB w.heap.size w)) : Calls Tryz.prog 4 #[rv s b] w fun e w' => e = .returned (.bool true) ∧ Below w.heap.size w w' := by
  have hz : Blk (w.alloc (.cells #[.int .i64 s, .string ⟨b.toArray⟩] 23)) w.heap.size 23 (rc s b) := Blk.new w _ (rc s b)
  have hb0 : Below w.heap.size w (w.alloc (.cells #[.int .i64 s, .string ⟨b.toArray⟩] 23)) := (Below.refl _ _).alloc (Nat.le_refl _) _
  have h1 := Lib.hid (fun W h => class_any s b W (Lib.hid h))
  have h2 := Lib.hid (fun W h => rclass_any s b W (Lib.hid h))
  unfold ClR rv at h1 h2
  obtain ⟨x, hx⟩ : ∃ x, x = (cl s b 1 8).1 := ⟨_, rfl⟩
  obtain ⟨t, ht⟩ : ∃ t, t = (cl s b 1 8).2 := ⟨_, rfl⟩
  rw [← hx, ← ht] at h1 h2
  clear hx ht
  unfold rv
  go_enter Tryz.func4, Tryz.ntmps4
  go_wp2_with fail
  refine (h1.out _ ((hL.out.on hb0).mono hb0.size)).mono ?_
  rintro e w1 ⟨rfl, hc1⟩
  have hb1 := below_step hb0 hc1
  have hz1 := hz.below hc1 hz.lt
  have c0 := hz1.cell 0 rfl
  have c1 := hz1.cell 1 rfl
  clear hc1 hb0 hz
  go_wp2_with fail
  refine (h2.out _ ((hL.out.on hb1).mono hb1.size)).mono ?_
  rintro e w2 ⟨rfl, hc2⟩
  have hb2 := below_step hb1 hc2
  clear hc2 hb1 hz1 c0 c1
  go_wp2_with fail
  refine (known_any w.heap.size _ hb2.size (Lib.hid (hL.out.on hb2))).mono ?_
  rintro e w3 ⟨rfl, hc3⟩
  have hb3 := below_step hb2 hc3
  clear hc3 hb2
  go_wp2
  go_ret
  exact ⟨rfl, hb3⟩

set_option maxRecDepth 20000 in
set_option maxHeartbeats 4000000 in
theorem fails_in (u : Nat) (h1 : 1 ≤ u) (h8 : u ≤ 8) (w : World) (hL : Hid (LaidB w.heap.size w)) : Calls Tryz.prog 3 #[.int .i64 (u : Int)] w fun e w' => e = .returned (.bool true) ∧ Below w.heap.size w w' := by
  have hF := Lib.hid (fun (W : World) (k1 : w.heap.size ≤ W.heap.size) (k2 : LaidB w.heap.size W) => fail_in u h1 h8 w.heap.size W k1 (Lib.hid k2))
  have hR := Lib.hid (fun (W : World) (k1 : w.heap.size ≤ W.heap.size) (k2 : LaidB w.heap.size W) => rfail_in u h1 h8 w.heap.size W k1 (Lib.hid k2))
  have hN := Lib.hid (fun W => name_in u h1 h8 W)
  have hM := Lib.hid (fun W => rname_in u h1 h8 W)
  have hC := Lib.hid (fun W h => class_any (st u) (bd u) W (Lib.hid h))
  unfold ClR rv at hC
  unfold rv at hF hR
  rw [cl_self u (by omega) (by omega)] at hC
  have hq := fun W => eql_rs (st u) (st u) (bd u) (bd u) W
  have hbb : (st u == st u && bd u == bd u) = true := by simp
  rw [hbb] at hq
  have g1 : ¬ (u : Int) < 1 := by omega
  have g2 : ¬ (8 : Int) < (u : Int) := by omega
  clear hbb
  generalize st u = s at hF hR hC hq
  generalize bd u = b at hF hR hC hq
  generalize nmOf u = nm at hN hM
  have hse : ((⟨nm.toArray⟩ : ByteArray).toList == (⟨nm.toArray⟩ : ByteArray).toList) = true := str_eq (beq_self_eq_true _)
  clear h1 h8
  go_enter Tryz.func3, Tryz.ntmps3
  go_wp2_with fail
  refine (hF.out _ (Nat.le_refl _) hL.out).mono ?_
  rintro e w1 ⟨rfl, hb1⟩
  have hx1 : Blk (w1.alloc (.cells #[.int .i64 s, .string ⟨b.toArray⟩] 23)) w1.heap.size 23 (rc s b) := Blk.new w1 _ (rc s b)
  have hb2 := hb1.alloc hb1.size (.cells #[.int .i64 s, .string ⟨b.toArray⟩] 23)
  have hs1 := hb1.size
  clear hb1
  go_wp2_with fail
  refine (hC.out _ ((hL.out.on hb2).mono hb2.size)).mono ?_
  rintro e w3 ⟨rfl, hc3⟩
  have hb3 := below_step hb2 hc3
  have hx3 := hx1.below hc3 hx1.lt
  clear hc3 hb2 hx1
  go_wp2_with fail
  go_region_held3 (fun W => W.cell? ⟨w1.heap.size, 0, none⟩ = some (.int .i64 s) ∧ W.cell? ⟨w1.heap.size, 1, none⟩ = some (.string ⟨b.toArray⟩) ∧ Blk W w1.heap.size 23 (rc s b) ∧ Below w.heap.size w W)
    (first | with_reducible exact rk3 hx3.drew hb3.drew | with_reducible exact rk3 hx3 hb3 | (go_split_ands; with_reducible exact rk3 (by assumption) (by assumption)))
    (first
      | (go_split_ands; go_at_call 8; refine (known_any w.heap.size _ (Below.size (by assumption)) (Lib.hid (hL.out.on (by assumption)))).mono ?_; rintro e w5 ⟨rfl, hc5⟩; have hx5 : Blk w5 w1.heap.size 23 (rc s b) := Blk.below (by assumption) hc5 (Blk.lt (by assumption)); have hb5 : Below w.heap.size w w5 := below_step (by assumption) hc5)
      | (go_split_ands; go_at_call 9; refine (hN.out _).mono ?_; rintro e w5 ⟨rfl, hc5⟩; have hx5 : Blk w5 w1.heap.size 23 (rc s b) := Blk.below (by assumption) hc5 (Blk.lt (by assumption)); have hb5 : Below w.heap.size w w5 := below_step (by assumption) hc5)
      | (go_split_ands; go_at_call 10; refine (hM.out _).mono ?_; rintro e w5 ⟨rfl, hc5⟩; have hx5 : Blk w5 w1.heap.size 23 (rc s b) := Blk.below (by assumption) hc5 (Blk.lt (by assumption)); have hb5 : Below w.heap.size w w5 := below_step (by assumption) hc5)
      | (go_split_ands; go_at_call 11; refine (hR.out _ (Below.size (by assumption)) (hL.out.on (by assumption))).mono ?_; rintro e w5 ⟨rfl, hc5⟩; have hx5 : Blk w5 w1.heap.size 23 (rc s b) := Blk.below (by assumption) hc5 (Blk.lt (by assumption)); have hb5 : Below w.heap.size w w5 := below_step (by assumption) hc5))
  all_goals
    go_split_ands
    go_wp2
    go_ret
    exact ⟨rfl, by assumption⟩

set_option maxRecDepth 20000 in
set_option maxHeartbeats 4000000 in
theorem fails_out (u : Int) (h : u < 1 ∨ 8 < u) (w : World) (hL : Hid (LaidB w.heap.size w)) : Calls Tryz.prog 3 #[.int .i64 u] w fun e w' => e = .returned (.bool true) ∧ Below w.heap.size w w' := by
  have hF := Lib.hid (fun (W : World) (k1 : w.heap.size ≤ W.heap.size) (k2 : LaidB w.heap.size W) => fail_out u h w.heap.size W k1 (Lib.hid k2))
  have hR := Lib.hid (fun (W : World) (k1 : w.heap.size ≤ W.heap.size) (k2 : LaidB w.heap.size W) => rfail_out u h w.heap.size W k1 (Lib.hid k2))
  have hN := Lib.hid (fun W => name_out u h W)
  have hM := Lib.hid (fun W => rname_out u h W)
  have hC := Lib.hid (fun W h => class_any (st 1) (bd 1) W (Lib.hid h))
  unfold ClR rv at hC
  unfold rv at hF hR
  rw [cl_self 1 (by omega) (by omega)] at hC
  have hq := fun W => eql_rs (st 1) (st 1) (bd 1) (bd 1) W
  have hbb : (st 1 == st 1 && bd 1 == bd 1) = true := by simp
  rw [hbb] at hq
  clear hbb
  generalize st 1 = s at hF hR hC hq
  generalize bd 1 = b at hF hR hC hq
  rcases h with h | h
  · have h := h
    go_enter Tryz.func3, Tryz.ntmps3
    go_wp2_with fail
    refine (hF.out _ (Nat.le_refl _) hL.out).mono ?_
    rintro e w1 ⟨rfl, hb1⟩
    have hx1 : Blk (w1.alloc (.cells #[.int .i64 s, .string ⟨b.toArray⟩] 23)) w1.heap.size 23 (rc s b) := Blk.new w1 _ (rc s b)
    have hb2 := hb1.alloc hb1.size (.cells #[.int .i64 s, .string ⟨b.toArray⟩] 23)
    have hs1 := hb1.size
    clear hb1
    go_wp2_with fail
    refine (hC.out _ ((hL.out.on hb2).mono hb2.size)).mono ?_
    rintro e w3 ⟨rfl, hc3⟩
    have hb3 := below_step hb2 hc3
    have hx3 := hx1.below hc3 hx1.lt
    clear hc3 hb2 hx1
    go_wp2_with fail
    go_region_held3 (fun W => W.cell? ⟨w1.heap.size, 0, none⟩ = some (.int .i64 s) ∧ W.cell? ⟨w1.heap.size, 1, none⟩ = some (.string ⟨b.toArray⟩) ∧ Blk W w1.heap.size 23 (rc s b) ∧ Below w.heap.size w W)
      (first | with_reducible exact rk3 hx3.drew hb3.drew | with_reducible exact rk3 hx3 hb3 | (go_split_ands; with_reducible exact rk3 (by assumption) (by assumption)))
      (first
        | (go_split_ands; go_at_call 8; refine (known_any w.heap.size _ (Below.size (by assumption)) (Lib.hid (hL.out.on (by assumption)))).mono ?_; rintro e w5 ⟨rfl, hc5⟩; have hx5 : Blk w5 w1.heap.size 23 (rc s b) := Blk.below (by assumption) hc5 (Blk.lt (by assumption)); have hb5 : Below w.heap.size w w5 := below_step (by assumption) hc5)
        | (go_split_ands; go_at_call 9; refine (hN.out _).mono ?_; rintro e w5 ⟨rfl, hc5⟩; have hx5 : Blk w5 w1.heap.size 23 (rc s b) := Blk.below (by assumption) hc5 (Blk.lt (by assumption)); have hb5 : Below w.heap.size w w5 := below_step (by assumption) hc5)
        | (go_split_ands; go_at_call 10; refine (hM.out _).mono ?_; rintro e w5 ⟨rfl, hc5⟩; have hx5 : Blk w5 w1.heap.size 23 (rc s b) := Blk.below (by assumption) hc5 (Blk.lt (by assumption)); have hb5 : Below w.heap.size w w5 := below_step (by assumption) hc5)
        | (go_split_ands; go_at_call 11; refine (hR.out _ (Below.size (by assumption)) (hL.out.on (by assumption))).mono ?_; rintro e w5 ⟨rfl, hc5⟩; have hx5 : Blk w5 w1.heap.size 23 (rc s b) := Blk.below (by assumption) hc5 (Blk.lt (by assumption)); have hb5 : Below w.heap.size w w5 := below_step (by assumption) hc5))
    all_goals
      go_split_ands
      go_wp2
      go_ret
      exact ⟨rfl, by assumption⟩
  · have g1 : ¬ u < 1 := by omega
    go_enter Tryz.func3, Tryz.ntmps3
    go_wp2_with fail
    refine (hF.out _ (Nat.le_refl _) hL.out).mono ?_
    rintro e w1 ⟨rfl, hb1⟩
    have hx1 : Blk (w1.alloc (.cells #[.int .i64 s, .string ⟨b.toArray⟩] 23)) w1.heap.size 23 (rc s b) := Blk.new w1 _ (rc s b)
    have hb2 := hb1.alloc hb1.size (.cells #[.int .i64 s, .string ⟨b.toArray⟩] 23)
    have hs1 := hb1.size
    clear hb1
    go_wp2_with fail
    refine (hC.out _ ((hL.out.on hb2).mono hb2.size)).mono ?_
    rintro e w3 ⟨rfl, hc3⟩
    have hb3 := below_step hb2 hc3
    have hx3 := hx1.below hc3 hx1.lt
    clear hc3 hb2 hx1
    go_wp2_with fail
    go_region_held3 (fun W => W.cell? ⟨w1.heap.size, 0, none⟩ = some (.int .i64 s) ∧ W.cell? ⟨w1.heap.size, 1, none⟩ = some (.string ⟨b.toArray⟩) ∧ Blk W w1.heap.size 23 (rc s b) ∧ Below w.heap.size w W)
      (first | with_reducible exact rk3 hx3.drew hb3.drew | with_reducible exact rk3 hx3 hb3 | (go_split_ands; with_reducible exact rk3 (by assumption) (by assumption)))
      (first
        | (go_split_ands; go_at_call 8; refine (known_any w.heap.size _ (Below.size (by assumption)) (Lib.hid (hL.out.on (by assumption)))).mono ?_; rintro e w5 ⟨rfl, hc5⟩; have hx5 : Blk w5 w1.heap.size 23 (rc s b) := Blk.below (by assumption) hc5 (Blk.lt (by assumption)); have hb5 : Below w.heap.size w w5 := below_step (by assumption) hc5)
        | (go_split_ands; go_at_call 9; refine (hN.out _).mono ?_; rintro e w5 ⟨rfl, hc5⟩; have hx5 : Blk w5 w1.heap.size 23 (rc s b) := Blk.below (by assumption) hc5 (Blk.lt (by assumption)); have hb5 : Below w.heap.size w w5 := below_step (by assumption) hc5)
        | (go_split_ands; go_at_call 10; refine (hM.out _).mono ?_; rintro e w5 ⟨rfl, hc5⟩; have hx5 : Blk w5 w1.heap.size 23 (rc s b) := Blk.below (by assumption) hc5 (Blk.lt (by assumption)); have hb5 : Below w.heap.size w w5 := below_step (by assumption) hc5)
        | (go_split_ands; go_at_call 11; refine (hR.out _ (Below.size (by assumption)) (hL.out.on (by assumption))).mono ?_; rintro e w5 ⟨rfl, hc5⟩; have hx5 : Blk w5 w1.heap.size 23 (rc s b) := Blk.below (by assumption) hc5 (Blk.lt (by assumption)); have hb5 : Below w.heap.size w w5 := below_step (by assumption) hc5))
    all_goals
      go_split_ands
      go_wp2
      go_ret
      exact ⟨rfl, by assumption⟩

theorem replyFails_walk (u : Int) (w : World) (hL : Hid (LaidB w.heap.size w)) : Calls Tryz.prog 3 #[.int .i64 u] w fun e w' => e = .returned (.bool true) ∧ Below w.heap.size w w' := by
  by_cases h : u < 1 ∨ 8 < u
  · exact fails_out u h w hL
  · obtain ⟨k, rfl⟩ : ∃ k : Nat, u = (k : Int) := ⟨u.toNat, by omega⟩
    exact fails_in k (by omega) (by omega) w hL
end Go.Proofs.YtffllacphfapnaaGreatDoor
