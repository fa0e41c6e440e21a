/-
  Chapter 5: the reader's member, walked. Conditions: the text is of at most 100000 bytes; the three listed variables lie as the program's text lays them.
  (Texts put together: Jw Jy.)
-/
import Derived.Test.YtffllacphfapnaaGreatDoorG31
namespace Go.Proofs.YtffllacphfapnaaGreatDoor
open Go.RowKit Js

set_option maxRecDepth 20000 in
set_option maxHeartbeats 4000000 in
theorem member_any (B b : Nat) (s : By) (w : World) (h : RB b w s) (hl : s.length ≤ 100000) (hBb : B ≤ b) (hB : B ≤ w.heap.size) (hL : Hid (LaidB B w)) :
    Calls Tryz.prog 32 #[.pointer (some ⟨b, 0, none⟩)] w (MbR s b w) := by
  have hlt := h.lt
  have hg0 : w.grownBy (w.alloc (.cells (mc zm).toArray 50)) (some b) := g_below ((Below.refl _ _).alloc (Nat.le_refl _) _)
  have hz0 : Blk (w.alloc (.cells (mc zm).toArray 50)) w.heap.size 50 (mc zm) := Blk.new w _ (mc zm)
  have hr0 : RB b (w.alloc (.cells (mc zm).toArray 50)) s := h.alloc _
  clear h
  have HLS := Lib.hid hl
  have HBB := Lib.hid hBb
  have HBW := Lib.hid hB
  have HLT := Lib.hid hlt
  have hsz0 : w.heap.size < (w.alloc (.cells (mc zm).toArray 50)).heap.size := by simp
  clear hl hBb hB
  cases hq : strQ s with
  | none =>
    have HM := Lib.hid (show mem s = none by unfold mem; rw [hq]; rfl)
    go_enter Tryz.func32, Tryz.ntmps32
    go_wp2_with fail
    refine (str_bad b s _ hr0 HLS.out hq).mono ?_
    rintro e w1 ⟨rfl, hg1⟩
    have hgg := g_trans hg0 hg1
    go_wp2
    exact ⟨rfl, MbR.bad HM.out hgg⟩
  | some q =>
  obtain ⟨nm, s1⟩ := q
  have hmem : mem s = (tak [58] s1).bind (val nm) := by unfold mem; rw [hq]; rfl
  have hls1 : s1.length ≤ 100000 := by have := strQ_inv hq; have h2 := HLS.out; rw [this, List.length_append] at h2; omega
  have HM := Lib.hid hmem
  have HL1 := Lib.hid hls1
  clear hmem hls1
  go_enter Tryz.func32, Tryz.ntmps32
  go_wp2_with fail
  refine (str_ok b s nm s1 _ hr0 HLS.out hq).mono ?_
  rintro e w1 ⟨rfl, hr1, hg1⟩
  have hz1 := hz0.grown hg1 (fun r hr e => by cases hr; omega)
  have hgg1 := g_trans hg0 hg1
  have hsz1 := Nat.lt_of_lt_of_le hsz0 hg1.size
  clear hr0 hz0 hg0 hg1 hsz0 hq
  cases ht : tak [58] s1 with
  | none =>
    have HM2 : Hid (mem s = none) := Lib.hid (by rw [HM.out, ht]; rfl)
    go_wp2_with fail
    refine (takeX b s1 [58] _ hr1 ht).mono ?_
    rintro e w2 ⟨rfl, hg2⟩
    have hgg := g_trans hgg1 hg2
    go_wp2
    exact ⟨rfl, MbR.bad HM2.out hgg⟩
  | some s2 =>
  have HM2 : Hid (mem s = val nm s2) := Lib.hid (by rw [HM.out, ht]; rfl)
  have HL2 : Hid (s2.length ≤ 100000) := Lib.hid (by have h := tak_some ht; have h2 := HL1.out; rw [h] at h2; simp at h2; omega)
  go_wp2_with fail
  refine (take2 b s1 [58] s2 _ hr1 ht).mono ?_
  rintro e w2 ⟨rfl, hr2, hg2⟩
  have hz2 := hz1.grown hg2 (fun r hr e => by cases hr; omega)
  have hgg2 := g_trans hgg1 hg2
  have hsz2 := Nat.lt_of_lt_of_le hsz1 hg2.size
  clear hr1 hz1 hgg1 hg2 hsz1 ht HM
  have c2 := hr2.cell 0 rfl
  by_cases h34 : s2.head? = some 34
  · -- a text
    have hv : val nm s2 = (strQ s2).map fun p => (⟨nm, 0, p.1, 0, false⟩, p.2) := by unfold val; rw [if_pos h34]
    have HV := Lib.hid (HM2.out.trans hv)
    have hb34 : (s2.head? == some 34) = true := by rw [h34]; rfl
    clear hv h34
    go_wp2_with fail
    refine (has_any s2 34 true _ hb34).mono ?_
    rintro e w5 ⟨rfl, rfl⟩
    clear hb34
    cases hq2 : strQ s2 with
    | none =>
      have HX : Hid (mem s = none) := Lib.hid (by rw [HV.out, hq2]; rfl)
      go_wp2_with fail
      refine (str_bad b s2 _ hr2 HL2.out hq2).mono ?_
      rintro e w6 ⟨rfl, hg6⟩
      have hgg := g_trans hgg2 hg6
      go_wp2
      exact ⟨rfl, MbR.bad HX.out hgg⟩
    | some q =>
      obtain ⟨tx, r⟩ := q
      have HX : Hid (mem s = some (⟨nm, 0, tx, 0, false⟩, r)) := Lib.hid (by rw [HV.out, hq2]; rfl)
      go_wp2_with fail
      refine (str_ok b s2 tx r _ hr2 HL2.out hq2).mono ?_
      rintro e w6 ⟨rfl, hr6, hg6⟩
      have hz6 := hz2.grown hg6 (fun r hr e => by cases hr; omega)
      have hgg6 := g_trans hgg2 hg6
      clear hr2 hz2 hgg2 hg6 c2 hq2
      go_wp2_with fail
      refine (text_any nm tx _).mono ?_
      rintro e w7 ⟨rfl, hb7⟩
      have hz7 := hz6.below hb7 hz6.lt
      have hr7 := Blk.below hr6 hb7 hr6.lt
      have hgg7 := g_trans hgg6 (g_below (b := b) hb7)
      have z0 := hz7.cell 0 rfl
      have z1 := hz7.cell 1 rfl
      have z2 := hz7.cell 2 rfl
      have z3 := hz7.cell 3 rfl
      have z4 := hz7.cell 4 rfl
      have f0 := hz7.frozen 0
      have f1 := hz7.frozen 1
      have f2 := hz7.frozen 2
      have f3 := hz7.frozen 3
      have f4 := hz7.frozen 4
      unfold mv
      go_wp2
      try simp only [Exit.inBlock, Exit.then]
      refine ret_cell rfl rfl rfl (Blk.setM (x := ⟨nm, 0, tx, 0, false⟩) hz7) ?_
      exact MbR.ok HX.out (g_setM (x := ⟨nm, 0, tx, 0, false⟩) hgg7 (Nat.le_refl _)) (rb_setM (x := ⟨nm, 0, tx, 0, false⟩) hr7 (by omega))
  have hb34 : (s2.head? == some 34) = false := by rw [beq_eq_false_iff_ne]; exact h34
  go_wp2_with fail
  refine (has_any s2 34 false _ hb34).mono ?_
  rintro e w5 ⟨rfl, rfl⟩
  clear hb34
  by_cases h116 : s2.head? = some 116
  · have hv : val nm s2 = (tak (bt true) s2).map fun r => (⟨nm, 2, [], 0, true⟩, r) := by unfold val; rw [if_neg h34, if_pos h116]
    have HV := Lib.hid (HM2.out.trans hv)
    have hb116 : (s2.head? == some 116) = true := by rw [h116]; rfl
    clear hv h34 h116
    go_wp2_with fail
    refine (has_any s2 116 true _ hb116).mono ?_
    rintro e w6 ⟨rfl, rfl⟩
    clear hb116
    cases ht2 : tak [116, 114, 117, 101] s2 with
    | none =>
      have HX : Hid (mem s = none) := Lib.hid (by rw [HV.out]; show (tak [116, 114, 117, 101] s2).map _ = none; rw [ht2]; rfl)
      go_wp2_with fail
      refine (takeX b s2 [116, 114, 117, 101] _ hr2 ht2).mono ?_
      rintro e w8 ⟨rfl, hg8⟩
      have hgg := g_trans hgg2 hg8
      go_wp2
      exact ⟨rfl, MbR.bad HX.out hgg⟩
    | some r =>
      have HX : Hid (mem s = some (⟨nm, 2, [], 0, true⟩, r)) := Lib.hid (by rw [HV.out]; show (tak [116, 114, 117, 101] s2).map _ = _; rw [ht2]; rfl)
      go_wp2_with fail
      refine (take2 b s2 [116, 114, 117, 101] r _ hr2 ht2).mono ?_
      rintro e w8 ⟨rfl, hr8, hg8⟩
      have hz8 := hz2.grown hg8 (fun r hr e => by cases hr; omega)
      have hgg8 := g_trans hgg2 hg8
      clear hr2 hz2 hgg2 hg8 c2 ht2
      go_wp2_with fail
      refine (bool_any nm true _).mono ?_
      rintro e w9 ⟨rfl, hb9⟩
      have hz7 := hz8.below hb9 hz8.lt
      have hr7 := Blk.below hr8 hb9 hr8.lt
      have hgg7 := g_trans hgg8 (g_below (b := b) hb9)
      have z0 := hz7.cell 0 rfl
      have z1 := hz7.cell 1 rfl
      have z2 := hz7.cell 2 rfl
      have z3 := hz7.cell 3 rfl
      have z4 := hz7.cell 4 rfl
      have f0 := hz7.frozen 0
      have f1 := hz7.frozen 1
      have f2 := hz7.frozen 2
      have f3 := hz7.frozen 3
      have f4 := hz7.frozen 4
      unfold mv
      go_wp2
      try simp only [Exit.inBlock, Exit.then]
      refine ret_cell rfl rfl rfl (Blk.setM (x := ⟨nm, 2, [], 0, true⟩) hz7) ?_
      exact MbR.ok HX.out (g_setM (x := ⟨nm, 2, [], 0, true⟩) hgg7 (Nat.le_refl _)) (rb_setM (x := ⟨nm, 2, [], 0, true⟩) hr7 (by omega))
  have hb116 : (s2.head? == some 116) = false := by rw [beq_eq_false_iff_ne]; exact h116
  go_wp2_with fail
  refine (has_any s2 116 false _ hb116).mono ?_
  rintro e w6 ⟨rfl, rfl⟩
  clear hb116
  by_cases h102 : s2.head? = some 102
  · have hv : val nm s2 = (tak (bt false) s2).map fun r => (⟨nm, 2, [], 0, false⟩, r) := by unfold val; rw [if_neg h34, if_neg h116, if_pos h102]
    have HV := Lib.hid (HM2.out.trans hv)
    have hb102 : (s2.head? == some 102) = true := by rw [h102]; rfl
    clear hv h34 h116 h102
    go_wp2_with fail
    refine (has_any s2 102 true _ hb102).mono ?_
    rintro e w7 ⟨rfl, rfl⟩
    clear hb102
    cases ht2 : tak [102, 97, 108, 115, 101] s2 with
    | none =>
      have HX : Hid (mem s = none) := Lib.hid (by rw [HV.out]; show (tak [102, 97, 108, 115, 101] s2).map _ = none; rw [ht2]; rfl)
      go_wp2_with fail
      refine (takeX b s2 [102, 97, 108, 115, 101] _ hr2 ht2).mono ?_
      rintro e w8 ⟨rfl, hg8⟩
      have hgg := g_trans hgg2 hg8
      go_wp2
      exact ⟨rfl, MbR.bad HX.out hgg⟩
    | some r =>
      have HX : Hid (mem s = some (⟨nm, 2, [], 0, false⟩, r)) := Lib.hid (by rw [HV.out]; show (tak [102, 97, 108, 115, 101] s2).map _ = _; rw [ht2]; rfl)
      go_wp2_with fail
      refine (take2 b s2 [102, 97, 108, 115, 101] r _ hr2 ht2).mono ?_
      rintro e w8 ⟨rfl, hr8, hg8⟩
      have hz8 := hz2.grown hg8 (fun r hr e => by cases hr; omega)
      have hgg8 := g_trans hgg2 hg8
      clear hr2 hz2 hgg2 hg8 c2 ht2
      go_wp2_with fail
      refine (bool_any nm false _).mono ?_
      rintro e w9 ⟨rfl, hb9⟩
      have hz7 := hz8.below hb9 hz8.lt
      have hr7 := Blk.below hr8 hb9 hr8.lt
      have hgg7 := g_trans hgg8 (g_below (b := b) hb9)
      have z0 := hz7.cell 0 rfl
      have z1 := hz7.cell 1 rfl
      have z2 := hz7.cell 2 rfl
      have z3 := hz7.cell 3 rfl
      have z4 := hz7.cell 4 rfl
      have f0 := hz7.frozen 0
      have f1 := hz7.frozen 1
      have f2 := hz7.frozen 2
      have f3 := hz7.frozen 3
      have f4 := hz7.frozen 4
      unfold mv
      go_wp2
      try simp only [Exit.inBlock, Exit.then]
      refine ret_cell rfl rfl rfl (Blk.setM (x := ⟨nm, 2, [], 0, false⟩) hz7) ?_
      exact MbR.ok HX.out (g_setM (x := ⟨nm, 2, [], 0, false⟩) hgg7 (Nat.le_refl _)) (rb_setM (x := ⟨nm, 2, [], 0, false⟩) hr7 (by omega))
  have hb102 : (s2.head? == some 102) = false := by rw [beq_eq_false_iff_ne]; exact h102
  have hv : val nm s2 = (num s2).map fun p => (⟨nm, 1, [], p.1, false⟩, p.2) := by unfold val; rw [if_neg h34, if_neg h116, if_neg h102]
  have HV := Lib.hid (HM2.out.trans hv)
  go_wp2_with fail
  refine (has_any s2 102 false _ hb102).mono ?_
  rintro e w7 ⟨rfl, rfl⟩
  clear hb102 hv h34 h116 h102
  go_wp2
  go_loop [4] (fun i => ∃ k : Nat, k ≤ s2.length ∧ i = .int .i64 (k : Int) ∧ Hid (∀ j (h : j < s2.length), j < k → isN s2[j] = true)) (fun i => s2.length - (intOf i).toNat)
  case atStart => exact ⟨0, by omega, rfl, Lib.hid (fun j h h2 => by omega)⟩
  case round =>
    obtain ⟨k, hk, rfl, HN⟩ := hrel
    have hkb : (k : Int) ≤ 100000 := by have := HL2.out; omega
    by_cases hkl : k < s2.length
    case neg =>
      have hd1 : decide (k < s2.length) = false := by simp; omega
      have HT := Lib.hid (tw_take isN s2 k hk HN.out (fun c hc => by rw [head_no (by omega)] at hc; cases hc))
      have hsl : ∀ w : World, (Instr.slice 9 (.string ⟨s2.toArray⟩) none (some (.int .i64 (k : Int))) none).run Tryz.prog w = .ok (.string ⟨(s2.take k).toArray⟩) w := fun w => by
        rw [run_slice_string_h w _ _ Tryz.underlying9 _ (k : Int) (by omega) (by rw [st_size]; omega), st_extract]; simp
      have hsl2 : ∀ w : World, (Instr.slice 9 (.string ⟨s2.toArray⟩) (some (.int .i64 (k : Int))) none none).run Tryz.prog w = .ok (.string ⟨(s2.drop k).toArray⟩) w := fun w => by
        rw [run_slice_string_l w _ _ Tryz.underlying9 _ (k : Int) (by omega) (by rw [st_size]; omega), st_extract, st_size]; simp
      obtain ⟨d, hd⟩ : ∃ d, d = s2.take k := ⟨_, rfl⟩
      obtain ⟨r, hr⟩ : ∃ r, r = s2.drop k := ⟨_, rfl⟩
      have HDL : Hid (d.length ≤ 100000) := Lib.hid (by rw [hd]; have := HL2.out; simp; omega)
      rw [← hd] at hsl
      rw [← hr] at hsl2
      have HTD : Hid (s2.takeWhile isN = d ∧ s2.dropWhile isN = r) := Lib.hid ⟨by rw [HT.out.1, hd], by rw [HT.out.2, hr]⟩
      clear hd hr
      have hLw := Lib.hid (hL.out.on (g_from hgg2 HBB.out HBW.out))
      by_cases hok : ∃ v, Lib.atoiAll d = .ok v
      case neg =>
        have hno : ∀ v, Lib.atoiAll d ≠ .ok v := fun v e => hok ⟨v, e⟩
        have HX : Hid (mem s = none) := Lib.hid (by rw [HV.out, num_bad HTD.out.1 hno]; rfl)
        have HNO := Lib.hid hno
        clear hno hok
        go_wp2_with fail
        refine (atoi_bad d B _ HDL.out hLw.out HNO.out).mono ?_
        rintro e w8 ⟨⟨x, tp, p, rfl⟩, hb8⟩
        have hgg := g_trans hgg2 (g_below (b := b) hb8)
        go_wp2
        go_quiet (fail)
        have hgn := g_drewN hgg nq
        go_wp2
        exact ⟨rfl, MbR.bad HX.out hgn⟩
      case pos =>
      obtain ⟨v, hv⟩ := hok
      have hvb := Lib.hid (Lib.atoiAll_bounds hv)
      go_wp2_with fail
      refine (atoi_ok d v _ HDL.out hv).mono ?_
      rintro e w8 ⟨rfl, hb8⟩
      have hgg8 := g_trans hgg2 (g_below (b := b) hb8)
      have hz8 := hz2.below hb8 hz2.lt
      have hr8 := Blk.below hr2 hb8 hr2.lt
      have hL8 := Lib.hid (hL.out.on (g_from hgg8 HBB.out HBW.out))
      have hv2 := Lib.hid hv
      clear hgg2 hz2 hr2 hb8 hLw hv
      have hr8d : RB b w8.drew s2 := hr8.drew
      have hz8d : Blk w8.drew w.heap.size 50 (mc zm) := hz8.drew
      have hgg8d : w.grownBy w8.drew (some b) := g_drewN hgg8 1
      clear hr8 hz8 hgg8
      by_cases he : Lib.itoa v = d
      · have HX : Hid (mem s = some (⟨nm, 1, [], v, false⟩, r)) := Lib.hid (by rw [HV.out, num_ok HTD.out.1 HTD.out.2 hv2.out, if_pos he]; rfl)
        have HIT : Hid (∀ W, w.grownBy W (some b) → Calls Tryz.prog 53 #[.int .i64 v] W fun e w' => e = .returned (.string ⟨d.toArray⟩) ∧ Below W.heap.size W w') := Lib.hid fun W hW => by
          have := itoa_any v hvb.out.1 hvb.out.2 B W (hL.out.on (g_from hW HBB.out HBW.out))
          rwa [he] at this
        have hdd : (d == d) = true := beq_self_eq_true d
        clear he
        go_wp2_with fail
        go_region_held3 (fun W => W.cell? ⟨b, 0, none⟩ = some (.string ⟨s2.toArray⟩) ∧ RB b W s2 ∧ Blk W w.heap.size 50 (mc zm) ∧ w.grownBy W (some b))
          (first | with_reducible exact keep_nb hr8d hz8d hgg8d | (go_split_ands; with_reducible exact keep_nb (by assumption) (by assumption) (by assumption)))
          (first | (go_split_ands; go_at_call 53; refine (HIT.out _ (by assumption)).mono ?_; rintro e w9 ⟨rfl, hb9⟩; have hr9 : RB b w9 s2 := Blk.below (by assumption) hb9 (Blk.lt (by assumption)); have hz9 : Blk w9 w.heap.size 50 (mc zm) := Blk.below (by assumption) hb9 (Blk.lt (by assumption)); have hg9 : w.grownBy w9 (some b) := g_trans (by assumption) (g_below hb9)))
        all_goals
          go_split_ands
          rename_i s1 hrr hzz hgG
          have d0 := hrr.cell 0 rfl
          have dF := hrr.frozen 0
          have hrr2 := rb_set hrr r
          have hzz2 := hzz.setOther ⟨b, 0, none⟩ (.string ⟨r.toArray⟩) (by show w.heap.size ≠ b; omega)
          have hgG2 := g_set hgG (.string ⟨r.toArray⟩)
          clear hrr hzz hgG
          go_wp2_with fail
          refine (int_any nm v _).mono ?_
          rintro e w7 ⟨rfl, hb7⟩
          have hz7 := hzz2.below hb7 hzz2.lt
          have hr7 := Blk.below hrr2 hb7 hrr2.lt
          have hgg7 := g_trans hgG2 (g_below (b := b) hb7)
          have z0 := hz7.cell 0 rfl
          have z1 := hz7.cell 1 rfl
          have z2 := hz7.cell 2 rfl
          have z3 := hz7.cell 3 rfl
          have z4 := hz7.cell 4 rfl
          have f0 := hz7.frozen 0
          have f1 := hz7.frozen 1
          have f2 := hz7.frozen 2
          have f3 := hz7.frozen 3
          have f4 := hz7.frozen 4
          unfold mv
          go_wp2
          try simp only [Exit.inBlock, Exit.then]
          refine ret_cell rfl rfl rfl (Blk.setM (x := ⟨nm, 1, [], v, false⟩) hz7) ?_
          exact MbR.ok HX.out (g_setM (x := ⟨nm, 1, [], v, false⟩) hgg7 (Nat.le_refl _)) (rb_setM (x := ⟨nm, 1, [], v, false⟩) hr7 (by omega))
      · have HX : Hid (mem s = none) := Lib.hid (by rw [HV.out, num_ok HTD.out.1 HTD.out.2 hv2.out, if_neg he]; rfl)
        obtain ⟨y, hy⟩ : ∃ y, y = Lib.itoa v := ⟨_, rfl⟩
        have HIT : Hid (∀ W, w.grownBy W (some b) → Calls Tryz.prog 53 #[.int .i64 v] W fun e w' => e = .returned (.string ⟨y.toArray⟩) ∧ Below W.heap.size W w') := Lib.hid fun W hW => by
          have := itoa_any v hvb.out.1 hvb.out.2 B W (hL.out.on (g_from hW HBB.out HBW.out))
          rwa [← hy] at this
        have hyd : (y == d) = false := by rw [beq_eq_false_iff_ne, hy]; exact he
        have hyd2 := str_ne hyd
        have hyd3 : (y != d) = true := by rw [bne, hyd]; rfl
        have hyd4 : ¬ y = d := by rw [hy]; exact he
        clear he hy
        go_wp2_with fail
        go_region_held3 (fun W => W.cell? ⟨b, 0, none⟩ = some (.string ⟨s2.toArray⟩) ∧ RB b W s2 ∧ Blk W w.heap.size 50 (mc zm) ∧ w.grownBy W (some b))
          (first | with_reducible exact keep_nb hr8d hz8d hgg8d | (go_split_ands; with_reducible exact keep_nb (by assumption) (by assumption) (by assumption)))
          (first | (go_split_ands; go_at_call 53; refine (HIT.out _ (by assumption)).mono ?_; rintro e w9 ⟨rfl, hb9⟩; have hr9 : RB b w9 s2 := Blk.below (by assumption) hb9 (Blk.lt (by assumption)); have hz9 : Blk w9 w.heap.size 50 (mc zm) := Blk.below (by assumption) hb9 (Blk.lt (by assumption)); have hg9 : w.grownBy w9 (some b) := g_trans (by assumption) (g_below hb9)))
        all_goals
          go_split_ands
          rename_i s1 hrr hzz hgG
          go_wp2
          exact ⟨rfl, MbR.bad HX.out hgG⟩
    case pos =>
    have hd1 : decide (k < s2.length) = true := by simp; omega
    have hix := ix_str ⟨s2.toArray⟩ k (by rw [st_size]; exact hkl) s2[k] (by rfl)
    obtain ⟨c, hc⟩ : ∃ q, q = s2[k] := ⟨_, rfl⟩
    rw [← hc] at hix
    have HC := Lib.hid hc
    clear hc
    by_cases hn : isN c = true
    · have HN2 : Hid (∀ j (h : j < s2.length), j < k + 1 → isN s2[j] = true) := Lib.hid fun j h h2 => by
        rcases Nat.lt_succ_iff_lt_or_eq.1 h2 with h3 | h3
        · exact HN.out j h h3
        · subst h3; rw [← HC.out]; exact hn
      have hcc : (48 ≤ (c.toNat : Int) ∧ (c.toNat : Int) ≤ 57) ∨ ((c.toNat : Int) < 48 ∧ c = 45) := by
        unfold isN at hn
        simp only [UInt8.le_iff_toNat_le, Bool.or_eq_true, Bool.and_eq_true, decide_eq_true_eq, beq_iff_eq] at hn
        rcases hn with h | h
        · left; simp at h; omega
        · right; subst h; exact ⟨by decide, rfl⟩
      clear hn
      rcases hcc with ⟨x1, x2⟩ | ⟨x1, rfl⟩
      · have y1 : decide ((48 : Int) ≤ (c.toNat : Int)) = true := by rw [decide_eq_true_iff]; exact x1
        have y2 : decide ((c.toNat : Int) ≤ 57) = true := by rw [decide_eq_true_iff]; exact x2
        go_wp2
        go_round
        case rel => exact ⟨k + 1, by omega, by go_num, HN2⟩
        case measure => simp [intOf]; omega
      · clear x1
        go_wp2
        go_round
        case rel => exact ⟨k + 1, by omega, by go_num, HN2⟩
        case measure => simp [intOf]; omega
    · have HT := Lib.hid (tw_take isN s2 k hk HN.out (fun c' hc' => by rw [head_at hkl HC.out.symm] at hc'; cases hc'; simpa using hn))
      have hcc : ((c.toNat : Int) < 48 ∧ c ≠ 45) ∨ (48 ≤ (c.toNat : Int) ∧ (57 : Int) < (c.toNat : Int) ∧ c ≠ 45) := by
        unfold isN at hn
        simp only [UInt8.le_iff_toNat_le, Bool.or_eq_true, Bool.and_eq_true, decide_eq_true_eq, beq_iff_eq, not_or, not_and] at hn
        obtain ⟨h1, h2⟩ := hn
        simp at h1
        by_cases h : (c.toNat : Int) < 48
        · exact .inl ⟨h, h2⟩
        · exact .inr ⟨by omega, by have := h1 (by omega); omega, h2⟩
      clear hn
      have b45 : c ≠ 45 → ((c.toNat : Int) == 45) = false := fun h => by rw [beq_eq_false_iff_ne]; intro e; exact h (by rw [← UInt8.toNat_inj]; show c.toNat = 45; omega)
      rcases hcc with ⟨x1, x2⟩ | ⟨x1, x3, x2⟩
      · have y1 : decide ((48 : Int) ≤ (c.toNat : Int)) = false := by rw [decide_eq_false_iff_not]; omega
        have y3 := b45 x2
        clear b45 x2
        have hsl : ∀ w : World, (Instr.slice 9 (.string ⟨s2.toArray⟩) none (some (.int .i64 (k : Int))) none).run Tryz.prog w = .ok (.string ⟨(s2.take k).toArray⟩) w := fun w => by
          rw [run_slice_string_h w _ _ Tryz.underlying9 _ (k : Int) (by omega) (by rw [st_size]; omega), st_extract]; simp
        have hsl2 : ∀ w : World, (Instr.slice 9 (.string ⟨s2.toArray⟩) (some (.int .i64 (k : Int))) none none).run Tryz.prog w = .ok (.string ⟨(s2.drop k).toArray⟩) w := fun w => by
          rw [run_slice_string_l w _ _ Tryz.underlying9 _ (k : Int) (by omega) (by rw [st_size]; omega), st_extract, st_size]; simp
        obtain ⟨d, hd⟩ : ∃ d, d = s2.take k := ⟨_, rfl⟩
        obtain ⟨r, hr⟩ : ∃ r, r = s2.drop k := ⟨_, rfl⟩
        have HDL : Hid (d.length ≤ 100000) := Lib.hid (by rw [hd]; have := HL2.out; simp; omega)
        rw [← hd] at hsl
        rw [← hr] at hsl2
        have HTD : Hid (s2.takeWhile isN = d ∧ s2.dropWhile isN = r) := Lib.hid ⟨by rw [HT.out.1, hd], by rw [HT.out.2, hr]⟩
        clear hd hr
        have hLw := Lib.hid (hL.out.on (g_from hgg2 HBB.out HBW.out))
        by_cases hok : ∃ v, Lib.atoiAll d = .ok v
        case neg =>
          have hno : ∀ v, Lib.atoiAll d ≠ .ok v := fun v e => hok ⟨v, e⟩
          have HX : Hid (mem s = none) := Lib.hid (by rw [HV.out, num_bad HTD.out.1 hno]; rfl)
          have HNO := Lib.hid hno
          clear hno hok
          go_wp2_with fail
          refine (atoi_bad d B _ HDL.out hLw.out HNO.out).mono ?_
          rintro e w8 ⟨⟨x, tp, p, rfl⟩, hb8⟩
          have hgg := g_trans hgg2 (g_below (b := b) hb8)
          go_wp2
          go_quiet (fail)
          have hgn := g_drewN hgg nq
          go_wp2
          exact ⟨rfl, MbR.bad HX.out hgn⟩
        case pos =>
        obtain ⟨v, hv⟩ := hok
        have hvb := Lib.hid (Lib.atoiAll_bounds hv)
        go_wp2_with fail
        refine (atoi_ok d v _ HDL.out hv).mono ?_
        rintro e w8 ⟨rfl, hb8⟩
        have hgg8 := g_trans hgg2 (g_below (b := b) hb8)
        have hz8 := hz2.below hb8 hz2.lt
        have hr8 := Blk.below hr2 hb8 hr2.lt
        have hL8 := Lib.hid (hL.out.on (g_from hgg8 HBB.out HBW.out))
        have hv2 := Lib.hid hv
        clear hgg2 hz2 hr2 hb8 hLw hv
        have hr8d : RB b w8.drew s2 := hr8.drew
        have hz8d : Blk w8.drew w.heap.size 50 (mc zm) := hz8.drew
        have hgg8d : w.grownBy w8.drew (some b) := g_drewN hgg8 1
        clear hr8 hz8 hgg8
        by_cases he : Lib.itoa v = d
        · have HX : Hid (mem s = some (⟨nm, 1, [], v, false⟩, r)) := Lib.hid (by rw [HV.out, num_ok HTD.out.1 HTD.out.2 hv2.out, if_pos he]; rfl)
          have HIT : Hid (∀ W, w.grownBy W (some b) → Calls Tryz.prog 53 #[.int .i64 v] W fun e w' => e = .returned (.string ⟨d.toArray⟩) ∧ Below W.heap.size W w') := Lib.hid fun W hW => by
            have := itoa_any v hvb.out.1 hvb.out.2 B W (hL.out.on (g_from hW HBB.out HBW.out))
            rwa [he] at this
          have hdd : (d == d) = true := beq_self_eq_true d
          clear he
          go_wp2_with fail
          go_region_held3 (fun W => W.cell? ⟨b, 0, none⟩ = some (.string ⟨s2.toArray⟩) ∧ RB b W s2 ∧ Blk W w.heap.size 50 (mc zm) ∧ w.grownBy W (some b))
            (first | with_reducible exact keep_nb hr8d hz8d hgg8d | (go_split_ands; with_reducible exact keep_nb (by assumption) (by assumption) (by assumption)))
            (first | (go_split_ands; go_at_call 53; refine (HIT.out _ (by assumption)).mono ?_; rintro e w9 ⟨rfl, hb9⟩; have hr9 : RB b w9 s2 := Blk.below (by assumption) hb9 (Blk.lt (by assumption)); have hz9 : Blk w9 w.heap.size 50 (mc zm) := Blk.below (by assumption) hb9 (Blk.lt (by assumption)); have hg9 : w.grownBy w9 (some b) := g_trans (by assumption) (g_below hb9)))
          all_goals
            go_split_ands
            rename_i s1 hrr hzz hgG
            have d0 := hrr.cell 0 rfl
            have dF := hrr.frozen 0
            have hrr2 := rb_set hrr r
            have hzz2 := hzz.setOther ⟨b, 0, none⟩ (.string ⟨r.toArray⟩) (by show w.heap.size ≠ b; omega)
            have hgG2 := g_set hgG (.string ⟨r.toArray⟩)
            clear hrr hzz hgG
            go_wp2_with fail
            refine (int_any nm v _).mono ?_
            rintro e w7 ⟨rfl, hb7⟩
            have hz7 := hzz2.below hb7 hzz2.lt
            have hr7 := Blk.below hrr2 hb7 hrr2.lt
            have hgg7 := g_trans hgG2 (g_below (b := b) hb7)
            have z0 := hz7.cell 0 rfl
            have z1 := hz7.cell 1 rfl
            have z2 := hz7.cell 2 rfl
            have z3 := hz7.cell 3 rfl
            have z4 := hz7.cell 4 rfl
            have f0 := hz7.frozen 0
            have f1 := hz7.frozen 1
            have f2 := hz7.frozen 2
            have f3 := hz7.frozen 3
            have f4 := hz7.frozen 4
            unfold mv
            go_wp2
            try simp only [Exit.inBlock, Exit.then]
            refine ret_cell rfl rfl rfl (Blk.setM (x := ⟨nm, 1, [], v, false⟩) hz7) ?_
            exact MbR.ok HX.out (g_setM (x := ⟨nm, 1, [], v, false⟩) hgg7 (Nat.le_refl _)) (rb_setM (x := ⟨nm, 1, [], v, false⟩) hr7 (by omega))
        · have HX : Hid (mem s = none) := Lib.hid (by rw [HV.out, num_ok HTD.out.1 HTD.out.2 hv2.out, if_neg he]; rfl)
          obtain ⟨y, hy⟩ : ∃ y, y = Lib.itoa v := ⟨_, rfl⟩
          have HIT : Hid (∀ W, w.grownBy W (some b) → Calls Tryz.prog 53 #[.int .i64 v] W fun e w' => e = .returned (.string ⟨y.toArray⟩) ∧ Below W.heap.size W w') := Lib.hid fun W hW => by
            have := itoa_any v hvb.out.1 hvb.out.2 B W (hL.out.on (g_from hW HBB.out HBW.out))
            rwa [← hy] at this
          have hyd : (y == d) = false := by rw [beq_eq_false_iff_ne, hy]; exact he
          have hyd2 := str_ne hyd
          have hyd3 : (y != d) = true := by rw [bne, hyd]; rfl
          have hyd4 : ¬ y = d := by rw [hy]; exact he
          clear he hy
          go_wp2_with fail
          go_region_held3 (fun W => W.cell? ⟨b, 0, none⟩ = some (.string ⟨s2.toArray⟩) ∧ RB b W s2 ∧ Blk W w.heap.size 50 (mc zm) ∧ w.grownBy W (some b))
            (first | with_reducible exact keep_nb hr8d hz8d hgg8d | (go_split_ands; with_reducible exact keep_nb (by assumption) (by assumption) (by assumption)))
            (first | (go_split_ands; go_at_call 53; refine (HIT.out _ (by assumption)).mono ?_; rintro e w9 ⟨rfl, hb9⟩; have hr9 : RB b w9 s2 := Blk.below (by assumption) hb9 (Blk.lt (by assumption)); have hz9 : Blk w9 w.heap.size 50 (mc zm) := Blk.below (by assumption) hb9 (Blk.lt (by assumption)); have hg9 : w.grownBy w9 (some b) := g_trans (by assumption) (g_below hb9)))
          all_goals
            go_split_ands
            rename_i s1 hrr hzz hgG
            go_wp2
            exact ⟨rfl, MbR.bad HX.out hgG⟩
      · have y1 : decide ((48 : Int) ≤ (c.toNat : Int)) = true := by rw [decide_eq_true_iff]; exact x1
        have y2 : decide ((c.toNat : Int) ≤ 57) = false := by rw [decide_eq_false_iff_not]; omega
        have y3 := b45 x2
        clear b45 x2
        have hsl : ∀ w : World, (Instr.slice 9 (.string ⟨s2.toArray⟩) none (some (.int .i64 (k : Int))) none).run Tryz.prog w = .ok (.string ⟨(s2.take k).toArray⟩) w := fun w => by
          rw [run_slice_string_h w _ _ Tryz.underlying9 _ (k : Int) (by omega) (by rw [st_size]; omega), st_extract]; simp
        have hsl2 : ∀ w : World, (Instr.slice 9 (.string ⟨s2.toArray⟩) (some (.int .i64 (k : Int))) none none).run Tryz.prog w = .ok (.string ⟨(s2.drop k).toArray⟩) w := fun w => by
          rw [run_slice_string_l w _ _ Tryz.underlying9 _ (k : Int) (by omega) (by rw [st_size]; omega), st_extract, st_size]; simp
        obtain ⟨d, hd⟩ : ∃ d, d = s2.take k := ⟨_, rfl⟩
        obtain ⟨r, hr⟩ : ∃ r, r = s2.drop k := ⟨_, rfl⟩
        have HDL : Hid (d.length ≤ 100000) := Lib.hid (by rw [hd]; have := HL2.out; simp; omega)
        rw [← hd] at hsl
        rw [← hr] at hsl2
        have HTD : Hid (s2.takeWhile isN = d ∧ s2.dropWhile isN = r) := Lib.hid ⟨by rw [HT.out.1, hd], by rw [HT.out.2, hr]⟩
        clear hd hr
        have hLw := Lib.hid (hL.out.on (g_from hgg2 HBB.out HBW.out))
        by_cases hok : ∃ v, Lib.atoiAll d = .ok v
        case neg =>
          have hno : ∀ v, Lib.atoiAll d ≠ .ok v := fun v e => hok ⟨v, e⟩
          have HX : Hid (mem s = none) := Lib.hid (by rw [HV.out, num_bad HTD.out.1 hno]; rfl)
          have HNO := Lib.hid hno
          clear hno hok
          go_wp2_with fail
          refine (atoi_bad d B _ HDL.out hLw.out HNO.out).mono ?_
          rintro e w8 ⟨⟨x, tp, p, rfl⟩, hb8⟩
          have hgg := g_trans hgg2 (g_below (b := b) hb8)
          go_wp2
          go_quiet (fail)
          have hgn := g_drewN hgg nq
          go_wp2
          exact ⟨rfl, MbR.bad HX.out hgn⟩
        case pos =>
        obtain ⟨v, hv⟩ := hok
        have hvb := Lib.hid (Lib.atoiAll_bounds hv)
        go_wp2_with fail
        refine (atoi_ok d v _ HDL.out hv).mono ?_
        rintro e w8 ⟨rfl, hb8⟩
        have hgg8 := g_trans hgg2 (g_below (b := b) hb8)
        have hz8 := hz2.below hb8 hz2.lt
        have hr8 := Blk.below hr2 hb8 hr2.lt
        have hL8 := Lib.hid (hL.out.on (g_from hgg8 HBB.out HBW.out))
        have hv2 := Lib.hid hv
        clear hgg2 hz2 hr2 hb8 hLw hv
        have hr8d : RB b w8.drew s2 := hr8.drew
        have hz8d : Blk w8.drew w.heap.size 50 (mc zm) := hz8.drew
        have hgg8d : w.grownBy w8.drew (some b) := g_drewN hgg8 1
        clear hr8 hz8 hgg8
        by_cases he : Lib.itoa v = d
        · have HX : Hid (mem s = some (⟨nm, 1, [], v, false⟩, r)) := Lib.hid (by rw [HV.out, num_ok HTD.out.1 HTD.out.2 hv2.out, if_pos he]; rfl)
          have HIT : Hid (∀ W, w.grownBy W (some b) → Calls Tryz.prog 53 #[.int .i64 v] W fun e w' => e = .returned (.string ⟨d.toArray⟩) ∧ Below W.heap.size W w') := Lib.hid fun W hW => by
            have := itoa_any v hvb.out.1 hvb.out.2 B W (hL.out.on (g_from hW HBB.out HBW.out))
            rwa [he] at this
          have hdd : (d == d) = true := beq_self_eq_true d
          clear he
          go_wp2_with fail
          go_region_held3 (fun W => W.cell? ⟨b, 0, none⟩ = some (.string ⟨s2.toArray⟩) ∧ RB b W s2 ∧ Blk W w.heap.size 50 (mc zm) ∧ w.grownBy W (some b))
            (first | with_reducible exact keep_nb hr8d hz8d hgg8d | (go_split_ands; with_reducible exact keep_nb (by assumption) (by assumption) (by assumption)))
            (first | (go_split_ands; go_at_call 53; refine (HIT.out _ (by assumption)).mono ?_; rintro e w9 ⟨rfl, hb9⟩; have hr9 : RB b w9 s2 := Blk.below (by assumption) hb9 (Blk.lt (by assumption)); have hz9 : Blk w9 w.heap.size 50 (mc zm) := Blk.below (by assumption) hb9 (Blk.lt (by assumption)); have hg9 : w.grownBy w9 (some b) := g_trans (by assumption) (g_below hb9)))
          all_goals
            go_split_ands
            rename_i s1 hrr hzz hgG
            have d0 := hrr.cell 0 rfl
            have dF := hrr.frozen 0
            have hrr2 := rb_set hrr r
            have hzz2 := hzz.setOther ⟨b, 0, none⟩ (.string ⟨r.toArray⟩) (by show w.heap.size ≠ b; omega)
            have hgG2 := g_set hgG (.string ⟨r.toArray⟩)
            clear hrr hzz hgG
            go_wp2_with fail
            refine (int_any nm v _).mono ?_
            rintro e w7 ⟨rfl, hb7⟩
            have hz7 := hzz2.below hb7 hzz2.lt
            have hr7 := Blk.below hrr2 hb7 hrr2.lt
            have hgg7 := g_trans hgG2 (g_below (b := b) hb7)
            have z0 := hz7.cell 0 rfl
            have z1 := hz7.cell 1 rfl
            have z2 := hz7.cell 2 rfl
            have z3 := hz7.cell 3 rfl
            have z4 := hz7.cell 4 rfl
            have f0 := hz7.frozen 0
            have f1 := hz7.frozen 1
            have f2 := hz7.frozen 2
            have f3 := hz7.frozen 3
            have f4 := hz7.frozen 4
            unfold mv
            go_wp2
            try simp only [Exit.inBlock, Exit.then]
            refine ret_cell rfl rfl rfl (Blk.setM (x := ⟨nm, 1, [], v, false⟩) hz7) ?_
            exact MbR.ok HX.out (g_setM (x := ⟨nm, 1, [], v, false⟩) hgg7 (Nat.le_refl _)) (rb_setM (x := ⟨nm, 1, [], v, false⟩) hr7 (by omega))
        · have HX : Hid (mem s = none) := Lib.hid (by rw [HV.out, num_ok HTD.out.1 HTD.out.2 hv2.out, if_neg he]; rfl)
          obtain ⟨y, hy⟩ : ∃ y, y = Lib.itoa v := ⟨_, rfl⟩
          have HIT : Hid (∀ W, w.grownBy W (some b) → Calls Tryz.prog 53 #[.int .i64 v] W fun e w' => e = .returned (.string ⟨y.toArray⟩) ∧ Below W.heap.size W w') := Lib.hid fun W hW => by
            have := itoa_any v hvb.out.1 hvb.out.2 B W (hL.out.on (g_from hW HBB.out HBW.out))
            rwa [← hy] at this
          have hyd : (y == d) = false := by rw [beq_eq_false_iff_ne, hy]; exact he
          have hyd2 := str_ne hyd
          have hyd3 : (y != d) = true := by rw [bne, hyd]; rfl
          have hyd4 : ¬ y = d := by rw [hy]; exact he
          clear he hy
          go_wp2_with fail
          go_region_held3 (fun W => W.cell? ⟨b, 0, none⟩ = some (.string ⟨s2.toArray⟩) ∧ RB b W s2 ∧ Blk W w.heap.size 50 (mc zm) ∧ w.grownBy W (some b))
            (first | with_reducible exact keep_nb hr8d hz8d hgg8d | (go_split_ands; with_reducible exact keep_nb (by assumption) (by assumption) (by assumption)))
            (first | (go_split_ands; go_at_call 53; refine (HIT.out _ (by assumption)).mono ?_; rintro e w9 ⟨rfl, hb9⟩; have hr9 : RB b w9 s2 := Blk.below (by assumption) hb9 (Blk.lt (by assumption)); have hz9 : Blk w9 w.heap.size 50 (mc zm) := Blk.below (by assumption) hb9 (Blk.lt (by assumption)); have hg9 : w.grownBy w9 (some b) := g_trans (by assumption) (g_below hb9)))
          all_goals
            go_split_ands
            rename_i s1 hrr hzz hgG
            go_wp2
            exact ⟨rfl, MbR.bad HX.out hgG⟩
end Go.Proofs.YtffllacphfapnaaGreatDoor
namespace Go.Proofs.YtffllacphfapnaaGreatDoor
open Go.RowKit Js

/-- what Parse does -/
def PaR (s : By) (w : World) (e : Ending) (w' : World) : Prop := ∃ v, e = .returned (.tuple #[v, .int .i64 (parse s).2]) ∧ OwnM w' w.heap.size v (parse s).1 ∧ Below w.heap.size w w'
theorem PaR.no {s : By} {w W : World} {k : Int} (h : parse s = ([], k)) (hb : Below w.heap.size w W) : PaR s w (.returned (.tuple #[.slice none 0 0, .int .i64 k])) W :=
  ⟨_, by rw [h], by rw [h]; exact OwnM.nil _ _, hb⟩
theorem PaR.yes {s : By} {w W : World} {v : Value} {L : List Mb} {B : Nat} (h : parse s = (L, 0)) (hown : OwnM W B v L) (hB : w.heap.size ≤ B) (hb : Below w.heap.size w W) : PaR s w (.returned (.tuple #[v, .int .i64 0])) W :=
  ⟨_, by rw [h], by rw [h]; exact own_mono hown hB, hb⟩

theorem PN.out {s : By} {w W : World} {p q : Nat} (h : PN s) (hs : ¬ 16384 < s.length) (hb : Below w.heap.size w W) (hp : w.heap.size ≤ p) (hq : w.heap.size ≤ q) :
    PaR s w (.returned (.tuple #[.slice none 0 0, .int .i64 3])) (((W.alloc (.cells #[] 72)).setCell ⟨p, 0, none⟩ (.slice none 0 0)).setCell ⟨q, 0, none⟩ (.int .i64 3)) :=
  PaR.no (h.parse hs) (((hb.alloc hb.size _).setCell hp _).setCell hq _)

set_option maxRecDepth 20000 in
set_option maxHeartbeats 4000000 in
theorem jparse_any (s : By) (w : World) (hL : Hid (LaidB w.heap.size w)) :
    Calls Tryz.prog 15 #[.string ⟨s.toArray⟩] w (PaR s w) := by
  have hmf : ∀ (fn : Fn) (first cap : Array Value) (w : World), (Instr.makeFunc fn first cap).run Tryz.prog w = .ok (.func fn first cap) w := fun _ _ _ _ => rfl
  obtain ⟨i0, hi, hz0, hz1, hz2⟩ := info_parts mb_row
  have hss := st_size s
  by_cases hlong : 16384 < s.length
  · have HP : Hid (parse s = ([], 2)) := Lib.hid (by unfold parse; rw [if_pos hlong])
    have h2 : (16384 : Int) < (s.length : Int) := by omega
    go_enter_defers Tryz.func15, Tryz.ntmps15
    go_wp2
    refine ⟨_, ?_, PaR.no HP.out ?_⟩
    · simp [results, Tryz.results15, go_sem]
    · exact ((Below.refl _ _).alloc (Nat.le_refl _) _).alloc (by simp) _
  have h2 : ¬ (16384 : Int) < (s.length : Int) := by omega
  have hb0 : Below w.heap.size w (((w.alloc (.cells #[.slice none 0 0] 46)).alloc (.cells #[.int .i64 0] 43)).alloc (.cells #[.string ⟨s.toArray⟩] 76)) :=
    (((Below.refl _ _).alloc (Nat.le_refl _) _).alloc (by simp) _).alloc (by simp; omega) _
  have hp0 : Blk (((w.alloc (.cells #[.slice none 0 0] 46)).alloc (.cells #[.int .i64 0] 43)).alloc (.cells #[.string ⟨s.toArray⟩] 76)) w.heap.size 46 [.slice none 0 0] := ((Blk.new w _ _).alloc _).alloc _
  have hq0 : Blk (((w.alloc (.cells #[.slice none 0 0] 46)).alloc (.cells #[.int .i64 0] 43)).alloc (.cells #[.string ⟨s.toArray⟩] 76)) (w.heap.size + 1) 43 [.int .i64 0] := by
    have h := (Blk.new (w.alloc (.cells #[.slice none 0 0] 46)) 43 [.int .i64 0]).alloc (.cells #[.string ⟨s.toArray⟩] 76)
    simpa using h
  have hr0 : RB (w.heap.size + 1 + 1) (((w.alloc (.cells #[.slice none 0 0] 46)).alloc (.cells #[.int .i64 0] 43)).alloc (.cells #[.string ⟨s.toArray⟩] 76)) s := by
    have h := Blk.new ((w.alloc (.cells #[.slice none 0 0] 46)).alloc (.cells #[.int .i64 0] 43)) 76 [.string ⟨s.toArray⟩]
    simpa using h
  have HLo := Lib.hid hlong
  clear hlong
  cases ht : tak [123] s with
  | none =>
    have HN := Lib.hid (PN.noOpen ht)
    go_enter_defers Tryz.func15, Tryz.ntmps15
    go_wp2_with fail
    refine (takeX (w.heap.size + 1 + 1) s [123] _ hr0 ht).mono ?_
    rintro e w2 ⟨rfl, hg2⟩
    have hp2 := hp0.grown hg2 (fun r hr e => by cases hr; omega)
    have hq2 := hq0.grown hg2 (fun r hr e => by cases hr; omega)
    have hb2 := hb0.trans (g_from hg2 (by omega) hb0.size)
    go_wp2
    exact parse_out rfl rfl hp2 hq2 (by omega) (PN.out HN.out HLo.out hb2 (by omega) (by omega))
  | some r0 =>
  have HP0 := Lib.hid (PI.start ht)
  have hr0l : Hid (r0.length ≤ 16384) := Lib.hid (by have h := congrArg List.length (tak_some ht); simp at h; have := HLo.out; omega)
  go_enter_defers Tryz.func15, Tryz.ntmps15
  go_wp2_with fail
  refine (take2 (w.heap.size + 1 + 1) s [123] r0 _ hr0 ht).mono ?_
  rintro e w2 ⟨rfl, hr2, hg2⟩
  have hp2 := hp0.grown hg2 (fun r hr e => by cases hr; omega)
  have hq2 := hq0.grown hg2 (fun r hr e => by cases hr; omega)
  have hb2 := hb0.trans (g_from hg2 (by omega) hb0.size)
  have hst0 : PSt w w2 (.slice none 0 0) [] r0 := ⟨hp2, hq2, hr2, OwnM.nil _ _, hb2⟩
  clear hp0 hq0 hr0 hb0 hg2 ht hp2 hq2 hr2 hb2
  go_wp2_with fail
  go_loopw [7] (fun _ wr => ∃ (v : Value) (L : List Mb) (r : By), Hid (PI s L r) ∧ L.length ≤ 64 ∧ Hid (r.length ≤ 16384) ∧ PSt w wr v L r) (fun _ wr => roomAt wr w.heap.size)
  case atStart => exact ⟨_, [], r0, HP0, by simp, hr0l, hst0⟩
  case round =>
    obtain ⟨v, L, r, HP, hL64, HR, hst⟩ := hrel
    clear hst0
    obtain ⟨a, c, hv⟩ := hst.own.rd.slice
    subst hv
    have hst_old := roomAt_of (hst.p.cell 0 rfl)
    have hca := hst.p.cell 0 rfl
    have hcf := hst.p.frozen 0
    have hcr := hst.r.cell 0 rfl
    have hcrf := hst.r.frozen 0
    by_cases h125 : r.head? = some 125
    · have hb125 : (r.head? == some 125) = true := by rw [h125]; rfl
      obtain ⟨r1, hr1'⟩ : ∃ r1, r = 125 :: r1 := by
        cases r with
        | nil => cases h125
        | cons c r1 => exact ⟨r1, by simp at h125; rw [h125]⟩
      have ht1 : tak [125] r = some r1 := by rw [hr1']; exact tak_app [125] r1
      have HR1 := Lib.hid hr1'
      clear hr1'
      go_wp2_with fail
      refine (has_any r 125 true _ hb125).mono ?_
      rintro e w3 ⟨rfl, rfl⟩
      clear hb125
      go_wp2_with fail
      refine (take2 (w.heap.size + 1 + 1) r [125] r1 _ hst.r ht1).mono ?_
      rintro e w4 ⟨rfl, hr4, hg4⟩
      have hst4 := hst.grown hg4 hr4
      have z4 := hr4.cell 0 rfl
      have z5 := hst4.p.cell 0 rfl
      have z6 := hst4.p.frozen 0
      have z7 := hst4.q.cell 0 rfl
      have z8 := hst4.q.frozen 0
      clear hst hr4 hg4 hca hcf hcr hcrf ht1
      by_cases hn : r1 = []
      · have HF := Lib.hid (HP.out.shut hL64 h125 (by rw [HR1.out, hn]) HLo.out)
        subst hn
        clear h125
        go_wp2
        refine parse_ret rfl rfl ((hst4.p.set 0 _).setOther ⟨w.heap.size + 1, 0, none⟩ _ (by show w.heap.size ≠ w.heap.size + 1; omega)) (hst4.q.setOther ⟨w.heap.size, 0, none⟩ _ (by show w.heap.size + 1 ≠ w.heap.size; omega) |>.set 0 _) ?_
        exact PaR.yes HF.out (own_other (own_other hst4.own (by show w.heap.size < _; omega) _) (by show w.heap.size + 1 < _; omega) _) (by omega) ((hst4.b.setCell (by show w.heap.size ≤ w.heap.size; omega) _).setCell (by show w.heap.size ≤ w.heap.size + 1; omega) _)
      · have HN := Lib.hid (HP.out.more hL64 h125 (by rw [HR1.out]; simpa using hn))
        clear h125 HR1
        obtain ⟨c1, r3, rfl⟩ := List.exists_cons_of_ne_nil hn
        clear hn
        go_wp2
        exact parse_out rfl rfl hst4.p hst4.q (by omega) (PN.out HN.out HLo.out hst4.b (by omega) (by omega))
    · have hb125 : (r.head? == some 125) = false := by rw [beq_eq_false_iff_ne]; exact h125
      go_wp2_with fail
      refine (has_any r 125 false _ hb125).mono ?_
      rintro e w3 ⟨rfl, rfl⟩
      clear hb125
      by_cases hn : L = []
      · have hl0 : ¬ (0 : Int) < (L.length : Int) := by rw [hn]; simp
        have hl1 : L.length = 0 := by rw [hn]; rfl
        have HL1 := Lib.hid hl1
        obtain ⟨r1, hr1⟩ : ∃ r1, r1 = r := ⟨_, rfl⟩
        have HC : Hid (cm L r = some r1) := Lib.hid (by unfold cm; rw [if_pos hn, hr1])
        have HR1 : Hid (r1.length ≤ 16384) := by rw [hr1]; exact HR
        have hst1 : PSt w w3 (.slice a L.length c) L r1 := by rw [hr1]; exact hst
        clear hr1 hst hn hl1
        cases hm : mem r1 with
        | none =>
          have HN := Lib.hid (HP.out.noMem hL64 h125 HC.out hm)
          go_wp2_with fail
          refine (member_any w.heap.size (w.heap.size + 1 + 1) r1 _ hst1.r (by have := HR1.out; omega) (by omega) hst1.b.size (Lib.hid (hL.out.on hst1.b))).mono ?_
          intro e w5 hM
          unfold MbR at hM
          rw [hm] at hM
          obtain ⟨hg5, rfl⟩ := hM
          have hp5 := hst1.p.grown hg5 (fun r hr e => by cases hr; omega)
          have hq5 := hst1.q.grown hg5 (fun r hr e => by cases hr; omega)
          have hb5 := hst1.b.trans (g_from hg5 (by omega) hst1.b.size)
          go_wp2
          exact parse_out rfl rfl hp5 hq5 (by omega) (PN.out HN.out HLo.out hb5 (by omega) (by omega))
        | some q =>
        obtain ⟨m, r2⟩ := q
        have HM := Lib.hid hm
        go_wp2_with fail
        refine (member_any w.heap.size (w.heap.size + 1 + 1) r1 _ hst1.r (by have := HR1.out; omega) (by omega) hst1.b.size (Lib.hid (hL.out.on hst1.b))).mono ?_
        intro e w5 hM
        unfold MbR at hM
        rw [hm] at hM
        obtain ⟨hg5, rfl, hr5⟩ := hM
        have hst5 := hst1.grown hg5 hr5
        clear hst1 hg5 hr5 hm
        have hpg : PG w (w5.alloc (.cells #[.string ⟨m.nm.toArray⟩, .int .i64 m.kd, .string ⟨m.tx.toArray⟩, .int .i64 m.n, .bool m.b] 50)) (.slice a L.length c) L r2 w5.heap.size m := PG.start hst5
        have y0 := hpg.st.p.cell 0 rfl
        have y1 := hpg.bm.cell 0 rfl
        have hlo := hpg.lo.1
        clear hst5
        unfold mv
        go_wp2_with fail
        refine (get_any _ L m.nm _ hpg.st.own.rd (by omega)).mono ?_
        rintro e w6 ⟨rfl, hb6⟩
        have hpg6 := hpg.below hb6
        clear hpg y0 y1 hb6
        generalize getM L m.nm = gm
        unfold mv
        have hpg7 : PG w (w6.alloc (.cells #[.string ⟨gm.nm.toArray⟩, .int .i64 gm.kd, .string ⟨gm.tx.toArray⟩, .int .i64 gm.n, .bool gm.b] 50)) (.slice a L.length c) L r2 w5.heap.size m := hpg6.below ((Below.refl _ _).alloc (Nat.le_refl _) _)
        clear hpg6
        have y0 := hpg7.st.p.cell 0 rfl
        have y1 := hpg7.st.p.frozen 0
        have y2 := hpg7.bm.cell 0 rfl
        have y3 := hpg7.bm.cell 1 rfl
        have y4 := hpg7.bm.cell 2 rfl
        have y5 := hpg7.bm.cell 3 rfl
        have y6 := hpg7.bm.cell 4 rfl
        cases htw : hasN L m.nm with
        | true =>
          have HN := Lib.hid (HP.out.bad hL64 h125 HC.out HM.out (.inl htw))
          go_wp2
          exact parse_out rfl rfl hpg7.st.p hpg7.st.q (by omega) (PN.out HN.out HLo.out hpg7.st.b (by omega) (by omega))
        | false =>
        by_cases h64 : L.length = 64
        · have HN := Lib.hid (HP.out.bad hL64 h125 HC.out HM.out (.inr h64))
          have b64 : ((L.length : Int) == 64) = true := by rw [h64]; rfl
          clear h64
          go_wp2
          exact parse_out rfl rfl hpg7.st.p hpg7.st.q (by omega) (PN.out HN.out HLo.out hpg7.st.b (by omega) (by omega))
        have HPN := Lib.hid (HP.out.next hL64 h125 HC.out HM.out (by rw [htw]; intro h; rcases h with h | h; cases h; exact h64 h))
        have b64 : ((L.length : Int) == 64) = false := by rw [beq_eq_false_iff_ne]; omega
        have hlt : L.length < 64 := by omega
        clear htw h125 h64
        have HPR := Lib.hid hst_old
        clear hst_old
        go_wp2_with (at_builtin; go_loud (refine wpList_append_own _ rfl _ _ 46 rfl (w.heap.size + 3) 50 i0 (.agg #[.string ⟨#[]⟩, .int .i64 0, .string ⟨#[]⟩, .int .i64 0, .bool false]) 5 56 Tryz.underlying46 hi hz0 hz1 hz2 rfl (by decide) _ _ _ rfl (World.ownsRow.alloc hpg7.st.own _) ⟨w6.heap.size + 1, 0, none⟩ 1 1 (mc m) rfl rfl (cells_at _ _ _ _ (by simp)) (mc_one m) ?c3 ?c4 ?c5 ?_))
        case c3 => unfold maxLen; omega
        case c4 => omega
        case c5 => have := hpg7.st.b.size; have h5 := Blk.lt hpg7.st.r; simp at this h5 ⊢; omega
        intro v' w9 hown' hgrow hv0
        have hown9 : OwnM w9 (w.heap.size + 3) v' (L ++ [m]) := own_cast hown' (by simp) (by rw [mCells_snoc])
        have hst9 := hpg7.st.grow hgrow hown9
        have hpn := (hpg7.st.p.alloc (.cells (mc m).toArray 50)).grown hgrow (own_ne hpg7.st.own (by omega))
        obtain ⟨a9, c9, hv9⟩ := hown9.rd.slice
        rw [show (L ++ [m]).length = L.length + 1 from by simp] at hv9
        subst hv9
        have z0 := hpn.cell 0 rfl
        have z1 := hpn.frozen 0
        have z2 := hst9.p.cell 0 rfl
        clear hown' hgrow hv0 hown9 hpn hpg7 y0 y1 y2 y3 y4 y5 y6
        go_wp2_with fail
        go_roundw
        case rel => exact ⟨_, L ++ [m], r2, HPN, by simp; omega, Lib.hid (by have h1 := HM.out; have h2 := congrArg List.length (mem_inv h1).2.1; have h3 := HR1.out; rw [List.length_append] at h2; omega), hst9⟩
        case measure => rw [roomAt_of z2, HPR.out]; simp; omega
      · cases ht : tak [44] r with
        | none =>
          have HN := Lib.hid (HP.out.noComma hL64 h125 hn ht)
          have hl0 : (0 : Int) < (L.length : Int) := by have := List.length_pos_iff.2 hn; omega
          go_wp2_with fail
          refine (takeX (w.heap.size + 1 + 1) r [44] _ hst.r ht).mono ?_
          rintro e w4 ⟨rfl, hg4⟩
          have hp5 := hst.p.grown hg4 (fun r hr e => by cases hr; omega)
          have hq5 := hst.q.grown hg4 (fun r hr e => by cases hr; omega)
          have hb5 := hst.b.trans (g_from hg4 (by omega) hst.b.size)
          go_wp2
          exact parse_out rfl rfl hp5 hq5 (by omega) (PN.out HN.out HLo.out hb5 (by omega) (by omega))
        | some r1 =>
        have HC : Hid (cm L r = some r1) := Lib.hid (by unfold cm; rw [if_neg hn]; exact ht)
        have HR1 : Hid (r1.length ≤ 16384) := Lib.hid (by have h := congrArg List.length (tak_some ht); simp at h; have := HR.out; omega)
        have hl0 : (0 : Int) < (L.length : Int) := by have := List.length_pos_iff.2 hn; omega
        go_wp2_with fail
        refine (take2 (w.heap.size + 1 + 1) r [44] r1 _ hst.r ht).mono ?_
        rintro e w4 ⟨rfl, hr4, hg4⟩
        have hst1 := hst.grown hg4 hr4
        clear hst hr4 hg4 hn ht hca hcf hcr hcrf
        cases hm : mem r1 with
        | none =>
          have HN := Lib.hid (HP.out.noMem hL64 h125 HC.out hm)
          go_wp2_with fail
          refine (member_any w.heap.size (w.heap.size + 1 + 1) r1 _ hst1.r (by have := HR1.out; omega) (by omega) hst1.b.size (Lib.hid (hL.out.on hst1.b))).mono ?_
          intro e w5 hM
          unfold MbR at hM
          rw [hm] at hM
          obtain ⟨hg5, rfl⟩ := hM
          have hp5 := hst1.p.grown hg5 (fun r hr e => by cases hr; omega)
          have hq5 := hst1.q.grown hg5 (fun r hr e => by cases hr; omega)
          have hb5 := hst1.b.trans (g_from hg5 (by omega) hst1.b.size)
          go_wp2
          exact parse_out rfl rfl hp5 hq5 (by omega) (PN.out HN.out HLo.out hb5 (by omega) (by omega))
        | some q =>
        obtain ⟨m, r2⟩ := q
        have HM := Lib.hid hm
        go_wp2_with fail
        refine (member_any w.heap.size (w.heap.size + 1 + 1) r1 _ hst1.r (by have := HR1.out; omega) (by omega) hst1.b.size (Lib.hid (hL.out.on hst1.b))).mono ?_
        intro e w5 hM
        unfold MbR at hM
        rw [hm] at hM
        obtain ⟨hg5, rfl, hr5⟩ := hM
        have hst5 := hst1.grown hg5 hr5
        clear hst1 hg5 hr5 hm
        have hpg : PG w (w5.alloc (.cells #[.string ⟨m.nm.toArray⟩, .int .i64 m.kd, .string ⟨m.tx.toArray⟩, .int .i64 m.n, .bool m.b] 50)) (.slice a L.length c) L r2 w5.heap.size m := PG.start hst5
        have y0 := hpg.st.p.cell 0 rfl
        have y1 := hpg.bm.cell 0 rfl
        have hlo := hpg.lo.1
        clear hst5
        unfold mv
        go_wp2_with fail
        refine (get_any _ L m.nm _ hpg.st.own.rd (by omega)).mono ?_
        rintro e w6 ⟨rfl, hb6⟩
        have hpg6 := hpg.below hb6
        clear hpg y0 y1 hb6
        generalize getM L m.nm = gm
        unfold mv
        have hpg7 : PG w (w6.alloc (.cells #[.string ⟨gm.nm.toArray⟩, .int .i64 gm.kd, .string ⟨gm.tx.toArray⟩, .int .i64 gm.n, .bool gm.b] 50)) (.slice a L.length c) L r2 w5.heap.size m := hpg6.below ((Below.refl _ _).alloc (Nat.le_refl _) _)
        clear hpg6
        have y0 := hpg7.st.p.cell 0 rfl
        have y1 := hpg7.st.p.frozen 0
        have y2 := hpg7.bm.cell 0 rfl
        have y3 := hpg7.bm.cell 1 rfl
        have y4 := hpg7.bm.cell 2 rfl
        have y5 := hpg7.bm.cell 3 rfl
        have y6 := hpg7.bm.cell 4 rfl
        cases htw : hasN L m.nm with
        | true =>
          have HN := Lib.hid (HP.out.bad hL64 h125 HC.out HM.out (.inl htw))
          go_wp2
          exact parse_out rfl rfl hpg7.st.p hpg7.st.q (by omega) (PN.out HN.out HLo.out hpg7.st.b (by omega) (by omega))
        | false =>
        by_cases h64 : L.length = 64
        · have HN := Lib.hid (HP.out.bad hL64 h125 HC.out HM.out (.inr h64))
          have b64 : ((L.length : Int) == 64) = true := by rw [h64]; rfl
          clear h64
          go_wp2
          exact parse_out rfl rfl hpg7.st.p hpg7.st.q (by omega) (PN.out HN.out HLo.out hpg7.st.b (by omega) (by omega))
        have HPN := Lib.hid (HP.out.next hL64 h125 HC.out HM.out (by rw [htw]; intro h; rcases h with h | h; cases h; exact h64 h))
        have b64 : ((L.length : Int) == 64) = false := by rw [beq_eq_false_iff_ne]; omega
        have hlt : L.length < 64 := by omega
        clear htw h125 h64
        have HPR := Lib.hid hst_old
        clear hst_old
        go_wp2_with (at_builtin; go_loud (refine wpList_append_own _ rfl _ _ 46 rfl (w.heap.size + 3) 50 i0 (.agg #[.string ⟨#[]⟩, .int .i64 0, .string ⟨#[]⟩, .int .i64 0, .bool false]) 5 56 Tryz.underlying46 hi hz0 hz1 hz2 rfl (by decide) _ _ _ rfl (World.ownsRow.alloc hpg7.st.own _) ⟨w6.heap.size + 1, 0, none⟩ 1 1 (mc m) rfl rfl (cells_at _ _ _ _ (by simp)) (mc_one m) ?c3 ?c4 ?c5 ?_))
        case c3 => unfold maxLen; omega
        case c4 => omega
        case c5 => have := hpg7.st.b.size; have h5 := Blk.lt hpg7.st.r; simp at this h5 ⊢; omega
        intro v' w9 hown' hgrow hv0
        have hown9 : OwnM w9 (w.heap.size + 3) v' (L ++ [m]) := own_cast hown' (by simp) (by rw [mCells_snoc])
        have hst9 := hpg7.st.grow hgrow hown9
        have hpn := (hpg7.st.p.alloc (.cells (mc m).toArray 50)).grown hgrow (own_ne hpg7.st.own (by omega))
        obtain ⟨a9, c9, hv9⟩ := hown9.rd.slice
        rw [show (L ++ [m]).length = L.length + 1 from by simp] at hv9
        subst hv9
        have z0 := hpn.cell 0 rfl
        have z1 := hpn.frozen 0
        have z2 := hst9.p.cell 0 rfl
        clear hown' hgrow hv0 hown9 hpn hpg7 y0 y1 y2 y3 y4 y5 y6
        go_wp2_with fail
        go_roundw
        case rel => exact ⟨_, L ++ [m], r2, HPN, by simp; omega, Lib.hid (by have h1 := HM.out; have h2 := congrArg List.length (mem_inv h1).2.1; have h3 := HR1.out; rw [List.length_append] at h2; omega), hst9⟩
        case measure => rw [roomAt_of z2, HPR.out]; simp; omega
end Go.Proofs.YtffllacphfapnaaGreatDoor
