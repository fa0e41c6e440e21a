/-
  Chapter 5: the reader's member, walked. Conditions: the text is of at most 100000 bytes; the three listed variables lie as the program's text lays them.
-/
import Derived.Test.YtffllacphfapnaaGreatDoorJu
namespace Go.Proofs.YtffllacphfapnaaGreatDoor
open Go.RowKit Js

set_option maxRecDepth 20000 in
set_option maxHeartbeats 4000000 in
theorem member_any (B b : Nat) (s : By) (w : World) (h : RB b w s) (hl : s.length ≤ 100000) (hBb : B ≤ b) (hB : B ≤ w.heap.size) (hL : Hid (LaidB B w)) :
    Calls Tryz.prog 32 #[.pointer (some ⟨b, 0, none⟩)] w (MbR s b w) := by
  have hlt := h.lt
  have hg0 : w.grownBy (w.alloc (.cells (mc zm).toArray 50)) (some b) := g_below ((Below.refl _ _).alloc (Nat.le_refl _) _)
  have hz0 : Blk (w.alloc (.cells (mc zm).toArray 50)) w.heap.size 50 (mc zm) := Blk.new w _ (mc zm)
  have hr0 : RB b (w.alloc (.cells (mc zm).toArray 50)) s := h.alloc _
  clear h
  have HLS := Lib.hid hl
  have HBB := Lib.hid hBb
  have HBW := Lib.hid hB
  have HLT := Lib.hid hlt
  have hsz0 : w.heap.size < (w.alloc (.cells (mc zm).toArray 50)).heap.size := by simp
  clear hl hBb hB
  cases hq : strQ s with
  | none =>
    have HM := Lib.hid (show mem s = none by unfold mem; rw [hq]; rfl)
    go_enter Tryz.func32, Tryz.ntmps32
    go_wp2_with fail
    refine (str_bad b s _ hr0 HLS.out hq).mono ?_
    rintro e w1 ⟨rfl, hg1⟩
    have hgg := g_trans hg0 hg1
    go_wp2
    exact ⟨rfl, MbR.bad HM.out hgg⟩
  | some q =>
  obtain ⟨nm, s1⟩ := q
  have hmem : mem s = (tak [58] s1).bind (val nm) := by unfold mem; rw [hq]; rfl
  have hls1 : s1.length ≤ 100000 := by have := strQ_inv hq; have h2 := HLS.out; rw [this, List.length_append] at h2; omega
  have HM := Lib.hid hmem
  have HL1 := Lib.hid hls1
  clear hmem hls1
  go_enter Tryz.func32, Tryz.ntmps32
  go_wp2_with fail
  refine (str_ok b s nm s1 _ hr0 HLS.out hq).mono ?_
  rintro e w1 ⟨rfl, hr1, hg1⟩
  have hz1 := hz0.grown hg1 (fun r hr e => by cases hr; omega)
  have hgg1 := g_trans hg0 hg1
  have hsz1 := Nat.lt_of_lt_of_le hsz0 hg1.size
  clear hr0 hz0 hg0 hg1 hsz0 hq
  cases ht : tak [58] s1 with
  | none =>
    have HM2 : Hid (mem s = none) := Lib.hid (by rw [HM.out, ht]; rfl)
    go_wp2_with fail
    refine (takeX b s1 [58] _ hr1 ht).mono ?_
    rintro e w2 ⟨rfl, hg2⟩
    have hgg := g_trans hgg1 hg2
    go_wp2
    exact ⟨rfl, MbR.bad HM2.out hgg⟩
  | some s2 =>
  have HM2 : Hid (mem s = val nm s2) := Lib.hid (by rw [HM.out, ht]; rfl)
  have HL2 : Hid (s2.length ≤ 100000) := Lib.hid (by have h := tak_some ht; have h2 := HL1.out; rw [h] at h2; simp at h2; omega)
  go_wp2_with fail
  refine (take2 b s1 [58] s2 _ hr1 ht).mono ?_
  rintro e w2 ⟨rfl, hr2, hg2⟩
  have hz2 := hz1.grown hg2 (fun r hr e => by cases hr; omega)
  have hgg2 := g_trans hgg1 hg2
  have hsz2 := Nat.lt_of_lt_of_le hsz1 hg2.size
  clear hr1 hz1 hgg1 hg2 hsz1 ht HM
  have c2 := hr2.cell 0 rfl
  by_cases h34 : s2.head? = some 34
  · -- a text
    have hv : val nm s2 = (strQ s2).map fun p => (⟨nm, 0, p.1, 0, false⟩, p.2) := by unfold val; rw [if_pos h34]
    have HV := Lib.hid (HM2.out.trans hv)
    have hb34 : (s2.head? == some 34) = true := by rw [h34]; rfl
    clear hv h34
    go_wp2_with fail
    refine (has_any s2 34 true _ hb34).mono ?_
    rintro e w5 ⟨rfl, rfl⟩
    clear hb34
    cases hq2 : strQ s2 with
    | none =>
      have HX : Hid (mem s = none) := Lib.hid (by rw [HV.out, hq2]; rfl)
      go_wp2_with fail
      refine (str_bad b s2 _ hr2 HL2.out hq2).mono ?_
      rintro e w6 ⟨rfl, hg6⟩
      have hgg := g_trans hgg2 hg6
      go_wp2
      exact ⟨rfl, MbR.bad HX.out hgg⟩
    | some q =>
      obtain ⟨tx, r⟩ := q
      have HX : Hid (mem s = some (⟨nm, 0, tx, 0, false⟩, r)) := Lib.hid (by rw [HV.out, hq2]; rfl)
      go_wp2_with fail
      refine (str_ok b s2 tx r _ hr2 HL2.out hq2).mono ?_
      rintro e w6 ⟨rfl, hr6, hg6⟩
      have hz6 := hz2.grown hg6 (fun r hr e => by cases hr; omega)
      have hgg6 := g_trans hgg2 hg6
      clear hr2 hz2 hgg2 hg6 c2 hq2
      go_wp2_with fail
      refine (text_any nm tx _).mono ?_
      rintro e w7 ⟨rfl, hb7⟩
      have hz7 := hz6.below hb7 hz6.lt
      have hr7 := Blk.below hr6 hb7 hr6.lt
      have hgg7 := g_trans hgg6 (g_below (b := b) hb7)
      have z0 := hz7.cell 0 rfl
      have z1 := hz7.cell 1 rfl
      have z2 := hz7.cell 2 rfl
      have z3 := hz7.cell 3 rfl
      have z4 := hz7.cell 4 rfl
      have f0 := hz7.frozen 0
      have f1 := hz7.frozen 1
      have f2 := hz7.frozen 2
      have f3 := hz7.frozen 3
      have f4 := hz7.frozen 4
      unfold mv
      go_wp2
      try simp only [Exit.inBlock, Exit.then]
      refine ret_cell rfl rfl rfl (Blk.setM (x := ⟨nm, 0, tx, 0, false⟩) hz7) ?_
      exact MbR.ok HX.out (g_setM (x := ⟨nm, 0, tx, 0, false⟩) hgg7 (Nat.le_refl _)) (rb_setM (x := ⟨nm, 0, tx, 0, false⟩) hr7 (by omega))
  have hb34 : (s2.head? == some 34) = false := by rw [beq_eq_false_iff_ne]; exact h34
  go_wp2_with fail
  refine (has_any s2 34 false _ hb34).mono ?_
  rintro e w5 ⟨rfl, rfl⟩
  clear hb34
  by_cases h116 : s2.head? = some 116
  · have hv : val nm s2 = (tak (bt true) s2).map fun r => (⟨nm, 2, [], 0, true⟩, r) := by unfold val; rw [if_neg h34, if_pos h116]
    have HV := Lib.hid (HM2.out.trans hv)
    have hb116 : (s2.head? == some 116) = true := by rw [h116]; rfl
    clear hv h34 h116
    go_wp2_with fail
    refine (has_any s2 116 true _ hb116).mono ?_
    rintro e w6 ⟨rfl, rfl⟩
    clear hb116
    cases ht2 : tak [116, 114, 117, 101] s2 with
    | none =>
      have HX : Hid (mem s = none) := Lib.hid (by rw [HV.out]; show (tak [116, 114, 117, 101] s2).map _ = none; rw [ht2]; rfl)
      go_wp2_with fail
      refine (takeX b s2 [116, 114, 117, 101] _ hr2 ht2).mono ?_
      rintro e w8 ⟨rfl, hg8⟩
      have hgg := g_trans hgg2 hg8
      go_wp2
      exact ⟨rfl, MbR.bad HX.out hgg⟩
    | some r =>
      have HX : Hid (mem s = some (⟨nm, 2, [], 0, true⟩, r)) := Lib.hid (by rw [HV.out]; show (tak [116, 114, 117, 101] s2).map _ = _; rw [ht2]; rfl)
      go_wp2_with fail
      refine (take2 b s2 [116, 114, 117, 101] r _ hr2 ht2).mono ?_
      rintro e w8 ⟨rfl, hr8, hg8⟩
      have hz8 := hz2.grown hg8 (fun r hr e => by cases hr; omega)
      have hgg8 := g_trans hgg2 hg8
      clear hr2 hz2 hgg2 hg8 c2 ht2
      go_wp2_with fail
      refine (bool_any nm true _).mono ?_
      rintro e w9 ⟨rfl, hb9⟩
      have hz7 := hz8.below hb9 hz8.lt
      have hr7 := Blk.below hr8 hb9 hr8.lt
      have hgg7 := g_trans hgg8 (g_below (b := b) hb9)
      have z0 := hz7.cell 0 rfl
      have z1 := hz7.cell 1 rfl
      have z2 := hz7.cell 2 rfl
      have z3 := hz7.cell 3 rfl
      have z4 := hz7.cell 4 rfl
      have f0 := hz7.frozen 0
      have f1 := hz7.frozen 1
      have f2 := hz7.frozen 2
      have f3 := hz7.frozen 3
      have f4 := hz7.frozen 4
      unfold mv
      go_wp2
      try simp only [Exit.inBlock, Exit.then]
      refine ret_cell rfl rfl rfl (Blk.setM (x := ⟨nm, 2, [], 0, true⟩) hz7) ?_
      exact MbR.ok HX.out (g_setM (x := ⟨nm, 2, [], 0, true⟩) hgg7 (Nat.le_refl _)) (rb_setM (x := ⟨nm, 2, [], 0, true⟩) hr7 (by omega))
  have hb116 : (s2.head? == some 116) = false := by rw [beq_eq_false_iff_ne]; exact h116
  go_wp2_with fail
  refine (has_any s2 116 false _ hb116).mono ?_
  rintro e w6 ⟨rfl, rfl⟩
  clear hb116
  by_cases h102 : s2.head? = some 102
  · have hv : val nm s2 = (tak (bt false) s2).map fun r => (⟨nm, 2, [], 0, false⟩, r) := by unfold val; rw [if_neg h34, if_neg h116, if_pos h102]
    have HV := Lib.hid (HM2.out.trans hv)
    have hb102 : (s2.head? == some 102) = true := by rw [h102]; rfl
    clear hv h34 h116 h102
    go_wp2_with fail
    refine (has_any s2 102 true _ hb102).mono ?_
    rintro e w7 ⟨rfl, rfl⟩
    clear hb102
    cases ht2 : tak [102, 97, 108, 115, 101] s2 with
    | none =>
      have HX : Hid (mem s = none) := Lib.hid (by rw [HV.out]; show (tak [102, 97, 108, 115, 101] s2).map _ = none; rw [ht2]; rfl)
      go_wp2_with fail
      refine (takeX b s2 [102, 97, 108, 115, 101] _ hr2 ht2).mono ?_
      rintro e w8 ⟨rfl, hg8⟩
      have hgg := g_trans hgg2 hg8
      go_wp2
      exact ⟨rfl, MbR.bad HX.out hgg⟩
    | some r =>
      have HX : Hid (mem s = some (⟨nm, 2, [], 0, false⟩, r)) := Lib.hid (by rw [HV.out]; show (tak [102, 97, 108, 115, 101] s2).map _ = _; rw [ht2]; rfl)
      go_wp2_with fail
      refine (take2 b s2 [102, 97, 108, 115, 101] r _ hr2 ht2).mono ?_
      rintro e w8 ⟨rfl, hr8, hg8⟩
      have hz8 := hz2.grown hg8 (fun r hr e => by cases hr; omega)
      have hgg8 := g_trans hgg2 hg8
      clear hr2 hz2 hgg2 hg8 c2 ht2
      go_wp2_with fail
      refine (bool_any nm false _).mono ?_
      rintro e w9 ⟨rfl, hb9⟩
      have hz7 := hz8.below hb9 hz8.lt
      have hr7 := Blk.below hr8 hb9 hr8.lt
      have hgg7 := g_trans hgg8 (g_below (b := b) hb9)
      have z0 := hz7.cell 0 rfl
      have z1 := hz7.cell 1 rfl
      have z2 := hz7.cell 2 rfl
      have z3 := hz7.cell 3 rfl
      have z4 := hz7.cell 4 rfl
      have f0 := hz7.frozen 0
      have f1 := hz7.frozen 1
      have f2 := hz7.frozen 2
      have f3 := hz7.frozen 3
      have f4 := hz7.frozen 4
      unfold mv
      go_wp2
      try simp only [Exit.inBlock, Exit.then]
      refine ret_cell rfl rfl rfl (Blk.setM (x := ⟨nm, 2, [], 0, false⟩) hz7) ?_
      exact MbR.ok HX.out (g_setM (x := ⟨nm, 2, [], 0, false⟩) hgg7 (Nat.le_refl _)) (rb_setM (x := ⟨nm, 2, [], 0, false⟩) hr7 (by omega))
  have hb102 : (s2.head? == some 102) = false := by rw [beq_eq_false_iff_ne]; exact h102
  have hv : val nm s2 = (num s2).map fun p => (⟨nm, 1, [], p.1, false⟩, p.2) := by unfold val; rw [if_neg h34, if_neg h116, if_neg h102]
  have HV := Lib.hid (HM2.out.trans hv)
  go_wp2_with fail
  refine (has_any s2 102 false _ hb102).mono ?_
  rintro e w7 ⟨rfl, rfl⟩
  clear hb102 hv h34 h116 h102
  go_wp2
  go_loop [4] (fun i => ∃ k : Nat, k ≤ s2.length ∧ i = .int .i64 (k : Int) ∧ Hid (∀ j (h : j < s2.length), j < k → isN s2[j] = true)) (fun i => s2.length - (intOf i).toNat)
  case atStart => exact ⟨0, by omega, rfl, Lib.hid (fun j h h2 => by omega)⟩
  case round =>
    obtain ⟨k, hk, rfl, HN⟩ := hrel
    have hkb : (k : Int) ≤ 100000 := by have := HL2.out; omega
    by_cases hkl : k < s2.length
    case neg =>
      have hd1 : decide (k < s2.length) = false := by simp; omega
      have HT := Lib.hid (tw_take isN s2 k hk HN.out (fun c hc => by rw [head_no (by omega)] at hc; cases hc))
      have hsl : ∀ w : World, (Instr.slice 9 (.string ⟨s2.toArray⟩) none (some (.int .i64 (k : Int))) none).run Tryz.prog w = .ok (.string ⟨(s2.take k).toArray⟩) w := fun w => by
        rw [run_slice_string_h w _ _ Tryz.underlying9 _ (k : Int) (by omega) (by rw [st_size]; omega), st_extract]; simp
      have hsl2 : ∀ w : World, (Instr.slice 9 (.string ⟨s2.toArray⟩) (some (.int .i64 (k : Int))) none none).run Tryz.prog w = .ok (.string ⟨(s2.drop k).toArray⟩) w := fun w => by
        rw [run_slice_string_l w _ _ Tryz.underlying9 _ (k : Int) (by omega) (by rw [st_size]; omega), st_extract, st_size]; simp
      obtain ⟨d, hd⟩ : ∃ d, d = s2.take k := ⟨_, rfl⟩
      obtain ⟨r, hr⟩ : ∃ r, r = s2.drop k := ⟨_, rfl⟩
      have HDL : Hid (d.length ≤ 100000) := Lib.hid (by rw [hd]; have := HL2.out; simp; omega)
      rw [← hd] at hsl
      rw [← hr] at hsl2
      have HTD : Hid (s2.takeWhile isN = d ∧ s2.dropWhile isN = r) := Lib.hid ⟨by rw [HT.out.1, hd], by rw [HT.out.2, hr]⟩
      clear hd hr
      have hLw := Lib.hid (hL.out.on (g_from hgg2 HBB.out HBW.out))
      by_cases hok : ∃ v, Lib.atoiAll d = .ok v
      case neg =>
        have hno : ∀ v, Lib.atoiAll d ≠ .ok v := fun v e => hok ⟨v, e⟩
        have HX : Hid (mem s = none) := Lib.hid (by rw [HV.out, num_bad HTD.out.1 hno]; rfl)
        have HNO := Lib.hid hno
        clear hno hok
        go_wp2_with fail
        refine (atoi_bad d B _ HDL.out hLw.out HNO.out).mono ?_
        rintro e w8 ⟨⟨x, tp, p, rfl⟩, hb8⟩
        have hgg := g_trans hgg2 (g_below (b := b) hb8)
        go_wp2
        go_quiet (fail)
        have hgn := g_drewN hgg nq
        go_wp2
        exact ⟨rfl, MbR.bad HX.out hgn⟩
      case pos =>
      obtain ⟨v, hv⟩ := hok
      have hvb := Lib.hid (Lib.atoiAll_bounds hv)
      go_wp2_with fail
      refine (atoi_ok d v _ HDL.out hv).mono ?_
      rintro e w8 ⟨rfl, hb8⟩
      have hgg8 := g_trans hgg2 (g_below (b := b) hb8)
      have hz8 := hz2.below hb8 hz2.lt
      have hr8 := Blk.below hr2 hb8 hr2.lt
      have hL8 := Lib.hid (hL.out.on (g_from hgg8 HBB.out HBW.out))
      have hv2 := Lib.hid hv
      clear hgg2 hz2 hr2 hb8 hLw hv
      have hr8d : RB b w8.drew s2 := hr8.drew
      have hz8d : Blk w8.drew w.heap.size 50 (mc zm) := hz8.drew
      have hgg8d : w.grownBy w8.drew (some b) := g_drewN hgg8 1
      clear hr8 hz8 hgg8
      by_cases he : Lib.itoa v = d
      · have HX : Hid (mem s = some (⟨nm, 1, [], v, false⟩, r)) := Lib.hid (by rw [HV.out, num_ok HTD.out.1 HTD.out.2 hv2.out, if_pos he]; rfl)
        have HIT : Hid (∀ W, w.grownBy W (some b) → Calls Tryz.prog 53 #[.int .i64 v] W fun e w' => e = .returned (.string ⟨d.toArray⟩) ∧ Below W.heap.size W w') := Lib.hid fun W hW => by
          have := itoa_any v hvb.out.1 hvb.out.2 B W (hL.out.on (g_from hW HBB.out HBW.out))
          rwa [he] at this
        have hdd : (d == d) = true := beq_self_eq_true d
        clear he
        go_wp2_with fail
        go_region_held3 (fun W => W.cell? ⟨b, 0, none⟩ = some (.string ⟨s2.toArray⟩) ∧ RB b W s2 ∧ Blk W w.heap.size 50 (mc zm) ∧ w.grownBy W (some b))
          (first | with_reducible exact keep_nb hr8d hz8d hgg8d | (go_split_ands; with_reducible exact keep_nb (by assumption) (by assumption) (by assumption)))
          (first | (go_split_ands; go_at_call 53; refine (HIT.out _ (by assumption)).mono ?_; rintro e w9 ⟨rfl, hb9⟩; have hr9 : RB b w9 s2 := Blk.below (by assumption) hb9 (Blk.lt (by assumption)); have hz9 : Blk w9 w.heap.size 50 (mc zm) := Blk.below (by assumption) hb9 (Blk.lt (by assumption)); have hg9 : w.grownBy w9 (some b) := g_trans (by assumption) (g_below hb9)))
        all_goals
          go_split_ands
          rename_i s1 hrr hzz hgG
          have d0 := hrr.cell 0 rfl
          have dF := hrr.frozen 0
          have hrr2 := rb_set hrr r
          have hzz2 := hzz.setOther ⟨b, 0, none⟩ (.string ⟨r.toArray⟩) (by show w.heap.size ≠ b; omega)
          have hgG2 := g_set hgG (.string ⟨r.toArray⟩)
          clear hrr hzz hgG
          go_wp2_with fail
          refine (int_any nm v _).mono ?_
          rintro e w7 ⟨rfl, hb7⟩
          have hz7 := hzz2.below hb7 hzz2.lt
          have hr7 := Blk.below hrr2 hb7 hrr2.lt
          have hgg7 := g_trans hgG2 (g_below (b := b) hb7)
          have z0 := hz7.cell 0 rfl
          have z1 := hz7.cell 1 rfl
          have z2 := hz7.cell 2 rfl
          have z3 := hz7.cell 3 rfl
          have z4 := hz7.cell 4 rfl
          have f0 := hz7.frozen 0
          have f1 := hz7.frozen 1
          have f2 := hz7.frozen 2
          have f3 := hz7.frozen 3
          have f4 := hz7.frozen 4
          unfold mv
          go_wp2
          try simp only [Exit.inBlock, Exit.then]
          refine ret_cell rfl rfl rfl (Blk.setM (x := ⟨nm, 1, [], v, false⟩) hz7) ?_
          exact MbR.ok HX.out (g_setM (x := ⟨nm, 1, [], v, false⟩) hgg7 (Nat.le_refl _)) (rb_setM (x := ⟨nm, 1, [], v, false⟩) hr7 (by omega))
      · have HX : Hid (mem s = none) := Lib.hid (by rw [HV.out, num_ok HTD.out.1 HTD.out.2 hv2.out, if_neg he]; rfl)
        obtain ⟨y, hy⟩ : ∃ y, y = Lib.itoa v := ⟨_, rfl⟩
        have HIT : Hid (∀ W, w.grownBy W (some b) → Calls Tryz.prog 53 #[.int .i64 v] W fun e w' => e = .returned (.string ⟨y.toArray⟩) ∧ Below W.heap.size W w') := Lib.hid fun W hW => by
          have := itoa_any v hvb.out.1 hvb.out.2 B W (hL.out.on (g_from hW HBB.out HBW.out))
          rwa [← hy] at this
        have hyd : (y == d) = false := by rw [beq_eq_false_iff_ne, hy]; exact he
        have hyd2 := str_ne hyd
        have hyd3 : (y != d) = true := by rw [bne, hyd]; rfl
        have hyd4 : ¬ y = d := by rw [hy]; exact he
        clear he hy
        go_wp2_with fail
        go_region_held3 (fun W => W.cell? ⟨b, 0, none⟩ = some (.string ⟨s2.toArray⟩) ∧ RB b W s2 ∧ Blk W w.heap.size 50 (mc zm) ∧ w.grownBy W (some b))
          (first | with_reducible exact keep_nb hr8d hz8d hgg8d | (go_split_ands; with_reducible exact keep_nb (by assumption) (by assumption) (by assumption)))
          (first | (go_split_ands; go_at_call 53; refine (HIT.out _ (by assumption)).mono ?_; rintro e w9 ⟨rfl, hb9⟩; have hr9 : RB b w9 s2 := Blk.below (by assumption) hb9 (Blk.lt (by assumption)); have hz9 : Blk w9 w.heap.size 50 (mc zm) := Blk.below (by assumption) hb9 (Blk.lt (by assumption)); have hg9 : w.grownBy w9 (some b) := g_trans (by assumption) (g_below hb9)))
        all_goals
          go_split_ands
          rename_i s1 hrr hzz hgG
          go_wp2
          exact ⟨rfl, MbR.bad HX.out hgG⟩
    case pos =>
    have hd1 : decide (k < s2.length) = true := by simp; omega
    have hix := ix_str ⟨s2.toArray⟩ k (by rw [st_size]; exact hkl) s2[k] (by rfl)
    obtain ⟨c, hc⟩ : ∃ q, q = s2[k] := ⟨_, rfl⟩
    rw [← hc] at hix
    have HC := Lib.hid hc
    clear hc
    by_cases hn : isN c = true
    · have HN2 : Hid (∀ j (h : j < s2.length), j < k + 1 → isN s2[j] = true) := Lib.hid fun j h h2 => by
        rcases Nat.lt_succ_iff_lt_or_eq.1 h2 with h3 | h3
        · exact HN.out j h h3
        · subst h3; rw [← HC.out]; exact hn
      have hcc : (48 ≤ (c.toNat : Int) ∧ (c.toNat : Int) ≤ 57) ∨ ((c.toNat : Int) < 48 ∧ c = 45) := by
        unfold isN at hn
        simp only [UInt8.le_iff_toNat_le, Bool.or_eq_true, Bool.and_eq_true, decide_eq_true_eq, beq_iff_eq] at hn
        rcases hn with h | h
        · left; simp at h; omega
        · right; subst h; exact ⟨by decide, rfl⟩
      clear hn
      rcases hcc with ⟨x1, x2⟩ | ⟨x1, rfl⟩
      · have y1 : decide ((48 : Int) ≤ (c.toNat : Int)) = true := by rw [decide_eq_true_iff]; exact x1
        have y2 : decide ((c.toNat : Int) ≤ 57) = true := by rw [decide_eq_true_iff]; exact x2
        go_wp2
        go_round
        case rel => exact ⟨k + 1, by omega, by go_num, HN2⟩
        case measure => simp [intOf]; omega
      · clear x1
        go_wp2
        go_round
        case rel => exact ⟨k + 1, by omega, by go_num, HN2⟩
        case measure => simp [intOf]; omega
    · have HT := Lib.hid (tw_take isN s2 k hk HN.out (fun c' hc' => by rw [head_at hkl HC.out.symm] at hc'; cases hc'; simpa using hn))
      have hcc : ((c.toNat : Int) < 48 ∧ c ≠ 45) ∨ (48 ≤ (c.toNat : Int) ∧ (57 : Int) < (c.toNat : Int) ∧ c ≠ 45) := by
        unfold isN at hn
        simp only [UInt8.le_iff_toNat_le, Bool.or_eq_true, Bool.and_eq_true, decide_eq_true_eq, beq_iff_eq, not_or, not_and] at hn
        obtain ⟨h1, h2⟩ := hn
        simp at h1
        by_cases h : (c.toNat : Int) < 48
        · exact .inl ⟨h, h2⟩
        · exact .inr ⟨by omega, by have := h1 (by omega); omega, h2⟩
      clear hn
      have b45 : c ≠ 45 → ((c.toNat : Int) == 45) = false := fun h => by rw [beq_eq_false_iff_ne]; intro e; exact h (by rw [← UInt8.toNat_inj]; show c.toNat = 45; omega)
      rcases hcc with ⟨x1, x2⟩ | ⟨x1, x3, x2⟩
      · have y1 : decide ((48 : Int) ≤ (c.toNat : Int)) = false := by rw [decide_eq_false_iff_not]; omega
        have y3 := b45 x2
        clear b45 x2
        have hsl : ∀ w : World, (Instr.slice 9 (.string ⟨s2.toArray⟩) none (some (.int .i64 (k : Int))) none).run Tryz.prog w = .ok (.string ⟨(s2.take k).toArray⟩) w := fun w => by
          rw [run_slice_string_h w _ _ Tryz.underlying9 _ (k : Int) (by omega) (by rw [st_size]; omega), st_extract]; simp
        have hsl2 : ∀ w : World, (Instr.slice 9 (.string ⟨s2.toArray⟩) (some (.int .i64 (k : Int))) none none).run Tryz.prog w = .ok (.string ⟨(s2.drop k).toArray⟩) w := fun w => by
          rw [run_slice_string_l w _ _ Tryz.underlying9 _ (k : Int) (by omega) (by rw [st_size]; omega), st_extract, st_size]; simp
        obtain ⟨d, hd⟩ : ∃ d, d = s2.take k := ⟨_, rfl⟩
        obtain ⟨r, hr⟩ : ∃ r, r = s2.drop k := ⟨_, rfl⟩
        have HDL : Hid (d.length ≤ 100000) := Lib.hid (by rw [hd]; have := HL2.out; simp; omega)
        rw [← hd] at hsl
        rw [← hr] at hsl2
        have HTD : Hid (s2.takeWhile isN = d ∧ s2.dropWhile isN = r) := Lib.hid ⟨by rw [HT.out.1, hd], by rw [HT.out.2, hr]⟩
        clear hd hr
        have hLw := Lib.hid (hL.out.on (g_from hgg2 HBB.out HBW.out))
        by_cases hok : ∃ v, Lib.atoiAll d = .ok v
        case neg =>
          have hno : ∀ v, Lib.atoiAll d ≠ .ok v := fun v e => hok ⟨v, e⟩
          have HX : Hid (mem s = none) := Lib.hid (by rw [HV.out, num_bad HTD.out.1 hno]; rfl)
          have HNO := Lib.hid hno
          clear hno hok
          go_wp2_with fail
          refine (atoi_bad d B _ HDL.out hLw.out HNO.out).mono ?_
          rintro e w8 ⟨⟨x, tp, p, rfl⟩, hb8⟩
          have hgg := g_trans hgg2 (g_below (b := b) hb8)
          go_wp2
          go_quiet (fail)
          have hgn := g_drewN hgg nq
          go_wp2
          exact ⟨rfl, MbR.bad HX.out hgn⟩
        case pos =>
        obtain ⟨v, hv⟩ := hok
        have hvb := Lib.hid (Lib.atoiAll_bounds hv)
        go_wp2_with fail
        refine (atoi_ok d v _ HDL.out hv).mono ?_
        rintro e w8 ⟨rfl, hb8⟩
        have hgg8 := g_trans hgg2 (g_below (b := b) hb8)
        have hz8 := hz2.below hb8 hz2.lt
        have hr8 := Blk.below hr2 hb8 hr2.lt
        have hL8 := Lib.hid (hL.out.on (g_from hgg8 HBB.out HBW.out))
        have hv2 := Lib.hid hv
        clear hgg2 hz2 hr2 hb8 hLw hv
        have hr8d : RB b w8.drew s2 := hr8.drew
        have hz8d : Blk w8.drew w.heap.size 50 (mc zm) := hz8.drew
        have hgg8d : w.grownBy w8.drew (some b) := g_drewN hgg8 1
        clear hr8 hz8 hgg8
        by_cases he : Lib.itoa v = d
        · have HX : Hid (mem s = some (⟨nm, 1, [], v, false⟩, r)) := Lib.hid (by rw [HV.out, num_ok HTD.out.1 HTD.out.2 hv2.out, if_pos he]; rfl)
          have HIT : Hid (∀ W, w.grownBy W (some b) → Calls Tryz.prog 53 #[.int .i64 v] W fun e w' => e = .returned (.string ⟨d.toArray⟩) ∧ Below W.heap.size W w') := Lib.hid fun W hW => by
            have := itoa_any v hvb.out.1 hvb.out.2 B W (hL.out.on (g_from hW HBB.out HBW.out))
            rwa [he] at this
          have hdd : (d == d) = true := beq_self_eq_true d
          clear he
          go_wp2_with fail
          go_region_held3 (fun W => W.cell? ⟨b, 0, none⟩ = some (.string ⟨s2.toArray⟩) ∧ RB b W s2 ∧ Blk W w.heap.size 50 (mc zm) ∧ w.grownBy W (some b))
            (first | with_reducible exact keep_nb hr8d hz8d hgg8d | (go_split_ands; with_reducible exact keep_nb (by assumption) (by assumption) (by assumption)))
            (first | (go_split_ands; go_at_call 53; refine (HIT.out _ (by assumption)).mono ?_; rintro e w9 ⟨rfl, hb9⟩; have hr9 : RB b w9 s2 := Blk.below (by assumption) hb9 (Blk.lt (by assumption)); have hz9 : Blk w9 w.heap.size 50 (mc zm) := Blk.below (by assumption) hb9 (Blk.lt (by assumption)); have hg9 : w.grownBy w9 (some b) := g_trans (by assumption) (g_below hb9)))
          all_goals
            go_split_ands
            rename_i s1 hrr hzz hgG
            have d0 := hrr.cell 0 rfl
            have dF := hrr.frozen 0
            have hrr2 := rb_set hrr r
            have hzz2 := hzz.setOther ⟨b, 0, none⟩ (.string ⟨r.toArray⟩) (by show w.heap.size ≠ b; omega)
            have hgG2 := g_set hgG (.string ⟨r.toArray⟩)
            clear hrr hzz hgG
            go_wp2_with fail
            refine (int_any nm v _).mono ?_
            rintro e w7 ⟨rfl, hb7⟩
            have hz7 := hzz2.below hb7 hzz2.lt
            have hr7 := Blk.below hrr2 hb7 hrr2.lt
            have hgg7 := g_trans hgG2 (g_below (b := b) hb7)
            have z0 := hz7.cell 0 rfl
            have z1 := hz7.cell 1 rfl
            have z2 := hz7.cell 2 rfl
            have z3 := hz7.cell 3 rfl
            have z4 := hz7.cell 4 rfl
            have f0 := hz7.frozen 0
            have f1 := hz7.frozen 1
            have f2 := hz7.frozen 2
            have f3 := hz7.frozen 3
            have f4 := hz7.frozen 4
            unfold mv
            go_wp2
            try simp only [Exit.inBlock, Exit.then]
            refine ret_cell rfl rfl rfl (Blk.setM (x := ⟨nm, 1, [], v, false⟩) hz7) ?_
            exact MbR.ok HX.out (g_setM (x := ⟨nm, 1, [], v, false⟩) hgg7 (Nat.le_refl _)) (rb_setM (x := ⟨nm, 1, [], v, false⟩) hr7 (by omega))
        · have HX : Hid (mem s = none) := Lib.hid (by rw [HV.out, num_ok HTD.out.1 HTD.out.2 hv2.out, if_neg he]; rfl)
          obtain ⟨y, hy⟩ : ∃ y, y = Lib.itoa v := ⟨_, rfl⟩
          have HIT : Hid (∀ W, w.grownBy W (some b) → Calls Tryz.prog 53 #[.int .i64 v] W fun e w' => e = .returned (.string ⟨y.toArray⟩) ∧ Below W.heap.size W w') := Lib.hid fun W hW => by
            have := itoa_any v hvb.out.1 hvb.out.2 B W (hL.out.on (g_from hW HBB.out HBW.out))
            rwa [← hy] at this
          have hyd : (y == d) = false := by rw [beq_eq_false_iff_ne, hy]; exact he
          have hyd2 := str_ne hyd
          have hyd3 : (y != d) = true := by rw [bne, hyd]; rfl
          have hyd4 : ¬ y = d := by rw [hy]; exact he
          clear he hy
          go_wp2_with fail
          go_region_held3 (fun W => W.cell? ⟨b, 0, none⟩ = some (.string ⟨s2.toArray⟩) ∧ RB b W s2 ∧ Blk W w.heap.size 50 (mc zm) ∧ w.grownBy W (some b))
            (first | with_reducible exact keep_nb hr8d hz8d hgg8d | (go_split_ands; with_reducible exact keep_nb (by assumption) (by assumption) (by assumption)))
            (first | (go_split_ands; go_at_call 53; refine (HIT.out _ (by assumption)).mono ?_; rintro e w9 ⟨rfl, hb9⟩; have hr9 : RB b w9 s2 := Blk.below (by assumption) hb9 (Blk.lt (by assumption)); have hz9 : Blk w9 w.heap.size 50 (mc zm) := Blk.below (by assumption) hb9 (Blk.lt (by assumption)); have hg9 : w.grownBy w9 (some b) := g_trans (by assumption) (g_below hb9)))
          all_goals
            go_split_ands
            rename_i s1 hrr hzz hgG
            go_wp2
            exact ⟨rfl, MbR.bad HX.out hgG⟩
      · have y1 : decide ((48 : Int) ≤ (c.toNat : Int)) = true := by rw [decide_eq_true_iff]; exact x1
        have y2 : decide ((c.toNat : Int) ≤ 57) = false := by rw [decide_eq_false_iff_not]; omega
        have y3 := b45 x2
        clear b45 x2
        have hsl : ∀ w : World, (Instr.slice 9 (.string ⟨s2.toArray⟩) none (some (.int .i64 (k : Int))) none).run Tryz.prog w = .ok (.string ⟨(s2.take k).toArray⟩) w := fun w => by
          rw [run_slice_string_h w _ _ Tryz.underlying9 _ (k : Int) (by omega) (by rw [st_size]; omega), st_extract]; simp
        have hsl2 : ∀ w : World, (Instr.slice 9 (.string ⟨s2.toArray⟩) (some (.int .i64 (k : Int))) none none).run Tryz.prog w = .ok (.string ⟨(s2.drop k).toArray⟩) w := fun w => by
          rw [run_slice_string_l w _ _ Tryz.underlying9 _ (k : Int) (by omega) (by rw [st_size]; omega), st_extract, st_size]; simp
        obtain ⟨d, hd⟩ : ∃ d, d = s2.take k := ⟨_, rfl⟩
        obtain ⟨r, hr⟩ : ∃ r, r = s2.drop k := ⟨_, rfl⟩
        have HDL : Hid (d.length ≤ 100000) := Lib.hid (by rw [hd]; have := HL2.out; simp; omega)
        rw [← hd] at hsl
        rw [← hr] at hsl2
        have HTD : Hid (s2.takeWhile isN = d ∧ s2.dropWhile isN = r) := Lib.hid ⟨by rw [HT.out.1, hd], by rw [HT.out.2, hr]⟩
        clear hd hr
        have hLw := Lib.hid (hL.out.on (g_from hgg2 HBB.out HBW.out))
        by_cases hok : ∃ v, Lib.atoiAll d = .ok v
        case neg =>
          have hno : ∀ v, Lib.atoiAll d ≠ .ok v := fun v e => hok ⟨v, e⟩
          have HX : Hid (mem s = none) := Lib.hid (by rw [HV.out, num_bad HTD.out.1 hno]; rfl)
          have HNO := Lib.hid hno
          clear hno hok
          go_wp2_with fail
          refine (atoi_bad d B _ HDL.out hLw.out HNO.out).mono ?_
          rintro e w8 ⟨⟨x, tp, p, rfl⟩, hb8⟩
          have hgg := g_trans hgg2 (g_below (b := b) hb8)
          go_wp2
          go_quiet (fail)
          have hgn := g_drewN hgg nq
          go_wp2
          exact ⟨rfl, MbR.bad HX.out hgn⟩
        case pos =>
        obtain ⟨v, hv⟩ := hok
        have hvb := Lib.hid (Lib.atoiAll_bounds hv)
        go_wp2_with fail
        refine (atoi_ok d v _ HDL.out hv).mono ?_
        rintro e w8 ⟨rfl, hb8⟩
        have hgg8 := g_trans hgg2 (g_below (b := b) hb8)
        have hz8 := hz2.below hb8 hz2.lt
        have hr8 := Blk.below hr2 hb8 hr2.lt
        have hL8 := Lib.hid (hL.out.on (g_from hgg8 HBB.out HBW.out))
        have hv2 := Lib.hid hv
        clear hgg2 hz2 hr2 hb8 hLw hv
        have hr8d : RB b w8.drew s2 := hr8.drew
        have hz8d : Blk w8.drew w.heap.size 50 (mc zm) := hz8.drew
        have hgg8d : w.grownBy w8.drew (some b) := g_drewN hgg8 1
        clear hr8 hz8 hgg8
        by_cases he : Lib.itoa v = d
        · have HX : Hid (mem s = some (⟨nm, 1, [], v, false⟩, r)) := Lib.hid (by rw [HV.out, num_ok HTD.out.1 HTD.out.2 hv2.out, if_pos he]; rfl)
          have HIT : Hid (∀ W, w.grownBy W (some b) → Calls Tryz.prog 53 #[.int .i64 v] W fun e w' => e = .returned (.string ⟨d.toArray⟩) ∧ Below W.heap.size W w') := Lib.hid fun W hW => by
            have := itoa_any v hvb.out.1 hvb.out.2 B W (hL.out.on (g_from hW HBB.out HBW.out))
            rwa [he] at this
          have hdd : (d == d) = true := beq_self_eq_true d
          clear he
          go_wp2_with fail
          go_region_held3 (fun W => W.cell? ⟨b, 0, none⟩ = some (.string ⟨s2.toArray⟩) ∧ RB b W s2 ∧ Blk W w.heap.size 50 (mc zm) ∧ w.grownBy W (some b))
            (first | with_reducible exact keep_nb hr8d hz8d hgg8d | (go_split_ands; with_reducible exact keep_nb (by assumption) (by assumption) (by assumption)))
            (first | (go_split_ands; go_at_call 53; refine (HIT.out _ (by assumption)).mono ?_; rintro e w9 ⟨rfl, hb9⟩; have hr9 : RB b w9 s2 := Blk.below (by assumption) hb9 (Blk.lt (by assumption)); have hz9 : Blk w9 w.heap.size 50 (mc zm) := Blk.below (by assumption) hb9 (Blk.lt (by assumption)); have hg9 : w.grownBy w9 (some b) := g_trans (by assumption) (g_below hb9)))
          all_goals
            go_split_ands
            rename_i s1 hrr hzz hgG
            have d0 := hrr.cell 0 rfl
            have dF := hrr.frozen 0
            have hrr2 := rb_set hrr r
            have hzz2 := hzz.setOther ⟨b, 0, none⟩ (.string ⟨r.toArray⟩) (by show w.heap.size ≠ b; omega)
            have hgG2 := g_set hgG (.string ⟨r.toArray⟩)
            clear hrr hzz hgG
            go_wp2_with fail
            refine (int_any nm v _).mono ?_
            rintro e w7 ⟨rfl, hb7⟩
            have hz7 := hzz2.below hb7 hzz2.lt
            have hr7 := Blk.below hrr2 hb7 hrr2.lt
            have hgg7 := g_trans hgG2 (g_below (b := b) hb7)
            have z0 := hz7.cell 0 rfl
            have z1 := hz7.cell 1 rfl
            have z2 := hz7.cell 2 rfl
            have z3 := hz7.cell 3 rfl
            have z4 := hz7.cell 4 rfl
            have f0 := hz7.frozen 0
            have f1 := hz7.frozen 1
            have f2 := hz7.frozen 2
            have f3 := hz7.frozen 3
            have f4 := hz7.frozen 4
            unfold mv
            go_wp2
            try simp only [Exit.inBlock, Exit.then]
            refine ret_cell rfl rfl rfl (Blk.setM (x := ⟨nm, 1, [], v, false⟩) hz7) ?_
            exact MbR.ok HX.out (g_setM (x := ⟨nm, 1, [], v, false⟩) hgg7 (Nat.le_refl _)) (rb_setM (x := ⟨nm, 1, [], v, false⟩) hr7 (by omega))
        · have HX : Hid (mem s = none) := Lib.hid (by rw [HV.out, num_ok HTD.out.1 HTD.out.2 hv2.out, if_neg he]; rfl)
          obtain ⟨y, hy⟩ : ∃ y, y = Lib.itoa v := ⟨_, rfl⟩
          have HIT : Hid (∀ W, w.grownBy W (some b) → Calls Tryz.prog 53 #[.int .i64 v] W fun e w' => e = .returned (.string ⟨y.toArray⟩) ∧ Below W.heap.size W w') := Lib.hid fun W hW => by
            have := itoa_any v hvb.out.1 hvb.out.2 B W (hL.out.on (g_from hW HBB.out HBW.out))
            rwa [← hy] at this
          have hyd : (y == d) = false := by rw [beq_eq_false_iff_ne, hy]; exact he
          have hyd2 := str_ne hyd
          have hyd3 : (y != d) = true := by rw [bne, hyd]; rfl
          have hyd4 : ¬ y = d := by rw [hy]; exact he
          clear he hy
          go_wp2_with fail
          go_region_held3 (fun W => W.cell? ⟨b, 0, none⟩ = some (.string ⟨s2.toArray⟩) ∧ RB b W s2 ∧ Blk W w.heap.size 50 (mc zm) ∧ w.grownBy W (some b))
            (first | with_reducible exact keep_nb hr8d hz8d hgg8d | (go_split_ands; with_reducible exact keep_nb (by assumption) (by assumption) (by assumption)))
            (first | (go_split_ands; go_at_call 53; refine (HIT.out _ (by assumption)).mono ?_; rintro e w9 ⟨rfl, hb9⟩; have hr9 : RB b w9 s2 := Blk.below (by assumption) hb9 (Blk.lt (by assumption)); have hz9 : Blk w9 w.heap.size 50 (mc zm) := Blk.below (by assumption) hb9 (Blk.lt (by assumption)); have hg9 : w.grownBy w9 (some b) := g_trans (by assumption) (g_below hb9)))
          all_goals
            go_split_ands
            rename_i s1 hrr hzz hgG
            go_wp2
            exact ⟨rfl, MbR.bad HX.out hgG⟩
end Go.Proofs.YtffllacphfapnaaGreatDoor
