/-
  Chapter 4: the walk of FieldJoins.
-/
import Derived.Test.YtemlggemomiaeaaFr
import Derived.Test.YtemlggemomiaeaaApp
namespace Go.Proofs.Ytemlggemomiaeaa
open Go.RowKit

theorem prCells_one (l : PrL) : ∀ u ∈ prCells l, u.oneCell' = true := by
  intro u hu
  simp only [prCells, List.mem_flatMap] at hu
  obtain ⟨q, _, hq⟩ := hu
  simp only [prCell, List.mem_cons, List.not_mem_nil, or_false] at hq
  rcases hq with rfl | rfl <;> rfl
theorem prCells_app (l m : PrL) : prCells (l ++ m) = prCells l ++ prCells m := by simp [prCells]
theorem ne_of_beq {a b : Int} (h : (a == b) = false) : (a != b) = true := by simp [bne, h]
theorem gcnt_app (l m : PrL) (nm : List UInt8) : gcnt (l ++ m) nm = gcnt l nm + gcnt m nm := by
  induction l with
  | nil => simp [gcnt]
  | cons p r ih => simp only [List.cons_append, gcnt, ih]; omega
theorem gval_app (l m : PrL) (nm : List UInt8) (h : gcnt l nm ≠ 0) : gval (l ++ m) nm = gval l nm := by
  induction l with
  | nil => exact absurd rfl h
  | cons p r ih =>
    simp only [List.cons_append, gval]
    by_cases hp : p.1 = nm
    · rw [if_pos hp, if_pos hp]
    · rw [if_neg hp, if_neg hp]
      exact ih (by simpa [gcnt, hp] using h)

set_option maxRecDepth 20000 in
set_option maxHeartbeats 1000000 in
theorem fieldJoins_walk (a b nm : List UInt8) (ha : a.length ≤ 140737488355328) (hb : b.length ≤ 140737488355328) (w : World) :
    Calls Try.prog 7 #[.string ⟨a.toArray⟩, .string ⟨b.toArray⟩, .string ⟨nm.toArray⟩] w fun e w' => e = .returned (.bool true) ∧ Below w.heap.size w w' := by
  by_cases hbig : 16384 ≤ a.length + b.length
  · have hbig' : (16384 : Int) ≤ (a.length : Int) + (b.length : Int) := by omega
    clear hbig
    go_enter Try.func7, Try.ntmps7
    go_wp2_with fail
    refine (known_any _).mono ?_
    rintro e w1 ⟨rfl, hb1⟩
    go_wp2
    go_ret
    exact ⟨rfl, hb1⟩
  have hbig' : decide ((16384 : Int) ≤ (a.length : Int) + (b.length : Int)) = false := by simp; omega
  have hj := Fs.parse_join a b (by omega)
  have y1 := str_add a [38] (a ++ [38]) (by simp; omega) rfl
  have y2 := str_add (a ++ [38]) b (a ++ 38 :: b) (by simp; omega) (by simp)
  have hlen : (a ++ 38 :: b).length ≤ 140737488355328 := by simp; omega
  generalize a ++ [38] = ab at y1 y2
  generalize a ++ 38 :: b = c at y2 hj hlen
  rcases hj with ⟨l, m, hpa, hpb, hs, hl, hm, hpc⟩ | ⟨⟨ec, hpc, hec⟩, hj⟩
  · obtain ⟨p, hp⟩ : ∃ p, p = l ++ m := ⟨_, rfl⟩
    have hcn := gcnt_app l m nm
    have hvl := gval_app l m nm
    have hpl : p.length ≤ 64 := by rw [hp, List.length_append]; exact hs
    rw [← hp] at hpc hcn hvl
    have HA := Lib.hid (fun w => parse_as ⟨a.toArray⟩ l 0 hpa w (by rw [mk_size]; exact ha))
    have HB := Lib.hid (fun w => parse_as ⟨b.toArray⟩ m 0 hpb w (by rw [mk_size]; exact hb))
    have HC := Lib.hid (fun w => parse_as ⟨c.toArray⟩ p 0 hpc w (by rw [mk_size]; exact hlen))
    have GA := Lib.hid (fun v w h => get_any v l nm w h (by omega))
    have GB := Lib.hid (fun v w h => get_any v m nm w h (by omega))
    have GC := Lib.hid (fun v w h => get_any v p nm w h (by omega))
    have hcl := gcnt_le l nm
    have hcm := gcnt_le m nm
    have h64 : decide ((64 : Int) < (l.length : Int) + (m.length : Int)) = false := by simp; omega
    simp only [hcn] at GC
    generalize gcnt l nm = x at *
    generalize gcnt m nm = y at *
    generalize gval l nm = gl at *
    generalize gval m nm = gm at *
    generalize gval p nm = gc at *
    have HP := Lib.hid hp
    clear hpa hpb hpc hbig hcn hp
    obtain ⟨i0, hi, hz0, hz1, hz2⟩ := info_parts pr_info
    go_enter Try.func7, Try.ntmps7
    go_wp2_with fail
    refine (HA.out _).mono ?_
    rintro e w1 ⟨v1, rfl, hr1, hb1⟩
    go_wp2_with fail
    refine (HB.out _).mono ?_
    rintro e w2 ⟨v2, rfl, hr2, hb2⟩
    go_wp2_with fail
    refine (HC.out _).mono ?_
    rintro e w3 ⟨v3, rfl, hr3, hb3⟩
    have q1 := (hr1.below hb2).below hb3
    have q2 := hr2.below hb3
    obtain ⟨a1, c1, rfl⟩ := hr1.slice
    obtain ⟨a2, c2, rfl⟩ := hr2.slice
    obtain ⟨a3, c3, rfl⟩ := hr3.slice
    clear hr1 hr2
    go_wp2_with fail
    refine (known_any _).mono ?_
    rintro e w4 ⟨rfl, hb4⟩
    have Q1 := Lib.hid (q1.below hb4)
    have Q2 := Lib.hid (q2.below hb4)
    have Q3 := Lib.hid (hr3.below hb4)
    clear q1 q2 hr3
    go_wp2_with fail
    refine (GA.out _ _ Q1.out).mono ?_
    rintro e w5 ⟨rfl, e5⟩
    subst e5
    go_wp2_with fail
    refine (GB.out _ _ Q2.out).mono ?_
    rintro e w5 ⟨rfl, e5⟩
    subst e5
    go_wp2_with fail
    refine (GC.out _ _ Q3.out).mono ?_
    rintro e w5 ⟨rfl, e5⟩
    subst e5
    have hb5 : Below w4.heap.size w4 (w4.alloc (.cells #[] 44)) := (Below.refl _ _).alloc (Nat.le_refl _) _
    have R1 := Lib.hid (Q1.out.below hb5)
    have R2 := Lib.hid (Q2.out.below hb5)
    have R3 := Lib.hid (Q3.out.below hb5)
    have hown := own_fresh w4 44 2
    go_wp2_with (at_builtin; go_loud (refine wpList_app rfl (.tmp 89) (.tmp 90) 30 rfl 44 w4.heap.size i0 (.agg #[.string ⟨#[]⟩, .string ⟨#[]⟩]) 2 32 Try.underlying30 hi hz0 hz1 hz2 rfl (by decide) _ _ _ rfl hown _ _ _ rfl R1.out (prCells_one _) (by unfold maxLen; omega) (by omega) (by rw [World.size_alloc]; omega) ?_))
    rintro v5 w5 hown5 hgrow5 -
    have hB5 : Below w4.heap.size w4 w5 := below_app (Below.refl _ _) (Nat.le_refl _) hgrow5 (fun k e => by cases e; exact Nat.le_refl _)
    have S2 := Lib.hid (Q2.out.below hB5)
    clear hown hgrow5
    go_wp2_with (at_builtin; go_loud (refine wpList_app rfl (.tmp 91) (.tmp 92) 30 rfl 44 w4.heap.size i0 (.agg #[.string ⟨#[]⟩, .string ⟨#[]⟩]) 2 32 Try.underlying30 hi hz0 hz1 hz2 rfl (by decide) _ _ _ rfl hown5 _ _ _ rfl S2.out (prCells_one _) (by unfold maxLen; omega) (by omega) hB5.size ?_))
    rintro v6 w6 hown6 hgrow6 -
    have hB6 : Below w4.heap.size w4 w6 := hB5.grown hgrow6 hB5.size (fun k e => (hown5.lt k e).1)
    have T3 := Q3.out.below hB6
    have T6 : Rd w6 2 v6 (l ++ m).length (prCells (l ++ m)) := by rw [List.length_append, prCells_app]; exact Rd.of_own hown6
    have hsame := same_pairs _ _ _ _ w6 T3 T6 (by omega)
    have HSM := Lib.hid hsame
    clear hsame T3 T6 hown5 hown6 hgrow6
    go_wp2_with fail
    refine HSM.out.mono ?_
    rintro e w7 ⟨rfl, k, rfl⟩
    rw [HP.out]
    simp only [decide_true]
    have hend : Below w.heap.size w (w6.drewN k) := by
      have h12 := hb1.trans (hb2.mono hb1.size)
      have h13 := h12.trans (hb3.mono h12.size)
      have h14 := h13.trans (hb4.mono h13.size)
      exact below_drewN (h14.trans (hB6.mono h14.size)) k
    by_cases hx : x = 0
    · have hx1 : ((x : Int) == 0) = true := by simp [hx]
      clear hx hvl
      go_wp2
      go_ret
      exact ⟨rfl, hend⟩
    · have hx1 : ((x : Int) == 0) = false := by simp; omega
      have hg := hvl hx
      subst hg
      clear hx hvl
      go_wp2
      go_ret
      exact ⟨rfl, hend⟩
  · have HC := Lib.hid (fun w => parse_as ⟨c.toArray⟩ [] ec hpc w (by rw [mk_size]; exact hlen))
    have hec' : ((ec == 0) = false) := by rcases hec with rfl | rfl <;> rfl
    have hec2 : ((ec != 0) = true) := by rcases hec with rfl | rfl <;> rfl
    clear hpc hec
    have : ∃ (l m : PrL) (e1 e2 : Int), Fs.parse a = (l, e1) ∧ Fs.parse b = (m, e2) ∧ l.length ≤ 64 ∧ m.length ≤ 64 ∧ (((e1 == 0) = false) ∨ (e1 = 0 ∧ ((e2 == 0) = false)) ∨ (e1 = 0 ∧ e2 = 0 ∧ 64 < l.length + m.length)) := by
      rcases hj with ⟨l, m, h1, h2, h3, h4, h5⟩ | ⟨l, e, h1, h2, h3, h4⟩ | ⟨e, m, f, h1, h2, h3, h4⟩
      · exact ⟨l, m, 0, 0, h1, h2, h3, h4, .inr (.inr ⟨rfl, rfl, h5⟩)⟩
      · exact ⟨l, [], 0, e, h1, h3, h2, by simp, .inr (.inl ⟨rfl, by rcases h4 with rfl | rfl <;> rfl⟩)⟩
      · exact ⟨[], m, e, f, h1, h3, by simp, h4, .inl (by rcases h2 with rfl | rfl <;> rfl)⟩
    obtain ⟨l, m, e1, e2, hpa, hpb, hl, hm, hwhy⟩ := this
    have HA := Lib.hid (fun w => parse_as ⟨a.toArray⟩ l e1 hpa w (by rw [mk_size]; exact ha))
    have HB := Lib.hid (fun w => parse_as ⟨b.toArray⟩ m e2 hpb w (by rw [mk_size]; exact hb))
    clear hj hpa hpb hbig
    rcases hwhy with h1 | ⟨rfl, h1⟩ | ⟨rfl, rfl, h1⟩
    all_goals
      try (have h3 := ne_of_beq h1)
      try (have h2 : (64 : Int) < (l.length : Int) + (m.length : Int) := by omega)
      go_enter Try.func7, Try.ntmps7
      go_wp2_with fail
      refine (HA.out _).mono ?_
      rintro e w1 ⟨v1, rfl, hr1, hb1⟩
      go_wp2_with fail
      refine (HB.out _).mono ?_
      rintro e w2 ⟨v2, rfl, hr2, hb2⟩
      go_wp2_with fail
      refine (HC.out _).mono ?_
      rintro e w3 ⟨v3, rfl, hr3, hb3⟩
      obtain ⟨a1, c1, rfl⟩ := hr1.slice
      obtain ⟨a2, c2, rfl⟩ := hr2.slice
      obtain ⟨a3, c3, rfl⟩ := hr3.slice
      clear hr1 hr2 hr3
      go_wp2_with fail
      refine (known_any _).mono ?_
      rintro e w4 ⟨rfl, hb4⟩
      go_wp2_with fail
      refine (known_any _).mono ?_
      rintro e w5 ⟨rfl, hb5⟩
      go_wp2
      go_ret
      have h12 := hb1.trans (hb2.mono hb1.size)
      have h13 := h12.trans (hb3.mono h12.size)
      have h14 := h13.trans (hb4.mono h13.size)
      exact ⟨rfl, h14.trans (hb5.mono h14.size)⟩
end Go.Proofs.Ytemlggemomiaeaa
