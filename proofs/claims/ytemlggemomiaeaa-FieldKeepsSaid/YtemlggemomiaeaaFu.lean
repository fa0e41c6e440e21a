/-
  Chapter 4: the walk of FieldKeeps.
-/
import Derived.Test.YtemlggemomiaeaaFt
namespace Go.Proofs.Ytemlggemomiaeaa
open Go.RowKit

theorem own_grown {w w' : World} {B : Nat} {e : TypeId} {size : Nat} {v : Value} {n : Nat} {xs : List Value} {row : Option Nat} (h : w.ownsRow B e size v n xs) (hg : w.grownBy w' row) (hne : ∀ r, v.ownBlock = some r → some r ≠ row) : w'.ownsRow B e size v n xs := by
  refine ⟨h.1, ?_⟩
  rcases h.2 with h2 | ⟨g, cap, cur, hv, hB, hh, r⟩
  · exact .inl h2
  · exact .inr ⟨g, cap, cur, hv, hB, (hg.block g (Array.getElem?_eq_some_iff.1 hh).1 (hne g (by rw [hv]; rfl))).trans hh, r⟩
theorem own_blk {w : World} {B : Nat} {e : TypeId} {v : Value} {n : Nat} {xs : List Value} (h : w.ownsRow B e 2 v n xs) (hn : 0 < n) : ∃ g cap cs, v = .slice (some ⟨g, 0, none⟩) n cap ∧ n ≤ cap ∧ Blk w g e cs ∧ cs.length = cap * 2 := by
  rcases h.2 with ⟨_, h0⟩ | ⟨g, cap, cur, hv, _, hh, hle, _, hcs, _⟩
  · omega
  · exact ⟨g, cap, cur.toList, hv, hle, by unfold Blk; simpa using hh, by simpa using hcs⟩
theorem grown_set {w w' : World} {g : Nat} (h : w.grownBy w' (some g)) (j : Nat) (u : Value) : w.grownBy (w'.setCell ⟨g, j, none⟩ u) (some g) := by
  obtain ⟨h1, h2, h3, h4, h5⟩ := h
  refine ⟨h1, h2, h3, by simpa using h4, fun b hb hne => ?_⟩
  rw [Below.heap_setCell _ _ _ _ (fun e => hne (by simpa using e))]
  exact h5 b hb hne
theorem rd_front {W : World} {b o n m cap : Nat} {xs ys : List Value} (h : Rd W 2 (.slice (some ⟨b, o, none⟩) m cap) m (xs ++ ys)) (hx : xs.length = n * 2) (hn : n < m) : Rd W 2 (.slice (some ⟨b, o, none⟩) n cap) n xs := by
  refine ⟨hx, ?_⟩
  rcases h.2 with ⟨_, h0⟩ | ⟨b', o', cap', e, hle, hc⟩
  · omega
  · cases e
    refine .inr ⟨b, o, cap, rfl, by omega, fun j u hj => hc j u ?_⟩
    rw [List.getElem?_append_left (List.getElem?_eq_some_iff.1 hj).1]; exact hj

set_option maxRecDepth 20000 in
set_option maxHeartbeats 1000000 in
theorem fieldKeeps_walk (v : Value) (l : PrL) (s : ByteArray) (w : World) (h : Rd w 2 v l.length (prCells l)) (hm : (l.length + 1) * 32 ≤ 140737488355328) (hs : s.size ≤ 140737488355328) :
    Calls Try.prog 11 #[v, .string s] w fun e w' => e = .returned (.bool true) ∧ Below w.heap.size w w' := by
  obtain ⟨a0, c0, rfl⟩ := h.slice
  obtain ⟨i0, hi, hz0, hz1, hz2⟩ := info_parts pr_info
  have hfresh : ∀ w : World, Below w.heap.size w (w.alloc (.cells #[] 44)) := fun w => (Below.refl _ _).alloc (Nat.le_refl _) _
  have H0 := Lib.hid h
  have HF := Lib.hid hfresh
  have HPA := Lib.hid (fun w => parse_any s w hs)
  have hlx := parse_len s.data.toList
  unfold PsRet at HPA
  generalize Fs.parse s.data.toList = r at HPA hlx
  obtain ⟨lx, er⟩ := r
  clear h hfresh hs
  go_enter Try.func11, Try.ntmps11
  have hown := own_fresh w 44 2
  have R0 := Lib.hid (H0.out.below (HF.out w))
  go_wp2_with (at_builtin; go_loud (refine wpList_app rfl (.tmp 13) (.tmp 14) 30 rfl 44 w.heap.size i0 (.agg #[.string ⟨#[]⟩, .string ⟨#[]⟩]) 2 32 Try.underlying30 hi hz0 hz1 hz2 rfl (by decide) _ _ _ rfl hown _ _ _ rfl R0.out (prCells_one _) (by unfold maxLen; omega) (by omega) (by rw [World.size_alloc]; omega) ?_))
  rintro v1 w1 o1 hg1 -
  have hb1 : Below w.heap.size w w1 := below_app (Below.refl _ _) (Nat.le_refl _) hg1 (fun k e => by cases e; exact Nat.le_refl _)
  have H1 := Lib.hid (H0.out.below hb1)
  clear hown R0 hg1 H0
  have hown := own_fresh w1 44 2
  have R1 := Lib.hid (H1.out.below (HF.out w1))
  go_wp2_with (at_builtin; go_loud (refine wpList_app rfl (.tmp 16) (.tmp 17) 30 rfl 44 w1.heap.size i0 (.agg #[.string ⟨#[]⟩, .string ⟨#[]⟩]) 2 32 Try.underlying30 hi hz0 hz1 hz2 rfl (by decide) _ _ _ rfl hown _ _ _ rfl R1.out (prCells_one _) (by unfold maxLen; omega) (by omega) (by rw [World.size_alloc]; omega) ?_))
  rintro v2 w2 o2 hg2 -
  have hb2 : Below w1.heap.size w1 w2 := below_app (Below.refl _ _) (Nat.le_refl _) hg2 (fun k e => by cases e; exact Nat.le_refl _)
  clear hown R1 hg2 H1
  have hroom := cells_new w2 [.string ⟨#[114, 111, 111, 109]⟩, .string ⟨#[]⟩] 44
  simp only [Addr.add_lit] at hroom
  go_wp2_with (at_builtin; go_loud (refine wpList_app rfl (.tmp 18) (.tmp 20) 30 rfl 44 w1.heap.size i0 (.agg #[.string ⟨#[]⟩, .string ⟨#[]⟩]) 2 32 Try.underlying30 hi hz0 hz1 hz2 rfl (by decide) _ _ _ rfl (o2.alloc _) _ 1 [.string ⟨#[114, 111, 111, 109]⟩, .string ⟨#[]⟩] rfl ⟨rfl, .inr ⟨w2.heap.size, 0, 1, rfl, Nat.le_refl _, hroom⟩⟩ (by simp [Value.oneCell']) (by unfold maxLen; omega) (by omega) (by have := hb2.size; rw [World.size_alloc]; omega) ?_))
  rintro v3 w3 o3 hg3 -
  have hb3 : Below w1.heap.size w1 w3 := below_app hb2 hb2.size hg3 (fun k e => (o2.lt k e).1)
  clear o2 hg3 hroom hb2
  obtain ⟨g, cap, cs3, rfl, hle, -, -⟩ := own_blk o3 (by omega)
  have hle' : l.length ≤ cap := by omega
  go_wp2_with fail
  refine (print_any _ l _ (rd_front (Rd.of_own o3) (prCells_length l) (by omega)) (by omega)).mono ?_
  rintro e w4 ⟨rfl, hb4⟩
  go_wp2_with fail
  refine (get_any _ l [97] _ (rd_front (Rd.of_own (own_below o3 hb4)) (prCells_length l) (by omega)) (by omega)).mono ?_
  rintro e w5 ⟨rfl, e5⟩
  subst e5
  go_wp2_with fail
  refine (HPA.out w4).mono ?_
  rintro e w5 ⟨v5, rfl, o5, hb5⟩
  obtain ⟨a5, c5, rfl⟩ := (Rd.of_own o5).slice
  go_wp2_with fail
  refine (HPA.out w5).mono ?_
  rintro e w6 ⟨v6, rfl, o6, hb6⟩
  obtain ⟨a6, c6, rfl⟩ := (Rd.of_own o6).slice
  have hown := own_fresh w6 44 2
  have R6 := Lib.hid ((Rd.of_own o6).below (HF.out w6))
  go_wp2_with (at_builtin; go_loud (refine wpList_app rfl (.tmp 42) (.tmp 43) 30 rfl 44 w6.heap.size i0 (.agg #[.string ⟨#[]⟩, .string ⟨#[]⟩]) 2 32 Try.underlying30 hi hz0 hz1 hz2 rfl (by decide) _ _ _ rfl hown _ _ _ rfl R6.out (prCells_one _) (by unfold maxLen; omega) (by omega) (by rw [World.size_alloc]; omega) ?_))
  rintro v7 w7 o7 hg7 -
  have hb7 : Below w6.heap.size w6 w7 := below_app (Below.refl _ _) (Nat.le_refl _) hg7 (fun k e => by cases e; exact Nat.le_refl _)
  clear hown R6 hg7
  obtain ⟨a7, c7, rfl⟩ := (Rd.of_own o7).slice
  have s1 := hb1.size
  have s3 := hb3.size
  have s4 := hb4.size
  have s5 := hb5.size
  have s6 := hb6.size
  have s7 := hb7.size
  have q1 := own_below (own_below (own_below (own_below (own_below o1 hb3) hb4) hb5) hb6) hb7
  have q3 := own_below (own_below (own_below (own_below o3 hb4) hb5) hb6) hb7
  have q5 := own_below (own_below o5 hb6) hb7
  have q6 := own_below o6 hb7
  go_wp2_with fail
  go_loopw [12] (fun i wr => ∃ k : Nat, k ≤ lx.length ∧ i = .int .i64 k ∧ w7.grownBy wr (Value.slice a5 lx.length c5).ownBlock ∧ (0 < lx.length → ∃ g5 cap5 cs, Value.slice a5 lx.length c5 = .slice (some ⟨g5, 0, none⟩) lx.length cap5 ∧ lx.length ≤ cap5 ∧ Blk wr g5 44 cs ∧ cs.length = cap5 * 2)) (fun i _ => lx.length - (intOf i).toNat)
  case atStart => exact ⟨0, by omega, rfl, World.grownBy.refl _ _, fun h0 => own_blk q5 h0⟩
  case round =>
    obtain ⟨k, hk, rfl, hgr, hx⟩ := hrel
    by_cases hlt : k < lx.length
    case pos =>
      obtain ⟨g5, cap5, cs, e5, hle5, hB, hcs⟩ := hx (by omega)
      cases e5
      obtain ⟨u0, hu0⟩ : ∃ u, cs[k * 2]? = some u := ⟨cs[k * 2], List.getElem?_eq_getElem (by omega)⟩
      obtain ⟨u1, hu1⟩ : ∃ u, cs[k * 2 + 1]? = some u := ⟨cs[k * 2 + 1], List.getElem?_eq_getElem (by omega)⟩
      have d0 := hB.cell _ hu0
      have d1 := hB.cell _ hu1
      have f0 := hB.frozen (k * 2)
      have f1 := hB.frozen (k * 2 + 1)
      clear hx hu0 hu1
      go_wp2
      go_roundw
      case rel => exact ⟨k + 1, by omega, by go_num, grown_set (grown_set hgr _ _) _ _, fun _ => ⟨g5, _, _, rfl, hle5, (hB.set _ _).set _ _, by simpa using hcs⟩⟩
      case measure => simp [intOf]; omega
    case neg =>
      have r1 := own_grown q1 hgr (fun r hr e => by have h1 := (o1.lt r hr).2; have h2 := (o5.lt r e.symm).1; omega)
      have r3 := own_grown q3 hgr (fun r hr e => by have h1 := (o3.lt r hr).2; have h2 := (o5.lt r e.symm).1; omega)
      have r6 := own_grown q6 hgr (fun r hr e => by have h1 := (o6.lt r hr).1; have h2 := (o5.lt r e.symm).2; omega)
      have r7 := own_grown o7 hgr (fun r hr e => by have h1 := (o7.lt r hr).1; have h2 := (o5.lt r e.symm).2; omega)
      have hB7 : Below w.heap.size w w7 := by
        have h13 := hb1.trans (hb3.mono s1)
        have h14 := h13.trans (hb4.mono h13.size)
        have h15 := h14.trans (hb5.mono h14.size)
        have h16 := h15.trans (hb6.mono h15.size)
        exact h16.trans (hb7.mono h16.size)
      have hBr : Below w.heap.size w wr := hB7.grown hgr hB7.size (fun k e => by have h2 := (o5.lt k e).1; omega)
      clear hx hgr q1 q3 q5 q6
      go_wp2_with fail
      refine (known_any _).mono ?_
      rintro e w8 ⟨rfl, hb8⟩
      have t1 := own_below r1 hb8
      have t3 := own_below r3 hb8
      have t6 := own_below r6 hb8
      have t7 := own_below r7 hb8
      have u3 := rd_front (Rd.of_own t3) (prCells_length l) (by omega)
      go_wp2_with fail
      refine (same_pairs _ _ l l _ u3 (Rd.of_own t1) (by omega)).mono ?_
      rintro e w9 ⟨rfl, m, rfl⟩
      simp only [decide_true]
      have croom : (w8.drewN m).cell? ⟨g, l.length * 2, none⟩ = some (.string ⟨#[114, 111, 111, 109]⟩) := by
        rcases (Rd.of_own t3).2 with ⟨_, h0⟩ | ⟨b', o', cap', e, _, hc⟩
        · omega
        · cases e
          have := hc (l.length * 2) (.string ⟨#[114, 111, 111, 109]⟩) (by rw [List.getElem?_append_right (by rw [prCells_length]; omega), prCells_length]; simp)
          rw [Nat.zero_add] at this
          exact this
      have y6 := Rd.of_own (own_drewN t6 m)
      have y7 := Rd.of_own (own_drewN t7 m)
      clear t1 t3 t6 t7 u3 r1 r3 r6 r7
      go_wp2_with fail
      refine (same_pairs _ _ lx lx _ y6 (by simpa using y7) (by omega)).mono ?_
      rintro e w10 ⟨rfl, m2, rfl⟩
      simp only [decide_true]
      go_wp2
      go_ret
      exact ⟨rfl, below_drewN (hBr.trans (hb8.mono hBr.size)) (m + m2)⟩
end Go.Proofs.Ytemlggemomiaeaa
