/-
  Chapter 5: the walk of JsonKeeps. Conditions: the listed variables lie as the program's text lays them.
-/
import Derived.Test.YtfhhgagnjphncaaDoorJ4
import Derived.Test.YtfhhgagnjphncaaDoorApp
namespace Go.Proofs.YtfhhgagnjphncaaDoor
open Go.RowKit Js

theorem own_grown {w w' : World} {B : Nat} {e : TypeId} {size : Nat} {v : Value} {n : Nat} {xs : List Value} {row : Option Nat} (h : w.ownsRow B e size v n xs) (hg : w.grownBy w' row) (hne : ∀ r, v.ownBlock = some r → some r ≠ row) : w'.ownsRow B e size v n xs := by
  refine ⟨h.1, ?_⟩
  rcases h.2 with h2 | ⟨g, cap, cur, hv, hB, hh, r⟩
  · exact .inl h2
  · exact .inr ⟨g, cap, cur, hv, hB, (hg.block g (Array.getElem?_eq_some_iff.1 hh).1 (hne g (by rw [hv]; rfl))).trans hh, r⟩
theorem own_blk5 {w : World} {B : Nat} {e : TypeId} {v : Value} {n : Nat} {xs : List Value} (h : w.ownsRow B e 5 v n xs) (hn : 0 < n) : ∃ g cap cs, v = .slice (some ⟨g, 0, none⟩) n cap ∧ n ≤ cap ∧ Blk w g e cs ∧ cs.length = cap * 5 := by
  rcases h.2 with ⟨_, h0⟩ | ⟨g, cap, cur, hv, _, hh, hle, _, hcs, _⟩
  · omega
  · exact ⟨g, cap, cur.toList, hv, hle, by unfold Blk; simpa using hh, by simpa using hcs⟩
theorem grown_set {w w' : World} {g : Nat} (h : w.grownBy w' (some g)) (j : Nat) (u : Value) : w.grownBy (w'.setCell ⟨g, j, none⟩ u) (some g) := by
  obtain ⟨h1, h2, h3, h4, h5⟩ := h
  refine ⟨h1, h2, h3, by simpa using h4, fun b hb hne => ?_⟩
  rw [Below.heap_setCell _ _ _ _ (fun e => hne (by simpa using e))]
  exact h5 b hb hne
/-- the front of a row with one element more -/
theorem rdm_front {W : World} {b o m cap : Nat} {l : List Mb} {ys : List Value} (h : Rd W 5 (.slice (some ⟨b, o, none⟩) m cap) m (mCells l ++ ys)) (hn : l.length < m) : RdM W (.slice (some ⟨b, o, none⟩) l.length cap) l := by
  refine ⟨mCells_length l, ?_⟩
  rcases h.2 with ⟨_, h0⟩ | ⟨b', o', cap', e, hle, hc⟩
  · omega
  · cases e
    refine .inr ⟨b, o, cap, rfl, by omega, fun j u hj => hc j u ?_⟩
    rw [List.getElem?_append_left (List.getElem?_eq_some_iff.1 hj).1]; exact hj
/-- Parse's answer, as the law uses it -/
theorem parse_own (s : By) (B : Nat) (w : World) (hB : B ≤ w.heap.size) (hL : LaidB B w) {L : List Mb} {E : Int} (hp : parse s = (L, E)) :
    Calls Tryd.prog 13 #[.string ⟨s.toArray⟩] w fun e w' => ∃ v, e = .returned (.tuple #[v, .int .i64 E]) ∧ OwnM w' w.heap.size v L ∧ Below w.heap.size w w' :=
  (jparse_any s w (Lib.hid (hL.mono hB))).mono fun e w' h => by
    unfold PaR at h; rw [hp] at h; exact h

set_option maxRecDepth 20000 in
set_option maxHeartbeats 4000000 in
theorem jsonKeeps_walk (v : Value) (l : List Mb) (s : By) (w : World) (h : RdM w v l) (hf : Hid (fitL l)) (hm : (l.length + 1) * 56 ≤ 140737488355328) (hL : Hid (LaidB w.heap.size w)) :
    Calls Tryd.prog 9 #[v, .string ⟨s.toArray⟩] w fun e w' => e = .returned (.bool true) ∧ Below w.heap.size w w' := by
  obtain ⟨a0, c0, rfl⟩ := h.slice
  obtain ⟨i0, hi, hz0, hz1, hz2⟩ := info_parts mb_row
  have hfresh : ∀ w : World, Below w.heap.size w (w.alloc (.cells #[] 38)) := fun w => (Below.refl _ _).alloc (Nat.le_refl _) _
  have H0 := Lib.hid h
  have HF := Lib.hid hfresh
  obtain ⟨P, hP⟩ : ∃ P, P = parse s := ⟨_, rfl⟩
  obtain ⟨lx, E⟩ := P
  have hlx : lx.length ≤ 64 := by
    rcases parse_err s with h | ⟨h, _⟩ | ⟨h, _⟩
    · have := (pr_few (pr_parse (l := (parse s).1) (Prod.ext rfl h)).1).1; rw [← hP] at this; exact this
    · rw [h] at hP; cases hP; simp
    · rw [h] at hP; cases hP; simp
  have HP := Lib.hid hP.symm
  clear h hfresh hP
  go_enter Tryd.func9, Tryd.ntmps9
  have hown := own_fresh w 38 5
  have R0 := Lib.hid (H0.out.below (HF.out w))
  unfold RdM at R0
  go_wp2_with (at_builtin; go_loud (refine wpList_app rfl (.tmp 12) (.tmp 13) 22 rfl 38 w.heap.size i0 (.agg #[.string ⟨#[]⟩, .int .i64 0, .string ⟨#[]⟩, .int .i64 0, .bool false]) 5 56 Tryd.underlying22 hi hz0 hz1 hz2 rfl (by decide) _ _ _ rfl hown _ _ _ rfl R0.out (mCells_one _) (by unfold maxLen; omega) (by omega) (by rw [World.size_alloc]; omega) ?_))
  rintro v2 w2 o2 hg2 -
  have hb2 : Below w.heap.size w w2 := below_app (Below.refl _ _) (Nat.le_refl _) hg2 (fun k e => by cases e; exact Nat.le_refl _)
  clear hown R0 hg2
  have hroom := cells_new w2 [.string ⟨#[114, 111, 111, 109]⟩, .int .i64 0, .string ⟨#[]⟩, .int .i64 0, .bool false] 38
  simp only [Addr.add_lit] at hroom
  have HRM := Lib.hid hroom
  clear hroom
  go_wp2_with (at_builtin; go_loud (refine wpList_app rfl (.tmp 14) (.tmp 16) 22 rfl 38 w.heap.size i0 (.agg #[.string ⟨#[]⟩, .int .i64 0, .string ⟨#[]⟩, .int .i64 0, .bool false]) 5 56 Tryd.underlying22 hi hz0 hz1 hz2 rfl (by decide) _ _ _ rfl (o2.alloc _) _ 1 [.string ⟨#[114, 111, 111, 109]⟩, .int .i64 0, .string ⟨#[]⟩, .int .i64 0, .bool false] rfl ⟨rfl, .inr ⟨w2.heap.size, 0, 1, rfl, Nat.le_refl _, HRM.out⟩⟩ (by simp [Value.oneCell']) (by unfold maxLen; omega) (by omega) (by rw [World.size_alloc]; have := hb2.size; omega) ?_))
  rintro v3 w3 o3 hg3 -
  have hb3 : Below w.heap.size w w3 := below_app hb2 hb2.size hg3 (fun k e => (o2.lt k e).1)
  clear o2 hg3 HRM hb2
  obtain ⟨g, cap, cs3, rfl, hle, -, -⟩ := own_blk5 o3 (by omega)
  have hle' : l.length ≤ cap := by omega
  go_wp2_with fail
  refine (print_any _ l _ (rdm_front (Rd.of_own o3) (by omega)) hf (by omega) (Lib.hid (hL.out.on hb3).tab.here)).mono ?_
  rintro e w4 ⟨rfl, hb4⟩
  have hbw4 := below_step hb3 hb4
  go_wp2_with fail
  refine (get_any _ l [97] _ (rdm_front (Rd.of_own (own_below o3 hb4)) (by omega)) (by omega)).mono ?_
  rintro e w5 ⟨rfl, hb5⟩
  have hbw5 := below_step hbw4 hb5
  go_wp2_with fail
  refine (parse_own s w.heap.size w5 hbw5.size (hL.out.on hbw5) HP.out).mono ?_
  rintro e w6 ⟨v6, rfl, o6, hb6⟩
  have hbw6 := below_step hbw5 hb6
  unfold OwnM at o6
  obtain ⟨a6, c6, rfl⟩ := (Rd.of_own o6).slice
  go_wp2_with fail
  refine (parse_own s w.heap.size w6 hbw6.size (hL.out.on hbw6) HP.out).mono ?_
  rintro e w7 ⟨v7, rfl, o7, hb7⟩
  have hbw7 := below_step hbw6 hb7
  unfold OwnM at o7
  obtain ⟨a7, c7, rfl⟩ := (Rd.of_own o7).slice
  have hown := own_fresh w7 38 5
  have R7 := Lib.hid ((Rd.of_own o7).below (HF.out w7))
  go_wp2_with (at_builtin; go_loud (refine wpList_app rfl (.tmp 38) (.tmp 39) 22 rfl 38 w7.heap.size i0 (.agg #[.string ⟨#[]⟩, .int .i64 0, .string ⟨#[]⟩, .int .i64 0, .bool false]) 5 56 Tryd.underlying22 hi hz0 hz1 hz2 rfl (by decide) _ _ _ rfl hown _ _ _ rfl R7.out (mCells_one _) (by unfold maxLen; omega) (by omega) (by rw [World.size_alloc]; omega) ?_))
  rintro v8 w8 o8 hg8 -
  have hb8 : Below w7.heap.size w7 w8 := below_app (Below.refl _ _) (Nat.le_refl _) hg8 (fun k e => by cases e; exact Nat.le_refl _)
  have hbw8 := below_step hbw7 hb8
  clear hown R7 hg8
  obtain ⟨a8, c8, rfl⟩ := (Rd.of_own o8).slice
  have s3 := hb3.size
  have s4 := hb4.size
  have s5 := hb5.size
  have s6 := hb6.size
  have s7 := hb7.size
  have s8 := hb8.size
  have q3 := own_below (own_below (own_below (own_below (own_below o3 hb4) hb5) hb6) hb7) hb8
  have q6 := own_below (own_below o6 hb7) hb8
  have q7 := own_below o7 hb8
  go_wp2_with fail
  go_loopw [11] (fun i wr => ∃ k : Nat, k ≤ lx.length ∧ i = .int .i64 k ∧ w8.grownBy wr (Value.slice a6 lx.length c6).ownBlock ∧ (0 < lx.length → ∃ g5 cap5 cs, Value.slice a6 lx.length c6 = .slice (some ⟨g5, 0, none⟩) lx.length cap5 ∧ lx.length ≤ cap5 ∧ Blk wr g5 38 cs ∧ cs.length = cap5 * 5)) (fun i _ => lx.length - (intOf i).toNat)
  case atStart => exact ⟨0, by omega, rfl, World.grownBy.refl _ _, fun h0 => own_blk5 q6 h0⟩
  case round =>
    obtain ⟨k, hk, rfl, hgr, hx⟩ := hrel
    by_cases hlt : k < lx.length
    case pos =>
      obtain ⟨g5, cap5, cs, e5, hle5, hB, hcs⟩ := hx (by omega)
      cases e5
      obtain ⟨u0, hu0⟩ : ∃ u, cs[k * 5]? = some u := ⟨cs[k * 5], List.getElem?_eq_getElem (by omega)⟩
      obtain ⟨u1, hu1⟩ : ∃ u, cs[k * 5 + 1]? = some u := ⟨cs[k * 5 + 1], List.getElem?_eq_getElem (by omega)⟩
      obtain ⟨u2, hu2⟩ : ∃ u, cs[k * 5 + 2]? = some u := ⟨cs[k * 5 + 2], List.getElem?_eq_getElem (by omega)⟩
      obtain ⟨u3, hu3⟩ : ∃ u, cs[k * 5 + 3]? = some u := ⟨cs[k * 5 + 3], List.getElem?_eq_getElem (by omega)⟩
      obtain ⟨u4, hu4⟩ : ∃ u, cs[k * 5 + 4]? = some u := ⟨cs[k * 5 + 4], List.getElem?_eq_getElem (by omega)⟩
      have d0 := hB.cell _ hu0
      have d1 := hB.cell _ hu1
      have d2 := hB.cell _ hu2
      have d3 := hB.cell _ hu3
      have d4 := hB.cell _ hu4
      have f0 := hB.frozen (k * 5)
      have f1 := hB.frozen (k * 5 + 1)
      have f2 := hB.frozen (k * 5 + 2)
      have f3 := hB.frozen (k * 5 + 3)
      have f4 := hB.frozen (k * 5 + 4)
      clear hx hu0 hu1 hu2 hu3 hu4
      go_wp2
      go_roundw
      case rel => exact ⟨k + 1, by omega, by go_num, grown_set (grown_set (grown_set (grown_set (grown_set hgr _ _) _ _) _ _) _ _) _ _, fun _ => ⟨g5, _, _, rfl, hle5, ((((hB.set _ _).set _ _).set _ _).set _ _).set _ _, by simpa using hcs⟩⟩
      case measure => simp [intOf]; omega
    case neg =>
      have r3 := own_grown q3 hgr (fun r hr e => by have h1 := (o3.lt r hr).2; have h2 := (o6.lt r e.symm).1; omega)
      have r7 := own_grown q7 hgr (fun r hr e => by have h1 := (o7.lt r hr).1; have h2 := (o6.lt r e.symm).2; omega)
      have r8 := own_grown o8 hgr (fun r hr e => by have h1 := (o8.lt r hr).1; have h2 := (o6.lt r e.symm).2; omega)
      have hBr : Below w.heap.size w wr := hbw8.grown hgr hbw8.size (fun k e => by have h2 := (o6.lt k e).1; omega)
      clear hx hgr q3 q6 q7
      go_wp2_with fail
      refine (known_any w.heap.size _ hBr.size (Lib.hid (hL.out.on hBr))).mono ?_
      rintro e w9 ⟨rfl, hb9⟩
      have hbw9 := below_step hBr hb9
      have t3 := own_below r3 hb9
      have t7 := own_below r7 hb9
      have t8 := own_below r8 hb9
      have hr0 := H0.out.below hbw9
      go_wp2_with fail
      refine (same_true _ _ l _ (rdm_front (Rd.of_own t3) (by omega)) hr0 (by omega)).mono ?_
      rintro e w10 ⟨rfl, hb10⟩
      have hbw10 := below_step hbw9 hb10
      have y7 := Rd.of_own (own_below t7 hb10)
      have y8 := Rd.of_own (own_below t8 hb10)
      have croom : w10.cell? ⟨g, l.length * 5, none⟩ = some (.string ⟨#[114, 111, 111, 109]⟩) := by
        rcases (Rd.of_own (own_below t3 hb10)).2 with ⟨_, h0⟩ | ⟨b', o', cap', e, _, hc⟩
        · omega
        · cases e
          have := hc (l.length * 5) (.string ⟨#[114, 111, 111, 109]⟩) (by rw [List.getElem?_append_right (by rw [mCells_length]; omega), mCells_length]; simp)
          rw [Nat.zero_add] at this
          exact this
      clear t3 t7 t8 hr0 r3 r7 r8
      go_wp2_with fail
      refine (same_true _ _ lx _ y7 y8 (by omega)).mono ?_
      rintro e w11 ⟨rfl, hb11⟩
      have hbw11 := below_step hbw10 hb11
      go_wp2
      go_ret
      exact ⟨rfl, hbw11⟩
end Go.Proofs.YtfhhgagnjphncaaDoor
