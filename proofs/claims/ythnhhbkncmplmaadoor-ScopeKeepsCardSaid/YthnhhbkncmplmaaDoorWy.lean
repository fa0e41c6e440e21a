/-
  Chapter 6: the walks of ScopeMeets, ScopeBack, ScopeOrders.
-/
import Derived.Test.YthnhhbkncmplmaaDoorWx
import Derived.Test.YthnhhbkncmplmaaDoorWp
namespace Go.Proofs.YthnhhbkncmplmaaDoor
open Go.RowKit

theorem rdl_two (w : World) (v1 v2 : Value) (l1 l2 : List (List UInt8)) (h1 : RdS w v1 l1) (h2 : RdS w v2 l2) (t : TypeId) : RdL (w.alloc (.cells #[v1, v2] t)) (.slice (some ⟨w.heap.size, 0, none⟩) 2 2) [l1, l2] := by
  have hb : Below w.heap.size w (w.alloc (.cells #[v1, v2] t)) := (Below.refl _ _).alloc (Nat.le_refl _) _
  refine ⟨[v1, v2], rfl, ⟨rfl, .inr ⟨w.heap.size, 0, 2, rfl, Nat.le_refl _, fun j u hj => ?_⟩⟩, fun i x l' hx hl => ?_⟩
  · have := cells_new w [v1, v2] t j u hj
    rw [Addr.add_lit] at this
    exact this
  · match i, hx, hl with
    | 0, hx, hl => cases hx; cases hl; exact h1.below hb
    | 1, hx, hl => cases hx; cases hl; exact h2.below hb
theorem rdl_three (w : World) (v1 v2 v3 : Value) (l1 l2 l3 : List (List UInt8)) (h1 : RdS w v1 l1) (h2 : RdS w v2 l2) (h3 : RdS w v3 l3) (t : TypeId) : RdL (w.alloc (.cells #[v1, v2, v3] t)) (.slice (some ⟨w.heap.size, 0, none⟩) 3 3) [l1, l2, l3] := by
  have hb : Below w.heap.size w (w.alloc (.cells #[v1, v2, v3] t)) := (Below.refl _ _).alloc (Nat.le_refl _) _
  refine ⟨[v1, v2, v3], rfl, ⟨rfl, .inr ⟨w.heap.size, 0, 3, rfl, Nat.le_refl _, fun j u hj => ?_⟩⟩, fun i x l' hx hl => ?_⟩
  · have := cells_new w [v1, v2, v3] t j u hj
    rw [Addr.add_lit] at this
    exact this
  · match i, hx, hl with
    | 0, hx, hl => cases hx; cases hl; exact h1.below hb
    | 1, hx, hl => cases hx; cases hl; exact h2.below hb
    | 2, hx, hl => cases hx; cases hl; exact h3.below hb
theorem both_none (w : World) : Calls Tryd.prog 25 #[.slice none 0 0] w fun e w' => ∃ v', e = .returned v' ∧ OwnS w' w.heap.size v' [] ∧ Below w.heap.size w w' := by
  have h : RdL w (.slice none 0 0) [] := ⟨[], rfl, Rd.nil _ _, by simp⟩
  have := both_any _ [] w h (by simp) (by simp)
  rw [show ([] : List (List (List UInt8))).flatten = [] from rfl, Sc.set_nil] at this
  exact this
theorem mt_len (A B : List (List UInt8)) : (mt A B).length ≤ A.length := Nat.le_trans (Sc.set_len _) (List.length_filter_le _ _)
theorem un_len (A B : List (List UInt8)) : (un A B).length ≤ A.length + B.length := by have := Sc.set_len (A ++ B); rw [List.length_append] at this; exact this

set_option maxRecDepth 20000 in
set_option maxHeartbeats 4000000 in
theorem scopeMeets_walk (va vb vc : Value) (la lb lc : List (List UInt8)) (m : Int) (w : World) (ha : RdS w va la) (hb : RdS w vb lb) (hc : RdS w vc lc) (hm : w.cell? ⟨0, 0, none⟩ = some (.int .i64 m)) (hg : 0 < w.heap.size) :
    Calls Tryd.prog 7 #[va, vb, vc] w fun e w' => e = .returned (.bool true) ∧ Below w.heap.size w w' := by
  have FA := Lib.hid (few_any va la w ha)
  have FB := Lib.hid (few_any vb lb w hb)
  have FC := Lib.hid (few_any vc lc w hc)
  have ka := few_len la
  have kb := few_len lb
  have kc := few_len lc
  have HM := Lib.hid hm
  obtain ⟨i0, hi, hz0, hz1, hz2⟩ := info_parts str_row
  clear ha hb hc hm
  generalize fewW la = A at *
  generalize fewW lb = B at *
  generalize fewW lc = C at *
  have kab := mt_len A B
  obtain ⟨ALL, hall⟩ : ∃ l, A ++ B ++ C = l := ⟨_, rfl⟩
  have kall := Sc.set_len ALL
  have kal2 : ALL.length = A.length + B.length + C.length := by rw [← hall, List.length_append, List.length_append]
  have kal3 : ALL.length ≤ 900 := by omega
  have HALL := Lib.hid hall
  have HKL := Lib.hid kal2
  clear hall kal2
  have SM := Lib.hid (fun x (hx : x ∈ mt A B) => set_short hx)
  have SA := Lib.hid (fun x (hx : x ∈ Sc.set ALL) => set_short hx)
  go_enter Tryd.func7, Tryd.ntmps7
  go_wp2_with fail
  refine FA.out.mono ?_
  rintro e w1 ⟨v1, rfl, hr1, e1⟩
  subst e1
  have RA := Lib.hid hr1
  clear hr1
  go_wp2_with fail
  refine FB.out.mono ?_
  rintro e w1 ⟨v2, rfl, hr2, e1⟩
  subst e1
  have RB := Lib.hid hr2
  clear hr2
  go_wp2_with fail
  refine FC.out.mono ?_
  rintro e w1 ⟨v3, rfl, hr3, e1⟩
  subst e1
  have RC := Lib.hid hr3
  obtain ⟨a1, c1, rfl⟩ := RA.out.1.slice
  obtain ⟨a2, c2, rfl⟩ := RB.out.1.slice
  obtain ⟨a3, c3, rfl⟩ := RC.out.1.slice
  clear hr3 FA FB FC
  have hown := own_fresh w 9 1
  have hba : Below w.heap.size w (w.alloc (.cells #[] 9)) := (Below.refl _ _).alloc (Nat.le_refl _) _
  have rd1 := Lib.hid (RA.out.1.below hba)
  go_wp2_with (at_builtin; go_loud (refine wpList_app rfl (.tmp 14) (.tmp 15) 24 rfl 9 w.heap.size i0 (.string ⟨#[]⟩) 1 16 Tryd.underlying24 hi hz0 hz1 hz2 rfl (by decide) _ _ _ rfl hown _ _ _ rfl rd1.out (sv_one A) (by unfold maxLen; omega) (by omega) (by rw [World.size_alloc]; omega) ?_))
  rintro v5 w5 hown5 hgrow5 -
  have hB5 : Below w.heap.size w w5 := below_app (Below.refl _ _) (Nat.le_refl _) hgrow5 (fun k e => by cases e; exact Nat.le_refl _)
  have rd2 := Lib.hid (RB.out.1.below hB5)
  clear hown hgrow5 rd1 hba
  go_wp2_with (at_builtin; go_loud (refine wpList_app rfl (.tmp 16) (.tmp 17) 24 rfl 9 w.heap.size i0 (.string ⟨#[]⟩) 1 16 Tryd.underlying24 hi hz0 hz1 hz2 rfl (by decide) _ _ _ rfl hown5 _ _ _ rfl rd2.out (sv_one B) (by unfold maxLen; omega) (by omega) hB5.size ?_))
  rintro v6 w6 hown6 hgrow6 -
  have hB6 : Below w.heap.size w w6 := hB5.grown hgrow6 hB5.size (fun k e => (hown5.lt k e).1)
  have rd3 := Lib.hid (RC.out.1.below hB6)
  clear hown5 hgrow6 rd2 hB5
  go_wp2_with (at_builtin; go_loud (refine wpList_app rfl (.tmp 18) (.tmp 19) 24 rfl 9 w.heap.size i0 (.string ⟨#[]⟩) 1 16 Tryd.underlying24 hi hz0 hz1 hz2 rfl (by decide) _ _ _ rfl hown6 _ _ _ rfl rd3.out (sv_one C) (by unfold maxLen; omega) (by omega) hB6.size ?_))
  rintro v7 w7 hown7 hgrow7 -
  have hB7 : Below w.heap.size w w7 := hB6.grown hgrow7 hB6.size (fun k e => (hown6.lt k e).1)
  have hO7 : OwnS w7 w.heap.size v7 ALL := own_cast hown7 (by rw [HKL.out]; try omega) (by rw [← HALL.out]; simp)
  have hws : ∀ x ∈ ALL, x.length ≤ 9223372036854775807 := by
    intro x hx
    rw [← HALL.out] at hx
    rcases List.mem_append.1 hx with h | h
    · rcases List.mem_append.1 h with h | h
      · exact RA.out.2 x h
      · exact RB.out.2 x h
    · exact RC.out.2 x h
  have RALL := Lib.hid (hO7.rd hws)
  have R1 := Lib.hid (RA.out.below hB7)
  have R2 := Lib.hid (RB.out.below hB7)
  have R3 := Lib.hid (RC.out.below hB7)
  have HK := Lib.hid (known_any m w7 ((hB7.cell (p := ⟨0, 0, none⟩) hg).trans HM.out))
  obtain ⟨a7, c7, rfl⟩ := (hO7.rd hws).1.slice
  clear hown6 hown7 hgrow7 rd3 hB6 hO7 hws RA RB RC
  go_wp2_with fail
  refine HK.out.mono ?_
  rintro e w8 ⟨rfl, hb8⟩
  have h8 := hB7.trans (hb8.mono hB7.size)
  have R1a := Lib.hid (R1.out.below hb8)
  have R2a := Lib.hid (R2.out.below hb8)
  have R3a := Lib.hid (R3.out.below hb8)
  have RALLa := Lib.hid (RALL.out.below hb8)
  clear HK hb8 hB7 R1 R2 R3 RALL
  go_wp2_with fail
  refine (within_any _ _ A B _ R1a.out R2a.out (by omega) (by omega)).mono ?_
  rintro e w9 ⟨rfl, hb9⟩
  have h9 := h8.trans (hb9.mono h8.size)
  have R1 := Lib.hid (R1a.out.below hb9)
  have R2 := Lib.hid (R2a.out.below hb9)
  have R3 := Lib.hid (R3a.out.below hb9)
  have RALL := Lib.hid (RALLa.out.below hb9)
  clear hb9 h8 R1a R2a R3a RALLa
  generalize hin : withinW A B = b
  have HIN := Lib.hid hin
  clear hin
  go_wp2_with fail
  refine (rwithin_any _ _ A B _ R1.out R2.out (by omega) (by omega)).mono ?_
  rintro e w10 ⟨rfl, e10⟩
  subst e10
  rw [HIN.out]
  go_wp2_with fail
  refine (meet_any _ _ A B _ R1.out R2.out (by omega) (by omega)).mono ?_
  rintro e w11 ⟨v11, rfl, ho11, hb11⟩
  have h11 := h9.trans (hb11.mono h9.size)
  have R1a := Lib.hid (R1.out.below hb11)
  have R2a := Lib.hid (R2.out.below hb11)
  have R3a := Lib.hid (R3.out.below hb11)
  have RALLa := Lib.hid (RALL.out.below hb11)
  have S11 := Lib.hid (ho11.rd SM.out)
  clear hb11 h9 R1 R2 R3 RALL ho11
  go_wp2_with fail
  refine (rmeet_any _ _ A B _ R1a.out R2a.out (by omega) (by omega)).mono ?_
  rintro e w12 ⟨v12, rfl, ho12, hb12⟩
  have h12 := h11.trans (hb12.mono h11.size)
  have R1 := Lib.hid (R1a.out.below hb12)
  have R2 := Lib.hid (R2a.out.below hb12)
  have R3 := Lib.hid (R3a.out.below hb12)
  have RALL := Lib.hid (RALLa.out.below hb12)
  have S12 := Lib.hid (S11.out.below hb12)
  have T12 := Lib.hid (ho12.rd SM.out)
  clear hb12 h11 R1a R2a R3a RALLa ho12 S11
  go_wp2_with fail
  refine (same_yes _ _ (mt A B) _ S12.out T12.out (by omega)).mono ?_
  rintro e w13 ⟨rfl, hb13⟩
  have h13 := h12.trans (hb13.mono h12.size)
  have R1a := Lib.hid (R1.out.below hb13)
  have R2a := Lib.hid (R2.out.below hb13)
  have R3a := Lib.hid (R3.out.below hb13)
  have RALLa := Lib.hid (RALL.out.below hb13)
  clear hb13 h12 R1 R2 R3 RALL S12 T12
  go_wp2_with fail
  have hL3 := rdl_three w13 _ _ _ A B C R1a.out R2a.out R3a.out 24
  have hBo := both_any _ _ _ hL3 (by simp; omega) (by simp)
  rw [show [A, B, C].flatten = ALL from by rw [← HALL.out]; simp] at hBo
  have hbl : Below w13.heap.size w13 (w13.alloc (.cells #[.slice a1 A.length c1, .slice a2 B.length c2, .slice a3 C.length c3] 24)) := (Below.refl _ _).alloc (Nat.le_refl _) _
  have HBO := Lib.hid hBo
  clear hBo hL3
  refine HBO.out.mono ?_
  rintro e w14 ⟨v14, rfl, ho14, hb14⟩
  have hb14' := hbl.trans (hb14.mono hbl.size)
  have h14 := h13.trans (hb14'.mono h13.size)
  have RALL := Lib.hid (RALLa.out.below hb14')
  have S14 := Lib.hid (ho14.rd SA.out)
  clear hb14 hb14' hbl h13 RALLa ho14 R1a R2a R3a
  go_wp2_with fail
  refine (rset_any _ ALL _ RALL.out (by omega)).mono ?_
  rintro e w15 ⟨v15, rfl, ho15, hb15⟩
  have h15 := h14.trans (hb15.mono h14.size)
  have S15 := Lib.hid (S14.out.below hb15)
  have T15 := Lib.hid (ho15.rd SA.out)
  clear hb15 h14 RALL ho15 S14
  go_wp2_with fail
  refine (same_yes _ _ (Sc.set ALL) _ S15.out T15.out (by omega)).mono ?_
  rintro e w16 ⟨rfl, hb16⟩
  have h16 := h15.trans (hb16.mono h15.size)
  clear hb16 h15 S15 T15
  go_wp2_with fail
  refine (both_none _).mono ?_
  rintro e w17 ⟨v17, rfl, ho17, hb17⟩
  obtain ⟨a17, c17, rfl⟩ := (Rd.of_own ho17).slice
  have h17 := h16.trans (hb17.mono h16.size)
  clear hb17 h16 ho17
  go_wp2_with fail
  go_ret
  exact ⟨by simp, h17⟩
end Go.Proofs.YthnhhbkncmplmaaDoor
