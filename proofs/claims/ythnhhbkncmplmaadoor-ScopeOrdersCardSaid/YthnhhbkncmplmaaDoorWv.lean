/-
  Chapter 6: the walks of ScopeBack and ScopeOrders.
-/
import Derived.Test.YthnhhbkncmplmaaDoorWy
namespace Go.Proofs.YthnhhbkncmplmaaDoor
open Go.RowKit

set_option maxRecDepth 20000 in
set_option maxHeartbeats 4000000 in
theorem scopeBack_walk (va : Value) (la : List (List UInt8)) (s : List UInt8) (hs : s.length ≤ 9223372036854775807) (m : Int) (w : World) (ha : RdS w va la) (hm : w.cell? ⟨0, 0, none⟩ = some (.int .i64 m)) (hg : 0 < w.heap.size) :
    Calls Tryd.prog 6 #[va, .string ⟨s.toArray⟩] w fun e w' => e = .returned (.bool true) ∧ Below w.heap.size w w' := by
  have FA := Lib.hid (few_any va la w ha)
  have ka := few_len la
  have hcell : ∀ w' : World, Below w.heap.size w w' → w'.cell? ⟨0, 0, none⟩ = some (.int .i64 m) := fun w' h => (h.cell (p := ⟨0, 0, none⟩) hg).trans hm
  clear ha
  generalize fewW la = A at *
  have kS := Sc.set_len A
  have hjl := Sc.join_len (Sc.set A) 64 (fun x hx => (Sc.word_len x (Sc.set_word hx)).2)
  have HSH := Lib.hid (fun x (hx : x ∈ Sc.set A) => set_short hx)
  have HST := Lib.hid (fun v w h => set_any v A w h (by omega))
  have HPR1 := Lib.hid (fun v w h => print_any v (Sc.set A) w h (by omega))
  rw [Sc.set_set] at HPR1
  have HPA := Lib.hid (fun w hm => parse_any (Sc.join (Sc.set A)) m w (by omega) hm)
  have HC := Lib.hid hcell
  clear hm hcell hjl
  by_cases h32 : (Sc.set A).length ≤ 32
  · rw [parse_join A h32] at HPA
    generalize Sc.set A = S at *
    have h32' : (S.length : Int) ≤ 32 := by omega
    go_enter Tryd.func6, Tryd.ntmps6
    go_wp2_with fail
    refine FA.out.mono ?_
    rintro e w1 ⟨v1, rfl, hr1, e1⟩
    subst e1
    have RA := Lib.hid hr1
    clear hr1
    go_wp2_with fail
    refine (HST.out _ _ RA.out).mono ?_
    rintro e w2 ⟨v2, rfl, ho2, hb2⟩
    have R2 := Lib.hid (ho2.rd HSH.out)
    obtain ⟨a2, c2, rfl⟩ := (Rd.of_own ho2).slice
    clear ho2
    go_wp2_with fail
    refine (HPR1.out _ _ R2.out).mono ?_
    rintro e w3 ⟨rfl, hb3⟩
    have h3 := hb2.trans (hb3.mono hb2.size)
    have R3 := Lib.hid (R2.out.below hb3)
    have hmw := Lib.hid (HC.out _ h3)
    clear hb2 hb3 R2
    go_wp2_with fail
    refine (HPA.out _ hmw.out).mono ?_
    rintro e w4 ⟨v4, rfl, ho4, hb4⟩
    have R4 := Lib.hid (R3.out.below hb4)
    have S4 := Lib.hid (ho4.rd HSH.out)
    obtain ⟨a4, c4, rfl⟩ := (Rd.of_own ho4).slice
    have h4 := h3.trans (hb4.mono h3.size)
    have hmw := Lib.hid (HC.out _ h4)
    have HK := Lib.hid (known_any m w4 hmw.out)
    clear hb4 h3 R3 ho4 hmw
    go_wp2_with fail
    refine HK.out.mono ?_
    rintro e w45 ⟨rfl, hb45⟩
    have R45 := Lib.hid (R4.out.below hb45)
    have S45 := Lib.hid (S4.out.below hb45)
    have h45 := h4.trans (hb45.mono h4.size)
    clear hb45 h4 R4 S4 HK
    go_wp2_with fail
    refine (same_yes _ _ S _ S45.out R45.out (by omega)).mono ?_
    rintro e w5 ⟨rfl, hb5⟩
    have h5 := h45.trans (hb5.mono h45.size)
    clear hb5 h45 S45 R45
    -- the text
    rcases parse_cases s with ⟨hp1, hp2⟩ | ⟨L2, hp, hp32, hpl⟩
    · have HP2 := Lib.hid (fun w hm => parse_any s m w hs hm)
      rw [hp1] at HP2
      generalize (parseW s).2 = c2 at *
      have hc2 : ((c2 : Int) != 0) = true := by simp; omega
      have hmw := Lib.hid (HC.out _ h5)
      clear hp1 hp2
      go_wp2_with fail
      refine (HP2.out _ hmw.out).mono ?_
      rintro e w6 ⟨v6, rfl, ho6, hb6⟩
      obtain ⟨a6, c6, rfl⟩ := (Rd.of_own ho6).slice
      have h6 := h5.trans (hb6.mono h5.size)
      clear hb6 h5 ho6 hmw
      go_wp2_with fail
      go_ret
      exact ⟨by simp, h6⟩
    · have HP2 := Lib.hid (fun w hm => parse_any s m w hs hm)
      have HPJ := Lib.hid (fun w hm => parse_any (Sc.join (Sc.set L2)) m w (by omega) hm)
      rw [parse_join L2 hp32] at HPJ
      rw [hp] at HP2
      have HPR := Lib.hid (fun v w h => print_any v (Sc.set L2) w h (by omega))
      rw [Sc.set_set] at HPR
      have HSH2 := Lib.hid (fun x (hx : x ∈ Sc.set L2) => set_short hx)
      clear hp
      generalize Sc.set L2 = T at *
      have hp32' : (T.length : Int) ≤ 32 := by omega
      have hpl' : ((Sc.join T).length : Int) ≤ (s.length : Int) := by omega
      have hmw := Lib.hid (HC.out _ h5)
      go_wp2_with fail
      refine (HP2.out _ hmw.out).mono ?_
      rintro e w6 ⟨v6, rfl, ho6, hb6⟩
      have R6 := Lib.hid (ho6.rd HSH2.out)
      obtain ⟨a6, c6, rfl⟩ := (Rd.of_own ho6).slice
      have h6 := h5.trans (hb6.mono h5.size)
      clear hb6 h5 ho6 hmw
      go_wp2_with fail
      refine (HPR.out _ _ R6.out).mono ?_
      rintro e w7 ⟨rfl, hb7⟩
      have R7 := Lib.hid (R6.out.below hb7)
      have h7 := h6.trans (hb7.mono h6.size)
      have hmw := Lib.hid (HC.out _ h7)
      clear hb7 h6 R6
      go_wp2_with fail
      refine (HPJ.out _ hmw.out).mono ?_
      rintro e w8 ⟨v8, rfl, ho8, hb8⟩
      have R8 := Lib.hid (R7.out.below hb8)
      have S8 := Lib.hid (ho8.rd HSH2.out)
      have h8 := h7.trans (hb8.mono h7.size)
      clear hb8 h7 R7 ho8 hmw
      go_wp2_with fail
      refine (same_yes _ _ T _ R8.out S8.out (by omega)).mono ?_
      rintro e w9 ⟨rfl, hb9⟩
      have R9 := Lib.hid (R8.out.below hb9)
      have h9 := h8.trans (hb9.mono h8.size)
      clear hb9 h8 R8 S8
      go_wp2_with fail
      refine (HPR.out _ _ R9.out).mono ?_
      rintro e w10 ⟨rfl, hb10⟩
      have h10 := h9.trans (hb10.mono h9.size)
      clear hb10 h9 R9
      go_wp2_with fail
      go_ret
      exact ⟨by simp; try omega, h10⟩
  · have h32' : decide (((Sc.set A).length : Int) ≤ 32) = false := by simp; omega
    generalize Sc.set A = S at *
    generalize parseW (Sc.join S) = pw at *
    go_enter Tryd.func6, Tryd.ntmps6
    go_wp2_with fail
    refine FA.out.mono ?_
    rintro e w1 ⟨v1, rfl, hr1, e1⟩
    subst e1
    have RA := Lib.hid hr1
    clear hr1
    go_wp2_with fail
    refine (HST.out _ _ RA.out).mono ?_
    rintro e w2 ⟨v2, rfl, ho2, hb2⟩
    have R2 := Lib.hid (ho2.rd HSH.out)
    obtain ⟨a2, c2, rfl⟩ := (Rd.of_own ho2).slice
    clear ho2
    go_wp2_with fail
    refine (HPR1.out _ _ R2.out).mono ?_
    rintro e w3 ⟨rfl, hb3⟩
    have h3 := hb2.trans (hb3.mono hb2.size)
    have hmw := Lib.hid (HC.out _ h3)
    clear hb2 hb3 R2
    go_wp2_with fail
    refine (HPA.out _ hmw.out).mono ?_
    rintro e w4 ⟨v4, rfl, ho4, hb4⟩
    have h4 := h3.trans (hb4.mono h3.size)
    have hmw := Lib.hid (HC.out _ h4)
    have HK := Lib.hid (known_any m w4 hmw.out)
    clear hb4 h3 ho4 hmw
    go_wp2_with fail
    refine HK.out.mono ?_
    rintro e w5 ⟨rfl, hb5⟩
    have h5 := h4.trans (hb5.mono h4.size)
    clear hb5 h4 HK
    -- the text
    rcases parse_cases s with ⟨hp1, hp2⟩ | ⟨L2, hp, hp32, hpl⟩
    · have HP2 := Lib.hid (fun w hm => parse_any s m w hs hm)
      rw [hp1] at HP2
      generalize (parseW s).2 = c2 at *
      have hc2 : ((c2 : Int) != 0) = true := by simp; omega
      have hmw := Lib.hid (HC.out _ h5)
      clear hp1 hp2
      go_wp2_with fail
      refine (HP2.out _ hmw.out).mono ?_
      rintro e w6 ⟨v6, rfl, ho6, hb6⟩
      obtain ⟨a6, c6, rfl⟩ := (Rd.of_own ho6).slice
      have h6 := h5.trans (hb6.mono h5.size)
      clear hb6 h5 ho6 hmw
      go_wp2_with fail
      go_ret
      exact ⟨by simp, h6⟩
    · have HP2 := Lib.hid (fun w hm => parse_any s m w hs hm)
      have HPJ := Lib.hid (fun w hm => parse_any (Sc.join (Sc.set L2)) m w (by omega) hm)
      rw [parse_join L2 hp32] at HPJ
      rw [hp] at HP2
      have HPR := Lib.hid (fun v w h => print_any v (Sc.set L2) w h (by omega))
      rw [Sc.set_set] at HPR
      have HSH2 := Lib.hid (fun x (hx : x ∈ Sc.set L2) => set_short hx)
      clear hp
      generalize Sc.set L2 = T at *
      have hp32' : (T.length : Int) ≤ 32 := by omega
      have hpl' : ((Sc.join T).length : Int) ≤ (s.length : Int) := by omega
      have hmw := Lib.hid (HC.out _ h5)
      go_wp2_with fail
      refine (HP2.out _ hmw.out).mono ?_
      rintro e w6 ⟨v6, rfl, ho6, hb6⟩
      have R6 := Lib.hid (ho6.rd HSH2.out)
      obtain ⟨a6, c6, rfl⟩ := (Rd.of_own ho6).slice
      have h6 := h5.trans (hb6.mono h5.size)
      clear hb6 h5 ho6 hmw
      go_wp2_with fail
      refine (HPR.out _ _ R6.out).mono ?_
      rintro e w7 ⟨rfl, hb7⟩
      have R7 := Lib.hid (R6.out.below hb7)
      have h7 := h6.trans (hb7.mono h6.size)
      have hmw := Lib.hid (HC.out _ h7)
      clear hb7 h6 R6
      go_wp2_with fail
      refine (HPJ.out _ hmw.out).mono ?_
      rintro e w8 ⟨v8, rfl, ho8, hb8⟩
      have R8 := Lib.hid (R7.out.below hb8)
      have S8 := Lib.hid (ho8.rd HSH2.out)
      have h8 := h7.trans (hb8.mono h7.size)
      clear hb8 h7 R7 ho8 hmw
      go_wp2_with fail
      refine (same_yes _ _ T _ R8.out S8.out (by omega)).mono ?_
      rintro e w9 ⟨rfl, hb9⟩
      have R9 := Lib.hid (R8.out.below hb9)
      have h9 := h8.trans (hb9.mono h8.size)
      clear hb9 h8 R8 S8
      go_wp2_with fail
      refine (HPR.out _ _ R9.out).mono ?_
      rintro e w10 ⟨rfl, hb10⟩
      have h10 := h9.trans (hb10.mono h9.size)
      clear hb10 h9 R9
      go_wp2_with fail
      go_ret
      exact ⟨by simp; try omega, h10⟩

set_option maxRecDepth 20000 in
set_option maxHeartbeats 4000000 in
theorem scopeOrders_walk (va vb : Value) (la lb : List (List UInt8)) (m : Int) (w : World) (ha : RdS w va la) (hb : RdS w vb lb) (hm : w.cell? ⟨0, 0, none⟩ = some (.int .i64 m)) (hg : 0 < w.heap.size) :
    Calls Tryd.prog 8 #[va, vb] w fun e w' => e = .returned (.bool true) ∧ Below w.heap.size w w' := by
  have FA := Lib.hid (few_any va la w ha)
  have FB := Lib.hid (few_any vb lb w hb)
  have ka := few_len la
  have kb := few_len lb
  have HM := Lib.hid hm
  clear ha hb hm
  generalize fewW la = A at *
  generalize fewW lb = B at *
  have kx := Sc.set_len A
  have ky := Sc.set_len B
  have km := mt_len A B
  have ku := un_len A B
  have HX := Lib.hid (fun x (hx : x ∈ Sc.set A) => set_short hx)
  have HY := Lib.hid (fun x (hx : x ∈ Sc.set B) => set_short hx)
  have HMT := Lib.hid (fun x (hx : x ∈ mt A B) => set_short hx)
  have HUN := Lib.hid (fun x (hx : x ∈ un A B) => set_short hx)
  have SA := Lib.hid (fun v w h => set_any v A w h (by omega))
  have SB := Lib.hid (fun v w h => set_any v B w h (by omega))
  have MAB := Lib.hid (fun v1 v2 w h1 h2 => meet_any v1 v2 A B w h1 h2 (by omega) (by omega))
  have MBA := Lib.hid (fun v1 v2 w h1 h2 => meet_any v1 v2 B A w h1 h2 (by omega) (by omega))
  rw [show Sc.set (B.filter fun x => decide (x ∈ A)) = mt A B from mt_sym B A] at MBA
  have BAB := Lib.hid (fun v w h => both_any v [A, B] w h (by simp; omega) (by simp))
  have BBA := Lib.hid (fun v w h => both_any v [B, A] w h (by simp; omega) (by simp))
  rw [show [A, B].flatten = A ++ B from by simp, show Sc.set (A ++ B) = un A B from rfl] at BAB
  rw [show Sc.set (A.filter fun x => decide (x ∈ B)) = mt A B from rfl] at MAB
  rw [show [B, A].flatten = B ++ A from by simp, show Sc.set (B ++ A) = un A B from un_sym B A] at BBA
  have WAB := Lib.hid (fun v1 v2 w h1 h2 => within_any v1 v2 A B w h1 h2 (by omega) (by omega))
  have W1 := Lib.hid (fun v1 v2 w h1 h2 => within_any v1 v2 (mt A B) A w h1 h2 (by omega) (by omega))
  have W2 := Lib.hid (fun v1 v2 w h1 h2 => within_any v1 v2 (mt A B) B w h1 h2 (by omega) (by omega))
  have W3 := Lib.hid (fun v1 v2 w h1 h2 => within_any v1 v2 A (un A B) w h1 h2 (by omega) (by omega))
  have W4 := Lib.hid (fun v1 v2 w h1 h2 => within_any v1 v2 B (un A B) w h1 h2 (by omega) (by omega))
  rw [in_1] at W1
  rw [in_2] at W2
  rw [in_3] at W3
  rw [in_4] at W4
  have E1 := Lib.hid (fun v1 v2 w h1 h2 => same_any v1 v2 (mt A B) (Sc.set A) w h1 h2 (by omega))
  have E2 := Lib.hid (fun v1 v2 w h1 h2 => same_any v1 v2 (un A B) (Sc.set B) w h1 h2 (by omega))
  rw [← in_mt] at E1
  rw [← in_un] at E2
  have hlen := mt_un_len A B
  generalize withinW A B = b at *
  generalize Sc.set A = X at *
  generalize Sc.set B = Y at *
  generalize mt A B = M at *
  generalize un A B = U at *
  have HLEN := Lib.hid hlen
  clear hlen
  go_enter Tryd.func8, Tryd.ntmps8
  go_wp2_with fail
  refine FA.out.mono ?_
  rintro e w0 ⟨v1, rfl, hr1, e1⟩
  subst e1
  have ra_0 := Lib.hid hr1
  clear hr1
  go_wp2_with fail
  refine FB.out.mono ?_
  rintro e w0 ⟨v2, rfl, hr2, e1⟩
  subst e1
  have rb_0 := Lib.hid hr2
  clear hr2
  obtain ⟨p1, q1, rfl⟩ := ra_0.out.1.slice
  obtain ⟨p2, q2, rfl⟩ := rb_0.out.1.slice
  go_wp2_with fail
  refine (SA.out _ _ ra_0.out).mono ?_
  rintro e w1 ⟨v1, rfl, ho1, hb1⟩
  have h1 := hb1
  have ra_1 := Lib.hid (ra_0.out.below hb1)
  have rb_1 := Lib.hid (rb_0.out.below hb1)
  have rx_1 := Lib.hid (ho1.rd HX.out)
  obtain ⟨a1, c1, rfl⟩ := (Rd.of_own ho1).slice
  clear hb1 ra_0 rb_0 ho1
  go_wp2_with fail
  refine (SB.out _ _ rb_1.out).mono ?_
  rintro e w2 ⟨v2, rfl, ho2, hb2⟩
  have h2 := h1.trans (hb2.mono h1.size)
  have ra_2 := Lib.hid (ra_1.out.below hb2)
  have rb_2 := Lib.hid (rb_1.out.below hb2)
  have rx_2 := Lib.hid (rx_1.out.below hb2)
  have ry_2 := Lib.hid (ho2.rd HY.out)
  obtain ⟨a2, c2, rfl⟩ := (Rd.of_own ho2).slice
  clear hb2 ra_1 rb_1 rx_1 ho2 h1
  go_wp2_with fail
  refine (MAB.out _ _ _ ra_2.out rb_2.out).mono ?_
  rintro e w3 ⟨v3, rfl, ho3, hb3⟩
  have h3 := h2.trans (hb3.mono h2.size)
  have ra_3 := Lib.hid (ra_2.out.below hb3)
  have rb_3 := Lib.hid (rb_2.out.below hb3)
  have rx_3 := Lib.hid (rx_2.out.below hb3)
  have ry_3 := Lib.hid (ry_2.out.below hb3)
  have rm_3 := Lib.hid (ho3.rd HMT.out)
  obtain ⟨a3, c3, rfl⟩ := (Rd.of_own ho3).slice
  clear hb3 ra_2 rb_2 rx_2 ry_2 ho3 h2
  go_wp2_with fail
  have hbl3 : Below w3.heap.size w3 (w3.alloc (.cells #[.slice p1 A.length q1, .slice p2 B.length q2] 24)) := (Below.refl _ _).alloc (Nat.le_refl _) _
  have hL3 := Lib.hid (rdl_two w3 _ _ _ _ ra_3.out rb_3.out 24)
  have ral_3 := Lib.hid (ra_3.out.below hbl3)
  have rbl_3 := Lib.hid (rb_3.out.below hbl3)
  have rxl_3 := Lib.hid (rx_3.out.below hbl3)
  have ryl_3 := Lib.hid (ry_3.out.below hbl3)
  have rml_3 := Lib.hid (rm_3.out.below hbl3)
  have hl3 := h3.trans (hbl3.mono h3.size)
  clear hbl3 h3 ra_3 rb_3 rx_3 ry_3 rm_3
  refine (BAB.out _ _ hL3.out).mono ?_
  rintro e w4 ⟨v4, rfl, ho4, hb4⟩
  have h4 := hl3.trans (hb4.mono hl3.size)
  have ra_4 := Lib.hid (ral_3.out.below hb4)
  have rb_4 := Lib.hid (rbl_3.out.below hb4)
  have rx_4 := Lib.hid (rxl_3.out.below hb4)
  have ry_4 := Lib.hid (ryl_3.out.below hb4)
  have rm_4 := Lib.hid (rml_3.out.below hb4)
  have ru_4 := Lib.hid (ho4.rd HUN.out)
  obtain ⟨a4, c4, rfl⟩ := (Rd.of_own ho4).slice
  clear hb4 ral_3 rbl_3 rxl_3 ryl_3 rml_3 ho4 hl3
  go_wp2_with fail
  refine (WAB.out _ _ _ ra_4.out rb_4.out).mono ?_
  rintro e w5 ⟨rfl, hb5⟩
  have h5 := h4.trans (hb5.mono h4.size)
  have ra_5 := Lib.hid (ra_4.out.below hb5)
  have rb_5 := Lib.hid (rb_4.out.below hb5)
  have rx_5 := Lib.hid (rx_4.out.below hb5)
  have ry_5 := Lib.hid (ry_4.out.below hb5)
  have rm_5 := Lib.hid (rm_4.out.below hb5)
  have ru_5 := Lib.hid (ru_4.out.below hb5)
  clear hb5 ra_4 rb_4 rx_4 ry_4 rm_4 ru_4 h4
  have hmk := Lib.hid ((h5.cell (p := ⟨0, 0, none⟩) hg).trans HM.out)
  go_wp2_with fail
  refine (known_any m _ hmk.out).mono ?_
  rintro e w6 ⟨rfl, hb6⟩
  have h6 := h5.trans (hb6.mono h5.size)
  have ra_6 := Lib.hid (ra_5.out.below hb6)
  have rb_6 := Lib.hid (rb_5.out.below hb6)
  have rx_6 := Lib.hid (rx_5.out.below hb6)
  have ry_6 := Lib.hid (ry_5.out.below hb6)
  have rm_6 := Lib.hid (rm_5.out.below hb6)
  have ru_6 := Lib.hid (ru_5.out.below hb6)
  clear hb6 ra_5 rb_5 rx_5 ry_5 rm_5 ru_5 h5
  go_wp2_with fail
  refine (E1.out _ _ _ rm_6.out rx_6.out).mono ?_
  rintro e w7 ⟨rfl, hb7⟩
  have h7 := h6.trans (hb7.mono h6.size)
  have ra_7 := Lib.hid (ra_6.out.below hb7)
  have rb_7 := Lib.hid (rb_6.out.below hb7)
  have rx_7 := Lib.hid (rx_6.out.below hb7)
  have ry_7 := Lib.hid (ry_6.out.below hb7)
  have rm_7 := Lib.hid (rm_6.out.below hb7)
  have ru_7 := Lib.hid (ru_6.out.below hb7)
  clear hb7 ra_6 rb_6 rx_6 ry_6 rm_6 ru_6 h6
  go_wp2_with fail
  refine (E2.out _ _ _ ru_7.out ry_7.out).mono ?_
  rintro e w8 ⟨rfl, hb8⟩
  have h8 := h7.trans (hb8.mono h7.size)
  have ra_8 := Lib.hid (ra_7.out.below hb8)
  have rb_8 := Lib.hid (rb_7.out.below hb8)
  have rx_8 := Lib.hid (rx_7.out.below hb8)
  have ry_8 := Lib.hid (ry_7.out.below hb8)
  have rm_8 := Lib.hid (rm_7.out.below hb8)
  have ru_8 := Lib.hid (ru_7.out.below hb8)
  clear hb8 ra_7 rb_7 rx_7 ry_7 rm_7 ru_7 h7
  go_wp2_with fail
  refine (W1.out _ _ _ rm_8.out ra_8.out).mono ?_
  rintro e w9 ⟨rfl, hb9⟩
  have h9 := h8.trans (hb9.mono h8.size)
  have ra_9 := Lib.hid (ra_8.out.below hb9)
  have rb_9 := Lib.hid (rb_8.out.below hb9)
  have rx_9 := Lib.hid (rx_8.out.below hb9)
  have ry_9 := Lib.hid (ry_8.out.below hb9)
  have rm_9 := Lib.hid (rm_8.out.below hb9)
  have ru_9 := Lib.hid (ru_8.out.below hb9)
  clear hb9 ra_8 rb_8 rx_8 ry_8 rm_8 ru_8 h8
  go_wp2_with fail
  refine (W2.out _ _ _ rm_9.out rb_9.out).mono ?_
  rintro e w10 ⟨rfl, hb10⟩
  have h10 := h9.trans (hb10.mono h9.size)
  have ra_10 := Lib.hid (ra_9.out.below hb10)
  have rb_10 := Lib.hid (rb_9.out.below hb10)
  have rx_10 := Lib.hid (rx_9.out.below hb10)
  have ry_10 := Lib.hid (ry_9.out.below hb10)
  have rm_10 := Lib.hid (rm_9.out.below hb10)
  have ru_10 := Lib.hid (ru_9.out.below hb10)
  clear hb10 ra_9 rb_9 rx_9 ry_9 rm_9 ru_9 h9
  go_wp2_with fail
  refine (W3.out _ _ _ ra_10.out ru_10.out).mono ?_
  rintro e w11 ⟨rfl, hb11⟩
  have h11 := h10.trans (hb11.mono h10.size)
  have ra_11 := Lib.hid (ra_10.out.below hb11)
  have rb_11 := Lib.hid (rb_10.out.below hb11)
  have rx_11 := Lib.hid (rx_10.out.below hb11)
  have ry_11 := Lib.hid (ry_10.out.below hb11)
  have rm_11 := Lib.hid (rm_10.out.below hb11)
  have ru_11 := Lib.hid (ru_10.out.below hb11)
  clear hb11 ra_10 rb_10 rx_10 ry_10 rm_10 ru_10 h10
  go_wp2_with fail
  refine (W4.out _ _ _ rb_11.out ru_11.out).mono ?_
  rintro e w12 ⟨rfl, hb12⟩
  have h12 := h11.trans (hb12.mono h11.size)
  have ra_12 := Lib.hid (ra_11.out.below hb12)
  have rb_12 := Lib.hid (rb_11.out.below hb12)
  have rx_12 := Lib.hid (rx_11.out.below hb12)
  have ry_12 := Lib.hid (ry_11.out.below hb12)
  have rm_12 := Lib.hid (rm_11.out.below hb12)
  have ru_12 := Lib.hid (ru_11.out.below hb12)
  clear hb12 ra_11 rb_11 rx_11 ry_11 rm_11 ru_11 h11
  go_wp2_with fail
  refine (MBA.out _ _ _ rb_12.out ra_12.out).mono ?_
  rintro e w13 ⟨v13, rfl, ho13, hb13⟩
  have h13 := h12.trans (hb13.mono h12.size)
  have ra_13 := Lib.hid (ra_12.out.below hb13)
  have rb_13 := Lib.hid (rb_12.out.below hb13)
  have rx_13 := Lib.hid (rx_12.out.below hb13)
  have ry_13 := Lib.hid (ry_12.out.below hb13)
  have rm_13 := Lib.hid (rm_12.out.below hb13)
  have ru_13 := Lib.hid (ru_12.out.below hb13)
  have rn_13 := Lib.hid (ho13.rd HMT.out)
  obtain ⟨a13, c13, rfl⟩ := (Rd.of_own ho13).slice
  clear hb13 ra_12 rb_12 rx_12 ry_12 rm_12 ru_12 ho13 h12
  go_wp2_with fail
  refine (same_yes _ _ M _ rm_13.out rn_13.out (by omega)).mono ?_
  rintro e w14 ⟨rfl, hb14⟩
  have h14 := h13.trans (hb14.mono h13.size)
  have ra_14 := Lib.hid (ra_13.out.below hb14)
  have rb_14 := Lib.hid (rb_13.out.below hb14)
  have rx_14 := Lib.hid (rx_13.out.below hb14)
  have ry_14 := Lib.hid (ry_13.out.below hb14)
  have rm_14 := Lib.hid (rm_13.out.below hb14)
  have ru_14 := Lib.hid (ru_13.out.below hb14)
  have rn_14 := Lib.hid (rn_13.out.below hb14)
  clear hb14 ra_13 rb_13 rx_13 ry_13 rm_13 ru_13 rn_13 h13
  clear rn_14
  clear rm_14
  go_wp2_with fail
  have hbl14 : Below w14.heap.size w14 (w14.alloc (.cells #[.slice p2 B.length q2, .slice p1 A.length q1] 24)) := (Below.refl _ _).alloc (Nat.le_refl _) _
  have hL14 := Lib.hid (rdl_two w14 _ _ _ _ rb_14.out ra_14.out 24)
  have ral_14 := Lib.hid (ra_14.out.below hbl14)
  have rbl_14 := Lib.hid (rb_14.out.below hbl14)
  have rxl_14 := Lib.hid (rx_14.out.below hbl14)
  have ryl_14 := Lib.hid (ry_14.out.below hbl14)
  have rul_14 := Lib.hid (ru_14.out.below hbl14)
  have hl14 := h14.trans (hbl14.mono h14.size)
  clear hbl14 h14 ra_14 rb_14 rx_14 ry_14 ru_14
  refine (BBA.out _ _ hL14.out).mono ?_
  rintro e w15 ⟨v15, rfl, ho15, hb15⟩
  have h15 := hl14.trans (hb15.mono hl14.size)
  have ra_15 := Lib.hid (ral_14.out.below hb15)
  have rb_15 := Lib.hid (rbl_14.out.below hb15)
  have rx_15 := Lib.hid (rxl_14.out.below hb15)
  have ry_15 := Lib.hid (ryl_14.out.below hb15)
  have ru_15 := Lib.hid (rul_14.out.below hb15)
  have ro_15 := Lib.hid (ho15.rd HUN.out)
  obtain ⟨a15, c15, rfl⟩ := (Rd.of_own ho15).slice
  clear hb15 ral_14 rbl_14 rxl_14 ryl_14 rul_14 ho15 hl14
  go_wp2_with fail
  refine (same_yes _ _ U _ ru_15.out ro_15.out (by omega)).mono ?_
  rintro e w16 ⟨rfl, hb16⟩
  have h16 := h15.trans (hb16.mono h15.size)
  have ra_16 := Lib.hid (ra_15.out.below hb16)
  have rb_16 := Lib.hid (rb_15.out.below hb16)
  have rx_16 := Lib.hid (rx_15.out.below hb16)
  have ry_16 := Lib.hid (ry_15.out.below hb16)
  have ru_16 := Lib.hid (ru_15.out.below hb16)
  have ro_16 := Lib.hid (ro_15.out.below hb16)
  clear hb16 ra_15 rb_15 rx_15 ry_15 ru_15 ro_15 h15
  have hlen : ((M.length : Int) + (U.length : Int) == (X.length : Int) + (Y.length : Int)) = true := by have := HLEN.out; simp; omega
  go_wp2_with fail
  go_ret
  exact ⟨by simp, h16⟩
end Go.Proofs.YthnhhbkncmplmaaDoor
