/-
  Chapter 6: the reference's Set. Condition: at most 1048576 texts.
-/
import Derived.Test.YtonbpekogfaibaaGreatWr
import Derived.Test.YtonbpekogfaibaaGreatNh
import Derived.Test.YtonbpekogfaibaaGreatSl
import Derived.Test.YtonbpekogfaibaaGreatApp
namespace Go.Proofs.YtonbpekogfaibaaGreat
open Go.RowKit

theorem OwnS.none (W : World) (B : Nat) : OwnS W B (.slice none 0 0) [] := World.ownsRow_nil _ _ _ _
theorem strs_elem : Tryz.prog.underlying 38 = some (.slice (Tryz.prog.elem 38)) := by kernel_rfl
theorem strs_size (w : World) : (sizeOf (Tryz.prog.elem 38)).run Tryz.prog w = .ok 1 w := by kernel_rfl
theorem less_eq (x y : List UInt8) : Op.bytesLess x y = decide (x < y) := Go.Proofs.bytesLess_eq x y
theorem less_str {x y : List UInt8} {b : Bool} (h : Op.bytesLess x y = b) : Op.bytesLess (⟨x.toArray⟩ : ByteArray).toList (⟨y.toArray⟩ : ByteArray).toList = b := by
  rw [ByteArray.toList_eq, ByteArray.toList_eq]; exact h

theorem own_cap {w : World} {B : Nat} {e : TypeId} {sz n c : Nat} {a : Option Addr} {xs : List Value} (h : w.ownsRow B e sz (.slice a n c) n xs) : n ≤ c := by
  rcases h.2 with ⟨h0, h1⟩ | ⟨g, cap, cur, hv, _, _, hle, _⟩
  · omega
  · cases hv; exact hle
theorem cellAt_of {W : World} {b o n c : Nat} {l : List (List UInt8)} (h : Rd W 1 (.slice (some ⟨b, o, none⟩) n c) n (l.map sv)) (k : Nat) {x : List UInt8} (hx : l[k]? = some x) : W.cell? ⟨b, o + k, none⟩ = some (.string ⟨x.toArray⟩) := by
  rcases h.2 with ⟨_, h0⟩ | ⟨b', o', c', e, _, hc⟩
  · have := (List.getElem?_eq_some_iff.1 hx).1
    have hl := h.1
    rw [List.length_map] at hl; omega
  · cases e
    exact hc k (sv x) (by rw [List.getElem?_map, hx]; rfl)

set_option maxRecDepth 20000 in
set_option maxHeartbeats 4000000 in
theorem rset_any (v : Value) (l : List (List UInt8)) (w : World) (h : RdS w v l) (hN : l.length ≤ 1048576) :
    Calls Tryz.prog 35 #[v] w fun e w' => ∃ v', e = .returned v' ∧ OwnS w' w.heap.size v' (Sc.set l) ∧ Below w.heap.size w w' := by
  obtain ⟨a, c, rfl⟩ := h.1.slice
  obtain ⟨i0, hi, hz0, hz1, hz2⟩ := info_parts str_row
  have HH := Lib.hid h
  clear h
  go_enter Tryz.func35, Tryz.ntmps35
  go_wp2_with fail
  go_loopw [3, 4] (fun o i wr => ∃ k : Nat, k ≤ l.length ∧ i = .int .i64 k ∧ OwnS wr w.heap.size o (Sc.set (l.take k)) ∧ Below w.heap.size w wr) (fun _ i _ => l.length - (intOf i).toNat)
  case atStart => exact ⟨0, by omega, rfl, by rw [List.take_zero, Sc.set_nil]; exact OwnS.none _ _, Below.refl _ _⟩
  case round =>
    obtain ⟨k, hk, rfl, ho, hb⟩ := hrel
    obtain ⟨ao, co, rfl⟩ := (Rd.of_own ho).slice
    by_cases hkn : k < l.length
    case neg =>
      have hk' : k = l.length := by omega
      subst hk'
      rw [List.take_of_length_le (Nat.le_refl _)] at *
      have HO := Lib.hid ho
      clear ho
      go_wp2_with fail
      go_ret
      exact ⟨_, rfl, HO.out, hb⟩
    case pos =>
    obtain ⟨b1, o1, cap1, e1, hcap1, hc1⟩ := (HH.out.1.below hb).pos (by omega)
    cases e1
    obtain ⟨x, hx⟩ : ∃ x, l[k]? = some x := ⟨_, List.getElem?_eq_getElem hkn⟩
    have q1 : wr.cell? ⟨b1, o1 + k, none⟩ = some (.string ⟨x.toArray⟩) := hc1 k (sv x) (by rw [List.getElem?_map, hx]; rfl)
    have HX := Lib.hid hx
    have hco := own_cap ho
    have g1 : (k : Int) < (l.length : Int) := by omega
    have hxl := HH.out.2 x (List.mem_of_getElem? hx)
    have hts := take_snocL l k x hx
    have hsl := Sc.set_len (l.take k)
    have htl : (l.take k).length ≤ k := List.length_take_le _ _
    have hsn : Sc.set (l.take (k + 1)) = Sc.set (l.take k ++ [x]) := by rw [hts]
    have HSN := Lib.hid hsn
    have HNO := Lib.hid (Sc.set_snoc_no (l.take k) x)
    have HYES := Lib.hid (fun a => Sc.set_snoc_yes (l.take k) x a)
    have HSS := Lib.hid (fun y (hy : y ∈ Sc.set (l.take k)) => set_short hy)
    clear hc1 hx hts hsn
    have HW := Lib.hid (fun w => rword_any ⟨x.toArray⟩ w)
    have hex : (⟨x.toArray⟩ : ByteArray).data.toList = x := rfl
    rw [hex] at HW
    clear hex
    generalize Sc.set (l.take k) = S at *
    cases hw : Sc.word x with
    | false =>
      rw [hw] at HW
      have HN2 := Lib.hid (HNO.out (.inl hw))
      have HO := Lib.hid ho
      clear hw ho
      go_wp2_with fail
      refine (HW.out _).mono ?_
      rintro e w2 ⟨rfl, e2⟩
      subst e2
      go_wp2_with fail
      go_roundw
      case rel => exact ⟨k + 1, by omega, by go_num, by rw [HSN.out, HN2.out]; exact HO.out, hb⟩
      case measure => simp [intOf]; omega
    | true =>
      rw [hw] at HW
      have HWX := Lib.hid hw
      have hrd : RdS wr _ S := OwnS.rd ho HSS.out
      have HHAS := Lib.hid (fun w h => has_any (.slice ao S.length co) S x w h (by omega))
      clear hw
      by_cases hm : x ∈ S
      · rw [decide_eq_true hm] at HHAS
        have HN2 := Lib.hid (HNO.out (.inr hm))
        have HO := Lib.hid ho
        have HRD := Lib.hid hrd
        clear ho hm hrd
        go_wp2_with fail
        refine (HW.out _).mono ?_
        rintro e w2 ⟨rfl, e2⟩
        subst e2
        go_wp2_with fail
        refine (HHAS.out _ HRD.out).mono ?_
        rintro e w2 ⟨rfl, e2⟩
        subst e2
        go_wp2_with fail
        go_roundw
        case rel => exact ⟨k + 1, by omega, by go_num, by rw [HSN.out, HN2.out]; exact HO.out, hb⟩
        case measure => simp [intOf]; omega
      · rw [decide_eq_false hm] at HHAS
        have HO := Lib.hid ho
        have HRD := Lib.hid hrd
        have HM := Lib.hid hm
        clear ho hm hrd
        go_wp2_with fail
        refine (HW.out _).mono ?_
        rintro e w2 ⟨rfl, e2⟩
        subst e2
        go_wp2_with fail
        refine (HHAS.out _ HRD.out).mono ?_
        rintro e w2 ⟨rfl, e2⟩
        subst e2
        go_wp2_with fail
        clear q1
        obtain ⟨wo, hwo⟩ : ∃ wo : World, wo = wr := ⟨_, rfl⟩
        subst hwo
        have h0 : (0 : Nat) ≤ S.length := Nat.zero_le _
        go_loopw [5] (fun j wq => ∃ m : Nat, m ≤ S.length ∧ j = .int .i64 m ∧ (∀ j y, j < m → S[j]? = some y → y < x) ∧ Below wo.heap.size wo wq) (fun j _ => S.length - (intOf j).toNat)
        case atStart => exact ⟨0, h0, rfl, fun j y hj => by omega, Below.refl _ _⟩
        case round =>
          obtain ⟨m, hmS, rfl, hall, hq⟩ := hrel
          have HALL := Lib.hid hall
          clear hall
          have q1 := cellAt_of (HH.out.1.below (hb.trans (hq.mono hb.size))) k HX.out
          have hSN : S.length ≤ 1048576 := by omega
          rcases Nat.lt_or_ge m S.length with hm1 | hm1
          · obtain ⟨y, hy⟩ : ∃ y, S[m]? = some y := ⟨_, List.getElem?_eq_getElem hm1⟩
            obtain ⟨b2, o2, cap2, e2, hcap2, hc2⟩ := (HRD.out.1.below hq).pos (by omega)
            have q2 : wr.cell? ⟨b2, o2 + m, none⟩ = some (.string ⟨y.toArray⟩) := hc2 m (sv y) (by rw [List.getElem?_map, hy]; rfl)
            cases e2
            have g2 : (m : Int) < (S.length : Int) := by omega
            have HY := Lib.hid hy
            clear hc2 hy
            by_cases hlt : y < x
            · have hl1 : Op.bytesLess y x = true := by rw [less_eq]; simpa using hlt
              have hl2 := less_str hl1
              have HLT := Lib.hid hlt
              clear hlt
              go_wp2_with fail
              go_quiet (fail)
              go_wp2_with fail
              go_roundw
              case rel =>
                refine ⟨m + 1, by omega, by go_num, fun j z hj hz => ?_, below_drewN hq _⟩
                by_cases hjm : j = m
                · subst hjm
                  rw [HY.out] at hz
                  cases hz
                  exact HLT.out
                · exact HALL.out j z (by omega) hz
              case measure => simp [intOf]; omega
            · have hl1 : Op.bytesLess y x = false := by rw [less_eq]; simpa using hlt
              have hl2 := less_str hl1
              have HLT := Lib.hid hlt
              clear hlt
              go_wp2_with fail
              go_quiet (fail)
              clear q1 q2 hl1 hl2
              have hz := below_drewN hq nq
              generalize wr.drewN nq = wz at hz ⊢
              have hsl1 := fun w => sl_front (P := Tryz.prog) w 38 (some ⟨b2, o2, none⟩) S.length co m .i64 strs_elem (strs_size w) (by omega)
              have hown0 := own_fresh wz 9 1
              have hza : Below wz.heap.size wz (wz.alloc (.cells #[] 9)) := (Below.refl _ _).alloc (Nat.le_refl _) _
              have rd1 := Lib.hid (((HRD.out.1.below hz).below hza).front m hmS)
              have hmm : m * 1 = m := Nat.mul_one m
              go_wp2_with (at_builtin; go_loud (refine wpList_app rfl (.tmp 44) (.tmp 47) 38 rfl 9 wz.heap.size i0 (.string ⟨#[]⟩) 1 16 Tryz.underlying38 hi hz0 hz1 hz2 rfl (by decide) _ _ _ rfl hown0 _ _ _ rfl rd1.out (fun u hu => sv_one S u (List.mem_of_mem_take hu)) (by unfold maxLen; omega) (by omega) (by rw [World.size_alloc]; omega) ?_))
              rintro v5 w5 hown5 hgrow5 -
              have hB5 : Below wz.heap.size wz w5 := below_app (Below.refl _ _) (Nat.le_refl _) hgrow5 (fun k e => by cases e; exact Nat.le_refl _)
              have hz5 := hz.trans (hB5.mono hz.size)
              have hw5 := hb.trans (hz5.mono hb.size)
              have q5 := cellAt_of (HH.out.1.below hw5) k HX.out
              clear hown0 hgrow5 hza rd1 hsl1
              go_wp2_with (at_builtin; go_loud (refine wpList_append_own _ rfl (.tmp 49) (.tmp 54) 38 rfl wz.heap.size 9 i0 (.string ⟨#[]⟩) 1 16 Tryz.underlying38 hi hz0 hz1 hz2 rfl (by decide) _ _ _ rfl (hown5.alloc _) ⟨w5.heap.size, 0, none⟩ 1 1 [.string ⟨x.toArray⟩] rfl rfl (cell_one_new _ _ _) (by simp [Value.oneCell']) (by unfold maxLen; omega) (by omega) (by rw [World.size_alloc]; have := hB5.size; omega) ?_))
              rintro v6 w6 hown6 hgrow6 -
              have hB6 : Below wz.heap.size wz w6 := below_app hB5 hB5.size hgrow6 (fun k e => (hown5.lt k e).1)
              have hz6 := hz.trans (hB6.mono hz.size)
              have hsl2 := fun w => sl_back (P := Tryz.prog) w 38 (some ⟨b2, o2, none⟩) S.length co m .i64 strs_elem (strs_size w) hmS
              have rd2 := Lib.hid ((HRD.out.1.below hz6).back m hmS)
              clear hown5 hgrow6 q5
              generalize (if co = m then (some ⟨b2, o2, none⟩ : Option Addr) else (some ⟨b2, o2, none⟩ : Option Addr).map (·.add (m * 1))) = ab at *
              go_wp2_with (at_builtin; go_loud (refine wpList_app rfl (.tmp 56) (.tmp 59) 38 rfl 9 wz.heap.size i0 (.string ⟨#[]⟩) 1 16 Tryz.underlying38 hi hz0 hz1 hz2 rfl (by decide) _ _ _ rfl hown6 _ _ _ rfl rd2.out (fun u hu => sv_one S u (List.mem_of_mem_drop hu)) (by unfold maxLen; omega) (by omega) hB6.size ?_))
              rintro v7 w7 hown7 hgrow7 -
              have hB7 : Below wz.heap.size wz w7 := hB6.grown hgrow7 hB6.size (fun k e => (hown6.lt k e).1)
              have hw7 := hb.trans ((hz.trans (hB7.mono hz.size)).mono hb.size)
              have hO7 : OwnS w7 w.heap.size v7 (S.take m ++ x :: S.drop m) := own_mono (own_cast hown7 (by simp; omega) (by simp [sv])) (Nat.le_trans hb.size hz.size)
              have hyes := HYES.out m HWX.out HM.out hmS HALL.out (fun z hz' => by rw [HY.out] at hz'; cases hz'; exact HLT.out)
              have HO7 := Lib.hid hO7
              have HY7 := Lib.hid hyes
              clear hO7 hyes hown7 hown6 hgrow7 hsl2 rd2
              go_wp2_with fail
              go_roundw
              case rel => exact ⟨k + 1, by omega, by go_num, by rw [HSN.out, HY7.out]; exact HO7.out, hw7⟩
              case measure => simp [intOf]; omega
          · have hm2 : decide (m < S.length) = false := by simp; omega
            have hm3 : decide ((m : Int) < (S.length : Int)) = false := by simp; omega
            have HM2 : Hid (m = S.length) := Lib.hid (by omega)
            go_wp2_with fail
            go_quiet (fail)
            clear q1
            have hz := below_drewN hq nq
            generalize wr.drewN nq = wz at hz ⊢
            have hsl1 := fun w => sl_front (P := Tryz.prog) w 38 ao S.length co m .i64 strs_elem (strs_size w) (by omega)
            have hown0 := own_fresh wz 9 1
            have hza : Below wz.heap.size wz (wz.alloc (.cells #[] 9)) := (Below.refl _ _).alloc (Nat.le_refl _) _
            have rd1 := Lib.hid (((HRD.out.1.below hz).below hza).front m hmS)
            have hmm : m * 1 = m := Nat.mul_one m
            go_wp2_with (at_builtin; go_loud (refine wpList_app rfl (.tmp 44) (.tmp 47) 38 rfl 9 wz.heap.size i0 (.string ⟨#[]⟩) 1 16 Tryz.underlying38 hi hz0 hz1 hz2 rfl (by decide) _ _ _ rfl hown0 _ _ _ rfl rd1.out (fun u hu => sv_one S u (List.mem_of_mem_take hu)) (by unfold maxLen; omega) (by omega) (by rw [World.size_alloc]; omega) ?_))
            rintro v5 w5 hown5 hgrow5 -
            have hB5 : Below wz.heap.size wz w5 := below_app (Below.refl _ _) (Nat.le_refl _) hgrow5 (fun k e => by cases e; exact Nat.le_refl _)
            have hz5 := hz.trans (hB5.mono hz.size)
            have hw5 := hb.trans (hz5.mono hb.size)
            have q5 := cellAt_of (HH.out.1.below hw5) k HX.out
            clear hown0 hgrow5 hza rd1 hsl1
            go_wp2_with (at_builtin; go_loud (refine wpList_append_own _ rfl (.tmp 49) (.tmp 54) 38 rfl wz.heap.size 9 i0 (.string ⟨#[]⟩) 1 16 Tryz.underlying38 hi hz0 hz1 hz2 rfl (by decide) _ _ _ rfl (hown5.alloc _) ⟨w5.heap.size, 0, none⟩ 1 1 [.string ⟨x.toArray⟩] rfl rfl (cell_one_new _ _ _) (by simp [Value.oneCell']) (by unfold maxLen; omega) (by omega) (by rw [World.size_alloc]; have := hB5.size; omega) ?_))
            rintro v6 w6 hown6 hgrow6 -
            have hB6 : Below wz.heap.size wz w6 := below_app hB5 hB5.size hgrow6 (fun k e => (hown5.lt k e).1)
            have hz6 := hz.trans (hB6.mono hz.size)
            have hmS2 := HM2.out
            clear HM2
            subst hmS2
            clear hown5 hgrow6 q5
            go_wp2_with (at_builtin; go_loud (refine wpList_app rfl (.tmp 56) (.tmp 59) 38 rfl 9 wz.heap.size i0 (.string ⟨#[]⟩) 1 16 Tryz.underlying38 hi hz0 hz1 hz2 rfl (by decide) _ _ _ rfl hown6 (.slice (if co = S.length then ao else Option.map (fun x => x.add S.length) ao) 0 (co - S.length)) 0 [] rfl ⟨rfl, .inl ⟨⟨_, _, rfl⟩, rfl⟩⟩ (by simp) (by unfold maxLen; omega) (by omega) hB6.size ?_))
            all_goals
              rintro v7 w7 hown7 hgrow7 -
              have hB7 : Below wz.heap.size wz w7 := hB6.grown hgrow7 hB6.size (fun k e => (hown6.lt k e).1)
              have hw7 := hb.trans ((hz.trans (hB7.mono hz.size)).mono hb.size)
              have hO7 : OwnS w7 w.heap.size v7 (S.take S.length ++ x :: S.drop S.length) := own_mono (own_cast hown7 (by simp) (by simp [sv, List.take_of_length_le, List.drop_of_length_le])) (Nat.le_trans hb.size hz.size)
              have hyes := HYES.out S.length HWX.out HM.out (Nat.le_refl _) HALL.out (fun z hz' => by rw [List.getElem?_eq_none hm1] at hz'; cases hz')
              have HO7 := Lib.hid hO7
              have HY7 := Lib.hid hyes
              clear hO7 hyes hown7 hown6 hgrow7
              go_wp2_with fail
              go_roundw
              case rel => exact ⟨k + 1, by omega, by go_num, by rw [HSN.out, HY7.out]; exact HO7.out, hw7⟩
              case measure => simp [intOf]; omega
end Go.Proofs.YtonbpekogfaibaaGreat
