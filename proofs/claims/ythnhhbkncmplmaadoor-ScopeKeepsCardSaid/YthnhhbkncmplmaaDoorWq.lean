/-
  Chapter 6: the walk of ScopeKeeps.
-/
import Derived.Test.YthnhhbkncmplmaaDoorWy
namespace Go.Proofs.YthnhhbkncmplmaaDoor
open Go.RowKit

theorem own_kept {w w' : World} {B : Nat} {e : TypeId} {sz n : Nat} {v : Value} {xs : List Value} {row : Option Nat} (h : w.ownsRow B e sz v n xs) (hg : w.grownBy w' row) (hne : ∀ r, v.ownBlock = some r → row ≠ some r) : w'.ownsRow B e sz v n xs := by
  refine h.kept hg ?_
  cases hv : v.ownBlock with
  | none => exact .inl rfl
  | some r => exact .inr (fun e => hne r hv e.symm)
theorem own_shape {w : World} {B : Nat} {e : TypeId} {sz n c : Nat} {a : Option Addr} {xs : List Value} (h : w.ownsRow B e sz (.slice a n c) n xs) (hn : 0 < n) : ∃ g, a = some ⟨g, 0, none⟩ ∧ B ≤ g := by
  rcases h.2 with ⟨_, h0⟩ | ⟨g, cap, cur, hv, hB, _⟩
  · omega
  · cases hv; exact ⟨g, rfl, hB⟩
def room : List UInt8 := [114, 111, 111, 109]

set_option maxRecDepth 20000 in
set_option maxHeartbeats 4000000 in
theorem scopeKeeps_walk (va vb : Value) (la lb : List (List UInt8)) (m : Int) (w : World) (ha : RdS w va la) (hb : RdS w vb lb) (hm : w.cell? ⟨0, 0, none⟩ = some (.int .i64 m)) (hg : 0 < w.heap.size) :
    Calls Tryd.prog 9 #[va, vb] w fun e w' => e = .returned (.bool true) ∧ Below w.heap.size w w' := by
  have FA := Lib.hid (few_any va la w ha)
  have FB := Lib.hid (few_any vb lb w hb)
  have ka := few_len la
  have kb := few_len lb
  have HM := Lib.hid hm
  obtain ⟨i0, hi, hz0, hz1, hz2⟩ := info_parts str_row
  clear ha hb hm
  generalize fewW la = A at *
  generalize fewW lb = B at *
  go_enter Tryd.func9, Tryd.ntmps9
  go_wp2_with fail
  refine FA.out.mono ?_
  rintro e w1 ⟨v1, rfl, hr1, e1⟩
  subst e1
  have RA := Lib.hid hr1
  clear hr1
  go_wp2_with fail
  refine FB.out.mono ?_
  rintro e w1 ⟨v2, rfl, hr2, e1⟩
  subst e1
  have RB := Lib.hid hr2
  obtain ⟨a1, c1, rfl⟩ := RA.out.1.slice
  obtain ⟨a2, c2, rfl⟩ := RB.out.1.slice
  clear hr2 FA FB
  have hown := own_fresh w 9 1
  have hba : Below w.heap.size w (w.alloc (.cells #[] 9)) := (Below.refl _ _).alloc (Nat.le_refl _) _
  have rd1 := Lib.hid (RA.out.1.below hba)
  go_wp2_with (at_builtin; go_loud (refine wpList_app rfl (.tmp 15) (.tmp 16) 24 rfl 9 w.heap.size i0 (.string ⟨#[]⟩) 1 16 Tryd.underlying24 hi hz0 hz1 hz2 rfl (by decide) _ _ _ rfl hown _ _ _ rfl rd1.out (sv_one A) (by unfold maxLen; omega) (by omega) (by rw [World.size_alloc]; omega) ?_))
  rintro v5 w5 hown5 hgrow5 -
  have hB5 : Below w.heap.size w w5 := below_app (Below.refl _ _) (Nat.le_refl _) hgrow5 (fun k e => by cases e; exact Nat.le_refl _)
  clear hown hgrow5 rd1 hba
  go_wp2_with (at_builtin; go_loud (refine wpList_append_own _ rfl (.tmp 17) (.tmp 18) 24 rfl w.heap.size 9 i0 (.string ⟨#[]⟩) 1 16 Tryd.underlying24 hi hz0 hz1 hz2 rfl (by decide) _ _ _ rfl (hown5.alloc _) ⟨w5.heap.size, 0, none⟩ 1 1 [.string ⟨#[114, 111, 111, 109]⟩] rfl rfl (cell_one_new _ _ _) (by simp [Value.oneCell']) (by unfold maxLen; omega) (by omega) (by rw [World.size_alloc]; have := hB5.size; omega) ?_))
  rintro v6 w6 hown6 hgrow6 -
  have hB6 : Below w.heap.size w w6 := below_app hB5 hB5.size hgrow6 (fun k e => (hown5.lt k e).1)
  obtain ⟨IN, hin⟩ : ∃ l, A ++ [room] = l := ⟨_, rfl⟩
  have hinl : IN.length = A.length + 1 := by rw [← hin]; simp
  have hint : IN.take A.length = A := by rw [← hin]; simp
  have hing : IN[A.length]? = some room := by rw [← hin]; simp
  have hO6 : w6.ownsRow w.heap.size 9 1 v6 (A.length + 1) (IN.map sv) := own_cast hown6 (by simp) (by rw [← hin]; simp [sv, room])
  have hins : ∀ x ∈ IN, x.length ≤ 9223372036854775807 := by
    intro x hx
    rw [← hin] at hx
    rcases List.mem_append.1 hx with h | h
    · exact RA.out.2 x h
    · rw [List.mem_singleton.1 h]; decide
  obtain ⟨a6, c6, rfl⟩ := (Rd.of_own hO6).slice
  obtain ⟨g6, rfl, hg6⟩ := own_shape hO6 (by omega)
  have hc6 := own_cap hO6
  have hlt6 := (hO6.lt g6 rfl).2
  have HO6 := Lib.hid hO6
  have HINT := Lib.hid hint
  have HING := Lib.hid hing
  have HINL := Lib.hid hinl
  have HINS := Lib.hid hins
  clear hown5 hown6 hgrow6 hB5 hin hint hing hinl hins hO6
  have hfr : ∀ W : World, W.ownsRow w.heap.size 9 1 (.slice (some ⟨g6, 0, none⟩) (A.length + 1) c6) (A.length + 1) (IN.map sv) → RdS W (.slice (some ⟨g6, 0, none⟩) A.length c6) A := by
    intro W h
    have h1 : RdS W (.slice (some ⟨g6, 0, none⟩) IN.length c6) IN := ⟨by rw [HINL.out]; exact Rd.of_own h, HINS.out⟩
    have h2 := h1.front A.length (by rw [HINL.out]; omega)
    rw [HINT.out] at h2
    exact h2
  have HFR := Lib.hid hfr
  clear hfr
  have hcA : A.length ≤ c6 := by omega
  go_wp2_with fail
  go_still_tail 8, (by kernel_rfl)
  change wpList _ _ _ _ _ w6.drew
  have hO7 : (w6.drew).ownsRow w.heap.size 9 1 (.slice (some ⟨g6, 0, none⟩) (A.length + 1) c6) (A.length + 1) (IN.map sv) := HO6.out
  have hB7 := hB6.drew
  have hlt7 : g6 < (w6.drew).heap.size := hlt6
  clear HO6 hB6 hlt6
  generalize w6.drew = w7 at *
  have RF7 := Lib.hid (HFR.out _ hO7)
  have HO7 := Lib.hid hO7
  clear hO7
  have kX := mt_len A A
  have kY := un_len A B
  have HSX := Lib.hid (fun x (hx : x ∈ mt A A) => set_short hx)
  have HSA := Lib.hid (fun x (hx : x ∈ Sc.set A) => set_short hx)
  have kA := Sc.set_len A
  have HMT := Lib.hid (meet_any _ _ A A w7 RF7.out RF7.out (by omega) (by omega))
  rw [show Sc.set (A.filter fun x => decide (x ∈ A)) = mt A A from rfl] at HMT
  have hs7 := hB7.size
  generalize mt A A = X at *
  go_wp2_with fail
  refine HMT.out.mono ?_
  rintro e w8 ⟨v8, rfl, ho8, hb8⟩
  obtain ⟨a8, c8, rfl⟩ := (Rd.of_own ho8).slice
  have q8 := ho8.lt
  have h8 := hB7.trans (hb8.mono hs7)
  have hs8 := hb8.size
  have HO8 := Lib.hid (own_below HO7.out hb8)
  have HX8 := Lib.hid ho8
  have RF8 := Lib.hid (HFR.out _ (own_below HO7.out hb8))
  have RB8 := Lib.hid (RB.out.below h8)
  clear ho8 hb8 hB7 RF7 HO7 HMT
  have Q8 := Lib.hid q8
  clear q8
  have hcut := fun w => sl_front (P := Tryd.prog) w 24 (some ⟨g6, 0, none⟩) (A.length + 1) c6 A.length .i64 strs_elem (strs_size w) hcA
  go_wp2_with fail
  have hL := Lib.hid (rdl_two w8 _ _ A B RF8.out RB8.out 24)
  have hbl : Below w8.heap.size w8 (w8.alloc (.cells #[.slice (some ⟨g6, 0, none⟩) A.length c6, .slice a2 B.length c2] 24)) := (Below.refl _ _).alloc (Nat.le_refl _) _
  refine (both_any _ [A, B] _ hL.out (by simp; omega) (by simp)).mono ?_
  rintro e w9 ⟨v9, rfl, ho9, hb9⟩
  rw [show [A, B].flatten = A ++ B from by simp, show Sc.set (A ++ B) = un A B from rfl] at ho9
  generalize un A B = Y at *
  obtain ⟨a9, c9, rfl⟩ := (Rd.of_own ho9).slice
  have q9 := ho9.lt
  rw [World.size_alloc] at q9
  have Q9 := Lib.hid q9
  have hb9' := hbl.trans (hb9.mono hbl.size)
  have h9 := h8.trans (hb9'.mono h8.size)
  have hs9 := hb9'.size
  have HO9 := Lib.hid (own_below HO8.out hb9')
  have HX9 := Lib.hid (own_below HX8.out hb9')
  have HY9 := Lib.hid ho9
  have RF9 := Lib.hid (HFR.out _ (own_below HO8.out hb9'))
  clear ho9 hb9 hb9' hbl q9 hL HO8 HX8 RF8 RB8 h8
  go_wp2_with fail
  refine (set_any _ A _ RF9.out (by omega)).mono ?_
  rintro e w10 ⟨v10, rfl, ho10, hb10⟩
  obtain ⟨a10, c10, rfl⟩ := (Rd.of_own ho10).slice
  have Q10 := Lib.hid ho10.lt
  have h10 := h9.trans (hb10.mono h9.size)
  have hs10 := hb10.size
  have HO10 := Lib.hid (own_below HO9.out hb10)
  have HX10 := Lib.hid (own_below HX9.out hb10)
  have HY10 := Lib.hid (own_below HY9.out hb10)
  have HZ10 := Lib.hid ho10
  clear ho10 hb10 HO9 HX9 HY9 RF9 h9
  go_wp2_with fail
  go_loopw [9] (fun i wr => ∃ (k : Nat) (cs : List Value), k ≤ X.length ∧ i = .int .i64 k ∧ wr.ownsRow w7.heap.size 9 1 (.slice a8 X.length c8) X.length cs ∧ w10.grownBy wr (Value.slice a8 X.length c8).ownBlock) (fun i _ => X.length - (intOf i).toNat)
  case atStart => exact ⟨0, _, by omega, rfl, HX10.out, World.grownBy.refl _ _⟩
  case round =>
    obtain ⟨k, cs, hk, rfl, ho, hgr⟩ := hrel
    by_cases hkn : k < X.length
    case pos =>
      obtain ⟨g8, rfl, hg8⟩ := own_shape ho (by omega)
      have hcl : cs.length = X.length := by have := ho.1; omega
      obtain ⟨u, hu⟩ : ∃ u, cs[k]? = some u := ⟨_, List.getElem?_eq_getElem (by omega)⟩
      have d0 := (ho.cellAt k (by omega)).trans hu
      have f0 := ho.frozenAt k
      have g0 : (k : Int) < (X.length : Int) := by omega
      have hst := ho.stored k (.string ⟨#[111, 118, 101, 114]⟩)
      have HST := Lib.hid hst
      have HGR := Lib.hid hgr
      clear hu hst hgr ho hcl
      go_wp2_with fail
      go_roundw
      case rel => exact ⟨k + 1, _, by omega, by go_num, HST.out.1, HGR.out.trans HST.out.2⟩
      case measure => simp [intOf]; omega
    case neg =>
      have hB10 := h10.grown hgr h10.size (fun b e => by have := Q8.out b e; omega)
      have HO11 := Lib.hid (own_kept HO10.out hgr (fun r hr e => by have h1 := Q8.out r e; have h2 : g6 = r := (by simpa [Value.ownBlock] using hr); omega))
      have HY11 := Lib.hid (own_kept HY10.out hgr (fun r hr e => by have h1 := Q8.out r e; have h2 := Q9.out r hr; omega))
      have HZ11 := Lib.hid (own_kept HZ10.out hgr (fun r hr e => by have h1 := Q8.out r e; have h2 := Q10.out r hr; omega))
      have hsr : w10.heap.size ≤ wr.heap.size := hgr.size
      clear HO10 HY10 HZ10 HX10 hgr ho h10
      go_wp2_with fail
      obtain ⟨w11, hw11⟩ : ∃ w11 : World, w11 = wr := ⟨_, rfl⟩
      subst hw11
      go_loopw [10] (fun i wr => ∃ (k : Nat) (cs : List Value), k ≤ Y.length ∧ i = .int .i64 k ∧ wr.ownsRow (w8.heap.size + 1) 9 1 (.slice a9 Y.length c9) Y.length cs ∧ w11.grownBy wr (Value.slice a9 Y.length c9).ownBlock) (fun i _ => Y.length - (intOf i).toNat)
      case atStart => exact ⟨0, _, by omega, rfl, by simpa using HY11.out, World.grownBy.refl _ _⟩
      case round =>
        obtain ⟨j, cs, hj, rfl, ho, hgr⟩ := hrel
        by_cases hjn : j < Y.length
        case pos =>
          obtain ⟨g9, rfl, hg9⟩ := own_shape ho (by omega)
          have hcl : cs.length = Y.length := by have := ho.1; omega
          obtain ⟨u, hu⟩ : ∃ u, cs[j]? = some u := ⟨_, List.getElem?_eq_getElem (by omega)⟩
          have d0 := (ho.cellAt j (by omega)).trans hu
          have f0 := ho.frozenAt j
          have g0 : (j : Int) < (Y.length : Int) := by omega
          have hst := ho.stored j (.string ⟨#[111, 118, 101, 114]⟩)
          have HST := Lib.hid hst
          have HGR := Lib.hid hgr
          clear hu hst hgr ho hcl
          go_wp2_with fail
          go_roundw
          case rel => exact ⟨j + 1, _, by omega, by go_num, HST.out.1, HGR.out.trans HST.out.2⟩
          case measure => simp [intOf]; omega
        case neg =>
          have h11 := hB10.grown hgr hB10.size (fun b e => by have := Q9.out b e; omega)
          have HO12 := Lib.hid (own_kept HO11.out hgr (fun r hr e => by have h1 := Q9.out r e; have h2 : g6 = r := (by simpa [Value.ownBlock] using hr); omega))
          have HZ12 := Lib.hid (own_kept HZ11.out hgr (fun r hr e => by have h1 := Q9.out r e; have h2 := Q10.out r hr; omega))
          have HK := Lib.hid (known_any m wr ((h11.cell (p := ⟨0, 0, none⟩) hg).trans HM.out))
          clear HO11 HZ11 HY11 hgr ho hB10
          go_wp2_with fail
          refine HK.out.mono ?_
          rintro e w13 ⟨rfl, hb13⟩
          have h13 := h11.trans (hb13.mono h11.size)
          have HO13 := Lib.hid (own_below HO12.out hb13)
          have HZ13 := Lib.hid (OwnS.rd (own_below HZ12.out hb13) HSA.out)
          have RF13 := Lib.hid (HFR.out _ HO13.out)
          have RA13 := Lib.hid (RA.out.below h13)
          clear HO12 HZ12 hb13 h11 HK
          go_wp2_with fail
          refine (same_yes _ _ A _ RF13.out RA13.out (by omega)).mono ?_
          rintro e w14 ⟨rfl, hb14⟩
          have h14 := h13.trans (hb14.mono h13.size)
          have HO14 := own_below HO13.out hb14
          have HZ14 := Lib.hid (HZ13.out.below hb14)
          have RA14 := Lib.hid (RA13.out.below hb14)
          have croom : w14.cell? ⟨g6, A.length, none⟩ = some (.string ⟨#[114, 111, 111, 109]⟩) := by
            rw [HO14.cellAt A.length (by omega), List.getElem?_map, HING.out]; rfl
          have gA : (A.length : Int) < ((A.length : Int) + 1) := by omega
          clear HO13 HZ13 RF13 RA13 hb14 h13 HO14
          go_wp2_with fail
          refine (rset_any _ A _ RA14.out (by omega)).mono ?_
          rintro e w15 ⟨v15, rfl, ho15, hb15⟩
          have h15 := h14.trans (hb15.mono h14.size)
          have HZ15 := Lib.hid (HZ14.out.below hb15)
          have HT15 := Lib.hid (ho15.rd HSA.out)
          clear croom HZ14 RA14 hb15 h14 ho15
          go_wp2_with fail
          refine (same_yes _ _ (Sc.set A) _ HZ15.out HT15.out (by omega)).mono ?_
          rintro e w16 ⟨rfl, hb16⟩
          go_wp2_with fail
          go_ret
          exact ⟨by simp, h15.trans (hb16.mono h15.size)⟩
end Go.Proofs.YthnhhbkncmplmaaDoor
