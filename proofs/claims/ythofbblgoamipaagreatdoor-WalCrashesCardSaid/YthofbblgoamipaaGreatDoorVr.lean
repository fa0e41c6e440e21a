/-
  Chapter 12: drop, numbers.
-/
import Derived.Test.YthofbblgoamipaaGreatDoorVq
import Derived.Sort.OwnSortedInts
import Derived.Deep.QuietTactic
import Derived.BigQuiet
namespace Go.Proofs.YthofbblgoamipaaGreatDoor.Wa
open Go.RowKit Pt
set_option linter.unusedVariables false
set_option linter.unusedSimpArgs false
set_option maxRecDepth 100000

theorem asked_le (d : Bool) (x : By) : askedC d x ≤ 9 := by unfold askedC; (repeat' split) <;> omega
theorem chg_le (st : St) (x : By) : (chg st x).1 ≤ 9 := by
  have := asked_le st.down x
  unfold chg
  repeat' split
  all_goals simp only; omega
theorem cut_le (st : St) (x : By) (n : Int) : (cut st x n).1 ≤ 9 := by
  have := chg_le st x
  unfold cut
  repeat' split
  all_goals first | exact this | simp
theorem syn_le (st : St) (x : By) : (syn st x).1 ≤ 9 := by
  have := chg_le st x
  unfold syn
  repeat' split
  all_goals first | exact this | simp
theorem app_le (st : St) (x b : By) : (app st x b).1 ≤ 9 := by
  have := chg_le st x
  unfold app
  repeat' split
  all_goals first | exact this | simp
/-- a list of one, laid -/
theorem rd_one (w : World) (v : Value) (t : TypeId) : Rd (w.alloc (.cells #[v] t)) 1 (.slice (some ⟨w.heap.size, 0, none⟩) 1 1) 1 [v] :=
  ⟨rfl, .inr ⟨w.heap.size, 0, 1, rfl, Nat.le_refl _, fun j u hj => by
    have := cells_new w [v] t j u hj
    rw [Addr.add_lit] at this; exact this⟩⟩
theorem WA.alloc {Y : Nat → Prop} {W : World} {g q m : Nat} {nm : By} {most : Nat} {x : Wl} (h : WA Y W g q m nm most x) (o : Obj) : WA Y (W.alloc o) g q m nm most x := h.below ((Below.refl _ _).alloc (Nat.le_refl _) _)
theorem WA.drew {Y : Nat → Prop} {W : World} {g q m : Nat} {nm : By} {most : Nat} {x : Wl} (h : WA Y W g q m nm most x) : WA Y W.drew g q m nm most x := h.below (Below.refl _ _).drew
theorem Kp.alloc {Y : Nat → Prop} {w w1 : World} (h : Kp Y w w1) (o : Obj) : Kp Y w (w1.alloc o) := h.trans (Kp.of_below ((Below.refl _ _).alloc (Nat.le_refl _) _))
theorem Kp.drew {Y : Nat → Prop} {w w1 : World} (h : Kp Y w w1) : Kp Y w w1.drew := h.trans (Kp.of_below (Below.refl _ _).drew)
set_option maxHeartbeats 4000000 in
theorem drop_any {Y : Nat → Prop} (g q m : Nat) (nm : By) (most n : Nat) (x : Wl) (w : World) (h : WA Y w g q m nm most x) (hn : nm.length ≤ 32) (hk : n ≤ 99) :
    Calls Tryz.prog 33 #[.pointer (some ⟨g, 0, none⟩), .int .i64 (n : Int)] w fun e w' => e = .returned (.int .i64 ((cutW nm x n 0).1 : Int)) ∧ WA Y w' g q m nm most (cutW nm x n 0).2 ∧ Kp Y w w' := by
  have HW := Lib.hid h
  have HP := Lib.hid (Kp.refl Y w)
  have HN := Lib.hid hn
  have HK := Lib.hid hk
  have HFL : Hid ((fnm nm n).length ≤ 1000) := Lib.hid (by have := fnm_len nm n hk; omega)
  clear h hn hk
  go_enter Tryz.func33, Tryz.ntmps33
  go_wp2_with fail
  refine wp_region_held_drew (S := (fun W => W.cell? ⟨g, 0, none⟩ = some (.pointer (some ⟨q, 0, none⟩)))) (by kernel_rfl) ?_ (fun hHeld1 => ?_)
  · exact HW.out.blk.cell 0 rfl
  refine wpAnyH_take (i := 0) (oi := ?oi1) (v := ?v1) ?hi1 (by kernel_rfl) (by kernel_rfl) (by kernel_rfl) ?hq1 ?hy1 (by assumption) ?rest1
  case hi1 => (simp only [List.getElem?_toArray, List.getElem?_cons_succ, List.getElem?_cons_zero]; rfl)
  case hq1 => exact fun _ _ _ h => h
  case hy1 => (refine Or.inl ⟨by rfl, ?_⟩; intro W hSw; (try dsimp only at hSw); go_simp; (try with_reducible rfl))
  try simp only [Act.put, List.setIfInBounds_toArray, List.set_cons_zero, List.set_cons_succ]
  refine wpAnyH_take (i := 1) (oi := ?oi2) (v := ?v2) ?hi2 (by kernel_rfl) (by kernel_rfl) (by kernel_rfl) ?hq2 ?hy2 (by assumption) ?rest2
  case hi2 => (simp only [List.getElem?_toArray, List.getElem?_cons_succ, List.getElem?_cons_zero]; rfl)
  case hq2 => exact fun _ _ _ h => h
  case hy2 => (refine Or.inl ⟨by rfl, ?_⟩; intro W hSw; (try dsimp only at hSw); go_simp; (try with_reducible rfl))
  try simp only [Act.put, List.setIfInBounds_toArray, List.set_cons_zero, List.set_cons_succ]
  refine wpAnyH_take (i := 2) (oi := ?oi3) (v := ?v3) ?hi3 (by kernel_rfl) (by kernel_rfl) (by kernel_rfl) ?hq3 ?hy3 (by assumption) ?rest3
  case hi3 => (simp only [List.getElem?_toArray, List.getElem?_cons_succ, List.getElem?_cons_zero]; rfl)
  case hq3 => exact fun _ _ _ h => h
  case hy3 => (refine Or.inl ⟨by rfl, ?_⟩; intro W hSw; (try dsimp only at hSw); go_simp; (try with_reducible rfl))
  try simp only [Act.put, List.setIfInBounds_toArray, List.set_cons_zero, List.set_cons_succ]
  refine wpAnyH_take (i := 3) (oi := ?oi4) (v := ?v4) ?hi4 (by kernel_rfl) (by kernel_rfl) (by kernel_rfl) ?hq4 ?hy4 (by assumption) ?rest4
  case hi4 => (simp only [List.getElem?_toArray, List.getElem?_cons_succ, List.getElem?_cons_zero]; rfl)
  case hq4 => exact fun _ _ _ h => h
  case hy4 => (refine Or.inl ⟨by rfl, ?_⟩; intro W hSw; (try dsimp only at hSw); go_simp; (try with_reducible rfl))
  try simp only [Act.put, List.setIfInBounds_toArray, List.set_cons_zero, List.set_cons_succ]
  refine wpAnyH_take (i := 4) (oi := ?oi5) (v := ?v5) ?hi5 (by kernel_rfl) (by kernel_rfl) (by kernel_rfl) ?hq5 ?hy5 (by assumption) ?rest5
  case hi5 => (simp only [List.getElem?_toArray, List.getElem?_cons_succ, List.getElem?_cons_zero]; rfl)
  case hq5 => exact fun _ _ _ h => h
  case hy5 => (refine Or.inl ⟨by rfl, ?_⟩; intro W hSw; (try dsimp only at hSw); go_simp; (try with_reducible rfl))
  try simp only [Act.put, List.setIfInBounds_toArray, List.set_cons_zero, List.set_cons_succ]
  refine wpAnyH_take (i := 5) (oi := ?oi6) (v := ?v6) ?hi6 (by kernel_rfl) (by kernel_rfl) (by kernel_rfl) ?hq6 ?hy6 (by assumption) ?rest6
  case hi6 => (simp only [List.getElem?_toArray, List.getElem?_cons_succ, List.getElem?_cons_zero]; rfl)
  case hq6 => exact fun _ _ _ h => h
  case hy6 => (refine Or.inl ⟨by rfl, ?_⟩; intro W hSw; (try dsimp only at hSw); go_simp; (try with_reducible rfl))
  try simp only [Act.put, List.setIfInBounds_toArray, List.set_cons_zero, List.set_cons_succ]
  refine wpAnyH_take (i := 6) (oi := ?oi7) (v := ?v7) ?hi7 (by kernel_rfl) (by kernel_rfl) (by kernel_rfl) ?hq7 ?hy7 (by assumption) ?rest7
  case hi7 => (simp only [List.getElem?_toArray, List.getElem?_cons_succ, List.getElem?_cons_zero]; rfl)
  case hq7 => exact fun _ _ _ h => h
  case hy7 => (refine Or.inl ⟨by rfl, ?_⟩; intro W hSw; (try dsimp only at hSw); go_simp; (try with_reducible rfl))
  try simp only [Act.put, List.setIfInBounds_toArray, List.set_cons_zero, List.set_cons_succ]
  refine wpAnyH_ready (rs := [7]) (by kernel_rfl) (by simp) ?_
  refine AllReadyH.cons (o := ?oi8) ?hi8 (fun K hK => ?hs8) AllReadyH.nil
  case hi8 => (simp only [List.getElem?_toArray, List.getElem?_cons_succ, List.getElem?_cons_zero]; rfl)
  go_simp
  refine (file_any g _ nm n _ _ HW.out.drew.blk rfl HN.out (by have := HK.out; omega)).mono ?_
  rintro e w1 ⟨rfl, hb1⟩
  have HW1 := Lib.hid (HW.out.drew.below hb1)
  have HP1 := Lib.hid (HP.out.drew.trans (Kp.of_below hb1))
  have HB1 := Lib.hid hb1
  clear hb1
  go_wp2_with fail
  refine hK.out _ _ ?_ (fun hHeld2 => ?_)
  · exact HW1.out.blk.cell 0 rfl
  clear hK
  try simp only [Act.put, List.setIfInBounds_toArray, List.set_cons_zero, List.set_cons_succ]
  refine wpAnyH_ready (rs := [8]) (by kernel_rfl) (by simp) ?_
  refine AllReadyH.cons (o := ?oi9) ?hi9 (fun K hK => ?hs9) AllReadyH.nil
  case hi9 => (simp only [List.getElem?_toArray, List.getElem?_cons_succ, List.getElem?_cons_zero]; rfl)
  go_simp
  refine (cut_py q m x.st (fnm nm n) 0 _ HW1.out.pa HFL.out).mono ?_
  rintro e w2 ⟨rfl, hp2, hk2⟩
  have HW2 := Lib.hid (HW1.out.plate (x' := { x with st := (cut x.st (fnm nm n) 0).2 }) hp2 hk2 rfl).1
  have HP2 := Lib.hid (HP1.out.trans (HW1.out.plate (x' := { x with st := (cut x.st (fnm nm n) 0).2 }) hp2 hk2 rfl).2)
  clear hp2 hk2
  go_wp2_with fail
  refine hK.out _ _ ?_ (fun hHeld2 => ?_)
  · exact HW2.out.blk.cell 0 rfl
  clear hK
  try simp only [Act.put, List.setIfInBounds_toArray, List.set_cons_zero, List.set_cons_succ]
  refine wpAnyH_ready (rs := [9]) (by kernel_rfl) (by simp) ?_
  refine AllReadyH.cons (o := ?oi10) ?hi10 (fun K hK => ?hs10) AllReadyH.nil
  case hi10 => (simp only [List.getElem?_toArray, List.getElem?_cons_succ, List.getElem?_cons_zero]; rfl)
  go_simp
  have HW3 := Lib.hid (HW2.out.alloc (.cells #[.int .i64 (((cut x.st (fnm nm n) 0).1 : Nat) : Int)] 24))
  have HP3 := Lib.hid (HP2.out.alloc (.cells #[.int .i64 (((cut x.st (fnm nm n) 0).1 : Nat) : Int)] 24))
  have HR3 := Lib.hid (rd_one w2 (.int .i64 (((cut x.st (fnm nm n) 0).1 : Nat) : Int)) 24)
  refine hK.out _ _ ?_ (fun hHeld3 => ?_)
  · exact HW3.out.blk.cell 0 rfl
  clear hK
  try simp only [Act.put, List.setIfInBounds_toArray, List.set_cons_zero, List.set_cons_succ]
  refine wpAnyH_ready (rs := [10]) (by kernel_rfl) (by simp) ?_
  refine AllReadyH.cons (o := ?oi11) ?hi11 (fun K hK => ?hs11) AllReadyH.nil
  case hi11 => (simp only [List.getElem?_toArray, List.getElem?_cons_succ, List.getElem?_cons_zero]; rfl)
  go_simp
  refine (first_any g q m nm most _ _ _ _ HW3.out HR3.out (by have := cut_le x.st (fnm nm n) 0; omega)).mono ?_
  rintro e w4 ⟨rfl, hw4, hk4⟩
  have HW4 := Lib.hid hw4
  have HP4 := Lib.hid (HP3.out.trans hk4)
  clear hw4 hk4
  go_wp2_with fail
  refine hK.out _ _ ?_ (fun hHeld2 => ?_)
  · exact HW4.out.blk.cell 0 rfl
  clear hK
  try simp only [Act.put, List.setIfInBounds_toArray, List.set_cons_zero, List.set_cons_succ]
  refine wpAnyH_take (i := 11) (oi := ?oi12) (v := ?v12) ?hi12 (by kernel_rfl) (by kernel_rfl) (by kernel_rfl) ?hq12 ?hy12 (by assumption) ?rest12
  case hi12 => (simp only [List.getElem?_toArray, List.getElem?_cons_succ, List.getElem?_cons_zero]; rfl)
  case hq12 => exact fun _ _ _ h => h
  case hy12 => (refine Or.inl ⟨by rfl, ?_⟩; intro W hSw; (try dsimp only at hSw); go_simp; (try with_reducible rfl))
  try simp only [Act.put, List.setIfInBounds_toArray, List.set_cons_zero, List.set_cons_succ]
  refine wpAnyH_done (by kernel_rfl) ?_ _
  go_wp2_with fail
  go_ret
  exact ⟨rfl, HW4.out, HP4.out⟩
/-- the numbers as the plate's names have them -/
theorem named_perm {nm : By} {fs : List Fl} {l : List Nat} (h : Named nm fs l) (ha : Asc fs) : ∃ ks : List Nat, names fs = ks.map (fnm nm) ∧ ks.Perm l := by
  have h1 : ∀ gs : List Fl, (∀ g ∈ gs, g ∈ fs) → ∃ ks : List Nat, names gs = ks.map (fnm nm) ∧ ∀ k ∈ ks, k ∈ l := by
    intro gs
    induction gs with
    | nil => intro _; exact ⟨[], rfl, fun k hk => (by cases hk)⟩
    | cons g gs ih =>
      intro hg
      obtain ⟨ks, e, hk⟩ := ih fun x hx => hg x (List.mem_cons_of_mem _ hx)
      obtain ⟨n, hn, e2⟩ := h.of g (hg g List.mem_cons_self)
      refine ⟨n :: ks, ?_, fun k hk2 => ?_⟩
      · unfold names at e ⊢
        rw [List.map_cons, List.map_cons, e, e2]
      · rcases List.mem_cons.1 hk2 with rfl | hk2
        · exact hn
        · exact hk k hk2
  obtain ⟨ks, e, hk⟩ := h1 fs fun g hg => hg
  refine ⟨ks, e, ?_⟩
  have nd1 : ks.Nodup := by
    have nd2 : (names fs).Nodup := by
      unfold names
      refine List.Pairwise.map _ ?_ (show fs.Pairwise _ from ha)
      intro a b hab e
      exact lt_ne hab e
    rw [e] at nd2
    exact nd2.of_map _ (fun a b hab e => hab (congrArg _ e))
  have nd3 : l.Nodup := h.asc.imp fun hab e => by omega
  refine (List.perm_ext_iff_of_nodup nd1 nd3).2 fun k => ⟨hk k, fun hkl => ?_⟩
  obtain ⟨g, hg, e2⟩ := h.all k hkl
  have : fnm nm k ∈ names fs := by unfold names; rw [← e2]; exact List.mem_map_of_mem hg
  rw [e] at this
  obtain ⟨j, hj, e3⟩ := List.mem_map.1 this
  rw [← fnm_inj (h.le j (hk j hj)) (h.le k hkl) e3]
  exact hj
theorem sorted_ints {ks l : List Nat} (hp : ks.Perm l) (hl : l.Pairwise (fun a b => a < b)) : ((ks.map Int.ofNat).mergeSort fun x y => decide (x ≤ y)) = l.map Int.ofNat := by
  refine List.Perm.eq_of_pairwise (le := fun x y : Int => x ≤ y) (fun a b _ _ h1 h2 => Int.le_antisymm h1 h2) ?_ ?_ ((List.mergeSort_perm _ _).trans (hp.map _))
  · have := List.pairwise_mergeSort (le := fun x y : Int => decide (x ≤ y)) (fun a b c h1 h2 => by simp only [decide_eq_true_eq] at *; omega) (fun a b => by
      rcases Int.le_total a b with h | h
      · simp [h]
      · simp [h]) (ks.map Int.ofNat)
    exact this.imp (fun h => by simpa using h)
  · rw [List.pairwise_map]
    exact hl.imp fun h => by show (_ : Int) ≤ _; simp only [Int.ofNat_eq_natCast]; omega
theorem trim_fnm (nm : By) (n : Nat) : Lib.hasPrefix (fnm nm n) (nm ++ [45]) = true ∧ Lib.trimPrefix (fnm nm n) (nm ++ [45]) = Lib.decDigits n := by
  have e : fnm nm n = (nm ++ [45]) ++ Lib.decDigits n := by unfold fnm; rw [Lib.itoa_nonneg]; simp
  rw [e]
  constructor
  · unfold Lib.hasPrefix; simp
  · unfold Lib.trimPrefix Lib.hasPrefix; simp
theorem int_row : (Tryz.prog.info? 3).map (fun i => (i.zero, i.size, i.bytes)) = some (some (.int .i64 0), 1, 8) := by kernel_rfl
def iv (n : Nat) : Value := .int .i64 (n : Int)
/-- a call's own slice of these numbers -/
def OwnI (W : World) (B : Nat) (v : Value) (l : List Nat) : Prop := W.ownsRow B 3 1 v l.length (l.map iv)
set_option maxHeartbeats 4000000 in
theorem numbers_any {Y : Nat → Prop} (g q m : Nat) (nm : By) (most : Nat) (x : Wl) (l : List Nat) (w : World) (h : WA Y w g q m nm most x) (hn : nm.length ≤ 32) (hl : Named nm x.st.fs l) :
    Calls Tryz.prog 29 #[.pointer (some ⟨g, 0, none⟩)] w fun e w' => ∃ v, e = .returned v ∧ OwnI w' w.heap.size v l ∧ Below w.heap.size w w' := by
  have HW := Lib.hid h
  have HN := Lib.hid hn
  have HL := Lib.hid hl
  obtain ⟨ks, hks, hperm⟩ := named_perm hl h.py.fit.asc
  have HNA := Lib.hid (names_py q m x.st w h.py)
  rw [hks] at HNA
  have c0 := h.blk.cell 0 rfl
  have HKS : Hid (ks.length ≤ 268435456 ∧ ∀ k ∈ ks, k ≤ 99) := Lib.hid ⟨by
    have h1 := len_tot x.st.fs (fun f hf => (h.py.fit.file f hf).1)
    have h2 := h.py.fit.tot
    have h3 := h.py.fit.room
    have h4 := congrArg List.length hks
    unfold names at h4
    simp at h4
    omega, fun k hk => hl.le k (hperm.mem_iff.1 hk)⟩
  have HPM := Lib.hid hperm
  clear h hn hl hks hperm
  go_enter Tryz.func29, Tryz.ntmps29
  go_wp2_with fail
  refine HNA.out.mono ?_
  rintro e w1 ⟨nv, rfl, hnv, hb1⟩
  obtain ⟨na, nc, rfl⟩ := (Rd.of_own hnv).slice
  have HNV := Lib.hid (And.intro hnv hb1)
  clear HNA hnv hb1
  go_wp2_with fail
  obtain ⟨K, hK⟩ : ∃ K, K = ks.length := ⟨_, rfl⟩
  have HKL := Lib.hid hK
  rw [← hK]
  have hKb : K ≤ 268435456 := by have := HKS.out.1; omega
  have HNV2 : Hid (Rd w1 1 (.slice na K nc) K ((ks.map (fnm nm)).map sv)) := Lib.hid (by
    have h := Rd.of_own HNV.out.1
    rw [List.length_map, ← hK] at h
    exact h)
  clear hK
  go_loopw [3, 16] (fun v i wr => ∃ k : Nat, k ≤ K ∧ i = .int .i64 (k : Int) ∧ wr.ownsRow w1.heap.size 3 1 v k ((ks.take k).map iv) ∧ Below w1.heap.size w1 wr) (fun _ i _ => K - (intOf i).toNat)
  case atStart => exact ⟨0, Nat.zero_le _, rfl, World.ownsRow_nil _ _ _ _, Below.refl _ _⟩
  case round =>
    obtain ⟨k, hk, rfl, hrow, hb⟩ := hrel
    have HBL := Lib.hid (HNV.out.2.trans (hb.mono HNV.out.2.size))
    have HB1 := Lib.hid hb
    have HR := Lib.hid hrow
    have HWR := Lib.hid ((HW.out.below HNV.out.2).below hb)
    by_cases hkk : k < K
    case neg =>
      obtain rfl : k = K := by omega
      have t1 : ¬ (k : Int) < (k : Int) := by omega
      have hfull : ks.take k = ks := List.take_of_length_le (by have := HKL.out; omega)
      rw [hfull] at HR
      have HSO := Lib.hid (sorted_ints HPM.out HL.out.asc)
      have hllen : l.length = k := by rw [← HPM.out.length_eq]; exact HKL.out.symm
      rcases HR.out.2 with ⟨rfl, h0⟩ | ⟨gb, cap, cur, rfl, hgb, hbk, h1, h2, h3, h4⟩
      · subst h0
        have hlnil : l = [] := List.eq_nil_of_length_eq_zero hllen
        have hc := Lib.hid (Tryz.slices_Sort_int_none none 0 wr)
        clear hrow hb hfull hllen
        go_wp2_with fail
        refine hc.out.mono ?_
        rintro e w5 ⟨rfl, rfl⟩
        go_wp2_with fail
        go_ret
        refine ⟨_, rfl, ?_, HBL.out⟩
        rw [hlnil]
        exact World.ownsRow_nil _ _ _ _
      · obtain ⟨zs, hzs⟩ : ∃ zs, zs = ks.map Int.ofNat := ⟨_, rfl⟩
        have hzl : zs.length = k := by rw [hzs, List.length_map]; exact HKL.out.symm
        have hzm : zs.map (Value.int .i64) = ks.map iv := by rw [hzs, List.map_map]; rfl
        have hH : Go.Sort.Holds (Value.int .i64) wr gb 0 zs.toArray := holds_of_blockI hbk (by rw [hzl, hzm, ← h4, Nat.mul_one])
        have hgl : gb < wr.heap.size := (Array.getElem?_eq_some_iff.1 hbk).1
        have hc := Lib.hid (Tryz.slices_Sort_int gb 0 cap zs wr hH hgl (by rw [hzl]; have := HKS.out.1; have := HKL.out; omega))
        rw [hzl, hzs, HSO.out] at hc
        have HB := Lib.hid hbk
        have H3 := Lib.hid (And.intro h1 (And.intro h2 h3))
        have HZ := Lib.hid (And.intro hgb hllen)
        clear hrow hb hfull hH hbk h1 h2 h3 h4 hzl hzm hgl hzs hgb hllen
        go_wp2_with fail
        refine hc.out.mono ?_
        rintro e w2 ⟨rfl, n2, os, rfl⟩
        have ho := ownsRow_sortedI (n := n2) (os := os) (ts := l.map Int.ofNat) (ss := ks.map Int.ofNat) (by rw [List.length_map, List.length_map, HZ.out.2, HKL.out]) HZ.out.1 HB.out (by rw [List.length_map, ← HKL.out]; exact H3.out.1) H3.out.2.1 H3.out.2.2
        have hbel := HBL.out.grown (grownBy_sortedI (w := wr) (g := gb) (n := n2) (os := os) (l.map Int.ofNat).toArray) HBL.out.size (fun j hj => by cases hj; have := HZ.out.1; have := HNV.out.2.size; omega)
        have HO := Lib.hid (And.intro ho hbel)
        clear ho hbel
        generalize Go.Sort.grow _ os = wz at *
        go_wp2_with fail
        go_ret
        refine ⟨_, rfl, ?_, HO.out.2⟩
        have h5 := HO.out.1
        rw [List.length_map, ← HKL.out, List.map_map] at h5
        show wz.ownsRow w.heap.size 3 1 _ l.length (l.map iv)
        rw [HZ.out.2]
        exact own_mono h5 HNV.out.2.size
    case pos =>
      have t1 : (k : Int) < (K : Int) := by omega
      obtain ⟨n, hnk⟩ : ∃ n, ks[k]? = some n := ⟨_, List.getElem?_eq_getElem (by rw [← HKL.out]; exact hkk)⟩
      obtain ⟨nb, no, ncap, e1, hncap, hnc⟩ := (HNV2.out.below hb).pos (by omega)
      cases e1
      have z1 : wr.cell? ⟨nb, no + k, none⟩ = some (.string ⟨(fnm nm n).toArray⟩) := hnc k (sv (fnm nm n)) (by rw [List.getElem?_map, List.getElem?_map, hnk]; rfl)
      have c1 := HWR.out.blk.cell 1 rfl
      have hn99 : n ≤ 99 := HKS.out.2 n (List.mem_of_getElem? hnk)
      have HNK := Lib.hid (And.intro hnk hn99)
      have HTR := trim_fnm nm n
      obtain ⟨y, hy⟩ : ∃ y, y = fnm nm n := ⟨_, rfl⟩
      obtain ⟨u, hu⟩ : ∃ u, u = nm ++ [45] := ⟨_, rfl⟩
      obtain ⟨d, hd⟩ : ∃ d, d = Lib.decDigits n := ⟨_, rfl⟩
      have ha : ∀ W, (Op.stringOp .add ⟨nm.toArray⟩ ⟨(([45] : By)).toArray⟩).run Tryz.prog W = .ok (.string ⟨u.toArray⟩) W := fun W => st_add _ _ _ (by have := HN.out; simp; omega) hu W
      have HCP : Hid (∀ W, Calls Tryz.prog 42 #[.string ⟨y.toArray⟩, .string ⟨u.toArray⟩] W fun e w' => e = .returned (.tuple #[.string ⟨d.toArray⟩, .bool true]) ∧ w' = W) := Lib.hid (fun W => by
        have := Tryz.strings_CutPrefix ⟨y.toArray⟩ ⟨u.toArray⟩ W
        have e1 : Lib.trimPrefix (⟨y.toArray⟩ : ByteArray).data.toList (⟨u.toArray⟩ : ByteArray).data.toList = d := by rw [hd, hy, hu]; exact HTR.2
        have e2 : Lib.hasPrefix (⟨y.toArray⟩ : ByteArray).data.toList (⟨u.toArray⟩ : ByteArray).data.toList = true := by rw [hy, hu]; exact HTR.1
        rw [e1, e2] at this
        exact this)
      have HAT : Hid (∀ W, Calls Tryz.prog 43 #[.string ⟨d.toArray⟩] W fun e w' => e = .returned (.tuple #[.int .i64 (n : Int), .nilIface]) ∧ Below W.heap.size W w') := Lib.hid (fun W => by
        have h1 := atoi_itoa n hn99
        rw [Lib.itoa_nonneg, ← hd] at h1
        refine (Tryz.strconv_Atoi_ok ⟨d.toArray⟩ ?_ (n : Int) h1 W).mono fun e w' ⟨h1, h2⟩ => ⟨h1, ?_⟩
        · have := fnm_len nm n hn99
          have h2 : (fnm nm n).length = (nm ++ [45]).length + (Lib.decDigits n).length := by unfold fnm; rw [Lib.itoa_nonneg]; simp; omega
          have := HN.out
          rw [st_size, hd]; omega
        · rcases h2 with rfl | ⟨t, rfl⟩
          · exact Below.refl _ _
          · exact Lib.bytesWorld_below _ _ _)
      have HY := Lib.hid hy
      rw [← hy] at z1
      clear hrow hb hnc hy hu hd HTR hn99 hnk
      go_wp2_with fail
      refine (HCP.out wr).mono ?_
      rintro e w2 ⟨rfl, rfl⟩
      go_wp2_with fail
      refine (HAT.out w2).mono ?_
      rintro e w3 ⟨rfl, hb3⟩
      have HB3 := Lib.hid hb3
      have HFI := Lib.hid (file_any g _ nm n _ w3 (HWR.out.below hb3).blk rfl HN.out HNK.out.2)
      rw [← HY.out] at HFI
      clear hb3
      go_wp2_with fail
      refine HFI.out.mono ?_
      rintro e w4 ⟨rfl, hb4⟩
      have HB4 := Lib.hid (HB3.out.trans (hb4.mono HB3.out.size))
      clear hb4
      obtain ⟨i0, hi, hz0, hz1, hz2⟩ := info_parts int_row
      have HR4 := Lib.hid (own_below HR.out (HB4.out.alloc HB4.out.size (.cells #[iv n] 3)))
      have HR1 := Lib.hid (rd_one w4 (iv n) 3)
      have hk9 : k ≤ 268435456 := by have := HKS.out.1; have := HKL.out; omega
      have HHI := Lib.hid (And.intro hi (And.intro hz0 (And.intro hz1 (And.intro hz2 hk9))))
      clear hi hz0 hz1 hz2 hk9
      go_wp2_with (at_builtin; go_loud (refine wpList_app rfl (.tmp 47) (.tmp 49) 33 rfl 3 w1.heap.size i0 (.int .i64 0) 1 8 Tryz.underlying33 HHI.out.1 HHI.out.2.1 HHI.out.2.2.1 HHI.out.2.2.2.1 rfl (by decide) _ k _ rfl HR4.out _ 1 _ rfl HR1.out (by simp [Value.oneCell', iv]) (by have := HHI.out.2.2.2.2; unfold maxLen; omega) (by have := HHI.out.2.2.2.2; omega) (by have := HB1.out.size; have := HB4.out.size; rw [World.size_alloc]; omega) ?_))
      rintro v' w5 ho hg -
      have hb5 := below_app (HB1.out.trans (HB4.out.mono HB1.out.size)) (by have := HB1.out.size; have := HB4.out.size; omega) hg (fun j hj => (HR4.out.lt j hj).1)
      have HO5 : Hid (w5.ownsRow w1.heap.size 3 1 v' (k + 1) ((ks.take (k + 1)).map iv)) := Lib.hid (by
        rw [List.take_succ_eq_append_getElem (by have := HKL.out; omega), List.map_append, List.map_take]
        have e2 : ks[k]'(by have := HKL.out; omega) = n := (List.getElem?_eq_some_iff.1 HNK.out.1).2
        rw [e2]; exact ho)
      have HB5 := Lib.hid hb5
      clear ho hg hb5
      go_wp2_with fail
      go_roundw
      case rel => exact ⟨k + 1, by omega, by go_num, HO5.out, HB5.out⟩
      case measure => simp [intOf]; omega
end Go.Proofs.YthofbblgoamipaaGreatDoor.Wa
