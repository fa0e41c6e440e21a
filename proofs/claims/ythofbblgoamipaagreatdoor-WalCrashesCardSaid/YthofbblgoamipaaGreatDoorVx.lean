/-
  Chapter 12: Open.
-/
import Derived.Test.YthofbblgoamipaaGreatDoorVw
namespace Go.Proofs.YthofbblgoamipaaGreatDoor.Wa
open Go.RowKit Pt
set_option linter.unusedVariables false
set_option linter.unusedSimpArgs false
set_option maxRecDepth 100000

theorem results_tmp4 {fn : Func} {t u v x : Tmp} (h : fn.results = #[.tmp t, .tmp u, .tmp v, .tmp x]) (tmps : Array Value) (P : Program) (w : World) :
    (results fn tmps).run P w = .ok (.tuple #[tmps.getD t undef, tmps.getD u undef, tmps.getD v undef, tmps.getD x undef]) w := by
  simp [results, h]
theorem open_nil (x : By) (n : Int) (w : World) : Calls Tryz.prog 11 #[.pointer none, .string ⟨x.toArray⟩, .int .i64 n] w fun e w' => e = .returned (.tuple #[.pointer none, .slice none 0 0, .slice none 0 0, .int .i64 12]) ∧ w' = w := by
  go_enter Tryz.func11, Tryz.ntmps11
  go_wp2
  (try simp only [Exit.inBlock, Exit.then])
  refine bodyPost_ret (results_tmp4 rfl _ _ _) rfl ?_
  exact ⟨rfl, rfl⟩
/-- a name or a length that may not be -/
theorem open_arg (q : Nat) (x : By) (n : Int) (w : World) (h : x.length < 1 ∨ 32 < x.length ∨ n < 1 ∨ 1048576 < n) :
    Calls Tryz.prog 11 #[.pointer (some ⟨q, 0, none⟩), .string ⟨x.toArray⟩, .int .i64 n] w fun e w' => e = .returned (.tuple #[.pointer none, .slice none 0 0, .slice none 0 0, .int .i64 1]) ∧ w' = w := by
  have hs := st_size x
  by_cases h1 : x.length < 1
  case pos =>
    have t1 : (x.length : Int) < 1 := by omega
    clear h
    go_enter Tryz.func11, Tryz.ntmps11
    go_wp2
    (try simp only [Exit.inBlock, Exit.then])
    refine bodyPost_ret (results_tmp4 rfl _ _ _) rfl ?_
    exact ⟨rfl, rfl⟩
  case neg =>
  have t1 : ¬ (x.length : Int) < 1 := by omega
  by_cases h2 : 32 < x.length
  case pos =>
    have t2 : (32 : Int) < (x.length : Int) := by omega
    clear h
    go_enter Tryz.func11, Tryz.ntmps11
    go_wp2
    (try simp only [Exit.inBlock, Exit.then])
    refine bodyPost_ret (results_tmp4 rfl _ _ _) rfl ?_
    exact ⟨rfl, rfl⟩
  case neg =>
  have t2 : ¬ (32 : Int) < (x.length : Int) := by omega
  by_cases h3 : n < 1
  case pos =>
    have t3 : decide (n < 1) = true := by rw [decide_eq_true_iff]; exact h3
    clear h
    go_enter Tryz.func11, Tryz.ntmps11
    go_wp2
    (try simp only [Exit.inBlock, Exit.then])
    refine bodyPost_ret (results_tmp4 rfl _ _ _) rfl ?_
    exact ⟨rfl, rfl⟩
  case neg =>
    have h4 : 1048576 < n := by omega
    clear h
    go_enter Tryz.func11, Tryz.ntmps11
    go_wp2
    (try simp only [Exit.inBlock, Exit.then])
    refine bodyPost_ret (results_tmp4 rfl _ _ _) rfl ?_
    exact ⟨rfl, rfl⟩
/-- does a file begin with a base? -/
def isB : List (Nat × By) → Bool
  | [] => false
  | x :: _ => x.1 == 0
/-- the last file so far that begins with a base -/
def fromK (ds : List Fi) : Nat → Int
  | 0 => -1
  | k + 1 => match ds[k]? with | some f => if isB f.fr then (k : Int) else fromK ds k | none => fromK ds k
theorem fromK_none (ds : List Fi) (a : Nat) : ∀ k, (∀ i f, a ≤ i → i < a + k → ds[i]? = some f → isB f.fr = false) → fromK ds (a + k) = fromK ds a := by
  intro k
  induction k with
  | zero => intro _; rfl
  | succ k ih =>
    intro h
    rw [← Nat.add_assoc, fromK]
    have h1 := ih fun i f h1 h2 => h i f h1 (by omega)
    cases hd : ds[a + k]? with
    | none => exact h1
    | some f =>
      simp only [h (a + k) f (by omega) (by omega) hd]
      exact h1
theorem from_disk {old pre jk : List Fi} {f : Fi} {a : Nat} {base : By} (hrun : Run a base (pre ++ [f])) (hj : ∀ g ∈ jk, g.fr = []) : fromK (old ++ (pre ++ f :: jk)) (old ++ (pre ++ f :: jk)).length = (old.length : Int) := by
  have e : (old ++ (pre ++ f :: jk)).length = (old.length + 1) + (pre.length + jk.length) := by simp only [List.length_append, List.length_cons]; omega
  have hsplit : pre ++ f :: jk = (pre ++ [f]) ++ jk := by simp
  rw [e, fromK_none]
  · obtain ⟨g0, hg0⟩ : ∃ g0, (pre ++ [f])[0]? = some g0 := ⟨_, List.getElem?_eq_getElem (by simp)⟩
    obtain ⟨rs, hr⟩ := hrun.hd 0 g0 hg0
    rw [fromK, List.getElem?_append_right (Nat.le_refl _), Nat.sub_self, hsplit, List.getElem?_append_left (by simp), hg0]
    simp only [hr, isB, hdr, if_true]
    rfl
  · intro i g h1 h2 hg
    rw [List.getElem?_append_right (by omega), hsplit, List.getElem?_append] at hg
    split at hg
    · obtain ⟨rs, hr⟩ := hrun.hd _ g hg
      rw [hr]
      unfold isB hdr
      rw [if_neg (by omega)]
      rfl
    · rw [hj g (List.mem_of_getElem? hg)]; rfl
/-- what Open answers and leaves: X the log's own answer -/
def AnsO (Y : Nat → Prop) (w : World) (q m : Nat) (nm : By) (most : Nat) (X : Nat × Wl) (R : List By) (base : By) (e : Ending) (w' : World) : Prop :=
  Kp Y w w' ∧ ((X.1 = 0 ∧ ∃ g bv rv vs Yc ob, e = .returned (.tuple #[.pointer (some ⟨g, 0, none⟩), bv, rv, .int .i64 0]) ∧ (∀ k, Y k → Yc k) ∧ WA Yc w' g q m nm most X.2 ∧ Hd Yc w' w.heap.size rv vs R bv ob ∧ (ob = some base ∨ ob = none ∧ base = []) ∧ w.heap.size ≤ g) ∨
    (X.1 ≠ 0 ∧ e = .returned (.tuple #[.pointer none, .slice none 0 0, .slice none 0 0, .int .i64 (X.1 : Int)]) ∧ PY Y w' q m X.2.st))
def newW (st : St) : Wl := ⟨st, 0, 0, 0, false⟩
theorem wa_new {Y : Nat → Prop} {w : World} {q m : Nat} {st : St} (h : PY Y w q m st) (nm : By) (most : Nat) : WA Y (w.alloc (.cells (wlC q nm most (newW st)).toArray 64)) w.heap.size q m nm most (newW st) := by
  have hb := (Below.refl w.heap.size w).alloc (Nat.le_refl _) (.cells (wlC q nm most (newW st)).toArray 64)
  refine ⟨(h.more hb).mono fun k hk => ?_, Blk.new w _ _, fun hy => by have := h.ys _ hy; omega⟩
  rcases hk with hk | hk
  · exact .inl hk
  · exact .inr (by rw [hk]; exact ⟨Nat.le_refl _, by rw [World.size_alloc]; omega⟩)
set_option maxHeartbeats 8000000 in
theorem open_disk' {Y : Nat → Prop} (q m : Nat) (nm : By) (most : Nat) (st : St) (old pre jk : List Fi) (f : Fi) (a : Nat) (base : By) (w : World) (h : PY Y w q m st) (hn1 : 1 ≤ nm.length) (hn : nm.length ≤ 32) (hm1 : 1 ≤ most) (hm : most ≤ 1048576) (hd : st.down = false)
    (hH : Holds nm st.fs (old ++ (pre ++ f :: jk))) (hrun : Run a base (pre ++ [f])) (hp : ∀ g ∈ pre, g.p = []) (hj : ∀ g ∈ jk, g.fr = []) :
    Calls Tryz.prog 11 #[.pointer (some ⟨q, 0, none⟩), .string ⟨nm.toArray⟩, .int .i64 (most : Int)] w fun e w' => AnsO Y w q m nm most (repW nm (newW st) old pre f jk) (recs (pre ++ [f])) base e w' := by
  obtain ⟨ds, hds⟩ : ∃ ds, ds = old ++ (pre ++ f :: jk) := ⟨_, rfl⟩
  have HDS := Lib.hid hds
  have HFR := Lib.hid (from_disk (old := old) hrun hj)
  have HH := Lib.hid hH
  have HHS := Lib.hid (And.intro hrun (And.intro hp (And.intro hj hd)))
  have HN := Lib.hid hn
  have HP := Lib.hid h
  have HDW := Lib.hid (down_py q m st w h)
  rw [hd] at HDW
  have HW0 := Lib.hid (wa_new h nm most)
  have hb0 := Lib.hid ((Below.refl w.heap.size w).alloc (Nat.le_refl _) (.cells (wlC q nm most (newW st)).toArray 64))
  have hwl : wlC q nm most (newW st) = [.pointer (some ⟨q, 0, none⟩), .string ⟨nm.toArray⟩, .int .i64 (most : Int), .int .i64 0, .int .i64 0, .int .i64 0, .bool false] := rfl
  rw [hwl] at HW0 hb0
  have hs := st_size nm
  have t1 : ¬ (nm.length : Int) < 1 := by omega
  have t2 : ¬ (32 : Int) < (nm.length : Int) := by omega
  have t3 : ¬ (most : Int) < 1 := by omega
  have t4 : ¬ (1048576 : Int) < (most : Int) := by omega
  clear h hn1 hn hm1 hm hd hH hrun hp hj hds hwl
  go_enter Tryz.func11, Tryz.ntmps11
  go_wp2_with fail
  refine HDW.out.mono ?_
  rintro e wd ⟨rfl, rfl⟩
  clear HDW
  go_wp2_with fail
  have hnames : Named nm st.fs (ds.map Fi.n) := by rw [HDS.out]; exact HH.out.named
  have HNB := Lib.hid (numbers_any wd.heap.size q m nm most (newW st) (ds.map Fi.n) _ HW0.out HN.out hnames)
  obtain ⟨w0, hw0⟩ : ∃ w0, w0 = wd.alloc (.cells #[.pointer (some ⟨q, 0, none⟩), .string ⟨nm.toArray⟩, .int .i64 (most : Int), .int .i64 0, .int .i64 0, .int .i64 0, .bool false] 64) := ⟨_, rfl⟩
  rw [← hw0] at HNB hb0 ⊢
  have HW1 : Hid (WA Y w0 wd.heap.size q m nm most (newW st)) := Lib.hid (by rw [hw0]; exact HW0.out)
  obtain ⟨g, hg⟩ : ∃ g, g = wd.heap.size := ⟨_, rfl⟩
  rw [← hg] at HNB HW1 ⊢
  have HG := Lib.hid hg
  clear hw0 HW0 hnames hg
  refine HNB.out.mono ?_
  rintro e w2 ⟨lv, rfl, hown, hb2⟩
  obtain ⟨la, lc, rfl⟩ := (Rd.of_own hown).slice
  obtain ⟨Y', hY'⟩ : ∃ Y' : Nat → Prop, Y' = fun k => Y k ∨ (w0.heap.size ≤ k ∧ k < w2.heap.size) := ⟨_, rfl⟩
  have HYY : Hid (∀ k, Y k → Y' k) := Lib.hid (fun k hk => by rw [hY']; exact .inl hk)
  have HW2 : Hid (WA Y' w2 g q m nm most (newW st)) := Lib.hid (by rw [hY']; exact HW1.out.more hb2)
  have HB2 : Hid (Below wd.heap.size wd w2) := Lib.hid (hb0.out.trans (hb2.mono hb0.out.size))
  have HLY : Hid (∀ k, Value.ownBlock (.slice la (ds.map Fi.n).length lc) = some k → Y' k) := Lib.hid (fun k hk => by rw [hY']; exact .inr (hown.lt k hk))
  obtain ⟨L, hL⟩ : ∃ L, L = (ds.map Fi.n).length := ⟨_, rfl⟩
  have hrd := Rd.of_own hown
  rw [← hL] at hrd HLY ⊢
  have hL2 : L = ds.length := by rw [hL, List.length_map]
  have hL99 : L ≤ 100 := by
    rw [hL]
    refine nodup_le 100 (ds.map Fi.n) (by
      rw [List.Nodup, List.pairwise_map]
      have := HH.out.asc
      rw [← HDS.out] at this
      exact this.imp fun h e => by omega) (fun k hk => by
      obtain ⟨x, hx, rfl⟩ := List.mem_map.1 hk
      rw [HDS.out] at hx
      have := (HH.out.ok x hx).n; omega)
  have HRD : Hid (Rd w2 1 (.slice la L lc) L (ds.map fun f => iv f.n)) := Lib.hid (by
    have e : (ds.map Fi.n).map iv = ds.map fun f => iv f.n := by rw [List.map_map]; rfl
    rw [e] at hrd; exact hrd)
  have HL2 := Lib.hid hL2
  clear hown hb2 hb0 HNB hY' hL hrd hL2 HW1
  go_wp2_with fail
  go_loopw [11, 55] (fun v11 v55 wr => ∃ k : Nat, k ≤ L ∧ v55 = .int .i64 (k : Int) ∧ v11 = .int .i64 (fromK ds k) ∧ Below w2.heap.size w2 wr) (fun _ v55 _ => L - (intOf v55).toNat)
  case atStart => exact ⟨0, Nat.zero_le _, rfl, rfl, Below.refl _ _⟩
  case round =>
    obtain ⟨k, hk, rfl, rfl, hb⟩ := hrel
    have HB := Lib.hid hb
    clear hb
    by_cases hkL : k < L
    case neg =>
      obtain rfl : k = L := by omega
      have hfr : fromK ds k = (old.length : Int) := by
        have := HFR.out
        rw [← HDS.out, ← HL2.out] at this; exact this
      rw [hfr]
      have t5 : ¬ ((old.length : Int)) < 0 := by omega
      have t6 : ¬ (k : Int) < (k : Int) := by omega
      obtain ⟨ls, hls⟩ : ∃ ls : List Fi, ls = old ++ (pre ++ f :: jk) := ⟨_, rfl⟩
      have hrd3 : Rd wr 1 (.slice la (old ++ (pre ++ f :: jk)).length lc) (old ++ (pre ++ f :: jk)).length ((old ++ (pre ++ f :: jk)).map fun f => iv f.n) := by
        have h := HRD.out.below HB.out
        rw [HL2.out, HDS.out] at h
        exact h
      have HRP := Lib.hid (replay_any g q m nm most (newW st) old pre jk f a base (.slice la (old ++ (pre ++ f :: jk)).length lc) wr (HW2.out.below HB.out) HN.out HHS.out.2.2.2 HH.out HHS.out.1 HHS.out.2.1 HHS.out.2.2.1 hrd3 (by have := HLY.out; rw [HL2.out, HDS.out] at this; exact this))
      rw [← HDS.out, ← HL2.out] at HRP
      clear hrd3 hls hfr
      go_wp2_with fail
      refine HRP.out.mono ?_
      rintro e w5 ⟨res, bv, rv, vs, Yc, h1, h2, h3, rfl, h4, h5, h6, h7⟩
      have HRES := Lib.hid (And.intro h1 (And.intro h2 h3))
      have HWC := Lib.hid h5
      have HY2 : Hid (∀ k, Y k → Yc k) := Lib.hid (fun k hk => h4 k (HYY.out k hk))
      have HKK : Hid (Kp Y wd w5) := Lib.hid (((Kp.of_below HB2.out).trans (Kp.of_below HB.out)).trans (h6.mono HYY.out))
      have HHD := Lib.hid h7
      have HSZ : Hid (wd.heap.size ≤ wr.heap.size) := Lib.hid (Nat.le_trans HB2.out.size HB.out.size)
      clear h1 h2 h3 h4 h5 h6 h7 HRP
      by_cases h0 : res.1 = 0
      case pos =>
        rw [h0]
        have hhd := HHD.out h0
        have hr := HRES.out.2.2 (HRES.out.1.symm.trans h0)
        have HE : Hid (AnsO Y wd q m nm most (repW nm (newW st) old pre f jk) (recs (pre ++ [f])) base (.returned (.tuple #[.pointer (some ⟨g, 0, none⟩), bv, rv, .int .i64 0])) w5) := Lib.hid (by
          refine ⟨HKK.out, .inl ⟨HRES.out.1.symm.trans h0, g, bv, rv, vs, Yc, some base, rfl, HY2.out, by rw [← hr]; exact HWC.out, ?_, .inl rfl, by rw [HG.out]; exact Nat.le_refl _⟩⟩
          exact ⟨own_mono hhd.row HSZ.out, fun t u b hu hb => (hhd.el t u b hu hb).mono HSZ.out, ⟨hhd.bs.1, fun b hb => (hhd.bs.2 b hb).mono HSZ.out⟩, hhd.yr, hhd.yv, hhd.ap⟩)
        clear hhd hr h0
        go_wp2_with fail
        (try simp only [Exit.inBlock, Exit.then])
        refine bodyPost_ret (results_tmp4 rfl _ _ _) rfl ?_
        exact HE.out
      case neg =>
        obtain ⟨c, hc⟩ : ∃ c, c = res.1 := ⟨_, rfl⟩
        rw [← hc]
        have HE : Hid (AnsO Y wd q m nm most (repW nm (newW st) old pre f jk) (recs (pre ++ [f])) base (.returned (.tuple #[.pointer none, .slice none 0 0, .slice none 0 0, .int .i64 (c : Int)])) w5) := Lib.hid (by
          refine ⟨HKK.out, .inr ⟨by rw [← HRES.out.1]; exact h0, by rw [hc, HRES.out.1], ?_⟩⟩
          rw [← HRES.out.2.1]
          exact HWC.out.py.mono HY2.out)
        have t7 : ((c : Int) != 0) = true := by rw [bne_iff_ne]; omega
        have t8 : ((c : Int) == 0) = false := by rw [beq_eq_false_iff_ne]; omega
        have t9 : ¬ (c : Int) = 0 := by omega
        clear hc h0
        go_wp2_with fail
        (try simp only [Exit.inBlock, Exit.then])
        refine bodyPost_ret (results_tmp4 rfl _ _ _) rfl ?_
        exact HE.out
    case pos =>
      have t6 : (k : Int) < (L : Int) := by omega
      obtain ⟨fi, hfk⟩ : ∃ fi, ds[k]? = some fi := ⟨_, List.getElem?_eq_getElem (by rw [← HL2.out]; exact hkL)⟩
      have hfm : fi ∈ old ++ (pre ++ f :: jk) := by rw [← HDS.out]; exact List.mem_of_getElem? hfk
      have hok := HH.out.ok fi hfm
      obtain ⟨nb, no, ncap, e1, hncap, hnc⟩ := (HRD.out.below HB.out).pos (by omega)
      cases e1
      have z1 : wr.cell? ⟨nb, no + k, none⟩ = some (.int .i64 (fi.n : Int)) := hnc k (iv fi.n) (by rw [List.getElem?_map, hfk]; rfl)
      have hwr := HW2.out.below HB.out
      have HFN := Lib.hid (file_any g _ nm fi.n _ wr hwr.blk rfl HN.out hok.n)
      have hfl := fnm_len nm fi.n hok.n
      have hask : askedC st.down (fnm nm fi.n) = 0 := by unfold askedC; rw [if_neg (by have := HN.out; omega), HHS.out.2.2.2]; rfl
      have hRD := fun W hb => read_py q m st (fnm nm fi.n) W (hwr.py.below (W' := W) hb) (by have := HN.out; omega)
      have hgb := HH.out.gB hwr.py.fit.asc hfm
      rw [hask, if_pos rfl, hgb.1] at hRD
      have HRE := Lib.hid hRD
      have HOK := Lib.hid hok
      have hbl : fi.b.length ≤ 268435456 := by
        have h1 := tot_lay ⟨fnm nm fi.n, [], 0⟩ st.fs hwr.py.fit.asc
        simp only [List.length_nil, Nat.add_zero] at h1
        have h2 := hwr.py.fit.room
        have h3 := hwr.py.fit.tot
        have h4 := hgb.1
        have h5 : (newW st).st = st := rfl
        rw [h5] at h2 h3
        rw [h4] at h1
        omega
      have HBL := Lib.hid hbl
      have HFK := Lib.hid hfk
      clear hfk hfm hok hnc hwr hfl hask hRD hgb hbl
      go_wp2_with fail
      refine HFN.out.mono ?_
      rintro e wb ⟨rfl, hb1⟩
      have HB1 := Lib.hid hb1
      have HRE3 := Lib.hid (HRE.out wb hb1)
      clear hb1 HFN HRE
      go_wp2_with fail
      refine HRE3.out.mono ?_
      rintro e wc ⟨v14, rfl, hown, hb3⟩
      have HB3 := Lib.hid (HB1.out.trans (hb3.mono HB1.out.size))
      have HNX := Lib.hid (next_at fi.fr fi.p v14 wc HOK.out.fr HOK.out.p (Rd.of_own hown) (by have := HBL.out; show fi.b.length ≤ _; omega))
      clear hown hb3 HRE3
      go_wp2_with fail
      refine HNX.out.mono ?_
      rintro e wn ⟨u, rfl, hb4, _⟩
      have HB4 := Lib.hid (HB.out.trans (HB3.out.trans (hb4.mono HB3.out.size) |>.mono HB.out.size))
      have hfk1 : fromK ds (k + 1) = if isB fi.fr then (k : Int) else fromK ds k := by rw [fromK, HFK.out]
      have HF1 := Lib.hid hfk1
      cases hfr : fi.fr with
      | nil =>
        have hn0 : nxn ([] : List (Nat × By)) = 0 := rfl
        rw [hfr] at HF1
        rw [hn0]
        clear hb4 HNX hfk1 hfr hn0
        go_wp2_with fail
        go_roundw
        case rel => exact ⟨k + 1, by omega, by go_num, by rw [HF1.out]; rfl, HB4.out⟩
        case measure => simp [intOf]; omega
      | cons xf r =>
        obtain ⟨x1, x2⟩ := xf
        rw [hfr] at HF1
        obtain ⟨N, hN⟩ : ∃ N, N = nxn ((x1, x2) :: r) := ⟨_, rfl⟩
        have hN0 : 0 < N := by rw [hN]; exact List.length_pos_iff.2 (enc_ne _ _)
        have hx1 : nxk ((x1, x2) :: r) = x1 := rfl
        rw [← hN, hx1]
        have n0 : (0 : Int) < (N : Int) := by omega
        by_cases h0 : x1 = 0
        · subst h0
          have HF2 : Hid (fromK ds (k + 1) = (k : Int)) := Lib.hid (by rw [HF1.out]; rfl)
          clear hb4 HNX hfk1 hfr hN hx1 hN0
          go_wp2_with fail
          go_roundw
          case rel => exact ⟨k + 1, by omega, by go_num, by rw [HF2.out], HB4.out⟩
          case measure => simp [intOf]; omega
        · have n2 : ((x1 : Int) == 0) = false := by rw [beq_eq_false_iff_ne]; omega
          have n3 : ¬ (x1 : Int) = 0 := by omega
          have HF2 : Hid (fromK ds (k + 1) = fromK ds k) := Lib.hid (by rw [HF1.out]; unfold isB; rw [if_neg (by simpa using h0)])
          clear hb4 HNX hfk1 hfr hN hx1 hN0 h0
          go_wp2_with fail
          go_roundw
          case rel => exact ⟨k + 1, by omega, by go_num, by rw [HF2.out], HB4.out⟩
          case measure => simp [intOf]; omega
set_option maxHeartbeats 1000000 in
theorem open_empty {Y : Nat → Prop} (q m : Nat) (nm : By) (most : Nat) (st : St) (l : List Nat) (w : World) (h : PY Y w q m st) (hn1 : 1 ≤ nm.length) (hn : nm.length ≤ 32) (hm1 : 1 ≤ most) (hm : most ≤ 1048576) (hd : st.down = false)
    (hfs : st.fs = []) (hnm : ∀ r, r = appW nm (newW st) 1 (enc 0 []) → r.1 = 0 → ∀ r2, r2 = synW nm r.2 1 → r2.1 = 0 → Named nm r2.2.st.fs l) :
    Calls Tryz.prog 11 #[.pointer (some ⟨q, 0, none⟩), .string ⟨nm.toArray⟩, .int .i64 (most : Int)] w fun e w' => AnsO Y w q m nm most (begW nm (newW st) 1 [] l) [] [] e w' := by
  have HNM := Lib.hid hnm
  have HN := Lib.hid hn
  have HP := Lib.hid h
  have HFS := Lib.hid hfs
  have HDW := Lib.hid (down_py q m st w h)
  rw [hd] at HDW
  have HW0 := Lib.hid (wa_new h nm most)
  have hb0 := Lib.hid ((Below.refl w.heap.size w).alloc (Nat.le_refl _) (.cells (wlC q nm most (newW st)).toArray 64))
  have hwl : wlC q nm most (newW st) = [.pointer (some ⟨q, 0, none⟩), .string ⟨nm.toArray⟩, .int .i64 (most : Int), .int .i64 0, .int .i64 0, .int .i64 0, .bool false] := rfl
  rw [hwl] at HW0 hb0
  have hs := st_size nm
  have t1 : ¬ (nm.length : Int) < 1 := by omega
  have t2 : ¬ (32 : Int) < (nm.length : Int) := by omega
  have t3 : ¬ (most : Int) < 1 := by omega
  have t4 : ¬ (1048576 : Int) < (most : Int) := by omega
  clear h hn1 hn hm1 hm hd hfs hnm hwl
  go_enter Tryz.func11, Tryz.ntmps11
  go_wp2_with fail
  refine HDW.out.mono ?_
  rintro e wd ⟨rfl, rfl⟩
  clear HDW
  go_wp2_with fail
  have hnames : Named nm st.fs [] := by rw [HFS.out]; exact ⟨fun g hg => (by cases hg), fun n hn => (by cases hn), List.Pairwise.nil, fun n hn => (by cases hn)⟩
  have HNB := Lib.hid (numbers_any wd.heap.size q m nm most (newW st) [] _ HW0.out HN.out hnames)
  obtain ⟨w0, hw0⟩ : ∃ w0, w0 = wd.alloc (.cells #[.pointer (some ⟨q, 0, none⟩), .string ⟨nm.toArray⟩, .int .i64 (most : Int), .int .i64 0, .int .i64 0, .int .i64 0, .bool false] 64) := ⟨_, rfl⟩
  rw [← hw0] at HNB hb0 ⊢
  have HW1 : Hid (WA Y w0 wd.heap.size q m nm most (newW st)) := Lib.hid (by rw [hw0]; exact HW0.out)
  obtain ⟨g, hg⟩ : ∃ g, g = wd.heap.size := ⟨_, rfl⟩
  rw [← hg] at HNB HW1 ⊢
  have HG := Lib.hid hg
  clear hw0 HW0 hnames hg
  refine HNB.out.mono ?_
  rintro e w2 ⟨lv, rfl, hown, hb2⟩
  obtain ⟨la, lc, e3⟩ := (Rd.of_own hown).slice
  simp only [List.length_nil] at e3
  subst e3
  have HW2 := Lib.hid (HW1.out.below hb2)
  have HB2 : Hid (Below wd.heap.size wd w2) := Lib.hid (hb0.out.trans (hb2.mono hb0.out.size))
  clear hown hb2 hb0 HNB HW1
  go_wp2_with fail
  go_loopw [11, 55] (fun v11 v55 wr => v55 = .int .i64 0 ∧ v11 = .int .i64 (-1) ∧ wr = w2) (fun _ v55 _ => 0)
  case atStart => exact ⟨rfl, rfl, rfl⟩
  case round =>
    obtain ⟨rfl, rfl, rfl⟩ := hrel
    go_wp2_with fail
    generalize wr = w3 at *
    go_loopw [6, 86] (fun v6 v86 wr => v86 = .int .i64 0 ∧ v6 = .pointer (some ⟨g, 0, none⟩) ∧ wr = w3) (fun _ _ _ => 0)
    case atStart => exact ⟨rfl, rfl, rfl⟩
    case round =>
      obtain ⟨rfl, rfl, rfl⟩ := hrel
      have HBG := Lib.hid (begin_any g q m nm most 1 (newW st) [] (.slice none 0 0) l wr HW2.out HN.out (by decide) (by decide) (Rd.nil _ _) HNM.out)
      go_wp2_with fail
      refine HBG.out.mono ?_
      rintro e w5 ⟨rfl, hw5, hk5⟩
      have HW5 := Lib.hid hw5
      have HK5 : Hid (Kp Y wd w5) := Lib.hid ((Kp.of_below HB2.out).trans hk5)
      obtain ⟨X, hX⟩ : ∃ X, X = begW nm (newW st) 1 [] l := ⟨_, rfl⟩
      rw [← hX] at HW5 ⊢
      have HX := Lib.hid hX
      clear hw5 hk5 hX HBG
      by_cases h0 : X.1 = 0
      case pos =>
        have HE : Hid (AnsO Y wd q m nm most (begW nm (newW st) 1 [] l) [] [] (.returned (.tuple #[.pointer (some ⟨g, 0, none⟩), .slice none 0 0, .slice none 0 0, .int .i64 0])) w5) := Lib.hid (by
          rw [← HX.out]
          exact ⟨HK5.out, .inl ⟨h0, g, .slice none 0 0, .slice none 0 0, [], Y, none, rfl, fun k h => h, HW5.out, Hd.nil _ _ _, .inr ⟨rfl, rfl⟩, by rw [HG.out]; exact Nat.le_refl _⟩⟩)
        rw [h0]
        clear h0
        go_wp2_with fail
        (try simp only [Exit.inBlock, Exit.then])
        refine bodyPost_ret (results_tmp4 rfl _ _ _) rfl ?_
        exact HE.out
      case neg =>
        obtain ⟨c, hc⟩ : ∃ c, c = X.1 := ⟨_, rfl⟩
        rw [← hc]
        have HE : Hid (AnsO Y wd q m nm most (begW nm (newW st) 1 [] l) [] [] (.returned (.tuple #[.pointer none, .slice none 0 0, .slice none 0 0, .int .i64 (c : Int)])) w5) := Lib.hid (by
          rw [← HX.out]
          exact ⟨HK5.out, .inr ⟨h0, by rw [hc], HW5.out.py⟩⟩)
        have t7 : ((c : Int) != 0) = true := by rw [bne_iff_ne]; omega
        have t8 : ((c : Int) == 0) = false := by rw [beq_eq_false_iff_ne]; omega
        have t9 : ¬ (c : Int) = 0 := by omega
        clear hc h0
        go_wp2_with fail
        (try simp only [Exit.inBlock, Exit.then])
        refine bodyPost_ret (results_tmp4 rfl _ _ _) rfl ?_
        exact HE.out
end Go.Proofs.YthofbblgoamipaaGreatDoor.Wa
