/-
  Chapter 12's laws: how they begin; a script's bulk.
-/
import Derived.Test.YthofbblgoamipaaGreatDoorU0
namespace Go.Proofs.YthofbblgoamipaaGreatDoor.Wa
open Go.RowKit Pt
set_option linter.unusedVariables false
set_option linter.unusedSimpArgs false
set_option maxRecDepth 100000

/-- the cells of a log at play -/
def plC (q g : Nat) (nm : By) (most : Nat) (bv rv : Value) (safe : Nat) : List Value := [.pointer (some ⟨q, 0, none⟩), .pointer (some ⟨g, 0, none⟩), .string ⟨nm.toArray⟩, .int .i64 (most : Int), bv, rv, .int .i64 (safe : Int)]
/-- a log at play, and what it has to be -/
structure PL (B0 : Nat) (Yc : Nat → Prop) (W : World) (xp g q m : Nat) (nm : By) (most : Nat) (x : Wl) (lg : Lg) (bv rv : Value) (k N T rm : Nat) : Prop where
  lx : LX Yc W g q m nm most x lg.base lg.R k N T rm
  lgv : LgV (fun j => Yc j ∧ j ≠ xp) W lg bv rv
  blk : Blk W xp 53 (plC q g nm most bv rv lg.safe)
  y0 : ∀ j, j < B0 → Yc j
  yx : Yc xp
  bx : B0 ≤ xp
  sf : lg.safe ≤ k
  un : x.st.armed = false
theorem PL.lt {B0 : Nat} {Yc : Nat → Prop} {W : World} {xp g q m : Nat} {nm : By} {most : Nat} {x : Wl} {lg : Lg} {bv rv : Value} {k N T rm : Nat} (h : PL B0 Yc W xp g q m nm most x lg bv rv k N T rm) : B0 ≤ W.heap.size := Nat.le_of_lt (Nat.lt_of_le_of_lt h.bx h.blk.lt)
theorem u64_nn (n : Int) : 0 ≤ IntKind.u64.wrap n := by
  have e : IntKind.u64.wrap n = n % 18446744073709551616 := by unfold IntKind.wrap; simp [IntKind.signed, IntKind.bits]
  rw [e]; exact Int.emod_nonneg _ (by decide)
theorem mod_nat (n : Int) (c : Int) (hc : 0 < c) (hc2 : c ≤ 10000) : ∃ N : Nat, wrap64 ((IntKind.u64.wrap n).tmod c) = (N : Int) ∧ (N : Int) < c := by
  have h0 : 0 ≤ IntKind.u64.wrap n := u64_nn n
  have h1 := Int.tmod_nonneg c h0
  have h2 := Int.tmod_lt_of_pos (IntKind.u64.wrap n) hc
  refine ⟨((IntKind.u64.wrap n).tmod c).toNat, ?_, by omega⟩
  rw [IntWalk.wrap64_in _ (by omega)]
  omega
theorem mod2000 (n : Int) : ∃ M : Nat, wrap64 (1 + wrap64 ((IntKind.u64.wrap n).tmod 2000)) = (M : Int) ∧ 1 ≤ M ∧ M ≤ 2000 := by
  obtain ⟨N, h1, h2⟩ := mod_nat n 2000 (by decide) (by decide)
  rw [h1, IntWalk.wrap64_in _ (by omega)]
  exact ⟨N + 1, by omega, by omega, by omega⟩
set_option maxHeartbeats 8000000 in
theorem begun_any {Y : Nat → Prop} {q m : Nat} {st : St} {rm : Nat} (nm : By) (n : Int) (w : World) (h : PY Y w q m st) (hn1 : 1 ≤ nm.length) (hn : nm.length ≤ 32) (hd : st.down = false) (ha : st.armed = false) (hfs : st.fs = []) (hrm : st.room = rm) (hr : 100 ≤ rm) {B0 : Nat} (hB : B0 ≤ w.heap.size) (hY : ∀ j, j < B0 → Y j) :
    Calls Tryz.prog 7 #[.pointer (some ⟨q, 0, none⟩), .string ⟨nm.toArray⟩, .int .i64 n] w fun e w' => Below B0 w w' ∧ ∃ Yc xp g M x bv rv, e = .returned (.pointer (some ⟨xp, 0, none⟩)) ∧ PL B0 Yc w' xp g q m nm M x ⟨[], [], 0⟩ bv rv 0 1 12 rm ∧ M ≤ 2000 ∧ 1 ≤ M := by
  obtain ⟨M, hM, hM1, hM2⟩ := mod2000 n
  have HM := Lib.hid (And.intro hM1 hM2)
  have HO := Lib.hid (open_new (nm := nm) (most := M) (rm := rm) w h hn1 hn hM1 (by omega) hd ha hfs hrm hr)
  have HBY := Lib.hid (And.intro hB hY)
  have HARM := Lib.hid ha
  clear h hn1 hn hd ha hfs hrm hr hB hY hM1 hM2
  go_enter Tryz.func7, Tryz.ntmps7
  go_wp2_with fail
  rw [hM]
  clear hM
  refine HO.out.mono ?_
  rintro e w2 ⟨hk2, g, bv, rv, x, Yc, rfl, hox⟩
  obtain ⟨Ba, Bc, e2⟩ := hox.lg.b.slice
  subst e2
  obtain ⟨Ra, Rc, e2⟩ := hox.lg.r.slice
  subst e2
  have HX := Lib.hid hox
  have HK := Lib.hid hk2
  clear hox hk2 HO
  go_wp2_with fail
  have hb3 : Below w2.heap.size w2 (w2.alloc (.cells #[.pointer (some ⟨q, 0, none⟩), .pointer (some ⟨g, 0, none⟩), .string ⟨nm.toArray⟩, .int .i64 (M : Int), .slice none 0 0, .slice none 0 0, .int .i64 0] 53)) := (Below.refl _ _).alloc (Nat.le_refl _) _
  have hbl : Blk (w2.alloc (.cells #[.pointer (some ⟨q, 0, none⟩), .pointer (some ⟨g, 0, none⟩), .string ⟨nm.toArray⟩, .int .i64 (M : Int), .slice none 0 0, .slice none 0 0, .int .i64 0] 53)) w2.heap.size 53 (plC q g nm M (.slice none 0 0) (.slice none 0 0) 0) := Blk.new w2 53 _
  have HBB := HBY.out.1
  have hks := HK.out.size
  go_ret
  refine ⟨(HK.out.below HBY.out.1 HBY.out.2).trans (hb3.mono (by omega)), _, w2.heap.size, g, M, x, .slice none 0 0, .slice none 0 0, rfl, ⟨HX.out.lx.more hb3, ⟨Rd.nil _ _, RdB.nil _ _ none 0, fun h0 => absurd h0 (by simp), by simp, by simp⟩, hbl, fun j hj => .inl (HX.out.sub j (HBY.out.2 j hj)), .inr ⟨Nat.le_refl _, hbl.lt⟩, by omega, Nat.le_refl _, HX.out.arm HARM.out⟩, HM.out.2, HM.out.1⟩
/-- a step of a script -/
structure Sq where
  kd : Int
  b : By
  ks : List Int
def sqc (s : Sq) (vb vk : Value) : List Value := [.int .i64 s.kd, vb, vk]
/-- a step's lists read so; they lie below B -/
structure SqAt (B : Nat) (W : World) (s : Sq) (vb vk : Value) : Prop where
  rb : Rd W 1 vb s.b.length (Lib.byteCells s.b)
  rk : Rd W 1 vk s.ks.length (s.ks.map fun j => Value.int .i64 j)
  nb : 0 < s.b.length → ∀ g, vb.ownBlock = some g → g < B
  nk : 0 < s.ks.length → ∀ g, vk.ownBlock = some g → g < B
  lb : s.b.length ≤ 140737488355000
theorem SqAt.below {B : Nat} {W W' : World} {s : Sq} {vb vk : Value} (h : SqAt B W s vb vk) (hb : Below B W W') : SqAt B W' s vb vk :=
  ⟨rd_keep0 h.rb (fun h0 g hg => hb.block g (h.nb h0 g hg)), rd_keep0 h.rk (fun h0 g hg => hb.block g (h.nk h0 g hg)), h.nb, h.nk, h.lb⟩
/-- a slice reads as these steps; all of it lies below B -/
structure SqsAt (B : Nat) (W : World) (v : Value) (l : List Sq) (vb vk : Nat → Value) : Prop where
  shp : ∃ a c, v = .slice a l.length c
  cel : 0 < l.length → ∃ b o c, v = .slice (some ⟨b, o, none⟩) l.length c ∧ b < B ∧ ∀ k s, l[k]? = some s → ∀ (j : Nat) (u : Value), (sqc s (vb k) (vk k))[j]? = some u → W.cell? ⟨b, o + k * 3 + j, none⟩ = some u
  stp : ∀ k s, l[k]? = some s → SqAt B W s (vb k) (vk k)
theorem SqsAt.below {B : Nat} {W W' : World} {v : Value} {l : List Sq} {vb vk : Nat → Value} (h : SqsAt B W v l vb vk) (hb : Below B W W') : SqsAt B W' v l vb vk := by
  refine ⟨h.shp, fun hl => ?_, fun k s hk => (h.stp k s hk).below hb⟩
  obtain ⟨b, o, c, e, hbB, hc⟩ := h.cel hl
  exact ⟨b, o, c, e, hbB, fun k s hk j u hj => (World.cell?_of_block (a := ⟨b, o + k * 3 + j, none⟩) (hb.block b hbB)).trans (hc k s hk j u hj)⟩
/-- the bytes of the first k steps that are gone through -/
def sz (s : Sq) : Nat := if s.b.length ≤ 60000 then s.b.length else 0
def blk (l : List Sq) (k : Nat) : Nat := ((l.take k).map sz).sum
theorem blk_succ {l : List Sq} {k : Nat} {s : Sq} (h : l[k]? = some s) : blk l (k + 1) = blk l k + sz s := by
  have hk : k < l.length := (List.getElem?_eq_some_iff.1 h).1
  unfold blk
  rw [List.take_succ_eq_append_getElem hk, List.map_append, List.sum_append, (List.getElem?_eq_some_iff.1 h).2]
  simp
theorem blk_end {l : List Sq} {k : Nat} (h : l.length ≤ k) : blk l k = blk l l.length := by
  unfold blk
  rw [List.take_of_length_le h, List.take_length]
theorem sz_le (s : Sq) : sz s ≤ 60000 := by unfold sz; split <;> omega
theorem blk_le (l : List Sq) : ∀ k, blk l k ≤ 60000 * k := by
  intro k
  induction k with
  | zero => simp [blk]
  | succ k ih =>
    rcases Nat.lt_or_ge k l.length with h | h
    · rw [blk_succ (List.getElem?_eq_getElem h)]
      have := sz_le l[k]
      omega
    · rw [blk_end (by omega), ← blk_end h]
      omega
theorem blk_mono {l : List Sq} {k j : Nat} (h : k ≤ j) : blk l k ≤ blk l j := by
  induction j with
  | zero => rw [show k = 0 from by omega]; exact Nat.le_refl _
  | succ j ih =>
    by_cases e : k = j + 1
    · rw [e]; exact Nat.le_refl _
    · refine Nat.le_trans (ih (by omega)) ?_
      rcases Nat.lt_or_ge j l.length with h2 | h2
      · rw [blk_succ (List.getElem?_eq_getElem h2)]; omega
      · rw [blk_end (by omega : l.length ≤ j + 1), ← blk_end h2]; exact Nat.le_refl _
set_option maxHeartbeats 8000000 in
theorem bulk_any (v : Value) (l : List Sq) (vb vk : Nat → Value) (w : World) (B : Nat) (h : SqsAt B w v l vb vk) (hl : l.length ≤ 4611686018427387904) :
    Calls Tryz.prog 9 #[v] w fun e w' => e = .returned (.bool (decide (1048576 < blk l 60))) ∧ Below w.heap.size w w' := by
  obtain ⟨a, c, rfl⟩ := h.shp
  have H := Lib.hid h
  have HB := Lib.hid (Below.refl w.heap.size w)
  clear h
  go_enter Tryz.func9, Tryz.ntmps9
  go_wp2_with fail
  go_loopw [3, 4] (fun n i wr => ∃ k : Nat, k ≤ l.length ∧ k ≤ 60 ∧ n = .int .i64 (blk l k : Int) ∧ i = .int .i64 (k : Int) ∧ wr = w) (fun _ i _ => 60 - (intOf i).toNat)
  case atStart => exact ⟨0, Nat.zero_le _, Nat.zero_le _, rfl, rfl, rfl⟩
  case round =>
    obtain ⟨k, hk, hk60, rfl, rfl, rfl⟩ := hrel
    by_cases hkn : k < l.length
    case neg =>
      have t1 : ¬ (k : Int) < (l.length : Int) := by omega
      have HE : Hid (blk l 60 = blk l k) := Lib.hid (by rw [blk_end (by omega : l.length ≤ 60), blk_end (by omega : l.length ≤ k)])
      generalize blk l k = S at *
      have hd : decide ((1048576 : Int) < (S : Int)) = decide (1048576 < S) := by rw [decide_eq_decide]; omega
      go_wp2_with fail
      go_ret
      exact ⟨by rw [HE.out]; rfl, HB.out⟩
    case pos =>
    have t1 : (k : Int) < (l.length : Int) := by omega
    by_cases hk1 : (k : Int) < 60
    case neg =>
      have HE : Hid (blk l 60 = blk l k) := Lib.hid (by rw [show k = 60 from by omega])
      generalize blk l k = S at *
      have hd : decide ((1048576 : Int) < (S : Int)) = decide (1048576 < S) := by rw [decide_eq_decide]; omega
      go_wp2_with fail
      go_ret
      exact ⟨by rw [HE.out]; rfl, HB.out⟩
    case pos =>
    obtain ⟨s, hs⟩ : ∃ s, l[k]? = some s := ⟨_, List.getElem?_eq_getElem hkn⟩
    obtain ⟨b1, o1, c1, e1, hb1, hc1⟩ := H.out.cel (by omega)
    cases e1
    obtain ⟨xa, xc, ex⟩ := (H.out.stp k s hs).rb.slice
    have y1 := hc1 k s hs 1 _ rfl
    rw [ex] at y1
    have hlb := (H.out.stp k s hs).lb
    have HBS := Lib.hid (blk_succ hs)
    have hbl := blk_le l k
    have hbl2 : blk l k ≤ 3600000 := by omega
    obtain ⟨L, hL⟩ : ∃ L, L = s.b.length := ⟨_, rfl⟩
    rw [← hL] at y1 hlb
    have HL := Lib.hid hL
    obtain ⟨S, hS⟩ : ∃ S, S = blk l k := ⟨_, rfl⟩
    rw [← hS] at HBS hbl2 ⊢
    clear hc1 hs hbl hL ex hS
    by_cases hlg : L ≤ 60000
    case pos =>
      have t3 : (L : Int) ≤ 60000 := by omega
      have HN : Hid (blk l (k + 1) = S + L) := Lib.hid (by rw [HBS.out]; unfold sz; rw [← HL.out, if_pos hlg])
      clear hlg
      go_wp2_with fail
      go_roundw
      case rel => exact ⟨k + 1, by omega, by omega, by rw [HN.out]; go_num, by go_num, trivial⟩
      case measure => simp [intOf]; omega
    case neg =>
      have t3 : ¬ (L : Int) ≤ 60000 := by omega
      have HN : Hid (blk l (k + 1) = S) := Lib.hid (by rw [HBS.out]; unfold sz; rw [← HL.out, if_neg hlg]; rfl)
      clear hlg
      go_wp2_with fail
      go_roundw
      case rel => exact ⟨k + 1, by omega, by omega, by rw [HN.out], by go_num, trivial⟩
      case measure => simp [intOf]; omega
end Go.Proofs.YthofbblgoamipaaGreatDoor.Wa
/- Chapter 12's laws: a log is opened anew, and may have what it has. -/
namespace Go.Proofs.YthofbblgoamipaaGreatDoor.Wa
open Go.RowKit Pt
set_option linter.unusedVariables false
set_option linter.unusedSimpArgs false
set_option maxRecDepth 100000

theorem rd_cap {W : World} {sz n c : Nat} {a : Option Addr} {cs : List Value} (h : Rd W sz (.slice a n c) n cs) : n ≤ c := by
  rcases h.2 with ⟨_, h0⟩ | ⟨b, o, c', e, hle, _⟩
  · omega
  · cases e; exact hle
/-- behind an opening, before it: a plate whose disk holds the base and the first p records -/
structure QX (B0 : Nat) (Y : Nat → Prop) (W : World) (xp g q m : Nat) (nm : By) (most : Nat) (st : St) (lg : Lg) (bv rv : Value) (p N T rm : Nat) : Prop where
  pa : PY Y W q m st
  dk : Disk nm st.fs lg.base (lg.R.take p) N
  tt : tot st.fs ≤ T
  rm : st.room = rm
  down : st.down = false
  arm : st.armed = false
  lgv : LgV (fun j => Y j ∧ j ≠ xp) W lg bv rv
  blk : Blk W xp 53 (plC q g nm most bv rv lg.safe)
  y0 : ∀ j, j < B0 → Y j
  yx : Y xp
  bx : B0 ≤ xp
  sf : lg.safe ≤ p
  pl : p ≤ lg.R.length
theorem QX.below {B0 : Nat} {Y : Nat → Prop} {W W' : World} {xp g q m : Nat} {nm : By} {most : Nat} {st : St} {lg : Lg} {bv rv : Value} {p N T rm : Nat} (h : QX B0 Y W xp g q m nm most st lg bv rv p N T rm) (hb : Below W.heap.size W W') : QX B0 Y W' xp g q m nm most st lg bv rv p N T rm :=
  ⟨h.pa.below hb, h.dk, h.tt, h.rm, h.down, h.arm, h.lgv.below hb, h.blk.below hb h.blk.lt, h.y0, h.yx, h.bx, h.sf, h.pl⟩
theorem alw_ok (lg : Lg) (p : Nat) (hs : lg.safe ≤ p) (hp : p ≤ lg.R.length) : alw lg lg.base (lg.R.take p) = true := by
  have hl : (lg.R.take p).length = p := by rw [List.length_take]; omega
  unfold alw
  rw [hl, decide_eq_true (rfl : lg.base = lg.base), decide_eq_true hs, decide_eq_true hp, decide_eq_true rfl]
  rfl
theorem lt_Y {Y : Nat → Prop} {W : World} {q m : Nat} {st : St} (h : PY Y W q m st) {k : Nat} (hk : Y k) : k < W.heap.size := h.ys k hk
def CO (W4 : World) (b : By) (W : World) : Prop := Rd W 1 (.slice (some ⟨W4.heap.size, 0, none⟩) b.length b.length) b.length (Lib.byteCells b) ∧ Below W4.heap.size W4 W
def sto (W : World) (xp : Nat) (b r : Value) (s : Nat) : World := ((W.setCell ⟨xp, 4, none⟩ b).setCell ⟨xp, 5, none⟩ r).setCell ⟨xp, 6, none⟩ (.int .i64 (s : Int))
theorem sto_out (W : World) (xp : Nat) (b r : Value) (s : Nat) : Out (fun k => k = xp) W (sto W xp b r s) := (((Out.refl (fun k => k = xp) W).set ⟨xp, 4, none⟩ b rfl).set ⟨xp, 5, none⟩ r rfl).set ⟨xp, 6, none⟩ (.int .i64 (s : Int)) rfl
theorem LX.other {Y F : Nat → Prop} {W W' : World} {g q m : Nat} {nm : By} {most : Nat} {x : Wl} {base : By} {R : List By} {k N T rm : Nat} (h : LX Y W g q m nm most x base R k N T rm) (ho : Out F W W') (hF : ∀ k, F k → Y k) : LX Y W' g q m nm most x base R k N T rm := ⟨h.wa.other ho hF, h.lv, h.tt, h.rm⟩
/-- what it has to be is written down -/
theorem PL.store {B0 : Nat} {Y : Nat → Prop} {W : World} {xp g q m : Nat} {nm : By} {most : Nat} {x : Wl} {lg : Lg} {b0 r0 bv rv : Value} {s0 k N T rm : Nat} (hl : LX Y W g q m nm most x lg.base lg.R k N T rm) (hg : LgV (fun j => Y j ∧ j ≠ xp) W lg bv rv)
    (hb : Blk W xp 53 (plC q g nm most b0 r0 s0)) (y0 : ∀ j, j < B0 → Y j) (yx : Y xp) (bx : B0 ≤ xp) (sf : lg.safe ≤ k) (un : x.st.armed = false) : PL B0 Y (sto W xp bv rv lg.safe) xp g q m nm most x lg bv rv k N T rm ∧ Below B0 W (sto W xp bv rv lg.safe) := by
  have ho := sto_out W xp bv rv lg.safe
  exact ⟨⟨hl.other ho fun j hj => hj ▸ yx, hg.keep fun j hj => ho.block j (hl.wa.ys j hj.1) hj.2, ((hb.set 4 bv).set 5 rv).set 6 (.int .i64 (lg.safe : Int)), y0, yx, bx, sf, un⟩, ho.below (Nat.le_of_lt (Nat.lt_of_le_of_lt bx hb.lt)) fun j hj => hj ▸ bx⟩
set_option maxHeartbeats 8000000 in
theorem popen_any {B0 : Nat} {Y : Nat → Prop} {xp g q m : Nat} {nm : By} {most : Nat} {st : St} {lg : Lg} {bv rv : Value} {p N T rm : Nat} (w : World) (h : QX B0 Y w xp g q m nm most st lg bv rv p N T rm) (hn1 : 1 ≤ nm.length) (hn : nm.length ≤ 32) (hm1 : 1 ≤ most) (hm : most ≤ 2000) (hN : N ≤ 99) :
    Calls Tryz.prog 28 #[.pointer (some ⟨xp, 0, none⟩)] w fun e w' => e = .returned (.bool true) ∧ Below B0 w w' ∧ ∃ Yc g' x' bv' rv', PL B0 Yc w' xp g' q m nm most x' ⟨lg.base, lg.R.take p, p⟩ bv' rv' p N T rm := by
  have hR : (lg.R.take p).length ≤ 1000000 := by have := h.lgv.lr; rw [List.length_take]; omega
  have hp9 : p ≤ 1000000 := by have := h.lgv.lr; have := h.pl; omega
  have hpl : (lg.R.take p).length = p := by have := h.pl; rw [List.length_take]; omega
  have HPL := Lib.hid hpl
  have hq := h.pa.q.1
  have hys := h.pa.ys
  have H := Lib.hid h
  have HO := Lib.hid (fun W (hb : Below w.heap.size w W) => open_lx (most := most) W (h.pa.below hb) hn1 hn hm1 (by omega) h.down h.dk hN h.tt h.rm hR)
  obtain ⟨Ra, Rc, er⟩ := h.lgv.r.slice
  subst er
  have hcap : p ≤ Rc := by obtain ⟨vs, h1, _⟩ := h.lgv.r; have := rd_cap h1; have := h.pl; omega
  have HC := Lib.hid hcap
  have hsl := fun W => sl_front (P := Tryz.prog) W 38 Ra lg.R.length Rc p .i64 bls_elem (bls_size W) hcap
  clear h hn1 hn hm1 hm hN hR hpl hq hys hcap
  go_enter Tryz.func28, Tryz.ntmps28
  go_wp2_with fail
  refine wp_region_held_drew (S := (fun W => W.cell? ⟨xp, 0, none⟩ = some (.pointer (some ⟨q, 0, none⟩)) ∧ W.cell? ⟨xp, 2, none⟩ = some (.string ⟨nm.toArray⟩) ∧ W.cell? ⟨xp, 3, none⟩ = some (.int .i64 (most : Int)))) (by kernel_rfl) ?_ (fun hHeld1 => ?_)
  · exact ⟨H.out.blk.cell 0 rfl, H.out.blk.cell 2 rfl, H.out.blk.cell 3 rfl⟩
  refine wpAnyH_take (i := 0) (oi := ?oi1) (v := ?v1) ?hi1 (by kernel_rfl) (by kernel_rfl) (by kernel_rfl) ?hq1 ?hy1 (by assumption) ?rest1
  case hi1 => (simp only [List.getElem?_toArray, List.getElem?_cons_succ, List.getElem?_cons_zero]; rfl)
  case hq1 => exact fun _ _ _ h => h
  case hy1 => (refine Or.inl ⟨by rfl, ?_⟩; intro W hSw; (try dsimp only at hSw); go_simp; (try with_reducible rfl))
  try simp only [Act.put, List.setIfInBounds_toArray, List.set_cons_zero, List.set_cons_succ]
  refine wpAnyH_take (i := 1) (oi := ?oi2) (v := ?v2) ?hi2 (by kernel_rfl) (by kernel_rfl) (by kernel_rfl) ?hq2 ?hy2 (by assumption) ?rest2
  case hi2 => (simp only [List.getElem?_toArray, List.getElem?_cons_succ, List.getElem?_cons_zero]; rfl)
  case hq2 => exact fun _ _ _ h => h
  case hy2 => (refine Or.inl ⟨by rfl, ?_⟩; intro W hSw; (try dsimp only at hSw); go_simp; (try with_reducible rfl))
  try simp only [Act.put, List.setIfInBounds_toArray, List.set_cons_zero, List.set_cons_succ]
  refine wpAnyH_take (i := 2) (oi := ?oi3) (v := ?v3) ?hi3 (by kernel_rfl) (by kernel_rfl) (by kernel_rfl) ?hq3 ?hy3 (by assumption) ?rest3
  case hi3 => (simp only [List.getElem?_toArray, List.getElem?_cons_succ, List.getElem?_cons_zero]; rfl)
  case hq3 => exact fun _ _ _ h => h
  case hy3 => (refine Or.inl ⟨by rfl, ?_⟩; intro W hSw; (try dsimp only at hSw); go_simp; (try with_reducible rfl))
  try simp only [Act.put, List.setIfInBounds_toArray, List.set_cons_zero, List.set_cons_succ]
  refine wpAnyH_take (i := 3) (oi := ?oi4) (v := ?v4) ?hi4 (by kernel_rfl) (by kernel_rfl) (by kernel_rfl) ?hq4 ?hy4 (by assumption) ?rest4
  case hi4 => (simp only [List.getElem?_toArray, List.getElem?_cons_succ, List.getElem?_cons_zero]; rfl)
  case hq4 => exact fun _ _ _ h => h
  case hy4 => (refine Or.inl ⟨by rfl, ?_⟩; intro W hSw; (try dsimp only at hSw); go_simp; (try with_reducible rfl))
  try simp only [Act.put, List.setIfInBounds_toArray, List.set_cons_zero, List.set_cons_succ]
  refine wpAnyH_take (i := 4) (oi := ?oi5) (v := ?v5) ?hi5 (by kernel_rfl) (by kernel_rfl) (by kernel_rfl) ?hq5 ?hy5 (by assumption) ?rest5
  case hi5 => (simp only [List.getElem?_toArray, List.getElem?_cons_succ, List.getElem?_cons_zero]; rfl)
  case hq5 => exact fun _ _ _ h => h
  case hy5 => (refine Or.inl ⟨by rfl, ?_⟩; intro W hSw; (try dsimp only at hSw); go_simp; (try with_reducible rfl))
  try simp only [Act.put, List.setIfInBounds_toArray, List.set_cons_zero, List.set_cons_succ]
  refine wpAnyH_take (i := 5) (oi := ?oi6) (v := ?v6) ?hi6 (by kernel_rfl) (by kernel_rfl) (by kernel_rfl) ?hq6 ?hy6 (by assumption) ?rest6
  case hi6 => (simp only [List.getElem?_toArray, List.getElem?_cons_succ, List.getElem?_cons_zero]; rfl)
  case hq6 => exact fun _ _ _ h => h
  case hy6 => (refine Or.inl ⟨by rfl, ?_⟩; intro W hSw; (try dsimp only at hSw); go_simp; (try with_reducible rfl))
  try simp only [Act.put, List.setIfInBounds_toArray, List.set_cons_zero, List.set_cons_succ]
  refine wpAnyH_take (i := 6) (oi := ?oi7) (v := ?v7) ?hi7 (by kernel_rfl) (by kernel_rfl) (by kernel_rfl) ?hq7 ?hy7 (by assumption) ?rest7
  case hi7 => (simp only [List.getElem?_toArray, List.getElem?_cons_succ, List.getElem?_cons_zero]; rfl)
  case hq7 => exact fun _ _ _ h => h
  case hy7 => (refine Or.inl ⟨by rfl, ?_⟩; intro W hSw; (try dsimp only at hSw); go_simp; (try with_reducible rfl))
  try simp only [Act.put, List.setIfInBounds_toArray, List.set_cons_zero, List.set_cons_succ]
  refine wpAnyH_take (i := 7) (oi := ?oi8) (v := ?v8) ?hi8 (by kernel_rfl) (by kernel_rfl) (by kernel_rfl) ?hq8 ?hy8 (by assumption) ?rest8
  case hi8 => (simp only [List.getElem?_toArray, List.getElem?_cons_succ, List.getElem?_cons_zero]; rfl)
  case hq8 => exact fun _ _ _ h => h
  case hy8 => (refine Or.inl ⟨by rfl, ?_⟩; intro W hSw; (try dsimp only at hSw); go_simp; (try with_reducible rfl))
  try simp only [Act.put, List.setIfInBounds_toArray, List.set_cons_zero, List.set_cons_succ]
  refine wpAnyH_take (i := 8) (oi := ?oi9) (v := ?v9) ?hi9 (by kernel_rfl) (by kernel_rfl) (by kernel_rfl) ?hq9 ?hy9 (by assumption) ?rest9
  case hi9 => (simp only [List.getElem?_toArray, List.getElem?_cons_succ, List.getElem?_cons_zero]; rfl)
  case hq9 => exact fun _ _ _ h => h
  case hy9 => (refine Or.inl ⟨by rfl, ?_⟩; intro W hSw; (try dsimp only at hSw); go_simp; (try with_reducible rfl))
  try simp only [Act.put, List.setIfInBounds_toArray, List.set_cons_zero, List.set_cons_succ]
  refine wpAnyH_take (i := 9) (oi := ?oi10) (v := ?v10) ?hi10 (by kernel_rfl) (by kernel_rfl) (by kernel_rfl) ?hq10 ?hy10 (by assumption) ?rest10
  case hi10 => (simp only [List.getElem?_toArray, List.getElem?_cons_succ, List.getElem?_cons_zero]; rfl)
  case hq10 => exact fun _ _ _ h => h
  case hy10 => (refine Or.inl ⟨by rfl, ?_⟩; intro W hSw; (try dsimp only at hSw); go_simp; (try with_reducible rfl))
  try simp only [Act.put, List.setIfInBounds_toArray, List.set_cons_zero, List.set_cons_succ]
  refine wpAnyH_take (i := 10) (oi := ?oi11) (v := ?v11) ?hi11 (by kernel_rfl) (by kernel_rfl) (by kernel_rfl) ?hq11 ?hy11 (by assumption) ?rest11
  case hi11 => (simp only [List.getElem?_toArray, List.getElem?_cons_succ, List.getElem?_cons_zero]; rfl)
  case hq11 => exact fun _ _ _ h => h
  case hy11 => (refine Or.inl ⟨by rfl, ?_⟩; intro W hSw; (try dsimp only at hSw); go_simp; (try with_reducible rfl))
  try simp only [Act.put, List.setIfInBounds_toArray, List.set_cons_zero, List.set_cons_succ]
  refine wpAnyH_take (i := 11) (oi := ?oi12) (v := ?v12) ?hi12 (by kernel_rfl) (by kernel_rfl) (by kernel_rfl) ?hq12 ?hy12 (by assumption) ?rest12
  case hi12 => (simp only [List.getElem?_toArray, List.getElem?_cons_succ, List.getElem?_cons_zero]; rfl)
  case hq12 => exact fun _ _ _ h => h
  case hy12 => (refine Or.inl ⟨by rfl, ?_⟩; intro W hSw; (try dsimp only at hSw); go_simp; (try with_reducible rfl))
  try simp only [Act.put, List.setIfInBounds_toArray, List.set_cons_zero, List.set_cons_succ]
  refine wpAnyH_ready (rs := [12]) (by kernel_rfl) (by simp) ?_
  refine AllReadyH.cons (o := ?oi13) ?hi13 (fun K hK => ?hs13) AllReadyH.nil
  case hi13 => (simp only [List.getElem?_toArray, List.getElem?_cons_succ, List.getElem?_cons_zero]; rfl)
  go_simp
  refine (HO.out _ (Below.refl _ _).drew).mono ?_
  rintro e w2 ⟨hk2, h2⟩
  rcases h2 with ⟨g2, bv2, rv2, x2, Yc, rfl, hox⟩ | ⟨h2, _⟩
  case inr => rw [H.out.arm] at h2; cases h2
  have HK2 : Hid (Kp Y w w2) := Lib.hid ((Kp.of_below (Below.refl _ _).drew).trans hk2)
  have HX := Lib.hid hox
  obtain ⟨Ba2, Bc2, e2⟩ := hox.lg.b.slice
  subst e2
  obtain ⟨Ra2, Rc2, e2⟩ := hox.lg.r.slice
  subst e2
  rw [HPL.out]
  have HBK2 : Hid (Blk w2 xp 53 (plC q g nm most bv (.slice Ra lg.R.length Rc) lg.safe)) := Lib.hid ((HK2.out.block H.out.blk.lt H.out.yx).trans H.out.blk)
  clear hk2 hox HO
  go_wp2_with fail
  refine hK.out _ _ ?_ (fun hHeld2 => ?_)
  · exact ⟨HBK2.out.cell 0 rfl, HBK2.out.cell 2 rfl, HBK2.out.cell 3 rfl⟩
  clear hK
  try simp only [Act.put, List.setIfInBounds_toArray, List.set_cons_zero, List.set_cons_succ]
  refine wpAnyH_take (i := 13) (oi := ?oi14) (v := ?v14) ?hi14 (by kernel_rfl) (by kernel_rfl) (by kernel_rfl) ?hq14 ?hy14 (by assumption) ?rest14
  case hi14 => (simp only [List.getElem?_toArray, List.getElem?_cons_succ, List.getElem?_cons_zero]; rfl)
  case hq14 => exact fun _ _ _ h => h
  case hy14 => (refine Or.inl ⟨by rfl, ?_⟩; intro W hSw; (try dsimp only at hSw); go_simp; (try with_reducible rfl))
  try simp only [Act.put, List.setIfInBounds_toArray, List.set_cons_zero, List.set_cons_succ]
  refine wpAnyH_take (i := 14) (oi := ?oi15) (v := ?v15) ?hi15 (by kernel_rfl) (by kernel_rfl) (by kernel_rfl) ?hq15 ?hy15 (by assumption) ?rest15
  case hi15 => (simp only [List.getElem?_toArray, List.getElem?_cons_succ, List.getElem?_cons_zero]; rfl)
  case hq15 => exact fun _ _ _ h => h
  case hy15 => (refine Or.inl ⟨by rfl, ?_⟩; intro W hSw; (try dsimp only at hSw); go_simp; (try with_reducible rfl))
  try simp only [Act.put, List.setIfInBounds_toArray, List.set_cons_zero, List.set_cons_succ]
  refine wpAnyH_take (i := 15) (oi := ?oi16) (v := ?v16) ?hi16 (by kernel_rfl) (by kernel_rfl) (by kernel_rfl) ?hq16 ?hy16 (by assumption) ?rest16
  case hi16 => (simp only [List.getElem?_toArray, List.getElem?_cons_succ, List.getElem?_cons_zero]; rfl)
  case hq16 => exact fun _ _ _ h => h
  case hy16 => (refine Or.inl ⟨by rfl, ?_⟩; intro W hSw; (try dsimp only at hSw); go_simp; (try with_reducible rfl))
  try simp only [Act.put, List.setIfInBounds_toArray, List.set_cons_zero, List.set_cons_succ]
  refine wpAnyH_take (i := 16) (oi := ?oi17) (v := ?v17) ?hi17 (by kernel_rfl) (by kernel_rfl) (by kernel_rfl) ?hq17 ?hy17 (by assumption) ?rest17
  case hi17 => (simp only [List.getElem?_toArray, List.getElem?_cons_succ, List.getElem?_cons_zero]; rfl)
  case hq17 => exact fun _ _ _ h => h
  case hy17 => (refine Or.inl ⟨by rfl, ?_⟩; intro W hSw; (try dsimp only at hSw); go_simp; (try with_reducible rfl))
  try simp only [Act.put, List.setIfInBounds_toArray, List.set_cons_zero, List.set_cons_succ]
  refine wpAnyH_take (i := 17) (oi := ?oi18) (v := ?v18) ?hi18 (by kernel_rfl) (by kernel_rfl) (by kernel_rfl) ?hq18 ?hy18 (by assumption) ?rest18
  case hi18 => (simp only [List.getElem?_toArray, List.getElem?_cons_succ, List.getElem?_cons_zero]; rfl)
  case hq18 => exact fun _ _ _ h => h
  case hy18 => (refine Or.inl ⟨by rfl, ?_⟩; intro W hSw; (try dsimp only at hSw); go_simp; (try with_reducible rfl))
  try simp only [Act.put, List.setIfInBounds_toArray, List.set_cons_zero, List.set_cons_succ]
  refine wpAnyH_take (i := 18) (oi := ?oi19) (v := ?v19) ?hi19 (by kernel_rfl) (by kernel_rfl) (by kernel_rfl) ?hq19 ?hy19 (by assumption) ?rest19
  case hi19 => (simp only [List.getElem?_toArray, List.getElem?_cons_succ, List.getElem?_cons_zero]; rfl)
  case hq19 => exact fun _ _ _ h => h
  case hy19 => (refine Or.inl ⟨by rfl, ?_⟩; intro W hSw; (try dsimp only at hSw); go_simp; (try with_reducible rfl))
  try simp only [Act.put, List.setIfInBounds_toArray, List.set_cons_zero, List.set_cons_succ]
  refine wpAnyH_take (i := 19) (oi := ?oi20) (v := ?v20) ?hi20 (by kernel_rfl) (by kernel_rfl) (by kernel_rfl) ?hq20 ?hy20 (by assumption) ?rest20
  case hi20 => (simp only [List.getElem?_toArray, List.getElem?_cons_succ, List.getElem?_cons_zero]; rfl)
  case hq20 => exact fun _ _ _ h => h
  case hy20 => (refine Or.inl ⟨by rfl, ?_⟩; intro W hSw; (try dsimp only at hSw); go_simp; (try with_reducible rfl))
  try simp only [Act.put, List.setIfInBounds_toArray, List.set_cons_zero, List.set_cons_succ]
  refine wpAnyH_take (i := 20) (oi := ?oi21) (v := ?v21) ?hi21 (by kernel_rfl) (by kernel_rfl) (by kernel_rfl) ?hq21 ?hy21 (by assumption) ?rest21
  case hi21 => (simp only [List.getElem?_toArray, List.getElem?_cons_succ, List.getElem?_cons_zero]; rfl)
  case hq21 => exact fun _ _ _ h => h
  case hy21 => (refine Or.inl ⟨by rfl, ?_⟩; intro W hSw; (try dsimp only at hSw); go_simp; (try with_reducible rfl))
  try simp only [Act.put, List.setIfInBounds_toArray, List.set_cons_zero, List.set_cons_succ]
  refine wpAnyH_take (i := 21) (oi := ?oi22) (v := ?v22) ?hi22 (by kernel_rfl) (by kernel_rfl) (by kernel_rfl) ?hq22 ?hy22 (by assumption) ?rest22
  case hi22 => (simp only [List.getElem?_toArray, List.getElem?_cons_succ, List.getElem?_cons_zero]; rfl)
  case hq22 => exact fun _ _ _ h => h
  case hy22 => (refine Or.inl ⟨by rfl, ?_⟩; intro W hSw; (try dsimp only at hSw); go_simp; (try with_reducible rfl))
  try simp only [Act.put, List.setIfInBounds_toArray, List.set_cons_zero, List.set_cons_succ]
  refine wpAnyH_done (by kernel_rfl) ?_ _
  have y4 := HBK2.out.cell 4 rfl
  have y5 := HBK2.out.cell 5 rfl
  have y6 := HBK2.out.cell 6 rfl
  go_wp2_with fail
  have HLG2 : Hid (LgV (fun j => Y j ∧ j ≠ xp) w2 lg bv (.slice Ra lg.R.length Rc)) := Lib.hid (H.out.lgv.keep fun k hk => HK2.out.block (H.out.pa.ys k hk.1) hk.1)
  have HAL := Lib.hid (allowed_any lg lg.base (lg.R.take p) bv (.slice Ra lg.R.length Rc) (.slice Ba2 lg.base.length Bc2) (.slice Ra2 p Rc2) w2 HLG2.out HX.out.lg.b (by have := HX.out.lg.r; rw [HPL.out] at this; exact this) (by rw [HPL.out]; exact hp9))
  rw [alw_ok lg p H.out.sf H.out.pl] at HAL
  refine HAL.out.mono ?_
  rintro e w3 ⟨rfl, hb3⟩
  have HB3 := Lib.hid hb3
  have HCN := Lib.hid (count_any g2 q m nm most x2 w3 (HX.out.lx.wa.below hb3))
  have hct : ((x2.count : Nat) : Int) = (p : Int) := by rw [HX.out.lx.lv.count, HPL.out]
  rw [hct] at HCN
  clear hb3 HAL y4 y5 y6 hct hHeld1 hHeld2
  go_wp2_with fail
  refine HCN.out.mono ?_
  rintro e w3' ⟨rfl, rfl⟩
  have HBK3 : Hid (Blk w3' xp 53 (plC q g nm most bv (.slice Ra lg.R.length Rc) lg.safe)) := Lib.hid (HBK2.out.below HB3.out HBK2.out.lt)
  have y1 := HBK3.out.cell 1 rfl
  have z1 := HBK3.out.frozen 1
  clear HCN
  go_wp2_with fail
  obtain ⟨W4, hW4⟩ : ∃ W4, W4 = w3'.setCell ⟨xp, 1, none⟩ (.pointer (some ⟨g2, 0, none⟩)) := ⟨_, rfl⟩
  rw [← hW4]
  have ho4 : Out (fun k => k = xp) w3' W4 := by rw [hW4]; exact (Out.refl (fun k => k = xp) w3').set ⟨xp, 1, none⟩ (.pointer (some ⟨g2, 0, none⟩)) rfl
  have HBK4 : Hid (Blk W4 xp 53 (plC q g2 nm most bv (.slice Ra lg.R.length Rc) lg.safe)) := Lib.hid (by rw [hW4]; exact HBK3.out.set 1 (.pointer (some ⟨g2, 0, none⟩)))
  have hxw := H.out.pa.ys xp H.out.yx
  have HLX4 := Lib.hid ((HX.out.lx.more HB3.out).other ho4 (fun k hk => .inl (hk ▸ HX.out.sub xp H.out.yx)))
  have HLB4 := Lib.hid ((HX.out.lg.below HB3.out).keep (fun k hk => ho4.block k (Nat.lt_of_lt_of_le (HX.out.lx.wa.ys k hk.1) HB3.out.size) (fun e => by have h5 : w.heap.size ≤ k := hk.2; omega)))
  have HLO4 := Lib.hid ((HLG2.out.below HB3.out).keep (fun k hk => ho4.block k (Nat.lt_of_lt_of_le (HX.out.lx.wa.ys k (HX.out.sub k hk.1)) HB3.out.size) hk.2))
  have HX4 : Hid (xp < W4.heap.size ∧ Below B0 w W4) := Lib.hid ⟨HBK4.out.lt, ((HK2.out.below (Nat.le_trans H.out.bx (Nat.le_of_lt hxw)) H.out.y0).trans (HB3.out.mono (Nat.le_trans (Nat.le_trans H.out.bx (Nat.le_of_lt hxw)) HK2.out.size))).trans (ho4.below (Nat.le_trans (Nat.le_trans (Nat.le_trans H.out.bx (Nat.le_of_lt hxw)) HK2.out.size) HB3.out.size) fun k hk => by rw [hk]; exact H.out.bx)⟩
  have HC5 : Hid (∀ (n : Nat) (W : World), n ≤ 1 → (fun n W => match n with | 0 => W = W4.drew | 1 => CO W4 lg.base W | _ => ∃ W5, CO W4 lg.base W5 ∧ W = sto W5 xp (.slice (some ⟨W4.heap.size, 0, none⟩) lg.base.length lg.base.length) (.slice Ra p Rc) p) n W → W.cell? ⟨xp, 5, none⟩ = some (.slice Ra lg.R.length Rc)) := Lib.hid (fun n W hn hW => by
    match n, hn, hW with
    | 0, _, h => rw [show W = _ from h]; exact HBK4.out.cell 5 rfl
    | 1, _, h => exact (HBK4.out.below (show CO W4 lg.base W from h).2 HBK4.out.lt).cell 5 rfl
    | n + 2, h, _ => omega)
  have HST : Hid (∀ (W : World), CO W4 lg.base W → Blk W xp 53 (plC q g2 nm most bv (.slice Ra lg.R.length Rc) lg.safe)) := Lib.hid (fun W h => HBK4.out.below h.2 HBK4.out.lt)
  have HCP := Lib.hid (copy_any lg.base (.slice Ba2 lg.base.length Bc2) W4.drew (HLB4.out.b.below (Below.refl _ _).drew) H.out.lgv.lb)
  clear hW4 ho4 hxw y1 z1
  refine wp_region_W [2, 16] (fun n W => match n with | 0 => W = W4.drew | 1 => CO W4 lg.base W | _ => ∃ W5, CO W4 lg.base W5 ∧ W = sto W5 xp (.slice (some ⟨W4.heap.size, 0, none⟩) lg.base.length lg.base.length) (.slice Ra p Rc) p) (by kernel_rfl) (by rfl) ?_ ?_
  · rfl
  refine wpW_take (i := 0) (oi := ?oi23) (v := ?v23) ?hi23 (by kernel_rfl) (by kernel_rfl) (by kernel_rfl) (by rfl) ?hy23 ?rest23
  case hi23 => (simp only [List.getElem?_toArray, List.getElem?_cons_succ, List.getElem?_cons_zero]; rfl)
  case hy23 => (refine Or.inl ⟨by rfl, ?_⟩; intro n W hn hSw; (clear hSw hn); go_simp; (try with_reducible rfl))
  try simp only [Act.put, List.setIfInBounds_toArray, List.set_cons_zero, List.set_cons_succ]
  refine wpW_take (i := 1) (oi := ?oi24) (v := ?v24) ?hi24 (by kernel_rfl) (by kernel_rfl) (by kernel_rfl) (by rfl) ?hy24 ?rest24
  case hi24 => (simp only [List.getElem?_toArray, List.getElem?_cons_succ, List.getElem?_cons_zero]; rfl)
  case hy24 => (refine Or.inl ⟨by rfl, ?_⟩; intro n W hn hSw; (clear hSw hn); go_simp; (try with_reducible rfl))
  try simp only [Act.put, List.setIfInBounds_toArray, List.set_cons_zero, List.set_cons_succ]
  refine wpW_turn 0 (k := 2) (oi := ?oi25) (v := .slice (some ⟨W4.heap.size, 0, none⟩) lg.base.length lg.base.length) (by rfl) ?hi25 (by rfl) (by rfl) (by kernel_rfl) (by kernel_rfl) (by kernel_rfl) (by kernel_rfl) ?hy25 ?rest25
  case hi25 => (simp only [List.getElem?_toArray, List.getElem?_cons_succ, List.getElem?_cons_zero]; rfl)
  case hy25 =>
    refine Or.inl (Or.inr (Or.inr (Or.inl ⟨by rfl, 24, #[.slice Ba2 lg.base.length Bc2], fun W hSw => ?_, fun W hSw => ?_⟩)))
    · (go_simp; (try rfl))
    · rw [show W = W4.drew from hSw]
      exact HCP.out.mono (fun e w' h => ⟨h.1, h.2.1, (Below.refl W4.heap.size W4).drew.trans h.2.2⟩)
  try simp only [Act.put, List.setIfInBounds_toArray, List.set_cons_zero, List.set_cons_succ]
  refine wpW_take (i := 3) (oi := ?oi26) (v := ?v26) ?hi26 (by kernel_rfl) (by kernel_rfl) (by kernel_rfl) (by rfl) ?hy26 ?rest26
  case hi26 => (simp only [List.getElem?_toArray, List.getElem?_cons_succ, List.getElem?_cons_zero]; rfl)
  case hy26 => (refine Or.inl ⟨by rfl, ?_⟩; intro n W hn hSw; (clear hSw hn); go_simp; (try with_reducible rfl))
  try simp only [Act.put, List.setIfInBounds_toArray, List.set_cons_zero, List.set_cons_succ]
  refine wpW_take (i := 4) (oi := ?oi27) (v := ?v27) ?hi27 (by kernel_rfl) (by kernel_rfl) (by kernel_rfl) (by rfl) ?hy27 ?rest27
  case hi27 => (simp only [List.getElem?_toArray, List.getElem?_cons_succ, List.getElem?_cons_zero]; rfl)
  case hy27 => (refine Or.inl ⟨by rfl, ?_⟩; intro n W hn hSw; (clear hSw hn); go_simp; (try with_reducible rfl))
  try simp only [Act.put, List.setIfInBounds_toArray, List.set_cons_zero, List.set_cons_succ]
  refine wpW_take (i := 5) (oi := ?oi28) (v := ?v28) ?hi28 (by kernel_rfl) (by kernel_rfl) (by kernel_rfl) (by rfl) ?hy28 ?rest28
  case hi28 => (simp only [List.getElem?_toArray, List.getElem?_cons_succ, List.getElem?_cons_zero]; rfl)
  case hy28 => (refine Or.inl ⟨by rfl, ?_⟩; intro n W hn hSw; (clear hSw hn); go_simp; (try with_reducible rfl))
  try simp only [Act.put, List.setIfInBounds_toArray, List.set_cons_zero, List.set_cons_succ]
  refine wpW_take (i := 6) (oi := ?oi29) (v := ?v29) ?hi29 (by kernel_rfl) (by kernel_rfl) (by kernel_rfl) (by rfl) ?hy29 ?rest29
  case hi29 => (simp only [List.getElem?_toArray, List.getElem?_cons_succ, List.getElem?_cons_zero]; rfl)
  case hy29 => (refine Or.inl ⟨by rfl, ?_⟩; intro n W hn hSw; (clear hSw hn); go_simp; (try with_reducible rfl))
  try simp only [Act.put, List.setIfInBounds_toArray, List.set_cons_zero, List.set_cons_succ]
  refine wpW_takeB (i := 7) 1 16 (oi := ?oi30) (v := ?v30) ?hi30 (by rfl) (by kernel_rfl) (by rfl) (by kernel_rfl) (by kernel_rfl) (by kernel_rfl) (by rfl) ?hy30 ?rest30
  case hi30 => (simp only [List.getElem?_toArray, List.getElem?_cons_succ, List.getElem?_cons_zero]; rfl)
  case hy30 => (refine ⟨by rfl, ?_⟩; intro n W hn hSw; (have c5 := HC5.out n W hn hSw; clear hSw hn); go_simp; (try with_reducible rfl))
  try simp only [Act.put, List.setIfInBounds_toArray, List.set_cons_zero, List.set_cons_succ]
  refine wpW_take (i := 8) (oi := ?oi31) (v := ?v31) ?hi31 (by kernel_rfl) (by kernel_rfl) (by kernel_rfl) (by rfl) ?hy31 ?rest31
  case hi31 => (simp only [List.getElem?_toArray, List.getElem?_cons_succ, List.getElem?_cons_zero]; rfl)
  case hy31 => (refine Or.inl ⟨by rfl, ?_⟩; intro n W hn hSw; (clear hSw hn); go_simp; (try with_reducible rfl))
  try simp only [Act.put, List.setIfInBounds_toArray, List.set_cons_zero, List.set_cons_succ]
  refine wpW_take (i := 9) (oi := ?oi32) (v := ?v32) ?hi32 (by kernel_rfl) (by kernel_rfl) (by kernel_rfl) (by rfl) ?hy32 ?rest32
  case hi32 => (simp only [List.getElem?_toArray, List.getElem?_cons_succ, List.getElem?_cons_zero]; rfl)
  case hy32 => (refine Or.inl ⟨by rfl, ?_⟩; intro n W hn hSw; (clear hSw hn); go_simp; (try with_reducible rfl))
  try simp only [Act.put, List.setIfInBounds_toArray, List.set_cons_zero, List.set_cons_succ]
  refine wpW_take (i := 10) (oi := ?oi33) (v := ?v33) ?hi33 (by kernel_rfl) (by kernel_rfl) (by kernel_rfl) (by rfl) ?hy33 ?rest33
  case hi33 => (simp only [List.getElem?_toArray, List.getElem?_cons_succ, List.getElem?_cons_zero]; rfl)
  case hy33 => (refine Or.inl ⟨by rfl, ?_⟩; intro n W hn hSw; (clear hSw hn); go_simp; (try with_reducible rfl))
  try simp only [Act.put, List.setIfInBounds_toArray, List.set_cons_zero, List.set_cons_succ]
  refine wpW_take (i := 11) (oi := ?oi34) (v := ?v34) ?hi34 (by kernel_rfl) (by kernel_rfl) (by kernel_rfl) (by rfl) ?hy34 ?rest34
  case hi34 => (simp only [List.getElem?_toArray, List.getElem?_cons_succ, List.getElem?_cons_zero]; rfl)
  case hy34 => (refine Or.inl ⟨by rfl, ?_⟩; intro n W hn hSw; (clear hSw hn); go_simp; (try with_reducible rfl))
  try simp only [Act.put, List.setIfInBounds_toArray, List.set_cons_zero, List.set_cons_succ]
  refine wpW_take (i := 12) (oi := ?oi35) (v := ?v35) ?hi35 (by kernel_rfl) (by kernel_rfl) (by kernel_rfl) (by rfl) ?hy35 ?rest35
  case hi35 => (simp only [List.getElem?_toArray, List.getElem?_cons_succ, List.getElem?_cons_zero]; rfl)
  case hy35 => (refine Or.inl ⟨by rfl, ?_⟩; intro n W hn hSw; (clear hSw hn); go_simp; (try with_reducible rfl))
  try simp only [Act.put, List.setIfInBounds_toArray, List.set_cons_zero, List.set_cons_succ]
  refine wpW_take (i := 13) (oi := ?oi36) (v := ?v36) ?hi36 (by kernel_rfl) (by kernel_rfl) (by kernel_rfl) (by rfl) ?hy36 ?rest36
  case hi36 => (simp only [List.getElem?_toArray, List.getElem?_cons_succ, List.getElem?_cons_zero]; rfl)
  case hy36 => (refine Or.inl ⟨by rfl, ?_⟩; intro n W hn hSw; (clear hSw hn); go_simp; (try with_reducible rfl))
  try simp only [Act.put, List.setIfInBounds_toArray, List.set_cons_zero, List.set_cons_succ]
  refine wpW_take (i := 14) (oi := ?oi37) (v := ?v37) ?hi37 (by kernel_rfl) (by kernel_rfl) (by kernel_rfl) (by rfl) ?hy37 ?rest37
  case hi37 => (simp only [List.getElem?_toArray, List.getElem?_cons_succ, List.getElem?_cons_zero]; rfl)
  case hy37 => (refine Or.inl ⟨by rfl, ?_⟩; intro n W hn hSw; (clear hSw hn); go_simp; (try with_reducible rfl))
  try simp only [Act.put, List.setIfInBounds_toArray, List.set_cons_zero, List.set_cons_succ]
  refine wpW_take (i := 15) (oi := ?oi38) (v := ?v38) ?hi38 (by kernel_rfl) (by kernel_rfl) (by kernel_rfl) (by rfl) ?hy38 ?rest38
  case hi38 => (simp only [List.getElem?_toArray, List.getElem?_cons_succ, List.getElem?_cons_zero]; rfl)
  case hy38 => (refine Or.inl ⟨by rfl, ?_⟩; intro n W hn hSw; (clear hSw hn); go_simp; (try with_reducible rfl))
  try simp only [Act.put, List.setIfInBounds_toArray, List.set_cons_zero, List.set_cons_succ]
  refine wpW_turn 1 (k := 16) (oi := ?oi39) (v := undef) (by rfl) ?hi39 (by rfl) (by rfl) (by kernel_rfl) (by kernel_rfl) (by kernel_rfl) (by kernel_rfl) ?hy39 ?rest39
  case hi39 => (simp only [List.getElem?_toArray, List.getElem?_cons_succ, List.getElem?_cons_zero]; rfl)
  case hy39 =>
    refine Or.inr ⟨by rfl, rfl, fun w' hw' => ⟨((w'.setCell ⟨xp, 4, none⟩ (.slice (some ⟨W4.heap.size, 0, none⟩) lg.base.length lg.base.length)).setCell ⟨xp, 5, none⟩ (.slice Ra p Rc)).setCell ⟨xp, 6, none⟩ (.int .i64 (p : Int)), ?_, w', hw', rfl⟩⟩
    have hb := HST.out w' hw'
    have c4 := hb.cell 4 rfl
    have c5 := hb.cell 5 rfl
    have c6 := hb.cell 6 rfl
    have f4 := hb.frozen 4
    have f5 := hb.frozen 5
    have f6 := hb.frozen 6
    clear hb hw'
    go_simp
    (try rfl)
  try simp only [Act.put, List.setIfInBounds_toArray, List.set_cons_zero, List.set_cons_succ]
  refine wpW_done (by kernel_rfl) (by rfl) ?_ _
  intro W hSw
  obtain ⟨W5, hco, rfl⟩ : ∃ W5, CO W4 lg.base W5 ∧ W = sto W5 xp (.slice (some ⟨W4.heap.size, 0, none⟩) lg.base.length lg.base.length) (.slice Ra p Rc) p := hSw
  have hlx5 := HLX4.out.more hco.2
  rw [HPL.out] at hlx5
  have hfin := PL.store (B0 := B0) (xp := xp) (lg := ⟨lg.base, lg.R.take p, p⟩) (bv := .slice (some ⟨W4.heap.size, 0, none⟩) lg.base.length lg.base.length) (rv := .slice Ra p Rc) hlx5 ⟨hco.1, ((HLO4.out.below hco.2).r.front p H.out.pl rfl).mono (fun k hk => ⟨.inl (.inl (HX.out.sub k hk.1)), hk.2⟩), fun h0 k hk => by
    cases hk
    have h1 := HX4.out.1
    exact ⟨.inr ⟨Nat.le_refl _, rd_blt hco.1 h0⟩, fun e => by
      have e2 : W4.heap.size = xp := e
      omega⟩, H.out.lgv.lb, by rw [HPL.out]; exact hp9⟩ (HST.out W5 hco) (fun j hj => .inl (.inl (HX.out.sub j (H.out.y0 j hj)))) (.inl (.inl (HX.out.sub xp H.out.yx))) H.out.bx (Nat.le_refl _) (HX.out.arm H.out.arm)
  have HFIN : Hid (Below B0 w (sto W5 xp (.slice (some ⟨W4.heap.size, 0, none⟩) lg.base.length lg.base.length) (.slice Ra p Rc) p) ∧ ∃ Yc g' x' bv' rv', PL B0 Yc (sto W5 xp (.slice (some ⟨W4.heap.size, 0, none⟩) lg.base.length lg.base.length) (.slice Ra p Rc) p) xp g' q m nm most x' ⟨lg.base, lg.R.take p, p⟩ bv' rv' p N T rm) := Lib.hid ⟨(HX4.out.2.trans (hco.2.mono (Nat.le_trans (Nat.le_trans H.out.bx (Nat.le_of_lt HX4.out.1)) (Nat.le_refl _)))).trans hfin.2, _, _, _, _, _, hfin.1⟩
  clear hfin hlx5 hco
  generalize sto W5 xp (.slice (some ⟨W4.heap.size, 0, none⟩) lg.base.length lg.base.length) (.slice Ra p Rc) p = W6 at *
  go_wp2_with fail
  go_ret
  exact ⟨rfl, HFIN.out.1, HFIN.out.2⟩
end Go.Proofs.YthofbblgoamipaaGreatDoor.Wa
/- Chapter 12's laws: a step of a script: Append. -/
namespace Go.Proofs.YthofbblgoamipaaGreatDoor.Wa
open Go.RowKit Pt
set_option linter.unusedVariables false
set_option linter.unusedSimpArgs false
set_option maxRecDepth 100000

theorem both {T G : Prop} (h : T → G) (t : T) : G := h t
theorem PL.more {B0 : Nat} {Yc : Nat → Prop} {W W' : World} {xp g q m : Nat} {nm : By} {most : Nat} {x : Wl} {lg : Lg} {bv rv : Value} {k N T rm : Nat} (h : PL B0 Yc W xp g q m nm most x lg bv rv k N T rm) (hb : Below W.heap.size W W') : PL B0 (fun j => Yc j ∨ (W.heap.size ≤ j ∧ j < W'.heap.size)) W' xp g q m nm most x lg bv rv k N T rm :=
  ⟨h.lx.more hb, (h.lgv.below hb).mono fun j hj => ⟨.inl hj.1, hj.2⟩, h.blk.below hb h.blk.lt, fun j hj => .inl (h.y0 j hj), .inl h.yx, h.bx, h.sf, h.un⟩
theorem PL.below {B0 : Nat} {Yc : Nat → Prop} {W W' : World} {xp g q m : Nat} {nm : By} {most : Nat} {x : Wl} {lg : Lg} {bv rv : Value} {k N T rm : Nat} (h : PL B0 Yc W xp g q m nm most x lg bv rv k N T rm) (hb : Below W.heap.size W W') : PL B0 Yc W' xp g q m nm most x lg bv rv k N T rm :=
  ⟨h.lx.below hb, h.lgv.below hb, h.blk.below hb h.blk.lt, h.y0, h.yx, h.bx, h.sf, h.un⟩
theorem PL.kp {B0 : Nat} {Yc : Nat → Prop} {W W' : World} {xp g q m : Nat} {nm : By} {most : Nat} {x : Wl} {lg : Lg} {bv rv : Value} {k N T rm : Nat} (h : PL B0 Yc W xp g q m nm most x lg bv rv k N T rm) (hk : Kp Yc W W') : Blk W' xp 53 (plC q g nm most bv rv lg.safe) ∧ LgV (fun j => Yc j ∧ j ≠ xp) W' lg bv rv ∧ Below B0 W W' :=
  ⟨(hk.block h.blk.lt h.yx).trans h.blk, h.lgv.keep fun j hj => hk.block (h.lx.wa.ys j hj.1) hj.1, hk.below h.lt h.y0⟩
/-- what a step leaves -/
def SR (B0 xp q m : Nat) (nm : By) (most N T rm : Nat) (lg : Lg) (n : Nat) (w : World) (e : Ending) (w' : World) : Prop :=
  e = .returned (.bool true) ∧ Below B0 w w' ∧ ∃ Y' g' x' lg' bv' rv' k' N' T', PL B0 Y' w' xp g' q m nm most x' lg' bv' rv' k' N' T' rm ∧ N' ≤ N + 1 ∧ T' ≤ T + n + 24 ∧ lg'.R.length ≤ lg.R.length + 1
set_option maxHeartbeats 16000000 in
theorem step_add {B0 : Nat} {Y : Nat → Prop} {xp g q m : Nat} {nm : By} {most : Nat} {x : Wl} {lg : Lg} {bv rv : Value} {k N T rm : Nat} (b : By) (vb vk : Value) (w : World) (h : PL B0 Y w xp g q m nm most x lg bv rv k N T rm) (hrb : Rd w 1 vb b.length (Lib.byteCells b)) (hnb : 0 < b.length → ∀ j, vb.ownBlock = some j → j < B0) (hb : b.length ≤ 60000)
    (hn1 : 1 ≤ nm.length) (hn : nm.length ≤ 32) (hm : most ≤ 2000) (hN : N < 99) (hR : lg.R.length ≤ 1000) (hT : T + b.length + 24 ≤ rm) :
    Calls Tryz.prog 10 #[.pointer (some ⟨xp, 0, none⟩), .agg #[.int .i64 0, vb, vk]] w (SR B0 xp q m nm most N T rm lg b.length w) := by
  obtain ⟨va, vc, ev⟩ := hrb.slice
  subst ev
  obtain ⟨Ba, Bc, ev⟩ := h.lgv.b.slice
  subst ev
  have HB1 : Hid (Below w.heap.size w (w.alloc (.cells #[.int .i64 0, .slice va b.length vc, vk] 35))) := Lib.hid ((Below.refl _ _).alloc (Nat.le_refl _) _)
  have HX1 := Lib.hid (Blk.new w 35 [.int .i64 0, .slice va b.length vc, vk])
  have HP1 := Lib.hid (h.more HB1.out)
  have HRB1 := Lib.hid (hrb.below HB1.out)
  have HNB := Lib.hid hnb
  have HP0 := Lib.hid h
  have HBL := Lib.hid hb
  have HAD := Lib.hid (fun W (hw : Below (w.alloc (.cells #[.int .i64 0, .slice va b.length vc, vk] 35)).heap.size (w.alloc (.cells #[.int .i64 0, .slice va b.length vc, vk] 35)) W) => add_un b (.slice va b.length vc) W (HP1.out.lx.below hw) h.un hn hN hb (HRB1.out.below hw) (fun h0 j hj => HP1.out.y0 j (hnb h0 j hj)) (by omega) (by omega) hT)
  have hb9 : b.length ≤ 60000 := hb
  have HR := Lib.hid hR
  have x0 := HX1.out.cell 0 rfl
  clear h hrb hnb hb hn1 hn hm hN hR hT
  go_enter Tryz.func10, Tryz.ntmps10
  go_wp2_with fail
  clear x0
  obtain ⟨W1, hW1⟩ : ∃ W1, W1 = w.alloc (.cells #[.int .i64 0, .slice va b.length vc, vk] 35) := ⟨_, rfl⟩
  rw [← hW1] at HB1 HX1 HP1 HRB1 HAD ⊢
  obtain ⟨bx, hbx⟩ : ∃ bx, bx = w.heap.size := ⟨_, rfl⟩
  have HBX := Lib.hid hbx
  rw [← hbx] at HX1 ⊢
  clear hW1 hbx
  refine wp_region_held_drew (S := (fun W => W.cell? ⟨xp, 1, none⟩ = some (.pointer (some ⟨g, 0, none⟩)) ∧ W.cell? ⟨bx, 1, none⟩ = some (.slice va b.length vc))) (by kernel_rfl) ?_ (fun hHeld1 => ?_)
  · exact ⟨HP1.out.blk.cell 1 rfl, HX1.out.cell 1 rfl⟩
  refine wpAnyH_take (i := 0) (oi := ?oi1) (v := ?v1) ?hi1 (by kernel_rfl) (by kernel_rfl) (by kernel_rfl) ?hq1 ?hy1 (by assumption) ?rest1
  case hi1 => (simp only [List.getElem?_toArray, List.getElem?_cons_succ, List.getElem?_cons_zero]; rfl)
  case hq1 => exact fun _ _ _ h => h
  case hy1 => (refine Or.inl ⟨by rfl, ?_⟩; intro W hSw; (try dsimp only at hSw); go_simp; (try with_reducible rfl))
  try simp only [Act.put, List.setIfInBounds_toArray, List.set_cons_zero, List.set_cons_succ]
  refine wpAnyH_take (i := 1) (oi := ?oi2) (v := ?v2) ?hi2 (by kernel_rfl) (by kernel_rfl) (by kernel_rfl) ?hq2 ?hy2 (by assumption) ?rest2
  case hi2 => (simp only [List.getElem?_toArray, List.getElem?_cons_succ, List.getElem?_cons_zero]; rfl)
  case hq2 => exact fun _ _ _ h => h
  case hy2 => (refine Or.inl ⟨by rfl, ?_⟩; intro W hSw; (try dsimp only at hSw); go_simp; (try with_reducible rfl))
  try simp only [Act.put, List.setIfInBounds_toArray, List.set_cons_zero, List.set_cons_succ]
  refine wpAnyH_take (i := 2) (oi := ?oi3) (v := ?v3) ?hi3 (by kernel_rfl) (by kernel_rfl) (by kernel_rfl) ?hq3 ?hy3 (by assumption) ?rest3
  case hi3 => (simp only [List.getElem?_toArray, List.getElem?_cons_succ, List.getElem?_cons_zero]; rfl)
  case hq3 => exact fun _ _ _ h => h
  case hy3 => (refine Or.inl ⟨by rfl, ?_⟩; intro W hSw; (try dsimp only at hSw); go_simp; (try with_reducible rfl))
  try simp only [Act.put, List.setIfInBounds_toArray, List.set_cons_zero, List.set_cons_succ]
  refine wpAnyH_take (i := 3) (oi := ?oi4) (v := ?v4) ?hi4 (by kernel_rfl) (by kernel_rfl) (by kernel_rfl) ?hq4 ?hy4 (by assumption) ?rest4
  case hi4 => (simp only [List.getElem?_toArray, List.getElem?_cons_succ, List.getElem?_cons_zero]; rfl)
  case hq4 => exact fun _ _ _ h => h
  case hy4 => (refine Or.inl ⟨by rfl, ?_⟩; intro W hSw; (try dsimp only at hSw); go_simp; (try with_reducible rfl))
  try simp only [Act.put, List.setIfInBounds_toArray, List.set_cons_zero, List.set_cons_succ]
  refine wpAnyH_take (i := 4) (oi := ?oi5) (v := ?v5) ?hi5 (by kernel_rfl) (by kernel_rfl) (by kernel_rfl) ?hq5 ?hy5 (by assumption) ?rest5
  case hi5 => (simp only [List.getElem?_toArray, List.getElem?_cons_succ, List.getElem?_cons_zero]; rfl)
  case hq5 => exact fun _ _ _ h => h
  case hy5 => (refine Or.inl ⟨by rfl, ?_⟩; intro W hSw; (try dsimp only at hSw); go_simp; (try with_reducible rfl))
  try simp only [Act.put, List.setIfInBounds_toArray, List.set_cons_zero, List.set_cons_succ]
  refine wpAnyH_take (i := 5) (oi := ?oi6) (v := ?v6) ?hi6 (by kernel_rfl) (by kernel_rfl) (by kernel_rfl) ?hq6 ?hy6 (by assumption) ?rest6
  case hi6 => (simp only [List.getElem?_toArray, List.getElem?_cons_succ, List.getElem?_cons_zero]; rfl)
  case hq6 => exact fun _ _ _ h => h
  case hy6 => (refine Or.inl ⟨by rfl, ?_⟩; intro W hSw; (try dsimp only at hSw); go_simp; (try with_reducible rfl))
  try simp only [Act.put, List.setIfInBounds_toArray, List.set_cons_zero, List.set_cons_succ]
  refine wpAnyH_ready (rs := [6]) (by kernel_rfl) (by simp) ?_
  refine AllReadyH.cons (o := ?oi7) ?hi7 (fun K hK => ?hs7) AllReadyH.nil
  case hi7 => (simp only [List.getElem?_toArray, List.getElem?_cons_succ, List.getElem?_cons_zero]; rfl)
  go_simp
  refine (HAD.out _ (Below.refl _ _).drew).mono ?_
  rintro e w2 ⟨rfl, hk2, x2, k2, hx2, ha2, hk21, -⟩
  have HK2 := Lib.hid ((Kp.of_below (Below.refl _ _).drew).trans hk2)
  have HX2 := Lib.hid (And.intro hx2 (And.intro ha2 hk21))
  have HQ2 := Lib.hid (HP1.out.kp HK2.out)
  have HBX2 : Hid (Blk w2 bx 35 [.int .i64 0, .slice va b.length vc, vk]) := Lib.hid ((HK2.out.block HX1.out.lt (.inr ⟨by rw [HBX.out]; exact Nat.le_refl _, HX1.out.lt⟩)).trans HX1.out)
  clear hk2 hx2 ha2 hk21 HAD
  go_wp2_with fail
  refine hK.out _ _ ?_ (fun hHeld2 => ?_)
  · exact ⟨HQ2.out.1.cell 1 rfl, HBX2.out.cell 1 rfl⟩
  clear hK
  try simp only [Act.put, List.setIfInBounds_toArray, List.set_cons_zero, List.set_cons_succ]
  refine wpAnyH_take (i := 7) (oi := ?oi8) (v := ?v8) ?hi8 (by kernel_rfl) (by kernel_rfl) (by kernel_rfl) ?hq8 ?hy8 (by assumption) ?rest8
  case hi8 => (simp only [List.getElem?_toArray, List.getElem?_cons_succ, List.getElem?_cons_zero]; rfl)
  case hq8 => exact fun _ _ _ h => h
  case hy8 => (refine Or.inl ⟨by rfl, ?_⟩; intro W hSw; (try dsimp only at hSw); go_simp; (try with_reducible rfl))
  try simp only [Act.put, List.setIfInBounds_toArray, List.set_cons_zero, List.set_cons_succ]
  refine wpAnyH_done (by kernel_rfl) ?_ _
  clear hHeld1 hHeld2
  go_wp2_with fail
  have y4 := HQ2.out.1.cell 4 rfl
  have y5 := HQ2.out.1.cell 5 rfl
  have y6 := HQ2.out.1.cell 6 rfl
  have x1 := HBX2.out.cell 1 rfl
  refine wp_region_held_drew (S := (fun _ => True)) (by kernel_rfl) ?_ (fun hHeld1 => ?_)
  · trivial
  refine wpAnyH_take (i := 0) (oi := ?oi9) (v := ?v9) ?hi9 (by kernel_rfl) (by kernel_rfl) (by kernel_rfl) ?hq9 ?hy9 (by assumption) ?rest9
  case hi9 => (simp only [List.getElem?_toArray, List.getElem?_cons_succ, List.getElem?_cons_zero]; rfl)
  case hq9 => exact fun _ _ _ h => h
  case hy9 => (refine Or.inl ⟨by rfl, ?_⟩; intro W hSw; (try dsimp only at hSw); go_simp; (try with_reducible rfl))
  try simp only [Act.put, List.setIfInBounds_toArray, List.set_cons_zero, List.set_cons_succ]
  refine wpAnyH_take (i := 1) (oi := ?oi10) (v := ?v10) ?hi10 (by kernel_rfl) (by kernel_rfl) (by kernel_rfl) ?hq10 ?hy10 (by assumption) ?rest10
  case hi10 => (simp only [List.getElem?_toArray, List.getElem?_cons_succ, List.getElem?_cons_zero]; rfl)
  case hq10 => exact fun _ _ _ h => h
  case hy10 => (refine Or.inl ⟨by rfl, ?_⟩; intro W hSw; (try dsimp only at hSw); go_simp; (try with_reducible rfl))
  try simp only [Act.put, List.setIfInBounds_toArray, List.set_cons_zero, List.set_cons_succ]
  refine wpAnyH_take (i := 2) (oi := ?oi11) (v := ?v11) ?hi11 (by kernel_rfl) (by kernel_rfl) (by kernel_rfl) ?hq11 ?hy11 (by assumption) ?rest11
  case hi11 => (simp only [List.getElem?_toArray, List.getElem?_cons_succ, List.getElem?_cons_zero]; rfl)
  case hq11 => exact fun _ _ _ h => h
  case hy11 => (refine Or.inl ⟨by rfl, ?_⟩; intro W hSw; (try dsimp only at hSw); go_simp; (try with_reducible rfl))
  try simp only [Act.put, List.setIfInBounds_toArray, List.set_cons_zero, List.set_cons_succ]
  refine wpAnyH_take (i := 3) (oi := ?oi12) (v := ?v12) ?hi12 (by kernel_rfl) (by kernel_rfl) (by kernel_rfl) ?hq12 ?hy12 (by assumption) ?rest12
  case hi12 => (simp only [List.getElem?_toArray, List.getElem?_cons_succ, List.getElem?_cons_zero]; rfl)
  case hq12 => exact fun _ _ _ h => h
  case hy12 => (refine Or.inl ⟨by rfl, ?_⟩; intro W hSw; (try dsimp only at hSw); go_simp; (try with_reducible rfl))
  try simp only [Act.put, List.setIfInBounds_toArray, List.set_cons_zero, List.set_cons_succ]
  refine wpAnyH_take (i := 5) (oi := ?oi13) (v := ?v13) ?hi13 (by kernel_rfl) (by kernel_rfl) (by kernel_rfl) ?hq13 ?hy13 (by assumption) ?rest13
  case hi13 => (simp only [List.getElem?_toArray, List.getElem?_cons_succ, List.getElem?_cons_zero]; rfl)
  case hq13 => exact fun _ _ _ h => h
  case hy13 => (refine Or.inl ⟨by rfl, ?_⟩; intro W hSw; (try dsimp only at hSw); go_simp; (try with_reducible rfl))
  try simp only [Act.put, List.setIfInBounds_toArray, List.set_cons_zero, List.set_cons_succ]
  apply both
  · intro hh
    refine wpAnyH_ready (rs := [4, 6]) (by kernel_rfl) (by simp) ?_
    refine AllReadyH.cons (o := ?o4) ?h4 (fun K hK => ?s4) (AllReadyH.cons (o := ?o6) ?h6 (fun K hK => ?s6) AllReadyH.nil)
    case h4 => (simp only [List.getElem?_toArray, List.getElem?_cons_succ, List.getElem?_cons_zero]; rfl)
    case h6 => (simp only [List.getElem?_toArray, List.getElem?_cons_succ, List.getElem?_cons_zero]; rfl)
    case s4 =>
      go_simp
      refine hK.out _ _ trivial (fun _ => ?_)
      clear hK
      try simp only [Act.put, List.setIfInBounds_toArray, List.set_cons_zero, List.set_cons_succ]
      refine wpAnyH_ready (rs := [6]) (by kernel_rfl) (by simp) ?_
      refine AllReadyH.cons (o := ?oi14) ?hi14 (fun K hK => ?hs14) AllReadyH.nil
      case hi14 => (simp only [List.getElem?_toArray, List.getElem?_cons_succ, List.getElem?_cons_zero]; rfl)
      go_simp
      refine hK.out _ _ trivial (fun _ => ?_)
      clear hK
      try simp only [Act.put, List.setIfInBounds_toArray, List.set_cons_zero, List.set_cons_succ]
      exact hh
    case s6 =>
      go_simp
      refine hK.out _ _ trivial (fun _ => ?_)
      clear hK
      try simp only [Act.put, List.setIfInBounds_toArray, List.set_cons_zero, List.set_cons_succ]
      refine wpAnyH_ready (rs := [4]) (by kernel_rfl) (by simp) ?_
      refine AllReadyH.cons (o := ?oi15) ?hi15 (fun K hK => ?hs15) AllReadyH.nil
      case hi15 => (simp only [List.getElem?_toArray, List.getElem?_cons_succ, List.getElem?_cons_zero]; rfl)
      go_simp
      refine hK.out _ _ trivial (fun _ => ?_)
      clear hK
      try simp only [Act.put, List.setIfInBounds_toArray, List.set_cons_zero, List.set_cons_succ]
      exact hh
  clear y4 y5 y6 x1 hHeld1
  refine wpAnyH_ready (rs := [7]) (by kernel_rfl) (by simp) ?_
  refine AllReadyH.cons (o := ?oi16) ?hi16 (fun K hK => ?hs16) AllReadyH.nil
  case hi16 => (simp only [List.getElem?_toArray, List.getElem?_cons_succ, List.getElem?_cons_zero]; rfl)
  go_simp
  refine (rapp_any lg b (.slice Ba lg.base.length Bc) rv (.slice va b.length vc) _ (HQ2.out.2.1.below (Below.refl _ _).drew) (rd_keep0 HRB1.out (fun h0 j hj => HQ2.out.2.2.block j (HNB.out h0 j hj)) |>.below (Below.refl _ _).drew) (by omega)).mono ?_
  rintro e w3 ⟨rv3, rfl, hr3, hb3⟩
  have HB3 := Lib.hid ((Below.refl w2.heap.size w2).drew.trans hb3)
  have HR3 := Lib.hid hr3
  have HPB3 := Lib.hid (HQ2.out.1.below HB3.out HQ2.out.1.lt)
  have HBX3 := Lib.hid (HBX2.out.below HB3.out HBX2.out.lt)
  clear hr3 hb3
  go_wp2_with fail
  refine hK.out _ _ ?_ (fun hHeld2 => ?_)
  · trivial
  clear hK
  try simp only [Act.put, List.setIfInBounds_toArray, List.set_cons_zero, List.set_cons_succ]
  refine wpAnyH_take (i := 8) (oi := ?oi17) (v := ?v17) ?hi17 (by kernel_rfl) (by kernel_rfl) (by kernel_rfl) ?hq17 ?hy17 (by assumption) ?rest17
  case hi17 => (simp only [List.getElem?_toArray, List.getElem?_cons_succ, List.getElem?_cons_zero]; rfl)
  case hq17 => exact fun _ _ _ h => h
  case hy17 => (refine Or.inl ⟨by rfl, ?_⟩; intro W hSw; (try dsimp only at hSw); go_simp; (try with_reducible rfl))
  try simp only [Act.put, List.setIfInBounds_toArray, List.set_cons_zero, List.set_cons_succ]
  refine wpAnyH_take (i := 9) (oi := ?oi18) (v := ?v18) ?hi18 (by kernel_rfl) (by kernel_rfl) (by kernel_rfl) ?hq18 ?hy18 (by assumption) ?rest18
  case hi18 => (simp only [List.getElem?_toArray, List.getElem?_cons_succ, List.getElem?_cons_zero]; rfl)
  case hq18 => exact fun _ _ _ h => h
  case hy18 => (refine Or.inl ⟨by rfl, ?_⟩; intro W hSw; (try dsimp only at hSw); go_simp; (try with_reducible rfl))
  try simp only [Act.put, List.setIfInBounds_toArray, List.set_cons_zero, List.set_cons_succ]
  have y4 := HPB3.out.cell 4 rfl
  have y5 := HPB3.out.cell 5 rfl
  have y6 := HPB3.out.cell 6 rfl
  have f4 := HPB3.out.frozen 4
  have f5 := HPB3.out.frozen 5
  have f6 := HPB3.out.frozen 6
  obtain ⟨Ra3, Rc3, er⟩ := HR3.out.slice
  subst er
  refine wpAnyH_ready (rs := [10]) (by kernel_rfl) (by simp) ?_
  refine AllReadyH.cons (o := ?oi19) ?hi19 (fun K hK => ?hs19) AllReadyH.nil
  case hi19 => (simp only [List.getElem?_toArray, List.getElem?_cons_succ, List.getElem?_cons_zero]; rfl)
  go_simp
  refine hK.out _ _ trivial (fun _ => ?_)
  clear hK y4 y5 y6 f4 f5 f6
  try simp only [Act.put, List.setIfInBounds_toArray, List.set_cons_zero, List.set_cons_succ]
  refine wpAnyH_done (by kernel_rfl) ?_ _
  have hlx3 := HX2.out.1.more HB3.out
  have hfin := PL.store (B0 := B0) (xp := xp) (lg := ⟨lg.base, lg.R ++ [b], lg.safe⟩) (bv := .slice Ba lg.base.length Bc) (rv := .slice Ra3 (lg.R ++ [b]).length Rc3) hlx3 ⟨HQ2.out.2.1.b.below HB3.out, HR3.out.mono (fun j hj => by
    rcases hj with ⟨h1, h2⟩ | ⟨h1, h2⟩
    · exact ⟨.inl h1, h2⟩
    · exact ⟨.inr ⟨h1, h2⟩, fun e => by
        have h3 : w2.heap.size ≤ j := h1
        have h4 := HQ2.out.1.lt
        omega⟩), fun h0 j hj => ⟨.inl (HQ2.out.2.1.zb h0 j hj).1, (HQ2.out.2.1.zb h0 j hj).2⟩, HQ2.out.2.1.lb, by simp only [List.length_append, List.length_cons, List.length_nil]; have := HR.out; omega⟩ HPB3.out (fun j hj => .inl (HP1.out.y0 j hj)) (.inl HP1.out.yx) HP1.out.bx (Nat.le_trans HP1.out.sf HX2.out.2.2) HX2.out.2.1
  have e3 : (lg.R ++ [b]).length = lg.R.length + 1 := by simp
  obtain ⟨lg4, hlg4⟩ : ∃ lg4 : Lg, lg4 = ⟨lg.base, lg.R ++ [b], lg.safe⟩ := ⟨_, rfl⟩
  have e4 : lg4.R.length = lg.R.length + 1 := by rw [hlg4]; exact e3
  obtain ⟨W4, hW4⟩ : ∃ W4, W4 = sto w3 xp (.slice Ba lg.base.length Bc) (.slice Ra3 (lg.R.length + 1) Rc3) lg.safe := ⟨_, rfl⟩
  rw [e3] at hfin
  rw [← hlg4, ← e4] at hfin
  rw [show ((w3.setCell ⟨xp, 4, none⟩ (.slice Ba lg.base.length Bc)).setCell ⟨xp, 5, none⟩ (.slice Ra3 (lg.R.length + 1) Rc3)).setCell ⟨xp, 6, none⟩ (.int .i64 (lg.safe : Int)) = W4 from hW4.symm]
  have hs4 : sto w3 xp (.slice Ba lg.base.length Bc) (.slice Ra3 lg4.R.length Rc3) lg4.safe = W4 := by rw [hW4, e4, hlg4]
  rw [hs4] at hfin
  have HP := Lib.hid hfin.1
  have HBW : Hid (Below B0 w W4) := Lib.hid (((HB1.out.mono HP0.out.lt).trans HQ2.out.2.2).trans ((HB3.out.mono (Nat.le_trans HP0.out.lt (Nat.le_trans HB1.out.size HK2.out.size))).trans hfin.2))
  have HBX4 : Hid (Blk W4 bx 35 [.int .i64 0, .slice va b.length vc, vk]) := Lib.hid (by
    have ho := sto_out w3 xp (.slice Ba lg.base.length Bc) (.slice Ra3 (lg.R.length + 1) Rc3) lg.safe
    rw [← hW4] at ho
    exact (ho.block bx HBX3.out.lt (fun e => by have h1 := HBX.out; have h2 := HP0.out.blk.lt; have h3 : bx = xp := e; omega)).trans HBX3.out)
  have HCT : Hid (((x2.count : Nat) : Int) = ((lg4.R.length : Nat) : Int)) := Lib.hid (by rw [HP.out.lx.lv.count])
  have HLEN : Hid (lg4.R.length ≤ lg.R.length + 1) := Lib.hid (by rw [e4]; exact Nat.le_refl _)
  have hlen9 : lg4.R.length ≤ 1000000 := by have := HR.out; omega
  have z0 := HBX4.out.cell 0 rfl
  have z1 := HBX4.out.cell 1 rfl
  have t1 : decide ((60000 : Int) < (b.length : Int)) = false := by rw [decide_eq_false_iff_not]; omega
  clear hfin hlx3 e3 e4 hW4 hs4 hlg4 hHeld2
  go_wp2_with fail
  refine wp_region_held_drew (S := (fun W => W.cell? ⟨xp, 1, none⟩ = some (.pointer (some ⟨g, 0, none⟩)) ∧ W.cell? ⟨xp, 5, none⟩ = some (.slice Ra3 lg4.R.length Rc3))) (by kernel_rfl) ?_ (fun hHeld1 => ?_)
  · exact ⟨HP.out.blk.cell 1 rfl, HP.out.blk.cell 5 rfl⟩
  refine wpAnyH_take (i := 0) (oi := ?oi20) (v := ?v20) ?hi20 (by kernel_rfl) (by kernel_rfl) (by kernel_rfl) ?hq20 ?hy20 (by assumption) ?rest20
  case hi20 => (simp only [List.getElem?_toArray, List.getElem?_cons_succ, List.getElem?_cons_zero]; rfl)
  case hq20 => exact fun _ _ _ h => h
  case hy20 => (refine Or.inl ⟨by rfl, ?_⟩; intro W hSw; (try dsimp only at hSw); go_simp; (try with_reducible rfl))
  try simp only [Act.put, List.setIfInBounds_toArray, List.set_cons_zero, List.set_cons_succ]
  refine wpAnyH_take (i := 1) (oi := ?oi21) (v := ?v21) ?hi21 (by kernel_rfl) (by kernel_rfl) (by kernel_rfl) ?hq21 ?hy21 (by assumption) ?rest21
  case hi21 => (simp only [List.getElem?_toArray, List.getElem?_cons_succ, List.getElem?_cons_zero]; rfl)
  case hq21 => exact fun _ _ _ h => h
  case hy21 => (refine Or.inl ⟨by rfl, ?_⟩; intro W hSw; (try dsimp only at hSw); go_simp; (try with_reducible rfl))
  try simp only [Act.put, List.setIfInBounds_toArray, List.set_cons_zero, List.set_cons_succ]
  refine wpAnyH_take (i := 2) (oi := ?oi22) (v := ?v22) ?hi22 (by kernel_rfl) (by kernel_rfl) (by kernel_rfl) ?hq22 ?hy22 (by assumption) ?rest22
  case hi22 => (simp only [List.getElem?_toArray, List.getElem?_cons_succ, List.getElem?_cons_zero]; rfl)
  case hq22 => exact fun _ _ _ h => h
  case hy22 => (refine Or.inl ⟨by rfl, ?_⟩; intro W hSw; (try dsimp only at hSw); go_simp; (try with_reducible rfl))
  try simp only [Act.put, List.setIfInBounds_toArray, List.set_cons_zero, List.set_cons_succ]
  refine wpAnyH_take (i := 3) (oi := ?oi23) (v := ?v23) ?hi23 (by kernel_rfl) (by kernel_rfl) (by kernel_rfl) ?hq23 ?hy23 (by assumption) ?rest23
  case hi23 => (simp only [List.getElem?_toArray, List.getElem?_cons_succ, List.getElem?_cons_zero]; rfl)
  case hq23 => exact fun _ _ _ h => h
  case hy23 => (refine Or.inl ⟨by rfl, ?_⟩; intro W hSw; (try dsimp only at hSw); go_simp; (try with_reducible rfl))
  try simp only [Act.put, List.setIfInBounds_toArray, List.set_cons_zero, List.set_cons_succ]
  refine wpAnyH_take (i := 4) (oi := ?oi24) (v := ?v24) ?hi24 (by kernel_rfl) (by kernel_rfl) (by kernel_rfl) ?hq24 ?hy24 (by assumption) ?rest24
  case hi24 => (simp only [List.getElem?_toArray, List.getElem?_cons_succ, List.getElem?_cons_zero]; rfl)
  case hq24 => exact fun _ _ _ h => h
  case hy24 => (refine Or.inl ⟨by rfl, ?_⟩; intro W hSw; (try dsimp only at hSw); go_simp; (try with_reducible rfl))
  try simp only [Act.put, List.setIfInBounds_toArray, List.set_cons_zero, List.set_cons_succ]
  refine wpAnyH_take (i := 5) (oi := ?oi25) (v := ?v25) ?hi25 (by kernel_rfl) (by kernel_rfl) (by kernel_rfl) ?hq25 ?hy25 (by assumption) ?rest25
  case hi25 => (simp only [List.getElem?_toArray, List.getElem?_cons_succ, List.getElem?_cons_zero]; rfl)
  case hq25 => exact fun _ _ _ h => h
  case hy25 => (refine Or.inl ⟨by rfl, ?_⟩; intro W hSw; (try dsimp only at hSw); go_simp; (try with_reducible rfl))
  try simp only [Act.put, List.setIfInBounds_toArray, List.set_cons_zero, List.set_cons_succ]
  refine wpAnyH_take (i := 6) (oi := ?oi26) (v := ?v26) ?hi26 (by kernel_rfl) (by kernel_rfl) (by kernel_rfl) ?hq26 ?hy26 (by assumption) ?rest26
  case hi26 => (simp only [List.getElem?_toArray, List.getElem?_cons_succ, List.getElem?_cons_zero]; rfl)
  case hq26 => exact fun _ _ _ h => h
  case hy26 => (refine Or.inl ⟨by rfl, ?_⟩; intro W hSw; (try dsimp only at hSw); go_simp; (try with_reducible rfl))
  try simp only [Act.put, List.setIfInBounds_toArray, List.set_cons_zero, List.set_cons_succ]
  refine wpAnyH_take (i := 7) (oi := ?oi27) (v := ?v27) ?hi27 (by kernel_rfl) (by kernel_rfl) (by kernel_rfl) ?hq27 ?hy27 (by assumption) ?rest27
  case hi27 => (simp only [List.getElem?_toArray, List.getElem?_cons_succ, List.getElem?_cons_zero]; rfl)
  case hq27 => exact fun _ _ _ h => h
  case hy27 => (refine Or.inl ⟨by rfl, ?_⟩; intro W hSw; (try dsimp only at hSw); go_simp; (try with_reducible rfl))
  try simp only [Act.put, List.setIfInBounds_toArray, List.set_cons_zero, List.set_cons_succ]
  refine wpAnyH_take (i := 8) (oi := ?oi28) (v := undef) ?hi28 (by kernel_rfl) (by kernel_rfl) (by kernel_rfl) ?hq28 ?hy28 (by assumption) ?rest28
  case hi28 => (simp only [List.getElem?_toArray, List.getElem?_cons_succ, List.getElem?_cons_zero]; rfl)
  case hq28 => exact fun _ _ _ h => h
  case hy28 => exact Or.inr ⟨by rfl, rfl⟩
  try simp only [Act.put, List.setIfInBounds_toArray, List.set_cons_zero, List.set_cons_succ]
  refine wpAnyH_take (i := 9) (oi := ?oi29) (v := ?v29) ?hi29 (by kernel_rfl) (by kernel_rfl) (by kernel_rfl) ?hq29 ?hy29 (by assumption) ?rest29
  case hi29 => (simp only [List.getElem?_toArray, List.getElem?_cons_succ, List.getElem?_cons_zero]; rfl)
  case hq29 => exact fun _ _ _ h => h
  case hy29 => (refine Or.inl ⟨by rfl, ?_⟩; intro W hSw; (try dsimp only at hSw); go_simp; (try with_reducible rfl))
  try simp only [Act.put, List.setIfInBounds_toArray, List.set_cons_zero, List.set_cons_succ]
  refine wpAnyH_take (i := 10) (oi := ?oi30) (v := ?v30) ?hi30 (by kernel_rfl) (by kernel_rfl) (by kernel_rfl) ?hq30 ?hy30 (by assumption) ?rest30
  case hi30 => (simp only [List.getElem?_toArray, List.getElem?_cons_succ, List.getElem?_cons_zero]; rfl)
  case hq30 => exact fun _ _ _ h => h
  case hy30 => (refine Or.inl ⟨by rfl, ?_⟩; intro W hSw; (try dsimp only at hSw); go_simp; (try with_reducible rfl))
  try simp only [Act.put, List.setIfInBounds_toArray, List.set_cons_zero, List.set_cons_succ]
  refine wpAnyH_take (i := 11) (oi := ?oi31) (v := ?v31) ?hi31 (by kernel_rfl) (by kernel_rfl) (by kernel_rfl) ?hq31 ?hy31 (by assumption) ?rest31
  case hi31 => (simp only [List.getElem?_toArray, List.getElem?_cons_succ, List.getElem?_cons_zero]; rfl)
  case hq31 => exact fun _ _ _ h => h
  case hy31 => (refine Or.inl ⟨by rfl, ?_⟩; intro W hSw; (try dsimp only at hSw); go_simp; (try with_reducible rfl))
  try simp only [Act.put, List.setIfInBounds_toArray, List.set_cons_zero, List.set_cons_succ]
  refine wpAnyH_take (i := 12) (oi := ?oi32) (v := ?v32) ?hi32 (by kernel_rfl) (by kernel_rfl) (by kernel_rfl) ?hq32 ?hy32 (by assumption) ?rest32
  case hi32 => (simp only [List.getElem?_toArray, List.getElem?_cons_succ, List.getElem?_cons_zero]; rfl)
  case hq32 => exact fun _ _ _ h => h
  case hy32 => (refine Or.inl ⟨by rfl, ?_⟩; intro W hSw; (try dsimp only at hSw); go_simp; (try with_reducible rfl))
  try simp only [Act.put, List.setIfInBounds_toArray, List.set_cons_zero, List.set_cons_succ]
  refine wpAnyH_take (i := 13) (oi := ?oi33) (v := ?v33) ?hi33 (by kernel_rfl) (by kernel_rfl) (by kernel_rfl) ?hq33 ?hy33 (by assumption) ?rest33
  case hi33 => (simp only [List.getElem?_toArray, List.getElem?_cons_succ, List.getElem?_cons_zero]; rfl)
  case hq33 => exact fun _ _ _ h => h
  case hy33 => (refine Or.inl ⟨by rfl, ?_⟩; intro W hSw; (try dsimp only at hSw); go_simp; (try with_reducible rfl))
  try simp only [Act.put, List.setIfInBounds_toArray, List.set_cons_zero, List.set_cons_succ]
  refine wpAnyH_take (i := 14) (oi := ?oi34) (v := ?v34) ?hi34 (by kernel_rfl) (by kernel_rfl) (by kernel_rfl) ?hq34 ?hy34 (by assumption) ?rest34
  case hi34 => (simp only [List.getElem?_toArray, List.getElem?_cons_succ, List.getElem?_cons_zero]; rfl)
  case hq34 => exact fun _ _ _ h => h
  case hy34 => (refine Or.inl ⟨by rfl, ?_⟩; intro W hSw; (try dsimp only at hSw); go_simp; (try with_reducible rfl))
  try simp only [Act.put, List.setIfInBounds_toArray, List.set_cons_zero, List.set_cons_succ]
  refine wpAnyH_take (i := 15) (oi := ?oi35) (v := ?v35) ?hi35 (by kernel_rfl) (by kernel_rfl) (by kernel_rfl) ?hq35 ?hy35 (by assumption) ?rest35
  case hi35 => (simp only [List.getElem?_toArray, List.getElem?_cons_succ, List.getElem?_cons_zero]; rfl)
  case hq35 => exact fun _ _ _ h => h
  case hy35 => (refine Or.inl ⟨by rfl, ?_⟩; intro W hSw; (try dsimp only at hSw); go_simp; (try with_reducible rfl))
  try simp only [Act.put, List.setIfInBounds_toArray, List.set_cons_zero, List.set_cons_succ]
  refine wpAnyH_take (i := 17) (oi := ?oi36) (v := ?v36) ?hi36 (by kernel_rfl) (by kernel_rfl) (by kernel_rfl) ?hq36 ?hy36 (by assumption) ?rest36
  case hi36 => (simp only [List.getElem?_toArray, List.getElem?_cons_succ, List.getElem?_cons_zero]; rfl)
  case hq36 => exact fun _ _ _ h => h
  case hy36 => (refine Or.inl ⟨by rfl, ?_⟩; intro W hSw; (try dsimp only at hSw); go_simp; (try with_reducible rfl))
  try simp only [Act.put, List.setIfInBounds_toArray, List.set_cons_zero, List.set_cons_succ]
  refine wpAnyH_take (i := 18) (oi := ?oi37) (v := ?v37) ?hi37 (by kernel_rfl) (by kernel_rfl) (by kernel_rfl) ?hq37 ?hy37 (by assumption) ?rest37
  case hi37 => (simp only [List.getElem?_toArray, List.getElem?_cons_succ, List.getElem?_cons_zero]; rfl)
  case hq37 => exact fun _ _ _ h => h
  case hy37 => (refine Or.inl ⟨by rfl, ?_⟩; intro W hSw; (try dsimp only at hSw); go_simp; (try with_reducible rfl))
  try simp only [Act.put, List.setIfInBounds_toArray, List.set_cons_zero, List.set_cons_succ]
  refine wpAnyH_take (i := 19) (oi := ?oi38) (v := ?v38) ?hi38 (by kernel_rfl) (by kernel_rfl) (by kernel_rfl) ?hq38 ?hy38 (by assumption) ?rest38
  case hi38 => (simp only [List.getElem?_toArray, List.getElem?_cons_succ, List.getElem?_cons_zero]; rfl)
  case hq38 => exact fun _ _ _ h => h
  case hy38 => (refine Or.inl ⟨by rfl, ?_⟩; intro W hSw; (try dsimp only at hSw); go_simp; (try with_reducible rfl))
  try simp only [Act.put, List.setIfInBounds_toArray, List.set_cons_zero, List.set_cons_succ]
  refine wpAnyH_take (i := 20) (oi := ?oi39) (v := ?v39) ?hi39 (by kernel_rfl) (by kernel_rfl) (by kernel_rfl) ?hq39 ?hy39 (by assumption) ?rest39
  case hi39 => (simp only [List.getElem?_toArray, List.getElem?_cons_succ, List.getElem?_cons_zero]; rfl)
  case hq39 => exact fun _ _ _ h => h
  case hy39 => (refine Or.inl ⟨by rfl, ?_⟩; intro W hSw; (try dsimp only at hSw); go_simp; (try with_reducible rfl))
  try simp only [Act.put, List.setIfInBounds_toArray, List.set_cons_zero, List.set_cons_succ]
  refine wpAnyH_take (i := 21) (oi := ?oi40) (v := ?v40) ?hi40 (by kernel_rfl) (by kernel_rfl) (by kernel_rfl) ?hq40 ?hy40 (by assumption) ?rest40
  case hi40 => (simp only [List.getElem?_toArray, List.getElem?_cons_succ, List.getElem?_cons_zero]; rfl)
  case hq40 => exact fun _ _ _ h => h
  case hy40 => (refine Or.inl ⟨by rfl, ?_⟩; intro W hSw; (try dsimp only at hSw); go_simp; (try with_reducible rfl))
  try simp only [Act.put, List.setIfInBounds_toArray, List.set_cons_zero, List.set_cons_succ]
  refine wpAnyH_take (i := 22) (oi := ?oi41) (v := ?v41) ?hi41 (by kernel_rfl) (by kernel_rfl) (by kernel_rfl) ?hq41 ?hy41 (by assumption) ?rest41
  case hi41 => (simp only [List.getElem?_toArray, List.getElem?_cons_succ, List.getElem?_cons_zero]; rfl)
  case hq41 => exact fun _ _ _ h => h
  case hy41 => (refine Or.inl ⟨by rfl, ?_⟩; intro W hSw; (try dsimp only at hSw); go_simp; (try with_reducible rfl))
  try simp only [Act.put, List.setIfInBounds_toArray, List.set_cons_zero, List.set_cons_succ]
  refine wpAnyH_ready (rs := [16]) (by kernel_rfl) (by simp) ?_
  refine AllReadyH.cons (o := ?oi42) ?hi42 (fun K hK => ?hs42) AllReadyH.nil
  case hi42 => (simp only [List.getElem?_toArray, List.getElem?_cons_succ, List.getElem?_cons_zero]; rfl)
  go_simp
  refine (count_any g q m nm most x2 _ (HP.out.lx.wa.below (Below.refl _ _).drew)).mono ?_
  rintro e w9 ⟨rfl, rfl⟩
  rw [HCT.out]
  go_wp2_with fail
  refine hK.out _ _ ?_ (fun hHeld2 => ?_)
  · exact ⟨HP.out.blk.cell 1 rfl, HP.out.blk.cell 5 rfl⟩
  clear hK
  try simp only [Act.put, List.setIfInBounds_toArray, List.set_cons_zero, List.set_cons_succ]
  refine wpAnyH_take (i := 23) (oi := ?oi43) (v := ?v43) ?hi43 (by kernel_rfl) (by kernel_rfl) (by kernel_rfl) ?hq43 ?hy43 (by assumption) ?rest43
  case hi43 => (simp only [List.getElem?_toArray, List.getElem?_cons_succ, List.getElem?_cons_zero]; rfl)
  case hq43 => exact fun _ _ _ h => h
  case hy43 => (refine Or.inl ⟨by rfl, ?_⟩; intro W hSw; (try dsimp only at hSw); go_simp; (try with_reducible rfl))
  try simp only [Act.put, List.setIfInBounds_toArray, List.set_cons_zero, List.set_cons_succ]
  refine wpAnyH_take (i := 24) (oi := ?oi44) (v := ?v44) ?hi44 (by kernel_rfl) (by kernel_rfl) (by kernel_rfl) ?hq44 ?hy44 (by assumption) ?rest44
  case hi44 => (simp only [List.getElem?_toArray, List.getElem?_cons_succ, List.getElem?_cons_zero]; rfl)
  case hq44 => exact fun _ _ _ h => h
  case hy44 => (refine Or.inl ⟨by rfl, ?_⟩; intro W hSw; (try dsimp only at hSw); go_simp; (try with_reducible rfl))
  try simp only [Act.put, List.setIfInBounds_toArray, List.set_cons_zero, List.set_cons_succ]
  refine wpAnyH_take (i := 25) (oi := ?oi45) (v := ?v45) ?hi45 (by kernel_rfl) (by kernel_rfl) (by kernel_rfl) ?hq45 ?hy45 (by assumption) ?rest45
  case hi45 => (simp only [List.getElem?_toArray, List.getElem?_cons_succ, List.getElem?_cons_zero]; rfl)
  case hq45 => exact fun _ _ _ h => h
  case hy45 => (refine Or.inl ⟨by rfl, ?_⟩; intro W hSw; (try dsimp only at hSw); go_simp; (try with_reducible rfl))
  try simp only [Act.put, List.setIfInBounds_toArray, List.set_cons_zero, List.set_cons_succ]
  refine wpAnyH_done (by kernel_rfl) ?_ _
  go_wp2_with fail
  go_ret
  exact ⟨rfl, HBW.out.drew, _, _, _, _, _, _, _, _, _, HP.out.below (Below.refl _ _).drew, Nat.le_refl _, Nat.le_refl _, HLEN.out⟩
end Go.Proofs.YthofbblgoamipaaGreatDoor.Wa
