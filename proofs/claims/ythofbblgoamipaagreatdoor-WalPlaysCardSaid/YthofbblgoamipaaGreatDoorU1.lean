/-
  Chapter 12's laws: how they begin; a script's bulk.
-/
import Derived.Test.YthofbblgoamipaaGreatDoorT5
namespace Go.Proofs.YthofbblgoamipaaGreatDoor.Wa
open Go.RowKit Pt
set_option linter.unusedVariables false
set_option linter.unusedSimpArgs false
set_option maxRecDepth 100000

/-- the cells of a log at play -/
def plC (q g : Nat) (nm : By) (most : Nat) (bv rv : Value) (safe : Nat) : List Value := [.pointer (some ⟨q, 0, none⟩), .pointer (some ⟨g, 0, none⟩), .string ⟨nm.toArray⟩, .int .i64 (most : Int), bv, rv, .int .i64 (safe : Int)]
/-- a log at play, and what it has to be -/
structure PL (B0 : Nat) (Yc : Nat → Prop) (W : World) (xp g q m : Nat) (nm : By) (most : Nat) (x : Wl) (lg : Lg) (bv rv : Value) (k N T rm : Nat) : Prop where
  lx : LX Yc W g q m nm most x lg.base lg.R k N T rm
  lgv : LgV (fun j => Yc j ∧ j ≠ xp) W lg bv rv
  blk : Blk W xp 53 (plC q g nm most bv rv lg.safe)
  y0 : ∀ j, j < B0 → Yc j
  yx : Yc xp
  bx : B0 ≤ xp
  sf : lg.safe ≤ k
  un : x.st.armed = false
theorem PL.lt {B0 : Nat} {Yc : Nat → Prop} {W : World} {xp g q m : Nat} {nm : By} {most : Nat} {x : Wl} {lg : Lg} {bv rv : Value} {k N T rm : Nat} (h : PL B0 Yc W xp g q m nm most x lg bv rv k N T rm) : B0 ≤ W.heap.size := Nat.le_of_lt (Nat.lt_of_le_of_lt h.bx h.blk.lt)
theorem u64_nn (n : Int) : 0 ≤ IntKind.u64.wrap n := by
  have e : IntKind.u64.wrap n = n % 18446744073709551616 := by unfold IntKind.wrap; simp [IntKind.signed, IntKind.bits]
  rw [e]; exact Int.emod_nonneg _ (by decide)
theorem mod_nat (n : Int) (c : Int) (hc : 0 < c) (hc2 : c ≤ 10000) : ∃ N : Nat, wrap64 ((IntKind.u64.wrap n).tmod c) = (N : Int) ∧ (N : Int) < c := by
  have h0 : 0 ≤ IntKind.u64.wrap n := u64_nn n
  have h1 := Int.tmod_nonneg c h0
  have h2 := Int.tmod_lt_of_pos (IntKind.u64.wrap n) hc
  refine ⟨((IntKind.u64.wrap n).tmod c).toNat, ?_, by omega⟩
  rw [IntWalk.wrap64_in _ (by omega)]
  omega
theorem mod2000 (n : Int) : ∃ M : Nat, wrap64 (1 + wrap64 ((IntKind.u64.wrap n).tmod 2000)) = (M : Int) ∧ 1 ≤ M ∧ M ≤ 2000 := by
  obtain ⟨N, h1, h2⟩ := mod_nat n 2000 (by decide) (by decide)
  rw [h1, IntWalk.wrap64_in _ (by omega)]
  exact ⟨N + 1, by omega, by omega, by omega⟩
set_option maxHeartbeats 8000000 in
theorem begun_any {Y : Nat → Prop} {q m : Nat} {st : St} {rm : Nat} (nm : By) (n : Int) (w : World) (h : PY Y w q m st) (hn1 : 1 ≤ nm.length) (hn : nm.length ≤ 32) (hd : st.down = false) (ha : st.armed = false) (hfs : st.fs = []) (hrm : st.room = rm) (hr : 100 ≤ rm) {B0 : Nat} (hB : B0 ≤ w.heap.size) (hY : ∀ j, j < B0 → Y j) :
    Calls Tryz.prog 7 #[.pointer (some ⟨q, 0, none⟩), .string ⟨nm.toArray⟩, .int .i64 n] w fun e w' => Below B0 w w' ∧ ∃ Yc xp g M x bv rv, e = .returned (.pointer (some ⟨xp, 0, none⟩)) ∧ PL B0 Yc w' xp g q m nm M x ⟨[], [], 0⟩ bv rv 0 1 12 rm ∧ M ≤ 2000 ∧ 1 ≤ M := by
  obtain ⟨M, hM, hM1, hM2⟩ := mod2000 n
  have HM := Lib.hid (And.intro hM1 hM2)
  have HO := Lib.hid (open_new (nm := nm) (most := M) (rm := rm) w h hn1 hn hM1 (by omega) hd ha hfs hrm hr)
  have HBY := Lib.hid (And.intro hB hY)
  have HARM := Lib.hid ha
  clear h hn1 hn hd ha hfs hrm hr hB hY hM1 hM2
  go_enter Tryz.func7, Tryz.ntmps7
  go_wp2_with fail
  rw [hM]
  clear hM
  refine HO.out.mono ?_
  rintro e w2 ⟨hk2, g, bv, rv, x, Yc, rfl, hox⟩
  obtain ⟨Ba, Bc, e2⟩ := hox.lg.b.slice
  subst e2
  obtain ⟨Ra, Rc, e2⟩ := hox.lg.r.slice
  subst e2
  have HX := Lib.hid hox
  have HK := Lib.hid hk2
  clear hox hk2 HO
  go_wp2_with fail
  have hb3 : Below w2.heap.size w2 (w2.alloc (.cells #[.pointer (some ⟨q, 0, none⟩), .pointer (some ⟨g, 0, none⟩), .string ⟨nm.toArray⟩, .int .i64 (M : Int), .slice none 0 0, .slice none 0 0, .int .i64 0] 53)) := (Below.refl _ _).alloc (Nat.le_refl _) _
  have hbl : Blk (w2.alloc (.cells #[.pointer (some ⟨q, 0, none⟩), .pointer (some ⟨g, 0, none⟩), .string ⟨nm.toArray⟩, .int .i64 (M : Int), .slice none 0 0, .slice none 0 0, .int .i64 0] 53)) w2.heap.size 53 (plC q g nm M (.slice none 0 0) (.slice none 0 0) 0) := Blk.new w2 53 _
  have HBB := HBY.out.1
  have hks := HK.out.size
  go_ret
  refine ⟨(HK.out.below HBY.out.1 HBY.out.2).trans (hb3.mono (by omega)), _, w2.heap.size, g, M, x, .slice none 0 0, .slice none 0 0, rfl, ⟨HX.out.lx.more hb3, ⟨Rd.nil _ _, RdB.nil _ _ none 0, fun h0 => absurd h0 (by simp), by simp, by simp⟩, hbl, fun j hj => .inl (HX.out.sub j (HBY.out.2 j hj)), .inr ⟨Nat.le_refl _, hbl.lt⟩, by omega, Nat.le_refl _, HX.out.arm HARM.out⟩, HM.out.2, HM.out.1⟩
/-- a step of a script -/
structure Sq where
  kd : Int
  b : By
  ks : List Int
def sqc (s : Sq) (vb vk : Value) : List Value := [.int .i64 s.kd, vb, vk]
/-- a step's lists read so; they lie below B -/
structure SqAt (B : Nat) (W : World) (s : Sq) (vb vk : Value) : Prop where
  rb : Rd W 1 vb s.b.length (Lib.byteCells s.b)
  rk : Rd W 1 vk s.ks.length (s.ks.map fun j => Value.int .i64 j)
  nb : 0 < s.b.length → ∀ g, vb.ownBlock = some g → g < B
  nk : 0 < s.ks.length → ∀ g, vk.ownBlock = some g → g < B
  lb : s.b.length ≤ 140737488355000
theorem SqAt.below {B : Nat} {W W' : World} {s : Sq} {vb vk : Value} (h : SqAt B W s vb vk) (hb : Below B W W') : SqAt B W' s vb vk :=
  ⟨rd_keep0 h.rb (fun h0 g hg => hb.block g (h.nb h0 g hg)), rd_keep0 h.rk (fun h0 g hg => hb.block g (h.nk h0 g hg)), h.nb, h.nk, h.lb⟩
/-- a slice reads as these steps; all of it lies below B -/
structure SqsAt (B : Nat) (W : World) (v : Value) (l : List Sq) (vb vk : Nat → Value) : Prop where
  shp : ∃ a c, v = .slice a l.length c
  cel : 0 < l.length → ∃ b o c, v = .slice (some ⟨b, o, none⟩) l.length c ∧ b < B ∧ ∀ k s, l[k]? = some s → ∀ (j : Nat) (u : Value), (sqc s (vb k) (vk k))[j]? = some u → W.cell? ⟨b, o + k * 3 + j, none⟩ = some u
  stp : ∀ k s, l[k]? = some s → SqAt B W s (vb k) (vk k)
theorem SqsAt.below {B : Nat} {W W' : World} {v : Value} {l : List Sq} {vb vk : Nat → Value} (h : SqsAt B W v l vb vk) (hb : Below B W W') : SqsAt B W' v l vb vk := by
  refine ⟨h.shp, fun hl => ?_, fun k s hk => (h.stp k s hk).below hb⟩
  obtain ⟨b, o, c, e, hbB, hc⟩ := h.cel hl
  exact ⟨b, o, c, e, hbB, fun k s hk j u hj => (World.cell?_of_block (a := ⟨b, o + k * 3 + j, none⟩) (hb.block b hbB)).trans (hc k s hk j u hj)⟩
/-- the bytes of the first k steps that are gone through -/
def sz (s : Sq) : Nat := if s.b.length ≤ 60000 then s.b.length else 0
def blk (l : List Sq) (k : Nat) : Nat := ((l.take k).map sz).sum
theorem blk_succ {l : List Sq} {k : Nat} {s : Sq} (h : l[k]? = some s) : blk l (k + 1) = blk l k + sz s := by
  have hk : k < l.length := (List.getElem?_eq_some_iff.1 h).1
  unfold blk
  rw [List.take_succ_eq_append_getElem hk, List.map_append, List.sum_append, (List.getElem?_eq_some_iff.1 h).2]
  simp
theorem blk_end {l : List Sq} {k : Nat} (h : l.length ≤ k) : blk l k = blk l l.length := by
  unfold blk
  rw [List.take_of_length_le h, List.take_length]
theorem sz_le (s : Sq) : sz s ≤ 60000 := by unfold sz; split <;> omega
theorem blk_le (l : List Sq) : ∀ k, blk l k ≤ 60000 * k := by
  intro k
  induction k with
  | zero => simp [blk]
  | succ k ih =>
    rcases Nat.lt_or_ge k l.length with h | h
    · rw [blk_succ (List.getElem?_eq_getElem h)]
      have := sz_le l[k]
      omega
    · rw [blk_end (by omega), ← blk_end h]
      omega
theorem blk_mono {l : List Sq} {k j : Nat} (h : k ≤ j) : blk l k ≤ blk l j := by
  induction j with
  | zero => rw [show k = 0 from by omega]; exact Nat.le_refl _
  | succ j ih =>
    by_cases e : k = j + 1
    · rw [e]; exact Nat.le_refl _
    · refine Nat.le_trans (ih (by omega)) ?_
      rcases Nat.lt_or_ge j l.length with h2 | h2
      · rw [blk_succ (List.getElem?_eq_getElem h2)]; omega
      · rw [blk_end (by omega : l.length ≤ j + 1), ← blk_end h2]; exact Nat.le_refl _
set_option maxHeartbeats 8000000 in
theorem bulk_any (v : Value) (l : List Sq) (vb vk : Nat → Value) (w : World) (B : Nat) (h : SqsAt B w v l vb vk) (hl : l.length ≤ 4611686018427387904) :
    Calls Tryz.prog 9 #[v] w fun e w' => e = .returned (.bool (decide (1048576 < blk l 60))) ∧ Below w.heap.size w w' := by
  obtain ⟨a, c, rfl⟩ := h.shp
  have H := Lib.hid h
  have HB := Lib.hid (Below.refl w.heap.size w)
  clear h
  go_enter Tryz.func9, Tryz.ntmps9
  go_wp2_with fail
  go_loopw [3, 4] (fun n i wr => ∃ k : Nat, k ≤ l.length ∧ k ≤ 60 ∧ n = .int .i64 (blk l k : Int) ∧ i = .int .i64 (k : Int) ∧ wr = w) (fun _ i _ => 60 - (intOf i).toNat)
  case atStart => exact ⟨0, Nat.zero_le _, Nat.zero_le _, rfl, rfl, rfl⟩
  case round =>
    obtain ⟨k, hk, hk60, rfl, rfl, rfl⟩ := hrel
    by_cases hkn : k < l.length
    case neg =>
      have t1 : ¬ (k : Int) < (l.length : Int) := by omega
      have HE : Hid (blk l 60 = blk l k) := Lib.hid (by rw [blk_end (by omega : l.length ≤ 60), blk_end (by omega : l.length ≤ k)])
      generalize blk l k = S at *
      have hd : decide ((1048576 : Int) < (S : Int)) = decide (1048576 < S) := by rw [decide_eq_decide]; omega
      go_wp2_with fail
      go_ret
      exact ⟨by rw [HE.out]; rfl, HB.out⟩
    case pos =>
    have t1 : (k : Int) < (l.length : Int) := by omega
    by_cases hk1 : (k : Int) < 60
    case neg =>
      have HE : Hid (blk l 60 = blk l k) := Lib.hid (by rw [show k = 60 from by omega])
      generalize blk l k = S at *
      have hd : decide ((1048576 : Int) < (S : Int)) = decide (1048576 < S) := by rw [decide_eq_decide]; omega
      go_wp2_with fail
      go_ret
      exact ⟨by rw [HE.out]; rfl, HB.out⟩
    case pos =>
    obtain ⟨s, hs⟩ : ∃ s, l[k]? = some s := ⟨_, List.getElem?_eq_getElem hkn⟩
    obtain ⟨b1, o1, c1, e1, hb1, hc1⟩ := H.out.cel (by omega)
    cases e1
    obtain ⟨xa, xc, ex⟩ := (H.out.stp k s hs).rb.slice
    have y1 := hc1 k s hs 1 _ rfl
    rw [ex] at y1
    have hlb := (H.out.stp k s hs).lb
    have HBS := Lib.hid (blk_succ hs)
    have hbl := blk_le l k
    have hbl2 : blk l k ≤ 3600000 := by omega
    obtain ⟨L, hL⟩ : ∃ L, L = s.b.length := ⟨_, rfl⟩
    rw [← hL] at y1 hlb
    have HL := Lib.hid hL
    obtain ⟨S, hS⟩ : ∃ S, S = blk l k := ⟨_, rfl⟩
    rw [← hS] at HBS hbl2 ⊢
    clear hc1 hs hbl hL ex hS
    by_cases hlg : L ≤ 60000
    case pos =>
      have t3 : (L : Int) ≤ 60000 := by omega
      have HN : Hid (blk l (k + 1) = S + L) := Lib.hid (by rw [HBS.out]; unfold sz; rw [← HL.out, if_pos hlg])
      clear hlg
      go_wp2_with fail
      go_roundw
      case rel => exact ⟨k + 1, by omega, by omega, by rw [HN.out]; go_num, by go_num, trivial⟩
      case measure => simp [intOf]; omega
    case neg =>
      have t3 : ¬ (L : Int) ≤ 60000 := by omega
      have HN : Hid (blk l (k + 1) = S) := Lib.hid (by rw [HBS.out]; unfold sz; rw [← HL.out, if_neg hlg]; rfl)
      clear hlg
      go_wp2_with fail
      go_roundw
      case rel => exact ⟨k + 1, by omega, by omega, by rw [HN.out], by go_num, trivial⟩
      case measure => simp [intOf]; omega
end Go.Proofs.YthofbblgoamipaaGreatDoor.Wa
/- Chapter 12's laws: a log is opened anew, and may have what it has. -/
namespace Go.Proofs.YthofbblgoamipaaGreatDoor.Wa
open Go.RowKit Pt
set_option linter.unusedVariables false
set_option linter.unusedSimpArgs false
set_option maxRecDepth 100000

theorem rd_cap {W : World} {sz n c : Nat} {a : Option Addr} {cs : List Value} (h : Rd W sz (.slice a n c) n cs) : n ≤ c := by
  rcases h.2 with ⟨_, h0⟩ | ⟨b, o, c', e, hle, _⟩
  · omega
  · cases e; exact hle
/-- behind an opening, before it: a plate whose disk holds the base and the first p records -/
structure QX (B0 : Nat) (Y : Nat → Prop) (W : World) (xp g q m : Nat) (nm : By) (most : Nat) (st : St) (lg : Lg) (bv rv : Value) (p N T rm : Nat) : Prop where
  pa : PY Y W q m st
  dk : Disk nm st.fs lg.base (lg.R.take p) N
  tt : tot st.fs ≤ T
  rm : st.room = rm
  down : st.down = false
  arm : st.armed = false
  lgv : LgV (fun j => Y j ∧ j ≠ xp) W lg bv rv
  blk : Blk W xp 53 (plC q g nm most bv rv lg.safe)
  y0 : ∀ j, j < B0 → Y j
  yx : Y xp
  bx : B0 ≤ xp
  sf : lg.safe ≤ p
  pl : p ≤ lg.R.length
theorem QX.below {B0 : Nat} {Y : Nat → Prop} {W W' : World} {xp g q m : Nat} {nm : By} {most : Nat} {st : St} {lg : Lg} {bv rv : Value} {p N T rm : Nat} (h : QX B0 Y W xp g q m nm most st lg bv rv p N T rm) (hb : Below W.heap.size W W') : QX B0 Y W' xp g q m nm most st lg bv rv p N T rm :=
  ⟨h.pa.below hb, h.dk, h.tt, h.rm, h.down, h.arm, h.lgv.below hb, h.blk.below hb h.blk.lt, h.y0, h.yx, h.bx, h.sf, h.pl⟩
theorem alw_ok (lg : Lg) (p : Nat) (hs : lg.safe ≤ p) (hp : p ≤ lg.R.length) : alw lg lg.base (lg.R.take p) = true := by
  have hl : (lg.R.take p).length = p := by rw [List.length_take]; omega
  unfold alw
  rw [hl, decide_eq_true (rfl : lg.base = lg.base), decide_eq_true hs, decide_eq_true hp, decide_eq_true rfl]
  rfl
theorem lt_Y {Y : Nat → Prop} {W : World} {q m : Nat} {st : St} (h : PY Y W q m st) {k : Nat} (hk : Y k) : k < W.heap.size := h.ys k hk
def CO (W4 : World) (b : By) (W : World) : Prop := Rd W 1 (.slice (some ⟨W4.heap.size, 0, none⟩) b.length b.length) b.length (Lib.byteCells b) ∧ Below W4.heap.size W4 W
def sto (W : World) (xp : Nat) (b r : Value) (s : Nat) : World := ((W.setCell ⟨xp, 4, none⟩ b).setCell ⟨xp, 5, none⟩ r).setCell ⟨xp, 6, none⟩ (.int .i64 (s : Int))
theorem sto_out (W : World) (xp : Nat) (b r : Value) (s : Nat) : Out (fun k => k = xp) W (sto W xp b r s) := (((Out.refl (fun k => k = xp) W).set ⟨xp, 4, none⟩ b rfl).set ⟨xp, 5, none⟩ r rfl).set ⟨xp, 6, none⟩ (.int .i64 (s : Int)) rfl
theorem LX.other {Y F : Nat → Prop} {W W' : World} {g q m : Nat} {nm : By} {most : Nat} {x : Wl} {base : By} {R : List By} {k N T rm : Nat} (h : LX Y W g q m nm most x base R k N T rm) (ho : Out F W W') (hF : ∀ k, F k → Y k) : LX Y W' g q m nm most x base R k N T rm := ⟨h.wa.other ho hF, h.lv, h.tt, h.rm⟩
/-- what it has to be is written down -/
theorem PL.store {B0 : Nat} {Y : Nat → Prop} {W : World} {xp g q m : Nat} {nm : By} {most : Nat} {x : Wl} {lg : Lg} {b0 r0 bv rv : Value} {s0 k N T rm : Nat} (hl : LX Y W g q m nm most x lg.base lg.R k N T rm) (hg : LgV (fun j => Y j ∧ j ≠ xp) W lg bv rv)
    (hb : Blk W xp 53 (plC q g nm most b0 r0 s0)) (y0 : ∀ j, j < B0 → Y j) (yx : Y xp) (bx : B0 ≤ xp) (sf : lg.safe ≤ k) (un : x.st.armed = false) : PL B0 Y (sto W xp bv rv lg.safe) xp g q m nm most x lg bv rv k N T rm ∧ Below B0 W (sto W xp bv rv lg.safe) := by
  have ho := sto_out W xp bv rv lg.safe
  exact ⟨⟨hl.other ho fun j hj => hj ▸ yx, hg.keep fun j hj => ho.block j (hl.wa.ys j hj.1) hj.2, ((hb.set 4 bv).set 5 rv).set 6 (.int .i64 (lg.safe : Int)), y0, yx, bx, sf, un⟩, ho.below (Nat.le_of_lt (Nat.lt_of_le_of_lt bx hb.lt)) fun j hj => hj ▸ bx⟩
set_option maxHeartbeats 8000000 in
theorem popen_any {B0 : Nat} {Y : Nat → Prop} {xp g q m : Nat} {nm : By} {most : Nat} {st : St} {lg : Lg} {bv rv : Value} {p N T rm : Nat} (w : World) (h : QX B0 Y w xp g q m nm most st lg bv rv p N T rm) (hn1 : 1 ≤ nm.length) (hn : nm.length ≤ 32) (hm1 : 1 ≤ most) (hm : most ≤ 2000) (hN : N ≤ 99) :
    Calls Tryz.prog 28 #[.pointer (some ⟨xp, 0, none⟩)] w fun e w' => e = .returned (.bool true) ∧ Below B0 w w' ∧ ∃ Yc g' x' bv' rv', PL B0 Yc w' xp g' q m nm most x' ⟨lg.base, lg.R.take p, p⟩ bv' rv' p N T rm := by
  have hR : (lg.R.take p).length ≤ 1000000 := by have := h.lgv.lr; rw [List.length_take]; omega
  have hp9 : p ≤ 1000000 := by have := h.lgv.lr; have := h.pl; omega
  have hpl : (lg.R.take p).length = p := by have := h.pl; rw [List.length_take]; omega
  have HPL := Lib.hid hpl
  have hq := h.pa.q.1
  have hys := h.pa.ys
  have H := Lib.hid h
  have HO := Lib.hid (fun W (hb : Below w.heap.size w W) => open_lx (most := most) W (h.pa.below hb) hn1 hn hm1 (by omega) h.down h.dk hN h.tt h.rm hR)
  obtain ⟨Ra, Rc, er⟩ := h.lgv.r.slice
  subst er
  have hcap : p ≤ Rc := by obtain ⟨vs, h1, _⟩ := h.lgv.r; have := rd_cap h1; have := h.pl; omega
  have HC := Lib.hid hcap
  have hsl := fun W => sl_front (P := Tryz.prog) W 38 Ra lg.R.length Rc p .i64 bls_elem (bls_size W) hcap
  clear h hn1 hn hm1 hm hN hR hpl hq hys hcap
  go_enter Tryz.func28, Tryz.ntmps28
  go_wp2_with fail
  refine wp_region_held_drew (S := (fun W => W.cell? ⟨xp, 0, none⟩ = some (.pointer (some ⟨q, 0, none⟩)) ∧ W.cell? ⟨xp, 2, none⟩ = some (.string ⟨nm.toArray⟩) ∧ W.cell? ⟨xp, 3, none⟩ = some (.int .i64 (most : Int)))) (by kernel_rfl) ?_ (fun hHeld1 => ?_)
  · exact ⟨H.out.blk.cell 0 rfl, H.out.blk.cell 2 rfl, H.out.blk.cell 3 rfl⟩
  refine wpAnyH_take (i := 0) (oi := ?oi1) (v := ?v1) ?hi1 (by kernel_rfl) (by kernel_rfl) (by kernel_rfl) ?hq1 ?hy1 (by assumption) ?rest1
  case hi1 => (simp only [List.getElem?_toArray, List.getElem?_cons_succ, List.getElem?_cons_zero]; rfl)
  case hq1 => exact fun _ _ _ h => h
  case hy1 => (refine Or.inl ⟨by rfl, ?_⟩; intro W hSw; (try dsimp only at hSw); go_simp; (try with_reducible rfl))
  try simp only [Act.put, List.setIfInBounds_toArray, List.set_cons_zero, List.set_cons_succ]
  refine wpAnyH_take (i := 1) (oi := ?oi2) (v := ?v2) ?hi2 (by kernel_rfl) (by kernel_rfl) (by kernel_rfl) ?hq2 ?hy2 (by assumption) ?rest2
  case hi2 => (simp only [List.getElem?_toArray, List.getElem?_cons_succ, List.getElem?_cons_zero]; rfl)
  case hq2 => exact fun _ _ _ h => h
  case hy2 => (refine Or.inl ⟨by rfl, ?_⟩; intro W hSw; (try dsimp only at hSw); go_simp; (try with_reducible rfl))
  try simp only [Act.put, List.setIfInBounds_toArray, List.set_cons_zero, List.set_cons_succ]
  refine wpAnyH_take (i := 2) (oi := ?oi3) (v := ?v3) ?hi3 (by kernel_rfl) (by kernel_rfl) (by kernel_rfl) ?hq3 ?hy3 (by assumption) ?rest3
  case hi3 => (simp only [List.getElem?_toArray, List.getElem?_cons_succ, List.getElem?_cons_zero]; rfl)
  case hq3 => exact fun _ _ _ h => h
  case hy3 => (refine Or.inl ⟨by rfl, ?_⟩; intro W hSw; (try dsimp only at hSw); go_simp; (try with_reducible rfl))
  try simp only [Act.put, List.setIfInBounds_toArray, List.set_cons_zero, List.set_cons_succ]
  refine wpAnyH_take (i := 3) (oi := ?oi4) (v := ?v4) ?hi4 (by kernel_rfl) (by kernel_rfl) (by kernel_rfl) ?hq4 ?hy4 (by assumption) ?rest4
  case hi4 => (simp only [List.getElem?_toArray, List.getElem?_cons_succ, List.getElem?_cons_zero]; rfl)
  case hq4 => exact fun _ _ _ h => h
  case hy4 => (refine Or.inl ⟨by rfl, ?_⟩; intro W hSw; (try dsimp only at hSw); go_simp; (try with_reducible rfl))
  try simp only [Act.put, List.setIfInBounds_toArray, List.set_cons_zero, List.set_cons_succ]
  refine wpAnyH_take (i := 4) (oi := ?oi5) (v := ?v5) ?hi5 (by kernel_rfl) (by kernel_rfl) (by kernel_rfl) ?hq5 ?hy5 (by assumption) ?rest5
  case hi5 => (simp only [List.getElem?_toArray, List.getElem?_cons_succ, List.getElem?_cons_zero]; rfl)
  case hq5 => exact fun _ _ _ h => h
  case hy5 => (refine Or.inl ⟨by rfl, ?_⟩; intro W hSw; (try dsimp only at hSw); go_simp; (try with_reducible rfl))
  try simp only [Act.put, List.setIfInBounds_toArray, List.set_cons_zero, List.set_cons_succ]
  refine wpAnyH_take (i := 5) (oi := ?oi6) (v := ?v6) ?hi6 (by kernel_rfl) (by kernel_rfl) (by kernel_rfl) ?hq6 ?hy6 (by assumption) ?rest6
  case hi6 => (simp only [List.getElem?_toArray, List.getElem?_cons_succ, List.getElem?_cons_zero]; rfl)
  case hq6 => exact fun _ _ _ h => h
  case hy6 => (refine Or.inl ⟨by rfl, ?_⟩; intro W hSw; (try dsimp only at hSw); go_simp; (try with_reducible rfl))
  try simp only [Act.put, List.setIfInBounds_toArray, List.set_cons_zero, List.set_cons_succ]
  refine wpAnyH_take (i := 6) (oi := ?oi7) (v := ?v7) ?hi7 (by kernel_rfl) (by kernel_rfl) (by kernel_rfl) ?hq7 ?hy7 (by assumption) ?rest7
  case hi7 => (simp only [List.getElem?_toArray, List.getElem?_cons_succ, List.getElem?_cons_zero]; rfl)
  case hq7 => exact fun _ _ _ h => h
  case hy7 => (refine Or.inl ⟨by rfl, ?_⟩; intro W hSw; (try dsimp only at hSw); go_simp; (try with_reducible rfl))
  try simp only [Act.put, List.setIfInBounds_toArray, List.set_cons_zero, List.set_cons_succ]
  refine wpAnyH_take (i := 7) (oi := ?oi8) (v := ?v8) ?hi8 (by kernel_rfl) (by kernel_rfl) (by kernel_rfl) ?hq8 ?hy8 (by assumption) ?rest8
  case hi8 => (simp only [List.getElem?_toArray, List.getElem?_cons_succ, List.getElem?_cons_zero]; rfl)
  case hq8 => exact fun _ _ _ h => h
  case hy8 => (refine Or.inl ⟨by rfl, ?_⟩; intro W hSw; (try dsimp only at hSw); go_simp; (try with_reducible rfl))
  try simp only [Act.put, List.setIfInBounds_toArray, List.set_cons_zero, List.set_cons_succ]
  refine wpAnyH_take (i := 8) (oi := ?oi9) (v := ?v9) ?hi9 (by kernel_rfl) (by kernel_rfl) (by kernel_rfl) ?hq9 ?hy9 (by assumption) ?rest9
  case hi9 => (simp only [List.getElem?_toArray, List.getElem?_cons_succ, List.getElem?_cons_zero]; rfl)
  case hq9 => exact fun _ _ _ h => h
  case hy9 => (refine Or.inl ⟨by rfl, ?_⟩; intro W hSw; (try dsimp only at hSw); go_simp; (try with_reducible rfl))
  try simp only [Act.put, List.setIfInBounds_toArray, List.set_cons_zero, List.set_cons_succ]
  refine wpAnyH_take (i := 9) (oi := ?oi10) (v := ?v10) ?hi10 (by kernel_rfl) (by kernel_rfl) (by kernel_rfl) ?hq10 ?hy10 (by assumption) ?rest10
  case hi10 => (simp only [List.getElem?_toArray, List.getElem?_cons_succ, List.getElem?_cons_zero]; rfl)
  case hq10 => exact fun _ _ _ h => h
  case hy10 => (refine Or.inl ⟨by rfl, ?_⟩; intro W hSw; (try dsimp only at hSw); go_simp; (try with_reducible rfl))
  try simp only [Act.put, List.setIfInBounds_toArray, List.set_cons_zero, List.set_cons_succ]
  refine wpAnyH_take (i := 10) (oi := ?oi11) (v := ?v11) ?hi11 (by kernel_rfl) (by kernel_rfl) (by kernel_rfl) ?hq11 ?hy11 (by assumption) ?rest11
  case hi11 => (simp only [List.getElem?_toArray, List.getElem?_cons_succ, List.getElem?_cons_zero]; rfl)
  case hq11 => exact fun _ _ _ h => h
  case hy11 => (refine Or.inl ⟨by rfl, ?_⟩; intro W hSw; (try dsimp only at hSw); go_simp; (try with_reducible rfl))
  try simp only [Act.put, List.setIfInBounds_toArray, List.set_cons_zero, List.set_cons_succ]
  refine wpAnyH_take (i := 11) (oi := ?oi12) (v := ?v12) ?hi12 (by kernel_rfl) (by kernel_rfl) (by kernel_rfl) ?hq12 ?hy12 (by assumption) ?rest12
  case hi12 => (simp only [List.getElem?_toArray, List.getElem?_cons_succ, List.getElem?_cons_zero]; rfl)
  case hq12 => exact fun _ _ _ h => h
  case hy12 => (refine Or.inl ⟨by rfl, ?_⟩; intro W hSw; (try dsimp only at hSw); go_simp; (try with_reducible rfl))
  try simp only [Act.put, List.setIfInBounds_toArray, List.set_cons_zero, List.set_cons_succ]
  refine wpAnyH_ready (rs := [12]) (by kernel_rfl) (by simp) ?_
  refine AllReadyH.cons (o := ?oi13) ?hi13 (fun K hK => ?hs13) AllReadyH.nil
  case hi13 => (simp only [List.getElem?_toArray, List.getElem?_cons_succ, List.getElem?_cons_zero]; rfl)
  go_simp
  refine (HO.out _ (Below.refl _ _).drew).mono ?_
  rintro e w2 ⟨hk2, h2⟩
  rcases h2 with ⟨g2, bv2, rv2, x2, Yc, rfl, hox⟩ | ⟨h2, _⟩
  case inr => rw [H.out.arm] at h2; cases h2
  have HK2 : Hid (Kp Y w w2) := Lib.hid ((Kp.of_below (Below.refl _ _).drew).trans hk2)
  have HX := Lib.hid hox
  obtain ⟨Ba2, Bc2, e2⟩ := hox.lg.b.slice
  subst e2
  obtain ⟨Ra2, Rc2, e2⟩ := hox.lg.r.slice
  subst e2
  rw [HPL.out]
  have HBK2 : Hid (Blk w2 xp 53 (plC q g nm most bv (.slice Ra lg.R.length Rc) lg.safe)) := Lib.hid ((HK2.out.block H.out.blk.lt H.out.yx).trans H.out.blk)
  clear hk2 hox HO
  go_wp2_with fail
  refine hK.out _ _ ?_ (fun hHeld2 => ?_)
  · exact ⟨HBK2.out.cell 0 rfl, HBK2.out.cell 2 rfl, HBK2.out.cell 3 rfl⟩
  clear hK
  try simp only [Act.put, List.setIfInBounds_toArray, List.set_cons_zero, List.set_cons_succ]
  refine wpAnyH_take (i := 13) (oi := ?oi14) (v := ?v14) ?hi14 (by kernel_rfl) (by kernel_rfl) (by kernel_rfl) ?hq14 ?hy14 (by assumption) ?rest14
  case hi14 => (simp only [List.getElem?_toArray, List.getElem?_cons_succ, List.getElem?_cons_zero]; rfl)
  case hq14 => exact fun _ _ _ h => h
  case hy14 => (refine Or.inl ⟨by rfl, ?_⟩; intro W hSw; (try dsimp only at hSw); go_simp; (try with_reducible rfl))
  try simp only [Act.put, List.setIfInBounds_toArray, List.set_cons_zero, List.set_cons_succ]
  refine wpAnyH_take (i := 14) (oi := ?oi15) (v := ?v15) ?hi15 (by kernel_rfl) (by kernel_rfl) (by kernel_rfl) ?hq15 ?hy15 (by assumption) ?rest15
  case hi15 => (simp only [List.getElem?_toArray, List.getElem?_cons_succ, List.getElem?_cons_zero]; rfl)
  case hq15 => exact fun _ _ _ h => h
  case hy15 => (refine Or.inl ⟨by rfl, ?_⟩; intro W hSw; (try dsimp only at hSw); go_simp; (try with_reducible rfl))
  try simp only [Act.put, List.setIfInBounds_toArray, List.set_cons_zero, List.set_cons_succ]
  refine wpAnyH_take (i := 15) (oi := ?oi16) (v := ?v16) ?hi16 (by kernel_rfl) (by kernel_rfl) (by kernel_rfl) ?hq16 ?hy16 (by assumption) ?rest16
  case hi16 => (simp only [List.getElem?_toArray, List.getElem?_cons_succ, List.getElem?_cons_zero]; rfl)
  case hq16 => exact fun _ _ _ h => h
  case hy16 => (refine Or.inl ⟨by rfl, ?_⟩; intro W hSw; (try dsimp only at hSw); go_simp; (try with_reducible rfl))
  try simp only [Act.put, List.setIfInBounds_toArray, List.set_cons_zero, List.set_cons_succ]
  refine wpAnyH_take (i := 16) (oi := ?oi17) (v := ?v17) ?hi17 (by kernel_rfl) (by kernel_rfl) (by kernel_rfl) ?hq17 ?hy17 (by assumption) ?rest17
  case hi17 => (simp only [List.getElem?_toArray, List.getElem?_cons_succ, List.getElem?_cons_zero]; rfl)
  case hq17 => exact fun _ _ _ h => h
  case hy17 => (refine Or.inl ⟨by rfl, ?_⟩; intro W hSw; (try dsimp only at hSw); go_simp; (try with_reducible rfl))
  try simp only [Act.put, List.setIfInBounds_toArray, List.set_cons_zero, List.set_cons_succ]
  refine wpAnyH_take (i := 17) (oi := ?oi18) (v := ?v18) ?hi18 (by kernel_rfl) (by kernel_rfl) (by kernel_rfl) ?hq18 ?hy18 (by assumption) ?rest18
  case hi18 => (simp only [List.getElem?_toArray, List.getElem?_cons_succ, List.getElem?_cons_zero]; rfl)
  case hq18 => exact fun _ _ _ h => h
  case hy18 => (refine Or.inl ⟨by rfl, ?_⟩; intro W hSw; (try dsimp only at hSw); go_simp; (try with_reducible rfl))
  try simp only [Act.put, List.setIfInBounds_toArray, List.set_cons_zero, List.set_cons_succ]
  refine wpAnyH_take (i := 18) (oi := ?oi19) (v := ?v19) ?hi19 (by kernel_rfl) (by kernel_rfl) (by kernel_rfl) ?hq19 ?hy19 (by assumption) ?rest19
  case hi19 => (simp only [List.getElem?_toArray, List.getElem?_cons_succ, List.getElem?_cons_zero]; rfl)
  case hq19 => exact fun _ _ _ h => h
  case hy19 => (refine Or.inl ⟨by rfl, ?_⟩; intro W hSw; (try dsimp only at hSw); go_simp; (try with_reducible rfl))
  try simp only [Act.put, List.setIfInBounds_toArray, List.set_cons_zero, List.set_cons_succ]
  refine wpAnyH_take (i := 19) (oi := ?oi20) (v := ?v20) ?hi20 (by kernel_rfl) (by kernel_rfl) (by kernel_rfl) ?hq20 ?hy20 (by assumption) ?rest20
  case hi20 => (simp only [List.getElem?_toArray, List.getElem?_cons_succ, List.getElem?_cons_zero]; rfl)
  case hq20 => exact fun _ _ _ h => h
  case hy20 => (refine Or.inl ⟨by rfl, ?_⟩; intro W hSw; (try dsimp only at hSw); go_simp; (try with_reducible rfl))
  try simp only [Act.put, List.setIfInBounds_toArray, List.set_cons_zero, List.set_cons_succ]
  refine wpAnyH_take (i := 20) (oi := ?oi21) (v := ?v21) ?hi21 (by kernel_rfl) (by kernel_rfl) (by kernel_rfl) ?hq21 ?hy21 (by assumption) ?rest21
  case hi21 => (simp only [List.getElem?_toArray, List.getElem?_cons_succ, List.getElem?_cons_zero]; rfl)
  case hq21 => exact fun _ _ _ h => h
  case hy21 => (refine Or.inl ⟨by rfl, ?_⟩; intro W hSw; (try dsimp only at hSw); go_simp; (try with_reducible rfl))
  try simp only [Act.put, List.setIfInBounds_toArray, List.set_cons_zero, List.set_cons_succ]
  refine wpAnyH_take (i := 21) (oi := ?oi22) (v := ?v22) ?hi22 (by kernel_rfl) (by kernel_rfl) (by kernel_rfl) ?hq22 ?hy22 (by assumption) ?rest22
  case hi22 => (simp only [List.getElem?_toArray, List.getElem?_cons_succ, List.getElem?_cons_zero]; rfl)
  case hq22 => exact fun _ _ _ h => h
  case hy22 => (refine Or.inl ⟨by rfl, ?_⟩; intro W hSw; (try dsimp only at hSw); go_simp; (try with_reducible rfl))
  try simp only [Act.put, List.setIfInBounds_toArray, List.set_cons_zero, List.set_cons_succ]
  refine wpAnyH_done (by kernel_rfl) ?_ _
  have y4 := HBK2.out.cell 4 rfl
  have y5 := HBK2.out.cell 5 rfl
  have y6 := HBK2.out.cell 6 rfl
  go_wp2_with fail
  have HLG2 : Hid (LgV (fun j => Y j ∧ j ≠ xp) w2 lg bv (.slice Ra lg.R.length Rc)) := Lib.hid (H.out.lgv.keep fun k hk => HK2.out.block (H.out.pa.ys k hk.1) hk.1)
  have HAL := Lib.hid (allowed_any lg lg.base (lg.R.take p) bv (.slice Ra lg.R.length Rc) (.slice Ba2 lg.base.length Bc2) (.slice Ra2 p Rc2) w2 HLG2.out HX.out.lg.b (by have := HX.out.lg.r; rw [HPL.out] at this; exact this) (by rw [HPL.out]; exact hp9))
  rw [alw_ok lg p H.out.sf H.out.pl] at HAL
  refine HAL.out.mono ?_
  rintro e w3 ⟨rfl, hb3⟩
  have HB3 := Lib.hid hb3
  have HCN := Lib.hid (count_any g2 q m nm most x2 w3 (HX.out.lx.wa.below hb3))
  have hct : ((x2.count : Nat) : Int) = (p : Int) := by rw [HX.out.lx.lv.count, HPL.out]
  rw [hct] at HCN
  clear hb3 HAL y4 y5 y6 hct hHeld1 hHeld2
  go_wp2_with fail
  refine HCN.out.mono ?_
  rintro e w3' ⟨rfl, rfl⟩
  have HBK3 : Hid (Blk w3' xp 53 (plC q g nm most bv (.slice Ra lg.R.length Rc) lg.safe)) := Lib.hid (HBK2.out.below HB3.out HBK2.out.lt)
  have y1 := HBK3.out.cell 1 rfl
  have z1 := HBK3.out.frozen 1
  clear HCN
  go_wp2_with fail
  obtain ⟨W4, hW4⟩ : ∃ W4, W4 = w3'.setCell ⟨xp, 1, none⟩ (.pointer (some ⟨g2, 0, none⟩)) := ⟨_, rfl⟩
  rw [← hW4]
  have ho4 : Out (fun k => k = xp) w3' W4 := by rw [hW4]; exact (Out.refl (fun k => k = xp) w3').set ⟨xp, 1, none⟩ (.pointer (some ⟨g2, 0, none⟩)) rfl
  have HBK4 : Hid (Blk W4 xp 53 (plC q g2 nm most bv (.slice Ra lg.R.length Rc) lg.safe)) := Lib.hid (by rw [hW4]; exact HBK3.out.set 1 (.pointer (some ⟨g2, 0, none⟩)))
  have hxw := H.out.pa.ys xp H.out.yx
  have HLX4 := Lib.hid ((HX.out.lx.more HB3.out).other ho4 (fun k hk => .inl (hk ▸ HX.out.sub xp H.out.yx)))
  have HLB4 := Lib.hid ((HX.out.lg.below HB3.out).keep (fun k hk => ho4.block k (Nat.lt_of_lt_of_le (HX.out.lx.wa.ys k hk.1) HB3.out.size) (fun e => by have h5 : w.heap.size ≤ k := hk.2; omega)))
  have HLO4 := Lib.hid ((HLG2.out.below HB3.out).keep (fun k hk => ho4.block k (Nat.lt_of_lt_of_le (HX.out.lx.wa.ys k (HX.out.sub k hk.1)) HB3.out.size) hk.2))
  have HX4 : Hid (xp < W4.heap.size ∧ Below B0 w W4) := Lib.hid ⟨HBK4.out.lt, ((HK2.out.below (Nat.le_trans H.out.bx (Nat.le_of_lt hxw)) H.out.y0).trans (HB3.out.mono (Nat.le_trans (Nat.le_trans H.out.bx (Nat.le_of_lt hxw)) HK2.out.size))).trans (ho4.below (Nat.le_trans (Nat.le_trans (Nat.le_trans H.out.bx (Nat.le_of_lt hxw)) HK2.out.size) HB3.out.size) fun k hk => by rw [hk]; exact H.out.bx)⟩
  have HC5 : Hid (∀ (n : Nat) (W : World), n ≤ 1 → (fun n W => match n with | 0 => W = W4.drew | 1 => CO W4 lg.base W | _ => ∃ W5, CO W4 lg.base W5 ∧ W = sto W5 xp (.slice (some ⟨W4.heap.size, 0, none⟩) lg.base.length lg.base.length) (.slice Ra p Rc) p) n W → W.cell? ⟨xp, 5, none⟩ = some (.slice Ra lg.R.length Rc)) := Lib.hid (fun n W hn hW => by
    match n, hn, hW with
    | 0, _, h => rw [show W = _ from h]; exact HBK4.out.cell 5 rfl
    | 1, _, h => exact (HBK4.out.below (show CO W4 lg.base W from h).2 HBK4.out.lt).cell 5 rfl
    | n + 2, h, _ => omega)
  have HST : Hid (∀ (W : World), CO W4 lg.base W → Blk W xp 53 (plC q g2 nm most bv (.slice Ra lg.R.length Rc) lg.safe)) := Lib.hid (fun W h => HBK4.out.below h.2 HBK4.out.lt)
  have HCP := Lib.hid (copy_any lg.base (.slice Ba2 lg.base.length Bc2) W4.drew (HLB4.out.b.below (Below.refl _ _).drew) H.out.lgv.lb)
  clear hW4 ho4 hxw y1 z1
  refine wp_region_W [2, 16] (fun n W => match n with | 0 => W = W4.drew | 1 => CO W4 lg.base W | _ => ∃ W5, CO W4 lg.base W5 ∧ W = sto W5 xp (.slice (some ⟨W4.heap.size, 0, none⟩) lg.base.length lg.base.length) (.slice Ra p Rc) p) (by kernel_rfl) (by rfl) ?_ ?_
  · rfl
  refine wpW_take (i := 0) (oi := ?oi23) (v := ?v23) ?hi23 (by kernel_rfl) (by kernel_rfl) (by kernel_rfl) (by rfl) ?hy23 ?rest23
  case hi23 => (simp only [List.getElem?_toArray, List.getElem?_cons_succ, List.getElem?_cons_zero]; rfl)
  case hy23 => (refine Or.inl ⟨by rfl, ?_⟩; intro n W hn hSw; (clear hSw hn); go_simp; (try with_reducible rfl))
  try simp only [Act.put, List.setIfInBounds_toArray, List.set_cons_zero, List.set_cons_succ]
  refine wpW_take (i := 1) (oi := ?oi24) (v := ?v24) ?hi24 (by kernel_rfl) (by kernel_rfl) (by kernel_rfl) (by rfl) ?hy24 ?rest24
  case hi24 => (simp only [List.getElem?_toArray, List.getElem?_cons_succ, List.getElem?_cons_zero]; rfl)
  case hy24 => (refine Or.inl ⟨by rfl, ?_⟩; intro n W hn hSw; (clear hSw hn); go_simp; (try with_reducible rfl))
  try simp only [Act.put, List.setIfInBounds_toArray, List.set_cons_zero, List.set_cons_succ]
  refine wpW_turn 0 (k := 2) (oi := ?oi25) (v := .slice (some ⟨W4.heap.size, 0, none⟩) lg.base.length lg.base.length) (by rfl) ?hi25 (by rfl) (by rfl) (by kernel_rfl) (by kernel_rfl) (by kernel_rfl) (by kernel_rfl) ?hy25 ?rest25
  case hi25 => (simp only [List.getElem?_toArray, List.getElem?_cons_succ, List.getElem?_cons_zero]; rfl)
  case hy25 =>
    refine Or.inl (Or.inr (Or.inr (Or.inl ⟨by rfl, 24, #[.slice Ba2 lg.base.length Bc2], fun W hSw => ?_, fun W hSw => ?_⟩)))
    · (go_simp; (try rfl))
    · rw [show W = W4.drew from hSw]
      exact HCP.out.mono (fun e w' h => ⟨h.1, h.2.1, (Below.refl W4.heap.size W4).drew.trans h.2.2⟩)
  try simp only [Act.put, List.setIfInBounds_toArray, List.set_cons_zero, List.set_cons_succ]
  refine wpW_take (i := 3) (oi := ?oi26) (v := ?v26) ?hi26 (by kernel_rfl) (by kernel_rfl) (by kernel_rfl) (by rfl) ?hy26 ?rest26
  case hi26 => (simp only [List.getElem?_toArray, List.getElem?_cons_succ, List.getElem?_cons_zero]; rfl)
  case hy26 => (refine Or.inl ⟨by rfl, ?_⟩; intro n W hn hSw; (clear hSw hn); go_simp; (try with_reducible rfl))
  try simp only [Act.put, List.setIfInBounds_toArray, List.set_cons_zero, List.set_cons_succ]
  refine wpW_take (i := 4) (oi := ?oi27) (v := ?v27) ?hi27 (by kernel_rfl) (by kernel_rfl) (by kernel_rfl) (by rfl) ?hy27 ?rest27
  case hi27 => (simp only [List.getElem?_toArray, List.getElem?_cons_succ, List.getElem?_cons_zero]; rfl)
  case hy27 => (refine Or.inl ⟨by rfl, ?_⟩; intro n W hn hSw; (clear hSw hn); go_simp; (try with_reducible rfl))
  try simp only [Act.put, List.setIfInBounds_toArray, List.set_cons_zero, List.set_cons_succ]
  refine wpW_take (i := 5) (oi := ?oi28) (v := ?v28) ?hi28 (by kernel_rfl) (by kernel_rfl) (by kernel_rfl) (by rfl) ?hy28 ?rest28
  case hi28 => (simp only [List.getElem?_toArray, List.getElem?_cons_succ, List.getElem?_cons_zero]; rfl)
  case hy28 => (refine Or.inl ⟨by rfl, ?_⟩; intro n W hn hSw; (clear hSw hn); go_simp; (try with_reducible rfl))
  try simp only [Act.put, List.setIfInBounds_toArray, List.set_cons_zero, List.set_cons_succ]
  refine wpW_take (i := 6) (oi := ?oi29) (v := ?v29) ?hi29 (by kernel_rfl) (by kernel_rfl) (by kernel_rfl) (by rfl) ?hy29 ?rest29
  case hi29 => (simp only [List.getElem?_toArray, List.getElem?_cons_succ, List.getElem?_cons_zero]; rfl)
  case hy29 => (refine Or.inl ⟨by rfl, ?_⟩; intro n W hn hSw; (clear hSw hn); go_simp; (try with_reducible rfl))
  try simp only [Act.put, List.setIfInBounds_toArray, List.set_cons_zero, List.set_cons_succ]
  refine wpW_takeB (i := 7) 1 16 (oi := ?oi30) (v := ?v30) ?hi30 (by rfl) (by kernel_rfl) (by rfl) (by kernel_rfl) (by kernel_rfl) (by kernel_rfl) (by rfl) ?hy30 ?rest30
  case hi30 => (simp only [List.getElem?_toArray, List.getElem?_cons_succ, List.getElem?_cons_zero]; rfl)
  case hy30 => (refine ⟨by rfl, ?_⟩; intro n W hn hSw; (have c5 := HC5.out n W hn hSw; clear hSw hn); go_simp; (try with_reducible rfl))
  try simp only [Act.put, List.setIfInBounds_toArray, List.set_cons_zero, List.set_cons_succ]
  refine wpW_take (i := 8) (oi := ?oi31) (v := ?v31) ?hi31 (by kernel_rfl) (by kernel_rfl) (by kernel_rfl) (by rfl) ?hy31 ?rest31
  case hi31 => (simp only [List.getElem?_toArray, List.getElem?_cons_succ, List.getElem?_cons_zero]; rfl)
  case hy31 => (refine Or.inl ⟨by rfl, ?_⟩; intro n W hn hSw; (clear hSw hn); go_simp; (try with_reducible rfl))
  try simp only [Act.put, List.setIfInBounds_toArray, List.set_cons_zero, List.set_cons_succ]
  refine wpW_take (i := 9) (oi := ?oi32) (v := ?v32) ?hi32 (by kernel_rfl) (by kernel_rfl) (by kernel_rfl) (by rfl) ?hy32 ?rest32
  case hi32 => (simp only [List.getElem?_toArray, List.getElem?_cons_succ, List.getElem?_cons_zero]; rfl)
  case hy32 => (refine Or.inl ⟨by rfl, ?_⟩; intro n W hn hSw; (clear hSw hn); go_simp; (try with_reducible rfl))
  try simp only [Act.put, List.setIfInBounds_toArray, List.set_cons_zero, List.set_cons_succ]
  refine wpW_take (i := 10) (oi := ?oi33) (v := ?v33) ?hi33 (by kernel_rfl) (by kernel_rfl) (by kernel_rfl) (by rfl) ?hy33 ?rest33
  case hi33 => (simp only [List.getElem?_toArray, List.getElem?_cons_succ, List.getElem?_cons_zero]; rfl)
  case hy33 => (refine Or.inl ⟨by rfl, ?_⟩; intro n W hn hSw; (clear hSw hn); go_simp; (try with_reducible rfl))
  try simp only [Act.put, List.setIfInBounds_toArray, List.set_cons_zero, List.set_cons_succ]
  refine wpW_take (i := 11) (oi := ?oi34) (v := ?v34) ?hi34 (by kernel_rfl) (by kernel_rfl) (by kernel_rfl) (by rfl) ?hy34 ?rest34
  case hi34 => (simp only [List.getElem?_toArray, List.getElem?_cons_succ, List.getElem?_cons_zero]; rfl)
  case hy34 => (refine Or.inl ⟨by rfl, ?_⟩; intro n W hn hSw; (clear hSw hn); go_simp; (try with_reducible rfl))
  try simp only [Act.put, List.setIfInBounds_toArray, List.set_cons_zero, List.set_cons_succ]
  refine wpW_take (i := 12) (oi := ?oi35) (v := ?v35) ?hi35 (by kernel_rfl) (by kernel_rfl) (by kernel_rfl) (by rfl) ?hy35 ?rest35
  case hi35 => (simp only [List.getElem?_toArray, List.getElem?_cons_succ, List.getElem?_cons_zero]; rfl)
  case hy35 => (refine Or.inl ⟨by rfl, ?_⟩; intro n W hn hSw; (clear hSw hn); go_simp; (try with_reducible rfl))
  try simp only [Act.put, List.setIfInBounds_toArray, List.set_cons_zero, List.set_cons_succ]
  refine wpW_take (i := 13) (oi := ?oi36) (v := ?v36) ?hi36 (by kernel_rfl) (by kernel_rfl) (by kernel_rfl) (by rfl) ?hy36 ?rest36
  case hi36 => (simp only [List.getElem?_toArray, List.getElem?_cons_succ, List.getElem?_cons_zero]; rfl)
  case hy36 => (refine Or.inl ⟨by rfl, ?_⟩; intro n W hn hSw; (clear hSw hn); go_simp; (try with_reducible rfl))
  try simp only [Act.put, List.setIfInBounds_toArray, List.set_cons_zero, List.set_cons_succ]
  refine wpW_take (i := 14) (oi := ?oi37) (v := ?v37) ?hi37 (by kernel_rfl) (by kernel_rfl) (by kernel_rfl) (by rfl) ?hy37 ?rest37
  case hi37 => (simp only [List.getElem?_toArray, List.getElem?_cons_succ, List.getElem?_cons_zero]; rfl)
  case hy37 => (refine Or.inl ⟨by rfl, ?_⟩; intro n W hn hSw; (clear hSw hn); go_simp; (try with_reducible rfl))
  try simp only [Act.put, List.setIfInBounds_toArray, List.set_cons_zero, List.set_cons_succ]
  refine wpW_take (i := 15) (oi := ?oi38) (v := ?v38) ?hi38 (by kernel_rfl) (by kernel_rfl) (by kernel_rfl) (by rfl) ?hy38 ?rest38
  case hi38 => (simp only [List.getElem?_toArray, List.getElem?_cons_succ, List.getElem?_cons_zero]; rfl)
  case hy38 => (refine Or.inl ⟨by rfl, ?_⟩; intro n W hn hSw; (clear hSw hn); go_simp; (try with_reducible rfl))
  try simp only [Act.put, List.setIfInBounds_toArray, List.set_cons_zero, List.set_cons_succ]
  refine wpW_turn 1 (k := 16) (oi := ?oi39) (v := undef) (by rfl) ?hi39 (by rfl) (by rfl) (by kernel_rfl) (by kernel_rfl) (by kernel_rfl) (by kernel_rfl) ?hy39 ?rest39
  case hi39 => (simp only [List.getElem?_toArray, List.getElem?_cons_succ, List.getElem?_cons_zero]; rfl)
  case hy39 =>
    refine Or.inr ⟨by rfl, rfl, fun w' hw' => ⟨((w'.setCell ⟨xp, 4, none⟩ (.slice (some ⟨W4.heap.size, 0, none⟩) lg.base.length lg.base.length)).setCell ⟨xp, 5, none⟩ (.slice Ra p Rc)).setCell ⟨xp, 6, none⟩ (.int .i64 (p : Int)), ?_, w', hw', rfl⟩⟩
    have hb := HST.out w' hw'
    have c4 := hb.cell 4 rfl
    have c5 := hb.cell 5 rfl
    have c6 := hb.cell 6 rfl
    have f4 := hb.frozen 4
    have f5 := hb.frozen 5
    have f6 := hb.frozen 6
    clear hb hw'
    go_simp
    (try rfl)
  try simp only [Act.put, List.setIfInBounds_toArray, List.set_cons_zero, List.set_cons_succ]
  refine wpW_done (by kernel_rfl) (by rfl) ?_ _
  intro W hSw
  obtain ⟨W5, hco, rfl⟩ : ∃ W5, CO W4 lg.base W5 ∧ W = sto W5 xp (.slice (some ⟨W4.heap.size, 0, none⟩) lg.base.length lg.base.length) (.slice Ra p Rc) p := hSw
  have hlx5 := HLX4.out.more hco.2
  rw [HPL.out] at hlx5
  have hfin := PL.store (B0 := B0) (xp := xp) (lg := ⟨lg.base, lg.R.take p, p⟩) (bv := .slice (some ⟨W4.heap.size, 0, none⟩) lg.base.length lg.base.length) (rv := .slice Ra p Rc) hlx5 ⟨hco.1, ((HLO4.out.below hco.2).r.front p H.out.pl rfl).mono (fun k hk => ⟨.inl (.inl (HX.out.sub k hk.1)), hk.2⟩), fun h0 k hk => by
    cases hk
    have h1 := HX4.out.1
    exact ⟨.inr ⟨Nat.le_refl _, rd_blt hco.1 h0⟩, fun e => by
      have e2 : W4.heap.size = xp := e
      omega⟩, H.out.lgv.lb, by rw [HPL.out]; exact hp9⟩ (HST.out W5 hco) (fun j hj => .inl (.inl (HX.out.sub j (H.out.y0 j hj)))) (.inl (.inl (HX.out.sub xp H.out.yx))) H.out.bx (Nat.le_refl _) (HX.out.arm H.out.arm)
  have HFIN : Hid (Below B0 w (sto W5 xp (.slice (some ⟨W4.heap.size, 0, none⟩) lg.base.length lg.base.length) (.slice Ra p Rc) p) ∧ ∃ Yc g' x' bv' rv', PL B0 Yc (sto W5 xp (.slice (some ⟨W4.heap.size, 0, none⟩) lg.base.length lg.base.length) (.slice Ra p Rc) p) xp g' q m nm most x' ⟨lg.base, lg.R.take p, p⟩ bv' rv' p N T rm) := Lib.hid ⟨(HX4.out.2.trans (hco.2.mono (Nat.le_trans (Nat.le_trans H.out.bx (Nat.le_of_lt HX4.out.1)) (Nat.le_refl _)))).trans hfin.2, _, _, _, _, _, hfin.1⟩
  clear hfin hlx5 hco
  generalize sto W5 xp (.slice (some ⟨W4.heap.size, 0, none⟩) lg.base.length lg.base.length) (.slice Ra p Rc) p = W6 at *
  go_wp2_with fail
  go_ret
  exact ⟨rfl, HFIN.out.1, HFIN.out.2⟩
end Go.Proofs.YthofbblgoamipaaGreatDoor.Wa
