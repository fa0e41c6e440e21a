/-
  Chapter 12: WalCrashes: behind the loop: crashes and openings.
-/
import Derived.Test.YthofbblgoamipaaGreatDoorU2
namespace Go.Proofs.YthofbblgoamipaaGreatDoor.Wa
open Go.RowKit Pt
set_option linter.unusedVariables false
set_option linter.unusedSimpArgs false
set_option maxRecDepth 100000

theorem cell_alike {W W' : World} {b j : Nat} (h : W'.heap[b]? = W.heap[b]?) : W'.cell? ⟨b, j, none⟩ = W.cell? ⟨b, j, none⟩ := by simp only [World.cell?, h]
/-- what the plate's calls leave as it is -/
structure FR (B0 : Nat) (Y : Nat → Prop) (W : World) (xp cx g q : Nat) (nm : By) (most : Nat) (lg cut : Lg) (bv rv cv dv : Value) : Prop where
  lgv : LgV (fun j => Y j ∧ j ≠ xp ∧ j ≠ cx) W lg bv rv
  cgv : LgV (fun j => Y j ∧ j ≠ xp ∧ j ≠ cx) W cut cv dv
  blk : Blk W xp 53 (plC q g nm most bv rv lg.safe)
  cut : Blk W cx 51 [cv, dv, .int .i64 (cut.safe : Int)]
  y0 : ∀ j, j < B0 → Y j
  yx : Y xp
  yc : Y cx
theorem FR.keep {B0 : Nat} {Y : Nat → Prop} {W W' : World} {xp cx g q : Nat} {nm : By} {most : Nat} {lg cut : Lg} {bv rv cv dv : Value} (h : FR B0 Y W xp cx g q nm most lg cut bv rv cv dv) (hy : ∀ j, Y j → j < W.heap.size) (hk : Kp Y W W') : FR B0 Y W' xp cx g q nm most lg cut bv rv cv dv :=
  ⟨h.lgv.keep fun j hj => hk.block (hy j hj.1) hj.1, h.cgv.keep fun j hj => hk.block (hy j hj.1) hj.1, (hk.block h.blk.lt h.yx).trans h.blk, (hk.block h.cut.lt h.yc).trans h.cut, h.y0, h.yx, h.yc⟩
theorem FR.mono {B0 : Nat} {Y Yc : Nat → Prop} {W : World} {xp cx g q : Nat} {nm : By} {most : Nat} {lg cut : Lg} {bv rv cv dv : Value} (h : FR B0 Y W xp cx g q nm most lg cut bv rv cv dv) (hs : ∀ j, Y j → Yc j) : FR B0 Yc W xp cx g q nm most lg cut bv rv cv dv :=
  ⟨h.lgv.mono fun j hj => ⟨hs j hj.1, hj.2⟩, h.cgv.mono fun j hj => ⟨hs j hj.1, hj.2⟩, h.blk, h.cut, fun j hj => hs j (h.y0 j hj), hs _ h.yx, hs _ h.yc⟩
/-- a plate whose power may go out -/
structure EM (B0 : Nat) (Y : Nat → Prop) (W : World) (xp cx g q m : Nat) (nm : By) (most : Nat) (st : St) (lg cut : Lg) (is : Bool) (bv rv cv dv : Value) (N T rm : Nat) : Prop where
  fr : FR B0 Y W xp cx g q nm most lg cut bv rv cv dv
  pa : PY Y W q m st
  tt : tot st.fs ≤ T
  rm : st.room = rm
  ex : ∀ f : Nat → Int, ∃ base R, Disk nm (cr st.fs f) base R N ∧ AllS (cr st.fs f) ∧ Ok lg cut is base R
theorem EN.em {B0 : Nat} {Y : Nat → Prop} {W : World} {xp cx g q m : Nat} {nm : By} {most : Nat} {st : St} {lg cut : Lg} {is : Bool} {bv rv cv dv : Value} {N T rm : Nat} (h : EN B0 Y W xp cx g q m nm most st lg cut is bv rv cv dv N T rm) : EM B0 Y W xp cx g q m nm most st lg cut is bv rv cv dv N T rm :=
  ⟨⟨h.lgv, h.cgv, h.blk, h.cut, h.y0, h.yx, h.yc⟩, h.pa, h.tt, h.rm, fun f => h.ex.crash h.pa.fit.asc (fun x hx => (h.pa.fit.file x hx).2.1) f⟩
/-- behind a crash -/
structure CR (B0 : Nat) (Y : Nat → Prop) (W : World) (xp cx g q m : Nat) (nm : By) (most : Nat) (st : St) (lg cut : Lg) (is : Bool) (bv rv cv dv : Value) (base : By) (R : List By) (N T rm : Nat) : Prop where
  fr : FR B0 Y W xp cx g q nm most lg cut bv rv cv dv
  cx : CX Y W q m nm st base R N T rm
  ok : Ok lg cut is base R
theorem CR.len {B0 : Nat} {Y : Nat → Prop} {W : World} {xp cx g q m : Nat} {nm : By} {most : Nat} {st : St} {lg cut : Lg} {is : Bool} {bv rv cv dv : Value} {base : By} {R : List By} {N T rm : Nat} (h : CR B0 Y W xp cx g q m nm most st lg cut is bv rv cv dv base R N T rm) : R.length ≤ 1000000 := by
  have h1 := h.fr.lgv.lr
  have h2 := h.fr.cgv.lr
  rcases h.ok with h3 | ⟨_, h3⟩
  · unfold alw at h3
    simp only [Bool.and_eq_true, decide_eq_true_eq] at h3
    omega
  · unfold alw at h3
    simp only [Bool.and_eq_true, decide_eq_true_eq] at h3
    omega
theorem crash_em {B0 : Nat} {Y : Nat → Prop} {xp cx g q m : Nat} {nm : By} {most : Nat} {st : St} {lg cut : Lg} {is : Bool} {bv rv cv dv : Value} {N T rm : Nat} (kv : Value) (ks : List Int) (w : World) (h : EM B0 Y w xp cx g q m nm most st lg cut is bv rv cv dv N T rm) (hk : Rd w 1 kv ks.length (ks.map fun j => Value.int .i64 j)) (hkb : 0 < ks.length → ∀ b, kv.ownBlock = some b → Y b) :
    Calls Tryz.prog 25 #[.pointer (some ⟨q, 0, none⟩), kv] w fun e w' => e = .returned (.tuple #[]) ∧ Kp Y w w' ∧ ∃ st' base R, CR B0 Y w' xp cx g q m nm most st' lg cut is bv rv cv dv base R N T rm := by
  refine (crash_py q m st kv ks w h.pa hk hkb).mono ?_
  rintro e w' ⟨rfl, h1, h2⟩
  obtain ⟨base, R, h3, h4, h5⟩ := h.ex (kg ks)
  exact ⟨rfl, h2, crash st ks, base, R, h.fr.keep h.pa.ys h2, ⟨h1, h3, h4, Nat.le_trans (tot_cr _ _) h.tt, h.rm, rfl, rfl⟩, h5⟩
/-- armed once more -/
structure AR (B0 : Nat) (Y : Nat → Prop) (W : World) (xp cx g q m : Nat) (nm : By) (most : Nat) (st : St) (lg cut : Lg) (is : Bool) (bv rv cv dv : Value) (base : By) (R : List By) (N T rm : Nat) : Prop where
  fr : FR B0 Y W xp cx g q nm most lg cut bv rv cv dv
  pa : PY Y W q m st
  dk : Disk nm st.fs base R N
  all : AllS st.fs
  tt : tot st.fs ≤ T
  rm : st.room = rm
  down : st.down = false
  ok : Ok lg cut is base R
  len : R.length ≤ 1000000
theorem arm_cr {B0 : Nat} {Y : Nat → Prop} {xp cx g q m : Nat} {nm : By} {most : Nat} {st : St} {lg cut : Lg} {is : Bool} {bv rv cv dv : Value} {base : By} {R : List By} {N T rm : Nat} (n : Nat) (w : World) (h : CR B0 Y w xp cx g q m nm most st lg cut is bv rv cv dv base R N T rm) (hn : n ≤ 1000) :
    Calls Tryz.prog 20 #[.pointer (some ⟨q, 0, none⟩), .int .i64 (n : Int)] w fun e w' => e = .returned (.tuple #[]) ∧ Kp Y w w' ∧ ∃ st', AR B0 Y w' xp cx g q m nm most st' lg cut is bv rv cv dv base R N T rm := by
  refine (arm_py q m st (n : Int) w h.cx.pa (by omega)).mono ?_
  rintro e w' ⟨rfl, h1, h2⟩
  have hfs : (arm st (n : Int)).fs = st.fs := by unfold arm; split <;> rfl
  have hdn : (arm st (n : Int)).down = st.down := by unfold arm; split <;> rfl
  have hrm : (arm st (n : Int)).room = st.room := by unfold arm; split <;> rfl
  exact ⟨rfl, h2, _, h.fr.keep h.cx.pa.ys h2, h1, by rw [hfs]; exact h.cx.dk, by rw [hfs]; exact h.cx.all, by rw [hfs]; exact h.cx.tt, hrm.trans h.cx.rm, hdn.trans h.cx.down, h.ok, h.len⟩
theorem open_ar {B0 : Nat} {Y : Nat → Prop} {xp cx g q m : Nat} {nm : By} {most : Nat} {st : St} {lg cut : Lg} {is : Bool} {bv rv cv dv : Value} {base : By} {R : List By} {N T rm : Nat} (w : World) (h : AR B0 Y w xp cx g q m nm most st lg cut is bv rv cv dv base R N T rm) (hn1 : 1 ≤ nm.length) (hn : nm.length ≤ 32) (hm1 : 1 ≤ most) (hm : most ≤ 1048576) (hN : N ≤ 99) :
    Calls Tryz.prog 11 #[.pointer (some ⟨q, 0, none⟩), .string ⟨nm.toArray⟩, .int .i64 (most : Int)] w fun e w' => (∃ a b c d, e = .returned (.tuple #[a, b, c, d])) ∧ Kp Y w w' ∧ ∃ Yc st', (∀ j, Y j → Yc j) ∧ EM B0 Yc w' xp cx g q m nm most st' lg cut is bv rv cv dv N T rm := by
  refine (open_lx w h.pa hn1 hn hm1 hm h.down h.dk hN h.tt h.rm h.len).mono ?_
  rintro e w' ⟨h1, h2⟩
  rcases h2 with ⟨g2, bv2, rv2, x2, Yc, rfl, hx⟩ | ⟨_, rfl, st2, h3, h4, h5, h6, h7, h8⟩
  · refine ⟨⟨_, _, _, _, rfl⟩, h1, Yc, x2.st, hx.sub, (h.fr.keep h.pa.ys h1).mono hx.sub, hx.lx.wa.py, hx.lx.tt, hx.lx.rm, fun f => ?_⟩
    obtain ⟨m', h9, h10, _, h11, h12⟩ := ld_crash hx.lx.lv.disk hx.lx.wa.py.fit.asc (fun y hy => (hx.lx.wa.py.fit.file y hy).2.1) f
    rw [show m' = R.length from by omega, List.take_length] at h11
    exact ⟨base, R, h11, h12, h.ok⟩
  · refine ⟨⟨_, _, _, _, rfl⟩, h1, Y, st2, fun _ h => h, h.fr.keep h.pa.ys h1, h3, h6, h7, fun f => ?_⟩
    rw [h5.still (h8 h.all) f]
    exact ⟨base, R, h5, h8 h.all, h.ok⟩
/-- opened where the power stays on -/
structure OR (B0 : Nat) (Y : Nat → Prop) (W : World) (xp cx g0 q m : Nat) (nm : By) (most : Nat) (lg cut : Lg) (is : Bool) (bv rv cv dv : Value) (base : By) (R : List By) (N T rm : Nat) (g : Nat) (x : Wl) (bv2 rv2 : Value) : Prop where
  fr : FR B0 Y W xp cx g0 q nm most lg cut bv rv cv dv
  lx : LX Y W g q m nm most x base R R.length N T rm
  gv : LgV Y W ⟨base, R, R.length⟩ bv2 rv2
  ok : Ok lg cut is base R
theorem open_cr {B0 : Nat} {Y : Nat → Prop} {xp cx g q m : Nat} {nm : By} {most : Nat} {st : St} {lg cut : Lg} {is : Bool} {bv rv cv dv : Value} {base : By} {R : List By} {N T rm : Nat} (w : World) (h : CR B0 Y w xp cx g q m nm most st lg cut is bv rv cv dv base R N T rm) (hn1 : 1 ≤ nm.length) (hn : nm.length ≤ 32) (hm1 : 1 ≤ most) (hm : most ≤ 1048576) (hN : N ≤ 99) :
    Calls Tryz.prog 11 #[.pointer (some ⟨q, 0, none⟩), .string ⟨nm.toArray⟩, .int .i64 (most : Int)] w fun e w' => Kp Y w w' ∧ ∃ g2 bv2 rv2 x2 Yc, e = .returned (.tuple #[.pointer (some ⟨g2, 0, none⟩), bv2, rv2, .int .i64 0]) ∧ (∀ j, Y j → Yc j) ∧ OR B0 Yc w' xp cx g q m nm most lg cut is bv rv cv dv base R N T rm g2 x2 bv2 rv2 := by
  refine (open_cx w h.cx hn1 hn hm1 hm hN h.len).mono ?_
  rintro e w' ⟨h1, g2, bv2, rv2, x2, Yc, rfl, hx⟩
  exact ⟨h1, g2, bv2, rv2, x2, Yc, rfl, hx.sub, (h.fr.keep h.cx.pa.ys h1).mono hx.sub, hx.lx, hx.lg.mono fun _ hj => hj.1, h.ok⟩
/-- the last crash, the last opening -/
theorem crash_or {B0 : Nat} {Y : Nat → Prop} {xp cx g0 q m : Nat} {nm : By} {most : Nat} {lg cut : Lg} {is : Bool} {bv rv cv dv : Value} {base : By} {R : List By} {N T rm g : Nat} {x : Wl} {bv2 rv2 : Value} (w : World) (h : OR B0 Y w xp cx g0 q m nm most lg cut is bv rv cv dv base R N T rm g x bv2 rv2) :
    Calls Tryz.prog 25 #[.pointer (some ⟨q, 0, none⟩), .slice none 0 0] w fun e w' => e = .returned (.tuple #[]) ∧ Kp Y w w' ∧ ∃ st', CR B0 Y w' xp cx g0 q m nm most st' lg cut is bv rv cv dv base R N T rm ∧ LgV Y w' ⟨base, R, R.length⟩ bv2 rv2 := by
  refine (crash_lx (.slice none 0 0) [] w h.lx (Rd.nil _ _) (fun h => absurd h (by decide))).mono ?_
  rintro e w' ⟨rfl, h1, st', m', h2, h3, h4, _⟩
  rw [show m' = R.length from by omega, List.take_length] at h2
  exact ⟨rfl, h1, st', ⟨h.fr.keep h.lx.wa.ys h1, h2, h.ok⟩, h.gv.keep fun j hj => h1.block (h.lx.wa.ys j hj) hj⟩
theorem OR.below {B0 : Nat} {Y : Nat → Prop} {W W' : World} {xp cx g0 q m : Nat} {nm : By} {most : Nat} {lg cut : Lg} {is : Bool} {bv rv cv dv : Value} {base : By} {R : List By} {N T rm g : Nat} {x : Wl} {bv2 rv2 : Value} (h : OR B0 Y W xp cx g0 q m nm most lg cut is bv rv cv dv base R N T rm g x bv2 rv2) (hb : Below W.heap.size W W') : OR B0 Y W' xp cx g0 q m nm most lg cut is bv rv cv dv base R N T rm g x bv2 rv2 :=
  ⟨h.fr.keep h.lx.wa.ys (Kp.of_below hb), h.lx.below hb, h.gv.below hb, h.ok⟩
end Go.Proofs.YthofbblgoamipaaGreatDoor.Wa
/- Chapter 12: WalCrashes: a round of the loop: what its calls do, what is stored. -/
namespace Go.Proofs.YthofbblgoamipaaGreatDoor.Wa
open Go.RowKit Pt
set_option linter.unusedVariables false
set_option linter.unusedSimpArgs false
set_option maxRecDepth 100000

/-- what the law holds beside the log: what it has to be, the checkpoint that was cut off -/
structure UP (B0 : Nat) (Y : Nat → Prop) (W : World) (xp cx g q : Nat) (nm : By) (most : Nat) (lg cut : Lg) (bv rv cv dv : Value) : Prop where
  lgv : LgV (fun j => Y j ∧ j ≠ xp ∧ j ≠ cx) W lg bv rv
  cgv : LgV (fun j => Y j ∧ j ≠ xp ∧ j ≠ cx) W cut cv dv
  blk : Blk W xp 53 (plC q g nm most bv rv lg.safe)
  cut : Blk W cx 51 [cv, dv, .int .i64 (cut.safe : Int)]
  y0 : ∀ j, j < B0 → Y j
  yx : Y xp
  yc : Y cx
  nc : cx ≠ xp
  bx : B0 ≤ xp
  bc : B0 ≤ cx
  ys : ∀ j, Y j → j < W.heap.size
theorem lgv_nil (Z : Nat → Prop) (W : World) : LgV Z W ⟨[], [], 0⟩ (.slice none 0 0) (.slice none 0 0) := ⟨Rd.nil _ _, RdB.nil _ _ none 0, fun h0 => absurd h0 (by simp), by simp, by simp⟩
theorem UL.up {B0 : Nat} {Y : Nat → Prop} {W : World} {xp cx g q m : Nat} {nm : By} {most : Nat} {x : Wl} {lg : Lg} {bv rv : Value} {k N T rm : Nat} (h : UL B0 Y W xp cx g q m nm most x lg bv rv k N T rm) : UP B0 Y W xp cx g q nm most lg ⟨[], [], 0⟩ bv rv (.slice none 0 0) (.slice none 0 0) :=
  ⟨h.lgv, lgv_nil _ _, h.blk, h.cut, h.y0, h.yx, h.yc, h.nc, h.bx, h.bc, h.lx.wa.ys⟩
theorem UP.b0 {B0 : Nat} {Y : Nat → Prop} {W : World} {xp cx g q : Nat} {nm : By} {most : Nat} {lg cut : Lg} {bv rv cv dv : Value} (h : UP B0 Y W xp cx g q nm most lg cut bv rv cv dv) : B0 ≤ W.heap.size := Nat.le_of_lt (Nat.lt_of_le_of_lt h.bx h.blk.lt)
theorem UP.keep {B0 : Nat} {Y : Nat → Prop} {W W' : World} {xp cx g q : Nat} {nm : By} {most : Nat} {lg cut : Lg} {bv rv cv dv : Value} (h : UP B0 Y W xp cx g q nm most lg cut bv rv cv dv) (hk : Kp Y W W') : UP B0 Y W' xp cx g q nm most lg cut bv rv cv dv ∧ Below B0 W W' :=
  ⟨⟨h.lgv.keep fun j hj => hk.block (h.ys j hj.1) hj.1, h.cgv.keep fun j hj => hk.block (h.ys j hj.1) hj.1, (hk.block h.blk.lt h.yx).trans h.blk, (hk.block h.cut.lt h.yc).trans h.cut, h.y0, h.yx, h.yc, h.nc, h.bx, h.bc, fun j hj => Nat.lt_of_lt_of_le (h.ys j hj) hk.size⟩, hk.below h.b0 h.y0⟩
theorem UP.more {B0 : Nat} {Y : Nat → Prop} {W W' : World} {xp cx g q : Nat} {nm : By} {most : Nat} {lg cut : Lg} {bv rv cv dv : Value} (h : UP B0 Y W xp cx g q nm most lg cut bv rv cv dv) (hb : Below W.heap.size W W') : UP B0 (fun j => Y j ∨ (W.heap.size ≤ j ∧ j < W'.heap.size)) W' xp cx g q nm most lg cut bv rv cv dv :=
  ⟨(h.lgv.below hb).mono fun j hj => ⟨.inl hj.1, hj.2⟩, (h.cgv.below hb).mono fun j hj => ⟨.inl hj.1, hj.2⟩, h.blk.below hb h.blk.lt, h.cut.below hb h.cut.lt, fun j hj => .inl (h.y0 j hj), .inl h.yx, .inl h.yc, h.nc, h.bx, h.bc, fun j hj => by
    rcases hj with hj | hj
    · exact Nat.lt_of_lt_of_le (h.ys j hj) hb.size
    · exact hj.2⟩
theorem UP.below {B0 : Nat} {Y : Nat → Prop} {W W' : World} {xp cx g q : Nat} {nm : By} {most : Nat} {lg cut : Lg} {bv rv cv dv : Value} (h : UP B0 Y W xp cx g q nm most lg cut bv rv cv dv) (hb : Below W.heap.size W W') : UP B0 Y W' xp cx g q nm most lg cut bv rv cv dv := (h.keep (Kp.of_below hb)).1
theorem UP.ul {B0 : Nat} {Y : Nat → Prop} {W : World} {xp cx g q m : Nat} {nm : By} {most : Nat} {x : Wl} {lg : Lg} {bv rv : Value} {k N T rm : Nat} (h : UP B0 Y W xp cx g q nm most lg ⟨[], [], 0⟩ bv rv (.slice none 0 0) (.slice none 0 0)) (hl : LX Y W g q m nm most x lg.base lg.R k N T rm) (sf : lg.safe ≤ k) : UL B0 Y W xp cx g q m nm most x lg bv rv k N T rm :=
  ⟨hl, h.lgv, h.blk, h.cut, h.y0, h.yx, h.yc, h.nc, h.bx, h.bc, sf⟩
theorem UP.dn {B0 : Nat} {Y : Nat → Prop} {W : World} {xp cx g q m : Nat} {nm : By} {most : Nat} {st : St} {lg cut : Lg} {is : Bool} {bv rv cv dv : Value} {N T rm : Nat} (h : UP B0 Y W xp cx g q nm most lg cut bv rv cv dv) (hp : PY Y W q m st) (hd : st.down = true) (ht : tot st.fs ≤ T) (hr : st.room = rm) (he : EX nm st.fs lg cut is N) : DN B0 Y W xp cx g q m nm most st lg cut is bv rv cv dv N T rm :=
  ⟨hp, hd, ht, hr, he, h.lgv, h.cgv, h.blk, h.cut, h.y0, h.yx, h.yc, h.nc, h.bx, h.bc⟩
/-- what it has to be is written down -/
theorem UP.store {B0 : Nat} {Y : Nat → Prop} {W : World} {xp cx g q : Nat} {nm : By} {most : Nat} {lg lg' cut : Lg} {bv rv bv' rv' cv dv : Value} (h : UP B0 Y W xp cx g q nm most lg cut bv rv cv dv) (hg : LgV (fun j => Y j ∧ j ≠ xp ∧ j ≠ cx) W lg' bv' rv') :
    UP B0 Y (sto W xp bv' rv' lg'.safe) xp cx g q nm most lg' cut bv' rv' cv dv ∧ Below B0 W (sto W xp bv' rv' lg'.safe) := by
  have ho := sto_out W xp bv' rv' lg'.safe
  refine ⟨⟨hg.keep fun j hj => ho.block j (h.ys j hj.1) hj.2.1, h.cgv.keep fun j hj => ho.block j (h.ys j hj.1) hj.2.1, ((h.blk.set 4 bv').set 5 rv').set 6 (.int .i64 (lg'.safe : Int)), (ho.block cx h.cut.lt h.nc).trans h.cut, h.y0, h.yx, h.yc, h.nc, h.bx, h.bc, fun j hj => Nat.lt_of_lt_of_le (h.ys j hj) ho.size⟩, ho.below h.b0 fun j hj => hj ▸ h.bx⟩
def cto (W : World) (cx : Nat) (b r s : Value) : World := ((W.setCell ⟨cx, 0, none⟩ b).setCell ⟨cx, 1, none⟩ r).setCell ⟨cx, 2, none⟩ s
theorem cto_out (W : World) (cx : Nat) (b r s : Value) : Out (fun k => k = cx) W (cto W cx b r s) := (((Out.refl (fun k => k = cx) W).set ⟨cx, 0, none⟩ b rfl).set ⟨cx, 1, none⟩ r rfl).set ⟨cx, 2, none⟩ s rfl
theorem UP.stcut {B0 : Nat} {Y : Nat → Prop} {W : World} {xp cx g q : Nat} {nm : By} {most : Nat} {lg cut cut' : Lg} {bv rv cv dv cv' dv' : Value} (h : UP B0 Y W xp cx g q nm most lg cut bv rv cv dv) (hg : LgV (fun j => Y j ∧ j ≠ xp ∧ j ≠ cx) W cut' cv' dv') :
    UP B0 Y (cto W cx cv' dv' (.int .i64 (cut'.safe : Int))) xp cx g q nm most lg cut' bv rv cv' dv' ∧ Below B0 W (cto W cx cv' dv' (.int .i64 (cut'.safe : Int))) := by
  have ho := cto_out W cx cv' dv' (.int .i64 (cut'.safe : Int))
  refine ⟨⟨h.lgv.keep fun j hj => ho.block j (h.ys j hj.1) hj.2.2, hg.keep fun j hj => ho.block j (h.ys j hj.1) hj.2.2, (ho.block xp h.blk.lt fun e => h.nc e.symm).trans h.blk, ((h.cut.set 0 cv').set 1 dv').set 2 (.int .i64 (cut'.safe : Int)), h.y0, h.yx, h.yc, h.nc, h.bx, h.bc, fun j hj => Nat.lt_of_lt_of_le (h.ys j hj) ho.size⟩, ho.below h.b0 fun j hj => hj ▸ h.bc⟩
/-- a log's call, done or cut off -/
structure DX (Y : Nat → Prop) (W : World) (g q m : Nat) (nm : By) (most : Nat) (x : Wl) (T rm : Nat) : Prop where
  wa : WA Y W g q m nm most x
  dead : x.dead = true
  down : x.st.down = true
  tt : tot x.st.fs ≤ T
  rm : x.st.room = rm
theorem DX.more {Y : Nat → Prop} {W W' : World} {g q m : Nat} {nm : By} {most : Nat} {x : Wl} {T rm : Nat} (h : DX Y W g q m nm most x T rm) (hb : Below W.heap.size W W') : DX (fun k => Y k ∨ (W.heap.size ≤ k ∧ k < W'.heap.size)) W' g q m nm most x T rm := ⟨h.wa.more hb, h.dead, h.down, h.tt, h.rm⟩
theorem DX.below {Y : Nat → Prop} {W W' : World} {g q m : Nat} {nm : By} {most : Nat} {x : Wl} {T rm : Nat} (h : DX Y W g q m nm most x T rm) (hb : Below W.heap.size W W') : DX Y W' g q m nm most x T rm := ⟨h.wa.below hb, h.dead, h.down, h.tt, h.rm⟩
theorem DX.other {Y F : Nat → Prop} {W W' : World} {g q m : Nat} {nm : By} {most : Nat} {x : Wl} {T rm : Nat} (h : DX Y W g q m nm most x T rm) (ho : Out F W W') (hF : ∀ k, F k → Y k) : DX Y W' g q m nm most x T rm := ⟨h.wa.other ho hF, h.dead, h.down, h.tt, h.rm⟩
theorem add_ul {Y : Nat → Prop} {g q m : Nat} {nm : By} {most : Nat} {x : Wl} {base : By} {R : List By} {k N T rm : Nat} (b : By) (bv : Value) (w : World) (h : LX Y w g q m nm most x base R k N T rm) (hn : nm.length ≤ 32) (hN : N < 99) (hb : b.length ≤ 60000)
    (hrd : Rd w 1 bv b.length (Lib.byteCells b)) (hbY : 0 < b.length → ∀ k, bv.ownBlock = some k → Y k) (hm : most ≤ 1000000000) (hR : R.length ≤ 1000000) (hT : T + b.length + 24 ≤ rm) :
    Calls Tryz.prog 12 #[.pointer (some ⟨g, 0, none⟩), bv] w fun e w' => Kp Y w w' ∧ ∃ (r : Nat) (x' : Wl), e = .returned (.int .i64 (r : Int)) ∧ ((r = 0 ∧ ∃ k', LX Y w' g q m nm most x' base (R ++ [b]) k' (N + 1) (T + b.length + 24) rm ∧ k ≤ k') ∨ (r = 9 ∧ DX Y w' g q m nm most x' (T + b.length + 24) rm ∧ ∃ k', LD nm x'.st.fs base R k' (N + 1) ∧ k ≤ k')) := by
  refine (add_lx b bv w h hn hN hb hrd hbY hm hR hT).mono ?_
  rintro e w' ⟨h1, r, rfl, h2, h3, h4, h5, h6⟩
  refine ⟨h1, r.1, r.2, rfl, ?_⟩
  rcases h6 with ⟨h6, k', h7, h8, h9⟩ | ⟨h6, h7, h8, _, h9⟩
  · exact .inl ⟨h6, k', ⟨h2, h7, h3, h4⟩, h8⟩
  · exact .inr ⟨h6, ⟨h2, h8, h7, h3, h4⟩, h9⟩
theorem sync_ul {Y : Nat → Prop} {g q m : Nat} {nm : By} {most : Nat} {x : Wl} {base : By} {R : List By} {k N T rm : Nat} (w : World) (h : LX Y w g q m nm most x base R k N T rm) (hn : nm.length ≤ 32) (hN : N ≤ 99) :
    Calls Tryz.prog 13 #[.pointer (some ⟨g, 0, none⟩)] w fun e w' => Kp Y w w' ∧ ∃ (r : Nat) (x' : Wl), e = .returned (.int .i64 (r : Int)) ∧ ((r = 0 ∧ LX Y w' g q m nm most x' base R R.length N T rm) ∨ (r = 9 ∧ DX Y w' g q m nm most x' T rm ∧ LD nm x'.st.fs base R k N)) := by
  refine (sync_lx w h hn hN).mono ?_
  rintro e w' ⟨h1, r, rfl, h2, h3, h4, h5, h6⟩
  refine ⟨h1, r.1, r.2, rfl, ?_⟩
  rcases h6 with ⟨h6, h7⟩ | ⟨h6, h7, h8, _, h9⟩
  · exact .inl ⟨h6, ⟨h2, h7, h3, h4⟩⟩
  · exact .inr ⟨h6, ⟨h2, h8, h7, h3, h4⟩, h9⟩
theorem chk_ul {Y : Nat → Prop} {g q m : Nat} {nm : By} {most : Nat} {x : Wl} {base : By} {R : List By} {k N T rm : Nat} (b : By) (bv : Value) (w : World) (h : LX Y w g q m nm most x base R k N T rm) (hn : nm.length ≤ 32) (hN : N < 99) (hb : b.length ≤ 60000)
    (hrd : Rd w 1 bv b.length (Lib.byteCells b)) (hT : T + b.length + 12 ≤ rm) :
    Calls Tryz.prog 14 #[.pointer (some ⟨g, 0, none⟩), bv] w fun e w' => Kp Y w w' ∧ ∃ (r : Nat) (x' : Wl), e = .returned (.int .i64 (r : Int)) ∧ ((r = 0 ∧ LX Y w' g q m nm most x' b [] 0 (N + 1) (T + b.length + 12) rm) ∨ (r = 9 ∧ DX Y w' g q m nm most x' (T + b.length + 12) rm ∧ (LD nm x'.st.fs base R k (N + 1) ∨ CD nm x'.st.fs base R k b (N + 1)))) := by
  refine (chk_lx b bv w h hn hN hb hrd hT).mono ?_
  rintro e w' ⟨h1, r, rfl, h2, h3, h4, h5, h6⟩
  refine ⟨h1, r.1, r.2, rfl, ?_⟩
  rcases h6 with ⟨h6, h7⟩ | ⟨h6, h7, h8, _, h9⟩
  · exact .inl ⟨h6, ⟨h2, h7, h3, h4⟩⟩
  · exact .inr ⟨h6, ⟨h2, h8, h7, h3, h4⟩, h9⟩
/-- what a power cut in an Append, a Sync, a Checkpoint leaves -/
theorem ex_ld {nm : By} {fs : List Fl} {lg lg' cut : Lg} {k N M : Nat} (h : LD nm fs lg.base lg.R k N) (hs : lg.safe ≤ k) (hM : N ≤ M) (hb : lg'.base = lg.base) (hsf : lg'.safe = lg.safe) (hR : lg.R = lg'.R.take lg.R.length) (hl : lg.R.length ≤ lg'.R.length) (is : Bool) : EX nm fs lg' cut is M :=
  .inl ⟨lg.R, k, by rw [hb]; exact h.up hM, by omega, hl, hR⟩
theorem ex_cd {nm : By} {fs : List Fl} {lg : Lg} {b : By} {k N M : Nat} (h : LD nm fs lg.base lg.R k N ∨ CD nm fs lg.base lg.R k b N) (hs : lg.safe ≤ k) (hM : N = M) : EX nm fs lg ⟨b, [], 0⟩ true M := by
  subst hM
  rcases h with h | h
  · exact ex_ld h hs (Nat.le_refl _) rfl rfl (by rw [List.take_length]) (Nat.le_refl _) true
  · exact .inr ⟨rfl, rfl, rfl, k, h, hs⟩
end Go.Proofs.YthofbblgoamipaaGreatDoor.Wa
