/-
  Chapter 12: WalCrashes, plain: what a crash may leave is allowed; a plate whose files all last stays as it is.
-/
import Derived.Test.YthofbblgoamipaaGreatDoorU1
namespace Go.Proofs.YthofbblgoamipaaGreatDoor.Wa
open Go.RowKit Pt
set_option linter.unusedVariables false
set_option linter.unusedSimpArgs false
set_option maxRecDepth 100000

/-- what may be there: of the log, or of the checkpoint that was cut off -/
def Ok (lg cut : Lg) (is : Bool) (base : By) (R : List By) : Prop := alw lg base R = true ∨ is = true ∧ alw cut base R = true
/-- a disk whose power may go out -/
def EX (nm : By) (fs : List Fl) (lg cut : Lg) (is : Bool) (N : Nat) : Prop :=
  (∃ R k, LD nm fs lg.base R k N ∧ lg.safe ≤ k ∧ R.length ≤ lg.R.length ∧ R = lg.R.take R.length) ∨
  (is = true ∧ cut.R = [] ∧ cut.safe = 0 ∧ ∃ k, CD nm fs lg.base lg.R k cut.base N ∧ lg.safe ≤ k)
theorem EX.crash {nm : By} {fs : List Fl} {lg cut : Lg} {is : Bool} {N : Nat} (h : EX nm fs lg cut is N) (ha : Asc fs) (hs : ∀ f ∈ fs, f.s ≤ f.b.length) (g : Nat → Int) :
    ∃ base R, Disk nm (cr fs g) base R N ∧ AllS (cr fs g) ∧ Ok lg cut is base R := by
  rcases h with ⟨R, k, h1, h2, h3, h4⟩ | ⟨h0, hc1, hc2, k, h1, h2⟩
  · obtain ⟨m, h5, h6, _, h7, h8⟩ := ld_crash h1 ha hs g
    refine ⟨lg.base, R.take m, h7, h8, .inl ?_⟩
    have e : R.take m = lg.R.take m := by rw [h4, List.take_take, Nat.min_eq_left h6]
    rw [e]
    exact alw_ok lg m (by omega) (by omega)
  · obtain ⟨h5, h6⟩ := cd_crash h1 ha hs g
    rcases h5 with ⟨m, h7, h8, h9⟩ | h9
    · exact ⟨lg.base, lg.R.take m, h9, h6, .inl (alw_ok lg m (by omega) h8)⟩
    · refine ⟨cut.base, [], h9, h6, .inr ⟨h0, ?_⟩⟩
      have := alw_ok cut 0 (by omega) (Nat.zero_le _)
      rwa [List.take_zero] at this
theorem Disk.full {nm : By} {fs : List Fl} {base : By} {R : List By} {N : Nat} (h : Disk nm fs base R N) : ∀ f ∈ fs, f.b ≠ [] := by
  obtain ⟨a, old, pre, f, jk, h⟩ := h
  intro g hg
  obtain ⟨f', hf, rfl⟩ := (h.hh.mem g).1 hg
  exact (h.hh.ok f' hf).ne
/-- where all lasts, a crash changes nothing -/
theorem Disk.still {nm : By} {fs : List Fl} {base : By} {R : List By} {N : Nat} (h : Disk nm fs base R N) (ha : AllS fs) (g : Nat → Int) : cr fs g = fs := cr_still ha h.full g
end Go.Proofs.YthofbblgoamipaaGreatDoor.Wa
/- Chapter 12: WalCrashes: a dead log's answers; the law's states: while the power is on, and behind. -/
namespace Go.Proofs.YthofbblgoamipaaGreatDoor.Wa
open Go.RowKit Pt
set_option linter.unusedVariables false
set_option linter.unusedSimpArgs false
set_option maxRecDepth 100000

theorem add_dead (g q : Nat) (nm : By) (most : Nat) (x : Wl) (a : Option Addr) (c : Nat) (w : World) (hb : Blk w g 64 (wlC q nm most x)) (hd : x.dead = true) :
    Calls Tryz.prog 12 #[.pointer (some ⟨g, 0, none⟩), .slice a 0 c] w fun e w' => e = .returned (.int .i64 9) ∧ w' = w := by
  have c6 := hb.cell 6 rfl
  rw [hd] at c6
  clear hb hd
  go_enter Tryz.func12, Tryz.ntmps12
  go_wp2_with fail
  go_ret
  exact ⟨rfl, rfl⟩
theorem sync_dead (g q : Nat) (nm : By) (most : Nat) (x : Wl) (w : World) (hb : Blk w g 64 (wlC q nm most x)) (hd : x.dead = true) :
    Calls Tryz.prog 13 #[.pointer (some ⟨g, 0, none⟩)] w fun e w' => e = .returned (.int .i64 9) ∧ w' = w := by
  have c6 := hb.cell 6 rfl
  rw [hd] at c6
  clear hb hd
  go_enter Tryz.func13, Tryz.ntmps13
  go_wp2_with fail
  go_ret
  exact ⟨rfl, rfl⟩
/-- while the power is on: the log at play (its plate may be armed), the cell of the checkpoint that is cut off -/
structure UL (B0 : Nat) (Y : Nat → Prop) (W : World) (xp cx g q m : Nat) (nm : By) (most : Nat) (x : Wl) (lg : Lg) (bv rv : Value) (k N T rm : Nat) : Prop where
  lx : LX Y W g q m nm most x lg.base lg.R k N T rm
  lgv : LgV (fun j => Y j ∧ j ≠ xp ∧ j ≠ cx) W lg bv rv
  blk : Blk W xp 53 (plC q g nm most bv rv lg.safe)
  cut : Blk W cx 51 [.slice none 0 0, .slice none 0 0, .int .i64 0]
  y0 : ∀ j, j < B0 → Y j
  yx : Y xp
  yc : Y cx
  nc : cx ≠ xp
  bx : B0 ≤ xp
  bc : B0 ≤ cx
  sf : lg.safe ≤ k
/-- behind: the plate is down -/
structure DN (B0 : Nat) (Y : Nat → Prop) (W : World) (xp cx g q m : Nat) (nm : By) (most : Nat) (st : St) (lg cut : Lg) (is : Bool) (bv rv cv dv : Value) (N T rm : Nat) : Prop where
  pa : PY Y W q m st
  down : st.down = true
  tt : tot st.fs ≤ T
  rm : st.room = rm
  ex : EX nm st.fs lg cut is N
  lgv : LgV (fun j => Y j ∧ j ≠ xp ∧ j ≠ cx) W lg bv rv
  cgv : LgV (fun j => Y j ∧ j ≠ xp ∧ j ≠ cx) W cut cv dv
  blk : Blk W xp 53 (plC q g nm most bv rv lg.safe)
  cut : Blk W cx 51 [cv, dv, .int .i64 (cut.safe : Int)]
  y0 : ∀ j, j < B0 → Y j
  yx : Y xp
  yc : Y cx
  nc : cx ≠ xp
  bx : B0 ≤ xp
  bc : B0 ≤ cx
/-- while the power is on, too, a crash leaves what is allowed -/
theorem LX.ex {Y : Nat → Prop} {W : World} {g q m : Nat} {nm : By} {most : Nat} {x : Wl} {lg : Lg} {k N T rm : Nat} (h : LX Y W g q m nm most x lg.base lg.R k N T rm) (hs : lg.safe ≤ k) (cut : Lg) (is : Bool) : EX nm x.st.fs lg cut is N :=
  .inl ⟨lg.R, k, h.lv.disk, hs, Nat.le_refl _, by rw [List.take_length]⟩
/-- both, where the loop has ended: a plate whose power may go out -/
structure EN (B0 : Nat) (Y : Nat → Prop) (W : World) (xp cx g q m : Nat) (nm : By) (most : Nat) (st : St) (lg cut : Lg) (is : Bool) (bv rv cv dv : Value) (N T rm : Nat) : Prop where
  pa : PY Y W q m st
  tt : tot st.fs ≤ T
  rm : st.room = rm
  ex : EX nm st.fs lg cut is N
  lgv : LgV (fun j => Y j ∧ j ≠ xp ∧ j ≠ cx) W lg bv rv
  cgv : LgV (fun j => Y j ∧ j ≠ xp ∧ j ≠ cx) W cut cv dv
  blk : Blk W xp 53 (plC q g nm most bv rv lg.safe)
  cut : Blk W cx 51 [cv, dv, .int .i64 (cut.safe : Int)]
  y0 : ∀ j, j < B0 → Y j
  yx : Y xp
  yc : Y cx
theorem DN.en {B0 : Nat} {Y : Nat → Prop} {W : World} {xp cx g q m : Nat} {nm : By} {most : Nat} {st : St} {lg cut : Lg} {is : Bool} {bv rv cv dv : Value} {N T rm : Nat} (h : DN B0 Y W xp cx g q m nm most st lg cut is bv rv cv dv N T rm) : EN B0 Y W xp cx g q m nm most st lg cut is bv rv cv dv N T rm :=
  ⟨h.pa, h.tt, h.rm, h.ex, h.lgv, h.cgv, h.blk, h.cut, h.y0, h.yx, h.yc⟩
theorem UL.en {B0 : Nat} {Y : Nat → Prop} {W : World} {xp cx g q m : Nat} {nm : By} {most : Nat} {x : Wl} {lg : Lg} {bv rv : Value} {k N T rm : Nat} (h : UL B0 Y W xp cx g q m nm most x lg bv rv k N T rm) (is : Bool) : EN B0 Y W xp cx g q m nm most x.st lg ⟨[], [], 0⟩ is bv rv (.slice none 0 0) (.slice none 0 0) N T rm :=
  ⟨h.lx.wa.py, h.lx.tt, h.lx.rm, h.lx.ex h.sf _ _, h.lgv, ⟨Rd.nil _ _, RdB.nil _ _ none 0, fun h0 => absurd h0 (by simp), by simp, by simp⟩, h.blk, h.cut, h.y0, h.yx, h.yc⟩
end Go.Proofs.YthofbblgoamipaaGreatDoor.Wa
/- Chapter 12: WalCrashes: the plate is armed; the loop's beginning. -/
namespace Go.Proofs.YthofbblgoamipaaGreatDoor.Wa
open Go.RowKit Pt
set_option linter.unusedVariables false
set_option linter.unusedSimpArgs false
set_option maxRecDepth 100000

theorem arm_lx {Y : Nat → Prop} {g q m : Nat} {nm : By} {most : Nat} {x : Wl} {base : By} {R : List By} {k N T rm : Nat} (n : Nat) (w : World) (h : LX Y w g q m nm most x base R k N T rm) (hn : n ≤ 1000) :
    Calls Tryz.prog 20 #[.pointer (some ⟨q, 0, none⟩), .int .i64 (n : Int)] w fun e w' => e = .returned (.tuple #[]) ∧ Kp Y w w' ∧ LX Y w' g q m nm most { x with st := arm x.st (n : Int) } base R k N T rm := by
  refine (arm_py q m x.st (n : Int) w h.wa.pa (by omega)).mono ?_
  rintro e w' ⟨rfl, h1, h2⟩
  obtain ⟨h3, h4⟩ := h.wa.plate (x' := { x with st := arm x.st (n : Int) }) h1 h2 rfl
  have hfs : (arm x.st (n : Int)).fs = x.st.fs := by unfold arm; split <;> rfl
  have hdn : (arm x.st (n : Int)).down = x.st.down := by unfold arm; split <;> rfl
  have hrm : (arm x.st (n : Int)).room = x.st.room := by unfold arm; split <;> rfl
  refine ⟨rfl, h4, h3, ⟨?_, h.lv.count, h.lv.dead, hdn.trans h.lv.down⟩, ?_, hrm.trans h.rm⟩
  · show ∃ a pre f i, LDs nm (arm x.st (n : Int)).fs base R k N a pre f i ∧ x.no = f.n ∧ x.size = f.b.length
    rw [hfs]; exact h.lv.ld
  · show tot (arm x.st (n : Int)).fs ≤ T
    rw [hfs]; exact h.tt
/-- the cell of the cut checkpoint is laid -/
theorem UL.start {B0 : Nat} {Y : Nat → Prop} {W : World} {xp g q m : Nat} {nm : By} {most : Nat} {x : Wl} {lg : Lg} {bv rv : Value} {k N T rm : Nat} (hx : LX Y W g q m nm most x lg.base lg.R k N T rm) (hg : LgV (fun j => Y j ∧ j ≠ xp) W lg bv rv) (hb : Blk W xp 53 (plC q g nm most bv rv lg.safe))
    (y0 : ∀ j, j < B0 → Y j) (yx : Y xp) (bx : B0 ≤ xp) (sf : lg.safe ≤ k) {cs : Array Value} (hcs : cs = #[.slice none 0 0, .slice none 0 0, .int .i64 0]) :
    UL B0 (fun j => Y j ∨ (W.heap.size ≤ j ∧ j < (W.alloc (.cells cs 51)).heap.size)) (W.alloc (.cells cs 51)) xp W.heap.size g q m nm most x lg bv rv k N T rm := by
  have ha : Below W.heap.size W (W.alloc (.cells cs 51)) := (Below.refl _ _).alloc (Nat.le_refl _) _
  have hlt := hb.lt
  have hbl : Blk (W.alloc (.cells cs 51)) W.heap.size 51 [.slice none 0 0, .slice none 0 0, .int .i64 0] := by rw [hcs]; exact Blk.new W 51 _
  exact ⟨hx.more ha, (hg.below ha).mono fun j hj => ⟨.inl hj.1, hj.2, fun e => by have := hx.wa.ys j hj.1; omega⟩, hb.below ha hlt, hbl, fun j hj => .inl (y0 j hj), .inl yx, .inr ⟨Nat.le_refl _, hbl.lt⟩, by omega, bx, by omega, sf⟩
end Go.Proofs.YthofbblgoamipaaGreatDoor.Wa
