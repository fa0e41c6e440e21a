/-
  Chapter 4: the iterator 'pieces': it hands over what isn't empty between a text's &, in its order.
-/
import Derived.Test.YtemlggemomiaeaaFd
import Derived.Test.YtemlggemomiaeaaCut
import Derived.Test.YtemlggemomiaeaaRf
import Derived.BigGuardIn
namespace Go.Proofs.Ytemlggemomiaeaa
open Go.RowKit Go.Shelf

theorem split_before (l : List UInt8) : Fs.splitA l = Cut.before l 38 :: (if Cut.has l 38 then Fs.splitA (Cut.after l 38) else []) := by
  induction l with
  | nil => simp [Fs.splitA, Cut.before, Cut.has]
  | cons c l ih =>
    by_cases h : c = 38
    · subst h; simp [Fs.splitA, Cut.before, Cut.has, Cut.after]
    · have h2 : (c != 38) = true := by simp [h]
      have hb : Cut.before (c :: l) 38 = c :: Cut.before l 38 := by unfold Cut.before; rw [List.takeWhile_cons, if_pos h2]
      have ha : Cut.after (c :: l) 38 = Cut.after l 38 := by unfold Cut.after; rw [hb]; simp
      have hh : Cut.has (c :: l) 38 = Cut.has l 38 := by
        unfold Cut.has; rw [List.contains_cons]
        have : ((38 : UInt8) == c) = false := by simpa using Ne.symm h
        rw [this, Bool.false_or]
      rw [Fs.splitA, if_neg h, ih, hb, ha, hh]
theorem pieces_cut (l : List UInt8) : Fs.pieces l = (if (Cut.before l 38).isEmpty then [] else [Cut.before l 38]) ++ (if Cut.has l 38 then Fs.pieces (Cut.after l 38) else []) := by
  unfold Fs.pieces
  rw [split_before l, List.filter_cons]
  cases hb : (Cut.before l 38).isEmpty <;> cases hh : Cut.has l 38 <;> simp

/-- how far the walk over the pieces still has to go -/
def pcLeft (m : Value) (c : Option Value) : Nat := match m, c with
  | .bool true, some (.string s) => s.size + 1
  | _, _ => 0
theorem after_lt (l : List UInt8) (c : UInt8) (h : Cut.has l c = true) : (Cut.after l c).length < l.length := by
  have := Cut.mem_lt l c h
  unfold Cut.after; rw [List.length_drop]; omega
theorem mk_size (l : List UInt8) : (⟨l.toArray⟩ : ByteArray).size = l.length := by simp [ByteArray.size]

attribute [local go_sem] Oper.semAt_some

/-- a piece of a text that is not too long -/
abbrev Pc := {x : List UInt8 // x.length ≤ 16384}
abbrev raw (l : List Pc) : List (List UInt8) := l.map (·.1)

set_option maxRecDepth 20000 in
set_option maxHeartbeats 1000000 in
theorem pieces_in (n : Nat) (hn : 1 ≤ n) (bs : Nat) (s : ByteArray) (hs : s.size ≤ 16384) (w : World) (hbw : Blk w bs 9 [.string s]) :
    SeqCell Fence.wide n Try.prog 39 #[.pointer (some ⟨bs, 0, none⟩)] (fun x : Pc => #[Value.string ⟨x.1.toArray⟩]) bs (fun xs => raw xs = Fs.pieces s.data.toList) (fun pre => raw pre <+: Fs.pieces s.data.toList) (Fs.pieces s.data.toList).length w := by
  intro l J Jx W hW hJc hY h0
  have hbW : Blk W bs 9 [.string s] := hW.trans hbw
  refine callsIn_of_wp Try.func39 rfl trivial ?_ rfl
  simp only [Try.ntmps39, List.size_toArray, List.length_cons, List.length_nil, Nat.reduceAdd, Nat.reduceSub, Array.replicate_succ, Array.replicate_zero, List.push_toArray, List.append_toArray, List.nil_append, List.cons_append]
  gi_wp2
  gi_loopw [3] (fun m wr => ∃ (pre : List Pc) (r : List UInt8) (b : Bool), m = .bool b ∧ Blk wr bs 9 [.string ⟨r.toArray⟩] ∧ J pre wr ∧ r.length ≤ s.size ∧ Fs.pieces s.data.toList = raw pre ++ (if b then Fs.pieces r else []))
    (fun m wr => pcLeft m (wr.cell? ⟨bs, 0, none⟩))
  case atStart => exact ⟨[], s.data.toList, true, rfl, hbW, h0, by rw [Array.length_toList]; exact Nat.le_refl _, by simp⟩
  case round =>
    obtain ⟨pre, r, b, rfl, hb, hJ, hr, hp⟩ := hrel
    have HP := Lib.hid hp
    clear hp
    cases b with
    | false =>
      gi_wp2
      go_end0
      exact ⟨⟨_, rfl⟩, .inl ⟨pre, by rw [HP.out]; simp, hJ⟩⟩
    | true =>
      have hc := hb.cell 0 rfl
      have hsz : (⟨r.toArray⟩ : ByteArray).size ≤ 140737488355328 := by rw [mk_size]; omega
      have hpc := pieces_cut r
      have ha := after_lt r 38
      have hal0 : (Cut.after r 38).length ≤ r.length := by unfold Cut.after; rw [List.length_drop]; omega
      gi_wp2_with fail
      refine ⟨trivial, ?_⟩
      refine (callsIn_wide.2 (cut_one _ _ hsz _)).mono ?_
      unfold cutV
      rintro e w1 ⟨rfl, nd, hw1⟩
      have hb1 : Blk w1 bs 9 [.string ⟨r.toArray⟩] := by rw [hw1]; exact hb.drewN nd
      have hJ1 : J pre w1 := hJc _ _ _ hJ (by rw [hw1]; exact ⟨rfl, rfl, rfl, Nat.le_refl _, fun _ _ _ => rfl⟩)
      have hb2 := hb1.set 0 (.string ⟨(Cut.after r 38).toArray⟩)
      have hJ2 := hJc _ _ _ hJ1 (grownBy_setCell' w1 bs (.string ⟨(Cut.after r 38).toArray⟩))
      have hc1 := hb1.cell 0 rfl
      have hf1 := hb1.frozen 0
      clear hw1 hsz
      simp only [List.set_cons_zero] at hb2
      have e0 : (⟨r.toArray⟩ : ByteArray).data.toList = r := rfl
      rw [e0]
      clear e0
      generalize Cut.after r 38 = af at hpc ha hb2 hJ2 hal0 ⊢
      have hbl := Cut.before_le r 38
      generalize Cut.before r 38 = be at hpc hbl ⊢
      have hal : af.length ≤ s.size := by omega
      cases be with
      | nil =>
        cases hh : Cut.has r 38 with
        | false =>
          have hpr : Fs.pieces r = [] := by rw [hpc, hh]; simp
          have HQ := Lib.hid hpr
          clear ha
          have hbc := hb2.cell 0 rfl
          have HB := Lib.hid hbc
          have HC := Lib.hid hc
          clear hpr hpc hh hbc
          gi_wp2
          refine ⟨(fun f hf => by cases hf), ?_⟩
          gi_wp2
          go_roundw
          case rel => exact ⟨pre, af, false, rfl, hb2, hJ2, hal, by rw [HP.out]; simp [HQ.out]⟩
          case measure => rw [HB.out, HC.out]; simp [pcLeft, mk_size]
        | true =>
          have hpr : Fs.pieces r = Fs.pieces af := by rw [hpc, hh]; simp
          have HQ := Lib.hid hpr
          have ha := ha hh
          have hbc := hb2.cell 0 rfl
          have HB := Lib.hid hbc
          have HC := Lib.hid hc
          clear hpr hpc hh hbc
          gi_wp2
          refine ⟨(fun f hf => by cases hf), ?_⟩
          gi_wp2
          go_roundw
          case rel => exact ⟨pre, af, true, rfl, hb2, hJ2, by omega, by rw [HP.out]; simp [HQ.out]⟩
          case measure => rw [HB.out, HC.out]; simp [pcLeft, mk_size]; omega
      | cons c t =>
        cases hh : Cut.has r 38 with
        | false =>
          have hpr : Fs.pieces r = (c :: t) :: [] := by rw [hpc, hh]; simp
          have hct : (c :: t).length ≤ 16384 := by omega
          have hp : Fs.pieces s.data.toList = raw pre ++ (c :: t) :: [] := by rw [HP.out]; simp [hpr]
          have HQ := Lib.hid hp
          obtain ⟨fn, tmps, assign, body, hy, hR⟩ := hY pre ⟨c :: t, hct⟩ _ hJ2 (by rw [hp]; simp)
          dsimp only at hy
          clear ha
          have HC := Lib.hid hc
          clear hp hpr HP hpc hh
          gi_wp2
          refine hR.mono ?_
          rintro e W3 (⟨rfl, hJ3, hk3⟩ | ⟨rfl, hJx3⟩)
          · have hb3 : Blk W3 bs 9 [.string ⟨af.toArray⟩] := hk3.trans hb2
            have hbc := hb3.cell 0 rfl
            have HB := Lib.hid hbc
            clear hbc
            gi_wp2
            go_roundw
            case rel => exact ⟨pre ++ [⟨c :: t, hct⟩], af, false, rfl, hb3, hJ3, hal, by rw [HQ.out]; simp [raw]⟩
            case measure => rw [HB.out, HC.out]; simp [pcLeft, mk_size]
          · gi_wp2
            refine bodyPost_ret (results_none rfl _ _ _) rfl ?_
            exact ⟨⟨_, rfl⟩, .inr ⟨pre ++ [⟨c :: t, hct⟩], ⟨[], by rw [HQ.out]; simp [raw]⟩, hJx3⟩⟩
        | true =>
          have hpr : Fs.pieces r = (c :: t) :: Fs.pieces af := by rw [hpc, hh]; simp
          have hct : (c :: t).length ≤ 16384 := by omega
          have hp : Fs.pieces s.data.toList = raw pre ++ (c :: t) :: Fs.pieces af := by rw [HP.out]; simp [hpr]
          have HQ := Lib.hid hp
          obtain ⟨fn, tmps, assign, body, hy, hR⟩ := hY pre ⟨c :: t, hct⟩ _ hJ2 (by rw [hp]; simp)
          dsimp only at hy
          have ha := ha hh
          have HC := Lib.hid hc
          clear hp hpr HP hpc hh
          gi_wp2
          refine hR.mono ?_
          rintro e W3 (⟨rfl, hJ3, hk3⟩ | ⟨rfl, hJx3⟩)
          · have hb3 : Blk W3 bs 9 [.string ⟨af.toArray⟩] := hk3.trans hb2
            have hbc := hb3.cell 0 rfl
            have HB := Lib.hid hbc
            clear hbc
            gi_wp2
            go_roundw
            case rel => exact ⟨pre ++ [⟨c :: t, hct⟩], af, true, rfl, hb3, hJ3, by omega, by rw [HQ.out]; simp [raw]⟩
            case measure => rw [HB.out, HC.out]; simp [pcLeft, mk_size]; omega
          · gi_wp2
            refine bodyPost_ret (results_none rfl _ _ _) rfl ?_
            exact ⟨⟨_, rfl⟩, .inr ⟨pre ++ [⟨c :: t, hct⟩], ⟨Fs.pieces af, by rw [HQ.out]; simp [raw]⟩, hJx3⟩⟩
end Go.Proofs.Ytemlggemomiaeaa
