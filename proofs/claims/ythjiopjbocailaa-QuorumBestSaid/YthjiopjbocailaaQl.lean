/-
  Chapter 21: the program's Best, of however many. Condition: fewer than 2^62.
-/
import Derived.Test.YthjiopjbocailaaQf
import Derived.Test.YthjiopjbocailaaQm
namespace Go.Proofs.Ythjiopjbocailaa
open Go.RowKit

def caCells (l : List Qb.Ca) : List Value := l.flatMap fun p => [.int .i64 p.1, .int .i64 p.2]
theorem caCells_length (l : List Qb.Ca) : (caCells l).length = l.length * 2 := by
  induction l with
  | nil => rfl
  | cons p l ih => simp only [caCells, List.flatMap_cons, List.length_append, List.length_cons] at *; rw [ih]; simp; omega
theorem caCells_at (l : List Qb.Ca) (k : Nat) (h : k < l.length) : (caCells l)[k * 2]? = some (.int .i64 (l.getD k (0, 0)).1) ∧ (caCells l)[k * 2 + 1]? = some (.int .i64 (l.getD k (0, 0)).2) := by
  induction l generalizing k with
  | nil => simp at h
  | cons p l ih =>
    have e : caCells (p :: l) = .int .i64 p.1 :: .int .i64 p.2 :: caCells l := by simp [caCells]
    rw [e]
    match k with
    | 0 => simp
    | k + 1 =>
      have := ih k (by simpa using h)
      have e2 : (k + 1) * 2 = k * 2 + 1 + 1 := by omega
      rw [e2]
      simpa using this
def bV (o : Option Nat) : Value := match o with
  | none => .int .i64 (-1)
  | some b => .int .i64 b

set_option maxRecDepth 20000 in
set_option maxHeartbeats 4000000 in
theorem best_any (v : Value) (l : List Qb.Ca) (w : World) (h : Rd w 2 v l.length (caCells l)) (hm : l.length ≤ 4611686018427387904) :
    Calls Try.prog 15 #[v] w fun e w' => e = .returned (bV (Qb.best l l.length)) ∧ Below w.heap.size w w' := by
  obtain ⟨a, c, rfl⟩ := h.slice
  have HH := Lib.hid h
  clear h
  go_enter Try.func15, Try.ntmps15
  go_wp2
  go_loopw [3, 8] (fun b i wr => ∃ k : Nat, k ≤ l.length ∧ i = .int .i64 k ∧ b = bV (Qb.best l k) ∧ Below w.heap.size w wr) (fun _ i _ => l.length - (intOf i).toNat)
  case atStart => exact ⟨0, by omega, rfl, rfl, Below.refl _ _⟩
  case round =>
    obtain ⟨k, hk, rfl, rfl, hb⟩ := hrel
    by_cases hkn : k < l.length
    case neg =>
      have hk' : k = l.length := by omega
      subst hk'
      go_wp2
      go_ret
      exact ⟨rfl, hb⟩
    case pos =>
    obtain ⟨b, o, cap, e1, hcap, hc⟩ := (HH.out.below hb).pos (by omega)
    cases e1
    have p1 := caCells_at l k hkn
    have q0 := hc _ _ p1.1
    have q1 := hc _ _ p1.2
    rw [← Nat.add_assoc] at q1
    have hlt := World.block_lt_of_cell? wr _ q0
    have hbs := hb.size
    cases ho : Qb.best l k with
    | none =>
      have hs : Qb.best l (k + 1) = some k := by rw [Qb.best, ho]
      have HS := Lib.hid hs
      clear hc p1 hs ho
      generalize l.getD k (0, 0) = x at *
      obtain ⟨x1, x2⟩ := x
      simp only [bV]
      go_wp2
      have hbA := hb.alloc hbs (.cells #[.int .i64 x1, .int .i64 x2] 37)
      clear q0 q1
      generalize wr.alloc (.cells #[.int .i64 x1, .int .i64 x2] 37) = wa at *
      go_quiet (fail)
      go_wp2
      go_roundw
      case rel => exact ⟨k + 1, by omega, by go_num, by rw [HS.out], below_drewN hbA _⟩
      case measure => simp [intOf]; omega
    | some j =>
      have hjk := Qb.best_lt l k j ho
      have hs : Qb.best l (k + 1) = if Qb.bt (l.getD k (0, 0)) (l.getD j (0, 0)) then some k else some j := by rw [Qb.best, ho]
      have p2 := caCells_at l j (by omega)
      have q2 := hc _ _ p2.1
      have q3 := hc _ _ p2.2
      rw [← Nat.add_assoc] at q3
      have hjl : (j : Int) < (l.length : Int) := by omega
      have hj0 : decide ((j : Int) < 0) = false := by simp
      clear hc p1 p2 ho
      generalize l.getD k (0, 0) = x at *
      generalize l.getD j (0, 0) = y at *
      obtain ⟨x1, x2⟩ := x
      obtain ⟨y1, y2⟩ := y
      simp only [bV]
      by_cases g1 : y1 < x1
      · have HS := Lib.hid (hs.trans (if_pos (Or.inl g1)))
        clear hs
        go_wp2
        have hA : Below wr.heap.size wr (wr.alloc (.cells #[.int .i64 x1, .int .i64 x2] 37)) := (Below.refl _ _).alloc (Nat.le_refl _) _
        have hbA := hb.alloc hbs (.cells #[.int .i64 x1, .int .i64 x2] 37)
        have r2 := (hA.cell (p := ⟨b, o + j * 2, none⟩) hlt).trans q2
        have r3 := (hA.cell (p := ⟨b, o + j * 2 + 1, none⟩) hlt).trans q3
        have s0 := (Blk.new wr 37 [.int .i64 x1, .int .i64 x2]).cell 0 rfl
        have s1 := (Blk.new wr 37 [.int .i64 x1, .int .i64 x2]).cell 1 rfl
        clear q2 q3 hA
        clear q0 q1
        generalize wr.alloc (.cells #[.int .i64 x1, .int .i64 x2] 37) = wa at *
        go_quiet (fail)
        go_wp2
        go_roundw
        case rel => exact ⟨k + 1, by omega, by go_num, by rw [HS.out], below_drewN hbA _⟩
        case measure => simp [intOf]; omega
      · have g1' : decide (y1 < x1) = false := by simp; omega
        by_cases g2 : x1 = y1
        · have g2' : (x1 == y1) = true := by simp [g2]
          by_cases g3 : y2 < x2
          · have HS := Lib.hid (hs.trans (if_pos (Or.inr ⟨g2, g3⟩)))
            clear hs g1 g2
            go_wp2
            have hA : Below wr.heap.size wr (wr.alloc (.cells #[.int .i64 x1, .int .i64 x2] 37)) := (Below.refl _ _).alloc (Nat.le_refl _) _
            have hbA := hb.alloc hbs (.cells #[.int .i64 x1, .int .i64 x2] 37)
            have r2 := (hA.cell (p := ⟨b, o + j * 2, none⟩) hlt).trans q2
            have r3 := (hA.cell (p := ⟨b, o + j * 2 + 1, none⟩) hlt).trans q3
            have s0 := (Blk.new wr 37 [.int .i64 x1, .int .i64 x2]).cell 0 rfl
            have s1 := (Blk.new wr 37 [.int .i64 x1, .int .i64 x2]).cell 1 rfl
            clear q2 q3 hA
            clear q0 q1
            generalize wr.alloc (.cells #[.int .i64 x1, .int .i64 x2] 37) = wa at *
            go_quiet (fail)
            go_wp2
            go_roundw
            case rel => exact ⟨k + 1, by omega, by go_num, by rw [HS.out], below_drewN hbA _⟩
            case measure => simp [intOf]; omega
          · have g3' : decide (y2 < x2) = false := by simp; omega
            have HS := Lib.hid (hs.trans (if_neg (by unfold Qb.bt; simp only; omega)))
            clear hs g1 g2 g3
            go_wp2
            have hA : Below wr.heap.size wr (wr.alloc (.cells #[.int .i64 x1, .int .i64 x2] 37)) := (Below.refl _ _).alloc (Nat.le_refl _) _
            have hbA := hb.alloc hbs (.cells #[.int .i64 x1, .int .i64 x2] 37)
            have r2 := (hA.cell (p := ⟨b, o + j * 2, none⟩) hlt).trans q2
            have r3 := (hA.cell (p := ⟨b, o + j * 2 + 1, none⟩) hlt).trans q3
            have s0 := (Blk.new wr 37 [.int .i64 x1, .int .i64 x2]).cell 0 rfl
            have s1 := (Blk.new wr 37 [.int .i64 x1, .int .i64 x2]).cell 1 rfl
            clear q2 q3 hA
            clear q0 q1
            generalize wr.alloc (.cells #[.int .i64 x1, .int .i64 x2] 37) = wa at *
            go_quiet (fail)
            go_wp2
            go_roundw
            case rel => exact ⟨k + 1, by omega, by go_num, by rw [HS.out], below_drewN hbA _⟩
            case measure => simp [intOf]; omega
        · have g2' : (x1 == y1) = false := by simp; omega
          have HS := Lib.hid (hs.trans (if_neg (by unfold Qb.bt; simp only; omega)))
          clear hs g1 g2
          go_wp2
          have hA : Below wr.heap.size wr (wr.alloc (.cells #[.int .i64 x1, .int .i64 x2] 37)) := (Below.refl _ _).alloc (Nat.le_refl _) _
          have hbA := hb.alloc hbs (.cells #[.int .i64 x1, .int .i64 x2] 37)
          have r2 := (hA.cell (p := ⟨b, o + j * 2, none⟩) hlt).trans q2
          have r3 := (hA.cell (p := ⟨b, o + j * 2 + 1, none⟩) hlt).trans q3
          have s0 := (Blk.new wr 37 [.int .i64 x1, .int .i64 x2]).cell 0 rfl
          have s1 := (Blk.new wr 37 [.int .i64 x1, .int .i64 x2]).cell 1 rfl
          clear q2 q3 hA
          clear q0 q1
          generalize wr.alloc (.cells #[.int .i64 x1, .int .i64 x2] 37) = wa at *
          go_quiet (fail)
          go_wp2
          go_roundw
          case rel => exact ⟨k + 1, by omega, by go_num, by rw [HS.out], below_drewN hbA _⟩
          case measure => simp [intOf]; omega
end Go.Proofs.Ythjiopjbocailaa
