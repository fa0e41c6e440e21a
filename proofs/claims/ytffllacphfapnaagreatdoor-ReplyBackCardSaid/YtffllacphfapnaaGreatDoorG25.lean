/-
  Chapter 20, plain: the reasons' names, their responses, what a response tells. No program here.
-/
import Derived.Test.YtffllacphfapnaaGreatDoorG24
namespace Go.Proofs.YtffllacphfapnaaGreatDoor.Rp
open Js

def errN : By := [101, 114, 114, 111, 114]
def nmOf : Nat → By
  | 1 => [105, 110, 118, 97, 108, 105, 100, 95, 114, 101, 113, 117, 101, 115, 116]
  | 2 => [105, 110, 118, 97, 108, 105, 100, 95, 99, 108, 105, 101, 110, 116]
  | 3 => [105, 110, 118, 97, 108, 105, 100, 95, 103, 114, 97, 110, 116]
  | 4 => [117, 110, 97, 117, 116, 104, 111, 114, 105, 122, 101, 100, 95, 99, 108, 105, 101, 110, 116]
  | 5 => [117, 110, 115, 117, 112, 112, 111, 114, 116, 101, 100, 95, 103, 114, 97, 110, 116, 95, 116, 121, 112, 101]
  | 6 => [105, 110, 118, 97, 108, 105, 100, 95, 115, 99, 111, 112, 101]
  | 7 => [116, 101, 109, 112, 111, 114, 97, 114, 105, 108, 121, 95, 117, 110, 97, 118, 97, 105, 108, 97, 98, 108, 101]
  | 8 => [117, 110, 115, 117, 112, 112, 111, 114, 116, 101, 100, 95, 114, 101, 115, 112, 111, 110, 115, 101, 95, 116, 121, 112, 101]
  | _ => []
def bd : Nat → By
  | 1 => [123, 34, 101, 114, 114, 111, 114, 34, 58, 34, 105, 110, 118, 97, 108, 105, 100, 95, 114, 101, 113, 117, 101, 115, 116, 34, 125]
  | 2 => [123, 34, 101, 114, 114, 111, 114, 34, 58, 34, 105, 110, 118, 97, 108, 105, 100, 95, 99, 108, 105, 101, 110, 116, 34, 125]
  | 3 => [123, 34, 101, 114, 114, 111, 114, 34, 58, 34, 105, 110, 118, 97, 108, 105, 100, 95, 103, 114, 97, 110, 116, 34, 125]
  | 4 => [123, 34, 101, 114, 114, 111, 114, 34, 58, 34, 117, 110, 97, 117, 116, 104, 111, 114, 105, 122, 101, 100, 95, 99, 108, 105, 101, 110, 116, 34, 125]
  | 5 => [123, 34, 101, 114, 114, 111, 114, 34, 58, 34, 117, 110, 115, 117, 112, 112, 111, 114, 116, 101, 100, 95, 103, 114, 97, 110, 116, 95, 116, 121, 112, 101, 34, 125]
  | 6 => [123, 34, 101, 114, 114, 111, 114, 34, 58, 34, 105, 110, 118, 97, 108, 105, 100, 95, 115, 99, 111, 112, 101, 34, 125]
  | 7 => [123, 34, 101, 114, 114, 111, 114, 34, 58, 34, 116, 101, 109, 112, 111, 114, 97, 114, 105, 108, 121, 95, 117, 110, 97, 118, 97, 105, 108, 97, 98, 108, 101, 34, 125]
  | 8 => [123, 34, 101, 114, 114, 111, 114, 34, 58, 34, 117, 110, 115, 117, 112, 112, 111, 114, 116, 101, 100, 95, 114, 101, 115, 112, 111, 110, 115, 101, 95, 116, 121, 112, 101, 34, 125]
  | _ => []
def st (w : Nat) : Int := if w = 2 then 401 else if w = 7 then 503 else 400
def em (w : Nat) : Mb := ⟨errN, 0, nmOf w, 0, false⟩
theorem pr_one {m : Mb} {t : By} (hn : rt m = true) (ht : txt [m] ++ [125] = t) (hl : (txt [m]).length < 16384) : pr [m] = (t, 0) := by
  unfold pr
  rw [if_neg (by simp), if_pos (goodB _ (by simp [hn, hasN])), if_pos hl, ht]
theorem pr_bd (w : Nat) (h1 : 1 ≤ w) (h8 : w ≤ 8) : pr [em w] = (bd w, 0) := by
  obtain rfl | rfl | rfl | rfl | rfl | rfl | rfl | rfl : w = 1 ∨ w = 2 ∨ w = 3 ∨ w = 4 ∨ w = 5 ∨ w = 6 ∨ w = 7 ∨ w = 8 := by omega
  all_goals exact pr_one (by decide) (by decide +kernel) (by decide +kernel)
/-- does a response tell a reason? -/
def hit (s : Int) (b : By) (w : Nat) : Bool := s == st w && b == bd w
def rest (s : Int) (b : By) : Bool := s == 200 && (parse b).2 == 0 && !hasN (parse b).1 errN
/-- the first reason from w on that a response tells -/
def cl (s : Int) (b : By) : Nat → Nat → Int × Bool
  | _, 0 => (0, rest s b)
  | w, k + 1 => if hit s b w then (w, true) else cl s b (w + 1) k
theorem hit_self (w : Nat) : hit (st w) (bd w) w = true := by simp [hit]
theorem bd_inj (w u : Nat) (h1 : 1 ≤ w) (h8 : w ≤ 8) (h1' : 1 ≤ u) (h8' : u ≤ 8) (h : bd w = bd u) : w = u := by
  have key : ∀ a b : Fin 9, 1 ≤ a.val → 1 ≤ b.val → bd a.val = bd b.val → a = b := by decide +kernel
  have := key ⟨w, by omega⟩ ⟨u, by omega⟩ h1 h1' h
  exact congrArg Fin.val this
theorem cl_self (w : Nat) (h1 : 1 ≤ w) (h8 : w ≤ 8) : cl (st w) (bd w) 1 8 = ((w : Int), true) := by
  have key : ∀ k u : Nat, u + k = 9 → 1 ≤ u → u ≤ w → cl (st w) (bd w) u k = ((w : Int), true) := by
    intro k
    induction k with
    | zero => intro u h hu hw; omega
    | succ k ih =>
      intro u h hu hw
      unfold cl
      by_cases e : u = w
      · subst e; rw [if_pos (hit_self u)]
      · rw [if_neg ?_]
        · exact ih (u + 1) (by omega) (by omega) (by omega)
        · intro hh
          simp only [hit, Bool.and_eq_true, beq_iff_eq] at hh
          exact e (bd_inj w u h1 h8 hu (by omega) hh.2).symm
  exact key 8 1 rfl (by omega) h1
def ab : Mb := ⟨[97, 99, 116, 105, 118, 101], 2, [], 0, false⟩
def abt : By := [123, 34, 97, 99, 116, 105, 118, 101, 34, 58, 102, 97, 108, 115, 101, 125]
theorem pr_ab : pr [ab] = (abt, 0) := pr_one (by decide) (by decide +kernel) (by decide +kernel)
theorem parse_ab : parse abt = ([ab], 0) := parse_pr pr_ab (fun m hm => by simp at hm; subst hm; decide)
theorem cl_ab : cl 200 abt 1 8 = (0, true) := by
  have h : ∀ w : Fin 9, hit 200 abt w.val = false := by decide +kernel
  have hr : rest 200 abt = true := by unfold rest; rw [parse_ab]; decide
  have key : ∀ k u : Nat, u + k = 9 → cl 200 abt u k = (0, true) := by
    intro k
    induction k with
    | zero => intro u _; unfold cl; rw [hr]
    | succ k ih => intro u hu; unfold cl; rw [h ⟨u, by omega⟩, if_neg (by decide)]; exact ih (u + 1) (by omega)
  exact key 8 1 rfl
end Go.Proofs.YtffllacphfapnaaGreatDoor.Rp
