/-
  Chapter 20, plain: the members that are told to an answer, and what ReplyBack asks of them. No program here.
-/
import Derived.Test.YtffllacphfapnaaGreatDoorG25
import Derived.Test.YtffllacphfapnaaGreatDoorG26
import Derived.Test.YtffllacphfapnaaGreatDoorG12
namespace Go.Proofs.YtffllacphfapnaaGreatDoor.Bk
open Js
set_option linter.unusedVariables false
set_option linter.unusedSimpArgs false

def pAuth : By := [47, 97, 117, 116, 104, 111, 114, 105, 122, 101]
def pTok : By := [47, 116, 111, 107, 101, 110]
def pRev : By := [47, 114, 101, 118, 111, 107, 101]
def pInt : By := [47, 105, 110, 116, 114, 111, 115, 112, 101, 99, 116]
def nCode : By := [99, 111, 100, 101]
def nAcc : By := [97, 99, 99, 101, 115, 115, 95, 116, 111, 107, 101, 110]
def nRef : By := [114, 101, 102, 114, 101, 115, 104, 95, 116, 111, 107, 101, 110]
def nTyp : By := [116, 111, 107, 101, 110, 95, 116, 121, 112, 101]
def nBea : By := [66, 101, 97, 114, 101, 114]
def nSco : By := [115, 99, 111, 112, 101]
def nAct : By := [97, 99, 116, 105, 118, 101]
def nCli : By := [99, 108, 105, 101, 110, 116, 95, 105, 100]
def nUse : By := [117, 115, 101, 114, 110, 97, 109, 101]
def nErr : By := [101, 114, 114, 111, 114]
/-- a text by a name -/
def tm (n x : By) : Mb := ⟨n, 0, x, 0, false⟩
def bm (n : By) (b : Bool) : Mb := ⟨n, 2, [], 0, b⟩
def tok (sec : By) (k : Int) (fam : By) (ser : Int) : By := (Se.mk sec ⟨k, fam, ser⟩).1
/-- what an answer is told of: a scope, two serial numbers, whether it is active, a client, a user -/
structure An where
  sco : By
  acc : Int
  ref : Int
  act : Bool
  cli : By
  use : By
def told (path sec fam : By) (a : An) : List Mb :=
  if path = pAuth then [tm nCode (tok sec 1 fam 0), tm nSco a.sco]
  else if path = pTok then (if a.ref = 0 then [tm nAcc (tok sec 2 fam a.acc), tm nTyp nBea, tm nSco a.sco] else [tm nAcc (tok sec 2 fam a.acc), tm nTyp nBea, tm nRef (tok sec 3 fam a.ref), tm nSco a.sco])
  else if path = pInt then (if a.act then [bm nAct true, tm nSco a.sco, tm nCli a.cli, tm nUse a.use, tm nTyp nBea] else [bm nAct false])
  else []
/-- are the tokens right that are told? -/
def fine (path fam : By) (a : An) : Prop :=
  (path = pAuth → Se.Right ⟨1, fam, 0⟩) ∧ (path = pTok → Se.Right ⟨2, fam, a.acc⟩ ∧ (a.ref ≠ 0 → Se.Right ⟨3, fam, a.ref⟩))
theorem told_n (path sec fam : By) (a : An) : ∀ m ∈ told path sec fam a, m.n = 0 := by
  intro m hm
  unfold told at hm
  repeat' split at hm
  all_goals simp [tm, bm] at hm
  all_goals first | (rcases hm with rfl | rfl | rfl | rfl | rfl <;> rfl) | (rcases hm with rfl | rfl | rfl | rfl <;> rfl) | (rcases hm with rfl | rfl | rfl <;> rfl) | (rcases hm with rfl | rfl <;> rfl) | (rcases hm with rfl <;> rfl)
theorem told_in (path sec fam : By) (a : An) : inR (told path sec fam a) := fun m hm => by rw [told_n path sec fam a m hm]; decide
/-- the name of the k-th token -/
def nK : Nat → By
  | 1 => nCode
  | 2 => nAcc
  | 3 => nRef
  | _ => []
/-- is the k-th token told? -/
def isK (path : By) (a : An) (k : Nat) : Bool := (k == 1 && path == pAuth) || (k == 2 && path == pTok) || (k == 3 && path == pTok && a.ref != 0)
def serK (a : An) (k : Nat) : Int := if k = 2 then a.acc else if k = 3 then a.ref else 0
theorem has_k (path sec fam : By) (a : An) (k : Nat) (h1 : 1 ≤ k) (h3 : k ≤ 3) : hasN (told path sec fam a) (nK k) = isK path a k := by
  obtain rfl | rfl | rfl : k = 1 ∨ k = 2 ∨ k = 3 := by omega
  all_goals
    unfold told isK
    by_cases e1 : path = pAuth
    · subst e1
      simp [hasN, tm, bm, nK, nCode, nAcc, nRef, nTyp, nSco, nAct, nCli, nUse, pAuth, pTok]
    · rw [if_neg e1]
      have b1 : (path == pAuth) = false := by simpa using e1
      by_cases e2 : path = pTok
      · subst e2
        by_cases e3 : a.ref = 0
        · simp [e3, hasN, tm, bm, nK, nCode, nAcc, nRef, nTyp, nSco, nAct, nCli, nUse, pAuth, pTok]
        · simp [e3, hasN, tm, bm, nK, nCode, nAcc, nRef, nTyp, nSco, nAct, nCli, nUse, pAuth, pTok]
      · rw [if_neg e2]
        have b2 : (path == pTok) = false := by simpa using e2
        by_cases e3 : path = pInt
        · subst e3
          cases a.act <;> simp [hasN, tm, bm, nK, nCode, nAcc, nRef, nTyp, nSco, nAct, nCli, nUse, pAuth, pTok, pInt]
        · rw [if_neg e3, b1, b2]
          simp [hasN]
theorem get_k (path sec fam : By) (a : An) (k : Nat) (h1 : 1 ≤ k) (h3 : k ≤ 3) (hf : fine path fam a) (hk : isK path a k = true) : (getM (told path sec fam a) (nK k)).tx = tok sec k fam (serK a k) ∧ Se.Right ⟨k, fam, serK a k⟩ := by
  obtain rfl | rfl | rfl : k = 1 ∨ k = 2 ∨ k = 3 := by omega
  · have e : path = pAuth := by simpa [isK] using hk
    subst e
    exact ⟨by simp [told, getM, tm, bm, nK, nCode, nSco, serK], hf.1 rfl⟩
  · have e : path = pTok := by simpa [isK] using hk
    subst e
    refine ⟨?_, (hf.2 rfl).1⟩
    by_cases e3 : a.ref = 0
    · simp [told, e3, getM, tm, bm, nK, nCode, nAcc, nRef, nTyp, nSco, serK, pAuth, pTok]
    · simp [told, e3, getM, tm, bm, nK, nCode, nAcc, nRef, nTyp, nSco, serK, pAuth, pTok]
  · have e : path = pTok ∧ a.ref ≠ 0 := by simpa [isK] using hk
    obtain ⟨rfl, e3⟩ := e
    exact ⟨by simp [told, e3, getM, tm, bm, nK, nCode, nAcc, nRef, nTyp, nSco, serK, pAuth, pTok], (hf.2 rfl).2 e3⟩
theorem has_act (path sec fam : By) (a : An) : hasN (told path sec fam a) nAct = (path == pInt) ∧ (path = pInt → (getM (told path sec fam a) nAct).b = a.act ∧ (a.act = false → (told path sec fam a).length = 1)) := by
  unfold told
  by_cases e1 : path = pAuth
  · subst e1
    simp [hasN, tm, bm, nCode, nAcc, nRef, nTyp, nSco, nAct, nCli, nUse, pAuth, pTok, pInt]
  · rw [if_neg e1]
    by_cases e2 : path = pTok
    · subst e2
      by_cases e3 : a.ref = 0
      · simp [e3, hasN, tm, bm, nK, nCode, nAcc, nRef, nTyp, nSco, nAct, nCli, nUse, pAuth, pTok, pInt]
      · simp [e3, hasN, tm, bm, nK, nCode, nAcc, nRef, nTyp, nSco, nAct, nCli, nUse, pAuth, pTok, pInt]
    · rw [if_neg e2]
      by_cases e3 : path = pInt
      · subst e3
        cases a.act <;> simp [hasN, getM, tm, bm, nK, nCode, nAcc, nRef, nTyp, nSco, nAct, nCli, nUse, pAuth, pTok, pInt]
      · rw [if_neg e3]
        have b3 : (path == pInt) = false := by simpa using e3
        simp [hasN, b3, e3]
theorem has_err (path sec fam : By) (a : An) : hasN (told path sec fam a) nErr = false := by
  unfold told
  repeat' split
  all_goals simp [hasN, tm, bm, nErr, nCode, nAcc, nRef, nTyp, nSco, nAct, nCli, nUse]
/-- what is told is parsed as it was, and tells no reason -/
theorem told_cl (path sec fam : By) (a : An) (s : By) (h : pr (told path sec fam a) = (s, 0)) : parse s = (told path sec fam a, 0) ∧ Rp.cl 200 s 1 8 = (0, true) := by
  have hp := parse_pr h (told_in path sec fam a)
  refine ⟨hp, ?_⟩
  have hh : ∀ w, Rp.hit 200 s w = false := by
    intro w
    unfold Rp.hit Rp.st
    repeat' split
    all_goals simp
  have hr : Rp.rest 200 s = true := by
    unfold Rp.rest
    rw [hp]
    have := has_err path sec fam a
    unfold nErr at this
    simp [Rp.errN, this]
  have key : ∀ k u : Nat, Rp.cl 200 s u k = (0, true) := by
    intro k
    induction k with
    | zero => intro u; unfold Rp.cl; rw [hr]
    | succ k ih => intro u; unfold Rp.cl; rw [hh u, if_neg (by decide)]; exact ih (u + 1)
  exact key 8 1
end Go.Proofs.YtffllacphfapnaaGreatDoor.Bk
