/-
  Chapter 5: the deferred closure of Parse, entered in a frame that panics with the reader's own word, and in a frame that returns.
-/
import Derived.Test.YtffllacphfapnaaGreatDoorGen
import Derived.Test.YtffllacphfapnaaGreatDoorChecked
import Derived.Tactics
import Derived.Tactics2
import Derived.Defers
import Derived.Recover
namespace Go.Proofs.YtffllacphfapnaaGreatDoor
open Go.RowKit

theorem catch_wrong (p q : Nat) (w : World) (x y : Value) (h1 : Blk w p 46 [x]) (h2 : Blk w q 43 [y]) (hne : q ≠ p) :
    CallsD Tryz.prog 29 #[.pointer (some ⟨p, 0, none⟩), .pointer (some ⟨q, 0, none⟩)] (.panicking [{ v := .iface 72 (.agg #[]), recovered := false }]) w fun e u' w' =>
      e = .returned (.tuple #[]) ∧ u' = .panicking [{ v := .iface 72 (.agg #[]), recovered := true }] ∧ w' = ((w.alloc (.cells #[] 72)).setCell ⟨p, 0, none⟩ (.slice none 0 0)).setCell ⟨q, 0, none⟩ (.int .i64 3) := by
  have hta : ∀ W : World, (Instr.typeAssert (.iface 72 (.agg #[])) 20 72 true).run Tryz.prog W = .ok (.tuple #[.agg #[], .bool true]) W := fun W => by kernel_rfl
  have a3 := (h1.alloc (.cells #[] 72)).cell 0 rfl
  have a4 := (h1.alloc (.cells #[] 72)).frozen 0
  have b3 := ((h2.alloc (.cells #[] 72)).setOther ⟨p, 0, none⟩ (.slice none 0 0) hne).cell 0 rfl
  have b4 := ((h2.alloc (.cells #[] 72)).setOther ⟨p, 0, none⟩ (.slice none 0 0) hne).frozen 0
  clear h1 h2
  refine callsD_of_wpS Tryz.func29 rfl fun c₀ cs hu => ?_
  apply wpS_seq
  apply wpS_region
  simp [wpOpsS, go_sem, recoverD, hu, Tryz.ntmps29, Exit.thenS]
  apply wpS_seq
  apply wpS_region
  simp [wpOpsS, go_sem, Exit.thenS]
  refine wpS_cond (t := true) (by simp [Act.eval, Array.replicate]) ?_
  simp only [if_true]
  apply wpS_seq
  apply wpS_seq
  apply wpS_region
  simp [wpOpsS, go_sem, Exit.thenS, hta]
  apply wpS_seq
  apply wpS_region
  simp [wpOpsS, go_sem, Exit.thenS]
  refine wpS_cond (t := false) (by simp [Act.eval, Array.replicate]) ?_
  simp only [Bool.false_eq_true, if_false]
  refine wpS_of_wp (wp_skip ?_)
  simp only [Exit.thenS]
  apply wpS_region
  simp [wpOpsS, go_sem, a3, a4, b3, b4, bodyPostS, results, Tryz.results29]

theorem catch_idle (p q : Addr) (w : World) :
    CallsD Tryz.prog 29 #[.pointer (some p), .pointer (some q)] .returning w fun e u' w' => e = .returned (.tuple #[]) ∧ u' = .returning ∧ w' = w := by
  refine callsD_of_wpS Tryz.func29 rfl fun c₀ cs hu => ?_
  apply wpS_seq
  apply wpS_region
  simp [wpOpsS, go_sem, recoverD, hu, Tryz.ntmps29, Exit.thenS]
  apply wpS_seq
  apply wpS_region
  simp [wpOpsS, go_sem, Exit.thenS]
  refine wpS_cond (t := false) (by simp [Act.eval, Array.replicate]) ?_
  simp only [Bool.false_eq_true, if_false]
  refine wpS_of_wp (wp_skip ?_)
  cases c₀
  simp_all [bodyPostS, results, Tryz.results29]

/-- Parse's end where its body panicked with the reader's own word -/
theorem parse_out {tmps : Array Value} {p q : Nat} (ht2 : tmps.getD 2 undef = .pointer (some ⟨p, 0, none⟩)) (ht3 : tmps.getD 3 undef = .pointer (some ⟨q, 0, none⟩)) {W : World} {x y : Value} (h1 : Blk W p 46 [x]) (h2 : Blk W q 43 [y]) (hne : q ≠ p) {R : Ending → World → Prop}
    (hR : R (.returned (.tuple #[.slice none 0 0, .int .i64 3])) (((W.alloc (.cells #[] 72)).setCell ⟨p, 0, none⟩ (.slice none 0 0)).setCell ⟨q, 0, none⟩ (.int .i64 3))) :
    Leaves Tryz.prog Tryz.f15 tmps R [{ target := .fn (Fn.func 29) #[.pointer (some ⟨p, 0, none⟩), .pointer (some ⟨q, 0, none⟩)], args := #[] }] (.panicking [{ v := .iface 72 (.agg #[]), recovered := false }]) W := by
  have k1 := (((h1.alloc (.cells #[] 72)).set 0 (.slice none 0 0)).setOther ⟨q, 0, none⟩ (.int .i64 3) (fun e => hne e.symm)).cell 0 rfl
  have k2 := (((h2.alloc (.cells #[] 72)).setOther ⟨p, 0, none⟩ (.slice none 0 0) hne).set 0 (.int .i64 3)).cell 0 rfl
  refine leaves_cons (f := 29) (args := #[.pointer (some ⟨p, 0, none⟩), .pointer (some ⟨q, 0, none⟩)]) (by simp) (by simp [go_sem]) ?_
  refine (catch_wrong p q W x y h1 h2 hne).mono ?_
  rintro e u' w'' ⟨rfl, rfl, rfl⟩
  refine ⟨_, ?_, hR⟩
  have t2 : tmps[2]?.getD undef = .pointer (some ⟨p, 0, none⟩) := by rw [← ht2, Array.getD_eq_getD_getElem?]
  have t3 : tmps[3]?.getD undef = .pointer (some ⟨q, 0, none⟩) := by rw [← ht3, Array.getD_eq_getD_getElem?]
  simp [results, Tryz.results15, go_sem, t2, t3, k1, k2]
theorem parse_ret {tmps : Array Value} {p q : Nat} (ht2 : tmps.getD 2 undef = .pointer (some ⟨p, 0, none⟩)) (ht3 : tmps.getD 3 undef = .pointer (some ⟨q, 0, none⟩)) {W : World} {x y : Value} (h1 : Blk W p 46 [x]) (h2 : Blk W q 43 [y]) {R : Ending → World → Prop}
    (hR : R (.returned (.tuple #[x, y])) W) :
    Leaves Tryz.prog Tryz.f15 tmps R [{ target := .fn (Fn.func 29) #[.pointer (some ⟨p, 0, none⟩), .pointer (some ⟨q, 0, none⟩)], args := #[] }] .returning W := by
  have k1 := h1.cell 0 rfl
  have k2 := h2.cell 0 rfl
  refine leaves_cons (f := 29) (args := #[.pointer (some ⟨p, 0, none⟩), .pointer (some ⟨q, 0, none⟩)]) (by simp) (by simp [go_sem]) ?_
  refine (catch_idle ⟨p, 0, none⟩ ⟨q, 0, none⟩ W).mono ?_
  rintro e u' w'' ⟨rfl, rfl, rfl⟩
  refine ⟨_, ?_, hR⟩
  have t2 : tmps[2]?.getD undef = .pointer (some ⟨p, 0, none⟩) := by rw [← ht2, Array.getD_eq_getD_getElem?]
  have t3 : tmps[3]?.getD undef = .pointer (some ⟨q, 0, none⟩) := by rw [← ht3, Array.getD_eq_getD_getElem?]
  simp [results, Tryz.results15, go_sem, t2, t3, k1, k2]
end Go.Proofs.YtffllacphfapnaaGreatDoor
