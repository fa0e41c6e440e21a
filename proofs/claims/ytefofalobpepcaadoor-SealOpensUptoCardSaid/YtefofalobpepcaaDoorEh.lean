/-
  Chapter 16: the deferred closure of Peek, entered in a frame that panics with the reader's own word, and in a frame that returns.
-/
import Derived.Test.YtefofalobpepcaaDoorEg
import Derived.Test.YtefofalobpepcaaDoorChecked
import Derived.Tactics
import Derived.Tactics2
import Derived.Defers
import Derived.Recover
namespace Go.Proofs.YtefofalobpepcaaDoor
open Go.RowKit
set_option linter.unusedVariables false

set_option maxRecDepth 20000 in
set_option maxHeartbeats 2000000 in
theorem catch_wrong (p q : Nat) (w : World) (x0 x1 x2 y : Value) (h1 : Blk w p 24 [x0, x1, x2]) (h2 : Blk w q 25 [y]) (hne : q ≠ p) :
    CallsD Tryd.prog 25 #[.pointer (some ⟨p, 0, none⟩), .pointer (some ⟨q, 0, none⟩)] (.panicking [{ v := .iface 51 (.agg #[]), recovered := false }]) w fun e u' w' =>
      e = .returned (.tuple #[]) ∧ u' = .panicking [{ v := .iface 51 (.agg #[]), recovered := true }] ∧ Blk w' p 24 [.int .i64 0, .string ⟨#[]⟩, .int .i64 0] ∧ Blk w' q 25 [.int .i64 3] ∧ (∀ B, B ≤ p → B ≤ q → B ≤ w.heap.size → Below B w w') := by
  have hta : ∀ W : World, (Instr.typeAssert (.iface 51 (.agg #[])) 20 51 true).run Tryd.prog W = .ok (.tuple #[.agg #[], .bool true]) W := fun W => by kernel_rfl
  refine callsD_of_wpS Tryd.func25 rfl fun c₀ cs hu => ?_
  apply wpS_seq
  apply wpS_region
  simp [wpOpsS, go_sem, recoverD, hu, Tryd.ntmps25, Exit.thenS]
  apply wpS_seq
  apply wpS_region
  simp [wpOpsS, go_sem, Exit.thenS]
  refine wpS_cond (t := true) (by simp [Act.eval, Array.replicate]) ?_
  simp only [if_true]
  apply wpS_seq
  apply wpS_seq
  apply wpS_region
  simp [wpOpsS, go_sem, Exit.thenS, hta]
  apply wpS_seq
  apply wpS_region
  simp [wpOpsS, go_sem, Exit.thenS]
  refine wpS_cond (t := false) (by simp [Act.eval, Array.replicate]) ?_
  simp only [Bool.false_eq_true, if_false]
  refine wpS_of_wp (wp_skip ?_)
  simp only [Exit.thenS]
  apply wpS_region
  have g1 := h1.alloc (.cells #[] 51)
  have g2 := h2.alloc (.cells #[] 51)
  have hb0 : ∀ B, B ≤ w.heap.size → Below B w (w.alloc (.cells #[] 51)) := fun B hB => (Below.refl _ _).alloc hB _
  generalize w.alloc (.cells #[] 51) = w1 at g1 g2 hb0 ⊢
  have a0 := g1.cell 0 rfl
  have a1 := g1.cell 1 rfl
  have a2 := g1.cell 2 rfl
  have f0 := g1.frozen 0
  have f1 := g1.frozen 1
  have f2 := g1.frozen 2
  have b0 := g2.cell 0 rfl
  have b1 := g2.frozen 0
  simp [wpOpsS, go_sem, a0, a1, a2, f0, f1, f2, b0, b1, bodyPostS, results, Tryd.results25]
  refine ⟨(((g1.set 0 _).set 1 _).set 2 _).setOther _ _ (fun e => hne e.symm), ((((g2.setOther _ _ hne).setOther _ _ hne).setOther _ _ hne).set 0 _), fun B h1 h2 h3 => ?_⟩
  exact ((((hb0 B h3).setCell h1 _).setCell h1 _).setCell h1 _).setCell h2 _

set_option maxRecDepth 20000 in
theorem catch_idle (p q : Addr) (w : World) :
    CallsD Tryd.prog 25 #[.pointer (some p), .pointer (some q)] .returning w fun e u' w' => e = .returned (.tuple #[]) ∧ u' = .returning ∧ w' = w := by
  refine callsD_of_wpS Tryd.func25 rfl fun c₀ cs hu => ?_
  apply wpS_seq
  apply wpS_region
  simp [wpOpsS, go_sem, recoverD, hu, Tryd.ntmps25, Exit.thenS]
  apply wpS_seq
  apply wpS_region
  simp [wpOpsS, go_sem, Exit.thenS]
  refine wpS_cond (t := false) (by simp [Act.eval, Array.replicate]) ?_
  simp only [Bool.false_eq_true, if_false]
  refine wpS_of_wp (wp_skip ?_)
  cases c₀
  simp_all [bodyPostS, results, Tryd.results25]

/-- Peek's end where its body panicked with seal's own word -/
theorem peek_out {tmps : Array Value} {p q : Nat} (ht2 : tmps.getD 2 undef = .pointer (some ⟨p, 0, none⟩)) (ht3 : tmps.getD 3 undef = .pointer (some ⟨q, 0, none⟩)) {W : World} {x0 x1 x2 y : Value} (h1 : Blk W p 24 [x0, x1, x2]) (h2 : Blk W q 25 [y]) (hne : q ≠ p) {B : Nat} (hp : B ≤ p) (hq : B ≤ q) (hW : B ≤ W.heap.size) {R : Ending → World → Prop}
    (hR : ∀ W', Below B W W' → R (.returned (.tuple #[.agg #[.int .i64 0, .string ⟨#[]⟩, .int .i64 0], .int .i64 3])) W') :
    Leaves Tryd.prog Tryd.f14 tmps R [{ target := .fn (Fn.func 25) #[.pointer (some ⟨p, 0, none⟩), .pointer (some ⟨q, 0, none⟩)], args := #[] }] (.panicking [{ v := .iface 51 (.agg #[]), recovered := false }]) W := by
  refine leaves_cons (f := 25) (args := #[.pointer (some ⟨p, 0, none⟩), .pointer (some ⟨q, 0, none⟩)]) (by simp) (by simp [go_sem]) ?_
  refine (catch_wrong p q W x0 x1 x2 y h1 h2 hne).mono ?_
  rintro e u' w'' ⟨rfl, rfl, g1, g2, hb⟩
  refine ⟨_, ?_, hR _ (hb B hp hq hW)⟩
  have k0 := g1.cell 0 rfl
  have k1 := g1.cell 1 rfl
  have k2 := g1.cell 2 rfl
  have k3 := g2.cell 0 rfl
  have t2 : tmps[2]?.getD undef = .pointer (some ⟨p, 0, none⟩) := by rw [← ht2, Array.getD_eq_getD_getElem?]
  have t3 : tmps[3]?.getD undef = .pointer (some ⟨q, 0, none⟩) := by rw [← ht3, Array.getD_eq_getD_getElem?]
  simp [results, Tryd.results14, go_sem, t2, t3, k0, k1, k2, k3]
theorem peek_ret {tmps : Array Value} {p q : Nat} (ht2 : tmps.getD 2 undef = .pointer (some ⟨p, 0, none⟩)) (ht3 : tmps.getD 3 undef = .pointer (some ⟨q, 0, none⟩)) {W : World} {x0 x1 x2 y : Value} (h1 : Blk W p 24 [x0, x1, x2]) (h2 : Blk W q 25 [y]) {R : Ending → World → Prop}
    (hR : R (.returned (.tuple #[.agg #[x0, x1, x2], y])) W) :
    Leaves Tryd.prog Tryd.f14 tmps R [{ target := .fn (Fn.func 25) #[.pointer (some ⟨p, 0, none⟩), .pointer (some ⟨q, 0, none⟩)], args := #[] }] .returning W := by
  have k0 := h1.cell 0 rfl
  have k1 := h1.cell 1 rfl
  have k2 := h1.cell 2 rfl
  have k3 := h2.cell 0 rfl
  refine leaves_cons (f := 25) (args := #[.pointer (some ⟨p, 0, none⟩), .pointer (some ⟨q, 0, none⟩)]) (by simp) (by simp [go_sem]) ?_
  refine (catch_idle ⟨p, 0, none⟩ ⟨q, 0, none⟩ W).mono ?_
  rintro e u' w'' ⟨rfl, rfl, rfl⟩
  refine ⟨_, ?_, hR⟩
  have t2 : tmps[2]?.getD undef = .pointer (some ⟨p, 0, none⟩) := by rw [← ht2, Array.getD_eq_getD_getElem?]
  have t3 : tmps[3]?.getD undef = .pointer (some ⟨q, 0, none⟩) := by rw [← ht3, Array.getD_eq_getD_getElem?]
  simp [results, Tryd.results14, go_sem, t2, t3, k0, k1, k2, k3]
end Go.Proofs.YtefofalobpepcaaDoor
