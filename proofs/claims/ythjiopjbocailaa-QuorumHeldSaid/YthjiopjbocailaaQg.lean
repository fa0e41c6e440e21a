/-
  Chapter 21: the walk of QuorumCounts.
-/
import Derived.Test.YthjiopjbocailaaQf
namespace Go.Proofs.Ythjiopjbocailaa
open Go.RowKit

theorem wf_i64 {n : Int} (h : (Lit.int .i64 n).wf = true) : -9223372036854775808 ≤ n ∧ n ≤ 9223372036854775807 := by
  simp only [Lit.wf, Bool.and_eq_true, decide_eq_true_eq] at h
  rw [show IntKind.i64.min = -9223372036854775808 from rfl, show IntKind.i64.max = 9223372036854775807 from rfl] at h
  exact h
theorem wf_u64 {n : Int} (h : (Lit.int .u64 n).wf = true) : ∃ c : Nat, n = c ∧ c < 18446744073709551616 := by
  simp only [Lit.wf, Bool.and_eq_true, decide_eq_true_eq] at h
  rw [show IntKind.u64.min = 0 from rfl, show IntKind.u64.max = 18446744073709551615 from rfl] at h
  exact ⟨n.toNat, by omega, by omega⟩

set_option maxRecDepth 20000 in
set_option maxHeartbeats 1000000 in
theorem quorumCounts_walk (view n : Int) (c : Nat) (w : World) (hv : view ≤ 9223372036854775807) (hc : c < 18446744073709551616) :
    Calls Try.prog 3 #[.int .i64 view, .int .i64 n, .int .u64 c] w fun e w' => e = .returned (.bool true) ∧ Below w.heap.size w w' := by
  have m1 := fun w => maj_any n w
  have m2 := fun w => rmaj_any n w
  have p1 := fun w => prim_any view n w
  have p2 := fun w => rprim_any view n w hv
  have c1 := fun w => enough_any c n w hc
  have c2 := fun w => renough_any c n w hc
  generalize Qs.maj n = m at m1 m2
  generalize Qs.prim view n = p at p1 p2
  generalize Qs.enough c n = q at c1 c2
  have M1 := Lib.hid m1
  have M2 := Lib.hid m2
  have P1 := Lib.hid p1
  have P2 := Lib.hid p2
  have C1 := Lib.hid c1
  have C2 := Lib.hid c2
  clear m1 m2 p1 p2 c1 c2
  go_enter Try.func3, Try.ntmps3
  go_wp2_with fail
  refine (known_any _).mono ?_
  rintro e w1 ⟨rfl, hb1⟩
  go_wp2_with fail
  refine (M1.out _).mono ?_
  rintro e w2 ⟨rfl, e2⟩
  subst e2
  go_wp2_with fail
  refine (M2.out _).mono ?_
  rintro e w2 ⟨rfl, e2⟩
  subst e2
  go_wp2_with fail
  refine (P1.out _).mono ?_
  rintro e w2 ⟨rfl, e2⟩
  subst e2
  go_wp2_with fail
  refine (P2.out _).mono ?_
  rintro e w2 ⟨rfl, e2⟩
  subst e2
  go_wp2_with fail
  refine (C1.out _).mono ?_
  rintro e w2 ⟨rfl, e2⟩
  subst e2
  go_wp2_with fail
  refine (C2.out _).mono ?_
  rintro e w2 ⟨rfl, e2⟩
  subst e2
  go_wp2
  go_ret
  exact ⟨rfl, hb1⟩
end Go.Proofs.Ythjiopjbocailaa
