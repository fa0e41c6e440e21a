/-
  RollGives: the row 'RollGivesSaid' is proved: for every input the call returns true and each argument reads as it did.
-/
import Derived.Test.YtonbpekogfaibaaLift
import Derived.Test.YtonbpekogfaibaaOpw
import Derived.Test.YtonbpekogfaibaaOps
import Derived.Test.YtonbpekogfaibaaOy
namespace Go.Proofs.Ytonbpekogfaibaa.rollGives
open Go.ChangeShapes Go.WideShapes Go.ChangeAt Go.RowKit Go.ChangeMaps
set_option linter.unusedVariables false

set_option maxRecDepth 100000 in
theorem contract (H : Type) (enc : TypeId × Value → H) (W : World) (base : Nat) (args : Array Value) (ds gs : List (DataW H)) (before : List MemPlace)
    (hval : ∀ (j : Nat) t v, Try.f4.params[j]? = some t → args[j]? = some v → Value.okWide Try.prog W .any base t v)
    (hW : DataW.Whole enc Try.prog Try.f4.params.toList Rows.rollGivesSpec.vars false W args.toList ds gs before)
    (hz : (DataW.weightsEach Try.prog (Try.f4.params.toList ++ Rows.rollGivesSpec.plain.varTypes Try.prog) (ds ++ gs)).all (· ≤ reachBytes) = true) :
    Calls Try.prog 4 args W fun e W' => ∃ v, e = .returned v ∧ Rows.rollGivesSpec.post enc Try.prog Try.f4 false true false false W args v W' := by
  have hW' := hW
  obtain ⟨p, q, hA0, hV, rfl, hfz, hnd⟩ := hW
  have hA : DataW.TrodAll enc Try.prog W 0 (fun _ => true) true Try.f4.params.toList args.toList ds p := hA0
  rw [Try.params4] at hA hval
  obtain ⟨v0, vs0, d0, ds0, p0, q0, hargs, rfl, rfl, h0, r0⟩ := trodAll_cons hA
  obtain ⟨v1, vs1, d1, ds1, p1, q1, rfl, rfl, rfl, h1, r1⟩ := trodAll_cons r0
  obtain ⟨v2, vs2, d2, ds2, p2, q2, rfl, rfl, rfl, h2, r2⟩ := trodAll_cons r1
  obtain ⟨v3, vs3, d3, ds3, p3, q3, rfl, rfl, rfl, h3, r3⟩ := trodAll_cons r2
  obtain ⟨rfl, rfl, rfl⟩ := trodAll_nil r3
  obtain rfl : args = #[v0, v1, v2, v3] := by cases args; simp_all
  obtain ⟨rfl, rfl⟩ := trodVars_none hV
  obtain ⟨l0, vs0, n0, z0⟩ := open_cls (hval 0 22 v0 rfl rfl) h0 (fun m hm => by have := List.all_eq_true.1 hz _ (DataW.weights_mem_each (j := 0) rfl rfl m hm); simpa using this)
  obtain ⟨a1, rfl, rfl, rfl, w1⟩ := open_string Try.underlying9 (hval 1 9 v1 rfl rfl) h1
  have z1 : a1.size ≤ 140737488355328 := by have h := sized_string hz (j := 1) rfl rfl; rw [Array.length_toList] at h; exact Nat.le_trans h (by decide)
  obtain ⟨a2, rfl, rfl, rfl, w2⟩ := open_string Try.underlying9 (hval 2 9 v2 rfl rfl) h2
  have z2 : a2.size ≤ 140737488355328 := by have h := sized_string hz (j := 2) rfl rfl; rw [Array.length_toList] at h; exact Nat.le_trans h (by decide)
  obtain ⟨a3, n3⟩ := open_ss (hval 3 30 v3 rfl rfl) h3
  obtain ⟨x1, rfl⟩ : ∃ x : List UInt8, a1 = ⟨x.toArray⟩ := ⟨_, str_mk a1⟩
  rw [mk_size] at z1
  obtain ⟨x2, rfl⟩ : ∃ x : List UInt8, a2 = ⟨x.toArray⟩ := ⟨_, str_mk a2⟩
  rw [mk_size] at z2
  refine (Ro.gives_walk v0 l0 vs0 x1 x2 v3 a3 W n0 z0 (by omega) n3).mono fun e W' ⟨he, hb⟩ => ?_
  subst he
  exact ⟨_, rfl, law_post (tb := 4) hW' Try.laidOut rfl (by kernel_rfl) (by kernel_rfl) Try.underlying4 rfl hb⟩

set_option maxRecDepth 100000 in
theorem lifted (os : Os) (started : os.Started) (H : Type) (enc : TypeId × Value → H) :
    ReturnsInHanded {} Try.checked os 4 .any (Rows.rollGivesSpec.pre6 enc Try.prog Try.f4 Rows.rollGivesRow.domain false) (Rows.rollGivesSpec.post enc Try.prog Try.f4 false true false false) := by
  refine returnsInHanded_of_change_sized (C := Try.checked) Try.own started (by kernel_rfl) Try.func4
    (ChangeSpec.witness6 (enc := enc) (C := Try.checked) false ⟨#[], #[.slice none 0 0, .string ⟨#[]⟩, .string ⟨#[]⟩, .slice none 0 0], []⟩ 8 (by kernel_rfl) (by kernel_rfl) (by kernel_rfl) (by kernel_rfl)) ?_
  intro W base args ds gs before hval hW _ hz _
  exact contract H enc W base args ds gs before hval hW hz

theorem proved : Rows.RollGivesSaid :=
  OpenClaim.holds_of_wide 4 Try.f4 rfl rfl rfl rfl rfl rfl rfl ⟨rfl, rfl, rfl, rfl, rfl⟩ rfl rfl rfl rfl rfl (by kernel_rfl) Try.func4 (by kernel_rfl)
    (of_decide_eq_true (by kernel_rfl)) (by unfold Func.isWrapper; first | (rw [if_pos (by decide +kernel)]; kernel_rfl) | (rw [if_neg (by decide +kernel)]; exact ⟨rfl, rfl⟩))
    (fun os started H enc _ => lifted os started H enc)
end Go.Proofs.Ytonbpekogfaibaa.rollGives
