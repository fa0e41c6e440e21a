/-
  FieldJoins: the row 'FieldJoinsSaid' is proved: for every input the call returns true and each argument reads as it did.
-/
import Derived.Test.YtemlggemomiaeaaLift
import Derived.Test.YtemlggemomiaeaaOpr
import Derived.Test.YtemlggemomiaeaaFt
namespace Go.Proofs.Ytemlggemomiaeaa.fieldJoins
open Go.ChangeShapes Go.WideShapes Go.ChangeAt Go.RowKit Go.ChangeMaps
set_option linter.unusedVariables false

theorem contract (H : Type) (enc : TypeId × Value → H) (W : World) (base : Nat) (args : Array Value) (ds gs : List (DataW H)) (before : List MemPlace)
    (hval : ∀ (j : Nat) t v, Try.f7.params[j]? = some t → args[j]? = some v → Value.okWide Try.prog W .any base t v)
    (hW : DataW.Whole enc Try.prog Try.f7.params.toList Rows.fieldJoinsSpec.vars false W args.toList ds gs before)
    (hz : (DataW.weightsEach Try.prog (Try.f7.params.toList ++ Rows.fieldJoinsSpec.plain.varTypes Try.prog) (ds ++ gs)).all (· ≤ reachBytes) = true) :
    Calls Try.prog 7 args W fun e W' => ∃ v, e = .returned v ∧ Rows.fieldJoinsSpec.post enc Try.prog Try.f7 false true false false W args v W' := by
  have hW' := hW
  obtain ⟨p, q, hA0, hV, rfl, hfz, hnd⟩ := hW
  have hA : DataW.TrodAll enc Try.prog W 0 (fun _ => true) true Try.f7.params.toList args.toList ds p := hA0
  rw [Try.params7] at hA hval
  obtain ⟨v0, vs0, d0, ds0, p0, q0, hargs, rfl, rfl, h0, r0⟩ := trodAll_cons hA
  obtain ⟨v1, vs1, d1, ds1, p1, q1, rfl, rfl, rfl, h1, r1⟩ := trodAll_cons r0
  obtain ⟨v2, vs2, d2, ds2, p2, q2, rfl, rfl, rfl, h2, r2⟩ := trodAll_cons r1
  obtain ⟨rfl, rfl, rfl⟩ := trodAll_nil r2
  obtain rfl : args = #[v0, v1, v2] := by cases args; simp_all
  obtain ⟨rfl, rfl⟩ := trodVars_none hV
  obtain ⟨a0, rfl, rfl, rfl, w0⟩ := open_string Try.underlying9 (hval 0 9 v0 rfl rfl) h0
  have z0 : a0.size ≤ 140737488355328 := by have h := sized_string hz (j := 0) rfl rfl; rw [Array.length_toList] at h; have h2 := reachBytes_lt; show a0.data.size ≤ _; omega
  obtain ⟨a1, rfl, rfl, rfl, w1⟩ := open_string Try.underlying9 (hval 1 9 v1 rfl rfl) h1
  have z1 : a1.size ≤ 140737488355328 := by have h := sized_string hz (j := 1) rfl rfl; rw [Array.length_toList] at h; have h2 := reachBytes_lt; show a1.data.size ≤ _; omega
  obtain ⟨a2, rfl, rfl, rfl, w2⟩ := open_string Try.underlying9 (hval 2 9 v2 rfl rfl) h2
  have z2 : a2.size ≤ 140737488355328 := by have h := sized_string hz (j := 2) rfl rfl; rw [Array.length_toList] at h; have h2 := reachBytes_lt; show a2.data.size ≤ _; omega
  obtain ⟨x0, rfl⟩ : ∃ x : List UInt8, a0 = ⟨x.toArray⟩ := ⟨_, str_mk a0⟩
  rw [mk_size] at z0
  obtain ⟨x1, rfl⟩ : ∃ x : List UInt8, a1 = ⟨x.toArray⟩ := ⟨_, str_mk a1⟩
  rw [mk_size] at z1
  obtain ⟨x2, rfl⟩ : ∃ x : List UInt8, a2 = ⟨x.toArray⟩ := ⟨_, str_mk a2⟩
  rw [mk_size] at z2
  refine (fieldJoins_walk x0 x1 x2 z0 z1 W).mono fun e W' ⟨he, hb⟩ => ?_
  subst he
  exact ⟨_, rfl, law_post (tb := 4) hW' Try.laidOut rfl (by kernel_rfl) (by kernel_rfl) Try.underlying4 rfl hb⟩

set_option maxRecDepth 100000 in
theorem lifted (os : Os) (started : os.Started) (H : Type) (enc : TypeId × Value → H) :
    ReturnsInHanded {} Try.checked os 7 .any (Rows.fieldJoinsSpec.pre6 enc Try.prog Try.f7 Rows.fieldJoinsRow.domain false) (Rows.fieldJoinsSpec.post enc Try.prog Try.f7 false true false false) := by
  refine returnsInHanded_of_change_sized (C := Try.checked) Try.own started (by kernel_rfl) Try.func7
    (ChangeSpec.witness6 (enc := enc) (C := Try.checked) false ⟨#[], #[.string ⟨#[]⟩, .string ⟨#[]⟩, .string ⟨#[]⟩], []⟩ 8 (by kernel_rfl) (by kernel_rfl) (by kernel_rfl) (by kernel_rfl)) ?_
  intro W base args ds gs before hval hW _ hz _
  exact contract H enc W base args ds gs before hval hW hz

theorem proved : Rows.FieldJoinsSaid :=
  OpenClaim.holds_of_wide 7 Try.f7 rfl rfl rfl rfl rfl rfl rfl ⟨rfl, rfl, rfl, rfl, rfl⟩ rfl rfl rfl rfl rfl (by kernel_rfl) Try.func7 (by kernel_rfl)
    (of_decide_eq_true (by kernel_rfl)) (by unfold Func.isWrapper; first | (rw [if_pos (by decide +kernel)]; kernel_rfl) | (rw [if_neg (by decide +kernel)]; exact ⟨rfl, rfl⟩))
    (fun os started H enc _ => lifted os started H enc)
end Go.Proofs.Ytemlggemomiaeaa.fieldJoins
