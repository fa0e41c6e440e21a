/-
  FieldBack: the row 'FieldBackUptoSaid' is proved: for every input of bulk at most 1048576 the call returns true and each argument reads as it did.
-/
import Derived.Test.YtemlggemomiaeaaLift
import Derived.Test.YtemlggemomiaeaaOpr
import Derived.Test.YtemlggemomiaeaaFr
namespace Go.Proofs.Ytemlggemomiaeaa.fieldBack
open Go.ChangeShapes Go.WideShapes Go.ChangeAt Go.RowKit Go.ChangeMaps
set_option linter.unusedVariables false

theorem contract (H : Type) (enc : TypeId × Value → H) (W : World) (base : Nat) (args : Array Value) (ds gs : List (DataW H)) (before : List MemPlace)
    (hval : ∀ (j : Nat) t v, Try.f9.params[j]? = some t → args[j]? = some v → Value.okWide Try.prog W .any base t v)
    (hW : DataW.Whole enc Try.prog Try.f9.params.toList Rows.fieldBackSpec.vars false W args.toList ds gs before)
    (hz : (DataW.weightsEach Try.prog (Try.f9.params.toList ++ Rows.fieldBackSpec.plain.varTypes Try.prog) (ds ++ gs)).all (· ≤ reachBytes) = true) (hk : Rows.uptoSmall H (ds ++ gs) = true) :
    Calls Try.prog 9 args W fun e W' => ∃ v, e = .returned v ∧ Rows.fieldBackSpec.post enc Try.prog Try.f9 false true false false W args v W' := by
  have hW' := hW
  obtain ⟨p, q, hA0, hV, rfl, hfz, hnd⟩ := hW
  have hA : DataW.TrodAll enc Try.prog W 0 (fun _ => true) true Try.f9.params.toList args.toList ds p := hA0
  rw [Try.params9] at hA hval
  obtain ⟨v0, vs0, d0, ds0, p0, q0, hargs, rfl, rfl, h0, r0⟩ := trodAll_cons hA
  obtain ⟨v1, vs1, d1, ds1, p1, q1, rfl, rfl, rfl, h1, r1⟩ := trodAll_cons r0
  obtain ⟨rfl, rfl, rfl⟩ := trodAll_nil r1
  obtain rfl : args = #[v0, v1] := by cases args; simp_all
  obtain ⟨rfl, rfl⟩ := trodVars_none hV
  have hk1 : Rows.uptoBulkAll ([d0, d1] ++ []) ≤ 1048576 := of_decide_eq_true hk
  simp only [Rows.uptoBulkAll, List.append_nil] at hk1
  obtain ⟨a0, rfl, rfl, rfl, w0⟩ := open_string Try.underlying9 (hval 0 9 v0 rfl rfl) h0
  have z0 : a0.size ≤ 140737488355328 := by have h := sized_string hz (j := 0) rfl rfl; rw [Array.length_toList] at h; have h2 := reachBytes_lt; show a0.data.size ≤ _; omega
  have u0 : a0.size ≤ 1048576 := by simp only [Rows.uptoBulk, Array.length_toList] at hk1; show a0.data.size ≤ _; omega
  obtain ⟨a1, n1⟩ := open_prs (hval 1 30 v1 rfl rfl) h1
  have z1 := n1.bulk (n := 1048576) (by omega)
  obtain ⟨x0, rfl⟩ : ∃ x : List UInt8, a0 = ⟨x.toArray⟩ := ⟨_, str_mk a0⟩
  rw [mk_size] at z0 u0
  refine (fieldBack_walk x0 (by omega) v1 a1 W n1.rd (n1.short hz (j := 1) rfl rfl)).mono fun e W' ⟨he, hb⟩ => ?_
  subst he
  exact ⟨_, rfl, law_post (tb := 4) hW' Try.laidOut rfl (by kernel_rfl) (by kernel_rfl) Try.underlying4 rfl hb⟩

set_option maxRecDepth 100000 in
theorem lifted (os : Os) (started : os.Started) (H : Type) (enc : TypeId × Value → H) (F : Stop.Interp) :
    ReturnsInHanded {} Try.checked os 9 .any ((Rows.OpenSpec.upto Rows.fieldBackSpec).pre6 enc Try.prog Try.f9 Rows.fieldBackUptoRow.domain false) (((Rows.OpenSpec.upto Rows.fieldBackSpec).at F).post enc Try.prog Try.f9 false true false false) := by
  refine returnsInHanded_of_cond_sized (C := Try.checked) (s := Rows.OpenSpec.upto Rows.fieldBackSpec) (k := Rows.uptoSmall) rfl Try.own started (by kernel_rfl) Try.func9
    (OpenSpec.witness (enc := enc) (C := Try.checked) (s := Rows.OpenSpec.upto Rows.fieldBackSpec) (k := Rows.uptoSmall) rfl false ⟨#[], #[.string ⟨#[]⟩, .slice none 0 0], []⟩ 8 (by kernel_rfl) (by kernel_rfl) (by kernel_rfl)
      (x := ([.lit (.string []), .nil], [], [])) (by kernel_rfl) rfl (by kernel_rfl)) ?_
  intro W base args ds gs before hval hW _ hk hz _
  exact contract H enc W base args ds gs before hval hW hz hk

theorem proved : Rows.FieldBackUptoSaid :=
  OpenClaim.holds_of_cond 9 Try.f9 rfl rfl rfl rfl rfl rfl rfl ⟨rfl, rfl, rfl, rfl, rfl⟩ rfl rfl rfl rfl rfl (by kernel_rfl) Try.func9 (by kernel_rfl)
    (of_decide_eq_true (by kernel_rfl)) (by unfold Func.isWrapper; first | (rw [if_pos (by decide +kernel)]; kernel_rfl) | (rw [if_neg (by decide +kernel)]; exact ⟨rfl, rfl⟩))
    (fun os started H enc _ F => lifted os started H enc F)
end Go.Proofs.Ytemlggemomiaeaa.fieldBack
