/-
  RollKeeps: the row 'RollKeepsUptoSaid' is proved: for every input of bulk at most 1048576 the call returns true and each argument reads as it did.
-/
import Derived.Test.YtonbpekogfaibaaLift
import Derived.Test.YtonbpekogfaibaaOpw
import Derived.Test.YtonbpekogfaibaaO2
namespace Go.Proofs.Ytonbpekogfaibaa.rollKeeps
open Go.ChangeShapes Go.WideShapes Go.ChangeAt Go.RowKit Go.ChangeMaps
set_option linter.unusedVariables false

set_option maxRecDepth 100000 in
theorem contract (H : Type) (enc : TypeId × Value → H) (W : World) (base : Nat) (args : Array Value) (ds gs : List (DataW H)) (before : List MemPlace)
    (hval : ∀ (j : Nat) t v, Try.f6.params[j]? = some t → args[j]? = some v → Value.okWide Try.prog W .any base t v)
    (hW : DataW.Whole enc Try.prog Try.f6.params.toList Rows.rollKeepsSpec.vars false W args.toList ds gs before)
    (hz : (DataW.weightsEach Try.prog (Try.f6.params.toList ++ Rows.rollKeepsSpec.plain.varTypes Try.prog) (ds ++ gs)).all (· ≤ reachBytes) = true) (hk : Rows.uptoSmall H (ds ++ gs) = true) :
    Calls Try.prog 6 args W fun e W' => ∃ v, e = .returned v ∧ Rows.rollKeepsSpec.post enc Try.prog Try.f6 false true false false W args v W' := by
  have hW' := hW
  obtain ⟨p, q, hA0, hV, rfl, hfz, hnd⟩ := hW
  have hA : DataW.TrodAll enc Try.prog W 0 (fun _ => true) true Try.f6.params.toList args.toList ds p := hA0
  rw [Try.params6] at hA hval
  obtain ⟨v0, vs0, d0, ds0, p0, q0, hargs, rfl, rfl, h0, r0⟩ := trodAll_cons hA
  obtain ⟨v1, vs1, d1, ds1, p1, q1, rfl, rfl, rfl, h1, r1⟩ := trodAll_cons r0
  obtain ⟨rfl, rfl, rfl⟩ := trodAll_nil r1
  obtain rfl : args = #[v0, v1] := by cases args; simp_all
  obtain ⟨rfl, rfl⟩ := trodVars_none hV
  have hk1 : Rows.uptoBulkAll ([d0, d1] ++ []) ≤ 1048576 := of_decide_eq_true hk
  simp only [Rows.uptoBulkAll, List.append_nil] at hk1
  obtain ⟨l0, vs0, n0, z0⟩ := open_cls (hval 0 22 v0 rfl rfl) h0 (fun m hm => by have := List.all_eq_true.1 hz _ (DataW.weights_mem_each (j := 0) rfl rfl m hm); simpa using this)
  obtain ⟨a1, rfl, rfl, rfl, w1⟩ := open_string Try.underlying9 (hval 1 9 v1 rfl rfl) h1
  have z1 : a1.size ≤ 140737488355328 := by have h := sized_string hz (j := 1) rfl rfl; rw [Array.length_toList] at h; exact Nat.le_trans h (by decide)
  have u1 : a1.size ≤ 1048576 := by simp only [Rows.uptoBulk, Array.length_toList] at hk1; show a1.data.size ≤ _; omega
  obtain ⟨x1, rfl⟩ : ∃ x : List UInt8, a1 = ⟨x.toArray⟩ := ⟨_, str_mk a1⟩
  rw [mk_size] at z1 u1
  refine (Ro.keeps_walk v0 l0 vs0 x1 W n0 z0 (by omega)).mono fun e W' ⟨he, hb⟩ => ?_
  subst he
  exact ⟨_, rfl, law_post (tb := 4) hW' Try.laidOut rfl (by kernel_rfl) (by kernel_rfl) Try.underlying4 rfl hb⟩

set_option maxRecDepth 100000 in
theorem lifted (os : Os) (started : os.Started) (H : Type) (enc : TypeId × Value → H) (F : Stop.Interp) :
    ReturnsInHanded {} Try.checked os 6 .any ((Rows.OpenSpec.upto Rows.rollKeepsSpec).pre6 enc Try.prog Try.f6 Rows.rollKeepsUptoRow.domain false) (((Rows.OpenSpec.upto Rows.rollKeepsSpec).at F).post enc Try.prog Try.f6 false true false false) := by
  refine returnsInHanded_of_cond_sized (C := Try.checked) (s := Rows.OpenSpec.upto Rows.rollKeepsSpec) (k := Rows.uptoSmall) rfl Try.own started (by kernel_rfl) Try.func6
    (OpenSpec.witness (enc := enc) (C := Try.checked) (s := Rows.OpenSpec.upto Rows.rollKeepsSpec) (k := Rows.uptoSmall) rfl false ⟨#[], #[.slice none 0 0, .string ⟨#[]⟩], []⟩ 8 (by kernel_rfl) (by kernel_rfl) (by kernel_rfl)
      (x := ([.nil, .lit (.string [])], [], [])) (by kernel_rfl) rfl (by kernel_rfl)) ?_
  intro W base args ds gs before hval hW _ hk hz _
  exact contract H enc W base args ds gs before hval hW hz hk

theorem proved : Rows.RollKeepsUptoSaid :=
  OpenClaim.holds_of_cond 6 Try.f6 rfl rfl rfl rfl rfl rfl rfl ⟨rfl, rfl, rfl, rfl, rfl⟩ rfl rfl rfl rfl rfl (by kernel_rfl) Try.func6 (by kernel_rfl)
    (of_decide_eq_true (by kernel_rfl)) (by unfold Func.isWrapper; first | (rw [if_pos (by decide +kernel)]; kernel_rfl) | (rw [if_neg (by decide +kernel)]; exact ⟨rfl, rfl⟩))
    (fun os started H enc _ F => lifted os started H enc F)
end Go.Proofs.Ytonbpekogfaibaa.rollKeeps
