/-
  RollHeaders: the row 'RollHeadersUptoSaid' is proved: for every input of bulk at most 1048576 the call returns true and each argument reads as it did.
-/
import Derived.Test.YtonbpekogfaibaaGreatLift
import Derived.Test.YtonbpekogfaibaaGreatOpw
import Derived.Test.YtonbpekogfaibaaGreatP3
namespace Go.Proofs.YtonbpekogfaibaaGreat.rollHeaders
open Go.ChangeShapes Go.WideShapes Go.ChangeAt Go.RowKit Go.ChangeMaps
set_option linter.unusedVariables false

set_option maxRecDepth 100000 in
theorem contract (H : Type) (enc : TypeId × Value → H) (W : World) (base : Nat) (args : Array Value) (ds gs : List (DataW H)) (before : List MemPlace)
    (hval : ∀ (j : Nat) t v, Tryz.f4.params[j]? = some t → args[j]? = some v → Value.okWide Tryz.prog W .any base t v)
    (hW : DataW.Whole enc Tryz.prog Tryz.f4.params.toList Rows.rollHeadersSpec.vars false W args.toList ds gs before)
    (hz : (DataW.weightsEach Tryz.prog (Tryz.f4.params.toList ++ Rows.rollHeadersSpec.plain.varTypes Tryz.prog) (ds ++ gs)).all (· ≤ reachBytes) = true) (hk : Rows.uptoSmall H (ds ++ gs) = true) :
    Calls Tryz.prog 4 args W fun e W' => ∃ v, e = .returned v ∧ Rows.rollHeadersSpec.post enc Tryz.prog Tryz.f4 false true false false W args v W' := by
  have hW' := hW
  obtain ⟨p, q, hA0, hV, rfl, hfz, hnd⟩ := hW
  have hA : DataW.TrodAll enc Tryz.prog W 0 (fun _ => true) true Tryz.f4.params.toList args.toList ds p := hA0
  rw [Tryz.params4] at hA hval
  obtain ⟨v0, vs0, d0, ds0, p0, q0, hargs, rfl, rfl, h0, r0⟩ := trodAll_cons hA
  obtain ⟨v1, vs1, d1, ds1, p1, q1, rfl, rfl, rfl, h1, r1⟩ := trodAll_cons r0
  obtain ⟨v2, vs2, d2, ds2, p2, q2, rfl, rfl, rfl, h2, r2⟩ := trodAll_cons r1
  obtain ⟨rfl, rfl, rfl⟩ := trodAll_nil r2
  obtain rfl : args = #[v0, v1, v2] := by cases args; simp_all
  obtain ⟨rfl, rfl⟩ := trodVars_none hV
  have hk1 : Rows.uptoBulkAll ([d0, d1, d2] ++ []) ≤ 1048576 := of_decide_eq_true hk
  simp only [Rows.uptoBulkAll, List.append_nil] at hk1
  obtain ⟨l0, vs0, n0, z0⟩ := open_cls (hval 0 22 v0 rfl rfl) h0 (fun m hm => by have := List.all_eq_true.1 hz _ (DataW.weights_mem_each (j := 0) rfl rfl m hm); simpa using this)
  obtain ⟨a1, rfl, rfl, rfl, w1⟩ := open_string Tryz.underlying9 (hval 1 9 v1 rfl rfl) h1
  have z1 : a1.size ≤ 140737488355328 := by have h := sized_string hz (j := 1) rfl rfl; rw [Array.length_toList] at h; exact Nat.le_trans h (by decide)
  have u1 : a1.size ≤ 1048576 := by simp only [Rows.uptoBulk, Array.length_toList] at hk1; show a1.data.size ≤ _; omega
  obtain ⟨a2, rfl, rfl, rfl, w2⟩ := open_string Tryz.underlying9 (hval 2 9 v2 rfl rfl) h2
  have z2 : a2.size ≤ 140737488355328 := by have h := sized_string hz (j := 2) rfl rfl; rw [Array.length_toList] at h; exact Nat.le_trans h (by decide)
  have u2 : a2.size ≤ 1048576 := by simp only [Rows.uptoBulk, Array.length_toList] at hk1; show a2.data.size ≤ _; omega
  obtain ⟨x1, rfl⟩ : ∃ x : List UInt8, a1 = ⟨x.toArray⟩ := ⟨_, str_mk a1⟩
  rw [mk_size] at z1 u1
  obtain ⟨x2, rfl⟩ : ∃ x : List UInt8, a2 = ⟨x.toArray⟩ := ⟨_, str_mk a2⟩
  rw [mk_size] at z2 u2
  refine (Ro.headers_walk v0 l0 vs0 x1 x2 W n0 z0 (by omega) (by omega)).mono fun e W' ⟨he, hb⟩ => ?_
  subst he
  exact ⟨_, rfl, law_post (tb := 4) hW' Tryz.laidOut rfl (by kernel_rfl) (by kernel_rfl) Tryz.underlying4 rfl hb⟩

set_option maxRecDepth 100000 in
theorem lifted (os : Os) (started : os.Started) (H : Type) (enc : TypeId × Value → H) (F : Stop.Interp) :
    ReturnsInHanded {} Tryz.checked os 4 .any ((Rows.OpenSpec.upto Rows.rollHeadersSpec).pre6 enc Tryz.prog Tryz.f4 Rows.rollHeadersUptoRow.domain false) (((Rows.OpenSpec.upto Rows.rollHeadersSpec).at F).post enc Tryz.prog Tryz.f4 false true false false) := by
  refine returnsInHanded_of_cond_sized (C := Tryz.checked) (s := Rows.OpenSpec.upto Rows.rollHeadersSpec) (k := Rows.uptoSmall) rfl Tryz.own started (by kernel_rfl) Tryz.func4
    (OpenSpec.witness (enc := enc) (C := Tryz.checked) (s := Rows.OpenSpec.upto Rows.rollHeadersSpec) (k := Rows.uptoSmall) rfl false ⟨#[], #[.slice none 0 0, .string ⟨#[]⟩, .string ⟨#[]⟩], []⟩ 8 (by kernel_rfl) (by kernel_rfl) (by kernel_rfl)
      (x := ([.nil, .lit (.string []), .lit (.string [])], [], [])) (by kernel_rfl) rfl (by kernel_rfl)) ?_
  intro W base args ds gs before hval hW _ hk hz _
  exact contract H enc W base args ds gs before hval hW hz hk

theorem proved : Rows.RollHeadersUptoSaid :=
  OpenClaim.holds_of_cond 4 Tryz.f4 rfl rfl rfl rfl rfl rfl rfl ⟨rfl, rfl, rfl, rfl, rfl⟩ rfl rfl rfl rfl rfl (by kernel_rfl) Tryz.func4 (by kernel_rfl)
    (of_decide_eq_true (by kernel_rfl)) (by unfold Func.isWrapper; first | (rw [if_pos (by decide +kernel)]; kernel_rfl) | (rw [if_neg (by decide +kernel)]; exact ⟨rfl, rfl⟩))
    (fun os started H enc _ F => lifted os started H enc F)
end Go.Proofs.YtonbpekogfaibaaGreat.rollHeaders
