/-
  Chapter 15: the reference's Find and Same.
-/
import Derived.Test.YtonbpekogfaibaaGreatOr
import Derived.Test.YtonbpekogfaibaaGreatNh
import Derived.Test.YtonbpekogfaibaaGreatNj
namespace Go.Proofs.YtonbpekogfaibaaGreat.Ro
open Go.RowKit Go.Maps Go.Sort
set_option linter.unusedVariables false
set_option linter.unusedSimpArgs false
set_option maxRecDepth 100000

theorem find_take_succ {l : List Cl} {k : Nat} {c : Cl} (hk : l[k]? = some c) (x : By) (h : find (l.take k) x = none) : find (l.take (k + 1)) x = if c.id = x then some c else none := by
  rw [List.take_add_one, hk, Option.toList_some, find_snoc, h, Option.none_or]
theorem find_of_take {l : List Cl} {k : Nat} {c : Cl} (x : By) (h : find (l.take k) x = some c) : find l x = some c := by
  have := (List.take_append_drop k l)
  rw [← this]
  unfold find at *
  rw [List.find?_append, h]
  rfl
set_option maxHeartbeats 4000000 in
theorem rfind_any (v : Value) (l : List Cl) (vs : Nat → V3) (x : By) (w : World) (h : CsAt w v l vs) (hl : l.length ≤ 4611686018427387904) :
    Calls Tryz.prog 25 #[v, .string ⟨x.toArray⟩] w fun e w' => ∃ u0 u1 u2, e = .returned (.tuple #[av (fC l x) (u0, u1, u2), .bool (find l x).isSome]) ∧ RdC w' (fC l x) (u0, u1, u2) ∧ Below w.heap.size w w' := by
  obtain ⟨a, c, rfl⟩ := h.shp
  have H := Lib.hid h
  have hz := Blk.new w 40 (c6 noC z3)
  have hw1 : Below w.heap.size w (w.alloc (.cells #[.string ⟨#[]⟩, .string ⟨#[]⟩, .bool false, .slice none 0 0, .slice none 0 0, .slice none 0 0] 40)) := (Below.refl _ _).alloc (Nat.le_refl _) _
  have HW := Lib.hid (And.intro hz hw1)
  clear h hz hw1
  go_enter Tryz.func25, Tryz.ntmps25
  go_wp2_with fail
  have hz0 : Blk (w.alloc (.cells #[.string ⟨#[]⟩, .string ⟨#[]⟩, .bool false, .slice none 0 0, .slice none 0 0, .slice none 0 0] 40)) w.heap.size 40 (c6 noC z3) := HW.out.1
  have hb0 := HW.out.2
  generalize (w.alloc (.cells #[.string ⟨#[]⟩, .string ⟨#[]⟩, .bool false, .slice none 0 0, .slice none 0 0, .slice none 0 0] 40)) = W0 at *
  go_loopw [5, 6] (fun r i wr => wr = W0 ∧ ∃ k : Nat, k ≤ l.length ∧ r = .bool false ∧ i = .int .i64 (k : Int) ∧ find (l.take k) x = none) (fun _ i _ => l.length - (intOf i).toNat)
  case atStart => exact ⟨rfl, 0, Nat.zero_le _, rfl, rfl, rfl⟩
  case round =>
    obtain ⟨rfl, k, hk, rfl, rfl, hno⟩ := hrel
    have r0 := hz0.cell 0 rfl
    have f0 := hz0.frozen 0
    have f1 := hz0.frozen 1
    have f2 := hz0.frozen 2
    have f3 := hz0.frozen 3
    have f4 := hz0.frozen 4
    have f5 := hz0.frozen 5
    have r1 := hz0.cell 1 rfl
    have r2 := hz0.cell 2 rfl
    have r3 := hz0.cell 3 rfl
    have r4 := hz0.cell 4 rfl
    have r5 := hz0.cell 5 rfl
    by_cases hkn : k < l.length
    case neg =>
      have g1 : ¬ (k : Int) < (l.length : Int) := by omega
      have hke : l.take k = l := List.take_of_length_le (by omega)
      rw [hke] at hno
      have HQ : Hid (fC l x = noC ∧ (find l x).isSome = false) := Lib.hid ⟨by unfold fC; rw [hno]; rfl, by rw [hno]; rfl⟩
      have HZ := Lib.hid (And.intro hz0 hb0)
      clear hno hke hz0 hb0
      go_wp2_with fail
      refine ret_ac_tmp rfl rfl rfl (Blk.set6 (x := noC) (y := z3) HZ.out.1) ?_
      refine ⟨.slice none 0 0, .slice none 0 0, .slice none 0 0, ?_, ?_, below_set6 HZ.out.2 (Nat.le_refl _)⟩
      · rw [HQ.out.1, HQ.out.2]; rfl
      · rw [HQ.out.1]; exact ⟨RdS.nil _, RdS.nil _, RdS.nil _⟩
    case pos =>
      have g1 : (k : Int) < (l.length : Int) := by omega
      obtain ⟨y, hy⟩ : ∃ y, l[k]? = some y := ⟨_, List.getElem?_eq_getElem hkn⟩
      obtain ⟨b, o, c9, e9, hbB, hcel⟩ := H.out.cel (by omega)
      obtain ⟨rfl, rfl⟩ : a = some ⟨b, o, none⟩ ∧ c = c9 := by cases e9; exact ⟨rfl, rfl⟩
      have hrow := H.out.row k y hy
      have hcl : ∀ (j : Nat) (u : Value), (c6 y (vs k))[j]? = some u → wr.cell? ⟨b, o + k * 6 + j, none⟩ = some u := fun j u hj => (World.cell?_of_block (a := ⟨b, o + k * 6 + j, none⟩) (hb0.block b hbB)).trans (hcel k y hy j u hj)
      obtain ⟨v, hv⟩ : ∃ v, v = vs k := ⟨_, rfl⟩
      rw [← hv] at hrow hcl
      obtain ⟨v0, v1, v2⟩ := v
      obtain ⟨a0, k0, e0⟩ := hrow.1.1.slice
      obtain ⟨a1, k1, e1⟩ := hrow.2.1.1.slice
      obtain ⟨a2, k2, e2⟩ := hrow.2.2.1.slice
      simp only at e0 e1 e2
      subst e0 e1 e2
      have d0 : wr.cell? ⟨b, o + k * 6, none⟩ = some (.string ⟨y.id.toArray⟩) := hcl 0 _ rfl
      have d1 := hcl 1 _ rfl
      have d2 := hcl 2 _ rfl
      have d3 := hcl 3 _ rfl
      have d4 := hcl 4 _ rfl
      have d5 := hcl 5 _ rfl
      have HY := Lib.hid (And.intro hy (And.intro hno (And.intro hrow hz0)))
      have HB := Lib.hid hb0
      by_cases hid : y.id = x
      case pos =>
        subst hid
        have h1 : (y.id == y.id) = true := by simp
        have h2 := str_eq h1
        have hf : find l y.id = some y := find_of_take (k := k + 1) y.id (by rw [find_take_succ hy y.id hno, if_pos rfl])
        have HQ : Hid (fC l y.id = y ∧ (find l y.id).isSome = true) := Lib.hid ⟨by unfold fC; rw [hf]; rfl, by rw [hf]; rfl⟩
        clear hf hno hy hrow hcl hcel hv hbB hb0 hz0 h1
        clear HW hk e9
        go_wp2_with fail
        refine ret_ac_tmp rfl rfl rfl (Blk.set6 (x := y) (y := (.slice a0 y.red.length k0, .slice a1 y.sco.length k1, .slice a2 y.gra.length k2)) HY.out.2.2.2) ?_
        refine ⟨.slice a0 y.red.length k0, .slice a1 y.sco.length k1, .slice a2 y.gra.length k2, ?_, ?_, below_set6 HB.out (Nat.le_refl _)⟩
        · rw [HQ.out.1, HQ.out.2]; rfl
        · rw [HQ.out.1]; exact HY.out.2.2.1.below (below_set6 HB.out (Nat.le_refl _))
      case neg =>
        have h1 : (y.id == x) = false := by simpa using hid
        have h2 := str_ne h1
        have HN := Lib.hid (show find (l.take (k + 1)) x = none by rw [find_take_succ hy x hno, if_neg hid])
        clear hno hy hrow hcl hcel hv hbB
        go_wp2_with fail
        exact ⟨⟨trivial, k + 1, by omega, rfl, by go_num, HN.out⟩, by simp [intOf]; omega⟩
/-- the same client? -/
def sameC (a b : Cl) : Bool := decide (a.id = b.id) && decide (a.sec = b.sec) && (a.pub == b.pub) && decide (a.red = b.red) && decide (a.sco = b.sco) && decide (a.gra = b.gra)
theorem sameC_iff (a b : Cl) : sameC a b = true ↔ a = b := by
  unfold sameC
  obtain ⟨a1, a2, a3, a4, a5, a6⟩ := a
  obtain ⟨b1, b2, b3, b4, b5, b6⟩ := b
  simp [and_assoc]
end Go.Proofs.YtonbpekogfaibaaGreat.Ro
/- Chapter 15: the reference's Redirect and Scope. Printed by gen_roll_rgives.py. -/
namespace Go.Proofs.YtonbpekogfaibaaGreat.Ro
open Go.RowKit Go.Maps Go.Sort
set_option linter.unusedVariables false
set_option linter.unusedSimpArgs false
set_option maxRecDepth 100000

/-- where a client's answers go, by the reference -/
def rredir (ok : Bool) (c : Cl) (uri : By) : By × Bool := if ok = false then ([], false) else redir c uri
end Go.Proofs.YtonbpekogfaibaaGreat.Ro
