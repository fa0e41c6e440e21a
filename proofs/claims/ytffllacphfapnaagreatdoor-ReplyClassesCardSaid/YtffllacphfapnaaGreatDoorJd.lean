/-
  Chapter 5: strconv.AppendBool behind a row of the call's own; a row that is made of one byte.
-/
import Derived.Test.YtffllacphfapnaaGreatDoorJc
import Derived.Lib.AppendStr
namespace Go.Proofs.YtffllacphfapnaaGreatDoor
open Go.RowKit Js

theorem oth_grown {w wr w' : World} {B : Nat} {v : Value} {n : Nat} {xs : List Value} (hk : Lib.OthersKept 5 none w wr) (hown : wr.ownsRow B 5 1 v n xs) (hg : wr.grownBy w' v.ownBlock) : Lib.OthersKept 5 none w w' := by
  refine hk.grown hg fun g e => ?_
  rcases hown.2 with ⟨rfl, _⟩ | ⟨g', cap, cur, rfl, _, hg', _⟩
  · simp [Value.ownBlock] at e
  · simp [Value.ownBlock] at e; subst e
    exact ⟨cur, _, hg'⟩
theorem own_one (w : World) (c : Value) : (w.alloc (.cells #[c] 5)).ownsRow w.heap.size 5 1 (.slice (some ⟨w.heap.size, 0, none⟩) 1 1) 1 [c] :=
  ⟨by simp, .inr ⟨w.heap.size, 1, #[c], rfl, Nat.le_refl _, heap_alloc_new w _, Nat.le_refl _, by simp [maxLen], by simp, by simp⟩⟩

set_option maxRecDepth 20000 in
set_option maxHeartbeats 1000000 in
theorem appbool_in (B : Nat) (v : Value) (xs : By) (b : Bool) (w : World) (hown : w.ownsRow B 5 1 v xs.length (Lib.byteCells xs)) (hB : B ≤ w.heap.size) (hl : xs.length ≤ 100000) :
    Calls Tryz.prog 60 #[v, .bool b] w fun e w' => ∃ v', e = .returned v' ∧ w'.ownsRow B 5 1 v' (xs ++ bt b).length (Lib.byteCells (xs ++ bt b)) ∧ Below B w w' ∧ Lib.OthersKept 5 none w w' := by
  obtain ⟨i0, hi, hz0, hz1, hz2⟩ := info_parts u8_row
  have hs1 : (⟨(bt true).toArray⟩ : ByteArray).size = 4 := rfl
  have hs2 : (⟨(bt false).toArray⟩ : ByteArray).size = 5 := rfl
  cases b
  · go_enter Tryz.func60, Tryz.ntmps60
    go_wp2_with (at_builtin; refine Lib.wpList_append_own_string _ rfl _ _ 36 9 rfl B 5 i0 Tryz.underlying36 Tryz.underlying9 hi hz0 hz1 hz2 _ _ _ rfl hown ⟨(bt false).toArray⟩ rfl ?c3 ?c4 hB ?_)
    case c3 => rw [hs2]; unfold maxLen; omega
    case c4 => rw [hs2]; omega
    intro v' w2 hown' hgrow hv0
    have hn := (Below.refl B w).grown hgrow hB (fun k hk => (hown.lt k hk).1)
    have hkn := oth_grown (Lib.OthersKept.refl _ _ _) hown hgrow
    clear hv0 hgrow hown
    go_wp2
    go_ret
    exact ⟨_, rfl, own_cast hown' (by rw [List.length_append]; rfl) (by rw [bc_append]; rfl), hn, hkn⟩
  · go_enter Tryz.func60, Tryz.ntmps60
    go_wp2_with (at_builtin; refine Lib.wpList_append_own_string _ rfl _ _ 36 9 rfl B 5 i0 Tryz.underlying36 Tryz.underlying9 hi hz0 hz1 hz2 _ _ _ rfl hown ⟨(bt true).toArray⟩ rfl ?c3 ?c4 hB ?_)
    case c3 => rw [hs1]; unfold maxLen; omega
    case c4 => rw [hs1]; omega
    intro v' w2 hown' hgrow hv0
    have hn := (Below.refl B w).grown hgrow hB (fun k hk => (hown.lt k hk).1)
    have hkn := oth_grown (Lib.OthersKept.refl _ _ _) hown hgrow
    clear hv0 hgrow hown
    go_wp2
    go_ret
    exact ⟨_, rfl, own_cast hown' (by rw [List.length_append]; rfl) (by rw [bc_append]; rfl), hn, hkn⟩
theorem appbool_own (B : Nat) (v : Value) (xs : By) (b : Bool) (w : World) (hown : w.ownsRow B 5 1 v xs.length (Lib.byteCells xs)) (hB : B ≤ w.heap.size) (hl : xs.length ≤ 100000) :
    Calls Tryz.prog 38 #[v, .bool b] w fun e w' => ∃ v', e = .returned v' ∧ w'.ownsRow B 5 1 v' (xs ++ bt b).length (Lib.byteCells (xs ++ bt b)) ∧ Below B w w' ∧ Lib.OthersKept 5 none w w' := by
  go_enter Tryz.func38, Tryz.ntmps38
  go_wp2_with fail
  refine (appbool_in B v xs b _ hown hB hl).mono ?_
  rintro e w' ⟨v', rfl, h1, h2, h3⟩
  go_wp2
  go_ret
  exact ⟨_, rfl, h1, h2, h3⟩
end Go.Proofs.YtffllacphfapnaaGreatDoor
