/-
  Chapter 6: what both have (Meet). Condition: at most 1048576 texts.
-/
import Derived.Test.YthnhhbkncmplmaaDoorWe
namespace Go.Proofs.YthnhhbkncmplmaaDoor
open Go.RowKit Go.Maps Go.Sort

/-- a text of a word's length -/
abbrev Sh := { x : List UInt8 // x.length ≤ 64 }
instance : Inhabited Sh := ⟨⟨[], by decide⟩⟩
def encSh (x : Sh) : Value := .string ⟨x.1.toArray⟩
def shs (l : List (List UInt8)) (h : ∀ x ∈ l, x.length ≤ 64) : List Sh := l.pmap (fun x hx => ⟨x, hx⟩) h
theorem shs_map (l : List (List UInt8)) (h : ∀ x ∈ l, x.length ≤ 64) : (shs l h).map encSh = l.map sv := by
  unfold shs; rw [List.map_pmap]
  show List.pmap (fun a _ => sv a) l h = _
  rw [List.pmap_eq_map]
theorem shs_val (l : List (List UInt8)) (h : ∀ x ∈ l, x.length ≤ 64) : (shs l h).map (·.1) = l := by
  unfold shs; rw [List.map_pmap, List.pmap_eq_map]; simp
theorem shs_len (l : List (List UInt8)) (h : ∀ x ∈ l, x.length ≤ 64) : (shs l h).length = l.length := by simp [shs]
theorem shs_filter (l : List (List UInt8)) (h : ∀ x ∈ l, x.length ≤ 64) (q : List UInt8 → Bool) : ((shs l h).filter fun x => q x.1).map encSh = (l.filter q).map sv := by
  have e : (l.filter q) = ((shs l h).filter fun x => q x.1).map (·.1) := by
    conv => lhs; rw [← shs_val l h]
    rw [List.filter_map]; rfl
  rw [e, List.map_map]
  rfl

set_option maxRecDepth 20000 in
set_option maxHeartbeats 1000000 in
theorem meetf_any (x : List UInt8) (hx : x.length ≤ 64) (bc bm n : Nat) (S : List (List UInt8)) (w : World) (hc : w.cell? ⟨bc, 0, none⟩ = some (.map (some bm))) (hS : SM w bm n S) :
    Calls Tryd.prog 33 #[.string ⟨x.toArray⟩, .pointer (some ⟨bc, 0, none⟩)] w fun e w' => e = .returned (.bool (!decide (x ∈ S))) ∧ w = w' := by
  have hl := hS.look x (by omega)
  generalize decide (x ∈ S) = d at *
  simp only [sv] at hl
  clear hS
  go_enter Tryd.func33, Tryd.ntmps33
  go_wp2_with fail
  go_ret
  exact ⟨rfl, rfl⟩
theorem enters_meet (args : Array Value) (w : World) : (callFunc 33 args).run Tryd.prog w = .ok (.enter 33 args) w := enters_of Tryd.func33 (by kernel_rfl) rfl args w
theorem str_zero (w : World) : (zeroValue 9).run Tryd.prog w = .ok (encSh default) w := by kernel_rfl

theorem heap_put {α : Type} [Inhabited α] (enc : α → Value) {w : World} {g n : Nat} {cur : Array Value} {e : TypeId} {fr : Nat × Nat} (d : Array α) (hb : w.heap[g]? = some (.cells cur e fr)) :
    (putRow enc (Sort.ahead w n) g 0 d).heap[g]? = some (.cells (putCells enc 0 d cur) e fr) := by
  simp [putRow, mapBlock, Sort.ahead, Array.getElem?_modify, hb, onCells]
theorem grownBy_put {α : Type} [Inhabited α] (enc : α → Value) {w : World} {g n : Nat} (d : Array α) : w.grownBy (putRow enc (Sort.ahead w n) g 0 d) (some g) := by
  refine ⟨rfl, rfl, rfl, by simp, fun k hk hne => ?_⟩
  have : g ≠ k := fun e => hne (by rw [e])
  simp [putRow, mapBlock, Sort.ahead, Array.getElem?_modify, this]
theorem take_put {α : Type} [Inhabited α] (enc : α → Value) (cur : Array Value) (ts us : List α) (h : ts.length + us.length ≤ cur.size) : (putCells enc 0 (ts ++ us).toArray cur).toList.take ts.length = ts.map enc := by
  apply List.ext_getElem?
  intro j
  by_cases hj : j < ts.length
  · rw [List.getElem?_take_of_lt hj, Array.getElem?_toList]
    simp [putCells, show j < cur.size by omega, show j < ts.length + us.length by omega, hj]
  · rw [List.getElem?_take_eq_none (by omega), List.getElem?_eq_none (by simp; omega)]

set_option maxRecDepth 20000 in
set_option maxHeartbeats 1000000 in
theorem delete_nil (fv : Value) (w : World) : Calls Tryd.prog 32 #[.slice none 0 0, fv] w fun e w' => e = .returned (.slice none 0 0) ∧ w = w' := by
  go_enter Tryd.func32, Tryd.ntmps32
  go_wp2_with fail
  refine (Tryd.slices_IndexFunc_empty (α := Sh) _ _ _ _).mono ?_
  rintro e w1 ⟨rfl, rfl⟩
  go_wp2_with fail
  go_ret
  exact ⟨rfl, rfl⟩

theorem delete_any (v : Value) (l : List (List UInt8)) (B : Nat) (w : World) (ho : OwnS w B v l) (hw : ∀ x ∈ l, x.length ≤ 64) (hN : l.length ≤ 1048576) (bc bm n : Nat) (S : List (List UInt8)) (hc : w.cell? ⟨bc, 0, none⟩ = some (.map (some bm))) (hS : SM w bm n S) (hbc : bc < B) (hbm : bm < B) :
    Calls Tryd.prog 32 #[v, .func (Fn.func 33) #[] #[.pointer (some ⟨bc, 0, none⟩)]] w fun e w' =>
      ∃ v', e = .returned v' ∧ OwnS w' B v' (l.filter fun x => decide (x ∈ S)) ∧ w.grownBy w' v.ownBlock := by
  rcases ho.2 with ⟨rfl, h0⟩ | ⟨g, cap, cur, rfl, hbase, hb, h1, h2, h3, h4⟩
  · have h00 : l = [] := List.eq_nil_of_length_eq_zero h0
    subst h00
    refine (delete_nil _ w).mono ?_
    rintro e w' ⟨rfl, rfl⟩
    exact ⟨_, rfl, OwnS.none _ _, World.grownBy.refl _ _⟩
  · have hcl := World.block_lt_of_cell? w _ hc
    have hml := hS.lt
    have hgl : g < w.heap.size := (Array.getElem?_eq_some_iff.1 hb).1
    have hH : Holds encSh w g 0 (shs l hw).toArray := by
      intro j hj
      have hj' : j < l.length := by simpa [shs_len] using hj
      have hcell := ho.cellAt j (by omega)
      refine ⟨?_, by simp [World.frozen?, hb]⟩
      rw [Nat.zero_add, hcell, ← shs_map l hw, List.getElem?_map, List.getElem?_eq_getElem (by rw [shs_len]; exact hj')]
      simp [shs_len, hj']
    have hp : PredAt Tryd.prog 33 #[.pointer (some ⟨bc, 0, none⟩)] encSh (fun x => !decide (x.1 ∈ S)) w := by
      intro W x hb2
      refine (meetf_any x.1 x.2 bc bm n S W ((hb2.cell (p := ⟨bc, 0, none⟩) hcl).trans hc) (hS.below hb2)).mono ?_
      rintro e w' ⟨rfl, rfl⟩
      exact ⟨rfl, 0, rfl⟩
    have hpo : PredOver Tryd.prog 33 #[.pointer (some ⟨bc, 0, none⟩)] encSh (fun x => !decide (x.1 ∈ S)) g 0 (shs l hw).toArray.size w := by
      intro k os dk x _
      have hcell : (sortWorld encSh w g 0 k dk os).cell? ⟨bc, 0, none⟩ = some (.map (some bm)) := by
        unfold sortWorld
        rw [cell?_grow _ _ _ (by rw [size_putRow]; exact hcl), cell?_putRow_other _ _ _ _ _ _ (Or.inl (by show bc ≠ g; omega))]
        exact hc
      have hSM : SM (sortWorld encSh w g 0 k dk os) bm n S := by
        refine hS.kept (row := some g) ?_ (by simp; omega)
        refine ⟨rfl, rfl, rfl, by simp [sortWorld, grow], fun i hi hne => ?_⟩
        unfold sortWorld
        rw [heap_grow_old _ _ (by simpa using hi)]
        exact (grownBy_put encSh (w := w) (g := g) (n := k) dk).block i hi hne
      refine (meetf_any x.1 x.2 bc bm n S _ hcell hSM).mono ?_
      rintro e w' ⟨rfl, rfl⟩
      exact ⟨rfl, 0, rfl⟩
    have hcon := Tryd.slices_DeleteFunc encSh (fun _ => rfl) (fun x => !decide (x.1 ∈ S)) 33 #[.pointer (some ⟨bc, 0, none⟩)] enters_meet default str_zero g 0 cap (shs l hw).toArray w hp hpo hH (by simp [shs_len]; omega) (by simpa [shs_len] using h1)
    have hsz : (shs l hw).toArray.size = l.length := by simp [shs_len]
    rw [hsz] at hcon
    refine hcon.mono ?_
    rintro e w' ⟨rfl, q, rfl⟩
    have hfm := shs_filter l hw (fun x => decide (x ∈ S))
    have hfe : ((shs l hw).toArray.toList.filter fun x => !!decide (x.1 ∈ S)) = ((shs l hw).filter fun x => decide (x.1 ∈ S)) := by simp
    rw [hfe]
    have hfl : ((shs l hw).filter fun x => decide (x.1 ∈ S)).length = (l.filter fun x => decide (x ∈ S)).length := by
      have := congrArg List.length hfm; simpa using this
    have hle : (l.filter fun x => decide (x ∈ S)).length ≤ l.length := List.length_filter_le _ _
    refine ⟨_, rfl, ?_, grownBy_put encSh _⟩
    refine ⟨by simp, .inr ⟨g, cap, _, by rw [hfl], hbase, heap_put encSh _ hb, by omega, h2, by simp [putCells, h3], ?_⟩⟩
    rw [Nat.mul_one, ← hfl, take_put encSh _ _ _ (by rw [hfl, List.length_replicate]; omega), hfm]
end Go.Proofs.YthnhhbkncmplmaaDoor
