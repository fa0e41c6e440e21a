/-
  Chapter 15: a roll in memory; get, Find.
-/
import Derived.Test.YtonbpekogfaibaaGreatOe
namespace Go.Proofs.YtonbpekogfaibaaGreat.Ro
open Go.RowKit Go.Maps Go.Sort
set_option linter.unusedVariables false
set_option linter.unusedSimpArgs false
set_option maxRecDepth 100000

/-- a roll of the clients cs -/
structure RO (W : World) (q m : Nat) (cs : List Cl) (sl : By → V3) : Prop where
  blk : Blk W q 52 [.map (some m)]
  map : RM W m cs sl
  row : ∀ c ∈ cs, RdC W c (sl c.id)
  sml : ∀ c ∈ cs, c.red.length ≤ 1048576 ∧ c.sco.length ≤ 1048576 ∧ c.gra.length ≤ 1048576
theorem RO.below {W W' : World} {q m : Nat} {cs : List Cl} {sl : By → V3} (h : RO W q m cs sl) (hb : Below W.heap.size W W') : RO W' q m cs sl :=
  ⟨h.blk.below hb h.blk.lt, h.map.keep (hb.block m h.map.lt), fun c hc => (h.row c hc).below hb, h.sml⟩
def fC (cs : List Cl) (x : By) : Cl := (find cs x).getD noC
def fV (cs : List Cl) (sl : By → V3) (x : By) : V3 := if (find cs x).isSome = true then sl x else z3
theorem cvOf_eq (cs : List Cl) (sl : By → V3) (x : By) : cvOf cs sl x = av (fC cs x) (fV cs sl x) := by
  unfold cvOf fC fV
  cases find cs x <;> rfl
theorem RO.got {W : World} {q m : Nat} {cs : List Cl} {sl : By → V3} (h : RO W q m cs sl) (x : By) : RdC W (fC cs x) (fV cs sl x) ∧ (fC cs x).red.length ≤ 1048576 ∧ (fC cs x).sco.length ≤ 1048576 ∧ (fC cs x).gra.length ≤ 1048576 := by
  unfold fC fV
  cases hf : find cs x with
  | none => exact ⟨⟨RdS.nil W, RdS.nil W, RdS.nil W⟩, by simp [noC]⟩
  | some c =>
    obtain ⟨hm, rfl⟩ := find_name hf
    exact ⟨h.row c hm, h.sml c hm⟩
set_option maxHeartbeats 4000000 in
theorem get_any (q m : Nat) (cs : List Cl) (sl : By → V3) (x : By) (w : World) (h : RO w q m cs sl) (hx : x.length ≤ 9223372036854775807) :
    Calls Tryz.prog 21 #[.pointer (some ⟨q, 0, none⟩), .string ⟨x.toArray⟩] w fun e w' => e = .returned (.tuple #[av (fC cs x) (fV cs sl x), .bool (find cs x).isSome]) ∧ Below w.heap.size w w' := by
  have hw1 : Below w.heap.size w (w.alloc (.cells #[.string ⟨#[]⟩, .string ⟨#[]⟩, .bool false, .slice none 0 0, .slice none 0 0, .slice none 0 0] 54)) := (Below.refl _ _).alloc (Nat.le_refl _) _
  have hlk := (h.below hw1).map.look x hx
  rw [cvOf_eq] at hlk
  obtain ⟨c, hc⟩ : ∃ c, c = fC cs x := ⟨_, rfl⟩
  obtain ⟨v, hv⟩ : ∃ v, v = fV cs sl x := ⟨_, rfl⟩
  obtain ⟨b, hb⟩ : ∃ b, b = (find cs x).isSome := ⟨_, rfl⟩
  rw [← hc, ← hv, ← hb] at hlk ⊢
  have hz := Blk.new w 54 (c6 noC z3)
  have c0 := (h.below hw1).blk.cell 0 rfl
  have c1 := h.blk.cell 0 rfl
  have HW := Lib.hid (And.intro hz hw1)
  have hg := (h.got x).1
  rw [← hc, ← hv] at hg
  obtain ⟨v0, v1, v2⟩ := v
  obtain ⟨a0, k0, e0⟩ := hg.1.1.slice
  obtain ⟨a1, k1, e1⟩ := hg.2.1.1.slice
  obtain ⟨a2, k2, e2⟩ := hg.2.2.1.slice
  simp only at e0 e1 e2
  subst e0 e1 e2
  unfold av at hlk
  clear h hc hv hb hz hw1 hg
  go_enter Tryz.func21, Tryz.ntmps21
  go_wp2_with fail
  refine ret_cl_tmp rfl rfl rfl ((Blk.new w 54 (c6 c (.slice a0 c.red.length k0, .slice a1 c.sco.length k1, .slice a2 c.gra.length k2))).alloc _) ?_
  exact ⟨rfl, ((Below.refl _ _).alloc (Nat.le_refl _) _).alloc (by simp) _⟩
set_option maxHeartbeats 4000000 in
theorem get_nil (x : By) (w : World) :
    Calls Tryz.prog 21 #[.pointer none, .string ⟨x.toArray⟩] w fun e w' => e = .returned (.tuple #[av noC z3, .bool false]) ∧ Below w.heap.size w w' := by
  have hz := Blk.new w 54 (c6 noC z3)
  have hw1 : Below w.heap.size w (w.alloc (.cells #[.string ⟨#[]⟩, .string ⟨#[]⟩, .bool false, .slice none 0 0, .slice none 0 0, .slice none 0 0] 54)) := (Below.refl _ _).alloc (Nat.le_refl _) _
  have HW := Lib.hid (And.intro hz hw1)
  clear hz hw1
  go_enter Tryz.func21, Tryz.ntmps21
  go_wp2_with fail
  refine ret_cl_tmp rfl rfl rfl HW.out.1 ?_
  exact ⟨rfl, HW.out.2⟩
/-- a roll: a pointer to one, or nil (no clients) -/
def RR (w : World) (rv : Value) (cs : List Cl) (sl : By → V3) : Prop := (∃ q m, rv = .pointer (some ⟨q, 0, none⟩) ∧ RO w q m cs sl) ∨ (rv = .pointer none ∧ cs = [])
theorem RO.rr {w : World} {q m : Nat} {cs : List Cl} {sl : By → V3} (h : RO w q m cs sl) : RR w (.pointer (some ⟨q, 0, none⟩)) cs sl := .inl ⟨q, m, rfl, h⟩
theorem RR.none (w : World) (sl : By → V3) : RR w (.pointer none) [] sl := .inr ⟨rfl, rfl⟩
theorem RR.below {w W : World} {rv : Value} {cs : List Cl} {sl : By → V3} (h : RR w rv cs sl) (hb : Below w.heap.size w W) : RR W rv cs sl := by
  rcases h with ⟨q, m, e, h⟩ | h
  · exact .inl ⟨q, m, e, h.below hb⟩
  · exact .inr h
theorem RR.got {W : World} {rv : Value} {cs : List Cl} {sl : By → V3} (h : RR W rv cs sl) (x : By) : RdC W (fC cs x) (fV cs sl x) ∧ (fC cs x).red.length ≤ 1048576 ∧ (fC cs x).sco.length ≤ 1048576 ∧ (fC cs x).gra.length ≤ 1048576 := by
  rcases h with ⟨q, m, e, h⟩ | ⟨_, rfl⟩
  · exact h.got x
  · exact ⟨⟨RdS.nil W, RdS.nil W, RdS.nil W⟩, by simp [fC, find, noC]⟩
theorem get_rr (rv : Value) (cs : List Cl) (sl : By → V3) (x : By) (w : World) (h : RR w rv cs sl) (hx : x.length ≤ 9223372036854775807) :
    Calls Tryz.prog 21 #[rv, .string ⟨x.toArray⟩] w fun e w' => e = .returned (.tuple #[av (fC cs x) (fV cs sl x), .bool (find cs x).isSome]) ∧ Below w.heap.size w w' := by
  rcases h with ⟨q, m, rfl, h⟩ | ⟨rfl, rfl⟩
  · exact get_any q m cs sl x w h hx
  · exact get_nil x w
theorem field_cl (a b c d e f : Value) (h : a.oneCell' = true ∧ b.oneCell' = true ∧ c.oneCell' = true ∧ d.oneCell' = true ∧ e.oneCell' = true ∧ f.oneCell' = true) (w : World) : (Instr.field 54 (.agg #[a, b, c, d, e, f]) 0).run Tryz.prog w = .ok (.agg #[a, b, c, d, e, f]) w := by
  first | kernel_rfl | simp [go_sem]
set_option maxHeartbeats 4000000 in
theorem find_any (rv : Value) (cs : List Cl) (sl : By → V3) (x : By) (w : World) (h : RR w rv cs sl) (hx : x.length ≤ 9223372036854775807) :
    Calls Tryz.prog 13 #[rv, .string ⟨x.toArray⟩] w fun e w' => ∃ u0 u1 u2, e = .returned (.tuple #[av (fC cs x) (u0, u1, u2), .bool (find cs x).isSome]) ∧ OwC w' w.heap.size (fC cs x) (u0, u1, u2) ∧ Below w.heap.size w w' := by
  have hz := Blk.new w 40 (c6 noC z3)
  have hw1 : Below w.heap.size w (w.alloc (.cells #[.string ⟨#[]⟩, .string ⟨#[]⟩, .bool false, .slice none 0 0, .slice none 0 0, .slice none 0 0] 40)) := (Below.refl _ _).alloc (Nat.le_refl _) _
  have hG := get_rr rv cs sl x _ (h.below hw1) hx
  have hgot := h.got x
  have hsz : (w.alloc (.cells #[.string ⟨#[]⟩, .string ⟨#[]⟩, .bool false, .slice none 0 0, .slice none 0 0, .slice none 0 0] 40)).heap.size = w.heap.size + 1 := by simp
  obtain ⟨c, hc⟩ : ∃ c, c = fC cs x := ⟨_, rfl⟩
  obtain ⟨v, hv⟩ : ∃ v, v = fV cs sl x := ⟨_, rfl⟩
  obtain ⟨b, hb⟩ : ∃ b, b = (find cs x).isSome := ⟨_, rfl⟩
  rw [← hc, ← hv, ← hb] at hG
  rw [← hc, ← hv] at hgot
  rw [← hc, ← hb]
  have HW := Lib.hid (And.intro hz (And.intro hw1 (And.intro hgot hsz)))
  obtain ⟨v0, v1, v2⟩ := v
  obtain ⟨a0, k0, e0⟩ := hgot.1.1.1.slice
  obtain ⟨a1, k1, e1⟩ := hgot.1.2.1.1.slice
  obtain ⟨a2, k2, e2⟩ := hgot.1.2.2.1.slice
  simp only at e0 e1 e2
  subst e0 e1 e2
  have HG := Lib.hid hG
  unfold av at HG
  clear hG h hc hv hb hz hw1 hgot hsz
  go_enter Tryz.func13, Tryz.ntmps13
  go_wp2_with fail
  refine HG.out.mono ?_
  rintro e w1 ⟨rfl, hb1⟩
  have hbA : Below w1.heap.size w1 (w1.alloc (.cells #[.string ⟨c.id.toArray⟩, .string ⟨c.sec.toArray⟩, .bool c.pub, .slice a0 c.red.length k0, .slice a1 c.sco.length k1, .slice a2 c.gra.length k2] 54)) := (Below.refl _ _).alloc (Nat.le_refl _) _
  have hrow := ((HW.out.2.2.1.1.below HW.out.2.1).below hb1).below hbA
  have hfl : ∀ (x0 x1 x2 : Option Addr) (y0 y1 y2 : Nat) W, (Instr.field 54 (.agg #[.string ⟨c.id.toArray⟩, .string ⟨c.sec.toArray⟩, .bool c.pub, .slice x0 c.red.length y0, .slice x1 c.sco.length y1, .slice x2 c.gra.length y2]) 0).run Tryz.prog W = .ok (.agg #[.string ⟨c.id.toArray⟩, .string ⟨c.sec.toArray⟩, .bool c.pub, .slice x0 c.red.length y0, .slice x1 c.sco.length y1, .slice x2 c.gra.length y2]) W := fun x0 x1 x2 y0 y1 y2 W => field_cl _ _ _ _ _ _ ⟨rfl, rfl, rfl, rfl, rfl, rfl⟩ W
  have HO := Lib.hid (own_any c _ _ _ _ hrow HW.out.2.2.1.2.1 HW.out.2.2.1.2.2.1 HW.out.2.2.1.2.2.2)
  have hb01 := HW.out.2.1.trans (hb1.mono HW.out.2.1.size)
  have HB1 := Lib.hid (And.intro (hb01.trans (hbA.mono hb01.size)) (And.intro ((HW.out.1.below hb1 HW.out.1.lt).below hbA (by have h2 := hb1.size; have h3 := HW.out.2.2.2; omega)) (show w.heap.size + 1 ≤ (w1.alloc (.cells #[.string ⟨c.id.toArray⟩, .string ⟨c.sec.toArray⟩, .bool c.pub, .slice a0 c.red.length k0, .slice a1 c.sco.length k1, .slice a2 c.gra.length k2] 54)).heap.size from by have h1 := hb1.size; have h2 := HW.out.2.2.2; have h3 := hbA.size; omega)))
  clear hrow hb1 HG hbA hb01
  go_wp2_with fail
  refine HO.out.mono ?_
  rintro e w2 ⟨u0, u1, u2, rfl, how, hb2⟩
  obtain ⟨x0, y0, e0⟩ := (Rd.of_own how.r).slice
  obtain ⟨x1, y1, e1⟩ := (Rd.of_own how.s).slice
  obtain ⟨x2, y2, e2⟩ := (Rd.of_own how.g).slice
  simp only at e0 e1 e2
  subst e0 e1 e2
  have hzr : Blk w2 w.heap.size 40 (c6 noC z3) := HB1.out.2.1.below hb2 HB1.out.2.1.lt
  have HE := Lib.hid (And.intro how (And.intro hzr (HB1.out.1.trans (hb2.mono HB1.out.1.size))))
  have r0 := hzr.cell 0 rfl
  have r1 := hzr.cell 1 rfl
  have r2 := hzr.cell 2 rfl
  have r3 := hzr.cell 3 rfl
  have r4 := hzr.cell 4 rfl
  have r5 := hzr.cell 5 rfl
  have f0 := hzr.frozen 0
  have f1 := hzr.frozen 1
  have f2 := hzr.frozen 2
  have f3 := hzr.frozen 3
  have f4 := hzr.frozen 4
  have f5 := hzr.frozen 5
  clear how hb2 hzr HO
  go_wp2_with fail
  refine ret_ac_tmp rfl rfl rfl (Blk.set6 (x := c) (y := (.slice x0 c.red.length y0, .slice x1 c.sco.length y1, .slice x2 c.gra.length y2)) HE.out.2.1) ?_
  have hk : ∀ k, w.heap.size + 1 ≤ k → (set6 w2 w.heap.size c (.slice x0 c.red.length y0, .slice x1 c.sco.length y1, .slice x2 c.gra.length y2)).heap[k]? = w2.heap[k]? := fun k hk => heap_set6 (by omega)
  have hsz := HB1.out.2.2
  exact ⟨_, _, _, rfl, ⟨own_mono (own_keepB HE.out.1.r (fun k h => hk k (Nat.le_trans hsz (World.ownsRow.lt HE.out.1.r k h).1))) (by omega), own_mono (own_keepB HE.out.1.s (fun k h => hk k (Nat.le_trans hsz (World.ownsRow.lt HE.out.1.s k h).1))) (by omega), own_mono (own_keepB HE.out.1.g (fun k h => hk k (Nat.le_trans hsz (World.ownsRow.lt HE.out.1.g k h).1))) (by omega), HE.out.1.rs, HE.out.1.rg, HE.out.1.sg⟩, below_set6 HE.out.2.2 (Nat.le_refl _)⟩
end Go.Proofs.YtonbpekogfaibaaGreat.Ro
