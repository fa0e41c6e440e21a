/-
  Chapter 10: lay. Printed by gen_plate_lay.py.
-/
import Derived.Test.YthofbblgoamipaaGreatDoorBd
import Derived.Test.YthofbblgoamipaaGreatDoorUo
namespace Go.Proofs.YthofbblgoamipaaGreatDoor.Pt
open Go.RowKit Go.Maps
set_option linter.unusedVariables false
set_option linter.unusedSimpArgs false

/-- a plate whose file x was just written to: that file's row is not asked -/
structure PX (x : By) (W : World) (q m : Nat) (st : St) (sl : By → Value) : Prop where
  blk : Blk W q 62 (head6 m st)
  map : PM W m st.fs sl
  row : ∀ f ∈ st.fs, f.n ≠ x → FRow W 5 (sl f.n) f.b.length (Lib.byteCells f.b)
  shp : ∀ f ∈ st.fs, ∃ a c, sl f.n = .slice a f.b.length c
  ap : ∀ f ∈ st.fs, ∀ g ∈ st.fs, f.n ≠ g.n → ∀ k, (sl f.n).ownBlock = some k → (sl g.n).ownBlock ≠ some k
  nq : ∀ f ∈ st.fs, ∀ k, (sl f.n).ownBlock = some k → k ≠ q ∧ k ≠ m
  qm : q ≠ m
  fit : Fit st
theorem PA.px {W : World} {q m : Nat} {st : St} {sl : By → Value} (h : PA W q m st sl) (x : By) : PX x W q m st sl :=
  ⟨h.blk, h.map, fun f hf _ => h.row f hf, fun f hf => (h.row f hf).rd.slice, h.ap, h.nq, h.qm, h.fit⟩
/-- only file x's own block is changed -/
theorem PA.pxk {W W' : World} {q m : Nat} {st : St} {sl : By → Value} (h : PA W q m st sl) (x : By) {F : Nat → Prop} (ho : Out F W W') (hF : ∀ k, F k → k < W.heap.size → k ≠ q ∧ k ≠ m ∧ ∀ g ∈ st.fs, g.n ≠ x → (sl g.n).ownBlock ≠ some k) : PX x W' q m st sl := by
  have hb : ∀ k, k < W.heap.size → (k = q ∨ k = m ∨ ∃ g ∈ st.fs, g.n ≠ x ∧ (sl g.n).ownBlock = some k) → W'.heap[k]? = W.heap[k]? := fun k hk hc => ho.block k hk fun hf => by
    have := hF k hf hk
    rcases hc with rfl | rfl | ⟨g, hg, hn, he⟩
    · exact this.1 rfl
    · exact this.2.1 rfl
    · exact this.2.2 g hg hn he
  refine ⟨(hb q h.blk.lt (.inl rfl)).trans h.blk, h.map.keep (hb m h.map.lt (.inr (.inl rfl))), fun f hf hn => ?_, fun f hf => (h.row f hf).rd.slice, h.ap, h.nq, h.qm, h.fit⟩
  exact (h.row f hf).keep fun g hg => hb g ((h.row f hf).lt g hg) (.inr (.inr ⟨f, hf, hn, hg⟩))
theorem PX.below {x : By} {W W' : World} {q m : Nat} {st : St} {sl : By → Value} (h : PX x W q m st sl) (hb : Below W.heap.size W W') : PX x W' q m st sl :=
  ⟨(hb.block q h.blk.lt).trans h.blk, h.map.keep (hb.block m h.map.lt), fun f hf hn => (h.row f hf hn).keep fun g hg => hb.block g ((h.row f hf hn).lt g hg), h.shp, h.ap, h.nq, h.qm, h.fit⟩
theorem fvOf_parts {W : World} {q m : Nat} {st : St} {sl : By → Value} {x : By} (h : PX x W q m st sl) : ∃ oa oc os, fvOf st.fs sl x = .agg #[.slice oa (gB st.fs x).length oc, .int .i64 os] := by
  unfold fvOf gB fv
  cases hg : get st.fs x with
  | none => exact ⟨_, _, _, rfl⟩
  | some f =>
    obtain ⟨hf, hn⟩ := get_name hg
    obtain ⟨a, c, e⟩ := h.shp f hf
    rw [hn] at e
    exact ⟨a, c, (f.s : Int), by simp only [e]; rfl⟩
theorem mem_lay {f g : Fl} {fs : List Fl} (ha : Asc fs) (h : g ∈ lay f fs) : (g = f ∧ f.b ≠ []) ∨ (g ∈ fs ∧ g.n ≠ f.n) := by
  have h1 := get_mem (asc_lay f fs ha) h
  rw [get_lay f fs g.n ha] at h1
  by_cases hn : f.n = g.n
  · rw [if_pos hn] at h1
    by_cases hb : f.b = []
    · rw [if_pos hb] at h1; cases h1
    · rw [if_neg hb] at h1; cases h1; exact .inl ⟨rfl, hb⟩
  · rw [if_neg hn] at h1
    exact .inr ⟨(get_name h1).1, fun e => hn e.symm⟩
theorem PX.laid {W W' : World} {q m : Nat} {st : St} {sl : By → Value} {x b : By} {s : Nat} {v : Value} (h : PX x W q m st sl) (hx : 1 ≤ x.length ∧ x.length ≤ 64) (hv : FRow W 5 v b.length (Lib.byteCells b))
    (hs : s ≤ b.length) (ht : tot (lay ⟨x, b, s⟩ st.fs) ≤ st.room) (hk : ∀ k, v.ownBlock = some k → k ≠ q ∧ k ≠ m ∧ ∀ g ∈ st.fs, g.n ≠ x → (sl g.n).ownBlock ≠ some k)
    (hO : Out (fun k => k = q ∨ k = m) W W') (hb : Blk W' q 62 (head6 m { st with fs := lay ⟨x, b, s⟩ st.fs })) (hm : PM W' m (lay ⟨x, b, s⟩ st.fs) (fun y => if y = x then v else sl y)) :
    PA W' q m { st with fs := lay ⟨x, b, s⟩ st.fs } (fun y => if y = x then v else sl y) := by
  have hin : ∀ g ∈ lay ⟨x, b, s⟩ st.fs, (g = ⟨x, b, s⟩ ∧ b ≠ []) ∨ (g ∈ st.fs ∧ g.n ≠ x) := fun g hg => mem_lay h.fit.asc hg
  have hval : ∀ g ∈ lay ⟨x, b, s⟩ st.fs, ∀ k, (if g.n = x then v else sl g.n).ownBlock = some k → (g.n = x ∧ v.ownBlock = some k) ∨ (g ∈ st.fs ∧ g.n ≠ x ∧ (sl g.n).ownBlock = some k) := by
    intro g hg k hgk
    rcases hin g hg with ⟨rfl, _⟩ | ⟨h1, h2⟩
    · simp at hgk; exact .inl ⟨rfl, hgk⟩
    · rw [if_neg h2] at hgk; exact .inr ⟨h1, h2, hgk⟩
  refine ⟨hb, hm, ?_, ?_, ?_, h.qm, ?_⟩
  · intro g hg
    show FRow W' _ (if g.n = x then v else sl g.n) _ _
    rcases hin g hg with ⟨rfl, _⟩ | ⟨h1, h2⟩
    · simp only [if_true]
      exact hv.keep (fun k hgk => hO.block k (hv.lt k hgk) (by have := hk k hgk; omega))
    · rw [if_neg h2]
      exact (h.row g h1 h2).keep (fun k hgk => hO.block k ((h.row g h1 h2).lt k hgk) (by have := h.nq g h1 k hgk; omega))
  · intro f hf g hg hne k h1 h2
    rcases hval f hf k h1 with ⟨a1, a2⟩ | ⟨a1, a2, a3⟩ <;> rcases hval g hg k h2 with ⟨b1, b2⟩ | ⟨b1, b2, b3⟩
    · exact hne (a1.trans b1.symm)
    · exact (hk k a2).2.2 g b1 b2 b3
    · exact (hk k b2).2.2 f a1 a2 a3
    · exact h.ap f a1 g b1 hne k a3 b3
  · intro f hf k h1
    rcases hval f hf k h1 with ⟨a1, a2⟩ | ⟨a1, a2, a3⟩
    · exact ⟨(hk k a2).1, (hk k a2).2.1⟩
    · exact h.nq f a1 k a3
  · refine ⟨asc_lay _ _ h.fit.asc, h.fit.room, ht, ?_, h.fit.left⟩
    intro g hg
    rcases hin g hg with ⟨rfl, hb⟩ | ⟨h1, h2⟩
    · exact ⟨hb, hs, hx⟩
    · exact h.fit.file g h1
/-- lay, behind the first line: the header is the new one, the map the old one -/
structure LY (w W : World) (q m : Nat) (st : St) (sl : By → Value) (hd : List Value) (bx : List Value) : Prop where
  blk : Blk W q 62 hd
  map : PM W m st.fs sl
  box : Blk W w.heap.size 82 bx
  out : Out (fun k => k = q ∨ k = m) w W
theorem LY.drew {w W : World} {q m : Nat} {st : St} {sl : By → Value} {hd bx : List Value} (h : LY w W q m st sl hd bx) : LY w W.drew q m st sl hd bx :=
  ⟨h.blk, h.map.keep rfl, h.box, h.out.trans (Out.of_below _ (Below.refl _ _).drew) (fun _ _ h => h)⟩
theorem LY.first {x : By} {w W : World} {q m : Nat} {st : St} {sl : By → Value} {bx : List Value} (h : PX x W q m st sl) (hB : Blk W w.heap.size 82 bx) (hO : Out (fun k => k = q ∨ k = m) w W) (hq : q < w.heap.size) (u : Value) :
    LY w (W.setCell ⟨q, 2, none⟩ u) q m st sl ((head6 m st).set 2 u) bx :=
  ⟨h.blk.set 2 u, h.map.keep (Below.heap_setCell _ _ _ _ (fun e => h.qm e.symm)), 
    hB.setOther _ _ (by show w.heap.size ≠ q; omega), hO.set _ _ (.inl rfl)⟩
theorem len_tot (fs : List Fl) (h : ∀ f ∈ fs, f.b ≠ []) : fs.length ≤ tot fs := by
  induction fs with
  | nil => simp [tot]
  | cons f r ih =>
    have h1 := ih fun g hg => h g (List.mem_cons_of_mem _ hg)
    have h2 : 1 ≤ f.b.length := by
      rcases hb : f.b with _ | ⟨c, l⟩
      · exact absurd hb (h f List.mem_cons_self)
      · simp
    unfold tot at h1 ⊢
    simp only [List.length_cons, List.map_cons, List.sum_cons]
    omega
theorem ins_del (f : Fl) (fs : List Fl) (ha : Asc fs) : (ins f fs).filter (fun g => !(g.n == f.n)) = fs.filter fun g => !(g.n == f.n) := by
  refine asc_ext (List.Pairwise.filter _ (asc_ins f fs ha)) (List.Pairwise.filter _ ha) fun n => ?_
  rw [get_del, get_del, get_ins f fs n ha]
  by_cases h : f.n = n
  · rw [if_pos h, if_pos h]
  · rw [if_neg h, if_neg h, if_neg h]
set_option maxRecDepth 20000 in
set_option maxHeartbeats 2000000 in
theorem lay_any (q m : Nat) (st : St) (sl : By → Value) (x b : By) (s : Nat) (v : Value) (w : World) (h : PX x w q m st sl) (hx : 1 ≤ x.length ∧ x.length ≤ 64) (hv : FRow w 5 v b.length (Lib.byteCells b))
    (hs : s ≤ b.length) (ht : tot (lay ⟨x, b, s⟩ st.fs) ≤ st.room)
    (hk : ∀ k, v.ownBlock = some k → k ≠ q ∧ k ≠ m ∧ ∀ g ∈ st.fs, g.n ≠ x → (sl g.n).ownBlock ≠ some k) :
    Calls Tryz.prog 41 #[.pointer (some ⟨q, 0, none⟩), .string ⟨x.toArray⟩, fv v s] w fun e w' => e = .returned (.tuple #[]) ∧
      PA w' q m { st with fs := lay ⟨x, b, s⟩ st.fs } (fun y => if y = x then v else sl y) ∧ Out (fun k => k = q ∨ k = m) w w' := by
  obtain ⟨va, vc, hve⟩ := hv.rd.slice
  subst hve
  have HV := Lib.hid hv
  have HQ := Lib.hid h.blk.lt
  have HM := Lib.hid (And.intro h.map.lt h.qm)
  have HLAID := Lib.hid (fun W' => h.laid (W' := W') hx hv hs ht hk)
  have HLN : Hid (st.fs.length < maxLen) := Lib.hid (by have h1 := len_tot st.fs (fun f hf => (h.fit.file f hf).1); have h2 := h.fit.tot; have h3 := h.fit.room; unfold maxLen; omega)
  have HAS := Lib.hid h.fit.asc
  have HK := Lib.hid hk
  have HT := Lib.hid ht
  obtain ⟨oa, oc, os, hof⟩ := fvOf_parts h
  have htl := tot_lay ⟨x, b, s⟩ st.fs h.fit.asc
  simp only at htl
  have hT : tot st.fs ≤ 268435456 := Nat.le_trans h.fit.tot h.fit.room
  have hT2 : tot (lay ⟨x, b, s⟩ st.fs) ≤ 268435456 := Nat.le_trans ht h.fit.room
  obtain ⟨T2, hT2e⟩ : ∃ T2, T2 = tot (lay ⟨x, b, s⟩ st.fs) := ⟨_, rfl⟩
  rw [← hT2e] at htl hT2
  obtain ⟨ol, hole⟩ : ∃ ol, ol = (gB st.fs x).length := ⟨_, rfl⟩
  rw [← hole] at htl hof
  have hw := Below.refl w.heap.size w
  have hbA : Below w.heap.size w (w.alloc (.cells #[.slice va b.length vc, .int .i64 (s : Int)] 82)) := hw.alloc (Nat.le_refl _) _
  have HP := Lib.hid (h.below hbA)
  have hB0 := Blk.new w 82 [.slice va b.length vc, .int .i64 (s : Int)]
  have hO0 : Out (fun k => k = q ∨ k = m) w (w.alloc (.cells #[.slice va b.length vc, .int .i64 (s : Int)] 82)) := (Out.refl _ w).alloc _
  have hlk := fun W (hW : PM W m st.fs sl) => (hW.look x (by omega)).trans (by rw [hof])
  obtain ⟨T, hTe⟩ : ∃ T, T = tot st.fs := ⟨_, rfl⟩
  have hS : ∀ W, PX x W q m st sl → Blk W w.heap.size 82 [.slice va b.length vc, .int .i64 (s : Int)] → Out (fun k => k = q ∨ k = m) w W → (fun W => W.cell? ⟨q, 0, none⟩ = some (.map (some m)) ∧ W.cell? ⟨q, 2, none⟩ = some (.int .i64 (T : Int)) ∧ W.cell? ⟨w.heap.size, 0, none⟩ = some (.slice va b.length vc) ∧ (Instr.lookup 60 (.map (some m)) (.string ⟨x.toArray⟩) false).run Tryz.prog W = .ok (.agg #[.slice oa ol oc, .int .i64 os]) W ∧ PX x W q m st sl ∧ Blk W w.heap.size 82 [.slice va b.length vc, .int .i64 (s : Int)] ∧ Out (fun k => k = q ∨ k = m) w W ∧ W.frozen? ⟨q, 2, none⟩ = false) W :=
    fun W h1 h2 h3 => ⟨h1.blk.cell 0 rfl, by rw [hTe]; exact h1.blk.cell 2 rfl, h2.cell 0 rfl, hlk W h1.map, h1, h2, h3, h1.blk.frozen 2⟩
  have HS := Lib.hid (hS (w.alloc (.cells #[.slice va b.length vc, .int .i64 (s : Int)] 82)).drew (HP.out.below (Below.refl _ _).drew) hB0.drew (hO0.trans (Out.of_below _ (Below.refl _ _).drew) (fun _ _ h => h)))
  have hfd : ∀ W, (Instr.field 82 (.agg #[.slice oa ol oc, .int .i64 os]) 0).run Tryz.prog W = .ok (.slice oa ol oc) W := fun W => by kernel_rfl
  rw [← hTe] at htl hT
  have e1 : IntKind.i64.wrap ((b.length : Int) - (ol : Int)) = (b.length : Int) - (ol : Int) := IntWalk.i64_in _ (by omega)
  have e2 : IntKind.i64.wrap ((T : Int) + ((b.length : Int) - (ol : Int))) = (T2 : Int) := by rw [IntWalk.i64_in _ (by omega)]; omega
  have HTE := Lib.hid hTe
  have HT2E := Lib.hid hT2e
  unfold fv
  clear h hv hk ht hw hbA hB0 hO0 hlk hS hof htl hT hT2 hT2e hTe hole
  go_enter Tryz.func41, Tryz.ntmps41
  go_wp2_with fail
  refine wp_region_U (S := (fun W => W.cell? ⟨q, 0, none⟩ = some (.map (some m)) ∧ W.cell? ⟨q, 2, none⟩ = some (.int .i64 (T : Int)) ∧ W.cell? ⟨w.heap.size, 0, none⟩ = some (.slice va b.length vc) ∧ (Instr.lookup 60 (.map (some m)) (.string ⟨x.toArray⟩) false).run Tryz.prog W = .ok (.agg #[.slice oa ol oc, .int .i64 os]) W ∧ PX x W q m st sl ∧ Blk W w.heap.size 82 [.slice va b.length vc, .int .i64 (s : Int)] ∧ Out (fun k => k = q ∨ k = m) w W ∧ W.frozen? ⟨q, 2, none⟩ = false)) (by kernel_rfl) ?_ ?_
  · exact HS.out
  refine wpU_take (i := 0) (oi := ?oi1) (v := ?v1) ?hi1 (by kernel_rfl) (by kernel_rfl) (by kernel_rfl) ?hy1 ?rest1
  case hi1 => (simp only [List.getElem?_toArray, List.getElem?_cons_succ, List.getElem?_cons_zero]; rfl)
  case hy1 => (refine Or.inl ⟨by rfl, ?_⟩; intro W hSw; (try dsimp only at hSw); go_simp; (try with_reducible rfl))
  try simp only [Act.put, List.setIfInBounds_toArray, List.set_cons_zero, List.set_cons_succ]
  refine wpU_take (i := 1) (oi := ?oi2) (v := ?v2) ?hi2 (by kernel_rfl) (by kernel_rfl) (by kernel_rfl) ?hy2 ?rest2
  case hi2 => (simp only [List.getElem?_toArray, List.getElem?_cons_succ, List.getElem?_cons_zero]; rfl)
  case hy2 => (refine Or.inl ⟨by rfl, ?_⟩; intro W hSw; (try dsimp only at hSw); go_simp; (try with_reducible rfl))
  try simp only [Act.put, List.setIfInBounds_toArray, List.set_cons_zero, List.set_cons_succ]
  refine wpU_take (i := 2) (oi := ?oi3) (v := ?v3) ?hi3 (by kernel_rfl) (by kernel_rfl) (by kernel_rfl) ?hy3 ?rest3
  case hi3 => (simp only [List.getElem?_toArray, List.getElem?_cons_succ, List.getElem?_cons_zero]; rfl)
  case hy3 => (refine Or.inl ⟨by rfl, ?_⟩; intro W hSw; (try dsimp only at hSw); go_simp; (try with_reducible rfl))
  try simp only [Act.put, List.setIfInBounds_toArray, List.set_cons_zero, List.set_cons_succ]
  refine wpU_take (i := 3) (oi := ?oi4) (v := ?v4) ?hi4 (by kernel_rfl) (by kernel_rfl) (by kernel_rfl) ?hy4 ?rest4
  case hi4 => (simp only [List.getElem?_toArray, List.getElem?_cons_succ, List.getElem?_cons_zero]; rfl)
  case hy4 => (refine Or.inl ⟨by rfl, ?_⟩; intro W hSw; (try dsimp only at hSw); go_simp; (try with_reducible rfl))
  try simp only [Act.put, List.setIfInBounds_toArray, List.set_cons_zero, List.set_cons_succ]
  refine wpU_take (i := 4) (oi := ?oi5) (v := ?v5) ?hi5 (by kernel_rfl) (by kernel_rfl) (by kernel_rfl) ?hy5 ?rest5
  case hi5 => (simp only [List.getElem?_toArray, List.getElem?_cons_succ, List.getElem?_cons_zero]; rfl)
  case hy5 => (refine Or.inl ⟨by rfl, ?_⟩; intro W hSw; (try dsimp only at hSw); go_simp; (try with_reducible rfl))
  try simp only [Act.put, List.setIfInBounds_toArray, List.set_cons_zero, List.set_cons_succ]
  refine wpU_take (i := 5) (oi := ?oi6) (v := ?v6) ?hi6 (by kernel_rfl) (by kernel_rfl) (by kernel_rfl) ?hy6 ?rest6
  case hi6 => (simp only [List.getElem?_toArray, List.getElem?_cons_succ, List.getElem?_cons_zero]; rfl)
  case hy6 => (refine Or.inl ⟨by rfl, ?_⟩; intro W hSw; (try dsimp only at hSw); go_simp; (try with_reducible rfl))
  try simp only [Act.put, List.setIfInBounds_toArray, List.set_cons_zero, List.set_cons_succ]
  refine wpU_take (i := 6) (oi := ?oi7) (v := ?v7) ?hi7 (by kernel_rfl) (by kernel_rfl) (by kernel_rfl) ?hy7 ?rest7
  case hi7 => (simp only [List.getElem?_toArray, List.getElem?_cons_succ, List.getElem?_cons_zero]; rfl)
  case hy7 => (refine Or.inl ⟨by rfl, ?_⟩; intro W hSw; (try dsimp only at hSw); go_simp; (try with_reducible rfl))
  try simp only [Act.put, List.setIfInBounds_toArray, List.set_cons_zero, List.set_cons_succ]
  refine wpU_take (i := 7) (oi := ?oi8) (v := ?v8) ?hi8 (by kernel_rfl) (by kernel_rfl) (by kernel_rfl) ?hy8 ?rest8
  case hi8 => (simp only [List.getElem?_toArray, List.getElem?_cons_succ, List.getElem?_cons_zero]; rfl)
  case hy8 => (refine Or.inl ⟨by rfl, ?_⟩; intro W hSw; (try dsimp only at hSw); go_simp; (try with_reducible rfl))
  try simp only [Act.put, List.setIfInBounds_toArray, List.set_cons_zero, List.set_cons_succ]
  refine wpU_take (i := 8) (oi := ?oi9) (v := ?v9) ?hi9 (by kernel_rfl) (by kernel_rfl) (by kernel_rfl) ?hy9 ?rest9
  case hi9 => (simp only [List.getElem?_toArray, List.getElem?_cons_succ, List.getElem?_cons_zero]; rfl)
  case hy9 => (refine Or.inl ⟨by rfl, ?_⟩; intro W hSw; (try dsimp only at hSw); go_simp; (try with_reducible rfl))
  try simp only [Act.put, List.setIfInBounds_toArray, List.set_cons_zero, List.set_cons_succ]
  refine wpU_take (i := 9) (oi := ?oi10) (v := ?v10) ?hi10 (by kernel_rfl) (by kernel_rfl) (by kernel_rfl) ?hy10 ?rest10
  case hi10 => (simp only [List.getElem?_toArray, List.getElem?_cons_succ, List.getElem?_cons_zero]; rfl)
  case hy10 => (refine Or.inl ⟨by rfl, ?_⟩; intro W hSw; (try dsimp only at hSw); go_simp; (try with_reducible rfl))
  try simp only [Act.put, List.setIfInBounds_toArray, List.set_cons_zero, List.set_cons_succ]
  refine wpU_take (i := 10) (oi := ?oi11) (v := ?v11) ?hi11 (by kernel_rfl) (by kernel_rfl) (by kernel_rfl) ?hy11 ?rest11
  case hi11 => (simp only [List.getElem?_toArray, List.getElem?_cons_succ, List.getElem?_cons_zero]; rfl)
  case hy11 => (refine Or.inl ⟨by rfl, ?_⟩; intro W hSw; (try dsimp only at hSw); go_simp; (try with_reducible rfl))
  try simp only [Act.put, List.setIfInBounds_toArray, List.set_cons_zero, List.set_cons_succ]
  refine wpU_take (i := 11) (oi := ?oi12) (v := ?v12) ?hi12 (by kernel_rfl) (by kernel_rfl) (by kernel_rfl) ?hy12 ?rest12
  case hi12 => (simp only [List.getElem?_toArray, List.getElem?_cons_succ, List.getElem?_cons_zero]; rfl)
  case hy12 => (refine Or.inl ⟨by rfl, ?_⟩; intro W hSw; (try dsimp only at hSw); go_simp; (try with_reducible rfl))
  try simp only [Act.put, List.setIfInBounds_toArray, List.set_cons_zero, List.set_cons_succ]
  refine wpU_take (i := 12) (oi := ?oi13) (v := ?v13) ?hi13 (by kernel_rfl) (by kernel_rfl) (by kernel_rfl) ?hy13 ?rest13
  case hi13 => (simp only [List.getElem?_toArray, List.getElem?_cons_succ, List.getElem?_cons_zero]; rfl)
  case hy13 => (refine Or.inl ⟨by rfl, ?_⟩; intro W hSw; (try dsimp only at hSw); go_simp; (try with_reducible rfl))
  try simp only [Act.put, List.setIfInBounds_toArray, List.set_cons_zero, List.set_cons_succ]
  refine wpU_take (i := 13) (oi := ?oi14) (v := ?v14) ?hi14 (by kernel_rfl) (by kernel_rfl) (by kernel_rfl) ?hy14 ?rest14
  case hi14 => (simp only [List.getElem?_toArray, List.getElem?_cons_succ, List.getElem?_cons_zero]; rfl)
  case hy14 => (refine Or.inl ⟨by rfl, ?_⟩; intro W hSw; (try dsimp only at hSw); go_simp; (try with_reducible rfl))
  try simp only [Act.put, List.setIfInBounds_toArray, List.set_cons_zero, List.set_cons_succ]
  refine wpU_take (i := 14) (oi := ?oi15) (v := ?v15) ?hi15 (by kernel_rfl) (by kernel_rfl) (by kernel_rfl) ?hy15 ?rest15
  case hi15 => (simp only [List.getElem?_toArray, List.getElem?_cons_succ, List.getElem?_cons_zero]; rfl)
  case hy15 => (refine Or.inl ⟨by rfl, ?_⟩; intro W hSw; (try dsimp only at hSw); go_simp; (try with_reducible rfl))
  try simp only [Act.put, List.setIfInBounds_toArray, List.set_cons_zero, List.set_cons_succ]
  refine wpU_take (i := 15) (oi := ?oi16) (v := ?v16) ?hi16 (by kernel_rfl) (by kernel_rfl) (by kernel_rfl) ?hy16 ?rest16
  case hi16 => (simp only [List.getElem?_toArray, List.getElem?_cons_succ, List.getElem?_cons_zero]; rfl)
  case hy16 => (refine Or.inl ⟨by rfl, ?_⟩; intro W hSw; (try dsimp only at hSw); go_simp; (try with_reducible rfl))
  try simp only [Act.put, List.setIfInBounds_toArray, List.set_cons_zero, List.set_cons_succ]
  refine wpU_take (i := 16) (oi := ?oi17) (v := ?v17) ?hi17 (by kernel_rfl) (by kernel_rfl) (by kernel_rfl) ?hy17 ?rest17
  case hi17 => (simp only [List.getElem?_toArray, List.getElem?_cons_succ, List.getElem?_cons_zero]; rfl)
  case hy17 => (refine Or.inl ⟨by rfl, ?_⟩; intro W hSw; (try dsimp only at hSw); go_simp; (try with_reducible rfl))
  try simp only [Act.put, List.setIfInBounds_toArray, List.set_cons_zero, List.set_cons_succ]
  refine wpU_take (i := 17) (oi := ?oi18) (v := ?v18) ?hi18 (by kernel_rfl) (by kernel_rfl) (by kernel_rfl) ?hy18 ?rest18
  case hi18 => (simp only [List.getElem?_toArray, List.getElem?_cons_succ, List.getElem?_cons_zero]; rfl)
  case hy18 => (refine Or.inl ⟨by rfl, ?_⟩; intro W hSw; (try dsimp only at hSw); go_simp; (try with_reducible rfl))
  try simp only [Act.put, List.setIfInBounds_toArray, List.set_cons_zero, List.set_cons_succ]
  refine wpU_last2 (i := 18) (j := 19) (oi := ?oi19) (oj := ?oj19) (by kernel_rfl) (by kernel_rfl) ?hi19 (by kernel_rfl) ?hj19 (by kernel_rfl) ?rest19
  case hi19 => (simp only [List.getElem?_toArray, List.getElem?_cons_succ, List.getElem?_cons_zero]; rfl)
  case hj19 => (simp only [List.getElem?_toArray, List.getElem?_cons_succ, List.getElem?_cons_zero]; rfl)
  intro W hSw
  go_wp2_with fail
  have HL := Lib.hid (LY.first hSw.2.2.2.2.1 hSw.2.2.2.2.2.1 hSw.2.2.2.2.2.2.1 HQ.out (.int .i64 (T2 : Int)))
  clear hSw hfd e1 e2 HS
  generalize W.setCell ⟨q, 2, none⟩ (.int .i64 (T2 : Int)) = W2 at HL ⊢
  refine wp_region_U (S := (fun W3 => W3.cell? ⟨q, 0, none⟩ = some (.map (some m)) ∧ W3.cell? ⟨w.heap.size, 0, none⟩ = some (.slice va b.length vc) ∧ W3.cell? ⟨w.heap.size, 1, none⟩ = some (.int .i64 (s : Int)) ∧ LY w W3 q m st sl ((head6 m st).set 2 (.int .i64 (T2 : Int))) [.slice va b.length vc, .int .i64 (s : Int)])) (by kernel_rfl) ?_ ?_
  · exact ⟨HL.out.blk.cell 0 rfl, HL.out.box.cell 0 rfl, HL.out.box.cell 1 rfl, HL.out.drew⟩
  refine wpU_take (i := 0) (oi := ?oi20) (v := ?v20) ?hi20 (by kernel_rfl) (by kernel_rfl) (by kernel_rfl) ?hy20 ?rest20
  case hi20 => (simp only [List.getElem?_toArray, List.getElem?_cons_succ, List.getElem?_cons_zero]; rfl)
  case hy20 => (refine Or.inl ⟨by rfl, ?_⟩; intro W hSw; (try dsimp only at hSw); go_simp; (try with_reducible rfl))
  try simp only [Act.put, List.setIfInBounds_toArray, List.set_cons_zero, List.set_cons_succ]
  refine wpU_take (i := 1) (oi := ?oi21) (v := ?v21) ?hi21 (by kernel_rfl) (by kernel_rfl) (by kernel_rfl) ?hy21 ?rest21
  case hi21 => (simp only [List.getElem?_toArray, List.getElem?_cons_succ, List.getElem?_cons_zero]; rfl)
  case hy21 => (refine Or.inl ⟨by rfl, ?_⟩; intro W hSw; (try dsimp only at hSw); go_simp; (try with_reducible rfl))
  try simp only [Act.put, List.setIfInBounds_toArray, List.set_cons_zero, List.set_cons_succ]
  refine wpU_take (i := 2) (oi := ?oi22) (v := ?v22) ?hi22 (by kernel_rfl) (by kernel_rfl) (by kernel_rfl) ?hy22 ?rest22
  case hi22 => (simp only [List.getElem?_toArray, List.getElem?_cons_succ, List.getElem?_cons_zero]; rfl)
  case hy22 => (refine Or.inl ⟨by rfl, ?_⟩; intro W hSw; (try dsimp only at hSw); go_simp; (try with_reducible rfl))
  try simp only [Act.put, List.setIfInBounds_toArray, List.set_cons_zero, List.set_cons_succ]
  refine wpU_take (i := 3) (oi := ?oi23) (v := ?v23) ?hi23 (by kernel_rfl) (by kernel_rfl) (by kernel_rfl) ?hy23 ?rest23
  case hi23 => (simp only [List.getElem?_toArray, List.getElem?_cons_succ, List.getElem?_cons_zero]; rfl)
  case hy23 => (refine Or.inl ⟨by rfl, ?_⟩; intro W hSw; (try dsimp only at hSw); go_simp; (try with_reducible rfl))
  try simp only [Act.put, List.setIfInBounds_toArray, List.set_cons_zero, List.set_cons_succ]
  refine wpU_take (i := 4) (oi := ?oi24) (v := ?v24) ?hi24 (by kernel_rfl) (by kernel_rfl) (by kernel_rfl) ?hy24 ?rest24
  case hi24 => (simp only [List.getElem?_toArray, List.getElem?_cons_succ, List.getElem?_cons_zero]; rfl)
  case hy24 => (refine Or.inl ⟨by rfl, ?_⟩; intro W hSw; (try dsimp only at hSw); go_simp; (try with_reducible rfl))
  try simp only [Act.put, List.setIfInBounds_toArray, List.set_cons_zero, List.set_cons_succ]
  refine wpU_take (i := 5) (oi := ?oi25) (v := ?v25) ?hi25 (by kernel_rfl) (by kernel_rfl) (by kernel_rfl) ?hy25 ?rest25
  case hi25 => (simp only [List.getElem?_toArray, List.getElem?_cons_succ, List.getElem?_cons_zero]; rfl)
  case hy25 => (refine Or.inl ⟨by rfl, ?_⟩; intro W hSw; (try dsimp only at hSw); go_simp; (try with_reducible rfl))
  try simp only [Act.put, List.setIfInBounds_toArray, List.set_cons_zero, List.set_cons_succ]
  refine wpU_last (i := 6) (oi := ?oi26) (by kernel_rfl) (by kernel_rfl) ?hi26 (by kernel_rfl) ?rest26
  case hi26 => (simp only [List.getElem?_toArray, List.getElem?_cons_succ, List.getElem?_cons_zero]; rfl)
  intro W3 hSw
  obtain ⟨D, hown, hsz, hD⟩ := hSw.2.2.2.map
  have HY := Lib.hid hSw.2.2.2
  clear hSw HL
  with_reducible refine wpList_mapUpdate_own _ rfl _ _ _ 60 rfl 9 82 skey Tryz.underlying60 heldR m _ D rfl hown HLN.out (.string ⟨x.toArray⟩) (fv (.slice va b.length vc) s) (.string x) rfl rfl (WideMaps.keyOf_string_mk Tryz.underlying9 (by rw [st_size]; unfold maxLen; omega)) (.held (fv (.slice va b.length vc) s)) [] rfl ?_
  intro w4 ho4 hg4
  have hPM := PM.put (f := ⟨x, b, s⟩) HAS.out hsz (hown.tidy skey) hD ho4
  have hB4 := HY.out.box.grown hg4 (fun r hr e => by cases hr; have := HM.out.1; omega)
  have hq4 := HY.out.blk.grown hg4 (fun r hr e => by cases hr; exact HM.out.2 e)
  have ho4' : Out (fun k => k = q ∨ k = m) w w4 := HY.out.out.trans (Out.of_grown hg4) (fun k _ hk => .inr (by cases hk; rfl))
  have b0 := hB4.cell 0 rfl
  have q0 := hq4.cell 0 rfl
  clear ho4 hg4 hown hsz hD HY
  simp only [Act.put, wpList]
  by_cases hb : b = []
  case neg =>
    have hbl : 0 < b.length := List.length_pos_iff.2 hb
    have t0 : ((b.length : Int) == 0) = false := by rw [beq_eq_false_iff_ne]; omega
    have hle : lay ⟨x, b, s⟩ st.fs = ins ⟨x, b, s⟩ st.fs := by unfold lay; rw [if_neg hb]
    have HFIN := Lib.hid (HLAID.out w4 ho4' (by rw [HT2E.out] at hq4; exact hq4) (by rw [hle]; exact hPM))
    clear hB4 hq4 hle hb hPM
    go_wp2_with fail
    refine bodyPost_end (results_none rfl _ _ _) rfl ?_
    exact ⟨rfl, HFIN.out, ho4'⟩
  case pos =>
    have t0 : ((b.length : Int) == 0) = true := by rw [hb]; rfl
    have HB := Lib.hid hb
    have hle : lay ⟨x, b, s⟩ st.fs = st.fs.filter fun g => !(g.n == x) := by unfold lay; rw [if_pos hb]
    have hPM0 := hPM
    obtain ⟨D4, hown4, hsz4, hD4⟩ := hPM0
    clear hb
    obtain ⟨w5, hrun5, ho5, hg5⟩ := hown4.drop (key := .string ⟨x.toArray⟩) (kl := .string x) skey Tryz.underlying60 (WideMaps.keyOf_string_mk Tryz.underlying9 (by rw [st_size]; unfold maxLen; omega)) 0
    have hPM5 := PM.del (x := x) (asc_ins ⟨x, b, s⟩ st.fs HAS.out) hsz4 (hown4.tidy skey) hD4 ho5
    rw [ins_del ⟨x, b, s⟩ st.fs HAS.out, ← hle] at hPM5
    have hq5 := hq4.grown hg5.grown (fun r hr e => by cases hr; exact HM.out.2 e)
    have ho5' : Out (fun k => k = q ∨ k = m) w w5 := ho4'.trans (Out.of_grown hg5.grown) (fun k _ hk => .inr (by cases hk; rfl))
    have HFIN := Lib.hid (HLAID.out w5 ho5' (by rw [HT2E.out] at hq5; exact hq5) hPM5)
    clear hB4 hq4 hq5 hPM hPM5 hle hown4 hsz4 hD4 ho5 hg5
    go_wp2_with fail
    refine bodyPost_end (results_none rfl _ _ _) rfl ?_
    exact ⟨rfl, HFIN.out, ho5'⟩
end Go.Proofs.YthofbblgoamipaaGreatDoor.Pt
