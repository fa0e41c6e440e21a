/-
  Chapter 10: Sync, Cut. Printed by gen_plate_sync.py.
-/
import Derived.Test.YthofbblgoamipaaGreatDoorBf
namespace Go.Proofs.YthofbblgoamipaaGreatDoor.Pt
open Go.RowKit Go.Maps
set_option linter.unusedVariables false
set_option linter.unusedSimpArgs false

def syn (st : St) (x : By) : Nat × St :=
  if (chg st x).1 = 0 then (0, { (chg st x).2 with fs := lay ⟨x, gB st.fs x, (gB st.fs x).length⟩ st.fs }) else chg st x
def cut (st : St) (x : By) (n : Int) : Nat × St :=
  if (chg st x).1 = 0 then (if n < 0 ∨ ((gB st.fs x).length : Int) < n then (6, (chg st x).2) else (0, { (chg st x).2 with fs := lay ⟨x, (gB st.fs x).take n.toNat, min (gS st.fs x) n.toNat⟩ st.fs })) else chg st x
/-- lay, seen from ahead of the call that makes it -/
theorem PA.relay {w W W1 : World} {q m : Nat} {st st1 : St} {sl : By → Value} {x b : By} {s : Nat} {v : Value} (hP : PA W q m st1 sl) (hfs : st1.fs = st.fs) (ho : Out (fun k => k = q) w W) (hb : Below W.heap.size W W1)
    (hf : Fit st) (hx : 1 ≤ x.length ∧ x.length ≤ 64) (hv : FRow W1 5 v b.length (Lib.byteCells b)) (hs : s ≤ b.length) (hbl : b.length ≤ (gB st.fs x).length) (hr : st1.room = st.room)
    (hap : ∀ k, v.ownBlock = some k → foot q m st.fs sl k ∧ k ≠ q ∧ k ≠ m ∧ ∀ g ∈ st.fs, g.n ≠ x → (sl g.n).ownBlock ≠ some k) :
    Calls Tryz.prog 41 #[.pointer (some ⟨q, 0, none⟩), .string ⟨x.toArray⟩, fv v s] W1 fun e w' => e = .returned (.tuple #[]) ∧ Out (fun k => k = q ∨ k = m) W1 w' ∧
      ∃ sl', PA w' q m { st1 with fs := lay ⟨x, b, s⟩ st.fs } sl' ∧ Out (foot q m st.fs sl) w w' ∧ ∀ k, foot q m (lay ⟨x, b, s⟩ st.fs) sl' k → foot q m st.fs sl k ∨ w.heap.size ≤ k := by
  have hp1 := (hP.below hb).px x
  have htot : tot (lay ⟨x, b, s⟩ st1.fs) ≤ st1.room := by
    rw [hfs, hr]
    have h1 := tot_lay ⟨x, b, s⟩ st.fs hf.asc
    simp only at h1
    have h3 := hf.tot
    omega
  refine (lay_any q m st1 sl x b s v W1 hp1 hx hv hs htot (fun k hk => by rw [hfs]; exact (hap k hk).2)).mono ?_
  rintro e w' ⟨rfl, h1, h2⟩
  rw [hfs] at h1
  refine ⟨rfl, h2, _, h1, ((ho.mono (fun k _ e => Or.inl e)).trans (Out.of_below (foot q m st.fs sl) hb) (fun _ _ h => h)).trans h2 (fun k _ e => ?_), fun k hk => foot_lay hf.asc (fun k hk => .inl (hap k hk).1) k hk⟩
  rcases e with e | e
  · exact Or.inl e
  · exact Or.inr (Or.inl e)
/-- its first k elements, nothing behind them -/
theorem FRow.cut' {w : World} {e : TypeId} {a : Option Addr} {n c : Nat} {xs : List Value} (h : FRow w e (.slice a n c) n xs) (k : Nat) (hk : k ≤ n) (hk2 : k ≤ c) : FRow w e (.slice a k k) k (xs.take k) := by
  rcases Nat.eq_zero_or_pos k with rfl | h0
  · rcases a with _ | a
    · rw [List.take_zero]; exact .inl (World.ownsRow_nil _ _ _ _)
    · have ha : ∃ g, a = ⟨g, 0, none⟩ := by
        rcases h with h | ⟨g', e2, _⟩
        · rcases h.2 with ⟨e2, _⟩ | ⟨g', cap', cur, e2, _⟩
          · cases e2
          · cases e2; exact ⟨_, rfl⟩
        · cases e2; exact ⟨_, rfl⟩
      obtain ⟨g, rfl⟩ := ha
      exact .inr ⟨g, rfl, h.lt g rfl, by simp, fun j u hj => by simp at hj⟩
  · exact (h.cut k h0 hk).1
theorem FRow.le_cap {w : World} {e : TypeId} {a : Option Addr} {n c : Nat} {xs : List Value} (h : FRow w e (.slice a n c) n xs) : n ≤ c := by
  rcases Nat.eq_zero_or_pos n with rfl | h0
  · exact Nat.zero_le _
  · exact (h.cut n h0 (Nat.le_refl _)).2
set_option maxRecDepth 20000 in
set_option maxHeartbeats 2000000 in
theorem syn_any (q m : Nat) (st : St) (sl : By → Value) (x : By) (w : World) (h : PA w q m st sl) (hx : x.length ≤ 9223372036854775807) :
    Calls Tryz.prog 38 #[.pointer (some ⟨q, 0, none⟩), .string ⟨x.toArray⟩] w fun e w' => e = .returned (.int .i64 ((syn st x).1 : Int)) ∧
      ∃ sl', PA w' q m (syn st x).2 sl' ∧ Out (foot q m st.fs sl) w w' ∧ ∀ k, foot q m (syn st x).2.fs sl' k → foot q m st.fs sl k ∨ w.heap.size ≤ k := by
  have HC := Lib.hid (change_any q m st sl x w h hx)
  have HF0 := Lib.hid h.fit
  obtain ⟨c, st1, hc⟩ : ∃ c st1, chg st x = (c, st1) := ⟨_, _, rfl⟩
  have hcf := chg_fs st x
  have hck := @chg_ok st x
  unfold syn
  rw [hc] at HC hcf hck ⊢
  simp only at HC hcf hck ⊢
  have HCK := Lib.hid hck
  clear h hc hck
  by_cases h0 : c = 0
  case neg =>
    have hz2 : ¬ (c : Int) = 0 := by omega
    have hne : ((c : Int) == 0) = false := by rw [beq_eq_false_iff_ne]; omega
    rw [if_neg h0]
    have HF := Lib.hid hcf.1
    clear hcf
    go_enter Tryz.func38, Tryz.ntmps38
    go_wp2_with fail
    refine HC.out.mono ?_
    rintro e w1 ⟨rfl, hp1, ho1⟩
    have HR := Lib.hid (And.intro hp1 ho1)
    clear hp1 ho1
    go_wp2_with fail
    go_ret
    exact ⟨rfl, sl, HR.out.1, HR.out.2.mono (fun k _ hk => .inl hk), fun k hk => .inl (by rw [HF.out] at hk; exact hk)⟩
  case pos =>
    subst h0
    rw [if_pos rfl]
    have HF := Lib.hid hcf
    clear hcf
    go_enter Tryz.func38, Tryz.ntmps38
    go_wp2_with fail
    refine HC.out.mono ?_
    rintro e W ⟨rfl, hp1, ho1⟩
    have HW := Lib.hid (And.intro hp1 ho1)
    obtain ⟨oa, oc, hlk, hrow, hap⟩ := hp1.file x hx
    have c0 := hp1.blk.cell 0 rfl
    have HROW := Lib.hid hrow
    have HAP := Lib.hid hap
    rw [HF.out.1] at hlk HROW HAP
    obtain ⟨B, hB⟩ : ∃ B, B = gB st.fs x := ⟨_, rfl⟩
    obtain ⟨Sf, hSf⟩ : ∃ Sf, Sf = gS st.fs x := ⟨_, rfl⟩
    rw [← hB, ← hSf] at hlk
    rw [← hB] at HROW HAP
    have HBS := Lib.hid (And.intro hB hSf)
    clear hrow hap hp1 ho1 hB hSf
    go_wp2_with fail
    generalize hW1 : (W.alloc (Obj.cells #[Value.slice oa B.length oc, Value.int IntKind.i64 (Sf : Int)] 82)) = W1
    have HW1 := Lib.hid hW1
    have hbel : Below W.heap.size W W1 := by rw [← hW1]; exact (Below.refl W.heap.size W).alloc (Nat.le_refl _) _
    have hsz1 : W1.heap.size = W.heap.size + 1 := by rw [← hW1]; simp
    have hbx : Blk W1 W.heap.size 82 [Value.slice oa B.length oc, Value.int IntKind.i64 (Sf : Int)] := by rw [← hW1]; exact Blk.new W 82 [Value.slice oa B.length oc, Value.int IntKind.i64 (Sf : Int)]
    clear hW1
    have hrow1 := HROW.out.keep (fun g hg => hbel.block g (HROW.out.lt g hg))
    have HLAY := Lib.hid (HW.out.1.relay HF.out.1 HW.out.2 hbel HF0.out (HCK.out trivial) hrow1 (Nat.le_refl _) (by rw [HBS.out.1]; exact Nat.le_refl _) HF.out.2 HAP.out)
    clear hbel hsz1 hbx hrow1 hlk c0
    refine HLAY.out.mono ?_
    rintro e w3 ⟨rfl, hSw⟩
    have HEND := Lib.hid hSw.2
    clear hSw
    go_wp2_with fail
    go_ret
    rw [← HBS.out.1]
    exact ⟨rfl, HEND.out⟩
set_option maxRecDepth 20000 in
set_option maxHeartbeats 2000000 in
theorem cut_any (q m : Nat) (st : St) (sl : By → Value) (x : By) (n : Int) (w : World) (h : PA w q m st sl) (hx : x.length ≤ 9223372036854775807) :
    Calls Tryz.prog 52 #[.pointer (some ⟨q, 0, none⟩), .string ⟨x.toArray⟩, .int .i64 n] w fun e w' => e = .returned (.int .i64 ((cut st x n).1 : Int)) ∧
      ∃ sl', PA w' q m (cut st x n).2 sl' ∧ Out (foot q m st.fs sl) w w' ∧ ∀ k, foot q m (cut st x n).2.fs sl' k → foot q m st.fs sl k ∨ w.heap.size ≤ k := by
  have HC := Lib.hid (change_any q m st sl x w h hx)
  have HF0 := Lib.hid h.fit
  obtain ⟨c, st1, hc⟩ : ∃ c st1, chg st x = (c, st1) := ⟨_, _, rfl⟩
  have hcf := chg_fs st x
  have hck := @chg_ok st x
  unfold cut
  rw [hc] at HC hcf hck ⊢
  simp only at HC hcf hck ⊢
  have HCK := Lib.hid hck
  clear h hc hck
  by_cases h0 : c = 0
  case neg =>
    have hz2 : ¬ (c : Int) = 0 := by omega
    have hne : ((c : Int) == 0) = false := by rw [beq_eq_false_iff_ne]; omega
    rw [if_neg h0]
    have HF := Lib.hid hcf.1
    clear hcf
    go_enter Tryz.func52, Tryz.ntmps52
    go_wp2_with fail
    refine HC.out.mono ?_
    rintro e w1 ⟨rfl, hp1, ho1⟩
    have HR := Lib.hid (And.intro hp1 ho1)
    clear hp1 ho1
    go_wp2_with fail
    go_ret
    exact ⟨rfl, sl, HR.out.1, HR.out.2.mono (fun k _ hk => .inl hk), fun k hk => .inl (by rw [HF.out] at hk; exact hk)⟩
  case pos =>
    subst h0
    rw [if_pos rfl]
    have HF := Lib.hid hcf
    clear hcf
    by_cases hr : n < 0 ∨ ((gB st.fs x).length : Int) < n
    case pos =>
      rw [if_pos hr]
      go_enter Tryz.func52, Tryz.ntmps52
      go_wp2_with fail
      refine HC.out.mono ?_
      rintro e W ⟨rfl, hp1, ho1⟩
      have HW := Lib.hid (And.intro hp1 ho1)
      obtain ⟨oa, oc, hlk, hrow, hap⟩ := hp1.file x hx
      have c0 := hp1.blk.cell 0 rfl
      have HROW := Lib.hid hrow
      have HAP := Lib.hid hap
      rw [HF.out.1] at hlk HROW HAP
      obtain ⟨B, hB⟩ : ∃ B, B = gB st.fs x := ⟨_, rfl⟩
      obtain ⟨Sf, hSf⟩ : ∃ Sf, Sf = gS st.fs x := ⟨_, rfl⟩
      rw [← hB, ← hSf] at hlk
      rw [← hB] at HROW HAP
      have HBS := Lib.hid (And.intro hB hSf)
      rw [← hB] at hr
      clear hrow hap hp1 ho1 hB hSf
      have b0 := (Blk.new W 82 [Value.slice oa B.length oc, Value.int IntKind.i64 (Sf : Int)]).cell 0 rfl
      have HWA := Lib.hid (And.intro (HW.out.1.below ((Below.refl W.heap.size W).alloc (Nat.le_refl _) (Obj.cells #[Value.slice oa B.length oc, Value.int IntKind.i64 (Sf : Int)] 82))) (HW.out.2.trans (Out.of_below (fun k => k = q) ((Below.refl W.heap.size W).alloc (Nat.le_refl _) (Obj.cells #[Value.slice oa B.length oc, Value.int IntKind.i64 (Sf : Int)] 82))) (fun _ _ h => h)))
      by_cases hn : n < 0
      case pos =>
        clear hr
        go_wp2_with fail
        go_ret
        exact ⟨rfl, sl, HWA.out.1, HWA.out.2.mono (fun k _ hk => .inl hk), fun k hk => .inl (by rw [HF.out.1] at hk; exact hk)⟩
      case neg =>
        have t1 : (B.length : Int) < n := hr.resolve_left hn
        clear hr
        go_wp2_with fail
        go_ret
        exact ⟨rfl, sl, HWA.out.1, HWA.out.2.mono (fun k _ hk => .inl hk), fun k hk => .inl (by rw [HF.out.1] at hk; exact hk)⟩
    case neg =>
      rw [if_neg hr]
      obtain ⟨N, hN⟩ : ∃ N : Nat, n = (N : Int) := ⟨n.toNat, by omega⟩
      subst hN
      have hNt : (N : Int).toNat = N := Int.toNat_natCast N
      rw [hNt]
      clear hNt
      go_enter Tryz.func52, Tryz.ntmps52
      go_wp2_with fail
      refine HC.out.mono ?_
      rintro e W ⟨rfl, hp1, ho1⟩
      have HW := Lib.hid (And.intro hp1 ho1)
      obtain ⟨oa, oc, hlk, hrow, hap⟩ := hp1.file x hx
      have c0 := hp1.blk.cell 0 rfl
      have HROW := Lib.hid hrow
      have HAP := Lib.hid hap
      rw [HF.out.1] at hlk HROW HAP
      obtain ⟨B, hB⟩ : ∃ B, B = gB st.fs x := ⟨_, rfl⟩
      obtain ⟨Sf, hSf⟩ : ∃ Sf, Sf = gS st.fs x := ⟨_, rfl⟩
      rw [← hB, ← hSf] at hlk
      rw [← hB] at HROW HAP
      have HBS := Lib.hid (And.intro hB hSf)
      rw [← hB] at hr
      clear hrow hap hp1 ho1 hB hSf
      have b0 := (Blk.new W 82 [Value.slice oa B.length oc, Value.int IntKind.i64 (Sf : Int)]).cell 0 rfl
      have t0 : ¬ (N : Int) < 0 := fun e => hr (Or.inl e)
      have t1 : ¬ (B.length : Int) < (N : Int) := fun e => hr (Or.inr e)
      clear hr
      go_wp2_with fail
      clear b0
      generalize hW1 : (W.alloc (Obj.cells #[Value.slice oa B.length oc, Value.int IntKind.i64 (Sf : Int)] 82)).drew = W1
      have HW1 := Lib.hid hW1
      have hbel : Below W.heap.size W W1 := by rw [← hW1]; exact ((Below.refl W.heap.size W).alloc (Nat.le_refl _) _).drew
      have hsz1 : W1.heap.size = W.heap.size + 1 := by rw [← hW1]; simp
      have hbx : Blk W1 W.heap.size 82 [Value.slice oa B.length oc, Value.int IntKind.i64 (Sf : Int)] := by rw [← hW1]; exact (Blk.new W 82 [Value.slice oa B.length oc, Value.int IntKind.i64 (Sf : Int)]).drew
      clear hW1
      have hrow1 := HROW.out.keep (fun g hg => hbel.block g (HROW.out.lt g hg))
      have hcap := FRow.le_cap hrow1
      have hNB : N ≤ B.length := by omega
      have hcut := FRow.cut' hrow1 N hNB (by omega)
      have hcc : (Lib.byteCells B).take N = Lib.byteCells (B.take N) := by unfold Lib.byteCells; rw [List.map_take]
      have hll : (B.take N).length = N := by rw [List.length_take]; omega
      rw [hcc] at hcut
      have hSB : Sf ≤ B.length := by rw [HBS.out.1, HBS.out.2]; exact gS_le HF0.out x
      obtain ⟨M, hM⟩ : ∃ M, M = min Sf N := ⟨_, rfl⟩
      have hmin : (if N < Sf then (N : Int) else (Sf : Int)) = (M : Int) := by split <;> omega
      have hapk : ∀ k, (Value.slice oa N N).ownBlock = some k → foot q m st.fs sl k ∧ k ≠ q ∧ k ≠ m ∧ ∀ g ∈ st.fs, g.n ≠ x → (sl g.n).ownBlock ≠ some k := fun k hk => HAP.out k (by rw [← hk]; cases oa <;> rfl)
      have HLAY := Lib.hid (HW.out.1.relay (b := B.take N) (s := M) HF.out.1 HW.out.2 hbel HF0.out (HCK.out trivial) (by rw [hll]; exact hcut) (by rw [hll]; omega) (by rw [hll, ← HBS.out.1]; exact hNB) HF.out.2 hapk)
      have HBOX : Hid (∀ w', w' = W1 ∨ (fun w' => Out (fun k => k = q ∨ k = m) W1 w' ∧ ∃ sl', PA w' q m { st1 with fs := lay ⟨x, B.take N, M⟩ st.fs } sl' ∧ Out (foot q m st.fs sl) w w' ∧ ∀ k, foot q m (lay ⟨x, B.take N, M⟩ st.fs) sl' k → foot q m st.fs sl k ∨ w.heap.size ≤ k) w' → w'.cell? ⟨W.heap.size, 0, none⟩ = some (Value.slice oa B.length oc) ∧ w'.cell? ⟨W.heap.size, 1, none⟩ = some (Value.int IntKind.i64 (Sf : Int))) := Lib.hid (fun w' hw' => by
        have h2 : w'.heap[W.heap.size]? = W1.heap[W.heap.size]? := by
          rcases hw' with rfl | ⟨ho, _⟩
          · rfl
          · refine ho.block _ (by omega) (fun e => ?_)
            have g1 := HW.out.1.blk.lt
            have g2 := HW.out.1.map.lt
            omega
        have h3 : Blk w' W.heap.size 82 [Value.slice oa B.length oc, Value.int IntKind.i64 (Sf : Int)] := h2.trans hbx
        exact ⟨h3.cell 0 rfl, h3.cell 1 rfl⟩)
      have HM := Lib.hid hM
      have hNc : N ≤ oc := by omega
      clear hbel hsz1 hbx hrow1 hlk c0 hcut hcc hll hapk hM hSB hcap
      refine wp_region_V (S := flag1 12 (fun w' => w' = W1) (fun w' => Out (fun k => k = q ∨ k = m) W1 w' ∧ ∃ sl', PA w' q m { st1 with fs := lay ⟨x, B.take N, M⟩ st.fs } sl' ∧ Out (foot q m st.fs sl) w w' ∧ ∀ k, foot q m (lay ⟨x, B.take N, M⟩ st.fs) sl' k → foot q m st.fs sl k ∨ w.heap.size ≤ k)) (by kernel_rfl) (flag1_start (by rfl) ?_) ?_
      · exact HW1.out
      refine wpV_take (i := 0) (oi := ?oi1) (v := ?v1) ?hi1 (by kernel_rfl) (by kernel_rfl) (by kernel_rfl) (by rfl) ?hy1 ?rest1
      case hi1 => (simp only [List.getElem?_toArray, List.getElem?_cons_succ, List.getElem?_cons_zero]; rfl)
      case hy1 => (refine Or.inl ⟨by rfl, ?_⟩; intro W hSw; (have hb0 := (HBOX.out _ hSw).1; have hb1 := (HBOX.out _ hSw).2; clear hSw); go_simp; (try with_reducible rfl))
      try simp only [Act.put, List.setIfInBounds_toArray, List.set_cons_zero, List.set_cons_succ]
      refine wpV_take (i := 1) (oi := ?oi2) (v := ?v2) ?hi2 (by kernel_rfl) (by kernel_rfl) (by kernel_rfl) (by rfl) ?hy2 ?rest2
      case hi2 => (simp only [List.getElem?_toArray, List.getElem?_cons_succ, List.getElem?_cons_zero]; rfl)
      case hy2 => (refine Or.inl ⟨by rfl, ?_⟩; intro W hSw; (have hb0 := (HBOX.out _ hSw).1; have hb1 := (HBOX.out _ hSw).2; clear hSw); go_simp; (try with_reducible rfl))
      try simp only [Act.put, List.setIfInBounds_toArray, List.set_cons_zero, List.set_cons_succ]
      refine wpV_take (i := 2) (oi := ?oi3) (v := ?v3) ?hi3 (by kernel_rfl) (by kernel_rfl) (by kernel_rfl) (by rfl) ?hy3 ?rest3
      case hi3 => (simp only [List.getElem?_toArray, List.getElem?_cons_succ, List.getElem?_cons_zero]; rfl)
      case hy3 => (refine Or.inl ⟨by rfl, ?_⟩; intro W hSw; (have hb0 := (HBOX.out _ hSw).1; have hb1 := (HBOX.out _ hSw).2; clear hSw); go_simp; (try with_reducible rfl))
      try simp only [Act.put, List.setIfInBounds_toArray, List.set_cons_zero, List.set_cons_succ]
      refine wpV_take (i := 3) (oi := ?oi4) (v := ?v4) ?hi4 (by kernel_rfl) (by kernel_rfl) (by kernel_rfl) (by rfl) ?hy4 ?rest4
      case hi4 => (simp only [List.getElem?_toArray, List.getElem?_cons_succ, List.getElem?_cons_zero]; rfl)
      case hy4 => (refine Or.inl ⟨by rfl, ?_⟩; intro W hSw; (have hb0 := (HBOX.out _ hSw).1; have hb1 := (HBOX.out _ hSw).2; clear hSw); go_simp; (try with_reducible rfl))
      try simp only [Act.put, List.setIfInBounds_toArray, List.set_cons_zero, List.set_cons_succ]
      refine wpV_take (i := 4) (oi := ?oi5) (v := ?v5) ?hi5 (by kernel_rfl) (by kernel_rfl) (by kernel_rfl) (by rfl) ?hy5 ?rest5
      case hi5 => (simp only [List.getElem?_toArray, List.getElem?_cons_succ, List.getElem?_cons_zero]; rfl)
      case hy5 => (refine Or.inl ⟨by rfl, ?_⟩; intro W hSw; (have hb0 := (HBOX.out _ hSw).1; have hb1 := (HBOX.out _ hSw).2; clear hSw); go_simp; (try with_reducible rfl))
      try simp only [Act.put, List.setIfInBounds_toArray, List.set_cons_zero, List.set_cons_succ]
      refine wpV_take (i := 5) (oi := ?oi6) (v := ?v6) ?hi6 (by kernel_rfl) (by kernel_rfl) (by kernel_rfl) (by rfl) ?hy6 ?rest6
      case hi6 => (simp only [List.getElem?_toArray, List.getElem?_cons_succ, List.getElem?_cons_zero]; rfl)
      case hy6 => (refine Or.inl ⟨by rfl, ?_⟩; intro W hSw; (have hb0 := (HBOX.out _ hSw).1; have hb1 := (HBOX.out _ hSw).2; clear hSw); go_simp; (try with_reducible rfl))
      try simp only [Act.put, List.setIfInBounds_toArray, List.set_cons_zero, List.set_cons_succ]
      refine wpV_take (i := 6) (oi := ?oi7) (v := ?v7) ?hi7 (by kernel_rfl) (by kernel_rfl) (by kernel_rfl) (by rfl) ?hy7 ?rest7
      case hi7 => (simp only [List.getElem?_toArray, List.getElem?_cons_succ, List.getElem?_cons_zero]; rfl)
      case hy7 => (refine Or.inl ⟨by rfl, ?_⟩; intro W hSw; (have hb0 := (HBOX.out _ hSw).1; have hb1 := (HBOX.out _ hSw).2; clear hSw); go_simp; (try with_reducible rfl))
      try simp only [Act.put, List.setIfInBounds_toArray, List.set_cons_zero, List.set_cons_succ]
      refine wpV_take (i := 7) (oi := ?oi8) (v := ?v8) ?hi8 (by kernel_rfl) (by kernel_rfl) (by kernel_rfl) (by rfl) ?hy8 ?rest8
      case hi8 => (simp only [List.getElem?_toArray, List.getElem?_cons_succ, List.getElem?_cons_zero]; rfl)
      case hy8 => (refine Or.inl ⟨by rfl, ?_⟩; intro W hSw; (have hb0 := (HBOX.out _ hSw).1; have hb1 := (HBOX.out _ hSw).2; clear hSw); go_simp; (try with_reducible rfl))
      try simp only [Act.put, List.setIfInBounds_toArray, List.set_cons_zero, List.set_cons_succ]
      refine wpV_take (i := 8) (oi := ?oi9) (v := ?v9) ?hi9 (by kernel_rfl) (by kernel_rfl) (by kernel_rfl) (by rfl) ?hy9 ?rest9
      case hi9 => (simp only [List.getElem?_toArray, List.getElem?_cons_succ, List.getElem?_cons_zero]; rfl)
      case hy9 => (refine Or.inl ⟨by rfl, ?_⟩; intro W hSw; (have hb0 := (HBOX.out _ hSw).1; have hb1 := (HBOX.out _ hSw).2; clear hSw); go_simp; (try with_reducible rfl))
      try simp only [Act.put, List.setIfInBounds_toArray, List.set_cons_zero, List.set_cons_succ]
      refine wpV_take (i := 9) (oi := ?oi10) (v := ?v10) ?hi10 (by kernel_rfl) (by kernel_rfl) (by kernel_rfl) (by rfl) ?hy10 ?rest10
      case hi10 => (simp only [List.getElem?_toArray, List.getElem?_cons_succ, List.getElem?_cons_zero]; rfl)
      case hy10 => (refine Or.inl ⟨by rfl, ?_⟩; intro W hSw; (have hb0 := (HBOX.out _ hSw).1; have hb1 := (HBOX.out _ hSw).2; clear hSw); go_simp; (try with_reducible rfl))
      try simp only [Act.put, List.setIfInBounds_toArray, List.set_cons_zero, List.set_cons_succ]
      refine wpV_take (i := 10) (oi := ?oi11) (v := ?v11) ?hi11 (by kernel_rfl) (by kernel_rfl) (by kernel_rfl) (by rfl) ?hy11 ?rest11
      case hi11 => (simp only [List.getElem?_toArray, List.getElem?_cons_succ, List.getElem?_cons_zero]; rfl)
      case hy11 => (refine Or.inl ⟨by rfl, ?_⟩; intro W hSw; (have hb0 := (HBOX.out _ hSw).1; have hb1 := (HBOX.out _ hSw).2; clear hSw); go_simp; (try with_reducible rfl))
      try simp only [Act.put, List.setIfInBounds_toArray, List.set_cons_zero, List.set_cons_succ]
      refine wpV_take (i := 11) (oi := ?oi12) (v := ?v12) ?hi12 (by kernel_rfl) (by kernel_rfl) (by kernel_rfl) (by rfl) ?hy12 ?rest12
      case hi12 => (simp only [List.getElem?_toArray, List.getElem?_cons_succ, List.getElem?_cons_zero]; rfl)
      case hy12 => (refine Or.inl ⟨by rfl, ?_⟩; intro W hSw; (have hb0 := (HBOX.out _ hSw).1; have hb1 := (HBOX.out _ hSw).2; clear hSw); go_simp; (try with_reducible rfl))
      try simp only [Act.put, List.setIfInBounds_toArray, List.set_cons_zero, List.set_cons_succ]
      refine wpV_turn (oi := ?oi13) (v := .tuple #[]) ?hi13 (by rfl) (by kernel_rfl) (by kernel_rfl) (by kernel_rfl) ?hy13 ?rest13
      case hi13 => (simp only [List.getElem?_toArray, List.getElem?_cons_succ, List.getElem?_cons_zero]; rfl)
      case hy13 =>
        refine Or.inr (Or.inr (Or.inl ⟨by rfl, 41, #[.pointer (some ⟨q, 0, none⟩), .string ⟨x.toArray⟩, fv (.slice oa N N) M], fun W hSw => (by go_simp; (try rfl)), fun W hSw => ?_⟩))
        rw [hSw]
        exact HLAY.out.mono (fun e w' h => h)
      try simp only [Act.put, List.setIfInBounds_toArray, List.set_cons_zero, List.set_cons_succ]
      refine wpV_done (by kernel_rfl) ?_ _
      intro w3 hSw
      replace hSw := flag1_end (by rfl) hSw
      have HEND := Lib.hid hSw.2
      clear hSw
      go_wp2_with fail
      go_ret
      rw [← HBS.out.1, ← HBS.out.2, ← HM.out]
      exact ⟨rfl, HEND.out⟩
end Go.Proofs.YthofbblgoamipaaGreatDoor.Pt
