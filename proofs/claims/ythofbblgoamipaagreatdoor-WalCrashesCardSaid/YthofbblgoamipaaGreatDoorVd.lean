/-
  Chapter 8: NewWriter, the writer's Count and Text. Printed by gen_wire_writer.py.
-/
import Derived.Test.YthofbblgoamipaaGreatDoorVc
import Derived.Test.YthofbblgoamipaaGreatDoorUw
import Derived.Lib.AppendStr
namespace Go.Proofs.YthofbblgoamipaaGreatDoor.Wa
open Go.RowKit Pt
set_option linter.unusedVariables false
set_option linter.unusedSimpArgs false
set_option maxRecDepth 100000

theorem exec_app2 {P : Program} {o : Oper} {a : Act} (s x : Operand) (t u : TypeId) (ho : o.op = .call { callee := .builtin .append, args := #[s, x], argTypes := #[t, u] }) {S X v' : Value} {w w' : World} (hs : a.eval s = S) (hx : a.eval x = X)
    (hr : (Builtin.append_ #[t, u] o.type #[S, X]).run P w = .ok v' w') : (execOp a.eval o).run P w = .ok (.value v') w' := by
  simp only [execOp, ho, resolve, invoke, builtin, Sem.run_bind, Sem.run_pure, Result.andThen_ok, List.map_toArray, List.map_cons, List.map_nil, hs, hx, hr]
theorem sc_bytes (s : By) : Lib.strCells ⟨s.toArray⟩ = Lib.byteCells s := by unfold Lib.strCells Lib.byteCells; simp
theorem newWriter_any (w : World) : Calls Tryz.prog 53 #[] w fun e w' => e = .returned (.pointer (some ⟨w.heap.size, 0, none⟩)) ∧ CW w' (w.heap.size + 1) w.heap.size 0 [] (.slice none 0 0) ∧ Below w.heap.size w w' := by
  have HB := Lib.hid (Blk.new w 114 [.slice none 0 0, .int .i64 0])
  go_enter Tryz.func53, Tryz.ntmps53
  go_wp2_with fail
  go_ret
  exact ⟨rfl, ⟨HB.out, World.ownsRow_nil _ _ _ _, by omega, by simp⟩, (Below.refl _ _).alloc (Nat.le_refl _) _⟩
set_option maxHeartbeats 2000000 in
theorem wcount_any (k B g : Nat) (l : By) (sl : Value) (w : World) (hk : k ≤ 4096) (h : CW w B g 0 l sl) (hl : l.length ≤ 1000000) :
    Calls Tryz.prog 54 #[.pointer (some ⟨g, 0, none⟩), .int .i64 (k : Int)] w fun e w' => e = .returned (.tuple #[]) ∧ ∃ sl', CW w' B g 0 (l ++ uv k) sl' ∧ Out (fun k => k = g ∨ B ≤ k) w w' := by
  have HN := Lib.hid (number_any k B g 0 l sl w (by omega) h hl)
  have t1 : ¬ (k : Int) < 0 := by omega
  have t2 : ¬ (4096 : Int) < (k : Int) := by omega
  clear h hl
  go_enter Tryz.func54, Tryz.ntmps54
  go_wp2_with fail
  refine HN.out.mono ?_
  rintro e w1 ⟨rfl, hx⟩
  have HX := Lib.hid hx
  clear hx
  go_wp2_with fail
  try simp only [Exit.inBlock, Exit.then]
  refine bodyPost_end (results_none rfl _ _ _) rfl ?_
  exact ⟨rfl, HX.out⟩
set_option maxHeartbeats 4000000 in
theorem wtext_any (s : By) (B g : Nat) (l : By) (sl : Value) (w : World) (hs : s.length ≤ 60000) (h : CW w B g 0 l sl) (hl : l.length ≤ 100000) :
    Calls Tryz.prog 55 #[.pointer (some ⟨g, 0, none⟩), .string ⟨s.toArray⟩] w fun e w' => e = .returned (.tuple #[]) ∧ ∃ sl', CW w' B g 0 (l ++ (uv s.length ++ s)) sl' ∧ Out (fun k => k = g ∨ B ≤ k) w w' := by
  obtain ⟨i0, hi, hz0, hz1, hz2⟩ := info_parts u8_row
  have hss := st_size s
  have HN := Lib.hid (number_any s.length B g 0 l sl w (by omega) h (by omega))
  obtain ⟨n, hn⟩ : ∃ n, n = s.length := ⟨_, rfl⟩
  rw [← hn] at HN hss hs
  have HNN := Lib.hid hn
  have HLL := Lib.hid hl
  clear h hl hn
  go_enter Tryz.func55, Tryz.ntmps55
  go_wp2_with fail
  refine HN.out.mono ?_
  rintro e w1 ⟨rfl, sl', hc, ho⟩
  have HC := Lib.hid hc
  have HO := Lib.hid ho
  obtain ⟨va, vc, hv⟩ := (Rd.of_own hc.o).slice
  subst hv
  have HLN : Hid ((l ++ uv n).length ≤ 100010) := Lib.hid (by rw [List.length_append]; have := uv_len n (by omega); have := HLL.out; omega)
  obtain ⟨m, hm⟩ : ∃ m, m = (l ++ uv n).length := ⟨_, rfl⟩
  rw [← hm] at HC HLN
  have HM := Lib.hid hm
  clear hc ho HN hm
  go_wp2_with fail
  obtain ⟨W0, hW0⟩ : ∃ W, W = w1.drew := ⟨_, rfl⟩
  have c0 : W0.cell? ⟨g, 0, none⟩ = some (.slice va m vc) := by rw [hW0]; exact HC.out.b.cell 0 rfl
  have HW0 := Lib.hid hW0
  have q1 : ¬ (65536 : Int) < (n : Int) := by omega
  have q2 : (⟨s.toArray⟩ : ByteArray).extract 0 n = ⟨s.toArray⟩ := by rw [st_extract]; simp only [List.drop_zero]; rw [List.take_of_length_le (by have := HNN.out; omega)]
  have hcw : CW W0 B g 0 (l ++ uv n) (.slice va m vc) := by
    rw [hW0]
    have h := HC.out
    exact ⟨h.b, h.o, h.hg, h.hB⟩
  obtain ⟨v5, w5, hrun, how5, hg5, _⟩ := Lib.run_append_own_string (P := Tryz.prog) (w := W0) B 32 9 32 5 i0 Tryz.underlying32 Tryz.underlying9 hi hz0 hz1 hz2 (.slice va m vc) m (Lib.byteCells (l ++ uv n)) (by rw [HM.out]; rw [HM.out] at hcw; exact hcw.o) ⟨s.toArray⟩ (by rw [hss]; have := HLN.out; unfold maxLen; omega) (by rw [hss]; have := HLN.out; omega) hcw.hB
  rw [sc_bytes, ← bc_append, hss] at how5
  obtain ⟨vb, vd, hv5⟩ := (Rd.of_own how5).slice
  subst hv5
  have hne : ∀ r, (Value.slice va m vc).ownBlock = some r → g ≠ r := by
    rw [HM.out]; rw [HM.out] at hcw; exact own_ne hcw.o hcw.hg
  have hlo : ∀ r, (Value.slice va m vc).ownBlock = some r → B ≤ r := by
    rw [HM.out]; rw [HM.out] at hcw; exact fun r hr => (hcw.o.lt r hr).1
  have HB5 := Lib.hid (hcw.b.grown hg5 hne)
  have HS5 : Hid (B ≤ w5.heap.size) := Lib.hid (Nat.le_trans hcw.hB hg5.size)
  have HOW5 := Lib.hid how5
  have HO5 : Hid (Out (fun k => k = g ∨ B ≤ k) w w5) := Lib.hid ((HO.out.trans (Out.of_below _ (by rw [hW0]; exact (Below.refl _ _).drew)) (fun k hk hr => hr)).trans (Out.of_grown hg5) (fun k hk hr => .inr (hlo k hr)))
  have HRUN := Lib.hid hrun
  clear hW0 hcw hne hlo hrun how5 hg5
  refine wp_region_W [11, 15] (fun i w' => match i with | 0 => w' = W0 | 1 => w' = w5 | _ => w' = w5.setCell ⟨g, 0, none⟩ (.slice vb (m + n) vd)) (by kernel_rfl) (by rfl) ?_ ?_
  · exact HW0.out.symm
  refine wpW_take (i := 0) (oi := ?oi1) (v := ?v1) ?hi1 (by kernel_rfl) (by kernel_rfl) (by kernel_rfl) (by rfl) ?hy1 ?rest1
  case hi1 => (simp only [List.getElem?_toArray, List.getElem?_cons_succ, List.getElem?_cons_zero]; rfl)
  case hy1 => (refine Or.inl ⟨by rfl, ?_⟩; intro n W hn hSw; (clear hSw hn); go_simp; (try with_reducible rfl))
  try simp only [Act.put, List.setIfInBounds_toArray, List.set_cons_zero, List.set_cons_succ]
  refine wpW_take (i := 1) (oi := ?oi2) (v := ?v2) ?hi2 (by kernel_rfl) (by kernel_rfl) (by kernel_rfl) (by rfl) ?hy2 ?rest2
  case hi2 => (simp only [List.getElem?_toArray, List.getElem?_cons_succ, List.getElem?_cons_zero]; rfl)
  case hy2 => (refine Or.inl ⟨by rfl, ?_⟩; intro n W hn hSw; (clear hSw hn); go_simp; (try with_reducible rfl))
  try simp only [Act.put, List.setIfInBounds_toArray, List.set_cons_zero, List.set_cons_succ]
  refine wpW_take (i := 2) (oi := ?oi3) (v := ?v3) ?hi3 (by kernel_rfl) (by kernel_rfl) (by kernel_rfl) (by rfl) ?hy3 ?rest3
  case hi3 => (simp only [List.getElem?_toArray, List.getElem?_cons_succ, List.getElem?_cons_zero]; rfl)
  case hy3 => (refine Or.inl ⟨by rfl, ?_⟩; intro n W hn hSw; (clear hSw hn); go_simp; (try with_reducible rfl))
  try simp only [Act.put, List.setIfInBounds_toArray, List.set_cons_zero, List.set_cons_succ]
  refine wpW_take (i := 3) (oi := ?oi4) (v := ?v4) ?hi4 (by kernel_rfl) (by kernel_rfl) (by kernel_rfl) (by rfl) ?hy4 ?rest4
  case hi4 => (simp only [List.getElem?_toArray, List.getElem?_cons_succ, List.getElem?_cons_zero]; rfl)
  case hy4 => (refine Or.inl ⟨by rfl, ?_⟩; intro n W hn hSw; (clear hSw hn); go_simp; (try with_reducible rfl))
  try simp only [Act.put, List.setIfInBounds_toArray, List.set_cons_zero, List.set_cons_succ]
  refine wpW_take (i := 4) (oi := ?oi5) (v := ?v5) ?hi5 (by kernel_rfl) (by kernel_rfl) (by kernel_rfl) (by rfl) ?hy5 ?rest5
  case hi5 => (simp only [List.getElem?_toArray, List.getElem?_cons_succ, List.getElem?_cons_zero]; rfl)
  case hy5 => (refine Or.inl ⟨by rfl, ?_⟩; intro n W hn hSw; (clear hSw hn); go_simp; (try with_reducible rfl))
  try simp only [Act.put, List.setIfInBounds_toArray, List.set_cons_zero, List.set_cons_succ]
  refine wpW_takeB (i := 5) 0 11 (oi := ?oi6) (v := ?v6) ?hi6 (by rfl) (by kernel_rfl) (by rfl) (by kernel_rfl) (by kernel_rfl) (by kernel_rfl) (by rfl) ?hy6 ?rest6
  case hi6 => (simp only [List.getElem?_toArray, List.getElem?_cons_succ, List.getElem?_cons_zero]; rfl)
  case hy6 => (refine ⟨by rfl, ?_⟩; intro i W hn hSw; (obtain rfl : i = 0 := by omega); rw [show W = W0 from hSw]; clear hSw hn; go_simp; (try with_reducible rfl))
  try simp only [Act.put, List.setIfInBounds_toArray, List.set_cons_zero, List.set_cons_succ]
  refine wpW_take (i := 6) (oi := ?oi7) (v := ?v7) ?hi7 (by kernel_rfl) (by kernel_rfl) (by kernel_rfl) (by rfl) ?hy7 ?rest7
  case hi7 => (simp only [List.getElem?_toArray, List.getElem?_cons_succ, List.getElem?_cons_zero]; rfl)
  case hy7 => (refine Or.inl ⟨by rfl, ?_⟩; intro n W hn hSw; (clear hSw hn); go_simp; (try with_reducible rfl))
  try simp only [Act.put, List.setIfInBounds_toArray, List.set_cons_zero, List.set_cons_succ]
  refine wpW_take (i := 7) (oi := ?oi8) (v := ?v8) ?hi8 (by kernel_rfl) (by kernel_rfl) (by kernel_rfl) (by rfl) ?hy8 ?rest8
  case hi8 => (simp only [List.getElem?_toArray, List.getElem?_cons_succ, List.getElem?_cons_zero]; rfl)
  case hy8 => (refine Or.inl ⟨by rfl, ?_⟩; intro n W hn hSw; (clear hSw hn); go_simp; (try with_reducible rfl))
  try simp only [Act.put, List.setIfInBounds_toArray, List.set_cons_zero, List.set_cons_succ]
  refine wpW_take (i := 8) (oi := ?oi9) (v := ?v9) ?hi9 (by kernel_rfl) (by kernel_rfl) (by kernel_rfl) (by rfl) ?hy9 ?rest9
  case hi9 => (simp only [List.getElem?_toArray, List.getElem?_cons_succ, List.getElem?_cons_zero]; rfl)
  case hy9 => (refine Or.inl ⟨by rfl, ?_⟩; intro n W hn hSw; (clear hSw hn); go_simp; (try with_reducible rfl))
  try simp only [Act.put, List.setIfInBounds_toArray, List.set_cons_zero, List.set_cons_succ]
  refine wpW_take (i := 9) (oi := ?oi10) (v := ?v10) ?hi10 (by kernel_rfl) (by kernel_rfl) (by kernel_rfl) (by rfl) ?hy10 ?rest10
  case hi10 => (simp only [List.getElem?_toArray, List.getElem?_cons_succ, List.getElem?_cons_zero]; rfl)
  case hy10 => (refine Or.inl ⟨by rfl, ?_⟩; intro n W hn hSw; (clear hSw hn); go_simp; (try with_reducible rfl))
  try simp only [Act.put, List.setIfInBounds_toArray, List.set_cons_zero, List.set_cons_succ]
  refine wpW_take (i := 10) (oi := ?oi11) (v := ?v11) ?hi11 (by kernel_rfl) (by kernel_rfl) (by kernel_rfl) (by rfl) ?hy11 ?rest11
  case hi11 => (simp only [List.getElem?_toArray, List.getElem?_cons_succ, List.getElem?_cons_zero]; rfl)
  case hy11 => (refine Or.inl ⟨by rfl, ?_⟩; intro n W hn hSw; (clear hSw hn); go_simp; (try with_reducible rfl))
  try simp only [Act.put, List.setIfInBounds_toArray, List.set_cons_zero, List.set_cons_succ]
  refine wpW_turn 0 (k := 11) (oi := ?oi12) (v := .slice vb (m + n) vd) (by rfl) ?hi12 (by rfl) (by rfl) (by kernel_rfl) (by kernel_rfl) (by kernel_rfl) (by kernel_rfl) ?hy12 ?rest12
  case hi12 => (simp only [List.getElem?_toArray, List.getElem?_cons_succ, List.getElem?_cons_zero]; rfl)
  case hy12 =>
    exact Or.inl (Or.inr (Or.inr (Or.inr ⟨by rfl, fun w' hw' => ⟨w5, (by rw [show w' = _ from hw']; exact exec_app2 (.tmp 18) (.tmp 23) 32 9 rfl rfl rfl HRUN.out), rfl⟩⟩)))
  try simp only [Act.put, List.setIfInBounds_toArray, List.set_cons_zero, List.set_cons_succ]
  refine wpW_take (i := 12) (oi := ?oi13) (v := ?v13) ?hi13 (by kernel_rfl) (by kernel_rfl) (by kernel_rfl) (by rfl) ?hy13 ?rest13
  case hi13 => (simp only [List.getElem?_toArray, List.getElem?_cons_succ, List.getElem?_cons_zero]; rfl)
  case hy13 => (refine Or.inl ⟨by rfl, ?_⟩; intro n W hn hSw; (clear hSw hn); go_simp; (try with_reducible rfl))
  try simp only [Act.put, List.setIfInBounds_toArray, List.set_cons_zero, List.set_cons_succ]
  refine wpW_take (i := 13) (oi := ?oi14) (v := ?v14) ?hi14 (by kernel_rfl) (by kernel_rfl) (by kernel_rfl) (by rfl) ?hy14 ?rest14
  case hi14 => (simp only [List.getElem?_toArray, List.getElem?_cons_succ, List.getElem?_cons_zero]; rfl)
  case hy14 => (refine Or.inl ⟨by rfl, ?_⟩; intro n W hn hSw; (clear hSw hn); go_simp; (try with_reducible rfl))
  try simp only [Act.put, List.setIfInBounds_toArray, List.set_cons_zero, List.set_cons_succ]
  refine wpW_take (i := 14) (oi := ?oi15) (v := ?v15) ?hi15 (by kernel_rfl) (by kernel_rfl) (by kernel_rfl) (by rfl) ?hy15 ?rest15
  case hi15 => (simp only [List.getElem?_toArray, List.getElem?_cons_succ, List.getElem?_cons_zero]; rfl)
  case hy15 => (refine Or.inl ⟨by rfl, ?_⟩; intro n W hn hSw; (clear hSw hn); go_simp; (try with_reducible rfl))
  try simp only [Act.put, List.setIfInBounds_toArray, List.set_cons_zero, List.set_cons_succ]
  refine wpW_turn 1 (k := 15) (oi := ?oi16) (v := undef) (by rfl) ?hi16 (by rfl) (by rfl) (by kernel_rfl) (by kernel_rfl) (by kernel_rfl) (by kernel_rfl) ?hy16 ?rest16
  case hi16 => (simp only [List.getElem?_toArray, List.getElem?_cons_succ, List.getElem?_cons_zero]; rfl)
  case hy16 =>
    refine Or.inr ⟨by rfl, rfl, fun w' hw' => ⟨w5.setCell ⟨g, 0, none⟩ (.slice vb (m + n) vd), ?_, rfl⟩⟩
    rw [show w' = w5 from hw']
    have d0 := HB5.out.cell 0 rfl
    have d1 := HB5.out.frozen 0
    go_simp
  try simp only [Act.put, List.setIfInBounds_toArray, List.set_cons_zero, List.set_cons_succ]
  refine wpW_done (by kernel_rfl) (by rfl) ?_ _
  intro W hSw

  rw [show W = w5.setCell ⟨g, 0, none⟩ (.slice vb (m + n) vd) from hSw]
  clear hSw HRUN c0 q1 q2
  go_wp2_with fail
  try simp only [Exit.inBlock, Exit.then]
  refine bodyPost_end (results_none rfl _ _ _) rfl ?_
  refine ⟨rfl, _, ⟨HB5.out.set 0 _, ?_, HC.out.hg, by have := HS5.out; simpa [World.setCell] using this⟩, HO5.out.set _ _ (.inl rfl)⟩
  have he : l ++ (uv n ++ s) = (l ++ uv n) ++ s := by rw [List.append_assoc]
  rw [← HNN.out, he]
  refine own_other (own_cast HOW5.out ?_ rfl) HC.out.hg _
  rw [List.length_append, ← HM.out, ← HNN.out]
end Go.Proofs.YthofbblgoamipaaGreatDoor.Wa
