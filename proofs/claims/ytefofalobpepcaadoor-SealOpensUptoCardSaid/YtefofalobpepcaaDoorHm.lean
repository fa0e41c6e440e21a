/-
  Chapter 3, the reference: bytes padded.
-/
import Derived.Test.YtefofalobpepcaaDoorHl
import Derived.Test.YtefofalobpepcaaDoorApp
import Derived.Test.YtefofalobpepcaaDoorSt
import Derived.Laws.MakeOwn
namespace Go.Proofs.YtefofalobpepcaaDoor
open Go.RowKit Sh
set_option linter.unusedVariables false
set_option linter.unusedSimpArgs false

/-- the length's row while it is filled from its end -/
def pcs (n k : Nat) : List Value := List.replicate k (.int .u8 0) ++ Lib.byteCells ((le8 n).drop k)
theorem pcs_at (n k : Nat) (h : k < 8) : (pcs n (k + 1))[k]? = some (.int .u8 0) := by
  unfold pcs
  rw [List.getElem?_append_left (by simp)]
  simp
theorem pcs_set (n k : Nat) (h : k < 8) (v : Value) (hv : v = .int .u8 (((le8 n).getD k 0).toNat : Int)) : (pcs n (k + 1)).set k v = pcs n k := by
  subst hv
  have hl : k < (le8 n).length := by rw [le8_len]; exact h
  unfold pcs
  rw [List.set_append_left _ _ (by simp), List.replicate_succ', List.set_append_right _ _ (by simp), List.length_replicate, Nat.sub_self, List.set_cons_zero, List.append_assoc]
  congr 1
  rw [List.drop_eq_getElem_cons hl]
  unfold Lib.byteCells
  rw [List.map_cons, List.getD_eq_getElem?_getD, List.getElem?_eq_getElem hl]
  rfl
theorem pcs_8 (n : Nat) : pcs n 8 = List.replicate 8 (.int .u8 0) := by
  unfold pcs
  rw [List.drop_of_length_le (by rw [le8_len]; exact Nat.le_refl _)]
  simp [Lib.byteCells]
theorem pcs_0 (n : Nat) : pcs n 0 = Lib.byteCells (le8 n) := by unfold pcs; simp
theorem pow_step (x k : Nat) (h : k < 8) : x / 2 ^ (56 - 8 * k) = x / 256 ^ (7 - k) := by
  have : (256 : Nat) ^ (7 - k) = 2 ^ (56 - 8 * k) := by
    rw [show (256 : Nat) = 2 ^ 8 from rfl, ← Nat.pow_mul]
    congr 1; omega
  rw [this]
theorem zs_end (n : Nat) : (n + 1 + zs n) % 64 = 56 := pad_zeros n
theorem own_set_neV {W : World} {B : Nat} {e : TypeId} {sz : Nat} {v : Value} {n : Nat} {xs : List Value} (h : W.ownsRow B e sz v n xs) {a : Addr} (ha : ∀ k, v.ownBlock = some k → k ≠ a.block) (u : Value) : (W.setCell a u).ownsRow B e sz v n xs := by
  refine ⟨h.1, ?_⟩
  rcases h.2 with h2 | ⟨g, cap, cur, hv, hB, hh, r⟩
  · exact .inl h2
  · refine .inr ⟨g, cap, cur, hv, hB, ?_, r⟩
    have hne : g ≠ a.block := ha g (by rw [hv]; rfl)
    rw [Below.heap_setCell _ _ _ _ hne]; exact hh
set_option maxRecDepth 20000 in
set_option maxHeartbeats 4000000 in
theorem padded_any (v : Value) (b : By) (w : World) (h : Rd w 1 v b.length (Lib.byteCells b)) (hl : b.length ≤ 140737488355000) :
    Calls Tryd.prog 44 #[v] w fun e w' => ∃ v', e = .returned v' ∧ w'.ownsRow w.heap.size 5 1 v' (padded b).length (Lib.byteCells (padded b)) ∧ Below w.heap.size w w' := by
  obtain ⟨i0, hi, hz0, hz1, hz2⟩ := info_parts u8_row
  obtain ⟨a0, c0, hv⟩ := h.slice
  subst hv
  have HB := Lib.hid h
  have e1 : IntKind.i64.wrap ((b.length : Int) + 80) = (b.length : Int) + 80 := IntWalk.i64_in _ (by omega)
  obtain ⟨wm, hmk, hom, hgm⟩ := run_make_own (P := Tryd.prog) w w.heap.size 22 5 i0 (.int .u8 0) 1 Tryd.underlying22 hi hz0 hz1 .i64 .i64 (b.length + 80) (by rw [hz2]; omega) (by unfold maxLen; omega) (Nat.le_refl _)
  have hcast : ((b.length + 80 : Nat) : Int) = (b.length : Int) + 80 := by omega
  rw [hcast] at hmk
  have hbm : Below w.heap.size w wm := (Below.refl _ _).grown hgm (Nat.le_refl _) (fun k e => by cases e)
  have hrm := HB.out.below hbm
  clear h hgm hcast
  go_enter Tryd.func44, Tryd.ntmps44
  go_wp2_with (at_builtin; go_loud (refine wpList_app rfl _ _ 22 rfl 5 w.heap.size i0 (.int .u8 0) 1 1 Tryd.underlying22 hi hz0 hz1 hz2 rfl (by decide) _ _ _ rfl hom _ _ _ rfl hrm (byte_one _) ?c3 ?c4 ?c5 ?_))
  case c3 => unfold maxLen; omega
  case c4 => omega
  case c5 => exact hbm.size
  intro v1 w1 ho1 hg1 hx1
  have hb1 : Below w.heap.size w w1 := hbm.grown hg1 hbm.size (fun k hk => (hom.lt k hk).1)
  have ho1' : w1.ownsRow w.heap.size 5 1 v1 b.length (Lib.byteCells b) := own_cast ho1 (by omega) (by simp)
  obtain ⟨a1, c1, hv1⟩ := (Rd.of_own ho1').slice
  subst hv1
  clear ho1 hg1 hx1 hom hbm hrm hmk
  go_wp2_with (at_builtin; go_loud (refine wpList_append_own _ rfl _ _ 22 rfl w.heap.size 5 i0 (.int .u8 0) 1 1 Tryd.underlying22 hi hz0 hz1 hz2 rfl (by decide) _ _ _ rfl (ho1'.alloc _) ⟨w1.heap.size, 0, none⟩ 1 1 (Lib.byteCells [128]) rfl rfl (cells_new _ _ _) (byte_one _) ?c3 ?c4 ?c5 ?_))
  case c3 => unfold maxLen; omega
  case c4 => omega
  case c5 => have := hb1.size; simp; omega
  intro v2 w2 ho2 hg2 hx2
  have hb2 := below_app hb1 hb1.size hg2 (fun k hk => (ho1'.lt k hk).1)
  have ho2' : w2.ownsRow w.heap.size 5 1 v2 (b ++ 128 :: List.replicate 0 0).length (Lib.byteCells (b ++ 128 :: List.replicate 0 0)) := own_cast ho2 (by simp) (by simp [Lib.byteCells])
  clear ho2 hg2 hx2 ho1' hb1
  go_wp2_with fail
  go_loopw [3] (fun v wr => ∃ k : Nat, k ≤ zs b.length ∧ wr.ownsRow w.heap.size 5 1 v (b.length + 1 + k) (Lib.byteCells (b ++ 128 :: List.replicate k 0)) ∧ Below w.heap.size w wr) (fun v _ => zs b.length + 1 + b.length - slLen v)
  case atStart => exact ⟨0, by omega, own_cast ho2' (by simp) rfl, hb2⟩
  case round =>
    clear ho2' hb2
    obtain ⟨k, hk, ho, hb⟩ := hrel
    obtain ⟨a3, c3, hv3⟩ := (Rd.of_own ho).slice
    subst hv3
    have hzl : zs b.length < 64 := by unfold zs; omega
    by_cases hlt : k < zs b.length
    case pos =>
      have hne := pad_more b.length k hlt
      have t0 : ((((b.length + 1 + k : Nat) : Int) % 64) == 56) = false := by rw [beq_eq_false_iff_ne]; omega
      have t1 : ((((b.length + 1 + k : Nat) : Int) % 64) != 56) = true := by rw [bne, t0]; rfl
      obtain ⟨M, hM⟩ : ∃ M, M = b.length + 1 + k := ⟨_, rfl⟩
      rw [← hM] at ho t0 t1 ⊢
      have HM := Lib.hid hM
      have hMl : M ≤ 140737488355100 := by omega
      clear hne hM
      go_wp2_with (at_builtin; go_loud (refine wpList_append_own _ rfl _ _ 22 rfl w.heap.size 5 i0 (.int .u8 0) 1 1 Tryd.underlying22 hi hz0 hz1 hz2 rfl (by decide) _ _ _ rfl (ho.alloc _) ⟨wr.heap.size, 0, none⟩ 1 1 (Lib.byteCells [0]) rfl rfl (cells_new _ _ _) (byte_one _) ?c3 ?c4 ?c5 ?_))
      case c3 => unfold maxLen; omega
      case c4 => omega
      case c5 => have := hb.size; simp; omega
      intro v4 w4 ho4 hg4 hx4
      have hb4 := below_app hb hb.size hg4 (fun k hk => (ho.lt k hk).1)
      have ho4' : w4.ownsRow w.heap.size 5 1 v4 (b.length + 1 + (k + 1)) (Lib.byteCells (b ++ 128 :: List.replicate (k + 1) 0)) := own_cast ho4 (by have := HM.out; omega) (by rw [List.replicate_succ']; simp [Lib.byteCells])
      obtain ⟨a4, c4, hv4⟩ := (Rd.of_own ho4').slice
      subst hv4
      clear ho4 hg4 hx4 ho hb
      go_wp2_with fail
      go_roundw
      case rel => exact ⟨k + 1, by omega, ho4', hb4⟩
      case measure => have := HM.out; simp [slLen]; omega
    case neg =>
      have hke : k = zs b.length := by omega
      have hend := zs_end b.length
      have t0 : ((((b.length + 1 + k : Nat) : Int) % 64) == 56) = true := by rw [beq_iff_eq]; rw [hke]; omega
      have t1 : ((((b.length + 1 + k : Nat) : Int) % 64) != 56) = false := by rw [bne, t0]; rfl
      obtain ⟨M, hM⟩ : ∃ M, M = b.length + 1 + k := ⟨_, rfl⟩
      rw [← hM] at ho t0 t1 ⊢
      have HKE := Lib.hid hke
      have HM := Lib.hid hM
      have hMl : M ≤ 140737488355100 := by omega
      have e2 : IntKind.u64.wrap (b.length : Int) = (b.length : Int) := by simp only [IntKind.wrap, IntKind.bits, IntKind.signed]; simp; omega
      have e3 : IntKind.u64.wrap (8 * (b.length : Int)) = ((8 * b.length : Nat) : Int) := by simp only [IntKind.wrap, IntKind.bits, IntKind.signed]; simp; omega
      have hl0 : Blk (wr.alloc (.cells (List.replicate 8 (.int .u8 0)).toArray 100)) wr.heap.size 100 (List.replicate 8 (.int .u8 0)) := Blk.new wr _ _
      have hoA := ho.alloc (.cells (List.replicate 8 (.int .u8 0)).toArray 100)
      have hbA := hb.alloc hb.size (.cells (List.replicate 8 (.int .u8 0)).toArray 100)
      have hne5 : ∀ g, a3 = some g → g.block ≠ wr.heap.size := fun g hg => by have := (ho.lt g.block (by rw [hg]; rfl)).2; omega
      have hsz := hb.size
      clear hke hend hM hlt ho hb
      go_wp2_with fail
      obtain ⟨g5, hg5⟩ : ∃ g, g = wr.heap.size := ⟨_, rfl⟩
      have hg5w : w.heap.size ≤ g5 := by omega
      rw [← hg5] at hl0 hne5 ⊢
      have hl1 : Blk (wr.alloc (.cells (List.replicate 8 (.int .u8 0)).toArray 100)) g5 100 (pcs b.length 8) := by rw [pcs_8]; exact hl0
      have hdv : 8 * b.length / 256 ^ (8 - 8) = 8 * b.length := by simp
      clear hl0 hg5 hsz
      go_loopw [4, 6] (fun n i W => ∃ r : Nat, r ≤ 8 ∧ i = .int .i64 ((r : Int) - 1) ∧ n = .int .u64 ((8 * b.length / 256 ^ (8 - r) : Nat) : Int) ∧ Blk W g5 100 (pcs b.length r) ∧ W.ownsRow w.heap.size 5 1 (.slice a3 M c3) M (Lib.byteCells (b ++ 128 :: List.replicate k 0)) ∧ Below w.heap.size w W) (fun _ i _ => (intOf i + 1).toNat)
      case atStart => exact ⟨8, by omega, by go_num, by rw [hdv]; go_num, hl1, hoA, hbA⟩
      case round =>
        clear hl1 hoA hbA hdv
        obtain ⟨k', hk', rfl, rfl, hl, ho, hb⟩ := hrel
        have HMl := Lib.hid hMl
        clear hMl e1
        rename World => wC
        cases k' with
        | succ j =>
          have i0' : ((j + 1 : Nat) : Int) - 1 = (j : Int) := by omega
          have j0 : (0 : Int) ≤ (j : Int) := by omega
          have j1 : (j : Int) < 8 := by omega
          have hat := le8_at b.length j (by omega) (by omega)
          have hN : b.length * 8 / 2 ^ (56 - 8 * j) = 8 * b.length / 256 ^ (8 - (j + 1)) := by rw [pow_step _ j (by omega), Nat.mul_comm, show 8 - (j + 1) = 7 - j from by omega]
          have hN2 : 8 * b.length / 256 ^ (8 - (j + 1)) / 256 = 8 * b.length / 256 ^ (8 - j) := by rw [Nat.div_div_eq_div_mul, ← Nat.pow_succ, show (8 - (j + 1)).succ = 8 - j from by omega]
          have hNb : 8 * b.length / 256 ^ (8 - (j + 1)) ≤ 8 * b.length := Nat.div_le_self _ _
          have z0 := hl.cell j (pcs_at b.length j (by omega))
          have z1 := hl.frozen j
          have hset := pcs_set b.length j (by omega) _ rfl
          have hat2 : (((le8 b.length).getD j 0).toNat : Int) = ((8 * b.length / 256 ^ (8 - (j + 1)) : Nat) : Int) % 256 := by rw [hat, ← hN]; push_cast; rfl
          rw [i0']
          generalize 8 * b.length / 256 ^ (8 - (j + 1)) = N at hN2 hNb hat2 ⊢
          generalize (le8 b.length).getD j 0 = c at hset hat2
          have w1' : IntKind.u64.wrap ((N : Int) % 256) = (N : Int) % 256 := by simp only [IntKind.wrap, IntKind.bits, IntKind.signed]; simp; omega
          have w2' : IntKind.u8.wrap ((N : Int) % 256) = (c.toNat : Int) := by rw [IntKind.wrap_u8, hat2]; omega
          have w3' : IntKind.u64.wrap ((N : Int) / 256) = (N : Int) / 256 := by simp only [IntKind.wrap, IntKind.bits, IntKind.signed]; simp; omega
          have HN2 := Lib.hid hN2
          have HSET := Lib.hid hset
          have HL := Lib.hid hl
          have HNB := Lib.hid hNb
          clear hat hN hN2 hset hat2 hl i0' hNb e2 e3
          go_wp2_with fail
          go_roundw
          case rel => exact ⟨j, by omega, by go_num, by rw [← HN2.out, Int.natCast_ediv]; rfl, by rw [← HSET.out]; exact HL.out.set j _, own_set_neV ho (fun k hk => by cases a3 with | none => cases hk | some g => (cases hk; exact hne5 g rfl)) _, hb.setCell hg5w _⟩
          case measure => simp [intOf]
        | zero =>
          have hl8 : Blk wC g5 100 (Lib.byteCells (le8 b.length)) := by rw [← pcs_0]; exact hl
          have hrd := blk_rd hl8 8 (le8_len _)
          clear hl
          go_wp2_with (at_builtin; go_loud (refine wpList_app rfl _ _ 22 rfl 5 w.heap.size i0 (.int .u8 0) 1 1 Tryd.underlying22 hi hz0 hz1 hz2 rfl (by decide) _ _ _ rfl ho _ _ _ rfl hrd (byte_one _) ?c3 ?c4 ?c5 ?_))
          case c3 => have := HMl.out; unfold maxLen; omega
          case c4 => have := HMl.out; omega
          case c5 => exact hb.size
          intro v9 w9 ho9 hg9 hx9
          have hb9 : Below w.heap.size w w9 := hb.grown hg9 hb.size (fun k hk => (ho.lt k hk).1)
          have ho9' : w9.ownsRow w.heap.size 5 1 v9 (padded b).length (Lib.byteCells (padded b)) := own_cast ho9 (by rw [HM.out, HKE.out]; unfold padded; simp [le8_len]; omega) (by unfold padded; rw [HKE.out]; simp [Lib.byteCells])
          clear ho9 hg9 hx9 ho hb
          obtain ⟨a9, c9, hv9⟩ := (Rd.of_own ho9').slice
          subst hv9
          go_wp2_with fail
          go_ret
          exact ⟨_, rfl, ho9', hb9⟩
end Go.Proofs.YtefofalobpepcaaDoor
