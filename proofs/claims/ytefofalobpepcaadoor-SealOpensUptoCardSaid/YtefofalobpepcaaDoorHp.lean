/-
  Chapter 3, the reference: the keyed digest.
-/
import Derived.Test.YtefofalobpepcaaDoorHn
namespace Go.Proofs.YtefofalobpepcaaDoor
open Go.RowKit Sh
set_option linter.unusedVariables false
set_option linter.unusedSimpArgs false

theorem own_grownN {w w' : World} {B : Nat} {e : TypeId} {sz : Nat} {v : Value} {n : Nat} {xs : List Value} {row : Option Nat} (h : w.ownsRow B e sz v n xs) (hg : w.grownBy w' row) (hne : ∀ g, v.ownBlock = some g → row ≠ some g) : w'.ownsRow B e sz v n xs := by
  refine ⟨h.1, ?_⟩
  rcases h.2 with h2 | ⟨g, cap, cur, hv, hB, hh, r⟩
  · exact .inl h2
  · refine .inr ⟨g, cap, cur, hv, hB, ?_, r⟩
    rw [hg.block g (Array.getElem?_eq_some_iff.1 hh).1 (fun e => hne g (by rw [hv]; rfl) e.symm)]
    exact hh
theorem key_def (k : By) : key k = (if k.length > 64 then sha k else k) ++ List.replicate (64 - (if k.length > 64 then sha k else k).length) 0 := rfl
/-- Mac's three rows -/
structure KS (w W : World) (vi vo vl : Value) (I O K : By) : Prop where
  i : W.ownsRow (w.heap.size + 1) 5 1 vi I.length (Lib.byteCells I)
  o : W.ownsRow (w.heap.size + 1) 5 1 vo O.length (Lib.byteCells O)
  l : W.ownsRow (w.heap.size + 1) 5 1 vl K.length (Lib.byteCells K)
  r : Blk W w.heap.size 46 (List.replicate 32 (.int .u8 0))
  b : Below w.heap.size w W
  d1 : ∀ g, vi.ownBlock = some g → vo.ownBlock ≠ some g
  d2 : ∀ g, vi.ownBlock = some g → vl.ownBlock ≠ some g
  d3 : ∀ g, vo.ownBlock = some g → vl.ownBlock ≠ some g
  z : w.heap.size + 1 ≤ W.heap.size
theorem KS.swap {w W : World} {vi vo vl : Value} {I O K : By} (x : KS w W vi vo vl I O K) : KS w W vo vi vl O I K :=
  ⟨x.o, x.i, x.l, x.r, x.b, fun g h1 h2 => x.d1 g h2 h1, x.d3, x.d2, x.z⟩
theorem KS.alloc {w W : World} {vi vo vl : Value} {I O K : By} (x : KS w W vi vo vl I O K) (o : Obj) : KS w (W.alloc o) vi vo vl I O K :=
  ⟨x.i.alloc o, x.o.alloc o, x.l.alloc o, x.r.alloc o, x.b.alloc x.b.size o, x.d1, x.d2, x.d3, by have := x.z; simp; omega⟩
theorem KS.app {w W W' : World} {vi vo vl v' : Value} {I I' O K : By} (x : KS w W vi vo vl I O K) (hg : W.grownBy W' vi.ownBlock) (hi : W'.ownsRow (w.heap.size + 1) 5 1 v' I'.length (Lib.byteCells I')) (hv : v'.ownBlock = vi.ownBlock ∨ v'.ownBlock = some W.heap.size) : KS w W' v' vo vl I' O K := by
  refine ⟨hi, own_grownN x.o hg (fun g h1 h2 => x.d1 g h2 h1), own_grownN x.l hg (fun g h1 h2 => x.d2 g h2 h1), x.r.grown hg (fun r hr e => by have := (x.i.lt r hr).1; omega), x.b.grown hg x.b.size (fun k hk => by have := (x.i.lt k hk).1; omega), ?_, ?_, x.d3, by have := hg.size; have := x.z; omega⟩
  · intro g h1 h2
    rcases hv with h | h
    · exact x.d1 g (by rw [← h]; exact h1) h2
    · rw [h] at h1; cases h1; have := (x.o.lt _ h2).2; omega
  · intro g h1 h2
    rcases hv with h | h
    · exact x.d2 g (by rw [← h]; exact h1) h2
    · rw [h] at h1; cases h1; have := (x.l.lt _ h2).2; omega
theorem KS.below {w W W' : World} {vi vo vl : Value} {I O K : By} (x : KS w W vi vo vl I O K) (hb : Below W.heap.size W W') : KS w W' vi vo vl I O K :=
  ⟨own_below x.i hb, own_below x.o hb, own_below x.l hb, x.r.below hb x.r.lt, x.b.trans (hb.mono x.b.size), x.d1, x.d2, x.d3, by have := hb.size; have := x.z; omega⟩

/-- the key, at most 64 bytes of it, as a row of the call's own -/
def LO (w W : World) (v : Value) (L : By) : Prop := W.ownsRow (w.heap.size + 1) 5 1 v L.length (Lib.byteCells L) ∧ Blk W w.heap.size 46 (List.replicate 32 (.int .u8 0)) ∧ Below w.heap.size w W ∧ w.heap.size + 1 ≤ W.heap.size
set_option maxRecDepth 20000 in
set_option maxHeartbeats 4000000 in
theorem rmac_any (kv mv : Value) (k m : By) (w : World) (hk : Rd w 1 kv k.length (Lib.byteCells k)) (hm : Rd w 1 mv m.length (Lib.byteCells m)) (hkl : k.length ≤ 140737488355000) (hml : m.length ≤ 1000) :
    Calls Tryd.prog 21 #[kv, mv] w fun e w' => e = .returned (.agg (Lib.byteCells (mac k m)).toArray) ∧ Below w.heap.size w w' := by
  obtain ⟨i0, hi, hz0, hz1, hz2⟩ := info_parts u8_row
  obtain ⟨ka, kc, hkv⟩ := hk.slice
  obtain ⟨ma, mc', hmv⟩ := hm.slice
  subst hkv hmv
  have HK := Lib.hid hk
  have HM := Lib.hid hm
  have HKL := Lib.hid hkl
  have HML := Lib.hid hml
  have hr0 : Blk (w.alloc (.cells #[.int .u8 0, .int .u8 0, .int .u8 0, .int .u8 0, .int .u8 0, .int .u8 0, .int .u8 0, .int .u8 0, .int .u8 0, .int .u8 0, .int .u8 0, .int .u8 0, .int .u8 0, .int .u8 0, .int .u8 0, .int .u8 0, .int .u8 0, .int .u8 0, .int .u8 0, .int .u8 0, .int .u8 0, .int .u8 0, .int .u8 0, .int .u8 0, .int .u8 0, .int .u8 0, .int .u8 0, .int .u8 0, .int .u8 0, .int .u8 0, .int .u8 0, .int .u8 0] 46)) w.heap.size 46 (List.replicate 32 (.int .u8 0)) := Blk.new w _ (List.replicate 32 (.int .u8 0))
  have hb0 : Below w.heap.size w (w.alloc (.cells #[.int .u8 0, .int .u8 0, .int .u8 0, .int .u8 0, .int .u8 0, .int .u8 0, .int .u8 0, .int .u8 0, .int .u8 0, .int .u8 0, .int .u8 0, .int .u8 0, .int .u8 0, .int .u8 0, .int .u8 0, .int .u8 0, .int .u8 0, .int .u8 0, .int .u8 0, .int .u8 0, .int .u8 0, .int .u8 0, .int .u8 0, .int .u8 0, .int .u8 0, .int .u8 0, .int .u8 0, .int .u8 0, .int .u8 0, .int .u8 0, .int .u8 0, .int .u8 0] 46)) := (Below.refl _ _).alloc (Nat.le_refl _) _
  have hof := own_fresh (w.alloc (.cells #[.int .u8 0, .int .u8 0, .int .u8 0, .int .u8 0, .int .u8 0, .int .u8 0, .int .u8 0, .int .u8 0, .int .u8 0, .int .u8 0, .int .u8 0, .int .u8 0, .int .u8 0, .int .u8 0, .int .u8 0, .int .u8 0, .int .u8 0, .int .u8 0, .int .u8 0, .int .u8 0, .int .u8 0, .int .u8 0, .int .u8 0, .int .u8 0, .int .u8 0, .int .u8 0, .int .u8 0, .int .u8 0, .int .u8 0, .int .u8 0, .int .u8 0, .int .u8 0] 46)) 5 1
  rw [World.size_alloc] at hof
  have hbf := hb0.alloc hb0.size (.cells #[] 5)
  have hrf := hr0.alloc (.cells #[] 5)
  have hrk := HK.out.below hbf
  obtain ⟨D, hD⟩ : ∃ D, D = mac k m := ⟨_, rfl⟩
  rw [← hD]
  have HD := Lib.hid hD
  clear hk hm hkl hml hD hr0 hb0
  go_enter Tryd.func21, Tryd.ntmps21
  go_wp2_with (at_builtin; go_loud (refine wpList_app rfl _ _ 22 rfl 5 (w.heap.size + 1) i0 (.int .u8 0) 1 1 Tryd.underlying22 hi hz0 hz1 hz2 rfl (by decide) _ _ _ rfl hof _ _ _ rfl hrk (byte_one _) ?c3 ?c4 ?c5 ?_))
  case c3 => have := HKL.out; unfold maxLen; omega
  case c4 => have := HKL.out; omega
  case c5 => simp
  intro v1 w1 ho1 hg1 hx1
  have hr1 := hrf.grown hg1 (fun r hr e => by cases hr; revert e; show w.heap.size = w.heap.size + 1 → False; omega)
  have hb1 : Below w.heap.size w w1 := hbf.grown hg1 hbf.size (fun k hk => by cases hk; show w.heap.size ≤ w.heap.size + 1; omega)
  have hz1' : w.heap.size + 1 ≤ w1.heap.size := by have := hg1.size; simp at this; omega
  have ho1' : w1.ownsRow (w.heap.size + 1) 5 1 v1 k.length (Lib.byteCells k) := own_cast ho1 (by omega) (by simp)
  obtain ⟨a1, c1, hv1⟩ := (Rd.of_own ho1').slice
  subst hv1
  clear hof hbf hrf hrk ho1 hg1 hx1
  obtain ⟨L, hL⟩ : ∃ L, L = (if k.length > 64 then sha k else k) := ⟨_, rfl⟩
  have HLK : Hid (key k = L ++ List.replicate (64 - L.length) 0) := Lib.hid (by rw [key_def, ← hL])
  have tail : ∀ (Q : Prop), Q → Q := fun _ h => h
  by_cases h64 : k.length > 64
  case neg =>
    have hLk : L = k := by rw [hL, if_neg h64]
    have t0 : ¬ (64 : Int) < (k.length : Int) := by omega
    have hLl : L.length ≤ 64 := by rw [hLk]; omega
    have hLO : LO w w1 (.slice a1 k.length c1) L := by rw [hLk]; exact ⟨ho1', hr1, hb1, hz1'⟩
    have hkk : L.length = k.length := by rw [hLk]
    clear ho1' hr1 hb1 hz1' hL h64 hLk
    go_wp2_with fail
    go_loopw [5] (fun v W => ∃ j : Nat, L.length + j ≤ 64 ∧ LO w W v (L ++ List.replicate j 0)) (fun v _ => 64 - slLen v)
    case atStart => exact ⟨0, by omega, by simpa using hLO⟩
    case round =>
      clear hLO
      obtain ⟨j, hj, hlo⟩ := hrel
      rename World => wa
      obtain ⟨a2, c2, hv2⟩ := (Rd.of_own hlo.1).slice
      have hll : (L ++ List.replicate j (0 : UInt8)).length = L.length + j := by simp
      rw [hll] at hv2
      subst hv2
      by_cases hlt : L.length + j < 64
      case pos =>
        obtain ⟨M, hM⟩ : ∃ M, M = L.length + j := ⟨_, rfl⟩
        rw [← hM] at hlo hlt ⊢
        have t1 : (M : Int) < 64 := by omega
        have ho : wa.ownsRow (w.heap.size + 1) 5 1 (.slice a2 M c2) M (Lib.byteCells (L ++ List.replicate j 0)) := own_cast hlo.1 (by rw [hll, hM]) rfl
        have HLO := Lib.hid hlo
        have HM' := Lib.hid hM
        clear hlo hM hll
        go_wp2_with (at_builtin; go_loud (refine wpList_append_own _ rfl _ _ 22 rfl (w.heap.size + 1) 5 i0 (.int .u8 0) 1 1 Tryd.underlying22 hi hz0 hz1 hz2 rfl (by decide) _ _ _ rfl (ho.alloc _) ⟨wa.heap.size, 0, none⟩ 1 1 (Lib.byteCells [0]) rfl rfl (cells_new _ _ _) (byte_one _) ?c3 ?c4 ?c5 ?_))
        case c3 => unfold maxLen; omega
        case c4 => omega
        case c5 => have := HLO.out.2.2.2; simp; omega
        intro v4 w4 ho4 hg4 hx4
        have hb4 := below_app HLO.out.2.2.1 HLO.out.2.2.1.size hg4 (fun k hk => by have := (ho.lt k hk).1; omega)
        have hr4 := (HLO.out.2.1.alloc (.cells (Lib.byteCells [0]).toArray 5)).grown hg4 (fun r hr e => by have := (ho.lt r hr).1; omega)
        have hz4 : w.heap.size + 1 ≤ w4.heap.size := by have := hg4.size; have := HLO.out.2.2.2; simp at *; omega
        have ho4' : w4.ownsRow (w.heap.size + 1) 5 1 v4 (M + 1) (Lib.byteCells (L ++ List.replicate (j + 1) 0)) := own_cast ho4 rfl (by rw [List.replicate_succ']; simp [Lib.byteCells])
        obtain ⟨a4, c4, hv4⟩ := (Rd.of_own ho4').slice
        subst hv4
        clear ho4 hg4 hx4 ho
        go_wp2_with fail
        go_roundw
        case rel => exact ⟨j + 1, by have := HM'.out; omega, own_cast ho4' (by have := HM'.out; simp; omega) rfl, hr4, hb4, hz4⟩
        case measure => simp [slLen]; omega
      case neg =>
        obtain ⟨K, hK⟩ : ∃ K, K = key k := ⟨_, rfl⟩
        have hKe : L ++ List.replicate j (0 : UInt8) = K := by rw [hK, HLK.out]; congr 2; omega
        have hKl : K.length = 64 := by rw [hK]; exact key_len k
        have hj64 : L.length + j = 64 := by omega
        rw [hKe] at hlo
        rw [hj64] at hlo ⊢
        have hks : KS w wa (.slice none 0 0) (.slice none 0 0) (.slice a2 64 c2) (xk 54 (K.take 0) 64) (xk 92 (K.take 0) 64) K := by
          refine ⟨?_, ?_, hlo.1, hlo.2.1, hlo.2.2.1, fun g h => (by cases h), fun g h => (by cases h), fun g h => (by cases h), hlo.2.2.2⟩
          · simpa [xk, Lib.byteCells] using World.ownsRow_nil wa (w.heap.size + 1) 5 1
          · simpa [xk, Lib.byteCells] using World.ownsRow_nil wa (w.heap.size + 1) 5 1
        have HKK := Lib.hid hK
        have HKL64 := Lib.hid hKl
        clear hlo hKe hKl hj64 hlt hj hll hK
        go_wp2_with fail
        go_loopw [7, 8, 9] (fun vi vo i W => ∃ t : Nat, t ≤ 64 ∧ i = .int .i64 (t : Int) ∧ KS w W vi vo (.slice a2 64 c2) ((K.take t).map (· ^^^ 54)) ((K.take t).map (· ^^^ 92)) K) (fun _ _ i _ => 64 - (intOf i).toNat)
        case atStart => exact ⟨0, by omega, rfl, by simpa [xk] using hks⟩
        case round =>
          clear hks
          obtain ⟨t, ht, rfl, hks⟩ := hrel
          rename World => wb
          obtain ⟨ai, ci, hvi⟩ := (Rd.of_own hks.i).slice
          obtain ⟨ao, co, hvo⟩ := (Rd.of_own hks.o).slice
          have hti : ((K.take t).map (· ^^^ (54 : UInt8))).length = t := by rw [List.length_map, List.length_take, HKL64.out]; omega
          have hto : ((K.take t).map (· ^^^ (92 : UInt8))).length = t := by rw [List.length_map, List.length_take, HKL64.out]; omega
          rw [hti] at hvi
          rw [hto] at hvo
          subst hvi hvo
          by_cases ht64 : t < 64
          case pos =>
            have t1 : (t : Int) < 64 := by omega
            have t2 : (0 : Int) ≤ (t : Int) := by omega
            obtain ⟨c, hc⟩ : ∃ c, K[t]'(by rw [HKL64.out]; exact ht64) = c := ⟨_, rfl⟩
            have hcells : (Lib.byteCells K)[t]? = some (.int .u8 (c.toNat : Int)) := by
              unfold Lib.byteCells
              rw [List.getElem?_map, List.getElem?_eq_getElem (by rw [HKL64.out]; exact ht64), hc]; rfl
            have hsI : (K.take (t + 1)).map (· ^^^ (54 : UInt8)) = (K.take t).map (· ^^^ 54) ++ [c ^^^ 54] := by rw [List.take_succ_eq_append_getElem (by rw [HKL64.out]; exact ht64), List.map_append, hc]; rfl
            have hsO : (K.take (t + 1)).map (· ^^^ (92 : UInt8)) = (K.take t).map (· ^^^ 92) ++ [c ^^^ 92] := by rw [List.take_succ_eq_append_getElem (by rw [HKL64.out]; exact ht64), List.map_append, hc]; rfl
            have HSI := Lib.hid hsI
            have HSO := Lib.hid hsO
            generalize (K.take t).map (· ^^^ (54 : UInt8)) = I at hks HSI hti
            generalize (K.take t).map (· ^^^ (92 : UInt8)) = O at hks HSO hto
            obtain ⟨x, hx, e1⟩ : ∃ x : UInt8, x = c ^^^ 54 ∧ bits .xor .u8 (c.toNat : Int) 54 = (x.toNat : Int) := ⟨_, rfl, xor_w8 c 54⟩
            obtain ⟨y, hy, e2⟩ : ∃ y : UInt8, y = c ^^^ 92 ∧ bits .xor .u8 (c.toNat : Int) 92 = (y.toNat : Int) := ⟨_, rfl, xor_w8 c 92⟩
            rw [← hx] at HSI
            rw [← hy] at HSO
            have HCL := Lib.hid hcells
            have hgl : ∃ gl, a2 = some ⟨gl, 0, none⟩ := by
              rcases hks.l.2 with ⟨h, _⟩ | ⟨g, cap, cur, hv, _⟩
              · cases h
              · simp only [Value.slice.injEq] at hv; exact ⟨g, hv.1⟩
            obtain ⟨gl, rfl⟩ := hgl
            have q0 := hks.l.cells (g := gl) rfl t _ HCL.out
            rw [Addr.add_lit, Nat.zero_add] at q0
            have hoi : wb.ownsRow (w.heap.size + 1) 5 1 (.slice ai t ci) t (Lib.byteCells I) := own_cast hks.i hti rfl
            have HKS := Lib.hid hks
            clear hc hcells hsI hsO hx hy hks
            go_wp2_with (at_builtin; go_loud (refine wpList_app rfl _ _ 22 rfl 5 (w.heap.size + 1) i0 (.int .u8 0) 1 1 Tryd.underlying22 hi hz0 hz1 hz2 rfl (by decide) _ _ _ rfl (hoi.alloc _) _ _ _ rfl (rd_one wb x) (byte_one _) ?c3 ?c4 ?c5 ?_))
            case c3 => unfold maxLen; omega
            case c4 => omega
            case c5 => have := HKS.out.z; simp; omega
            intro v5 w5 ho5 hg5 hx5
            have hks5 : KS w w5 v5 (.slice ao t co) (.slice (some ⟨gl, 0, none⟩) 64 c2) (I ++ [x]) O K := (HKS.out.alloc (.cells (Lib.byteCells [x]).toArray 5)).app hg5 (own_cast ho5 (by simp [hti]) (by rw [bc_append])) (by rw [World.size_alloc]; exact hx5)
            have q1 := hks5.l.cells (g := gl) rfl t _ HCL.out
            rw [Addr.add_lit, Nat.zero_add] at q1
            have hoo : w5.ownsRow (w.heap.size + 1) 5 1 (.slice ao t co) t (Lib.byteCells O) := own_cast hks5.o hto rfl
            obtain ⟨a5, c5, hv5⟩ := (Rd.of_own hks5.i).slice
            rw [show (I ++ [x]).length = t + 1 from by simp [hti]] at hv5
            subst hv5
            have HKS5 := Lib.hid hks5
            clear ho5 hg5 hx5 hoi q0 hks5 HKS e1
            go_wp2_with (at_builtin; go_loud (refine wpList_app rfl _ _ 22 rfl 5 (w.heap.size + 1) i0 (.int .u8 0) 1 1 Tryd.underlying22 hi hz0 hz1 hz2 rfl (by decide) _ _ _ rfl (hoo.alloc _) _ _ _ rfl (rd_one w5 y) (byte_one _) ?c3 ?c4 ?c5 ?_))
            case c3 => unfold maxLen; omega
            case c4 => omega
            case c5 => have := HKS5.out.z; simp; omega
            intro v6 w6 ho6 hg6 hx6
            have hks6 : KS w w6 (.slice a5 (t + 1) c5) v6 (.slice (some ⟨gl, 0, none⟩) 64 c2) (I ++ [x]) (O ++ [y]) K := ((HKS5.out.swap.alloc (.cells (Lib.byteCells [y]).toArray 5)).app hg6 (own_cast ho6 (by simp [hto]) (by rw [bc_append])) (by rw [World.size_alloc]; exact hx6)).swap
            obtain ⟨a6, c6, hv6⟩ := (Rd.of_own hks6.o).slice
            rw [show (O ++ [y]).length = t + 1 from by simp [hto]] at hv6
            subst hv6
            clear ho6 hg6 hx6 hoo q1 HKS5 e2
            go_wp2_with fail
            go_roundw
            case rel => exact ⟨t + 1, by omega, by go_num, by rw [HSI.out, HSO.out]; exact hks6⟩
            case measure => simp [intOf]; omega
          case neg =>
            have htk : K.take t = K := List.take_of_length_le (by rw [HKL64.out]; omega)
            rw [htk] at hks hti hto
            obtain ⟨I, hI⟩ : ∃ I, I = K.map (· ^^^ (54 : UInt8)) := ⟨_, rfl⟩
            obtain ⟨O, hO⟩ : ∃ O, O = K.map (· ^^^ (92 : UInt8)) := ⟨_, rfl⟩
            rw [← hI] at hks hti
            rw [← hO] at hks hto
            have HDD : Hid (D = sha (O ++ sha (I ++ m))) := Lib.hid (by rw [HD.out, hI, hO, HKK.out]; rfl)
            have ht3 : t = 64 := by omega
            have hti64 : I.length = 64 := by omega
            have hto64 : O.length = 64 := by omega
            obtain ⟨T, hT, hT2⟩ : ∃ T, T = t ∧ 64 ≤ T := ⟨t, rfl, by omega⟩
            subst hT
            have hoi : wb.ownsRow (w.heap.size + 1) 5 1 (.slice ai T ci) T (Lib.byteCells I) := own_cast hks.i hti rfl
            have hrm := HM.out.below' hks.b (Nat.le_refl _)
            have HKS := Lib.hid hks
            have HT3 := Lib.hid ht3
            clear hks htk hI hO ht3 ht
            go_wp2_with (at_builtin; go_loud (refine wpList_app rfl _ _ 22 rfl 5 (w.heap.size + 1) i0 (.int .u8 0) 1 1 Tryd.underlying22 hi hz0 hz1 hz2 rfl (by decide) _ _ _ rfl hoi _ _ _ rfl hrm (byte_one _) ?c3 ?c4 ?c5 ?_))
            case c3 => have := HML.out; have := HT3.out; unfold maxLen; omega
            case c4 => have := HML.out; have := HT3.out; omega
            case c5 => exact HKS.out.z
            intro v7 w7 ho7 hg7 hx7
            have hks7 := HKS.out.app (I' := I ++ m) hg7 (own_cast ho7 (by rw [List.length_append, hti]) (by rw [bc_append])) hx7
            obtain ⟨a7, c7, hv7⟩ := (Rd.of_own hks7.i).slice
            have HS1 := Lib.hid (rsum_any v7 (I ++ m) w7 (Rd.of_own hks7.i) (by rw [List.length_append]; have := HML.out; omega))
            have hl7 : (I ++ m).length = T + m.length := by rw [List.length_append, hti]
            rw [hl7] at hv7
            subst hv7
            clear ho7 hg7 hx7 hoi hrm HKS
            go_wp2_with fail
            refine HS1.out.mono ?_
            rintro e w8 ⟨rfl, hb8⟩
            have hks8 := hks7.below hb8
            obtain ⟨E, hE⟩ : ∃ E, E = sha (I ++ m) := ⟨_, rfl⟩
            rw [← hE] at HDD ⊢
            have hEl : E.length = 32 := by rw [hE]; exact sha_len _
            clear hks7 hb8 HS1 hE hl7
            have hz8 : Blk (w8.alloc (.cells #[.int .u8 0, .int .u8 0, .int .u8 0, .int .u8 0, .int .u8 0, .int .u8 0, .int .u8 0, .int .u8 0, .int .u8 0, .int .u8 0, .int .u8 0, .int .u8 0, .int .u8 0, .int .u8 0, .int .u8 0, .int .u8 0, .int .u8 0, .int .u8 0, .int .u8 0, .int .u8 0, .int .u8 0, .int .u8 0, .int .u8 0, .int .u8 0, .int .u8 0, .int .u8 0, .int .u8 0, .int .u8 0, .int .u8 0, .int .u8 0, .int .u8 0, .int .u8 0] 46)) w8.heap.size 46 (List.replicate 32 (.int .u8 0)) := Blk.new w8 _ (List.replicate 32 (.int .u8 0))
            have hks9 := hks8.alloc (.cells #[.int .u8 0, .int .u8 0, .int .u8 0, .int .u8 0, .int .u8 0, .int .u8 0, .int .u8 0, .int .u8 0, .int .u8 0, .int .u8 0, .int .u8 0, .int .u8 0, .int .u8 0, .int .u8 0, .int .u8 0, .int .u8 0, .int .u8 0, .int .u8 0, .int .u8 0, .int .u8 0, .int .u8 0, .int .u8 0, .int .u8 0, .int .u8 0, .int .u8 0, .int .u8 0, .int .u8 0, .int .u8 0, .int .u8 0, .int .u8 0, .int .u8 0, .int .u8 0] 46)
            have hi1 : (Tryd.prog.info? 46).map (·.size) = some (Lib.byteCells E).length := by rw [bc_length, hEl]; exact d32_row
            have hi2 : (List.replicate 32 (Value.int .u8 0)).length = (Lib.byteCells E).length := by rw [bc_length, hEl, List.length_replicate]
            have HII := Lib.hid (And.intro hi1 hi2)
            have h8i : ∀ g, (Value.slice a7 (T + m.length) c7).ownBlock = some g → g ≠ w8.heap.size := fun g hg => by have := (hks8.i.lt g hg).2; omega
            have h8o : ∀ g, (Value.slice ao T co).ownBlock = some g → g ≠ w8.heap.size := fun g hg => by have := (hks8.o.lt g hg).2; omega
            have h8z := hks8.z
            clear hks8 hi1 hi2
            go_wp2_with (with_reducible refine wpList_store_blk rfl 46 (.tmp 10) (.tmp 51) rfl w8.heap.size (Lib.byteCells E) rfl rfl 46 _ hz8 HII.out.1 HII.out.2 (byte_one _) ?_)
            intro w9 hx9 hg9
            have hoo : w9.ownsRow (w.heap.size + 1) 5 1 (.slice ao T co) T (Lib.byteCells O) := own_cast (own_grownN hks9.o hg9 (fun g h1 h2 => by cases h2; exact h8o _ h1 rfl)) hto rfl
            have hr9 := hks9.r.grown hg9 (fun r hr e => by cases hr; omega)
            have hb9 : Below w.heap.size w w9 := hks9.b.grown hg9 hks9.b.size (fun k e => by cases e; omega)
            have hz9 : w.heap.size + 1 ≤ w9.heap.size := by have := hg9.size; simp at this; omega
            have hre := blk_rd hx9 32 hEl
            clear hks9 hz8 hg9 h8i h8o HII
            have hre' : Rd w9 1 (.slice (some ⟨w8.heap.size, 0, none⟩) 32 32) 32 (Lib.byteCells E) := hre
            clear hre hx9
            go_wp2_with (at_builtin; go_loud (refine wpList_app rfl _ _ 22 rfl 5 (w.heap.size + 1) i0 (.int .u8 0) 1 1 Tryd.underlying22 hi hz0 hz1 hz2 rfl (by decide) _ _ _ rfl hoo _ _ _ rfl hre' (byte_one _) ?c3 ?c4 ?c5 ?_))
            case c3 => have := HT3.out; unfold maxLen; omega
            case c4 => have := HT3.out; omega
            case c5 => exact hz9
            intro v10 w10 ho10 hg10 hx10
            have hr10 := hr9.grown hg10 (fun r hr e => by have := (hoo.lt r hr).1; omega)
            have hb10 : Below w.heap.size w w10 := hb9.grown hg10 hb9.size (fun k hk => by have := (hoo.lt k hk).1; omega)
            have hl10 : (O ++ E).length = T + 32 := by rw [List.length_append, hto, hEl]
            have ho10' : w10.ownsRow (w.heap.size + 1) 5 1 v10 (O ++ E).length (Lib.byteCells (O ++ E)) := own_cast ho10 hl10.symm (by rw [bc_append])
            obtain ⟨a10, c10, hv10⟩ := (Rd.of_own ho10').slice
            have HS2 := Lib.hid (rsum_any v10 (O ++ E) w10 (Rd.of_own ho10') (by rw [hl10]; have := HT3.out; omega))
            rw [hl10] at hv10
            subst hv10
            rw [← HDD.out] at HS2
            clear ho10 hg10 hx10 ho10' hoo hre' hr9 hb9 hl10
            go_wp2_with fail
            refine HS2.out.mono ?_
            rintro e w11 ⟨rfl, hb11⟩
            have hr11 := hr10.below hb11 hr10.lt
            have hbF := hb10.trans (hb11.mono hb10.size)
            have hDl : D.length = 32 := by rw [HDD.out]; exact sha_len _
            have hi1 : (Tryd.prog.info? 46).map (·.size) = some (Lib.byteCells D).length := by rw [bc_length, hDl]; exact d32_row
            have hi2 : (List.replicate 32 (Value.int .u8 0)).length = (Lib.byteCells D).length := by rw [bc_length, hDl, List.length_replicate]
            have hi3 : (Tryd.prog.info? 46).map (·.size) = some (Lib.byteCells D).toArray.size := by rw [List.size_toArray]; exact hi1
            have HII := Lib.hid (And.intro hi1 (And.intro hi2 hi3))
            clear hb11 hr10 hb10 hDl hi1 hi2 hi3 HS2
            go_wp2_with (with_reducible refine wpList_store_blk rfl 46 (.tmp 4) (.tmp 55) rfl w.heap.size (Lib.byteCells D) rfl rfl 46 _ hr11 HII.out.1 HII.out.2.1 (byte_one _) ?_)
            intro wC hxC hgC
            have hbC : Below w.heap.size w wC := hbF.grown hgC hbF.size (fun k e => by cases e; omega)
            clear hgC hr11 hbF
            go_wp2_with fail
            try simp only [Exit.inBlock, Exit.then]
            refine bodyPost_ret (results_cell_row rfl _ _ w.heap.size 46 (Lib.byteCells D).toArray (0, 0) _ rfl hxC Tryd.underlying46 rfl HII.out.2.2) rfl ?_
            exact ⟨rfl, hbC⟩
  case pos =>
    have hLk : L = sha k := by rw [hL, if_pos h64]
    have t0 : (64 : Int) < (k.length : Int) := by omega
    have hLl : L.length = 32 := by rw [hLk]; exact sha_len _
    have HS0 := Lib.hid (rsum_any _ k w1 (HK.out.below' hb1 (Nat.le_refl _)) HKL.out)
    rw [← hLk] at HS0
    clear ho1' hL hLk h64
    go_wp2_with fail
    refine HS0.out.mono ?_
    rintro e w2 ⟨rfl, hb2⟩
    have hz2 : Blk (w2.alloc (.cells #[.int .u8 0, .int .u8 0, .int .u8 0, .int .u8 0, .int .u8 0, .int .u8 0, .int .u8 0, .int .u8 0, .int .u8 0, .int .u8 0, .int .u8 0, .int .u8 0, .int .u8 0, .int .u8 0, .int .u8 0, .int .u8 0, .int .u8 0, .int .u8 0, .int .u8 0, .int .u8 0, .int .u8 0, .int .u8 0, .int .u8 0, .int .u8 0, .int .u8 0, .int .u8 0, .int .u8 0, .int .u8 0, .int .u8 0, .int .u8 0, .int .u8 0, .int .u8 0] 46)) w2.heap.size 46 (List.replicate 32 (.int .u8 0)) := Blk.new w2 _ (List.replicate 32 (.int .u8 0))
    have hr2 := (hr1.below hb2 hr1.lt).alloc (.cells #[.int .u8 0, .int .u8 0, .int .u8 0, .int .u8 0, .int .u8 0, .int .u8 0, .int .u8 0, .int .u8 0, .int .u8 0, .int .u8 0, .int .u8 0, .int .u8 0, .int .u8 0, .int .u8 0, .int .u8 0, .int .u8 0, .int .u8 0, .int .u8 0, .int .u8 0, .int .u8 0, .int .u8 0, .int .u8 0, .int .u8 0, .int .u8 0, .int .u8 0, .int .u8 0, .int .u8 0, .int .u8 0, .int .u8 0, .int .u8 0, .int .u8 0, .int .u8 0] 46)
    have hb2' := (hb1.trans (hb2.mono hb1.size)).alloc (hb1.trans (hb2.mono hb1.size)).size (.cells #[.int .u8 0, .int .u8 0, .int .u8 0, .int .u8 0, .int .u8 0, .int .u8 0, .int .u8 0, .int .u8 0, .int .u8 0, .int .u8 0, .int .u8 0, .int .u8 0, .int .u8 0, .int .u8 0, .int .u8 0, .int .u8 0, .int .u8 0, .int .u8 0, .int .u8 0, .int .u8 0, .int .u8 0, .int .u8 0, .int .u8 0, .int .u8 0, .int .u8 0, .int .u8 0, .int .u8 0, .int .u8 0, .int .u8 0, .int .u8 0, .int .u8 0, .int .u8 0] 46)
    have hs2 := hb2.size
    have hi1 : (Tryd.prog.info? 46).map (·.size) = some (Lib.byteCells L).length := by rw [bc_length, hLl]; exact d32_row
    have hi2 : (List.replicate 32 (Value.int .u8 0)).length = (Lib.byteCells L).length := by rw [bc_length, hLl, List.length_replicate]
    have HII := Lib.hid (And.intro hi1 hi2)
    clear hi1 hi2 hb2 hr1 hb1 HS0
    go_wp2_with (with_reducible refine wpList_store_blk rfl 46 (.tmp 6) (.tmp 18) rfl w2.heap.size (Lib.byteCells L) rfl rfl 46 _ hz2 HII.out.1 HII.out.2 (byte_one _) ?_)
    intro w3 hx3 hg3
    have hr3 := hr2.grown hg3 (fun r hr e => by cases hr; omega)
    have hb3 : Below w.heap.size w w3 := hb2'.grown hg3 hb2'.size (fun k e => by cases e; omega)
    have hz3 : w.heap.size + 1 ≤ w3.heap.size := by have := hg3.size; simp at this; omega
    have hrl := (blk_rd hx3 32 hLl).below ((Below.refl _ _).alloc (Nat.le_refl _) (.cells #[] 5))
    have hof := own_fresh w3 5 1
    have hrf := hr3.alloc (.cells #[] 5)
    have hbf := hb3.alloc hb3.size (.cells #[] 5)
    clear hz2 hr2 hb2' hg3 hx3 HII hr3 hb3
    go_wp2_with (at_builtin; go_loud (refine wpList_app rfl _ _ 22 rfl 5 w3.heap.size i0 (.int .u8 0) 1 1 Tryd.underlying22 hi hz0 hz1 hz2 rfl (by decide) _ _ _ rfl hof _ _ _ rfl hrl (byte_one _) ?c3 ?c4 ?c5 ?_))
    case c3 => unfold maxLen; omega
    case c4 => omega
    case c5 => simp
    intro v4 w4 ho4 hg4 hx4
    have hr4 := hrf.grown hg4 (fun r hr e => by cases hr; revert e; show w.heap.size = w3.heap.size → False; omega)
    have hb4 : Below w.heap.size w w4 := hbf.grown hg4 hbf.size (fun k hk => by cases hk; show w.heap.size ≤ w3.heap.size; omega)
    have hz4 : w.heap.size + 1 ≤ w4.heap.size := by have := hg4.size; simp at this; omega
    have hLO : LO w w4 v4 L := ⟨own_mono (own_cast ho4 (by rw [hLl]) (by simp)) hz3, hr4, hb4, hz4⟩
    obtain ⟨a4, c4, hv4⟩ := (Rd.of_own hLO.1).slice
    have hkk : L.length = 32 := hLl
    rw [hkk] at hv4
    subst hv4
    have hLl : L.length ≤ 64 := by omega
    clear hof hrf hbf hrl ho4 hg4 hx4 hr4 hb4 hz4
    go_wp2_with fail
    go_loopw [5] (fun v W => ∃ j : Nat, L.length + j ≤ 64 ∧ LO w W v (L ++ List.replicate j 0)) (fun v _ => 64 - slLen v)
    case atStart => exact ⟨0, by omega, by simpa using hLO⟩
    case round =>
      clear hLO
      obtain ⟨j, hj, hlo⟩ := hrel
      rename World => wa
      obtain ⟨a2, c2, hv2⟩ := (Rd.of_own hlo.1).slice
      have hll : (L ++ List.replicate j (0 : UInt8)).length = L.length + j := by simp
      rw [hll] at hv2
      subst hv2
      by_cases hlt : L.length + j < 64
      case pos =>
        obtain ⟨M, hM⟩ : ∃ M, M = L.length + j := ⟨_, rfl⟩
        rw [← hM] at hlo hlt ⊢
        have t1 : (M : Int) < 64 := by omega
        have ho : wa.ownsRow (w.heap.size + 1) 5 1 (.slice a2 M c2) M (Lib.byteCells (L ++ List.replicate j 0)) := own_cast hlo.1 (by rw [hll, hM]) rfl
        have HLO := Lib.hid hlo
        have HM' := Lib.hid hM
        clear hlo hM hll
        go_wp2_with (at_builtin; go_loud (refine wpList_append_own _ rfl _ _ 22 rfl (w.heap.size + 1) 5 i0 (.int .u8 0) 1 1 Tryd.underlying22 hi hz0 hz1 hz2 rfl (by decide) _ _ _ rfl (ho.alloc _) ⟨wa.heap.size, 0, none⟩ 1 1 (Lib.byteCells [0]) rfl rfl (cells_new _ _ _) (byte_one _) ?c3 ?c4 ?c5 ?_))
        case c3 => unfold maxLen; omega
        case c4 => omega
        case c5 => have := HLO.out.2.2.2; simp; omega
        intro v4 w4 ho4 hg4 hx4
        have hb4 := below_app HLO.out.2.2.1 HLO.out.2.2.1.size hg4 (fun k hk => by have := (ho.lt k hk).1; omega)
        have hr4 := (HLO.out.2.1.alloc (.cells (Lib.byteCells [0]).toArray 5)).grown hg4 (fun r hr e => by have := (ho.lt r hr).1; omega)
        have hz4 : w.heap.size + 1 ≤ w4.heap.size := by have := hg4.size; have := HLO.out.2.2.2; simp at *; omega
        have ho4' : w4.ownsRow (w.heap.size + 1) 5 1 v4 (M + 1) (Lib.byteCells (L ++ List.replicate (j + 1) 0)) := own_cast ho4 rfl (by rw [List.replicate_succ']; simp [Lib.byteCells])
        obtain ⟨a4, c4, hv4⟩ := (Rd.of_own ho4').slice
        subst hv4
        clear ho4 hg4 hx4 ho
        go_wp2_with fail
        go_roundw
        case rel => exact ⟨j + 1, by have := HM'.out; omega, own_cast ho4' (by have := HM'.out; simp; omega) rfl, hr4, hb4, hz4⟩
        case measure => simp [slLen]; omega
      case neg =>
        obtain ⟨K, hK⟩ : ∃ K, K = key k := ⟨_, rfl⟩
        have hKe : L ++ List.replicate j (0 : UInt8) = K := by rw [hK, HLK.out]; congr 2; omega
        have hKl : K.length = 64 := by rw [hK]; exact key_len k
        have hj64 : L.length + j = 64 := by omega
        rw [hKe] at hlo
        rw [hj64] at hlo ⊢
        have hks : KS w wa (.slice none 0 0) (.slice none 0 0) (.slice a2 64 c2) (xk 54 (K.take 0) 64) (xk 92 (K.take 0) 64) K := by
          refine ⟨?_, ?_, hlo.1, hlo.2.1, hlo.2.2.1, fun g h => (by cases h), fun g h => (by cases h), fun g h => (by cases h), hlo.2.2.2⟩
          · simpa [xk, Lib.byteCells] using World.ownsRow_nil wa (w.heap.size + 1) 5 1
          · simpa [xk, Lib.byteCells] using World.ownsRow_nil wa (w.heap.size + 1) 5 1
        have HKK := Lib.hid hK
        have HKL64 := Lib.hid hKl
        clear hlo hKe hKl hj64 hlt hj hll hK
        go_wp2_with fail
        go_loopw [7, 8, 9] (fun vi vo i W => ∃ t : Nat, t ≤ 64 ∧ i = .int .i64 (t : Int) ∧ KS w W vi vo (.slice a2 64 c2) ((K.take t).map (· ^^^ 54)) ((K.take t).map (· ^^^ 92)) K) (fun _ _ i _ => 64 - (intOf i).toNat)
        case atStart => exact ⟨0, by omega, rfl, by simpa [xk] using hks⟩
        case round =>
          clear hks
          obtain ⟨t, ht, rfl, hks⟩ := hrel
          rename World => wb
          obtain ⟨ai, ci, hvi⟩ := (Rd.of_own hks.i).slice
          obtain ⟨ao, co, hvo⟩ := (Rd.of_own hks.o).slice
          have hti : ((K.take t).map (· ^^^ (54 : UInt8))).length = t := by rw [List.length_map, List.length_take, HKL64.out]; omega
          have hto : ((K.take t).map (· ^^^ (92 : UInt8))).length = t := by rw [List.length_map, List.length_take, HKL64.out]; omega
          rw [hti] at hvi
          rw [hto] at hvo
          subst hvi hvo
          by_cases ht64 : t < 64
          case pos =>
            have t1 : (t : Int) < 64 := by omega
            have t2 : (0 : Int) ≤ (t : Int) := by omega
            obtain ⟨c, hc⟩ : ∃ c, K[t]'(by rw [HKL64.out]; exact ht64) = c := ⟨_, rfl⟩
            have hcells : (Lib.byteCells K)[t]? = some (.int .u8 (c.toNat : Int)) := by
              unfold Lib.byteCells
              rw [List.getElem?_map, List.getElem?_eq_getElem (by rw [HKL64.out]; exact ht64), hc]; rfl
            have hsI : (K.take (t + 1)).map (· ^^^ (54 : UInt8)) = (K.take t).map (· ^^^ 54) ++ [c ^^^ 54] := by rw [List.take_succ_eq_append_getElem (by rw [HKL64.out]; exact ht64), List.map_append, hc]; rfl
            have hsO : (K.take (t + 1)).map (· ^^^ (92 : UInt8)) = (K.take t).map (· ^^^ 92) ++ [c ^^^ 92] := by rw [List.take_succ_eq_append_getElem (by rw [HKL64.out]; exact ht64), List.map_append, hc]; rfl
            have HSI := Lib.hid hsI
            have HSO := Lib.hid hsO
            generalize (K.take t).map (· ^^^ (54 : UInt8)) = I at hks HSI hti
            generalize (K.take t).map (· ^^^ (92 : UInt8)) = O at hks HSO hto
            obtain ⟨x, hx, e1⟩ : ∃ x : UInt8, x = c ^^^ 54 ∧ bits .xor .u8 (c.toNat : Int) 54 = (x.toNat : Int) := ⟨_, rfl, xor_w8 c 54⟩
            obtain ⟨y, hy, e2⟩ : ∃ y : UInt8, y = c ^^^ 92 ∧ bits .xor .u8 (c.toNat : Int) 92 = (y.toNat : Int) := ⟨_, rfl, xor_w8 c 92⟩
            rw [← hx] at HSI
            rw [← hy] at HSO
            have HCL := Lib.hid hcells
            have hgl : ∃ gl, a2 = some ⟨gl, 0, none⟩ := by
              rcases hks.l.2 with ⟨h, _⟩ | ⟨g, cap, cur, hv, _⟩
              · cases h
              · simp only [Value.slice.injEq] at hv; exact ⟨g, hv.1⟩
            obtain ⟨gl, rfl⟩ := hgl
            have q0 := hks.l.cells (g := gl) rfl t _ HCL.out
            rw [Addr.add_lit, Nat.zero_add] at q0
            have hoi : wb.ownsRow (w.heap.size + 1) 5 1 (.slice ai t ci) t (Lib.byteCells I) := own_cast hks.i hti rfl
            have HKS := Lib.hid hks
            clear hc hcells hsI hsO hx hy hks
            go_wp2_with (at_builtin; go_loud (refine wpList_app rfl _ _ 22 rfl 5 (w.heap.size + 1) i0 (.int .u8 0) 1 1 Tryd.underlying22 hi hz0 hz1 hz2 rfl (by decide) _ _ _ rfl (hoi.alloc _) _ _ _ rfl (rd_one wb x) (byte_one _) ?c3 ?c4 ?c5 ?_))
            case c3 => unfold maxLen; omega
            case c4 => omega
            case c5 => have := HKS.out.z; simp; omega
            intro v5 w5 ho5 hg5 hx5
            have hks5 : KS w w5 v5 (.slice ao t co) (.slice (some ⟨gl, 0, none⟩) 64 c2) (I ++ [x]) O K := (HKS.out.alloc (.cells (Lib.byteCells [x]).toArray 5)).app hg5 (own_cast ho5 (by simp [hti]) (by rw [bc_append])) (by rw [World.size_alloc]; exact hx5)
            have q1 := hks5.l.cells (g := gl) rfl t _ HCL.out
            rw [Addr.add_lit, Nat.zero_add] at q1
            have hoo : w5.ownsRow (w.heap.size + 1) 5 1 (.slice ao t co) t (Lib.byteCells O) := own_cast hks5.o hto rfl
            obtain ⟨a5, c5, hv5⟩ := (Rd.of_own hks5.i).slice
            rw [show (I ++ [x]).length = t + 1 from by simp [hti]] at hv5
            subst hv5
            have HKS5 := Lib.hid hks5
            clear ho5 hg5 hx5 hoi q0 hks5 HKS e1
            go_wp2_with (at_builtin; go_loud (refine wpList_app rfl _ _ 22 rfl 5 (w.heap.size + 1) i0 (.int .u8 0) 1 1 Tryd.underlying22 hi hz0 hz1 hz2 rfl (by decide) _ _ _ rfl (hoo.alloc _) _ _ _ rfl (rd_one w5 y) (byte_one _) ?c3 ?c4 ?c5 ?_))
            case c3 => unfold maxLen; omega
            case c4 => omega
            case c5 => have := HKS5.out.z; simp; omega
            intro v6 w6 ho6 hg6 hx6
            have hks6 : KS w w6 (.slice a5 (t + 1) c5) v6 (.slice (some ⟨gl, 0, none⟩) 64 c2) (I ++ [x]) (O ++ [y]) K := ((HKS5.out.swap.alloc (.cells (Lib.byteCells [y]).toArray 5)).app hg6 (own_cast ho6 (by simp [hto]) (by rw [bc_append])) (by rw [World.size_alloc]; exact hx6)).swap
            obtain ⟨a6, c6, hv6⟩ := (Rd.of_own hks6.o).slice
            rw [show (O ++ [y]).length = t + 1 from by simp [hto]] at hv6
            subst hv6
            clear ho6 hg6 hx6 hoo q1 HKS5 e2
            go_wp2_with fail
            go_roundw
            case rel => exact ⟨t + 1, by omega, by go_num, by rw [HSI.out, HSO.out]; exact hks6⟩
            case measure => simp [intOf]; omega
          case neg =>
            have htk : K.take t = K := List.take_of_length_le (by rw [HKL64.out]; omega)
            rw [htk] at hks hti hto
            obtain ⟨I, hI⟩ : ∃ I, I = K.map (· ^^^ (54 : UInt8)) := ⟨_, rfl⟩
            obtain ⟨O, hO⟩ : ∃ O, O = K.map (· ^^^ (92 : UInt8)) := ⟨_, rfl⟩
            rw [← hI] at hks hti
            rw [← hO] at hks hto
            have HDD : Hid (D = sha (O ++ sha (I ++ m))) := Lib.hid (by rw [HD.out, hI, hO, HKK.out]; rfl)
            have ht3 : t = 64 := by omega
            have hti64 : I.length = 64 := by omega
            have hto64 : O.length = 64 := by omega
            obtain ⟨T, hT, hT2⟩ : ∃ T, T = t ∧ 64 ≤ T := ⟨t, rfl, by omega⟩
            subst hT
            have hoi : wb.ownsRow (w.heap.size + 1) 5 1 (.slice ai T ci) T (Lib.byteCells I) := own_cast hks.i hti rfl
            have hrm := HM.out.below' hks.b (Nat.le_refl _)
            have HKS := Lib.hid hks
            have HT3 := Lib.hid ht3
            clear hks htk hI hO ht3 ht
            go_wp2_with (at_builtin; go_loud (refine wpList_app rfl _ _ 22 rfl 5 (w.heap.size + 1) i0 (.int .u8 0) 1 1 Tryd.underlying22 hi hz0 hz1 hz2 rfl (by decide) _ _ _ rfl hoi _ _ _ rfl hrm (byte_one _) ?c3 ?c4 ?c5 ?_))
            case c3 => have := HML.out; have := HT3.out; unfold maxLen; omega
            case c4 => have := HML.out; have := HT3.out; omega
            case c5 => exact HKS.out.z
            intro v7 w7 ho7 hg7 hx7
            have hks7 := HKS.out.app (I' := I ++ m) hg7 (own_cast ho7 (by rw [List.length_append, hti]) (by rw [bc_append])) hx7
            obtain ⟨a7, c7, hv7⟩ := (Rd.of_own hks7.i).slice
            have HS1 := Lib.hid (rsum_any v7 (I ++ m) w7 (Rd.of_own hks7.i) (by rw [List.length_append]; have := HML.out; omega))
            have hl7 : (I ++ m).length = T + m.length := by rw [List.length_append, hti]
            rw [hl7] at hv7
            subst hv7
            clear ho7 hg7 hx7 hoi hrm HKS
            go_wp2_with fail
            refine HS1.out.mono ?_
            rintro e w8 ⟨rfl, hb8⟩
            have hks8 := hks7.below hb8
            obtain ⟨E, hE⟩ : ∃ E, E = sha (I ++ m) := ⟨_, rfl⟩
            rw [← hE] at HDD ⊢
            have hEl : E.length = 32 := by rw [hE]; exact sha_len _
            clear hks7 hb8 HS1 hE hl7
            have hz8 : Blk (w8.alloc (.cells #[.int .u8 0, .int .u8 0, .int .u8 0, .int .u8 0, .int .u8 0, .int .u8 0, .int .u8 0, .int .u8 0, .int .u8 0, .int .u8 0, .int .u8 0, .int .u8 0, .int .u8 0, .int .u8 0, .int .u8 0, .int .u8 0, .int .u8 0, .int .u8 0, .int .u8 0, .int .u8 0, .int .u8 0, .int .u8 0, .int .u8 0, .int .u8 0, .int .u8 0, .int .u8 0, .int .u8 0, .int .u8 0, .int .u8 0, .int .u8 0, .int .u8 0, .int .u8 0] 46)) w8.heap.size 46 (List.replicate 32 (.int .u8 0)) := Blk.new w8 _ (List.replicate 32 (.int .u8 0))
            have hks9 := hks8.alloc (.cells #[.int .u8 0, .int .u8 0, .int .u8 0, .int .u8 0, .int .u8 0, .int .u8 0, .int .u8 0, .int .u8 0, .int .u8 0, .int .u8 0, .int .u8 0, .int .u8 0, .int .u8 0, .int .u8 0, .int .u8 0, .int .u8 0, .int .u8 0, .int .u8 0, .int .u8 0, .int .u8 0, .int .u8 0, .int .u8 0, .int .u8 0, .int .u8 0, .int .u8 0, .int .u8 0, .int .u8 0, .int .u8 0, .int .u8 0, .int .u8 0, .int .u8 0, .int .u8 0] 46)
            have hi1 : (Tryd.prog.info? 46).map (·.size) = some (Lib.byteCells E).length := by rw [bc_length, hEl]; exact d32_row
            have hi2 : (List.replicate 32 (Value.int .u8 0)).length = (Lib.byteCells E).length := by rw [bc_length, hEl, List.length_replicate]
            have HII := Lib.hid (And.intro hi1 hi2)
            have h8i : ∀ g, (Value.slice a7 (T + m.length) c7).ownBlock = some g → g ≠ w8.heap.size := fun g hg => by have := (hks8.i.lt g hg).2; omega
            have h8o : ∀ g, (Value.slice ao T co).ownBlock = some g → g ≠ w8.heap.size := fun g hg => by have := (hks8.o.lt g hg).2; omega
            have h8z := hks8.z
            clear hks8 hi1 hi2
            go_wp2_with (with_reducible refine wpList_store_blk rfl 46 (.tmp 10) (.tmp 51) rfl w8.heap.size (Lib.byteCells E) rfl rfl 46 _ hz8 HII.out.1 HII.out.2 (byte_one _) ?_)
            intro w9 hx9 hg9
            have hoo : w9.ownsRow (w.heap.size + 1) 5 1 (.slice ao T co) T (Lib.byteCells O) := own_cast (own_grownN hks9.o hg9 (fun g h1 h2 => by cases h2; exact h8o _ h1 rfl)) hto rfl
            have hr9 := hks9.r.grown hg9 (fun r hr e => by cases hr; omega)
            have hb9 : Below w.heap.size w w9 := hks9.b.grown hg9 hks9.b.size (fun k e => by cases e; omega)
            have hz9 : w.heap.size + 1 ≤ w9.heap.size := by have := hg9.size; simp at this; omega
            have hre := blk_rd hx9 32 hEl
            clear hks9 hz8 hg9 h8i h8o HII
            have hre' : Rd w9 1 (.slice (some ⟨w8.heap.size, 0, none⟩) 32 32) 32 (Lib.byteCells E) := hre
            clear hre hx9
            go_wp2_with (at_builtin; go_loud (refine wpList_app rfl _ _ 22 rfl 5 (w.heap.size + 1) i0 (.int .u8 0) 1 1 Tryd.underlying22 hi hz0 hz1 hz2 rfl (by decide) _ _ _ rfl hoo _ _ _ rfl hre' (byte_one _) ?c3 ?c4 ?c5 ?_))
            case c3 => have := HT3.out; unfold maxLen; omega
            case c4 => have := HT3.out; omega
            case c5 => exact hz9
            intro v10 w10 ho10 hg10 hx10
            have hr10 := hr9.grown hg10 (fun r hr e => by have := (hoo.lt r hr).1; omega)
            have hb10 : Below w.heap.size w w10 := hb9.grown hg10 hb9.size (fun k hk => by have := (hoo.lt k hk).1; omega)
            have hl10 : (O ++ E).length = T + 32 := by rw [List.length_append, hto, hEl]
            have ho10' : w10.ownsRow (w.heap.size + 1) 5 1 v10 (O ++ E).length (Lib.byteCells (O ++ E)) := own_cast ho10 hl10.symm (by rw [bc_append])
            obtain ⟨a10, c10, hv10⟩ := (Rd.of_own ho10').slice
            have HS2 := Lib.hid (rsum_any v10 (O ++ E) w10 (Rd.of_own ho10') (by rw [hl10]; have := HT3.out; omega))
            rw [hl10] at hv10
            subst hv10
            rw [← HDD.out] at HS2
            clear ho10 hg10 hx10 ho10' hoo hre' hr9 hb9 hl10
            go_wp2_with fail
            refine HS2.out.mono ?_
            rintro e w11 ⟨rfl, hb11⟩
            have hr11 := hr10.below hb11 hr10.lt
            have hbF := hb10.trans (hb11.mono hb10.size)
            have hDl : D.length = 32 := by rw [HDD.out]; exact sha_len _
            have hi1 : (Tryd.prog.info? 46).map (·.size) = some (Lib.byteCells D).length := by rw [bc_length, hDl]; exact d32_row
            have hi2 : (List.replicate 32 (Value.int .u8 0)).length = (Lib.byteCells D).length := by rw [bc_length, hDl, List.length_replicate]
            have hi3 : (Tryd.prog.info? 46).map (·.size) = some (Lib.byteCells D).toArray.size := by rw [List.size_toArray]; exact hi1
            have HII := Lib.hid (And.intro hi1 (And.intro hi2 hi3))
            clear hb11 hr10 hb10 hDl hi1 hi2 hi3 HS2
            go_wp2_with (with_reducible refine wpList_store_blk rfl 46 (.tmp 4) (.tmp 55) rfl w.heap.size (Lib.byteCells D) rfl rfl 46 _ hr11 HII.out.1 HII.out.2.1 (byte_one _) ?_)
            intro wC hxC hgC
            have hbC : Below w.heap.size w wC := hbF.grown hgC hbF.size (fun k e => by cases e; omega)
            clear hgC hr11 hbF
            go_wp2_with fail
            try simp only [Exit.inBlock, Exit.then]
            refine bodyPost_ret (results_cell_row rfl _ _ w.heap.size 46 (Lib.byteCells D).toArray (0, 0) _ rfl hxC Tryd.underlying46 rfl HII.out.2.2) rfl ?_
            exact ⟨rfl, hbC⟩
end Go.Proofs.YtefofalobpepcaaDoor
