/-
  Chapter 1: octet.sixes at the basic signs; octet.Basic. Condition: at most 6 * 10^13 bytes.
-/
import Derived.Test.YtonbpekogfaibaaGreatNo
namespace Go.Proofs.YtonbpekogfaibaaGreat.Oc
open Go.RowKit
set_option linter.unusedVariables false

set_option maxRecDepth 20000 in
set_option maxHeartbeats 4000000 in
theorem sixes_any (v : Value) (b : By) (w : World) (h : Rd w 1 v b.length (Lib.byteCells b)) (hl : b.length ≤ 60000000000000) :
    Calls Tryz.prog 50 #[.string ⟨basT.toArray⟩, v] w fun e w' => ∃ v', e = .returned v' ∧ w'.ownsRow w.heap.size 5 1 v' (sixF b).length (Lib.byteCells (sixF b)) ∧ Below w.heap.size w w' := by
  obtain ⟨ba, bc, rfl⟩ := h.slice
  obtain ⟨i0, hi, hz0, hz1, hz2⟩ := info_p u8_row
  have HR := Lib.hid h
  obtain ⟨tb, htb⟩ : ∃ tb, tb = (⟨basT.toArray⟩ : ByteArray) := ⟨_, rfl⟩
  rw [← htb]
  clear h
  go_enter Tryz.func50, Tryz.ntmps50
  go_wp2_with fail
  go_loopw [5, 6, 7, 12] (fun s h bt i wr => ∃ (k y : Nat), k ≤ b.length ∧ i = .int .i64 k ∧ y = (six b k).2 ∧ h = .int .i64 y ∧ bt = .int .i64 ((2 * (k % 3) : Nat) : Int) ∧ wr.ownsRow w.heap.size 5 1 s (six b k).1.length (Lib.byteCells (six b k).1) ∧ Below w.heap.size w wr) (fun _ _ _ i _ => b.length - (intOf i).toNat)
  case atStart => exact ⟨0, 0, by omega, rfl, rfl, rfl, rfl, ⟨by simp [six, Lib.byteCells], .inl ⟨rfl, rfl⟩⟩, Below.refl _ _⟩
  case round =>
    obtain ⟨k, y, hk, rfl, hy, rfl, rfl, ho, hb⟩ := hrel
    by_cases hlt : k < b.length
    case pos =>
      have hv := HR.out.below hb
      obtain ⟨pb, po, pc, e1, hpc, hcs⟩ := hv.pos (by omega)
      cases e1
      obtain ⟨x, hx⟩ : ∃ x, x = b.getD k 0 := ⟨_, rfl⟩
      have hcell := hcs k (.int .u8 (x.toNat : Int)) (by unfold Lib.byteCells; rw [List.getElem?_map, List.getElem?_eq_getElem hlt, hx, List.getD_eq_getElem?_getD, List.getElem?_eq_getElem hlt]; rfl)
      have k0 : (k : Int) < (b.length : Int) := by omega
      have hxl : x.toNat < 256 := x.toNat_lt
      obtain ⟨sa, sc, hsl⟩ := (Rd.of_own ho).slice
      subst hsl
      have hh := six_held b k
      have HQL : Hid ((six b k).1.length ≤ 120000000000000) := Lib.hid (Nat.le_trans (six_len b k) (by omega))
      have hS : six b (k + 1) = _ := six.eq_2 b k
      rw [← hx, ← hy] at hS
      rw [← hy] at hh
      obtain ⟨q, hq⟩ : ∃ q, q = (six b k).1 := ⟨_, rfl⟩
      rw [← hq] at hS ho HQL ⊢
      have h3c : k % 3 = 0 ∨ k % 3 = 1 ∨ k % 3 = 2 := by omega
      clear hv hcs hq hy hx
      rcases h3c with h3c | h3c | h3c
      case inl =>
        have hyl : y < 1 := by have := hh.1 h3c; omega
        rw [if_pos h3c] at hS
        have hb0 : ((2 * (k % 3) : Nat) : Int) = 0 := by omega
        rw [hb0]
        obtain ⟨v, hv⟩ : ∃ v, v = y * 256 + x.toNat := ⟨_, rfl⟩
        rw [← hv] at hS
        have hvl : v < 256 := by omega
        have e0 : bits .or .i64 ((y : Int) * 256) (x.toNat : Int) = (v : Int) := by rw [hv]; exact or_in y x.toNat (by omega) hxl
        obtain ⟨u, hu⟩ : ∃ u, u = v / 4 := ⟨_, rfl⟩
        obtain ⟨r, hr⟩ : ∃ r, r = v % 4 := ⟨_, rfl⟩
        have e1 : (v : Int) / 4 = (u : Int) := by rw [hu]; exact (Int.natCast_ediv v 4).symm
        have e2 := ixw u (by rw [hu]; omega)
        have e3 : bits .and .i64 (v : Int) 3 = (r : Int) := by rw [hr]; exact and_3 v hvl
        rw [← htb] at e2
        have hrl : r < 4 := by rw [hr]; exact Nat.mod_lt _ (by decide)
        rw [← hu, ← hr] at hS
        have HS := Lib.hid hS
        have HIX := Lib.hid e2
        have hyl2 : y < 16 := by omega
        have hul : u < 64 := by rw [hu]; omega
        clear hS hh hb0 hyl hu hr hv htb HIX
        go_wp2_with fail
        go_step3
        go_wp2_with fail
        go_step3
        go_wp2_with fail
        refine wp_loop_rounds 2 ?_
        rw [rounds_succ]
        have hba1 : w.heap.size ≤ (wr.alloc (.cells #[.int .u8 ((sg u).toNat : Int)] 5)).heap.size := by rw [World.size_alloc]; exact Nat.le_succ_of_le hb.size
        go_wp2_with (at_builtin; go_loud (refine wpList_app rfl (.tmp 27) (.tmp 33) 62 rfl 5 w.heap.size i0 (.int .u8 0) 1 1 Tryz.underlying62 hi hz0 hz1 hz2 rfl (by decide) _ _ _ rfl (ho.alloc _) (.slice (some ⟨wr.heap.size, 0, none⟩) 1 1) 1 (Lib.byteCells [sg u]) rfl (rd_oneb wr _) (byte_one _) (by have := HQL.out; unfold maxLen; omega) (by have := HQL.out; omega) hba1 ?_))
        rintro v1 w1 o1 hg1 -
        have hb1 : Below w.heap.size w w1 := below_app hb hb.size hg1 (fun j e => (ho.lt j e).1)
        have o1c := own_cast (m := (q ++ [sg u]).length) (ys := Lib.byteCells (q ++ [sg u])) o1 (by rw [List.length_append, List.length_singleton]) (by rw [bc_append])
        obtain ⟨q1, hq1⟩ : ∃ z, z = q ++ [sg u] := ⟨_, rfl⟩
        rw [← hq1] at o1c
        have HQ1 := Lib.hid hq1
        have HQ1L : Hid (q1.length ≤ 120000000000000 + 1) := Lib.hid (by have := HQL.out; rw [hq1, List.length_append, List.length_singleton]; omega)
        obtain ⟨sa1, sc1, hsl1⟩ := (Rd.of_own o1c).slice
        subst hsl1
        clear o1 hg1 hba1 hq1
        go_wp2_with fail
        rw [rounds_succ]
        go_wp2_with fail
        apply_assumption
        go_wp2_with fail
        go_roundw
        case rel => exact ⟨k + 1, r, by omega, by go_num, by rw [HS.out], rfl, by rw [show (2 * ((k + 1) % 3) : Nat) = 2 by omega]; rfl, own_cast o1c (by rw [HS.out, HQ1.out]; try simp) (by rw [HS.out, HQ1.out]; try simp), hb1⟩
        case measure => simp [intOf]; omega
      case inr.inl =>
        have hyl : y < 4 := by have := hh.2.1 h3c; omega
        rw [if_neg (by omega), if_pos h3c] at hS
        have hb0 : ((2 * (k % 3) : Nat) : Int) = 2 := by omega
        rw [hb0]
        obtain ⟨v, hv⟩ : ∃ v, v = y * 256 + x.toNat := ⟨_, rfl⟩
        rw [← hv] at hS
        have hvl : v < 1024 := by omega
        have e0 : bits .or .i64 ((y : Int) * 256) (x.toNat : Int) = (v : Int) := by rw [hv]; exact or_in y x.toNat (by omega) hxl
        obtain ⟨u, hu⟩ : ∃ u, u = v / 16 := ⟨_, rfl⟩
        obtain ⟨r, hr⟩ : ∃ r, r = v % 16 := ⟨_, rfl⟩
        have e1 : (v : Int) / 16 = (u : Int) := by rw [hu]; exact (Int.natCast_ediv v 16).symm
        have e2 := ixw u (by rw [hu]; omega)
        have e3 : bits .and .i64 (v : Int) 15 = (r : Int) := by rw [hr]; exact and_15 v hvl
        rw [← htb] at e2
        have hrl : r < 16 := by rw [hr]; exact Nat.mod_lt _ (by decide)
        rw [← hu, ← hr] at hS
        have HS := Lib.hid hS
        have HIX := Lib.hid e2
        have hyl2 : y < 16 := by omega
        have hul : u < 64 := by rw [hu]; omega
        clear hS hh hb0 hyl hu hr hv htb HIX
        go_wp2_with fail
        go_step3
        go_wp2_with fail
        go_step3
        go_wp2_with fail
        refine wp_loop_rounds 2 ?_
        rw [rounds_succ]
        have hba1 : w.heap.size ≤ (wr.alloc (.cells #[.int .u8 ((sg u).toNat : Int)] 5)).heap.size := by rw [World.size_alloc]; exact Nat.le_succ_of_le hb.size
        go_wp2_with (at_builtin; go_loud (refine wpList_app rfl (.tmp 27) (.tmp 33) 62 rfl 5 w.heap.size i0 (.int .u8 0) 1 1 Tryz.underlying62 hi hz0 hz1 hz2 rfl (by decide) _ _ _ rfl (ho.alloc _) (.slice (some ⟨wr.heap.size, 0, none⟩) 1 1) 1 (Lib.byteCells [sg u]) rfl (rd_oneb wr _) (byte_one _) (by have := HQL.out; unfold maxLen; omega) (by have := HQL.out; omega) hba1 ?_))
        rintro v1 w1 o1 hg1 -
        have hb1 : Below w.heap.size w w1 := below_app hb hb.size hg1 (fun j e => (ho.lt j e).1)
        have o1c := own_cast (m := (q ++ [sg u]).length) (ys := Lib.byteCells (q ++ [sg u])) o1 (by rw [List.length_append, List.length_singleton]) (by rw [bc_append])
        obtain ⟨q1, hq1⟩ : ∃ z, z = q ++ [sg u] := ⟨_, rfl⟩
        rw [← hq1] at o1c
        have HQ1 := Lib.hid hq1
        have HQ1L : Hid (q1.length ≤ 120000000000000 + 1) := Lib.hid (by have := HQL.out; rw [hq1, List.length_append, List.length_singleton]; omega)
        obtain ⟨sa1, sc1, hsl1⟩ := (Rd.of_own o1c).slice
        subst hsl1
        clear o1 hg1 hba1 hq1
        go_wp2_with fail
        rw [rounds_succ]
        go_wp2_with fail
        apply_assumption
        go_wp2_with fail
        go_roundw
        case rel => exact ⟨k + 1, r, by omega, by go_num, by rw [HS.out], rfl, by rw [show (2 * ((k + 1) % 3) : Nat) = 4 by omega]; rfl, own_cast o1c (by rw [HS.out, HQ1.out]; try simp) (by rw [HS.out, HQ1.out]; try simp), hb1⟩
        case measure => simp [intOf]; omega
      case inr.inr =>
        have hyl : y < 16 := by have := hh.2.2 h3c; omega
        rw [if_neg (by omega), if_neg (by omega)] at hS
        have hb0 : ((2 * (k % 3) : Nat) : Int) = 4 := by omega
        rw [hb0]
        obtain ⟨v, hv⟩ : ∃ v, v = y * 256 + x.toNat := ⟨_, rfl⟩
        rw [← hv] at hS
        have hvl : v < 4096 := by omega
        have e0 : bits .or .i64 ((y : Int) * 256) (x.toNat : Int) = (v : Int) := by rw [hv]; exact or_in y x.toNat (by omega) hxl
        obtain ⟨u, hu⟩ : ∃ u, u = v / 64 := ⟨_, rfl⟩
        obtain ⟨r, hr⟩ : ∃ r, r = v % 64 := ⟨_, rfl⟩
        have e1 : (v : Int) / 64 = (u : Int) := by rw [hu]; exact (Int.natCast_ediv v 64).symm
        have e2 := ixw u (by rw [hu]; omega)
        have e3 : bits .and .i64 (v : Int) 63 = (r : Int) := by rw [hr]; exact and_63 v hvl
        rw [← htb] at e2
        have hrl : r < 64 := by rw [hr]; exact Nat.mod_lt _ (by decide)
        rw [← hu, ← hr] at hS
        have HS := Lib.hid hS
        have HIX := Lib.hid e2
        have hyl2 : y < 16 := by omega
        have hul : u < 64 := by rw [hu]; omega
        have e4 := ixw r (by omega)
        rw [← htb] at e4
        have e5 := and_0 r (by omega)
        clear hS hh hb0 hyl hu hr hv htb HIX
        go_wp2_with fail
        go_step3
        go_wp2_with fail
        go_step3
        go_wp2_with fail
        refine wp_loop_rounds 3 ?_
        rw [rounds_succ]
        have hba1 : w.heap.size ≤ (wr.alloc (.cells #[.int .u8 ((sg u).toNat : Int)] 5)).heap.size := by rw [World.size_alloc]; exact Nat.le_succ_of_le hb.size
        go_wp2_with (at_builtin; go_loud (refine wpList_app rfl (.tmp 27) (.tmp 33) 62 rfl 5 w.heap.size i0 (.int .u8 0) 1 1 Tryz.underlying62 hi hz0 hz1 hz2 rfl (by decide) _ _ _ rfl (ho.alloc _) (.slice (some ⟨wr.heap.size, 0, none⟩) 1 1) 1 (Lib.byteCells [sg u]) rfl (rd_oneb wr _) (byte_one _) (by have := HQL.out; unfold maxLen; omega) (by have := HQL.out; omega) hba1 ?_))
        rintro v1 w1 o1 hg1 -
        have hb1 : Below w.heap.size w w1 := below_app hb hb.size hg1 (fun j e => (ho.lt j e).1)
        have o1c := own_cast (m := (q ++ [sg u]).length) (ys := Lib.byteCells (q ++ [sg u])) o1 (by rw [List.length_append, List.length_singleton]) (by rw [bc_append])
        obtain ⟨q1, hq1⟩ : ∃ z, z = q ++ [sg u] := ⟨_, rfl⟩
        rw [← hq1] at o1c
        have HQ1 := Lib.hid hq1
        have HQ1L : Hid (q1.length ≤ 120000000000000 + 1) := Lib.hid (by have := HQL.out; rw [hq1, List.length_append, List.length_singleton]; omega)
        obtain ⟨sa1, sc1, hsl1⟩ := (Rd.of_own o1c).slice
        subst hsl1
        clear o1 hg1 hba1 hq1
        go_wp2_with fail
        rw [rounds_succ]
        have hba2 : w.heap.size ≤ (w1.alloc (.cells #[.int .u8 ((sg r).toNat : Int)] 5)).heap.size := by rw [World.size_alloc]; exact Nat.le_succ_of_le hb1.size
        go_wp2_with (at_builtin; go_loud (refine wpList_app rfl (.tmp 27) (.tmp 33) 62 rfl 5 w.heap.size i0 (.int .u8 0) 1 1 Tryz.underlying62 hi hz0 hz1 hz2 rfl (by decide) _ _ _ rfl (o1c.alloc _) (.slice (some ⟨w1.heap.size, 0, none⟩) 1 1) 1 (Lib.byteCells [sg r]) rfl (rd_oneb w1 _) (byte_one _) (by have := HQ1L.out; unfold maxLen; omega) (by have := HQ1L.out; omega) hba2 ?_))
        rintro v2 w2 o2 hg2 -
        have hb2 : Below w.heap.size w w2 := below_app hb1 hb1.size hg2 (fun j e => (o1c.lt j e).1)
        have o2c := own_cast (m := (q1 ++ [sg r]).length) (ys := Lib.byteCells (q1 ++ [sg r])) o2 (by rw [List.length_append, List.length_singleton]) (by rw [bc_append])
        obtain ⟨q2, hq2⟩ : ∃ z, z = q1 ++ [sg r] := ⟨_, rfl⟩
        rw [← hq2] at o2c
        have HQ2 := Lib.hid hq2
        have HQ2L : Hid (q2.length ≤ 120000000000000 + 2) := Lib.hid (by have := HQ1L.out; rw [hq2, List.length_append, List.length_singleton]; omega)
        obtain ⟨sa2, sc2, hsl2⟩ := (Rd.of_own o2c).slice
        subst hsl2
        clear o2 hg2 hba2 hq2
        go_wp2_with fail
        rw [rounds_succ]
        go_wp2_with fail
        apply_assumption
        go_wp2_with fail
        go_roundw
        case rel => exact ⟨k + 1, 0, by omega, by go_num, by rw [HS.out], rfl, by rw [show (2 * ((k + 1) % 3) : Nat) = 0 by omega]; rfl, own_cast o2c (by rw [HS.out, HQ2.out, HQ1.out]; try simp) (by rw [HS.out, HQ2.out, HQ1.out]; try simp), hb2⟩
        case measure => simp [intOf]; omega
    case neg =>
      have hke : k = b.length := by omega
      have hh := six_held b k
      rw [← hy] at hh
      have hL3 : b.length % 3 = 0 ∨ b.length % 3 = 1 ∨ b.length % 3 = 2 := by omega
      rcases hL3 with hL | hL | hL
      case inl =>
        have hb0 : ((2 * (k % 3) : Nat) : Int) = 0 := by rw [hke, hL]; rfl
        rw [hb0]
        have HF : Hid (sixF b = (six b k).1) := Lib.hid (by unfold sixF; rw [if_pos hL, hke])
        have k0 : ¬ (k : Int) < (b.length : Int) := by omega
        obtain ⟨sa, sc, hsl⟩ := (Rd.of_own ho).slice
        subst hsl
        have HO := Lib.hid ho
        obtain ⟨q, hq⟩ : ∃ q, q = (six b k).1 := ⟨_, rfl⟩
        rw [← hq] at HF HO ho ⊢
        obtain ⟨bl, hbl⟩ : ∃ bl, bl = b.length := ⟨_, rfl⟩
        rw [← hbl] at k0 ⊢
        clear hh hy hb0 hke hL hq hk hbl htb hl ho
        go_wp2_with fail
        go_ret
        exact ⟨_, rfl, by rw [HF.out]; exact HO.out, hb⟩
      case inr.inl =>
        have hyl : y < 4 := by have := hh.2.1 (by rw [hke]; exact hL); omega
        have hF : sixF b = (six b k).1 ++ [sg (y * 16)] := by unfold sixF; rw [if_neg (by omega), if_pos hL, ← hke, hy]
        have hb0 : ((2 * (k % 3) : Nat) : Int) = 2 := by rw [hke, hL]; rfl
        rw [hb0]
        have e2 := ixw (y * 16) (by omega)
        rw [← htb] at e2
        have HF := Lib.hid hF
        have HQL : Hid ((six b k).1.length ≤ 120000000000000) := Lib.hid (Nat.le_trans (six_len b k) (by omega))
        have k0 : ¬ (k : Int) < (b.length : Int) := by omega
        obtain ⟨sa, sc, hsl⟩ := (Rd.of_own ho).slice
        subst hsl
        have HO := Lib.hid ho
        obtain ⟨q, hq⟩ : ∃ q, q = (six b k).1 := ⟨_, rfl⟩
        rw [← hq] at HF HO HQL ho ⊢
        obtain ⟨bl, hbl⟩ : ∃ bl, bl = b.length := ⟨_, rfl⟩
        obtain ⟨u, hu⟩ : ∃ u, u = y * 16 := ⟨_, rfl⟩
        have e3 : (y : Int) * 16 = (u : Int) := by rw [hu]; omega
        rw [← hu] at e2 HF
        rw [← hbl] at k0 ⊢
        have hba1 : w.heap.size ≤ (wr.alloc (.cells #[.int .u8 ((sg u).toNat : Int)] 5)).heap.size := by rw [World.size_alloc]; exact Nat.le_succ_of_le hb.size
        clear hF hh hy hb0 hke hL hq hk hu hbl htb hl
        go_wp2_with (at_builtin; go_loud (refine wpList_app rfl _ _ 62 rfl 5 w.heap.size i0 (.int .u8 0) 1 1 Tryz.underlying62 hi hz0 hz1 hz2 rfl (by decide) _ _ _ rfl (ho.alloc _) (.slice (some ⟨wr.heap.size, 0, none⟩) 1 1) 1 (Lib.byteCells [sg u]) rfl (rd_oneb wr _) (byte_one _) (by have := HQL.out; unfold maxLen; omega) (by have := HQL.out; omega) hba1 ?_))
        rintro v1 w1 o1 hg1 -
        have hb1 : Below w.heap.size w w1 := below_app hb hb.size hg1 (fun j e => (HO.out.lt j e).1)
        have o1c := own_cast (m := (sixF b).length) (ys := Lib.byteCells (sixF b)) o1 (by rw [HF.out, List.length_append, List.length_singleton]) (by rw [HF.out, bc_append])
        have HE := Lib.hid (And.intro o1c hb1)
        clear o1 hg1 o1c hb1 hba1
        go_wp2_with fail
        go_ret
        exact ⟨_, rfl, HE.out.1, HE.out.2⟩
      case inr.inr =>
        have hyl : y < 16 := by have := hh.2.2 (by rw [hke]; exact hL); omega
        have hF : sixF b = (six b k).1 ++ [sg (y * 4)] := by unfold sixF; rw [if_neg (by omega), if_neg (by omega), ← hke, hy]
        have hb0 : ((2 * (k % 3) : Nat) : Int) = 4 := by rw [hke, hL]; rfl
        rw [hb0]
        have e2 := ixw (y * 4) (by omega)
        rw [← htb] at e2
        have HF := Lib.hid hF
        have HQL : Hid ((six b k).1.length ≤ 120000000000000) := Lib.hid (Nat.le_trans (six_len b k) (by omega))
        have k0 : ¬ (k : Int) < (b.length : Int) := by omega
        obtain ⟨sa, sc, hsl⟩ := (Rd.of_own ho).slice
        subst hsl
        have HO := Lib.hid ho
        obtain ⟨q, hq⟩ : ∃ q, q = (six b k).1 := ⟨_, rfl⟩
        rw [← hq] at HF HO HQL ho ⊢
        obtain ⟨bl, hbl⟩ : ∃ bl, bl = b.length := ⟨_, rfl⟩
        obtain ⟨u, hu⟩ : ∃ u, u = y * 4 := ⟨_, rfl⟩
        have e3 : (y : Int) * 4 = (u : Int) := by rw [hu]; omega
        rw [← hu] at e2 HF
        rw [← hbl] at k0 ⊢
        have hba1 : w.heap.size ≤ (wr.alloc (.cells #[.int .u8 ((sg u).toNat : Int)] 5)).heap.size := by rw [World.size_alloc]; exact Nat.le_succ_of_le hb.size
        clear hF hh hy hb0 hke hL hq hk hu hbl htb hl
        go_wp2_with (at_builtin; go_loud (refine wpList_app rfl _ _ 62 rfl 5 w.heap.size i0 (.int .u8 0) 1 1 Tryz.underlying62 hi hz0 hz1 hz2 rfl (by decide) _ _ _ rfl (ho.alloc _) (.slice (some ⟨wr.heap.size, 0, none⟩) 1 1) 1 (Lib.byteCells [sg u]) rfl (rd_oneb wr _) (byte_one _) (by have := HQL.out; unfold maxLen; omega) (by have := HQL.out; omega) hba1 ?_))
        rintro v1 w1 o1 hg1 -
        have hb1 : Below w.heap.size w w1 := below_app hb hb.size hg1 (fun j e => (HO.out.lt j e).1)
        have o1c := own_cast (m := (sixF b).length) (ys := Lib.byteCells (sixF b)) o1 (by rw [HF.out, List.length_append, List.length_singleton]) (by rw [HF.out, bc_append])
        have HE := Lib.hid (And.intro o1c hb1)
        clear o1 hg1 o1c hb1 hba1
        go_wp2_with fail
        go_ret
        exact ⟨_, rfl, HE.out.1, HE.out.2⟩
end Go.Proofs.YtonbpekogfaibaaGreat.Oc
