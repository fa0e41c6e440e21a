/-
  Chapter 1: bytes by the web's signs: octet.sixes, octet.Web.
-/
import Derived.Test.YtefofalobpepcaaDoorEb
namespace Go.Proofs.YtefofalobpepcaaDoor.Se
open Go.RowKit
set_option linter.unusedVariables false

set_option maxRecDepth 20000 in
set_option maxHeartbeats 4000000 in
theorem sixes_any (v : Value) (b : By) (w : World) (h : Rd w 1 v b.length (Lib.byteCells b)) (h3 : b.length % 3 = 0) (hl : b.length ≤ 1000000) :
    Calls Tryd.prog 43 #[.string ⟨webT.toArray⟩, v] w fun e w' => ∃ v', e = .returned v' ∧ w'.ownsRow w.heap.size 5 1 v' (web b).length (Lib.byteCells (web b)) ∧ Below w.heap.size w w' := by
  obtain ⟨ba, bc, rfl⟩ := h.slice
  obtain ⟨i0, hi, hz0, hz1, hz2⟩ := info_p u8_row
  have HR := Lib.hid h
  obtain ⟨tb, htb⟩ : ∃ tb, tb = (⟨webT.toArray⟩ : ByteArray) := ⟨_, rfl⟩
  rw [← htb]
  clear h
  go_enter Tryd.func43, Tryd.ntmps43
  go_wp2_with fail
  go_loopw [5, 6, 7, 12] (fun s h bt i wr => ∃ (k y : Nat), k ≤ b.length ∧ i = .int .i64 k ∧ y = (six b k).2 ∧ h = .int .i64 y ∧ bt = .int .i64 ((2 * (k % 3) : Nat) : Int) ∧ wr.ownsRow w.heap.size 5 1 s (six b k).1.length (Lib.byteCells (six b k).1) ∧ Below w.heap.size w wr) (fun _ _ _ i _ => b.length - (intOf i).toNat)
  case atStart => exact ⟨0, 0, by omega, rfl, rfl, rfl, rfl, ⟨by simp [six, Lib.byteCells], .inl ⟨rfl, rfl⟩⟩, Below.refl _ _⟩
  case round =>
    obtain ⟨k, y, hk, rfl, hy, rfl, rfl, ho, hb⟩ := hrel
    by_cases hlt : k < b.length
    case pos =>
      have hv := HR.out.below hb
      obtain ⟨pb, po, pc, e1, hpc, hcs⟩ := hv.pos (by omega)
      cases e1
      obtain ⟨x, hx⟩ : ∃ x, x = b.getD k 0 := ⟨_, rfl⟩
      have hcell := hcs k (.int .u8 (x.toNat : Int)) (by unfold Lib.byteCells; rw [List.getElem?_map, List.getElem?_eq_getElem hlt, hx, List.getD_eq_getElem?_getD, List.getElem?_eq_getElem hlt]; rfl)
      have k0 : (k : Int) < (b.length : Int) := by omega
      have hxl : x.toNat < 256 := x.toNat_lt
      obtain ⟨sa, sc, hsl⟩ := (Rd.of_own ho).slice
      subst hsl
      have hh := six_held b k
      have HQL : Hid ((six b k).1.length ≤ 2000000) := Lib.hid (Nat.le_trans (six_len b k) (by omega))
      have hS : six b (k + 1) = _ := six.eq_2 b k
      rw [← hx, ← hy] at hS
      rw [← hy] at hh
      obtain ⟨q, hq⟩ : ∃ q, q = (six b k).1 := ⟨_, rfl⟩
      rw [← hq] at hS ho HQL ⊢
      have h3c : k % 3 = 0 ∨ k % 3 = 1 ∨ k % 3 = 2 := by omega
      clear hv hcs hq hy h3 hx
      rcases h3c with h3c | h3c | h3c
      case inl =>
        have hyl : y < 1 := by have := hh.1 h3c; omega
        rw [if_pos h3c] at hS
        have hb0 : ((2 * (k % 3) : Nat) : Int) = 0 := by omega
        rw [hb0]
        obtain ⟨v, hv⟩ : ∃ v, v = y * 256 + x.toNat := ⟨_, rfl⟩
        rw [← hv] at hS
        have hvl : v < 256 := by omega
        have e0 : bits .or .i64 ((y : Int) * 256) (x.toNat : Int) = (v : Int) := by rw [hv]; exact or_in y x.toNat (by omega) hxl
        obtain ⟨u, hu⟩ : ∃ u, u = v / 4 := ⟨_, rfl⟩
        obtain ⟨r, hr⟩ : ∃ r, r = v % 4 := ⟨_, rfl⟩
        have e1 : (v : Int) / 4 = (u : Int) := by rw [hu]; exact (Int.natCast_ediv v 4).symm
        have e2 := ixw u (by rw [hu]; omega)
        have e3 : bits .and .i64 (v : Int) 3 = (r : Int) := by rw [hr]; exact and_3 v hvl
        rw [← htb] at e2
        have hrl : r < 4 := by rw [hr]; exact Nat.mod_lt _ (by decide)
        rw [← hu, ← hr] at hS
        have HS := Lib.hid hS
        have HIX := Lib.hid e2
        have hyl2 : y < 16 := by omega
        have hul : u < 64 := by rw [hu]; omega
        clear hS hh hb0 hyl hu hr hv htb HIX
        go_wp2_with fail
        go_step3
        go_wp2_with fail
        go_step3
        go_wp2_with fail
        refine wp_loop_rounds 2 ?_
        rw [rounds_succ]
        have hba1 : w.heap.size ≤ (wr.alloc (.cells #[.int .u8 ((sg u).toNat : Int)] 5)).heap.size := by rw [World.size_alloc]; exact Nat.le_succ_of_le hb.size
        go_wp2_with (at_builtin; go_loud (refine wpList_app rfl (.tmp 27) (.tmp 33) 22 rfl 5 w.heap.size i0 (.int .u8 0) 1 1 Tryd.underlying22 hi hz0 hz1 hz2 rfl (by decide) _ _ _ rfl (ho.alloc _) (.slice (some ⟨wr.heap.size, 0, none⟩) 1 1) 1 (Lib.byteCells [sg u]) rfl (rd_oneb wr _) (byte_one _) (by have := HQL.out; unfold maxLen; omega) (by have := HQL.out; omega) hba1 ?_))
        rintro v1 w1 o1 hg1 -
        have hb1 : Below w.heap.size w w1 := below_app hb hb.size hg1 (fun j e => (ho.lt j e).1)
        have o1c := own_cast (m := (q ++ [sg u]).length) (ys := Lib.byteCells (q ++ [sg u])) o1 (by rw [List.length_append, List.length_singleton]) (by rw [bc_append])
        obtain ⟨q1, hq1⟩ : ∃ z, z = q ++ [sg u] := ⟨_, rfl⟩
        rw [← hq1] at o1c
        have HQ1 := Lib.hid hq1
        have HQ1L : Hid (q1.length ≤ 2000000 + 1) := Lib.hid (by have := HQL.out; rw [hq1, List.length_append, List.length_singleton]; omega)
        obtain ⟨sa1, sc1, hsl1⟩ := (Rd.of_own o1c).slice
        subst hsl1
        clear o1 hg1 hba1 hq1
        go_wp2_with fail
        rw [rounds_succ]
        go_wp2_with fail
        apply_assumption
        go_wp2_with fail
        go_roundw
        case rel => exact ⟨k + 1, r, by omega, by go_num, by rw [HS.out], rfl, by rw [show (2 * ((k + 1) % 3) : Nat) = 2 by omega]; rfl, own_cast o1c (by rw [HS.out, HQ1.out]; try simp) (by rw [HS.out, HQ1.out]; try simp), hb1⟩
        case measure => simp [intOf]; omega
      case inr.inl =>
        have hyl : y < 4 := by have := hh.2.1 h3c; omega
        rw [if_neg (by omega), if_pos h3c] at hS
        have hb0 : ((2 * (k % 3) : Nat) : Int) = 2 := by omega
        rw [hb0]
        obtain ⟨v, hv⟩ : ∃ v, v = y * 256 + x.toNat := ⟨_, rfl⟩
        rw [← hv] at hS
        have hvl : v < 1024 := by omega
        have e0 : bits .or .i64 ((y : Int) * 256) (x.toNat : Int) = (v : Int) := by rw [hv]; exact or_in y x.toNat (by omega) hxl
        obtain ⟨u, hu⟩ : ∃ u, u = v / 16 := ⟨_, rfl⟩
        obtain ⟨r, hr⟩ : ∃ r, r = v % 16 := ⟨_, rfl⟩
        have e1 : (v : Int) / 16 = (u : Int) := by rw [hu]; exact (Int.natCast_ediv v 16).symm
        have e2 := ixw u (by rw [hu]; omega)
        have e3 : bits .and .i64 (v : Int) 15 = (r : Int) := by rw [hr]; exact and_15 v hvl
        rw [← htb] at e2
        have hrl : r < 16 := by rw [hr]; exact Nat.mod_lt _ (by decide)
        rw [← hu, ← hr] at hS
        have HS := Lib.hid hS
        have HIX := Lib.hid e2
        have hyl2 : y < 16 := by omega
        have hul : u < 64 := by rw [hu]; omega
        clear hS hh hb0 hyl hu hr hv htb HIX
        go_wp2_with fail
        go_step3
        go_wp2_with fail
        go_step3
        go_wp2_with fail
        refine wp_loop_rounds 2 ?_
        rw [rounds_succ]
        have hba1 : w.heap.size ≤ (wr.alloc (.cells #[.int .u8 ((sg u).toNat : Int)] 5)).heap.size := by rw [World.size_alloc]; exact Nat.le_succ_of_le hb.size
        go_wp2_with (at_builtin; go_loud (refine wpList_app rfl (.tmp 27) (.tmp 33) 22 rfl 5 w.heap.size i0 (.int .u8 0) 1 1 Tryd.underlying22 hi hz0 hz1 hz2 rfl (by decide) _ _ _ rfl (ho.alloc _) (.slice (some ⟨wr.heap.size, 0, none⟩) 1 1) 1 (Lib.byteCells [sg u]) rfl (rd_oneb wr _) (byte_one _) (by have := HQL.out; unfold maxLen; omega) (by have := HQL.out; omega) hba1 ?_))
        rintro v1 w1 o1 hg1 -
        have hb1 : Below w.heap.size w w1 := below_app hb hb.size hg1 (fun j e => (ho.lt j e).1)
        have o1c := own_cast (m := (q ++ [sg u]).length) (ys := Lib.byteCells (q ++ [sg u])) o1 (by rw [List.length_append, List.length_singleton]) (by rw [bc_append])
        obtain ⟨q1, hq1⟩ : ∃ z, z = q ++ [sg u] := ⟨_, rfl⟩
        rw [← hq1] at o1c
        have HQ1 := Lib.hid hq1
        have HQ1L : Hid (q1.length ≤ 2000000 + 1) := Lib.hid (by have := HQL.out; rw [hq1, List.length_append, List.length_singleton]; omega)
        obtain ⟨sa1, sc1, hsl1⟩ := (Rd.of_own o1c).slice
        subst hsl1
        clear o1 hg1 hba1 hq1
        go_wp2_with fail
        rw [rounds_succ]
        go_wp2_with fail
        apply_assumption
        go_wp2_with fail
        go_roundw
        case rel => exact ⟨k + 1, r, by omega, by go_num, by rw [HS.out], rfl, by rw [show (2 * ((k + 1) % 3) : Nat) = 4 by omega]; rfl, own_cast o1c (by rw [HS.out, HQ1.out]; try simp) (by rw [HS.out, HQ1.out]; try simp), hb1⟩
        case measure => simp [intOf]; omega
      case inr.inr =>
        have hyl : y < 16 := by have := hh.2.2 h3c; omega
        rw [if_neg (by omega), if_neg (by omega)] at hS
        have hb0 : ((2 * (k % 3) : Nat) : Int) = 4 := by omega
        rw [hb0]
        obtain ⟨v, hv⟩ : ∃ v, v = y * 256 + x.toNat := ⟨_, rfl⟩
        rw [← hv] at hS
        have hvl : v < 4096 := by omega
        have e0 : bits .or .i64 ((y : Int) * 256) (x.toNat : Int) = (v : Int) := by rw [hv]; exact or_in y x.toNat (by omega) hxl
        obtain ⟨u, hu⟩ : ∃ u, u = v / 64 := ⟨_, rfl⟩
        obtain ⟨r, hr⟩ : ∃ r, r = v % 64 := ⟨_, rfl⟩
        have e1 : (v : Int) / 64 = (u : Int) := by rw [hu]; exact (Int.natCast_ediv v 64).symm
        have e2 := ixw u (by rw [hu]; omega)
        have e3 : bits .and .i64 (v : Int) 63 = (r : Int) := by rw [hr]; exact and_63 v hvl
        rw [← htb] at e2
        have hrl : r < 64 := by rw [hr]; exact Nat.mod_lt _ (by decide)
        rw [← hu, ← hr] at hS
        have HS := Lib.hid hS
        have HIX := Lib.hid e2
        have hyl2 : y < 16 := by omega
        have hul : u < 64 := by rw [hu]; omega
        have e4 := ixw r (by omega)
        rw [← htb] at e4
        have e5 := and_0 r (by omega)
        clear hS hh hb0 hyl hu hr hv htb HIX
        go_wp2_with fail
        go_step3
        go_wp2_with fail
        go_step3
        go_wp2_with fail
        refine wp_loop_rounds 3 ?_
        rw [rounds_succ]
        have hba1 : w.heap.size ≤ (wr.alloc (.cells #[.int .u8 ((sg u).toNat : Int)] 5)).heap.size := by rw [World.size_alloc]; exact Nat.le_succ_of_le hb.size
        go_wp2_with (at_builtin; go_loud (refine wpList_app rfl (.tmp 27) (.tmp 33) 22 rfl 5 w.heap.size i0 (.int .u8 0) 1 1 Tryd.underlying22 hi hz0 hz1 hz2 rfl (by decide) _ _ _ rfl (ho.alloc _) (.slice (some ⟨wr.heap.size, 0, none⟩) 1 1) 1 (Lib.byteCells [sg u]) rfl (rd_oneb wr _) (byte_one _) (by have := HQL.out; unfold maxLen; omega) (by have := HQL.out; omega) hba1 ?_))
        rintro v1 w1 o1 hg1 -
        have hb1 : Below w.heap.size w w1 := below_app hb hb.size hg1 (fun j e => (ho.lt j e).1)
        have o1c := own_cast (m := (q ++ [sg u]).length) (ys := Lib.byteCells (q ++ [sg u])) o1 (by rw [List.length_append, List.length_singleton]) (by rw [bc_append])
        obtain ⟨q1, hq1⟩ : ∃ z, z = q ++ [sg u] := ⟨_, rfl⟩
        rw [← hq1] at o1c
        have HQ1 := Lib.hid hq1
        have HQ1L : Hid (q1.length ≤ 2000000 + 1) := Lib.hid (by have := HQL.out; rw [hq1, List.length_append, List.length_singleton]; omega)
        obtain ⟨sa1, sc1, hsl1⟩ := (Rd.of_own o1c).slice
        subst hsl1
        clear o1 hg1 hba1 hq1
        go_wp2_with fail
        rw [rounds_succ]
        have hba2 : w.heap.size ≤ (w1.alloc (.cells #[.int .u8 ((sg r).toNat : Int)] 5)).heap.size := by rw [World.size_alloc]; exact Nat.le_succ_of_le hb1.size
        go_wp2_with (at_builtin; go_loud (refine wpList_app rfl (.tmp 27) (.tmp 33) 22 rfl 5 w.heap.size i0 (.int .u8 0) 1 1 Tryd.underlying22 hi hz0 hz1 hz2 rfl (by decide) _ _ _ rfl (o1c.alloc _) (.slice (some ⟨w1.heap.size, 0, none⟩) 1 1) 1 (Lib.byteCells [sg r]) rfl (rd_oneb w1 _) (byte_one _) (by have := HQ1L.out; unfold maxLen; omega) (by have := HQ1L.out; omega) hba2 ?_))
        rintro v2 w2 o2 hg2 -
        have hb2 : Below w.heap.size w w2 := below_app hb1 hb1.size hg2 (fun j e => (o1c.lt j e).1)
        have o2c := own_cast (m := (q1 ++ [sg r]).length) (ys := Lib.byteCells (q1 ++ [sg r])) o2 (by rw [List.length_append, List.length_singleton]) (by rw [bc_append])
        obtain ⟨q2, hq2⟩ : ∃ z, z = q1 ++ [sg r] := ⟨_, rfl⟩
        rw [← hq2] at o2c
        have HQ2 := Lib.hid hq2
        have HQ2L : Hid (q2.length ≤ 2000000 + 2) := Lib.hid (by have := HQ1L.out; rw [hq2, List.length_append, List.length_singleton]; omega)
        obtain ⟨sa2, sc2, hsl2⟩ := (Rd.of_own o2c).slice
        subst hsl2
        clear o2 hg2 hba2 hq2
        go_wp2_with fail
        rw [rounds_succ]
        go_wp2_with fail
        apply_assumption
        go_wp2_with fail
        go_roundw
        case rel => exact ⟨k + 1, 0, by omega, by go_num, by rw [HS.out], rfl, by rw [show (2 * ((k + 1) % 3) : Nat) = 0 by omega]; rfl, own_cast o2c (by rw [HS.out, HQ2.out, HQ1.out]; try simp) (by rw [HS.out, HQ2.out, HQ1.out]; try simp), hb2⟩
        case measure => simp [intOf]; omega
    case neg =>
      have hke : k = b.length := by omega
      have hb0 : ((2 * (k % 3) : Nat) : Int) = 0 := by omega
      rw [hb0]
      obtain ⟨sa, sc, hsl⟩ := (Rd.of_own ho).slice
      subst hsl
      have HW : Hid ((six b k).1 = web b) := Lib.hid (by rw [hke]; exact six_all b h3)
      have HO := Lib.hid ho
      obtain ⟨k2, hk2, hk3⟩ : ∃ x, x = k ∧ b.length ≤ x := ⟨k, rfl, by omega⟩
      generalize (six b k).1 = q at HW HO ⊢
      clear hy hb0 h3 hk hke ho htb
      subst hk2
      go_wp2_with fail
      go_ret
      refine ⟨_, rfl, ?_, hb⟩
      rw [← HW.out]; exact HO.out

set_option maxRecDepth 20000 in
theorem conv_own {w : World} {B : Nat} {v : Value} {l : List UInt8} (h : w.ownsRow B 5 1 v l.length (Lib.byteCells l)) : Sem.run Tryd.prog (convert 22 9 v) w = .ok (.string ⟨l.toArray⟩) w := by
  rcases h.2 with ⟨rfl, h0⟩ | ⟨g, cap, cur, rfl, hbg, hg, hnc, hcm, hcs, htake⟩
  · obtain rfl : l = [] := List.eq_nil_of_length_eq_zero h0
    rfl
  · refine run_convert_bytes_back w 22 9 5 ⟨g, 0, none⟩ cap l Tryd.underlying22 Tryd.underlying5 Tryd.underlying9 ?_
    have := h.cells (g := g) rfl
    exact fun j hj => this j _ (by simp [Lib.byteCells, hj])

set_option maxRecDepth 20000 in
set_option maxHeartbeats 2000000 in
theorem web_any (v : Value) (b : By) (w : World) (h : Rd w 1 v b.length (Lib.byteCells b)) (h3 : b.length % 3 = 0) (hl : b.length ≤ 1000000) :
    Calls Tryd.prog 32 #[v] w fun e w' => e = .returned (.string ⟨(web b).toArray⟩) ∧ Below w.heap.size w w' := by
  obtain ⟨ba, bc, rfl⟩ := h.slice
  have hA := sixes_any _ b w h h3 hl
  have ht : (⟨#[65, 66, 67, 68, 69, 70, 71, 72, 73, 74, 75, 76, 77, 78, 79, 80, 81, 82, 83, 84, 85, 86, 87, 88, 89, 90, 97, 98, 99, 100, 101, 102, 103, 104, 105, 106, 107, 108, 109, 110, 111, 112, 113, 114, 115, 116, 117, 118, 119, 120, 121, 122, 48, 49, 50, 51, 52, 53, 54, 55, 56, 57, 45, 95]⟩ : ByteArray) = ⟨webT.toArray⟩ := rfl
  have HA := Lib.hid hA
  clear hA h
  go_enter Tryd.func32, Tryd.ntmps32
  go_wp2_with fail
  refine HA.out.mono ?_
  rintro e w1 ⟨v', rfl, ho, hb⟩
  have hc := conv_own ho
  clear HA ho ht
  obtain ⟨wb, hwb⟩ : ∃ wb, wb = (⟨(web b).toArray⟩ : ByteArray) := ⟨_, rfl⟩
  rw [← hwb] at hc
  have HWB := Lib.hid hwb
  clear hwb
  go_wp2_with fail
  go_ret
  exact ⟨by rw [HWB.out]; rfl, hb⟩
end Go.Proofs.YtefofalobpepcaaDoor.Se
