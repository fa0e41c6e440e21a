/-
  Chapter 16: small functions of seal: sign, Right, head; octet.Same.
-/
import Derived.Test.YtefofalobpepcaaDoorEc
import Derived.Test.YtefofalobpepcaaDoorShelf
import Derived.Deep.RegionHeld3
import Derived.Lib.AppendIntMem
namespace Go.Proofs.YtefofalobpepcaaDoor.Se
open Go.RowKit
set_option linter.unusedVariables false

theorem below_step {B : Nat} {a w w' : World} (h : Below B a w) (hb : Below w.heap.size w w') (hB : B ≤ a.heap.size := by exact Nat.le_refl _) : Below B a w' := h.trans (hb.mono (Nat.le_trans hB h.size))
theorem ret_bool' {a b : Bool} (h : a = b) : Ending.returned (.bool a) = Ending.returned (.bool b) := by rw [h]
theorem all_u8' {p : UInt8 → Prop} (h : ∀ n : Fin 256, p (UInt8.ofNat n.val)) (c : UInt8) : p c := by
  have := h ⟨c.toNat, c.toNat_lt⟩
  rwa [UInt8.ofNat_toNat] at this

set_option maxRecDepth 20000 in
set_option maxHeartbeats 1000000 in
theorem sign_any (c : UInt8) (w : World) : Calls Tryd.prog 23 #[.int .u8 (c.toNat : Int)] w fun e w' => e = .returned (.bool (sgn c)) ∧ w' = w := by
  have hc := c.toNat_lt
  generalize hn : c.toNat = n at hc
  have hs : sgn c = ((97 ≤ n && n ≤ 122) || (65 ≤ n && n ≤ 90) || (48 ≤ n && n ≤ 57) || n == 45 || n == 95) := by unfold sgn; rw [hn]
  rw [hs]
  clear hs hn
  go_enter Tryd.func23, Tryd.ntmps23
  go_wp2
  all_goals (go_ret; refine ⟨ret_bool' ?_, rfl⟩; rw [Bool.eq_iff_iff]; simp; try omega)

theorem itoa_tab (n : Int) (w : World) (h0 : 0 ≤ n) (h1 : n ≤ 1099511627776) (htab : Lib.TabIs Tryd.prog w "internal/strconv.uint64pow10" .u64 Lib.pow10Tab) :
    Calls Tryd.prog 30 #[.int .i64 n] w fun e w' => e = .returned (.string ⟨(Lib.itoa n).toArray⟩) ∧ Below w.heap.size w w' :=
  (Tryd.strconv_Itoa n (by omega) (by omega) w htab).mono fun e w' ⟨h1, k, os, h2⟩ => ⟨h1, by rw [h2]; exact Lib.below_grow _ _ (Nat.le_refl _) _ _⟩

set_option maxRecDepth 20000 in
set_option maxHeartbeats 2000000 in
theorem head_1 (fam : By) (ser : Int) (w : World) (h5 : fam.length ≤ 32) (h6 : 0 ≤ ser) (h7 : ser ≤ 1099511627776) (htab : ∀ W, Below w.heap.size w W → Lib.TabIs Tryd.prog W "internal/strconv.uint64pow10" .u64 Lib.pow10Tab) :
    Calls Tryd.prog 18 #[.agg #[.int .i64 1, .string ⟨fam.toArray⟩, .int .i64 ser]] w fun e w' => e = .returned (.string ⟨(head ⟨1, fam, ser⟩).toArray⟩) ∧ Below w.heap.size w w' := by
  have hB : Blk (w.alloc (.cells #[.int .i64 1, .string ⟨fam.toArray⟩, .int .i64 ser] 24)) w.heap.size 24 [.int .i64 1, .string ⟨fam.toArray⟩, .int .i64 ser] := Blk.new w _ _
  have hbl : Below w.heap.size w (w.alloc (.cells #[.int .i64 1, .string ⟨fam.toArray⟩, .int .i64 ser] 24)).drew := ((Below.refl _ _).alloc (Nat.le_refl _) _).drew
  have hil : (Lib.itoa ser).length ≤ 13 := by
    have e : Lib.itoa ser = Lib.decDigits ser.toNat := by unfold Lib.itoa; rw [if_neg (by omega)]
    rw [e]; exact dd_len 13 _ (by omega) (by omega)
  have hHD : head ⟨1, fam, ser⟩ = [99, 46] ++ fam ++ [46] ++ Lib.itoa ser ++ [46] := by unfold head ltr ltrs; simp
  obtain ⟨it, hit⟩ : ∃ it, it = Lib.itoa ser := ⟨_, rfl⟩
  have HIT := Lib.hid (fun W => itoa_tab ser W h6 h7)
  rw [← hit] at hHD HIT hil
  obtain ⟨x2, hx2⟩ : ∃ x, x = [99, 46] ++ fam := ⟨_, rfl⟩
  have a2 := st_add [99, 46] fam x2 (by simp; omega) hx2
  have l2 : x2.length ≤ 34 := by rw [hx2]; simp; omega
  rw [← hx2] at hHD
  obtain ⟨x3, hx3⟩ : ∃ x, x = x2 ++ [46] := ⟨_, rfl⟩
  have a3 := st_add x2 [46] x3 (by simp; omega) hx3
  have l3 : x3.length ≤ 35 := by rw [hx3]; simp; omega
  rw [← hx3] at hHD
  obtain ⟨x4, hx4⟩ : ∃ x, x = x3 ++ it := ⟨_, rfl⟩
  have a4 := st_add x3 it x4 (by omega) hx4
  have l4 : x4.length ≤ 48 := by rw [hx4]; simp; omega
  rw [← hx4] at hHD
  obtain ⟨x5, hx5⟩ : ∃ x, x = x4 ++ [46] := ⟨_, rfl⟩
  have a5 := st_add x4 [46] x5 (by simp; omega) hx5
  rw [← hx5] at hHD
  rw [hHD]
  have HT := Lib.hid htab
  have z0 : (⟨#[63, 99, 97, 114]⟩ : ByteArray).size = 4 := rfl
  have z1 : (⟨#[63, 99, 97, 114]⟩ : ByteArray).extract 1 2 = ⟨#[99]⟩ := by decide
  have z2 : IntKind.i64.wrap (1 + 1) = 2 := by decide
  have z3 : IntKind.i64.wrap 2 = 2 := by decide
  have a1 := st_add [99] [46] [99, 46] (by decide) rfl
  have q1 := hB.drew.cell 0 rfl
  have q2 := hB.drew.cell 1 rfl
  have q3 := hB.drew.cell 2 rfl
  have hblk := hB.drew.lt
  clear hx2 hx3 hx4 hx5 l2 l3 l4 hit hil hHD hB htab h6 h7 h5
  go_enter Tryd.func18, Tryd.ntmps18
  go_wp2_with fail
  go_region_held3 (fun W => W.cell? ⟨w.heap.size, 0, none⟩ = some (.int .i64 1) ∧ W.cell? ⟨w.heap.size, 1, none⟩ = some (.string ⟨fam.toArray⟩) ∧ W.cell? ⟨w.heap.size, 2, none⟩ = some (.int .i64 ser) ∧ w.heap.size < W.heap.size ∧ Below w.heap.size w W)
    (first | exact ⟨q1, q2, q3, hblk, hbl⟩ | (go_split_ands; exact ⟨(hb2.cell (p := ⟨w.heap.size, _, none⟩) (by assumption)).trans (by assumption), (hb2.cell (p := ⟨w.heap.size, _, none⟩) (by assumption)).trans (by assumption), (hb2.cell (p := ⟨w.heap.size, _, none⟩) (by assumption)).trans (by assumption), Nat.lt_of_lt_of_le (by assumption) hb2.size, below_step (by assumption) hb2⟩))
    (first | (go_at_call 30; go_split_ands; refine (HIT.out _ (HT.out _ (by assumption))).mono ?_; rintro e w2 ⟨rfl, hb2⟩))
  all_goals
    go_split_ands
    go_wp2_with fail
    go_ret
    exact ⟨rfl, by assumption⟩
set_option maxRecDepth 20000 in
set_option maxHeartbeats 2000000 in
theorem head_2 (fam : By) (ser : Int) (w : World) (h5 : fam.length ≤ 32) (h6 : 0 ≤ ser) (h7 : ser ≤ 1099511627776) (htab : ∀ W, Below w.heap.size w W → Lib.TabIs Tryd.prog W "internal/strconv.uint64pow10" .u64 Lib.pow10Tab) :
    Calls Tryd.prog 18 #[.agg #[.int .i64 2, .string ⟨fam.toArray⟩, .int .i64 ser]] w fun e w' => e = .returned (.string ⟨(head ⟨2, fam, ser⟩).toArray⟩) ∧ Below w.heap.size w w' := by
  have hB : Blk (w.alloc (.cells #[.int .i64 2, .string ⟨fam.toArray⟩, .int .i64 ser] 24)) w.heap.size 24 [.int .i64 2, .string ⟨fam.toArray⟩, .int .i64 ser] := Blk.new w _ _
  have hbl : Below w.heap.size w (w.alloc (.cells #[.int .i64 2, .string ⟨fam.toArray⟩, .int .i64 ser] 24)).drew := ((Below.refl _ _).alloc (Nat.le_refl _) _).drew
  have hil : (Lib.itoa ser).length ≤ 13 := by
    have e : Lib.itoa ser = Lib.decDigits ser.toNat := by unfold Lib.itoa; rw [if_neg (by omega)]
    rw [e]; exact dd_len 13 _ (by omega) (by omega)
  have hHD : head ⟨2, fam, ser⟩ = [97, 46] ++ fam ++ [46] ++ Lib.itoa ser ++ [46] := by unfold head ltr ltrs; simp
  obtain ⟨it, hit⟩ : ∃ it, it = Lib.itoa ser := ⟨_, rfl⟩
  have HIT := Lib.hid (fun W => itoa_tab ser W h6 h7)
  rw [← hit] at hHD HIT hil
  obtain ⟨x2, hx2⟩ : ∃ x, x = [97, 46] ++ fam := ⟨_, rfl⟩
  have a2 := st_add [97, 46] fam x2 (by simp; omega) hx2
  have l2 : x2.length ≤ 34 := by rw [hx2]; simp; omega
  rw [← hx2] at hHD
  obtain ⟨x3, hx3⟩ : ∃ x, x = x2 ++ [46] := ⟨_, rfl⟩
  have a3 := st_add x2 [46] x3 (by simp; omega) hx3
  have l3 : x3.length ≤ 35 := by rw [hx3]; simp; omega
  rw [← hx3] at hHD
  obtain ⟨x4, hx4⟩ : ∃ x, x = x3 ++ it := ⟨_, rfl⟩
  have a4 := st_add x3 it x4 (by omega) hx4
  have l4 : x4.length ≤ 48 := by rw [hx4]; simp; omega
  rw [← hx4] at hHD
  obtain ⟨x5, hx5⟩ : ∃ x, x = x4 ++ [46] := ⟨_, rfl⟩
  have a5 := st_add x4 [46] x5 (by simp; omega) hx5
  rw [← hx5] at hHD
  rw [hHD]
  have HT := Lib.hid htab
  have z0 : (⟨#[63, 99, 97, 114]⟩ : ByteArray).size = 4 := rfl
  have z1 : (⟨#[63, 99, 97, 114]⟩ : ByteArray).extract 2 3 = ⟨#[97]⟩ := by decide
  have z2 : IntKind.i64.wrap (2 + 1) = 3 := by decide
  have z3 : IntKind.i64.wrap 3 = 3 := by decide
  have a1 := st_add [97] [46] [97, 46] (by decide) rfl
  have q1 := hB.drew.cell 0 rfl
  have q2 := hB.drew.cell 1 rfl
  have q3 := hB.drew.cell 2 rfl
  have hblk := hB.drew.lt
  clear hx2 hx3 hx4 hx5 l2 l3 l4 hit hil hHD hB htab h6 h7 h5
  go_enter Tryd.func18, Tryd.ntmps18
  go_wp2_with fail
  go_region_held3 (fun W => W.cell? ⟨w.heap.size, 0, none⟩ = some (.int .i64 2) ∧ W.cell? ⟨w.heap.size, 1, none⟩ = some (.string ⟨fam.toArray⟩) ∧ W.cell? ⟨w.heap.size, 2, none⟩ = some (.int .i64 ser) ∧ w.heap.size < W.heap.size ∧ Below w.heap.size w W)
    (first | exact ⟨q1, q2, q3, hblk, hbl⟩ | (go_split_ands; exact ⟨(hb2.cell (p := ⟨w.heap.size, _, none⟩) (by assumption)).trans (by assumption), (hb2.cell (p := ⟨w.heap.size, _, none⟩) (by assumption)).trans (by assumption), (hb2.cell (p := ⟨w.heap.size, _, none⟩) (by assumption)).trans (by assumption), Nat.lt_of_lt_of_le (by assumption) hb2.size, below_step (by assumption) hb2⟩))
    (first | (go_at_call 30; go_split_ands; refine (HIT.out _ (HT.out _ (by assumption))).mono ?_; rintro e w2 ⟨rfl, hb2⟩))
  all_goals
    go_split_ands
    go_wp2_with fail
    go_ret
    exact ⟨rfl, by assumption⟩
set_option maxRecDepth 20000 in
set_option maxHeartbeats 2000000 in
theorem head_3 (fam : By) (ser : Int) (w : World) (h5 : fam.length ≤ 32) (h6 : 0 ≤ ser) (h7 : ser ≤ 1099511627776) (htab : ∀ W, Below w.heap.size w W → Lib.TabIs Tryd.prog W "internal/strconv.uint64pow10" .u64 Lib.pow10Tab) :
    Calls Tryd.prog 18 #[.agg #[.int .i64 3, .string ⟨fam.toArray⟩, .int .i64 ser]] w fun e w' => e = .returned (.string ⟨(head ⟨3, fam, ser⟩).toArray⟩) ∧ Below w.heap.size w w' := by
  have hB : Blk (w.alloc (.cells #[.int .i64 3, .string ⟨fam.toArray⟩, .int .i64 ser] 24)) w.heap.size 24 [.int .i64 3, .string ⟨fam.toArray⟩, .int .i64 ser] := Blk.new w _ _
  have hbl : Below w.heap.size w (w.alloc (.cells #[.int .i64 3, .string ⟨fam.toArray⟩, .int .i64 ser] 24)).drew := ((Below.refl _ _).alloc (Nat.le_refl _) _).drew
  have hil : (Lib.itoa ser).length ≤ 13 := by
    have e : Lib.itoa ser = Lib.decDigits ser.toNat := by unfold Lib.itoa; rw [if_neg (by omega)]
    rw [e]; exact dd_len 13 _ (by omega) (by omega)
  have hHD : head ⟨3, fam, ser⟩ = [114, 46] ++ fam ++ [46] ++ Lib.itoa ser ++ [46] := by unfold head ltr ltrs; simp
  obtain ⟨it, hit⟩ : ∃ it, it = Lib.itoa ser := ⟨_, rfl⟩
  have HIT := Lib.hid (fun W => itoa_tab ser W h6 h7)
  rw [← hit] at hHD HIT hil
  obtain ⟨x2, hx2⟩ : ∃ x, x = [114, 46] ++ fam := ⟨_, rfl⟩
  have a2 := st_add [114, 46] fam x2 (by simp; omega) hx2
  have l2 : x2.length ≤ 34 := by rw [hx2]; simp; omega
  rw [← hx2] at hHD
  obtain ⟨x3, hx3⟩ : ∃ x, x = x2 ++ [46] := ⟨_, rfl⟩
  have a3 := st_add x2 [46] x3 (by simp; omega) hx3
  have l3 : x3.length ≤ 35 := by rw [hx3]; simp; omega
  rw [← hx3] at hHD
  obtain ⟨x4, hx4⟩ : ∃ x, x = x3 ++ it := ⟨_, rfl⟩
  have a4 := st_add x3 it x4 (by omega) hx4
  have l4 : x4.length ≤ 48 := by rw [hx4]; simp; omega
  rw [← hx4] at hHD
  obtain ⟨x5, hx5⟩ : ∃ x, x = x4 ++ [46] := ⟨_, rfl⟩
  have a5 := st_add x4 [46] x5 (by simp; omega) hx5
  rw [← hx5] at hHD
  rw [hHD]
  have HT := Lib.hid htab
  have z0 : (⟨#[63, 99, 97, 114]⟩ : ByteArray).size = 4 := rfl
  have z1 : (⟨#[63, 99, 97, 114]⟩ : ByteArray).extract 3 4 = ⟨#[114]⟩ := by decide
  have z2 : IntKind.i64.wrap (3 + 1) = 4 := by decide
  have z3 : IntKind.i64.wrap 4 = 4 := by decide
  have a1 := st_add [114] [46] [114, 46] (by decide) rfl
  have q1 := hB.drew.cell 0 rfl
  have q2 := hB.drew.cell 1 rfl
  have q3 := hB.drew.cell 2 rfl
  have hblk := hB.drew.lt
  clear hx2 hx3 hx4 hx5 l2 l3 l4 hit hil hHD hB htab h6 h7 h5
  go_enter Tryd.func18, Tryd.ntmps18
  go_wp2_with fail
  go_region_held3 (fun W => W.cell? ⟨w.heap.size, 0, none⟩ = some (.int .i64 3) ∧ W.cell? ⟨w.heap.size, 1, none⟩ = some (.string ⟨fam.toArray⟩) ∧ W.cell? ⟨w.heap.size, 2, none⟩ = some (.int .i64 ser) ∧ w.heap.size < W.heap.size ∧ Below w.heap.size w W)
    (first | exact ⟨q1, q2, q3, hblk, hbl⟩ | (go_split_ands; exact ⟨(hb2.cell (p := ⟨w.heap.size, _, none⟩) (by assumption)).trans (by assumption), (hb2.cell (p := ⟨w.heap.size, _, none⟩) (by assumption)).trans (by assumption), (hb2.cell (p := ⟨w.heap.size, _, none⟩) (by assumption)).trans (by assumption), Nat.lt_of_lt_of_le (by assumption) hb2.size, below_step (by assumption) hb2⟩))
    (first | (go_at_call 30; go_split_ands; refine (HIT.out _ (HT.out _ (by assumption))).mono ?_; rintro e w2 ⟨rfl, hb2⟩))
  all_goals
    go_split_ands
    go_wp2_with fail
    go_ret
    exact ⟨rfl, by assumption⟩
theorem head_any (t : Tk) (w : World) (h : Right t) (htab : ∀ W, Below w.heap.size w W → Lib.TabIs Tryd.prog W "internal/strconv.uint64pow10" .u64 Lib.pow10Tab) :
    Calls Tryd.prog 18 #[.agg #[.int .i64 t.kd, .string ⟨t.fam.toArray⟩, .int .i64 t.ser]] w fun e w' => e = .returned (.string ⟨(head t).toArray⟩) ∧ Below w.heap.size w w' := by
  obtain ⟨kd, fam, ser⟩ := t
  obtain ⟨h1, h2, h3, h4, h5, h6, h7⟩ := h
  simp only at h1 h2 h3 h4 h5 h6 h7
  have : kd = 1 ∨ kd = 2 ∨ kd = 3 := by omega
  rcases this with rfl | rfl | rfl
  · exact head_1 fam ser w h5 h6 h7 htab
  · exact head_2 fam ser w h5 h6 h7 htab
  · exact head_3 fam ser w h5 h6 h7 htab
end Go.Proofs.YtefofalobpepcaaDoor.Se
