/-
  Chapter 2: crc.halves, More, Sum.
-/
import Derived.Test.YthofbblgoamipaaGreatDoorVa
import Derived.Test.YthofbblgoamipaaGreatDoorGen
import Derived.Test.YthofbblgoamipaaGreatDoorHb
namespace Go.Proofs.YthofbblgoamipaaGreatDoor.Wa
open Go.RowKit
set_option linter.unusedVariables false
set_option linter.unusedSimpArgs false
set_option maxRecDepth 100000

theorem xor_ex (a b : UInt32) : ∃ c : UInt32, Hid (c = a ^^^ b) ∧ bits .xor .u32 (a.toNat : Int) (b.toNat : Int) = (c.toNat : Int) := ⟨_, Lib.hid rfl, bits_xor_w a b⟩
theorem xor8_ex (a : UInt32) (b : UInt8) : ∃ c : UInt32, Hid (c = a ^^^ UInt32.ofNat b.toNat) ∧ bits .xor .u32 (a.toNat : Int) ((b.toNat : Int) % 4294967296) = (c.toNat : Int) := by
  have e : (b.toNat : Int) % 4294967296 = ((UInt32.ofNat b.toNat).toNat : Int) := by have := b.toNat_lt; simp; omega
  rw [e]
  exact ⟨_, Lib.hid rfl, bits_xor_w a _⟩
theorem and15_ex (a : UInt32) : ∃ j : Nat, Hid (j = (a &&& 15).toNat) ∧ j < 16 ∧ bits .and .u32 (a.toNat : Int) 15 = (j : Int) := by
  refine ⟨_, Lib.hid rfl, ?_, bits_and_w a 15⟩
  rw [UInt32.toNat_and]
  have := @Nat.and_le_right a.toNat (UInt32.toNat 15)
  have e : UInt32.toNat 15 = 15 := rfl
  omega
theorem not_ex (a : UInt32) : ∃ c : UInt32, Hid (c = ~~~ a) ∧ bits .xor .u32 (if IntKind.u32.signed = true then -1 else IntKind.u32.max) (a.toNat : Int) = (c.toNat : Int) := by
  refine ⟨0xFFFFFFFF ^^^ a, Lib.hid ?_, bits_xor_w 0xFFFFFFFF a⟩
  apply UInt32.toBitVec_inj.1
  rw [UInt32.toBitVec_xor, UInt32.toBitVec_not]
  exact BitVec.allOnes_xor
theorem shr4_ex (a : UInt32) : ∃ c : UInt32, Hid (c = a >>> 4) ∧ (a.toNat : Int) / 16 = (c.toNat : Int) := by
  refine ⟨_, Lib.hid rfl, ?_⟩
  rw [UInt32.toNat_shiftRight]
  have e : (UInt32.toNat 4 % 32) = 4 := rfl
  rw [e, Nat.shiftRight_eq_div_pow]
  omega
def tabC : List Value := tabW.map fun x => .int .u32 (x.toNat : Int)
theorem ret_tab {fn : Func} {p : Tmp} (hres : fn.results = #[.cell p 161]) {a : Act} (hd : a.defers = []) {W : World} {b : Nat} {ty : TypeId} (hp : a.tmps.getD p undef = .pointer (some ⟨b, 0, none⟩)) (hb : Blk W b ty tabC) {R : Ending → World → Prop}
    (hR : R (.returned (.agg tabC.toArray)) W) : bodyPost Tryz.prog fn R .ret a W := by
  have t2 : a.tmps[p]?.getD undef = .pointer (some ⟨b, 0, none⟩) := by rw [← hp, Array.getD_eq_getD_getElem?]
  have c : ∀ j : Nat, j < 16 → W.cell? ⟨b, j, none⟩ = some (tabC.getD j undef) := fun j hj => hb.cell j (by
    have hl : j < tabC.length := hj
    rw [List.getElem?_eq_getElem hl, List.getD_eq_getElem?_getD, List.getElem?_eq_getElem hl]; rfl)
  refine bodyPost_ret (v := .agg tabC.toArray) ?_ hd hR
  simp [results, hres, go_sem, t2, c 0 (by decide), c 1 (by decide), c 2 (by decide), c 3 (by decide), c 4 (by decide), c 5 (by decide), c 6 (by decide), c 7 (by decide), c 8 (by decide), c 9 (by decide), c 10 (by decide), c 11 (by decide), c 12 (by decide), c 13 (by decide), c 14 (by decide), c 15 (by decide), tabC, tabW]
set_option maxHeartbeats 1000000 in
theorem halves_any (w : World) : Calls Tryz.prog 113 #[] w fun e w' => e = .returned (.agg tabC.toArray) ∧ Below w.heap.size w w' := by
  have HB := Lib.hid (Blk.new w 161 tabC)
  go_enter Tryz.func113, Tryz.ntmps113
  go_wp2_with fail
  try simp only [Exit.inBlock, Exit.then]
  exact ret_tab rfl rfl rfl HB.out ⟨rfl, (Below.refl _ _).alloc (Nat.le_refl _) _⟩
theorem foldl_take_succ {α β : Type} (f : α → β → α) (x : α) (l : List β) (k : Nat) (c : β) (h : l[k]? = some c) : (l.take (k + 1)).foldl f x = f ((l.take k).foldl f x) c := by
  rw [List.take_add_one, h, List.foldl_append]; rfl
set_option maxHeartbeats 4000000 in
theorem more_any (s : UInt32) (v : Value) (b : By) (w : World) (h : Rd w 1 v b.length (Lib.byteCells b)) (hl : b.length ≤ 140737488355328) :
    Calls Tryz.prog 90 #[.int .u32 (s.toNat : Int), v] w fun e w' => e = .returned (.int .u32 ((more s b).toNat : Int)) ∧ Below w.heap.size w w' := by
  have HH := Lib.hid (halves_any w)
  have HR := Lib.hid h
  obtain ⟨a, c, rfl⟩ := h.slice
  obtain ⟨n, hn⟩ : ∃ n, n = b.length := ⟨_, rfl⟩
  rw [← hn] at HR hl ⊢
  have HN := Lib.hid hn
  clear h hn
  obtain ⟨s0, hs0, k0⟩ := not_ex s
  go_enter Tryz.func90, Tryz.ntmps90
  go_wp2_with fail
  refine HH.out.mono ?_
  rintro e w1 ⟨rfl, hb1⟩
  have HT0 : Hid (Blk (w1.alloc (.cells #[.int .u32 0, .int .u32 274646895, .int .u32 549293790, .int .u32 820201905, .int .u32 1098587580, .int .u32 1361435347, .int .u32 1640403810, .int .u32 1905808397, .int .u32 2197175160, .int .u32 2460548119, .int .u32 2722870694, .int .u32 2987750089, .int .u32 3280807620, .int .u32 3553878443, .int .u32 3811616794, .int .u32 4084100981] 161)) w1.heap.size 161 tabC) := Lib.hid (Blk.new w1 161 tabC)
  have HB1 : Hid (Below w.heap.size w (w1.alloc (.cells #[.int .u32 0, .int .u32 274646895, .int .u32 549293790, .int .u32 820201905, .int .u32 1098587580, .int .u32 1361435347, .int .u32 1640403810, .int .u32 1905808397, .int .u32 2197175160, .int .u32 2460548119, .int .u32 2722870694, .int .u32 2987750089, .int .u32 3280807620, .int .u32 3553878443, .int .u32 3811616794, .int .u32 4084100981] 161))) := Lib.hid (hb1.alloc hb1.size _)
  have HR1 : Hid (Rd (w1.alloc (.cells #[.int .u32 0, .int .u32 274646895, .int .u32 549293790, .int .u32 820201905, .int .u32 1098587580, .int .u32 1361435347, .int .u32 1640403810, .int .u32 1905808397, .int .u32 2197175160, .int .u32 2460548119, .int .u32 2722870694, .int .u32 2987750089, .int .u32 3280807620, .int .u32 3553878443, .int .u32 3811616794, .int .u32 4084100981] 161)) 1 (.slice a n c) n (Lib.byteCells b)) := Lib.hid (HR.out.below HB1.out)
  clear hb1 HH HR
  unfold tabC tabW
  go_wp2_with fail
  obtain ⟨W1, hW1⟩ : ∃ W, W = (w1.alloc (.cells #[.int .u32 0, .int .u32 274646895, .int .u32 549293790, .int .u32 820201905, .int .u32 1098587580, .int .u32 1361435347, .int .u32 1640403810, .int .u32 1905808397, .int .u32 2197175160, .int .u32 2460548119, .int .u32 2722870694, .int .u32 2987750089, .int .u32 3280807620, .int .u32 3553878443, .int .u32 3811616794, .int .u32 4084100981] 161)) := ⟨_, rfl⟩
  rw [← hW1] at HT0 HB1 HR1 ⊢
  clear hW1
  go_loop [0, 13] (fun x i => ∃ k : Nat, k ≤ n ∧ x = .int .u32 (((b.take k).foldl c1 s0).toNat : Int) ∧ i = .int .i64 (k : Int)) (fun _ i => n - (intOf i).toNat)
  case atStart => exact ⟨0, by omega, rfl, rfl⟩
  case round =>
    obtain ⟨k, hk, rfl, rfl⟩ := hrel
    obtain ⟨x0, hx0⟩ : ∃ x, x = (b.take k).foldl c1 s0 := ⟨_, rfl⟩
    rw [← hx0]
    have HX0 := Lib.hid hx0
    clear hx0
    by_cases hkn : k < n
    case neg =>
      have g1 : ¬ (k : Int) < (n : Int) := by omega
      obtain ⟨y, hy, ky⟩ := not_ex x0
      have HY : Hid (y = more s b) := Lib.hid (by
        rw [hy.out, HX0.out, hs0.out, List.take_of_length_le (by have := HN.out; omega)]; rfl)
      clear k0
      go_wp2_with fail
      go_ret
      exact ⟨by rw [HY.out]; rfl, HB1.out⟩
    case pos =>
      have g1 : (k : Int) < (n : Int) := by omega
      obtain ⟨ch, hch⟩ : ∃ ch, b[k]? = some ch := ⟨_, List.getElem?_eq_getElem (by have := HN.out; omega)⟩
      obtain ⟨rb, ro, rc, he, hcap, hcells⟩ := HR1.out.pos (by omega)
      have hcell : W1.cell? ⟨rb, ro + k, none⟩ = some (.int .u8 (ch.toNat : Int)) := hcells k _ (by unfold Lib.byteCells; rw [List.getElem?_map, hch]; rfl)
      injection he with ea eb ec
      subst ea
      clear hcells hcap
      have HCH := Lib.hid hch
      clear hch
      obtain ⟨x1, hx1, k1⟩ := xor8_ex x0 ch
      obtain ⟨y1, hy1, q1⟩ := shr4_ex x1
      obtain ⟨j1, hj1, l1, p1⟩ := and15_ex x1
      obtain ⟨x2, hx2, k2⟩ := xor_ex y1 (tabW.getD j1 0)
      obtain ⟨y2, hy2, q2⟩ := shr4_ex x2
      obtain ⟨j2, hj2, l2, p2⟩ := and15_ex x2
      obtain ⟨x3, hx3, k3⟩ := xor_ex y2 (tabW.getD j2 0)
      have HT : ∀ j : Nat, j < 16 → W1.cell? ⟨w1.heap.size, j, none⟩ = some (.int .u32 ((tabW.getD j 0).toNat : Int)) := fun j hj => HT0.out.cell j (by
        have hl : j < tabW.length := hj
        unfold tabC
        rw [List.getElem?_map, List.getElem?_eq_getElem hl, List.getD_eq_getElem?_getD, List.getElem?_eq_getElem hl]; rfl)
      have t1 := HT j1 l1
      have t2 := HT j2 l2
      have b1 : (j1 : Int) < 16 := by omega
      have b2 : (j2 : Int) < 16 := by omega
      have b3 : ¬ (j1 : Int) < 0 := by omega
      have b4 : ¬ (j2 : Int) < 0 := by omega
      have HXX : Hid (x3 = (b.take (k + 1)).foldl c1 s0) := Lib.hid (by
        rw [foldl_take_succ c1 s0 b k ch HCH.out, ← HX0.out, hx3.out, hy2.out, hj2.out, hx2.out, hy1.out, hj1.out, hx1.out]; rfl)
      obtain ⟨z1, hz1⟩ : ∃ z, z = tabW.getD j1 0 := ⟨_, rfl⟩
      obtain ⟨z2, hz2⟩ : ∃ z, z = tabW.getD j2 0 := ⟨_, rfl⟩
      rw [← hz1] at t1 k2
      rw [← hz2] at t2 k3
      clear hz1 hz2 hkn HT k0
      go_wp2_with fail
      go_round
      case rel => exact ⟨k + 1, by omega, by rw [← HXX.out], by go_num⟩
      case measure => simp [intOf]; omega
/-- the sum of bytes -/
theorem crc_any (v : Value) (b : By) (w : World) (h : Rd w 1 v b.length (Lib.byteCells b)) (hl : b.length ≤ 140737488355328) :
    Calls Tryz.prog 66 #[v] w fun e w' => e = .returned (.int .u32 ((crc b).toNat : Int)) ∧ Below w.heap.size w w' := by
  have HM := Lib.hid (more_any 0 v b w h hl)
  obtain ⟨a, c, rfl⟩ := h.slice
  clear h
  go_enter Tryz.func66, Tryz.ntmps66
  go_wp2_with fail
  refine HM.out.mono ?_
  rintro e w1 ⟨rfl, hb⟩
  have HB := Lib.hid hb
  clear hb
  go_wp2_with fail
  go_ret
  exact ⟨rfl, HB.out⟩
end Go.Proofs.YthofbblgoamipaaGreatDoor.Wa
