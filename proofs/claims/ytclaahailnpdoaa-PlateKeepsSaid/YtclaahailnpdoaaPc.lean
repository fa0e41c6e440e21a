/-
  Chapter 10: PlateKeeps' walk. Printed by gen_plate_keeps.py.
-/
import Derived.Test.YtclaahailnpdoaaPb
import Derived.Test.YtclaahailnpdoaaBy
namespace Go.Proofs.Ytclaahailnpdoaa.Pt
open Go.RowKit Go.Maps
set_option linter.unusedVariables false
set_option linter.unusedSimpArgs false

abbrev ZZ : By := [122, 122]
theorem u8_inc (c : UInt8) : IntKind.u8.wrap ((c.toNat : Int) + 1) = ((c + 1).toNat : Int) := by revert c; exact all_u8 (by decide +kernel)
theorem bc_set (l : By) (k : Nat) (c : UInt8) : (Lib.byteCells l).set k (.int .u8 (c.toNat : Int)) = Lib.byteCells (l.set k c) := by unfold Lib.byteCells; rw [List.map_set]
theorem below_of_out {F : Nat → Prop} {w w' : World} {B : Nat} (h : Out F w w') (hB : B ≤ w.heap.size) (hF : ∀ k, k < w.heap.size → F k → B ≤ k) : Below B w w' :=
  ⟨h.os, h.tape, h.output, h.size, fun k hk => h.block k (by omega) (fun hf => by have := hF k (by omega) hf; omega)⟩
theorem rd_low {W W' : World} {B sz n : Nat} {v : Value} {xs : List Value} (h : Rd W sz v n xs) (hk : 0 < n → ∀ g, v.ownBlock = some g → g < B) (hb : Below B W W') : Rd W' sz v n xs :=
  rd_keep0 h (fun h0 g hg => hb.block g (hk h0 g hg))
theorem own_keepB {w W' : World} {B n sz : Nat} {e : TypeId} {v : Value} {xs : List Value} (h : w.ownsRow B e sz v n xs) (hb : ∀ g, v.ownBlock = some g → W'.heap[g]? = w.heap[g]?) : W'.ownsRow B e sz v n xs := by
  refine ⟨h.1, ?_⟩
  rcases h.2 with h2 | ⟨g, cap, cur, hv, hB, hh, r⟩
  · exact .inl h2
  · exact .inr ⟨g, cap, cur, hv, hB, (hb g (by rw [hv]; rfl)).trans hh, r⟩
/-- all but the last -/
theorem rd_front {W : World} {b o n c : Nat} {xs : List Value} {u : Value} (h : Rd W 1 (.slice (some ⟨b, o, none⟩) (n + 1) c) (n + 1) (xs ++ [u])) (hn : xs.length = n) : Rd W 1 (.slice (some ⟨b, o, none⟩) n c) n xs := by
  obtain ⟨b', o', c', e, hc, hcc⟩ := h.pos (Nat.succ_pos _)
  cases e
  exact ⟨by rw [hn, Nat.mul_one], .inr ⟨b, o, c, rfl, by omega, fun j v hj => hcc j v ((List.getElem?_append_left (List.getElem?_eq_some_iff.1 hj).1).trans hj)⟩⟩
set_option maxRecDepth 100000 in
set_option maxHeartbeats 4000000 in
theorem plateKeeps_short (v bv kv : Value) (l : List Sp) (vb vk : Nat → Value) (b : By) (ks : List Int) (w : World) (h : SpsAt w.heap.size w v l vb vk) (hl : l.length ≤ 4611686018427387904)
    (hb : Rd w 1 bv b.length (Lib.byteCells b)) (hbb : 0 < b.length → ∀ g, bv.ownBlock = some g → g < w.heap.size) (hbz : b.length ≤ 140737488355000) (hcase : b.length ≤ 65536)
    (hks : Rd w 1 kv ks.length (ic ks)) (hkb : 0 < ks.length → ∀ g, kv.ownBlock = some g → g < w.heap.size) (hkz : ks.length * 8 ≤ 140737488355000) :
    Calls Try.prog 7 #[v, bv, kv] w fun e w' => e = .returned (.bool true) ∧ Below w.heap.size w w' := by
  obtain ⟨a, c, rfl⟩ := h.shp
  obtain ⟨kva, kvc, rfl⟩ := hks.slice
  obtain ⟨b2a, b2c, rfl⟩ := hb.slice
  have HB2 : Hid (Rd w 1 (.slice b2a b.length b2c) b.length (Lib.byteCells b) ∧ (0 < b.length → ∀ g, Value.ownBlock (.slice b2a b.length b2c) = some g → g < w.heap.size) ∧ b.length ≤ 65536) := Lib.hid ⟨hb, hbb, hcase⟩
  obtain ⟨b2, hb2⟩ : ∃ b2, b2 = b := ⟨_, rfl⟩
  rw [← hb2] at HB2 hbz hcase ⊢
  have t0 : ¬ (65536 : Int) < (b2.length : Int) := by omega
  clear hb hbb hb2
  have H := Lib.hid h
  have HK := Lib.hid (And.intro hks (And.intro hkb hkz))
  clear h hks hkb hkz
  go_enter Try.func7, Try.ntmps7
  go_wp2_with fail
  refine (new_any 134217728 (fun _ => .slice none 0 0) w (by decide)).mono ?_
  rintro e w1 ⟨q, m, rfl, hp1, hb1, hq, hm⟩
  have hd0 := duo_new (w := w) (R2 := 134217728) hp1 hb1.size hq hm (by decide)
  have hbw0 : Below w.heap.size w (w1.alloc (.cells #[.slice none 0 0, .int .i64 134217728, .bool false, .int .i64 0, .bool false] 31)) := hb1.alloc hb1.size _
  obtain ⟨st0, hst0⟩ : ∃ st0 : St, st0 = newS 134217728 := ⟨_, rfl⟩
  rw [← hst0] at hd0
  clear hp1 hb1 hq hm hst0
  go_wp2_with fail
  generalize (w1.alloc (.cells #[.slice none 0 0, .int .i64 134217728, .bool false, .int .i64 0, .bool false] 31)) = W0 at *
  generalize w1.heap.size = r at *
  go_loopw [10] (fun i wr => ∃ (k : Nat) (st : St) (sl : By → Value), k ≤ l.length ∧ i = .int .i64 (k : Int) ∧ Duo w.heap.size wr q m r st st sl ∧ Below w.heap.size w wr) (fun i _ => l.length - (intOf i).toNat)
  case atStart => exact ⟨0, st0, _, Nat.zero_le _, rfl, hd0, hbw0⟩
  case round =>
    clear hd0 hbw0
    obtain ⟨k, st, sl, hk, rfl, hD, hbw⟩ := hrel
    by_cases hkn : k < l.length
    case neg =>
      have t1 : ¬ (k : Int) < (l.length : Int) := by omega
      have hcr := crash_any q m st sl (.slice none 0 0) [] wr hD.pa (Rd.nil _ _) (fun h0 => absurd h0 (by simp))
      have HD := Lib.hid (And.intro hD hbw)
      clear hD hbw
      go_wp2_with fail
      refine hcr.mono ?_
      rintro e W1 ⟨rfl, sl1, hp1, ho1, hn1⟩
      have hc1 := HD.out.1.p hp1 ho1 (fun k hk => .inl (hn1 k hk))
      have H1 := Lib.hid (And.intro hc1.1 (HD.out.2.trans hc1.2))
      clear hp1 ho1 hn1 hc1 hcr HD
      obtain ⟨s1, fv, rl, hra⟩ := H1.out.1.ra
      have hrc := rcrash_any r st s1 fv rl _ (.slice none 0 0) [] W1 hra (Rd.nil _ _) (fun h0 => absurd h0 (by simp))
      go_wp2_with fail
      refine hrc.mono ?_
      rintro e W2 ⟨rfl, ho2, s2, fv2, rl2, hr2⟩
      have hc2 := H1.out.1.r hr2 ho2
      have HD2 := Lib.hid (And.intro (Tri.of_duo hc2.1) (H1.out.2.trans hc2.2))
      obtain ⟨s0, hs0⟩ : ∃ s0, s0 = crash st [] := ⟨_, rfl⟩
      rw [← hs0] at HD2
      have hrm := room_any (.slice b2a b2.length b2c) b2 W2 (rd_low HB2.out.1 HB2.out.2.1 HD2.out.2) (by have := HB2.out.2.2; omega)
      clear ho2 hr2 hc2 hrc hra H1 hs0
      go_wp2_with fail
      refine hrm.mono ?_
      rintro e W3 ⟨rfl, hblk3, hb3⟩
      obtain ⟨g, hg⟩ : ∃ g, g = W2.heap.size := ⟨_, rfl⟩
      rw [← hg] at hblk3 ⊢
      have HG : Hid (w.heap.size ≤ g) := Lib.hid (by rw [hg]; exact HD2.out.2.size)
      obtain ⟨X3, hT3, hX3⟩ : ∃ X3, Tri w.heap.size X3 W3 q m r s0 s0 sl1 ∧ X3 g := ⟨_, HD2.out.1.step (Out.of_below (fun _ => False) hb3) (fun _ _ h => h.elim), .inr ⟨by omega, by rw [hg]; exact Nat.lt_of_lt_of_le (hg ▸ hblk3.lt) (Nat.le_refl _)⟩⟩
      have HT3 := Lib.hid (And.intro hT3 (And.intro hX3 (And.intro hblk3 (HD2.out.2.trans (hb3.mono HD2.out.2.size)))))
      have hcp := copy_any q m s0 sl1 W3 hT3.pa
      clear hrm hT3 hX3 hblk3 hb3 HD2 hg
      go_wp2_with fail
      refine hcp.mono ?_
      rintro e W4 ⟨q2, m2, sl4, rfl, hp4, hb4, hf4⟩
      obtain ⟨X4, hT4, hX4, hXq⟩ : ∃ X4, Tri w.heap.size X4 W4 q m r s0 s0 sl1 ∧ X4 g ∧ ∀ k, foot q2 m2 s0.fs sl4 k → X4 k := ⟨_, HT3.out.1.step (Out.of_below (fun _ => False) hb4) (fun _ _ h => h.elim), .inl HT3.out.2.1, fun k hk => .inr ⟨hf4 k hk, hp4.foot_lt hk⟩⟩
      have HT4 := Lib.hid (And.intro hT4 (And.intro hX4 (And.intro (HT3.out.2.2.1.below hb4 HT3.out.2.2.1.lt) (HT3.out.2.2.2.trans (hb4.mono HT3.out.2.2.2.size)))))
      have HQ4 : Hid (PA W4 q2 m2 s0 sl4 ∧ (∀ k, foot q2 m2 s0.fs sl4 k → X4 k) ∧ (∀ k, foot q2 m2 s0.fs sl4 k → g < k ∧ w.heap.size ≤ k)) := Lib.hid ⟨hp4, hXq, fun k hk => by have h1 := hf4 k hk; have h2 := HT3.out.2.2.1.lt; have h3 := HT3.out.2.2.2.size; omega⟩
      have hap := append_any q m s0 sl1 ZZ b2 (.slice (some ⟨g, 0, none⟩) b2.length (b2.length + 3)) W4 hT4.pa (by decide) (room_rd HT4.out.2.2.1) (by have := HB2.out.2.2; omega) (fun _ g' hg' => by cases hg'; exact ⟨HT4.out.2.2.1.lt, fun e => (hT4.fb q (.inl rfl)).2 (e ▸ hX4)⟩)
      clear hcp hp4 hb4 hf4 hT4 hX4 hXq HT3
      go_wp2_with fail
      refine hap.mono ?_
      rintro e W5 ⟨rfl, sl5, hp5, ho5, hn5⟩
      have hc5 := HT4.out.1.p hp5 ho5 hn5
      have hk5 := HT4.out.1.others ho5
      have HT5 := Lib.hid (And.intro hc5.1 (And.intro HT4.out.2.1 (And.intro ((hk5 g HT4.out.2.1).trans HT4.out.2.2.1) (HT4.out.2.2.2.trans hc5.2))))
      have HQ5 := Lib.hid (And.intro (HQ4.out.1.keep (fun k hk => hk5 k (HQ4.out.2.1 k hk))) HQ4.out.2)
      clear hap hp5 ho5 hn5 hc5 hk5 HT4 HQ4
      obtain ⟨s1, fv, rl, hra⟩ := HT5.out.1.ra
      have hrp := rappend_any r s0 s1 fv rl _ ZZ b2 (.slice b2a b2.length b2c) W5 hra (by decide) (rd_low HB2.out.1 HB2.out.2.1 HT5.out.2.2.2) (by have := HB2.out.2.2; omega) (fun h0 g' hg' => ⟨by have h1 := HB2.out.2.1 (by first | exact h0 | omega) g' hg'; have h2 := HT5.out.2.2.2.size; omega, fun e => by have h1 := HB2.out.2.1 (by first | exact h0 | omega) g' hg'; have h2 := hra.kq.1; omega⟩)
      go_wp2_with fail
      refine hrp.mono ?_
      rintro e W6 ⟨rfl, ho6, s6, fv6, rl6, hr6⟩
      have hc6 := HT5.out.1.r hr6 ho6
      obtain ⟨s5, hs5⟩ : ∃ s5, s5 = (app s0 ZZ b2).2 := ⟨_, rfl⟩
      rw [← hs5] at hc6
      have HT6 := Lib.hid (And.intro hc6.1 (And.intro HT5.out.2.1 (And.intro ((hc6.2.2 g HT5.out.2.1).trans HT5.out.2.2.1) (HT5.out.2.2.2.trans hc6.2.1))))
      have HQ6 := Lib.hid (And.intro (HQ5.out.1.keep (fun k hk => hc6.2.2 k (HQ5.out.2.1 k hk))) HQ5.out.2)
      clear hrp ho6 hr6 hc6 hs5 hra HT5 HQ5
      have hkp := kept_any g (.slice b2a b2.length b2c) b2 W6 HT6.out.2.2.1 (rd_low HB2.out.1 HB2.out.2.1 HT6.out.2.2.2) (by have := HB2.out.2.2; omega)
      go_wp2_with fail
      refine hkp.mono ?_
      rintro e W7 ⟨rfl, hb7⟩
      obtain ⟨X7, hT7, hX7, hXq7⟩ : ∃ X7, Tri w.heap.size X7 W7 q m r s5 s5 sl5 ∧ X7 g ∧ ∀ k, foot q2 m2 s0.fs sl4 k → X7 k := ⟨_, HT6.out.1.step (Out.of_below (fun _ => False) hb7) (fun _ _ h => h.elim), .inl HT6.out.2.1, fun k hk => .inl (HQ6.out.2.1 k hk)⟩
      have hblk6 : Blk W6 g 5 (Lib.byteCells (b2 ++ [77, 77, 77])) := HT6.out.2.2.1
      have hblk7 := hblk6.below hb7 hblk6.lt
      have HT7 := Lib.hid (And.intro hT7 (And.intro hX7 (HT6.out.2.2.2.trans (hb7.mono HT6.out.2.2.2.size))))
      have HQ7 := Lib.hid (And.intro (HQ6.out.1.below hb7) (And.intro hXq7 (And.intro HQ6.out.2.2 hblk7.lt)))
      have hcs0 : ∃ cs : By, cs.length = b2.length + 3 ∧ Blk W7 g 5 (Lib.byteCells cs) := ⟨_, by simp, hblk7⟩
      clear hkp hb7 hT7 hX7 hXq7 hblk7 hblk6 HT6 HQ6
      obtain ⟨NB, hNB⟩ : ∃ NB, NB = b2.length := ⟨_, rfl⟩
      have hNB2 : NB ≤ 65536 := by have := HB2.out.2.2; omega
      rw [← hNB] at hcs0 ⊢
      have HNB := Lib.hid hNB
      clear hNB
      go_wp2_with fail
      go_loopw [13] (fun i wr' => ∃ j : Nat, j ≤ NB ∧ i = .int .i64 (j : Int) ∧ (∃ cs : By, cs.length = NB + 3 ∧ Blk wr' g 5 (Lib.byteCells cs)) ∧ Out (fun x => x = g) W7 wr') (fun i _ => NB - (intOf i).toNat)
      case atStart => exact ⟨0, Nat.zero_le _, rfl, hcs0, Out.refl _ _⟩
      case round =>
        clear hcs0
        obtain ⟨j, hj, rfl, ⟨cs, hcs, hbk⟩, ho7⟩ := hrel
        by_cases hjn : j < NB
        case pos =>
          have t5 : (j : Int) < (NB : Int) := by omega
          obtain ⟨ch, hch⟩ : ∃ ch, cs[j]? = some ch := ⟨_, List.getElem?_eq_getElem (by omega)⟩
          have z1 := hbk.cell j (bc_at hch)
          have hfz := hbk.frozen j
          have t6 := u8_inc ch
          have hset := hbk.set j (.int .u8 ((ch + 1).toNat : Int))
          rw [bc_set] at hset
          have HR := Lib.hid (And.intro hset (And.intro (ho7.set ⟨g, j, none⟩ (.int .u8 ((ch + 1).toNat : Int)) rfl) (show (cs.set j (ch + 1)).length = NB + 3 from by rw [List.length_set]; exact hcs)))
          clear hset hbk ho7 hch hcs
          go_wp2_with fail
          go_roundw
          case rel => exact ⟨j + 1, by omega, by go_num, ⟨_, HR.out.2.2, HR.out.1⟩, HR.out.2.1⟩
          case measure => simp [intOf]; omega
        case neg =>
          have t5 : ¬ (j : Int) < (NB : Int) := by omega
          generalize wr = W8 at *
          obtain ⟨X8, hT8, hXq8⟩ : ∃ X8, Tri w.heap.size X8 W8 q m r s5 s5 sl5 ∧ ∀ k, foot q2 m2 s0.fs sl4 k → X8 k := ⟨_, HT7.out.1.step ho7 (fun k _ hk => by rw [hk]; exact HT7.out.2.1), fun k hk => .inl (HQ7.out.2.1 k hk)⟩
          have hq8 := HQ7.out.1.keep (W' := W8) (fun k hk => ho7.block k (HQ7.out.1.foot_lt hk) (fun e => by have := HQ7.out.2.2.1 k hk; omega))
          have hb8 : Below w.heap.size w W8 := HT7.out.2.2.trans (ho7.below HT7.out.2.2.size (fun x hx => by
            have h1 : x < W7.heap.size := by rw [hx]; exact HQ7.out.2.2.2
            rcases Nat.lt_or_ge x w.heap.size with h2 | h2
            · exact absurd HG.out (by rw [← hx]; omega)
            · exact h2))
          have HT8 := Lib.hid (And.intro hT8 (And.intro hXq8 hb8))
          have HQ8 := Lib.hid (And.intro hq8 HQ7.out.2.2.1)
          have HW8 : Hid (w.heap.size ≤ W8.heap.size) := Lib.hid HT8.out.2.2.size
          have hr1 := read_any q m s5 sl5 ZZ W8 hT8.pa (by decide)
          obtain ⟨X1, hX1⟩ : ∃ X1, X1 = (if askedC s5.down ZZ = 0 then gB s5.fs ZZ else []) := ⟨_, rfl⟩
          obtain ⟨cd, hcd⟩ : ∃ cd : Int, cd = (askedC s5.down ZZ : Int) := ⟨_, rfl⟩
          have HRD : Hid (∀ W, PA W q m s5 sl5 → Calls Try.prog 18 #[.pointer (some ⟨q, 0, none⟩), .string ⟨#[122, 122]⟩] W fun e w' => ∃ v', e = .returned (.tuple #[v', .int .i64 cd]) ∧ OwnB w' W.heap.size v' X1 ∧ Below W.heap.size W w') := Lib.hid (fun W hW => by rw [hX1, hcd]; exact read_any q m s5 sl5 ZZ W hW (by decide))
          clear hT8 hXq8 hq8 hb8 hr1 hX1 hcd ho7 hcs hbk HT7 HQ7
          go_wp2_with fail
          refine (HRD.out W8 HT8.out.1.pa).mono ?_
          rintro e W9 ⟨vx, rfl, hox, hb9⟩
          obtain ⟨xa, xc, hxe⟩ := hox.rd.slice
          subst hxe
          obtain ⟨X9, hT9, hXq9, hXx9⟩ : ∃ X9, Tri w.heap.size X9 W9 q m r s5 s5 sl5 ∧ (∀ k, foot q2 m2 s0.fs sl4 k → X9 k) ∧ ∀ y, W8.heap.size ≤ y → y < W9.heap.size → X9 y := ⟨_, HT8.out.1.step (Out.of_below (fun _ => False) hb9) (fun _ _ h => h.elim), fun k hk => .inl (HT8.out.2.1 k hk), fun y h1 h2 => .inr ⟨h1, h2⟩⟩
          have HT9 := Lib.hid (And.intro hT9 (And.intro hXq9 (And.intro hXx9 (HT8.out.2.2.trans (hb9.mono HT8.out.2.2.size)))))
          have HQ9 := Lib.hid (And.intro (HQ8.out.1.below hb9) (And.intro HQ8.out.2 (show ∀ k, foot q2 m2 s0.fs sl4 k → k < W8.heap.size from fun k hk => HQ8.out.1.foot_lt hk)))
          have HX9 := Lib.hid (And.intro hox hb9.size)
          clear hox hb9 hT9 hXq9 hXx9
          go_wp2_with fail
          refine (HRD.out W9 HT9.out.1.pa).mono ?_
          rintro e W10 ⟨vy, rfl, hoy, hb10⟩
          obtain ⟨ya, yc, hye⟩ := hoy.rd.slice
          subst hye
          obtain ⟨X10, hT10, hXq10, hXx10⟩ : ∃ X10, Tri w.heap.size X10 W10 q m r s5 s5 sl5 ∧ (∀ k, foot q2 m2 s0.fs sl4 k → X10 k) ∧ ∀ y, W8.heap.size ≤ y → y < W10.heap.size → X10 y := ⟨_, HT9.out.1.step (Out.of_below (fun _ => False) hb10) (fun _ _ h => h.elim), fun k hk => .inl (HT9.out.2.1 k hk), fun y h1 h2 => by
            rcases Nat.lt_or_ge y W9.heap.size with h3 | h3
            · exact .inl (HT9.out.2.2.1 y h1 h3)
            · exact .inr ⟨h3, h2⟩⟩
          have hox10 : W10.ownsRow W8.heap.size 5 1 (.slice xa X1.length xc) X1.length (Lib.byteCells X1) := World.ownsRow.kept HX9.out.1 (grown_of_below hb10) (Classical.em _)
          have HT10 := Lib.hid (And.intro hT10 (And.intro hXq10 (And.intro hXx10 (HT9.out.2.2.2.trans (hb10.mono HT9.out.2.2.2.size)))))
          have HQ10 := Lib.hid (And.intro (HQ9.out.1.below hb10) HQ9.out.2)
          have HX10 : Hid (W10.ownsRow W8.heap.size 5 1 (.slice xa X1.length xc) X1.length (Lib.byteCells X1) ∧ W10.ownsRow W9.heap.size 5 1 (.slice ya X1.length yc) X1.length (Lib.byteCells X1) ∧ (∀ y, Value.ownBlock (.slice xa X1.length xc) = some y → W8.heap.size ≤ y ∧ y < W9.heap.size) ∧ (∀ y, Value.ownBlock (.slice ya X1.length yc) = some y → W9.heap.size ≤ y ∧ y < W10.heap.size) ∧ W8.heap.size ≤ W9.heap.size ∧ W9.heap.size ≤ W10.heap.size) := Lib.hid ⟨hox10, hoy, fun y hy => HX9.out.1.lt y hy, fun y hy => hoy.lt y hy, HX9.out.2, hb10.size⟩
          have hown0 := own_fresh W10 3 1
          have hbS : Below W10.heap.size W10 (W10.alloc (.cells #[] 3)) := (Below.refl _ _).alloc (Nat.le_refl _) _
          have hkr := rd_low HK.out.1 HK.out.2.1 (HT10.out.2.2.2.trans (hbS.mono HT10.out.2.2.2.size))
          obtain ⟨i0, hi, hz0, hz1, hz2⟩ := info_parts int_row
          have hkz2 := HK.out.2.2
          have hsS : W10.heap.size ≤ (W10.alloc (.cells #[] 3)).heap.size := hbS.size
          clear hoy hb10 hT10 hXq10 hXx10 hox10 HT9 HQ9 HX9 HT8 HQ8 HRD
          go_wp2_with (at_builtin; go_loud (refine wpList_app (by rfl) _ _ 34 rfl 3 W10.heap.size i0 (.int .i64 0) 1 8 Try.underlying34 hi hz0 hz1 hz2 rfl (by decide) (.slice (some ⟨W10.heap.size, 0, none⟩) 0 0) 0 [] (by rfl) hown0 (.slice kva ks.length kvc) ks.length (ic ks) (by rfl) hkr (by intro u hu; unfold ic at hu; obtain ⟨c, _, rfl⟩ := List.mem_map.1 hu; rfl) (by unfold maxLen; omega) (by omega) hsS ?_))
          intro vk1 w3 hown1 hg3 hob3
          have hown1' : w3.ownsRow W10.heap.size 3 1 vk1 ks.length (ic ks) := own_cast hown1 (by simp) (by simp)
          have hb3 := hbS.grown hg3 hsS (fun y hy => by
            have e : W10.heap.size = y := (by simpa [Value.ownBlock] using hy)
            omega)
          have hs3 := hb3.size
          have hrx := rd_new w3 3 [.int .i64 77] 1 rfl
          have hs3' : W10.heap.size ≤ (w3.alloc (.cells #[.int .i64 77] 3)).heap.size := by simp; omega
          clear hown0 hkr hown1 hg3 hob3 hbS hsS
          go_wp2_with (at_builtin; go_loud (refine wpList_app (by rfl) _ _ 34 rfl 3 W10.heap.size i0 (.int .i64 0) 1 8 Try.underlying34 hi hz0 hz1 hz2 rfl (by decide) vk1 ks.length (ic ks) (by rfl) (hown1'.alloc _) (.slice (some ⟨w3.heap.size, 0, none⟩) 1 1) 1 [.int .i64 77] (by rfl) hrx (by simp [Value.oneCell']) (by unfold maxLen; omega) (by omega) hs3' ?_))
          intro vk2 W11 hown2 hg4 hob4
          have hb11 : Below W10.heap.size W10 W11 := (hb3.alloc hs3 (.cells #[.int .i64 77] 3)).grown hg4 hs3' (fun y hy => (hown1'.lt y hy).1)
          obtain ⟨X11, hT11, hXq11, hXx11⟩ : ∃ X11, Tri w.heap.size X11 W11 q m r s5 s5 sl5 ∧ (∀ k, foot q2 m2 s0.fs sl4 k → X11 k) ∧ ∀ y, W8.heap.size ≤ y → y < W11.heap.size → X11 y := ⟨_, HT10.out.1.step (Out.of_below (fun _ => False) hb11) (fun _ _ h => h.elim), fun k hk => .inl (HT10.out.2.1 k hk), fun y h1 h2 => by
            rcases Nat.lt_or_ge y W10.heap.size with h3 | h3
            · exact .inl (HT10.out.2.2.1 y h1 h3)
            · exact .inr ⟨h3, h2⟩⟩
          have hrk := Rd.of_own hown2
          obtain ⟨kb, ko, kc2, rfl, hkc, hkcc⟩ := hrk.pos (Nat.succ_pos _)
          have hko : ko = 0 := by
            rcases hown2.2 with ⟨h, _⟩ | ⟨g', _, _, h, _⟩
            · cases h
            · cases h; rfl
          subst hko
          have hkbl := hown2.lt kb rfl
          have HK11 : Hid (Rd W11 1 (.slice (some ⟨kb, 0, none⟩) (ks.length + 1) kc2) (ks.length + 1) (ic ks ++ [.int .i64 77]) ∧ W10.heap.size ≤ kb ∧ kb < W11.heap.size ∧ ks.length + 1 ≤ kc2) := Lib.hid ⟨hrk, hkbl.1, hkbl.2, hkc⟩
          have HT11 := Lib.hid (And.intro hT11 (And.intro hXq11 (And.intro hXx11 (HT10.out.2.2.2.trans (hb11.mono HT10.out.2.2.2.size)))))
          have HQ11 := Lib.hid (And.intro (HQ10.out.1.below hb11) HQ10.out.2)
          have HX11 : Hid (W11.ownsRow W8.heap.size 5 1 (.slice xa X1.length xc) X1.length (Lib.byteCells X1) ∧ W11.ownsRow W9.heap.size 5 1 (.slice ya X1.length yc) X1.length (Lib.byteCells X1)) := Lib.hid ⟨World.ownsRow.kept HX10.out.1 (grown_of_below hb11) (Classical.em _), World.ownsRow.kept HX10.out.2.1 (grown_of_below hb11) (Classical.em _)⟩
          have hs1110 := hb11.size
          have HS11 := Lib.hid hs1110
          clear hown2 hg4 hob4 hb11 hT11 hXq11 hXx11 hrk hkc hkcc hkbl hown1' hb3 hs3 hs3' hrx HT10 HQ10 hs1110 hi hz0 hz1 hz2
          have hcv := Go.Joins.run_convert_bytes_const_at (P := Try.prog) W11 33 5 #[.int .u8 109, .int .u8 111, .int .u8 114, .int .u8 101] 4 4 W11.heap.size rfl Try.underlying33 Try.underlying5
          have hcr := const_rd W11 [109, 111, 114, 101]
          obtain ⟨hcr1, hcr2⟩ := hcr
          have hcr1' : Rd (W11.alloc (.cells #[.int .u8 109, .int .u8 111, .int .u8 114, .int .u8 101] 5 (4, 5))) 1 (.slice (some ⟨W11.heap.size, 0, none⟩) 4 4) 4 (Lib.byteCells [109, 111, 114, 101]) := hcr1
          have hcr2' : Below W11.heap.size W11 (W11.alloc (.cells #[.int .u8 109, .int .u8 111, .int .u8 114, .int .u8 101] 5 (4, 5))) := hcr2
          have hszc : (W11.alloc (.cells #[.int .u8 109, .int .u8 111, .int .u8 114, .int .u8 101] 5 (4, 5))).heap.size = W11.heap.size + 1 := by simp
          have HC := Lib.hid (And.intro hcr1' (And.intro hcr2' hszc))
          clear hcr1 hcr2 hcr1' hcr2' hszc
          go_wp2_with fail
          generalize (W11.alloc (.cells #[.int .u8 109, .int .u8 111, .int .u8 114, .int .u8 101] 5 (4, 5))) = W12 at *
          clear hcv
          have hap := append_any q2 m2 s0 sl4 [97] [109, 111, 114, 101] (.slice (some ⟨W11.heap.size, 0, none⟩) 4 4) W12 (HQ11.out.1.below HC.out.2.1) (by decide) HC.out.1 (by decide) (fun _ g' hg' => by
            have e : W11.heap.size = g' := (by simpa [Value.ownBlock] using hg')
            have h1 := HC.out.2.2
            have h2 := HQ11.out.1.blk.lt
            omega)
          obtain ⟨ac, hac⟩ : ∃ ac : Int, ac = ((app s0 [97] [109, 111, 114, 101]).1 : Int) := ⟨_, rfl⟩
          rw [← hac] at hap
          clear hac
          refine hap.mono ?_
          rintro e W13 ⟨rfl, slA, hpA, hoA, hnA⟩
          have hs12 : W12.heap.size = W11.heap.size + 1 := HC.out.2.2
          have hs13 := hoA.size
          have hs8 := HX10.out.2.2.2.2
          have hs11 := HS11.out
          have hfo : ∀ k, foot q2 m2 s0.fs sl4 k → k < W8.heap.size := HQ11.out.2.2
          obtain ⟨X13, hT13, hXq13, hXx13⟩ : ∃ X13, Tri w.heap.size X13 W13 q m r s5 s5 sl5 ∧ (∀ k, foot q2 m2 s0.fs sl4 k → X13 k) ∧ ∀ y, W8.heap.size ≤ y → y < W13.heap.size → X13 y := ⟨_, (HT11.out.1.step (Out.of_below (fun _ => False) HC.out.2.1) (fun _ _ h => h.elim)).step hoA (fun k _ hk => .inl (HT11.out.2.1 k hk)), fun k hk => .inl (.inl (HT11.out.2.1 k hk)), fun y h1 h2 => by
            rcases Nat.lt_or_ge y W12.heap.size with h3 | h3
            · rcases Nat.lt_or_ge y W11.heap.size with h4 | h4
              · exact .inl (.inl (HT11.out.2.2.1 y h1 h4))
              · exact .inl (.inr ⟨h4, h3⟩)
            · exact .inr ⟨h3, h2⟩⟩
          have hb13 : Below w.heap.size w W13 := (HT11.out.2.2.2.trans (HC.out.2.1.mono HT11.out.2.2.2.size)).trans (below_of_out hoA (by have := HT11.out.2.2.2.size; omega) (fun k _ hk => (HQ11.out.2.1 k hk).2))
          have hbk13 : ∀ y, W8.heap.size ≤ y → y < W11.heap.size → W13.heap[y]? = W11.heap[y]? := fun y h1 h2 => (hoA.block y (by omega) (fun hf => by have := hfo y hf; omega)).trans (HC.out.2.1.block y h2)
          have hfA : ∀ k, foot q2 m2 (app s0 [97] [109, 111, 114, 101]).2.fs slA k → X13 k ∧ (k < W8.heap.size ∨ W12.heap.size ≤ k) ∧ w.heap.size ≤ k := fun k hk => by
            rcases hnA k hk with h1 | h1
            · exact ⟨hXq13 k h1, .inl (hfo k h1), (HQ11.out.2.1 k h1).2⟩
            · exact ⟨hXx13 k (by omega) (hpA.foot_lt hk), .inr h1, by have := HT11.out.2.2.2.size; omega⟩
          obtain ⟨sA, hsA⟩ : ∃ sA, sA = (app s0 [97] [109, 111, 114, 101]).2 := ⟨_, rfl⟩
          rw [← hsA] at hpA hfA
          have hk13 : Rd W13 1 (.slice (some ⟨kb, 0, none⟩) (ks.length + 1) kc2) (ks.length + 1) (ic ks ++ [.int .i64 77]) := rd_keep HK11.out.1 (fun y hy => by cases hy; exact hbk13 kb (by have := HK11.out.2.1; omega) HK11.out.2.2.1)
          have hx13 := own_keepB HX11.out.1 (W' := W13) (fun y hy => hbk13 y (by have := HX10.out.2.2.1 y hy; omega) (by have := HX10.out.2.2.1 y hy; omega))
          have hy13 := own_keepB HX11.out.2 (W' := W13) (fun y hy => hbk13 y (by have := HX10.out.2.2.2.1 y hy; omega) (by have := HX10.out.2.2.2.1 y hy; omega))
          have HT13 := Lib.hid (And.intro hT13 (And.intro hXx13 hb13))
          have HQ13 := Lib.hid (And.intro hpA hfA)
          have HK13 := Lib.hid (And.intro hk13 (And.intro hx13 hy13))
          have hkc := HK11.out.2.2.2
          have HSZ := Lib.hid (And.intro hs12 (And.intro hs13 (And.intro hs8 hs11)))
          have hcr := crash_any q2 m2 sA slA (.slice (some ⟨kb, 0, none⟩) ks.length kc2) ks W13 hpA (rd_front HK13.out.1 (by simp [ic])) (fun _ g' hg' => by
            cases hg'
            exact ⟨show kb < W13.heap.size from by have := HK11.out.2.2.1; omega, fun hf => by have h1 := (hfA kb hf).2.1; have h2 := HK11.out.2.2.1; have h3 := HK11.out.2.1; omega⟩)
          clear hap hoA hnA hs12 hs13 hs8 hs11 hfo hT13 hXq13 hXx13 hb13 hbk13 hfA hpA hsA hk13 hx13 hy13 HT11 HQ11 HX11
          go_wp2_with fail
          refine hcr.mono ?_
          rintro e W14 ⟨rfl, slB, hpB, hoB, hnB⟩
          have hbk14 : ∀ y, W8.heap.size ≤ y → y < W11.heap.size → W14.heap[y]? = W13.heap[y]? := fun y h1 h2 => hoB.block y (by have h3 := HSZ.out; omega) (fun hf => by have h3 := (HQ13.out.2 y hf).2.1; have h4 := HSZ.out; omega)
          have hk14 := rd_keep HK13.out.1 (W' := W14) (fun y hy => by cases hy; exact hbk14 kb (by have h1 := HK11.out.2.1; have h2 := HSZ.out; omega) HK11.out.2.2.1)
          have hx14 := own_keepB HK13.out.2.1 (W' := W14) (fun y hy => hbk14 y (by have := HX10.out.2.2.1 y hy; omega) (by have h1 := HX10.out.2.2.1 y hy; have h2 := HSZ.out; omega))
          have hy14 := own_keepB HK13.out.2.2 (W' := W14) (fun y hy => hbk14 y (by have h1 := HX10.out.2.2.2.1 y hy; have h2 := HSZ.out; omega) (by have h1 := HX10.out.2.2.2.1 y hy; have h2 := HSZ.out; omega))
          have hT14 := HT13.out.1.step hoB (fun k _ hk => (HQ13.out.2 k hk).1)
          have hb14 : Below w.heap.size w W14 := HT13.out.2.2.trans (below_of_out hoB HT13.out.2.2.size (fun k _ hk => (HQ13.out.2 k hk).2.2))
          have HT14 := Lib.hid (And.intro hT14 (And.intro hb14 hoB.size))
          have HK14 := Lib.hid (And.intro hk14 (And.intro hx14 hy14))
          have HXX : Hid (∀ y, W8.heap.size ≤ y → y < W11.heap.size → X13 y) := Lib.hid (fun y h1 h2 => HT13.out.2.1 y h1 (by have h3 := HSZ.out; omega))
          clear hcr hpB hoB hnB hbk14 hk14 hx14 hy14 hT14 hb14 HT13 HQ13 HK13
          go_wp2_with fail
          refine (known_any _).mono ?_
          rintro e W15 ⟨rfl, hb15⟩
          have hT15 := HT14.out.1.step (Out.of_below (fun _ => False) hb15) (fun _ _ h => h.elim)
          have hx15 := own_keepB HK14.out.2.1 (W' := W15) (fun y hy => hb15.block y (by have h1 := HX10.out.2.2.1 y hy; have h2 := HSZ.out; have h3 := HT14.out.2.2; omega))
          have hy15 := own_keepB HK14.out.2.2 (W' := W15) (fun y hy => hb15.block y (by have h1 := HX10.out.2.2.2.1 y hy; have h2 := HSZ.out; have h3 := HT14.out.2.2; omega))
          have hbA : Below W15.heap.size W15 (W15.alloc (.cells #[.slice xa X1.length xc, .slice ya X1.length yc] 33)) := (Below.refl _ _).alloc (Nat.le_refl _) _
          have hr16 := rd_new W15 33 [.slice xa X1.length xc, .slice ya X1.length yc] 2 rfl
          have hsz15 : W14.heap.size ≤ W15.heap.size := hb15.size
          obtain ⟨cx, hcx, hcxl⟩ := ApRow.of_own (own_keepB hx15 (W' := W15.alloc (.cells #[.slice xa X1.length xc, .slice ya X1.length yc] 33)) (fun y hy => hbA.block y (hx15.lt y hy).2))
          obtain ⟨cy, hcy, hcyl⟩ := ApRow.of_own (own_keepB hy15 (W' := W15.alloc (.cells #[.slice xa X1.length xc, .slice ya X1.length yc] 33)) (fun y hy => hbA.block y (hy15.lt y hy).2))
          have hap := apart_any W15.heap.size 2 [.slice xa X1.length xc, .slice ya X1.length yc] _ rfl (by decide) hr16 (fun jj vv hv => by
            match jj, hv with
            | 0, hv => cases hv; exact ⟨cx, hcx, hcxl, fun h => absurd h (Nat.not_lt_zero _)⟩
            | 1, hv => cases hv; exact ⟨cy, hcy, hcyl, fun h => absurd h (Nat.not_lt_zero _)⟩) (fun i1 j1 v1 u1 hne h1 h2 y hy hy2 => by
            match i1, j1, h1, h2 with
            | 0, 0, _, _ => exact hne rfl
            | 1, 1, _, _ => exact hne rfl
            | 0, 1, h1, h2 => cases h1; cases h2; have a1 := HX10.out.2.2.1 y hy; have a2 := HX10.out.2.2.2.1 y hy2; omega
            | 1, 0, h1, h2 => cases h1; cases h2; have a1 := HX10.out.2.2.1 y hy2; have a2 := HX10.out.2.2.2.1 y hy; omega) (fun v1 hv1 y hy e => by
            simp only [List.mem_cons, List.not_mem_nil, or_false] at hv1
            rcases hv1 with rfl | rfl
            · have := (hx15.lt y hy).2; omega
            · have := (hy15.lt y hy).2; omega)
          have hF17 : ∀ y, apF [.slice xa X1.length xc, .slice ya X1.length yc] y → W8.heap.size ≤ y ∧ y < W10.heap.size := fun y hy => by
            obtain ⟨v1, hv1, hy⟩ := hy
            simp only [List.mem_cons, List.not_mem_nil, or_false] at hv1
            rcases hv1 with rfl | rfl
            · have h1 := HX10.out.2.2.1 y hy; have h2 := HX10.out.2.2.2.2; omega
            · have h1 := HX10.out.2.2.2.1 y hy; have h2 := HX10.out.2.2.2.2; omega
          have HT15 := Lib.hid (And.intro hT15 (And.intro (HT14.out.2.1.trans (hb15.mono HT14.out.2.1.size)) (And.intro hbA hsz15)))
          have HK15 := Lib.hid (rd_keep HK14.out.1 (W' := W15) (fun y hy => by cases hy; exact hb15.block kb (by have h1 := HK11.out.2.2.1; have h2 := HSZ.out; have h3 := HT14.out.2.2; omega)))
          have HAP := Lib.hid hap
          have HF17 := Lib.hid hF17
          clear hT15 hx15 hy15 hbA hr16 hsz15 hcx hcy hcxl hcyl hap hF17 hb15 HT14 HK14
          go_wp2_with fail
          refine HAP.out.mono ?_
          rintro e W17 ⟨rfl, ho17⟩
          have hT17 := (HT15.out.1.step (Out.of_below (fun _ => False) HT15.out.2.2.1) (fun _ _ h => h.elim)).step ho17 (fun y _ hy => .inl (.inl (.inl (HXX.out y (HF17.out y hy).1 (by have h1 := (HF17.out y hy).2; have h2 := HSZ.out; omega)))))
          have hal := alike_low _ q m r s5 sl5 W17 hT17.duo
          have hkl : kb < W15.heap.size := by have h1 := HK11.out.2.2.1; have h2 := HSZ.out; have h3 := HT15.out.2.2.2; have h4 := HK15.out; exact rd_blt h4 (Nat.succ_pos _)
          have hk17 := rd_keep HK15.out (W' := W17) (fun y hy => by
            cases hy
            exact (ho17.block kb (by have := HT15.out.2.2.1.size; omega) (fun hf => by have h1 := (HF17.out kb hf).2; have h2 := HK11.out.2.1; omega)).trans (HT15.out.2.2.1.block kb hkl))
          have hb17 : Below w.heap.size w W17 := (HT15.out.2.1.trans (HT15.out.2.2.1.mono HT15.out.2.1.size)).trans (below_of_out ho17 (by have h1 := HT15.out.2.1.size; have h2 := HT15.out.2.2.1.size; omega) (fun y _ hy => by have h1 := (HF17.out y hy).1; have h2 := HW8.out; omega))
          have HE := Lib.hid (And.intro hk17 hb17)
          clear hT17 hkl hk17 hb17 ho17 HAP
          go_wp2_with fail
          refine hal.mono ?_
          rintro e W18 ⟨rfl, hb18⟩
          obtain ⟨kb', ko', kc', e9, hk9, hk10⟩ := (HE.out.1.below hb18).pos (Nat.succ_pos _)
          cases e9
          have z9 := hk10 ks.length (.int .i64 77) (by rw [List.getElem?_append_right (by simp [ic])]; simp [ic])
          rw [Nat.zero_add] at z9
          have HF := Lib.hid (HE.out.2.trans (hb18.mono HE.out.2.size))
          clear hal hb18 hk9 hk10 HE
          go_wp2_with fail
          go_ret
          exact ⟨rfl, HF.out⟩
    case pos =>
    have t1 : (k : Int) < (l.length : Int) := by omega
    by_cases hk1 : (k : Int) < 120
    case neg =>
      have hcr := crash_any q m st sl (.slice none 0 0) [] wr hD.pa (Rd.nil _ _) (fun h0 => absurd h0 (by simp))
      have HD := Lib.hid (And.intro hD hbw)
      clear hD hbw
      go_wp2_with fail
      refine hcr.mono ?_
      rintro e W1 ⟨rfl, sl1, hp1, ho1, hn1⟩
      have hc1 := HD.out.1.p hp1 ho1 (fun k hk => .inl (hn1 k hk))
      have H1 := Lib.hid (And.intro hc1.1 (HD.out.2.trans hc1.2))
      clear hp1 ho1 hn1 hc1 hcr HD
      obtain ⟨s1, fv, rl, hra⟩ := H1.out.1.ra
      have hrc := rcrash_any r st s1 fv rl _ (.slice none 0 0) [] W1 hra (Rd.nil _ _) (fun h0 => absurd h0 (by simp))
      go_wp2_with fail
      refine hrc.mono ?_
      rintro e W2 ⟨rfl, ho2, s2, fv2, rl2, hr2⟩
      have hc2 := H1.out.1.r hr2 ho2
      have HD2 := Lib.hid (And.intro (Tri.of_duo hc2.1) (H1.out.2.trans hc2.2))
      obtain ⟨s0, hs0⟩ : ∃ s0, s0 = crash st [] := ⟨_, rfl⟩
      rw [← hs0] at HD2
      have hrm := room_any (.slice b2a b2.length b2c) b2 W2 (rd_low HB2.out.1 HB2.out.2.1 HD2.out.2) (by have := HB2.out.2.2; omega)
      clear ho2 hr2 hc2 hrc hra H1 hs0
      go_wp2_with fail
      refine hrm.mono ?_
      rintro e W3 ⟨rfl, hblk3, hb3⟩
      obtain ⟨g, hg⟩ : ∃ g, g = W2.heap.size := ⟨_, rfl⟩
      rw [← hg] at hblk3 ⊢
      have HG : Hid (w.heap.size ≤ g) := Lib.hid (by rw [hg]; exact HD2.out.2.size)
      obtain ⟨X3, hT3, hX3⟩ : ∃ X3, Tri w.heap.size X3 W3 q m r s0 s0 sl1 ∧ X3 g := ⟨_, HD2.out.1.step (Out.of_below (fun _ => False) hb3) (fun _ _ h => h.elim), .inr ⟨by omega, by rw [hg]; exact Nat.lt_of_lt_of_le (hg ▸ hblk3.lt) (Nat.le_refl _)⟩⟩
      have HT3 := Lib.hid (And.intro hT3 (And.intro hX3 (And.intro hblk3 (HD2.out.2.trans (hb3.mono HD2.out.2.size)))))
      have hcp := copy_any q m s0 sl1 W3 hT3.pa
      clear hrm hT3 hX3 hblk3 hb3 HD2 hg
      go_wp2_with fail
      refine hcp.mono ?_
      rintro e W4 ⟨q2, m2, sl4, rfl, hp4, hb4, hf4⟩
      obtain ⟨X4, hT4, hX4, hXq⟩ : ∃ X4, Tri w.heap.size X4 W4 q m r s0 s0 sl1 ∧ X4 g ∧ ∀ k, foot q2 m2 s0.fs sl4 k → X4 k := ⟨_, HT3.out.1.step (Out.of_below (fun _ => False) hb4) (fun _ _ h => h.elim), .inl HT3.out.2.1, fun k hk => .inr ⟨hf4 k hk, hp4.foot_lt hk⟩⟩
      have HT4 := Lib.hid (And.intro hT4 (And.intro hX4 (And.intro (HT3.out.2.2.1.below hb4 HT3.out.2.2.1.lt) (HT3.out.2.2.2.trans (hb4.mono HT3.out.2.2.2.size)))))
      have HQ4 : Hid (PA W4 q2 m2 s0 sl4 ∧ (∀ k, foot q2 m2 s0.fs sl4 k → X4 k) ∧ (∀ k, foot q2 m2 s0.fs sl4 k → g < k ∧ w.heap.size ≤ k)) := Lib.hid ⟨hp4, hXq, fun k hk => by have h1 := hf4 k hk; have h2 := HT3.out.2.2.1.lt; have h3 := HT3.out.2.2.2.size; omega⟩
      have hap := append_any q m s0 sl1 ZZ b2 (.slice (some ⟨g, 0, none⟩) b2.length (b2.length + 3)) W4 hT4.pa (by decide) (room_rd HT4.out.2.2.1) (by have := HB2.out.2.2; omega) (fun _ g' hg' => by cases hg'; exact ⟨HT4.out.2.2.1.lt, fun e => (hT4.fb q (.inl rfl)).2 (e ▸ hX4)⟩)
      clear hcp hp4 hb4 hf4 hT4 hX4 hXq HT3
      go_wp2_with fail
      refine hap.mono ?_
      rintro e W5 ⟨rfl, sl5, hp5, ho5, hn5⟩
      have hc5 := HT4.out.1.p hp5 ho5 hn5
      have hk5 := HT4.out.1.others ho5
      have HT5 := Lib.hid (And.intro hc5.1 (And.intro HT4.out.2.1 (And.intro ((hk5 g HT4.out.2.1).trans HT4.out.2.2.1) (HT4.out.2.2.2.trans hc5.2))))
      have HQ5 := Lib.hid (And.intro (HQ4.out.1.keep (fun k hk => hk5 k (HQ4.out.2.1 k hk))) HQ4.out.2)
      clear hap hp5 ho5 hn5 hc5 hk5 HT4 HQ4
      obtain ⟨s1, fv, rl, hra⟩ := HT5.out.1.ra
      have hrp := rappend_any r s0 s1 fv rl _ ZZ b2 (.slice b2a b2.length b2c) W5 hra (by decide) (rd_low HB2.out.1 HB2.out.2.1 HT5.out.2.2.2) (by have := HB2.out.2.2; omega) (fun h0 g' hg' => ⟨by have h1 := HB2.out.2.1 (by first | exact h0 | omega) g' hg'; have h2 := HT5.out.2.2.2.size; omega, fun e => by have h1 := HB2.out.2.1 (by first | exact h0 | omega) g' hg'; have h2 := hra.kq.1; omega⟩)
      go_wp2_with fail
      refine hrp.mono ?_
      rintro e W6 ⟨rfl, ho6, s6, fv6, rl6, hr6⟩
      have hc6 := HT5.out.1.r hr6 ho6
      obtain ⟨s5, hs5⟩ : ∃ s5, s5 = (app s0 ZZ b2).2 := ⟨_, rfl⟩
      rw [← hs5] at hc6
      have HT6 := Lib.hid (And.intro hc6.1 (And.intro HT5.out.2.1 (And.intro ((hc6.2.2 g HT5.out.2.1).trans HT5.out.2.2.1) (HT5.out.2.2.2.trans hc6.2.1))))
      have HQ6 := Lib.hid (And.intro (HQ5.out.1.keep (fun k hk => hc6.2.2 k (HQ5.out.2.1 k hk))) HQ5.out.2)
      clear hrp ho6 hr6 hc6 hs5 hra HT5 HQ5
      have hkp := kept_any g (.slice b2a b2.length b2c) b2 W6 HT6.out.2.2.1 (rd_low HB2.out.1 HB2.out.2.1 HT6.out.2.2.2) (by have := HB2.out.2.2; omega)
      go_wp2_with fail
      refine hkp.mono ?_
      rintro e W7 ⟨rfl, hb7⟩
      obtain ⟨X7, hT7, hX7, hXq7⟩ : ∃ X7, Tri w.heap.size X7 W7 q m r s5 s5 sl5 ∧ X7 g ∧ ∀ k, foot q2 m2 s0.fs sl4 k → X7 k := ⟨_, HT6.out.1.step (Out.of_below (fun _ => False) hb7) (fun _ _ h => h.elim), .inl HT6.out.2.1, fun k hk => .inl (HQ6.out.2.1 k hk)⟩
      have hblk6 : Blk W6 g 5 (Lib.byteCells (b2 ++ [77, 77, 77])) := HT6.out.2.2.1
      have hblk7 := hblk6.below hb7 hblk6.lt
      have HT7 := Lib.hid (And.intro hT7 (And.intro hX7 (HT6.out.2.2.2.trans (hb7.mono HT6.out.2.2.2.size))))
      have HQ7 := Lib.hid (And.intro (HQ6.out.1.below hb7) (And.intro hXq7 (And.intro HQ6.out.2.2 hblk7.lt)))
      have hcs0 : ∃ cs : By, cs.length = b2.length + 3 ∧ Blk W7 g 5 (Lib.byteCells cs) := ⟨_, by simp, hblk7⟩
      clear hkp hb7 hT7 hX7 hXq7 hblk7 hblk6 HT6 HQ6
      obtain ⟨NB, hNB⟩ : ∃ NB, NB = b2.length := ⟨_, rfl⟩
      have hNB2 : NB ≤ 65536 := by have := HB2.out.2.2; omega
      rw [← hNB] at hcs0 ⊢
      have HNB := Lib.hid hNB
      clear hNB
      go_wp2_with fail
      go_loopw [13] (fun i wr' => ∃ j : Nat, j ≤ NB ∧ i = .int .i64 (j : Int) ∧ (∃ cs : By, cs.length = NB + 3 ∧ Blk wr' g 5 (Lib.byteCells cs)) ∧ Out (fun x => x = g) W7 wr') (fun i _ => NB - (intOf i).toNat)
      case atStart => exact ⟨0, Nat.zero_le _, rfl, hcs0, Out.refl _ _⟩
      case round =>
        clear hcs0
        obtain ⟨j, hj, rfl, ⟨cs, hcs, hbk⟩, ho7⟩ := hrel
        by_cases hjn : j < NB
        case pos =>
          have t5 : (j : Int) < (NB : Int) := by omega
          obtain ⟨ch, hch⟩ : ∃ ch, cs[j]? = some ch := ⟨_, List.getElem?_eq_getElem (by omega)⟩
          have z1 := hbk.cell j (bc_at hch)
          have hfz := hbk.frozen j
          have t6 := u8_inc ch
          have hset := hbk.set j (.int .u8 ((ch + 1).toNat : Int))
          rw [bc_set] at hset
          have HR := Lib.hid (And.intro hset (And.intro (ho7.set ⟨g, j, none⟩ (.int .u8 ((ch + 1).toNat : Int)) rfl) (show (cs.set j (ch + 1)).length = NB + 3 from by rw [List.length_set]; exact hcs)))
          clear hset hbk ho7 hch hcs
          go_wp2_with fail
          go_roundw
          case rel => exact ⟨j + 1, by omega, by go_num, ⟨_, HR.out.2.2, HR.out.1⟩, HR.out.2.1⟩
          case measure => simp [intOf]; omega
        case neg =>
          have t5 : ¬ (j : Int) < (NB : Int) := by omega
          generalize wr = W8 at *
          obtain ⟨X8, hT8, hXq8⟩ : ∃ X8, Tri w.heap.size X8 W8 q m r s5 s5 sl5 ∧ ∀ k, foot q2 m2 s0.fs sl4 k → X8 k := ⟨_, HT7.out.1.step ho7 (fun k _ hk => by rw [hk]; exact HT7.out.2.1), fun k hk => .inl (HQ7.out.2.1 k hk)⟩
          have hq8 := HQ7.out.1.keep (W' := W8) (fun k hk => ho7.block k (HQ7.out.1.foot_lt hk) (fun e => by have := HQ7.out.2.2.1 k hk; omega))
          have hb8 : Below w.heap.size w W8 := HT7.out.2.2.trans (ho7.below HT7.out.2.2.size (fun x hx => by
            have h1 : x < W7.heap.size := by rw [hx]; exact HQ7.out.2.2.2
            rcases Nat.lt_or_ge x w.heap.size with h2 | h2
            · exact absurd HG.out (by rw [← hx]; omega)
            · exact h2))
          have HT8 := Lib.hid (And.intro hT8 (And.intro hXq8 hb8))
          have HQ8 := Lib.hid (And.intro hq8 HQ7.out.2.2.1)
          have HW8 : Hid (w.heap.size ≤ W8.heap.size) := Lib.hid HT8.out.2.2.size
          have hr1 := read_any q m s5 sl5 ZZ W8 hT8.pa (by decide)
          obtain ⟨X1, hX1⟩ : ∃ X1, X1 = (if askedC s5.down ZZ = 0 then gB s5.fs ZZ else []) := ⟨_, rfl⟩
          obtain ⟨cd, hcd⟩ : ∃ cd : Int, cd = (askedC s5.down ZZ : Int) := ⟨_, rfl⟩
          have HRD : Hid (∀ W, PA W q m s5 sl5 → Calls Try.prog 18 #[.pointer (some ⟨q, 0, none⟩), .string ⟨#[122, 122]⟩] W fun e w' => ∃ v', e = .returned (.tuple #[v', .int .i64 cd]) ∧ OwnB w' W.heap.size v' X1 ∧ Below W.heap.size W w') := Lib.hid (fun W hW => by rw [hX1, hcd]; exact read_any q m s5 sl5 ZZ W hW (by decide))
          clear hT8 hXq8 hq8 hb8 hr1 hX1 hcd ho7 hcs hbk HT7 HQ7
          go_wp2_with fail
          refine (HRD.out W8 HT8.out.1.pa).mono ?_
          rintro e W9 ⟨vx, rfl, hox, hb9⟩
          obtain ⟨xa, xc, hxe⟩ := hox.rd.slice
          subst hxe
          obtain ⟨X9, hT9, hXq9, hXx9⟩ : ∃ X9, Tri w.heap.size X9 W9 q m r s5 s5 sl5 ∧ (∀ k, foot q2 m2 s0.fs sl4 k → X9 k) ∧ ∀ y, W8.heap.size ≤ y → y < W9.heap.size → X9 y := ⟨_, HT8.out.1.step (Out.of_below (fun _ => False) hb9) (fun _ _ h => h.elim), fun k hk => .inl (HT8.out.2.1 k hk), fun y h1 h2 => .inr ⟨h1, h2⟩⟩
          have HT9 := Lib.hid (And.intro hT9 (And.intro hXq9 (And.intro hXx9 (HT8.out.2.2.trans (hb9.mono HT8.out.2.2.size)))))
          have HQ9 := Lib.hid (And.intro (HQ8.out.1.below hb9) (And.intro HQ8.out.2 (show ∀ k, foot q2 m2 s0.fs sl4 k → k < W8.heap.size from fun k hk => HQ8.out.1.foot_lt hk)))
          have HX9 := Lib.hid (And.intro hox hb9.size)
          clear hox hb9 hT9 hXq9 hXx9
          go_wp2_with fail
          refine (HRD.out W9 HT9.out.1.pa).mono ?_
          rintro e W10 ⟨vy, rfl, hoy, hb10⟩
          obtain ⟨ya, yc, hye⟩ := hoy.rd.slice
          subst hye
          obtain ⟨X10, hT10, hXq10, hXx10⟩ : ∃ X10, Tri w.heap.size X10 W10 q m r s5 s5 sl5 ∧ (∀ k, foot q2 m2 s0.fs sl4 k → X10 k) ∧ ∀ y, W8.heap.size ≤ y → y < W10.heap.size → X10 y := ⟨_, HT9.out.1.step (Out.of_below (fun _ => False) hb10) (fun _ _ h => h.elim), fun k hk => .inl (HT9.out.2.1 k hk), fun y h1 h2 => by
            rcases Nat.lt_or_ge y W9.heap.size with h3 | h3
            · exact .inl (HT9.out.2.2.1 y h1 h3)
            · exact .inr ⟨h3, h2⟩⟩
          have hox10 : W10.ownsRow W8.heap.size 5 1 (.slice xa X1.length xc) X1.length (Lib.byteCells X1) := World.ownsRow.kept HX9.out.1 (grown_of_below hb10) (Classical.em _)
          have HT10 := Lib.hid (And.intro hT10 (And.intro hXq10 (And.intro hXx10 (HT9.out.2.2.2.trans (hb10.mono HT9.out.2.2.2.size)))))
          have HQ10 := Lib.hid (And.intro (HQ9.out.1.below hb10) HQ9.out.2)
          have HX10 : Hid (W10.ownsRow W8.heap.size 5 1 (.slice xa X1.length xc) X1.length (Lib.byteCells X1) ∧ W10.ownsRow W9.heap.size 5 1 (.slice ya X1.length yc) X1.length (Lib.byteCells X1) ∧ (∀ y, Value.ownBlock (.slice xa X1.length xc) = some y → W8.heap.size ≤ y ∧ y < W9.heap.size) ∧ (∀ y, Value.ownBlock (.slice ya X1.length yc) = some y → W9.heap.size ≤ y ∧ y < W10.heap.size) ∧ W8.heap.size ≤ W9.heap.size ∧ W9.heap.size ≤ W10.heap.size) := Lib.hid ⟨hox10, hoy, fun y hy => HX9.out.1.lt y hy, fun y hy => hoy.lt y hy, HX9.out.2, hb10.size⟩
          have hown0 := own_fresh W10 3 1
          have hbS : Below W10.heap.size W10 (W10.alloc (.cells #[] 3)) := (Below.refl _ _).alloc (Nat.le_refl _) _
          have hkr := rd_low HK.out.1 HK.out.2.1 (HT10.out.2.2.2.trans (hbS.mono HT10.out.2.2.2.size))
          obtain ⟨i0, hi, hz0, hz1, hz2⟩ := info_parts int_row
          have hkz2 := HK.out.2.2
          have hsS : W10.heap.size ≤ (W10.alloc (.cells #[] 3)).heap.size := hbS.size
          clear hoy hb10 hT10 hXq10 hXx10 hox10 HT9 HQ9 HX9 HT8 HQ8 HRD
          go_wp2_with (at_builtin; go_loud (refine wpList_app (by rfl) _ _ 34 rfl 3 W10.heap.size i0 (.int .i64 0) 1 8 Try.underlying34 hi hz0 hz1 hz2 rfl (by decide) (.slice (some ⟨W10.heap.size, 0, none⟩) 0 0) 0 [] (by rfl) hown0 (.slice kva ks.length kvc) ks.length (ic ks) (by rfl) hkr (by intro u hu; unfold ic at hu; obtain ⟨c, _, rfl⟩ := List.mem_map.1 hu; rfl) (by unfold maxLen; omega) (by omega) hsS ?_))
          intro vk1 w3 hown1 hg3 hob3
          have hown1' : w3.ownsRow W10.heap.size 3 1 vk1 ks.length (ic ks) := own_cast hown1 (by simp) (by simp)
          have hb3 := hbS.grown hg3 hsS (fun y hy => by
            have e : W10.heap.size = y := (by simpa [Value.ownBlock] using hy)
            omega)
          have hs3 := hb3.size
          have hrx := rd_new w3 3 [.int .i64 77] 1 rfl
          have hs3' : W10.heap.size ≤ (w3.alloc (.cells #[.int .i64 77] 3)).heap.size := by simp; omega
          clear hown0 hkr hown1 hg3 hob3 hbS hsS
          go_wp2_with (at_builtin; go_loud (refine wpList_app (by rfl) _ _ 34 rfl 3 W10.heap.size i0 (.int .i64 0) 1 8 Try.underlying34 hi hz0 hz1 hz2 rfl (by decide) vk1 ks.length (ic ks) (by rfl) (hown1'.alloc _) (.slice (some ⟨w3.heap.size, 0, none⟩) 1 1) 1 [.int .i64 77] (by rfl) hrx (by simp [Value.oneCell']) (by unfold maxLen; omega) (by omega) hs3' ?_))
          intro vk2 W11 hown2 hg4 hob4
          have hb11 : Below W10.heap.size W10 W11 := (hb3.alloc hs3 (.cells #[.int .i64 77] 3)).grown hg4 hs3' (fun y hy => (hown1'.lt y hy).1)
          obtain ⟨X11, hT11, hXq11, hXx11⟩ : ∃ X11, Tri w.heap.size X11 W11 q m r s5 s5 sl5 ∧ (∀ k, foot q2 m2 s0.fs sl4 k → X11 k) ∧ ∀ y, W8.heap.size ≤ y → y < W11.heap.size → X11 y := ⟨_, HT10.out.1.step (Out.of_below (fun _ => False) hb11) (fun _ _ h => h.elim), fun k hk => .inl (HT10.out.2.1 k hk), fun y h1 h2 => by
            rcases Nat.lt_or_ge y W10.heap.size with h3 | h3
            · exact .inl (HT10.out.2.2.1 y h1 h3)
            · exact .inr ⟨h3, h2⟩⟩
          have hrk := Rd.of_own hown2
          obtain ⟨kb, ko, kc2, rfl, hkc, hkcc⟩ := hrk.pos (Nat.succ_pos _)
          have hko : ko = 0 := by
            rcases hown2.2 with ⟨h, _⟩ | ⟨g', _, _, h, _⟩
            · cases h
            · cases h; rfl
          subst hko
          have hkbl := hown2.lt kb rfl
          have HK11 : Hid (Rd W11 1 (.slice (some ⟨kb, 0, none⟩) (ks.length + 1) kc2) (ks.length + 1) (ic ks ++ [.int .i64 77]) ∧ W10.heap.size ≤ kb ∧ kb < W11.heap.size ∧ ks.length + 1 ≤ kc2) := Lib.hid ⟨hrk, hkbl.1, hkbl.2, hkc⟩
          have HT11 := Lib.hid (And.intro hT11 (And.intro hXq11 (And.intro hXx11 (HT10.out.2.2.2.trans (hb11.mono HT10.out.2.2.2.size)))))
          have HQ11 := Lib.hid (And.intro (HQ10.out.1.below hb11) HQ10.out.2)
          have HX11 : Hid (W11.ownsRow W8.heap.size 5 1 (.slice xa X1.length xc) X1.length (Lib.byteCells X1) ∧ W11.ownsRow W9.heap.size 5 1 (.slice ya X1.length yc) X1.length (Lib.byteCells X1)) := Lib.hid ⟨World.ownsRow.kept HX10.out.1 (grown_of_below hb11) (Classical.em _), World.ownsRow.kept HX10.out.2.1 (grown_of_below hb11) (Classical.em _)⟩
          have hs1110 := hb11.size
          have HS11 := Lib.hid hs1110
          clear hown2 hg4 hob4 hb11 hT11 hXq11 hXx11 hrk hkc hkcc hkbl hown1' hb3 hs3 hs3' hrx HT10 HQ10 hs1110 hi hz0 hz1 hz2
          have hcv := Go.Joins.run_convert_bytes_const_at (P := Try.prog) W11 33 5 #[.int .u8 109, .int .u8 111, .int .u8 114, .int .u8 101] 4 4 W11.heap.size rfl Try.underlying33 Try.underlying5
          have hcr := const_rd W11 [109, 111, 114, 101]
          obtain ⟨hcr1, hcr2⟩ := hcr
          have hcr1' : Rd (W11.alloc (.cells #[.int .u8 109, .int .u8 111, .int .u8 114, .int .u8 101] 5 (4, 5))) 1 (.slice (some ⟨W11.heap.size, 0, none⟩) 4 4) 4 (Lib.byteCells [109, 111, 114, 101]) := hcr1
          have hcr2' : Below W11.heap.size W11 (W11.alloc (.cells #[.int .u8 109, .int .u8 111, .int .u8 114, .int .u8 101] 5 (4, 5))) := hcr2
          have hszc : (W11.alloc (.cells #[.int .u8 109, .int .u8 111, .int .u8 114, .int .u8 101] 5 (4, 5))).heap.size = W11.heap.size + 1 := by simp
          have HC := Lib.hid (And.intro hcr1' (And.intro hcr2' hszc))
          clear hcr1 hcr2 hcr1' hcr2' hszc
          go_wp2_with fail
          generalize (W11.alloc (.cells #[.int .u8 109, .int .u8 111, .int .u8 114, .int .u8 101] 5 (4, 5))) = W12 at *
          clear hcv
          have hap := append_any q2 m2 s0 sl4 [97] [109, 111, 114, 101] (.slice (some ⟨W11.heap.size, 0, none⟩) 4 4) W12 (HQ11.out.1.below HC.out.2.1) (by decide) HC.out.1 (by decide) (fun _ g' hg' => by
            have e : W11.heap.size = g' := (by simpa [Value.ownBlock] using hg')
            have h1 := HC.out.2.2
            have h2 := HQ11.out.1.blk.lt
            omega)
          obtain ⟨ac, hac⟩ : ∃ ac : Int, ac = ((app s0 [97] [109, 111, 114, 101]).1 : Int) := ⟨_, rfl⟩
          rw [← hac] at hap
          clear hac
          refine hap.mono ?_
          rintro e W13 ⟨rfl, slA, hpA, hoA, hnA⟩
          have hs12 : W12.heap.size = W11.heap.size + 1 := HC.out.2.2
          have hs13 := hoA.size
          have hs8 := HX10.out.2.2.2.2
          have hs11 := HS11.out
          have hfo : ∀ k, foot q2 m2 s0.fs sl4 k → k < W8.heap.size := HQ11.out.2.2
          obtain ⟨X13, hT13, hXq13, hXx13⟩ : ∃ X13, Tri w.heap.size X13 W13 q m r s5 s5 sl5 ∧ (∀ k, foot q2 m2 s0.fs sl4 k → X13 k) ∧ ∀ y, W8.heap.size ≤ y → y < W13.heap.size → X13 y := ⟨_, (HT11.out.1.step (Out.of_below (fun _ => False) HC.out.2.1) (fun _ _ h => h.elim)).step hoA (fun k _ hk => .inl (HT11.out.2.1 k hk)), fun k hk => .inl (.inl (HT11.out.2.1 k hk)), fun y h1 h2 => by
            rcases Nat.lt_or_ge y W12.heap.size with h3 | h3
            · rcases Nat.lt_or_ge y W11.heap.size with h4 | h4
              · exact .inl (.inl (HT11.out.2.2.1 y h1 h4))
              · exact .inl (.inr ⟨h4, h3⟩)
            · exact .inr ⟨h3, h2⟩⟩
          have hb13 : Below w.heap.size w W13 := (HT11.out.2.2.2.trans (HC.out.2.1.mono HT11.out.2.2.2.size)).trans (below_of_out hoA (by have := HT11.out.2.2.2.size; omega) (fun k _ hk => (HQ11.out.2.1 k hk).2))
          have hbk13 : ∀ y, W8.heap.size ≤ y → y < W11.heap.size → W13.heap[y]? = W11.heap[y]? := fun y h1 h2 => (hoA.block y (by omega) (fun hf => by have := hfo y hf; omega)).trans (HC.out.2.1.block y h2)
          have hfA : ∀ k, foot q2 m2 (app s0 [97] [109, 111, 114, 101]).2.fs slA k → X13 k ∧ (k < W8.heap.size ∨ W12.heap.size ≤ k) ∧ w.heap.size ≤ k := fun k hk => by
            rcases hnA k hk with h1 | h1
            · exact ⟨hXq13 k h1, .inl (hfo k h1), (HQ11.out.2.1 k h1).2⟩
            · exact ⟨hXx13 k (by omega) (hpA.foot_lt hk), .inr h1, by have := HT11.out.2.2.2.size; omega⟩
          obtain ⟨sA, hsA⟩ : ∃ sA, sA = (app s0 [97] [109, 111, 114, 101]).2 := ⟨_, rfl⟩
          rw [← hsA] at hpA hfA
          have hk13 : Rd W13 1 (.slice (some ⟨kb, 0, none⟩) (ks.length + 1) kc2) (ks.length + 1) (ic ks ++ [.int .i64 77]) := rd_keep HK11.out.1 (fun y hy => by cases hy; exact hbk13 kb (by have := HK11.out.2.1; omega) HK11.out.2.2.1)
          have hx13 := own_keepB HX11.out.1 (W' := W13) (fun y hy => hbk13 y (by have := HX10.out.2.2.1 y hy; omega) (by have := HX10.out.2.2.1 y hy; omega))
          have hy13 := own_keepB HX11.out.2 (W' := W13) (fun y hy => hbk13 y (by have := HX10.out.2.2.2.1 y hy; omega) (by have := HX10.out.2.2.2.1 y hy; omega))
          have HT13 := Lib.hid (And.intro hT13 (And.intro hXx13 hb13))
          have HQ13 := Lib.hid (And.intro hpA hfA)
          have HK13 := Lib.hid (And.intro hk13 (And.intro hx13 hy13))
          have hkc := HK11.out.2.2.2
          have HSZ := Lib.hid (And.intro hs12 (And.intro hs13 (And.intro hs8 hs11)))
          have hcr := crash_any q2 m2 sA slA (.slice (some ⟨kb, 0, none⟩) ks.length kc2) ks W13 hpA (rd_front HK13.out.1 (by simp [ic])) (fun _ g' hg' => by
            cases hg'
            exact ⟨show kb < W13.heap.size from by have := HK11.out.2.2.1; omega, fun hf => by have h1 := (hfA kb hf).2.1; have h2 := HK11.out.2.2.1; have h3 := HK11.out.2.1; omega⟩)
          clear hap hoA hnA hs12 hs13 hs8 hs11 hfo hT13 hXq13 hXx13 hb13 hbk13 hfA hpA hsA hk13 hx13 hy13 HT11 HQ11 HX11
          go_wp2_with fail
          refine hcr.mono ?_
          rintro e W14 ⟨rfl, slB, hpB, hoB, hnB⟩
          have hbk14 : ∀ y, W8.heap.size ≤ y → y < W11.heap.size → W14.heap[y]? = W13.heap[y]? := fun y h1 h2 => hoB.block y (by have h3 := HSZ.out; omega) (fun hf => by have h3 := (HQ13.out.2 y hf).2.1; have h4 := HSZ.out; omega)
          have hk14 := rd_keep HK13.out.1 (W' := W14) (fun y hy => by cases hy; exact hbk14 kb (by have h1 := HK11.out.2.1; have h2 := HSZ.out; omega) HK11.out.2.2.1)
          have hx14 := own_keepB HK13.out.2.1 (W' := W14) (fun y hy => hbk14 y (by have := HX10.out.2.2.1 y hy; omega) (by have h1 := HX10.out.2.2.1 y hy; have h2 := HSZ.out; omega))
          have hy14 := own_keepB HK13.out.2.2 (W' := W14) (fun y hy => hbk14 y (by have h1 := HX10.out.2.2.2.1 y hy; have h2 := HSZ.out; omega) (by have h1 := HX10.out.2.2.2.1 y hy; have h2 := HSZ.out; omega))
          have hT14 := HT13.out.1.step hoB (fun k _ hk => (HQ13.out.2 k hk).1)
          have hb14 : Below w.heap.size w W14 := HT13.out.2.2.trans (below_of_out hoB HT13.out.2.2.size (fun k _ hk => (HQ13.out.2 k hk).2.2))
          have HT14 := Lib.hid (And.intro hT14 (And.intro hb14 hoB.size))
          have HK14 := Lib.hid (And.intro hk14 (And.intro hx14 hy14))
          have HXX : Hid (∀ y, W8.heap.size ≤ y → y < W11.heap.size → X13 y) := Lib.hid (fun y h1 h2 => HT13.out.2.1 y h1 (by have h3 := HSZ.out; omega))
          clear hcr hpB hoB hnB hbk14 hk14 hx14 hy14 hT14 hb14 HT13 HQ13 HK13
          go_wp2_with fail
          refine (known_any _).mono ?_
          rintro e W15 ⟨rfl, hb15⟩
          have hT15 := HT14.out.1.step (Out.of_below (fun _ => False) hb15) (fun _ _ h => h.elim)
          have hx15 := own_keepB HK14.out.2.1 (W' := W15) (fun y hy => hb15.block y (by have h1 := HX10.out.2.2.1 y hy; have h2 := HSZ.out; have h3 := HT14.out.2.2; omega))
          have hy15 := own_keepB HK14.out.2.2 (W' := W15) (fun y hy => hb15.block y (by have h1 := HX10.out.2.2.2.1 y hy; have h2 := HSZ.out; have h3 := HT14.out.2.2; omega))
          have hbA : Below W15.heap.size W15 (W15.alloc (.cells #[.slice xa X1.length xc, .slice ya X1.length yc] 33)) := (Below.refl _ _).alloc (Nat.le_refl _) _
          have hr16 := rd_new W15 33 [.slice xa X1.length xc, .slice ya X1.length yc] 2 rfl
          have hsz15 : W14.heap.size ≤ W15.heap.size := hb15.size
          obtain ⟨cx, hcx, hcxl⟩ := ApRow.of_own (own_keepB hx15 (W' := W15.alloc (.cells #[.slice xa X1.length xc, .slice ya X1.length yc] 33)) (fun y hy => hbA.block y (hx15.lt y hy).2))
          obtain ⟨cy, hcy, hcyl⟩ := ApRow.of_own (own_keepB hy15 (W' := W15.alloc (.cells #[.slice xa X1.length xc, .slice ya X1.length yc] 33)) (fun y hy => hbA.block y (hy15.lt y hy).2))
          have hap := apart_any W15.heap.size 2 [.slice xa X1.length xc, .slice ya X1.length yc] _ rfl (by decide) hr16 (fun jj vv hv => by
            match jj, hv with
            | 0, hv => cases hv; exact ⟨cx, hcx, hcxl, fun h => absurd h (Nat.not_lt_zero _)⟩
            | 1, hv => cases hv; exact ⟨cy, hcy, hcyl, fun h => absurd h (Nat.not_lt_zero _)⟩) (fun i1 j1 v1 u1 hne h1 h2 y hy hy2 => by
            match i1, j1, h1, h2 with
            | 0, 0, _, _ => exact hne rfl
            | 1, 1, _, _ => exact hne rfl
            | 0, 1, h1, h2 => cases h1; cases h2; have a1 := HX10.out.2.2.1 y hy; have a2 := HX10.out.2.2.2.1 y hy2; omega
            | 1, 0, h1, h2 => cases h1; cases h2; have a1 := HX10.out.2.2.1 y hy2; have a2 := HX10.out.2.2.2.1 y hy; omega) (fun v1 hv1 y hy e => by
            simp only [List.mem_cons, List.not_mem_nil, or_false] at hv1
            rcases hv1 with rfl | rfl
            · have := (hx15.lt y hy).2; omega
            · have := (hy15.lt y hy).2; omega)
          have hF17 : ∀ y, apF [.slice xa X1.length xc, .slice ya X1.length yc] y → W8.heap.size ≤ y ∧ y < W10.heap.size := fun y hy => by
            obtain ⟨v1, hv1, hy⟩ := hy
            simp only [List.mem_cons, List.not_mem_nil, or_false] at hv1
            rcases hv1 with rfl | rfl
            · have h1 := HX10.out.2.2.1 y hy; have h2 := HX10.out.2.2.2.2; omega
            · have h1 := HX10.out.2.2.2.1 y hy; have h2 := HX10.out.2.2.2.2; omega
          have HT15 := Lib.hid (And.intro hT15 (And.intro (HT14.out.2.1.trans (hb15.mono HT14.out.2.1.size)) (And.intro hbA hsz15)))
          have HK15 := Lib.hid (rd_keep HK14.out.1 (W' := W15) (fun y hy => by cases hy; exact hb15.block kb (by have h1 := HK11.out.2.2.1; have h2 := HSZ.out; have h3 := HT14.out.2.2; omega)))
          have HAP := Lib.hid hap
          have HF17 := Lib.hid hF17
          clear hT15 hx15 hy15 hbA hr16 hsz15 hcx hcy hcxl hcyl hap hF17 hb15 HT14 HK14
          go_wp2_with fail
          refine HAP.out.mono ?_
          rintro e W17 ⟨rfl, ho17⟩
          have hT17 := (HT15.out.1.step (Out.of_below (fun _ => False) HT15.out.2.2.1) (fun _ _ h => h.elim)).step ho17 (fun y _ hy => .inl (.inl (.inl (HXX.out y (HF17.out y hy).1 (by have h1 := (HF17.out y hy).2; have h2 := HSZ.out; omega)))))
          have hal := alike_low _ q m r s5 sl5 W17 hT17.duo
          have hkl : kb < W15.heap.size := by have h1 := HK11.out.2.2.1; have h2 := HSZ.out; have h3 := HT15.out.2.2.2; have h4 := HK15.out; exact rd_blt h4 (Nat.succ_pos _)
          have hk17 := rd_keep HK15.out (W' := W17) (fun y hy => by
            cases hy
            exact (ho17.block kb (by have := HT15.out.2.2.1.size; omega) (fun hf => by have h1 := (HF17.out kb hf).2; have h2 := HK11.out.2.1; omega)).trans (HT15.out.2.2.1.block kb hkl))
          have hb17 : Below w.heap.size w W17 := (HT15.out.2.1.trans (HT15.out.2.2.1.mono HT15.out.2.1.size)).trans (below_of_out ho17 (by have h1 := HT15.out.2.1.size; have h2 := HT15.out.2.2.1.size; omega) (fun y _ hy => by have h1 := (HF17.out y hy).1; have h2 := HW8.out; omega))
          have HE := Lib.hid (And.intro hk17 hb17)
          clear hT17 hkl hk17 hb17 ho17 HAP
          go_wp2_with fail
          refine hal.mono ?_
          rintro e W18 ⟨rfl, hb18⟩
          obtain ⟨kb', ko', kc', e9, hk9, hk10⟩ := (HE.out.1.below hb18).pos (Nat.succ_pos _)
          cases e9
          have z9 := hk10 ks.length (.int .i64 77) (by rw [List.getElem?_append_right (by simp [ic])]; simp [ic])
          rw [Nat.zero_add] at z9
          have HF := Lib.hid (HE.out.2.trans (hb18.mono HE.out.2.size))
          clear hal hb18 hk9 hk10 HE
          go_wp2_with fail
          go_ret
          exact ⟨rfl, HF.out⟩
    case pos =>
    obtain ⟨s, hs⟩ : ∃ s, l[k]? = some s := ⟨_, List.getElem?_eq_getElem hkn⟩
    have hH := H.out.below hbw
    obtain ⟨b1, o1, c1, e1, hb1, hc1⟩ := hH.cel (by omega)
    cases e1
    have y0 := hc1 k s hs 0 _ rfl
    have y1 := hc1 k s hs 1 _ rfl
    have y2 := hc1 k s hs 2 _ rfl
    have y3 := hc1 k s hs 3 _ rfl
    have y4 := hc1 k s hs 4 _ rfl
    simp only [Nat.add_zero] at y0
    have HDO := Lib.hid (do_any _ q m r _ _ sl s (vb k) (vk k) wr hD (hH.stp k s hs))
    have HB := Lib.hid hbw
    clear hc1 hH hD hbw hs
    go_wp2_with fail
    refine HDO.out.mono ?_
    rintro e w4 ⟨⟨bo, rfl, hbt⟩, ⟨sl2, hD2⟩, hb4⟩
    have HX := Lib.hid (And.intro hD2 (HB.out.trans hb4))
    clear hbt hD2 hb4 HDO y0 y1 y2 y3 y4
    go_wp2_with fail
    go_roundw
    case rel => exact ⟨k + 1, _, sl2, by omega, by go_num, HX.out⟩
    case measure => simp [intOf]; omega
set_option maxRecDepth 100000 in
set_option maxHeartbeats 4000000 in
theorem plateKeeps_long (v bv kv : Value) (l : List Sp) (vb vk : Nat → Value) (b : By) (ks : List Int) (w : World) (h : SpsAt w.heap.size w v l vb vk) (hl : l.length ≤ 4611686018427387904)
    (hb : Rd w 1 bv b.length (Lib.byteCells b)) (hbb : 0 < b.length → ∀ g, bv.ownBlock = some g → g < w.heap.size) (hbz : b.length ≤ 140737488355000) (hcase : 65536 < b.length)
    (hks : Rd w 1 kv ks.length (ic ks)) (hkb : 0 < ks.length → ∀ g, kv.ownBlock = some g → g < w.heap.size) (hkz : ks.length * 8 ≤ 140737488355000) :
    Calls Try.prog 7 #[v, bv, kv] w fun e w' => e = .returned (.bool true) ∧ Below w.heap.size w w' := by
  obtain ⟨a, c, rfl⟩ := h.shp
  obtain ⟨kva, kvc, rfl⟩ := hks.slice
  obtain ⟨b2b, b2o, b2c, rfl, hb2c, hb2cc⟩ := hb.pos (by omega)
  obtain ⟨b2, hb2⟩ : ∃ b2, b2 = b.take 65536 := ⟨_, rfl⟩
  have hN2 : b2.length = 65536 := by rw [hb2, List.length_take]; omega
  have hrd2 : Rd w 1 (.slice (some ⟨b2b, b2o, none⟩) 65536 b2c) b2.length (Lib.byteCells b2) := by
    rw [hN2]
    refine ⟨by rw [bc_length, hN2], .inr ⟨b2b, b2o, b2c, rfl, by omega, fun i u hi => hb2cc i u ?_⟩⟩
    rw [hb2] at hi
    unfold Lib.byteCells at hi ⊢
    rw [List.getElem?_map, List.getElem?_take] at hi
    rw [List.getElem?_map]
    split at hi
    · exact hi
    · cases hi
  have HB2 : Hid (Rd w 1 (.slice (some ⟨b2b, b2o, none⟩) 65536 b2c) b2.length (Lib.byteCells b2) ∧ (0 < b2.length → ∀ g, Value.ownBlock (.slice (some ⟨b2b, b2o, none⟩) 65536 b2c) = some g → g < w.heap.size) ∧ b2.length ≤ 65536) := Lib.hid ⟨hrd2, fun _ g hg => hbb (by omega) g hg, by omega⟩
  have t0 : (65536 : Int) < (b.length : Int) := by omega
  have t00 : 65536 ≤ b2c := by omega
  obtain ⟨bL, hbL⟩ : ∃ bL, bL = b.length := ⟨_, rfl⟩
  rw [← hbL] at t0 hbz ⊢
  have hbL2 : bL ≤ b2c := by omega
  clear hb2cc hb hbb hb2 hcase hN2 hbL hb2c hrd2
  have H := Lib.hid h
  have HK := Lib.hid (And.intro hks (And.intro hkb hkz))
  clear h hks hkb hkz
  go_enter Try.func7, Try.ntmps7
  go_wp2_with fail
  refine (new_any 134217728 (fun _ => .slice none 0 0) w (by decide)).mono ?_
  rintro e w1 ⟨q, m, rfl, hp1, hb1, hq, hm⟩
  have hd0 := duo_new (w := w) (R2 := 134217728) hp1 hb1.size hq hm (by decide)
  have hbw0 : Below w.heap.size w (w1.alloc (.cells #[.slice none 0 0, .int .i64 134217728, .bool false, .int .i64 0, .bool false] 31)) := hb1.alloc hb1.size _
  obtain ⟨st0, hst0⟩ : ∃ st0 : St, st0 = newS 134217728 := ⟨_, rfl⟩
  rw [← hst0] at hd0
  clear hp1 hb1 hq hm hst0
  go_wp2_with fail
  generalize (w1.alloc (.cells #[.slice none 0 0, .int .i64 134217728, .bool false, .int .i64 0, .bool false] 31)) = W0 at *
  generalize w1.heap.size = r at *
  go_loopw [10] (fun i wr => ∃ (k : Nat) (st : St) (sl : By → Value), k ≤ l.length ∧ i = .int .i64 (k : Int) ∧ Duo w.heap.size wr q m r st st sl ∧ Below w.heap.size w wr) (fun i _ => l.length - (intOf i).toNat)
  case atStart => exact ⟨0, st0, _, Nat.zero_le _, rfl, hd0, hbw0⟩
  case round =>
    clear hd0 hbw0
    obtain ⟨k, st, sl, hk, rfl, hD, hbw⟩ := hrel
    by_cases hkn : k < l.length
    case neg =>
      have t1 : ¬ (k : Int) < (l.length : Int) := by omega
      have hcr := crash_any q m st sl (.slice none 0 0) [] wr hD.pa (Rd.nil _ _) (fun h0 => absurd h0 (by simp))
      have HD := Lib.hid (And.intro hD hbw)
      clear hD hbw
      go_wp2_with fail
      refine hcr.mono ?_
      rintro e W1 ⟨rfl, sl1, hp1, ho1, hn1⟩
      have hc1 := HD.out.1.p hp1 ho1 (fun k hk => .inl (hn1 k hk))
      have H1 := Lib.hid (And.intro hc1.1 (HD.out.2.trans hc1.2))
      clear hp1 ho1 hn1 hc1 hcr HD
      obtain ⟨s1, fv, rl, hra⟩ := H1.out.1.ra
      have hrc := rcrash_any r st s1 fv rl _ (.slice none 0 0) [] W1 hra (Rd.nil _ _) (fun h0 => absurd h0 (by simp))
      go_wp2_with fail
      refine hrc.mono ?_
      rintro e W2 ⟨rfl, ho2, s2, fv2, rl2, hr2⟩
      have hc2 := H1.out.1.r hr2 ho2
      have HD2 := Lib.hid (And.intro (Tri.of_duo hc2.1) (H1.out.2.trans hc2.2))
      obtain ⟨s0, hs0⟩ : ∃ s0, s0 = crash st [] := ⟨_, rfl⟩
      rw [← hs0] at HD2
      have hrm := room_any (.slice (some ⟨b2b, b2o, none⟩) 65536 b2c) b2 W2 (rd_low HB2.out.1 HB2.out.2.1 HD2.out.2) (by have := HB2.out.2.2; omega)
      clear ho2 hr2 hc2 hrc hra H1 hs0
      go_wp2_with fail
      refine hrm.mono ?_
      rintro e W3 ⟨rfl, hblk3, hb3⟩
      obtain ⟨g, hg⟩ : ∃ g, g = W2.heap.size := ⟨_, rfl⟩
      rw [← hg] at hblk3 ⊢
      have HG : Hid (w.heap.size ≤ g) := Lib.hid (by rw [hg]; exact HD2.out.2.size)
      obtain ⟨X3, hT3, hX3⟩ : ∃ X3, Tri w.heap.size X3 W3 q m r s0 s0 sl1 ∧ X3 g := ⟨_, HD2.out.1.step (Out.of_below (fun _ => False) hb3) (fun _ _ h => h.elim), .inr ⟨by omega, by rw [hg]; exact Nat.lt_of_lt_of_le (hg ▸ hblk3.lt) (Nat.le_refl _)⟩⟩
      have HT3 := Lib.hid (And.intro hT3 (And.intro hX3 (And.intro hblk3 (HD2.out.2.trans (hb3.mono HD2.out.2.size)))))
      have hcp := copy_any q m s0 sl1 W3 hT3.pa
      clear hrm hT3 hX3 hblk3 hb3 HD2 hg
      go_wp2_with fail
      refine hcp.mono ?_
      rintro e W4 ⟨q2, m2, sl4, rfl, hp4, hb4, hf4⟩
      obtain ⟨X4, hT4, hX4, hXq⟩ : ∃ X4, Tri w.heap.size X4 W4 q m r s0 s0 sl1 ∧ X4 g ∧ ∀ k, foot q2 m2 s0.fs sl4 k → X4 k := ⟨_, HT3.out.1.step (Out.of_below (fun _ => False) hb4) (fun _ _ h => h.elim), .inl HT3.out.2.1, fun k hk => .inr ⟨hf4 k hk, hp4.foot_lt hk⟩⟩
      have HT4 := Lib.hid (And.intro hT4 (And.intro hX4 (And.intro (HT3.out.2.2.1.below hb4 HT3.out.2.2.1.lt) (HT3.out.2.2.2.trans (hb4.mono HT3.out.2.2.2.size)))))
      have HQ4 : Hid (PA W4 q2 m2 s0 sl4 ∧ (∀ k, foot q2 m2 s0.fs sl4 k → X4 k) ∧ (∀ k, foot q2 m2 s0.fs sl4 k → g < k ∧ w.heap.size ≤ k)) := Lib.hid ⟨hp4, hXq, fun k hk => by have h1 := hf4 k hk; have h2 := HT3.out.2.2.1.lt; have h3 := HT3.out.2.2.2.size; omega⟩
      have hap := append_any q m s0 sl1 ZZ b2 (.slice (some ⟨g, 0, none⟩) b2.length (b2.length + 3)) W4 hT4.pa (by decide) (room_rd HT4.out.2.2.1) (by have := HB2.out.2.2; omega) (fun _ g' hg' => by cases hg'; exact ⟨HT4.out.2.2.1.lt, fun e => (hT4.fb q (.inl rfl)).2 (e ▸ hX4)⟩)
      clear hcp hp4 hb4 hf4 hT4 hX4 hXq HT3
      go_wp2_with fail
      refine hap.mono ?_
      rintro e W5 ⟨rfl, sl5, hp5, ho5, hn5⟩
      have hc5 := HT4.out.1.p hp5 ho5 hn5
      have hk5 := HT4.out.1.others ho5
      have HT5 := Lib.hid (And.intro hc5.1 (And.intro HT4.out.2.1 (And.intro ((hk5 g HT4.out.2.1).trans HT4.out.2.2.1) (HT4.out.2.2.2.trans hc5.2))))
      have HQ5 := Lib.hid (And.intro (HQ4.out.1.keep (fun k hk => hk5 k (HQ4.out.2.1 k hk))) HQ4.out.2)
      clear hap hp5 ho5 hn5 hc5 hk5 HT4 HQ4
      obtain ⟨s1, fv, rl, hra⟩ := HT5.out.1.ra
      have hrp := rappend_any r s0 s1 fv rl _ ZZ b2 (.slice (some ⟨b2b, b2o, none⟩) 65536 b2c) W5 hra (by decide) (rd_low HB2.out.1 HB2.out.2.1 HT5.out.2.2.2) (by have := HB2.out.2.2; omega) (fun h0 g' hg' => ⟨by have h1 := HB2.out.2.1 (by first | exact h0 | omega) g' hg'; have h2 := HT5.out.2.2.2.size; omega, fun e => by have h1 := HB2.out.2.1 (by first | exact h0 | omega) g' hg'; have h2 := hra.kq.1; omega⟩)
      go_wp2_with fail
      refine hrp.mono ?_
      rintro e W6 ⟨rfl, ho6, s6, fv6, rl6, hr6⟩
      have hc6 := HT5.out.1.r hr6 ho6
      obtain ⟨s5, hs5⟩ : ∃ s5, s5 = (app s0 ZZ b2).2 := ⟨_, rfl⟩
      rw [← hs5] at hc6
      have HT6 := Lib.hid (And.intro hc6.1 (And.intro HT5.out.2.1 (And.intro ((hc6.2.2 g HT5.out.2.1).trans HT5.out.2.2.1) (HT5.out.2.2.2.trans hc6.2.1))))
      have HQ6 := Lib.hid (And.intro (HQ5.out.1.keep (fun k hk => hc6.2.2 k (HQ5.out.2.1 k hk))) HQ5.out.2)
      clear hrp ho6 hr6 hc6 hs5 hra HT5 HQ5
      have hkp := kept_any g (.slice (some ⟨b2b, b2o, none⟩) 65536 b2c) b2 W6 HT6.out.2.2.1 (rd_low HB2.out.1 HB2.out.2.1 HT6.out.2.2.2) (by have := HB2.out.2.2; omega)
      go_wp2_with fail
      refine hkp.mono ?_
      rintro e W7 ⟨rfl, hb7⟩
      obtain ⟨X7, hT7, hX7, hXq7⟩ : ∃ X7, Tri w.heap.size X7 W7 q m r s5 s5 sl5 ∧ X7 g ∧ ∀ k, foot q2 m2 s0.fs sl4 k → X7 k := ⟨_, HT6.out.1.step (Out.of_below (fun _ => False) hb7) (fun _ _ h => h.elim), .inl HT6.out.2.1, fun k hk => .inl (HQ6.out.2.1 k hk)⟩
      have hblk6 : Blk W6 g 5 (Lib.byteCells (b2 ++ [77, 77, 77])) := HT6.out.2.2.1
      have hblk7 := hblk6.below hb7 hblk6.lt
      have HT7 := Lib.hid (And.intro hT7 (And.intro hX7 (HT6.out.2.2.2.trans (hb7.mono HT6.out.2.2.2.size))))
      have HQ7 := Lib.hid (And.intro (HQ6.out.1.below hb7) (And.intro hXq7 (And.intro HQ6.out.2.2 hblk7.lt)))
      have hcs0 : ∃ cs : By, cs.length = b2.length + 3 ∧ Blk W7 g 5 (Lib.byteCells cs) := ⟨_, by simp, hblk7⟩
      clear hkp hb7 hT7 hX7 hXq7 hblk7 hblk6 HT6 HQ6
      obtain ⟨NB, hNB⟩ : ∃ NB, NB = b2.length := ⟨_, rfl⟩
      have hNB2 : NB ≤ 65536 := by have := HB2.out.2.2; omega
      rw [← hNB] at hcs0 ⊢
      have HNB := Lib.hid hNB
      clear hNB
      go_wp2_with fail
      go_loopw [13] (fun i wr' => ∃ j : Nat, j ≤ NB ∧ i = .int .i64 (j : Int) ∧ (∃ cs : By, cs.length = NB + 3 ∧ Blk wr' g 5 (Lib.byteCells cs)) ∧ Out (fun x => x = g) W7 wr') (fun i _ => NB - (intOf i).toNat)
      case atStart => exact ⟨0, Nat.zero_le _, rfl, hcs0, Out.refl _ _⟩
      case round =>
        clear hcs0
        obtain ⟨j, hj, rfl, ⟨cs, hcs, hbk⟩, ho7⟩ := hrel
        by_cases hjn : j < NB
        case pos =>
          have t5 : (j : Int) < (NB : Int) := by omega
          obtain ⟨ch, hch⟩ : ∃ ch, cs[j]? = some ch := ⟨_, List.getElem?_eq_getElem (by omega)⟩
          have z1 := hbk.cell j (bc_at hch)
          have hfz := hbk.frozen j
          have t6 := u8_inc ch
          have hset := hbk.set j (.int .u8 ((ch + 1).toNat : Int))
          rw [bc_set] at hset
          have HR := Lib.hid (And.intro hset (And.intro (ho7.set ⟨g, j, none⟩ (.int .u8 ((ch + 1).toNat : Int)) rfl) (show (cs.set j (ch + 1)).length = NB + 3 from by rw [List.length_set]; exact hcs)))
          clear hset hbk ho7 hch hcs
          go_wp2_with fail
          go_roundw
          case rel => exact ⟨j + 1, by omega, by go_num, ⟨_, HR.out.2.2, HR.out.1⟩, HR.out.2.1⟩
          case measure => simp [intOf]; omega
        case neg =>
          have t5 : ¬ (j : Int) < (NB : Int) := by omega
          generalize wr = W8 at *
          obtain ⟨X8, hT8, hXq8⟩ : ∃ X8, Tri w.heap.size X8 W8 q m r s5 s5 sl5 ∧ ∀ k, foot q2 m2 s0.fs sl4 k → X8 k := ⟨_, HT7.out.1.step ho7 (fun k _ hk => by rw [hk]; exact HT7.out.2.1), fun k hk => .inl (HQ7.out.2.1 k hk)⟩
          have hq8 := HQ7.out.1.keep (W' := W8) (fun k hk => ho7.block k (HQ7.out.1.foot_lt hk) (fun e => by have := HQ7.out.2.2.1 k hk; omega))
          have hb8 : Below w.heap.size w W8 := HT7.out.2.2.trans (ho7.below HT7.out.2.2.size (fun x hx => by
            have h1 : x < W7.heap.size := by rw [hx]; exact HQ7.out.2.2.2
            rcases Nat.lt_or_ge x w.heap.size with h2 | h2
            · exact absurd HG.out (by rw [← hx]; omega)
            · exact h2))
          have HT8 := Lib.hid (And.intro hT8 (And.intro hXq8 hb8))
          have HQ8 := Lib.hid (And.intro hq8 HQ7.out.2.2.1)
          have HW8 : Hid (w.heap.size ≤ W8.heap.size) := Lib.hid HT8.out.2.2.size
          have hr1 := read_any q m s5 sl5 ZZ W8 hT8.pa (by decide)
          obtain ⟨X1, hX1⟩ : ∃ X1, X1 = (if askedC s5.down ZZ = 0 then gB s5.fs ZZ else []) := ⟨_, rfl⟩
          obtain ⟨cd, hcd⟩ : ∃ cd : Int, cd = (askedC s5.down ZZ : Int) := ⟨_, rfl⟩
          have HRD : Hid (∀ W, PA W q m s5 sl5 → Calls Try.prog 18 #[.pointer (some ⟨q, 0, none⟩), .string ⟨#[122, 122]⟩] W fun e w' => ∃ v', e = .returned (.tuple #[v', .int .i64 cd]) ∧ OwnB w' W.heap.size v' X1 ∧ Below W.heap.size W w') := Lib.hid (fun W hW => by rw [hX1, hcd]; exact read_any q m s5 sl5 ZZ W hW (by decide))
          clear hT8 hXq8 hq8 hb8 hr1 hX1 hcd ho7 hcs hbk HT7 HQ7
          go_wp2_with fail
          refine (HRD.out W8 HT8.out.1.pa).mono ?_
          rintro e W9 ⟨vx, rfl, hox, hb9⟩
          obtain ⟨xa, xc, hxe⟩ := hox.rd.slice
          subst hxe
          obtain ⟨X9, hT9, hXq9, hXx9⟩ : ∃ X9, Tri w.heap.size X9 W9 q m r s5 s5 sl5 ∧ (∀ k, foot q2 m2 s0.fs sl4 k → X9 k) ∧ ∀ y, W8.heap.size ≤ y → y < W9.heap.size → X9 y := ⟨_, HT8.out.1.step (Out.of_below (fun _ => False) hb9) (fun _ _ h => h.elim), fun k hk => .inl (HT8.out.2.1 k hk), fun y h1 h2 => .inr ⟨h1, h2⟩⟩
          have HT9 := Lib.hid (And.intro hT9 (And.intro hXq9 (And.intro hXx9 (HT8.out.2.2.trans (hb9.mono HT8.out.2.2.size)))))
          have HQ9 := Lib.hid (And.intro (HQ8.out.1.below hb9) (And.intro HQ8.out.2 (show ∀ k, foot q2 m2 s0.fs sl4 k → k < W8.heap.size from fun k hk => HQ8.out.1.foot_lt hk)))
          have HX9 := Lib.hid (And.intro hox hb9.size)
          clear hox hb9 hT9 hXq9 hXx9
          go_wp2_with fail
          refine (HRD.out W9 HT9.out.1.pa).mono ?_
          rintro e W10 ⟨vy, rfl, hoy, hb10⟩
          obtain ⟨ya, yc, hye⟩ := hoy.rd.slice
          subst hye
          obtain ⟨X10, hT10, hXq10, hXx10⟩ : ∃ X10, Tri w.heap.size X10 W10 q m r s5 s5 sl5 ∧ (∀ k, foot q2 m2 s0.fs sl4 k → X10 k) ∧ ∀ y, W8.heap.size ≤ y → y < W10.heap.size → X10 y := ⟨_, HT9.out.1.step (Out.of_below (fun _ => False) hb10) (fun _ _ h => h.elim), fun k hk => .inl (HT9.out.2.1 k hk), fun y h1 h2 => by
            rcases Nat.lt_or_ge y W9.heap.size with h3 | h3
            · exact .inl (HT9.out.2.2.1 y h1 h3)
            · exact .inr ⟨h3, h2⟩⟩
          have hox10 : W10.ownsRow W8.heap.size 5 1 (.slice xa X1.length xc) X1.length (Lib.byteCells X1) := World.ownsRow.kept HX9.out.1 (grown_of_below hb10) (Classical.em _)
          have HT10 := Lib.hid (And.intro hT10 (And.intro hXq10 (And.intro hXx10 (HT9.out.2.2.2.trans (hb10.mono HT9.out.2.2.2.size)))))
          have HQ10 := Lib.hid (And.intro (HQ9.out.1.below hb10) HQ9.out.2)
          have HX10 : Hid (W10.ownsRow W8.heap.size 5 1 (.slice xa X1.length xc) X1.length (Lib.byteCells X1) ∧ W10.ownsRow W9.heap.size 5 1 (.slice ya X1.length yc) X1.length (Lib.byteCells X1) ∧ (∀ y, Value.ownBlock (.slice xa X1.length xc) = some y → W8.heap.size ≤ y ∧ y < W9.heap.size) ∧ (∀ y, Value.ownBlock (.slice ya X1.length yc) = some y → W9.heap.size ≤ y ∧ y < W10.heap.size) ∧ W8.heap.size ≤ W9.heap.size ∧ W9.heap.size ≤ W10.heap.size) := Lib.hid ⟨hox10, hoy, fun y hy => HX9.out.1.lt y hy, fun y hy => hoy.lt y hy, HX9.out.2, hb10.size⟩
          have hown0 := own_fresh W10 3 1
          have hbS : Below W10.heap.size W10 (W10.alloc (.cells #[] 3)) := (Below.refl _ _).alloc (Nat.le_refl _) _
          have hkr := rd_low HK.out.1 HK.out.2.1 (HT10.out.2.2.2.trans (hbS.mono HT10.out.2.2.2.size))
          obtain ⟨i0, hi, hz0, hz1, hz2⟩ := info_parts int_row
          have hkz2 := HK.out.2.2
          have hsS : W10.heap.size ≤ (W10.alloc (.cells #[] 3)).heap.size := hbS.size
          clear hoy hb10 hT10 hXq10 hXx10 hox10 HT9 HQ9 HX9 HT8 HQ8 HRD
          go_wp2_with (at_builtin; go_loud (refine wpList_app (by rfl) _ _ 34 rfl 3 W10.heap.size i0 (.int .i64 0) 1 8 Try.underlying34 hi hz0 hz1 hz2 rfl (by decide) (.slice (some ⟨W10.heap.size, 0, none⟩) 0 0) 0 [] (by rfl) hown0 (.slice kva ks.length kvc) ks.length (ic ks) (by rfl) hkr (by intro u hu; unfold ic at hu; obtain ⟨c, _, rfl⟩ := List.mem_map.1 hu; rfl) (by unfold maxLen; omega) (by omega) hsS ?_))
          intro vk1 w3 hown1 hg3 hob3
          have hown1' : w3.ownsRow W10.heap.size 3 1 vk1 ks.length (ic ks) := own_cast hown1 (by simp) (by simp)
          have hb3 := hbS.grown hg3 hsS (fun y hy => by
            have e : W10.heap.size = y := (by simpa [Value.ownBlock] using hy)
            omega)
          have hs3 := hb3.size
          have hrx := rd_new w3 3 [.int .i64 77] 1 rfl
          have hs3' : W10.heap.size ≤ (w3.alloc (.cells #[.int .i64 77] 3)).heap.size := by simp; omega
          clear hown0 hkr hown1 hg3 hob3 hbS hsS
          go_wp2_with (at_builtin; go_loud (refine wpList_app (by rfl) _ _ 34 rfl 3 W10.heap.size i0 (.int .i64 0) 1 8 Try.underlying34 hi hz0 hz1 hz2 rfl (by decide) vk1 ks.length (ic ks) (by rfl) (hown1'.alloc _) (.slice (some ⟨w3.heap.size, 0, none⟩) 1 1) 1 [.int .i64 77] (by rfl) hrx (by simp [Value.oneCell']) (by unfold maxLen; omega) (by omega) hs3' ?_))
          intro vk2 W11 hown2 hg4 hob4
          have hb11 : Below W10.heap.size W10 W11 := (hb3.alloc hs3 (.cells #[.int .i64 77] 3)).grown hg4 hs3' (fun y hy => (hown1'.lt y hy).1)
          obtain ⟨X11, hT11, hXq11, hXx11⟩ : ∃ X11, Tri w.heap.size X11 W11 q m r s5 s5 sl5 ∧ (∀ k, foot q2 m2 s0.fs sl4 k → X11 k) ∧ ∀ y, W8.heap.size ≤ y → y < W11.heap.size → X11 y := ⟨_, HT10.out.1.step (Out.of_below (fun _ => False) hb11) (fun _ _ h => h.elim), fun k hk => .inl (HT10.out.2.1 k hk), fun y h1 h2 => by
            rcases Nat.lt_or_ge y W10.heap.size with h3 | h3
            · exact .inl (HT10.out.2.2.1 y h1 h3)
            · exact .inr ⟨h3, h2⟩⟩
          have hrk := Rd.of_own hown2
          obtain ⟨kb, ko, kc2, rfl, hkc, hkcc⟩ := hrk.pos (Nat.succ_pos _)
          have hko : ko = 0 := by
            rcases hown2.2 with ⟨h, _⟩ | ⟨g', _, _, h, _⟩
            · cases h
            · cases h; rfl
          subst hko
          have hkbl := hown2.lt kb rfl
          have HK11 : Hid (Rd W11 1 (.slice (some ⟨kb, 0, none⟩) (ks.length + 1) kc2) (ks.length + 1) (ic ks ++ [.int .i64 77]) ∧ W10.heap.size ≤ kb ∧ kb < W11.heap.size ∧ ks.length + 1 ≤ kc2) := Lib.hid ⟨hrk, hkbl.1, hkbl.2, hkc⟩
          have HT11 := Lib.hid (And.intro hT11 (And.intro hXq11 (And.intro hXx11 (HT10.out.2.2.2.trans (hb11.mono HT10.out.2.2.2.size)))))
          have HQ11 := Lib.hid (And.intro (HQ10.out.1.below hb11) HQ10.out.2)
          have HX11 : Hid (W11.ownsRow W8.heap.size 5 1 (.slice xa X1.length xc) X1.length (Lib.byteCells X1) ∧ W11.ownsRow W9.heap.size 5 1 (.slice ya X1.length yc) X1.length (Lib.byteCells X1)) := Lib.hid ⟨World.ownsRow.kept HX10.out.1 (grown_of_below hb11) (Classical.em _), World.ownsRow.kept HX10.out.2.1 (grown_of_below hb11) (Classical.em _)⟩
          have hs1110 := hb11.size
          have HS11 := Lib.hid hs1110
          clear hown2 hg4 hob4 hb11 hT11 hXq11 hXx11 hrk hkc hkcc hkbl hown1' hb3 hs3 hs3' hrx HT10 HQ10 hs1110 hi hz0 hz1 hz2
          have hcv := Go.Joins.run_convert_bytes_const_at (P := Try.prog) W11 33 5 #[.int .u8 109, .int .u8 111, .int .u8 114, .int .u8 101] 4 4 W11.heap.size rfl Try.underlying33 Try.underlying5
          have hcr := const_rd W11 [109, 111, 114, 101]
          obtain ⟨hcr1, hcr2⟩ := hcr
          have hcr1' : Rd (W11.alloc (.cells #[.int .u8 109, .int .u8 111, .int .u8 114, .int .u8 101] 5 (4, 5))) 1 (.slice (some ⟨W11.heap.size, 0, none⟩) 4 4) 4 (Lib.byteCells [109, 111, 114, 101]) := hcr1
          have hcr2' : Below W11.heap.size W11 (W11.alloc (.cells #[.int .u8 109, .int .u8 111, .int .u8 114, .int .u8 101] 5 (4, 5))) := hcr2
          have hszc : (W11.alloc (.cells #[.int .u8 109, .int .u8 111, .int .u8 114, .int .u8 101] 5 (4, 5))).heap.size = W11.heap.size + 1 := by simp
          have HC := Lib.hid (And.intro hcr1' (And.intro hcr2' hszc))
          clear hcr1 hcr2 hcr1' hcr2' hszc
          go_wp2_with fail
          generalize (W11.alloc (.cells #[.int .u8 109, .int .u8 111, .int .u8 114, .int .u8 101] 5 (4, 5))) = W12 at *
          clear hcv
          have hap := append_any q2 m2 s0 sl4 [97] [109, 111, 114, 101] (.slice (some ⟨W11.heap.size, 0, none⟩) 4 4) W12 (HQ11.out.1.below HC.out.2.1) (by decide) HC.out.1 (by decide) (fun _ g' hg' => by
            have e : W11.heap.size = g' := (by simpa [Value.ownBlock] using hg')
            have h1 := HC.out.2.2
            have h2 := HQ11.out.1.blk.lt
            omega)
          obtain ⟨ac, hac⟩ : ∃ ac : Int, ac = ((app s0 [97] [109, 111, 114, 101]).1 : Int) := ⟨_, rfl⟩
          rw [← hac] at hap
          clear hac
          refine hap.mono ?_
          rintro e W13 ⟨rfl, slA, hpA, hoA, hnA⟩
          have hs12 : W12.heap.size = W11.heap.size + 1 := HC.out.2.2
          have hs13 := hoA.size
          have hs8 := HX10.out.2.2.2.2
          have hs11 := HS11.out
          have hfo : ∀ k, foot q2 m2 s0.fs sl4 k → k < W8.heap.size := HQ11.out.2.2
          obtain ⟨X13, hT13, hXq13, hXx13⟩ : ∃ X13, Tri w.heap.size X13 W13 q m r s5 s5 sl5 ∧ (∀ k, foot q2 m2 s0.fs sl4 k → X13 k) ∧ ∀ y, W8.heap.size ≤ y → y < W13.heap.size → X13 y := ⟨_, (HT11.out.1.step (Out.of_below (fun _ => False) HC.out.2.1) (fun _ _ h => h.elim)).step hoA (fun k _ hk => .inl (HT11.out.2.1 k hk)), fun k hk => .inl (.inl (HT11.out.2.1 k hk)), fun y h1 h2 => by
            rcases Nat.lt_or_ge y W12.heap.size with h3 | h3
            · rcases Nat.lt_or_ge y W11.heap.size with h4 | h4
              · exact .inl (.inl (HT11.out.2.2.1 y h1 h4))
              · exact .inl (.inr ⟨h4, h3⟩)
            · exact .inr ⟨h3, h2⟩⟩
          have hb13 : Below w.heap.size w W13 := (HT11.out.2.2.2.trans (HC.out.2.1.mono HT11.out.2.2.2.size)).trans (below_of_out hoA (by have := HT11.out.2.2.2.size; omega) (fun k _ hk => (HQ11.out.2.1 k hk).2))
          have hbk13 : ∀ y, W8.heap.size ≤ y → y < W11.heap.size → W13.heap[y]? = W11.heap[y]? := fun y h1 h2 => (hoA.block y (by omega) (fun hf => by have := hfo y hf; omega)).trans (HC.out.2.1.block y h2)
          have hfA : ∀ k, foot q2 m2 (app s0 [97] [109, 111, 114, 101]).2.fs slA k → X13 k ∧ (k < W8.heap.size ∨ W12.heap.size ≤ k) ∧ w.heap.size ≤ k := fun k hk => by
            rcases hnA k hk with h1 | h1
            · exact ⟨hXq13 k h1, .inl (hfo k h1), (HQ11.out.2.1 k h1).2⟩
            · exact ⟨hXx13 k (by omega) (hpA.foot_lt hk), .inr h1, by have := HT11.out.2.2.2.size; omega⟩
          obtain ⟨sA, hsA⟩ : ∃ sA, sA = (app s0 [97] [109, 111, 114, 101]).2 := ⟨_, rfl⟩
          rw [← hsA] at hpA hfA
          have hk13 : Rd W13 1 (.slice (some ⟨kb, 0, none⟩) (ks.length + 1) kc2) (ks.length + 1) (ic ks ++ [.int .i64 77]) := rd_keep HK11.out.1 (fun y hy => by cases hy; exact hbk13 kb (by have := HK11.out.2.1; omega) HK11.out.2.2.1)
          have hx13 := own_keepB HX11.out.1 (W' := W13) (fun y hy => hbk13 y (by have := HX10.out.2.2.1 y hy; omega) (by have := HX10.out.2.2.1 y hy; omega))
          have hy13 := own_keepB HX11.out.2 (W' := W13) (fun y hy => hbk13 y (by have := HX10.out.2.2.2.1 y hy; omega) (by have := HX10.out.2.2.2.1 y hy; omega))
          have HT13 := Lib.hid (And.intro hT13 (And.intro hXx13 hb13))
          have HQ13 := Lib.hid (And.intro hpA hfA)
          have HK13 := Lib.hid (And.intro hk13 (And.intro hx13 hy13))
          have hkc := HK11.out.2.2.2
          have HSZ := Lib.hid (And.intro hs12 (And.intro hs13 (And.intro hs8 hs11)))
          have hcr := crash_any q2 m2 sA slA (.slice (some ⟨kb, 0, none⟩) ks.length kc2) ks W13 hpA (rd_front HK13.out.1 (by simp [ic])) (fun _ g' hg' => by
            cases hg'
            exact ⟨show kb < W13.heap.size from by have := HK11.out.2.2.1; omega, fun hf => by have h1 := (hfA kb hf).2.1; have h2 := HK11.out.2.2.1; have h3 := HK11.out.2.1; omega⟩)
          clear hap hoA hnA hs12 hs13 hs8 hs11 hfo hT13 hXq13 hXx13 hb13 hbk13 hfA hpA hsA hk13 hx13 hy13 HT11 HQ11 HX11
          go_wp2_with fail
          refine hcr.mono ?_
          rintro e W14 ⟨rfl, slB, hpB, hoB, hnB⟩
          have hbk14 : ∀ y, W8.heap.size ≤ y → y < W11.heap.size → W14.heap[y]? = W13.heap[y]? := fun y h1 h2 => hoB.block y (by have h3 := HSZ.out; omega) (fun hf => by have h3 := (HQ13.out.2 y hf).2.1; have h4 := HSZ.out; omega)
          have hk14 := rd_keep HK13.out.1 (W' := W14) (fun y hy => by cases hy; exact hbk14 kb (by have h1 := HK11.out.2.1; have h2 := HSZ.out; omega) HK11.out.2.2.1)
          have hx14 := own_keepB HK13.out.2.1 (W' := W14) (fun y hy => hbk14 y (by have := HX10.out.2.2.1 y hy; omega) (by have h1 := HX10.out.2.2.1 y hy; have h2 := HSZ.out; omega))
          have hy14 := own_keepB HK13.out.2.2 (W' := W14) (fun y hy => hbk14 y (by have h1 := HX10.out.2.2.2.1 y hy; have h2 := HSZ.out; omega) (by have h1 := HX10.out.2.2.2.1 y hy; have h2 := HSZ.out; omega))
          have hT14 := HT13.out.1.step hoB (fun k _ hk => (HQ13.out.2 k hk).1)
          have hb14 : Below w.heap.size w W14 := HT13.out.2.2.trans (below_of_out hoB HT13.out.2.2.size (fun k _ hk => (HQ13.out.2 k hk).2.2))
          have HT14 := Lib.hid (And.intro hT14 (And.intro hb14 hoB.size))
          have HK14 := Lib.hid (And.intro hk14 (And.intro hx14 hy14))
          have HXX : Hid (∀ y, W8.heap.size ≤ y → y < W11.heap.size → X13 y) := Lib.hid (fun y h1 h2 => HT13.out.2.1 y h1 (by have h3 := HSZ.out; omega))
          clear hcr hpB hoB hnB hbk14 hk14 hx14 hy14 hT14 hb14 HT13 HQ13 HK13
          go_wp2_with fail
          refine (known_any _).mono ?_
          rintro e W15 ⟨rfl, hb15⟩
          have hT15 := HT14.out.1.step (Out.of_below (fun _ => False) hb15) (fun _ _ h => h.elim)
          have hx15 := own_keepB HK14.out.2.1 (W' := W15) (fun y hy => hb15.block y (by have h1 := HX10.out.2.2.1 y hy; have h2 := HSZ.out; have h3 := HT14.out.2.2; omega))
          have hy15 := own_keepB HK14.out.2.2 (W' := W15) (fun y hy => hb15.block y (by have h1 := HX10.out.2.2.2.1 y hy; have h2 := HSZ.out; have h3 := HT14.out.2.2; omega))
          have hbA : Below W15.heap.size W15 (W15.alloc (.cells #[.slice xa X1.length xc, .slice ya X1.length yc] 33)) := (Below.refl _ _).alloc (Nat.le_refl _) _
          have hr16 := rd_new W15 33 [.slice xa X1.length xc, .slice ya X1.length yc] 2 rfl
          have hsz15 : W14.heap.size ≤ W15.heap.size := hb15.size
          obtain ⟨cx, hcx, hcxl⟩ := ApRow.of_own (own_keepB hx15 (W' := W15.alloc (.cells #[.slice xa X1.length xc, .slice ya X1.length yc] 33)) (fun y hy => hbA.block y (hx15.lt y hy).2))
          obtain ⟨cy, hcy, hcyl⟩ := ApRow.of_own (own_keepB hy15 (W' := W15.alloc (.cells #[.slice xa X1.length xc, .slice ya X1.length yc] 33)) (fun y hy => hbA.block y (hy15.lt y hy).2))
          have hap := apart_any W15.heap.size 2 [.slice xa X1.length xc, .slice ya X1.length yc] _ rfl (by decide) hr16 (fun jj vv hv => by
            match jj, hv with
            | 0, hv => cases hv; exact ⟨cx, hcx, hcxl, fun h => absurd h (Nat.not_lt_zero _)⟩
            | 1, hv => cases hv; exact ⟨cy, hcy, hcyl, fun h => absurd h (Nat.not_lt_zero _)⟩) (fun i1 j1 v1 u1 hne h1 h2 y hy hy2 => by
            match i1, j1, h1, h2 with
            | 0, 0, _, _ => exact hne rfl
            | 1, 1, _, _ => exact hne rfl
            | 0, 1, h1, h2 => cases h1; cases h2; have a1 := HX10.out.2.2.1 y hy; have a2 := HX10.out.2.2.2.1 y hy2; omega
            | 1, 0, h1, h2 => cases h1; cases h2; have a1 := HX10.out.2.2.1 y hy2; have a2 := HX10.out.2.2.2.1 y hy; omega) (fun v1 hv1 y hy e => by
            simp only [List.mem_cons, List.not_mem_nil, or_false] at hv1
            rcases hv1 with rfl | rfl
            · have := (hx15.lt y hy).2; omega
            · have := (hy15.lt y hy).2; omega)
          have hF17 : ∀ y, apF [.slice xa X1.length xc, .slice ya X1.length yc] y → W8.heap.size ≤ y ∧ y < W10.heap.size := fun y hy => by
            obtain ⟨v1, hv1, hy⟩ := hy
            simp only [List.mem_cons, List.not_mem_nil, or_false] at hv1
            rcases hv1 with rfl | rfl
            · have h1 := HX10.out.2.2.1 y hy; have h2 := HX10.out.2.2.2.2; omega
            · have h1 := HX10.out.2.2.2.1 y hy; have h2 := HX10.out.2.2.2.2; omega
          have HT15 := Lib.hid (And.intro hT15 (And.intro (HT14.out.2.1.trans (hb15.mono HT14.out.2.1.size)) (And.intro hbA hsz15)))
          have HK15 := Lib.hid (rd_keep HK14.out.1 (W' := W15) (fun y hy => by cases hy; exact hb15.block kb (by have h1 := HK11.out.2.2.1; have h2 := HSZ.out; have h3 := HT14.out.2.2; omega)))
          have HAP := Lib.hid hap
          have HF17 := Lib.hid hF17
          clear hT15 hx15 hy15 hbA hr16 hsz15 hcx hcy hcxl hcyl hap hF17 hb15 HT14 HK14
          go_wp2_with fail
          refine HAP.out.mono ?_
          rintro e W17 ⟨rfl, ho17⟩
          have hT17 := (HT15.out.1.step (Out.of_below (fun _ => False) HT15.out.2.2.1) (fun _ _ h => h.elim)).step ho17 (fun y _ hy => .inl (.inl (.inl (HXX.out y (HF17.out y hy).1 (by have h1 := (HF17.out y hy).2; have h2 := HSZ.out; omega)))))
          have hal := alike_low _ q m r s5 sl5 W17 hT17.duo
          have hkl : kb < W15.heap.size := by have h1 := HK11.out.2.2.1; have h2 := HSZ.out; have h3 := HT15.out.2.2.2; have h4 := HK15.out; exact rd_blt h4 (Nat.succ_pos _)
          have hk17 := rd_keep HK15.out (W' := W17) (fun y hy => by
            cases hy
            exact (ho17.block kb (by have := HT15.out.2.2.1.size; omega) (fun hf => by have h1 := (HF17.out kb hf).2; have h2 := HK11.out.2.1; omega)).trans (HT15.out.2.2.1.block kb hkl))
          have hb17 : Below w.heap.size w W17 := (HT15.out.2.1.trans (HT15.out.2.2.1.mono HT15.out.2.1.size)).trans (below_of_out ho17 (by have h1 := HT15.out.2.1.size; have h2 := HT15.out.2.2.1.size; omega) (fun y _ hy => by have h1 := (HF17.out y hy).1; have h2 := HW8.out; omega))
          have HE := Lib.hid (And.intro hk17 hb17)
          clear hT17 hkl hk17 hb17 ho17 HAP
          go_wp2_with fail
          refine hal.mono ?_
          rintro e W18 ⟨rfl, hb18⟩
          obtain ⟨kb', ko', kc', e9, hk9, hk10⟩ := (HE.out.1.below hb18).pos (Nat.succ_pos _)
          cases e9
          have z9 := hk10 ks.length (.int .i64 77) (by rw [List.getElem?_append_right (by simp [ic])]; simp [ic])
          rw [Nat.zero_add] at z9
          have HF := Lib.hid (HE.out.2.trans (hb18.mono HE.out.2.size))
          clear hal hb18 hk9 hk10 HE
          go_wp2_with fail
          go_ret
          exact ⟨rfl, HF.out⟩
    case pos =>
    have t1 : (k : Int) < (l.length : Int) := by omega
    by_cases hk1 : (k : Int) < 120
    case neg =>
      have hcr := crash_any q m st sl (.slice none 0 0) [] wr hD.pa (Rd.nil _ _) (fun h0 => absurd h0 (by simp))
      have HD := Lib.hid (And.intro hD hbw)
      clear hD hbw
      go_wp2_with fail
      refine hcr.mono ?_
      rintro e W1 ⟨rfl, sl1, hp1, ho1, hn1⟩
      have hc1 := HD.out.1.p hp1 ho1 (fun k hk => .inl (hn1 k hk))
      have H1 := Lib.hid (And.intro hc1.1 (HD.out.2.trans hc1.2))
      clear hp1 ho1 hn1 hc1 hcr HD
      obtain ⟨s1, fv, rl, hra⟩ := H1.out.1.ra
      have hrc := rcrash_any r st s1 fv rl _ (.slice none 0 0) [] W1 hra (Rd.nil _ _) (fun h0 => absurd h0 (by simp))
      go_wp2_with fail
      refine hrc.mono ?_
      rintro e W2 ⟨rfl, ho2, s2, fv2, rl2, hr2⟩
      have hc2 := H1.out.1.r hr2 ho2
      have HD2 := Lib.hid (And.intro (Tri.of_duo hc2.1) (H1.out.2.trans hc2.2))
      obtain ⟨s0, hs0⟩ : ∃ s0, s0 = crash st [] := ⟨_, rfl⟩
      rw [← hs0] at HD2
      have hrm := room_any (.slice (some ⟨b2b, b2o, none⟩) 65536 b2c) b2 W2 (rd_low HB2.out.1 HB2.out.2.1 HD2.out.2) (by have := HB2.out.2.2; omega)
      clear ho2 hr2 hc2 hrc hra H1 hs0
      go_wp2_with fail
      refine hrm.mono ?_
      rintro e W3 ⟨rfl, hblk3, hb3⟩
      obtain ⟨g, hg⟩ : ∃ g, g = W2.heap.size := ⟨_, rfl⟩
      rw [← hg] at hblk3 ⊢
      have HG : Hid (w.heap.size ≤ g) := Lib.hid (by rw [hg]; exact HD2.out.2.size)
      obtain ⟨X3, hT3, hX3⟩ : ∃ X3, Tri w.heap.size X3 W3 q m r s0 s0 sl1 ∧ X3 g := ⟨_, HD2.out.1.step (Out.of_below (fun _ => False) hb3) (fun _ _ h => h.elim), .inr ⟨by omega, by rw [hg]; exact Nat.lt_of_lt_of_le (hg ▸ hblk3.lt) (Nat.le_refl _)⟩⟩
      have HT3 := Lib.hid (And.intro hT3 (And.intro hX3 (And.intro hblk3 (HD2.out.2.trans (hb3.mono HD2.out.2.size)))))
      have hcp := copy_any q m s0 sl1 W3 hT3.pa
      clear hrm hT3 hX3 hblk3 hb3 HD2 hg
      go_wp2_with fail
      refine hcp.mono ?_
      rintro e W4 ⟨q2, m2, sl4, rfl, hp4, hb4, hf4⟩
      obtain ⟨X4, hT4, hX4, hXq⟩ : ∃ X4, Tri w.heap.size X4 W4 q m r s0 s0 sl1 ∧ X4 g ∧ ∀ k, foot q2 m2 s0.fs sl4 k → X4 k := ⟨_, HT3.out.1.step (Out.of_below (fun _ => False) hb4) (fun _ _ h => h.elim), .inl HT3.out.2.1, fun k hk => .inr ⟨hf4 k hk, hp4.foot_lt hk⟩⟩
      have HT4 := Lib.hid (And.intro hT4 (And.intro hX4 (And.intro (HT3.out.2.2.1.below hb4 HT3.out.2.2.1.lt) (HT3.out.2.2.2.trans (hb4.mono HT3.out.2.2.2.size)))))
      have HQ4 : Hid (PA W4 q2 m2 s0 sl4 ∧ (∀ k, foot q2 m2 s0.fs sl4 k → X4 k) ∧ (∀ k, foot q2 m2 s0.fs sl4 k → g < k ∧ w.heap.size ≤ k)) := Lib.hid ⟨hp4, hXq, fun k hk => by have h1 := hf4 k hk; have h2 := HT3.out.2.2.1.lt; have h3 := HT3.out.2.2.2.size; omega⟩
      have hap := append_any q m s0 sl1 ZZ b2 (.slice (some ⟨g, 0, none⟩) b2.length (b2.length + 3)) W4 hT4.pa (by decide) (room_rd HT4.out.2.2.1) (by have := HB2.out.2.2; omega) (fun _ g' hg' => by cases hg'; exact ⟨HT4.out.2.2.1.lt, fun e => (hT4.fb q (.inl rfl)).2 (e ▸ hX4)⟩)
      clear hcp hp4 hb4 hf4 hT4 hX4 hXq HT3
      go_wp2_with fail
      refine hap.mono ?_
      rintro e W5 ⟨rfl, sl5, hp5, ho5, hn5⟩
      have hc5 := HT4.out.1.p hp5 ho5 hn5
      have hk5 := HT4.out.1.others ho5
      have HT5 := Lib.hid (And.intro hc5.1 (And.intro HT4.out.2.1 (And.intro ((hk5 g HT4.out.2.1).trans HT4.out.2.2.1) (HT4.out.2.2.2.trans hc5.2))))
      have HQ5 := Lib.hid (And.intro (HQ4.out.1.keep (fun k hk => hk5 k (HQ4.out.2.1 k hk))) HQ4.out.2)
      clear hap hp5 ho5 hn5 hc5 hk5 HT4 HQ4
      obtain ⟨s1, fv, rl, hra⟩ := HT5.out.1.ra
      have hrp := rappend_any r s0 s1 fv rl _ ZZ b2 (.slice (some ⟨b2b, b2o, none⟩) 65536 b2c) W5 hra (by decide) (rd_low HB2.out.1 HB2.out.2.1 HT5.out.2.2.2) (by have := HB2.out.2.2; omega) (fun h0 g' hg' => ⟨by have h1 := HB2.out.2.1 (by first | exact h0 | omega) g' hg'; have h2 := HT5.out.2.2.2.size; omega, fun e => by have h1 := HB2.out.2.1 (by first | exact h0 | omega) g' hg'; have h2 := hra.kq.1; omega⟩)
      go_wp2_with fail
      refine hrp.mono ?_
      rintro e W6 ⟨rfl, ho6, s6, fv6, rl6, hr6⟩
      have hc6 := HT5.out.1.r hr6 ho6
      obtain ⟨s5, hs5⟩ : ∃ s5, s5 = (app s0 ZZ b2).2 := ⟨_, rfl⟩
      rw [← hs5] at hc6
      have HT6 := Lib.hid (And.intro hc6.1 (And.intro HT5.out.2.1 (And.intro ((hc6.2.2 g HT5.out.2.1).trans HT5.out.2.2.1) (HT5.out.2.2.2.trans hc6.2.1))))
      have HQ6 := Lib.hid (And.intro (HQ5.out.1.keep (fun k hk => hc6.2.2 k (HQ5.out.2.1 k hk))) HQ5.out.2)
      clear hrp ho6 hr6 hc6 hs5 hra HT5 HQ5
      have hkp := kept_any g (.slice (some ⟨b2b, b2o, none⟩) 65536 b2c) b2 W6 HT6.out.2.2.1 (rd_low HB2.out.1 HB2.out.2.1 HT6.out.2.2.2) (by have := HB2.out.2.2; omega)
      go_wp2_with fail
      refine hkp.mono ?_
      rintro e W7 ⟨rfl, hb7⟩
      obtain ⟨X7, hT7, hX7, hXq7⟩ : ∃ X7, Tri w.heap.size X7 W7 q m r s5 s5 sl5 ∧ X7 g ∧ ∀ k, foot q2 m2 s0.fs sl4 k → X7 k := ⟨_, HT6.out.1.step (Out.of_below (fun _ => False) hb7) (fun _ _ h => h.elim), .inl HT6.out.2.1, fun k hk => .inl (HQ6.out.2.1 k hk)⟩
      have hblk6 : Blk W6 g 5 (Lib.byteCells (b2 ++ [77, 77, 77])) := HT6.out.2.2.1
      have hblk7 := hblk6.below hb7 hblk6.lt
      have HT7 := Lib.hid (And.intro hT7 (And.intro hX7 (HT6.out.2.2.2.trans (hb7.mono HT6.out.2.2.2.size))))
      have HQ7 := Lib.hid (And.intro (HQ6.out.1.below hb7) (And.intro hXq7 (And.intro HQ6.out.2.2 hblk7.lt)))
      have hcs0 : ∃ cs : By, cs.length = b2.length + 3 ∧ Blk W7 g 5 (Lib.byteCells cs) := ⟨_, by simp, hblk7⟩
      clear hkp hb7 hT7 hX7 hXq7 hblk7 hblk6 HT6 HQ6
      obtain ⟨NB, hNB⟩ : ∃ NB, NB = b2.length := ⟨_, rfl⟩
      have hNB2 : NB ≤ 65536 := by have := HB2.out.2.2; omega
      rw [← hNB] at hcs0 ⊢
      have HNB := Lib.hid hNB
      clear hNB
      go_wp2_with fail
      go_loopw [13] (fun i wr' => ∃ j : Nat, j ≤ NB ∧ i = .int .i64 (j : Int) ∧ (∃ cs : By, cs.length = NB + 3 ∧ Blk wr' g 5 (Lib.byteCells cs)) ∧ Out (fun x => x = g) W7 wr') (fun i _ => NB - (intOf i).toNat)
      case atStart => exact ⟨0, Nat.zero_le _, rfl, hcs0, Out.refl _ _⟩
      case round =>
        clear hcs0
        obtain ⟨j, hj, rfl, ⟨cs, hcs, hbk⟩, ho7⟩ := hrel
        by_cases hjn : j < NB
        case pos =>
          have t5 : (j : Int) < (NB : Int) := by omega
          obtain ⟨ch, hch⟩ : ∃ ch, cs[j]? = some ch := ⟨_, List.getElem?_eq_getElem (by omega)⟩
          have z1 := hbk.cell j (bc_at hch)
          have hfz := hbk.frozen j
          have t6 := u8_inc ch
          have hset := hbk.set j (.int .u8 ((ch + 1).toNat : Int))
          rw [bc_set] at hset
          have HR := Lib.hid (And.intro hset (And.intro (ho7.set ⟨g, j, none⟩ (.int .u8 ((ch + 1).toNat : Int)) rfl) (show (cs.set j (ch + 1)).length = NB + 3 from by rw [List.length_set]; exact hcs)))
          clear hset hbk ho7 hch hcs
          go_wp2_with fail
          go_roundw
          case rel => exact ⟨j + 1, by omega, by go_num, ⟨_, HR.out.2.2, HR.out.1⟩, HR.out.2.1⟩
          case measure => simp [intOf]; omega
        case neg =>
          have t5 : ¬ (j : Int) < (NB : Int) := by omega
          generalize wr = W8 at *
          obtain ⟨X8, hT8, hXq8⟩ : ∃ X8, Tri w.heap.size X8 W8 q m r s5 s5 sl5 ∧ ∀ k, foot q2 m2 s0.fs sl4 k → X8 k := ⟨_, HT7.out.1.step ho7 (fun k _ hk => by rw [hk]; exact HT7.out.2.1), fun k hk => .inl (HQ7.out.2.1 k hk)⟩
          have hq8 := HQ7.out.1.keep (W' := W8) (fun k hk => ho7.block k (HQ7.out.1.foot_lt hk) (fun e => by have := HQ7.out.2.2.1 k hk; omega))
          have hb8 : Below w.heap.size w W8 := HT7.out.2.2.trans (ho7.below HT7.out.2.2.size (fun x hx => by
            have h1 : x < W7.heap.size := by rw [hx]; exact HQ7.out.2.2.2
            rcases Nat.lt_or_ge x w.heap.size with h2 | h2
            · exact absurd HG.out (by rw [← hx]; omega)
            · exact h2))
          have HT8 := Lib.hid (And.intro hT8 (And.intro hXq8 hb8))
          have HQ8 := Lib.hid (And.intro hq8 HQ7.out.2.2.1)
          have HW8 : Hid (w.heap.size ≤ W8.heap.size) := Lib.hid HT8.out.2.2.size
          have hr1 := read_any q m s5 sl5 ZZ W8 hT8.pa (by decide)
          obtain ⟨X1, hX1⟩ : ∃ X1, X1 = (if askedC s5.down ZZ = 0 then gB s5.fs ZZ else []) := ⟨_, rfl⟩
          obtain ⟨cd, hcd⟩ : ∃ cd : Int, cd = (askedC s5.down ZZ : Int) := ⟨_, rfl⟩
          have HRD : Hid (∀ W, PA W q m s5 sl5 → Calls Try.prog 18 #[.pointer (some ⟨q, 0, none⟩), .string ⟨#[122, 122]⟩] W fun e w' => ∃ v', e = .returned (.tuple #[v', .int .i64 cd]) ∧ OwnB w' W.heap.size v' X1 ∧ Below W.heap.size W w') := Lib.hid (fun W hW => by rw [hX1, hcd]; exact read_any q m s5 sl5 ZZ W hW (by decide))
          clear hT8 hXq8 hq8 hb8 hr1 hX1 hcd ho7 hcs hbk HT7 HQ7
          go_wp2_with fail
          refine (HRD.out W8 HT8.out.1.pa).mono ?_
          rintro e W9 ⟨vx, rfl, hox, hb9⟩
          obtain ⟨xa, xc, hxe⟩ := hox.rd.slice
          subst hxe
          obtain ⟨X9, hT9, hXq9, hXx9⟩ : ∃ X9, Tri w.heap.size X9 W9 q m r s5 s5 sl5 ∧ (∀ k, foot q2 m2 s0.fs sl4 k → X9 k) ∧ ∀ y, W8.heap.size ≤ y → y < W9.heap.size → X9 y := ⟨_, HT8.out.1.step (Out.of_below (fun _ => False) hb9) (fun _ _ h => h.elim), fun k hk => .inl (HT8.out.2.1 k hk), fun y h1 h2 => .inr ⟨h1, h2⟩⟩
          have HT9 := Lib.hid (And.intro hT9 (And.intro hXq9 (And.intro hXx9 (HT8.out.2.2.trans (hb9.mono HT8.out.2.2.size)))))
          have HQ9 := Lib.hid (And.intro (HQ8.out.1.below hb9) (And.intro HQ8.out.2 (show ∀ k, foot q2 m2 s0.fs sl4 k → k < W8.heap.size from fun k hk => HQ8.out.1.foot_lt hk)))
          have HX9 := Lib.hid (And.intro hox hb9.size)
          clear hox hb9 hT9 hXq9 hXx9
          go_wp2_with fail
          refine (HRD.out W9 HT9.out.1.pa).mono ?_
          rintro e W10 ⟨vy, rfl, hoy, hb10⟩
          obtain ⟨ya, yc, hye⟩ := hoy.rd.slice
          subst hye
          obtain ⟨X10, hT10, hXq10, hXx10⟩ : ∃ X10, Tri w.heap.size X10 W10 q m r s5 s5 sl5 ∧ (∀ k, foot q2 m2 s0.fs sl4 k → X10 k) ∧ ∀ y, W8.heap.size ≤ y → y < W10.heap.size → X10 y := ⟨_, HT9.out.1.step (Out.of_below (fun _ => False) hb10) (fun _ _ h => h.elim), fun k hk => .inl (HT9.out.2.1 k hk), fun y h1 h2 => by
            rcases Nat.lt_or_ge y W9.heap.size with h3 | h3
            · exact .inl (HT9.out.2.2.1 y h1 h3)
            · exact .inr ⟨h3, h2⟩⟩
          have hox10 : W10.ownsRow W8.heap.size 5 1 (.slice xa X1.length xc) X1.length (Lib.byteCells X1) := World.ownsRow.kept HX9.out.1 (grown_of_below hb10) (Classical.em _)
          have HT10 := Lib.hid (And.intro hT10 (And.intro hXq10 (And.intro hXx10 (HT9.out.2.2.2.trans (hb10.mono HT9.out.2.2.2.size)))))
          have HQ10 := Lib.hid (And.intro (HQ9.out.1.below hb10) HQ9.out.2)
          have HX10 : Hid (W10.ownsRow W8.heap.size 5 1 (.slice xa X1.length xc) X1.length (Lib.byteCells X1) ∧ W10.ownsRow W9.heap.size 5 1 (.slice ya X1.length yc) X1.length (Lib.byteCells X1) ∧ (∀ y, Value.ownBlock (.slice xa X1.length xc) = some y → W8.heap.size ≤ y ∧ y < W9.heap.size) ∧ (∀ y, Value.ownBlock (.slice ya X1.length yc) = some y → W9.heap.size ≤ y ∧ y < W10.heap.size) ∧ W8.heap.size ≤ W9.heap.size ∧ W9.heap.size ≤ W10.heap.size) := Lib.hid ⟨hox10, hoy, fun y hy => HX9.out.1.lt y hy, fun y hy => hoy.lt y hy, HX9.out.2, hb10.size⟩
          have hown0 := own_fresh W10 3 1
          have hbS : Below W10.heap.size W10 (W10.alloc (.cells #[] 3)) := (Below.refl _ _).alloc (Nat.le_refl _) _
          have hkr := rd_low HK.out.1 HK.out.2.1 (HT10.out.2.2.2.trans (hbS.mono HT10.out.2.2.2.size))
          obtain ⟨i0, hi, hz0, hz1, hz2⟩ := info_parts int_row
          have hkz2 := HK.out.2.2
          have hsS : W10.heap.size ≤ (W10.alloc (.cells #[] 3)).heap.size := hbS.size
          clear hoy hb10 hT10 hXq10 hXx10 hox10 HT9 HQ9 HX9 HT8 HQ8 HRD
          go_wp2_with (at_builtin; go_loud (refine wpList_app (by rfl) _ _ 34 rfl 3 W10.heap.size i0 (.int .i64 0) 1 8 Try.underlying34 hi hz0 hz1 hz2 rfl (by decide) (.slice (some ⟨W10.heap.size, 0, none⟩) 0 0) 0 [] (by rfl) hown0 (.slice kva ks.length kvc) ks.length (ic ks) (by rfl) hkr (by intro u hu; unfold ic at hu; obtain ⟨c, _, rfl⟩ := List.mem_map.1 hu; rfl) (by unfold maxLen; omega) (by omega) hsS ?_))
          intro vk1 w3 hown1 hg3 hob3
          have hown1' : w3.ownsRow W10.heap.size 3 1 vk1 ks.length (ic ks) := own_cast hown1 (by simp) (by simp)
          have hb3 := hbS.grown hg3 hsS (fun y hy => by
            have e : W10.heap.size = y := (by simpa [Value.ownBlock] using hy)
            omega)
          have hs3 := hb3.size
          have hrx := rd_new w3 3 [.int .i64 77] 1 rfl
          have hs3' : W10.heap.size ≤ (w3.alloc (.cells #[.int .i64 77] 3)).heap.size := by simp; omega
          clear hown0 hkr hown1 hg3 hob3 hbS hsS
          go_wp2_with (at_builtin; go_loud (refine wpList_app (by rfl) _ _ 34 rfl 3 W10.heap.size i0 (.int .i64 0) 1 8 Try.underlying34 hi hz0 hz1 hz2 rfl (by decide) vk1 ks.length (ic ks) (by rfl) (hown1'.alloc _) (.slice (some ⟨w3.heap.size, 0, none⟩) 1 1) 1 [.int .i64 77] (by rfl) hrx (by simp [Value.oneCell']) (by unfold maxLen; omega) (by omega) hs3' ?_))
          intro vk2 W11 hown2 hg4 hob4
          have hb11 : Below W10.heap.size W10 W11 := (hb3.alloc hs3 (.cells #[.int .i64 77] 3)).grown hg4 hs3' (fun y hy => (hown1'.lt y hy).1)
          obtain ⟨X11, hT11, hXq11, hXx11⟩ : ∃ X11, Tri w.heap.size X11 W11 q m r s5 s5 sl5 ∧ (∀ k, foot q2 m2 s0.fs sl4 k → X11 k) ∧ ∀ y, W8.heap.size ≤ y → y < W11.heap.size → X11 y := ⟨_, HT10.out.1.step (Out.of_below (fun _ => False) hb11) (fun _ _ h => h.elim), fun k hk => .inl (HT10.out.2.1 k hk), fun y h1 h2 => by
            rcases Nat.lt_or_ge y W10.heap.size with h3 | h3
            · exact .inl (HT10.out.2.2.1 y h1 h3)
            · exact .inr ⟨h3, h2⟩⟩
          have hrk := Rd.of_own hown2
          obtain ⟨kb, ko, kc2, rfl, hkc, hkcc⟩ := hrk.pos (Nat.succ_pos _)
          have hko : ko = 0 := by
            rcases hown2.2 with ⟨h, _⟩ | ⟨g', _, _, h, _⟩
            · cases h
            · cases h; rfl
          subst hko
          have hkbl := hown2.lt kb rfl
          have HK11 : Hid (Rd W11 1 (.slice (some ⟨kb, 0, none⟩) (ks.length + 1) kc2) (ks.length + 1) (ic ks ++ [.int .i64 77]) ∧ W10.heap.size ≤ kb ∧ kb < W11.heap.size ∧ ks.length + 1 ≤ kc2) := Lib.hid ⟨hrk, hkbl.1, hkbl.2, hkc⟩
          have HT11 := Lib.hid (And.intro hT11 (And.intro hXq11 (And.intro hXx11 (HT10.out.2.2.2.trans (hb11.mono HT10.out.2.2.2.size)))))
          have HQ11 := Lib.hid (And.intro (HQ10.out.1.below hb11) HQ10.out.2)
          have HX11 : Hid (W11.ownsRow W8.heap.size 5 1 (.slice xa X1.length xc) X1.length (Lib.byteCells X1) ∧ W11.ownsRow W9.heap.size 5 1 (.slice ya X1.length yc) X1.length (Lib.byteCells X1)) := Lib.hid ⟨World.ownsRow.kept HX10.out.1 (grown_of_below hb11) (Classical.em _), World.ownsRow.kept HX10.out.2.1 (grown_of_below hb11) (Classical.em _)⟩
          have hs1110 := hb11.size
          have HS11 := Lib.hid hs1110
          clear hown2 hg4 hob4 hb11 hT11 hXq11 hXx11 hrk hkc hkcc hkbl hown1' hb3 hs3 hs3' hrx HT10 HQ10 hs1110 hi hz0 hz1 hz2
          have hcv := Go.Joins.run_convert_bytes_const_at (P := Try.prog) W11 33 5 #[.int .u8 109, .int .u8 111, .int .u8 114, .int .u8 101] 4 4 W11.heap.size rfl Try.underlying33 Try.underlying5
          have hcr := const_rd W11 [109, 111, 114, 101]
          obtain ⟨hcr1, hcr2⟩ := hcr
          have hcr1' : Rd (W11.alloc (.cells #[.int .u8 109, .int .u8 111, .int .u8 114, .int .u8 101] 5 (4, 5))) 1 (.slice (some ⟨W11.heap.size, 0, none⟩) 4 4) 4 (Lib.byteCells [109, 111, 114, 101]) := hcr1
          have hcr2' : Below W11.heap.size W11 (W11.alloc (.cells #[.int .u8 109, .int .u8 111, .int .u8 114, .int .u8 101] 5 (4, 5))) := hcr2
          have hszc : (W11.alloc (.cells #[.int .u8 109, .int .u8 111, .int .u8 114, .int .u8 101] 5 (4, 5))).heap.size = W11.heap.size + 1 := by simp
          have HC := Lib.hid (And.intro hcr1' (And.intro hcr2' hszc))
          clear hcr1 hcr2 hcr1' hcr2' hszc
          go_wp2_with fail
          generalize (W11.alloc (.cells #[.int .u8 109, .int .u8 111, .int .u8 114, .int .u8 101] 5 (4, 5))) = W12 at *
          clear hcv
          have hap := append_any q2 m2 s0 sl4 [97] [109, 111, 114, 101] (.slice (some ⟨W11.heap.size, 0, none⟩) 4 4) W12 (HQ11.out.1.below HC.out.2.1) (by decide) HC.out.1 (by decide) (fun _ g' hg' => by
            have e : W11.heap.size = g' := (by simpa [Value.ownBlock] using hg')
            have h1 := HC.out.2.2
            have h2 := HQ11.out.1.blk.lt
            omega)
          obtain ⟨ac, hac⟩ : ∃ ac : Int, ac = ((app s0 [97] [109, 111, 114, 101]).1 : Int) := ⟨_, rfl⟩
          rw [← hac] at hap
          clear hac
          refine hap.mono ?_
          rintro e W13 ⟨rfl, slA, hpA, hoA, hnA⟩
          have hs12 : W12.heap.size = W11.heap.size + 1 := HC.out.2.2
          have hs13 := hoA.size
          have hs8 := HX10.out.2.2.2.2
          have hs11 := HS11.out
          have hfo : ∀ k, foot q2 m2 s0.fs sl4 k → k < W8.heap.size := HQ11.out.2.2
          obtain ⟨X13, hT13, hXq13, hXx13⟩ : ∃ X13, Tri w.heap.size X13 W13 q m r s5 s5 sl5 ∧ (∀ k, foot q2 m2 s0.fs sl4 k → X13 k) ∧ ∀ y, W8.heap.size ≤ y → y < W13.heap.size → X13 y := ⟨_, (HT11.out.1.step (Out.of_below (fun _ => False) HC.out.2.1) (fun _ _ h => h.elim)).step hoA (fun k _ hk => .inl (HT11.out.2.1 k hk)), fun k hk => .inl (.inl (HT11.out.2.1 k hk)), fun y h1 h2 => by
            rcases Nat.lt_or_ge y W12.heap.size with h3 | h3
            · rcases Nat.lt_or_ge y W11.heap.size with h4 | h4
              · exact .inl (.inl (HT11.out.2.2.1 y h1 h4))
              · exact .inl (.inr ⟨h4, h3⟩)
            · exact .inr ⟨h3, h2⟩⟩
          have hb13 : Below w.heap.size w W13 := (HT11.out.2.2.2.trans (HC.out.2.1.mono HT11.out.2.2.2.size)).trans (below_of_out hoA (by have := HT11.out.2.2.2.size; omega) (fun k _ hk => (HQ11.out.2.1 k hk).2))
          have hbk13 : ∀ y, W8.heap.size ≤ y → y < W11.heap.size → W13.heap[y]? = W11.heap[y]? := fun y h1 h2 => (hoA.block y (by omega) (fun hf => by have := hfo y hf; omega)).trans (HC.out.2.1.block y h2)
          have hfA : ∀ k, foot q2 m2 (app s0 [97] [109, 111, 114, 101]).2.fs slA k → X13 k ∧ (k < W8.heap.size ∨ W12.heap.size ≤ k) ∧ w.heap.size ≤ k := fun k hk => by
            rcases hnA k hk with h1 | h1
            · exact ⟨hXq13 k h1, .inl (hfo k h1), (HQ11.out.2.1 k h1).2⟩
            · exact ⟨hXx13 k (by omega) (hpA.foot_lt hk), .inr h1, by have := HT11.out.2.2.2.size; omega⟩
          obtain ⟨sA, hsA⟩ : ∃ sA, sA = (app s0 [97] [109, 111, 114, 101]).2 := ⟨_, rfl⟩
          rw [← hsA] at hpA hfA
          have hk13 : Rd W13 1 (.slice (some ⟨kb, 0, none⟩) (ks.length + 1) kc2) (ks.length + 1) (ic ks ++ [.int .i64 77]) := rd_keep HK11.out.1 (fun y hy => by cases hy; exact hbk13 kb (by have := HK11.out.2.1; omega) HK11.out.2.2.1)
          have hx13 := own_keepB HX11.out.1 (W' := W13) (fun y hy => hbk13 y (by have := HX10.out.2.2.1 y hy; omega) (by have := HX10.out.2.2.1 y hy; omega))
          have hy13 := own_keepB HX11.out.2 (W' := W13) (fun y hy => hbk13 y (by have := HX10.out.2.2.2.1 y hy; omega) (by have := HX10.out.2.2.2.1 y hy; omega))
          have HT13 := Lib.hid (And.intro hT13 (And.intro hXx13 hb13))
          have HQ13 := Lib.hid (And.intro hpA hfA)
          have HK13 := Lib.hid (And.intro hk13 (And.intro hx13 hy13))
          have hkc := HK11.out.2.2.2
          have HSZ := Lib.hid (And.intro hs12 (And.intro hs13 (And.intro hs8 hs11)))
          have hcr := crash_any q2 m2 sA slA (.slice (some ⟨kb, 0, none⟩) ks.length kc2) ks W13 hpA (rd_front HK13.out.1 (by simp [ic])) (fun _ g' hg' => by
            cases hg'
            exact ⟨show kb < W13.heap.size from by have := HK11.out.2.2.1; omega, fun hf => by have h1 := (hfA kb hf).2.1; have h2 := HK11.out.2.2.1; have h3 := HK11.out.2.1; omega⟩)
          clear hap hoA hnA hs12 hs13 hs8 hs11 hfo hT13 hXq13 hXx13 hb13 hbk13 hfA hpA hsA hk13 hx13 hy13 HT11 HQ11 HX11
          go_wp2_with fail
          refine hcr.mono ?_
          rintro e W14 ⟨rfl, slB, hpB, hoB, hnB⟩
          have hbk14 : ∀ y, W8.heap.size ≤ y → y < W11.heap.size → W14.heap[y]? = W13.heap[y]? := fun y h1 h2 => hoB.block y (by have h3 := HSZ.out; omega) (fun hf => by have h3 := (HQ13.out.2 y hf).2.1; have h4 := HSZ.out; omega)
          have hk14 := rd_keep HK13.out.1 (W' := W14) (fun y hy => by cases hy; exact hbk14 kb (by have h1 := HK11.out.2.1; have h2 := HSZ.out; omega) HK11.out.2.2.1)
          have hx14 := own_keepB HK13.out.2.1 (W' := W14) (fun y hy => hbk14 y (by have := HX10.out.2.2.1 y hy; omega) (by have h1 := HX10.out.2.2.1 y hy; have h2 := HSZ.out; omega))
          have hy14 := own_keepB HK13.out.2.2 (W' := W14) (fun y hy => hbk14 y (by have h1 := HX10.out.2.2.2.1 y hy; have h2 := HSZ.out; omega) (by have h1 := HX10.out.2.2.2.1 y hy; have h2 := HSZ.out; omega))
          have hT14 := HT13.out.1.step hoB (fun k _ hk => (HQ13.out.2 k hk).1)
          have hb14 : Below w.heap.size w W14 := HT13.out.2.2.trans (below_of_out hoB HT13.out.2.2.size (fun k _ hk => (HQ13.out.2 k hk).2.2))
          have HT14 := Lib.hid (And.intro hT14 (And.intro hb14 hoB.size))
          have HK14 := Lib.hid (And.intro hk14 (And.intro hx14 hy14))
          have HXX : Hid (∀ y, W8.heap.size ≤ y → y < W11.heap.size → X13 y) := Lib.hid (fun y h1 h2 => HT13.out.2.1 y h1 (by have h3 := HSZ.out; omega))
          clear hcr hpB hoB hnB hbk14 hk14 hx14 hy14 hT14 hb14 HT13 HQ13 HK13
          go_wp2_with fail
          refine (known_any _).mono ?_
          rintro e W15 ⟨rfl, hb15⟩
          have hT15 := HT14.out.1.step (Out.of_below (fun _ => False) hb15) (fun _ _ h => h.elim)
          have hx15 := own_keepB HK14.out.2.1 (W' := W15) (fun y hy => hb15.block y (by have h1 := HX10.out.2.2.1 y hy; have h2 := HSZ.out; have h3 := HT14.out.2.2; omega))
          have hy15 := own_keepB HK14.out.2.2 (W' := W15) (fun y hy => hb15.block y (by have h1 := HX10.out.2.2.2.1 y hy; have h2 := HSZ.out; have h3 := HT14.out.2.2; omega))
          have hbA : Below W15.heap.size W15 (W15.alloc (.cells #[.slice xa X1.length xc, .slice ya X1.length yc] 33)) := (Below.refl _ _).alloc (Nat.le_refl _) _
          have hr16 := rd_new W15 33 [.slice xa X1.length xc, .slice ya X1.length yc] 2 rfl
          have hsz15 : W14.heap.size ≤ W15.heap.size := hb15.size
          obtain ⟨cx, hcx, hcxl⟩ := ApRow.of_own (own_keepB hx15 (W' := W15.alloc (.cells #[.slice xa X1.length xc, .slice ya X1.length yc] 33)) (fun y hy => hbA.block y (hx15.lt y hy).2))
          obtain ⟨cy, hcy, hcyl⟩ := ApRow.of_own (own_keepB hy15 (W' := W15.alloc (.cells #[.slice xa X1.length xc, .slice ya X1.length yc] 33)) (fun y hy => hbA.block y (hy15.lt y hy).2))
          have hap := apart_any W15.heap.size 2 [.slice xa X1.length xc, .slice ya X1.length yc] _ rfl (by decide) hr16 (fun jj vv hv => by
            match jj, hv with
            | 0, hv => cases hv; exact ⟨cx, hcx, hcxl, fun h => absurd h (Nat.not_lt_zero _)⟩
            | 1, hv => cases hv; exact ⟨cy, hcy, hcyl, fun h => absurd h (Nat.not_lt_zero _)⟩) (fun i1 j1 v1 u1 hne h1 h2 y hy hy2 => by
            match i1, j1, h1, h2 with
            | 0, 0, _, _ => exact hne rfl
            | 1, 1, _, _ => exact hne rfl
            | 0, 1, h1, h2 => cases h1; cases h2; have a1 := HX10.out.2.2.1 y hy; have a2 := HX10.out.2.2.2.1 y hy2; omega
            | 1, 0, h1, h2 => cases h1; cases h2; have a1 := HX10.out.2.2.1 y hy2; have a2 := HX10.out.2.2.2.1 y hy; omega) (fun v1 hv1 y hy e => by
            simp only [List.mem_cons, List.not_mem_nil, or_false] at hv1
            rcases hv1 with rfl | rfl
            · have := (hx15.lt y hy).2; omega
            · have := (hy15.lt y hy).2; omega)
          have hF17 : ∀ y, apF [.slice xa X1.length xc, .slice ya X1.length yc] y → W8.heap.size ≤ y ∧ y < W10.heap.size := fun y hy => by
            obtain ⟨v1, hv1, hy⟩ := hy
            simp only [List.mem_cons, List.not_mem_nil, or_false] at hv1
            rcases hv1 with rfl | rfl
            · have h1 := HX10.out.2.2.1 y hy; have h2 := HX10.out.2.2.2.2; omega
            · have h1 := HX10.out.2.2.2.1 y hy; have h2 := HX10.out.2.2.2.2; omega
          have HT15 := Lib.hid (And.intro hT15 (And.intro (HT14.out.2.1.trans (hb15.mono HT14.out.2.1.size)) (And.intro hbA hsz15)))
          have HK15 := Lib.hid (rd_keep HK14.out.1 (W' := W15) (fun y hy => by cases hy; exact hb15.block kb (by have h1 := HK11.out.2.2.1; have h2 := HSZ.out; have h3 := HT14.out.2.2; omega)))
          have HAP := Lib.hid hap
          have HF17 := Lib.hid hF17
          clear hT15 hx15 hy15 hbA hr16 hsz15 hcx hcy hcxl hcyl hap hF17 hb15 HT14 HK14
          go_wp2_with fail
          refine HAP.out.mono ?_
          rintro e W17 ⟨rfl, ho17⟩
          have hT17 := (HT15.out.1.step (Out.of_below (fun _ => False) HT15.out.2.2.1) (fun _ _ h => h.elim)).step ho17 (fun y _ hy => .inl (.inl (.inl (HXX.out y (HF17.out y hy).1 (by have h1 := (HF17.out y hy).2; have h2 := HSZ.out; omega)))))
          have hal := alike_low _ q m r s5 sl5 W17 hT17.duo
          have hkl : kb < W15.heap.size := by have h1 := HK11.out.2.2.1; have h2 := HSZ.out; have h3 := HT15.out.2.2.2; have h4 := HK15.out; exact rd_blt h4 (Nat.succ_pos _)
          have hk17 := rd_keep HK15.out (W' := W17) (fun y hy => by
            cases hy
            exact (ho17.block kb (by have := HT15.out.2.2.1.size; omega) (fun hf => by have h1 := (HF17.out kb hf).2; have h2 := HK11.out.2.1; omega)).trans (HT15.out.2.2.1.block kb hkl))
          have hb17 : Below w.heap.size w W17 := (HT15.out.2.1.trans (HT15.out.2.2.1.mono HT15.out.2.1.size)).trans (below_of_out ho17 (by have h1 := HT15.out.2.1.size; have h2 := HT15.out.2.2.1.size; omega) (fun y _ hy => by have h1 := (HF17.out y hy).1; have h2 := HW8.out; omega))
          have HE := Lib.hid (And.intro hk17 hb17)
          clear hT17 hkl hk17 hb17 ho17 HAP
          go_wp2_with fail
          refine hal.mono ?_
          rintro e W18 ⟨rfl, hb18⟩
          obtain ⟨kb', ko', kc', e9, hk9, hk10⟩ := (HE.out.1.below hb18).pos (Nat.succ_pos _)
          cases e9
          have z9 := hk10 ks.length (.int .i64 77) (by rw [List.getElem?_append_right (by simp [ic])]; simp [ic])
          rw [Nat.zero_add] at z9
          have HF := Lib.hid (HE.out.2.trans (hb18.mono HE.out.2.size))
          clear hal hb18 hk9 hk10 HE
          go_wp2_with fail
          go_ret
          exact ⟨rfl, HF.out⟩
    case pos =>
    obtain ⟨s, hs⟩ : ∃ s, l[k]? = some s := ⟨_, List.getElem?_eq_getElem hkn⟩
    have hH := H.out.below hbw
    obtain ⟨b1, o1, c1, e1, hb1, hc1⟩ := hH.cel (by omega)
    cases e1
    have y0 := hc1 k s hs 0 _ rfl
    have y1 := hc1 k s hs 1 _ rfl
    have y2 := hc1 k s hs 2 _ rfl
    have y3 := hc1 k s hs 3 _ rfl
    have y4 := hc1 k s hs 4 _ rfl
    simp only [Nat.add_zero] at y0
    have HDO := Lib.hid (do_any _ q m r _ _ sl s (vb k) (vk k) wr hD (hH.stp k s hs))
    have HB := Lib.hid hbw
    clear hc1 hH hD hbw hs
    go_wp2_with fail
    refine HDO.out.mono ?_
    rintro e w4 ⟨⟨bo, rfl, hbt⟩, ⟨sl2, hD2⟩, hb4⟩
    have HX := Lib.hid (And.intro hD2 (HB.out.trans hb4))
    clear hbt hD2 hb4 HDO y0 y1 y2 y3 y4
    go_wp2_with fail
    go_roundw
    case rel => exact ⟨k + 1, _, sl2, by omega, by go_num, HX.out⟩
    case measure => simp [intOf]; omega
theorem _root_.Go.Proofs.Ytclaahailnpdoaa.plateKeeps_walk (v bv kv : Value) (l : List Sp) (vb vk : Nat → Value) (b : By) (ks : List Int) (w : World) (h : SpsAt w.heap.size w v l vb vk) (hl : l.length ≤ 4611686018427387904)
    (hb : Rd w 1 bv b.length (Lib.byteCells b)) (hbb : 0 < b.length → ∀ g, bv.ownBlock = some g → g < w.heap.size) (hbz : b.length ≤ 140737488355000)
    (hks : Rd w 1 kv ks.length (ic ks)) (hkb : 0 < ks.length → ∀ g, kv.ownBlock = some g → g < w.heap.size) (hkz : ks.length * 8 ≤ 140737488355000) :
    Calls Try.prog 7 #[v, bv, kv] w fun e w' => e = .returned (.bool true) ∧ Below w.heap.size w w' := by
  rcases Nat.lt_or_ge 65536 b.length with hc | hc
  · exact plateKeeps_long v bv kv l vb vk b ks w h hl hb hbb hbz hc hks hkb hkz
  · exact plateKeeps_short v bv kv l vb vk b ks w h hl hb hbb hbz hc hks hkb hkz
end Go.Proofs.Ytclaahailnpdoaa.Pt
