/-
  Chapter 8: the reader's next number.
-/
import Derived.Test.YthofbblgoamipaaGreatDoorVg
namespace Go.Proofs.YthofbblgoamipaaGreatDoor.Wa
open Go.RowKit Pt
set_option linter.unusedVariables false
set_option linter.unusedSimpArgs false
set_option maxRecDepth 100000

theorem setCell_heap_ne (W : World) (p : Addr) (v : Value) (k : Nat) (h : k ≠ p.block) : (W.setCell p v).heap[k]? = W.heap[k]? := by
  exact Below.heap_setCell _ _ _ _ h
theorem and127 (m : Nat) (h : m < 128) : bits .and .u8 (m : Int) 127 = (m : Int) := by
  have key : ∀ x : Fin 128, bits .and .u8 ((x.val : Nat) : Int) 127 = ((x.val : Nat) : Int) := by decide +kernel
  exact key ⟨m, h⟩
theorem and127h (m : Nat) (h : m < 128) : bits .and .u8 ((m + 128 : Nat) : Int) 127 = (m : Int) := by
  have key : ∀ x : Fin 128, bits .and .u8 ((x.val + 128 : Nat) : Int) 127 = ((x.val : Nat) : Int) := by decide +kernel
  exact key ⟨m, h⟩
theorem wr64 (n : Nat) (h : n < 9223372036854775808) : IntKind.u64.wrap (n : Int) = (n : Int) := by rw [IntKind.wrap_u64]; omega
theorem or_low (y x : Nat) (i : Nat) (hi : i ≤ 32) (hy : y < 2 ^ i) (hx : x % 2 ^ i = 0) (hx1 : x < 4294967296) (hy1 : y < 4294967296) : bits .or .u64 (y : Int) (x : Int) = ((y + x : Nat) : Int) := by
  have h := bits_join_low .u64 32 (by decide) (fun n h0 h1 => by rw [IntKind.wrap_u64]; have h2 : n < 4294967296 := h1; omega) i (y : Int) (x : Int) (by omega) (by exact_mod_cast hy) (by exact_mod_cast hy1) (by omega) (by exact_mod_cast hx) (by exact_mod_cast hx1)
  rw [h]; push_cast; rfl
/-- a reader's cursor in block g that has the bytes l still to read -/
structure RC (W : World) (g : Nat) (l : By) (sl : Value) : Prop where
  b : Blk W g 111 [sl, .int .i64 0]
  r : Rd W 1 sl l.length (Lib.byteCells l)
  ne : ∀ k, sl.ownBlock = some k → k ≠ g
theorem rd_keep {W W' : World} {sz n : Nat} {v : Value} {xs : List Value} (h : Rd W sz v n xs) (hb : ∀ g, v.ownBlock = some g → W'.heap[g]? = W.heap[g]?) : Rd W' sz v n xs := by
  refine ⟨h.1, ?_⟩
  rcases h.2 with h2 | ⟨b, off, cap, hv, hc, hcells⟩
  · exact .inl h2
  · exact .inr ⟨b, off, cap, hv, hc, fun j u hj => (World.cell?_of_block (a := ⟨b, off + j, none⟩) (hb b (by rw [hv]; rfl))).trans (hcells j u hj)⟩
theorem rd_set {W : World} {v : Value} {n : Nat} {cs : List Value} (h : Rd W 1 v n cs) (g : Nat) (o : Nat) (u : Value) (hne : ∀ k, v.ownBlock = some k → k ≠ g) : Rd (W.setCell ⟨g, o, none⟩ u) 1 v n cs :=
  rd_keep h (fun k hk => setCell_heap_ne W ⟨g, o, none⟩ u k (hne k hk))
/-- behind the first byte -/
theorem rd_tail {W : World} {b off cap n : Nat} {x : UInt8} {l : By} (h : Rd W 1 (.slice (some ⟨b, off, none⟩) n cap) n (Lib.byteCells (x :: l))) (hn : n = l.length + 1) : Rd W 1 (.slice (some ⟨b, off + 1, none⟩) (n - 1) (cap - 1)) (n - 1) (Lib.byteCells l) := by
  subst hn
  rcases h.2 with ⟨_, h0⟩ | ⟨b', off', cap', e, hc, hcells⟩
  · cases h0
  · injection e with e1 e2 e3
    cases e1
    subst e3
    refine ⟨by unfold Lib.byteCells; simp, .inr ⟨b, off + 1, cap - 1, rfl, by omega, fun j u hj => ?_⟩⟩
    have := hcells (j + 1) u (by unfold Lib.byteCells at hj ⊢; simpa using hj)
    rw [show off + 1 + j = off + (j + 1) from by omega]
    exact this
theorem rc_tail {wr : World} {g bb off L cap : Nat} {x : UInt8} {l : By} (h : RC wr g (x :: l) (.slice (some ⟨bb, off, none⟩) L cap)) (hL : L = l.length + 1) :
    (cap = 1 → RC (wr.setCell ⟨g, 0, none⟩ (.slice (some ⟨bb, off, none⟩) (L - 1) 0)) g l (.slice (some ⟨bb, off, none⟩) (L - 1) 0)) ∧
    (¬ cap = 1 → RC (wr.setCell ⟨g, 0, none⟩ (.slice (some ⟨bb, off + 1, none⟩) (L - 1) (cap - 1))) g l (.slice (some ⟨bb, off + 1, none⟩) (L - 1) (cap - 1))) := by
  have hrd : Rd wr 1 (.slice (some ⟨bb, off, none⟩) L cap) L (Lib.byteCells (x :: l)) := by have h := h.r; rw [show (x :: l).length = L from by rw [hL]; rfl] at h; exact h
  have hcap : L ≤ cap := by
    rcases hrd.2 with ⟨_, h0⟩ | ⟨b', off', cap', e, hc, _⟩
    · omega
    · injection e with e1 e2 e3; omega
  have hne : ∀ k, some bb = some k → k ≠ g := fun k hk => h.ne k (by rw [← hk]; rfl)
  refine ⟨fun hc => ⟨h.b.set 0 _, ?_, fun k hk => hne k hk⟩, fun hc => ⟨h.b.set 0 _, ?_, fun k hk => hne k hk⟩⟩
  · have hl0 : l = [] := List.eq_nil_of_length_eq_zero (by omega)
    subst hl0
    have : L - 1 = 0 := by simp at hL; omega
    rw [this]
    exact ⟨by simp [Lib.byteCells], .inl ⟨⟨_, _, rfl⟩, rfl⟩⟩
  · have h2 := rd_tail hrd hL
    have e : L - 1 = l.length := by omega
    rw [e] at h2 ⊢
    exact rd_set h2 g 0 _ (fun k hk => hne k hk)
set_option maxHeartbeats 8000000 in
theorem rnext_any (n : Nat) (most : Nat) (r : By) (g : Nat) (sl : Value) (w : World) (hn : n < 2097152) (hm : n ≤ most) (hmm : most < 9223372036854775808) (h : RC w g (uv n ++ r) sl) (hl : r.length ≤ 1000000) :
    Calls Tryz.prog 67 #[.pointer (some ⟨g, 0, none⟩), .int .u64 (most : Int)] w fun e w' => e = .returned (.int .u64 (n : Int)) ∧ ∃ sl', RC w' g r sl' ∧ Out (fun k => k = g) w w' := by
  have H := Lib.hid h
  clear h
  go_enter Tryz.func67, Tryz.ntmps67
  go_wp2_with fail
  go_loopw [5, 6] (fun a i wr => ∃ (k acc m : Nat) (s : Value), k ≤ 2 ∧ a = .int .u64 (acc : Int) ∧ i = .int .i64 (k : Int) ∧ acc < 128 ^ k ∧ acc + m * 128 ^ k = n ∧ (0 < k → 0 < m) ∧ RC wr g (uv m ++ r) s ∧ Out (fun k => k = g) w wr) (fun _ i _ => 3 - (intOf i).toNat)
  case atStart => exact ⟨0, 0, n, sl, by omega, rfl, rfl, by omega, by omega, fun h => absurd h (by omega), H.out, Out.refl _ _⟩
  case round =>
    obtain ⟨k, acc, m, s, hk, rfl, rfl, hacc, hsum, hpos, hrc, ho⟩ := hrel
    have HRC := Lib.hid hrc
    have HO := Lib.hid ho
    clear hrc ho H
    have c1 := HRC.out.b.cell 1 rfl
    by_cases hm1 : m < 128
    case pos =>
      have hrc : RC wr g (UInt8.ofNat m :: r) s := by have h := HRC.out; rw [uv_lt hm1] at h; exact h
      obtain ⟨bb, off, cap, e1, hcap, hcells⟩ := hrc.r.pos (by simp)
      subst e1
      obtain ⟨y, hy⟩ : ∃ y, y = m := ⟨_, rfl⟩
      have d0 : wr.cell? ⟨bb, off, none⟩ = some (.int .u8 (y : Int)) := by
        have h := hcells 0 _ rfl
        simp only [Nat.add_zero] at h
        rw [h]
        have : (UInt8.ofNat m).toNat = m := by simp; omega
        rw [this, hy]
      obtain ⟨L, hL⟩ : ∃ L, L = (UInt8.ofNat m :: r).length := ⟨_, rfl⟩
      have hL1 : L = r.length + 1 := by rw [hL]; simp
      have c0 := HRC.out.b.cell 0 rfl
      rw [← hL] at c0 hcap hrc
      have f0 := HRC.out.b.frozen 0
      have HTL := Lib.hid (rc_tail hrc hL1)
      have l0 : (1 : Int) ≤ (L : Int) := by omega
      have l1 : ((L : Int) == 0) = false := by rw [beq_eq_false_iff_ne]; omega
      have l2 : (0 : Int) < (L : Int) := by omega
      have l3 : ¬ L = 0 := by omega
      clear hL hL1 hcells hrc
      obtain hk0 | hk0 | hk0 : k = 0 ∨ k = 1 ∨ k = 2 := by omega
      · subst hk0
        have hsum' : acc + m * 1 = n := hsum
        have hacc' : acc < 1 := hacc
        have a1 := and127 y (by omega)
        have a2 := wr64 y (by omega)
        obtain ⟨acc2, hacc2⟩ : ∃ q, q = acc + y := ⟨_, rfl⟩
        have a4 : bits .or .u64 (acc : Int) (y : Int) = (acc2 : Int) := by rw [hacc2]; have h := or_low acc y 0 (by omega) (by omega) (by omega) (by omega) (by omega); push_cast at h ⊢; exact h
        have a5 : (y : Int) < 128 := by omega
        have a6 : (acc2 : Int) ≤ (most : Int) := by omega
        have HE : Hid (acc2 = n) := Lib.hid (by omega)
        clear hk hacc hsum hpos hacc' hsum' hacc2 hy hm1 hn hm
        by_cases hc1 : cap = 1
        case pos =>
          have HT2 := Lib.hid (HTL.out.1 hc1)
          go_wp2_with fail
          go_ret
          exact ⟨by rw [HE.out]; rfl, _, HT2.out, HO.out.set _ _ rfl⟩
        case neg =>
          have HT2 := Lib.hid (HTL.out.2 hc1)
          go_wp2_with fail
          go_ret
          exact ⟨by rw [HE.out]; rfl, _, HT2.out, HO.out.set _ _ rfl⟩
      · subst hk0
        have hsum' : acc + m * 128 = n := hsum
        have hacc' : acc < 128 := hacc
        have a1 := and127 y (by omega)
        have a2 := wr64 y (by omega)
        have a3 : IntKind.u64.wrap ((y : Int) * 128) = (y : Int) * 128 := by have h := wr64 (y * 128) (by omega); push_cast at h; exact h
        obtain ⟨acc2, hacc2⟩ : ∃ q, q = acc + (y * 128) := ⟨_, rfl⟩
        have a4 : bits .or .u64 (acc : Int) ((y : Int) * 128) = (acc2 : Int) := by rw [hacc2]; have h := or_low acc (y * 128) 7 (by omega) (by omega) (by omega) (by omega) (by omega); push_cast at h ⊢; exact h
        have p1 : ((y : Int) == 0) = false := by rw [beq_eq_false_iff_ne]; have := hpos (by omega); omega
        have a5 : (y : Int) < 128 := by omega
        have a6 : (acc2 : Int) ≤ (most : Int) := by omega
        have HE : Hid (acc2 = n) := Lib.hid (by omega)
        clear hk hacc hsum hpos hacc' hsum' hacc2 hy hm1 hn hm
        by_cases hc1 : cap = 1
        case pos =>
          have HT2 := Lib.hid (HTL.out.1 hc1)
          go_wp2_with fail
          go_ret
          exact ⟨by rw [HE.out]; rfl, _, HT2.out, HO.out.set _ _ rfl⟩
        case neg =>
          have HT2 := Lib.hid (HTL.out.2 hc1)
          go_wp2_with fail
          go_ret
          exact ⟨by rw [HE.out]; rfl, _, HT2.out, HO.out.set _ _ rfl⟩
      · subst hk0
        have hsum' : acc + m * 16384 = n := hsum
        have hacc' : acc < 16384 := hacc
        have a1 := and127 y (by omega)
        have a2 := wr64 y (by omega)
        have a3 : IntKind.u64.wrap ((y : Int) * 16384) = (y : Int) * 16384 := by have h := wr64 (y * 16384) (by omega); push_cast at h; exact h
        obtain ⟨acc2, hacc2⟩ : ∃ q, q = acc + (y * 16384) := ⟨_, rfl⟩
        have a4 : bits .or .u64 (acc : Int) ((y : Int) * 16384) = (acc2 : Int) := by rw [hacc2]; have h := or_low acc (y * 16384) 14 (by omega) (by omega) (by omega) (by omega) (by omega); push_cast at h ⊢; exact h
        have p1 : ((y : Int) == 0) = false := by rw [beq_eq_false_iff_ne]; have := hpos (by omega); omega
        have a5 : (y : Int) < 128 := by omega
        have a6 : (acc2 : Int) ≤ (most : Int) := by omega
        have HE : Hid (acc2 = n) := Lib.hid (by omega)
        clear hk hacc hsum hpos hacc' hsum' hacc2 hy hm1 hn hm
        by_cases hc1 : cap = 1
        case pos =>
          have HT2 := Lib.hid (HTL.out.1 hc1)
          go_wp2_with fail
          go_ret
          exact ⟨by rw [HE.out]; rfl, _, HT2.out, HO.out.set _ _ rfl⟩
        case neg =>
          have HT2 := Lib.hid (HTL.out.2 hc1)
          go_wp2_with fail
          go_ret
          exact ⟨by rw [HE.out]; rfl, _, HT2.out, HO.out.set _ _ rfl⟩
    case neg =>
      have hrc : RC wr g (UInt8.ofNat (m % 128 + 128) :: (uv (m / 128) ++ r)) s := by have h := HRC.out; rw [uv_ge hm1] at h; exact h
      obtain ⟨bb, off, cap, e1, hcap, hcells⟩ := hrc.r.pos (by simp)
      subst e1
      obtain ⟨y, hy⟩ : ∃ y, y = (m % 128 + 128) := ⟨_, rfl⟩
      have d0 : wr.cell? ⟨bb, off, none⟩ = some (.int .u8 (y : Int)) := by
        have h := hcells 0 _ rfl
        simp only [Nat.add_zero] at h
        rw [h]
        have : (UInt8.ofNat (m % 128 + 128)).toNat = (m % 128 + 128) := by simp; omega
        rw [this, hy]
      obtain ⟨L, hL⟩ : ∃ L, L = (UInt8.ofNat (m % 128 + 128) :: (uv (m / 128) ++ r)).length := ⟨_, rfl⟩
      have hL1 : L = (uv (m / 128) ++ r).length + 1 := by rw [hL]; simp
      have c0 := HRC.out.b.cell 0 rfl
      rw [← hL] at c0 hcap hrc
      have f0 := HRC.out.b.frozen 0
      have HTL := Lib.hid (rc_tail hrc hL1)
      have l0 : (1 : Int) ≤ (L : Int) := by omega
      have l1 : ((L : Int) == 0) = false := by rw [beq_eq_false_iff_ne]; omega
      have l2 : (0 : Int) < (L : Int) := by omega
      have l3 : ¬ L = 0 := by omega
      clear hL hL1 hcells hrc
      obtain hk0 | hk0 | hk0 : k = 0 ∨ k = 1 ∨ k = 2 := by omega
      · subst hk0
        have hsum' : acc + m * 1 = n := hsum
        have hacc' : acc < 1 := hacc
        have a1 : bits .and .u8 (y : Int) 127 = ((m % 128 : Nat) : Int) := by rw [hy]; exact and127h (m % 128) (by omega)
        obtain ⟨z, hz⟩ : ∃ z, z = m % 128 := ⟨_, rfl⟩
        rw [← hz] at a1
        have a2 := wr64 z (by omega)
        obtain ⟨acc2, hacc2⟩ : ∃ q, q = acc + z := ⟨_, rfl⟩
        have a4 : bits .or .u64 (acc : Int) (z : Int) = (acc2 : Int) := by rw [hacc2]; have h := or_low acc z 0 (by omega) (by omega) (by omega) (by omega) (by omega); push_cast at h ⊢; exact h
        have a5 : ¬ (y : Int) < 128 := by omega
        have HE : Hid (acc2 < 128 ^ 1 ∧ acc2 + m / 128 * 128 ^ 1 = n ∧ 0 < m / 128) := Lib.hid ⟨by show acc2 < 128; omega, by show acc2 + m / 128 * 128 = n; omega, by omega⟩
        clear hk hacc hsum hpos hacc' hsum' hacc2 hy hm1 hz hn hm
        by_cases hc1 : cap = 1
        case pos =>
          have HT2 := Lib.hid (HTL.out.1 hc1)
          go_wp2_with fail
          go_roundw
          case rel => exact ⟨1, acc2, m / 128, _, by omega, rfl, by go_num, HE.out.1, HE.out.2.1, fun _ => HE.out.2.2, HT2.out, HO.out.set _ _ rfl⟩
          case measure => simp [intOf]
        case neg =>
          have HT2 := Lib.hid (HTL.out.2 hc1)
          go_wp2_with fail
          go_roundw
          case rel => exact ⟨1, acc2, m / 128, _, by omega, rfl, by go_num, HE.out.1, HE.out.2.1, fun _ => HE.out.2.2, HT2.out, HO.out.set _ _ rfl⟩
          case measure => simp [intOf]
      · subst hk0
        have hsum' : acc + m * 128 = n := hsum
        have hacc' : acc < 128 := hacc
        have a1 : bits .and .u8 (y : Int) 127 = ((m % 128 : Nat) : Int) := by rw [hy]; exact and127h (m % 128) (by omega)
        obtain ⟨z, hz⟩ : ∃ z, z = m % 128 := ⟨_, rfl⟩
        rw [← hz] at a1
        have a2 := wr64 z (by omega)
        have a3 : IntKind.u64.wrap ((z : Int) * 128) = (z : Int) * 128 := by have h := wr64 (z * 128) (by omega); push_cast at h; exact h
        obtain ⟨acc2, hacc2⟩ : ∃ q, q = acc + (z * 128) := ⟨_, rfl⟩
        have a4 : bits .or .u64 (acc : Int) ((z : Int) * 128) = (acc2 : Int) := by rw [hacc2]; have h := or_low acc (z * 128) 7 (by omega) (by omega) (by omega) (by omega) (by omega); push_cast at h ⊢; exact h
        have p1 : ((y : Int) == 0) = false := by rw [beq_eq_false_iff_ne]; have := hpos (by omega); omega
        have a5 : ¬ (y : Int) < 128 := by omega
        have HE : Hid (acc2 < 128 ^ 2 ∧ acc2 + m / 128 * 128 ^ 2 = n ∧ 0 < m / 128) := Lib.hid ⟨by show acc2 < 16384; omega, by show acc2 + m / 128 * 16384 = n; omega, by omega⟩
        clear hk hacc hsum hpos hacc' hsum' hacc2 hy hm1 hz hn hm
        by_cases hc1 : cap = 1
        case pos =>
          have HT2 := Lib.hid (HTL.out.1 hc1)
          go_wp2_with fail
          go_roundw
          case rel => exact ⟨2, acc2, m / 128, _, by omega, rfl, by go_num, HE.out.1, HE.out.2.1, fun _ => HE.out.2.2, HT2.out, HO.out.set _ _ rfl⟩
          case measure => simp [intOf]
        case neg =>
          have HT2 := Lib.hid (HTL.out.2 hc1)
          go_wp2_with fail
          go_roundw
          case rel => exact ⟨2, acc2, m / 128, _, by omega, rfl, by go_num, HE.out.1, HE.out.2.1, fun _ => HE.out.2.2, HT2.out, HO.out.set _ _ rfl⟩
          case measure => simp [intOf]
      · subst hk0
        exfalso
        simp at hsum
        omega
end Go.Proofs.YthofbblgoamipaaGreatDoor.Wa
