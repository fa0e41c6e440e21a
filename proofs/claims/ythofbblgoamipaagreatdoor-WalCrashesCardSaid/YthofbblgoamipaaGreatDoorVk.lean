/-
  Chapter 8: NewReader at a frame. Printed by gen_wire_newreader.py.
-/
import Derived.Test.YthofbblgoamipaaGreatDoorVj
namespace Go.Proofs.YthofbblgoamipaaGreatDoor.Wa
open Go.RowKit Pt
set_option linter.unusedVariables false
set_option linter.unusedSimpArgs false
set_option maxRecDepth 100000

theorem bys_elem : Tryz.prog.underlying 32 = some (.slice (Tryz.prog.elem 32)) := by kernel_rfl
theorem bys_size (w : World) : (sizeOf (Tryz.prog.elem 32)).run Tryz.prog w = .ok 1 w := by kernel_rfl
/-- behind the first k bytes -/
theorem by_back (bb off L cap k : Nat) (hk : k ≤ L) (hc : k < cap) (h0 : 0 < k) (W : World) : (Instr.slice 32 (.slice (some ⟨bb, off, none⟩) L cap) (some (.int .i64 (k : Int))) none none).run Tryz.prog W = .ok (.slice (some ⟨bb, off + k, none⟩) (L - k) (cap - k)) W := by
  rw [sl_back W 32 (some ⟨bb, off, none⟩) L cap k .i64 bys_elem (bys_size W) hk, if_neg (by omega)]
  simp only [Option.map_some, Addr.add, Nat.mul_one, if_neg (show ¬ k = 0 by omega)]
theorem rd_back2 {W : World} {bb off L cap : Nat} {l m : By} (h : Rd W 1 (.slice (some ⟨bb, off, none⟩) L cap) L (Lib.byteCells (l ++ m))) (hk : l.length < cap) (h0 : 0 < l.length) (hL : l.length ≤ L) : Rd W 1 (.slice (some ⟨bb, off + l.length, none⟩) (L - l.length) (cap - l.length)) (L - l.length) (Lib.byteCells m) := by
  have h2 := h.back l.length hL
  rw [if_neg (by omega)] at h2
  have hd : (Lib.byteCells (l ++ m)).drop (l.length * 1) = Lib.byteCells m := by rw [bc_append, Nat.mul_one, ← bc_length l, List.drop_left]
  rw [hd] at h2
  simp only [Option.map_some, Addr.add, Nat.mul_one, if_neg (show ¬ l.length = 0 by omega)] at h2
  exact h2
set_option maxHeartbeats 8000000 in
theorem newReader_any (k : Nat) (b : By) (v : Value) (w : World) (hk : k < 128) (hl : b.length ≤ 60000) (hr : Rd w 1 v (enc k b).length (Lib.byteCells (enc k b))) :
    Calls Tryz.prog 48 #[v] w fun e w' => ∃ g sl, e = .returned (.tuple #[.pointer (some ⟨g, 0, none⟩), .int .i64 0]) ∧ w.heap.size ≤ g ∧ RC w' g (rcd k b) sl ∧ Below w.heap.size w w' := by
  have hrl := rcd_len k b hk hl
  have hel := enc_len k b
  obtain ⟨bb, off, cap, e1, hcap, hcells⟩ := hr.pos (by omega)
  subst e1
  obtain ⟨L, hL⟩ : ∃ L, L = (enc k b).length := ⟨_, rfl⟩
  obtain ⟨n, hn⟩ : ∃ n, n = (rcd k b).length := ⟨_, rfl⟩
  rw [← hL] at hr hcap hel ⊢
  rw [← hn] at hrl hel
  have HR := Lib.hid hr
  have hs8 : ∀ W, (Instr.slice 32 (.slice (some ⟨bb, off, none⟩) L cap) (some (.int .i64 8)) none none).run Tryz.prog W = .ok (.slice (some ⟨bb, off + 8, none⟩) (L - 8) (cap - 8)) W := fun W => by_back bb off L cap 8 (by omega) (by omega) (by omega) W
  have hs4 : ∀ W, (Instr.slice 32 (.slice (some ⟨bb, off, none⟩) L cap) (some (.int .i64 4)) none none).run Tryz.prog W = .ok (.slice (some ⟨bb, off + 4, none⟩) (L - 4) (cap - 4)) W := fun W => by_back bb off L cap 4 (by omega) (by omega) (by omega) W
  have HLN := Lib.hid (And.intro hL (And.intro hn (And.intro hel (And.intro hrl hcap))))
  have HWD : Hid (∀ W, Below w.heap.size w W → Calls Tryz.prog 65 #[.slice (some ⟨bb, off, none⟩) L cap] W fun e w' => e = .returned (.int .u32 (n : Int)) ∧ Below W.heap.size W w') := Lib.hid (fun W hb => by
    have hk := word_any (UInt8.ofNat (n / 16777216 % 256)) (UInt8.ofNat (n / 65536 % 256)) (UInt8.ofNat (n / 256 % 256)) (UInt8.ofNat (n % 256)) (four (crc (rcd k b)).toNat ++ rcd k b) (.slice (some ⟨bb, off, none⟩) L cap) W (by
     have h := HR.out.below hb
     have e : enc k b = UInt8.ofNat (n / 16777216 % 256) :: UInt8.ofNat (n / 65536 % 256) :: UInt8.ofNat (n / 256 % 256) :: UInt8.ofNat (n % 256) :: (four (crc (rcd k b)).toNat ++ rcd k b) := by rw [hn]; rfl
     rw [← e, ← hL]
     exact h)
    have hu := un4_four n (by omega) (four (crc (rcd k b)).toNat ++ rcd k b)
    unfold four at hu
    simp only [List.cons_append, List.nil_append] at hu
    unfold four at hk
    simp only [List.cons_append, List.nil_append] at hk
    rw [hu] at hk
    exact hk)
  have t1 : ¬ (L : Int) < 8 := by omega
  have t3 : ¬ (65536 : Int) < (n : Int) := by omega
  have henc : enc k b = (four n ++ four (crc (rcd k b)).toNat) ++ rcd k b := by rw [List.append_assoc, hn]; rfl
  have henc4 : enc k b = four n ++ (four (crc (rcd k b)).toNat ++ rcd k b) := by rw [hn]; rfl
  have HR8 : Hid (Rd w 1 (.slice (some ⟨bb, off + 8, none⟩) (L - 8) (cap - 8)) (L - 8) (Lib.byteCells (rcd k b))) := Lib.hid (by
    have h := HR.out
    rw [henc] at h
    exact rd_back2 h (show 8 < cap by omega) (show 0 < 8 by omega) (show 8 ≤ L by omega))
  have HR4 : Hid (Rd w 1 (.slice (some ⟨bb, off + 4, none⟩) (L - 4) (cap - 4)) (L - 4) (Lib.byteCells (four (crc (rcd k b)).toNat ++ rcd k b))) := Lib.hid (by
    have h := HR.out
    rw [henc4] at h
    exact rd_back2 h (show 4 < cap by omega) (show 0 < 4 by omega) (show 4 ≤ L by omega))
  have HL8 : Hid (L - 8 = (rcd k b).length) := Lib.hid (by omega)
  have HL4 : Hid (L - 4 = (four (crc (rcd k b)).toNat ++ rcd k b).length) := Lib.hid (by rw [List.length_append, four_len]; omega)
  clear henc henc4
  have t2 : ((L - 8 : Nat) : Int) = (n : Int) := by omega
  clear hr hrl hel hcap hcells hL hn
  go_enter Tryz.func48, Tryz.ntmps48
  go_wp2_with fail
  have w1 : IntKind.u64.wrap (n : Int) = (n : Int) := wr64 n (by have := HLN.out.2.2.2.1; omega)
  refine wp_region_held_drew (S := (fun _ => True)) (by kernel_rfl) ?_ (fun hHeld1 => ?_)
  · trivial
  refine wpAnyH_take (i := 0) (oi := ?oi1) (v := ?v1) ?hi1 (by kernel_rfl) (by kernel_rfl) (by kernel_rfl) ?hq1 ?hy1 (by assumption) ?rest1
  case hi1 => (simp only [List.getElem?_toArray, List.getElem?_cons_succ, List.getElem?_cons_zero]; rfl)
  case hq1 => exact fun _ _ _ h => h
  case hy1 => (refine Or.inl ⟨by rfl, ?_⟩; intro W hSw; (try dsimp only at hSw); go_simp; (try with_reducible rfl))
  try simp only [Act.put, List.setIfInBounds_toArray, List.set_cons_zero, List.set_cons_succ]
  refine wpAnyH_take (i := 3) (oi := ?oi2) (v := ?v2) ?hi2 (by kernel_rfl) (by kernel_rfl) (by kernel_rfl) ?hq2 ?hy2 (by assumption) ?rest2
  case hi2 => (simp only [List.getElem?_toArray, List.getElem?_cons_succ, List.getElem?_cons_zero]; rfl)
  case hq2 => exact fun _ _ _ h => h
  case hy2 => (refine Or.inl ⟨by rfl, ?_⟩; intro W hSw; (try dsimp only at hSw); go_simp; (try with_reducible rfl))
  try simp only [Act.put, List.setIfInBounds_toArray, List.set_cons_zero, List.set_cons_succ]
  refine wpAnyH_take (i := 4) (oi := ?oi3) (v := ?v3) ?hi3 (by kernel_rfl) (by kernel_rfl) (by kernel_rfl) ?hq3 ?hy3 (by assumption) ?rest3
  case hi3 => (simp only [List.getElem?_toArray, List.getElem?_cons_succ, List.getElem?_cons_zero]; rfl)
  case hq3 => exact fun _ _ _ h => h
  case hy3 => (refine Or.inl ⟨by rfl, ?_⟩; intro W hSw; (try dsimp only at hSw); go_simp; (try with_reducible rfl))
  try simp only [Act.put, List.setIfInBounds_toArray, List.set_cons_zero, List.set_cons_succ]
  refine wpAnyH_ready (rs := [1]) (by kernel_rfl) (by simp) ?_
  refine AllReadyH.cons (o := ?oi4) ?hi4 (fun K hK => ?hs4) AllReadyH.nil
  case hi4 => (simp only [List.getElem?_toArray, List.getElem?_cons_succ, List.getElem?_cons_zero]; rfl)
  go_simp
  refine (HWD.out _ ((Below.refl _ _).drew)).mono ?_
  rintro e w2 ⟨rfl, hb2⟩
  have HB2 : Hid (Below w.heap.size w w2) := Lib.hid (((Below.refl _ _).drew).trans hb2)
  go_wp2_with fail
  refine hK.out _ _ ?_ (fun hHeld2 => ?_)
  · trivial
  clear hK
  try simp only [Act.put, List.setIfInBounds_toArray, List.set_cons_zero, List.set_cons_succ]
  refine wpAnyH_take (i := 2) (oi := ?oi5) (v := ?v5) ?hi5 (by kernel_rfl) (by kernel_rfl) (by kernel_rfl) ?hq5 ?hy5 (by assumption) ?rest5
  case hi5 => (simp only [List.getElem?_toArray, List.getElem?_cons_succ, List.getElem?_cons_zero]; rfl)
  case hq5 => exact fun _ _ _ h => h
  case hy5 => (refine Or.inl ⟨by rfl, ?_⟩; intro W hSw; (try dsimp only at hSw); go_simp; (try with_reducible rfl))
  try simp only [Act.put, List.setIfInBounds_toArray, List.set_cons_zero, List.set_cons_succ]
  refine wpAnyH_take (i := 5) (oi := ?oi6) (v := ?v6) ?hi6 (by kernel_rfl) (by kernel_rfl) (by kernel_rfl) ?hq6 ?hy6 (by assumption) ?rest6
  case hi6 => (simp only [List.getElem?_toArray, List.getElem?_cons_succ, List.getElem?_cons_zero]; rfl)
  case hq6 => exact fun _ _ _ h => h
  case hy6 => (refine Or.inl ⟨by rfl, ?_⟩; intro W hSw; (try dsimp only at hSw); go_simp; (try with_reducible rfl))
  try simp only [Act.put, List.setIfInBounds_toArray, List.set_cons_zero, List.set_cons_succ]
  refine wpAnyH_take (i := 6) (oi := ?oi7) (v := ?v7) ?hi7 (by kernel_rfl) (by kernel_rfl) (by kernel_rfl) ?hq7 ?hy7 (by assumption) ?rest7
  case hi7 => (simp only [List.getElem?_toArray, List.getElem?_cons_succ, List.getElem?_cons_zero]; rfl)
  case hq7 => exact fun _ _ _ h => h
  case hy7 => (refine Or.inl ⟨by rfl, ?_⟩; intro W hSw; (try dsimp only at hSw); go_simp; (try with_reducible rfl))
  try simp only [Act.put, List.setIfInBounds_toArray, List.set_cons_zero, List.set_cons_succ]
  refine wpAnyH_done (by kernel_rfl) ?_ _

  clear hb2
  obtain ⟨i0, hi, hz0, hz1, hz2⟩ := info_parts u8_row
  obtain ⟨cc, hcc⟩ : ∃ c, c = crc (rcd k b) := ⟨_, rfl⟩
  have HCR := Lib.hid (fun W (hb : Below w.heap.size w W) => crc_any (.slice (some ⟨bb, off + 8, none⟩) (L - 8) (cap - 8)) (rcd k b) W (by rw [← HL8.out]; exact HR8.out.below hb) (by have := HLN.out; omega))
  have HW4 : Hid (∀ W, Below w.heap.size w W → Calls Tryz.prog 65 #[.slice (some ⟨bb, off + 4, none⟩) (L - 4) (cap - 4)] W fun e w' => e = .returned (.int .u32 (cc.toNat : Int)) ∧ Below W.heap.size W w') := Lib.hid (fun W hb => by
    have hr4 := HR4.out.below hb
    rw [HL4.out] at hr4
    have hr4' : Rd W 1 (.slice (some ⟨bb, off + 4, none⟩) (L - 4) (cap - 4)) (four (crc (rcd k b)).toNat ++ rcd k b).length (Lib.byteCells (four (crc (rcd k b)).toNat ++ rcd k b)) := by rw [← HL4.out]; exact HR4.out.below hb
    have hw := word_any _ _ _ _ (rcd k b) (.slice (some ⟨bb, off + 4, none⟩) (L - 4) (cap - 4)) W hr4'
    have hu := un4_four (crc (rcd k b)).toNat (crc (rcd k b)).toNat_lt (rcd k b)
    have hw2 : Calls Tryz.prog 65 #[.slice (some ⟨bb, off + 4, none⟩) (L - 4) (cap - 4)] W fun e w' => e = .returned (.int .u32 (un4 (four (crc (rcd k b)).toNat ++ rcd k b) : Int)) ∧ Below W.heap.size W w' := hw
    rw [hu, ← hcc] at hw2
    exact hw2)
  rw [← hcc] at HCR
  clear hHeld1 hHeld2 HWD
  go_wp2_with fail
  refine wp_region_held_drew (S := (fun _ => True)) (by kernel_rfl) ?_ (fun hHeld1 => ?_)
  · trivial
  refine wpAnyH_take (i := 0) (oi := ?oi8) (v := ?v8) ?hi8 (by kernel_rfl) (by kernel_rfl) (by kernel_rfl) ?hq8 ?hy8 (by assumption) ?rest8
  case hi8 => (simp only [List.getElem?_toArray, List.getElem?_cons_succ, List.getElem?_cons_zero]; rfl)
  case hq8 => exact fun _ _ _ h => h
  case hy8 => (refine Or.inl ⟨by rfl, ?_⟩; intro W hSw; (try dsimp only at hSw); go_simp; (try with_reducible rfl))
  try simp only [Act.put, List.setIfInBounds_toArray, List.set_cons_zero, List.set_cons_succ]
  refine wpAnyH_take (i := 2) (oi := ?oi9) (v := ?v9) ?hi9 (by kernel_rfl) (by kernel_rfl) (by kernel_rfl) ?hq9 ?hy9 (by assumption) ?rest9
  case hi9 => (simp only [List.getElem?_toArray, List.getElem?_cons_succ, List.getElem?_cons_zero]; rfl)
  case hq9 => exact fun _ _ _ h => h
  case hy9 => (refine Or.inl ⟨by rfl, ?_⟩; intro W hSw; (try dsimp only at hSw); go_simp; (try with_reducible rfl))
  try simp only [Act.put, List.setIfInBounds_toArray, List.set_cons_zero, List.set_cons_succ]
  refine wpAnyH_take (i := 3) (oi := ?oi10) (v := ?v10) ?hi10 (by kernel_rfl) (by kernel_rfl) (by kernel_rfl) ?hq10 ?hy10 (by assumption) ?rest10
  case hi10 => (simp only [List.getElem?_toArray, List.getElem?_cons_succ, List.getElem?_cons_zero]; rfl)
  case hq10 => exact fun _ _ _ h => h
  case hy10 => (refine Or.inl ⟨by rfl, ?_⟩; intro W hSw; (try dsimp only at hSw); go_simp; (try with_reducible rfl))
  try simp only [Act.put, List.setIfInBounds_toArray, List.set_cons_zero, List.set_cons_succ]
  refine wpAnyH_ready (rs := [1]) (by kernel_rfl) (by simp) ?_
  refine AllReadyH.cons (o := ?oi11) ?hi11 (fun K hK => ?hs11) AllReadyH.nil
  case hi11 => (simp only [List.getElem?_toArray, List.getElem?_cons_succ, List.getElem?_cons_zero]; rfl)
  go_simp
  refine (HCR.out _ (HB2.out.drew)).mono ?_
  rintro e w3 ⟨rfl, hb3⟩
  have HB3 : Hid (Below w.heap.size w w3) := Lib.hid (HB2.out.drew.trans (hb3.mono HB2.out.size))
  go_wp2_with fail
  refine hK.out _ _ ?_ (fun hHeld2 => ?_)
  · trivial
  clear hK
  try simp only [Act.put, List.setIfInBounds_toArray, List.set_cons_zero, List.set_cons_succ]
  refine wpAnyH_ready (rs := [4]) (by kernel_rfl) (by simp) ?_
  refine AllReadyH.cons (o := ?oi12) ?hi12 (fun K hK => ?hs12) AllReadyH.nil
  case hi12 => (simp only [List.getElem?_toArray, List.getElem?_cons_succ, List.getElem?_cons_zero]; rfl)
  go_simp
  refine (HW4.out _ HB3.out).mono ?_
  rintro e w4 ⟨rfl, hb4⟩
  have HB4 : Hid (Below w.heap.size w w4) := Lib.hid (HB3.out.trans (hb4.mono HB3.out.size))
  go_wp2_with fail
  refine hK.out _ _ ?_ (fun hHeld2 => ?_)
  · trivial
  clear hK
  try simp only [Act.put, List.setIfInBounds_toArray, List.set_cons_zero, List.set_cons_succ]
  refine wpAnyH_take (i := 5) (oi := ?oi13) (v := ?v13) ?hi13 (by kernel_rfl) (by kernel_rfl) (by kernel_rfl) ?hq13 ?hy13 (by assumption) ?rest13
  case hi13 => (simp only [List.getElem?_toArray, List.getElem?_cons_succ, List.getElem?_cons_zero]; rfl)
  case hq13 => exact fun _ _ _ h => h
  case hy13 => (refine Or.inl ⟨by rfl, ?_⟩; intro W hSw; (try dsimp only at hSw); go_simp; (try with_reducible rfl))
  try simp only [Act.put, List.setIfInBounds_toArray, List.set_cons_zero, List.set_cons_succ]
  refine wpAnyH_take (i := 6) (oi := ?oi14) (v := ?v14) ?hi14 (by kernel_rfl) (by kernel_rfl) (by kernel_rfl) ?hq14 ?hy14 (by assumption) ?rest14
  case hi14 => (simp only [List.getElem?_toArray, List.getElem?_cons_succ, List.getElem?_cons_zero]; rfl)
  case hq14 => exact fun _ _ _ h => h
  case hy14 => (refine Or.inl ⟨by rfl, ?_⟩; intro W hSw; (try dsimp only at hSw); go_simp; (try with_reducible rfl))
  try simp only [Act.put, List.setIfInBounds_toArray, List.set_cons_zero, List.set_cons_succ]
  refine wpAnyH_done (by kernel_rfl) ?_ _

  clear hb3 hb4 hHeld1 hHeld2
  have HS4 := HB4.out.size
  have HRX := Lib.hid (HR8.out.below HB4.out)
  clear hs8 hs4 w1
  go_wp2_with (at_builtin; go_loud (refine wpList_app rfl (.const (.slice none 0 0)) (.tmp 36) 32 rfl 5 w.heap.size i0 (.int .u8 0) 1 1 Tryz.underlying32 hi hz0 hz1 hz2 rfl (by decide) _ 0 [] rfl (World.ownsRow_nil _ _ _ _) _ (L - 8) (Lib.byteCells (rcd k b)) rfl HRX.out (byte_one _) (by unfold maxLen; omega) (by omega) HS4 ?_))
  intro v' w' how hgr _
  have HOW := Lib.hid how
  have HB5 : Hid (Below w.heap.size w w') := Lib.hid (HB4.out.grown hgr HS4 (fun r hr => by cases hr))
  obtain ⟨va, vc, hv⟩ := (Rd.of_own how).slice
  subst hv
  clear how hgr
  go_wp2_with fail
  go_ret2
  refine ⟨w'.heap.size, _, rfl, HB5.out.size, ⟨Blk.new w' _ _, ?_, fun r hr => ?_⟩, HB5.out.alloc HB5.out.size _⟩
  · have h := (Rd.of_own HOW.out).below ((Below.refl w'.heap.size w').alloc (Nat.le_refl _) (.cells #[.slice va (L - 8) vc, .int .i64 0] 111))
    rw [HL8.out] at h ⊢
    exact h
  · have h := (HOW.out.lt r hr).2
    omega
end Go.Proofs.YthofbblgoamipaaGreatDoor.Wa
