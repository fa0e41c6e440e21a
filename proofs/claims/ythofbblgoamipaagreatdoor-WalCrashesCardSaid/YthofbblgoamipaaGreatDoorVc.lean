/-
  Chapter 8: the writer: numbers, counts, texts.
-/
import Derived.Test.YthofbblgoamipaaGreatDoorVb
import Derived.Test.YthofbblgoamipaaGreatDoorBd
import Derived.Test.YthofbblgoamipaaGreatDoorApp
import Derived.Test.YthofbblgoamipaaGreatDoorUo
import Derived.Deep.RegionHeld3
namespace Go.Proofs.YthofbblgoamipaaGreatDoor.Wa
open Go.RowKit Pt
set_option linter.unusedVariables false
set_option linter.unusedSimpArgs false
set_option maxRecDepth 100000

/-- a cursor in block g whose bytes are l, in rows from B on -/
structure CW (W : World) (B g : Nat) (bad : Int) (l : By) (sl : Value) : Prop where
  b : Blk W g 114 [sl, .int .i64 bad]
  o : W.ownsRow B 5 1 sl l.length (Lib.byteCells l)
  hg : g < B
  hB : B ≤ W.heap.size
theorem rd_new (W : World) (vs : List Value) (t : TypeId) (n : Nat) (hn : n = vs.length) : Rd (W.alloc (.cells vs.toArray t)) 1 (.slice (some ⟨W.heap.size, 0, none⟩) n n) n vs := by
  subst hn
  refine ⟨by simp, .inr ⟨_, 0, _, rfl, Nat.le_refl _, fun j u hj => ?_⟩⟩
  have h := cells_new W vs t j u hj
  rw [Addr.add_lit] at h; exact h
theorem or128 (m : Nat) : bits .or .u8 ((m : Int) % 256) 128 = ((m % 128 + 128 : Nat) : Int) := by
  have key : ∀ x : Fin 256, bits .or .u8 ((x.val : Nat) : Int) 128 = ((x.val % 128 + 128 : Nat) : Int) := by decide +kernel
  have h := key ⟨m % 256, by omega⟩
  simp only at h
  rw [show ((m : Int) % 256) = ((m % 256 : Nat) : Int) from by omega, h]
  congr 1; omega
theorem bc_one (n : Nat) (h : n < 256) : Lib.byteCells [UInt8.ofNat n] = [.int .u8 (n : Int)] := by
  unfold Lib.byteCells
  simp only [List.map_cons, List.map_nil, List.cons.injEq, and_true]
  congr 1
  have : (UInt8.ofNat n).toNat = n := by simp; omega
  rw [this]
set_option maxHeartbeats 4000000 in
theorem number_any (n B g : Nat) (bad : Int) (l : By) (sl : Value) (w : World) (hn : n < 2097152) (h : CW w B g bad l sl) (hl : l.length ≤ 1000000) :
    Calls Tryz.prog 69 #[.pointer (some ⟨g, 0, none⟩), .int .u64 (n : Int)] w fun e w' => e = .returned (.tuple #[]) ∧ ∃ sl', CW w' B g bad (l ++ uv n) sl' ∧ Out (fun k => k = g ∨ B ≤ k) w w' := by
  obtain ⟨i0, hi, hz0, hz1, hz2⟩ := info_parts u8_row
  have H := Lib.hid h
  have HL := Lib.hid hl
  clear h hl
  go_enter Tryz.func69, Tryz.ntmps69
  go_wp2_with fail
  go_loopw [1] (fun x wr => ∃ m l' sl', m < 2097152 ∧ x = .int .u64 (m : Nat) ∧ CW wr B g bad l' sl' ∧ l' ++ uv m = l ++ uv n ∧ Out (fun k => k = g ∨ B ≤ k) w wr) (fun x _ => (intOf x).toNat)
  case atStart => exact ⟨n, l, sl, hn, rfl, H.out, rfl, Out.refl _ _⟩
  case round =>
    obtain ⟨m, l', sl', hm, rfl, hc, hlm, ho⟩ := hrel
    have HC := Lib.hid hc
    have HO := Lib.hid ho
    have HLM := Lib.hid hlm
    have HLEN : Hid (l'.length ≤ 1000010) := Lib.hid (by
      have h1 := congrArg List.length hlm
      rw [List.length_append, List.length_append] at h1
      have h2 := uv_len n hn
      have h3 := HL.out
      omega)
    obtain ⟨sa, sc, e1⟩ := (Rd.of_own hc.o).slice
    subst e1
    clear hc ho hlm
    have c0 := HC.out.b.cell 0 rfl
    by_cases hm1 : m < 128
    case neg =>
      have g1 : (128 : Int) ≤ (m : Int) := by omega
      have ko := or128 m
      obtain ⟨x, hx⟩ : ∃ x, x = m % 128 + 128 := ⟨_, rfl⟩
      rw [← hx] at ko
      have HX := Lib.hid hx
      have HM1 := Lib.hid hm1
      clear hx hm1
      have HRX : Hid (Rd (wr.alloc (.cells #[.int .u8 (x : Int)] 5)) 1 (.slice (some ⟨wr.heap.size, 0, none⟩) 1 1) 1 (Lib.byteCells [UInt8.ofNat x])) := Lib.hid (by
        rw [bc_one x (by have := HX.out; omega)]; exact rd_new wr [.int .u8 (x : Int)] 5 1 rfl)
      have HOW : Hid ((wr.alloc (.cells #[.int .u8 (x : Int)] 5)).ownsRow B 5 1 _ l'.length (Lib.byteCells l')) := Lib.hid (own_below HC.out.o ((Below.refl _ _).alloc (Nat.le_refl _) _))
      have HS : B ≤ (wr.alloc (.cells #[.int .u8 (x : Int)] 5)).heap.size := by have := HC.out.hB; simp; omega
      have HBK : Hid (Blk (wr.alloc (.cells #[.int .u8 (x : Int)] 5)) g 114 [.slice sa l'.length sc, .int .i64 bad]) := Lib.hid (HC.out.b.alloc _)
      go_wp2_with (at_builtin; go_loud (refine wpList_app rfl (.tmp 10) (.tmp 14) 32 rfl 5 B i0 (.int .u8 0) 1 1 Tryz.underlying32 hi hz0 hz1 hz2 rfl (by decide) _ l'.length (Lib.byteCells l') rfl HOW.out _ 1 (Lib.byteCells [UInt8.ofNat x]) rfl HRX.out (byte_one _) (by have := HLEN.out; unfold maxLen; omega) (by have := HLEN.out; omega) HS ?_))
      intro v' w' how hgr _
      rw [← bc_append] at how
      obtain ⟨va, vc, hv⟩ := (Rd.of_own how).slice
      subst hv
      have HB2 : Hid (Blk w' g 114 [.slice sa l'.length sc, .int .i64 bad]) := Lib.hid (HBK.out.grown hgr (fun r hr => (own_ne HOW.out HC.out.hg) r hr))
      have HG2 : Hid (B ≤ w'.heap.size) := Lib.hid (Nat.le_trans HS hgr.size)
      have HO2 : Hid (Out (fun k => k = g ∨ B ≤ k) w w') := Lib.hid ((HO.out.alloc _).trans (Out.of_grown hgr) (fun k hk hr => .inr (HOW.out.lt k hr).1))
      have HOW2 : Hid (w'.ownsRow B 5 1 (.slice va (l'.length + 1) vc) (l' ++ [UInt8.ofNat x]).length (Lib.byteCells (l' ++ [UInt8.ofNat x]))) := Lib.hid (by rw [List.length_append]; exact how)
      clear how hgr
      have d0 := HB2.out.cell 0 rfl
      have d1 := HB2.out.frozen 0
      go_wp2_with fail
      go_roundw
      case rel =>
        refine ⟨m / 128, _, _, by omega, by go_num, ⟨HB2.out.set 0 _, own_other HOW2.out HC.out.hg _, HC.out.hg, by have := HG2.out; simpa [World.setCell] using this⟩, ?_, HO2.out.set _ _ (.inl rfl)⟩
        rw [← HLM.out, uv_ge HM1.out, ← HX.out, List.append_assoc]; rfl
      case measure => simp [intOf]; have := HM1.out; omega
    case pos =>
      have g1 : ¬ (128 : Int) ≤ (m : Int) := by omega
      have km : (m : Int) % 256 = (m : Int) := by omega
      have HM1 := Lib.hid hm1
      clear hm1
      have HRX : Hid (Rd (wr.alloc (.cells #[.int .u8 (m : Int)] 5)) 1 (.slice (some ⟨wr.heap.size, 0, none⟩) 1 1) 1 (Lib.byteCells [UInt8.ofNat m])) := Lib.hid (by
        rw [bc_one m (by have := HM1.out; omega)]; exact rd_new wr [.int .u8 (m : Int)] 5 1 rfl)
      have HOW : Hid ((wr.alloc (.cells #[.int .u8 (m : Int)] 5)).ownsRow B 5 1 _ l'.length (Lib.byteCells l')) := Lib.hid (own_below HC.out.o ((Below.refl _ _).alloc (Nat.le_refl _) _))
      have HS : B ≤ (wr.alloc (.cells #[.int .u8 (m : Int)] 5)).heap.size := by have := HC.out.hB; simp; omega
      have HBK : Hid (Blk (wr.alloc (.cells #[.int .u8 (m : Int)] 5)) g 114 [.slice sa l'.length sc, .int .i64 bad]) := Lib.hid (HC.out.b.alloc _)
      go_wp2_with (at_builtin; go_loud (refine wpList_app rfl (.tmp 24) (.tmp 27) 32 rfl 5 B i0 (.int .u8 0) 1 1 Tryz.underlying32 hi hz0 hz1 hz2 rfl (by decide) _ l'.length (Lib.byteCells l') rfl HOW.out _ 1 (Lib.byteCells [UInt8.ofNat m]) rfl HRX.out (byte_one _) (by have := HLEN.out; unfold maxLen; omega) (by have := HLEN.out; omega) HS ?_))
      intro v' w' how hgr _
      rw [← bc_append] at how
      obtain ⟨va, vc, hv⟩ := (Rd.of_own how).slice
      subst hv
      have HB2 : Hid (Blk w' g 114 [.slice sa l'.length sc, .int .i64 bad]) := Lib.hid (HBK.out.grown hgr (fun r hr => (own_ne HOW.out HC.out.hg) r hr))
      have HG2 : Hid (B ≤ w'.heap.size) := Lib.hid (Nat.le_trans HS hgr.size)
      have HO2 : Hid (Out (fun k => k = g ∨ B ≤ k) w w') := Lib.hid ((HO.out.alloc _).trans (Out.of_grown hgr) (fun k hk hr => .inr (HOW.out.lt k hr).1))
      have HOW2 : Hid (w'.ownsRow B 5 1 (.slice va (l'.length + 1) vc) (l' ++ [UInt8.ofNat m]).length (Lib.byteCells (l' ++ [UInt8.ofNat m]))) := Lib.hid (by rw [List.length_append]; exact how)
      clear how hgr
      have d0 := HB2.out.cell 0 rfl
      have d1 := HB2.out.frozen 0
      go_wp2_with fail
      try simp only [Exit.inBlock, Exit.then]
      refine bodyPost_end (results_none rfl _ _ _) rfl ?_
      refine ⟨rfl, _, ⟨HB2.out.set 0 _, ?_, HC.out.hg, by have := HG2.out; simpa [World.setCell] using this⟩, HO2.out.set _ _ (.inl rfl)⟩
      have he : l ++ uv n = l' ++ [UInt8.ofNat m] := by rw [← HLM.out, uv_lt HM1.out]
      rw [he]
      exact own_other HOW2.out HC.out.hg _
end Go.Proofs.YthofbblgoamipaaGreatDoor.Wa
