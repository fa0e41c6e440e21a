/-
  Chapter 4: the reference's pair: of a piece. Condition: at most 2^47 bytes.
-/
import Derived.Test.YtemlggemomiaeaaFf
namespace Go.Proofs.Ytemlggemomiaeaa
open Go.RowKit

theorem bef_at (l : List UInt8) (c : UInt8) (k : Nat) (h : k < l.length) (hk : k ≤ (Cut.before l c).length) : (l[k] = c → (Cut.before l c).length = k) ∧ (l[k] ≠ c → k + 1 ≤ (Cut.before l c).length) := by
  induction l generalizing k with
  | nil => simp at h
  | cons b l ih =>
    by_cases hb : b = c
    · have e : Cut.before (b :: l) c = [] := by unfold Cut.before; simp [hb]
      rw [e] at hk ⊢
      have : k = 0 := by simpa using hk
      subst this; simp [hb]
    · have e : Cut.before (b :: l) c = b :: Cut.before l c := by unfold Cut.before; rw [List.takeWhile_cons, if_pos (by simp [hb])]
      rw [e] at hk ⊢
      match k with
      | 0 => simp [hb]
      | k + 1 =>
        have := ih k (by simpa using h) (by simpa using hk)
        simp only [List.getElem_cons_succ, List.length_cons]
        exact ⟨fun x => by rw [this.1 x], fun x => by have := this.2 x; omega⟩
theorem pair_of (l : List UInt8) : Fs.pairOf l = match Fs.unq (Cut.before l 61), Fs.unq (Cut.after l 61) with | some n, some v => some (n, v) | _, _ => none := rfl
/-- what 'pair' answers -/
def prRet (l : List UInt8) : Value := match Fs.pairOf l with
  | some p => .tuple #[.agg #[.string ⟨p.1.toArray⟩, .string ⟨p.2.toArray⟩], .int .i64 0]
  | none => .tuple #[.agg #[.string ⟨#[]⟩, .string ⟨#[]⟩], .int .i64 3]
theorem uq_shape (l : List UInt8) : ∃ a b, UqRet ⟨l.toArray⟩ = .tuple #[.string a, .int .i64 b] := by rw [uq_of]; cases Fs.unq l <;> exact ⟨_, _, rfl⟩

set_option maxRecDepth 20000 in
set_option maxHeartbeats 1000000 in
theorem rpair_any (s : ByteArray) (w : World) (hs : s.size ≤ 140737488355328) :
    Calls Try.prog 35 #[.string s] w fun e w' => e = .returned (prRet s.data.toList) ∧ Below w.heap.size w w' := by
  have hsz : s.data.toList.length = s.size := by rw [Array.length_toList]; rfl
  have hbl := Cut.before_le s.data.toList 61
  rw [hsz] at hbl
  have HS := Lib.hid hsz
  clear hsz
  go_enter Try.func35, Try.ntmps35
  go_wp2
  go_loop [4] (fun i => ∃ k : Nat, k ≤ (Cut.before s.data.toList 61).length ∧ i = .int .i64 k) (fun i => s.size - (intOf i).toNat)
  case atStart => exact ⟨0, by omega, rfl⟩
  case round =>
    obtain ⟨k, hk, rfl⟩ := hrel
    by_cases hlt : k < s.size
    · obtain ⟨c, hc⟩ : ∃ c, s[k] = c := ⟨_, rfl⟩
      have hix := idx_str s k hlt c hc
      have hat := bef_at s.data.toList 61 k (by rw [HS.out]; exact hlt) hk
      have hg : s.data.toList[k]'(by rw [HS.out]; exact hlt) = c := by rw [← hc]; rfl
      rw [hg] at hat
      clear hc hg
      by_cases h61 : c = 61
      · subst h61
        have hkk := hat.1 rfl
        have HK := Lib.hid hkk
        clear hkk hat hk
        go_wp2_with fail
        have hX : s.extract 0 k = ⟨(Cut.before s.data.toList 61).toArray⟩ := by rw [ext_take, ← HK.out, Cut.take_eq]
        have hY : s.extract (k + 1) s.size = ⟨(Cut.after s.data.toList 61).toArray⟩ := by rw [ext_drop, ← HK.out]; rfl
        rw [hX, hY]
        clear hX hY
        have hs1 : (⟨(Cut.before s.data.toList 61).toArray⟩ : ByteArray).size ≤ 140737488355328 := by rw [mk_size]; omega
        have hs2 : (⟨(Cut.after s.data.toList 61).toArray⟩ : ByteArray).size ≤ 140737488355328 := by rw [mk_size]; unfold Cut.after; rw [List.length_drop, HS.out]; omega
        have b0 := Blk.new w 44 [.string ⟨#[]⟩, .string ⟨#[]⟩]
        have hB0 := (Below.refl w.heap.size w).alloc (Nat.le_refl _) (.cells #[.string ⟨#[]⟩, .string ⟨#[]⟩] 44)
        refine (runquote_any _ _ hs1).mono ?_
        rintro e w2 ⟨rfl, hb2⟩
        have b2 := b0.below hb2 (by simp)
        have hB2 := hB0.trans (hb2.mono (by simp))
        have hz2 := hb2.size
        rw [World.size_alloc] at hz2
        clear b0 hB0 hb2
        have hu1 := uq_of (Cut.before s.data.toList 61)
        generalize UqRet ⟨(Cut.before s.data.toList 61).toArray⟩ = U1 at hu1 ⊢
        have HU1 := Lib.hid hu1
        have hex : ∃ a b, U1 = .tuple #[.string a, .int .i64 b] := by rw [hu1]; cases Fs.unq (Cut.before s.data.toList 61) <;> exact ⟨_, _, rfl⟩
        clear hu1
        obtain ⟨n1, e1, hU⟩ := hex
        subst hU
        go_wp2_with fail
        refine (runquote_any _ _ hs2).mono ?_
        rintro e w3 ⟨rfl, hb3⟩

        have hu2 := uq_of (Cut.after s.data.toList 61)
        generalize UqRet ⟨(Cut.after s.data.toList 61).toArray⟩ = U2 at hu2 ⊢
        have b3 := b2.below hb3 (by omega)
        have hB3 := hB2.trans (hb3.mono (by omega))
        clear b2 hB2 hb3
        have hu1 := HU1.out
        clear HU1
        have hp := pair_of s.data.toList
        have f1 := b3.frozen 0
        have f2 := b3.frozen 1
        have d1 := b3.cell 0 rfl
        have d2 := b3.cell 1 rfl
        cases hq1 : Fs.unq (Cut.before s.data.toList 61) with
        | none =>
          rw [hq1] at hu1 hp
          simp only [Value.tuple.injEq, Array.mk.injEq, List.cons.injEq, Value.string.injEq, Value.int.injEq, true_and, and_true] at hu1
          obtain ⟨rfl, rfl⟩ := hu1
          have hex : ∃ a b, U2 = .tuple #[.string a, .int .i64 b] := by rw [hu2]; cases Fs.unq (Cut.after s.data.toList 61) <;> exact ⟨_, _, rfl⟩
          obtain ⟨n2, e2, hU⟩ := hex
          subst hU
          have hr : prRet s.data.toList = .tuple #[.agg #[.string ⟨#[]⟩, .string ⟨#[]⟩], .int .i64 3] := by unfold prRet; rw [hp]
          have HR := Lib.hid hr
          clear hu2 hp hq1 hr
          go_wp2
          have b4 := (b3.set 0 (.string ⟨#[]⟩)).set 1 (.string ⟨#[]⟩)
          have p1 := b4.cell 0 rfl
          have p2 := b4.cell 1 rfl
          refine bodyPost_ret (v := .tuple #[.agg #[.string ⟨#[]⟩, .string ⟨#[]⟩], .int .i64 3]) (by simp [results, Try.results35, go_sem, p1, p2]) rfl ⟨by rw [HR.out], (hB3.setCell (p := ⟨w.heap.size, 0, none⟩) (Nat.le_refl _) _).setCell (p := ⟨w.heap.size, 1, none⟩) (Nat.le_refl _) _⟩
        | some n =>
          rw [hq1] at hu1 hp
          simp only [Value.tuple.injEq, Array.mk.injEq, List.cons.injEq, Value.string.injEq, Value.int.injEq, true_and, and_true] at hu1
          obtain ⟨rfl, rfl⟩ := hu1
          cases hq2 : Fs.unq (Cut.after s.data.toList 61) with
          | none =>
            rw [hq2] at hu2 hp
            subst hu2
            have hr : prRet s.data.toList = .tuple #[.agg #[.string ⟨#[]⟩, .string ⟨#[]⟩], .int .i64 3] := by unfold prRet; rw [hp]
            have HR := Lib.hid hr
            clear hp hq1 hq2 hr
            go_wp2
            have b4 := (b3.set 0 (.string ⟨#[]⟩)).set 1 (.string ⟨#[]⟩)
            have p1 := b4.cell 0 rfl
            have p2 := b4.cell 1 rfl
            refine bodyPost_ret (v := .tuple #[.agg #[.string ⟨#[]⟩, .string ⟨#[]⟩], .int .i64 3]) (by simp [results, Try.results35, go_sem, p1, p2]) rfl ⟨by rw [HR.out], (hB3.setCell (p := ⟨w.heap.size, 0, none⟩) (Nat.le_refl _) _).setCell (p := ⟨w.heap.size, 1, none⟩) (Nat.le_refl _) _⟩
          | some v =>
            rw [hq2] at hu2 hp
            subst hu2
            have hr : prRet s.data.toList = .tuple #[.agg #[.string ⟨n.toArray⟩, .string ⟨v.toArray⟩], .int .i64 0] := by unfold prRet; rw [hp]
            have HR := Lib.hid hr
            clear hp hq1 hq2 hr
            go_wp2
            have b4 := (b3.set 0 (.string ⟨n.toArray⟩)).set 1 (.string ⟨v.toArray⟩)
            have p1 := b4.cell 0 rfl
            have p2 := b4.cell 1 rfl
            refine bodyPost_ret (v := .tuple #[.agg #[.string ⟨n.toArray⟩, .string ⟨v.toArray⟩], .int .i64 0]) (by simp [results, Try.results35, go_sem, p1, p2]) rfl ⟨by rw [HR.out], (hB3.setCell (p := ⟨w.heap.size, 0, none⟩) (Nat.le_refl _) _).setCell (p := ⟨w.heap.size, 1, none⟩) (Nat.le_refl _) _⟩
      · have h1 : ((c.toNat : Int) != 61) = true := by rw [bne_iff_ne]; intro e; exact h61 (by rw [← UInt8.toNat_inj]; simp; omega)
        have hk1 := hat.2 h61
        clear hat h61
        go_wp2
        go_round
        case rel => exact ⟨k + 1, by omega, by go_num⟩
        case measure => simp [intOf]; omega
    · obtain rfl : k = s.size := by omega
      go_wp2_with fail
      have hbl2 : Cut.before s.data.toList 61 = s.data.toList := by rw [← Cut.take_eq, List.take_of_length_le (by rw [HS.out]; exact hk)]
      have hX : UqRet s = UqRet ⟨(Cut.before s.data.toList 61).toArray⟩ := by rw [hbl2]
      have hY : UqRet ⟨#[]⟩ = UqRet ⟨(Cut.after s.data.toList 61).toArray⟩ := by unfold Cut.after; rw [List.drop_of_length_le (by rw [hbl2]; omega)]
      clear hbl2
      have b0 := Blk.new w 44 [.string ⟨#[]⟩, .string ⟨#[]⟩]
      have hB0 := (Below.refl w.heap.size w).alloc (Nat.le_refl _) (.cells #[.string ⟨#[]⟩, .string ⟨#[]⟩] 44)
      refine (runquote_any _ _ hs).mono ?_
      rintro e w2 ⟨rfl, hb2⟩
      have b2 := b0.below hb2 (by simp)
      have hB2 := hB0.trans (hb2.mono (by simp))
      have hz2 := hb2.size
      rw [World.size_alloc] at hz2
      clear b0 hB0 hb2
      rw [hX]
      clear hX
      have hu1 := uq_of (Cut.before s.data.toList 61)
      generalize UqRet ⟨(Cut.before s.data.toList 61).toArray⟩ = U1 at hu1 ⊢
      have HU1 := Lib.hid hu1
      have hex : ∃ a b, U1 = .tuple #[.string a, .int .i64 b] := by rw [hu1]; cases Fs.unq (Cut.before s.data.toList 61) <;> exact ⟨_, _, rfl⟩
      clear hu1
      obtain ⟨n1, e1, hU⟩ := hex
      subst hU
      go_wp2_with fail
      refine (runquote_any _ _ (by decide)).mono ?_
      rintro e w3 ⟨rfl, hb3⟩
      rw [hY]
      clear hY
      have hu2 := uq_of (Cut.after s.data.toList 61)
      generalize UqRet ⟨(Cut.after s.data.toList 61).toArray⟩ = U2 at hu2 ⊢
      have b3 := b2.below hb3 (by omega)
      have hB3 := hB2.trans (hb3.mono (by omega))
      clear b2 hB2 hb3
      have hu1 := HU1.out
      clear HU1
      have hp := pair_of s.data.toList
      have f1 := b3.frozen 0
      have f2 := b3.frozen 1
      have d1 := b3.cell 0 rfl
      have d2 := b3.cell 1 rfl
      cases hq1 : Fs.unq (Cut.before s.data.toList 61) with
      | none =>
        rw [hq1] at hu1 hp
        simp only [Value.tuple.injEq, Array.mk.injEq, List.cons.injEq, Value.string.injEq, Value.int.injEq, true_and, and_true] at hu1
        obtain ⟨rfl, rfl⟩ := hu1
        have hex : ∃ a b, U2 = .tuple #[.string a, .int .i64 b] := by rw [hu2]; cases Fs.unq (Cut.after s.data.toList 61) <;> exact ⟨_, _, rfl⟩
        obtain ⟨n2, e2, hU⟩ := hex
        subst hU
        have hr : prRet s.data.toList = .tuple #[.agg #[.string ⟨#[]⟩, .string ⟨#[]⟩], .int .i64 3] := by unfold prRet; rw [hp]
        have HR := Lib.hid hr
        clear hu2 hp hq1 hr
        go_wp2
        have b4 := (b3.set 0 (.string ⟨#[]⟩)).set 1 (.string ⟨#[]⟩)
        have p1 := b4.cell 0 rfl
        have p2 := b4.cell 1 rfl
        refine bodyPost_ret (v := .tuple #[.agg #[.string ⟨#[]⟩, .string ⟨#[]⟩], .int .i64 3]) (by simp [results, Try.results35, go_sem, p1, p2]) rfl ⟨by rw [HR.out], (hB3.setCell (p := ⟨w.heap.size, 0, none⟩) (Nat.le_refl _) _).setCell (p := ⟨w.heap.size, 1, none⟩) (Nat.le_refl _) _⟩
      | some n =>
        rw [hq1] at hu1 hp
        simp only [Value.tuple.injEq, Array.mk.injEq, List.cons.injEq, Value.string.injEq, Value.int.injEq, true_and, and_true] at hu1
        obtain ⟨rfl, rfl⟩ := hu1
        cases hq2 : Fs.unq (Cut.after s.data.toList 61) with
        | none =>
          rw [hq2] at hu2 hp
          subst hu2
          have hr : prRet s.data.toList = .tuple #[.agg #[.string ⟨#[]⟩, .string ⟨#[]⟩], .int .i64 3] := by unfold prRet; rw [hp]
          have HR := Lib.hid hr
          clear hp hq1 hq2 hr
          go_wp2
          have b4 := (b3.set 0 (.string ⟨#[]⟩)).set 1 (.string ⟨#[]⟩)
          have p1 := b4.cell 0 rfl
          have p2 := b4.cell 1 rfl
          refine bodyPost_ret (v := .tuple #[.agg #[.string ⟨#[]⟩, .string ⟨#[]⟩], .int .i64 3]) (by simp [results, Try.results35, go_sem, p1, p2]) rfl ⟨by rw [HR.out], (hB3.setCell (p := ⟨w.heap.size, 0, none⟩) (Nat.le_refl _) _).setCell (p := ⟨w.heap.size, 1, none⟩) (Nat.le_refl _) _⟩
        | some v =>
          rw [hq2] at hu2 hp
          subst hu2
          have hr : prRet s.data.toList = .tuple #[.agg #[.string ⟨n.toArray⟩, .string ⟨v.toArray⟩], .int .i64 0] := by unfold prRet; rw [hp]
          have HR := Lib.hid hr
          clear hp hq1 hq2 hr
          go_wp2
          have b4 := (b3.set 0 (.string ⟨n.toArray⟩)).set 1 (.string ⟨v.toArray⟩)
          have p1 := b4.cell 0 rfl
          have p2 := b4.cell 1 rfl
          refine bodyPost_ret (v := .tuple #[.agg #[.string ⟨n.toArray⟩, .string ⟨v.toArray⟩], .int .i64 0]) (by simp [results, Try.results35, go_sem, p1, p2]) rfl ⟨by rw [HR.out], (hB3.setCell (p := ⟨w.heap.size, 0, none⟩) (Nat.le_refl _) _).setCell (p := ⟨w.heap.size, 1, none⟩) (Nat.le_refl _) _⟩
end Go.Proofs.Ytemlggemomiaeaa
