/-
  Chapter 4: the reference's Print. Conditions: fewer than 2^62 pairs, each text of at most 2^40 bytes.
-/
import Derived.Test.YtemlggemomiaeaaFn
namespace Go.Proofs.Ytemlggemomiaeaa
open Go.RowKit

set_option maxRecDepth 20000 in
set_option maxHeartbeats 2000000 in
theorem rprint_any (v : Value) (l : PrL) (w : World) (h : Rd w 2 v l.length (prCells l)) (hm : l.length ≤ 4611686018427387904) (hsz : ∀ p ∈ l, p.1.length ≤ 1099511627776 ∧ p.2.length ≤ 1099511627776) :
    Calls Try.prog 23 #[v] w fun e w' => e = .returned (prnV l) ∧ Below w.heap.size w w' := by
  obtain ⟨a, c, rfl⟩ := h.slice
  by_cases h64 : l.length > 64
  case pos =>
    have hr : prnV l = .tuple #[.string ⟨#[]⟩, .int .i64 2] := by unfold prnV; rw [Fs.printR_long l h64]
    have HR := Lib.hid hr
    have h64' : (64 : Int) < (l.length : Int) := by omega
    clear hr
    go_enter Try.func23, Try.ntmps23
    go_wp2
    go_ret2
    exact ⟨by rw [HR.out]; rfl, Below.refl _ _⟩
  case neg =>
  have h64' : decide ((64 : Int) < (l.length : Int)) = false := by simp; omega
  have HH := Lib.hid h
  clear h
  go_enter Try.func23, Try.ntmps23
  go_wp2
  go_loopw [4, 5] (fun s i wr => ∃ k : Nat, k ≤ l.length ∧ i = .int .i64 k ∧ s = .string ⟨(Fs.prJ (l.take k)).toArray⟩ ∧ (Fs.prJ (l.take k)).length ≤ 16384 ∧ Below w.heap.size w wr) (fun _ i _ => l.length - (intOf i).toNat)
  case atStart => exact ⟨0, by omega, rfl, by simp [Fs.prJ], by simp [Fs.prJ], Below.refl _ _⟩
  case round =>
    obtain ⟨k, hk, rfl, rfl, hln, hb⟩ := hrel
    have hbs := hb.size
    by_cases hlt : k < l.length
    case neg =>
      have ht : l.take k = l := List.take_of_length_le (by omega)
      rw [ht] at hln ⊢
      have hr : prnV l = .tuple #[.string ⟨(Fs.prJ l).toArray⟩, .int .i64 0] := by unfold prnV Fs.printR; rw [if_neg (by omega)]
      have HR := Lib.hid hr
      clear hr ht
      go_wp2
      go_ret2
      exact ⟨by rw [HR.out]; rfl, hb⟩
    case pos =>
    obtain ⟨b, o, cap, e1, hcap, hc⟩ := (HH.out.below hb).pos (by omega)
    cases e1
    have p1 := prCells_at l k hlt
    have q1 := hc _ _ p1.1
    have q2 := hc _ _ p1.2
    rw [← Nat.add_assoc] at q2
    have hs : l.take (k + 1) = l.take k ++ [l[k]] := by rw [List.take_succ_eq_append_getElem hlt]
    have hsn := Fs.prJ_snoc (l.take k) l[k]
    rw [← hs] at hsn
    have hpart := Fs.printR_part l (k + 1)
    have he := Fs.e1_len l[k]
    have hz := hsz l[k] (List.getElem_mem hlt)
    clear hc p1 hs
    generalize l[k] = x at hsn q1 q2 he hz
    obtain ⟨nm, vl⟩ := x
    have hblk := World.block_lt_of_cell? wr _ q1
    by_cases hk0 : k = 0
    · have hk1 : decide (0 < k) = false := by simp; omega
      have ht0 : l.take k = [] := by rw [hk0]; simp
      have hsn' : Fs.prJ (l.take (k + 1)) = Fs.prJ (l.take k) ++ Fs.e1 (nm, vl) := by rw [hsn, if_pos ht0, ht0]; simp [Fs.prJ]
      have HS := Lib.hid hsn'
      clear hk0 ht0 hsn hsn'
      generalize Fs.prJ (l.take k) = pf at hln HS ⊢
      obtain ⟨s1, hs1⟩ : ∃ s1, s1 = pf ++ Fs.quote nm := ⟨_, rfl⟩
      obtain ⟨s2, hs2⟩ : ∃ s2, s2 = s1 ++ [61] := ⟨_, rfl⟩
      obtain ⟨s3, hs3⟩ : ∃ s3, s3 = s2 ++ Fs.quote vl := ⟨_, rfl⟩
      have hs3' : Fs.prJ (l.take (k + 1)) = s3 := by rw [HS.out, hs3, hs2, hs1]; simp [Fs.e1]
      have hl1 : s1.length ≤ 5000000000000 := by have := Fs.quote_len nm; simp only at hz; rw [hs1, List.length_append]; omega
      have hl2 : s2.length ≤ 5000000000001 := by rw [hs2, List.length_append, List.length_singleton]; omega
      have hl3 : s3.length ≤ 9000000000001 := by have := Fs.quote_len vl; simp only at hz; rw [hs3, List.length_append]; omega
      have y1 := str_add pf (Fs.quote nm) s1 (by have := Fs.quote_len nm; simp only at hz; omega) hs1
      have y2 := str_add s1 [61] s2 (by simp; omega) hs2
      have y3 := str_add s2 (Fs.quote vl) s3 (by have := Fs.quote_len vl; simp only at hz; omega) hs3
      have HS3 := Lib.hid hs3'
      clear hs1 hs2 hs3 hs3' HS
      have z1 : 3 * (⟨nm.toArray⟩ : ByteArray).size ≤ 140737488355328 := by rw [mk_size]; simp only at hz; omega
      have z2 : 3 * (⟨vl.toArray⟩ : ByteArray).size ≤ 140737488355328 := by rw [mk_size]; simp only at hz; omega
      have hbd := hb.drew
      go_wp2_with fail
      go_region_held3 (fun W => W.cell? ⟨b, o + k * 2, none⟩ = some (.string ⟨nm.toArray⟩) ∧ W.cell? ⟨b, o + k * 2 + 1, none⟩ = some (.string ⟨vl.toArray⟩) ∧ b < W.heap.size ∧ Below w.heap.size w W)
        (first | exact ⟨q1, q2, hblk, hbd⟩ | (go_split_ands; exact ⟨(hb2.cell (p := ⟨b, _, none⟩) (by assumption)).trans (by assumption), (hb2.cell (p := ⟨b, _, none⟩) (by assumption)).trans (by assumption), Nat.lt_of_lt_of_le (by assumption) hb2.size, below_step (by assumption) hb2⟩))
        (first | (go_at_call 14; refine (rquote_any _ _ (by first | exact z1 | exact z2)).mono ?_; rintro e w2 ⟨rfl, hb2⟩))
      all_goals
        go_split_ands
        by_cases hbig : s3.length > 16384
        · have hr : prnV l = .tuple #[.string ⟨#[]⟩, .int .i64 2] := by unfold prnV; rw [hpart (by rw [HS3.out]; exact hbig)]
          have HR := Lib.hid hr
          have hbig' : (16384 : Int) < (s3.length : Int) := by omega
          clear hr hbig
          go_wp2
          go_ret2
          exact ⟨by rw [HR.out]; rfl, by assumption⟩
        · have hbig' : decide ((16384 : Int) < (s3.length : Int)) = false := by simp; omega
          go_wp2
          go_roundw
          case rel => exact ⟨k + 1, by omega, by go_num, by rw [HS3.out], by rw [HS3.out]; omega, by assumption⟩
          case measure => simp [intOf]; omega
    · have hk1 : 0 < k := by omega
      have ht0 : l.take k ≠ [] := by intro e; have h := congrArg List.length e; rw [List.length_take, List.length_nil] at h; omega
      have hsn' : Fs.prJ (l.take (k + 1)) = (Fs.prJ (l.take k) ++ [38]) ++ Fs.e1 (nm, vl) := by rw [hsn, if_neg ht0]; simp
      clear hk0 ht0 hsn
      generalize hq0 : Fs.prJ (l.take k) = pf0 at hln hsn'
      have y0 := str_add pf0 [38] (pf0 ++ [38]) (by simp; omega) rfl
      have hln1 : (pf0 ++ [38]).length ≤ 16385 := by simp; omega
      have HS := Lib.hid hsn'
      clear hsn' hln hq0
      generalize pf0 ++ [38] = pf at hln1 HS y0
      obtain ⟨s1, hs1⟩ : ∃ s1, s1 = pf ++ Fs.quote nm := ⟨_, rfl⟩
      obtain ⟨s2, hs2⟩ : ∃ s2, s2 = s1 ++ [61] := ⟨_, rfl⟩
      obtain ⟨s3, hs3⟩ : ∃ s3, s3 = s2 ++ Fs.quote vl := ⟨_, rfl⟩
      have hs3' : Fs.prJ (l.take (k + 1)) = s3 := by rw [HS.out, hs3, hs2, hs1]; simp [Fs.e1]
      have hl1 : s1.length ≤ 5000000000000 := by have := Fs.quote_len nm; simp only at hz; rw [hs1, List.length_append]; omega
      have hl2 : s2.length ≤ 5000000000001 := by rw [hs2, List.length_append, List.length_singleton]; omega
      have hl3 : s3.length ≤ 9000000000001 := by have := Fs.quote_len vl; simp only at hz; rw [hs3, List.length_append]; omega
      have y1 := str_add pf (Fs.quote nm) s1 (by have := Fs.quote_len nm; simp only at hz; omega) hs1
      have y2 := str_add s1 [61] s2 (by simp; omega) hs2
      have y3 := str_add s2 (Fs.quote vl) s3 (by have := Fs.quote_len vl; simp only at hz; omega) hs3
      have HS3 := Lib.hid hs3'
      clear hs1 hs2 hs3 hs3' HS
      have z1 : 3 * (⟨nm.toArray⟩ : ByteArray).size ≤ 140737488355328 := by rw [mk_size]; simp only at hz; omega
      have z2 : 3 * (⟨vl.toArray⟩ : ByteArray).size ≤ 140737488355328 := by rw [mk_size]; simp only at hz; omega
      have hbd := hb.drew
      go_wp2_with fail
      go_region_held3 (fun W => W.cell? ⟨b, o + k * 2, none⟩ = some (.string ⟨nm.toArray⟩) ∧ W.cell? ⟨b, o + k * 2 + 1, none⟩ = some (.string ⟨vl.toArray⟩) ∧ b < W.heap.size ∧ Below w.heap.size w W)
        (first | exact ⟨q1, q2, hblk, hbd⟩ | (go_split_ands; exact ⟨(hb2.cell (p := ⟨b, _, none⟩) (by assumption)).trans (by assumption), (hb2.cell (p := ⟨b, _, none⟩) (by assumption)).trans (by assumption), Nat.lt_of_lt_of_le (by assumption) hb2.size, below_step (by assumption) hb2⟩))
        (first | (go_at_call 14; refine (rquote_any _ _ (by first | exact z1 | exact z2)).mono ?_; rintro e w2 ⟨rfl, hb2⟩))
      all_goals
        go_split_ands
        by_cases hbig : s3.length > 16384
        · have hr : prnV l = .tuple #[.string ⟨#[]⟩, .int .i64 2] := by unfold prnV; rw [hpart (by rw [HS3.out]; exact hbig)]
          have HR := Lib.hid hr
          have hbig' : (16384 : Int) < (s3.length : Int) := by omega
          clear hr hbig
          go_wp2
          go_ret2
          exact ⟨by rw [HR.out]; rfl, by assumption⟩
        · have hbig' : decide ((16384 : Int) < (s3.length : Int)) = false := by simp; omega
          go_wp2
          go_roundw
          case rel => exact ⟨k + 1, by omega, by go_num, by rw [HS3.out], by rw [HS3.out]; omega, by assumption⟩
          case measure => simp [intOf]; omega
end Go.Proofs.Ytemlggemomiaeaa
