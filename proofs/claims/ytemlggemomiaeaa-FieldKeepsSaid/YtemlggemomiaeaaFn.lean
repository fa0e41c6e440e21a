/-
  Chapter 4: pairs as a text: the program's Print and the reference's. Conditions: fewer than 2^62 pairs; for the reference's: each text of at most 2^40 bytes.
-/
import Derived.Test.YtemlggemomiaeaaFm
import Derived.Deep.RegionWith
import Derived.Deep.RegionHeld3
namespace Go.Proofs.Ytemlggemomiaeaa
open Go.RowKit
theorem str_add (x y z : List UInt8) (h : x.length + y.length ≤ 9223372036854775807) (hz : z = x ++ y) (w : World) : (Op.stringOp .add ⟨x.toArray⟩ ⟨y.toArray⟩).run Try.prog w = .ok (.string ⟨z.toArray⟩) w := by
  subst hz
  rw [run_string_add_sum w _ _ (by simp [ByteArray.size]; omega), ByteArray.mk_append_mk]
namespace Fs
/-- a pair, as a text -/
def e1 (p : By × By) : By := quote p.1 ++ 61 :: quote p.2
/-- pairs, as a text -/
def prJ : List (By × By) → By
  | [] => []
  | p :: r => e1 p ++ r.flatMap fun p => 38 :: e1 p
theorem prJ_snoc (l : List (By × By)) (p : By × By) : prJ (l ++ [p]) = if l = [] then e1 p else prJ l ++ 38 :: e1 p := by
  cases l with
  | nil => simp [prJ]
  | cons q r => simp [prJ]
theorem quote_ge (l : By) : l.length ≤ (quote l).length := by
  induction l with
  | nil => simp
  | cons c l ih =>
    simp only [quote, List.flatMap_cons, List.length_append, List.length_cons] at *
    have : 1 ≤ (q1 c).length := by unfold q1; split <;> (try split) <;> simp
    omega
theorem e1_len (p : By × By) : p.1.length + p.2.length + 1 ≤ (e1 p).length ∧ (e1 p).length ≤ 3 * p.1.length + 3 * p.2.length + 1 := by
  have h1 := quote_len p.1; have h2 := quote_len p.2; have h3 := quote_ge p.1; have h4 := quote_ge p.2
  simp only [e1, List.length_append, List.length_cons]; omega
theorem prJ_take_le (l : List (By × By)) (k : Nat) : (prJ (l.take k)).length ≤ (prJ l).length := by
  cases l with
  | nil => simp
  | cons q r =>
    cases k with
    | zero => simp [prJ]
    | succ k =>
      simp only [List.take_succ_cons, prJ, List.length_append]
      have : ∀ (r : List (By × By)) (k : Nat), ((r.take k).flatMap fun p => 38 :: e1 p).length ≤ (r.flatMap fun p => 38 :: e1 p).length := by
        intro r
        induction r with
        | nil => simp
        | cons a r ih => intro k; cases k with
          | zero => simp
          | succ k => simp only [List.take_succ_cons, List.flatMap_cons, List.length_append]; have := ih k; omega
      have := this r k
      omega
/-- what Print answers -/
def printR (l : List (By × By)) : Option By := if l.length > 64 ∨ (prJ l).length > 16384 then none else some (prJ l)
theorem printR_long (l : List (By × By)) (h : l.length > 64) : printR l = none := by unfold printR; rw [if_pos (.inl h)]
theorem printR_part (l : List (By × By)) (k : Nat) (h : (prJ (l.take k)).length > 16384) : printR l = none := by
  unfold printR; rw [if_pos (.inr (by have := prJ_take_le l k; omega))]
theorem printR_big (l : List (By × By)) (k : Nat) (hk : k < l.length) (h : l[k].1.length > 16384 ∨ l[k].2.length > 16384) : printR l = none := by
  refine printR_part l (k + 1) ?_
  rw [List.take_succ_eq_append_getElem hk, prJ_snoc]
  have := (e1_len l[k]).1
  split
  · omega
  · simp only [List.length_append, List.length_cons]; omega
end Fs
/-- what Print hands back -/
def prnV (l : PrL) : Value := match Fs.printR l with
  | some s => .tuple #[.string ⟨s.toArray⟩, .int .i64 0]
  | none => .tuple #[.string ⟨#[]⟩, .int .i64 2]

theorem builder_below {T e : TypeId} {B b : Nat} {bs : List Value} {w w' : World} (h : Lib.IsBuilderF T e B b bs w) (hb : Below w.heap.size w w') : Lib.IsBuilderF T e B b bs w' := by
  have one : ∀ p, Lib.BuilderAtF T e B b p bs w → Lib.BuilderAtF T e B b p bs w' := by
    rintro p ⟨hB, v, hbk, hown, hne⟩
    refine ⟨hB, v, (hb.block b (Array.getElem?_eq_some_iff.1 hbk).1).trans hbk, ⟨hown.1, ?_⟩, hne⟩
    rcases hown.2 with h2 | ⟨g, cap, cur, fz, hv, hg, hh, r⟩
    · exact .inl h2
    · exact .inr ⟨g, cap, cur, fz, hv, hg, (hb.block g (Array.getElem?_eq_some_iff.1 hh).1).trans hh, r⟩
  rcases h with h | h
  · exact .inl (one _ h)
  · exact .inr (one _ h)
theorem builder_drew {T e : TypeId} {B b : Nat} {bs : List Value} {w : World} (h : Lib.IsBuilderF T e B b bs w) : Lib.IsBuilderF T e B b bs w.drew := by
  rcases h with h | h
  · exact .inl h.drew
  · exact .inr h.drew
theorem below_step {B : Nat} {a w w' : World} (h : Below B a w) (hb : Below w.heap.size w w') (hB : B ≤ a.heap.size := by exact Nat.le_refl _) : Below B a w' := h.trans (hb.mono (Nat.le_trans hB h.size))

set_option maxRecDepth 20000 in
set_option maxHeartbeats 2000000 in
theorem print_any (v : Value) (l : PrL) (w : World) (h : Rd w 2 v l.length (prCells l)) (hm : l.length ≤ 4611686018427387904) :
    Calls Try.prog 22 #[v] w fun e w' => e = .returned (prnV l) ∧ Below w.heap.size w w' := by
  obtain ⟨a, c, rfl⟩ := h.slice
  by_cases h64 : l.length > 64
  case pos =>
    have hr : prnV l = .tuple #[.string ⟨#[]⟩, .int .i64 2] := by unfold prnV; rw [Fs.printR_long l h64]
    have HR := Lib.hid hr
    have h64' : (64 : Int) < (l.length : Int) := by omega
    clear hr
    go_enter Try.func22, Try.ntmps22
    go_wp2
    go_ret2
    exact ⟨by rw [HR.out]; rfl, Below.refl _ _⟩
  case neg =>
  have h64' : decide ((64 : Int) < (l.length : Int)) = false := by simp; omega
  have HH := Lib.hid h
  clear h
  go_enter Try.func22, Try.ntmps22
  go_wp2
  go_loopw [12] (fun i wr => ∃ k : Nat, k ≤ l.length ∧ i = .int .i64 k ∧ Lib.IsBuilderF 48 5 w.heap.size w.heap.size (Lib.byteCells (Fs.prJ (l.take k))) wr ∧ (Fs.prJ (l.take k)).length ≤ k * 100000 ∧ Below w.heap.size w wr) (fun i _ => l.length - (intOf i).toNat)
  case atStart => exact ⟨0, by omega, rfl, Lib.IsBuilderF.of (Lib.fresh_isBuilder 48 5 w), by simp [Fs.prJ], (Below.refl _ _).alloc (Nat.le_refl _) _⟩
  case round =>
    obtain ⟨k, hk, rfl, hbu, hln, hb⟩ := hrel
    have hbs := hb.size
    have hblt : w.heap.size < wr.heap.size := by rcases hbu with h | h <;> exact h.lt
    by_cases hlt : k < l.length
    case neg =>
      have ht : l.take k = l := List.take_of_length_le (by omega)
      rw [ht] at hbu hln
      have hlen := bc_length (Fs.prJ l)
      go_wp2_with fail
      refine (Try.Builder_Len_f _ _ _ _ hbu).mono ?_
      rw [hlen]
      rintro e w1 ⟨rfl, rfl⟩
      clear hlen
      by_cases hbig : (Fs.prJ l).length > 16384
      · have hr : prnV l = .tuple #[.string ⟨#[]⟩, .int .i64 2] := by unfold prnV; rw [Fs.printR_part l k (by rw [ht]; exact hbig)]
        have HR := Lib.hid hr
        have hbig' : (16384 : Int) < ((Fs.prJ l).length : Int) := by omega
        clear hr ht
        go_wp2
        go_ret2
        exact ⟨by rw [HR.out]; rfl, hb⟩
      · have hr : prnV l = .tuple #[.string ⟨(Fs.prJ l).toArray⟩, .int .i64 0] := by unfold prnV Fs.printR; rw [if_neg (by omega)]
        have HR := Lib.hid hr
        have hbig' : decide ((16384 : Int) < ((Fs.prJ l).length : Int)) = false := by simp; omega
        clear hr ht
        go_wp2_with fail
        refine (Try.Builder_String_any_f _ _ _ _ hbu hbs).mono ?_
        rintro e w1 ⟨rfl, h1, hb1⟩
        go_wp2
        go_ret2
        exact ⟨by rw [HR.out]; rfl, hb.trans hb1⟩
    case pos =>
    obtain ⟨b, o, cap, e1, hcap, hc⟩ := (HH.out.below hb).pos (by omega)
    cases e1
    have p1 := prCells_at l k hlt
    have q1 := hc _ _ p1.1
    have q2 := hc _ _ p1.2
    rw [← Nat.add_assoc] at q2
    have hs : l.take (k + 1) = l.take k ++ [l[k]] := by rw [List.take_succ_eq_append_getElem hlt]
    have hsn := Fs.prJ_snoc (l.take k) l[k]
    rw [← hs] at hsn
    have hbig := Fs.printR_big l k hlt
    have he := Fs.e1_len l[k]
    clear hc p1 hs
    generalize l[k] = x at hsn q1 q2 hbig he
    obtain ⟨nm, vl⟩ := x
    have HS := Lib.hid hsn
    clear hsn
    by_cases hbg : nm.length > 16384 ∨ vl.length > 16384
    case pos =>
      have hr : prnV l = .tuple #[.string ⟨#[]⟩, .int .i64 2] := by unfold prnV; rw [hbig hbg]
      have HR := Lib.hid hr
      clear hr hbig he
      by_cases hk0 : k = 0
      · have hk1 : decide (0 < k) = false := by simp; omega
        clear hk0
        rcases hbg with hbg | hbg
        · have hbg' : (16384 : Int) < (nm.length : Int) := by omega
          clear hbg
          go_wp2
          go_ret2
          exact ⟨by rw [HR.out]; rfl, hb.alloc hbs _⟩
        · have hbg' : (16384 : Int) < (vl.length : Int) := by omega
          clear hbg
          by_cases hn : nm.length > 16384
          · have hn' : (16384 : Int) < (nm.length : Int) := by omega
            go_wp2
            go_ret2
            exact ⟨by rw [HR.out]; rfl, hb.alloc hbs _⟩
          · have hn' : (nm.length : Int) ≤ 16384 := by omega
            go_wp2
            go_ret2
            exact ⟨by rw [HR.out]; rfl, hb.alloc hbs _⟩
      · have hk1 : 0 < k := by omega
        have hbp := Blk.new wr 44 [.string ⟨nm.toArray⟩, .string ⟨vl.toArray⟩]
        go_wp2_with fail
        refine (sb_byte _ _ _ _ _ (Lib.IsBuilderF.alloc hbu _) (by rw [bc_length]; omega) (by rw [World.size_alloc]; omega)).mono ?_
        rintro e w1 ⟨rfl, h1, hb1, hkp⟩
        have hbp1 : Blk w1 wr.heap.size 44 [.string ⟨nm.toArray⟩, .string ⟨vl.toArray⟩] := hkp _ _ hbp (fun e => by have := Option.some.inj e; omega) (by intro c fz e; cases e)
        have c0 := hbp1.cell 0 rfl
        have c1 := hbp1.cell 1 rfl
        have hbE := (hb.alloc hbs (.cells #[.string ⟨nm.toArray⟩, .string ⟨vl.toArray⟩] 44)).trans hb1
        clear h1 hb1 hkp hbp hbp1 hbu
        rcases hbg with hbg | hbg
        · have hbg' : (16384 : Int) < (nm.length : Int) := by omega
          clear hbg
          go_wp2
          go_ret2
          exact ⟨by rw [HR.out]; rfl, hbE⟩
        · have hbg' : (16384 : Int) < (vl.length : Int) := by omega
          clear hbg
          by_cases hn : nm.length > 16384
          · have hn' : (16384 : Int) < (nm.length : Int) := by omega
            go_wp2
            go_ret2
            exact ⟨by rw [HR.out]; rfl, hbE⟩
          · have hn' : (nm.length : Int) ≤ 16384 := by omega
            go_wp2
            go_ret2
            exact ⟨by rw [HR.out]; rfl, hbE⟩
    case neg =>
    have hn1 : decide ((16384 : Int) < (nm.length : Int)) = false := by simp; omega
    have hn2 : decide ((16384 : Int) < (vl.length : Int)) = false := by simp; omega
    by_cases hk0 : k = 0
    · have hk1 : decide (0 < k) = false := by simp; omega
      have ht0 : l.take k = [] := by rw [hk0]; simp
      have HT := Lib.hid ht0
      clear hk0 ht0
      have hbp := Blk.new wr 44 [.string ⟨nm.toArray⟩, .string ⟨vl.toArray⟩]
      have hbu2 := Lib.IsBuilderF.alloc hbu (.cells #[.string ⟨nm.toArray⟩, .string ⟨vl.toArray⟩] 44)
      go_wp2_with fail
      have y1 := str_add (Fs.quote nm) [61] (Fs.quote nm ++ [61]) (by have := Fs.quote_len nm; simp; omega) rfl
      have y2 := str_add (Fs.quote nm ++ [61]) (Fs.quote vl) (Fs.e1 (nm, vl)) (by have := Fs.quote_len nm; have := Fs.quote_len vl; simp; omega) (by simp [Fs.e1])
      have z3 : (Lib.byteCells (Fs.prJ (l.take k))).length + (⟨(Fs.e1 (nm, vl)).toArray⟩ : ByteArray).size ≤ 140737488355328 := by rw [bc_length, mk_size]; omega
      have z1 : 3 * (⟨nm.toArray⟩ : ByteArray).size ≤ 140737488355328 := by rw [mk_size]; omega
      have z2 : 3 * (⟨vl.toArray⟩ : ByteArray).size ≤ 140737488355328 := by rw [mk_size]; omega
      have c0 := hbp.cell 0 rfl
      have c1 := hbp.cell 1 rfl
      have hbB := hb.alloc hbs (.cells #[.string ⟨nm.toArray⟩, .string ⟨vl.toArray⟩] 44)
      have hbpd := hbp.drew
      have hbud := builder_drew hbu2
      have hbBd := hbB.drew
      clear hbp hbu2 hbB hb hbu
      go_region_with (first
        | (go_at_call 13; refine (quote_any _ _ (by first | exact z1 | exact z2)).mono ?_; rintro e w2 ⟨rfl, hb2⟩; have hbp2 : Blk w2 wr.heap.size 44 [.string ⟨nm.toArray⟩, .string ⟨vl.toArray⟩] := Blk.below (by assumption) hb2 (Blk.lt (by assumption)); have hbu3 : Lib.IsBuilderF 48 5 w.heap.size w.heap.size (Lib.byteCells (Fs.prJ (l.take k))) w2 := builder_below (by assumption) hb2; have hbB2 : Below w.heap.size w w2 := below_step (by assumption) hb2; have d0 := hbp2.cell 0 rfl; have d1 := hbp2.cell 1 rfl)
        | (go_at_call 26; refine (sb_str _ _ _ _ _ (by assumption) z3 (Below.size (by assumption))).mono ?_; rintro e w4 ⟨rfl, h1, hb1, -⟩))
      all_goals
        go_wp2
        go_roundw
        case rel => exact ⟨k + 1, by omega, by go_num, .inr (by rw [HS.out, if_pos HT.out]; rw [HT.out] at h1; exact h1), by rw [HS.out, if_pos HT.out]; omega, hbB2.trans hb1⟩
        case measure => simp [intOf]; omega
    · have hk1 : 0 < k := by omega
      have ht0 : l.take k ≠ [] := by intro e; have h := congrArg List.length e; rw [List.length_take, List.length_nil] at h; omega
      have HT := Lib.hid ht0
      clear hk0 ht0
      have hbp := Blk.new wr 44 [.string ⟨nm.toArray⟩, .string ⟨vl.toArray⟩]
      go_wp2_with fail
      refine (sb_byte _ _ _ _ _ (Lib.IsBuilderF.alloc hbu _) (by rw [bc_length]; omega) (by rw [World.size_alloc]; omega)).mono ?_
      rintro e w1 ⟨rfl, h1, hb1, hkp⟩
      have hbp1 : Blk w1 wr.heap.size 44 [.string ⟨nm.toArray⟩, .string ⟨vl.toArray⟩] := hkp _ _ hbp (fun e => by have := Option.some.inj e; omega) (by intro c fz e; cases e)
      have hbE := (hb.alloc hbs (.cells #[.string ⟨nm.toArray⟩, .string ⟨vl.toArray⟩] 44)).trans hb1
      have h2 : Lib.IsBuilderF 48 5 w.heap.size w.heap.size (Lib.byteCells (Fs.prJ (l.take k) ++ [38])) w1 := .inr (by rw [bc_append]; exact h1)
      have e0 := hbp1.cell 0 rfl
      have e1 := hbp1.cell 1 rfl
      clear h1 hb1 hkp hbp hbu hb
      go_wp2_with fail
      have y1 := str_add (Fs.quote nm) [61] (Fs.quote nm ++ [61]) (by have := Fs.quote_len nm; simp; omega) rfl
      have y2 := str_add (Fs.quote nm ++ [61]) (Fs.quote vl) (Fs.e1 (nm, vl)) (by have := Fs.quote_len nm; have := Fs.quote_len vl; simp; omega) (by simp [Fs.e1])
      have z3 : (Lib.byteCells (Fs.prJ (l.take k) ++ [38])).length + (⟨(Fs.e1 (nm, vl)).toArray⟩ : ByteArray).size ≤ 140737488355328 := by rw [bc_length, mk_size, List.length_append]; simp only [List.length_singleton]; omega
      have z1 : 3 * (⟨nm.toArray⟩ : ByteArray).size ≤ 140737488355328 := by rw [mk_size]; omega
      have z2 : 3 * (⟨vl.toArray⟩ : ByteArray).size ≤ 140737488355328 := by rw [mk_size]; omega
      have hbpd := hbp1.drew
      have hbud := builder_drew h2
      have hbBd := hbE.drew
      clear hbp1 h2 hbE
      go_region_with (first
        | (go_at_call 13; refine (quote_any _ _ (by first | exact z1 | exact z2)).mono ?_; rintro e w2 ⟨rfl, hb2⟩; have hbp2 : Blk w2 wr.heap.size 44 [.string ⟨nm.toArray⟩, .string ⟨vl.toArray⟩] := Blk.below (by assumption) hb2 (Blk.lt (by assumption)); have hbu3 : Lib.IsBuilderF 48 5 w.heap.size w.heap.size (Lib.byteCells (Fs.prJ (l.take k) ++ [38])) w2 := builder_below (by assumption) hb2; have hbB2 : Below w.heap.size w w2 := below_step (by assumption) hb2; have d0 := hbp2.cell 0 rfl; have d1 := hbp2.cell 1 rfl)
        | (go_at_call 26; refine (sb_str _ _ _ _ _ (by assumption) z3 (Below.size (by assumption))).mono ?_; rintro e w4 ⟨rfl, h1, hb1, -⟩))
      all_goals
        go_wp2
        go_roundw
        case rel => exact ⟨k + 1, by omega, by go_num, .inr (by rw [HS.out, if_neg HT.out, show Fs.prJ (l.take k) ++ 38 :: Fs.e1 (nm, vl) = (Fs.prJ (l.take k) ++ [38]) ++ Fs.e1 (nm, vl) from by simp, bc_append]; exact h1), by rw [HS.out, if_neg HT.out]; simp only [List.length_append, List.length_cons]; omega, hbB2.trans hb1⟩
        case measure => simp [intOf]; omega
end Go.Proofs.Ytemlggemomiaeaa
