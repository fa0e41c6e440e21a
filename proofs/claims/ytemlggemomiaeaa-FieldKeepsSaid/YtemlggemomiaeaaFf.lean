/-
  Chapter 4: the program's Parse. No condition but the string's own size.
-/
import Derived.Test.YtemlggemomiaeaaFe
namespace Go.Proofs.Ytemlggemomiaeaa
open Go.RowKit Go.Shelf
attribute [local go_sem] Oper.semAt_some

set_option maxHeartbeats 1000000 in
theorem pieces_mk (s : ByteArray) (w : World) :
    Calls Try.prog 33 #[.string s] w fun e w' => e = .returned (.func (.func 39) #[] #[.pointer (some ⟨w.heap.size, 0, none⟩)]) ∧ w' = w.alloc (.cells #[.string s] 9) := by
  go_enter Try.func33, Try.ntmps33
  go_wp2
  go_ret
  exact ⟨rfl, rfl⟩

theorem pr_info : (Try.prog.info? 44).map (fun i => (i.zero, i.size, i.bytes)) = some (some (.agg #[.string ⟨#[]⟩, .string ⟨#[]⟩]), 2, 32) := by kernel_rfl

/-- a pair's cells -/
def prCell (p : List UInt8 × List UInt8) : List Value := [.string ⟨p.1.toArray⟩, .string ⟨p.2.toArray⟩]
def prCells (l : List (List UInt8 × List UInt8)) : List Value := l.flatMap prCell
theorem prCells_snoc (l : List (List UInt8 × List UInt8)) (p : List UInt8 × List UInt8) : prCells (l ++ [p]) = prCells l ++ prCell p := by simp [prCells]
theorem prCells_length (l : List (List UInt8 × List UInt8)) : (prCells l).length = l.length * 2 := by
  induction l with
  | nil => rfl
  | cons p l ih => simp only [prCells, List.flatMap_cons, List.length_append, List.length_cons] at *; rw [ih]; simp [prCell]; omega
theorem pr_one (p : List UInt8 × List UInt8) : ∀ u ∈ prCell p, u.oneCell' = true := by
  intro u hu; simp [prCell] at hu; rcases hu with rfl | rfl <;> rfl

/-- Parse, on its way: these pieces are behind it, these pairs are in l -/
structure PsI (w : World) (pre : List (List UInt8)) (v : Value) (acc : List (List UInt8 × List UInt8)) (W : World) : Prop where
  pg : Fs.Pg pre acc
  len : acc.length ≤ 64
  r1 : Blk W w.heap.size 30 [.slice none 0 0]
  r2 : Blk W (w.heap.size + 1) 25 [.int .i64 0]
  box : Blk W (w.heap.size + 1 + 1) 30 [v]
  own : W.ownsRow (w.heap.size + 1 + 1 + 1 + 1) 44 2 v acc.length (prCells acc)
  size : w.heap.size + 1 + 1 + 1 + 1 ≤ W.heap.size
  below : Below w.heap.size w W

/-- Parse has given up: this is its answer -/
structure PsX (w : World) (pre : List (List UInt8)) (W : World) : Prop where
  ex : ∃ e : Int, (∀ rest, Fs.parseGo (pre ++ rest) [] = ([], e)) ∧ Blk W (w.heap.size + 1) 25 [.int .i64 e]
  r1 : Blk W w.heap.size 30 [.slice none 0 0]
  below : Below w.heap.size w W

theorem raw_snoc (l : List Pc) (x : Pc) : raw (l ++ [x]) = raw l ++ [x.1] := by simp [raw]
theorem uq_of (l : List UInt8) : UqRet ⟨l.toArray⟩ = match Fs.unq l with | some r => .tuple #[.string ⟨r.toArray⟩, .int .i64 0] | none => .tuple #[.string ⟨#[]⟩, .int .i64 3] := rfl
theorem own_cells {w : World} {B : Nat} {e : TypeId} {size : Nat} {v : Value} {n : Nat} {xs : List Value} (h : w.ownsRow B e size v n xs) : ∀ r, v.ownBlock = some r → ∃ o : Obj, w.heap[r]? = some o ∧ o.isCells = true := by
  intro r hr
  rcases h.2 with ⟨rfl, _⟩ | ⟨g, cap, cur, rfl, _, hg, _⟩
  · simp [Value.ownBlock] at hr
  · simp [Value.ownBlock] at hr; subst hr; exact ⟨_, hg, rfl⟩
theorem PsI.keep {w A B : World} {pre : List (List UInt8)} {v : Value} {acc : List (List UInt8 × List UInt8)} {row : Option Nat} (h : PsI w pre v acc A) (hg : A.grownBy B row)
    (hr : ∀ r, row = some r → r = w.heap.size + 1 + 1 + 1 ∨ (w.heap.size + 1 + 1 + 1 + 1 ≤ r ∧ ∃ o : Obj, A.heap[r]? = some o ∧ o.isCells = false)) : PsI w pre v acc B := by
  have hne : ∀ b, b ≤ w.heap.size + 1 + 1 → ∀ r, row = some r → b ≠ r := by
    intro b hb r e; rcases hr r e with h1 | ⟨h1, _⟩ <;> omega
  refine ⟨h.pg, h.len, h.r1.grown hg (hne _ (by omega)), h.r2.grown hg (hne _ (by omega)), h.box.grown hg (hne _ (by omega)), h.own.kept hg ?_, Nat.le_trans h.size hg.size, h.below.grown hg h.below.size (fun r e => ?_)⟩
  · cases ho : v.ownBlock with
    | none => exact .inl rfl
    | some g =>
      refine .inr fun e => ?_
      have h1 := (h.own.lt g ho).1
      rcases hr g e.symm with h2 | ⟨_, o, ho2, hc⟩
      · omega
      · obtain ⟨o', ho', hc'⟩ := own_cells h.own g ho
        rw [ho2] at ho'; cases ho'; rw [hc] at hc'; cases hc'
  · rcases hr r e with h1 | ⟨h1, _⟩ <;> omega
theorem PsX.keep {w A B : World} {pre : List (List UInt8)} {row : Option Nat} (h : PsX w pre A) (hg : A.grownBy B row) (hr : ∀ r, row = some r → w.heap.size + 1 + 1 ≤ r) : PsX w pre B := by
  obtain ⟨⟨e, h1, h2⟩, h3, h4⟩ := h
  exact ⟨⟨e, h1, h2.grown hg (fun r er => by have := hr r er; omega)⟩, h3.grown hg (fun r er => by have := hr r er; omega), h4.grown hg h4.size (fun r er => by have := hr r er; omega)⟩
theorem PsI.low {w A B : World} {pre : List (List UInt8)} {v : Value} {acc : List (List UInt8 × List UInt8)} (h : PsI w pre v acc A) (hb : Below A.heap.size A B) : PsI w pre v acc B := by
  have hs := h.size
  refine ⟨h.pg, h.len, h.r1.below hb h.r1.lt, h.r2.below hb h.r2.lt, h.box.below hb h.box.lt, ?_, Nat.le_trans h.size hb.size, h.below.trans (hb.mono h.below.size)⟩
  refine ⟨h.own.1, ?_⟩
  rcases h.own.2 with h2 | ⟨g, cap, cur, hv, hg, hh, r⟩
  · exact .inl h2
  · exact .inr ⟨g, cap, cur, hv, hg, (hb.block g (Array.getElem?_eq_some_iff.1 hh).1).trans hh, r⟩
theorem keeps_low {A B : World} (hb : Below A.heap.size A B) : KeepsOthers A B := ⟨hb.size, fun k _ hk _ => (hb.block k (Array.getElem?_eq_some_iff.1 hk).1).trans hk⟩

/-- what Parse answers, and where it lies -/
def PsRet (s : ByteArray) (w : World) (e : Ending) (W : World) : Prop := ∃ v, e = .returned (.tuple #[v, .int .i64 (Fs.parse s.data.toList).2]) ∧ W.ownsRow w.heap.size 44 2 v (Fs.parse s.data.toList).1.length (prCells (Fs.parse s.data.toList).1) ∧ Below w.heap.size w W

set_option maxRecDepth 20000 in
set_option maxHeartbeats 2000000 in
theorem parse_in (s : ByteArray) (w : World) (hs : s.size ≤ 16384) :
    CallsIn Fence.wide 3 Try.prog 17 #[.string s] w (PsRet s w) := by
  obtain ⟨i0, hi, hz0, hz1, hz2⟩ := info_parts pr_info
  have hle : decide (16384 < (s.size : Int)) = false := by simp; omega
  refine callsIn_of_wp_marks Try.func17 rfl trivial ?_ rfl
  simp only [Try.ntmps17, List.size_toArray, List.length_cons, List.length_nil, Nat.reduceAdd, Nat.reduceSub, Array.replicate_succ, Array.replicate_zero, List.push_toArray, List.append_toArray, List.nil_append, List.cons_append]
  gi_wp2_with fail
  refine ⟨trivial, ?_⟩
  refine (callsIn_wide.2 (pieces_mk _ _)).mono ?_
  rintro e w' ⟨rfl, rfl⟩
  gi_wp2_with fail
  have b0 := Blk.new w 30 [.slice none 0 0]
  have b1 := Blk.new (w.alloc (.cells #[.slice none 0 0] 30)) 25 [.int .i64 0]
  have b2 := Blk.new ((w.alloc (.cells #[.slice none 0 0] 30)).alloc (.cells #[.int .i64 0] 25)) 30 [.slice none 0 0]
  have b3 := Blk.new (((w.alloc (.cells #[.slice none 0 0] 30)).alloc (.cells #[.int .i64 0] 25)).alloc (.cells #[.slice none 0 0] 30)) 9 [.string s]
  rw [World.size_alloc] at b1
  rw [World.size_alloc, World.size_alloc] at b2
  rw [World.size_alloc, World.size_alloc, World.size_alloc] at b3
  have hB0 := (((((Below.refl w.heap.size w).alloc (Nat.le_refl _) (.cells #[.slice none 0 0] 30)).alloc (by simp) (.cells #[.int .i64 0] 25)).alloc (by simp; omega) (.cells #[.slice none 0 0] 30)).alloc (by simp; omega) (.cells #[.string s] 9))
  have hI0 : PsI w [] (.slice none 0 0) [] ((((w.alloc (.cells #[.slice none 0 0] 30)).alloc (.cells #[.int .i64 0] 25)).alloc (.cells #[.slice none 0 0] 30)).alloc (.cells #[.string s] 9)) :=
    ⟨Fs.Pg.nil, by simp, ((b0.alloc _).alloc _).alloc _, (b1.alloc _).alloc _, b2.alloc _, World.ownsRow_nil _ _ _ _, by simp, hB0⟩
  have hsz : ((((w.alloc (.cells #[.slice none 0 0] 30)).alloc (.cells #[.int .i64 0] 25)).alloc (.cells #[.slice none 0 0] 30)).alloc (.cells #[.string s] 9)).heap.size = w.heap.size + 1 + 1 + 1 + 1 := by simp
  clear b0 b1 b2 hB0
  generalize ((((w.alloc (.cells #[.slice none 0 0] 30)).alloc (.cells #[.int .i64 0] 25)).alloc (.cells #[.slice none 0 0] 30)).alloc (.cells #[.string s] 9)) = w0 at b3 hI0 hsz ⊢
  refine wpIn_rangeFunc_cell rfl (by omega) (gf := 39) (lb := #[.pointer (some ⟨w.heap.size + 1 + 1 + 1, 0, none⟩)]) rfl trivial (enters_of Try.func39 (by kernel_rfl) rfl)
    (b := w.heap.size + 1 + 1 + 1) (by omega) (pieces_in (3 - 1) (by omega) _ s (by omega) w0 b3) (fun _ => rfl)
    (fun (pre : List Pc) W => ∃ v acc, PsI w (raw pre) v acc W) (fun c pre W => c = .ret ∧ PsX w (raw pre) W)
    (fun pre A B row h hg hr => by obtain ⟨v, acc, h⟩ := h; exact ⟨v, acc, h.keep hg (fun r er => .inr ⟨by have := (hr r er).1; omega, (hr r er).2⟩)⟩)
    (fun _ pre A B row h hg hr => ⟨h.1, h.2.keep hg (fun r er => by have := (hr r er).1; omega)⟩)
    (fun pre A B h hg => by obtain ⟨v, acc, h⟩ := h; exact ⟨v, acc, h.keep hg (fun r er => .inl (Option.some.inj er).symm)⟩)
    ⟨_, _, hI0⟩
    (fun x => { tmps := #[.string s, undef, .pointer (some ⟨w.heap.size, 0, none⟩), .pointer (some ⟨w.heap.size + 1, 0, none⟩), .pointer (some ⟨w.heap.size + 1 + 1, 0, none⟩), .string ⟨x.1.toArray⟩, undef, undef, undef, undef, undef, undef, undef, .string s, .int .i64 s.size, .bool false, .string s, .func (.func 39) #[] #[.pointer (some ⟨w.heap.size + 1 + 1 + 1, 0, none⟩)], .string ⟨x.1.toArray⟩, undef, undef, undef, undef, undef, undef, undef, undef, undef, undef, undef, undef, undef, undef, undef, undef, undef, undef, undef, undef, undef, undef, undef, undef, undef, undef, undef, undef, undef, undef, undef, undef], defers := [] }) ?assign ?body ?done ?stop
  case assign =>
    intro l x W K hK
    gi_wp2
    exact hK
  case body =>
    rintro l pre x W ⟨v, acc, hI⟩ hlt
    obtain ⟨a0, cap, rfl⟩ := (Rd.of_own hI.own).slice
    have hc := hI.box.cell 0 rfl
    have hf1 := hI.r1.frozen 0
    have hf2 := hI.r2.frozen 0
    have hc1 := hI.r1.cell 0 rfl
    have hc2 := hI.r2.cell 0 rfl
    by_cases h64 : acc.length = 64
    · have h64' : ((acc.length : Int) == 64) = true := by simp [h64]
      have HX := Lib.hid h64
      clear h64
      gi_wp2
      refine ⟨(KeepsOthers.setCell _ _ _).trans (KeepsOthers.setCell _ _ _), rfl, ⟨2, by rw [raw_snoc]; exact hI.pg.full HX.out, (hI.r2.setOther _ _ (by simp)).set 0 _⟩, (hI.r1.set 0 _).setOther _ _ (by simp), (hI.below.setCell (p := ⟨w.heap.size, 0, none⟩) (Nat.le_refl _) _).setCell (p := ⟨w.heap.size + 1, 0, none⟩) (by simp) _⟩
    · have h64' : ((acc.length : Int) == 64) = false := by simp; omega
      obtain ⟨x, hx⟩ := x
      have hxs : (⟨x.toArray⟩ : ByteArray).size ≤ 140737488355328 := by rw [mk_size]; omega
      dsimp only
      gi_wp2_with fail
      refine ⟨trivial, ?_⟩
      refine (CallsIn.inRound l (callsIn_wide.2 (cut_one _ _ hxs _))).mono ?_
      unfold cutV
      rintro e w1 ⟨rfl, nd, hw1⟩
      have hb1 : Below W.heap.size W w1 := by rw [hw1]; exact below_drewN (Below.refl _ _) nd
      clear hw1
      have hI1 := hI.low hb1
      have e0 : (⟨x.toArray⟩ : ByteArray).data.toList = x := rfl
      rw [e0]
      clear e0
      have h1s : (⟨(Cut.before x 61).toArray⟩ : ByteArray).size ≤ 140737488355328 := by rw [mk_size]; have := Cut.before_le x 61; omega
      have h2s : (⟨(Cut.after x 61).toArray⟩ : ByteArray).size ≤ 140737488355328 := by rw [mk_size]; unfold Cut.after; rw [List.length_drop]; omega
      gi_wp2_with fail
      refine ⟨trivial, ?_⟩
      refine (CallsIn.inRound l (callsIn_wide.2 (unquote_any _ _ h1s))).mono ?_
      rintro e w2 ⟨rfl, hb2⟩
      have hI2 := hI1.low hb2
      have hu1 := uq_of (Cut.before x 61)
      have hu2 := uq_of (Cut.after x 61)
      generalize UqRet ⟨(Cut.before x 61).toArray⟩ = U1 at hu1 ⊢
      have HU1 := Lib.hid hu1
      clear hu1
      have hex : ∃ a b, U1 = .tuple #[.string a, .int .i64 b] := by rw [HU1.out]; cases Fs.unq (Cut.before x 61) <;> exact ⟨_, _, rfl⟩
      obtain ⟨n1, e1, hU⟩ := hex
      subst hU
      gi_wp2_with fail
      refine ⟨trivial, ?_⟩
      refine (CallsIn.inRound l (callsIn_wide.2 (unquote_any _ _ h2s))).mono ?_
      rintro e w3 ⟨rfl, hb3⟩
      have hI3 := hI2.low hb3
      have hb : Below W.heap.size W w3 := hb1.trans ((hb2.mono hb1.size).trans (hb3.mono (Nat.le_trans hb1.size hb2.size)))
      generalize UqRet ⟨(Cut.after x 61).toArray⟩ = U2 at hu2 ⊢
      have hu1 := HU1.out
      clear HU1 hb1 hb2 hb3 hI1 hI2 h1s h2s hc hf1 hf2 hc1 hc2
      cases hq1 : Fs.unq (Cut.before x 61) with
      | none =>
        rw [hq1] at hu1
        simp only [Value.tuple.injEq, Array.mk.injEq, List.cons.injEq, Value.string.injEq, Value.int.injEq, true_and, and_true] at hu1
        obtain ⟨rfl, rfl⟩ := hu1
        have hex : ∃ a b, U2 = .tuple #[.string a, .int .i64 b] := by rw [hu2]; cases Fs.unq (Cut.after x 61) <;> exact ⟨_, _, rfl⟩
        obtain ⟨n2, e2, hU⟩ := hex
        subst hU
        clear hu2
        have hpo : Fs.pairOf x = none := by unfold Fs.pairOf; show (match Fs.unq (Cut.before x 61), Fs.unq (Cut.after x 61) with | some n, some v => some (n, v) | _, _ => none) = _; rw [hq1]
        have hk := hI.pg.bad h64 hpo
        have hg1 := hI3.r1.frozen 0
        have hg2 := hI3.r2.frozen 0
        have hg3 := hI3.r1.cell 0 rfl
        have hg4 := hI3.r2.cell 0 rfl
        clear hq1
        gi_wp2
        refine ⟨(keeps_low hb).trans ((KeepsOthers.setCell _ _ _).trans (KeepsOthers.setCell _ _ _)), rfl, ⟨3, by rw [raw_snoc]; exact hk, (hI3.r2.setOther _ _ (by simp)).set 0 _⟩, (hI3.r1.set 0 _).setOther _ _ (by simp), (hI3.below.setCell (p := ⟨w.heap.size, 0, none⟩) (Nat.le_refl _) _).setCell (p := ⟨w.heap.size + 1, 0, none⟩) (by simp) _⟩
      | some n =>
        rw [hq1] at hu1
        simp only [Value.tuple.injEq, Array.mk.injEq, List.cons.injEq, Value.string.injEq, Value.int.injEq, true_and, and_true] at hu1
        obtain ⟨rfl, rfl⟩ := hu1
        cases hq2 : Fs.unq (Cut.after x 61) with
        | none =>
          rw [hq2] at hu2
          subst hu2
          have hpo : Fs.pairOf x = none := by unfold Fs.pairOf; show (match Fs.unq (Cut.before x 61), Fs.unq (Cut.after x 61) with | some n, some v => some (n, v) | _, _ => none) = _; rw [hq1, hq2]
          have hk := hI.pg.bad h64 hpo
          have hg1 := hI3.r1.frozen 0
          have hg2 := hI3.r2.frozen 0
          have hg3 := hI3.r1.cell 0 rfl
          have hg4 := hI3.r2.cell 0 rfl
          clear hq1 hq2
          gi_wp2
          refine ⟨(keeps_low hb).trans ((KeepsOthers.setCell _ _ _).trans (KeepsOthers.setCell _ _ _)), rfl, ⟨3, by rw [raw_snoc]; exact hk, (hI3.r2.setOther _ _ (by simp)).set 0 _⟩, (hI3.r1.set 0 _).setOther _ _ (by simp), (hI3.below.setCell (p := ⟨w.heap.size, 0, none⟩) (Nat.le_refl _) _).setCell (p := ⟨w.heap.size + 1, 0, none⟩) (by simp) _⟩
        | some v =>
          rw [hq2] at hu2
          subst hu2
          have hpo : Fs.pairOf x = some (n, v) := by unfold Fs.pairOf; show (match Fs.unq (Cut.before x 61), Fs.unq (Cut.after x 61) with | some n, some v => some (n, v) | _, _ => none) = _; rw [hq1, hq2]
          clear hq1 hq2
          have hg0 := hI3.box.cell 0 rfl
          have hg1 := hI3.box.frozen 0
          have hown := hI3.own
          gi_wp2_with (gi_at_builtin; go_loud (refine wpListIn_append_own _ rfl (.tmp 44) (.tmp 48) 30 rfl (w.heap.size + 1 + 1 + 1 + 1) 44 i0 (.agg #[.string ⟨#[]⟩, .string ⟨#[]⟩]) 2 32 Try.underlying30 hi hz0 hz1 hz2 rfl (by decide) _ _ _ rfl (hown.alloc _) ⟨w3.heap.size, 0, none⟩ 1 1 (prCell (n, v)) rfl rfl (cells_new _ _ _) (pr_one _) ?c3 ?c4 ?c5 ?_))
          case c3 => unfold maxLen; have := hI3.len; omega
          case c4 => have := hI3.len; omega
          case c5 => have := hI3.size; simp; omega
          intro v' w4 hown' hgrow _
          have hne : ∀ r, (Value.slice a0 acc.length cap).ownBlock = some r → w.heap.size + 1 + 1 + 1 + 1 ≤ r := fun r hr => (hown.lt r hr).1
          have hbox := (hI3.box.alloc (.cells #[.string ⟨n.toArray⟩, .string ⟨v.toArray⟩] 44)).grown hgrow (fun r hr => by have := hne r hr; omega)
          have hk1 : KeepsOthers w3 w4 := (KeepsOthers.alloc _ _).trans (KeepsOthers.of_grownBy hgrow (fun j o hj ho => by obtain ⟨o', h1, h2⟩ := own_cells (hown.alloc _) j hj; rw [h1] at ho; cases ho; exact h2))
          have hb4 : w4.heap[w.heap.size + 1 + 1 + 1]? = W.heap[w.heap.size + 1 + 1 + 1]? := by
            rw [hgrow.block _ (by have := hI3.size; simp; omega) (fun e => by have := hne _ e.symm; omega), Below.heap_alloc _ _ _ (by have := hI3.size; omega)]
            exact hb.block _ (by have := hI.size; omega)
          have hI4 : PsI w (raw (pre ++ [⟨x, hx⟩])) v' (acc ++ [(n, v)]) (w4.setCell ⟨w.heap.size + 1 + 1, 0, none⟩ v') := by
            refine ⟨by rw [raw_snoc]; exact hI3.pg.snoc h64 hpo, by have := hI3.len; simp; omega, ?_, ?_, hbox.set 0 v', ?_, ?_, ?_⟩
            · exact ((hI3.r1.alloc _).grown hgrow (fun r hr => by have := hne r hr; omega)).setOther _ _ (by simp; omega)
            · exact ((hI3.r2.alloc _).grown hgrow (fun r hr => by have := hne r hr; omega)).setOther _ _ (by simp)
            · exact own_other (own_cast hown' (by simp) (by rw [prCells_snoc])) (by simp) _
            · have := hgrow.size; have := hI3.size; simp at *; omega
            · exact (below_app hI3.below hI3.below.size hgrow (fun r hr => by have := hne r hr; omega)).setCell (p := ⟨w.heap.size + 1 + 1, 0, none⟩) (by simp; omega) _
          have hg0 := hbox.cell 0 rfl
          have hg1 := hbox.frozen 0
          obtain ⟨g', cap', rfl⟩ := ownsRow_succ hown'
          clear hown hgrow hown' hne hbox
          gi_wp2
          exact ⟨(keeps_low hb).trans (hk1.trans (KeepsOthers.setCell _ _ _)), (Below.heap_setCell _ _ _ _ (by simp)).trans hb4, _, _, hI4⟩
  case done =>
    rintro D xs W hD hxs ⟨v, acc, hI⟩ hK
    have hc := hI.box.cell 0 rfl
    have hf1 := hI.r1.frozen 0
    have hf2 := hI.r2.frozen 0
    have hc1 := hI.r1.cell 0 rfl
    have hc2 := hI.r2.cell 0 rfl
    have hg := hI.pg []
    rw [hxs, List.append_nil] at hg
    have hpa : Fs.parse s.data.toList = (acc, 0) := by unfold Fs.parse; rw [if_neg (by rw [Array.length_toList]; show ¬ s.size > 16384; omega), hg, Fs.parseGo]
    have HP := Lib.hid hpa
    clear hpa hg
    obtain ⟨a0, cap, rfl⟩ := (Rd.of_own hI.own).slice
    gi_wp2
    have hkD : ((W.setCell ⟨w.heap.size, 0, none⟩ (.slice a0 acc.length cap)).setCell ⟨w.heap.size + 1, 0, none⟩ (.int .i64 0)).heap[D]? = some (.deferred (some [])) := by
      rw [Below.heap_setCell _ _ _ _ (by simp; omega), Below.heap_setCell _ _ _ _ (by simp; omega)]; exact hK
    have q1 := (hI.r1.set 0 (.slice a0 acc.length cap)).setOther ⟨w.heap.size + 1, 0, none⟩ (.int .i64 0) (by simp)
    have q2 := (hI.r2.setOther ⟨w.heap.size, 0, none⟩ (.slice a0 acc.length cap) (by simp)).set 0 (.int .i64 0)
    have q3 := own_other (own_other hI.own (a := ⟨w.heap.size, 0, none⟩) (by simp; omega) (.slice a0 acc.length cap)) (a := ⟨w.heap.size + 1, 0, none⟩) (by show w.heap.size + 1 < w.heap.size + 1 + 1 + 1 + 1; omega) (.int .i64 0)
    have q4 : Below w.heap.size w _ := (hI.below.setCell (p := ⟨w.heap.size, 0, none⟩) (Nat.le_refl _) (.slice a0 acc.length cap)).setCell (p := ⟨w.heap.size + 1, 0, none⟩) (by simp) (.int .i64 0)
    have q5 := q4.size
    generalize ((W.setCell ⟨w.heap.size, 0, none⟩ (.slice a0 acc.length cap)).setCell ⟨w.heap.size + 1, 0, none⟩ (.int .i64 0)) = Wf at hkD q1 q2 q3 q4 q5 ⊢
    refine ⟨by simp, .inl ⟨_, _, rfl, run_takeDeferred hkD, ?_⟩⟩
    have hgp := grownBy_putObj' Wf D (.deferred none)
    have p1 := (q1.grown hgp (fun r er => by have := Option.some.inj er; omega)).cell 0 rfl
    have p2 := (q2.grown hgp (fun r er => by have := Option.some.inj er; omega)).cell 0 rfl
    refine ⟨.tuple #[.slice a0 acc.length cap, .int .i64 0], by simp [results, Try.results17, go_sem, p1, p2], .slice a0 acc.length cap, by rw [HP.out], ?_, q4.grown hgp q4.size (fun r er => by have := Option.some.inj er; omega)⟩
    rw [HP.out]
    exact own_mono (ownsRow_putObj q3 _ hkD rfl) (by omega)
  case stop =>
    rintro D c pre W hD hp ⟨rfl, hX⟩ hK
    gi_wp2
    refine ⟨by simp, .inl ⟨_, _, rfl, run_takeDeferred hK, ?_⟩⟩
    obtain ⟨⟨e, he, q2⟩, q1, q4⟩ := hX
    have hgp := grownBy_putObj' W D (.deferred none)
    have p1 := (q1.grown hgp (fun r er => by have := Option.some.inj er; omega)).cell 0 rfl
    have p2 := (q2.grown hgp (fun r er => by have := Option.some.inj er; omega)).cell 0 rfl
    obtain ⟨rest, hr⟩ := hp
    have hpa : Fs.parse s.data.toList = ([], e) := by unfold Fs.parse; rw [if_neg (by rw [Array.length_toList]; show ¬ s.size > 16384; omega), ← hr, he]
    refine ⟨.tuple #[.slice none 0 0, .int .i64 e], by simp [results, Try.results17, go_sem, p1, p2], .slice none 0 0, by rw [hpa], ?_, q4.grown hgp q4.size (fun r er => by have := Option.some.inj er; omega)⟩
    rw [hpa]
    exact World.ownsRow_nil _ _ _ _

/-- the error's branch: a text that is too long -/
theorem parse_long (s : ByteArray) (w : World) (hs : ¬ s.size ≤ 16384) (h63 : s.size ≤ 140737488355328) :
    Calls Try.prog 17 #[.string s] w (PsRet s w) := by
  have hle : (16384 : Int) < (s.size : Int) := by omega
  have hpa : Fs.parse s.data.toList = ([], 2) := by unfold Fs.parse; rw [if_pos (by rw [Array.length_toList]; show s.size > 16384; omega)]
  have HP := Lib.hid hpa
  clear hpa
  go_enter Try.func17, Try.ntmps17
  go_wp2
  refine bodyPost_ret (v := .tuple #[.slice none 0 0, .int .i64 2]) (by simp [results, Try.results17, go_sem]) rfl ⟨.slice none 0 0, by rw [HP.out], by rw [HP.out]; exact World.ownsRow_nil _ _ _ _, ((Below.refl _ _).alloc (Nat.le_refl _) _).alloc (by simp) _⟩
theorem parse_any (s : ByteArray) (w : World) (h63 : s.size ≤ 140737488355328) : Calls Try.prog 17 #[.string s] w (PsRet s w) := by
  by_cases hs : s.size ≤ 16384
  · exact callsIn_wide.1 (parse_in s w hs)
  · exact parse_long s w hs h63
end Go.Proofs.Ytemlggemomiaeaa
