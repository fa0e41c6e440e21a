/-
  Chapter 1's helpers of the statements: Room, Kept.
-/
import Derived.Test.YtclaahailnpdoaaBr
import Derived.Deep.OwnRows
import Derived.Laws.CopyOwn
import Derived.RegionTactic
import Derived.BigRegion
namespace Go.Proofs.Ytclaahailnpdoaa.Pt
open Go.RowKit Go.Maps
set_option linter.unusedVariables false
set_option linter.unusedSimpArgs false

theorem made_list (z : Value) (n : Nat) : madeCells #[z] n = (List.replicate n z).toArray := by
  apply Array.ext
  · simp [size_madeCells]
  · intro i h1 h2
    simp [madeCells, Nat.mod_one]
theorem u8_info : (Try.prog.info? 5).map (fun i => (i.zero, i.size, i.bytes)) = some (some (.int .u8 0), 1, 1) := by kernel_rfl
theorem make_bytes (n : Nat) (h : n ≤ 140737488355328) (w : World) :
    (Instr.makeSlice 33 (.int .i64 (n : Int)) (.int .i64 (n : Int))).run Try.prog w = .ok (.slice (some ⟨w.heap.size, 0, none⟩) n n) (w.alloc (.cells (List.replicate n (.int .u8 0)).toArray 5)) := by
  have := run_make_row' (P := Try.prog) 33 5 (.int .u8 0) 1 Try.underlying33 u8_info rfl .i64 .i64 n (by omega) (by omega) w
  rw [made_list] at this
  exact this
def splice (cur : List Value) (off : Nat) (cs : List Value) : List Value := cur.take off ++ (cs ++ cur.drop (off + cs.length))
/-- the copy, and all that it leaves alone -/
theorem wpList_copy_grow {P : Program} {w : World} {ops : Array Oper} {rest : List Oper} {o : Oper} {a : Act} {Q : Exit → Act → World → Prop} (hgd : o.guard = none) (d s : Operand) (dT sT : TypeId)
    (ho : o.op = .call { callee := .builtin .copy, args := #[d, s], argTypes := #[dT, sT] }) (elem : TypeId) (hu : P.underlying dT = some (.slice elem)) (hsz : (P.info? elem).map (·.size) = some 1)
    (g off dLen dCap : Nat) (ad : Addr) (sLen sCap : Nat) (hd : a.eval d = .slice (some ⟨g, off, none⟩) dLen dCap) (hs : a.eval s = .slice (some ad) sLen sCap)
    (cur : List Value) (t : TypeId) (hg : Blk w g t cur) (cs : List Value) (hn : cs.length = Nat.min sLen dLen)
    (hsrc : ∀ j v, cs[j]? = some v → w.cell? (ad.add j) = some v) (hfit : off + cs.length ≤ cur.length) (h1 : ∀ v ∈ cs, v.oneCell' = true)
    (h : ∀ w', Blk w' g t (splice cur off cs) → w.grownBy w' (some g) → wpList P ops Q rest (a.put o.dst (goInt cs.length)) w') : wpList P ops Q (o :: rest) a w := by
  refine wpList_copy_own hgd d s dT sT ho elem hu hsz g off dLen dCap ad sLen sCap hd hs cur.toArray t hg cs hn hsrc (by simpa using hfit) h1 ?_
  refine h _ ?_ ?_
  · show _ = _
    have := setRow_heap w g _ (splice cur off cs).toArray t _ hg
    simpa [splice] using this
  · exact ⟨rfl, rfl, rfl, by simp [World.setRow], fun k hk hne => setRow_other w g k _ (fun e => hne (by rw [e]))⟩
/-- the copy, whatever its length -/
theorem wpList_copy_any {P : Program} {w : World} {ops : Array Oper} {rest : List Oper} {o : Oper} {a : Act} {Q : Exit → Act → World → Prop} (hgd : o.guard = none) (d s : Operand) (dT sT : TypeId)
    (ho : o.op = .call { callee := .builtin .copy, args := #[d, s], argTypes := #[dT, sT] }) (elem : TypeId) (hu : P.underlying dT = some (.slice elem)) (hsz : (P.info? elem).map (·.size) = some 1)
    (g off dLen dCap sLen : Nat) (hd : a.eval d = .slice (some ⟨g, off, none⟩) dLen dCap) (v : Value) (hs : a.eval s = v) (xs : By) (hx : Rd w 1 v sLen (Lib.byteCells xs))
    (cur : List Value) (t : TypeId) (hg : Blk w g t cur) (hfit : off + Nat.min sLen dLen ≤ cur.length)
    (h : ∀ w', Blk w' g t (splice cur off (Lib.byteCells (xs.take dLen))) → w.grownBy w' (some g) → wpList P ops Q rest (a.put o.dst (.int .i64 ((Nat.min sLen dLen : Nat) : Int))) w') : wpList P ops Q (o :: rest) a w := by
  have hxl : xs.length = sLen := by have := hx.1; rw [bc_length] at this; omega
  have hml : Nat.min sLen dLen = min sLen dLen := rfl
  have hcl : (Lib.byteCells (xs.take dLen)).length = Nat.min sLen dLen := by rw [bc_length, List.length_take, hxl, Nat.min_comm]
  rcases hx.2 with ⟨⟨sa, sc, rfl⟩, rfl⟩ | ⟨b', o', c', rfl, hc, hcells⟩
  · refine wpList_copy_nothing hgd d s dT sT ho elem hu hsz _ _ dLen dCap 0 sc hd hs (Nat.zero_min _) ?_
    have hz : xs = [] := List.eq_nil_of_length_eq_zero hxl
    subst hz
    refine h w ?_ (World.grownBy.refl _ _)
    have : splice cur off (Lib.byteCells (([] : By).take dLen)) = cur := by simp [splice, Lib.byteCells]
    rw [this]; exact hg
  · refine wpList_copy_grow hgd d s dT sT ho elem hu hsz g off dLen dCap ⟨b', o', none⟩ sLen c' hd hs cur t hg (Lib.byteCells (xs.take dLen)) hcl (fun j u hj => ?_) (by rw [hcl]; exact hfit) (byte_one _) (fun w' h1 h2 => ?_)
    · rw [Addr.add_lit]
      refine hcells j u ?_
      have hj2 := (List.getElem?_eq_some_iff.1 hj).1
      rw [hcl] at hj2
      have hj3 : j < dLen := Nat.lt_of_lt_of_le hj2 (Nat.min_le_right _ _)
      unfold Lib.byteCells at hj ⊢
      rw [List.getElem?_map, List.getElem?_take_of_lt hj3] at hj
      rw [List.getElem?_map]; exact hj
    · have := h w' h1 h2
      unfold goInt; rw [hcl]; exact this
theorem splice_room (b : By) : splice (List.replicate (b.length + 3) (Value.int .u8 0)) 0 (Lib.byteCells (b.take (b.length + 3))) = Lib.byteCells (b ++ [0, 0, 0]) := by
  rw [List.take_of_length_le (by omega)]
  unfold splice
  rw [bc_append, bc_length, List.take_zero, List.nil_append, Nat.zero_add, List.drop_replicate]
  have : b.length + 3 - b.length = 3 := by omega
  rw [this]
  rfl
set_option maxRecDepth 20000 in
set_option maxHeartbeats 4000000 in
/-- a copy with three bytes 77 of room behind it -/
theorem room_any (v : Value) (b : By) (w : World) (h : Rd w 1 v b.length (Lib.byteCells b)) (hl : b.length ≤ 140737488355000) :
    Calls Try.prog 24 #[v] w fun e w' => e = .returned (.slice (some ⟨w.heap.size, 0, none⟩) b.length (b.length + 3)) ∧ Blk w' w.heap.size 5 (Lib.byteCells (b ++ [77, 77, 77])) ∧ Below w.heap.size w w' := by
  obtain ⟨a0, c0, hv⟩ := h.slice
  subst hv
  have HB := Lib.hid h
  have e1 : IntKind.i64.wrap ((b.length : Int) + 3) = (b.length : Int) + 3 := IntWalk.i64_in _ (by omega)
  have hmk := make_bytes (b.length + 3) (by omega) w
  have hcast : ((b.length + 3 : Nat) : Int) = (b.length : Int) + 3 := by omega
  rw [hcast] at hmk
  have hblk := Blk.new w 5 (List.replicate (b.length + 3) (.int .u8 0))
  have hbm : Below w.heap.size w (w.alloc (.cells (List.replicate (b.length + 3) (.int .u8 0)).toArray 5)) := (Below.refl _ _).alloc (Nat.le_refl _) _
  generalize (w.alloc (.cells (List.replicate (b.length + 3) (.int .u8 0)).toArray 5)) = wm at *
  have hrm := HB.out.below hbm
  have HM := Lib.hid (And.intro hblk (And.intro hbm hrm))
  clear h hcast hblk hbm hrm
  go_enter Try.func24, Try.ntmps24
  go_wp2_with (with_reducible refine wpList_copy_any rfl (.tmp 9) (.tmp 10) 33 33 rfl 5 Try.underlying33 (by kernel_rfl) w.heap.size 0 (b.length + 3) (b.length + 3) b.length rfl (.slice a0 b.length c0) rfl b HM.out.2.2 _ 5 HM.out.1 (by rw [List.length_replicate, Nat.zero_add]; exact Nat.min_le_right _ _) ?_; intro w1 hb1 hg1)
  rw [splice_room] at hb1
  have hbl1 : Below w.heap.size w w1 := HM.out.2.1.grown hg1 HM.out.2.1.size (fun k e => by cases e; exact Nat.le_refl _)
  have HB1 := Lib.hid hbl1
  have hk0 : Blk w1 w.heap.size 5 (Lib.byteCells (b ++ ([77, 77, 77] : By).take 0 ++ ([0, 0, 0] : By).drop 0)) := by simpa using hb1
  clear hb1 hg1 hbl1 HM hmk
  go_wp2_with fail
  go_loopw [4] (fun i wr => ∃ k : Nat, k ≤ 3 ∧ i = .int .i64 ((b.length + k : Nat) : Int) ∧ Blk wr w.heap.size 5 (Lib.byteCells (b ++ ([77, 77, 77] : By).take k ++ ([0, 0, 0] : By).drop k)) ∧ Below w.heap.size w wr) (fun i _ => b.length + 3 - (intOf i).toNat)
  case atStart => exact ⟨0, by omega, by simp, hk0, HB1.out⟩
  case round =>
    clear hk0 HB1
    obtain ⟨k, hk, rfl, hbk, hbl⟩ := hrel
    obtain ⟨M, hM⟩ : ∃ M, M = b.length + k := ⟨_, rfl⟩
    rw [← hM]
    have HB2 := Lib.hid (And.intro hbk hbl)
    by_cases h3 : k < 3
    case neg =>
      have t1 : ¬ (M : Int) < (b.length : Int) + 3 := by omega
      have t2 : ¬ (M < b.length + 3) := by omega
      have hk3 : k = 3 := by omega
      have HX : Hid (Blk wr w.heap.size 5 (Lib.byteCells (b ++ [77, 77, 77])) ∧ Below w.heap.size w wr) := Lib.hid (by subst hk3; exact ⟨by simpa using hbk, hbl⟩)
      have t3 : (b.length : Int) ≤ (b.length : Int) + 3 := by omega
      clear hbk hbl HB2 hM
      go_wp2_with fail
      go_ret
      exact ⟨rfl, HX.out⟩
    case pos =>
      have t1 : (M : Int) < (b.length : Int) + 3 := by omega
      have t2 : M < b.length + 3 := by omega
      have hfz := hbk.frozen (0 + M)
      have hfz2 := hbk.frozen M
      have hcl : ∃ u, wr.cell? ⟨w.heap.size, M, none⟩ = some u := by
        refine ⟨_, hbk.cell M (v := (Lib.byteCells (b ++ ([77, 77, 77] : By).take k ++ ([0, 0, 0] : By).drop k))[M]'?_) ?_⟩
        · rw [bc_length, List.length_append, List.length_append, List.length_take, List.length_drop]; simp; omega
        · rw [List.getElem?_eq_getElem]
      obtain ⟨u, hu⟩ := hcl
      have hset := hbk.set M (.int .u8 77)
      have hbs : Below w.heap.size w (wr.setCell ⟨w.heap.size, M, none⟩ (.int .u8 77)) := hbl.setCell (Nat.le_refl _) _
      have he : (Lib.byteCells (b ++ ([77, 77, 77] : By).take k ++ ([0, 0, 0] : By).drop k)).set M (.int .u8 77) = Lib.byteCells (b ++ ([77, 77, 77] : By).take (k + 1) ++ ([0, 0, 0] : By).drop (k + 1)) := by
        rw [hM, List.append_assoc, List.append_assoc, bc_append, bc_append, List.set_append_right _ _ (by rw [bc_length]; omega), bc_length]
        rw [show b.length + k - b.length = k from by omega]
        match k, h3 with
        | 0, _ => rw [bc_append b]; rfl
        | 1, _ => rw [bc_append b]; rfl
        | 2, _ => rw [bc_append b]; rfl
      rw [he] at hset
      have HR := Lib.hid (And.intro hset hbs)
      have HMM := Lib.hid hM
      clear hset hbs he hbk hbl hM HB2
      go_wp2_with fail
      go_roundw
      case rel => exact ⟨k + 1, by omega, by have := HMM.out; go_num, HR.out⟩
      case measure => simp [intOf]; omega
theorem room_rd {W : World} {g : Nat} {b : By} (h : Blk W g 5 (Lib.byteCells (b ++ [77, 77, 77]))) : Rd W 1 (.slice (some ⟨g, 0, none⟩) b.length (b.length + 3)) b.length (Lib.byteCells b) :=
  ⟨by rw [bc_length, Nat.mul_one], .inr ⟨g, 0, b.length + 3, rfl, by omega, fun j u hj => by
    rw [Nat.zero_add]
    refine h.cell j ?_
    rw [bc_append]
    exact (List.getElem?_append_left (List.getElem?_eq_some_iff.1 hj).1).trans hj⟩⟩
set_option maxRecDepth 20000 in
set_option maxHeartbeats 4000000 in
theorem kept_any (g : Nat) (bv : Value) (b : By) (w : World) (hg : Blk w g 5 (Lib.byteCells (b ++ [77, 77, 77]))) (h : Rd w 1 bv b.length (Lib.byteCells b)) (hl : b.length ≤ 140737488355000) :
    Calls Try.prog 26 #[.slice (some ⟨g, 0, none⟩) b.length (b.length + 3), bv] w fun e w' => e = .returned (.bool true) ∧ Below w.heap.size w w' := by
  obtain ⟨ba, bc, hv⟩ := h.slice
  subst hv
  have HS := same_any b b _ _ w (room_rd hg) h (by omega)
  rw [decide_eq_true (rfl : b = b)] at HS
  have HG := Lib.hid hg
  obtain ⟨n, hn⟩ : ∃ n, n = b.length := ⟨_, rfl⟩
  have HN := Lib.hid hn
  have e1 : IntKind.i64.wrap ((n : Int) + 3) = (n : Int) + 3 := IntWalk.i64_in _ (by omega)
  have e2 : IntKind.i64.wrap ((n : Int) + 1) = (n : Int) + 1 := IntWalk.i64_in _ (by omega)
  have e3 : IntKind.i64.wrap ((n : Int) + 2) = (n : Int) + 2 := IntWalk.i64_in _ (by omega)
  have hnl : n ≤ 140737488355000 := by omega
  have HC : Hid (∀ W, Below w.heap.size w W → W.cell? ⟨g, n, none⟩ = some (.int .u8 77) ∧ W.cell? ⟨g, n + 1, none⟩ = some (.int .u8 77) ∧ W.cell? ⟨g, n + 2, none⟩ = some (.int .u8 77)) := Lib.hid (fun W hW => by
    have h1 := hg.below hW hg.lt
    have e : ∀ j, (Lib.byteCells (b ++ [77, 77, 77]))[b.length + j]? = (Lib.byteCells [77, 77, 77])[j]? := fun j => by
      rw [bc_append, List.getElem?_append_right (by rw [bc_length]; omega), bc_length]
      congr 1; omega
    rw [hn]
    exact ⟨h1.cell b.length (by have := e 0; rw [Nat.add_zero] at this; rw [this]; rfl), h1.cell _ (by rw [e 1]; rfl), h1.cell _ (by rw [e 2]; rfl)⟩)
  rw [← hn] at HS ⊢
  clear h hg hl hn
  go_enter Try.func26, Try.ntmps26
  go_wp2_with fail
  refine HS.mono ?_
  rintro e w1 ⟨rfl, hb1⟩
  obtain ⟨z0, z1, z2⟩ := HC.out w1 hb1
  have HB1 := Lib.hid hb1
  clear HS hb1
  go_wp2_with fail
  go_ret
  exact ⟨rfl, HB1.out⟩
end Go.Proofs.Ytclaahailnpdoaa.Pt
