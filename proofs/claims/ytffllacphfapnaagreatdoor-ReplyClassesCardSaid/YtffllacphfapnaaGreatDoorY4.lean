/-
  Chapter 20: what a response tells, the program's and the reference's. Conditions: the listed variables lie as the program's text lays them.
-/
import Derived.Test.YtffllacphfapnaaGreatDoorY3
import Derived.Deep.RegionHeld3
namespace Go.Proofs.YtffllacphfapnaaGreatDoor
open Go.RowKit Js Rp

theorem rs_flds : (Tryz.prog.fieldsOf 23).toList.map (fun f => (f.name == "_", f.type, f.offset)) = [(false, 3, 0), (false, 9, 1)] := by kernel_rfl
theorem ne_of_beq {a b : String} (h : (a == b) = false) : a ≠ b := by simpa using h
theorem rs_list : ∃ f0 f1 : Field, (Tryz.prog.fieldsOf 23).toList = [f0, f1] ∧ f0.name ≠ "_" ∧ f1.name ≠ "_" ∧ f0.type = 3 ∧ f1.type = 9 ∧ f0.offset = 0 ∧ f1.offset = 1 := by
  have h := rs_flds
  generalize (Tryz.prog.fieldsOf 23).toList = L at h
  rcases L with _ | ⟨f0, _ | ⟨f1, _ | ⟨f2, L⟩⟩⟩
  all_goals simp only [List.map_cons, List.map_nil, List.cons.injEq, Prod.mk.injEq, reduceCtorEq, and_false, and_true] at h
  obtain ⟨⟨a0, b0, c0⟩, ⟨a1, b1, c1⟩⟩ := h
  exact ⟨f0, f1, rfl, ne_of_beq a0, ne_of_beq a1, b0, b1, c0, c1⟩
theorem part_plain {t : TypeId} (ht : ∀ w : World, (isAgg t).run Tryz.prog w = .ok false w) (cs : Array Value) (k : Nat) (v : Value) (h : cs[k]? = some v) (w : World) : (part t cs k).run Tryz.prog w = .ok v w := by
  unfold part
  simp [ht, h]
theorem agg_str (w : World) : (isAgg 9).run Tryz.prog w = .ok false w := by unfold isAgg; simp [run_underlying Tryz.underlying9]
theorem agg_int (w : World) : (isAgg 3).run Tryz.prog w = .ok false w := by unfold isAgg; simp [run_underlying Tryz.underlying3]
theorem str_beq (a b : By) : ((⟨a.toArray⟩ : ByteArray).toList == (⟨b.toArray⟩ : ByteArray).toList) = (a == b) := by
  rw [ByteArray.toList_eq, ByteArray.toList_eq]
theorem eql_rs (s u : Int) (x y : By) (w : World) : (binOp .eql 23 (.agg #[.int .i64 s, .string ⟨x.toArray⟩]) (.agg #[.int .i64 u, .string ⟨y.toArray⟩])).run Tryz.prog w = .ok (.bool (s == u && x == y)) w := by
  have hst : Tryz.prog.stoodInHeld 23 = false := by kernel_rfl
  have hun : Tryz.prog.underlying 23 = some (.struct (Tryz.prog.fieldsOf 23)) := by kernel_rfl
  obtain ⟨f0, f1, hl, n0, n1, t0, t1, o0, o1⟩ := rs_list
  rw [run_eql_struct, show (10000 : Nat) = 9998 + 1 + 1 from rfl, run_equalIn_agg _ _ _ _ _ hun hst, hl]
  have us := Tryz.underlying9
  have ui := Tryz.underlying3
  have ps : ∀ (cs : Array Value) (k : Nat) (v : Value), cs[k]? = some v → (part 9 cs k).run Tryz.prog w = .ok v w := fun cs k v h => part_plain agg_str cs k v h w
  have pi : ∀ (cs : Array Value) (k : Nat) (v : Value), cs[k]? = some v → (part 3 cs k).run Tryz.prog w = .ok v w := fun cs k v h => part_plain agg_int cs k v h w
  simp only [Op.eqFields, n0, n1, t0, t1, o0, o1, ne_eq, not_false_eq_true, if_true, Sem.run_bind]
  rw [pi _ 0 (.int .i64 s) rfl, Result.andThen_ok, pi _ 0 (.int .i64 u) rfl, Result.andThen_ok, run_equalIn_int _ _ _ _ _ _ _ ui, Result.andThen_ok]
  cases h1 : (s == u)
  · simp
  simp only [Bool.not_true, Bool.false_eq_true, if_false, Sem.run_bind, Bool.true_and]
  rw [ps _ 1 (.string ⟨x.toArray⟩) rfl, Result.andThen_ok, ps _ 1 (.string ⟨y.toArray⟩) rfl, Result.andThen_ok, run_equalIn_string _ _ _ _ _ us, Result.andThen_ok, str_beq]
  cases h4 : (x == y) <;> simp
theorem guard_rs (op : BinOp) (x y : Operand) (xs ys : Array Value) (w : World) : (eqGuard op 23 x y (.agg xs) (.agg ys)).run Tryz.prog w = .ok () w :=
  run_eqGuard_agg w op _ x y xs ys (by kernel_rfl)

/-- what Class does -/
def ClR (s : Int) (b : By) (w : World) (e : Ending) (w' : World) : Prop := e = .returned (.tuple #[.int .i64 (cl s b 1 8).1, .bool (cl s b 1 8).2]) ∧ Below w.heap.size w w'
theorem ClR.is {s : Int} {b : By} {w W : World} {x : Int} {t : Bool} (h : cl s b 1 8 = (x, t)) (hb : Below w.heap.size w W) : ClR s b w (.returned (.tuple #[.int .i64 x, .bool t])) W := ⟨by rw [h], hb⟩
def CI (s : Int) (b : By) (u : Nat) : Prop := cl s b 1 8 = cl s b u (9 - u)
theorem ci_hit {s : Int} {b : By} {u : Nat} (h : CI s b u) (hu : u ≤ 8) (hh : hit s b u = true) : cl s b 1 8 = ((u : Int), true) := by
  unfold CI at h; rw [h, show 9 - u = (8 - u) + 1 from by omega, cl, if_pos hh]
theorem ci_next {s : Int} {b : By} {u : Nat} (h : CI s b u) (hu : u ≤ 8) (hh : hit s b u = false) : CI s b (u + 1) := by
  unfold CI at h ⊢; rw [h, show 9 - u = (8 - u) + 1 from by omega, cl, if_neg (by rw [hh]; decide), show 9 - (u + 1) = 8 - u from by omega]
theorem ci_done {s : Int} {b : By} (h : CI s b 9) : cl s b 1 8 = (0, rest s b) := h
theorem rk_here {W w : World} {g B : Nat} {s : Int} {b : By} (h : Blk W g 23 (rc s b)) (hB : Below B w W) : W.cell? ⟨g, 0, none⟩ = some (.int .i64 s) ∧ W.cell? ⟨g, 1, none⟩ = some (.string ⟨b.toArray⟩) ∧ Blk W g 23 (rc s b) ∧ Below B w W :=
  ⟨h.cell 0 rfl, h.cell 1 rfl, h, hB⟩

set_option maxRecDepth 20000 in
set_option maxHeartbeats 4000000 in
theorem class_any (s : Int) (b : By) (w : World) (hL : Hid (LaidB w.heap.size w)) : Calls Tryz.prog 7 #[rv s b] w (ClR s b w) := by
  have hn := unary_not
  have hz : Blk (w.alloc (.cells #[.int .i64 s, .string ⟨b.toArray⟩] 23)) w.heap.size 23 (rc s b) := Blk.new w _ (rc s b)
  have hb0 : Below w.heap.size w (w.alloc (.cells #[.int .i64 s, .string ⟨b.toArray⟩] 23)) := (Below.refl _ _).alloc (Nat.le_refl _) _
  unfold rv
  go_enter Tryz.func7, Tryz.ntmps7
  go_wp2_with fail
  go_loopw [4] (fun i wr => ∃ u : Nat, 1 ≤ u ∧ u ≤ 9 ∧ i = .int .i64 u ∧ Hid (CI s b u) ∧ Blk wr w.heap.size 23 (rc s b) ∧ Below w.heap.size w wr) (fun i _ => 9 - (intOf i).toNat)
  case atStart => exact ⟨1, by omega, by omega, rfl, Lib.hid rfl, hz, hb0⟩
  case round =>
    clear hz hb0
    obtain ⟨u, h1, h9, rfl, HC, hx, hb⟩ := hrel
    by_cases h8 : u ≤ 8
    case pos =>
      have h8i : (u : Int) ≤ 8 := by omega
      have H1 := Lib.hid h1
      have H8 := Lib.hid h8
      have HQ := Lib.hid (eql_rs s (st u) b (bd u))
      have c0 := hx.cell 0 rfl
      have c1 := hx.cell 1 rfl
      clear h1 h8 h9
      cases hh : hit s b u with
      | true =>
        have HR := Lib.hid (ci_hit HC.out H8.out hh)
        have hq : ∀ W, (binOp .eql 23 (.agg #[.int .i64 s, .string ⟨b.toArray⟩]) (.agg #[.int .i64 (st u), .string ⟨(bd u).toArray⟩])).run Tryz.prog W = .ok (.bool true) W := fun W => by
          have := HQ.out W; unfold hit at hh; rw [hh] at this; exact this
        clear hh HQ
        go_wp2_with fail
        go_region_held3 (fun W => W.cell? ⟨w.heap.size, 0, none⟩ = some (.int .i64 s) ∧ W.cell? ⟨w.heap.size, 1, none⟩ = some (.string ⟨b.toArray⟩) ∧ Blk W w.heap.size 23 (rc s b) ∧ Below w.heap.size w W)
          (first | with_reducible exact rk_here hx.drew hb.drew | with_reducible exact rk_here hx hb | (go_split_ands; with_reducible exact rk_here (by assumption) (by assumption)))
          (first | (go_split_ands; go_at_call 6; refine (fail_in u H1.out H8.out w.heap.size _ (Below.size (by assumption)) (Lib.hid (hL.out.on (by assumption)))).mono ?_; unfold rv; rintro e w2 ⟨rfl, hc2⟩; have hx2 : Blk w2 w.heap.size 23 (rc s b) := Blk.below (by assumption) hc2 (Blk.lt (by assumption)); have hb2 : Below w.heap.size w w2 := below_step (by assumption) hc2))
        all_goals
          go_split_ands
          go_wp2
          go_ret2
          exact ClR.is HR.out (by assumption)
      | false =>
        have HR := Lib.hid (ci_next HC.out H8.out hh)
        have hq : ∀ W, (binOp .eql 23 (.agg #[.int .i64 s, .string ⟨b.toArray⟩]) (.agg #[.int .i64 (st u), .string ⟨(bd u).toArray⟩])).run Tryz.prog W = .ok (.bool false) W := fun W => by
          have := HQ.out W; unfold hit at hh; rw [hh] at this; exact this
        clear hh HQ
        go_wp2_with fail
        go_region_held3 (fun W => W.cell? ⟨w.heap.size, 0, none⟩ = some (.int .i64 s) ∧ W.cell? ⟨w.heap.size, 1, none⟩ = some (.string ⟨b.toArray⟩) ∧ Blk W w.heap.size 23 (rc s b) ∧ Below w.heap.size w W)
          (first | with_reducible exact rk_here hx.drew hb.drew | with_reducible exact rk_here hx hb | (go_split_ands; with_reducible exact rk_here (by assumption) (by assumption)))
          (first | (go_split_ands; go_at_call 6; refine (fail_in u H1.out H8.out w.heap.size _ (Below.size (by assumption)) (Lib.hid (hL.out.on (by assumption)))).mono ?_; unfold rv; rintro e w2 ⟨rfl, hc2⟩; have hx2 : Blk w2 w.heap.size 23 (rc s b) := Blk.below (by assumption) hc2 (Blk.lt (by assumption)); have hb2 : Below w.heap.size w w2 := below_step (by assumption) hc2))
        all_goals
          go_split_ands
          rename_i s1 s2 hxx hbb
          go_wp2_with fail
          go_roundw
          case rel => have := H8.out; exact ⟨u + 1, by omega, by omega, by go_num, HR, hxx, hbb⟩
          case measure => simp [intOf]; omega
    case neg =>
    obtain rfl : u = 9 := by omega
    have HR := Lib.hid (ci_done HC.out)
    have c1 := hx.cell 1 rfl
    clear h1 h9 h8
    obtain ⟨P, hP⟩ : ∃ P, P = parse b := ⟨_, rfl⟩
    obtain ⟨L, E⟩ := P
    have hrest : rest s b = (s == 200 && E == 0 && !hasN L errN) := by unfold rest; rw [← hP]
    have hlen : L.length ≤ 1152921504606846976 := by
      rcases parse_err b with h | ⟨h, _⟩ | ⟨h, _⟩
      · rw [← hP] at h
        have := pr_parse (l := L) (by rw [← hP]; exact Prod.ext rfl h : parse b = (L, 0))
        have h2 := this.1
        unfold pr at h2
        by_cases h3 : L.length > 64
        · rw [if_pos h3] at h2; simp at h2
        · omega
      · rw [h] at hP; cases hP; decide
      · rw [h] at hP; cases hP; decide
    have HP := Lib.hid hP.symm
    rw [hrest] at HR
    have HLN := Lib.hid hlen
    clear hP hrest hlen
    go_wp2_with fail
    refine (jparse_any b _ (Lib.hid ((hL.out.on hb).mono hb.size))).mono ?_
    intro e w3 hQ
    unfold PaR at hQ
    rw [HP.out] at hQ
    obtain ⟨v, rfl, hown, hc3⟩ := hQ
    have hb3 := below_step hb hc3
    have hx3 := hx.below hc3 hx.lt
    clear hc3 hb hx c1
    go_wp2_with fail
    refine (get_any v L errN _ hown.rd HLN.out).mono ?_
    rintro e w4 ⟨rfl, hc4⟩
    have hb4 := below_step hb3 hc4
    have hx4 := hx3.below hc4 hx3.lt
    clear hc4 hb3 hx3 hown
    generalize hasN L errN = bad at HR
    generalize getM L errN = gm
    unfold mv
    have hx5 := hx4.alloc (.cells #[.string ⟨gm.nm.toArray⟩, .int .i64 gm.kd, .string ⟨gm.tx.toArray⟩, .int .i64 gm.n, .bool gm.b] 50)
    have hb5 := hb4.alloc hb4.size (.cells #[.string ⟨gm.nm.toArray⟩, .int .i64 gm.kd, .string ⟨gm.tx.toArray⟩, .int .i64 gm.n, .bool gm.b] 50)
    have z0 := hx5.cell 0 rfl
    clear hx4 hx5 hb4
    cases bad with
    | true =>
      have HR2 : Hid (cl s b 1 8 = (0, false)) := Lib.hid (by rw [HR.out]; simp)
      clear HR
      go_wp2
      go_ret2
      exact ClR.is HR2.out hb5
    | false =>
      by_cases hE : E = 0
      · by_cases hs : s = 200
        · have HR2 : Hid (cl s b 1 8 = (0, true)) := Lib.hid (by rw [HR.out, hE, hs]; rfl)
          have hsb : (s == 200) = true := by rw [hs]; rfl
          have hsc : (s != 200) = false := by rw [hs]; rfl
          subst hE
          clear hs HR
          go_wp2
          go_ret2
          exact ClR.is HR2.out hb5
        · have hsb : (s == 200) = false := by rw [beq_eq_false_iff_ne]; exact hs
          have HR2 : Hid (cl s b 1 8 = (0, false)) := Lib.hid (by rw [HR.out, hsb]; simp)
          have hsc : (s != 200) = true := by rw [bne, hsb]; rfl
          subst hE
          clear hs HR
          go_wp2
          go_ret2
          exact ClR.is HR2.out hb5
      · have hEb : (E == 0) = false := by rw [beq_eq_false_iff_ne]; exact hE
        have HR2 : Hid (cl s b 1 8 = (0, false)) := Lib.hid (by rw [HR.out, hEb]; simp)
        have hEc : (E != 0) = true := by rw [bne, hEb]; rfl
        clear hE HR
        go_wp2
        go_ret2
        exact ClR.is HR2.out hb5

set_option maxRecDepth 20000 in
set_option maxHeartbeats 4000000 in
theorem rclass_any (s : Int) (b : By) (w : World) (hL : Hid (LaidB w.heap.size w)) : Calls Tryz.prog 12 #[rv s b] w (ClR s b w) := by
  have hn := unary_not
  have hz : Blk (w.alloc (.cells #[.int .i64 s, .string ⟨b.toArray⟩] 23)) w.heap.size 23 (rc s b) := Blk.new w _ (rc s b)
  have hb0 : Below w.heap.size w (w.alloc (.cells #[.int .i64 s, .string ⟨b.toArray⟩] 23)) := (Below.refl _ _).alloc (Nat.le_refl _) _
  unfold rv
  go_enter Tryz.func12, Tryz.ntmps12
  go_wp2_with fail
  go_loopw [4] (fun i wr => ∃ u : Nat, 1 ≤ u ∧ u ≤ 9 ∧ i = .int .i64 u ∧ Hid (CI s b u) ∧ Blk wr w.heap.size 23 (rc s b) ∧ Below w.heap.size w wr) (fun i _ => 9 - (intOf i).toNat)
  case atStart => exact ⟨1, by omega, by omega, rfl, Lib.hid rfl, hz, hb0⟩
  case round =>
    clear hz hb0
    obtain ⟨u, h1, h9, rfl, HC, hx, hb⟩ := hrel
    by_cases h8 : u ≤ 8
    case pos =>
      have h8i : (u : Int) ≤ 8 := by omega
      have H1 := Lib.hid h1
      have H8 := Lib.hid h8
      have HQ := Lib.hid (eql_rs s (st u) b (bd u))
      have c0 := hx.cell 0 rfl
      have c1 := hx.cell 1 rfl
      clear h1 h8 h9
      cases hh : hit s b u with
      | true =>
        have HR := Lib.hid (ci_hit HC.out H8.out hh)
        have hq : ∀ W, (binOp .eql 23 (.agg #[.int .i64 s, .string ⟨b.toArray⟩]) (.agg #[.int .i64 (st u), .string ⟨(bd u).toArray⟩])).run Tryz.prog W = .ok (.bool true) W := fun W => by
          have := HQ.out W; unfold hit at hh; rw [hh] at this; exact this
        clear hh HQ
        go_wp2_with fail
        go_region_held3 (fun W => W.cell? ⟨w.heap.size, 0, none⟩ = some (.int .i64 s) ∧ W.cell? ⟨w.heap.size, 1, none⟩ = some (.string ⟨b.toArray⟩) ∧ Blk W w.heap.size 23 (rc s b) ∧ Below w.heap.size w W)
          (first | with_reducible exact rk_here hx.drew hb.drew | with_reducible exact rk_here hx hb | (go_split_ands; with_reducible exact rk_here (by assumption) (by assumption)))
          (first | (go_split_ands; go_at_call 11; refine (rfail_in u H1.out H8.out w.heap.size _ (Below.size (by assumption)) (Lib.hid (hL.out.on (by assumption)))).mono ?_; unfold rv; rintro e w2 ⟨rfl, hc2⟩; have hx2 : Blk w2 w.heap.size 23 (rc s b) := Blk.below (by assumption) hc2 (Blk.lt (by assumption)); have hb2 : Below w.heap.size w w2 := below_step (by assumption) hc2))
        all_goals
          go_split_ands
          go_wp2
          go_ret2
          exact ClR.is HR.out (by assumption)
      | false =>
        have HR := Lib.hid (ci_next HC.out H8.out hh)
        have hq : ∀ W, (binOp .eql 23 (.agg #[.int .i64 s, .string ⟨b.toArray⟩]) (.agg #[.int .i64 (st u), .string ⟨(bd u).toArray⟩])).run Tryz.prog W = .ok (.bool false) W := fun W => by
          have := HQ.out W; unfold hit at hh; rw [hh] at this; exact this
        clear hh HQ
        go_wp2_with fail
        go_region_held3 (fun W => W.cell? ⟨w.heap.size, 0, none⟩ = some (.int .i64 s) ∧ W.cell? ⟨w.heap.size, 1, none⟩ = some (.string ⟨b.toArray⟩) ∧ Blk W w.heap.size 23 (rc s b) ∧ Below w.heap.size w W)
          (first | with_reducible exact rk_here hx.drew hb.drew | with_reducible exact rk_here hx hb | (go_split_ands; with_reducible exact rk_here (by assumption) (by assumption)))
          (first | (go_split_ands; go_at_call 11; refine (rfail_in u H1.out H8.out w.heap.size _ (Below.size (by assumption)) (Lib.hid (hL.out.on (by assumption)))).mono ?_; unfold rv; rintro e w2 ⟨rfl, hc2⟩; have hx2 : Blk w2 w.heap.size 23 (rc s b) := Blk.below (by assumption) hc2 (Blk.lt (by assumption)); have hb2 : Below w.heap.size w w2 := below_step (by assumption) hc2))
        all_goals
          go_split_ands
          rename_i s1 s2 hxx hbb
          go_wp2_with fail
          go_roundw
          case rel => have := H8.out; exact ⟨u + 1, by omega, by omega, by go_num, HR, hxx, hbb⟩
          case measure => simp [intOf]; omega
    case neg =>
    obtain rfl : u = 9 := by omega
    have HR := Lib.hid (ci_done HC.out)
    have c1 := hx.cell 1 rfl
    clear h1 h9 h8
    obtain ⟨P, hP⟩ : ∃ P, P = parse b := ⟨_, rfl⟩
    obtain ⟨L, E⟩ := P
    have hrest : rest s b = (s == 200 && E == 0 && !hasN L errN) := by unfold rest; rw [← hP]
    have hlen : L.length ≤ 1152921504606846976 := by
      rcases parse_err b with h | ⟨h, _⟩ | ⟨h, _⟩
      · rw [← hP] at h
        have := pr_parse (l := L) (by rw [← hP]; exact Prod.ext rfl h : parse b = (L, 0))
        have h2 := this.1
        unfold pr at h2
        by_cases h3 : L.length > 64
        · rw [if_pos h3] at h2; simp at h2
        · omega
      · rw [h] at hP; cases hP; decide
      · rw [h] at hP; cases hP; decide
    have HP := Lib.hid hP.symm
    rw [hrest] at HR
    have HLN := Lib.hid hlen
    clear hP hrest hlen
    go_wp2_with fail
    refine (rparse_any b _).mono ?_
    rw [HP.out]
    rintro e w3 ⟨v, rfl, hown, hc3⟩
    have hb3 := below_step hb hc3
    have hx3 := hx.below hc3 hx.lt
    clear hc3 hb hx c1
    go_wp2_with fail
    refine (rget_any v L errN _ hown.rd HLN.out).mono ?_
    rintro e w4 ⟨rfl, hc4⟩
    have hb4 := below_step hb3 hc4
    have hx4 := hx3.below hc4 hx3.lt
    clear hc4 hb3 hx3 hown
    generalize hasN L errN = bad at HR
    generalize getM L errN = gm
    unfold mv
    have hx5 := hx4.alloc (.cells #[.string ⟨gm.nm.toArray⟩, .int .i64 gm.kd, .string ⟨gm.tx.toArray⟩, .int .i64 gm.n, .bool gm.b] 50)
    have hb5 := hb4.alloc hb4.size (.cells #[.string ⟨gm.nm.toArray⟩, .int .i64 gm.kd, .string ⟨gm.tx.toArray⟩, .int .i64 gm.n, .bool gm.b] 50)
    have z0 := hx5.cell 0 rfl
    clear hx4 hx5 hb4
    cases bad with
    | true =>
      have HR2 : Hid (cl s b 1 8 = (0, false)) := Lib.hid (by rw [HR.out]; simp)
      clear HR
      by_cases hs : s = 200
      · have hsb : (s == 200) = true := by rw [hs]; rfl
        clear hs
        by_cases hE : E = 0
        · have hEb : (E == 0) = true := by rw [hE]; rfl
          clear hE
          go_wp2
          go_ret2
          exact ClR.is HR2.out hb5
        · have hEb : (E == 0) = false := by rw [beq_eq_false_iff_ne]; exact hE
          clear hE
          go_wp2
          go_ret2
          exact ClR.is HR2.out hb5
      · have hsb : (s == 200) = false := by rw [beq_eq_false_iff_ne]; exact hs
        clear hs
        go_wp2
        go_ret2
        exact ClR.is HR2.out hb5
    | false =>
      by_cases hE : E = 0
      · by_cases hs : s = 200
        · have HR2 : Hid (cl s b 1 8 = (0, true)) := Lib.hid (by rw [HR.out, hE, hs]; rfl)
          have hsb : (s == 200) = true := by rw [hs]; rfl
          have hsc : (s != 200) = false := by rw [hs]; rfl
          subst hE
          clear hs HR
          go_wp2
          go_ret2
          exact ClR.is HR2.out hb5
        · have hsb : (s == 200) = false := by rw [beq_eq_false_iff_ne]; exact hs
          have HR2 : Hid (cl s b 1 8 = (0, false)) := Lib.hid (by rw [HR.out, hsb]; simp)
          have hsc : (s != 200) = true := by rw [bne, hsb]; rfl
          subst hE
          clear hs HR
          go_wp2
          go_ret2
          exact ClR.is HR2.out hb5
      · have hEb : (E == 0) = false := by rw [beq_eq_false_iff_ne]; exact hE
        have HR2 : Hid (cl s b 1 8 = (0, false)) := Lib.hid (by rw [HR.out, hEb]; simp)
        have hEc : (E != 0) = true := by rw [bne, hEb]; rfl
        clear hE HR
        by_cases hs : s = 200
        · have hsb : (s == 200) = true := by rw [hs]; rfl
          clear hs
          go_wp2
          go_ret2
          exact ClR.is HR2.out hb5
        · have hsb : (s == 200) = false := by rw [beq_eq_false_iff_ne]; exact hs
          clear hs
          go_wp2
          go_ret2
          exact ClR.is HR2.out hb5
end Go.Proofs.YtffllacphfapnaaGreatDoor
