/-
  Chapter 16: seal.Peek, walked at every text.
-/
import Derived.Test.YtffllacphfapnaaGreatDoorG17
namespace Go.Proofs.YtffllacphfapnaaGreatDoor.Se
open Go.RowKit
set_option linter.unusedVariables false
set_option linter.unusedSimpArgs false

/-- the listed variables, and the length that strings.Index asks -/
structure LaidS (B : Nat) (w : World) : Prop extends LaidB B w where
  mx : ∃ m, ∀ W, Below B w W → W.cell? ⟨0, 0, none⟩ = some (.int .i64 m)
theorem LaidS.on {B : Nat} {w w1 : World} (h : LaidS B w) (hb : Below B w w1) : LaidS B w1 := ⟨h.toLaidB.on hb, let ⟨m, hm⟩ := h.mx; ⟨m, fun W hW => hm W (hb.trans hW)⟩⟩
theorem LaidS.mono {B B' : Nat} {w : World} (h : LaidS B w) (hB : B ≤ B') : LaidS B' w := ⟨h.toLaidB.mono hB, let ⟨m, hm⟩ := h.mx; ⟨m, fun W hW => hm W (hW.mono hB)⟩⟩
def pkV (s : By) : Value := .tuple #[tkv ((peek s).getD zt), .int .i64 (if (peek s).isSome then 0 else 3)]
theorem pk_no {s : By} (h : peek s = none) : pkV s = .tuple #[.agg #[.int .i64 0, .string ⟨#[]⟩, .int .i64 0], .int .i64 3] := by unfold pkV; rw [h]; rfl
theorem pk_yes {s : By} {k : Int} {f : By} {v : Int} (h : peek s = some ⟨k, f, v⟩) : pkV s = .tuple #[.agg #[.int .i64 k, .string ⟨f.toArray⟩, .int .i64 v], .int .i64 0] := by unfold pkV; rw [h]; rfl
theorem peek_n1 {s : By} (h : cut s = none) : peek s = none := by unfold peek; rw [h]
theorem peek_n2 {s k s1 : By} (h : cut s = some (k, s1)) (h1 : cut s1 = none) : peek s = none := by unfold peek; simp only [h, h1]
theorem peek_n3 {s k s1 f s2 : By} (h : cut s = some (k, s1)) (h1 : cut s1 = some (f, s2)) (h2 : cut s2 = none) : peek s = none := by unfold peek; simp only [h, h1, h2]
theorem peek_n4 {s k s1 f s2 n s3 : By} (h : cut s = some (k, s1)) (h1 : cut s1 = some (f, s2)) (h2 : cut s2 = some (n, s3)) (h3 : ∀ v, Lib.atoiAll n ≠ .ok v) : peek s = none := by
  unfold peek
  simp only [h, h1, h2]
theorem peek_y {s k s1 f s2 n s3 : By} {v : Int} (h : cut s = some (k, s1)) (h1 : cut s1 = some (f, s2)) (h2 : cut s2 = some (n, s3)) (h3 : Lib.atoiAll n = .ok v) : peek s = if fit s k f s3 v then some ⟨Lib.index ltrs k, f, v⟩ else none := by
  unfold peek
  simp only [h, h1, h2, h3]
theorem cut_len {s k r : By} (h : cut s = some (k, r)) : k.length + r.length < s.length ∧ k.length ≤ s.length ∧ r.length ≤ s.length := by
  unfold cut at h
  split at h
  · cases h
    rename_i h1
    unfold Cut.after Cut.before
    have h2 : s.takeWhile (· != 46) ++ s.dropWhile (· != 46) = s := List.takeWhile_append_dropWhile
    have h3 := congrArg List.length h2
    have h4 : (s.takeWhile (· != 46)).length < s.length := by
      rcases Nat.lt_or_ge (s.takeWhile (· != 46)).length s.length with h5 | h5
      · exact h5
      · exfalso
        have h6 : s.takeWhile (· != 46) = s := (List.takeWhile_sublist (l := s) (· != 46)).eq_of_length_le h5
        have h7 := List.all_takeWhile (p := (· != 46)) (l := s)
        rw [h6] at h7
        have := List.all_eq_true.1 h7 46 (by simpa using h1)
        simp at this
    simp only [List.length_drop]
    omega
  · cases h

/-- Peek's memory: its text's variable, its two results' -/
structure PkS (w W : World) (x0 x1 x2 : Value) (r : By) : Prop where
  r : Blk W w.heap.size 9 [.string ⟨r.toArray⟩]
  p : Blk W (w.heap.size + 1) 54 [x0, x1, x2]
  q : Blk W (w.heap.size + 1 + 1) 43 [.int .i64 0]
  b : Below w.heap.size w W
theorem PkS.grown {w W W' : World} {x0 x1 x2 : Value} {r r' : By} (h : PkS w W x0 x1 x2 r) (hg : W.grownBy W' (some w.heap.size)) (hr : Blk W' w.heap.size 9 [.string ⟨r'.toArray⟩]) : PkS w W' x0 x1 x2 r' :=
  ⟨hr, h.p.grown hg (fun r hr e => by cases hr; omega), h.q.grown hg (fun r hr e => by cases hr; omega), h.b.trans (g_from hg (Nat.le_refl _) h.b.size)⟩
theorem PkS.below {w W W' : World} {x0 x1 x2 : Value} {r : By} (h : PkS w W x0 x1 x2 r) (hb : Below W.heap.size W W') : PkS w W' x0 x1 x2 r :=
  ⟨h.r.below hb h.r.lt, h.p.below hb h.p.lt, h.q.below hb h.q.lt, h.b.trans (hb.mono h.b.size)⟩
theorem PkS.drew {w W : World} {x0 x1 x2 : Value} {r : By} (h : PkS w W x0 x1 x2 r) : PkS w W.drew x0 x1 x2 r := h.below (Below.refl _ _).drew
theorem PkS.all {w W : World} {x0 x1 x2 : Value} {r : By} (h : PkS w W x0 x1 x2 r) : W.cell? ⟨w.heap.size, 0, none⟩ = some (.string ⟨r.toArray⟩) ∧ W.cell? ⟨w.heap.size + 1, 0, none⟩ = some x0 ∧ W.cell? ⟨w.heap.size + 1, 1, none⟩ = some x1 ∧ W.cell? ⟨w.heap.size + 1, 2, none⟩ = some x2 ∧ PkS w W x0 x1 x2 r :=
  ⟨h.r.cell 0 rfl, h.p.cell 0 rfl, h.p.cell 1 rfl, h.p.cell 2 rfl, h⟩
theorem PkS.drewN {w W : World} {x0 x1 x2 : Value} {r : By} (h : PkS w W x0 x1 x2 r) (n : Nat) : PkS w (W.drewN n) x0 x1 x2 r := h.below (below_drewN (Below.refl _ _) n)
theorem PkS.tabs {w W : World} {x0 x1 x2 : Value} {r : By} (h : PkS w W x0 x1 x2 r) (hL : LaidS w.heap.size w) : ∀ W', Below W.heap.size W W' → Lib.TabIs Tryz.prog W' "internal/strconv.uint64pow10" .u64 Lib.pow10Tab :=
  fun W' hb => hL.tab W' (h.b.trans (hb.mono h.b.size))
theorem PkS.start (w : World) (s : By) : PkS w (((w.alloc (.cells #[.string ⟨s.toArray⟩] 9)).alloc (.cells #[.int .i64 0, .string ⟨#[]⟩, .int .i64 0] 54)).alloc (.cells #[.int .i64 0] 43)) (.int .i64 0) (.string ⟨#[]⟩) (.int .i64 0) s := by
  refine ⟨((Blk.new w _ _).alloc _).alloc _, ?_, ?_, (((Below.refl _ _).alloc (Nat.le_refl _) _).alloc (by simp) _).alloc (by simp; omega) _⟩
  · have h := (Blk.new (w.alloc (.cells #[.string ⟨s.toArray⟩] 9)) 54 [.int .i64 0, .string ⟨#[]⟩, .int .i64 0]).alloc (.cells #[.int .i64 0] 43)
    simpa using h
  · have h := Blk.new ((w.alloc (.cells #[.string ⟨s.toArray⟩] 9)).alloc (.cells #[.int .i64 0, .string ⟨#[]⟩, .int .i64 0] 54)) 43 [.int .i64 0]
    simpa using h

theorem PkS.set3 {w W : World} {x0 x1 x2 : Value} {r : By} (h : PkS w W x0 x1 x2 r) (y0 y1 y2 : Value) : PkS w (((W.setCell ⟨w.heap.size + 1, 0, none⟩ y0).setCell ⟨w.heap.size + 1, 1, none⟩ y1).setCell ⟨w.heap.size + 1, 2, none⟩ y2) y0 y1 y2 r :=
  ⟨((h.r.setOther _ _ (by show w.heap.size ≠ w.heap.size + 1; omega)).setOther _ _ (by show w.heap.size ≠ w.heap.size + 1; omega)).setOther _ _ (by show w.heap.size ≠ w.heap.size + 1; omega), ((h.p.set 0 y0).set 1 y1).set 2 y2,
   ((h.q.setOther _ _ (by show w.heap.size + 1 + 1 ≠ w.heap.size + 1; omega)).setOther _ _ (by show w.heap.size + 1 + 1 ≠ w.heap.size + 1; omega)).setOther _ _ (by show w.heap.size + 1 + 1 ≠ w.heap.size + 1; omega),
   ((h.b.setCell (by show w.heap.size ≤ w.heap.size + 1; omega) _).setCell (by show w.heap.size ≤ w.heap.size + 1; omega) _).setCell (by show w.heap.size ≤ w.heap.size + 1; omega) _⟩
theorem PkS.set1 {w W : World} {x0 x1 x2 : Value} {r : By} (h : PkS w W x0 x1 x2 r) (y2 : Value) : PkS w (W.setCell ⟨w.heap.size + 1, 2, none⟩ y2) x0 x1 y2 r :=
  ⟨h.r.setOther _ _ (by show w.heap.size ≠ w.heap.size + 1; omega), h.p.set 2 y2, h.q.setOther _ _ (by show w.heap.size + 1 + 1 ≠ w.heap.size + 1; omega), h.b.setCell (by show w.heap.size ≤ w.heap.size + 1; omega) _⟩
theorem index_any (k : By) (W : World) (h : ∃ m, W.cell? ⟨0, 0, none⟩ = some (.int .i64 m)) :
    Calls Tryz.prog 57 #[.string ⟨#[63, 99, 97, 114]⟩, .string ⟨k.toArray⟩] W fun e w' => e = .returned (.int .i64 (Lib.index ltrs k)) ∧ w' = W := by
  obtain ⟨m, hm⟩ := h
  refine (Tryz.strings_Index ⟨#[63, 99, 97, 114]⟩ ⟨k.toArray⟩ m W (by decide) hm).mono ?_
  rintro e w' ⟨rfl, rfl⟩
  exact ⟨rfl, rfl⟩

theorem PkS.out {tmps : Array Value} {w W : World} {x0 x1 x2 : Value} {r s : By} (ht2 : tmps.getD 2 undef = .pointer (some ⟨w.heap.size + 1, 0, none⟩)) (ht3 : tmps.getD 3 undef = .pointer (some ⟨w.heap.size + 1 + 1, 0, none⟩)) (h : PkS w W x0 x1 x2 r) (hv : pkV s = .tuple #[.agg #[.int .i64 0, .string ⟨#[]⟩, .int .i64 0], .int .i64 3]) :
    Leaves Tryz.prog Tryz.f33 tmps (fun e w' => e = .returned (pkV s) ∧ Below w.heap.size w w') [{ target := .fn (Fn.func 55) #[.pointer (some ⟨w.heap.size + 1, 0, none⟩), .pointer (some ⟨w.heap.size + 1 + 1, 0, none⟩)], args := #[] }] (.panicking [{ v := .iface 104 (.agg #[]), recovered := false }]) W :=
  peek_out ht2 ht3 h.p h.q (by omega) (by omega) (by omega) h.b.size (fun W' hW => ⟨by rw [hv], h.b.trans hW⟩)

set_option maxRecDepth 20000 in
set_option maxHeartbeats 4000000 in
theorem peek_any (s : By) (w : World) (hs : s.length ≤ 140737488355328) (hL : Hid (LaidS w.heap.size w)) :
    Calls Tryz.prog 33 #[.string ⟨s.toArray⟩] w fun e w' => e = .returned (pkV s) ∧ Below w.heap.size w w' := by
  have hmf : ∀ (fn : Fn) (first cap : Array Value) (w : World), (Instr.makeFunc fn first cap).run Tryz.prog w = .ok (.func fn first cap) w := fun _ _ _ _ => rfl
  have hss := st_size s
  have hst0 := PkS.start w s
  have HS := Lib.hid hs
  clear hs
  cases hc1 : cut s with
  | none =>
    have HV := Lib.hid (pk_no (peek_n1 hc1))
    go_enter_defers Tryz.func33, Tryz.ntmps33
    go_wp2_with fail
    refine (part_no w.heap.size s _ hst0.r HS.out hc1).mono ?_
    rintro e w2 ⟨rfl, hg2⟩
    have hp2 := hst0.p.grown hg2 (fun r hr e => by cases hr; omega)
    have hq2 := hst0.q.grown hg2 (fun r hr e => by cases hr; omega)
    have hb2 := hst0.b.trans (g_from hg2 (Nat.le_refl _) hst0.b.size)
    unfold spoilP
    go_wp2
    exact peek_out rfl rfl hp2 hq2 (by omega) (by omega) (by omega) hb2.size (fun W' hW => ⟨by rw [HV.out], hb2.trans hW⟩)
  | some q1 =>
  obtain ⟨k, s1⟩ := q1
  have hl1 := cut_len hc1
  go_enter_defers Tryz.func33, Tryz.ntmps33
  go_wp2_with fail
  refine (part_ok w.heap.size s k s1 _ hst0.r HS.out hc1).mono ?_
  rintro e w2 ⟨rfl, hr2, hg2⟩
  have hst2 := hst0.grown hg2 hr2
  have HL1 := Lib.hid hl1
  have HC1 := Lib.hid hc1
  clear hst0 hr2 hg2 hl1 hc1
  go_wp2_with fail
  refine (index_any k w2 (let ⟨m, hm⟩ := hL.out.mx; ⟨m, hm w2 hst2.b⟩)).mono ?_
  rintro e w3 ⟨rfl, rfl⟩
  have HIX : Hid (Lib.index ltrs k = Lib.index ltrs k) := Lib.hid rfl
  cases hc2 : cut s1 with
  | none =>
    have HV := Lib.hid (pk_no (peek_n2 HC1.out hc2))
    go_wp2_with fail
    refine (part_no w.heap.size s1 _ hst2.r (by have := HS.out; have := HL1.out; omega) hc2).mono ?_
    rintro e w4 ⟨rfl, hg4⟩
    have hp2 := hst2.p.grown hg4 (fun r hr e => by cases hr; omega)
    have hq2 := hst2.q.grown hg4 (fun r hr e => by cases hr; omega)
    have hb2 := hst2.b.trans (g_from hg4 (Nat.le_refl _) hst2.b.size)
    unfold spoilP
    go_wp2
    exact peek_out rfl rfl hp2 hq2 (by omega) (by omega) (by omega) hb2.size (fun W' hW => ⟨by rw [HV.out], hb2.trans hW⟩)
  | some q2 =>
  obtain ⟨f, s2⟩ := q2
  have hl2 := cut_len hc2
  go_wp2_with fail
  refine (part_ok w.heap.size s1 f s2 _ hst2.r (by have := HS.out; have := HL1.out; omega) hc2).mono ?_
  rintro e w4 ⟨rfl, hr4, hg4⟩
  have hst4 := hst2.grown hg4 hr4
  have HL2 := Lib.hid hl2
  have HC2 := Lib.hid hc2
  clear hst2 hr4 hg4 hl2 hc2
  obtain ⟨ix, hix⟩ : ∃ ix, ix = Lib.index ltrs k := ⟨_, rfl⟩
  rw [← hix]
  have HIX := Lib.hid hix
  clear hix
  have c0 := hst4.p.frozen 0
  have c1 := hst4.p.frozen 1
  have c2 := hst4.p.frozen 2
  have c3 := hst4.p.cell 0 rfl
  have c4 := hst4.p.cell 1 rfl
  have c5 := hst4.p.cell 2 rfl
  go_wp2_with fail
  have hst5 := hst4.set3 (.int .i64 ix) (.string ⟨f.toArray⟩) (.int .i64 0)
  clear hst4 c0 c1 c2 c3 c4 c5
  generalize ((w4.setCell ⟨w.heap.size + 1, 0, none⟩ (.int .i64 ix)).setCell ⟨w.heap.size + 1, 1, none⟩ (.string ⟨f.toArray⟩)).setCell ⟨w.heap.size + 1, 2, none⟩ (.int .i64 0) = w5 at hst5 ⊢
  cases hc3 : cut s2 with
  | none =>
    have HV := Lib.hid (pk_no (peek_n3 HC1.out HC2.out hc3))
    refine (part_no w.heap.size s2 _ hst5.r (by have := HS.out; have := HL1.out; have := HL2.out; omega) hc3).mono ?_
    rintro e w6 ⟨rfl, hg6⟩
    have hp2 := hst5.p.grown hg6 (fun r hr e => by cases hr; omega)
    have hq2 := hst5.q.grown hg6 (fun r hr e => by cases hr; omega)
    have hb2 := hst5.b.trans (g_from hg6 (Nat.le_refl _) hst5.b.size)
    unfold spoilP
    go_wp2
    exact peek_out rfl rfl hp2 hq2 (by omega) (by omega) (by omega) hb2.size (fun W' hW => ⟨by rw [HV.out], hb2.trans hW⟩)
  | some q3 =>
  obtain ⟨n, s3⟩ := q3
  have hl3 := cut_len hc3
  refine (part_ok w.heap.size s2 n s3 _ hst5.r (by have := HS.out; have := HL1.out; have := HL2.out; omega) hc3).mono ?_
  rintro e w6 ⟨rfl, hr6, hg6⟩
  have hst6 := hst5.grown hg6 hr6
  have HL3 := Lib.hid hl3
  have HC3 := Lib.hid hc3
  clear hst5 hr6 hg6 hl3 hc3
  have HNL : Hid (n.length ≤ 140737488355328) := Lib.hid (by have := HS.out; have := HL1.out; have := HL2.out; have := HL3.out; omega)
  have HLK : Hid (k.length ≤ 140737488355328) := Lib.hid (by have := HS.out; have := HL1.out; omega)
  have hkz := st_size k
  by_cases hok : ∃ v, Lib.atoiAll n = .ok v
  case neg =>
    have HV := Lib.hid (pk_no (peek_n4 HC1.out HC2.out HC3.out (fun v hv => hok ⟨v, hv⟩)))
    have HA := Lib.hid (atoi_bad n _ w6 HNL.out (hL.out.toLaidB.on hst6.b) (fun v hv => hok ⟨v, hv⟩))
    clear hok
    go_wp2_with fail
    refine HA.out.mono ?_
    rintro e w7 ⟨⟨x, tp, p, rfl⟩, hb7⟩
    have hst7 := hst6.below hb7
    clear hst6 hb7 HA
    have c0 := hst7.p.frozen 2
    have c1 := hst7.p.cell 2 rfl
    go_wp2_with fail
    have hst8 := hst7.set1 (.int .i64 x)
    clear hst7 c0 c1
    generalize w7.setCell ⟨w.heap.size + 1, 2, none⟩ (.int .i64 x) = w8 at hst8 ⊢
    by_cases hk : k.length = 1
    case pos =>
      have t0 : ((k.length : Int) == 1) = true := by rw [hk]; rfl
      have t1 : ((k.length : Int) != 1) = false := by rw [hk]; rfl
      clear hk
      have c0 := hst8.r.cell 0 rfl
      have c1 := hst8.p.cell 0 rfl
      have c2 := hst8.p.cell 1 rfl
      have c3 := hst8.p.cell 2 rfl
      go_quiet (fail)
      have hst9 := hst8.drewN nq
      clear hst8 c0 c1 c2 c3
      generalize w8.drewN nq = w9 at hst9 ⊢
      go_wp2
      exact peek_out rfl rfl hst9.p hst9.q (by omega) (by omega) (by omega) hst9.b.size (fun W' hW => ⟨by rw [HV.out], hst9.b.trans hW⟩)
    case neg =>
      have t0 : ((k.length : Int) == 1) = false := by rw [beq_eq_false_iff_ne]; omega
      have t1 : ((k.length : Int) != 1) = true := by rw [bne, t0]; rfl
      clear hk
      have c0 := hst8.r.cell 0 rfl
      have c1 := hst8.p.cell 0 rfl
      have c2 := hst8.p.cell 1 rfl
      have c3 := hst8.p.cell 2 rfl
      go_quiet (fail)
      have hst9 := hst8.drewN nq
      clear hst8 c0 c1 c2 c3
      generalize w8.drewN nq = w9 at hst9 ⊢
      go_wp2
      exact peek_out rfl rfl hst9.p hst9.q (by omega) (by omega) (by omega) hst9.b.size (fun W' hW => ⟨by rw [HV.out], hst9.b.trans hW⟩)
  case pos =>
  obtain ⟨v, hv⟩ := hok
  have HA := Lib.hid (atoi_ok n v w6 HNL.out hv)
  have hpk := peek_y HC1.out HC2.out HC3.out hv
  rw [← HIX.out] at hpk
  have HFT : Hid (fit s k f s3 v ↔ (k.length = 1 ∧ Right ⟨ix, f, v⟩ ∧ head ⟨ix, f, v⟩ ++ s3 = s ∧ s3.length = 16 ∧ s3.all sgn = true)) := Lib.hid (by unfold fit; rw [← HIX.out])
  have HPK := Lib.hid hpk
  clear hv hpk
  go_wp2_with fail
  refine HA.out.mono ?_
  rintro e w7 ⟨rfl, hb7⟩
  have hst7 := hst6.below hb7
  clear hst6 hb7 HA
  have c0 := hst7.p.frozen 2
  have c1 := hst7.p.cell 2 rfl
  go_wp2_with fail
  have hst8 := hst7.set1 (.int .i64 v)
  clear hst7 c0 c1
  generalize w7.setCell ⟨w.heap.size + 1, 2, none⟩ (.int .i64 v) = w8 at hst8 ⊢
  by_cases hk : k.length = 1
  case neg =>
    have HV := Lib.hid (pk_no (HPK.out.trans (if_neg (fun h => hk (HFT.out.1 h).1))))
    have t0 : ((k.length : Int) == 1) = false := by rw [beq_eq_false_iff_ne]; omega
    have t1 : ((k.length : Int) != 1) = true := by rw [bne, t0]; rfl
    clear hk
    have c0 := hst8.r.cell 0 rfl
    have c1 := hst8.p.cell 0 rfl
    have c2 := hst8.p.cell 1 rfl
    have c3 := hst8.p.cell 2 rfl
    go_quiet (fail)
    have hst9 := hst8.drewN nq
    clear hst8 c0 c1 c2 c3
    generalize w8.drewN nq = w9 at hst9 ⊢
    go_wp2
    exact peek_out rfl rfl hst9.p hst9.q (by omega) (by omega) (by omega) hst9.b.size (fun W' hW => ⟨by rw [HV.out], hst9.b.trans hW⟩)
  case pos =>
  have t0 : ((k.length : Int) == 1) = true := by rw [hk]; rfl
  have t1 : ((k.length : Int) != 1) = false := by rw [hk]; rfl
  have HK := Lib.hid hk
  clear hk
  have hfl : f.length ≤ 9223372036854775807 := by have := HS.out; have := HL1.out; have := HL2.out; omega
  by_cases hR : Right ⟨ix, f, v⟩
  case neg =>
    have HV := Lib.hid (pk_no (HPK.out.trans (if_neg (fun h => hR (HFT.out.1 h).2.1))))
    have hr := fun W => right_any ⟨ix, f, v⟩ W hfl
    rw [decide_eq_false hR] at hr
    have HR := Lib.hid hr
    unfold tkv at HR
    have HST := Lib.hid hst8.drew.all
    clear hr hR hst8 hfl
    refine wp_region_noPanic ?_
    refine wp_region_held_drew (S := (fun W => W.cell? ⟨w.heap.size, 0, none⟩ = some (.string ⟨s3.toArray⟩) ∧ W.cell? ⟨w.heap.size + 1, 0, none⟩ = some (.int .i64 ix) ∧ W.cell? ⟨w.heap.size + 1, 1, none⟩ = some (.string ⟨f.toArray⟩) ∧ W.cell? ⟨w.heap.size + 1, 2, none⟩ = some (.int .i64 v) ∧ PkS w W (.int .i64 ix) (.string ⟨f.toArray⟩) (.int .i64 v) s3)) (by kernel_rfl) ?_ (fun hHeld1 => ?_)
    · exact HST.out
    refine wpAnyH_take (i := 0) (oi := ?oi1) (v := ?v1) ?hi1 (by kernel_rfl) (by kernel_rfl) (by kernel_rfl) ?hq1 ?hy1 (by assumption) ?rest1
    case hi1 => (simp only [List.getElem?_toArray, List.getElem?_cons_succ, List.getElem?_cons_zero]; rfl)
    case hq1 => exact fun _ _ _ h => h
    case hy1 => (refine Or.inl ⟨by rfl, ?_⟩; intro W hSw; (try dsimp only at hSw); go_simp; (try with_reducible rfl))
    try simp only [Act.put, List.setIfInBounds_toArray, List.set_cons_zero, List.set_cons_succ]
    refine wpAnyH_take (i := 1) (oi := ?oi2) (v := ?v2) ?hi2 (by kernel_rfl) (by kernel_rfl) (by kernel_rfl) ?hq2 ?hy2 (by assumption) ?rest2
    case hi2 => (simp only [List.getElem?_toArray, List.getElem?_cons_succ, List.getElem?_cons_zero]; rfl)
    case hq2 => exact fun _ _ _ h => h
    case hy2 => (refine Or.inl ⟨by rfl, ?_⟩; intro W hSw; (try dsimp only at hSw); go_simp; (try with_reducible rfl))
    try simp only [Act.put, List.setIfInBounds_toArray, List.set_cons_zero, List.set_cons_succ]
    refine wpAnyH_take (i := 2) (oi := ?oi3) (v := ?v3) ?hi3 (by kernel_rfl) (by kernel_rfl) (by kernel_rfl) ?hq3 ?hy3 (by assumption) ?rest3
    case hi3 => (simp only [List.getElem?_toArray, List.getElem?_cons_succ, List.getElem?_cons_zero]; rfl)
    case hq3 => exact fun _ _ _ h => h
    case hy3 => (refine Or.inl ⟨by rfl, ?_⟩; intro W hSw; (try dsimp only at hSw); go_simp; (try with_reducible rfl))
    try simp only [Act.put, List.setIfInBounds_toArray, List.set_cons_zero, List.set_cons_succ]
    refine wpAnyH_take (i := 3) (oi := ?oi4) (v := ?v4) ?hi4 (by kernel_rfl) (by kernel_rfl) (by kernel_rfl) ?hq4 ?hy4 (by assumption) ?rest4
    case hi4 => (simp only [List.getElem?_toArray, List.getElem?_cons_succ, List.getElem?_cons_zero]; rfl)
    case hq4 => exact fun _ _ _ h => h
    case hy4 => (refine Or.inl ⟨by rfl, ?_⟩; intro W hSw; (try dsimp only at hSw); go_simp; (try with_reducible rfl))
    try simp only [Act.put, List.setIfInBounds_toArray, List.set_cons_zero, List.set_cons_succ]
    refine wpAnyH_take (i := 4) (oi := ?oi5) (v := ?v5) ?hi5 (by kernel_rfl) (by kernel_rfl) (by kernel_rfl) ?hq5 ?hy5 (by assumption) ?rest5
    case hi5 => (simp only [List.getElem?_toArray, List.getElem?_cons_succ, List.getElem?_cons_zero]; rfl)
    case hq5 => exact fun _ _ _ h => h
    case hy5 => (refine Or.inl ⟨by rfl, ?_⟩; intro W hSw; (try dsimp only at hSw); go_simp; (try with_reducible rfl))
    try simp only [Act.put, List.setIfInBounds_toArray, List.set_cons_zero, List.set_cons_succ]
    refine wpAnyH_take (i := 5) (oi := ?oi6) (v := ?v6) ?hi6 (by kernel_rfl) (by kernel_rfl) (by kernel_rfl) ?hq6 ?hy6 (by assumption) ?rest6
    case hi6 => (simp only [List.getElem?_toArray, List.getElem?_cons_succ, List.getElem?_cons_zero]; rfl)
    case hq6 => exact fun _ _ _ h => h
    case hy6 => (refine Or.inl ⟨by rfl, ?_⟩; intro W hSw; (try dsimp only at hSw); go_simp; (try with_reducible rfl))
    try simp only [Act.put, List.setIfInBounds_toArray, List.set_cons_zero, List.set_cons_succ]
    refine wpAnyH_take (i := 6) (oi := ?oi7) (v := ?v7) ?hi7 (by kernel_rfl) (by kernel_rfl) (by kernel_rfl) ?hq7 ?hy7 (by assumption) ?rest7
    case hi7 => (simp only [List.getElem?_toArray, List.getElem?_cons_succ, List.getElem?_cons_zero]; rfl)
    case hq7 => exact fun _ _ _ h => h
    case hy7 => (refine Or.inl ⟨by rfl, ?_⟩; intro W hSw; (try dsimp only at hSw); go_simp; (try with_reducible rfl))
    try simp only [Act.put, List.setIfInBounds_toArray, List.set_cons_zero, List.set_cons_succ]
    refine wpAnyH_take (i := 7) (oi := ?oi8) (v := ?v8) ?hi8 (by kernel_rfl) (by kernel_rfl) (by kernel_rfl) ?hq8 ?hy8 (by assumption) ?rest8
    case hi8 => (simp only [List.getElem?_toArray, List.getElem?_cons_succ, List.getElem?_cons_zero]; rfl)
    case hq8 => exact fun _ _ _ h => h
    case hy8 => (refine Or.inl ⟨by rfl, ?_⟩; intro W hSw; (try dsimp only at hSw); go_simp; (try with_reducible rfl))
    try simp only [Act.put, List.setIfInBounds_toArray, List.set_cons_zero, List.set_cons_succ]
    refine wpAnyH_take (i := 8) (oi := ?oi9) (v := ?v9) ?hi9 (by kernel_rfl) (by kernel_rfl) (by kernel_rfl) ?hq9 ?hy9 (by assumption) ?rest9
    case hi9 => (simp only [List.getElem?_toArray, List.getElem?_cons_succ, List.getElem?_cons_zero]; rfl)
    case hq9 => exact fun _ _ _ h => h
    case hy9 => (refine Or.inl ⟨by rfl, ?_⟩; intro W hSw; (try dsimp only at hSw); go_simp; (try with_reducible rfl))
    try simp only [Act.put, List.setIfInBounds_toArray, List.set_cons_zero, List.set_cons_succ]
    refine wpAnyH_ready (rs := [9]) (by kernel_rfl) (by simp) ?_
    refine AllReadyH.cons (o := ?oi10) ?hi10 (fun K hK => ?hs10) AllReadyH.nil
    case hi10 => (simp only [List.getElem?_toArray, List.getElem?_cons_succ, List.getElem?_cons_zero]; rfl)
    go_simp
    refine (HR.out _).mono ?_
    rintro e w2 ⟨rfl, hb2⟩
    have hs2 := PkS.below HST.out.2.2.2.2 hb2
    go_wp2_with fail
    refine hK.out _ _ ?_ (fun hHeld2 => ?_)
    · exact hs2.all
    clear hK
    try simp only [Act.put, List.setIfInBounds_toArray, List.set_cons_zero, List.set_cons_succ]
    refine wpAnyH_take (i := 10) (oi := ?oi11) (v := ?v11) ?hi11 (by kernel_rfl) (by kernel_rfl) (by kernel_rfl) ?hq11 ?hy11 (by assumption) ?rest11
    case hi11 => (simp only [List.getElem?_toArray, List.getElem?_cons_succ, List.getElem?_cons_zero]; rfl)
    case hq11 => exact fun _ _ _ h => h
    case hy11 => (refine Or.inl ⟨by rfl, ?_⟩; intro W hSw; (try dsimp only at hSw); go_simp; (try with_reducible rfl))
    try simp only [Act.put, List.setIfInBounds_toArray, List.set_cons_zero, List.set_cons_succ]
    refine wpAnyH_take (i := 11) (oi := ?oi12) (v := ?v12) ?hi12 (by kernel_rfl) (by kernel_rfl) (by kernel_rfl) ?hq12 ?hy12 (by assumption) ?rest12
    case hi12 => (simp only [List.getElem?_toArray, List.getElem?_cons_succ, List.getElem?_cons_zero]; rfl)
    case hq12 => exact fun _ _ _ h => h
    case hy12 => (refine Or.inl ⟨by rfl, ?_⟩; intro W hSw; (try dsimp only at hSw); go_simp; (try with_reducible rfl))
    try simp only [Act.put, List.setIfInBounds_toArray, List.set_cons_zero, List.set_cons_succ]
    refine wpAnyH_take (i := 12) (oi := ?oi13) (v := ?v13) ?hi13 (by kernel_rfl) (by kernel_rfl) (by kernel_rfl) ?hq13 ?hy13 (by assumption) ?rest13
    case hi13 => (simp only [List.getElem?_toArray, List.getElem?_cons_succ, List.getElem?_cons_zero]; rfl)
    case hq13 => exact fun _ _ _ h => h
    case hy13 => (refine Or.inl ⟨by rfl, ?_⟩; intro W hSw; (try dsimp only at hSw); go_simp; (try with_reducible rfl))
    try simp only [Act.put, List.setIfInBounds_toArray, List.set_cons_zero, List.set_cons_succ]
    refine wpAnyH_take (i := 13) (oi := ?oi14) (v := undef) ?hi14 (by kernel_rfl) (by kernel_rfl) (by kernel_rfl) ?hq14 ?hy14 (by assumption) ?rest14
    case hi14 => (simp only [List.getElem?_toArray, List.getElem?_cons_succ, List.getElem?_cons_zero]; rfl)
    case hq14 => exact fun _ _ _ h => h
    case hy14 => exact Or.inr ⟨by rfl, rfl⟩
    try simp only [Act.put, List.setIfInBounds_toArray, List.set_cons_zero, List.set_cons_succ]
    refine wpAnyH_take (i := 14) (oi := ?oi15) (v := undef) ?hi15 (by kernel_rfl) (by kernel_rfl) (by kernel_rfl) ?hq15 ?hy15 (by assumption) ?rest15
    case hi15 => (simp only [List.getElem?_toArray, List.getElem?_cons_succ, List.getElem?_cons_zero]; rfl)
    case hq15 => exact fun _ _ _ h => h
    case hy15 => exact Or.inr ⟨by rfl, rfl⟩
    try simp only [Act.put, List.setIfInBounds_toArray, List.set_cons_zero, List.set_cons_succ]
    refine wpAnyH_take (i := 15) (oi := ?oi16) (v := undef) ?hi16 (by kernel_rfl) (by kernel_rfl) (by kernel_rfl) ?hq16 ?hy16 (by assumption) ?rest16
    case hi16 => (simp only [List.getElem?_toArray, List.getElem?_cons_succ, List.getElem?_cons_zero]; rfl)
    case hq16 => exact fun _ _ _ h => h
    case hy16 => exact Or.inr ⟨by rfl, rfl⟩
    try simp only [Act.put, List.setIfInBounds_toArray, List.set_cons_zero, List.set_cons_succ]
    refine wpAnyH_take (i := 16) (oi := ?oi17) (v := undef) ?hi17 (by kernel_rfl) (by kernel_rfl) (by kernel_rfl) ?hq17 ?hy17 (by assumption) ?rest17
    case hi17 => (simp only [List.getElem?_toArray, List.getElem?_cons_succ, List.getElem?_cons_zero]; rfl)
    case hq17 => exact fun _ _ _ h => h
    case hy17 => exact Or.inr ⟨by rfl, rfl⟩
    try simp only [Act.put, List.setIfInBounds_toArray, List.set_cons_zero, List.set_cons_succ]
    refine wpAnyH_take (i := 17) (oi := ?oi18) (v := undef) ?hi18 (by kernel_rfl) (by kernel_rfl) (by kernel_rfl) ?hq18 ?hy18 (by assumption) ?rest18
    case hi18 => (simp only [List.getElem?_toArray, List.getElem?_cons_succ, List.getElem?_cons_zero]; rfl)
    case hq18 => exact fun _ _ _ h => h
    case hy18 => exact Or.inr ⟨by rfl, rfl⟩
    try simp only [Act.put, List.setIfInBounds_toArray, List.set_cons_zero, List.set_cons_succ]
    refine wpAnyH_take (i := 18) (oi := ?oi19) (v := undef) ?hi19 (by kernel_rfl) (by kernel_rfl) (by kernel_rfl) ?hq19 ?hy19 (by assumption) ?rest19
    case hi19 => (simp only [List.getElem?_toArray, List.getElem?_cons_succ, List.getElem?_cons_zero]; rfl)
    case hq19 => exact fun _ _ _ h => h
    case hy19 => exact Or.inr ⟨by rfl, rfl⟩
    try simp only [Act.put, List.setIfInBounds_toArray, List.set_cons_zero, List.set_cons_succ]
    refine wpAnyH_take (i := 19) (oi := ?oi20) (v := ?v20) ?hi20 (by kernel_rfl) (by kernel_rfl) (by kernel_rfl) ?hq20 ?hy20 (by assumption) ?rest20
    case hi20 => (simp only [List.getElem?_toArray, List.getElem?_cons_succ, List.getElem?_cons_zero]; rfl)
    case hq20 => exact fun _ _ _ h => h
    case hy20 => (refine Or.inl ⟨by rfl, ?_⟩; intro W hSw; (try dsimp only at hSw); go_simp; (try with_reducible rfl))
    try simp only [Act.put, List.setIfInBounds_toArray, List.set_cons_zero, List.set_cons_succ]
    refine wpAnyH_take (i := 20) (oi := ?oi21) (v := ?v21) ?hi21 (by kernel_rfl) (by kernel_rfl) (by kernel_rfl) ?hq21 ?hy21 (by assumption) ?rest21
    case hi21 => (simp only [List.getElem?_toArray, List.getElem?_cons_succ, List.getElem?_cons_zero]; rfl)
    case hq21 => exact fun _ _ _ h => h
    case hy21 => (refine Or.inl ⟨by rfl, ?_⟩; intro W hSw; (try dsimp only at hSw); go_simp; (try with_reducible rfl))
    try simp only [Act.put, List.setIfInBounds_toArray, List.set_cons_zero, List.set_cons_succ]
    refine wpAnyH_take (i := 21) (oi := ?oi22) (v := undef) ?hi22 (by kernel_rfl) (by kernel_rfl) (by kernel_rfl) ?hq22 ?hy22 (by assumption) ?rest22
    case hi22 => (simp only [List.getElem?_toArray, List.getElem?_cons_succ, List.getElem?_cons_zero]; rfl)
    case hq22 => exact fun _ _ _ h => h
    case hy22 => exact Or.inr ⟨by rfl, rfl⟩
    try simp only [Act.put, List.setIfInBounds_toArray, List.set_cons_zero, List.set_cons_succ]
    refine wpAnyH_take (i := 22) (oi := ?oi23) (v := undef) ?hi23 (by kernel_rfl) (by kernel_rfl) (by kernel_rfl) ?hq23 ?hy23 (by assumption) ?rest23
    case hi23 => (simp only [List.getElem?_toArray, List.getElem?_cons_succ, List.getElem?_cons_zero]; rfl)
    case hq23 => exact fun _ _ _ h => h
    case hy23 => exact Or.inr ⟨by rfl, rfl⟩
    try simp only [Act.put, List.setIfInBounds_toArray, List.set_cons_zero, List.set_cons_succ]
    refine wpAnyH_take (i := 23) (oi := ?oi24) (v := undef) ?hi24 (by kernel_rfl) (by kernel_rfl) (by kernel_rfl) ?hq24 ?hy24 (by assumption) ?rest24
    case hi24 => (simp only [List.getElem?_toArray, List.getElem?_cons_succ, List.getElem?_cons_zero]; rfl)
    case hq24 => exact fun _ _ _ h => h
    case hy24 => exact Or.inr ⟨by rfl, rfl⟩
    try simp only [Act.put, List.setIfInBounds_toArray, List.set_cons_zero, List.set_cons_succ]
    refine wpAnyH_take (i := 24) (oi := ?oi25) (v := ?v25) ?hi25 (by kernel_rfl) (by kernel_rfl) (by kernel_rfl) ?hq25 ?hy25 (by assumption) ?rest25
    case hi25 => (simp only [List.getElem?_toArray, List.getElem?_cons_succ, List.getElem?_cons_zero]; rfl)
    case hq25 => exact fun _ _ _ h => h
    case hy25 => (refine Or.inl ⟨by rfl, ?_⟩; intro W hSw; (try dsimp only at hSw); go_simp; (try with_reducible rfl))
    try simp only [Act.put, List.setIfInBounds_toArray, List.set_cons_zero, List.set_cons_succ]
    have hs9 := hs2
    refine wpAnyH_done (by kernel_rfl) ?_ _
    refine NoPanic.normal ?_
    go_wp2
    exact PkS.out rfl rfl hs9 HV.out
  case pos =>
  have HRT := Lib.hid hR
  have hr := fun W => right_any ⟨ix, f, v⟩ W hfl
  rw [decide_eq_true hR] at hr
  have HR := Lib.hid hr
  unfold tkv at HR
  have HH := Lib.hid (fun W => head_any ⟨ix, f, v⟩ W hR)
  have hhl := head_len ⟨ix, f, v⟩ hR
  obtain ⟨hd, hhd⟩ : ∃ hd, hd = head ⟨ix, f, v⟩ := ⟨_, rfl⟩
  rw [← hhd] at HH HFT hhl
  have had := st_add hd s3 _ (by have := HS.out; have := HL1.out; have := HL2.out; have := HL3.out; omega) rfl
  obtain ⟨z, hz⟩ : ∃ z, z = hd ++ s3 := ⟨_, rfl⟩
  rw [← hz] at had HFT
  have HST := Lib.hid hst8.drew.all
  have HST8 := Lib.hid hst8
  clear hr hR hst8 hfl hhd hz hhl
  by_cases hzs : z = s
  case neg =>
    have HV := Lib.hid (pk_no (HPK.out.trans (if_neg (fun h => hzs (HFT.out.1 h).2.2.1))))
    have b0 : (z == s) = false := by rw [beq_eq_false_iff_ne]; exact hzs
    clear hzs
    refine wp_region_noPanic ?_
    refine wp_region_held_drew (S := (fun W => W.cell? ⟨w.heap.size, 0, none⟩ = some (.string ⟨s3.toArray⟩) ∧ W.cell? ⟨w.heap.size + 1, 0, none⟩ = some (.int .i64 ix) ∧ W.cell? ⟨w.heap.size + 1, 1, none⟩ = some (.string ⟨f.toArray⟩) ∧ W.cell? ⟨w.heap.size + 1, 2, none⟩ = some (.int .i64 v) ∧ PkS w W (.int .i64 ix) (.string ⟨f.toArray⟩) (.int .i64 v) s3)) (by kernel_rfl) ?_ (fun hHeld1 => ?_)
    · exact HST.out
    refine wpAnyH_take (i := 0) (oi := ?oi26) (v := ?v26) ?hi26 (by kernel_rfl) (by kernel_rfl) (by kernel_rfl) ?hq26 ?hy26 (by assumption) ?rest26
    case hi26 => (simp only [List.getElem?_toArray, List.getElem?_cons_succ, List.getElem?_cons_zero]; rfl)
    case hq26 => exact fun _ _ _ h => h
    case hy26 => (refine Or.inl ⟨by rfl, ?_⟩; intro W hSw; (try dsimp only at hSw); go_simp; (try with_reducible rfl))
    try simp only [Act.put, List.setIfInBounds_toArray, List.set_cons_zero, List.set_cons_succ]
    refine wpAnyH_take (i := 1) (oi := ?oi27) (v := ?v27) ?hi27 (by kernel_rfl) (by kernel_rfl) (by kernel_rfl) ?hq27 ?hy27 (by assumption) ?rest27
    case hi27 => (simp only [List.getElem?_toArray, List.getElem?_cons_succ, List.getElem?_cons_zero]; rfl)
    case hq27 => exact fun _ _ _ h => h
    case hy27 => (refine Or.inl ⟨by rfl, ?_⟩; intro W hSw; (try dsimp only at hSw); go_simp; (try with_reducible rfl))
    try simp only [Act.put, List.setIfInBounds_toArray, List.set_cons_zero, List.set_cons_succ]
    refine wpAnyH_take (i := 2) (oi := ?oi28) (v := ?v28) ?hi28 (by kernel_rfl) (by kernel_rfl) (by kernel_rfl) ?hq28 ?hy28 (by assumption) ?rest28
    case hi28 => (simp only [List.getElem?_toArray, List.getElem?_cons_succ, List.getElem?_cons_zero]; rfl)
    case hq28 => exact fun _ _ _ h => h
    case hy28 => (refine Or.inl ⟨by rfl, ?_⟩; intro W hSw; (try dsimp only at hSw); go_simp; (try with_reducible rfl))
    try simp only [Act.put, List.setIfInBounds_toArray, List.set_cons_zero, List.set_cons_succ]
    refine wpAnyH_take (i := 3) (oi := ?oi29) (v := ?v29) ?hi29 (by kernel_rfl) (by kernel_rfl) (by kernel_rfl) ?hq29 ?hy29 (by assumption) ?rest29
    case hi29 => (simp only [List.getElem?_toArray, List.getElem?_cons_succ, List.getElem?_cons_zero]; rfl)
    case hq29 => exact fun _ _ _ h => h
    case hy29 => (refine Or.inl ⟨by rfl, ?_⟩; intro W hSw; (try dsimp only at hSw); go_simp; (try with_reducible rfl))
    try simp only [Act.put, List.setIfInBounds_toArray, List.set_cons_zero, List.set_cons_succ]
    refine wpAnyH_take (i := 4) (oi := ?oi30) (v := ?v30) ?hi30 (by kernel_rfl) (by kernel_rfl) (by kernel_rfl) ?hq30 ?hy30 (by assumption) ?rest30
    case hi30 => (simp only [List.getElem?_toArray, List.getElem?_cons_succ, List.getElem?_cons_zero]; rfl)
    case hq30 => exact fun _ _ _ h => h
    case hy30 => (refine Or.inl ⟨by rfl, ?_⟩; intro W hSw; (try dsimp only at hSw); go_simp; (try with_reducible rfl))
    try simp only [Act.put, List.setIfInBounds_toArray, List.set_cons_zero, List.set_cons_succ]
    refine wpAnyH_take (i := 5) (oi := ?oi31) (v := ?v31) ?hi31 (by kernel_rfl) (by kernel_rfl) (by kernel_rfl) ?hq31 ?hy31 (by assumption) ?rest31
    case hi31 => (simp only [List.getElem?_toArray, List.getElem?_cons_succ, List.getElem?_cons_zero]; rfl)
    case hq31 => exact fun _ _ _ h => h
    case hy31 => (refine Or.inl ⟨by rfl, ?_⟩; intro W hSw; (try dsimp only at hSw); go_simp; (try with_reducible rfl))
    try simp only [Act.put, List.setIfInBounds_toArray, List.set_cons_zero, List.set_cons_succ]
    refine wpAnyH_take (i := 6) (oi := ?oi32) (v := ?v32) ?hi32 (by kernel_rfl) (by kernel_rfl) (by kernel_rfl) ?hq32 ?hy32 (by assumption) ?rest32
    case hi32 => (simp only [List.getElem?_toArray, List.getElem?_cons_succ, List.getElem?_cons_zero]; rfl)
    case hq32 => exact fun _ _ _ h => h
    case hy32 => (refine Or.inl ⟨by rfl, ?_⟩; intro W hSw; (try dsimp only at hSw); go_simp; (try with_reducible rfl))
    try simp only [Act.put, List.setIfInBounds_toArray, List.set_cons_zero, List.set_cons_succ]
    refine wpAnyH_take (i := 7) (oi := ?oi33) (v := ?v33) ?hi33 (by kernel_rfl) (by kernel_rfl) (by kernel_rfl) ?hq33 ?hy33 (by assumption) ?rest33
    case hi33 => (simp only [List.getElem?_toArray, List.getElem?_cons_succ, List.getElem?_cons_zero]; rfl)
    case hq33 => exact fun _ _ _ h => h
    case hy33 => (refine Or.inl ⟨by rfl, ?_⟩; intro W hSw; (try dsimp only at hSw); go_simp; (try with_reducible rfl))
    try simp only [Act.put, List.setIfInBounds_toArray, List.set_cons_zero, List.set_cons_succ]
    refine wpAnyH_take (i := 8) (oi := ?oi34) (v := ?v34) ?hi34 (by kernel_rfl) (by kernel_rfl) (by kernel_rfl) ?hq34 ?hy34 (by assumption) ?rest34
    case hi34 => (simp only [List.getElem?_toArray, List.getElem?_cons_succ, List.getElem?_cons_zero]; rfl)
    case hq34 => exact fun _ _ _ h => h
    case hy34 => (refine Or.inl ⟨by rfl, ?_⟩; intro W hSw; (try dsimp only at hSw); go_simp; (try with_reducible rfl))
    try simp only [Act.put, List.setIfInBounds_toArray, List.set_cons_zero, List.set_cons_succ]
    refine wpAnyH_ready (rs := [9]) (by kernel_rfl) (by simp) ?_
    refine AllReadyH.cons (o := ?oi35) ?hi35 (fun K hK => ?hs35) AllReadyH.nil
    case hi35 => (simp only [List.getElem?_toArray, List.getElem?_cons_succ, List.getElem?_cons_zero]; rfl)
    go_simp
    refine (HR.out _).mono ?_
    rintro e w2 ⟨rfl, hb2⟩
    have hs2 := PkS.below HST.out.2.2.2.2 hb2
    go_wp2_with fail
    refine hK.out _ _ ?_ (fun hHeld2 => ?_)
    · exact hs2.all
    clear hK
    try simp only [Act.put, List.setIfInBounds_toArray, List.set_cons_zero, List.set_cons_succ]
    refine wpAnyH_take (i := 10) (oi := ?oi36) (v := ?v36) ?hi36 (by kernel_rfl) (by kernel_rfl) (by kernel_rfl) ?hq36 ?hy36 (by assumption) ?rest36
    case hi36 => (simp only [List.getElem?_toArray, List.getElem?_cons_succ, List.getElem?_cons_zero]; rfl)
    case hq36 => exact fun _ _ _ h => h
    case hy36 => (refine Or.inl ⟨by rfl, ?_⟩; intro W hSw; (try dsimp only at hSw); go_simp; (try with_reducible rfl))
    try simp only [Act.put, List.setIfInBounds_toArray, List.set_cons_zero, List.set_cons_succ]
    refine wpAnyH_take (i := 11) (oi := ?oi37) (v := ?v37) ?hi37 (by kernel_rfl) (by kernel_rfl) (by kernel_rfl) ?hq37 ?hy37 (by assumption) ?rest37
    case hi37 => (simp only [List.getElem?_toArray, List.getElem?_cons_succ, List.getElem?_cons_zero]; rfl)
    case hq37 => exact fun _ _ _ h => h
    case hy37 => (refine Or.inl ⟨by rfl, ?_⟩; intro W hSw; (try dsimp only at hSw); go_simp; (try with_reducible rfl))
    try simp only [Act.put, List.setIfInBounds_toArray, List.set_cons_zero, List.set_cons_succ]
    refine wpAnyH_take (i := 12) (oi := ?oi38) (v := ?v38) ?hi38 (by kernel_rfl) (by kernel_rfl) (by kernel_rfl) ?hq38 ?hy38 (by assumption) ?rest38
    case hi38 => (simp only [List.getElem?_toArray, List.getElem?_cons_succ, List.getElem?_cons_zero]; rfl)
    case hq38 => exact fun _ _ _ h => h
    case hy38 => (refine Or.inl ⟨by rfl, ?_⟩; intro W hSw; (try dsimp only at hSw); go_simp; (try with_reducible rfl))
    try simp only [Act.put, List.setIfInBounds_toArray, List.set_cons_zero, List.set_cons_succ]
    refine wpAnyH_take (i := 13) (oi := ?oi39) (v := ?v39) ?hi39 (by kernel_rfl) (by kernel_rfl) (by kernel_rfl) ?hq39 ?hy39 (by assumption) ?rest39
    case hi39 => (simp only [List.getElem?_toArray, List.getElem?_cons_succ, List.getElem?_cons_zero]; rfl)
    case hq39 => exact fun _ _ _ h => h
    case hy39 => (refine Or.inl ⟨by rfl, ?_⟩; intro W hSw; (try dsimp only at hSw); go_simp; (try with_reducible rfl))
    try simp only [Act.put, List.setIfInBounds_toArray, List.set_cons_zero, List.set_cons_succ]
    refine wpAnyH_take (i := 15) (oi := ?oi40) (v := ?v40) ?hi40 (by kernel_rfl) (by kernel_rfl) (by kernel_rfl) ?hq40 ?hy40 (by assumption) ?rest40
    case hi40 => (simp only [List.getElem?_toArray, List.getElem?_cons_succ, List.getElem?_cons_zero]; rfl)
    case hq40 => exact fun _ _ _ h => h
    case hy40 => (refine Or.inl ⟨by rfl, ?_⟩; intro W hSw; (try dsimp only at hSw); go_simp; (try with_reducible rfl))
    try simp only [Act.put, List.setIfInBounds_toArray, List.set_cons_zero, List.set_cons_succ]
    refine wpAnyH_take (i := 17) (oi := ?oi41) (v := ?v41) ?hi41 (by kernel_rfl) (by kernel_rfl) (by kernel_rfl) ?hq41 ?hy41 (by assumption) ?rest41
    case hi41 => (simp only [List.getElem?_toArray, List.getElem?_cons_succ, List.getElem?_cons_zero]; rfl)
    case hq41 => exact fun _ _ _ h => h
    case hy41 => (refine Or.inl ⟨by rfl, ?_⟩; intro W hSw; (try dsimp only at hSw); go_simp; (try with_reducible rfl))
    try simp only [Act.put, List.setIfInBounds_toArray, List.set_cons_zero, List.set_cons_succ]
    refine wpAnyH_ready (rs := [14]) (by kernel_rfl) (by simp) ?_
    refine AllReadyH.cons (o := ?oi42) ?hi42 (fun K hK => ?hs42) AllReadyH.nil
    case hi42 => (simp only [List.getElem?_toArray, List.getElem?_cons_succ, List.getElem?_cons_zero]; rfl)
    go_simp
    refine (HH.out _ (PkS.tabs hs2 hL.out)).mono ?_
    rintro e w4 ⟨rfl, hb4⟩
    have hs4 := PkS.below hs2 hb4
    go_wp2_with fail
    refine hK.out _ _ ?_ (fun hHeld2 => ?_)
    · exact hs4.all
    clear hK
    try simp only [Act.put, List.setIfInBounds_toArray, List.set_cons_zero, List.set_cons_succ]
    refine wpAnyH_take (i := 16) (oi := ?oi43) (v := ?v43) ?hi43 (by kernel_rfl) (by kernel_rfl) (by kernel_rfl) ?hq43 ?hy43 (by assumption) ?rest43
    case hi43 => (simp only [List.getElem?_toArray, List.getElem?_cons_succ, List.getElem?_cons_zero]; rfl)
    case hq43 => exact fun _ _ _ h => h
    case hy43 => (refine Or.inl ⟨by rfl, ?_⟩; intro W hSw; (try dsimp only at hSw); go_simp; (try with_reducible rfl))
    try simp only [Act.put, List.setIfInBounds_toArray, List.set_cons_zero, List.set_cons_succ]
    refine wpAnyH_take (i := 18) (oi := ?oi44) (v := ?v44) ?hi44 (by kernel_rfl) (by kernel_rfl) (by kernel_rfl) ?hq44 ?hy44 (by assumption) ?rest44
    case hi44 => (simp only [List.getElem?_toArray, List.getElem?_cons_succ, List.getElem?_cons_zero]; rfl)
    case hq44 => exact fun _ _ _ h => h
    case hy44 => (refine Or.inl ⟨by rfl, ?_⟩; intro W hSw; (try dsimp only at hSw); go_simp; (try with_reducible rfl))
    try simp only [Act.put, List.setIfInBounds_toArray, List.set_cons_zero, List.set_cons_succ]
    refine wpAnyH_take (i := 19) (oi := ?oi45) (v := ?v45) ?hi45 (by kernel_rfl) (by kernel_rfl) (by kernel_rfl) ?hq45 ?hy45 (by assumption) ?rest45
    case hi45 => (simp only [List.getElem?_toArray, List.getElem?_cons_succ, List.getElem?_cons_zero]; rfl)
    case hq45 => exact fun _ _ _ h => h
    case hy45 => (refine Or.inl ⟨by rfl, ?_⟩; intro W hSw; (try dsimp only at hSw); go_simp; (try with_reducible rfl))
    try simp only [Act.put, List.setIfInBounds_toArray, List.set_cons_zero, List.set_cons_succ]
    refine wpAnyH_take (i := 20) (oi := ?oi46) (v := ?v46) ?hi46 (by kernel_rfl) (by kernel_rfl) (by kernel_rfl) ?hq46 ?hy46 (by assumption) ?rest46
    case hi46 => (simp only [List.getElem?_toArray, List.getElem?_cons_succ, List.getElem?_cons_zero]; rfl)
    case hq46 => exact fun _ _ _ h => h
    case hy46 => (refine Or.inl ⟨by rfl, ?_⟩; intro W hSw; (try dsimp only at hSw); go_simp; (try with_reducible rfl))
    try simp only [Act.put, List.setIfInBounds_toArray, List.set_cons_zero, List.set_cons_succ]
    refine wpAnyH_take (i := 21) (oi := ?oi47) (v := undef) ?hi47 (by kernel_rfl) (by kernel_rfl) (by kernel_rfl) ?hq47 ?hy47 (by assumption) ?rest47
    case hi47 => (simp only [List.getElem?_toArray, List.getElem?_cons_succ, List.getElem?_cons_zero]; rfl)
    case hq47 => exact fun _ _ _ h => h
    case hy47 => exact Or.inr ⟨by rfl, rfl⟩
    try simp only [Act.put, List.setIfInBounds_toArray, List.set_cons_zero, List.set_cons_succ]
    refine wpAnyH_take (i := 22) (oi := ?oi48) (v := undef) ?hi48 (by kernel_rfl) (by kernel_rfl) (by kernel_rfl) ?hq48 ?hy48 (by assumption) ?rest48
    case hi48 => (simp only [List.getElem?_toArray, List.getElem?_cons_succ, List.getElem?_cons_zero]; rfl)
    case hq48 => exact fun _ _ _ h => h
    case hy48 => exact Or.inr ⟨by rfl, rfl⟩
    try simp only [Act.put, List.setIfInBounds_toArray, List.set_cons_zero, List.set_cons_succ]
    refine wpAnyH_take (i := 23) (oi := ?oi49) (v := undef) ?hi49 (by kernel_rfl) (by kernel_rfl) (by kernel_rfl) ?hq49 ?hy49 (by assumption) ?rest49
    case hi49 => (simp only [List.getElem?_toArray, List.getElem?_cons_succ, List.getElem?_cons_zero]; rfl)
    case hq49 => exact fun _ _ _ h => h
    case hy49 => exact Or.inr ⟨by rfl, rfl⟩
    try simp only [Act.put, List.setIfInBounds_toArray, List.set_cons_zero, List.set_cons_succ]
    refine wpAnyH_take (i := 24) (oi := ?oi50) (v := ?v50) ?hi50 (by kernel_rfl) (by kernel_rfl) (by kernel_rfl) ?hq50 ?hy50 (by assumption) ?rest50
    case hi50 => (simp only [List.getElem?_toArray, List.getElem?_cons_succ, List.getElem?_cons_zero]; rfl)
    case hq50 => exact fun _ _ _ h => h
    case hy50 => (refine Or.inl ⟨by rfl, ?_⟩; intro W hSw; (try dsimp only at hSw); go_simp; (try with_reducible rfl))
    try simp only [Act.put, List.setIfInBounds_toArray, List.set_cons_zero, List.set_cons_succ]
    have hs9 := hs4
    refine wpAnyH_done (by kernel_rfl) ?_ _
    refine NoPanic.normal ?_
    go_wp2
    exact PkS.out rfl rfl hs9 HV.out
  case pos =>
  have b0 : (z == s) = true := by rw [hzs]; simp
  have HZS := Lib.hid hzs
  clear hzs
  have hs3 := st_size s3
  by_cases h16 : s3.length = 16
  case neg =>
    have HV := Lib.hid (pk_no (HPK.out.trans (if_neg (fun h => h16 (HFT.out.1 h).2.2.2.1))))
    have d0 : ((s3.length : Int) == 16) = false := by rw [beq_eq_false_iff_ne]; omega
    have d1 : ((s3.length : Int) != 16) = true := by rw [bne, d0]; rfl
    clear h16
    refine wp_region_noPanic ?_
    refine wp_region_held_drew (S := (fun W => W.cell? ⟨w.heap.size, 0, none⟩ = some (.string ⟨s3.toArray⟩) ∧ W.cell? ⟨w.heap.size + 1, 0, none⟩ = some (.int .i64 ix) ∧ W.cell? ⟨w.heap.size + 1, 1, none⟩ = some (.string ⟨f.toArray⟩) ∧ W.cell? ⟨w.heap.size + 1, 2, none⟩ = some (.int .i64 v) ∧ PkS w W (.int .i64 ix) (.string ⟨f.toArray⟩) (.int .i64 v) s3)) (by kernel_rfl) ?_ (fun hHeld1 => ?_)
    · exact HST.out
    refine wpAnyH_take (i := 0) (oi := ?oi51) (v := ?v51) ?hi51 (by kernel_rfl) (by kernel_rfl) (by kernel_rfl) ?hq51 ?hy51 (by assumption) ?rest51
    case hi51 => (simp only [List.getElem?_toArray, List.getElem?_cons_succ, List.getElem?_cons_zero]; rfl)
    case hq51 => exact fun _ _ _ h => h
    case hy51 => (refine Or.inl ⟨by rfl, ?_⟩; intro W hSw; (try dsimp only at hSw); go_simp; (try with_reducible rfl))
    try simp only [Act.put, List.setIfInBounds_toArray, List.set_cons_zero, List.set_cons_succ]
    refine wpAnyH_take (i := 1) (oi := ?oi52) (v := ?v52) ?hi52 (by kernel_rfl) (by kernel_rfl) (by kernel_rfl) ?hq52 ?hy52 (by assumption) ?rest52
    case hi52 => (simp only [List.getElem?_toArray, List.getElem?_cons_succ, List.getElem?_cons_zero]; rfl)
    case hq52 => exact fun _ _ _ h => h
    case hy52 => (refine Or.inl ⟨by rfl, ?_⟩; intro W hSw; (try dsimp only at hSw); go_simp; (try with_reducible rfl))
    try simp only [Act.put, List.setIfInBounds_toArray, List.set_cons_zero, List.set_cons_succ]
    refine wpAnyH_take (i := 2) (oi := ?oi53) (v := ?v53) ?hi53 (by kernel_rfl) (by kernel_rfl) (by kernel_rfl) ?hq53 ?hy53 (by assumption) ?rest53
    case hi53 => (simp only [List.getElem?_toArray, List.getElem?_cons_succ, List.getElem?_cons_zero]; rfl)
    case hq53 => exact fun _ _ _ h => h
    case hy53 => (refine Or.inl ⟨by rfl, ?_⟩; intro W hSw; (try dsimp only at hSw); go_simp; (try with_reducible rfl))
    try simp only [Act.put, List.setIfInBounds_toArray, List.set_cons_zero, List.set_cons_succ]
    refine wpAnyH_take (i := 3) (oi := ?oi54) (v := ?v54) ?hi54 (by kernel_rfl) (by kernel_rfl) (by kernel_rfl) ?hq54 ?hy54 (by assumption) ?rest54
    case hi54 => (simp only [List.getElem?_toArray, List.getElem?_cons_succ, List.getElem?_cons_zero]; rfl)
    case hq54 => exact fun _ _ _ h => h
    case hy54 => (refine Or.inl ⟨by rfl, ?_⟩; intro W hSw; (try dsimp only at hSw); go_simp; (try with_reducible rfl))
    try simp only [Act.put, List.setIfInBounds_toArray, List.set_cons_zero, List.set_cons_succ]
    refine wpAnyH_take (i := 4) (oi := ?oi55) (v := ?v55) ?hi55 (by kernel_rfl) (by kernel_rfl) (by kernel_rfl) ?hq55 ?hy55 (by assumption) ?rest55
    case hi55 => (simp only [List.getElem?_toArray, List.getElem?_cons_succ, List.getElem?_cons_zero]; rfl)
    case hq55 => exact fun _ _ _ h => h
    case hy55 => (refine Or.inl ⟨by rfl, ?_⟩; intro W hSw; (try dsimp only at hSw); go_simp; (try with_reducible rfl))
    try simp only [Act.put, List.setIfInBounds_toArray, List.set_cons_zero, List.set_cons_succ]
    refine wpAnyH_take (i := 5) (oi := ?oi56) (v := ?v56) ?hi56 (by kernel_rfl) (by kernel_rfl) (by kernel_rfl) ?hq56 ?hy56 (by assumption) ?rest56
    case hi56 => (simp only [List.getElem?_toArray, List.getElem?_cons_succ, List.getElem?_cons_zero]; rfl)
    case hq56 => exact fun _ _ _ h => h
    case hy56 => (refine Or.inl ⟨by rfl, ?_⟩; intro W hSw; (try dsimp only at hSw); go_simp; (try with_reducible rfl))
    try simp only [Act.put, List.setIfInBounds_toArray, List.set_cons_zero, List.set_cons_succ]
    refine wpAnyH_take (i := 6) (oi := ?oi57) (v := ?v57) ?hi57 (by kernel_rfl) (by kernel_rfl) (by kernel_rfl) ?hq57 ?hy57 (by assumption) ?rest57
    case hi57 => (simp only [List.getElem?_toArray, List.getElem?_cons_succ, List.getElem?_cons_zero]; rfl)
    case hq57 => exact fun _ _ _ h => h
    case hy57 => (refine Or.inl ⟨by rfl, ?_⟩; intro W hSw; (try dsimp only at hSw); go_simp; (try with_reducible rfl))
    try simp only [Act.put, List.setIfInBounds_toArray, List.set_cons_zero, List.set_cons_succ]
    refine wpAnyH_take (i := 7) (oi := ?oi58) (v := ?v58) ?hi58 (by kernel_rfl) (by kernel_rfl) (by kernel_rfl) ?hq58 ?hy58 (by assumption) ?rest58
    case hi58 => (simp only [List.getElem?_toArray, List.getElem?_cons_succ, List.getElem?_cons_zero]; rfl)
    case hq58 => exact fun _ _ _ h => h
    case hy58 => (refine Or.inl ⟨by rfl, ?_⟩; intro W hSw; (try dsimp only at hSw); go_simp; (try with_reducible rfl))
    try simp only [Act.put, List.setIfInBounds_toArray, List.set_cons_zero, List.set_cons_succ]
    refine wpAnyH_take (i := 8) (oi := ?oi59) (v := ?v59) ?hi59 (by kernel_rfl) (by kernel_rfl) (by kernel_rfl) ?hq59 ?hy59 (by assumption) ?rest59
    case hi59 => (simp only [List.getElem?_toArray, List.getElem?_cons_succ, List.getElem?_cons_zero]; rfl)
    case hq59 => exact fun _ _ _ h => h
    case hy59 => (refine Or.inl ⟨by rfl, ?_⟩; intro W hSw; (try dsimp only at hSw); go_simp; (try with_reducible rfl))
    try simp only [Act.put, List.setIfInBounds_toArray, List.set_cons_zero, List.set_cons_succ]
    refine wpAnyH_ready (rs := [9]) (by kernel_rfl) (by simp) ?_
    refine AllReadyH.cons (o := ?oi60) ?hi60 (fun K hK => ?hs60) AllReadyH.nil
    case hi60 => (simp only [List.getElem?_toArray, List.getElem?_cons_succ, List.getElem?_cons_zero]; rfl)
    go_simp
    refine (HR.out _).mono ?_
    rintro e w2 ⟨rfl, hb2⟩
    have hs2 := PkS.below HST.out.2.2.2.2 hb2
    go_wp2_with fail
    refine hK.out _ _ ?_ (fun hHeld2 => ?_)
    · exact hs2.all
    clear hK
    try simp only [Act.put, List.setIfInBounds_toArray, List.set_cons_zero, List.set_cons_succ]
    refine wpAnyH_take (i := 10) (oi := ?oi61) (v := ?v61) ?hi61 (by kernel_rfl) (by kernel_rfl) (by kernel_rfl) ?hq61 ?hy61 (by assumption) ?rest61
    case hi61 => (simp only [List.getElem?_toArray, List.getElem?_cons_succ, List.getElem?_cons_zero]; rfl)
    case hq61 => exact fun _ _ _ h => h
    case hy61 => (refine Or.inl ⟨by rfl, ?_⟩; intro W hSw; (try dsimp only at hSw); go_simp; (try with_reducible rfl))
    try simp only [Act.put, List.setIfInBounds_toArray, List.set_cons_zero, List.set_cons_succ]
    refine wpAnyH_take (i := 11) (oi := ?oi62) (v := ?v62) ?hi62 (by kernel_rfl) (by kernel_rfl) (by kernel_rfl) ?hq62 ?hy62 (by assumption) ?rest62
    case hi62 => (simp only [List.getElem?_toArray, List.getElem?_cons_succ, List.getElem?_cons_zero]; rfl)
    case hq62 => exact fun _ _ _ h => h
    case hy62 => (refine Or.inl ⟨by rfl, ?_⟩; intro W hSw; (try dsimp only at hSw); go_simp; (try with_reducible rfl))
    try simp only [Act.put, List.setIfInBounds_toArray, List.set_cons_zero, List.set_cons_succ]
    refine wpAnyH_take (i := 12) (oi := ?oi63) (v := ?v63) ?hi63 (by kernel_rfl) (by kernel_rfl) (by kernel_rfl) ?hq63 ?hy63 (by assumption) ?rest63
    case hi63 => (simp only [List.getElem?_toArray, List.getElem?_cons_succ, List.getElem?_cons_zero]; rfl)
    case hq63 => exact fun _ _ _ h => h
    case hy63 => (refine Or.inl ⟨by rfl, ?_⟩; intro W hSw; (try dsimp only at hSw); go_simp; (try with_reducible rfl))
    try simp only [Act.put, List.setIfInBounds_toArray, List.set_cons_zero, List.set_cons_succ]
    refine wpAnyH_take (i := 13) (oi := ?oi64) (v := ?v64) ?hi64 (by kernel_rfl) (by kernel_rfl) (by kernel_rfl) ?hq64 ?hy64 (by assumption) ?rest64
    case hi64 => (simp only [List.getElem?_toArray, List.getElem?_cons_succ, List.getElem?_cons_zero]; rfl)
    case hq64 => exact fun _ _ _ h => h
    case hy64 => (refine Or.inl ⟨by rfl, ?_⟩; intro W hSw; (try dsimp only at hSw); go_simp; (try with_reducible rfl))
    try simp only [Act.put, List.setIfInBounds_toArray, List.set_cons_zero, List.set_cons_succ]
    refine wpAnyH_take (i := 15) (oi := ?oi65) (v := ?v65) ?hi65 (by kernel_rfl) (by kernel_rfl) (by kernel_rfl) ?hq65 ?hy65 (by assumption) ?rest65
    case hi65 => (simp only [List.getElem?_toArray, List.getElem?_cons_succ, List.getElem?_cons_zero]; rfl)
    case hq65 => exact fun _ _ _ h => h
    case hy65 => (refine Or.inl ⟨by rfl, ?_⟩; intro W hSw; (try dsimp only at hSw); go_simp; (try with_reducible rfl))
    try simp only [Act.put, List.setIfInBounds_toArray, List.set_cons_zero, List.set_cons_succ]
    refine wpAnyH_take (i := 17) (oi := ?oi66) (v := ?v66) ?hi66 (by kernel_rfl) (by kernel_rfl) (by kernel_rfl) ?hq66 ?hy66 (by assumption) ?rest66
    case hi66 => (simp only [List.getElem?_toArray, List.getElem?_cons_succ, List.getElem?_cons_zero]; rfl)
    case hq66 => exact fun _ _ _ h => h
    case hy66 => (refine Or.inl ⟨by rfl, ?_⟩; intro W hSw; (try dsimp only at hSw); go_simp; (try with_reducible rfl))
    try simp only [Act.put, List.setIfInBounds_toArray, List.set_cons_zero, List.set_cons_succ]
    refine wpAnyH_ready (rs := [14]) (by kernel_rfl) (by simp) ?_
    refine AllReadyH.cons (o := ?oi67) ?hi67 (fun K hK => ?hs67) AllReadyH.nil
    case hi67 => (simp only [List.getElem?_toArray, List.getElem?_cons_succ, List.getElem?_cons_zero]; rfl)
    go_simp
    refine (HH.out _ (PkS.tabs hs2 hL.out)).mono ?_
    rintro e w4 ⟨rfl, hb4⟩
    have hs4 := PkS.below hs2 hb4
    go_wp2_with fail
    refine hK.out _ _ ?_ (fun hHeld2 => ?_)
    · exact hs4.all
    clear hK
    try simp only [Act.put, List.setIfInBounds_toArray, List.set_cons_zero, List.set_cons_succ]
    refine wpAnyH_take (i := 16) (oi := ?oi68) (v := ?v68) ?hi68 (by kernel_rfl) (by kernel_rfl) (by kernel_rfl) ?hq68 ?hy68 (by assumption) ?rest68
    case hi68 => (simp only [List.getElem?_toArray, List.getElem?_cons_succ, List.getElem?_cons_zero]; rfl)
    case hq68 => exact fun _ _ _ h => h
    case hy68 => (refine Or.inl ⟨by rfl, ?_⟩; intro W hSw; (try dsimp only at hSw); go_simp; (try with_reducible rfl))
    try simp only [Act.put, List.setIfInBounds_toArray, List.set_cons_zero, List.set_cons_succ]
    refine wpAnyH_take (i := 18) (oi := ?oi69) (v := ?v69) ?hi69 (by kernel_rfl) (by kernel_rfl) (by kernel_rfl) ?hq69 ?hy69 (by assumption) ?rest69
    case hi69 => (simp only [List.getElem?_toArray, List.getElem?_cons_succ, List.getElem?_cons_zero]; rfl)
    case hq69 => exact fun _ _ _ h => h
    case hy69 => (refine Or.inl ⟨by rfl, ?_⟩; intro W hSw; (try dsimp only at hSw); go_simp; (try with_reducible rfl))
    try simp only [Act.put, List.setIfInBounds_toArray, List.set_cons_zero, List.set_cons_succ]
    refine wpAnyH_take (i := 19) (oi := ?oi70) (v := ?v70) ?hi70 (by kernel_rfl) (by kernel_rfl) (by kernel_rfl) ?hq70 ?hy70 (by assumption) ?rest70
    case hi70 => (simp only [List.getElem?_toArray, List.getElem?_cons_succ, List.getElem?_cons_zero]; rfl)
    case hq70 => exact fun _ _ _ h => h
    case hy70 => (refine Or.inl ⟨by rfl, ?_⟩; intro W hSw; (try dsimp only at hSw); go_simp; (try with_reducible rfl))
    try simp only [Act.put, List.setIfInBounds_toArray, List.set_cons_zero, List.set_cons_succ]
    refine wpAnyH_take (i := 20) (oi := ?oi71) (v := ?v71) ?hi71 (by kernel_rfl) (by kernel_rfl) (by kernel_rfl) ?hq71 ?hy71 (by assumption) ?rest71
    case hi71 => (simp only [List.getElem?_toArray, List.getElem?_cons_succ, List.getElem?_cons_zero]; rfl)
    case hq71 => exact fun _ _ _ h => h
    case hy71 => (refine Or.inl ⟨by rfl, ?_⟩; intro W hSw; (try dsimp only at hSw); go_simp; (try with_reducible rfl))
    try simp only [Act.put, List.setIfInBounds_toArray, List.set_cons_zero, List.set_cons_succ]
    refine wpAnyH_take (i := 21) (oi := ?oi72) (v := ?v72) ?hi72 (by kernel_rfl) (by kernel_rfl) (by kernel_rfl) ?hq72 ?hy72 (by assumption) ?rest72
    case hi72 => (simp only [List.getElem?_toArray, List.getElem?_cons_succ, List.getElem?_cons_zero]; rfl)
    case hq72 => exact fun _ _ _ h => h
    case hy72 => (refine Or.inl ⟨by rfl, ?_⟩; intro W hSw; (try dsimp only at hSw); go_simp; (try with_reducible rfl))
    try simp only [Act.put, List.setIfInBounds_toArray, List.set_cons_zero, List.set_cons_succ]
    refine wpAnyH_take (i := 22) (oi := ?oi73) (v := ?v73) ?hi73 (by kernel_rfl) (by kernel_rfl) (by kernel_rfl) ?hq73 ?hy73 (by assumption) ?rest73
    case hi73 => (simp only [List.getElem?_toArray, List.getElem?_cons_succ, List.getElem?_cons_zero]; rfl)
    case hq73 => exact fun _ _ _ h => h
    case hy73 => (refine Or.inl ⟨by rfl, ?_⟩; intro W hSw; (try dsimp only at hSw); go_simp; (try with_reducible rfl))
    try simp only [Act.put, List.setIfInBounds_toArray, List.set_cons_zero, List.set_cons_succ]
    refine wpAnyH_take (i := 23) (oi := ?oi74) (v := ?v74) ?hi74 (by kernel_rfl) (by kernel_rfl) (by kernel_rfl) ?hq74 ?hy74 (by assumption) ?rest74
    case hi74 => (simp only [List.getElem?_toArray, List.getElem?_cons_succ, List.getElem?_cons_zero]; rfl)
    case hq74 => exact fun _ _ _ h => h
    case hy74 => (refine Or.inl ⟨by rfl, ?_⟩; intro W hSw; (try dsimp only at hSw); go_simp; (try with_reducible rfl))
    try simp only [Act.put, List.setIfInBounds_toArray, List.set_cons_zero, List.set_cons_succ]
    refine wpAnyH_take (i := 24) (oi := ?oi75) (v := ?v75) ?hi75 (by kernel_rfl) (by kernel_rfl) (by kernel_rfl) ?hq75 ?hy75 (by assumption) ?rest75
    case hi75 => (simp only [List.getElem?_toArray, List.getElem?_cons_succ, List.getElem?_cons_zero]; rfl)
    case hq75 => exact fun _ _ _ h => h
    case hy75 => (refine Or.inl ⟨by rfl, ?_⟩; intro W hSw; (try dsimp only at hSw); go_simp; (try with_reducible rfl))
    try simp only [Act.put, List.setIfInBounds_toArray, List.set_cons_zero, List.set_cons_succ]
    have hs9 := hs4
    refine wpAnyH_done (by kernel_rfl) ?_ _
    refine NoPanic.normal ?_
    go_wp2
    exact PkS.out rfl rfl hs9 HV.out
  case pos =>
  have d0 : ((s3.length : Int) == 16) = true := by rw [h16]; rfl
  have d1 : ((s3.length : Int) != 16) = false := by rw [h16]; rfl
  have H16 := Lib.hid h16
  have hle : s3.length ≤ 16 := by omega
  clear h16
  refine wp_region_noPanic ?_
  refine wp_region_held_drew (S := (fun W => W.cell? ⟨w.heap.size, 0, none⟩ = some (.string ⟨s3.toArray⟩) ∧ W.cell? ⟨w.heap.size + 1, 0, none⟩ = some (.int .i64 ix) ∧ W.cell? ⟨w.heap.size + 1, 1, none⟩ = some (.string ⟨f.toArray⟩) ∧ W.cell? ⟨w.heap.size + 1, 2, none⟩ = some (.int .i64 v) ∧ PkS w W (.int .i64 ix) (.string ⟨f.toArray⟩) (.int .i64 v) s3)) (by kernel_rfl) ?_ (fun hHeld1 => ?_)
  · exact HST.out
  refine wpAnyH_take (i := 0) (oi := ?oi76) (v := ?v76) ?hi76 (by kernel_rfl) (by kernel_rfl) (by kernel_rfl) ?hq76 ?hy76 (by assumption) ?rest76
  case hi76 => (simp only [List.getElem?_toArray, List.getElem?_cons_succ, List.getElem?_cons_zero]; rfl)
  case hq76 => exact fun _ _ _ h => h
  case hy76 => (refine Or.inl ⟨by rfl, ?_⟩; intro W hSw; (try dsimp only at hSw); go_simp; (try with_reducible rfl))
  try simp only [Act.put, List.setIfInBounds_toArray, List.set_cons_zero, List.set_cons_succ]
  refine wpAnyH_take (i := 1) (oi := ?oi77) (v := ?v77) ?hi77 (by kernel_rfl) (by kernel_rfl) (by kernel_rfl) ?hq77 ?hy77 (by assumption) ?rest77
  case hi77 => (simp only [List.getElem?_toArray, List.getElem?_cons_succ, List.getElem?_cons_zero]; rfl)
  case hq77 => exact fun _ _ _ h => h
  case hy77 => (refine Or.inl ⟨by rfl, ?_⟩; intro W hSw; (try dsimp only at hSw); go_simp; (try with_reducible rfl))
  try simp only [Act.put, List.setIfInBounds_toArray, List.set_cons_zero, List.set_cons_succ]
  refine wpAnyH_take (i := 2) (oi := ?oi78) (v := ?v78) ?hi78 (by kernel_rfl) (by kernel_rfl) (by kernel_rfl) ?hq78 ?hy78 (by assumption) ?rest78
  case hi78 => (simp only [List.getElem?_toArray, List.getElem?_cons_succ, List.getElem?_cons_zero]; rfl)
  case hq78 => exact fun _ _ _ h => h
  case hy78 => (refine Or.inl ⟨by rfl, ?_⟩; intro W hSw; (try dsimp only at hSw); go_simp; (try with_reducible rfl))
  try simp only [Act.put, List.setIfInBounds_toArray, List.set_cons_zero, List.set_cons_succ]
  refine wpAnyH_take (i := 3) (oi := ?oi79) (v := ?v79) ?hi79 (by kernel_rfl) (by kernel_rfl) (by kernel_rfl) ?hq79 ?hy79 (by assumption) ?rest79
  case hi79 => (simp only [List.getElem?_toArray, List.getElem?_cons_succ, List.getElem?_cons_zero]; rfl)
  case hq79 => exact fun _ _ _ h => h
  case hy79 => (refine Or.inl ⟨by rfl, ?_⟩; intro W hSw; (try dsimp only at hSw); go_simp; (try with_reducible rfl))
  try simp only [Act.put, List.setIfInBounds_toArray, List.set_cons_zero, List.set_cons_succ]
  refine wpAnyH_take (i := 4) (oi := ?oi80) (v := ?v80) ?hi80 (by kernel_rfl) (by kernel_rfl) (by kernel_rfl) ?hq80 ?hy80 (by assumption) ?rest80
  case hi80 => (simp only [List.getElem?_toArray, List.getElem?_cons_succ, List.getElem?_cons_zero]; rfl)
  case hq80 => exact fun _ _ _ h => h
  case hy80 => (refine Or.inl ⟨by rfl, ?_⟩; intro W hSw; (try dsimp only at hSw); go_simp; (try with_reducible rfl))
  try simp only [Act.put, List.setIfInBounds_toArray, List.set_cons_zero, List.set_cons_succ]
  refine wpAnyH_take (i := 5) (oi := ?oi81) (v := ?v81) ?hi81 (by kernel_rfl) (by kernel_rfl) (by kernel_rfl) ?hq81 ?hy81 (by assumption) ?rest81
  case hi81 => (simp only [List.getElem?_toArray, List.getElem?_cons_succ, List.getElem?_cons_zero]; rfl)
  case hq81 => exact fun _ _ _ h => h
  case hy81 => (refine Or.inl ⟨by rfl, ?_⟩; intro W hSw; (try dsimp only at hSw); go_simp; (try with_reducible rfl))
  try simp only [Act.put, List.setIfInBounds_toArray, List.set_cons_zero, List.set_cons_succ]
  refine wpAnyH_take (i := 6) (oi := ?oi82) (v := ?v82) ?hi82 (by kernel_rfl) (by kernel_rfl) (by kernel_rfl) ?hq82 ?hy82 (by assumption) ?rest82
  case hi82 => (simp only [List.getElem?_toArray, List.getElem?_cons_succ, List.getElem?_cons_zero]; rfl)
  case hq82 => exact fun _ _ _ h => h
  case hy82 => (refine Or.inl ⟨by rfl, ?_⟩; intro W hSw; (try dsimp only at hSw); go_simp; (try with_reducible rfl))
  try simp only [Act.put, List.setIfInBounds_toArray, List.set_cons_zero, List.set_cons_succ]
  refine wpAnyH_take (i := 7) (oi := ?oi83) (v := ?v83) ?hi83 (by kernel_rfl) (by kernel_rfl) (by kernel_rfl) ?hq83 ?hy83 (by assumption) ?rest83
  case hi83 => (simp only [List.getElem?_toArray, List.getElem?_cons_succ, List.getElem?_cons_zero]; rfl)
  case hq83 => exact fun _ _ _ h => h
  case hy83 => (refine Or.inl ⟨by rfl, ?_⟩; intro W hSw; (try dsimp only at hSw); go_simp; (try with_reducible rfl))
  try simp only [Act.put, List.setIfInBounds_toArray, List.set_cons_zero, List.set_cons_succ]
  refine wpAnyH_take (i := 8) (oi := ?oi84) (v := ?v84) ?hi84 (by kernel_rfl) (by kernel_rfl) (by kernel_rfl) ?hq84 ?hy84 (by assumption) ?rest84
  case hi84 => (simp only [List.getElem?_toArray, List.getElem?_cons_succ, List.getElem?_cons_zero]; rfl)
  case hq84 => exact fun _ _ _ h => h
  case hy84 => (refine Or.inl ⟨by rfl, ?_⟩; intro W hSw; (try dsimp only at hSw); go_simp; (try with_reducible rfl))
  try simp only [Act.put, List.setIfInBounds_toArray, List.set_cons_zero, List.set_cons_succ]
  refine wpAnyH_ready (rs := [9]) (by kernel_rfl) (by simp) ?_
  refine AllReadyH.cons (o := ?oi85) ?hi85 (fun K hK => ?hs85) AllReadyH.nil
  case hi85 => (simp only [List.getElem?_toArray, List.getElem?_cons_succ, List.getElem?_cons_zero]; rfl)
  go_simp
  refine (HR.out _).mono ?_
  rintro e w2 ⟨rfl, hb2⟩
  have hs2 := PkS.below HST.out.2.2.2.2 hb2
  go_wp2_with fail
  refine hK.out _ _ ?_ (fun hHeld2 => ?_)
  · exact hs2.all
  clear hK
  try simp only [Act.put, List.setIfInBounds_toArray, List.set_cons_zero, List.set_cons_succ]
  refine wpAnyH_take (i := 10) (oi := ?oi86) (v := ?v86) ?hi86 (by kernel_rfl) (by kernel_rfl) (by kernel_rfl) ?hq86 ?hy86 (by assumption) ?rest86
  case hi86 => (simp only [List.getElem?_toArray, List.getElem?_cons_succ, List.getElem?_cons_zero]; rfl)
  case hq86 => exact fun _ _ _ h => h
  case hy86 => (refine Or.inl ⟨by rfl, ?_⟩; intro W hSw; (try dsimp only at hSw); go_simp; (try with_reducible rfl))
  try simp only [Act.put, List.setIfInBounds_toArray, List.set_cons_zero, List.set_cons_succ]
  refine wpAnyH_take (i := 11) (oi := ?oi87) (v := ?v87) ?hi87 (by kernel_rfl) (by kernel_rfl) (by kernel_rfl) ?hq87 ?hy87 (by assumption) ?rest87
  case hi87 => (simp only [List.getElem?_toArray, List.getElem?_cons_succ, List.getElem?_cons_zero]; rfl)
  case hq87 => exact fun _ _ _ h => h
  case hy87 => (refine Or.inl ⟨by rfl, ?_⟩; intro W hSw; (try dsimp only at hSw); go_simp; (try with_reducible rfl))
  try simp only [Act.put, List.setIfInBounds_toArray, List.set_cons_zero, List.set_cons_succ]
  refine wpAnyH_take (i := 12) (oi := ?oi88) (v := ?v88) ?hi88 (by kernel_rfl) (by kernel_rfl) (by kernel_rfl) ?hq88 ?hy88 (by assumption) ?rest88
  case hi88 => (simp only [List.getElem?_toArray, List.getElem?_cons_succ, List.getElem?_cons_zero]; rfl)
  case hq88 => exact fun _ _ _ h => h
  case hy88 => (refine Or.inl ⟨by rfl, ?_⟩; intro W hSw; (try dsimp only at hSw); go_simp; (try with_reducible rfl))
  try simp only [Act.put, List.setIfInBounds_toArray, List.set_cons_zero, List.set_cons_succ]
  refine wpAnyH_take (i := 13) (oi := ?oi89) (v := ?v89) ?hi89 (by kernel_rfl) (by kernel_rfl) (by kernel_rfl) ?hq89 ?hy89 (by assumption) ?rest89
  case hi89 => (simp only [List.getElem?_toArray, List.getElem?_cons_succ, List.getElem?_cons_zero]; rfl)
  case hq89 => exact fun _ _ _ h => h
  case hy89 => (refine Or.inl ⟨by rfl, ?_⟩; intro W hSw; (try dsimp only at hSw); go_simp; (try with_reducible rfl))
  try simp only [Act.put, List.setIfInBounds_toArray, List.set_cons_zero, List.set_cons_succ]
  refine wpAnyH_take (i := 15) (oi := ?oi90) (v := ?v90) ?hi90 (by kernel_rfl) (by kernel_rfl) (by kernel_rfl) ?hq90 ?hy90 (by assumption) ?rest90
  case hi90 => (simp only [List.getElem?_toArray, List.getElem?_cons_succ, List.getElem?_cons_zero]; rfl)
  case hq90 => exact fun _ _ _ h => h
  case hy90 => (refine Or.inl ⟨by rfl, ?_⟩; intro W hSw; (try dsimp only at hSw); go_simp; (try with_reducible rfl))
  try simp only [Act.put, List.setIfInBounds_toArray, List.set_cons_zero, List.set_cons_succ]
  refine wpAnyH_take (i := 17) (oi := ?oi91) (v := ?v91) ?hi91 (by kernel_rfl) (by kernel_rfl) (by kernel_rfl) ?hq91 ?hy91 (by assumption) ?rest91
  case hi91 => (simp only [List.getElem?_toArray, List.getElem?_cons_succ, List.getElem?_cons_zero]; rfl)
  case hq91 => exact fun _ _ _ h => h
  case hy91 => (refine Or.inl ⟨by rfl, ?_⟩; intro W hSw; (try dsimp only at hSw); go_simp; (try with_reducible rfl))
  try simp only [Act.put, List.setIfInBounds_toArray, List.set_cons_zero, List.set_cons_succ]
  refine wpAnyH_ready (rs := [14]) (by kernel_rfl) (by simp) ?_
  refine AllReadyH.cons (o := ?oi92) ?hi92 (fun K hK => ?hs92) AllReadyH.nil
  case hi92 => (simp only [List.getElem?_toArray, List.getElem?_cons_succ, List.getElem?_cons_zero]; rfl)
  go_simp
  refine (HH.out _ (PkS.tabs hs2 hL.out)).mono ?_
  rintro e w4 ⟨rfl, hb4⟩
  have hs4 := PkS.below hs2 hb4
  go_wp2_with fail
  refine hK.out _ _ ?_ (fun hHeld2 => ?_)
  · exact hs4.all
  clear hK
  try simp only [Act.put, List.setIfInBounds_toArray, List.set_cons_zero, List.set_cons_succ]
  refine wpAnyH_take (i := 16) (oi := ?oi93) (v := ?v93) ?hi93 (by kernel_rfl) (by kernel_rfl) (by kernel_rfl) ?hq93 ?hy93 (by assumption) ?rest93
  case hi93 => (simp only [List.getElem?_toArray, List.getElem?_cons_succ, List.getElem?_cons_zero]; rfl)
  case hq93 => exact fun _ _ _ h => h
  case hy93 => (refine Or.inl ⟨by rfl, ?_⟩; intro W hSw; (try dsimp only at hSw); go_simp; (try with_reducible rfl))
  try simp only [Act.put, List.setIfInBounds_toArray, List.set_cons_zero, List.set_cons_succ]
  refine wpAnyH_take (i := 18) (oi := ?oi94) (v := ?v94) ?hi94 (by kernel_rfl) (by kernel_rfl) (by kernel_rfl) ?hq94 ?hy94 (by assumption) ?rest94
  case hi94 => (simp only [List.getElem?_toArray, List.getElem?_cons_succ, List.getElem?_cons_zero]; rfl)
  case hq94 => exact fun _ _ _ h => h
  case hy94 => (refine Or.inl ⟨by rfl, ?_⟩; intro W hSw; (try dsimp only at hSw); go_simp; (try with_reducible rfl))
  try simp only [Act.put, List.setIfInBounds_toArray, List.set_cons_zero, List.set_cons_succ]
  refine wpAnyH_take (i := 19) (oi := ?oi95) (v := ?v95) ?hi95 (by kernel_rfl) (by kernel_rfl) (by kernel_rfl) ?hq95 ?hy95 (by assumption) ?rest95
  case hi95 => (simp only [List.getElem?_toArray, List.getElem?_cons_succ, List.getElem?_cons_zero]; rfl)
  case hq95 => exact fun _ _ _ h => h
  case hy95 => (refine Or.inl ⟨by rfl, ?_⟩; intro W hSw; (try dsimp only at hSw); go_simp; (try with_reducible rfl))
  try simp only [Act.put, List.setIfInBounds_toArray, List.set_cons_zero, List.set_cons_succ]
  refine wpAnyH_take (i := 20) (oi := ?oi96) (v := ?v96) ?hi96 (by kernel_rfl) (by kernel_rfl) (by kernel_rfl) ?hq96 ?hy96 (by assumption) ?rest96
  case hi96 => (simp only [List.getElem?_toArray, List.getElem?_cons_succ, List.getElem?_cons_zero]; rfl)
  case hq96 => exact fun _ _ _ h => h
  case hy96 => (refine Or.inl ⟨by rfl, ?_⟩; intro W hSw; (try dsimp only at hSw); go_simp; (try with_reducible rfl))
  try simp only [Act.put, List.setIfInBounds_toArray, List.set_cons_zero, List.set_cons_succ]
  refine wpAnyH_take (i := 21) (oi := ?oi97) (v := ?v97) ?hi97 (by kernel_rfl) (by kernel_rfl) (by kernel_rfl) ?hq97 ?hy97 (by assumption) ?rest97
  case hi97 => (simp only [List.getElem?_toArray, List.getElem?_cons_succ, List.getElem?_cons_zero]; rfl)
  case hq97 => exact fun _ _ _ h => h
  case hy97 => (refine Or.inl ⟨by rfl, ?_⟩; intro W hSw; (try dsimp only at hSw); go_simp; (try with_reducible rfl))
  try simp only [Act.put, List.setIfInBounds_toArray, List.set_cons_zero, List.set_cons_succ]
  refine wpAnyH_take (i := 22) (oi := ?oi98) (v := ?v98) ?hi98 (by kernel_rfl) (by kernel_rfl) (by kernel_rfl) ?hq98 ?hy98 (by assumption) ?rest98
  case hi98 => (simp only [List.getElem?_toArray, List.getElem?_cons_succ, List.getElem?_cons_zero]; rfl)
  case hq98 => exact fun _ _ _ h => h
  case hy98 => (refine Or.inl ⟨by rfl, ?_⟩; intro W hSw; (try dsimp only at hSw); go_simp; (try with_reducible rfl))
  try simp only [Act.put, List.setIfInBounds_toArray, List.set_cons_zero, List.set_cons_succ]
  refine wpAnyH_take (i := 23) (oi := ?oi99) (v := ?v99) ?hi99 (by kernel_rfl) (by kernel_rfl) (by kernel_rfl) ?hq99 ?hy99 (by assumption) ?rest99
  case hi99 => (simp only [List.getElem?_toArray, List.getElem?_cons_succ, List.getElem?_cons_zero]; rfl)
  case hq99 => exact fun _ _ _ h => h
  case hy99 => (refine Or.inl ⟨by rfl, ?_⟩; intro W hSw; (try dsimp only at hSw); go_simp; (try with_reducible rfl))
  try simp only [Act.put, List.setIfInBounds_toArray, List.set_cons_zero, List.set_cons_succ]
  refine wpAnyH_take (i := 24) (oi := ?oi100) (v := ?v100) ?hi100 (by kernel_rfl) (by kernel_rfl) (by kernel_rfl) ?hq100 ?hy100 (by assumption) ?rest100
  case hi100 => (simp only [List.getElem?_toArray, List.getElem?_cons_succ, List.getElem?_cons_zero]; rfl)
  case hq100 => exact fun _ _ _ h => h
  case hy100 => (refine Or.inl ⟨by rfl, ?_⟩; intro W hSw; (try dsimp only at hSw); go_simp; (try with_reducible rfl))
  try simp only [Act.put, List.setIfInBounds_toArray, List.set_cons_zero, List.set_cons_succ]
  have hs9 := hs4
  refine wpAnyH_done (by kernel_rfl) ?_ _
  refine NoPanic.normal ?_
  have h9 := hs9
  have HH9 := Lib.hid h9
  have c8 := h9.r.cell 0 rfl
  go_wp2_with fail
  go_loop [8] (fun i => ∃ j : Nat, j ≤ s3.length ∧ i = .int .i64 j ∧ (s3.take j).all sgn = true) (fun i => s3.length - (intOf i).toNat)
  case atStart => exact ⟨0, by omega, rfl, rfl⟩
  case round =>
    obtain ⟨j, hj, rfl, hall⟩ := hrel
    by_cases hlt : j < s3.length
    case pos =>
      obtain ⟨c, hc⟩ : ∃ c, s3[j] = c := ⟨_, rfl⟩
      have hix := ix_str ⟨s3.toArray⟩ j (by rw [hs3]; exact hlt) c hc
      have k0 : (j : Int) < (s3.length : Int) := by omega
      have HSG := Lib.hid (sign_any c)
      have HT : Hid ((s3.take (j + 1)).all sgn = ((s3.take j).all sgn && sgn c)) := Lib.hid (by rw [List.take_succ_eq_append_getElem hlt, List.all_append, hc]; simp)
      have HF : Hid (sgn c = false → s3.all sgn ≠ true) := Lib.hid (fun h h2 => by
        have := List.all_eq_true.1 h2 c (by rw [← hc]; exact List.getElem_mem hlt)
        rw [h] at this; cases this)
      clear hc
      go_wp2_with fail
      refine (HSG.out _).mono ?_
      rintro e w11 ⟨rfl, rfl⟩
      cases hsc : sgn c with
      | true =>
        have HT2 := Lib.hid (HT.out.trans (by rw [hall, hsc]; try rfl))
        clear hsc HT HF hall
        go_wp2_with fail
        go_round
        case rel => exact ⟨j + 1, by omega, by go_num, HT2.out⟩
        case measure => simp [intOf]; omega
      | false =>
        have hno := HF.out hsc
        have HV := Lib.hid (pk_no (HPK.out.trans (if_neg (fun h => hno (HFT.out.1 h).2.2.2.2))))
        clear hsc HT HF hall hno
        go_wp2
        exact PkS.out rfl rfl HH9.out HV.out
    case neg =>
      have hfa : s3.all sgn = true := by rw [List.take_of_length_le (by omega)] at hall; exact hall
      have HV := Lib.hid (pk_yes (HPK.out.trans (if_pos (HFT.out.2 ⟨HK.out, HRT.out, HZS.out, H16.out, hfa⟩))))
      have z0 := HH9.out.p.frozen 0
      have z1 := HH9.out.p.frozen 1
      have z2 := HH9.out.p.frozen 2
      have z3 := HH9.out.q.frozen 0
      have z4 := HH9.out.q.cell 0 rfl
      clear hfa hall
      go_wp2
      refine peek_ret rfl rfl ((HH9.out.set3 _ _ _).p.setOther _ _ (by show w.heap.size + 1 ≠ w.heap.size + 1 + 1; omega)) ((HH9.out.set3 _ _ _).q.set 0 _) ?_
      exact ⟨by rw [HV.out], (HH9.out.set3 _ _ _).b.setCell (by show w.heap.size ≤ w.heap.size + 1 + 1; omega) _⟩
end Go.Proofs.YtffllacphfapnaaGreatDoor.Se
