/-
  Chapter 5, the reference's value. Condition: the text has at most 100000 bytes.
-/
import Derived.Test.YtffllacphfapnaaGreatDoorJl
namespace Go.Proofs.YtffllacphfapnaaGreatDoor
open Go.RowKit Js

theorem sl_str (s : By) (a b : Nat) (h1 : a ≤ b) (h2 : b ≤ s.length) (i j : Int) (hi : i = (a : Int)) (hj : j = (b : Int)) (w : World) : (Instr.slice 9 (.string ⟨s.toArray⟩) (some (.int .i64 i)) (some (.int .i64 j)) none).run Tryz.prog w = .ok (.string ⟨((s.drop a).take (b - a)).toArray⟩) w := by
  subst hi hj
  rw [run_slice_string w _ _ _ _ _ _ Tryz.underlying9 (by omega) (by omega) (by rw [st_size]; omega), ByteArray.extract_mk]
  simp
theorem take_pre {g p : By} (h : g.take p.length = p) : ∃ v, g = p ++ v := ⟨g.drop p.length, by
  have := List.take_append_drop p.length g
  rw [h] at this; exact this.symm⟩
theorem take_pre' {g p v : By} (h : g = p ++ v) : g.take p.length = p := by subst h; simp
/-- how the value's text begins: by a minus? -/
def sgn (b : Bool) : By := if b then [45] else []
/-- the digits that were read -/
def DG (s : By) (p : Nat) (b : Bool) (ds : By) (n : Int) (k : Nat) : Prop := k = p + (sgn b).length + ds.length ∧ k ≤ s.length ∧ s.drop p = sgn b ++ (ds ++ s.drop k) ∧ (∀ c ∈ ds, isD c = true) ∧ NF ds n ∧ ds.length ≤ 19
theorem DG.start {s : By} {p : Nat} {b : Bool} (hp : p + (sgn b).length ≤ s.length) (h : s.drop p = sgn b ++ s.drop (p + (sgn b).length)) : DG s p b [] 0 (p + (sgn b).length) :=
  ⟨rfl, hp, (by simpa using h), (fun c hc => by cases hc), NF.nil, (by simp)⟩
theorem DG.snoc {s : By} {p k : Nat} {b : Bool} {ds : By} {n n1 n2 : Int} {c : UInt8} (h : DG s p b ds n k) (hk : k < s.length) (hc : s[k] = c) (hd : isD c = true) (hl : ds.length < 19)
    (e1 : IntKind.i64.wrap (10 * n) = n1) (e2 : IntKind.i64.wrap (n1 - ((c.toNat : Int) - 48)) = n2) : DG s p b (ds ++ [c]) n2 (k + 1) := by
  obtain ⟨h1, h2, h3, h4, h5, h6⟩ := h
  have hD := isD_to hd
  refine ⟨by simp; omega, by omega, ?_, ?_, ?_, by simp; omega⟩
  · rw [h3, drop_at1 s k hk, hc]; simp
  · intro x hx
    rcases List.mem_append.1 hx with hx | hx
    · exact h4 x hx
    · simp at hx; subst hx; exact hd
  · have hb : -9223372036854775808 ≤ n2 ∧ n2 ≤ 9223372036854775807 := by rw [← e2]; simp only [IntKind.wrap, IntKind.bits, IntKind.signed]; simp; omega
    refine h5.snoc hd hb.1 hb.2 fun g1 g2 => ?_
    have : n1 = 10 * n := by rw [← e1]; exact IntWalk.i64_in _ (by omega)
    rw [← e2, this]
    exact IntWalk.i64_in _ (by omega)
theorem DG.nodig {s : By} {p k : Nat} {b : Bool} {n : Int} (h : DG s p b [] n k) (nm : By) (hg : notTB (s.drop p)) (hsg : b = false → (s.drop p).head? ≠ some 45) (hst : ∀ c, (s.drop k).head? = some c → isD c = false) : ValR nm s p zm (-1) := by
  obtain ⟨h1, h2, h3, h4, h5, h6⟩ := h
  refine ValR.nodig hg h3 ?_ rfl hst ⟨by decide, by decide⟩
  cases b
  · exact .inl ⟨rfl, hsg rfl⟩
  · exact .inr rfl
theorem DG.num {s ds : By} {p k : Nat} {b : Bool} {n v : Int} (h : DG s p b ds n k) (nm : By) (hg : notTB (s.drop p)) (hsg : b = false → (s.drop p).head? ≠ some 45) (hst : (∀ c, (s.drop k).head? = some c → isD c = false) ∨ 19 ≤ ds.length)
    (hne : ds ≠ []) (hv : if b then v = n else IntKind.i64.wrap (-n) = v) : ValR nm s p ⟨nm, 1, [], v, false⟩ (k : Int) ∧ inI v := by
  obtain ⟨h1, h2, h3, h4, h5, h6⟩ := h
  have hpos : 0 < ds.length := List.length_pos_iff.2 hne
  have hin : inI v := by
    cases b
    · simp at hv; rw [← hv]; unfold inI; simp only [IntKind.wrap, IntKind.bits, IntKind.signed]; simp; omega
    · simp at hv; rw [hv]; exact ⟨h5.1, h5.2.1⟩
  refine ⟨ValR.num (sg := sgn b) (ds := ds) (rest := s.drop k) (n := n) (v := v) hg h3 ?_ h4 hst h5 hin ?_ ?_ rfl (by rw [List.length_drop]; omega) (by omega), hin⟩
  · cases b
    · exact .inl ⟨rfl, hsg rfl⟩
    · exact .inr rfl
  · intro e
    cases b
    · cases e
    · simpa using hv
  · intro e h0
    cases b
    · simp at hv; rw [← hv]; exact IntWalk.i64_in _ (by have := h5.1; have := h5.2.1; omega)
    · cases e
theorem head_at {s : By} {k : Nat} {c : UInt8} (h : k < s.length) (hc : s[k] = c) : (s.drop k).head? = some c := by rw [drop_at1 s k h, hc]; rfl
theorem head_no {s : By} {k : Nat} (h : s.length ≤ k) : (s.drop k).head? = none := by rw [List.drop_eq_nil_of_le h]; rfl

set_option maxRecDepth 20000 in
set_option maxHeartbeats 4000000 in
theorem value_any (nm s : By) (p : Nat) (w : World) (hn : nm.length ≤ 100000) (hs : s.length ≤ 100000) (hp : p ≤ 100001) :
    Calls Tryz.prog 42 #[.string ⟨nm.toArray⟩, .string ⟨s.toArray⟩, .int .i64 (p : Int)] w fun e w' => ∃ m to, e = .returned (.tuple #[mv m, .int .i64 to]) ∧ ValR nm s p m to ∧ fitM m ∧ Below w.heap.size w w' := by
  have hss := st_size s
  by_cases hq : p < s.length ∧ (s.drop p).head? = some 34
  · obtain ⟨hpl, h34⟩ := hq
    have hix := ix_str ⟨s.toArray⟩ p (by rw [hss]; exact hpl) 34 (by
      have h := drop_at1 s p hpl
      rw [h] at h34; exact Option.some.inj h34)
    have h1 : decide (p < s.length) = true := by simp; omega
    have H34 := Lib.hid h34
    clear h34
    go_enter Tryz.func42, Tryz.ntmps42
    go_wp2_with fail
    refine (str_any s p _ hs hp).mono ?_
    rintro e w1 ⟨t, to, rfl, hr, htl, hb1⟩
    have hB : Blk w1 w.heap.size 50 (mc zm) := (Blk.new w _ (mc zm)).below hb1 (by simp)
    have z0 := hB.cell 0 rfl
    have z1 := hB.cell 1 rfl
    have z2 := hB.cell 2 rfl
    have z3 := hB.cell 3 rfl
    have z4 := hB.cell 4 rfl
    have f0 := hB.frozen 0
    have f1 := hB.frozen 1
    have f2 := hB.frozen 2
    have f3 := hB.frozen 3
    have f4 := hB.frozen 4
    have hbb : Below w.heap.size w w1 := ((Below.refl _ _).alloc (Nat.le_refl _) _).trans (hb1.mono (by simp))
    have HV := Lib.hid (ValR.text (nm := nm) hr H34.out)
    clear hr
    go_wp2
    try simp only [Exit.inBlock, Exit.then]
    refine ret_cell_tmp rfl rfl rfl (Blk.setM (x := ⟨nm, 0, t, 0, false⟩) hB) ?_
    exact ⟨⟨nm, 0, t, 0, false⟩, to, rfl, HV.out, ⟨by simp; omega, by simp; omega, HV.out.1⟩, below_setM (x := ⟨nm, 0, t, 0, false⟩) hbb (Nat.le_refl _)⟩
  have hA : decide (p < s.length) = false ∨ (decide (p < s.length) = true ∧ ∃ c, (∀ w, (Instr.index 9 (.string ⟨s.toArray⟩) (.int .i64 (p : Int))).run Tryz.prog w = .ok (.int .u8 (c.toNat : Int)) w) ∧ ((c.toNat : Int) == 34) = false ∧ (s.drop p).head? = some c ∧ p < s.length) := by
    by_cases hpl : p < s.length
    · refine .inr ⟨by simp; omega, s[p], ix_str ⟨s.toArray⟩ p (by rw [hss]; exact hpl) s[p] (by rfl), ?_, head_at hpl rfl, hpl⟩
      rw [beq_eq_false_iff_ne]; intro e
      have : s[p] = 34 := by rw [← UInt8.toNat_inj]; show s[p].toNat = 34; omega
      exact hq ⟨hpl, by rw [drop_at1 s p hpl, this]; rfl⟩
    · exact .inl (by simp; omega)
  have HQ : Hid ((s.drop p).head? ≠ some 34) := Lib.hid (fun e => by
    by_cases hpl : p < s.length
    · exact hq ⟨hpl, e⟩
    · rw [head_no (by omega)] at e; cases e)
  clear hq
  have p4 : ((p : Int) + 4 ≤ (s.length : Int)) ↔ p + 4 ≤ s.length := by omega
  have hT : (p + 4 ≤ s.length ∧ (s.drop p).take 4 = [116, 114, 117, 101]) ∨ (p + 4 ≤ s.length ∧ (s.drop p).take 4 ≠ [116, 114, 117, 101]) ∨ ¬ p + 4 ≤ s.length := by
    by_cases h : p + 4 ≤ s.length
    · by_cases h2 : (s.drop p).take 4 = [116, 114, 117, 101]
      · exact .inl ⟨h, h2⟩
      · exact .inr (.inl ⟨h, h2⟩)
    · exact .inr (.inr h)
  have hF : (p + 5 ≤ s.length ∧ (s.drop p).take 5 = [102, 97, 108, 115, 101]) ∨ (p + 5 ≤ s.length ∧ (s.drop p).take 5 ≠ [102, 97, 108, 115, 101]) ∨ ¬ p + 5 ≤ s.length := by
    by_cases h : p + 5 ≤ s.length
    · by_cases h2 : (s.drop p).take 5 = [102, 97, 108, 115, 101]
      · exact .inl ⟨h, h2⟩
      · exact .inr (.inl ⟨h, h2⟩)
    · exact .inr (.inr h)
  have hbb : Below w.heap.size w (w.alloc (.cells (mc zm).toArray 50)) := (Below.refl _ _).alloc (Nat.le_refl _) _
  have hB : Blk (w.alloc (.cells (mc zm).toArray 50)) w.heap.size 50 (mc zm) := Blk.new w _ (mc zm)
  clear p4
  rcases hT with ⟨ht1, ht2⟩ | hT
  · -- true
    obtain ⟨g, hg⟩ := take_pre (p := bt true) ht2
    have HV := Lib.hid (ValR.tru (nm := nm) hg)
    have hsl := sl_str s p (p + 4) (by omega) ht1 (p : Int) ((p : Int) + 4) rfl (by omega)
    have e4 : p + 4 - p = 4 := by omega
    rw [e4, ht2] at hsl
    have hle : (p : Int) + 4 ≤ (s.length : Int) := by omega
    clear hg ht2 e4 hF ht1
    rcases hA with hA | ⟨hA, c, hix, hne, _, _⟩
    · simp at hA; omega
    · go_enter Tryz.func42, Tryz.ntmps42
      go_wp2
      try simp only [Exit.inBlock, Exit.then]
      refine ret_cell_tmp rfl rfl rfl (Blk.new w _ (mc ⟨nm, 2, [], 0, true⟩)) ?_
      exact ⟨⟨nm, 2, [], 0, true⟩, _, rfl, HV.out, ⟨by simp; omega, by simp, HV.out.1⟩, (Below.refl _ _).alloc (Nat.le_refl _) _⟩
  have NT : Hid (¬ ∃ g, s.drop p = bt true ++ g) := Lib.hid (fun ⟨g, hg⟩ => by
    rcases hT with ⟨_, h⟩ | h
    · exact h (take_pre' (p := bt true) hg)
    · have := congrArg List.length hg; rw [List.length_drop, List.length_append, show (bt true).length = 4 from rfl] at this; omega)
  -- the test for true says no
  have hT2 : ((p : Int) + 4 ≤ (s.length : Int) ∧ ∃ x : By, (∀ w, (Instr.slice 9 (.string ⟨s.toArray⟩) (some (.int .i64 (p : Int))) (some (.int .i64 ((p : Int) + 4))) none).run Tryz.prog w = .ok (.string ⟨x.toArray⟩) w) ∧ (x == [116, 114, 117, 101]) = false) ∨ ¬ (p : Int) + 4 ≤ (s.length : Int) := by
    rcases hT with ⟨h1, h2⟩ | h
    · refine .inl ⟨by omega, (s.drop p).take 4, ?_, by simpa using h2⟩
      have hsl := sl_str s p (p + 4) (by omega) h1 (p : Int) ((p : Int) + 4) rfl (by omega)
      rwa [show p + 4 - p = 4 from by omega] at hsl
    · exact .inr (by omega)
  clear hT
  rcases hF with ⟨ht1, ht2⟩ | hF
  · obtain ⟨g, hg⟩ := take_pre (p := bt false) ht2
    have HV := Lib.hid (ValR.fls (nm := nm) hg)
    have hsl := sl_str s p (p + 5) (by omega) ht1 (p : Int) ((p : Int) + 5) rfl (by omega)
    have e4 : p + 5 - p = 5 := by omega
    rw [e4, ht2] at hsl
    have hle : (p : Int) + 5 ≤ (s.length : Int) := by omega
    clear hg ht2 e4 ht1
    rcases hA with hA | ⟨hA, c, hix, hne, _, _⟩
    · simp at hA; omega
    · rcases hT2 with ⟨h4, x, hsl4, hx⟩ | h4
      · have hx' := str_ne hx
        go_enter Tryz.func42, Tryz.ntmps42
        go_wp2
        try simp only [Exit.inBlock, Exit.then]
        refine ret_cell_tmp rfl rfl rfl (Blk.new w _ (mc ⟨nm, 2, [], 0, false⟩)) ?_
        exact ⟨⟨nm, 2, [], 0, false⟩, _, rfl, HV.out, ⟨by simp; omega, by simp, HV.out.1⟩, (Below.refl _ _).alloc (Nat.le_refl _) _⟩
      · exact absurd (by omega) h4
  have NF2 : Hid (notTB (s.drop p)) := Lib.hid ⟨HQ.out, NT.out, fun ⟨g, hg⟩ => by
    rcases hF with ⟨_, h⟩ | h
    · exact h (take_pre' (p := bt false) hg)
    · have := congrArg List.length hg; rw [List.length_drop, List.length_append, show (bt false).length = 5 from rfl] at this; omega⟩
  have hF2 : ((p : Int) + 5 ≤ (s.length : Int) ∧ ∃ x : By, (∀ w, (Instr.slice 9 (.string ⟨s.toArray⟩) (some (.int .i64 (p : Int))) (some (.int .i64 ((p : Int) + 5))) none).run Tryz.prog w = .ok (.string ⟨x.toArray⟩) w) ∧ (x == [102, 97, 108, 115, 101]) = false) ∨ ¬ (p : Int) + 5 ≤ (s.length : Int) := by
    rcases hF with ⟨h1, h2⟩ | h
    · refine .inl ⟨by omega, (s.drop p).take 5, ?_, by simpa using h2⟩
      have hsl := sl_str s p (p + 5) (by omega) h1 (p : Int) ((p : Int) + 5) rfl (by omega)
      rwa [show p + 5 - p = 5 from by omega] at hsl
    · exact .inr (by omega)
  clear hF NT HQ
  rcases hA with hA | ⟨hA, c, hix, hne, hhd, hpl⟩
  · -- nothing is there
    have hpl : s.length ≤ p := by simpa using hA
    have HV : Hid (ValR nm s p zm (-1)) := Lib.hid (ValR.nodig (sg := []) (ds := []) (rest := []) NF2.out (by rw [List.drop_eq_nil_of_le hpl]; rfl) (.inl ⟨rfl, by rw [head_no hpl]; simp⟩) rfl (fun c h => by cases h) ⟨by decide, by decide⟩)
    have h4 : ¬ (p : Int) + 4 ≤ (s.length : Int) := by omega
    have h5 : ¬ (p : Int) + 5 ≤ (s.length : Int) := by omega
    clear hT2 hF2
    go_enter Tryz.func42, Tryz.ntmps42
    go_wp2
    go_loop [10, 11] (fun n to => n = .int .i64 0 ∧ to = .int .i64 (p : Int)) (fun _ _ => 0)
    case atStart => exact ⟨rfl, rfl⟩
    case round =>
      obtain ⟨rfl, rfl⟩ := hrel
      go_wp2
      try simp only [Exit.inBlock, Exit.then]
      refine ret_cell_tmp rfl rfl rfl (Blk.new w _ (mc zm)) ?_
      exact ⟨zm, -1, rfl, HV.out, ⟨by simp [zm]; try omega, by simp [zm], (HV.out).1⟩, (Below.refl _ _).alloc (Nat.le_refl _) _⟩
  · obtain ⟨b, hb⟩ : ∃ b : Bool, b = (c == 45) := ⟨_, rfl⟩
    have hb45 : ((c.toNat : Int) == 45) = b := by rw [hb, Bool.eq_iff_iff]; simp [← UInt8.toNat_inj]; omega
    have hsg : Hid (b = false → (s.drop p).head? ≠ some 45) := Lib.hid (fun e h => by rw [hhd] at h; cases h; rw [e] at hb; revert hb; decide)
    have hst0 : Hid (DG s p b [] 0 (p + (sgn b).length)) := Lib.hid (by
      have hdp := drop_at1 s p hpl
      have hc0 : s[p] = c := by rw [hdp] at hhd; exact Option.some.inj hhd
      cases b
      · exact DG.start (by simp [sgn]; omega) (by simp [sgn])
      · have : c = 45 := by simpa using hb.symm
        refine DG.start (by simp [sgn]; omega) ?_
        rw [hdp, hc0, this]; rfl)
    clear hb hhd
    cases b
    · rcases hT2 with ⟨h4, x, hsl4, hx⟩ | h4
      · rcases hF2 with ⟨h5, y, hsl5, hy⟩ | h5
        · skip
          go_enter Tryz.func42, Tryz.ntmps42
          go_wp2
          clear hix
          go_loop [10, 11] (fun n to => ∃ (ds : By) (m : Int) (k : Nat), n = .int .i64 m ∧ to = .int .i64 (k : Int) ∧ Hid (DG s p false ds m k)) (fun _ to => s.length - (intOf to).toNat)
          case atStart => exact ⟨[], 0, _, rfl, (by simp [sgn]), hst0⟩
          case round =>
            clear hst0
            obtain ⟨ds, m, k, rfl, rfl, HD⟩ := hrel
            have hkl := HD.out.2.1
            have hkp : (p : Int) ≤ (k : Int) ∧ (k : Int) ≤ (p : Int) + 20 := by have h1 := HD.out.1; have h2 := HD.out.2.2.2.2.2; simp [sgn] at h1; omega
            by_cases hkk : k < s.length
            case neg =>
              have hd1 : decide (k < s.length) = false := by simp; omega
              have HH : Hid (∀ c, (s.drop k).head? = some c → isD c = false) := Lib.hid fun c h => by rw [head_no (by omega)] at h; cases h
              by_cases hds : ds = []
              · subst hds
                have hk : (k : Int) = (p : Int) := by have := HD.out.1; simp [sgn] at this; omega
                have hk1 : ((k : Int) == (p : Int)) = true := by rw [beq_iff_eq]; exact hk
                have HV : Hid (ValR nm s p zm (-1)) := Lib.hid (HD.out.nodig nm NF2.out (by first | exact hsg.out | exact fun _ => hsg.out trivial) (HH.out))
                clear hk
                go_wp2
                try simp only [Exit.inBlock, Exit.then]
                refine ret_cell_tmp rfl rfl rfl (Blk.new w _ (mc zm)) ?_
                exact ⟨zm, -1, rfl, HV.out, ⟨by simp [zm]; try omega, by simp [zm], (HV.out).1⟩, (Below.refl _ _).alloc (Nat.le_refl _) _⟩
              · have hk : ¬ (k : Int) = (p : Int) := by have h1 := HD.out.1; have h2 := List.length_pos_iff.2 hds; simp [sgn] at h1; omega
                have hk1 : ((k : Int) == (p : Int)) = false := by rw [beq_eq_false_iff_ne]; exact hk
                obtain ⟨v, hv⟩ : ∃ v, IntKind.i64.wrap (-m) = v := ⟨_, rfl⟩
                have HV : Hid (ValR nm s p ⟨nm, 1, [], v, false⟩ (k : Int) ∧ inI v) := Lib.hid (HD.out.num nm NF2.out (by first | exact hsg.out | exact fun _ => hsg.out trivial) (Or.inl (HH.out)) hds (by simpa using hv))
                go_wp2
                try simp only [Exit.inBlock, Exit.then]
                skip
                refine ret_cell_tmp rfl rfl rfl (Blk.new w _ (mc ⟨nm, 1, [], v, false⟩)) ?_
                exact ⟨⟨nm, 1, [], v, false⟩, (k : Int), rfl, HV.out.1, ⟨by simp; omega, by simp, HV.out.2⟩, (Below.refl _ _).alloc (Nat.le_refl _) _⟩
            case pos =>
            have hd1 : decide (k < s.length) = true := by simp; omega
            have hixk := ix_str ⟨s.toArray⟩ k (by rw [hss]; exact hkk) s[k] (by rfl)
            obtain ⟨q, hq⟩ : ∃ q, q = s[k] := ⟨_, rfl⟩
            rw [← hq] at hixk
            have HH0 := Lib.hid (head_at hkk hq.symm)
            have HQ2 := Lib.hid hq
            clear hq
            by_cases hc1 : (47 : Int) < (q.toNat : Int)
            case neg =>
              have hd2 : decide ((47 : Int) < (q.toNat : Int)) = false := by rw [decide_eq_false_iff_not]; exact hc1
              have HH : Hid (∀ c, (s.drop k).head? = some c → isD c = false) := Lib.hid fun c h => by
                rw [HH0.out] at h; cases h
                cases h2 : isD q with
                | false => rfl
                | true => have := isD_to h2; omega
              by_cases hds : ds = []
              · subst hds
                have hk : (k : Int) = (p : Int) := by have := HD.out.1; simp [sgn] at this; omega
                have hk1 : ((k : Int) == (p : Int)) = true := by rw [beq_iff_eq]; exact hk
                have HV : Hid (ValR nm s p zm (-1)) := Lib.hid (HD.out.nodig nm NF2.out (by first | exact hsg.out | exact fun _ => hsg.out trivial) (HH.out))
                clear hk
                go_wp2
                try simp only [Exit.inBlock, Exit.then]
                refine ret_cell_tmp rfl rfl rfl (Blk.new w _ (mc zm)) ?_
                exact ⟨zm, -1, rfl, HV.out, ⟨by simp [zm]; try omega, by simp [zm], (HV.out).1⟩, (Below.refl _ _).alloc (Nat.le_refl _) _⟩
              · have hk : ¬ (k : Int) = (p : Int) := by have h1 := HD.out.1; have h2 := List.length_pos_iff.2 hds; simp [sgn] at h1; omega
                have hk1 : ((k : Int) == (p : Int)) = false := by rw [beq_eq_false_iff_ne]; exact hk
                obtain ⟨v, hv⟩ : ∃ v, IntKind.i64.wrap (-m) = v := ⟨_, rfl⟩
                have HV : Hid (ValR nm s p ⟨nm, 1, [], v, false⟩ (k : Int) ∧ inI v) := Lib.hid (HD.out.num nm NF2.out (by first | exact hsg.out | exact fun _ => hsg.out trivial) (Or.inl (HH.out)) hds (by simpa using hv))
                go_wp2
                try simp only [Exit.inBlock, Exit.then]
                skip
                refine ret_cell_tmp rfl rfl rfl (Blk.new w _ (mc ⟨nm, 1, [], v, false⟩)) ?_
                exact ⟨⟨nm, 1, [], v, false⟩, (k : Int), rfl, HV.out.1, ⟨by simp; omega, by simp, HV.out.2⟩, (Below.refl _ _).alloc (Nat.le_refl _) _⟩
            case pos =>
            have hd2 : decide ((47 : Int) < (q.toNat : Int)) = true := by rw [decide_eq_true_iff]; exact hc1
            by_cases hc2 : (q.toNat : Int) < 58
            case neg =>
              have hd3 : decide ((q.toNat : Int) < 58) = false := by rw [decide_eq_false_iff_not]; exact hc2
              have HH : Hid (∀ c, (s.drop k).head? = some c → isD c = false) := Lib.hid fun c h => by
                rw [HH0.out] at h; cases h
                cases h2 : isD q with
                | false => rfl
                | true => have := isD_to h2; omega
              by_cases hds : ds = []
              · subst hds
                have hk : (k : Int) = (p : Int) := by have := HD.out.1; simp [sgn] at this; omega
                have hk1 : ((k : Int) == (p : Int)) = true := by rw [beq_iff_eq]; exact hk
                have HV : Hid (ValR nm s p zm (-1)) := Lib.hid (HD.out.nodig nm NF2.out (by first | exact hsg.out | exact fun _ => hsg.out trivial) (HH.out))
                clear hk
                go_wp2
                try simp only [Exit.inBlock, Exit.then]
                refine ret_cell_tmp rfl rfl rfl (Blk.new w _ (mc zm)) ?_
                exact ⟨zm, -1, rfl, HV.out, ⟨by simp [zm]; try omega, by simp [zm], (HV.out).1⟩, (Below.refl _ _).alloc (Nat.le_refl _) _⟩
              · have hk : ¬ (k : Int) = (p : Int) := by have h1 := HD.out.1; have h2 := List.length_pos_iff.2 hds; simp [sgn] at h1; omega
                have hk1 : ((k : Int) == (p : Int)) = false := by rw [beq_eq_false_iff_ne]; exact hk
                obtain ⟨v, hv⟩ : ∃ v, IntKind.i64.wrap (-m) = v := ⟨_, rfl⟩
                have HV : Hid (ValR nm s p ⟨nm, 1, [], v, false⟩ (k : Int) ∧ inI v) := Lib.hid (HD.out.num nm NF2.out (by first | exact hsg.out | exact fun _ => hsg.out trivial) (Or.inl (HH.out)) hds (by simpa using hv))
                go_wp2
                try simp only [Exit.inBlock, Exit.then]
                skip
                refine ret_cell_tmp rfl rfl rfl (Blk.new w _ (mc ⟨nm, 1, [], v, false⟩)) ?_
                exact ⟨⟨nm, 1, [], v, false⟩, (k : Int), rfl, HV.out.1, ⟨by simp; omega, by simp, HV.out.2⟩, (Below.refl _ _).alloc (Nat.le_refl _) _⟩
            case pos =>
            have hd3 : decide ((q.toNat : Int) < 58) = true := by rw [decide_eq_true_iff]; exact hc2
            have HDQ : Hid (isD q = true) := Lib.hid (isD_of (by omega))
            by_cases hl : ds.length < 19
            case neg =>
              have hd4 : decide ((k : Int) < (p : Int) + 19) = false := by rw [decide_eq_false_iff_not]; have h1 := HD.out.1; simp [sgn] at h1; omega
              have hd4' : ¬ (k : Int) < (p : Int) + 19 := by simpa using hd4
              have hds : ds ≠ [] := by rintro rfl; simp at hl
              have hk : ¬ (k : Int) = (p : Int) := by have h1 := HD.out.1; have h2 := List.length_pos_iff.2 hds; simp [sgn] at h1; omega
              have hk1 : ((k : Int) == (p : Int)) = false := by rw [beq_eq_false_iff_ne]; exact hk
              obtain ⟨v, hv⟩ : ∃ v, IntKind.i64.wrap (-m) = v := ⟨_, rfl⟩
              have HV : Hid (ValR nm s p ⟨nm, 1, [], v, false⟩ (k : Int) ∧ inI v) := Lib.hid (HD.out.num nm NF2.out (by first | exact hsg.out | exact fun _ => hsg.out trivial) (Or.inr (by omega)) hds (by simpa using hv))
              go_wp2
              try simp only [Exit.inBlock, Exit.then]
              skip
              refine ret_cell_tmp rfl rfl rfl (Blk.new w _ (mc ⟨nm, 1, [], v, false⟩)) ?_
              exact ⟨⟨nm, 1, [], v, false⟩, (k : Int), rfl, HV.out.1, ⟨by simp; omega, by simp, HV.out.2⟩, (Below.refl _ _).alloc (Nat.le_refl _) _⟩
            case pos =>
            have hd4 : decide ((k : Int) < (p : Int) + 19) = true := by rw [decide_eq_true_iff]; have h1 := HD.out.1; simp [sgn] at h1; omega
            have hd4' : (k : Int) < (p : Int) + 19 := by simpa using hd4
            obtain ⟨n1, hn1⟩ : ∃ v, IntKind.i64.wrap (10 * m) = v := ⟨_, rfl⟩
            obtain ⟨n2, hn2⟩ : ∃ v, IntKind.i64.wrap (n1 - ((q.toNat : Int) - 48)) = v := ⟨_, rfl⟩
            have HD2 := Lib.hid (HD.out.snoc hkk HQ2.out.symm HDQ.out hl hn1 hn2)
            go_wp2
            go_round
            case rel => exact ⟨ds ++ [q], n2, k + 1, rfl, by go_num, HD2⟩
            case measure => simp [intOf]; omega
        · skip
          go_enter Tryz.func42, Tryz.ntmps42
          go_wp2
          clear hix
          go_loop [10, 11] (fun n to => ∃ (ds : By) (m : Int) (k : Nat), n = .int .i64 m ∧ to = .int .i64 (k : Int) ∧ Hid (DG s p false ds m k)) (fun _ to => s.length - (intOf to).toNat)
          case atStart => exact ⟨[], 0, _, rfl, (by simp [sgn]), hst0⟩
          case round =>
            clear hst0
            obtain ⟨ds, m, k, rfl, rfl, HD⟩ := hrel
            have hkl := HD.out.2.1
            have hkp : (p : Int) ≤ (k : Int) ∧ (k : Int) ≤ (p : Int) + 20 := by have h1 := HD.out.1; have h2 := HD.out.2.2.2.2.2; simp [sgn] at h1; omega
            by_cases hkk : k < s.length
            case neg =>
              have hd1 : decide (k < s.length) = false := by simp; omega
              have HH : Hid (∀ c, (s.drop k).head? = some c → isD c = false) := Lib.hid fun c h => by rw [head_no (by omega)] at h; cases h
              by_cases hds : ds = []
              · subst hds
                have hk : (k : Int) = (p : Int) := by have := HD.out.1; simp [sgn] at this; omega
                have hk1 : ((k : Int) == (p : Int)) = true := by rw [beq_iff_eq]; exact hk
                have HV : Hid (ValR nm s p zm (-1)) := Lib.hid (HD.out.nodig nm NF2.out (by first | exact hsg.out | exact fun _ => hsg.out trivial) (HH.out))
                clear hk
                go_wp2
                try simp only [Exit.inBlock, Exit.then]
                refine ret_cell_tmp rfl rfl rfl (Blk.new w _ (mc zm)) ?_
                exact ⟨zm, -1, rfl, HV.out, ⟨by simp [zm]; try omega, by simp [zm], (HV.out).1⟩, (Below.refl _ _).alloc (Nat.le_refl _) _⟩
              · have hk : ¬ (k : Int) = (p : Int) := by have h1 := HD.out.1; have h2 := List.length_pos_iff.2 hds; simp [sgn] at h1; omega
                have hk1 : ((k : Int) == (p : Int)) = false := by rw [beq_eq_false_iff_ne]; exact hk
                obtain ⟨v, hv⟩ : ∃ v, IntKind.i64.wrap (-m) = v := ⟨_, rfl⟩
                have HV : Hid (ValR nm s p ⟨nm, 1, [], v, false⟩ (k : Int) ∧ inI v) := Lib.hid (HD.out.num nm NF2.out (by first | exact hsg.out | exact fun _ => hsg.out trivial) (Or.inl (HH.out)) hds (by simpa using hv))
                go_wp2
                try simp only [Exit.inBlock, Exit.then]
                skip
                refine ret_cell_tmp rfl rfl rfl (Blk.new w _ (mc ⟨nm, 1, [], v, false⟩)) ?_
                exact ⟨⟨nm, 1, [], v, false⟩, (k : Int), rfl, HV.out.1, ⟨by simp; omega, by simp, HV.out.2⟩, (Below.refl _ _).alloc (Nat.le_refl _) _⟩
            case pos =>
            have hd1 : decide (k < s.length) = true := by simp; omega
            have hixk := ix_str ⟨s.toArray⟩ k (by rw [hss]; exact hkk) s[k] (by rfl)
            obtain ⟨q, hq⟩ : ∃ q, q = s[k] := ⟨_, rfl⟩
            rw [← hq] at hixk
            have HH0 := Lib.hid (head_at hkk hq.symm)
            have HQ2 := Lib.hid hq
            clear hq
            by_cases hc1 : (47 : Int) < (q.toNat : Int)
            case neg =>
              have hd2 : decide ((47 : Int) < (q.toNat : Int)) = false := by rw [decide_eq_false_iff_not]; exact hc1
              have HH : Hid (∀ c, (s.drop k).head? = some c → isD c = false) := Lib.hid fun c h => by
                rw [HH0.out] at h; cases h
                cases h2 : isD q with
                | false => rfl
                | true => have := isD_to h2; omega
              by_cases hds : ds = []
              · subst hds
                have hk : (k : Int) = (p : Int) := by have := HD.out.1; simp [sgn] at this; omega
                have hk1 : ((k : Int) == (p : Int)) = true := by rw [beq_iff_eq]; exact hk
                have HV : Hid (ValR nm s p zm (-1)) := Lib.hid (HD.out.nodig nm NF2.out (by first | exact hsg.out | exact fun _ => hsg.out trivial) (HH.out))
                clear hk
                go_wp2
                try simp only [Exit.inBlock, Exit.then]
                refine ret_cell_tmp rfl rfl rfl (Blk.new w _ (mc zm)) ?_
                exact ⟨zm, -1, rfl, HV.out, ⟨by simp [zm]; try omega, by simp [zm], (HV.out).1⟩, (Below.refl _ _).alloc (Nat.le_refl _) _⟩
              · have hk : ¬ (k : Int) = (p : Int) := by have h1 := HD.out.1; have h2 := List.length_pos_iff.2 hds; simp [sgn] at h1; omega
                have hk1 : ((k : Int) == (p : Int)) = false := by rw [beq_eq_false_iff_ne]; exact hk
                obtain ⟨v, hv⟩ : ∃ v, IntKind.i64.wrap (-m) = v := ⟨_, rfl⟩
                have HV : Hid (ValR nm s p ⟨nm, 1, [], v, false⟩ (k : Int) ∧ inI v) := Lib.hid (HD.out.num nm NF2.out (by first | exact hsg.out | exact fun _ => hsg.out trivial) (Or.inl (HH.out)) hds (by simpa using hv))
                go_wp2
                try simp only [Exit.inBlock, Exit.then]
                skip
                refine ret_cell_tmp rfl rfl rfl (Blk.new w _ (mc ⟨nm, 1, [], v, false⟩)) ?_
                exact ⟨⟨nm, 1, [], v, false⟩, (k : Int), rfl, HV.out.1, ⟨by simp; omega, by simp, HV.out.2⟩, (Below.refl _ _).alloc (Nat.le_refl _) _⟩
            case pos =>
            have hd2 : decide ((47 : Int) < (q.toNat : Int)) = true := by rw [decide_eq_true_iff]; exact hc1
            by_cases hc2 : (q.toNat : Int) < 58
            case neg =>
              have hd3 : decide ((q.toNat : Int) < 58) = false := by rw [decide_eq_false_iff_not]; exact hc2
              have HH : Hid (∀ c, (s.drop k).head? = some c → isD c = false) := Lib.hid fun c h => by
                rw [HH0.out] at h; cases h
                cases h2 : isD q with
                | false => rfl
                | true => have := isD_to h2; omega
              by_cases hds : ds = []
              · subst hds
                have hk : (k : Int) = (p : Int) := by have := HD.out.1; simp [sgn] at this; omega
                have hk1 : ((k : Int) == (p : Int)) = true := by rw [beq_iff_eq]; exact hk
                have HV : Hid (ValR nm s p zm (-1)) := Lib.hid (HD.out.nodig nm NF2.out (by first | exact hsg.out | exact fun _ => hsg.out trivial) (HH.out))
                clear hk
                go_wp2
                try simp only [Exit.inBlock, Exit.then]
                refine ret_cell_tmp rfl rfl rfl (Blk.new w _ (mc zm)) ?_
                exact ⟨zm, -1, rfl, HV.out, ⟨by simp [zm]; try omega, by simp [zm], (HV.out).1⟩, (Below.refl _ _).alloc (Nat.le_refl _) _⟩
              · have hk : ¬ (k : Int) = (p : Int) := by have h1 := HD.out.1; have h2 := List.length_pos_iff.2 hds; simp [sgn] at h1; omega
                have hk1 : ((k : Int) == (p : Int)) = false := by rw [beq_eq_false_iff_ne]; exact hk
                obtain ⟨v, hv⟩ : ∃ v, IntKind.i64.wrap (-m) = v := ⟨_, rfl⟩
                have HV : Hid (ValR nm s p ⟨nm, 1, [], v, false⟩ (k : Int) ∧ inI v) := Lib.hid (HD.out.num nm NF2.out (by first | exact hsg.out | exact fun _ => hsg.out trivial) (Or.inl (HH.out)) hds (by simpa using hv))
                go_wp2
                try simp only [Exit.inBlock, Exit.then]
                skip
                refine ret_cell_tmp rfl rfl rfl (Blk.new w _ (mc ⟨nm, 1, [], v, false⟩)) ?_
                exact ⟨⟨nm, 1, [], v, false⟩, (k : Int), rfl, HV.out.1, ⟨by simp; omega, by simp, HV.out.2⟩, (Below.refl _ _).alloc (Nat.le_refl _) _⟩
            case pos =>
            have hd3 : decide ((q.toNat : Int) < 58) = true := by rw [decide_eq_true_iff]; exact hc2
            have HDQ : Hid (isD q = true) := Lib.hid (isD_of (by omega))
            by_cases hl : ds.length < 19
            case neg =>
              have hd4 : decide ((k : Int) < (p : Int) + 19) = false := by rw [decide_eq_false_iff_not]; have h1 := HD.out.1; simp [sgn] at h1; omega
              have hd4' : ¬ (k : Int) < (p : Int) + 19 := by simpa using hd4
              have hds : ds ≠ [] := by rintro rfl; simp at hl
              exfalso; omega
            case pos =>
            have hd4 : decide ((k : Int) < (p : Int) + 19) = true := by rw [decide_eq_true_iff]; have h1 := HD.out.1; simp [sgn] at h1; omega
            have hd4' : (k : Int) < (p : Int) + 19 := by simpa using hd4
            obtain ⟨n1, hn1⟩ : ∃ v, IntKind.i64.wrap (10 * m) = v := ⟨_, rfl⟩
            obtain ⟨n2, hn2⟩ : ∃ v, IntKind.i64.wrap (n1 - ((q.toNat : Int) - 48)) = v := ⟨_, rfl⟩
            have HD2 := Lib.hid (HD.out.snoc hkk HQ2.out.symm HDQ.out hl hn1 hn2)
            go_wp2
            go_round
            case rel => exact ⟨ds ++ [q], n2, k + 1, rfl, by go_num, HD2⟩
            case measure => simp [intOf]; omega
      · have h5 : ¬ (p : Int) + 5 ≤ (s.length : Int) := by omega
        clear hF2
        go_enter Tryz.func42, Tryz.ntmps42
        go_wp2
        clear hix
        go_loop [10, 11] (fun n to => ∃ (ds : By) (m : Int) (k : Nat), n = .int .i64 m ∧ to = .int .i64 (k : Int) ∧ Hid (DG s p false ds m k)) (fun _ to => s.length - (intOf to).toNat)
        case atStart => exact ⟨[], 0, _, rfl, (by simp [sgn]), hst0⟩
        case round =>
          clear hst0
          obtain ⟨ds, m, k, rfl, rfl, HD⟩ := hrel
          have hkl := HD.out.2.1
          have hkp : (p : Int) ≤ (k : Int) ∧ (k : Int) ≤ (p : Int) + 20 := by have h1 := HD.out.1; have h2 := HD.out.2.2.2.2.2; simp [sgn] at h1; omega
          by_cases hkk : k < s.length
          case neg =>
            have hd1 : decide (k < s.length) = false := by simp; omega
            have HH : Hid (∀ c, (s.drop k).head? = some c → isD c = false) := Lib.hid fun c h => by rw [head_no (by omega)] at h; cases h
            by_cases hds : ds = []
            · subst hds
              have hk : (k : Int) = (p : Int) := by have := HD.out.1; simp [sgn] at this; omega
              have hk1 : ((k : Int) == (p : Int)) = true := by rw [beq_iff_eq]; exact hk
              have HV : Hid (ValR nm s p zm (-1)) := Lib.hid (HD.out.nodig nm NF2.out (by first | exact hsg.out | exact fun _ => hsg.out trivial) (HH.out))
              clear hk
              go_wp2
              try simp only [Exit.inBlock, Exit.then]
              refine ret_cell_tmp rfl rfl rfl (Blk.new w _ (mc zm)) ?_
              exact ⟨zm, -1, rfl, HV.out, ⟨by simp [zm]; try omega, by simp [zm], (HV.out).1⟩, (Below.refl _ _).alloc (Nat.le_refl _) _⟩
            · have hk : ¬ (k : Int) = (p : Int) := by have h1 := HD.out.1; have h2 := List.length_pos_iff.2 hds; simp [sgn] at h1; omega
              have hk1 : ((k : Int) == (p : Int)) = false := by rw [beq_eq_false_iff_ne]; exact hk
              obtain ⟨v, hv⟩ : ∃ v, IntKind.i64.wrap (-m) = v := ⟨_, rfl⟩
              have HV : Hid (ValR nm s p ⟨nm, 1, [], v, false⟩ (k : Int) ∧ inI v) := Lib.hid (HD.out.num nm NF2.out (by first | exact hsg.out | exact fun _ => hsg.out trivial) (Or.inl (HH.out)) hds (by simpa using hv))
              go_wp2
              try simp only [Exit.inBlock, Exit.then]
              skip
              refine ret_cell_tmp rfl rfl rfl (Blk.new w _ (mc ⟨nm, 1, [], v, false⟩)) ?_
              exact ⟨⟨nm, 1, [], v, false⟩, (k : Int), rfl, HV.out.1, ⟨by simp; omega, by simp, HV.out.2⟩, (Below.refl _ _).alloc (Nat.le_refl _) _⟩
          case pos =>
          have hd1 : decide (k < s.length) = true := by simp; omega
          have hixk := ix_str ⟨s.toArray⟩ k (by rw [hss]; exact hkk) s[k] (by rfl)
          obtain ⟨q, hq⟩ : ∃ q, q = s[k] := ⟨_, rfl⟩
          rw [← hq] at hixk
          have HH0 := Lib.hid (head_at hkk hq.symm)
          have HQ2 := Lib.hid hq
          clear hq
          by_cases hc1 : (47 : Int) < (q.toNat : Int)
          case neg =>
            have hd2 : decide ((47 : Int) < (q.toNat : Int)) = false := by rw [decide_eq_false_iff_not]; exact hc1
            have HH : Hid (∀ c, (s.drop k).head? = some c → isD c = false) := Lib.hid fun c h => by
              rw [HH0.out] at h; cases h
              cases h2 : isD q with
              | false => rfl
              | true => have := isD_to h2; omega
            by_cases hds : ds = []
            · subst hds
              have hk : (k : Int) = (p : Int) := by have := HD.out.1; simp [sgn] at this; omega
              have hk1 : ((k : Int) == (p : Int)) = true := by rw [beq_iff_eq]; exact hk
              have HV : Hid (ValR nm s p zm (-1)) := Lib.hid (HD.out.nodig nm NF2.out (by first | exact hsg.out | exact fun _ => hsg.out trivial) (HH.out))
              clear hk
              go_wp2
              try simp only [Exit.inBlock, Exit.then]
              refine ret_cell_tmp rfl rfl rfl (Blk.new w _ (mc zm)) ?_
              exact ⟨zm, -1, rfl, HV.out, ⟨by simp [zm]; try omega, by simp [zm], (HV.out).1⟩, (Below.refl _ _).alloc (Nat.le_refl _) _⟩
            · have hk : ¬ (k : Int) = (p : Int) := by have h1 := HD.out.1; have h2 := List.length_pos_iff.2 hds; simp [sgn] at h1; omega
              have hk1 : ((k : Int) == (p : Int)) = false := by rw [beq_eq_false_iff_ne]; exact hk
              obtain ⟨v, hv⟩ : ∃ v, IntKind.i64.wrap (-m) = v := ⟨_, rfl⟩
              have HV : Hid (ValR nm s p ⟨nm, 1, [], v, false⟩ (k : Int) ∧ inI v) := Lib.hid (HD.out.num nm NF2.out (by first | exact hsg.out | exact fun _ => hsg.out trivial) (Or.inl (HH.out)) hds (by simpa using hv))
              go_wp2
              try simp only [Exit.inBlock, Exit.then]
              skip
              refine ret_cell_tmp rfl rfl rfl (Blk.new w _ (mc ⟨nm, 1, [], v, false⟩)) ?_
              exact ⟨⟨nm, 1, [], v, false⟩, (k : Int), rfl, HV.out.1, ⟨by simp; omega, by simp, HV.out.2⟩, (Below.refl _ _).alloc (Nat.le_refl _) _⟩
          case pos =>
          have hd2 : decide ((47 : Int) < (q.toNat : Int)) = true := by rw [decide_eq_true_iff]; exact hc1
          by_cases hc2 : (q.toNat : Int) < 58
          case neg =>
            have hd3 : decide ((q.toNat : Int) < 58) = false := by rw [decide_eq_false_iff_not]; exact hc2
            have HH : Hid (∀ c, (s.drop k).head? = some c → isD c = false) := Lib.hid fun c h => by
              rw [HH0.out] at h; cases h
              cases h2 : isD q with
              | false => rfl
              | true => have := isD_to h2; omega
            by_cases hds : ds = []
            · subst hds
              have hk : (k : Int) = (p : Int) := by have := HD.out.1; simp [sgn] at this; omega
              have hk1 : ((k : Int) == (p : Int)) = true := by rw [beq_iff_eq]; exact hk
              have HV : Hid (ValR nm s p zm (-1)) := Lib.hid (HD.out.nodig nm NF2.out (by first | exact hsg.out | exact fun _ => hsg.out trivial) (HH.out))
              clear hk
              go_wp2
              try simp only [Exit.inBlock, Exit.then]
              refine ret_cell_tmp rfl rfl rfl (Blk.new w _ (mc zm)) ?_
              exact ⟨zm, -1, rfl, HV.out, ⟨by simp [zm]; try omega, by simp [zm], (HV.out).1⟩, (Below.refl _ _).alloc (Nat.le_refl _) _⟩
            · have hk : ¬ (k : Int) = (p : Int) := by have h1 := HD.out.1; have h2 := List.length_pos_iff.2 hds; simp [sgn] at h1; omega
              have hk1 : ((k : Int) == (p : Int)) = false := by rw [beq_eq_false_iff_ne]; exact hk
              obtain ⟨v, hv⟩ : ∃ v, IntKind.i64.wrap (-m) = v := ⟨_, rfl⟩
              have HV : Hid (ValR nm s p ⟨nm, 1, [], v, false⟩ (k : Int) ∧ inI v) := Lib.hid (HD.out.num nm NF2.out (by first | exact hsg.out | exact fun _ => hsg.out trivial) (Or.inl (HH.out)) hds (by simpa using hv))
              go_wp2
              try simp only [Exit.inBlock, Exit.then]
              skip
              refine ret_cell_tmp rfl rfl rfl (Blk.new w _ (mc ⟨nm, 1, [], v, false⟩)) ?_
              exact ⟨⟨nm, 1, [], v, false⟩, (k : Int), rfl, HV.out.1, ⟨by simp; omega, by simp, HV.out.2⟩, (Below.refl _ _).alloc (Nat.le_refl _) _⟩
          case pos =>
          have hd3 : decide ((q.toNat : Int) < 58) = true := by rw [decide_eq_true_iff]; exact hc2
          have HDQ : Hid (isD q = true) := Lib.hid (isD_of (by omega))
          by_cases hl : ds.length < 19
          case neg =>
            have hd4 : decide ((k : Int) < (p : Int) + 19) = false := by rw [decide_eq_false_iff_not]; have h1 := HD.out.1; simp [sgn] at h1; omega
            have hd4' : ¬ (k : Int) < (p : Int) + 19 := by simpa using hd4
            have hds : ds ≠ [] := by rintro rfl; simp at hl
            exfalso; omega
          case pos =>
          have hd4 : decide ((k : Int) < (p : Int) + 19) = true := by rw [decide_eq_true_iff]; have h1 := HD.out.1; simp [sgn] at h1; omega
          have hd4' : (k : Int) < (p : Int) + 19 := by simpa using hd4
          obtain ⟨n1, hn1⟩ : ∃ v, IntKind.i64.wrap (10 * m) = v := ⟨_, rfl⟩
          obtain ⟨n2, hn2⟩ : ∃ v, IntKind.i64.wrap (n1 - ((q.toNat : Int) - 48)) = v := ⟨_, rfl⟩
          have HD2 := Lib.hid (HD.out.snoc hkk HQ2.out.symm HDQ.out hl hn1 hn2)
          go_wp2
          go_round
          case rel => exact ⟨ds ++ [q], n2, k + 1, rfl, by go_num, HD2⟩
          case measure => simp [intOf]; omega
    · rcases hT2 with ⟨h4, x, hsl4, hx⟩ | h4
      · rcases hF2 with ⟨h5, y, hsl5, hy⟩ | h5
        · skip
          go_enter Tryz.func42, Tryz.ntmps42
          go_wp2
          clear hix
          go_loop [10, 11] (fun n to => ∃ (ds : By) (m : Int) (k : Nat), n = .int .i64 m ∧ to = .int .i64 (k : Int) ∧ Hid (DG s p true ds m k)) (fun _ to => s.length - (intOf to).toNat)
          case atStart => exact ⟨[], 0, _, rfl, (by simp [sgn]), hst0⟩
          case round =>
            clear hst0
            obtain ⟨ds, m, k, rfl, rfl, HD⟩ := hrel
            have hkl := HD.out.2.1
            have hkp : (p : Int) ≤ (k : Int) ∧ (k : Int) ≤ (p : Int) + 20 := by have h1 := HD.out.1; have h2 := HD.out.2.2.2.2.2; simp [sgn] at h1; omega
            by_cases hkk : k < s.length
            case neg =>
              have hd1 : decide (k < s.length) = false := by simp; omega
              have HH : Hid (∀ c, (s.drop k).head? = some c → isD c = false) := Lib.hid fun c h => by rw [head_no (by omega)] at h; cases h
              by_cases hds : ds = []
              · subst hds
                have hk : (k : Int) = (p : Int) + 1 := by have := HD.out.1; simp [sgn] at this; omega
                have hk1 : ((k : Int) == (p : Int) + 1) = true := by rw [beq_iff_eq]; exact hk
                have HV : Hid (ValR nm s p zm (-1)) := Lib.hid (HD.out.nodig nm NF2.out (by first | exact hsg.out | exact fun _ => hsg.out trivial) (HH.out))
                clear hk
                go_wp2
                try simp only [Exit.inBlock, Exit.then]
                refine ret_cell_tmp rfl rfl rfl (Blk.new w _ (mc zm)) ?_
                exact ⟨zm, -1, rfl, HV.out, ⟨by simp [zm]; try omega, by simp [zm], (HV.out).1⟩, (Below.refl _ _).alloc (Nat.le_refl _) _⟩
              · have hk : ¬ (k : Int) = (p : Int) + 1 := by have h1 := HD.out.1; have h2 := List.length_pos_iff.2 hds; simp [sgn] at h1; omega
                have hk1 : ((k : Int) == (p : Int) + 1) = false := by rw [beq_eq_false_iff_ne]; exact hk
                obtain ⟨v, hv⟩ : ∃ v, v = m := ⟨_, rfl⟩
                have HV : Hid (ValR nm s p ⟨nm, 1, [], v, false⟩ (k : Int) ∧ inI v) := Lib.hid (HD.out.num nm NF2.out (by first | exact hsg.out | exact fun _ => hsg.out trivial) (Or.inl (HH.out)) hds (by simpa using hv))
                rw [← hv]
                clear hv
                go_wp2
                try simp only [Exit.inBlock, Exit.then]
                skip
                refine ret_cell_tmp rfl rfl rfl (Blk.new w _ (mc ⟨nm, 1, [], v, false⟩)) ?_
                exact ⟨⟨nm, 1, [], v, false⟩, (k : Int), rfl, HV.out.1, ⟨by simp; omega, by simp, HV.out.2⟩, (Below.refl _ _).alloc (Nat.le_refl _) _⟩
            case pos =>
            have hd1 : decide (k < s.length) = true := by simp; omega
            have hixk := ix_str ⟨s.toArray⟩ k (by rw [hss]; exact hkk) s[k] (by rfl)
            obtain ⟨q, hq⟩ : ∃ q, q = s[k] := ⟨_, rfl⟩
            rw [← hq] at hixk
            have HH0 := Lib.hid (head_at hkk hq.symm)
            have HQ2 := Lib.hid hq
            clear hq
            by_cases hc1 : (47 : Int) < (q.toNat : Int)
            case neg =>
              have hd2 : decide ((47 : Int) < (q.toNat : Int)) = false := by rw [decide_eq_false_iff_not]; exact hc1
              have HH : Hid (∀ c, (s.drop k).head? = some c → isD c = false) := Lib.hid fun c h => by
                rw [HH0.out] at h; cases h
                cases h2 : isD q with
                | false => rfl
                | true => have := isD_to h2; omega
              by_cases hds : ds = []
              · subst hds
                have hk : (k : Int) = (p : Int) + 1 := by have := HD.out.1; simp [sgn] at this; omega
                have hk1 : ((k : Int) == (p : Int) + 1) = true := by rw [beq_iff_eq]; exact hk
                have HV : Hid (ValR nm s p zm (-1)) := Lib.hid (HD.out.nodig nm NF2.out (by first | exact hsg.out | exact fun _ => hsg.out trivial) (HH.out))
                clear hk
                go_wp2
                try simp only [Exit.inBlock, Exit.then]
                refine ret_cell_tmp rfl rfl rfl (Blk.new w _ (mc zm)) ?_
                exact ⟨zm, -1, rfl, HV.out, ⟨by simp [zm]; try omega, by simp [zm], (HV.out).1⟩, (Below.refl _ _).alloc (Nat.le_refl _) _⟩
              · have hk : ¬ (k : Int) = (p : Int) + 1 := by have h1 := HD.out.1; have h2 := List.length_pos_iff.2 hds; simp [sgn] at h1; omega
                have hk1 : ((k : Int) == (p : Int) + 1) = false := by rw [beq_eq_false_iff_ne]; exact hk
                obtain ⟨v, hv⟩ : ∃ v, v = m := ⟨_, rfl⟩
                have HV : Hid (ValR nm s p ⟨nm, 1, [], v, false⟩ (k : Int) ∧ inI v) := Lib.hid (HD.out.num nm NF2.out (by first | exact hsg.out | exact fun _ => hsg.out trivial) (Or.inl (HH.out)) hds (by simpa using hv))
                rw [← hv]
                clear hv
                go_wp2
                try simp only [Exit.inBlock, Exit.then]
                skip
                refine ret_cell_tmp rfl rfl rfl (Blk.new w _ (mc ⟨nm, 1, [], v, false⟩)) ?_
                exact ⟨⟨nm, 1, [], v, false⟩, (k : Int), rfl, HV.out.1, ⟨by simp; omega, by simp, HV.out.2⟩, (Below.refl _ _).alloc (Nat.le_refl _) _⟩
            case pos =>
            have hd2 : decide ((47 : Int) < (q.toNat : Int)) = true := by rw [decide_eq_true_iff]; exact hc1
            by_cases hc2 : (q.toNat : Int) < 58
            case neg =>
              have hd3 : decide ((q.toNat : Int) < 58) = false := by rw [decide_eq_false_iff_not]; exact hc2
              have HH : Hid (∀ c, (s.drop k).head? = some c → isD c = false) := Lib.hid fun c h => by
                rw [HH0.out] at h; cases h
                cases h2 : isD q with
                | false => rfl
                | true => have := isD_to h2; omega
              by_cases hds : ds = []
              · subst hds
                have hk : (k : Int) = (p : Int) + 1 := by have := HD.out.1; simp [sgn] at this; omega
                have hk1 : ((k : Int) == (p : Int) + 1) = true := by rw [beq_iff_eq]; exact hk
                have HV : Hid (ValR nm s p zm (-1)) := Lib.hid (HD.out.nodig nm NF2.out (by first | exact hsg.out | exact fun _ => hsg.out trivial) (HH.out))
                clear hk
                go_wp2
                try simp only [Exit.inBlock, Exit.then]
                refine ret_cell_tmp rfl rfl rfl (Blk.new w _ (mc zm)) ?_
                exact ⟨zm, -1, rfl, HV.out, ⟨by simp [zm]; try omega, by simp [zm], (HV.out).1⟩, (Below.refl _ _).alloc (Nat.le_refl _) _⟩
              · have hk : ¬ (k : Int) = (p : Int) + 1 := by have h1 := HD.out.1; have h2 := List.length_pos_iff.2 hds; simp [sgn] at h1; omega
                have hk1 : ((k : Int) == (p : Int) + 1) = false := by rw [beq_eq_false_iff_ne]; exact hk
                obtain ⟨v, hv⟩ : ∃ v, v = m := ⟨_, rfl⟩
                have HV : Hid (ValR nm s p ⟨nm, 1, [], v, false⟩ (k : Int) ∧ inI v) := Lib.hid (HD.out.num nm NF2.out (by first | exact hsg.out | exact fun _ => hsg.out trivial) (Or.inl (HH.out)) hds (by simpa using hv))
                rw [← hv]
                clear hv
                go_wp2
                try simp only [Exit.inBlock, Exit.then]
                skip
                refine ret_cell_tmp rfl rfl rfl (Blk.new w _ (mc ⟨nm, 1, [], v, false⟩)) ?_
                exact ⟨⟨nm, 1, [], v, false⟩, (k : Int), rfl, HV.out.1, ⟨by simp; omega, by simp, HV.out.2⟩, (Below.refl _ _).alloc (Nat.le_refl _) _⟩
            case pos =>
            have hd3 : decide ((q.toNat : Int) < 58) = true := by rw [decide_eq_true_iff]; exact hc2
            have HDQ : Hid (isD q = true) := Lib.hid (isD_of (by omega))
            by_cases hl : ds.length < 19
            case neg =>
              have hd4 : decide ((k : Int) < (p : Int) + 1 + 19) = false := by rw [decide_eq_false_iff_not]; have h1 := HD.out.1; simp [sgn] at h1; omega
              have hd4' : ¬ (k : Int) < (p : Int) + 1 + 19 := by simpa using hd4
              have hds : ds ≠ [] := by rintro rfl; simp at hl
              have hk : ¬ (k : Int) = (p : Int) + 1 := by have h1 := HD.out.1; have h2 := List.length_pos_iff.2 hds; simp [sgn] at h1; omega
              have hk1 : ((k : Int) == (p : Int) + 1) = false := by rw [beq_eq_false_iff_ne]; exact hk
              obtain ⟨v, hv⟩ : ∃ v, v = m := ⟨_, rfl⟩
              have HV : Hid (ValR nm s p ⟨nm, 1, [], v, false⟩ (k : Int) ∧ inI v) := Lib.hid (HD.out.num nm NF2.out (by first | exact hsg.out | exact fun _ => hsg.out trivial) (Or.inr (by omega)) hds (by simpa using hv))
              rw [← hv]
              clear hv
              go_wp2
              try simp only [Exit.inBlock, Exit.then]
              skip
              refine ret_cell_tmp rfl rfl rfl (Blk.new w _ (mc ⟨nm, 1, [], v, false⟩)) ?_
              exact ⟨⟨nm, 1, [], v, false⟩, (k : Int), rfl, HV.out.1, ⟨by simp; omega, by simp, HV.out.2⟩, (Below.refl _ _).alloc (Nat.le_refl _) _⟩
            case pos =>
            have hd4 : decide ((k : Int) < (p : Int) + 1 + 19) = true := by rw [decide_eq_true_iff]; have h1 := HD.out.1; simp [sgn] at h1; omega
            have hd4' : (k : Int) < (p : Int) + 1 + 19 := by simpa using hd4
            obtain ⟨n1, hn1⟩ : ∃ v, IntKind.i64.wrap (10 * m) = v := ⟨_, rfl⟩
            obtain ⟨n2, hn2⟩ : ∃ v, IntKind.i64.wrap (n1 - ((q.toNat : Int) - 48)) = v := ⟨_, rfl⟩
            have HD2 := Lib.hid (HD.out.snoc hkk HQ2.out.symm HDQ.out hl hn1 hn2)
            go_wp2
            go_round
            case rel => exact ⟨ds ++ [q], n2, k + 1, rfl, by go_num, HD2⟩
            case measure => simp [intOf]; omega
        · skip
          go_enter Tryz.func42, Tryz.ntmps42
          go_wp2
          clear hix
          go_loop [10, 11] (fun n to => ∃ (ds : By) (m : Int) (k : Nat), n = .int .i64 m ∧ to = .int .i64 (k : Int) ∧ Hid (DG s p true ds m k)) (fun _ to => s.length - (intOf to).toNat)
          case atStart => exact ⟨[], 0, _, rfl, (by simp [sgn]), hst0⟩
          case round =>
            clear hst0
            obtain ⟨ds, m, k, rfl, rfl, HD⟩ := hrel
            have hkl := HD.out.2.1
            have hkp : (p : Int) ≤ (k : Int) ∧ (k : Int) ≤ (p : Int) + 20 := by have h1 := HD.out.1; have h2 := HD.out.2.2.2.2.2; simp [sgn] at h1; omega
            by_cases hkk : k < s.length
            case neg =>
              have hd1 : decide (k < s.length) = false := by simp; omega
              have HH : Hid (∀ c, (s.drop k).head? = some c → isD c = false) := Lib.hid fun c h => by rw [head_no (by omega)] at h; cases h
              by_cases hds : ds = []
              · subst hds
                have hk : (k : Int) = (p : Int) + 1 := by have := HD.out.1; simp [sgn] at this; omega
                have hk1 : ((k : Int) == (p : Int) + 1) = true := by rw [beq_iff_eq]; exact hk
                have HV : Hid (ValR nm s p zm (-1)) := Lib.hid (HD.out.nodig nm NF2.out (by first | exact hsg.out | exact fun _ => hsg.out trivial) (HH.out))
                clear hk
                go_wp2
                try simp only [Exit.inBlock, Exit.then]
                refine ret_cell_tmp rfl rfl rfl (Blk.new w _ (mc zm)) ?_
                exact ⟨zm, -1, rfl, HV.out, ⟨by simp [zm]; try omega, by simp [zm], (HV.out).1⟩, (Below.refl _ _).alloc (Nat.le_refl _) _⟩
              · have hk : ¬ (k : Int) = (p : Int) + 1 := by have h1 := HD.out.1; have h2 := List.length_pos_iff.2 hds; simp [sgn] at h1; omega
                have hk1 : ((k : Int) == (p : Int) + 1) = false := by rw [beq_eq_false_iff_ne]; exact hk
                obtain ⟨v, hv⟩ : ∃ v, v = m := ⟨_, rfl⟩
                have HV : Hid (ValR nm s p ⟨nm, 1, [], v, false⟩ (k : Int) ∧ inI v) := Lib.hid (HD.out.num nm NF2.out (by first | exact hsg.out | exact fun _ => hsg.out trivial) (Or.inl (HH.out)) hds (by simpa using hv))
                rw [← hv]
                clear hv
                go_wp2
                try simp only [Exit.inBlock, Exit.then]
                skip
                refine ret_cell_tmp rfl rfl rfl (Blk.new w _ (mc ⟨nm, 1, [], v, false⟩)) ?_
                exact ⟨⟨nm, 1, [], v, false⟩, (k : Int), rfl, HV.out.1, ⟨by simp; omega, by simp, HV.out.2⟩, (Below.refl _ _).alloc (Nat.le_refl _) _⟩
            case pos =>
            have hd1 : decide (k < s.length) = true := by simp; omega
            have hixk := ix_str ⟨s.toArray⟩ k (by rw [hss]; exact hkk) s[k] (by rfl)
            obtain ⟨q, hq⟩ : ∃ q, q = s[k] := ⟨_, rfl⟩
            rw [← hq] at hixk
            have HH0 := Lib.hid (head_at hkk hq.symm)
            have HQ2 := Lib.hid hq
            clear hq
            by_cases hc1 : (47 : Int) < (q.toNat : Int)
            case neg =>
              have hd2 : decide ((47 : Int) < (q.toNat : Int)) = false := by rw [decide_eq_false_iff_not]; exact hc1
              have HH : Hid (∀ c, (s.drop k).head? = some c → isD c = false) := Lib.hid fun c h => by
                rw [HH0.out] at h; cases h
                cases h2 : isD q with
                | false => rfl
                | true => have := isD_to h2; omega
              by_cases hds : ds = []
              · subst hds
                have hk : (k : Int) = (p : Int) + 1 := by have := HD.out.1; simp [sgn] at this; omega
                have hk1 : ((k : Int) == (p : Int) + 1) = true := by rw [beq_iff_eq]; exact hk
                have HV : Hid (ValR nm s p zm (-1)) := Lib.hid (HD.out.nodig nm NF2.out (by first | exact hsg.out | exact fun _ => hsg.out trivial) (HH.out))
                clear hk
                go_wp2
                try simp only [Exit.inBlock, Exit.then]
                refine ret_cell_tmp rfl rfl rfl (Blk.new w _ (mc zm)) ?_
                exact ⟨zm, -1, rfl, HV.out, ⟨by simp [zm]; try omega, by simp [zm], (HV.out).1⟩, (Below.refl _ _).alloc (Nat.le_refl _) _⟩
              · have hk : ¬ (k : Int) = (p : Int) + 1 := by have h1 := HD.out.1; have h2 := List.length_pos_iff.2 hds; simp [sgn] at h1; omega
                have hk1 : ((k : Int) == (p : Int) + 1) = false := by rw [beq_eq_false_iff_ne]; exact hk
                obtain ⟨v, hv⟩ : ∃ v, v = m := ⟨_, rfl⟩
                have HV : Hid (ValR nm s p ⟨nm, 1, [], v, false⟩ (k : Int) ∧ inI v) := Lib.hid (HD.out.num nm NF2.out (by first | exact hsg.out | exact fun _ => hsg.out trivial) (Or.inl (HH.out)) hds (by simpa using hv))
                rw [← hv]
                clear hv
                go_wp2
                try simp only [Exit.inBlock, Exit.then]
                skip
                refine ret_cell_tmp rfl rfl rfl (Blk.new w _ (mc ⟨nm, 1, [], v, false⟩)) ?_
                exact ⟨⟨nm, 1, [], v, false⟩, (k : Int), rfl, HV.out.1, ⟨by simp; omega, by simp, HV.out.2⟩, (Below.refl _ _).alloc (Nat.le_refl _) _⟩
            case pos =>
            have hd2 : decide ((47 : Int) < (q.toNat : Int)) = true := by rw [decide_eq_true_iff]; exact hc1
            by_cases hc2 : (q.toNat : Int) < 58
            case neg =>
              have hd3 : decide ((q.toNat : Int) < 58) = false := by rw [decide_eq_false_iff_not]; exact hc2
              have HH : Hid (∀ c, (s.drop k).head? = some c → isD c = false) := Lib.hid fun c h => by
                rw [HH0.out] at h; cases h
                cases h2 : isD q with
                | false => rfl
                | true => have := isD_to h2; omega
              by_cases hds : ds = []
              · subst hds
                have hk : (k : Int) = (p : Int) + 1 := by have := HD.out.1; simp [sgn] at this; omega
                have hk1 : ((k : Int) == (p : Int) + 1) = true := by rw [beq_iff_eq]; exact hk
                have HV : Hid (ValR nm s p zm (-1)) := Lib.hid (HD.out.nodig nm NF2.out (by first | exact hsg.out | exact fun _ => hsg.out trivial) (HH.out))
                clear hk
                go_wp2
                try simp only [Exit.inBlock, Exit.then]
                refine ret_cell_tmp rfl rfl rfl (Blk.new w _ (mc zm)) ?_
                exact ⟨zm, -1, rfl, HV.out, ⟨by simp [zm]; try omega, by simp [zm], (HV.out).1⟩, (Below.refl _ _).alloc (Nat.le_refl _) _⟩
              · have hk : ¬ (k : Int) = (p : Int) + 1 := by have h1 := HD.out.1; have h2 := List.length_pos_iff.2 hds; simp [sgn] at h1; omega
                have hk1 : ((k : Int) == (p : Int) + 1) = false := by rw [beq_eq_false_iff_ne]; exact hk
                obtain ⟨v, hv⟩ : ∃ v, v = m := ⟨_, rfl⟩
                have HV : Hid (ValR nm s p ⟨nm, 1, [], v, false⟩ (k : Int) ∧ inI v) := Lib.hid (HD.out.num nm NF2.out (by first | exact hsg.out | exact fun _ => hsg.out trivial) (Or.inl (HH.out)) hds (by simpa using hv))
                rw [← hv]
                clear hv
                go_wp2
                try simp only [Exit.inBlock, Exit.then]
                skip
                refine ret_cell_tmp rfl rfl rfl (Blk.new w _ (mc ⟨nm, 1, [], v, false⟩)) ?_
                exact ⟨⟨nm, 1, [], v, false⟩, (k : Int), rfl, HV.out.1, ⟨by simp; omega, by simp, HV.out.2⟩, (Below.refl _ _).alloc (Nat.le_refl _) _⟩
            case pos =>
            have hd3 : decide ((q.toNat : Int) < 58) = true := by rw [decide_eq_true_iff]; exact hc2
            have HDQ : Hid (isD q = true) := Lib.hid (isD_of (by omega))
            by_cases hl : ds.length < 19
            case neg =>
              have hd4 : decide ((k : Int) < (p : Int) + 1 + 19) = false := by rw [decide_eq_false_iff_not]; have h1 := HD.out.1; simp [sgn] at h1; omega
              have hd4' : ¬ (k : Int) < (p : Int) + 1 + 19 := by simpa using hd4
              have hds : ds ≠ [] := by rintro rfl; simp at hl
              exfalso; omega
            case pos =>
            have hd4 : decide ((k : Int) < (p : Int) + 1 + 19) = true := by rw [decide_eq_true_iff]; have h1 := HD.out.1; simp [sgn] at h1; omega
            have hd4' : (k : Int) < (p : Int) + 1 + 19 := by simpa using hd4
            obtain ⟨n1, hn1⟩ : ∃ v, IntKind.i64.wrap (10 * m) = v := ⟨_, rfl⟩
            obtain ⟨n2, hn2⟩ : ∃ v, IntKind.i64.wrap (n1 - ((q.toNat : Int) - 48)) = v := ⟨_, rfl⟩
            have HD2 := Lib.hid (HD.out.snoc hkk HQ2.out.symm HDQ.out hl hn1 hn2)
            go_wp2
            go_round
            case rel => exact ⟨ds ++ [q], n2, k + 1, rfl, by go_num, HD2⟩
            case measure => simp [intOf]; omega
      · have h5 : ¬ (p : Int) + 5 ≤ (s.length : Int) := by omega
        clear hF2
        go_enter Tryz.func42, Tryz.ntmps42
        go_wp2
        clear hix
        go_loop [10, 11] (fun n to => ∃ (ds : By) (m : Int) (k : Nat), n = .int .i64 m ∧ to = .int .i64 (k : Int) ∧ Hid (DG s p true ds m k)) (fun _ to => s.length - (intOf to).toNat)
        case atStart => exact ⟨[], 0, _, rfl, (by simp [sgn]), hst0⟩
        case round =>
          clear hst0
          obtain ⟨ds, m, k, rfl, rfl, HD⟩ := hrel
          have hkl := HD.out.2.1
          have hkp : (p : Int) ≤ (k : Int) ∧ (k : Int) ≤ (p : Int) + 20 := by have h1 := HD.out.1; have h2 := HD.out.2.2.2.2.2; simp [sgn] at h1; omega
          by_cases hkk : k < s.length
          case neg =>
            have hd1 : decide (k < s.length) = false := by simp; omega
            have HH : Hid (∀ c, (s.drop k).head? = some c → isD c = false) := Lib.hid fun c h => by rw [head_no (by omega)] at h; cases h
            by_cases hds : ds = []
            · subst hds
              have hk : (k : Int) = (p : Int) + 1 := by have := HD.out.1; simp [sgn] at this; omega
              have hk1 : ((k : Int) == (p : Int) + 1) = true := by rw [beq_iff_eq]; exact hk
              have HV : Hid (ValR nm s p zm (-1)) := Lib.hid (HD.out.nodig nm NF2.out (by first | exact hsg.out | exact fun _ => hsg.out trivial) (HH.out))
              clear hk
              go_wp2
              try simp only [Exit.inBlock, Exit.then]
              refine ret_cell_tmp rfl rfl rfl (Blk.new w _ (mc zm)) ?_
              exact ⟨zm, -1, rfl, HV.out, ⟨by simp [zm]; try omega, by simp [zm], (HV.out).1⟩, (Below.refl _ _).alloc (Nat.le_refl _) _⟩
            · have hk : ¬ (k : Int) = (p : Int) + 1 := by have h1 := HD.out.1; have h2 := List.length_pos_iff.2 hds; simp [sgn] at h1; omega
              have hk1 : ((k : Int) == (p : Int) + 1) = false := by rw [beq_eq_false_iff_ne]; exact hk
              obtain ⟨v, hv⟩ : ∃ v, v = m := ⟨_, rfl⟩
              have HV : Hid (ValR nm s p ⟨nm, 1, [], v, false⟩ (k : Int) ∧ inI v) := Lib.hid (HD.out.num nm NF2.out (by first | exact hsg.out | exact fun _ => hsg.out trivial) (Or.inl (HH.out)) hds (by simpa using hv))
              rw [← hv]
              clear hv
              go_wp2
              try simp only [Exit.inBlock, Exit.then]
              skip
              refine ret_cell_tmp rfl rfl rfl (Blk.new w _ (mc ⟨nm, 1, [], v, false⟩)) ?_
              exact ⟨⟨nm, 1, [], v, false⟩, (k : Int), rfl, HV.out.1, ⟨by simp; omega, by simp, HV.out.2⟩, (Below.refl _ _).alloc (Nat.le_refl _) _⟩
          case pos =>
          have hd1 : decide (k < s.length) = true := by simp; omega
          have hixk := ix_str ⟨s.toArray⟩ k (by rw [hss]; exact hkk) s[k] (by rfl)
          obtain ⟨q, hq⟩ : ∃ q, q = s[k] := ⟨_, rfl⟩
          rw [← hq] at hixk
          have HH0 := Lib.hid (head_at hkk hq.symm)
          have HQ2 := Lib.hid hq
          clear hq
          by_cases hc1 : (47 : Int) < (q.toNat : Int)
          case neg =>
            have hd2 : decide ((47 : Int) < (q.toNat : Int)) = false := by rw [decide_eq_false_iff_not]; exact hc1
            have HH : Hid (∀ c, (s.drop k).head? = some c → isD c = false) := Lib.hid fun c h => by
              rw [HH0.out] at h; cases h
              cases h2 : isD q with
              | false => rfl
              | true => have := isD_to h2; omega
            by_cases hds : ds = []
            · subst hds
              have hk : (k : Int) = (p : Int) + 1 := by have := HD.out.1; simp [sgn] at this; omega
              have hk1 : ((k : Int) == (p : Int) + 1) = true := by rw [beq_iff_eq]; exact hk
              have HV : Hid (ValR nm s p zm (-1)) := Lib.hid (HD.out.nodig nm NF2.out (by first | exact hsg.out | exact fun _ => hsg.out trivial) (HH.out))
              clear hk
              go_wp2
              try simp only [Exit.inBlock, Exit.then]
              refine ret_cell_tmp rfl rfl rfl (Blk.new w _ (mc zm)) ?_
              exact ⟨zm, -1, rfl, HV.out, ⟨by simp [zm]; try omega, by simp [zm], (HV.out).1⟩, (Below.refl _ _).alloc (Nat.le_refl _) _⟩
            · have hk : ¬ (k : Int) = (p : Int) + 1 := by have h1 := HD.out.1; have h2 := List.length_pos_iff.2 hds; simp [sgn] at h1; omega
              have hk1 : ((k : Int) == (p : Int) + 1) = false := by rw [beq_eq_false_iff_ne]; exact hk
              obtain ⟨v, hv⟩ : ∃ v, v = m := ⟨_, rfl⟩
              have HV : Hid (ValR nm s p ⟨nm, 1, [], v, false⟩ (k : Int) ∧ inI v) := Lib.hid (HD.out.num nm NF2.out (by first | exact hsg.out | exact fun _ => hsg.out trivial) (Or.inl (HH.out)) hds (by simpa using hv))
              rw [← hv]
              clear hv
              go_wp2
              try simp only [Exit.inBlock, Exit.then]
              skip
              refine ret_cell_tmp rfl rfl rfl (Blk.new w _ (mc ⟨nm, 1, [], v, false⟩)) ?_
              exact ⟨⟨nm, 1, [], v, false⟩, (k : Int), rfl, HV.out.1, ⟨by simp; omega, by simp, HV.out.2⟩, (Below.refl _ _).alloc (Nat.le_refl _) _⟩
          case pos =>
          have hd2 : decide ((47 : Int) < (q.toNat : Int)) = true := by rw [decide_eq_true_iff]; exact hc1
          by_cases hc2 : (q.toNat : Int) < 58
          case neg =>
            have hd3 : decide ((q.toNat : Int) < 58) = false := by rw [decide_eq_false_iff_not]; exact hc2
            have HH : Hid (∀ c, (s.drop k).head? = some c → isD c = false) := Lib.hid fun c h => by
              rw [HH0.out] at h; cases h
              cases h2 : isD q with
              | false => rfl
              | true => have := isD_to h2; omega
            by_cases hds : ds = []
            · subst hds
              have hk : (k : Int) = (p : Int) + 1 := by have := HD.out.1; simp [sgn] at this; omega
              have hk1 : ((k : Int) == (p : Int) + 1) = true := by rw [beq_iff_eq]; exact hk
              have HV : Hid (ValR nm s p zm (-1)) := Lib.hid (HD.out.nodig nm NF2.out (by first | exact hsg.out | exact fun _ => hsg.out trivial) (HH.out))
              clear hk
              go_wp2
              try simp only [Exit.inBlock, Exit.then]
              refine ret_cell_tmp rfl rfl rfl (Blk.new w _ (mc zm)) ?_
              exact ⟨zm, -1, rfl, HV.out, ⟨by simp [zm]; try omega, by simp [zm], (HV.out).1⟩, (Below.refl _ _).alloc (Nat.le_refl _) _⟩
            · have hk : ¬ (k : Int) = (p : Int) + 1 := by have h1 := HD.out.1; have h2 := List.length_pos_iff.2 hds; simp [sgn] at h1; omega
              have hk1 : ((k : Int) == (p : Int) + 1) = false := by rw [beq_eq_false_iff_ne]; exact hk
              obtain ⟨v, hv⟩ : ∃ v, v = m := ⟨_, rfl⟩
              have HV : Hid (ValR nm s p ⟨nm, 1, [], v, false⟩ (k : Int) ∧ inI v) := Lib.hid (HD.out.num nm NF2.out (by first | exact hsg.out | exact fun _ => hsg.out trivial) (Or.inl (HH.out)) hds (by simpa using hv))
              rw [← hv]
              clear hv
              go_wp2
              try simp only [Exit.inBlock, Exit.then]
              skip
              refine ret_cell_tmp rfl rfl rfl (Blk.new w _ (mc ⟨nm, 1, [], v, false⟩)) ?_
              exact ⟨⟨nm, 1, [], v, false⟩, (k : Int), rfl, HV.out.1, ⟨by simp; omega, by simp, HV.out.2⟩, (Below.refl _ _).alloc (Nat.le_refl _) _⟩
          case pos =>
          have hd3 : decide ((q.toNat : Int) < 58) = true := by rw [decide_eq_true_iff]; exact hc2
          have HDQ : Hid (isD q = true) := Lib.hid (isD_of (by omega))
          by_cases hl : ds.length < 19
          case neg =>
            have hd4 : decide ((k : Int) < (p : Int) + 1 + 19) = false := by rw [decide_eq_false_iff_not]; have h1 := HD.out.1; simp [sgn] at h1; omega
            have hd4' : ¬ (k : Int) < (p : Int) + 1 + 19 := by simpa using hd4
            have hds : ds ≠ [] := by rintro rfl; simp at hl
            exfalso; omega
          case pos =>
          have hd4 : decide ((k : Int) < (p : Int) + 1 + 19) = true := by rw [decide_eq_true_iff]; have h1 := HD.out.1; simp [sgn] at h1; omega
          have hd4' : (k : Int) < (p : Int) + 1 + 19 := by simpa using hd4
          obtain ⟨n1, hn1⟩ : ∃ v, IntKind.i64.wrap (10 * m) = v := ⟨_, rfl⟩
          obtain ⟨n2, hn2⟩ : ∃ v, IntKind.i64.wrap (n1 - ((q.toNat : Int) - 48)) = v := ⟨_, rfl⟩
          have HD2 := Lib.hid (HD.out.snoc hkk HQ2.out.symm HDQ.out hl hn1 hn2)
          go_wp2
          go_round
          case rel => exact ⟨ds ++ [q], n2, k + 1, rfl, by go_num, HD2⟩
          case measure => simp [intOf]; omega
end Go.Proofs.YtffllacphfapnaaGreatDoor
