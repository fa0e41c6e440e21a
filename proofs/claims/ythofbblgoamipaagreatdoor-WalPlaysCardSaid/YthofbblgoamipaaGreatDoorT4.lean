/-
  Chapter 12: a crash; the chapter's example (known).
-/
import Derived.Test.YthofbblgoamipaaGreatDoorT3
import Derived.Lib.SmallJoins
namespace Go.Proofs.YthofbblgoamipaaGreatDoor.Wa
open Go.RowKit Pt
set_option linter.unusedVariables false
set_option linter.unusedSimpArgs false
set_option maxRecDepth 100000

/-- a plate that a log is to be opened from -/
structure CX (Y : Nat → Prop) (W : World) (q m : Nat) (nm : By) (st : St) (base : By) (R : List By) (N T rm : Nat) : Prop where
  pa : PY Y W q m st
  dk : Disk nm st.fs base R N
  all : AllS st.fs
  tt : tot st.fs ≤ T
  rm : st.room = rm
  down : st.down = false
  arm : st.armed = false
theorem Disk.ne {nm : By} {fs : List Fl} {base : By} {R : List By} {N : Nat} (h : Disk nm fs base R N) : fs ≠ [] := by
  obtain ⟨a, old, pre, f, jk, h⟩ := h
  intro e
  have := (h.hh.mem (f.fl nm)).2 ⟨f, by simp, rfl⟩
  rw [e] at this
  cases this
theorem crash_lx {Y : Nat → Prop} {g q m : Nat} {nm : By} {most : Nat} {x : Wl} {base : By} {R : List By} {k N T rm : Nat} (kv : Value) (ks : List Int) (w : World) (h : LX Y w g q m nm most x base R k N T rm) (hk : Rd w 1 kv ks.length (ks.map fun j => Value.int .i64 j)) (hkb : 0 < ks.length → ∀ b, kv.ownBlock = some b → Y b) :
    Calls Tryz.prog 25 #[.pointer (some ⟨q, 0, none⟩), kv] w fun e w' => e = .returned (.tuple #[]) ∧ Kp Y w w' ∧ ∃ st' m', CX Y w' q m nm st' base (R.take m') N T rm ∧ k ≤ m' ∧ m' ≤ R.length ∧ ((∀ i, kg ks i ≤ 0) → m' = k) := by
  refine (crash_py q m x.st kv ks w h.wa.py hk hkb).mono ?_
  rintro e w' ⟨rfl, h1, h2⟩
  obtain ⟨m', h3, h4, h5, h6, h7⟩ := ld_crash h.lv.disk h.wa.py.fit.asc (fun f hf => (h.wa.py.fit.file f hf).2.1) (kg ks)
  exact ⟨rfl, h2, crash x.st ks, m', ⟨h1, h6, h7, Nat.le_trans (tot_cr _ _) h.tt, h.rm, rfl, rfl⟩, h3, h4, h5⟩
theorem open_cx {Y : Nat → Prop} {q m : Nat} {nm : By} {most : Nat} {st : St} {base : By} {R : List By} {N T rm : Nat} (w : World) (h : CX Y w q m nm st base R N T rm) (hn1 : 1 ≤ nm.length) (hn : nm.length ≤ 32) (hm1 : 1 ≤ most) (hm : most ≤ 1048576) (hN : N ≤ 99) (hR : R.length ≤ 1000000) :
    Calls Tryz.prog 11 #[.pointer (some ⟨q, 0, none⟩), .string ⟨nm.toArray⟩, .int .i64 (most : Int)] w fun e w' => Kp Y w w' ∧ ∃ g bv rv x Yc, e = .returned (.tuple #[.pointer (some ⟨g, 0, none⟩), bv, rv, .int .i64 0]) ∧ OX Y w w' q m nm most base R R.length N T rm st g bv rv x Yc := by
  refine (open_lx w h.pa hn1 hn hm1 hm h.down h.dk hN h.tt h.rm hR).mono ?_
  rintro e w' ⟨h1, h2⟩
  refine ⟨h1, ?_⟩
  rcases h2 with h2 | ⟨h2, _⟩
  · exact h2
  · rw [h.arm] at h2; cases h2
theorem const_rd (W : World) (b : By) : Rd (W.alloc (.cells (Lib.byteCells b).toArray 5 (b.length, b.length + 1))) 1 (.slice (some ⟨W.heap.size, 0, none⟩) b.length b.length) b.length (Lib.byteCells b) ∧
    Below W.heap.size W (W.alloc (.cells (Lib.byteCells b).toArray 5 (b.length, b.length + 1))) := by
  refine ⟨⟨by unfold Lib.byteCells; simp, .inr ⟨W.heap.size, 0, b.length, rfl, Nat.le_refl _, fun j u hj => ?_⟩⟩, (Below.refl _ _).alloc (Nat.le_refl _) _⟩
  rw [Go.Joins.cell_alloc_mark_at _ _ _ _ _ _ rfl, Nat.zero_add]
  simpa using hj
/-- a log of nothing that is armed -/
theorem LX.more {Y : Nat → Prop} {W W' : World} {g q m : Nat} {nm : By} {most : Nat} {x : Wl} {base : By} {R : List By} {k N T rm : Nat} (h : LX Y W g q m nm most x base R k N T rm) (hb : Below W.heap.size W W') : LX (fun k => Y k ∨ (W.heap.size ≤ k ∧ k < W'.heap.size)) W' g q m nm most x base R k N T rm := ⟨h.wa.more hb, h.lv, h.tt, h.rm⟩
theorem LX.below {Y : Nat → Prop} {W W' : World} {g q m : Nat} {nm : By} {most : Nat} {x : Wl} {base : By} {R : List By} {k N T rm : Nat} (h : LX Y W g q m nm most x base R k N T rm) (hb : Below W.heap.size W W') : LX Y W' g q m nm most x base R k N T rm := ⟨h.wa.below hb, h.lv, h.tt, h.rm⟩
theorem LX.mono {X Y : Nat → Prop} {W : World} {g q m : Nat} {nm : By} {most : Nat} {x : Wl} {base : By} {R : List By} {k N T rm : Nat} (h : LX Y W g q m nm most x base R k N T rm) (hs : ∀ k, X k → Y k) : LX X W g q m nm most x base R k N T rm := ⟨h.wa.mono hs, h.lv, h.tt, h.rm⟩
/-- Append where no power goes out -/
theorem add_un {Y : Nat → Prop} {g q m : Nat} {nm : By} {most : Nat} {x : Wl} {base : By} {R : List By} {k N T rm : Nat} (b : By) (bv : Value) (w : World) (h : LX Y w g q m nm most x base R k N T rm) (hu : x.st.armed = false) (hn : nm.length ≤ 32) (hN : N < 99) (hb : b.length ≤ 60000)
    (hrd : Rd w 1 bv b.length (Lib.byteCells b)) (hbY : 0 < b.length → ∀ k, bv.ownBlock = some k → Y k) (hm : most ≤ 1000000000) (hR : R.length ≤ 1000000) (hT : T + b.length + 24 ≤ rm) :
    Calls Tryz.prog 12 #[.pointer (some ⟨g, 0, none⟩), bv] w fun e w' => e = .returned (.int .i64 0) ∧ Kp Y w w' ∧ ∃ x' k', LX Y w' g q m nm most x' base (R ++ [b]) k' (N + 1) (T + b.length + 24) rm ∧ x'.st.armed = false ∧ k ≤ k' ∧ (k' = k ∨ k' = R.length) := by
  refine (add_lx b bv w h hn hN hb hrd hbY hm hR hT).mono ?_
  rintro e w' ⟨h1, r, rfl, h2, h3, h4, h5, h6⟩
  rcases h6 with ⟨h6, k', h7, h8, h9⟩ | ⟨_, _, _, h9, _⟩
  · exact ⟨by rw [h6]; rfl, h1, r.2, k', ⟨h2, h7, h3, h4⟩, h5 hu, h8, h9⟩
  · rw [hu] at h9; cases h9
theorem sync_un {Y : Nat → Prop} {g q m : Nat} {nm : By} {most : Nat} {x : Wl} {base : By} {R : List By} {k N T rm : Nat} (w : World) (h : LX Y w g q m nm most x base R k N T rm) (hu : x.st.armed = false) (hn : nm.length ≤ 32) (hN : N ≤ 99) :
    Calls Tryz.prog 13 #[.pointer (some ⟨g, 0, none⟩)] w fun e w' => e = .returned (.int .i64 0) ∧ Kp Y w w' ∧ ∃ x', LX Y w' g q m nm most x' base R R.length N T rm ∧ x'.st.armed = false := by
  refine (sync_lx w h hn hN).mono ?_
  rintro e w' ⟨h1, r, rfl, h2, h3, h4, h5, h6⟩
  rcases h6 with ⟨h6, h7⟩ | ⟨_, _, _, h9, _⟩
  · exact ⟨by rw [h6]; rfl, h1, r.2, ⟨h2, h7, h3, h4⟩, h5 hu⟩
  · rw [hu] at h9; cases h9
theorem chk_un {Y : Nat → Prop} {g q m : Nat} {nm : By} {most : Nat} {x : Wl} {base : By} {R : List By} {k N T rm : Nat} (b : By) (bv : Value) (w : World) (h : LX Y w g q m nm most x base R k N T rm) (hu : x.st.armed = false) (hn : nm.length ≤ 32) (hN : N < 99) (hb : b.length ≤ 60000)
    (hrd : Rd w 1 bv b.length (Lib.byteCells b)) (hT : T + b.length + 12 ≤ rm) :
    Calls Tryz.prog 14 #[.pointer (some ⟨g, 0, none⟩), bv] w fun e w' => e = .returned (.int .i64 0) ∧ Kp Y w w' ∧ ∃ x', LX Y w' g q m nm most x' b [] 0 (N + 1) (T + b.length + 12) rm ∧ x'.st.armed = false := by
  refine (chk_lx b bv w h hn hN hb hrd hT).mono ?_
  rintro e w' ⟨h1, r, rfl, h2, h3, h4, h5, h6⟩
  rcases h6 with ⟨h6, h7⟩ | ⟨_, _, _, h9, _⟩
  · exact ⟨by rw [h6]; rfl, h1, r.2, ⟨h2, h7, h3, h4⟩, h5 hu⟩
  · rw [hu] at h9; cases h9
/-- Append of a constant text's bytes -/
theorem add_const {Y : Nat → Prop} {g q m : Nat} {nm : By} {most : Nat} {x : Wl} {base : By} {R : List By} {k N T rm : Nat} (b : By) (W : World) (h : LX Y W g q m nm most x base R k N T rm) (hu : x.st.armed = false) (hn : nm.length ≤ 32) (hN : N < 99) (hb : b.length ≤ 60000)
    (hm : most ≤ 1000000000) (hR : R.length ≤ 1000000) (hT : T + b.length + 24 ≤ rm) :
    Calls Tryz.prog 12 #[.pointer (some ⟨g, 0, none⟩), .slice (some ⟨W.heap.size, 0, none⟩) b.length b.length] (W.alloc (.cells (Lib.byteCells b).toArray 5 (b.length, b.length + 1)))
      fun e w' => e = .returned (.int .i64 0) ∧ Kp Y W w' ∧ ∃ x' k', LX Y w' g q m nm most x' base (R ++ [b]) k' (N + 1) (T + b.length + 24) rm ∧ x'.st.armed = false ∧ k ≤ k' ∧ (k' = k ∨ k' = R.length) := by
  have hc := const_rd W b
  refine (add_un b _ _ (h.more hc.2) hu hn hN hb hc.1 (fun _ k hk => by cases hk; exact .inr ⟨Nat.le_refl _, by show W.heap.size < _; rw [World.size_alloc]; omega⟩) hm hR hT).mono ?_
  rintro e w' ⟨rfl, h1, x', k', h2, h3⟩
  exact ⟨rfl, (Kp.of_below hc.2).trans (h1.mono fun k hk => .inl hk), x', k', h2.mono fun k hk => .inl hk, h3⟩
theorem new_py (R : Nat) (w : World) (h : R ≤ 268435456) : Calls Tryz.prog 6 #[.int .i64 (R : Int)] w fun e w' => ∃ q m, e = .returned (.tuple #[.pointer (some ⟨q, 0, none⟩), .int .i64 0]) ∧ PY (fun k => k < w.heap.size) w' q m (newS R) ∧ Below w.heap.size w w' := by
  refine (new_any R (fun _ => .slice none 0 0) w h).mono ?_
  rintro e w' ⟨q, m, rfl, h1, h2, h3, h4⟩
  refine ⟨q, m, rfl, ⟨⟨_, h1, fun k hk hy => ?_⟩, fun k hk => Nat.lt_of_lt_of_le hk h2.size⟩, h2⟩
  rcases hk with rfl | rfl | ⟨f, hf, _⟩
  · omega
  · omega
  · cases hf
theorem rdB_one (w : World) (v : Value) (b : By) (h : Rd w 1 v b.length (Lib.byteCells b)) (hl : b.length ≤ 140737488355000) : RdB (fun _ => True) (w.alloc (.cells #[v] 32)) (.slice (some ⟨w.heap.size, 0, none⟩) 1 1) [b] := by
  refine ⟨[v], rd_one w v 32, fun t u c hu hc => ?_, fun c hc => by rw [List.mem_singleton] at hc; subst hc; exact hl, fun _ _ _ => trivial, fun _ _ _ _ _ _ _ _ => trivial⟩
  have ht : t = 0 := by have := (List.getElem?_eq_some_iff.1 hu).1; simp at this; exact this
  subst ht
  cases hu
  cases hc
  exact h.below ((Below.refl _ _).alloc (Nat.le_refl _) _)
set_option maxHeartbeats 8000000 in
theorem known_any (w : World) : Calls Tryz.prog 8 #[] w fun e w' => e = .returned (.bool true) ∧ Below w.heap.size w w' := by
  have HN := Lib.hid (new_py 10000 w (by decide))
  go_enter Tryz.func8, Tryz.ntmps8
  go_wp2_with fail
  refine HN.out.mono ?_
  rintro e w1 ⟨q, m, rfl, hp1, hb1⟩
  have HB1 := Lib.hid hb1
  have HO := Lib.hid (open_new (nm := [119]) (most := 9) (rm := 10000) w1 hp1 (by decide) (by decide) (by decide) (by decide) rfl rfl rfl rfl (by decide))
  clear hp1 hb1 HN
  go_wp2_with fail
  refine HO.out.mono ?_
  rintro e w2 ⟨hk2, g, bv, rv, x, Yc, rfl, hox⟩
  have HX := Lib.hid hox
  have HK2 := Lib.hid hk2
  have ha2 := hox.arm rfl
  have HA2 := Lib.hid ha2
  clear HO hox hk2 ha2
  have hcv := Go.Joins.run_convert_bytes_const_at (P := Tryz.prog) w2 32 5 #[.int .u8 97] 1 1 w2.heap.size rfl Tryz.underlying32 Tryz.underlying5
  have HAD := Lib.hid (add_const [97] w2 HX.out.lx HA2.out (by decide) (by decide) (by decide) (by decide) (by decide) (by decide))
  go_wp2_with fail
  refine HAD.out.mono ?_
  rintro e w3 ⟨rfl, hk3, x3, k3, hx3, ha3, hk31, hk32⟩
  have H3 := Lib.hid (And.intro hk3 (And.intro hx3 ha3))
  clear hk3 hx3 ha3 hk31 hk32 HAD hcv
  go_wp2_with fail
  refine (sync_un w3 H3.out.2.1 H3.out.2.2 (by decide) (by decide)).mono ?_
  rintro e w4 ⟨rfl, hk4, x4, hx4, ha4⟩
  have H4 := Lib.hid (And.intro (H3.out.1.trans hk4) (And.intro hx4 ha4))
  clear hk4 hx4 ha4
  have hcv := Go.Joins.run_convert_bytes_const_at (P := Tryz.prog) w4 32 5 #[.int .u8 98] 1 1 w4.heap.size rfl Tryz.underlying32 Tryz.underlying5
  have HAD := Lib.hid (add_const [98] w4 H4.out.2.1 H4.out.2.2 (by decide) (by decide) (by decide) (by decide) (by decide) (by decide))
  go_wp2_with fail
  refine HAD.out.mono ?_
  rintro e w5 ⟨rfl, hk5, x5, k5, hx5, ha5, hk51, hk52⟩
  have H5 := Lib.hid (And.intro (H4.out.1.trans hk5) (And.intro hx5 (And.intro hk51 hk52)))
  clear hk5 hx5 ha5 hk51 hk52 HAD hcv
  go_wp2_with fail
  refine (crash_lx (.slice none 0 0) [] w5 H5.out.2.1 (Rd.nil _ _) (fun h => absurd h (by decide))).mono ?_
  rintro e w6 ⟨rfl, hk6, st6, m6, hc6, hm61, hm62, hm63⟩
  have hm6 : m6 = 1 := by
    have h1 := hm63 (fun i => by simp [kg])
    have h2 := H5.out.2.2.1
    have h3 := H5.out.2.2.2
    simp at h2 h3
    omega
  subst hm6
  have H6 := Lib.hid (And.intro (H5.out.1.trans hk6) hc6)
  clear hk6 hc6 hm61 hm62 hm63
  go_wp2_with fail
  refine (open_cx (most := 9) w6 H6.out.2 (by decide) (by decide) (by decide) (by decide) (by decide) (by decide)).mono ?_
  rintro e w7 ⟨hk7, g7, bv7, rv7, x7, Yc7, rfl, hox7⟩
  have H7 := Lib.hid (And.intro (H6.out.1.trans (hk7.mono fun k hk => hk)) hox7)
  have hrv := hox7.lg.r.slice
  obtain ⟨ra, rc, e7⟩ := hrv
  subst e7
  have hrl : (([] ++ [[97]] ++ [[98]] : List By).take 1).length = 1 := rfl
  clear hk7 hox7
  have hcv := Go.Joins.run_convert_bytes_const_at (P := Tryz.prog) w7 32 5 #[.int .u8 97] 1 1 w7.heap.size rfl Tryz.underlying32 Tryz.underlying5
  have hcd := const_rd w7 [97]
  have HB8 : Hid (Below w7.heap.size w7 ((w7.alloc (.cells (Lib.byteCells [97]).toArray 5 (1, 2))).alloc (.cells #[.slice (some ⟨w7.heap.size, 0, none⟩) 1 1] 32))) := Lib.hid (hcd.2.alloc hcd.2.size _)
  have HLS := Lib.hid (lists_any [[97]] [[97]] (.slice ra 1 rc) (.slice (some ⟨w7.heap.size + 1, 0, none⟩) 1 1) _ (H7.out.2.lg.r.below HB8.out) (by
    have := rdB_one _ _ [97] hcd.1 (by decide)
    rw [World.size_alloc] at this
    exact this) (by decide))
  have hd1 : decide (([[97]] : List By) = [[97]]) = true := by decide
  rw [hd1] at HLS
  clear hcd hd1 hrl
  go_wp2_with fail
  refine HLS.out.mono ?_
  rintro e w9 ⟨rfl, hb9⟩
  have HX9 := Lib.hid (H7.out.2.lx.below (HB8.out.trans (hb9.mono HB8.out.size)))
  have HK9 : Hid (Below w.heap.size w w9) := Lib.hid (((HB1.out.trans (HK2.out.below HB1.out.size fun k h => h)).trans ((H7.out.1.mono HX.out.sub).below (Nat.le_trans HB1.out.size HK2.out.size) fun k h => h)).trans ((HB8.out.trans (hb9.mono HB8.out.size)).mono (Nat.le_trans HB1.out.size (Nat.le_trans HK2.out.size H7.out.1.size))))
  clear hb9 hcv HLS
  go_wp2_with fail
  refine (count_any g7 q m [119] 9 x7 w9 HX9.out.wa).mono ?_
  rintro e w10 ⟨rfl, rfl⟩
  have hct : ((x7.count : Nat) : Int) = 1 := by rw [HX9.out.lv.count]; rfl
  rw [hct]
  clear hct
  go_wp2_with fail
  go_ret
  exact ⟨rfl, HK9.out⟩
end Go.Proofs.YthofbblgoamipaaGreatDoor.Wa
