/-
  Chapter 5: the reader's string. Condition: the text is of at most 100000 bytes.
-/
import Derived.Test.YtffllacphfapnaaGreatDoorJr
import Derived.Test.YtffllacphfapnaaGreatDoorJp
namespace Go.Proofs.YtffllacphfapnaaGreatDoor
open Go.RowKit Js

theorem g_app {w wr w' : World} {b : Nat} {o : Obj} {row : Option Nat} (h : w.grownBy wr (some b)) (hg : (wr.alloc o).grownBy w' row) (hr : ∀ k, row = some k → w.heap.size ≤ k) : w.grownBy w' (some b) := by
  refine ⟨hg.os.trans h.os, hg.tape.trans h.tape, hg.output.trans h.output, ?_, fun k hk hne => ?_⟩
  · have h1 := h.size; have h2 := hg.size; rw [World.size_alloc] at h2; omega
  · have h1 := h.size
    rw [hg.block k (by rw [World.size_alloc]; omega) (fun e => by have := hr k e.symm; omega), Lib.alloc_old wr o k (by omega)]
    exact h.block k hk hne
theorem g_set {w wr : World} {b : Nat} (h : w.grownBy wr (some b)) (u : Value) : w.grownBy (wr.setCell ⟨b, 0, none⟩ u) (some b) := by
  refine ⟨h.os, h.tape, h.output, by simpa [World.setCell] using h.size, fun k hk hne => ?_⟩
  rw [Below.heap_setCell _ _ _ _ (fun e => hne (by rw [e]))]
  exact h.block k hk hne
theorem strP_u (r1 : By) : strP (92 :: 117 :: r1) = match tak [48, 48] r1 with
    | some (a :: b :: r2) => (match wo a, wo b with
      | some x, some y => if 32 ≤ x * 16 + y ∧ x * 16 + y ≤ 126 then none else (strP r2).map fun z => ((x * 16 + y) :: z.1, z.2)
      | _, _ => none)
    | _ => none := by
  rw [strP_cons, if_neg (by decide), if_neg (by decide), if_pos rfl]
  simp only [if_true]
  rcases r1 with _ | ⟨p, _ | ⟨q, r⟩⟩
  · rfl
  · have : tak [48, 48] [p] = none := by simp [tak]
    rw [this]
  · by_cases hp : p = 48 ∧ q = 48
    · obtain ⟨rfl, rfl⟩ := hp
      have : tak [48, 48] (48 :: 48 :: r) = some r := by simp [tak]
      rw [this]
      rcases r with _ | ⟨a, _ | ⟨b, r2⟩⟩
      · rfl
      · rfl
      · simp; cases wo a <;> cases wo b <;> rfl
    · have : tak [48, 48] (p :: q :: r) = none := by
        unfold tak
        rw [if_neg]
        simp only [List.isPrefixOf, Bool.and_eq_true, beq_iff_eq, Bool.and_true]
        rintro ⟨e1, e2⟩
        exact hp ⟨e1.symm, by simpa using e2.symm⟩
      rw [this]
      rcases r with _ | ⟨a, _ | ⟨b, r2⟩⟩
      · rfl
      · rfl
      · simp [hp]
theorem strP_92 (d : UInt8) (r1 : By) (h : d ≠ 117) : strP (92 :: d :: r1) = if d = 34 ∨ d = 92 then (strP r1).map fun z => (d :: z.1, z.2) else none := by
  rw [strP_cons, if_neg (by decide), if_neg (by decide), if_pos rfl]
  simp only [if_neg h]
theorem or_hex (x y : UInt8) (hx : x.toNat < 16) (hy : y.toNat < 16) : bits .or .u8 ((x.toNat : Int) * 16) (y.toNat : Int) = ((x * 16 + y).toNat : Int) := by
  have key : ∀ x y : Fin 16, bits .or .u8 (((UInt8.ofNat x.val).toNat : Int) * 16) ((UInt8.ofNat y.val).toNat : Int) = ((UInt8.ofNat x.val * 16 + UInt8.ofNat y.val).toNat : Int) := by decide +kernel
  have := key ⟨x.toNat, hx⟩ ⟨y.toNat, hy⟩
  simpa using this
/-- string, on its way: acc is behind it, rest is to come -/
def StI (s acc rest : By) : Prop := strQ s = (strP rest).map fun z => (acc ++ z.1, z.2)
theorem StI.snoc {s acc rest r : By} {c : UInt8} (h : StI s acc rest) (hc : strP rest = (strP r).map fun z => (c :: z.1, z.2)) : StI s (acc ++ [c]) r := by
  unfold StI at *
  rw [h, hc]
  cases strP r <;> simp
theorem StI.bad {s acc rest : By} (h : StI s acc rest) (hc : strP rest = none) : strQ s = none := by
  unfold StI at h; rw [h, hc]; rfl
/-- what string does -/
def StR (s : By) (b : Nat) (w : World) (e : Ending) (w' : World) : Prop := w.grownBy w' (some b) ∧ match strQ s with
  | some (t, r) => e = .returned (.string ⟨t.toArray⟩) ∧ Blk w' b 76 [.string ⟨r.toArray⟩]
  | none => e = .panicked wrongP
theorem StR.bad {s : By} {b : Nat} {w w' : World} (h : strQ s = none) (hg : w.grownBy w' (some b)) : StR s b w (.panicked wrongP) w' := by
  unfold StR; rw [h]; exact ⟨hg, rfl⟩

theorem g_trans {w a c : World} {b : Nat} (h : w.grownBy a (some b)) (k : a.grownBy c (some b)) : w.grownBy c (some b) :=
  ⟨k.os.trans h.os, k.tape.trans h.tape, k.output.trans h.output, Nat.le_trans h.size k.size, fun j hj hne => (k.block j (Nat.lt_of_lt_of_le hj h.size) hne).trans (h.block j hj hne)⟩
theorem o_kept {w a c : World} {b n : Nat} {v : Value} {xs : List Value} (ho : a.ownsRow w.heap.size 5 1 v n xs) (hB : Hid (b < w.heap.size)) (k : a.grownBy c (some b)) : c.ownsRow w.heap.size 5 1 v n xs := by
  refine ho.kept k ?_
  cases h : v.ownBlock with
  | none => exact .inl rfl
  | some g => exact .inr fun e => by have := (ho.lt g h).1; have := hB.out; cases e; omega
abbrev RB (b : Nat) (W : World) (r : By) : Prop := Blk W b 76 [.string ⟨r.toArray⟩]
theorem rb_set {b : Nat} {w : World} {s : By} (h : RB b w s) (r : By) : RB b (w.setCell ⟨b, 0, none⟩ (.string ⟨r.toArray⟩)) r := h.set 0 _
theorem byte2 (b : Nat) (c : UInt8) (r : By) (w : World) (h : RB b w (c :: r)) (hl : r.length ≤ 1000000) :
    Calls Tryz.prog 76 #[.pointer (some ⟨b, 0, none⟩)] w fun e w' => e = .returned (.int .u8 (c.toNat : Int)) ∧ RB b w' r ∧ w.grownBy w' (some b) :=
  (byte_ok b c r w h hl).mono fun _ _ ⟨e1, e2⟩ => ⟨e1, e2 ▸ rb_set h r, e2 ▸ g_set (World.grownBy.refl _ _) _⟩
theorem byteX (b : Nat) (w : World) (h : RB b w []) : Calls Tryz.prog 76 #[.pointer (some ⟨b, 0, none⟩)] w fun e w' => e = .panicked wrongP ∧ w.grownBy w' (some b) :=
  (byte_bad b w h).mono fun _ _ ⟨e1, e2⟩ => ⟨e1, e2 ▸ World.grownBy.refl _ _⟩
theorem takeX (b : Nat) (s p : By) (w : World) (h : RB b w s) (hr : tak p s = none) :
    Calls Tryz.prog 30 #[.pointer (some ⟨b, 0, none⟩), .string ⟨p.toArray⟩] w fun e w' => e = .panicked wrongP ∧ w.grownBy w' (some b) :=
  (take_bad b s p w h hr).mono fun _ _ ⟨e1, e2⟩ => ⟨e1, e2 ▸ World.grownBy.refl _ _⟩
theorem take2 (b : Nat) (s p r : By) (w : World) (h : RB b w s) (hr : tak p s = some r) :
    Calls Tryz.prog 30 #[.pointer (some ⟨b, 0, none⟩), .string ⟨p.toArray⟩] w fun e w' => e = .returned (.tuple #[]) ∧ RB b w' r ∧ w.grownBy w' (some b) :=
  (take_ok b s p r w h hr).mono fun _ _ ⟨e1, e2⟩ => ⟨e1, e2 ▸ rb_set h r, e2 ▸ g_set (World.grownBy.refl _ _) _⟩
theorem sign2 (b : Nat) (c x : UInt8) (r : By) (w : World) (h : RB b w (c :: r)) (hl : r.length ≤ 1000000) (hx : wo c = some x) :
    Calls Tryz.prog 77 #[.pointer (some ⟨b, 0, none⟩)] w fun e w' => e = .returned (.int .u8 (x.toNat : Int)) ∧ RB b w' r ∧ w.grownBy w' (some b) :=
  (sign_ok b c x r w h hl hx).mono fun _ _ ⟨e1, e2⟩ => ⟨e1, e2 ▸ rb_set h r, e2 ▸ g_set (World.grownBy.refl _ _) _⟩
theorem signX (b : Nat) (s : By) (w : World) (h : RB b w s) (hl : s.length ≤ 1000000) (hx : ∀ c r, s = c :: r → wo c = none) :
    Calls Tryz.prog 77 #[.pointer (some ⟨b, 0, none⟩)] w fun e w' => e = .panicked wrongP ∧ w.grownBy w' (some b) := by
  rcases s with _ | ⟨c, r⟩
  · exact (sign_end b w h).mono fun _ _ ⟨e1, e2⟩ => ⟨e1, e2 ▸ World.grownBy.refl _ _⟩
  · exact (sign_bad b c r w h (by simp at hl; omega) (hx c r rfl)).mono fun _ _ ⟨e1, e2⟩ => ⟨e1, e2 ▸ g_set (World.grownBy.refl _ _) _⟩

set_option maxRecDepth 20000 in
set_option maxHeartbeats 2000000 in
theorem string_any (b : Nat) (s : By) (w : World) (h : Blk w b 76 [.string ⟨s.toArray⟩]) (hl : s.length ≤ 100000) :
    Calls Tryz.prog 51 #[.pointer (some ⟨b, 0, none⟩)] w (StR s b w) := by
  obtain ⟨i0, hi, hz0, hz1, hz2⟩ := info_parts u8_row
  have HB := Lib.hid h.lt
  have hgr : w.grownBy w (some b) := World.grownBy.refl _ _
  cases ht : tak [34] s with
  | none =>
    have hq : strQ s = none := by unfold strQ; rw [ht]; rfl
    have HQ := Lib.hid hq
    clear hq
    go_enter Tryz.func51, Tryz.ntmps51
    go_wp2_with (go_at_call 30; refine (take_bad b s [34] _ h ht).mono ?_; rintro e w' ⟨rfl, rfl⟩)
    go_wp2
    exact ⟨rfl, StR.bad HQ.out hgr⟩
  | some s1 =>
    have hq : StI s [] s1 := by unfold StI strQ; rw [ht, Option.bind_some]; cases strP s1 <;> simp
    have hs1 : s1.length ≤ 99999 := by have := tak_some ht; rw [this] at hl; simp at hl; omega
    have H1 := Lib.hid hs1
    have HI := Lib.hid hq
    clear hs1 hq hl
    go_enter Tryz.func51, Tryz.ntmps51
    go_wp2_with (go_at_call 30; refine (take_ok b s [34] s1 _ h ht).mono ?_; rintro e w' ⟨rfl, rfl⟩)
    have hb1 := h.set 0 (.string ⟨s1.toArray⟩)
    have hg1 := g_set hgr (.string ⟨s1.toArray⟩)
    go_wp2
    go_loopw [3] (fun v wr => ∃ acc rest : By, Hid (StI s acc rest) ∧ Blk wr b 76 [.string ⟨rest.toArray⟩] ∧ wr.ownsRow w.heap.size 5 1 v acc.length (Lib.byteCells acc) ∧ w.grownBy wr (some b) ∧ Hid (acc.length + rest.length ≤ 99999)) (fun _ wr => match wr.cell? ⟨b, 0, none⟩ with | some (.string s) => s.size | _ => 0)
    case atStart => exact ⟨[], s1, HI, hb1, World.ownsRow_nil _ _ _ _, hg1, Lib.hid (by have := H1.out; simpa using this)⟩
    case round =>
      clear hb1 hg1 HI H1 h
      obtain ⟨acc, rest, HI, hbk, ho, hg, HL2⟩ := hrel
      have hms : (match wr.cell? ⟨b, 0, none⟩ with | some (.string s) => s.size | _ => 0) = rest.length := by rw [hbk.cell 0 rfl]; exact st_size _
      have HM := Lib.hid hms
      clear hms
      rcases rest with _ | ⟨c, r⟩
      · have hq := HI.out.bad strP_nil
        have HQ := Lib.hid hq
        clear hq
        go_wp2_with (go_at_call 76; refine (byte_bad b _ hbk).mono ?_; rintro e w' ⟨rfl, rfl⟩)
        go_wp2
        exact ⟨rfl, StR.bad HQ.out hg⟩
      · have hlr : r.length ≤ 1000000 := by have := HL2.out; simp at this; omega
        have HLR := Lib.hid hlr
        clear hlr
        go_wp2_with fail
        refine (byte2 b c r _ hbk HLR.out).mono ?_
        rintro e w1 ⟨rfl, hbN, hgN⟩
        have hoN := o_kept ho HB hgN
        have hgM := g_trans hg hgN
        clear hbk ho hg hgN
        have hbk := hbN
        have ho := hoN
        have hg := hgM
        clear hbN hoN hgM
        by_cases h34 : c = 34
        · subst h34
          have hq : strQ s = some (acc, r) := by have := HI.out; unfold StI at this; rw [this, strP_cons, if_pos rfl]; simp
          have HQ := Lib.hid hq
          have hcv := conv_own ho
          clear hq
          go_wp2
          go_ret
          refine ⟨hg, ?_⟩
          rw [HQ.out]
          exact ⟨rfl, hbk⟩
        have b34 : ((c.toNat : Int) == 34) = false := by rw [beq_eq_false_iff_ne]; intro e; exact h34 (by rw [← UInt8.toNat_inj]; show c.toNat = 34; omega)
        by_cases hx : c < 32 ∨ c > 126
        · have HQ := Lib.hid (HI.out.bad (by rw [strP_cons, if_neg h34, if_pos hx]))
          have hx2 : (c.toNat : Int) < 32 ∨ (32 ≤ (c.toNat : Int) ∧ 126 < (c.toNat : Int)) := by simp only [UInt8.lt_iff_toNat_lt, gt_iff_lt] at hx; simp at hx; omega
          clear hx h34
          rcases hx2 with hx2 | ⟨hx3, hx2⟩
          · go_wp2
            exact ⟨rfl, StR.bad HQ.out hg⟩
          · go_wp2
            exact ⟨rfl, StR.bad HQ.out hg⟩
        have hx2 : 32 ≤ (c.toNat : Int) ∧ (c.toNat : Int) ≤ 126 := by simp only [UInt8.lt_iff_toNat_lt, gt_iff_lt] at hx; simp at hx; omega
        obtain ⟨hx3, hx4⟩ := hx2
        by_cases h92 : c = 92
        · subst h92
          clear b34 hx3 hx4 hx h34
          rcases r with _ | ⟨d, r1⟩
          · have HQ := Lib.hid (HI.out.bad (by rfl))
            go_wp2_with fail
            refine (byteX b _ hbk).mono ?_
            rintro e w' ⟨rfl, hgN⟩
            have hgM := g_trans hg hgN
            go_wp2
            exact ⟨rfl, StR.bad HQ.out hgM⟩
          · have hlr : r1.length ≤ 1000000 := by have := HLR.out; simp at this; omega
            have HLS := Lib.hid hlr
            clear hlr
            go_wp2_with fail
            refine (byte2 b d r1 _ hbk HLS.out).mono ?_
            rintro e w2 ⟨rfl, hbN, hgN⟩
            have hoN := o_kept ho HB hgN
            have hgM := g_trans hg hgN
            clear hbk ho hg hgN
            have hbk := hbN
            have ho := hoN
            have hg := hgM
            clear hbN hoN hgM
            by_cases h117 : d = 117
            · subst h117
              have hu := strP_u r1
              cases ht0 : tak [48, 48] r1 with
              | none =>
                rw [ht0] at hu
                have HQ := Lib.hid (HI.out.bad hu)
                clear hu
                go_wp2_with fail
                refine (takeX b r1 [48, 48] _ hbk ht0).mono ?_
                rintro e w' ⟨rfl, hgN⟩
                have hgM := g_trans hg hgN
                go_wp2
                exact ⟨rfl, StR.bad HQ.out hgM⟩
              | some r2 =>
                rw [ht0] at hu
                have hl2 : r2.length + 2 = r1.length := by rw [tak_some ht0]; simp
                go_wp2_with fail
                refine (take2 b r1 [48, 48] r2 _ hbk ht0).mono ?_
                rintro e w3 ⟨rfl, hbN, hgN⟩
                have hoN := o_kept ho HB hgN
                have hgM := g_trans hg hgN
                clear hbk ho hg hgN
                have hbk := hbN
                have ho := hoN
                have hg := hgM
                clear hbN hoN hgM
                have HL3 := Lib.hid hl2
                clear hl2 ht0
                by_cases hA : ∃ a r3 x, r2 = a :: r3 ∧ wo a = some x
                · obtain ⟨a, r3, x, rfl, hxa⟩ := hA
                  go_wp2_with fail
                  refine (sign2 b a x r3 _ hbk (by have h1 := HLS.out; have h2 := HL3.out; simp at h2; omega) hxa).mono ?_
                  rintro e w4 ⟨rfl, hbN, hgN⟩
                  have hoN := o_kept ho HB hgN
                  have hgM := g_trans hg hgN
                  clear hbk ho hg hgN
                  have hbk := hbN
                  have ho := hoN
                  have hg := hgM
                  clear hbN hoN hgM
                  by_cases hB : ∃ b' r4 y, r3 = b' :: r4 ∧ wo b' = some y
                  · obtain ⟨b', r4, y, rfl, hyb⟩ := hB
                    simp only [hxa, hyb] at hu
                    have HU := Lib.hid hu
                    have hx16 := wo_lt a x hxa
                    have hy16 := wo_lt b' y hyb
                    have hor := or_hex x y hx16 hy16
                    clear hu
                    go_wp2_with fail
                    refine (sign2 b b' y r4 _ hbk (by have h1 := HLS.out; have h2 := HL3.out; simp at h2; omega) hyb).mono ?_
                    rintro e w5 ⟨rfl, hbN, hgN⟩
                    have hoN := o_kept ho HB hgN
                    have hgM := g_trans hg hgN
                    clear hbk ho hg hgN
                    have hbk := hbN
                    have ho := hoN
                    have hg := hgM
                    clear hbN hoN hgM
                    generalize x * 16 + y = z at HU hor
                    by_cases hz : 32 ≤ z ∧ z ≤ 126
                    · have hq := HU.out
                      rw [if_pos hz] at hq
                      have HQ := Lib.hid (HI.out.bad hq)
                      have z1 : 32 ≤ (z.toNat : Int) := by have := hz.1; rw [UInt8.le_iff_toNat_le] at this; simp at this; omega
                      have z2 : (z.toNat : Int) ≤ 126 := by have := hz.2; rw [UInt8.le_iff_toNat_le] at this; simp at this; omega
                      clear hz hq
                      go_wp2
                      exact ⟨rfl, StR.bad HQ.out hg⟩
                    · have hcc := HU.out
                      rw [if_neg hz] at hcc
                      have HC := Lib.hid hcc
                      have hz2 : (z.toNat : Int) < 32 ∨ (32 ≤ (z.toNat : Int) ∧ 126 < (z.toNat : Int)) := by simp only [UInt8.le_iff_toNat_le] at hz; simp at hz; omega
                      clear hz hcc
                      rcases hz2 with z1 | ⟨z1, z2⟩
                      · skip
                        have HLX : Hid (acc.length + 1 + r4.length ≤ 99999 ∧ r4.length < (match wr.cell? ⟨b, 0, none⟩ with | some (.string s) => s.size | _ => 0)) := Lib.hid (by rw [HM.out]; have h2 := HL2.out; have h3 := HL3.out; simp at h3; simp at h2 ⊢; omega)
                        go_wp2_with (at_builtin; go_loud (refine wpList_append_own _ rfl _ _ 36 rfl w.heap.size 5 i0 (.int .u8 0) 1 1 Tryz.underlying36 hi hz0 hz1 hz2 rfl (by decide) _ _ _ rfl (ho.alloc _) ⟨w5.heap.size, 0, none⟩ 1 1 (Lib.byteCells [z]) rfl rfl (cells_new _ _ _) (byte_one _) ?c3 ?c4 ?c5 ?_))
                        case c3 => have := HLX.out.1; unfold maxLen; omega
                        case c4 => have := HLX.out.1; omega
                        case c5 => have := hg.size; simp; omega
                        intro v' w9 hown' hgrow hv0
                        have hg9 := g_app hg hgrow (fun k hk => (ho.lt k hk).1)
                        have hb9 := (hbk.alloc _).grown hgrow (fun k hk e => by have := (ho.lt k hk).1; have := HB.out; omega)
                        have ho9 : w9.ownsRow w.heap.size 5 1 v' (acc ++ [z]).length (Lib.byteCells (acc ++ [z])) := own_cast hown' (by simp) (by rw [bc_append])
                        have HI9 := Lib.hid (HI.out.snoc (HC.out))
                        clear hv0 hgrow hown'
                        go_wp2
                        go_roundw
                        case rel => exact ⟨acc ++ [z], r4, HI9, hb9, ho9, hg9, Lib.hid (by have := HLX.out.1; simp at this ⊢; omega)⟩
                        case measure => rw [show (match w9.cell? ⟨b, 0, none⟩ with | some (.string s) => s.size | _ => 0) = r4.length from by rw [hb9.cell 0 rfl]; exact st_size _]; exact HLX.out.2
                      · skip
                        have HLX : Hid (acc.length + 1 + r4.length ≤ 99999 ∧ r4.length < (match wr.cell? ⟨b, 0, none⟩ with | some (.string s) => s.size | _ => 0)) := Lib.hid (by rw [HM.out]; have h2 := HL2.out; have h3 := HL3.out; simp at h3; simp at h2 ⊢; omega)
                        go_wp2_with (at_builtin; go_loud (refine wpList_append_own _ rfl _ _ 36 rfl w.heap.size 5 i0 (.int .u8 0) 1 1 Tryz.underlying36 hi hz0 hz1 hz2 rfl (by decide) _ _ _ rfl (ho.alloc _) ⟨w5.heap.size, 0, none⟩ 1 1 (Lib.byteCells [z]) rfl rfl (cells_new _ _ _) (byte_one _) ?c3 ?c4 ?c5 ?_))
                        case c3 => have := HLX.out.1; unfold maxLen; omega
                        case c4 => have := HLX.out.1; omega
                        case c5 => have := hg.size; simp; omega
                        intro v' w9 hown' hgrow hv0
                        have hg9 := g_app hg hgrow (fun k hk => (ho.lt k hk).1)
                        have hb9 := (hbk.alloc _).grown hgrow (fun k hk e => by have := (ho.lt k hk).1; have := HB.out; omega)
                        have ho9 : w9.ownsRow w.heap.size 5 1 v' (acc ++ [z]).length (Lib.byteCells (acc ++ [z])) := own_cast hown' (by simp) (by rw [bc_append])
                        have HI9 := Lib.hid (HI.out.snoc (HC.out))
                        clear hv0 hgrow hown'
                        go_wp2
                        go_roundw
                        case rel => exact ⟨acc ++ [z], r4, HI9, hb9, ho9, hg9, Lib.hid (by have := HLX.out.1; simp at this ⊢; omega)⟩
                        case measure => rw [show (match w9.cell? ⟨b, 0, none⟩ with | some (.string s) => s.size | _ => 0) = r4.length from by rw [hb9.cell 0 rfl]; exact st_size _]; exact HLX.out.2
                  · have hnone : ∀ c r, r3 = c :: r → wo c = none := by
                      intro c r e
                      cases h : wo c with
                      | none => rfl
                      | some y => exact absurd ⟨c, r, y, e, h⟩ hB
                    have hu2 : strP (92 :: 117 :: r1) = none := by
                      rw [hu]
                      rcases r3 with _ | ⟨b', r4⟩
                      · rfl
                      · simp only [hxa, hnone b' r4 rfl]
                    have HQ := Lib.hid (HI.out.bad hu2)
                    clear hu hu2 hB
                    go_wp2_with fail
                    refine (signX b r3 _ hbk (by have h1 := HLS.out; have h2 := HL3.out; simp at h2; omega) hnone).mono ?_
                    rintro e w' ⟨rfl, hgN⟩
                    have hgM := g_trans hg hgN
                    go_wp2
                    exact ⟨rfl, StR.bad HQ.out hgM⟩
                · have hnone : ∀ c r, r2 = c :: r → wo c = none := by
                    intro c r e
                    cases h : wo c with
                    | none => rfl
                    | some y => exact absurd ⟨c, r, y, e, h⟩ hA
                  have hu2 : strP (92 :: 117 :: r1) = none := by
                    rw [hu]
                    rcases r2 with _ | ⟨a, _ | ⟨b', r4⟩⟩
                    · rfl
                    · rfl
                    · simp only [hnone a _ rfl]
                  have HQ := Lib.hid (HI.out.bad hu2)
                  clear hu hu2 hA
                  go_wp2_with fail
                  refine (signX b r2 _ hbk (by have h1 := HLS.out; have h2 := HL3.out; omega) hnone).mono ?_
                  rintro e w' ⟨rfl, hgN⟩
                  have hgM := g_trans hg hgN
                  go_wp2
                  exact ⟨rfl, StR.bad HQ.out hgM⟩
            · have hcc := strP_92 d r1 h117
              have b117 : ((d.toNat : Int) == 117) = false := by rw [beq_eq_false_iff_ne]; intro e; exact h117 (by rw [← UInt8.toNat_inj]; show d.toNat = 117; omega)
              by_cases hd : d = 34 ∨ d = 92
              · rw [if_pos hd] at hcc
                have HC := Lib.hid hcc
                clear hcc h117 b117
                rcases hd with rfl | rfl
                · skip
                  have HLX : Hid (acc.length + 1 + r1.length ≤ 99999 ∧ r1.length < (match wr.cell? ⟨b, 0, none⟩ with | some (.string s) => s.size | _ => 0)) := Lib.hid (by rw [HM.out]; have h2 := HL2.out;  simp at h2 ⊢; omega)
                  go_wp2_with (at_builtin; go_loud (refine wpList_append_own _ rfl _ _ 36 rfl w.heap.size 5 i0 (.int .u8 0) 1 1 Tryz.underlying36 hi hz0 hz1 hz2 rfl (by decide) _ _ _ rfl (ho.alloc _) ⟨w2.heap.size, 0, none⟩ 1 1 (Lib.byteCells [34]) rfl rfl (cells_new _ _ _) (byte_one _) ?c3 ?c4 ?c5 ?_))
                  case c3 => have := HLX.out.1; unfold maxLen; omega
                  case c4 => have := HLX.out.1; omega
                  case c5 => have := hg.size; simp; omega
                  intro v' w9 hown' hgrow hv0
                  have hg9 := g_app hg hgrow (fun k hk => (ho.lt k hk).1)
                  have hb9 := (hbk.alloc _).grown hgrow (fun k hk e => by have := (ho.lt k hk).1; have := HB.out; omega)
                  have ho9 : w9.ownsRow w.heap.size 5 1 v' (acc ++ [34]).length (Lib.byteCells (acc ++ [34])) := own_cast hown' (by simp) (by rw [bc_append])
                  have HI9 := Lib.hid (HI.out.snoc (HC.out))
                  clear hv0 hgrow hown'
                  go_wp2
                  go_roundw
                  case rel => exact ⟨acc ++ [34], r1, HI9, hb9, ho9, hg9, Lib.hid (by have := HLX.out.1; simp at this ⊢; omega)⟩
                  case measure => rw [show (match w9.cell? ⟨b, 0, none⟩ with | some (.string s) => s.size | _ => 0) = r1.length from by rw [hb9.cell 0 rfl]; exact st_size _]; exact HLX.out.2
                · skip
                  have HLX : Hid (acc.length + 1 + r1.length ≤ 99999 ∧ r1.length < (match wr.cell? ⟨b, 0, none⟩ with | some (.string s) => s.size | _ => 0)) := Lib.hid (by rw [HM.out]; have h2 := HL2.out;  simp at h2 ⊢; omega)
                  go_wp2_with (at_builtin; go_loud (refine wpList_append_own _ rfl _ _ 36 rfl w.heap.size 5 i0 (.int .u8 0) 1 1 Tryz.underlying36 hi hz0 hz1 hz2 rfl (by decide) _ _ _ rfl (ho.alloc _) ⟨w2.heap.size, 0, none⟩ 1 1 (Lib.byteCells [92]) rfl rfl (cells_new _ _ _) (byte_one _) ?c3 ?c4 ?c5 ?_))
                  case c3 => have := HLX.out.1; unfold maxLen; omega
                  case c4 => have := HLX.out.1; omega
                  case c5 => have := hg.size; simp; omega
                  intro v' w9 hown' hgrow hv0
                  have hg9 := g_app hg hgrow (fun k hk => (ho.lt k hk).1)
                  have hb9 := (hbk.alloc _).grown hgrow (fun k hk e => by have := (ho.lt k hk).1; have := HB.out; omega)
                  have ho9 : w9.ownsRow w.heap.size 5 1 v' (acc ++ [92]).length (Lib.byteCells (acc ++ [92])) := own_cast hown' (by simp) (by rw [bc_append])
                  have HI9 := Lib.hid (HI.out.snoc (HC.out))
                  clear hv0 hgrow hown'
                  go_wp2
                  go_roundw
                  case rel => exact ⟨acc ++ [92], r1, HI9, hb9, ho9, hg9, Lib.hid (by have := HLX.out.1; simp at this ⊢; omega)⟩
                  case measure => rw [show (match w9.cell? ⟨b, 0, none⟩ with | some (.string s) => s.size | _ => 0) = r1.length from by rw [hb9.cell 0 rfl]; exact st_size _]; exact HLX.out.2
              · rw [if_neg hd] at hcc
                have HQ := Lib.hid (HI.out.bad hcc)
                have d34 : ((d.toNat : Int) == 34) = false := by rw [beq_eq_false_iff_ne]; intro e; exact hd (.inl (by rw [← UInt8.toNat_inj]; show d.toNat = 34; omega))
                have d92 : ((d.toNat : Int) == 92) = false := by rw [beq_eq_false_iff_ne]; intro e; exact hd (.inr (by rw [← UInt8.toNat_inj]; show d.toNat = 92; omega))
                have e34 : ((d.toNat : Int) != 34) = true := by rw [bne, d34]; rfl
                have e92 : ((d.toNat : Int) != 92) = true := by rw [bne, d92]; rfl
                have f34 : ¬ (d.toNat : Int) = 34 := by simpa using d34
                have f92 : ¬ (d.toNat : Int) = 92 := by simpa using d92
                clear hcc hd h117
                go_wp2
                exact ⟨rfl, StR.bad HQ.out hg⟩
        · have b92 : ((c.toNat : Int) == 92) = false := by rw [beq_eq_false_iff_ne]; intro e; exact h92 (by rw [← UInt8.toNat_inj]; show c.toNat = 92; omega)
          have hcc : strP (c :: r) = (strP r).map fun z => (c :: z.1, z.2) := by rw [strP_cons, if_neg h34, if_neg hx, if_neg h92]
          have HC := Lib.hid hcc
          clear hcc hx h34 h92
          have HLX : Hid (acc.length + 1 + r.length ≤ 99999 ∧ r.length < (match wr.cell? ⟨b, 0, none⟩ with | some (.string s) => s.size | _ => 0)) := Lib.hid (by rw [HM.out]; have h2 := HL2.out;  simp at h2 ⊢; omega)
          go_wp2_with (at_builtin; go_loud (refine wpList_append_own _ rfl _ _ 36 rfl w.heap.size 5 i0 (.int .u8 0) 1 1 Tryz.underlying36 hi hz0 hz1 hz2 rfl (by decide) _ _ _ rfl (ho.alloc _) ⟨w1.heap.size, 0, none⟩ 1 1 (Lib.byteCells [c]) rfl rfl (cells_new _ _ _) (byte_one _) ?c3 ?c4 ?c5 ?_))
          case c3 => have := HLX.out.1; unfold maxLen; omega
          case c4 => have := HLX.out.1; omega
          case c5 => have := hg.size; simp; omega
          intro v' w9 hown' hgrow hv0
          have hg9 := g_app hg hgrow (fun k hk => (ho.lt k hk).1)
          have hb9 := (hbk.alloc _).grown hgrow (fun k hk e => by have := (ho.lt k hk).1; have := HB.out; omega)
          have ho9 : w9.ownsRow w.heap.size 5 1 v' (acc ++ [c]).length (Lib.byteCells (acc ++ [c])) := own_cast hown' (by simp) (by rw [bc_append])
          have HI9 := Lib.hid (HI.out.snoc (HC.out))
          clear hv0 hgrow hown'
          go_wp2
          go_roundw
          case rel => exact ⟨acc ++ [c], r, HI9, hb9, ho9, hg9, Lib.hid (by have := HLX.out.1; simp at this ⊢; omega)⟩
          case measure => rw [show (match w9.cell? ⟨b, 0, none⟩ with | some (.string s) => s.size | _ => 0) = r.length from by rw [hb9.cell 0 rfl]; exact st_size _]; exact HLX.out.2
end Go.Proofs.YtffllacphfapnaaGreatDoor
