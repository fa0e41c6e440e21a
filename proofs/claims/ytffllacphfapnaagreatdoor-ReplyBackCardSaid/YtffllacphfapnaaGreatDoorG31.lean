/-
  Chapter 5: the reader's string. Condition: the text is of at most 100000 bytes.
  (Texts put together: Jt Jl Jm Jn Ju Jz Jx.)
-/
import Derived.Test.YtffllacphfapnaaGreatDoorG30
import Derived.Test.YtffllacphfapnaaGreatDoorG09
import Derived.Test.YtffllacphfapnaaGreatDoorG28
import Derived.IntWalk
import Derived.Lib.AppendIntMem
import Derived.Lib.AtoiErrMem
import Derived.Deep.RegionHeld3
import Derived.Test.YtffllacphfapnaaGreatDoorG02
import Derived.Test.YtffllacphfapnaaGreatDoorChecked
import Derived.Tactics
import Derived.Tactics2
import Derived.Defers
import Derived.Recover
namespace Go.Proofs.YtffllacphfapnaaGreatDoor
open Go.RowKit Js

theorem g_app {w wr w' : World} {b : Nat} {o : Obj} {row : Option Nat} (h : w.grownBy wr (some b)) (hg : (wr.alloc o).grownBy w' row) (hr : ∀ k, row = some k → w.heap.size ≤ k) : w.grownBy w' (some b) := by
  refine ⟨hg.os.trans h.os, hg.tape.trans h.tape, hg.output.trans h.output, ?_, fun k hk hne => ?_⟩
  · have h1 := h.size; have h2 := hg.size; rw [World.size_alloc] at h2; omega
  · have h1 := h.size
    rw [hg.block k (by rw [World.size_alloc]; omega) (fun e => by have := hr k e.symm; omega), Lib.alloc_old wr o k (by omega)]
    exact h.block k hk hne
theorem g_set {w wr : World} {b : Nat} (h : w.grownBy wr (some b)) (u : Value) : w.grownBy (wr.setCell ⟨b, 0, none⟩ u) (some b) := by
  refine ⟨h.os, h.tape, h.output, by simpa [World.setCell] using h.size, fun k hk hne => ?_⟩
  rw [Below.heap_setCell _ _ _ _ (fun e => hne (by rw [e]))]
  exact h.block k hk hne
theorem strP_u (r1 : By) : strP (92 :: 117 :: r1) = match tak [48, 48] r1 with
    | some (a :: b :: r2) => (match wo a, wo b with
      | some x, some y => if 32 ≤ x * 16 + y ∧ x * 16 + y ≤ 126 then none else (strP r2).map fun z => ((x * 16 + y) :: z.1, z.2)
      | _, _ => none)
    | _ => none := by
  rw [strP_cons, if_neg (by decide), if_neg (by decide), if_pos rfl]
  simp only [if_true]
  rcases r1 with _ | ⟨p, _ | ⟨q, r⟩⟩
  · rfl
  · have : tak [48, 48] [p] = none := by simp [tak]
    rw [this]
  · by_cases hp : p = 48 ∧ q = 48
    · obtain ⟨rfl, rfl⟩ := hp
      have : tak [48, 48] (48 :: 48 :: r) = some r := by simp [tak]
      rw [this]
      rcases r with _ | ⟨a, _ | ⟨b, r2⟩⟩
      · rfl
      · rfl
      · simp; cases wo a <;> cases wo b <;> rfl
    · have : tak [48, 48] (p :: q :: r) = none := by
        unfold tak
        rw [if_neg]
        simp only [List.isPrefixOf, Bool.and_eq_true, beq_iff_eq, Bool.and_true]
        rintro ⟨e1, e2⟩
        exact hp ⟨e1.symm, by simpa using e2.symm⟩
      rw [this]
      rcases r with _ | ⟨a, _ | ⟨b, r2⟩⟩
      · rfl
      · rfl
      · simp [hp]
theorem strP_92 (d : UInt8) (r1 : By) (h : d ≠ 117) : strP (92 :: d :: r1) = if d = 34 ∨ d = 92 then (strP r1).map fun z => (d :: z.1, z.2) else none := by
  rw [strP_cons, if_neg (by decide), if_neg (by decide), if_pos rfl]
  simp only [if_neg h]
theorem or_hex (x y : UInt8) (hx : x.toNat < 16) (hy : y.toNat < 16) : bits .or .u8 ((x.toNat : Int) * 16) (y.toNat : Int) = ((x * 16 + y).toNat : Int) := by
  have key : ∀ x y : Fin 16, bits .or .u8 (((UInt8.ofNat x.val).toNat : Int) * 16) ((UInt8.ofNat y.val).toNat : Int) = ((UInt8.ofNat x.val * 16 + UInt8.ofNat y.val).toNat : Int) := by decide +kernel
  have := key ⟨x.toNat, hx⟩ ⟨y.toNat, hy⟩
  simpa using this
/-- string, on its way: acc is behind it, rest is to come -/
def StI (s acc rest : By) : Prop := strQ s = (strP rest).map fun z => (acc ++ z.1, z.2)
theorem StI.snoc {s acc rest r : By} {c : UInt8} (h : StI s acc rest) (hc : strP rest = (strP r).map fun z => (c :: z.1, z.2)) : StI s (acc ++ [c]) r := by
  unfold StI at *
  rw [h, hc]
  cases strP r <;> simp
theorem StI.bad {s acc rest : By} (h : StI s acc rest) (hc : strP rest = none) : strQ s = none := by
  unfold StI at h; rw [h, hc]; rfl
/-- what string does -/
def StR (s : By) (b : Nat) (w : World) (e : Ending) (w' : World) : Prop := w.grownBy w' (some b) ∧ match strQ s with
  | some (t, r) => e = .returned (.string ⟨t.toArray⟩) ∧ Blk w' b 76 [.string ⟨r.toArray⟩]
  | none => e = .panicked wrongP
theorem StR.bad {s : By} {b : Nat} {w w' : World} (h : strQ s = none) (hg : w.grownBy w' (some b)) : StR s b w (.panicked wrongP) w' := by
  unfold StR; rw [h]; exact ⟨hg, rfl⟩

theorem g_trans {w a c : World} {b : Nat} (h : w.grownBy a (some b)) (k : a.grownBy c (some b)) : w.grownBy c (some b) :=
  ⟨k.os.trans h.os, k.tape.trans h.tape, k.output.trans h.output, Nat.le_trans h.size k.size, fun j hj hne => (k.block j (Nat.lt_of_lt_of_le hj h.size) hne).trans (h.block j hj hne)⟩
theorem o_kept {w a c : World} {b n : Nat} {v : Value} {xs : List Value} (ho : a.ownsRow w.heap.size 5 1 v n xs) (hB : Hid (b < w.heap.size)) (k : a.grownBy c (some b)) : c.ownsRow w.heap.size 5 1 v n xs := by
  refine ho.kept k ?_
  cases h : v.ownBlock with
  | none => exact .inl rfl
  | some g => exact .inr fun e => by have := (ho.lt g h).1; have := hB.out; cases e; omega
abbrev RB (b : Nat) (W : World) (r : By) : Prop := Blk W b 76 [.string ⟨r.toArray⟩]
theorem rb_set {b : Nat} {w : World} {s : By} (h : RB b w s) (r : By) : RB b (w.setCell ⟨b, 0, none⟩ (.string ⟨r.toArray⟩)) r := h.set 0 _
theorem byte2 (b : Nat) (c : UInt8) (r : By) (w : World) (h : RB b w (c :: r)) (hl : r.length ≤ 1000000) :
    Calls Tryz.prog 76 #[.pointer (some ⟨b, 0, none⟩)] w fun e w' => e = .returned (.int .u8 (c.toNat : Int)) ∧ RB b w' r ∧ w.grownBy w' (some b) :=
  (byte_ok b c r w h hl).mono fun _ _ ⟨e1, e2⟩ => ⟨e1, e2 ▸ rb_set h r, e2 ▸ g_set (World.grownBy.refl _ _) _⟩
theorem byteX (b : Nat) (w : World) (h : RB b w []) : Calls Tryz.prog 76 #[.pointer (some ⟨b, 0, none⟩)] w fun e w' => e = .panicked wrongP ∧ w.grownBy w' (some b) :=
  (byte_bad b w h).mono fun _ _ ⟨e1, e2⟩ => ⟨e1, e2 ▸ World.grownBy.refl _ _⟩
theorem takeX (b : Nat) (s p : By) (w : World) (h : RB b w s) (hr : tak p s = none) :
    Calls Tryz.prog 30 #[.pointer (some ⟨b, 0, none⟩), .string ⟨p.toArray⟩] w fun e w' => e = .panicked wrongP ∧ w.grownBy w' (some b) :=
  (take_bad b s p w h hr).mono fun _ _ ⟨e1, e2⟩ => ⟨e1, e2 ▸ World.grownBy.refl _ _⟩
theorem take2 (b : Nat) (s p r : By) (w : World) (h : RB b w s) (hr : tak p s = some r) :
    Calls Tryz.prog 30 #[.pointer (some ⟨b, 0, none⟩), .string ⟨p.toArray⟩] w fun e w' => e = .returned (.tuple #[]) ∧ RB b w' r ∧ w.grownBy w' (some b) :=
  (take_ok b s p r w h hr).mono fun _ _ ⟨e1, e2⟩ => ⟨e1, e2 ▸ rb_set h r, e2 ▸ g_set (World.grownBy.refl _ _) _⟩
theorem sign2 (b : Nat) (c x : UInt8) (r : By) (w : World) (h : RB b w (c :: r)) (hl : r.length ≤ 1000000) (hx : wo c = some x) :
    Calls Tryz.prog 77 #[.pointer (some ⟨b, 0, none⟩)] w fun e w' => e = .returned (.int .u8 (x.toNat : Int)) ∧ RB b w' r ∧ w.grownBy w' (some b) :=
  (sign_ok b c x r w h hl hx).mono fun _ _ ⟨e1, e2⟩ => ⟨e1, e2 ▸ rb_set h r, e2 ▸ g_set (World.grownBy.refl _ _) _⟩
theorem signX (b : Nat) (s : By) (w : World) (h : RB b w s) (hl : s.length ≤ 1000000) (hx : ∀ c r, s = c :: r → wo c = none) :
    Calls Tryz.prog 77 #[.pointer (some ⟨b, 0, none⟩)] w fun e w' => e = .panicked wrongP ∧ w.grownBy w' (some b) := by
  rcases s with _ | ⟨c, r⟩
  · exact (sign_end b w h).mono fun _ _ ⟨e1, e2⟩ => ⟨e1, e2 ▸ World.grownBy.refl _ _⟩
  · exact (sign_bad b c r w h (by simp at hl; omega) (hx c r rfl)).mono fun _ _ ⟨e1, e2⟩ => ⟨e1, e2 ▸ g_set (World.grownBy.refl _ _) _⟩

set_option maxRecDepth 20000 in
set_option maxHeartbeats 2000000 in
theorem string_any (b : Nat) (s : By) (w : World) (h : Blk w b 76 [.string ⟨s.toArray⟩]) (hl : s.length ≤ 100000) :
    Calls Tryz.prog 51 #[.pointer (some ⟨b, 0, none⟩)] w (StR s b w) := by
  obtain ⟨i0, hi, hz0, hz1, hz2⟩ := info_parts u8_row
  have HB := Lib.hid h.lt
  have hgr : w.grownBy w (some b) := World.grownBy.refl _ _
  cases ht : tak [34] s with
  | none =>
    have hq : strQ s = none := by unfold strQ; rw [ht]; rfl
    have HQ := Lib.hid hq
    clear hq
    go_enter Tryz.func51, Tryz.ntmps51
    go_wp2_with (go_at_call 30; refine (take_bad b s [34] _ h ht).mono ?_; rintro e w' ⟨rfl, rfl⟩)
    go_wp2
    exact ⟨rfl, StR.bad HQ.out hgr⟩
  | some s1 =>
    have hq : StI s [] s1 := by unfold StI strQ; rw [ht, Option.bind_some]; cases strP s1 <;> simp
    have hs1 : s1.length ≤ 99999 := by have := tak_some ht; rw [this] at hl; simp at hl; omega
    have H1 := Lib.hid hs1
    have HI := Lib.hid hq
    clear hs1 hq hl
    go_enter Tryz.func51, Tryz.ntmps51
    go_wp2_with (go_at_call 30; refine (take_ok b s [34] s1 _ h ht).mono ?_; rintro e w' ⟨rfl, rfl⟩)
    have hb1 := h.set 0 (.string ⟨s1.toArray⟩)
    have hg1 := g_set hgr (.string ⟨s1.toArray⟩)
    go_wp2
    go_loopw [3] (fun v wr => ∃ acc rest : By, Hid (StI s acc rest) ∧ Blk wr b 76 [.string ⟨rest.toArray⟩] ∧ wr.ownsRow w.heap.size 5 1 v acc.length (Lib.byteCells acc) ∧ w.grownBy wr (some b) ∧ Hid (acc.length + rest.length ≤ 99999)) (fun _ wr => match wr.cell? ⟨b, 0, none⟩ with | some (.string s) => s.size | _ => 0)
    case atStart => exact ⟨[], s1, HI, hb1, World.ownsRow_nil _ _ _ _, hg1, Lib.hid (by have := H1.out; simpa using this)⟩
    case round =>
      clear hb1 hg1 HI H1 h
      obtain ⟨acc, rest, HI, hbk, ho, hg, HL2⟩ := hrel
      have hms : (match wr.cell? ⟨b, 0, none⟩ with | some (.string s) => s.size | _ => 0) = rest.length := by rw [hbk.cell 0 rfl]; exact st_size _
      have HM := Lib.hid hms
      clear hms
      rcases rest with _ | ⟨c, r⟩
      · have hq := HI.out.bad strP_nil
        have HQ := Lib.hid hq
        clear hq
        go_wp2_with (go_at_call 76; refine (byte_bad b _ hbk).mono ?_; rintro e w' ⟨rfl, rfl⟩)
        go_wp2
        exact ⟨rfl, StR.bad HQ.out hg⟩
      · have hlr : r.length ≤ 1000000 := by have := HL2.out; simp at this; omega
        have HLR := Lib.hid hlr
        clear hlr
        go_wp2_with fail
        refine (byte2 b c r _ hbk HLR.out).mono ?_
        rintro e w1 ⟨rfl, hbN, hgN⟩
        have hoN := o_kept ho HB hgN
        have hgM := g_trans hg hgN
        clear hbk ho hg hgN
        have hbk := hbN
        have ho := hoN
        have hg := hgM
        clear hbN hoN hgM
        by_cases h34 : c = 34
        · subst h34
          have hq : strQ s = some (acc, r) := by have := HI.out; unfold StI at this; rw [this, strP_cons, if_pos rfl]; simp
          have HQ := Lib.hid hq
          have hcv := conv_own ho
          clear hq
          go_wp2
          go_ret
          refine ⟨hg, ?_⟩
          rw [HQ.out]
          exact ⟨rfl, hbk⟩
        have b34 : ((c.toNat : Int) == 34) = false := by rw [beq_eq_false_iff_ne]; intro e; exact h34 (by rw [← UInt8.toNat_inj]; show c.toNat = 34; omega)
        by_cases hx : c < 32 ∨ c > 126
        · have HQ := Lib.hid (HI.out.bad (by rw [strP_cons, if_neg h34, if_pos hx]))
          have hx2 : (c.toNat : Int) < 32 ∨ (32 ≤ (c.toNat : Int) ∧ 126 < (c.toNat : Int)) := by simp only [UInt8.lt_iff_toNat_lt, gt_iff_lt] at hx; simp at hx; omega
          clear hx h34
          rcases hx2 with hx2 | ⟨hx3, hx2⟩
          · go_wp2
            exact ⟨rfl, StR.bad HQ.out hg⟩
          · go_wp2
            exact ⟨rfl, StR.bad HQ.out hg⟩
        have hx2 : 32 ≤ (c.toNat : Int) ∧ (c.toNat : Int) ≤ 126 := by simp only [UInt8.lt_iff_toNat_lt, gt_iff_lt] at hx; simp at hx; omega
        obtain ⟨hx3, hx4⟩ := hx2
        by_cases h92 : c = 92
        · subst h92
          clear b34 hx3 hx4 hx h34
          rcases r with _ | ⟨d, r1⟩
          · have HQ := Lib.hid (HI.out.bad (by rfl))
            go_wp2_with fail
            refine (byteX b _ hbk).mono ?_
            rintro e w' ⟨rfl, hgN⟩
            have hgM := g_trans hg hgN
            go_wp2
            exact ⟨rfl, StR.bad HQ.out hgM⟩
          · have hlr : r1.length ≤ 1000000 := by have := HLR.out; simp at this; omega
            have HLS := Lib.hid hlr
            clear hlr
            go_wp2_with fail
            refine (byte2 b d r1 _ hbk HLS.out).mono ?_
            rintro e w2 ⟨rfl, hbN, hgN⟩
            have hoN := o_kept ho HB hgN
            have hgM := g_trans hg hgN
            clear hbk ho hg hgN
            have hbk := hbN
            have ho := hoN
            have hg := hgM
            clear hbN hoN hgM
            by_cases h117 : d = 117
            · subst h117
              have hu := strP_u r1
              cases ht0 : tak [48, 48] r1 with
              | none =>
                rw [ht0] at hu
                have HQ := Lib.hid (HI.out.bad hu)
                clear hu
                go_wp2_with fail
                refine (takeX b r1 [48, 48] _ hbk ht0).mono ?_
                rintro e w' ⟨rfl, hgN⟩
                have hgM := g_trans hg hgN
                go_wp2
                exact ⟨rfl, StR.bad HQ.out hgM⟩
              | some r2 =>
                rw [ht0] at hu
                have hl2 : r2.length + 2 = r1.length := by rw [tak_some ht0]; simp
                go_wp2_with fail
                refine (take2 b r1 [48, 48] r2 _ hbk ht0).mono ?_
                rintro e w3 ⟨rfl, hbN, hgN⟩
                have hoN := o_kept ho HB hgN
                have hgM := g_trans hg hgN
                clear hbk ho hg hgN
                have hbk := hbN
                have ho := hoN
                have hg := hgM
                clear hbN hoN hgM
                have HL3 := Lib.hid hl2
                clear hl2 ht0
                by_cases hA : ∃ a r3 x, r2 = a :: r3 ∧ wo a = some x
                · obtain ⟨a, r3, x, rfl, hxa⟩ := hA
                  go_wp2_with fail
                  refine (sign2 b a x r3 _ hbk (by have h1 := HLS.out; have h2 := HL3.out; simp at h2; omega) hxa).mono ?_
                  rintro e w4 ⟨rfl, hbN, hgN⟩
                  have hoN := o_kept ho HB hgN
                  have hgM := g_trans hg hgN
                  clear hbk ho hg hgN
                  have hbk := hbN
                  have ho := hoN
                  have hg := hgM
                  clear hbN hoN hgM
                  by_cases hB : ∃ b' r4 y, r3 = b' :: r4 ∧ wo b' = some y
                  · obtain ⟨b', r4, y, rfl, hyb⟩ := hB
                    simp only [hxa, hyb] at hu
                    have HU := Lib.hid hu
                    have hx16 := wo_lt a x hxa
                    have hy16 := wo_lt b' y hyb
                    have hor := or_hex x y hx16 hy16
                    clear hu
                    go_wp2_with fail
                    refine (sign2 b b' y r4 _ hbk (by have h1 := HLS.out; have h2 := HL3.out; simp at h2; omega) hyb).mono ?_
                    rintro e w5 ⟨rfl, hbN, hgN⟩
                    have hoN := o_kept ho HB hgN
                    have hgM := g_trans hg hgN
                    clear hbk ho hg hgN
                    have hbk := hbN
                    have ho := hoN
                    have hg := hgM
                    clear hbN hoN hgM
                    generalize x * 16 + y = z at HU hor
                    by_cases hz : 32 ≤ z ∧ z ≤ 126
                    · have hq := HU.out
                      rw [if_pos hz] at hq
                      have HQ := Lib.hid (HI.out.bad hq)
                      have z1 : 32 ≤ (z.toNat : Int) := by have := hz.1; rw [UInt8.le_iff_toNat_le] at this; simp at this; omega
                      have z2 : (z.toNat : Int) ≤ 126 := by have := hz.2; rw [UInt8.le_iff_toNat_le] at this; simp at this; omega
                      clear hz hq
                      go_wp2
                      exact ⟨rfl, StR.bad HQ.out hg⟩
                    · have hcc := HU.out
                      rw [if_neg hz] at hcc
                      have HC := Lib.hid hcc
                      have hz2 : (z.toNat : Int) < 32 ∨ (32 ≤ (z.toNat : Int) ∧ 126 < (z.toNat : Int)) := by simp only [UInt8.le_iff_toNat_le] at hz; simp at hz; omega
                      clear hz hcc
                      rcases hz2 with z1 | ⟨z1, z2⟩
                      · skip
                        have HLX : Hid (acc.length + 1 + r4.length ≤ 99999 ∧ r4.length < (match wr.cell? ⟨b, 0, none⟩ with | some (.string s) => s.size | _ => 0)) := Lib.hid (by rw [HM.out]; have h2 := HL2.out; have h3 := HL3.out; simp at h3; simp at h2 ⊢; omega)
                        go_wp2_with (at_builtin; go_loud (refine wpList_append_own _ rfl _ _ 36 rfl w.heap.size 5 i0 (.int .u8 0) 1 1 Tryz.underlying36 hi hz0 hz1 hz2 rfl (by decide) _ _ _ rfl (ho.alloc _) ⟨w5.heap.size, 0, none⟩ 1 1 (Lib.byteCells [z]) rfl rfl (cells_new _ _ _) (byte_one _) ?c3 ?c4 ?c5 ?_))
                        case c3 => have := HLX.out.1; unfold maxLen; omega
                        case c4 => have := HLX.out.1; omega
                        case c5 => have := hg.size; simp; omega
                        intro v' w9 hown' hgrow hv0
                        have hg9 := g_app hg hgrow (fun k hk => (ho.lt k hk).1)
                        have hb9 := (hbk.alloc _).grown hgrow (fun k hk e => by have := (ho.lt k hk).1; have := HB.out; omega)
                        have ho9 : w9.ownsRow w.heap.size 5 1 v' (acc ++ [z]).length (Lib.byteCells (acc ++ [z])) := own_cast hown' (by simp) (by rw [bc_append])
                        have HI9 := Lib.hid (HI.out.snoc (HC.out))
                        clear hv0 hgrow hown'
                        go_wp2
                        go_roundw
                        case rel => exact ⟨acc ++ [z], r4, HI9, hb9, ho9, hg9, Lib.hid (by have := HLX.out.1; simp at this ⊢; omega)⟩
                        case measure => rw [show (match w9.cell? ⟨b, 0, none⟩ with | some (.string s) => s.size | _ => 0) = r4.length from by rw [hb9.cell 0 rfl]; exact st_size _]; exact HLX.out.2
                      · skip
                        have HLX : Hid (acc.length + 1 + r4.length ≤ 99999 ∧ r4.length < (match wr.cell? ⟨b, 0, none⟩ with | some (.string s) => s.size | _ => 0)) := Lib.hid (by rw [HM.out]; have h2 := HL2.out; have h3 := HL3.out; simp at h3; simp at h2 ⊢; omega)
                        go_wp2_with (at_builtin; go_loud (refine wpList_append_own _ rfl _ _ 36 rfl w.heap.size 5 i0 (.int .u8 0) 1 1 Tryz.underlying36 hi hz0 hz1 hz2 rfl (by decide) _ _ _ rfl (ho.alloc _) ⟨w5.heap.size, 0, none⟩ 1 1 (Lib.byteCells [z]) rfl rfl (cells_new _ _ _) (byte_one _) ?c3 ?c4 ?c5 ?_))
                        case c3 => have := HLX.out.1; unfold maxLen; omega
                        case c4 => have := HLX.out.1; omega
                        case c5 => have := hg.size; simp; omega
                        intro v' w9 hown' hgrow hv0
                        have hg9 := g_app hg hgrow (fun k hk => (ho.lt k hk).1)
                        have hb9 := (hbk.alloc _).grown hgrow (fun k hk e => by have := (ho.lt k hk).1; have := HB.out; omega)
                        have ho9 : w9.ownsRow w.heap.size 5 1 v' (acc ++ [z]).length (Lib.byteCells (acc ++ [z])) := own_cast hown' (by simp) (by rw [bc_append])
                        have HI9 := Lib.hid (HI.out.snoc (HC.out))
                        clear hv0 hgrow hown'
                        go_wp2
                        go_roundw
                        case rel => exact ⟨acc ++ [z], r4, HI9, hb9, ho9, hg9, Lib.hid (by have := HLX.out.1; simp at this ⊢; omega)⟩
                        case measure => rw [show (match w9.cell? ⟨b, 0, none⟩ with | some (.string s) => s.size | _ => 0) = r4.length from by rw [hb9.cell 0 rfl]; exact st_size _]; exact HLX.out.2
                  · have hnone : ∀ c r, r3 = c :: r → wo c = none := by
                      intro c r e
                      cases h : wo c with
                      | none => rfl
                      | some y => exact absurd ⟨c, r, y, e, h⟩ hB
                    have hu2 : strP (92 :: 117 :: r1) = none := by
                      rw [hu]
                      rcases r3 with _ | ⟨b', r4⟩
                      · rfl
                      · simp only [hxa, hnone b' r4 rfl]
                    have HQ := Lib.hid (HI.out.bad hu2)
                    clear hu hu2 hB
                    go_wp2_with fail
                    refine (signX b r3 _ hbk (by have h1 := HLS.out; have h2 := HL3.out; simp at h2; omega) hnone).mono ?_
                    rintro e w' ⟨rfl, hgN⟩
                    have hgM := g_trans hg hgN
                    go_wp2
                    exact ⟨rfl, StR.bad HQ.out hgM⟩
                · have hnone : ∀ c r, r2 = c :: r → wo c = none := by
                    intro c r e
                    cases h : wo c with
                    | none => rfl
                    | some y => exact absurd ⟨c, r, y, e, h⟩ hA
                  have hu2 : strP (92 :: 117 :: r1) = none := by
                    rw [hu]
                    rcases r2 with _ | ⟨a, _ | ⟨b', r4⟩⟩
                    · rfl
                    · rfl
                    · simp only [hnone a _ rfl]
                  have HQ := Lib.hid (HI.out.bad hu2)
                  clear hu hu2 hA
                  go_wp2_with fail
                  refine (signX b r2 _ hbk (by have h1 := HLS.out; have h2 := HL3.out; omega) hnone).mono ?_
                  rintro e w' ⟨rfl, hgN⟩
                  have hgM := g_trans hg hgN
                  go_wp2
                  exact ⟨rfl, StR.bad HQ.out hgM⟩
            · have hcc := strP_92 d r1 h117
              have b117 : ((d.toNat : Int) == 117) = false := by rw [beq_eq_false_iff_ne]; intro e; exact h117 (by rw [← UInt8.toNat_inj]; show d.toNat = 117; omega)
              by_cases hd : d = 34 ∨ d = 92
              · rw [if_pos hd] at hcc
                have HC := Lib.hid hcc
                clear hcc h117 b117
                rcases hd with rfl | rfl
                · skip
                  have HLX : Hid (acc.length + 1 + r1.length ≤ 99999 ∧ r1.length < (match wr.cell? ⟨b, 0, none⟩ with | some (.string s) => s.size | _ => 0)) := Lib.hid (by rw [HM.out]; have h2 := HL2.out;  simp at h2 ⊢; omega)
                  go_wp2_with (at_builtin; go_loud (refine wpList_append_own _ rfl _ _ 36 rfl w.heap.size 5 i0 (.int .u8 0) 1 1 Tryz.underlying36 hi hz0 hz1 hz2 rfl (by decide) _ _ _ rfl (ho.alloc _) ⟨w2.heap.size, 0, none⟩ 1 1 (Lib.byteCells [34]) rfl rfl (cells_new _ _ _) (byte_one _) ?c3 ?c4 ?c5 ?_))
                  case c3 => have := HLX.out.1; unfold maxLen; omega
                  case c4 => have := HLX.out.1; omega
                  case c5 => have := hg.size; simp; omega
                  intro v' w9 hown' hgrow hv0
                  have hg9 := g_app hg hgrow (fun k hk => (ho.lt k hk).1)
                  have hb9 := (hbk.alloc _).grown hgrow (fun k hk e => by have := (ho.lt k hk).1; have := HB.out; omega)
                  have ho9 : w9.ownsRow w.heap.size 5 1 v' (acc ++ [34]).length (Lib.byteCells (acc ++ [34])) := own_cast hown' (by simp) (by rw [bc_append])
                  have HI9 := Lib.hid (HI.out.snoc (HC.out))
                  clear hv0 hgrow hown'
                  go_wp2
                  go_roundw
                  case rel => exact ⟨acc ++ [34], r1, HI9, hb9, ho9, hg9, Lib.hid (by have := HLX.out.1; simp at this ⊢; omega)⟩
                  case measure => rw [show (match w9.cell? ⟨b, 0, none⟩ with | some (.string s) => s.size | _ => 0) = r1.length from by rw [hb9.cell 0 rfl]; exact st_size _]; exact HLX.out.2
                · skip
                  have HLX : Hid (acc.length + 1 + r1.length ≤ 99999 ∧ r1.length < (match wr.cell? ⟨b, 0, none⟩ with | some (.string s) => s.size | _ => 0)) := Lib.hid (by rw [HM.out]; have h2 := HL2.out;  simp at h2 ⊢; omega)
                  go_wp2_with (at_builtin; go_loud (refine wpList_append_own _ rfl _ _ 36 rfl w.heap.size 5 i0 (.int .u8 0) 1 1 Tryz.underlying36 hi hz0 hz1 hz2 rfl (by decide) _ _ _ rfl (ho.alloc _) ⟨w2.heap.size, 0, none⟩ 1 1 (Lib.byteCells [92]) rfl rfl (cells_new _ _ _) (byte_one _) ?c3 ?c4 ?c5 ?_))
                  case c3 => have := HLX.out.1; unfold maxLen; omega
                  case c4 => have := HLX.out.1; omega
                  case c5 => have := hg.size; simp; omega
                  intro v' w9 hown' hgrow hv0
                  have hg9 := g_app hg hgrow (fun k hk => (ho.lt k hk).1)
                  have hb9 := (hbk.alloc _).grown hgrow (fun k hk e => by have := (ho.lt k hk).1; have := HB.out; omega)
                  have ho9 : w9.ownsRow w.heap.size 5 1 v' (acc ++ [92]).length (Lib.byteCells (acc ++ [92])) := own_cast hown' (by simp) (by rw [bc_append])
                  have HI9 := Lib.hid (HI.out.snoc (HC.out))
                  clear hv0 hgrow hown'
                  go_wp2
                  go_roundw
                  case rel => exact ⟨acc ++ [92], r1, HI9, hb9, ho9, hg9, Lib.hid (by have := HLX.out.1; simp at this ⊢; omega)⟩
                  case measure => rw [show (match w9.cell? ⟨b, 0, none⟩ with | some (.string s) => s.size | _ => 0) = r1.length from by rw [hb9.cell 0 rfl]; exact st_size _]; exact HLX.out.2
              · rw [if_neg hd] at hcc
                have HQ := Lib.hid (HI.out.bad hcc)
                have d34 : ((d.toNat : Int) == 34) = false := by rw [beq_eq_false_iff_ne]; intro e; exact hd (.inl (by rw [← UInt8.toNat_inj]; show d.toNat = 34; omega))
                have d92 : ((d.toNat : Int) == 92) = false := by rw [beq_eq_false_iff_ne]; intro e; exact hd (.inr (by rw [← UInt8.toNat_inj]; show d.toNat = 92; omega))
                have e34 : ((d.toNat : Int) != 34) = true := by rw [bne, d34]; rfl
                have e92 : ((d.toNat : Int) != 92) = true := by rw [bne, d92]; rfl
                have f34 : ¬ (d.toNat : Int) = 34 := by simpa using d34
                have f92 : ¬ (d.toNat : Int) = 92 := by simpa using d92
                clear hcc hd h117
                go_wp2
                exact ⟨rfl, StR.bad HQ.out hg⟩
        · have b92 : ((c.toNat : Int) == 92) = false := by rw [beq_eq_false_iff_ne]; intro e; exact h92 (by rw [← UInt8.toNat_inj]; show c.toNat = 92; omega)
          have hcc : strP (c :: r) = (strP r).map fun z => (c :: z.1, z.2) := by rw [strP_cons, if_neg h34, if_neg hx, if_neg h92]
          have HC := Lib.hid hcc
          clear hcc hx h34 h92
          have HLX : Hid (acc.length + 1 + r.length ≤ 99999 ∧ r.length < (match wr.cell? ⟨b, 0, none⟩ with | some (.string s) => s.size | _ => 0)) := Lib.hid (by rw [HM.out]; have h2 := HL2.out;  simp at h2 ⊢; omega)
          go_wp2_with (at_builtin; go_loud (refine wpList_append_own _ rfl _ _ 36 rfl w.heap.size 5 i0 (.int .u8 0) 1 1 Tryz.underlying36 hi hz0 hz1 hz2 rfl (by decide) _ _ _ rfl (ho.alloc _) ⟨w1.heap.size, 0, none⟩ 1 1 (Lib.byteCells [c]) rfl rfl (cells_new _ _ _) (byte_one _) ?c3 ?c4 ?c5 ?_))
          case c3 => have := HLX.out.1; unfold maxLen; omega
          case c4 => have := HLX.out.1; omega
          case c5 => have := hg.size; simp; omega
          intro v' w9 hown' hgrow hv0
          have hg9 := g_app hg hgrow (fun k hk => (ho.lt k hk).1)
          have hb9 := (hbk.alloc _).grown hgrow (fun k hk e => by have := (ho.lt k hk).1; have := HB.out; omega)
          have ho9 : w9.ownsRow w.heap.size 5 1 v' (acc ++ [c]).length (Lib.byteCells (acc ++ [c])) := own_cast hown' (by simp) (by rw [bc_append])
          have HI9 := Lib.hid (HI.out.snoc (HC.out))
          clear hv0 hgrow hown'
          go_wp2
          go_roundw
          case rel => exact ⟨acc ++ [c], r, HI9, hb9, ho9, hg9, Lib.hid (by have := HLX.out.1; simp at this ⊢; omega)⟩
          case measure => rw [show (match w9.cell? ⟨b, 0, none⟩ with | some (.string s) => s.size | _ => 0) = r.length from by rw [hb9.cell 0 rfl]; exact st_size _]; exact HLX.out.2
end Go.Proofs.YtffllacphfapnaaGreatDoor
namespace Go.Proofs.YtffllacphfapnaaGreatDoor
open Go.RowKit Js

/-- a sign's worth, or 16 -/
def wn (c : UInt8) : Int := match wo c with | some x => (x.toNat : Int) | none => 16
theorem wo_of_hx (x : UInt8) : x.toNat < 16 → wo (hx x) = some x := by revert x; exact all_u8 (by decide +kernel)
theorem wn_none {c : UInt8} (h : ∀ j, j < 16 → hx (UInt8.ofNat j) ≠ c) : wn c = 16 := by
  unfold wn
  cases e : wo c with
  | none => rfl
  | some x =>
    obtain ⟨h1, h2⟩ := wo_back c x e
    rw [UInt8.lt_iff_toNat_lt] at h2
    exact absurd (by simpa using h1) (h x.toNat (by simpa using h2))
theorem wn_some {c : UInt8} {k : Nat} (hk : k < 16) (h : hx (UInt8.ofNat k) = c) : wn c = (k : Int) := by
  have e : (UInt8.ofNat k).toNat = k := by rw [UInt8.toNat_ofNat']; omega
  have := wo_of_hx (UInt8.ofNat k) (by omega)
  rw [h] at this
  unfold wn; rw [this]; simp only [e]
theorem wn_of {c x : UInt8} (h : wo c = some x) : wn c = (x.toNat : Int) := by unfold wn; rw [h]
theorem wn_no {c : UInt8} (h : wo c = none) : wn c = 16 := by unfold wn; rw [h]
theorem StrR.none_ {s : By} {p : Nat} {t : By} (h : (s.drop p).head? ≠ some 34) : StrR s p t (-1) :=
  ⟨.inl rfl, fun t' r e => by rw [e] at h; exact absurd rfl h⟩
theorem StrR.some_ {s acc g : By} {p k : Nat} (h : SW (s.drop p) acc (34 :: g)) (hg : s.drop k = 34 :: g) (hp : p < k) : StrR s p acc ((k + 1 : Nat) : Int) := by
  have hl : s.length - k = g.length + 1 := by have := congrArg List.length hg; rw [List.length_drop] at this; exact this
  refine ⟨.inr ⟨k + 1, rfl, by omega, by omega⟩, fun t' r e => ?_⟩
  obtain ⟨e1, e2⟩ := h.stop t' r e
  exact ⟨e1.symm, by rw [e2, show s.length - g.length = k + 1 from by omega]⟩
theorem StrR.end_ {s acc : By} {p : Nat} {t : By} (h : SW (s.drop p) acc []) : StrR s p t (-1) := ⟨.inl rfl, fun t' r e => absurd e (h.none t' r)⟩
theorem drop_at1 (s : By) (k : Nat) (h : k < s.length) : s.drop k = s[k] :: s.drop (k + 1) := List.drop_eq_getElem_cons h
theorem u8_hex (x y : UInt8) (hx : x.toNat < 16) (hy : y.toNat < 16) : IntKind.u8.wrap (16 * (x.toNat : Int) + (y.toNat : Int)) = ((x * 16 + y).toNat : Int) := by
  have key : ∀ x y : Fin 16, IntKind.u8.wrap (16 * ((UInt8.ofNat x.val).toNat : Int) + ((UInt8.ofNat y.val).toNat : Int)) = ((UInt8.ofNat x.val * 16 + UInt8.ofNat y.val).toNat : Int) := by decide +kernel
  have := key ⟨x.toNat, hx⟩ ⟨y.toNat, hy⟩
  simpa using this

end Go.Proofs.YtffllacphfapnaaGreatDoor
namespace Go.Proofs.YtffllacphfapnaaGreatDoor
open Go.RowKit Js

theorem sl_str (s : By) (a b : Nat) (h1 : a ≤ b) (h2 : b ≤ s.length) (i j : Int) (hi : i = (a : Int)) (hj : j = (b : Int)) (w : World) : (Instr.slice 9 (.string ⟨s.toArray⟩) (some (.int .i64 i)) (some (.int .i64 j)) none).run Tryz.prog w = .ok (.string ⟨((s.drop a).take (b - a)).toArray⟩) w := by
  subst hi hj
  rw [run_slice_string w _ _ _ _ _ _ Tryz.underlying9 (by omega) (by omega) (by rw [st_size]; omega), ByteArray.extract_mk]
  simp
theorem take_pre {g p : By} (h : g.take p.length = p) : ∃ v, g = p ++ v := ⟨g.drop p.length, by
  have := List.take_append_drop p.length g
  rw [h] at this; exact this.symm⟩
theorem take_pre' {g p v : By} (h : g = p ++ v) : g.take p.length = p := by subst h; simp
/-- how the value's text begins: by a minus? -/
def sgn (b : Bool) : By := if b then [45] else []
/-- the digits that were read -/
def DG (s : By) (p : Nat) (b : Bool) (ds : By) (n : Int) (k : Nat) : Prop := k = p + (sgn b).length + ds.length ∧ k ≤ s.length ∧ s.drop p = sgn b ++ (ds ++ s.drop k) ∧ (∀ c ∈ ds, isD c = true) ∧ NF ds n ∧ ds.length ≤ 19
theorem DG.start {s : By} {p : Nat} {b : Bool} (hp : p + (sgn b).length ≤ s.length) (h : s.drop p = sgn b ++ s.drop (p + (sgn b).length)) : DG s p b [] 0 (p + (sgn b).length) :=
  ⟨rfl, hp, (by simpa using h), (fun c hc => by cases hc), NF.nil, (by simp)⟩
theorem DG.snoc {s : By} {p k : Nat} {b : Bool} {ds : By} {n n1 n2 : Int} {c : UInt8} (h : DG s p b ds n k) (hk : k < s.length) (hc : s[k] = c) (hd : isD c = true) (hl : ds.length < 19)
    (e1 : IntKind.i64.wrap (10 * n) = n1) (e2 : IntKind.i64.wrap (n1 - ((c.toNat : Int) - 48)) = n2) : DG s p b (ds ++ [c]) n2 (k + 1) := by
  obtain ⟨h1, h2, h3, h4, h5, h6⟩ := h
  have hD := isD_to hd
  refine ⟨by simp; omega, by omega, ?_, ?_, ?_, by simp; omega⟩
  · rw [h3, drop_at1 s k hk, hc]; simp
  · intro x hx
    rcases List.mem_append.1 hx with hx | hx
    · exact h4 x hx
    · simp at hx; subst hx; exact hd
  · have hb : -9223372036854775808 ≤ n2 ∧ n2 ≤ 9223372036854775807 := by rw [← e2]; simp only [IntKind.wrap, IntKind.bits, IntKind.signed]; simp; omega
    refine h5.snoc hd hb.1 hb.2 fun g1 g2 => ?_
    have : n1 = 10 * n := by rw [← e1]; exact IntWalk.i64_in _ (by omega)
    rw [← e2, this]
    exact IntWalk.i64_in _ (by omega)
theorem DG.nodig {s : By} {p k : Nat} {b : Bool} {n : Int} (h : DG s p b [] n k) (nm : By) (hg : notTB (s.drop p)) (hsg : b = false → (s.drop p).head? ≠ some 45) (hst : ∀ c, (s.drop k).head? = some c → isD c = false) : ValR nm s p zm (-1) := by
  obtain ⟨h1, h2, h3, h4, h5, h6⟩ := h
  refine ValR.nodig hg h3 ?_ rfl hst ⟨by decide, by decide⟩
  cases b
  · exact .inl ⟨rfl, hsg rfl⟩
  · exact .inr rfl
theorem DG.num {s ds : By} {p k : Nat} {b : Bool} {n v : Int} (h : DG s p b ds n k) (nm : By) (hg : notTB (s.drop p)) (hsg : b = false → (s.drop p).head? ≠ some 45) (hst : (∀ c, (s.drop k).head? = some c → isD c = false) ∨ 19 ≤ ds.length)
    (hne : ds ≠ []) (hv : if b then v = n else IntKind.i64.wrap (-n) = v) : ValR nm s p ⟨nm, 1, [], v, false⟩ (k : Int) ∧ inI v := by
  obtain ⟨h1, h2, h3, h4, h5, h6⟩ := h
  have hpos : 0 < ds.length := List.length_pos_iff.2 hne
  have hin : inI v := by
    cases b
    · simp at hv; rw [← hv]; unfold inI; simp only [IntKind.wrap, IntKind.bits, IntKind.signed]; simp; omega
    · simp at hv; rw [hv]; exact ⟨h5.1, h5.2.1⟩
  refine ⟨ValR.num (sg := sgn b) (ds := ds) (rest := s.drop k) (n := n) (v := v) hg h3 ?_ h4 hst h5 hin ?_ ?_ rfl (by rw [List.length_drop]; omega) (by omega), hin⟩
  · cases b
    · exact .inl ⟨rfl, hsg rfl⟩
    · exact .inr rfl
  · intro e
    cases b
    · cases e
    · simpa using hv
  · intro e h0
    cases b
    · simp at hv; rw [← hv]; exact IntWalk.i64_in _ (by have := h5.1; have := h5.2.1; omega)
    · cases e
theorem head_at {s : By} {k : Nat} {c : UInt8} (h : k < s.length) (hc : s[k] = c) : (s.drop k).head? = some c := by rw [drop_at1 s k h, hc]; rfl
theorem head_no {s : By} {k : Nat} (h : s.length ≤ k) : (s.drop k).head? = none := by rw [List.drop_eq_nil_of_le h]; rfl

end Go.Proofs.YtffllacphfapnaaGreatDoor
namespace Go.Proofs.YtffllacphfapnaaGreatDoor
open Go.RowKit Js

theorem mb_row : (Tryz.prog.info? 50).map (fun i => (i.zero, i.size, i.bytes)) = some (some (.agg #[.string ⟨#[]⟩, .int .i64 0, .string ⟨#[]⟩, .int .i64 0, .bool false]), 5, 56) := by kernel_rfl
theorem mc_one (m : Mb) : ∀ u ∈ mc m, u.oneCell' = true := by
  intro u hu; simp only [mc, List.mem_cons, List.not_mem_nil, or_false] at hu
  rcases hu with rfl | rfl | rfl | rfl | rfl <;> rfl
theorem mCells_one (l : List Mb) : ∀ u ∈ mCells l, u.oneCell' = true := by
  intro u hu; simp only [mCells, List.mem_flatMap] at hu
  obtain ⟨m, _, h⟩ := hu
  exact mc_one m u h
theorem mCells_snoc (l : List Mb) (m : Mb) : mCells (l ++ [m]) = mCells l ++ mc m := by simp [mCells]
/-- a row of members of the call's own -/
def OwnM (W : World) (B : Nat) (v : Value) (l : List Mb) : Prop := W.ownsRow B 50 5 v l.length (mCells l)
theorem OwnM.rd {W : World} {B : Nat} {v : Value} {l : List Mb} (h : OwnM W B v l) : RdM W v l := Rd.of_own h
theorem OwnM.nil (W : World) (B : Nat) : OwnM W B (.slice none 0 0) [] := World.ownsRow_nil _ _ _ _
theorem OwnM.below {W W' : World} {B : Nat} {v : Value} {l : List Mb} (h : OwnM W B v l) (hb : Below W.heap.size W W') : OwnM W' B v l := own_below h hb
theorem fitL_snoc {l : List Mb} {m : Mb} (h : fitL l) (hm : fitM m) : fitL (l ++ [m]) := by
  intro x hx
  rcases List.mem_append.1 hx with hx | hx
  · exact h x hx
  · simp at hx; subst hx; exact hm

end Go.Proofs.YtffllacphfapnaaGreatDoor
namespace Go.Proofs.YtffllacphfapnaaGreatDoor
open Go.RowKit Js

/-- the listed variables, whatever is done from block B on -/
structure LaidB (B : Nat) (w : World) : Prop where
  tab : Lib.TabBelow Tryz.prog B w "internal/strconv.uint64pow10" .u64 Lib.pow10Tab
  syn : ∃ tp p, ∀ W, Below B w W → W.var? Tryz.prog "strconv.ErrSyntax" = some #[.iface tp p]
  rng : ∃ tp p, ∀ W, Below B w W → W.var? Tryz.prog "strconv.ErrRange" = some #[.iface tp p]
theorem LaidB.on {B : Nat} {w w1 : World} (h : LaidB B w) (hb : Below B w w1) : LaidB B w1 := by
  obtain ⟨a, p, h1⟩ := h.syn
  obtain ⟨c, q, h2⟩ := h.rng
  exact ⟨h.tab.on hb, ⟨a, p, fun W hW => h1 W (hb.trans hW)⟩, ⟨c, q, fun W hW => h2 W (hb.trans hW)⟩⟩
theorem var_below {P : Program} {w W : World} {name : String} {cs : Array Value} (h : w.var? P name = some cs) (hb : Below w.heap.size w W) : W.var? P name = some cs := by
  unfold World.var? at h ⊢
  cases hg : P.globalNamed name with
  | none => rw [hg] at h; cases h
  | some g =>
    rw [hg, Option.bind_some] at h
    rw [Option.bind_some]
    cases hx : w.heap[g]? with
    | none => rw [hx] at h; cases h
    | some o =>
      rw [hx] at h
      rw [hb.block g (Array.getElem?_eq_some_iff.1 hx).1, hx]
      exact h
theorem LaidB.start {w : World} (h : Lib.TabIs Tryz.prog w "internal/strconv.uint64pow10" .u64 Lib.pow10Tab) (h1 : ∃ tp p, w.var? Tryz.prog "strconv.ErrSyntax" = some #[.iface tp p]) (h2 : ∃ tp p, w.var? Tryz.prog "strconv.ErrRange" = some #[.iface tp p]) : LaidB w.heap.size w := by
  obtain ⟨a, p, h1⟩ := h1
  obtain ⟨c, q, h2⟩ := h2
  exact ⟨Lib.tabBelow_of_tabIs h, ⟨a, p, fun W hW => var_below h1 hW⟩, ⟨c, q, fun W hW => var_below h2 hW⟩⟩
theorem LaidB.mono {B B' : Nat} {w : World} (h : LaidB B w) (hB : B ≤ B') : LaidB B' w := by
  obtain ⟨a, p, h1⟩ := h.syn
  obtain ⟨c, q, h2⟩ := h.rng
  exact ⟨fun W hW => h.tab W (hW.mono hB), ⟨a, p, fun W hW => h1 W (hW.mono hB)⟩, ⟨c, q, fun W hW => h2 W (hW.mono hB)⟩⟩

theorem g_below {w a : World} {b : Nat} (h : Below w.heap.size w a) : w.grownBy a (some b) := ⟨h.os, h.tape, h.output, h.size, fun k hk _ => h.block k hk⟩
theorem g_new {w a : World} {b : Nat} (h : w.grownBy a (some b)) {p : Addr} (hp : w.heap.size ≤ p.block) (v : Value) : w.grownBy (a.setCell p v) (some b) := by
  refine ⟨h.os, h.tape, h.output, by simpa [World.setCell] using h.size, fun k hk hne => ?_⟩
  rw [Below.heap_setCell _ _ _ _ (fun e => by omega)]
  exact h.block k hk hne
theorem g_setM {w W : World} {b c : Nat} {x : Mb} (h : w.grownBy W (some b)) (hc : w.heap.size ≤ c) : w.grownBy (((((W.setCell ⟨c, 0, none⟩ (.string ⟨x.nm.toArray⟩)).setCell ⟨c, 1, none⟩ (.int .i64 x.kd)).setCell ⟨c, 2, none⟩ (.string ⟨x.tx.toArray⟩)).setCell ⟨c, 3, none⟩ (.int .i64 x.n)).setCell ⟨c, 4, none⟩ (.bool x.b)) (some b) :=
  g_new (g_new (g_new (g_new (g_new h (p := ⟨c, 0, none⟩) hc _) (p := ⟨c, 1, none⟩) hc _) (p := ⟨c, 2, none⟩) hc _) (p := ⟨c, 3, none⟩) hc _) (p := ⟨c, 4, none⟩) hc _
/-- what the row b's owner may do leaves all below b as it was -/
theorem g_from {B b : Nat} {w a : World} (h : w.grownBy a (some b)) (hB : B ≤ b) (hs : B ≤ w.heap.size) : Below B w a := ⟨h.os, h.tape, h.output, h.size, fun k hk => h.block k (by omega) (fun e => by cases e; omega)⟩
theorem rb_setM {W : World} {b c : Nat} {s : By} {x : Mb} (h : RB b W s) (hne : b ≠ c) : RB b (((((W.setCell ⟨c, 0, none⟩ (.string ⟨x.nm.toArray⟩)).setCell ⟨c, 1, none⟩ (.int .i64 x.kd)).setCell ⟨c, 2, none⟩ (.string ⟨x.tx.toArray⟩)).setCell ⟨c, 3, none⟩ (.int .i64 x.n)).setCell ⟨c, 4, none⟩ (.bool x.b)) s :=
  ((((h.setOther ⟨c, 0, none⟩ _ hne).setOther ⟨c, 1, none⟩ _ hne).setOther ⟨c, 2, none⟩ _ hne).setOther ⟨c, 3, none⟩ _ hne).setOther ⟨c, 4, none⟩ _ hne

theorem str_ok (b : Nat) (s t r : By) (w : World) (h : RB b w s) (hl : s.length ≤ 100000) (hq : strQ s = some (t, r)) :
    Calls Tryz.prog 51 #[.pointer (some ⟨b, 0, none⟩)] w fun e w' => e = .returned (.string ⟨t.toArray⟩) ∧ RB b w' r ∧ w.grownBy w' (some b) :=
  (string_any b s w h hl).mono fun e w' h => by
    unfold StR at h; rw [hq] at h
    exact ⟨h.2.1, h.2.2, h.1⟩
theorem str_bad (b : Nat) (s : By) (w : World) (h : RB b w s) (hl : s.length ≤ 100000) (hq : strQ s = none) :
    Calls Tryz.prog 51 #[.pointer (some ⟨b, 0, none⟩)] w fun e w' => e = .panicked wrongP ∧ w.grownBy w' (some b) :=
  (string_any b s w h hl).mono fun e w' h => by
    unfold StR at h; rw [hq] at h
    exact ⟨h.2, h.1⟩
theorem atoi_ok (d : By) (v : Int) (w : World) (hl : d.length ≤ 100000) (h : Lib.atoiAll d = .ok v) :
    Calls Tryz.prog 52 #[.string ⟨d.toArray⟩] w fun e w' => e = .returned (.tuple #[.int .i64 v, .nilIface]) ∧ Below w.heap.size w w' :=
  (Tryz.strconv_Atoi_ok ⟨d.toArray⟩ (by rw [st_size]; omega) v h w).mono fun e w' ⟨h1, h2⟩ => ⟨h1, by
    rcases h2 with rfl | ⟨t, rfl⟩
    · exact Below.refl _ _
    · exact Lib.bytesWorld_below _ _ _⟩
theorem atoi_bad (d : By) (B : Nat) (w : World) (hl : d.length ≤ 100000) (hL : LaidB B w) (h : ∀ v, Lib.atoiAll d ≠ .ok v) :
    Calls Tryz.prog 52 #[.string ⟨d.toArray⟩] w fun e w' => (∃ x tp p, e = .returned (.tuple #[.int .i64 x, .iface tp p])) ∧ Below w.heap.size w w' := by
  rcases hd : Lib.atoiAll d with v | _ | _
  · exact absurd hd (h v)
  · obtain ⟨tp, p, hv⟩ := hL.syn
    exact (Tryz.strconv_Atoi_syntax_var ⟨d.toArray⟩ (by rw [st_size]; omega) hd tp p w (hv w (Below.refl _ _))).mono fun e w' ⟨N, h1, _, _, h2⟩ => ⟨⟨_, _, _, h1⟩, h2⟩
  · obtain ⟨tp, p, hv⟩ := hL.rng
    exact (Tryz.strconv_Atoi_range_var ⟨d.toArray⟩ (by rw [st_size]; omega) hd tp p w (hv w (Below.refl _ _))).mono fun e w' ⟨N, h1, _, _, h2⟩ => ⟨⟨_, _, _, h1⟩, h2⟩
theorem itoa_any (v : Int) (h0 : -9223372036854775808 ≤ v) (h1 : v ≤ 9223372036854775807) (B : Nat) (w : World) (hL : LaidB B w) :
    Calls Tryz.prog 53 #[.int .i64 v] w fun e w' => e = .returned (.string ⟨(Lib.itoa v).toArray⟩) ∧ Below w.heap.size w w' :=
  (Tryz.strconv_Itoa v h0 h1 w (hL.tab w (Below.refl _ _))).mono fun e w' ⟨h1, k, os, h2⟩ => ⟨h1, by rw [h2]; exact Lib.below_grow _ _ (Nat.le_refl _) _ _⟩
theorem hp1 (s : By) (c : UInt8) : Lib.hasPrefix s [c] = (s.head? == some c) := by
  unfold Lib.hasPrefix
  cases s with
  | nil => simp
  | cons d s =>
    rw [Bool.eq_iff_iff, beq_iff_eq]
    simp only [List.isPrefixOf, Bool.and_true, beq_iff_eq, List.head?, Option.some.injEq]
    exact ⟨Eq.symm, Eq.symm⟩
theorem has_any (s : By) (c : UInt8) (t : Bool) (w : World) (ht : (s.head? == some c) = t) : Calls Tryz.prog 31 #[.string ⟨s.toArray⟩, .string ⟨[c].toArray⟩] w fun e w' => e = .returned (.bool t) ∧ w' = w :=
  (Tryz.strings_HasPrefix ⟨s.toArray⟩ ⟨[c].toArray⟩ w).mono fun e w' ⟨h1, h2⟩ => ⟨by rw [h1]; show Ending.returned (.bool (Lib.hasPrefix s [c])) = _; rw [hp1, ht], h2⟩
/-- what member does -/
def MbR (s : By) (b : Nat) (w : World) (e : Ending) (w' : World) : Prop := w.grownBy w' (some b) ∧ match mem s with
  | some (m, r) => e = .returned (mv m) ∧ RB b w' r
  | none => e = .panicked wrongP
theorem MbR.bad {s : By} {b : Nat} {w w' : World} (h : mem s = none) (hg : w.grownBy w' (some b)) : MbR s b w (.panicked wrongP) w' := by
  unfold MbR; rw [h]; exact ⟨hg, rfl⟩
theorem MbR.ok {s : By} {b : Nat} {w w' : World} {m : Mb} {r : By} (h : mem s = some (m, r)) (hg : w.grownBy w' (some b)) (hb : RB b w' r) : MbR s b w (.returned (mv m)) w' := by
  unfold MbR; rw [h]; exact ⟨hg, rfl, hb⟩
theorem tw_take (p : UInt8 → Bool) (s : By) (k : Nat) (hk : k ≤ s.length) (h1 : ∀ j (h : j < s.length), j < k → p s[j] = true) (h2 : ∀ c, (s.drop k).head? = some c → p c = false) : s.takeWhile p = s.take k ∧ s.dropWhile p = s.drop k := by
  have := tw_app p (s.take k) (s.drop k) (fun c hc => by
    obtain ⟨j, hj, rfl⟩ := List.getElem_of_mem hc
    rw [List.length_take] at hj
    rw [List.getElem_take]
    exact h1 j (by omega) (by omega)) h2
  rwa [List.take_append_drop] at this
theorem num_bad {s d : By} (h1 : s.takeWhile isN = d) (h : ∀ v, Lib.atoiAll d ≠ .ok v) : num s = none := by
  unfold num
  rw [h1]
  rcases ha : Lib.atoiAll d with v | _ | _
  · exact absurd ha (h v)
  · rfl
  · rfl
theorem num_ok {s d r : By} {v : Int} (h1 : s.takeWhile isN = d) (h2 : s.dropWhile isN = r) (h : Lib.atoiAll d = .ok v) : num s = if Lib.itoa v = d then some (v, r) else none := by
  unfold num
  rw [h1, h2, h]
theorem keep_nb {W w : World} {b c : Nat} {s2 : By} (h1 : RB b W s2) (h2 : Blk W c 50 (mc zm)) (h3 : w.grownBy W (some b)) :
    W.cell? ⟨b, 0, none⟩ = some (.string ⟨s2.toArray⟩) ∧ RB b W s2 ∧ Blk W c 50 (mc zm) ∧ w.grownBy W (some b) := ⟨h1.cell 0 rfl, h1, h2, h3⟩
theorem g_drewN {w a : World} {b : Nat} (h : w.grownBy a (some b)) (n : Nat) : w.grownBy (a.drewN n) (some b) := ⟨h.os, h.tape, h.output, h.size, h.block⟩
end Go.Proofs.YtffllacphfapnaaGreatDoor
namespace Go.Proofs.YtffllacphfapnaaGreatDoor
open Go.RowKit

theorem catch_wrong (p q : Nat) (w : World) (x y : Value) (h1 : Blk w p 46 [x]) (h2 : Blk w q 43 [y]) (hne : q ≠ p) :
    CallsD Tryz.prog 29 #[.pointer (some ⟨p, 0, none⟩), .pointer (some ⟨q, 0, none⟩)] (.panicking [{ v := .iface 72 (.agg #[]), recovered := false }]) w fun e u' w' =>
      e = .returned (.tuple #[]) ∧ u' = .panicking [{ v := .iface 72 (.agg #[]), recovered := true }] ∧ w' = ((w.alloc (.cells #[] 72)).setCell ⟨p, 0, none⟩ (.slice none 0 0)).setCell ⟨q, 0, none⟩ (.int .i64 3) := by
  have hta : ∀ W : World, (Instr.typeAssert (.iface 72 (.agg #[])) 20 72 true).run Tryz.prog W = .ok (.tuple #[.agg #[], .bool true]) W := fun W => by kernel_rfl
  have a3 := (h1.alloc (.cells #[] 72)).cell 0 rfl
  have a4 := (h1.alloc (.cells #[] 72)).frozen 0
  have b3 := ((h2.alloc (.cells #[] 72)).setOther ⟨p, 0, none⟩ (.slice none 0 0) hne).cell 0 rfl
  have b4 := ((h2.alloc (.cells #[] 72)).setOther ⟨p, 0, none⟩ (.slice none 0 0) hne).frozen 0
  clear h1 h2
  refine callsD_of_wpS Tryz.func29 rfl fun c₀ cs hu => ?_
  apply wpS_seq
  apply wpS_region
  simp [wpOpsS, go_sem, recoverD, hu, Tryz.ntmps29, Exit.thenS]
  apply wpS_seq
  apply wpS_region
  simp [wpOpsS, go_sem, Exit.thenS]
  refine wpS_cond (t := true) (by simp [Act.eval, Array.replicate]) ?_
  simp only [if_true]
  apply wpS_seq
  apply wpS_seq
  apply wpS_region
  simp [wpOpsS, go_sem, Exit.thenS, hta]
  apply wpS_seq
  apply wpS_region
  simp [wpOpsS, go_sem, Exit.thenS]
  refine wpS_cond (t := false) (by simp [Act.eval, Array.replicate]) ?_
  simp only [Bool.false_eq_true, if_false]
  refine wpS_of_wp (wp_skip ?_)
  simp only [Exit.thenS]
  apply wpS_region
  simp [wpOpsS, go_sem, a3, a4, b3, b4, bodyPostS, results, Tryz.results29]

theorem catch_idle (p q : Addr) (w : World) :
    CallsD Tryz.prog 29 #[.pointer (some p), .pointer (some q)] .returning w fun e u' w' => e = .returned (.tuple #[]) ∧ u' = .returning ∧ w' = w := by
  refine callsD_of_wpS Tryz.func29 rfl fun c₀ cs hu => ?_
  apply wpS_seq
  apply wpS_region
  simp [wpOpsS, go_sem, recoverD, hu, Tryz.ntmps29, Exit.thenS]
  apply wpS_seq
  apply wpS_region
  simp [wpOpsS, go_sem, Exit.thenS]
  refine wpS_cond (t := false) (by simp [Act.eval, Array.replicate]) ?_
  simp only [Bool.false_eq_true, if_false]
  refine wpS_of_wp (wp_skip ?_)
  cases c₀
  simp_all [bodyPostS, results, Tryz.results29]

/-- Parse's end where its body panicked with the reader's own word -/
theorem parse_out {tmps : Array Value} {p q : Nat} (ht2 : tmps.getD 2 undef = .pointer (some ⟨p, 0, none⟩)) (ht3 : tmps.getD 3 undef = .pointer (some ⟨q, 0, none⟩)) {W : World} {x y : Value} (h1 : Blk W p 46 [x]) (h2 : Blk W q 43 [y]) (hne : q ≠ p) {R : Ending → World → Prop}
    (hR : R (.returned (.tuple #[.slice none 0 0, .int .i64 3])) (((W.alloc (.cells #[] 72)).setCell ⟨p, 0, none⟩ (.slice none 0 0)).setCell ⟨q, 0, none⟩ (.int .i64 3))) :
    Leaves Tryz.prog Tryz.f15 tmps R [{ target := .fn (Fn.func 29) #[.pointer (some ⟨p, 0, none⟩), .pointer (some ⟨q, 0, none⟩)], args := #[] }] (.panicking [{ v := .iface 72 (.agg #[]), recovered := false }]) W := by
  have k1 := (((h1.alloc (.cells #[] 72)).set 0 (.slice none 0 0)).setOther ⟨q, 0, none⟩ (.int .i64 3) (fun e => hne e.symm)).cell 0 rfl
  have k2 := (((h2.alloc (.cells #[] 72)).setOther ⟨p, 0, none⟩ (.slice none 0 0) hne).set 0 (.int .i64 3)).cell 0 rfl
  refine leaves_cons (f := 29) (args := #[.pointer (some ⟨p, 0, none⟩), .pointer (some ⟨q, 0, none⟩)]) (by simp) (by simp [go_sem]) ?_
  refine (catch_wrong p q W x y h1 h2 hne).mono ?_
  rintro e u' w'' ⟨rfl, rfl, rfl⟩
  refine ⟨_, ?_, hR⟩
  have t2 : tmps[2]?.getD undef = .pointer (some ⟨p, 0, none⟩) := by rw [← ht2, Array.getD_eq_getD_getElem?]
  have t3 : tmps[3]?.getD undef = .pointer (some ⟨q, 0, none⟩) := by rw [← ht3, Array.getD_eq_getD_getElem?]
  simp [results, Tryz.results15, go_sem, t2, t3, k1, k2]
theorem parse_ret {tmps : Array Value} {p q : Nat} (ht2 : tmps.getD 2 undef = .pointer (some ⟨p, 0, none⟩)) (ht3 : tmps.getD 3 undef = .pointer (some ⟨q, 0, none⟩)) {W : World} {x y : Value} (h1 : Blk W p 46 [x]) (h2 : Blk W q 43 [y]) {R : Ending → World → Prop}
    (hR : R (.returned (.tuple #[x, y])) W) :
    Leaves Tryz.prog Tryz.f15 tmps R [{ target := .fn (Fn.func 29) #[.pointer (some ⟨p, 0, none⟩), .pointer (some ⟨q, 0, none⟩)], args := #[] }] .returning W := by
  have k1 := h1.cell 0 rfl
  have k2 := h2.cell 0 rfl
  refine leaves_cons (f := 29) (args := #[.pointer (some ⟨p, 0, none⟩), .pointer (some ⟨q, 0, none⟩)]) (by simp) (by simp [go_sem]) ?_
  refine (catch_idle ⟨p, 0, none⟩ ⟨q, 0, none⟩ W).mono ?_
  rintro e u' w'' ⟨rfl, rfl, rfl⟩
  refine ⟨_, ?_, hR⟩
  have t2 : tmps[2]?.getD undef = .pointer (some ⟨p, 0, none⟩) := by rw [← ht2, Array.getD_eq_getD_getElem?]
  have t3 : tmps[3]?.getD undef = .pointer (some ⟨q, 0, none⟩) := by rw [← ht3, Array.getD_eq_getD_getElem?]
  simp [results, Tryz.results15, go_sem, t2, t3, k1, k2]
end Go.Proofs.YtffllacphfapnaaGreatDoor
namespace Go.Proofs.YtffllacphfapnaaGreatDoor
open Go.RowKit Js

/-- what is still to be parsed: r, behind the members L -/
def PI (s : By) (L : List Mb) (r : By) : Prop := (tak [123] s).bind (go 65 []) = go (65 - L.length) L r
theorem PI.start {s r : By} (h : tak [123] s = some r) : PI s [] r := by unfold PI; rw [h]; rfl
theorem go_step {L : List Mb} (r : By) (hL : L.length ≤ 64) : go (65 - L.length) L r = if r.head? = some 125 then (if r = [125] then some L else none) else
      ((if L = [] then some r else tak [44] r).bind mem).bind fun p => if hasN L p.1.nm = true ∨ L.length = 64 then none else go (65 - (L.length + 1)) (L ++ [p.1]) p.2 := by
  rw [show 65 - L.length = (64 - L.length) + 1 from by omega, show 65 - (L.length + 1) = 64 - L.length from by omega]
  rfl
/-- all that is to be parsed fails -/
def PN (s : By) : Prop := (tak [123] s).bind (go 65 []) = none
theorem PN.parse {s : By} (h : PN s) (hs : ¬ 16384 < s.length) : parse s = ([], 3) := by
  unfold PN at h; unfold Js.parse; rw [if_neg (by omega), h]
theorem PN.noOpen {s : By} (h : tak [123] s = none) : PN s := by unfold PN; rw [h]; rfl
theorem PI.shut {s r : By} {L : List Mb} (h : PI s L r) (hL : L.length ≤ 64) (hr : r.head? = some 125) (hr2 : r = [125]) (hs : ¬ 16384 < s.length) : parse s = (L, 0) := by
  unfold PI at h; rw [go_step r hL, if_pos hr, if_pos hr2] at h
  unfold Js.parse; rw [if_neg (by omega), h]
theorem PI.more {s r : By} {L : List Mb} (h : PI s L r) (hL : L.length ≤ 64) (hr : r.head? = some 125) (hr2 : r ≠ [125]) : PN s := by
  unfold PI at h; rw [go_step r hL, if_pos hr, if_neg hr2] at h; exact h
theorem PI.noComma {s r : By} {L : List Mb} (h : PI s L r) (hL : L.length ≤ 64) (hr : r.head? ≠ some 125) (hn : L ≠ []) (ht : tak [44] r = none) : PN s := by
  unfold PI at h; rw [go_step r hL, if_neg hr, if_neg hn, ht] at h; exact h
/-- behind the comma, if one is wanted -/
def cm (L : List Mb) (r : By) : Option By := if L = [] then some r else tak [44] r
theorem PI.noMem {s r r1 : By} {L : List Mb} (h : PI s L r) (hL : L.length ≤ 64) (hr : r.head? ≠ some 125) (ht : cm L r = some r1) (hm : mem r1 = none) : PN s := by
  unfold PI at h; unfold cm at ht; rw [go_step r hL, if_neg hr, ht] at h; simp only [Option.bind_some, hm, Option.bind_none] at h; exact h
theorem PI.bad {s r r1 r2 : By} {L : List Mb} {m : Mb} (h : PI s L r) (hL : L.length ≤ 64) (hr : r.head? ≠ some 125) (ht : cm L r = some r1) (hm : mem r1 = some (m, r2)) (hb : hasN L m.nm = true ∨ L.length = 64) : PN s := by
  unfold PI at h; unfold cm at ht; rw [go_step r hL, if_neg hr, ht] at h; simp only [Option.bind_some, hm] at h; rw [if_pos hb] at h; exact h
theorem PI.next {s r r1 r2 : By} {L : List Mb} {m : Mb} (h : PI s L r) (hL : L.length ≤ 64) (hr : r.head? ≠ some 125) (ht : cm L r = some r1) (hm : mem r1 = some (m, r2)) (hb : ¬ (hasN L m.nm = true ∨ L.length = 64)) : PI s (L ++ [m]) r2 := by
  unfold PI at h ⊢; unfold cm at ht; rw [go_step r hL, if_neg hr, ht] at h; simp only [Option.bind_some, hm] at h; rw [if_neg hb] at h
  rw [h, List.length_append]; rfl
theorem OwnM.grownB {W W' : World} {B b : Nat} {v : Value} {l : List Mb} (h : OwnM W B v l) (hg : W.grownBy W' (some b)) (hb : b < B) : OwnM W' B v l := by
  refine ⟨h.1, ?_⟩
  rcases h.2 with h2 | ⟨g, cap, cur, hv, hB, hh, r⟩
  · exact .inl h2
  · exact .inr ⟨g, cap, cur, hv, hB, (hg.block g (Array.getElem?_eq_some_iff.1 hh).1 (fun e => by cases e; omega)).trans hh, r⟩
/-- how many elements the slice in a block's only cell may still take -/
def roomAt (W : World) (b : Nat) : Nat := match W.cell? ⟨b, 0, none⟩ with
  | some (.slice _ n _) => 65 - n
  | _ => 0
theorem roomAt_of {W : World} {b : Nat} {a : Option Addr} {n c : Nat} (h : W.cell? ⟨b, 0, none⟩ = some (.slice a n c)) : roomAt W b = 65 - n := by unfold roomAt; rw [h]
theorem own_set_ne {W : World} {B : Nat} {e : TypeId} {sz : Nat} {v : Value} {n : Nat} {xs : List Value} (h : W.ownsRow B e sz v n xs) {a : Addr} (ha : ∀ k, v.ownBlock = some k → k ≠ a.block) (u : Value) : (W.setCell a u).ownsRow B e sz v n xs := by
  refine ⟨h.1, ?_⟩
  rcases h.2 with h2 | ⟨g, cap, cur, hv, hB, hh, r⟩
  · exact .inl h2
  · refine .inr ⟨g, cap, cur, hv, hB, ?_, r⟩
    have hne : g ≠ a.block := ha g (by rw [hv]; rfl)
    rw [Below.heap_setCell _ _ _ _ hne]; exact hh
theorem OwnM.front {W : World} {B : Nat} {v : Value} {l : List Mb} (h : OwnM W B v l) : ∀ k, v.ownBlock = some k → k < W.heap.size := fun k hk => (World.ownsRow.lt h k hk).2

/-- Parse's memory: its two results' variables, the reader's, the row of the members read -/
structure PSt (w W : World) (v : Value) (L : List Mb) (r : By) : Prop where
  p : Blk W w.heap.size 46 [v]
  q : Blk W (w.heap.size + 1) 43 [.int .i64 0]
  r : RB (w.heap.size + 1 + 1) W r
  own : OwnM W (w.heap.size + 3) v L
  b : Below w.heap.size w W
theorem PSt.grown {w W W' : World} {v : Value} {L : List Mb} {r r' : By} (h : PSt w W v L r) (hg : W.grownBy W' (some (w.heap.size + 1 + 1))) (hr : RB (w.heap.size + 1 + 1) W' r') : PSt w W' v L r' :=
  ⟨h.p.grown hg (fun r hr e => by cases hr; omega), h.q.grown hg (fun r hr e => by cases hr; omega), hr, h.own.grownB hg (by omega), h.b.trans (g_from hg (by omega) h.b.size)⟩
theorem PSt.below {w W W' : World} {v : Value} {L : List Mb} {r : By} (h : PSt w W v L r) (hb : Below W.heap.size W W') : PSt w W' v L r :=
  ⟨h.p.below hb h.p.lt, h.q.below hb h.q.lt, Blk.below h.r hb (Blk.lt h.r), h.own.below hb, h.b.trans (hb.mono h.b.size)⟩
theorem PSt.alloc {w W : World} {v : Value} {L : List Mb} {r : By} (h : PSt w W v L r) (o : Obj) : PSt w (W.alloc o) v L r := h.below ((Below.refl _ _).alloc (Nat.le_refl _) _)
theorem PSt.drew {w W : World} {v : Value} {L : List Mb} {r : By} (h : PSt w W v L r) : PSt w W.drew v L r := h.below (Below.refl _ _).drew
theorem PSt.set {w W : World} {v : Value} {L : List Mb} {r : By} {g : Nat} (h : PSt w W v L r) (hg : w.heap.size + 3 ≤ g) (hl : ∀ k, v.ownBlock = some k → k ≠ g) (j : Nat) (u : Value) : PSt w (W.setCell ⟨g, j, none⟩ u) v L r :=
  ⟨h.p.setOther ⟨g, j, none⟩ u (by show w.heap.size ≠ g; omega), h.q.setOther ⟨g, j, none⟩ u (by show w.heap.size + 1 ≠ g; omega), Blk.setOther h.r ⟨g, j, none⟩ u (by show w.heap.size + 1 + 1 ≠ g; omega), own_set_ne h.own hl u, h.b.setCell (by show w.heap.size ≤ g; omega) _⟩
theorem PSt.grow {w W W' : World} {v v' : Value} {L L' : List Mb} {r : By} {o : Obj} (h : PSt w W v L r) (hg : (W.alloc o).grownBy W' v.ownBlock) (hown : OwnM W' (w.heap.size + 3) v' L') : PSt w (W'.setCell ⟨w.heap.size, 0, none⟩ v') v' L' r :=
  ⟨((h.p.alloc o).grown hg (own_ne h.own (by omega))).set 0 v', ((h.q.alloc o).grown hg (own_ne h.own (by omega))).setOther ⟨w.heap.size, 0, none⟩ v' (by show w.heap.size + 1 ≠ w.heap.size; omega),
   Blk.setOther (Blk.grown (Blk.alloc h.r o) hg (own_ne h.own (by omega))) ⟨w.heap.size, 0, none⟩ v' (by show w.heap.size + 1 + 1 ≠ w.heap.size; omega), own_other hown (by show w.heap.size < _; omega) v',
   (below_app h.b h.b.size hg (fun k hk => by have := (World.ownsRow.lt h.own k hk).1; omega)).setCell (by show w.heap.size ≤ w.heap.size; omega) v'⟩
/-- and a member's own block, which lies behind all of it -/
structure PG (w W : World) (v : Value) (L : List Mb) (r : By) (g : Nat) (m : Mb) : Prop where
  st : PSt w W v L r
  bm : Blk W g 50 (mc m)
  lo : w.heap.size + 3 ≤ g ∧ ∀ k, v.ownBlock = some k → k < g
theorem PG.start {w W : World} {v : Value} {L : List Mb} {r : By} {m : Mb} (h : PSt w W v L r) : PG w (W.alloc (.cells (mc m).toArray 50)) v L r W.heap.size m :=
  ⟨h.alloc _, Blk.new W _ (mc m), Blk.lt h.r, h.own.front⟩
theorem PG.below {w W W' : World} {v : Value} {L : List Mb} {r : By} {g : Nat} {m : Mb} (h : PG w W v L r g m) (hb : Below W.heap.size W W') : PG w W' v L r g m := ⟨h.st.below hb, h.bm.below hb h.bm.lt, h.lo⟩
theorem PG.set {w W : World} {v : Value} {L : List Mb} {r : By} {g : Nat} {m : Mb} (h : PG w W v L r g m) {b : Nat} (hb : g < b) (j : Nat) (u : Value) : PG w (W.setCell ⟨b, j, none⟩ u) v L r g m :=
  ⟨h.st.set (by have := h.lo.1; omega) (fun k hk => by have := h.lo.2 k hk; omega) j u, h.bm.setOther ⟨b, j, none⟩ u (by show g ≠ b; omega), h.lo⟩
/-- what a region keeps -/
def PK (w W : World) (a : Option Addr) (n c : Nat) (L : List Mb) (r : By) (g : Nat) (m : Mb) : Prop := W.cell? ⟨w.heap.size, 0, none⟩ = some (.slice a n c) ∧ W.cell? ⟨g, 0, none⟩ = some (.string ⟨m.nm.toArray⟩) ∧ PG w W (.slice a n c) L r g m
theorem pk_here {w W : World} {a : Option Addr} {n c : Nat} {L : List Mb} {r : By} {g : Nat} {m : Mb} (h : PG w W (.slice a n c) L r g m) : W.cell? ⟨w.heap.size, 0, none⟩ = some (.slice a n c) ∧ W.cell? ⟨g, 0, none⟩ = some (.string ⟨m.nm.toArray⟩) ∧ PG w W (.slice a n c) L r g m :=
  ⟨h.st.p.cell 0 rfl, h.bm.cell 0 rfl, h⟩
theorem pk_drew {w W : World} {a : Option Addr} {n c : Nat} {L : List Mb} {r : By} {g : Nat} {m : Mb} (h : PG w W (.slice a n c) L r g m) : W.drew.cell? ⟨w.heap.size, 0, none⟩ = some (.slice a n c) ∧ W.drew.cell? ⟨g, 0, none⟩ = some (.string ⟨m.nm.toArray⟩) ∧ PG w W.drew (.slice a n c) L r g m :=
  pk_here (h.below (Below.refl _ _).drew)
theorem pk_alloc {w W : World} {a : Option Addr} {n c : Nat} {L : List Mb} {r : By} {g : Nat} {m : Mb} {o : Obj} (h : PG w W (.slice a n c) L r g m) : (W.alloc o).cell? ⟨w.heap.size, 0, none⟩ = some (.slice a n c) ∧ (W.alloc o).cell? ⟨g, 0, none⟩ = some (.string ⟨m.nm.toArray⟩) ∧ PG w (W.alloc o) (.slice a n c) L r g m :=
  pk_here (h.below ((Below.refl _ _).alloc (Nat.le_refl _) _))
theorem pk_allocD {w W : World} {a : Option Addr} {n c : Nat} {L : List Mb} {r : By} {g : Nat} {m : Mb} {o : Obj} (h : PG w W.drew (.slice a n c) L r g m) : (W.alloc o).drew.cell? ⟨w.heap.size, 0, none⟩ = some (.slice a n c) ∧ (W.alloc o).drew.cell? ⟨g, 0, none⟩ = some (.string ⟨m.nm.toArray⟩) ∧ PG w (W.alloc o).drew (.slice a n c) L r g m :=
  pk_here (W := (W.alloc o).drew) (h.below (W := W.drew) (let k := (Below.refl W.heap.size W).alloc (Nat.le_refl _) o; ⟨k.os, k.tape, k.output, k.size, k.block⟩))
theorem pk_set5 {w W : World} {a : Option Addr} {n c : Nat} {L : List Mb} {r : By} {g b : Nat} {m : Mb} {v0 v1 v2 v3 v4 : Value} (h : PG w W (.slice a n c) L r g m) (hb : g < b) :
    (((((W.setCell ⟨b, 0, none⟩ v0).setCell ⟨b, 1, none⟩ v1).setCell ⟨b, 2, none⟩ v2).setCell ⟨b, 3, none⟩ v3).setCell ⟨b, 4, none⟩ v4).cell? ⟨w.heap.size, 0, none⟩ = some (.slice a n c) ∧
    (((((W.setCell ⟨b, 0, none⟩ v0).setCell ⟨b, 1, none⟩ v1).setCell ⟨b, 2, none⟩ v2).setCell ⟨b, 3, none⟩ v3).setCell ⟨b, 4, none⟩ v4).cell? ⟨g, 0, none⟩ = some (.string ⟨m.nm.toArray⟩) ∧
    PG w (((((W.setCell ⟨b, 0, none⟩ v0).setCell ⟨b, 1, none⟩ v1).setCell ⟨b, 2, none⟩ v2).setCell ⟨b, 3, none⟩ v3).setCell ⟨b, 4, none⟩ v4) (.slice a n c) L r g m :=
  pk_here (((((h.set hb 0 v0).set hb 1 v1).set hb 2 v2).set hb 3 v3).set hb 4 v4)
end Go.Proofs.YtffllacphfapnaaGreatDoor
