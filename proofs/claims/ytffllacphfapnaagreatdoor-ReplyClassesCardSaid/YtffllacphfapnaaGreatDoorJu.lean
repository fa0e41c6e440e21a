/-
  Chapter 5: the reader's member. Conditions: the text is of at most 100000 bytes; the three listed variables lie as the program's text lays them.
-/
import Derived.Test.YtffllacphfapnaaGreatDoorJt
import Derived.Test.YtffllacphfapnaaGreatDoorJn
import Derived.Lib.AppendIntMem
import Derived.Lib.AtoiErrMem
import Derived.Deep.RegionHeld3
namespace Go.Proofs.YtffllacphfapnaaGreatDoor
open Go.RowKit Js

/-- the listed variables, whatever is done from block B on -/
structure LaidB (B : Nat) (w : World) : Prop where
  tab : Lib.TabBelow Tryz.prog B w "internal/strconv.uint64pow10" .u64 Lib.pow10Tab
  syn : ∃ tp p, ∀ W, Below B w W → W.var? Tryz.prog "strconv.ErrSyntax" = some #[.iface tp p]
  rng : ∃ tp p, ∀ W, Below B w W → W.var? Tryz.prog "strconv.ErrRange" = some #[.iface tp p]
theorem LaidB.on {B : Nat} {w w1 : World} (h : LaidB B w) (hb : Below B w w1) : LaidB B w1 := by
  obtain ⟨a, p, h1⟩ := h.syn
  obtain ⟨c, q, h2⟩ := h.rng
  exact ⟨h.tab.on hb, ⟨a, p, fun W hW => h1 W (hb.trans hW)⟩, ⟨c, q, fun W hW => h2 W (hb.trans hW)⟩⟩
theorem var_below {P : Program} {w W : World} {name : String} {cs : Array Value} (h : w.var? P name = some cs) (hb : Below w.heap.size w W) : W.var? P name = some cs := by
  unfold World.var? at h ⊢
  cases hg : P.globalNamed name with
  | none => rw [hg] at h; cases h
  | some g =>
    rw [hg, Option.bind_some] at h
    rw [Option.bind_some]
    cases hx : w.heap[g]? with
    | none => rw [hx] at h; cases h
    | some o =>
      rw [hx] at h
      rw [hb.block g (Array.getElem?_eq_some_iff.1 hx).1, hx]
      exact h
theorem LaidB.start {w : World} (h : Lib.TabIs Tryz.prog w "internal/strconv.uint64pow10" .u64 Lib.pow10Tab) (h1 : ∃ tp p, w.var? Tryz.prog "strconv.ErrSyntax" = some #[.iface tp p]) (h2 : ∃ tp p, w.var? Tryz.prog "strconv.ErrRange" = some #[.iface tp p]) : LaidB w.heap.size w := by
  obtain ⟨a, p, h1⟩ := h1
  obtain ⟨c, q, h2⟩ := h2
  exact ⟨Lib.tabBelow_of_tabIs h, ⟨a, p, fun W hW => var_below h1 hW⟩, ⟨c, q, fun W hW => var_below h2 hW⟩⟩
theorem LaidB.mono {B B' : Nat} {w : World} (h : LaidB B w) (hB : B ≤ B') : LaidB B' w := by
  obtain ⟨a, p, h1⟩ := h.syn
  obtain ⟨c, q, h2⟩ := h.rng
  exact ⟨fun W hW => h.tab W (hW.mono hB), ⟨a, p, fun W hW => h1 W (hW.mono hB)⟩, ⟨c, q, fun W hW => h2 W (hW.mono hB)⟩⟩

theorem g_below {w a : World} {b : Nat} (h : Below w.heap.size w a) : w.grownBy a (some b) := ⟨h.os, h.tape, h.output, h.size, fun k hk _ => h.block k hk⟩
theorem g_new {w a : World} {b : Nat} (h : w.grownBy a (some b)) {p : Addr} (hp : w.heap.size ≤ p.block) (v : Value) : w.grownBy (a.setCell p v) (some b) := by
  refine ⟨h.os, h.tape, h.output, by simpa [World.setCell] using h.size, fun k hk hne => ?_⟩
  rw [Below.heap_setCell _ _ _ _ (fun e => by omega)]
  exact h.block k hk hne
theorem g_setM {w W : World} {b c : Nat} {x : Mb} (h : w.grownBy W (some b)) (hc : w.heap.size ≤ c) : w.grownBy (((((W.setCell ⟨c, 0, none⟩ (.string ⟨x.nm.toArray⟩)).setCell ⟨c, 1, none⟩ (.int .i64 x.kd)).setCell ⟨c, 2, none⟩ (.string ⟨x.tx.toArray⟩)).setCell ⟨c, 3, none⟩ (.int .i64 x.n)).setCell ⟨c, 4, none⟩ (.bool x.b)) (some b) :=
  g_new (g_new (g_new (g_new (g_new h (p := ⟨c, 0, none⟩) hc _) (p := ⟨c, 1, none⟩) hc _) (p := ⟨c, 2, none⟩) hc _) (p := ⟨c, 3, none⟩) hc _) (p := ⟨c, 4, none⟩) hc _
/-- what the row b's owner may do leaves all below b as it was -/
theorem g_from {B b : Nat} {w a : World} (h : w.grownBy a (some b)) (hB : B ≤ b) (hs : B ≤ w.heap.size) : Below B w a := ⟨h.os, h.tape, h.output, h.size, fun k hk => h.block k (by omega) (fun e => by cases e; omega)⟩
theorem rb_setM {W : World} {b c : Nat} {s : By} {x : Mb} (h : RB b W s) (hne : b ≠ c) : RB b (((((W.setCell ⟨c, 0, none⟩ (.string ⟨x.nm.toArray⟩)).setCell ⟨c, 1, none⟩ (.int .i64 x.kd)).setCell ⟨c, 2, none⟩ (.string ⟨x.tx.toArray⟩)).setCell ⟨c, 3, none⟩ (.int .i64 x.n)).setCell ⟨c, 4, none⟩ (.bool x.b)) s :=
  ((((h.setOther ⟨c, 0, none⟩ _ hne).setOther ⟨c, 1, none⟩ _ hne).setOther ⟨c, 2, none⟩ _ hne).setOther ⟨c, 3, none⟩ _ hne).setOther ⟨c, 4, none⟩ _ hne

theorem str_ok (b : Nat) (s t r : By) (w : World) (h : RB b w s) (hl : s.length ≤ 100000) (hq : strQ s = some (t, r)) :
    Calls Tryz.prog 51 #[.pointer (some ⟨b, 0, none⟩)] w fun e w' => e = .returned (.string ⟨t.toArray⟩) ∧ RB b w' r ∧ w.grownBy w' (some b) :=
  (string_any b s w h hl).mono fun e w' h => by
    unfold StR at h; rw [hq] at h
    exact ⟨h.2.1, h.2.2, h.1⟩
theorem str_bad (b : Nat) (s : By) (w : World) (h : RB b w s) (hl : s.length ≤ 100000) (hq : strQ s = none) :
    Calls Tryz.prog 51 #[.pointer (some ⟨b, 0, none⟩)] w fun e w' => e = .panicked wrongP ∧ w.grownBy w' (some b) :=
  (string_any b s w h hl).mono fun e w' h => by
    unfold StR at h; rw [hq] at h
    exact ⟨h.2, h.1⟩
theorem atoi_ok (d : By) (v : Int) (w : World) (hl : d.length ≤ 100000) (h : Lib.atoiAll d = .ok v) :
    Calls Tryz.prog 52 #[.string ⟨d.toArray⟩] w fun e w' => e = .returned (.tuple #[.int .i64 v, .nilIface]) ∧ Below w.heap.size w w' :=
  (Tryz.strconv_Atoi_ok ⟨d.toArray⟩ (by rw [st_size]; omega) v h w).mono fun e w' ⟨h1, h2⟩ => ⟨h1, by
    rcases h2 with rfl | ⟨t, rfl⟩
    · exact Below.refl _ _
    · exact Lib.bytesWorld_below _ _ _⟩
theorem atoi_bad (d : By) (B : Nat) (w : World) (hl : d.length ≤ 100000) (hL : LaidB B w) (h : ∀ v, Lib.atoiAll d ≠ .ok v) :
    Calls Tryz.prog 52 #[.string ⟨d.toArray⟩] w fun e w' => (∃ x tp p, e = .returned (.tuple #[.int .i64 x, .iface tp p])) ∧ Below w.heap.size w w' := by
  rcases hd : Lib.atoiAll d with v | _ | _
  · exact absurd hd (h v)
  · obtain ⟨tp, p, hv⟩ := hL.syn
    exact (Tryz.strconv_Atoi_syntax_var ⟨d.toArray⟩ (by rw [st_size]; omega) hd tp p w (hv w (Below.refl _ _))).mono fun e w' ⟨N, h1, _, _, h2⟩ => ⟨⟨_, _, _, h1⟩, h2⟩
  · obtain ⟨tp, p, hv⟩ := hL.rng
    exact (Tryz.strconv_Atoi_range_var ⟨d.toArray⟩ (by rw [st_size]; omega) hd tp p w (hv w (Below.refl _ _))).mono fun e w' ⟨N, h1, _, _, h2⟩ => ⟨⟨_, _, _, h1⟩, h2⟩
theorem itoa_any (v : Int) (h0 : -9223372036854775808 ≤ v) (h1 : v ≤ 9223372036854775807) (B : Nat) (w : World) (hL : LaidB B w) :
    Calls Tryz.prog 53 #[.int .i64 v] w fun e w' => e = .returned (.string ⟨(Lib.itoa v).toArray⟩) ∧ Below w.heap.size w w' :=
  (Tryz.strconv_Itoa v h0 h1 w (hL.tab w (Below.refl _ _))).mono fun e w' ⟨h1, k, os, h2⟩ => ⟨h1, by rw [h2]; exact Lib.below_grow _ _ (Nat.le_refl _) _ _⟩
theorem hp1 (s : By) (c : UInt8) : Lib.hasPrefix s [c] = (s.head? == some c) := by
  unfold Lib.hasPrefix
  cases s with
  | nil => simp
  | cons d s =>
    rw [Bool.eq_iff_iff, beq_iff_eq]
    simp only [List.isPrefixOf, Bool.and_true, beq_iff_eq, List.head?, Option.some.injEq]
    exact ⟨Eq.symm, Eq.symm⟩
theorem has_any (s : By) (c : UInt8) (t : Bool) (w : World) (ht : (s.head? == some c) = t) : Calls Tryz.prog 31 #[.string ⟨s.toArray⟩, .string ⟨[c].toArray⟩] w fun e w' => e = .returned (.bool t) ∧ w' = w :=
  (Tryz.strings_HasPrefix ⟨s.toArray⟩ ⟨[c].toArray⟩ w).mono fun e w' ⟨h1, h2⟩ => ⟨by rw [h1]; show Ending.returned (.bool (Lib.hasPrefix s [c])) = _; rw [hp1, ht], h2⟩
/-- what member does -/
def MbR (s : By) (b : Nat) (w : World) (e : Ending) (w' : World) : Prop := w.grownBy w' (some b) ∧ match mem s with
  | some (m, r) => e = .returned (mv m) ∧ RB b w' r
  | none => e = .panicked wrongP
theorem MbR.bad {s : By} {b : Nat} {w w' : World} (h : mem s = none) (hg : w.grownBy w' (some b)) : MbR s b w (.panicked wrongP) w' := by
  unfold MbR; rw [h]; exact ⟨hg, rfl⟩
theorem MbR.ok {s : By} {b : Nat} {w w' : World} {m : Mb} {r : By} (h : mem s = some (m, r)) (hg : w.grownBy w' (some b)) (hb : RB b w' r) : MbR s b w (.returned (mv m)) w' := by
  unfold MbR; rw [h]; exact ⟨hg, rfl, hb⟩
theorem tw_take (p : UInt8 → Bool) (s : By) (k : Nat) (hk : k ≤ s.length) (h1 : ∀ j (h : j < s.length), j < k → p s[j] = true) (h2 : ∀ c, (s.drop k).head? = some c → p c = false) : s.takeWhile p = s.take k ∧ s.dropWhile p = s.drop k := by
  have := tw_app p (s.take k) (s.drop k) (fun c hc => by
    obtain ⟨j, hj, rfl⟩ := List.getElem_of_mem hc
    rw [List.length_take] at hj
    rw [List.getElem_take]
    exact h1 j (by omega) (by omega)) h2
  rwa [List.take_append_drop] at this
theorem num_bad {s d : By} (h1 : s.takeWhile isN = d) (h : ∀ v, Lib.atoiAll d ≠ .ok v) : num s = none := by
  unfold num
  rw [h1]
  rcases ha : Lib.atoiAll d with v | _ | _
  · exact absurd ha (h v)
  · rfl
  · rfl
theorem num_ok {s d r : By} {v : Int} (h1 : s.takeWhile isN = d) (h2 : s.dropWhile isN = r) (h : Lib.atoiAll d = .ok v) : num s = if Lib.itoa v = d then some (v, r) else none := by
  unfold num
  rw [h1, h2, h]
theorem keep_nb {W w : World} {b c : Nat} {s2 : By} (h1 : RB b W s2) (h2 : Blk W c 50 (mc zm)) (h3 : w.grownBy W (some b)) :
    W.cell? ⟨b, 0, none⟩ = some (.string ⟨s2.toArray⟩) ∧ RB b W s2 ∧ Blk W c 50 (mc zm) ∧ w.grownBy W (some b) := ⟨h1.cell 0 rfl, h1, h2, h3⟩
theorem g_drewN {w a : World} {b : Nat} (h : w.grownBy a (some b)) (n : Nat) : w.grownBy (a.drewN n) (some b) := ⟨h.os, h.tape, h.output, h.size, h.block⟩
end Go.Proofs.YtffllacphfapnaaGreatDoor
