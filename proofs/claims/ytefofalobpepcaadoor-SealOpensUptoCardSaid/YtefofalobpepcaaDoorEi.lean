/-
  The listed variables as the program's text lays them; Atoi, Itoa under them.
-/
import Derived.Test.YtefofalobpepcaaDoorEh
import Derived.Lib.AtoiErrMem
namespace Go.Proofs.YtefofalobpepcaaDoor
open Go.RowKit
set_option linter.unusedVariables false
abbrev By := List UInt8
/-- the listed variables, whatever is done from block B on -/
structure LaidB (B : Nat) (w : World) : Prop where
  tab : Lib.TabBelow Tryd.prog B w "internal/strconv.uint64pow10" .u64 Lib.pow10Tab
  syn : ∃ tp p, ∀ W, Below B w W → W.var? Tryd.prog "strconv.ErrSyntax" = some #[.iface tp p]
  rng : ∃ tp p, ∀ W, Below B w W → W.var? Tryd.prog "strconv.ErrRange" = some #[.iface tp p]
theorem LaidB.on {B : Nat} {w w1 : World} (h : LaidB B w) (hb : Below B w w1) : LaidB B w1 := by
  obtain ⟨a, p, h1⟩ := h.syn
  obtain ⟨c, q, h2⟩ := h.rng
  exact ⟨h.tab.on hb, ⟨a, p, fun W hW => h1 W (hb.trans hW)⟩, ⟨c, q, fun W hW => h2 W (hb.trans hW)⟩⟩
theorem var_below {P : Program} {w W : World} {name : String} {cs : Array Value} (h : w.var? P name = some cs) (hb : Below w.heap.size w W) : W.var? P name = some cs := by
  unfold World.var? at h ⊢
  cases hg : P.globalNamed name with
  | none => rw [hg] at h; cases h
  | some g =>
    rw [hg, Option.bind_some] at h
    rw [Option.bind_some]
    cases hx : w.heap[g]? with
    | none => rw [hx] at h; cases h
    | some o =>
      rw [hx] at h
      rw [hb.block g (Array.getElem?_eq_some_iff.1 hx).1, hx]
      exact h
theorem LaidB.start {w : World} (h : Lib.TabIs Tryd.prog w "internal/strconv.uint64pow10" .u64 Lib.pow10Tab) (h1 : ∃ tp p, w.var? Tryd.prog "strconv.ErrSyntax" = some #[.iface tp p]) (h2 : ∃ tp p, w.var? Tryd.prog "strconv.ErrRange" = some #[.iface tp p]) : LaidB w.heap.size w := by
  obtain ⟨a, p, h1⟩ := h1
  obtain ⟨c, q, h2⟩ := h2
  exact ⟨Lib.tabBelow_of_tabIs h, ⟨a, p, fun W hW => var_below h1 hW⟩, ⟨c, q, fun W hW => var_below h2 hW⟩⟩
theorem LaidB.mono {B B' : Nat} {w : World} (h : LaidB B w) (hB : B ≤ B') : LaidB B' w := by
  obtain ⟨a, p, h1⟩ := h.syn
  obtain ⟨c, q, h2⟩ := h.rng
  exact ⟨fun W hW => h.tab W (hW.mono hB), ⟨a, p, fun W hW => h1 W (hW.mono hB)⟩, ⟨c, q, fun W hW => h2 W (hW.mono hB)⟩⟩

theorem g_below {w a : World} {b : Nat} (h : Below w.heap.size w a) : w.grownBy a (some b) := ⟨h.os, h.tape, h.output, h.size, fun k hk _ => h.block k hk⟩
theorem g_new {w a : World} {b : Nat} (h : w.grownBy a (some b)) {p : Addr} (hp : w.heap.size ≤ p.block) (v : Value) : w.grownBy (a.setCell p v) (some b) := by
  refine ⟨h.os, h.tape, h.output, by simpa [World.setCell] using h.size, fun k hk hne => ?_⟩
  rw [Below.heap_setCell _ _ _ _ (fun e => by omega)]
  exact h.block k hk hne
/-- what the row b's owner may do leaves all below b as it was -/
theorem g_from {B b : Nat} {w a : World} (h : w.grownBy a (some b)) (hB : B ≤ b) (hs : B ≤ w.heap.size) : Below B w a := ⟨h.os, h.tape, h.output, h.size, fun k hk => h.block k (by omega) (fun e => by cases e; omega)⟩
theorem atoi_ok (d : By) (v : Int) (w : World) (hl : d.length ≤ 140737488355328) (h : Lib.atoiAll d = .ok v) :
    Calls Tryd.prog 28 #[.string ⟨d.toArray⟩] w fun e w' => e = .returned (.tuple #[.int .i64 v, .nilIface]) ∧ Below w.heap.size w w' :=
  (Tryd.strconv_Atoi_ok ⟨d.toArray⟩ (by rw [st_size]; omega) v h w).mono fun e w' ⟨h1, h2⟩ => ⟨h1, by
    rcases h2 with rfl | ⟨t, rfl⟩
    · exact Below.refl _ _
    · exact Lib.bytesWorld_below _ _ _⟩
theorem atoi_bad (d : By) (B : Nat) (w : World) (hl : d.length ≤ 140737488355328) (hL : LaidB B w) (h : ∀ v, Lib.atoiAll d ≠ .ok v) :
    Calls Tryd.prog 28 #[.string ⟨d.toArray⟩] w fun e w' => (∃ x tp p, e = .returned (.tuple #[.int .i64 x, .iface tp p])) ∧ Below w.heap.size w w' := by
  rcases hd : Lib.atoiAll d with v | _ | _
  · exact absurd hd (h v)
  · obtain ⟨tp, p, hv⟩ := hL.syn
    exact (Tryd.strconv_Atoi_syntax_var ⟨d.toArray⟩ (by rw [st_size]; omega) hd tp p w (hv w (Below.refl _ _))).mono fun e w' ⟨N, h1, _, _, h2⟩ => ⟨⟨_, _, _, h1⟩, h2⟩
  · obtain ⟨tp, p, hv⟩ := hL.rng
    exact (Tryd.strconv_Atoi_range_var ⟨d.toArray⟩ (by rw [st_size]; omega) hd tp p w (hv w (Below.refl _ _))).mono fun e w' ⟨N, h1, _, _, h2⟩ => ⟨⟨_, _, _, h1⟩, h2⟩
theorem itoa_any (v : Int) (h0 : -9223372036854775808 ≤ v) (h1 : v ≤ 9223372036854775807) (B : Nat) (w : World) (hL : LaidB B w) :
    Calls Tryd.prog 30 #[.int .i64 v] w fun e w' => e = .returned (.string ⟨(Lib.itoa v).toArray⟩) ∧ Below w.heap.size w w' :=
  (Tryd.strconv_Itoa v h0 h1 w (hL.tab w (Below.refl _ _))).mono fun e w' ⟨h1, k, os, h2⟩ => ⟨h1, by rw [h2]; exact Lib.below_grow _ _ (Nat.le_refl _) _ _⟩
end Go.Proofs.YtefofalobpepcaaDoor
