/-
  Chapter 22: the reference's Same, of what is the same.
  (Texts put together: Kk.)
-/
import Derived.Test.YtdmjegelcdghlaaGreatGDq
namespace Go.Proofs.YtdmjegelcdghlaaGreat.Vw
open Go.RowKit Go.Maps
set_option linter.unusedVariables false
set_option linter.unusedSimpArgs false
set_option maxRecDepth 100000

set_option maxHeartbeats 4000000 in
theorem tx_same (va vb : Value) (l : List (List UInt8)) (w : World) (ha : RdS w va l) (hb : RdS w vb l) (hl : l.length ≤ 4611686018427387904) :
    Calls Tryz.prog 91 #[va, vb] w fun e w' => e = .returned (.bool true) ∧ Below w.heap.size w w' := by
  obtain ⟨a1, c1, rfl⟩ := ha.1.slice
  obtain ⟨a2, c2, rfl⟩ := hb.1.slice
  have HA := Lib.hid ha
  have HB := Lib.hid hb
  clear ha hb
  go_enter Tryz.func91, Tryz.ntmps91
  go_wp2_with fail
  go_loopw [5] (fun i wr => ∃ k : Nat, k ≤ l.length ∧ i = .int .i64 k ∧ Below w.heap.size w wr) (fun i _ => l.length - (intOf i).toNat)
  case atStart => exact ⟨0, by omega, rfl, Below.refl _ _⟩
  case round =>
    obtain ⟨k, hk, rfl, hb⟩ := hrel
    by_cases hkn : k < l.length
    case neg =>
      go_wp2_with fail
      go_ret
      exact ⟨rfl, hb⟩
    case pos =>
    obtain ⟨b1, o1, cap1, e1, hcap1, hc1⟩ := (HA.out.1.below hb).pos (by omega)
    obtain ⟨b2, o2, cap2, e2, hcap2, hc2⟩ := (HB.out.1.below hb).pos (by omega)
    cases e1
    cases e2
    obtain ⟨x, hx⟩ : ∃ x, l[k]? = some x := ⟨_, List.getElem?_eq_getElem hkn⟩
    have q1 : wr.cell? ⟨b1, o1 + k, none⟩ = some (.string ⟨x.toArray⟩) := hc1 k (sv x) (by rw [List.getElem?_map, hx]; rfl)
    have q2 : wr.cell? ⟨b2, o2 + k, none⟩ = some (.string ⟨x.toArray⟩) := hc2 k (sv x) (by rw [List.getElem?_map, hx]; rfl)
    have g1 : (k : Int) < (l.length : Int) := by omega
    clear hc1 hc2 hx
    go_wp2_with fail
    go_quiet (fail)
    go_wp2_with fail
    go_roundw
    case rel => exact ⟨k + 1, by omega, by go_num, below_drewN hb _⟩
    case measure => simp [intOf]; omega
def cmV (c : Gr.Cm) (u : Value) : Value := .agg #[.int .i64 c.kd, .string ⟨c.fam.toArray⟩, .int .i64 c.ser, .int .i64 c.tok, .string ⟨c.cli.toArray⟩, .string ⟨c.usr.toArray⟩, u, .string ⟨c.red.toArray⟩, .string ⟨c.cha.toArray⟩, .string ⟨c.met.toArray⟩, .string ⟨c.ver.toArray⟩, .bool c.rf, .int .i64 c.edg]
set_option maxHeartbeats 8000000 in
theorem cm_same (c : Gr.Cm) (u v : Value) (w : World) (hu : RdS w u c.sco) (hv : RdS w v c.sco) (hl : c.sco.length ≤ 2000000) :
    Calls Tryz.prog 61 #[cmV c u, cmV c v] w fun e w' => e = .returned (.bool true) ∧ Below w.heap.size w w' := by
  obtain ⟨a1, c1, rfl⟩ := hu.1.slice
  obtain ⟨a2, c2, rfl⟩ := hv.1.slice
  have HT := Lib.hid (fun W (hb : Below w.heap.size w W) => tx_same (.slice a1 c.sco.length c1) (.slice a2 c.sco.length c2) c.sco W (rdS_low hu fun h0 g hg hlt => hb.block g hlt) (rdS_low hv fun h0 g hg hlt => hb.block g hlt) (by omega))
  clear hu hv hl
  unfold cmV
  go_enter Tryz.func61, Tryz.ntmps61
  go_wp2_with fail
  have hs1 : (w.alloc (.cells #[.int .i64 c.kd, .string ⟨c.fam.toArray⟩, .int .i64 c.ser, .int .i64 c.tok, .string ⟨c.cli.toArray⟩, .string ⟨c.usr.toArray⟩, .slice a1 c.sco.length c1, .string ⟨c.red.toArray⟩, .string ⟨c.cha.toArray⟩, .string ⟨c.met.toArray⟩, .string ⟨c.ver.toArray⟩, .bool c.rf, .int .i64 c.edg] 24)).heap.size = w.heap.size + 1 := World.size_alloc _ _
  have hba : Blk ((w.alloc (.cells #[.int .i64 c.kd, .string ⟨c.fam.toArray⟩, .int .i64 c.ser, .int .i64 c.tok, .string ⟨c.cli.toArray⟩, .string ⟨c.usr.toArray⟩, .slice a1 c.sco.length c1, .string ⟨c.red.toArray⟩, .string ⟨c.cha.toArray⟩, .string ⟨c.met.toArray⟩, .string ⟨c.ver.toArray⟩, .bool c.rf, .int .i64 c.edg] 24)).alloc (.cells #[.int .i64 c.kd, .string ⟨c.fam.toArray⟩, .int .i64 c.ser, .int .i64 c.tok, .string ⟨c.cli.toArray⟩, .string ⟨c.usr.toArray⟩, .slice a2 c.sco.length c2, .string ⟨c.red.toArray⟩, .string ⟨c.cha.toArray⟩, .string ⟨c.met.toArray⟩, .string ⟨c.ver.toArray⟩, .bool c.rf, .int .i64 c.edg] 24)) w.heap.size 24 [.int .i64 c.kd, .string ⟨c.fam.toArray⟩, .int .i64 c.ser, .int .i64 c.tok, .string ⟨c.cli.toArray⟩, .string ⟨c.usr.toArray⟩, .slice a1 c.sco.length c1, .string ⟨c.red.toArray⟩, .string ⟨c.cha.toArray⟩, .string ⟨c.met.toArray⟩, .string ⟨c.ver.toArray⟩, .bool c.rf, .int .i64 c.edg] := (Blk.new w 24 _).alloc _
  have hbb : Blk ((w.alloc (.cells #[.int .i64 c.kd, .string ⟨c.fam.toArray⟩, .int .i64 c.ser, .int .i64 c.tok, .string ⟨c.cli.toArray⟩, .string ⟨c.usr.toArray⟩, .slice a1 c.sco.length c1, .string ⟨c.red.toArray⟩, .string ⟨c.cha.toArray⟩, .string ⟨c.met.toArray⟩, .string ⟨c.ver.toArray⟩, .bool c.rf, .int .i64 c.edg] 24)).alloc (.cells #[.int .i64 c.kd, .string ⟨c.fam.toArray⟩, .int .i64 c.ser, .int .i64 c.tok, .string ⟨c.cli.toArray⟩, .string ⟨c.usr.toArray⟩, .slice a2 c.sco.length c2, .string ⟨c.red.toArray⟩, .string ⟨c.cha.toArray⟩, .string ⟨c.met.toArray⟩, .string ⟨c.ver.toArray⟩, .bool c.rf, .int .i64 c.edg] 24)) (w.heap.size + 1) 24 [.int .i64 c.kd, .string ⟨c.fam.toArray⟩, .int .i64 c.ser, .int .i64 c.tok, .string ⟨c.cli.toArray⟩, .string ⟨c.usr.toArray⟩, .slice a2 c.sco.length c2, .string ⟨c.red.toArray⟩, .string ⟨c.cha.toArray⟩, .string ⟨c.met.toArray⟩, .string ⟨c.ver.toArray⟩, .bool c.rf, .int .i64 c.edg] := by
    rw [← hs1]; exact Blk.new (w.alloc (.cells #[.int .i64 c.kd, .string ⟨c.fam.toArray⟩, .int .i64 c.ser, .int .i64 c.tok, .string ⟨c.cli.toArray⟩, .string ⟨c.usr.toArray⟩, .slice a1 c.sco.length c1, .string ⟨c.red.toArray⟩, .string ⟨c.cha.toArray⟩, .string ⟨c.met.toArray⟩, .string ⟨c.ver.toArray⟩, .bool c.rf, .int .i64 c.edg] 24)) 24 _
  have hb0 : Below w.heap.size w ((w.alloc (.cells #[.int .i64 c.kd, .string ⟨c.fam.toArray⟩, .int .i64 c.ser, .int .i64 c.tok, .string ⟨c.cli.toArray⟩, .string ⟨c.usr.toArray⟩, .slice a1 c.sco.length c1, .string ⟨c.red.toArray⟩, .string ⟨c.cha.toArray⟩, .string ⟨c.met.toArray⟩, .string ⟨c.ver.toArray⟩, .bool c.rf, .int .i64 c.edg] 24)).alloc (.cells #[.int .i64 c.kd, .string ⟨c.fam.toArray⟩, .int .i64 c.ser, .int .i64 c.tok, .string ⟨c.cli.toArray⟩, .string ⟨c.usr.toArray⟩, .slice a2 c.sco.length c2, .string ⟨c.red.toArray⟩, .string ⟨c.cha.toArray⟩, .string ⟨c.met.toArray⟩, .string ⟨c.ver.toArray⟩, .bool c.rf, .int .i64 c.edg] 24)) := ((Below.refl _ _).alloc (Nat.le_refl _) _).alloc (by rw [hs1]; exact Nat.le_succ _) _
  have HQ := Lib.hid (And.intro hba (And.intro hbb hb0))
  clear hba hbb hb0 hs1
  obtain ⟨q1, hq1⟩ : ∃ q1, q1 = w.heap.size + 1 := ⟨_, rfl⟩
  rw [← hq1] at HQ
  try rw [← hq1]
  clear hq1
  generalize (w.alloc (.cells #[.int .i64 c.kd, .string ⟨c.fam.toArray⟩, .int .i64 c.ser, .int .i64 c.tok, .string ⟨c.cli.toArray⟩, .string ⟨c.usr.toArray⟩, .slice a1 c.sco.length c1, .string ⟨c.red.toArray⟩, .string ⟨c.cha.toArray⟩, .string ⟨c.met.toArray⟩, .string ⟨c.ver.toArray⟩, .bool c.rf, .int .i64 c.edg] 24)).alloc (.cells #[.int .i64 c.kd, .string ⟨c.fam.toArray⟩, .int .i64 c.ser, .int .i64 c.tok, .string ⟨c.cli.toArray⟩, .string ⟨c.usr.toArray⟩, .slice a2 c.sco.length c2, .string ⟨c.red.toArray⟩, .string ⟨c.cha.toArray⟩, .string ⟨c.met.toArray⟩, .string ⟨c.ver.toArray⟩, .bool c.rf, .int .i64 c.edg] 24) = wq at *
  refine (HT.out wq HQ.out.2.2).mono ?_
  rintro e w3 ⟨rfl, hb3⟩
  have HB3 := Lib.hid (HQ.out.2.2.trans (hb3.mono HQ.out.2.2.size))
  have hA := HQ.out.1.below hb3 HQ.out.1.lt
  have hB := HQ.out.2.1.below hb3 HQ.out.2.1.lt
  have u7 := hA.cell 7 rfl
  have v7 := hB.cell 7 rfl
  have u8 := hA.cell 8 rfl
  have v8 := hB.cell 8 rfl
  have u9 := hA.cell 9 rfl
  have v9 := hB.cell 9 rfl
  have u10 := hA.cell 10 rfl
  have v10 := hB.cell 10 rfl
  have u11 := hA.cell 11 rfl
  have v11 := hB.cell 11 rfl
  have u12 := hA.cell 12 rfl
  have v12 := hB.cell 12 rfl
  clear hA hB hb3
  go_wp2_with fail
  go_ret
  exact ⟨rfl, HB3.out⟩
set_option maxHeartbeats 8000000 in
theorem op_same (o : Op) (u v : Value) (w : World) (hu : RdS w u o.c.sco) (hv : RdS w v o.c.sco) (hl : o.c.sco.length ≤ 2000000) :
    Calls Tryz.prog 29 #[opV o u, opV o v] w fun e w' => e = .returned (.bool true) ∧ Below w.heap.size w w' := by
  obtain ⟨a1, c1, rfl⟩ := hu.1.slice
  obtain ⟨a2, c2, rfl⟩ := hv.1.slice
  have HT := Lib.hid (fun W (hb : Below w.heap.size w W) => cm_same o.c (.slice a1 o.c.sco.length c1) (.slice a2 o.c.sco.length c2) W (rdS_low hu fun h0 g hg hlt => hb.block g hlt) (rdS_low hv fun h0 g hg hlt => hb.block g hlt) hl)
  clear hu hv hl
  unfold cmV at HT
  unfold opV
  go_enter Tryz.func29, Tryz.ntmps29
  go_wp2_with fail
  refine (HT.out _ (((Below.refl _ _).alloc (Nat.le_refl _) _).alloc (by rw [World.size_alloc]; exact Nat.le_succ _) _)).mono ?_
  rintro e w3 ⟨rfl, hb3⟩
  have HB3 : Hid (Below w.heap.size w w3) := Lib.hid ((((Below.refl w.heap.size w).alloc (Nat.le_refl _) _).alloc (by rw [World.size_alloc]; exact Nat.le_succ _) _).trans (hb3.mono (by rw [World.size_alloc, World.size_alloc]; omega)))
  clear hb3
  go_wp2_with fail
  go_ret
  exact ⟨rfl, HB3.out⟩
end Go.Proofs.YtdmjegelcdghlaaGreat.Vw
