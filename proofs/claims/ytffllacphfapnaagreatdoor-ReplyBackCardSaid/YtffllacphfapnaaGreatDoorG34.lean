/-
  Chapter 20: what reply.Of's closure answers: a token's text, or that something is bad.
-/
import Derived.Test.YtffllacphfapnaaGreatDoorG23
import Derived.Test.YtffllacphfapnaaGreatDoorG27
import Derived.Test.YtffllacphfapnaaGreatDoorG33
namespace Go.Proofs.YtffllacphfapnaaGreatDoor.Bk
open Go.RowKit Js Rp
set_option linter.unusedVariables false
set_option linter.unusedSimpArgs false
set_option maxRecDepth 100000

/-- from W on, block q's first cell may have been written -/
def Qs (q : Nat) (W w' : World) : Prop := ∃ w2, Below W.heap.size W w2 ∧ (w' = w2 ∨ ∃ v, w' = w2.setCell ⟨q, 0, none⟩ v)
theorem Qs.of {q : Nat} {W w' : World} (h : Below W.heap.size W w') : Qs q W w' := ⟨w', h, .inl rfl⟩
theorem Qs.size {q : Nat} {W w' : World} (h : Qs q W w') : W.heap.size ≤ w'.heap.size := by
  obtain ⟨w2, hb, rfl | ⟨v, rfl⟩⟩ := h
  · exact hb.size
  · simpa [World.setCell] using hb.size
theorem Qs.below {q B : Nat} {w W w' : World} (h : Qs q W w') (hb : Below B w W) (hB : B ≤ W.heap.size) (hq : B ≤ q) : Below B w w' := by
  obtain ⟨w2, hb2, rfl | ⟨v, rfl⟩⟩ := h
  · exact hb.trans (hb2.mono hB)
  · exact (hb.trans (hb2.mono hB)).setCell hq v
theorem Qs.blk {q b : Nat} {W w' : World} {t : TypeId} {cs : List Value} (h : Qs q W w') (hb : Blk W b t cs) (hne : b ≠ q) : Blk w' b t cs := by
  obtain ⟨w2, hb2, rfl | ⟨v, rfl⟩⟩ := h
  · exact hb.below hb2 hb.lt
  · exact (hb.below hb2 hb.lt).setOther _ _ hne
theorem Qs.own {q B : Nat} {W w' : World} {e : TypeId} {sz : Nat} {v : Value} {n : Nat} {xs : List Value} (h : Qs q W w') (ho : W.ownsRow B e sz v n xs) (hq : q < B) : w'.ownsRow B e sz v n xs := by
  obtain ⟨w2, hb2, rfl | ⟨u, rfl⟩⟩ := h
  · exact own_below ho hb2
  · exact own_other (own_below ho hb2) hq u
def errT (t : Se.Tk) (bd : Int) : Int := if Se.Right t then bd else 1
set_option maxHeartbeats 4000000 in
theorem tok_any (k ser : Int) (sv : Value) (sec fam : By) (s c q : Nat) (cc : List Value) (bd : Int) (W : World) (hs : Blk W s 36 [sv]) (hc : Blk W c 39 cc) (hcf : cc[1]? = some (.string ⟨fam.toArray⟩)) (hq : Blk W q 43 [.int .i64 bd])
    (hsv : Rd W 1 sv sec.length (Lib.byteCells sec)) (hl : sec.length ≤ 288230376151711744) (hf : fam.length ≤ 140737488355000) (hL : Hid (LaidB W.heap.size W)) :
    Calls Tryz.prog 25 #[.int .i64 k, .int .i64 ser, .pointer (some ⟨s, 0, none⟩), .pointer (some ⟨c, 0, none⟩), .pointer (some ⟨q, 0, none⟩)] W fun e w' => e = .returned (.string ⟨(tok sec k fam ser).toArray⟩) ∧ Qs q W w' ∧ Blk w' q 43 [.int .i64 (errT ⟨k, fam, ser⟩ bd)] := by
  have s0 := hs.cell 0 rfl
  have c1 := hc.cell 1 hcf
  have HQ := Lib.hid hq
  obtain ⟨sa, sc, e1⟩ := hsv.slice
  subst e1
  have HM := Lib.hid (Se.make_any (.slice sa sec.length sc) sec ⟨k, fam, ser⟩ W hsv hl (by show fam.length ≤ _; omega) (fun W' hb => (hL.out.on hb).tab.here))
  unfold Se.tkv at HM
  clear hs hc hcf hq hsv
  by_cases hR : Se.Right ⟨k, fam, ser⟩
  case pos =>
    have HT : Hid (Se.mkV sec ⟨k, fam, ser⟩ = .tuple #[.string ⟨(tok sec k fam ser).toArray⟩, .int .i64 0]) := Lib.hid (by unfold Se.mkV tok Se.mk; rw [if_pos hR])
    have HE : Hid (errT ⟨k, fam, ser⟩ bd = bd) := Lib.hid (if_pos hR)
    clear hR
    go_enter Tryz.func25, Tryz.ntmps25
    go_wp2_with fail
    refine HM.out.mono ?_
    rintro e w2 ⟨rfl, hb2⟩
    have HB := Lib.hid hb2
    rw [HT.out]
    clear hb2
    go_wp2_with fail
    go_ret
    exact ⟨rfl, Qs.of HB.out, by rw [HE.out]; exact HQ.out.below HB.out HQ.out.lt⟩
  case neg =>
    have HT : Hid (Se.mkV sec ⟨k, fam, ser⟩ = .tuple #[.string ⟨#[]⟩, .int .i64 1]) := Lib.hid (by unfold Se.mkV Se.mk; rw [if_neg hR])
    have HT2 : Hid (tok sec k fam ser = []) := Lib.hid (by unfold tok Se.mk; rw [if_neg hR])
    have HE : Hid (errT ⟨k, fam, ser⟩ bd = 1) := Lib.hid (if_neg hR)
    clear hR
    go_enter Tryz.func25, Tryz.ntmps25
    go_wp2_with fail
    refine HM.out.mono ?_
    rintro e w2 ⟨rfl, hb2⟩
    have HB := Lib.hid hb2
    have HQ2 := Lib.hid (HQ.out.below hb2 HQ.out.lt)
    rw [HT.out]
    clear hb2
    have q0 := HQ2.out.cell 0 rfl
    have f0 := HQ2.out.frozen 0
    go_wp2_with fail
    go_ret
    refine ⟨by rw [HT2.out]; rfl, ⟨w2, HB.out, .inr ⟨_, rfl⟩⟩, ?_⟩
    rw [HE.out]
    exact HQ2.out.set 0 _
end Go.Proofs.YtffllacphfapnaaGreatDoor.Bk
