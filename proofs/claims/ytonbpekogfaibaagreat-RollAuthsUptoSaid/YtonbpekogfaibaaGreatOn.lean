/-
  Chapter 15: New (under way).
-/
import Derived.Test.YtonbpekogfaibaaGreatOl
import Derived.BigRegion
import Derived.RegionTactic
namespace Go.Proofs.YtonbpekogfaibaaGreat.Ro
open Go.RowKit Go.Maps Go.Sort
set_option linter.unusedVariables false
set_option linter.unusedSimpArgs false
set_option maxRecDepth 100000

/-- may these be a roll's? -/
def AllP (l : List Cl) : Prop := l.length ≤ 64 ∧ ∀ k c, l[k]? = some c → RightP c ∧ find (l.take k) c.id = none
/-- what New answers -/
def NewR (l : List Cl) (w : World) (e : Ending) (w' : World) : Prop := (¬ AllP l ∧ e = .returned (.tuple #[.pointer none, .int .i64 1])) ∨ ∃ q m sl, AllP l ∧ e = .returned (.tuple #[.pointer (some ⟨q, 0, none⟩), .int .i64 0]) ∧ RO w' q m l sl ∧ w.heap.size ≤ q ∧ w.heap.size ≤ m ∧ ∀ c ∈ l, OwC w' w.heap.size c (sl c.id)
def rk (g : By) : Nat := if g = AC then 1 else if g = CC then 2 else 3
theorem rk_lt {a b : By} (ha : a = AC ∨ a = CC ∨ a = RT) (hb : b = AC ∨ b = CC ∨ b = RT) (h : a < b) : rk a < rk b := by
  have key : (∀ a ∈ [AC, CC, RT], ∀ b ∈ [AC, CC, RT], a < b → rk a < rk b) := by decide
  exact key a (by simpa using ha) b (by simpa using hb) h
theorem rk_le {a : By} : 1 ≤ rk a ∧ rk a ≤ 3 := by unfold rk; split <;> (try split) <;> omega
/-- no client may ask for more than three grants -/
theorem gra3 {c : Cl} (h : RightP c) : c.gra.length ≤ 3 := by
  have hr : ∀ i g, c.gra[i]? = some g → i + 1 ≤ rk g := by
    intro i
    induction i with
    | zero => intro g _; exact rk_le.1
    | succ i ih =>
      intro g hg
      have hi : i < c.gra.length := by have := (List.getElem?_eq_some_iff.1 hg).1; omega
      obtain ⟨p, hp⟩ : ∃ p, c.gra[i]? = some p := ⟨_, List.getElem?_eq_getElem hi⟩
      have h1 := h.gra (i + 1) g hg
      have h2 := h.gra i p hp
      have h3 : prev c.gra (i + 1) = p := by unfold prev; rw [if_neg (by omega), Nat.add_sub_cancel, List.getD_eq_getElem?_getD, hp]; rfl
      have h4 := rk_lt h2.2.1 h1.2.1 (by rw [← h3]; exact h1.1)
      have h5 := ih p hp
      omega
  rcases Nat.lt_or_ge 3 c.gra.length with h4 | h4
  · have h5 := hr 3 _ (List.getElem?_eq_getElem h4)
    have h6 := (rk_le (a := c.gra[3])).2
    omega
  · exact h4
theorem OwC.rdc {W : World} {B : Nat} {c : Cl} {v : V3} (h : OwC W B c v) {W2 : World} {v2 : V3} (h2 : RdC W2 c v2) : RdC W c v := ⟨⟨Rd.of_own h.r, h2.1.2⟩, ⟨Rd.of_own h.s, h2.2.1.2⟩, ⟨Rd.of_own h.g, h2.2.2.2⟩⟩
theorem OwC.keep {W W' : World} {B : Nat} {c : Cl} {v : V3} (h : OwC W B c v) (hk : ∀ g, B ≤ g → g < W.heap.size → W'.heap[g]? = W.heap[g]?) : OwC W' B c v :=
  ⟨own_keepB h.r (fun g hg => hk g (World.ownsRow.lt h.r g hg).1 (World.ownsRow.lt h.r g hg).2), own_keepB h.s (fun g hg => hk g (World.ownsRow.lt h.s g hg).1 (World.ownsRow.lt h.s g hg).2), own_keepB h.g (fun g hg => hk g (World.ownsRow.lt h.g g hg).1 (World.ownsRow.lt h.g g hg).2), h.rs, h.rg, h.sg⟩
theorem OwC.mono {W : World} {B B' : Nat} {c : Cl} {v : V3} (h : OwC W B c v) (hb : B' ≤ B) : OwC W B' c v :=
  ⟨World.ownsRow.mono h.r hb, World.ownsRow.mono h.s hb, World.ownsRow.mono h.g hb, h.rs, h.rg, h.sg⟩
set_option maxHeartbeats 4000000 in
theorem new_any (v : Value) (l : List Cl) (vs : Nat → V3) (w : World) (h : CsAt w v l vs) (hl : l.length ≤ 4611686018427387904) :
    Calls Tryz.prog 8 #[v] w fun e w' => NewR l w e w' ∧ Below w.heap.size w w' := by
  obtain ⟨a, c, rfl⟩ := h.shp
  have H := Lib.hid h
  clear h
  by_cases h64 : l.length ≤ 64
  case neg =>
    have t0 : (64 : Int) < (l.length : Int) := by omega
    have HN := Lib.hid h64
    clear h64
    go_enter Tryz.func8, Tryz.ntmps8
    go_wp2_with fail
    go_ret2
    exact ⟨Or.inl ⟨fun h => HN.out h.1, rfl⟩, Below.refl _ _⟩
  case pos =>
  have t0 : ¬ (64 : Int) < (l.length : Int) := by omega
  have hmm := @run_makeMap Tryz.prog
  go_enter Tryz.func8, Tryz.ntmps8
  go_wp2_with fail
  have hm0 := RM.made w (fun _ => z3)
  have hm1 : RM ((w.alloc (.map #[] 0)).alloc (.cells #[.map (some w.heap.size)] 52)) w.heap.size (l.take 0) (fun _ => z3) := hm0.keep (((Below.refl _ _).alloc (Nat.le_refl _) _).block _ hm0.lt)
  have hq0 : Blk ((w.alloc (.map #[] 0)).alloc (.cells #[.map (some w.heap.size)] 52)) (w.heap.size + 1) 52 [.map (some w.heap.size)] := by
    have := Blk.new (w.alloc (.map #[] 0)) 52 [.map (some w.heap.size)]
    rw [World.size_alloc] at this
    exact this
  have hb0 : Below w.heap.size w ((w.alloc (.map #[] 0)).alloc (.cells #[.map (some w.heap.size)] 52)) := ((Below.refl _ _).alloc (Nat.le_refl _) _).alloc (by simp) _
  have hs0 : w.heap.size + 2 ≤ ((w.alloc (.map #[] 0)).alloc (.cells #[.map (some w.heap.size)] 52)).heap.size := by simp
  generalize ((w.alloc (.map #[] 0)).alloc (.cells #[.map (some w.heap.size)] 52)) = W0 at *
  clear hm0
  go_loopw [18] (fun i wr => ∃ (k : Nat) (sl : By → V3), k ≤ l.length ∧ i = .int .i64 (k : Int) ∧ RM wr w.heap.size (l.take k) sl ∧ Blk wr (w.heap.size + 1) 52 [.map (some w.heap.size)] ∧ (∀ c ∈ l.take k, OwC wr (w.heap.size + 2) c (sl c.id)) ∧ (∀ j c, j < k → l[j]? = some c → RightP c ∧ find (l.take j) c.id = none) ∧ Below w.heap.size w wr ∧ w.heap.size + 2 ≤ wr.heap.size) (fun i _ => l.length - (intOf i).toNat)
  case atStart => exact ⟨0, _, Nat.zero_le _, rfl, hm1, hq0, fun c hc => by simp at hc, fun j c hj => absurd hj (Nat.not_lt_zero _), hb0, hs0⟩
  case round =>
    clear hm1 hq0 hb0 hs0
    obtain ⟨k, sl, hk, rfl, hm, hq, how, hall, hbw, hsz⟩ := hrel
    by_cases hkn : k < l.length
    case neg =>
      have g1 : ¬ (k : Int) < (l.length : Int) := by omega
      have hke : l.take k = l := List.take_of_length_le (by omega)
      rw [hke] at hm how
      have HE : Hid (AllP l ∧ RO wr (w.heap.size + 1) w.heap.size l sl ∧ Below w.heap.size w wr ∧ ∀ c ∈ l, OwC wr w.heap.size c (sl c.id)) := Lib.hid ⟨⟨h64, fun j c hj => hall j c (by have := (List.getElem?_eq_some_iff.1 hj).1; omega) hj⟩, ⟨hq, hm, fun c hc => ?_, fun c hc => ?_⟩, hbw, fun c hc => (how c hc).mono (by omega)⟩
      · clear hm hq how hall hbw
        go_wp2_with fail
        go_ret2
        exact ⟨Or.inr ⟨_, _, _, HE.out.1, rfl, HE.out.2.1, by omega, Nat.le_refl _, HE.out.2.2.2⟩, HE.out.2.2.1⟩
      · obtain ⟨j, hj⟩ := List.getElem?_of_mem hc
        exact (how c hc).rdc (H.out.row j c hj)
      · obtain ⟨j, hj⟩ := List.getElem?_of_mem hc
        have hr := (hall j c (by have := (List.getElem?_eq_some_iff.1 hj).1; omega) hj).1
        have h3 := gra3 hr
        exact ⟨by have := hr.r4; omega, by have := hr.s32; omega, by omega⟩
    case pos =>
      have g1 : (k : Int) < (l.length : Int) := by omega
      obtain ⟨x, hx⟩ : ∃ x, l[k]? = some x := ⟨_, List.getElem?_eq_getElem hkn⟩
      obtain ⟨b, o, c9, e9, hbB, hcel⟩ := H.out.cel (by omega)
      obtain ⟨rfl, rfl⟩ : a = some ⟨b, o, none⟩ ∧ c = c9 := by cases e9; exact ⟨rfl, rfl⟩
      have hrow := H.out.row k x hx
      have hidl := H.out.idl x (List.mem_of_getElem? hx)
      have hcl : ∀ (W : World), Below w.heap.size w W → ∀ (j : Nat) (u : Value), (c6 x (vs k))[j]? = some u → W.cell? ⟨b, o + k * 6 + j, none⟩ = some u := fun W hW j u hj => (World.cell?_of_block (a := ⟨b, o + k * 6 + j, none⟩) (hW.block b hbB)).trans (hcel k x hx j u hj)
      have hrw := hrow.below hbw
      obtain ⟨a0, k0, e0⟩ := hrow.1.1.slice
      obtain ⟨a1, k1, e1⟩ := hrow.2.1.1.slice
      obtain ⟨a2, k2, e2⟩ := hrow.2.2.1.slice
      obtain ⟨v, hv⟩ : ∃ v, v = vs k := ⟨_, rfl⟩
      rw [← hv] at hrow hcl hrw e0 e1 e2
      obtain ⟨v0, v1, v2⟩ := v
      simp only at e0 e1 e2
      subst e0 e1 e2
      have d0 : wr.cell? ⟨b, o + k * 6, none⟩ = some (.string ⟨x.id.toArray⟩) := hcl wr hbw 0 _ rfl
      have d1 := hcl wr hbw 1 _ rfl
      have d2 := hcl wr hbw 2 _ rfl
      have d3 := hcl wr hbw 3 _ rfl
      have d4 := hcl wr hbw 4 _ rfl
      have d5 := hcl wr hbw 5 _ rfl
      have hid9 : x.id.length ≤ 9223372036854775807 := by omega
      have hb1 : Below wr.heap.size wr ((wr.alloc (.cells #[.string ⟨x.id.toArray⟩, .string ⟨x.sec.toArray⟩, .bool x.pub, .slice a0 x.red.length k0, .slice a1 x.sco.length k1, .slice a2 x.gra.length k2] 40)).alloc (.cells #[.string ⟨x.id.toArray⟩, .string ⟨x.sec.toArray⟩, .bool x.pub, .slice a0 x.red.length k0, .slice a1 x.sco.length k1, .slice a2 x.gra.length k2] 54)) := ((Below.refl _ _).alloc (Nat.le_refl _) _).alloc (by simp) _
      have hc1 : Blk ((wr.alloc (.cells #[.string ⟨x.id.toArray⟩, .string ⟨x.sec.toArray⟩, .bool x.pub, .slice a0 x.red.length k0, .slice a1 x.sco.length k1, .slice a2 x.gra.length k2] 40)).alloc (.cells #[.string ⟨x.id.toArray⟩, .string ⟨x.sec.toArray⟩, .bool x.pub, .slice a0 x.red.length k0, .slice a1 x.sco.length k1, .slice a2 x.gra.length k2] 54)) (wr.heap.size + 1) 54 (c6 x (.slice a0 x.red.length k0, .slice a1 x.sco.length k1, .slice a2 x.gra.length k2)) := by
        have := Blk.new (wr.alloc (.cells #[.string ⟨x.id.toArray⟩, .string ⟨x.sec.toArray⟩, .bool x.pub, .slice a0 x.red.length k0, .slice a1 x.sco.length k1, .slice a2 x.gra.length k2] 40)) 54 (c6 x (.slice a0 x.red.length k0, .slice a1 x.sco.length k1, .slice a2 x.gra.length k2))
        rw [World.size_alloc] at this
        exact this
      have hz1 : ((wr.alloc (.cells #[.string ⟨x.id.toArray⟩, .string ⟨x.sec.toArray⟩, .bool x.pub, .slice a0 x.red.length k0, .slice a1 x.sco.length k1, .slice a2 x.gra.length k2] 40)).alloc (.cells #[.string ⟨x.id.toArray⟩, .string ⟨x.sec.toArray⟩, .bool x.pub, .slice a0 x.red.length k0, .slice a1 x.sco.length k1, .slice a2 x.gra.length k2] 54)).heap.size = wr.heap.size + 2 := by simp
      obtain ⟨W1, hW1⟩ : ∃ W1, W1 = ((wr.alloc (.cells #[.string ⟨x.id.toArray⟩, .string ⟨x.sec.toArray⟩, .bool x.pub, .slice a0 x.red.length k0, .slice a1 x.sco.length k1, .slice a2 x.gra.length k2] 40)).alloc (.cells #[.string ⟨x.id.toArray⟩, .string ⟨x.sec.toArray⟩, .bool x.pub, .slice a0 x.red.length k0, .slice a1 x.sco.length k1, .slice a2 x.gra.length k2] 54)) := ⟨_, rfl⟩
      rw [← hW1] at hb1 hc1 hz1
      have hfv : ∃ b0 j0 b1 j1 b2 j2, fV (l.take k) sl x.id = (.slice b0 (fC (l.take k) x.id).red.length j0, .slice b1 (fC (l.take k) x.id).sco.length j1, .slice b2 (fC (l.take k) x.id).gra.length j2) := by
        unfold fV fC
        cases hf : find (l.take k) x.id with
        | none => exact ⟨none, 0, none, 0, none, 0, rfl⟩
        | some y =>
          obtain ⟨hm9, e9⟩ := find_name hf
          have hy := how y hm9
          rw [e9] at hy
          obtain ⟨b0, j0, f0⟩ := (Rd.of_own hy.r).slice
          obtain ⟨b1, j1, f1⟩ := (Rd.of_own hy.s).slice
          obtain ⟨b2, j2, f2⟩ := (Rd.of_own hy.g).slice
          exact ⟨b0, j0, b1, j1, b2, j2, by simp only [Option.isSome_some, if_true, Option.getD_some]; exact Prod.ext f0 (Prod.ext f1 f2)⟩
      have hd1 : Below W1.heap.size W1 ((W1.alloc (.cells #[.string ⟨#[]⟩, .string ⟨#[]⟩, .bool false, .slice none 0 0, .slice none 0 0, .slice none 0 0] 54)).drew) := ((Below.refl _ _).alloc (Nat.le_refl _) _).drew
      have hlk : ∀ W, Below W1.heap.size W1 W → (Instr.lookup 50 (.map (some w.heap.size)) (.string ⟨x.id.toArray⟩) true).run Tryz.prog W = .ok (.tuple #[av (fC (l.take k) x.id) (fV (l.take k) sl x.id), .bool (find (l.take k) x.id).isSome]) W := fun W hW => by
        have := (hm.keep ((hb1.trans (hW.mono (by omega))).block _ hm.lt)).look x.id hid9
        rw [cvOf_eq] at this
        exact this
      obtain ⟨b0, j0, b1, j1, b2, j2, hfe⟩ := hfv
      rw [hfe] at hlk
      generalize fC (l.take k) x.id = y at hlk
      clear hfe
      unfold av at hlk
      obtain ⟨tw, htw⟩ : ∃ tw, tw = (find (l.take k) x.id).isSome := ⟨_, rfl⟩
      rw [← htw] at hlk
      have hdr : Below W1.heap.size W1 W1.drew := (Below.refl _ _).drew
      have hlk1 := hlk _ hdr
      have hlk2 := hlk _ hd1
      have hlk3 := hlk _ (Below.refl _ _)
      have c1 := (hq.below (hb1.trans (hd1.mono (by omega))) hq.lt).cell 0 rfl
      have c2 := (hc1.below hd1 hc1.lt).cell 0 rfl
      have c3 := (hq.below hb1 hq.lt).cell 0 rfl
      have c4 := hc1.cell 0 rfl
      have c5 := (hq.below (hb1.trans (hdr.mono (by omega))) hq.lt).cell 0 rfl
      have c6' := (hc1.below hdr hc1.lt).cell 0 rfl
      clear hlk hdr hd1
      have HS := Lib.hid (And.intro hm (And.intro hq (And.intro how (And.intro hall (And.intro hbw (And.intro hsz (And.intro hrow (And.intro hcl (And.intro hrw (And.intro hb1 (And.intro hc1 hz1)))))))))))
      clear hm hq how hall hbw hsz hrow hcl hrw hb1 hc1
      go_wp2_with fail
      rw [← hW1]
      clear hW1
      have HT := Lib.hid htw
      clear htw
      go_region
      -- BLOCKS by gen_new.py
      · have hb2 : Below wr.heap.size wr ((W1.alloc (.cells #[.string ⟨y.id.toArray⟩, .string ⟨y.sec.toArray⟩, .bool y.pub, .slice b0 y.red.length j0, .slice b1 y.sco.length j1, .slice b2 y.gra.length j2] 54)).drew) := (HS.out.2.2.2.2.2.2.2.2.2.1.alloc (by omega) _).drew
        have hk2 : Blk ((W1.alloc (.cells #[.string ⟨y.id.toArray⟩, .string ⟨y.sec.toArray⟩, .bool y.pub, .slice b0 y.red.length j0, .slice b1 y.sco.length j1, .slice b2 y.gra.length j2] 54)).drew) (wr.heap.size + 1) 54 (c6 x (.slice a0 x.red.length k0, .slice a1 x.sco.length k1, .slice a2 x.gra.length k2)) := (HS.out.2.2.2.2.2.2.2.2.2.2.1.alloc _).drew
        have hz2 : ((W1.alloc (.cells #[.string ⟨y.id.toArray⟩, .string ⟨y.sec.toArray⟩, .bool y.pub, .slice b0 y.red.length j0, .slice b1 y.sco.length j1, .slice b2 y.gra.length j2] 54)).drew).heap.size = wr.heap.size + 3 := by simp [hz1]
        generalize ((W1.alloc (.cells #[.string ⟨y.id.toArray⟩, .string ⟨y.sec.toArray⟩, .bool y.pub, .slice b0 y.red.length j0, .slice b1 y.sco.length j1, .slice b2 y.gra.length j2] 54)).drew) = W2 at *
        clear hlk1 hlk2 hlk3 c1 c2 c3 c4 c5 c6' hz1 d0 d1 d2 d3 d4 d5
        have e0 := hk2.cell 0 rfl
        have e1 := hk2.cell 1 rfl
        have e2 := hk2.cell 2 rfl
        have e3 := hk2.cell 3 rfl
        have e4 := hk2.cell 4 rfl
        have e5 := hk2.cell 5 rfl
        have HK := Lib.hid (And.intro hb2 (And.intro hk2 hz2))
        clear hb2 hk2
        cases tw with
        | true =>
          go_wp2_with fail
          go_ret2
          refine ⟨Or.inl ⟨fun h => ?_, rfl⟩, HS.out.2.2.2.2.1.trans (HK.out.1.mono (by have := HS.out.2.2.2.2.2.1; omega))⟩
          have h1 := (h.2 k x hx).2
          have h2 := HT.out
          rw [h1] at h2
          exact absurd h2 (by simp)
        | false =>
          go_wp2_with fail
          refine (right_any x a0 a1 a2 k0 k1 k2 W2 (HS.out.2.2.2.2.2.2.2.2.1.below HK.out.1) (by omega)).mono ?_
          rintro e w3 ⟨br, rfl, hbr, hb3⟩
          have HB3 := Lib.hid hb3
          have HBR := Lib.hid hbr
          have hk3 := HK.out.2.1.below hb3 HK.out.2.1.lt
          have f0 := hk3.cell 0 rfl
          have f1 := hk3.cell 1 rfl
          have f2 := hk3.cell 2 rfl
          have f3 := hk3.cell 3 rfl
          have f4 := hk3.cell 4 rfl
          have f5 := hk3.cell 5 rfl
          have HK3 := Lib.hid hk3
          clear hb3 hbr hk3 e0 e1 e2 e3 e4 e5
          cases br with
          | false =>
            go_wp2_with fail
            go_ret2
            refine ⟨Or.inl ⟨fun h => ?_, rfl⟩, HS.out.2.2.2.2.1.trans ((HK.out.1.trans (HB3.out.mono (by omega))).mono (by have := HS.out.2.2.2.2.2.1; omega))⟩
            exact absurd (HBR.out.2 (h.2 k x hx).1) (by simp)
          | true =>
            have HRP : Hid (RightP x) := Lib.hid (HBR.out.1 rfl)
            have HQ : Hid (Blk w3 (w.heap.size + 1) 52 [.map (some w.heap.size)]) := Lib.hid ((HS.out.2.1.below HK.out.1 HS.out.2.1.lt).below HB3.out (by have := HK.out.1.size; have := HS.out.2.1.lt; omega))
            go_wp2_with fail
            refine wp_region_held_drew (S := (fun W => W.cell? ⟨w.heap.size + 1, 0, none⟩ = some (.map (some w.heap.size)) ∧ W.cell? ⟨wr.heap.size + 1, 0, none⟩ = some (.string ⟨x.id.toArray⟩) ∧ W.cell? ⟨wr.heap.size + 1, 1, none⟩ = some (.string ⟨x.sec.toArray⟩) ∧ W.cell? ⟨wr.heap.size + 1, 2, none⟩ = some (.bool x.pub) ∧ W.cell? ⟨wr.heap.size + 1, 3, none⟩ = some (.slice a0 x.red.length k0) ∧ W.cell? ⟨wr.heap.size + 1, 4, none⟩ = some (.slice a1 x.sco.length k1) ∧ W.cell? ⟨wr.heap.size + 1, 5, none⟩ = some (.slice a2 x.gra.length k2))) (by kernel_rfl) ?_ (fun hHeld1 => ?_)
            · exact ⟨HQ.out.cell 0 rfl, f0, f1, f2, f3, f4, f5⟩
            refine wpAnyH_take (i := 0) (oi := ?oi1) (v := ?v1) ?hi1 (by kernel_rfl) (by kernel_rfl) (by kernel_rfl) ?hq1 ?hy1 (by assumption) ?rest1
            case hi1 => (simp only [List.getElem?_toArray, List.getElem?_cons_succ, List.getElem?_cons_zero]; rfl)
            case hq1 => exact fun _ _ _ h => h
            case hy1 => (refine Or.inl ⟨by rfl, ?_⟩; intro W hSw; (try dsimp only at hSw); go_simp; (try with_reducible rfl))
            try simp only [Act.put, List.setIfInBounds_toArray, List.set_cons_zero, List.set_cons_succ]
            refine wpAnyH_take (i := 1) (oi := ?oi2) (v := ?v2) ?hi2 (by kernel_rfl) (by kernel_rfl) (by kernel_rfl) ?hq2 ?hy2 (by assumption) ?rest2
            case hi2 => (simp only [List.getElem?_toArray, List.getElem?_cons_succ, List.getElem?_cons_zero]; rfl)
            case hq2 => exact fun _ _ _ h => h
            case hy2 => (refine Or.inl ⟨by rfl, ?_⟩; intro W hSw; (try dsimp only at hSw); go_simp; (try with_reducible rfl))
            try simp only [Act.put, List.setIfInBounds_toArray, List.set_cons_zero, List.set_cons_succ]
            refine wpAnyH_take (i := 2) (oi := ?oi3) (v := ?v3) ?hi3 (by kernel_rfl) (by kernel_rfl) (by kernel_rfl) ?hq3 ?hy3 (by assumption) ?rest3
            case hi3 => (simp only [List.getElem?_toArray, List.getElem?_cons_succ, List.getElem?_cons_zero]; rfl)
            case hq3 => exact fun _ _ _ h => h
            case hy3 => (refine Or.inl ⟨by rfl, ?_⟩; intro W hSw; (try dsimp only at hSw); go_simp; (try with_reducible rfl))
            try simp only [Act.put, List.setIfInBounds_toArray, List.set_cons_zero, List.set_cons_succ]
            refine wpAnyH_take (i := 3) (oi := ?oi4) (v := ?v4) ?hi4 (by kernel_rfl) (by kernel_rfl) (by kernel_rfl) ?hq4 ?hy4 (by assumption) ?rest4
            case hi4 => (simp only [List.getElem?_toArray, List.getElem?_cons_succ, List.getElem?_cons_zero]; rfl)
            case hq4 => exact fun _ _ _ h => h
            case hy4 => (refine Or.inl ⟨by rfl, ?_⟩; intro W hSw; (try dsimp only at hSw); go_simp; (try with_reducible rfl))
            try simp only [Act.put, List.setIfInBounds_toArray, List.set_cons_zero, List.set_cons_succ]
            refine wpAnyH_take (i := 4) (oi := ?oi5) (v := ?v5) ?hi5 (by kernel_rfl) (by kernel_rfl) (by kernel_rfl) ?hq5 ?hy5 (by assumption) ?rest5
            case hi5 => (simp only [List.getElem?_toArray, List.getElem?_cons_succ, List.getElem?_cons_zero]; rfl)
            case hq5 => exact fun _ _ _ h => h
            case hy5 => (refine Or.inl ⟨by rfl, ?_⟩; intro W hSw; (try dsimp only at hSw); go_simp; (try with_reducible rfl))
            try simp only [Act.put, List.setIfInBounds_toArray, List.set_cons_zero, List.set_cons_succ]
            refine wpAnyH_take (i := 5) (oi := ?oi6) (v := ?v6) ?hi6 (by kernel_rfl) (by kernel_rfl) (by kernel_rfl) ?hq6 ?hy6 (by assumption) ?rest6
            case hi6 => (simp only [List.getElem?_toArray, List.getElem?_cons_succ, List.getElem?_cons_zero]; rfl)
            case hq6 => exact fun _ _ _ h => h
            case hy6 => (refine Or.inl ⟨by rfl, ?_⟩; intro W hSw; (try dsimp only at hSw); go_simp; (try with_reducible rfl))
            try simp only [Act.put, List.setIfInBounds_toArray, List.set_cons_zero, List.set_cons_succ]
            refine wpAnyH_take (i := 6) (oi := ?oi7) (v := ?v7) ?hi7 (by kernel_rfl) (by kernel_rfl) (by kernel_rfl) ?hq7 ?hy7 (by assumption) ?rest7
            case hi7 => (simp only [List.getElem?_toArray, List.getElem?_cons_succ, List.getElem?_cons_zero]; rfl)
            case hq7 => exact fun _ _ _ h => h
            case hy7 => (refine Or.inl ⟨by rfl, ?_⟩; intro W hSw; (try dsimp only at hSw); go_simp; (try with_reducible rfl))
            try simp only [Act.put, List.setIfInBounds_toArray, List.set_cons_zero, List.set_cons_succ]
            refine wpAnyH_take (i := 7) (oi := ?oi8) (v := ?v8) ?hi8 (by kernel_rfl) (by kernel_rfl) (by kernel_rfl) ?hq8 ?hy8 (by assumption) ?rest8
            case hi8 => (simp only [List.getElem?_toArray, List.getElem?_cons_succ, List.getElem?_cons_zero]; rfl)
            case hq8 => exact fun _ _ _ h => h
            case hy8 => (refine Or.inl ⟨by rfl, ?_⟩; intro W hSw; (try dsimp only at hSw); go_simp; (try with_reducible rfl))
            try simp only [Act.put, List.setIfInBounds_toArray, List.set_cons_zero, List.set_cons_succ]
            refine wpAnyH_ready (rs := [8]) (by kernel_rfl) (by simp) ?_
            refine AllReadyH.cons (o := ?oi9) ?hi9 (fun K hK => ?hs9) AllReadyH.nil
            case hi9 => (simp only [List.getElem?_toArray, List.getElem?_cons_succ, List.getElem?_cons_zero]; rfl)
            go_simp
            refine (own_any x (.slice a0 x.red.length k0) (.slice a1 x.sco.length k1) (.slice a2 x.gra.length k2) w3.drew (((HS.out.2.2.2.2.2.2.2.2.1.below HK.out.1).below HB3.out).below (Below.refl _ _).drew) (by have := HRP.out.r4; omega) (by have := HRP.out.s32; omega) (by have := gra3 HRP.out; omega)).mono ?_
            rintro e w4 ⟨u0, u1, u2, rfl, how4, hb4⟩
            obtain ⟨x0, y0, g0⟩ := (Rd.of_own how4.r).slice
            obtain ⟨x1, y1, g1⟩ := (Rd.of_own how4.s).slice
            obtain ⟨x2, y2, g2⟩ := (Rd.of_own how4.g).slice
            simp only at g0 g1 g2
            subst g0 g1 g2
            have hk4 := HK3.out.drew.below hb4 HK3.out.drew.lt
            have hq4 := HQ.out.drew.below hb4 HQ.out.drew.lt
            have HW4 := Lib.hid (And.intro how4 (And.intro hb4 (And.intro hq4 hk4)))
            clear how4 hb4 hq4 hk4
            go_wp2_with fail
            refine hK.out _ _ ?_ (fun hHeld2 => ?_)
            · exact ⟨HW4.out.2.2.1.cell 0 rfl, HW4.out.2.2.2.cell 0 rfl, HW4.out.2.2.2.cell 1 rfl, HW4.out.2.2.2.cell 2 rfl, HW4.out.2.2.2.cell 3 rfl, HW4.out.2.2.2.cell 4 rfl, HW4.out.2.2.2.cell 5 rfl⟩
            clear hK
            try simp only [Act.put, List.setIfInBounds_toArray, List.set_cons_zero, List.set_cons_succ]
            have hx4 : Below wr.heap.size wr w4 := HK.out.1.trans (((HB3.out.trans ((Below.refl _ _).drew)).trans (HW4.out.2.1.mono HB3.out.size)).mono HK.out.1.size)
            obtain ⟨W5, hrun, hm5, hg5⟩ := RM.put (HS.out.1.keep (hx4.block _ HS.out.1.lt)) x (.slice x0 x.red.length y0, .slice x1 x.sco.length y1, .slice x2 x.gra.length y2) (by have h2 := HT.out; cases hh : find (l.take k) x.id with | none => rfl | some _ => rw [hh] at h2; exact absurd h2 (by simp)) hid9 (by rw [List.length_take]; unfold maxLen; omega)
            unfold av at hrun
            have HM := Lib.hid (And.intro hm5 (And.intro hg5 hx4))
            clear hm5 hg5 hx4
            refine wpAnyH_ready (rs := [9]) (by kernel_rfl) (by simp) ?_
            refine AllReadyH.cons (o := ?oi10) ?hi10 (fun K hK => ?hs10) AllReadyH.nil
            case hi10 => (simp only [List.getElem?_toArray, List.getElem?_cons_succ, List.getElem?_cons_zero]; rfl)
            go_simp
            have hq5 := HW4.out.2.2.1.grown HM.out.2.1 (fun r hr => by cases hr; omega)
            have hk5 := HW4.out.2.2.2.grown HM.out.2.1 (fun r hr => by have := HS.out.2.2.2.2.2.1; cases hr; omega)
            refine hK.out _ _ ⟨hq5.cell 0 rfl, hk5.cell 0 rfl, hk5.cell 1 rfl, hk5.cell 2 rfl, hk5.cell 3 rfl, hk5.cell 4 rfl, hk5.cell 5 rfl⟩ (fun hHeld3 => ?_)
            clear hK
            try simp only [Act.put, List.setIfInBounds_toArray, List.set_cons_zero, List.set_cons_succ]
            refine wpAnyH_done (by kernel_rfl) ?_ _
            have HQ5 := Lib.hid hq5
            clear hq5 hk5 hrun
            go_wp2_with fail
            go_roundw
            case measure => simp [intOf]; omega
            case rel =>
              have hno : find (l.take k) x.id = none := by have h2 := HT.out; cases hh : find (l.take k) x.id with | none => rfl | some _ => rw [hh] at h2; exact absurd h2 (by simp)
              have htk : l.take (k + 1) = l.take k ++ [x] := by rw [List.take_add_one, hx]; rfl
              have hs0 := HS.out.2.2.2.2.2.1
              have hs1 := HM.out.2.2.size
              have hs2 := HB3.out.size
              refine ⟨k + 1, _, by omega, by go_num, by rw [htk]; exact HM.out.1, HQ5.out, fun c hc => ?_, fun j c hj hc => ?_, (HS.out.2.2.2.2.1.trans (HM.out.2.2.mono (by omega))).grown HM.out.2.1 (by omega) (fun r hr => by cases hr; exact Nat.le_refl _), Nat.le_trans (Nat.le_trans hs0 hs1) HM.out.2.1.size⟩
              · rw [htk] at hc
                rcases List.mem_append.1 hc with hc | hc
                · have hne : ¬ c.id = x.id := fun e => by have := List.find?_eq_none.1 hno c hc; simp [e] at this
                  simp only [if_neg hne]
                  exact (HS.out.2.2.1 c hc).keep (fun g hg hl => (HM.out.2.1.block g (by omega) (fun e => by cases e; omega)).trans (HM.out.2.2.block g hl))
                · obtain rfl : c = x := by simpa using hc
                  simp only [if_true]
                  exact (HW4.out.1.mono (by show _ ≤ w3.heap.size; omega)).keep (fun g hg hl => HM.out.2.1.block g hl (fun e => by cases e; omega))
              · by_cases hjk : j = k
                · subst hjk; obtain rfl : x = c := by rw [hx] at hc; exact Option.some.inj hc
                  exact ⟨HRP.out, hno⟩
                · exact HS.out.2.2.2.1 j c (by omega) hc
      · have hb2 : Below wr.heap.size wr ((W1.alloc (.cells #[.string ⟨y.id.toArray⟩, .string ⟨y.sec.toArray⟩, .bool y.pub, .slice b0 y.red.length j0, .slice b1 y.sco.length j1, .slice b2 y.gra.length j2] 54)).drew) := (HS.out.2.2.2.2.2.2.2.2.2.1.alloc (by omega) _).drew
        have hk2 : Blk ((W1.alloc (.cells #[.string ⟨y.id.toArray⟩, .string ⟨y.sec.toArray⟩, .bool y.pub, .slice b0 y.red.length j0, .slice b1 y.sco.length j1, .slice b2 y.gra.length j2] 54)).drew) (wr.heap.size + 1) 54 (c6 x (.slice a0 x.red.length k0, .slice a1 x.sco.length k1, .slice a2 x.gra.length k2)) := (HS.out.2.2.2.2.2.2.2.2.2.2.1.alloc _).drew
        have hz2 : ((W1.alloc (.cells #[.string ⟨y.id.toArray⟩, .string ⟨y.sec.toArray⟩, .bool y.pub, .slice b0 y.red.length j0, .slice b1 y.sco.length j1, .slice b2 y.gra.length j2] 54)).drew).heap.size = wr.heap.size + 3 := by simp [hz1]
        generalize ((W1.alloc (.cells #[.string ⟨y.id.toArray⟩, .string ⟨y.sec.toArray⟩, .bool y.pub, .slice b0 y.red.length j0, .slice b1 y.sco.length j1, .slice b2 y.gra.length j2] 54)).drew) = W2 at *
        clear hlk1 hlk2 hlk3 c1 c2 c3 c4 c5 c6' hz1 d0 d1 d2 d3 d4 d5
        have e0 := hk2.cell 0 rfl
        have e1 := hk2.cell 1 rfl
        have e2 := hk2.cell 2 rfl
        have e3 := hk2.cell 3 rfl
        have e4 := hk2.cell 4 rfl
        have e5 := hk2.cell 5 rfl
        have HK := Lib.hid (And.intro hb2 (And.intro hk2 hz2))
        clear hb2 hk2
        cases tw with
        | true =>
          go_wp2_with fail
          go_ret2
          refine ⟨Or.inl ⟨fun h => ?_, rfl⟩, HS.out.2.2.2.2.1.trans (HK.out.1.mono (by have := HS.out.2.2.2.2.2.1; omega))⟩
          have h1 := (h.2 k x hx).2
          have h2 := HT.out
          rw [h1] at h2
          exact absurd h2 (by simp)
        | false =>
          go_wp2_with fail
          refine (right_any x a0 a1 a2 k0 k1 k2 W2 (HS.out.2.2.2.2.2.2.2.2.1.below HK.out.1) (by omega)).mono ?_
          rintro e w3 ⟨br, rfl, hbr, hb3⟩
          have HB3 := Lib.hid hb3
          have HBR := Lib.hid hbr
          have hk3 := HK.out.2.1.below hb3 HK.out.2.1.lt
          have f0 := hk3.cell 0 rfl
          have f1 := hk3.cell 1 rfl
          have f2 := hk3.cell 2 rfl
          have f3 := hk3.cell 3 rfl
          have f4 := hk3.cell 4 rfl
          have f5 := hk3.cell 5 rfl
          have HK3 := Lib.hid hk3
          clear hb3 hbr hk3 e0 e1 e2 e3 e4 e5
          cases br with
          | false =>
            go_wp2_with fail
            go_ret2
            refine ⟨Or.inl ⟨fun h => ?_, rfl⟩, HS.out.2.2.2.2.1.trans ((HK.out.1.trans (HB3.out.mono (by omega))).mono (by have := HS.out.2.2.2.2.2.1; omega))⟩
            exact absurd (HBR.out.2 (h.2 k x hx).1) (by simp)
          | true =>
            have HRP : Hid (RightP x) := Lib.hid (HBR.out.1 rfl)
            have HQ : Hid (Blk w3 (w.heap.size + 1) 52 [.map (some w.heap.size)]) := Lib.hid ((HS.out.2.1.below HK.out.1 HS.out.2.1.lt).below HB3.out (by have := HK.out.1.size; have := HS.out.2.1.lt; omega))
            go_wp2_with fail
            refine wp_region_held_drew (S := (fun W => W.cell? ⟨w.heap.size + 1, 0, none⟩ = some (.map (some w.heap.size)) ∧ W.cell? ⟨wr.heap.size + 1, 0, none⟩ = some (.string ⟨x.id.toArray⟩) ∧ W.cell? ⟨wr.heap.size + 1, 1, none⟩ = some (.string ⟨x.sec.toArray⟩) ∧ W.cell? ⟨wr.heap.size + 1, 2, none⟩ = some (.bool x.pub) ∧ W.cell? ⟨wr.heap.size + 1, 3, none⟩ = some (.slice a0 x.red.length k0) ∧ W.cell? ⟨wr.heap.size + 1, 4, none⟩ = some (.slice a1 x.sco.length k1) ∧ W.cell? ⟨wr.heap.size + 1, 5, none⟩ = some (.slice a2 x.gra.length k2))) (by kernel_rfl) ?_ (fun hHeld1 => ?_)
            · exact ⟨HQ.out.cell 0 rfl, f0, f1, f2, f3, f4, f5⟩
            refine wpAnyH_take (i := 0) (oi := ?oi11) (v := ?v11) ?hi11 (by kernel_rfl) (by kernel_rfl) (by kernel_rfl) ?hq11 ?hy11 (by assumption) ?rest11
            case hi11 => (simp only [List.getElem?_toArray, List.getElem?_cons_succ, List.getElem?_cons_zero]; rfl)
            case hq11 => exact fun _ _ _ h => h
            case hy11 => (refine Or.inl ⟨by rfl, ?_⟩; intro W hSw; (try dsimp only at hSw); go_simp; (try with_reducible rfl))
            try simp only [Act.put, List.setIfInBounds_toArray, List.set_cons_zero, List.set_cons_succ]
            refine wpAnyH_take (i := 1) (oi := ?oi12) (v := ?v12) ?hi12 (by kernel_rfl) (by kernel_rfl) (by kernel_rfl) ?hq12 ?hy12 (by assumption) ?rest12
            case hi12 => (simp only [List.getElem?_toArray, List.getElem?_cons_succ, List.getElem?_cons_zero]; rfl)
            case hq12 => exact fun _ _ _ h => h
            case hy12 => (refine Or.inl ⟨by rfl, ?_⟩; intro W hSw; (try dsimp only at hSw); go_simp; (try with_reducible rfl))
            try simp only [Act.put, List.setIfInBounds_toArray, List.set_cons_zero, List.set_cons_succ]
            refine wpAnyH_take (i := 2) (oi := ?oi13) (v := ?v13) ?hi13 (by kernel_rfl) (by kernel_rfl) (by kernel_rfl) ?hq13 ?hy13 (by assumption) ?rest13
            case hi13 => (simp only [List.getElem?_toArray, List.getElem?_cons_succ, List.getElem?_cons_zero]; rfl)
            case hq13 => exact fun _ _ _ h => h
            case hy13 => (refine Or.inl ⟨by rfl, ?_⟩; intro W hSw; (try dsimp only at hSw); go_simp; (try with_reducible rfl))
            try simp only [Act.put, List.setIfInBounds_toArray, List.set_cons_zero, List.set_cons_succ]
            refine wpAnyH_take (i := 3) (oi := ?oi14) (v := ?v14) ?hi14 (by kernel_rfl) (by kernel_rfl) (by kernel_rfl) ?hq14 ?hy14 (by assumption) ?rest14
            case hi14 => (simp only [List.getElem?_toArray, List.getElem?_cons_succ, List.getElem?_cons_zero]; rfl)
            case hq14 => exact fun _ _ _ h => h
            case hy14 => (refine Or.inl ⟨by rfl, ?_⟩; intro W hSw; (try dsimp only at hSw); go_simp; (try with_reducible rfl))
            try simp only [Act.put, List.setIfInBounds_toArray, List.set_cons_zero, List.set_cons_succ]
            refine wpAnyH_take (i := 4) (oi := ?oi15) (v := ?v15) ?hi15 (by kernel_rfl) (by kernel_rfl) (by kernel_rfl) ?hq15 ?hy15 (by assumption) ?rest15
            case hi15 => (simp only [List.getElem?_toArray, List.getElem?_cons_succ, List.getElem?_cons_zero]; rfl)
            case hq15 => exact fun _ _ _ h => h
            case hy15 => (refine Or.inl ⟨by rfl, ?_⟩; intro W hSw; (try dsimp only at hSw); go_simp; (try with_reducible rfl))
            try simp only [Act.put, List.setIfInBounds_toArray, List.set_cons_zero, List.set_cons_succ]
            refine wpAnyH_take (i := 5) (oi := ?oi16) (v := ?v16) ?hi16 (by kernel_rfl) (by kernel_rfl) (by kernel_rfl) ?hq16 ?hy16 (by assumption) ?rest16
            case hi16 => (simp only [List.getElem?_toArray, List.getElem?_cons_succ, List.getElem?_cons_zero]; rfl)
            case hq16 => exact fun _ _ _ h => h
            case hy16 => (refine Or.inl ⟨by rfl, ?_⟩; intro W hSw; (try dsimp only at hSw); go_simp; (try with_reducible rfl))
            try simp only [Act.put, List.setIfInBounds_toArray, List.set_cons_zero, List.set_cons_succ]
            refine wpAnyH_take (i := 6) (oi := ?oi17) (v := ?v17) ?hi17 (by kernel_rfl) (by kernel_rfl) (by kernel_rfl) ?hq17 ?hy17 (by assumption) ?rest17
            case hi17 => (simp only [List.getElem?_toArray, List.getElem?_cons_succ, List.getElem?_cons_zero]; rfl)
            case hq17 => exact fun _ _ _ h => h
            case hy17 => (refine Or.inl ⟨by rfl, ?_⟩; intro W hSw; (try dsimp only at hSw); go_simp; (try with_reducible rfl))
            try simp only [Act.put, List.setIfInBounds_toArray, List.set_cons_zero, List.set_cons_succ]
            refine wpAnyH_take (i := 7) (oi := ?oi18) (v := ?v18) ?hi18 (by kernel_rfl) (by kernel_rfl) (by kernel_rfl) ?hq18 ?hy18 (by assumption) ?rest18
            case hi18 => (simp only [List.getElem?_toArray, List.getElem?_cons_succ, List.getElem?_cons_zero]; rfl)
            case hq18 => exact fun _ _ _ h => h
            case hy18 => (refine Or.inl ⟨by rfl, ?_⟩; intro W hSw; (try dsimp only at hSw); go_simp; (try with_reducible rfl))
            try simp only [Act.put, List.setIfInBounds_toArray, List.set_cons_zero, List.set_cons_succ]
            refine wpAnyH_ready (rs := [8]) (by kernel_rfl) (by simp) ?_
            refine AllReadyH.cons (o := ?oi19) ?hi19 (fun K hK => ?hs19) AllReadyH.nil
            case hi19 => (simp only [List.getElem?_toArray, List.getElem?_cons_succ, List.getElem?_cons_zero]; rfl)
            go_simp
            refine (own_any x (.slice a0 x.red.length k0) (.slice a1 x.sco.length k1) (.slice a2 x.gra.length k2) w3.drew (((HS.out.2.2.2.2.2.2.2.2.1.below HK.out.1).below HB3.out).below (Below.refl _ _).drew) (by have := HRP.out.r4; omega) (by have := HRP.out.s32; omega) (by have := gra3 HRP.out; omega)).mono ?_
            rintro e w4 ⟨u0, u1, u2, rfl, how4, hb4⟩
            obtain ⟨x0, y0, g0⟩ := (Rd.of_own how4.r).slice
            obtain ⟨x1, y1, g1⟩ := (Rd.of_own how4.s).slice
            obtain ⟨x2, y2, g2⟩ := (Rd.of_own how4.g).slice
            simp only at g0 g1 g2
            subst g0 g1 g2
            have hk4 := HK3.out.drew.below hb4 HK3.out.drew.lt
            have hq4 := HQ.out.drew.below hb4 HQ.out.drew.lt
            have HW4 := Lib.hid (And.intro how4 (And.intro hb4 (And.intro hq4 hk4)))
            clear how4 hb4 hq4 hk4
            go_wp2_with fail
            refine hK.out _ _ ?_ (fun hHeld2 => ?_)
            · exact ⟨HW4.out.2.2.1.cell 0 rfl, HW4.out.2.2.2.cell 0 rfl, HW4.out.2.2.2.cell 1 rfl, HW4.out.2.2.2.cell 2 rfl, HW4.out.2.2.2.cell 3 rfl, HW4.out.2.2.2.cell 4 rfl, HW4.out.2.2.2.cell 5 rfl⟩
            clear hK
            try simp only [Act.put, List.setIfInBounds_toArray, List.set_cons_zero, List.set_cons_succ]
            have hx4 : Below wr.heap.size wr w4 := HK.out.1.trans (((HB3.out.trans ((Below.refl _ _).drew)).trans (HW4.out.2.1.mono HB3.out.size)).mono HK.out.1.size)
            obtain ⟨W5, hrun, hm5, hg5⟩ := RM.put (HS.out.1.keep (hx4.block _ HS.out.1.lt)) x (.slice x0 x.red.length y0, .slice x1 x.sco.length y1, .slice x2 x.gra.length y2) (by have h2 := HT.out; cases hh : find (l.take k) x.id with | none => rfl | some _ => rw [hh] at h2; exact absurd h2 (by simp)) hid9 (by rw [List.length_take]; unfold maxLen; omega)
            unfold av at hrun
            have HM := Lib.hid (And.intro hm5 (And.intro hg5 hx4))
            clear hm5 hg5 hx4
            refine wpAnyH_ready (rs := [9]) (by kernel_rfl) (by simp) ?_
            refine AllReadyH.cons (o := ?oi20) ?hi20 (fun K hK => ?hs20) AllReadyH.nil
            case hi20 => (simp only [List.getElem?_toArray, List.getElem?_cons_succ, List.getElem?_cons_zero]; rfl)
            go_simp
            have hq5 := HW4.out.2.2.1.grown HM.out.2.1 (fun r hr => by cases hr; omega)
            have hk5 := HW4.out.2.2.2.grown HM.out.2.1 (fun r hr => by have := HS.out.2.2.2.2.2.1; cases hr; omega)
            refine hK.out _ _ ⟨hq5.cell 0 rfl, hk5.cell 0 rfl, hk5.cell 1 rfl, hk5.cell 2 rfl, hk5.cell 3 rfl, hk5.cell 4 rfl, hk5.cell 5 rfl⟩ (fun hHeld3 => ?_)
            clear hK
            try simp only [Act.put, List.setIfInBounds_toArray, List.set_cons_zero, List.set_cons_succ]
            refine wpAnyH_done (by kernel_rfl) ?_ _
            have HQ5 := Lib.hid hq5
            clear hq5 hk5 hrun
            go_wp2_with fail
            go_roundw
            case measure => simp [intOf]; omega
            case rel =>
              have hno : find (l.take k) x.id = none := by have h2 := HT.out; cases hh : find (l.take k) x.id with | none => rfl | some _ => rw [hh] at h2; exact absurd h2 (by simp)
              have htk : l.take (k + 1) = l.take k ++ [x] := by rw [List.take_add_one, hx]; rfl
              have hs0 := HS.out.2.2.2.2.2.1
              have hs1 := HM.out.2.2.size
              have hs2 := HB3.out.size
              refine ⟨k + 1, _, by omega, by go_num, by rw [htk]; exact HM.out.1, HQ5.out, fun c hc => ?_, fun j c hj hc => ?_, (HS.out.2.2.2.2.1.trans (HM.out.2.2.mono (by omega))).grown HM.out.2.1 (by omega) (fun r hr => by cases hr; exact Nat.le_refl _), Nat.le_trans (Nat.le_trans hs0 hs1) HM.out.2.1.size⟩
              · rw [htk] at hc
                rcases List.mem_append.1 hc with hc | hc
                · have hne : ¬ c.id = x.id := fun e => by have := List.find?_eq_none.1 hno c hc; simp [e] at this
                  simp only [if_neg hne]
                  exact (HS.out.2.2.1 c hc).keep (fun g hg hl => (HM.out.2.1.block g (by omega) (fun e => by cases e; omega)).trans (HM.out.2.2.block g hl))
                · obtain rfl : c = x := by simpa using hc
                  simp only [if_true]
                  exact (HW4.out.1.mono (by show _ ≤ w3.heap.size; omega)).keep (fun g hg hl => HM.out.2.1.block g hl (fun e => by cases e; omega))
              · by_cases hjk : j = k
                · subst hjk; obtain rfl : x = c := by rw [hx] at hc; exact Option.some.inj hc
                  exact ⟨HRP.out, hno⟩
                · exact HS.out.2.2.2.1 j c (by omega) hc
end Go.Proofs.YtonbpekogfaibaaGreat.Ro
