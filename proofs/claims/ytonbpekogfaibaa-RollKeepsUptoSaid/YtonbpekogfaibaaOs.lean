/-
  Chapter 15: the reference's Find and Same.
-/
import Derived.Test.YtonbpekogfaibaaOr
import Derived.Test.YtonbpekogfaibaaNh
import Derived.Test.YtonbpekogfaibaaNj
namespace Go.Proofs.Ytonbpekogfaibaa.Ro
open Go.RowKit Go.Maps Go.Sort
set_option linter.unusedVariables false
set_option linter.unusedSimpArgs false
set_option maxRecDepth 100000

theorem find_take_succ {l : List Cl} {k : Nat} {c : Cl} (hk : l[k]? = some c) (x : By) (h : find (l.take k) x = none) : find (l.take (k + 1)) x = if c.id = x then some c else none := by
  rw [List.take_add_one, hk, Option.toList_some, find_snoc, h, Option.none_or]
theorem find_of_take {l : List Cl} {k : Nat} {c : Cl} (x : By) (h : find (l.take k) x = some c) : find l x = some c := by
  have := (List.take_append_drop k l)
  rw [← this]
  unfold find at *
  rw [List.find?_append, h]
  rfl
set_option maxHeartbeats 4000000 in
theorem rfind_any (v : Value) (l : List Cl) (vs : Nat → V3) (x : By) (w : World) (h : CsAt w v l vs) (hl : l.length ≤ 4611686018427387904) :
    Calls Try.prog 12 #[v, .string ⟨x.toArray⟩] w fun e w' => ∃ u0 u1 u2, e = .returned (.tuple #[av (fC l x) (u0, u1, u2), .bool (find l x).isSome]) ∧ RdC w' (fC l x) (u0, u1, u2) ∧ Below w.heap.size w w' := by
  obtain ⟨a, c, rfl⟩ := h.shp
  have H := Lib.hid h
  have hz := Blk.new w 32 (c6 noC z3)
  have hw1 : Below w.heap.size w (w.alloc (.cells #[.string ⟨#[]⟩, .string ⟨#[]⟩, .bool false, .slice none 0 0, .slice none 0 0, .slice none 0 0] 32)) := (Below.refl _ _).alloc (Nat.le_refl _) _
  have HW := Lib.hid (And.intro hz hw1)
  clear h hz hw1
  go_enter Try.func12, Try.ntmps12
  go_wp2_with fail
  have hz0 : Blk (w.alloc (.cells #[.string ⟨#[]⟩, .string ⟨#[]⟩, .bool false, .slice none 0 0, .slice none 0 0, .slice none 0 0] 32)) w.heap.size 32 (c6 noC z3) := HW.out.1
  have hb0 := HW.out.2
  generalize (w.alloc (.cells #[.string ⟨#[]⟩, .string ⟨#[]⟩, .bool false, .slice none 0 0, .slice none 0 0, .slice none 0 0] 32)) = W0 at *
  go_loopw [5, 6] (fun r i wr => wr = W0 ∧ ∃ k : Nat, k ≤ l.length ∧ r = .bool false ∧ i = .int .i64 (k : Int) ∧ find (l.take k) x = none) (fun _ i _ => l.length - (intOf i).toNat)
  case atStart => exact ⟨rfl, 0, Nat.zero_le _, rfl, rfl, rfl⟩
  case round =>
    obtain ⟨rfl, k, hk, rfl, rfl, hno⟩ := hrel
    have r0 := hz0.cell 0 rfl
    have f0 := hz0.frozen 0
    have f1 := hz0.frozen 1
    have f2 := hz0.frozen 2
    have f3 := hz0.frozen 3
    have f4 := hz0.frozen 4
    have f5 := hz0.frozen 5
    have r1 := hz0.cell 1 rfl
    have r2 := hz0.cell 2 rfl
    have r3 := hz0.cell 3 rfl
    have r4 := hz0.cell 4 rfl
    have r5 := hz0.cell 5 rfl
    by_cases hkn : k < l.length
    case neg =>
      have g1 : ¬ (k : Int) < (l.length : Int) := by omega
      have hke : l.take k = l := List.take_of_length_le (by omega)
      rw [hke] at hno
      have HQ : Hid (fC l x = noC ∧ (find l x).isSome = false) := Lib.hid ⟨by unfold fC; rw [hno]; rfl, by rw [hno]; rfl⟩
      have HZ := Lib.hid (And.intro hz0 hb0)
      clear hno hke hz0 hb0
      go_wp2_with fail
      refine ret_ac_tmp rfl rfl rfl (Blk.set6 (x := noC) (y := z3) HZ.out.1) ?_
      refine ⟨.slice none 0 0, .slice none 0 0, .slice none 0 0, ?_, ?_, below_set6 HZ.out.2 (Nat.le_refl _)⟩
      · rw [HQ.out.1, HQ.out.2]; rfl
      · rw [HQ.out.1]; exact ⟨RdS.nil _, RdS.nil _, RdS.nil _⟩
    case pos =>
      have g1 : (k : Int) < (l.length : Int) := by omega
      obtain ⟨y, hy⟩ : ∃ y, l[k]? = some y := ⟨_, List.getElem?_eq_getElem hkn⟩
      obtain ⟨b, o, c9, e9, hbB, hcel⟩ := H.out.cel (by omega)
      obtain ⟨rfl, rfl⟩ : a = some ⟨b, o, none⟩ ∧ c = c9 := by cases e9; exact ⟨rfl, rfl⟩
      have hrow := H.out.row k y hy
      have hcl : ∀ (j : Nat) (u : Value), (c6 y (vs k))[j]? = some u → wr.cell? ⟨b, o + k * 6 + j, none⟩ = some u := fun j u hj => (World.cell?_of_block (a := ⟨b, o + k * 6 + j, none⟩) (hb0.block b hbB)).trans (hcel k y hy j u hj)
      obtain ⟨v, hv⟩ : ∃ v, v = vs k := ⟨_, rfl⟩
      rw [← hv] at hrow hcl
      obtain ⟨v0, v1, v2⟩ := v
      obtain ⟨a0, k0, e0⟩ := hrow.1.1.slice
      obtain ⟨a1, k1, e1⟩ := hrow.2.1.1.slice
      obtain ⟨a2, k2, e2⟩ := hrow.2.2.1.slice
      simp only at e0 e1 e2
      subst e0 e1 e2
      have d0 : wr.cell? ⟨b, o + k * 6, none⟩ = some (.string ⟨y.id.toArray⟩) := hcl 0 _ rfl
      have d1 := hcl 1 _ rfl
      have d2 := hcl 2 _ rfl
      have d3 := hcl 3 _ rfl
      have d4 := hcl 4 _ rfl
      have d5 := hcl 5 _ rfl
      have HY := Lib.hid (And.intro hy (And.intro hno (And.intro hrow hz0)))
      have HB := Lib.hid hb0
      by_cases hid : y.id = x
      case pos =>
        subst hid
        have h1 : (y.id == y.id) = true := by simp
        have h2 := str_eq h1
        have hf : find l y.id = some y := find_of_take (k := k + 1) y.id (by rw [find_take_succ hy y.id hno, if_pos rfl])
        have HQ : Hid (fC l y.id = y ∧ (find l y.id).isSome = true) := Lib.hid ⟨by unfold fC; rw [hf]; rfl, by rw [hf]; rfl⟩
        clear hf hno hy hrow hcl hcel hv hbB hb0 hz0 h1
        clear HW hk e9
        go_wp2_with fail
        refine ret_ac_tmp rfl rfl rfl (Blk.set6 (x := y) (y := (.slice a0 y.red.length k0, .slice a1 y.sco.length k1, .slice a2 y.gra.length k2)) HY.out.2.2.2) ?_
        refine ⟨.slice a0 y.red.length k0, .slice a1 y.sco.length k1, .slice a2 y.gra.length k2, ?_, ?_, below_set6 HB.out (Nat.le_refl _)⟩
        · rw [HQ.out.1, HQ.out.2]; rfl
        · rw [HQ.out.1]; exact HY.out.2.2.1.below (below_set6 HB.out (Nat.le_refl _))
      case neg =>
        have h1 : (y.id == x) = false := by simpa using hid
        have h2 := str_ne h1
        have HN := Lib.hid (show find (l.take (k + 1)) x = none by rw [find_take_succ hy x hno, if_neg hid])
        clear hno hy hrow hcl hcel hv hbB
        go_wp2_with fail
        exact ⟨⟨trivial, k + 1, by omega, rfl, by go_num, HN.out⟩, by simp [intOf]; omega⟩
/-- the same client? -/
def sameC (a b : Cl) : Bool := decide (a.id = b.id) && decide (a.sec = b.sec) && (a.pub == b.pub) && decide (a.red = b.red) && decide (a.sco = b.sco) && decide (a.gra = b.gra)
theorem sameC_iff (a b : Cl) : sameC a b = true ↔ a = b := by
  unfold sameC
  obtain ⟨a1, a2, a3, a4, a5, a6⟩ := a
  obtain ⟨b1, b2, b3, b4, b5, b6⟩ := b
  simp [and_assoc]
set_option maxHeartbeats 4000000 in
theorem rsame_any (a b : Cl) (u v : V3) (w : World) (ha : RdC w a u) (hb : RdC w b v) (h1 : a.red.length ≤ 4611686018427387904) (h2 : a.sco.length ≤ 4611686018427387904) (h3 : a.gra.length ≤ 4611686018427387904) :
    Calls Try.prog 14 #[av a u, av b v] w fun e w' => e = .returned (.bool (sameC a b)) ∧ Below w.heap.size w w' := by
  obtain ⟨u0, u1, u2⟩ := u
  obtain ⟨v0, v1, v2⟩ := v
  obtain ⟨a0, k0, e0⟩ := ha.1.1.slice
  obtain ⟨a1, k1, e1⟩ := ha.2.1.1.slice
  obtain ⟨a2, k2, e2⟩ := ha.2.2.1.slice
  obtain ⟨b0, l0, f0⟩ := hb.1.1.slice
  obtain ⟨b1, l1, f1⟩ := hb.2.1.1.slice
  obtain ⟨b2, l2, f2⟩ := hb.2.2.1.slice
  simp only at e0 e1 e2 f0 f1 f2
  subst e0 e1 e2 f0 f1 f2
  have HS0 : Hid (∀ W, Below w.heap.size w W → Calls Try.prog 19 #[.slice a0 a.red.length k0, .slice b0 b.red.length l0] W fun e w' => e = .returned (.bool (decide (a.red = b.red))) ∧ Below W.heap.size W w') := Lib.hid (fun W hW => same_any _ _ a.red b.red W (ha.1.below hW) (hb.1.below hW) h1)
  have HS1 : Hid (∀ W, Below w.heap.size w W → Calls Try.prog 19 #[.slice a1 a.sco.length k1, .slice b1 b.sco.length l1] W fun e w' => e = .returned (.bool (decide (a.sco = b.sco))) ∧ Below W.heap.size W w') := Lib.hid (fun W hW => same_any _ _ a.sco b.sco W (ha.2.1.below hW) (hb.2.1.below hW) h2)
  have HS2 : Hid (∀ W, Below w.heap.size w W → Calls Try.prog 19 #[.slice a2 a.gra.length k2, .slice b2 b.gra.length l2] W fun e w' => e = .returned (.bool (decide (a.gra = b.gra))) ∧ Below W.heap.size W w') := Lib.hid (fun W hW => same_any _ _ a.gra b.gra W (ha.2.2.below hW) (hb.2.2.below hW) h3)
  have HD : Hid (sameC a b = (decide (a.id = b.id) && decide (a.sec = b.sec) && (a.pub == b.pub) && decide (a.red = b.red) && decide (a.sco = b.sco) && decide (a.gra = b.gra))) := Lib.hid rfl
  unfold av
  clear ha hb h1 h2 h3
  go_enter Try.func14, Try.ntmps14
  go_wp2_with fail
  rotate_left 1
  iterate 3
    · rename_i hq
      go_ret
      exact ⟨ret_bool (by rw [HD.out]; simp [*]), ((Below.refl _ _).alloc (Nat.le_refl _) _).alloc (by simp) _⟩
  have HQ := Lib.hid (And.intro (show a.id = b.id by assumption) (And.intro (show a.sec = b.sec by assumption) (show a.pub = b.pub by assumption)))
  refine (HS0.out _ (((Below.refl _ _).alloc (Nat.le_refl _) _).alloc (by simp) _)).mono ?_
  rintro e w3 ⟨rfl, hb3⟩
  have hx3 : Blk w3 w.heap.size 32 (c6 ⟨b.id, b.sec, b.pub, a.red, a.sco, a.gra⟩ (.slice a0 a.red.length k0, .slice a1 a.sco.length k1, .slice a2 a.gra.length k2)) ∧ Blk w3 (w.heap.size + 1) 32 (c6 b (.slice b0 b.red.length l0, .slice b1 b.sco.length l1, .slice b2 b.gra.length l2)) := ⟨((Blk.new w 32 (c6 ⟨b.id, b.sec, b.pub, a.red, a.sco, a.gra⟩ (.slice a0 a.red.length k0, .slice a1 a.sco.length k1, .slice a2 a.gra.length k2))).alloc _).below hb3 (by simp; omega), by
    have := Blk.new (w.alloc (.cells #[.string ⟨b.id.toArray⟩, .string ⟨b.sec.toArray⟩, .bool b.pub, .slice a0 a.red.length k0, .slice a1 a.sco.length k1, .slice a2 a.gra.length k2] 32)) 32 (c6 b (.slice b0 b.red.length l0, .slice b1 b.sco.length l1, .slice b2 b.gra.length l2))
    rw [World.size_alloc] at this
    exact this.below hb3 (by simp)⟩
  have HX3 := Lib.hid hx3
  have HB3 : Hid (Below w.heap.size w w3) := Lib.hid ((((Below.refl _ _).alloc (Nat.le_refl _) _).alloc (by simp) _).trans (hb3.mono (by simp; omega)))
  have d4 := hx3.1.cell 4 rfl
  have d5 := hx3.1.cell 5 rfl
  have f4 := hx3.2.cell 4 rfl
  have f5 := hx3.2.cell 5 rfl
  clear hb3 hx3
  by_cases q3 : a.red = b.red
  case neg =>
    rw [decide_eq_false q3]
    go_wp2_with fail
    go_ret
    exact ⟨ret_bool (by rw [HD.out]; simp [*]), HB3.out⟩
  case pos =>
  rw [decide_eq_true q3]
  have HQ3 := Lib.hid q3
  clear q3
  go_wp2_with fail
  refine (HS1.out _ HB3.out).mono ?_
  rintro e w4 ⟨rfl, hb4⟩
  have hx4 : Blk w4 w.heap.size 32 (c6 ⟨b.id, b.sec, b.pub, a.red, a.sco, a.gra⟩ (.slice a0 a.red.length k0, .slice a1 a.sco.length k1, .slice a2 a.gra.length k2)) ∧ Blk w4 (w.heap.size + 1) 32 (c6 b (.slice b0 b.red.length l0, .slice b1 b.sco.length l1, .slice b2 b.gra.length l2)) := ⟨HX3.out.1.below hb4 HX3.out.1.lt, HX3.out.2.below hb4 HX3.out.2.lt⟩
  have HX4 := Lib.hid hx4
  have HB4 := Lib.hid (HB3.out.trans (hb4.mono HB3.out.size))
  clear d4 d5 f4 f5
  have d4 := hx4.1.cell 4 rfl
  have d5 := hx4.1.cell 5 rfl
  have f4 := hx4.2.cell 4 rfl
  have f5 := hx4.2.cell 5 rfl
  clear hb4 hx4
  by_cases q4 : a.sco = b.sco
  case neg =>
    rw [decide_eq_false q4]
    go_wp2_with fail
    go_ret
    exact ⟨ret_bool (by rw [HD.out]; simp [*]), HB4.out⟩
  case pos =>
  rw [decide_eq_true q4]
  have HQ4 := Lib.hid q4
  clear q4
  go_wp2_with fail
  refine (HS2.out _ HB4.out).mono ?_
  rintro e w5 ⟨rfl, hb5⟩
  have hx5 : Blk w5 w.heap.size 32 (c6 ⟨b.id, b.sec, b.pub, a.red, a.sco, a.gra⟩ (.slice a0 a.red.length k0, .slice a1 a.sco.length k1, .slice a2 a.gra.length k2)) ∧ Blk w5 (w.heap.size + 1) 32 (c6 b (.slice b0 b.red.length l0, .slice b1 b.sco.length l1, .slice b2 b.gra.length l2)) := ⟨HX4.out.1.below hb5 HX4.out.1.lt, HX4.out.2.below hb5 HX4.out.2.lt⟩
  have HX5 := Lib.hid hx5
  have HB5 := Lib.hid (HB4.out.trans (hb5.mono HB4.out.size))
  clear hb5 hx5
  go_wp2_with fail
  go_ret
  exact ⟨ret_bool (by rw [HD.out, HQ3.out, HQ4.out]; simp [*]), HB5.out⟩
end Go.Proofs.Ytonbpekogfaibaa.Ro
/- Chapter 15: the reference's Redirect and Scope. Printed by gen_roll_rgives.py. -/
namespace Go.Proofs.Ytonbpekogfaibaa.Ro
open Go.RowKit Go.Maps Go.Sort
set_option linter.unusedVariables false
set_option linter.unusedSimpArgs false
set_option maxRecDepth 100000

/-- where a client's answers go, by the reference -/
def rredir (ok : Bool) (c : Cl) (uri : By) : By × Bool := if ok = false then ([], false) else redir c uri
set_option maxHeartbeats 4000000 in
theorem rredirect_any (v : Value) (l : List Cl) (vs : Nat → V3) (x uri : By) (w : World) (h : CsAt w v l vs) (hl : l.length ≤ 4611686018427387904) (hr : (fC l x).red.length ≤ 4611686018427387904) :
    Calls Try.prog 16 #[v, .string ⟨x.toArray⟩, .string ⟨uri.toArray⟩] w fun e w' => e = .returned (.tuple #[.string ⟨(rredir (find l x).isSome (fC l x) uri).1.toArray⟩, .bool (rredir (find l x).isSome (fC l x) uri).2]) ∧ Below w.heap.size w w' := by
  have HF := Lib.hid (rfind_any v l vs x w h hl)
  obtain ⟨c, hc⟩ : ∃ c, c = fC l x := ⟨_, rfl⟩
  obtain ⟨ok, hok⟩ : ∃ ok, ok = (find l x).isSome := ⟨_, rfl⟩
  rw [← hc, ← hok] at HF ⊢
  rw [← hc] at hr
  have HL := Lib.hid hr
  clear h hl hc hok hr
  go_enter Try.func16, Try.ntmps16
  go_wp2_with fail
  refine HF.out.mono ?_
  rintro e w1 ⟨u0, u1, u2, rfl, hrd, hb1⟩
  obtain ⟨a0, k0, e0⟩ := hrd.1.1.slice
  obtain ⟨a1, k1, e1⟩ := hrd.2.1.1.slice
  obtain ⟨a2, k2, e2⟩ := hrd.2.2.1.slice
  simp only at e0 e1 e2
  subst e0 e1 e2
  unfold av
  have hbA : Below w1.heap.size w1 (w1.alloc (.cells #[.string ⟨c.id.toArray⟩, .string ⟨c.sec.toArray⟩, .bool c.pub, .slice a0 c.red.length k0, .slice a1 c.sco.length k1, .slice a2 c.gra.length k2] 32)) := (Below.refl _ _).alloc (Nat.le_refl _) _
  have HB := Lib.hid (hb1.trans (hbA.mono hb1.size))
  have HBX := Lib.hid (show Blk (w1.alloc (.cells #[.string ⟨c.id.toArray⟩, .string ⟨c.sec.toArray⟩, .bool c.pub, .slice a0 c.red.length k0, .slice a1 c.sco.length k1, .slice a2 c.gra.length k2] 32)) w1.heap.size 32 (c6 c (.slice a0 c.red.length k0, .slice a1 c.sco.length k1, .slice a2 c.gra.length k2)) from Blk.new w1 _ _)
  have HRD := Lib.hid (hrd.below hbA)
  clear hb1 hrd hbA
  cases ok with
  | false =>
    have HQ : Hid (rredir false c uri = ([], false)) := Lib.hid (by unfold rredir; rw [if_pos rfl])
    go_wp2_with fail
    go_ret2
    exact ⟨by rw [HQ.out]; rfl, HB.out⟩
  | true =>
  have HR0 : Hid (rredir true c uri = redir c uri) := Lib.hid (by unfold rredir; rw [if_neg (by simp)])
  have HHS := Lib.hid (has_any _ c.red uri _ HRD.out.1 HL.out)
  by_cases hu : uri = []
  case pos =>
    subst hu
    by_cases h1 : c.red.length = 1
    case pos =>
      obtain ⟨u, hu⟩ : ∃ u, c.red[0]? = some u := ⟨_, List.getElem?_eq_getElem (by omega)⟩
      have HR := Lib.hid (show redir c [] = (u, true) from by unfold redir; rw [if_pos ⟨rfl, h1⟩, List.getD_eq_getElem?_getD, hu]; rfl)
      obtain ⟨b0, o0, c0, e0, hc0, hcc⟩ := HRD.out.1.1.pos (by omega)
      simp only at e0
      cases e0
      have z1 := hcc 0 (.string ⟨u.toArray⟩) (by rw [List.getElem?_map, hu]; rfl)
      rw [Nat.add_zero] at z1
      have d3 := HBX.out.cell 3 rfl
      have HBL := HB
      rw [h1] at z1 d3 HBL ⊢
      clear hcc hu hc0 h1
      go_wp2_with fail
      go_ret2
      exact ⟨by rw [HR0.out, HR.out]; rfl, HBL.out⟩
    case neg =>
      have t0 : ((c.red.length : Int) == 1) = false := by rw [beq_eq_false_iff_ne]; omega
      by_cases hm : [] ∈ c.red
      case pos =>
        have HR := Lib.hid (show redir c [] = ([], true) from by unfold redir; rw [if_neg (fun h => h1 h.2), if_pos hm])
        rw [decide_eq_true hm] at HHS
        clear hm
        go_wp2_with fail
        refine HHS.out.mono ?_
        rintro e w2 ⟨rfl, e2⟩
        subst e2
        go_wp2_with fail
        go_ret2
        exact ⟨by rw [HR0.out, HR.out]; rfl, HB.out⟩
      case neg =>
        have HR := Lib.hid (show redir c [] = ([], false) from by unfold redir; rw [if_neg (fun h => h1 h.2), if_neg hm])
        rw [decide_eq_false hm] at HHS
        clear hm
        go_wp2_with fail
        refine HHS.out.mono ?_
        rintro e w2 ⟨rfl, e2⟩
        subst e2
        go_wp2_with fail
        go_ret2
        exact ⟨by rw [HR0.out, HR.out]; rfl, HB.out⟩
  case neg =>
    have hne : (uri == ([] : By)) = false := by simpa using hu
    have hne2 := str_ne hne
    have hne3 : ((⟨uri.toArray⟩ : ByteArray).toList == (⟨#[]⟩ : ByteArray).toList) = false := hne2
    have hne5 : List.isEmpty uri = false := by rw [List.isEmpty_eq_false_iff]; exact hu
    by_cases hm : uri ∈ c.red
    case pos =>
      have HR := Lib.hid (show redir c uri = (uri, true) from by unfold redir; rw [if_neg (fun h => hu h.1), if_pos hm])
      rw [decide_eq_true hm] at HHS
      clear hm
      go_wp2_with fail
      refine HHS.out.mono ?_
      rintro e w2 ⟨rfl, e2⟩
      subst e2
      go_wp2_with fail
      go_ret2
      exact ⟨by rw [HR0.out, HR.out]; rfl, HB.out⟩
    case neg =>
      have HR := Lib.hid (show redir c uri = ([], false) from by unfold redir; rw [if_neg (fun h => hu h.1), if_neg hm])
      rw [decide_eq_false hm] at HHS
      clear hm
      go_wp2_with fail
      refine HHS.out.mono ?_
      rintro e w2 ⟨rfl, e2⟩
      subst e2
      go_wp2_with fail
      go_ret2
      exact ⟨by rw [HR0.out, HR.out]; rfl, HB.out⟩
set_option maxHeartbeats 4000000 in
theorem rscope_any (v : Value) (l : List Cl) (vs : Nat → V3) (x : By) (vq : Value) (asked : List By) (w : World) (h : CsAt w v l vs) (hl : l.length ≤ 4611686018427387904) (hr : (fC l x).sco.length ≤ 1048576) (hq : RdS w vq asked) (hql : asked.length ≤ 1048576) :
    Calls Try.prog 18 #[v, .string ⟨x.toArray⟩, vq] w fun e w' => ∃ u, e = .returned (.tuple #[u, .bool (given (find l x).isSome (fC l x) asked).2]) ∧ RdS w' u (given (find l x).isSome (fC l x) asked).1 ∧ Below w.heap.size w w' := by
  obtain ⟨qa, qc, hqe⟩ := hq.1.slice
  subst hqe
  have HF := Lib.hid (rfind_any v l vs x w h hl)
  obtain ⟨c, hc⟩ : ∃ c, c = fC l x := ⟨_, rfl⟩
  obtain ⟨ok, hok⟩ : ∃ ok, ok = (find l x).isSome := ⟨_, rfl⟩
  rw [← hc, ← hok] at HF ⊢
  rw [← hc] at hr
  have HL := Lib.hid (And.intro hr (And.intro hq hql))
  clear h hl hc hok hr hq hql
  go_enter Try.func18, Try.ntmps18
  go_wp2_with fail
  refine HF.out.mono ?_
  rintro e w1 ⟨u0, u1, u2, rfl, hrd, hb1⟩
  obtain ⟨a0, k0, e0⟩ := hrd.1.1.slice
  obtain ⟨a1, k1, e1⟩ := hrd.2.1.1.slice
  obtain ⟨a2, k2, e2⟩ := hrd.2.2.1.slice
  simp only at e0 e1 e2
  subst e0 e1 e2
  unfold av
  have hbA : Below w1.heap.size w1 (w1.alloc (.cells #[.string ⟨c.id.toArray⟩, .string ⟨c.sec.toArray⟩, .bool c.pub, .slice a0 c.red.length k0, .slice a1 c.sco.length k1, .slice a2 c.gra.length k2] 32)) := (Below.refl _ _).alloc (Nat.le_refl _) _
  have HB := Lib.hid (hb1.trans (hbA.mono hb1.size))
  have HBX := Lib.hid (show Blk (w1.alloc (.cells #[.string ⟨c.id.toArray⟩, .string ⟨c.sec.toArray⟩, .bool c.pub, .slice a0 c.red.length k0, .slice a1 c.sco.length k1, .slice a2 c.gra.length k2] 32)) w1.heap.size 32 (c6 c (.slice a0 c.red.length k0, .slice a1 c.sco.length k1, .slice a2 c.gra.length k2)) from Blk.new w1 _ _)
  have HRD := Lib.hid (hrd.below hbA)
  have HS := Lib.hid (rset_any _ asked _ ((HL.out.2.1.below hb1).below hbA) HL.out.2.2)
  clear hb1 hrd hbA
  go_wp2_with fail
  refine HS.out.mono ?_
  rintro e w2 ⟨us, rfl, hos, hb2⟩
  obtain ⟨ua, uc, hue⟩ := (Rd.of_own hos).slice
  subst hue
  have hset : RdS w2 (.slice ua (Sc.set asked).length uc) (Sc.set asked) := hos.rd (fun y hy => set_short hy)
  have HB2 := Lib.hid (HB.out.trans (hb2.mono HB.out.size))
  have hbx := HBX.out.below hb2 HBX.out.lt
  have HRD2 := Lib.hid (HRD.out.below hb2)
  have d4 := hbx.cell 4 rfl
  have HWI := Lib.hid (rwithin_any _ _ (Sc.set asked) c.sco w2 hset HRD2.out.2.1 (Nat.le_trans (Sc.set_len asked) HL.out.2.2) HL.out.1)
  have HSE := Lib.hid hset
  obtain ⟨S, hS⟩ : ∃ S, S = Sc.set asked := ⟨_, rfl⟩
  have HGV : Hid (given ok c asked = if ok = false ∨ withinW S c.sco = false then ([], false) else if S = [] then (c.sco, true) else (S, true)) := Lib.hid (by unfold given; rw [hS])
  rw [← hS] at HWI HSE ⊢
  clear hos hset hb2 HS hS hbx HBX HB
  cases ok with
  | false =>
    have HR := Lib.hid (show given false c asked = ([], false) from by rw [HGV.out, if_pos (.inl rfl)])
    go_wp2_with fail
    go_ret2
    refine ⟨_, by rw [HR.out]; rfl, ?_, HB2.out⟩
    rw [HR.out]
    exact RdS.nil _
  | true =>
    cases hwi : withinW S c.sco with
    | false =>
      rw [hwi] at HWI
      have HR := Lib.hid (show given true c asked = ([], false) from by rw [HGV.out, if_pos (.inr hwi)])
      clear hwi
      go_wp2_with fail
      refine HWI.out.mono ?_
      rintro e w3 ⟨rfl, e3⟩
      subst e3
      go_wp2_with fail
      go_ret2
      refine ⟨_, by rw [HR.out]; rfl, ?_, HB2.out⟩
      rw [HR.out]
      exact RdS.nil _
    | true =>
      rw [hwi] at HWI
      have hnw : ¬ (true = false ∨ withinW S c.sco = false) := by rw [hwi]; simp
      have HNW := Lib.hid hnw
      clear hwi hnw
      go_wp2_with fail
      refine HWI.out.mono ?_
      rintro e w3 ⟨rfl, e3⟩
      subst e3
      by_cases hs0 : S = []
      case pos =>
        have HR := Lib.hid (show given true c asked = (c.sco, true) from by rw [HGV.out, if_neg HNW.out, if_pos hs0])
        have hl0 : S.length = 0 := by rw [hs0]; rfl
        rw [hl0]
        clear hs0 hl0
        go_wp2_with fail
        go_ret2
        refine ⟨_, by rw [HR.out]; rfl, ?_, HB2.out⟩
        rw [HR.out]
        exact HRD2.out.2.1
      case neg =>
        have HR := Lib.hid (show given true c asked = (S, true) from by rw [HGV.out, if_neg HNW.out, if_neg hs0])
        have hl0 : 0 < S.length := by
          rcases Nat.eq_zero_or_pos S.length with h0 | h0
          · exact absurd (List.eq_nil_of_length_eq_zero h0) hs0
          · exact h0
        obtain ⟨SL, hSL⟩ : ∃ SL, SL = S.length := ⟨_, rfl⟩
        have t0 : ((SL : Int) == 0) = false := by rw [beq_eq_false_iff_ne]; omega
        have HSL := Lib.hid hSL
        rw [← hSL]
        clear hs0 hl0 hSL
        go_wp2_with fail
        go_ret2
        refine ⟨_, by rw [HR.out]; rfl, ?_, HB2.out⟩
        rw [HR.out]
        show RdS w2 (.slice ua SL uc) S
        rw [HSL.out]
        exact HSE.out
end Go.Proofs.Ytonbpekogfaibaa.Ro
