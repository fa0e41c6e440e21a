/-
  Chapter 15: Auth. Printed by gen_roll_auth.py.
-/
import Derived.Test.YtonbpekogfaibaaGreatOp
namespace Go.Proofs.YtonbpekogfaibaaGreat.Ro
open Go.RowKit Go.Maps Go.Sort
set_option linter.unusedVariables false
set_option linter.unusedSimpArgs false
set_option maxRecDepth 100000

def CID : By := [99, 108, 105, 101, 110, 116, 95, 105, 100]
def CSE : By := [99, 108, 105, 101, 110, 116, 95, 115, 101, 99, 114, 101, 116]
/-- who shows itself by a header -/
def byHead (cs : List Cl) (id : By) (ids : Nat) (sh : Option (By × By)) : By × Nat :=
  match sh with
  | some (x, y) => match find cs x with
    | some c => if c.pub = false ∧ c.sec = y then (if 0 < ids ∧ id ≠ x then ([], 1) else (x, 0)) else ([], 2)
    | none => ([], 2)
  | none => ([], 2)
/-- who shows itself by a form -/
def byForm (cs : List Cl) (id : By) (ids : Nat) (sec : By) (secs : Nat) : By × Nat :=
  match find cs id with
  | some c => if ids = 0 ∨ c.pub ≠ decide (secs = 0) ∨ c.sec ≠ sec then ([], 2) else (id, 0)
  | none => ([], 2)
/-- who shows itself, or why nobody does -/
def authG (cs : List Cl) (header : By) (id : By) (ids : Nat) (sec : By) (secs : Nat) : By × Nat :=
  if 1 < ids ∨ 1 < secs ∨ (header ≠ [] ∧ 0 < secs) then ([], 1) else if header ≠ [] then byHead cs id ids (shownS header) else byForm cs id ids sec secs
def authS (cs : List Cl) (header : By) (form : PrL) : By × Nat := authG cs header (gval form CID) (gcnt form CID) (gval form CSE) (gcnt form CSE)
set_option maxHeartbeats 8000000 in
theorem auth_any (rv : Value) (cs : List Cl) (sl : By → V3) (header : By) (fv : Value) (form : PrL) (w : World) (h : RR w rv cs sl) (hh : header.length ≤ 140737488355000) (hf : Rd w 2 fv form.length (prCells form)) (hfl : form.length ≤ 4611686018427387904)
    (hl1 : (gval form CID).length ≤ 281474976710656) (hl2 : (gval form CSE).length ≤ 281474976710656) :
    Calls Tryz.prog 9 #[rv, .string ⟨header.toArray⟩, fv] w fun e w' => e = .returned (.tuple #[.string ⟨(authS cs header form).1.toArray⟩, .int .i64 ((authS cs header form).2 : Int)]) ∧ Below w.heap.size w w' := by
  obtain ⟨fa, fc, hfv⟩ := hf.slice
  subst hfv
  have G1 := Go.Proofs.YtonbpekogfaibaaGreat.get_any _ form CID w hf hfl
  have G2 := Go.Proofs.YtonbpekogfaibaaGreat.get_any _ form CSE w hf hfl
  have hR0 : authS cs header form = authG cs header (gval form CID) (gcnt form CID) (gval form CSE) (gcnt form CSE) := rfl
  rw [hR0]
  obtain ⟨id, hid⟩ : ∃ z, z = gval form CID := ⟨_, rfl⟩
  obtain ⟨n1, hn1⟩ : ∃ z, z = gcnt form CID := ⟨_, rfl⟩
  obtain ⟨se, hse⟩ : ∃ z, z = gval form CSE := ⟨_, rfl⟩
  obtain ⟨n2, hn2⟩ : ∃ z, z = gcnt form CSE := ⟨_, rfl⟩
  rw [← hid, ← hn1] at G1
  rw [← hse, ← hn2] at G2
  rw [← hid] at hl1
  rw [← hse] at hl2
  rw [← hid, ← hn1, ← hse, ← hn2]
  obtain ⟨FL, hFL⟩ : ∃ z, z = form.length := ⟨_, rfl⟩
  rw [← hFL] at G1 G2 ⊢
  have HG1 := Lib.hid G1
  have HG2 := Lib.hid G2
  unfold CID at HG1
  unfold CSE at HG2
  obtain ⟨R, hR⟩ : ∃ R, R = authG cs header id n1 se n2 := ⟨_, rfl⟩
  rw [← hR]
  have HR := Lib.hid hR
  have HH := Lib.hid (And.intro h (And.intro hh (And.intro hl1 hl2)))
  clear hid hn1 hse hn2 G1 G2 hR0 hFL hf hfl h hh hl1 hl2 hR
  by_cases a1 : 1 < n1
  case pos =>
    have t1 : (1 : Int) < (n1 : Int) := by omega
    have HQ : Hid (R = ([], 1)) := Lib.hid (by rw [HR.out]; unfold authG; rw [if_pos (.inl a1)])
    clear a1
    go_enter Tryz.func9, Tryz.ntmps9
    go_wp2_with fail
    refine HG1.out.mono ?_
    rintro e w1 ⟨rfl, e1⟩
    subst e1
    go_wp2_with fail
    refine HG2.out.mono ?_
    rintro e w1 ⟨rfl, e1⟩
    subst e1
    go_wp2_with fail
    go_ret2
    exact ⟨by rw [HQ.out]; rfl, Below.refl _ _⟩
  case neg =>
  have t1 : ¬ (1 : Int) < (n1 : Int) := by omega
  by_cases a2 : 1 < n2
  case pos =>
    have t2 : (1 : Int) < (n2 : Int) := by omega
    have HQ : Hid (R = ([], 1)) := Lib.hid (by rw [HR.out]; unfold authG; rw [if_pos (.inr (.inl a2))])
    clear a1 a2
    go_enter Tryz.func9, Tryz.ntmps9
    go_wp2_with fail
    refine HG1.out.mono ?_
    rintro e w1 ⟨rfl, e1⟩
    subst e1
    go_wp2_with fail
    refine HG2.out.mono ?_
    rintro e w1 ⟨rfl, e1⟩
    subst e1
    go_wp2_with fail
    go_ret2
    exact ⟨by rw [HQ.out]; rfl, Below.refl _ _⟩
  case neg =>
  have t2 : ¬ (1 : Int) < (n2 : Int) := by omega
  by_cases hd : header = []
  case neg =>
    have hne : (header == ([] : By)) = false := by simpa using hd
    have hne2 := str_ne hne
    have hne3 : ((⟨header.toArray⟩ : ByteArray).toList == (⟨#[]⟩ : ByteArray).toList) = false := hne2
    have hne4 : ((⟨header.toArray⟩ : ByteArray).toList != (⟨#[]⟩ : ByteArray).toList) = true := by rw [bne, hne3]; rfl
    have hne5 : List.isEmpty header = false := by rw [List.isEmpty_eq_false_iff]; exact hd
    by_cases a3 : 0 < n2
    case pos =>
      have t3 : (0 : Int) < (n2 : Int) := by omega
      have HQ : Hid (R = ([], 1)) := Lib.hid (by rw [HR.out]; unfold authG; rw [if_pos (.inr (.inr ⟨hd, a3⟩))])
      clear a1 a2 hd hne hne2
      go_enter Tryz.func9, Tryz.ntmps9
      go_wp2_with fail
      refine HG1.out.mono ?_
      rintro e w1 ⟨rfl, e1⟩
      subst e1
      go_wp2_with fail
      refine HG2.out.mono ?_
      rintro e w1 ⟨rfl, e1⟩
      subst e1
      go_wp2_with fail
      go_ret2
      exact ⟨by rw [HQ.out]; rfl, Below.refl _ _⟩
    case neg =>
      have t3 : ¬ (0 : Int) < (n2 : Int) := by omega
      have HB : Hid (R = byHead cs id n1 (shownS header)) := Lib.hid (by rw [HR.out]; unfold authG; rw [if_neg (by rintro (h | h | h); exact a1 h; exact a2 h; exact a3 h.2), if_pos hd])
      have HS := Lib.hid (shown_any header w HH.out.2.1)
      clear a1 a2 hd hne hne2
      go_enter Tryz.func9, Tryz.ntmps9
      go_wp2_with fail
      refine HG1.out.mono ?_
      rintro e w1 ⟨rfl, e1⟩
      subst e1
      go_wp2_with fail
      refine HG2.out.mono ?_
      rintro e w1 ⟨rfl, e1⟩
      subst e1
      go_wp2_with fail
      refine HS.out.mono ?_
      rintro e w1 ⟨⟨x, y, ok, rfl, hok, hno, hxl, hyl⟩, hb1⟩
      have HSH := Lib.hid (And.intro hok hno)
      have HXL := Lib.hid (And.intro hxl hyl)
      have HGT := Lib.hid (get_rr rv cs sl x w1 (HH.out.1.below hb1) (by have := HXL.out.1; have := HH.out.2.1; omega))
      have HGO := Lib.hid ((HH.out.1.below hb1).got x)
      have HB1 := Lib.hid hb1
      obtain ⟨c, hc⟩ : ∃ c, c = fC cs x := ⟨_, rfl⟩
      obtain ⟨v, hv⟩ : ∃ v, v = fV cs sl x := ⟨_, rfl⟩
      obtain ⟨b, hb⟩ : ∃ b, b = (find cs x).isSome := ⟨_, rfl⟩
      rw [← hc, ← hv, ← hb] at HGT
      rw [← hc, ← hv] at HGO
      obtain ⟨v0, v1, v2⟩ := v
      obtain ⟨a0, k0, e0⟩ := HGO.out.1.1.1.slice
      obtain ⟨a1', k1, e1⟩ := HGO.out.1.2.1.1.slice
      obtain ⟨a2', k2, e2⟩ := HGO.out.1.2.2.1.slice
      simp only at e0 e1 e2
      subst e0 e1 e2
      unfold av at HGT
      have HCB := Lib.hid (And.intro hc hb)
      clear hc hv hb hb1
      go_wp2_with fail
      refine HGT.out.mono ?_
      rintro e w2 ⟨rfl, hb2⟩
      have hbx : Blk (w2.alloc (.cells #[.string ⟨c.id.toArray⟩, .string ⟨c.sec.toArray⟩, .bool c.pub, .slice a0 c.red.length k0, .slice a1' c.sco.length k1, .slice a2' c.gra.length k2] 54)) w2.heap.size 54 (c6 c (.slice a0 c.red.length k0, .slice a1' c.sco.length k1, .slice a2' c.gra.length k2)) := Blk.new w2 _ _
      have HE := Lib.hid (And.intro (HB1.out.trans ((hb2.alloc hb2.size (.cells #[.string ⟨c.id.toArray⟩, .string ⟨c.sec.toArray⟩, .bool c.pub, .slice a0 c.red.length k0, .slice a1' c.sco.length k1, .slice a2' c.gra.length k2] 54)).mono HB1.out.size)) (And.intro hbx HCB.out))
      have d1 := hbx.cell 1 rfl
      have d2 := hbx.cell 2 rfl
      clear hbx hb2 HGT
      cases ok with
      | false =>
        have HQ : Hid (R = ([], 2)) := Lib.hid (by rw [HB.out, HSH.out.2 rfl]; rfl)
        go_wp2_with fail
        go_ret2
        exact ⟨by rw [HQ.out]; rfl, HE.out.1⟩
      | true =>
      have HB2 : Hid (R = byHead cs id n1 (some (x, y))) := Lib.hid (by rw [HB.out, HSH.out.1 rfl])
      cases hf2 : find cs x with
      | none =>
        have HQ : Hid (R = ([], 2)) := Lib.hid (by rw [HB2.out]; unfold byHead; dsimp only; rw [hf2])
        obtain rfl : b = false := by rw [HE.out.2.2.2, hf2]; rfl
        clear hf2
        go_wp2_with fail
        go_ret2
        exact ⟨by rw [HQ.out]; rfl, HE.out.1⟩
      | some c0 =>
      obtain rfl : b = true := by rw [HE.out.2.2.2, hf2]; rfl
      obtain rfl : c0 = c := by rw [HE.out.2.2.1]; unfold fC; rw [hf2]; rfl
      have HB3 : Hid (R = if c0.pub = false ∧ c0.sec = y then (if 0 < n1 ∧ id ≠ x then ([], 1) else (x, 0)) else ([], 2)) := Lib.hid (by rw [HB2.out]; unfold byHead; dsimp only; rw [hf2])
      clear hf2
      cases hpu : c0.pub with
      | true =>
        rw [hpu] at HE d1 d2
        have HQ : Hid (R = ([], 2)) := Lib.hid (by rw [HB3.out, if_neg (fun h => by rw [hpu] at h; exact absurd h.1 (by simp))])
        clear hpu
        go_wp2_with fail
        go_ret2
        exact ⟨by rw [HQ.out]; rfl, HE.out.1⟩
      | false =>
        rw [hpu] at HE d1 d2
        have HPU := Lib.hid hpu
        clear hpu
        go_wp2_with (refine wpList_bytesW rfl 9 62 (.tmp 72) rfl c0.sec rfl Tryz.underlying9 5 Tryz.underlying62 Tryz.underlying5 ?_)
        intro bv1 w4 hr1 hb4
        go_wp2_with (refine wpList_bytesW rfl 9 62 (.tmp 74) rfl y rfl Tryz.underlying9 5 Tryz.underlying62 Tryz.underlying5 ?_)
        intro bv2 w5 hr2 hb5
        have HSM := Lib.hid (Oc.same_any bv1 bv2 c0.sec y w5 (hr1.below hb5) hr2 (by have := HXL.out.2; have := HH.out.2.1; omega))
        have HE5 := Lib.hid (HE.out.1.trans ((hb4.trans (hb5.mono (by have := hb4.size; first | exact this | (simp at this ⊢; omega)))).mono (by have := HE.out.1.size; first | exact this | (simp at this ⊢; omega))))
        clear hr1 hr2 hb4 hb5
        go_wp2_with fail
        refine HSM.out.mono ?_
        rintro e w6 ⟨rfl, hb6⟩
        have HE6 := Lib.hid (HE5.out.trans (hb6.mono HE5.out.size))
        clear hb6
        by_cases hsy : c0.sec = y
        case neg =>
          have t5 : decide (c0.sec = y) = false := decide_eq_false hsy
          have HQ : Hid (R = ([], 2)) := Lib.hid (by rw [HB3.out, if_neg (fun h => hsy h.2)])
          clear hsy
          rw [t5]
          go_wp2_with fail
          go_ret2
          exact ⟨by rw [HQ.out]; rfl, HE6.out⟩
        case pos =>
          have t5 : decide (c0.sec = y) = true := decide_eq_true hsy
          have HB4 : Hid (R = if 0 < n1 ∧ id ≠ x then ([], 1) else (x, 0)) := Lib.hid (by rw [HB3.out, if_pos ⟨HPU.out, hsy⟩])
          clear hsy
          rw [t5]
          by_cases a5 : 0 < n1
          case neg =>
            have t6 : ¬ (0 : Int) < (n1 : Int) := by omega
            have HQ : Hid (R = (x, 0)) := Lib.hid (by rw [HB4.out, if_neg (fun h => a5 h.1)])
            clear a5
            go_wp2_with fail
            go_ret2
            exact ⟨by rw [HQ.out]; rfl, HE6.out⟩
          case pos =>
            have t6 : (0 : Int) < (n1 : Int) := by omega
            by_cases hix : id = x
            case pos =>
              have HQ : Hid (R = (x, 0)) := Lib.hid (by rw [HB4.out, if_neg (fun h => h.2 hix)])
              have hix1 : (id == x) = true := by simpa using hix
              have hix2 := str_eq hix1
              have hix3 : ((⟨id.toArray⟩ : ByteArray).toList != (⟨x.toArray⟩ : ByteArray).toList) = false := by rw [bne, hix2]; rfl
              clear a5 hix
              go_wp2_with fail
              go_ret2
              exact ⟨by rw [HQ.out]; rfl, HE6.out⟩
            case neg =>
              have HQ : Hid (R = ([], 1)) := Lib.hid (by rw [HB4.out, if_pos ⟨a5, hix⟩])
              have hix1 : (id == x) = false := by simpa using hix
              have hix2 := str_ne hix1
              have hix3 : ((⟨id.toArray⟩ : ByteArray).toList != (⟨x.toArray⟩ : ByteArray).toList) = true := by rw [bne, hix2]; rfl
              clear a5 hix
              go_wp2_with fail
              go_ret2
              exact ⟨by rw [HQ.out]; rfl, HE6.out⟩
  case pos =>
    subst hd
    have HB : Hid (R = byForm cs id n1 se n2) := Lib.hid (by rw [HR.out]; unfold authG; rw [if_neg (by rintro (h | h | h); exact a1 h; exact a2 h; exact h.1 rfl), if_neg (fun h => h rfl)])
    clear a1 a2
    go_enter Tryz.func9, Tryz.ntmps9
    go_wp2_with fail
    refine HG1.out.mono ?_
    rintro e w1 ⟨rfl, e1⟩
    subst e1
    go_wp2_with fail
    refine HG2.out.mono ?_
    rintro e w1 ⟨rfl, e1⟩
    subst e1
    have hb1 : Below w.heap.size w w := Below.refl _ _
    have HGT := Lib.hid (get_rr rv cs sl id w (HH.out.1.below hb1) (by have := HH.out.2.2.1; omega))
    have HGO := Lib.hid ((HH.out.1.below hb1).got id)
    have HB1 := Lib.hid hb1
    obtain ⟨c, hc⟩ : ∃ c, c = fC cs id := ⟨_, rfl⟩
    obtain ⟨v, hv⟩ : ∃ v, v = fV cs sl id := ⟨_, rfl⟩
    obtain ⟨b, hb⟩ : ∃ b, b = (find cs id).isSome := ⟨_, rfl⟩
    rw [← hc, ← hv, ← hb] at HGT
    rw [← hc, ← hv] at HGO
    obtain ⟨v0, v1, v2⟩ := v
    obtain ⟨a0, k0, e0⟩ := HGO.out.1.1.1.slice
    obtain ⟨a1', k1, e1⟩ := HGO.out.1.2.1.1.slice
    obtain ⟨a2', k2, e2⟩ := HGO.out.1.2.2.1.slice
    simp only at e0 e1 e2
    subst e0 e1 e2
    unfold av at HGT
    have HCB := Lib.hid (And.intro hc hb)
    clear hc hv hb hb1
    go_wp2_with fail
    refine HGT.out.mono ?_
    rintro e w2 ⟨rfl, hb2⟩
    have hbx : Blk (w2.alloc (.cells #[.string ⟨c.id.toArray⟩, .string ⟨c.sec.toArray⟩, .bool c.pub, .slice a0 c.red.length k0, .slice a1' c.sco.length k1, .slice a2' c.gra.length k2] 54)) w2.heap.size 54 (c6 c (.slice a0 c.red.length k0, .slice a1' c.sco.length k1, .slice a2' c.gra.length k2)) := Blk.new w2 _ _
    have HE := Lib.hid (And.intro (HB1.out.trans ((hb2.alloc hb2.size (.cells #[.string ⟨c.id.toArray⟩, .string ⟨c.sec.toArray⟩, .bool c.pub, .slice a0 c.red.length k0, .slice a1' c.sco.length k1, .slice a2' c.gra.length k2] 54)).mono HB1.out.size)) (And.intro hbx HCB.out))
    have d1 := hbx.cell 1 rfl
    have d2 := hbx.cell 2 rfl
    clear hbx hb2 HGT
    by_cases a0 : n1 = 0
    case pos =>
      have t4 : ((n1 : Int) == 0) = true := by rw [beq_iff_eq]; omega
      have HQ : Hid (R = ([], 2)) := Lib.hid (by
        rw [HB.out]; unfold byForm
        cases find cs id with
        | none => rfl
        | some c9 => exact if_pos (.inl a0))
      clear a0
      go_wp2_with fail
      go_ret2
      exact ⟨by rw [HQ.out]; rfl, HE.out.1⟩
    case neg =>
    have t4 : ((n1 : Int) == 0) = false := by rw [beq_eq_false_iff_ne]; omega
    cases hf2 : find cs id with
    | none =>
      have HQ : Hid (R = ([], 2)) := Lib.hid (by rw [HB.out]; unfold byForm; rw [hf2])
      obtain rfl : b = false := by rw [HE.out.2.2.2, hf2]; rfl
      clear hf2 a0
      go_wp2_with fail
      go_ret2
      exact ⟨by rw [HQ.out]; rfl, HE.out.1⟩
    | some c0 =>
    obtain rfl : b = true := by rw [HE.out.2.2.2, hf2]; rfl
    obtain rfl : c0 = c := by rw [HE.out.2.2.1]; unfold fC; rw [hf2]; rfl
    have HB3 : Hid (R = if n1 = 0 ∨ c0.pub ≠ decide (n2 = 0) ∨ c0.sec ≠ se then ([], 2) else (id, 0)) := Lib.hid (by rw [HB.out]; unfold byForm; rw [hf2])
    have HA0 := Lib.hid a0
    clear hf2 a0
    have t5 : ((n2 : Int) == 0) = decide (n2 = 0) := by rw [Bool.eq_iff_iff, beq_iff_eq, decide_eq_true_eq]; omega
    obtain ⟨z2, hz2⟩ : ∃ z, z = decide (n2 = 0) := ⟨_, rfl⟩
    rw [← hz2] at t5 HB3
    clear hz2
    by_cases hpz : c0.pub = z2
    case neg =>
      have t6 : (c0.pub == z2) = false := by rw [beq_eq_false_iff_ne]; exact hpz
      have t8 : (c0.pub != z2) = true := by rw [bne, t6]; rfl
      have HQ : Hid (R = ([], 2)) := Lib.hid (by rw [HB3.out, if_pos (.inr (.inl hpz))])
      clear hpz
      go_wp2_with fail
      go_ret2
      exact ⟨by rw [HQ.out]; rfl, HE.out.1⟩
    case pos =>
      have t6 : (c0.pub == z2) = true := by rw [beq_iff_eq]; exact hpz
      have t8 : (c0.pub != z2) = false := by rw [bne, t6]; rfl
      have HPZ := Lib.hid hpz
      clear hpz
      go_wp2_with (refine wpList_bytesW rfl 9 62 (.tmp 111) rfl c0.sec rfl Tryz.underlying9 5 Tryz.underlying62 Tryz.underlying5 ?_)
      intro bv1 w4 hr1 hb4
      go_wp2_with (refine wpList_bytesW rfl 9 62 (.tmp 113) rfl se rfl Tryz.underlying9 5 Tryz.underlying62 Tryz.underlying5 ?_)
      intro bv2 w5 hr2 hb5
      have HSM := Lib.hid (Oc.same_any bv1 bv2 c0.sec se w5 (hr1.below hb5) hr2 HH.out.2.2.2)
      have HE5 := Lib.hid (HE.out.1.trans ((hb4.trans (hb5.mono (by have := hb4.size; first | exact this | (simp at this ⊢; omega)))).mono (by have := HE.out.1.size; first | exact this | (simp at this ⊢; omega))))
      clear hr1 hr2 hb4 hb5
      go_wp2_with fail
      refine HSM.out.mono ?_
      rintro e w6 ⟨rfl, hb6⟩
      have HE6 := Lib.hid (HE5.out.trans (hb6.mono HE5.out.size))
      clear hb6
      by_cases hsy : c0.sec = se
      case neg =>
        have t7 : decide (c0.sec = se) = false := decide_eq_false hsy
        have HQ : Hid (R = ([], 2)) := Lib.hid (by rw [HB3.out, if_pos (.inr (.inr hsy))])
        clear hsy
        rw [t7]
        go_wp2_with fail
        go_ret2
        exact ⟨by rw [HQ.out]; rfl, HE6.out⟩
      case pos =>
        have t7 : decide (c0.sec = se) = true := decide_eq_true hsy
        have HQ : Hid (R = (id, 0)) := Lib.hid (by rw [HB3.out, if_neg (by rintro (h | h | h); exact HA0.out h; exact h HPZ.out; exact h hsy)])
        clear hsy
        rw [t7]
        go_wp2_with fail
        go_ret2
        exact ⟨by rw [HQ.out]; rfl, HE6.out⟩
end Go.Proofs.YtonbpekogfaibaaGreat.Ro
