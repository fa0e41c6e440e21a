/-
  Chapter 5, the reference's Parse, at every text.
-/
import Derived.Test.YtffllacphfapnaaGreatDoorJm
namespace Go.Proofs.YtffllacphfapnaaGreatDoor
open Go.RowKit Js

theorem mb_row : (Tryz.prog.info? 50).map (fun i => (i.zero, i.size, i.bytes)) = some (some (.agg #[.string ⟨#[]⟩, .int .i64 0, .string ⟨#[]⟩, .int .i64 0, .bool false]), 5, 56) := by kernel_rfl
theorem mc_one (m : Mb) : ∀ u ∈ mc m, u.oneCell' = true := by
  intro u hu; simp only [mc, List.mem_cons, List.not_mem_nil, or_false] at hu
  rcases hu with rfl | rfl | rfl | rfl | rfl <;> rfl
theorem mCells_one (l : List Mb) : ∀ u ∈ mCells l, u.oneCell' = true := by
  intro u hu; simp only [mCells, List.mem_flatMap] at hu
  obtain ⟨m, _, h⟩ := hu
  exact mc_one m u h
theorem mCells_snoc (l : List Mb) (m : Mb) : mCells (l ++ [m]) = mCells l ++ mc m := by simp [mCells]
/-- a row of members of the call's own -/
def OwnM (W : World) (B : Nat) (v : Value) (l : List Mb) : Prop := W.ownsRow B 50 5 v l.length (mCells l)
theorem OwnM.rd {W : World} {B : Nat} {v : Value} {l : List Mb} (h : OwnM W B v l) : RdM W v l := Rd.of_own h
theorem OwnM.nil (W : World) (B : Nat) : OwnM W B (.slice none 0 0) [] := World.ownsRow_nil _ _ _ _
theorem OwnM.below {W W' : World} {B : Nat} {v : Value} {l : List Mb} (h : OwnM W B v l) (hb : Below W.heap.size W W') : OwnM W' B v l := own_below h hb
theorem fitL_snoc {l : List Mb} {m : Mb} (h : fitL l) (hm : fitM m) : fitL (l ++ [m]) := by
  intro x hx
  rcases List.mem_append.1 hx with hx | hx
  · exact h x hx
  · simp at hx; subst hx; exact hm

set_option maxRecDepth 20000 in
set_option maxHeartbeats 4000000 in
theorem rparse_any (s : By) (w : World) :
    Calls Tryz.prog 22 #[.string ⟨s.toArray⟩] w fun e w' => ∃ v, e = .returned (.tuple #[v, .int .i64 (parse s).2]) ∧ OwnM w' w.heap.size v (parse s).1 ∧ Below w.heap.size w w' := by
  obtain ⟨i0, hi, hz0, hz1, hz2⟩ := info_parts mb_row
  have hss := st_size s
  by_cases hlong : 16384 < s.length
  · have HP : Hid (parse s = ([], 2)) := Lib.hid (by unfold parse; rw [if_pos hlong])
    have h2 : (16384 : Int) < (s.length : Int) := by omega
    go_enter Tryz.func22, Tryz.ntmps22
    go_wp2
    go_ret2
    exact ⟨.slice none 0 0, by rw [HP.out]; rfl, by rw [HP.out]; exact OwnM.nil _ _, Below.refl _ _⟩
  have h2 : (s.length : Int) ≤ 16384 := by omega
  have HLo := Lib.hid hlong
  clear hlong
  go_enter Tryz.func22, Tryz.ntmps22
  go_wp2
  go_loopw [4, 5] (fun v i wr => ∃ (L : List Mb) (p : Nat), i = .int .i64 (p : Int) ∧ Hid (PW s L (s.drop p)) ∧ L.length ≤ 65 ∧ Hid (fitL L) ∧ 1 ≤ p ∧ p ≤ s.length + 1 ∧ OwnM wr w.heap.size v L ∧ Below w.heap.size w wr) (fun _ i _ => s.length + 1 - (intOf i).toNat)
  case atStart => exact ⟨[], 1, rfl, Lib.hid (PW.start s), by simp, Lib.hid (fun m h => by cases h), by omega, by omega, OwnM.nil _ _, Below.refl _ _⟩
  case round =>
    obtain ⟨L, p, rfl, HW, hL, HF, hp1, hp2, hown, hb⟩ := hrel
    obtain ⟨a, c, hv⟩ := hown.rd.slice
    subst hv
    by_cases hfull : L.length ≤ 64
    case neg =>
      have HE := Lib.hid (HW.out.full (by omega))
      have hl1 : ¬ (L.length : Int) ≤ 64 := by omega
      have hin := Lib.hid (HE.out.parse HLo.out (fitL.inR HF.out))
      by_cases hpr : pr L = (s, 0)
      · have HP : Hid (parse s = (L, 0)) := Lib.hid (by rw [hin.out, if_pos hpr])
        go_wp2_with fail
        refine (rprint_any _ L _ hown.rd HF (by omega)).mono ?_
        rintro e w9 ⟨rfl, hb9⟩
        have hown9 := hown.below hb9
        have hbb9 := hb.trans (hb9.mono hb.size)
        rw [hpr]
        clear hpr hin hb9
        have hbe : (s == s) = true := beq_self_eq_true s
        go_wp2
        go_ret2
        exact ⟨_, by rw [HP.out]; rfl, by rw [HP.out]; exact hown9, hbb9⟩
      · have HP : Hid (parse s = ([], 3)) := Lib.hid (by rw [hin.out, if_neg hpr])
        go_wp2_with fail
        refine (rprint_any _ L _ hown.rd HF (by omega)).mono ?_
        rintro e w9 ⟨rfl, hb9⟩
        have hown9 := hown.below hb9
        have hbb9 := hb.trans (hb9.mono hb.size)
        generalize pr L = P at hpr
        obtain ⟨P1, P2⟩ := P
        by_cases hp0 : P2 = 0
        · subst hp0
          have hps : ¬ P1 = s := fun e => hpr (by rw [e])
          have hpb : (P1 == s) = false := by rw [beq_eq_false_iff_ne]; exact hps
          have hpc := str_ne hpb
          have hpd : (P1 != s) = true := by rw [bne, hpb]; rfl
          clear hpr hin hb9
          go_wp2
          go_ret2
          exact ⟨.slice none 0 0, by rw [HP.out]; rfl, by rw [HP.out]; exact OwnM.nil _ _, hbb9⟩
        · have hpb : (P2 == 0) = false := by rw [beq_eq_false_iff_ne]; exact hp0
          have hpd : (P2 != 0) = true := by rw [bne, hpb]; rfl
          clear hpr hin hb9
          go_wp2
          go_ret2
          exact ⟨.slice none 0 0, by rw [HP.out]; rfl, by rw [HP.out]; exact OwnM.nil _ _, hbb9⟩
    case pos =>
    have hl1 : (L.length : Int) ≤ 64 := by omega
    go_wp2_with fail
    refine (str_any s p _ (by omega) (by omega)).mono ?_
    rintro e w1 ⟨t, to, rfl, hr, htl, hb1⟩
    have hown1 := hown.below hb1
    have hbb1 := hb.trans (hb1.mono hb.size)
    clear hown hb hb1
    rcases hr.1 with rfl | ⟨n, rfl, hn1, hn2⟩
    · have HE := Lib.hid (HW.out.noname hr)
      clear hr
      have hin := Lib.hid (HE.out.parse HLo.out (fitL.inR HF.out))
      by_cases hpr : pr L = (s, 0)
      · have HP : Hid (parse s = (L, 0)) := Lib.hid (by rw [hin.out, if_pos hpr])
        go_wp2_with fail
        refine (rprint_any _ L _ hown1.rd HF (by omega)).mono ?_
        rintro e w9 ⟨rfl, hb9⟩
        have hown9 := hown1.below hb9
        have hbb9 := hbb1.trans (hb9.mono hbb1.size)
        rw [hpr]
        clear hpr hin hb9
        have hbe : (s == s) = true := beq_self_eq_true s
        go_wp2
        go_ret2
        exact ⟨_, by rw [HP.out]; rfl, by rw [HP.out]; exact hown9, hbb9⟩
      · have HP : Hid (parse s = ([], 3)) := Lib.hid (by rw [hin.out, if_neg hpr])
        go_wp2_with fail
        refine (rprint_any _ L _ hown1.rd HF (by omega)).mono ?_
        rintro e w9 ⟨rfl, hb9⟩
        have hown9 := hown1.below hb9
        have hbb9 := hbb1.trans (hb9.mono hbb1.size)
        generalize pr L = P at hpr
        obtain ⟨P1, P2⟩ := P
        by_cases hp0 : P2 = 0
        · subst hp0
          have hps : ¬ P1 = s := fun e => hpr (by rw [e])
          have hpb : (P1 == s) = false := by rw [beq_eq_false_iff_ne]; exact hps
          have hpc := str_ne hpb
          have hpd : (P1 != s) = true := by rw [bne, hpb]; rfl
          clear hpr hin hb9
          go_wp2
          go_ret2
          exact ⟨.slice none 0 0, by rw [HP.out]; rfl, by rw [HP.out]; exact OwnM.nil _ _, hbb9⟩
        · have hpb : (P2 == 0) = false := by rw [beq_eq_false_iff_ne]; exact hp0
          have hpd : (P2 != 0) = true := by rw [bne, hpb]; rfl
          clear hpr hin hb9
          go_wp2
          go_ret2
          exact ⟨.slice none 0 0, by rw [HP.out]; rfl, by rw [HP.out]; exact OwnM.nil _ _, hbb9⟩
    have HR := Lib.hid hr
    clear hr
    by_cases hnl : n < s.length
    case neg =>
      have HE := Lib.hid (HW.out.nocolon HR.out (by rw [head_no (by omega)]; simp))
      have hd1 : decide (s.length ≤ n) = true := by simp; omega
      have hin := Lib.hid (HE.out.parse HLo.out (fitL.inR HF.out))
      by_cases hpr : pr L = (s, 0)
      · have HP : Hid (parse s = (L, 0)) := Lib.hid (by rw [hin.out, if_pos hpr])
        go_wp2_with fail
        refine (rprint_any _ L _ hown1.rd HF (by omega)).mono ?_
        rintro e w9 ⟨rfl, hb9⟩
        have hown9 := hown1.below hb9
        have hbb9 := hbb1.trans (hb9.mono hbb1.size)
        rw [hpr]
        clear hpr hin hb9
        have hbe : (s == s) = true := beq_self_eq_true s
        go_wp2
        go_ret2
        exact ⟨_, by rw [HP.out]; rfl, by rw [HP.out]; exact hown9, hbb9⟩
      · have HP : Hid (parse s = ([], 3)) := Lib.hid (by rw [hin.out, if_neg hpr])
        go_wp2_with fail
        refine (rprint_any _ L _ hown1.rd HF (by omega)).mono ?_
        rintro e w9 ⟨rfl, hb9⟩
        have hown9 := hown1.below hb9
        have hbb9 := hbb1.trans (hb9.mono hbb1.size)
        generalize pr L = P at hpr
        obtain ⟨P1, P2⟩ := P
        by_cases hp0 : P2 = 0
        · subst hp0
          have hps : ¬ P1 = s := fun e => hpr (by rw [e])
          have hpb : (P1 == s) = false := by rw [beq_eq_false_iff_ne]; exact hps
          have hpc := str_ne hpb
          have hpd : (P1 != s) = true := by rw [bne, hpb]; rfl
          clear hpr hin hb9
          go_wp2
          go_ret2
          exact ⟨.slice none 0 0, by rw [HP.out]; rfl, by rw [HP.out]; exact OwnM.nil _ _, hbb9⟩
        · have hpb : (P2 == 0) = false := by rw [beq_eq_false_iff_ne]; exact hp0
          have hpd : (P2 != 0) = true := by rw [bne, hpb]; rfl
          clear hpr hin hb9
          go_wp2
          go_ret2
          exact ⟨.slice none 0 0, by rw [HP.out]; rfl, by rw [HP.out]; exact OwnM.nil _ _, hbb9⟩
    case pos =>
    have hd1 : decide (s.length ≤ n) = false := by simp; omega
    have hix := ix_str ⟨s.toArray⟩ n (by rw [hss]; exact hnl) s[n] (by rfl)
    obtain ⟨q, hq⟩ : ∃ q, q = s[n] := ⟨_, rfl⟩
    rw [← hq] at hix
    have HH := Lib.hid (head_at hnl hq.symm)
    clear hq
    by_cases h58 : q = 58
    case neg =>
      have HE := Lib.hid (HW.out.nocolon HR.out (by rw [HH.out]; simpa using h58))
      have b58 : ((q.toNat : Int) == 58) = false := by rw [beq_eq_false_iff_ne]; intro e; exact h58 (by rw [← UInt8.toNat_inj]; show q.toNat = 58; omega)
      have e58 : ((q.toNat : Int) != 58) = true := by rw [bne, b58]; rfl
      have f58 : ¬ (q.toNat : Int) = 58 := by simpa using b58
      clear h58
      have hin := Lib.hid (HE.out.parse HLo.out (fitL.inR HF.out))
      by_cases hpr : pr L = (s, 0)
      · have HP : Hid (parse s = (L, 0)) := Lib.hid (by rw [hin.out, if_pos hpr])
        go_wp2_with fail
        refine (rprint_any _ L _ hown1.rd HF (by omega)).mono ?_
        rintro e w9 ⟨rfl, hb9⟩
        have hown9 := hown1.below hb9
        have hbb9 := hbb1.trans (hb9.mono hbb1.size)
        rw [hpr]
        clear hpr hin hb9
        have hbe : (s == s) = true := beq_self_eq_true s
        go_wp2
        go_ret2
        exact ⟨_, by rw [HP.out]; rfl, by rw [HP.out]; exact hown9, hbb9⟩
      · have HP : Hid (parse s = ([], 3)) := Lib.hid (by rw [hin.out, if_neg hpr])
        go_wp2_with fail
        refine (rprint_any _ L _ hown1.rd HF (by omega)).mono ?_
        rintro e w9 ⟨rfl, hb9⟩
        have hown9 := hown1.below hb9
        have hbb9 := hbb1.trans (hb9.mono hbb1.size)
        generalize pr L = P at hpr
        obtain ⟨P1, P2⟩ := P
        by_cases hp0 : P2 = 0
        · subst hp0
          have hps : ¬ P1 = s := fun e => hpr (by rw [e])
          have hpb : (P1 == s) = false := by rw [beq_eq_false_iff_ne]; exact hps
          have hpc := str_ne hpb
          have hpd : (P1 != s) = true := by rw [bne, hpb]; rfl
          clear hpr hin hb9
          go_wp2
          go_ret2
          exact ⟨.slice none 0 0, by rw [HP.out]; rfl, by rw [HP.out]; exact OwnM.nil _ _, hbb9⟩
        · have hpb : (P2 == 0) = false := by rw [beq_eq_false_iff_ne]; exact hp0
          have hpd : (P2 != 0) = true := by rw [bne, hpb]; rfl
          clear hpr hin hb9
          go_wp2
          go_ret2
          exact ⟨.slice none 0 0, by rw [HP.out]; rfl, by rw [HP.out]; exact OwnM.nil _ _, hbb9⟩
    case pos =>
    subst h58
    have hn3 : (n : Int) + 1 = ((n + 1 : Nat) : Int) := by omega
    have hval := fun w => value_any t s (n + 1) w (by omega) (by omega) (by omega)
    simp only [← hn3] at hval
    clear hn3
    go_wp2_with fail
    refine (hval _).mono ?_
    rintro e w2 ⟨m, k, rfl, hvr, hfm, hb2⟩
    have hown2 := hown1.below hb2
    have hbb2 := hbb1.trans (hb2.mono hbb1.size)
    clear hown1 hbb1 hb2 hval
    unfold mv
    have hbs2 := hbb2.size
    rcases hvr.2.1 with rfl | ⟨k, rfl, hk1, hk2⟩
    · have HE := Lib.hid (HW.out.noval HR.out hvr)
      have hown3 : OwnM (w2.alloc (.cells (mc m).toArray 50)) w.heap.size (.slice a L.length c) L := World.ownsRow.alloc hown2 _
      have hbb3 := hbb2.alloc hbs2 (.cells (mc m).toArray 50)
      clear hvr hown2 hbb2
      have hin := Lib.hid (HE.out.parse HLo.out (fitL.inR HF.out))
      by_cases hpr : pr L = (s, 0)
      · have HP : Hid (parse s = (L, 0)) := Lib.hid (by rw [hin.out, if_pos hpr])
        go_wp2_with fail
        refine (rprint_any _ L _ hown3.rd HF (by omega)).mono ?_
        rintro e w9 ⟨rfl, hb9⟩
        have hown9 := hown3.below hb9
        have hbb9 := hbb3.trans (hb9.mono hbb3.size)
        rw [hpr]
        clear hpr hin hb9
        have hbe : (s == s) = true := beq_self_eq_true s
        go_wp2
        go_ret2
        exact ⟨_, by rw [HP.out]; rfl, by rw [HP.out]; exact hown9, hbb9⟩
      · have HP : Hid (parse s = ([], 3)) := Lib.hid (by rw [hin.out, if_neg hpr])
        go_wp2_with fail
        refine (rprint_any _ L _ hown3.rd HF (by omega)).mono ?_
        rintro e w9 ⟨rfl, hb9⟩
        have hown9 := hown3.below hb9
        have hbb9 := hbb3.trans (hb9.mono hbb3.size)
        generalize pr L = P at hpr
        obtain ⟨P1, P2⟩ := P
        by_cases hp0 : P2 = 0
        · subst hp0
          have hps : ¬ P1 = s := fun e => hpr (by rw [e])
          have hpb : (P1 == s) = false := by rw [beq_eq_false_iff_ne]; exact hps
          have hpc := str_ne hpb
          have hpd : (P1 != s) = true := by rw [bne, hpb]; rfl
          clear hpr hin hb9
          go_wp2
          go_ret2
          exact ⟨.slice none 0 0, by rw [HP.out]; rfl, by rw [HP.out]; exact OwnM.nil _ _, hbb9⟩
        · have hpb : (P2 == 0) = false := by rw [beq_eq_false_iff_ne]; exact hp0
          have hpd : (P2 != 0) = true := by rw [bne, hpb]; rfl
          clear hpr hin hb9
          go_wp2
          go_ret2
          exact ⟨.slice none 0 0, by rw [HP.out]; rfl, by rw [HP.out]; exact OwnM.nil _ _, hbb9⟩
    have HV := Lib.hid hvr
    have HF2 := Lib.hid (fitL_snoc HF.out hfm)
    clear hvr hfm
    go_wp2_with (at_builtin; go_loud (refine wpList_append_own _ rfl _ _ 46 rfl w.heap.size 50 i0 (.agg #[.string ⟨#[]⟩, .int .i64 0, .string ⟨#[]⟩, .int .i64 0, .bool false]) 5 56 Tryz.underlying46 hi hz0 hz1 hz2 rfl (by decide) _ _ _ rfl (World.ownsRow.alloc (World.ownsRow.alloc hown2 _) _) ⟨w2.heap.size + 1, 0, none⟩ 1 1 (mc m) rfl rfl (cells_at _ _ _ _ (by simp)) (mc_one m) ?c3 ?c4 ?c5 ?_))
    case c3 => unfold maxLen; omega
    case c4 => omega
    case c5 => simp; omega
    intro v' w3 hown' hgrow hv0
    have hn := below_app (hbb2.alloc hbs2 _) (by simp; omega) hgrow (fun r hr => (World.ownsRow.lt hown2 r hr).1)
    have hown3 : OwnM w3 w.heap.size v' (L ++ [m]) := own_cast hown' (by simp) (by rw [mCells_snoc])
    clear hown' hgrow hv0 hown2 hbb2 hbs2
    have hL2 : (L ++ [m]).length ≤ 65 := by simp; omega
    by_cases hkl : k < s.length
    case neg =>
      have HE := Lib.hid (HW.out.last HR.out HV.out (by rw [head_no (by omega)]; simp) HH.out)
      have hd2 : decide (s.length ≤ k) = true := by simp; omega
      generalize (L ++ [m]) = L2 at HE HF2 hL2 hown3
      obtain ⟨a2, c2, hv2⟩ := hown3.rd.slice
      subst hv2
      have hin := Lib.hid (HE.out.parse HLo.out (fitL.inR HF2.out))
      by_cases hpr : pr L2 = (s, 0)
      · have HP : Hid (parse s = (L2, 0)) := Lib.hid (by rw [hin.out, if_pos hpr])
        go_wp2_with fail
        refine (rprint_any _ L2 _ hown3.rd HF2 (by omega)).mono ?_
        rintro e w9 ⟨rfl, hb9⟩
        have hown9 := hown3.below hb9
        have hbb9 := hn.trans (hb9.mono hn.size)
        rw [hpr]
        clear hpr hin hb9
        have hbe : (s == s) = true := beq_self_eq_true s
        go_wp2
        go_ret2
        exact ⟨_, by rw [HP.out]; rfl, by rw [HP.out]; exact hown9, hbb9⟩
      · have HP : Hid (parse s = ([], 3)) := Lib.hid (by rw [hin.out, if_neg hpr])
        go_wp2_with fail
        refine (rprint_any _ L2 _ hown3.rd HF2 (by omega)).mono ?_
        rintro e w9 ⟨rfl, hb9⟩
        have hown9 := hown3.below hb9
        have hbb9 := hn.trans (hb9.mono hn.size)
        generalize pr L2 = P at hpr
        obtain ⟨P1, P2⟩ := P
        by_cases hp0 : P2 = 0
        · subst hp0
          have hps : ¬ P1 = s := fun e => hpr (by rw [e])
          have hpb : (P1 == s) = false := by rw [beq_eq_false_iff_ne]; exact hps
          have hpc := str_ne hpb
          have hpd : (P1 != s) = true := by rw [bne, hpb]; rfl
          clear hpr hin hb9
          go_wp2
          go_ret2
          exact ⟨.slice none 0 0, by rw [HP.out]; rfl, by rw [HP.out]; exact OwnM.nil _ _, hbb9⟩
        · have hpb : (P2 == 0) = false := by rw [beq_eq_false_iff_ne]; exact hp0
          have hpd : (P2 != 0) = true := by rw [bne, hpb]; rfl
          clear hpr hin hb9
          go_wp2
          go_ret2
          exact ⟨.slice none 0 0, by rw [HP.out]; rfl, by rw [HP.out]; exact OwnM.nil _ _, hbb9⟩
    case pos =>
    have hd2 : decide (s.length ≤ k) = false := by simp; omega
    have hixk := ix_str ⟨s.toArray⟩ k (by rw [hss]; exact hkl) s[k] (by rfl)
    obtain ⟨q2, hq2⟩ : ∃ q, q = s[k] := ⟨_, rfl⟩
    rw [← hq2] at hixk
    have HH2 := Lib.hid (head_at hkl hq2.symm)
    clear hq2
    by_cases h44 : q2 = 44
    case neg =>
      have HE := Lib.hid (HW.out.last HR.out HV.out (by rw [HH2.out]; simpa using h44) HH.out)
      have b44 : ((q2.toNat : Int) == 44) = false := by rw [beq_eq_false_iff_ne]; intro e; exact h44 (by rw [← UInt8.toNat_inj]; show q2.toNat = 44; omega)
      have e44 : ((q2.toNat : Int) != 44) = true := by rw [bne, b44]; rfl
      have f44 : ¬ (q2.toNat : Int) = 44 := by simpa using b44
      clear h44
      generalize (L ++ [m]) = L2 at HE HF2 hL2 hown3
      obtain ⟨a2, c2, hv2⟩ := hown3.rd.slice
      subst hv2
      have hin := Lib.hid (HE.out.parse HLo.out (fitL.inR HF2.out))
      by_cases hpr : pr L2 = (s, 0)
      · have HP : Hid (parse s = (L2, 0)) := Lib.hid (by rw [hin.out, if_pos hpr])
        go_wp2_with fail
        refine (rprint_any _ L2 _ hown3.rd HF2 (by omega)).mono ?_
        rintro e w9 ⟨rfl, hb9⟩
        have hown9 := hown3.below hb9
        have hbb9 := hn.trans (hb9.mono hn.size)
        rw [hpr]
        clear hpr hin hb9
        have hbe : (s == s) = true := beq_self_eq_true s
        go_wp2
        go_ret2
        exact ⟨_, by rw [HP.out]; rfl, by rw [HP.out]; exact hown9, hbb9⟩
      · have HP : Hid (parse s = ([], 3)) := Lib.hid (by rw [hin.out, if_neg hpr])
        go_wp2_with fail
        refine (rprint_any _ L2 _ hown3.rd HF2 (by omega)).mono ?_
        rintro e w9 ⟨rfl, hb9⟩
        have hown9 := hown3.below hb9
        have hbb9 := hn.trans (hb9.mono hn.size)
        generalize pr L2 = P at hpr
        obtain ⟨P1, P2⟩ := P
        by_cases hp0 : P2 = 0
        · subst hp0
          have hps : ¬ P1 = s := fun e => hpr (by rw [e])
          have hpb : (P1 == s) = false := by rw [beq_eq_false_iff_ne]; exact hps
          have hpc := str_ne hpb
          have hpd : (P1 != s) = true := by rw [bne, hpb]; rfl
          clear hpr hin hb9
          go_wp2
          go_ret2
          exact ⟨.slice none 0 0, by rw [HP.out]; rfl, by rw [HP.out]; exact OwnM.nil _ _, hbb9⟩
        · have hpb : (P2 == 0) = false := by rw [beq_eq_false_iff_ne]; exact hp0
          have hpd : (P2 != 0) = true := by rw [bne, hpb]; rfl
          clear hpr hin hb9
          go_wp2
          go_ret2
          exact ⟨.slice none 0 0, by rw [HP.out]; rfl, by rw [HP.out]; exact OwnM.nil _ _, hbb9⟩
    case pos =>
    subst h44
    have HW2 := Lib.hid (HW.out.more HR.out HV.out HH2.out HH.out)
    clear hix
    go_wp2
    go_roundw
    case rel => exact ⟨L ++ [m], k + 1, by go_num, HW2, hL2, HF2, by omega, by omega, hown3, hn⟩
    case measure => simp [intOf]; omega
end Go.Proofs.YtffllacphfapnaaGreatDoor
