/-
  Chapter 5, the reference's member and Print.
-/
import Derived.Test.YtffllacphfapnaaGreatDoorJi
import Derived.Test.YtffllacphfapnaaGreatDoorJf
namespace Go.Proofs.YtffllacphfapnaaGreatDoor
open Go.RowKit Js

/-- what memory holds of a member: texts and numbers within their bounds -/
def fitM (m : Mb) : Prop := m.nm.length ≤ 9223372036854775807 ∧ m.tx.length ≤ 9223372036854775807 ∧ inI m.n
def fitL (l : List Mb) : Prop := ∀ m ∈ l, fitM m
theorem fitL.inR {l : List Mb} (h : fitL l) : inR l := fun m hm => (h m hm).2.2
theorem RtOk.app {n : Nat} {z1 t1 z2 t2 x : By} (h1 : RtOk n z1 t1) (h2 : RtOk n z2 t2) : RtOk n (z1 ++ (x ++ z2)) (t1 ++ (x ++ t2)) := by
  rcases h1 with rfl | ⟨h1, h1'⟩
  · rcases h2 with rfl | ⟨h2, h2'⟩
    · exact .inl rfl
    · exact .inr ⟨by simp; omega, by simp; omega⟩
  · exact .inr ⟨by simp; omega, by simp; omega⟩
theorem itoa_len (n : Int) (h : inI n) : (Lib.itoa n).length ≤ 20 := by
  have := dd19 n.natAbs (by unfold inI at h; omega)
  rcases itoa_cases n with ⟨_, e⟩ | ⟨_, e⟩ <;> rw [e] <;> simp <;> omega

set_option maxRecDepth 20000 in
set_option maxHeartbeats 2000000 in
theorem rmember_any (m : Mb) (w : World) (hm : rt m = true) (hf : fitM m) :
    Calls Tryz.prog 40 #[mv m] w fun e w' => ∃ z, e = .returned (.string ⟨z.toArray⟩) ∧ RtOk 16384 z (mt m) ∧ z.length ≤ 40000 ∧ Below w.heap.size w w' := by
  obtain ⟨nm, kd, tx, n, b⟩ := m
  obtain ⟨hn1, hn2, hn3⟩ := hf
  have hk := rt_kinds hm
  simp only at hn1 hn2 hk
  clear hm
  show Calls Tryz.prog 40 #[.agg #[.string ⟨nm.toArray⟩, .int .i64 kd, .string ⟨tx.toArray⟩, .int .i64 n, .bool b]] w _
  rcases hk with ⟨rfl, rfl, rfl⟩ | ⟨rfl, rfl, rfl⟩ | ⟨rfl, rfl, rfl⟩
  · go_enter Tryz.func40, Tryz.ntmps40
    go_wp2_with fail
    refine (rtext_any nm _ hn1).mono ?_
    rintro e w1 ⟨z1, rfl, hz1, hl1, hb1⟩
    have hB : Blk w1 w.heap.size 50 (mc ⟨nm, 0, tx, 0, false⟩) := (Blk.new w _ (mc ⟨nm, 0, tx, 0, false⟩)).below hb1 (by simp)
    have c1 := hB.cell 1 rfl
    have c2 := hB.cell 2 rfl
    have had := st_add z1 [58] _ (by simp; omega) rfl
    have hz2 : (z1 ++ [58]).length ≤ 16401 := by simp; omega
    have HZ := Lib.hid hz1
    obtain ⟨x1, hx1⟩ : ∃ x, x = z1 ++ [58] := ⟨_, rfl⟩
    rw [← hx1] at had hz2
    have HX := Lib.hid hx1
    clear hx1 hz1
    go_wp2_with fail
    refine (rtext_any tx _ hn2).mono ?_
    rintro e w2 ⟨z2, rfl, hz3, hl3, hb2⟩
    have had2 := st_add x1 z2 _ (by omega) rfl
    have HZ3 := Lib.hid hz3
    obtain ⟨x2, hx2⟩ : ∃ x, x = x1 ++ z2 := ⟨_, rfl⟩
    rw [← hx2] at had2
    have HX2 := Lib.hid hx2
    have hl4 : x2.length ≤ 40000 := by rw [hx2]; simp; omega
    clear hx2 hz3 hl1 hl3 hz2
    go_wp2
    go_ret
    refine ⟨x2, rfl, ?_, hl4, ?_⟩
    · rw [HX2.out, HX.out, List.append_assoc]; exact RtOk.app HZ.out HZ3.out
    · exact (((Below.refl _ _).alloc (Nat.le_refl _) _).trans (hb1.mono (by simp))).trans (hb2.mono (by have := hb1.size; simp at this; omega))
  · go_enter Tryz.func40, Tryz.ntmps40
    go_wp2_with fail
    refine (rtext_any nm _ hn1).mono ?_
    rintro e w1 ⟨z1, rfl, hz1, hl1, hb1⟩
    have hB : Blk w1 w.heap.size 50 (mc ⟨nm, 1, [], n, false⟩) := (Blk.new w _ (mc ⟨nm, 1, [], n, false⟩)).below hb1 (by simp)
    have c1 := hB.cell 1 rfl
    have c2 := hB.cell 3 rfl
    have had := st_add z1 [58] _ (by simp; omega) rfl
    have hz2 : (z1 ++ [58]).length ≤ 16401 := by simp; omega
    have HZ := Lib.hid hz1
    obtain ⟨x1, hx1⟩ : ∃ x, x = z1 ++ [58] := ⟨_, rfl⟩
    rw [← hx1] at had hz2
    have HX := Lib.hid hx1
    have HL := Lib.hid (itoa_len n hn3)
    have H3 := Lib.hid hn3
    clear hx1 hz1 hn3
    go_wp2_with fail
    refine (digits_any n _ H3.out.1 H3.out.2).mono ?_
    rintro e w2 ⟨rfl, hb2⟩
    have had2 := st_add x1 (Lib.itoa n) _ (by have := HL.out; omega) rfl
    obtain ⟨x2, hx2⟩ : ∃ x, x = x1 ++ Lib.itoa n := ⟨_, rfl⟩
    rw [← hx2] at had2
    have HX2 := Lib.hid hx2
    have hl4 : x2.length ≤ 40000 := by rw [hx2]; have := HL.out; simp; omega
    clear hx2 hl1 hz2
    go_wp2
    go_ret
    refine ⟨x2, rfl, ?_, hl4, ?_⟩
    · rw [HX2.out, HX.out, List.append_assoc]; exact RtOk.app HZ.out (.inl rfl)
    · exact (((Below.refl _ _).alloc (Nat.le_refl _) _).trans (hb1.mono (by simp))).trans (hb2.mono (by have := hb1.size; simp at this; omega))
  · go_enter Tryz.func40, Tryz.ntmps40
    go_wp2_with fail
    refine (rtext_any nm _ hn1).mono ?_
    rintro e w1 ⟨z1, rfl, hz1, hl1, hb1⟩
    have hB : Blk w1 w.heap.size 50 (mc ⟨nm, 2, [], 0, b⟩) := (Blk.new w _ (mc ⟨nm, 2, [], 0, b⟩)).below hb1 (by simp)
    have c1 := hB.cell 1 rfl
    have c2 := hB.cell 4 rfl
    have had := st_add z1 [58] _ (by simp; omega) rfl
    have hz2 : (z1 ++ [58]).length ≤ 16401 := by simp; omega
    have HZ := Lib.hid hz1
    obtain ⟨x1, hx1⟩ : ∃ x, x = z1 ++ [58] := ⟨_, rfl⟩
    rw [← hx1] at had hz2
    have HX := Lib.hid hx1
    clear hx1 hz1 hl1
    cases b
    · obtain ⟨x2, hx2⟩ : ∃ x, x = x1 ++ [102, 97, 108, 115, 101] := ⟨_, rfl⟩
      have had2 := st_add x1 [102, 97, 108, 115, 101] x2 (by simp; omega) hx2
      have HX2 := Lib.hid hx2
      have hl4 : x2.length ≤ 40000 := by rw [hx2]; simp; omega
      clear hx2 hz2
      go_wp2
      go_ret
      refine ⟨x2, rfl, ?_, hl4, ?_⟩
      · rw [HX2.out, HX.out, List.append_assoc]; exact RtOk.app HZ.out (.inl rfl)
      · exact (((Below.refl _ _).alloc (Nat.le_refl _) _).trans (hb1.mono (by simp)))
    · obtain ⟨x2, hx2⟩ : ∃ x, x = x1 ++ [116, 114, 117, 101] := ⟨_, rfl⟩
      have had2 := st_add x1 [116, 114, 117, 101] x2 (by simp; omega) hx2
      have HX2 := Lib.hid hx2
      have hl4 : x2.length ≤ 40000 := by rw [hx2]; simp; omega
      clear hx2 hz2
      go_wp2
      go_ret
      refine ⟨x2, rfl, ?_, hl4, ?_⟩
      · rw [HX2.out, HX.out, List.append_assoc]; exact RtOk.app HZ.out (.inl rfl)
      · exact (((Below.refl _ _).alloc (Nat.le_refl _) _).trans (hb1.mono (by simp)))
theorem unary_not (x : Bool) (w : World) : (Op.unary .not (.bool x)).run Tryz.prog w = .ok (.bool (!x)) w := rfl
theorem hasN_take {l : List Mb} {k j : Nat} (hj : j < k) (hk : k ≤ l.length) (nm : By) (h : hasN (l.take j) nm = false) (e : (l[j].nm == nm) = false) : hasN (l.take (j + 1)) nm = false := by
  rw [List.take_succ_eq_append_getElem (by omega), hasN_snoc, h, e]; rfl
theorem hasN_hit {l : List Mb} {k j : Nat} (hj : j < k) (hk : k ≤ l.length) (nm : By) (e : (l[j].nm == nm) = true) : hasN (l.take k) nm = true := by
  rw [hasN, List.any_eq_true]
  refine ⟨l[j], ?_, e⟩
  have : (l.take k)[j]'(by simp; omega) = l[j] := by simp
  rw [← this]; exact List.getElem_mem _

set_option maxRecDepth 20000 in
set_option maxHeartbeats 2000000 in
theorem rprint_any (v : Value) (l : List Mb) (w : World) (h : RdM w v l) (hf : Hid (fitL l)) (hm : l.length ≤ 1152921504606846976) :
    Calls Tryz.prog 20 #[v] w fun e w' => e = .returned (.tuple #[.string ⟨(pr l).1.toArray⟩, .int .i64 (pr l).2]) ∧ Below w.heap.size w w' := by
  obtain ⟨a, c, rfl⟩ := h.slice
  have HR := Lib.hid h
  clear h
  have hnot := unary_not
  by_cases hlong : 64 < l.length
  · have HP := Lib.hid (pr_long hlong)
    have h2 : (64 : Int) < (l.length : Int) := by omega
    go_enter Tryz.func20, Tryz.ntmps20
    go_wp2
    go_ret2
    exact ⟨by rw [HP.out]; rfl, Below.refl _ _⟩
  have HLo := Lib.hid hlong
  have h2 : ¬ (64 : Int) < (l.length : Int) := by omega
  clear hlong
  go_enter Tryz.func20, Tryz.ntmps20
  go_wp2
  go_loopw [4] (fun i wr => ∃ k : Nat, k ≤ l.length ∧ i = .int .i64 k ∧ Hid (good (l.take k)) ∧ Below w.heap.size w wr) (fun i _ => l.length - (intOf i).toNat)
  case atStart => exact ⟨0, by omega, rfl, Lib.hid (by rw [List.take_zero]; exact good_nil), Below.refl _ _⟩
  case round =>
    obtain ⟨k, hk, rfl, HG, hb⟩ := hrel
    by_cases hkl : k < l.length
    case neg =>
      have hgood : good l := by have := HG.out; rwa [List.take_of_length_le (by omega)] at this
      have HG2 := Lib.hid hgood
      have hbx := hb
      clear hgood
      go_wp2
      clear hk hkl hb
      have hb := hbx
      clear hbx
      go_loopw [6, 7] (fun s i wr => ∃ k : Nat, k ≤ l.length ∧ i = .int .i64 k ∧ s = .string ⟨(txt (l.take k)).toArray⟩ ∧ Hid ((txt (l.take k)).length < 16384) ∧ Below w.heap.size w wr) (fun _ i _ => l.length - (intOf i).toNat)
      case atStart => exact ⟨0, by omega, rfl, rfl, Lib.hid (by rw [List.take_zero]; decide), hb⟩
      case round =>
        clear hb
        obtain ⟨k, hk, rfl, rfl, HL, hb⟩ := hrel
        by_cases hkl : k < l.length
        case neg =>
          have ht : l.take k = l := List.take_of_length_le (by omega)
          have hP := pr_ok HLo.out HG2.out (by have := HL.out; rwa [ht] at this)
          have hl1 : (txt l).length < 16384 := by have := HL.out; rwa [ht] at this
          rw [ht]
          have had := st_add (txt l) [125] _ (by simp; omega) rfl
          have HP := Lib.hid hP
          obtain ⟨x1, hx1⟩ : ∃ x, x = txt l ++ [125] := ⟨_, rfl⟩
          rw [← hx1] at had
          have HX := Lib.hid hx1
          clear hx1 hP ht hl1
          go_wp2
          go_ret2
          exact ⟨by rw [HP.out, ← HX.out]; rfl, hb⟩
        case pos =>
        obtain ⟨b, o, cap, e1, hcap, q0, q1, q2, q3, q4⟩ := mc_cells (HR.out.below hb) k hkl
        cases e1
        have hrt := Lib.hid (HG2.out k hkl).2
        have hfm := Lib.hid (hf.out l[k] (List.getElem_mem _))
        have hgr := txt_grow hkl
        have hle := txt_le (l := l) (k := k + 1) (by omega)
        obtain ⟨x, hx⟩ : ∃ x, x = l[k] := ⟨_, rfl⟩
        rw [← hx] at q0 q1 q2 q3 q4 hrt hfm hgr
        clear hx
        obtain ⟨T, hT⟩ : ∃ T, T = txt (l.take k) := ⟨_, rfl⟩
        obtain ⟨T2, hT2⟩ : ∃ T, T = txt (l.take (k + 1)) := ⟨_, rfl⟩
        rw [← hT] at hgr HL ⊢
        rw [← hT2] at hgr hle
        have hTl := HL.out
        have HT2 := Lib.hid hT2
        have HLE := Lib.hid hle
        clear hT hT2 hle
        by_cases hk0 : k = 0
        · have hgr2 : T2 = T ++ mt x := by rw [hgr]; simp [hk0]
          have HGR := Lib.hid hgr2
          have hki : ¬ (0 : Int) < (k : Int) := by omega
          clear hk0
          have hmem := fun w => rmember_any x w hrt.out hfm.out
          clear hgr hgr2 
          go_wp2_with fail
          refine (hmem _).mono ?_
          rintro e w1 ⟨z, rfl, hz, hzl, hb1⟩
          have had2 := st_add T z _ (by skip; omega) rfl
          have hb2 := hb.trans (hb1.mono hb.size)
          obtain ⟨y, hy⟩ : ∃ y, y = T ++ z := ⟨_, rfl⟩
          rw [← hy] at had2
          have hys := st_size y
          rcases hz with rfl | ⟨hz1, hz2⟩
          · have hy2 : y = T2 := by rw [hy, HGR.out]
            subst hy2
            have HY := Lib.hid hy
            clear hy hb hb1 hmem hzl q0 q1 q2 q3 q4 
            by_cases hbig : (16384 : Int) ≤ (y.length : Int)
            · have HP := Lib.hid (pr_big HLo.out HG2.out (by have := HLE.out; omega))
              go_wp2
              go_ret2
              exact ⟨by rw [HP.out]; rfl, hb2⟩
            · have hsm : Hid ((txt (l.take (k + 1))).length < 16384) := Lib.hid (by rw [← HT2.out]; omega)
              have hbig' : decide ((16384 : Int) ≤ (y.length : Int)) = false := by simpa using hbig
              go_wp2
              go_roundw
              case rel => exact ⟨k + 1, by omega, by go_num, by rw [← HT2.out], hsm, hb2⟩
              case measure => simp [intOf]; omega
          · have hbig : (16384 : Int) ≤ (y.length : Int) := by rw [hy]; simp; omega
            have HP := Lib.hid (pr_big HLo.out HG2.out (by have := HLE.out; have h3 := congrArg List.length HGR.out; rw [List.length_append] at h3; omega))
            clear hy hb hb1 hmem hzl q0 q1 q2 q3 q4 
            go_wp2
            go_ret2
            exact ⟨by rw [HP.out]; rfl, hb2⟩
        · have hki : (0 : Int) < (k : Int) := by omega
          have had := st_add T [44] _ (by simp; omega) rfl
          obtain ⟨T1, hT1⟩ : ∃ y, y = T ++ [44] := ⟨_, rfl⟩
          rw [← hT1] at had
          have hT1l : T1.length ≤ 16385 := by rw [hT1]; simp; omega
          have HT1 := Lib.hid hT1
          clear hT1
          have hgr2 : T2 = T1 ++ mt x := by rw [hgr, HT1.out]; simp [hk0]
          have HGR := Lib.hid hgr2
          have hmem := fun w => rmember_any x w hrt.out hfm.out
          clear hgr hgr2 
          go_wp2_with fail
          refine (hmem _).mono ?_
          rintro e w1 ⟨z, rfl, hz, hzl, hb1⟩
          have had2 := st_add T1 z _ (by skip; omega) rfl
          have hb2 := hb.trans (hb1.mono hb.size)
          obtain ⟨y, hy⟩ : ∃ y, y = T1 ++ z := ⟨_, rfl⟩
          rw [← hy] at had2
          have hys := st_size y
          rcases hz with rfl | ⟨hz1, hz2⟩
          · have hy2 : y = T2 := by rw [hy, HGR.out]
            subst hy2
            have HY := Lib.hid hy
            clear hy hb hb1 hmem hzl q0 q1 q2 q3 q4 
            by_cases hbig : (16384 : Int) ≤ (y.length : Int)
            · have HP := Lib.hid (pr_big HLo.out HG2.out (by have := HLE.out; omega))
              go_wp2
              go_ret2
              exact ⟨by rw [HP.out]; rfl, hb2⟩
            · have hsm : Hid ((txt (l.take (k + 1))).length < 16384) := Lib.hid (by rw [← HT2.out]; omega)
              have hbig' : decide ((16384 : Int) ≤ (y.length : Int)) = false := by simpa using hbig
              go_wp2
              go_roundw
              case rel => exact ⟨k + 1, by omega, by go_num, by rw [← HT2.out], hsm, hb2⟩
              case measure => simp [intOf]; omega
          · have hbig : (16384 : Int) ≤ (y.length : Int) := by rw [hy]; simp; omega
            have HP := Lib.hid (pr_big HLo.out HG2.out (by have := HLE.out; have h3 := congrArg List.length HGR.out; rw [List.length_append] at h3; omega))
            clear hy hb hb1 hmem hzl q0 q1 q2 q3 q4 
            go_wp2
            go_ret2
            exact ⟨by rw [HP.out]; rfl, hb2⟩
    case pos =>
    obtain ⟨b, o, cap, e1, hcap, q0, q1, q2, q3, q4⟩ := mc_cells (HR.out.below hb) k hkl
    cases e1
    cases hr : rt l[k] with
    | false =>
      have HP := Lib.hid (pr_bad HLo.out (bad_at hkl (.inr hr)))
      have hcall := fun w => form_any l[k] w
      rw [hr] at hcall
      generalize l[k] = x at q0 q1 q2 q3 q4 hcall
      clear hr
      go_wp2_with fail
      refine (hcall _).mono ?_
      rintro e w1 ⟨rfl, hb1⟩
      go_wp2
      go_ret2
      exact ⟨by rw [HP.out]; rfl, hb.trans (hb1.mono hb.size)⟩
    | true =>
      have hcall := fun w => form_any l[k] w
      rw [hr] at hcall
      have HRT := Lib.hid hr
      clear hr
      obtain ⟨nmk, hnmk⟩ : ∃ x, x = l[k] := ⟨_, rfl⟩
      have HX := Lib.hid hnmk
      rw [← hnmk] at q0 q1 q2 q3 q4 hcall
      clear hnmk
      go_wp2_with fail
      refine (hcall _).mono ?_
      rintro e w1 ⟨rfl, hb1⟩
      have hbw := hb.trans (hb1.mono hb.size)
      clear hb hb1 q0 q1 q2 q3 q4
      go_wp2
      go_loopw [5] (fun i wr => ∃ j : Nat, j ≤ k ∧ i = .int .i64 j ∧ Hid (hasN (l.take j) nmk.nm = false) ∧ Below w.heap.size w wr) (fun i _ => k - (intOf i).toNat)
      case atStart => exact ⟨0, by omega, rfl, Lib.hid (by simp [hasN]), hbw⟩
      case round =>
        clear hbw
        obtain ⟨j, hj, rfl, HN, hb⟩ := hrel
        by_cases hjk : j < k
        case neg =>
          have hN : Hid (good (l.take (k + 1))) := Lib.hid (good_grow hkl HG.out (by have := HN.out; rw [← HX.out]; rwa [show j = k from by omega] at this) HRT.out)
          go_wp2
          go_roundw
          case rel => exact ⟨k + 1, by omega, by go_num, hN, hb⟩
          case measure => simp [intOf]; omega
        case pos =>
        obtain ⟨b1, o1, cap1, e1, hcap1, p0, _, _, _, _⟩ := mc_cells (HR.out.below hb) j (by omega)
        cases e1
        obtain ⟨b2, o2, cap2, e2, hcap2, q0, _, _, _, _⟩ := mc_cells (HR.out.below hb) k hkl
        cases e2
        rw [← HX.out] at q0
        have j0 : (0 : Int) ≤ (j : Int) := by omega
        have j1 : (j : Int) < (l.length : Int) := by omega
        have k0 : (0 : Int) ≤ (k : Int) := by omega
        have k1 : (k : Int) < (l.length : Int) := by omega
        cases he : (l[j].nm == nmk.nm) with
        | false =>
          have hne := str_ne he
          have HN2 := Lib.hid (hasN_take hjk hk nmk.nm HN.out he)
          generalize l[j] = y at p0 hne he
          go_wp2
          go_quiet (fail)
          go_wp2
          go_roundw
          case rel => exact ⟨j + 1, by omega, by go_num, HN2, below_drewN hb _⟩
          case measure => simp [intOf]; omega
        | true =>
          have heq := str_eq he
          have HP := Lib.hid (pr_bad HLo.out (bad_at hkl (.inl (by rw [← HX.out]; exact hasN_hit hjk hk nmk.nm he))))
          generalize l[j] = y at p0 heq he
          go_wp2
          go_quiet (fail)
          go_wp2
          go_ret2
          exact ⟨by rw [HP.out]; rfl, below_drewN hb _⟩
end Go.Proofs.YtffllacphfapnaaGreatDoor
