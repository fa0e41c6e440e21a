/-
  RollFinds: the law's walk.
-/
import Derived.Test.YtonbpekogfaibaaOv
import Derived.IntWalk
namespace Go.Proofs.Ytonbpekogfaibaa.Ro
open Go.RowKit Go.Maps Go.Sort
set_option linter.unusedVariables false
set_option linter.unusedSimpArgs false
set_option maxRecDepth 100000

theorem ids_nodup {l : List Cl} (h : AllP l) : (l.map Cl.id).Nodup := by
  rw [List.Nodup, List.pairwise_iff_getElem]
  intro i j hi' hj hij he0
  have he : (l.map Cl.id)[i]? = (l.map Cl.id)[j]? := by rw [List.getElem?_eq_getElem hi', List.getElem?_eq_getElem hj, he0]
  rw [List.getElem?_map, List.getElem?_map] at he
  have hjl : j < l.length := by simpa using hj
  have hil : i < l.length := by omega
  rw [List.getElem?_eq_getElem hil, List.getElem?_eq_getElem hjl] at he
  simp only [Option.map_some, Option.some.injEq] at he
  have h2 := (h.2 j l[j] (List.getElem?_eq_getElem hjl)).2
  rw [find, List.find?_eq_none] at h2
  refine h2 l[i] ?_ (by simpa using he)
  rw [List.mem_iff_getElem?]
  exact ⟨i, by rw [List.getElem?_take_of_lt hij]; exact List.getElem?_eq_getElem hil⟩
theorem ids_len (l : List Cl) : (idsOf l).length = l.length := by
  unfold idsOf
  rw [List.length_mergeSort, List.length_map]
theorem ids_lt {l : List Cl} (h : AllP l) {i : Nat} {a b : By} (ha : (idsOf l)[i]? = some a) (hb : (idsOf l)[i + 1]? = some b) : a < b := by
  have hs : (idsOf l).Pairwise (fun x y => x ≤ y) := sorted_le _
  have hn : (idsOf l).Nodup := (List.mergeSort_perm (l.map Cl.id) _).nodup_iff.2 (ids_nodup h)
  obtain ⟨hi, ha⟩ := List.getElem?_eq_some_iff.1 ha
  obtain ⟨hi2, hb⟩ := List.getElem?_eq_some_iff.1 hb
  have h1 := List.pairwise_iff_getElem.1 hs i (i + 1) hi hi2 (by omega)
  have h2 := List.pairwise_iff_getElem.1 hn i (i + 1) hi hi2 (by omega)
  rw [ha, hb] at h1 h2
  rcases Classical.em (a < b) with h | h
  · exact h
  · exact absurd (List.le_antisymm h1 (List.not_lt.1 h)) h2
theorem ids_mem {l : List Cl} {i : Nat} {a : By} (ha : (idsOf l)[i]? = some a) : ∃ c, find l a = some c ∧ c.id = a := by
  have hm : a ∈ l.map Cl.id := (List.mergeSort_perm (l.map Cl.id) _).mem_iff.1 (List.mem_of_getElem? ha)
  have h1 := find_mem.1 hm
  obtain ⟨c, hc⟩ := Option.isSome_iff_exists.1 h1
  exact ⟨c, hc, (find_name hc).2⟩
set_option maxHeartbeats 8000000 in
theorem finds_walk (v : Value) (l : List Cl) (vs : Nat → V3) (x : By) (w : World) (h : CsAt w v l vs) (hl : l.length ≤ 4611686018427387904) (hx : x.length ≤ 9223372036854775807) :
    Calls Try.prog 3 #[v, .string ⟨x.toArray⟩] w fun e w' => e = .returned (.bool true) ∧ Below w.heap.size w w' := by
  obtain ⟨v', hfw, hfe⟩ := few_any v l vs w h hl
  have HFE := Lib.hid hfe
  have hll : (fewL l).length ≤ 70 := by unfold fewL; rw [List.length_take]; omega
  clear hfe h hl
  generalize fewL l = L at *
  obtain ⟨a, c, rfl⟩ := hfw.shp
  have HN := Lib.hid (new_any _ L vs w hfw (by omega))
  have HL := Lib.hid hfw
  clear hfw
  go_enter Try.func3, Try.ntmps3
  go_wp2_with fail
  refine HFE.out.mono ?_
  rintro e w1 ⟨rfl, e1⟩
  subst e1
  go_wp2_with fail
  refine HN.out.mono ?_
  rintro e w1 ⟨(⟨hno, rfl⟩ | ⟨q, m, sl, hyes, rfl, hro, hq⟩), hb1⟩
  · have HNO := Lib.hid hno
    have HB1 := Lib.hid hb1
    clear hno hb1
    go_wp2_with fail
    refine (known_any w1).mono ?_
    rintro e w2 ⟨rfl, hb2⟩
    have HB2 := Lib.hid (HB1.out.trans (hb2.mono HB1.out.size))
    clear hb2
    have HA := Lib.hid (rall_any _ L vs w2 (HL.out.below HB2.out) (by omega))
    go_wp2_with fail
    refine HA.out.mono ?_
    rintro e w3 ⟨b, rfl, hb, hb3⟩
    obtain rfl : b = false := by
      cases b with
      | false => rfl
      | true => exact absurd (hb.1 rfl) HNO.out
    have HB3 := Lib.hid (HB2.out.trans (hb3.mono HB2.out.size))
    clear hb3 hb
    go_wp2_with fail
    refine (known_any w3).mono ?_
    rintro e w4 ⟨rfl, hb4⟩
    have HB4 := Lib.hid (HB3.out.trans (hb4.mono HB3.out.size))
    clear hb4
    go_wp2_with fail
    go_ret
    exact ⟨rfl, HB4.out⟩
  · have HYES := Lib.hid hyes
    have HB1 := Lib.hid hb1
    have HRO := Lib.hid hro
    clear hyes hb1 hro hq
    go_wp2_with fail
    refine (known_any w1).mono ?_
    rintro e w2 ⟨rfl, hb2⟩
    have HB2 := Lib.hid (HB1.out.trans (hb2.mono HB1.out.size))
    have HRO2 := Lib.hid (HRO.out.below hb2)
    clear hb2
    have HA := Lib.hid (rall_any _ L vs w2 (HL.out.below HB2.out) (by omega))
    go_wp2_with fail
    refine HA.out.mono ?_
    rintro e w3 ⟨b, rfl, hb, hb3⟩
    obtain rfl : b = true := hb.2 HYES.out
    have HB3 := Lib.hid (HB2.out.trans (hb3.mono HB2.out.size))
    have HRO3 := Lib.hid (HRO2.out.below hb3)
    clear hb3 hb
    have HF := Lib.hid (find_any _ L sl x w3 HRO3.out.rr hx)
    go_wp2_with fail
    refine HF.out.mono ?_
    rintro e w4 ⟨u0, u1, u2, rfl, how, hb4⟩
    obtain ⟨ca, cc, e0⟩ := (Rd.of_own how.r).slice
    obtain ⟨cb, cd, e1⟩ := (Rd.of_own how.s).slice
    obtain ⟨ce, cf, e2⟩ := (Rd.of_own how.g).slice
    simp only at e0 e1 e2
    subst e0 e1 e2
    have hgot := HRO3.out.rr.got x
    have hrc := how.rdc hgot.1
    have hb4' := HB3.out.trans (hb4.mono HB3.out.size)
    have HG := Lib.hid (And.intro hrc hgot.2)
    obtain ⟨C, hC⟩ : ∃ C, C = fC L x := ⟨_, rfl⟩
    obtain ⟨bF, hbF⟩ : ∃ bF, bF = (find L x).isSome := ⟨_, rfl⟩
    rw [← hC] at HG
    rw [← hC, ← hbF]
    have hbA : Below w4.heap.size w4 (w4.alloc (.cells #[.string ⟨C.id.toArray⟩, .string ⟨C.sec.toArray⟩, .bool C.pub, .slice ca C.red.length cc, .slice cb C.sco.length cd, .slice ce C.gra.length cf] 32)) := (Below.refl _ _).alloc (Nat.le_refl _) _
    have HB4 := Lib.hid (hb4'.trans (hbA.mono hb4'.size))
    have HRO4 := Lib.hid ((HRO3.out.below hb4).below hbA)
    have HBC := Lib.hid (show Blk (w4.alloc (.cells #[.string ⟨C.id.toArray⟩, .string ⟨C.sec.toArray⟩, .bool C.pub, .slice ca C.red.length cc, .slice cb C.sco.length cd, .slice ce C.gra.length cf] 32)) w4.heap.size 32 (c6 C (.slice ca C.red.length cc, .slice cb C.sco.length cd, .slice ce C.gra.length cf)) from Blk.new w4 _ _)
    have HG4 := Lib.hid (HG.out.1.below hbA)
    have HRF := Lib.hid (rfind_any _ L vs x (w4.alloc (.cells #[.string ⟨C.id.toArray⟩, .string ⟨C.sec.toArray⟩, .bool C.pub, .slice ca C.red.length cc, .slice cb C.sco.length cd, .slice ce C.gra.length cf] 32)) (HL.out.below HB4.out) (by omega))
    rw [← hC, ← hbF] at HRF
    clear how hb4 hb4' hgot hrc hC hbF hbA
    unfold av
    go_wp2_with fail
    refine HRF.out.mono ?_
    rintro e w5 ⟨t0, t1, t2, rfl, hrd5, hb5⟩
    obtain ⟨da, dc, e0⟩ := hrd5.1.1.slice
    obtain ⟨db, dd, e1⟩ := hrd5.2.1.1.slice
    obtain ⟨de, df, e2⟩ := hrd5.2.2.1.slice
    simp only at e0 e1 e2
    subst e0 e1 e2
    have hb5' := HB4.out.trans (hb5.mono HB4.out.size)
    have hbA : Below w5.heap.size w5 (w5.alloc (.cells #[.string ⟨C.id.toArray⟩, .string ⟨C.sec.toArray⟩, .bool C.pub, .slice da C.red.length dc, .slice db C.sco.length dd, .slice de C.gra.length df] 32)) := (Below.refl _ _).alloc (Nat.le_refl _) _
    have HB5 := Lib.hid (hb5'.trans (hbA.mono hb5'.size))
    have HRO5 := Lib.hid ((HRO4.out.below hb5).below hbA)
    have HBD := Lib.hid (show Blk (w5.alloc (.cells #[.string ⟨C.id.toArray⟩, .string ⟨C.sec.toArray⟩, .bool C.pub, .slice da C.red.length dc, .slice db C.sco.length dd, .slice de C.gra.length df] 32)) w5.heap.size 32 (c6 C (.slice da C.red.length dc, .slice db C.sco.length dd, .slice de C.gra.length df)) from Blk.new w5 _ _)
    have HBC5 := Lib.hid ((HBC.out.below hb5 HBC.out.lt).alloc (.cells #[.string ⟨C.id.toArray⟩, .string ⟨C.sec.toArray⟩, .bool C.pub, .slice da C.red.length dc, .slice db C.sco.length dd, .slice de C.gra.length df] 32))
    have HCC := Lib.hid (And.intro ((HG4.out.below hb5).below hbA) (hrd5.below hbA))
    have HID := Lib.hid (ids_any q m L sl _ HRO5.out (ids_nodup HYES.out) (by omega))
    clear hb5 hb5' hrd5 hbA
    unfold av
    go_wp2_with fail
    refine HID.out.mono ?_
    rintro e w6 ⟨iv, rfl, hio, hb6⟩
    obtain ⟨ia, ic, e0⟩ := (Rd.of_own hio).slice
    subst e0
    have HB6 := Lib.hid (HB5.out.trans (hb6.mono HB5.out.size))
    have hir := hio.rd (fun y hy => by
      obtain ⟨i, hi⟩ := List.getElem?_of_mem hy
      obtain ⟨c9, hc9, rfl⟩ := ids_mem hi
      have := (HL.out.idl c9 (find_name hc9).1).1
      omega)
    have HIR := Lib.hid hir
    have HB56 := Lib.hid hb6
    have hsm := rsame_any C C _ _ w6 (HCC.out.1.below hb6) (HCC.out.2.below hb6) (by have := HG.out.2.1; omega) (by have := HG.out.2.2.1; omega) (by have := HG.out.2.2.2; omega)
    rw [(sameC_iff C C).2 rfl] at hsm
    unfold av at hsm
    have HSM := Lib.hid hsm
    have hkc := HBC5.out.below hb6 HBC5.out.lt
    have hkd := HBD.out.below hb6 HBD.out.lt
    have c0 := hkc.cell 0 rfl
    have c1 := hkc.cell 1 rfl
    have c2 := hkc.cell 2 rfl
    have c3 := hkc.cell 3 rfl
    have c4 := hkc.cell 4 rfl
    have c5 := hkc.cell 5 rfl
    have d0 := hkd.cell 0 rfl
    have d1 := hkd.cell 1 rfl
    have d2 := hkd.cell 2 rfl
    have d3 := hkd.cell 3 rfl
    have d4 := hkd.cell 4 rfl
    have d5 := hkd.cell 5 rfl
    have hilen := ids_len L
    obtain ⟨I, hI⟩ : ∃ I, I = idsOf L := ⟨_, rfl⟩
    have HI := Lib.hid hI
    rw [← hI] at hilen HIR
    rw [← hI, hilen]
    rw [hilen] at HIR
    have HILEN := Lib.hid hilen
    clear hb6 hio hir hsm hilen hI hkc hkd
    go_wp2_with fail
    refine HSM.out.mono ?_
    rintro e w7 ⟨rfl, hb7⟩
    have HB7 := Lib.hid (HB6.out.trans (hb7.mono HB6.out.size))
    have HIR7 := Lib.hid (HIR.out.below hb7)
    have HB67 := Lib.hid hb7
    clear hb7 c0 c1 c2 c3 c4 c5 d0 d1 d2 d3 d4 d5
    go_wp2_with fail
    go_loopw [4, 12] (fun r i wr => ∃ k : Nat, k ≤ L.length ∧ r = .bool false ∧ i = .int .i64 (k : Int) ∧ Below w.heap.size w wr ∧ RO wr q m L sl ∧ RdS wr (.slice ia L.length ic) I) (fun _ i _ => L.length - (intOf i).toNat)
    case atStart => exact ⟨0, Nat.zero_le _, rfl, rfl, HB7.out, (HRO5.out.below HB56.out).below HB67.out, HIR7.out⟩
    case round =>
      obtain ⟨k, hk, rfl, rfl, hb, hro, hir⟩ := hrel
      have HBR := Lib.hid hb
      have HROR := Lib.hid hro
      have HIRR := Lib.hid hir
      clear hb hro hir
      by_cases hkn : k < L.length
      case neg =>
        have g1 : ¬ (k : Int) < (L.length : Int) := by omega
        go_wp2_with fail
        go_ret
        exact ⟨rfl, HBR.out⟩
      case pos =>
        have g1 : (k : Int) < (L.length : Int) := by omega
        obtain ⟨y, hy⟩ : ∃ y, I[k]? = some y := ⟨_, List.getElem?_eq_getElem (by have := HILEN.out; omega)⟩
        obtain ⟨bi, oi, ci, e9, hci, hcc⟩ := HIRR.out.1.pos (by have := HILEN.out; omega)
        obtain ⟨rfl, -, rfl⟩ : ia = some ⟨bi, oi, none⟩ ∧ L.length = I.length ∧ ic = ci := by simpa using e9
        clear e9
        have q1 : wr.cell? ⟨bi, oi + k, none⟩ = some (.string ⟨y.toArray⟩) := hcc k (sv y) (by rw [List.getElem?_map, hy]; rfl)
        have hfy : ∃ c9, find L y = some c9 ∧ c9.id = y := ids_mem (l := L) (i := k) (by rw [← HI.out]; exact hy)
        obtain ⟨c9, hc9, hid9⟩ := hfy
        have HYL := Lib.hid (show y.length ≤ 9223372036854775807 by have := (HL.out.idl c9 (find_name hc9).1).1; rw [hid9] at this; omega)
        have HF9 := rfind_any _ L vs y wr (HL.out.below HBR.out) (by omega)
        have hfc : fC L y = c9 := by unfold fC; rw [hc9]; rfl
        have hfs : (find L y).isSome = true := by rw [hc9]; rfl
        rw [hfc, hfs] at HF9
        have HF := Lib.hid HF9
        have HID9 := Lib.hid hid9
        have HY := Lib.hid hy
        have HCC := Lib.hid hcc
        clear HF9 hfc hfs hc9 hid9 hy hci hcc
        go_wp2_with fail
        refine HF.out.mono ?_
        rintro e w8 ⟨t0, t1, t2, rfl, hrd8, hb8⟩
        obtain ⟨fa, fb, e0⟩ := hrd8.1.1.slice
        obtain ⟨fc, fd, e1⟩ := hrd8.2.1.1.slice
        obtain ⟨fe, ff, e2⟩ := hrd8.2.2.1.slice
        simp only at e0 e1 e2
        subst e0 e1 e2
        have hbA : Below w8.heap.size w8 (w8.alloc (.cells #[.string ⟨c9.id.toArray⟩, .string ⟨c9.sec.toArray⟩, .bool c9.pub, .slice fa c9.red.length fb, .slice fc c9.sco.length fd, .slice fe c9.gra.length ff] 32)) := (Below.refl _ _).alloc (Nat.le_refl _) _
        have hb8' := HBR.out.trans (hb8.mono HBR.out.size)
        have HB9 := Lib.hid (hb8'.trans (hbA.mono hb8'.size))
        have HRO9 := Lib.hid ((HROR.out.below hb8).below hbA)
        have HIR9 := Lib.hid ((HIRR.out.below hb8).below hbA)
        have hx9 : Blk (w8.alloc (.cells #[.string ⟨c9.id.toArray⟩, .string ⟨c9.sec.toArray⟩, .bool c9.pub, .slice fa c9.red.length fb, .slice fc c9.sco.length fd, .slice fe c9.gra.length ff] 32)) w8.heap.size 32 (c6 c9 (.slice fa c9.red.length fb, .slice fc c9.sco.length fd, .slice fe c9.gra.length ff)) := Blk.new w8 _ _
        have x0 : Go.World.cell? (w8.alloc (.cells #[.string ⟨c9.id.toArray⟩, .string ⟨c9.sec.toArray⟩, .bool c9.pub, .slice fa c9.red.length fb, .slice fc c9.sco.length fd, .slice fe c9.gra.length ff] 32)) ⟨w8.heap.size, 0, none⟩ = some (.string ⟨y.toArray⟩) := hx9.cell 0 (v := .string ⟨y.toArray⟩) (by show some (Value.string ⟨c9.id.toArray⟩) = _; rw [HID9.out])
        have q1 : Go.World.cell? (w8.alloc (.cells #[.string ⟨c9.id.toArray⟩, .string ⟨c9.sec.toArray⟩, .bool c9.pub, .slice fa c9.red.length fb, .slice fc c9.sco.length fd, .slice fe c9.gra.length ff] 32)) ⟨bi, oi + k, none⟩ = some (.string ⟨y.toArray⟩) := cellAt_of (by have h := HIR9.out.1; rw [HILEN.out] at h; exact h) k HY.out
        have HCE := Lib.hid hx9
        have hyy : (y == y) = true := by simp
        clear hrd8 hb8 hbA hb8' hx9 HF
        unfold av
        rcases Nat.eq_zero_or_pos k with hk0 | hkp
        · have t5 : ¬ (0 : Int) < (k : Int) := by omega
          have t5n : ¬ 0 < k := by omega
          clear hk0
          go_wp2_with fail
          refine wp_region_U (S := (fun W => W.cell? ⟨w8.heap.size, 0, none⟩ = some (.string ⟨y.toArray⟩) ∧ W.cell? ⟨bi, oi + k, none⟩ = some (.string ⟨y.toArray⟩) ∧ Below w.heap.size w W ∧ RO W q m L sl ∧ RdS W (.slice (some ⟨bi, oi, none⟩) L.length ic) I)) (by kernel_rfl) ?_ ?_
          · exact ⟨x0, q1, HB9.out.drew, HRO9.out.below (Below.refl _ _).drew, HIR9.out.drewN 1⟩
          refine wpU_take (i := 0) (oi := ?oi1) (v := ?v1) ?hi1 (by kernel_rfl) (by kernel_rfl) (by kernel_rfl) ?hy1 ?rest1
          case hi1 => (simp only [List.getElem?_toArray, List.getElem?_cons_succ, List.getElem?_cons_zero]; rfl)
          case hy1 => (refine Or.inl ⟨by rfl, ?_⟩; intro W hSw; obtain ⟨hs1, hs2, hs3, hs4, hs5⟩ := hSw; go_simp; (try with_reducible rfl))
          try simp only [Act.put, List.setIfInBounds_toArray, List.set_cons_zero, List.set_cons_succ]
          refine wpU_take (i := 1) (oi := ?oi2) (v := ?v2) ?hi2 (by kernel_rfl) (by kernel_rfl) (by kernel_rfl) ?hy2 ?rest2
          case hi2 => (simp only [List.getElem?_toArray, List.getElem?_cons_succ, List.getElem?_cons_zero]; rfl)
          case hy2 => (refine Or.inl ⟨by rfl, ?_⟩; intro W hSw; obtain ⟨hs1, hs2, hs3, hs4, hs5⟩ := hSw; go_simp; (try with_reducible rfl))
          try simp only [Act.put, List.setIfInBounds_toArray, List.set_cons_zero, List.set_cons_succ]
          refine wpU_take (i := 2) (oi := ?oi3) (v := ?v3) ?hi3 (by kernel_rfl) (by kernel_rfl) (by kernel_rfl) ?hy3 ?rest3
          case hi3 => (simp only [List.getElem?_toArray, List.getElem?_cons_succ, List.getElem?_cons_zero]; rfl)
          case hy3 => (refine Or.inl ⟨by rfl, ?_⟩; intro W hSw; obtain ⟨hs1, hs2, hs3, hs4, hs5⟩ := hSw; go_simp; (try with_reducible rfl))
          try simp only [Act.put, List.setIfInBounds_toArray, List.set_cons_zero, List.set_cons_succ]
          refine wpU_take (i := 3) (oi := ?oi4) (v := ?v4) ?hi4 (by kernel_rfl) (by kernel_rfl) (by kernel_rfl) ?hy4 ?rest4
          case hi4 => (simp only [List.getElem?_toArray, List.getElem?_cons_succ, List.getElem?_cons_zero]; rfl)
          case hy4 => (refine Or.inl ⟨by rfl, ?_⟩; intro W hSw; obtain ⟨hs1, hs2, hs3, hs4, hs5⟩ := hSw; go_simp; (try with_reducible rfl))
          try simp only [Act.put, List.setIfInBounds_toArray, List.set_cons_zero, List.set_cons_succ]
          refine wpU_take (i := 4) (oi := ?oi5) (v := ?v5) ?hi5 (by kernel_rfl) (by kernel_rfl) (by kernel_rfl) ?hy5 ?rest5
          case hi5 => (simp only [List.getElem?_toArray, List.getElem?_cons_succ, List.getElem?_cons_zero]; rfl)
          case hy5 => (refine Or.inl ⟨by rfl, ?_⟩; intro W hSw; obtain ⟨hs1, hs2, hs3, hs4, hs5⟩ := hSw; go_simp; (try with_reducible rfl))
          try simp only [Act.put, List.setIfInBounds_toArray, List.set_cons_zero, List.set_cons_succ]
          refine wpU_take (i := 5) (oi := ?oi6) (v := ?v6) ?hi6 (by kernel_rfl) (by kernel_rfl) (by kernel_rfl) ?hy6 ?rest6
          case hi6 => (simp only [List.getElem?_toArray, List.getElem?_cons_succ, List.getElem?_cons_zero]; rfl)
          case hy6 => (refine Or.inl ⟨by rfl, ?_⟩; intro W hSw; obtain ⟨hs1, hs2, hs3, hs4, hs5⟩ := hSw; go_simp; (try with_reducible rfl))
          try simp only [Act.put, List.setIfInBounds_toArray, List.set_cons_zero, List.set_cons_succ]
          refine wpU_take (i := 6) (oi := ?oi7) (v := ?v7) ?hi7 (by kernel_rfl) (by kernel_rfl) (by kernel_rfl) ?hy7 ?rest7
          case hi7 => (simp only [List.getElem?_toArray, List.getElem?_cons_succ, List.getElem?_cons_zero]; rfl)
          case hy7 => (refine Or.inl ⟨by rfl, ?_⟩; intro W hSw; obtain ⟨hs1, hs2, hs3, hs4, hs5⟩ := hSw; go_simp; (try with_reducible rfl))
          try simp only [Act.put, List.setIfInBounds_toArray, List.set_cons_zero, List.set_cons_succ]
          refine wpU_take (i := 7) (oi := ?oi8) (v := ?v8) ?hi8 (by kernel_rfl) (by kernel_rfl) (by kernel_rfl) ?hy8 ?rest8
          case hi8 => (simp only [List.getElem?_toArray, List.getElem?_cons_succ, List.getElem?_cons_zero]; rfl)
          case hy8 => (refine Or.inl ⟨by rfl, ?_⟩; intro W hSw; obtain ⟨hs1, hs2, hs3, hs4, hs5⟩ := hSw; go_simp; (try with_reducible rfl))
          try simp only [Act.put, List.setIfInBounds_toArray, List.set_cons_zero, List.set_cons_succ]
          refine wpU_take (i := 8) (oi := ?oi9) (v := ?v9) ?hi9 (by kernel_rfl) (by kernel_rfl) (by kernel_rfl) ?hy9 ?rest9
          case hi9 => (simp only [List.getElem?_toArray, List.getElem?_cons_succ, List.getElem?_cons_zero]; rfl)
          case hy9 => (refine Or.inl ⟨by rfl, ?_⟩; intro W hSw; obtain ⟨hs1, hs2, hs3, hs4, hs5⟩ := hSw; go_simp; (try with_reducible rfl))
          try simp only [Act.put, List.setIfInBounds_toArray, List.set_cons_zero, List.set_cons_succ]
          refine wpU_take (i := 9) (oi := ?oi10) (v := ?v10) ?hi10 (by kernel_rfl) (by kernel_rfl) (by kernel_rfl) ?hy10 ?rest10
          case hi10 => (simp only [List.getElem?_toArray, List.getElem?_cons_succ, List.getElem?_cons_zero]; rfl)
          case hy10 => (refine Or.inl ⟨by rfl, ?_⟩; intro W hSw; obtain ⟨hs1, hs2, hs3, hs4, hs5⟩ := hSw; go_simp; (try with_reducible rfl))
          try simp only [Act.put, List.setIfInBounds_toArray, List.set_cons_zero, List.set_cons_succ]
          refine wpU_take (i := 10) (oi := ?oi11) (v := ?v11) ?hi11 (by kernel_rfl) (by kernel_rfl) (by kernel_rfl) ?hy11 ?rest11
          case hi11 => (simp only [List.getElem?_toArray, List.getElem?_cons_succ, List.getElem?_cons_zero]; rfl)
          case hy11 => (refine Or.inl ⟨by rfl, ?_⟩; intro W hSw; obtain ⟨hs1, hs2, hs3, hs4, hs5⟩ := hSw; go_simp; (try with_reducible rfl))
          try simp only [Act.put, List.setIfInBounds_toArray, List.set_cons_zero, List.set_cons_succ]
          refine wpU_take (i := 11) (oi := ?oi12) (v := ?v12) ?hi12 (by kernel_rfl) (by kernel_rfl) (by kernel_rfl) ?hy12 ?rest12
          case hi12 => (simp only [List.getElem?_toArray, List.getElem?_cons_succ, List.getElem?_cons_zero]; rfl)
          case hy12 => (refine Or.inl ⟨by rfl, ?_⟩; intro W hSw; obtain ⟨hs1, hs2, hs3, hs4, hs5⟩ := hSw; go_simp; (try with_reducible rfl))
          try simp only [Act.put, List.setIfInBounds_toArray, List.set_cons_zero, List.set_cons_succ]
          refine wpU_take (i := 12) (oi := ?oi13) (v := ?v13) ?hi13 (by kernel_rfl) (by kernel_rfl) (by kernel_rfl) ?hy13 ?rest13
          case hi13 => (simp only [List.getElem?_toArray, List.getElem?_cons_succ, List.getElem?_cons_zero]; rfl)
          case hy13 => (refine Or.inl ⟨by rfl, ?_⟩; intro W hSw; obtain ⟨hs1, hs2, hs3, hs4, hs5⟩ := hSw; go_simp; (try with_reducible rfl))
          try simp only [Act.put, List.setIfInBounds_toArray, List.set_cons_zero, List.set_cons_succ]
          refine wpU_take (i := 13) (oi := ?oi14) (v := ?v14) ?hi14 (by kernel_rfl) (by kernel_rfl) (by kernel_rfl) ?hy14 ?rest14
          case hi14 => (simp only [List.getElem?_toArray, List.getElem?_cons_succ, List.getElem?_cons_zero]; rfl)
          case hy14 => (refine Or.inl ⟨by rfl, ?_⟩; intro W hSw; obtain ⟨hs1, hs2, hs3, hs4, hs5⟩ := hSw; go_simp; (try with_reducible rfl))
          try simp only [Act.put, List.setIfInBounds_toArray, List.set_cons_zero, List.set_cons_succ]
          refine wpU_take (i := 14) (oi := ?oi15) (v := ?v15) ?hi15 (by kernel_rfl) (by kernel_rfl) (by kernel_rfl) ?hy15 ?rest15
          case hi15 => (simp only [List.getElem?_toArray, List.getElem?_cons_succ, List.getElem?_cons_zero]; rfl)
          case hy15 => (refine Or.inl ⟨by rfl, ?_⟩; intro W hSw; obtain ⟨hs1, hs2, hs3, hs4, hs5⟩ := hSw; go_simp; (try with_reducible rfl))
          try simp only [Act.put, List.setIfInBounds_toArray, List.set_cons_zero, List.set_cons_succ]
          refine wpU_take (i := 15) (oi := ?oi16) (v := undef) ?hi16 (by kernel_rfl) (by kernel_rfl) (by kernel_rfl) ?hy16 ?rest16
          case hi16 => (simp only [List.getElem?_toArray, List.getElem?_cons_succ, List.getElem?_cons_zero]; rfl)
          case hy16 => exact Or.inr (Or.inl ⟨by rfl, rfl⟩)
          try simp only [Act.put, List.setIfInBounds_toArray, List.set_cons_zero, List.set_cons_succ]
          refine wpU_take (i := 16) (oi := ?oi17) (v := undef) ?hi17 (by kernel_rfl) (by kernel_rfl) (by kernel_rfl) ?hy17 ?rest17
          case hi17 => (simp only [List.getElem?_toArray, List.getElem?_cons_succ, List.getElem?_cons_zero]; rfl)
          case hy17 => exact Or.inr (Or.inl ⟨by rfl, rfl⟩)
          try simp only [Act.put, List.setIfInBounds_toArray, List.set_cons_zero, List.set_cons_succ]
          refine wpU_take (i := 17) (oi := ?oi18) (v := undef) ?hi18 (by kernel_rfl) (by kernel_rfl) (by kernel_rfl) ?hy18 ?rest18
          case hi18 => (simp only [List.getElem?_toArray, List.getElem?_cons_succ, List.getElem?_cons_zero]; rfl)
          case hy18 => exact Or.inr (Or.inl ⟨by rfl, rfl⟩)
          try simp only [Act.put, List.setIfInBounds_toArray, List.set_cons_zero, List.set_cons_succ]
          refine wpU_take (i := 18) (oi := ?oi19) (v := undef) ?hi19 (by kernel_rfl) (by kernel_rfl) (by kernel_rfl) ?hy19 ?rest19
          case hi19 => (simp only [List.getElem?_toArray, List.getElem?_cons_succ, List.getElem?_cons_zero]; rfl)
          case hy19 => exact Or.inr (Or.inl ⟨by rfl, rfl⟩)
          try simp only [Act.put, List.setIfInBounds_toArray, List.set_cons_zero, List.set_cons_succ]
          refine wpU_take (i := 19) (oi := ?oi20) (v := undef) ?hi20 (by kernel_rfl) (by kernel_rfl) (by kernel_rfl) ?hy20 ?rest20
          case hi20 => (simp only [List.getElem?_toArray, List.getElem?_cons_succ, List.getElem?_cons_zero]; rfl)
          case hy20 => exact Or.inr (Or.inl ⟨by rfl, rfl⟩)
          try simp only [Act.put, List.setIfInBounds_toArray, List.set_cons_zero, List.set_cons_succ]
          refine wpU_take (i := 20) (oi := ?oi21) (v := undef) ?hi21 (by kernel_rfl) (by kernel_rfl) (by kernel_rfl) ?hy21 ?rest21
          case hi21 => (simp only [List.getElem?_toArray, List.getElem?_cons_succ, List.getElem?_cons_zero]; rfl)
          case hy21 => exact Or.inr (Or.inl ⟨by rfl, rfl⟩)
          try simp only [Act.put, List.setIfInBounds_toArray, List.set_cons_zero, List.set_cons_succ]
          refine wpU_take (i := 21) (oi := ?oi22) (v := undef) ?hi22 (by kernel_rfl) (by kernel_rfl) (by kernel_rfl) ?hy22 ?rest22
          case hi22 => (simp only [List.getElem?_toArray, List.getElem?_cons_succ, List.getElem?_cons_zero]; rfl)
          case hy22 => exact Or.inr (Or.inl ⟨by rfl, rfl⟩)
          try simp only [Act.put, List.setIfInBounds_toArray, List.set_cons_zero, List.set_cons_succ]
          refine wpU_take (i := 22) (oi := ?oi23) (v := undef) ?hi23 (by kernel_rfl) (by kernel_rfl) (by kernel_rfl) ?hy23 ?rest23
          case hi23 => (simp only [List.getElem?_toArray, List.getElem?_cons_succ, List.getElem?_cons_zero]; rfl)
          case hy23 => exact Or.inr (Or.inl ⟨by rfl, rfl⟩)
          try simp only [Act.put, List.setIfInBounds_toArray, List.set_cons_zero, List.set_cons_succ]
          refine wpU_take (i := 23) (oi := ?oi24) (v := undef) ?hi24 (by kernel_rfl) (by kernel_rfl) (by kernel_rfl) ?hy24 ?rest24
          case hi24 => (simp only [List.getElem?_toArray, List.getElem?_cons_succ, List.getElem?_cons_zero]; rfl)
          case hy24 => exact Or.inr (Or.inl ⟨by rfl, rfl⟩)
          try simp only [Act.put, List.setIfInBounds_toArray, List.set_cons_zero, List.set_cons_succ]
          refine wpU_take (i := 24) (oi := ?oi25) (v := undef) ?hi25 (by kernel_rfl) (by kernel_rfl) (by kernel_rfl) ?hy25 ?rest25
          case hi25 => (simp only [List.getElem?_toArray, List.getElem?_cons_succ, List.getElem?_cons_zero]; rfl)
          case hy25 => exact Or.inr (Or.inl ⟨by rfl, rfl⟩)
          try simp only [Act.put, List.setIfInBounds_toArray, List.set_cons_zero, List.set_cons_succ]
          refine wpU_take (i := 25) (oi := ?oi26) (v := ?v26) ?hi26 (by kernel_rfl) (by kernel_rfl) (by kernel_rfl) ?hy26 ?rest26
          case hi26 => (simp only [List.getElem?_toArray, List.getElem?_cons_succ, List.getElem?_cons_zero]; rfl)
          case hy26 => (refine Or.inl ⟨by rfl, ?_⟩; intro W hSw; obtain ⟨hs1, hs2, hs3, hs4, hs5⟩ := hSw; go_simp; (try with_reducible rfl))
          try simp only [Act.put, List.setIfInBounds_toArray, List.set_cons_zero, List.set_cons_succ]
          refine wpU_take (i := 26) (oi := ?oi27) (v := ?v27) ?hi27 (by kernel_rfl) (by kernel_rfl) (by kernel_rfl) ?hy27 ?rest27
          case hi27 => (simp only [List.getElem?_toArray, List.getElem?_cons_succ, List.getElem?_cons_zero]; rfl)
          case hy27 => (refine Or.inl ⟨by rfl, ?_⟩; intro W hSw; obtain ⟨hs1, hs2, hs3, hs4, hs5⟩ := hSw; go_simp; (try with_reducible rfl))
          try simp only [Act.put, List.setIfInBounds_toArray, List.set_cons_zero, List.set_cons_succ]
          refine wpU_done (by kernel_rfl) ?_ _
          intro W1 hSw
          have HE := Lib.hid (hSw.2.2)
          clear hSw x0 q1
          go_wp2_with fail
          go_roundw
          case rel => exact ⟨k + 1, by omega, rfl, by go_num, HE.out⟩
          case measure => simp [intOf]; omega
        · have t5 : (0 : Int) < (k : Int) := by omega
          have t5n : 0 < k := hkp
          obtain ⟨j, hj⟩ : ∃ j, j + 1 = k := ⟨k - 1, by omega⟩
          obtain ⟨P, hP⟩ : ∃ P, I[j]? = some P := ⟨_, List.getElem?_eq_getElem (by have := HILEN.out; omega)⟩
          have hkj : (k : Int) - 1 = (j : Int) := by omega
          have hwj : IntKind.i64.wrap (j : Int) = (j : Int) := IntWalk.i64_in _ (by omega)
          have hjL : (j : Int) < (L.length : Int) := by omega
          have hjI : j < I.length := by have := HILEN.out; omega
          have hjI2 : (j : Int) < (I.length : Int) := by omega
          have hlt : P < y := ids_lt (l := L) (i := j) HYES.out (by rw [← HI.out]; exact hP) (by rw [← HI.out, hj]; exact HY.out)
          have hl1 : Op.bytesLess y P = false := by
            rw [less_eq]
            exact decide_eq_false (fun h => List.lt_irrefl y (List.lt_trans h hlt))
          have hl2 : Op.bytesLess P y = true := by rw [less_eq]; exact decide_eq_true hlt
          have hgp : ¬ y = P := fun e => by rw [e] at hlt; exact List.lt_irrefl _ hlt
          have hgp2 : (y == P) = false := by simpa using hgp
          have hgp3 : (P == y) = false := by rw [beq_eq_false_iff_ne]; exact fun e => hgp e.symm
          have q2 : Go.World.cell? (w8.alloc (.cells #[.string ⟨c9.id.toArray⟩, .string ⟨c9.sec.toArray⟩, .bool c9.pub, .slice fa c9.red.length fb, .slice fc c9.sco.length fd, .slice fe c9.gra.length ff] 32)) ⟨bi, oi + j, none⟩ = some (.string ⟨P.toArray⟩) := cellAt_of (by have h := HIR9.out.1; rw [HILEN.out] at h; exact h) j hP
          clear hlt hP hj
          go_wp2_with fail
          refine wp_region_U (S := (fun W => W.cell? ⟨w8.heap.size, 0, none⟩ = some (.string ⟨y.toArray⟩) ∧ W.cell? ⟨bi, oi + k, none⟩ = some (.string ⟨y.toArray⟩) ∧ W.cell? ⟨bi, oi + j, none⟩ = some (.string ⟨P.toArray⟩) ∧ Below w.heap.size w W ∧ RO W q m L sl ∧ RdS W (.slice (some ⟨bi, oi, none⟩) L.length ic) I)) (by kernel_rfl) ?_ ?_
          · exact ⟨x0, q1, q2, HB9.out.drew, HRO9.out.below (Below.refl _ _).drew, HIR9.out.drewN 1⟩
          refine wpU_take (i := 0) (oi := ?oi28) (v := ?v28) ?hi28 (by kernel_rfl) (by kernel_rfl) (by kernel_rfl) ?hy28 ?rest28
          case hi28 => (simp only [List.getElem?_toArray, List.getElem?_cons_succ, List.getElem?_cons_zero]; rfl)
          case hy28 => (refine Or.inl ⟨by rfl, ?_⟩; intro W hSw; obtain ⟨hs1, hs2, hs6, hs3, hs4, hs5⟩ := hSw; go_simp; (try with_reducible rfl))
          try simp only [Act.put, List.setIfInBounds_toArray, List.set_cons_zero, List.set_cons_succ]
          refine wpU_take (i := 1) (oi := ?oi29) (v := ?v29) ?hi29 (by kernel_rfl) (by kernel_rfl) (by kernel_rfl) ?hy29 ?rest29
          case hi29 => (simp only [List.getElem?_toArray, List.getElem?_cons_succ, List.getElem?_cons_zero]; rfl)
          case hy29 => (refine Or.inl ⟨by rfl, ?_⟩; intro W hSw; obtain ⟨hs1, hs2, hs6, hs3, hs4, hs5⟩ := hSw; go_simp; (try with_reducible rfl))
          try simp only [Act.put, List.setIfInBounds_toArray, List.set_cons_zero, List.set_cons_succ]
          refine wpU_take (i := 2) (oi := ?oi30) (v := ?v30) ?hi30 (by kernel_rfl) (by kernel_rfl) (by kernel_rfl) ?hy30 ?rest30
          case hi30 => (simp only [List.getElem?_toArray, List.getElem?_cons_succ, List.getElem?_cons_zero]; rfl)
          case hy30 => (refine Or.inl ⟨by rfl, ?_⟩; intro W hSw; obtain ⟨hs1, hs2, hs6, hs3, hs4, hs5⟩ := hSw; go_simp; (try with_reducible rfl))
          try simp only [Act.put, List.setIfInBounds_toArray, List.set_cons_zero, List.set_cons_succ]
          refine wpU_take (i := 3) (oi := ?oi31) (v := ?v31) ?hi31 (by kernel_rfl) (by kernel_rfl) (by kernel_rfl) ?hy31 ?rest31
          case hi31 => (simp only [List.getElem?_toArray, List.getElem?_cons_succ, List.getElem?_cons_zero]; rfl)
          case hy31 => (refine Or.inl ⟨by rfl, ?_⟩; intro W hSw; obtain ⟨hs1, hs2, hs6, hs3, hs4, hs5⟩ := hSw; go_simp; (try with_reducible rfl))
          try simp only [Act.put, List.setIfInBounds_toArray, List.set_cons_zero, List.set_cons_succ]
          refine wpU_take (i := 4) (oi := ?oi32) (v := ?v32) ?hi32 (by kernel_rfl) (by kernel_rfl) (by kernel_rfl) ?hy32 ?rest32
          case hi32 => (simp only [List.getElem?_toArray, List.getElem?_cons_succ, List.getElem?_cons_zero]; rfl)
          case hy32 => (refine Or.inl ⟨by rfl, ?_⟩; intro W hSw; obtain ⟨hs1, hs2, hs6, hs3, hs4, hs5⟩ := hSw; go_simp; (try with_reducible rfl))
          try simp only [Act.put, List.setIfInBounds_toArray, List.set_cons_zero, List.set_cons_succ]
          refine wpU_take (i := 5) (oi := ?oi33) (v := ?v33) ?hi33 (by kernel_rfl) (by kernel_rfl) (by kernel_rfl) ?hy33 ?rest33
          case hi33 => (simp only [List.getElem?_toArray, List.getElem?_cons_succ, List.getElem?_cons_zero]; rfl)
          case hy33 => (refine Or.inl ⟨by rfl, ?_⟩; intro W hSw; obtain ⟨hs1, hs2, hs6, hs3, hs4, hs5⟩ := hSw; go_simp; (try with_reducible rfl))
          try simp only [Act.put, List.setIfInBounds_toArray, List.set_cons_zero, List.set_cons_succ]
          refine wpU_take (i := 6) (oi := ?oi34) (v := ?v34) ?hi34 (by kernel_rfl) (by kernel_rfl) (by kernel_rfl) ?hy34 ?rest34
          case hi34 => (simp only [List.getElem?_toArray, List.getElem?_cons_succ, List.getElem?_cons_zero]; rfl)
          case hy34 => (refine Or.inl ⟨by rfl, ?_⟩; intro W hSw; obtain ⟨hs1, hs2, hs6, hs3, hs4, hs5⟩ := hSw; go_simp; (try with_reducible rfl))
          try simp only [Act.put, List.setIfInBounds_toArray, List.set_cons_zero, List.set_cons_succ]
          refine wpU_take (i := 7) (oi := ?oi35) (v := ?v35) ?hi35 (by kernel_rfl) (by kernel_rfl) (by kernel_rfl) ?hy35 ?rest35
          case hi35 => (simp only [List.getElem?_toArray, List.getElem?_cons_succ, List.getElem?_cons_zero]; rfl)
          case hy35 => (refine Or.inl ⟨by rfl, ?_⟩; intro W hSw; obtain ⟨hs1, hs2, hs6, hs3, hs4, hs5⟩ := hSw; go_simp; (try with_reducible rfl))
          try simp only [Act.put, List.setIfInBounds_toArray, List.set_cons_zero, List.set_cons_succ]
          refine wpU_take (i := 8) (oi := ?oi36) (v := ?v36) ?hi36 (by kernel_rfl) (by kernel_rfl) (by kernel_rfl) ?hy36 ?rest36
          case hi36 => (simp only [List.getElem?_toArray, List.getElem?_cons_succ, List.getElem?_cons_zero]; rfl)
          case hy36 => (refine Or.inl ⟨by rfl, ?_⟩; intro W hSw; obtain ⟨hs1, hs2, hs6, hs3, hs4, hs5⟩ := hSw; go_simp; (try with_reducible rfl))
          try simp only [Act.put, List.setIfInBounds_toArray, List.set_cons_zero, List.set_cons_succ]
          refine wpU_take (i := 9) (oi := ?oi37) (v := ?v37) ?hi37 (by kernel_rfl) (by kernel_rfl) (by kernel_rfl) ?hy37 ?rest37
          case hi37 => (simp only [List.getElem?_toArray, List.getElem?_cons_succ, List.getElem?_cons_zero]; rfl)
          case hy37 => (refine Or.inl ⟨by rfl, ?_⟩; intro W hSw; obtain ⟨hs1, hs2, hs6, hs3, hs4, hs5⟩ := hSw; go_simp; (try with_reducible rfl))
          try simp only [Act.put, List.setIfInBounds_toArray, List.set_cons_zero, List.set_cons_succ]
          refine wpU_take (i := 10) (oi := ?oi38) (v := ?v38) ?hi38 (by kernel_rfl) (by kernel_rfl) (by kernel_rfl) ?hy38 ?rest38
          case hi38 => (simp only [List.getElem?_toArray, List.getElem?_cons_succ, List.getElem?_cons_zero]; rfl)
          case hy38 => (refine Or.inl ⟨by rfl, ?_⟩; intro W hSw; obtain ⟨hs1, hs2, hs6, hs3, hs4, hs5⟩ := hSw; go_simp; (try with_reducible rfl))
          try simp only [Act.put, List.setIfInBounds_toArray, List.set_cons_zero, List.set_cons_succ]
          refine wpU_take (i := 11) (oi := ?oi39) (v := ?v39) ?hi39 (by kernel_rfl) (by kernel_rfl) (by kernel_rfl) ?hy39 ?rest39
          case hi39 => (simp only [List.getElem?_toArray, List.getElem?_cons_succ, List.getElem?_cons_zero]; rfl)
          case hy39 => (refine Or.inl ⟨by rfl, ?_⟩; intro W hSw; obtain ⟨hs1, hs2, hs6, hs3, hs4, hs5⟩ := hSw; go_simp; (try with_reducible rfl))
          try simp only [Act.put, List.setIfInBounds_toArray, List.set_cons_zero, List.set_cons_succ]
          refine wpU_take (i := 12) (oi := ?oi40) (v := ?v40) ?hi40 (by kernel_rfl) (by kernel_rfl) (by kernel_rfl) ?hy40 ?rest40
          case hi40 => (simp only [List.getElem?_toArray, List.getElem?_cons_succ, List.getElem?_cons_zero]; rfl)
          case hy40 => (refine Or.inl ⟨by rfl, ?_⟩; intro W hSw; obtain ⟨hs1, hs2, hs6, hs3, hs4, hs5⟩ := hSw; go_simp; (try with_reducible rfl))
          try simp only [Act.put, List.setIfInBounds_toArray, List.set_cons_zero, List.set_cons_succ]
          refine wpU_take (i := 13) (oi := ?oi41) (v := ?v41) ?hi41 (by kernel_rfl) (by kernel_rfl) (by kernel_rfl) ?hy41 ?rest41
          case hi41 => (simp only [List.getElem?_toArray, List.getElem?_cons_succ, List.getElem?_cons_zero]; rfl)
          case hy41 => (refine Or.inl ⟨by rfl, ?_⟩; intro W hSw; obtain ⟨hs1, hs2, hs6, hs3, hs4, hs5⟩ := hSw; go_simp; (try with_reducible rfl))
          try simp only [Act.put, List.setIfInBounds_toArray, List.set_cons_zero, List.set_cons_succ]
          refine wpU_take (i := 14) (oi := ?oi42) (v := ?v42) ?hi42 (by kernel_rfl) (by kernel_rfl) (by kernel_rfl) ?hy42 ?rest42
          case hi42 => (simp only [List.getElem?_toArray, List.getElem?_cons_succ, List.getElem?_cons_zero]; rfl)
          case hy42 => (refine Or.inl ⟨by rfl, ?_⟩; intro W hSw; obtain ⟨hs1, hs2, hs6, hs3, hs4, hs5⟩ := hSw; go_simp; (try with_reducible rfl))
          try simp only [Act.put, List.setIfInBounds_toArray, List.set_cons_zero, List.set_cons_succ]
          refine wpU_take (i := 15) (oi := ?oi43) (v := ?v43) ?hi43 (by kernel_rfl) (by kernel_rfl) (by kernel_rfl) ?hy43 ?rest43
          case hi43 => (simp only [List.getElem?_toArray, List.getElem?_cons_succ, List.getElem?_cons_zero]; rfl)
          case hy43 => (refine Or.inl ⟨by rfl, ?_⟩; intro W hSw; obtain ⟨hs1, hs2, hs6, hs3, hs4, hs5⟩ := hSw; go_simp; (try with_reducible rfl))
          try simp only [Act.put, List.setIfInBounds_toArray, List.set_cons_zero, List.set_cons_succ]
          refine wpU_take (i := 16) (oi := ?oi44) (v := ?v44) ?hi44 (by kernel_rfl) (by kernel_rfl) (by kernel_rfl) ?hy44 ?rest44
          case hi44 => (simp only [List.getElem?_toArray, List.getElem?_cons_succ, List.getElem?_cons_zero]; rfl)
          case hy44 => (refine Or.inl ⟨by rfl, ?_⟩; intro W hSw; obtain ⟨hs1, hs2, hs6, hs3, hs4, hs5⟩ := hSw; go_simp; (try with_reducible rfl))
          try simp only [Act.put, List.setIfInBounds_toArray, List.set_cons_zero, List.set_cons_succ]
          refine wpU_take (i := 17) (oi := ?oi45) (v := ?v45) ?hi45 (by kernel_rfl) (by kernel_rfl) (by kernel_rfl) ?hy45 ?rest45
          case hi45 => (simp only [List.getElem?_toArray, List.getElem?_cons_succ, List.getElem?_cons_zero]; rfl)
          case hy45 => (refine Or.inl ⟨by rfl, ?_⟩; intro W hSw; obtain ⟨hs1, hs2, hs6, hs3, hs4, hs5⟩ := hSw; go_simp; (try with_reducible rfl))
          try simp only [Act.put, List.setIfInBounds_toArray, List.set_cons_zero, List.set_cons_succ]
          refine wpU_take (i := 18) (oi := ?oi46) (v := ?v46) ?hi46 (by kernel_rfl) (by kernel_rfl) (by kernel_rfl) ?hy46 ?rest46
          case hi46 => (simp only [List.getElem?_toArray, List.getElem?_cons_succ, List.getElem?_cons_zero]; rfl)
          case hy46 => (refine Or.inl ⟨by rfl, ?_⟩; intro W hSw; obtain ⟨hs1, hs2, hs6, hs3, hs4, hs5⟩ := hSw; go_simp; (try with_reducible rfl))
          try simp only [Act.put, List.setIfInBounds_toArray, List.set_cons_zero, List.set_cons_succ]
          refine wpU_take (i := 19) (oi := ?oi47) (v := ?v47) ?hi47 (by kernel_rfl) (by kernel_rfl) (by kernel_rfl) ?hy47 ?rest47
          case hi47 => (simp only [List.getElem?_toArray, List.getElem?_cons_succ, List.getElem?_cons_zero]; rfl)
          case hy47 => (refine Or.inl ⟨by rfl, ?_⟩; intro W hSw; obtain ⟨hs1, hs2, hs6, hs3, hs4, hs5⟩ := hSw; go_simp; (try with_reducible rfl))
          try simp only [Act.put, List.setIfInBounds_toArray, List.set_cons_zero, List.set_cons_succ]
          refine wpU_take (i := 20) (oi := ?oi48) (v := ?v48) ?hi48 (by kernel_rfl) (by kernel_rfl) (by kernel_rfl) ?hy48 ?rest48
          case hi48 => (simp only [List.getElem?_toArray, List.getElem?_cons_succ, List.getElem?_cons_zero]; rfl)
          case hy48 => (refine Or.inl ⟨by rfl, ?_⟩; intro W hSw; obtain ⟨hs1, hs2, hs6, hs3, hs4, hs5⟩ := hSw; go_simp; (try with_reducible rfl))
          try simp only [Act.put, List.setIfInBounds_toArray, List.set_cons_zero, List.set_cons_succ]
          refine wpU_take (i := 21) (oi := ?oi49) (v := ?v49) ?hi49 (by kernel_rfl) (by kernel_rfl) (by kernel_rfl) ?hy49 ?rest49
          case hi49 => (simp only [List.getElem?_toArray, List.getElem?_cons_succ, List.getElem?_cons_zero]; rfl)
          case hy49 => (refine Or.inl ⟨by rfl, ?_⟩; intro W hSw; obtain ⟨hs1, hs2, hs6, hs3, hs4, hs5⟩ := hSw; go_simp; (try with_reducible rfl))
          try simp only [Act.put, List.setIfInBounds_toArray, List.set_cons_zero, List.set_cons_succ]
          refine wpU_take (i := 22) (oi := ?oi50) (v := ?v50) ?hi50 (by kernel_rfl) (by kernel_rfl) (by kernel_rfl) ?hy50 ?rest50
          case hi50 => (simp only [List.getElem?_toArray, List.getElem?_cons_succ, List.getElem?_cons_zero]; rfl)
          case hy50 => (refine Or.inl ⟨by rfl, ?_⟩; intro W hSw; obtain ⟨hs1, hs2, hs6, hs3, hs4, hs5⟩ := hSw; go_simp; (try with_reducible rfl))
          try simp only [Act.put, List.setIfInBounds_toArray, List.set_cons_zero, List.set_cons_succ]
          refine wpU_take (i := 23) (oi := ?oi51) (v := ?v51) ?hi51 (by kernel_rfl) (by kernel_rfl) (by kernel_rfl) ?hy51 ?rest51
          case hi51 => (simp only [List.getElem?_toArray, List.getElem?_cons_succ, List.getElem?_cons_zero]; rfl)
          case hy51 => (refine Or.inl ⟨by rfl, ?_⟩; intro W hSw; obtain ⟨hs1, hs2, hs6, hs3, hs4, hs5⟩ := hSw; go_simp; (try with_reducible rfl))
          try simp only [Act.put, List.setIfInBounds_toArray, List.set_cons_zero, List.set_cons_succ]
          refine wpU_take (i := 24) (oi := ?oi52) (v := ?v52) ?hi52 (by kernel_rfl) (by kernel_rfl) (by kernel_rfl) ?hy52 ?rest52
          case hi52 => (simp only [List.getElem?_toArray, List.getElem?_cons_succ, List.getElem?_cons_zero]; rfl)
          case hy52 => (refine Or.inl ⟨by rfl, ?_⟩; intro W hSw; obtain ⟨hs1, hs2, hs6, hs3, hs4, hs5⟩ := hSw; go_simp; (try with_reducible rfl))
          try simp only [Act.put, List.setIfInBounds_toArray, List.set_cons_zero, List.set_cons_succ]
          refine wpU_take (i := 25) (oi := ?oi53) (v := ?v53) ?hi53 (by kernel_rfl) (by kernel_rfl) (by kernel_rfl) ?hy53 ?rest53
          case hi53 => (simp only [List.getElem?_toArray, List.getElem?_cons_succ, List.getElem?_cons_zero]; rfl)
          case hy53 => (refine Or.inl ⟨by rfl, ?_⟩; intro W hSw; obtain ⟨hs1, hs2, hs6, hs3, hs4, hs5⟩ := hSw; go_simp; (try with_reducible rfl))
          try simp only [Act.put, List.setIfInBounds_toArray, List.set_cons_zero, List.set_cons_succ]
          refine wpU_take (i := 26) (oi := ?oi54) (v := ?v54) ?hi54 (by kernel_rfl) (by kernel_rfl) (by kernel_rfl) ?hy54 ?rest54
          case hi54 => (simp only [List.getElem?_toArray, List.getElem?_cons_succ, List.getElem?_cons_zero]; rfl)
          case hy54 => (refine Or.inl ⟨by rfl, ?_⟩; intro W hSw; obtain ⟨hs1, hs2, hs6, hs3, hs4, hs5⟩ := hSw; go_simp; (try with_reducible rfl))
          try simp only [Act.put, List.setIfInBounds_toArray, List.set_cons_zero, List.set_cons_succ]
          refine wpU_done (by kernel_rfl) ?_ _
          intro W1 hSw
          have HE := Lib.hid (hSw.2.2.2)
          clear hSw x0 q1 q2
          go_wp2_with fail
          go_roundw
          case rel => exact ⟨k + 1, by omega, rfl, by go_num, HE.out⟩
          case measure => simp [intOf]; omega
end Go.Proofs.Ytonbpekogfaibaa.Ro
