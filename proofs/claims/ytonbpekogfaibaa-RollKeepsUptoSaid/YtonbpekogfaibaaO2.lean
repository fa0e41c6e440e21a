/-
  RollKeeps: the law's walk. Condition: an Id of at most 10^9 bytes.
-/
import Derived.Test.YtonbpekogfaibaaOv
import Derived.Test.YtonbpekogfaibaaO3
namespace Go.Proofs.Ytonbpekogfaibaa.Ro
open Go.RowKit Go.Maps Go.Sort
set_option linter.unusedVariables false
set_option linter.unusedSimpArgs false
set_option maxRecDepth 100000

theorem auth_none {h : By} (hh : h ≠ []) : authS [] h [] = ([], 2) := by
  unfold authS authG
  rw [if_neg (by simp [gcnt]), if_pos hh]
  unfold byHead
  cases shownS h with
  | none => rfl
  | some p => rfl
theorem hdr_ne (id sec : By) : hdr id sec ≠ [] := by unfold hdr bsc; simp
theorem hdr_len (id sec : By) : (hdr id sec).length ≤ 24 * id.length + 24 * sec.length + 40 := by
  have l1 := Fs.quote_len id
  have l2 := Fs.quote_len sec
  have := Oc.sixF_len (Fs.quote id ++ [58] ++ Fs.quote sec)
  have h4 := Oc.padN_lt (Oc.sixF (Fs.quote id ++ [58] ++ Fs.quote sec)).length
  unfold hdr Oc.basic bsc
  simp only [List.length_append, List.length_replicate, List.length_cons, List.length_nil] at *
  omega
theorem given_nil : given false noC [] = ([], false) := by unfold given; rw [if_pos (.inl rfl)]
theorem given_nil2 {C : Cl} : given true C [] = (C.sco, true) := by
  unfold given
  rw [Sc.set_nil, if_neg (by rintro (h | h) <;> cases h), if_pos rfl]
theorem find_self {L : List Cl} (h : AllP L) {k : Nat} {y : Cl} (hk : L[k]? = some y) : find L y.id = some y :=
  find_of_take (k := k + 1) y.id (by rw [find_take_succ hk y.id (h.2 k y hk).2, if_pos rfl])
theorem cl_row : (Try.prog.info? 32).map (fun i => (i.zero, i.size, i.bytes)) = some (some (av noC z3), 6, 112) := by kernel_rfl
set_option maxHeartbeats 8000000 in
theorem keeps_walk (v : Value) (l : List Cl) (vs : Nat → V3) (x : By) (w : World) (h : CsAt w v l vs) (hl : l.length ≤ 4611686018427387904) (hx : x.length ≤ 1000000000) :
    Calls Try.prog 6 #[v, .string ⟨x.toArray⟩] w fun e w' => e = .returned (.bool true) ∧ Below w.heap.size w w' := by
  obtain ⟨v', hfw, hfe⟩ := few_any v l vs w h hl
  have HFE := Lib.hid hfe
  have hll : (fewL l).length ≤ 70 := by unfold fewL; rw [List.length_take]; omega
  clear hfe h hl
  generalize fewL l = L at *
  obtain ⟨a, c, rfl⟩ := hfw.shp
  have HL := Lib.hid hfw
  clear hfw
  go_enter Try.func6, Try.ntmps6
  go_wp2_with fail
  refine HFE.out.mono ?_
  rintro e w1 ⟨rfl, e1⟩
  subst e1
  have HF := Lib.hid (find_any (.pointer none) [] (fun _ => z3) x w (RR.none w _) (by omega))
  go_wp2_with fail
  refine HF.out.mono ?_
  rintro e w1 ⟨u0, u1, u2, rfl, how, hb1⟩
  obtain ⟨ca, cc, e0⟩ := (Rd.of_own how.r).slice
  obtain ⟨cb, cd, e1⟩ := (Rd.of_own how.s).slice
  obtain ⟨ce, cf, e2⟩ := (Rd.of_own how.g).slice
  simp only at e0 e1 e2
  subst e0 e1 e2
  rw [show fC [] x = noC from rfl, show (find [] x).isSome = false from rfl]
  unfold av
  have hbA : Below w1.heap.size w1 (w1.alloc (.cells #[.string ⟨noC.id.toArray⟩, .string ⟨noC.sec.toArray⟩, .bool noC.pub, .slice ca noC.red.length cc, .slice cb noC.sco.length cd, .slice ce noC.gra.length cf] 32)) := (Below.refl _ _).alloc (Nat.le_refl _) _
  have HB1 := Lib.hid (hb1.trans (hbA.mono hb1.size))
  clear how hb1 hbA
  go_wp2_with fail
  generalize (w1.alloc (.cells #[.string ⟨noC.id.toArray⟩, .string ⟨noC.sec.toArray⟩, .bool noC.pub, .slice ca noC.red.length cc, .slice cb noC.sco.length cd, .slice ce noC.gra.length cf] 32)) = W1 at *
  have HH := Lib.hid (header_any x [115] W1 (by omega) (by decide))
  refine HH.out.mono ?_
  rintro e w2 ⟨rfl, hb2⟩
  have HB2 := Lib.hid (HB1.out.trans (hb2.mono HB1.out.size))
  have hau := auth_any (.pointer none) [] (fun _ => z3) (hdr x [115]) (.slice none 0 0) [] w2 (RR.none w2 _) (by have := hdr_len x [115]; simp at this; omega) (Rd.nil _ _) (by decide) (by decide) (by decide)
  rw [auth_none (hdr_ne x [115])] at hau
  have HAU := Lib.hid hau
  generalize hdr x [115] = hd at *
  clear hb2 hau HH
  go_wp2_with fail
  refine HAU.out.mono ?_
  rintro e w3 ⟨rfl, hb3⟩
  have HB3 := Lib.hid (HB2.out.trans (hb3.mono HB2.out.size))
  have hrd := redirect_any (.pointer none) [] (fun _ => z3) x [] w3 (RR.none w3 _) (by omega)
  rw [show redir (fC [] x) [] = ([], false) from rfl] at hrd
  have HRD := Lib.hid hrd
  clear hb3 hrd
  go_wp2_with fail
  refine HRD.out.mono ?_
  rintro e w4 ⟨rfl, hb4⟩
  have HB4 := Lib.hid (HB3.out.trans (hb4.mono HB3.out.size))
  have hsc := scope_any (.pointer none) [] (fun _ => z3) x (.slice none 0 0) [] w4 (RR.none w4 _) (by omega) (RdS.nil _) (by decide)
  rw [show given (find [] x).isSome (fC [] x) [] = ([], false) from given_nil] at hsc
  have HSC := Lib.hid hsc
  clear hb4 hsc
  go_wp2_with fail
  refine HSC.out.mono ?_
  rintro e w5 ⟨us, rfl, hos, hb5⟩
  have HB5 := Lib.hid (HB4.out.trans (hb5.mono HB4.out.size))
  clear hb5 hos
  go_wp2_with fail
  refine (known_any w5).mono ?_
  rintro e w6 ⟨rfl, hb6⟩
  have HB6 := Lib.hid (HB5.out.trans (hb6.mono HB5.out.size))
  have hma := may_any (.pointer none) [] (fun _ => z3) x RT w6 (RR.none w6 _) (by omega)
  rw [show decide (RT ∈ (fC [] x).gra) = false from rfl] at hma
  have HMA := Lib.hid hma
  unfold RT at HMA
  clear hb6 hma
  go_wp2_with fail
  refine HMA.out.mono ?_
  rintro e w7 ⟨rfl, hb7⟩
  have HB7 := Lib.hid (HB6.out.trans (hb7.mono HB6.out.size))
  have HID := Lib.hid (ids_nil w7)
  clear hb7
  go_wp2_with fail
  refine HID.out.mono ?_
  rintro e w8 ⟨rfl, e8⟩
  subst e8
  have HA := Lib.hid (rall_any _ L vs w7 (HL.out.below HB7.out) (by omega))
  go_wp2_with fail
  refine HA.out.mono ?_
  rintro e w8 ⟨b, rfl, hb, hb8⟩
  have HB8 := Lib.hid (HB7.out.trans (hb8.mono HB7.out.size))
  clear hb8
  cases b with
  | false =>
    clear hb
    go_wp2_with fail
    go_ret
    exact ⟨rfl, HB8.out⟩
  | true =>
  have HYES : Hid (AllP L) := Lib.hid (hb.1 rfl)
  clear hb HF HAU HRD HSC HMA HID HA HFE
  go_wp2_with fail
  obtain ⟨i0, hi, hz0, hz1, hz2⟩ := info_parts str_row
  have hcop : Cop w8 w.heap.size L 0 (.slice none 0 0) (fun _ => z3) := ⟨World.ownsRow_nil _ _ _ _, fun j c hj => absurd hj (Nat.not_lt_zero _), fun i j hi => absurd hi (Nat.not_lt_zero _), fun j hj => absurd hj (Nat.not_lt_zero _)⟩
  go_loopw [14, 15] (fun iv i wr => ∃ (k : Nat) (us : Nat → V3), k ≤ L.length ∧ i = .int .i64 (k : Int) ∧ Cop wr w.heap.size L k iv us ∧ Below w.heap.size w wr) (fun _ i _ => L.length - (intOf i).toNat)
  case atStart => exact ⟨0, _, Nat.zero_le _, rfl, hcop, HB8.out⟩
  case round =>
    clear hcop
    obtain ⟨k, us, hk, rfl, hcop, hbw⟩ := hrel
    have HCOP := Lib.hid hcop
    have HB := Lib.hid hbw
    obtain ⟨iva, ivc, rfl⟩ := (Rd.of_own hcop.own).slice
    by_cases hkn : k < L.length
    case neg =>
      -- BEHIND THE COPIES by gen_roll_keeps2.py
      have g1 : ¬ (k : Int) < (L.length : Int) := by omega
      obtain rfl : k = L.length := by omega
      have htk : L.take L.length = L := List.take_length
      have hown := hcop.own
      rw [htk] at hown
      have hcs : CsAt wr (.slice iva L.length ivc) L us := csAt_of_own hown (fun j c' hj => (hcop.row j c' (List.getElem?_eq_some_iff.1 hj).1 hj).rdc ((HL.out.row j c' hj).below hbw)) HL.out.idl
      have HCS := Lib.hid hcs
      have HNW := Lib.hid (new_any _ L us wr hcs (by omega))
      have HOWN := Lib.hid hown
      clear htk hown hcs hcop hbw hk hkn
      go_wp2_with fail
      refine HNW.out.mono ?_
      rintro e w9 ⟨(⟨hno, rfl⟩ | ⟨q, m, sl, hyes, rfl, hro, hq, hm, how⟩), hb9⟩
      · exact absurd HYES.out hno
      have HR9 := Lib.hid (And.intro hro (And.intro hq (And.intro hm how)))
      have HB9 := Lib.hid (And.intro (HB.out.trans (hb9.mono HB.out.size)) hb9)
      clear hyes hro hq hm how hb9 HNW
      have hki : KI w wr q m L sl us 0 w9 := ⟨HB9.out.1, HR9.out.1, HR9.out.2.2.2, fun g hg _ => HB9.out.2.block g hg, HB9.out.2.size⟩
      go_wp2_with fail
      generalize wr = wi at *
      go_loopw [4, 19] (fun r i wq => ∃ k : Nat, k ≤ L.length ∧ r = .bool false ∧ i = .int .i64 (k : Int) ∧ KI w wi q m L sl us k wq) (fun _ i _ => L.length - (intOf i).toNat)
      case atStart => exact ⟨0, Nat.zero_le _, rfl, rfl, hki⟩
      case round =>
        clear hki
        obtain ⟨k, hk, rfl, rfl, hki⟩ := hrel
        have HKI := Lib.hid hki
        clear hki
        by_cases hkn : k < L.length
        case neg =>
          have g1 : ¬ (k : Int) < (L.length : Int) := by omega
          obtain rfl : k = L.length := by omega
          go_wp2_with fail
          go_loopw [4, 25] (fun r i wq => ∃ k : Nat, k ≤ L.length ∧ r = .bool false ∧ i = .int .i64 (k : Int) ∧ KI w wi q m L sl us L.length wq) (fun _ i _ => L.length - (intOf i).toNat)
          case atStart => exact ⟨0, Nat.zero_le _, rfl, rfl, HKI.out⟩
          case round =>
            obtain ⟨k, hk, rfl, rfl, hki⟩ := hrel
            have HKC := Lib.hid hki
            clear hki
            by_cases hkn : k < L.length
            case neg =>
              have g2 : ¬ (k : Int) < (L.length : Int) := by omega
              go_wp2_with fail
              go_ret
              exact ⟨rfl, HKC.out.bel⟩
            case pos =>
              have g2 : (k : Int) < (L.length : Int) := by omega
              obtain ⟨y, hy⟩ : ∃ y, L[k]? = some y := ⟨_, List.getElem?_eq_getElem hkn⟩
              obtain ⟨b, o, c9, e9, hbB, hcel⟩ := HL.out.cel (by omega)
              obtain ⟨rfl, rfl⟩ : a = some ⟨b, o, none⟩ ∧ c = c9 := by cases e9; exact ⟨rfl, rfl⟩
              have hrow := HL.out.row k y hy
              obtain ⟨v, hv⟩ : ∃ v, v = vs k := ⟨_, rfl⟩
              have hcl : ∀ (W : World), Below w.heap.size w W → ∀ (j : Nat) (x : Value), (c6 y v)[j]? = some x → W.cell? ⟨b, o + k * 6 + j, none⟩ = some x := fun W hW j x hj => (World.cell?_of_block (a := ⟨b, o + k * 6 + j, none⟩) (hW.block b hbB)).trans (hcel k y hy j x (by rw [← hv]; exact hj))
              rw [← hv] at hrow
              have hrp := (HYES.out.2 k y hy).1
              have hl9 : y.red.length ≤ 1048576 ∧ y.sco.length ≤ 1048576 ∧ y.gra.length ≤ 1048576 := ⟨by have := hrp.r4; omega, by have := hrp.s32; omega, by have := gra3 hrp; omega⟩
              have hfs := find_self HYES.out hy
              have hfc : fC L y.id = y := by unfold fC; rw [hfs]; rfl
              have hidl := HL.out.idl y (List.mem_of_getElem? hy)
              obtain ⟨v0, v1, v2⟩ := v
              obtain ⟨a0, k0, e0⟩ := hrow.1.1.slice
              obtain ⟨a1, k1, e1⟩ := hrow.2.1.1.slice
              obtain ⟨a2, k2, e2⟩ := hrow.2.2.1.slice
              simp only at e0 e1 e2
              subst e0 e1 e2
              have HCL : Hid (∀ W, Below w.heap.size w W → W.cell? ⟨b, o + k * 6, none⟩ = some (.string ⟨y.id.toArray⟩) ∧ W.cell? ⟨b, o + k * 6 + 1, none⟩ = some (.string ⟨y.sec.toArray⟩) ∧ W.cell? ⟨b, o + k * 6 + 2, none⟩ = some (.bool y.pub) ∧ W.cell? ⟨b, o + k * 6 + 3, none⟩ = some (.slice a0 y.red.length k0) ∧ W.cell? ⟨b, o + k * 6 + 4, none⟩ = some (.slice a1 y.sco.length k1) ∧ W.cell? ⟨b, o + k * 6 + 5, none⟩ = some (.slice a2 y.gra.length k2)) := Lib.hid (fun W hW => ⟨hcl W hW 0 _ rfl, hcl W hW 1 _ rfl, hcl W hW 2 _ rfl, hcl W hW 3 _ rfl, hcl W hW 4 _ rfl, hcl W hW 5 _ rfl⟩)
              have HRW := Lib.hid hrow
              have HLN := Lib.hid (And.intro hl9 hidl)
              have hfi := find_any _ L sl y.id wr HKC.out.ro.rr (by omega)
              have hgot := HKC.out.ro.rr.got y.id
              rw [hfc, hfs] at hfi
              rw [hfc] at hgot
              have HFI := Lib.hid hfi
              have HGT := Lib.hid hgot.1
              have d0 := (HCL.out wr HKC.out.bel).1
              clear hcl hrow hv hrp hl9 hfs hfc hidl e9 hcel hbB hy hfi hgot
              go_wp2_with fail
              refine HFI.out.mono ?_
              rintro e W3 ⟨p0, p1, p2, rfl, how3, hb3⟩
              obtain ⟨g0, h0, e0⟩ := (Rd.of_own how3.r).slice
              obtain ⟨g1', h1, e1⟩ := (Rd.of_own how3.s).slice
              obtain ⟨g2, h2, e2⟩ := (Rd.of_own how3.g).slice
              simp only at e0 e1 e2
              subst e0 e1 e2
              unfold av
              have hbA : Below W3.heap.size W3 (W3.alloc (.cells #[.string ⟨y.id.toArray⟩, .string ⟨y.sec.toArray⟩, .bool y.pub, .slice g0 y.red.length h0, .slice g1' y.sco.length h1, .slice g2 y.gra.length h2] 32)) := (Below.refl _ _).alloc (Nat.le_refl _) _
              have HBK4 : Hid (Blk (W3.alloc (.cells #[.string ⟨y.id.toArray⟩, .string ⟨y.sec.toArray⟩, .bool y.pub, .slice g0 y.red.length h0, .slice g1' y.sco.length h1, .slice g2 y.gra.length h2] 32)) W3.heap.size 32 (c6 y (.slice g0 y.red.length h0, .slice g1' y.sco.length h1, .slice g2 y.gra.length h2))) := Lib.hid (Blk.new W3 _ _)
              have HRD4 := Lib.hid ((how3.rdc HGT.out).below hbA)
              have HK4 := Lib.hid ((HKC.out.below hb3).below hbA)
              have HSM : Hid (∀ W, RdC W y (.slice g0 y.red.length h0, .slice g1' y.sco.length h1, .slice g2 y.gra.length h2) → RdC W y (.slice a0 y.red.length k0, .slice a1 y.sco.length k1, .slice a2 y.gra.length k2) → Calls Try.prog 14 #[av y (.slice g0 y.red.length h0, .slice g1' y.sco.length h1, .slice g2 y.gra.length h2), av y (.slice a0 y.red.length k0, .slice a1 y.sco.length k1, .slice a2 y.gra.length k2)] W fun e w' => e = .returned (.bool true) ∧ Below W.heap.size W w') := Lib.hid (fun W rr1 rr2 => by
                have := rsame_any y y (.slice g0 y.red.length h0, .slice g1' y.sco.length h1, .slice g2 y.gra.length h2) (.slice a0 y.red.length k0, .slice a1 y.sco.length k1, .slice a2 y.gra.length k2) W rr1 rr2 (by have := HLN.out.1.1; omega) (by have := HLN.out.1.2.1; omega) (by have := HLN.out.1.2.2; omega)
                rw [(sameC_iff y y).2 rfl] at this
                exact this)
              unfold av at HSM
              clear hbA how3 hb3 HFI d0
              go_wp2_with fail
              refine wp_region_U (S := (fun W => KI w wi q m L sl us L.length W ∧ Blk W W3.heap.size 32 (c6 y (.slice g0 y.red.length h0, .slice g1' y.sco.length h1, .slice g2 y.gra.length h2)) ∧ RdC W y (.slice g0 y.red.length h0, .slice g1' y.sco.length h1, .slice g2 y.gra.length h2))) (by kernel_rfl) ?_ ?_
              · exact ⟨HK4.out.below (Below.refl _ _).drew, HBK4.out.drew, HRD4.out.below (Below.refl _ _).drew⟩
              refine wpU_take (i := 0) (oi := ?oi11) (v := ?v11) ?hi11 (by kernel_rfl) (by kernel_rfl) (by kernel_rfl) ?hy11 ?rest11
              case hi11 => (simp only [List.getElem?_toArray, List.getElem?_cons_succ, List.getElem?_cons_zero]; rfl)
              case hy11 => (refine Or.inl ⟨by rfl, ?_⟩; intro W hSw; obtain ⟨x0, x1, x2, x3, x4, x5⟩ := HCL.out W hSw.1.bel; have z0' := hSw.2.1.cell 0 rfl; have z1' := hSw.2.1.cell 1 rfl; have z2' := hSw.2.1.cell 2 rfl; have z3' := hSw.2.1.cell 3 rfl; have z4' := hSw.2.1.cell 4 rfl; have z5' := hSw.2.1.cell 5 rfl; go_simp; (try with_reducible rfl))
              try simp only [Act.put, List.setIfInBounds_toArray, List.set_cons_zero, List.set_cons_succ]
              refine wpU_take (i := 1) (oi := ?oi12) (v := ?v12) ?hi12 (by kernel_rfl) (by kernel_rfl) (by kernel_rfl) ?hy12 ?rest12
              case hi12 => (simp only [List.getElem?_toArray, List.getElem?_cons_succ, List.getElem?_cons_zero]; rfl)
              case hy12 => (refine Or.inl ⟨by rfl, ?_⟩; intro W hSw; obtain ⟨x0, x1, x2, x3, x4, x5⟩ := HCL.out W hSw.1.bel; have z0' := hSw.2.1.cell 0 rfl; have z1' := hSw.2.1.cell 1 rfl; have z2' := hSw.2.1.cell 2 rfl; have z3' := hSw.2.1.cell 3 rfl; have z4' := hSw.2.1.cell 4 rfl; have z5' := hSw.2.1.cell 5 rfl; go_simp; (try with_reducible rfl))
              try simp only [Act.put, List.setIfInBounds_toArray, List.set_cons_zero, List.set_cons_succ]
              refine wpU_take (i := 2) (oi := ?oi13) (v := ?v13) ?hi13 (by kernel_rfl) (by kernel_rfl) (by kernel_rfl) ?hy13 ?rest13
              case hi13 => (simp only [List.getElem?_toArray, List.getElem?_cons_succ, List.getElem?_cons_zero]; rfl)
              case hy13 => (refine Or.inl ⟨by rfl, ?_⟩; intro W hSw; obtain ⟨x0, x1, x2, x3, x4, x5⟩ := HCL.out W hSw.1.bel; have z0' := hSw.2.1.cell 0 rfl; have z1' := hSw.2.1.cell 1 rfl; have z2' := hSw.2.1.cell 2 rfl; have z3' := hSw.2.1.cell 3 rfl; have z4' := hSw.2.1.cell 4 rfl; have z5' := hSw.2.1.cell 5 rfl; go_simp; (try with_reducible rfl))
              try simp only [Act.put, List.setIfInBounds_toArray, List.set_cons_zero, List.set_cons_succ]
              refine wpU_take (i := 3) (oi := ?oi14) (v := ?v14) ?hi14 (by kernel_rfl) (by kernel_rfl) (by kernel_rfl) ?hy14 ?rest14
              case hi14 => (simp only [List.getElem?_toArray, List.getElem?_cons_succ, List.getElem?_cons_zero]; rfl)
              case hy14 => (refine Or.inl ⟨by rfl, ?_⟩; intro W hSw; obtain ⟨x0, x1, x2, x3, x4, x5⟩ := HCL.out W hSw.1.bel; have z0' := hSw.2.1.cell 0 rfl; have z1' := hSw.2.1.cell 1 rfl; have z2' := hSw.2.1.cell 2 rfl; have z3' := hSw.2.1.cell 3 rfl; have z4' := hSw.2.1.cell 4 rfl; have z5' := hSw.2.1.cell 5 rfl; go_simp; (try with_reducible rfl))
              try simp only [Act.put, List.setIfInBounds_toArray, List.set_cons_zero, List.set_cons_succ]
              refine wpU_take (i := 4) (oi := ?oi15) (v := ?v15) ?hi15 (by kernel_rfl) (by kernel_rfl) (by kernel_rfl) ?hy15 ?rest15
              case hi15 => (simp only [List.getElem?_toArray, List.getElem?_cons_succ, List.getElem?_cons_zero]; rfl)
              case hy15 => (refine Or.inl ⟨by rfl, ?_⟩; intro W hSw; obtain ⟨x0, x1, x2, x3, x4, x5⟩ := HCL.out W hSw.1.bel; have z0' := hSw.2.1.cell 0 rfl; have z1' := hSw.2.1.cell 1 rfl; have z2' := hSw.2.1.cell 2 rfl; have z3' := hSw.2.1.cell 3 rfl; have z4' := hSw.2.1.cell 4 rfl; have z5' := hSw.2.1.cell 5 rfl; go_simp; (try with_reducible rfl))
              try simp only [Act.put, List.setIfInBounds_toArray, List.set_cons_zero, List.set_cons_succ]
              refine wpU_take (i := 5) (oi := ?oi16) (v := .bool true) ?hi16 (by kernel_rfl) (by kernel_rfl) (by kernel_rfl) ?hy16 ?rest16
              case hi16 => (simp only [List.getElem?_toArray, List.getElem?_cons_succ, List.getElem?_cons_zero]; rfl)
              case hy16 =>
                refine Or.inr (Or.inr (Or.inl ⟨by rfl, 14, #[(.agg #[.string ⟨y.id.toArray⟩, .string ⟨y.sec.toArray⟩, .bool y.pub, .slice g0 y.red.length h0, .slice g1' y.sco.length h1, .slice g2 y.gra.length h2]), (.agg #[.string ⟨y.id.toArray⟩, .string ⟨y.sec.toArray⟩, .bool y.pub, .slice a0 y.red.length k0, .slice a1 y.sco.length k1, .slice a2 y.gra.length k2])], fun W hSw => (by go_simp), fun W hSw => ?_⟩))
                refine (HSM.out W hSw.2.2 (HRW.out.below hSw.1.bel)).mono ?_
                rintro e w' ⟨rfl, hb⟩
                exact ⟨rfl, hSw.1.below hb, hSw.2.1.below hb hSw.2.1.lt, hSw.2.2.below hb⟩
              try simp only [Act.put, List.setIfInBounds_toArray, List.set_cons_zero, List.set_cons_succ]
              refine wpU_take (i := 6) (oi := ?oi17) (v := ?v17) ?hi17 (by kernel_rfl) (by kernel_rfl) (by kernel_rfl) ?hy17 ?rest17
              case hi17 => (simp only [List.getElem?_toArray, List.getElem?_cons_succ, List.getElem?_cons_zero]; rfl)
              case hy17 => (refine Or.inl ⟨by rfl, ?_⟩; intro W hSw; obtain ⟨x0, x1, x2, x3, x4, x5⟩ := HCL.out W hSw.1.bel; have z0' := hSw.2.1.cell 0 rfl; have z1' := hSw.2.1.cell 1 rfl; have z2' := hSw.2.1.cell 2 rfl; have z3' := hSw.2.1.cell 3 rfl; have z4' := hSw.2.1.cell 4 rfl; have z5' := hSw.2.1.cell 5 rfl; go_simp; (try with_reducible rfl))
              try simp only [Act.put, List.setIfInBounds_toArray, List.set_cons_zero, List.set_cons_succ]
              refine wpU_done (by kernel_rfl) ?_ _
              intro W1 hSw
              have HKE := Lib.hid hSw.1
              clear hSw
              go_wp2_with fail
              go_roundw
              case rel => exact ⟨k + 1, by omega, rfl, by go_num, HKE.out⟩
              case measure => simp [intOf]; omega
        case pos =>
          have g1 : (k : Int) < (L.length : Int) := by omega
          obtain ⟨y, hy⟩ : ∃ y, L[k]? = some y := ⟨_, List.getElem?_eq_getElem hkn⟩
          have hym : y ∈ L := List.mem_of_getElem? hy
          obtain ⟨b, o, c9, e9, hbB, hcel⟩ := HL.out.cel (by omega)
          obtain ⟨rfl, rfl⟩ : a = some ⟨b, o, none⟩ ∧ c = c9 := by cases e9; exact ⟨rfl, rfl⟩
          obtain ⟨bi, oi, ci, e8, hbI, hcei⟩ := HCS.out.cel (by omega)
          obtain ⟨rfl, rfl⟩ : iva = some ⟨bi, oi, none⟩ ∧ ivc = ci := by cases e8; exact ⟨rfl, rfl⟩
          have hrow := HL.out.row k y hy
          have hown := HCOP.out.row k y hkn hy
          have hrwi := hown.rdc hrow
          obtain ⟨v, hv⟩ : ∃ v, v = vs k := ⟨_, rfl⟩
          obtain ⟨u, hu⟩ : ∃ u, u = us k := ⟨_, rfl⟩
          have hcl : ∀ (W : World), KI w wi q m L sl us k W → ∀ (j : Nat) (x : Value), (c6 y v)[j]? = some x → W.cell? ⟨b, o + k * 6 + j, none⟩ = some x := fun W hW j x hj => (World.cell?_of_block (a := ⟨b, o + k * 6 + j, none⟩) (hW.bel.block b hbB)).trans (hcel k y hy j x (by rw [← hv]; exact hj))
          have hcl2 : ∀ (W : World), Below w.heap.size w W → ∀ (j : Nat) (x : Value), (c6 y v)[j]? = some x → W.cell? ⟨b, o + k * 6 + j, none⟩ = some x := fun W hW j x hj => (World.cell?_of_block (a := ⟨b, o + k * 6 + j, none⟩) (hW.block b hbB)).trans (hcel k y hy j x (by rw [← hv]; exact hj))
          have hci : ∀ (W : World), KI w wi q m L sl us k W → ∀ (j : Nat) (x : Value), (c6 y u)[j]? = some x → W.cell? ⟨bi, oi + k * 6 + j, none⟩ = some x := fun W hW j x hj => (World.cell?_of_block (a := ⟨bi, oi + k * 6 + j, none⟩) (hW.old bi hbI (fun j' hj' hf => HCOP.out.iapt j' (by omega) bi hf rfl))).trans (hcei k y hy j x (by rw [← hu]; exact hj))
          have hou : ∀ (W : World), KI w wi q m L sl us k W → OwC W w.heap.size y u := fun W hW => by
            rw [hu]
            exact hown.keepF (fun g hg => hW.old g (hown.ge hg).2 (fun j' hj' hf => HCOP.out.apt j' k (by omega) hkn (by omega) g hf hg))
          have hge : ∀ g, lF (us k) g → w.heap.size ≤ g ∧ g < wi.heap.size := fun g hg => hown.ge hg
          rw [← hu] at hrwi hge
          rw [← hv] at hrow
          have hrp := (HYES.out.2 k y hy).1
          have hl9 : y.red.length ≤ 1048576 ∧ y.sco.length ≤ 1048576 ∧ y.gra.length ≤ 1048576 := ⟨by have := hrp.r4; omega, by have := hrp.s32; omega, by have := gra3 hrp; omega⟩
          have hfs := find_self HYES.out hy
          have hfc : fC L y.id = y := by unfold fC; rw [hfs]; rfl
          have hidl := HL.out.idl y hym
          obtain ⟨v0, v1, v2⟩ := v
          obtain ⟨u0, u1, u2⟩ := u
          obtain ⟨a0, k0, e0⟩ := hrow.1.1.slice
          obtain ⟨a1, k1, e1⟩ := hrow.2.1.1.slice
          obtain ⟨a2, k2, e2⟩ := hrow.2.2.1.slice
          obtain ⟨b0, j0, f0⟩ := hrwi.1.1.slice
          obtain ⟨b1, j1, f1⟩ := hrwi.2.1.1.slice
          obtain ⟨b2, j2, f2⟩ := hrwi.2.2.1.slice
          simp only at e0 e1 e2 f0 f1 f2
          subst e0 e1 e2 f0 f1 f2
          have HCL : Hid (∀ W, KI w wi q m L sl us k W → (W.cell? ⟨b, o + k * 6, none⟩ = some (.string ⟨y.id.toArray⟩) ∧ W.cell? ⟨b, o + k * 6 + 1, none⟩ = some (.string ⟨y.sec.toArray⟩) ∧ W.cell? ⟨b, o + k * 6 + 2, none⟩ = some (.bool y.pub) ∧ W.cell? ⟨b, o + k * 6 + 3, none⟩ = some (.slice a0 y.red.length k0) ∧ W.cell? ⟨b, o + k * 6 + 4, none⟩ = some (.slice a1 y.sco.length k1) ∧ W.cell? ⟨b, o + k * 6 + 5, none⟩ = some (.slice a2 y.gra.length k2)) ∧
            (W.cell? ⟨bi, oi + k * 6, none⟩ = some (.string ⟨y.id.toArray⟩) ∧ W.cell? ⟨bi, oi + k * 6 + 1, none⟩ = some (.string ⟨y.sec.toArray⟩) ∧ W.cell? ⟨bi, oi + k * 6 + 2, none⟩ = some (.bool y.pub) ∧ W.cell? ⟨bi, oi + k * 6 + 3, none⟩ = some (.slice b0 y.red.length j0) ∧ W.cell? ⟨bi, oi + k * 6 + 4, none⟩ = some (.slice b1 y.sco.length j1) ∧ W.cell? ⟨bi, oi + k * 6 + 5, none⟩ = some (.slice b2 y.gra.length j2))) := Lib.hid (fun W hW =>
            ⟨⟨hcl W hW 0 _ rfl, hcl W hW 1 _ rfl, hcl W hW 2 _ rfl, hcl W hW 3 _ rfl, hcl W hW 4 _ rfl, hcl W hW 5 _ rfl⟩, ⟨hci W hW 0 _ rfl, hci W hW 1 _ rfl, hci W hW 2 _ rfl, hci W hW 3 _ rfl, hci W hW 4 _ rfl, hci W hW 5 _ rfl⟩⟩)
          have HC0 : Hid (∀ W, Below w.heap.size w W → W.cell? ⟨b, o + k * 6, none⟩ = some (.string ⟨y.id.toArray⟩)) := Lib.hid (fun W hW => hcl2 W hW 0 _ rfl)
          have HOU := Lib.hid hou
          have HRW := Lib.hid (And.intro hrow hrwi)
          have HGE := Lib.hid hge
          have HUK := Lib.hid hu
          have HLN := Lib.hid (And.intro hl9 hidl)
          have HFC := Lib.hid (And.intro hfc hfs)
          have HYY := Lib.hid hy
          have HSM : Hid (∀ W, KI w wi q m L sl us k W → Calls Try.prog 14 #[av y (.slice b0 y.red.length j0, .slice b1 y.sco.length j1, .slice b2 y.gra.length j2), av y (.slice a0 y.red.length k0, .slice a1 y.sco.length k1, .slice a2 y.gra.length k2)] W fun e w' => e = .returned (.bool true) ∧ Below W.heap.size W w') := Lib.hid (fun W hW => by
            have := rsame_any y y (.slice b0 y.red.length j0, .slice b1 y.sco.length j1, .slice b2 y.gra.length j2) (.slice a0 y.red.length k0, .slice a1 y.sco.length k1, .slice a2 y.gra.length k2) W ((HOU.out W hW).rdc HRW.out.2) (HRW.out.1.below hW.bel) (by have := HLN.out.1.1; omega) (by have := HLN.out.1.2.1; omega) (by have := HLN.out.1.2.2; omega)
            rw [(sameC_iff y y).2 rfl] at this
            exact this)
          unfold av at HSM
          clear hcl hcl2 hci hou hge hrow hrwi hown hv hu hrp hl9 hfs hfc hidl e8 e9 hcel hcei hbB hbI hy hym
          go_wp2_with fail
          refine wp_region_U (S := (fun W => KI w wi q m L sl us k W)) (by kernel_rfl) ?_ ?_
          · exact HKI.out.below (Below.refl _ _).drew
          refine wpU_take (i := 0) (oi := ?oi1) (v := ?v1) ?hi1 (by kernel_rfl) (by kernel_rfl) (by kernel_rfl) ?hy1 ?rest1
          case hi1 => (simp only [List.getElem?_toArray, List.getElem?_cons_succ, List.getElem?_cons_zero]; rfl)
          case hy1 => (refine Or.inl ⟨by rfl, ?_⟩; intro W hSw; have hcc := HCL.out W hSw; obtain ⟨⟨x0, x1, x2, x3, x4, x5⟩, z0', z1', z2', z3', z4', z5'⟩ := hcc; go_simp; (try with_reducible rfl))
          try simp only [Act.put, List.setIfInBounds_toArray, List.set_cons_zero, List.set_cons_succ]
          refine wpU_take (i := 1) (oi := ?oi2) (v := ?v2) ?hi2 (by kernel_rfl) (by kernel_rfl) (by kernel_rfl) ?hy2 ?rest2
          case hi2 => (simp only [List.getElem?_toArray, List.getElem?_cons_succ, List.getElem?_cons_zero]; rfl)
          case hy2 => (refine Or.inl ⟨by rfl, ?_⟩; intro W hSw; have hcc := HCL.out W hSw; obtain ⟨⟨x0, x1, x2, x3, x4, x5⟩, z0', z1', z2', z3', z4', z5'⟩ := hcc; go_simp; (try with_reducible rfl))
          try simp only [Act.put, List.setIfInBounds_toArray, List.set_cons_zero, List.set_cons_succ]
          refine wpU_take (i := 2) (oi := ?oi3) (v := ?v3) ?hi3 (by kernel_rfl) (by kernel_rfl) (by kernel_rfl) ?hy3 ?rest3
          case hi3 => (simp only [List.getElem?_toArray, List.getElem?_cons_succ, List.getElem?_cons_zero]; rfl)
          case hy3 => (refine Or.inl ⟨by rfl, ?_⟩; intro W hSw; have hcc := HCL.out W hSw; obtain ⟨⟨x0, x1, x2, x3, x4, x5⟩, z0', z1', z2', z3', z4', z5'⟩ := hcc; go_simp; (try with_reducible rfl))
          try simp only [Act.put, List.setIfInBounds_toArray, List.set_cons_zero, List.set_cons_succ]
          refine wpU_take (i := 3) (oi := ?oi4) (v := ?v4) ?hi4 (by kernel_rfl) (by kernel_rfl) (by kernel_rfl) ?hy4 ?rest4
          case hi4 => (simp only [List.getElem?_toArray, List.getElem?_cons_succ, List.getElem?_cons_zero]; rfl)
          case hy4 => (refine Or.inl ⟨by rfl, ?_⟩; intro W hSw; have hcc := HCL.out W hSw; obtain ⟨⟨x0, x1, x2, x3, x4, x5⟩, z0', z1', z2', z3', z4', z5'⟩ := hcc; go_simp; (try with_reducible rfl))
          try simp only [Act.put, List.setIfInBounds_toArray, List.set_cons_zero, List.set_cons_succ]
          refine wpU_take (i := 4) (oi := ?oi5) (v := ?v5) ?hi5 (by kernel_rfl) (by kernel_rfl) (by kernel_rfl) ?hy5 ?rest5
          case hi5 => (simp only [List.getElem?_toArray, List.getElem?_cons_succ, List.getElem?_cons_zero]; rfl)
          case hy5 => (refine Or.inl ⟨by rfl, ?_⟩; intro W hSw; have hcc := HCL.out W hSw; obtain ⟨⟨x0, x1, x2, x3, x4, x5⟩, z0', z1', z2', z3', z4', z5'⟩ := hcc; go_simp; (try with_reducible rfl))
          try simp only [Act.put, List.setIfInBounds_toArray, List.set_cons_zero, List.set_cons_succ]
          refine wpU_take (i := 5) (oi := ?oi6) (v := ?v6) ?hi6 (by kernel_rfl) (by kernel_rfl) (by kernel_rfl) ?hy6 ?rest6
          case hi6 => (simp only [List.getElem?_toArray, List.getElem?_cons_succ, List.getElem?_cons_zero]; rfl)
          case hy6 => (refine Or.inl ⟨by rfl, ?_⟩; intro W hSw; have hcc := HCL.out W hSw; obtain ⟨⟨x0, x1, x2, x3, x4, x5⟩, z0', z1', z2', z3', z4', z5'⟩ := hcc; go_simp; (try with_reducible rfl))
          try simp only [Act.put, List.setIfInBounds_toArray, List.set_cons_zero, List.set_cons_succ]
          refine wpU_take (i := 6) (oi := ?oi7) (v := ?v7) ?hi7 (by kernel_rfl) (by kernel_rfl) (by kernel_rfl) ?hy7 ?rest7
          case hi7 => (simp only [List.getElem?_toArray, List.getElem?_cons_succ, List.getElem?_cons_zero]; rfl)
          case hy7 => (refine Or.inl ⟨by rfl, ?_⟩; intro W hSw; have hcc := HCL.out W hSw; obtain ⟨⟨x0, x1, x2, x3, x4, x5⟩, z0', z1', z2', z3', z4', z5'⟩ := hcc; go_simp; (try with_reducible rfl))
          try simp only [Act.put, List.setIfInBounds_toArray, List.set_cons_zero, List.set_cons_succ]
          refine wpU_take (i := 7) (oi := ?oi8) (v := ?v8) ?hi8 (by kernel_rfl) (by kernel_rfl) (by kernel_rfl) ?hy8 ?rest8
          case hi8 => (simp only [List.getElem?_toArray, List.getElem?_cons_succ, List.getElem?_cons_zero]; rfl)
          case hy8 => (refine Or.inl ⟨by rfl, ?_⟩; intro W hSw; have hcc := HCL.out W hSw; obtain ⟨⟨x0, x1, x2, x3, x4, x5⟩, z0', z1', z2', z3', z4', z5'⟩ := hcc; go_simp; (try with_reducible rfl))
          try simp only [Act.put, List.setIfInBounds_toArray, List.set_cons_zero, List.set_cons_succ]
          refine wpU_take (i := 8) (oi := ?oi9) (v := .bool true) ?hi9 (by kernel_rfl) (by kernel_rfl) (by kernel_rfl) ?hy9 ?rest9
          case hi9 => (simp only [List.getElem?_toArray, List.getElem?_cons_succ, List.getElem?_cons_zero]; rfl)
          case hy9 =>
            refine Or.inr (Or.inr (Or.inl ⟨by rfl, 14, #[(.agg #[.string ⟨y.id.toArray⟩, .string ⟨y.sec.toArray⟩, .bool y.pub, .slice b0 y.red.length j0, .slice b1 y.sco.length j1, .slice b2 y.gra.length j2]), (.agg #[.string ⟨y.id.toArray⟩, .string ⟨y.sec.toArray⟩, .bool y.pub, .slice a0 y.red.length k0, .slice a1 y.sco.length k1, .slice a2 y.gra.length k2])], fun W hSw => (by go_simp), fun W hSw => ?_⟩))
            refine (HSM.out W hSw).mono ?_
            rintro e w' ⟨rfl, hb⟩
            exact ⟨rfl, hSw.below hb⟩
          try simp only [Act.put, List.setIfInBounds_toArray, List.set_cons_zero, List.set_cons_succ]
          refine wpU_take (i := 9) (oi := ?oi10) (v := ?v10) ?hi10 (by kernel_rfl) (by kernel_rfl) (by kernel_rfl) ?hy10 ?rest10
          case hi10 => (simp only [List.getElem?_toArray, List.getElem?_cons_succ, List.getElem?_cons_zero]; rfl)
          case hy10 => (refine Or.inl ⟨by rfl, ?_⟩; intro W hSw; have hcc := HCL.out W hSw; obtain ⟨⟨x0, x1, x2, x3, x4, x5⟩, z0', z1', z2', z3', z4', z5'⟩ := hcc; go_simp; (try with_reducible rfl))
          try simp only [Act.put, List.setIfInBounds_toArray, List.set_cons_zero, List.set_cons_succ]
          refine wpU_done (by kernel_rfl) ?_ _
          intro W1 hSw
          have HW1 := Lib.hid hSw
          have hcc := HCL.out W1 hSw
          obtain ⟨-, i0', i1', i2', i3', i4', i5'⟩ := hcc
          clear hSw
          have hwp := (HOU.out W1 HW1.out).wr
          have HWP := Lib.hid (wipe_any y (.slice b0 y.red.length j0, .slice b1 y.sco.length j1, .slice b2 y.gra.length j2) W1 hwp.1 hwp.2.1 hwp.2.2 HLN.out.1.1 HLN.out.1.2.1 HLN.out.1.2.2)
          unfold av at HWP
          clear hwp
          go_wp2_with fail
          refine HWP.out.mono ?_
          rintro e W2 ⟨rfl, hou2⟩
          have hki2 := HW1.out.wipe HR9.out.2.1 HR9.out.2.2.1 (by rw [← HUK.out]; exact hou2) (fun g hg => HGE.out g (by rw [HUK.out]; exact hg))
          have HK2 := Lib.hid hki2
          clear hou2 hki2 HWP i0' i1' i2' i3' i4' i5'
          have d0 := HC0.out W2 HK2.out.bel
          have hfi := find_any _ L sl y.id W2 HK2.out.ro.rr (by have := HLN.out.2.1; omega)
          rw [HFC.out.1, HFC.out.2] at hfi
          have HFI := Lib.hid hfi
          clear hfi
          go_wp2_with fail
          refine HFI.out.mono ?_
          rintro e W3 ⟨p0, p1, p2, rfl, how3, hb3⟩
          obtain ⟨g0, h0, e0⟩ := (Rd.of_own how3.r).slice
          obtain ⟨g1', h1, e1⟩ := (Rd.of_own how3.s).slice
          obtain ⟨g2, h2, e2⟩ := (Rd.of_own how3.g).slice
          simp only at e0 e1 e2
          subst e0 e1 e2
          unfold av
          have hbA : Below W3.heap.size W3 (W3.alloc (.cells #[.string ⟨y.id.toArray⟩, .string ⟨y.sec.toArray⟩, .bool y.pub, .slice g0 y.red.length h0, .slice g1' y.sco.length h1, .slice g2 y.gra.length h2] 32)) := (Below.refl _ _).alloc (Nat.le_refl _) _
          have hbk4 : Blk (W3.alloc (.cells #[.string ⟨y.id.toArray⟩, .string ⟨y.sec.toArray⟩, .bool y.pub, .slice g0 y.red.length h0, .slice g1' y.sco.length h1, .slice g2 y.gra.length h2] 32)) W3.heap.size 32 (c6 y (.slice g0 y.red.length h0, .slice g1' y.sco.length h1, .slice g2 y.gra.length h2)) := Blk.new W3 _ _
          have how4 : OwC (W3.alloc (.cells #[.string ⟨y.id.toArray⟩, .string ⟨y.sec.toArray⟩, .bool y.pub, .slice g0 y.red.length h0, .slice g1' y.sco.length h1, .slice g2 y.gra.length h2] 32)) W2.heap.size y (.slice g0 y.red.length h0, .slice g1' y.sco.length h1, .slice g2 y.gra.length h2) := how3.keep (fun g _ hl => hbA.block g hl)
          have hb24 : Below W2.heap.size W2 (W3.alloc (.cells #[.string ⟨y.id.toArray⟩, .string ⟨y.sec.toArray⟩, .bool y.pub, .slice g0 y.red.length h0, .slice g1' y.sco.length h1, .slice g2 y.gra.length h2] 32)) := hb3.trans (hbA.mono hb3.size)
          have hwp := how4.wr
          have HWP := Lib.hid (wipe_any y (.slice g0 y.red.length h0, .slice g1' y.sco.length h1, .slice g2 y.gra.length h2) (W3.alloc (.cells #[.string ⟨y.id.toArray⟩, .string ⟨y.sec.toArray⟩, .bool y.pub, .slice g0 y.red.length h0, .slice g1' y.sco.length h1, .slice g2 y.gra.length h2] 32)) hwp.1 hwp.2.1 hwp.2.2 HLN.out.1.1 HLN.out.1.2.1 HLN.out.1.2.2)
          unfold av at HWP
          have HO4 := Lib.hid (And.intro how4 hb24)
          have c0 := hbk4.cell 0 rfl
          have c1 := hbk4.cell 1 rfl
          have c2 := hbk4.cell 2 rfl
          have c3 := hbk4.cell 3 rfl
          have c4 := hbk4.cell 4 rfl
          have c5 := hbk4.cell 5 rfl
          clear hbA hbk4 how4 how3 hb3 hb24 hwp HFI d0
          go_wp2_with fail
          refine HWP.out.mono ?_
          rintro e W5 ⟨rfl, hou5⟩
          have hb25 := HO4.out.2.trans (hou5.below HO4.out.2.size (fun g hg => (HO4.out.1.ge hg).1))
          have HK5 := Lib.hid (HK2.out.below hb25)
          clear hou5 hb25 HWP c0 c1 c2 c3 c4 c5
          have d0 := HC0.out W5 HK5.out.bel
          have hsc := scope_any _ L sl y.id (.slice none 0 0) [] W5 HK5.out.ro.rr (by have := HLN.out.2.1; omega) (RdS.nil _) (by decide)
          rw [HFC.out.1, HFC.out.2, Option.isSome_some, given_nil2] at hsc
          have HSC := Lib.hid hsc
          clear hsc
          go_wp2_with fail
          refine HSC.out.mono ?_
          rintro e W6 ⟨sv6, rfl, hos6, hb6⟩
          have hwr6 := Wr.of_own hos6
          have hsl3 : y.sco.length ≤ 1048576 := HLN.out.1.2.1
          obtain ⟨sa, sc6, e6⟩ := hwr6.shape
          subst e6
          have HOS6 := Lib.hid (fun g hg => (World.ownsRow.lt hos6 g hg).1)
          have HB6' := Lib.hid hb6
          clear hos6 hb6 d0 HSC
          go_wp2_with fail
          go_loopw [24] (fun i wz => ∃ k2 : Nat, k2 ≤ y.sco.length ∧ i = .int .i64 (k2 : Int) ∧ Wr W6.heap.size wz (.slice sa y.sco.length sc6) y.sco.length ∧ Below W5.heap.size W5 wz) (fun i _ => y.sco.length - (intOf i).toNat)
          case atStart => exact ⟨0, Nat.zero_le _, rfl, hwr6, HB6'.out⟩
          case round =>
            clear hwr6
            obtain ⟨k2, hk2, rfl, hwz, hbz⟩ := hrel
            have HWZ := Lib.hid (And.intro hwz hbz)
            by_cases hkk : k2 < y.sco.length
            case neg =>
              have g2' : ¬ (k2 : Int) < (y.sco.length : Int) := by omega
              have HK6 := Lib.hid (HK5.out.below hbz)
              clear hwz hbz
              go_wp2_with fail
              go_roundw
              case rel => exact ⟨k + 1, by omega, rfl, by go_num, HK6.out⟩
              case measure => simp [intOf]; omega
            case pos =>
              have g2' : (k2 : Int) < (y.sco.length : Int) := by omega
              obtain ⟨gb, gcs, rfl, hgb, hgn, hgl⟩ := hwz.pos (by omega)
              obtain ⟨xu, hxu⟩ : ∃ xu, gcs[k2]? = some xu := ⟨_, List.getElem?_eq_getElem (by omega)⟩
              have q1 := hgb.cell k2 hxu
              have q2 := hgb.frozen k2
              have q3 : wr.cell? ⟨gb, 0 + k2, none⟩ = some xu := by rw [Nat.zero_add]; exact q1
              have q4 : wr.frozen? ⟨gb, 0 + k2, none⟩ = false := by rw [Nat.zero_add]; exact q2
              have HGB := Lib.hid (HOS6.out gb rfl)
              clear hwz hbz hgb hgn hgl hxu
              go_wp2_with fail
              go_roundw
              case rel => exact ⟨k2 + 1, by omega, by go_num, HWZ.out.1.set _ _ _, HWZ.out.2.setCell HGB.out _⟩
              case measure => simp [intOf]; omega
    case pos =>
      have g1 : (k : Int) < (L.length : Int) := by omega
      obtain ⟨y, hy⟩ : ∃ y, L[k]? = some y := ⟨_, List.getElem?_eq_getElem hkn⟩
      obtain ⟨b, o, c9, e9, hbB, hcel⟩ := HL.out.cel (by omega)
      obtain ⟨rfl, rfl⟩ : a = some ⟨b, o, none⟩ ∧ c = c9 := by cases e9; exact ⟨rfl, rfl⟩
      have hrow := HL.out.row k y hy
      have hcl : ∀ (j : Nat) (u : Value), (c6 y (vs k))[j]? = some u → wr.cell? ⟨b, o + k * 6 + j, none⟩ = some u := fun j u hj => (World.cell?_of_block (a := ⟨b, o + k * 6 + j, none⟩) (hbw.block b hbB)).trans (hcel k y hy j u hj)
      have hrw := hrow.below hbw
      obtain ⟨a0, k0, e0⟩ := hrow.1.1.slice
      obtain ⟨a1, k1, e1⟩ := hrow.2.1.1.slice
      obtain ⟨a2, k2, e2⟩ := hrow.2.2.1.slice
      obtain ⟨v, hv⟩ : ∃ v, v = vs k := ⟨_, rfl⟩
      rw [← hv] at hrow hcl hrw e0 e1 e2
      obtain ⟨v0, v1, v2⟩ := v
      simp only at e0 e1 e2
      subst e0 e1 e2
      -- COPIES by gen_roll_keeps.py
      have d0 : wr.cell? ⟨b, o + k * 6, none⟩ = some (.string ⟨y.id.toArray⟩) := hcl 0 _ rfl
      have d1 := hcl 1 _ rfl
      have d2 := hcl 2 _ rfl
      have d3 := hcl 3 _ rfl
      have d4 := hcl 4 _ rfl
      have d5 := hcl 5 _ rfl
      have hrp := (HYES.out.2 k y hy).1
      have HY := Lib.hid (And.intro hy (And.intro hrw (And.intro (gra3 hrp) (And.intro hrp.r4 hrp.s32))))
      have HBX : Hid (Below wr.heap.size wr (wr.alloc (.cells #[.string ⟨y.id.toArray⟩, .string ⟨y.sec.toArray⟩, .bool y.pub, .slice a0 y.red.length k0, .slice a1 y.sco.length k1, .slice a2 y.gra.length k2] 32))) := Lib.hid ((Below.refl _ _).alloc (Nat.le_refl _) _)
      have HBK : Hid (Blk (wr.alloc (.cells #[.string ⟨y.id.toArray⟩, .string ⟨y.sec.toArray⟩, .bool y.pub, .slice a0 y.red.length k0, .slice a1 y.sco.length k1, .slice a2 y.gra.length k2] 32)) wr.heap.size 32 (c6 y (.slice a0 y.red.length k0, .slice a1 y.sco.length k1, .slice a2 y.gra.length k2))) := Lib.hid (Blk.new wr _ _)
      clear hy hrow hcl hrw hcel hbB hv hrp e9 hcop hbw
      have HSZ : Hid (wr.heap.size + 1 ≤ wr.heap.size + 1) := Lib.hid (Nat.le_refl _)
      have HO : Hid (((wr.alloc (.cells #[.string ⟨y.id.toArray⟩, .string ⟨y.sec.toArray⟩, .bool y.pub, .slice a0 y.red.length k0, .slice a1 y.sco.length k1, .slice a2 y.gra.length k2] 32)).alloc (.cells #[] 9)).ownsRow (wr.heap.size + 1) 9 1 (.slice (some ⟨wr.heap.size + 1, 0, none⟩) 0 0) 0 []) := Lib.hid (by
        have := own_fresh (wr.alloc (.cells #[.string ⟨y.id.toArray⟩, .string ⟨y.sec.toArray⟩, .bool y.pub, .slice a0 y.red.length k0, .slice a1 y.sco.length k1, .slice a2 y.gra.length k2] 32)) 9 1
        have e : (wr.alloc (.cells #[.string ⟨y.id.toArray⟩, .string ⟨y.sec.toArray⟩, .bool y.pub, .slice a0 y.red.length k0, .slice a1 y.sco.length k1, .slice a2 y.gra.length k2] 32)).heap.size = wr.heap.size + 1 := by simp
        rw [e] at this
        exact this)
      have hbE : Below wr.heap.size wr ((wr.alloc (.cells #[.string ⟨y.id.toArray⟩, .string ⟨y.sec.toArray⟩, .bool y.pub, .slice a0 y.red.length k0, .slice a1 y.sco.length k1, .slice a2 y.gra.length k2] 32)).alloc (.cells #[] 9)) := HBX.out.alloc HBX.out.size _
      have hsE : ((wr.alloc (.cells #[.string ⟨y.id.toArray⟩, .string ⟨y.sec.toArray⟩, .bool y.pub, .slice a0 y.red.length k0, .slice a1 y.sco.length k1, .slice a2 y.gra.length k2] 32)).alloc (.cells #[] 9)).heap.size = wr.heap.size + 1 + 1 := by simp
      have HR : Hid (Rd ((wr.alloc (.cells #[.string ⟨y.id.toArray⟩, .string ⟨y.sec.toArray⟩, .bool y.pub, .slice a0 y.red.length k0, .slice a1 y.sco.length k1, .slice a2 y.gra.length k2] 32)).alloc (.cells #[] 9)) 1 (.slice a0 y.red.length k0) y.red.length (y.red.map sv)) := Lib.hid (HY.out.2.1.1.1.below hbE)
      have HBE := Lib.hid (And.intro hbE hsE)
      have dq := HBK.out.cell 3 rfl
      have de := (HBK.out.alloc (.cells #[] 9)).cell 3 rfl
      have hlen : y.red.length ≤ 32 := by have := HY.out.2.2.2.1; omega
      have HLQ := Lib.hid hlen
      clear hbE hlen hsE
      go_wp2_with (first | (at_builtin; refine wpList_app (by rfl) _ _ 30 rfl 9 (wr.heap.size + 1) i0 (.string ⟨#[]⟩) 1 16 Try.underlying30 hi hz0 hz1 hz2 rfl (by decide) (.slice (some ⟨wr.heap.size + 1, 0, none⟩) 0 0) 0 [] (by rfl) HO.out (.slice a0 y.red.length k0) y.red.length (y.red.map sv) (by rfl) HR.out (sv_one _) (by have := HLQ.out; unfold maxLen; omega) (by have := HLQ.out; omega) (by have := HBE.out.2; omega) ?_) | go_in)
      intro nv z0 hown hg hid
      replace hg : ((wr.alloc (.cells #[.string ⟨y.id.toArray⟩, .string ⟨y.sec.toArray⟩, .bool y.pub, .slice a0 y.red.length k0, .slice a1 y.sco.length k1, .slice a2 y.gra.length k2] 32)).alloc (.cells #[] 9)).grownBy z0 (some (wr.heap.size + 1)) := hg
      have hbz := HBE.out.1.grown hg HBE.out.1.size (fun r hr => by cases hr; have := HSZ.out; omega)
      have hkz := (HBK.out.alloc (.cells #[] 9)).grown hg (fun r hr => by cases hr; have := HSZ.out; omega)
      obtain ⟨p0, m0, e0⟩ := (Rd.of_own hown).slice
      subst e0
      have hkeep : ∀ g, g < wr.heap.size + 1 → g ≠ wr.heap.size → z0.heap[g]? = wr.heap[g]? := fun g h1 h2 => by
        have e1 := hg.block g (by have := HBE.out.2; omega) (fun e => by cases e; omega)
        have e2 : ((wr.alloc (.cells #[.string ⟨y.id.toArray⟩, .string ⟨y.sec.toArray⟩, .bool y.pub, .slice a0 y.red.length k0, .slice a1 y.sco.length k1, .slice a2 y.gra.length k2] 32)).alloc (.cells #[] 9)).heap[g]? = (wr.alloc (.cells #[.string ⟨y.id.toArray⟩, .string ⟨y.sec.toArray⟩, .bool y.pub, .slice a0 y.red.length k0, .slice a1 y.sco.length k1, .slice a2 y.gra.length k2] 32)).heap[g]? := Lib.alloc_old _ _ _ (by simp; omega)
        rw [e1, e2]
        exact Lib.alloc_old _ _ _ (by omega)
      have HK0 := Lib.hid hkeep
      have HZ0 := Lib.hid (And.intro hown (And.intro (show wr.heap.size + 1 ≤ wr.heap.size + 1 from by have := HSZ.out; omega) (show wr.heap.size + 1 + 1 ≤ z0.heap.size from by have h1 := hg.size; have h2 := HBE.out.2; omega)))
      have r0 := hkz.cell 3 rfl
      have r1 := hkz.frozen 3
      have hset : Blk (z0.setCell ⟨wr.heap.size, 3, none⟩ (.slice p0 y.red.length m0)) wr.heap.size 32 (c6 y (.slice p0 y.red.length m0, .slice a1 y.sco.length k1, .slice a2 y.gra.length k2)) := hkz.set 3 _
      have hbs : Below wr.heap.size wr (z0.setCell ⟨wr.heap.size, 3, none⟩ (.slice p0 y.red.length m0)) := hbz.setCell (Nat.le_refl _) _
      clear HBX HBK HSZ
      have HBX := Lib.hid hbs
      have HBK := Lib.hid hset
      have HSZ := Lib.hid (show wr.heap.size + 1 ≤ z0.heap.size from by have := HZ0.out.2; omega)
      clear dq de hbz hkz hown hg hid HO HR HLQ HBE hset hbs hkeep
      have HO : Hid (((z0.setCell ⟨wr.heap.size, 3, none⟩ (.slice p0 y.red.length m0)).alloc (.cells #[] 9)).ownsRow (z0.heap.size) 9 1 (.slice (some ⟨z0.heap.size, 0, none⟩) 0 0) 0 []) := Lib.hid (by
        have := own_fresh (z0.setCell ⟨wr.heap.size, 3, none⟩ (.slice p0 y.red.length m0)) 9 1
        have e : (z0.setCell ⟨wr.heap.size, 3, none⟩ (.slice p0 y.red.length m0)).heap.size = z0.heap.size := by simp
        rw [e] at this
        exact this)
      have hbE : Below wr.heap.size wr ((z0.setCell ⟨wr.heap.size, 3, none⟩ (.slice p0 y.red.length m0)).alloc (.cells #[] 9)) := HBX.out.alloc HBX.out.size _
      have hsE : ((z0.setCell ⟨wr.heap.size, 3, none⟩ (.slice p0 y.red.length m0)).alloc (.cells #[] 9)).heap.size = z0.heap.size + 1 := by simp
      have HR : Hid (Rd ((z0.setCell ⟨wr.heap.size, 3, none⟩ (.slice p0 y.red.length m0)).alloc (.cells #[] 9)) 1 (.slice a1 y.sco.length k1) y.sco.length (y.sco.map sv)) := Lib.hid (HY.out.2.1.2.1.1.below hbE)
      have HBE := Lib.hid (And.intro hbE hsE)
      have dq := HBK.out.cell 4 rfl
      have de := (HBK.out.alloc (.cells #[] 9)).cell 4 rfl
      have hlen : y.sco.length ≤ 32 := by have := HY.out.2.2.2.2; omega
      have HLQ := Lib.hid hlen
      clear hbE hlen hsE
      go_wp2_with (first | (at_builtin; refine wpList_app (by rfl) _ _ 30 rfl 9 (z0.heap.size) i0 (.string ⟨#[]⟩) 1 16 Try.underlying30 hi hz0 hz1 hz2 rfl (by decide) (.slice (some ⟨z0.heap.size, 0, none⟩) 0 0) 0 [] (by rfl) HO.out (.slice a1 y.sco.length k1) y.sco.length (y.sco.map sv) (by rfl) HR.out (sv_one _) (by have := HLQ.out; unfold maxLen; omega) (by have := HLQ.out; omega) (by have := HBE.out.2; omega) ?_) | go_in)
      intro nv z1 hown hg hid
      replace hg : ((z0.setCell ⟨wr.heap.size, 3, none⟩ (.slice p0 y.red.length m0)).alloc (.cells #[] 9)).grownBy z1 (some (z0.heap.size)) := hg
      have hbz := HBE.out.1.grown hg HBE.out.1.size (fun r hr => by cases hr; have := HSZ.out; omega)
      have hkz := (HBK.out.alloc (.cells #[] 9)).grown hg (fun r hr => by cases hr; have := HSZ.out; omega)
      obtain ⟨p1, m1, e1⟩ := (Rd.of_own hown).slice
      subst e1
      have hkeep : ∀ g, g < z0.heap.size → g ≠ wr.heap.size → z1.heap[g]? = z0.heap[g]? := fun g h1 h2 => by
        have e1 := hg.block g (by have := HBE.out.2; omega) (fun e => by cases e; omega)
        have e2 : ((z0.setCell ⟨wr.heap.size, 3, none⟩ (.slice p0 y.red.length m0)).alloc (.cells #[] 9)).heap[g]? = (z0.setCell ⟨wr.heap.size, 3, none⟩ (.slice p0 y.red.length m0)).heap[g]? := Lib.alloc_old _ _ _ (by simp; omega)
        rw [e1, e2]
        exact Below.heap_setCell _ _ _ _ h2
      have HK1 := Lib.hid hkeep
      have HZ1 := Lib.hid (And.intro hown (And.intro (show wr.heap.size + 1 ≤ z0.heap.size from by have := HSZ.out; omega) (show z0.heap.size + 1 ≤ z1.heap.size from by have h1 := hg.size; have h2 := HBE.out.2; omega)))
      have r0 := hkz.cell 4 rfl
      have r1 := hkz.frozen 4
      have hset : Blk (z1.setCell ⟨wr.heap.size, 4, none⟩ (.slice p1 y.sco.length m1)) wr.heap.size 32 (c6 y (.slice p0 y.red.length m0, .slice p1 y.sco.length m1, .slice a2 y.gra.length k2)) := hkz.set 4 _
      have hbs : Below wr.heap.size wr (z1.setCell ⟨wr.heap.size, 4, none⟩ (.slice p1 y.sco.length m1)) := hbz.setCell (Nat.le_refl _) _
      clear HBX HBK HSZ
      have HBX := Lib.hid hbs
      have HBK := Lib.hid hset
      have HSZ := Lib.hid (show wr.heap.size + 1 ≤ z1.heap.size from by have := HZ1.out.2; omega)
      clear dq de hbz hkz hown hg hid HO HR HLQ HBE hset hbs hkeep
      have HO : Hid (((z1.setCell ⟨wr.heap.size, 4, none⟩ (.slice p1 y.sco.length m1)).alloc (.cells #[] 9)).ownsRow (z1.heap.size) 9 1 (.slice (some ⟨z1.heap.size, 0, none⟩) 0 0) 0 []) := Lib.hid (by
        have := own_fresh (z1.setCell ⟨wr.heap.size, 4, none⟩ (.slice p1 y.sco.length m1)) 9 1
        have e : (z1.setCell ⟨wr.heap.size, 4, none⟩ (.slice p1 y.sco.length m1)).heap.size = z1.heap.size := by simp
        rw [e] at this
        exact this)
      have hbE : Below wr.heap.size wr ((z1.setCell ⟨wr.heap.size, 4, none⟩ (.slice p1 y.sco.length m1)).alloc (.cells #[] 9)) := HBX.out.alloc HBX.out.size _
      have hsE : ((z1.setCell ⟨wr.heap.size, 4, none⟩ (.slice p1 y.sco.length m1)).alloc (.cells #[] 9)).heap.size = z1.heap.size + 1 := by simp
      have HR : Hid (Rd ((z1.setCell ⟨wr.heap.size, 4, none⟩ (.slice p1 y.sco.length m1)).alloc (.cells #[] 9)) 1 (.slice a2 y.gra.length k2) y.gra.length (y.gra.map sv)) := Lib.hid (HY.out.2.1.2.2.1.below hbE)
      have HBE := Lib.hid (And.intro hbE hsE)
      have dq := HBK.out.cell 5 rfl
      have de := (HBK.out.alloc (.cells #[] 9)).cell 5 rfl
      have hlen : y.gra.length ≤ 32 := by have := HY.out.2.2.1; omega
      have HLQ := Lib.hid hlen
      clear hbE hlen hsE
      go_wp2_with (first | (at_builtin; refine wpList_app (by rfl) _ _ 30 rfl 9 (z1.heap.size) i0 (.string ⟨#[]⟩) 1 16 Try.underlying30 hi hz0 hz1 hz2 rfl (by decide) (.slice (some ⟨z1.heap.size, 0, none⟩) 0 0) 0 [] (by rfl) HO.out (.slice a2 y.gra.length k2) y.gra.length (y.gra.map sv) (by rfl) HR.out (sv_one _) (by have := HLQ.out; unfold maxLen; omega) (by have := HLQ.out; omega) (by have := HBE.out.2; omega) ?_) | go_in)
      intro nv z2 hown hg hid
      replace hg : ((z1.setCell ⟨wr.heap.size, 4, none⟩ (.slice p1 y.sco.length m1)).alloc (.cells #[] 9)).grownBy z2 (some (z1.heap.size)) := hg
      have hbz := HBE.out.1.grown hg HBE.out.1.size (fun r hr => by cases hr; have := HSZ.out; omega)
      have hkz := (HBK.out.alloc (.cells #[] 9)).grown hg (fun r hr => by cases hr; have := HSZ.out; omega)
      obtain ⟨p2, m2, e2⟩ := (Rd.of_own hown).slice
      subst e2
      have hkeep : ∀ g, g < z1.heap.size → g ≠ wr.heap.size → z2.heap[g]? = z1.heap[g]? := fun g h1 h2 => by
        have e1 := hg.block g (by have := HBE.out.2; omega) (fun e => by cases e; omega)
        have e2 : ((z1.setCell ⟨wr.heap.size, 4, none⟩ (.slice p1 y.sco.length m1)).alloc (.cells #[] 9)).heap[g]? = (z1.setCell ⟨wr.heap.size, 4, none⟩ (.slice p1 y.sco.length m1)).heap[g]? := Lib.alloc_old _ _ _ (by simp; omega)
        rw [e1, e2]
        exact Below.heap_setCell _ _ _ _ h2
      have HK2 := Lib.hid hkeep
      have HZ2 := Lib.hid (And.intro hown (And.intro (show wr.heap.size + 1 ≤ z1.heap.size from by have := HSZ.out; omega) (show z1.heap.size + 1 ≤ z2.heap.size from by have h1 := hg.size; have h2 := HBE.out.2; omega)))
      have r0 := hkz.cell 5 rfl
      have r1 := hkz.frozen 5
      have hset : Blk (z2.setCell ⟨wr.heap.size, 5, none⟩ (.slice p2 y.gra.length m2)) wr.heap.size 32 (c6 y (.slice p0 y.red.length m0, .slice p1 y.sco.length m1, .slice p2 y.gra.length m2)) := hkz.set 5 _
      have hbs : Below wr.heap.size wr (z2.setCell ⟨wr.heap.size, 5, none⟩ (.slice p2 y.gra.length m2)) := hbz.setCell (Nat.le_refl _) _
      clear HBX HBK HSZ
      have HBX := Lib.hid hbs
      have HBK := Lib.hid hset
      have HSZ := Lib.hid (show wr.heap.size + 1 ≤ z2.heap.size from by have := HZ2.out.2; omega)
      clear dq de hbz hkz hown hg hid HO HR HLQ HBE hset hbs hkeep
      have HOW : Hid (OwC (z2.setCell ⟨wr.heap.size, 5, none⟩ (.slice p2 y.gra.length m2)) (wr.heap.size + 1) y (.slice p0 y.red.length m0, .slice p1 y.sco.length m1, .slice p2 y.gra.length m2)) := Lib.hid ⟨
        own_mono (own_keepB HZ0.out.1 (fun g hg => by
          have hl := World.ownsRow.lt HZ0.out.1 g hg
          rw [Below.heap_setCell _ _ _ _ (show g ≠ wr.heap.size by omega), HK2.out g (by have := HZ1.out.2; omega) (by omega)]
          exact HK1.out g (by omega) (by omega))) (Nat.le_refl _),
        own_mono (own_keepB HZ1.out.1 (fun g hg => by
          have hl := World.ownsRow.lt HZ1.out.1 g hg
          rw [Below.heap_setCell _ _ _ _ (show g ≠ wr.heap.size by have := HZ1.out.2.1; omega)]
          exact HK2.out g (by omega) (by have := HZ1.out.2.1; omega))) HZ1.out.2.1,
        own_mono (own_keepB HZ2.out.1 (fun g hg => by
          have hl := World.ownsRow.lt HZ2.out.1 g hg
          exact Below.heap_setCell _ _ _ _ (show g ≠ wr.heap.size by have := HZ2.out.2.1; omega))) HZ2.out.2.1,
        fun g h0 h1 => (by have l0 := World.ownsRow.lt HZ0.out.1 g h0; have l1 := World.ownsRow.lt HZ1.out.1 g h1; omega),
        fun g h0 h1 => (by have l0 := World.ownsRow.lt HZ0.out.1 g h0; have l1 := World.ownsRow.lt HZ2.out.1 g h1; have := HZ1.out.2.2; omega),
        fun g h0 h1 => (by have l0 := World.ownsRow.lt HZ1.out.1 g h0; have l1 := World.ownsRow.lt HZ2.out.1 g h1; omega)⟩
      have c0 := HBK.out.cell 0 rfl
      have c1 := HBK.out.cell 1 rfl
      have c2 := HBK.out.cell 2 rfl
      have c3 := HBK.out.cell 3 rfl
      have c4 := HBK.out.cell 4 rfl
      have c5 := HBK.out.cell 5 rfl
      have hb4 : Below (z2.setCell ⟨wr.heap.size, 5, none⟩ (.slice p2 y.gra.length m2)).heap.size (z2.setCell ⟨wr.heap.size, 5, none⟩ (.slice p2 y.gra.length m2)) ((z2.setCell ⟨wr.heap.size, 5, none⟩ (.slice p2 y.gra.length m2)).alloc (.cells #[.string ⟨y.id.toArray⟩, .string ⟨y.sec.toArray⟩, .bool y.pub, .slice p0 y.red.length m0, .slice p1 y.sco.length m1, .slice p2 y.gra.length m2] 32)) := (Below.refl _ _).alloc (Nat.le_refl _) _
      have hx3 : (z2.setCell ⟨wr.heap.size, 5, none⟩ (.slice p2 y.gra.length m2)).heap.size = z2.heap.size := by simp
      have hkt := Blk.new (z2.setCell ⟨wr.heap.size, 5, none⟩ (.slice p2 y.gra.length m2)) 32 (c6 y (.slice p0 y.red.length m0, .slice p1 y.sco.length m1, .slice p2 y.gra.length m2))
      rw [hx3] at hkt
      have HRT : Hid (Rd ((z2.setCell ⟨wr.heap.size, 5, none⟩ (.slice p2 y.gra.length m2)).alloc (.cells #[.string ⟨y.id.toArray⟩, .string ⟨y.sec.toArray⟩, .bool y.pub, .slice p0 y.red.length m0, .slice p1 y.sco.length m1, .slice p2 y.gra.length m2] 32)) 6 (.slice (some ⟨z2.heap.size, 0, none⟩) 1 1) 1 (c6 y (.slice p0 y.red.length m0, .slice p1 y.sco.length m1, .slice p2 y.gra.length m2))) := Lib.hid ⟨rfl, .inr ⟨z2.heap.size, 0, 1, rfl, Nat.le_refl _, fun j u hj => by rw [Nat.zero_add]; exact hkt.cell j hj⟩⟩
      have HB4 := Lib.hid hb4
      have hbx4 := HBX.out.alloc HBX.out.size (.cells #[.string ⟨y.id.toArray⟩, .string ⟨y.sec.toArray⟩, .bool y.pub, .slice p0 y.red.length m0, .slice p1 y.sco.length m1, .slice p2 y.gra.length m2] 32)
      have HOI := Lib.hid (own_below HCOP.out.own hbx4)
      have HBX4 := Lib.hid hbx4
      have HBS : Hid (w.heap.size ≤ ((z2.setCell ⟨wr.heap.size, 5, none⟩ (.slice p2 y.gra.length m2)).alloc (.cells #[.string ⟨y.id.toArray⟩, .string ⟨y.sec.toArray⟩, .bool y.pub, .slice p0 y.red.length m0, .slice p1 y.sco.length m1, .slice p2 y.gra.length m2] 32)).heap.size) := Lib.hid (Nat.le_trans HB.out.size hbx4.size)
      obtain ⟨i1, hj0, hj1, hj2, hj3⟩ := info_parts cl_row
      clear hb4 hkt hbx4 HK0 HK1 HK2 HZ0 HZ1
      go_wp2_with (first | (at_builtin; refine wpList_app (by rfl) _ _ 22 rfl 32 w.heap.size i1 (av noC z3) 6 112 Try.underlying22 hj0 hj1 hj2 hj3 rfl (by decide) (.slice iva k ivc) k (csC (L.take k) us) (by rfl) HOI.out (.slice (some ⟨z2.heap.size, 0, none⟩) 1 1) 1 (c6 y (.slice p0 y.red.length m0, .slice p1 y.sco.length m1, .slice p2 y.gra.length m2)) (by rfl) HRT.out (c6_one y rfl rfl rfl) (by unfold maxLen; omega) (by omega) HBS.out ?_) | go_in)
      intro nv zz hown hg hid
      have hcn := Cop.next HCOP.out HY.out.1 (Nat.le_succ _) (by have := HB.out.size; omega) HOW.out HBX.out HB4.out hown hg (by simpa using hid)
      have hbn : Below w.heap.size w zz := (HB.out.trans (HBX4.out.mono HB.out.size)).grown hg HBS.out (fun r hr => (World.ownsRow.lt HCOP.out.own r hr).1)
      have HN := Lib.hid (And.intro hcn hbn)
      clear hown hg hid hcn hbn c0 c1 c2 c3 c4 c5 r0 r1 d0 d1 d2 d3 d4 d5
      go_wp2_with fail
      go_roundw
      case rel => exact ⟨k + 1, _, by omega, by go_num, HN.out.1, HN.out.2⟩
      case measure => simp [intOf]; omega
end Go.Proofs.Ytonbpekogfaibaa.Ro
