/-
  Chapter 15, the reference: Header, shown.
-/
import Derived.Test.YtonbpekogfaibaaGreatP1
import Derived.Test.YtonbpekogfaibaaGreatOv
namespace Go.Proofs.YtonbpekogfaibaaGreat.Ro
open Go.RowKit Go.Maps Go.Sort
set_option linter.unusedVariables false
set_option linter.unusedSimpArgs false
set_option maxRecDepth 100000

set_option maxHeartbeats 4000000 in
theorem rheader_any (id sec : By) (w : World) (h1 : id.length ≤ 10000000) (h2 : sec.length ≤ 10000000) :
    Calls Tryz.prog 12 #[.string ⟨id.toArray⟩, .string ⟨sec.toArray⟩] w fun e w' => e = .returned (.string ⟨(hdr id sec).toArray⟩) ∧ Below w.heap.size w w' := by
  have l1 := Fs.quote_len id
  have l2 := Fs.quote_len sec
  have Q1 := Lib.hid (rquote_any ⟨id.toArray⟩ w (by rw [st_size]; omega))
  have Q2 : Hid (∀ W, Calls Tryz.prog 29 #[.string ⟨sec.toArray⟩] W fun e w' => e = .returned (.string ⟨(Fs.quote sec).toArray⟩) ∧ Below W.heap.size W w') := Lib.hid (fun W => rquote_any ⟨sec.toArray⟩ W (by rw [st_size]; omega))
  have HR : Hid (hdr id sec = bsc ++ Oc.basic (Fs.quote id ++ [58] ++ Fs.quote sec)) := Lib.hid rfl
  simp only [List.toList_toArray] at Q1 Q2
  obtain ⟨q1, hq1⟩ : ∃ q, q = Fs.quote id := ⟨_, rfl⟩
  obtain ⟨q2, hq2⟩ : ∃ q, q = Fs.quote sec := ⟨_, rfl⟩
  rw [← hq1] at Q1 HR l1
  rw [← hq2] at Q2 HR l2
  obtain ⟨q3, hq3⟩ : ∃ q, q = q1 ++ [58] := ⟨_, rfl⟩
  obtain ⟨q4, hq4⟩ : ∃ q, q = q3 ++ q2 := ⟨_, rfl⟩
  rw [← hq3, ← hq4] at HR
  have l3 : q3.length = q1.length + 1 := by rw [hq3]; simp
  have l4 : q4.length = q3.length + q2.length := by rw [hq4]; simp
  have HL := Lib.hid (show q4.length ≤ 100000000 by omega)
  have hbl : (Oc.basic q4).length ≤ 8 * q4.length + 8 := by
    have := Oc.sixF_len q4
    unfold Oc.basic
    have h4 := Oc.padN_lt (Oc.sixF q4).length
    rw [List.length_append, List.length_replicate]; omega
  have HB : Hid (∀ (v : Value) W, Rd W 1 v q4.length (Lib.byteCells q4) → Calls Tryz.prog 28 #[v] W fun e w' => e = .returned (.string ⟨(Oc.basic q4).toArray⟩) ∧ Below W.heap.size W w') := Lib.hid (fun v W hr => Oc.basic01_any v q4 W hr HL.out)
  obtain ⟨q5, hq5⟩ : ∃ q, q = Oc.basic q4 := ⟨_, rfl⟩
  rw [← hq5] at HB HR hbl
  have A3 := fun W => st_add q1 [58] q3 (by simp; omega) hq3 W
  have A4 := fun W => st_add q3 q2 q4 (by omega) hq4 W
  have A5 := fun W => st_add bsc q5 (bsc ++ q5) (by show 6 + _ ≤ _; omega) rfl W
  clear hq1 hq2 hq3 hq4 hq5 l1 l2 l3 l4 hbl h1 h2
  unfold bsc at A5
  go_enter Tryz.func12, Tryz.ntmps12
  go_wp2_with fail
  refine Q1.out.mono ?_
  rintro e w1 ⟨rfl, hb1⟩
  go_wp2_with fail
  refine (Q2.out _).mono ?_
  rintro e w2 ⟨rfl, hb2⟩
  have HB2 := Lib.hid (hb1.trans (hb2.mono hb1.size))
  clear hb1 hb2
  go_wp2_with (with_reducible refine wpList_bytes rfl 9 62 (.tmp 10) rfl q4 rfl Tryz.underlying9 5 Tryz.underlying62 Tryz.underlying5 ?_)
  intro bv w3 hr3 hb3
  have HB3 := Lib.hid (HB2.out.trans (hb3.mono HB2.out.size))
  have HBB := Lib.hid (HB.out bv w3 hr3)
  clear hr3 hb3
  go_wp2_with fail
  refine HBB.out.mono ?_
  rintro e w4 ⟨rfl, hb4⟩
  have HB4 := Lib.hid (HB3.out.trans (hb4.mono HB3.out.size))
  clear hb4
  go_wp2_with fail
  go_ret
  exact ⟨by rw [HR.out]; rfl, HB4.out⟩
/-- bytes that are read, as a text -/
theorem conv_rd {w : World} {v : Value} {l : By} (h : Rd w 1 v l.length (Lib.byteCells l)) : Sem.run Tryz.prog (convert 62 9 v) w = .ok (.string ⟨l.toArray⟩) w := by
  rcases h.2 with ⟨⟨a, c, rfl⟩, h0⟩ | ⟨b, o, c, rfl, hle, hc⟩
  · obtain rfl : l = [] := List.eq_nil_of_length_eq_zero h0
    rw [run_convert_bytes_string w 62 9 5 a 0 c Tryz.underlying62 Tryz.underlying5 Tryz.underlying9]
    cases a with
    | none => rfl
    | some a => rw [run_bytesToString w a 0 c [] (by rfl)]; rfl
  · refine run_convert_bytes_back w 62 9 5 ⟨b, o, none⟩ c l Tryz.underlying62 Tryz.underlying5 Tryz.underlying9 fun j hj => ?_
    rw [Addr.add_lit]
    exact hc j _ (by simp [Lib.byteCells, hj])
theorem cut_at {b : By} {k : Nat} (hno : ∀ j, j < k → b[j]? ≠ some 58) (hk : b[k]? = some 58) : Cut.before b 58 = b.take k ∧ Cut.after b 58 = b.drop (k + 1) ∧ Cut.has b 58 = true := by
  have h1 : Cut.before b 58 = b.take k := by
    induction b generalizing k with
    | nil => simp at hk
    | cons c r ih =>
      cases k with
      | zero => 
        obtain rfl : c = 58 := by simpa using hk
        rfl
      | succ k =>
        have hc : c ≠ 58 := by simpa using hno 0 (by omega)
        unfold Cut.before
        rw [List.takeWhile_cons, if_pos (by simpa using hc), List.take_succ_cons]
        congr 1
        exact ih (fun j hj => by simpa using hno (j + 1) (by omega)) (by simpa using hk)
  have hlt := (List.getElem?_eq_some_iff.1 hk).1
  refine ⟨h1, ?_, ?_⟩
  · unfold Cut.after
    rw [h1, List.length_take, Nat.min_eq_left (by omega)]
  · unfold Cut.has
    simpa using List.mem_of_getElem? hk
theorem cut_not {b : By} (hno : ∀ j, j < b.length → b[j]? ≠ some 58) : Cut.has b 58 = false := by
  have hn : ¬ 58 ∈ b := fun h => by
    obtain ⟨j, hj, e⟩ := List.getElem_of_mem h
    exact hno j hj (by rw [List.getElem?_eq_getElem hj, e])
  unfold Cut.has
  simpa using hn
theorem shr_none {h : By} {w : World} (hn : shownS h = none) : ShR h w (.returned (.tuple #[.string ⟨#[]⟩, .string ⟨#[]⟩, .bool false])) w := ⟨[], [], false, rfl, (fun e => (by cases e)), (fun _ => hn), Nat.zero_le _, Nat.zero_le _⟩
theorem shr_w {h : By} {w w2 : World} {e : Ending} {w' w2' : World} (hn : ShR h w e w') : ShR h w2 e w2' := hn
theorem shown_no {h : By} (hp : bsc.isPrefixOf h = true) (hu : Oc.unb (h.drop 6) = none) : shownS h = none := by
  unfold shownS; rw [if_pos hp, hu]
theorem shown_cut {h b : By} (hp : bsc.isPrefixOf h = true) (hu : Oc.unb (h.drop 6) = some b) (hc : Cut.has b 58 = false) : shownS h = none := by
  unfold shownS; rw [if_pos hp, hu]; dsimp only; rw [hc]; rfl
theorem shown_at {h b : By} {k : Nat} (hp : bsc.isPrefixOf h = true) (hu : Oc.unb (h.drop 6) = some b) (hno : ∀ j, j < k → b[j]? ≠ some 58) (hk : b[k]? = some 58) :
    (∀ ok : Bool, ok = (uqc (b.take k) == 0 && uqc (b.drop (k + 1)) == 0) → (ok = true → shownS h = some (uqv (b.take k), uqv (b.drop (k + 1)))) ∧ (ok = false → shownS h = none)) := by
  obtain ⟨h1, h2, h3⟩ := cut_at hno hk
  intro ok hok
  have e : shownS h = match Fs.unq (b.take k), Fs.unq (b.drop (k + 1)) with
    | some x, some y => some (x, y)
    | _, _ => none := by
    unfold shownS; rw [if_pos hp, hu]; dsimp only; rw [h3, if_pos rfl, h1, h2]
    cases Fs.unq (b.take k) <;> cases Fs.unq (b.drop (k + 1)) <;> rfl
  rcases uqc_cases (b.take k) with ⟨c1, c2⟩ | ⟨c1, c2⟩
  · rcases uqc_cases (b.drop (k + 1)) with ⟨c3, c4⟩ | ⟨c3, c4⟩
    · rw [c2, c4] at e
      rw [e]; subst hok; simp [c1, c3]
    · rw [c2, c4] at e
      rw [e]; subst hok; simp [c3]
  · rw [c2] at e
    rw [e]; subst hok; simp [c1]
set_option maxHeartbeats 4000000 in
theorem rshown_any (h : By) (w : World) (hl : h.length ≤ 10000000) :
    Calls Tryz.prog 24 #[.string ⟨h.toArray⟩] w fun e w' => ShR h w e w' ∧ Below w.heap.size w w' := by
  have hsz := st_size h
  have HTO := Lib.hid (Oc.sl_to h)
  have HFR := Lib.hid (Oc.sl_from h)
  obtain ⟨SZ, hSZ⟩ : ∃ SZ, SZ = h.length := ⟨_, rfl⟩
  have HSZ := Lib.hid hSZ
  rw [← hSZ] at hsz hl
  clear hSZ
  by_cases h6 : SZ < 6
  case pos =>
    have t1 : (SZ : Int) < 6 := by omega
    have HN : Hid (shownS h = none) := Lib.hid (by
      unfold shownS
      rw [if_neg]
      intro hp
      have := (List.isPrefixOf_iff_prefix.1 hp).length_le
      have h2 := HSZ.out
      simp [bsc] at this
      omega)
    go_enter Tryz.func24, Tryz.ntmps24
    go_wp2_with fail
    go_ret3
    exact ⟨shr_none HN.out, Below.refl _ _⟩
  case neg =>
  have t1 : ¬ (SZ : Int) < 6 := by omega
  have hto := HTO.out 6 (by rw [← HSZ.out]; omega)
  have hfr := HFR.out 6 (by rw [← HSZ.out]; omega)
  have hto' : ∀ W, (Instr.slice 9 (.string ⟨h.toArray⟩) none (some (.int .i64 6)) none).run Tryz.prog W = .ok (.string ⟨(h.take 6).toArray⟩) W := hto
  have hfr' : ∀ W, (Instr.slice 9 (.string ⟨h.toArray⟩) (some (.int .i64 6)) none none).run Tryz.prog W = .ok (.string ⟨(h.drop 6).toArray⟩) W := hfr
  have hpx : bsc.isPrefixOf h = true ↔ h.take 6 = bsc := by
    rw [List.isPrefixOf_iff_prefix, List.prefix_iff_eq_take]
    exact ⟨fun e => e.symm, fun e => e.symm⟩
  have HPX := Lib.hid hpx
  clear hto hfr hpx
  by_cases hp : h.take 6 = bsc
  case neg =>
    have HN : Hid (shownS h = none) := Lib.hid (by unfold shownS; rw [if_neg (fun e => hp (HPX.out.1 e))])
    have h1 : (h.take 6 == bsc) = false := by simpa using hp
    have h2 := str_ne h1
    have h3 : ((⟨(h.take 6).toArray⟩ : ByteArray).toList == (⟨#[66, 97, 115, 105, 99, 32]⟩ : ByteArray).toList) = false := h2
    have h4 : ((⟨(h.take 6).toArray⟩ : ByteArray).toList != (⟨#[66, 97, 115, 105, 99, 32]⟩ : ByteArray).toList) = true := by rw [bne, h3]; rfl
    obtain ⟨T, hT⟩ : ∃ T, T = h.take 6 := ⟨_, rfl⟩
    rw [← hT] at h1 h2 h3 h4 hto'
    unfold bsc at h1
    clear hp hT h2
    go_enter Tryz.func24, Tryz.ntmps24
    go_wp2_with fail
    go_ret3
    exact ⟨shr_none HN.out, Below.refl _ _⟩
  case pos =>
  rw [hp] at hto'
  have HP : Hid (bsc.isPrefixOf h = true) := Lib.hid (HPX.out.2 hp)
  have HD : Hid (h.length = (h.drop 6).length + 6) := Lib.hid (by rw [List.length_drop]; have := HSZ.out; omega)
  have HUB := Lib.hid (Oc.runbasic_any (h.drop 6) w (by rw [List.length_drop, ← HSZ.out]; omega))
  have huc := unc_cases (h.drop 6)
  have hbl : ∀ b, Oc.unb (h.drop 6) = some b → b.length ≤ (h.drop 6).length := fun b hb => unb_len hb
  obtain ⟨bb, hbb⟩ : ∃ bb, bb = (Oc.unb (h.drop 6)).getD [] := ⟨_, rfl⟩
  have HNO : Hid (Oc.unC (Oc.unb (h.drop 6)) ≠ 0 → shownS h = none) := Lib.hid (fun hc => by
    rcases huc with ⟨c1, _⟩ | ⟨_, c2⟩
    · exact absurd c1 hc
    · exact shown_no HP.out c2)
  have HYE : Hid (Oc.unC (Oc.unb (h.drop 6)) = 0 → Oc.unb (h.drop 6) = some bb) := Lib.hid (fun hc => by
    rcases huc with ⟨_, c2⟩ | ⟨c1, _⟩
    · rw [hbb]; exact c2
    · exact absurd hc c1)
  have HLB : Hid (bb.length ≤ h.length ∧ bb.length ≤ 10000000) := Lib.hid (by
    have h2 := HD.out
    have h3 := HSZ.out
    cases hu : Oc.unb (h.drop 6) with
    | none => rw [hu] at hbb; rw [hbb]; simp
    | some z =>
      have h1 := hbl z hu
      rw [hu] at hbb
      have h4 : bb = z := hbb
      rw [h4]; omega)
  have HNC : Hid (Oc.unb (h.drop 6) = some bb → Cut.has bb 58 = false → shownS h = none) := Lib.hid (fun h1 h2 => shown_cut HP.out h1 h2)
  have HAT : Hid (∀ k, Oc.unb (h.drop 6) = some bb → (∀ j, j < k → bb[j]? ≠ some 58) → bb[k]? = some 58 → (∀ ok : Bool, ok = (uqc (bb.take k) == 0 && uqc (bb.drop (k + 1)) == 0) → (ok = true → shownS h = some (uqv (bb.take k), uqv (bb.drop (k + 1)))) ∧ (ok = false → shownS h = none))) := Lib.hid (fun k h1 h2 h3 => shown_at HP.out h1 h2 h3)
  rw [← hbb] at HUB
  obtain ⟨D, hD⟩ : ∃ D, D = h.drop 6 := ⟨_, rfl⟩
  rw [← hD] at HUB HNO HYE HNC HAT hfr'
  obtain ⟨ec, hec⟩ : ∃ ec, ec = Oc.unC (Oc.unb D) := ⟨_, rfl⟩
  rw [← hec] at HUB HNO HYE
  unfold bsc at hto'
  clear hp hD hec huc hbl hbb HD
  go_enter Tryz.func24, Tryz.ntmps24
  go_wp2_with fail
  refine HUB.out.mono ?_
  rintro e w1 ⟨v1, rfl, ho, hb⟩
  by_cases he0 : ec = 0
  case neg =>
    have HN := Lib.hid (HNO.out he0)
    have t2 : (ec == 0) = false := by simpa using he0
    have t3 : (ec != 0) = true := by simpa using he0
    have HB1 := Lib.hid hb
    clear ho hb
    go_wp2_with fail
    go_ret3
    exact ⟨shr_none (w := w) HN.out, HB1.out⟩
  case pos =>
  subst he0
  have HU := Lib.hid (HYE.out rfl)
  have HB1 := Lib.hid hb
  have hrd := Rd.of_own ho
  obtain ⟨va, vc, rfl⟩ := hrd.slice
  have HO := Lib.hid hrd
  obtain ⟨BL, hBL⟩ : ∃ z, z = bb.length := ⟨_, rfl⟩
  have HBL := Lib.hid hBL
  clear ho hb hrd
  have hbl2 := HLB.out.2
  rw [← hBL] at hbl2 ⊢
  clear hBL
  go_wp2_with fail
  go_loopw [2, 3, 4, 7] (fun r1 r2 r3 i wr => ∃ k : Nat, k ≤ BL ∧ r1 = .string ⟨#[]⟩ ∧ r2 = .string ⟨#[]⟩ ∧ r3 = .bool false ∧ i = .int .i64 (k : Int) ∧ (∀ j, j < k → bb[j]? ≠ some 58) ∧ Below w.heap.size w wr ∧ Rd wr 1 (.slice va BL vc) BL (Lib.byteCells bb)) (fun _ _ _ i _ => BL - (intOf i).toNat)
  case atStart => exact ⟨0, Nat.zero_le _, rfl, rfl, rfl, rfl, (fun j hj => absurd hj (Nat.not_lt_zero _)), HB1.out, by rw [HBL.out]; exact HO.out⟩
  case round =>
    obtain ⟨k, hk, rfl, rfl, rfl, rfl, hno, hbw, hrw⟩ := hrel
    have HRW := Lib.hid (And.intro hrw hbw)
    clear hrw
    have HNOK := Lib.hid hno
    clear hno hbw
    by_cases hkn : k < BL
    case neg =>
      have g1 : ¬ (k : Int) < (BL : Int) := by omega
      have HN : Hid (shownS h = none) := Lib.hid (HNC.out HU.out (cut_not fun j hj => HNOK.out j (by have := HBL.out; omega)))
      go_wp2_with fail
      go_ret3
      exact ⟨shr_none (w := w) HN.out, HRW.out.2⟩
    case pos =>
      have g1 : (k : Int) < (BL : Int) := by omega
      obtain ⟨c, hc⟩ : ∃ c, bb[k]? = some c := ⟨_, List.getElem?_eq_getElem (by have := HBL.out; omega)⟩
      have HC := Lib.hid hc
      clear hc
      obtain ⟨b, o, cap, e1, hcap, hcell⟩ : ∃ b o cap, (.slice va BL vc : Value) = .slice (some ⟨b, o, none⟩) BL cap ∧ BL ≤ cap ∧ ∀ j u, (Lib.byteCells bb)[j]? = some u → wr.cell? ⟨b, o + j, none⟩ = some u := by
        rcases HRW.out.1.2 with ⟨_, h0⟩ | ⟨b, o, cap, e1, hcap, hcell⟩
        · omega
        · exact ⟨b, o, cap, e1, hcap, hcell⟩
      cases e1
      have hcel : wr.cell? ⟨b, o + k, none⟩ = some (.int .u8 (c.toNat : Int)) := hcell k _ (by simp [Lib.byteCells, HC.out])
      clear hcell
      by_cases h58 : c = 58
      case neg =>
        have t4 : ((c.toNat : Int) == 58) = false := by
          have : c.toNat ≠ 58 := fun e => h58 (UInt8.toNat_inj.1 e)
          simp; omega
        have HNH : Hid (bb[k]? ≠ some 58) := Lib.hid (by rw [HC.out]; intro e; cases e; exact h58 rfl)
        clear h58
        go_wp2_with fail
        go_roundw
        case rel => exact ⟨k + 1, by omega, rfl, rfl, rfl, by go_num, (fun j hj => by
          by_cases hjk : j = k
          · subst hjk; exact HNH.out
          · exact HNOK.out j (by omega)), HRW.out.2, HRW.out.1⟩
        case measure => simp [intOf]; omega
      case pos =>
        subst h58
        have hc3 := HLB.out.2
        have r1 := Rd.front HRW.out.1 k (by omega)
        have r2 := Rd.back HRW.out.1 (k + 1) (by omega)
        have b1 : (Lib.byteCells bb).take (k * 1) = Lib.byteCells (bb.take k) := by unfold Lib.byteCells; rw [Nat.mul_one, List.map_take]
        have b2 : (Lib.byteCells bb).drop ((k + 1) * 1) = Lib.byteCells (bb.drop (k + 1)) := by unfold Lib.byteCells; rw [Nat.mul_one, List.map_drop]
        have n1 : (bb.take k).length = k := by rw [List.length_take, ← HBL.out, Nat.min_eq_left (by omega)]
        have n2 : (bb.drop (k + 1)).length = BL - (k + 1) := by rw [List.length_drop, ← HBL.out]
        rw [b1] at r1
        rw [b2] at r2
        obtain ⟨K, hK⟩ : ∃ K, K = k + 1 := ⟨_, rfl⟩
        have hKi : (k : Int) + 1 = (K : Int) := by omega
        have hwK : IntKind.i64.wrap (K : Int) = (K : Int) := Oc.w_i64 _ (by omega) (by omega)
        have s1 : ∀ W, (Instr.slice 62 (.slice (some ⟨b, o, none⟩) BL vc) none (some (.int .i64 (k : Int))) none).run Tryz.prog W = .ok (.slice (some ⟨b, o, none⟩) k vc) W := fun W => sl_front W 62 _ BL vc k .i64 Tryz.underlying62 (s := 1) (by rfl) (by omega)
        have s2 : ∀ W, (Instr.slice 62 (.slice (some ⟨b, o, none⟩) BL vc) (some (.int .i64 (K : Int))) none none).run Tryz.prog W = .ok (.slice (if vc = K then (some ⟨b, o, none⟩) else (some ⟨b, o, none⟩ : Option Addr).map (·.add (K * 1))) (BL - K) (vc - K)) W := fun W => sl_back W 62 _ BL vc K .i64 Tryz.underlying62 (s := 1) (by rfl) (by omega)
        have c1 : Sem.run Tryz.prog (convert 62 9 (.slice (some ⟨b, o, none⟩) k vc)) wr = .ok (.string ⟨(bb.take k).toArray⟩) wr := by
          have := conv_rd (l := bb.take k) (w := wr) (v := .slice (some ⟨b, o, none⟩) k vc) (by rw [n1]; exact r1)
          exact this
        have hat := HAT.out k HU.out HNOK.out HC.out
        have U1 := runquote_any ⟨(bb.take k).toArray⟩ wr (by rw [st_size, n1]; omega)
        rw [uq_ret] at U1
        have U2 : ∀ W, Calls Tryz.prog 49 #[.string ⟨(bb.drop (k + 1)).toArray⟩] W fun e w' => e = .returned (.tuple #[.string ⟨(uqv (bb.drop (k + 1))).toArray⟩, .int .i64 (uqc (bb.drop (k + 1)))]) ∧ Below W.heap.size W w' := fun W => by
          have := runquote_any ⟨(bb.drop (k + 1)).toArray⟩ W (by rw [st_size, n2]; omega)
          rw [uq_ret] at this
          exact this
        rw [← hK] at r2 n2 U2 hat
        obtain ⟨v2, hv2⟩ : ∃ v2 : Value, v2 = (.slice (if vc = K then (some ⟨b, o, none⟩) else (some ⟨b, o, none⟩ : Option Addr).map (·.add (K * 1))) (BL - K) (vc - K)) := ⟨_, rfl⟩
        rw [← hv2] at s2 r2
        have l1 := uqv_len (bb.take k)
        have l2 := uqv_len (bb.drop K)
        obtain ⟨x, hx⟩ : ∃ z, z = uqv (bb.take k) := ⟨_, rfl⟩
        obtain ⟨y, hy⟩ : ∃ z, z = uqv (bb.drop K) := ⟨_, rfl⟩
        obtain ⟨f, hf⟩ : ∃ z, z = uqc (bb.take k) := ⟨_, rfl⟩
        obtain ⟨g, hg⟩ : ∃ z, z = uqc (bb.drop K) := ⟨_, rfl⟩
        rw [← hx] at l1
        rw [← hy] at l2
        rw [← hx, ← hf] at U1
        rw [← hy, ← hg] at U2
        rw [← hx, ← hy, ← hf, ← hg] at hat
        have HLN : Hid (x.length ≤ h.length ∧ y.length ≤ h.length) := Lib.hid (by have := HLB.out.1; have := HBL.out; omega)
        have HAT2 := Lib.hid hat
        have HU1 := Lib.hid U1
        have HU2 := Lib.hid U2
        have HR2 : Hid (∀ W, Below wr.heap.size wr W → Sem.run Tryz.prog (convert 62 9 v2) W = .ok (.string ⟨(bb.drop K).toArray⟩) W) := Lib.hid (fun W hW => conv_rd (l := bb.drop K) (w := W) (v := v2) (by rw [n2]; exact r2.below hW))
        obtain ⟨t1', ht1⟩ : ∃ z, z = bb.take k := ⟨_, rfl⟩
        obtain ⟨t2', ht2⟩ : ∃ z, z = bb.drop K := ⟨_, rfl⟩
        rw [← ht1] at HU1 c1
        rw [← ht2] at HU2 HR2
        have t4 : (((58 : UInt8).toNat : Int) == 58) = true := rfl
        clear r1 r2 b1 b2 n1 n2 hat U1 U2 l1 l2 hx hy hf hg ht1 ht2 hv2 hK hc3
        go_wp2_with fail
        refine HU1.out.mono ?_
        rintro e w3 ⟨rfl, hb3⟩
        have c2 := HR2.out w3 hb3
        have HB3 := Lib.hid (HRW.out.2.trans (hb3.mono HRW.out.2.size))
        clear hb3
        go_wp2_with fail
        refine (HU2.out _).mono ?_
        rintro e w4 ⟨rfl, hb4⟩
        have HB4 := Lib.hid (HB3.out.trans (hb4.mono HB3.out.size))
        clear hb4
        cases hfc : (f == 0) with
        | false =>
          rw [hfc] at HAT2
          go_wp2_with fail
          go_ret3
          exact ⟨⟨x, y, false, rfl, (HAT2.out false rfl).1, (HAT2.out false rfl).2, HLN.out.1, HLN.out.2⟩, HB4.out⟩
        | true =>
          rw [hfc] at HAT2
          go_wp2_with fail
          go_ret3
          exact ⟨⟨x, y, (g == 0), rfl, (HAT2.out (g == 0) (by simp)).1, (HAT2.out (g == 0) (by simp)).2, HLN.out.1, HLN.out.2⟩, HB4.out⟩
end Go.Proofs.YtonbpekogfaibaaGreat.Ro
/- Chapter 15, the reference: Auth. -/
namespace Go.Proofs.YtonbpekogfaibaaGreat.Ro
open Go.RowKit Go.Maps Go.Sort
set_option linter.unusedVariables false
set_option linter.unusedSimpArgs false
set_option maxRecDepth 100000

/-- what the reference answers to a header -/
def rbyHead (cs : List Cl) (id : By) (ids : Nat) (sh : Option (By × By)) : By × Nat :=
  match sh with
  | some (x, y) => match find cs x with
    | some c => if c.pub = true ∨ c.sec ≠ y then ([], 2) else if ids = 1 ∧ id ≠ x then ([], 1) else (x, 0)
    | none => ([], 2)
  | none => ([], 2)
/-- what the reference answers to a form -/
def rbyForm (cs : List Cl) (id : By) (ids : Nat) (sec : By) (secs : Nat) : By × Nat :=
  match find cs id with
  | some c => if ids = 0 ∨ (c.pub = true ∧ secs = 1) ∨ (c.pub = false ∧ (secs = 0 ∨ c.sec ≠ sec)) then ([], 2) else (id, 0)
  | none => ([], 2)
def rauthG (cs : List Cl) (header : By) (id : By) (ids : Nat) (sec : By) (secs : Nat) : By × Nat :=
  if header ≠ [] then (if 0 < secs ∨ 1 < ids then ([], 1) else rbyHead cs id ids (shownS header)) else if 1 < ids ∨ 1 < secs then ([], 1) else rbyForm cs id ids sec secs
theorem gval_none {l : PrL} {nm : By} (h : gcnt l nm = 0) : gval l nm = [] := by
  induction l with
  | nil => rfl
  | cons p r ih =>
    unfold gcnt at h
    unfold gval
    by_cases e : p.1 = nm
    · rw [if_pos e] at h; omega
    · rw [if_neg e]; exact ih (by omega)
/-- the same answer, of right clients -/
theorem rauth_eq {cs : List Cl} (ha : AllP cs) (header id : By) (ids : Nat) (sec : By) (secs : Nat) (hs : secs = 0 → sec = []) : rauthG cs header id ids sec secs = authG cs header id ids sec secs := by
  have hpb : ∀ {x : By} {c : Cl}, find cs x = some c → c.pub = true → c.sec = [] := fun {x c} hf hp => by
    obtain ⟨k, hk, e⟩ := List.getElem_of_mem (find_name hf).1
    exact (ha.2 k c (by rw [List.getElem?_eq_getElem hk, e])).1.pb hp
  unfold rauthG authG
  by_cases hh : header = []
  · rw [if_neg (by simpa using hh)]
    by_cases h1 : 1 < ids ∨ 1 < secs
    · rw [if_pos h1, if_pos (by rcases h1 with h | h; exact .inl h; exact .inr (.inl h))]
    · rw [if_neg h1, if_neg (by rintro (h | h | h); exact h1 (.inl h); exact h1 (.inr h); exact h.1 hh), if_neg (by simpa using hh)]
      unfold rbyForm byForm
      cases hf : find cs id with
      | none => rfl
      | some c =>
        dsimp only
        by_cases h0 : ids = 0
        · rw [if_pos (.inl h0), if_pos (.inl h0)]
        · cases hp : c.pub with
          | true =>
            have hc := hpb hf hp
            by_cases hz : secs = 0
            · rw [if_neg (by rintro (h | h | h); exact h0 h; omega; exact absurd h.1 (by simp)), if_neg (by
                rintro (h | h | h)
                · exact h0 h
                · rw [hz] at h; exact h rfl
                · rw [hc, hs hz] at h; exact h rfl)]
            · rw [if_pos (.inr (.inl ⟨rfl, by omega⟩)), if_pos (.inr (.inl (by rw [decide_eq_false hz]; simp)))]
          | false =>
            by_cases hz : secs = 0
            · rw [if_pos (.inr (.inr ⟨rfl, .inl hz⟩)), if_pos (.inr (.inl (by rw [decide_eq_true hz]; simp)))]
            · by_cases hx : c.sec = sec
              · rw [if_neg (by
                  rintro (h | h | h)
                  · exact h0 h
                  · exact absurd h.1 (by simp)
                  · rcases h.2 with h | h
                    · exact hz h
                    · exact h hx), if_neg (by
                  rintro (h | h | h)
                  · exact h0 h
                  · rw [decide_eq_false hz] at h; exact h rfl
                  · exact h hx)]
              · rw [if_pos (.inr (.inr ⟨rfl, .inr hx⟩)), if_pos (.inr (.inr hx))]
  · rw [if_pos hh]
    by_cases h1 : 0 < secs ∨ 1 < ids
    · rw [if_pos h1, if_pos (by rcases h1 with h | h; exact .inr (.inr ⟨hh, h⟩); exact .inl h)]
    · rw [if_neg h1, if_neg (by rintro (h | h | h); exact h1 (.inr h); exact h1 (.inl (by omega)); exact h1 (.inl h.2)), if_pos hh]
      unfold rbyHead byHead
      cases shownS header with
      | none => rfl
      | some p =>
        obtain ⟨x, y⟩ := p
        dsimp only
        cases hf : find cs x with
        | none => rfl
        | some c =>
          dsimp only
          by_cases h2 : c.pub = false ∧ c.sec = y
          · rw [if_neg (by rintro (h | h); rw [h2.1] at h; exact absurd h (by simp); exact h h2.2), if_pos h2]
            by_cases h3 : ids = 1 ∧ id ≠ x
            · rw [if_pos h3, if_pos ⟨by omega, h3.2⟩]
            · rw [if_neg h3, if_neg (fun h => h3 ⟨by omega, h.2⟩)]
          · rw [if_pos (by
              cases hp : c.pub with
              | true => exact .inl rfl
              | false => exact .inr (fun e => h2 ⟨hp, e⟩)), if_neg h2]
set_option maxHeartbeats 8000000 in
theorem rauth_any (v : Value) (l : List Cl) (vs : Nat → V3) (header : By) (fv : Value) (form : PrL) (w : World) (h : CsAt w v l vs) (hl : l.length ≤ 4611686018427387904) (hh : header.length ≤ 10000000) (hf : Rd w 2 fv form.length (prCells form)) (hfl : form.length ≤ 4611686018427387904) :
    Calls Tryz.prog 10 #[v, .string ⟨header.toArray⟩, fv] w fun e w' => e = .returned (.tuple #[.string ⟨(rauthG l header (gval form CID) (gcnt form CID) (gval form CSE) (gcnt form CSE)).1.toArray⟩, .int .i64 ((rauthG l header (gval form CID) (gcnt form CID) (gval form CSE) (gcnt form CSE)).2 : Int)]) ∧ Below w.heap.size w w' := by
  obtain ⟨fa, fc, hfv⟩ := hf.slice
  subst hfv
  have G1 := Go.Proofs.YtonbpekogfaibaaGreat.rget_any _ form CID w hf hfl
  have G2 := Go.Proofs.YtonbpekogfaibaaGreat.rget_any _ form CSE w hf hfl
  obtain ⟨id, hid⟩ : ∃ z, z = gval form CID := ⟨_, rfl⟩
  obtain ⟨n1, hn1⟩ : ∃ z, z = gcnt form CID := ⟨_, rfl⟩
  obtain ⟨se, hse⟩ : ∃ z, z = gval form CSE := ⟨_, rfl⟩
  obtain ⟨n2, hn2⟩ : ∃ z, z = gcnt form CSE := ⟨_, rfl⟩
  rw [← hid, ← hn1] at G1
  rw [← hse, ← hn2] at G2
  rw [← hid, ← hn1, ← hse, ← hn2]
  obtain ⟨FL, hFL⟩ : ∃ z, z = form.length := ⟨_, rfl⟩
  rw [← hFL] at G1 G2 ⊢
  have HG1 := Lib.hid G1
  have HG2 := Lib.hid G2
  unfold CID at HG1
  unfold CSE at HG2
  obtain ⟨R, hR⟩ : ∃ R, R = rauthG l header id n1 se n2 := ⟨_, rfl⟩
  rw [← hR]
  have HR := Lib.hid hR
  have HH := Lib.hid (And.intro h (And.intro hh hl))
  clear hid hn1 hse hn2 G1 G2 hFL hf hfl h hh hl hR
  obtain ⟨va, vc, rfl⟩ := HH.out.1.shp
  by_cases hd : header = []
  case neg =>
    have hne : (header == ([] : By)) = false := by simpa using hd
    have hne2 := str_ne hne
    have hne3 : ((⟨header.toArray⟩ : ByteArray).toList == (⟨#[]⟩ : ByteArray).toList) = false := hne2
    have hne4 : ((⟨header.toArray⟩ : ByteArray).toList != (⟨#[]⟩ : ByteArray).toList) = true := by rw [bne, hne3]; rfl
    have hne5 : List.isEmpty header = false := by rw [List.isEmpty_eq_false_iff]; exact hd
    by_cases a3 : 0 < n2
    case pos =>
      have t3 : (0 : Int) < (n2 : Int) := by omega
      have HQ : Hid (R = ([], 1)) := Lib.hid (by rw [HR.out]; unfold rauthG; rw [if_pos hd, if_pos (.inl a3)])
      clear hd hne hne2
      go_enter Tryz.func10, Tryz.ntmps10
      go_wp2_with fail
      refine HG1.out.mono ?_
      rintro e w1 ⟨rfl, e1⟩
      subst e1
      go_wp2_with fail
      refine HG2.out.mono ?_
      rintro e w1 ⟨rfl, e1⟩
      subst e1
      go_wp2_with fail
      go_ret2
      exact ⟨by rw [HQ.out]; rfl, Below.refl _ _⟩
    case neg =>
    have t3 : ¬ (0 : Int) < (n2 : Int) := by omega
    by_cases a1 : 1 < n1
    case pos =>
      have t1 : (1 : Int) < (n1 : Int) := by omega
      have HQ : Hid (R = ([], 1)) := Lib.hid (by rw [HR.out]; unfold rauthG; rw [if_pos hd, if_pos (.inr a1)])
      clear hd hne hne2
      go_enter Tryz.func10, Tryz.ntmps10
      go_wp2_with fail
      refine HG1.out.mono ?_
      rintro e w1 ⟨rfl, e1⟩
      subst e1
      go_wp2_with fail
      refine HG2.out.mono ?_
      rintro e w1 ⟨rfl, e1⟩
      subst e1
      go_wp2_with fail
      go_ret2
      exact ⟨by rw [HQ.out]; rfl, Below.refl _ _⟩
    case neg =>
    have t1 : ¬ (1 : Int) < (n1 : Int) := by omega
    have HB : Hid (R = rbyHead l id n1 (shownS header)) := Lib.hid (by rw [HR.out]; unfold rauthG; rw [if_pos hd, if_neg (by rintro (h | h); exact a3 h; exact a1 h)])
    have HS := Lib.hid (rshown_any header w HH.out.2.1)
    clear hd hne hne2
    go_enter Tryz.func10, Tryz.ntmps10
    go_wp2_with fail
    refine HG1.out.mono ?_
    rintro e w1 ⟨rfl, e1⟩
    subst e1
    go_wp2_with fail
    refine HG2.out.mono ?_
    rintro e w1 ⟨rfl, e1⟩
    subst e1
    go_wp2_with fail
    refine HS.out.mono ?_
    rintro e w1 ⟨⟨x, y, ok, rfl, hok, hno, hxl, hyl⟩, hb1⟩
    have HSH := Lib.hid (And.intro hok hno)
    have HB1 := Lib.hid hb1
    have HFI := Lib.hid (rfind_any _ l vs x w1 (HH.out.1.below hb1) HH.out.2.2)
    clear hok hno hxl hyl hb1
    go_wp2_with fail
    refine HFI.out.mono ?_
    rintro e w2 ⟨u0, u1, u2, rfl, hrc, hb2⟩
    have HB2 := Lib.hid (HB1.out.trans (hb2.mono HB1.out.size))
    obtain ⟨a0, k0, e0⟩ := hrc.1.1.slice
    obtain ⟨a1', k1, e1⟩ := hrc.2.1.1.slice
    obtain ⟨a2', k2, e2⟩ := hrc.2.2.1.slice
    simp only at e0 e1 e2
    subst e0 e1 e2
    unfold av
    have hfc : find l x = none ∨ (find l x).isSome = true ∧ find l x = some (fC l x) := by
      unfold fC
      cases find l x with
      | none => exact .inl rfl
      | some c => exact .inr ⟨rfl, rfl⟩
    obtain ⟨c, hc⟩ : ∃ c, c = fC l x := ⟨_, rfl⟩
    obtain ⟨b, hb⟩ : ∃ b, b = (find l x).isSome := ⟨_, rfl⟩
    rw [← hc, ← hb] at hfc
    rw [← hc, ← hb]
    have HCB := Lib.hid (And.intro hb hfc)
    clear hrc hb2 hc hb hfc HFI
    cases ok with
    | false =>
      have HQ : Hid (R = ([], 2)) := Lib.hid (by rw [HB.out, HSH.out.2 rfl]; rfl)
      go_wp2_with fail
      go_ret2
      exact ⟨by rw [HQ.out]; rfl, HB2.out.alloc HB2.out.size _⟩
    | true =>
    have HX : Hid (R = rbyHead l id n1 (some (x, y))) := Lib.hid (by rw [HB.out, HSH.out.1 rfl])
    cases b with
    | false =>
      have HQ : Hid (R = ([], 2)) := Lib.hid (by
        rw [HX.out]
        rcases HCB.out.2 with h | ⟨h, _⟩
        · unfold rbyHead; dsimp only; rw [h]
        · exact absurd h (by simp))
      go_wp2_with fail
      go_ret2
      exact ⟨by rw [HQ.out]; rfl, HB2.out.alloc HB2.out.size _⟩
    | true =>
    have HY : Hid (R = if c.pub = true ∨ c.sec ≠ y then ([], 2) else if n1 = 1 ∧ id ≠ x then ([], 1) else (x, 0)) := Lib.hid (by
      rw [HX.out]
      rcases HCB.out with ⟨h0, h | ⟨_, h⟩⟩
      · rw [h] at h0; exact absurd h0 (by simp)
      · unfold rbyHead; dsimp only; rw [h])
    cases hp : c.pub with
    | true =>
      have HQ : Hid (R = ([], 2)) := Lib.hid (by rw [HY.out, if_pos (.inl hp)])
      go_wp2_with fail
      go_ret2
      exact ⟨by rw [HQ.out]; rfl, HB2.out.alloc HB2.out.size _⟩
    | false =>
    by_cases hs : c.sec = y
    case neg =>
      have HQ : Hid (R = ([], 2)) := Lib.hid (by rw [HY.out, if_pos (.inr hs)])
      have h1 : (c.sec == y) = false := by simpa using hs
      have h2 := str_ne h1
      clear hs
      go_wp2_with fail
      go_ret2
      exact ⟨by rw [HQ.out]; rfl, HB2.out.alloc HB2.out.size _⟩
    case pos =>
    have HZ : Hid (R = if n1 = 1 ∧ id ≠ x then ([], 1) else (x, 0)) := Lib.hid (by rw [HY.out, if_neg (by rintro (h | h); rw [hp] at h; exact absurd h (by simp); exact h hs)])
    have h1 : (c.sec == y) = true := by simpa using hs
    have h2 := str_eq h1
    clear hs hp
    by_cases hn : n1 = 1
    case neg =>
      have HQ : Hid (R = (x, 0)) := Lib.hid (by rw [HZ.out, if_neg (fun h => hn h.1)])
      have t5 : ((n1 : Int) == 1) = false := by simp; omega
      go_wp2_with fail
      go_ret2
      exact ⟨by rw [HQ.out]; rfl, HB2.out.alloc HB2.out.size _⟩
    case pos =>
    subst hn
    by_cases hx : id = x
    case pos =>
      have HQ : Hid (R = (x, 0)) := Lib.hid (by rw [HZ.out, if_neg (fun h => h.2 hx)])
      have h3 : (id == x) = true := by simpa using hx
      have h4 := str_eq h3
      clear hx
      go_wp2_with fail
      go_ret2
      exact ⟨by rw [HQ.out]; rfl, HB2.out.alloc HB2.out.size _⟩
    case neg =>
      have HQ : Hid (R = ([], 1)) := Lib.hid (by rw [HZ.out, if_pos ⟨rfl, hx⟩])
      have h3 : (id == x) = false := by simpa using hx
      have h4 := str_ne h3
      clear hx
      go_wp2_with fail
      go_ret2
      exact ⟨by rw [HQ.out]; rfl, HB2.out.alloc HB2.out.size _⟩
  case pos =>
  subst hd
  by_cases a1 : 1 < n1
  case pos =>
    have t1 : (1 : Int) < (n1 : Int) := by omega
    have HQ : Hid (R = ([], 1)) := Lib.hid (by rw [HR.out]; unfold rauthG; rw [if_neg (by simp), if_pos (.inl a1)])
    go_enter Tryz.func10, Tryz.ntmps10
    go_wp2_with fail
    refine HG1.out.mono ?_
    rintro e w1 ⟨rfl, e1⟩
    subst e1
    go_wp2_with fail
    refine HG2.out.mono ?_
    rintro e w1 ⟨rfl, e1⟩
    subst e1
    go_wp2_with fail
    go_ret2
    exact ⟨by rw [HQ.out]; rfl, Below.refl _ _⟩
  case neg =>
  have t1 : ¬ (1 : Int) < (n1 : Int) := by omega
  by_cases a2 : 1 < n2
  case pos =>
    have t2 : (1 : Int) < (n2 : Int) := by omega
    have HQ : Hid (R = ([], 1)) := Lib.hid (by rw [HR.out]; unfold rauthG; rw [if_neg (by simp), if_pos (.inr a2)])
    go_enter Tryz.func10, Tryz.ntmps10
    go_wp2_with fail
    refine HG1.out.mono ?_
    rintro e w1 ⟨rfl, e1⟩
    subst e1
    go_wp2_with fail
    refine HG2.out.mono ?_
    rintro e w1 ⟨rfl, e1⟩
    subst e1
    go_wp2_with fail
    go_ret2
    exact ⟨by rw [HQ.out]; rfl, Below.refl _ _⟩
  case neg =>
  have t2 : ¬ (1 : Int) < (n2 : Int) := by omega
  have HB : Hid (R = rbyForm l id n1 se n2) := Lib.hid (by rw [HR.out]; unfold rauthG; rw [if_neg (by simp), if_neg (by rintro (h | h); exact a1 h; exact a2 h)])
  have HFI := Lib.hid (rfind_any _ l vs id w HH.out.1 HH.out.2.2)
  go_enter Tryz.func10, Tryz.ntmps10
  go_wp2_with fail
  refine HG1.out.mono ?_
  rintro e w1 ⟨rfl, e1⟩
  subst e1
  go_wp2_with fail
  refine HG2.out.mono ?_
  rintro e w1 ⟨rfl, e1⟩
  subst e1
  go_wp2_with fail
  refine HFI.out.mono ?_
  rintro e w2 ⟨u0, u1, u2, rfl, hrc, hb2⟩
  have HB2 := Lib.hid hb2
  obtain ⟨a0, k0, e0⟩ := hrc.1.1.slice
  obtain ⟨a1', k1, e1⟩ := hrc.2.1.1.slice
  obtain ⟨a2', k2, e2⟩ := hrc.2.2.1.slice
  simp only at e0 e1 e2
  subst e0 e1 e2
  unfold av
  have hfc : find l id = none ∨ (find l id).isSome = true ∧ find l id = some (fC l id) := by
    unfold fC
    cases find l id with
    | none => exact .inl rfl
    | some c => exact .inr ⟨rfl, rfl⟩
  obtain ⟨c, hc⟩ : ∃ c, c = fC l id := ⟨_, rfl⟩
  obtain ⟨b, hb⟩ : ∃ b, b = (find l id).isSome := ⟨_, rfl⟩
  rw [← hc, ← hb] at hfc
  rw [← hc, ← hb]
  have HCB := Lib.hid (And.intro hb hfc)
  clear hrc hb2 hc hb hfc HFI
  cases b with
  | false =>
    have HQ : Hid (R = ([], 2)) := Lib.hid (by
      rw [HB.out]
      rcases HCB.out.2 with h | ⟨h, _⟩
      · unfold rbyForm; rw [h]
      · exact absurd h (by simp))
    by_cases hn : n1 = 0
    case pos =>
      have t5 : ((n1 : Int) == 0) = true := by simp; omega
      subst hn
      go_wp2_with fail
      go_ret2
      exact ⟨by rw [HQ.out]; rfl, HB2.out.alloc HB2.out.size _⟩
    case neg =>
      have t5 : ((n1 : Int) == 0) = false := by simp; omega
      go_wp2_with fail
      go_ret2
      exact ⟨by rw [HQ.out]; rfl, HB2.out.alloc HB2.out.size _⟩
  | true =>
  have HY : Hid (R = if n1 = 0 ∨ (c.pub = true ∧ n2 = 1) ∨ (c.pub = false ∧ (n2 = 0 ∨ c.sec ≠ se)) then ([], 2) else (id, 0)) := Lib.hid (by
    rw [HB.out]
    rcases HCB.out with ⟨h0, h | ⟨_, h⟩⟩
    · rw [h] at h0; exact absurd h0 (by simp)
    · unfold rbyForm; rw [h])
  by_cases hn : n1 = 0
  case pos =>
    have HQ : Hid (R = ([], 2)) := Lib.hid (by rw [HY.out, if_pos (.inl hn)])
    have t5 : ((n1 : Int) == 0) = true := by simp; omega
    subst hn
    go_wp2_with fail
    go_ret2
    exact ⟨by rw [HQ.out]; rfl, HB2.out.alloc HB2.out.size _⟩
  case neg =>
  have t5 : ((n1 : Int) == 0) = false := by simp; omega
  obtain hz | hz : n2 = 0 ∨ n2 = 1 := by omega
  · subst hz
    cases hp : c.pub with
    | true =>
      have HQ : Hid (R = (id, 0)) := Lib.hid (by rw [HY.out, if_neg (by rintro (h | h | h); exact hn h; exact absurd h.2 (by simp); rw [hp] at h; exact absurd h.1 (by simp))])
      clear hn hp
      go_wp2_with fail
      go_ret2
      exact ⟨by rw [HQ.out]; rfl, HB2.out.alloc HB2.out.size _⟩
    | false =>
      have HQ : Hid (R = ([], 2)) := Lib.hid (by rw [HY.out, if_pos (.inr (.inr ⟨hp, .inl rfl⟩))])
      clear hn hp
      go_wp2_with fail
      go_ret2
      exact ⟨by rw [HQ.out]; rfl, HB2.out.alloc HB2.out.size _⟩
  · subst hz
    cases hp : c.pub with
    | true =>
      have HQ : Hid (R = ([], 2)) := Lib.hid (by rw [HY.out, if_pos (.inr (.inl ⟨hp, rfl⟩))])
      clear hn hp
      go_wp2_with fail
      go_ret2
      exact ⟨by rw [HQ.out]; rfl, HB2.out.alloc HB2.out.size _⟩
    | false =>
      by_cases hs : c.sec = se
      case pos =>
        have HQ : Hid (R = (id, 0)) := Lib.hid (by
          rw [HY.out, if_neg (by
            rintro (h | h | h)
            · exact hn h
            · rw [hp] at h; exact absurd h.1 (by simp)
            · rcases h.2 with h | h
              · exact absurd h (by simp)
              · exact h hs)])
        have h1 : (c.sec == se) = true := by simpa using hs
        have h2 := str_eq h1
        clear hn hp hs
        go_wp2_with fail
        go_ret2
        exact ⟨by rw [HQ.out]; rfl, HB2.out.alloc HB2.out.size _⟩
      case neg =>
        have HQ : Hid (R = ([], 2)) := Lib.hid (by rw [HY.out, if_pos (.inr (.inr ⟨hp, .inr hs⟩))])
        have h1 : (c.sec == se) = false := by simpa using hs
        have h2 := str_ne h1
        clear hn hp hs
        go_wp2_with fail
        go_ret2
        exact ⟨by rw [HQ.out]; rfl, HB2.out.alloc HB2.out.size _⟩
end Go.Proofs.YtonbpekogfaibaaGreat.Ro
/- Chapter 15, plain: what a header of an Id and a secret shows; who shows itself by it. Ahead of it, chapter 4's: what is quoted is unquoted to what it was. -/
namespace Go.Proofs.YtonbpekogfaibaaGreat.Fs
theorem all_u8p {p : UInt8 → Bool} (h : (List.range 256).all (fun n => p (UInt8.ofNat n)) = true) (c : UInt8) : p c = true := by
  have := List.all_eq_true.1 h c.toNat (List.mem_range.2 c.toNat_lt)
  simpa using this
/-- a byte that stands for itself -/
def okPl (c : UInt8) : Bool := !pl c || (33 ≤ c && c ≤ 126 && c != 37 && c != 43 && c != 58)
theorem okPl_all (c : UInt8) : okPl c = true := all_u8p (by decide +kernel) c
def okHx (c : UInt8) : Bool := wo (hx (c / 16)) == some (c / 16) && wo (hx (c % 16)) == some (c % 16) && c / 16 * 16 + c % 16 == c && hx (c / 16) != 58 && hx (c % 16) != 58
theorem okHx_all (c : UInt8) : okHx c = true := all_u8p (by decide +kernel) c
theorem pl_facts {c : UInt8} (h : pl c = true) : ¬ (c < 33 ∨ c > 126) ∧ c ≠ 37 ∧ c ≠ 43 ∧ c ≠ 58 := by
  have := okPl_all c
  simp only [okPl, h, Bool.not_true, Bool.false_or, Bool.and_eq_true, decide_eq_true_eq, bne_iff_ne, ne_eq] at this
  obtain ⟨⟨⟨⟨h1, h2⟩, h3⟩, h4⟩, h5⟩ := this
  refine ⟨?_, h3, h4, h5⟩
  rintro (h | h)
  · exact absurd h (UInt8.not_lt.2 h1)
  · exact absurd h (UInt8.not_lt.2 h2)
theorem hx_facts (c : UInt8) : wo (hx (c / 16)) = some (c / 16) ∧ wo (hx (c % 16)) = some (c % 16) ∧ c / 16 * 16 + c % 16 = c ∧ hx (c / 16) ≠ 58 ∧ hx (c % 16) ≠ 58 := by
  have := okHx_all c
  simp only [okHx, Bool.and_eq_true, beq_iff_eq, bne_iff_ne, ne_eq] at this
  obtain ⟨⟨⟨⟨h1, h2⟩, h3⟩, h4⟩, h5⟩ := this
  exact ⟨h1, h2, h3, h4, h5⟩
theorem unq_q1 (c : UInt8) (r : By) : unq (q1 c ++ r) = (unq r).map (c :: ·) := by
  unfold q1
  split
  · rename_i h
    obtain ⟨h1, h2, h3, -⟩ := pl_facts h
    rw [List.singleton_append, unq_cons c r h1 h2, if_neg h3]
  · split
    · rename_i h; subst h
      rw [List.singleton_append, unq_cons 43 r (by decide) (by decide), if_pos rfl]
    · obtain ⟨h1, h2, h3, -⟩ := hx_facts c
      show unq (37 :: hx (c / 16) :: hx (c % 16) :: r) = _
      rw [unq_hex, h1, h2]
      simp only [h3]
theorem unq_quote (l : By) : unq (quote l) = some l := by
  induction l with
  | nil => rfl
  | cons c l ih => rw [show quote (c :: l) = q1 c ++ quote l from by simp [quote], unq_q1, ih]; rfl
theorem q1_58 (c x : UInt8) (h : x ∈ q1 c) : x ≠ 58 := by
  unfold q1 at h
  split at h
  · rename_i hp; obtain ⟨-, -, -, h1⟩ := pl_facts hp
    rw [List.mem_singleton] at h; subst h; exact h1
  · split at h
    · rw [List.mem_singleton] at h; subst h; decide
    · obtain ⟨-, -, -, h1, h2⟩ := hx_facts c
      simp only [List.mem_cons, List.not_mem_nil, or_false] at h
      rcases h with rfl | rfl | rfl
      · decide
      · exact h1
      · exact h2
theorem quote_58 (l : By) (x : UInt8) (h : x ∈ quote l) : x ≠ 58 := by
  obtain ⟨c, _, hc⟩ := List.mem_flatMap.1 h
  exact q1_58 c x hc
end Go.Proofs.YtonbpekogfaibaaGreat.Fs
namespace Go.Proofs.YtonbpekogfaibaaGreat.Ro
set_option linter.unusedVariables false
set_option linter.unusedSimpArgs false
theorem cut_join (a b : By) (h : ∀ c ∈ a, c ≠ 58) : Cut.before (a ++ [58] ++ b) 58 = a ∧ Cut.after (a ++ [58] ++ b) 58 = b ∧ Cut.has (a ++ [58] ++ b) 58 = true := by
  have hk : (a ++ [58] ++ b)[a.length]? = some 58 := by
    rw [List.append_assoc, List.getElem?_append_right (Nat.le_refl _)]; simp
  have hno : ∀ j, j < a.length → (a ++ [58] ++ b)[j]? ≠ some 58 := fun j hj e => by
    rw [List.append_assoc, List.getElem?_append_left hj, List.getElem?_eq_getElem hj] at e
    exact h _ (List.getElem_mem hj) (Option.some.inj e)
  obtain ⟨h1, h2, h3⟩ := cut_at hno hk
  refine ⟨?_, ?_, h3⟩
  · rw [h1, List.append_assoc, List.take_left']; rfl
  · rw [h2, List.drop_left' (by simp)]
/-- what a header of an Id and a secret shows -/
theorem shown_hdr (id sec : By) : shownS (hdr id sec) = some (id, sec) := by
  unfold shownS hdr
  rw [if_pos (by rw [List.isPrefixOf_iff_prefix]; exact List.prefix_append _ _), List.drop_left' (by rfl), Oc.unb_basic]
  obtain ⟨h1, h2, h3⟩ := cut_join (Fs.quote id) (Fs.quote sec) (Fs.quote_58 id)
  dsimp only
  rw [h3, if_pos rfl, h1, h2, Fs.unq_quote, Fs.unq_quote]
theorem hdr_ne' (id sec : By) : hdr id sec ≠ [] := by unfold hdr bsc; simp
/-- who shows itself by such a header -/
theorem auth_hdr (cs : List Cl) (id sec : By) : authS cs (hdr id sec) [] = if (∃ c, find cs id = some c ∧ c.pub = false ∧ c.sec = sec) then (id, 0) else ([], 2) := by
  unfold authS authG
  rw [if_neg (by rintro (h | h | h); exact absurd h (by simp [gcnt]); exact absurd h (by simp [gcnt]); exact absurd h.2 (by simp [gcnt])), if_pos (hdr_ne' id sec), shown_hdr]
  unfold byHead
  dsimp only
  cases hf : find cs id with
  | none =>
    show (([] : By), 2) = _
    rw [if_neg (by rintro ⟨c, h, _⟩; cases h)]
  | some c =>
    dsimp only
    by_cases h : c.pub = false ∧ c.sec = sec
    · rw [if_pos h, if_neg (by rintro ⟨h, _⟩; exact absurd h (by simp [gcnt])), if_pos ⟨c, rfl, h.1, h.2⟩]
    · rw [if_neg h, if_neg (by rintro ⟨d, e, h1, h2⟩; cases e; exact h ⟨h1, h2⟩)]
/-- who shows itself by a form of both -/
theorem auth_form {cs : List Cl} {id sec : By} {c : Cl} (h : find cs id = some c) (hp : c.pub = false) (hs : c.sec = sec) : authS cs [] [(CID, id), (CSE, sec)] = (id, 0) := by
  have e1 : gval [(CID, id), (CSE, sec)] CID = id := by unfold gval; rw [if_pos rfl]
  have e2 : gval [(CID, id), (CSE, sec)] CSE = sec := by unfold gval; rw [if_neg (show ¬ (CID, id).1 = CSE from (by decide : ¬ CID = CSE))]; unfold gval; rw [if_pos rfl]
  have e3 : gcnt [(CID, id), (CSE, sec)] CID = 1 := by simp [gcnt, CID, CSE]
  have e4 : gcnt [(CID, id), (CSE, sec)] CSE = 1 := by simp [gcnt, CID, CSE]
  unfold authS
  rw [e1, e2, e3, e4]
  unfold authG
  rw [if_neg (by rintro (h | h | h); exact absurd h (by decide); exact absurd h (by decide); exact h.1 rfl), if_neg (by simp)]
  unfold byForm
  rw [h]
  dsimp only
  rw [if_neg (by
    rintro (h | h | h)
    · exact absurd h (by decide)
    · rw [hp] at h; exact h rfl
    · exact h hs)]
end Go.Proofs.YtonbpekogfaibaaGreat.Ro
/- RollAuths, RollHeaders: the laws' walks. Conditions: a header of at most 10^7 bytes, texts in the form of at most 2^48; an Id and a secret of at most 10^7. -/
namespace Go.Proofs.YtonbpekogfaibaaGreat.Ro
open Go.RowKit Go.Maps Go.Sort
set_option linter.unusedVariables false
set_option linter.unusedSimpArgs false
set_option maxRecDepth 100000

set_option maxHeartbeats 8000000 in
theorem auths_walk (v : Value) (l : List Cl) (vs : Nat → V3) (x : By) (fv : Value) (form : PrL) (w : World) (h : CsAt w v l vs) (hl : l.length ≤ 4611686018427387904) (hx : x.length ≤ 10000000) (hf : Rd w 2 fv form.length (prCells form)) (hfl : form.length ≤ 4611686018427387904)
    (hl1 : (gval form CID).length ≤ 281474976710656) (hl2 : (gval form CSE).length ≤ 281474976710656) :
    Calls Tryz.prog 3 #[v, .string ⟨x.toArray⟩, fv] w fun e w' => e = .returned (.bool true) ∧ Below w.heap.size w w' := by
  obtain ⟨v', hfw, hfe⟩ := few_any v l vs w h hl
  have HFE := Lib.hid hfe
  have hll : (fewL l).length ≤ 70 := by unfold fewL; rw [List.length_take]; omega
  clear hfe h hl
  generalize fewL l = L at *
  obtain ⟨a, c, rfl⟩ := hfw.shp
  obtain ⟨qa, qc, rfl⟩ := hf.slice
  have HL := Lib.hid hfw
  have HF := Lib.hid (And.intro hf (And.intro hfl (And.intro hl1 (And.intro hl2 hx))))
  obtain ⟨FL, hFL⟩ : ∃ FL, FL = form.length := ⟨_, rfl⟩
  rw [← hFL] at HF ⊢
  have HFL := Lib.hid hFL
  clear hfw hf hfl hl1 hl2 hx hFL
  go_enter Tryz.func3, Tryz.ntmps3
  go_wp2_with fail
  refine HFE.out.mono ?_
  rintro e w1 ⟨rfl, e1⟩
  subst e1
  go_wp2_with fail
  refine (known_any w).mono ?_
  rintro e w2 ⟨rfl, hb2⟩
  have HB2 := Lib.hid hb2
  clear hb2
  have HA := Lib.hid (rall_any _ L vs w2 (HL.out.below HB2.out) (by omega))
  go_wp2_with fail
  refine HA.out.mono ?_
  rintro e w3 ⟨b, rfl, hb, hb3⟩
  have HB3 := Lib.hid (HB2.out.trans (hb3.mono HB2.out.size))
  clear hb3
  cases b with
  | false =>
    clear hb
    go_wp2_with fail
    refine (known_any w3).mono ?_
    rintro e w4 ⟨rfl, hb4⟩
    have HB4 := Lib.hid (HB3.out.trans (hb4.mono HB3.out.size))
    clear hb4
    go_wp2_with fail
    go_ret
    exact ⟨rfl, HB4.out⟩
  | true =>
  have HYES : Hid (AllP L) := Lib.hid (hb.1 rfl)
  clear hb
  have HNW := Lib.hid (new_any _ L vs w3 (HL.out.below HB3.out) (by omega))
  go_wp2_with fail
  refine HNW.out.mono ?_
  rintro e w4 ⟨(⟨hno, rfl⟩ | ⟨q, m, sl, hyes, rfl, hro, hqq⟩), hb4⟩
  · exact absurd HYES.out hno
  have HB4 := Lib.hid (HB3.out.trans (hb4.mono HB3.out.size))
  have HAU := Lib.hid (auth_any _ L sl x _ form w4 hro.rr (by have := HF.out.2.2.2.2; omega) (by rw [← HFL.out]; exact HF.out.1.below HB4.out) (by rw [← HFL.out]; exact HF.out.2.1) HF.out.2.2.1 HF.out.2.2.2.1)
  have HEQ : Hid (rauthG L x (gval form CID) (gcnt form CID) (gval form CSE) (gcnt form CSE) = authS L x form) := Lib.hid (rauth_eq HYES.out x _ _ _ _ (fun h0 => gval_none h0))
  have HRA : Hid (∀ W, Below w.heap.size w W → Calls Tryz.prog 10 #[.slice a L.length c, .string ⟨x.toArray⟩, .slice qa FL qc] W fun e w' => e = .returned (.tuple #[.string ⟨(authS L x form).1.toArray⟩, .int .i64 ((authS L x form).2 : Int)]) ∧ Below W.heap.size W w') := Lib.hid (fun W hW => by
    have := rauth_any (.slice a L.length c) L vs x (.slice qa FL qc) form W (HL.out.below hW) (by omega) HF.out.2.2.2.2 (by rw [← HFL.out]; exact HF.out.1.below hW) (by rw [← HFL.out]; exact HF.out.2.1)
    rw [HEQ.out] at this
    exact this)
  obtain ⟨r1, hr1⟩ : ∃ z, z = (authS L x form).1 := ⟨_, rfl⟩
  have hr2 : (authS L x form).2 ≤ 2 := by
    unfold authS authG byHead byForm
    repeat' split
    all_goals simp
  obtain ⟨r2, hr2'⟩ : ∃ z, z = (authS L x form).2 := ⟨_, rfl⟩
  rw [← hr1, ← hr2'] at HAU HRA
  rw [← hr2'] at hr2
  have hw2 : IntKind.i64.wrap (r2 : Int) = (r2 : Int) := Oc.w_i64 _ (by omega) (by omega)
  clear hyes hro hqq hb4 hr1 hr2'
  go_wp2_with fail
  refine HAU.out.mono ?_
  rintro e w5 ⟨rfl, hb5⟩
  have HB5 := Lib.hid (HB4.out.trans (hb5.mono HB4.out.size))
  clear hb5
  go_wp2_with fail
  refine (HRA.out w5 HB5.out).mono ?_
  rintro e w6 ⟨rfl, hb6⟩
  have HB6 := Lib.hid (HB5.out.trans (hb6.mono HB5.out.size))
  clear hb6 HAU HRA HEQ
  go_wp2_with fail
  go_ret
  exact ⟨rfl, HB6.out⟩
set_option maxHeartbeats 8000000 in
theorem headers_walk (v : Value) (l : List Cl) (vs : Nat → V3) (id sec : By) (w : World) (h : CsAt w v l vs) (hl : l.length ≤ 4611686018427387904) (h1 : id.length ≤ 10000000) (h2 : sec.length ≤ 10000000) :
    Calls Tryz.prog 4 #[v, .string ⟨id.toArray⟩, .string ⟨sec.toArray⟩] w fun e w' => e = .returned (.bool true) ∧ Below w.heap.size w w' := by
  obtain ⟨v', hfw, hfe⟩ := few_any v l vs w h hl
  have HFE := Lib.hid hfe
  have hll : (fewL l).length ≤ 70 := by unfold fewL; rw [List.length_take]; omega
  clear hfe h hl
  generalize fewL l = L at *
  obtain ⟨a, c, rfl⟩ := hfw.shp
  have HL := Lib.hid hfw
  have hhl : (hdr id sec).length ≤ 140737488355000 := by
    have l1 := Fs.quote_len id
    have l2 := Fs.quote_len sec
    have := Oc.sixF_len (Fs.quote id ++ [58] ++ Fs.quote sec)
    have h4 := Oc.padN_lt (Oc.sixF (Fs.quote id ++ [58] ++ Fs.quote sec)).length
    unfold hdr Oc.basic bsc
    simp only [List.length_append, List.length_replicate, List.length_cons, List.length_nil] at *
    omega
  have HAH := Lib.hid (auth_hdr L id sec)
  have HH1 := Lib.hid (header_any id sec w (by omega) (by omega))
  have HH2 := Lib.hid (fun W => rheader_any id sec W h1 h2)
  have HLN := Lib.hid (And.intro h1 h2)
  obtain ⟨hd, hhd⟩ : ∃ z, z = hdr id sec := ⟨_, rfl⟩
  rw [← hhd] at HAH HH1 HH2 hhl
  have HHL := Lib.hid hhl
  clear hfw hhl h1 h2 hhd
  go_enter Tryz.func4, Tryz.ntmps4
  go_wp2_with fail
  refine HFE.out.mono ?_
  rintro e w1 ⟨rfl, e1⟩
  subst e1
  go_wp2_with fail
  refine HH1.out.mono ?_
  rintro e w1 ⟨rfl, hb1⟩
  have HB1 := Lib.hid hb1
  clear hb1
  go_wp2_with fail
  refine (known_any w1).mono ?_
  rintro e w2 ⟨rfl, hb2⟩
  have HB2 := Lib.hid (HB1.out.trans (hb2.mono HB1.out.size))
  clear hb2
  go_wp2_with fail
  refine (HH2.out w2).mono ?_
  rintro e w3 ⟨rfl, hb3⟩
  have HB3 := Lib.hid (HB2.out.trans (hb3.mono HB2.out.size))
  clear hb3 HH1 HH2
  have HA := Lib.hid (rall_any _ L vs w3 (HL.out.below HB3.out) (by omega))
  go_wp2_with fail
  refine HA.out.mono ?_
  rintro e w4 ⟨b, rfl, hb, hb4⟩
  have HB4 := Lib.hid (HB3.out.trans (hb4.mono HB3.out.size))
  clear hb4
  cases b with
  | false =>
    clear hb
    go_wp2_with fail
    go_ret
    exact ⟨rfl, HB4.out⟩
  | true =>
  have HYES : Hid (AllP L) := Lib.hid (hb.1 rfl)
  clear hb
  have HNW := Lib.hid (new_any _ L vs w4 (HL.out.below HB4.out) (by omega))
  go_wp2_with fail
  refine HNW.out.mono ?_
  rintro e w5 ⟨(⟨hno, rfl⟩ | ⟨q, m, sl, hyes, rfl, hro, hqq⟩), hb5⟩
  · exact absurd HYES.out hno
  have HB5 := Lib.hid (HB4.out.trans (hb5.mono HB4.out.size))
  have HRO := Lib.hid hro.rr
  have hau := auth_any (.pointer (some ⟨q, 0, none⟩)) L sl hd (.slice none 0 0) [] w5 hro.rr HHL.out (Rd.nil _ _) (by decide) (by decide) (by decide)
  rw [HAH.out] at hau
  obtain ⟨C, hC⟩ : ∃ C, C = fC L id := ⟨_, rfl⟩
  obtain ⟨b, hb⟩ : ∃ b, b = (find L id).isSome := ⟨_, rfl⟩
  have hP : (∃ c, find L id = some c ∧ c.pub = false ∧ c.sec = sec) ↔ (b = true ∧ C.pub = false ∧ C.sec = sec) := by
    rw [hC, hb]
    unfold fC
    cases find L id with
    | none => simp
    | some c => simp
  have hfc : b = true → find L id = some C := by
    rw [hC, hb]
    unfold fC
    cases find L id with
    | none => simp
    | some c => simp
  have HCB := Lib.hid (And.intro hC (And.intro hb hfc))
  have HFO : Hid (b = true → C.pub = false → C.sec = sec → authS L [] [(CID, id), (CSE, sec)] = (id, 0)) := Lib.hid (fun h1 h2 h3 => auth_form (hfc h1) h2 h3)
  clear hC hb hfc hyes hro hqq hb5
  by_cases hq : b = true ∧ C.pub = false ∧ C.sec = sec
  case pos =>
    rw [if_pos (hP.2 hq)] at hau
    have HAU := Lib.hid hau
    clear hau hP
    go_wp2_with fail
    refine HAU.out.mono ?_
    rintro e w6 ⟨rfl, hb6⟩
    have HB6 := Lib.hid (HB5.out.trans (hb6.mono HB5.out.size))
    have HRO6 := Lib.hid (HRO.out.below hb6)
    have hfi := find_any (.pointer (some ⟨q, 0, none⟩)) L sl id w6 HRO6.out (by have := HLN.out.1; omega)
    rw [← HCB.out.1, ← HCB.out.2.1, hq.1] at hfi
    have HFI := Lib.hid hfi
    clear hb6 hfi
    go_wp2_with fail
    refine HFI.out.mono ?_
    rintro e w7 ⟨u0, u1, u2, rfl, how, hb7⟩
    obtain ⟨ca, cc, e0⟩ := (Rd.of_own how.r).slice
    obtain ⟨cb, cd, e1⟩ := (Rd.of_own how.s).slice
    obtain ⟨ce, cf, e2⟩ := (Rd.of_own how.g).slice
    simp only at e0 e1 e2
    subst e0 e1 e2
    unfold av
    obtain ⟨hb, hp, hs⟩ := hq
    have hsec : (C.sec == sec) = true := by simpa using hs
    have hsec2 := str_eq hsec
    have HPS := Lib.hid (And.intro hp (And.intro hs hb))
    have HB7 := Lib.hid (HB6.out.trans (hb7.mono HB6.out.size))
    have HRO7 := Lib.hid (HRO6.out.below hb7)
    rw [hp]
    clear how hb7 hp hs hb HFI
    have hb8 : Below w7.heap.size w7 (w7.alloc (.cells #[.string ⟨C.id.toArray⟩, .string ⟨C.sec.toArray⟩, .bool false, .slice ca C.red.length cc, .slice cb C.sco.length cd, .slice ce C.gra.length cf] 40)) := (Below.refl _ _).alloc (Nat.le_refl _) _
    have hsz8 : (w7.alloc (.cells #[.string ⟨C.id.toArray⟩, .string ⟨C.sec.toArray⟩, .bool false, .slice ca C.red.length cc, .slice cb C.sco.length cd, .slice ce C.gra.length cf] 40)).heap.size = w7.heap.size + 1 := by simp
    obtain ⟨w8, hw8⟩ : ∃ w8, w8 = (w7.alloc (.cells #[.string ⟨C.id.toArray⟩, .string ⟨C.sec.toArray⟩, .bool false, .slice ca C.red.length cc, .slice cb C.sco.length cd, .slice ce C.gra.length cf] 40)) := ⟨_, rfl⟩
    rw [← hw8] at hb8 hsz8
    have hb9 : Below w8.heap.size w8 (w8.alloc (.cells #[.string ⟨#[99, 108, 105, 101, 110, 116, 95, 105, 100]⟩, .string ⟨id.toArray⟩, .string ⟨#[99, 108, 105, 101, 110, 116, 95, 115, 101, 99, 114, 101, 116]⟩, .string ⟨sec.toArray⟩] 44)) := (Below.refl _ _).alloc (Nat.le_refl _) _
    have hk9 := Blk.new w8 44 [.string ⟨#[99, 108, 105, 101, 110, 116, 95, 105, 100]⟩, .string ⟨id.toArray⟩, .string ⟨#[99, 108, 105, 101, 110, 116, 95, 115, 101, 99, 114, 101, 116]⟩, .string ⟨sec.toArray⟩]
    have hrd9 : Rd (w8.alloc (.cells #[.string ⟨#[99, 108, 105, 101, 110, 116, 95, 105, 100]⟩, .string ⟨id.toArray⟩, .string ⟨#[99, 108, 105, 101, 110, 116, 95, 115, 101, 99, 114, 101, 116]⟩, .string ⟨sec.toArray⟩] 44)) 2 (.slice (some ⟨w8.heap.size, 0, none⟩) 2 2) 2 (prCells [(CID, id), (CSE, sec)]) := ⟨rfl, .inr ⟨w8.heap.size, 0, 2, rfl, Nat.le_refl _, fun j u hj => by rw [Nat.zero_add]; exact hk9.cell j hj⟩⟩
    have hgv1 : gval [(CID, id), (CSE, sec)] CID = id := by unfold gval; rw [if_pos rfl]
    have hgv2 : gval [(CID, id), (CSE, sec)] CSE = sec := by unfold gval; rw [if_neg (show ¬ (CID, id).1 = CSE from (by decide : ¬ CID = CSE))]; unfold gval; rw [if_pos rfl]
    have hA2 := auth_any (.pointer (some ⟨q, 0, none⟩)) L sl [] _ [(CID, id), (CSE, sec)] _ ((HRO7.out.below hb8).below hb9) (by decide) hrd9 (by simp) (by rw [hgv1]; have := HLN.out.1; omega) (by rw [hgv2]; have := HLN.out.2; omega)
    rw [HFO.out HPS.out.2.2 HPS.out.1 HPS.out.2.1] at hA2
    have HB9 := Lib.hid (HB7.out.trans ((hb8.trans (hb9.mono (by have := hb8.size; exact this))).mono HB7.out.size))
    rw [hsz8] at hA2
    rw [hw8] at hA2 HB9
    have HA2 := Lib.hid hA2
    clear hb8 hsz8 hw8 hb9 hk9 hrd9 hgv1 hgv2 hA2
    go_wp2_with fail
    refine HA2.out.mono ?_
    rintro e w10 ⟨rfl, hb10⟩
    have HB10 := Lib.hid (HB9.out.trans (hb10.mono HB9.out.size))
    clear hb10 HA2
    go_wp2_with fail
    go_ret
    exact ⟨rfl, HB10.out⟩
  case neg =>
    rw [if_neg (fun h => hq (hP.1 h))] at hau
    have HAU := Lib.hid hau
    clear hau hP
    go_wp2_with fail
    refine HAU.out.mono ?_
    rintro e w6 ⟨rfl, hb6⟩
    have HB6 := Lib.hid (HB5.out.trans (hb6.mono HB5.out.size))
    have HRO6 := Lib.hid (HRO.out.below hb6)
    have hfi := find_any (.pointer (some ⟨q, 0, none⟩)) L sl id w6 HRO6.out (by have := HLN.out.1; omega)
    rw [← HCB.out.1, ← HCB.out.2.1] at hfi
    have HFI := Lib.hid hfi
    clear hb6 hfi
    go_wp2_with fail
    refine HFI.out.mono ?_
    rintro e w7 ⟨u0, u1, u2, rfl, how, hb7⟩
    obtain ⟨ca, cc, e0⟩ := (Rd.of_own how.r).slice
    obtain ⟨cb, cd, e1⟩ := (Rd.of_own how.s).slice
    obtain ⟨ce, cf, e2⟩ := (Rd.of_own how.g).slice
    simp only at e0 e1 e2
    subst e0 e1 e2
    unfold av
    have HB7 := Lib.hid (HB6.out.trans (hb7.mono HB6.out.size))
    clear how hb7 HFI
    cases b with
    | false =>
      clear hq
      go_wp2_with fail
      go_ret
      exact ⟨rfl, HB7.out.alloc HB7.out.size _⟩
    | true =>
    cases hp : C.pub with
    | true =>
      clear hq
      go_wp2_with fail
      go_ret
      exact ⟨rfl, HB7.out.alloc HB7.out.size _⟩
    | false =>
    have hs : ¬ C.sec = sec := fun h => hq ⟨rfl, hp, h⟩
    have h1 : (C.sec == sec) = false := by simpa using hs
    have h2 := str_ne h1
    clear hs hq hp
    go_wp2_with fail
    go_ret
    exact ⟨rfl, HB7.out.alloc HB7.out.size _⟩
end Go.Proofs.YtonbpekogfaibaaGreat.Ro
