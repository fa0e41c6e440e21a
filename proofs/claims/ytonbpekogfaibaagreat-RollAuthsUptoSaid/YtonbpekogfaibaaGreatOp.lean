/-
  Chapter 15: Header. Condition: an Id and a secret of fewer than 10^12 bytes.
-/
import Derived.Test.YtonbpekogfaibaaGreatOo
import Derived.Test.YtonbpekogfaibaaGreatNq
import Derived.Test.YtonbpekogfaibaaGreatNy
import Derived.Test.YtonbpekogfaibaaGreatOa
import Derived.Test.YtonbpekogfaibaaGreatOk
import Derived.Test.YtonbpekogfaibaaGreatNm
import Derived.Test.YtonbpekogfaibaaGreatCut
namespace Go.Proofs.YtonbpekogfaibaaGreat.Ro
open Go.RowKit Go.Maps Go.Sort
set_option linter.unusedVariables false
set_option linter.unusedSimpArgs false
set_option maxRecDepth 100000

/-- a text's bytes, laid anew -/
theorem wpList_bytes {P : Program} {w : World} {ops : Array Oper} {rest : List Oper} {o : Oper} {a : Act} {Q : Exit → Act → World → Prop} (hgd : o.guard = none) (src dst : TypeId) (s : Operand)
    (ho : o.op = .convert src dst s) (x : By) (hs : a.eval s = .string ⟨x.toArray⟩) (hu : P.underlying src = some .string) (e : TypeId) (hd : P.underlying dst = some (.slice e)) (he : P.underlying e = some (.int .u8))
    (h : ∀ v w', Rd w' 1 v x.length (Lib.byteCells x) → Below w.heap.size w w' → wpList P ops Q rest (a.put o.dst v) w') : wpList P ops Q (o :: rest) a w := by
  refine wpList_step fun K hK => ?_
  have hw : Region.wanted o (yielded ops a.tmps) = true := by unfold Region.wanted; rw [hgd]
  rw [if_pos hw]
  have hr := run_bytes_of_string w src dst e ⟨x.toArray⟩ hu hd he
  unfold Oper.wp execOp
  simp only [ho, hs, hr, Sem.run_bind, Sem.run_pure, Result.andThen_ok]
  refine hK _ _ (h _ _ ?_ ?_)
  · refine ⟨by rw [bc_length, Nat.mul_one], .inr ⟨w.heap.size, 0, _, by rw [st_size], ?_, fun j u hj => ?_⟩⟩
    · exact grownCap_ge w x.length 0 e
    · rw [Nat.zero_add]
      generalize grownCap w _ 0 e = cp at *
      have hb : (bytesRow ⟨x.toArray⟩ cp)[j]? = some u := by
        have hj2 := (List.getElem?_eq_some_iff.1 hj).1
        rw [bc_length] at hj2
        unfold bytesRow
        rw [Array.getElem?_append_left (by simpa using hj2)]
        unfold Lib.byteCells at hj
        simpa using hj
      rw [show w.heap.size = w.drew.heap.size from rfl, Lib.cell_of_heap (heap_alloc_new w.drew _)]; exact hb
  · exact ((Below.refl _ _).drew.alloc (Nat.le_refl _) _)
theorem wpList_bytesW {P : Program} {w : World} {ops : Array Oper} {rest : List Oper} {o : Oper} {a : Act} {Q : Exit → Act → World → Prop} (hw : Region.wanted o (yielded ops a.tmps) = true) (src dst : TypeId) (s : Operand)
    (ho : o.op = .convert src dst s) (x : By) (hs : a.eval s = .string ⟨x.toArray⟩) (hu : P.underlying src = some .string) (e : TypeId) (hd : P.underlying dst = some (.slice e)) (he : P.underlying e = some (.int .u8))
    (h : ∀ v w', Rd w' 1 v x.length (Lib.byteCells x) → Below w.heap.size w w' → wpList P ops Q rest (a.put o.dst v) w') : wpList P ops Q (o :: rest) a w := by
  refine wpList_step fun K hK => ?_
  rw [if_pos hw]
  have hr := run_bytes_of_string w src dst e ⟨x.toArray⟩ hu hd he
  unfold Oper.wp execOp
  simp only [ho, hs, hr, Sem.run_bind, Sem.run_pure, Result.andThen_ok]
  refine hK _ _ (h _ _ ?_ ?_)
  · refine ⟨by rw [bc_length, Nat.mul_one], .inr ⟨w.heap.size, 0, _, by rw [st_size], ?_, fun j u hj => ?_⟩⟩
    · exact grownCap_ge w x.length 0 e
    · rw [Nat.zero_add]
      generalize grownCap w _ 0 e = cp at *
      have hb : (bytesRow ⟨x.toArray⟩ cp)[j]? = some u := by
        have hj2 := (List.getElem?_eq_some_iff.1 hj).1
        rw [bc_length] at hj2
        unfold bytesRow
        rw [Array.getElem?_append_left (by simpa using hj2)]
        unfold Lib.byteCells at hj
        simpa using hj
      rw [show w.heap.size = w.drew.heap.size from rfl, Lib.cell_of_heap (heap_alloc_new w.drew _)]; exact hb
  · exact ((Below.refl _ _).drew.alloc (Nat.le_refl _) _)
def bsc : By := [66, 97, 115, 105, 99, 32]
/-- the header of an Id and a secret -/
def hdr (id sec : By) : By := bsc ++ Oc.basic (Fs.quote id ++ [58] ++ Fs.quote sec)
set_option maxHeartbeats 4000000 in
theorem header_any (id sec : By) (w : World) (h1 : id.length ≤ 1000000000000) (h2 : sec.length ≤ 1000000000000) :
    Calls Tryz.prog 11 #[.string ⟨id.toArray⟩, .string ⟨sec.toArray⟩] w fun e w' => e = .returned (.string ⟨(hdr id sec).toArray⟩) ∧ Below w.heap.size w w' := by
  have l1 := Fs.quote_len id
  have l2 := Fs.quote_len sec
  have Q1 := Lib.hid (quote_any ⟨id.toArray⟩ w (by rw [st_size]; omega))
  have Q2 : Hid (∀ W, Calls Tryz.prog 27 #[.string ⟨sec.toArray⟩] W fun e w' => e = .returned (.string ⟨(Fs.quote sec).toArray⟩) ∧ Below W.heap.size W w') := Lib.hid (fun W => quote_any ⟨sec.toArray⟩ W (by rw [st_size]; omega))
  have HR : Hid (hdr id sec = bsc ++ Oc.basic (Fs.quote id ++ [58] ++ Fs.quote sec)) := Lib.hid rfl
  simp only [List.toList_toArray] at Q1 Q2
  obtain ⟨q1, hq1⟩ : ∃ q, q = Fs.quote id := ⟨_, rfl⟩
  obtain ⟨q2, hq2⟩ : ∃ q, q = Fs.quote sec := ⟨_, rfl⟩
  rw [← hq1] at Q1 HR l1
  rw [← hq2] at Q2 HR l2
  obtain ⟨q3, hq3⟩ : ∃ q, q = q1 ++ [58] := ⟨_, rfl⟩
  obtain ⟨q4, hq4⟩ : ∃ q, q = q3 ++ q2 := ⟨_, rfl⟩
  rw [← hq3, ← hq4] at HR
  have l3 : q3.length = q1.length + 1 := by rw [hq3]; simp
  have l4 : q4.length = q3.length + q2.length := by rw [hq4]; simp
  have HL := Lib.hid (show q4.length ≤ 60000000000000 by omega)
  have hbl : (Oc.basic q4).length ≤ 8 * q4.length + 8 := by
    have := Oc.sixF_len q4
    unfold Oc.basic
    have h4 := Oc.padN_lt (Oc.sixF q4).length
    rw [List.length_append, List.length_replicate]; omega
  have HB : Hid (∀ (v : Value) W, Rd W 1 v q4.length (Lib.byteCells q4) → Calls Tryz.prog 26 #[v] W fun e w' => e = .returned (.string ⟨(Oc.basic q4).toArray⟩) ∧ Below W.heap.size W w') := Lib.hid (fun v W hr => Oc.basic_any v q4 W hr HL.out)
  obtain ⟨q5, hq5⟩ : ∃ q, q = Oc.basic q4 := ⟨_, rfl⟩
  rw [← hq5] at HB HR hbl
  have A3 := fun W => st_add q1 [58] q3 (by simp; omega) hq3 W
  have A4 := fun W => st_add q3 q2 q4 (by omega) hq4 W
  have A5 := fun W => st_add bsc q5 (bsc ++ q5) (by show 6 + _ ≤ _; omega) rfl W
  clear hq1 hq2 hq3 hq4 hq5 l1 l2 l3 l4 hbl h1 h2
  unfold bsc at A5
  go_enter Tryz.func11, Tryz.ntmps11
  go_wp2_with fail
  refine Q1.out.mono ?_
  rintro e w1 ⟨rfl, hb1⟩
  go_wp2_with fail
  refine (Q2.out _).mono ?_
  rintro e w2 ⟨rfl, hb2⟩
  have HB2 := Lib.hid (hb1.trans (hb2.mono hb1.size))
  clear hb1 hb2
  go_wp2_with (with_reducible refine wpList_bytes rfl 9 62 (.tmp 10) rfl q4 rfl Tryz.underlying9 5 Tryz.underlying62 Tryz.underlying5 ?_)
  intro bv w3 hr3 hb3
  have HB3 := Lib.hid (HB2.out.trans (hb3.mono HB2.out.size))
  have HBB := Lib.hid (HB.out bv w3 hr3)
  clear hr3 hb3
  go_wp2_with fail
  refine HBB.out.mono ?_
  rintro e w4 ⟨rfl, hb4⟩
  have HB4 := Lib.hid (HB3.out.trans (hb4.mono HB3.out.size))
  clear hb4
  go_wp2_with fail
  go_ret
  exact ⟨by rw [HR.out]; rfl, HB4.out⟩
end Go.Proofs.YtonbpekogfaibaaGreat.Ro
/- Chapter 15: shown: Id and secret of a header. -/
namespace Go.Proofs.YtonbpekogfaibaaGreat.Ro
open Go.RowKit Go.Maps Go.Sort
set_option linter.unusedVariables false
set_option linter.unusedSimpArgs false
set_option maxRecDepth 100000

theorem strip_len (s : By) : (Oc.strip s).length ≤ s.length := by
  unfold Oc.strip
  split
  · split <;> (rw [List.length_take]; omega)
  · exact Nat.le_refl _
theorem unb_len {s b : By} (h : Oc.unb s = some b) : b.length ≤ s.length := by
  unfold Oc.unb at h
  split at h
  case isFalse => cases h
  unfold Oc.unsix at h
  split at h
  · cases h
  · cases hu : Oc.un (Oc.strip s) (Oc.strip s).length with
    | none => rw [hu] at h; cases h
    | some y =>
      obtain ⟨o, g⟩ := y
      rw [hu] at h
      have h1 := Oc.un_len _ _ _ _ hu
      have h2 := strip_len s
      dsimp only at h
      split at h
      · cases h; omega
      · cases h
theorem unq_len : ∀ (n : Nat) (s b : By), s.length ≤ n → Fs.unq s = some b → b.length ≤ s.length := by
  intro n
  induction n with
  | zero =>
    intro s b hs h
    obtain rfl : s = [] := List.eq_nil_of_length_eq_zero (by omega)
    rw [Fs.unq_nil] at h
    cases h; simp
  | succ n ih =>
    intro s b hs h
    cases s with
    | nil => rw [Fs.unq_nil] at h; cases h; simp
    | cons c r =>
      by_cases hb : c < 33 ∨ c > 126
      · rw [Fs.unq_bad c r hb] at h; cases h
      · by_cases h37 : c = 37
        · subst h37
          match r, hs, h with
          | [], _, h => rw [Fs.unq_hex0] at h; cases h
          | [a], _, h => rw [Fs.unq_hex1] at h; cases h
          | a :: d :: r', hs, h =>
            rw [Fs.unq_hex] at h
            cases ha : Fs.wo a with
            | none => rw [ha] at h; cases h
            | some x =>
              cases hd : Fs.wo d with
              | none => rw [ha, hd] at h; cases h
              | some y =>
                rw [ha, hd] at h
                dsimp only at h
                obtain ⟨q, hq, rfl⟩ := Option.map_eq_some_iff.1 h
                have := ih r' q (by simp at hs; omega) hq
                simp; omega
        · rw [Fs.unq_cons c r hb h37] at h
          obtain ⟨q, hq, rfl⟩ := Option.map_eq_some_iff.1 h
          have := ih r q (by simp at hs; omega) hq
          simp; omega
/-- what Unquote answers, as two parts -/
def uqv (s : By) : By := (Fs.unq s).getD []
def uqc (s : By) : Int := if (Fs.unq s).isSome = true then 0 else 3
theorem uqv_len (s : By) : (uqv s).length ≤ s.length := by
  unfold uqv
  cases h : Fs.unq s with
  | none => simp
  | some b => exact unq_len _ s b (Nat.le_refl _) h
theorem uq_ret (s : By) : UqRet ⟨s.toArray⟩ = .tuple #[.string ⟨(uqv s).toArray⟩, .int .i64 (uqc s)] := by
  unfold UqRet uqv uqc
  simp only [List.toList_toArray]
  cases h : Fs.unq s <;> rfl
/-- what a header shows -/
def shownS (h : By) : Option (By × By) :=
  if bsc.isPrefixOf h then
    match Oc.unb (h.drop 6) with
    | some b => if Cut.has b 58 = true then
        match Fs.unq (Cut.before b 58), Fs.unq (Cut.after b 58) with
        | some x, some y => some (x, y)
        | _, _ => none
      else none
    | none => none
  else none
/-- what shown answers -/
def ShR (h : By) (w : World) (e : Ending) (w' : World) : Prop := ∃ (x y : By) (ok : Bool), e = .returned (.tuple #[.string ⟨x.toArray⟩, .string ⟨y.toArray⟩, .bool ok]) ∧ (ok = true → shownS h = some (x, y)) ∧ (ok = false → shownS h = none) ∧ x.length ≤ h.length ∧ y.length ≤ h.length
theorem uqc_cases (s : By) : (uqc s = 0 ∧ Fs.unq s = some (uqv s)) ∨ (uqc s ≠ 0 ∧ Fs.unq s = none) := by
  unfold uqc uqv
  cases h : Fs.unq s with
  | none => exact .inr ⟨by simp, rfl⟩
  | some b => exact .inl ⟨by simp, rfl⟩
theorem unc_cases (s : By) : (Oc.unC (Oc.unb s) = 0 ∧ Oc.unb s = some ((Oc.unb s).getD [])) ∨ (Oc.unC (Oc.unb s) ≠ 0 ∧ Oc.unb s = none) := by
  unfold Oc.unC
  cases h : Oc.unb s with
  | none => exact .inr ⟨by simp, rfl⟩
  | some b => exact .inl ⟨by simp, rfl⟩
set_option maxHeartbeats 4000000 in
theorem shown_any (h : By) (w : World) (hl : h.length ≤ 140737488355000) :
    Calls Tryz.prog 20 #[.string ⟨h.toArray⟩] w fun e w' => ShR h w e w' ∧ Below w.heap.size w w' := by
  have hCP := Tryz.strings_CutPrefix ⟨h.toArray⟩ ⟨bsc.toArray⟩ w
  simp only [List.toList_toArray] at hCP
  obtain ⟨sg, hsg⟩ : ∃ sg, sg = Lib.trimPrefix h bsc := ⟨_, rfl⟩
  obtain ⟨p, hp⟩ : ∃ p, p = Lib.hasPrefix h bsc := ⟨_, rfl⟩
  rw [← hsg, ← hp] at hCP
  have hsgl : sg.length ≤ h.length := by
    rw [hsg]; unfold Lib.trimPrefix; split
    · simp
    · exact Nat.le_refl _
  have hpd : p = true → sg = h.drop 6 := fun e => by rw [hsg]; unfold Lib.trimPrefix; rw [← hp, if_pos e]; rfl
  have hUN := Oc.unbasic_any sg w (by omega)
  obtain ⟨b, hb⟩ : ∃ b, b = (Oc.unb sg).getD [] := ⟨_, rfl⟩
  have huc := unc_cases sg
  rw [← hb] at hUN huc
  obtain ⟨ec, hec⟩ : ∃ ec, ec = Oc.unC (Oc.unb sg) := ⟨_, rfl⟩
  rw [← hec] at hUN huc
  have hbl : b.length ≤ sg.length := by
    rw [hb]
    cases hh : Oc.unb sg with
    | none => simp
    | some z => exact unb_len hh
  have hC := cut_one ⟨b.toArray⟩ 58
  simp only [List.toList_toArray] at hC
  unfold cutV at hC
  obtain ⟨i0, hi0⟩ : ∃ z, z = Cut.before b 58 := ⟨_, rfl⟩
  obtain ⟨s0, hs0⟩ : ∃ z, z = Cut.after b 58 := ⟨_, rfl⟩
  obtain ⟨is, his⟩ : ∃ z, z = Cut.has b 58 := ⟨_, rfl⟩
  rw [← hi0, ← hs0, ← his] at hC
  have hil : i0.length ≤ b.length := by rw [hi0]; exact Cut.before_le b 58
  have hsl : s0.length ≤ b.length := by rw [hs0]; unfold Cut.after; simp
  have hU1 := unquote_any ⟨i0.toArray⟩
  have hU2 := unquote_any ⟨s0.toArray⟩
  simp only [uq_ret, st_size] at hU1 hU2
  have hx1 := uqv_len i0
  have hx2 := uqv_len s0
  have hq1 := uqc_cases i0
  have hq2 := uqc_cases s0
  obtain ⟨x, hx⟩ : ∃ z, z = uqv i0 := ⟨_, rfl⟩
  obtain ⟨y, hy⟩ : ∃ z, z = uqv s0 := ⟨_, rfl⟩
  obtain ⟨f, hf⟩ : ∃ z, z = uqc i0 := ⟨_, rfl⟩
  obtain ⟨g, hg⟩ : ∃ z, z = uqc s0 := ⟨_, rfl⟩
  rw [← hx, ← hf] at hU1
  rw [← hy, ← hg] at hU2
  rw [← hx, ← hf] at hq1
  rw [← hy, ← hg] at hq2
  rw [← hx] at hx1
  rw [← hy] at hx2
  have HSH : Hid (∀ ok : Bool, ok = (p && is && (ec == 0) && (f == 0) && (g == 0)) → (ok = true → shownS h = some (x, y)) ∧ (ok = false → shownS h = none)) := Lib.hid (by
    intro ok hok
    unfold shownS
    have hpp : bsc.isPrefixOf h = p := hp.symm
    rw [hpp]
    cases p with
    | false => subst hok; simp
    | true =>
      rw [← hpd rfl, if_pos rfl]
      rcases huc with ⟨h1, h2⟩ | ⟨h1, h2⟩
      · rw [h2]
        dsimp only
        rw [← his]
        cases is with
        | false => subst hok; simp
        | true =>
          rw [← hi0, ← hs0]
          rcases hq1 with ⟨h3, h4⟩ | ⟨h3, h4⟩
          · rcases hq2 with ⟨h5, h6⟩ | ⟨h5, h6⟩
            · rw [h4, h6]; subst hok; simp [h1, h3, h5]
            · rw [h4, h6]; subst hok; simp [h5]
          · rw [h4]; subst hok; simp [h3]
      · rw [h2]; subst hok; simp [h1])
  have HLN := Lib.hid (And.intro (show x.length ≤ h.length by omega) (show y.length ≤ h.length by omega))
  have HUN := Lib.hid hUN
  have HC : Hid (∀ W, Calls Tryz.prog 46 #[.string ⟨b.toArray⟩, .string ⟨#[58]⟩] W fun e w' => e = .returned (.tuple #[.string ⟨i0.toArray⟩, .string ⟨s0.toArray⟩, .bool is]) ∧ ∃ n, w' = W.drewN n) := Lib.hid (fun W => hC (by rw [st_size]; omega) W)
  have HU1 := Lib.hid (fun W => hU1 W (by omega))
  have HU2 := Lib.hid (fun W => hU2 W (by omega))
  have HCP := Lib.hid hCP
  unfold bsc at HCP
  clear hsg hp hsgl hpd hUN hb huc hec hbl hC hi0 hs0 his hil hsl hU1 hU2 hx1 hx2 hq1 hq2 hx hy hf hg hl hCP
  go_enter Tryz.func20, Tryz.ntmps20
  go_wp2_with fail
  refine HCP.out.mono ?_
  rintro e w1 ⟨rfl, e1⟩
  obtain rfl := e1
  go_wp2_with fail
  refine HUN.out.mono ?_
  rintro e w2 ⟨v, rfl, hown, hb2⟩
  have hcv := conv_own hown
  have HB2 := Lib.hid hb2
  clear hown hb2
  go_wp2_with fail
  refine (HC.out _).mono ?_
  rintro e w3 ⟨rfl, n3, e3⟩
  have HB3 : Hid (Below w1.heap.size w1 w3) := Lib.hid (by rw [e3]; exact below_drewN HB2.out n3)
  clear e3 hcv
  go_wp2_with fail
  refine (HU1.out _).mono ?_
  rintro e w4 ⟨rfl, hb4⟩
  have HB4 := Lib.hid (HB3.out.trans (hb4.mono HB3.out.size))
  clear hb4
  go_wp2_with fail
  refine (HU2.out _).mono ?_
  rintro e w5 ⟨rfl, hb5⟩
  have HB5 := Lib.hid (HB4.out.trans (hb5.mono HB4.out.size))
  clear hb5
  cases p with
  | false =>
    go_wp2_with fail
    go_ret3
    exact ⟨⟨x, y, false, rfl, (HSH.out false rfl).1, (HSH.out false rfl).2, HLN.out.1, HLN.out.2⟩, HB5.out⟩
  | true =>
  cases is with
  | false =>
    go_wp2_with fail
    go_ret3
    exact ⟨⟨x, y, false, rfl, (HSH.out false rfl).1, (HSH.out false rfl).2, HLN.out.1, HLN.out.2⟩, HB5.out⟩
  | true =>
  cases hec : (ec == 0) with
  | false =>
    rw [hec] at HSH
    go_wp2_with fail
    go_ret3
    exact ⟨⟨x, y, false, rfl, (HSH.out false rfl).1, (HSH.out false rfl).2, HLN.out.1, HLN.out.2⟩, HB5.out⟩
  | true =>
  cases hfc : (f == 0) with
  | false =>
    rw [hec, hfc] at HSH
    go_wp2_with fail
    go_ret3
    exact ⟨⟨x, y, false, rfl, (HSH.out false rfl).1, (HSH.out false rfl).2, HLN.out.1, HLN.out.2⟩, HB5.out⟩
  | true =>
  rw [hec, hfc] at HSH
  go_wp2_with fail
  go_ret3
  exact ⟨⟨x, y, (g == 0), rfl, (HSH.out (g == 0) (by simp)).1, (HSH.out (g == 0) (by simp)).2, HLN.out.1, HLN.out.2⟩, HB5.out⟩
end Go.Proofs.YtonbpekogfaibaaGreat.Ro
