/-
  Chapter 4, plain: what is quoted is unquoted to what it was; what is printed is parsed to what it was; a form of two forms has the pairs of both.
-/
import Derived.Test.YtemlggemomiaeaaFn
namespace Go.Proofs.Ytemlggemomiaeaa.Fs
/-- a byte that stands for itself -/
def okPl (c : UInt8) : Bool := !pl c || (33 ≤ c && c ≤ 126 && c != 37 && c != 43 && c != 38 && c != 61)
theorem okPl_all (c : UInt8) : okPl c = true := by revert c; exact all_u8 (by decide +kernel)
def okHx (c : UInt8) : Bool := wo (hx (c / 16)) == some (c / 16) && wo (hx (c % 16)) == some (c % 16) && c / 16 * 16 + c % 16 == c && hx (c / 16) != 38 && hx (c / 16) != 61 && hx (c % 16) != 38 && hx (c % 16) != 61
theorem okHx_all (c : UInt8) : okHx c = true := by revert c; exact all_u8 (by decide +kernel)
theorem pl_facts {c : UInt8} (h : pl c = true) : ¬ (c < 33 ∨ c > 126) ∧ c ≠ 37 ∧ c ≠ 43 ∧ c ≠ 38 ∧ c ≠ 61 := by
  have := okPl_all c
  simp only [okPl, h, Bool.not_true, Bool.false_or, Bool.and_eq_true, decide_eq_true_eq, bne_iff_ne, ne_eq] at this
  obtain ⟨⟨⟨⟨⟨h1, h2⟩, h3⟩, h4⟩, h5⟩, h6⟩ := this
  refine ⟨?_, h3, h4, h5, h6⟩
  rintro (h | h)
  · exact absurd h (UInt8.not_lt.2 h1)
  · exact absurd h (UInt8.not_lt.2 h2)
theorem hx_facts (c : UInt8) : wo (hx (c / 16)) = some (c / 16) ∧ wo (hx (c % 16)) = some (c % 16) ∧ c / 16 * 16 + c % 16 = c ∧ hx (c / 16) ≠ 38 ∧ hx (c / 16) ≠ 61 ∧ hx (c % 16) ≠ 38 ∧ hx (c % 16) ≠ 61 := by
  have := okHx_all c
  simp only [okHx, Bool.and_eq_true, beq_iff_eq, bne_iff_ne, ne_eq] at this
  obtain ⟨⟨⟨⟨⟨⟨h1, h2⟩, h3⟩, h4⟩, h5⟩, h6⟩, h7⟩ := this
  exact ⟨h1, h2, h3, h4, h5, h6, h7⟩
theorem unq_q1 (c : UInt8) (r : By) : unq (q1 c ++ r) = (unq r).map (c :: ·) := by
  unfold q1
  split
  · rename_i h
    obtain ⟨h1, h2, h3, -, -⟩ := pl_facts h
    rw [List.singleton_append, unq_cons c r h1 h2, if_neg h3]
  · split
    · rename_i h; subst h
      rw [List.singleton_append, unq_cons 43 r (by decide) (by decide), if_pos rfl]
    · obtain ⟨h1, h2, h3, -⟩ := hx_facts c
      show unq (37 :: hx (c / 16) :: hx (c % 16) :: r) = _
      rw [unq_hex, h1, h2]
      simp only [h3]
theorem unq_quote (l : By) : unq (quote l) = some l := by
  induction l with
  | nil => rfl
  | cons c l ih => rw [show quote (c :: l) = q1 c ++ quote l from by simp [quote], unq_q1, ih]; rfl
theorem q1_no (c x : UInt8) (h : x ∈ q1 c) : x ≠ 38 ∧ x ≠ 61 := by
  unfold q1 at h
  split at h
  · rename_i hp; obtain ⟨-, -, -, h1, h2⟩ := pl_facts hp
    rw [List.mem_singleton] at h; subst h; exact ⟨h1, h2⟩
  · split at h
    · rw [List.mem_singleton] at h; subst h; exact ⟨by decide, by decide⟩
    · obtain ⟨-, -, -, h1, h2, h3, h4⟩ := hx_facts c
      simp only [List.mem_cons, List.not_mem_nil, or_false] at h
      rcases h with rfl | rfl | rfl
      · exact ⟨by decide, by decide⟩
      · exact ⟨h1, h2⟩
      · exact ⟨h3, h4⟩
theorem quote_no (l : By) (x : UInt8) (h : x ∈ quote l) : x ≠ 38 ∧ x ≠ 61 := by
  obtain ⟨c, _, hc⟩ := List.mem_flatMap.1 h
  exact q1_no c x hc
theorem e1_no (p : By × By) (x : UInt8) (h : x ∈ e1 p) : x ≠ 38 := by
  unfold e1 at h
  rcases List.mem_append.1 h with h | h
  · exact (quote_no _ _ h).1
  · rcases List.mem_cons.1 h with rfl | h
    · decide
    · exact (quote_no _ _ h).1
theorem splitA_ne (l : By) : splitA l ≠ [] := by
  cases l with
  | nil => simp [splitA]
  | cons c r => unfold splitA; split
                · simp
                · split <;> simp
theorem splitA_one (x : By) (h : ∀ c ∈ x, c ≠ 38) : splitA x = [x] := by
  induction x with
  | nil => rfl
  | cons c r ih =>
    rw [splitA, if_neg (h c (by simp)), ih (fun d hd => h d (by simp [hd]))]
theorem splitA_app (a b : By) : splitA (a ++ 38 :: b) = splitA a ++ splitA b := by
  induction a with
  | nil => simp [splitA]
  | cons c r ih =>
    rw [List.cons_append, splitA, splitA]
    by_cases h : c = 38
    · rw [if_pos h, if_pos h, ih]; rfl
    · rw [if_neg h, if_neg h, ih]
      cases hr : splitA r with
      | nil => exact absurd hr (splitA_ne r)
      | cons p ps => rfl
theorem pieces_app (a b : By) : pieces (a ++ 38 :: b) = pieces a ++ pieces b := by
  unfold pieces; rw [splitA_app, List.filter_append]
theorem pieces_e1 (p : By × By) : pieces (e1 p) = [e1 p] := by
  unfold pieces
  rw [splitA_one _ (e1_no p)]
  have : (e1 p).isEmpty = false := by simp [e1]
  simp [this]
theorem pieces_prJ (l : List (By × By)) : pieces (prJ l) = l.map e1 := by
  cases l with
  | nil => rfl
  | cons p r =>
    have : ∀ (r : List (By × By)) (p : By × By), pieces (e1 p ++ r.flatMap fun p => 38 :: e1 p) = e1 p :: r.map e1 := by
      intro r
      induction r with
      | nil => intro p; simp [pieces_e1]
      | cons q r ih => intro p; rw [List.flatMap_cons, List.cons_append, pieces_app, pieces_e1, ih q]; rfl
    exact this r p
theorem bef_app (a b : By) (h : ∀ c ∈ a, c ≠ 61) : bef (a ++ 61 :: b) 61 = a := by
  unfold bef
  induction a with
  | nil => simp
  | cons c r ih =>
    have hc : (c != 61) = true := by simpa using h c (by simp)
    rw [List.cons_append, List.takeWhile_cons, hc, if_pos rfl, ih (fun d hd => h d (by simp [hd]))]
theorem aft_app (a b : By) (h : ∀ c ∈ a, c ≠ 61) : aft (a ++ 61 :: b) 61 = b := by
  unfold aft
  rw [bef_app a b h, show a ++ 61 :: b = (a ++ [61]) ++ b from by simp]
  exact List.drop_left' (by simp)
theorem pairOf_e1 (p : By × By) : pairOf (e1 p) = some p := by
  have hn : ∀ c ∈ quote p.1, c ≠ 61 := fun c hc => (quote_no _ _ hc).2
  unfold pairOf e1
  rw [bef_app _ _ hn, aft_app _ _ hn, unq_quote, unq_quote]
/-- the pairs of pieces, if each has one -/
def prs : List By → Option (List (By × By))
  | [] => some []
  | p :: ps => match pairOf p, prs ps with
    | some x, some l => some (x :: l)
    | _, _ => none
theorem prs_len : ∀ (ps : List By) (l : List (By × By)), prs ps = some l → l.length = ps.length
  | [], l, h => by rw [prs] at h; cases h; rfl
  | p :: ps, l, h => by
    rw [prs] at h
    cases h1 : pairOf p with
    | none => simp [h1] at h
    | some x => cases h2 : prs ps with
      | none => simp [h1, h2] at h
      | some m => simp only [h1, h2, Option.some.injEq] at h; subst h; simp [prs_len ps m h2]
theorem prs_app : ∀ (a b : List By), prs (a ++ b) = match prs a, prs b with
    | some l, some m => some (l ++ m)
    | _, _ => none
  | [], b => by simp only [List.nil_append, prs]; cases prs b <;> rfl
  | p :: a, b => by
    simp only [List.cons_append, prs, prs_app a b]
    cases pairOf p <;> cases prs a <;> cases prs b <;> rfl
theorem parseGo_some : ∀ (ps : List By) (l acc : List (By × By)), prs ps = some l → acc.length + l.length ≤ 64 → parseGo ps acc = (acc ++ l, 0)
  | [], l, acc, h, _ => by rw [prs] at h; cases h; simp [parseGo]
  | p :: ps, l, acc, h, hl => by
    rw [prs] at h
    cases h1 : pairOf p with
    | none => simp [h1] at h
    | some x => cases h2 : prs ps with
      | none => simp [h1, h2] at h
      | some m =>
        simp only [h1, h2, Option.some.injEq] at h; subst h
        simp only [List.length_cons] at hl
        rw [parseGo, if_neg (by omega), h1]
        simp only
        rw [parseGo_some ps m _ h2 (by simp; omega), List.append_assoc, List.singleton_append]
theorem parseGo_or : ∀ (ps : List By) (acc : List (By × By)), acc.length ≤ 64 → (∃ l, prs ps = some l ∧ acc.length + l.length ≤ 64) ∨ ∃ e : Int, parseGo ps acc = ([], e) ∧ (e = 2 ∨ e = 3)
  | [], acc, h => .inl ⟨[], rfl, by simpa using h⟩
  | p :: ps, acc, h => by
    rw [parseGo]
    by_cases h64 : acc.length = 64
    · rw [if_pos h64]; exact .inr ⟨2, rfl, .inl rfl⟩
    · rw [if_neg h64]
      cases h1 : pairOf p with
      | none => exact .inr ⟨3, rfl, .inr rfl⟩
      | some x =>
        rcases parseGo_or ps (acc ++ [x]) (by simp; omega) with ⟨l, h2, h3⟩ | h3
        · exact .inl ⟨x :: l, by rw [prs, h1, h2], by simp only [List.length_append, List.length_cons] at *; simp at *; omega⟩
        · exact .inr h3
theorem parse_or (s : By) : (∃ l, s.length ≤ 16384 ∧ prs (pieces s) = some l ∧ l.length ≤ 64 ∧ parse s = (l, 0)) ∨ ∃ e : Int, parse s = ([], e) ∧ (e = 2 ∨ e = 3) ∧ (s.length ≤ 16384 → ∀ l, prs (pieces s) = some l → 64 < l.length) := by
  unfold parse
  by_cases h : s.length > 16384
  · rw [if_pos h]; exact .inr ⟨2, rfl, .inl rfl, fun h2 => by omega⟩
  · rw [if_neg h]
    rcases parseGo_or (pieces s) [] (by simp) with ⟨l, h1, h2⟩ | ⟨e, h1, h2⟩
    · refine .inl ⟨l, by omega, h1, by simpa using h2, ?_⟩
      rw [parseGo_some _ _ _ h1 h2]; rfl
    · refine .inr ⟨e, h1, h2, fun _ l hl => ?_⟩
      refine Nat.lt_of_not_le fun hc => ?_
      rw [parseGo_some _ l [] hl (by simpa using hc)] at h1
      have := congrArg Prod.snd h1
      simp only at this
      rcases h2 with rfl | rfl <;> omega
theorem prs_e1 (l : List (By × By)) : prs (l.map e1) = some l := by
  induction l with
  | nil => rfl
  | cons p r ih => rw [List.map_cons, prs, pairOf_e1, ih]
/-- what is printed is parsed to what it was -/
theorem parse_print (l : List (By × By)) (u : By) (h : printR l = some u) : parse u = (l, 0) ∧ u.length ≤ 16384 := by
  unfold printR at h
  split at h
  · cases h
  · rename_i hn
    cases h
    refine ⟨?_, by omega⟩
    unfold parse
    rw [if_neg (by omega), pieces_prJ, parseGo_some _ l [] (prs_e1 l) (by simp; omega)]; rfl
/-- two forms with a & between -/
theorem parse_join (a b : By) (h : a.length + b.length < 16384) :
    (∃ l m, parse a = (l, 0) ∧ parse b = (m, 0) ∧ l.length + m.length ≤ 64 ∧ l.length ≤ 64 ∧ m.length ≤ 64 ∧ parse (a ++ 38 :: b) = (l ++ m, 0))
    ∨ (∃ e, parse (a ++ 38 :: b) = ([], e) ∧ (e = 2 ∨ e = 3)) ∧ ((∃ l m, parse a = (l, 0) ∧ parse b = (m, 0) ∧ l.length ≤ 64 ∧ m.length ≤ 64 ∧ 64 < l.length + m.length) ∨ (∃ l e, parse a = (l, 0) ∧ l.length ≤ 64 ∧ parse b = ([], e) ∧ (e = 2 ∨ e = 3)) ∨ (∃ e m f, parse a = ([], e) ∧ (e = 2 ∨ e = 3) ∧ parse b = (m, f) ∧ m.length ≤ 64)) := by
  have hlen : (a ++ 38 :: b).length ≤ 16384 := by simp; omega
  have hp := prs_app (pieces a) (pieces b)
  rw [← pieces_app] at hp
  have hj := parse_or (a ++ 38 :: b)
  rcases parse_or a with ⟨l, _, h1, h2, h3⟩ | ⟨e, h3, he, h2⟩
  · rcases parse_or b with ⟨m, _, g1, g2, g3⟩ | ⟨f, g3, hf, g2⟩
    · rw [h1, g1] at hp
      by_cases hs : l.length + m.length ≤ 64
      · refine .inl ⟨l, m, h3, g3, hs, h2, g2, ?_⟩
        unfold parse
        rw [if_neg (by omega), parseGo_some _ _ [] hp (by simpa using hs)]; rfl
      · rcases hj with ⟨n, _, j1, j2, j3⟩ | ⟨x, j3, hx, _⟩
        · rw [hp] at j1; cases j1; simp at j2; omega
        · exact .inr ⟨⟨x, j3, hx⟩, .inl ⟨l, m, h3, g3, h2, g2, by omega⟩⟩
    · rcases hj with ⟨n, _, j1, j2, j3⟩ | ⟨x, j3, hx, _⟩
      · exfalso
        rw [hp, h1] at j1
        cases gb : prs (pieces b) with
        | none => simp [gb] at j1
        | some m => have := g2 (by omega) m gb; simp only [gb, Option.some.injEq] at j1; subst j1; simp at j2; omega
      · exact .inr ⟨⟨x, j3, hx⟩, .inr (.inl ⟨l, f, h3, h2, g3, hf⟩)⟩
  · rcases hj with ⟨n, _, j1, j2, j3⟩ | ⟨x, j3, hx, _⟩
    · exfalso
      rw [hp] at j1
      cases ga : prs (pieces a) with
      | none => simp [ga] at j1
      | some l =>
        have := h2 (by omega) l ga
        cases gb : prs (pieces b) with
        | none => simp [ga, gb] at j1
        | some m => simp only [ga, gb, Option.some.injEq] at j1; subst j1; simp at j2; omega
    · refine .inr ⟨⟨x, j3, hx⟩, .inr (.inr ⟨e, ?_⟩)⟩
      rcases parse_or b with ⟨m, _, _, g2, g3⟩ | ⟨f, g3, _, _⟩
      · exact ⟨m, 0, h3, he, g3, g2⟩
      · exact ⟨[], f, h3, he, g3, by simp⟩
end Go.Proofs.Ytemlggemomiaeaa.Fs
