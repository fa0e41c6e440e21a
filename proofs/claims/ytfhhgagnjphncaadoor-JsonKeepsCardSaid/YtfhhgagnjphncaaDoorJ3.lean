/-
  Chapter 5: the walks of JsonPrints, JsonParses, JsonBack, JsonForth, JsonUnlike.
-/
import Derived.Test.YtfhhgagnjphncaaDoorJ2
namespace Go.Proofs.YtfhhgagnjphncaaDoor
open Go.RowKit Js

theorem fit_parse {s : By} {l : List Mb} (h : pr l = (s, 0)) (hr : inR l) : fitL l := by
  have hp := h
  unfold pr at hp
  by_cases h1 : l.length > 64
  · rw [if_pos h1] at hp; simp at hp
  rw [if_neg h1] at hp
  by_cases h2 : good l
  · rw [if_pos h2] at hp
    by_cases h3 : (txt l).length < 16384
    · rw [if_pos h3] at hp
      intro m hm
      have key : ∀ (l : List Mb), ∀ m ∈ l, (mt m).length ≤ (jt l).length := by
        intro l
        cases l with
        | nil => intro m hm; cases hm
        | cons x r =>
          intro m hm
          simp only [jt, List.length_append]
          rcases List.mem_cons.1 hm with rfl | hm
          · omega
          · have : ∀ r : List Mb, m ∈ r → (mt m).length ≤ (r.flatMap fun x => 44 :: mt x).length := by
              intro r
              induction r with
              | nil => intro h; cases h
              | cons y r ih =>
                intro h
                simp only [List.flatMap_cons, List.length_append, List.length_cons]
                rcases List.mem_cons.1 h with rfl | h
                · omega
                · have := ih h; omega
            have := this r hm
            omega
      have k := key l m hm
      have ht : (txt l).length = (jt l).length + 1 := rfl
      have hqb : ∀ s : By, s.length ≤ (qb s).length := by
        intro s
        induction s with
        | nil => simp
        | cons c s ih =>
          have : 1 ≤ (q1 c).length := by unfold q1; split <;> (try split) <;> simp
          simp only [qb, List.flatMap_cons, List.length_append, List.length_cons] at ih ⊢
          omega
      have hmt : m.nm.length + m.tx.length ≤ (mt m).length := by
        have hn := hqb m.nm
        have hrt : rt m = true := by
          obtain ⟨i, hi, rfl⟩ := List.getElem_of_mem hm
          exact (h2 i hi).2
        simp only [Js.mt, qt, List.length_append, List.length_cons]
        by_cases hk : m.kd = 0
        · have ht := hqb m.tx
          have : vt m = qt m.tx := by unfold vt; rw [if_pos hk]
          rw [this]; simp only [qt, List.length_append, List.length_cons]; omega
        · have : m.tx = [] := by
            unfold rt at hrt
            rw [if_neg hk] at hrt
            by_cases hk1 : m.kd = 1
            · rw [if_pos hk1] at hrt; simp at hrt; exact hrt.1
            · rw [if_neg hk1] at hrt
              by_cases hk2 : m.kd = 2
              · rw [if_pos hk2] at hrt; simp at hrt; exact hrt.1
              · rw [if_neg hk2] at hrt; cases hrt
          rw [this]; simp only [List.length_nil]; omega
      exact ⟨by omega, by omega, hr m hm⟩
    · rw [if_neg h3] at hp; simp at hp
  · rw [if_neg h2] at hp; simp at hp
theorem pr_few {s : By} {l : List Mb} (h : pr l = (s, 0)) : l.length ≤ 64 ∧ s.length ≤ 16384 := by
  unfold pr at h
  by_cases h1 : l.length > 64
  · rw [if_pos h1] at h; simp at h
  rw [if_neg h1] at h
  by_cases h2 : good l
  · rw [if_pos h2] at h
    by_cases h3 : (txt l).length < 16384
    · rw [if_pos h3] at h
      have := congrArg (fun p => List.length p.1) h
      simp at this
      exact ⟨by omega, by omega⟩
    · rw [if_neg h3] at h; simp at h
  · rw [if_neg h2] at h; simp at h

set_option maxRecDepth 20000 in
set_option maxHeartbeats 4000000 in
theorem jsonPrints_walk (v : Value) (l : List Mb) (w : World) (h : RdM w v l) (hf : Hid (fitL l)) (hm : l.length ≤ 1152921504606846976) (hL : Hid (LaidB w.heap.size w)) :
    Calls Tryd.prog 3 #[v] w fun e w' => e = .returned (.bool true) ∧ Below w.heap.size w w' := by
  obtain ⟨P, hP⟩ : ∃ P, P = pr l := ⟨_, rfl⟩
  obtain ⟨P1, P2⟩ := P
  have HP := Lib.hid hP
  clear hP
  have hse : ((⟨P1.toArray⟩ : ByteArray).toList == (⟨P1.toArray⟩ : ByteArray).toList) = true := str_eq (beq_self_eq_true _)
  go_enter Tryd.func3, Tryd.ntmps3
  go_wp2_with fail
  refine (print_any v l _ h hf hm (Lib.hid hL.out.tab.here)).mono ?_
  rintro e w1 ⟨rfl, hb1⟩
  go_wp2_with fail
  refine (rprint_any v l _ (h.below hb1) hf hm).mono ?_
  rintro e w2 ⟨rfl, hb2⟩
  have hbw2 := below_step hb1 hb2
  rw [← HP.out]
  go_wp2_with fail
  refine (known_any w.heap.size _ hbw2.size (Lib.hid (hL.out.on hbw2))).mono ?_
  rintro e w3 ⟨rfl, hb3⟩
  have hbw3 := below_step hbw2 hb3
  clear hb1 hb2 hb3 hbw2
  go_wp2
  go_ret
  exact ⟨rfl, hbw3⟩

set_option maxRecDepth 20000 in
set_option maxHeartbeats 4000000 in
theorem jsonParses_walk (s : By) (w : World) (hL : Hid (LaidB w.heap.size w)) :
    Calls Tryd.prog 4 #[.string ⟨s.toArray⟩] w fun e w' => e = .returned (.bool true) ∧ Below w.heap.size w w' := by
  have hlen : (parse s).1.length ≤ 1152921504606846976 := by
    rcases parse_err s with h | ⟨h, _⟩ | ⟨h, _⟩
    · have := (pr_few (pr_parse (l := (parse s).1) (Prod.ext rfl h)).1).1; omega
    · rw [h]; decide
    · rw [h]; decide
  obtain ⟨P, hP⟩ : ∃ P, P = parse s := ⟨_, rfl⟩
  obtain ⟨L, E⟩ := P
  have HP := Lib.hid hP
  rw [← hP] at hlen
  have HLN := Lib.hid hlen
  clear hP hlen
  go_enter Tryd.func4, Tryd.ntmps4
  go_wp2_with fail
  refine (jparse_any s _ hL).mono ?_
  intro e w1 hQ
  unfold PaR at hQ
  rw [← HP.out] at hQ
  obtain ⟨v, rfl, hown, hb1⟩ := hQ
  go_wp2_with fail
  refine (rparse_any s _).mono ?_
  rw [← HP.out]
  rintro e w2 ⟨u, rfl, hown2, hb2⟩
  have hownv := hown.below hb2
  have hbw2 := below_step hb1 hb2
  go_wp2_with fail
  refine (known_any w.heap.size _ hbw2.size (Lib.hid (hL.out.on hbw2))).mono ?_
  rintro e w3 ⟨rfl, hb3⟩
  have hbw3 := below_step hbw2 hb3
  have hv3 := hownv.below hb3
  have hu3 := hown2.below hb3
  clear hb1 hb2 hb3 hbw2 hown hown2 hownv
  go_wp2_with fail
  refine (same_true v u L _ hv3.rd hu3.rd HLN.out).mono ?_
  rintro e w4 ⟨rfl, hb4⟩
  have hbw4 := below_step hbw3 hb4
  clear hb4 hbw3 hv3 hu3
  go_wp2
  go_ret
  exact ⟨rfl, hbw4⟩
end Go.Proofs.YtfhhgagnjphncaaDoor
