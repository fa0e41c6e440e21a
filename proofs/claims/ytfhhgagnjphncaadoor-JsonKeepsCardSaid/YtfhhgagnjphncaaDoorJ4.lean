/-
  Chapter 5: the walks of JsonBack, JsonForth, JsonUnlike.
-/
import Derived.Test.YtfhhgagnjphncaaDoorJ3
namespace Go.Proofs.YtfhhgagnjphncaaDoor
open Go.RowKit Js

set_option maxRecDepth 20000 in
set_option maxHeartbeats 4000000 in
theorem jsonBack_walk (v : Value) (l : List Mb) (w : World) (h : RdM w v l) (hf : Hid (fitL l)) (hm : l.length ≤ 1152921504606846976) (hL : Hid (LaidB w.heap.size w)) :
    Calls Tryd.prog 5 #[v] w fun e w' => e = .returned (.bool true) ∧ Below w.heap.size w w' := by
  obtain ⟨P, hP⟩ : ∃ P, P = pr l := ⟨_, rfl⟩
  obtain ⟨P1, P2⟩ := P
  by_cases h0 : P2 = 0
  · subst h0
    have HQ := Lib.hid (parse_pr hP.symm (fitL.inR hf.out))
    have HP := Lib.hid hP
    clear hP
    go_enter Tryd.func5, Tryd.ntmps5
    go_wp2_with fail
    refine (print_any v l _ h hf hm (Lib.hid hL.out.tab.here)).mono ?_
    rintro e w1 ⟨rfl, hb1⟩
    rw [← HP.out]
    go_wp2_with fail
    refine (known_any w.heap.size _ hb1.size (Lib.hid (hL.out.on hb1))).mono ?_
    rintro e w2 ⟨rfl, hb2⟩
    have hbw2 := below_step hb1 hb2
    clear hb1 hb2
    go_wp2_with fail
    refine (jparse_any P1 _ (Lib.hid ((hL.out.on hbw2).mono hbw2.size))).mono ?_
    intro e w3 hQ
    unfold PaR at hQ
    rw [HQ.out] at hQ
    obtain ⟨u, rfl, hown, hb3⟩ := hQ
    have hbw3 := below_step hbw2 hb3
    go_wp2_with fail
    refine (same_true v u l _ (h.below hbw3) hown.rd hm).mono ?_
    rintro e w4 ⟨rfl, hb4⟩
    have hbw4 := below_step hbw3 hb4
    clear hb4 hbw3 hown hb3 hbw2
    go_wp2
    go_ret
    exact ⟨rfl, hbw4⟩
  · have hP1 : P1 = [] := by have := pr_err (l := l) (by rw [← hP]; exact h0); rw [← hP] at this; exact this
    subst hP1
    have HP := Lib.hid hP
    have hpb : (P2 == 0) = false := by rw [beq_eq_false_iff_ne]; exact h0
    have hpd : (P2 != 0) = true := by rw [bne, hpb]; rfl
    clear hP
    go_enter Tryd.func5, Tryd.ntmps5
    go_wp2_with fail
    refine (print_any v l _ h hf hm (Lib.hid hL.out.tab.here)).mono ?_
    rintro e w1 ⟨rfl, hb1⟩
    rw [← HP.out]
    go_wp2_with fail
    refine (known_any w.heap.size _ hb1.size (Lib.hid (hL.out.on hb1))).mono ?_
    rintro e w2 ⟨rfl, hb2⟩
    have hbw2 := below_step hb1 hb2
    clear hb1 hb2
    go_wp2_with fail
    refine (known_any w.heap.size _ hbw2.size (Lib.hid (hL.out.on hbw2))).mono ?_
    rintro e w3 ⟨rfl, hb3⟩
    have hbw3 := below_step hbw2 hb3
    clear hb3 hbw2
    go_wp2
    go_ret
    exact ⟨rfl, hbw3⟩

set_option maxRecDepth 20000 in
set_option maxHeartbeats 4000000 in
theorem jsonForth_walk (s : By) (w : World) (hL : Hid (LaidB w.heap.size w)) :
    Calls Tryd.prog 6 #[.string ⟨s.toArray⟩] w fun e w' => e = .returned (.bool true) ∧ Below w.heap.size w w' := by
  obtain ⟨P, hP⟩ : ∃ P, P = parse s := ⟨_, rfl⟩
  obtain ⟨L, E⟩ := P
  by_cases h0 : E = 0
  · subst h0
    have hpr := pr_parse hP.symm
    have hfew := pr_few hpr.1
    have HF := Lib.hid (fit_parse hpr.1 hpr.2)
    have HR := Lib.hid hpr.1
    have HN := Lib.hid hfew.1
    have HP := Lib.hid hP
    have hse : ((⟨s.toArray⟩ : ByteArray).toList == (⟨s.toArray⟩ : ByteArray).toList) = true := str_eq (beq_self_eq_true _)
    clear hP hpr hfew
    go_enter Tryd.func6, Tryd.ntmps6
    go_wp2_with fail
    refine (jparse_any s _ hL).mono ?_
    intro e w1 hQ
    unfold PaR at hQ
    rw [← HP.out] at hQ
    obtain ⟨v, rfl, hown, hb1⟩ := hQ
    go_wp2_with fail
    refine (known_any w.heap.size _ hb1.size (Lib.hid (hL.out.on hb1))).mono ?_
    rintro e w2 ⟨rfl, hb2⟩
    have hown2 := hown.below hb2
    have hbw2 := below_step hb1 hb2
    clear hb1 hb2 hown
    go_wp2_with fail
    refine (print_any v L _ hown2.rd HF (by have := HN.out; omega) (Lib.hid (hL.out.on hbw2).tab.here)).mono ?_
    rintro e w3 ⟨rfl, hb3⟩
    rw [HR.out]
    have hbw3 := below_step hbw2 hb3
    clear hb3 hbw2 hown2
    go_wp2
    go_ret
    exact ⟨rfl, hbw3⟩
  · have hP1 : L = [] := by have := parse_bad (s := s) (by rw [← hP]; exact h0); rw [← hP] at this; exact this
    subst hP1
    have HP := Lib.hid hP
    have hpb : (E == 0) = false := by rw [beq_eq_false_iff_ne]; exact h0
    have hpd : (E != 0) = true := by rw [bne, hpb]; rfl
    clear hP
    go_enter Tryd.func6, Tryd.ntmps6
    go_wp2_with fail
    refine (jparse_any s _ hL).mono ?_
    intro e w1 hQ
    unfold PaR at hQ
    rw [← HP.out] at hQ
    obtain ⟨v, rfl, hown, hb1⟩ := hQ
    obtain ⟨a, c, hv⟩ := hown.rd.slice
    subst hv
    go_wp2_with fail
    refine (known_any w.heap.size _ hb1.size (Lib.hid (hL.out.on hb1))).mono ?_
    rintro e w2 ⟨rfl, hb2⟩
    have hbw2 := below_step hb1 hb2
    clear hb1 hb2 hown
    go_wp2_with fail
    refine (known_any w.heap.size _ hbw2.size (Lib.hid (hL.out.on hbw2))).mono ?_
    rintro e w3 ⟨rfl, hb3⟩
    have hbw3 := below_step hbw2 hb3
    clear hb3 hbw2
    go_wp2
    go_ret
    exact ⟨rfl, hbw3⟩

set_option maxRecDepth 20000 in
set_option maxHeartbeats 4000000 in
theorem jsonUnlike_walk (s t : By) (w : World) (hL : Hid (LaidB w.heap.size w)) :
    Calls Tryd.prog 7 #[.string ⟨s.toArray⟩, .string ⟨t.toArray⟩] w fun e w' => e = .returned (.bool true) ∧ Below w.heap.size w w' := by
  obtain ⟨P, hP⟩ : ∃ P, P = parse s := ⟨_, rfl⟩
  obtain ⟨L, E⟩ := P
  obtain ⟨Q, hQ⟩ : ∃ Q, Q = parse t := ⟨_, rfl⟩
  obtain ⟨M, F⟩ := Q
  have HP := Lib.hid hP
  have HQ := Lib.hid hQ
  have key : E = 0 → F = 0 → L.length ≤ 64 ∧ (L = M ↔ s = t) := by
    intro h1 h2
    subst h1; subst h2
    refine ⟨(pr_few (pr_parse hP.symm).1).1, fun e => ?_, fun e => ?_⟩
    · subst e; exact parse_inj hP.symm hQ.symm
    · subst e; rw [← hP] at hQ; exact (congrArg Prod.fst hQ).symm
  have HK := Lib.hid key
  clear hP hQ key
  go_enter Tryd.func7, Tryd.ntmps7
  go_wp2_with fail
  refine (jparse_any s _ hL).mono ?_
  intro e w1 hR
  unfold PaR at hR
  rw [← HP.out] at hR
  obtain ⟨v, rfl, hown, hb1⟩ := hR
  go_wp2_with fail
  refine (jparse_any t _ (Lib.hid ((hL.out.on hb1).mono hb1.size))).mono ?_
  intro e w2 hR
  unfold PaR at hR
  rw [← HQ.out] at hR
  obtain ⟨u, rfl, hown2, hb2⟩ := hR
  have hown1 := hown.below hb2
  have hbw2 := below_step hb1 hb2
  clear hown hb1 hb2
  go_wp2_with fail
  refine (known_any w.heap.size _ hbw2.size (Lib.hid (hL.out.on hbw2))).mono ?_
  rintro e w3 ⟨rfl, hb3⟩
  have hv3 := hown1.below hb3
  have hu3 := hown2.below hb3
  have hbw3 := below_step hbw2 hb3
  clear hb3 hbw2 hown1 hown2
  by_cases h0 : E = 0
  case neg =>
    have hpb : (E == 0) = false := by rw [beq_eq_false_iff_ne]; exact h0
    have hpd : (E != 0) = true := by rw [bne, hpb]; rfl
    go_wp2
    go_ret
    exact ⟨rfl, hbw3⟩
  case pos =>
  by_cases h1 : F = 0
  case neg =>
    have hpb : (F == 0) = false := by rw [beq_eq_false_iff_ne]; exact h1
    have hpd : (F != 0) = true := by rw [bne, hpb]; rfl
    subst h0
    go_wp2
    go_ret
    exact ⟨rfl, hbw3⟩
  case pos =>
  have hk := HK.out h0 h1
  subst h0
  subst h1
  have HN := Lib.hid hk.1
  by_cases hst : s = t
  · have HT := Lib.hid (hk.2.2 hst)
    subst hst
    have hse : ((⟨s.toArray⟩ : ByteArray).toList == (⟨s.toArray⟩ : ByteArray).toList) = true := str_eq (beq_self_eq_true _)
    clear hk HK
    go_wp2_with fail
    refine (same_dec v u L M _ hv3.rd hu3.rd (by have := HN.out; omega) true ⟨fun _ => HT.out, fun _ => rfl⟩).mono ?_
    rintro e w4 ⟨rfl, hb4⟩
    have hbw4 := below_step hbw3 hb4
    clear hb4 hbw3 hv3 hu3
    go_wp2
    go_ret
    exact ⟨rfl, hbw4⟩
  · have HT := Lib.hid (fun e => hst (hk.2.1 e))
    have hsb : (s == t) = false := by rw [beq_eq_false_iff_ne]; exact hst
    have hse := str_ne hsb
    clear hk HK
    go_wp2_with fail
    refine (same_dec v u L M _ hv3.rd hu3.rd (by have := HN.out; omega) false ⟨(fun h => by cases h), fun h => absurd h HT.out⟩).mono ?_
    rintro e w4 ⟨rfl, hb4⟩
    have hbw4 := below_step hbw3 hb4
    clear hb4 hbw3 hv3 hu3
    go_wp2
    go_ret
    exact ⟨rfl, hbw4⟩
end Go.Proofs.YtfhhgagnjphncaaDoor
