/-
  Chapter 22, plain: the group's invariant: a view begins.
  (Texts put together: Id.)
-/
import Derived.Test.YtdmjegelcdghlaaGreatGIv
namespace Go.Proofs.YtdmjegelcdghlaaGreat.Vw
set_option linter.unusedVariables false
set_option linter.unusedSimpArgs false
variable {O : Type}

theorem bestO_spec : ∀ (l : List (Of O)) (o : Of O), bestO l = some o → o ∈ l ∧ ∀ x ∈ l, x.nr < o.nr ∨ x.nr = o.nr ∧ x.last ≤ o.last := by
  intro l
  induction l with
  | nil => intro o h; cases h
  | cons a l ih =>
    intro o h
    unfold bestO at h
    cases hb : bestO l with
    | none =>
      rw [hb] at h
      cases h
      have hl : l = [] := by
        cases l with
        | nil => rfl
        | cons y l =>
          exfalso
          unfold bestO at hb
          split at hb
          · cases hb
          · split at hb <;> cases hb
      subst hl
      exact ⟨List.mem_cons_self, fun x hx => by
        rw [List.mem_singleton] at hx
        subst hx; exact .inr ⟨rfl, Nat.le_refl _⟩⟩
    | some b =>
      rw [hb] at h
      obtain ⟨h1, h2⟩ := ih b hb
      by_cases hbt : betterO b a = true
      · simp only [hbt, if_true] at h
        cases h
        refine ⟨List.mem_cons_of_mem _ h1, fun x hx => ?_⟩
        rcases List.mem_cons.1 hx with rfl | hx
        · unfold betterO at hbt
          simp only [Bool.or_eq_true, Bool.and_eq_true, decide_eq_true_eq] at hbt
          omega
        · exact h2 x hx
      · simp only [hbt] at h
        cases h
        refine ⟨List.mem_cons_self, fun x hx => ?_⟩
        unfold betterO at hbt
        simp only [Bool.or_eq_true, Bool.and_eq_true, decide_eq_true_eq] at hbt
        rcases List.mem_cons.1 hx with rfl | hx
        · exact .inr ⟨rfl, Nat.le_refl _⟩
        · have := h2 x hx
          omega
theorem bestO_some (l : List (Of O)) (h : 0 < l.length) : ∃ o, bestO l = some o := by
  cases l with
  | nil => exact absurd h (by simp)
  | cons a l =>
    unfold bestO
    split
    · exact ⟨_, rfl⟩
    · split <;> exact ⟨_, rfl⟩
variable {n N : Nat} {ok : O → Bool} {h : Gh O} {R : Nat → Rp O} {kp : Nat → Kt O} {sv : Nat → List (Sv O)} {i : Nat}
theorem Core.stab_own {vw nr ls : Nat → Nat} (H : Core n h vw nr ls) {v b v1 : Nat} (hi : i < n) (s : Stab n h v b) (h1 : v ≤ v1) (b1 : h.B v1) : (h.W (nr i)).take b = (h.W v1).take b := by
  obtain ⟨u, g1, g2⟩ := s
  exact (H.sb hi g2).2.trans (H.safe' (Nat.le_trans g1 h1) b1 (g2.cm H.n1)).2.symm
theorem foldl_max_le {α : Type} (f : α → Nat) (b : Nat) : ∀ (l : List α) (c : Nat), c ≤ b → (∀ x ∈ l, f x ≤ b) → l.foldl (fun c x => max c (f x)) c ≤ b := by
  intro l
  induction l with
  | nil => intro c hc _; exact hc
  | cons a l ih => intro c hc hl; exact ih _ (Nat.max_le.2 ⟨hc, hl a List.mem_cons_self⟩) fun x hx => hl x (List.mem_cons_of_mem _ hx)
theorem foldl_max_ge {α : Type} (f : α → Nat) : ∀ (l : List α) (c : Nat), c ≤ l.foldl (fun c x => max c (f x)) c := by
  intro l
  induction l with
  | nil => intro c; exact Nat.le_refl _
  | cons a l ih => intro c; exact Nat.le_trans (Nat.le_max_left _ _) (ih _)
theorem foldl_max_p {α : Type} (f : α → Nat) (P : Nat → Prop) (hP : ∀ a b, P a → P b → P (max a b)) : ∀ (l : List α) (c : Nat), P c → (∀ x ∈ l, P (f x)) → P (l.foldl (fun c x => max c (f x)) c) := by
  intro l
  induction l with
  | nil => intro c hc _; exact hc
  | cons a l ih => intro c hc hl; exact ih _ (hP _ _ hc (hl a List.mem_cons_self)) fun x hx => hl x (List.mem_cons_of_mem _ hx)
theorem wok_put {i v len Iv : Nat} {Wv : List O} {N' : Nat} (hw : Wok ok N h) (hN : N ≤ N') (h1 : Wv.all ok = true) (h2 : Wv.length ≤ N') : Wok ok N' (h.put v i len Wv Iv) := fun u => by
  show (upd h.W v Wv u).all ok = true ∧ (upd h.W v Wv u).length ≤ N'
  by_cases e : u = v
  · subst e; rw [upd_same]; exact ⟨h1, h2⟩
  · rw [upd_ne _ _ e]; exact ⟨(hw u).1, Nat.le_trans (hw u).2 hN⟩
theorem all_take {l : List O} (h : l.all ok = true) (k : Nat) : (l.take k).all ok = true := by
  rw [List.all_eq_true] at h ⊢
  exact fun x hx => h x (List.mem_of_mem_take hx)
theorem Al.p_begun1 (H : Al n ok N h R kp sv) (hN : N ≤ TM) (hi : i < n) (hm : mayBegin (R i) = true) {o : Of O} (ho : bestO (offL (R i)) = some o) :
    St n ok N h R kp sv i (save (begun1 (R i) o) (max o.ao (R i).bs)) ∧ leads (save (begun1 (R i) o) (max o.ao (R i).bs)) = true := by
  have g := H.rep i hi
  unfold mayBegin at hm
  simp only [Bool.and_eq_true, decide_eq_true_eq] at hm
  obtain ⟨⟨hm1, hm2⟩, hm3⟩ := hm
  obtain ⟨ho1, ho2⟩ := bestO_spec _ _ ho
  have hmem : ∀ x ∈ offL (R i), ∃ k, k < n ∧ (R i).offs k = some x := fun x hx => by
    obtain ⟨k, hk, h1⟩ := List.mem_filterMap.1 hx
    rw [List.mem_range, g.nn] at hk
    exact ⟨k, hk, h1⟩
  obtain ⟨kb, hkb, hkb1⟩ := hmem o ho1
  obtain ⟨b1, b2, b3, b4, b5, b6⟩ := g.of kb o hkb1
  obtain ⟨v, hv⟩ : ∃ v, v = (R i).vw := ⟨_, rfl⟩
  rw [← hv] at b1 b2 b4
  have hnb : ¬ h.B v := fun hb => by
    have h1 := H.core.pv v hb
    rw [b2] at h1
    have h2 : v ≤ (R i).nr := h1
    omega
  obtain ⟨c, hc⟩ : ∃ c, c = max o.ao (R i).bs := ⟨_, rfl⟩
  have hlast : o.last = o.ao + o.ops.length := rfl
  have hc1 : (R i).bs ≤ c := by rw [hc]; exact Nat.le_max_right _ _
  have hc2 : o.ao ≤ c := by rw [hc]; exact Nat.le_max_left _ _
  have hc3 : c ≤ (R i).ls := by rw [hc]; exact Nat.max_le.2 ⟨b5, Nat.le_trans g.od.1 (Nat.le_trans g.od.2.1 g.od.2.2.1)⟩
  have hc4 : c ≤ o.last := by rw [hc]; exact Nat.max_le.2 ⟨Nat.le_trans b4.le.1 b4.le.2, Nat.le_trans g.od.1 (Nat.le_trans g.od.2.1 b6)⟩
  have hag : (h.W (R i).nr).take c = (h.W o.nr).take c := by
    rcases Nat.le_total o.ao (R i).bs with h1 | h1
    · rw [hc, Nat.max_eq_right h1]
      obtain ⟨u, g1, g2⟩ := g.bs
      rcases Nat.eq_zero_or_pos (R i).bs with h0 | h0
      · rw [h0]; rfl
      · have h3 := (b4.fz u (by omega) (Nat.lt_of_lt_of_le h0 (g2.2 kb hkb))).1
        exact H.core.stab_own hi ⟨u, h3, g2⟩ (Nat.le_refl _) b4.b
    · rw [hc, Nat.max_eq_left h1]
      exact H.core.stab_own hi b4.ao (Nat.le_refl _) b4.b
  obtain ⟨L, hL⟩ : ∃ L, L = layL (R i) o.ao o.ops := ⟨_, rfl⟩
  have hL1 : L = (R i).log.take (c - (R i).bs) ++ o.ops.drop (c - o.ao) := by rw [hL]; unfold layL; rw [← hc]
  have hlay := lay_sg g.sg b4.sg hc1 hc2 (by rw [← g.ls]; exact hc3) hc4 hag
  rw [← hL1, ← hlast] at hlay
  obtain ⟨Wv, hWv⟩ : ∃ Wv, Wv = (h.W o.nr).take o.last := ⟨_, rfl⟩
  have hWl : Wv.length = o.last := by
    have := b4.sg.le
    rw [hWv, List.length_take, Nat.min_eq_left]
    rw [hlast]; exact this
  have hWa : (h.W o.nr).take o.last = Wv.take o.last := by rw [hWv, List.take_take, Nat.min_self]
  have hsg : Sg Wv (R i).bs L := hlay.1.agree hWa (Nat.le_of_eq hlay.2)
  have hnil := (H.core.nb v hnb).1
  have E : Ext n h (h.put v i o.last Wv o.last) (fun k => (R k).vw) := put_ext H.core hi (by show (R i).vw ≤ v; omega) (by rw [hnil]; exact List.nil_prefix) (fun hb => absurd hb hnb) (fun e => by have e' : (R i).nr = v := e; omega)
  have hbeg : Beg n (h.put v i o.last Wv o.last) (upd (fun k => (R k).vw) i v) v := by
    refine ⟨fun k => ((R i).offs k).map fun x => (x.nr, x.last), kb, o.nr, o.last, ?_, fun k u l hq => ?_, by show Option.map _ ((R i).offs kb) = _; rw [hkb1]; rfl, upd_same _ _ _, ?_⟩
    · unfold Maj
      have h1 : (offL (R i)).length = (List.range n).countP fun k => (((R i).offs k).map fun x => (x.nr, x.last)).isSome := by
        unfold offL
        rw [List.length_filterMap_eq_countP, g.nn]
        refine List.countP_congr fun k _ => ?_
        cases (R i).offs k <;> simp
      rw [← h1, ← g.nn]
      exact hm3
    · obtain ⟨x, hx, hx2⟩ := Option.map_eq_some_iff.1 hq
      cases hx2
      obtain ⟨d1, d2, d3, d4, d5, d6⟩ := g.of k x hx
      rw [← hv] at d1 d2 d4
      have hne : x.nr ≠ v := by have := d4.nr; omega
      have hxm : x ∈ offL (R i) := List.mem_filterMap.2 ⟨k, List.mem_range.2 (by rw [g.nn]; exact d3), hx⟩
      have hWx : (h.put v i o.last Wv o.last).W x.nr = h.W x.nr := upd_ne _ _ hne
      have hIx : (h.put v i o.last Wv o.last).I x.nr = h.I x.nr := upd_ne _ _ hne
      have hAx : ∀ w, w < v → (h.put v i o.last Wv o.last).A w k = h.A w k := fun w hw => if_neg fun e => by have := e.1; omega
      refine ⟨d3, ?_, d4.nr, .inl d4.b, by rw [hIx]; exact d4.i, by rw [hWx]; exact d4.sg.le, fun w hw h0 => ?_, ?_⟩
      · by_cases e : k = i
        · subst e; rw [upd_same]; exact Nat.le_refl _
        · rw [upd_ne _ _ e]; exact d4.vk
      · rw [hAx w hw] at h0 ⊢
        exact d4.fz w hw h0
      · rcases ho2 x hxm with h1 | h1
        · exact .inl h1
        · exact .inr h1
    · have hne : o.nr ≠ v := by have := b4.nr; omega
      show (upd h.W v Wv v).take o.last = (upd h.W v Wv o.nr).take o.last
      rw [upd_same, upd_ne _ _ hne]
      exact hWa.symm
  have hcore : Core n (h.put v i o.last Wv o.last) (upd (fun k => (R k).vw) i v) (upd (fun k => (R k).nr) i v) (upd (fun k => (R k).ls) i o.last) :=
    put_core H.core hi (by show (R i).vw ≤ v; omega) (by rw [hnil]; exact List.nil_prefix) (fun hb => absurd hb hnb) (fun e => by have e' : (R i).nr = v := e; omega) ⟨Nat.le_refl _, by rw [hWl]; exact Nat.le_refl _⟩ (fun _ => hWl.symm) (fun e => absurd b2 e) fun _ => hbeg
  have hWv' : (h.put v i o.last Wv o.last).W v = Wv := upd_same _ _ _
  have hlsN : (R i).bs + L.length = o.last := hlay.2
  have hlt : (R i).nr < v := b1
  have hd : c + (L.drop (c - (R i).bs)).length = (R i).bs + L.length := by rw [List.length_drop]; omega
  have hWok : Wok ok N (h.put v i o.last Wv o.last) := wok_put H.wok (Nat.le_refl _) (by rw [hWv]; exact all_take (H.wok _).1 _) (by rw [hWv, List.length_take]; exact Nat.le_trans (Nat.min_le_right _ _) (H.wok _).2)
  have hbeg1 : save (begun1 (R i) o) (max o.ao (R i).bs) = { R i with st := 0, nr := v, log := L, ls := (R i).bs + L.length, cm := (offL (R i)).foldl (fun c x => max c (min x.cm ((R i).bs + L.length))) (R i).cm, offs := fun _ => none, hv := List.replicate n 0, saves := (R i).saves ++ [⟨true, v, c, L.drop (c - (R i).bs), (R i).sb⟩] } := by
    unfold save begun1 lay
    simp only [← hL, ← hc, ← hv, g.nn]
  rw [hbeg1]
  have hcmle : (offL (R i)).foldl (fun c x => max c (min x.cm ((R i).bs + L.length))) (R i).cm ≤ (R i).bs + L.length := foldl_max_le _ _ _ _ (by rw [hlsN]; exact b6) fun x _ => Nat.min_le_right _ _
  have hcmge := foldl_max_ge (fun x : Of O => min x.cm ((R i).bs + L.length)) (offL (R i)) (R i).cm
  refine ⟨H.put hi E ?_ ?_ ?_ ?_ hWok, ?_⟩
  · exact Nat.le_refl _
  · show Core n _ (upd _ i (R i).vw) (upd _ i v) (upd _ i ((R i).bs + L.length))
    rw [← hv, hlsN]; exact hcore
  · have hmono : ∀ k, k < n → (fun k => (R k).vw) k ≤ upd (fun k => (R k).vw) i (R i).vw k := upd_mono (n := n) (r := R i) (Nat.le_refl _)
    refine ⟨g.id, g.nn, ⟨by show 0 ≤ 2; omega, ⟨fun e => absurd e (by show ¬ (0 : Nat) = 1; omega), fun e => ?_⟩⟩, g.tm, ?_, rfl, ⟨g.od.1, Nat.le_trans g.od.2.1 hcmge, hcmle, Nat.le_trans g.od.2.2.2 hcmge⟩, ?_, ?_, ?_, fun k x hx => (by cases hx), ?_, fun _ _ k hk => ?_, fun x hx => (g.out x hx).ext E hmono⟩
    · have e' : v < (R i).vw := e
      omega
    · show Sg ((h.put v i o.last Wv o.last).W v) (R i).bs L
      rw [hWv']; exact hsg
    · refine foldl_max_p _ (Sure n _ v) (fun a b ha hb => ha.max hb) _ _ ((E.sure g.cm).up (by omega)) fun x hx => ?_
      obtain ⟨k, hk, hk1⟩ := hmem x hx
      obtain ⟨d1, d2, d3, d4, d5, d6⟩ := g.of k x hk1
      exact ((E.sure d4.cm).up (by have := d4.nr; omega)).le (Nat.min_le_left _ _)
    · exact (E.stab g.sb).up (by show (R i).nr ≤ v; omega)
    · exact (E.stab g.bs).up (by show (R i).nr ≤ v; omega)
    · show (List.replicate n 0).length = n
      rw [List.length_replicate]
    · show (List.replicate n 0).getD k 0 ≤ _
      rw [List.getD_eq_getElem?_getD, List.getElem?_replicate, if_pos hk]
      exact Nat.zero_le _
  · have hsv := (H.ld i hi).save (v' := v) (at_ := c) (sb := (R i).sb) (ops := L.drop (c - (R i).bs)) E (H.core.bn i hi) (by omega) (by omega) (by rw [hv]; exact g.tm) ?_ hc1 hc3 ?_ ((E.stab g.sb).up (by omega)) ?_ ?_ ?_
    · rw [hd, List.append_assoc] at hsv
      show LDR n ok _ i (R i).vw v ((R i).bs + L.length) (R i).bs (kp i) (sv i ++ ((R i).saves ++ _))
      rw [← hv]
      exact hsv
    · have h1 := hsg.drop (c - (R i).bs) (by omega)
      exact h1.all (by rw [hWv]; exact all_take (H.wok _).1 _)
    · have h1 := g.od.2.2.2
      have h2 := g.od.2.2.1
      have h3 := (H.core.li i hi).2
      have h4 := (H.wok (R i).nr).2
      have h5 : (R i).ls ≤ (h.W (R i).nr).length := h3
      omega
    · rw [hWv']
      have h1 := hsg.drop (c - (R i).bs) (by omega)
      rw [show (R i).bs + (c - (R i).bs) = c by omega] at h1
      exact h1
    · have hne : (R i).nr ≠ v := by omega
      rw [hWv', show (h.put v i o.last Wv o.last).W (R i).nr = h.W (R i).nr from upd_ne _ _ hne, hag, hWv, List.take_take, Nat.min_eq_left hc4]
    · intro d hd1 hd2
      obtain ⟨u, hu1, hu2⟩ := hd1
      have h1 := (hcore.safe v u d (by omega) (.inr rfl) hu2).1
      rw [show (h.put v i o.last Wv o.last).I v = o.last from upd_same _ _ _] at h1
      rw [hd, hlsN]; exact h1
  · unfold leads prm
    simp only [Bool.and_eq_true, decide_eq_true_eq]
    rw [g.nn, g.id, ← hv]
    exact ⟨trivial, b2⟩
theorem Al.p_begin (H : Al n ok N h R kp sv) (hN : N ≤ TM) (hi : i < n) : St n ok N h R kp sv i (begin_ (R i)) := by
  unfold begin_
  by_cases hm : mayBegin (R i) = true
  · rw [if_pos hm]
    have hlen : 0 < (offL (R i)).length := by
      unfold mayBegin at hm
      simp only [Bool.and_eq_true, decide_eq_true_eq] at hm
      omega
    obtain ⟨o, ho⟩ := bestO_some _ hlen
    rw [ho]
    obtain ⟨h1, h2⟩ := H.p_begun1 hN hi hm ho
    show St n ok N h R kp sv i (count (start (save (begun1 (R i) o) (max o.ao (R i).bs)) (List.range (save (begun1 (R i) o) (max o.ao (R i).bs)).n)))
    generalize save (begun1 (R i) o) (max o.ao (R i).bs) = r2 at *
    refine h1.trans hi fun h' e v a => ?_
    have hnn : r2.n = n := by have := (a.rep i hi).nn; rw [upd_same] at this; exact this
    have h3 : St n ok N h' (upd R i r2) kp sv i (start r2 (List.range r2.n)) := by
      have h4 := a.p_send hi (fun _ _ => mBegin r2) (List.range r2.n) fun k hk => ⟨by rw [List.mem_range, hnn] at hk; exact hk, fun hne => by
        have h5 := a.m_begin hi (by rw [upd_same]; exact h2) (by rw [List.mem_range, hnn] at hk; exact hk) hne
        rw [upd_same] at h5 ⊢
        exact h5⟩
      rw [upd_same] at h4
      rw [start_eq]
      exact h4
    refine h3.trans hi fun h'' e' v' a' => ?_
    rw [upd_upd] at a'
    have h5 := a'.p_count hi (by rw [upd_same, start_eq]; exact h2)
    rw [upd_same] at h5
    rw [upd_upd]
    exact h5
  · rw [if_neg hm]
    exact St.refl H i
end Go.Proofs.YtdmjegelcdghlaaGreat.Vw
