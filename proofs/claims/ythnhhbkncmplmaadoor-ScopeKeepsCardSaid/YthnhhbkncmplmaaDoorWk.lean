/-
  Chapter 6: the reference's Parse.
-/
import Derived.Test.YthnhhbkncmplmaaDoorWj
namespace Go.Proofs.YthnhhbkncmplmaaDoor
open Go.RowKit

theorem pieces_nosp (a : List UInt8) (h : 32 ∉ a) : Sc.pieces a = [a] := by
  induction a with
  | nil => rfl
  | cons c r ih =>
    rw [List.mem_cons, not_or] at h
    unfold Sc.pieces
    rw [if_neg (fun e => h.1 e.symm), ih h.2]
theorem pieces_sp (a b : List UInt8) (h : 32 ∉ a) : Sc.pieces (a ++ 32 :: b) = a :: Sc.pieces b := by
  induction a with
  | nil => simp [Sc.pieces]
  | cons c r ih =>
    rw [List.mem_cons, not_or] at h
    rw [List.cons_append, Sc.pieces, if_neg (fun e => h.1 e.symm), ih h.2]
/-- the piece between two places -/
def pc (s : List UInt8) (f i : Nat) : List UInt8 := (s.take i).drop f
theorem pc_no (s : List UInt8) (f i : Nat) (h : ∀ j, f ≤ j → j < i → s[j]? ≠ some 32) : 32 ∉ pc s f i := by
  intro hm
  obtain ⟨j, hj⟩ := List.getElem?_of_mem hm
  unfold pc at hj
  rw [List.getElem?_drop] at hj
  have hlt : f + j < i := by
    have := (List.getElem?_eq_some_iff.1 hj).1
    rw [List.length_take] at this; omega
  rw [List.getElem?_take_of_lt hlt] at hj
  exact h _ (by omega) hlt hj
theorem pc_all (s : List UInt8) (f : Nat) : pc s f s.length = s.drop f := by unfold pc; rw [List.take_of_length_le (Nat.le_refl _)]
theorem pc_drop (s : List UInt8) (f i : Nat) (hf : f ≤ i) (hi : i < s.length) : s.drop f = pc s f i ++ s[i] :: s.drop (i + 1) := by
  have e : s.drop i = s[i] :: s.drop (i + 1) := List.drop_eq_getElem_cons hi
  unfold pc
  rw [← e]
  have h2 : s.drop f = (s.take i ++ s.drop i).drop f := by rw [List.take_append_drop]
  rw [h2, List.drop_append_of_le_length (by rw [List.length_take]; omega)]
theorem pc_len (s : List UInt8) (f i : Nat) : (pc s f i).length ≤ s.length := by unfold pc; rw [List.length_drop, List.length_take]; omega

def Inv (s : List UInt8) (i f : Nat) (l : List (List UInt8)) : Prop :=
  f ≤ i ∧ l.Nodup ∧ l.length ≤ i ∧ ∃ done, (∀ x, x ∈ l ↔ x ∈ done) ∧ (∀ x ∈ done, Sc.word x = true) ∧
    ((i ≤ s.length ∧ Sc.pieces s = done ++ Sc.pieces (s.drop f) ∧ ∀ j, f ≤ j → j < i → s[j]? ≠ some 32) ∨ (i = s.length + 1 ∧ Sc.pieces s = done))
theorem inv_start (s : List UInt8) : Inv s 0 0 [] := ⟨Nat.le_refl _, List.nodup_nil, Nat.le_refl _, [], by simp, by simp, .inl ⟨Nat.zero_le _, by simp, fun j _ h => by omega⟩⟩
theorem inv_skip {s : List UInt8} {i f : Nat} {l : List (List UInt8)} (h : Inv s i f l) (hi : i < s.length) (hc : s[i]? ≠ some 32) : Inv s (i + 1) f l := by
  obtain ⟨h1, h2, h3, done, h4, h5, h6 | h6⟩ := h
  · refine ⟨by omega, h2, by omega, done, h4, h5, .inl ⟨by omega, h6.2.1, fun j hj1 hj2 => ?_⟩⟩
    by_cases hji : j = i
    · subst hji; exact hc
    · exact h6.2.2 j hj1 (by omega)
  · omega
theorem inv_piece {s : List UInt8} {i f : Nat} {l : List (List UInt8)} (h : Inv s i f l) (hi : i ≤ s.length) (hc : i < s.length → s[i]? = some 32) :
    ∃ done, (∀ x, x ∈ l ↔ x ∈ done) ∧ (∀ x ∈ done, Sc.word x = true) ∧ ((i < s.length ∧ Sc.pieces s = done ++ pc s f i :: Sc.pieces (s.drop (i + 1))) ∨ (i = s.length ∧ Sc.pieces s = done ++ [pc s f i])) := by
  obtain ⟨h1, h2, h3, done, h4, h5, h6 | h6⟩ := h
  · refine ⟨done, h4, h5, ?_⟩
    have hno := pc_no s f i h6.2.2
    by_cases hlt : i < s.length
    · left
      refine ⟨hlt, ?_⟩
      have hd := pc_drop s f i h1 hlt
      have h32 : s[i] = 32 := by have := hc hlt; rw [List.getElem?_eq_getElem hlt] at this; exact Option.some.inj this
      rw [h32] at hd
      rw [h6.2.1, hd, pieces_sp _ _ hno]
    · right
      have hie : i = s.length := by omega
      refine ⟨hie, ?_⟩
      subst hie
      rw [pc_all] at hno ⊢
      rw [h6.2.1, pieces_nosp _ hno]
  · omega
theorem inv_bad {s : List UInt8} {i f : Nat} {l : List (List UInt8)} (h : Inv s i f l) (hi : i ≤ s.length) (hc : i < s.length → s[i]? = some 32) (hw : Sc.word (pc s f i) = false) :
    ((Sc.pieces s).any fun x => !Sc.word x) = true := by
  obtain ⟨done, _, _, h6⟩ := inv_piece h hi hc
  rw [List.any_eq_true]
  refine ⟨pc s f i, ?_, by simp [hw]⟩
  rcases h6 with ⟨_, e⟩ | ⟨_, e⟩ <;> rw [e] <;> simp
theorem inv_next {s : List UInt8} {i f : Nat} {l l' : List (List UInt8)} (h : Inv s i f l) (hi : i ≤ s.length) (hc : i < s.length → s[i]? = some 32) (hw : Sc.word (pc s f i) = true)
    (hn : l'.Nodup) (hl : l'.length ≤ i + 1) (hm : ∀ x, x ∈ l' ↔ x ∈ l ∨ x = pc s f i) : Inv s (i + 1) (i + 1) l' := by
  obtain ⟨done, h4, h5, h6⟩ := inv_piece h hi hc
  refine ⟨Nat.le_refl _, hn, hl, done ++ [pc s f i], fun x => by rw [hm, h4]; simp, fun x hx => ?_, ?_⟩
  · rcases List.mem_append.1 hx with h | h
    · exact h5 x h
    · rw [List.mem_singleton.1 h]; exact hw
  · rcases h6 with ⟨hlt, e⟩ | ⟨he, e⟩
    · exact .inl ⟨hlt, by rw [e]; simp, fun j hj1 hj2 => by omega⟩
    · exact .inr ⟨by omega, e⟩
theorem inv_add {s : List UInt8} {i f : Nat} {l : List (List UInt8)} (h : Inv s i f l) (hi : i ≤ s.length) (hc : i < s.length → s[i]? = some 32) (hw : Sc.word (pc s f i) = true) (hx : pc s f i ∉ l) : Inv s (i + 1) (i + 1) (l ++ [pc s f i]) := by
  refine inv_next h hi hc hw ?_ (by have := h.2.2.1; simp; omega) (fun x => by simp)
  rw [List.nodup_append]
  exact ⟨h.2.1, by simp, fun a ha b hb => by rw [List.mem_singleton.1 hb]; exact fun e => hx (e ▸ ha)⟩
theorem inv_old {s : List UInt8} {i f : Nat} {l : List (List UInt8)} (h : Inv s i f l) (hi : i ≤ s.length) (hc : i < s.length → s[i]? = some 32) (hw : Sc.word (pc s f i) = true) (hx : pc s f i ∈ l) : Inv s (i + 1) (i + 1) l :=
  inv_next h hi hc hw h.2.1 (by have := h.2.2.1; omega) (fun x => ⟨.inl, fun e => e.elim id (fun e => e ▸ hx)⟩)
theorem inv_end {s : List UInt8} {f : Nat} {l : List (List UInt8)} (h : Inv s (s.length + 1) f l) : ((Sc.pieces s).any fun x => !Sc.word x) = false ∧ Sc.set l = Sc.set (Sc.pieces s) ∧ (Sc.set (Sc.pieces s)).length = l.length ∧ ∀ x ∈ l, x.length ≤ 64 := by
  obtain ⟨h1, h2, h3, done, h4, h5, h6 | ⟨_, e⟩⟩ := h
  · omega
  · have hset : Sc.set l = Sc.set (Sc.pieces s) := Sc.set_uniq (Sc.set_ss l) fun x => by rw [Sc.mem_set, h4, e]
    have hw : ∀ x ∈ l, Sc.word x = true := fun x hx => h5 x ((h4 x).1 hx)
    refine ⟨?_, hset, ?_, fun x hx => (Sc.word_len x (hw x hx)).2⟩
    · rw [e, List.any_eq_false]
      intro x hx; simp [h5 x hx]
    · rw [← hset]
      have hp : (Sc.set l).Perm l := (List.perm_ext_iff_of_nodup (Sc.set_ss l).2 h2).2 fun x => by rw [Sc.mem_set]; exact ⟨fun h => h.1, fun h => ⟨h, hw x h⟩⟩
      exact hp.length_eq
theorem inv_words {s : List UInt8} {i f : Nat} {l : List (List UInt8)} (h : Inv s i f l) : ∀ x ∈ l, x.length ≤ 9223372036854775807 := by
  obtain ⟨_, _, _, done, h4, h5, _⟩ := h
  intro x hx
  have := Sc.word_len x (h5 x ((h4 x).1 hx)); omega
theorem str_cut (s : List UInt8) (f i : Nat) (hf : f ≤ i) (hi : i ≤ s.length) (w : World) : (Instr.slice 9 (.string ⟨s.toArray⟩) (some (.int .i64 (f : Int))) (some (.int .i64 (i : Int))) none).run Tryd.prog w = .ok (.string ⟨(pc s f i).toArray⟩) w := by
  rw [run_slice_string w _ _ _ _ _ _ Tryd.underlying9 (by omega) (by omega) (by rw [st_size]; omega)]
  rw [Int.toNat_natCast, Int.toNat_natCast, st_extract]; rfl

set_option maxRecDepth 20000 in
set_option maxHeartbeats 4000000 in
theorem rparse_any (s : List UInt8) (w : World) :
    Calls Tryd.prog 14 #[.string ⟨s.toArray⟩] w fun e w' => ∃ v, e = .returned (.tuple #[v, .int .i64 (parseW s).2]) ∧ OwnS w' w.heap.size v (parseW s).1 ∧ Below w.heap.size w w' := by
  by_cases h1 : 16384 < s.length
  · have hp : parseW s = ([], 2) := by unfold parseW; rw [if_pos h1]
    rw [hp]
    have h1' : (16384 : Int) < (s.length : Int) := by omega
    clear hp h1
    go_enter Tryd.func14, Tryd.ntmps14
    go_wp2_with fail
    go_ret2
    exact ⟨_, rfl, OwnS.none _ _, Below.refl _ _⟩
  have h1' : decide ((16384 : Int) < (s.length : Int)) = false := by simp; omega
  by_cases h2 : s = []
  · subst h2
    have hp : parseW [] = ([], 0) := rfl
    rw [hp]
    clear hp
    go_enter Tryd.func14, Tryd.ntmps14
    go_wp2_with fail
    go_ret2
    exact ⟨_, rfl, OwnS.none _ _, Below.refl _ _⟩
  have h2' : s.isEmpty = false := by simpa using h2
  have hsl : s.length ≤ 16384 := by omega
  have hbad : ((Sc.pieces s).any fun x => !Sc.word x) = true → parseW s = ([], 3) := fun h3 => by unfold parseW; rw [if_neg h1, if_neg h2, if_pos h3]
  have hgood : ((Sc.pieces s).any fun x => !Sc.word x) = false → parseW s = if 32 < (Sc.set (Sc.pieces s)).length then ([], 2) else (Sc.set (Sc.pieces s), 0) := fun h3 => by unfold parseW; rw [if_neg h1, if_neg h2, if_neg (by rw [h3]; simp)]
  have HBAD := Lib.hid hbad
  have HGOOD := Lib.hid hgood
  obtain ⟨i0, hi, hz0, hz1, hz2⟩ := info_parts str_row
  clear hbad hgood h1 h2
  go_enter Tryd.func14, Tryd.ntmps14
  go_wp2_with fail
  go_loopw [4, 5, 6] (fun o f i wr => ∃ (k q : Nat) (l : List (List UInt8)), i = .int .i64 k ∧ f = .int .i64 q ∧ k ≤ s.length + 1 ∧ Inv s k q l ∧ OwnS wr w.heap.size o l ∧ Below w.heap.size w wr) (fun _ _ i _ => s.length + 1 - (intOf i).toNat)
  case atStart => exact ⟨0, 0, [], rfl, rfl, by omega, inv_start s, OwnS.none _ _, Below.refl _ _⟩
  case round =>
    obtain ⟨k, q, l, rfl, rfl, hk, hinv, ho, hb⟩ := hrel
    obtain ⟨ao, co, rfl⟩ := (Rd.of_own ho).slice
    have hqk : q ≤ k := hinv.1
    have hll : l.length ≤ k := hinv.2.2.1
    have HI := Lib.hid hinv
    have HO := Lib.hid ho
    clear hinv ho
    by_cases hks : k ≤ s.length
    case neg =>
      have hk' : k = s.length + 1 := by omega
      have hI := HI.out
      rw [hk'] at hI
      obtain ⟨h3, hse, hle, hsh⟩ := inv_end hI
      have hg := HGOOD.out h3
      have hks' : decide (k ≤ s.length) = false := by simp; omega
      have hks2 : decide ((k : Int) ≤ (s.length : Int)) = false := by simp; omega
      rw [hle] at hg
      by_cases h32 : 32 < l.length
      · rw [if_pos h32] at hg
        have HG := Lib.hid hg
        have h32' : (32 : Int) < (l.length : Int) := by omega
        clear hg h3 hse hle hsh hI hk' h32
        go_wp2_with fail
        go_ret2
        rw [HG.out]
        exact ⟨_, rfl, OwnS.none _ _, hb⟩
      · rw [if_neg h32] at hg
        have HG := Lib.hid hg
        have HSE := Lib.hid hse
        have h32' : decide ((32 : Int) < (l.length : Int)) = false := by simp; omega
        have hrd : RdS wr _ l := HO.out.rd (inv_words HI.out)
        have HS := Lib.hid (rset_any _ l wr hrd (by omega))
        clear hg h3 hse hle hsh hI hk' h32 hrd
        go_wp2_with fail
        refine HS.out.mono ?_
        rintro e w2 ⟨v2, rfl, ho2, hb2⟩
        rw [HSE.out] at ho2
        have HO2 := Lib.hid ho2
        clear ho2
        go_wp2_with fail
        go_ret2
        rw [HG.out]
        exact ⟨_, rfl, own_mono HO2.out hb.size, hb.trans (hb2.mono hb.size)⟩
    case pos =>
    have hki : (k : Int) ≤ (s.length : Int) := by omega
    by_cases hskip : k < s.length ∧ s[k]? ≠ some 32
    · obtain ⟨hlt, hc⟩ := hskip
      have HN := Lib.hid (inv_skip HI.out hlt hc)
      have hsz : k < (⟨s.toArray⟩ : ByteArray).size := by rw [st_size]; exact hlt
      obtain ⟨c, hcc⟩ : ∃ c, (⟨s.toArray⟩ : ByteArray)[k] = c := ⟨_, rfl⟩
      have hix := ix_str ⟨s.toArray⟩ k hsz c hcc
      have hcs : s[k] = c := hcc
      have hne : ((c.toNat : Int) != 32) = true := by
        have : c ≠ 32 := fun e => hc (by rw [List.getElem?_eq_getElem hlt, hcs, e])
        simp only [bne_iff_ne, ne_eq]
        intro e
        exact this (UInt8.toNat_inj.1 (by show c.toNat = 32; omega))
      have hlt' : (k : Int) < (s.length : Int) := by omega
      clear hc hcc hcs hsz
      go_wp2_with fail
      go_roundw
      case rel => exact ⟨k + 1, q, l, by go_num, rfl, by omega, HN.out, HO.out, hb⟩
      case measure => simp [intOf]; omega
    · have hc : k < s.length → s[k]? = some 32 := fun h => by
        by_cases e : s[k]? = some 32
        · exact e
        · exact absurd ⟨h, e⟩ hskip
      have HCC := Lib.hid hc
      have hcut := fun w => str_cut s q k hqk hks w
      have hpl := pc_len s q k
      have HBD := Lib.hid (fun h => HBAD.out (inv_bad HI.out hks hc h))
      have HAD := Lib.hid (inv_add HI.out hks hc)
      have HOL := Lib.hid (inv_old HI.out hks hc)
      have HW := Lib.hid (fun w => rword_any ⟨(pc s q k).toArray⟩ w)
      have hex : (⟨(pc s q k).toArray⟩ : ByteArray).data.toList = pc s q k := rfl
      rw [hex] at HW
      have hrd : RdS wr _ l := HO.out.rd (inv_words HI.out)
      have HHAS := Lib.hid (has_any _ l (pc s q k) wr hrd (by omega))
      have hbyte : (k < s.length ∧ ∃ hsz : k < (⟨s.toArray⟩ : ByteArray).size, (⟨s.toArray⟩ : ByteArray)[k] = 32) ∨ ¬ k < s.length := by
        by_cases hlt : k < s.length
        · left
          refine ⟨hlt, by rw [st_size]; exact hlt, ?_⟩
          have := hc hlt
          rw [List.getElem?_eq_getElem hlt] at this
          exact Option.some.inj this
        · exact .inr hlt
      clear hc hskip hex hrd
      generalize pc s q k = p at *
      rcases hbyte with ⟨hlt, hsz, h32⟩ | hge
      · have hix := ix_str ⟨s.toArray⟩ k hsz 32 h32
        have hlt' : (k : Int) < (s.length : Int) := by omega
        clear h32 hsz
        cases hw : Sc.word p with
        | false =>
          rw [hw] at HW
          have HB2 := Lib.hid (HBD.out hw)
          clear hw
          go_wp2_with fail
          refine (HW.out _).mono ?_
          rintro e w2 ⟨rfl, e2⟩
          subst e2
          go_wp2_with fail
          go_ret2
          rw [HB2.out]
          exact ⟨_, rfl, OwnS.none _ _, hb⟩
        | true =>
          rw [hw] at HW
          by_cases hm : p ∈ l
          · rw [decide_eq_true hm] at HHAS
            have HN := Lib.hid (HOL.out hw hm)
            clear hw hm
            go_wp2_with fail
            refine (HW.out _).mono ?_
            rintro e w2 ⟨rfl, e2⟩
            subst e2
            go_wp2_with fail
            refine HHAS.out.mono ?_
            rintro e w2 ⟨rfl, e2⟩
            subst e2
            go_wp2_with fail
            go_roundw
            case rel => exact ⟨k + 1, k + 1, l, by go_num, by go_num, by omega, HN.out, HO.out, hb⟩
            case measure => simp [intOf]; omega
          · rw [decide_eq_false hm] at HHAS
            have HN := Lib.hid (HAD.out hw hm)
            have ho := HO.out
            clear hw hm
            go_wp2_with fail
            refine (HW.out _).mono ?_
            rintro e w2 ⟨rfl, e2⟩
            subst e2
            go_wp2_with fail
            refine HHAS.out.mono ?_
            rintro e w2 ⟨rfl, e2⟩
            subst e2
            go_wp2_with (at_builtin; go_loud (refine wpList_append_own _ rfl (.tmp 41) (.tmp 46) 24 rfl w.heap.size 9 i0 (.string ⟨#[]⟩) 1 16 Tryd.underlying24 hi hz0 hz1 hz2 rfl (by decide) _ _ _ rfl (World.ownsRow.alloc ho _) ⟨wr.heap.size, 0, none⟩ 1 1 [.string ⟨p.toArray⟩] rfl rfl (cell_one_new _ _ _) (by simp [Value.oneCell']) (by unfold maxLen; omega) (by omega) (by rw [World.size_alloc]; have := hb.size; omega) ?_))
            rintro v6 w6 hown6 hgrow6 -
            have hB6 := below_app hb hb.size hgrow6 (fun k e => (ho.lt k e).1)
            have hO6 : OwnS w6 w.heap.size v6 (l ++ [p]) := own_cast hown6 (by simp) (by simp [sv])
            have HO6 := Lib.hid hO6
            clear hO6 hown6 hgrow6 ho
            go_wp2_with fail
            go_roundw
            case rel => exact ⟨k + 1, k + 1, l ++ [p], by go_num, by go_num, by omega, HN.out, HO6.out, hB6⟩
            case measure => simp [intOf]; omega
      · have hge1 : decide (k < s.length) = false := by simp; omega
        have hge2 : decide ((k : Int) < (s.length : Int)) = false := by simp; omega
        cases hw : Sc.word p with
        | false =>
          rw [hw] at HW
          have HB2 := Lib.hid (HBD.out hw)
          clear hw
          go_wp2_with fail
          refine (HW.out _).mono ?_
          rintro e w2 ⟨rfl, e2⟩
          subst e2
          go_wp2_with fail
          go_ret2
          rw [HB2.out]
          exact ⟨_, rfl, OwnS.none _ _, hb⟩
        | true =>
          rw [hw] at HW
          by_cases hm : p ∈ l
          · rw [decide_eq_true hm] at HHAS
            have HN := Lib.hid (HOL.out hw hm)
            clear hw hm
            go_wp2_with fail
            refine (HW.out _).mono ?_
            rintro e w2 ⟨rfl, e2⟩
            subst e2
            go_wp2_with fail
            refine HHAS.out.mono ?_
            rintro e w2 ⟨rfl, e2⟩
            subst e2
            go_wp2_with fail
            go_roundw
            case rel => exact ⟨k + 1, k + 1, l, by go_num, by go_num, by omega, HN.out, HO.out, hb⟩
            case measure => simp [intOf]; omega
          · rw [decide_eq_false hm] at HHAS
            have HN := Lib.hid (HAD.out hw hm)
            have ho := HO.out
            clear hw hm
            go_wp2_with fail
            refine (HW.out _).mono ?_
            rintro e w2 ⟨rfl, e2⟩
            subst e2
            go_wp2_with fail
            refine HHAS.out.mono ?_
            rintro e w2 ⟨rfl, e2⟩
            subst e2
            go_wp2_with (at_builtin; go_loud (refine wpList_append_own _ rfl (.tmp 41) (.tmp 46) 24 rfl w.heap.size 9 i0 (.string ⟨#[]⟩) 1 16 Tryd.underlying24 hi hz0 hz1 hz2 rfl (by decide) _ _ _ rfl (World.ownsRow.alloc ho _) ⟨wr.heap.size, 0, none⟩ 1 1 [.string ⟨p.toArray⟩] rfl rfl (cell_one_new _ _ _) (by simp [Value.oneCell']) (by unfold maxLen; omega) (by omega) (by rw [World.size_alloc]; have := hb.size; omega) ?_))
            rintro v6 w6 hown6 hgrow6 -
            have hB6 := below_app hb hb.size hgrow6 (fun k e => (ho.lt k e).1)
            have hO6 : OwnS w6 w.heap.size v6 (l ++ [p]) := own_cast hown6 (by simp) (by simp [sv])
            have HO6 := Lib.hid hO6
            clear hO6 hown6 hgrow6 ho
            go_wp2_with fail
            go_roundw
            case rel => exact ⟨k + 1, k + 1, l ++ [p], by go_num, by go_num, by omega, HN.out, HO6.out, hB6⟩
            case measure => simp [intOf]; omega
end Go.Proofs.YthnhhbkncmplmaaDoor
