/-
  Chapter 6: Parse. 
-/
import Derived.Test.YthnhhbkncmplmaaDoorWd
namespace Go.Proofs.YthnhhbkncmplmaaDoor
open Go.RowKit

set_option maxRecDepth 20000 in
set_option maxHeartbeats 1000000 in
theorem notWord_any (x : List UInt8) (w : World) (hx : x.length ≤ 9223372036854775807) :
    Calls Tryd.prog 28 #[.string ⟨x.toArray⟩] w fun e w' => e = .returned (.bool (!Sc.word x)) ∧ w = w' := by
  have HW := Lib.hid (isWord_sv x · hx)
  generalize Sc.word x = b at *
  go_enter Tryd.func28, Tryd.ntmps28
  go_wp2_with fail
  refine (HW.out _).mono ?_
  rintro e w1 ⟨rfl, e1⟩
  subst e1
  go_wp2_with fail
  go_ret
  exact ⟨rfl, rfl⟩

theorem split_pieces (s : List UInt8) : Lib.splitK [32] 0 (Lib.count s [32]) s = Sc.pieces s := by
  induction s with
  | nil => rfl
  | cons c r ih =>
    by_cases hc : c = 32
    · subst hc
      rw [Lib.count_cons_eq, Nat.add_comm 1, Lib.splitK]
      have hi : Lib.index (32 :: r) [32] = 0 := by simp [Lib.index]
      rw [hi]
      simp [Sc.pieces, ih]
    · rw [Lib.count_cons_ne c 32 r hc]
      have hi : Lib.index (c :: r) [32] = if Lib.index r [32] == -1 then -1 else Lib.index r [32] + 1 := by
        rw [Lib.index]
        have : ([32] : List UInt8).isPrefixOf (c :: r) = false := by simp [List.isPrefixOf]; exact fun e => hc e.symm
        rw [this]; rfl
      unfold Sc.pieces
      rw [if_neg hc, ← ih]
      cases hk : Lib.count r [32] with
      | zero => simp [Lib.splitK]
      | succ k =>
        have hge := Lib.index_ge r [32]
        have hne : Lib.index r [32] ≠ -1 := fun e => by rw [Lib.count_miss e] at hk; omega
        obtain ⟨i, hii⟩ : ∃ i : Nat, Lib.index r [32] = i := ⟨(Lib.index r [32]).toNat, by omega⟩
        have hm : (Lib.index r [32] == -1) = false := by simp; exact hne
        rw [hm] at hi
        simp only [Bool.false_eq_true, if_false] at hi
        have hm2 : (Lib.index (c :: r) [32] == -1) = false := by rw [hi]; simp; omega
        unfold Lib.splitK
        rw [hm, hm2, hi, hii]
        have e1 : ((i : Int) + 1).toNat = i + 1 := by omega
        have e2 : ((i : Int)).toNat = i := by omega
        rw [e1, e2]
        simp
theorem pieces_ne (s : List UInt8) : Sc.pieces s ≠ [] := by
  cases s with
  | nil => simp [Sc.pieces]
  | cons c r =>
    unfold Sc.pieces
    split
    · simp
    · split <;> simp
theorem pieces_len (s : List UInt8) : (Sc.pieces s).length ≤ s.length + 1 := by
  induction s with
  | nil => simp [Sc.pieces]
  | cons c r ih =>
    unfold Sc.pieces
    split
    · simp only [List.length_cons]; omega
    · split
      · simp
      · rename_i p ps h; rw [h] at ih; simp only [List.length_cons] at *; omega
theorem piece_len (s : List UInt8) : ∀ x ∈ Sc.pieces s, x.length ≤ s.length := by
  induction s with
  | nil => simp [Sc.pieces]
  | cons c r ih =>
    unfold Sc.pieces
    split
    · intro x hx
      rcases List.mem_cons.1 hx with rfl | hx
      · simp
      · have := ih x hx; simp only [List.length_cons]; omega
    · split
      · intro x hx; simp at hx; subst hx; simp
      · rename_i p ps h
        intro x hx
        rcases List.mem_cons.1 hx with rfl | hx
        · have := ih p (by rw [h]; simp); simp only [List.length_cons]; omega
        · have := ih x (by rw [h]; simp [hx]); simp only [List.length_cons]; omega
theorem split_any (s : List UInt8) (m : Int) (w : World) (hs : s.length < 4294967281) (hm : w.cell? ⟨0, 0, none⟩ = some (.int .i64 m)) :
    Calls Tryd.prog 26 #[.string ⟨s.toArray⟩, .string ⟨#[32]⟩] w fun e w' => ∃ v, e = .returned v ∧ RdS w' v (Sc.pieces s) ∧ Below w.heap.size w w' := by
  refine (Tryd.strings_Split ⟨s.toArray⟩ ⟨#[32]⟩ m w (by rw [st_size]; exact hs) hm (by decide)).mono ?_
  rintro e w' ⟨rfl, rfl⟩
  have hd := Lib.splitB_data ⟨#[32]⟩ 0 (Lib.countB ⟨s.toArray⟩ ⟨#[32]⟩) ⟨s.toArray⟩
  have hk : Lib.splitK [32] 0 (Lib.countB ⟨s.toArray⟩ ⟨#[32]⟩) s = Sc.pieces s := split_pieces s
  have hp : (Lib.splitB ⟨#[32]⟩ 0 (Lib.countB ⟨s.toArray⟩ ⟨#[32]⟩) ⟨s.toArray⟩).map (·.data.toList) = Sc.pieces s := hd.trans hk
  have hal := Lib.splitB_all ⟨#[32]⟩ (by decide) 0 _ ⟨s.toArray⟩ rfl
  generalize Lib.splitB ⟨#[32]⟩ 0 (Lib.countB ⟨s.toArray⟩ ⟨#[32]⟩) ⟨s.toArray⟩ = B at *
  have hmap : B.map Value.string = (Sc.pieces s).map sv := by
    rw [← hp, List.map_map]
    refine List.map_congr_left fun x _ => ?_
    simp [sv]
  have hlen : (Sc.pieces s).length = Lib.countB ⟨s.toArray⟩ ⟨#[32]⟩ + 1 := by rw [← hp, List.length_map, hal]
  refine ⟨_, rfl, ⟨⟨by simp, .inr ⟨w.heap.size, 0, _, by rw [hlen], by rw [hlen]; exact Nat.le_refl _, fun j u hj => ?_⟩⟩, fun x hx => ?_⟩, (Below.refl _ _).alloc (Nat.le_refl _) _⟩
  · rw [hmap]
    have := cells_new w ((Sc.pieces s).map sv) 9 j u hj
    rw [Addr.add_lit] at this
    exact this
  · have := piece_len s x hx
    omega
/-- where the first stands of which p holds -/
def idxP (p : List UInt8 → Bool) (l : List (List UInt8)) : Int := if l.any p then (l.findIdx p : Nat) else -1
theorem idxP_hit (p : List UInt8 → Bool) (l : List (List UInt8)) (k : Nat) (x : List UInt8) (hx : l[k]? = some x) (hp : p x = true) (h : ∀ j y, j < k → l[j]? = some y → p y = false) : idxP p l = k := by
  obtain ⟨hk, rfl⟩ := List.getElem?_eq_some_iff.1 hx
  have ha : l.any p = true := List.any_eq_true.2 ⟨_, List.getElem_mem hk, hp⟩
  unfold idxP
  rw [if_pos ha]
  congr 1
  rw [List.findIdx_eq hk]
  exact ⟨hp, fun j hj => by have := h j _ hj (List.getElem?_eq_getElem (by omega)); simpa using this⟩
theorem idxP_miss (p : List UInt8 → Bool) (l : List (List UInt8)) (h : ∀ (j : Nat) y, l[j]? = some y → p y = false) : idxP p l = -1 := by
  unfold idxP
  rw [if_neg]
  intro ha
  obtain ⟨x, hx, hp⟩ := List.any_eq_true.1 ha
  obtain ⟨j, hj⟩ := List.getElem?_of_mem hx
  rw [h j x hj] at hp; cases hp

set_option maxRecDepth 20000 in
set_option maxHeartbeats 1000000 in
theorem index_any (v : Value) (l : List (List UInt8)) (w : World) (h : RdS w v l) (hN : l.length ≤ 1048576) :
    Calls Tryd.prog 36 #[v, .func (Fn.func 28) #[] #[]] w fun e w' => e = .returned (.int .i64 (idxP (fun x => !Sc.word x) l)) ∧ w = w' := by
  obtain ⟨a, c, rfl⟩ := h.1.slice
  have HH := Lib.hid h
  clear h
  go_enter Tryd.func36, Tryd.ntmps36
  go_wp2_with fail
  go_loop [8] (fun i => ∃ k : Nat, k ≤ l.length ∧ i = .int .i64 k ∧ ∀ j y, j < k → l[j]? = some y → (!Sc.word y) = false) (fun i => l.length - (intOf i).toNat)
  case atStart => exact ⟨0, by omega, rfl, fun j y hj => by omega⟩
  case round =>
    obtain ⟨k, hk, rfl, hall⟩ := hrel
    have HA := Lib.hid hall
    clear hall
    by_cases hkn : k < l.length
    case neg =>
      have hk' : k = l.length := by omega
      subst hk'
      have HM := Lib.hid (idxP_miss (fun x => !Sc.word x) l (fun j y hj => HA.out j y (by have := (List.getElem?_eq_some_iff.1 hj).1; omega) hj))
      go_wp2_with fail
      go_ret
      exact ⟨by rw [HM.out]; rfl, rfl⟩
    case pos =>
    obtain ⟨b, o, cap, e1, hcap, hc⟩ := HH.out.1.pos (by omega)
    cases e1
    obtain ⟨x, hx⟩ : ∃ x, l[k]? = some x := ⟨_, List.getElem?_eq_getElem hkn⟩
    have q0 := hc k (sv x) (by rw [List.getElem?_map, hx]; rfl)
    have hxl := HH.out.2 x (List.mem_of_getElem? hx)
    have HW := Lib.hid (notWord_any x · hxl)
    have HX := Lib.hid hx
    have hkl : (k : Int) < (l.length : Int) := by omega
    simp only [sv] at q0
    clear hc hx
    cases hw : Sc.word x with
    | false =>
      rw [hw] at HW
      simp only [Bool.not_false] at HW
      have HHIT := Lib.hid (idxP_hit (fun x => !Sc.word x) l k x HX.out (by simp [hw]) HA.out)
      clear hw
      go_wp2_with fail
      refine (HW.out _).mono ?_
      rintro e w1 ⟨rfl, e1⟩
      subst e1
      go_wp2_with fail
      go_ret
      exact ⟨by rw [HHIT.out]; rfl, rfl⟩
    | true =>
      rw [hw] at HW
      simp only [Bool.not_true] at HW
      have HWD := Lib.hid hw
      clear hw
      go_wp2_with fail
      refine (HW.out _).mono ?_
      rintro e w1 ⟨rfl, e1⟩
      subst e1
      go_wp2_with fail
      go_round
      case rel =>
        refine ⟨k + 1, by omega, by go_num, fun j y hj hy => ?_⟩
        by_cases hjk : j = k
        · subst hjk
          rw [HX.out] at hy
          cases hy
          simp [HWD.out]
        · exact HA.out j y (by omega) hy
      case measure => simp [intOf]; omega

set_option maxRecDepth 20000 in
set_option maxHeartbeats 1000000 in
theorem contains_any (v : Value) (l : List (List UInt8)) (w : World) (h : RdS w v l) (hN : l.length ≤ 1048576) :
    Calls Tryd.prog 27 #[v, .func (Fn.func 28) #[] #[]] w fun e w' => e = .returned (.bool (l.any fun x => !Sc.word x)) ∧ w = w' := by
  have HI := Lib.hid (index_any v l w h hN)
  have hd : decide (0 ≤ idxP (fun x => !Sc.word x) l) = l.any fun x => !Sc.word x := by
    unfold idxP
    by_cases ha : (l.any fun x => !Sc.word x) = true
    · rw [if_pos ha, ha]; simp
    · rw [if_neg ha]; simp at ha ⊢; exact ha
  have HD := Lib.hid hd
  obtain ⟨a, c, rfl⟩ := h.1.slice
  clear hd h
  generalize idxP (fun x => !Sc.word x) l = r at *
  go_enter Tryd.func27, Tryd.ntmps27
  go_wp2_with fail
  refine HI.out.mono ?_
  rintro e w1 ⟨rfl, e1⟩
  subst e1
  go_wp2_with fail
  go_ret
  exact ⟨by rw [← HD.out]; rfl, rfl⟩

/-- a text as a set, or the error's number -/
def parseW (s : List UInt8) : List (List UInt8) × Nat :=
  if 16384 < s.length then ([], 2) else if s = [] then ([], 0) else if ((Sc.pieces s).any fun x => !Sc.word x) = true then ([], 3)
  else if 32 < (Sc.set (Sc.pieces s)).length then ([], 2) else (Sc.set (Sc.pieces s), 0)
theorem OwnS.none (W : World) (B : Nat) : OwnS W B (.slice none 0 0) [] := World.ownsRow_nil _ _ _ _

set_option maxRecDepth 20000 in
set_option maxHeartbeats 1000000 in
theorem parse_any (s : List UInt8) (m : Int) (w : World) (hs : s.length ≤ 9223372036854775807) (hm : w.cell? ⟨0, 0, none⟩ = some (.int .i64 m)) :
    Calls Tryd.prog 13 #[.string ⟨s.toArray⟩] w fun e w' => ∃ v, e = .returned (.tuple #[v, .int .i64 (parseW s).2]) ∧ OwnS w' w.heap.size v (parseW s).1 ∧ Below w.heap.size w w' := by
  by_cases h1 : 16384 < s.length
  · have hp : parseW s = ([], 2) := by unfold parseW; rw [if_pos h1]
    rw [hp]
    have h1' : (16384 : Int) < (s.length : Int) := by omega
    clear hp h1
    go_enter Tryd.func13, Tryd.ntmps13
    go_wp2_with fail
    go_ret2
    exact ⟨_, rfl, OwnS.none _ _, Below.refl _ _⟩
  have h1' : decide ((16384 : Int) < (s.length : Int)) = false := by simp; omega
  by_cases h2 : s = []
  · subst h2
    have hp : parseW [] = ([], 0) := rfl
    rw [hp]
    clear hp
    go_enter Tryd.func13, Tryd.ntmps13
    go_wp2_with fail
    go_ret2
    exact ⟨_, rfl, OwnS.none _ _, Below.refl _ _⟩
  have h2' : s.isEmpty = false := by simpa using h2
  have hpl := pieces_len s
  have hSP := Lib.hid (split_any s m w (by omega) hm)
  have hpn : (Sc.pieces s).length ≤ 1048576 := by omega
  have hCT := Lib.hid (fun v w h => contains_any v (Sc.pieces s) w h hpn)
  by_cases h3 : ((Sc.pieces s).any fun x => !Sc.word x) = true
  · have hp : parseW s = ([], 3) := by unfold parseW; rw [if_neg h1, if_neg h2, if_pos h3]
    rw [hp]
    rw [h3] at hCT
    clear hp h1 h2 h3 hpl
    generalize Sc.pieces s = ps at *
    go_enter Tryd.func13, Tryd.ntmps13
    go_wp2_with fail
    refine hSP.out.mono ?_
    rintro e w1 ⟨v1, rfl, hr, hb1⟩
    go_wp2_with fail
    refine (hCT.out _ _ hr).mono ?_
    rintro e w2 ⟨rfl, e2⟩
    subst e2
    go_wp2_with fail
    go_ret2
    exact ⟨_, rfl, OwnS.none _ _, hb1⟩
  have h3' : ((Sc.pieces s).any fun x => !Sc.word x) = false := by simpa using h3
  rw [h3'] at hCT
  by_cases h4 : 32 < (Sc.set (Sc.pieces s)).length
  · have hp : parseW s = ([], 2) := by unfold parseW; rw [if_neg h1, if_neg h2, if_neg h3, if_pos h4]
    rw [hp]
    have h4' : (32 : Int) < ((Sc.set (Sc.pieces s)).length : Int) := by omega
    clear hp h1 h2 h3 h3' hpl h4
    generalize Sc.pieces s = ps at *
    go_enter Tryd.func13, Tryd.ntmps13
    go_wp2_with fail
    refine hSP.out.mono ?_
    rintro e w1 ⟨v1, rfl, hr, hb1⟩
    obtain ⟨a1, c1, rfl⟩ := hr.1.slice
    go_wp2_with fail
    refine (hCT.out _ _ hr).mono ?_
    rintro e w2 ⟨rfl, e2⟩
    subst e2
    go_wp2_with fail
    have hR := rdl_one w1 _ ps hr 24
    have hbt := both_any _ [ps] _ hR (by simpa using hpn) (by simp)
    rw [show [ps].flatten = ps from by simp] at hbt
    have hbl : Below w1.heap.size w1 (w1.alloc (.cells #[.slice a1 ps.length c1] 24)) := (Below.refl _ _).alloc (Nat.le_refl _) _
    refine hbt.mono ?_
    rintro e w3 ⟨v3, rfl, ho, hb3⟩
    obtain ⟨a3, c3, rfl⟩ := (Rd.of_own ho).slice
    have h13 := hb1.trans ((hbl.trans (hb3.mono hbl.size)).mono hb1.size)
    clear hR hbt ho hb3 hbl
    go_wp2_with fail
    go_ret2
    exact ⟨_, rfl, OwnS.none _ _, h13⟩
  · have hp : parseW s = (Sc.set (Sc.pieces s), 0) := by unfold parseW; rw [if_neg h1, if_neg h2, if_neg h3, if_neg h4]
    rw [hp]
    have h4' : decide ((32 : Int) < ((Sc.set (Sc.pieces s)).length : Int)) = false := by simp; omega
    clear hp h1 h2 h3 h3' hpl h4
    generalize Sc.pieces s = ps at *
    go_enter Tryd.func13, Tryd.ntmps13
    go_wp2_with fail
    refine hSP.out.mono ?_
    rintro e w1 ⟨v1, rfl, hr, hb1⟩
    obtain ⟨a1, c1, rfl⟩ := hr.1.slice
    go_wp2_with fail
    refine (hCT.out _ _ hr).mono ?_
    rintro e w2 ⟨rfl, e2⟩
    subst e2
    go_wp2_with fail
    have hR := rdl_one w1 _ ps hr 24
    have hbt := both_any _ [ps] _ hR (by simpa using hpn) (by simp)
    rw [show [ps].flatten = ps from by simp] at hbt
    have hbl : Below w1.heap.size w1 (w1.alloc (.cells #[.slice a1 ps.length c1] 24)) := (Below.refl _ _).alloc (Nat.le_refl _) _
    refine hbt.mono ?_
    rintro e w3 ⟨v3, rfl, ho, hb3⟩
    obtain ⟨a3, c3, rfl⟩ := (Rd.of_own ho).slice
    have h13 := hb1.trans ((hbl.trans (hb3.mono hbl.size)).mono hb1.size)
    have ho2 := Lib.hid (own_mono ho (Nat.le_trans hb1.size hbl.size))
    clear hR hbt ho hb3 hbl
    go_wp2_with fail
    go_ret2
    exact ⟨_, rfl, ho2.out, h13⟩
end Go.Proofs.YthnhhbkncmplmaaDoor
