/-
  Chapter 15: printed: strings.IndexFunc at its closure; and octet.Same's likes.
-/
import Derived.Test.YtonbpekogfaibaaGreatOa
import Derived.Lib.OthersKept
import Derived.Lib.TrimU
import Derived.Deep.LoopGhost
import Derived.Laws.RangeString
import Derived.Laws.RangeAny
namespace Go.Proofs.YtonbpekogfaibaaGreat.Ro
open Go.RowKit
set_option linter.unusedVariables false
set_option maxRecDepth 20000

abbrev By := List UInt8
def pc (c : UInt8) : Bool := decide (33 ≤ c.toNat) && decide (c.toNat ≤ 126)
def bad (r : Nat) : Bool := decide (r < 33) || decide (126 < r)
set_option maxHeartbeats 1000000 in
theorem sign_any (r : Nat) (w : World) : Calls Tryz.prog 60 #[.int .i32 (r : Int)] w fun e w' => e = .returned (.bool (bad r)) ∧ w = w' := by
  unfold bad
  by_cases h1 : r < 33
  · have t0 : (r : Int) < 33 := by omega
    rw [decide_eq_true h1]
    go_enter Tryz.func60, Tryz.ntmps60
    go_wp2_with fail
    go_ret
    exact ⟨rfl, rfl⟩
  · have t0 : ¬ (r : Int) < 33 := by omega
    rw [decide_eq_false h1]
    by_cases h2 : 126 < r
    · have t1 : (126 : Int) < (r : Int) := by omega
      rw [decide_eq_true h2]
      go_enter Tryz.func60, Tryz.ntmps60
      go_wp2_with fail
      go_ret
      exact ⟨rfl, rfl⟩
    · have t1 : ¬ (126 : Int) < (r : Int) := by omega
      rw [decide_eq_false h2]
      go_enter Tryz.func60, Tryz.ntmps60
      go_wp2_with fail
      go_ret
      exact ⟨rfl, rfl⟩
theorem pc_ok (sb : ByteArray) (s : By) (hs : sb = ⟨s.toArray⟩) (pos : Nat) (c : UInt8) (hc : s[pos]? = some c) : (pc c = true → Utf8.decode sb pos = (c.toNat, 1) ∧ bad (Utf8.decode sb pos).1 = false) ∧ (pc c = false → bad (Utf8.decode sb pos).1 = true) := by
  have h2 : s.toArray[pos]? = some c := by simpa using hc
  obtain ⟨h4, h5⟩ := Array.getElem?_eq_some_iff.1 h2
  subst hs
  have hlt : pos < (⟨s.toArray⟩ : ByteArray).size := h4
  have hcx : ((⟨s.toArray⟩ : ByteArray)[pos]'hlt) = c := h5
  constructor
  · intro hp
    unfold pc at hp
    simp only [Bool.and_eq_true, decide_eq_true_eq] at hp
    have hd := Go.decode_ascii ⟨s.toArray⟩ pos hlt (by rw [hcx]; omega)
    rw [hcx] at hd
    refine ⟨hd, ?_⟩
    rw [hd]
    unfold bad
    rw [decide_eq_false (by simp only; omega), decide_eq_false (by simp only; omega)]
    rfl
  · intro hp
    unfold pc at hp
    rcases Nat.lt_or_ge c.toNat 128 with h8 | h8
    · have hd := Go.decode_ascii ⟨s.toArray⟩ pos hlt (by rw [hcx]; omega)
      rw [hcx] at hd
      rw [hd]
      unfold bad
      simp only [Bool.and_eq_false_iff, decide_eq_false_iff_not] at hp
      simp only [Bool.or_eq_true, decide_eq_true_eq]
      omega
    · have hd := Go.decode_high ⟨s.toArray⟩ pos hlt (by rw [hcx]; omega)
      unfold bad
      simp only [Bool.or_eq_true, decide_eq_true_eq]
      omega
theorem all_take (s : By) (pos : Nat) (c : UInt8) (hc : s[pos]? = some c) (h : (s.take pos).all pc = true) (hp : pc c = true) : (s.take (pos + 1)).all pc = true := by
  rw [List.take_add_one, hc, List.all_append, h]; simp [hp]
theorem all_no (s : By) (pos : Nat) (c : UInt8) (hc : s[pos]? = some c) (hp : pc c = false) : s.all pc = false := by
  rw [List.all_eq_false]
  exact ⟨c, List.mem_of_getElem? hc, by rw [hp]; simp⟩
set_option maxHeartbeats 4000000 in
theorem indexFunc_any (s : By) (w : World) : Calls Tryz.prog 76 #[.string ⟨s.toArray⟩, .func (Fn.func 60) #[] #[], .bool true] w
    fun e w' => ∃ i : Int, e = .returned (.int .i64 i) ∧ (i < 0 ↔ s.all pc = true) ∧ Below w.heap.size w w' := by
  obtain ⟨sb, hsb⟩ : ∃ sb, sb = (⟨s.toArray⟩ : ByteArray) := ⟨_, rfl⟩
  have hsz : sb.size = s.length := by rw [hsb]; simp [ByteArray.size]
  have HSB := Lib.hid hsb
  have HSZ := Lib.hid hsz
  rw [← hsb]
  clear hsb hsz
  go_enter Tryz.func76, Tryz.ntmps76
  go_wp2_with fail
  go_loopg [] sb.size (fun gf wx => ∃ pos : Nat, wx.heap[w.heap.size]? = some (.stringIter sb pos) ∧ Below w.heap.size w wx ∧ (s.take pos).all pc = true ∧ sb.size ≤ pos + gf)
  case atStart => exact ⟨0, World.iter_heap w sb 0, (Below.refl _ w).alloc (Nat.le_refl _) _, rfl, by omega⟩
  case round =>
    obtain ⟨pos, hit, hbw, hall, hfu⟩ := hrel
    by_cases hps : pos < sb.size
    · obtain ⟨g', rfl⟩ : ∃ g', gk = g' + 1 := ⟨gk - 1, by omega⟩
      have hnx : ∀ ty, (Instr.next (.pointer (some ⟨w.heap.size, 0, none⟩)) true ty).run Tryz.prog wr = _ := fun ty => Lib.run_next_any_at wr w.heap.size sb pos ty hit hps
      have hwd := Lib.width_pos sb pos
      obtain ⟨c, hc⟩ : ∃ c, s[pos]? = some c := ⟨_, List.getElem?_eq_getElem (by rw [← HSZ.out]; exact hps)⟩
      have hpk := pc_ok sb s HSB.out pos c hc
      obtain ⟨R, hR⟩ : ∃ R, (Utf8.decode sb pos).1 = R := ⟨_, rfl⟩
      obtain ⟨K, hK⟩ : ∃ K, (Utf8.decode sb pos).2 = K := ⟨_, rfl⟩
      rw [hR, hK] at hnx
      rw [hK] at hwd
      have hit2 := Lib.iterAt_heap wr w.heap.size sb pos (pos + K) hit
      have hbw2 := Lib.below_iterAt hbw (k := w.heap.size) (Nat.le_refl _) sb (pos + K)
      obtain ⟨W, hWd⟩ : ∃ W, wr.iterAt w.heap.size sb (pos + K) = W := ⟨_, rfl⟩
      rw [hWd] at hnx hit2 hbw2
      have cS := sign_any R W
      cases hp : pc c with
      | true =>
        obtain ⟨hd, hb⟩ := hpk.1 hp
        rw [hR] at hb
        rw [hb] at cS
        have hK1 : K = 1 := by rw [← hK, hd]
        subst hK1
        have HR := Lib.hid (And.intro hit2 (And.intro hbw2 (all_take s pos c hc hall hp)))
        have HC := Lib.hid cS
        clear hpk hd hb hR hK hc hp hall hit hbw hWd cS hit2 hbw2
        go_wp2_with fail
        refine HC.out.mono ?_
        rintro e W' ⟨rfl, hw⟩
        obtain rfl := hw
        go_wp2_with fail
        go_roundg g'
        case measure => omega
        case rel => exact ⟨pos + 1, HR.out.1, HR.out.2.1, HR.out.2.2, by omega⟩
      | false =>
        have hb := hpk.2 hp
        rw [hR] at hb
        rw [hb] at cS
        have HN := Lib.hid (all_no s pos c hc hp)
        have HC := Lib.hid cS
        have HB2 := Lib.hid hbw2
        clear hpk hb hR hK hc hp hall hit hbw hWd cS hit2 hbw2
        go_wp2_with fail
        refine HC.out.mono ?_
        rintro e W' ⟨rfl, hw⟩
        obtain rfl := hw
        go_wp2_with fail
        go_ret
        refine ⟨(pos : Int), rfl, ?_, HB2.out⟩
        rw [HN.out]
        exact ⟨fun h => by omega, fun h => by cases h⟩
    · have hnx : ∀ ty, (Instr.next (.pointer (some ⟨w.heap.size, 0, none⟩)) true ty).run Tryz.prog wr = _ := fun ty => Lib.run_next_end_at wr w.heap.size sb pos ty hit hps
      have HA : Hid (s.all pc = true) := Lib.hid (by rw [← hall, List.take_of_length_le (by rw [← HSZ.out]; omega)])
      have HB2 := Lib.hid hbw
      clear hall hit hbw
      go_wp2_with fail
      go_ret
      refine ⟨-1, rfl, ?_, HB2.out⟩
      rw [HA.out]
      exact ⟨fun _ => rfl, fun _ => by decide⟩
/-- has a text from 1 to n bytes, all of them printed? -/
def prn (s : By) (n : Int) : Bool := decide (1 ≤ s.length) && (decide ((s.length : Int) ≤ n) && s.all pc)
set_option maxHeartbeats 1000000 in
theorem stringsIndexFunc_any (s : By) (w : World) : Calls Tryz.prog 59 #[.string ⟨s.toArray⟩, .func (Fn.func 60) #[] #[]] w
    fun e w' => ∃ i : Int, e = .returned (.int .i64 i) ∧ (i < 0 ↔ s.all pc = true) ∧ Below w.heap.size w w' := by
  have HI := Lib.hid (indexFunc_any s w)
  go_enter Tryz.func59, Tryz.ntmps59
  go_wp2_with fail
  refine HI.out.mono ?_
  rintro e w1 ⟨i, rfl, hi, hb⟩
  have HX := Lib.hid (And.intro hi hb)
  clear hi hb
  go_wp2_with fail
  go_ret
  exact ⟨_, rfl, HX.out⟩
set_option maxHeartbeats 1000000 in
theorem printed_any (s : By) (n : Int) (w : World) : Calls Tryz.prog 37 #[.string ⟨s.toArray⟩, .int .i64 n] w fun e w' => e = .returned (.bool (prn s n)) ∧ Below w.heap.size w w' := by
  have HI := Lib.hid (fun W => stringsIndexFunc_any s W)
  have hsz : (⟨s.toArray⟩ : ByteArray).size = s.length := by simp [ByteArray.size]
  unfold prn
  by_cases h1 : 1 ≤ s.length
  case neg =>
    have t0 : ¬ (1 : Int) ≤ (s.length : Int) := by omega
    rw [decide_eq_false h1]
    go_enter Tryz.func37, Tryz.ntmps37
    go_wp2_with fail
    go_ret
    exact ⟨rfl, Below.refl _ _⟩
  case pos =>
    have t0 : (1 : Int) ≤ (s.length : Int) := by omega
    have t01 : decide (1 ≤ s.length) = true := decide_eq_true h1
    rw [decide_eq_true h1]
    by_cases h2 : (s.length : Int) ≤ n
    case neg =>
      have t2 : decide ((s.length : Int) ≤ n) = false := decide_eq_false h2
      rw [decide_eq_false h2]
      go_enter Tryz.func37, Tryz.ntmps37
      go_wp2_with fail
      go_ret
      exact ⟨rfl, Below.refl _ _⟩
    case pos =>
      have t2 : decide ((s.length : Int) ≤ n) = true := decide_eq_true h2
      rw [decide_eq_true h2]
      obtain ⟨A, hA⟩ : ∃ A, A = s.all pc := ⟨_, rfl⟩
      rw [← hA]
      rw [← hA] at HI
      clear hA
      go_enter Tryz.func37, Tryz.ntmps37
      go_wp2_with fail
      refine (HI.out w).mono ?_
      rintro e w1 ⟨i, rfl, hi, hb⟩
      have HB := Lib.hid hb
      cases A with
      | true =>
        have t3 : i < 0 := hi.2 rfl
        have t4 : decide (i < 0) = true := decide_eq_true t3
        clear hi hb
        go_wp2_with fail
        go_ret
        exact ⟨rfl, HB.out⟩
      | false =>
        have t3 : ¬ i < 0 := fun h => by have := hi.1 h; cases this
        have t4 : decide (i < 0) = false := decide_eq_false t3
        clear hi hb
        go_wp2_with fail
        go_ret
        exact ⟨rfl, HB.out⟩
end Go.Proofs.YtonbpekogfaibaaGreat.Ro
