/-
  Chapter 6: the fixed question 'known' is answered with yes; few.
-/
import Derived.Test.YthnhhbkncmplmaaDoorWk
namespace Go.Proofs.YthnhhbkncmplmaaDoor
open Go.RowKit

theorem ss_ab : Sc.SS [[97], [98]] := ⟨by decide, by decide⟩
theorem known_set1 : Sc.set [[98], [97], [98]] = [[97], [98]] := (Sc.set_uniq ss_ab (fun x => by
  simp only [List.mem_cons, List.not_mem_nil, or_false]
  constructor
  · rintro (rfl | rfl)
    · exact ⟨.inr (.inl rfl), by decide⟩
    · exact ⟨.inl rfl, by decide⟩
  · rintro ⟨rfl | rfl | rfl, _⟩ <;> simp)).symm
theorem known_set2 : Sc.set [[98], [], [97]] = [[97], [98]] := (Sc.set_uniq ss_ab (fun x => by
  simp only [List.mem_cons, List.not_mem_nil, or_false]
  constructor
  · rintro (rfl | rfl)
    · exact ⟨.inr (.inr rfl), by decide⟩
    · exact ⟨.inl rfl, by decide⟩
  · rintro ⟨rfl | rfl | rfl, hw⟩
    · simp
    · simp [Sc.word] at hw
    · simp)).symm
theorem known_parse : parseW [98, 32, 97, 32, 98] = ([[97], [98]], 0) := by
  have hp : Sc.pieces [98, 32, 97, 32, 98] = [[98], [97], [98]] := by decide
  unfold parseW
  rw [hp, known_set1]
  decide
theorem rd_lit (w : World) (l : List (List UInt8)) (t : TypeId) (hl : ∀ x ∈ l, x.length ≤ 9223372036854775807) : RdS (w.alloc (.cells (l.map sv).toArray t)) (.slice (some ⟨w.heap.size, 0, none⟩) l.length l.length) l := by
  refine ⟨⟨by simp, .inr ⟨w.heap.size, 0, _, rfl, Nat.le_refl _, fun j u hj => ?_⟩⟩, hl⟩
  have := cells_new w (l.map sv) t j u hj
  rw [Addr.add_lit] at this
  exact this
theorem RdS.front {W : World} {a : Option Addr} {c : Nat} {l : List (List UInt8)} (h : RdS W (.slice a l.length c) l) (k : Nat) (hk : k ≤ l.length) : RdS W (.slice a k c) (l.take k) := by
  have hl : (l.take k).length = k := by rw [List.length_take]; omega
  refine ⟨?_, fun x hx => h.2 x (List.mem_of_mem_take hx)⟩
  have := h.1.front k hk
  rw [Nat.mul_one, ← List.map_take] at this
  rw [hl]; exact this

set_option maxRecDepth 20000 in
set_option maxHeartbeats 2000000 in
theorem known_any (m : Int) (w : World) (hm : w.cell? ⟨0, 0, none⟩ = some (.int .i64 m)) :
    Calls Tryd.prog 10 #[] w fun e w' => e = .returned (.bool true) ∧ Below w.heap.size w w' := by
  have HP := Lib.hid (parse_any [98, 32, 97, 32, 98] m w (by decide) hm)
  rw [known_parse] at HP
  clear hm
  go_enter Tryd.func10, Tryd.ntmps10
  go_wp2_with fail
  refine HP.out.mono ?_
  rintro e w1 ⟨v1, rfl, ho, hb1⟩
  have hr := ho.rd (by simp)
  obtain ⟨a1, c1, rfl⟩ := hr.1.slice
  have hc1 := own_cap ho
  clear ho HP
  have hbl : Below w1.heap.size w1 (w1.alloc (.cells #[.string ⟨#[97]⟩, .string ⟨#[98]⟩] 9)) := (Below.refl _ _).alloc (Nat.le_refl _) _
  have hr2 : RdS (w1.alloc (.cells #[.string ⟨#[97]⟩, .string ⟨#[98]⟩] 9)) (.slice (some ⟨w1.heap.size, 0, none⟩) 2 2) [[97], [98]] := rd_lit w1 [[97], [98]] 9 (by simp)
  have HSA := Lib.hid (same_any _ _ [[97], [98]] [[97], [98]] _ (hr.below hbl) hr2 (by decide))
  have h02 := hb1.trans (hbl.mono hb1.size)
  have HR := Lib.hid hr
  have hc2 : (2 : Nat) ≤ c1 := hc1
  clear hr2 hr hc1
  go_wp2_with fail
  refine HSA.out.mono ?_
  rintro e w3 ⟨rfl, hb3⟩
  have h03 := h02.trans (hb3.mono h02.size)
  have HR3 := Lib.hid ((HR.out.below hbl).below hb3)
  clear HSA hb3 h02 HR hbl hb1
  go_wp2_with fail
  have hr4 : RdS (w3.alloc (.cells #[.string ⟨#[98]⟩, .string ⟨#[]⟩, .string ⟨#[97]⟩] 9)) (.slice (some ⟨w3.heap.size, 0, none⟩) 3 3) [[98], [], [97]] := rd_lit w3 [[98], [], [97]] 9 (by simp)
  have hbl : Below w3.heap.size w3 (w3.alloc (.cells #[.string ⟨#[98]⟩, .string ⟨#[]⟩, .string ⟨#[97]⟩] 9)) := (Below.refl _ _).alloc (Nat.le_refl _) _
  have hpr := print_any _ _ _ hr4 (by decide)
  rw [known_set2] at hpr
  have HR4 := Lib.hid (HR3.out.below hbl)
  have h04 := h03.trans (hbl.mono h03.size)
  clear hr4 HR3
  refine hpr.mono ?_
  rintro e w5 ⟨rfl, hb5⟩
  have HR5 := Lib.hid (HR4.out.below hb5)
  have h05 := h04.trans (hb5.mono h04.size)
  have hjn : Sc.join [[97], [98]] = [97, 32, 98] := rfl
  rw [hjn]
  clear hpr hb5 h04 h03 HR4 hjn hbl
  go_wp2_with fail
  refine (isWord_sv [97] _ (by decide)).mono ?_
  rintro e w6 ⟨rfl, e6⟩
  subst e6
  have hw97 : Sc.word [97] = true := by decide
  rw [hw97]
  have hcut := fun w => sl_front (P := Tryd.prog) w 24 a1 2 c1 1 .i64 strs_elem (strs_size w) (by omega)
  have hcut2 : ∀ w, (Instr.slice 24 (.slice a1 2 c1) none (some (.int .i64 1)) none).run Tryd.prog w = .ok (.slice a1 1 c1) w := hcut
  have HW := Lib.hid (within_any _ _ [[97]] [[97], [98]] _ (HR5.out.front 1 (by decide)) HR5.out (by decide) (by decide))
  have hwi : withinW [[97]] [[97], [98]] = true := by decide
  rw [hwi] at HW
  clear hcut hw97 hwi
  go_wp2_with fail
  refine HW.out.mono ?_
  rintro e w7 ⟨rfl, hb7⟩
  go_wp2_with fail
  go_ret
  exact ⟨rfl, h05.trans (hb7.mono h05.size)⟩

/-- at most 300 of a list -/
def fewW (l : List (List UInt8)) : List (List UInt8) := l.take 300
theorem few_len (l : List (List UInt8)) : (fewW l).length ≤ 300 := by unfold fewW; rw [List.length_take]; omega
set_option maxRecDepth 20000 in
set_option maxHeartbeats 1000000 in
theorem few_any (v : Value) (l : List (List UInt8)) (w : World) (h : RdS w v l) :
    Calls Tryd.prog 16 #[v] w fun e w' => ∃ v', e = .returned v' ∧ RdS w v' (fewW l) ∧ w = w' := by
  obtain ⟨a, c, rfl⟩ := h.1.slice
  by_cases hl : 300 < l.length
  · have hl' : (300 : Int) < (l.length : Int) := by omega
    have hcap : l.length ≤ c := by
      rcases h.1.2 with ⟨_, h0⟩ | ⟨b, o, c', e, hle, _⟩
      · omega
      · cases e; exact hle
    have HF := Lib.hid (h.front 300 (by omega))
    clear h hl
    go_enter Tryd.func16, Tryd.ntmps16
    go_wp2_with fail
    go_ret
    exact ⟨_, rfl, HF.out, rfl⟩
  · have hl' : decide ((300 : Int) < (l.length : Int)) = false := by simp; omega
    have hf : fewW l = l := List.take_of_length_le (by omega)
    rw [hf]
    have HH := Lib.hid h
    clear h hl hf
    go_enter Tryd.func16, Tryd.ntmps16
    go_wp2_with fail
    go_ret
    exact ⟨_, rfl, HH.out, rfl⟩
end Go.Proofs.YthnhhbkncmplmaaDoor
