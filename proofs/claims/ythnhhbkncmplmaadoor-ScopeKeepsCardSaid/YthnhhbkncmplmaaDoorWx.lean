/-
  Chapter 6: the walks of ScopeWords, ScopeParses, ScopeSets.
-/
import Derived.Test.YthnhhbkncmplmaaDoorWl
namespace Go.Proofs.YthnhhbkncmplmaaDoor
open Go.RowKit

theorem same_yes (va vb : Value) (l : List (List UInt8)) (w : World) (ha : RdS w va l) (hb : RdS w vb l) (hl : l.length ≤ 4611686018427387904) :
    Calls Tryd.prog 15 #[va, vb] w fun e w' => e = .returned (.bool true) ∧ Below w.heap.size w w' := by
  have := same_any va vb l l w ha hb hl
  rw [show decide (l = l) = true from by simp] at this
  exact this

set_option maxRecDepth 20000 in
set_option maxHeartbeats 1000000 in
theorem scopeWords_walk (x : List UInt8) (hx : x.length ≤ 9223372036854775807) (m : Int) (w : World) (hm : w.cell? ⟨0, 0, none⟩ = some (.int .i64 m)) :
    Calls Tryd.prog 3 #[.string ⟨x.toArray⟩] w fun e w' => e = .returned (.bool true) ∧ Below w.heap.size w w' := by
  have HK := Lib.hid (known_any m w hm)
  have HW := Lib.hid (isWord_sv x · hx)
  have hr := fun w => rword_any ⟨x.toArray⟩ w
  have hex : (⟨x.toArray⟩ : ByteArray).data.toList = x := rfl
  rw [hex] at hr
  have HR := Lib.hid hr
  clear hex hr hm
  generalize Sc.word x = b at *
  go_enter Tryd.func3, Tryd.ntmps3
  go_wp2_with fail
  refine HK.out.mono ?_
  rintro e w1 ⟨rfl, hb1⟩
  go_wp2_with fail
  refine (HW.out _).mono ?_
  rintro e w2 ⟨rfl, e2⟩
  subst e2
  go_wp2_with fail
  refine (HR.out _).mono ?_
  rintro e w2 ⟨rfl, e2⟩
  subst e2
  go_wp2_with fail
  go_ret
  exact ⟨by simp, hb1⟩

set_option maxRecDepth 20000 in
set_option maxHeartbeats 1000000 in
theorem scopeParses_walk (s : List UInt8) (hs : s.length ≤ 9223372036854775807) (m : Int) (w : World) (hm : w.cell? ⟨0, 0, none⟩ = some (.int .i64 m)) (hg : 0 < w.heap.size) :
    Calls Tryd.prog 4 #[.string ⟨s.toArray⟩] w fun e w' => e = .returned (.bool true) ∧ Below w.heap.size w w' := by
  have HP := Lib.hid (parse_any s m w hs hm)
  have HR := Lib.hid (fun w => rparse_any s w)
  have HM := Lib.hid hm
  have hsh : ∀ x ∈ (parseW s).1, x.length ≤ 9223372036854775807 := by
    intro x hx
    unfold parseW at hx
    split at hx
    · cases hx
    · split at hx
      · cases hx
      · split at hx
        · cases hx
        · split at hx
          · cases hx
          · exact set_short hx
  have hle : (parseW s).1.length ≤ 32 := by
    unfold parseW
    split
    · simp
    · split
      · simp
      · split
        · simp
        · split
          · simp
          · dsimp only; omega
  have HSH := Lib.hid hsh
  clear hm hsh
  generalize (parseW s).1 = l at *
  generalize (parseW s).2 = c at *
  go_enter Tryd.func4, Tryd.ntmps4
  go_wp2_with fail
  refine HP.out.mono ?_
  rintro e w1 ⟨v1, rfl, ho1, hb1⟩
  have R1 := Lib.hid (ho1.rd HSH.out)
  clear ho1
  go_wp2_with fail
  refine (HR.out _).mono ?_
  rintro e w2 ⟨v2, rfl, ho2, hb2⟩
  have R2 := Lib.hid (ho2.rd HSH.out)
  have R1' := Lib.hid (R1.out.below hb2)
  have h12 := hb1.trans (hb2.mono hb1.size)
  have hm2 := (h12.cell (p := ⟨0, 0, none⟩) hg).trans HM.out
  have HK := Lib.hid (known_any m w2 hm2)
  clear ho2 hm2 hb1 hb2
  go_wp2_with fail
  refine HK.out.mono ?_
  rintro e w3 ⟨rfl, hb3⟩
  have h13 := h12.trans (hb3.mono h12.size)
  have HS := Lib.hid (same_yes _ _ l w3 (R1'.out.below hb3) (R2.out.below hb3) (by omega))
  clear HK hb3 h12 hg
  go_wp2_with fail
  refine HS.out.mono ?_
  rintro e w4 ⟨rfl, hb4⟩
  go_wp2_with fail
  go_ret
  exact ⟨by simp, h13.trans (hb4.mono h13.size)⟩

set_option maxRecDepth 20000 in
set_option maxHeartbeats 1000000 in
theorem scopeSets_walk (v : Value) (l : List (List UInt8)) (m : Int) (w : World) (h : RdS w v l) (hm : w.cell? ⟨0, 0, none⟩ = some (.int .i64 m)) :
    Calls Tryd.prog 5 #[v] w fun e w' => e = .returned (.bool true) ∧ Below w.heap.size w w' := by
  have HF := Lib.hid (few_any v l w h)
  have HK := Lib.hid (known_any m w hm)
  have hfl := few_len l
  clear h hm
  generalize fewW l = L at *
  have hsl := Sc.set_len L
  have HSH := Lib.hid (fun x (hx : x ∈ Sc.set L) => set_short hx)
  go_enter Tryd.func5, Tryd.ntmps5
  go_wp2_with fail
  refine HF.out.mono ?_
  rintro e w1 ⟨v1, rfl, hr, e1⟩
  subst e1
  have HR := Lib.hid hr
  clear hr
  go_wp2_with fail
  refine HK.out.mono ?_
  rintro e w2 ⟨rfl, hb2⟩
  have R2 := Lib.hid (HR.out.below hb2)
  go_wp2_with fail
  refine (set_any _ L _ R2.out (by omega)).mono ?_
  rintro e w3 ⟨v3, rfl, ho3, hb3⟩
  have R3 := Lib.hid (R2.out.below hb3)
  have S3 := Lib.hid (ho3.rd HSH.out)
  have h03 := hb2.trans (hb3.mono hb2.size)
  clear ho3 hb2 hb3
  go_wp2_with fail
  refine (rset_any _ L _ R3.out (by omega)).mono ?_
  rintro e w4 ⟨v4, rfl, ho4, hb4⟩
  have R4 := Lib.hid (R3.out.below hb4)
  have S4 := Lib.hid (S3.out.below hb4)
  have T4 := Lib.hid (ho4.rd HSH.out)
  have h04 := h03.trans (hb4.mono h03.size)
  clear ho4 hb4 h03
  go_wp2_with fail
  refine (same_yes _ _ (Sc.set L) _ S4.out T4.out (by omega)).mono ?_
  rintro e w5 ⟨rfl, hb5⟩
  have R5 := Lib.hid (R4.out.below hb5)
  have h05 := h04.trans (hb5.mono h04.size)
  clear hb5 h04
  go_wp2_with fail
  refine (print_any _ L _ R5.out (by omega)).mono ?_
  rintro e w6 ⟨rfl, hb6⟩
  have R6 := Lib.hid (R5.out.below hb6)
  have h06 := h05.trans (hb6.mono h05.size)
  clear hb6 h05
  go_wp2_with fail
  refine (rprint_any _ L _ R6.out (by omega)).mono ?_
  rintro e w7 ⟨rfl, hb7⟩
  go_wp2_with fail
  go_ret
  exact ⟨by simp, h06.trans (hb7.mono h06.size)⟩
end Go.Proofs.YthnhhbkncmplmaaDoor
