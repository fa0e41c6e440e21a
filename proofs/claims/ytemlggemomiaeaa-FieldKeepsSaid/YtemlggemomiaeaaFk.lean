/-
  Chapter 4: the fixed question 'known' is answered with yes.
-/
import Derived.Test.YtemlggemomiaeaaFi
namespace Go.Proofs.Ytemlggemomiaeaa
open Go.RowKit

theorem known_parse : Fs.parse [38, 97, 61, 49, 38, 38, 98, 43, 99, 38, 61, 120, 61, 121] = ([([97], [49]), ([98, 32, 99], []), ([], [120, 61, 121])], 0) := by decide +kernel
theorem known_quote : Fs.quote [97, 32, 98, 38] = [97, 43, 98, 37, 50, 54] := by decide +kernel

set_option maxRecDepth 20000 in
set_option maxHeartbeats 1000000 in
theorem known_any (w : World) :
    Calls Try.prog 12 #[] w fun e w' => e = .returned (.bool true) ∧ Below w.heap.size w w' := by
  go_enter Try.func12, Try.ntmps12
  go_wp2_with fail
  refine (parse_any _ _ (by decide)).mono ?_
  rintro e w1 ⟨v, rfl, hown, hb1⟩
  rw [show (⟨#[38, 97, 61, 49, 38, 38, 98, 43, 99, 38, 61, 120, 61, 121]⟩ : ByteArray).data.toList = [38, 97, 61, 49, 38, 38, 98, 43, 99, 38, 61, 120, 61, 121] from rfl] at hown ⊢
  rw [known_parse] at hown ⊢
  have hrd := Rd.of_own hown
  go_wp2_with fail
  refine (quote_any _ _ (by decide)).mono ?_
  rintro e w2 ⟨rfl, hb2⟩
  rw [show (⟨#[97, 32, 98, 38]⟩ : ByteArray).data.toList = [97, 32, 98, 38] from rfl, known_quote]
  obtain ⟨b, o, cap, rfl, hcap, hc⟩ := (hrd.below hb2).pos (by decide)
  have c1 : w2.cell? ⟨b, o + 2, none⟩ = some (.string ⟨#[98, 32, 99]⟩) := hc 2 _ rfl
  have c2 : w2.cell? ⟨b, o + 4 + 1, none⟩ = some (.string ⟨#[120, 61, 121]⟩) := hc 5 _ rfl
  clear hc hrd hown
  go_wp2
  go_ret
  exact ⟨rfl, hb1.trans (hb2.mono hb1.size)⟩
end Go.Proofs.Ytemlggemomiaeaa
