/-
  DERIVED. GIVEN WITH THE SEED: THE CARDS: each row of YthofbblgoamipaaGreatDoorRows.lean that lists a variable, with what it lists TIED to the program's text (the seventh form; the later family's looks); each row that meets fmt, with fmt's text TOLD by the authors' own Lean function (tested against real Go, not proved from fmt's source: count such statements apart). THE CARD IS WHAT COUNTS. Prove the row's statement (the work); the ties are given (YthofbblgoamipaaGreatDoorTie.lean); close each card by the builder's one call (the guide's Derived/Test/ToyasCard.lean, 'card_holds'). Laid BY PROGRAM, IN A SANDBOX (cutbox-door.mjs). By AI agents, Wed Nov 11 2026. No macro, syntax, notation, axiom, sorry.
-/
import Derived.Test.YthofbblgoamipaaGreatDoorRows
import GoSem.ClaimSeven
namespace Go.Proofs.YthofbblgoamipaaGreatDoor
namespace Rows

/-- THE TIED CARD OF 'signetlaw12.WalPlays'. -/
def walPlaysCard : Claim7 := { stood := { row := walPlaysRow, standIns := [], harness := (true, "575544fce9a92a96548991ed42580721cf2856661614a00338632b51ffb90fac"), looks := true }, kinds := [], alts := [], laidByText := true, laidKinds := [.data, .data, .data, .sentinel, .sentinel], laidTests := true, laidLooks := .later }
def WalPlaysCardSaid : Prop := Claim7.holds Tryz.pinned (.plain (OpenSpec.ofChange walPlaysSpec)) walPlaysCard

/-- THE TIED CARD OF 'signetlaw12.WalNone'. -/
def walNoneCard : Claim7 := { stood := { row := walNoneRow, standIns := [], harness := (true, "575544fce9a92a96548991ed42580721cf2856661614a00338632b51ffb90fac"), looks := true }, kinds := [], alts := [], laidByText := true, laidKinds := [.data, .data, .data, .sentinel, .sentinel], laidTests := true, laidLooks := .later }
def WalNoneCardSaid : Prop := Claim7.holds Tryz.pinned (.plain (OpenSpec.ofChange walNoneSpec)) walNoneCard

/-- THE TIED CARD OF 'signetlaw12.WalCrashes'. -/
def walCrashesCard : Claim7 := { stood := { row := walCrashesRow, standIns := [], harness := (true, "575544fce9a92a96548991ed42580721cf2856661614a00338632b51ffb90fac"), looks := true }, kinds := [], alts := [], laidByText := true, laidKinds := [.data, .data, .data, .sentinel, .sentinel], laidTests := true, laidLooks := .later }
def WalCrashesCardSaid : Prop := Claim7.holds Tryz.pinned (.plain (OpenSpec.ofChange walCrashesSpec)) walCrashesCard

/-- THE SECOND FORM's CARD OF 'signetlaw12.WalPlays'. -/
def walPlaysUptoCard : Claim7 := { stood := { row := walPlaysUptoRow, standIns := [], harness := (true, "575544fce9a92a96548991ed42580721cf2856661614a00338632b51ffb90fac"), looks := true }, kinds := [], alts := [], laidByText := true, laidKinds := [.data, .data, .data, .sentinel, .sentinel], laidTests := true, laidLooks := .later }
def WalPlaysUptoCardSaid : Prop := Claim7.holds Tryz.pinned (.plain (OpenSpec.upto walPlaysSpec)) walPlaysUptoCard

/-- THE SECOND FORM's CARD OF 'signetlaw12.WalNone'. -/
def walNoneUptoCard : Claim7 := { stood := { row := walNoneUptoRow, standIns := [], harness := (true, "575544fce9a92a96548991ed42580721cf2856661614a00338632b51ffb90fac"), looks := true }, kinds := [], alts := [], laidByText := true, laidKinds := [.data, .data, .data, .sentinel, .sentinel], laidTests := true, laidLooks := .later }
def WalNoneUptoCardSaid : Prop := Claim7.holds Tryz.pinned (.plain (OpenSpec.upto walNoneSpec)) walNoneUptoCard

/-- THE SECOND FORM's CARD OF 'signetlaw12.WalCrashes'. -/
def walCrashesUptoCard : Claim7 := { stood := { row := walCrashesUptoRow, standIns := [], harness := (true, "575544fce9a92a96548991ed42580721cf2856661614a00338632b51ffb90fac"), looks := true }, kinds := [], alts := [], laidByText := true, laidKinds := [.data, .data, .data, .sentinel, .sentinel], laidTests := true, laidLooks := .later }
def WalCrashesUptoCardSaid : Prop := Claim7.holds Tryz.pinned (.plain (OpenSpec.upto walCrashesSpec)) walCrashesUptoCard
end Rows
end Go.Proofs.YthofbblgoamipaaGreatDoor
