/-
  DERIVED. GIVEN WITH THE SEED: THE CARDS: each row of YtffllacphfapnaaGreatDoorRows.lean that lists a variable, with what it lists TIED to the program's text (the seventh form; the later family's looks); each row that meets fmt, with fmt's text TOLD by the authors' own Lean function (tested against real Go, not proved from fmt's source: count such statements apart). THE CARD IS WHAT COUNTS. Prove the row's statement (the work); the ties are given (YtffllacphfapnaaGreatDoorTie.lean); close each card by the builder's one call (the guide's Derived/Test/ToyasCard.lean, 'card_holds'). Laid BY PROGRAM, IN A SANDBOX (cutbox-door.mjs). By AI agents, Wed Nov 11 2026. No macro, syntax, notation, axiom, sorry.
-/
import Derived.Test.YtffllacphfapnaaGreatDoorRows
import GoSem.ClaimSeven
namespace Go.Proofs.YtffllacphfapnaaGreatDoor
namespace Rows

/-- THE TIED CARD OF 'signetlaw20.ReplyFails'. -/
def replyFailsCard : Claim7 := { stood := { row := replyFailsRow, standIns := [], harness := (true, "4557666f42c6bcbb2b2ef6b4c47bcb1f12f08d391baf351f905e1d9d85c0f829"), looks := true }, kinds := [], alts := [], laidByText := true, laidKinds := [.data, .data, .data, .sentinel, .sentinel], laidTests := true, laidLooks := .later }
def ReplyFailsCardSaid : Prop := Claim7.holds Tryz.pinned (.plain (OpenSpec.ofChange replyFailsSpec)) replyFailsCard

/-- THE TIED CARD OF 'signetlaw20.ReplyClasses'. -/
def replyClassesCard : Claim7 := { stood := { row := replyClassesRow, standIns := [], harness := (true, "4557666f42c6bcbb2b2ef6b4c47bcb1f12f08d391baf351f905e1d9d85c0f829"), looks := true }, kinds := [], alts := [], laidByText := true, laidKinds := [.data, .data, .data, .sentinel, .sentinel], laidTests := true, laidLooks := .later }
def ReplyClassesCardSaid : Prop := Claim7.holds Tryz.pinned (.plain (OpenSpec.ofChange replyClassesSpec)) replyClassesCard

/-- THE TIED CARD OF 'signetlaw20.ReplyBack'. -/
def replyBackCard : Claim7 := { stood := { row := replyBackRow, standIns := [], harness := (true, "4557666f42c6bcbb2b2ef6b4c47bcb1f12f08d391baf351f905e1d9d85c0f829"), looks := true }, kinds := [], alts := [], laidByText := true, laidKinds := [.data, .data, .data, .sentinel, .sentinel], laidTests := true, laidLooks := .later }
def ReplyBackCardSaid : Prop := Claim7.holds Tryz.pinned (.plain (OpenSpec.ofChange replyBackSpec)) replyBackCard

/-- THE SECOND FORM's CARD OF 'signetlaw20.ReplyFails'. -/
def replyFailsUptoCard : Claim7 := { stood := { row := replyFailsUptoRow, standIns := [], harness := (true, "4557666f42c6bcbb2b2ef6b4c47bcb1f12f08d391baf351f905e1d9d85c0f829"), looks := true }, kinds := [], alts := [], laidByText := true, laidKinds := [.data, .data, .data, .sentinel, .sentinel], laidTests := true, laidLooks := .later }
def ReplyFailsUptoCardSaid : Prop := Claim7.holds Tryz.pinned (.plain (OpenSpec.upto replyFailsSpec)) replyFailsUptoCard

/-- THE SECOND FORM's CARD OF 'signetlaw20.ReplyClasses'. -/
def replyClassesUptoCard : Claim7 := { stood := { row := replyClassesUptoRow, standIns := [], harness := (true, "4557666f42c6bcbb2b2ef6b4c47bcb1f12f08d391baf351f905e1d9d85c0f829"), looks := true }, kinds := [], alts := [], laidByText := true, laidKinds := [.data, .data, .data, .sentinel, .sentinel], laidTests := true, laidLooks := .later }
def ReplyClassesUptoCardSaid : Prop := Claim7.holds Tryz.pinned (.plain (OpenSpec.upto replyClassesSpec)) replyClassesUptoCard

/-- THE SECOND FORM's CARD OF 'signetlaw20.ReplyBack'. -/
def replyBackUptoCard : Claim7 := { stood := { row := replyBackUptoRow, standIns := [], harness := (true, "4557666f42c6bcbb2b2ef6b4c47bcb1f12f08d391baf351f905e1d9d85c0f829"), looks := true }, kinds := [], alts := [], laidByText := true, laidKinds := [.data, .data, .data, .sentinel, .sentinel], laidTests := true, laidLooks := .later }
def ReplyBackUptoCardSaid : Prop := Claim7.holds Tryz.pinned (.plain (OpenSpec.upto replyBackSpec)) replyBackUptoCard
end Rows
end Go.Proofs.YtffllacphfapnaaGreatDoor
