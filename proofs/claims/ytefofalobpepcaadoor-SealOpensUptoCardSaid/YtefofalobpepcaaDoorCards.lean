/-
  DERIVED. GIVEN WITH THE SEED: THE CARDS: each row of YtefofalobpepcaaDoorRows.lean that lists a variable, with what it lists TIED to the program's text (the seventh form; the later family's looks); each row that meets fmt, with fmt's text TOLD by the authors' own Lean function (tested against real Go, not proved from fmt's source: count such statements apart). THE CARD IS WHAT COUNTS. Prove the row's statement (the work); the ties are given (YtefofalobpepcaaDoorTie.lean); close each card by the builder's one call (the guide's Derived/Test/ToyasCard.lean, 'card_holds'). Laid BY PROGRAM, IN A SANDBOX (cutbox-door.mjs). By AI agents, Wed Nov 11 2026. No macro, syntax, notation, axiom, sorry.
-/
import Derived.Test.YtefofalobpepcaaDoorRows
import GoSem.ClaimSeven
namespace Go.Proofs.YtefofalobpepcaaDoor
namespace Rows

/-- THE TIED CARD OF 'signetlaw16.SealMakes'. -/
def sealMakesCard : Claim7 := { stood := { row := sealMakesRow, standIns := [], harness := (true, "b9bcc3253cb3086d371347ef359de7eee6e50bb6a41ff9a0419b45fd0a75392f"), looks := true }, kinds := [], alts := [], laidByText := true, laidKinds := [.data, .data, .data, .sentinel, .sentinel], laidTests := true, laidLooks := .later }
def SealMakesCardSaid : Prop := Claim7.holds Tryd.pinned (.plain (OpenSpec.ofChange sealMakesSpec)) sealMakesCard

/-- THE TIED CARD OF 'signetlaw16.SealPeeks'. -/
def sealPeeksCard : Claim7 := { stood := { row := sealPeeksRow, standIns := [], harness := (true, "b9bcc3253cb3086d371347ef359de7eee6e50bb6a41ff9a0419b45fd0a75392f"), looks := true }, kinds := [], alts := [], laidByText := true, laidKinds := [.data, .data, .data, .sentinel, .sentinel], laidTests := true, laidLooks := .later }
def SealPeeksCardSaid : Prop := Claim7.holds Tryd.pinned (.plain (OpenSpec.ofChange sealPeeksSpec)) sealPeeksCard

/-- THE TIED CARD OF 'signetlaw16.SealOpens'. -/
def sealOpensCard : Claim7 := { stood := { row := sealOpensRow, standIns := [], harness := (true, "b9bcc3253cb3086d371347ef359de7eee6e50bb6a41ff9a0419b45fd0a75392f"), looks := true }, kinds := [], alts := [], laidByText := true, laidKinds := [.data, .data, .data, .sentinel, .sentinel], laidTests := true, laidLooks := .later }
def SealOpensCardSaid : Prop := Claim7.holds Tryd.pinned (.plain (OpenSpec.ofChange sealOpensSpec)) sealOpensCard

/-- THE TIED CARD OF 'signetlaw16.SealBack'. -/
def sealBackCard : Claim7 := { stood := { row := sealBackRow, standIns := [], harness := (true, "b9bcc3253cb3086d371347ef359de7eee6e50bb6a41ff9a0419b45fd0a75392f"), looks := true }, kinds := [], alts := [], laidByText := true, laidKinds := [.data, .data, .data, .sentinel, .sentinel], laidTests := true, laidLooks := .later }
def SealBackCardSaid : Prop := Claim7.holds Tryd.pinned (.plain (OpenSpec.ofChange sealBackSpec)) sealBackCard

/-- THE TIED CARD OF 'signetlaw16.SealAlone'. -/
def sealAloneCard : Claim7 := { stood := { row := sealAloneRow, standIns := [], harness := (true, "b9bcc3253cb3086d371347ef359de7eee6e50bb6a41ff9a0419b45fd0a75392f"), looks := true }, kinds := [], alts := [], laidByText := true, laidKinds := [.data, .data, .data, .sentinel, .sentinel], laidTests := true, laidLooks := .later }
def SealAloneCardSaid : Prop := Claim7.holds Tryd.pinned (.plain (OpenSpec.ofChange sealAloneSpec)) sealAloneCard

/-- THE TIED CARD OF 'signetlaw16.SealTags'. -/
def sealTagsCard : Claim7 := { stood := { row := sealTagsRow, standIns := [], harness := (true, "b9bcc3253cb3086d371347ef359de7eee6e50bb6a41ff9a0419b45fd0a75392f"), looks := true }, kinds := [], alts := [], laidByText := true, laidKinds := [.data, .data, .data, .sentinel, .sentinel], laidTests := true, laidLooks := .later }
def SealTagsCardSaid : Prop := Claim7.holds Tryd.pinned (.plain (OpenSpec.ofChange sealTagsSpec)) sealTagsCard

/-- THE SECOND FORM's CARD OF 'signetlaw16.SealMakes'. -/
def sealMakesUptoCard : Claim7 := { stood := { row := sealMakesUptoRow, standIns := [], harness := (true, "b9bcc3253cb3086d371347ef359de7eee6e50bb6a41ff9a0419b45fd0a75392f"), looks := true }, kinds := [], alts := [], laidByText := true, laidKinds := [.data, .data, .data, .sentinel, .sentinel], laidTests := true, laidLooks := .later }
def SealMakesUptoCardSaid : Prop := Claim7.holds Tryd.pinned (.plain (OpenSpec.upto sealMakesSpec)) sealMakesUptoCard

/-- THE SECOND FORM's CARD OF 'signetlaw16.SealPeeks'. -/
def sealPeeksUptoCard : Claim7 := { stood := { row := sealPeeksUptoRow, standIns := [], harness := (true, "b9bcc3253cb3086d371347ef359de7eee6e50bb6a41ff9a0419b45fd0a75392f"), looks := true }, kinds := [], alts := [], laidByText := true, laidKinds := [.data, .data, .data, .sentinel, .sentinel], laidTests := true, laidLooks := .later }
def SealPeeksUptoCardSaid : Prop := Claim7.holds Tryd.pinned (.plain (OpenSpec.upto sealPeeksSpec)) sealPeeksUptoCard

/-- THE SECOND FORM's CARD OF 'signetlaw16.SealOpens'. -/
def sealOpensUptoCard : Claim7 := { stood := { row := sealOpensUptoRow, standIns := [], harness := (true, "b9bcc3253cb3086d371347ef359de7eee6e50bb6a41ff9a0419b45fd0a75392f"), looks := true }, kinds := [], alts := [], laidByText := true, laidKinds := [.data, .data, .data, .sentinel, .sentinel], laidTests := true, laidLooks := .later }
def SealOpensUptoCardSaid : Prop := Claim7.holds Tryd.pinned (.plain (OpenSpec.upto sealOpensSpec)) sealOpensUptoCard

/-- THE SECOND FORM's CARD OF 'signetlaw16.SealBack'. -/
def sealBackUptoCard : Claim7 := { stood := { row := sealBackUptoRow, standIns := [], harness := (true, "b9bcc3253cb3086d371347ef359de7eee6e50bb6a41ff9a0419b45fd0a75392f"), looks := true }, kinds := [], alts := [], laidByText := true, laidKinds := [.data, .data, .data, .sentinel, .sentinel], laidTests := true, laidLooks := .later }
def SealBackUptoCardSaid : Prop := Claim7.holds Tryd.pinned (.plain (OpenSpec.upto sealBackSpec)) sealBackUptoCard

/-- THE SECOND FORM's CARD OF 'signetlaw16.SealAlone'. -/
def sealAloneUptoCard : Claim7 := { stood := { row := sealAloneUptoRow, standIns := [], harness := (true, "b9bcc3253cb3086d371347ef359de7eee6e50bb6a41ff9a0419b45fd0a75392f"), looks := true }, kinds := [], alts := [], laidByText := true, laidKinds := [.data, .data, .data, .sentinel, .sentinel], laidTests := true, laidLooks := .later }
def SealAloneUptoCardSaid : Prop := Claim7.holds Tryd.pinned (.plain (OpenSpec.upto sealAloneSpec)) sealAloneUptoCard

/-- THE SECOND FORM's CARD OF 'signetlaw16.SealTags'. -/
def sealTagsUptoCard : Claim7 := { stood := { row := sealTagsUptoRow, standIns := [], harness := (true, "b9bcc3253cb3086d371347ef359de7eee6e50bb6a41ff9a0419b45fd0a75392f"), looks := true }, kinds := [], alts := [], laidByText := true, laidKinds := [.data, .data, .data, .sentinel, .sentinel], laidTests := true, laidLooks := .later }
def SealTagsUptoCardSaid : Prop := Claim7.holds Tryd.pinned (.plain (OpenSpec.upto sealTagsSpec)) sealTagsUptoCard
end Rows
end Go.Proofs.YtefofalobpepcaaDoor
