/-
  No cell of these rows narrows 'for every input' (looked for: loops, veiled, ifaces, maps, wideKeys, modest, calm, conditions, laid).
  DERIVED. THE GIVEN ROWS OF THIS SEAT. 6 by the template 'for every input the law returns true; each argument reads behind the call as it read before'; 0 by the template 'total and deterministic' (their statements: YtdmjegelcdghlaaGreatTotals.lean).
  GIVEN WITH THE SEED: the statements are not yours to turn. If you find one false, say at which input.
  Laid BY PROGRAM, IN A SANDBOX (cutbox-rows.mjs): the forced cells as the released guide's own fill.sh prints them over the translation 60977cfb059541bf… (all of the seat's roots in one cut). By AI agents, Wed Nov 11 2026. No macro, syntax, notation, axiom, sorry.
-/
import Derived.Test.YtdmjegelcdghlaaGreatChecked
import GoSem.Claim
import GoSem.ClaimJoined
import GoSem.ClaimMapViews
import Derived.JoinedTies
import Derived.KernelRfl
namespace Go.Proofs.YtdmjegelcdghlaaGreat
/- THE CELL 'sum', in the pinned program and in every row, IS THE sha256 OF THE DUMP (.gsa) THAT YtdmjegelcdghlaaGreatProg.lean LOADS. Nothing in Lean hashes anything: it is a label: what it is worth is what the hold of that sum in a sandbox is worth. -/
noncomputable def Tryz.pinned : Pinned := { name := "ytdmjegelcdghlaagreat", sum := "60977cfb059541bfeed09e3507b8c970e399e820a8f5b2aabcfd006590b899ea", checked := Tryz.checked }
namespace Rows
def none {H : Type} : Left H := { results := [], args := [] }

/-- 'signetlaw22.ViewNone': WHATEVER THE INPUT: true; the input reads as it did. -/
def viewNoneSpec : ChangeSpec := { name := "viewNone", fn := fun _ => fun
  | [d1, d2, d3] => { results := [.lit (.bool true)], args := [d1, d2, d3] }
  | _ => none }
def viewNoneRow : OpenClaim := { program := "ytdmjegelcdghlaagreat", sum := "60977cfb059541bfeed09e3507b8c970e399e820a8f5b2aabcfd006590b899ea", func := "signet/signetlaw22.ViewNone", spec := "viewNone", inPlace := ["internal/abi.NoEscape", "internal/bytealg.MakeNoZero", "internal/bytealg.IndexByteString"], unfollowed := true, recurses := true, apart := false }
def ViewNoneSaid : Prop := viewNoneRow.holds Tryz.pinned (OpenSpec.ofChange viewNoneSpec)

/-- ITS FALSE NEIGHBOUR: 'it returns false'. Refute it at one input. -/
def viewNoneWrong : ChangeSpec := { name := "viewNone", fn := fun _ => fun
  | [d1, d2, d3] => { results := [.lit (.bool false)], args := [d1, d2, d3] }
  | _ => none }
def ViewNoneWrongFalsely : Prop := viewNoneRow.holds Tryz.pinned (OpenSpec.ofChange viewNoneWrong)

/-- 'signetlaw22.ViewAgrees': WHATEVER THE INPUT: true; the input reads as it did. -/
def viewAgreesSpec : ChangeSpec := { name := "viewAgrees", fn := fun _ => fun
  | [d1, d2] => { results := [.lit (.bool true)], args := [d1, d2] }
  | _ => none }
def viewAgreesRow : OpenClaim := { program := "ytdmjegelcdghlaagreat", sum := "60977cfb059541bfeed09e3507b8c970e399e820a8f5b2aabcfd006590b899ea", func := "signet/signetlaw22.ViewAgrees", spec := "viewAgrees", inPlace := ["internal/abi.NoEscape", "internal/bytealg.MakeNoZero", "internal/bytealg.IndexByteString"], unfollowed := true, recurses := true, apart := false }
def ViewAgreesSaid : Prop := viewAgreesRow.holds Tryz.pinned (OpenSpec.ofChange viewAgreesSpec)

/-- ITS FALSE NEIGHBOUR: 'it returns false'. Refute it at one input. -/
def viewAgreesWrong : ChangeSpec := { name := "viewAgrees", fn := fun _ => fun
  | [d1, d2] => { results := [.lit (.bool false)], args := [d1, d2] }
  | _ => none }
def ViewAgreesWrongFalsely : Prop := viewAgreesRow.holds Tryz.pinned (OpenSpec.ofChange viewAgreesWrong)

/-- 'signetlaw22.ViewSoon': WHATEVER THE INPUT: true; the input reads as it did. -/
def viewSoonSpec : ChangeSpec := { name := "viewSoon", fn := fun _ => fun
  | [d1, d2, d3] => { results := [.lit (.bool true)], args := [d1, d2, d3] }
  | _ => none }
def viewSoonRow : OpenClaim := { program := "ytdmjegelcdghlaagreat", sum := "60977cfb059541bfeed09e3507b8c970e399e820a8f5b2aabcfd006590b899ea", func := "signet/signetlaw22.ViewSoon", spec := "viewSoon", inPlace := ["internal/abi.NoEscape", "internal/bytealg.MakeNoZero", "internal/bytealg.IndexByteString"], unfollowed := true, recurses := true, apart := false }
def ViewSoonSaid : Prop := viewSoonRow.holds Tryz.pinned (OpenSpec.ofChange viewSoonSpec)

/-- ITS FALSE NEIGHBOUR: 'it returns false'. Refute it at one input. -/
def viewSoonWrong : ChangeSpec := { name := "viewSoon", fn := fun _ => fun
  | [d1, d2, d3] => { results := [.lit (.bool false)], args := [d1, d2, d3] }
  | _ => none }
def ViewSoonWrongFalsely : Prop := viewSoonRow.holds Tryz.pinned (OpenSpec.ofChange viewSoonWrong)

/-- 'signetlaw22.ViewPlays': WHATEVER THE INPUT: true; the input reads as it did. -/
def viewPlaysSpec : ChangeSpec := { name := "viewPlays", fn := fun _ => fun
  | [d1, d2] => { results := [.lit (.bool true)], args := [d1, d2] }
  | _ => none }
def viewPlaysRow : OpenClaim := { program := "ytdmjegelcdghlaagreat", sum := "60977cfb059541bfeed09e3507b8c970e399e820a8f5b2aabcfd006590b899ea", func := "signet/signetlaw22.ViewPlays", spec := "viewPlays", inPlace := ["internal/abi.NoEscape", "internal/bytealg.MakeNoZero", "internal/bytealg.IndexByteString"], unfollowed := true, recurses := true, apart := false }
def ViewPlaysSaid : Prop := viewPlaysRow.holds Tryz.pinned (OpenSpec.ofChange viewPlaysSpec)

/-- ITS FALSE NEIGHBOUR: 'it returns false'. Refute it at one input. -/
def viewPlaysWrong : ChangeSpec := { name := "viewPlays", fn := fun _ => fun
  | [d1, d2] => { results := [.lit (.bool false)], args := [d1, d2] }
  | _ => none }
def ViewPlaysWrongFalsely : Prop := viewPlaysRow.holds Tryz.pinned (OpenSpec.ofChange viewPlaysWrong)

/-- 'signetlaw22.ViewLoads': WHATEVER THE INPUT: true; the input reads as it did. -/
def viewLoadsSpec : ChangeSpec := { name := "viewLoads", fn := fun _ => fun
  | [d1, d2, d3, d4, d5] => { results := [.lit (.bool true)], args := [d1, d2, d3, d4, d5] }
  | _ => none }
def viewLoadsRow : OpenClaim := { program := "ytdmjegelcdghlaagreat", sum := "60977cfb059541bfeed09e3507b8c970e399e820a8f5b2aabcfd006590b899ea", func := "signet/signetlaw22.ViewLoads", spec := "viewLoads", inPlace := ["internal/abi.NoEscape", "internal/bytealg.MakeNoZero", "internal/bytealg.IndexByteString"], unfollowed := true, recurses := true, apart := false }
def ViewLoadsSaid : Prop := viewLoadsRow.holds Tryz.pinned (OpenSpec.ofChange viewLoadsSpec)

/-- ITS FALSE NEIGHBOUR: 'it returns false'. Refute it at one input. -/
def viewLoadsWrong : ChangeSpec := { name := "viewLoads", fn := fun _ => fun
  | [d1, d2, d3, d4, d5] => { results := [.lit (.bool false)], args := [d1, d2, d3, d4, d5] }
  | _ => none }
def ViewLoadsWrongFalsely : Prop := viewLoadsRow.holds Tryz.pinned (OpenSpec.ofChange viewLoadsWrong)

/-- 'signetlaw22.ViewKeeps': WHATEVER THE INPUT: true; the input reads as it did. -/
def viewKeepsSpec : ChangeSpec := { name := "viewKeeps", fn := fun _ => fun
  | [d1, d2] => { results := [.lit (.bool true)], args := [d1, d2] }
  | _ => none }
def viewKeepsRow : OpenClaim := { program := "ytdmjegelcdghlaagreat", sum := "60977cfb059541bfeed09e3507b8c970e399e820a8f5b2aabcfd006590b899ea", func := "signet/signetlaw22.ViewKeeps", spec := "viewKeeps", inPlace := ["internal/abi.NoEscape", "internal/bytealg.MakeNoZero", "internal/bytealg.IndexByteString"], unfollowed := true, recurses := true, apart := false }
def ViewKeepsSaid : Prop := viewKeepsRow.holds Tryz.pinned (OpenSpec.ofChange viewKeepsSpec)

/-- ITS FALSE NEIGHBOUR: 'it returns false'. Refute it at one input. -/
def viewKeepsWrong : ChangeSpec := { name := "viewKeeps", fn := fun _ => fun
  | [d1, d2] => { results := [.lit (.bool false)], args := [d1, d2] }
  | _ => none }
def ViewKeepsWrongFalsely : Prop := viewKeepsRow.holds Tryz.pinned (OpenSpec.ofChange viewKeepsWrong)

/- THE SECOND FORM. 'bulk': how many values and letters a reading holds, each counted each time it is reached (what is shared counts as often as it is met; a slice's spare places count too). A statement '..UptoSaid' is the law's where the arguments, and the package variables that the reading takes, are together of bulk at most 1048576: NARROWER than '..Said'. Prove '..Said' where nothing that the law and all that it calls make is longer than what came in: it says more and counts as full. Else prove '..UptoSaid'. A law counts once. -/
mutual
def uptoBulk {H : Type} : DataW H → Nat
  | .lit (.string bytes) => bytes.length + 1
  | .lit _ => 1
  | .nil => 1
  | .ptr d => uptoBulk d + 1
  | .slice elems spare => uptoBulkAll elems + uptoBulkAll spare + 1
  | .agg parts => uptoBulkAll parts + 1
  | .iface _ d => uptoBulk d + 1
  | .map entries => uptoBulkEntries entries + 1
  | .held _ => 1
def uptoBulkAll {H : Type} : List (DataW H) → Nat
  | [] => 0
  | d :: r => uptoBulk d + uptoBulkAll r
def uptoBulkEntries {H : Type} : List (Lit × DataW H) → Nat
  | [] => 0
  | x :: r => uptoBulkEntry x + uptoBulkEntries r
def uptoBulkEntry {H : Type} : Lit × DataW H → Nat
  | (.string bytes, d) => bytes.length + uptoBulk d + 1
  | (_, d) => uptoBulk d + 1
 end
def uptoSmall : (H : Type) → List (DataW H) → Bool := fun _ ds => decide (uptoBulkAll ds ≤ 1048576)
def OpenSpec.upto (s : _root_.Go.ChangeSpec) : _root_.Go.OpenSpec := { _root_.Go.OpenSpec.ofChange s with cond := some uptoSmall }

/-- 'signetlaw22.ViewNone', WHERE WHAT IT READS IS OF BULK AT MOST 1048576: true; the input reads as it did. -/
def viewNoneUptoRow : OpenClaim := { program := "ytdmjegelcdghlaagreat", sum := "60977cfb059541bfeed09e3507b8c970e399e820a8f5b2aabcfd006590b899ea", func := "signet/signetlaw22.ViewNone", spec := "viewNone", inPlace := ["internal/abi.NoEscape", "internal/bytealg.MakeNoZero", "internal/bytealg.IndexByteString"], unfollowed := true, recurses := true, apart := false, narrowed := true }
def ViewNoneUptoSaid : Prop := viewNoneUptoRow.holds Tryz.pinned (OpenSpec.upto viewNoneSpec)

/-- 'signetlaw22.ViewAgrees', WHERE WHAT IT READS IS OF BULK AT MOST 1048576: true; the input reads as it did. -/
def viewAgreesUptoRow : OpenClaim := { program := "ytdmjegelcdghlaagreat", sum := "60977cfb059541bfeed09e3507b8c970e399e820a8f5b2aabcfd006590b899ea", func := "signet/signetlaw22.ViewAgrees", spec := "viewAgrees", inPlace := ["internal/abi.NoEscape", "internal/bytealg.MakeNoZero", "internal/bytealg.IndexByteString"], unfollowed := true, recurses := true, apart := false, narrowed := true }
def ViewAgreesUptoSaid : Prop := viewAgreesUptoRow.holds Tryz.pinned (OpenSpec.upto viewAgreesSpec)

/-- 'signetlaw22.ViewSoon', WHERE WHAT IT READS IS OF BULK AT MOST 1048576: true; the input reads as it did. -/
def viewSoonUptoRow : OpenClaim := { program := "ytdmjegelcdghlaagreat", sum := "60977cfb059541bfeed09e3507b8c970e399e820a8f5b2aabcfd006590b899ea", func := "signet/signetlaw22.ViewSoon", spec := "viewSoon", inPlace := ["internal/abi.NoEscape", "internal/bytealg.MakeNoZero", "internal/bytealg.IndexByteString"], unfollowed := true, recurses := true, apart := false, narrowed := true }
def ViewSoonUptoSaid : Prop := viewSoonUptoRow.holds Tryz.pinned (OpenSpec.upto viewSoonSpec)

/-- 'signetlaw22.ViewPlays', WHERE WHAT IT READS IS OF BULK AT MOST 1048576: true; the input reads as it did. -/
def viewPlaysUptoRow : OpenClaim := { program := "ytdmjegelcdghlaagreat", sum := "60977cfb059541bfeed09e3507b8c970e399e820a8f5b2aabcfd006590b899ea", func := "signet/signetlaw22.ViewPlays", spec := "viewPlays", inPlace := ["internal/abi.NoEscape", "internal/bytealg.MakeNoZero", "internal/bytealg.IndexByteString"], unfollowed := true, recurses := true, apart := false, narrowed := true }
def ViewPlaysUptoSaid : Prop := viewPlaysUptoRow.holds Tryz.pinned (OpenSpec.upto viewPlaysSpec)

/-- 'signetlaw22.ViewLoads', WHERE WHAT IT READS IS OF BULK AT MOST 1048576: true; the input reads as it did. -/
def viewLoadsUptoRow : OpenClaim := { program := "ytdmjegelcdghlaagreat", sum := "60977cfb059541bfeed09e3507b8c970e399e820a8f5b2aabcfd006590b899ea", func := "signet/signetlaw22.ViewLoads", spec := "viewLoads", inPlace := ["internal/abi.NoEscape", "internal/bytealg.MakeNoZero", "internal/bytealg.IndexByteString"], unfollowed := true, recurses := true, apart := false, narrowed := true }
def ViewLoadsUptoSaid : Prop := viewLoadsUptoRow.holds Tryz.pinned (OpenSpec.upto viewLoadsSpec)

/-- 'signetlaw22.ViewKeeps', WHERE WHAT IT READS IS OF BULK AT MOST 1048576: true; the input reads as it did. -/
def viewKeepsUptoRow : OpenClaim := { program := "ytdmjegelcdghlaagreat", sum := "60977cfb059541bfeed09e3507b8c970e399e820a8f5b2aabcfd006590b899ea", func := "signet/signetlaw22.ViewKeeps", spec := "viewKeeps", inPlace := ["internal/abi.NoEscape", "internal/bytealg.MakeNoZero", "internal/bytealg.IndexByteString"], unfollowed := true, recurses := true, apart := false, narrowed := true }
def ViewKeepsUptoSaid : Prop := viewKeepsUptoRow.holds Tryz.pinned (OpenSpec.upto viewKeepsSpec)

end Rows
end Go.Proofs.YtdmjegelcdghlaaGreat
