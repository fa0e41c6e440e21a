/-
  No cell of these rows narrows 'for every input' (looked for: loops, veiled, ifaces, maps, wideKeys, modest, calm, conditions, laid).
  DERIVED. THE GIVEN ROWS OF THIS SEAT. 4 by the template 'for every input the law returns true; each argument reads behind the call as it read before'; 0 by the template 'total and deterministic' (their statements: YtonbpekogfaibaaTotals.lean).
  GIVEN WITH THE SEED: the statements are not yours to turn. If you find one false, say at which input.
  Laid BY PROGRAM, IN A SANDBOX (cutbox-rows.mjs): the forced cells as the released guide's own fill.sh prints them over the translation f0a3abde809dca8c… (all of the seat's roots in one cut). By AI agents, Wed Nov 11 2026. No macro, syntax, notation, axiom, sorry.
-/
import Derived.Test.YtonbpekogfaibaaChecked
import GoSem.Claim
import GoSem.ClaimJoined
import GoSem.ClaimMapViews
import Derived.JoinedTies
import Derived.KernelRfl
namespace Go.Proofs.Ytonbpekogfaibaa
/- THE CELL 'sum', in the pinned program and in every row, IS THE sha256 OF THE DUMP (.gsa) THAT YtonbpekogfaibaaProg.lean LOADS. Nothing in Lean hashes anything: it is a label: what it is worth is what the hold of that sum in a sandbox is worth. -/
noncomputable def Try.pinned : Pinned := { name := "ytonbpekogfaibaa", sum := "f0a3abde809dca8c0127fc85636e2c5fff52fe5f38360c1c5442ac16b10f4d6b", checked := Try.checked }
namespace Rows
def none {H : Type} : Left H := { results := [], args := [] }

/-- 'signetlaw15.RollFinds': WHATEVER THE INPUT: true; the input reads as it did. -/
def rollFindsSpec : ChangeSpec := { name := "rollFinds", fn := fun _ => fun
  | [d1, d2] => { results := [.lit (.bool true)], args := [d1, d2] }
  | _ => none }
def rollFindsRow : OpenClaim := { program := "ytonbpekogfaibaa", sum := "f0a3abde809dca8c0127fc85636e2c5fff52fe5f38360c1c5442ac16b10f4d6b", func := "signet/signetlaw15.RollFinds", spec := "rollFinds", inPlace := ["internal/bytealg.IndexByteString", "internal/bytealg.IndexString", "internal/abi.NoEscape", "internal/bytealg.MakeNoZero"], unfollowed := true, recurses := true, named := ["internal/bytealg.MaxLen"], apart := false }
def RollFindsSaid : Prop := rollFindsRow.holds Try.pinned (OpenSpec.ofChange rollFindsSpec)

/-- ITS FALSE NEIGHBOUR: 'it returns false'. Refute it at one input. -/
def rollFindsWrong : ChangeSpec := { name := "rollFinds", fn := fun _ => fun
  | [d1, d2] => { results := [.lit (.bool false)], args := [d1, d2] }
  | _ => none }
def RollFindsWrongFalsely : Prop := rollFindsRow.holds Try.pinned (OpenSpec.ofChange rollFindsWrong)

/-- 'signetlaw15.RollGives': WHATEVER THE INPUT: true; the input reads as it did. -/
def rollGivesSpec : ChangeSpec := { name := "rollGives", fn := fun _ => fun
  | [d1, d2, d3, d4] => { results := [.lit (.bool true)], args := [d1, d2, d3, d4] }
  | _ => none }
def rollGivesRow : OpenClaim := { program := "ytonbpekogfaibaa", sum := "f0a3abde809dca8c0127fc85636e2c5fff52fe5f38360c1c5442ac16b10f4d6b", func := "signet/signetlaw15.RollGives", spec := "rollGives", inPlace := ["internal/bytealg.IndexByteString", "internal/bytealg.IndexString", "internal/abi.NoEscape", "internal/bytealg.MakeNoZero"], unfollowed := true, recurses := true, named := ["internal/bytealg.MaxLen"], apart := false }
def RollGivesSaid : Prop := rollGivesRow.holds Try.pinned (OpenSpec.ofChange rollGivesSpec)

/-- ITS FALSE NEIGHBOUR: 'it returns false'. Refute it at one input. -/
def rollGivesWrong : ChangeSpec := { name := "rollGives", fn := fun _ => fun
  | [d1, d2, d3, d4] => { results := [.lit (.bool false)], args := [d1, d2, d3, d4] }
  | _ => none }
def RollGivesWrongFalsely : Prop := rollGivesRow.holds Try.pinned (OpenSpec.ofChange rollGivesWrong)

/-- 'signetlaw15.RollWithin': WHATEVER THE INPUT: true; the input reads as it did. -/
def rollWithinSpec : ChangeSpec := { name := "rollWithin", fn := fun _ => fun
  | [d1, d2, d3] => { results := [.lit (.bool true)], args := [d1, d2, d3] }
  | _ => none }
def rollWithinRow : OpenClaim := { program := "ytonbpekogfaibaa", sum := "f0a3abde809dca8c0127fc85636e2c5fff52fe5f38360c1c5442ac16b10f4d6b", func := "signet/signetlaw15.RollWithin", spec := "rollWithin", inPlace := ["internal/bytealg.IndexByteString", "internal/bytealg.IndexString", "internal/abi.NoEscape", "internal/bytealg.MakeNoZero"], unfollowed := true, recurses := true, named := ["internal/bytealg.MaxLen"], apart := false }
def RollWithinSaid : Prop := rollWithinRow.holds Try.pinned (OpenSpec.ofChange rollWithinSpec)

/-- ITS FALSE NEIGHBOUR: 'it returns false'. Refute it at one input. -/
def rollWithinWrong : ChangeSpec := { name := "rollWithin", fn := fun _ => fun
  | [d1, d2, d3] => { results := [.lit (.bool false)], args := [d1, d2, d3] }
  | _ => none }
def RollWithinWrongFalsely : Prop := rollWithinRow.holds Try.pinned (OpenSpec.ofChange rollWithinWrong)

/-- 'signetlaw15.RollKeeps': WHATEVER THE INPUT: true; the input reads as it did. -/
def rollKeepsSpec : ChangeSpec := { name := "rollKeeps", fn := fun _ => fun
  | [d1, d2] => { results := [.lit (.bool true)], args := [d1, d2] }
  | _ => none }
def rollKeepsRow : OpenClaim := { program := "ytonbpekogfaibaa", sum := "f0a3abde809dca8c0127fc85636e2c5fff52fe5f38360c1c5442ac16b10f4d6b", func := "signet/signetlaw15.RollKeeps", spec := "rollKeeps", inPlace := ["internal/bytealg.IndexByteString", "internal/abi.NoEscape", "internal/bytealg.IndexString", "internal/bytealg.MakeNoZero"], unfollowed := true, recurses := true, named := ["internal/bytealg.MaxLen"], apart := false }
def RollKeepsSaid : Prop := rollKeepsRow.holds Try.pinned (OpenSpec.ofChange rollKeepsSpec)

/-- ITS FALSE NEIGHBOUR: 'it returns false'. Refute it at one input. -/
def rollKeepsWrong : ChangeSpec := { name := "rollKeeps", fn := fun _ => fun
  | [d1, d2] => { results := [.lit (.bool false)], args := [d1, d2] }
  | _ => none }
def RollKeepsWrongFalsely : Prop := rollKeepsRow.holds Try.pinned (OpenSpec.ofChange rollKeepsWrong)

/- THE SECOND FORM. 'bulk': how many values and letters a reading holds, each counted each time it is reached (what is shared counts as often as it is met; a slice's spare places count too). A statement '..UptoSaid' is the law's where the arguments, and the package variables that the reading takes, are together of bulk at most 1048576: NARROWER than '..Said'. Prove '..Said' where nothing that the law and all that it calls make is longer than what came in: it says more and counts as full. Else prove '..UptoSaid'. A law counts once. -/
mutual
def uptoBulk {H : Type} : DataW H → Nat
  | .lit (.string bytes) => bytes.length + 1
  | .lit _ => 1
  | .nil => 1
  | .ptr d => uptoBulk d + 1
  | .slice elems spare => uptoBulkAll elems + uptoBulkAll spare + 1
  | .agg parts => uptoBulkAll parts + 1
  | .iface _ d => uptoBulk d + 1
  | .map entries => uptoBulkEntries entries + 1
  | .held _ => 1
def uptoBulkAll {H : Type} : List (DataW H) → Nat
  | [] => 0
  | d :: r => uptoBulk d + uptoBulkAll r
def uptoBulkEntries {H : Type} : List (Lit × DataW H) → Nat
  | [] => 0
  | x :: r => uptoBulkEntry x + uptoBulkEntries r
def uptoBulkEntry {H : Type} : Lit × DataW H → Nat
  | (.string bytes, d) => bytes.length + uptoBulk d + 1
  | (_, d) => uptoBulk d + 1
 end
def uptoSmall : (H : Type) → List (DataW H) → Bool := fun _ ds => decide (uptoBulkAll ds ≤ 1048576)
def OpenSpec.upto (s : _root_.Go.ChangeSpec) : _root_.Go.OpenSpec := { _root_.Go.OpenSpec.ofChange s with cond := some uptoSmall }

/-- 'signetlaw15.RollFinds', WHERE WHAT IT READS IS OF BULK AT MOST 1048576: true; the input reads as it did. -/
def rollFindsUptoRow : OpenClaim := { program := "ytonbpekogfaibaa", sum := "f0a3abde809dca8c0127fc85636e2c5fff52fe5f38360c1c5442ac16b10f4d6b", func := "signet/signetlaw15.RollFinds", spec := "rollFinds", inPlace := ["internal/bytealg.IndexByteString", "internal/bytealg.IndexString", "internal/abi.NoEscape", "internal/bytealg.MakeNoZero"], unfollowed := true, recurses := true, named := ["internal/bytealg.MaxLen"], apart := false, narrowed := true }
def RollFindsUptoSaid : Prop := rollFindsUptoRow.holds Try.pinned (OpenSpec.upto rollFindsSpec)

/-- 'signetlaw15.RollGives', WHERE WHAT IT READS IS OF BULK AT MOST 1048576: true; the input reads as it did. -/
def rollGivesUptoRow : OpenClaim := { program := "ytonbpekogfaibaa", sum := "f0a3abde809dca8c0127fc85636e2c5fff52fe5f38360c1c5442ac16b10f4d6b", func := "signet/signetlaw15.RollGives", spec := "rollGives", inPlace := ["internal/bytealg.IndexByteString", "internal/bytealg.IndexString", "internal/abi.NoEscape", "internal/bytealg.MakeNoZero"], unfollowed := true, recurses := true, named := ["internal/bytealg.MaxLen"], apart := false, narrowed := true }
def RollGivesUptoSaid : Prop := rollGivesUptoRow.holds Try.pinned (OpenSpec.upto rollGivesSpec)

/-- 'signetlaw15.RollWithin', WHERE WHAT IT READS IS OF BULK AT MOST 1048576: true; the input reads as it did. -/
def rollWithinUptoRow : OpenClaim := { program := "ytonbpekogfaibaa", sum := "f0a3abde809dca8c0127fc85636e2c5fff52fe5f38360c1c5442ac16b10f4d6b", func := "signet/signetlaw15.RollWithin", spec := "rollWithin", inPlace := ["internal/bytealg.IndexByteString", "internal/bytealg.IndexString", "internal/abi.NoEscape", "internal/bytealg.MakeNoZero"], unfollowed := true, recurses := true, named := ["internal/bytealg.MaxLen"], apart := false, narrowed := true }
def RollWithinUptoSaid : Prop := rollWithinUptoRow.holds Try.pinned (OpenSpec.upto rollWithinSpec)

/-- 'signetlaw15.RollKeeps', WHERE WHAT IT READS IS OF BULK AT MOST 1048576: true; the input reads as it did. -/
def rollKeepsUptoRow : OpenClaim := { program := "ytonbpekogfaibaa", sum := "f0a3abde809dca8c0127fc85636e2c5fff52fe5f38360c1c5442ac16b10f4d6b", func := "signet/signetlaw15.RollKeeps", spec := "rollKeeps", inPlace := ["internal/bytealg.IndexByteString", "internal/abi.NoEscape", "internal/bytealg.IndexString", "internal/bytealg.MakeNoZero"], unfollowed := true, recurses := true, named := ["internal/bytealg.MaxLen"], apart := false, narrowed := true }
def RollKeepsUptoSaid : Prop := rollKeepsUptoRow.holds Try.pinned (OpenSpec.upto rollKeepsSpec)

end Rows
end Go.Proofs.Ytonbpekogfaibaa
