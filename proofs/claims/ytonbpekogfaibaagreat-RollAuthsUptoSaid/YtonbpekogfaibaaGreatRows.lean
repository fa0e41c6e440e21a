/-
  No cell of these rows narrows 'for every input' (looked for: loops, veiled, ifaces, maps, wideKeys, modest, calm, conditions, laid).
  DERIVED. THE GIVEN ROWS OF THIS SEAT. 2 by the template 'for every input the law returns true; each argument reads behind the call as it read before'; 0 by the template 'total and deterministic' (their statements: YtonbpekogfaibaaGreatTotals.lean).
  GIVEN WITH THE SEED: the statements are not yours to turn. If you find one false, say at which input.
  Laid BY PROGRAM, IN A SANDBOX (cutbox-rows.mjs): the forced cells as the released guide's own fill.sh prints them over the translation 19780813678b15e3… (all of the seat's roots in one cut). By AI agents, Wed Nov 11 2026. No macro, syntax, notation, axiom, sorry.
-/
import Derived.Test.YtonbpekogfaibaaGreatChecked
import GoSem.Claim
import GoSem.ClaimJoined
import GoSem.ClaimMapViews
import Derived.JoinedTies
import Derived.KernelRfl
namespace Go.Proofs.YtonbpekogfaibaaGreat
/- THE CELL 'sum', in the pinned program and in every row, IS THE sha256 OF THE DUMP (.gsa) THAT YtonbpekogfaibaaGreatProg.lean LOADS. Nothing in Lean hashes anything: it is a label: what it is worth is what the hold of that sum in a sandbox is worth. -/
noncomputable def Tryz.pinned : Pinned := { name := "ytonbpekogfaibaagreat", sum := "19780813678b15e3775929cf080b5eaab227450a181bc0bc2ecc6da8cd6fa4fc", checked := Tryz.checked }
namespace Rows
def none {H : Type} : Left H := { results := [], args := [] }

/-- 'signetlaw15.RollAuths': WHATEVER THE INPUT: true; the input reads as it did. -/
def rollAuthsSpec : ChangeSpec := { name := "rollAuths", fn := fun _ => fun
  | [d1, d2, d3] => { results := [.lit (.bool true)], args := [d1, d2, d3] }
  | _ => none }
def rollAuthsRow : OpenClaim := { program := "ytonbpekogfaibaagreat", sum := "19780813678b15e3775929cf080b5eaab227450a181bc0bc2ecc6da8cd6fa4fc", func := "signet/signetlaw15.RollAuths", spec := "rollAuths", inPlace := ["internal/bytealg.IndexByteString", "internal/bytealg.IndexString", "internal/abi.NoEscape", "internal/bytealg.MakeNoZero"], unfollowed := true, recurses := true, named := ["internal/bytealg.MaxLen"], apart := false }
def RollAuthsSaid : Prop := rollAuthsRow.holds Tryz.pinned (OpenSpec.ofChange rollAuthsSpec)

/-- ITS FALSE NEIGHBOUR: 'it returns false'. Refute it at one input. -/
def rollAuthsWrong : ChangeSpec := { name := "rollAuths", fn := fun _ => fun
  | [d1, d2, d3] => { results := [.lit (.bool false)], args := [d1, d2, d3] }
  | _ => none }
def RollAuthsWrongFalsely : Prop := rollAuthsRow.holds Tryz.pinned (OpenSpec.ofChange rollAuthsWrong)

/-- 'signetlaw15.RollHeaders': WHATEVER THE INPUT: true; the input reads as it did. -/
def rollHeadersSpec : ChangeSpec := { name := "rollHeaders", fn := fun _ => fun
  | [d1, d2, d3] => { results := [.lit (.bool true)], args := [d1, d2, d3] }
  | _ => none }
def rollHeadersRow : OpenClaim := { program := "ytonbpekogfaibaagreat", sum := "19780813678b15e3775929cf080b5eaab227450a181bc0bc2ecc6da8cd6fa4fc", func := "signet/signetlaw15.RollHeaders", spec := "rollHeaders", inPlace := ["internal/bytealg.IndexByteString", "internal/abi.NoEscape", "internal/bytealg.IndexString", "internal/bytealg.MakeNoZero"], unfollowed := true, recurses := true, named := ["internal/bytealg.MaxLen"], apart := false }
def RollHeadersSaid : Prop := rollHeadersRow.holds Tryz.pinned (OpenSpec.ofChange rollHeadersSpec)

/-- ITS FALSE NEIGHBOUR: 'it returns false'. Refute it at one input. -/
def rollHeadersWrong : ChangeSpec := { name := "rollHeaders", fn := fun _ => fun
  | [d1, d2, d3] => { results := [.lit (.bool false)], args := [d1, d2, d3] }
  | _ => none }
def RollHeadersWrongFalsely : Prop := rollHeadersRow.holds Tryz.pinned (OpenSpec.ofChange rollHeadersWrong)

/- THE SECOND FORM. 'bulk': how many values and letters a reading holds, each counted each time it is reached (what is shared counts as often as it is met; a slice's spare places count too). A statement '..UptoSaid' is the law's where the arguments, and the package variables that the reading takes, are together of bulk at most 1048576: NARROWER than '..Said'. Prove '..Said' where nothing that the law and all that it calls make is longer than what came in: it says more and counts as full. Else prove '..UptoSaid'. A law counts once. -/
mutual
def uptoBulk {H : Type} : DataW H → Nat
  | .lit (.string bytes) => bytes.length + 1
  | .lit _ => 1
  | .nil => 1
  | .ptr d => uptoBulk d + 1
  | .slice elems spare => uptoBulkAll elems + uptoBulkAll spare + 1
  | .agg parts => uptoBulkAll parts + 1
  | .iface _ d => uptoBulk d + 1
  | .map entries => uptoBulkEntries entries + 1
  | .held _ => 1
def uptoBulkAll {H : Type} : List (DataW H) → Nat
  | [] => 0
  | d :: r => uptoBulk d + uptoBulkAll r
def uptoBulkEntries {H : Type} : List (Lit × DataW H) → Nat
  | [] => 0
  | x :: r => uptoBulkEntry x + uptoBulkEntries r
def uptoBulkEntry {H : Type} : Lit × DataW H → Nat
  | (.string bytes, d) => bytes.length + uptoBulk d + 1
  | (_, d) => uptoBulk d + 1
 end
def uptoSmall : (H : Type) → List (DataW H) → Bool := fun _ ds => decide (uptoBulkAll ds ≤ 1048576)
def OpenSpec.upto (s : _root_.Go.ChangeSpec) : _root_.Go.OpenSpec := { _root_.Go.OpenSpec.ofChange s with cond := some uptoSmall }

/-- 'signetlaw15.RollAuths', WHERE WHAT IT READS IS OF BULK AT MOST 1048576: true; the input reads as it did. -/
def rollAuthsUptoRow : OpenClaim := { program := "ytonbpekogfaibaagreat", sum := "19780813678b15e3775929cf080b5eaab227450a181bc0bc2ecc6da8cd6fa4fc", func := "signet/signetlaw15.RollAuths", spec := "rollAuths", inPlace := ["internal/bytealg.IndexByteString", "internal/bytealg.IndexString", "internal/abi.NoEscape", "internal/bytealg.MakeNoZero"], unfollowed := true, recurses := true, named := ["internal/bytealg.MaxLen"], apart := false, narrowed := true }
def RollAuthsUptoSaid : Prop := rollAuthsUptoRow.holds Tryz.pinned (OpenSpec.upto rollAuthsSpec)

/-- 'signetlaw15.RollHeaders', WHERE WHAT IT READS IS OF BULK AT MOST 1048576: true; the input reads as it did. -/
def rollHeadersUptoRow : OpenClaim := { program := "ytonbpekogfaibaagreat", sum := "19780813678b15e3775929cf080b5eaab227450a181bc0bc2ecc6da8cd6fa4fc", func := "signet/signetlaw15.RollHeaders", spec := "rollHeaders", inPlace := ["internal/bytealg.IndexByteString", "internal/abi.NoEscape", "internal/bytealg.IndexString", "internal/bytealg.MakeNoZero"], unfollowed := true, recurses := true, named := ["internal/bytealg.MaxLen"], apart := false, narrowed := true }
def RollHeadersUptoSaid : Prop := rollHeadersUptoRow.holds Tryz.pinned (OpenSpec.upto rollHeadersSpec)

end Rows
end Go.Proofs.YtonbpekogfaibaaGreat
