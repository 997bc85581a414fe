/-
  No cell of these rows narrows 'for every input' (looked for: loops, veiled, ifaces, maps, wideKeys, modest, calm, conditions, laid).
  DERIVED. THE GIVEN ROWS OF THIS SEAT. 9 by the template 'for every input the law returns true; each argument reads behind the call as it read before'; 0 by the template 'total and deterministic' (their statements: YteaeobmbfhaklaaTotals.lean).
  GIVEN WITH THE SEED: the statements are not yours to turn. If you find one false, say at which input.
  Laid BY PROGRAM, IN A SANDBOX (cutbox-rows.mjs): the forced cells as the released guide's own fill.sh prints them over the translation 233b474785cc5c60… (all of the seat's roots in one cut). By AI agents, Wed Nov 11 2026. No macro, syntax, notation, axiom, sorry.
-/
import Derived.Test.YteaeobmbfhaklaaChecked
import GoSem.Claim
import GoSem.ClaimJoined
import GoSem.ClaimMapViews
import Derived.JoinedTies
import Derived.KernelRfl
namespace Go.Proofs.Yteaeobmbfhaklaa
/- THE CELL 'sum', in the pinned program and in every row, IS THE sha256 OF THE DUMP (.gsa) THAT YteaeobmbfhaklaaProg.lean LOADS. Nothing in Lean hashes anything: it is a label: what it is worth is what the hold of that sum in a sandbox is worth. -/
noncomputable def Try.pinned : Pinned := { name := "yteaeobmbfhaklaa", sum := "233b474785cc5c60128e03211df32c98e9e35041b3c17e9eae82c1c2b18d4008", checked := Try.checked }
namespace Rows
def none {H : Type} : Left H := { results := [], args := [] }

/-- 'overseerlaw48.InvariantMinimal': WHATEVER THE INPUT: true; the input reads as it did. -/
def invariantMinimalSpec : ChangeSpec := { name := "invariantMinimal", fn := fun _ => fun
  | [d1, d2] => { results := [.lit (.bool true)], args := [d1, d2] }
  | _ => none }
def invariantMinimalRow : OpenClaim := { program := "yteaeobmbfhaklaa", sum := "233b474785cc5c60128e03211df32c98e9e35041b3c17e9eae82c1c2b18d4008", func := "overseer/overseerlaw48.InvariantMinimal", spec := "invariantMinimal", inPlace := ["math/bits.Add64", "math/bits.Sub64"], unfollowed := true, recurses := true, named := ["math/bits.divideError", "math/bits.overflowError"], apart := false }
def InvariantMinimalSaid : Prop := invariantMinimalRow.holds Try.pinned (OpenSpec.ofChange invariantMinimalSpec)

/-- ITS FALSE NEIGHBOUR: 'it returns false'. Refute it at one input. -/
def invariantMinimalWrong : ChangeSpec := { name := "invariantMinimal", fn := fun _ => fun
  | [d1, d2] => { results := [.lit (.bool false)], args := [d1, d2] }
  | _ => none }
def InvariantMinimalWrongFalsely : Prop := invariantMinimalRow.holds Try.pinned (OpenSpec.ofChange invariantMinimalWrong)

/-- 'overseerlaw48.InvariantBounds': WHATEVER THE INPUT: true; the input reads as it did. -/
def invariantBoundsSpec : ChangeSpec := { name := "invariantBounds", fn := fun _ => fun
  | [d1, d2, d3] => { results := [.lit (.bool true)], args := [d1, d2, d3] }
  | _ => none }
def invariantBoundsRow : OpenClaim := { program := "yteaeobmbfhaklaa", sum := "233b474785cc5c60128e03211df32c98e9e35041b3c17e9eae82c1c2b18d4008", func := "overseer/overseerlaw48.InvariantBounds", spec := "invariantBounds", inPlace := ["math/bits.Add64", "math/bits.Sub64"], unfollowed := true, recurses := true, named := ["math/bits.divideError", "math/bits.overflowError"], apart := false }
def InvariantBoundsSaid : Prop := invariantBoundsRow.holds Try.pinned (OpenSpec.ofChange invariantBoundsSpec)

/-- ITS FALSE NEIGHBOUR: 'it returns false'. Refute it at one input. -/
def invariantBoundsWrong : ChangeSpec := { name := "invariantBounds", fn := fun _ => fun
  | [d1, d2, d3] => { results := [.lit (.bool false)], args := [d1, d2, d3] }
  | _ => none }
def InvariantBoundsWrongFalsely : Prop := invariantBoundsRow.holds Try.pinned (OpenSpec.ofChange invariantBoundsWrong)

/-- 'overseerlaw48.InvariantKeeps': WHATEVER THE INPUT: true; the input reads as it did. -/
def invariantKeepsSpec : ChangeSpec := { name := "invariantKeeps", fn := fun _ => fun
  | [d1, d2] => { results := [.lit (.bool true)], args := [d1, d2] }
  | _ => none }
def invariantKeepsRow : OpenClaim := { program := "yteaeobmbfhaklaa", sum := "233b474785cc5c60128e03211df32c98e9e35041b3c17e9eae82c1c2b18d4008", func := "overseer/overseerlaw48.InvariantKeeps", spec := "invariantKeeps", inPlace := ["math/bits.Add64", "math/bits.Sub64"], unfollowed := true, recurses := true, named := ["math/bits.divideError", "math/bits.overflowError"], apart := false }
def InvariantKeepsSaid : Prop := invariantKeepsRow.holds Try.pinned (OpenSpec.ofChange invariantKeepsSpec)

/-- ITS FALSE NEIGHBOUR: 'it returns false'. Refute it at one input. -/
def invariantKeepsWrong : ChangeSpec := { name := "invariantKeeps", fn := fun _ => fun
  | [d1, d2] => { results := [.lit (.bool false)], args := [d1, d2] }
  | _ => none }
def InvariantKeepsWrongFalsely : Prop := invariantKeepsRow.holds Try.pinned (OpenSpec.ofChange invariantKeepsWrong)

/-- 'overseerlaw48.InvariantTurns': WHATEVER THE INPUT: true; the input reads as it did. -/
def invariantTurnsSpec : ChangeSpec := { name := "invariantTurns", fn := fun _ => fun
  | [d] => { results := [.lit (.bool true)], args := [d] }
  | _ => none }
def invariantTurnsRow : OpenClaim := { program := "yteaeobmbfhaklaa", sum := "233b474785cc5c60128e03211df32c98e9e35041b3c17e9eae82c1c2b18d4008", func := "overseer/overseerlaw48.InvariantTurns", spec := "invariantTurns", inPlace := ["math/bits.Add64", "math/bits.Sub64"], unfollowed := true, recurses := true, named := ["math/bits.divideError", "math/bits.overflowError"], apart := false }
def InvariantTurnsSaid : Prop := invariantTurnsRow.holds Try.pinned (OpenSpec.ofChange invariantTurnsSpec)

/-- ITS FALSE NEIGHBOUR: 'it returns false'. Refute it at one input. -/
def invariantTurnsWrong : ChangeSpec := { name := "invariantTurns", fn := fun _ => fun
  | [d] => { results := [.lit (.bool false)], args := [d] }
  | _ => none }
def InvariantTurnsWrongFalsely : Prop := invariantTurnsRow.holds Try.pinned (OpenSpec.ofChange invariantTurnsWrong)

/-- 'overseerlaw48.InvariantIncidence': WHATEVER THE INPUT: true; the input reads as it did. -/
def invariantIncidenceSpec : ChangeSpec := { name := "invariantIncidence", fn := fun _ => fun
  | [d1, d2, d3] => { results := [.lit (.bool true)], args := [d1, d2, d3] }
  | _ => none }
def invariantIncidenceRow : OpenClaim := { program := "yteaeobmbfhaklaa", sum := "233b474785cc5c60128e03211df32c98e9e35041b3c17e9eae82c1c2b18d4008", func := "overseer/overseerlaw48.InvariantIncidence", spec := "invariantIncidence", inPlace := ["math/bits.Add64", "math/bits.Sub64"], unfollowed := true, recurses := true, named := ["math/bits.divideError", "math/bits.overflowError"], apart := false }
def InvariantIncidenceSaid : Prop := invariantIncidenceRow.holds Try.pinned (OpenSpec.ofChange invariantIncidenceSpec)

/-- ITS FALSE NEIGHBOUR: 'it returns false'. Refute it at one input. -/
def invariantIncidenceWrong : ChangeSpec := { name := "invariantIncidence", fn := fun _ => fun
  | [d1, d2, d3] => { results := [.lit (.bool false)], args := [d1, d2, d3] }
  | _ => none }
def InvariantIncidenceWrongFalsely : Prop := invariantIncidenceRow.holds Try.pinned (OpenSpec.ofChange invariantIncidenceWrong)

/-- 'overseerlaw48.InvariantValues': WHATEVER THE INPUT: true; the input reads as it did. -/
def invariantValuesSpec : ChangeSpec := { name := "invariantValues", fn := fun _ => fun
  | [d1, d2] => { results := [.lit (.bool true)], args := [d1, d2] }
  | _ => none }
def invariantValuesRow : OpenClaim := { program := "yteaeobmbfhaklaa", sum := "233b474785cc5c60128e03211df32c98e9e35041b3c17e9eae82c1c2b18d4008", func := "overseer/overseerlaw48.InvariantValues", spec := "invariantValues", inPlace := ["math/bits.Add64", "math/bits.Sub64"], unfollowed := true, recurses := true, named := ["math/bits.divideError", "math/bits.overflowError"], apart := false }
def InvariantValuesSaid : Prop := invariantValuesRow.holds Try.pinned (OpenSpec.ofChange invariantValuesSpec)

/-- ITS FALSE NEIGHBOUR: 'it returns false'. Refute it at one input. -/
def invariantValuesWrong : ChangeSpec := { name := "invariantValues", fn := fun _ => fun
  | [d1, d2] => { results := [.lit (.bool false)], args := [d1, d2] }
  | _ => none }
def InvariantValuesWrongFalsely : Prop := invariantValuesRow.holds Try.pinned (OpenSpec.ofChange invariantValuesWrong)

/-- 'overseerlaw48.InvariantVerifies': WHATEVER THE INPUT: true; the input reads as it did. -/
def invariantVerifiesSpec : ChangeSpec := { name := "invariantVerifies", fn := fun _ => fun
  | [d1, d2, d3] => { results := [.lit (.bool true)], args := [d1, d2, d3] }
  | _ => none }
def invariantVerifiesRow : OpenClaim := { program := "yteaeobmbfhaklaa", sum := "233b474785cc5c60128e03211df32c98e9e35041b3c17e9eae82c1c2b18d4008", func := "overseer/overseerlaw48.InvariantVerifies", spec := "invariantVerifies", inPlace := ["math/bits.Add64", "math/bits.Sub64"], unfollowed := true, recurses := true, named := ["math/bits.divideError", "math/bits.overflowError"], apart := false }
def InvariantVerifiesSaid : Prop := invariantVerifiesRow.holds Try.pinned (OpenSpec.ofChange invariantVerifiesSpec)

/-- ITS FALSE NEIGHBOUR: 'it returns false'. Refute it at one input. -/
def invariantVerifiesWrong : ChangeSpec := { name := "invariantVerifies", fn := fun _ => fun
  | [d1, d2, d3] => { results := [.lit (.bool false)], args := [d1, d2, d3] }
  | _ => none }
def InvariantVerifiesWrongFalsely : Prop := invariantVerifiesRow.holds Try.pinned (OpenSpec.ofChange invariantVerifiesWrong)

/-- 'overseerlaw48.InvariantCombines': WHATEVER THE INPUT: true; the input reads as it did. -/
def invariantCombinesSpec : ChangeSpec := { name := "invariantCombines", fn := fun _ => fun
  | [d1, d2, d3] => { results := [.lit (.bool true)], args := [d1, d2, d3] }
  | _ => none }
def invariantCombinesRow : OpenClaim := { program := "yteaeobmbfhaklaa", sum := "233b474785cc5c60128e03211df32c98e9e35041b3c17e9eae82c1c2b18d4008", func := "overseer/overseerlaw48.InvariantCombines", spec := "invariantCombines", inPlace := ["math/bits.Add64", "math/bits.Sub64"], unfollowed := true, recurses := true, named := ["math/bits.divideError", "math/bits.overflowError"], apart := false }
def InvariantCombinesSaid : Prop := invariantCombinesRow.holds Try.pinned (OpenSpec.ofChange invariantCombinesSpec)

/-- ITS FALSE NEIGHBOUR: 'it returns false'. Refute it at one input. -/
def invariantCombinesWrong : ChangeSpec := { name := "invariantCombines", fn := fun _ => fun
  | [d1, d2, d3] => { results := [.lit (.bool false)], args := [d1, d2, d3] }
  | _ => none }
def InvariantCombinesWrongFalsely : Prop := invariantCombinesRow.holds Try.pinned (OpenSpec.ofChange invariantCombinesWrong)

/-- 'overseerlaw48.InvariantRefuses': WHATEVER THE INPUT: true; the input reads as it did. -/
def invariantRefusesSpec : ChangeSpec := { name := "invariantRefuses", fn := fun _ => fun
  | [d1, d2, d3] => { results := [.lit (.bool true)], args := [d1, d2, d3] }
  | _ => none }
def invariantRefusesRow : OpenClaim := { program := "yteaeobmbfhaklaa", sum := "233b474785cc5c60128e03211df32c98e9e35041b3c17e9eae82c1c2b18d4008", func := "overseer/overseerlaw48.InvariantRefuses", spec := "invariantRefuses", inPlace := ["math/bits.Add64", "math/bits.Sub64"], unfollowed := true, recurses := true, named := ["math/bits.divideError", "math/bits.overflowError"], apart := false }
def InvariantRefusesSaid : Prop := invariantRefusesRow.holds Try.pinned (OpenSpec.ofChange invariantRefusesSpec)

/-- ITS FALSE NEIGHBOUR: 'it returns false'. Refute it at one input. -/
def invariantRefusesWrong : ChangeSpec := { name := "invariantRefuses", fn := fun _ => fun
  | [d1, d2, d3] => { results := [.lit (.bool false)], args := [d1, d2, d3] }
  | _ => none }
def InvariantRefusesWrongFalsely : Prop := invariantRefusesRow.holds Try.pinned (OpenSpec.ofChange invariantRefusesWrong)

/- THE SECOND FORM. 'bulk': how many values and letters a reading holds, each counted each time it is reached (what is shared counts as often as it is met; a slice's spare places count too). A statement '..UptoSaid' is the law's where the arguments, and the package variables that the reading takes, are together of bulk at most 1048576: NARROWER than '..Said'. Prove '..Said' where nothing that the law and all that it calls make is longer than what came in: it says more and counts as full. Else prove '..UptoSaid'. A law counts once. -/
mutual
def uptoBulk {H : Type} : DataW H → Nat
  | .lit (.string bytes) => bytes.length + 1
  | .lit _ => 1
  | .nil => 1
  | .ptr d => uptoBulk d + 1
  | .slice elems spare => uptoBulkAll elems + uptoBulkAll spare + 1
  | .agg parts => uptoBulkAll parts + 1
  | .iface _ d => uptoBulk d + 1
  | .map entries => uptoBulkEntries entries + 1
  | .held _ => 1
def uptoBulkAll {H : Type} : List (DataW H) → Nat
  | [] => 0
  | d :: r => uptoBulk d + uptoBulkAll r
def uptoBulkEntries {H : Type} : List (Lit × DataW H) → Nat
  | [] => 0
  | x :: r => uptoBulkEntry x + uptoBulkEntries r
def uptoBulkEntry {H : Type} : Lit × DataW H → Nat
  | (.string bytes, d) => bytes.length + uptoBulk d + 1
  | (_, d) => uptoBulk d + 1
 end
def uptoSmall : (H : Type) → List (DataW H) → Bool := fun _ ds => decide (uptoBulkAll ds ≤ 1048576)
def OpenSpec.upto (s : _root_.Go.ChangeSpec) : _root_.Go.OpenSpec := { _root_.Go.OpenSpec.ofChange s with cond := some uptoSmall }

/-- 'overseerlaw48.InvariantMinimal', WHERE WHAT IT READS IS OF BULK AT MOST 1048576: true; the input reads as it did. -/
def invariantMinimalUptoRow : OpenClaim := { program := "yteaeobmbfhaklaa", sum := "233b474785cc5c60128e03211df32c98e9e35041b3c17e9eae82c1c2b18d4008", func := "overseer/overseerlaw48.InvariantMinimal", spec := "invariantMinimal", inPlace := ["math/bits.Add64", "math/bits.Sub64"], unfollowed := true, recurses := true, named := ["math/bits.divideError", "math/bits.overflowError"], apart := false, narrowed := true }
def InvariantMinimalUptoSaid : Prop := invariantMinimalUptoRow.holds Try.pinned (OpenSpec.upto invariantMinimalSpec)

/-- 'overseerlaw48.InvariantBounds', WHERE WHAT IT READS IS OF BULK AT MOST 1048576: true; the input reads as it did. -/
def invariantBoundsUptoRow : OpenClaim := { program := "yteaeobmbfhaklaa", sum := "233b474785cc5c60128e03211df32c98e9e35041b3c17e9eae82c1c2b18d4008", func := "overseer/overseerlaw48.InvariantBounds", spec := "invariantBounds", inPlace := ["math/bits.Add64", "math/bits.Sub64"], unfollowed := true, recurses := true, named := ["math/bits.divideError", "math/bits.overflowError"], apart := false, narrowed := true }
def InvariantBoundsUptoSaid : Prop := invariantBoundsUptoRow.holds Try.pinned (OpenSpec.upto invariantBoundsSpec)

/-- 'overseerlaw48.InvariantKeeps', WHERE WHAT IT READS IS OF BULK AT MOST 1048576: true; the input reads as it did. -/
def invariantKeepsUptoRow : OpenClaim := { program := "yteaeobmbfhaklaa", sum := "233b474785cc5c60128e03211df32c98e9e35041b3c17e9eae82c1c2b18d4008", func := "overseer/overseerlaw48.InvariantKeeps", spec := "invariantKeeps", inPlace := ["math/bits.Add64", "math/bits.Sub64"], unfollowed := true, recurses := true, named := ["math/bits.divideError", "math/bits.overflowError"], apart := false, narrowed := true }
def InvariantKeepsUptoSaid : Prop := invariantKeepsUptoRow.holds Try.pinned (OpenSpec.upto invariantKeepsSpec)

/-- 'overseerlaw48.InvariantTurns', WHERE WHAT IT READS IS OF BULK AT MOST 1048576: true; the input reads as it did. -/
def invariantTurnsUptoRow : OpenClaim := { program := "yteaeobmbfhaklaa", sum := "233b474785cc5c60128e03211df32c98e9e35041b3c17e9eae82c1c2b18d4008", func := "overseer/overseerlaw48.InvariantTurns", spec := "invariantTurns", inPlace := ["math/bits.Add64", "math/bits.Sub64"], unfollowed := true, recurses := true, named := ["math/bits.divideError", "math/bits.overflowError"], apart := false, narrowed := true }
def InvariantTurnsUptoSaid : Prop := invariantTurnsUptoRow.holds Try.pinned (OpenSpec.upto invariantTurnsSpec)

/-- 'overseerlaw48.InvariantIncidence', WHERE WHAT IT READS IS OF BULK AT MOST 1048576: true; the input reads as it did. -/
def invariantIncidenceUptoRow : OpenClaim := { program := "yteaeobmbfhaklaa", sum := "233b474785cc5c60128e03211df32c98e9e35041b3c17e9eae82c1c2b18d4008", func := "overseer/overseerlaw48.InvariantIncidence", spec := "invariantIncidence", inPlace := ["math/bits.Add64", "math/bits.Sub64"], unfollowed := true, recurses := true, named := ["math/bits.divideError", "math/bits.overflowError"], apart := false, narrowed := true }
def InvariantIncidenceUptoSaid : Prop := invariantIncidenceUptoRow.holds Try.pinned (OpenSpec.upto invariantIncidenceSpec)

/-- 'overseerlaw48.InvariantValues', WHERE WHAT IT READS IS OF BULK AT MOST 1048576: true; the input reads as it did. -/
def invariantValuesUptoRow : OpenClaim := { program := "yteaeobmbfhaklaa", sum := "233b474785cc5c60128e03211df32c98e9e35041b3c17e9eae82c1c2b18d4008", func := "overseer/overseerlaw48.InvariantValues", spec := "invariantValues", inPlace := ["math/bits.Add64", "math/bits.Sub64"], unfollowed := true, recurses := true, named := ["math/bits.divideError", "math/bits.overflowError"], apart := false, narrowed := true }
def InvariantValuesUptoSaid : Prop := invariantValuesUptoRow.holds Try.pinned (OpenSpec.upto invariantValuesSpec)

/-- 'overseerlaw48.InvariantVerifies', WHERE WHAT IT READS IS OF BULK AT MOST 1048576: true; the input reads as it did. -/
def invariantVerifiesUptoRow : OpenClaim := { program := "yteaeobmbfhaklaa", sum := "233b474785cc5c60128e03211df32c98e9e35041b3c17e9eae82c1c2b18d4008", func := "overseer/overseerlaw48.InvariantVerifies", spec := "invariantVerifies", inPlace := ["math/bits.Add64", "math/bits.Sub64"], unfollowed := true, recurses := true, named := ["math/bits.divideError", "math/bits.overflowError"], apart := false, narrowed := true }
def InvariantVerifiesUptoSaid : Prop := invariantVerifiesUptoRow.holds Try.pinned (OpenSpec.upto invariantVerifiesSpec)

/-- 'overseerlaw48.InvariantCombines', WHERE WHAT IT READS IS OF BULK AT MOST 1048576: true; the input reads as it did. -/
def invariantCombinesUptoRow : OpenClaim := { program := "yteaeobmbfhaklaa", sum := "233b474785cc5c60128e03211df32c98e9e35041b3c17e9eae82c1c2b18d4008", func := "overseer/overseerlaw48.InvariantCombines", spec := "invariantCombines", inPlace := ["math/bits.Add64", "math/bits.Sub64"], unfollowed := true, recurses := true, named := ["math/bits.divideError", "math/bits.overflowError"], apart := false, narrowed := true }
def InvariantCombinesUptoSaid : Prop := invariantCombinesUptoRow.holds Try.pinned (OpenSpec.upto invariantCombinesSpec)

/-- 'overseerlaw48.InvariantRefuses', WHERE WHAT IT READS IS OF BULK AT MOST 1048576: true; the input reads as it did. -/
def invariantRefusesUptoRow : OpenClaim := { program := "yteaeobmbfhaklaa", sum := "233b474785cc5c60128e03211df32c98e9e35041b3c17e9eae82c1c2b18d4008", func := "overseer/overseerlaw48.InvariantRefuses", spec := "invariantRefuses", inPlace := ["math/bits.Add64", "math/bits.Sub64"], unfollowed := true, recurses := true, named := ["math/bits.divideError", "math/bits.overflowError"], apart := false, narrowed := true }
def InvariantRefusesUptoSaid : Prop := invariantRefusesUptoRow.holds Try.pinned (OpenSpec.upto invariantRefusesSpec)

end Rows
end Go.Proofs.Yteaeobmbfhaklaa
