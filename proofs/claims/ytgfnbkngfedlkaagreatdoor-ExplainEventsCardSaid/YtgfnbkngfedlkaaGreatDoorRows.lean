/-
  NARROWER THAN 'FOR EVERY INPUT', by the rows' own cells (each row's printed sentence says how): CellLimits: laid · ExplainRefuses: laid · GuardsMany: laid · ExplainEvents: laid · ExplainWords: laid · ExplainPermits: laid · ExplainTexts: laid · ExplainRuns: laid · ExplainStates: laid · ExplainStuck: laid · GuardsRefuses: laid.
  DERIVED. THE GIVEN ROWS OF THIS SEAT. 11 by the template 'for every input the law returns true; each argument reads behind the call as it read before'; 0 by the template 'total and deterministic' (their statements: YtgfnbkngfedlkaaGreatDoorTotals.lean).
  GIVEN WITH THE SEED: the statements are not yours to turn. If you find one false, say at which input.
  Laid BY PROGRAM, IN A SANDBOX (cutbox-rows.mjs): the forced cells as the released guide's own fill.sh prints them over the translation 33cec2445f694317… (all of the seat's roots in one cut). By AI agents, Wed Nov 11 2026. No macro, syntax, notation, axiom, sorry.
-/
import Derived.Test.YtgfnbkngfedlkaaGreatDoorChecked
import GoSem.Claim
import GoSem.ClaimJoined
import GoSem.ClaimMapViews
import Derived.JoinedTies
import Derived.KernelRfl
namespace Go.Proofs.YtgfnbkngfedlkaaGreatDoor
/- THE CELL 'sum', in the pinned program and in every row, IS THE sha256 OF THE DUMP (.gsa) THAT YtgfnbkngfedlkaaGreatDoorProg.lean LOADS. Nothing in Lean hashes anything: it is a label: what it is worth is what the hold of that sum in a sandbox is worth. -/
noncomputable def Tryz.pinned : Pinned := { name := "ytgfnbkngfedlkaagreatdoor", sum := "33cec2445f694317a6f12d2a35d7c2f8cb90f472e1c6c640a2f2f5b0abc3802d", checked := Tryz.checked }
namespace Rows
def none {H : Type} : Left H := { results := [], args := [] }

/- WHAT THE LISTED PACKAGE-LEVEL VARIABLES READ AS WHEN THE CALL BEGINS. Each datum BY PROGRAM (the guide's laid-datum.mjs) off the statement by which the dump's own 'gosem.cut.vars' lays the variable. In a bare row this is a premise. The card (YtgfnbkngfedlkaaGreatDoorCards.lean) ties it to the program's text. -/
def laid_math_bits_deBruijn32tab {H : Type} : DataW H := .agg [.lit (.int .u8 0), .lit (.int .u8 1), .lit (.int .u8 28), .lit (.int .u8 2), .lit (.int .u8 29), .lit (.int .u8 14), .lit (.int .u8 24), .lit (.int .u8 3), .lit (.int .u8 30), .lit (.int .u8 22), .lit (.int .u8 20), .lit (.int .u8 15), .lit (.int .u8 25), .lit (.int .u8 17), .lit (.int .u8 4), .lit (.int .u8 8), .lit (.int .u8 31), .lit (.int .u8 27), .lit (.int .u8 13), .lit (.int .u8 23), .lit (.int .u8 21), .lit (.int .u8 19), .lit (.int .u8 16), .lit (.int .u8 7), .lit (.int .u8 26), .lit (.int .u8 12), .lit (.int .u8 18), .lit (.int .u8 6), .lit (.int .u8 11), .lit (.int .u8 5), .lit (.int .u8 10), .lit (.int .u8 9)]
def laid_math_bits_deBruijn64tab {H : Type} : DataW H := .agg [.lit (.int .u8 0), .lit (.int .u8 1), .lit (.int .u8 56), .lit (.int .u8 2), .lit (.int .u8 57), .lit (.int .u8 49), .lit (.int .u8 28), .lit (.int .u8 3), .lit (.int .u8 61), .lit (.int .u8 58), .lit (.int .u8 42), .lit (.int .u8 50), .lit (.int .u8 38), .lit (.int .u8 29), .lit (.int .u8 17), .lit (.int .u8 4), .lit (.int .u8 62), .lit (.int .u8 47), .lit (.int .u8 59), .lit (.int .u8 36), .lit (.int .u8 45), .lit (.int .u8 43), .lit (.int .u8 51), .lit (.int .u8 22), .lit (.int .u8 53), .lit (.int .u8 39), .lit (.int .u8 33), .lit (.int .u8 30), .lit (.int .u8 24), .lit (.int .u8 18), .lit (.int .u8 12), .lit (.int .u8 5), .lit (.int .u8 63), .lit (.int .u8 55), .lit (.int .u8 48), .lit (.int .u8 27), .lit (.int .u8 60), .lit (.int .u8 41), .lit (.int .u8 37), .lit (.int .u8 16), .lit (.int .u8 46), .lit (.int .u8 35), .lit (.int .u8 44), .lit (.int .u8 21), .lit (.int .u8 52), .lit (.int .u8 32), .lit (.int .u8 23), .lit (.int .u8 11), .lit (.int .u8 54), .lit (.int .u8 26), .lit (.int .u8 40), .lit (.int .u8 15), .lit (.int .u8 34), .lit (.int .u8 20), .lit (.int .u8 31), .lit (.int .u8 10), .lit (.int .u8 25), .lit (.int .u8 14), .lit (.int .u8 19), .lit (.int .u8 9), .lit (.int .u8 13), .lit (.int .u8 8), .lit (.int .u8 7), .lit (.int .u8 6)]
def laid_internal_strconv_uint64pow10 {H : Type} : DataW H := .agg [.lit (.int .u64 1), .lit (.int .u64 10), .lit (.int .u64 100), .lit (.int .u64 1000), .lit (.int .u64 10000), .lit (.int .u64 100000), .lit (.int .u64 1000000), .lit (.int .u64 10000000), .lit (.int .u64 100000000), .lit (.int .u64 1000000000), .lit (.int .u64 10000000000), .lit (.int .u64 100000000000), .lit (.int .u64 1000000000000), .lit (.int .u64 10000000000000), .lit (.int .u64 100000000000000), .lit (.int .u64 1000000000000000), .lit (.int .u64 10000000000000000), .lit (.int .u64 100000000000000000), .lit (.int .u64 1000000000000000000), .lit (.int .u64 10000000000000000000)]

/-- 'overseerlaw25.CellLimits': WHATEVER THE INPUT: true; the input reads as it did. -/
def cellLimitsSpec : ChangeSpec := { name := "cellLimits", fn := fun _ => fun
  | [d1, d2] => { results := [.lit (.bool true)], args := [d1, d2] }
  | _ => none }
def cellLimitsRow : OpenClaim := { program := "ytgfnbkngfedlkaagreatdoor", sum := "33cec2445f694317a6f12d2a35d7c2f8cb90f472e1c6c640a2f2f5b0abc3802d", func := "overseer/overseerlaw25.CellLimits", spec := "cellLimits", inPlace := ["internal/abi.NoEscape"], unfollowed := true, recurses := true, named := ["internal/strconv.uint64pow10", "math/bits.deBruijn32tab", "math/bits.deBruijn64tab"], plainKeys := false, apart := false, laid := [("math/bits.deBruijn32tab", laid_math_bits_deBruijn32tab), ("math/bits.deBruijn64tab", laid_math_bits_deBruijn64tab), ("internal/strconv.uint64pow10", laid_internal_strconv_uint64pow10)] }
def CellLimitsSaid : Prop := cellLimitsRow.holds Tryz.pinned (OpenSpec.ofChange cellLimitsSpec)

/-- ITS FALSE NEIGHBOUR: 'it returns false'. Refute it at one input. -/
def cellLimitsWrong : ChangeSpec := { name := "cellLimits", fn := fun _ => fun
  | [d1, d2] => { results := [.lit (.bool false)], args := [d1, d2] }
  | _ => none }
def CellLimitsWrongFalsely : Prop := cellLimitsRow.holds Tryz.pinned (OpenSpec.ofChange cellLimitsWrong)

/-- 'overseerlaw57.ExplainRefuses': WHATEVER THE INPUT: true; the input reads as it did. -/
def explainRefusesSpec : ChangeSpec := { name := "explainRefuses", fn := fun _ => fun
  | [d] => { results := [.lit (.bool true)], args := [d] }
  | _ => none }
def explainRefusesRow : OpenClaim := { program := "ytgfnbkngfedlkaagreatdoor", sum := "33cec2445f694317a6f12d2a35d7c2f8cb90f472e1c6c640a2f2f5b0abc3802d", func := "overseer/overseerlaw57.ExplainRefuses", spec := "explainRefuses", inPlace := ["internal/abi.NoEscape", "internal/bytealg.MakeNoZero"], unfollowed := true, recurses := true, named := ["internal/strconv.uint64pow10", "math/bits.deBruijn32tab", "math/bits.deBruijn64tab"], plainKeys := false, apart := false, laid := [("math/bits.deBruijn32tab", laid_math_bits_deBruijn32tab), ("math/bits.deBruijn64tab", laid_math_bits_deBruijn64tab), ("internal/strconv.uint64pow10", laid_internal_strconv_uint64pow10)] }
def ExplainRefusesSaid : Prop := explainRefusesRow.holds Tryz.pinned (OpenSpec.ofChange explainRefusesSpec)

/-- ITS FALSE NEIGHBOUR: 'it returns false'. Refute it at one input. -/
def explainRefusesWrong : ChangeSpec := { name := "explainRefuses", fn := fun _ => fun
  | [d] => { results := [.lit (.bool false)], args := [d] }
  | _ => none }
def ExplainRefusesWrongFalsely : Prop := explainRefusesRow.holds Tryz.pinned (OpenSpec.ofChange explainRefusesWrong)

/-- 'overseerlaw31.GuardsMany': WHATEVER THE INPUT: true; the input reads as it did. -/
def guardsManySpec : ChangeSpec := { name := "guardsMany", fn := fun _ => fun
  | [d] => { results := [.lit (.bool true)], args := [d] }
  | _ => none }
def guardsManyRow : OpenClaim := { program := "ytgfnbkngfedlkaagreatdoor", sum := "33cec2445f694317a6f12d2a35d7c2f8cb90f472e1c6c640a2f2f5b0abc3802d", func := "overseer/overseerlaw31.GuardsMany", spec := "guardsMany", inPlace := ["internal/abi.NoEscape"], unfollowed := true, recurses := true, named := ["internal/strconv.uint64pow10", "math/bits.deBruijn32tab", "math/bits.deBruijn64tab"], plainKeys := false, apart := false, laid := [("math/bits.deBruijn32tab", laid_math_bits_deBruijn32tab), ("math/bits.deBruijn64tab", laid_math_bits_deBruijn64tab), ("internal/strconv.uint64pow10", laid_internal_strconv_uint64pow10)] }
def GuardsManySaid : Prop := guardsManyRow.holds Tryz.pinned (OpenSpec.ofChange guardsManySpec)

/-- ITS FALSE NEIGHBOUR: 'it returns false'. Refute it at one input. -/
def guardsManyWrong : ChangeSpec := { name := "guardsMany", fn := fun _ => fun
  | [d] => { results := [.lit (.bool false)], args := [d] }
  | _ => none }
def GuardsManyWrongFalsely : Prop := guardsManyRow.holds Tryz.pinned (OpenSpec.ofChange guardsManyWrong)

/-- 'overseerlaw57.ExplainEvents': WHATEVER THE INPUT: true; the input reads as it did. -/
def explainEventsSpec : ChangeSpec := { name := "explainEvents", fn := fun _ => fun
  | [d1, d2, d3] => { results := [.lit (.bool true)], args := [d1, d2, d3] }
  | _ => none }
def explainEventsRow : OpenClaim := { program := "ytgfnbkngfedlkaagreatdoor", sum := "33cec2445f694317a6f12d2a35d7c2f8cb90f472e1c6c640a2f2f5b0abc3802d", func := "overseer/overseerlaw57.ExplainEvents", spec := "explainEvents", inPlace := ["internal/abi.NoEscape", "internal/bytealg.MakeNoZero"], unfollowed := true, recurses := true, named := ["internal/strconv.uint64pow10", "math/bits.deBruijn32tab", "math/bits.deBruijn64tab"], plainKeys := false, apart := false, laid := [("math/bits.deBruijn32tab", laid_math_bits_deBruijn32tab), ("math/bits.deBruijn64tab", laid_math_bits_deBruijn64tab), ("internal/strconv.uint64pow10", laid_internal_strconv_uint64pow10)] }
def ExplainEventsSaid : Prop := explainEventsRow.holds Tryz.pinned (OpenSpec.ofChange explainEventsSpec)

/-- ITS FALSE NEIGHBOUR: 'it returns false'. Refute it at one input. -/
def explainEventsWrong : ChangeSpec := { name := "explainEvents", fn := fun _ => fun
  | [d1, d2, d3] => { results := [.lit (.bool false)], args := [d1, d2, d3] }
  | _ => none }
def ExplainEventsWrongFalsely : Prop := explainEventsRow.holds Tryz.pinned (OpenSpec.ofChange explainEventsWrong)

/-- 'overseerlaw57.ExplainWords': WHATEVER THE INPUT: true; the input reads as it did. -/
def explainWordsSpec : ChangeSpec := { name := "explainWords", fn := fun _ => fun
  | [d1, d2] => { results := [.lit (.bool true)], args := [d1, d2] }
  | _ => none }
def explainWordsRow : OpenClaim := { program := "ytgfnbkngfedlkaagreatdoor", sum := "33cec2445f694317a6f12d2a35d7c2f8cb90f472e1c6c640a2f2f5b0abc3802d", func := "overseer/overseerlaw57.ExplainWords", spec := "explainWords", inPlace := ["internal/abi.NoEscape", "internal/bytealg.MakeNoZero"], unfollowed := true, recurses := true, named := ["internal/strconv.uint64pow10", "math/bits.deBruijn32tab", "math/bits.deBruijn64tab"], plainKeys := false, apart := false, laid := [("math/bits.deBruijn32tab", laid_math_bits_deBruijn32tab), ("math/bits.deBruijn64tab", laid_math_bits_deBruijn64tab), ("internal/strconv.uint64pow10", laid_internal_strconv_uint64pow10)] }
def ExplainWordsSaid : Prop := explainWordsRow.holds Tryz.pinned (OpenSpec.ofChange explainWordsSpec)

/-- ITS FALSE NEIGHBOUR: 'it returns false'. Refute it at one input. -/
def explainWordsWrong : ChangeSpec := { name := "explainWords", fn := fun _ => fun
  | [d1, d2] => { results := [.lit (.bool false)], args := [d1, d2] }
  | _ => none }
def ExplainWordsWrongFalsely : Prop := explainWordsRow.holds Tryz.pinned (OpenSpec.ofChange explainWordsWrong)

/-- 'overseerlaw57.ExplainPermits': WHATEVER THE INPUT: true; the input reads as it did. -/
def explainPermitsSpec : ChangeSpec := { name := "explainPermits", fn := fun _ => fun
  | [d1, d2, d3] => { results := [.lit (.bool true)], args := [d1, d2, d3] }
  | _ => none }
def explainPermitsRow : OpenClaim := { program := "ytgfnbkngfedlkaagreatdoor", sum := "33cec2445f694317a6f12d2a35d7c2f8cb90f472e1c6c640a2f2f5b0abc3802d", func := "overseer/overseerlaw57.ExplainPermits", spec := "explainPermits", inPlace := ["internal/abi.NoEscape", "internal/bytealg.MakeNoZero"], unfollowed := true, recurses := true, named := ["internal/strconv.uint64pow10", "math/bits.deBruijn32tab", "math/bits.deBruijn64tab"], plainKeys := false, apart := false, laid := [("math/bits.deBruijn32tab", laid_math_bits_deBruijn32tab), ("math/bits.deBruijn64tab", laid_math_bits_deBruijn64tab), ("internal/strconv.uint64pow10", laid_internal_strconv_uint64pow10)] }
def ExplainPermitsSaid : Prop := explainPermitsRow.holds Tryz.pinned (OpenSpec.ofChange explainPermitsSpec)

/-- ITS FALSE NEIGHBOUR: 'it returns false'. Refute it at one input. -/
def explainPermitsWrong : ChangeSpec := { name := "explainPermits", fn := fun _ => fun
  | [d1, d2, d3] => { results := [.lit (.bool false)], args := [d1, d2, d3] }
  | _ => none }
def ExplainPermitsWrongFalsely : Prop := explainPermitsRow.holds Tryz.pinned (OpenSpec.ofChange explainPermitsWrong)

/-- 'overseerlaw57.ExplainTexts': WHATEVER THE INPUT: true; the input reads as it did. -/
def explainTextsSpec : ChangeSpec := { name := "explainTexts", fn := fun _ => fun
  | [d1, d2, d3] => { results := [.lit (.bool true)], args := [d1, d2, d3] }
  | _ => none }
def explainTextsRow : OpenClaim := { program := "ytgfnbkngfedlkaagreatdoor", sum := "33cec2445f694317a6f12d2a35d7c2f8cb90f472e1c6c640a2f2f5b0abc3802d", func := "overseer/overseerlaw57.ExplainTexts", spec := "explainTexts", inPlace := ["internal/abi.NoEscape", "internal/bytealg.MakeNoZero"], unfollowed := true, recurses := true, named := ["internal/strconv.uint64pow10", "math/bits.deBruijn32tab", "math/bits.deBruijn64tab"], plainKeys := false, apart := false, laid := [("math/bits.deBruijn32tab", laid_math_bits_deBruijn32tab), ("math/bits.deBruijn64tab", laid_math_bits_deBruijn64tab), ("internal/strconv.uint64pow10", laid_internal_strconv_uint64pow10)] }
def ExplainTextsSaid : Prop := explainTextsRow.holds Tryz.pinned (OpenSpec.ofChange explainTextsSpec)

/-- ITS FALSE NEIGHBOUR: 'it returns false'. Refute it at one input. -/
def explainTextsWrong : ChangeSpec := { name := "explainTexts", fn := fun _ => fun
  | [d1, d2, d3] => { results := [.lit (.bool false)], args := [d1, d2, d3] }
  | _ => none }
def ExplainTextsWrongFalsely : Prop := explainTextsRow.holds Tryz.pinned (OpenSpec.ofChange explainTextsWrong)

/-- 'overseerlaw57.ExplainRuns': WHATEVER THE INPUT: true; the input reads as it did. -/
def explainRunsSpec : ChangeSpec := { name := "explainRuns", fn := fun _ => fun
  | [d] => { results := [.lit (.bool true)], args := [d] }
  | _ => none }
def explainRunsRow : OpenClaim := { program := "ytgfnbkngfedlkaagreatdoor", sum := "33cec2445f694317a6f12d2a35d7c2f8cb90f472e1c6c640a2f2f5b0abc3802d", func := "overseer/overseerlaw57.ExplainRuns", spec := "explainRuns", inPlace := ["internal/abi.NoEscape", "internal/bytealg.MakeNoZero"], unfollowed := true, recurses := true, named := ["internal/strconv.uint64pow10", "math/bits.deBruijn32tab", "math/bits.deBruijn64tab"], plainKeys := false, apart := false, laid := [("math/bits.deBruijn32tab", laid_math_bits_deBruijn32tab), ("math/bits.deBruijn64tab", laid_math_bits_deBruijn64tab), ("internal/strconv.uint64pow10", laid_internal_strconv_uint64pow10)] }
def ExplainRunsSaid : Prop := explainRunsRow.holds Tryz.pinned (OpenSpec.ofChange explainRunsSpec)

/-- ITS FALSE NEIGHBOUR: 'it returns false'. Refute it at one input. -/
def explainRunsWrong : ChangeSpec := { name := "explainRuns", fn := fun _ => fun
  | [d] => { results := [.lit (.bool false)], args := [d] }
  | _ => none }
def ExplainRunsWrongFalsely : Prop := explainRunsRow.holds Tryz.pinned (OpenSpec.ofChange explainRunsWrong)

/-- 'overseerlaw57.ExplainStates': WHATEVER THE INPUT: true; the input reads as it did. -/
def explainStatesSpec : ChangeSpec := { name := "explainStates", fn := fun _ => fun
  | [d1, d2] => { results := [.lit (.bool true)], args := [d1, d2] }
  | _ => none }
def explainStatesRow : OpenClaim := { program := "ytgfnbkngfedlkaagreatdoor", sum := "33cec2445f694317a6f12d2a35d7c2f8cb90f472e1c6c640a2f2f5b0abc3802d", func := "overseer/overseerlaw57.ExplainStates", spec := "explainStates", inPlace := ["internal/abi.NoEscape", "internal/bytealg.MakeNoZero"], unfollowed := true, recurses := true, named := ["internal/strconv.uint64pow10", "math/bits.deBruijn32tab", "math/bits.deBruijn64tab"], plainKeys := false, apart := false, laid := [("math/bits.deBruijn32tab", laid_math_bits_deBruijn32tab), ("math/bits.deBruijn64tab", laid_math_bits_deBruijn64tab), ("internal/strconv.uint64pow10", laid_internal_strconv_uint64pow10)] }
def ExplainStatesSaid : Prop := explainStatesRow.holds Tryz.pinned (OpenSpec.ofChange explainStatesSpec)

/-- ITS FALSE NEIGHBOUR: 'it returns false'. Refute it at one input. -/
def explainStatesWrong : ChangeSpec := { name := "explainStates", fn := fun _ => fun
  | [d1, d2] => { results := [.lit (.bool false)], args := [d1, d2] }
  | _ => none }
def ExplainStatesWrongFalsely : Prop := explainStatesRow.holds Tryz.pinned (OpenSpec.ofChange explainStatesWrong)

/-- 'overseerlaw57.ExplainStuck': WHATEVER THE INPUT: true; the input reads as it did. -/
def explainStuckSpec : ChangeSpec := { name := "explainStuck", fn := fun _ => fun
  | [d1, d2] => { results := [.lit (.bool true)], args := [d1, d2] }
  | _ => none }
def explainStuckRow : OpenClaim := { program := "ytgfnbkngfedlkaagreatdoor", sum := "33cec2445f694317a6f12d2a35d7c2f8cb90f472e1c6c640a2f2f5b0abc3802d", func := "overseer/overseerlaw57.ExplainStuck", spec := "explainStuck", inPlace := ["internal/abi.NoEscape", "internal/bytealg.MakeNoZero"], unfollowed := true, recurses := true, named := ["internal/strconv.uint64pow10", "math/bits.deBruijn32tab", "math/bits.deBruijn64tab"], plainKeys := false, apart := false, laid := [("math/bits.deBruijn32tab", laid_math_bits_deBruijn32tab), ("math/bits.deBruijn64tab", laid_math_bits_deBruijn64tab), ("internal/strconv.uint64pow10", laid_internal_strconv_uint64pow10)] }
def ExplainStuckSaid : Prop := explainStuckRow.holds Tryz.pinned (OpenSpec.ofChange explainStuckSpec)

/-- ITS FALSE NEIGHBOUR: 'it returns false'. Refute it at one input. -/
def explainStuckWrong : ChangeSpec := { name := "explainStuck", fn := fun _ => fun
  | [d1, d2] => { results := [.lit (.bool false)], args := [d1, d2] }
  | _ => none }
def ExplainStuckWrongFalsely : Prop := explainStuckRow.holds Tryz.pinned (OpenSpec.ofChange explainStuckWrong)

/-- 'overseerlaw31.GuardsRefuses': WHATEVER THE INPUT: true; the input reads as it did. -/
def guardsRefusesSpec : ChangeSpec := { name := "guardsRefuses", fn := fun _ => fun
  | [d] => { results := [.lit (.bool true)], args := [d] }
  | _ => none }
def guardsRefusesRow : OpenClaim := { program := "ytgfnbkngfedlkaagreatdoor", sum := "33cec2445f694317a6f12d2a35d7c2f8cb90f472e1c6c640a2f2f5b0abc3802d", func := "overseer/overseerlaw31.GuardsRefuses", spec := "guardsRefuses", inPlace := ["internal/abi.NoEscape"], unfollowed := true, recurses := true, named := ["internal/strconv.uint64pow10", "math/bits.deBruijn32tab", "math/bits.deBruijn64tab"], plainKeys := false, apart := false, laid := [("math/bits.deBruijn32tab", laid_math_bits_deBruijn32tab), ("math/bits.deBruijn64tab", laid_math_bits_deBruijn64tab), ("internal/strconv.uint64pow10", laid_internal_strconv_uint64pow10)] }
def GuardsRefusesSaid : Prop := guardsRefusesRow.holds Tryz.pinned (OpenSpec.ofChange guardsRefusesSpec)

/-- ITS FALSE NEIGHBOUR: 'it returns false'. Refute it at one input. -/
def guardsRefusesWrong : ChangeSpec := { name := "guardsRefuses", fn := fun _ => fun
  | [d] => { results := [.lit (.bool false)], args := [d] }
  | _ => none }
def GuardsRefusesWrongFalsely : Prop := guardsRefusesRow.holds Tryz.pinned (OpenSpec.ofChange guardsRefusesWrong)

/- THE SECOND FORM. 'bulk': how many values and letters a reading holds, each counted each time it is reached (what is shared counts as often as it is met; a slice's spare places count too). A statement '..UptoSaid' is the law's where the arguments, and the package variables that the reading takes, are together of bulk at most 1048576: NARROWER than '..Said'. Prove '..Said' where nothing that the law and all that it calls make is longer than what came in: it says more and counts as full. Else prove '..UptoSaid'. A law counts once. -/
mutual
def uptoBulk {H : Type} : DataW H → Nat
  | .lit (.string bytes) => bytes.length + 1
  | .lit _ => 1
  | .nil => 1
  | .ptr d => uptoBulk d + 1
  | .slice elems spare => uptoBulkAll elems + uptoBulkAll spare + 1
  | .agg parts => uptoBulkAll parts + 1
  | .iface _ d => uptoBulk d + 1
  | .map entries => uptoBulkEntries entries + 1
  | .held _ => 1
def uptoBulkAll {H : Type} : List (DataW H) → Nat
  | [] => 0
  | d :: r => uptoBulk d + uptoBulkAll r
def uptoBulkEntries {H : Type} : List (Lit × DataW H) → Nat
  | [] => 0
  | x :: r => uptoBulkEntry x + uptoBulkEntries r
def uptoBulkEntry {H : Type} : Lit × DataW H → Nat
  | (.string bytes, d) => bytes.length + uptoBulk d + 1
  | (_, d) => uptoBulk d + 1
 end
def uptoSmall : (H : Type) → List (DataW H) → Bool := fun _ ds => decide (uptoBulkAll ds ≤ 1048576)
def OpenSpec.upto (s : _root_.Go.ChangeSpec) : _root_.Go.OpenSpec := { _root_.Go.OpenSpec.ofChange s with cond := some uptoSmall }

/-- 'overseerlaw25.CellLimits', WHERE WHAT IT READS IS OF BULK AT MOST 1048576: true; the input reads as it did. -/
def cellLimitsUptoRow : OpenClaim := { program := "ytgfnbkngfedlkaagreatdoor", sum := "33cec2445f694317a6f12d2a35d7c2f8cb90f472e1c6c640a2f2f5b0abc3802d", func := "overseer/overseerlaw25.CellLimits", spec := "cellLimits", inPlace := ["internal/abi.NoEscape"], unfollowed := true, recurses := true, named := ["internal/strconv.uint64pow10", "math/bits.deBruijn32tab", "math/bits.deBruijn64tab"], plainKeys := false, apart := false, laid := [("math/bits.deBruijn32tab", laid_math_bits_deBruijn32tab), ("math/bits.deBruijn64tab", laid_math_bits_deBruijn64tab), ("internal/strconv.uint64pow10", laid_internal_strconv_uint64pow10)], narrowed := true }
def CellLimitsUptoSaid : Prop := cellLimitsUptoRow.holds Tryz.pinned (OpenSpec.upto cellLimitsSpec)

/-- 'overseerlaw57.ExplainRefuses', WHERE WHAT IT READS IS OF BULK AT MOST 1048576: true; the input reads as it did. -/
def explainRefusesUptoRow : OpenClaim := { program := "ytgfnbkngfedlkaagreatdoor", sum := "33cec2445f694317a6f12d2a35d7c2f8cb90f472e1c6c640a2f2f5b0abc3802d", func := "overseer/overseerlaw57.ExplainRefuses", spec := "explainRefuses", inPlace := ["internal/abi.NoEscape", "internal/bytealg.MakeNoZero"], unfollowed := true, recurses := true, named := ["internal/strconv.uint64pow10", "math/bits.deBruijn32tab", "math/bits.deBruijn64tab"], plainKeys := false, apart := false, laid := [("math/bits.deBruijn32tab", laid_math_bits_deBruijn32tab), ("math/bits.deBruijn64tab", laid_math_bits_deBruijn64tab), ("internal/strconv.uint64pow10", laid_internal_strconv_uint64pow10)], narrowed := true }
def ExplainRefusesUptoSaid : Prop := explainRefusesUptoRow.holds Tryz.pinned (OpenSpec.upto explainRefusesSpec)

/-- 'overseerlaw31.GuardsMany', WHERE WHAT IT READS IS OF BULK AT MOST 1048576: true; the input reads as it did. -/
def guardsManyUptoRow : OpenClaim := { program := "ytgfnbkngfedlkaagreatdoor", sum := "33cec2445f694317a6f12d2a35d7c2f8cb90f472e1c6c640a2f2f5b0abc3802d", func := "overseer/overseerlaw31.GuardsMany", spec := "guardsMany", inPlace := ["internal/abi.NoEscape"], unfollowed := true, recurses := true, named := ["internal/strconv.uint64pow10", "math/bits.deBruijn32tab", "math/bits.deBruijn64tab"], plainKeys := false, apart := false, laid := [("math/bits.deBruijn32tab", laid_math_bits_deBruijn32tab), ("math/bits.deBruijn64tab", laid_math_bits_deBruijn64tab), ("internal/strconv.uint64pow10", laid_internal_strconv_uint64pow10)], narrowed := true }
def GuardsManyUptoSaid : Prop := guardsManyUptoRow.holds Tryz.pinned (OpenSpec.upto guardsManySpec)

/-- 'overseerlaw57.ExplainEvents', WHERE WHAT IT READS IS OF BULK AT MOST 1048576: true; the input reads as it did. -/
def explainEventsUptoRow : OpenClaim := { program := "ytgfnbkngfedlkaagreatdoor", sum := "33cec2445f694317a6f12d2a35d7c2f8cb90f472e1c6c640a2f2f5b0abc3802d", func := "overseer/overseerlaw57.ExplainEvents", spec := "explainEvents", inPlace := ["internal/abi.NoEscape", "internal/bytealg.MakeNoZero"], unfollowed := true, recurses := true, named := ["internal/strconv.uint64pow10", "math/bits.deBruijn32tab", "math/bits.deBruijn64tab"], plainKeys := false, apart := false, laid := [("math/bits.deBruijn32tab", laid_math_bits_deBruijn32tab), ("math/bits.deBruijn64tab", laid_math_bits_deBruijn64tab), ("internal/strconv.uint64pow10", laid_internal_strconv_uint64pow10)], narrowed := true }
def ExplainEventsUptoSaid : Prop := explainEventsUptoRow.holds Tryz.pinned (OpenSpec.upto explainEventsSpec)

/-- 'overseerlaw57.ExplainWords', WHERE WHAT IT READS IS OF BULK AT MOST 1048576: true; the input reads as it did. -/
def explainWordsUptoRow : OpenClaim := { program := "ytgfnbkngfedlkaagreatdoor", sum := "33cec2445f694317a6f12d2a35d7c2f8cb90f472e1c6c640a2f2f5b0abc3802d", func := "overseer/overseerlaw57.ExplainWords", spec := "explainWords", inPlace := ["internal/abi.NoEscape", "internal/bytealg.MakeNoZero"], unfollowed := true, recurses := true, named := ["internal/strconv.uint64pow10", "math/bits.deBruijn32tab", "math/bits.deBruijn64tab"], plainKeys := false, apart := false, laid := [("math/bits.deBruijn32tab", laid_math_bits_deBruijn32tab), ("math/bits.deBruijn64tab", laid_math_bits_deBruijn64tab), ("internal/strconv.uint64pow10", laid_internal_strconv_uint64pow10)], narrowed := true }
def ExplainWordsUptoSaid : Prop := explainWordsUptoRow.holds Tryz.pinned (OpenSpec.upto explainWordsSpec)

/-- 'overseerlaw57.ExplainPermits', WHERE WHAT IT READS IS OF BULK AT MOST 1048576: true; the input reads as it did. -/
def explainPermitsUptoRow : OpenClaim := { program := "ytgfnbkngfedlkaagreatdoor", sum := "33cec2445f694317a6f12d2a35d7c2f8cb90f472e1c6c640a2f2f5b0abc3802d", func := "overseer/overseerlaw57.ExplainPermits", spec := "explainPermits", inPlace := ["internal/abi.NoEscape", "internal/bytealg.MakeNoZero"], unfollowed := true, recurses := true, named := ["internal/strconv.uint64pow10", "math/bits.deBruijn32tab", "math/bits.deBruijn64tab"], plainKeys := false, apart := false, laid := [("math/bits.deBruijn32tab", laid_math_bits_deBruijn32tab), ("math/bits.deBruijn64tab", laid_math_bits_deBruijn64tab), ("internal/strconv.uint64pow10", laid_internal_strconv_uint64pow10)], narrowed := true }
def ExplainPermitsUptoSaid : Prop := explainPermitsUptoRow.holds Tryz.pinned (OpenSpec.upto explainPermitsSpec)

/-- 'overseerlaw57.ExplainTexts', WHERE WHAT IT READS IS OF BULK AT MOST 1048576: true; the input reads as it did. -/
def explainTextsUptoRow : OpenClaim := { program := "ytgfnbkngfedlkaagreatdoor", sum := "33cec2445f694317a6f12d2a35d7c2f8cb90f472e1c6c640a2f2f5b0abc3802d", func := "overseer/overseerlaw57.ExplainTexts", spec := "explainTexts", inPlace := ["internal/abi.NoEscape", "internal/bytealg.MakeNoZero"], unfollowed := true, recurses := true, named := ["internal/strconv.uint64pow10", "math/bits.deBruijn32tab", "math/bits.deBruijn64tab"], plainKeys := false, apart := false, laid := [("math/bits.deBruijn32tab", laid_math_bits_deBruijn32tab), ("math/bits.deBruijn64tab", laid_math_bits_deBruijn64tab), ("internal/strconv.uint64pow10", laid_internal_strconv_uint64pow10)], narrowed := true }
def ExplainTextsUptoSaid : Prop := explainTextsUptoRow.holds Tryz.pinned (OpenSpec.upto explainTextsSpec)

/-- 'overseerlaw57.ExplainRuns', WHERE WHAT IT READS IS OF BULK AT MOST 1048576: true; the input reads as it did. -/
def explainRunsUptoRow : OpenClaim := { program := "ytgfnbkngfedlkaagreatdoor", sum := "33cec2445f694317a6f12d2a35d7c2f8cb90f472e1c6c640a2f2f5b0abc3802d", func := "overseer/overseerlaw57.ExplainRuns", spec := "explainRuns", inPlace := ["internal/abi.NoEscape", "internal/bytealg.MakeNoZero"], unfollowed := true, recurses := true, named := ["internal/strconv.uint64pow10", "math/bits.deBruijn32tab", "math/bits.deBruijn64tab"], plainKeys := false, apart := false, laid := [("math/bits.deBruijn32tab", laid_math_bits_deBruijn32tab), ("math/bits.deBruijn64tab", laid_math_bits_deBruijn64tab), ("internal/strconv.uint64pow10", laid_internal_strconv_uint64pow10)], narrowed := true }
def ExplainRunsUptoSaid : Prop := explainRunsUptoRow.holds Tryz.pinned (OpenSpec.upto explainRunsSpec)

/-- 'overseerlaw57.ExplainStates', WHERE WHAT IT READS IS OF BULK AT MOST 1048576: true; the input reads as it did. -/
def explainStatesUptoRow : OpenClaim := { program := "ytgfnbkngfedlkaagreatdoor", sum := "33cec2445f694317a6f12d2a35d7c2f8cb90f472e1c6c640a2f2f5b0abc3802d", func := "overseer/overseerlaw57.ExplainStates", spec := "explainStates", inPlace := ["internal/abi.NoEscape", "internal/bytealg.MakeNoZero"], unfollowed := true, recurses := true, named := ["internal/strconv.uint64pow10", "math/bits.deBruijn32tab", "math/bits.deBruijn64tab"], plainKeys := false, apart := false, laid := [("math/bits.deBruijn32tab", laid_math_bits_deBruijn32tab), ("math/bits.deBruijn64tab", laid_math_bits_deBruijn64tab), ("internal/strconv.uint64pow10", laid_internal_strconv_uint64pow10)], narrowed := true }
def ExplainStatesUptoSaid : Prop := explainStatesUptoRow.holds Tryz.pinned (OpenSpec.upto explainStatesSpec)

/-- 'overseerlaw57.ExplainStuck', WHERE WHAT IT READS IS OF BULK AT MOST 1048576: true; the input reads as it did. -/
def explainStuckUptoRow : OpenClaim := { program := "ytgfnbkngfedlkaagreatdoor", sum := "33cec2445f694317a6f12d2a35d7c2f8cb90f472e1c6c640a2f2f5b0abc3802d", func := "overseer/overseerlaw57.ExplainStuck", spec := "explainStuck", inPlace := ["internal/abi.NoEscape", "internal/bytealg.MakeNoZero"], unfollowed := true, recurses := true, named := ["internal/strconv.uint64pow10", "math/bits.deBruijn32tab", "math/bits.deBruijn64tab"], plainKeys := false, apart := false, laid := [("math/bits.deBruijn32tab", laid_math_bits_deBruijn32tab), ("math/bits.deBruijn64tab", laid_math_bits_deBruijn64tab), ("internal/strconv.uint64pow10", laid_internal_strconv_uint64pow10)], narrowed := true }
def ExplainStuckUptoSaid : Prop := explainStuckUptoRow.holds Tryz.pinned (OpenSpec.upto explainStuckSpec)

/-- 'overseerlaw31.GuardsRefuses', WHERE WHAT IT READS IS OF BULK AT MOST 1048576: true; the input reads as it did. -/
def guardsRefusesUptoRow : OpenClaim := { program := "ytgfnbkngfedlkaagreatdoor", sum := "33cec2445f694317a6f12d2a35d7c2f8cb90f472e1c6c640a2f2f5b0abc3802d", func := "overseer/overseerlaw31.GuardsRefuses", spec := "guardsRefuses", inPlace := ["internal/abi.NoEscape"], unfollowed := true, recurses := true, named := ["internal/strconv.uint64pow10", "math/bits.deBruijn32tab", "math/bits.deBruijn64tab"], plainKeys := false, apart := false, laid := [("math/bits.deBruijn32tab", laid_math_bits_deBruijn32tab), ("math/bits.deBruijn64tab", laid_math_bits_deBruijn64tab), ("internal/strconv.uint64pow10", laid_internal_strconv_uint64pow10)], narrowed := true }
def GuardsRefusesUptoSaid : Prop := guardsRefusesUptoRow.holds Tryz.pinned (OpenSpec.upto guardsRefusesSpec)

end Rows
end Go.Proofs.YtgfnbkngfedlkaaGreatDoor
