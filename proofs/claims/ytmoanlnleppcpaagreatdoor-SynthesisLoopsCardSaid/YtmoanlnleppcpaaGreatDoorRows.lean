/-
  NARROWER THAN 'FOR EVERY INPUT', by the rows' own cells (each row's printed sentence says how): CellLimits: laid · SynthesisRefuses: laid · CellPlants: laid · CellTouches: laid · CellWords: laid · CellSpecifies: laid · CellCompletes: laid · CellMakes: laid · CellChecks: laid · CellSelects: laid · SynthesisLoops: laid · SynthesisCells: laid.
  DERIVED. THE GIVEN ROWS OF THIS SEAT. 12 by the template 'for every input the law returns true; each argument reads behind the call as it read before'; 0 by the template 'total and deterministic' (their statements: YtmoanlnleppcpaaGreatDoorTotals.lean).
  GIVEN WITH THE SEED: the statements are not yours to turn. If you find one false, say at which input.
  Laid BY PROGRAM, IN A SANDBOX (cutbox-rows.mjs): the forced cells as the released guide's own fill.sh prints them over the translation 320e981686c8efbd… (all of the seat's roots in one cut). By AI agents, Wed Nov 11 2026. No macro, syntax, notation, axiom, sorry.
-/
import Derived.Test.YtmoanlnleppcpaaGreatDoorChecked
import GoSem.Claim
import GoSem.ClaimJoined
import GoSem.ClaimMapViews
import Derived.JoinedTies
import Derived.KernelRfl
namespace Go.Proofs.YtmoanlnleppcpaaGreatDoor
/- THE CELL 'sum', in the pinned program and in every row, IS THE sha256 OF THE DUMP (.gsa) THAT YtmoanlnleppcpaaGreatDoorProg.lean LOADS. Nothing in Lean hashes anything: it is a label: what it is worth is what the hold of that sum in a sandbox is worth. -/
noncomputable def Tryz.pinned : Pinned := { name := "ytmoanlnleppcpaagreatdoor", sum := "320e981686c8efbdbf62f96d8be768c8831718693ff759cad30dad3915618415", checked := Tryz.checked }
namespace Rows
def none {H : Type} : Left H := { results := [], args := [] }

/- WHAT THE LISTED PACKAGE-LEVEL VARIABLES READ AS WHEN THE CALL BEGINS. Each datum BY PROGRAM (the guide's laid-datum.mjs) off the statement by which the dump's own 'gosem.cut.vars' lays the variable. In a bare row this is a premise. The card (YtmoanlnleppcpaaGreatDoorCards.lean) ties it to the program's text. -/
def laid_math_bits_deBruijn32tab {H : Type} : DataW H := .agg [.lit (.int .u8 0), .lit (.int .u8 1), .lit (.int .u8 28), .lit (.int .u8 2), .lit (.int .u8 29), .lit (.int .u8 14), .lit (.int .u8 24), .lit (.int .u8 3), .lit (.int .u8 30), .lit (.int .u8 22), .lit (.int .u8 20), .lit (.int .u8 15), .lit (.int .u8 25), .lit (.int .u8 17), .lit (.int .u8 4), .lit (.int .u8 8), .lit (.int .u8 31), .lit (.int .u8 27), .lit (.int .u8 13), .lit (.int .u8 23), .lit (.int .u8 21), .lit (.int .u8 19), .lit (.int .u8 16), .lit (.int .u8 7), .lit (.int .u8 26), .lit (.int .u8 12), .lit (.int .u8 18), .lit (.int .u8 6), .lit (.int .u8 11), .lit (.int .u8 5), .lit (.int .u8 10), .lit (.int .u8 9)]
def laid_math_bits_deBruijn64tab {H : Type} : DataW H := .agg [.lit (.int .u8 0), .lit (.int .u8 1), .lit (.int .u8 56), .lit (.int .u8 2), .lit (.int .u8 57), .lit (.int .u8 49), .lit (.int .u8 28), .lit (.int .u8 3), .lit (.int .u8 61), .lit (.int .u8 58), .lit (.int .u8 42), .lit (.int .u8 50), .lit (.int .u8 38), .lit (.int .u8 29), .lit (.int .u8 17), .lit (.int .u8 4), .lit (.int .u8 62), .lit (.int .u8 47), .lit (.int .u8 59), .lit (.int .u8 36), .lit (.int .u8 45), .lit (.int .u8 43), .lit (.int .u8 51), .lit (.int .u8 22), .lit (.int .u8 53), .lit (.int .u8 39), .lit (.int .u8 33), .lit (.int .u8 30), .lit (.int .u8 24), .lit (.int .u8 18), .lit (.int .u8 12), .lit (.int .u8 5), .lit (.int .u8 63), .lit (.int .u8 55), .lit (.int .u8 48), .lit (.int .u8 27), .lit (.int .u8 60), .lit (.int .u8 41), .lit (.int .u8 37), .lit (.int .u8 16), .lit (.int .u8 46), .lit (.int .u8 35), .lit (.int .u8 44), .lit (.int .u8 21), .lit (.int .u8 52), .lit (.int .u8 32), .lit (.int .u8 23), .lit (.int .u8 11), .lit (.int .u8 54), .lit (.int .u8 26), .lit (.int .u8 40), .lit (.int .u8 15), .lit (.int .u8 34), .lit (.int .u8 20), .lit (.int .u8 31), .lit (.int .u8 10), .lit (.int .u8 25), .lit (.int .u8 14), .lit (.int .u8 19), .lit (.int .u8 9), .lit (.int .u8 13), .lit (.int .u8 8), .lit (.int .u8 7), .lit (.int .u8 6)]
def laid_internal_strconv_uint64pow10 {H : Type} : DataW H := .agg [.lit (.int .u64 1), .lit (.int .u64 10), .lit (.int .u64 100), .lit (.int .u64 1000), .lit (.int .u64 10000), .lit (.int .u64 100000), .lit (.int .u64 1000000), .lit (.int .u64 10000000), .lit (.int .u64 100000000), .lit (.int .u64 1000000000), .lit (.int .u64 10000000000), .lit (.int .u64 100000000000), .lit (.int .u64 1000000000000), .lit (.int .u64 10000000000000), .lit (.int .u64 100000000000000), .lit (.int .u64 1000000000000000), .lit (.int .u64 10000000000000000), .lit (.int .u64 100000000000000000), .lit (.int .u64 1000000000000000000), .lit (.int .u64 10000000000000000000)]

/-- 'overseerlaw25.CellLimits': WHATEVER THE INPUT: true; the input reads as it did. -/
def cellLimitsSpec : ChangeSpec := { name := "cellLimits", fn := fun _ => fun
  | [d1, d2] => { results := [.lit (.bool true)], args := [d1, d2] }
  | _ => none }
def cellLimitsRow : OpenClaim := { program := "ytmoanlnleppcpaagreatdoor", sum := "320e981686c8efbdbf62f96d8be768c8831718693ff759cad30dad3915618415", func := "overseer/overseerlaw25.CellLimits", spec := "cellLimits", inPlace := ["internal/abi.NoEscape"], unfollowed := true, recurses := true, named := ["internal/strconv.uint64pow10", "math/bits.deBruijn32tab", "math/bits.deBruijn64tab"], plainKeys := false, apart := false, laid := [("math/bits.deBruijn32tab", laid_math_bits_deBruijn32tab), ("math/bits.deBruijn64tab", laid_math_bits_deBruijn64tab), ("internal/strconv.uint64pow10", laid_internal_strconv_uint64pow10)] }
def CellLimitsSaid : Prop := cellLimitsRow.holds Tryz.pinned (OpenSpec.ofChange cellLimitsSpec)

/-- ITS FALSE NEIGHBOUR: 'it returns false'. Refute it at one input. -/
def cellLimitsWrong : ChangeSpec := { name := "cellLimits", fn := fun _ => fun
  | [d1, d2] => { results := [.lit (.bool false)], args := [d1, d2] }
  | _ => none }
def CellLimitsWrongFalsely : Prop := cellLimitsRow.holds Tryz.pinned (OpenSpec.ofChange cellLimitsWrong)

/-- 'overseerlaw27.SynthesisRefuses': WHATEVER THE INPUT: true; the input reads as it did. -/
def synthesisRefusesSpec : ChangeSpec := { name := "synthesisRefuses", fn := fun _ => fun
  | [d] => { results := [.lit (.bool true)], args := [d] }
  | _ => none }
def synthesisRefusesRow : OpenClaim := { program := "ytmoanlnleppcpaagreatdoor", sum := "320e981686c8efbdbf62f96d8be768c8831718693ff759cad30dad3915618415", func := "overseer/overseerlaw27.SynthesisRefuses", spec := "synthesisRefuses", inPlace := ["internal/abi.NoEscape"], unfollowed := true, recurses := true, named := ["internal/strconv.uint64pow10", "math/bits.deBruijn32tab", "math/bits.deBruijn64tab"], plainKeys := false, apart := false, laid := [("math/bits.deBruijn32tab", laid_math_bits_deBruijn32tab), ("math/bits.deBruijn64tab", laid_math_bits_deBruijn64tab), ("internal/strconv.uint64pow10", laid_internal_strconv_uint64pow10)] }
def SynthesisRefusesSaid : Prop := synthesisRefusesRow.holds Tryz.pinned (OpenSpec.ofChange synthesisRefusesSpec)

/-- ITS FALSE NEIGHBOUR: 'it returns false'. Refute it at one input. -/
def synthesisRefusesWrong : ChangeSpec := { name := "synthesisRefuses", fn := fun _ => fun
  | [d] => { results := [.lit (.bool false)], args := [d] }
  | _ => none }
def SynthesisRefusesWrongFalsely : Prop := synthesisRefusesRow.holds Tryz.pinned (OpenSpec.ofChange synthesisRefusesWrong)

/-- 'overseerlaw25.CellPlants': WHATEVER THE INPUT: true; the input reads as it did. -/
def cellPlantsSpec : ChangeSpec := { name := "cellPlants", fn := fun _ => fun
  | [d] => { results := [.lit (.bool true)], args := [d] }
  | _ => none }
def cellPlantsRow : OpenClaim := { program := "ytmoanlnleppcpaagreatdoor", sum := "320e981686c8efbdbf62f96d8be768c8831718693ff759cad30dad3915618415", func := "overseer/overseerlaw25.CellPlants", spec := "cellPlants", inPlace := ["internal/abi.NoEscape"], unfollowed := true, recurses := true, named := ["internal/strconv.uint64pow10", "math/bits.deBruijn32tab", "math/bits.deBruijn64tab"], plainKeys := false, apart := false, laid := [("math/bits.deBruijn32tab", laid_math_bits_deBruijn32tab), ("math/bits.deBruijn64tab", laid_math_bits_deBruijn64tab), ("internal/strconv.uint64pow10", laid_internal_strconv_uint64pow10)] }
def CellPlantsSaid : Prop := cellPlantsRow.holds Tryz.pinned (OpenSpec.ofChange cellPlantsSpec)

/-- ITS FALSE NEIGHBOUR: 'it returns false'. Refute it at one input. -/
def cellPlantsWrong : ChangeSpec := { name := "cellPlants", fn := fun _ => fun
  | [d] => { results := [.lit (.bool false)], args := [d] }
  | _ => none }
def CellPlantsWrongFalsely : Prop := cellPlantsRow.holds Tryz.pinned (OpenSpec.ofChange cellPlantsWrong)

/-- 'overseerlaw25.CellTouches': WHATEVER THE INPUT: true; the input reads as it did. -/
def cellTouchesSpec : ChangeSpec := { name := "cellTouches", fn := fun _ => fun
  | [d1, d2] => { results := [.lit (.bool true)], args := [d1, d2] }
  | _ => none }
def cellTouchesRow : OpenClaim := { program := "ytmoanlnleppcpaagreatdoor", sum := "320e981686c8efbdbf62f96d8be768c8831718693ff759cad30dad3915618415", func := "overseer/overseerlaw25.CellTouches", spec := "cellTouches", inPlace := ["internal/abi.NoEscape"], unfollowed := true, recurses := true, named := ["internal/strconv.uint64pow10", "math/bits.deBruijn32tab", "math/bits.deBruijn64tab"], plainKeys := false, apart := false, laid := [("math/bits.deBruijn32tab", laid_math_bits_deBruijn32tab), ("math/bits.deBruijn64tab", laid_math_bits_deBruijn64tab), ("internal/strconv.uint64pow10", laid_internal_strconv_uint64pow10)] }
def CellTouchesSaid : Prop := cellTouchesRow.holds Tryz.pinned (OpenSpec.ofChange cellTouchesSpec)

/-- ITS FALSE NEIGHBOUR: 'it returns false'. Refute it at one input. -/
def cellTouchesWrong : ChangeSpec := { name := "cellTouches", fn := fun _ => fun
  | [d1, d2] => { results := [.lit (.bool false)], args := [d1, d2] }
  | _ => none }
def CellTouchesWrongFalsely : Prop := cellTouchesRow.holds Tryz.pinned (OpenSpec.ofChange cellTouchesWrong)

/-- 'overseerlaw25.CellWords': WHATEVER THE INPUT: true; the input reads as it did. -/
def cellWordsSpec : ChangeSpec := { name := "cellWords", fn := fun _ => fun
  | [d1, d2] => { results := [.lit (.bool true)], args := [d1, d2] }
  | _ => none }
def cellWordsRow : OpenClaim := { program := "ytmoanlnleppcpaagreatdoor", sum := "320e981686c8efbdbf62f96d8be768c8831718693ff759cad30dad3915618415", func := "overseer/overseerlaw25.CellWords", spec := "cellWords", inPlace := ["internal/abi.NoEscape"], unfollowed := true, recurses := true, named := ["internal/strconv.uint64pow10", "math/bits.deBruijn32tab", "math/bits.deBruijn64tab"], plainKeys := false, apart := false, laid := [("math/bits.deBruijn32tab", laid_math_bits_deBruijn32tab), ("math/bits.deBruijn64tab", laid_math_bits_deBruijn64tab), ("internal/strconv.uint64pow10", laid_internal_strconv_uint64pow10)] }
def CellWordsSaid : Prop := cellWordsRow.holds Tryz.pinned (OpenSpec.ofChange cellWordsSpec)

/-- ITS FALSE NEIGHBOUR: 'it returns false'. Refute it at one input. -/
def cellWordsWrong : ChangeSpec := { name := "cellWords", fn := fun _ => fun
  | [d1, d2] => { results := [.lit (.bool false)], args := [d1, d2] }
  | _ => none }
def CellWordsWrongFalsely : Prop := cellWordsRow.holds Tryz.pinned (OpenSpec.ofChange cellWordsWrong)

/-- 'overseerlaw25.CellSpecifies': WHATEVER THE INPUT: true; the input reads as it did. -/
def cellSpecifiesSpec : ChangeSpec := { name := "cellSpecifies", fn := fun _ => fun
  | [d] => { results := [.lit (.bool true)], args := [d] }
  | _ => none }
def cellSpecifiesRow : OpenClaim := { program := "ytmoanlnleppcpaagreatdoor", sum := "320e981686c8efbdbf62f96d8be768c8831718693ff759cad30dad3915618415", func := "overseer/overseerlaw25.CellSpecifies", spec := "cellSpecifies", inPlace := ["internal/abi.NoEscape"], unfollowed := true, recurses := true, named := ["internal/strconv.uint64pow10", "math/bits.deBruijn32tab", "math/bits.deBruijn64tab"], plainKeys := false, apart := false, laid := [("math/bits.deBruijn32tab", laid_math_bits_deBruijn32tab), ("math/bits.deBruijn64tab", laid_math_bits_deBruijn64tab), ("internal/strconv.uint64pow10", laid_internal_strconv_uint64pow10)] }
def CellSpecifiesSaid : Prop := cellSpecifiesRow.holds Tryz.pinned (OpenSpec.ofChange cellSpecifiesSpec)

/-- ITS FALSE NEIGHBOUR: 'it returns false'. Refute it at one input. -/
def cellSpecifiesWrong : ChangeSpec := { name := "cellSpecifies", fn := fun _ => fun
  | [d] => { results := [.lit (.bool false)], args := [d] }
  | _ => none }
def CellSpecifiesWrongFalsely : Prop := cellSpecifiesRow.holds Tryz.pinned (OpenSpec.ofChange cellSpecifiesWrong)

/-- 'overseerlaw25.CellCompletes': WHATEVER THE INPUT: true; the input reads as it did. -/
def cellCompletesSpec : ChangeSpec := { name := "cellCompletes", fn := fun _ => fun
  | [d] => { results := [.lit (.bool true)], args := [d] }
  | _ => none }
def cellCompletesRow : OpenClaim := { program := "ytmoanlnleppcpaagreatdoor", sum := "320e981686c8efbdbf62f96d8be768c8831718693ff759cad30dad3915618415", func := "overseer/overseerlaw25.CellCompletes", spec := "cellCompletes", inPlace := ["internal/abi.NoEscape"], unfollowed := true, recurses := true, named := ["internal/strconv.uint64pow10", "math/bits.deBruijn32tab", "math/bits.deBruijn64tab"], plainKeys := false, apart := false, laid := [("math/bits.deBruijn32tab", laid_math_bits_deBruijn32tab), ("math/bits.deBruijn64tab", laid_math_bits_deBruijn64tab), ("internal/strconv.uint64pow10", laid_internal_strconv_uint64pow10)] }
def CellCompletesSaid : Prop := cellCompletesRow.holds Tryz.pinned (OpenSpec.ofChange cellCompletesSpec)

/-- ITS FALSE NEIGHBOUR: 'it returns false'. Refute it at one input. -/
def cellCompletesWrong : ChangeSpec := { name := "cellCompletes", fn := fun _ => fun
  | [d] => { results := [.lit (.bool false)], args := [d] }
  | _ => none }
def CellCompletesWrongFalsely : Prop := cellCompletesRow.holds Tryz.pinned (OpenSpec.ofChange cellCompletesWrong)

/-- 'overseerlaw25.CellMakes': WHATEVER THE INPUT: true; the input reads as it did. -/
def cellMakesSpec : ChangeSpec := { name := "cellMakes", fn := fun _ => fun
  | [d1, d2, d3] => { results := [.lit (.bool true)], args := [d1, d2, d3] }
  | _ => none }
def cellMakesRow : OpenClaim := { program := "ytmoanlnleppcpaagreatdoor", sum := "320e981686c8efbdbf62f96d8be768c8831718693ff759cad30dad3915618415", func := "overseer/overseerlaw25.CellMakes", spec := "cellMakes", inPlace := ["internal/abi.NoEscape"], unfollowed := true, recurses := true, named := ["internal/strconv.uint64pow10", "math/bits.deBruijn32tab", "math/bits.deBruijn64tab"], plainKeys := false, apart := false, laid := [("math/bits.deBruijn32tab", laid_math_bits_deBruijn32tab), ("math/bits.deBruijn64tab", laid_math_bits_deBruijn64tab), ("internal/strconv.uint64pow10", laid_internal_strconv_uint64pow10)] }
def CellMakesSaid : Prop := cellMakesRow.holds Tryz.pinned (OpenSpec.ofChange cellMakesSpec)

/-- ITS FALSE NEIGHBOUR: 'it returns false'. Refute it at one input. -/
def cellMakesWrong : ChangeSpec := { name := "cellMakes", fn := fun _ => fun
  | [d1, d2, d3] => { results := [.lit (.bool false)], args := [d1, d2, d3] }
  | _ => none }
def CellMakesWrongFalsely : Prop := cellMakesRow.holds Tryz.pinned (OpenSpec.ofChange cellMakesWrong)

/-- 'overseerlaw25.CellChecks': WHATEVER THE INPUT: true; the input reads as it did. -/
def cellChecksSpec : ChangeSpec := { name := "cellChecks", fn := fun _ => fun
  | [d] => { results := [.lit (.bool true)], args := [d] }
  | _ => none }
def cellChecksRow : OpenClaim := { program := "ytmoanlnleppcpaagreatdoor", sum := "320e981686c8efbdbf62f96d8be768c8831718693ff759cad30dad3915618415", func := "overseer/overseerlaw25.CellChecks", spec := "cellChecks", inPlace := ["internal/abi.NoEscape"], unfollowed := true, recurses := true, named := ["internal/strconv.uint64pow10", "math/bits.deBruijn32tab", "math/bits.deBruijn64tab"], plainKeys := false, apart := false, laid := [("math/bits.deBruijn32tab", laid_math_bits_deBruijn32tab), ("math/bits.deBruijn64tab", laid_math_bits_deBruijn64tab), ("internal/strconv.uint64pow10", laid_internal_strconv_uint64pow10)] }
def CellChecksSaid : Prop := cellChecksRow.holds Tryz.pinned (OpenSpec.ofChange cellChecksSpec)

/-- ITS FALSE NEIGHBOUR: 'it returns false'. Refute it at one input. -/
def cellChecksWrong : ChangeSpec := { name := "cellChecks", fn := fun _ => fun
  | [d] => { results := [.lit (.bool false)], args := [d] }
  | _ => none }
def CellChecksWrongFalsely : Prop := cellChecksRow.holds Tryz.pinned (OpenSpec.ofChange cellChecksWrong)

/-- 'overseerlaw25.CellSelects': WHATEVER THE INPUT: true; the input reads as it did. -/
def cellSelectsSpec : ChangeSpec := { name := "cellSelects", fn := fun _ => fun
  | [d1, d2] => { results := [.lit (.bool true)], args := [d1, d2] }
  | _ => none }
def cellSelectsRow : OpenClaim := { program := "ytmoanlnleppcpaagreatdoor", sum := "320e981686c8efbdbf62f96d8be768c8831718693ff759cad30dad3915618415", func := "overseer/overseerlaw25.CellSelects", spec := "cellSelects", inPlace := ["internal/abi.NoEscape"], unfollowed := true, recurses := true, named := ["internal/strconv.uint64pow10", "math/bits.deBruijn32tab", "math/bits.deBruijn64tab"], plainKeys := false, apart := false, laid := [("math/bits.deBruijn32tab", laid_math_bits_deBruijn32tab), ("math/bits.deBruijn64tab", laid_math_bits_deBruijn64tab), ("internal/strconv.uint64pow10", laid_internal_strconv_uint64pow10)] }
def CellSelectsSaid : Prop := cellSelectsRow.holds Tryz.pinned (OpenSpec.ofChange cellSelectsSpec)

/-- ITS FALSE NEIGHBOUR: 'it returns false'. Refute it at one input. -/
def cellSelectsWrong : ChangeSpec := { name := "cellSelects", fn := fun _ => fun
  | [d1, d2] => { results := [.lit (.bool false)], args := [d1, d2] }
  | _ => none }
def CellSelectsWrongFalsely : Prop := cellSelectsRow.holds Tryz.pinned (OpenSpec.ofChange cellSelectsWrong)

/-- 'overseerlaw27.SynthesisLoops': WHATEVER THE INPUT: true; the input reads as it did. -/
def synthesisLoopsSpec : ChangeSpec := { name := "synthesisLoops", fn := fun _ => fun
  | [d1, d2] => { results := [.lit (.bool true)], args := [d1, d2] }
  | _ => none }
def synthesisLoopsRow : OpenClaim := { program := "ytmoanlnleppcpaagreatdoor", sum := "320e981686c8efbdbf62f96d8be768c8831718693ff759cad30dad3915618415", func := "overseer/overseerlaw27.SynthesisLoops", spec := "synthesisLoops", inPlace := ["internal/abi.NoEscape"], unfollowed := true, recurses := true, named := ["internal/strconv.uint64pow10", "math/bits.deBruijn32tab", "math/bits.deBruijn64tab"], plainKeys := false, apart := false, laid := [("math/bits.deBruijn32tab", laid_math_bits_deBruijn32tab), ("math/bits.deBruijn64tab", laid_math_bits_deBruijn64tab), ("internal/strconv.uint64pow10", laid_internal_strconv_uint64pow10)] }
def SynthesisLoopsSaid : Prop := synthesisLoopsRow.holds Tryz.pinned (OpenSpec.ofChange synthesisLoopsSpec)

/-- ITS FALSE NEIGHBOUR: 'it returns false'. Refute it at one input. -/
def synthesisLoopsWrong : ChangeSpec := { name := "synthesisLoops", fn := fun _ => fun
  | [d1, d2] => { results := [.lit (.bool false)], args := [d1, d2] }
  | _ => none }
def SynthesisLoopsWrongFalsely : Prop := synthesisLoopsRow.holds Tryz.pinned (OpenSpec.ofChange synthesisLoopsWrong)

/-- 'overseerlaw27.SynthesisCells': WHATEVER THE INPUT: true; the input reads as it did. -/
def synthesisCellsSpec : ChangeSpec := { name := "synthesisCells", fn := fun _ => fun
  | [d] => { results := [.lit (.bool true)], args := [d] }
  | _ => none }
def synthesisCellsRow : OpenClaim := { program := "ytmoanlnleppcpaagreatdoor", sum := "320e981686c8efbdbf62f96d8be768c8831718693ff759cad30dad3915618415", func := "overseer/overseerlaw27.SynthesisCells", spec := "synthesisCells", inPlace := ["internal/abi.NoEscape"], unfollowed := true, recurses := true, named := ["internal/strconv.uint64pow10", "math/bits.deBruijn32tab", "math/bits.deBruijn64tab"], plainKeys := false, apart := false, laid := [("math/bits.deBruijn32tab", laid_math_bits_deBruijn32tab), ("math/bits.deBruijn64tab", laid_math_bits_deBruijn64tab), ("internal/strconv.uint64pow10", laid_internal_strconv_uint64pow10)] }
def SynthesisCellsSaid : Prop := synthesisCellsRow.holds Tryz.pinned (OpenSpec.ofChange synthesisCellsSpec)

/-- ITS FALSE NEIGHBOUR: 'it returns false'. Refute it at one input. -/
def synthesisCellsWrong : ChangeSpec := { name := "synthesisCells", fn := fun _ => fun
  | [d] => { results := [.lit (.bool false)], args := [d] }
  | _ => none }
def SynthesisCellsWrongFalsely : Prop := synthesisCellsRow.holds Tryz.pinned (OpenSpec.ofChange synthesisCellsWrong)

/- THE SECOND FORM. 'bulk': how many values and letters a reading holds, each counted each time it is reached (what is shared counts as often as it is met; a slice's spare places count too). A statement '..UptoSaid' is the law's where the arguments, and the package variables that the reading takes, are together of bulk at most 1048576: NARROWER than '..Said'. Prove '..Said' where nothing that the law and all that it calls make is longer than what came in: it says more and counts as full. Else prove '..UptoSaid'. A law counts once. -/
mutual
def uptoBulk {H : Type} : DataW H → Nat
  | .lit (.string bytes) => bytes.length + 1
  | .lit _ => 1
  | .nil => 1
  | .ptr d => uptoBulk d + 1
  | .slice elems spare => uptoBulkAll elems + uptoBulkAll spare + 1
  | .agg parts => uptoBulkAll parts + 1
  | .iface _ d => uptoBulk d + 1
  | .map entries => uptoBulkEntries entries + 1
  | .held _ => 1
def uptoBulkAll {H : Type} : List (DataW H) → Nat
  | [] => 0
  | d :: r => uptoBulk d + uptoBulkAll r
def uptoBulkEntries {H : Type} : List (Lit × DataW H) → Nat
  | [] => 0
  | x :: r => uptoBulkEntry x + uptoBulkEntries r
def uptoBulkEntry {H : Type} : Lit × DataW H → Nat
  | (.string bytes, d) => bytes.length + uptoBulk d + 1
  | (_, d) => uptoBulk d + 1
 end
def uptoSmall : (H : Type) → List (DataW H) → Bool := fun _ ds => decide (uptoBulkAll ds ≤ 1048576)
def OpenSpec.upto (s : _root_.Go.ChangeSpec) : _root_.Go.OpenSpec := { _root_.Go.OpenSpec.ofChange s with cond := some uptoSmall }

/-- 'overseerlaw25.CellLimits', WHERE WHAT IT READS IS OF BULK AT MOST 1048576: true; the input reads as it did. -/
def cellLimitsUptoRow : OpenClaim := { program := "ytmoanlnleppcpaagreatdoor", sum := "320e981686c8efbdbf62f96d8be768c8831718693ff759cad30dad3915618415", func := "overseer/overseerlaw25.CellLimits", spec := "cellLimits", inPlace := ["internal/abi.NoEscape"], unfollowed := true, recurses := true, named := ["internal/strconv.uint64pow10", "math/bits.deBruijn32tab", "math/bits.deBruijn64tab"], plainKeys := false, apart := false, laid := [("math/bits.deBruijn32tab", laid_math_bits_deBruijn32tab), ("math/bits.deBruijn64tab", laid_math_bits_deBruijn64tab), ("internal/strconv.uint64pow10", laid_internal_strconv_uint64pow10)], narrowed := true }
def CellLimitsUptoSaid : Prop := cellLimitsUptoRow.holds Tryz.pinned (OpenSpec.upto cellLimitsSpec)

/-- 'overseerlaw27.SynthesisRefuses', WHERE WHAT IT READS IS OF BULK AT MOST 1048576: true; the input reads as it did. -/
def synthesisRefusesUptoRow : OpenClaim := { program := "ytmoanlnleppcpaagreatdoor", sum := "320e981686c8efbdbf62f96d8be768c8831718693ff759cad30dad3915618415", func := "overseer/overseerlaw27.SynthesisRefuses", spec := "synthesisRefuses", inPlace := ["internal/abi.NoEscape"], unfollowed := true, recurses := true, named := ["internal/strconv.uint64pow10", "math/bits.deBruijn32tab", "math/bits.deBruijn64tab"], plainKeys := false, apart := false, laid := [("math/bits.deBruijn32tab", laid_math_bits_deBruijn32tab), ("math/bits.deBruijn64tab", laid_math_bits_deBruijn64tab), ("internal/strconv.uint64pow10", laid_internal_strconv_uint64pow10)], narrowed := true }
def SynthesisRefusesUptoSaid : Prop := synthesisRefusesUptoRow.holds Tryz.pinned (OpenSpec.upto synthesisRefusesSpec)

/-- 'overseerlaw25.CellPlants', WHERE WHAT IT READS IS OF BULK AT MOST 1048576: true; the input reads as it did. -/
def cellPlantsUptoRow : OpenClaim := { program := "ytmoanlnleppcpaagreatdoor", sum := "320e981686c8efbdbf62f96d8be768c8831718693ff759cad30dad3915618415", func := "overseer/overseerlaw25.CellPlants", spec := "cellPlants", inPlace := ["internal/abi.NoEscape"], unfollowed := true, recurses := true, named := ["internal/strconv.uint64pow10", "math/bits.deBruijn32tab", "math/bits.deBruijn64tab"], plainKeys := false, apart := false, laid := [("math/bits.deBruijn32tab", laid_math_bits_deBruijn32tab), ("math/bits.deBruijn64tab", laid_math_bits_deBruijn64tab), ("internal/strconv.uint64pow10", laid_internal_strconv_uint64pow10)], narrowed := true }
def CellPlantsUptoSaid : Prop := cellPlantsUptoRow.holds Tryz.pinned (OpenSpec.upto cellPlantsSpec)

/-- 'overseerlaw25.CellTouches', WHERE WHAT IT READS IS OF BULK AT MOST 1048576: true; the input reads as it did. -/
def cellTouchesUptoRow : OpenClaim := { program := "ytmoanlnleppcpaagreatdoor", sum := "320e981686c8efbdbf62f96d8be768c8831718693ff759cad30dad3915618415", func := "overseer/overseerlaw25.CellTouches", spec := "cellTouches", inPlace := ["internal/abi.NoEscape"], unfollowed := true, recurses := true, named := ["internal/strconv.uint64pow10", "math/bits.deBruijn32tab", "math/bits.deBruijn64tab"], plainKeys := false, apart := false, laid := [("math/bits.deBruijn32tab", laid_math_bits_deBruijn32tab), ("math/bits.deBruijn64tab", laid_math_bits_deBruijn64tab), ("internal/strconv.uint64pow10", laid_internal_strconv_uint64pow10)], narrowed := true }
def CellTouchesUptoSaid : Prop := cellTouchesUptoRow.holds Tryz.pinned (OpenSpec.upto cellTouchesSpec)

/-- 'overseerlaw25.CellWords', WHERE WHAT IT READS IS OF BULK AT MOST 1048576: true; the input reads as it did. -/
def cellWordsUptoRow : OpenClaim := { program := "ytmoanlnleppcpaagreatdoor", sum := "320e981686c8efbdbf62f96d8be768c8831718693ff759cad30dad3915618415", func := "overseer/overseerlaw25.CellWords", spec := "cellWords", inPlace := ["internal/abi.NoEscape"], unfollowed := true, recurses := true, named := ["internal/strconv.uint64pow10", "math/bits.deBruijn32tab", "math/bits.deBruijn64tab"], plainKeys := false, apart := false, laid := [("math/bits.deBruijn32tab", laid_math_bits_deBruijn32tab), ("math/bits.deBruijn64tab", laid_math_bits_deBruijn64tab), ("internal/strconv.uint64pow10", laid_internal_strconv_uint64pow10)], narrowed := true }
def CellWordsUptoSaid : Prop := cellWordsUptoRow.holds Tryz.pinned (OpenSpec.upto cellWordsSpec)

/-- 'overseerlaw25.CellSpecifies', WHERE WHAT IT READS IS OF BULK AT MOST 1048576: true; the input reads as it did. -/
def cellSpecifiesUptoRow : OpenClaim := { program := "ytmoanlnleppcpaagreatdoor", sum := "320e981686c8efbdbf62f96d8be768c8831718693ff759cad30dad3915618415", func := "overseer/overseerlaw25.CellSpecifies", spec := "cellSpecifies", inPlace := ["internal/abi.NoEscape"], unfollowed := true, recurses := true, named := ["internal/strconv.uint64pow10", "math/bits.deBruijn32tab", "math/bits.deBruijn64tab"], plainKeys := false, apart := false, laid := [("math/bits.deBruijn32tab", laid_math_bits_deBruijn32tab), ("math/bits.deBruijn64tab", laid_math_bits_deBruijn64tab), ("internal/strconv.uint64pow10", laid_internal_strconv_uint64pow10)], narrowed := true }
def CellSpecifiesUptoSaid : Prop := cellSpecifiesUptoRow.holds Tryz.pinned (OpenSpec.upto cellSpecifiesSpec)

/-- 'overseerlaw25.CellCompletes', WHERE WHAT IT READS IS OF BULK AT MOST 1048576: true; the input reads as it did. -/
def cellCompletesUptoRow : OpenClaim := { program := "ytmoanlnleppcpaagreatdoor", sum := "320e981686c8efbdbf62f96d8be768c8831718693ff759cad30dad3915618415", func := "overseer/overseerlaw25.CellCompletes", spec := "cellCompletes", inPlace := ["internal/abi.NoEscape"], unfollowed := true, recurses := true, named := ["internal/strconv.uint64pow10", "math/bits.deBruijn32tab", "math/bits.deBruijn64tab"], plainKeys := false, apart := false, laid := [("math/bits.deBruijn32tab", laid_math_bits_deBruijn32tab), ("math/bits.deBruijn64tab", laid_math_bits_deBruijn64tab), ("internal/strconv.uint64pow10", laid_internal_strconv_uint64pow10)], narrowed := true }
def CellCompletesUptoSaid : Prop := cellCompletesUptoRow.holds Tryz.pinned (OpenSpec.upto cellCompletesSpec)

/-- 'overseerlaw25.CellMakes', WHERE WHAT IT READS IS OF BULK AT MOST 1048576: true; the input reads as it did. -/
def cellMakesUptoRow : OpenClaim := { program := "ytmoanlnleppcpaagreatdoor", sum := "320e981686c8efbdbf62f96d8be768c8831718693ff759cad30dad3915618415", func := "overseer/overseerlaw25.CellMakes", spec := "cellMakes", inPlace := ["internal/abi.NoEscape"], unfollowed := true, recurses := true, named := ["internal/strconv.uint64pow10", "math/bits.deBruijn32tab", "math/bits.deBruijn64tab"], plainKeys := false, apart := false, laid := [("math/bits.deBruijn32tab", laid_math_bits_deBruijn32tab), ("math/bits.deBruijn64tab", laid_math_bits_deBruijn64tab), ("internal/strconv.uint64pow10", laid_internal_strconv_uint64pow10)], narrowed := true }
def CellMakesUptoSaid : Prop := cellMakesUptoRow.holds Tryz.pinned (OpenSpec.upto cellMakesSpec)

/-- 'overseerlaw25.CellChecks', WHERE WHAT IT READS IS OF BULK AT MOST 1048576: true; the input reads as it did. -/
def cellChecksUptoRow : OpenClaim := { program := "ytmoanlnleppcpaagreatdoor", sum := "320e981686c8efbdbf62f96d8be768c8831718693ff759cad30dad3915618415", func := "overseer/overseerlaw25.CellChecks", spec := "cellChecks", inPlace := ["internal/abi.NoEscape"], unfollowed := true, recurses := true, named := ["internal/strconv.uint64pow10", "math/bits.deBruijn32tab", "math/bits.deBruijn64tab"], plainKeys := false, apart := false, laid := [("math/bits.deBruijn32tab", laid_math_bits_deBruijn32tab), ("math/bits.deBruijn64tab", laid_math_bits_deBruijn64tab), ("internal/strconv.uint64pow10", laid_internal_strconv_uint64pow10)], narrowed := true }
def CellChecksUptoSaid : Prop := cellChecksUptoRow.holds Tryz.pinned (OpenSpec.upto cellChecksSpec)

/-- 'overseerlaw25.CellSelects', WHERE WHAT IT READS IS OF BULK AT MOST 1048576: true; the input reads as it did. -/
def cellSelectsUptoRow : OpenClaim := { program := "ytmoanlnleppcpaagreatdoor", sum := "320e981686c8efbdbf62f96d8be768c8831718693ff759cad30dad3915618415", func := "overseer/overseerlaw25.CellSelects", spec := "cellSelects", inPlace := ["internal/abi.NoEscape"], unfollowed := true, recurses := true, named := ["internal/strconv.uint64pow10", "math/bits.deBruijn32tab", "math/bits.deBruijn64tab"], plainKeys := false, apart := false, laid := [("math/bits.deBruijn32tab", laid_math_bits_deBruijn32tab), ("math/bits.deBruijn64tab", laid_math_bits_deBruijn64tab), ("internal/strconv.uint64pow10", laid_internal_strconv_uint64pow10)], narrowed := true }
def CellSelectsUptoSaid : Prop := cellSelectsUptoRow.holds Tryz.pinned (OpenSpec.upto cellSelectsSpec)

/-- 'overseerlaw27.SynthesisLoops', WHERE WHAT IT READS IS OF BULK AT MOST 1048576: true; the input reads as it did. -/
def synthesisLoopsUptoRow : OpenClaim := { program := "ytmoanlnleppcpaagreatdoor", sum := "320e981686c8efbdbf62f96d8be768c8831718693ff759cad30dad3915618415", func := "overseer/overseerlaw27.SynthesisLoops", spec := "synthesisLoops", inPlace := ["internal/abi.NoEscape"], unfollowed := true, recurses := true, named := ["internal/strconv.uint64pow10", "math/bits.deBruijn32tab", "math/bits.deBruijn64tab"], plainKeys := false, apart := false, laid := [("math/bits.deBruijn32tab", laid_math_bits_deBruijn32tab), ("math/bits.deBruijn64tab", laid_math_bits_deBruijn64tab), ("internal/strconv.uint64pow10", laid_internal_strconv_uint64pow10)], narrowed := true }
def SynthesisLoopsUptoSaid : Prop := synthesisLoopsUptoRow.holds Tryz.pinned (OpenSpec.upto synthesisLoopsSpec)

/-- 'overseerlaw27.SynthesisCells', WHERE WHAT IT READS IS OF BULK AT MOST 1048576: true; the input reads as it did. -/
def synthesisCellsUptoRow : OpenClaim := { program := "ytmoanlnleppcpaagreatdoor", sum := "320e981686c8efbdbf62f96d8be768c8831718693ff759cad30dad3915618415", func := "overseer/overseerlaw27.SynthesisCells", spec := "synthesisCells", inPlace := ["internal/abi.NoEscape"], unfollowed := true, recurses := true, named := ["internal/strconv.uint64pow10", "math/bits.deBruijn32tab", "math/bits.deBruijn64tab"], plainKeys := false, apart := false, laid := [("math/bits.deBruijn32tab", laid_math_bits_deBruijn32tab), ("math/bits.deBruijn64tab", laid_math_bits_deBruijn64tab), ("internal/strconv.uint64pow10", laid_internal_strconv_uint64pow10)], narrowed := true }
def SynthesisCellsUptoSaid : Prop := synthesisCellsUptoRow.holds Tryz.pinned (OpenSpec.upto synthesisCellsSpec)

end Rows
end Go.Proofs.YtmoanlnleppcpaaGreatDoor
