/-
  NARROWER THAN 'FOR EVERY INPUT', by the rows' own cells (each row's printed sentence says how): PipeValues: laid · PipeBusy: laid · PortEncodes: laid · PortDecodes: laid · PipeOrder: laid · InodeErrors: laid · PipeEnds: laid · InodeFrame: laid · PortQueues: laid · PortEpochs: laid · PortNil: laid · PortBroken: laid · PipeDrains: laid · PipeFrame: laid · PortFrame: laid · PortApart: laid · InodeNodes: laid · InodeCounts: laid · InodeBirths: laid · InodeParts: laid · InodeSizes: laid.
  DERIVED. THE GIVEN ROWS OF THIS SEAT. 21 by the template 'for every input the law returns true; each argument reads behind the call as it read before'; 0 by the template 'total and deterministic' (their statements: YtdjjfjnkkgmadaaGreatDoorTotals.lean).
  GIVEN WITH THE SEED: the statements are not yours to turn. If you find one false, say at which input.
  Laid BY PROGRAM, IN A SANDBOX (cutbox-rows.mjs): the forced cells as the released guide's own fill.sh prints them over the translation aa1215d469023642… (all of the seat's roots in one cut). By AI agents, Wed Nov 11 2026. No macro, syntax, notation, axiom, sorry.
-/
import Derived.Test.YtdjjfjnkkgmadaaGreatDoorChecked
import GoSem.Claim
import GoSem.ClaimJoined
import GoSem.ClaimMapViews
import Derived.JoinedTies
import Derived.KernelRfl
namespace Go.Proofs.YtdjjfjnkkgmadaaGreatDoor
/- THE CELL 'sum', in the pinned program and in every row, IS THE sha256 OF THE DUMP (.gsa) THAT YtdjjfjnkkgmadaaGreatDoorProg.lean LOADS. Nothing in Lean hashes anything: it is a label: what it is worth is what the hold of that sum in a sandbox is worth. -/
noncomputable def Tryz.pinned : Pinned := { name := "ytdjjfjnkkgmadaagreatdoor", sum := "aa1215d469023642750b98a4c59c474c196903d64653b69e3470c5dd02d11431", checked := Tryz.checked }
namespace Rows
def none {H : Type} : Left H := { results := [], args := [] }

/- WHAT THE LISTED PACKAGE-LEVEL VARIABLES READ AS WHEN THE CALL BEGINS. Each datum BY PROGRAM (the guide's laid-datum.mjs) off the statement by which the dump's own 'gosem.cut.vars' lays the variable. In a bare row this is a premise. The card (YtdjjfjnkkgmadaaGreatDoorCards.lean) ties it to the program's text. -/
def laid_math_bits_deBruijn32tab {H : Type} : DataW H := .agg [.lit (.int .u8 0), .lit (.int .u8 1), .lit (.int .u8 28), .lit (.int .u8 2), .lit (.int .u8 29), .lit (.int .u8 14), .lit (.int .u8 24), .lit (.int .u8 3), .lit (.int .u8 30), .lit (.int .u8 22), .lit (.int .u8 20), .lit (.int .u8 15), .lit (.int .u8 25), .lit (.int .u8 17), .lit (.int .u8 4), .lit (.int .u8 8), .lit (.int .u8 31), .lit (.int .u8 27), .lit (.int .u8 13), .lit (.int .u8 23), .lit (.int .u8 21), .lit (.int .u8 19), .lit (.int .u8 16), .lit (.int .u8 7), .lit (.int .u8 26), .lit (.int .u8 12), .lit (.int .u8 18), .lit (.int .u8 6), .lit (.int .u8 11), .lit (.int .u8 5), .lit (.int .u8 10), .lit (.int .u8 9)]
def laid_math_bits_deBruijn64tab {H : Type} : DataW H := .agg [.lit (.int .u8 0), .lit (.int .u8 1), .lit (.int .u8 56), .lit (.int .u8 2), .lit (.int .u8 57), .lit (.int .u8 49), .lit (.int .u8 28), .lit (.int .u8 3), .lit (.int .u8 61), .lit (.int .u8 58), .lit (.int .u8 42), .lit (.int .u8 50), .lit (.int .u8 38), .lit (.int .u8 29), .lit (.int .u8 17), .lit (.int .u8 4), .lit (.int .u8 62), .lit (.int .u8 47), .lit (.int .u8 59), .lit (.int .u8 36), .lit (.int .u8 45), .lit (.int .u8 43), .lit (.int .u8 51), .lit (.int .u8 22), .lit (.int .u8 53), .lit (.int .u8 39), .lit (.int .u8 33), .lit (.int .u8 30), .lit (.int .u8 24), .lit (.int .u8 18), .lit (.int .u8 12), .lit (.int .u8 5), .lit (.int .u8 63), .lit (.int .u8 55), .lit (.int .u8 48), .lit (.int .u8 27), .lit (.int .u8 60), .lit (.int .u8 41), .lit (.int .u8 37), .lit (.int .u8 16), .lit (.int .u8 46), .lit (.int .u8 35), .lit (.int .u8 44), .lit (.int .u8 21), .lit (.int .u8 52), .lit (.int .u8 32), .lit (.int .u8 23), .lit (.int .u8 11), .lit (.int .u8 54), .lit (.int .u8 26), .lit (.int .u8 40), .lit (.int .u8 15), .lit (.int .u8 34), .lit (.int .u8 20), .lit (.int .u8 31), .lit (.int .u8 10), .lit (.int .u8 25), .lit (.int .u8 14), .lit (.int .u8 19), .lit (.int .u8 9), .lit (.int .u8 13), .lit (.int .u8 8), .lit (.int .u8 7), .lit (.int .u8 6)]
def laid_internal_strconv_uint64pow10 {H : Type} : DataW H := .agg [.lit (.int .u64 1), .lit (.int .u64 10), .lit (.int .u64 100), .lit (.int .u64 1000), .lit (.int .u64 10000), .lit (.int .u64 100000), .lit (.int .u64 1000000), .lit (.int .u64 10000000), .lit (.int .u64 100000000), .lit (.int .u64 1000000000), .lit (.int .u64 10000000000), .lit (.int .u64 100000000000), .lit (.int .u64 1000000000000), .lit (.int .u64 10000000000000), .lit (.int .u64 100000000000000), .lit (.int .u64 1000000000000000), .lit (.int .u64 10000000000000000), .lit (.int .u64 100000000000000000), .lit (.int .u64 1000000000000000000), .lit (.int .u64 10000000000000000000)]
def laid_strconv_ErrRange {H : Type} : DataW H := .iface "*errors.errorString" (.ptr (.agg [.lit (.string [118, 97, 108, 117, 101, 32, 111, 117, 116, 32, 111, 102, 32, 114, 97, 110, 103, 101])]))
def laid_strconv_ErrSyntax {H : Type} : DataW H := .iface "*errors.errorString" (.ptr (.agg [.lit (.string [105, 110, 118, 97, 108, 105, 100, 32, 115, 121, 110, 116, 97, 120])]))

/-- 'replevinlaw32.PipeValues': WHATEVER THE INPUT: true; the input reads as it did. -/
def pipeValuesSpec : ChangeSpec := { name := "pipeValues", fn := fun _ => fun
  | [d1, d2] => { results := [.lit (.bool true)], args := [d1, d2] }
  | _ => none }
def pipeValuesRow : OpenClaim := { program := "ytdjjfjnkkgmadaagreatdoor", sum := "aa1215d469023642750b98a4c59c474c196903d64653b69e3470c5dd02d11431", func := "replevin/replevinlaw32.PipeValues", spec := "pipeValues", inPlace := ["internal/bytealg.abigen_runtime_cmpstring"], unfollowed := true, recurses := true, named := ["strconv.ErrSyntax", "strconv.ErrRange", "internal/strconv.uint64pow10", "math/bits.deBruijn32tab", "math/bits.deBruijn64tab"], plainKeys := false, apart := false, laid := [("math/bits.deBruijn32tab", laid_math_bits_deBruijn32tab), ("math/bits.deBruijn64tab", laid_math_bits_deBruijn64tab), ("internal/strconv.uint64pow10", laid_internal_strconv_uint64pow10), ("strconv.ErrRange", laid_strconv_ErrRange), ("strconv.ErrSyntax", laid_strconv_ErrSyntax)] }
def PipeValuesSaid : Prop := pipeValuesRow.holds Tryz.pinned (OpenSpec.ofChange pipeValuesSpec)

/-- ITS FALSE NEIGHBOUR: 'it returns false'. Refute it at one input. -/
def pipeValuesWrong : ChangeSpec := { name := "pipeValues", fn := fun _ => fun
  | [d1, d2] => { results := [.lit (.bool false)], args := [d1, d2] }
  | _ => none }
def PipeValuesWrongFalsely : Prop := pipeValuesRow.holds Tryz.pinned (OpenSpec.ofChange pipeValuesWrong)

/-- 'replevinlaw32.PipeBusy': WHATEVER THE INPUT: true; the input reads as it did. -/
def pipeBusySpec : ChangeSpec := { name := "pipeBusy", fn := fun _ => fun
  | [d1, d2] => { results := [.lit (.bool true)], args := [d1, d2] }
  | _ => none }
def pipeBusyRow : OpenClaim := { program := "ytdjjfjnkkgmadaagreatdoor", sum := "aa1215d469023642750b98a4c59c474c196903d64653b69e3470c5dd02d11431", func := "replevin/replevinlaw32.PipeBusy", spec := "pipeBusy", inPlace := ["internal/bytealg.abigen_runtime_cmpstring"], unfollowed := true, recurses := true, named := ["strconv.ErrSyntax", "strconv.ErrRange", "internal/strconv.uint64pow10", "math/bits.deBruijn32tab", "math/bits.deBruijn64tab"], plainKeys := false, apart := false, laid := [("math/bits.deBruijn32tab", laid_math_bits_deBruijn32tab), ("math/bits.deBruijn64tab", laid_math_bits_deBruijn64tab), ("internal/strconv.uint64pow10", laid_internal_strconv_uint64pow10), ("strconv.ErrRange", laid_strconv_ErrRange), ("strconv.ErrSyntax", laid_strconv_ErrSyntax)] }
def PipeBusySaid : Prop := pipeBusyRow.holds Tryz.pinned (OpenSpec.ofChange pipeBusySpec)

/-- ITS FALSE NEIGHBOUR: 'it returns false'. Refute it at one input. -/
def pipeBusyWrong : ChangeSpec := { name := "pipeBusy", fn := fun _ => fun
  | [d1, d2] => { results := [.lit (.bool false)], args := [d1, d2] }
  | _ => none }
def PipeBusyWrongFalsely : Prop := pipeBusyRow.holds Tryz.pinned (OpenSpec.ofChange pipeBusyWrong)

/-- 'replevinlaw37.PortEncodes': WHATEVER THE INPUT: true; the input reads as it did. -/
def portEncodesSpec : ChangeSpec := { name := "portEncodes", fn := fun _ => fun
  | [d] => { results := [.lit (.bool true)], args := [d] }
  | _ => none }
def portEncodesRow : OpenClaim := { program := "ytdjjfjnkkgmadaagreatdoor", sum := "aa1215d469023642750b98a4c59c474c196903d64653b69e3470c5dd02d11431", func := "replevin/replevinlaw37.PortEncodes", spec := "portEncodes", inPlace := ["internal/bytealg.abigen_runtime_cmpstring"], unfollowed := true, recurses := true, named := ["strconv.ErrSyntax", "strconv.ErrRange", "internal/strconv.uint64pow10", "math/bits.deBruijn32tab", "math/bits.deBruijn64tab"], plainKeys := false, apart := false, laid := [("math/bits.deBruijn32tab", laid_math_bits_deBruijn32tab), ("math/bits.deBruijn64tab", laid_math_bits_deBruijn64tab), ("internal/strconv.uint64pow10", laid_internal_strconv_uint64pow10), ("strconv.ErrRange", laid_strconv_ErrRange), ("strconv.ErrSyntax", laid_strconv_ErrSyntax)] }
def PortEncodesSaid : Prop := portEncodesRow.holds Tryz.pinned (OpenSpec.ofChange portEncodesSpec)

/-- ITS FALSE NEIGHBOUR: 'it returns false'. Refute it at one input. -/
def portEncodesWrong : ChangeSpec := { name := "portEncodes", fn := fun _ => fun
  | [d] => { results := [.lit (.bool false)], args := [d] }
  | _ => none }
def PortEncodesWrongFalsely : Prop := portEncodesRow.holds Tryz.pinned (OpenSpec.ofChange portEncodesWrong)

/-- 'replevinlaw37.PortDecodes': WHATEVER THE INPUT: true; the input reads as it did. -/
def portDecodesSpec : ChangeSpec := { name := "portDecodes", fn := fun _ => fun
  | [d] => { results := [.lit (.bool true)], args := [d] }
  | _ => none }
def portDecodesRow : OpenClaim := { program := "ytdjjfjnkkgmadaagreatdoor", sum := "aa1215d469023642750b98a4c59c474c196903d64653b69e3470c5dd02d11431", func := "replevin/replevinlaw37.PortDecodes", spec := "portDecodes", inPlace := ["internal/bytealg.abigen_runtime_cmpstring"], unfollowed := true, recurses := true, named := ["strconv.ErrSyntax", "strconv.ErrRange", "internal/strconv.uint64pow10", "math/bits.deBruijn32tab", "math/bits.deBruijn64tab"], plainKeys := false, apart := false, laid := [("math/bits.deBruijn32tab", laid_math_bits_deBruijn32tab), ("math/bits.deBruijn64tab", laid_math_bits_deBruijn64tab), ("internal/strconv.uint64pow10", laid_internal_strconv_uint64pow10), ("strconv.ErrRange", laid_strconv_ErrRange), ("strconv.ErrSyntax", laid_strconv_ErrSyntax)] }
def PortDecodesSaid : Prop := portDecodesRow.holds Tryz.pinned (OpenSpec.ofChange portDecodesSpec)

/-- ITS FALSE NEIGHBOUR: 'it returns false'. Refute it at one input. -/
def portDecodesWrong : ChangeSpec := { name := "portDecodes", fn := fun _ => fun
  | [d] => { results := [.lit (.bool false)], args := [d] }
  | _ => none }
def PortDecodesWrongFalsely : Prop := portDecodesRow.holds Tryz.pinned (OpenSpec.ofChange portDecodesWrong)

/-- 'replevinlaw32.PipeOrder': WHATEVER THE INPUT: true; the input reads as it did. -/
def pipeOrderSpec : ChangeSpec := { name := "pipeOrder", fn := fun _ => fun
  | [d] => { results := [.lit (.bool true)], args := [d] }
  | _ => none }
def pipeOrderRow : OpenClaim := { program := "ytdjjfjnkkgmadaagreatdoor", sum := "aa1215d469023642750b98a4c59c474c196903d64653b69e3470c5dd02d11431", func := "replevin/replevinlaw32.PipeOrder", spec := "pipeOrder", inPlace := ["internal/bytealg.abigen_runtime_cmpstring"], unfollowed := true, recurses := true, named := ["strconv.ErrSyntax", "strconv.ErrRange", "internal/strconv.uint64pow10", "math/bits.deBruijn32tab", "math/bits.deBruijn64tab"], plainKeys := false, apart := false, laid := [("math/bits.deBruijn32tab", laid_math_bits_deBruijn32tab), ("math/bits.deBruijn64tab", laid_math_bits_deBruijn64tab), ("internal/strconv.uint64pow10", laid_internal_strconv_uint64pow10), ("strconv.ErrRange", laid_strconv_ErrRange), ("strconv.ErrSyntax", laid_strconv_ErrSyntax)] }
def PipeOrderSaid : Prop := pipeOrderRow.holds Tryz.pinned (OpenSpec.ofChange pipeOrderSpec)

/-- ITS FALSE NEIGHBOUR: 'it returns false'. Refute it at one input. -/
def pipeOrderWrong : ChangeSpec := { name := "pipeOrder", fn := fun _ => fun
  | [d] => { results := [.lit (.bool false)], args := [d] }
  | _ => none }
def PipeOrderWrongFalsely : Prop := pipeOrderRow.holds Tryz.pinned (OpenSpec.ofChange pipeOrderWrong)

/-- 'replevinlaw27.InodeErrors': WHATEVER THE INPUT: true; the input reads as it did. -/
def inodeErrorsSpec : ChangeSpec := { name := "inodeErrors", fn := fun _ => fun
  | [d1, d2, d3] => { results := [.lit (.bool true)], args := [d1, d2, d3] }
  | _ => none }
def inodeErrorsRow : OpenClaim := { program := "ytdjjfjnkkgmadaagreatdoor", sum := "aa1215d469023642750b98a4c59c474c196903d64653b69e3470c5dd02d11431", func := "replevin/replevinlaw27.InodeErrors", spec := "inodeErrors", inPlace := ["internal/bytealg.abigen_runtime_cmpstring", "internal/abi.NoEscape"], unfollowed := true, recurses := true, named := ["strconv.ErrSyntax", "strconv.ErrRange", "internal/strconv.uint64pow10", "math/bits.deBruijn32tab", "math/bits.deBruijn64tab"], plainKeys := false, apart := false, laid := [("math/bits.deBruijn32tab", laid_math_bits_deBruijn32tab), ("math/bits.deBruijn64tab", laid_math_bits_deBruijn64tab), ("internal/strconv.uint64pow10", laid_internal_strconv_uint64pow10), ("strconv.ErrRange", laid_strconv_ErrRange), ("strconv.ErrSyntax", laid_strconv_ErrSyntax)] }
def InodeErrorsSaid : Prop := inodeErrorsRow.holds Tryz.pinned (OpenSpec.ofChange inodeErrorsSpec)

/-- ITS FALSE NEIGHBOUR: 'it returns false'. Refute it at one input. -/
def inodeErrorsWrong : ChangeSpec := { name := "inodeErrors", fn := fun _ => fun
  | [d1, d2, d3] => { results := [.lit (.bool false)], args := [d1, d2, d3] }
  | _ => none }
def InodeErrorsWrongFalsely : Prop := inodeErrorsRow.holds Tryz.pinned (OpenSpec.ofChange inodeErrorsWrong)

/-- 'replevinlaw32.PipeEnds': WHATEVER THE INPUT: true; the input reads as it did. -/
def pipeEndsSpec : ChangeSpec := { name := "pipeEnds", fn := fun _ => fun
  | [d1, d2] => { results := [.lit (.bool true)], args := [d1, d2] }
  | _ => none }
def pipeEndsRow : OpenClaim := { program := "ytdjjfjnkkgmadaagreatdoor", sum := "aa1215d469023642750b98a4c59c474c196903d64653b69e3470c5dd02d11431", func := "replevin/replevinlaw32.PipeEnds", spec := "pipeEnds", inPlace := ["internal/bytealg.abigen_runtime_cmpstring"], unfollowed := true, recurses := true, named := ["strconv.ErrSyntax", "strconv.ErrRange", "internal/strconv.uint64pow10", "math/bits.deBruijn32tab", "math/bits.deBruijn64tab"], plainKeys := false, apart := false, laid := [("math/bits.deBruijn32tab", laid_math_bits_deBruijn32tab), ("math/bits.deBruijn64tab", laid_math_bits_deBruijn64tab), ("internal/strconv.uint64pow10", laid_internal_strconv_uint64pow10), ("strconv.ErrRange", laid_strconv_ErrRange), ("strconv.ErrSyntax", laid_strconv_ErrSyntax)] }
def PipeEndsSaid : Prop := pipeEndsRow.holds Tryz.pinned (OpenSpec.ofChange pipeEndsSpec)

/-- ITS FALSE NEIGHBOUR: 'it returns false'. Refute it at one input. -/
def pipeEndsWrong : ChangeSpec := { name := "pipeEnds", fn := fun _ => fun
  | [d1, d2] => { results := [.lit (.bool false)], args := [d1, d2] }
  | _ => none }
def PipeEndsWrongFalsely : Prop := pipeEndsRow.holds Tryz.pinned (OpenSpec.ofChange pipeEndsWrong)

/-- 'replevinlaw27.InodeFrame': WHATEVER THE INPUT: true; the input reads as it did. -/
def inodeFrameSpec : ChangeSpec := { name := "inodeFrame", fn := fun _ => fun
  | [d1, d2] => { results := [.lit (.bool true)], args := [d1, d2] }
  | _ => none }
def inodeFrameRow : OpenClaim := { program := "ytdjjfjnkkgmadaagreatdoor", sum := "aa1215d469023642750b98a4c59c474c196903d64653b69e3470c5dd02d11431", func := "replevin/replevinlaw27.InodeFrame", spec := "inodeFrame", inPlace := ["internal/bytealg.abigen_runtime_cmpstring", "internal/abi.NoEscape"], unfollowed := true, recurses := true, named := ["strconv.ErrSyntax", "strconv.ErrRange", "internal/strconv.uint64pow10", "math/bits.deBruijn32tab", "math/bits.deBruijn64tab"], plainKeys := false, apart := false, laid := [("math/bits.deBruijn32tab", laid_math_bits_deBruijn32tab), ("math/bits.deBruijn64tab", laid_math_bits_deBruijn64tab), ("internal/strconv.uint64pow10", laid_internal_strconv_uint64pow10), ("strconv.ErrRange", laid_strconv_ErrRange), ("strconv.ErrSyntax", laid_strconv_ErrSyntax)] }
def InodeFrameSaid : Prop := inodeFrameRow.holds Tryz.pinned (OpenSpec.ofChange inodeFrameSpec)

/-- ITS FALSE NEIGHBOUR: 'it returns false'. Refute it at one input. -/
def inodeFrameWrong : ChangeSpec := { name := "inodeFrame", fn := fun _ => fun
  | [d1, d2] => { results := [.lit (.bool false)], args := [d1, d2] }
  | _ => none }
def InodeFrameWrongFalsely : Prop := inodeFrameRow.holds Tryz.pinned (OpenSpec.ofChange inodeFrameWrong)

/-- 'replevinlaw37.PortQueues': WHATEVER THE INPUT: true; the input reads as it did. -/
def portQueuesSpec : ChangeSpec := { name := "portQueues", fn := fun _ => fun
  | [d1, d2] => { results := [.lit (.bool true)], args := [d1, d2] }
  | _ => none }
def portQueuesRow : OpenClaim := { program := "ytdjjfjnkkgmadaagreatdoor", sum := "aa1215d469023642750b98a4c59c474c196903d64653b69e3470c5dd02d11431", func := "replevin/replevinlaw37.PortQueues", spec := "portQueues", inPlace := ["internal/bytealg.abigen_runtime_cmpstring"], unfollowed := true, recurses := true, named := ["strconv.ErrSyntax", "strconv.ErrRange", "internal/strconv.uint64pow10", "math/bits.deBruijn32tab", "math/bits.deBruijn64tab"], plainKeys := false, apart := false, laid := [("math/bits.deBruijn32tab", laid_math_bits_deBruijn32tab), ("math/bits.deBruijn64tab", laid_math_bits_deBruijn64tab), ("internal/strconv.uint64pow10", laid_internal_strconv_uint64pow10), ("strconv.ErrRange", laid_strconv_ErrRange), ("strconv.ErrSyntax", laid_strconv_ErrSyntax)] }
def PortQueuesSaid : Prop := portQueuesRow.holds Tryz.pinned (OpenSpec.ofChange portQueuesSpec)

/-- ITS FALSE NEIGHBOUR: 'it returns false'. Refute it at one input. -/
def portQueuesWrong : ChangeSpec := { name := "portQueues", fn := fun _ => fun
  | [d1, d2] => { results := [.lit (.bool false)], args := [d1, d2] }
  | _ => none }
def PortQueuesWrongFalsely : Prop := portQueuesRow.holds Tryz.pinned (OpenSpec.ofChange portQueuesWrong)

/-- 'replevinlaw37.PortEpochs': WHATEVER THE INPUT: true; the input reads as it did. -/
def portEpochsSpec : ChangeSpec := { name := "portEpochs", fn := fun _ => fun
  | [d1, d2, d3] => { results := [.lit (.bool true)], args := [d1, d2, d3] }
  | _ => none }
def portEpochsRow : OpenClaim := { program := "ytdjjfjnkkgmadaagreatdoor", sum := "aa1215d469023642750b98a4c59c474c196903d64653b69e3470c5dd02d11431", func := "replevin/replevinlaw37.PortEpochs", spec := "portEpochs", inPlace := ["internal/bytealg.abigen_runtime_cmpstring"], unfollowed := true, recurses := true, named := ["strconv.ErrSyntax", "strconv.ErrRange", "internal/strconv.uint64pow10", "math/bits.deBruijn32tab", "math/bits.deBruijn64tab"], plainKeys := false, apart := false, laid := [("math/bits.deBruijn32tab", laid_math_bits_deBruijn32tab), ("math/bits.deBruijn64tab", laid_math_bits_deBruijn64tab), ("internal/strconv.uint64pow10", laid_internal_strconv_uint64pow10), ("strconv.ErrRange", laid_strconv_ErrRange), ("strconv.ErrSyntax", laid_strconv_ErrSyntax)] }
def PortEpochsSaid : Prop := portEpochsRow.holds Tryz.pinned (OpenSpec.ofChange portEpochsSpec)

/-- ITS FALSE NEIGHBOUR: 'it returns false'. Refute it at one input. -/
def portEpochsWrong : ChangeSpec := { name := "portEpochs", fn := fun _ => fun
  | [d1, d2, d3] => { results := [.lit (.bool false)], args := [d1, d2, d3] }
  | _ => none }
def PortEpochsWrongFalsely : Prop := portEpochsRow.holds Tryz.pinned (OpenSpec.ofChange portEpochsWrong)

/-- 'replevinlaw37.PortNil': WHATEVER THE INPUT: true; the input reads as it did. -/
def portNilSpec : ChangeSpec := { name := "portNil", fn := fun _ => fun
  | [d1, d2] => { results := [.lit (.bool true)], args := [d1, d2] }
  | _ => none }
def portNilRow : OpenClaim := { program := "ytdjjfjnkkgmadaagreatdoor", sum := "aa1215d469023642750b98a4c59c474c196903d64653b69e3470c5dd02d11431", func := "replevin/replevinlaw37.PortNil", spec := "portNil", inPlace := ["internal/bytealg.abigen_runtime_cmpstring"], unfollowed := true, recurses := true, named := ["strconv.ErrSyntax", "strconv.ErrRange", "internal/strconv.uint64pow10", "math/bits.deBruijn32tab", "math/bits.deBruijn64tab"], plainKeys := false, apart := false, laid := [("math/bits.deBruijn32tab", laid_math_bits_deBruijn32tab), ("math/bits.deBruijn64tab", laid_math_bits_deBruijn64tab), ("internal/strconv.uint64pow10", laid_internal_strconv_uint64pow10), ("strconv.ErrRange", laid_strconv_ErrRange), ("strconv.ErrSyntax", laid_strconv_ErrSyntax)] }
def PortNilSaid : Prop := portNilRow.holds Tryz.pinned (OpenSpec.ofChange portNilSpec)

/-- ITS FALSE NEIGHBOUR: 'it returns false'. Refute it at one input. -/
def portNilWrong : ChangeSpec := { name := "portNil", fn := fun _ => fun
  | [d1, d2] => { results := [.lit (.bool false)], args := [d1, d2] }
  | _ => none }
def PortNilWrongFalsely : Prop := portNilRow.holds Tryz.pinned (OpenSpec.ofChange portNilWrong)

/-- 'replevinlaw37.PortBroken': WHATEVER THE INPUT: true; the input reads as it did. -/
def portBrokenSpec : ChangeSpec := { name := "portBroken", fn := fun _ => fun
  | [d1, d2] => { results := [.lit (.bool true)], args := [d1, d2] }
  | _ => none }
def portBrokenRow : OpenClaim := { program := "ytdjjfjnkkgmadaagreatdoor", sum := "aa1215d469023642750b98a4c59c474c196903d64653b69e3470c5dd02d11431", func := "replevin/replevinlaw37.PortBroken", spec := "portBroken", inPlace := ["internal/bytealg.abigen_runtime_cmpstring"], unfollowed := true, recurses := true, named := ["strconv.ErrSyntax", "strconv.ErrRange", "internal/strconv.uint64pow10", "math/bits.deBruijn32tab", "math/bits.deBruijn64tab"], plainKeys := false, apart := false, laid := [("math/bits.deBruijn32tab", laid_math_bits_deBruijn32tab), ("math/bits.deBruijn64tab", laid_math_bits_deBruijn64tab), ("internal/strconv.uint64pow10", laid_internal_strconv_uint64pow10), ("strconv.ErrRange", laid_strconv_ErrRange), ("strconv.ErrSyntax", laid_strconv_ErrSyntax)] }
def PortBrokenSaid : Prop := portBrokenRow.holds Tryz.pinned (OpenSpec.ofChange portBrokenSpec)

/-- ITS FALSE NEIGHBOUR: 'it returns false'. Refute it at one input. -/
def portBrokenWrong : ChangeSpec := { name := "portBroken", fn := fun _ => fun
  | [d1, d2] => { results := [.lit (.bool false)], args := [d1, d2] }
  | _ => none }
def PortBrokenWrongFalsely : Prop := portBrokenRow.holds Tryz.pinned (OpenSpec.ofChange portBrokenWrong)

/-- 'replevinlaw32.PipeDrains': WHATEVER THE INPUT: true; the input reads as it did. -/
def pipeDrainsSpec : ChangeSpec := { name := "pipeDrains", fn := fun _ => fun
  | [d1, d2] => { results := [.lit (.bool true)], args := [d1, d2] }
  | _ => none }
def pipeDrainsRow : OpenClaim := { program := "ytdjjfjnkkgmadaagreatdoor", sum := "aa1215d469023642750b98a4c59c474c196903d64653b69e3470c5dd02d11431", func := "replevin/replevinlaw32.PipeDrains", spec := "pipeDrains", inPlace := ["internal/bytealg.abigen_runtime_cmpstring"], unfollowed := true, recurses := true, named := ["strconv.ErrSyntax", "strconv.ErrRange", "internal/strconv.uint64pow10", "math/bits.deBruijn32tab", "math/bits.deBruijn64tab"], plainKeys := false, apart := false, laid := [("math/bits.deBruijn32tab", laid_math_bits_deBruijn32tab), ("math/bits.deBruijn64tab", laid_math_bits_deBruijn64tab), ("internal/strconv.uint64pow10", laid_internal_strconv_uint64pow10), ("strconv.ErrRange", laid_strconv_ErrRange), ("strconv.ErrSyntax", laid_strconv_ErrSyntax)] }
def PipeDrainsSaid : Prop := pipeDrainsRow.holds Tryz.pinned (OpenSpec.ofChange pipeDrainsSpec)

/-- ITS FALSE NEIGHBOUR: 'it returns false'. Refute it at one input. -/
def pipeDrainsWrong : ChangeSpec := { name := "pipeDrains", fn := fun _ => fun
  | [d1, d2] => { results := [.lit (.bool false)], args := [d1, d2] }
  | _ => none }
def PipeDrainsWrongFalsely : Prop := pipeDrainsRow.holds Tryz.pinned (OpenSpec.ofChange pipeDrainsWrong)

/-- 'replevinlaw32.PipeFrame': WHATEVER THE INPUT: true; the input reads as it did. -/
def pipeFrameSpec : ChangeSpec := { name := "pipeFrame", fn := fun _ => fun
  | [d1, d2, d3] => { results := [.lit (.bool true)], args := [d1, d2, d3] }
  | _ => none }
def pipeFrameRow : OpenClaim := { program := "ytdjjfjnkkgmadaagreatdoor", sum := "aa1215d469023642750b98a4c59c474c196903d64653b69e3470c5dd02d11431", func := "replevin/replevinlaw32.PipeFrame", spec := "pipeFrame", inPlace := ["internal/bytealg.abigen_runtime_cmpstring"], unfollowed := true, recurses := true, named := ["strconv.ErrSyntax", "strconv.ErrRange", "internal/strconv.uint64pow10", "math/bits.deBruijn32tab", "math/bits.deBruijn64tab"], plainKeys := false, apart := false, laid := [("math/bits.deBruijn32tab", laid_math_bits_deBruijn32tab), ("math/bits.deBruijn64tab", laid_math_bits_deBruijn64tab), ("internal/strconv.uint64pow10", laid_internal_strconv_uint64pow10), ("strconv.ErrRange", laid_strconv_ErrRange), ("strconv.ErrSyntax", laid_strconv_ErrSyntax)] }
def PipeFrameSaid : Prop := pipeFrameRow.holds Tryz.pinned (OpenSpec.ofChange pipeFrameSpec)

/-- ITS FALSE NEIGHBOUR: 'it returns false'. Refute it at one input. -/
def pipeFrameWrong : ChangeSpec := { name := "pipeFrame", fn := fun _ => fun
  | [d1, d2, d3] => { results := [.lit (.bool false)], args := [d1, d2, d3] }
  | _ => none }
def PipeFrameWrongFalsely : Prop := pipeFrameRow.holds Tryz.pinned (OpenSpec.ofChange pipeFrameWrong)

/-- 'replevinlaw37.PortFrame': WHATEVER THE INPUT: true; the input reads as it did. -/
def portFrameSpec : ChangeSpec := { name := "portFrame", fn := fun _ => fun
  | [d1, d2, d3] => { results := [.lit (.bool true)], args := [d1, d2, d3] }
  | _ => none }
def portFrameRow : OpenClaim := { program := "ytdjjfjnkkgmadaagreatdoor", sum := "aa1215d469023642750b98a4c59c474c196903d64653b69e3470c5dd02d11431", func := "replevin/replevinlaw37.PortFrame", spec := "portFrame", inPlace := ["internal/bytealg.abigen_runtime_cmpstring"], unfollowed := true, recurses := true, named := ["strconv.ErrSyntax", "strconv.ErrRange", "internal/strconv.uint64pow10", "math/bits.deBruijn32tab", "math/bits.deBruijn64tab"], plainKeys := false, apart := false, laid := [("math/bits.deBruijn32tab", laid_math_bits_deBruijn32tab), ("math/bits.deBruijn64tab", laid_math_bits_deBruijn64tab), ("internal/strconv.uint64pow10", laid_internal_strconv_uint64pow10), ("strconv.ErrRange", laid_strconv_ErrRange), ("strconv.ErrSyntax", laid_strconv_ErrSyntax)] }
def PortFrameSaid : Prop := portFrameRow.holds Tryz.pinned (OpenSpec.ofChange portFrameSpec)

/-- ITS FALSE NEIGHBOUR: 'it returns false'. Refute it at one input. -/
def portFrameWrong : ChangeSpec := { name := "portFrame", fn := fun _ => fun
  | [d1, d2, d3] => { results := [.lit (.bool false)], args := [d1, d2, d3] }
  | _ => none }
def PortFrameWrongFalsely : Prop := portFrameRow.holds Tryz.pinned (OpenSpec.ofChange portFrameWrong)

/-- 'replevinlaw37.PortApart': WHATEVER THE INPUT: true; the input reads as it did. -/
def portApartSpec : ChangeSpec := { name := "portApart", fn := fun _ => fun
  | [d1, d2] => { results := [.lit (.bool true)], args := [d1, d2] }
  | _ => none }
def portApartRow : OpenClaim := { program := "ytdjjfjnkkgmadaagreatdoor", sum := "aa1215d469023642750b98a4c59c474c196903d64653b69e3470c5dd02d11431", func := "replevin/replevinlaw37.PortApart", spec := "portApart", inPlace := ["internal/bytealg.abigen_runtime_cmpstring"], unfollowed := true, recurses := true, named := ["strconv.ErrSyntax", "strconv.ErrRange", "internal/strconv.uint64pow10", "math/bits.deBruijn32tab", "math/bits.deBruijn64tab"], plainKeys := false, apart := false, laid := [("math/bits.deBruijn32tab", laid_math_bits_deBruijn32tab), ("math/bits.deBruijn64tab", laid_math_bits_deBruijn64tab), ("internal/strconv.uint64pow10", laid_internal_strconv_uint64pow10), ("strconv.ErrRange", laid_strconv_ErrRange), ("strconv.ErrSyntax", laid_strconv_ErrSyntax)] }
def PortApartSaid : Prop := portApartRow.holds Tryz.pinned (OpenSpec.ofChange portApartSpec)

/-- ITS FALSE NEIGHBOUR: 'it returns false'. Refute it at one input. -/
def portApartWrong : ChangeSpec := { name := "portApart", fn := fun _ => fun
  | [d1, d2] => { results := [.lit (.bool false)], args := [d1, d2] }
  | _ => none }
def PortApartWrongFalsely : Prop := portApartRow.holds Tryz.pinned (OpenSpec.ofChange portApartWrong)

/-- 'replevinlaw27.InodeNodes': WHATEVER THE INPUT: true; the input reads as it did. -/
def inodeNodesSpec : ChangeSpec := { name := "inodeNodes", fn := fun _ => fun
  | [d1, d2] => { results := [.lit (.bool true)], args := [d1, d2] }
  | _ => none }
def inodeNodesRow : OpenClaim := { program := "ytdjjfjnkkgmadaagreatdoor", sum := "aa1215d469023642750b98a4c59c474c196903d64653b69e3470c5dd02d11431", func := "replevin/replevinlaw27.InodeNodes", spec := "inodeNodes", inPlace := ["internal/bytealg.abigen_runtime_cmpstring"], unfollowed := true, recurses := true, named := ["strconv.ErrSyntax", "strconv.ErrRange", "internal/strconv.uint64pow10", "math/bits.deBruijn32tab", "math/bits.deBruijn64tab"], plainKeys := false, apart := false, laid := [("math/bits.deBruijn32tab", laid_math_bits_deBruijn32tab), ("math/bits.deBruijn64tab", laid_math_bits_deBruijn64tab), ("internal/strconv.uint64pow10", laid_internal_strconv_uint64pow10), ("strconv.ErrRange", laid_strconv_ErrRange), ("strconv.ErrSyntax", laid_strconv_ErrSyntax)] }
def InodeNodesSaid : Prop := inodeNodesRow.holds Tryz.pinned (OpenSpec.ofChange inodeNodesSpec)

/-- ITS FALSE NEIGHBOUR: 'it returns false'. Refute it at one input. -/
def inodeNodesWrong : ChangeSpec := { name := "inodeNodes", fn := fun _ => fun
  | [d1, d2] => { results := [.lit (.bool false)], args := [d1, d2] }
  | _ => none }
def InodeNodesWrongFalsely : Prop := inodeNodesRow.holds Tryz.pinned (OpenSpec.ofChange inodeNodesWrong)

/-- 'replevinlaw27.InodeCounts': WHATEVER THE INPUT: true; the input reads as it did. -/
def inodeCountsSpec : ChangeSpec := { name := "inodeCounts", fn := fun _ => fun
  | [d1, d2, d3] => { results := [.lit (.bool true)], args := [d1, d2, d3] }
  | _ => none }
def inodeCountsRow : OpenClaim := { program := "ytdjjfjnkkgmadaagreatdoor", sum := "aa1215d469023642750b98a4c59c474c196903d64653b69e3470c5dd02d11431", func := "replevin/replevinlaw27.InodeCounts", spec := "inodeCounts", inPlace := ["internal/bytealg.abigen_runtime_cmpstring"], unfollowed := true, recurses := true, named := ["strconv.ErrSyntax", "strconv.ErrRange", "internal/strconv.uint64pow10", "math/bits.deBruijn32tab", "math/bits.deBruijn64tab"], plainKeys := false, apart := false, laid := [("math/bits.deBruijn32tab", laid_math_bits_deBruijn32tab), ("math/bits.deBruijn64tab", laid_math_bits_deBruijn64tab), ("internal/strconv.uint64pow10", laid_internal_strconv_uint64pow10), ("strconv.ErrRange", laid_strconv_ErrRange), ("strconv.ErrSyntax", laid_strconv_ErrSyntax)] }
def InodeCountsSaid : Prop := inodeCountsRow.holds Tryz.pinned (OpenSpec.ofChange inodeCountsSpec)

/-- ITS FALSE NEIGHBOUR: 'it returns false'. Refute it at one input. -/
def inodeCountsWrong : ChangeSpec := { name := "inodeCounts", fn := fun _ => fun
  | [d1, d2, d3] => { results := [.lit (.bool false)], args := [d1, d2, d3] }
  | _ => none }
def InodeCountsWrongFalsely : Prop := inodeCountsRow.holds Tryz.pinned (OpenSpec.ofChange inodeCountsWrong)

/-- 'replevinlaw27.InodeBirths': WHATEVER THE INPUT: true; the input reads as it did. -/
def inodeBirthsSpec : ChangeSpec := { name := "inodeBirths", fn := fun _ => fun
  | [d] => { results := [.lit (.bool true)], args := [d] }
  | _ => none }
def inodeBirthsRow : OpenClaim := { program := "ytdjjfjnkkgmadaagreatdoor", sum := "aa1215d469023642750b98a4c59c474c196903d64653b69e3470c5dd02d11431", func := "replevin/replevinlaw27.InodeBirths", spec := "inodeBirths", inPlace := ["internal/bytealg.abigen_runtime_cmpstring"], unfollowed := true, recurses := true, named := ["strconv.ErrSyntax", "strconv.ErrRange", "internal/strconv.uint64pow10", "math/bits.deBruijn32tab", "math/bits.deBruijn64tab"], plainKeys := false, apart := false, laid := [("math/bits.deBruijn32tab", laid_math_bits_deBruijn32tab), ("math/bits.deBruijn64tab", laid_math_bits_deBruijn64tab), ("internal/strconv.uint64pow10", laid_internal_strconv_uint64pow10), ("strconv.ErrRange", laid_strconv_ErrRange), ("strconv.ErrSyntax", laid_strconv_ErrSyntax)] }
def InodeBirthsSaid : Prop := inodeBirthsRow.holds Tryz.pinned (OpenSpec.ofChange inodeBirthsSpec)

/-- ITS FALSE NEIGHBOUR: 'it returns false'. Refute it at one input. -/
def inodeBirthsWrong : ChangeSpec := { name := "inodeBirths", fn := fun _ => fun
  | [d] => { results := [.lit (.bool false)], args := [d] }
  | _ => none }
def InodeBirthsWrongFalsely : Prop := inodeBirthsRow.holds Tryz.pinned (OpenSpec.ofChange inodeBirthsWrong)

/-- 'replevinlaw27.InodeParts': WHATEVER THE INPUT: true; the input reads as it did. -/
def inodePartsSpec : ChangeSpec := { name := "inodeParts", fn := fun _ => fun
  | [d1, d2, d3] => { results := [.lit (.bool true)], args := [d1, d2, d3] }
  | _ => none }
def inodePartsRow : OpenClaim := { program := "ytdjjfjnkkgmadaagreatdoor", sum := "aa1215d469023642750b98a4c59c474c196903d64653b69e3470c5dd02d11431", func := "replevin/replevinlaw27.InodeParts", spec := "inodeParts", inPlace := ["internal/bytealg.abigen_runtime_cmpstring", "internal/abi.NoEscape"], unfollowed := true, recurses := true, named := ["strconv.ErrSyntax", "strconv.ErrRange", "internal/strconv.uint64pow10", "math/bits.deBruijn32tab", "math/bits.deBruijn64tab"], plainKeys := false, apart := false, laid := [("math/bits.deBruijn32tab", laid_math_bits_deBruijn32tab), ("math/bits.deBruijn64tab", laid_math_bits_deBruijn64tab), ("internal/strconv.uint64pow10", laid_internal_strconv_uint64pow10), ("strconv.ErrRange", laid_strconv_ErrRange), ("strconv.ErrSyntax", laid_strconv_ErrSyntax)] }
def InodePartsSaid : Prop := inodePartsRow.holds Tryz.pinned (OpenSpec.ofChange inodePartsSpec)

/-- ITS FALSE NEIGHBOUR: 'it returns false'. Refute it at one input. -/
def inodePartsWrong : ChangeSpec := { name := "inodeParts", fn := fun _ => fun
  | [d1, d2, d3] => { results := [.lit (.bool false)], args := [d1, d2, d3] }
  | _ => none }
def InodePartsWrongFalsely : Prop := inodePartsRow.holds Tryz.pinned (OpenSpec.ofChange inodePartsWrong)

/-- 'replevinlaw27.InodeSizes': WHATEVER THE INPUT: true; the input reads as it did. -/
def inodeSizesSpec : ChangeSpec := { name := "inodeSizes", fn := fun _ => fun
  | [d1, d2] => { results := [.lit (.bool true)], args := [d1, d2] }
  | _ => none }
def inodeSizesRow : OpenClaim := { program := "ytdjjfjnkkgmadaagreatdoor", sum := "aa1215d469023642750b98a4c59c474c196903d64653b69e3470c5dd02d11431", func := "replevin/replevinlaw27.InodeSizes", spec := "inodeSizes", inPlace := ["internal/bytealg.abigen_runtime_cmpstring", "internal/abi.NoEscape"], unfollowed := true, recurses := true, named := ["strconv.ErrSyntax", "strconv.ErrRange", "internal/strconv.uint64pow10", "math/bits.deBruijn32tab", "math/bits.deBruijn64tab"], plainKeys := false, apart := false, laid := [("math/bits.deBruijn32tab", laid_math_bits_deBruijn32tab), ("math/bits.deBruijn64tab", laid_math_bits_deBruijn64tab), ("internal/strconv.uint64pow10", laid_internal_strconv_uint64pow10), ("strconv.ErrRange", laid_strconv_ErrRange), ("strconv.ErrSyntax", laid_strconv_ErrSyntax)] }
def InodeSizesSaid : Prop := inodeSizesRow.holds Tryz.pinned (OpenSpec.ofChange inodeSizesSpec)

/-- ITS FALSE NEIGHBOUR: 'it returns false'. Refute it at one input. -/
def inodeSizesWrong : ChangeSpec := { name := "inodeSizes", fn := fun _ => fun
  | [d1, d2] => { results := [.lit (.bool false)], args := [d1, d2] }
  | _ => none }
def InodeSizesWrongFalsely : Prop := inodeSizesRow.holds Tryz.pinned (OpenSpec.ofChange inodeSizesWrong)

/- THE SECOND FORM. 'bulk': how many values and letters a reading holds, each counted each time it is reached (what is shared counts as often as it is met; a slice's spare places count too). A statement '..UptoSaid' is the law's where the arguments, and the package variables that the reading takes, are together of bulk at most 1048576: NARROWER than '..Said'. Prove '..Said' where nothing that the law and all that it calls make is longer than what came in: it says more and counts as full. Else prove '..UptoSaid'. A law counts once. -/
mutual
def uptoBulk {H : Type} : DataW H → Nat
  | .lit (.string bytes) => bytes.length + 1
  | .lit _ => 1
  | .nil => 1
  | .ptr d => uptoBulk d + 1
  | .slice elems spare => uptoBulkAll elems + uptoBulkAll spare + 1
  | .agg parts => uptoBulkAll parts + 1
  | .iface _ d => uptoBulk d + 1
  | .map entries => uptoBulkEntries entries + 1
  | .held _ => 1
def uptoBulkAll {H : Type} : List (DataW H) → Nat
  | [] => 0
  | d :: r => uptoBulk d + uptoBulkAll r
def uptoBulkEntries {H : Type} : List (Lit × DataW H) → Nat
  | [] => 0
  | x :: r => uptoBulkEntry x + uptoBulkEntries r
def uptoBulkEntry {H : Type} : Lit × DataW H → Nat
  | (.string bytes, d) => bytes.length + uptoBulk d + 1
  | (_, d) => uptoBulk d + 1
 end
def uptoSmall : (H : Type) → List (DataW H) → Bool := fun _ ds => decide (uptoBulkAll ds ≤ 1048576)
def OpenSpec.upto (s : _root_.Go.ChangeSpec) : _root_.Go.OpenSpec := { _root_.Go.OpenSpec.ofChange s with cond := some uptoSmall }

/-- 'replevinlaw32.PipeValues', WHERE WHAT IT READS IS OF BULK AT MOST 1048576: true; the input reads as it did. -/
def pipeValuesUptoRow : OpenClaim := { program := "ytdjjfjnkkgmadaagreatdoor", sum := "aa1215d469023642750b98a4c59c474c196903d64653b69e3470c5dd02d11431", func := "replevin/replevinlaw32.PipeValues", spec := "pipeValues", inPlace := ["internal/bytealg.abigen_runtime_cmpstring"], unfollowed := true, recurses := true, named := ["strconv.ErrSyntax", "strconv.ErrRange", "internal/strconv.uint64pow10", "math/bits.deBruijn32tab", "math/bits.deBruijn64tab"], plainKeys := false, apart := false, laid := [("math/bits.deBruijn32tab", laid_math_bits_deBruijn32tab), ("math/bits.deBruijn64tab", laid_math_bits_deBruijn64tab), ("internal/strconv.uint64pow10", laid_internal_strconv_uint64pow10), ("strconv.ErrRange", laid_strconv_ErrRange), ("strconv.ErrSyntax", laid_strconv_ErrSyntax)], narrowed := true }
def PipeValuesUptoSaid : Prop := pipeValuesUptoRow.holds Tryz.pinned (OpenSpec.upto pipeValuesSpec)

/-- 'replevinlaw32.PipeBusy', WHERE WHAT IT READS IS OF BULK AT MOST 1048576: true; the input reads as it did. -/
def pipeBusyUptoRow : OpenClaim := { program := "ytdjjfjnkkgmadaagreatdoor", sum := "aa1215d469023642750b98a4c59c474c196903d64653b69e3470c5dd02d11431", func := "replevin/replevinlaw32.PipeBusy", spec := "pipeBusy", inPlace := ["internal/bytealg.abigen_runtime_cmpstring"], unfollowed := true, recurses := true, named := ["strconv.ErrSyntax", "strconv.ErrRange", "internal/strconv.uint64pow10", "math/bits.deBruijn32tab", "math/bits.deBruijn64tab"], plainKeys := false, apart := false, laid := [("math/bits.deBruijn32tab", laid_math_bits_deBruijn32tab), ("math/bits.deBruijn64tab", laid_math_bits_deBruijn64tab), ("internal/strconv.uint64pow10", laid_internal_strconv_uint64pow10), ("strconv.ErrRange", laid_strconv_ErrRange), ("strconv.ErrSyntax", laid_strconv_ErrSyntax)], narrowed := true }
def PipeBusyUptoSaid : Prop := pipeBusyUptoRow.holds Tryz.pinned (OpenSpec.upto pipeBusySpec)

/-- 'replevinlaw37.PortEncodes', WHERE WHAT IT READS IS OF BULK AT MOST 1048576: true; the input reads as it did. -/
def portEncodesUptoRow : OpenClaim := { program := "ytdjjfjnkkgmadaagreatdoor", sum := "aa1215d469023642750b98a4c59c474c196903d64653b69e3470c5dd02d11431", func := "replevin/replevinlaw37.PortEncodes", spec := "portEncodes", inPlace := ["internal/bytealg.abigen_runtime_cmpstring"], unfollowed := true, recurses := true, named := ["strconv.ErrSyntax", "strconv.ErrRange", "internal/strconv.uint64pow10", "math/bits.deBruijn32tab", "math/bits.deBruijn64tab"], plainKeys := false, apart := false, laid := [("math/bits.deBruijn32tab", laid_math_bits_deBruijn32tab), ("math/bits.deBruijn64tab", laid_math_bits_deBruijn64tab), ("internal/strconv.uint64pow10", laid_internal_strconv_uint64pow10), ("strconv.ErrRange", laid_strconv_ErrRange), ("strconv.ErrSyntax", laid_strconv_ErrSyntax)], narrowed := true }
def PortEncodesUptoSaid : Prop := portEncodesUptoRow.holds Tryz.pinned (OpenSpec.upto portEncodesSpec)

/-- 'replevinlaw37.PortDecodes', WHERE WHAT IT READS IS OF BULK AT MOST 1048576: true; the input reads as it did. -/
def portDecodesUptoRow : OpenClaim := { program := "ytdjjfjnkkgmadaagreatdoor", sum := "aa1215d469023642750b98a4c59c474c196903d64653b69e3470c5dd02d11431", func := "replevin/replevinlaw37.PortDecodes", spec := "portDecodes", inPlace := ["internal/bytealg.abigen_runtime_cmpstring"], unfollowed := true, recurses := true, named := ["strconv.ErrSyntax", "strconv.ErrRange", "internal/strconv.uint64pow10", "math/bits.deBruijn32tab", "math/bits.deBruijn64tab"], plainKeys := false, apart := false, laid := [("math/bits.deBruijn32tab", laid_math_bits_deBruijn32tab), ("math/bits.deBruijn64tab", laid_math_bits_deBruijn64tab), ("internal/strconv.uint64pow10", laid_internal_strconv_uint64pow10), ("strconv.ErrRange", laid_strconv_ErrRange), ("strconv.ErrSyntax", laid_strconv_ErrSyntax)], narrowed := true }
def PortDecodesUptoSaid : Prop := portDecodesUptoRow.holds Tryz.pinned (OpenSpec.upto portDecodesSpec)

/-- 'replevinlaw32.PipeOrder', WHERE WHAT IT READS IS OF BULK AT MOST 1048576: true; the input reads as it did. -/
def pipeOrderUptoRow : OpenClaim := { program := "ytdjjfjnkkgmadaagreatdoor", sum := "aa1215d469023642750b98a4c59c474c196903d64653b69e3470c5dd02d11431", func := "replevin/replevinlaw32.PipeOrder", spec := "pipeOrder", inPlace := ["internal/bytealg.abigen_runtime_cmpstring"], unfollowed := true, recurses := true, named := ["strconv.ErrSyntax", "strconv.ErrRange", "internal/strconv.uint64pow10", "math/bits.deBruijn32tab", "math/bits.deBruijn64tab"], plainKeys := false, apart := false, laid := [("math/bits.deBruijn32tab", laid_math_bits_deBruijn32tab), ("math/bits.deBruijn64tab", laid_math_bits_deBruijn64tab), ("internal/strconv.uint64pow10", laid_internal_strconv_uint64pow10), ("strconv.ErrRange", laid_strconv_ErrRange), ("strconv.ErrSyntax", laid_strconv_ErrSyntax)], narrowed := true }
def PipeOrderUptoSaid : Prop := pipeOrderUptoRow.holds Tryz.pinned (OpenSpec.upto pipeOrderSpec)

/-- 'replevinlaw27.InodeErrors', WHERE WHAT IT READS IS OF BULK AT MOST 1048576: true; the input reads as it did. -/
def inodeErrorsUptoRow : OpenClaim := { program := "ytdjjfjnkkgmadaagreatdoor", sum := "aa1215d469023642750b98a4c59c474c196903d64653b69e3470c5dd02d11431", func := "replevin/replevinlaw27.InodeErrors", spec := "inodeErrors", inPlace := ["internal/bytealg.abigen_runtime_cmpstring", "internal/abi.NoEscape"], unfollowed := true, recurses := true, named := ["strconv.ErrSyntax", "strconv.ErrRange", "internal/strconv.uint64pow10", "math/bits.deBruijn32tab", "math/bits.deBruijn64tab"], plainKeys := false, apart := false, laid := [("math/bits.deBruijn32tab", laid_math_bits_deBruijn32tab), ("math/bits.deBruijn64tab", laid_math_bits_deBruijn64tab), ("internal/strconv.uint64pow10", laid_internal_strconv_uint64pow10), ("strconv.ErrRange", laid_strconv_ErrRange), ("strconv.ErrSyntax", laid_strconv_ErrSyntax)], narrowed := true }
def InodeErrorsUptoSaid : Prop := inodeErrorsUptoRow.holds Tryz.pinned (OpenSpec.upto inodeErrorsSpec)

/-- 'replevinlaw32.PipeEnds', WHERE WHAT IT READS IS OF BULK AT MOST 1048576: true; the input reads as it did. -/
def pipeEndsUptoRow : OpenClaim := { program := "ytdjjfjnkkgmadaagreatdoor", sum := "aa1215d469023642750b98a4c59c474c196903d64653b69e3470c5dd02d11431", func := "replevin/replevinlaw32.PipeEnds", spec := "pipeEnds", inPlace := ["internal/bytealg.abigen_runtime_cmpstring"], unfollowed := true, recurses := true, named := ["strconv.ErrSyntax", "strconv.ErrRange", "internal/strconv.uint64pow10", "math/bits.deBruijn32tab", "math/bits.deBruijn64tab"], plainKeys := false, apart := false, laid := [("math/bits.deBruijn32tab", laid_math_bits_deBruijn32tab), ("math/bits.deBruijn64tab", laid_math_bits_deBruijn64tab), ("internal/strconv.uint64pow10", laid_internal_strconv_uint64pow10), ("strconv.ErrRange", laid_strconv_ErrRange), ("strconv.ErrSyntax", laid_strconv_ErrSyntax)], narrowed := true }
def PipeEndsUptoSaid : Prop := pipeEndsUptoRow.holds Tryz.pinned (OpenSpec.upto pipeEndsSpec)

/-- 'replevinlaw27.InodeFrame', WHERE WHAT IT READS IS OF BULK AT MOST 1048576: true; the input reads as it did. -/
def inodeFrameUptoRow : OpenClaim := { program := "ytdjjfjnkkgmadaagreatdoor", sum := "aa1215d469023642750b98a4c59c474c196903d64653b69e3470c5dd02d11431", func := "replevin/replevinlaw27.InodeFrame", spec := "inodeFrame", inPlace := ["internal/bytealg.abigen_runtime_cmpstring", "internal/abi.NoEscape"], unfollowed := true, recurses := true, named := ["strconv.ErrSyntax", "strconv.ErrRange", "internal/strconv.uint64pow10", "math/bits.deBruijn32tab", "math/bits.deBruijn64tab"], plainKeys := false, apart := false, laid := [("math/bits.deBruijn32tab", laid_math_bits_deBruijn32tab), ("math/bits.deBruijn64tab", laid_math_bits_deBruijn64tab), ("internal/strconv.uint64pow10", laid_internal_strconv_uint64pow10), ("strconv.ErrRange", laid_strconv_ErrRange), ("strconv.ErrSyntax", laid_strconv_ErrSyntax)], narrowed := true }
def InodeFrameUptoSaid : Prop := inodeFrameUptoRow.holds Tryz.pinned (OpenSpec.upto inodeFrameSpec)

/-- 'replevinlaw37.PortQueues', WHERE WHAT IT READS IS OF BULK AT MOST 1048576: true; the input reads as it did. -/
def portQueuesUptoRow : OpenClaim := { program := "ytdjjfjnkkgmadaagreatdoor", sum := "aa1215d469023642750b98a4c59c474c196903d64653b69e3470c5dd02d11431", func := "replevin/replevinlaw37.PortQueues", spec := "portQueues", inPlace := ["internal/bytealg.abigen_runtime_cmpstring"], unfollowed := true, recurses := true, named := ["strconv.ErrSyntax", "strconv.ErrRange", "internal/strconv.uint64pow10", "math/bits.deBruijn32tab", "math/bits.deBruijn64tab"], plainKeys := false, apart := false, laid := [("math/bits.deBruijn32tab", laid_math_bits_deBruijn32tab), ("math/bits.deBruijn64tab", laid_math_bits_deBruijn64tab), ("internal/strconv.uint64pow10", laid_internal_strconv_uint64pow10), ("strconv.ErrRange", laid_strconv_ErrRange), ("strconv.ErrSyntax", laid_strconv_ErrSyntax)], narrowed := true }
def PortQueuesUptoSaid : Prop := portQueuesUptoRow.holds Tryz.pinned (OpenSpec.upto portQueuesSpec)

/-- 'replevinlaw37.PortEpochs', WHERE WHAT IT READS IS OF BULK AT MOST 1048576: true; the input reads as it did. -/
def portEpochsUptoRow : OpenClaim := { program := "ytdjjfjnkkgmadaagreatdoor", sum := "aa1215d469023642750b98a4c59c474c196903d64653b69e3470c5dd02d11431", func := "replevin/replevinlaw37.PortEpochs", spec := "portEpochs", inPlace := ["internal/bytealg.abigen_runtime_cmpstring"], unfollowed := true, recurses := true, named := ["strconv.ErrSyntax", "strconv.ErrRange", "internal/strconv.uint64pow10", "math/bits.deBruijn32tab", "math/bits.deBruijn64tab"], plainKeys := false, apart := false, laid := [("math/bits.deBruijn32tab", laid_math_bits_deBruijn32tab), ("math/bits.deBruijn64tab", laid_math_bits_deBruijn64tab), ("internal/strconv.uint64pow10", laid_internal_strconv_uint64pow10), ("strconv.ErrRange", laid_strconv_ErrRange), ("strconv.ErrSyntax", laid_strconv_ErrSyntax)], narrowed := true }
def PortEpochsUptoSaid : Prop := portEpochsUptoRow.holds Tryz.pinned (OpenSpec.upto portEpochsSpec)

/-- 'replevinlaw37.PortNil', WHERE WHAT IT READS IS OF BULK AT MOST 1048576: true; the input reads as it did. -/
def portNilUptoRow : OpenClaim := { program := "ytdjjfjnkkgmadaagreatdoor", sum := "aa1215d469023642750b98a4c59c474c196903d64653b69e3470c5dd02d11431", func := "replevin/replevinlaw37.PortNil", spec := "portNil", inPlace := ["internal/bytealg.abigen_runtime_cmpstring"], unfollowed := true, recurses := true, named := ["strconv.ErrSyntax", "strconv.ErrRange", "internal/strconv.uint64pow10", "math/bits.deBruijn32tab", "math/bits.deBruijn64tab"], plainKeys := false, apart := false, laid := [("math/bits.deBruijn32tab", laid_math_bits_deBruijn32tab), ("math/bits.deBruijn64tab", laid_math_bits_deBruijn64tab), ("internal/strconv.uint64pow10", laid_internal_strconv_uint64pow10), ("strconv.ErrRange", laid_strconv_ErrRange), ("strconv.ErrSyntax", laid_strconv_ErrSyntax)], narrowed := true }
def PortNilUptoSaid : Prop := portNilUptoRow.holds Tryz.pinned (OpenSpec.upto portNilSpec)

/-- 'replevinlaw37.PortBroken', WHERE WHAT IT READS IS OF BULK AT MOST 1048576: true; the input reads as it did. -/
def portBrokenUptoRow : OpenClaim := { program := "ytdjjfjnkkgmadaagreatdoor", sum := "aa1215d469023642750b98a4c59c474c196903d64653b69e3470c5dd02d11431", func := "replevin/replevinlaw37.PortBroken", spec := "portBroken", inPlace := ["internal/bytealg.abigen_runtime_cmpstring"], unfollowed := true, recurses := true, named := ["strconv.ErrSyntax", "strconv.ErrRange", "internal/strconv.uint64pow10", "math/bits.deBruijn32tab", "math/bits.deBruijn64tab"], plainKeys := false, apart := false, laid := [("math/bits.deBruijn32tab", laid_math_bits_deBruijn32tab), ("math/bits.deBruijn64tab", laid_math_bits_deBruijn64tab), ("internal/strconv.uint64pow10", laid_internal_strconv_uint64pow10), ("strconv.ErrRange", laid_strconv_ErrRange), ("strconv.ErrSyntax", laid_strconv_ErrSyntax)], narrowed := true }
def PortBrokenUptoSaid : Prop := portBrokenUptoRow.holds Tryz.pinned (OpenSpec.upto portBrokenSpec)

/-- 'replevinlaw32.PipeDrains', WHERE WHAT IT READS IS OF BULK AT MOST 1048576: true; the input reads as it did. -/
def pipeDrainsUptoRow : OpenClaim := { program := "ytdjjfjnkkgmadaagreatdoor", sum := "aa1215d469023642750b98a4c59c474c196903d64653b69e3470c5dd02d11431", func := "replevin/replevinlaw32.PipeDrains", spec := "pipeDrains", inPlace := ["internal/bytealg.abigen_runtime_cmpstring"], unfollowed := true, recurses := true, named := ["strconv.ErrSyntax", "strconv.ErrRange", "internal/strconv.uint64pow10", "math/bits.deBruijn32tab", "math/bits.deBruijn64tab"], plainKeys := false, apart := false, laid := [("math/bits.deBruijn32tab", laid_math_bits_deBruijn32tab), ("math/bits.deBruijn64tab", laid_math_bits_deBruijn64tab), ("internal/strconv.uint64pow10", laid_internal_strconv_uint64pow10), ("strconv.ErrRange", laid_strconv_ErrRange), ("strconv.ErrSyntax", laid_strconv_ErrSyntax)], narrowed := true }
def PipeDrainsUptoSaid : Prop := pipeDrainsUptoRow.holds Tryz.pinned (OpenSpec.upto pipeDrainsSpec)

/-- 'replevinlaw32.PipeFrame', WHERE WHAT IT READS IS OF BULK AT MOST 1048576: true; the input reads as it did. -/
def pipeFrameUptoRow : OpenClaim := { program := "ytdjjfjnkkgmadaagreatdoor", sum := "aa1215d469023642750b98a4c59c474c196903d64653b69e3470c5dd02d11431", func := "replevin/replevinlaw32.PipeFrame", spec := "pipeFrame", inPlace := ["internal/bytealg.abigen_runtime_cmpstring"], unfollowed := true, recurses := true, named := ["strconv.ErrSyntax", "strconv.ErrRange", "internal/strconv.uint64pow10", "math/bits.deBruijn32tab", "math/bits.deBruijn64tab"], plainKeys := false, apart := false, laid := [("math/bits.deBruijn32tab", laid_math_bits_deBruijn32tab), ("math/bits.deBruijn64tab", laid_math_bits_deBruijn64tab), ("internal/strconv.uint64pow10", laid_internal_strconv_uint64pow10), ("strconv.ErrRange", laid_strconv_ErrRange), ("strconv.ErrSyntax", laid_strconv_ErrSyntax)], narrowed := true }
def PipeFrameUptoSaid : Prop := pipeFrameUptoRow.holds Tryz.pinned (OpenSpec.upto pipeFrameSpec)

/-- 'replevinlaw37.PortFrame', WHERE WHAT IT READS IS OF BULK AT MOST 1048576: true; the input reads as it did. -/
def portFrameUptoRow : OpenClaim := { program := "ytdjjfjnkkgmadaagreatdoor", sum := "aa1215d469023642750b98a4c59c474c196903d64653b69e3470c5dd02d11431", func := "replevin/replevinlaw37.PortFrame", spec := "portFrame", inPlace := ["internal/bytealg.abigen_runtime_cmpstring"], unfollowed := true, recurses := true, named := ["strconv.ErrSyntax", "strconv.ErrRange", "internal/strconv.uint64pow10", "math/bits.deBruijn32tab", "math/bits.deBruijn64tab"], plainKeys := false, apart := false, laid := [("math/bits.deBruijn32tab", laid_math_bits_deBruijn32tab), ("math/bits.deBruijn64tab", laid_math_bits_deBruijn64tab), ("internal/strconv.uint64pow10", laid_internal_strconv_uint64pow10), ("strconv.ErrRange", laid_strconv_ErrRange), ("strconv.ErrSyntax", laid_strconv_ErrSyntax)], narrowed := true }
def PortFrameUptoSaid : Prop := portFrameUptoRow.holds Tryz.pinned (OpenSpec.upto portFrameSpec)

/-- 'replevinlaw37.PortApart', WHERE WHAT IT READS IS OF BULK AT MOST 1048576: true; the input reads as it did. -/
def portApartUptoRow : OpenClaim := { program := "ytdjjfjnkkgmadaagreatdoor", sum := "aa1215d469023642750b98a4c59c474c196903d64653b69e3470c5dd02d11431", func := "replevin/replevinlaw37.PortApart", spec := "portApart", inPlace := ["internal/bytealg.abigen_runtime_cmpstring"], unfollowed := true, recurses := true, named := ["strconv.ErrSyntax", "strconv.ErrRange", "internal/strconv.uint64pow10", "math/bits.deBruijn32tab", "math/bits.deBruijn64tab"], plainKeys := false, apart := false, laid := [("math/bits.deBruijn32tab", laid_math_bits_deBruijn32tab), ("math/bits.deBruijn64tab", laid_math_bits_deBruijn64tab), ("internal/strconv.uint64pow10", laid_internal_strconv_uint64pow10), ("strconv.ErrRange", laid_strconv_ErrRange), ("strconv.ErrSyntax", laid_strconv_ErrSyntax)], narrowed := true }
def PortApartUptoSaid : Prop := portApartUptoRow.holds Tryz.pinned (OpenSpec.upto portApartSpec)

/-- 'replevinlaw27.InodeNodes', WHERE WHAT IT READS IS OF BULK AT MOST 1048576: true; the input reads as it did. -/
def inodeNodesUptoRow : OpenClaim := { program := "ytdjjfjnkkgmadaagreatdoor", sum := "aa1215d469023642750b98a4c59c474c196903d64653b69e3470c5dd02d11431", func := "replevin/replevinlaw27.InodeNodes", spec := "inodeNodes", inPlace := ["internal/bytealg.abigen_runtime_cmpstring"], unfollowed := true, recurses := true, named := ["strconv.ErrSyntax", "strconv.ErrRange", "internal/strconv.uint64pow10", "math/bits.deBruijn32tab", "math/bits.deBruijn64tab"], plainKeys := false, apart := false, laid := [("math/bits.deBruijn32tab", laid_math_bits_deBruijn32tab), ("math/bits.deBruijn64tab", laid_math_bits_deBruijn64tab), ("internal/strconv.uint64pow10", laid_internal_strconv_uint64pow10), ("strconv.ErrRange", laid_strconv_ErrRange), ("strconv.ErrSyntax", laid_strconv_ErrSyntax)], narrowed := true }
def InodeNodesUptoSaid : Prop := inodeNodesUptoRow.holds Tryz.pinned (OpenSpec.upto inodeNodesSpec)

/-- 'replevinlaw27.InodeCounts', WHERE WHAT IT READS IS OF BULK AT MOST 1048576: true; the input reads as it did. -/
def inodeCountsUptoRow : OpenClaim := { program := "ytdjjfjnkkgmadaagreatdoor", sum := "aa1215d469023642750b98a4c59c474c196903d64653b69e3470c5dd02d11431", func := "replevin/replevinlaw27.InodeCounts", spec := "inodeCounts", inPlace := ["internal/bytealg.abigen_runtime_cmpstring"], unfollowed := true, recurses := true, named := ["strconv.ErrSyntax", "strconv.ErrRange", "internal/strconv.uint64pow10", "math/bits.deBruijn32tab", "math/bits.deBruijn64tab"], plainKeys := false, apart := false, laid := [("math/bits.deBruijn32tab", laid_math_bits_deBruijn32tab), ("math/bits.deBruijn64tab", laid_math_bits_deBruijn64tab), ("internal/strconv.uint64pow10", laid_internal_strconv_uint64pow10), ("strconv.ErrRange", laid_strconv_ErrRange), ("strconv.ErrSyntax", laid_strconv_ErrSyntax)], narrowed := true }
def InodeCountsUptoSaid : Prop := inodeCountsUptoRow.holds Tryz.pinned (OpenSpec.upto inodeCountsSpec)

/-- 'replevinlaw27.InodeBirths', WHERE WHAT IT READS IS OF BULK AT MOST 1048576: true; the input reads as it did. -/
def inodeBirthsUptoRow : OpenClaim := { program := "ytdjjfjnkkgmadaagreatdoor", sum := "aa1215d469023642750b98a4c59c474c196903d64653b69e3470c5dd02d11431", func := "replevin/replevinlaw27.InodeBirths", spec := "inodeBirths", inPlace := ["internal/bytealg.abigen_runtime_cmpstring"], unfollowed := true, recurses := true, named := ["strconv.ErrSyntax", "strconv.ErrRange", "internal/strconv.uint64pow10", "math/bits.deBruijn32tab", "math/bits.deBruijn64tab"], plainKeys := false, apart := false, laid := [("math/bits.deBruijn32tab", laid_math_bits_deBruijn32tab), ("math/bits.deBruijn64tab", laid_math_bits_deBruijn64tab), ("internal/strconv.uint64pow10", laid_internal_strconv_uint64pow10), ("strconv.ErrRange", laid_strconv_ErrRange), ("strconv.ErrSyntax", laid_strconv_ErrSyntax)], narrowed := true }
def InodeBirthsUptoSaid : Prop := inodeBirthsUptoRow.holds Tryz.pinned (OpenSpec.upto inodeBirthsSpec)

/-- 'replevinlaw27.InodeParts', WHERE WHAT IT READS IS OF BULK AT MOST 1048576: true; the input reads as it did. -/
def inodePartsUptoRow : OpenClaim := { program := "ytdjjfjnkkgmadaagreatdoor", sum := "aa1215d469023642750b98a4c59c474c196903d64653b69e3470c5dd02d11431", func := "replevin/replevinlaw27.InodeParts", spec := "inodeParts", inPlace := ["internal/bytealg.abigen_runtime_cmpstring", "internal/abi.NoEscape"], unfollowed := true, recurses := true, named := ["strconv.ErrSyntax", "strconv.ErrRange", "internal/strconv.uint64pow10", "math/bits.deBruijn32tab", "math/bits.deBruijn64tab"], plainKeys := false, apart := false, laid := [("math/bits.deBruijn32tab", laid_math_bits_deBruijn32tab), ("math/bits.deBruijn64tab", laid_math_bits_deBruijn64tab), ("internal/strconv.uint64pow10", laid_internal_strconv_uint64pow10), ("strconv.ErrRange", laid_strconv_ErrRange), ("strconv.ErrSyntax", laid_strconv_ErrSyntax)], narrowed := true }
def InodePartsUptoSaid : Prop := inodePartsUptoRow.holds Tryz.pinned (OpenSpec.upto inodePartsSpec)

/-- 'replevinlaw27.InodeSizes', WHERE WHAT IT READS IS OF BULK AT MOST 1048576: true; the input reads as it did. -/
def inodeSizesUptoRow : OpenClaim := { program := "ytdjjfjnkkgmadaagreatdoor", sum := "aa1215d469023642750b98a4c59c474c196903d64653b69e3470c5dd02d11431", func := "replevin/replevinlaw27.InodeSizes", spec := "inodeSizes", inPlace := ["internal/bytealg.abigen_runtime_cmpstring", "internal/abi.NoEscape"], unfollowed := true, recurses := true, named := ["strconv.ErrSyntax", "strconv.ErrRange", "internal/strconv.uint64pow10", "math/bits.deBruijn32tab", "math/bits.deBruijn64tab"], plainKeys := false, apart := false, laid := [("math/bits.deBruijn32tab", laid_math_bits_deBruijn32tab), ("math/bits.deBruijn64tab", laid_math_bits_deBruijn64tab), ("internal/strconv.uint64pow10", laid_internal_strconv_uint64pow10), ("strconv.ErrRange", laid_strconv_ErrRange), ("strconv.ErrSyntax", laid_strconv_ErrSyntax)], narrowed := true }
def InodeSizesUptoSaid : Prop := inodeSizesUptoRow.holds Tryz.pinned (OpenSpec.upto inodeSizesSpec)

end Rows
end Go.Proofs.YtdjjfjnkkgmadaaGreatDoor
