/-
  DERIVED. GIVEN WITH THE SEED: THE CARDS: each row of YtdjjfjnkkgmadaaGreatDoorRows.lean that lists a variable, with what it lists TIED to the program's text (the seventh form; the later family's looks); each row that meets fmt, with fmt's text TOLD by the authors' own Lean function (tested against real Go, not proved from fmt's source: count such statements apart). THE CARD IS WHAT COUNTS. Prove the row's statement (the work); the ties are given (YtdjjfjnkkgmadaaGreatDoorTie.lean); close each card by the builder's one call (the guide's Derived/Test/ToyasCard.lean, 'card_holds'). Laid BY PROGRAM, IN A SANDBOX (cutbox-door.mjs). By AI agents, Wed Nov 11 2026. No macro, syntax, notation, axiom, sorry.
-/
import Derived.Test.YtdjjfjnkkgmadaaGreatDoorRows
import GoSem.ClaimSeven
namespace Go.Proofs.YtdjjfjnkkgmadaaGreatDoor
namespace Rows

/-- THE TIED CARD OF 'replevinlaw32.PipeValues'. -/
def pipeValuesCard : Claim7 := { stood := { row := pipeValuesRow, standIns := [], harness := (true, "01d9390c779121418bffdd38619da0e0589022fe073f05aca4c221008ea5f8e4"), looks := true }, kinds := [], alts := [], laidByText := true, laidKinds := [.data, .data, .data, .sentinel, .sentinel], laidTests := true, laidLooks := .later }
def PipeValuesCardSaid : Prop := Claim7.holds Tryz.pinned (.plain (OpenSpec.ofChange pipeValuesSpec)) pipeValuesCard

/-- THE TIED CARD OF 'replevinlaw32.PipeBusy'. -/
def pipeBusyCard : Claim7 := { stood := { row := pipeBusyRow, standIns := [], harness := (true, "01d9390c779121418bffdd38619da0e0589022fe073f05aca4c221008ea5f8e4"), looks := true }, kinds := [], alts := [], laidByText := true, laidKinds := [.data, .data, .data, .sentinel, .sentinel], laidTests := true, laidLooks := .later }
def PipeBusyCardSaid : Prop := Claim7.holds Tryz.pinned (.plain (OpenSpec.ofChange pipeBusySpec)) pipeBusyCard

/-- THE TIED CARD OF 'replevinlaw37.PortEncodes'. -/
def portEncodesCard : Claim7 := { stood := { row := portEncodesRow, standIns := [], harness := (true, "01d9390c779121418bffdd38619da0e0589022fe073f05aca4c221008ea5f8e4"), looks := true }, kinds := [], alts := [], laidByText := true, laidKinds := [.data, .data, .data, .sentinel, .sentinel], laidTests := true, laidLooks := .later }
def PortEncodesCardSaid : Prop := Claim7.holds Tryz.pinned (.plain (OpenSpec.ofChange portEncodesSpec)) portEncodesCard

/-- THE TIED CARD OF 'replevinlaw37.PortDecodes'. -/
def portDecodesCard : Claim7 := { stood := { row := portDecodesRow, standIns := [], harness := (true, "01d9390c779121418bffdd38619da0e0589022fe073f05aca4c221008ea5f8e4"), looks := true }, kinds := [], alts := [], laidByText := true, laidKinds := [.data, .data, .data, .sentinel, .sentinel], laidTests := true, laidLooks := .later }
def PortDecodesCardSaid : Prop := Claim7.holds Tryz.pinned (.plain (OpenSpec.ofChange portDecodesSpec)) portDecodesCard

/-- THE TIED CARD OF 'replevinlaw32.PipeOrder'. -/
def pipeOrderCard : Claim7 := { stood := { row := pipeOrderRow, standIns := [], harness := (true, "01d9390c779121418bffdd38619da0e0589022fe073f05aca4c221008ea5f8e4"), looks := true }, kinds := [], alts := [], laidByText := true, laidKinds := [.data, .data, .data, .sentinel, .sentinel], laidTests := true, laidLooks := .later }
def PipeOrderCardSaid : Prop := Claim7.holds Tryz.pinned (.plain (OpenSpec.ofChange pipeOrderSpec)) pipeOrderCard

/-- THE TIED CARD OF 'replevinlaw27.InodeErrors'. -/
def inodeErrorsCard : Claim7 := { stood := { row := inodeErrorsRow, standIns := [], harness := (true, "01d9390c779121418bffdd38619da0e0589022fe073f05aca4c221008ea5f8e4"), looks := true }, kinds := [], alts := [], laidByText := true, laidKinds := [.data, .data, .data, .sentinel, .sentinel], laidTests := true, laidLooks := .later }
def InodeErrorsCardSaid : Prop := Claim7.holds Tryz.pinned (.plain (OpenSpec.ofChange inodeErrorsSpec)) inodeErrorsCard

/-- THE TIED CARD OF 'replevinlaw32.PipeEnds'. -/
def pipeEndsCard : Claim7 := { stood := { row := pipeEndsRow, standIns := [], harness := (true, "01d9390c779121418bffdd38619da0e0589022fe073f05aca4c221008ea5f8e4"), looks := true }, kinds := [], alts := [], laidByText := true, laidKinds := [.data, .data, .data, .sentinel, .sentinel], laidTests := true, laidLooks := .later }
def PipeEndsCardSaid : Prop := Claim7.holds Tryz.pinned (.plain (OpenSpec.ofChange pipeEndsSpec)) pipeEndsCard

/-- THE TIED CARD OF 'replevinlaw27.InodeFrame'. -/
def inodeFrameCard : Claim7 := { stood := { row := inodeFrameRow, standIns := [], harness := (true, "01d9390c779121418bffdd38619da0e0589022fe073f05aca4c221008ea5f8e4"), looks := true }, kinds := [], alts := [], laidByText := true, laidKinds := [.data, .data, .data, .sentinel, .sentinel], laidTests := true, laidLooks := .later }
def InodeFrameCardSaid : Prop := Claim7.holds Tryz.pinned (.plain (OpenSpec.ofChange inodeFrameSpec)) inodeFrameCard

/-- THE TIED CARD OF 'replevinlaw37.PortQueues'. -/
def portQueuesCard : Claim7 := { stood := { row := portQueuesRow, standIns := [], harness := (true, "01d9390c779121418bffdd38619da0e0589022fe073f05aca4c221008ea5f8e4"), looks := true }, kinds := [], alts := [], laidByText := true, laidKinds := [.data, .data, .data, .sentinel, .sentinel], laidTests := true, laidLooks := .later }
def PortQueuesCardSaid : Prop := Claim7.holds Tryz.pinned (.plain (OpenSpec.ofChange portQueuesSpec)) portQueuesCard

/-- THE TIED CARD OF 'replevinlaw37.PortEpochs'. -/
def portEpochsCard : Claim7 := { stood := { row := portEpochsRow, standIns := [], harness := (true, "01d9390c779121418bffdd38619da0e0589022fe073f05aca4c221008ea5f8e4"), looks := true }, kinds := [], alts := [], laidByText := true, laidKinds := [.data, .data, .data, .sentinel, .sentinel], laidTests := true, laidLooks := .later }
def PortEpochsCardSaid : Prop := Claim7.holds Tryz.pinned (.plain (OpenSpec.ofChange portEpochsSpec)) portEpochsCard

/-- THE TIED CARD OF 'replevinlaw37.PortNil'. -/
def portNilCard : Claim7 := { stood := { row := portNilRow, standIns := [], harness := (true, "01d9390c779121418bffdd38619da0e0589022fe073f05aca4c221008ea5f8e4"), looks := true }, kinds := [], alts := [], laidByText := true, laidKinds := [.data, .data, .data, .sentinel, .sentinel], laidTests := true, laidLooks := .later }
def PortNilCardSaid : Prop := Claim7.holds Tryz.pinned (.plain (OpenSpec.ofChange portNilSpec)) portNilCard

/-- THE TIED CARD OF 'replevinlaw37.PortBroken'. -/
def portBrokenCard : Claim7 := { stood := { row := portBrokenRow, standIns := [], harness := (true, "01d9390c779121418bffdd38619da0e0589022fe073f05aca4c221008ea5f8e4"), looks := true }, kinds := [], alts := [], laidByText := true, laidKinds := [.data, .data, .data, .sentinel, .sentinel], laidTests := true, laidLooks := .later }
def PortBrokenCardSaid : Prop := Claim7.holds Tryz.pinned (.plain (OpenSpec.ofChange portBrokenSpec)) portBrokenCard

/-- THE TIED CARD OF 'replevinlaw32.PipeDrains'. -/
def pipeDrainsCard : Claim7 := { stood := { row := pipeDrainsRow, standIns := [], harness := (true, "01d9390c779121418bffdd38619da0e0589022fe073f05aca4c221008ea5f8e4"), looks := true }, kinds := [], alts := [], laidByText := true, laidKinds := [.data, .data, .data, .sentinel, .sentinel], laidTests := true, laidLooks := .later }
def PipeDrainsCardSaid : Prop := Claim7.holds Tryz.pinned (.plain (OpenSpec.ofChange pipeDrainsSpec)) pipeDrainsCard

/-- THE TIED CARD OF 'replevinlaw32.PipeFrame'. -/
def pipeFrameCard : Claim7 := { stood := { row := pipeFrameRow, standIns := [], harness := (true, "01d9390c779121418bffdd38619da0e0589022fe073f05aca4c221008ea5f8e4"), looks := true }, kinds := [], alts := [], laidByText := true, laidKinds := [.data, .data, .data, .sentinel, .sentinel], laidTests := true, laidLooks := .later }
def PipeFrameCardSaid : Prop := Claim7.holds Tryz.pinned (.plain (OpenSpec.ofChange pipeFrameSpec)) pipeFrameCard

/-- THE TIED CARD OF 'replevinlaw37.PortFrame'. -/
def portFrameCard : Claim7 := { stood := { row := portFrameRow, standIns := [], harness := (true, "01d9390c779121418bffdd38619da0e0589022fe073f05aca4c221008ea5f8e4"), looks := true }, kinds := [], alts := [], laidByText := true, laidKinds := [.data, .data, .data, .sentinel, .sentinel], laidTests := true, laidLooks := .later }
def PortFrameCardSaid : Prop := Claim7.holds Tryz.pinned (.plain (OpenSpec.ofChange portFrameSpec)) portFrameCard

/-- THE TIED CARD OF 'replevinlaw37.PortApart'. -/
def portApartCard : Claim7 := { stood := { row := portApartRow, standIns := [], harness := (true, "01d9390c779121418bffdd38619da0e0589022fe073f05aca4c221008ea5f8e4"), looks := true }, kinds := [], alts := [], laidByText := true, laidKinds := [.data, .data, .data, .sentinel, .sentinel], laidTests := true, laidLooks := .later }
def PortApartCardSaid : Prop := Claim7.holds Tryz.pinned (.plain (OpenSpec.ofChange portApartSpec)) portApartCard

/-- THE TIED CARD OF 'replevinlaw27.InodeNodes'. -/
def inodeNodesCard : Claim7 := { stood := { row := inodeNodesRow, standIns := [], harness := (true, "01d9390c779121418bffdd38619da0e0589022fe073f05aca4c221008ea5f8e4"), looks := true }, kinds := [], alts := [], laidByText := true, laidKinds := [.data, .data, .data, .sentinel, .sentinel], laidTests := true, laidLooks := .later }
def InodeNodesCardSaid : Prop := Claim7.holds Tryz.pinned (.plain (OpenSpec.ofChange inodeNodesSpec)) inodeNodesCard

/-- THE TIED CARD OF 'replevinlaw27.InodeCounts'. -/
def inodeCountsCard : Claim7 := { stood := { row := inodeCountsRow, standIns := [], harness := (true, "01d9390c779121418bffdd38619da0e0589022fe073f05aca4c221008ea5f8e4"), looks := true }, kinds := [], alts := [], laidByText := true, laidKinds := [.data, .data, .data, .sentinel, .sentinel], laidTests := true, laidLooks := .later }
def InodeCountsCardSaid : Prop := Claim7.holds Tryz.pinned (.plain (OpenSpec.ofChange inodeCountsSpec)) inodeCountsCard

/-- THE TIED CARD OF 'replevinlaw27.InodeBirths'. -/
def inodeBirthsCard : Claim7 := { stood := { row := inodeBirthsRow, standIns := [], harness := (true, "01d9390c779121418bffdd38619da0e0589022fe073f05aca4c221008ea5f8e4"), looks := true }, kinds := [], alts := [], laidByText := true, laidKinds := [.data, .data, .data, .sentinel, .sentinel], laidTests := true, laidLooks := .later }
def InodeBirthsCardSaid : Prop := Claim7.holds Tryz.pinned (.plain (OpenSpec.ofChange inodeBirthsSpec)) inodeBirthsCard

/-- THE TIED CARD OF 'replevinlaw27.InodeParts'. -/
def inodePartsCard : Claim7 := { stood := { row := inodePartsRow, standIns := [], harness := (true, "01d9390c779121418bffdd38619da0e0589022fe073f05aca4c221008ea5f8e4"), looks := true }, kinds := [], alts := [], laidByText := true, laidKinds := [.data, .data, .data, .sentinel, .sentinel], laidTests := true, laidLooks := .later }
def InodePartsCardSaid : Prop := Claim7.holds Tryz.pinned (.plain (OpenSpec.ofChange inodePartsSpec)) inodePartsCard

/-- THE TIED CARD OF 'replevinlaw27.InodeSizes'. -/
def inodeSizesCard : Claim7 := { stood := { row := inodeSizesRow, standIns := [], harness := (true, "01d9390c779121418bffdd38619da0e0589022fe073f05aca4c221008ea5f8e4"), looks := true }, kinds := [], alts := [], laidByText := true, laidKinds := [.data, .data, .data, .sentinel, .sentinel], laidTests := true, laidLooks := .later }
def InodeSizesCardSaid : Prop := Claim7.holds Tryz.pinned (.plain (OpenSpec.ofChange inodeSizesSpec)) inodeSizesCard

/-- THE SECOND FORM's CARD OF 'replevinlaw32.PipeValues'. -/
def pipeValuesUptoCard : Claim7 := { stood := { row := pipeValuesUptoRow, standIns := [], harness := (true, "01d9390c779121418bffdd38619da0e0589022fe073f05aca4c221008ea5f8e4"), looks := true }, kinds := [], alts := [], laidByText := true, laidKinds := [.data, .data, .data, .sentinel, .sentinel], laidTests := true, laidLooks := .later }
def PipeValuesUptoCardSaid : Prop := Claim7.holds Tryz.pinned (.plain (OpenSpec.upto pipeValuesSpec)) pipeValuesUptoCard

/-- THE SECOND FORM's CARD OF 'replevinlaw32.PipeBusy'. -/
def pipeBusyUptoCard : Claim7 := { stood := { row := pipeBusyUptoRow, standIns := [], harness := (true, "01d9390c779121418bffdd38619da0e0589022fe073f05aca4c221008ea5f8e4"), looks := true }, kinds := [], alts := [], laidByText := true, laidKinds := [.data, .data, .data, .sentinel, .sentinel], laidTests := true, laidLooks := .later }
def PipeBusyUptoCardSaid : Prop := Claim7.holds Tryz.pinned (.plain (OpenSpec.upto pipeBusySpec)) pipeBusyUptoCard

/-- THE SECOND FORM's CARD OF 'replevinlaw37.PortEncodes'. -/
def portEncodesUptoCard : Claim7 := { stood := { row := portEncodesUptoRow, standIns := [], harness := (true, "01d9390c779121418bffdd38619da0e0589022fe073f05aca4c221008ea5f8e4"), looks := true }, kinds := [], alts := [], laidByText := true, laidKinds := [.data, .data, .data, .sentinel, .sentinel], laidTests := true, laidLooks := .later }
def PortEncodesUptoCardSaid : Prop := Claim7.holds Tryz.pinned (.plain (OpenSpec.upto portEncodesSpec)) portEncodesUptoCard

/-- THE SECOND FORM's CARD OF 'replevinlaw37.PortDecodes'. -/
def portDecodesUptoCard : Claim7 := { stood := { row := portDecodesUptoRow, standIns := [], harness := (true, "01d9390c779121418bffdd38619da0e0589022fe073f05aca4c221008ea5f8e4"), looks := true }, kinds := [], alts := [], laidByText := true, laidKinds := [.data, .data, .data, .sentinel, .sentinel], laidTests := true, laidLooks := .later }
def PortDecodesUptoCardSaid : Prop := Claim7.holds Tryz.pinned (.plain (OpenSpec.upto portDecodesSpec)) portDecodesUptoCard

/-- THE SECOND FORM's CARD OF 'replevinlaw32.PipeOrder'. -/
def pipeOrderUptoCard : Claim7 := { stood := { row := pipeOrderUptoRow, standIns := [], harness := (true, "01d9390c779121418bffdd38619da0e0589022fe073f05aca4c221008ea5f8e4"), looks := true }, kinds := [], alts := [], laidByText := true, laidKinds := [.data, .data, .data, .sentinel, .sentinel], laidTests := true, laidLooks := .later }
def PipeOrderUptoCardSaid : Prop := Claim7.holds Tryz.pinned (.plain (OpenSpec.upto pipeOrderSpec)) pipeOrderUptoCard

/-- THE SECOND FORM's CARD OF 'replevinlaw27.InodeErrors'. -/
def inodeErrorsUptoCard : Claim7 := { stood := { row := inodeErrorsUptoRow, standIns := [], harness := (true, "01d9390c779121418bffdd38619da0e0589022fe073f05aca4c221008ea5f8e4"), looks := true }, kinds := [], alts := [], laidByText := true, laidKinds := [.data, .data, .data, .sentinel, .sentinel], laidTests := true, laidLooks := .later }
def InodeErrorsUptoCardSaid : Prop := Claim7.holds Tryz.pinned (.plain (OpenSpec.upto inodeErrorsSpec)) inodeErrorsUptoCard

/-- THE SECOND FORM's CARD OF 'replevinlaw32.PipeEnds'. -/
def pipeEndsUptoCard : Claim7 := { stood := { row := pipeEndsUptoRow, standIns := [], harness := (true, "01d9390c779121418bffdd38619da0e0589022fe073f05aca4c221008ea5f8e4"), looks := true }, kinds := [], alts := [], laidByText := true, laidKinds := [.data, .data, .data, .sentinel, .sentinel], laidTests := true, laidLooks := .later }
def PipeEndsUptoCardSaid : Prop := Claim7.holds Tryz.pinned (.plain (OpenSpec.upto pipeEndsSpec)) pipeEndsUptoCard

/-- THE SECOND FORM's CARD OF 'replevinlaw27.InodeFrame'. -/
def inodeFrameUptoCard : Claim7 := { stood := { row := inodeFrameUptoRow, standIns := [], harness := (true, "01d9390c779121418bffdd38619da0e0589022fe073f05aca4c221008ea5f8e4"), looks := true }, kinds := [], alts := [], laidByText := true, laidKinds := [.data, .data, .data, .sentinel, .sentinel], laidTests := true, laidLooks := .later }
def InodeFrameUptoCardSaid : Prop := Claim7.holds Tryz.pinned (.plain (OpenSpec.upto inodeFrameSpec)) inodeFrameUptoCard

/-- THE SECOND FORM's CARD OF 'replevinlaw37.PortQueues'. -/
def portQueuesUptoCard : Claim7 := { stood := { row := portQueuesUptoRow, standIns := [], harness := (true, "01d9390c779121418bffdd38619da0e0589022fe073f05aca4c221008ea5f8e4"), looks := true }, kinds := [], alts := [], laidByText := true, laidKinds := [.data, .data, .data, .sentinel, .sentinel], laidTests := true, laidLooks := .later }
def PortQueuesUptoCardSaid : Prop := Claim7.holds Tryz.pinned (.plain (OpenSpec.upto portQueuesSpec)) portQueuesUptoCard

/-- THE SECOND FORM's CARD OF 'replevinlaw37.PortEpochs'. -/
def portEpochsUptoCard : Claim7 := { stood := { row := portEpochsUptoRow, standIns := [], harness := (true, "01d9390c779121418bffdd38619da0e0589022fe073f05aca4c221008ea5f8e4"), looks := true }, kinds := [], alts := [], laidByText := true, laidKinds := [.data, .data, .data, .sentinel, .sentinel], laidTests := true, laidLooks := .later }
def PortEpochsUptoCardSaid : Prop := Claim7.holds Tryz.pinned (.plain (OpenSpec.upto portEpochsSpec)) portEpochsUptoCard

/-- THE SECOND FORM's CARD OF 'replevinlaw37.PortNil'. -/
def portNilUptoCard : Claim7 := { stood := { row := portNilUptoRow, standIns := [], harness := (true, "01d9390c779121418bffdd38619da0e0589022fe073f05aca4c221008ea5f8e4"), looks := true }, kinds := [], alts := [], laidByText := true, laidKinds := [.data, .data, .data, .sentinel, .sentinel], laidTests := true, laidLooks := .later }
def PortNilUptoCardSaid : Prop := Claim7.holds Tryz.pinned (.plain (OpenSpec.upto portNilSpec)) portNilUptoCard

/-- THE SECOND FORM's CARD OF 'replevinlaw37.PortBroken'. -/
def portBrokenUptoCard : Claim7 := { stood := { row := portBrokenUptoRow, standIns := [], harness := (true, "01d9390c779121418bffdd38619da0e0589022fe073f05aca4c221008ea5f8e4"), looks := true }, kinds := [], alts := [], laidByText := true, laidKinds := [.data, .data, .data, .sentinel, .sentinel], laidTests := true, laidLooks := .later }
def PortBrokenUptoCardSaid : Prop := Claim7.holds Tryz.pinned (.plain (OpenSpec.upto portBrokenSpec)) portBrokenUptoCard

/-- THE SECOND FORM's CARD OF 'replevinlaw32.PipeDrains'. -/
def pipeDrainsUptoCard : Claim7 := { stood := { row := pipeDrainsUptoRow, standIns := [], harness := (true, "01d9390c779121418bffdd38619da0e0589022fe073f05aca4c221008ea5f8e4"), looks := true }, kinds := [], alts := [], laidByText := true, laidKinds := [.data, .data, .data, .sentinel, .sentinel], laidTests := true, laidLooks := .later }
def PipeDrainsUptoCardSaid : Prop := Claim7.holds Tryz.pinned (.plain (OpenSpec.upto pipeDrainsSpec)) pipeDrainsUptoCard

/-- THE SECOND FORM's CARD OF 'replevinlaw32.PipeFrame'. -/
def pipeFrameUptoCard : Claim7 := { stood := { row := pipeFrameUptoRow, standIns := [], harness := (true, "01d9390c779121418bffdd38619da0e0589022fe073f05aca4c221008ea5f8e4"), looks := true }, kinds := [], alts := [], laidByText := true, laidKinds := [.data, .data, .data, .sentinel, .sentinel], laidTests := true, laidLooks := .later }
def PipeFrameUptoCardSaid : Prop := Claim7.holds Tryz.pinned (.plain (OpenSpec.upto pipeFrameSpec)) pipeFrameUptoCard

/-- THE SECOND FORM's CARD OF 'replevinlaw37.PortFrame'. -/
def portFrameUptoCard : Claim7 := { stood := { row := portFrameUptoRow, standIns := [], harness := (true, "01d9390c779121418bffdd38619da0e0589022fe073f05aca4c221008ea5f8e4"), looks := true }, kinds := [], alts := [], laidByText := true, laidKinds := [.data, .data, .data, .sentinel, .sentinel], laidTests := true, laidLooks := .later }
def PortFrameUptoCardSaid : Prop := Claim7.holds Tryz.pinned (.plain (OpenSpec.upto portFrameSpec)) portFrameUptoCard

/-- THE SECOND FORM's CARD OF 'replevinlaw37.PortApart'. -/
def portApartUptoCard : Claim7 := { stood := { row := portApartUptoRow, standIns := [], harness := (true, "01d9390c779121418bffdd38619da0e0589022fe073f05aca4c221008ea5f8e4"), looks := true }, kinds := [], alts := [], laidByText := true, laidKinds := [.data, .data, .data, .sentinel, .sentinel], laidTests := true, laidLooks := .later }
def PortApartUptoCardSaid : Prop := Claim7.holds Tryz.pinned (.plain (OpenSpec.upto portApartSpec)) portApartUptoCard

/-- THE SECOND FORM's CARD OF 'replevinlaw27.InodeNodes'. -/
def inodeNodesUptoCard : Claim7 := { stood := { row := inodeNodesUptoRow, standIns := [], harness := (true, "01d9390c779121418bffdd38619da0e0589022fe073f05aca4c221008ea5f8e4"), looks := true }, kinds := [], alts := [], laidByText := true, laidKinds := [.data, .data, .data, .sentinel, .sentinel], laidTests := true, laidLooks := .later }
def InodeNodesUptoCardSaid : Prop := Claim7.holds Tryz.pinned (.plain (OpenSpec.upto inodeNodesSpec)) inodeNodesUptoCard

/-- THE SECOND FORM's CARD OF 'replevinlaw27.InodeCounts'. -/
def inodeCountsUptoCard : Claim7 := { stood := { row := inodeCountsUptoRow, standIns := [], harness := (true, "01d9390c779121418bffdd38619da0e0589022fe073f05aca4c221008ea5f8e4"), looks := true }, kinds := [], alts := [], laidByText := true, laidKinds := [.data, .data, .data, .sentinel, .sentinel], laidTests := true, laidLooks := .later }
def InodeCountsUptoCardSaid : Prop := Claim7.holds Tryz.pinned (.plain (OpenSpec.upto inodeCountsSpec)) inodeCountsUptoCard

/-- THE SECOND FORM's CARD OF 'replevinlaw27.InodeBirths'. -/
def inodeBirthsUptoCard : Claim7 := { stood := { row := inodeBirthsUptoRow, standIns := [], harness := (true, "01d9390c779121418bffdd38619da0e0589022fe073f05aca4c221008ea5f8e4"), looks := true }, kinds := [], alts := [], laidByText := true, laidKinds := [.data, .data, .data, .sentinel, .sentinel], laidTests := true, laidLooks := .later }
def InodeBirthsUptoCardSaid : Prop := Claim7.holds Tryz.pinned (.plain (OpenSpec.upto inodeBirthsSpec)) inodeBirthsUptoCard

/-- THE SECOND FORM's CARD OF 'replevinlaw27.InodeParts'. -/
def inodePartsUptoCard : Claim7 := { stood := { row := inodePartsUptoRow, standIns := [], harness := (true, "01d9390c779121418bffdd38619da0e0589022fe073f05aca4c221008ea5f8e4"), looks := true }, kinds := [], alts := [], laidByText := true, laidKinds := [.data, .data, .data, .sentinel, .sentinel], laidTests := true, laidLooks := .later }
def InodePartsUptoCardSaid : Prop := Claim7.holds Tryz.pinned (.plain (OpenSpec.upto inodePartsSpec)) inodePartsUptoCard

/-- THE SECOND FORM's CARD OF 'replevinlaw27.InodeSizes'. -/
def inodeSizesUptoCard : Claim7 := { stood := { row := inodeSizesUptoRow, standIns := [], harness := (true, "01d9390c779121418bffdd38619da0e0589022fe073f05aca4c221008ea5f8e4"), looks := true }, kinds := [], alts := [], laidByText := true, laidKinds := [.data, .data, .data, .sentinel, .sentinel], laidTests := true, laidLooks := .later }
def InodeSizesUptoCardSaid : Prop := Claim7.holds Tryz.pinned (.plain (OpenSpec.upto inodeSizesSpec)) inodeSizesUptoCard
end Rows
end Go.Proofs.YtdjjfjnkkgmadaaGreatDoor
