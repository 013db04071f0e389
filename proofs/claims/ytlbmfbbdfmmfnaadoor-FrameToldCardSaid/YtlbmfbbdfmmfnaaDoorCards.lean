/-
  DERIVED. GIVEN WITH THE SEED: THE CARDS: each row of YtlbmfbbdfmmfnaaDoorRows.lean that lists a variable, with what it lists TIED to the program's text (the seventh form; the later family's looks); each row that meets fmt, with fmt's text TOLD by the authors' own Lean function (tested against real Go, not proved from fmt's source: count such statements apart). THE CARD IS WHAT COUNTS. Prove the row's statement (the work); the ties are given (YtlbmfbbdfmmfnaaDoorTie.lean); close each card by the builder's one call (the guide's Derived/Test/ToyasCard.lean, 'card_holds'). Laid BY PROGRAM, IN A SANDBOX (cutbox-door.mjs). By AI agents, Wed Nov 11 2026. No macro, syntax, notation, axiom, sorry.
-/
import Derived.Test.YtlbmfbbdfmmfnaaDoorRows
import GoSem.ClaimSeven
namespace Go.Proofs.YtlbmfbbdfmmfnaaDoor
namespace Rows

/-- THE TIED CARD OF 'pennantlaw02.CrcSums'. -/
def crcSumsCard : Claim7 := { stood := { row := crcSumsRow, standIns := [], harness := (true, "150b6645f145922e57c631101d21b3c29758584dd7d8340d291d7e74e768ab66"), looks := false }, kinds := [], alts := [], laidByText := true, laidKinds := [.data], laidTests := true, laidLooks := .later }
def CrcSumsCardSaid : Prop := Claim7.holds Tryd.pinned (.plain (OpenSpec.ofChange crcSumsSpec)) crcSumsCard

/-- THE TIED CARD OF 'pennantlaw02.CrcThree'. -/
def crcThreeCard : Claim7 := { stood := { row := crcThreeRow, standIns := [], harness := (true, "150b6645f145922e57c631101d21b3c29758584dd7d8340d291d7e74e768ab66"), looks := false }, kinds := [], alts := [], laidByText := true, laidKinds := [.data], laidTests := true, laidLooks := .later }
def CrcThreeCardSaid : Prop := Claim7.holds Tryd.pinned (.plain (OpenSpec.ofChange crcThreeSpec)) crcThreeCard

/-- THE TIED CARD OF 'pennantlaw02.CrcSteps'. -/
def crcStepsCard : Claim7 := { stood := { row := crcStepsRow, standIns := [], harness := (true, "150b6645f145922e57c631101d21b3c29758584dd7d8340d291d7e74e768ab66"), looks := false }, kinds := [], alts := [], laidByText := true, laidKinds := [.data], laidTests := true, laidLooks := .later }
def CrcStepsCardSaid : Prop := Claim7.holds Tryd.pinned (.plain (OpenSpec.ofChange crcStepsSpec)) crcStepsCard

/-- THE TIED CARD OF 'pennantlaw02.CrcSeals'. -/
def crcSealsCard : Claim7 := { stood := { row := crcSealsRow, standIns := [], harness := (true, "150b6645f145922e57c631101d21b3c29758584dd7d8340d291d7e74e768ab66"), looks := false }, kinds := [], alts := [], laidByText := true, laidKinds := [.data], laidTests := true, laidLooks := .later }
def CrcSealsCardSaid : Prop := Claim7.holds Tryd.pinned (.plain (OpenSpec.ofChange crcSealsSpec)) crcSealsCard

/-- THE TIED CARD OF 'pennantlaw04.FramePuts'. -/
def framePutsCard : Claim7 := { stood := { row := framePutsRow, standIns := [], harness := (true, "150b6645f145922e57c631101d21b3c29758584dd7d8340d291d7e74e768ab66"), looks := false }, kinds := [], alts := [], laidByText := true, laidKinds := [.data], laidTests := true, laidLooks := .later }
def FramePutsCardSaid : Prop := Claim7.holds Tryd.pinned (.plain (OpenSpec.ofChange framePutsSpec)) framePutsCard

/-- THE TIED CARD OF 'pennantlaw04.FrameSizes'. -/
def frameSizesCard : Claim7 := { stood := { row := frameSizesRow, standIns := [], harness := (true, "150b6645f145922e57c631101d21b3c29758584dd7d8340d291d7e74e768ab66"), looks := false }, kinds := [], alts := [], laidByText := true, laidKinds := [.data], laidTests := true, laidLooks := .later }
def FrameSizesCardSaid : Prop := Claim7.holds Tryd.pinned (.plain (OpenSpec.ofChange frameSizesSpec)) frameSizesCard

/-- THE TIED CARD OF 'pennantlaw04.FrameReads'. -/
def frameReadsCard : Claim7 := { stood := { row := frameReadsRow, standIns := [], harness := (true, "150b6645f145922e57c631101d21b3c29758584dd7d8340d291d7e74e768ab66"), looks := false }, kinds := [], alts := [], laidByText := true, laidKinds := [.data], laidTests := true, laidLooks := .later }
def FrameReadsCardSaid : Prop := Claim7.holds Tryd.pinned (.plain (OpenSpec.ofChange frameReadsSpec)) frameReadsCard

/-- THE TIED CARD OF 'pennantlaw04.FrameParts'. -/
def framePartsCard : Claim7 := { stood := { row := framePartsRow, standIns := [], harness := (true, "150b6645f145922e57c631101d21b3c29758584dd7d8340d291d7e74e768ab66"), looks := false }, kinds := [], alts := [], laidByText := true, laidKinds := [.data], laidTests := true, laidLooks := .later }
def FramePartsCardSaid : Prop := Claim7.holds Tryd.pinned (.plain (OpenSpec.ofChange framePartsSpec)) framePartsCard

/-- THE TIED CARD OF 'pennantlaw04.FrameSpoilt'. -/
def frameSpoiltCard : Claim7 := { stood := { row := frameSpoiltRow, standIns := [], harness := (true, "150b6645f145922e57c631101d21b3c29758584dd7d8340d291d7e74e768ab66"), looks := false }, kinds := [], alts := [], laidByText := true, laidKinds := [.data], laidTests := true, laidLooks := .later }
def FrameSpoiltCardSaid : Prop := Claim7.holds Tryd.pinned (.plain (OpenSpec.ofChange frameSpoiltSpec)) frameSpoiltCard

/-- THE TIED CARD OF 'pennantlaw04.FrameTold'. -/
def frameToldCard : Claim7 := { stood := { row := frameToldRow, standIns := [], harness := (true, "150b6645f145922e57c631101d21b3c29758584dd7d8340d291d7e74e768ab66"), looks := false }, kinds := [], alts := [], laidByText := true, laidKinds := [.data], laidTests := true, laidLooks := .later }
def FrameToldCardSaid : Prop := Claim7.holds Tryd.pinned (.plain (OpenSpec.ofChange frameToldSpec)) frameToldCard

/-- THE SECOND FORM's CARD OF 'pennantlaw02.CrcSums'. -/
def crcSumsUptoCard : Claim7 := { stood := { row := crcSumsUptoRow, standIns := [], harness := (true, "150b6645f145922e57c631101d21b3c29758584dd7d8340d291d7e74e768ab66"), looks := false }, kinds := [], alts := [], laidByText := true, laidKinds := [.data], laidTests := true, laidLooks := .later }
def CrcSumsUptoCardSaid : Prop := Claim7.holds Tryd.pinned (.plain (OpenSpec.upto crcSumsSpec)) crcSumsUptoCard

/-- THE SECOND FORM's CARD OF 'pennantlaw02.CrcThree'. -/
def crcThreeUptoCard : Claim7 := { stood := { row := crcThreeUptoRow, standIns := [], harness := (true, "150b6645f145922e57c631101d21b3c29758584dd7d8340d291d7e74e768ab66"), looks := false }, kinds := [], alts := [], laidByText := true, laidKinds := [.data], laidTests := true, laidLooks := .later }
def CrcThreeUptoCardSaid : Prop := Claim7.holds Tryd.pinned (.plain (OpenSpec.upto crcThreeSpec)) crcThreeUptoCard

/-- THE SECOND FORM's CARD OF 'pennantlaw02.CrcSteps'. -/
def crcStepsUptoCard : Claim7 := { stood := { row := crcStepsUptoRow, standIns := [], harness := (true, "150b6645f145922e57c631101d21b3c29758584dd7d8340d291d7e74e768ab66"), looks := false }, kinds := [], alts := [], laidByText := true, laidKinds := [.data], laidTests := true, laidLooks := .later }
def CrcStepsUptoCardSaid : Prop := Claim7.holds Tryd.pinned (.plain (OpenSpec.upto crcStepsSpec)) crcStepsUptoCard

/-- THE SECOND FORM's CARD OF 'pennantlaw02.CrcSeals'. -/
def crcSealsUptoCard : Claim7 := { stood := { row := crcSealsUptoRow, standIns := [], harness := (true, "150b6645f145922e57c631101d21b3c29758584dd7d8340d291d7e74e768ab66"), looks := false }, kinds := [], alts := [], laidByText := true, laidKinds := [.data], laidTests := true, laidLooks := .later }
def CrcSealsUptoCardSaid : Prop := Claim7.holds Tryd.pinned (.plain (OpenSpec.upto crcSealsSpec)) crcSealsUptoCard

/-- THE SECOND FORM's CARD OF 'pennantlaw04.FramePuts'. -/
def framePutsUptoCard : Claim7 := { stood := { row := framePutsUptoRow, standIns := [], harness := (true, "150b6645f145922e57c631101d21b3c29758584dd7d8340d291d7e74e768ab66"), looks := false }, kinds := [], alts := [], laidByText := true, laidKinds := [.data], laidTests := true, laidLooks := .later }
def FramePutsUptoCardSaid : Prop := Claim7.holds Tryd.pinned (.plain (OpenSpec.upto framePutsSpec)) framePutsUptoCard

/-- THE SECOND FORM's CARD OF 'pennantlaw04.FrameSizes'. -/
def frameSizesUptoCard : Claim7 := { stood := { row := frameSizesUptoRow, standIns := [], harness := (true, "150b6645f145922e57c631101d21b3c29758584dd7d8340d291d7e74e768ab66"), looks := false }, kinds := [], alts := [], laidByText := true, laidKinds := [.data], laidTests := true, laidLooks := .later }
def FrameSizesUptoCardSaid : Prop := Claim7.holds Tryd.pinned (.plain (OpenSpec.upto frameSizesSpec)) frameSizesUptoCard

/-- THE SECOND FORM's CARD OF 'pennantlaw04.FrameReads'. -/
def frameReadsUptoCard : Claim7 := { stood := { row := frameReadsUptoRow, standIns := [], harness := (true, "150b6645f145922e57c631101d21b3c29758584dd7d8340d291d7e74e768ab66"), looks := false }, kinds := [], alts := [], laidByText := true, laidKinds := [.data], laidTests := true, laidLooks := .later }
def FrameReadsUptoCardSaid : Prop := Claim7.holds Tryd.pinned (.plain (OpenSpec.upto frameReadsSpec)) frameReadsUptoCard

/-- THE SECOND FORM's CARD OF 'pennantlaw04.FrameParts'. -/
def framePartsUptoCard : Claim7 := { stood := { row := framePartsUptoRow, standIns := [], harness := (true, "150b6645f145922e57c631101d21b3c29758584dd7d8340d291d7e74e768ab66"), looks := false }, kinds := [], alts := [], laidByText := true, laidKinds := [.data], laidTests := true, laidLooks := .later }
def FramePartsUptoCardSaid : Prop := Claim7.holds Tryd.pinned (.plain (OpenSpec.upto framePartsSpec)) framePartsUptoCard

/-- THE SECOND FORM's CARD OF 'pennantlaw04.FrameSpoilt'. -/
def frameSpoiltUptoCard : Claim7 := { stood := { row := frameSpoiltUptoRow, standIns := [], harness := (true, "150b6645f145922e57c631101d21b3c29758584dd7d8340d291d7e74e768ab66"), looks := false }, kinds := [], alts := [], laidByText := true, laidKinds := [.data], laidTests := true, laidLooks := .later }
def FrameSpoiltUptoCardSaid : Prop := Claim7.holds Tryd.pinned (.plain (OpenSpec.upto frameSpoiltSpec)) frameSpoiltUptoCard

/-- THE SECOND FORM's CARD OF 'pennantlaw04.FrameTold'. -/
def frameToldUptoCard : Claim7 := { stood := { row := frameToldUptoRow, standIns := [], harness := (true, "150b6645f145922e57c631101d21b3c29758584dd7d8340d291d7e74e768ab66"), looks := false }, kinds := [], alts := [], laidByText := true, laidKinds := [.data], laidTests := true, laidLooks := .later }
def FrameToldUptoCardSaid : Prop := Claim7.holds Tryd.pinned (.plain (OpenSpec.upto frameToldSpec)) frameToldUptoCard
end Rows
end Go.Proofs.YtlbmfbbdfmmfnaaDoor
