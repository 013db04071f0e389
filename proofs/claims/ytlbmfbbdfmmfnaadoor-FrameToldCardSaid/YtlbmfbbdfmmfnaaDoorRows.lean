/-
  NARROWER THAN 'FOR EVERY INPUT', by the rows' own cells (each row's printed sentence says how): CrcSums: laid · CrcThree: laid · CrcSteps: laid · CrcSeals: laid · FramePuts: laid · FrameSizes: laid · FrameReads: laid · FrameParts: laid · FrameSpoilt: laid · FrameTold: laid.
  DERIVED. THE GIVEN ROWS OF THIS SEAT. 10 by the template 'for every input the law returns true; each argument reads behind the call as it read before'; 0 by the template 'total and deterministic' (their statements: YtlbmfbbdfmmfnaaDoorTotals.lean).
  GIVEN WITH THE SEED: the statements are not yours to turn. If you find one false, say at which input.
  Laid BY PROGRAM, IN A SANDBOX (cutbox-rows.mjs): the forced cells as the released guide's own fill.sh prints them over the translation 4bffe6aee96eda08… (all of the seat's roots in one cut). By AI agents, Wed Nov 11 2026. No macro, syntax, notation, axiom, sorry.
-/
import Derived.Test.YtlbmfbbdfmmfnaaDoorChecked
import GoSem.Claim
import GoSem.ClaimJoined
import GoSem.ClaimMapViews
import Derived.JoinedTies
import Derived.KernelRfl
namespace Go.Proofs.YtlbmfbbdfmmfnaaDoor
/- THE CELL 'sum', in the pinned program and in every row, IS THE sha256 OF THE DUMP (.gsa) THAT YtlbmfbbdfmmfnaaDoorProg.lean LOADS. Nothing in Lean hashes anything: it is a label: what it is worth is what the hold of that sum in a sandbox is worth. -/
noncomputable def Tryd.pinned : Pinned := { name := "ytlbmfbbdfmmfnaadoor", sum := "4bffe6aee96eda084d9254236877d9d52e2a671ae6b47ca91652eb903449e2f3", checked := Tryd.checked }
namespace Rows
def none {H : Type} : Left H := { results := [], args := [] }

/- WHAT THE LISTED PACKAGE-LEVEL VARIABLES READ AS WHEN THE CALL BEGINS. Each datum BY PROGRAM (the guide's laid-datum.mjs) off the statement by which the dump's own 'gosem.cut.vars' lays the variable. In a bare row this is a premise. The card (YtlbmfbbdfmmfnaaDoorCards.lean) ties it to the program's text. -/
def laid_pennant_crc_steps {H : Type} : DataW H := .agg [.lit (.int .u32 0), .lit (.int .u32 8801531), .lit (.int .u32 9098509), .lit (.int .u32 825846), .lit (.int .u32 9692897), .lit (.int .u32 1419802), .lit (.int .u32 1651692), .lit (.int .u32 10452759), .lit (.int .u32 10584377), .lit (.int .u32 2608578), .lit (.int .u32 2839604), .lit (.int .u32 11344079), .lit (.int .u32 3303384), .lit (.int .u32 11807523), .lit (.int .u32 12104405), .lit (.int .u32 4128302)]

/-- 'pennantlaw02.CrcSums': WHATEVER THE INPUT: true; the input reads as it did. -/
def crcSumsSpec : ChangeSpec := { name := "crcSums", fn := fun _ => fun
  | [d1, d2] => { results := [.lit (.bool true)], args := [d1, d2] }
  | _ => none }
def crcSumsRow : OpenClaim := { program := "ytlbmfbbdfmmfnaadoor", sum := "4bffe6aee96eda084d9254236877d9d52e2a671ae6b47ca91652eb903449e2f3", func := "pennant/pennantlaw02.CrcSums", spec := "crcSums", named := ["pennant/crc.steps"], apart := false, laid := [("pennant/crc.steps", laid_pennant_crc_steps)] }
def CrcSumsSaid : Prop := crcSumsRow.holds Tryd.pinned (OpenSpec.ofChange crcSumsSpec)

/-- ITS FALSE NEIGHBOUR: 'it returns false'. Refute it at one input. -/
def crcSumsWrong : ChangeSpec := { name := "crcSums", fn := fun _ => fun
  | [d1, d2] => { results := [.lit (.bool false)], args := [d1, d2] }
  | _ => none }
def CrcSumsWrongFalsely : Prop := crcSumsRow.holds Tryd.pinned (OpenSpec.ofChange crcSumsWrong)

/-- 'pennantlaw02.CrcThree': WHATEVER THE INPUT: true; the input reads as it did. -/
def crcThreeSpec : ChangeSpec := { name := "crcThree", fn := fun _ => fun
  | [d1, d2, d3] => { results := [.lit (.bool true)], args := [d1, d2, d3] }
  | _ => none }
def crcThreeRow : OpenClaim := { program := "ytlbmfbbdfmmfnaadoor", sum := "4bffe6aee96eda084d9254236877d9d52e2a671ae6b47ca91652eb903449e2f3", func := "pennant/pennantlaw02.CrcThree", spec := "crcThree", named := ["pennant/crc.steps"], apart := false, laid := [("pennant/crc.steps", laid_pennant_crc_steps)] }
def CrcThreeSaid : Prop := crcThreeRow.holds Tryd.pinned (OpenSpec.ofChange crcThreeSpec)

/-- ITS FALSE NEIGHBOUR: 'it returns false'. Refute it at one input. -/
def crcThreeWrong : ChangeSpec := { name := "crcThree", fn := fun _ => fun
  | [d1, d2, d3] => { results := [.lit (.bool false)], args := [d1, d2, d3] }
  | _ => none }
def CrcThreeWrongFalsely : Prop := crcThreeRow.holds Tryd.pinned (OpenSpec.ofChange crcThreeWrong)

/-- 'pennantlaw02.CrcSteps': WHATEVER THE INPUT: true; the input reads as it did. -/
def crcStepsSpec : ChangeSpec := { name := "crcSteps", fn := fun _ => fun
  | [d1, d2, d3] => { results := [.lit (.bool true)], args := [d1, d2, d3] }
  | _ => none }
def crcStepsRow : OpenClaim := { program := "ytlbmfbbdfmmfnaadoor", sum := "4bffe6aee96eda084d9254236877d9d52e2a671ae6b47ca91652eb903449e2f3", func := "pennant/pennantlaw02.CrcSteps", spec := "crcSteps", named := ["pennant/crc.steps"], apart := false, laid := [("pennant/crc.steps", laid_pennant_crc_steps)] }
def CrcStepsSaid : Prop := crcStepsRow.holds Tryd.pinned (OpenSpec.ofChange crcStepsSpec)

/-- ITS FALSE NEIGHBOUR: 'it returns false'. Refute it at one input. -/
def crcStepsWrong : ChangeSpec := { name := "crcSteps", fn := fun _ => fun
  | [d1, d2, d3] => { results := [.lit (.bool false)], args := [d1, d2, d3] }
  | _ => none }
def CrcStepsWrongFalsely : Prop := crcStepsRow.holds Tryd.pinned (OpenSpec.ofChange crcStepsWrong)

/-- 'pennantlaw02.CrcSeals': WHATEVER THE INPUT: true; the input reads as it did. -/
def crcSealsSpec : ChangeSpec := { name := "crcSeals", fn := fun _ => fun
  | [d1, d2] => { results := [.lit (.bool true)], args := [d1, d2] }
  | _ => none }
def crcSealsRow : OpenClaim := { program := "ytlbmfbbdfmmfnaadoor", sum := "4bffe6aee96eda084d9254236877d9d52e2a671ae6b47ca91652eb903449e2f3", func := "pennant/pennantlaw02.CrcSeals", spec := "crcSeals", named := ["pennant/crc.steps"], apart := false, laid := [("pennant/crc.steps", laid_pennant_crc_steps)] }
def CrcSealsSaid : Prop := crcSealsRow.holds Tryd.pinned (OpenSpec.ofChange crcSealsSpec)

/-- ITS FALSE NEIGHBOUR: 'it returns false'. Refute it at one input. -/
def crcSealsWrong : ChangeSpec := { name := "crcSeals", fn := fun _ => fun
  | [d1, d2] => { results := [.lit (.bool false)], args := [d1, d2] }
  | _ => none }
def CrcSealsWrongFalsely : Prop := crcSealsRow.holds Tryd.pinned (OpenSpec.ofChange crcSealsWrong)

/-- 'pennantlaw04.FramePuts': WHATEVER THE INPUT: true; the input reads as it did. -/
def framePutsSpec : ChangeSpec := { name := "framePuts", fn := fun _ => fun
  | [d] => { results := [.lit (.bool true)], args := [d] }
  | _ => none }
def framePutsRow : OpenClaim := { program := "ytlbmfbbdfmmfnaadoor", sum := "4bffe6aee96eda084d9254236877d9d52e2a671ae6b47ca91652eb903449e2f3", func := "pennant/pennantlaw04.FramePuts", spec := "framePuts", inPlace := ["internal/bytealg.IndexByte"], unfollowed := true, recurses := true, named := ["pennant/crc.steps"], apart := false, laid := [("pennant/crc.steps", laid_pennant_crc_steps)] }
def FramePutsSaid : Prop := framePutsRow.holds Tryd.pinned (OpenSpec.ofChange framePutsSpec)

/-- ITS FALSE NEIGHBOUR: 'it returns false'. Refute it at one input. -/
def framePutsWrong : ChangeSpec := { name := "framePuts", fn := fun _ => fun
  | [d] => { results := [.lit (.bool false)], args := [d] }
  | _ => none }
def FramePutsWrongFalsely : Prop := framePutsRow.holds Tryd.pinned (OpenSpec.ofChange framePutsWrong)

/-- 'pennantlaw04.FrameSizes': WHATEVER THE INPUT: true; the input reads as it did. -/
def frameSizesSpec : ChangeSpec := { name := "frameSizes", fn := fun _ => fun
  | [d] => { results := [.lit (.bool true)], args := [d] }
  | _ => none }
def frameSizesRow : OpenClaim := { program := "ytlbmfbbdfmmfnaadoor", sum := "4bffe6aee96eda084d9254236877d9d52e2a671ae6b47ca91652eb903449e2f3", func := "pennant/pennantlaw04.FrameSizes", spec := "frameSizes", inPlace := ["internal/bytealg.IndexByte"], unfollowed := true, recurses := true, named := ["pennant/crc.steps"], apart := false, laid := [("pennant/crc.steps", laid_pennant_crc_steps)] }
def FrameSizesSaid : Prop := frameSizesRow.holds Tryd.pinned (OpenSpec.ofChange frameSizesSpec)

/-- ITS FALSE NEIGHBOUR: 'it returns false'. Refute it at one input. -/
def frameSizesWrong : ChangeSpec := { name := "frameSizes", fn := fun _ => fun
  | [d] => { results := [.lit (.bool false)], args := [d] }
  | _ => none }
def FrameSizesWrongFalsely : Prop := frameSizesRow.holds Tryd.pinned (OpenSpec.ofChange frameSizesWrong)

/-- 'pennantlaw04.FrameReads': WHATEVER THE INPUT: true; the input reads as it did. -/
def frameReadsSpec : ChangeSpec := { name := "frameReads", fn := fun _ => fun
  | [d] => { results := [.lit (.bool true)], args := [d] }
  | _ => none }
def frameReadsRow : OpenClaim := { program := "ytlbmfbbdfmmfnaadoor", sum := "4bffe6aee96eda084d9254236877d9d52e2a671ae6b47ca91652eb903449e2f3", func := "pennant/pennantlaw04.FrameReads", spec := "frameReads", inPlace := ["internal/bytealg.IndexByte"], unfollowed := true, recurses := true, named := ["pennant/crc.steps"], apart := false, laid := [("pennant/crc.steps", laid_pennant_crc_steps)] }
def FrameReadsSaid : Prop := frameReadsRow.holds Tryd.pinned (OpenSpec.ofChange frameReadsSpec)

/-- ITS FALSE NEIGHBOUR: 'it returns false'. Refute it at one input. -/
def frameReadsWrong : ChangeSpec := { name := "frameReads", fn := fun _ => fun
  | [d] => { results := [.lit (.bool false)], args := [d] }
  | _ => none }
def FrameReadsWrongFalsely : Prop := frameReadsRow.holds Tryd.pinned (OpenSpec.ofChange frameReadsWrong)

/-- 'pennantlaw04.FrameParts': WHATEVER THE INPUT: true; the input reads as it did. -/
def framePartsSpec : ChangeSpec := { name := "frameParts", fn := fun _ => fun
  | [d] => { results := [.lit (.bool true)], args := [d] }
  | _ => none }
def framePartsRow : OpenClaim := { program := "ytlbmfbbdfmmfnaadoor", sum := "4bffe6aee96eda084d9254236877d9d52e2a671ae6b47ca91652eb903449e2f3", func := "pennant/pennantlaw04.FrameParts", spec := "frameParts", inPlace := ["internal/bytealg.IndexByte"], unfollowed := true, recurses := true, named := ["pennant/crc.steps"], apart := false, laid := [("pennant/crc.steps", laid_pennant_crc_steps)] }
def FramePartsSaid : Prop := framePartsRow.holds Tryd.pinned (OpenSpec.ofChange framePartsSpec)

/-- ITS FALSE NEIGHBOUR: 'it returns false'. Refute it at one input. -/
def framePartsWrong : ChangeSpec := { name := "frameParts", fn := fun _ => fun
  | [d] => { results := [.lit (.bool false)], args := [d] }
  | _ => none }
def FramePartsWrongFalsely : Prop := framePartsRow.holds Tryd.pinned (OpenSpec.ofChange framePartsWrong)

/-- 'pennantlaw04.FrameSpoilt': WHATEVER THE INPUT: true; the input reads as it did. -/
def frameSpoiltSpec : ChangeSpec := { name := "frameSpoilt", fn := fun _ => fun
  | [d1, d2, d3] => { results := [.lit (.bool true)], args := [d1, d2, d3] }
  | _ => none }
def frameSpoiltRow : OpenClaim := { program := "ytlbmfbbdfmmfnaadoor", sum := "4bffe6aee96eda084d9254236877d9d52e2a671ae6b47ca91652eb903449e2f3", func := "pennant/pennantlaw04.FrameSpoilt", spec := "frameSpoilt", inPlace := ["internal/bytealg.IndexByte"], unfollowed := true, recurses := true, named := ["pennant/crc.steps"], apart := false, laid := [("pennant/crc.steps", laid_pennant_crc_steps)] }
def FrameSpoiltSaid : Prop := frameSpoiltRow.holds Tryd.pinned (OpenSpec.ofChange frameSpoiltSpec)

/-- ITS FALSE NEIGHBOUR: 'it returns false'. Refute it at one input. -/
def frameSpoiltWrong : ChangeSpec := { name := "frameSpoilt", fn := fun _ => fun
  | [d1, d2, d3] => { results := [.lit (.bool false)], args := [d1, d2, d3] }
  | _ => none }
def FrameSpoiltWrongFalsely : Prop := frameSpoiltRow.holds Tryd.pinned (OpenSpec.ofChange frameSpoiltWrong)

/-- 'pennantlaw04.FrameTold': WHATEVER THE INPUT: true; the input reads as it did. -/
def frameToldSpec : ChangeSpec := { name := "frameTold", fn := fun _ => fun
  | [d1, d2, d3] => { results := [.lit (.bool true)], args := [d1, d2, d3] }
  | _ => none }
def frameToldRow : OpenClaim := { program := "ytlbmfbbdfmmfnaadoor", sum := "4bffe6aee96eda084d9254236877d9d52e2a671ae6b47ca91652eb903449e2f3", func := "pennant/pennantlaw04.FrameTold", spec := "frameTold", inPlace := ["internal/bytealg.IndexByte"], unfollowed := true, recurses := true, named := ["pennant/crc.steps"], apart := false, laid := [("pennant/crc.steps", laid_pennant_crc_steps)] }
def FrameToldSaid : Prop := frameToldRow.holds Tryd.pinned (OpenSpec.ofChange frameToldSpec)

/-- ITS FALSE NEIGHBOUR: 'it returns false'. Refute it at one input. -/
def frameToldWrong : ChangeSpec := { name := "frameTold", fn := fun _ => fun
  | [d1, d2, d3] => { results := [.lit (.bool false)], args := [d1, d2, d3] }
  | _ => none }
def FrameToldWrongFalsely : Prop := frameToldRow.holds Tryd.pinned (OpenSpec.ofChange frameToldWrong)

/- THE SECOND FORM. 'bulk': how many values and letters a reading holds, each counted each time it is reached (what is shared counts as often as it is met; a slice's spare places count too). A statement '..UptoSaid' is the law's where the arguments, and the package variables that the reading takes, are together of bulk at most 1048576: NARROWER than '..Said'. Prove '..Said' where nothing that the law and all that it calls make is longer than what came in: it says more and counts as full. Else prove '..UptoSaid'. A law counts once. -/
mutual
def uptoBulk {H : Type} : DataW H → Nat
  | .lit (.string bytes) => bytes.length + 1
  | .lit _ => 1
  | .nil => 1
  | .ptr d => uptoBulk d + 1
  | .slice elems spare => uptoBulkAll elems + uptoBulkAll spare + 1
  | .agg parts => uptoBulkAll parts + 1
  | .iface _ d => uptoBulk d + 1
  | .map entries => uptoBulkEntries entries + 1
  | .held _ => 1
def uptoBulkAll {H : Type} : List (DataW H) → Nat
  | [] => 0
  | d :: r => uptoBulk d + uptoBulkAll r
def uptoBulkEntries {H : Type} : List (Lit × DataW H) → Nat
  | [] => 0
  | x :: r => uptoBulkEntry x + uptoBulkEntries r
def uptoBulkEntry {H : Type} : Lit × DataW H → Nat
  | (.string bytes, d) => bytes.length + uptoBulk d + 1
  | (_, d) => uptoBulk d + 1
 end
def uptoSmall : (H : Type) → List (DataW H) → Bool := fun _ ds => decide (uptoBulkAll ds ≤ 1048576)
def OpenSpec.upto (s : _root_.Go.ChangeSpec) : _root_.Go.OpenSpec := { _root_.Go.OpenSpec.ofChange s with cond := some uptoSmall }

/-- 'pennantlaw02.CrcSums', WHERE WHAT IT READS IS OF BULK AT MOST 1048576: true; the input reads as it did. -/
def crcSumsUptoRow : OpenClaim := { program := "ytlbmfbbdfmmfnaadoor", sum := "4bffe6aee96eda084d9254236877d9d52e2a671ae6b47ca91652eb903449e2f3", func := "pennant/pennantlaw02.CrcSums", spec := "crcSums", named := ["pennant/crc.steps"], apart := false, laid := [("pennant/crc.steps", laid_pennant_crc_steps)], narrowed := true }
def CrcSumsUptoSaid : Prop := crcSumsUptoRow.holds Tryd.pinned (OpenSpec.upto crcSumsSpec)

/-- 'pennantlaw02.CrcThree', WHERE WHAT IT READS IS OF BULK AT MOST 1048576: true; the input reads as it did. -/
def crcThreeUptoRow : OpenClaim := { program := "ytlbmfbbdfmmfnaadoor", sum := "4bffe6aee96eda084d9254236877d9d52e2a671ae6b47ca91652eb903449e2f3", func := "pennant/pennantlaw02.CrcThree", spec := "crcThree", named := ["pennant/crc.steps"], apart := false, laid := [("pennant/crc.steps", laid_pennant_crc_steps)], narrowed := true }
def CrcThreeUptoSaid : Prop := crcThreeUptoRow.holds Tryd.pinned (OpenSpec.upto crcThreeSpec)

/-- 'pennantlaw02.CrcSteps', WHERE WHAT IT READS IS OF BULK AT MOST 1048576: true; the input reads as it did. -/
def crcStepsUptoRow : OpenClaim := { program := "ytlbmfbbdfmmfnaadoor", sum := "4bffe6aee96eda084d9254236877d9d52e2a671ae6b47ca91652eb903449e2f3", func := "pennant/pennantlaw02.CrcSteps", spec := "crcSteps", named := ["pennant/crc.steps"], apart := false, laid := [("pennant/crc.steps", laid_pennant_crc_steps)], narrowed := true }
def CrcStepsUptoSaid : Prop := crcStepsUptoRow.holds Tryd.pinned (OpenSpec.upto crcStepsSpec)

/-- 'pennantlaw02.CrcSeals', WHERE WHAT IT READS IS OF BULK AT MOST 1048576: true; the input reads as it did. -/
def crcSealsUptoRow : OpenClaim := { program := "ytlbmfbbdfmmfnaadoor", sum := "4bffe6aee96eda084d9254236877d9d52e2a671ae6b47ca91652eb903449e2f3", func := "pennant/pennantlaw02.CrcSeals", spec := "crcSeals", named := ["pennant/crc.steps"], apart := false, laid := [("pennant/crc.steps", laid_pennant_crc_steps)], narrowed := true }
def CrcSealsUptoSaid : Prop := crcSealsUptoRow.holds Tryd.pinned (OpenSpec.upto crcSealsSpec)

/-- 'pennantlaw04.FramePuts', WHERE WHAT IT READS IS OF BULK AT MOST 1048576: true; the input reads as it did. -/
def framePutsUptoRow : OpenClaim := { program := "ytlbmfbbdfmmfnaadoor", sum := "4bffe6aee96eda084d9254236877d9d52e2a671ae6b47ca91652eb903449e2f3", func := "pennant/pennantlaw04.FramePuts", spec := "framePuts", inPlace := ["internal/bytealg.IndexByte"], unfollowed := true, recurses := true, named := ["pennant/crc.steps"], apart := false, laid := [("pennant/crc.steps", laid_pennant_crc_steps)], narrowed := true }
def FramePutsUptoSaid : Prop := framePutsUptoRow.holds Tryd.pinned (OpenSpec.upto framePutsSpec)

/-- 'pennantlaw04.FrameSizes', WHERE WHAT IT READS IS OF BULK AT MOST 1048576: true; the input reads as it did. -/
def frameSizesUptoRow : OpenClaim := { program := "ytlbmfbbdfmmfnaadoor", sum := "4bffe6aee96eda084d9254236877d9d52e2a671ae6b47ca91652eb903449e2f3", func := "pennant/pennantlaw04.FrameSizes", spec := "frameSizes", inPlace := ["internal/bytealg.IndexByte"], unfollowed := true, recurses := true, named := ["pennant/crc.steps"], apart := false, laid := [("pennant/crc.steps", laid_pennant_crc_steps)], narrowed := true }
def FrameSizesUptoSaid : Prop := frameSizesUptoRow.holds Tryd.pinned (OpenSpec.upto frameSizesSpec)

/-- 'pennantlaw04.FrameReads', WHERE WHAT IT READS IS OF BULK AT MOST 1048576: true; the input reads as it did. -/
def frameReadsUptoRow : OpenClaim := { program := "ytlbmfbbdfmmfnaadoor", sum := "4bffe6aee96eda084d9254236877d9d52e2a671ae6b47ca91652eb903449e2f3", func := "pennant/pennantlaw04.FrameReads", spec := "frameReads", inPlace := ["internal/bytealg.IndexByte"], unfollowed := true, recurses := true, named := ["pennant/crc.steps"], apart := false, laid := [("pennant/crc.steps", laid_pennant_crc_steps)], narrowed := true }
def FrameReadsUptoSaid : Prop := frameReadsUptoRow.holds Tryd.pinned (OpenSpec.upto frameReadsSpec)

/-- 'pennantlaw04.FrameParts', WHERE WHAT IT READS IS OF BULK AT MOST 1048576: true; the input reads as it did. -/
def framePartsUptoRow : OpenClaim := { program := "ytlbmfbbdfmmfnaadoor", sum := "4bffe6aee96eda084d9254236877d9d52e2a671ae6b47ca91652eb903449e2f3", func := "pennant/pennantlaw04.FrameParts", spec := "frameParts", inPlace := ["internal/bytealg.IndexByte"], unfollowed := true, recurses := true, named := ["pennant/crc.steps"], apart := false, laid := [("pennant/crc.steps", laid_pennant_crc_steps)], narrowed := true }
def FramePartsUptoSaid : Prop := framePartsUptoRow.holds Tryd.pinned (OpenSpec.upto framePartsSpec)

/-- 'pennantlaw04.FrameSpoilt', WHERE WHAT IT READS IS OF BULK AT MOST 1048576: true; the input reads as it did. -/
def frameSpoiltUptoRow : OpenClaim := { program := "ytlbmfbbdfmmfnaadoor", sum := "4bffe6aee96eda084d9254236877d9d52e2a671ae6b47ca91652eb903449e2f3", func := "pennant/pennantlaw04.FrameSpoilt", spec := "frameSpoilt", inPlace := ["internal/bytealg.IndexByte"], unfollowed := true, recurses := true, named := ["pennant/crc.steps"], apart := false, laid := [("pennant/crc.steps", laid_pennant_crc_steps)], narrowed := true }
def FrameSpoiltUptoSaid : Prop := frameSpoiltUptoRow.holds Tryd.pinned (OpenSpec.upto frameSpoiltSpec)

/-- 'pennantlaw04.FrameTold', WHERE WHAT IT READS IS OF BULK AT MOST 1048576: true; the input reads as it did. -/
def frameToldUptoRow : OpenClaim := { program := "ytlbmfbbdfmmfnaadoor", sum := "4bffe6aee96eda084d9254236877d9d52e2a671ae6b47ca91652eb903449e2f3", func := "pennant/pennantlaw04.FrameTold", spec := "frameTold", inPlace := ["internal/bytealg.IndexByte"], unfollowed := true, recurses := true, named := ["pennant/crc.steps"], apart := false, laid := [("pennant/crc.steps", laid_pennant_crc_steps)], narrowed := true }
def FrameToldUptoSaid : Prop := frameToldUptoRow.holds Tryd.pinned (OpenSpec.upto frameToldSpec)

end Rows
end Go.Proofs.YtlbmfbbdfmmfnaaDoor
