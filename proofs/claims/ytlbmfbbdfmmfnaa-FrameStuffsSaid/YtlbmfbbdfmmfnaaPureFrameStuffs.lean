/- The plain law of FrameStuffs: both stuff alike, and what bytes are stuffed from is told alike; for all bytes. -/
import Derived.Test.YtlbmfbbdfmmfnaaPFramesx0
import Derived.Test.YtlbmfbbdfmmfnaaPFramesx1
import Derived.Lib.Bytes
namespace Go.Proofs.Ytlbmfbbdfmmfnaa.PFrames
open Go.RowKit Go.Proofs.YtlbmfbbdfmmfnaaW.PrintWords Go.Proofs.YtlbmfbbdfmmfnaaW.PrintLast Go.Proofs.YtlbmfbbdfmmfnaaW.PrintMore
set_option linter.unusedVariables false
set_option linter.unusedSimpArgs false
theorem fr_bytes {l : List Int} (h : ∀ x ∈ l, (Lit.int .u8 x).wf = true) : ∀ c ∈ l, 0 ≤ c ∧ c ≤ 255 := by
  intro c hc
  have := h c hc
  simp [Lit.wf, IntKind.min, IntKind.max, IntKind.bits, IntKind.signed] at this
  omega
theorem fr_bind {α β : Type} {a : Option α} {f : α → Option β} {x : α} {r : Option β} (h : a = some x) (k : f x = r) : a.bind f = r := by rw [h]; exact k
theorem fr_awake (k : Nat) : pennantlaw04_awake.f k = some true := by
  unfold pennantlaw04_awake.f
  refine fr_bind (x := [2, 7, 2, 8]) ?_ ?_
  · unfold frame_Stuff.f
    rw [if_pos ⟨by decide, by decide⟩]
    congr 1
  · rw [Lib.strOfNums_toList]
    rfl
theorem pure_FrameStuffs : pennantlaw04_FrameStuffs.Pure := by
  intro b c _ hb bb _ hc cb
  refine ⟨1, ?_⟩
  unfold pennantlaw04_FrameStuffs.f
  refine fr_bind (fr_awake 1) ?_
  rw [if_pos rfl]
  split
  · rfl
  · rw [if_pos ⟨fr_bytes bb, fr_bytes cb, plain_eq c (fr_bytes cb)⟩]
end Go.Proofs.Ytlbmfbbdfmmfnaa.PFrames
namespace Go.Proofs.Ytlbmfbbdfmmfnaa.Pure
theorem FrameStuffs : PFrames.pennantlaw04_FrameStuffs.Pure := PFrames.pure_FrameStuffs
end Go.Proofs.Ytlbmfbbdfmmfnaa.Pure
