/-
  No cell of these rows narrows 'for every input' (looked for: loops, veiled, ifaces, maps, wideKeys, modest, calm, conditions, laid).
  DERIVED. THE GIVEN ROWS OF THIS SEAT. 6 by the template 'for every input the law returns true; each argument reads behind the call as it read before'; 0 by the template 'total and deterministic' (their statements: YtbmpglchifnelaaTotals.lean).
  GIVEN WITH THE SEED: the statements are not yours to turn. If you find one false, say at which input.
  Laid BY PROGRAM, IN A SANDBOX (cutbox-rows.mjs): the forced cells as the released guide's own fill.sh prints them over the translation a0066bcc9f08caab… (all of the seat's roots in one cut). By AI agents, Wed Nov 11 2026. No macro, syntax, notation, axiom, sorry.
-/
import Derived.Test.YtbmpglchifnelaaChecked
import GoSem.Claim
import GoSem.ClaimJoined
import GoSem.ClaimMapViews
import Derived.JoinedTies
import Derived.KernelRfl
namespace Go.Proofs.Ytbmpglchifnelaa
/- THE CELL 'sum', in the pinned program and in every row, IS THE sha256 OF THE DUMP (.gsa) THAT YtbmpglchifnelaaProg.lean LOADS. Nothing in Lean hashes anything: it is a label: what it is worth is what the hold of that sum in a sandbox is worth. -/
noncomputable def Try.pinned : Pinned := { name := "ytbmpglchifnelaa", sum := "a0066bcc9f08caabe26b5a4122c17e14abdd5e600b786c8d2f4408a5e709bf9a", checked := Try.checked }
namespace Rows
def none {H : Type} : Left H := { results := [], args := [] }

/-- 'pennantlaw16.LeaseRenews': WHATEVER THE INPUT: true; the input reads as it did. -/
def leaseRenewsSpec : ChangeSpec := { name := "leaseRenews", fn := fun _ => fun
  | [d1, d2] => { results := [.lit (.bool true)], args := [d1, d2] }
  | _ => none }
def leaseRenewsRow : OpenClaim := { program := "ytbmpglchifnelaa", sum := "a0066bcc9f08caabe26b5a4122c17e14abdd5e600b786c8d2f4408a5e709bf9a", func := "pennant/pennantlaw16.LeaseRenews", spec := "leaseRenews", apart := false }
def LeaseRenewsSaid : Prop := leaseRenewsRow.holds Try.pinned (OpenSpec.ofChange leaseRenewsSpec)

/-- ITS FALSE NEIGHBOUR: 'it returns false'. Refute it at one input. -/
def leaseRenewsWrong : ChangeSpec := { name := "leaseRenews", fn := fun _ => fun
  | [d1, d2] => { results := [.lit (.bool false)], args := [d1, d2] }
  | _ => none }
def LeaseRenewsWrongFalsely : Prop := leaseRenewsRow.holds Try.pinned (OpenSpec.ofChange leaseRenewsWrong)

/-- 'pennantlaw16.LeaseEnds': WHATEVER THE INPUT: true; the input reads as it did. -/
def leaseEndsSpec : ChangeSpec := { name := "leaseEnds", fn := fun _ => fun
  | [d] => { results := [.lit (.bool true)], args := [d] }
  | _ => none }
def leaseEndsRow : OpenClaim := { program := "ytbmpglchifnelaa", sum := "a0066bcc9f08caabe26b5a4122c17e14abdd5e600b786c8d2f4408a5e709bf9a", func := "pennant/pennantlaw16.LeaseEnds", spec := "leaseEnds", apart := false }
def LeaseEndsSaid : Prop := leaseEndsRow.holds Try.pinned (OpenSpec.ofChange leaseEndsSpec)

/-- ITS FALSE NEIGHBOUR: 'it returns false'. Refute it at one input. -/
def leaseEndsWrong : ChangeSpec := { name := "leaseEnds", fn := fun _ => fun
  | [d] => { results := [.lit (.bool false)], args := [d] }
  | _ => none }
def LeaseEndsWrongFalsely : Prop := leaseEndsRow.holds Try.pinned (OpenSpec.ofChange leaseEndsWrong)

/-- 'pennantlaw16.LeaseOnce': WHATEVER THE INPUT: true; the input reads as it did. -/
def leaseOnceSpec : ChangeSpec := { name := "leaseOnce", fn := fun _ => fun
  | [d] => { results := [.lit (.bool true)], args := [d] }
  | _ => none }
def leaseOnceRow : OpenClaim := { program := "ytbmpglchifnelaa", sum := "a0066bcc9f08caabe26b5a4122c17e14abdd5e600b786c8d2f4408a5e709bf9a", func := "pennant/pennantlaw16.LeaseOnce", spec := "leaseOnce", apart := false }
def LeaseOnceSaid : Prop := leaseOnceRow.holds Try.pinned (OpenSpec.ofChange leaseOnceSpec)

/-- ITS FALSE NEIGHBOUR: 'it returns false'. Refute it at one input. -/
def leaseOnceWrong : ChangeSpec := { name := "leaseOnce", fn := fun _ => fun
  | [d] => { results := [.lit (.bool false)], args := [d] }
  | _ => none }
def LeaseOnceWrongFalsely : Prop := leaseOnceRow.holds Try.pinned (OpenSpec.ofChange leaseOnceWrong)

/-- 'pennantlaw16.LeaseScripts': WHATEVER THE INPUT: true; the input reads as it did. -/
def leaseScriptsSpec : ChangeSpec := { name := "leaseScripts", fn := fun _ => fun
  | [d] => { results := [.lit (.bool true)], args := [d] }
  | _ => none }
def leaseScriptsRow : OpenClaim := { program := "ytbmpglchifnelaa", sum := "a0066bcc9f08caabe26b5a4122c17e14abdd5e600b786c8d2f4408a5e709bf9a", func := "pennant/pennantlaw16.LeaseScripts", spec := "leaseScripts", apart := false }
def LeaseScriptsSaid : Prop := leaseScriptsRow.holds Try.pinned (OpenSpec.ofChange leaseScriptsSpec)

/-- ITS FALSE NEIGHBOUR: 'it returns false'. Refute it at one input. -/
def leaseScriptsWrong : ChangeSpec := { name := "leaseScripts", fn := fun _ => fun
  | [d] => { results := [.lit (.bool false)], args := [d] }
  | _ => none }
def LeaseScriptsWrongFalsely : Prop := leaseScriptsRow.holds Try.pinned (OpenSpec.ofChange leaseScriptsWrong)

/-- 'pennantlaw16.LeaseLoads': WHATEVER THE INPUT: true; the input reads as it did. -/
def leaseLoadsSpec : ChangeSpec := { name := "leaseLoads", fn := fun _ => fun
  | [d1, d2] => { results := [.lit (.bool true)], args := [d1, d2] }
  | _ => none }
def leaseLoadsRow : OpenClaim := { program := "ytbmpglchifnelaa", sum := "a0066bcc9f08caabe26b5a4122c17e14abdd5e600b786c8d2f4408a5e709bf9a", func := "pennant/pennantlaw16.LeaseLoads", spec := "leaseLoads", apart := false }
def LeaseLoadsSaid : Prop := leaseLoadsRow.holds Try.pinned (OpenSpec.ofChange leaseLoadsSpec)

/-- ITS FALSE NEIGHBOUR: 'it returns false'. Refute it at one input. -/
def leaseLoadsWrong : ChangeSpec := { name := "leaseLoads", fn := fun _ => fun
  | [d1, d2] => { results := [.lit (.bool false)], args := [d1, d2] }
  | _ => none }
def LeaseLoadsWrongFalsely : Prop := leaseLoadsRow.holds Try.pinned (OpenSpec.ofChange leaseLoadsWrong)

/-- 'pennantlaw16.LeaseAgain': WHATEVER THE INPUT: true; the input reads as it did. -/
def leaseAgainSpec : ChangeSpec := { name := "leaseAgain", fn := fun _ => fun
  | [d1, d2] => { results := [.lit (.bool true)], args := [d1, d2] }
  | _ => none }
def leaseAgainRow : OpenClaim := { program := "ytbmpglchifnelaa", sum := "a0066bcc9f08caabe26b5a4122c17e14abdd5e600b786c8d2f4408a5e709bf9a", func := "pennant/pennantlaw16.LeaseAgain", spec := "leaseAgain", apart := false }
def LeaseAgainSaid : Prop := leaseAgainRow.holds Try.pinned (OpenSpec.ofChange leaseAgainSpec)

/-- ITS FALSE NEIGHBOUR: 'it returns false'. Refute it at one input. -/
def leaseAgainWrong : ChangeSpec := { name := "leaseAgain", fn := fun _ => fun
  | [d1, d2] => { results := [.lit (.bool false)], args := [d1, d2] }
  | _ => none }
def LeaseAgainWrongFalsely : Prop := leaseAgainRow.holds Try.pinned (OpenSpec.ofChange leaseAgainWrong)

/- THE SECOND FORM. 'bulk': how many values and letters a reading holds, each counted each time it is reached (what is shared counts as often as it is met; a slice's spare places count too). A statement '..UptoSaid' is the law's where the arguments, and the package variables that the reading takes, are together of bulk at most 1048576: NARROWER than '..Said'. Prove '..Said' where nothing that the law and all that it calls make is longer than what came in: it says more and counts as full. Else prove '..UptoSaid'. A law counts once. -/
mutual
def uptoBulk {H : Type} : DataW H → Nat
  | .lit (.string bytes) => bytes.length + 1
  | .lit _ => 1
  | .nil => 1
  | .ptr d => uptoBulk d + 1
  | .slice elems spare => uptoBulkAll elems + uptoBulkAll spare + 1
  | .agg parts => uptoBulkAll parts + 1
  | .iface _ d => uptoBulk d + 1
  | .map entries => uptoBulkEntries entries + 1
  | .held _ => 1
def uptoBulkAll {H : Type} : List (DataW H) → Nat
  | [] => 0
  | d :: r => uptoBulk d + uptoBulkAll r
def uptoBulkEntries {H : Type} : List (Lit × DataW H) → Nat
  | [] => 0
  | x :: r => uptoBulkEntry x + uptoBulkEntries r
def uptoBulkEntry {H : Type} : Lit × DataW H → Nat
  | (.string bytes, d) => bytes.length + uptoBulk d + 1
  | (_, d) => uptoBulk d + 1
 end
def uptoSmall : (H : Type) → List (DataW H) → Bool := fun _ ds => decide (uptoBulkAll ds ≤ 1048576)
def OpenSpec.upto (s : _root_.Go.ChangeSpec) : _root_.Go.OpenSpec := { _root_.Go.OpenSpec.ofChange s with cond := some uptoSmall }

/-- 'pennantlaw16.LeaseRenews', WHERE WHAT IT READS IS OF BULK AT MOST 1048576: true; the input reads as it did. -/
def leaseRenewsUptoRow : OpenClaim := { program := "ytbmpglchifnelaa", sum := "a0066bcc9f08caabe26b5a4122c17e14abdd5e600b786c8d2f4408a5e709bf9a", func := "pennant/pennantlaw16.LeaseRenews", spec := "leaseRenews", apart := false, narrowed := true }
def LeaseRenewsUptoSaid : Prop := leaseRenewsUptoRow.holds Try.pinned (OpenSpec.upto leaseRenewsSpec)

/-- 'pennantlaw16.LeaseEnds', WHERE WHAT IT READS IS OF BULK AT MOST 1048576: true; the input reads as it did. -/
def leaseEndsUptoRow : OpenClaim := { program := "ytbmpglchifnelaa", sum := "a0066bcc9f08caabe26b5a4122c17e14abdd5e600b786c8d2f4408a5e709bf9a", func := "pennant/pennantlaw16.LeaseEnds", spec := "leaseEnds", apart := false, narrowed := true }
def LeaseEndsUptoSaid : Prop := leaseEndsUptoRow.holds Try.pinned (OpenSpec.upto leaseEndsSpec)

/-- 'pennantlaw16.LeaseOnce', WHERE WHAT IT READS IS OF BULK AT MOST 1048576: true; the input reads as it did. -/
def leaseOnceUptoRow : OpenClaim := { program := "ytbmpglchifnelaa", sum := "a0066bcc9f08caabe26b5a4122c17e14abdd5e600b786c8d2f4408a5e709bf9a", func := "pennant/pennantlaw16.LeaseOnce", spec := "leaseOnce", apart := false, narrowed := true }
def LeaseOnceUptoSaid : Prop := leaseOnceUptoRow.holds Try.pinned (OpenSpec.upto leaseOnceSpec)

/-- 'pennantlaw16.LeaseScripts', WHERE WHAT IT READS IS OF BULK AT MOST 1048576: true; the input reads as it did. -/
def leaseScriptsUptoRow : OpenClaim := { program := "ytbmpglchifnelaa", sum := "a0066bcc9f08caabe26b5a4122c17e14abdd5e600b786c8d2f4408a5e709bf9a", func := "pennant/pennantlaw16.LeaseScripts", spec := "leaseScripts", apart := false, narrowed := true }
def LeaseScriptsUptoSaid : Prop := leaseScriptsUptoRow.holds Try.pinned (OpenSpec.upto leaseScriptsSpec)

/-- 'pennantlaw16.LeaseLoads', WHERE WHAT IT READS IS OF BULK AT MOST 1048576: true; the input reads as it did. -/
def leaseLoadsUptoRow : OpenClaim := { program := "ytbmpglchifnelaa", sum := "a0066bcc9f08caabe26b5a4122c17e14abdd5e600b786c8d2f4408a5e709bf9a", func := "pennant/pennantlaw16.LeaseLoads", spec := "leaseLoads", apart := false, narrowed := true }
def LeaseLoadsUptoSaid : Prop := leaseLoadsUptoRow.holds Try.pinned (OpenSpec.upto leaseLoadsSpec)

/-- 'pennantlaw16.LeaseAgain', WHERE WHAT IT READS IS OF BULK AT MOST 1048576: true; the input reads as it did. -/
def leaseAgainUptoRow : OpenClaim := { program := "ytbmpglchifnelaa", sum := "a0066bcc9f08caabe26b5a4122c17e14abdd5e600b786c8d2f4408a5e709bf9a", func := "pennant/pennantlaw16.LeaseAgain", spec := "leaseAgain", apart := false, narrowed := true }
def LeaseAgainUptoSaid : Prop := leaseAgainUptoRow.holds Try.pinned (OpenSpec.upto leaseAgainSpec)

end Rows
end Go.Proofs.Ytbmpglchifnelaa
