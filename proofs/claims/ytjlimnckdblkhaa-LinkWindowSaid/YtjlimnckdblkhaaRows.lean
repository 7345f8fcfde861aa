/-
  No cell of these rows narrows 'for every input' (looked for: loops, veiled, ifaces, maps, wideKeys, modest, calm, conditions, laid).
  DERIVED. THE GIVEN ROWS OF THIS SEAT. 6 by the template 'for every input the law returns true; each argument reads behind the call as it read before'; 0 by the template 'total and deterministic' (their statements: YtjlimnckdblkhaaTotals.lean).
  GIVEN WITH THE SEED: the statements are not yours to turn. If you find one false, say at which input.
  Laid BY PROGRAM, IN A SANDBOX (cutbox-rows.mjs): the forced cells as the released guide's own fill.sh prints them over the translation d083e61dac3033d0… (all of the seat's roots in one cut). By AI agents, Wed Nov 11 2026. No macro, syntax, notation, axiom, sorry.
-/
import Derived.Test.YtjlimnckdblkhaaChecked
import GoSem.Claim
import GoSem.ClaimJoined
import GoSem.ClaimMapViews
import Derived.JoinedTies
import Derived.KernelRfl
namespace Go.Proofs.Ytjlimnckdblkhaa
/- THE CELL 'sum', in the pinned program and in every row, IS THE sha256 OF THE DUMP (.gsa) THAT YtjlimnckdblkhaaProg.lean LOADS. Nothing in Lean hashes anything: it is a label: what it is worth is what the hold of that sum in a sandbox is worth. -/
noncomputable def Try.pinned : Pinned := { name := "ytjlimnckdblkhaa", sum := "d083e61dac3033d01aca648d914537267e63f26a6f7f71b51cff45d8dd124a11", checked := Try.checked }
namespace Rows
def none {H : Type} : Left H := { results := [], args := [] }

/-- 'pennantlaw13.LinkRight': WHATEVER THE INPUT: true; the input reads as it did. -/
def linkRightSpec : ChangeSpec := { name := "linkRight", fn := fun _ => fun
  | [d1, d2] => { results := [.lit (.bool true)], args := [d1, d2] }
  | _ => none }
def linkRightRow : OpenClaim := { program := "ytjlimnckdblkhaa", sum := "d083e61dac3033d01aca648d914537267e63f26a6f7f71b51cff45d8dd124a11", func := "pennant/pennantlaw13.LinkRight", spec := "linkRight", unfollowed := true, recurses := true, apart := false }
def LinkRightSaid : Prop := linkRightRow.holds Try.pinned (OpenSpec.ofChange linkRightSpec)

/-- ITS FALSE NEIGHBOUR: 'it returns false'. Refute it at one input. -/
def linkRightWrong : ChangeSpec := { name := "linkRight", fn := fun _ => fun
  | [d1, d2] => { results := [.lit (.bool false)], args := [d1, d2] }
  | _ => none }
def LinkRightWrongFalsely : Prop := linkRightRow.holds Try.pinned (OpenSpec.ofChange linkRightWrong)

/-- 'pennantlaw13.LinkScripts': WHATEVER THE INPUT: true; the input reads as it did. -/
def linkScriptsSpec : ChangeSpec := { name := "linkScripts", fn := fun _ => fun
  | [d1, d2] => { results := [.lit (.bool true)], args := [d1, d2] }
  | _ => none }
def linkScriptsRow : OpenClaim := { program := "ytjlimnckdblkhaa", sum := "d083e61dac3033d01aca648d914537267e63f26a6f7f71b51cff45d8dd124a11", func := "pennant/pennantlaw13.LinkScripts", spec := "linkScripts", unfollowed := true, recurses := true, apart := false }
def LinkScriptsSaid : Prop := linkScriptsRow.holds Try.pinned (OpenSpec.ofChange linkScriptsSpec)

/-- ITS FALSE NEIGHBOUR: 'it returns false'. Refute it at one input. -/
def linkScriptsWrong : ChangeSpec := { name := "linkScripts", fn := fun _ => fun
  | [d1, d2] => { results := [.lit (.bool false)], args := [d1, d2] }
  | _ => none }
def LinkScriptsWrongFalsely : Prop := linkScriptsRow.holds Try.pinned (OpenSpec.ofChange linkScriptsWrong)

/-- 'pennantlaw13.LinkOnce': WHATEVER THE INPUT: true; the input reads as it did. -/
def linkOnceSpec : ChangeSpec := { name := "linkOnce", fn := fun _ => fun
  | [d1, d2, d3] => { results := [.lit (.bool true)], args := [d1, d2, d3] }
  | _ => none }
def linkOnceRow : OpenClaim := { program := "ytjlimnckdblkhaa", sum := "d083e61dac3033d01aca648d914537267e63f26a6f7f71b51cff45d8dd124a11", func := "pennant/pennantlaw13.LinkOnce", spec := "linkOnce", unfollowed := true, recurses := true, apart := false }
def LinkOnceSaid : Prop := linkOnceRow.holds Try.pinned (OpenSpec.ofChange linkOnceSpec)

/-- ITS FALSE NEIGHBOUR: 'it returns false'. Refute it at one input. -/
def linkOnceWrong : ChangeSpec := { name := "linkOnce", fn := fun _ => fun
  | [d1, d2, d3] => { results := [.lit (.bool false)], args := [d1, d2, d3] }
  | _ => none }
def LinkOnceWrongFalsely : Prop := linkOnceRow.holds Try.pinned (OpenSpec.ofChange linkOnceWrong)

/-- 'pennantlaw13.LinkAnew': WHATEVER THE INPUT: true; the input reads as it did. -/
def linkAnewSpec : ChangeSpec := { name := "linkAnew", fn := fun _ => fun
  | [d1, d2] => { results := [.lit (.bool true)], args := [d1, d2] }
  | _ => none }
def linkAnewRow : OpenClaim := { program := "ytjlimnckdblkhaa", sum := "d083e61dac3033d01aca648d914537267e63f26a6f7f71b51cff45d8dd124a11", func := "pennant/pennantlaw13.LinkAnew", spec := "linkAnew", unfollowed := true, recurses := true, apart := false }
def LinkAnewSaid : Prop := linkAnewRow.holds Try.pinned (OpenSpec.ofChange linkAnewSpec)

/-- ITS FALSE NEIGHBOUR: 'it returns false'. Refute it at one input. -/
def linkAnewWrong : ChangeSpec := { name := "linkAnew", fn := fun _ => fun
  | [d1, d2] => { results := [.lit (.bool false)], args := [d1, d2] }
  | _ => none }
def LinkAnewWrongFalsely : Prop := linkAnewRow.holds Try.pinned (OpenSpec.ofChange linkAnewWrong)

/-- 'pennantlaw13.LinkWindow': WHATEVER THE INPUT: true; the input reads as it did. -/
def linkWindowSpec : ChangeSpec := { name := "linkWindow", fn := fun _ => fun
  | [d1, d2] => { results := [.lit (.bool true)], args := [d1, d2] }
  | _ => none }
def linkWindowRow : OpenClaim := { program := "ytjlimnckdblkhaa", sum := "d083e61dac3033d01aca648d914537267e63f26a6f7f71b51cff45d8dd124a11", func := "pennant/pennantlaw13.LinkWindow", spec := "linkWindow", unfollowed := true, recurses := true, apart := false }
def LinkWindowSaid : Prop := linkWindowRow.holds Try.pinned (OpenSpec.ofChange linkWindowSpec)

/-- ITS FALSE NEIGHBOUR: 'it returns false'. Refute it at one input. -/
def linkWindowWrong : ChangeSpec := { name := "linkWindow", fn := fun _ => fun
  | [d1, d2] => { results := [.lit (.bool false)], args := [d1, d2] }
  | _ => none }
def LinkWindowWrongFalsely : Prop := linkWindowRow.holds Try.pinned (OpenSpec.ofChange linkWindowWrong)

/-- 'pennantlaw13.LinkStill': WHATEVER THE INPUT: true; the input reads as it did. -/
def linkStillSpec : ChangeSpec := { name := "linkStill", fn := fun _ => fun
  | [d1, d2] => { results := [.lit (.bool true)], args := [d1, d2] }
  | _ => none }
def linkStillRow : OpenClaim := { program := "ytjlimnckdblkhaa", sum := "d083e61dac3033d01aca648d914537267e63f26a6f7f71b51cff45d8dd124a11", func := "pennant/pennantlaw13.LinkStill", spec := "linkStill", unfollowed := true, recurses := true, apart := false }
def LinkStillSaid : Prop := linkStillRow.holds Try.pinned (OpenSpec.ofChange linkStillSpec)

/-- ITS FALSE NEIGHBOUR: 'it returns false'. Refute it at one input. -/
def linkStillWrong : ChangeSpec := { name := "linkStill", fn := fun _ => fun
  | [d1, d2] => { results := [.lit (.bool false)], args := [d1, d2] }
  | _ => none }
def LinkStillWrongFalsely : Prop := linkStillRow.holds Try.pinned (OpenSpec.ofChange linkStillWrong)

/- THE SECOND FORM. 'bulk': how many values and letters a reading holds, each counted each time it is reached (what is shared counts as often as it is met; a slice's spare places count too). A statement '..UptoSaid' is the law's where the arguments, and the package variables that the reading takes, are together of bulk at most 1048576: NARROWER than '..Said'. Prove '..Said' where nothing that the law and all that it calls make is longer than what came in: it says more and counts as full. Else prove '..UptoSaid'. A law counts once. -/
mutual
def uptoBulk {H : Type} : DataW H → Nat
  | .lit (.string bytes) => bytes.length + 1
  | .lit _ => 1
  | .nil => 1
  | .ptr d => uptoBulk d + 1
  | .slice elems spare => uptoBulkAll elems + uptoBulkAll spare + 1
  | .agg parts => uptoBulkAll parts + 1
  | .iface _ d => uptoBulk d + 1
  | .map entries => uptoBulkEntries entries + 1
  | .held _ => 1
def uptoBulkAll {H : Type} : List (DataW H) → Nat
  | [] => 0
  | d :: r => uptoBulk d + uptoBulkAll r
def uptoBulkEntries {H : Type} : List (Lit × DataW H) → Nat
  | [] => 0
  | x :: r => uptoBulkEntry x + uptoBulkEntries r
def uptoBulkEntry {H : Type} : Lit × DataW H → Nat
  | (.string bytes, d) => bytes.length + uptoBulk d + 1
  | (_, d) => uptoBulk d + 1
 end
def uptoSmall : (H : Type) → List (DataW H) → Bool := fun _ ds => decide (uptoBulkAll ds ≤ 1048576)
def OpenSpec.upto (s : _root_.Go.ChangeSpec) : _root_.Go.OpenSpec := { _root_.Go.OpenSpec.ofChange s with cond := some uptoSmall }

/-- 'pennantlaw13.LinkRight', WHERE WHAT IT READS IS OF BULK AT MOST 1048576: true; the input reads as it did. -/
def linkRightUptoRow : OpenClaim := { program := "ytjlimnckdblkhaa", sum := "d083e61dac3033d01aca648d914537267e63f26a6f7f71b51cff45d8dd124a11", func := "pennant/pennantlaw13.LinkRight", spec := "linkRight", unfollowed := true, recurses := true, apart := false, narrowed := true }
def LinkRightUptoSaid : Prop := linkRightUptoRow.holds Try.pinned (OpenSpec.upto linkRightSpec)

/-- 'pennantlaw13.LinkScripts', WHERE WHAT IT READS IS OF BULK AT MOST 1048576: true; the input reads as it did. -/
def linkScriptsUptoRow : OpenClaim := { program := "ytjlimnckdblkhaa", sum := "d083e61dac3033d01aca648d914537267e63f26a6f7f71b51cff45d8dd124a11", func := "pennant/pennantlaw13.LinkScripts", spec := "linkScripts", unfollowed := true, recurses := true, apart := false, narrowed := true }
def LinkScriptsUptoSaid : Prop := linkScriptsUptoRow.holds Try.pinned (OpenSpec.upto linkScriptsSpec)

/-- 'pennantlaw13.LinkOnce', WHERE WHAT IT READS IS OF BULK AT MOST 1048576: true; the input reads as it did. -/
def linkOnceUptoRow : OpenClaim := { program := "ytjlimnckdblkhaa", sum := "d083e61dac3033d01aca648d914537267e63f26a6f7f71b51cff45d8dd124a11", func := "pennant/pennantlaw13.LinkOnce", spec := "linkOnce", unfollowed := true, recurses := true, apart := false, narrowed := true }
def LinkOnceUptoSaid : Prop := linkOnceUptoRow.holds Try.pinned (OpenSpec.upto linkOnceSpec)

/-- 'pennantlaw13.LinkAnew', WHERE WHAT IT READS IS OF BULK AT MOST 1048576: true; the input reads as it did. -/
def linkAnewUptoRow : OpenClaim := { program := "ytjlimnckdblkhaa", sum := "d083e61dac3033d01aca648d914537267e63f26a6f7f71b51cff45d8dd124a11", func := "pennant/pennantlaw13.LinkAnew", spec := "linkAnew", unfollowed := true, recurses := true, apart := false, narrowed := true }
def LinkAnewUptoSaid : Prop := linkAnewUptoRow.holds Try.pinned (OpenSpec.upto linkAnewSpec)

/-- 'pennantlaw13.LinkWindow', WHERE WHAT IT READS IS OF BULK AT MOST 1048576: true; the input reads as it did. -/
def linkWindowUptoRow : OpenClaim := { program := "ytjlimnckdblkhaa", sum := "d083e61dac3033d01aca648d914537267e63f26a6f7f71b51cff45d8dd124a11", func := "pennant/pennantlaw13.LinkWindow", spec := "linkWindow", unfollowed := true, recurses := true, apart := false, narrowed := true }
def LinkWindowUptoSaid : Prop := linkWindowUptoRow.holds Try.pinned (OpenSpec.upto linkWindowSpec)

/-- 'pennantlaw13.LinkStill', WHERE WHAT IT READS IS OF BULK AT MOST 1048576: true; the input reads as it did. -/
def linkStillUptoRow : OpenClaim := { program := "ytjlimnckdblkhaa", sum := "d083e61dac3033d01aca648d914537267e63f26a6f7f71b51cff45d8dd124a11", func := "pennant/pennantlaw13.LinkStill", spec := "linkStill", unfollowed := true, recurses := true, apart := false, narrowed := true }
def LinkStillUptoSaid : Prop := linkStillUptoRow.holds Try.pinned (OpenSpec.upto linkStillSpec)

end Rows
end Go.Proofs.Ytjlimnckdblkhaa
