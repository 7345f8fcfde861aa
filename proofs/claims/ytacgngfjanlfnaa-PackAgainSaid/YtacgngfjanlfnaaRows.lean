/-
  NARROWER THAN 'FOR EVERY INPUT', by the rows' own cells (each row's printed sentence says how): PackEncodes: loops · PackApart: loops · PackFields: loops · PackMost: loops · PackDecodes: loops · PackAgain: loops · PackBack: loops.
  DERIVED. THE GIVEN ROWS OF THIS SEAT. 8 by the template 'for every input the law returns true; each argument reads behind the call as it read before'; 0 by the template 'total and deterministic' (their statements: YtacgngfjanlfnaaTotals.lean).
  GIVEN WITH THE SEED: the statements are not yours to turn. If you find one false, say at which input.
  Laid BY PROGRAM, IN A SANDBOX (cutbox-rows.mjs): the forced cells as the released guide's own fill.sh prints them over the translation 54ebeabd371140ff… (all of the seat's roots in one cut). By AI agents, Wed Nov 11 2026. No macro, syntax, notation, axiom, sorry.
-/
import Derived.Test.YtacgngfjanlfnaaChecked
import GoSem.Claim
import GoSem.ClaimJoined
import GoSem.ClaimMapViews
import Derived.JoinedTies
import Derived.KernelRfl
namespace Go.Proofs.Ytacgngfjanlfnaa
/- THE CELL 'sum', in the pinned program and in every row, IS THE sha256 OF THE DUMP (.gsa) THAT YtacgngfjanlfnaaProg.lean LOADS. Nothing in Lean hashes anything: it is a label: what it is worth is what the hold of that sum in a sandbox is worth. -/
noncomputable def Try.pinned : Pinned := { name := "ytacgngfjanlfnaa", sum := "54ebeabd371140ff82d64346a8dd50cc2edede69e241fd8d0ef5f4ecfc116cb5", checked := Try.checked }
namespace Rows
def none {H : Type} : Left H := { results := [], args := [] }

/-- 'pennantlaw03.PackEncodes': WHATEVER THE INPUT: true; the input reads as it did. -/
def packEncodesSpec : ChangeSpec := { name := "packEncodes", fn := fun _ => fun
  | [d1, d2] => { results := [.lit (.bool true)], args := [d1, d2] }
  | _ => none }
def packEncodesRow : OpenClaim := { program := "ytacgngfjanlfnaa", sum := "54ebeabd371140ff82d64346a8dd50cc2edede69e241fd8d0ef5f4ecfc116cb5", func := "pennant/pennantlaw03.PackEncodes", spec := "packEncodes", recurses := true, loops := true, apart := false }
def PackEncodesSaid : Prop := packEncodesRow.holds Try.pinned (OpenSpec.ofChange packEncodesSpec)

/-- ITS FALSE NEIGHBOUR: 'it returns false'. Refute it at one input. -/
def packEncodesWrong : ChangeSpec := { name := "packEncodes", fn := fun _ => fun
  | [d1, d2] => { results := [.lit (.bool false)], args := [d1, d2] }
  | _ => none }
def PackEncodesWrongFalsely : Prop := packEncodesRow.holds Try.pinned (OpenSpec.ofChange packEncodesWrong)

/-- 'pennantlaw03.PackApart': WHATEVER THE INPUT: true; the input reads as it did. -/
def packApartSpec : ChangeSpec := { name := "packApart", fn := fun _ => fun
  | [d1, d2, d3] => { results := [.lit (.bool true)], args := [d1, d2, d3] }
  | _ => none }
def packApartRow : OpenClaim := { program := "ytacgngfjanlfnaa", sum := "54ebeabd371140ff82d64346a8dd50cc2edede69e241fd8d0ef5f4ecfc116cb5", func := "pennant/pennantlaw03.PackApart", spec := "packApart", recurses := true, loops := true, apart := false }
def PackApartSaid : Prop := packApartRow.holds Try.pinned (OpenSpec.ofChange packApartSpec)

/-- ITS FALSE NEIGHBOUR: 'it returns false'. Refute it at one input. -/
def packApartWrong : ChangeSpec := { name := "packApart", fn := fun _ => fun
  | [d1, d2, d3] => { results := [.lit (.bool false)], args := [d1, d2, d3] }
  | _ => none }
def PackApartWrongFalsely : Prop := packApartRow.holds Try.pinned (OpenSpec.ofChange packApartWrong)

/-- 'pennantlaw03.PackFields': WHATEVER THE INPUT: true; the input reads as it did. -/
def packFieldsSpec : ChangeSpec := { name := "packFields", fn := fun _ => fun
  | [d] => { results := [.lit (.bool true)], args := [d] }
  | _ => none }
def packFieldsRow : OpenClaim := { program := "ytacgngfjanlfnaa", sum := "54ebeabd371140ff82d64346a8dd50cc2edede69e241fd8d0ef5f4ecfc116cb5", func := "pennant/pennantlaw03.PackFields", spec := "packFields", recurses := true, loops := true, apart := false }
def PackFieldsSaid : Prop := packFieldsRow.holds Try.pinned (OpenSpec.ofChange packFieldsSpec)

/-- ITS FALSE NEIGHBOUR: 'it returns false'. Refute it at one input. -/
def packFieldsWrong : ChangeSpec := { name := "packFields", fn := fun _ => fun
  | [d] => { results := [.lit (.bool false)], args := [d] }
  | _ => none }
def PackFieldsWrongFalsely : Prop := packFieldsRow.holds Try.pinned (OpenSpec.ofChange packFieldsWrong)

/-- 'pennantlaw03.PackNumbers': WHATEVER THE INPUT: true; the input reads as it did. -/
def packNumbersSpec : ChangeSpec := { name := "packNumbers", fn := fun _ => fun
  | [d1, d2, d3] => { results := [.lit (.bool true)], args := [d1, d2, d3] }
  | _ => none }
def packNumbersRow : OpenClaim := { program := "ytacgngfjanlfnaa", sum := "54ebeabd371140ff82d64346a8dd50cc2edede69e241fd8d0ef5f4ecfc116cb5", func := "pennant/pennantlaw03.PackNumbers", spec := "packNumbers", recurses := true, apart := false }
def PackNumbersSaid : Prop := packNumbersRow.holds Try.pinned (OpenSpec.ofChange packNumbersSpec)

/-- ITS FALSE NEIGHBOUR: 'it returns false'. Refute it at one input. -/
def packNumbersWrong : ChangeSpec := { name := "packNumbers", fn := fun _ => fun
  | [d1, d2, d3] => { results := [.lit (.bool false)], args := [d1, d2, d3] }
  | _ => none }
def PackNumbersWrongFalsely : Prop := packNumbersRow.holds Try.pinned (OpenSpec.ofChange packNumbersWrong)

/-- 'pennantlaw03.PackMost': WHATEVER THE INPUT: true; the input reads as it did. -/
def packMostSpec : ChangeSpec := { name := "packMost", fn := fun _ => fun
  | [d] => { results := [.lit (.bool true)], args := [d] }
  | _ => none }
def packMostRow : OpenClaim := { program := "ytacgngfjanlfnaa", sum := "54ebeabd371140ff82d64346a8dd50cc2edede69e241fd8d0ef5f4ecfc116cb5", func := "pennant/pennantlaw03.PackMost", spec := "packMost", recurses := true, loops := true, apart := false }
def PackMostSaid : Prop := packMostRow.holds Try.pinned (OpenSpec.ofChange packMostSpec)

/-- ITS FALSE NEIGHBOUR: 'it returns false'. Refute it at one input. -/
def packMostWrong : ChangeSpec := { name := "packMost", fn := fun _ => fun
  | [d] => { results := [.lit (.bool false)], args := [d] }
  | _ => none }
def PackMostWrongFalsely : Prop := packMostRow.holds Try.pinned (OpenSpec.ofChange packMostWrong)

/-- 'pennantlaw03.PackDecodes': WHATEVER THE INPUT: true; the input reads as it did. -/
def packDecodesSpec : ChangeSpec := { name := "packDecodes", fn := fun _ => fun
  | [d1, d2] => { results := [.lit (.bool true)], args := [d1, d2] }
  | _ => none }
def packDecodesRow : OpenClaim := { program := "ytacgngfjanlfnaa", sum := "54ebeabd371140ff82d64346a8dd50cc2edede69e241fd8d0ef5f4ecfc116cb5", func := "pennant/pennantlaw03.PackDecodes", spec := "packDecodes", unfollowed := true, recurses := true, loops := true, apart := false }
def PackDecodesSaid : Prop := packDecodesRow.holds Try.pinned (OpenSpec.ofChange packDecodesSpec)

/-- ITS FALSE NEIGHBOUR: 'it returns false'. Refute it at one input. -/
def packDecodesWrong : ChangeSpec := { name := "packDecodes", fn := fun _ => fun
  | [d1, d2] => { results := [.lit (.bool false)], args := [d1, d2] }
  | _ => none }
def PackDecodesWrongFalsely : Prop := packDecodesRow.holds Try.pinned (OpenSpec.ofChange packDecodesWrong)

/-- 'pennantlaw03.PackAgain': WHATEVER THE INPUT: true; the input reads as it did. -/
def packAgainSpec : ChangeSpec := { name := "packAgain", fn := fun _ => fun
  | [d1, d2] => { results := [.lit (.bool true)], args := [d1, d2] }
  | _ => none }
def packAgainRow : OpenClaim := { program := "ytacgngfjanlfnaa", sum := "54ebeabd371140ff82d64346a8dd50cc2edede69e241fd8d0ef5f4ecfc116cb5", func := "pennant/pennantlaw03.PackAgain", spec := "packAgain", unfollowed := true, recurses := true, loops := true, apart := false }
def PackAgainSaid : Prop := packAgainRow.holds Try.pinned (OpenSpec.ofChange packAgainSpec)

/-- ITS FALSE NEIGHBOUR: 'it returns false'. Refute it at one input. -/
def packAgainWrong : ChangeSpec := { name := "packAgain", fn := fun _ => fun
  | [d1, d2] => { results := [.lit (.bool false)], args := [d1, d2] }
  | _ => none }
def PackAgainWrongFalsely : Prop := packAgainRow.holds Try.pinned (OpenSpec.ofChange packAgainWrong)

/-- 'pennantlaw03.PackBack': WHATEVER THE INPUT: true; the input reads as it did. -/
def packBackSpec : ChangeSpec := { name := "packBack", fn := fun _ => fun
  | [d1, d2] => { results := [.lit (.bool true)], args := [d1, d2] }
  | _ => none }
def packBackRow : OpenClaim := { program := "ytacgngfjanlfnaa", sum := "54ebeabd371140ff82d64346a8dd50cc2edede69e241fd8d0ef5f4ecfc116cb5", func := "pennant/pennantlaw03.PackBack", spec := "packBack", unfollowed := true, recurses := true, loops := true, apart := false }
def PackBackSaid : Prop := packBackRow.holds Try.pinned (OpenSpec.ofChange packBackSpec)

/-- ITS FALSE NEIGHBOUR: 'it returns false'. Refute it at one input. -/
def packBackWrong : ChangeSpec := { name := "packBack", fn := fun _ => fun
  | [d1, d2] => { results := [.lit (.bool false)], args := [d1, d2] }
  | _ => none }
def PackBackWrongFalsely : Prop := packBackRow.holds Try.pinned (OpenSpec.ofChange packBackWrong)

/- THE SECOND FORM. 'bulk': how many values and letters a reading holds, each counted each time it is reached (what is shared counts as often as it is met; a slice's spare places count too). A statement '..UptoSaid' is the law's where the arguments, and the package variables that the reading takes, are together of bulk at most 1048576: NARROWER than '..Said'. Prove '..Said' where nothing that the law and all that it calls make is longer than what came in: it says more and counts as full. Else prove '..UptoSaid'. A law counts once. -/
mutual
def uptoBulk {H : Type} : DataW H → Nat
  | .lit (.string bytes) => bytes.length + 1
  | .lit _ => 1
  | .nil => 1
  | .ptr d => uptoBulk d + 1
  | .slice elems spare => uptoBulkAll elems + uptoBulkAll spare + 1
  | .agg parts => uptoBulkAll parts + 1
  | .iface _ d => uptoBulk d + 1
  | .map entries => uptoBulkEntries entries + 1
  | .held _ => 1
def uptoBulkAll {H : Type} : List (DataW H) → Nat
  | [] => 0
  | d :: r => uptoBulk d + uptoBulkAll r
def uptoBulkEntries {H : Type} : List (Lit × DataW H) → Nat
  | [] => 0
  | x :: r => uptoBulkEntry x + uptoBulkEntries r
def uptoBulkEntry {H : Type} : Lit × DataW H → Nat
  | (.string bytes, d) => bytes.length + uptoBulk d + 1
  | (_, d) => uptoBulk d + 1
 end
def uptoSmall : (H : Type) → List (DataW H) → Bool := fun _ ds => decide (uptoBulkAll ds ≤ 1048576)
def OpenSpec.upto (s : _root_.Go.ChangeSpec) : _root_.Go.OpenSpec := { _root_.Go.OpenSpec.ofChange s with cond := some uptoSmall }

/-- 'pennantlaw03.PackEncodes', WHERE WHAT IT READS IS OF BULK AT MOST 1048576: true; the input reads as it did. -/
def packEncodesUptoRow : OpenClaim := { program := "ytacgngfjanlfnaa", sum := "54ebeabd371140ff82d64346a8dd50cc2edede69e241fd8d0ef5f4ecfc116cb5", func := "pennant/pennantlaw03.PackEncodes", spec := "packEncodes", recurses := true, loops := true, apart := false, narrowed := true }
def PackEncodesUptoSaid : Prop := packEncodesUptoRow.holds Try.pinned (OpenSpec.upto packEncodesSpec)

/-- 'pennantlaw03.PackApart', WHERE WHAT IT READS IS OF BULK AT MOST 1048576: true; the input reads as it did. -/
def packApartUptoRow : OpenClaim := { program := "ytacgngfjanlfnaa", sum := "54ebeabd371140ff82d64346a8dd50cc2edede69e241fd8d0ef5f4ecfc116cb5", func := "pennant/pennantlaw03.PackApart", spec := "packApart", recurses := true, loops := true, apart := false, narrowed := true }
def PackApartUptoSaid : Prop := packApartUptoRow.holds Try.pinned (OpenSpec.upto packApartSpec)

/-- 'pennantlaw03.PackFields', WHERE WHAT IT READS IS OF BULK AT MOST 1048576: true; the input reads as it did. -/
def packFieldsUptoRow : OpenClaim := { program := "ytacgngfjanlfnaa", sum := "54ebeabd371140ff82d64346a8dd50cc2edede69e241fd8d0ef5f4ecfc116cb5", func := "pennant/pennantlaw03.PackFields", spec := "packFields", recurses := true, loops := true, apart := false, narrowed := true }
def PackFieldsUptoSaid : Prop := packFieldsUptoRow.holds Try.pinned (OpenSpec.upto packFieldsSpec)

/-- 'pennantlaw03.PackNumbers', WHERE WHAT IT READS IS OF BULK AT MOST 1048576: true; the input reads as it did. -/
def packNumbersUptoRow : OpenClaim := { program := "ytacgngfjanlfnaa", sum := "54ebeabd371140ff82d64346a8dd50cc2edede69e241fd8d0ef5f4ecfc116cb5", func := "pennant/pennantlaw03.PackNumbers", spec := "packNumbers", recurses := true, apart := false, narrowed := true }
def PackNumbersUptoSaid : Prop := packNumbersUptoRow.holds Try.pinned (OpenSpec.upto packNumbersSpec)

/-- 'pennantlaw03.PackMost', WHERE WHAT IT READS IS OF BULK AT MOST 1048576: true; the input reads as it did. -/
def packMostUptoRow : OpenClaim := { program := "ytacgngfjanlfnaa", sum := "54ebeabd371140ff82d64346a8dd50cc2edede69e241fd8d0ef5f4ecfc116cb5", func := "pennant/pennantlaw03.PackMost", spec := "packMost", recurses := true, loops := true, apart := false, narrowed := true }
def PackMostUptoSaid : Prop := packMostUptoRow.holds Try.pinned (OpenSpec.upto packMostSpec)

/-- 'pennantlaw03.PackDecodes', WHERE WHAT IT READS IS OF BULK AT MOST 1048576: true; the input reads as it did. -/
def packDecodesUptoRow : OpenClaim := { program := "ytacgngfjanlfnaa", sum := "54ebeabd371140ff82d64346a8dd50cc2edede69e241fd8d0ef5f4ecfc116cb5", func := "pennant/pennantlaw03.PackDecodes", spec := "packDecodes", unfollowed := true, recurses := true, loops := true, apart := false, narrowed := true }
def PackDecodesUptoSaid : Prop := packDecodesUptoRow.holds Try.pinned (OpenSpec.upto packDecodesSpec)

/-- 'pennantlaw03.PackAgain', WHERE WHAT IT READS IS OF BULK AT MOST 1048576: true; the input reads as it did. -/
def packAgainUptoRow : OpenClaim := { program := "ytacgngfjanlfnaa", sum := "54ebeabd371140ff82d64346a8dd50cc2edede69e241fd8d0ef5f4ecfc116cb5", func := "pennant/pennantlaw03.PackAgain", spec := "packAgain", unfollowed := true, recurses := true, loops := true, apart := false, narrowed := true }
def PackAgainUptoSaid : Prop := packAgainUptoRow.holds Try.pinned (OpenSpec.upto packAgainSpec)

/-- 'pennantlaw03.PackBack', WHERE WHAT IT READS IS OF BULK AT MOST 1048576: true; the input reads as it did. -/
def packBackUptoRow : OpenClaim := { program := "ytacgngfjanlfnaa", sum := "54ebeabd371140ff82d64346a8dd50cc2edede69e241fd8d0ef5f4ecfc116cb5", func := "pennant/pennantlaw03.PackBack", spec := "packBack", unfollowed := true, recurses := true, loops := true, apart := false, narrowed := true }
def PackBackUptoSaid : Prop := packBackUptoRow.holds Try.pinned (OpenSpec.upto packBackSpec)

end Rows
end Go.Proofs.Ytacgngfjanlfnaa
