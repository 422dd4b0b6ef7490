/-
  No cell of these rows narrows 'for every input' (looked for: loops, veiled, ifaces, maps, wideKeys, modest, calm, conditions, laid).
  DERIVED. THE GIVEN ROWS OF THIS SEAT. 9 by the template 'for every input the law returns true; each argument reads behind the call as it read before'; 0 by the template 'total and deterministic' (their statements: YtmggphnhfegffaaTotals.lean).
  GIVEN WITH THE SEED: the statements are not yours to turn. If you find one false, say at which input.
  Laid BY PROGRAM, IN A SANDBOX (cutbox-rows.mjs): the forced cells as the released guide's own fill.sh prints them over the translation 06e0ec260fdbe475… (all of the seat's roots in one cut). By AI agents, Wed Nov 11 2026. No macro, syntax, notation, axiom, sorry.
-/
import Derived.Test.YtmggphnhfegffaaChecked
import GoSem.Claim
import GoSem.ClaimJoined
import GoSem.ClaimMapViews
import Derived.JoinedTies
import Derived.KernelRfl
namespace Go.Proofs.Ytmggphnhfegffaa
/- THE CELL 'sum', in the pinned program and in every row, IS THE sha256 OF THE DUMP (.gsa) THAT YtmggphnhfegffaaProg.lean LOADS. Nothing in Lean hashes anything: it is a label: what it is worth is what the hold of that sum in a sandbox is worth. -/
noncomputable def Try.pinned : Pinned := { name := "ytmggphnhfegffaa", sum := "06e0ec260fdbe475289ca68ed80eec628178f5004d092a4ad7e505f15a2f333f", checked := Try.checked }
namespace Rows
def none {H : Type} : Left H := { results := [], args := [] }

/-- 'awardingbodylaw08.BlueprintSpans': WHATEVER THE INPUT: true; the input reads as it did. -/
def blueprintSpansSpec : ChangeSpec := { name := "blueprintSpans", fn := fun _ => fun
  | [d1, d2, d3] => { results := [.lit (.bool true)], args := [d1, d2, d3] }
  | _ => none }
def blueprintSpansRow : OpenClaim := { program := "ytmggphnhfegffaa", sum := "06e0ec260fdbe475289ca68ed80eec628178f5004d092a4ad7e505f15a2f333f", func := "awardingbody/awardingbodylaw08.BlueprintSpans", spec := "blueprintSpans", unfollowed := true, recurses := true, apart := false }
def BlueprintSpansSaid : Prop := blueprintSpansRow.holds Try.pinned (OpenSpec.ofChange blueprintSpansSpec)

/-- ITS FALSE NEIGHBOUR: 'it returns false'. Refute it at one input. -/
def blueprintSpansWrong : ChangeSpec := { name := "blueprintSpans", fn := fun _ => fun
  | [d1, d2, d3] => { results := [.lit (.bool false)], args := [d1, d2, d3] }
  | _ => none }
def BlueprintSpansWrongFalsely : Prop := blueprintSpansRow.holds Try.pinned (OpenSpec.ofChange blueprintSpansWrong)

/-- 'awardingbodylaw08.BlueprintDead': WHATEVER THE INPUT: true; the input reads as it did. -/
def blueprintDeadSpec : ChangeSpec := { name := "blueprintDead", fn := fun _ => fun
  | [d] => { results := [.lit (.bool true)], args := [d] }
  | _ => none }
def blueprintDeadRow : OpenClaim := { program := "ytmggphnhfegffaa", sum := "06e0ec260fdbe475289ca68ed80eec628178f5004d092a4ad7e505f15a2f333f", func := "awardingbody/awardingbodylaw08.BlueprintDead", spec := "blueprintDead", unfollowed := true, recurses := true, apart := false }
def BlueprintDeadSaid : Prop := blueprintDeadRow.holds Try.pinned (OpenSpec.ofChange blueprintDeadSpec)

/-- ITS FALSE NEIGHBOUR: 'it returns false'. Refute it at one input. -/
def blueprintDeadWrong : ChangeSpec := { name := "blueprintDead", fn := fun _ => fun
  | [d] => { results := [.lit (.bool false)], args := [d] }
  | _ => none }
def BlueprintDeadWrongFalsely : Prop := blueprintDeadRow.holds Try.pinned (OpenSpec.ofChange blueprintDeadWrong)

/-- 'awardingbodylaw08.BlueprintSound': WHATEVER THE INPUT: true; the input reads as it did. -/
def blueprintSoundSpec : ChangeSpec := { name := "blueprintSound", fn := fun _ => fun
  | [d] => { results := [.lit (.bool true)], args := [d] }
  | _ => none }
def blueprintSoundRow : OpenClaim := { program := "ytmggphnhfegffaa", sum := "06e0ec260fdbe475289ca68ed80eec628178f5004d092a4ad7e505f15a2f333f", func := "awardingbody/awardingbodylaw08.BlueprintSound", spec := "blueprintSound", unfollowed := true, recurses := true, apart := false }
def BlueprintSoundSaid : Prop := blueprintSoundRow.holds Try.pinned (OpenSpec.ofChange blueprintSoundSpec)

/-- ITS FALSE NEIGHBOUR: 'it returns false'. Refute it at one input. -/
def blueprintSoundWrong : ChangeSpec := { name := "blueprintSound", fn := fun _ => fun
  | [d] => { results := [.lit (.bool false)], args := [d] }
  | _ => none }
def BlueprintSoundWrongFalsely : Prop := blueprintSoundRow.holds Try.pinned (OpenSpec.ofChange blueprintSoundWrong)

/-- 'awardingbodylaw08.BlueprintStays': WHATEVER THE INPUT: true; the input reads as it did. -/
def blueprintStaysSpec : ChangeSpec := { name := "blueprintStays", fn := fun _ => fun
  | [d1, d2, d3] => { results := [.lit (.bool true)], args := [d1, d2, d3] }
  | _ => none }
def blueprintStaysRow : OpenClaim := { program := "ytmggphnhfegffaa", sum := "06e0ec260fdbe475289ca68ed80eec628178f5004d092a4ad7e505f15a2f333f", func := "awardingbody/awardingbodylaw08.BlueprintStays", spec := "blueprintStays", unfollowed := true, recurses := true, apart := false }
def BlueprintStaysSaid : Prop := blueprintStaysRow.holds Try.pinned (OpenSpec.ofChange blueprintStaysSpec)

/-- ITS FALSE NEIGHBOUR: 'it returns false'. Refute it at one input. -/
def blueprintStaysWrong : ChangeSpec := { name := "blueprintStays", fn := fun _ => fun
  | [d1, d2, d3] => { results := [.lit (.bool false)], args := [d1, d2, d3] }
  | _ => none }
def BlueprintStaysWrongFalsely : Prop := blueprintStaysRow.holds Try.pinned (OpenSpec.ofChange blueprintStaysWrong)

/-- 'awardingbodylaw08.BlueprintPrograms': WHATEVER THE INPUT: true; the input reads as it did. -/
def blueprintProgramsSpec : ChangeSpec := { name := "blueprintPrograms", fn := fun _ => fun
  | [d1, d2] => { results := [.lit (.bool true)], args := [d1, d2] }
  | _ => none }
def blueprintProgramsRow : OpenClaim := { program := "ytmggphnhfegffaa", sum := "06e0ec260fdbe475289ca68ed80eec628178f5004d092a4ad7e505f15a2f333f", func := "awardingbody/awardingbodylaw08.BlueprintPrograms", spec := "blueprintPrograms", unfollowed := true, recurses := true, apart := false }
def BlueprintProgramsSaid : Prop := blueprintProgramsRow.holds Try.pinned (OpenSpec.ofChange blueprintProgramsSpec)

/-- ITS FALSE NEIGHBOUR: 'it returns false'. Refute it at one input. -/
def blueprintProgramsWrong : ChangeSpec := { name := "blueprintPrograms", fn := fun _ => fun
  | [d1, d2] => { results := [.lit (.bool false)], args := [d1, d2] }
  | _ => none }
def BlueprintProgramsWrongFalsely : Prop := blueprintProgramsRow.holds Try.pinned (OpenSpec.ofChange blueprintProgramsWrong)

/-- 'awardingbodylaw08.BlueprintChecks': WHATEVER THE INPUT: true; the input reads as it did. -/
def blueprintChecksSpec : ChangeSpec := { name := "blueprintChecks", fn := fun _ => fun
  | [d] => { results := [.lit (.bool true)], args := [d] }
  | _ => none }
def blueprintChecksRow : OpenClaim := { program := "ytmggphnhfegffaa", sum := "06e0ec260fdbe475289ca68ed80eec628178f5004d092a4ad7e505f15a2f333f", func := "awardingbody/awardingbodylaw08.BlueprintChecks", spec := "blueprintChecks", unfollowed := true, recurses := true, apart := false }
def BlueprintChecksSaid : Prop := blueprintChecksRow.holds Try.pinned (OpenSpec.ofChange blueprintChecksSpec)

/-- ITS FALSE NEIGHBOUR: 'it returns false'. Refute it at one input. -/
def blueprintChecksWrong : ChangeSpec := { name := "blueprintChecks", fn := fun _ => fun
  | [d] => { results := [.lit (.bool false)], args := [d] }
  | _ => none }
def BlueprintChecksWrongFalsely : Prop := blueprintChecksRow.holds Try.pinned (OpenSpec.ofChange blueprintChecksWrong)

/-- 'awardingbodylaw08.BlueprintRows': WHATEVER THE INPUT: true; the input reads as it did. -/
def blueprintRowsSpec : ChangeSpec := { name := "blueprintRows", fn := fun _ => fun
  | [d] => { results := [.lit (.bool true)], args := [d] }
  | _ => none }
def blueprintRowsRow : OpenClaim := { program := "ytmggphnhfegffaa", sum := "06e0ec260fdbe475289ca68ed80eec628178f5004d092a4ad7e505f15a2f333f", func := "awardingbody/awardingbodylaw08.BlueprintRows", spec := "blueprintRows", unfollowed := true, recurses := true, apart := false }
def BlueprintRowsSaid : Prop := blueprintRowsRow.holds Try.pinned (OpenSpec.ofChange blueprintRowsSpec)

/-- ITS FALSE NEIGHBOUR: 'it returns false'. Refute it at one input. -/
def blueprintRowsWrong : ChangeSpec := { name := "blueprintRows", fn := fun _ => fun
  | [d] => { results := [.lit (.bool false)], args := [d] }
  | _ => none }
def BlueprintRowsWrongFalsely : Prop := blueprintRowsRow.holds Try.pinned (OpenSpec.ofChange blueprintRowsWrong)

/-- 'awardingbodylaw08.BlueprintMany': WHATEVER THE INPUT: true; the input reads as it did. -/
def blueprintManySpec : ChangeSpec := { name := "blueprintMany", fn := fun _ => fun
  | [d1, d2, d3] => { results := [.lit (.bool true)], args := [d1, d2, d3] }
  | _ => none }
def blueprintManyRow : OpenClaim := { program := "ytmggphnhfegffaa", sum := "06e0ec260fdbe475289ca68ed80eec628178f5004d092a4ad7e505f15a2f333f", func := "awardingbody/awardingbodylaw08.BlueprintMany", spec := "blueprintMany", unfollowed := true, recurses := true, apart := false }
def BlueprintManySaid : Prop := blueprintManyRow.holds Try.pinned (OpenSpec.ofChange blueprintManySpec)

/-- ITS FALSE NEIGHBOUR: 'it returns false'. Refute it at one input. -/
def blueprintManyWrong : ChangeSpec := { name := "blueprintMany", fn := fun _ => fun
  | [d1, d2, d3] => { results := [.lit (.bool false)], args := [d1, d2, d3] }
  | _ => none }
def BlueprintManyWrongFalsely : Prop := blueprintManyRow.holds Try.pinned (OpenSpec.ofChange blueprintManyWrong)

/-- 'awardingbodylaw08.BlueprintMeans': WHATEVER THE INPUT: true; the input reads as it did. -/
def blueprintMeansSpec : ChangeSpec := { name := "blueprintMeans", fn := fun _ => fun
  | [d] => { results := [.lit (.bool true)], args := [d] }
  | _ => none }
def blueprintMeansRow : OpenClaim := { program := "ytmggphnhfegffaa", sum := "06e0ec260fdbe475289ca68ed80eec628178f5004d092a4ad7e505f15a2f333f", func := "awardingbody/awardingbodylaw08.BlueprintMeans", spec := "blueprintMeans", unfollowed := true, recurses := true, apart := false }
def BlueprintMeansSaid : Prop := blueprintMeansRow.holds Try.pinned (OpenSpec.ofChange blueprintMeansSpec)

/-- ITS FALSE NEIGHBOUR: 'it returns false'. Refute it at one input. -/
def blueprintMeansWrong : ChangeSpec := { name := "blueprintMeans", fn := fun _ => fun
  | [d] => { results := [.lit (.bool false)], args := [d] }
  | _ => none }
def BlueprintMeansWrongFalsely : Prop := blueprintMeansRow.holds Try.pinned (OpenSpec.ofChange blueprintMeansWrong)

/- THE SECOND FORM. 'bulk': how many values and letters a reading holds, each counted each time it is reached (what is shared counts as often as it is met; a slice's spare places count too). A statement '..UptoSaid' is the law's where the arguments, and the package variables that the reading takes, are together of bulk at most 1048576: NARROWER than '..Said'. Prove '..Said' where nothing that the law and all that it calls make is longer than what came in: it says more and counts as full. Else prove '..UptoSaid'. A law counts once. -/
mutual
def uptoBulk {H : Type} : DataW H → Nat
  | .lit (.string bytes) => bytes.length + 1
  | .lit _ => 1
  | .nil => 1
  | .ptr d => uptoBulk d + 1
  | .slice elems spare => uptoBulkAll elems + uptoBulkAll spare + 1
  | .agg parts => uptoBulkAll parts + 1
  | .iface _ d => uptoBulk d + 1
  | .map entries => uptoBulkEntries entries + 1
  | .held _ => 1
def uptoBulkAll {H : Type} : List (DataW H) → Nat
  | [] => 0
  | d :: r => uptoBulk d + uptoBulkAll r
def uptoBulkEntries {H : Type} : List (Lit × DataW H) → Nat
  | [] => 0
  | x :: r => uptoBulkEntry x + uptoBulkEntries r
def uptoBulkEntry {H : Type} : Lit × DataW H → Nat
  | (.string bytes, d) => bytes.length + uptoBulk d + 1
  | (_, d) => uptoBulk d + 1
 end
def uptoSmall : (H : Type) → List (DataW H) → Bool := fun _ ds => decide (uptoBulkAll ds ≤ 1048576)
def OpenSpec.upto (s : _root_.Go.ChangeSpec) : _root_.Go.OpenSpec := { _root_.Go.OpenSpec.ofChange s with cond := some uptoSmall }

/-- 'awardingbodylaw08.BlueprintSpans', WHERE WHAT IT READS IS OF BULK AT MOST 1048576: true; the input reads as it did. -/
def blueprintSpansUptoRow : OpenClaim := { program := "ytmggphnhfegffaa", sum := "06e0ec260fdbe475289ca68ed80eec628178f5004d092a4ad7e505f15a2f333f", func := "awardingbody/awardingbodylaw08.BlueprintSpans", spec := "blueprintSpans", unfollowed := true, recurses := true, apart := false, narrowed := true }
def BlueprintSpansUptoSaid : Prop := blueprintSpansUptoRow.holds Try.pinned (OpenSpec.upto blueprintSpansSpec)

/-- 'awardingbodylaw08.BlueprintDead', WHERE WHAT IT READS IS OF BULK AT MOST 1048576: true; the input reads as it did. -/
def blueprintDeadUptoRow : OpenClaim := { program := "ytmggphnhfegffaa", sum := "06e0ec260fdbe475289ca68ed80eec628178f5004d092a4ad7e505f15a2f333f", func := "awardingbody/awardingbodylaw08.BlueprintDead", spec := "blueprintDead", unfollowed := true, recurses := true, apart := false, narrowed := true }
def BlueprintDeadUptoSaid : Prop := blueprintDeadUptoRow.holds Try.pinned (OpenSpec.upto blueprintDeadSpec)

/-- 'awardingbodylaw08.BlueprintSound', WHERE WHAT IT READS IS OF BULK AT MOST 1048576: true; the input reads as it did. -/
def blueprintSoundUptoRow : OpenClaim := { program := "ytmggphnhfegffaa", sum := "06e0ec260fdbe475289ca68ed80eec628178f5004d092a4ad7e505f15a2f333f", func := "awardingbody/awardingbodylaw08.BlueprintSound", spec := "blueprintSound", unfollowed := true, recurses := true, apart := false, narrowed := true }
def BlueprintSoundUptoSaid : Prop := blueprintSoundUptoRow.holds Try.pinned (OpenSpec.upto blueprintSoundSpec)

/-- 'awardingbodylaw08.BlueprintStays', WHERE WHAT IT READS IS OF BULK AT MOST 1048576: true; the input reads as it did. -/
def blueprintStaysUptoRow : OpenClaim := { program := "ytmggphnhfegffaa", sum := "06e0ec260fdbe475289ca68ed80eec628178f5004d092a4ad7e505f15a2f333f", func := "awardingbody/awardingbodylaw08.BlueprintStays", spec := "blueprintStays", unfollowed := true, recurses := true, apart := false, narrowed := true }
def BlueprintStaysUptoSaid : Prop := blueprintStaysUptoRow.holds Try.pinned (OpenSpec.upto blueprintStaysSpec)

/-- 'awardingbodylaw08.BlueprintPrograms', WHERE WHAT IT READS IS OF BULK AT MOST 1048576: true; the input reads as it did. -/
def blueprintProgramsUptoRow : OpenClaim := { program := "ytmggphnhfegffaa", sum := "06e0ec260fdbe475289ca68ed80eec628178f5004d092a4ad7e505f15a2f333f", func := "awardingbody/awardingbodylaw08.BlueprintPrograms", spec := "blueprintPrograms", unfollowed := true, recurses := true, apart := false, narrowed := true }
def BlueprintProgramsUptoSaid : Prop := blueprintProgramsUptoRow.holds Try.pinned (OpenSpec.upto blueprintProgramsSpec)

/-- 'awardingbodylaw08.BlueprintChecks', WHERE WHAT IT READS IS OF BULK AT MOST 1048576: true; the input reads as it did. -/
def blueprintChecksUptoRow : OpenClaim := { program := "ytmggphnhfegffaa", sum := "06e0ec260fdbe475289ca68ed80eec628178f5004d092a4ad7e505f15a2f333f", func := "awardingbody/awardingbodylaw08.BlueprintChecks", spec := "blueprintChecks", unfollowed := true, recurses := true, apart := false, narrowed := true }
def BlueprintChecksUptoSaid : Prop := blueprintChecksUptoRow.holds Try.pinned (OpenSpec.upto blueprintChecksSpec)

/-- 'awardingbodylaw08.BlueprintRows', WHERE WHAT IT READS IS OF BULK AT MOST 1048576: true; the input reads as it did. -/
def blueprintRowsUptoRow : OpenClaim := { program := "ytmggphnhfegffaa", sum := "06e0ec260fdbe475289ca68ed80eec628178f5004d092a4ad7e505f15a2f333f", func := "awardingbody/awardingbodylaw08.BlueprintRows", spec := "blueprintRows", unfollowed := true, recurses := true, apart := false, narrowed := true }
def BlueprintRowsUptoSaid : Prop := blueprintRowsUptoRow.holds Try.pinned (OpenSpec.upto blueprintRowsSpec)

/-- 'awardingbodylaw08.BlueprintMany', WHERE WHAT IT READS IS OF BULK AT MOST 1048576: true; the input reads as it did. -/
def blueprintManyUptoRow : OpenClaim := { program := "ytmggphnhfegffaa", sum := "06e0ec260fdbe475289ca68ed80eec628178f5004d092a4ad7e505f15a2f333f", func := "awardingbody/awardingbodylaw08.BlueprintMany", spec := "blueprintMany", unfollowed := true, recurses := true, apart := false, narrowed := true }
def BlueprintManyUptoSaid : Prop := blueprintManyUptoRow.holds Try.pinned (OpenSpec.upto blueprintManySpec)

/-- 'awardingbodylaw08.BlueprintMeans', WHERE WHAT IT READS IS OF BULK AT MOST 1048576: true; the input reads as it did. -/
def blueprintMeansUptoRow : OpenClaim := { program := "ytmggphnhfegffaa", sum := "06e0ec260fdbe475289ca68ed80eec628178f5004d092a4ad7e505f15a2f333f", func := "awardingbody/awardingbodylaw08.BlueprintMeans", spec := "blueprintMeans", unfollowed := true, recurses := true, apart := false, narrowed := true }
def BlueprintMeansUptoSaid : Prop := blueprintMeansUptoRow.holds Try.pinned (OpenSpec.upto blueprintMeansSpec)

end Rows
end Go.Proofs.Ytmggphnhfegffaa
