/-
  No cell of these rows narrows 'for every input' (looked for: loops, veiled, ifaces, maps, wideKeys, modest, calm, conditions, laid).
  DERIVED. THE GIVEN ROWS OF THIS SEAT. 8 by the template 'for every input the law returns true; each argument reads behind the call as it read before'; 0 by the template 'total and deterministic' (their statements: YtebcedhhcpibpaaTotals.lean).
  GIVEN WITH THE SEED: the statements are not yours to turn. If you find one false, say at which input.
  Laid BY PROGRAM, IN A SANDBOX (cutbox-rows.mjs): the forced cells as the released guide's own fill.sh prints them over the translation 277923860eae50e4… (all of the seat's roots in one cut). By AI agents, Wed Nov 11 2026. No macro, syntax, notation, axiom, sorry.
-/
import Derived.Test.YtebcedhhcpibpaaChecked
import GoSem.Claim
import GoSem.ClaimJoined
import GoSem.ClaimMapViews
import Derived.JoinedTies
import Derived.KernelRfl
namespace Go.Proofs.Ytebcedhhcpibpaa
/- THE CELL 'sum', in the pinned program and in every row, IS THE sha256 OF THE DUMP (.gsa) THAT YtebcedhhcpibpaaProg.lean LOADS. Nothing in Lean hashes anything: it is a label: what it is worth is what the hold of that sum in a sandbox is worth. -/
noncomputable def Try.pinned : Pinned := { name := "ytebcedhhcpibpaa", sum := "277923860eae50e46b4efed663ede1f1f2f444e0d958ebbaf365a775008e1413", checked := Try.checked }
namespace Rows
def none {H : Type} : Left H := { results := [], args := [] }

/-- 'awardingbodylaw10.AssemblyAll': WHATEVER THE INPUT: true; the input reads as it did. -/
def assemblyAllSpec : ChangeSpec := { name := "assemblyAll", fn := fun _ => fun
  | [d] => { results := [.lit (.bool true)], args := [d] }
  | _ => none }
def assemblyAllRow : OpenClaim := { program := "ytebcedhhcpibpaa", sum := "277923860eae50e46b4efed663ede1f1f2f444e0d958ebbaf365a775008e1413", func := "awardingbody/awardingbodylaw10.AssemblyAll", spec := "assemblyAll", unfollowed := true, recurses := true, apart := false }
def AssemblyAllSaid : Prop := assemblyAllRow.holds Try.pinned (OpenSpec.ofChange assemblyAllSpec)

/-- ITS FALSE NEIGHBOUR: 'it returns false'. Refute it at one input. -/
def assemblyAllWrong : ChangeSpec := { name := "assemblyAll", fn := fun _ => fun
  | [d] => { results := [.lit (.bool false)], args := [d] }
  | _ => none }
def AssemblyAllWrongFalsely : Prop := assemblyAllRow.holds Try.pinned (OpenSpec.ofChange assemblyAllWrong)

/-- 'awardingbodylaw10.AssemblySolves': WHATEVER THE INPUT: true; the input reads as it did. -/
def assemblySolvesSpec : ChangeSpec := { name := "assemblySolves", fn := fun _ => fun
  | [d] => { results := [.lit (.bool true)], args := [d] }
  | _ => none }
def assemblySolvesRow : OpenClaim := { program := "ytebcedhhcpibpaa", sum := "277923860eae50e46b4efed663ede1f1f2f444e0d958ebbaf365a775008e1413", func := "awardingbody/awardingbodylaw10.AssemblySolves", spec := "assemblySolves", unfollowed := true, recurses := true, apart := false }
def AssemblySolvesSaid : Prop := assemblySolvesRow.holds Try.pinned (OpenSpec.ofChange assemblySolvesSpec)

/-- ITS FALSE NEIGHBOUR: 'it returns false'. Refute it at one input. -/
def assemblySolvesWrong : ChangeSpec := { name := "assemblySolves", fn := fun _ => fun
  | [d] => { results := [.lit (.bool false)], args := [d] }
  | _ => none }
def AssemblySolvesWrongFalsely : Prop := assemblySolvesRow.holds Try.pinned (OpenSpec.ofChange assemblySolvesWrong)

/-- 'awardingbodylaw10.AssemblyWide': WHATEVER THE INPUT: true; the input reads as it did. -/
def assemblyWideSpec : ChangeSpec := { name := "assemblyWide", fn := fun _ => fun
  | [d1, d2, d3] => { results := [.lit (.bool true)], args := [d1, d2, d3] }
  | _ => none }
def assemblyWideRow : OpenClaim := { program := "ytebcedhhcpibpaa", sum := "277923860eae50e46b4efed663ede1f1f2f444e0d958ebbaf365a775008e1413", func := "awardingbody/awardingbodylaw10.AssemblyWide", spec := "assemblyWide", unfollowed := true, recurses := true, apart := false }
def AssemblyWideSaid : Prop := assemblyWideRow.holds Try.pinned (OpenSpec.ofChange assemblyWideSpec)

/-- ITS FALSE NEIGHBOUR: 'it returns false'. Refute it at one input. -/
def assemblyWideWrong : ChangeSpec := { name := "assemblyWide", fn := fun _ => fun
  | [d1, d2, d3] => { results := [.lit (.bool false)], args := [d1, d2, d3] }
  | _ => none }
def AssemblyWideWrongFalsely : Prop := assemblyWideRow.holds Try.pinned (OpenSpec.ofChange assemblyWideWrong)

/-- 'awardingbodylaw10.AssemblyRepeats': WHATEVER THE INPUT: true; the input reads as it did. -/
def assemblyRepeatsSpec : ChangeSpec := { name := "assemblyRepeats", fn := fun _ => fun
  | [d1, d2] => { results := [.lit (.bool true)], args := [d1, d2] }
  | _ => none }
def assemblyRepeatsRow : OpenClaim := { program := "ytebcedhhcpibpaa", sum := "277923860eae50e46b4efed663ede1f1f2f444e0d958ebbaf365a775008e1413", func := "awardingbody/awardingbodylaw10.AssemblyRepeats", spec := "assemblyRepeats", unfollowed := true, recurses := true, apart := false }
def AssemblyRepeatsSaid : Prop := assemblyRepeatsRow.holds Try.pinned (OpenSpec.ofChange assemblyRepeatsSpec)

/-- ITS FALSE NEIGHBOUR: 'it returns false'. Refute it at one input. -/
def assemblyRepeatsWrong : ChangeSpec := { name := "assemblyRepeats", fn := fun _ => fun
  | [d1, d2] => { results := [.lit (.bool false)], args := [d1, d2] }
  | _ => none }
def AssemblyRepeatsWrongFalsely : Prop := assemblyRepeatsRow.holds Try.pinned (OpenSpec.ofChange assemblyRepeatsWrong)

/-- 'awardingbodylaw10.AssemblyFull': WHATEVER THE INPUT: true; the input reads as it did. -/
def assemblyFullSpec : ChangeSpec := { name := "assemblyFull", fn := fun _ => fun
  | [d] => { results := [.lit (.bool true)], args := [d] }
  | _ => none }
def assemblyFullRow : OpenClaim := { program := "ytebcedhhcpibpaa", sum := "277923860eae50e46b4efed663ede1f1f2f444e0d958ebbaf365a775008e1413", func := "awardingbody/awardingbodylaw10.AssemblyFull", spec := "assemblyFull", unfollowed := true, recurses := true, apart := false }
def AssemblyFullSaid : Prop := assemblyFullRow.holds Try.pinned (OpenSpec.ofChange assemblyFullSpec)

/-- ITS FALSE NEIGHBOUR: 'it returns false'. Refute it at one input. -/
def assemblyFullWrong : ChangeSpec := { name := "assemblyFull", fn := fun _ => fun
  | [d] => { results := [.lit (.bool false)], args := [d] }
  | _ => none }
def AssemblyFullWrongFalsely : Prop := assemblyFullRow.holds Try.pinned (OpenSpec.ofChange assemblyFullWrong)

/-- 'awardingbodylaw10.AssemblyNext': WHATEVER THE INPUT: true; the input reads as it did. -/
def assemblyNextSpec : ChangeSpec := { name := "assemblyNext", fn := fun _ => fun
  | [d] => { results := [.lit (.bool true)], args := [d] }
  | _ => none }
def assemblyNextRow : OpenClaim := { program := "ytebcedhhcpibpaa", sum := "277923860eae50e46b4efed663ede1f1f2f444e0d958ebbaf365a775008e1413", func := "awardingbody/awardingbodylaw10.AssemblyNext", spec := "assemblyNext", unfollowed := true, recurses := true, apart := false }
def AssemblyNextSaid : Prop := assemblyNextRow.holds Try.pinned (OpenSpec.ofChange assemblyNextSpec)

/-- ITS FALSE NEIGHBOUR: 'it returns false'. Refute it at one input. -/
def assemblyNextWrong : ChangeSpec := { name := "assemblyNext", fn := fun _ => fun
  | [d] => { results := [.lit (.bool false)], args := [d] }
  | _ => none }
def AssemblyNextWrongFalsely : Prop := assemblyNextRow.holds Try.pinned (OpenSpec.ofChange assemblyNextWrong)

/-- 'awardingbodylaw10.AssemblyLeast': WHATEVER THE INPUT: true; the input reads as it did. -/
def assemblyLeastSpec : ChangeSpec := { name := "assemblyLeast", fn := fun _ => fun
  | [d] => { results := [.lit (.bool true)], args := [d] }
  | _ => none }
def assemblyLeastRow : OpenClaim := { program := "ytebcedhhcpibpaa", sum := "277923860eae50e46b4efed663ede1f1f2f444e0d958ebbaf365a775008e1413", func := "awardingbody/awardingbodylaw10.AssemblyLeast", spec := "assemblyLeast", unfollowed := true, recurses := true, apart := false }
def AssemblyLeastSaid : Prop := assemblyLeastRow.holds Try.pinned (OpenSpec.ofChange assemblyLeastSpec)

/-- ITS FALSE NEIGHBOUR: 'it returns false'. Refute it at one input. -/
def assemblyLeastWrong : ChangeSpec := { name := "assemblyLeast", fn := fun _ => fun
  | [d] => { results := [.lit (.bool false)], args := [d] }
  | _ => none }
def AssemblyLeastWrongFalsely : Prop := assemblyLeastRow.holds Try.pinned (OpenSpec.ofChange assemblyLeastWrong)

/-- 'awardingbodylaw10.AssemblyForms': WHATEVER THE INPUT: true; the input reads as it did. -/
def assemblyFormsSpec : ChangeSpec := { name := "assemblyForms", fn := fun _ => fun
  | [d1, d2, d3] => { results := [.lit (.bool true)], args := [d1, d2, d3] }
  | _ => none }
def assemblyFormsRow : OpenClaim := { program := "ytebcedhhcpibpaa", sum := "277923860eae50e46b4efed663ede1f1f2f444e0d958ebbaf365a775008e1413", func := "awardingbody/awardingbodylaw10.AssemblyForms", spec := "assemblyForms", unfollowed := true, recurses := true, apart := false }
def AssemblyFormsSaid : Prop := assemblyFormsRow.holds Try.pinned (OpenSpec.ofChange assemblyFormsSpec)

/-- ITS FALSE NEIGHBOUR: 'it returns false'. Refute it at one input. -/
def assemblyFormsWrong : ChangeSpec := { name := "assemblyForms", fn := fun _ => fun
  | [d1, d2, d3] => { results := [.lit (.bool false)], args := [d1, d2, d3] }
  | _ => none }
def AssemblyFormsWrongFalsely : Prop := assemblyFormsRow.holds Try.pinned (OpenSpec.ofChange assemblyFormsWrong)

/- THE SECOND FORM. 'bulk': how many values and letters a reading holds, each counted each time it is reached (what is shared counts as often as it is met; a slice's spare places count too). A statement '..UptoSaid' is the law's where the arguments, and the package variables that the reading takes, are together of bulk at most 1048576: NARROWER than '..Said'. Prove '..Said' where nothing that the law and all that it calls make is longer than what came in: it says more and counts as full. Else prove '..UptoSaid'. A law counts once. -/
mutual
def uptoBulk {H : Type} : DataW H → Nat
  | .lit (.string bytes) => bytes.length + 1
  | .lit _ => 1
  | .nil => 1
  | .ptr d => uptoBulk d + 1
  | .slice elems spare => uptoBulkAll elems + uptoBulkAll spare + 1
  | .agg parts => uptoBulkAll parts + 1
  | .iface _ d => uptoBulk d + 1
  | .map entries => uptoBulkEntries entries + 1
  | .held _ => 1
def uptoBulkAll {H : Type} : List (DataW H) → Nat
  | [] => 0
  | d :: r => uptoBulk d + uptoBulkAll r
def uptoBulkEntries {H : Type} : List (Lit × DataW H) → Nat
  | [] => 0
  | x :: r => uptoBulkEntry x + uptoBulkEntries r
def uptoBulkEntry {H : Type} : Lit × DataW H → Nat
  | (.string bytes, d) => bytes.length + uptoBulk d + 1
  | (_, d) => uptoBulk d + 1
 end
def uptoSmall : (H : Type) → List (DataW H) → Bool := fun _ ds => decide (uptoBulkAll ds ≤ 1048576)
def OpenSpec.upto (s : _root_.Go.ChangeSpec) : _root_.Go.OpenSpec := { _root_.Go.OpenSpec.ofChange s with cond := some uptoSmall }

/-- 'awardingbodylaw10.AssemblyAll', WHERE WHAT IT READS IS OF BULK AT MOST 1048576: true; the input reads as it did. -/
def assemblyAllUptoRow : OpenClaim := { program := "ytebcedhhcpibpaa", sum := "277923860eae50e46b4efed663ede1f1f2f444e0d958ebbaf365a775008e1413", func := "awardingbody/awardingbodylaw10.AssemblyAll", spec := "assemblyAll", unfollowed := true, recurses := true, apart := false, narrowed := true }
def AssemblyAllUptoSaid : Prop := assemblyAllUptoRow.holds Try.pinned (OpenSpec.upto assemblyAllSpec)

/-- 'awardingbodylaw10.AssemblySolves', WHERE WHAT IT READS IS OF BULK AT MOST 1048576: true; the input reads as it did. -/
def assemblySolvesUptoRow : OpenClaim := { program := "ytebcedhhcpibpaa", sum := "277923860eae50e46b4efed663ede1f1f2f444e0d958ebbaf365a775008e1413", func := "awardingbody/awardingbodylaw10.AssemblySolves", spec := "assemblySolves", unfollowed := true, recurses := true, apart := false, narrowed := true }
def AssemblySolvesUptoSaid : Prop := assemblySolvesUptoRow.holds Try.pinned (OpenSpec.upto assemblySolvesSpec)

/-- 'awardingbodylaw10.AssemblyWide', WHERE WHAT IT READS IS OF BULK AT MOST 1048576: true; the input reads as it did. -/
def assemblyWideUptoRow : OpenClaim := { program := "ytebcedhhcpibpaa", sum := "277923860eae50e46b4efed663ede1f1f2f444e0d958ebbaf365a775008e1413", func := "awardingbody/awardingbodylaw10.AssemblyWide", spec := "assemblyWide", unfollowed := true, recurses := true, apart := false, narrowed := true }
def AssemblyWideUptoSaid : Prop := assemblyWideUptoRow.holds Try.pinned (OpenSpec.upto assemblyWideSpec)

/-- 'awardingbodylaw10.AssemblyRepeats', WHERE WHAT IT READS IS OF BULK AT MOST 1048576: true; the input reads as it did. -/
def assemblyRepeatsUptoRow : OpenClaim := { program := "ytebcedhhcpibpaa", sum := "277923860eae50e46b4efed663ede1f1f2f444e0d958ebbaf365a775008e1413", func := "awardingbody/awardingbodylaw10.AssemblyRepeats", spec := "assemblyRepeats", unfollowed := true, recurses := true, apart := false, narrowed := true }
def AssemblyRepeatsUptoSaid : Prop := assemblyRepeatsUptoRow.holds Try.pinned (OpenSpec.upto assemblyRepeatsSpec)

/-- 'awardingbodylaw10.AssemblyFull', WHERE WHAT IT READS IS OF BULK AT MOST 1048576: true; the input reads as it did. -/
def assemblyFullUptoRow : OpenClaim := { program := "ytebcedhhcpibpaa", sum := "277923860eae50e46b4efed663ede1f1f2f444e0d958ebbaf365a775008e1413", func := "awardingbody/awardingbodylaw10.AssemblyFull", spec := "assemblyFull", unfollowed := true, recurses := true, apart := false, narrowed := true }
def AssemblyFullUptoSaid : Prop := assemblyFullUptoRow.holds Try.pinned (OpenSpec.upto assemblyFullSpec)

/-- 'awardingbodylaw10.AssemblyNext', WHERE WHAT IT READS IS OF BULK AT MOST 1048576: true; the input reads as it did. -/
def assemblyNextUptoRow : OpenClaim := { program := "ytebcedhhcpibpaa", sum := "277923860eae50e46b4efed663ede1f1f2f444e0d958ebbaf365a775008e1413", func := "awardingbody/awardingbodylaw10.AssemblyNext", spec := "assemblyNext", unfollowed := true, recurses := true, apart := false, narrowed := true }
def AssemblyNextUptoSaid : Prop := assemblyNextUptoRow.holds Try.pinned (OpenSpec.upto assemblyNextSpec)

/-- 'awardingbodylaw10.AssemblyLeast', WHERE WHAT IT READS IS OF BULK AT MOST 1048576: true; the input reads as it did. -/
def assemblyLeastUptoRow : OpenClaim := { program := "ytebcedhhcpibpaa", sum := "277923860eae50e46b4efed663ede1f1f2f444e0d958ebbaf365a775008e1413", func := "awardingbody/awardingbodylaw10.AssemblyLeast", spec := "assemblyLeast", unfollowed := true, recurses := true, apart := false, narrowed := true }
def AssemblyLeastUptoSaid : Prop := assemblyLeastUptoRow.holds Try.pinned (OpenSpec.upto assemblyLeastSpec)

/-- 'awardingbodylaw10.AssemblyForms', WHERE WHAT IT READS IS OF BULK AT MOST 1048576: true; the input reads as it did. -/
def assemblyFormsUptoRow : OpenClaim := { program := "ytebcedhhcpibpaa", sum := "277923860eae50e46b4efed663ede1f1f2f444e0d958ebbaf365a775008e1413", func := "awardingbody/awardingbodylaw10.AssemblyForms", spec := "assemblyForms", unfollowed := true, recurses := true, apart := false, narrowed := true }
def AssemblyFormsUptoSaid : Prop := assemblyFormsUptoRow.holds Try.pinned (OpenSpec.upto assemblyFormsSpec)

end Rows
end Go.Proofs.Ytebcedhhcpibpaa
