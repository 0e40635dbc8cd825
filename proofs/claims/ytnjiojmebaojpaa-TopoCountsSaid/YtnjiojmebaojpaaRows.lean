/-
  No cell of these rows narrows 'for every input' (looked for: loops, veiled, ifaces, maps, wideKeys, modest, calm, conditions, laid).
  DERIVED. THE GIVEN ROWS OF THIS SEAT. 6 by the template 'for every input the law returns true; each argument reads behind the call as it read before'; 0 by the template 'total and deterministic' (their statements: YtnjiojmebaojpaaTotals.lean).
  GIVEN WITH THE SEED: the statements are not yours to turn. If you find one false, say at which input.
  Laid BY PROGRAM, IN A SANDBOX (cutbox-rows.mjs): the forced cells as the released guide's own fill.sh prints them over the translation dc36cbc5038d31b1… (all of the seat's roots in one cut). By AI agents, Wed Nov 11 2026. No macro, syntax, notation, axiom, sorry.
-/
import Derived.Test.YtnjiojmebaojpaaChecked
import GoSem.Claim
import GoSem.ClaimJoined
import GoSem.ClaimMapViews
import Derived.JoinedTies
import Derived.KernelRfl
namespace Go.Proofs.Ytnjiojmebaojpaa
/- THE CELL 'sum', in the pinned program and in every row, IS THE sha256 OF THE DUMP (.gsa) THAT YtnjiojmebaojpaaProg.lean LOADS. Nothing in Lean hashes anything: it is a label: what it is worth is what the hold of that sum in a sandbox is worth. -/
noncomputable def Try.pinned : Pinned := { name := "ytnjiojmebaojpaa", sum := "dc36cbc5038d31b1a6ba3a64dbac7bee83b738c0e5423fec60a4f7cc0d5c0d69", checked := Try.checked }
namespace Rows
def none {H : Type} : Left H := { results := [], args := [] }

/-- 'wayfinderlaw11.TopoTells': WHATEVER THE INPUT: true; the input reads as it did. -/
def topoTellsSpec : ChangeSpec := { name := "topoTells", fn := fun _ => fun
  | [d1, d2, d3] => { results := [.lit (.bool true)], args := [d1, d2, d3] }
  | _ => none }
def topoTellsRow : OpenClaim := { program := "ytnjiojmebaojpaa", sum := "dc36cbc5038d31b1a6ba3a64dbac7bee83b738c0e5423fec60a4f7cc0d5c0d69", func := "wayfinder/wayfinderlaw11.TopoTells", spec := "topoTells", plainKeys := false, apart := false }
def TopoTellsSaid : Prop := topoTellsRow.holds Try.pinned (OpenSpec.ofChange topoTellsSpec)

/-- ITS FALSE NEIGHBOUR: 'it returns false'. Refute it at one input. -/
def topoTellsWrong : ChangeSpec := { name := "topoTells", fn := fun _ => fun
  | [d1, d2, d3] => { results := [.lit (.bool false)], args := [d1, d2, d3] }
  | _ => none }
def TopoTellsWrongFalsely : Prop := topoTellsRow.holds Try.pinned (OpenSpec.ofChange topoTellsWrong)

/-- 'wayfinderlaw11.TopoBoth': WHATEVER THE INPUT: true; the input reads as it did. -/
def topoBothSpec : ChangeSpec := { name := "topoBoth", fn := fun _ => fun
  | [d1, d2, d3] => { results := [.lit (.bool true)], args := [d1, d2, d3] }
  | _ => none }
def topoBothRow : OpenClaim := { program := "ytnjiojmebaojpaa", sum := "dc36cbc5038d31b1a6ba3a64dbac7bee83b738c0e5423fec60a4f7cc0d5c0d69", func := "wayfinder/wayfinderlaw11.TopoBoth", spec := "topoBoth", plainKeys := false, apart := false }
def TopoBothSaid : Prop := topoBothRow.holds Try.pinned (OpenSpec.ofChange topoBothSpec)

/-- ITS FALSE NEIGHBOUR: 'it returns false'. Refute it at one input. -/
def topoBothWrong : ChangeSpec := { name := "topoBoth", fn := fun _ => fun
  | [d1, d2, d3] => { results := [.lit (.bool false)], args := [d1, d2, d3] }
  | _ => none }
def TopoBothWrongFalsely : Prop := topoBothRow.holds Try.pinned (OpenSpec.ofChange topoBothWrong)

/-- 'wayfinderlaw11.TopoCounts': WHATEVER THE INPUT: true; the input reads as it did. -/
def topoCountsSpec : ChangeSpec := { name := "topoCounts", fn := fun _ => fun
  | [d] => { results := [.lit (.bool true)], args := [d] }
  | _ => none }
def topoCountsRow : OpenClaim := { program := "ytnjiojmebaojpaa", sum := "dc36cbc5038d31b1a6ba3a64dbac7bee83b738c0e5423fec60a4f7cc0d5c0d69", func := "wayfinder/wayfinderlaw11.TopoCounts", spec := "topoCounts", plainKeys := false, apart := false }
def TopoCountsSaid : Prop := topoCountsRow.holds Try.pinned (OpenSpec.ofChange topoCountsSpec)

/-- ITS FALSE NEIGHBOUR: 'it returns false'. Refute it at one input. -/
def topoCountsWrong : ChangeSpec := { name := "topoCounts", fn := fun _ => fun
  | [d] => { results := [.lit (.bool false)], args := [d] }
  | _ => none }
def TopoCountsWrongFalsely : Prop := topoCountsRow.holds Try.pinned (OpenSpec.ofChange topoCountsWrong)

/-- 'wayfinderlaw11.TopoLess': WHATEVER THE INPUT: true; the input reads as it did. -/
def topoLessSpec : ChangeSpec := { name := "topoLess", fn := fun _ => fun
  | [d1, d2, d3, d4] => { results := [.lit (.bool true)], args := [d1, d2, d3, d4] }
  | _ => none }
def topoLessRow : OpenClaim := { program := "ytnjiojmebaojpaa", sum := "dc36cbc5038d31b1a6ba3a64dbac7bee83b738c0e5423fec60a4f7cc0d5c0d69", func := "wayfinder/wayfinderlaw11.TopoLess", spec := "topoLess", plainKeys := false, apart := false }
def TopoLessSaid : Prop := topoLessRow.holds Try.pinned (OpenSpec.ofChange topoLessSpec)

/-- ITS FALSE NEIGHBOUR: 'it returns false'. Refute it at one input. -/
def topoLessWrong : ChangeSpec := { name := "topoLess", fn := fun _ => fun
  | [d1, d2, d3, d4] => { results := [.lit (.bool false)], args := [d1, d2, d3, d4] }
  | _ => none }
def TopoLessWrongFalsely : Prop := topoLessRow.holds Try.pinned (OpenSpec.ofChange topoLessWrong)

/-- 'wayfinderlaw11.TopoTurned': WHATEVER THE INPUT: true; the input reads as it did. -/
def topoTurnedSpec : ChangeSpec := { name := "topoTurned", fn := fun _ => fun
  | [d1, d2, d3] => { results := [.lit (.bool true)], args := [d1, d2, d3] }
  | _ => none }
def topoTurnedRow : OpenClaim := { program := "ytnjiojmebaojpaa", sum := "dc36cbc5038d31b1a6ba3a64dbac7bee83b738c0e5423fec60a4f7cc0d5c0d69", func := "wayfinder/wayfinderlaw11.TopoTurned", spec := "topoTurned", plainKeys := false, apart := false }
def TopoTurnedSaid : Prop := topoTurnedRow.holds Try.pinned (OpenSpec.ofChange topoTurnedSpec)

/-- ITS FALSE NEIGHBOUR: 'it returns false'. Refute it at one input. -/
def topoTurnedWrong : ChangeSpec := { name := "topoTurned", fn := fun _ => fun
  | [d1, d2, d3] => { results := [.lit (.bool false)], args := [d1, d2, d3] }
  | _ => none }
def TopoTurnedWrongFalsely : Prop := topoTurnedRow.holds Try.pinned (OpenSpec.ofChange topoTurnedWrong)

/-- 'wayfinderlaw11.TopoTwice': WHATEVER THE INPUT: true; the input reads as it did. -/
def topoTwiceSpec : ChangeSpec := { name := "topoTwice", fn := fun _ => fun
  | [d] => { results := [.lit (.bool true)], args := [d] }
  | _ => none }
def topoTwiceRow : OpenClaim := { program := "ytnjiojmebaojpaa", sum := "dc36cbc5038d31b1a6ba3a64dbac7bee83b738c0e5423fec60a4f7cc0d5c0d69", func := "wayfinder/wayfinderlaw11.TopoTwice", spec := "topoTwice", plainKeys := false, apart := false }
def TopoTwiceSaid : Prop := topoTwiceRow.holds Try.pinned (OpenSpec.ofChange topoTwiceSpec)

/-- ITS FALSE NEIGHBOUR: 'it returns false'. Refute it at one input. -/
def topoTwiceWrong : ChangeSpec := { name := "topoTwice", fn := fun _ => fun
  | [d] => { results := [.lit (.bool false)], args := [d] }
  | _ => none }
def TopoTwiceWrongFalsely : Prop := topoTwiceRow.holds Try.pinned (OpenSpec.ofChange topoTwiceWrong)

/- THE SECOND FORM. 'bulk': how many values and letters a reading holds, each counted each time it is reached (what is shared counts as often as it is met; a slice's spare places count too). A statement '..UptoSaid' is the law's where the arguments, and the package variables that the reading takes, are together of bulk at most 1048576: NARROWER than '..Said'. Prove '..Said' where nothing that the law and all that it calls make is longer than what came in: it says more and counts as full. Else prove '..UptoSaid'. A law counts once. -/
mutual
def uptoBulk {H : Type} : DataW H → Nat
  | .lit (.string bytes) => bytes.length + 1
  | .lit _ => 1
  | .nil => 1
  | .ptr d => uptoBulk d + 1
  | .slice elems spare => uptoBulkAll elems + uptoBulkAll spare + 1
  | .agg parts => uptoBulkAll parts + 1
  | .iface _ d => uptoBulk d + 1
  | .map entries => uptoBulkEntries entries + 1
  | .held _ => 1
def uptoBulkAll {H : Type} : List (DataW H) → Nat
  | [] => 0
  | d :: r => uptoBulk d + uptoBulkAll r
def uptoBulkEntries {H : Type} : List (Lit × DataW H) → Nat
  | [] => 0
  | x :: r => uptoBulkEntry x + uptoBulkEntries r
def uptoBulkEntry {H : Type} : Lit × DataW H → Nat
  | (.string bytes, d) => bytes.length + uptoBulk d + 1
  | (_, d) => uptoBulk d + 1
 end
def uptoSmall : (H : Type) → List (DataW H) → Bool := fun _ ds => decide (uptoBulkAll ds ≤ 1048576)
def OpenSpec.upto (s : _root_.Go.ChangeSpec) : _root_.Go.OpenSpec := { _root_.Go.OpenSpec.ofChange s with cond := some uptoSmall }

/-- 'wayfinderlaw11.TopoTells', WHERE WHAT IT READS IS OF BULK AT MOST 1048576: true; the input reads as it did. -/
def topoTellsUptoRow : OpenClaim := { program := "ytnjiojmebaojpaa", sum := "dc36cbc5038d31b1a6ba3a64dbac7bee83b738c0e5423fec60a4f7cc0d5c0d69", func := "wayfinder/wayfinderlaw11.TopoTells", spec := "topoTells", plainKeys := false, apart := false, narrowed := true }
def TopoTellsUptoSaid : Prop := topoTellsUptoRow.holds Try.pinned (OpenSpec.upto topoTellsSpec)

/-- 'wayfinderlaw11.TopoBoth', WHERE WHAT IT READS IS OF BULK AT MOST 1048576: true; the input reads as it did. -/
def topoBothUptoRow : OpenClaim := { program := "ytnjiojmebaojpaa", sum := "dc36cbc5038d31b1a6ba3a64dbac7bee83b738c0e5423fec60a4f7cc0d5c0d69", func := "wayfinder/wayfinderlaw11.TopoBoth", spec := "topoBoth", plainKeys := false, apart := false, narrowed := true }
def TopoBothUptoSaid : Prop := topoBothUptoRow.holds Try.pinned (OpenSpec.upto topoBothSpec)

/-- 'wayfinderlaw11.TopoCounts', WHERE WHAT IT READS IS OF BULK AT MOST 1048576: true; the input reads as it did. -/
def topoCountsUptoRow : OpenClaim := { program := "ytnjiojmebaojpaa", sum := "dc36cbc5038d31b1a6ba3a64dbac7bee83b738c0e5423fec60a4f7cc0d5c0d69", func := "wayfinder/wayfinderlaw11.TopoCounts", spec := "topoCounts", plainKeys := false, apart := false, narrowed := true }
def TopoCountsUptoSaid : Prop := topoCountsUptoRow.holds Try.pinned (OpenSpec.upto topoCountsSpec)

/-- 'wayfinderlaw11.TopoLess', WHERE WHAT IT READS IS OF BULK AT MOST 1048576: true; the input reads as it did. -/
def topoLessUptoRow : OpenClaim := { program := "ytnjiojmebaojpaa", sum := "dc36cbc5038d31b1a6ba3a64dbac7bee83b738c0e5423fec60a4f7cc0d5c0d69", func := "wayfinder/wayfinderlaw11.TopoLess", spec := "topoLess", plainKeys := false, apart := false, narrowed := true }
def TopoLessUptoSaid : Prop := topoLessUptoRow.holds Try.pinned (OpenSpec.upto topoLessSpec)

/-- 'wayfinderlaw11.TopoTurned', WHERE WHAT IT READS IS OF BULK AT MOST 1048576: true; the input reads as it did. -/
def topoTurnedUptoRow : OpenClaim := { program := "ytnjiojmebaojpaa", sum := "dc36cbc5038d31b1a6ba3a64dbac7bee83b738c0e5423fec60a4f7cc0d5c0d69", func := "wayfinder/wayfinderlaw11.TopoTurned", spec := "topoTurned", plainKeys := false, apart := false, narrowed := true }
def TopoTurnedUptoSaid : Prop := topoTurnedUptoRow.holds Try.pinned (OpenSpec.upto topoTurnedSpec)

/-- 'wayfinderlaw11.TopoTwice', WHERE WHAT IT READS IS OF BULK AT MOST 1048576: true; the input reads as it did. -/
def topoTwiceUptoRow : OpenClaim := { program := "ytnjiojmebaojpaa", sum := "dc36cbc5038d31b1a6ba3a64dbac7bee83b738c0e5423fec60a4f7cc0d5c0d69", func := "wayfinder/wayfinderlaw11.TopoTwice", spec := "topoTwice", plainKeys := false, apart := false, narrowed := true }
def TopoTwiceUptoSaid : Prop := topoTwiceUptoRow.holds Try.pinned (OpenSpec.upto topoTwiceSpec)

end Rows
end Go.Proofs.Ytnjiojmebaojpaa
