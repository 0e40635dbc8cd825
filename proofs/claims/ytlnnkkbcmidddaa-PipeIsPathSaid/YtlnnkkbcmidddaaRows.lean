/-
  No cell of these rows narrows 'for every input' (looked for: loops, veiled, ifaces, maps, wideKeys, modest, calm, conditions, laid).
  DERIVED. THE GIVEN ROWS OF THIS SEAT. 8 by the template 'for every input the law returns true; each argument reads behind the call as it read before'; 0 by the template 'total and deterministic' (their statements: YtlnnkkbcmidddaaTotals.lean).
  GIVEN WITH THE SEED: the statements are not yours to turn. If you find one false, say at which input.
  Laid BY PROGRAM, IN A SANDBOX (cutbox-rows.mjs): the forced cells as the released guide's own fill.sh prints them over the translation 8c3d65e4a21b3cb7… (all of the seat's roots in one cut). By AI agents, Wed Nov 11 2026. No macro, syntax, notation, axiom, sorry.
-/
import Derived.Test.YtlnnkkbcmidddaaChecked
import GoSem.Claim
import GoSem.ClaimJoined
import GoSem.ClaimMapViews
import Derived.JoinedTies
import Derived.KernelRfl
namespace Go.Proofs.Ytlnnkkbcmidddaa
/- THE CELL 'sum', in the pinned program and in every row, IS THE sha256 OF THE DUMP (.gsa) THAT YtlnnkkbcmidddaaProg.lean LOADS. Nothing in Lean hashes anything: it is a label: what it is worth is what the hold of that sum in a sandbox is worth. -/
noncomputable def Try.pinned : Pinned := { name := "ytlnnkkbcmidddaa", sum := "8c3d65e4a21b3cb7db5c44fd8e08a4b2ee06ade57fd2fe80da6859de6ee86c1c", checked := Try.checked }
namespace Rows
def none {H : Type} : Left H := { results := [], args := [] }

/-- 'wayfinderlaw18.PipeIsPath': WHATEVER THE INPUT: true; the input reads as it did. -/
def pipeIsPathSpec : ChangeSpec := { name := "pipeIsPath", fn := fun _ => fun
  | [d1, d2, d3, d4, d5] => { results := [.lit (.bool true)], args := [d1, d2, d3, d4, d5] }
  | _ => none }
def pipeIsPathRow : OpenClaim := { program := "ytlnnkkbcmidddaa", sum := "8c3d65e4a21b3cb7db5c44fd8e08a4b2ee06ade57fd2fe80da6859de6ee86c1c", func := "wayfinder/wayfinderlaw18.PipeIsPath", spec := "pipeIsPath", unfollowed := true, recurses := true, plainKeys := false, apart := false }
def PipeIsPathSaid : Prop := pipeIsPathRow.holds Try.pinned (OpenSpec.ofChange pipeIsPathSpec)

/-- ITS FALSE NEIGHBOUR: 'it returns false'. Refute it at one input. -/
def pipeIsPathWrong : ChangeSpec := { name := "pipeIsPath", fn := fun _ => fun
  | [d1, d2, d3, d4, d5] => { results := [.lit (.bool false)], args := [d1, d2, d3, d4, d5] }
  | _ => none }
def PipeIsPathWrongFalsely : Prop := pipeIsPathRow.holds Try.pinned (OpenSpec.ofChange pipeIsPathWrong)

/-- 'wayfinderlaw12.ConfTurned': WHATEVER THE INPUT: true; the input reads as it did. -/
def confTurnedSpec : ChangeSpec := { name := "confTurned", fn := fun _ => fun
  | [d1, d2, d3] => { results := [.lit (.bool true)], args := [d1, d2, d3] }
  | _ => none }
def confTurnedRow : OpenClaim := { program := "ytlnnkkbcmidddaa", sum := "8c3d65e4a21b3cb7db5c44fd8e08a4b2ee06ade57fd2fe80da6859de6ee86c1c", func := "wayfinder/wayfinderlaw12.ConfTurned", spec := "confTurned", unfollowed := true, recurses := true, plainKeys := false, apart := false }
def ConfTurnedSaid : Prop := confTurnedRow.holds Try.pinned (OpenSpec.ofChange confTurnedSpec)

/-- ITS FALSE NEIGHBOUR: 'it returns false'. Refute it at one input. -/
def confTurnedWrong : ChangeSpec := { name := "confTurned", fn := fun _ => fun
  | [d1, d2, d3] => { results := [.lit (.bool false)], args := [d1, d2, d3] }
  | _ => none }
def ConfTurnedWrongFalsely : Prop := confTurnedRow.holds Try.pinned (OpenSpec.ofChange confTurnedWrong)

/-- 'wayfinderlaw12.ConfSame': WHATEVER THE INPUT: true; the input reads as it did. -/
def confSameSpec : ChangeSpec := { name := "confSame", fn := fun _ => fun
  | [d1, d2, d3] => { results := [.lit (.bool true)], args := [d1, d2, d3] }
  | _ => none }
def confSameRow : OpenClaim := { program := "ytlnnkkbcmidddaa", sum := "8c3d65e4a21b3cb7db5c44fd8e08a4b2ee06ade57fd2fe80da6859de6ee86c1c", func := "wayfinder/wayfinderlaw12.ConfSame", spec := "confSame", unfollowed := true, recurses := true, plainKeys := false, apart := false }
def ConfSameSaid : Prop := confSameRow.holds Try.pinned (OpenSpec.ofChange confSameSpec)

/-- ITS FALSE NEIGHBOUR: 'it returns false'. Refute it at one input. -/
def confSameWrong : ChangeSpec := { name := "confSame", fn := fun _ => fun
  | [d1, d2, d3] => { results := [.lit (.bool false)], args := [d1, d2, d3] }
  | _ => none }
def ConfSameWrongFalsely : Prop := confSameRow.holds Try.pinned (OpenSpec.ofChange confSameWrong)

/-- 'wayfinderlaw12.ConfPorts': WHATEVER THE INPUT: true; the input reads as it did. -/
def confPortsSpec : ChangeSpec := { name := "confPorts", fn := fun _ => fun
  | [d1, d2] => { results := [.lit (.bool true)], args := [d1, d2] }
  | _ => none }
def confPortsRow : OpenClaim := { program := "ytlnnkkbcmidddaa", sum := "8c3d65e4a21b3cb7db5c44fd8e08a4b2ee06ade57fd2fe80da6859de6ee86c1c", func := "wayfinder/wayfinderlaw12.ConfPorts", spec := "confPorts", unfollowed := true, recurses := true, plainKeys := false, apart := false }
def ConfPortsSaid : Prop := confPortsRow.holds Try.pinned (OpenSpec.ofChange confPortsSpec)

/-- ITS FALSE NEIGHBOUR: 'it returns false'. Refute it at one input. -/
def confPortsWrong : ChangeSpec := { name := "confPorts", fn := fun _ => fun
  | [d1, d2] => { results := [.lit (.bool false)], args := [d1, d2] }
  | _ => none }
def ConfPortsWrongFalsely : Prop := confPortsRow.holds Try.pinned (OpenSpec.ofChange confPortsWrong)

/-- 'wayfinderlaw12.ConfTells': WHATEVER THE INPUT: true; the input reads as it did. -/
def confTellsSpec : ChangeSpec := { name := "confTells", fn := fun _ => fun
  | [d1, d2, d3, d4] => { results := [.lit (.bool true)], args := [d1, d2, d3, d4] }
  | _ => none }
def confTellsRow : OpenClaim := { program := "ytlnnkkbcmidddaa", sum := "8c3d65e4a21b3cb7db5c44fd8e08a4b2ee06ade57fd2fe80da6859de6ee86c1c", func := "wayfinder/wayfinderlaw12.ConfTells", spec := "confTells", unfollowed := true, recurses := true, plainKeys := false, apart := false }
def ConfTellsSaid : Prop := confTellsRow.holds Try.pinned (OpenSpec.ofChange confTellsSpec)

/-- ITS FALSE NEIGHBOUR: 'it returns false'. Refute it at one input. -/
def confTellsWrong : ChangeSpec := { name := "confTells", fn := fun _ => fun
  | [d1, d2, d3, d4] => { results := [.lit (.bool false)], args := [d1, d2, d3, d4] }
  | _ => none }
def ConfTellsWrongFalsely : Prop := confTellsRow.holds Try.pinned (OpenSpec.ofChange confTellsWrong)

/-- 'wayfinderlaw12.ConfLess': WHATEVER THE INPUT: true; the input reads as it did. -/
def confLessSpec : ChangeSpec := { name := "confLess", fn := fun _ => fun
  | [d1, d2, d3] => { results := [.lit (.bool true)], args := [d1, d2, d3] }
  | _ => none }
def confLessRow : OpenClaim := { program := "ytlnnkkbcmidddaa", sum := "8c3d65e4a21b3cb7db5c44fd8e08a4b2ee06ade57fd2fe80da6859de6ee86c1c", func := "wayfinder/wayfinderlaw12.ConfLess", spec := "confLess", unfollowed := true, recurses := true, plainKeys := false, apart := false }
def ConfLessSaid : Prop := confLessRow.holds Try.pinned (OpenSpec.ofChange confLessSpec)

/-- ITS FALSE NEIGHBOUR: 'it returns false'. Refute it at one input. -/
def confLessWrong : ChangeSpec := { name := "confLess", fn := fun _ => fun
  | [d1, d2, d3] => { results := [.lit (.bool false)], args := [d1, d2, d3] }
  | _ => none }
def ConfLessWrongFalsely : Prop := confLessRow.holds Try.pinned (OpenSpec.ofChange confLessWrong)

/-- 'wayfinderlaw12.ConfOwn': WHATEVER THE INPUT: true; the input reads as it did. -/
def confOwnSpec : ChangeSpec := { name := "confOwn", fn := fun _ => fun
  | [d1, d2] => { results := [.lit (.bool true)], args := [d1, d2] }
  | _ => none }
def confOwnRow : OpenClaim := { program := "ytlnnkkbcmidddaa", sum := "8c3d65e4a21b3cb7db5c44fd8e08a4b2ee06ade57fd2fe80da6859de6ee86c1c", func := "wayfinder/wayfinderlaw12.ConfOwn", spec := "confOwn", unfollowed := true, recurses := true, plainKeys := false, apart := false }
def ConfOwnSaid : Prop := confOwnRow.holds Try.pinned (OpenSpec.ofChange confOwnSpec)

/-- ITS FALSE NEIGHBOUR: 'it returns false'. Refute it at one input. -/
def confOwnWrong : ChangeSpec := { name := "confOwn", fn := fun _ => fun
  | [d1, d2] => { results := [.lit (.bool false)], args := [d1, d2] }
  | _ => none }
def ConfOwnWrongFalsely : Prop := confOwnRow.holds Try.pinned (OpenSpec.ofChange confOwnWrong)

/-- 'wayfinderlaw13.PathTurned': WHATEVER THE INPUT: true; the input reads as it did. -/
def pathTurnedSpec : ChangeSpec := { name := "pathTurned", fn := fun _ => fun
  | [d1, d2, d3, d4] => { results := [.lit (.bool true)], args := [d1, d2, d3, d4] }
  | _ => none }
def pathTurnedRow : OpenClaim := { program := "ytlnnkkbcmidddaa", sum := "8c3d65e4a21b3cb7db5c44fd8e08a4b2ee06ade57fd2fe80da6859de6ee86c1c", func := "wayfinder/wayfinderlaw13.PathTurned", spec := "pathTurned", unfollowed := true, recurses := true, plainKeys := false, apart := false }
def PathTurnedSaid : Prop := pathTurnedRow.holds Try.pinned (OpenSpec.ofChange pathTurnedSpec)

/-- ITS FALSE NEIGHBOUR: 'it returns false'. Refute it at one input. -/
def pathTurnedWrong : ChangeSpec := { name := "pathTurned", fn := fun _ => fun
  | [d1, d2, d3, d4] => { results := [.lit (.bool false)], args := [d1, d2, d3, d4] }
  | _ => none }
def PathTurnedWrongFalsely : Prop := pathTurnedRow.holds Try.pinned (OpenSpec.ofChange pathTurnedWrong)

/- THE SECOND FORM. 'bulk': how many values and letters a reading holds, each counted each time it is reached (what is shared counts as often as it is met; a slice's spare places count too). A statement '..UptoSaid' is the law's where the arguments, and the package variables that the reading takes, are together of bulk at most 1048576: NARROWER than '..Said'. Prove '..Said' where nothing that the law and all that it calls make is longer than what came in: it says more and counts as full. Else prove '..UptoSaid'. A law counts once. -/
mutual
def uptoBulk {H : Type} : DataW H → Nat
  | .lit (.string bytes) => bytes.length + 1
  | .lit _ => 1
  | .nil => 1
  | .ptr d => uptoBulk d + 1
  | .slice elems spare => uptoBulkAll elems + uptoBulkAll spare + 1
  | .agg parts => uptoBulkAll parts + 1
  | .iface _ d => uptoBulk d + 1
  | .map entries => uptoBulkEntries entries + 1
  | .held _ => 1
def uptoBulkAll {H : Type} : List (DataW H) → Nat
  | [] => 0
  | d :: r => uptoBulk d + uptoBulkAll r
def uptoBulkEntries {H : Type} : List (Lit × DataW H) → Nat
  | [] => 0
  | x :: r => uptoBulkEntry x + uptoBulkEntries r
def uptoBulkEntry {H : Type} : Lit × DataW H → Nat
  | (.string bytes, d) => bytes.length + uptoBulk d + 1
  | (_, d) => uptoBulk d + 1
 end
def uptoSmall : (H : Type) → List (DataW H) → Bool := fun _ ds => decide (uptoBulkAll ds ≤ 1048576)
def OpenSpec.upto (s : _root_.Go.ChangeSpec) : _root_.Go.OpenSpec := { _root_.Go.OpenSpec.ofChange s with cond := some uptoSmall }

/-- 'wayfinderlaw18.PipeIsPath', WHERE WHAT IT READS IS OF BULK AT MOST 1048576: true; the input reads as it did. -/
def pipeIsPathUptoRow : OpenClaim := { program := "ytlnnkkbcmidddaa", sum := "8c3d65e4a21b3cb7db5c44fd8e08a4b2ee06ade57fd2fe80da6859de6ee86c1c", func := "wayfinder/wayfinderlaw18.PipeIsPath", spec := "pipeIsPath", unfollowed := true, recurses := true, plainKeys := false, apart := false, narrowed := true }
def PipeIsPathUptoSaid : Prop := pipeIsPathUptoRow.holds Try.pinned (OpenSpec.upto pipeIsPathSpec)

/-- 'wayfinderlaw12.ConfTurned', WHERE WHAT IT READS IS OF BULK AT MOST 1048576: true; the input reads as it did. -/
def confTurnedUptoRow : OpenClaim := { program := "ytlnnkkbcmidddaa", sum := "8c3d65e4a21b3cb7db5c44fd8e08a4b2ee06ade57fd2fe80da6859de6ee86c1c", func := "wayfinder/wayfinderlaw12.ConfTurned", spec := "confTurned", unfollowed := true, recurses := true, plainKeys := false, apart := false, narrowed := true }
def ConfTurnedUptoSaid : Prop := confTurnedUptoRow.holds Try.pinned (OpenSpec.upto confTurnedSpec)

/-- 'wayfinderlaw12.ConfSame', WHERE WHAT IT READS IS OF BULK AT MOST 1048576: true; the input reads as it did. -/
def confSameUptoRow : OpenClaim := { program := "ytlnnkkbcmidddaa", sum := "8c3d65e4a21b3cb7db5c44fd8e08a4b2ee06ade57fd2fe80da6859de6ee86c1c", func := "wayfinder/wayfinderlaw12.ConfSame", spec := "confSame", unfollowed := true, recurses := true, plainKeys := false, apart := false, narrowed := true }
def ConfSameUptoSaid : Prop := confSameUptoRow.holds Try.pinned (OpenSpec.upto confSameSpec)

/-- 'wayfinderlaw12.ConfPorts', WHERE WHAT IT READS IS OF BULK AT MOST 1048576: true; the input reads as it did. -/
def confPortsUptoRow : OpenClaim := { program := "ytlnnkkbcmidddaa", sum := "8c3d65e4a21b3cb7db5c44fd8e08a4b2ee06ade57fd2fe80da6859de6ee86c1c", func := "wayfinder/wayfinderlaw12.ConfPorts", spec := "confPorts", unfollowed := true, recurses := true, plainKeys := false, apart := false, narrowed := true }
def ConfPortsUptoSaid : Prop := confPortsUptoRow.holds Try.pinned (OpenSpec.upto confPortsSpec)

/-- 'wayfinderlaw12.ConfTells', WHERE WHAT IT READS IS OF BULK AT MOST 1048576: true; the input reads as it did. -/
def confTellsUptoRow : OpenClaim := { program := "ytlnnkkbcmidddaa", sum := "8c3d65e4a21b3cb7db5c44fd8e08a4b2ee06ade57fd2fe80da6859de6ee86c1c", func := "wayfinder/wayfinderlaw12.ConfTells", spec := "confTells", unfollowed := true, recurses := true, plainKeys := false, apart := false, narrowed := true }
def ConfTellsUptoSaid : Prop := confTellsUptoRow.holds Try.pinned (OpenSpec.upto confTellsSpec)

/-- 'wayfinderlaw12.ConfLess', WHERE WHAT IT READS IS OF BULK AT MOST 1048576: true; the input reads as it did. -/
def confLessUptoRow : OpenClaim := { program := "ytlnnkkbcmidddaa", sum := "8c3d65e4a21b3cb7db5c44fd8e08a4b2ee06ade57fd2fe80da6859de6ee86c1c", func := "wayfinder/wayfinderlaw12.ConfLess", spec := "confLess", unfollowed := true, recurses := true, plainKeys := false, apart := false, narrowed := true }
def ConfLessUptoSaid : Prop := confLessUptoRow.holds Try.pinned (OpenSpec.upto confLessSpec)

/-- 'wayfinderlaw12.ConfOwn', WHERE WHAT IT READS IS OF BULK AT MOST 1048576: true; the input reads as it did. -/
def confOwnUptoRow : OpenClaim := { program := "ytlnnkkbcmidddaa", sum := "8c3d65e4a21b3cb7db5c44fd8e08a4b2ee06ade57fd2fe80da6859de6ee86c1c", func := "wayfinder/wayfinderlaw12.ConfOwn", spec := "confOwn", unfollowed := true, recurses := true, plainKeys := false, apart := false, narrowed := true }
def ConfOwnUptoSaid : Prop := confOwnUptoRow.holds Try.pinned (OpenSpec.upto confOwnSpec)

/-- 'wayfinderlaw13.PathTurned', WHERE WHAT IT READS IS OF BULK AT MOST 1048576: true; the input reads as it did. -/
def pathTurnedUptoRow : OpenClaim := { program := "ytlnnkkbcmidddaa", sum := "8c3d65e4a21b3cb7db5c44fd8e08a4b2ee06ade57fd2fe80da6859de6ee86c1c", func := "wayfinder/wayfinderlaw13.PathTurned", spec := "pathTurned", unfollowed := true, recurses := true, plainKeys := false, apart := false, narrowed := true }
def PathTurnedUptoSaid : Prop := pathTurnedUptoRow.holds Try.pinned (OpenSpec.upto pathTurnedSpec)

end Rows
end Go.Proofs.Ytlnnkkbcmidddaa
