/-
  No cell of these rows narrows 'for every input' (looked for: loops, veiled, ifaces, maps, wideKeys, modest, calm, conditions, laid).
  DERIVED. THE GIVEN ROWS OF THIS SEAT. 5 by the template 'for every input the law returns true; each argument reads behind the call as it read before'; 0 by the template 'total and deterministic' (their statements: YtnldllfmbahjlaaTotals.lean).
  GIVEN WITH THE SEED: the statements are not yours to turn. If you find one false, say at which input.
  Laid BY PROGRAM, IN A SANDBOX (cutbox-rows.mjs): the forced cells as the released guide's own fill.sh prints them over the translation 0caf841934b66bf6… (all of the seat's roots in one cut). By AI agents, Wed Nov 11 2026. No macro, syntax, notation, axiom, sorry.
-/
import Derived.Test.YtnldllfmbahjlaaChecked
import GoSem.Claim
import GoSem.ClaimJoined
import GoSem.ClaimMapViews
import Derived.JoinedTies
import Derived.KernelRfl
namespace Go.Proofs.Ytnldllfmbahjlaa
/- THE CELL 'sum', in the pinned program and in every row, IS THE sha256 OF THE DUMP (.gsa) THAT YtnldllfmbahjlaaProg.lean LOADS. Nothing in Lean hashes anything: it is a label: what it is worth is what the hold of that sum in a sandbox is worth. -/
noncomputable def Try.pinned : Pinned := { name := "ytnldllfmbahjlaa", sum := "0caf841934b66bf6cd987904d6877f18fb02c0e2c3fa288343890f5e35f159bb", checked := Try.checked }
namespace Rows
def none {H : Type} : Left H := { results := [], args := [] }

/-- 'wayfinderlaw18.PipeTells': WHATEVER THE INPUT: true; the input reads as it did. -/
def pipeTellsSpec : ChangeSpec := { name := "pipeTells", fn := fun _ => fun
  | [d1, d2, d3, d4] => { results := [.lit (.bool true)], args := [d1, d2, d3, d4] }
  | _ => none }
def pipeTellsRow : OpenClaim := { program := "ytnldllfmbahjlaa", sum := "0caf841934b66bf6cd987904d6877f18fb02c0e2c3fa288343890f5e35f159bb", func := "wayfinder/wayfinderlaw18.PipeTells", spec := "pipeTells", unfollowed := true, recurses := true, plainKeys := false, apart := false }
def PipeTellsSaid : Prop := pipeTellsRow.holds Try.pinned (OpenSpec.ofChange pipeTellsSpec)

/-- ITS FALSE NEIGHBOUR: 'it returns false'. Refute it at one input. -/
def pipeTellsWrong : ChangeSpec := { name := "pipeTells", fn := fun _ => fun
  | [d1, d2, d3, d4] => { results := [.lit (.bool false)], args := [d1, d2, d3, d4] }
  | _ => none }
def PipeTellsWrongFalsely : Prop := pipeTellsRow.holds Try.pinned (OpenSpec.ofChange pipeTellsWrong)

/-- 'wayfinderlaw18.PipeStamps': WHATEVER THE INPUT: true; the input reads as it did. -/
def pipeStampsSpec : ChangeSpec := { name := "pipeStamps", fn := fun _ => fun
  | [d1, d2, d3, d4, d5] => { results := [.lit (.bool true)], args := [d1, d2, d3, d4, d5] }
  | _ => none }
def pipeStampsRow : OpenClaim := { program := "ytnldllfmbahjlaa", sum := "0caf841934b66bf6cd987904d6877f18fb02c0e2c3fa288343890f5e35f159bb", func := "wayfinder/wayfinderlaw18.PipeStamps", spec := "pipeStamps", unfollowed := true, recurses := true, plainKeys := false, apart := false }
def PipeStampsSaid : Prop := pipeStampsRow.holds Try.pinned (OpenSpec.ofChange pipeStampsSpec)

/-- ITS FALSE NEIGHBOUR: 'it returns false'. Refute it at one input. -/
def pipeStampsWrong : ChangeSpec := { name := "pipeStamps", fn := fun _ => fun
  | [d1, d2, d3, d4, d5] => { results := [.lit (.bool false)], args := [d1, d2, d3, d4, d5] }
  | _ => none }
def PipeStampsWrongFalsely : Prop := pipeStampsRow.holds Try.pinned (OpenSpec.ofChange pipeStampsWrong)

/-- 'wayfinderlaw18.PipeClosed': WHATEVER THE INPUT: true; the input reads as it did. -/
def pipeClosedSpec : ChangeSpec := { name := "pipeClosed", fn := fun _ => fun
  | [d1, d2, d3, d4] => { results := [.lit (.bool true)], args := [d1, d2, d3, d4] }
  | _ => none }
def pipeClosedRow : OpenClaim := { program := "ytnldllfmbahjlaa", sum := "0caf841934b66bf6cd987904d6877f18fb02c0e2c3fa288343890f5e35f159bb", func := "wayfinder/wayfinderlaw18.PipeClosed", spec := "pipeClosed", unfollowed := true, recurses := true, plainKeys := false, apart := false }
def PipeClosedSaid : Prop := pipeClosedRow.holds Try.pinned (OpenSpec.ofChange pipeClosedSpec)

/-- ITS FALSE NEIGHBOUR: 'it returns false'. Refute it at one input. -/
def pipeClosedWrong : ChangeSpec := { name := "pipeClosed", fn := fun _ => fun
  | [d1, d2, d3, d4] => { results := [.lit (.bool false)], args := [d1, d2, d3, d4] }
  | _ => none }
def PipeClosedWrongFalsely : Prop := pipeClosedRow.holds Try.pinned (OpenSpec.ofChange pipeClosedWrong)

/-- 'wayfinderlaw18.PipeGoes': WHATEVER THE INPUT: true; the input reads as it did. -/
def pipeGoesSpec : ChangeSpec := { name := "pipeGoes", fn := fun _ => fun
  | [d1, d2, d3, d4] => { results := [.lit (.bool true)], args := [d1, d2, d3, d4] }
  | _ => none }
def pipeGoesRow : OpenClaim := { program := "ytnldllfmbahjlaa", sum := "0caf841934b66bf6cd987904d6877f18fb02c0e2c3fa288343890f5e35f159bb", func := "wayfinder/wayfinderlaw18.PipeGoes", spec := "pipeGoes", unfollowed := true, recurses := true, plainKeys := false, apart := false }
def PipeGoesSaid : Prop := pipeGoesRow.holds Try.pinned (OpenSpec.ofChange pipeGoesSpec)

/-- ITS FALSE NEIGHBOUR: 'it returns false'. Refute it at one input. -/
def pipeGoesWrong : ChangeSpec := { name := "pipeGoes", fn := fun _ => fun
  | [d1, d2, d3, d4] => { results := [.lit (.bool false)], args := [d1, d2, d3, d4] }
  | _ => none }
def PipeGoesWrongFalsely : Prop := pipeGoesRow.holds Try.pinned (OpenSpec.ofChange pipeGoesWrong)

/-- 'wayfinderlaw18.PipeOld': WHATEVER THE INPUT: true; the input reads as it did. -/
def pipeOldSpec : ChangeSpec := { name := "pipeOld", fn := fun _ => fun
  | [d1, d2, d3, d4] => { results := [.lit (.bool true)], args := [d1, d2, d3, d4] }
  | _ => none }
def pipeOldRow : OpenClaim := { program := "ytnldllfmbahjlaa", sum := "0caf841934b66bf6cd987904d6877f18fb02c0e2c3fa288343890f5e35f159bb", func := "wayfinder/wayfinderlaw18.PipeOld", spec := "pipeOld", unfollowed := true, recurses := true, plainKeys := false, apart := false }
def PipeOldSaid : Prop := pipeOldRow.holds Try.pinned (OpenSpec.ofChange pipeOldSpec)

/-- ITS FALSE NEIGHBOUR: 'it returns false'. Refute it at one input. -/
def pipeOldWrong : ChangeSpec := { name := "pipeOld", fn := fun _ => fun
  | [d1, d2, d3, d4] => { results := [.lit (.bool false)], args := [d1, d2, d3, d4] }
  | _ => none }
def PipeOldWrongFalsely : Prop := pipeOldRow.holds Try.pinned (OpenSpec.ofChange pipeOldWrong)

/- THE SECOND FORM. 'bulk': how many values and letters a reading holds, each counted each time it is reached (what is shared counts as often as it is met; a slice's spare places count too). A statement '..UptoSaid' is the law's where the arguments, and the package variables that the reading takes, are together of bulk at most 1048576: NARROWER than '..Said'. Prove '..Said' where nothing that the law and all that it calls make is longer than what came in: it says more and counts as full. Else prove '..UptoSaid'. A law counts once. -/
mutual
def uptoBulk {H : Type} : DataW H → Nat
  | .lit (.string bytes) => bytes.length + 1
  | .lit _ => 1
  | .nil => 1
  | .ptr d => uptoBulk d + 1
  | .slice elems spare => uptoBulkAll elems + uptoBulkAll spare + 1
  | .agg parts => uptoBulkAll parts + 1
  | .iface _ d => uptoBulk d + 1
  | .map entries => uptoBulkEntries entries + 1
  | .held _ => 1
def uptoBulkAll {H : Type} : List (DataW H) → Nat
  | [] => 0
  | d :: r => uptoBulk d + uptoBulkAll r
def uptoBulkEntries {H : Type} : List (Lit × DataW H) → Nat
  | [] => 0
  | x :: r => uptoBulkEntry x + uptoBulkEntries r
def uptoBulkEntry {H : Type} : Lit × DataW H → Nat
  | (.string bytes, d) => bytes.length + uptoBulk d + 1
  | (_, d) => uptoBulk d + 1
 end
def uptoSmall : (H : Type) → List (DataW H) → Bool := fun _ ds => decide (uptoBulkAll ds ≤ 1048576)
def OpenSpec.upto (s : _root_.Go.ChangeSpec) : _root_.Go.OpenSpec := { _root_.Go.OpenSpec.ofChange s with cond := some uptoSmall }

/-- 'wayfinderlaw18.PipeTells', WHERE WHAT IT READS IS OF BULK AT MOST 1048576: true; the input reads as it did. -/
def pipeTellsUptoRow : OpenClaim := { program := "ytnldllfmbahjlaa", sum := "0caf841934b66bf6cd987904d6877f18fb02c0e2c3fa288343890f5e35f159bb", func := "wayfinder/wayfinderlaw18.PipeTells", spec := "pipeTells", unfollowed := true, recurses := true, plainKeys := false, apart := false, narrowed := true }
def PipeTellsUptoSaid : Prop := pipeTellsUptoRow.holds Try.pinned (OpenSpec.upto pipeTellsSpec)

/-- 'wayfinderlaw18.PipeStamps', WHERE WHAT IT READS IS OF BULK AT MOST 1048576: true; the input reads as it did. -/
def pipeStampsUptoRow : OpenClaim := { program := "ytnldllfmbahjlaa", sum := "0caf841934b66bf6cd987904d6877f18fb02c0e2c3fa288343890f5e35f159bb", func := "wayfinder/wayfinderlaw18.PipeStamps", spec := "pipeStamps", unfollowed := true, recurses := true, plainKeys := false, apart := false, narrowed := true }
def PipeStampsUptoSaid : Prop := pipeStampsUptoRow.holds Try.pinned (OpenSpec.upto pipeStampsSpec)

/-- 'wayfinderlaw18.PipeClosed', WHERE WHAT IT READS IS OF BULK AT MOST 1048576: true; the input reads as it did. -/
def pipeClosedUptoRow : OpenClaim := { program := "ytnldllfmbahjlaa", sum := "0caf841934b66bf6cd987904d6877f18fb02c0e2c3fa288343890f5e35f159bb", func := "wayfinder/wayfinderlaw18.PipeClosed", spec := "pipeClosed", unfollowed := true, recurses := true, plainKeys := false, apart := false, narrowed := true }
def PipeClosedUptoSaid : Prop := pipeClosedUptoRow.holds Try.pinned (OpenSpec.upto pipeClosedSpec)

/-- 'wayfinderlaw18.PipeGoes', WHERE WHAT IT READS IS OF BULK AT MOST 1048576: true; the input reads as it did. -/
def pipeGoesUptoRow : OpenClaim := { program := "ytnldllfmbahjlaa", sum := "0caf841934b66bf6cd987904d6877f18fb02c0e2c3fa288343890f5e35f159bb", func := "wayfinder/wayfinderlaw18.PipeGoes", spec := "pipeGoes", unfollowed := true, recurses := true, plainKeys := false, apart := false, narrowed := true }
def PipeGoesUptoSaid : Prop := pipeGoesUptoRow.holds Try.pinned (OpenSpec.upto pipeGoesSpec)

/-- 'wayfinderlaw18.PipeOld', WHERE WHAT IT READS IS OF BULK AT MOST 1048576: true; the input reads as it did. -/
def pipeOldUptoRow : OpenClaim := { program := "ytnldllfmbahjlaa", sum := "0caf841934b66bf6cd987904d6877f18fb02c0e2c3fa288343890f5e35f159bb", func := "wayfinder/wayfinderlaw18.PipeOld", spec := "pipeOld", unfollowed := true, recurses := true, plainKeys := false, apart := false, narrowed := true }
def PipeOldUptoSaid : Prop := pipeOldUptoRow.holds Try.pinned (OpenSpec.upto pipeOldSpec)

end Rows
end Go.Proofs.Ytnldllfmbahjlaa
