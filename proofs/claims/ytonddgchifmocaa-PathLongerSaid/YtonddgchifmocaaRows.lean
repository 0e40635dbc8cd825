/-
  No cell of these rows narrows 'for every input' (looked for: loops, veiled, ifaces, maps, wideKeys, modest, calm, conditions, laid).
  DERIVED. THE GIVEN ROWS OF THIS SEAT. 6 by the template 'for every input the law returns true; each argument reads behind the call as it read before'; 0 by the template 'total and deterministic' (their statements: YtonddgchifmocaaTotals.lean).
  GIVEN WITH THE SEED: the statements are not yours to turn. If you find one false, say at which input.
  Laid BY PROGRAM, IN A SANDBOX (cutbox-rows.mjs): the forced cells as the released guide's own fill.sh prints them over the translation 3b134ff7336262cd… (all of the seat's roots in one cut). By AI agents, Wed Nov 11 2026. No macro, syntax, notation, axiom, sorry.
-/
import Derived.Test.YtonddgchifmocaaChecked
import GoSem.Claim
import GoSem.ClaimJoined
import GoSem.ClaimMapViews
import Derived.JoinedTies
import Derived.KernelRfl
namespace Go.Proofs.Ytonddgchifmocaa
/- THE CELL 'sum', in the pinned program and in every row, IS THE sha256 OF THE DUMP (.gsa) THAT YtonddgchifmocaaProg.lean LOADS. Nothing in Lean hashes anything: it is a label: what it is worth is what the hold of that sum in a sandbox is worth. -/
noncomputable def Try.pinned : Pinned := { name := "ytonddgchifmocaa", sum := "3b134ff7336262cdce9d55ef0d0338b9436533c37452335c2bdaadeffc098d24", checked := Try.checked }
namespace Rows
def none {H : Type} : Left H := { results := [], args := [] }

/-- 'wayfinderlaw13.PathSteps': WHATEVER THE INPUT: true; the input reads as it did. -/
def pathStepsSpec : ChangeSpec := { name := "pathSteps", fn := fun _ => fun
  | [d1, d2, d3] => { results := [.lit (.bool true)], args := [d1, d2, d3] }
  | _ => none }
def pathStepsRow : OpenClaim := { program := "ytonddgchifmocaa", sum := "3b134ff7336262cdce9d55ef0d0338b9436533c37452335c2bdaadeffc098d24", func := "wayfinder/wayfinderlaw13.PathSteps", spec := "pathSteps", unfollowed := true, recurses := true, plainKeys := false, apart := false }
def PathStepsSaid : Prop := pathStepsRow.holds Try.pinned (OpenSpec.ofChange pathStepsSpec)

/-- ITS FALSE NEIGHBOUR: 'it returns false'. Refute it at one input. -/
def pathStepsWrong : ChangeSpec := { name := "pathSteps", fn := fun _ => fun
  | [d1, d2, d3] => { results := [.lit (.bool false)], args := [d1, d2, d3] }
  | _ => none }
def PathStepsWrongFalsely : Prop := pathStepsRow.holds Try.pinned (OpenSpec.ofChange pathStepsWrong)

/-- 'wayfinderlaw13.PathWalks': WHATEVER THE INPUT: true; the input reads as it did. -/
def pathWalksSpec : ChangeSpec := { name := "pathWalks", fn := fun _ => fun
  | [d1, d2, d3] => { results := [.lit (.bool true)], args := [d1, d2, d3] }
  | _ => none }
def pathWalksRow : OpenClaim := { program := "ytonddgchifmocaa", sum := "3b134ff7336262cdce9d55ef0d0338b9436533c37452335c2bdaadeffc098d24", func := "wayfinder/wayfinderlaw13.PathWalks", spec := "pathWalks", unfollowed := true, recurses := true, plainKeys := false, apart := false }
def PathWalksSaid : Prop := pathWalksRow.holds Try.pinned (OpenSpec.ofChange pathWalksSpec)

/-- ITS FALSE NEIGHBOUR: 'it returns false'. Refute it at one input. -/
def pathWalksWrong : ChangeSpec := { name := "pathWalks", fn := fun _ => fun
  | [d1, d2, d3] => { results := [.lit (.bool false)], args := [d1, d2, d3] }
  | _ => none }
def PathWalksWrongFalsely : Prop := pathWalksRow.holds Try.pinned (OpenSpec.ofChange pathWalksWrong)

/-- 'wayfinderlaw13.PathEnds': WHATEVER THE INPUT: true; the input reads as it did. -/
def pathEndsSpec : ChangeSpec := { name := "pathEnds", fn := fun _ => fun
  | [d1, d2, d3] => { results := [.lit (.bool true)], args := [d1, d2, d3] }
  | _ => none }
def pathEndsRow : OpenClaim := { program := "ytonddgchifmocaa", sum := "3b134ff7336262cdce9d55ef0d0338b9436533c37452335c2bdaadeffc098d24", func := "wayfinder/wayfinderlaw13.PathEnds", spec := "pathEnds", unfollowed := true, recurses := true, plainKeys := false, apart := false }
def PathEndsSaid : Prop := pathEndsRow.holds Try.pinned (OpenSpec.ofChange pathEndsSpec)

/-- ITS FALSE NEIGHBOUR: 'it returns false'. Refute it at one input. -/
def pathEndsWrong : ChangeSpec := { name := "pathEnds", fn := fun _ => fun
  | [d1, d2, d3] => { results := [.lit (.bool false)], args := [d1, d2, d3] }
  | _ => none }
def PathEndsWrongFalsely : Prop := pathEndsRow.holds Try.pinned (OpenSpec.ofChange pathEndsWrong)

/-- 'wayfinderlaw13.PathGoes': WHATEVER THE INPUT: true; the input reads as it did. -/
def pathGoesSpec : ChangeSpec := { name := "pathGoes", fn := fun _ => fun
  | [d1, d2, d3] => { results := [.lit (.bool true)], args := [d1, d2, d3] }
  | _ => none }
def pathGoesRow : OpenClaim := { program := "ytonddgchifmocaa", sum := "3b134ff7336262cdce9d55ef0d0338b9436533c37452335c2bdaadeffc098d24", func := "wayfinder/wayfinderlaw13.PathGoes", spec := "pathGoes", unfollowed := true, recurses := true, plainKeys := false, apart := false }
def PathGoesSaid : Prop := pathGoesRow.holds Try.pinned (OpenSpec.ofChange pathGoesSpec)

/-- ITS FALSE NEIGHBOUR: 'it returns false'. Refute it at one input. -/
def pathGoesWrong : ChangeSpec := { name := "pathGoes", fn := fun _ => fun
  | [d1, d2, d3] => { results := [.lit (.bool false)], args := [d1, d2, d3] }
  | _ => none }
def PathGoesWrongFalsely : Prop := pathGoesRow.holds Try.pinned (OpenSpec.ofChange pathGoesWrong)

/-- 'wayfinderlaw13.PathId': WHATEVER THE INPUT: true; the input reads as it did. -/
def pathIdSpec : ChangeSpec := { name := "pathId", fn := fun _ => fun
  | [d1, d2, d3, d4, d5] => { results := [.lit (.bool true)], args := [d1, d2, d3, d4, d5] }
  | _ => none }
def pathIdRow : OpenClaim := { program := "ytonddgchifmocaa", sum := "3b134ff7336262cdce9d55ef0d0338b9436533c37452335c2bdaadeffc098d24", func := "wayfinder/wayfinderlaw13.PathId", spec := "pathId", unfollowed := true, recurses := true, plainKeys := false, apart := false }
def PathIdSaid : Prop := pathIdRow.holds Try.pinned (OpenSpec.ofChange pathIdSpec)

/-- ITS FALSE NEIGHBOUR: 'it returns false'. Refute it at one input. -/
def pathIdWrong : ChangeSpec := { name := "pathId", fn := fun _ => fun
  | [d1, d2, d3, d4, d5] => { results := [.lit (.bool false)], args := [d1, d2, d3, d4, d5] }
  | _ => none }
def PathIdWrongFalsely : Prop := pathIdRow.holds Try.pinned (OpenSpec.ofChange pathIdWrong)

/-- 'wayfinderlaw13.PathLonger': WHATEVER THE INPUT: true; the input reads as it did. -/
def pathLongerSpec : ChangeSpec := { name := "pathLonger", fn := fun _ => fun
  | [d1, d2, d3, d4] => { results := [.lit (.bool true)], args := [d1, d2, d3, d4] }
  | _ => none }
def pathLongerRow : OpenClaim := { program := "ytonddgchifmocaa", sum := "3b134ff7336262cdce9d55ef0d0338b9436533c37452335c2bdaadeffc098d24", func := "wayfinder/wayfinderlaw13.PathLonger", spec := "pathLonger", unfollowed := true, recurses := true, plainKeys := false, apart := false }
def PathLongerSaid : Prop := pathLongerRow.holds Try.pinned (OpenSpec.ofChange pathLongerSpec)

/-- ITS FALSE NEIGHBOUR: 'it returns false'. Refute it at one input. -/
def pathLongerWrong : ChangeSpec := { name := "pathLonger", fn := fun _ => fun
  | [d1, d2, d3, d4] => { results := [.lit (.bool false)], args := [d1, d2, d3, d4] }
  | _ => none }
def PathLongerWrongFalsely : Prop := pathLongerRow.holds Try.pinned (OpenSpec.ofChange pathLongerWrong)

/- THE SECOND FORM. 'bulk': how many values and letters a reading holds, each counted each time it is reached (what is shared counts as often as it is met; a slice's spare places count too). A statement '..UptoSaid' is the law's where the arguments, and the package variables that the reading takes, are together of bulk at most 1048576: NARROWER than '..Said'. Prove '..Said' where nothing that the law and all that it calls make is longer than what came in: it says more and counts as full. Else prove '..UptoSaid'. A law counts once. -/
mutual
def uptoBulk {H : Type} : DataW H → Nat
  | .lit (.string bytes) => bytes.length + 1
  | .lit _ => 1
  | .nil => 1
  | .ptr d => uptoBulk d + 1
  | .slice elems spare => uptoBulkAll elems + uptoBulkAll spare + 1
  | .agg parts => uptoBulkAll parts + 1
  | .iface _ d => uptoBulk d + 1
  | .map entries => uptoBulkEntries entries + 1
  | .held _ => 1
def uptoBulkAll {H : Type} : List (DataW H) → Nat
  | [] => 0
  | d :: r => uptoBulk d + uptoBulkAll r
def uptoBulkEntries {H : Type} : List (Lit × DataW H) → Nat
  | [] => 0
  | x :: r => uptoBulkEntry x + uptoBulkEntries r
def uptoBulkEntry {H : Type} : Lit × DataW H → Nat
  | (.string bytes, d) => bytes.length + uptoBulk d + 1
  | (_, d) => uptoBulk d + 1
 end
def uptoSmall : (H : Type) → List (DataW H) → Bool := fun _ ds => decide (uptoBulkAll ds ≤ 1048576)
def OpenSpec.upto (s : _root_.Go.ChangeSpec) : _root_.Go.OpenSpec := { _root_.Go.OpenSpec.ofChange s with cond := some uptoSmall }

/-- 'wayfinderlaw13.PathSteps', WHERE WHAT IT READS IS OF BULK AT MOST 1048576: true; the input reads as it did. -/
def pathStepsUptoRow : OpenClaim := { program := "ytonddgchifmocaa", sum := "3b134ff7336262cdce9d55ef0d0338b9436533c37452335c2bdaadeffc098d24", func := "wayfinder/wayfinderlaw13.PathSteps", spec := "pathSteps", unfollowed := true, recurses := true, plainKeys := false, apart := false, narrowed := true }
def PathStepsUptoSaid : Prop := pathStepsUptoRow.holds Try.pinned (OpenSpec.upto pathStepsSpec)

/-- 'wayfinderlaw13.PathWalks', WHERE WHAT IT READS IS OF BULK AT MOST 1048576: true; the input reads as it did. -/
def pathWalksUptoRow : OpenClaim := { program := "ytonddgchifmocaa", sum := "3b134ff7336262cdce9d55ef0d0338b9436533c37452335c2bdaadeffc098d24", func := "wayfinder/wayfinderlaw13.PathWalks", spec := "pathWalks", unfollowed := true, recurses := true, plainKeys := false, apart := false, narrowed := true }
def PathWalksUptoSaid : Prop := pathWalksUptoRow.holds Try.pinned (OpenSpec.upto pathWalksSpec)

/-- 'wayfinderlaw13.PathEnds', WHERE WHAT IT READS IS OF BULK AT MOST 1048576: true; the input reads as it did. -/
def pathEndsUptoRow : OpenClaim := { program := "ytonddgchifmocaa", sum := "3b134ff7336262cdce9d55ef0d0338b9436533c37452335c2bdaadeffc098d24", func := "wayfinder/wayfinderlaw13.PathEnds", spec := "pathEnds", unfollowed := true, recurses := true, plainKeys := false, apart := false, narrowed := true }
def PathEndsUptoSaid : Prop := pathEndsUptoRow.holds Try.pinned (OpenSpec.upto pathEndsSpec)

/-- 'wayfinderlaw13.PathGoes', WHERE WHAT IT READS IS OF BULK AT MOST 1048576: true; the input reads as it did. -/
def pathGoesUptoRow : OpenClaim := { program := "ytonddgchifmocaa", sum := "3b134ff7336262cdce9d55ef0d0338b9436533c37452335c2bdaadeffc098d24", func := "wayfinder/wayfinderlaw13.PathGoes", spec := "pathGoes", unfollowed := true, recurses := true, plainKeys := false, apart := false, narrowed := true }
def PathGoesUptoSaid : Prop := pathGoesUptoRow.holds Try.pinned (OpenSpec.upto pathGoesSpec)

/-- 'wayfinderlaw13.PathId', WHERE WHAT IT READS IS OF BULK AT MOST 1048576: true; the input reads as it did. -/
def pathIdUptoRow : OpenClaim := { program := "ytonddgchifmocaa", sum := "3b134ff7336262cdce9d55ef0d0338b9436533c37452335c2bdaadeffc098d24", func := "wayfinder/wayfinderlaw13.PathId", spec := "pathId", unfollowed := true, recurses := true, plainKeys := false, apart := false, narrowed := true }
def PathIdUptoSaid : Prop := pathIdUptoRow.holds Try.pinned (OpenSpec.upto pathIdSpec)

/-- 'wayfinderlaw13.PathLonger', WHERE WHAT IT READS IS OF BULK AT MOST 1048576: true; the input reads as it did. -/
def pathLongerUptoRow : OpenClaim := { program := "ytonddgchifmocaa", sum := "3b134ff7336262cdce9d55ef0d0338b9436533c37452335c2bdaadeffc098d24", func := "wayfinder/wayfinderlaw13.PathLonger", spec := "pathLonger", unfollowed := true, recurses := true, plainKeys := false, apart := false, narrowed := true }
def PathLongerUptoSaid : Prop := pathLongerUptoRow.holds Try.pinned (OpenSpec.upto pathLongerSpec)

end Rows
end Go.Proofs.Ytonddgchifmocaa
