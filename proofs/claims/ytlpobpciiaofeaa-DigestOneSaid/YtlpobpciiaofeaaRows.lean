/-
  No cell of these rows narrows 'for every input' (looked for: loops, veiled, ifaces, maps, wideKeys, modest, calm, conditions, laid).
  DERIVED. THE GIVEN ROWS OF THIS SEAT. 10 by the template 'for every input the law returns true; each argument reads behind the call as it read before'; 0 by the template 'total and deterministic' (their statements: YtlpobpciiaofeaaTotals.lean).
  GIVEN WITH THE SEED: the statements are not yours to turn. If you find one false, say at which input.
  Laid BY PROGRAM, IN A SANDBOX (cutbox-rows.mjs): the forced cells as the released guide's own fill.sh prints them over the translation c7b079edbdd4a4e9… (all of the seat's roots in one cut). By AI agents, Wed Nov 11 2026. No macro, syntax, notation, axiom, sorry.
-/
import Derived.Test.YtlpobpciiaofeaaChecked
import GoSem.Claim
import GoSem.ClaimJoined
import GoSem.ClaimMapViews
import Derived.JoinedTies
import Derived.KernelRfl
namespace Go.Proofs.Ytlpobpciiaofeaa
/- THE CELL 'sum', in the pinned program and in every row, IS THE sha256 OF THE DUMP (.gsa) THAT YtlpobpciiaofeaaProg.lean LOADS. Nothing in Lean hashes anything: it is a label: what it is worth is what the hold of that sum in a sandbox is worth. -/
noncomputable def Try.pinned : Pinned := { name := "ytlpobpciiaofeaa", sum := "c7b079edbdd4a4e95eae996c4c8ef1b94630790a4336d84c4740ab7dd941c65b", checked := Try.checked }
namespace Rows
def none {H : Type} : Left H := { results := [], args := [] }

/-- 'wayfinderlaw08.PickTells': WHATEVER THE INPUT: true; the input reads as it did. -/
def pickTellsSpec : ChangeSpec := { name := "pickTells", fn := fun _ => fun
  | [d1, d2, d3] => { results := [.lit (.bool true)], args := [d1, d2, d3] }
  | _ => none }
def pickTellsRow : OpenClaim := { program := "ytlpobpciiaofeaa", sum := "c7b079edbdd4a4e95eae996c4c8ef1b94630790a4336d84c4740ab7dd941c65b", func := "wayfinder/wayfinderlaw08.PickTells", spec := "pickTells", unfollowed := true, recurses := true, apart := false }
def PickTellsSaid : Prop := pickTellsRow.holds Try.pinned (OpenSpec.ofChange pickTellsSpec)

/-- ITS FALSE NEIGHBOUR: 'it returns false'. Refute it at one input. -/
def pickTellsWrong : ChangeSpec := { name := "pickTells", fn := fun _ => fun
  | [d1, d2, d3] => { results := [.lit (.bool false)], args := [d1, d2, d3] }
  | _ => none }
def PickTellsWrongFalsely : Prop := pickTellsRow.holds Try.pinned (OpenSpec.ofChange pickTellsWrong)

/-- 'wayfinderlaw08.PickOrders': WHATEVER THE INPUT: true; the input reads as it did. -/
def pickOrdersSpec : ChangeSpec := { name := "pickOrders", fn := fun _ => fun
  | [d1, d2, d3] => { results := [.lit (.bool true)], args := [d1, d2, d3] }
  | _ => none }
def pickOrdersRow : OpenClaim := { program := "ytlpobpciiaofeaa", sum := "c7b079edbdd4a4e95eae996c4c8ef1b94630790a4336d84c4740ab7dd941c65b", func := "wayfinder/wayfinderlaw08.PickOrders", spec := "pickOrders", unfollowed := true, recurses := true, apart := false }
def PickOrdersSaid : Prop := pickOrdersRow.holds Try.pinned (OpenSpec.ofChange pickOrdersSpec)

/-- ITS FALSE NEIGHBOUR: 'it returns false'. Refute it at one input. -/
def pickOrdersWrong : ChangeSpec := { name := "pickOrders", fn := fun _ => fun
  | [d1, d2, d3] => { results := [.lit (.bool false)], args := [d1, d2, d3] }
  | _ => none }
def PickOrdersWrongFalsely : Prop := pickOrdersRow.holds Try.pinned (OpenSpec.ofChange pickOrdersWrong)

/-- 'wayfinderlaw08.PickMore': WHATEVER THE INPUT: true; the input reads as it did. -/
def pickMoreSpec : ChangeSpec := { name := "pickMore", fn := fun _ => fun
  | [d1, d2, d3, d4] => { results := [.lit (.bool true)], args := [d1, d2, d3, d4] }
  | _ => none }
def pickMoreRow : OpenClaim := { program := "ytlpobpciiaofeaa", sum := "c7b079edbdd4a4e95eae996c4c8ef1b94630790a4336d84c4740ab7dd941c65b", func := "wayfinder/wayfinderlaw08.PickMore", spec := "pickMore", unfollowed := true, recurses := true, apart := false }
def PickMoreSaid : Prop := pickMoreRow.holds Try.pinned (OpenSpec.ofChange pickMoreSpec)

/-- ITS FALSE NEIGHBOUR: 'it returns false'. Refute it at one input. -/
def pickMoreWrong : ChangeSpec := { name := "pickMore", fn := fun _ => fun
  | [d1, d2, d3, d4] => { results := [.lit (.bool false)], args := [d1, d2, d3, d4] }
  | _ => none }
def PickMoreWrongFalsely : Prop := pickMoreRow.holds Try.pinned (OpenSpec.ofChange pickMoreWrong)

/-- 'wayfinderlaw08.PickTurned': WHATEVER THE INPUT: true; the input reads as it did. -/
def pickTurnedSpec : ChangeSpec := { name := "pickTurned", fn := fun _ => fun
  | [d1, d2, d3, d4] => { results := [.lit (.bool true)], args := [d1, d2, d3, d4] }
  | _ => none }
def pickTurnedRow : OpenClaim := { program := "ytlpobpciiaofeaa", sum := "c7b079edbdd4a4e95eae996c4c8ef1b94630790a4336d84c4740ab7dd941c65b", func := "wayfinder/wayfinderlaw08.PickTurned", spec := "pickTurned", unfollowed := true, recurses := true, apart := false }
def PickTurnedSaid : Prop := pickTurnedRow.holds Try.pinned (OpenSpec.ofChange pickTurnedSpec)

/-- ITS FALSE NEIGHBOUR: 'it returns false'. Refute it at one input. -/
def pickTurnedWrong : ChangeSpec := { name := "pickTurned", fn := fun _ => fun
  | [d1, d2, d3, d4] => { results := [.lit (.bool false)], args := [d1, d2, d3, d4] }
  | _ => none }
def PickTurnedWrongFalsely : Prop := pickTurnedRow.holds Try.pinned (OpenSpec.ofChange pickTurnedWrong)

/-- 'wayfinderlaw10.DigestTells': WHATEVER THE INPUT: true; the input reads as it did. -/
def digestTellsSpec : ChangeSpec := { name := "digestTells", fn := fun _ => fun
  | [d1, d2, d3] => { results := [.lit (.bool true)], args := [d1, d2, d3] }
  | _ => none }
def digestTellsRow : OpenClaim := { program := "ytlpobpciiaofeaa", sum := "c7b079edbdd4a4e95eae996c4c8ef1b94630790a4336d84c4740ab7dd941c65b", func := "wayfinder/wayfinderlaw10.DigestTells", spec := "digestTells", unfollowed := true, recurses := true, apart := false }
def DigestTellsSaid : Prop := digestTellsRow.holds Try.pinned (OpenSpec.ofChange digestTellsSpec)

/-- ITS FALSE NEIGHBOUR: 'it returns false'. Refute it at one input. -/
def digestTellsWrong : ChangeSpec := { name := "digestTells", fn := fun _ => fun
  | [d1, d2, d3] => { results := [.lit (.bool false)], args := [d1, d2, d3] }
  | _ => none }
def DigestTellsWrongFalsely : Prop := digestTellsRow.holds Try.pinned (OpenSpec.ofChange digestTellsWrong)

/-- 'wayfinderlaw10.DigestBounds': WHATEVER THE INPUT: true; the input reads as it did. -/
def digestBoundsSpec : ChangeSpec := { name := "digestBounds", fn := fun _ => fun
  | [d1, d2] => { results := [.lit (.bool true)], args := [d1, d2] }
  | _ => none }
def digestBoundsRow : OpenClaim := { program := "ytlpobpciiaofeaa", sum := "c7b079edbdd4a4e95eae996c4c8ef1b94630790a4336d84c4740ab7dd941c65b", func := "wayfinder/wayfinderlaw10.DigestBounds", spec := "digestBounds", unfollowed := true, recurses := true, apart := false }
def DigestBoundsSaid : Prop := digestBoundsRow.holds Try.pinned (OpenSpec.ofChange digestBoundsSpec)

/-- ITS FALSE NEIGHBOUR: 'it returns false'. Refute it at one input. -/
def digestBoundsWrong : ChangeSpec := { name := "digestBounds", fn := fun _ => fun
  | [d1, d2] => { results := [.lit (.bool false)], args := [d1, d2] }
  | _ => none }
def DigestBoundsWrongFalsely : Prop := digestBoundsRow.holds Try.pinned (OpenSpec.ofChange digestBoundsWrong)

/-- 'wayfinderlaw10.DigestOne': WHATEVER THE INPUT: true; the input reads as it did. -/
def digestOneSpec : ChangeSpec := { name := "digestOne", fn := fun _ => fun
  | [d1, d2, d3, d4, d5] => { results := [.lit (.bool true)], args := [d1, d2, d3, d4, d5] }
  | _ => none }
def digestOneRow : OpenClaim := { program := "ytlpobpciiaofeaa", sum := "c7b079edbdd4a4e95eae996c4c8ef1b94630790a4336d84c4740ab7dd941c65b", func := "wayfinder/wayfinderlaw10.DigestOne", spec := "digestOne", unfollowed := true, recurses := true, apart := false }
def DigestOneSaid : Prop := digestOneRow.holds Try.pinned (OpenSpec.ofChange digestOneSpec)

/-- ITS FALSE NEIGHBOUR: 'it returns false'. Refute it at one input. -/
def digestOneWrong : ChangeSpec := { name := "digestOne", fn := fun _ => fun
  | [d1, d2, d3, d4, d5] => { results := [.lit (.bool false)], args := [d1, d2, d3, d4, d5] }
  | _ => none }
def DigestOneWrongFalsely : Prop := digestOneRow.holds Try.pinned (OpenSpec.ofChange digestOneWrong)

/-- 'wayfinderlaw10.DigestNone': WHATEVER THE INPUT: true; the input reads as it did. -/
def digestNoneSpec : ChangeSpec := { name := "digestNone", fn := fun _ => fun
  | [d1, d2] => { results := [.lit (.bool true)], args := [d1, d2] }
  | _ => none }
def digestNoneRow : OpenClaim := { program := "ytlpobpciiaofeaa", sum := "c7b079edbdd4a4e95eae996c4c8ef1b94630790a4336d84c4740ab7dd941c65b", func := "wayfinder/wayfinderlaw10.DigestNone", spec := "digestNone", unfollowed := true, recurses := true, apart := false }
def DigestNoneSaid : Prop := digestNoneRow.holds Try.pinned (OpenSpec.ofChange digestNoneSpec)

/-- ITS FALSE NEIGHBOUR: 'it returns false'. Refute it at one input. -/
def digestNoneWrong : ChangeSpec := { name := "digestNone", fn := fun _ => fun
  | [d1, d2] => { results := [.lit (.bool false)], args := [d1, d2] }
  | _ => none }
def DigestNoneWrongFalsely : Prop := digestNoneRow.holds Try.pinned (OpenSpec.ofChange digestNoneWrong)

/-- 'wayfinderlaw10.DigestMore': WHATEVER THE INPUT: true; the input reads as it did. -/
def digestMoreSpec : ChangeSpec := { name := "digestMore", fn := fun _ => fun
  | [d1, d2, d3] => { results := [.lit (.bool true)], args := [d1, d2, d3] }
  | _ => none }
def digestMoreRow : OpenClaim := { program := "ytlpobpciiaofeaa", sum := "c7b079edbdd4a4e95eae996c4c8ef1b94630790a4336d84c4740ab7dd941c65b", func := "wayfinder/wayfinderlaw10.DigestMore", spec := "digestMore", unfollowed := true, recurses := true, apart := false }
def DigestMoreSaid : Prop := digestMoreRow.holds Try.pinned (OpenSpec.ofChange digestMoreSpec)

/-- ITS FALSE NEIGHBOUR: 'it returns false'. Refute it at one input. -/
def digestMoreWrong : ChangeSpec := { name := "digestMore", fn := fun _ => fun
  | [d1, d2, d3] => { results := [.lit (.bool false)], args := [d1, d2, d3] }
  | _ => none }
def DigestMoreWrongFalsely : Prop := digestMoreRow.holds Try.pinned (OpenSpec.ofChange digestMoreWrong)

/-- 'wayfinderlaw10.DigestTurned': WHATEVER THE INPUT: true; the input reads as it did. -/
def digestTurnedSpec : ChangeSpec := { name := "digestTurned", fn := fun _ => fun
  | [d1, d2, d3] => { results := [.lit (.bool true)], args := [d1, d2, d3] }
  | _ => none }
def digestTurnedRow : OpenClaim := { program := "ytlpobpciiaofeaa", sum := "c7b079edbdd4a4e95eae996c4c8ef1b94630790a4336d84c4740ab7dd941c65b", func := "wayfinder/wayfinderlaw10.DigestTurned", spec := "digestTurned", unfollowed := true, recurses := true, apart := false }
def DigestTurnedSaid : Prop := digestTurnedRow.holds Try.pinned (OpenSpec.ofChange digestTurnedSpec)

/-- ITS FALSE NEIGHBOUR: 'it returns false'. Refute it at one input. -/
def digestTurnedWrong : ChangeSpec := { name := "digestTurned", fn := fun _ => fun
  | [d1, d2, d3] => { results := [.lit (.bool false)], args := [d1, d2, d3] }
  | _ => none }
def DigestTurnedWrongFalsely : Prop := digestTurnedRow.holds Try.pinned (OpenSpec.ofChange digestTurnedWrong)

/- THE SECOND FORM. 'bulk': how many values and letters a reading holds, each counted each time it is reached (what is shared counts as often as it is met; a slice's spare places count too). A statement '..UptoSaid' is the law's where the arguments, and the package variables that the reading takes, are together of bulk at most 1048576: NARROWER than '..Said'. Prove '..Said' where nothing that the law and all that it calls make is longer than what came in: it says more and counts as full. Else prove '..UptoSaid'. A law counts once. -/
mutual
def uptoBulk {H : Type} : DataW H → Nat
  | .lit (.string bytes) => bytes.length + 1
  | .lit _ => 1
  | .nil => 1
  | .ptr d => uptoBulk d + 1
  | .slice elems spare => uptoBulkAll elems + uptoBulkAll spare + 1
  | .agg parts => uptoBulkAll parts + 1
  | .iface _ d => uptoBulk d + 1
  | .map entries => uptoBulkEntries entries + 1
  | .held _ => 1
def uptoBulkAll {H : Type} : List (DataW H) → Nat
  | [] => 0
  | d :: r => uptoBulk d + uptoBulkAll r
def uptoBulkEntries {H : Type} : List (Lit × DataW H) → Nat
  | [] => 0
  | x :: r => uptoBulkEntry x + uptoBulkEntries r
def uptoBulkEntry {H : Type} : Lit × DataW H → Nat
  | (.string bytes, d) => bytes.length + uptoBulk d + 1
  | (_, d) => uptoBulk d + 1
 end
def uptoSmall : (H : Type) → List (DataW H) → Bool := fun _ ds => decide (uptoBulkAll ds ≤ 1048576)
def OpenSpec.upto (s : _root_.Go.ChangeSpec) : _root_.Go.OpenSpec := { _root_.Go.OpenSpec.ofChange s with cond := some uptoSmall }

/-- 'wayfinderlaw08.PickTells', WHERE WHAT IT READS IS OF BULK AT MOST 1048576: true; the input reads as it did. -/
def pickTellsUptoRow : OpenClaim := { program := "ytlpobpciiaofeaa", sum := "c7b079edbdd4a4e95eae996c4c8ef1b94630790a4336d84c4740ab7dd941c65b", func := "wayfinder/wayfinderlaw08.PickTells", spec := "pickTells", unfollowed := true, recurses := true, apart := false, narrowed := true }
def PickTellsUptoSaid : Prop := pickTellsUptoRow.holds Try.pinned (OpenSpec.upto pickTellsSpec)

/-- 'wayfinderlaw08.PickOrders', WHERE WHAT IT READS IS OF BULK AT MOST 1048576: true; the input reads as it did. -/
def pickOrdersUptoRow : OpenClaim := { program := "ytlpobpciiaofeaa", sum := "c7b079edbdd4a4e95eae996c4c8ef1b94630790a4336d84c4740ab7dd941c65b", func := "wayfinder/wayfinderlaw08.PickOrders", spec := "pickOrders", unfollowed := true, recurses := true, apart := false, narrowed := true }
def PickOrdersUptoSaid : Prop := pickOrdersUptoRow.holds Try.pinned (OpenSpec.upto pickOrdersSpec)

/-- 'wayfinderlaw08.PickMore', WHERE WHAT IT READS IS OF BULK AT MOST 1048576: true; the input reads as it did. -/
def pickMoreUptoRow : OpenClaim := { program := "ytlpobpciiaofeaa", sum := "c7b079edbdd4a4e95eae996c4c8ef1b94630790a4336d84c4740ab7dd941c65b", func := "wayfinder/wayfinderlaw08.PickMore", spec := "pickMore", unfollowed := true, recurses := true, apart := false, narrowed := true }
def PickMoreUptoSaid : Prop := pickMoreUptoRow.holds Try.pinned (OpenSpec.upto pickMoreSpec)

/-- 'wayfinderlaw08.PickTurned', WHERE WHAT IT READS IS OF BULK AT MOST 1048576: true; the input reads as it did. -/
def pickTurnedUptoRow : OpenClaim := { program := "ytlpobpciiaofeaa", sum := "c7b079edbdd4a4e95eae996c4c8ef1b94630790a4336d84c4740ab7dd941c65b", func := "wayfinder/wayfinderlaw08.PickTurned", spec := "pickTurned", unfollowed := true, recurses := true, apart := false, narrowed := true }
def PickTurnedUptoSaid : Prop := pickTurnedUptoRow.holds Try.pinned (OpenSpec.upto pickTurnedSpec)

/-- 'wayfinderlaw10.DigestTells', WHERE WHAT IT READS IS OF BULK AT MOST 1048576: true; the input reads as it did. -/
def digestTellsUptoRow : OpenClaim := { program := "ytlpobpciiaofeaa", sum := "c7b079edbdd4a4e95eae996c4c8ef1b94630790a4336d84c4740ab7dd941c65b", func := "wayfinder/wayfinderlaw10.DigestTells", spec := "digestTells", unfollowed := true, recurses := true, apart := false, narrowed := true }
def DigestTellsUptoSaid : Prop := digestTellsUptoRow.holds Try.pinned (OpenSpec.upto digestTellsSpec)

/-- 'wayfinderlaw10.DigestBounds', WHERE WHAT IT READS IS OF BULK AT MOST 1048576: true; the input reads as it did. -/
def digestBoundsUptoRow : OpenClaim := { program := "ytlpobpciiaofeaa", sum := "c7b079edbdd4a4e95eae996c4c8ef1b94630790a4336d84c4740ab7dd941c65b", func := "wayfinder/wayfinderlaw10.DigestBounds", spec := "digestBounds", unfollowed := true, recurses := true, apart := false, narrowed := true }
def DigestBoundsUptoSaid : Prop := digestBoundsUptoRow.holds Try.pinned (OpenSpec.upto digestBoundsSpec)

/-- 'wayfinderlaw10.DigestOne', WHERE WHAT IT READS IS OF BULK AT MOST 1048576: true; the input reads as it did. -/
def digestOneUptoRow : OpenClaim := { program := "ytlpobpciiaofeaa", sum := "c7b079edbdd4a4e95eae996c4c8ef1b94630790a4336d84c4740ab7dd941c65b", func := "wayfinder/wayfinderlaw10.DigestOne", spec := "digestOne", unfollowed := true, recurses := true, apart := false, narrowed := true }
def DigestOneUptoSaid : Prop := digestOneUptoRow.holds Try.pinned (OpenSpec.upto digestOneSpec)

/-- 'wayfinderlaw10.DigestNone', WHERE WHAT IT READS IS OF BULK AT MOST 1048576: true; the input reads as it did. -/
def digestNoneUptoRow : OpenClaim := { program := "ytlpobpciiaofeaa", sum := "c7b079edbdd4a4e95eae996c4c8ef1b94630790a4336d84c4740ab7dd941c65b", func := "wayfinder/wayfinderlaw10.DigestNone", spec := "digestNone", unfollowed := true, recurses := true, apart := false, narrowed := true }
def DigestNoneUptoSaid : Prop := digestNoneUptoRow.holds Try.pinned (OpenSpec.upto digestNoneSpec)

/-- 'wayfinderlaw10.DigestMore', WHERE WHAT IT READS IS OF BULK AT MOST 1048576: true; the input reads as it did. -/
def digestMoreUptoRow : OpenClaim := { program := "ytlpobpciiaofeaa", sum := "c7b079edbdd4a4e95eae996c4c8ef1b94630790a4336d84c4740ab7dd941c65b", func := "wayfinder/wayfinderlaw10.DigestMore", spec := "digestMore", unfollowed := true, recurses := true, apart := false, narrowed := true }
def DigestMoreUptoSaid : Prop := digestMoreUptoRow.holds Try.pinned (OpenSpec.upto digestMoreSpec)

/-- 'wayfinderlaw10.DigestTurned', WHERE WHAT IT READS IS OF BULK AT MOST 1048576: true; the input reads as it did. -/
def digestTurnedUptoRow : OpenClaim := { program := "ytlpobpciiaofeaa", sum := "c7b079edbdd4a4e95eae996c4c8ef1b94630790a4336d84c4740ab7dd941c65b", func := "wayfinder/wayfinderlaw10.DigestTurned", spec := "digestTurned", unfollowed := true, recurses := true, apart := false, narrowed := true }
def DigestTurnedUptoSaid : Prop := digestTurnedUptoRow.holds Try.pinned (OpenSpec.upto digestTurnedSpec)

end Rows
end Go.Proofs.Ytlpobpciiaofeaa
