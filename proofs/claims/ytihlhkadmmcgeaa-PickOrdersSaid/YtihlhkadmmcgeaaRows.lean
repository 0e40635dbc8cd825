/-
  No cell of these rows narrows 'for every input' (looked for: loops, veiled, ifaces, maps, wideKeys, modest, calm, conditions, laid).
  DERIVED. THE GIVEN ROWS OF THIS SEAT. 6 by the template 'for every input the law returns true; each argument reads behind the call as it read before'; 0 by the template 'total and deterministic' (their statements: YtihlhkadmmcgeaaTotals.lean).
  GIVEN WITH THE SEED: the statements are not yours to turn. If you find one false, say at which input.
  Laid BY PROGRAM, IN A SANDBOX (cutbox-rows.mjs): the forced cells as the released guide's own fill.sh prints them over the translation cdab34cafb30141d… (all of the seat's roots in one cut). By AI agents, Wed Nov 11 2026. No macro, syntax, notation, axiom, sorry.
-/
import Derived.Test.YtihlhkadmmcgeaaChecked
import GoSem.Claim
import GoSem.ClaimJoined
import GoSem.ClaimMapViews
import Derived.JoinedTies
import Derived.KernelRfl
namespace Go.Proofs.Ytihlhkadmmcgeaa
/- THE CELL 'sum', in the pinned program and in every row, IS THE sha256 OF THE DUMP (.gsa) THAT YtihlhkadmmcgeaaProg.lean LOADS. Nothing in Lean hashes anything: it is a label: what it is worth is what the hold of that sum in a sandbox is worth. -/
noncomputable def Try.pinned : Pinned := { name := "ytihlhkadmmcgeaa", sum := "cdab34cafb30141d41b105a3aa41fc48ebd71190b043138f1ac7749e2b746983", checked := Try.checked }
namespace Rows
def none {H : Type} : Left H := { results := [], args := [] }

/-- 'wayfinderlaw08.PickTells': WHATEVER THE INPUT: true; the input reads as it did. -/
def pickTellsSpec : ChangeSpec := { name := "pickTells", fn := fun _ => fun
  | [d1, d2, d3] => { results := [.lit (.bool true)], args := [d1, d2, d3] }
  | _ => none }
def pickTellsRow : OpenClaim := { program := "ytihlhkadmmcgeaa", sum := "cdab34cafb30141d41b105a3aa41fc48ebd71190b043138f1ac7749e2b746983", func := "wayfinder/wayfinderlaw08.PickTells", spec := "pickTells", unfollowed := true, recurses := true, apart := false }
def PickTellsSaid : Prop := pickTellsRow.holds Try.pinned (OpenSpec.ofChange pickTellsSpec)

/-- ITS FALSE NEIGHBOUR: 'it returns false'. Refute it at one input. -/
def pickTellsWrong : ChangeSpec := { name := "pickTells", fn := fun _ => fun
  | [d1, d2, d3] => { results := [.lit (.bool false)], args := [d1, d2, d3] }
  | _ => none }
def PickTellsWrongFalsely : Prop := pickTellsRow.holds Try.pinned (OpenSpec.ofChange pickTellsWrong)

/-- 'wayfinderlaw08.PickFits': WHATEVER THE INPUT: true; the input reads as it did. -/
def pickFitsSpec : ChangeSpec := { name := "pickFits", fn := fun _ => fun
  | [d1, d2, d3] => { results := [.lit (.bool true)], args := [d1, d2, d3] }
  | _ => none }
def pickFitsRow : OpenClaim := { program := "ytihlhkadmmcgeaa", sum := "cdab34cafb30141d41b105a3aa41fc48ebd71190b043138f1ac7749e2b746983", func := "wayfinder/wayfinderlaw08.PickFits", spec := "pickFits", unfollowed := true, recurses := true, apart := false }
def PickFitsSaid : Prop := pickFitsRow.holds Try.pinned (OpenSpec.ofChange pickFitsSpec)

/-- ITS FALSE NEIGHBOUR: 'it returns false'. Refute it at one input. -/
def pickFitsWrong : ChangeSpec := { name := "pickFits", fn := fun _ => fun
  | [d1, d2, d3] => { results := [.lit (.bool false)], args := [d1, d2, d3] }
  | _ => none }
def PickFitsWrongFalsely : Prop := pickFitsRow.holds Try.pinned (OpenSpec.ofChange pickFitsWrong)

/-- 'wayfinderlaw08.PickOrders': WHATEVER THE INPUT: true; the input reads as it did. -/
def pickOrdersSpec : ChangeSpec := { name := "pickOrders", fn := fun _ => fun
  | [d1, d2, d3] => { results := [.lit (.bool true)], args := [d1, d2, d3] }
  | _ => none }
def pickOrdersRow : OpenClaim := { program := "ytihlhkadmmcgeaa", sum := "cdab34cafb30141d41b105a3aa41fc48ebd71190b043138f1ac7749e2b746983", func := "wayfinder/wayfinderlaw08.PickOrders", spec := "pickOrders", unfollowed := true, recurses := true, apart := false }
def PickOrdersSaid : Prop := pickOrdersRow.holds Try.pinned (OpenSpec.ofChange pickOrdersSpec)

/-- ITS FALSE NEIGHBOUR: 'it returns false'. Refute it at one input. -/
def pickOrdersWrong : ChangeSpec := { name := "pickOrders", fn := fun _ => fun
  | [d1, d2, d3] => { results := [.lit (.bool false)], args := [d1, d2, d3] }
  | _ => none }
def PickOrdersWrongFalsely : Prop := pickOrdersRow.holds Try.pinned (OpenSpec.ofChange pickOrdersWrong)

/-- 'wayfinderlaw08.PickMore': WHATEVER THE INPUT: true; the input reads as it did. -/
def pickMoreSpec : ChangeSpec := { name := "pickMore", fn := fun _ => fun
  | [d1, d2, d3, d4] => { results := [.lit (.bool true)], args := [d1, d2, d3, d4] }
  | _ => none }
def pickMoreRow : OpenClaim := { program := "ytihlhkadmmcgeaa", sum := "cdab34cafb30141d41b105a3aa41fc48ebd71190b043138f1ac7749e2b746983", func := "wayfinder/wayfinderlaw08.PickMore", spec := "pickMore", unfollowed := true, recurses := true, apart := false }
def PickMoreSaid : Prop := pickMoreRow.holds Try.pinned (OpenSpec.ofChange pickMoreSpec)

/-- ITS FALSE NEIGHBOUR: 'it returns false'. Refute it at one input. -/
def pickMoreWrong : ChangeSpec := { name := "pickMore", fn := fun _ => fun
  | [d1, d2, d3, d4] => { results := [.lit (.bool false)], args := [d1, d2, d3, d4] }
  | _ => none }
def PickMoreWrongFalsely : Prop := pickMoreRow.holds Try.pinned (OpenSpec.ofChange pickMoreWrong)

/-- 'wayfinderlaw08.PickOnly': WHATEVER THE INPUT: true; the input reads as it did. -/
def pickOnlySpec : ChangeSpec := { name := "pickOnly", fn := fun _ => fun
  | [d1, d2, d3] => { results := [.lit (.bool true)], args := [d1, d2, d3] }
  | _ => none }
def pickOnlyRow : OpenClaim := { program := "ytihlhkadmmcgeaa", sum := "cdab34cafb30141d41b105a3aa41fc48ebd71190b043138f1ac7749e2b746983", func := "wayfinder/wayfinderlaw08.PickOnly", spec := "pickOnly", unfollowed := true, recurses := true, apart := false }
def PickOnlySaid : Prop := pickOnlyRow.holds Try.pinned (OpenSpec.ofChange pickOnlySpec)

/-- ITS FALSE NEIGHBOUR: 'it returns false'. Refute it at one input. -/
def pickOnlyWrong : ChangeSpec := { name := "pickOnly", fn := fun _ => fun
  | [d1, d2, d3] => { results := [.lit (.bool false)], args := [d1, d2, d3] }
  | _ => none }
def PickOnlyWrongFalsely : Prop := pickOnlyRow.holds Try.pinned (OpenSpec.ofChange pickOnlyWrong)

/-- 'wayfinderlaw08.PickTurned': WHATEVER THE INPUT: true; the input reads as it did. -/
def pickTurnedSpec : ChangeSpec := { name := "pickTurned", fn := fun _ => fun
  | [d1, d2, d3, d4] => { results := [.lit (.bool true)], args := [d1, d2, d3, d4] }
  | _ => none }
def pickTurnedRow : OpenClaim := { program := "ytihlhkadmmcgeaa", sum := "cdab34cafb30141d41b105a3aa41fc48ebd71190b043138f1ac7749e2b746983", func := "wayfinder/wayfinderlaw08.PickTurned", spec := "pickTurned", unfollowed := true, recurses := true, apart := false }
def PickTurnedSaid : Prop := pickTurnedRow.holds Try.pinned (OpenSpec.ofChange pickTurnedSpec)

/-- ITS FALSE NEIGHBOUR: 'it returns false'. Refute it at one input. -/
def pickTurnedWrong : ChangeSpec := { name := "pickTurned", fn := fun _ => fun
  | [d1, d2, d3, d4] => { results := [.lit (.bool false)], args := [d1, d2, d3, d4] }
  | _ => none }
def PickTurnedWrongFalsely : Prop := pickTurnedRow.holds Try.pinned (OpenSpec.ofChange pickTurnedWrong)

/- THE SECOND FORM. 'bulk': how many values and letters a reading holds, each counted each time it is reached (what is shared counts as often as it is met; a slice's spare places count too). A statement '..UptoSaid' is the law's where the arguments, and the package variables that the reading takes, are together of bulk at most 1048576: NARROWER than '..Said'. Prove '..Said' where nothing that the law and all that it calls make is longer than what came in: it says more and counts as full. Else prove '..UptoSaid'. A law counts once. -/
mutual
def uptoBulk {H : Type} : DataW H → Nat
  | .lit (.string bytes) => bytes.length + 1
  | .lit _ => 1
  | .nil => 1
  | .ptr d => uptoBulk d + 1
  | .slice elems spare => uptoBulkAll elems + uptoBulkAll spare + 1
  | .agg parts => uptoBulkAll parts + 1
  | .iface _ d => uptoBulk d + 1
  | .map entries => uptoBulkEntries entries + 1
  | .held _ => 1
def uptoBulkAll {H : Type} : List (DataW H) → Nat
  | [] => 0
  | d :: r => uptoBulk d + uptoBulkAll r
def uptoBulkEntries {H : Type} : List (Lit × DataW H) → Nat
  | [] => 0
  | x :: r => uptoBulkEntry x + uptoBulkEntries r
def uptoBulkEntry {H : Type} : Lit × DataW H → Nat
  | (.string bytes, d) => bytes.length + uptoBulk d + 1
  | (_, d) => uptoBulk d + 1
 end
def uptoSmall : (H : Type) → List (DataW H) → Bool := fun _ ds => decide (uptoBulkAll ds ≤ 1048576)
def OpenSpec.upto (s : _root_.Go.ChangeSpec) : _root_.Go.OpenSpec := { _root_.Go.OpenSpec.ofChange s with cond := some uptoSmall }

/-- 'wayfinderlaw08.PickTells', WHERE WHAT IT READS IS OF BULK AT MOST 1048576: true; the input reads as it did. -/
def pickTellsUptoRow : OpenClaim := { program := "ytihlhkadmmcgeaa", sum := "cdab34cafb30141d41b105a3aa41fc48ebd71190b043138f1ac7749e2b746983", func := "wayfinder/wayfinderlaw08.PickTells", spec := "pickTells", unfollowed := true, recurses := true, apart := false, narrowed := true }
def PickTellsUptoSaid : Prop := pickTellsUptoRow.holds Try.pinned (OpenSpec.upto pickTellsSpec)

/-- 'wayfinderlaw08.PickFits', WHERE WHAT IT READS IS OF BULK AT MOST 1048576: true; the input reads as it did. -/
def pickFitsUptoRow : OpenClaim := { program := "ytihlhkadmmcgeaa", sum := "cdab34cafb30141d41b105a3aa41fc48ebd71190b043138f1ac7749e2b746983", func := "wayfinder/wayfinderlaw08.PickFits", spec := "pickFits", unfollowed := true, recurses := true, apart := false, narrowed := true }
def PickFitsUptoSaid : Prop := pickFitsUptoRow.holds Try.pinned (OpenSpec.upto pickFitsSpec)

/-- 'wayfinderlaw08.PickOrders', WHERE WHAT IT READS IS OF BULK AT MOST 1048576: true; the input reads as it did. -/
def pickOrdersUptoRow : OpenClaim := { program := "ytihlhkadmmcgeaa", sum := "cdab34cafb30141d41b105a3aa41fc48ebd71190b043138f1ac7749e2b746983", func := "wayfinder/wayfinderlaw08.PickOrders", spec := "pickOrders", unfollowed := true, recurses := true, apart := false, narrowed := true }
def PickOrdersUptoSaid : Prop := pickOrdersUptoRow.holds Try.pinned (OpenSpec.upto pickOrdersSpec)

/-- 'wayfinderlaw08.PickMore', WHERE WHAT IT READS IS OF BULK AT MOST 1048576: true; the input reads as it did. -/
def pickMoreUptoRow : OpenClaim := { program := "ytihlhkadmmcgeaa", sum := "cdab34cafb30141d41b105a3aa41fc48ebd71190b043138f1ac7749e2b746983", func := "wayfinder/wayfinderlaw08.PickMore", spec := "pickMore", unfollowed := true, recurses := true, apart := false, narrowed := true }
def PickMoreUptoSaid : Prop := pickMoreUptoRow.holds Try.pinned (OpenSpec.upto pickMoreSpec)

/-- 'wayfinderlaw08.PickOnly', WHERE WHAT IT READS IS OF BULK AT MOST 1048576: true; the input reads as it did. -/
def pickOnlyUptoRow : OpenClaim := { program := "ytihlhkadmmcgeaa", sum := "cdab34cafb30141d41b105a3aa41fc48ebd71190b043138f1ac7749e2b746983", func := "wayfinder/wayfinderlaw08.PickOnly", spec := "pickOnly", unfollowed := true, recurses := true, apart := false, narrowed := true }
def PickOnlyUptoSaid : Prop := pickOnlyUptoRow.holds Try.pinned (OpenSpec.upto pickOnlySpec)

/-- 'wayfinderlaw08.PickTurned', WHERE WHAT IT READS IS OF BULK AT MOST 1048576: true; the input reads as it did. -/
def pickTurnedUptoRow : OpenClaim := { program := "ytihlhkadmmcgeaa", sum := "cdab34cafb30141d41b105a3aa41fc48ebd71190b043138f1ac7749e2b746983", func := "wayfinder/wayfinderlaw08.PickTurned", spec := "pickTurned", unfollowed := true, recurses := true, apart := false, narrowed := true }
def PickTurnedUptoSaid : Prop := pickTurnedUptoRow.holds Try.pinned (OpenSpec.upto pickTurnedSpec)

end Rows
end Go.Proofs.Ytihlhkadmmcgeaa
