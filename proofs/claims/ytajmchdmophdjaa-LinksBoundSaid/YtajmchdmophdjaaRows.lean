/-
  No cell of these rows narrows 'for every input' (looked for: loops, veiled, ifaces, maps, wideKeys, modest, calm, conditions, laid).
  DERIVED. THE GIVEN ROWS OF THIS SEAT. 4 by the template 'for every input the law returns true; each argument reads behind the call as it read before'; 0 by the template 'total and deterministic' (their statements: YtajmchdmophdjaaTotals.lean).
  GIVEN WITH THE SEED: the statements are not yours to turn. If you find one false, say at which input.
  Laid BY PROGRAM, IN A SANDBOX (cutbox-rows.mjs): the forced cells as the released guide's own fill.sh prints them over the translation 64e2c1d67d24861b… (all of the seat's roots in one cut). By AI agents, Wed Nov 11 2026. No macro, syntax, notation, axiom, sorry.
-/
import Derived.Test.YtajmchdmophdjaaChecked
import GoSem.Claim
import GoSem.ClaimJoined
import GoSem.ClaimMapViews
import Derived.JoinedTies
import Derived.KernelRfl
namespace Go.Proofs.Ytajmchdmophdjaa
/- THE CELL 'sum', in the pinned program and in every row, IS THE sha256 OF THE DUMP (.gsa) THAT YtajmchdmophdjaaProg.lean LOADS. Nothing in Lean hashes anything: it is a label: what it is worth is what the hold of that sum in a sandbox is worth. -/
noncomputable def Try.pinned : Pinned := { name := "ytajmchdmophdjaa", sum := "64e2c1d67d24861b056f5a1f4b9bceba9041c015c67d12f40f446f15b770cc92", checked := Try.checked }
namespace Rows
def none {H : Type} : Left H := { results := [], args := [] }

/-- 'wayfinderlaw19.LinksTell': WHATEVER THE INPUT: true; the input reads as it did. -/
def linksTellSpec : ChangeSpec := { name := "linksTell", fn := fun _ => fun
  | [d1, d2, d3, d4] => { results := [.lit (.bool true)], args := [d1, d2, d3, d4] }
  | _ => none }
def linksTellRow : OpenClaim := { program := "ytajmchdmophdjaa", sum := "64e2c1d67d24861b056f5a1f4b9bceba9041c015c67d12f40f446f15b770cc92", func := "wayfinder/wayfinderlaw19.LinksTell", spec := "linksTell", unfollowed := true, recurses := true, plainKeys := false, apart := false }
def LinksTellSaid : Prop := linksTellRow.holds Try.pinned (OpenSpec.ofChange linksTellSpec)

/-- ITS FALSE NEIGHBOUR: 'it returns false'. Refute it at one input. -/
def linksTellWrong : ChangeSpec := { name := "linksTell", fn := fun _ => fun
  | [d1, d2, d3, d4] => { results := [.lit (.bool false)], args := [d1, d2, d3, d4] }
  | _ => none }
def LinksTellWrongFalsely : Prop := linksTellRow.holds Try.pinned (OpenSpec.ofChange linksTellWrong)

/-- 'wayfinderlaw19.LinksBound': WHATEVER THE INPUT: true; the input reads as it did. -/
def linksBoundSpec : ChangeSpec := { name := "linksBound", fn := fun _ => fun
  | [d1, d2, d3, d4] => { results := [.lit (.bool true)], args := [d1, d2, d3, d4] }
  | _ => none }
def linksBoundRow : OpenClaim := { program := "ytajmchdmophdjaa", sum := "64e2c1d67d24861b056f5a1f4b9bceba9041c015c67d12f40f446f15b770cc92", func := "wayfinder/wayfinderlaw19.LinksBound", spec := "linksBound", unfollowed := true, recurses := true, plainKeys := false, apart := false }
def LinksBoundSaid : Prop := linksBoundRow.holds Try.pinned (OpenSpec.ofChange linksBoundSpec)

/-- ITS FALSE NEIGHBOUR: 'it returns false'. Refute it at one input. -/
def linksBoundWrong : ChangeSpec := { name := "linksBound", fn := fun _ => fun
  | [d1, d2, d3, d4] => { results := [.lit (.bool false)], args := [d1, d2, d3, d4] }
  | _ => none }
def LinksBoundWrongFalsely : Prop := linksBoundRow.holds Try.pinned (OpenSpec.ofChange linksBoundWrong)

/-- 'wayfinderlaw19.LinksFew': WHATEVER THE INPUT: true; the input reads as it did. -/
def linksFewSpec : ChangeSpec := { name := "linksFew", fn := fun _ => fun
  | [d1, d2, d3, d4] => { results := [.lit (.bool true)], args := [d1, d2, d3, d4] }
  | _ => none }
def linksFewRow : OpenClaim := { program := "ytajmchdmophdjaa", sum := "64e2c1d67d24861b056f5a1f4b9bceba9041c015c67d12f40f446f15b770cc92", func := "wayfinder/wayfinderlaw19.LinksFew", spec := "linksFew", unfollowed := true, recurses := true, plainKeys := false, apart := false }
def LinksFewSaid : Prop := linksFewRow.holds Try.pinned (OpenSpec.ofChange linksFewSpec)

/-- ITS FALSE NEIGHBOUR: 'it returns false'. Refute it at one input. -/
def linksFewWrong : ChangeSpec := { name := "linksFew", fn := fun _ => fun
  | [d1, d2, d3, d4] => { results := [.lit (.bool false)], args := [d1, d2, d3, d4] }
  | _ => none }
def LinksFewWrongFalsely : Prop := linksFewRow.holds Try.pinned (OpenSpec.ofChange linksFewWrong)

/-- 'wayfinderlaw19.LinksGone': WHATEVER THE INPUT: true; the input reads as it did. -/
def linksGoneSpec : ChangeSpec := { name := "linksGone", fn := fun _ => fun
  | [d1, d2, d3, d4, d5] => { results := [.lit (.bool true)], args := [d1, d2, d3, d4, d5] }
  | _ => none }
def linksGoneRow : OpenClaim := { program := "ytajmchdmophdjaa", sum := "64e2c1d67d24861b056f5a1f4b9bceba9041c015c67d12f40f446f15b770cc92", func := "wayfinder/wayfinderlaw19.LinksGone", spec := "linksGone", unfollowed := true, recurses := true, plainKeys := false, apart := false }
def LinksGoneSaid : Prop := linksGoneRow.holds Try.pinned (OpenSpec.ofChange linksGoneSpec)

/-- ITS FALSE NEIGHBOUR: 'it returns false'. Refute it at one input. -/
def linksGoneWrong : ChangeSpec := { name := "linksGone", fn := fun _ => fun
  | [d1, d2, d3, d4, d5] => { results := [.lit (.bool false)], args := [d1, d2, d3, d4, d5] }
  | _ => none }
def LinksGoneWrongFalsely : Prop := linksGoneRow.holds Try.pinned (OpenSpec.ofChange linksGoneWrong)

/- THE SECOND FORM. 'bulk': how many values and letters a reading holds, each counted each time it is reached (what is shared counts as often as it is met; a slice's spare places count too). A statement '..UptoSaid' is the law's where the arguments, and the package variables that the reading takes, are together of bulk at most 1048576: NARROWER than '..Said'. Prove '..Said' where nothing that the law and all that it calls make is longer than what came in: it says more and counts as full. Else prove '..UptoSaid'. A law counts once. -/
mutual
def uptoBulk {H : Type} : DataW H → Nat
  | .lit (.string bytes) => bytes.length + 1
  | .lit _ => 1
  | .nil => 1
  | .ptr d => uptoBulk d + 1
  | .slice elems spare => uptoBulkAll elems + uptoBulkAll spare + 1
  | .agg parts => uptoBulkAll parts + 1
  | .iface _ d => uptoBulk d + 1
  | .map entries => uptoBulkEntries entries + 1
  | .held _ => 1
def uptoBulkAll {H : Type} : List (DataW H) → Nat
  | [] => 0
  | d :: r => uptoBulk d + uptoBulkAll r
def uptoBulkEntries {H : Type} : List (Lit × DataW H) → Nat
  | [] => 0
  | x :: r => uptoBulkEntry x + uptoBulkEntries r
def uptoBulkEntry {H : Type} : Lit × DataW H → Nat
  | (.string bytes, d) => bytes.length + uptoBulk d + 1
  | (_, d) => uptoBulk d + 1
 end
def uptoSmall : (H : Type) → List (DataW H) → Bool := fun _ ds => decide (uptoBulkAll ds ≤ 1048576)
def OpenSpec.upto (s : _root_.Go.ChangeSpec) : _root_.Go.OpenSpec := { _root_.Go.OpenSpec.ofChange s with cond := some uptoSmall }

/-- 'wayfinderlaw19.LinksTell', WHERE WHAT IT READS IS OF BULK AT MOST 1048576: true; the input reads as it did. -/
def linksTellUptoRow : OpenClaim := { program := "ytajmchdmophdjaa", sum := "64e2c1d67d24861b056f5a1f4b9bceba9041c015c67d12f40f446f15b770cc92", func := "wayfinder/wayfinderlaw19.LinksTell", spec := "linksTell", unfollowed := true, recurses := true, plainKeys := false, apart := false, narrowed := true }
def LinksTellUptoSaid : Prop := linksTellUptoRow.holds Try.pinned (OpenSpec.upto linksTellSpec)

/-- 'wayfinderlaw19.LinksBound', WHERE WHAT IT READS IS OF BULK AT MOST 1048576: true; the input reads as it did. -/
def linksBoundUptoRow : OpenClaim := { program := "ytajmchdmophdjaa", sum := "64e2c1d67d24861b056f5a1f4b9bceba9041c015c67d12f40f446f15b770cc92", func := "wayfinder/wayfinderlaw19.LinksBound", spec := "linksBound", unfollowed := true, recurses := true, plainKeys := false, apart := false, narrowed := true }
def LinksBoundUptoSaid : Prop := linksBoundUptoRow.holds Try.pinned (OpenSpec.upto linksBoundSpec)

/-- 'wayfinderlaw19.LinksFew', WHERE WHAT IT READS IS OF BULK AT MOST 1048576: true; the input reads as it did. -/
def linksFewUptoRow : OpenClaim := { program := "ytajmchdmophdjaa", sum := "64e2c1d67d24861b056f5a1f4b9bceba9041c015c67d12f40f446f15b770cc92", func := "wayfinder/wayfinderlaw19.LinksFew", spec := "linksFew", unfollowed := true, recurses := true, plainKeys := false, apart := false, narrowed := true }
def LinksFewUptoSaid : Prop := linksFewUptoRow.holds Try.pinned (OpenSpec.upto linksFewSpec)

/-- 'wayfinderlaw19.LinksGone', WHERE WHAT IT READS IS OF BULK AT MOST 1048576: true; the input reads as it did. -/
def linksGoneUptoRow : OpenClaim := { program := "ytajmchdmophdjaa", sum := "64e2c1d67d24861b056f5a1f4b9bceba9041c015c67d12f40f446f15b770cc92", func := "wayfinder/wayfinderlaw19.LinksGone", spec := "linksGone", unfollowed := true, recurses := true, plainKeys := false, apart := false, narrowed := true }
def LinksGoneUptoSaid : Prop := linksGoneUptoRow.holds Try.pinned (OpenSpec.upto linksGoneSpec)

end Rows
end Go.Proofs.Ytajmchdmophdjaa
