/- The walk through the document's First. -/
import Derived.Test.YtlnnkkbcmidddaaPickF
namespace Go.Proofs.Ytlnnkkbcmidddaa
open Go.RowKit
set_option maxRecDepth 100000

def pfrB (r q : Rul) (l : List Rul) (b o c : Nat) (j k : Nat) (w : World) (w' : World) : Prop :=
  Below w.heap.size w w'
def pfrF (r q : Rul) (l : List Rul) (b o c : Nat) (j k : Nat) (w : World) : List (Value → Value → World → Prop) :=
  [fun _ v _ => v = .slice (some ⟨b, o, none⟩) l.length c,
   fun _ v _ => v = .int .i64 k,
   fun _ v _ => v = .pointer (some ⟨b, o + k * 6, none⟩),
   fun _ v _ => v = rulV r,
   fun _ v _ => v = .slice (some ⟨b, o, none⟩) l.length c,
   fun _ v _ => v = .int .i64 j,
   fun _ v _ => v = .pointer (some ⟨b, o + j * 6, none⟩),
   fun _ v _ => v = rulV q,
   fun _ v _ => v = .bool (aheadI r q),
   fun _ v _ => v = .bool (aheadI r q)]
def pfrQ : Nat → Nat := fun i => i
theorem pfrF_stay (r q : Rul) (l : List Rul) (b o c : Nat) (j k : Nat) (w : World) : AllStay (pfrF r q l b o c j k w) := by
  intro F hF u v w' w'' hb h
  simp only [pfrF, List.mem_cons, List.not_mem_nil, or_false] at hF
  rcases hF with rfl | rfl | rfl | rfl | rfl | rfl | rfl | rfl | rfl | rfl
  · exact h
  · exact h
  · exact h
  · exact h
  · exact h
  · exact h
  · exact h
  · exact h
  · exact h
  · exact h
theorem pfrB_stay (r q : Rul) (l : List Rul) (b o c : Nat) (j k : Nat) (w : World) : Stays (pfrB r q l b o c j k w) := by
  intro w' w'' hb h
  exact below_call h hb

end Go.Proofs.Ytlnnkkbcmidddaa
