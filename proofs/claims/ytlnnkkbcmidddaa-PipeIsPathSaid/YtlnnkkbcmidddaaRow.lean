/- What the rows' proofs share: the arguments read behind a call as they did ahead of it. -/
import Derived.Test.YtlnnkkbcmidddaaRows
import Derived.Test.YtlnnkkbcmidddaaOpen
import Derived.ProofKit
import Derived.OpenShut
import Derived.ChangeOld
import Derived.Below
import Derived.SizedLaws
namespace Go.Proofs.Ytlnnkkbcmidddaa
open Go.ChangeShapes Go.WideShapes Go.ChangeAt Go.RowKit

theorem own : ownKnob Try.prog.godebug = none := by kernel_rfl
theorem laidOut : laidOutB Try.prog = true := by kernel_rfl

def rowed (P : Program) (ts : List TypeId) : Prop := ∀ t ∈ ts, P.readableRec t = true ∧ t < P.types.size

theorem trodAll_below {P : Program} (hl : laidOutB P = true) {H : Type} {enc : TypeId × Value → H} {W W' : World} (hb : Below W.heap.size W W') (ts : List TypeId) : ∀ {vs : List Value} {ds : List (DataW H)} {ps : List MemPlace},
    rowed P ts → DataW.TrodAll enc P W 0 (fun _ => true) true ts vs ds ps → DataW.TrodAll enc P W' 0 (fun b => decide (b < W.heap.size)) true ts vs ds ps := by
  induction ts with
  | nil =>
    intro vs ds ps _ h
    obtain ⟨rfl, rfl, rfl⟩ := trodAll_nil h
    exact trodAll_mk0
  | cons t ts ih =>
    intro vs ds ps hr h
    obtain ⟨v, vs, d, ds, p, q, rfl, rfl, rfl, hp, hq⟩ := trodAll_cons h
    have h1 := hr t (List.mem_cons_self ..)
    have lt : ∀ x ∈ p, x.block < W.heap.size := by obtain ⟨m, hm⟩ := hp; exact DataW.trod_lt m _ _ _ hm
    exact trodAll_cons_mk (Below.trod hl h1.1 h1.2 hp hb lt) (ih (fun t ht => hr t (List.mem_cons_of_mem _ ht)) hq)

/-- A law's call has ended well: it told true, and made memory of its own alone. -/
theorem law_post {H : Type} {enc : TypeId × Value → H} {s : ChangeSpec} {fn : Func} {W W' : World} {args : Array Value} {ds gs : List (DataW H)} {before : List MemPlace}
    (hW : DataW.Whole enc Try.prog fn.params.toList s.vars false W args.toList ds gs before) (hA : ∃ p, DataW.TrodAll enc Try.prog W 0 (fun _ => true) true fn.params.toList args.toList ds p) (hg : gs = []) (bel : Below W.heap.size W W')
    (hr : fn.resultTypes = #[4]) (hrow : rowed Try.prog fn.params.toList) (hsv : s.vars = []) (hs : s.fn H ds = { results := [.lit (.bool true)], args := ds }) :
    s.post enc Try.prog fn false true false false W args (.bool true) W' := by
  obtain ⟨p, hA⟩ := hA
  subst hg
  refine ⟨ds, [], before, [], p, [], hW, ?_, ?_, ?_, bel.frame _, fun h => by cases h⟩
  · rw [List.append_nil, hs, hr]
    exact trodAll_mk1 (shut_bool Try.underlying4 true)
  · rw [List.append_nil, hs]
    exact trodAll_below laidOut bel _ hrow hA
  · rw [List.append_nil, hs, hsv]
    rfl
end Go.Proofs.Ytlnnkkbcmidddaa
