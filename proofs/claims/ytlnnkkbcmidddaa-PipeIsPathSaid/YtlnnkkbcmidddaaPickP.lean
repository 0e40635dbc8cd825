/- Layer 8 in plain Lean: which rule counts. -/
import Derived.Test.YtlnnkkbcmidddaaBitsP
namespace Go.Proofs.Ytlnnkkbcmidddaa

/-- Whether rule i takes best's place. -/
def takes (inn dst : Int) (l : List Rul) (best : Option Nat) (r : Rul) : Bool := fitsI r inn dst && (match best.bind (l[·]?) with | none => true | some q => aheadI r q)
def bestN (inn dst : Int) (l : List Rul) : Nat → Option Nat
  | 0 => none
  | k + 1 => match l[k]? with
    | none => bestN inn dst l k
    | some r => if takes inn dst l (bestN inn dst l k) r = true then some k else bestN inn dst l k
def numI : Option Nat → Int
  | none => -1
  | some j => j
def firstI (inn dst : Int) (l : List Rul) : Int := numI (bestN inn dst l l.length)
theorem bestN_lt {inn dst : Int} {l : List Rul} : ∀ {k j : Nat}, bestN inn dst l k = some j → j < k ∧ j < l.length
  | 0, j, h => by cases h
  | k + 1, j, h => by
    unfold bestN at h
    cases hk : l[k]? with
    | none =>
      rw [hk] at h
      have := bestN_lt h
      omega
    | some r =>
      rw [hk] at h
      simp only at h
      split at h
      · cases h
        exact ⟨by omega, (List.getElem?_eq_some_iff.1 hk).1⟩
      · have := bestN_lt h
        omega
theorem bestN_succ {inn dst : Int} {l : List Rul} {k : Nat} (h : k < l.length) : bestN inn dst l (k + 1) = if takes inn dst l (bestN inn dst l k) l[k] = true then some k else bestN inn dst l k := by
  rw [bestN, List.getElem?_eq_getElem h]
theorem takes_none {inn dst : Int} {l : List Rul} {r : Rul} : takes inn dst l none r = fitsI r inn dst := by simp [takes]
theorem takes_some {inn dst : Int} {l : List Rul} {r : Rul} {j : Nat} (h : j < l.length) : takes inn dst l (some j) r = (fitsI r inn dst && aheadI r l[j]) := by simp [takes, h]
end Go.Proofs.Ytlnnkkbcmidddaa
