/- A packet's walk in plain Lean. -/
import Derived.Test.YtlnnkkbcmidddaaPathP
namespace Go.Proofs.Ytlnnkkbcmidddaa

def walkN (s p : Int) (ls : List Lnk) (cs : List (List Rul)) : Nat → Fly → List Hop
  | 0, f => [(stepP s p ls cs f).1]
  | n + 1, f => if (stepP s p ls cs f).1.what = 0 then (stepP s p ls cs f).1 :: walkN s p ls cs n (stepP s p ls cs f).2 else [(stepP s p ls cs f).1]
def walkP (s p : Int) (ls : List Lnk) (cs : List (List Rul)) (f : Fly) : List Hop := walkN s p ls cs f.ttl.toNat f
theorem step_went {s p : Int} {ls : List Lnk} {cs : List (List Rul)} {f : Fly} (h : (stepP s p ls cs f).1.what = 0) : 1 ≤ f.ttl ∧ (stepP s p ls cs f).2.ttl = f.ttl - 1 := by
  unfold stepP at *
  split at h
  · simp [hopAt] at h
  · rename_i ht
    refine ⟨by omega, ?_⟩
    rw [if_neg ht]
    split at h
    · simp [hopAt] at h
    · rename_i j hj
      split at h
      · simp [hopAt] at h
      · rename_i r hr
        split at h
        · simp [hopAt] at h
        · rename_i hk
          split at h
          · rename_i hf
            simp only [hr, if_neg hk, if_pos hf]
          · simp [hopAt] at h
theorem walkP_step (s p : Int) (ls : List Lnk) (cs : List (List Rul)) (f : Fly) : walkP s p ls cs f = if (stepP s p ls cs f).1.what = 0 then (stepP s p ls cs f).1 :: walkP s p ls cs (stepP s p ls cs f).2 else [(stepP s p ls cs f).1] := by
  unfold walkP
  by_cases h : (stepP s p ls cs f).1.what = 0
  · obtain ⟨h1, h2⟩ := step_went h
    rw [if_pos h, h2]
    obtain ⟨n, hn⟩ : ∃ n : Nat, f.ttl.toNat = n + 1 := ⟨f.ttl.toNat - 1, by omega⟩
    rw [hn, walkN, if_pos h, show (f.ttl - 1).toNat = n by omega]
  · rw [if_neg h]
    cases f.ttl.toNat with
    | zero => rfl
    | succ n => rw [walkN, if_neg h]
theorem walkN_len (s p : Int) (ls : List Lnk) (cs : List (List Rul)) : ∀ (n : Nat) (f : Fly), (walkN s p ls cs n f).length ≤ n + 1
  | 0, f => by simp [walkN]
  | n + 1, f => by
    rw [walkN]
    split
    · have := walkN_len s p ls cs n (stepP s p ls cs f).2
      simp; omega
    · simp
def cap16 (f : Fly) : Fly := { f with ttl := min f.ttl 16 }
end Go.Proofs.Ytlnnkkbcmidddaa
