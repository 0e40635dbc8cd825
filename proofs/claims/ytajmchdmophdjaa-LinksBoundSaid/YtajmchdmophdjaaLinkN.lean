/- How many packets went on, and how many were told of, of the first ones, in plain Lean. -/
import Derived.Test.YtajmchdmophdjaaLinkQ
namespace Go.Proofs.Ytajmchdmophdjaa
/-- How many went on, and how many were told of, of the first j packets. -/
def nAt (s p : Int) (ls : List Lnk) (sws : List Swt) (fs : List Fly) (tick : Int) (j : Nat) : Nat := (linksP s p ls sws (fs.take j) tick).1.length
def kAt (s p : Int) (ls : List Lnk) (sws : List Swt) (fs : List Fly) (tick : Int) (j : Nat) : Nat := (linksP s p ls sws (fs.take j) tick).2.length
section
variable {s p : Int} {ls : List Lnk} {sws : List Swt} {fs : List Fly} {tick : Int} {j : Nat}
theorem at_le (hj : j ≤ fs.length) : nAt s p ls sws fs tick j ≤ fs.length ∧ kAt s p ls sws fs tick j ≤ fs.length := by
  have := linksP_len (s := s) (p := p) (ls := ls) (sws := sws) (tick := tick) (fs.take j)
  rw [List.length_take] at this
  unfold nAt kAt
  omega
theorem at_none (hj : j < fs.length) (h : swAt sws fs[j].sw = none) : nAt s p ls sws fs tick (j + 1) = nAt s p ls sws fs tick j ∧ kAt s p ls sws fs tick (j + 1) = kAt s p ls sws fs tick j := by
  unfold nAt kAt
  rw [List.take_succ_eq_append_getElem hj, linksP_snoc, linkStep_none h]
  exact ⟨rfl, rfl⟩
theorem at_some (hj : j < fs.length) {sw : Swt} (h : swAt sws fs[j].sw = some sw) : ∃ y, (linksP s p ls sws fs tick).2[kAt s p ls sws fs tick j]? = some y ∧ kAt s p ls sws fs tick (j + 1) = kAt s p ls sws fs tick j + 1 ∧
    y.id = fs[j].id ∧ y.sw = fs[j].sw ∧ y.inn = fs[j].inn ∧ y.tick = tick ∧ carried ((linksP s p ls sws fs tick).2.take (kAt s p ls sws fs tick j + 1)) y.sw y.out ≤ 4 ∧
    ((y.what = 0 ∧ nAt s p ls sws fs tick (j + 1) = nAt s p ls sws fs tick j + 1 ∧ ∃ z, (linksP s p ls sws fs tick).1[nAt s p ls sws fs tick j]? = some z ∧ z.id = fs[j].id ∧ z.ttl = fs[j].ttl - 1 ∧ 1 ≤ fs[j].ttl) ∨
      (y.what ≠ 0 ∧ nAt s p ls sws fs tick (j + 1) = nAt s p ls sws fs tick j)) := by
  obtain ⟨y, h2, a1, a2, a3, a4, h1⟩ := linkStep_at (s := s) (p := p) (ls := ls) (tick := tick) h (linksP s p ls sws (fs.take j) tick)
  obtain ⟨t, u, e⟩ := linksP_pre (s := s) (p := p) (ls := ls) (sws := sws) (tick := tick) fs (j + 1)
  have hc := carried_four (s := s) (p := p) (ls := ls) (sws := sws) (tick := tick) (fs.take (j + 1)) y.sw y.out
  have hs : linksP s p ls sws (fs.take (j + 1)) tick = linkStep s p ls sws tick (linksP s p ls sws (fs.take j) tick) fs[j] := by rw [List.take_succ_eq_append_getElem hj, linksP_snoc]
  unfold nAt kAt
  rw [e, hs, h2]
  rw [hs, h2] at hc
  refine ⟨y, by simp, by simp, a1, a2, a3, a4, ?_, ?_⟩
  · dsimp only
    rw [List.take_append_of_le_length (by simp), List.take_of_length_le (by simp)]
    exact hc
  · rcases h1 with ⟨hw, -, z, h1, b1, b2, b3⟩ | ⟨hw, h1⟩
    · rw [h1]
      exact .inl ⟨hw, by simp, z, by simp, b1, b2, b3⟩
    · rw [h1]
      exact .inr ⟨hw, rfl⟩
theorem at_end : nAt s p ls sws fs tick fs.length = (linksP s p ls sws fs tick).1.length ∧ kAt s p ls sws fs tick fs.length = (linksP s p ls sws fs tick).2.length := by
  unfold nAt kAt
  rw [List.take_length]
  exact ⟨rfl, rfl⟩
end
end Go.Proofs.Ytajmchdmophdjaa
