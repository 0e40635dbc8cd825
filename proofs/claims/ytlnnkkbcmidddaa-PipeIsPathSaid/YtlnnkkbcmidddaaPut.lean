/- Stores into a slice of the call's own, said of lists; for every program. -/
import Derived.Test.YtlnnkkbcmidddaaAppend
namespace Go.Proofs.Ytlnnkkbcmidddaa
open Go.RowKit

theorem ownsRow_set {w : World} {base : Nat} {e : TypeId} {sz g n c : Nat} {cells : List Value} (h : w.ownsRow base e sz (.slice (some ⟨g, 0, none⟩) n c) n cells) {m : Nat} (hm : m < cells.length) (u : Value) :
    (w.setCell ⟨g, m, none⟩ u).ownsRow base e sz (.slice (some ⟨g, 0, none⟩) n c) n (cells.set m u) := by
  obtain ⟨h1, h2⟩ := h
  rcases h2 with ⟨h2, -⟩ | ⟨g', cap, cur, hv, hb, hh, hc, hcm, hcs, htake⟩
  · cases h2
  · cases hv
    refine ⟨by simpa using h1, .inr ⟨g, c, cur.setIfInBounds m u, rfl, hb, blk_set hh m u, hc, hcm, by simpa using hcs, ?_⟩⟩
    rw [Array.toList_setIfInBounds, List.take_set, htake]
theorem flat_set {α : Type} (f : Flat α) : ∀ (xs : List α) (i : Nat) (hi : i < xs.length) (y : α) (j : Nat) (u : Value), j < f.sz → f.enc y = (f.enc xs[i]).set j u → (xs.set i y).flatMap f.enc = (xs.flatMap f.enc).set (i * f.sz + j) u
  | [], i, hi, _, _, _, _, _ => by simp at hi
  | x :: xs, 0, _, y, j, u, hj, he => by
    rw [List.set_cons_zero, List.flatMap_cons, List.flatMap_cons, Nat.zero_mul, Nat.zero_add, List.set_append_left _ _ (by rw [f.len]; exact hj)]
    rw [he]; rfl
  | x :: xs, i + 1, hi, y, j, u, hj, he => by
    rw [List.set_cons_succ, List.flatMap_cons, List.flatMap_cons, List.set_append_right _ _ (by rw [f.len, Nat.add_mul]; omega), f.len]
    rw [flat_set f xs i (by simpa using hi) y j u hj (by simpa using he)]
    congr 2
    rw [Nat.add_mul]; omega
section
variable {α : Type} {f : Flat α} {w : World} {base : Nat} {e : TypeId} {g n c : Nat} {xs : List α}
theorem Own.put (h : Own f w base e (.slice (some ⟨g, 0, none⟩) n c) xs) {i : Nat} (hi : i < xs.length) (y : α) (j : Nat) (u : Value) (hj : j < f.sz) (he : f.enc y = (f.enc xs[i]).set j u) :
    Own f (w.setCell ⟨g, i * f.sz + j, none⟩ u) base e (.slice (some ⟨g, 0, none⟩) n c) (xs.set i y) := by
  have hn : n = xs.length := by
    rcases h.2 with ⟨h2, -⟩ | ⟨g', cap, cur, hv, _⟩
    · cases h2
    · injection hv
  subst hn
  have hlen := h.1
  unfold Own
  rw [List.length_set, flat_set f xs i hi y j u hj he]
  refine ownsRow_set h ?_ u
  rw [hlen]
  have := Nat.mul_le_mul_right f.sz (show i + 1 ≤ xs.length from hi)
  rw [Nat.add_mul] at this
  omega
theorem Own.frozen (h : Own f w base e (.slice (some ⟨g, 0, none⟩) n c) xs) (o : Nat) : w.frozen? ⟨g, o, none⟩ = false := by
  rcases h.2 with ⟨h2, -⟩ | ⟨g', cap, cur, hv, hb, hh, _⟩
  · cases h2
  · cases hv
    exact blk_frozen hh o
theorem Own.addr {v : Value} (h : Own f w base e v xs) (hx : 0 < xs.length) : ∃ g c, v = .slice (Option.some ⟨g, 0, none⟩) xs.length c ∧ base ≤ g ∧ g < w.heap.size ∧ xs.length ≤ c := by
  rcases h.2 with ⟨_, hn⟩ | ⟨g, cap, cur, hv, hb, hh, hc, _⟩
  · omega
  · exact ⟨g, cap, hv, hb, blk_lt hh, hc⟩
/-- Element i, cell by cell. -/
theorem Own.at (h : Own f w base e (.slice (some ⟨g, 0, none⟩) n c) xs) {i : Nat} (hi : i < xs.length) (j : Nat) (u : Value) (hu : (f.enc xs[i])[j]? = some u) : w.cell? ⟨g, i * f.sz + j, none⟩ = some u := by
  rcases h.2 with ⟨h2, -⟩ | ⟨g', cap, cur, hv, hb, hh, hc, hcm, hcs, htake⟩
  · cases h2
  · cases hv
    have h1 := f.at_all xs i _ (List.getElem?_eq_getElem hi) j u hu
    rw [← htake, List.getElem?_take] at h1
    split at h1
    · rw [blk_cell hh]; simpa using h1
    · cases h1
end
end Go.Proofs.Ytlnnkkbcmidddaa
