/- A slice of the call's own that holds rules: reading one, changing one, two changing places. -/
import Derived.Test.YtlnnkkbcmidddaaSortP
import Derived.Test.YtlnnkkbcmidddaaPickF
import Derived.Test.YtlnnkkbcmidddaaPut
import Derived.Test.YtlnnkkbcmidddaaRegion
namespace Go.Proofs.Ytlnnkkbcmidddaa
open Go.RowKit

section
variable {w : World} {base : Nat} {e : TypeId} {g n c : Nat} {xs : List Rul}
theorem rul_at (h : Own rulF w base e (.slice (some ⟨g, 0, none⟩) n c) xs) {i : Nat} (hi : i < xs.length) :
    w.cell? ⟨g, i * 6, none⟩ = some (.int .i64 xs[i].addr) ∧ w.cell? ⟨g, i * 6 + 1, none⟩ = some (.int .i64 xs[i].len) ∧ w.cell? ⟨g, i * 6 + 2, none⟩ = some (.int .i64 xs[i].inn) ∧
    w.cell? ⟨g, i * 6 + 3, none⟩ = some (.int .i64 xs[i].prio) ∧ w.cell? ⟨g, i * 6 + 4, none⟩ = some (.int .i64 xs[i].kind) ∧ w.cell? ⟨g, i * 6 + 5, none⟩ = some (.int .i64 xs[i].port) :=
  ⟨h.at hi 0 _ rfl, h.at hi 1 _ rfl, h.at hi 2 _ rfl, h.at hi 3 _ rfl, h.at hi 4 _ rfl, h.at hi 5 _ rfl⟩
theorem heapN (W : World) (o : Obj) {i : Nat} (h : i = W.heap.size) : (W.alloc o).heap[i]? = some o := by rw [heap_at, if_pos h]
theorem heapO {W : World} {x : Obj} {i : Nat} (h : W.heap[i]? = some x) (o : Obj) : (W.alloc o).heap[i]? = some x := blk_keep h ((Below.refl _ _).alloc (Nat.le_refl _) o)
/-- A rule's cells stored. -/
def putR (w : World) (g k : Nat) (y : Rul) : World :=
  (((((w.setCell ⟨g, k, none⟩ (.int .i64 y.addr)).setCell ⟨g, k + 1, none⟩ (.int .i64 y.len)).setCell ⟨g, k + 2, none⟩ (.int .i64 y.inn)).setCell ⟨g, k + 3, none⟩ (.int .i64 y.prio)).setCell ⟨g, k + 4, none⟩ (.int .i64 y.kind)).setCell ⟨g, k + 5, none⟩ (.int .i64 y.port)
theorem rul_put (h : Own rulF w base e (.slice (some ⟨g, 0, none⟩) n c) xs) {i : Nat} (hi : i < xs.length) (y : Rul) : Own rulF (putR w g (i * 6) y) base e (.slice (some ⟨g, 0, none⟩) n c) (xs.set i y) := by
  obtain ⟨x, hx⟩ : ∃ x, xs[i] = x := ⟨_, rfl⟩
  obtain ⟨a1, a2, a3, a4, a5, a6⟩ := x
  obtain ⟨b1, b2, b3, b4, b5, b6⟩ := y
  have h1 := h.put hi ⟨b1, a2, a3, a4, a5, a6⟩ 0 (.int .i64 b1) (by decide) (by rw [hx]; rfl)
  have h2 := h1.put (i := i) (by simpa using hi) ⟨b1, b2, a3, a4, a5, a6⟩ 1 (.int .i64 b2) (by decide) (by rw [List.getElem_set_self]; rfl)
  have h3 := h2.put (i := i) (by simpa using hi) ⟨b1, b2, b3, a4, a5, a6⟩ 2 (.int .i64 b3) (by decide) (by rw [List.getElem_set_self]; rfl)
  have h4 := h3.put (i := i) (by simpa using hi) ⟨b1, b2, b3, b4, a5, a6⟩ 3 (.int .i64 b4) (by decide) (by rw [List.getElem_set_self]; rfl)
  have h5 := h4.put (i := i) (by simpa using hi) ⟨b1, b2, b3, b4, b5, a6⟩ 4 (.int .i64 b5) (by decide) (by rw [List.getElem_set_self]; rfl)
  have h6 := h5.put (i := i) (by simpa using hi) ⟨b1, b2, b3, b4, b5, b6⟩ 5 (.int .i64 b6) (by decide) (by rw [List.getElem_set_self]; rfl)
  simp only [List.set_set] at h6
  exact h6
theorem setCell_grown (w : World) (p : Addr) (u : Value) : w.grownBy (w.setCell p u) (some p.block) :=
  ⟨(Below.setCell (Below.refl p.block w) (Nat.le_refl _) u).os, (Below.setCell (Below.refl p.block w) (Nat.le_refl _) u).tape, (Below.setCell (Below.refl p.block w) (Nat.le_refl _) u).output, (Below.setCell (Below.refl p.block w) (Nat.le_refl _) u).size,
    fun k _ hk => Below.heap_setCell w p u k (fun e => hk (by rw [e]))⟩
theorem putR_grown (w : World) (g k : Nat) (y : Rul) : w.grownBy (putR w g k y) (some g) :=
  (((((setCell_grown w ⟨g, k, none⟩ _).trans (setCell_grown _ ⟨g, k + 1, none⟩ _)).trans (setCell_grown _ ⟨g, k + 2, none⟩ _)).trans (setCell_grown _ ⟨g, k + 3, none⟩ _)).trans (setCell_grown _ ⟨g, k + 4, none⟩ _)).trans (setCell_grown _ ⟨g, k + 5, none⟩ _)
/-- The state of a sort in place: the row, and what else there was at its start is as it was. -/
structure Srts (W0 : World) (base : Nat) (e : TypeId) (g n c : Nat) (w : World) (xs : List Rul) : Prop where
  own : Own rulF w base e (.slice (some ⟨g, 0, none⟩) n c) xs
  grown : W0.grownBy w (some g)
variable {W0 w' : World} {ys : List Rul}
theorem Srts.below (h : Srts W0 base e g n c w xs) (hb : Below w.heap.size w w') : Srts W0 base e g n c w' xs := ⟨h.own.below hb, h.grown.trans (grown_of_below hb _)⟩
theorem Srts.call (h : Srts W0 base e g n c w xs) (k : Srts w base e g n c w' ys) : Srts W0 base e g n c w' ys := ⟨k.own, h.grown.trans k.grown⟩
theorem Srts.start (h : Own rulF w base e (.slice (some ⟨g, 0, none⟩) n c) xs) : Srts w base e g n c w xs := ⟨h, grown_of_below (Below.refl _ _) _⟩
theorem Srts.put (h : Srts W0 base e g n c w xs) {i : Nat} (hi : i < xs.length) (y : Rul) : Srts W0 base e g n c (putR w g (i * 6) y) (xs.set i y) := ⟨rul_put h.own hi y, h.grown.trans (putR_grown _ _ _ _)⟩
theorem Srts.swap (h : Srts W0 base e g n c w xs) {i j : Nat} (hi : i < xs.length) (hj : j < xs.length) (x y : Rul) : Srts W0 base e g n c (putR (putR w g (i * 6) y) g (j * 6) x) ((xs.set i y).set j x) := (h.put hi y).put (by simpa using hj) x
theorem Srts.len (h : Srts W0 base e g n c w xs) : n = xs.length := by
  rcases h.own.2 with ⟨h2, -⟩ | ⟨g', cap, cur, hv, _⟩
  · cases h2
  · injection hv
end
end Go.Proofs.Ytlnnkkbcmidddaa
