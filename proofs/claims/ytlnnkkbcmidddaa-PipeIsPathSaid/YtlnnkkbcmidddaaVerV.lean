/- A table's reading, and the walk through Few of layer 9. -/
import Derived.Test.YtlnnkkbcmidddaaConfA
namespace Go.Proofs.Ytlnnkkbcmidddaa
open Go.RowKit
set_option maxRecDepth 100000
structure Vr where
  tag : Int
  l : List Rul
/-- A version: its tag; its rules. -/
def verD : Kd Vr where
  sz := 2
  K w S x cs := ∃ A c, cs = [.int .i64 x.tag, .slice A x.l.length c] ∧ x.l.length ≤ c ∧ (A = none → c = 0) ∧ Row rulD w S A x.l.length x.l
  len h := by obtain ⟨A, c, rfl, _⟩ := h; rfl
  one h := by
    obtain ⟨A, c, rfl, _⟩ := h
    intro u hu
    simp at hu
    rcases hu with rfl | rfl <;> rfl
  keep h hw := by
    obtain ⟨A, c, e, hc, hn, h⟩ := h
    exact ⟨A, c, e, hc, hn, h.keep hw⟩
  mono h hS := by
    obtain ⟨A, c, e, hc, hn, h⟩ := h
    exact ⟨A, c, e, hc, hn, h.mono hS⟩
/-- A version's cells, and that its rules may be read. -/
theorem ver_cell {vs : List Vr} {A : Option Addr} {k : Nat} {w W : World} (hc : Rd verD w A vs.length vs) (hb : Below w.heap.size w W) (h : k < vs.length) :
    ∃ b o A' n', A = some ⟨b, o, none⟩ ∧ b < w.heap.size ∧ W.cell? ⟨b, o + k * 2, none⟩ = some (.int .i64 vs[k].tag) ∧ W.cell? ⟨b, o + k * 2 + 1, none⟩ = some (.slice A' vs[k].l.length n') ∧ vs[k].l.length ≤ n' ∧ (A' = none → n' = 0) ∧ Rd rulD w A' vs[k].l.length vs[k].l := by
  obtain ⟨b, o, cs, e, hbl, ⟨A', n', rfl, h1, h2, h3⟩, hcell⟩ := Row.at hc k h
  exact ⟨b, o, A', n', e, hbl, (hb.cell hbl).trans (hcell 0 _ rfl), (hb.cell hbl).trans (hcell 1 _ rfl), h1, h2, h3⟩
def fewV (vs : List Vr) : Bool := decide (vs.length ≤ 20) && vs.all fun v => decide (v.l.length ≤ 60)
theorem fewV_small {vs : List Vr} (h : fewV vs = true) : ∀ v ∈ vs, v.l.length * 48 ≤ 140737488355328 := fun v hv => by
  unfold fewV at h
  simp at h
  have := h.2 v hv
  omega
theorem fewV_drop {c : List Vr} {k : Nat} (h : k < c.length) : ((c.drop k).all fun v => decide (v.l.length ≤ 60)) = (decide (c[k].l.length ≤ 60) && (c.drop (k + 1)).all fun v => decide (v.l.length ≤ 60)) := by
  rw [List.drop_eq_getElem_cons h]; rfl
end Go.Proofs.Ytlnnkkbcmidddaa
