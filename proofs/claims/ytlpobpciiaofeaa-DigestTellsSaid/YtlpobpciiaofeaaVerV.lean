/- A table's reading, and the walk through Few of layer 9. -/
import Derived.Test.YtlpobpciiaofeaaConfA
namespace Go.Proofs.Ytlpobpciiaofeaa
open Go.RowKit
set_option maxRecDepth 100000
structure Vr where
  tag : Int
  l : List Rul
/-- A version: its tag; its rules. -/
def verD : Kd Vr where
  sz := 2
  K w S x cs := ∃ A c, cs = [.int .i64 x.tag, .slice A x.l.length c] ∧ x.l.length ≤ c ∧ (A = none → c = 0) ∧ Row rulD w S A x.l.length x.l
  len h := by obtain ⟨A, c, rfl, _⟩ := h; rfl
  one h := by
    obtain ⟨A, c, rfl, _⟩ := h
    intro u hu
    simp at hu
    rcases hu with rfl | rfl <;> rfl
  keep h hw := by
    obtain ⟨A, c, e, hc, hn, h⟩ := h
    exact ⟨A, c, e, hc, hn, h.keep hw⟩
  mono h hS := by
    obtain ⟨A, c, e, hc, hn, h⟩ := h
    exact ⟨A, c, e, hc, hn, h.mono hS⟩
/-- A version's cells, and that its rules may be read. -/
theorem ver_cell {vs : List Vr} {A : Option Addr} {k : Nat} {w W : World} (hc : Rd verD w A vs.length vs) (hb : Below w.heap.size w W) (h : k < vs.length) :
    ∃ b o A' n', A = some ⟨b, o, none⟩ ∧ b < w.heap.size ∧ W.cell? ⟨b, o + k * 2, none⟩ = some (.int .i64 vs[k].tag) ∧ W.cell? ⟨b, o + k * 2 + 1, none⟩ = some (.slice A' vs[k].l.length n') ∧ vs[k].l.length ≤ n' ∧ (A' = none → n' = 0) ∧ Rd rulD w A' vs[k].l.length vs[k].l := by
  obtain ⟨b, o, cs, e, hbl, ⟨A', n', rfl, h1, h2, h3⟩, hcell⟩ := Row.at hc k h
  exact ⟨b, o, A', n', e, hbl, (hb.cell hbl).trans (hcell 0 _ rfl), (hb.cell hbl).trans (hcell 1 _ rfl), h1, h2, h3⟩
def fewV (vs : List Vr) : Bool := decide (vs.length ≤ 20) && vs.all fun v => decide (v.l.length ≤ 60)
theorem fewV_small {vs : List Vr} (h : fewV vs = true) : ∀ v ∈ vs, v.l.length * 48 ≤ 140737488355328 := fun v hv => by
  unfold fewV at h
  simp at h
  have := h.2 v hv
  omega
theorem fewV_drop {c : List Vr} {k : Nat} (h : k < c.length) : ((c.drop k).all fun v => decide (v.l.length ≤ 60)) = (decide (c[k].l.length ≤ 60) && (c.drop (k + 1)).all fun v => decide (v.l.length ≤ 60)) := by
  rw [List.drop_eq_getElem_cons h]; rfl
theorem fewV_any (vs : List Vr) (A : Option Addr) (c : Nat) (w : World) (hc : Rd verD w A vs.length vs) :
    Calls Try.prog 24 #[.slice A vs.length c] w fun e w' => e = .returned (.bool (fewV vs)) ∧ w' = w := by
  have HC := Aside.mk hc
  have hmx := hc.max
  clear hc
  by_cases h10 : vs.length ≤ 20
  · have d0 : decide ((20 : Int) < (vs.length : Int)) = false := decide_eq_false (by omega)
    have HF := Aside.mk (show fewV vs = vs.all fun v => decide (v.l.length ≤ 60) by unfold fewV; rw [decide_eq_true h10]; rfl)
    go_enter Try.func24, Try.ntmps24
    go_wp2
    go_loop [3] (fun i => ∃ k : Nat, k ≤ vs.length ∧ i = .int .i64 k ∧ ((vs.drop k).all fun v => decide (v.l.length ≤ 60)) = vs.all fun v => decide (v.l.length ≤ 60)) (fun i => vs.length - (intOf i).toNat)
    case atStart => exact ⟨0, Nat.zero_le _, rfl, rfl⟩
    case round =>
      obtain ⟨k, hk, rfl, hs⟩ := hrel
      have HS := Aside.mk hs
      clear hs
      by_cases hlt : k < vs.length
      · obtain ⟨b, o, A', n', rfl, hbl, -, hcell, -, -, -⟩ := ver_cell HC.out (Below.refl _ w) hlt
        have hd := Aside.mk (fewV_drop hlt)
        generalize vs[k] = l at *
        go_wp2
        all_goals first
          | (go_ret
             refine ⟨ret_bool ?_, rfl⟩
             rw [HF.out, ← HS.out, hd.out, decide_eq_false (by omega)]
             rfl)
          | exact ⟨⟨k + 1, by omega, by go_num, by rw [← HS.out, hd.out, decide_eq_true (by omega), Bool.true_and]⟩, by simp [intOf]; omega⟩
      · obtain rfl : k = vs.length := by omega
        go_wp2
        go_ret
        refine ⟨ret_bool ?_, rfl⟩
        rw [HF.out, ← HS.out, List.drop_length]; rfl
  · have d0 : decide ((20 : Int) < (vs.length : Int)) = true := decide_eq_true (by omega)
    have HF := Aside.mk (show fewV vs = false by unfold fewV; rw [decide_eq_false h10]; rfl)
    go_enter Try.func24, Try.ntmps24
    go_wp2
    go_ret
    exact ⟨ret_bool HF.out.symm, rfl⟩

end Go.Proofs.Ytlpobpciiaofeaa
