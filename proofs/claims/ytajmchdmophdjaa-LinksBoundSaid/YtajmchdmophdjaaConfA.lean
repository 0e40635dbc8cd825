/- The walks through a configuration's reading: conf.At, the document's At, Few. -/
import Derived.Test.YtajmchdmophdjaaPickR
import Derived.Test.YtajmchdmophdjaaAppend
import Derived.Laws.Cover3
namespace Go.Proofs.Ytajmchdmophdjaa
open Go.RowKit
set_option maxRecDepth 100000

theorem infoRul : (Try.prog.info? 68).map (fun i => (i.zero, i.size, i.bytes)) = some (some (.agg #[.int .i64 0, .int .i64 0, .int .i64 0, .int .i64 0, .int .i64 0, .int .i64 0]), 6, 48) := by kernel_rfl
abbrev confD : Kd (List Rul) := rulD.slice
def atL (c : List (List Rul)) (sw : Int) : List Rul := if sw < 0 then [] else (c[sw.toNat]?).getD []
def fewL (c : List (List Rul)) : Bool := decide (c.length ≤ 10) && c.all fun l => decide (l.length ≤ 60)
theorem atL_out {c : List (List Rul)} {sw : Int} (h : sw < 0 ∨ (c.length : Int) ≤ sw) : atL c sw = [] := by
  unfold atL
  split
  · rfl
  · rw [List.getElem?_eq_none (by omega)]; rfl
theorem atL_in {c : List (List Rul)} {k : Nat} (h : k < c.length) : atL c k = c[k] := by
  unfold atL
  rw [if_neg (by omega), Int.toNat_natCast, List.getElem?_eq_getElem h]; rfl
/-- A configuration's list: its cell, and that it may be read. -/
theorem conf_cell {c : List (List Rul)} {A : Option Addr} {k : Nat} {w W : World} (hc : Rd confD w A c.length c) (hb : Below w.heap.size w W) (h : k < c.length) :
    ∃ b o A' n', A = some ⟨b, o, none⟩ ∧ b < w.heap.size ∧ W.cell? ⟨b, o + k, none⟩ = some (.slice A' c[k].length n') ∧ c[k].length ≤ n' ∧ (A' = none → n' = 0) ∧ Rd rulD w A' c[k].length c[k] := by
  obtain ⟨b, o, cs, e, hbl, ⟨A', n', rfl, h1, h2, h3⟩, hcell⟩ := Row.at hc k h
  refine ⟨b, o, A', n', e, hbl, ?_, h1, h2, h3⟩
  have := hcell 0 _ rfl
  rw [← this, hb.cell hbl]
  show _ = w.cell? ⟨b, o + (k * 1 + 0), none⟩
  rw [Nat.mul_one, Nat.add_zero]
theorem Own.empty {α : Type} (f : Flat α) (w : World) (e : TypeId) : Own f (w.alloc (.cells #[] e)) w.heap.size e (.slice (some ⟨w.heap.size, 0, none⟩) 0 0) [] :=
  ⟨by simp, .inr ⟨w.heap.size, 0, #[], rfl, Nat.le_refl _, by show (w.heap.push _)[w.heap.size]? = _; simp, Nat.le_refl _, by unfold maxLen; omega, by simp, by simp⟩⟩

theorem nilRul (w : World) (a : Option Addr) (n c : Nat) : (binOp .eql 51 (.slice a n c) (.slice none 0 0)).run Try.prog w = .ok (.bool a.isNone) w := by
  simp only [binOp]
  simp [run_equal_slice_nil w 51 68 a n c Try.underlying51]
theorem fewL_drop {c : List (List Rul)} {k : Nat} (h : k < c.length) : ((c.drop k).all fun l => decide (l.length ≤ 60)) = (decide (c[k].length ≤ 60) && (c.drop (k + 1)).all fun l => decide (l.length ≤ 60)) := by
  rw [List.drop_eq_getElem_cons h]; rfl
end Go.Proofs.Ytajmchdmophdjaa
