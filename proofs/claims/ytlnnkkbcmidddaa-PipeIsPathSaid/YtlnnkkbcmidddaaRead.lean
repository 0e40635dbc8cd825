/- How data lie in memory: what a slice of some kind of elements reads as, and that it stays so where no block that it meets is written; for every program. -/
import Derived.WalkKit
import Derived.WalkSpells
import Derived.WalkLawsBesides
namespace Go.Proofs.Ytlnnkkbcmidddaa
open Go.RowKit

/-- A fact that the walk does not look into. -/
structure Aside (p : Prop) : Prop where mk :: (out : p)

/-- How a datum lies in cells. S: the blocks that it may lead to. -/
structure Kd (α : Type) where
  sz : Nat
  K : World → (Nat → Prop) → α → List Value → Prop
  len : ∀ {w S x cs}, K w S x cs → cs.length = sz
  one : ∀ {w S x cs}, K w S x cs → ∀ u ∈ cs, u.oneCell' = true
  keep : ∀ {w w' S x cs}, K w S x cs → (∀ b, S b → w'.heap[b]? = w.heap[b]?) → K w' S x cs
  mono : ∀ {w S S' x cs}, K w S x cs → (∀ b, S b → S' b) → K w S' x cs

/-- Data that lead to no memory. -/
def Kd.flat {α : Type} (enc : α → List Value) (sz : Nat) (hl : ∀ x, (enc x).length = sz) (ho : ∀ x, ∀ u ∈ enc x, u.oneCell' = true) : Kd α where
  sz := sz
  K _ _ x cs := cs = enc x
  len h := by rw [h]; exact hl _
  one h := by rw [h]; exact ho _
  keep h _ := h
  mono h _ := h

section
variable {α : Type} {d : Kd α} {w w' : World} {S S' : Nat → Prop} {A : Option Addr} {n : Nat} {xs : List α}
/-- The n elements from A on read as xs. -/
def Row (d : Kd α) (w : World) (S : Nat → Prop) (A : Option Addr) (n : Nat) (xs : List α) : Prop :=
  xs.length = n ∧ n ≤ 9223372036854775807 ∧ (0 < n → ∃ b o, A = some ⟨b, o, none⟩ ∧ S b ∧
    ∀ i x, xs[i]? = some x → ∃ cs, d.K w S x cs ∧ ∀ j u, cs[j]? = some u → w.cell? ⟨b, o + (i * d.sz + j), none⟩ = some u)

theorem Row.keep (h : Row d w S A n xs) (hw : ∀ b, S b → w'.heap[b]? = w.heap[b]?) : Row d w' S A n xs :=
  ⟨h.1, h.2.1, fun hn => by
    obtain ⟨b, o, e, hS, hc⟩ := h.2.2 hn
    refine ⟨b, o, e, hS, fun i x hx => ?_⟩
    obtain ⟨cs, h1, h2⟩ := hc i x hx
    exact ⟨cs, d.keep h1 hw, fun j u hu => (World.cell?_of_block (w := w) (hw b hS)).trans (h2 j u hu)⟩⟩
theorem Row.mono (h : Row d w S A n xs) (hS : ∀ b, S b → S' b) : Row d w S' A n xs :=
  ⟨h.1, h.2.1, fun hn => by
    obtain ⟨b, o, e, hb, hc⟩ := h.2.2 hn
    refine ⟨b, o, e, hS _ hb, fun i x hx => ?_⟩
    obtain ⟨cs, h1, h2⟩ := hc i x hx
    exact ⟨cs, d.mono h1 hS, h2⟩⟩
theorem Row.nil (d : Kd α) (w : World) (S : Nat → Prop) (A : Option Addr) : Row d w S A 0 [] := ⟨rfl, by omega, fun h => absurd h (Nat.lt_irrefl 0)⟩
/-- Behind a call that has made memory of its own alone. -/
theorem Row.below {B : Nat} (h : Row d w (· < B) A n xs) (hb : Below B w w') : Row d w' (· < B) A n xs := h.keep fun b hS => hb.block b hS

/-- A slice. -/
def Kd.slice (d : Kd α) : Kd (List α) where
  sz := 1
  K w S xs cs := ∃ A c, cs = [.slice A xs.length c] ∧ xs.length ≤ c ∧ (A = none → c = 0) ∧ Row d w S A xs.length xs
  len h := by obtain ⟨A, c, rfl, _⟩ := h; rfl
  one h := by
    obtain ⟨A, c, rfl, _⟩ := h
    intro u hu
    simp only [List.mem_singleton] at hu
    subst hu
    rfl
  keep h hw := by
    obtain ⟨A, c, e, hc, hn, h⟩ := h
    exact ⟨A, c, e, hc, hn, h.keep hw⟩
  mono h hS := by
    obtain ⟨A, c, e, hc, hn, h⟩ := h
    exact ⟨A, c, e, hc, hn, h.mono hS⟩

/-- What a row of cells of one kind needs for the walk: element i, its cells. -/
theorem Row.at (h : Row d w S A n xs) (i : Nat) (hi : i < n) : ∃ b o cs, A = some ⟨b, o, none⟩ ∧ S b ∧ d.K w S (xs[i]'(by rw [h.1]; exact hi)) cs ∧ ∀ j u, cs[j]? = some u → w.cell? ⟨b, o + (i * d.sz + j), none⟩ = some u := by
  obtain ⟨b, o, e, hS, hc⟩ := h.2.2 (by omega)
  obtain ⟨cs, h1, h2⟩ := hc i _ (List.getElem?_eq_getElem (by rw [h.1]; exact hi))
  exact ⟨b, o, cs, e, hS, h1, h2⟩
end

/-! Nothing that was there has turned. -/
theorem below_alloc {w W : World} (h : Below w.heap.size w W) (o : Obj) : Below w.heap.size w (W.alloc o) := h.alloc h.size o
theorem below_drew {B : Nat} {w W : World} (h : Below B w W) : Below B w W.drew := ⟨h.os, h.tape, h.output, h.size, h.block⟩
theorem below_drewN {B : Nat} {w W : World} (h : Below B w W) (n : Nat) : Below B w (W.drewN n) := ⟨h.os, h.tape, h.output, h.size, h.block⟩
/-- Behind a call. -/
theorem below_call {w w1 w2 : World} (h : Below w.heap.size w w1) (k : Below w1.heap.size w1 w2) : Below w.heap.size w w2 :=
  h.trans ⟨k.os, k.tape, k.output, k.size, fun i hi => k.block i (Nat.lt_of_lt_of_le hi h.size)⟩
/-- Behind a store into one block that is new. -/
theorem below_grown {w W w' : World} {j : Nat} (h : Below w.heap.size w W) (hg : W.grownBy w' (some j)) (hj : w.heap.size ≤ j) : Below w.heap.size w w' := h.grown hg h.size (fun k hk => by cases hk; exact hj)
theorem below_grown' {w W w' : World} (h : Below w.heap.size w W) (hg : W.grownBy w' none) : Below w.heap.size w w' := h.grown hg h.size (fun k hk => by cases hk)
theorem below_set {w W : World} (h : Below w.heap.size w W) {p : Addr} (hp : w.heap.size ≤ p.block) (u : Value) : Below w.heap.size w (W.setCell p u) := h.setCell hp u
theorem Below.le {B : Nat} {w W : World} (h : Below B w W) (hB : B ≤ w.heap.size) : B ≤ W.heap.size := Nat.le_trans hB h.size

theorem ret_bool {a b : Bool} (h : a = b) : Ending.returned (.bool a) = .returned (.bool b) := by rw [h]
theorem ret_int {k : IntKind} {a b : Int} (h : a = b) : Ending.returned (.int k a) = .returned (.int k b) := by rw [h]
theorem beq_decide (a b : Nat) : ((a : Int) == (b : Int)) = decide (a = b) := by rw [Bool.eq_iff_iff]; simp; omega
theorem bcell {W w1 : World} (hb : Below W.heap.size W w1) : (∀ b o, b < W.heap.size → w1.cell? ⟨b, o, none⟩ = W.cell? ⟨b, o, none⟩) ∧ (∀ b o, b < W.heap.size → w1.frozen? ⟨b, o, none⟩ = W.frozen? ⟨b, o, none⟩) :=
  ⟨fun b o h => hb.cell (p := ⟨b, o, none⟩) h, fun b o h => hb.frozen (p := ⟨b, o, none⟩) h⟩

/-! A block of cells. -/
theorem blk_set {w : World} {g : Nat} {t : TypeId} {cs : Array Value} {fr : Nat × Nat} (h : w.heap[g]? = some (.cells cs t fr)) (i : Nat) (u : Value) : (w.setCell ⟨g, i, none⟩ u).heap[g]? = some (.cells (cs.setIfInBounds i u) t fr) := by
  simp only [World.setCell, Array.getElem?_modify, if_pos, h, Option.map_some]
  simp
theorem blk_far {w : World} {g : Nat} {o : Option Obj} (h : w.heap[g]? = o) {p : Addr} (hp : g ≠ p.block) (u : Value) : (w.setCell p u).heap[g]? = o := (Below.heap_setCell w p u g hp).trans h
theorem blk_lt {w : World} {g : Nat} {o : Obj} (h : w.heap[g]? = some o) : g < w.heap.size := (Array.getElem?_eq_some_iff.1 h).1
theorem blk_cell {w : World} {g : Nat} {t : TypeId} {cs : Array Value} {fr : Nat × Nat} (h : w.heap[g]? = some (.cells cs t fr)) (i : Nat) : w.cell? ⟨g, i, none⟩ = cs[i]? := by simp [World.cell?, h]
theorem blk_frozen {w : World} {g : Nat} {t : TypeId} {cs : Array Value} (h : w.heap[g]? = some (.cells cs t (0, 0))) (i : Nat) : w.frozen? ⟨g, i, none⟩ = false := by simp [World.frozen?, h]
theorem blk_keep {w w' : World} {g : Nat} {o : Obj} (h : w.heap[g]? = some o) (hb : Below w.heap.size w w') : w'.heap[g]? = some o := (hb.block g (blk_lt h)).trans h

/-- A box stands behind a call. -/
theorem box_keep {w w1 : World} {o : Obj} (hb : Below (w.alloc o).heap.size (w.alloc o) w1) : w1.heap[w.heap.size]? = some o :=
  (hb.block _ (by simp)).trans (by show (w.heap.push o)[w.heap.size]? = _; simp)

/-! A slice that may be read in this world; it may be read in every later one in which what was there has not turned. -/
section
variable {α : Type} {d : Kd α} {w w' : World} {A : Option Addr} {n : Nat} {xs : List α}
def Rd (d : Kd α) (w : World) (A : Option Addr) (n : Nat) (xs : List α) : Prop := Row d w (· < w.heap.size) A n xs
theorem Rd.below (h : Rd d w A n xs) (hb : Below w.heap.size w w') : Rd d w' A n xs :=
  (Row.below h hb).mono fun _ hS => Nat.lt_of_lt_of_le hS hb.size
theorem Rd.len (h : Rd d w A n xs) : xs.length = n := h.1
theorem Rd.max (h : Rd d w A n xs) : n ≤ 9223372036854775807 := h.2.1
theorem Rd.nil (d : Kd α) (w : World) (A : Option Addr) : Rd d w A 0 [] := Row.nil d w _ A
theorem Rd.take (h : Rd d w A n xs) {k : Nat} (hk : k ≤ n) : Rd d w A k (xs.take k) :=
  ⟨by rw [List.length_take, h.1]; omega, Nat.le_trans hk h.2.1, fun hn => by
    obtain ⟨b, o, e, hS, hc⟩ := h.2.2 (by omega)
    refine ⟨b, o, e, hS, fun i x hx => hc i x ?_⟩
    rw [List.getElem?_take] at hx
    split at hx
    · exact hx
    · cases hx⟩
theorem Rd.drop {b o : Nat} (h : Rd d w (some ⟨b, o, none⟩) n xs) {k : Nat} (hk : k ≤ n) : Rd d w (some ⟨b, o + k * d.sz, none⟩) (n - k) (xs.drop k) :=
  ⟨by rw [List.length_drop, h.1], by have := h.2.1; omega, fun hn => by
    obtain ⟨b', o', e, hS, hc⟩ := h.2.2 (by omega)
    injection e with e
    injection e with e1 e2 _
    subst e1 e2
    refine ⟨b, _, rfl, hS, fun i x hx => ?_⟩
    rw [List.getElem?_drop] at hx
    obtain ⟨cs, h1, h2⟩ := hc _ x hx
    refine ⟨cs, h1, fun j u hu => ?_⟩
    have := h2 j u hu
    rw [Nat.add_mul] at this
    rw [← this]
    congr 2
    omega⟩
end
/-- Behind a store into another block; of elements that lead to no memory. -/
theorem Rd.set {α : Type} {enc : α → List Value} {sz : Nat} {hl : ∀ x, (enc x).length = sz} {ho : ∀ x, ∀ u ∈ enc x, u.oneCell' = true} {w : World} {b o : Nat} {n : Nat} {xs : List α} (h : Rd (Kd.flat enc sz hl ho) w (some ⟨b, o, none⟩) n xs) {p : Addr} (hp : b ≠ p.block) (u : Value) :
    Rd (Kd.flat enc sz hl ho) (w.setCell p u) (some ⟨b, o, none⟩) n xs :=
  ⟨h.1, h.2.1, fun hn => by
    obtain ⟨b', o', e, hS, hc⟩ := h.2.2 hn
    injection e with e
    injection e with e1 e2 _
    subst e1 e2
    refine ⟨b, o, rfl, by simpa using hS, fun i x hx => ?_⟩
    obtain ⟨cs, h1, h2⟩ := hc i x hx
    refine ⟨cs, h1, fun j v hv => ?_⟩
    rw [← h2 j v hv]
    exact World.cell?_of_block (Below.heap_setCell w p u b hp)⟩
end Go.Proofs.Ytlnnkkbcmidddaa
