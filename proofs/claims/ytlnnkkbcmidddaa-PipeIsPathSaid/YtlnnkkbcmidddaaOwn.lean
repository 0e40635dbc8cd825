/- Slices of the call's own whose elements lead to no memory: append, said of lists; for every program. -/
import Derived.Test.YtlnnkkbcmidddaaRead
import Derived.Maps.AppendAt
import Derived.Laws.AppendOwnNone
import Derived.Deep.AppendLies
namespace Go.Proofs.Ytlnnkkbcmidddaa
open Go.RowKit

/-- Elements that lead to no memory: their cells. -/
structure Flat (α : Type) where
  enc : α → List Value
  sz : Nat
  len : ∀ x, (enc x).length = sz
  one : ∀ x, ∀ u ∈ enc x, u.oneCell' = true
  pos : 0 < sz
def Flat.kd {α : Type} (f : Flat α) : Kd α := Kd.flat f.enc f.sz f.len f.one

section
variable {α : Type} {f : Flat α} {w w' : World} {base : Nat} {e : TypeId} {v : Value} {xs : List α}

theorem Flat.len_all (f : Flat α) : ∀ xs : List α, (xs.flatMap f.enc).length = xs.length * f.sz
  | [] => by simp
  | x :: xs => by rw [List.flatMap_cons, List.length_append, f.len, Flat.len_all f xs, List.length_cons, Nat.add_mul]; omega
theorem Flat.one_all (f : Flat α) (xs : List α) : ∀ u ∈ xs.flatMap f.enc, u.oneCell' = true := fun u hu => by
  obtain ⟨x, _, hx⟩ := List.mem_flatMap.1 hu
  exact f.one x u hx
theorem Flat.at_all (f : Flat α) : ∀ (xs : List α) (i : Nat) (x : α), xs[i]? = some x → ∀ (j : Nat) (u : Value), (f.enc x)[j]? = some u → (xs.flatMap f.enc)[i * f.sz + j]? = some u
  | [], _, _, h, _, _, _ => by simp at h
  | y :: xs, 0, x, h, j, u, hu => by
    simp at h
    subst h
    have hj : j < (f.enc y).length := (List.getElem?_eq_some_iff.1 hu).1
    rw [List.flatMap_cons, Nat.zero_mul, Nat.zero_add, List.getElem?_append_left hj]
    exact hu
  | y :: xs, i + 1, x, h, j, u, hu => by
    rw [List.flatMap_cons, List.getElem?_append_right (by rw [f.len, Nat.add_mul]; omega), f.len, show (i + 1) * f.sz + j - f.sz = i * f.sz + j from by rw [Nat.add_mul]; omega]
    exact Flat.at_all f xs i x (by simpa using h) j u hu

/-- v is a slice of the call's own (its block is base or later) that holds xs; nil where there is none. -/
def Own (f : Flat α) (w : World) (base : Nat) (e : TypeId) (v : Value) (xs : List α) : Prop := w.ownsRow base e f.sz v xs.length (xs.flatMap f.enc)

theorem Own.nil (f : Flat α) (w : World) (base : Nat) (e : TypeId) : Own f w base e (.slice none 0 0) [] := World.ownsRow_nil w base e f.sz
theorem Own.lt (h : Own f w base e v xs) : ∀ k, v.ownBlock = some k → base ≤ k ∧ k < w.heap.size := World.ownsRow.lt h
theorem Own.kept {row : Option Nat} (h : Own f w base e v xs) (hg : w.grownBy w' row) (hne : v.ownBlock = none ∨ v.ownBlock ≠ row) : Own f w' base e v xs := World.ownsRow.kept h hg hne
theorem grown_of_below (hb : Below w.heap.size w w') (row : Option Nat) : w.grownBy w' row := ⟨hb.os, hb.tape, hb.output, hb.size, fun k hk _ => hb.block k hk⟩
theorem Own.below (h : Own f w base e v xs) (hb : Below w.heap.size w w') : Own f w' base e v xs := h.kept (grown_of_below hb none) (by cases v.ownBlock <;> simp)
theorem Own.alloc (h : Own f w base e v xs) (o : Obj) : Own f (w.alloc o) base e v xs := h.below ((Below.refl _ _).alloc (Nat.le_refl _) o)
theorem Own.drew (h : Own f w base e v xs) : Own f w.drew base e v xs := h
theorem Own.mono {base' : Nat} (h : Own f w base e v xs) (hb : base' ≤ base) : Own f w base' e v xs := by
  obtain ⟨h1, h2⟩ := h
  refine ⟨h1, ?_⟩
  rcases h2 with h2 | ⟨g, cap, cur, hv, hg, r⟩
  · exact .inl h2
  · exact .inr ⟨g, cap, cur, hv, Nat.le_trans hb hg, r⟩
/-- Behind an append to a slice of the call's own. -/
theorem below_own {w w0 W : World} {v : Value} (h : Below w0.heap.size w0 w) (hg : w.grownBy W v.ownBlock) {n : Nat} (hl : ∀ k, v.ownBlock = some k → w0.heap.size ≤ k ∧ k < n) : Below w0.heap.size w0 W :=
  h.grown hg h.size (fun k hk => (hl k hk).1)
/-- A block of another element type, or no block of cells, is not the slice's own. -/
theorem Own.ne_type {g : Nat} {t : TypeId} {cs : Array Value} {fr : Nat × Nat} (h : Own f w base e v xs) (hg : w.heap[g]? = some (.cells cs t fr)) (hne : e ≠ t) : v.ownBlock ≠ some g := by
  intro he
  rcases h.2 with ⟨rfl, _⟩ | ⟨g', cap, cur, rfl, _, hh, _⟩
  · simp [Value.ownBlock] at he
  · have : g' = g := by simpa [Value.ownBlock] using he
    subst this
    rw [hg] at hh
    injection hh with hh
    injection hh with _ ht _
    exact hne ht.symm
theorem Own.ne_block {g : Nat} {ob : Obj} (h : Own f w base e v xs) (hg : w.heap[g]? = some ob) (hne : ∀ cs t fr, ob ≠ .cells cs t fr) : v.ownBlock ≠ some g := by
  intro he
  rcases h.2 with ⟨rfl, _⟩ | ⟨g', cap, cur, rfl, _, hh, _⟩
  · simp [Value.ownBlock] at he
  · have : g' = g := by simpa [Value.ownBlock] using he
    subst this
    rw [hg] at hh
    injection hh with hh
    exact hne _ _ _ hh
theorem Own.form (h : Own f w base e v xs) : ∃ A c, v = .slice A xs.length c ∧ xs.length ≤ c := by
  rcases h.2 with ⟨rfl, hn⟩ | ⟨g, cap, cur, rfl, _, _, hc, _⟩
  · rw [hn]; exact ⟨none, 0, rfl, Nat.le_refl _⟩
  · exact ⟨_, cap, rfl, hc⟩
theorem Own.row (h : Own f w base e v xs) : ∃ A c, v = .slice A xs.length c ∧ xs.length ≤ c ∧ Row f.kd w (fun b => base ≤ b ∧ b < w.heap.size) A xs.length xs := by
  rcases h.2 with ⟨rfl, hn⟩ | ⟨g, cap, cur, rfl, hb, hh, hc, hcm, hcs, htake⟩
  · obtain rfl : xs = [] := List.eq_nil_of_length_eq_zero hn
    exact ⟨none, 0, rfl, Nat.le_refl _, Row.nil _ _ _ _⟩
  · refine ⟨_, cap, rfl, hc, rfl, by unfold maxLen at hcm; omega, fun _ => ⟨g, 0, rfl, ⟨hb, (Array.getElem?_eq_some_iff.1 hh).1⟩, fun i x hx => ⟨f.enc x, rfl, fun j u hu => ?_⟩⟩⟩
    have h1 := f.at_all xs i x hx j u hu
    have hk : f.kd.sz = f.sz := rfl
    rw [← htake, List.getElem?_take] at h1
    split at h1
    · rw [hk, Nat.zero_add]
      simp only [World.cell?, hh]
      simpa using h1
    · cases h1
theorem Own.rd (h : Own f w base e v xs) : ∃ A c, v = .slice A xs.length c ∧ xs.length ≤ c ∧ Rd f.kd w A xs.length xs := by
  obtain ⟨A, c, h1, h2, h3⟩ := h.row
  exact ⟨A, c, h1, h2, h3.mono fun b hb => hb.2⟩

/-- A new block of such elements. -/
theorem Rd.made (f : Flat α) (w : World) (cs : Array Value) (t : TypeId) (fr : Nat × Nat) (xs : List α) (hcs : cs.toList = xs.flatMap f.enc) (hm : xs.length ≤ 9223372036854775807) : Rd f.kd (w.alloc (.cells cs t fr)) (some ⟨w.heap.size, 0, none⟩) xs.length xs :=
  ⟨rfl, hm, fun _ => ⟨w.heap.size, 0, rfl, by simp, fun i x hx => ⟨f.enc x, rfl, fun j u hu => by
    have h1 := f.at_all xs i x hx j u hu
    have hk : f.kd.sz = f.sz := rfl
    have hb : (w.alloc (.cells cs t fr)).heap[w.heap.size]? = some (.cells cs t fr) := by show (w.heap.push _)[w.heap.size]? = _; simp
    rw [blk_cell hb, hk, Nat.zero_add]
    rw [← hcs] at h1
    simpa using h1⟩⟩⟩

/-- What a slice's elements are, cell by cell. -/
theorem Rd.cells {A : Option Addr} {n : Nat} (h : Rd f.kd w A n xs) {b o : Nat} (hA : A = some ⟨b, o, none⟩) : ∀ j u, (xs.flatMap f.enc)[j]? = some u → w.cell? ⟨b, o + j, none⟩ = some u := by
  intro j u hu
  have hjl := (List.getElem?_eq_some_iff.1 hu).1
  rw [f.len_all] at hjl
  have hd : j / f.sz < xs.length := Nat.div_lt_of_lt_mul (by rw [Nat.mul_comm]; exact hjl)
  have hn : 0 < n := by rw [← h.1]; exact Nat.lt_of_le_of_lt (Nat.zero_le _) hd
  obtain ⟨b', o', e, _, hc⟩ := h.2.2 hn
  rw [hA] at e
  injection e with e
  injection e with e1 e2 _
  subst e1 e2
  obtain ⟨cs, hcs, hcell⟩ := hc (j / f.sz) _ (List.getElem?_eq_getElem hd)
  obtain rfl : cs = f.enc _ := hcs
  have hm : j % f.sz < (f.enc xs[j / f.sz]).length := by rw [f.len]; exact Nat.mod_lt _ f.pos
  have h1 := f.at_all xs (j / f.sz) _ (List.getElem?_eq_getElem hd) (j % f.sz) _ (List.getElem?_eq_getElem hm)
  have e : j / f.sz * f.sz + j % f.sz = j := by rw [Nat.mul_comm]; exact Nat.div_add_mod j f.sz
  rw [e, hu] at h1
  have h2 := hcell (j % f.sz) _ (List.getElem?_eq_getElem hm)
  have hk : f.kd.sz = f.sz := rfl
  rw [hk, e] at h2
  rw [h2, ← h1]
end

/-! ### append at the operation -/
section
variable {α : Type} {f : Flat α} {P : Program} {ops : Array Oper} {rest : List Oper} {o : Oper} {a : Act} {Q : Exit → Act → World → Prop}

/-- 'append(v, x)': behind the block that holds x. -/
theorem wp_app1 {W : World} (base : Nat) (hgd : o.guard = none) (s x : Operand) (t e : TypeId) (z : Value) (bytes : Nat)
    (ho : o.op = .call { callee := .builtin .append, args := #[s, x], argTypes := #[t, t] })
    (ht : P.underlying t = some (.slice e)) (hinfo : (P.info? e).map (fun i => (i.zero, i.size, i.bytes)) = some (some z, f.sz, bytes)) (hz : z.cells.size = f.sz) (hb0 : 0 < bytes)
    (v : Value) (xs : List α) (y : α) (cs : Array Value) (hcs : cs.toList = f.enc y) (hs : a.eval s = v) (hx : a.eval x = .slice (some ⟨W.heap.size, 0, none⟩) 1 1)
    (HO : Own f W base e v xs) (hbase : base ≤ W.heap.size) (hl : (xs.length + 1) * bytes ≤ 140737488355328)
    (h : ∀ v1 w1, Own f w1 base e v1 (xs ++ [y]) → W.grownBy w1 v.ownBlock → (v1.ownBlock = v.ownBlock ∨ ∃ b, v1.ownBlock = some b ∧ W.heap.size ≤ b) → wpList P ops Q rest (a.put o.dst v1) w1) :
    wpList P ops Q (o :: rest) a (W.alloc (.cells cs e)) := by
  obtain ⟨i0, hi, hzz⟩ := Option.map_eq_some_iff.1 hinfo
  simp only [Prod.mk.injEq] at hzz
  obtain ⟨hz0, hz1, hz2⟩ := hzz
  have hlen : xs.length + 1 ≤ 140737488355328 := Nat.le_trans (Nat.le_mul_of_pos_right _ hb0) hl
  refine wpList_append_own_at (W.alloc (.cells cs e)) hgd s x t ho base e i0 z f.sz bytes ht hi hz0 hz1 hz2 hz f.pos v xs.length (xs.flatMap f.enc) hs (HO.alloc _) ⟨W.heap.size, 0, none⟩ 1 1 (f.enc y) hx (by rw [f.len]; simp)
    (by rw [← hcs]; simpa using World.news_of_block (cs := cs) (t := e) (fr := (0, 0)) (heap_alloc_new W (.cells cs e))) (f.one y) (by simp only [maxLen]; omega) hl (by simp; omega) ?_
  intro v1 w1 hown hg _ hat
  refine h v1 w1 ?_ (World.grownBy.trans (World.grownBy_alloc W _ _) hg) ?_
  · unfold Own
    rw [List.length_append, List.flatMap_append]
    simpa using hown
  · rcases hat with hat | hat
    · exact .inl hat
    · exact .inr ⟨_, hat, by simp⟩

/-- 'append(v, ys...)', ys a slice that may be read. -/
theorem wp_appRow {W : World} (base : Nat) (hgd : o.guard = none) (s x : Operand) (t e : TypeId) (z : Value) (bytes : Nat)
    (ho : o.op = .call { callee := .builtin .append, args := #[s, x], argTypes := #[t, t] })
    (ht : P.underlying t = some (.slice e)) (hinfo : (P.info? e).map (fun i => (i.zero, i.size, i.bytes)) = some (some z, f.sz, bytes)) (hz : z.cells.size = f.sz) (hb0 : 0 < bytes)
    (v : Value) (xs ys : List α) (A : Option Addr) (c : Nat) (hs : a.eval s = v) (hx : a.eval x = .slice A ys.length c) (hnil : A = none → c = 0)
    (HO : Own f W base e v xs) (HY : Rd f.kd W A ys.length ys) (hbase : base ≤ W.heap.size) (hl : (xs.length + ys.length) * bytes ≤ 140737488355328)
    (h : ∀ v1 w1, Own f w1 base e v1 (xs ++ ys) → W.grownBy w1 v.ownBlock → (v1.ownBlock = v.ownBlock ∨ ∃ b, v1.ownBlock = some b ∧ W.heap.size ≤ b) → wpList P ops Q rest (a.put o.dst v1) w1) :
    wpList P ops Q (o :: rest) a W := by
  obtain ⟨i0, hi, hzz⟩ := Option.map_eq_some_iff.1 hinfo
  simp only [Prod.mk.injEq] at hzz
  obtain ⟨hz0, hz1, hz2⟩ := hzz
  have hlen : xs.length + ys.length ≤ 140737488355328 := Nat.le_trans (Nat.le_mul_of_pos_right _ hb0) hl
  cases hA : A with
  | none =>
    have hc := hnil hA
    have hy : ys = [] := by
      cases ys with
      | nil => rfl
      | cons y ys =>
        obtain ⟨b, o, e, _⟩ := HY.2.2 (by simp)
        rw [hA] at e
        cases e
    subst hy
    rw [hA, hc] at hx
    refine wpList_append_own_none hgd s x t ho base e i0 f.sz ht hi v xs.length (xs.flatMap f.enc) hs HO hx ?_
    exact h v W (by rw [List.append_nil]; exact HO) ⟨rfl, rfl, rfl, Nat.le_refl _, fun _ _ _ => rfl⟩ (.inl rfl)
  | some ad =>
    have hnews : ∀ j u, (ys.flatMap f.enc)[j]? = some u → W.cell? (ad.add j) = some u := by
      intro j u hu
      have hn : 0 < ys.length := by
        cases ys with
        | nil => simp at hu
        | cons => simp
      obtain ⟨b, o, e, _⟩ := HY.2.2 hn
      have h1 := HY.cells e j u hu
      rw [hA] at e
      injection e with e
      subst e
      rw [show (⟨b, o, none⟩ : Addr).add j = ⟨b, o + j, none⟩ from by unfold Addr.add; split <;> simp_all]
      exact h1
    rw [hA] at hx
    refine wpList_append_own_at W hgd s x t ho base e i0 z f.sz bytes ht hi hz0 hz1 hz2 hz f.pos v xs.length (xs.flatMap f.enc) hs HO ad ys.length c (ys.flatMap f.enc) hx (f.len_all ys) hnews (f.one_all ys) (by simp only [maxLen]; omega) hl hbase ?_
    intro v1 w1 hown hg _ hat
    refine h v1 w1 ?_ hg ?_
    · unfold Own
      rw [List.length_append, List.flatMap_append]
      exact hown
    · rcases hat with hat | hat
      · exact .inl hat
      · exact .inr ⟨_, hat, Nat.le_refl _⟩
end
end Go.Proofs.Ytlnnkkbcmidddaa
