/- A loop over an iterator that keeps a state of its own in cells, by a body that never leaves the loop; for every program. -/
import Derived.Test.YtlnnkkbcmidddaaRegion
import Derived.Test.YtlnnkkbcmidddaaOwn
import Derived.RangeFuncNested
import Derived.RangeFuncBound
import Derived.RangeFuncCalls
import Derived.RangeFuncLeaves
import Derived.OwnWalkIn
namespace Go.Proofs.Ytlnnkkbcmidddaa
open Go.RowKit

/-- All blocks but those of C lie as they lay. -/
structure Kept (C : Nat → Prop) (W W' : World) : Prop where
  os : W'.os = W.os
  tape : W'.tape = W.tape
  output : W'.output = W.output
  size : W.heap.size ≤ W'.heap.size
  block : ∀ k, k < W.heap.size → ¬ C k → W'.heap[k]? = W.heap[k]?
section
variable {C C' : Nat → Prop} {A B D : World}
theorem Kept.refl (C : Nat → Prop) (A : World) : Kept C A A := ⟨rfl, rfl, rfl, Nat.le_refl _, fun _ _ _ => rfl⟩
theorem Kept.trans (h : Kept C A B) (k : Kept C' B D) (hc : ∀ i, C' i → C i ∨ A.heap.size ≤ i) : Kept C A D :=
  ⟨k.os.trans h.os, k.tape.trans h.tape, k.output.trans h.output, Nat.le_trans h.size k.size, fun i hi hn =>
    (k.block i (Nat.lt_of_lt_of_le hi h.size) (fun e => by rcases hc i e with e | e; exact hn e; omega)).trans (h.block i hi hn)⟩
theorem Kept.mono (h : Kept C A B) (hc : ∀ i, C i → C' i) : Kept C' A B := ⟨h.os, h.tape, h.output, h.size, fun i hi hn => h.block i hi (fun e => hn (hc i e))⟩
theorem Kept.grown {row : Option Nat} (h : A.grownBy B row) (hc : ∀ r, row = some r → C r) : Kept C A B := by
  obtain ⟨h1, h2, h3, h4, h5⟩ := h
  exact ⟨h1, h2, h3, h4, fun i hi hn => h5 i hi (fun e => hn (hc i e.symm))⟩
theorem Kept.below (h : Below A.heap.size A B) : Kept C A B := ⟨h.os, h.tape, h.output, h.size, fun i hi _ => h.block i hi⟩
theorem Kept.alloc (C : Nat → Prop) (A : World) (o : Obj) : Kept C A (A.alloc o) := Kept.below ((Below.refl _ _).alloc (Nat.le_refl _) o)
theorem Kept.toBelow {n : Nat} (h : Kept C A B) (hn : n ≤ A.heap.size) (hc : ∀ i, C i → n ≤ i) : Below n A B :=
  ⟨h.os, h.tape, h.output, h.size, fun i hi => h.block i (by omega) (fun e => by have := hc i e; omega)⟩
theorem Kept.keep (h : Kept C A B) {i : Nat} {o : Obj} (hi : A.heap[i]? = some o) (hn : ¬ C i) : B.heap[i]? = some o := (h.block i (Array.getElem?_eq_some_iff.1 hi).1 hn).trans hi
end

/-- 'append(v, x)' in a fence: behind the block that holds x. -/
theorem wpIn_app1 {α : Type} {f : Flat α} {F : Fence} {n : Nat} {P : Program} {ops : Array Oper} {rest : List Oper} {o : Oper} {a : Act} {Q : Exit → Act → World → Prop} {W : World} (base : Nat) (hgd : o.guard = none) (s x : Operand) (t e : TypeId) (z : Value) (bytes : Nat)
    (ho : o.op = .call { callee := .builtin .append, args := #[s, x], argTypes := #[t, t] })
    (ht : P.underlying t = some (.slice e)) (hinfo : (P.info? e).map (fun i => (i.zero, i.size, i.bytes)) = some (some z, f.sz, bytes)) (hz : z.cells.size = f.sz) (hb0 : 0 < bytes)
    (v : Value) (xs : List α) (y : α) (cs : Array Value) (hcs : cs.toList = f.enc y) (hs : a.eval s = v) (hx : a.eval x = .slice (some ⟨W.heap.size, 0, none⟩) 1 1)
    (HO : Own f W base e v xs) (hbase : base ≤ W.heap.size) (hl : (xs.length + 1) * bytes ≤ 140737488355328)
    (h : ∀ v1 w1, Own f w1 base e v1 (xs ++ [y]) → W.grownBy w1 v.ownBlock → (v1.ownBlock = v.ownBlock ∨ ∃ b, v1.ownBlock = some b ∧ W.heap.size ≤ b) → wpListIn F n P ops Q rest (a.put o.dst v1) w1) :
    wpListIn F n P ops Q (o :: rest) a (W.alloc (.cells cs e)) := by
  obtain ⟨i0, hi, hzz⟩ := Option.map_eq_some_iff.1 hinfo
  simp only [Prod.mk.injEq] at hzz
  obtain ⟨hz0, hz1, hz2⟩ := hzz
  have hlen : xs.length + 1 ≤ 140737488355328 := Nat.le_trans (Nat.le_mul_of_pos_right _ hb0) hl
  refine wpListIn_plain hgd fun K hK' => ?_
  obtain ⟨v', w', hrun, r1, r2, r3, r4⟩ := run_append_own_at (P := P) (W.alloc (.cells cs e)) base t o.type e i0 z f.sz bytes ht hi hz0 hz1 hz2 hz f.pos v xs.length (xs.flatMap f.enc) (HO.alloc _) ⟨W.heap.size, 0, none⟩ 1 1 (f.enc y) (by rw [f.len]; simp)
    (by rw [← hcs]; simpa using World.news_of_block (cs := cs) (t := e) (fr := (0, 0)) (heap_alloc_new W (.cells cs e))) (f.one y) (by simp only [maxLen]; omega) hl (by simp; omega)
  unfold Oper.wpIn
  refine ⟨?_, ?_⟩
  · simp [Oper.about, ho, resolve, Target.leads, Sem.run_pure]
  · rw [Oper.semAt_plain F _ _ (by rw [ho]; intro c hc'; cases hc')]
    simp [execOp, ho, resolve, invoke, builtin, hs, hx, hrun, Result.andThen]
    refine hK' _ _ (h v' w' ?_ (World.grownBy.trans (World.grownBy_alloc W _ _) r2) ?_)
    · unfold Own
      rw [List.length_append, List.flatMap_append]
      simpa using r1
    · rcases r4 with hat | hat
      · exact .inl hat
      · exact .inr ⟨_, hat, by simp⟩

/-- What is said of a world stays where blocks come, and where one turns that Z names. -/
def AbidesZ {β : Type} (Z : World → Nat → Prop) (J : β → (Nat → Prop) → World → Prop) : Prop :=
  ∀ s C A B row, J s C A → A.grownBy B row → (∀ r, row = some r → Z A r) → J s C B
/-- THE ITERATOR: it yields the things of xs, one by one, and comes back, whatever the body is, if that turns blocks of its own (C) alone; Pr: the blocks that must not be the body's; between two rounds it turns blocks of Z alone. -/
def Yields {α : Type} (F : Fence) (n : Nat) (P : Program) (g : Nat) (lb : Array Value) (encs : α → Array Value) (Pr Z : Nat → Prop) (xs : List α) (w : World) : Prop :=
  ∀ (l : Nat) (J : List α → (Nat → Prop) → World → Prop) (C : Nat → Prop) (W : World), Below w.heap.size w W → AbidesZ (fun _ r => Z r) J → (∀ k, C k → ¬ Pr k ∧ k < W.heap.size) →
    (∀ pre x rest C W1, xs = pre ++ x :: rest → J pre C W1 → YieldAt F (n - 1) P l (encs x) W1 fun e W' => e = .returned (.bool true) ∧ ∃ C', J (pre ++ [x]) C' W' ∧ Kept C W1 W' ∧ ∀ k, C' k → (C k ∨ W1.heap.size ≤ k) ∧ k < W'.heap.size) →
    J [] C W → CallsIn F n P g (#[.func (.yield l) #[] #[]] ++ lb) W fun e W' => (∃ v, e = .returned v) ∧ ∃ C', J xs C' W'
/-- Blocks that are no cells and lie at or beyond B. -/
def Others (B : Nat) (W : World) (r : Nat) : Prop := B ≤ r ∧ ∃ o : Obj, W.heap[r]? = some o ∧ o.isCells = false

variable {F : Fence} {n : Nat} {P : Program}
/-- How a round's body ends: it goes on. -/
def goesOn {α : Type} (B : Nat) (I : List α → (Nat → Prop) → World → Prop) (xs : List α) (C : Nat → Prop) (W : World) : Exit → Act → World → Prop
  | .normal, _, W' => KeepsFrom B W W' ∧ ∃ C', I xs C' W' ∧ Kept C W W' ∧ ∀ k, C' k → (C k ∨ W.heap.size ≤ k) ∧ k < W'.heap.size
  | _, _, _ => False

theorem wpIn_range_yields {α : Type} {g : Operand} {ps : Array Tmp} {assign body : Code} {Q : Exit → Act → World → Prop} {a : Act} {w : World}
    (hro : F.round = none) (h1 : 1 ≤ n) {gf : Nat} {lb : Array Value} (hg : a.eval g = .func (.func gf) #[] lb) (hFg : F.fn gf) (eg : ∀ args w, (callFunc gf args).run P w = .ok (.enter gf args) w)
    {encs : α → Array Value} (hps : ∀ x, (encs x).size = ps.size) {Pr Z : Nat → Prop} {xs : List α} {w0 : World} (hb0 : Below w0.heap.size w0 w)
    (hseq : Yields F (n - 1) P gf lb encs Pr Z xs w0) (hZ : ∀ r, Z r → r < w.heap.size) (hPr : ∀ r, Pr r → r < w.heap.size)
    (I : List α → (Nat → Prop) → World → Prop) (hI : AbidesZ (fun W r => Z r ∨ Others w.heap.size W r) I) (C : Nat → Prop) (hC : ∀ k, C k → ¬ Pr k ∧ k < w.heap.size) (h0 : I [] C w)
    (Ax : α → Act → World → Prop) (hAx : ∀ x a', AbidesZ (Others w.heap.size) (fun (_ : Unit) _ W => Ax x a' W))
    (hassign : ∀ (l : Nat) (pre : List α) (x : α) (C : Nat → Prop) (W : World) (K : Act → World → Prop), I pre C W → (∀ a' W', Below W.heap.size W W' → Ax x a' W' → K a' W') →
      assign.wpIn (F.inRound l) (n - 1 - 1) P (Exit.then K (fun _ _ _ => False)) { tmps := (ps.zip (encs x)).foldl (fun t (p, v) => t.setIfInBounds p v) a.tmps, defers := [] } W)
    (hbody : ∀ (l : Nat) (pre : List α) (x : α) (rest : List α) (a' : Act) (C : Nat → Prop) (W : World), xs = pre ++ x :: rest → (∀ k, C k → k < W.heap.size) → I pre C W → Ax x a' W → body.wpIn (F.inRound l) (n - 1 - 1) P (goesOn w.heap.size I (pre ++ [x]) C W) a' W)
    (hdone : ∀ (D : Nat) (C : Nat → Prop) (W : World), w.heap.size ≤ D → I xs C W → W.heap[D]? = some (.deferred (some [])) → Q .normal { a with defers := { target := .collected D, args := #[] } :: a.defers } W) :
    (Code.rangeFunc g ps assign body).wpIn F n P Q a w := by
  refine wpIn_rangeFunc fun fn hfn => ?_
  rw [hro]
  obtain ⟨L, hL⟩ : ∃ L : LoopState → Option Code → Loop, L = fun st pe => { state := st, pending := pe, fn, tmps := a.tmps, params := ps, assign, body, defers := w.heap.size } := ⟨_, rfl⟩
  -- the two blocks that the loop lays
  obtain ⟨W0, hW0⟩ : ∃ W0, (w.alloc (.deferred (some []))).alloc (.loop (L .ready none)) = W0 := ⟨_, rfl⟩
  have hr0 : W0.heap[w.heap.size + 1]? = some (.loop (L .ready none)) := by rw [← hW0, heap_at, if_pos (by simp)]
  have hd0 : W0.heap[w.heap.size]? = some (.deferred (some [])) := by rw [← hW0, heap_at, if_neg (by simp), heap_at, if_pos rfl]
  have hs0 : W0.heap.size = w.heap.size + 1 + 1 := by rw [← hW0]; simp
  have hB0 : Below w0.heap.size w0 W0 := by
    rw [← hW0]
    exact hb0.trans ((((Below.refl _ w).alloc (Nat.le_refl _) _).alloc (by simp) _).mono hb0.size)
  have hI0 : I [] C W0 := by
    rw [← hW0]
    exact hI _ _ _ _ none (hI _ _ _ _ none h0 (World.grownBy_alloc _ _ none) (fun r h => by cases h)) (World.grownBy_alloc _ _ none) (fun r h => by cases h)
  have put : ∀ {pre : List α} {C : Nat → Prop} {W : World} {o : Obj} (l : Nat) (o' : Obj), I pre C W → w.heap.size ≤ l → W.heap[l]? = some o → o.isCells = false → I pre C (W.putObj l o') := fun {pre C W o} l o' hi hl ho hc =>
    hI _ _ _ _ (some l) hi (grownBy_putObj' W l o') (fun r e => by cases e; exact .inr ⟨hl, o, ho, hc⟩)
  -- what a round may turn: the body's own, and the loop's two blocks
  obtain ⟨M, hM⟩ : ∃ M : (Nat → Prop) → Nat → Prop, M = fun C k => C k ∨ k = w.heap.size ∨ k = w.heap.size + 1 := ⟨_, rfl⟩
  refine ⟨w.heap.size + 1, [{ target := .collected w.heap.size, args := #[] }], W0, { target := .fn (.func gf) lb, args := #[.func (.yield (w.heap.size + 1)) #[] #[]] }, W0, gf,
    #[.func (.yield (w.heap.size + 1)) #[] #[]] ++ lb, W0, ?_, ?_, ?_, ?_, fun _ => h1, ?_⟩
  · rw [← hW0, hL]; exact run_enterLoop_outer _ _ _ _ _
  · simp only [resolve, hg]
    simp [go_sem]
  · intro f' hf'; simp [Target.leads] at hf'; subst hf'; exact hFg
  · simp [invoke, go_sem, eg]
  refine (hseq (w.heap.size + 1) (fun pre K W => ∃ C, K = M C ∧ (∀ k, C k → k < W.heap.size) ∧ I pre C W ∧ W.heap[w.heap.size + 1]? = some (.loop (L .ready none)) ∧ W.heap[w.heap.size]? = some (.deferred (some []))) (M C) W0 hB0 ?_ ?_ ?_ ⟨C, rfl, fun k hk => by have := (hC k hk).2; omega, hI0, hr0, hd0⟩).mono ?_
  · rintro pre K A B row ⟨C, rfl, hlt, hi, hr, hd⟩ hg' hz
    have far : ∀ k, w.heap.size ≤ k → k < A.heap.size → B.heap[k]? = A.heap[k]? := fun k hk hlt => hg'.block k hlt (fun e => by have := hZ k (hz k e.symm); omega)
    exact ⟨C, rfl, fun k hk => Nat.lt_of_lt_of_le (hlt k hk) hg'.size, hI _ _ _ _ row hi hg' (fun r e => .inl (hz r e)), (far _ (by omega) (Array.getElem?_eq_some_iff.1 hr).1).trans hr, (far _ (Nat.le_refl _) (Array.getElem?_eq_some_iff.1 hd).1).trans hd⟩
  · intro k hk
    rw [hM] at hk
    rcases hk with hk | rfl | rfl
    · exact ⟨(hC k hk).1, by have := (hC k hk).2; omega⟩
    · exact ⟨fun h => by have := hPr _ h; omega, by omega⟩
    · exact ⟨fun h => by have := hPr _ h; omega, by omega⟩
  · rintro pre x rest K W hxs ⟨C, rfl, hlt, hi, hr, hd⟩
    have hy := run_yield (P := P) (args := encs x) hr (by rw [hL]; exact hps x)
    rw [hL] at hy
    refine ⟨fn, _, assign, body, hy, roundIn_of_wpIn hfn (hassign _ pre x C W _ hi fun a' W2 hbe hax => ?_)⟩
    have hr2 := blk_keep hr hbe
    have hd2 := blk_keep hd hbe
    have hlt2 := (Array.getElem?_eq_some_iff.1 hr2).1
    have hi2 : I pre C W2 := hI _ _ _ _ none hi (grown_of_below hbe none) (fun r h => by cases h)
    refine ⟨_, run_beginRound hr2 (by rw [hL]), ?_⟩
    obtain ⟨W3, hW3⟩ : ∃ W3, W2.putObj (w.heap.size + 1) (.loop { L .ready none with state := .busy }) = W3 := ⟨_, rfl⟩
    rw [hW3]
    have hr3 : W3.heap[w.heap.size + 1]? = some (.loop { L .ready none with state := .busy }) := by rw [← hW3]; exact World.putObj_heap_same hlt2
    have hd3 : W3.heap[w.heap.size]? = some (.deferred (some [])) := by rw [← hW3]; exact (World.putObj_heap_other (by omega)).trans hd2
    have hs3 : W3.heap.size = W2.heap.size := by rw [← hW3]; simp
    have hk3 : Kept (M C) W W3 := by rw [← hW3]; exact (Kept.below hbe).trans (Kept.grown (C := M C) (grownBy_putObj' _ _ _) (fun r e => by cases e; rw [hM]; exact .inr (.inr rfl))) (fun i h => .inl h)
    have hi3 : I pre C W3 := by rw [← hW3]; exact put _ _ hi2 (by omega) hr2 rfl
    have hax3 : Ax x a' W3 := by rw [← hW3]; exact hAx x a' () C _ _ (some (w.heap.size + 1)) hax (grownBy_putObj' _ _ _) (fun r e => by cases e; exact ⟨by omega, _, hr2, rfl⟩)
    have hsz := hbe.size
    refine wpIn_mono (hbody _ pre x rest a' C W3 hxs (fun k hk => by have := hlt k hk; omega) hi3 hax3) ?_
    rintro e a4 W4 hp
    cases e with
    | normal =>
      obtain ⟨hkf4, C', hi4, hk4, hc4⟩ := hp
      have hr4 := hkf4.same _ _ (by omega) hr3 rfl
      have hd4 := hkf4.same _ _ (Nat.le_refl _) hd3 rfl
      have hlt4 := (Array.getElem?_eq_some_iff.1 hr4).1
      have hend := run_endRound (P := P) none hr4
      rw [hL] at hend hr4 ⊢
      refine ⟨_, _, hend, rfl, M C', ⟨C', rfl, fun k hk => by simpa using (hc4 k hk).2, put _ _ hi4 (by omega) hr4 rfl, World.putObj_heap_same hlt4, (World.putObj_heap_other (by omega)).trans hd4⟩, ?_, ?_⟩
      · refine (hk3.trans hk4 (fun i h => .inl (by rw [hM]; exact .inl h))).trans (Kept.grown (C := M C) (grownBy_putObj' _ _ _) (fun r e => by cases e; rw [hM]; exact .inr (.inr rfl))) (fun i h => .inl h)
      · intro k hk
        have hs4 := hk4.size
        have hrl := (Array.getElem?_eq_some_iff.1 hr).1
        rw [hM] at hk ⊢
        rcases hk with hk | rfl | rfl
        · obtain ⟨h1, h2⟩ := hc4 k hk
          refine ⟨?_, by simpa using h2⟩
          rcases h1 with h1 | h1
          · exact .inl (.inl h1)
          · exact .inr (by omega)
        · exact ⟨.inl (.inr (.inl rfl)), by simp; omega⟩
        · exact ⟨.inl (.inr (.inr rfl)), by simp; omega⟩
    | _ => exact hp.elim
  · rintro e W2 ⟨⟨v, rfl⟩, K, C, rfl, hlt, hi, hr, hd⟩
    have hlt := (Array.getElem?_eq_some_iff.1 hr).1
    have hend := run_endLoop (P := P) hr (by rw [hL]; simp)
    rw [hL] at hend
    exact ⟨none, _, hend, hdone _ C _ (Nat.le_refl _) (put _ _ hi (by omega) hr rfl) ((World.putObj_heap_other (by omega)).trans hd)⟩
end Go.Proofs.Ytlnnkkbcmidddaa
