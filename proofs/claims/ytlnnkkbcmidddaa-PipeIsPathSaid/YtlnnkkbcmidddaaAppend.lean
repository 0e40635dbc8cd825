/- append, as an operation of a statement that leaves its order open; for every program. -/
import Derived.Test.YtlnnkkbcmidddaaOwn
import Derived.Test.YtlnnkkbcmidddaaRegion
namespace Go.Proofs.Ytlnnkkbcmidddaa
open Go.RowKit

theorem OpYields.mono {P : Program} {o : Oper} {a : Act} {w : World} {R R' : Value → World → Prop} (h : OpYields P o a w R) (hR : ∀ v w', R v w' → R' v w') : OpYields P o a w R' := by
  unfold OpYields at *
  split at h
  · exact hR _ _ h
  · exact hR _ _ h
  · exact Calls.mono h fun e w'' ⟨v, he, hv⟩ => ⟨v, he, hR _ _ hv⟩
  · exact h.elim
theorem below_of_grown {w W : World} (h : w.grownBy W none) : Below w.heap.size w W := ⟨h.os, h.tape, h.output, h.size, fun i hi => h.block i hi (by simp)⟩
theorem Own.set {α : Type} {f : Flat α} {w : World} {base : Nat} {e : TypeId} {v : Value} {xs : List α} (h : Own f w base e v xs) {p : Addr} (hp : p.block < base) (u : Value) : Own f (w.setCell p u) base e v xs := by
  obtain ⟨h1, h2⟩ := h
  refine ⟨h1, ?_⟩
  rcases h2 with h2 | ⟨g, cap, cur, hv, hg, hh, r⟩
  · exact .inl h2
  · exact .inr ⟨g, cap, cur, hv, hg, blk_far hh (by omega) u, r⟩

theorem Own.far {α : Type} {f : Flat α} {w : World} {base : Nat} {e : TypeId} {v : Value} {xs : List α} (h : Own f w base e v xs) {p : Addr} (hp : v.ownBlock ≠ some p.block) (u : Value) : Own f (w.setCell p u) base e v xs := by
  obtain ⟨h1, h2⟩ := h
  refine ⟨h1, ?_⟩
  rcases h2 with h2 | ⟨g, cap, cur, hv, hg, hh, r⟩
  · exact .inl h2
  · exact .inr ⟨g, cap, cur, hv, hg, blk_far hh (fun e => hp (by rw [hv, ← e]; rfl)) u, r⟩

section
variable {α : Type} {f : Flat α} {P : Program} {o : Oper} {a : Act}
/-- 'append(v, ys...)'. -/
theorem yields_appRow {W : World} (base : Nat) (s x : Operand) (t e : TypeId) (z : Value) (bytes : Nat)
    (ho : o.op = .call { callee := .builtin .append, args := #[s, x], argTypes := #[t, t] })
    (ht : P.underlying t = some (.slice e)) (hinfo : (P.info? e).map (fun i => (i.zero, i.size, i.bytes)) = some (some z, f.sz, bytes)) (hz : z.cells.size = f.sz) (hb0 : 0 < bytes)
    (v : Value) (xs ys : List α) (A : Option Addr) (c : Nat) (hs : a.eval s = v) (hx : a.eval x = .slice A ys.length c) (hnil : A = none → c = 0)
    (HO : Own f W base e v xs) (HY : Rd f.kd W A ys.length ys) (hbase : base ≤ W.heap.size) (hl : (xs.length + ys.length) * bytes ≤ 140737488355328) :
    OpYields P o a W fun v1 w1 => Own f w1 base e v1 (xs ++ ys) ∧ W.grownBy w1 v.ownBlock ∧ (v1.ownBlock = v.ownBlock ∨ ∃ b, v1.ownBlock = some b ∧ W.heap.size ≤ b) := by
  obtain ⟨i0, hi, hzz⟩ := Option.map_eq_some_iff.1 hinfo
  simp only [Prod.mk.injEq] at hzz
  obtain ⟨hz0, hz1, hz2⟩ := hzz
  have hlen : xs.length + ys.length ≤ 140737488355328 := Nat.le_trans (Nat.le_mul_of_pos_right _ hb0) hl
  unfold OpYields
  cases hA : A with
  | none =>
    have hc := hnil hA
    have hy : ys = [] := by
      cases ys with
      | nil => rfl
      | cons y ys =>
        obtain ⟨b, o, e, _⟩ := HY.2.2 (by simp)
        rw [hA] at e
        cases e
    subst hy
    rw [hA, hc] at hx
    have hrun := run_append_owned_none (P := P) (w := W) base t o.type e i0 f.sz ht hi v xs.length (xs.flatMap f.enc) HO
    simp only [List.length_nil] at hx
    simp [execOp, ho, resolve, invoke, builtin, hs, hx, hrun, Result.andThen]
    exact ⟨HO, rfl, rfl, rfl, Nat.le_refl _, fun _ _ _ => rfl⟩
  | some ad =>
    have hnews : ∀ j u, (ys.flatMap f.enc)[j]? = some u → W.cell? (ad.add j) = some u := by
      intro j u hu
      have hn : 0 < ys.length := by
        cases ys with
        | nil => simp at hu
        | cons => simp
      obtain ⟨b, o, e, _⟩ := HY.2.2 hn
      have h1 := HY.cells e j u hu
      rw [hA] at e
      injection e with e
      subst e
      rw [show (⟨b, o, none⟩ : Addr).add j = ⟨b, o + j, none⟩ from by unfold Addr.add; split <;> simp_all]
      exact h1
    rw [hA] at hx
    obtain ⟨v', w', hr, h2, h3, h4, h5⟩ := run_append_own_at (P := P) W base t o.type e i0 z f.sz bytes ht hi hz0 hz1 hz2 hz f.pos v xs.length (xs.flatMap f.enc) HO ad ys.length c (ys.flatMap f.enc) (f.len_all ys) hnews (f.one_all ys) (by simp only [maxLen]; omega) hl hbase
    unfold execOp
    simp only [ho, resolve, invoke, builtin, Sem.run_bind, Sem.run_pure, Result.andThen_ok, List.map_toArray, List.map_cons, List.map_nil, hs, hx, hr]
    refine ⟨?_, h3, ?_⟩
    · unfold Own
      rw [List.length_append, List.flatMap_append]
      exact h2
    · rcases h5 with h5 | h5
      · exact .inl h5
      · exact .inr ⟨_, h5, Nat.le_refl _⟩
end
end Go.Proofs.Ytlnnkkbcmidddaa
