/- What the laws of layer 8 rest on, in plain Lean. -/
import Derived.Test.YtlnnkkbcmidddaaPickP
namespace Go.Proofs.Ytlnnkkbcmidddaa

theorem ahead_iff (a b : Rul) : aheadI a b = true ↔ b.len < a.len ∨ (a.len = b.len ∧ (b.prio < a.prio ∨ (a.prio = b.prio ∧ b.inn < a.inn))) := by
  unfold aheadI
  by_cases h1 : a.len = b.len
  · by_cases h2 : a.prio = b.prio
    · simp [h1, h2]
    · simp [h1, h2]
  · simp [h1]
theorem ahead_trans {a b c : Rul} (h : aheadI a b = true) (k : aheadI b c = true) : aheadI a c = true := by
  rw [ahead_iff] at *
  omega
theorem ahead_irrefl (a : Rul) : aheadI a a = false := by
  cases h : aheadI a a with
  | false => rfl
  | true => rw [ahead_iff] at h; omega
section
variable {inn dst : Int}
/-- The rule that counts. -/
def eltB (inn dst : Int) (l : List Rul) : Option Rul := (bestN inn dst l l.length).bind (l[·]?)
theorem bestN_app (l k : List Rul) : ∀ {n : Nat}, n ≤ l.length → bestN inn dst (l ++ k) n = bestN inn dst l n
  | 0, _ => rfl
  | n + 1, h => by
    have ih := bestN_app l k (n := n) (by omega)
    rw [bestN_succ (show n < (l ++ k).length by rw [List.length_append]; omega), bestN_succ (show n < l.length by omega), ih, List.getElem_append_left (by omega)]
    cases hb : bestN inn dst l n with
    | none => rw [takes_none, takes_none]
    | some j =>
      have hj := (bestN_lt hb).2
      rw [takes_some (show j < (l ++ k).length by rw [List.length_append]; omega), takes_some hj, List.getElem_append_left hj]
theorem best_snoc (l : List Rul) (r : Rul) : bestN inn dst (l ++ [r]) (l ++ [r]).length = if takes inn dst l (bestN inn dst l l.length) r = true then some l.length else bestN inn dst l l.length := by
  rw [List.length_append, List.length_singleton, bestN_succ (by simp), bestN_app l [r] (Nat.le_refl _)]
  have : (l ++ [r])[l.length]'(by simp) = r := by simp
  rw [this]
  have e : takes inn dst (l ++ [r]) (bestN inn dst l l.length) r = takes inn dst l (bestN inn dst l l.length) r := by
    cases hb : bestN inn dst l l.length with
    | none => rw [takes_none, takes_none]
    | some j =>
      have hj := (bestN_lt hb).2
      rw [takes_some (show j < (l ++ [r]).length by rw [List.length_append]; omega), takes_some hj, List.getElem_append_left hj]
  rw [e]
def tkR (inn dst : Int) (l : List Rul) (r : Rul) : Bool := fitsI r inn dst && match eltB inn dst l with | none => true | some q => aheadI r q
theorem takes_elt (l : List Rul) (r : Rul) : takes inn dst l (bestN inn dst l l.length) r = tkR inn dst l r := rfl
theorem tkR_none {l : List Rul} (h : eltB inn dst l = none) (r : Rul) : tkR inn dst l r = fitsI r inn dst := by unfold tkR; rw [h]; simp
theorem tkR_some {l : List Rul} {q : Rul} (h : eltB inn dst l = some q) (r : Rul) : tkR inn dst l r = (fitsI r inn dst && aheadI r q) := by unfold tkR; rw [h]
theorem eltB_snoc (l : List Rul) (r : Rul) : eltB inn dst (l ++ [r]) = if tkR inn dst l r = true then some r else eltB inn dst l := by
  have h := best_snoc (inn := inn) (dst := dst) l r
  rw [takes_elt] at h
  show (bestN inn dst (l ++ [r]) (l ++ [r]).length).bind _ = _
  rw [h]
  split
  · simp
  · cases hb : bestN inn dst l l.length with
    | none => simp [eltB, hb]
    | some j =>
      have hj := (bestN_lt hb).2
      simp [eltB, hb, List.getElem?_append_left hj]
theorem snoc_ind {α : Type} {q : List α → Prop} (h0 : q []) (h1 : ∀ l x, q l → q (l ++ [x])) (l : List α) : q l := by
  have : ∀ n (l : List α), l.length = n → q l := by
    intro n
    induction n with
    | zero => intro l hl; rw [List.length_eq_zero_iff.1 hl]; exact h0
    | succ n ih =>
      intro l hl
      have hne : l ≠ [] := fun e => by rw [e] at hl; simp at hl
      rw [← List.dropLast_concat_getLast hne]
      exact h1 _ _ (ih _ (by rw [List.length_dropLast, hl]; rfl))
  exact this _ l rfl
theorem eltB_none {l : List Rul} (h : eltB inn dst l = none) : ∀ r ∈ l, fitsI r inn dst = false := by
  refine snoc_ind (q := fun l => eltB inn dst l = none → ∀ r ∈ l, fitsI r inn dst = false) (fun _ r hr => by simp at hr) (fun l x ih h r hr => ?_) l h
  rw [eltB_snoc] at h
  split at h
  · cases h
  · rename_i hc
    rw [tkR_none h] at hc
    rcases List.mem_append.1 hr with hr | hr
    · exact ih h r hr
    · rw [List.mem_singleton.1 hr]
      simpa using hc
theorem eltB_some {l : List Rul} {b : Rul} (h : eltB inn dst l = some b) : b ∈ l ∧ fitsI b inn dst = true ∧ ∀ r ∈ l, fitsI r inn dst = true → aheadI r b = false := by
  revert b
  refine snoc_ind (q := fun l => ∀ {b : Rul}, eltB inn dst l = some b → b ∈ l ∧ fitsI b inn dst = true ∧ ∀ r ∈ l, fitsI r inn dst = true → aheadI r b = false) (fun {b} h => by simp [eltB, bestN] at h) (fun l x ih {b} h => ?_) l
  rw [eltB_snoc] at h
  split at h
  · rename_i hc
    injection h with h
    subst h
    have hc1 : fitsI x inn dst = true := by
      unfold tkR at hc
      rw [Bool.and_eq_true] at hc
      exact hc.1
    refine ⟨by simp, hc1, fun r hr hf => ?_⟩
    rcases List.mem_append.1 hr with hr | hr
    · cases he : eltB inn dst l with
      | none => rw [eltB_none he r hr] at hf; cases hf
      | some q =>
        have hq := ih he
        rw [tkR_some he, Bool.and_eq_true] at hc
        cases ha : aheadI r x with
        | false => rfl
        | true =>
          have := ahead_trans ha hc.2
          rw [hq.2.2 r hr hf] at this
          cases this
    · rw [List.mem_singleton.1 hr]; exact ahead_irrefl x
  · rename_i hc
    have hq := ih h
    refine ⟨List.mem_append_left _ hq.1, hq.2.1, fun r hr hf => ?_⟩
    rcases List.mem_append.1 hr with hr | hr
    · exact hq.2.2 r hr hf
    · rw [List.mem_singleton.1 hr] at hf ⊢
      rw [tkR_some h, hf] at hc
      simpa using hc
/-- Which one counts, by its number. -/
theorem first_cases (inn dst : Int) (l : List Rul) : (firstI inn dst l = -1 ∧ eltB inn dst l = none) ∨ ∃ (j : Nat) (b : Rul), firstI inn dst l = j ∧ j < l.length ∧ l[j]? = some b ∧ eltB inn dst l = some b := by
  unfold firstI eltB
  cases hb : bestN inn dst l l.length with
  | none => exact .inl ⟨rfl, rfl⟩
  | some j =>
    have hj := (bestN_lt hb).2
    exact .inr ⟨j, l[j], rfl, hj, List.getElem?_eq_getElem hj, by simp [hj]⟩
/-- Rules that do not fit do not matter. -/
theorem eltB_only (l : List Rul) : eltB inn dst (l.filter fun r => fitsI r inn dst) = eltB inn dst l := by
  refine snoc_ind (q := fun l => eltB inn dst (l.filter fun r => fitsI r inn dst) = eltB inn dst l) rfl (fun l x ih => ?_) l
  rw [List.filter_append, eltB_snoc]
  cases hf : fitsI x inn dst with
  | false =>
    have : tkR inn dst l x = false := by unfold tkR; rw [hf]; rfl
    rw [List.filter_cons_of_neg (by simp [hf]), List.filter_nil, List.append_nil, ih, this]; rfl
  | true =>
    have : tkR inn dst (l.filter fun r => fitsI r inn dst) x = tkR inn dst l x := by unfold tkR; rw [ih]
    rw [List.filter_cons_of_pos (by simp [hf]), List.filter_nil, eltB_snoc, ih, this]
theorem first_more (l : List Rul) (r : Rul) : firstI inn dst (l ++ [r]) = if tkR inn dst l r = true then (l.length : Int) else firstI inn dst l := by
  unfold firstI
  rw [best_snoc, takes_elt]
  split <;> rfl
/-- The same list otherwise ordered: rules of one place alike. -/
theorem eltB_any {l k : List Rul} (h : List.Perm l k) : (eltB inn dst l = none ↔ eltB inn dst k = none) ∧ ∀ a b, eltB inn dst l = some a → eltB inn dst k = some b → aheadI a b = false ∧ aheadI b a = false := by
  constructor
  · constructor
    · intro hl
      cases hk : eltB inn dst k with
      | none => rfl
      | some b =>
        have := eltB_some hk
        rw [eltB_none hl b (h.mem_iff.2 this.1)] at this
        exact absurd this.2.1 (by simp)
    · intro hk
      cases hl : eltB inn dst l with
      | none => rfl
      | some b =>
        have := eltB_some hl
        rw [eltB_none hk b (h.mem_iff.1 this.1)] at this
        exact absurd this.2.1 (by simp)
  · intro a b ha hb
    have h1 := eltB_some ha
    have h2 := eltB_some hb
    exact ⟨h2.2.2 a (h.mem_iff.1 h1.1) h1.2.1, h1.2.2 b (h.mem_iff.2 h2.1) h2.2.1⟩
end
end Go.Proofs.Ytlnnkkbcmidddaa
