/- Plain laws of a packet's walk. -/
import Derived.Test.YtlnnkkbcmidddaaPathV
namespace Go.Proofs.Ytlnnkkbcmidddaa

section
variable {s p : Int} {ls : List Lnk} {cs : List (List Rul)}
theorem walkP_ind {motive : Fly → List Hop → Prop} (h1 : ∀ f, (stepP s p ls cs f).1.what ≠ 0 → motive f [(stepP s p ls cs f).1])
    (h2 : ∀ f, (stepP s p ls cs f).1.what = 0 → motive (stepP s p ls cs f).2 (walkP s p ls cs (stepP s p ls cs f).2) → motive f ((stepP s p ls cs f).1 :: walkP s p ls cs (stepP s p ls cs f).2)) : ∀ f, motive f (walkP s p ls cs f) := by
  have : ∀ (n : Nat) (f : Fly), f.ttl.toNat = n → motive f (walkP s p ls cs f) := by
    intro n
    induction n with
    | zero =>
      intro f hf
      rw [walkP_step]
      split
      · rename_i h
        obtain ⟨h3, _⟩ := step_went h
        omega
      · rename_i h
        exact h1 f h
    | succ n ih =>
      intro f hf
      rw [walkP_step]
      split
      · rename_i h
        obtain ⟨h3, h4⟩ := step_went h
        exact h2 f h (ih _ (by omega))
      · rename_i h
        exact h1 f h
  exact fun f => this _ f rfl
/-- What a step is, and where it goes. -/
theorem stepP_cases (f : Fly) : (∃ w o, stepP s p ls cs f = (hopAt f w o, noFly) ∧ w ≠ 0) ∨ (∃ o a b, 1 ≤ f.ttl ∧ stepP s p ls cs f = (hopAt f 0 o, { f with ttl := f.ttl - 1, sw := a, inn := b })) := by
  unfold stepP
  by_cases ht : f.ttl < 1
  · rw [if_pos ht]; exact .inl ⟨_, _, rfl, by decide⟩
  · rw [if_neg ht]
    cases bestN f.inn f.dst (atL cs f.sw) (atL cs f.sw).length with
    | none => exact .inl ⟨_, _, rfl, by decide⟩
    | some j =>
      simp only []
      cases (atL cs f.sw)[j]? with
      | none => exact .inl ⟨_, _, rfl, by decide⟩
      | some r =>
        simp only []
        by_cases hk : r.kind ≠ 1
        · rw [if_pos hk]; exact .inl ⟨_, _, rfl, by decide⟩
        · rw [if_neg hk]
          by_cases hf : (farR s p ls f.sw r.port).2.2 = true
          · rw [if_pos hf]; exact .inr ⟨_, _, _, by omega, rfl⟩
          · rw [if_neg hf]; exact .inl ⟨_, _, rfl, by decide⟩
theorem stepP_id (f : Fly) : (stepP s p ls cs f).1.id = f.id ∧ (stepP s p ls cs f).1.tag = f.tag := by
  rcases stepP_cases (s := s) (p := p) (ls := ls) (cs := cs) f with ⟨w, o, e, _⟩ | ⟨o, a, b, _, e⟩ <;> rw [e] <;> exact ⟨rfl, rfl⟩
theorem stepP_next (f : Fly) (h : (stepP s p ls cs f).1.what = 0) : (stepP s p ls cs f).2.id = f.id ∧ (stepP s p ls cs f).2.tag = f.tag := by
  rcases stepP_cases (s := s) (p := p) (ls := ls) (cs := cs) f with ⟨w, o, e, hw⟩ | ⟨o, a, b, _, e⟩
  · rw [e] at h; exact absurd h hw
  · rw [e]; exact ⟨rfl, rfl⟩
theorem stepP_none (f : Fly) (h : (stepP s p ls cs f).1.what ≠ 0) : (stepP s p ls cs f).2 = noFly := by
  rcases stepP_cases (s := s) (p := p) (ls := ls) (cs := cs) f with ⟨w, o, e, hw⟩ | ⟨o, a, b, _, e⟩
  · rw [e]
  · rw [e] at h; exact absurd rfl h
theorem walkP_pos (f : Fly) : 0 < (walkP s p ls cs f).length := by
  rw [walkP_step]; split <;> simp
theorem walkP_len (f : Fly) : (walkP s p ls cs f).length ≤ f.ttl.toNat + 1 := walkN_len _ _ _ _ _ _
/-- All but the last one went; each one is the packet's. -/
theorem walkP_ends (f : Fly) : ∀ i (h : i < (walkP s p ls cs f).length), ((walkP s p ls cs f)[i].what = 0 ↔ i + 1 < (walkP s p ls cs f).length) ∧ (walkP s p ls cs f)[i].id = f.id ∧ (walkP s p ls cs f)[i].tag = f.tag := by
  refine walkP_ind (motive := fun f l => ∀ i (h : i < l.length), (l[i].what = 0 ↔ i + 1 < l.length) ∧ l[i].id = f.id ∧ l[i].tag = f.tag) ?_ ?_ f
  · intro f h i hi
    obtain rfl : i = 0 := by simpa using hi
    refine ⟨by simpa using h, ?_⟩
    exact stepP_id f
  · intro f h ih i hi
    cases i with
    | zero =>
      have := walkP_pos (s := s) (p := p) (ls := ls) (cs := cs) (stepP s p ls cs f).2
      refine ⟨by simp [h]; omega, ?_⟩
      exact stepP_id f
    | succ i =>
      have := ih i (by simpa using hi)
      obtain ⟨e1, e2⟩ := stepP_next f h
      simp only [List.getElem_cons_succ, List.length_cons]
      rw [e1, e2] at this
      exact ⟨by rw [this.1]; omega, this.2⟩
/-! ### another number, another tag -/
def numF (id tag src : Int) (f : Fly) : Fly := { f with id := id, tag := tag, src := src }
def numH (id tag : Int) (h : Hop) : Hop := { h with id := id, tag := tag }
theorem stepP_num (id tag src : Int) (f : Fly) : (stepP s p ls cs (numF id tag src f)).1 = numH id tag (stepP s p ls cs f).1 ∧ ((stepP s p ls cs f).1.what = 0 → (stepP s p ls cs (numF id tag src f)).2 = numF id tag src (stepP s p ls cs f).2) := by
  unfold stepP
  simp only [show (numF id tag src f).ttl = f.ttl from rfl, show (numF id tag src f).inn = f.inn from rfl, show (numF id tag src f).dst = f.dst from rfl, show (numF id tag src f).sw = f.sw from rfl]
  by_cases ht : f.ttl < 1
  · simp [ht, hopAt, numF, numH]
  · simp only [if_neg ht]
    cases bestN f.inn f.dst (atL cs f.sw) (atL cs f.sw).length with
    | none => simp [hopAt, numF, numH]
    | some j =>
      simp only []
      cases (atL cs f.sw)[j]? with
      | none => simp [hopAt, numF, numH]
      | some r =>
        simp only []
        by_cases hk : r.kind ≠ 1
        · simp [if_pos hk, hopAt, numF, numH]
        · simp only [if_neg hk]
          by_cases hf : (farR s p ls f.sw r.port).2.2 = true
          · simp [if_pos hf, hopAt, numF, numH]
          · simp [if_neg hf, hopAt, numF, numH]
theorem walkP_num (id tag src : Int) (f : Fly) : walkP s p ls cs (numF id tag src f) = (walkP s p ls cs f).map (numH id tag) := by
  refine walkP_ind (motive := fun f l => walkP s p ls cs (numF id tag src f) = l.map (numH id tag)) ?_ ?_ f
  · intro f h
    obtain ⟨e1, _⟩ := stepP_num (s := s) (p := p) (ls := ls) (cs := cs) id tag src f
    rw [walkP_step, e1, if_neg (by simpa [numH] using h)]
    rfl
  · intro f h ih
    obtain ⟨e1, e2⟩ := stepP_num (s := s) (p := p) (ls := ls) (cs := cs) id tag src f
    rw [walkP_step, e1, if_pos (by simpa [numH] using h), e2 h, ih]
    rfl
theorem walkP_renum (id tag src : Int) (f : Fly) : (walkP s p ls cs (numF id tag src f)).map (numH f.id f.tag) = walkP s p ls cs f := by
  rw [walkP_num, List.map_map]
  refine (List.map_congr_left fun h hh => ?_).trans (List.map_id _)
  obtain ⟨i, hi, rfl⟩ := List.mem_iff_getElem.1 hh
  obtain ⟨_, e1, e2⟩ := walkP_ends (s := s) (p := p) (ls := ls) (cs := cs) f i hi
  simp only [numH, Function.comp]
  rw [← e1, ← e2]
  rfl
/-! ### a greater TTL -/
def keepL (l : List Hop) : Nat := if (l.getLast?.map Hop.what) = some 5 then l.length - 1 else l.length
theorem stepP_more (more : Int) (hm : 0 ≤ more) (f : Fly) (ht : 1 ≤ f.ttl) : (stepP s p ls cs { f with ttl := f.ttl + more }).1 = (stepP s p ls cs f).1 ∧ (stepP s p ls cs f).1.what ≠ 5 ∧
    ((stepP s p ls cs f).1.what = 0 → (stepP s p ls cs { f with ttl := f.ttl + more }).2 = { (stepP s p ls cs f).2 with ttl := (stepP s p ls cs f).2.ttl + more }) := by
  unfold stepP
  rw [if_neg (show ¬ f.ttl < 1 by omega), if_neg (show ¬ f.ttl + more < 1 by omega)]
  simp only []
  cases bestN f.inn f.dst (atL cs f.sw) (atL cs f.sw).length with
  | none => simp [hopAt]
  | some j =>
    simp only []
    cases (atL cs f.sw)[j]? with
    | none => simp [hopAt]
    | some r =>
      simp only []
      by_cases hk : r.kind ≠ 1
      · simp [if_pos hk, hopAt]
      · simp only [if_neg hk]
        by_cases hf : (farR s p ls f.sw r.port).2.2 = true
        · simp [if_pos hf, hopAt]; omega
        · simp [if_neg hf, hopAt]
theorem walkP_more (more : Int) (hm : 0 ≤ more) (f : Fly) : keepL (walkP s p ls cs f) ≤ (walkP s p ls cs { f with ttl := f.ttl + more }).length ∧
    (walkP s p ls cs f).take (keepL (walkP s p ls cs f)) = (walkP s p ls cs { f with ttl := f.ttl + more }).take (keepL (walkP s p ls cs f)) := by
  refine walkP_ind (motive := fun f l => keepL l ≤ (walkP s p ls cs { f with ttl := f.ttl + more }).length ∧ l.take (keepL l) = (walkP s p ls cs { f with ttl := f.ttl + more }).take (keepL l)) ?_ ?_ f
  · intro f h
    by_cases ht : f.ttl < 1
    · have : (stepP s p ls cs f).1.what = 5 := by unfold stepP; rw [if_pos ht]; rfl
      simp [keepL, this]
    · obtain ⟨e1, e2, _⟩ := stepP_more (s := s) (p := p) (ls := ls) (cs := cs) more hm f (by omega)
      rw [walkP_step, e1, if_neg h]
      simp [keepL, e2]
  · intro f h ih
    obtain ⟨ht, _⟩ := step_went h
    obtain ⟨e1, _, e3⟩ := stepP_more (s := s) (p := p) (ls := ls) (cs := cs) more hm f ht
    rw [walkP_step _ _ _ _ { f with ttl := f.ttl + more }, e1, if_pos h, e3 h]
    have hp := walkP_pos (s := s) (p := p) (ls := ls) (cs := cs) (stepP s p ls cs f).2
    generalize walkP s p ls cs (stepP s p ls cs f).2 = a at *
    have hk : keepL ((stepP s p ls cs f).1 :: a) = keepL a + 1 := by
      cases a with
      | nil => simp at hp
      | cons x a =>
        unfold keepL
        rw [List.getLast?_cons_cons]
        split <;> simp
    rw [hk]
    simp only [List.take_succ_cons, List.length_cons, ih.2, and_true]
    omega
end
end Go.Proofs.Ytlnnkkbcmidddaa
