/- Sorting in plain Lean: a list's one order under a total order, what the merges in place do to lists, and the order that rules stand in. -/
import Derived.Test.YtlnnkkbcmidddaaBitsP
namespace Go.Proofs.Ytlnnkkbcmidddaa

/-- Whether a rule stands ahead of another one. -/
def ltR (a b : Rul) : Prop := b.len < a.len ∨ (a.len = b.len ∧ (b.prio < a.prio ∨ (a.prio = b.prio ∧ (b.inn < a.inn ∨ (a.inn = b.inn ∧ (a.addr < b.addr ∨ (a.addr = b.addr ∧ (a.kind < b.kind ∨ (a.kind = b.kind ∧ a.port < b.port)))))))))
instance (a b : Rul) : Decidable (ltR a b) := by unfold ltR; infer_instance
theorem ltR_irrefl (a : Rul) : ¬ ltR a a := by unfold ltR; omega
theorem ltR_trans {a b c : Rul} (h : ltR a b) (k : ltR b c) : ltR a c := by unfold ltR at *; omega
theorem ltR_tri {a b : Rul} (h : ¬ ltR a b) (k : ¬ ltR b a) : a = b := by
  obtain ⟨a1, a2, a3, a4, a5, a6⟩ := a
  obtain ⟨b1, b2, b3, b4, b5, b6⟩ := b
  unfold ltR at *
  dsimp only at *
  have : a1 = b1 ∧ a2 = b2 ∧ a3 = b3 ∧ a4 = b4 ∧ a5 = b5 ∧ a6 = b6 := by omega
  obtain ⟨rfl, rfl, rfl, rfl, rfl, rfl⟩ := this
  rfl
abbrev leR (a b : Rul) : Prop := ¬ ltR b a
theorem leR_trans {a b c : Rul} (h : leR a b) (k : leR b c) : leR a c := fun hc => by
  by_cases h2 : ltR c b
  · exact k h2
  · by_cases h3 : ltR b c
    · exact h (ltR_trans h3 hc)
    · rw [ltR_tri h3 h2] at h; exact h hc
theorem ltR_le {a b : Rul} (h : ltR a b) : leR a b := fun k => ltR_irrefl _ (ltR_trans h k)
abbrev SrtR (l : List Rul) : Prop := l.Pairwise leR
def leB (a b : Rul) : Bool := decide (leR a b)
/-- The one order of rules. -/
def sortP (l : List Rul) : List Rul := l.mergeSort leB
theorem sortP_perm (l : List Rul) : List.Perm (sortP l) l := List.mergeSort_perm l _
theorem sortP_srt (l : List Rul) : SrtR (sortP l) := by
  have h := List.pairwise_mergeSort (le := leB) (fun a b c h1 h2 => by unfold leB at *; simp only [decide_eq_true_eq] at *; exact leR_trans h1 h2) (fun a b => by
    unfold leB
    by_cases h : ltR b a
    · simp [leR, ltR_le h]
    · simp [leR, h]) l
  exact h.imp fun {a b} h => by unfold leB at h; simpa using h
theorem sortP_uniq {l s : List Rul} (hp : List.Perm s l) (hs : SrtR s) : sortP l = s :=
  List.Perm.eq_of_pairwise (le := leR) (fun a b _ _ h1 h2 => ltR_tri h2 h1) (sortP_srt l) hs ((sortP_perm l).trans hp.symm)
theorem sortP_id {l : List Rul} (h : SrtR l) : sortP l = l := sortP_uniq (List.Perm.refl _) h
theorem sortP_of_perm {l k : List Rul} (h : List.Perm l k) : sortP l = sortP k := sortP_uniq ((sortP_perm k).trans h.symm) (sortP_srt k)
theorem sortP_len (l : List Rul) : (sortP l).length = l.length := (sortP_perm l).length_eq
theorem sortP_one (x : Rul) : sortP [x] = [x] := sortP_id (List.pairwise_singleton _ _)
theorem sortP_nil : sortP [] = [] := sortP_id List.Pairwise.nil

/-! ### the merge of two sorted lists, by their parts -/
theorem srt_app {l k : List Rul} : SrtR (l ++ k) ↔ SrtR l ∧ SrtR k ∧ ∀ a ∈ l, ∀ b ∈ k, leR a b := List.pairwise_append
/-- Where the last of the first is not behind the first of the second, none of the first is behind any of the second. -/
theorem srt_ends {l k : List Rul} (hl : SrtR l) (hk : SrtR k) (h : ∀ (h1 : l ≠ []) (h2 : k ≠ []), leR (l.getLast h1) (k.head h2)) : ∀ a ∈ l, ∀ b ∈ k, leR a b := by
  intro a ha b hb
  have h1 : l ≠ [] := List.ne_nil_of_mem ha
  have h2 : k ≠ [] := List.ne_nil_of_mem hb
  have e1 : leR a (l.getLast h1) := by
    rw [← List.dropLast_concat_getLast h1] at ha hl
    rcases List.mem_append.1 ha with ha | ha
    · exact (srt_app.1 hl).2.2 a ha _ (by simp)
    · rw [List.mem_singleton.1 ha]; exact ltR_irrefl _
  have e2 : leR (k.head h2) b := by
    obtain ⟨y, t, rfl⟩ := List.exists_cons_of_ne_nil h2
    rcases List.mem_cons.1 hb with rfl | hb
    · exact ltR_irrefl _
    · exact (List.pairwise_cons.1 hk).1 b hb
  exact leR_trans (leR_trans e1 (h h1 h2)) e2
/-- The merge of two, each cut in two so that the first parts stand ahead of the second ones. -/
theorem sortP_parts {A1 A2 B1 B2 : List Rul} (hA : SrtR (A1 ++ A2)) (hB : SrtR (B1 ++ B2)) (h1 : ∀ (h1 : A1 ≠ []) (h2 : B2 ≠ []), leR (A1.getLast h1) (B2.head h2)) (h2 : ∀ (h1 : B1 ≠ []) (h2 : A2 ≠ []), leR (B1.getLast h1) (A2.head h2)) :
    sortP (A1 ++ A2 ++ (B1 ++ B2)) = sortP (A1 ++ B1) ++ sortP (A2 ++ B2) := by
  obtain ⟨a1, a2, a3⟩ := srt_app.1 hA
  obtain ⟨b1, b2, b3⟩ := srt_app.1 hB
  have c1 := srt_ends a1 b2 h1
  have c2 := srt_ends b1 a2 h2
  refine sortP_uniq ?_ (srt_app.2 ⟨sortP_srt _, sortP_srt _, fun a ha b hb => ?_⟩)
  · refine ((sortP_perm _).append (sortP_perm _)).trans ?_
    simp only [List.append_assoc]
    refine List.Perm.append_left _ ?_
    rw [← List.append_assoc, ← List.append_assoc]
    exact List.Perm.append_right _ List.perm_append_comm
  · have ha := (sortP_perm _).mem_iff.1 ha
    have hb := (sortP_perm _).mem_iff.1 hb
    rcases List.mem_append.1 ha with ha | ha <;> rcases List.mem_append.1 hb with hb | hb
    · exact a3 a ha b hb
    · exact c1 a ha b hb
    · exact c2 a ha b hb
    · exact b3 a ha b hb
/-- One more. -/
theorem sortP_put {S1 S2 : List Rul} {x : Rul} (hS : SrtR (S1 ++ S2)) (h1 : ∀ h : S1 ≠ [], leR (S1.getLast h) x) (h2 : ∀ y ∈ S2, leR x y) {l : List Rul} (hp : List.Perm (S1 ++ S2) l) : sortP (l ++ [x]) = S1 ++ x :: S2 := by
  obtain ⟨a1, a2, a3⟩ := srt_app.1 hS
  have c1 := srt_ends a1 (List.pairwise_singleton leR x) (fun h _ => h1 h)
  refine sortP_uniq ?_ (srt_app.2 ⟨a1, List.pairwise_cons.2 ⟨h2, a2⟩, fun a ha b hb => ?_⟩)
  · refine List.Perm.trans ?_ (hp.append_right [x])
    refine (List.perm_middle).trans ?_
    exact (List.perm_append_comm (l₁ := [x]) (l₂ := S1 ++ S2))
  · rcases List.mem_cons.1 hb with rfl | hb
    · exact c1 a ha _ (by simp)
    · exact a3 a ha b hb

/-! ### sorting by runs -/
/-- Each run of n sorted. -/
def chunkP (n : Nat) (l : List Rul) : List Rul := if h : n = 0 ∨ l.length ≤ n then sortP l else sortP (l.take n) ++ chunkP n (l.drop n)
termination_by l.length
decreasing_by rw [List.length_drop]; omega
theorem chunkP_le {n : Nat} {l : List Rul} (h : l.length ≤ n) : chunkP n l = sortP l := by rw [chunkP, dif_pos (.inr h)]
theorem chunkP_gt {n : Nat} {l : List Rul} (h0 : n ≠ 0) (h : n < l.length) : chunkP n l = sortP (l.take n) ++ chunkP n (l.drop n) := by rw [chunkP, dif_neg (by omega)]
theorem chunkP_app {n : Nat} (h0 : n ≠ 0) {a l : List Rul} (ha : a.length = n) : chunkP n (a ++ l) = sortP a ++ chunkP n l := by
  by_cases hl : l = []
  · subst hl
    rw [List.append_nil, chunkP_le (by omega), chunkP_le (by simp), sortP_nil, List.append_nil]
  · have : 0 < l.length := List.length_pos_iff.2 hl
    rw [chunkP_gt h0 (by rw [List.length_append]; omega), List.take_left' ha, List.drop_left' ha]
theorem chunkP_len (n : Nat) (l : List Rul) : (chunkP n l).length = l.length := by
  rw [chunkP]
  split
  · exact sortP_len l
  · rename_i h
    rw [List.length_append, sortP_len, chunkP_len n (l.drop n), List.length_take, List.length_drop]
    omega
termination_by l.length
decreasing_by rw [List.length_drop]; omega

/-! ### swaps -/
theorem set_mid {α : Type} (P : List α) (x : α) (Q : List α) (y : α) {i : Nat} (h : i = P.length) : (P ++ x :: Q).set i y = P ++ y :: Q := by
  subst h
  rw [List.set_append_right _ _ (Nat.le_refl _), Nat.sub_self, List.set_cons_zero]
theorem get_mid {α : Type} (P : List α) (x : α) (Q : List α) {i : Nat} (h : i = P.length) (hi : i < (P ++ x :: Q).length) : (P ++ x :: Q)[i] = x := by
  subst h
  rw [List.getElem_append_right (Nat.le_refl _)]
  simp
/-- Two of a list change places. -/
theorem swap_mid {α : Type} (P : List α) (x : α) (M : List α) (y : α) (Q : List α) {i j : Nat} (hi : i = P.length) (hj : j = P.length + 1 + M.length) : ((P ++ x :: (M ++ y :: Q)).set i y).set j x = P ++ y :: (M ++ x :: Q) := by
  rw [set_mid P x _ y hi]
  have : P ++ y :: (M ++ y :: Q) = (P ++ y :: M) ++ y :: Q := by simp
  rw [this, set_mid _ _ _ _ (by simp; omega)]
  simp
end Go.Proofs.Ytlnnkkbcmidddaa
