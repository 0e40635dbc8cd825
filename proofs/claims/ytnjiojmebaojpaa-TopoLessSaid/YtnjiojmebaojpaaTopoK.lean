/- Layer 11's laws without the document's answer, in plain Lean. -/
import Derived.Test.YtnjiojmebaojpaaTopoL
namespace Go.Proofs.Ytnjiojmebaojpaa

theorem endsL_append (a b : List Lnk) : endsL (a ++ b) = endsL a ++ endsL b := by unfold endsL; rw [List.flatMap_append]
theorem endsL_cons (l : Lnk) (b : List Lnk) : endsL (l :: b) = l.fst :: l.snd :: endsL b := rfl
theorem mem_ends {ls : List Lnk} {e : End} : e ∈ endsL ls ↔ ∃ l ∈ ls, e = l.fst ∨ e = l.snd := by
  unfold endsL
  rw [List.mem_flatMap]
  simp
def Joins (ls : List Lnk) (e e' : End) : Prop := ∃ l ∈ ls, (l.fst = e ∧ l.snd = e') ∨ (l.snd = e ∧ l.fst = e')
theorem Joins.symm {ls : List Lnk} {e e' : End} (h : Joins ls e e') : Joins ls e' e := by
  obtain ⟨l, hl, h | h⟩ := h
  · exact ⟨l, hl, .inr ⟨h.2, h.1⟩⟩
  · exact ⟨l, hl, .inl ⟨h.2, h.1⟩⟩
theorem seek_iff {ls : List Lnk} (hn : (endsL ls).Nodup) (e e' : End) : seek ls e = some e' ↔ Joins ls e e' := by
  unfold seek
  induction ls with
  | nil => simp [Joins]
  | cons l ls ih =>
    rw [endsL_cons, List.nodup_cons, List.nodup_cons] at hn
    obtain ⟨n1, n2, n3⟩ := hn
    have ih := ih n3
    rw [List.mem_cons, not_or] at n1
    rw [List.findSome?_cons]
    unfold ofLink
    have away : ∀ k ∈ ls, (k.fst ∈ endsL ls ∧ k.snd ∈ endsL ls) := fun k hk => ⟨mem_ends.2 ⟨k, hk, .inl rfl⟩, mem_ends.2 ⟨k, hk, .inr rfl⟩⟩
    by_cases q1 : l.fst = e
    · rw [if_pos q1]
      constructor
      · intro h
        simp at h
        exact ⟨l, List.mem_cons_self .., .inl ⟨q1, h⟩⟩
      · rintro ⟨k, hk, h⟩
        rcases List.mem_cons.1 hk with rfl | hk
        · rcases h with h | h
          · simp [h.2]
          · exact absurd (q1.trans h.1.symm) n1.1
        · rcases h with h | h
          · exact absurd (by rw [q1, ← h.1]; exact (away k hk).1) n1.2
          · exact absurd (by rw [q1, ← h.1]; exact (away k hk).2) n1.2
    · rw [if_neg q1]
      by_cases q2 : l.snd = e
      · rw [if_pos q2]
        constructor
        · intro h
          simp at h
          exact ⟨l, List.mem_cons_self .., .inr ⟨q2, h⟩⟩
        · rintro ⟨k, hk, h⟩
          rcases List.mem_cons.1 hk with rfl | hk
          · rcases h with h | h
            · exact absurd h.1 q1
            · simp [h.2]
          · rcases h with h | h
            · exact absurd (by rw [q2, ← h.1]; exact (away k hk).1) n2
            · exact absurd (by rw [q2, ← h.1]; exact (away k hk).2) n2
      · rw [if_neg q2]
        show List.findSome? _ ls = some e' ↔ _
        unfold ofLink at ih
        rw [ih]
        constructor
        · rintro ⟨k, hk, h⟩; exact ⟨k, List.mem_cons_of_mem _ hk, h⟩
        · rintro ⟨k, hk, h⟩
          rcases List.mem_cons.1 hk with rfl | hk
          · rcases h with h | h
            · exact absurd h.1 q1
            · exact absurd h.1 q2
          · exact ⟨k, hk, h⟩
theorem ends_apart {ls : List Lnk} (hn : (endsL ls).Nodup) : ∀ l ∈ ls, l.fst ≠ l.snd := by
  induction ls with
  | nil => simp
  | cons k ls ih =>
    rw [endsL_cons, List.nodup_cons, List.nodup_cons] at hn
    intro l hl
    rcases List.mem_cons.1 hl with rfl | hl
    · exact fun h => hn.1 (by rw [h]; exact List.mem_cons_self ..)
    · exact ih hn.2.2 l hl

theorem edge_seek (s p : Int) (ls : List Lnk) (x y : Int) : edgeL s p ls x y = (!(seek ls (x, y)).isSome && isEnd s p (x, y)) := by unfold edgeL; rw [mget_joined]
theorem far_seek (s p : Int) (ls : List Lnk) (x y : Int) : farL s p ls x y = match seek ls (x, y) with | some e => if isEnd s p (x, y) = true then (e.1, e.2, true) else (0, 0, false) | none => (0, 0, false) := by unfold farL; rw [mget_joined]; rfl

/-! Both: who is far from whom. -/
theorem both_no {s p : Int} {ls : List Lnk} {x y : Int} (h : (farL s p ls x y).2.2 = false) : edgeL s p ls x y = isEnd s p (x, y) := by
  rw [far_seek] at h
  rw [edge_seek]
  cases hs : seek ls (x, y) with
  | none => simp
  | some e =>
    rw [hs] at h
    cases he : isEnd s p (x, y) with
    | false => simp
    | true => simp [he] at h
theorem both_yes {s p : Int} {ls : List Lnk} {x y : Int} (hg : Good s p ls) (h : (farL s p ls x y).2.2 = true) :
    isEnd s p (x, y) = true ∧ farL s p ls (farL s p ls x y).1 (farL s p ls x y).2.1 = (x, y, true) ∧ edgeL s p ls x y = false ∧ ¬ ((farL s p ls x y).1 = x ∧ (farL s p ls x y).2.1 = y) := by
  rw [edge_seek]
  rw [far_seek] at h
  cases hs : seek ls (x, y) with
  | none => rw [hs] at h; cases h
  | some e =>
    rw [hs] at h
    cases he : isEnd s p (x, y) with
    | false => simp [he] at h
    | true =>
      obtain ⟨_, hall, hn⟩ := hg
      have hf : farL s p ls x y = (e.1, e.2, true) := by rw [far_seek, hs]; simp [he]
      have hj := (seek_iff hn _ _).1 hs
      have hback := (seek_iff hn _ _).2 hj.symm
      have hin : isEnd s p e = true := hall e (by rw [← seek_isSome, hback]; rfl)
      rw [hf]
      refine ⟨rfl, ?_, by simp, ?_⟩
      · show farL s p ls e.1 e.2 = _
        rw [far_seek, show ((e.1, e.2) : End) = e from rfl, hback]
        simp [hin]
      · rintro ⟨h1, h2⟩
        have heq : e = (x, y) := Prod.ext h1 h2
        obtain ⟨l, hl, h | h⟩ := hj
        · exact ends_apart hn l hl (by rw [h.1, h.2, heq])
        · exact ends_apart hn l hl (by rw [h.1, h.2, heq])

/-! Counts: how many ports lead out. -/
theorem rowL_filter (ls : List Lnk) (x m : Nat) : rowL ls x m = (rowL [] x m).filter fun e => !(seek ls e).isSome := by
  induction m with
  | zero => rfl
  | succ m ih =>
    rw [rowL_succ, rowL_succ, List.filter_append, ← ih]
    congr 1
    rw [mget_joined, mget_joined]
    show _ = List.filter (fun e => !(seek ls e).isSome) [((x : Int), (m : Int))]
    rw [List.filter_cons, List.filter_nil]
    cases h : (seek ls ((x : Int), (m : Int))).isSome <;> rfl
theorem gridL_filter (ls : List Lnk) (m n : Nat) : gridL ls m n = (gridL [] m n).filter fun e => !(seek ls e).isSome := by
  induction n with
  | zero => rfl
  | succ n ih => rw [gridL_succ, gridL_succ, List.filter_append, ← ih, ← rowL_filter]
theorem row0 (x m : Nat) : rowL [] x m = (List.range m).map fun (y : Nat) => (((x : Int), (y : Int)) : End) := by
  induction m with
  | zero => rfl
  | succ m ih =>
    rw [rowL_succ, List.range_succ, List.map_append, ih]
    rfl
theorem mem_row0 (x m : Nat) (e : End) : e ∈ rowL [] x m ↔ e.1 = x ∧ 0 ≤ e.2 ∧ e.2 < m := by
  rw [row0, List.mem_map]
  constructor
  · rintro ⟨y, hy, rfl⟩
    have := List.mem_range.1 hy
    refine ⟨rfl, ?_, ?_⟩ <;> simp <;> omega
  · rintro ⟨h1, h2, h3⟩
    refine ⟨e.2.toNat, List.mem_range.2 (by omega), Prod.ext h1.symm ?_⟩
    show ((e.2.toNat : Nat) : Int) = e.2
    omega
theorem isEnd_nat (m n : Nat) (e : End) : isEnd n m e = true ↔ 0 ≤ e.1 ∧ e.1 < n ∧ 0 ≤ e.2 ∧ e.2 < m := by simp [isEnd, and_assoc]
theorem mem_grid0 (m n : Nat) (e : End) : e ∈ gridL [] m n ↔ isEnd n m e = true := by
  rw [isEnd_nat]
  induction n with
  | zero => simp [gridL]; omega
  | succ n ih =>
    rw [gridL_succ, List.mem_append, ih, mem_row0]
    constructor
    · rintro (h | h)
      · refine ⟨h.1, ?_, h.2.2⟩; push_cast; omega
      · refine ⟨by omega, ?_, h.2⟩; push_cast; omega
    · intro h
      by_cases hh : e.1 = n
      · exact .inr ⟨hh, h.2.2⟩
      · refine .inl ⟨h.1, ?_, h.2.2⟩
        have := h.2.1
        push_cast at this
        omega
theorem nodup_row0 (x m : Nat) : (rowL [] x m).Nodup := by
  induction m with
  | zero => simp [rowL]
  | succ m ih =>
    rw [rowL_succ, List.nodup_append]
    refine ⟨ih, by simp [joinedL, mget], fun a ha b hb => ?_⟩
    rw [mem_row0] at ha
    simp [joinedL, mget] at hb
    subst hb
    intro h
    rw [h] at ha
    exact absurd ha.2.2 (Int.lt_irrefl _)
theorem nodup_grid0 (m n : Nat) : (gridL [] m n).Nodup := by
  induction n with
  | zero => simp [gridL]
  | succ n ih =>
    rw [gridL_succ, List.nodup_append]
    refine ⟨ih, nodup_row0 n m, fun a ha b hb h => ?_⟩
    rw [mem_grid0] at ha
    rw [mem_row0, ← h] at hb
    simp [isEnd] at ha
    omega
theorem len_grid0 (m n : Nat) : (gridL [] m n).length = n * m := by
  induction n with
  | zero => simp [gridL]
  | succ n ih => rw [gridL_succ, List.length_append, ih, row0, List.length_map, List.length_range, Nat.add_mul]; omega
theorem filter_both {α : Type} (l : List α) (q : α → Bool) : (l.filter fun e => !q e).length + (l.filter q).length = l.length := by
  induction l with
  | nil => rfl
  | cons x l ih => cases h : q x <;> simp [h] <;> omega
theorem edges_len {s p : Int} {ls : List Lnk} (hg : Good s p ls) : ((edgesL s p ls).length : Int) = s * p - 2 * ls.length := by
  obtain ⟨⟨h1, h2, h3, h4, h5⟩, hall, hn⟩ := hg
  obtain ⟨a, rfl⟩ : ∃ a : Nat, s = a := ⟨s.toNat, by omega⟩
  obtain ⟨b, rfl⟩ : ∃ b : Nat, p = b := ⟨p.toNat, by omega⟩
  unfold edgesL
  rw [if_neg (by omega), Int.toNat_natCast, Int.toNat_natCast, gridL_filter]
  have hf := filter_both (gridL [] b a) (fun e => (seek ls e).isSome)
  have hp : ((gridL [] b a).filter fun e => (seek ls e).isSome).length = (endsL ls).length := by
    refine List.Perm.length_eq ((List.perm_ext_iff_of_nodup ((nodup_grid0 b a).filter _) hn).2 fun e => ?_)
    rw [List.mem_filter, mem_grid0, seek_isSome]
    exact ⟨fun h => h.2, fun h => ⟨hall e h, h⟩⟩
  rw [hp, endsL_len, len_grid0] at hf
  have : ((a * b : Nat) : Int) = (a : Int) * b := by push_cast; rfl
  omega
theorem edges_le {s p : Int} {ls : List Lnk} (hg : Good s p ls) : (edgesL s p ls).length ≤ 48 := by
  have h := edges_len hg
  obtain ⟨⟨h1, h2, h3, h4, h5⟩, _, _⟩ := hg
  have : s * p ≤ 6 * 8 := Int.mul_le_mul h2 h4 (by omega) (by omega)
  omega

/-! Less: one link less. -/
theorem less_good {s p : Int} {a b : List Lnk} {l : Lnk} (hg : Good s p (a ++ l :: b)) : Good s p (a ++ b) := by
  obtain ⟨h, hall, hn⟩ := hg
  rw [endsL_append, endsL_cons] at hall hn
  refine ⟨?_, ?_, ?_⟩
  · simp only [List.length_append, List.length_cons] at h ⊢; omega
  · intro e he
    rw [endsL_append, List.mem_append] at he
    refine hall e ?_
    rw [List.mem_append]
    rcases he with he | he
    · exact .inl he
    · exact .inr (List.mem_cons_of_mem _ (List.mem_cons_of_mem _ he))
  · rw [endsL_append]
    rw [List.nodup_append] at hn ⊢
    refine ⟨hn.1, (List.nodup_cons.1 (List.nodup_cons.1 hn.2.1).2).2, fun x hx y hy => hn.2.2 x hx y (List.mem_cons_of_mem _ (List.mem_cons_of_mem _ hy))⟩
theorem less_edge {s p : Int} {a b : List Lnk} {l : Lnk} (hg : Good s p (a ++ l :: b)) (x y : Int) :
    edgeL s p (a ++ b) x y = (edgeL s p (a ++ l :: b) x y || ((l.a == x && l.pa == y) || (l.b == x && l.pb == y))) := by
  obtain ⟨h, hall, hn⟩ := hg
  rw [endsL_append, endsL_cons] at hall hn
  have hs : ∀ c, (seek c (x, y)).isSome = decide ((x, y) ∈ endsL c) := fun c => by
    rw [Bool.eq_iff_iff, seek_isSome, decide_eq_true_eq]
  rw [edge_seek, edge_seek, hs, hs, endsL_append, endsL_append, endsL_cons]
  rw [List.nodup_append, List.nodup_cons, List.nodup_cons] at hn
  have e1 : (l.a == x && l.pa == y) = decide ((x, y) = l.fst) := by
    rw [Bool.eq_iff_iff]; simp [Lnk.fst, Prod.ext_iff]; constructor <;> (rintro ⟨rfl, rfl⟩; exact ⟨rfl, rfl⟩)
  have e2 : (l.b == x && l.pb == y) = decide ((x, y) = l.snd) := by
    rw [Bool.eq_iff_iff]; simp [Lnk.snd, Prod.ext_iff]; constructor <;> (rintro ⟨rfl, rfl⟩; exact ⟨rfl, rfl⟩)
  rw [e1, e2]
  have q1 : (x, y) = l.fst → isEnd s p (x, y) = true := fun h => hall _ (by rw [h]; simp)
  have q2 : (x, y) = l.snd → isEnd s p (x, y) = true := fun h => hall _ (by rw [h]; simp)
  have n1 : (x, y) = l.fst → (x, y) ∉ endsL a ∧ (x, y) ∉ endsL b := fun h => ⟨fun hx => hn.2.2 _ hx _ (List.mem_cons_self ..) h, fun hx => hn.2.1.1 (by rw [← h]; exact List.mem_cons_of_mem _ hx)⟩
  have n2 : (x, y) = l.snd → (x, y) ∉ endsL a ∧ (x, y) ∉ endsL b := fun h => ⟨fun hx => hn.2.2 _ hx _ (List.mem_cons_of_mem _ (List.mem_cons_self ..)) h, fun hx => hn.2.1.2.1 (by rw [← h]; exact hx)⟩
  by_cases g1 : (x, y) = l.fst
  · simp only [List.mem_append, List.mem_cons, g1, true_or, or_true, decide_true, Bool.true_or, Bool.or_true]
    rw [← g1]
    simp [q1 g1, n1 g1]
  · by_cases g2 : (x, y) = l.snd
    · simp only [List.mem_append, List.mem_cons, g2, true_or, or_true, decide_true, Bool.true_or, Bool.or_true]
      rw [← g2]
      simp [q2 g2, n2 g2]
    · simp [List.mem_append, List.mem_cons, g1, g2]

/-! Turned: the order of links, and of each link's ends. -/
def Lnk.swap (l : Lnk) : Lnk := ⟨l.b, l.pb, l.a, l.pa⟩
def turned (ls : List Lnk) : List Lnk := (ls.map Lnk.swap).reverse
theorem turned_perm (ls : List Lnk) : (endsL (turned ls)).Perm (endsL ls) := by
  unfold turned
  induction ls with
  | nil => exact List.Perm.refl _
  | cons l ls ih =>
    rw [List.map_cons, List.reverse_cons, endsL_append, endsL_cons, endsL_cons]
    refine (List.perm_append_comm).trans ?_
    show (l.swap.fst :: l.swap.snd :: endsL (List.map Lnk.swap ls).reverse).Perm _
    exact (List.Perm.swap _ _ _).trans ((ih.cons _).cons _)
theorem turned_joins (ls : List Lnk) (e e' : End) : Joins (turned ls) e e' ↔ Joins ls e e' := by
  unfold Joins turned
  constructor
  · rintro ⟨k, hk, h⟩
    obtain ⟨l, hl, rfl⟩ := List.mem_map.1 (List.mem_reverse.1 hk)
    exact ⟨l, hl, h.symm⟩
  · rintro ⟨l, hl, h⟩
    exact ⟨l.swap, List.mem_reverse.2 (List.mem_map.2 ⟨l, hl, rfl⟩), h.symm⟩
theorem turned_len (ls : List Lnk) : (turned ls).length = ls.length := by simp [turned]
theorem turned_good {s p : Int} {ls : List Lnk} (hg : Good s p ls) : Good s p (turned ls) := by
  obtain ⟨h, hall, hn⟩ := hg
  exact ⟨by rw [turned_len]; exact h, fun e he => hall e ((turned_perm ls).mem_iff.1 he), (turned_perm ls).nodup_iff.2 hn⟩
theorem turned_seek {s p : Int} {ls : List Lnk} (hg : Good s p ls) (e : End) : seek (turned ls) e = seek ls e := by
  apply Option.ext
  intro e'
  rw [seek_iff (turned_good hg).2.2, seek_iff hg.2.2, turned_joins]
theorem turned_far {s p : Int} {ls : List Lnk} (hg : Good s p ls) (x y : Int) : farL s p (turned ls) x y = farL s p ls x y := by rw [far_seek, far_seek, turned_seek hg]
theorem turned_edge {s p : Int} {ls : List Lnk} (hg : Good s p ls) (x y : Int) : edgeL s p (turned ls) x y = edgeL s p ls x y := by rw [edge_seek, edge_seek, turned_seek hg]

/-! Twice: one of the links once more; none of them. -/
theorem none_good {s p : Int} {ls : List Lnk} (hg : Good s p ls) : Good s p [] := by
  obtain ⟨h, _, _⟩ := hg
  exact ⟨⟨h.1, h.2.1, h.2.2.1, h.2.2.2.1, by simp⟩, fun e (he : e ∈ ([] : List End)) => (by cases he), List.nodup_nil⟩
theorem twice_bad {s p : Int} {l : Lnk} {ls : List Lnk} : mayT s p (l :: ls ++ [l]) = false := by
  cases h : mayT s p (l :: ls ++ [l]) with
  | false => rfl
  | true =>
    obtain ⟨_, _, hn⟩ := (may_good ..).1 h
    rw [endsL_append, List.nodup_append] at hn
    exact absurd rfl (hn.2.2 l.fst (List.mem_cons_self ..) l.fst (List.mem_cons_self ..))
theorem twice_bad' {s p : Int} {ls : List Lnk} (h : 0 < ls.length) : mayT s p (ls ++ [ls[0]]) = false := by
  cases ls with
  | nil => simp at h
  | cons l ls => exact twice_bad
end Go.Proofs.Ytnjiojmebaojpaa
