/- Layer 11 in plain Lean: what its functions compute is what the document says; and the laws without the document's answer. -/
import Derived.Test.YtlnnkkbcmidddaaTopoP
namespace Go.Proofs.Ytlnnkkbcmidddaa

/-! The far ends: of the first link that has the end. -/
def ofLink (l : Lnk) (e : End) : Option End := if l.fst = e then some l.snd else if l.snd = e then some l.fst else none
def seek (ls : List Lnk) (e : End) : Option End := ls.findSome? fun l => ofLink l e
theorem seekR_eq (ls : List Lnk) (x y : Int) : seekR ls x y = seek ls (x, y) := by
  unfold seek
  induction ls with
  | nil => rfl
  | cons l ls ih =>
    have h1 : ((l.a == x && l.pa == y) = true) ↔ l.fst = (x, y) := by simp [Lnk.fst]
    have h2 : ((l.b == x && l.pb == y) = true) ↔ l.snd = (x, y) := by simp [Lnk.snd]
    simp only [seekR, List.findSome?_cons, ofLink, ih]
    by_cases q1 : l.fst = (x, y)
    · simp [q1, h1]
    · by_cases q2 : l.snd = (x, y)
      · simp [q1, q2, h1, h2]
      · simp [q1, q2, h1, h2]
theorem mget_append (m n : List (End × End)) (e : End) : mget (m ++ n) e = (mget m e).or (mget n e) := by
  unfold mget
  rw [List.find?_append]
  cases List.find? (fun p => decide (e = p.1)) m <;> simp
theorem findIdx_none_of_mget {m : List (End × End)} {e : End} (h : mget m e = none) : m.findIdx? (fun p => decide (e = p.1)) = none := by
  rw [List.findIdx?_eq_none_iff]
  unfold mget at h
  simp only [Option.map_eq_none_iff, List.find?_eq_none] at h
  intro x hx
  simpa using h x hx
theorem addEnd_eq (m : List (End × End)) (x y : End) : addEnd m x y = if (mget m x).isSome = true then m else m ++ [(x, y)] := by
  unfold addEnd mput
  split
  · rfl
  · rename_i h
    rw [findIdx_none_of_mget (by simpa using h)]
theorem mget_addEnd (m : List (End × End)) (x y e : End) : mget (addEnd m x y) e = (mget m e).or (if x = e then some y else none) := by
  rw [addEnd_eq]
  split
  · rename_i h
    by_cases q : x = e
    · subst q
      obtain ⟨v, hv⟩ := Option.isSome_iff_exists.1 h
      simp [hv]
    · simp [q]
  · rw [mget_append]
    congr 1
    unfold mget
    by_cases q : x = e
    · subst q; simp
    · have : ¬ e = x := fun h => q h.symm
      simp [q, this]
theorem mget_joinStep (m : List (End × End)) (l : Lnk) (e : End) : mget (joinStep m l) e = (mget m e).or (ofLink l e) := by
  unfold joinStep ofLink
  rw [mget_addEnd, mget_addEnd, Option.or_assoc]
  congr 1
  by_cases q1 : l.fst = e <;> by_cases q2 : l.snd = e <;> simp [q1, q2]
theorem mget_joined (ls : List Lnk) (e : End) : mget (joinedL ls) e = seek ls e := by
  unfold joinedL seek
  suffices h : ∀ (ls : List Lnk) (m : List (End × End)), mget (ls.foldl joinStep m) e = (mget m e).or (ls.findSome? fun l => ofLink l e) by
    rw [h]; rfl
  intro ls
  induction ls with
  | nil => intro m; simp
  | cons l ls ih =>
    intro m
    rw [List.foldl_cons, ih, mget_joinStep, Option.or_assoc, List.findSome?_cons]
    cases ofLink l e <;> simp

/-! The ends of links. -/
def endsL (ls : List Lnk) : List End := ls.flatMap fun l => [l.fst, l.snd]
theorem endsL_len (ls : List Lnk) : (endsL ls).length = 2 * ls.length := by
  unfold endsL
  induction ls with
  | nil => rfl
  | cons l ls ih => simp only [List.flatMap_cons, List.length_append, List.length_cons, List.length_nil, ih]; omega
theorem seek_isSome (ls : List Lnk) (e : End) : (seek ls e).isSome = true ↔ e ∈ endsL ls := by
  unfold seek endsL
  induction ls with
  | nil => simp
  | cons l ls ih =>
    rw [List.findSome?_cons, List.flatMap_cons, List.mem_append]
    unfold ofLink at *
    by_cases q1 : l.fst = e
    · simp [q1]
    · by_cases q2 : l.snd = e
      · simp [q1, q2]
      · have q1' : ¬ e = l.fst := fun h => q1 h.symm
        have q2' : ¬ e = l.snd := fun h => q2 h.symm
        simp only [q1, q2, if_false]
        rw [ih]
        simp [q1', q2']
theorem seek_none (ls : List Lnk) (e : End) : seek ls e = none ↔ e ∉ endsL ls := by
  rw [← seek_isSome]
  cases seek ls e <;> simp
/-- Adding ends one by one, each once. -/
def insE (acc : List End) (x : End) : List End := if x ∈ acc then acc else acc ++ [x]
theorem keys_addEnd (m : List (End × End)) (x y : End) : (addEnd m x y).map (·.1) = insE (m.map (·.1)) x := by
  have hk : (mget m x).isSome = true ↔ x ∈ m.map (·.1) := by
    unfold mget
    simp only [Option.isSome_map, List.find?_isSome, List.mem_map]
    constructor
    · rintro ⟨p, hp, h⟩; exact ⟨p, hp, (of_decide_eq_true h).symm⟩
    · rintro ⟨p, hp, h⟩; exact ⟨p, hp, decide_eq_true h.symm⟩
  rw [addEnd_eq]
  unfold insE
  by_cases h : x ∈ m.map (·.1)
  · rw [if_pos (hk.2 h), if_pos h]
  · rw [if_neg (fun q => h (hk.1 q)), if_neg h, List.map_append]; rfl
theorem keys_joined (ls : List Lnk) : (joinedL ls).map (·.1) = (endsL ls).foldl insE [] := by
  unfold joinedL endsL
  suffices h : ∀ (ls : List Lnk) (m : List (End × End)), (ls.foldl joinStep m).map (·.1) = (ls.flatMap fun l => [l.fst, l.snd]).foldl insE (m.map (·.1)) by simpa using h ls []
  intro ls
  induction ls with
  | nil => intro m; rfl
  | cons l ls ih =>
    intro m
    rw [List.foldl_cons, ih, List.flatMap_cons, List.foldl_append]
    unfold joinStep
    rw [keys_addEnd, keys_addEnd]
    rfl
theorem insE_mem (acc : List End) (x e : End) : e ∈ insE acc x ↔ e ∈ acc ∨ e = x := by
  unfold insE
  split
  · constructor
    · exact .inl
    · rintro (h | rfl)
      · exact h
      · assumption
  · simp
theorem foldE_mem (l : List End) : ∀ (acc : List End) (e : End), e ∈ l.foldl insE acc ↔ e ∈ acc ∨ e ∈ l := by
  induction l with
  | nil => simp
  | cons x l ih => intro acc e; rw [List.foldl_cons, ih, insE_mem, List.mem_cons, or_assoc]
theorem foldE_len (l : List End) : ∀ (acc : List End), (l.foldl insE acc).length ≤ acc.length + l.length := by
  induction l with
  | nil => simp
  | cons x l ih =>
    intro acc
    have h := ih (insE acc x)
    have : (insE acc x).length ≤ acc.length + 1 := by unfold insE; split <;> simp
    rw [List.foldl_cons, List.length_cons]
    omega
theorem foldE_full (l : List End) : ∀ (acc : List End), acc.Nodup → ((l.foldl insE acc).length = acc.length + l.length ↔ (acc ++ l).Nodup) := by
  induction l with
  | nil => intro acc h; simp [h]
  | cons x l ih =>
    intro acc hn
    rw [List.foldl_cons]
    by_cases hx : x ∈ acc
    · have e : insE acc x = acc := by unfold insE; rw [if_pos hx]
      rw [e]
      have := foldE_len l acc
      constructor
      · intro h; rw [List.length_cons] at h; omega
      · intro h
        exact absurd rfl ((List.nodup_append.1 h).2.2 x hx x (List.mem_cons_self ..))
    · have e : insE acc x = acc ++ [x] := by unfold insE; rw [if_neg hx]
      rw [e, show acc ++ x :: l = acc ++ [x] ++ l by simp, ← ih (acc ++ [x]) (by rw [List.nodup_append]; exact ⟨hn, by simp, fun a ha b hb => by simp at hb; subst hb; exact fun h => hx (h ▸ ha)⟩)]
      simp
      omega
theorem joined_full (ls : List Lnk) : (joinedL ls).length = 2 * ls.length ↔ (endsL ls).Nodup := by
  have h := foldE_full (endsL ls) [] List.nodup_nil
  rw [← keys_joined, List.length_map, endsL_len] at h
  simpa using h
theorem joined_all (s p : Int) (ls : List Lnk) : (joinedL ls).all (fun x => isEnd s p x.1) = (endsL ls).all (isEnd s p) := by
  rw [Bool.eq_iff_iff, List.all_eq_true, List.all_eq_true]
  have hm : ∀ e, e ∈ (joinedL ls).map (·.1) ↔ e ∈ endsL ls := fun e => by rw [keys_joined, foldE_mem]; simp
  constructor
  · intro h e he
    obtain ⟨x, hx, rfl⟩ := List.mem_map.1 ((hm e).2 he)
    exact h x hx
  · intro h x hx
    exact h _ ((hm _).1 (List.mem_map.2 ⟨x, hx, rfl⟩))

/-- A topology that may be. -/
def Good (s p : Int) (ls : List Lnk) : Prop := (1 ≤ s ∧ s ≤ 6 ∧ 1 ≤ p ∧ p ≤ 8 ∧ ls.length ≤ 12) ∧ (∀ e ∈ endsL ls, isEnd s p e = true) ∧ (endsL ls).Nodup
theorem may_good (s p : Int) (ls : List Lnk) : mayT s p ls = true ↔ Good s p ls := by
  unfold mayT Good
  rw [joined_all, Bool.and_eq_true, Bool.and_eq_true, decide_eq_true_eq, decide_eq_true_eq, List.all_eq_true, joined_full, and_assoc]

/-! The document's counts. -/
theorem endsN_count (ls : List Lnk) (x y : Int) : endsN ls x y = (endsL ls).count (x, y) := by
  unfold endsN endsL
  induction ls with
  | nil => rfl
  | cons l ls ih =>
    rw [List.map_cons, List.sum_cons, List.flatMap_cons, List.count_append, ih]
    congr 1
    unfold hits
    have h1 : ((l.a == x && l.pa == y) = true) ↔ l.fst = (x, y) := by simp [Lnk.fst]
    have h2 : ((l.b == x && l.pb == y) = true) ↔ l.snd = (x, y) := by simp [Lnk.snd]
    simp only [h1, h2, List.count_cons, List.count_nil, beq_iff_eq]
    omega
theorem mayR_good (s p : Int) (ls : List Lnk) : mayR s p ls = true ↔ Good s p ls := by
  have hm : ∀ l ∈ ls, l.fst ∈ endsL ls ∧ l.snd ∈ endsL ls := fun l hl => ⟨List.mem_flatMap.2 ⟨l, hl, by simp⟩, List.mem_flatMap.2 ⟨l, hl, by simp⟩⟩
  have hm2 : ∀ e ∈ endsL ls, ∃ l ∈ ls, e = l.fst ∨ e = l.snd := fun e he => by
    obtain ⟨l, hl, h⟩ := List.mem_flatMap.1 he
    exact ⟨l, hl, by simpa using h⟩
  unfold mayR Good
  rw [Bool.and_eq_true, decide_eq_true_eq, List.all_eq_true]
  refine and_congr_right fun _ => ?_
  unfold goodR
  simp only [Bool.and_eq_true, beq_iff_eq, endsN_count]
  constructor
  · intro h
    refine ⟨fun e he => ?_, ?_⟩
    · obtain ⟨l, hl, rfl | rfl⟩ := hm2 e he
      · exact (h l hl).1.1.1
      · exact (h l hl).1.1.2
    · rw [List.nodup_iff_count]
      intro e
      by_cases he : e ∈ endsL ls
      · obtain ⟨l, hl, rfl | rfl⟩ := hm2 e he
        · exact Nat.le_of_eq (h l hl).1.2
        · exact Nat.le_of_eq (h l hl).2
      · rw [List.count_eq_zero.2 he]; omega
  · rintro ⟨h1, h2⟩ l hl
    have hc := fun e => List.nodup_iff_count.1 h2 e
    have c1 := List.count_pos_iff.2 (hm l hl).1
    have c2 := List.count_pos_iff.2 (hm l hl).2
    exact ⟨⟨⟨h1 _ (hm l hl).1, h1 _ (hm l hl).2⟩, Nat.le_antisymm (hc _) c1⟩, Nat.le_antisymm (hc _) c2⟩
theorem may_same (s p : Int) (ls : List Lnk) : mayT s p ls = mayR s p ls := by rw [Bool.eq_iff_iff, may_good, mayR_good]
theorem far_same (s p : Int) (ls : List Lnk) (x y : Int) : farL s p ls x y = farR s p ls x y := by
  unfold farL farR
  rw [mget_joined, seekR_eq]
  cases seek ls (x, y) <;> cases isEnd s p (x, y) <;> rfl
theorem edge_same (s p : Int) (ls : List Lnk) (x y : Int) : edgeL s p ls x y = edgeR s p ls x y := by
  unfold edgeL edgeR farR
  rw [mget_joined, seekR_eq]
  cases seek ls (x, y) <;> cases isEnd s p (x, y) <;> rfl
theorem row_same (s p : Int) (ls : List Lnk) (x m : Nat) (hx : (x : Int) < s) (hm : (m : Int) ≤ p) : rowL ls x m = rowR s p ls x m := by
  induction m with
  | zero => rfl
  | succ m ih =>
    rw [rowL_succ, rowR_succ, ih (by omega)]
    congr 1
    have h : isEnd s p ((x : Int), (m : Int)) = true := by simp [isEnd]; omega
    rw [← edge_same]
    unfold edgeL
    rw [h]
    cases (mget (joinedL ls) ((x : Int), (m : Int))).isSome <;> rfl
theorem grid_same (s p : Int) (ls : List Lnk) (m x : Nat) (hx : (x : Int) ≤ s) (hm : (m : Int) ≤ p) : gridL ls m x = gridR s p ls m x := by
  induction x with
  | zero => rfl
  | succ x ih => rw [gridL_succ, gridR_succ, ih (by omega), row_same s p ls x m (by omega) hm]
theorem edges_same (s p : Int) (ls : List Lnk) : edgesL s p ls = edgesR s p ls := by
  unfold edgesL edgesR
  split
  · rfl
  · by_cases hs : 0 ≤ s
    · by_cases hp : 0 ≤ p
      · exact grid_same s p ls _ _ (by omega) (by omega)
      · rw [show p.toNat = 0 by omega]
        have e1 : ∀ n, gridL ls 0 n = [] := fun n => List.length_eq_zero_iff.1 (Nat.le_zero.1 (Nat.le_trans (gridL_len ls 0 n) (by simp)))
        have e2 : ∀ n, gridR s p ls 0 n = [] := fun n => List.length_eq_zero_iff.1 (Nat.le_zero.1 (Nat.le_trans (gridR_len s p ls 0 n) (by simp)))
        rw [e1, e2]
    · rw [show s.toNat = 0 by omega]
      rfl
end Go.Proofs.Ytlnnkkbcmidddaa
