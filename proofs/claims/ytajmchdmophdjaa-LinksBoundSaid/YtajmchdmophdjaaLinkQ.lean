/- What the laws of layer 19 rest on, in plain Lean. -/
import Derived.Test.YtajmchdmophdjaaLinkP
namespace Go.Proofs.Ytajmchdmophdjaa

section
variable {s p : Int} {ls : List Lnk} {sws : List Swt} {tick : Int}
theorem pipeP_told (sw : Swt) (x : Fly) : (pipeP s p ls sw x tick).1.id = x.id ∧ (pipeP s p ls sw x tick).1.sw = x.sw ∧ (pipeP s p ls sw x tick).1.inn = x.inn ∧ (pipeP s p ls sw x tick).1.tick = tick ∧
    ((pipeP s p ls sw x tick).1.what = 0 → (pipeP s p ls sw x tick).2.id = x.id ∧ (pipeP s p ls sw x tick).2.ttl = x.ttl - 1 ∧ 1 ≤ x.ttl) := by
  rcases pipeP_cases s p ls sw x tick with ⟨-, hp⟩ | ⟨-, -, hp⟩ | ⟨-, -, k, o, hk, hp⟩ | ⟨-, ht, o, a, b, hp⟩
  · rw [hp]; simp
  · rw [hp]; simp
  · rw [hp]
    refine ⟨rfl, rfl, rfl, rfl, fun h => ?_⟩
    dsimp only at h
    omega
  · rw [hp]; simpa using ht
theorem linkStep_none {x : Fly} (h : swAt sws x.sw = none) (st : List Fly × List Hop) : linkStep s p ls sws tick st x = st := by unfold linkStep; rw [h]
theorem linkStep_at {x : Fly} {sw : Swt} (h : swAt sws x.sw = some sw) (st : List Fly × List Hop) : ∃ y, (linkStep s p ls sws tick st x).2 = st.2 ++ [y] ∧ y.id = x.id ∧ y.sw = x.sw ∧ y.inn = x.inn ∧ y.tick = tick ∧
    ((y.what = 0 ∧ carried st.2 y.sw y.out < 4 ∧ ∃ z, (linkStep s p ls sws tick st x).1 = st.1 ++ [z] ∧ z.id = x.id ∧ z.ttl = x.ttl - 1 ∧ 1 ≤ x.ttl) ∨ (y.what ≠ 0 ∧ (linkStep s p ls sws tick st x).1 = st.1)) := by
  obtain ⟨h1, h2, h3, h4, h5⟩ := pipeP_told (s := s) (p := p) (ls := ls) (tick := tick) sw x
  unfold linkStep
  rw [h]
  dsimp only
  by_cases hw : (pipeP s p ls sw x tick).1.what = 0
  · rw [if_pos hw]
    by_cases h6 : 4 ≤ carried st.2 (pipeP s p ls sw x tick).1.sw (pipeP s p ls sw x tick).1.out
    · rw [if_pos h6]
      exact ⟨_, rfl, h1, h2, h3, h4, .inr ⟨by simp, rfl⟩⟩
    · rw [if_neg h6]
      exact ⟨_, rfl, h1, h2, h3, h4, .inl ⟨hw, by omega, _, rfl, (h5 hw).1, (h5 hw).2.1, (h5 hw).2.2⟩⟩
  · rw [if_neg hw]
    exact ⟨_, rfl, h1, h2, h3, h4, .inr ⟨hw, rfl⟩⟩
theorem fold_pre (fs : List Fly) : ∀ st : List Fly × List Hop, ∃ t u, fs.foldl (linkStep s p ls sws tick) st = (st.1 ++ t, st.2 ++ u) := by
  induction fs with
  | nil => intro st; exact ⟨[], [], by simp⟩
  | cons x fs ih =>
    intro st
    obtain ⟨t, u, e⟩ := ih (linkStep s p ls sws tick st x)
    rw [List.foldl_cons, e]
    cases h : swAt sws x.sw with
    | none => rw [linkStep_none h]; exact ⟨t, u, rfl⟩
    | some sw =>
      obtain ⟨y, h2, -, -, -, -, h1⟩ := linkStep_at (s := s) (p := p) (ls := ls) (tick := tick) h st
      rcases h1 with ⟨-, -, z, h1, -⟩ | ⟨-, h1⟩
      · rw [h1, h2]; exact ⟨[z] ++ t, [y] ++ u, by simp⟩
      · rw [h1, h2]; exact ⟨t, [y] ++ u, by simp⟩
theorem linksP_pre (fs : List Fly) (k : Nat) : ∃ t u, linksP s p ls sws fs tick = ((linksP s p ls sws (fs.take k) tick).1 ++ t, (linksP s p ls sws (fs.take k) tick).2 ++ u) := by
  obtain ⟨t, u, e⟩ := fold_pre (s := s) (p := p) (ls := ls) (sws := sws) (tick := tick) (fs.drop k) (linksP s p ls sws (fs.take k) tick)
  refine ⟨t, u, ?_⟩
  rw [← e]
  show _ = (fs.drop k).foldl _ ((fs.take k).foldl _ _)
  rw [← List.foldl_append, List.take_append_drop]
  rfl
/-- A list's ends, one by one. -/
theorem list_snoc {α : Type} {q : List α → Prop} (h0 : q []) (h1 : ∀ l x, q l → q (l ++ [x])) (l : List α) : q l := by
  have : ∀ n (l : List α), l.length = n → q l := by
    intro n
    induction n with
    | zero => intro l hl; rw [List.length_eq_zero_iff.1 hl]; exact h0
    | succ n ih =>
      intro l hl
      have hne : l ≠ [] := fun e => by rw [e] at hl; simp at hl
      rw [← List.dropLast_concat_getLast hne]
      exact h1 _ _ (ih _ (by rw [List.length_dropLast, hl]; rfl))
  exact this _ l rfl
theorem carried_four (fs : List Fly) : ∀ a b, carried (linksP s p ls sws fs tick).2 a b ≤ 4 := by
  refine list_snoc (q := fun fs => ∀ a b, carried (linksP s p ls sws fs tick).2 a b ≤ 4) (fun a b => by simp [linksP, carried]) (fun l x ih a b => ?_) fs
  rw [linksP_snoc]
  cases h : swAt sws x.sw with
  | none => rw [linkStep_none h]; exact ih a b
  | some sw =>
    obtain ⟨y, h2, -, -, -, -, h1⟩ := linkStep_at (s := s) (p := p) (ls := ls) (tick := tick) h (linksP s p ls sws l tick)
    rw [h2, carried_snoc]
    have h3 := ih a b
    rcases h1 with ⟨hw, h4, -⟩ | ⟨hw, -⟩
    · cases hb : isBy a b y with
      | false => simpa using h3
      | true =>
        have : y.sw = a ∧ y.out = b := by
          unfold isBy at hb
          simp at hb
          exact ⟨hb.1.2, hb.2⟩
        rw [this.1, this.2] at h4
        rw [if_pos rfl]
        omega
    · have : isBy a b y = false := by unfold isBy; rw [decide_eq_false hw]; rfl
      rw [this]
      simpa using h3
theorem linksP_tick (fs : List Fly) : ∀ y ∈ (linksP s p ls sws fs tick).2, y.tick = tick := by
  refine list_snoc (q := fun fs => ∀ y ∈ (linksP s p ls sws fs tick).2, y.tick = tick) (fun y hy => by simp [linksP] at hy) (fun l x ih y hy => ?_) fs
  rw [linksP_snoc] at hy
  cases h : swAt sws x.sw with
  | none => rw [linkStep_none h] at hy; exact ih y hy
  | some sw =>
    obtain ⟨z, h2, -, -, -, h5, -⟩ := linkStep_at (s := s) (p := p) (ls := ls) (tick := tick) h (linksP s p ls sws l tick)
    rw [h2] at hy
    rcases List.mem_append.1 hy with hy | hy
    · exact ih y hy
    · rw [List.mem_singleton.1 hy]; exact h5
/-- As long as there are few, none is stopped. -/
theorem linkStep_few {x : Fly} {sw : Swt} (h : swAt sws x.sw = some sw) (st : List Fly × List Hop) (hn : st.2.length < 4) : (linkStep s p ls sws tick st x).2 = st.2 ++ [(pipeP s p ls sw x tick).1] := by
  unfold linkStep
  rw [h]
  dsimp only
  have : carried st.2 (pipeP s p ls sw x tick).1.sw (pipeP s p ls sw x tick).1.out ≤ st.2.length := List.length_filter_le _ _
  split
  · rw [if_neg (by omega)]
  · rfl
/-- Packets that are at no switch do not matter. -/
theorem linksP_here (fs : List Fly) : linksP s p ls sws (fs.filter fun x => (swAt sws x.sw).isSome) tick = linksP s p ls sws fs tick := by
  refine list_snoc (q := fun fs => linksP s p ls sws (fs.filter fun x => (swAt sws x.sw).isSome) tick = linksP s p ls sws fs tick) rfl (fun l x ih => ?_) fs
  rw [List.filter_append, linksP_snoc]
  cases h : swAt sws x.sw with
  | none => rw [linkStep_none h, List.filter_cons_of_neg (by simp [h]), List.filter_nil, List.append_nil]; exact ih
  | some sw => rw [List.filter_cons_of_pos (by simp [h]), List.filter_nil, linksP_snoc, ih]
def setT (t : Int) (h : Hop) : Hop := { h with tick := t }
theorem pipeP_tick (other : Int) (sw : Swt) (x : Fly) : pipeP s p ls sw x other = (setT other (pipeP s p ls sw x tick).1, (pipeP s p ls sw x tick).2) := by
  unfold pipeP
  repeat' split
  all_goals rfl
theorem carried_setT (t : Int) (l : List Hop) (a b : Int) : carried (l.map (setT t)) a b = carried l a b := by
  unfold carried
  rw [List.filter_map, List.length_map]
  rfl
theorem linksP_other (other : Int) (fs : List Fly) : linksP s p ls sws fs other = ((linksP s p ls sws fs tick).1, (linksP s p ls sws fs tick).2.map (setT other)) := by
  refine list_snoc (q := fun fs => linksP s p ls sws fs other = ((linksP s p ls sws fs tick).1, (linksP s p ls sws fs tick).2.map (setT other))) rfl (fun l x ih => ?_) fs
  rw [linksP_snoc, linksP_snoc, ih]
  generalize linksP s p ls sws l tick = st
  unfold linkStep
  cases h : swAt sws x.sw with
  | none => rfl
  | some sw =>
    dsimp only
    rw [pipeP_tick (tick := tick) other sw x]
    dsimp only
    rw [carried_setT]
    by_cases hw : (pipeP s p ls sw x tick).1.what = 0
    · have hw' : (setT other (pipeP s p ls sw x tick).1).what = 0 := hw
      rw [if_pos hw, if_pos hw']
      by_cases h4 : 4 ≤ carried st.2 (pipeP s p ls sw x tick).1.sw (pipeP s p ls sw x tick).1.out
      · have h4' : 4 ≤ carried st.2 (setT other (pipeP s p ls sw x tick).1).sw (setT other (pipeP s p ls sw x tick).1).out := h4
        rw [if_pos h4, if_pos h4', List.map_append]
        rfl
      · have h4' : ¬ 4 ≤ carried st.2 (setT other (pipeP s p ls sw x tick).1).sw (setT other (pipeP s p ls sw x tick).1).out := h4
        rw [if_neg h4, if_neg h4', List.map_append]
        rfl
    · have hw' : ¬ (setT other (pipeP s p ls sw x tick).1).what = 0 := hw
      rw [if_neg hw, if_neg hw', List.map_append]
      rfl
theorem setT_back (l : List Hop) (t o : Int) (h : ∀ y ∈ l, y.tick = t) : (l.map (setT o)).map (setT t) = l := by
  rw [List.map_map]
  conv => rhs; rw [← List.map_id l]
  refine List.map_congr_left fun y hy => ?_
  have := h y hy
  cases y
  simp only [Function.comp, setT, id] at *
  rw [this]
end
end Go.Proofs.Ytajmchdmophdjaa
