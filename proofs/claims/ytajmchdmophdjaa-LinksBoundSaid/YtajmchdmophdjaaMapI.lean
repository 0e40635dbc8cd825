/- Maps whose elements are changed in place ('m[k]++'): the entry's place, and the store into it; for every program. -/
import Derived.Test.YtajmchdmophdjaaMap
import Derived.Test.YtajmchdmophdjaaRegion
namespace Go.Proofs.Ytajmchdmophdjaa
open Go.RowKit
open Go.ChangeMaps (setBlock heap_setBlock_same heap_setBlock_other)

section
variable {κ ν : Type} {kv : κ → Value} {vv : ν → Value} {l l' : List (κ × ν)} {w w' : World} {b : Nat}
theorem GMap.uniq (hk : ∀ a c, kv a = kv c → a = c) (hv : ∀ a c, vv a = vv c → a = c) (h : GMap w b kv vv l) (h2 : GMap w b kv vv l') : l = l' := by
  obtain ⟨es, clock, hb, hes, _⟩ := h
  obtain ⟨es', clock', hb', hes', _⟩ := h2
  rw [hb] at hb'
  cases hb'
  rw [hes] at hes'
  clear hb hes
  induction l generalizing l' with
  | nil => cases l' <;> simp_all
  | cons p l ih =>
    cases l' with
    | nil => simp at hes'
    | cons q l' =>
      simp only [List.map_cons, List.cons.injEq, Prod.mk.injEq] at hes'
      rw [ih hes'.2, Prod.ext (hk _ _ hes'.1.1) (hv _ _ hes'.1.2)]
end

section
variable {κ ν : Type} [DecidableEq κ]
/-- The pairs, with one at k. -/
def mentry (l : List (κ × ν)) (k : κ) (d : ν) : List (κ × ν) := match l.findIdx? (fun p => decide (k = p.1)) with | some _ => l | none => l ++ [(k, d)]
/-- What stands at a key, or d. -/
def cnt (d : ν) (l : List (κ × ν)) (k : κ) : ν := (mget l k).getD d

theorem mgetI_append (l : List (κ × ν)) (k : κ) (v : ν) (y : κ) (hk : mget l k = none) : mget (l ++ [(k, v)]) y = if y = k then some v else mget l y := by
  unfold mget at *
  rw [List.find?_append]
  by_cases hy : y = k
  · subst hy
    cases h : List.find? (fun p => decide (y = p.1)) l with
    | none => simp
    | some p => rw [h] at hk; simp at hk
  · cases h : List.find? (fun p => decide (y = p.1)) l <;> simp [hy]
theorem mgetI_none {l : List (κ × ν)} {k : κ} (h : l.findIdx? (fun p => decide (k = p.1)) = none) : mget l k = none := by
  rw [mget_idx, h]; rfl
theorem mgetI_set : ∀ (l : List (κ × ν)) (k : κ) (v : ν) (y : κ) (i : Nat), l.findIdx? (fun p => decide (k = p.1)) = some i → mget (l.set i (k, v)) y = if y = k then some v else mget l y
  | [], _, _, _, _, h => by simp at h
  | p :: l, k, v, y, i, h => by
    rw [List.findIdx?_cons] at h
    by_cases hp : k = p.1
    · simp only [hp, decide_true, if_true, Option.some.injEq] at h
      subst h
      unfold mget
      by_cases hy : y = k
      · simp [hy]
      · have : ¬ y = p.1 := fun e => hy (e.trans hp.symm)
        simp [hy, this]
    · simp only [hp, decide_false, Bool.false_eq_true, if_false, Option.map_eq_some_iff] at h
      obtain ⟨j, hj, rfl⟩ := h
      have ih := mgetI_set l k v y j hj
      unfold mget at *
      rw [List.set_cons_succ, List.find?_cons, List.find?_cons]
      by_cases hy : y = p.1
      · have : ¬ y = k := fun e => hp (e.symm.trans hy)
        rw [if_neg this]
        simp [hy]
      · simp only [hy, decide_false]
        exact ih
theorem mgetI_mput (l : List (κ × ν)) (k : κ) (v : ν) (y : κ) : mget (mput l k v) y = if y = k then some v else mget l y := by
  unfold mput
  cases h : l.findIdx? (fun p => decide (k = p.1)) with
  | none => exact mgetI_append l k v y (mgetI_none h)
  | some i => exact mgetI_set l k v y i h
theorem cnt_mput (d : ν) (l : List (κ × ν)) (k : κ) (v : ν) (y : κ) : cnt d (mput l k v) y = if y = k then v else cnt d l y := by
  unfold cnt
  rw [mgetI_mput]
  split <;> rfl
theorem cnt_mentry (d : ν) (l : List (κ × ν)) (k : κ) (y : κ) : cnt d (mentry l k d) y = cnt d l y := by
  unfold mentry
  cases h : l.findIdx? (fun p => decide (k = p.1)) with
  | none =>
    unfold cnt
    rw [mgetI_append l k d y (mgetI_none h)]
    by_cases hy : y = k
    · rw [if_pos hy, hy, mgetI_none h]; rfl
    · rw [if_neg hy]
  | some i => rfl

variable {P : Program} {t T e : TypeId} {kv : κ → Value} {vv : ν → Value} {l : List (κ × ν)} {w w' : World} {b : Nat}
/-- The map, and which of its entries is k's. -/
def GAt (w : World) (b : Nat) (kv : κ → Value) (vv : ν → Value) (l : List (κ × ν)) (k : κ) (st : Int) : Prop :=
  ∃ es clock i, w.heap[b]? = some (.map es clock) ∧ es.toList.map (fun e => (e.key, e.val)) = l.map (fun p => (kv p.1, vv p.2)) ∧ (∀ x ∈ es.toList, x.born < clock) ∧ (es.toList.map (·.born)).Nodup ∧
    l.findIdx? (fun p => decide (k = p.1)) = some i ∧ (es.toList[i]?).map (fun e => (e.born : Int)) = some st
theorem GAt.map {k : κ} {st : Int} (h : GAt w b kv vv l k st) : GMap w b kv vv l := by
  obtain ⟨es, clock, i, hb, h1, h2, h3, _⟩ := h
  exact ⟨es, clock, hb, h1, h2, h3⟩
theorem GAt.keep {k : κ} {st : Int} (h : GAt w b kv vv l k st) (hw : w'.heap[b]? = w.heap[b]?) : GAt w' b kv vv l k st := by
  obtain ⟨es, clock, i, hb, r⟩ := h
  exact ⟨es, clock, i, hw.trans hb, r⟩
theorem findIdxI_append {α : Type} (p : α → Bool) (l : List α) (x : α) (h : l.findIdx? p = none) (hx : p x = true) : (l ++ [x]).findIdx? p = some l.length := by
  rw [List.findIdx?_append, h]
  simp [hx]

theorem GMap.run_entry (h : GMap w b kv vv l) (K : KeyT P t kv) (hT : P.underlying T = some (.map t e)) {d : ν} (hz : ∀ w, (zeroValue e).run P w = .ok (vv d) w) (k : κ) :
    ∃ v st w', (Instr.mapEntry T (.map (some b)) (kv k)).run P w = .ok (.tuple #[v, goInt st]) w' ∧ GAt w' b kv vv (mentry l k d) k st ∧ (∀ st', GAt w b kv vv l k st' → GAt w' b kv vv l k st') ∧ w.grownBy w' (some b) ∧ w'.heap.size = w.heap.size := by
  obtain ⟨es, clock, hb, hes, hborn, hnd⟩ := h
  have hk : es.toList.map (·.key) = (l.map (·.1)).map kv := by
    have := congrArg (List.map Prod.fst) hes
    simpa [List.map_map, Function.comp_def] using this
  have hlen : es.toList.length = l.length := by simpa using congrArg List.length hes
  have hf := K.find w k es.toList (l.map (·.1)) hk
  rw [findIdx_keys] at hf
  have hgr : ∀ o, w.grownBy (setBlock w b o) (some b) := fun o => ⟨rfl, rfl, rfl, by simp [setBlock], fun i _ hi => heap_setBlock_other hb _ (fun e => hi (by rw [e]))⟩
  have hset : ∀ o, (setObj b o).run P w = .ok () (setBlock w b o) := fun o => by simp [setObj, Sem.run, hb, setBlock]
  cases hi : l.findIdx? (fun p => decide (k = p.1)) with
  | none =>
    rw [hi] at hf
    refine ⟨vv d, clock, setBlock w b (.map (es.push { key := kv k, val := vv d, born := clock }) (clock + 1)), ?_, ⟨_, _, l.length, heap_setBlock_same hb _, ?_, ?_, ?_, ?_, ?_⟩, (fun st' h => by obtain ⟨_, _, i, _, _, _, _, h5, _⟩ := h; rw [hi] at h5; cases h5), hgr _, by simp [setBlock]⟩
    · simp only [Instr.mapEntry, Sem.run_bind, run_underlying hT, Result.andThen_ok, getObj, Sem.run, hb, K.chk, hf, Option.bind_none, hz, hset, Sem.run_pure]
    · simp only [mentry, hi, Array.toList_push, List.map_append, hes, List.map_cons, List.map_nil]
    · intro x hx
      simp only [Array.toList_push, List.mem_append, List.mem_singleton] at hx
      rcases hx with hx | rfl
      · have := hborn x hx; omega
      · show clock < clock + 1; omega
    · simp only [Array.toList_push, List.map_append, List.map_cons, List.map_nil]
      refine List.nodup_append.2 ⟨hnd, by simp, ?_⟩
      intro a ha c hc
      obtain ⟨x, hx, rfl⟩ := List.mem_map.1 ha
      have := hborn x hx
      simp only [List.mem_singleton] at hc
      omega
    · simp only [mentry, hi]
      exact findIdxI_append _ l (k, d) hi (by simp)
    · rw [Array.toList_push, ← hlen]
      simp
  | some i =>
    rw [hi] at hf
    obtain ⟨hlt, hki, _⟩ := List.findIdx?_eq_some_iff_getElem.1 hi
    have hlt' : i < es.size := by rw [← Array.length_toList]; omega
    have hkey : (es.toList[i]'(by rw [Array.length_toList]; exact hlt')).key = kv k := by
      have := congrArg (fun x : List Value => x[i]?) hk
      simp only [List.getElem?_map, List.getElem?_eq_getElem hlt, List.getElem?_eq_getElem (show i < es.toList.length by omega), Option.map_some, Option.some.injEq] at this
      rw [this]
      have : k = l[i].1 := by simpa using hki
      rw [← this]
    have hborn' : (es.modify i fun e => { e with key := kv k }).toList.map (·.born) = es.toList.map (·.born) := by
      apply List.ext_getElem?
      intro j
      simp only [List.getElem?_map, Array.getElem?_toList, Array.getElem?_modify]
      split
      · subst_vars; cases es[j]? <;> simp
      · rfl
    suffices hat : GAt (setBlock w b (.map (es.modify i fun e => { e with key := kv k }) clock)) b kv vv l k es[i].born by
      refine ⟨es[i].val, es[i].born, setBlock w b (.map (es.modify i fun e => { e with key := kv k }) clock), ?_, ?_, ?_, hgr _, by simp [setBlock]⟩
      · have e1 : (((es[i]?).map (·.key)).getD (kv k)) = kv k := by
          rw [Array.getElem?_eq_getElem hlt']
          simpa using hkey
        simp only [Instr.mapEntry, Sem.run_bind, run_underlying hT, Result.andThen_ok, getObj, Sem.run, hb, K.chk, hf, Option.bind_some, List.getElem?_eq_getElem (show i < es.toList.length by omega), Option.map_some, e1, K.stays, hset]
        simp [hlt']
      · simp only [mentry, hi]
        exact hat
      · intro st' h
        obtain ⟨es', _, i', hb', _, _, _, hi', hst⟩ := h
        rw [hb] at hb'
        cases hb'
        rw [hi] at hi'
        cases hi'
        have : st' = es[i].born := by
          simp [hlt'] at hst
          exact hst.symm
        rw [this]
        exact hat
    refine ⟨_, _, i, heap_setBlock_same hb _, ?_, ?_, by rw [hborn']; exact hnd, hi, ?_⟩
    · apply List.ext_getElem?
      intro j
      have hj := congrArg (fun x : List (Value × Value) => x[j]?) hes
      simp only [List.getElem?_map, Array.getElem?_toList, Array.getElem?_modify] at hj ⊢
      by_cases hij : i = j
      · subst hij
        have hkey' : es[i].key = kv k := by simpa using hkey
        simp only [if_true, Array.getElem?_eq_getElem hlt', Option.map_some] at hj ⊢
        rw [← hj, hkey']
      · simp only [hij, if_false]
        exact hj
    · intro x hx
      obtain ⟨j, hj, rfl⟩ := List.getElem_of_mem hx
      have hj' : j < es.size := by simpa using hj
      have hb2 := hborn (es[j]) (by simp)
      simp only [Array.getElem_toList, Array.getElem_modify]
      split
      · exact hb2
      · exact hb2
    · have := congrArg (fun x : List Nat => (x[i]?).map (fun n : Nat => (n : Int))) hborn'
      simp only [List.getElem?_map, Option.map_map, Function.comp_def] at this
      rw [this]
      simp [hlt']

theorem GAt.run_store {k : κ} {st : Int} (h : GAt w b kv vv l k st) (v : ν) :
    ∃ w', (Instr.entryStore T (.map (some b)) (goInt st) (vv v)).run P w = .ok () w' ∧ GMap w' b kv vv (mput l k v) ∧ w.grownBy w' (some b) ∧ w'.heap.size = w.heap.size := by
  obtain ⟨es, clock, i, hb, hes, hborn, hnd, hi, hst⟩ := h
  have hlen : es.toList.length = l.length := by simpa using congrArg List.length hes
  obtain ⟨hlt, hki, _⟩ := List.findIdx?_eq_some_iff_getElem.1 hi
  have hlt' : i < es.size := by rw [← Array.length_toList]; omega
  have hkl : l[i].1 = k := by have : k = l[i].1 := by simpa using hki
                              exact this.symm
  have hgr : ∀ o, w.grownBy (setBlock w b o) (some b) := fun o => ⟨rfl, rfl, rfl, by simp [setBlock], fun i _ hi => heap_setBlock_other hb _ (fun e => hi (by rw [e]))⟩
  have hset : ∀ o, (setObj b o).run P w = .ok () (setBlock w b o) := fun o => by simp [setObj, Sem.run, hb, setBlock]
  have hst' : st = (es[i].born : Int) := by
    simp [hlt'] at hst
    exact hst.symm
  have hfind : es.findIdx? (fun e => (e.born : Int) == st) = some i := by
    rw [Array.findIdx?_eq_some_iff_getElem]
    refine ⟨hlt', by simp [hst'], fun j hj => ?_⟩
    have hjl : j < es.size := by omega
    have hne : es[j].born ≠ es[i].born := by
      intro he
      have := (List.getElem_inj (xs := es.toList.map (·.born)) (i := j) (j := i) (h₀ := by simpa using hjl) (h₁ := by simpa using hlt') hnd).1 (by simpa using he)
      omega
    simp only [hst', beq_iff_eq]
    omega
  refine ⟨setBlock w b (.map (es.modify i fun e => { e with val := vv v }) clock), ?_, ⟨_, _, heap_setBlock_same hb _, ?_, ?_, ?_⟩, hgr _, by simp [setBlock]⟩
  · simp only [Instr.entryStore, goInt, Sem.run_bind, Result.andThen_ok, getObj, Sem.run, hb, asInt, asIntOf, Sem.run_pure, hfind, hset]
  · simp only [mput, hi]
    apply List.ext_getElem?
    intro j
    have hj := congrArg (fun x : List (Value × Value) => x[j]?) hes
    simp only [List.getElem?_map, Array.getElem?_toList, Array.getElem?_modify, List.getElem?_set] at hj ⊢
    by_cases hij : i = j
    · subst hij
      simp only [if_true, Array.getElem?_eq_getElem hlt', List.getElem?_eq_getElem hlt, Option.map_some, Option.some.injEq, Prod.mk.injEq, hlt] at hj ⊢
      simp only [hj.1, hkl, and_self]
    · simp only [hij, if_false]
      simpa using hj
  · intro x hx
    obtain ⟨j, hj, rfl⟩ := List.getElem_of_mem hx
    have hj' : j < es.size := by simpa using hj
    have hb2 := hborn (es[j]) (by simp)
    simp only [Array.getElem_toList, Array.getElem_modify]
    split
    · exact hb2
    · exact hb2
  · have : (es.modify i fun e => { e with val := vv v }).toList.map (·.born) = es.toList.map (·.born) := by
      apply List.ext_getElem?
      intro j
      simp only [List.getElem?_map, Array.getElem?_toList, Array.getElem?_modify]
      split
      · subst_vars; cases es[j]? <;> simp
      · rfl
    rw [this]
    exact hnd
end

/-! ### The same, at operations that come up in any order -/
section
variable {κ ν : Type} [DecidableEq κ] {P : Program} {t T e : TypeId} {kv : κ → Value} {vv : ν → Value} {l : List (κ × ν)} {b : Nat}
variable {w : World} {o : Oper} {a : Act} {R : Value → World → Prop}
theorem yields_look1 (m x : Operand) (hop : o.op = Op.lookup T m x false) (K : KeyT P t kv) (hT : P.underlying T = some (.map t e)) {d : ν} (hz : ∀ w, (zeroValue e).run P w = .ok (vv d) w) (k : κ)
    (h : GMap w b kv vv l) (hm : a.eval m = .map (some b)) (hx : a.eval x = kv k) (hK : R (vv (cnt d l k)) w) : OpYields P o a w R := by
  have hrun := h.run_look K hT (hz w) k false
  rw [show ((mget l k).map vv).getD (vv d) = vv (cnt d l k) from by unfold cnt; cases mget l k <;> rfl] at hrun
  simp only [Bool.false_eq_true, if_false] at hrun
  unfold OpYields
  simp only [execOp, hop, hm, hx, Sem.run_bind, hrun, Result.andThen_ok, Sem.run_pure]
  exact hK
theorem yields_entry (m x : Operand) (hop : o.op = Op.mapEntry T m x) (K : KeyT P t kv) (hT : P.underlying T = some (.map t e)) {d : ν} (hz : ∀ w, (zeroValue e).run P w = .ok (vv d) w) (k : κ)
    (h : GMap w b kv vv l) (hm : a.eval m = .map (some b)) (hx : a.eval x = kv k)
    (hK : ∀ v st w', GAt w' b kv vv (mentry l k d) k st → (∀ st', GAt w b kv vv l k st' → GAt w' b kv vv l k st') → w.grownBy w' (some b) → w'.heap.size = w.heap.size → R (.tuple #[v, goInt st]) w') : OpYields P o a w R := by
  obtain ⟨v, st, w', hrun, h1, h4, h2, h3⟩ := h.run_entry K hT hz k
  unfold OpYields
  simp only [execOp, hop, hm, hx, Sem.run_bind, hrun, Result.andThen_ok, Sem.run_pure]
  exact hK _ _ _ h1 h4 h2 h3
theorem yields_estore (m x y : Operand) (hop : o.op = Op.entryStore T m x y) (k : κ) (st : Int) (v : ν)
    (h : GAt w b kv vv l k st) (hm : a.eval m = .map (some b)) (hx : a.eval x = goInt st) (hy : a.eval y = vv v)
    (hK : ∀ w', GMap w' b kv vv (mput l k v) → w.grownBy w' (some b) → w'.heap.size = w.heap.size → R undef w') : OpYields P o a w R := by
  obtain ⟨w', hrun, h1, h2, h3⟩ := h.run_store (P := P) (T := T) v
  unfold OpYields
  simp only [execOp, hop, hm, hx, hy, Sem.run_bind, hrun, Result.andThen_ok, Sem.run_pure]
  exact hK _ h1 h2 h3
end
end Go.Proofs.Ytajmchdmophdjaa
