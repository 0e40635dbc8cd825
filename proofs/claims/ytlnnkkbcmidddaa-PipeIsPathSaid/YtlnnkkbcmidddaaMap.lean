/- Maps that a call makes, over any type of keys: what a look-up, a store, len and a range do, said of a list of pairs; for every program. -/
import Derived.WalkKit
import Derived.WalkSpells
import Derived.WalkLawsBesides
import Derived.Maps.RangeWalk
import Derived.Laws.StructEq
import Derived.ChangeKeysEq
namespace Go.Proofs.Ytlnnkkbcmidddaa
open Go.RowKit
open Go.ChangeMaps (setBlock heap_setBlock_same heap_setBlock_other)

/-- A type of keys: kv writes a key as a value. -/
structure KeyT (P : Program) (t : TypeId) {κ : Type} [DecidableEq κ] (kv : κ → Value) : Prop where
  inj : ∀ a b, kv a = kv b → a = b
  chk : ∀ (w : World) (em : Bool) (k : κ), (Instr.checkKey em 10000 t (kv k)).run P w = .ok () w
  find : ∀ (w : World) (k : κ) (es : List MapEntry) (l : List κ), es.map (·.key) = l.map kv →
    (Instr.findKey t (kv k) es).run P w = .ok ((l.findIdx? (fun x => decide (k = x))).bind fun i => es[i]?.map fun e => (i, e.val)) w
  stays : ∀ (w : World) (k : κ), (Instr.keyThatStays (kv k) (kv k)).run P w = .ok (kv k) w

section
variable {P : Program} {t : TypeId} {κ : Type} [DecidableEq κ] {kv : κ → Value}

theorem findAsking_spec (heq : ∀ (w : World) (a b : κ), (Op.equal t (kv a) (kv b)).run P w = .ok (decide (a = b)) w) (w : World) (k : κ) : ∀ (es : List MapEntry) (l : List κ) (i : Nat), es.map (·.key) = l.map kv →
    (Instr.findAsking t (kv k) es i).run P w = .ok ((l.findIdx? (fun x => decide (k = x))).bind fun j => es[j]?.map fun e => (i + j, e.val)) w
  | [], l, i, h => by
    have : l = [] := by simpa using h.symm
    subst this
    simp [Instr.findAsking]
  | e :: es, l, i, h => by
    cases l with
    | nil => simp at h
    | cons x l =>
      simp only [List.map_cons, List.cons.injEq] at h
      have ih := findAsking_spec heq w k es l (i + 1) h.2
      simp only [Instr.findAsking, Sem.run_bind, h.1, heq, Result.andThen_ok, List.findIdx?_cons]
      by_cases hk : k = x
      · simp [hk]
      · simp only [hk, decide_false, Bool.false_eq_true, if_false, ih]
        cases hf : l.findIdx? (fun x => decide (k = x)) with
        | none => simp
        | some j => simp [Nat.add_assoc, Nat.add_comm 1 j]

theorem findNow_spec' {d : TypeDesc} (heq : ∀ (a b : κ), Instr.sameNow d (kv a) (kv b) = some (decide (a = b))) (k : κ) : ∀ (es : List MapEntry) (l : List κ) (i : Nat), es.map (·.key) = l.map kv →
    Instr.findNow d (kv k) es i = some ((l.findIdx? (fun x => decide (k = x))).bind fun j => es[j]?.map fun e => (i + j, e.val))
  | [], l, i, h => by
    have : l = [] := by simpa using h.symm
    subst this
    simp [Instr.findNow]
  | e :: es, l, i, h => by
    cases l with
    | nil => simp at h
    | cons x l =>
      simp only [List.map_cons, List.cons.injEq] at h
      have ih := findNow_spec' heq k es l (i + 1) h.2
      simp only [Instr.findNow, h.1, heq, List.findIdx?_cons]
      by_cases hk : k = x
      · simp [hk]
      · simp only [hk, decide_false, Bool.false_eq_true, if_false, ih]
        cases hf : l.findIdx? (fun x => decide (k = x)) with
        | none => simp
        | some j => simp [Nat.add_assoc, Nat.add_comm 1 j]

theorem KeyT.ofAgg {d : TypeDesc} (hd : P.underlying t = some d) (inj : ∀ a b, kv a = kv b → a = b) (hnow : ∀ a b, Instr.sameNow d (kv a) (kv b) = none)
    (chk : ∀ (w : World) (em : Bool) (k : κ), (Instr.checkKey em 10000 t (kv k)).run P w = .ok () w)
    (heq : ∀ (w : World) (a b : κ), (Op.equal t (kv a) (kv b)).run P w = .ok (decide (a = b)) w)
    (hbits : ∀ k, Instr.sameBits 10000 (kv k) (kv k) = true) : KeyT P t kv where
  inj := inj
  chk := chk
  find w k es l h := by
    have ha := findAsking_spec (P := P) heq w k es l 0 h
    simp only [Nat.zero_add] at ha
    unfold Instr.findKey
    simp only [Sem.run_bind, run_underlying hd, Result.andThen_ok]
    cases es with
    | nil =>
      have : l = [] := by simpa using h.symm
      subst this
      simp [Instr.findNow]
    | cons e es =>
      cases l with
      | nil => simp at h
      | cons x l =>
        simp only [List.map_cons, List.cons.injEq] at h
        simp only [Instr.findNow, h.1, hnow]
        exact ha
  stays w k := by simp [Instr.keyThatStays, hbits]

theorem KeyT.ofInt {kt : IntKind} (hd : P.underlying t = some (.int kt)) : KeyT P t (fun n : Int => Value.int kt n) where
  inj a b h := by injection h
  chk w em k := MapKept.run_checkKey hd (show MapKept.IsKey (.int kt) (.int kt k) by simp [MapKept.IsKey]) em 9999
  find w k es l h := by
    have hn := findNow_spec' (kv := fun n : Int => Value.int kt n) (d := .int kt) (fun a b => by simp [Instr.sameNow, BEq.beq]) k es l 0 h
    simp only [Nat.zero_add] at hn
    exact MapKept.run_findKey hd hn
  stays w k := MapKept.run_keyThatStays (d := .int kt) (show MapKept.IsKey (.int kt) (.int kt k) by simp [MapKept.IsKey])
end

/-! ### The map in memory -/
section
variable {κ ν : Type}
/-- Block b of w is a map that holds these pairs. -/
def GMap (w : World) (b : Nat) (kv : κ → Value) (vv : ν → Value) (l : List (κ × ν)) : Prop :=
  ∃ es clock, w.heap[b]? = some (.map es clock) ∧ es.toList.map (fun e => (e.key, e.val)) = l.map (fun p => (kv p.1, vv p.2)) ∧ (∀ x ∈ es.toList, x.born < clock) ∧ (es.toList.map (·.born)).Nodup
variable {kv : κ → Value} {vv : ν → Value} {l : List (κ × ν)} {w w' : World} {b : Nat}
theorem GMap.lt (h : GMap w b kv vv l) : b < w.heap.size := by
  obtain ⟨es, clock, hb, _⟩ := h
  exact (Array.getElem?_eq_some_iff.1 hb).1
theorem GMap.keep (h : GMap w b kv vv l) (hw : w'.heap[b]? = w.heap[b]?) : GMap w' b kv vv l := by
  obtain ⟨es, clock, hb, r⟩ := h
  exact ⟨es, clock, hw.trans hb, r⟩
theorem GMap.alloc (h : GMap w b kv vv l) (o : Obj) : GMap (w.alloc o) b kv vv l := h.keep (Below.heap_alloc w o b h.lt)
theorem GMap.drew (h : GMap w b kv vv l) : GMap w.drew b kv vv l := h.keep rfl
theorem GMap.drewN (h : GMap w b kv vv l) (n : Nat) : GMap (w.drewN n) b kv vv l := h.keep rfl
theorem GMap.below {B : Nat} (h : GMap w b kv vv l) (hB : b < B) (hb : Below B w w') : GMap w' b kv vv l := h.keep (hb.block b hB)
theorem GMap.made (w : World) (kv : κ → Value) (vv : ν → Value) : GMap (w.alloc (.map #[] 0)) w.heap.size kv vv [] :=
  ⟨#[], 0, (MapKept.heap_alloc w _).1, rfl, by simp, by simp⟩
theorem GMap.run_len (h : GMap w b kv vv l) {P : Program} {T t e : TypeId} (hT : P.underlying T = some (.map t e)) (ty : TypeId) : (Builtin.len_ #[T] ty #[.map (some b)]).run P w = .ok (goInt l.length) w := by
  obtain ⟨es, clock, hb, hes, _⟩ := h
  have hlen : es.size = l.length := by simpa using congrArg List.length hes
  simp only [Builtin.len_, List.getElem?_toArray, List.getElem?_cons_zero, Sem.run_bind, run_underlying hT, Result.andThen_ok, getObj, Sem.run, hb, hlen]
  rfl
end

section
variable {κ ν : Type} [DecidableEq κ]
/-- What stands at a key. -/
def mget (l : List (κ × ν)) (k : κ) : Option ν := (l.find? fun p => decide (k = p.1)).map (·.2)
/-- One more pair, or another element at a key that is there. -/
def mput (l : List (κ × ν)) (k : κ) (v : ν) : List (κ × ν) := match l.findIdx? (fun p => decide (k = p.1)) with | some i => l.set i (k, v) | none => l ++ [(k, v)]

variable {P : Program} {t T e : TypeId} {kv : κ → Value} {vv : ν → Value} {l : List (κ × ν)} {w w' : World} {b : Nat}

theorem findIdx_keys (l : List (κ × ν)) (k : κ) : (l.map (·.1)).findIdx? (fun x => decide (k = x)) = l.findIdx? (fun p => decide (k = p.1)) := by
  rw [List.findIdx?_map]; rfl

theorem mget_idx (l : List (κ × ν)) (k : κ) : mget l k = (l.findIdx? (fun p => decide (k = p.1))).bind fun i => (l[i]?).map (·.2) := by
  unfold mget
  induction l with
  | nil => rfl
  | cons p l ih =>
    simp only [List.find?_cons, List.findIdx?_cons]
    by_cases h : k = p.1
    · simp [h]
    · simp only [h, decide_false, Bool.false_eq_true, if_false]
      rw [ih]
      cases l.findIdx? (fun p => decide (k = p.1)) <;> simp

theorem GMap.run_look (h : GMap w b kv vv l) (K : KeyT P t kv) (hT : P.underlying T = some (.map t e)) {z : Value} (hz : (zeroValue e).run P w = .ok z w) (k : κ) (ok : Bool) :
    (Instr.lookup T (.map (some b)) (kv k) ok).run P w = .ok (if ok then .tuple #[((mget l k).map vv).getD z, .bool (mget l k).isSome] else ((mget l k).map vv).getD z) w := by
  obtain ⟨es, clock, hb, hes, _⟩ := h
  have hk : es.toList.map (·.key) = (l.map (·.1)).map kv := by
    have := congrArg (List.map Prod.fst) hes
    simpa [List.map_map, Function.comp_def] using this
  have hf := K.find w k es.toList (l.map (·.1)) hk
  rw [findIdx_keys] at hf
  have hg : (l.findIdx? (fun p => decide (k = p.1))).bind (fun i => es.toList[i]?.map fun e => (i, e.val)) = (l.findIdx? (fun p => decide (k = p.1))).bind (fun i => (l[i]?).map fun p => (i, vv p.2)) := by
    congr 1
    funext i
    have := congrArg (fun x : List (Value × Value) => (x[i]?).map fun q => (i, q.2)) hes
    simpa [List.getElem?_map, Option.map_map, Function.comp_def] using this
  rw [hg] at hf
  simp only [Instr.lookup, Sem.run_bind, run_underlying hT, Result.andThen_ok, getObj, Sem.run, hb, K.chk, hf, Sem.run_pure]
  rw [mget_idx]
  cases hi : l.findIdx? (fun p => decide (k = p.1)) with
  | none => simp [hz, Result.andThen]
  | some i =>
    have hlt : i < l.length := (List.findIdx?_eq_some_iff_getElem.1 hi).1
    simp [List.getElem?_eq_getElem hlt]

theorem GMap.run_put (h : GMap w b kv vv l) (K : KeyT P t kv) (hT : P.underlying T = some (.map t e)) (k : κ) (v : ν) :
    ∃ w', (Instr.mapUpdate T (.map (some b)) (kv k) (vv v)).run P w = .ok () w' ∧ GMap w' b kv vv (mput l k v) ∧ w.grownBy w' (some b) ∧ w'.heap.size = w.heap.size := by
  obtain ⟨es, clock, hb, hes, hborn, hnd⟩ := h
  have hk : es.toList.map (·.key) = (l.map (·.1)).map kv := by
    have := congrArg (List.map Prod.fst) hes
    simpa [List.map_map, Function.comp_def] using this
  have hlen : es.toList.length = l.length := by simpa using congrArg List.length hes
  have hf := K.find w k es.toList (l.map (·.1)) hk
  rw [findIdx_keys] at hf
  have hgr : ∀ o, w.grownBy (setBlock w b o) (some b) := fun o => ⟨rfl, rfl, rfl, by simp [setBlock], fun i _ hi => heap_setBlock_other hb _ (fun e => hi (by rw [e]))⟩
  have hset : ∀ o, (setObj b o).run P w = .ok () (setBlock w b o) := fun o => by simp [setObj, Sem.run, hb, setBlock]
  cases hi : l.findIdx? (fun p => decide (k = p.1)) with
  | none =>
    rw [hi] at hf
    refine ⟨setBlock w b (.map (es.push { key := kv k, val := vv v, born := clock }) (clock + 1)), ?_, ⟨_, _, heap_setBlock_same hb _, ?_, ?_, ?_⟩, hgr _, by simp [setBlock]⟩
    · simp only [Instr.mapUpdate, Sem.run_bind, run_underlying hT, Result.andThen_ok, getObj, Sem.run, hb, K.chk, hf, Option.bind_none, hset]
    · simp only [mput, hi, Array.toList_push, List.map_append, hes, List.map_cons, List.map_nil]
    · intro x hx
      simp only [Array.toList_push, List.mem_append, List.mem_singleton] at hx
      rcases hx with hx | rfl
      · have := hborn x hx; omega
      · show clock < clock + 1; omega
    · simp only [Array.toList_push, List.map_append, List.map_cons, List.map_nil]
      refine List.nodup_append.2 ⟨hnd, by simp, ?_⟩
      intro a ha c hc
      obtain ⟨x, hx, rfl⟩ := List.mem_map.1 ha
      have := hborn x hx
      simp only [List.mem_singleton] at hc
      omega
  | some i =>
    rw [hi] at hf
    obtain ⟨hlt, hki, _⟩ := List.findIdx?_eq_some_iff_getElem.1 hi
    have hlt' : i < es.size := by rw [← Array.length_toList]; omega
    have hkey : (es.toList[i]'(by rw [Array.length_toList]; exact hlt')).key = kv k := by
      have := congrArg (fun x : List Value => x[i]?) hk
      simp only [List.getElem?_map, List.getElem?_eq_getElem hlt, List.getElem?_eq_getElem (show i < es.toList.length by omega), Option.map_some, Option.some.injEq] at this
      rw [this]
      have : k = l[i].1 := by simpa using hki
      rw [← this]
    refine ⟨setBlock w b (.map (es.modify i fun e => { e with key := kv k, val := vv v }) clock), ?_, ⟨_, _, heap_setBlock_same hb _, ?_, ?_, ?_⟩, hgr _, by simp [setBlock]⟩
    · have e1 : (((es[i]?).map (·.key)).getD (kv k)) = kv k := by
        rw [Array.getElem?_eq_getElem hlt']
        simpa using hkey
      simp only [Instr.mapUpdate, Sem.run_bind, run_underlying hT, Result.andThen_ok, getObj, Sem.run, hb, K.chk, hf, Option.bind_some, List.getElem?_eq_getElem (show i < es.toList.length by omega), Option.map_some, e1, K.stays, hset]
    · simp only [mput, hi]
      apply List.ext_getElem?
      intro j
      have hj := congrArg (fun x : List (Value × Value) => x[j]?) hes
      simp only [List.getElem?_map, Array.getElem?_toList, Array.getElem?_modify, List.getElem?_set] at hj ⊢
      by_cases hij : i = j
      · subst hij
        simp [hlt, Array.getElem?_eq_getElem hlt']
      · simp only [hij, if_false]
        simpa using hj
    · intro x hx
      obtain ⟨j, hj, rfl⟩ := List.getElem_of_mem hx
      have hj' : j < es.size := by simpa using hj
      have hb2 := hborn (es[j]) (by simp)
      simp only [Array.getElem_toList, Array.getElem_modify]
      split
      · exact hb2
      · exact hb2
    · have : (es.modify i fun e => { e with key := kv k, val := vv v }).toList.map (·.born) = es.toList.map (·.born) := by
        apply List.ext_getElem?
        intro j
        simp only [List.getElem?_map, Array.getElem?_toList, Array.getElem?_modify]
        split
        · subst_vars; cases es[j]? <;> simp
        · rfl
      rw [this]
      exact hnd
end

/-! ### The laws at the operations -/
section
variable {κ ν : Type} [DecidableEq κ] {P : Program} {t T e : TypeId} {kv : κ → Value} {vv : ν → Value} {l : List (κ × ν)} {b : Nat}
variable (w : World) {ops : Array Oper} {rest : List Oper} {o : Oper} {a : Act} {Q : Exit → Act → World → Prop}

/-- 'v, ok := m[k]'. -/
theorem wp_look2 (hg : o.guard = none) (m x : Operand) (hop : o.op = Op.lookup T m x true) (K : KeyT P t kv) (hT : P.underlying T = some (.map t e)) {d : ν} (hz : (zeroValue e).run P w = .ok (vv d) w) (k : κ)
    (h : GMap w b kv vv l) (hm : a.eval m = .map (some b)) (hx : a.eval x = kv k)
    (hK : wpList P ops Q rest (a.put o.dst (.tuple #[vv ((mget l k).getD d), .bool (mget l k).isSome])) w) : wpList P ops Q (o :: rest) a w := by
  refine wpList_plain hg fun K' hK' => ?_
  have hrun := h.run_look K hT hz k true
  rw [show ((mget l k).map vv).getD (vv d) = vv ((mget l k).getD d) from by cases mget l k <;> rfl] at hrun
  unfold Oper.wp
  simp only [if_true] at hrun
  simp only [execOp, hop, hm, hx, Sem.run_bind, hrun, Result.andThen_ok, Sem.run_pure, Oper.upon]
  exact hK' _ _ hK

/-- 'm[k]'. -/
theorem wp_look1 (hg : o.guard = none) (m x : Operand) (hop : o.op = Op.lookup T m x false) (K : KeyT P t kv) (hT : P.underlying T = some (.map t e)) {d : ν} (hz : (zeroValue e).run P w = .ok (vv d) w) (k : κ)
    (h : GMap w b kv vv l) (hm : a.eval m = .map (some b)) (hx : a.eval x = kv k)
    (hK : wpList P ops Q rest (a.put o.dst (vv ((mget l k).getD d))) w) : wpList P ops Q (o :: rest) a w := by
  refine wpList_plain hg fun K' hK' => ?_
  have hrun := h.run_look K hT hz k false
  rw [show ((mget l k).map vv).getD (vv d) = vv ((mget l k).getD d) from by cases mget l k <;> rfl] at hrun
  unfold Oper.wp
  simp only [Bool.false_eq_true, if_false] at hrun
  simp only [execOp, hop, hm, hx, Sem.run_bind, hrun, Result.andThen_ok, Sem.run_pure, Oper.upon]
  exact hK' _ _ hK

/-- 'm[k] = v'. -/
theorem wp_put (hg : o.guard = none) (m x y : Operand) (hop : o.op = Op.mapUpdate T m x y) (K : KeyT P t kv) (hT : P.underlying T = some (.map t e)) (k : κ) (v : ν)
    (h : GMap w b kv vv l) (hm : a.eval m = .map (some b)) (hx : a.eval x = kv k) (hy : a.eval y = vv v)
    (hK : ∀ w', GMap w' b kv vv (mput l k v) → w.grownBy w' (some b) → w'.heap.size = w.heap.size → wpList P ops Q rest (a.put o.dst undef) w') : wpList P ops Q (o :: rest) a w := by
  refine wpList_plain hg fun K' hK' => ?_
  obtain ⟨w', hrun, h1, h2, h3⟩ := h.run_put K hT k v
  unfold Oper.wp
  simp only [execOp, hop, hm, hx, hy, Sem.run_bind, hrun, Result.andThen_ok, Sem.run_pure, Oper.upon]
  exact hK' _ _ (hK w' h1 h2 h3)
end

/-! ### 'for k, v := range m', whose round writes no map: the order is whatever the tape says -/
section
variable {κ ν : Type} {P : Program} {t T e : TypeId} {kv : κ → Value} {vv : ν → Value} {l rem : List (κ × ν)} {b r : Nat} {w w' : World}

/-- The loop is under way: block b is the map, block r the iterator; rem is still to come. -/
def GRange (w : World) (b r : Nat) (kv : κ → Value) (vv : ν → Value) (l rem : List (κ × ν)) : Prop :=
  ∃ es clock since seen c0, w.heap[b]? = some (.map es clock) ∧ es.toList.map (fun e => (e.key, e.val)) = l.map (fun p => (kv p.1, vv p.2)) ∧ (∀ x ∈ es.toList, x.born < clock) ∧ (es.toList.map (·.born)).Nodup ∧
    w.heap[r]? = some (.mapIter (some b) since seen c0) ∧ (∀ x ∈ es.toList, x.born < since) ∧ since ≤ c0 ∧ since ≤ clock ∧
    (leftOf es seen).toList.map (fun e => (e.key, e.val)) = rem.map (fun p => (kv p.1, vv p.2))

theorem GRange.map (h : GRange w b r kv vv l rem) : GMap w b kv vv l := by
  obtain ⟨es, clock, since, seen, c0, hb, h1, h2, h3, _⟩ := h
  exact ⟨es, clock, hb, h1, h2, h3⟩
theorem GRange.lt (h : GRange w b r kv vv l rem) : b < w.heap.size ∧ r < w.heap.size := by
  obtain ⟨es, clock, since, seen, c0, hb, h1, h2, h3, hr, _⟩ := h
  exact ⟨(Array.getElem?_eq_some_iff.1 hb).1, (Array.getElem?_eq_some_iff.1 hr).1⟩
theorem GRange.keep (h : GRange w b r kv vv l rem) (hb : w'.heap[b]? = w.heap[b]?) (hr : w'.heap[r]? = w.heap[r]?) : GRange w' b r kv vv l rem := by
  obtain ⟨es, clock, since, seen, c0, h0, h1, h2, h3, h4, h5⟩ := h
  exact ⟨es, clock, since, seen, c0, hb.trans h0, h1, h2, h3, hr.trans h4, h5⟩
theorem GRange.alloc (h : GRange w b r kv vv l rem) (o : Obj) : GRange (w.alloc o) b r kv vv l rem := h.keep (Below.heap_alloc w o b h.lt.1) (Below.heap_alloc w o r h.lt.2)
theorem GRange.drew (h : GRange w b r kv vv l rem) : GRange w.drew b r kv vv l rem := h.keep rfl rfl
theorem GRange.below {B : Nat} (h : GRange w b r kv vv l rem) (hbB : b < B) (hrB : r < B) (hb : Below B w w') : GRange w' b r kv vv l rem := h.keep (hb.block b hbB) (hb.block r hrB)
theorem GRange.left (h : GRange w b r kv vv l rem) : w.rangeLeft b r = rem.length := by
  obtain ⟨es, clock, since, seen, c0, hb, h1, h2, h3, hr, _, _, _, h4⟩ := h
  simp only [World.rangeLeft, hb, hr]
  simpa using congrArg List.length h4

theorem nodup_filter_erase : ∀ (L : List MapEntry) (i : Nat) (hi : i < L.length), (L.map (·.born)).Nodup → L.filter (fun x => !(x.born == L[i].born)) = L.eraseIdx i
  | [], i, hi, _ => by simp at hi
  | x :: L, 0, _, hn => by
    simp only [List.map_cons, List.nodup_cons] at hn
    simp only [List.getElem_cons_zero, List.filter_cons, beq_self_eq_true, Bool.not_true, Bool.false_eq_true, if_false, List.eraseIdx_zero, List.tail_cons]
    refine List.filter_eq_self.2 (fun y hy => ?_)
    have : y.born ≠ x.born := fun e => hn.1 (e ▸ List.mem_map.2 ⟨y, hy, rfl⟩)
    simpa using this
  | x :: L, i + 1, hi, hn => by
    simp only [List.map_cons, List.nodup_cons] at hn
    have hi' : i < L.length := by simpa using hi
    have ih := nodup_filter_erase L i hi' hn.2
    have : x.born ≠ L[i].born := fun e => hn.1 (e ▸ List.mem_map.2 ⟨L[i], List.getElem_mem _, rfl⟩)
    simp [this, ih]

theorem eraseIdx_map' {α β : Type} (f : α → β) : ∀ (l : List α) (i : Nat), (l.eraseIdx i).map f = (l.map f).eraseIdx i
  | [], _ => rfl
  | _ :: _, 0 => rfl
  | x :: l, i + 1 => by simp [eraseIdx_map' f l i]

theorem mem_eraseIdx_or {α : Type} {x : α} : ∀ {l : List α} (i : Nat) (hi : i < l.length), x ∈ l → x = l[i] ∨ x ∈ l.eraseIdx i
  | [], _, hi, _ => by simp at hi
  | y :: l, 0, _, h => by simpa using h
  | y :: l, i + 1, hi, h => by
    rcases List.mem_cons.1 h with rfl | h
    · exact .inr (by simp)
    · rcases mem_eraseIdx_or i (by simpa using hi) h with h | h
      · exact .inl (by simpa using h)
      · exact .inr (by simp [h])

theorem GRange.step (h : GRange w b r kv vv l rem) (ty : TypeId) :
    (rem = [] ∧ (Instr.next (.pointer (some ⟨r, 0, none⟩)) false ty).run P w = .ok (.tuple #[.bool false]) w) ∨
    ∃ i, ∃ hi : i < rem.length, ∃ w', (Instr.next (.pointer (some ⟨r, 0, none⟩)) false ty).run P w = .ok (.tuple #[.bool true, kv rem[i].1, vv rem[i].2]) w' ∧ GRange w' b r kv vv l (rem.eraseIdx i) ∧
      w.grownBy w' (some r) ∧ w'.heap.size = w.heap.size ∧ (Instr.entry (.pointer (some ⟨r, 0, none⟩))).run P w' = .ok (.tuple #[kv rem[i].1, vv rem[i].2]) w' := by
  obtain ⟨es, clock, since, seen, c0, hb, h1, h2, h3, hr, h5, h6, h7, h8⟩ := h
  have hne : r ≠ b := by
    intro e
    rw [e, hb] at hr
    cases hr
  rcases run_next_at (P := P) w ty r b since c0 seen es clock hr hb h5 h6 with ⟨h0, hrun⟩ | ⟨e0, he, w1, hal, hrun⟩
  · left
    refine ⟨?_, hrun⟩
    have : (leftOf es seen).toList = [] := by simpa using h0
    rw [this] at h8
    simpa using h8.symm
  · right
    obtain ⟨i, hi, rfl⟩ := List.getElem_of_mem he
    have hlen : (leftOf es seen).toList.length = rem.length := by simpa using congrArg List.length h8
    have hp : ((leftOf es seen).toList[i].key, (leftOf es seen).toList[i].val) = (kv (rem[i]'(by omega)).1, vv (rem[i]'(by omega)).2) := by
      have := congrArg (fun x : List (Value × Value) => x[i]?) h8
      simpa [List.getElem?_map, List.getElem?_eq_getElem hi, List.getElem?_eq_getElem (show i < rem.length by omega)] using this
    simp only [Prod.mk.injEq] at hp
    have hm := mem_left he
    have hr1 : ∀ w1 : World, (w1 = w ∨ w1 = w.drew) → w1.heap[r]? = some (.mapIter (some b) since seen c0) := by
      rintro w1 (rfl | rfl) <;> exact hr
    have hset : ∀ (w1 : World) (o : Obj), (w1 = w ∨ w1 = w.drew) → (setBlock w1 r o).heap[r]? = some o ∧ ∀ j, j ≠ r → (setBlock w1 r o).heap[j]? = w.heap[j]? := by
      intro w1 o hw
      have hh : w1.heap = w.heap := by rcases hw with rfl | rfl <;> rfl
      have hrl : r < w1.heap.size := by rw [hh]; exact (Array.getElem?_eq_some_iff.1 hr).1
      refine ⟨by simp [setBlock, hrl], fun j hj => ?_⟩
      simp only [setBlock]
      rw [Array.getElem?_setIfInBounds, if_neg (fun e => hj e.symm), hh]
    have hR := hset w1 (.mapIter (some b) since (seen.push ((leftOf es seen).toList[i]).born) clock) hal
    refine ⟨i, by omega, _, by rw [hrun, hp.1, hp.2], ⟨es, clock, since, _, clock, (hR.2 b (Ne.symm hne)).trans hb, h1, h2, h3, hR.1, h5, h7, h7, ?_⟩, ?_, ?_, ?_⟩
    · have hsub : (leftOf es (seen.push ((leftOf es seen).toList[i]).born)).toList = (leftOf es seen).toList.filter (fun x => !(x.born == ((leftOf es seen).toList[i]).born)) := by
        unfold leftOf
        simp only [Array.toList_filter, List.filter_filter]
        congr 1
        funext x
        rw [contains_push]
        cases seen.contains x.born <;> simp
      rw [hsub, nodup_filter_erase _ i hi ?_, eraseIdx_map', h8, ← eraseIdx_map']
      have : (leftOf es seen).toList.Sublist es.toList := by
        unfold leftOf
        rw [Array.toList_filter]
        exact List.filter_sublist
      exact (this.map _).nodup h3
    · rcases hal with rfl | rfl
      · exact ⟨rfl, rfl, rfl, by simp [setBlock], fun j _ hj => (hR.2 j (fun e => hj (by rw [e])))⟩
      · exact ⟨rfl, rfl, rfl, by simp [setBlock], fun j _ hj => (hR.2 j (fun e => hj (by rw [e])))⟩
    · rcases hal with rfl | rfl <;> simp [setBlock]
    · rw [run_entry_at _ r b since seen es clock _ hR.1 ((hR.2 b (Ne.symm hne)).trans hb) hm.1 h3, hp.1, hp.2]

theorem GMap.run_range (h : GMap w b kv vv l) (hT : P.underlying T = some (.map t e)) :
    ∃ w', (Instr.range T (.map (some b))).run P w = .ok (.pointer (some ⟨w.heap.size, 0, none⟩)) w' ∧ GRange w' b w.heap.size kv vv l l ∧ w.grownBy w' none ∧ w'.heap.size = w.heap.size + 1 := by
  have hlt := h.lt
  obtain ⟨es, clock, hb, h1, h2, h3⟩ := h
  refine ⟨_, run_range_map w T t e b es clock hT hb, ⟨es, clock, clock, #[], clock, ((MapKept.heap_alloc w _).2 b hlt).trans hb, h1, h2, h3, (MapKept.heap_alloc w _).1, h2, Nat.le_refl _, Nat.le_refl _, ?_⟩, World.grownBy_alloc w _ none, by simp⟩
  have : leftOf es #[] = es := by simp [leftOf]
  rw [this]
  exact h1
end

section
variable {κ ν : Type} {P : Program} {t T e : TypeId} {kv : κ → Value} {vv : ν → Value} {l rem : List (κ × ν)} {b r : Nat}
variable (w : World) {ops : Array Oper} {rest : List Oper} {o : Oper} {a : Act} {Q : Exit → Act → World → Prop}
/-- 'range m'. -/
theorem wp_range (hg : o.guard = none) (m : Operand) (hop : o.op = Op.range T m) (hT : P.underlying T = some (.map t e)) (h : GMap w b kv vv l) (hm : a.eval m = .map (some b))
    (hK : ∀ w', GRange w' b w.heap.size kv vv l l → w.grownBy w' none → w'.heap.size = w.heap.size + 1 → wpList P ops Q rest (a.put o.dst (.pointer (some ⟨w.heap.size, 0, none⟩))) w') : wpList P ops Q (o :: rest) a w := by
  refine wpList_plain hg fun K' hK' => ?_
  obtain ⟨w', hrun, h1, h2, h3⟩ := h.run_range hT
  unfold Oper.wp
  simp only [execOp, hop, hm, Sem.run_bind, hrun, Result.andThen_ok, Sem.run_pure, Oper.upon]
  exact hK' _ _ (hK w' h1 h2 h3)

/-- The step: nothing is left, or one of those that are left comes. -/
theorem wp_next (hg : o.guard = none) (it : Operand) (hop : o.op = Op.next it false) (h : GRange w b r kv vv l rem) (hit : a.eval it = .pointer (some ⟨r, 0, none⟩))
    (hDone : rem = [] → wpList P ops Q rest (a.put o.dst (.tuple #[.bool false])) w)
    (hMore : ∀ (i : Nat) (hi : i < rem.length) (w' : World), GRange w' b r kv vv l (rem.eraseIdx i) → w.grownBy w' (some r) → w'.heap.size = w.heap.size →
      (Instr.entry (.pointer (some ⟨r, 0, none⟩))).run P w' = .ok (.tuple #[kv rem[i].1, vv rem[i].2]) w' → wpList P ops Q rest (a.put o.dst (.tuple #[.bool true, kv rem[i].1, vv rem[i].2])) w') : wpList P ops Q (o :: rest) a w := by
  refine wpList_plain hg fun K' hK' => ?_
  unfold Oper.wp
  rcases h.step (P := P) o.type with ⟨h0, hrun⟩ | ⟨i, hi, w', hrun, h1, h2, h3, h4⟩
  · simp only [execOp, hop, hit, Sem.run_bind, hrun, Result.andThen_ok, Sem.run_pure, Oper.upon]
    exact hK' _ _ (hDone h0)
  · simp only [execOp, hop, hit, Sem.run_bind, hrun, Result.andThen_ok, Sem.run_pure, Oper.upon]
    exact hK' _ _ (hMore i hi w' h1 h2 h3 h4)
end
end Go.Proofs.Ytlnnkkbcmidddaa
