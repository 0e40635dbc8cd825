/- A statement that leaves its order open, one fact an operation: whatever the order, behind it each operation's fact holds; for every program. -/
import Derived.WalkKit
import Derived.Orders
import Derived.Test.YtlnnkkbcmidddaaRead
namespace Go.Proofs.Ytlnnkkbcmidddaa
open Go.RowKit

section
variable {P : Program} {ops : Array Oper} {Q : Exit → Act → World → Prop}

/-- What operation o comes to, its operands being as in a. -/
def OpYields (P : Program) (o : Oper) (a : Act) (w : World) (R : Value → World → Prop) : Prop :=
  match (execOp a.eval o).run P w with
  | .ok (.value v) w' => R v w'
  | .ok .skip w' => R undef w'
  | .ok (.enter f args) w' => Calls P f args w' fun e w'' => ∃ v, e = .returned v ∧ R v w''
  | _ => False

theorem OpYields.wp {o : Oper} {a : Act} {w : World} {R : Value → World → Prop} {K : Act → World → Prop} (h : OpYields P o a w R) (hK : ∀ v w', R v w' → K (a.put o.dst v) w') : o.wp P a w K Q := by
  unfold OpYields at h
  unfold Oper.wp
  generalize (execOp a.eval o).run P w = r at *
  cases r with
  | ok n w' =>
    cases n <;> simp only [Oper.upon] at h ⊢ <;> first | exact hK _ _ h | exact h.elim | skip
    refine Calls.mono h fun e w'' he => ?_
    obtain ⟨v, rfl, hv⟩ := he
    exact hK _ _ hv
  | halt x w' => exact h.elim

/-- What stands in the slot of operation j. -/
def slotOf (ops : Array Oper) (a : Act) (j : Nat) : Value := match (ops[j]?).bind (·.dst) with | some d => a.tmps.getD d undef | none => undef
/-- The value that stays. -/
def keptVal (o : Oper) (v : Value) : Value := if o.dst.isSome then v else undef

/-- The fact of operation i: said of the value in its own slot, and of that in the slot of one operation that it waits for (q i; i itself where none is meant). -/
def Fof (q : Nat → Nat) (Fs : List (Value → Value → World → Prop)) (i : Nat) (vs : Nat → Value) (w : World) : Prop := (Fs.getD i (fun _ _ _ => True)) (vs (q i)) (vs i) w

/-- One slot's value another one. -/
def upd (vs : Nat → Value) (i : Nat) (v : Value) : Nat → Value := fun j => if j = i then v else vs j

/-- Whether operation i may look at operation j's fact: another one may have broken it. -/
def may (kl : Nat → Option Nat) (i j : Nat) : Bool := match kl j with | some k => k == i | none => true

/-- Operation i, anywhere in the order behind those that it hangs on. -/
def StepOK (P : Program) (ops : Array Oper) (Base : World → Prop) (q : Nat → Nat) (kl : Nat → Option Nat) (Fs : List (Value → Value → World → Prop)) (a : Act) (i : Nat) (o : Oper) : Prop :=
  ∀ (a' : Act) (w' : World), Base w' → (∀ t, (ops.any fun x => x.dst == some t) = false → a'.tmps.getD t undef = a.tmps.getD t undef) →
    (∀ j, (may kl i j && o.after.any fun e => Region.binds .any e && e.on == j) = true → Fof q Fs j (slotOf ops a') w') →
    if Region.wanted o (yielded ops a'.tmps) then
      OpYields P o a' w' fun v w'' => Base w'' ∧ Fof q Fs i (upd (slotOf ops a') i (keptVal o v)) w'' ∧ ∀ j vs, j ≠ i → kl j ≠ some i → Fof q Fs j vs w' → Fof q Fs j vs w''
    else Fof q Fs i (upd (slotOf ops a') i undef) w'

def StepsOK (P : Program) (ops : Array Oper) (Base : World → Prop) (q : Nat → Nat) (kl : Nat → Option Nat) (Fs : List (Value → Value → World → Prop)) (a : Act) : List Oper → Nat → Prop
  | [], _ => True
  | o :: r, i => StepOK P ops Base q kl Fs a i o ∧ StepsOK P ops Base q kl Fs a r (i + 1)

theorem StepsOK.get {Base : World → Prop} {q : Nat → Nat} {kl : Nat → Option Nat} {Fs : List (Value → Value → World → Prop)} {a : Act} : ∀ {l : List Oper} {i : Nat}, StepsOK P ops Base q kl Fs a l i → ∀ k o, l[k]? = some o → StepOK P ops Base q kl Fs a (i + k) o
  | [], _, _, _, _, h => by simp at h
  | x :: r, i, hs, 0, o, h => by
    simp at h
    subst h
    exact hs.1
  | x :: r, i, hs, k + 1, o, h => by
    have := StepsOK.get hs.2 k o (by simpa using h)
    rwa [show i + 1 + k = i + (k + 1) from by omega] at this

def putAll : List Oper → Nat → Act → (Nat → Value) → Act
  | [], _, a, _ => a
  | o :: r, i, a, vs => putAll r (i + 1) (a.put o.dst (vs i)) vs

def AllF (q : Nat → Nat) (kl : Nat → Option Nat) (Fs : List (Value → Value → World → Prop)) (vs : Nat → Value) (w : World) : List Oper → Nat → Prop
  | [], _ => True
  | _ :: r, i => (kl i = none → Fof q Fs i vs w) ∧ AllF q kl Fs vs w r (i + 1)

theorem AllF.of {q : Nat → Nat} {kl : Nat → Option Nat} {Fs : List (Value → Value → World → Prop)} {vs : Nat → Value} {w : World} : ∀ {l : List Oper} {i : Nat}, (∀ k, k < l.length → kl (i + k) = none → Fof q Fs (i + k) vs w) → AllF q kl Fs vs w l i
  | [], _, _ => trivial
  | _ :: r, i, h => ⟨h 0 (by simp), AllF.of fun k hk => by
    have := h (k + 1) (by simpa using hk)
    rwa [show i + (k + 1) = i + 1 + k from by omega] at this⟩

theorem Act.put_size (a : Act) (d : Option Tmp) (v : Value) : (a.put d v).tmps.size = a.tmps.size := by cases d <;> simp [Act.put]
theorem putAll_size : ∀ (l : List Oper) (i : Nat) (a : Act) (vs : Nat → Value), (putAll l i a vs).tmps.size = a.tmps.size
  | [], _, _, _ => rfl
  | o :: r, i, a, vs => by rw [putAll, putAll_size, Act.put_size]
theorem putAll_defers : ∀ (l : List Oper) (i : Nat) (a : Act) (vs : Nat → Value), (putAll l i a vs).defers = a.defers
  | [], _, _, _ => rfl
  | o :: r, i, a, vs => by rw [putAll, putAll_defers]; cases o.dst <;> rfl
theorem putAll_other (t : Tmp) : ∀ (l : List Oper) (i : Nat) (a : Act) (vs : Nat → Value), (∀ o ∈ l, o.dst ≠ some t) → (putAll l i a vs).tmps[t]? = a.tmps[t]?
  | [], _, _, _, _ => rfl
  | o :: r, i, a, vs, h => by
    rw [putAll, putAll_other t r _ _ _ (fun o ho => h o (List.mem_cons_of_mem _ ho))]
    have := h o (List.mem_cons_self ..)
    cases hd : o.dst with
    | none => rfl
    | some d =>
      have hne : d ≠ t := fun e => this (by rw [hd, e])
      simp only [Act.put]
      rw [Array.getElem?_setIfInBounds_ne hne]
theorem putAll_at (t : Tmp) : ∀ (l : List Oper) (i : Nat) (a : Act) (vs : Nat → Value) (k : Nat) (o : Oper), l[k]? = some o → o.dst = some t → (∀ k' o', l[k']? = some o' → o'.dst = some t → k' = k) → t < a.tmps.size →
    (putAll l i a vs).tmps[t]? = some (vs (i + k))
  | [], _, _, _, _, _, h, _, _, _ => by simp at h
  | x :: r, i, a, vs, 0, o, h, hd, hu, ht => by
    simp at h
    subst h
    rw [putAll, putAll_other t r _ _ _ (fun o' ho' he => by
      obtain ⟨k', hk', rfl⟩ := List.getElem_of_mem ho'
      have := hu (k' + 1) _ (by simp) he
      omega)]
    simp [Act.put, hd, ht]
  | x :: r, i, a, vs, k + 1, o, h, hd, hu, ht => by
    rw [putAll, putAll_at t r (i + 1) _ vs k o (by simpa using h) hd (fun k' o' h' hd' => by
      have := hu (k' + 1) o' (by simpa using h') hd'
      omega) (by rw [Act.put_size]; exact ht)]
    rw [show i + 1 + k = i + (k + 1) from by omega]

/-- No slot is written twice, and each lies in the frame. -/
def slotsOk (n : Nat) : List Oper → Bool
  | [] => true
  | o :: r => (match o.dst with | some d => decide (d < n) && r.all (fun x => x.dst != some d) | none => true) && slotsOk n r

theorem slotsOk_lt {n : Nat} : ∀ {l : List Oper}, slotsOk n l = true → ∀ (k : Nat) (o : Oper) (d : Tmp), l[k]? = some o → o.dst = some d → d < n
  | [], _, _, _, _, h, _ => by simp at h
  | x :: r, hs, 0, o, d, h, hd => by
    simp at h
    subst h
    simp only [slotsOk, hd, Bool.and_eq_true, decide_eq_true_eq] at hs
    exact hs.1.1
  | x :: r, hs, k + 1, o, d, h, hd => by
    simp only [slotsOk, Bool.and_eq_true] at hs
    exact slotsOk_lt hs.2 k o d (by simpa using h) hd
theorem slotsOk_uniq {n : Nat} : ∀ {l : List Oper}, slotsOk n l = true → ∀ (k k' : Nat) (o o' : Oper) (d : Tmp), l[k]? = some o → o.dst = some d → l[k']? = some o' → o'.dst = some d → k' = k
  | [], _, _, _, _, _, _, h, _, _, _ => by simp at h
  | x :: r, hs, 0, 0, _, _, _, _, _, _, _ => rfl
  | x :: r, hs, 0, k' + 1, o, o', d, h, hd, h', hd' => by
    simp at h
    subst h
    simp only [slotsOk, hd, Bool.and_eq_true] at hs
    have := List.all_eq_true.1 hs.1.2 o' (List.mem_of_getElem? (by simpa using h'))
    simp [hd'] at this
  | x :: r, hs, k + 1, 0, o, o', d, h, hd, h', hd' => by
    simp at h'
    subst h'
    simp only [slotsOk, hd', Bool.and_eq_true] at hs
    have := List.all_eq_true.1 hs.1.2 o (List.mem_of_getElem? (by simpa using h))
    simp [hd] at this
  | x :: r, hs, k + 1, k' + 1, o, o', d, h, hd, h', hd' => by
    simp only [slotsOk, Bool.and_eq_true] at hs
    have := slotsOk_uniq hs.2 k k' o o' d (by simpa using h) hd (by simpa using h') hd'
    omega

theorem slotOf_put_ne {l : Array Oper} {a : Act} {i j : Nat} {o : Oper} {v : Value} {n : Nat} (hs : slotsOk n l.toList = true) (hi : l[i]? = some o) (hne : j ≠ i) : slotOf l (a.put o.dst v) j = slotOf l a j := by
  unfold slotOf
  cases hj : (l[j]?).bind (·.dst) with
  | none => rfl
  | some d =>
    obtain ⟨oj, hoj, hdj⟩ := Option.bind_eq_some_iff.1 hj
    cases hd : o.dst with
    | none => rfl
    | some d' =>
      have hdd : d' ≠ d := fun e => hne (slotsOk_uniq hs i j o oj d (by simpa using hi) (by rw [hd, e]) (by simpa using hoj) hdj)
      simp only [Act.put]
      rw [Array.getD_eq_getD_getElem?, Array.getD_eq_getD_getElem?, Array.getElem?_setIfInBounds_ne hdd]

theorem slotOf_put_self {l : Array Oper} {a : Act} {i : Nat} {o : Oper} {v : Value} (hs : slotsOk a.tmps.size l.toList = true) (hi : l[i]? = some o) : slotOf l (a.put o.dst v) i = keptVal o v := by
  unfold slotOf keptVal
  simp only [hi, Option.bind_some]
  cases hd : o.dst with
  | none => simp
  | some d =>
    have := slotsOk_lt hs i o d (by simpa using hi) hd
    simp [Act.put, this]

theorem heap_at (w : World) (o : Obj) (i : Nat) : (w.alloc o).heap[i]? = if i = w.heap.size then some o else w.heap[i]? := by
  show (w.heap.push o)[i]? = _
  rw [Array.getElem?_push]
theorem heap_drew (w : World) (i : Nat) : w.drew.heap[i]? = w.heap[i]? := rfl

theorem count_set : ∀ (l : List Bool) (i : Nat) (hi : i < l.length), l[i] = false → ((l.set i true).filter id).length = (l.filter id).length + 1
  | [], i, hi, _ => by simp at hi
  | x :: l, 0, _, hv => by
    simp at hv
    subst hv
    simp
  | x :: l, i + 1, hi, hv => by
    have := count_set l i (by simpa using hi) (by simpa using hv)
    cases x <;> simp [this]

/-- What a fact speaks of beside its own operation is one that that waits for. -/
def qsOk (q : Nat → Nat) (ops : Array Oper) : Bool := (List.range ops.size).all fun i => q i == i || match ops[i]? with | some o => o.after.any (fun e => Region.binds .any e && e.on == q i) | none => true

theorem slotOf_put {a : Act} {i : Nat} {o : Oper} {v : Value} (hs : slotsOk a.tmps.size ops.toList = true) (hi : ops[i]? = some o) : slotOf ops (a.put o.dst v) = upd (slotOf ops a) i (keptVal o v) := by
  funext j
  unfold upd
  by_cases h : j = i
  · subst h
    rw [if_pos rfl, slotOf_put_self hs hi]
  · rw [if_neg h, slotOf_put_ne hs hi h]

theorem region_any_facts {Base : World → Prop} {q : Nat → Nat} {kl : Nat → Option Nat} {Fs : List (Value → Value → World → Prop)} {a : Act} (hslots : slotsOk a.tmps.size ops.toList = true) (hq : qsOk q ops = true) (hsteps : StepsOK P ops Base q kl Fs a ops.toList 0)
    (hend : ∀ (vs : Nat → Value) (w' : World), Base w' → AllF q kl Fs vs w' ops.toList 0 → Q .normal (putAll ops.toList 0 a vs) w')
    (hfull : ∀ listed : Array Bool, listed.size = ops.size → Region.ready .any ops listed = [] → ∀ j, j < ops.size → listed.getD j false = true) :
    ∀ (fuel : Nat) (listed : Array Bool) (a' : Act) (w' : World), listed.size = ops.size → (ops.size - (listed.toList.filter id).length) ≤ fuel →
      a'.defers = a.defers → a'.tmps.size = a.tmps.size → (∀ t, (∀ j o, ops[j]? = some o → o.dst = some t → listed.getD j false = false) → a'.tmps[t]? = a.tmps[t]?) →
      (∀ j o, ops[j]? = some o → listed.getD j false = true → ∀ e ∈ o.after, Region.binds .any e = true → listed.getD e.on false = true) →
      Base w' → (∀ j, listed.getD j false = true → (∀ i, kl j = some i → listed.getD i false = false) → Fof q Fs j (slotOf ops a') w') → wpAny P .any ops Q fuel listed a' w' := by
  intro fuel
  have hdone : ∀ (listed : Array Bool) (a' : Act) (w' : World), listed.size = ops.size → Region.ready .any ops listed = [] →
      a'.defers = a.defers → a'.tmps.size = a.tmps.size → (∀ t, (∀ j o, ops[j]? = some o → o.dst = some t → listed.getD j false = false) → a'.tmps[t]? = a.tmps[t]?) →
      Base w' → (∀ j, listed.getD j false = true → (∀ i, kl j = some i → listed.getD i false = false) → Fof q Fs j (slotOf ops a') w') → Q .normal a' w' := by
    intro listed a' w' hsz hr hd hts hot hB hF
    have hall := hfull listed hsz hr
    have e : a' = putAll ops.toList 0 a (slotOf ops a') := by
      have hd' := putAll_defers ops.toList 0 a (slotOf ops a')
      have ht : a'.tmps = (putAll ops.toList 0 a (slotOf ops a')).tmps := by
        apply Array.ext_getElem?
        intro t
        by_cases hex : ∃ (j : Nat) (o : Oper), ops[j]? = some o ∧ o.dst = some t
        · obtain ⟨j, o, hj, hjd⟩ := hex
          have hlt := slotsOk_lt hslots j o t (by simpa using hj) hjd
          rw [putAll_at t ops.toList 0 a (slotOf ops a') j o (by simpa using hj) hjd (fun k' o' h' hd' => slotsOk_uniq hslots j k' o o' t (by simpa using hj) hjd h' hd') hlt]
          rw [Nat.zero_add]
          unfold slotOf
          simp only [hj, Option.bind_some, hjd]
          rw [Array.getD_eq_getD_getElem?, Array.getElem?_eq_getElem (by rw [hts]; exact hlt)]
          rfl
        · rw [putAll_other t ops.toList 0 a _ (fun o ho he => by
            obtain ⟨j, hj, rfl⟩ := List.getElem_of_mem ho
            exact hex ⟨j, _, by simp, he⟩)]
          exact hot t (fun j o hj hjd => absurd ⟨j, o, hj, hjd⟩ hex)
      cases a' with
      | mk tm df =>
        cases hp : putAll ops.toList 0 a (slotOf ops { tmps := tm, defers := df }) with
        | mk tm' df' =>
          rw [hp] at ht hd'
          simp only at ht hd' hd
          rw [ht, hd', hd]
    rw [e]
    refine hend _ _ hB (AllF.of fun k hk hkl => ?_)
    rw [Nat.zero_add]
    exact hF k (hall k (by simpa using hk)) (fun i hi => by rw [Nat.zero_add] at hkl; rw [hkl] at hi; cases hi)
  induction fuel with
  | zero =>
    intro listed a' w' hsz hfu hd hts hot hcl hB hF
    have hlen : (listed.toList.filter id).length = listed.toList.length := by
      have h1 := List.length_filter_le id listed.toList
      have h2 : listed.toList.length = ops.size := by simpa using hsz
      omega
    have hall := List.length_filter_eq_length_iff.1 hlen
    have hr : Region.ready .any ops listed = [] := by
      rw [List.eq_nil_iff_forall_not_mem]
      intro j hj
      obtain ⟨h0, o, ho, _⟩ := mem_ready.1 hj
      have hlt : j < listed.size := by rw [hsz]; exact (Array.getElem?_eq_some_iff.1 ho).1
      have := hall listed[j] (by simp)
      simp [hlt] at h0
      simp [h0] at this
    exact ⟨hr, hdone listed a' w' hsz hr hd hts hot hB hF⟩
  | succ fuel ih =>
    intro listed a' w' hsz hfu hd hts hot hcl hB hF
    refine ⟨fun hr => hdone listed a' w' hsz hr hd hts hot hB hF, fun i hi => ?_⟩
    obtain ⟨h0, o, ho, hpre⟩ := mem_ready.1 hi
    have hlt : i < listed.size := by rw [hsz]; exact (Array.getElem?_eq_some_iff.1 ho).1
    have h0' : listed[i] = false := by simpa [hlt] using h0
    have h0f : listed.getD i false = false := by simpa [hlt] using h0'
    have hstep : StepOK P ops Base q kl Fs a i o := by
      have := StepsOK.get hsteps i o (by simpa using ho)
      rwa [Nat.zero_add] at this
    have hst := hstep a' w' hB (fun t ht => by
        rw [Array.getD_eq_getD_getElem?, Array.getD_eq_getD_getElem?]
        congr 1
        refine hot t (fun j oj hj hjd => ?_)
        have hm := (Array.any_eq_false'.1 ht) oj (Array.mem_of_getElem? hj)
        simp [hjd] at hm)
      (fun j hj => by
        rw [Bool.and_eq_true] at hj
        obtain ⟨e, he, hb⟩ := Array.any_eq_true'.1 hj.2
        simp only [Bool.and_eq_true, beq_iff_eq] at hb
        rw [← hb.2]
        refine hF _ (hpre e he hb.1) (fun k hkk => ?_)
        have h1 := hj.1
        unfold may at h1
        rw [← hb.2, hkk] at h1
        simp only [beq_iff_eq] at h1
        rw [h1]
        exact h0f)
    have hcount : (ops.size - ((listed.setIfInBounds i true).toList.filter id).length) ≤ fuel := by
      rw [Array.toList_setIfInBounds, count_set _ i (by simpa using hlt) (by simpa using h0')]
      omega
    have hgo : ∀ v w'', Base w'' → Fof q Fs i (upd (slotOf ops a') i (keptVal o v)) w'' → (∀ j vs, j ≠ i → kl j ≠ some i → Fof q Fs j vs w' → Fof q Fs j vs w'') → wpAny P .any ops Q fuel (listed.setIfInBounds i true) (a'.put o.dst v) w'' := by
      intro v w'' hB' hFi hkeep
      refine ih _ _ _ (by simpa using hsz) hcount ?_ (by rw [Act.put_size]; exact hts) ?_ ?_ hB' ?_
      · rw [← hd]; cases o.dst <;> rfl
      · intro t ht
        have hnot : ∀ j oj, ops[j]? = some oj → oj.dst = some t → listed.getD j false = false := fun j oj hj hjd => by
          have h1 := ht j oj hj hjd
          by_cases hij : i = j
          · subst hij
            simp [hlt] at h1
          · rwa [getD_set_ne false hij] at h1
        rw [← hot t hnot]
        cases hdo : o.dst with
        | none => rfl
        | some d =>
          have hne : d ≠ t := fun e => by
            have h1 := ht i o ho (by rw [hdo, e])
            simp [hlt] at h1
          simp only [Act.put]
          rw [Array.getElem?_setIfInBounds_ne hne]
      · intro j oj hj hjl e he hb
        by_cases hij : i = j
        · subst hij
          rw [ho] at hj
          cases hj
          exact getD_set_true (hpre e he hb)
        · rw [getD_set_ne false hij] at hjl
          exact getD_set_true (hcl j oj hj hjl e he hb)
      · intro j hj hjk
        rw [slotOf_put (by rw [hts]; exact hslots) ho]
        by_cases hij : j = i
        · subst hij
          exact hFi
        · have hjl : listed.getD j false = true := by rwa [getD_set_ne false (Ne.symm hij)] at hj
          have hki : kl j ≠ some i := fun e => by
            have h := hjk i e
            simp [hlt] at h
          have h1 := hkeep j _ hij hki (hF j hjl (fun k hkk => by
            have h := hjk k hkk
            rwa [getD_set_ne false (fun (e : i = k) => hki (by rw [hkk, e]))] at h))
          have hqi : q j ≠ i := by
            intro hq'
            have hjs : j < ops.size := by
              rcases Nat.lt_or_ge j listed.size with h | h
              · omega
              · simp [Array.getElem?_eq_none h] at hjl
            have h2 := List.all_eq_true.1 hq j (by simpa using hjs)
            rw [hq'] at h2
            simp only [Array.getElem?_eq_getElem hjs, Bool.or_eq_true, beq_iff_eq] at h2
            rcases h2 with h2 | h2
            · exact hij h2.symm
            · obtain ⟨e, he, hb⟩ := Array.any_eq_true'.1 h2
              simp only [Bool.and_eq_true, beq_iff_eq] at hb
              have h3 := hcl j _ (Array.getElem?_eq_getElem hjs) hjl e he hb.1
              rw [hb.2, h0f] at h3
              cases h3
          unfold Fof at *
          unfold upd
          rw [if_neg hqi, if_neg hij]
          exact h1
    unfold wpOp
    rw [ho]
    simp only []
    split
    · rename_i hw
      rw [if_pos hw] at hst
      exact .inl (hst.wp fun v w'' ⟨h1, h2, h3⟩ => hgo v w'' h1 h2 h3)
    · rename_i hw
      rw [if_neg hw] at hst
      have : keptVal o undef = undef := by unfold keptVal; split <;> rfl
      exact hgo undef w' hB (by rw [this]; exact hst) (fun _ _ _ _ h => h)

/-- Each operation waits for earlier ones alone (or, by the compiler's order alone, for later ones): so something may always come up. -/
def backward (ops : Array Oper) : Bool := (List.range ops.size).all fun i => match ops[i]? with | some o => o.after.all fun e => !Region.binds .any e || decide (e.on < i) | none => true

theorem backward_full (hb : backward ops = true) (listed : Array Bool) (hsz : listed.size = ops.size) (hr : Region.ready .any ops listed = []) : ∀ j, j < ops.size → listed.getD j false = true := by
  intro j
  induction j using Nat.strongRecOn with
  | ind j ih =>
    intro hj
    cases hl : listed.getD j false with
    | true => rfl
    | false =>
      exfalso
      have hm : j ∈ Region.ready .any ops listed := by
        refine mem_ready.2 ⟨?_, ops[j], Array.getElem?_eq_getElem hj, fun e he hbi => ?_⟩
        · have : j < listed.size := by omega
          simpa [this] using hl
        · have h1 := List.all_eq_true.1 hb j (by simpa using hj)
          simp only [Array.getElem?_eq_getElem hj] at h1
          have h2 := Array.all_eq_true_iff_forall_mem.1 h1 e he
          simp only [hbi, Bool.not_true, Bool.false_or, decide_eq_true_eq] at h2
          exact ih e.on h2 (by omega)
      rw [hr] at hm
      cases hm

/-- What is said of a world stays where nothing that was there turns. -/
def Stays (F : World → Prop) : Prop := ∀ w' w'', Below w'.heap.size w' w'' → F w' → F w''
def AllStay (Fs : List (Value → Value → World → Prop)) : Prop := ∀ F ∈ Fs, ∀ u v, Stays (F u v)
theorem AllStay.at {q : Nat → Nat} {Fs : List (Value → Value → World → Prop)} (h : AllStay Fs) (j : Nat) (vs : Nat → Value) : Stays (Fof q Fs j vs) := by
  intro w' w'' hb hF
  unfold Fof at *
  rw [List.getD_eq_getElem?_getD] at *
  cases hj : Fs[j]? with
  | none => trivial
  | some F =>
    rw [hj] at hF
    exact h F (List.mem_of_getElem? hj) _ _ w' w'' hb hF

/-- An operation that turns nothing that was there. -/
theorem step_pure {Base : World → Prop} {q : Nat → Nat} {kl : Nat → Option Nat} {Fs : List (Value → Value → World → Prop)} {a : Act} {i : Nat} {o : Oper} (hBs : Stays Base) (hFs : AllStay Fs) (hg : o.guard = none)
    (h : ∀ (a' : Act) (w' : World), Base w' → (∀ t, (ops.any fun x => x.dst == some t) = false → a'.tmps.getD t undef = a.tmps.getD t undef) →
      (∀ j, (may kl i j && o.after.any fun e => Region.binds .any e && e.on == j) = true → Fof q Fs j (slotOf ops a') w') →
      OpYields P o a' w' fun v w'' => Below w'.heap.size w' w'' ∧ Fof q Fs i (upd (slotOf ops a') i (keptVal o v)) w'') : StepOK P ops Base q kl Fs a i o := by
  intro a' w' hB hag hp
  rw [if_pos (by simp [Region.wanted, hg])]
  have hy := h a' w' hB hag hp
  unfold OpYields at *
  generalize (execOp a'.eval o).run P w' = r at *
  have hall : ∀ v w'', (Below w'.heap.size w' w'' ∧ Fof q Fs i (upd (slotOf ops a') i (keptVal o v)) w'') → Base w'' ∧ Fof q Fs i (upd (slotOf ops a') i (keptVal o v)) w'' ∧ ∀ j vs, j ≠ i → kl j ≠ some i → Fof q Fs j vs w' → Fof q Fs j vs w'' :=
    fun v w'' h => ⟨hBs _ _ h.1 hB, h.2, fun j vs _ _ hF => hFs.at j vs _ _ h.1 hF⟩
  split at hy
  · exact hall _ _ hy
  · exact hall _ _ hy
  · exact Calls.mono hy fun e w'' ⟨v, he, hv⟩ => ⟨v, he, hall _ _ hv⟩
  · exact hy.elim

/-- The same of one under a guard that lets it come. -/
theorem step_pure_g {Base : World → Prop} {q : Nat → Nat} {kl : Nat → Option Nat} {Fs : List (Value → Value → World → Prop)} {a : Act} {i : Nat} {o : Oper} (hBs : Stays Base) (hFs : AllStay Fs)
    (h : ∀ (a' : Act) (w' : World), Base w' → (∀ t, (ops.any fun x => x.dst == some t) = false → a'.tmps.getD t undef = a.tmps.getD t undef) →
      (∀ j, (may kl i j && o.after.any fun e => Region.binds .any e && e.on == j) = true → Fof q Fs j (slotOf ops a') w') →
      Region.wanted o (yielded ops a'.tmps) = true ∧ OpYields P o a' w' fun v w'' => Below w'.heap.size w' w'' ∧ Fof q Fs i (upd (slotOf ops a') i (keptVal o v)) w'') : StepOK P ops Base q kl Fs a i o := by
  intro a' w' hB hag hp
  obtain ⟨hw, hy⟩ := h a' w' hB hag hp
  rw [if_pos hw]
  unfold OpYields at *
  generalize (execOp a'.eval o).run P w' = r at *
  have hall : ∀ v w'', (Below w'.heap.size w' w'' ∧ Fof q Fs i (upd (slotOf ops a') i (keptVal o v)) w'') → Base w'' ∧ Fof q Fs i (upd (slotOf ops a') i (keptVal o v)) w'' ∧ ∀ j vs, j ≠ i → kl j ≠ some i → Fof q Fs j vs w' → Fof q Fs j vs w'' :=
    fun v w'' h => ⟨hBs _ _ h.1 hB, h.2, fun j vs _ _ hF => hFs.at j vs _ _ h.1 hF⟩
  split at hy
  · exact hall _ _ hy
  · exact hall _ _ hy
  · exact Calls.mono hy fun e w'' ⟨v, he, hv⟩ => ⟨v, he, hall _ _ hv⟩
  · exact hy.elim

theorem yielded_of {a : Act} {g t : Nat} {b : Bool} (h : a.tmps.getD t undef = .bool b) (hd : (ops[g]?).bind (·.dst) = some t) : yielded ops a.tmps g = some b := by
  unfold yielded
  rw [hd]
  rw [Array.getD_eq_getD_getElem?] at h
  cases ht : a.tmps[t]? with
  | none => rw [ht] at h; cases h
  | some v => rw [ht] at h; simp at h; subst h; simp [ht]
theorem wanted_of {a : Act} {o : Oper} {g t : Nat} {b : Bool} (h : a.tmps.getD t undef = .bool b) (ho : o.guard = some (g, b)) (hd : (ops[g]?).bind (·.dst) = some t) : Region.wanted o (yielded ops a.tmps) = true := by
  simp [Region.wanted, ho, yielded_of h hd]
theorem unwanted_of {a : Act} {o : Oper} {g t : Nat} {b c : Bool} (h : a.tmps.getD t undef = .bool b) (ho : o.guard = some (g, c)) (hd : (ops[g]?).bind (·.dst) = some t) (hbc : (b == c) = false) : Region.wanted o (yielded ops a.tmps) = false := by
  simp [Region.wanted, ho, yielded_of h hd]
  intro hh
  rw [hh] at hbc
  simp at hbc

theorem unwanted_undef {a : Act} {o : Oper} {g t : Nat} {c : Bool} (h : a.tmps.getD t undef = undef) (ho : o.guard = some (g, c)) (hd : (ops[g]?).bind (·.dst) = some t) : Region.wanted o (yielded ops a.tmps) = false := by
  have hy : yielded ops a.tmps g = none := by
    unfold yielded
    rw [hd]
    rw [Array.getD_eq_getD_getElem?] at h
    cases ht : a.tmps[t]? with
    | none => simp [ht]
    | some v => rw [ht] at h; simp at h; subst h; simp [ht, undef]
  simp [Region.wanted, ho, hy]

/-- One that its guard leaves out. -/
theorem step_out {Base : World → Prop} {q : Nat → Nat} {kl : Nat → Option Nat} {Fs : List (Value → Value → World → Prop)} {a : Act} {i : Nat} {o : Oper}
    (h : ∀ (a' : Act) (w' : World), Base w' → (∀ t, (ops.any fun x => x.dst == some t) = false → a'.tmps.getD t undef = a.tmps.getD t undef) →
      (∀ j, (may kl i j && o.after.any fun e => Region.binds .any e && e.on == j) = true → Fof q Fs j (slotOf ops a') w') →
      Region.wanted o (yielded ops a'.tmps) = false ∧ Fof q Fs i (upd (slotOf ops a') i undef) w') : StepOK P ops Base q kl Fs a i o := by
  intro a' w' hB hag hp
  obtain ⟨hw, hy⟩ := h a' w' hB hag hp
  rw [if_neg (by rw [hw]; decide)]
  exact hy

/-- THE RULE; kl: which operation may break an operation's fact. -/
theorem wp_region_facts_kl {id : Nat} {Base : World → Prop} (q : Nat → Nat) (kl : Nat → Option Nat) {Fs : List (Value → Value → World → Prop)} {a : Act} {w : World} (hm : P.follows .mixedOrders = true) (hb : backward ops = true) (hslots : slotsOk a.tmps.size ops.toList = true) (hq : qsOk q ops = true)
    (hB : Base w.drew) (hsteps : StepsOK P ops Base q kl Fs a ops.toList 0)
    (hend : ∀ (vs : Nat → Value) (w' : World), Base w' → AllF q kl Fs vs w' ops.toList 0 → Q .normal (putAll ops.toList 0 a vs) w') : (Code.region id ops true).wp P Q a w := by
  refine wp_region_any hm (region_any_facts hslots hq hsteps hend (fun l h1 h2 => backward_full hb l h1 h2) ops.size _ a _ (by simp) (by omega) rfl rfl (fun _ _ => rfl) ?_ hB ?_)
  · intro j o _ hj
    simp only [Array.getD_eq_getD_getElem?, Array.getElem?_replicate] at hj
    split at hj <;> simp at hj
  · intro j hj
    simp only [Array.getD_eq_getD_getElem?, Array.getElem?_replicate] at hj
    split at hj <;> simp at hj

/-- THE RULE. -/
theorem wp_region_facts {id : Nat} {Base : World → Prop} {q : Nat → Nat} {Fs : List (Value → Value → World → Prop)} {a : Act} {w : World} (hm : P.follows .mixedOrders = true) (hb : backward ops = true) (hslots : slotsOk a.tmps.size ops.toList = true) (hq : qsOk q ops = true)
    (hB : Base w.drew) (hsteps : StepsOK P ops Base q (fun _ => none) Fs a ops.toList 0)
    (hend : ∀ (vs : Nat → Value) (w' : World), Base w' → AllF q (fun _ => none) Fs vs w' ops.toList 0 → Q .normal (putAll ops.toList 0 a vs) w') : (Code.region id ops true).wp P Q a w :=
  wp_region_facts_kl q (fun _ => none) hm hb hslots hq hB hsteps hend
end
end Go.Proofs.Ytlnnkkbcmidddaa
