/- A statement that leaves its order open, where one operation breaks what others hold: an operation may look at a fact that a later one breaks. -/
import Derived.Test.YtlnnkkbcmidddaaRegion
namespace Go.Proofs.Ytlnnkkbcmidddaa
open Go.RowKit

section
variable {P : Program} {ops : Array Oper} {Q : Exit → Act → World → Prop}

/-- Operation k waits for operation i, or for one that does. -/
def behind (ops : Array Oper) : Nat → Nat → Nat → Bool
  | 0, _, _ => false
  | n + 1, k, i => match ops[k]? with | some o => o.after.any fun e => Region.binds .any e && (e.on == i || behind ops n e.on i) | none => false
theorem behind_listed {listed : Array Bool} (hcl : ∀ j oj, ops[j]? = some oj → listed.getD j false = true → ∀ e ∈ oj.after, Region.binds .any e = true → listed.getD e.on false = true) :
    ∀ n k i, behind ops n k i = true → listed.getD k false = true → listed.getD i false = true
  | 0, _, _, h, _ => by simp [behind] at h
  | n + 1, k, i, h, hl => by
    unfold behind at h
    cases ho : ops[k]? with
    | none => rw [ho] at h; simp at h
    | some o =>
      rw [ho] at h
      obtain ⟨e, he, hb⟩ := Array.any_eq_true'.1 h
      simp only [Bool.and_eq_true, Bool.or_eq_true, beq_iff_eq] at hb
      have h1 := hcl k o ho hl e he hb.1
      rcases hb.2 with h2 | h2
      · rw [← h2]; exact h1
      · exact behind_listed hcl n e.on i h2 h1
/-- Whether operation i may look at operation j's fact: the one that breaks it comes later. -/
def mayK (ops : Array Oper) (kl : Nat → Option Nat) (i j : Nat) : Bool := match kl j with | some k => k == i || behind ops 8 k i | none => true

/-- Whether slot t is as it was where operation i runs: what writes it comes no earlier. -/
def freeFor (ops : Array Oper) (i t : Nat) : Bool := (List.range ops.size).all fun j => match ops[j]? with | some o => !(o.dst == some t) || j == i || behind ops 8 j i | none => true
theorem freeFor_at {i t j : Nat} {oj : Oper} (h : freeFor ops i t = true) (hj : ops[j]? = some oj) (hd : oj.dst = some t) : j = i ∨ behind ops 8 j i = true := by
  have hlt : j < ops.size := (Array.getElem?_eq_some_iff.1 hj).1
  have h1 := List.all_eq_true.1 h j (List.mem_range.2 hlt)
  rw [hj] at h1
  simp only [hd, beq_self_eq_true, Bool.not_true, Bool.false_or, Bool.or_eq_true, beq_iff_eq] at h1
  exact h1
/-- Operation i, anywhere in the order behind those that it hangs on. -/
def StepOKK (P : Program) (ops : Array Oper) (Base S : World → Prop) (ks : Nat) (q : Nat → Nat) (kl : Nat → Option Nat) (Fs : List (Value → Value → World → Prop)) (a : Act) (i : Nat) (o : Oper) : Prop :=
  ∀ (a' : Act) (w' : World), Base w' → (∀ t, freeFor ops i t = true → a'.tmps.getD t undef = a.tmps.getD t undef) →
    (∀ j, (mayK ops kl i j && o.after.any fun e => Region.binds .any e && e.on == j) = true → Fof q Fs j (slotOf ops a') w') →
    ((i == ks || behind ops 8 ks i) = true → S w') →
    if Region.wanted o (yielded ops a'.tmps) then
      OpYields P o a' w' fun v w'' => Base w'' ∧ (i ≠ ks → S w' → S w'') ∧ Fof q Fs i (upd (slotOf ops a') i (keptVal o v)) w'' ∧ ∀ j vs, j ≠ i → kl j ≠ some i → Fof q Fs j vs w' → Fof q Fs j vs w''
    else Fof q Fs i (upd (slotOf ops a') i undef) w'

def StepsOKK (P : Program) (ops : Array Oper) (Base S : World → Prop) (ks : Nat) (q : Nat → Nat) (kl : Nat → Option Nat) (Fs : List (Value → Value → World → Prop)) (a : Act) : List Oper → Nat → Prop
  | [], _ => True
  | o :: r, i => StepOKK P ops Base S ks q kl Fs a i o ∧ StepsOKK P ops Base S ks q kl Fs a r (i + 1)

theorem StepsOKK.get {Base S : World → Prop} {ks : Nat} {q : Nat → Nat} {kl : Nat → Option Nat} {Fs : List (Value → Value → World → Prop)} {a : Act} : ∀ {l : List Oper} {i : Nat}, StepsOKK P ops Base S ks q kl Fs a l i → ∀ k o, l[k]? = some o → StepOKK P ops Base S ks q kl Fs a (i + k) o
  | [], _, _, _, _, h => by simp at h
  | x :: r, i, hs, 0, o, h => by
    simp at h
    subst h
    exact hs.1
  | x :: r, i, hs, k + 1, o, h => by
    have := StepsOKK.get hs.2 k o (by simpa using h)
    rwa [show i + 1 + k = i + (k + 1) from by omega] at this


theorem region_any_factsK {Base S : World → Prop} {ks : Nat} {q : Nat → Nat} {kl : Nat → Option Nat} {Fs : List (Value → Value → World → Prop)} {a : Act} (hslots : slotsOk a.tmps.size ops.toList = true) (hq : qsOk q ops = true) (hsteps : StepsOKK P ops Base S ks q kl Fs a ops.toList 0)
    (hend : ∀ (vs : Nat → Value) (w' : World), Base w' → AllF q kl Fs vs w' ops.toList 0 → Q .normal (putAll ops.toList 0 a vs) w')
    (hfull : ∀ listed : Array Bool, listed.size = ops.size → Region.ready .any ops listed = [] → ∀ j, j < ops.size → listed.getD j false = true) :
    ∀ (fuel : Nat) (listed : Array Bool) (a' : Act) (w' : World), listed.size = ops.size → (ops.size - (listed.toList.filter id).length) ≤ fuel →
      a'.defers = a.defers → a'.tmps.size = a.tmps.size → (∀ t, (∀ j o, ops[j]? = some o → o.dst = some t → listed.getD j false = false) → a'.tmps[t]? = a.tmps[t]?) →
      (∀ j o, ops[j]? = some o → listed.getD j false = true → ∀ e ∈ o.after, Region.binds .any e = true → listed.getD e.on false = true) →
      Base w' → (listed.getD ks false = false → S w') → (∀ j, listed.getD j false = true → (∀ i, kl j = some i → listed.getD i false = false) → Fof q Fs j (slotOf ops a') w') → wpAny P .any ops Q fuel listed a' w' := by
  intro fuel
  have hdone : ∀ (listed : Array Bool) (a' : Act) (w' : World), listed.size = ops.size → Region.ready .any ops listed = [] →
      a'.defers = a.defers → a'.tmps.size = a.tmps.size → (∀ t, (∀ j o, ops[j]? = some o → o.dst = some t → listed.getD j false = false) → a'.tmps[t]? = a.tmps[t]?) →
      Base w' → (∀ j, listed.getD j false = true → (∀ i, kl j = some i → listed.getD i false = false) → Fof q Fs j (slotOf ops a') w') → Q .normal a' w' := by
    intro listed a' w' hsz hr hd hts hot hB hF
    have hall := hfull listed hsz hr
    have e : a' = putAll ops.toList 0 a (slotOf ops a') := by
      have hd' := putAll_defers ops.toList 0 a (slotOf ops a')
      have ht : a'.tmps = (putAll ops.toList 0 a (slotOf ops a')).tmps := by
        apply Array.ext_getElem?
        intro t
        by_cases hex : ∃ (j : Nat) (o : Oper), ops[j]? = some o ∧ o.dst = some t
        · obtain ⟨j, o, hj, hjd⟩ := hex
          have hlt := slotsOk_lt hslots j o t (by simpa using hj) hjd
          rw [putAll_at t ops.toList 0 a (slotOf ops a') j o (by simpa using hj) hjd (fun k' o' h' hd' => slotsOk_uniq hslots j k' o o' t (by simpa using hj) hjd h' hd') hlt]
          rw [Nat.zero_add]
          unfold slotOf
          simp only [hj, Option.bind_some, hjd]
          rw [Array.getD_eq_getD_getElem?, Array.getElem?_eq_getElem (by rw [hts]; exact hlt)]
          rfl
        · rw [putAll_other t ops.toList 0 a _ (fun o ho he => by
            obtain ⟨j, hj, rfl⟩ := List.getElem_of_mem ho
            exact hex ⟨j, _, by simp, he⟩)]
          exact hot t (fun j o hj hjd => absurd ⟨j, o, hj, hjd⟩ hex)
      cases a' with
      | mk tm df =>
        cases hp : putAll ops.toList 0 a (slotOf ops { tmps := tm, defers := df }) with
        | mk tm' df' =>
          rw [hp] at ht hd'
          simp only at ht hd' hd
          rw [ht, hd', hd]
    rw [e]
    refine hend _ _ hB (AllF.of fun k hk hkl => ?_)
    rw [Nat.zero_add]
    exact hF k (hall k (by simpa using hk)) (fun i hi => by rw [Nat.zero_add] at hkl; rw [hkl] at hi; cases hi)
  induction fuel with
  | zero =>
    intro listed a' w' hsz hfu hd hts hot hcl hB hS hF
    have hlen : (listed.toList.filter id).length = listed.toList.length := by
      have h1 := List.length_filter_le id listed.toList
      have h2 : listed.toList.length = ops.size := by simpa using hsz
      omega
    have hall := List.length_filter_eq_length_iff.1 hlen
    have hr : Region.ready .any ops listed = [] := by
      rw [List.eq_nil_iff_forall_not_mem]
      intro j hj
      obtain ⟨h0, o, ho, _⟩ := mem_ready.1 hj
      have hlt : j < listed.size := by rw [hsz]; exact (Array.getElem?_eq_some_iff.1 ho).1
      have := hall listed[j] (by simp)
      simp [hlt] at h0
      simp [h0] at this
    exact ⟨hr, hdone listed a' w' hsz hr hd hts hot hB hF⟩
  | succ fuel ih =>
    intro listed a' w' hsz hfu hd hts hot hcl hB hS hF
    refine ⟨fun hr => hdone listed a' w' hsz hr hd hts hot hB hF, fun i hi => ?_⟩
    obtain ⟨h0, o, ho, hpre⟩ := mem_ready.1 hi
    have hlt : i < listed.size := by rw [hsz]; exact (Array.getElem?_eq_some_iff.1 ho).1
    have h0' : listed[i] = false := by simpa [hlt] using h0
    have h0f : listed.getD i false = false := by simpa [hlt] using h0'
    have hstep : StepOKK P ops Base S ks q kl Fs a i o := by
      have := StepsOKK.get hsteps i o (by simpa using ho)
      rwa [Nat.zero_add] at this
    have hst := hstep a' w' hB (fun t ht => by
        rw [Array.getD_eq_getD_getElem?, Array.getD_eq_getD_getElem?]
        congr 1
        refine hot t (fun j oj hj hjd => ?_)
        rcases freeFor_at ht hj hjd with rfl | hbh
        · exact h0f
        · cases hl : listed.getD j false with
          | false => rfl
          | true =>
            have := behind_listed hcl 8 j i hbh hl
            rw [h0f] at this
            cases this)
      (fun j hj => by
        rw [Bool.and_eq_true] at hj
        obtain ⟨e, he, hb⟩ := Array.any_eq_true'.1 hj.2
        simp only [Bool.and_eq_true, beq_iff_eq] at hb
        rw [← hb.2]
        refine hF _ (hpre e he hb.1) (fun k hkk => ?_)
        have h1 := hj.1
        unfold mayK at h1
        rw [← hb.2, hkk] at h1
        simp only [Bool.or_eq_true, beq_iff_eq] at h1
        rcases h1 with h1 | h1
        · rw [h1]
          exact h0f
        · cases hkl : listed.getD k false with
          | false => rfl
          | true =>
            have := behind_listed hcl 8 k i h1 hkl
            rw [h0f] at this
            cases this)
      (fun hk => hS (by
        rw [Bool.or_eq_true, beq_iff_eq] at hk
        rcases hk with rfl | hk
        · exact h0f
        · cases hkl : listed.getD ks false with
          | false => rfl
          | true =>
            have := behind_listed hcl 8 ks i hk hkl
            rw [h0f] at this
            cases this))
    have hcount : (ops.size - ((listed.setIfInBounds i true).toList.filter id).length) ≤ fuel := by
      rw [Array.toList_setIfInBounds, count_set _ i (by simpa using hlt) (by simpa using h0')]
      omega
    have hgo : ∀ v w'', Base w'' → (i ≠ ks → S w' → S w'') → Fof q Fs i (upd (slotOf ops a') i (keptVal o v)) w'' → (∀ j vs, j ≠ i → kl j ≠ some i → Fof q Fs j vs w' → Fof q Fs j vs w'') → wpAny P .any ops Q fuel (listed.setIfInBounds i true) (a'.put o.dst v) w'' := by
      intro v w'' hB' hS' hFi hkeep
      refine ih _ _ _ (by simpa using hsz) hcount ?_ (by rw [Act.put_size]; exact hts) ?_ ?_ hB' (fun hk => ?_) ?_
      · rw [← hd]; cases o.dst <;> rfl
      · intro t ht
        have hnot : ∀ j oj, ops[j]? = some oj → oj.dst = some t → listed.getD j false = false := fun j oj hj hjd => by
          have h1 := ht j oj hj hjd
          by_cases hij : i = j
          · subst hij
            simp [hlt] at h1
          · rwa [getD_set_ne false hij] at h1
        rw [← hot t hnot]
        cases hdo : o.dst with
        | none => rfl
        | some d =>
          have hne : d ≠ t := fun e => by
            have h1 := ht i o ho (by rw [hdo, e])
            simp [hlt] at h1
          simp only [Act.put]
          rw [Array.getElem?_setIfInBounds_ne hne]
      · intro j oj hj hjl e he hb
        by_cases hij : i = j
        · subst hij
          rw [ho] at hj
          cases hj
          exact getD_set_true (hpre e he hb)
        · rw [getD_set_ne false hij] at hjl
          exact getD_set_true (hcl j oj hj hjl e he hb)
      · have hne : i ≠ ks := fun e => by
          rw [← e] at hk
          simp [hlt] at hk
        rw [getD_set_ne false hne] at hk
        exact hS' hne (hS hk)
      · intro j hj hjk
        rw [slotOf_put (by rw [hts]; exact hslots) ho]
        by_cases hij : j = i
        · subst hij
          exact hFi
        · have hjl : listed.getD j false = true := by rwa [getD_set_ne false (Ne.symm hij)] at hj
          have hki : kl j ≠ some i := fun e => by
            have h := hjk i e
            simp [hlt] at h
          have h1 := hkeep j _ hij hki (hF j hjl (fun k hkk => by
            have h := hjk k hkk
            rwa [getD_set_ne false (fun (e : i = k) => hki (by rw [hkk, e]))] at h))
          have hqi : q j ≠ i := by
            intro hq'
            have hjs : j < ops.size := by
              rcases Nat.lt_or_ge j listed.size with h | h
              · omega
              · simp [Array.getElem?_eq_none h] at hjl
            have h2 := List.all_eq_true.1 hq j (by simpa using hjs)
            rw [hq'] at h2
            simp only [Array.getElem?_eq_getElem hjs, Bool.or_eq_true, beq_iff_eq] at h2
            rcases h2 with h2 | h2
            · exact hij h2.symm
            · obtain ⟨e, he, hb⟩ := Array.any_eq_true'.1 h2
              simp only [Bool.and_eq_true, beq_iff_eq] at hb
              have h3 := hcl j _ (Array.getElem?_eq_getElem hjs) hjl e he hb.1
              rw [hb.2, h0f] at h3
              cases h3
          unfold Fof at *
          unfold upd
          rw [if_neg hqi, if_neg hij]
          exact h1
    unfold wpOp
    rw [ho]
    simp only []
    split
    · rename_i hw
      rw [if_pos hw] at hst
      exact .inl (hst.wp fun v w'' ⟨h1, h2, h3, h4⟩ => hgo v w'' h1 h2 h3 h4)
    · rename_i hw
      rw [if_neg hw] at hst
      have : keptVal o undef = undef := by unfold keptVal; split <;> rfl
      exact hgo undef w' hB (fun _ h => h) (by rw [this]; exact hst) (fun _ _ _ _ h => h)


/-- An operation that turns nothing that was there. -/
theorem step_pureK {Base S : World → Prop} {ks : Nat} {q : Nat → Nat} {kl : Nat → Option Nat} {Fs : List (Value → Value → World → Prop)} {a : Act} {i : Nat} {o : Oper} (hBs : Stays Base) (hSs : Stays S) (hFs : AllStay Fs) (hg : o.guard = none)
    (h : ∀ (a' : Act) (w' : World), Base w' → (∀ t, freeFor ops i t = true → a'.tmps.getD t undef = a.tmps.getD t undef) →
      (∀ j, (mayK ops kl i j && o.after.any fun e => Region.binds .any e && e.on == j) = true → Fof q Fs j (slotOf ops a') w') → ((i == ks || behind ops 8 ks i) = true → S w') →
      OpYields P o a' w' fun v w'' => Below w'.heap.size w' w'' ∧ Fof q Fs i (upd (slotOf ops a') i (keptVal o v)) w'') : StepOKK P ops Base S ks q kl Fs a i o := by
  intro a' w' hB hag hp hS
  rw [if_pos (by simp [Region.wanted, hg])]
  have hy := h a' w' hB hag hp hS
  unfold OpYields at *
  generalize (execOp a'.eval o).run P w' = r at *
  have hall : ∀ v w'', (Below w'.heap.size w' w'' ∧ Fof q Fs i (upd (slotOf ops a') i (keptVal o v)) w'') → Base w'' ∧ (i ≠ ks → S w' → S w'') ∧ Fof q Fs i (upd (slotOf ops a') i (keptVal o v)) w'' ∧ ∀ j vs, j ≠ i → kl j ≠ some i → Fof q Fs j vs w' → Fof q Fs j vs w'' :=
    fun v w'' h => ⟨hBs _ _ h.1 hB, fun _ h' => hSs _ _ h.1 h', h.2, fun j vs _ _ hF => hFs.at j vs _ _ h.1 hF⟩
  split at hy
  · exact hall _ _ hy
  · exact hall _ _ hy
  · exact Calls.mono hy fun e w'' ⟨v, he, hv⟩ => ⟨v, he, hall _ _ hv⟩
  · exact hy.elim


/-- THE RULE; kl: which operation may break an operation's fact. -/
theorem wp_region_facts_klK {id : Nat} {Base : World → Prop} (ks : Nat) (S : World → Prop) (q : Nat → Nat) (kl : Nat → Option Nat) {Fs : List (Value → Value → World → Prop)} {a : Act} {w : World} (hm : P.follows .mixedOrders = true) (hb : backward ops = true) (hslots : slotsOk a.tmps.size ops.toList = true) (hq : qsOk q ops = true)
    (hB : Base w.drew) (hS : S w.drew) (hsteps : StepsOKK P ops Base S ks q kl Fs a ops.toList 0)
    (hend : ∀ (vs : Nat → Value) (w' : World), Base w' → AllF q kl Fs vs w' ops.toList 0 → Q .normal (putAll ops.toList 0 a vs) w') : (Code.region id ops true).wp P Q a w := by
  refine wp_region_any hm (region_any_factsK hslots hq hsteps hend (fun l h1 h2 => backward_full hb l h1 h2) ops.size _ a _ (by simp) (by omega) rfl rfl (fun _ _ => rfl) ?_ hB (fun _ => hS) ?_)
  · intro j o _ hj
    simp only [Array.getD_eq_getD_getElem?, Array.getElem?_replicate] at hj
    split at hj <;> simp at hj
  · intro j hj
    simp only [Array.getD_eq_getD_getElem?, Array.getElem?_replicate] at hj
    split at hj <;> simp at hj


end
end Go.Proofs.Ytlnnkkbcmidddaa
