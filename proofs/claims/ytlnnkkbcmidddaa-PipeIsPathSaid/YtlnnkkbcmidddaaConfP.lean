/- Layer 12 in plain Lean: what a switch's rules may be, what a configuration may be, which ones say the same. -/
import Derived.Test.YtlnnkkbcmidddaaConfK
import Derived.Test.YtlnnkkbcmidddaaSortP
namespace Go.Proofs.Ytlnnkkbcmidddaa
/-- A rule that may be one of a switch of so many ports. -/
def okR (p : Int) (r : Rul) : Bool := mayI r && decide (r.inn < p) && !(r.kind == 1 && decide (p ≤ r.port))
def rulesP (p : Int) (l : List Rul) : Bool := decide (l.length ≤ 40) && decide ((l.map keyR).Nodup) && l.all (okR p)
/-- What a map of so many keys knows of a list of rules. -/
def Seen (m : List (Plc × Bool)) (l : List Rul) : Prop :=
  (∀ x, x ∈ m.map Prod.fst ↔ x ∈ l.map keyR) ∧ m.length ≤ l.length ∧ (m.length = l.length ↔ (l.map keyR).Nodup)
theorem Seen.nil : Seen [] [] := ⟨fun _ => Iff.rfl, Nat.le_refl _, by simp⟩
theorem mput_keys {ν : Type} (m : List (Plc × ν)) (k : Plc) (v : ν) : (k ∈ m.map Prod.fst → (mput m k v).map Prod.fst = m.map Prod.fst) ∧ (k ∉ m.map Prod.fst → (mput m k v).map Prod.fst = m.map Prod.fst ++ [k]) := by
  unfold mput
  cases h : m.findIdx? (fun p => decide (k = p.1)) with
  | none =>
    have hn : k ∉ m.map Prod.fst := by
      rw [List.findIdx?_eq_none_iff] at h
      intro hk
      obtain ⟨p, hp, rfl⟩ := List.mem_map.1 hk
      have := h p hp
      simp at this
    exact ⟨fun h => absurd h hn, fun _ => by simp⟩
  | some i =>
    obtain ⟨hlt, hki, _⟩ := List.findIdx?_eq_some_iff_getElem.1 h
    have hk : k = m[i].1 := by simpa using hki
    have hin : k ∈ m.map Prod.fst := List.mem_map.2 ⟨m[i], List.getElem_mem hlt, hk.symm⟩
    refine ⟨fun _ => ?_, fun h => absurd hin h⟩
    dsimp only
    rw [List.map_set]
    apply List.ext_getElem?
    intro j
    rw [List.getElem?_set]
    by_cases hij : i = j
    · subst hij
      simp [hlt, hk]
    · simp [hij]
theorem Seen.put {m : List (Plc × Bool)} {l : List Rul} (h : Seen m l) (r : Rul) : Seen (mput m (keyR r) true) (l ++ [r]) := by
  obtain ⟨h1, h2, h3⟩ := h
  have hk := mput_keys m (keyR r) true
  have hl : ∀ m' : List (Plc × Bool), m'.length = (m'.map Prod.fst).length := fun _ => by simp
  by_cases hin : keyR r ∈ m.map Prod.fst
  · have e := hk.1 hin
    refine ⟨fun x => ?_, ?_, ?_⟩
    · rw [e, h1, List.map_append, List.mem_append]
      constructor
      · exact .inl
      · rintro (h | h)
        · exact h
        · simp only [List.map_cons, List.map_nil, List.mem_singleton] at h
          rw [h]
          exact (h1 _).1 hin
    · rw [hl, e, ← hl, List.length_append]
      exact Nat.le_trans h2 (Nat.le_add_right _ _)
    · rw [hl, e, ← hl, List.length_append]
      constructor
      · intro h4
        simp only [List.length_singleton] at h4
        omega
      · intro h4
        rw [List.map_append, List.nodup_append] at h4
        exact absurd rfl (h4.2.2 _ ((h1 _).1 hin) _ (by simp))
  · have e := hk.2 hin
    refine ⟨fun x => ?_, ?_, ?_⟩
    · rw [e, List.mem_append, h1, List.map_append, List.mem_append]
      simp
    · rw [hl, e, List.length_append, ← hl, List.length_append]
      simp only [List.length_singleton]
      omega
    · rw [hl, e, List.length_append, ← hl, List.length_append, List.map_append]
      simp only [List.length_singleton, Nat.add_right_cancel_iff, h3]
      constructor
      · intro h4
        rw [List.nodup_append]
        refine ⟨h4, by simp, fun a ha b hb => ?_⟩
        simp only [List.map_cons, List.map_nil, List.mem_singleton] at hb
        rintro rfl
        rw [hb] at ha
        exact hin ((h1 _).2 ha)
      · intro h4
        exact (List.nodup_append.1 h4).1
theorem all_snoc {l : List Rul} {k : Nat} {f : Rul → Bool} (h : k < l.length) : (l.take (k + 1)).all f = ((l.take k).all f && f l[k]) := by
  rw [List.take_succ_eq_append_getElem h, List.all_append]
  simp
theorem all_not {l : List Rul} {k : Nat} {f : Rul → Bool} (h : k < l.length) (hf : f l[k] = false) : l.all f = false := by
  rw [List.all_eq_false]
  exact ⟨l[k], List.getElem_mem h, by simp [hf]⟩
def mostC (cs : List (List Rul)) : Nat := cs.foldl (fun n l => max n l.length) 0
def sameC (a b : List (List Rul)) : Bool := decide (a.map sortP = b.map sortP)
end Go.Proofs.Ytlnnkkbcmidddaa
