/- Layer 18 in plain Lean: what a switch does with a packet. -/
import Derived.Test.YtlnnkkbcmidddaaPathP
import Derived.Test.YtlnnkkbcmidddaaTopoL
import Derived.Test.YtlnnkkbcmidddaaVerV
namespace Go.Proofs.Ytlnnkkbcmidddaa

structure Swt where
  epoch : Int
  seen : Int
  op : Bool
  stamp : Int
  bad : Int
  vs : List Vr
  junk : Int
/-- Where a tag's version stands. -/
def idxV (vs : List Vr) (tag : Int) : Nat := vs.findIdx (fun v => decide (v.tag = tag))
def lookV (vs : List Vr) (tag inn dst : Int) : (Int × Int) × Int :=
  match vs[idxV vs tag]? with
  | none => ((0, 0), 4)
  | some v => match bestN inn dst v.l v.l.length with
    | none => ((0, 0), 3)
    | some j => match v.l[j]? with
      | none => ((0, 0), 3)
      | some r => ((r.kind, r.port), if r.kind = 1 then 0 else 2)
def tagP (s p : Int) (ls : List Lnk) (sw : Swt) (f : Fly) : Int := if sw.op = true ∧ edgeR s p ls f.sw f.inn = true then sw.stamp else f.tag
def pipeP (s p : Int) (ls : List Lnk) (sw : Swt) (f : Fly) (tick : Int) : Hop × Fly :=
  if sw.op = false then (⟨tick, f.id, f.sw, f.inn, f.tag, 6, 0⟩, noFly) else
  if f.ttl < 1 then (⟨tick, f.id, f.sw, f.inn, tagP s p ls sw f, 5, 0⟩, noFly) else
  if (lookV sw.vs (tagP s p ls sw f) f.inn f.dst).2 ≠ 0 then (⟨tick, f.id, f.sw, f.inn, tagP s p ls sw f, (lookV sw.vs (tagP s p ls sw f) f.inn f.dst).2, 0⟩, noFly) else
  if (farR s p ls f.sw (lookV sw.vs (tagP s p ls sw f) f.inn f.dst).1.2).2.2 = true then
    (⟨tick, f.id, f.sw, f.inn, tagP s p ls sw f, 0, (lookV sw.vs (tagP s p ls sw f) f.inn f.dst).1.2⟩,
      { f with ttl := f.ttl - 1, tag := tagP s p ls sw f, sw := (farR s p ls f.sw (lookV sw.vs (tagP s p ls sw f) f.inn f.dst).1.2).1, inn := (farR s p ls f.sw (lookV sw.vs (tagP s p ls sw f) f.inn f.dst).1.2).2.1 })
  else (⟨tick, f.id, f.sw, f.inn, tagP s p ls sw f, 1, (lookV sw.vs (tagP s p ls sw f) f.inn f.dst).1.2⟩, noFly)

theorem lookV_what (vs : List Vr) (tag inn dst : Int) : (lookV vs tag inn dst).2 = 0 ∨ (lookV vs tag inn dst).2 = 2 ∨ (lookV vs tag inn dst).2 = 3 ∨ (lookV vs tag inn dst).2 = 4 := by
  unfold lookV
  split
  · simp
  · split
    · simp
    · split
      · simp
      · split <;> simp
section
variable (s p : Int) (ls : List Lnk) (sw : Swt) (f : Fly) (tick : Int)
/-- What a switch does, by cases. -/
theorem pipeP_cases : (sw.op = false ∧ pipeP s p ls sw f tick = (⟨tick, f.id, f.sw, f.inn, f.tag, 6, 0⟩, noFly)) ∨
    (sw.op = true ∧ f.ttl < 1 ∧ pipeP s p ls sw f tick = (⟨tick, f.id, f.sw, f.inn, tagP s p ls sw f, 5, 0⟩, noFly)) ∨
    (sw.op = true ∧ 1 ≤ f.ttl ∧ ∃ k o, (k = 1 ∨ k = 2 ∨ k = 3 ∨ k = 4) ∧ pipeP s p ls sw f tick = (⟨tick, f.id, f.sw, f.inn, tagP s p ls sw f, k, o⟩, noFly)) ∨
    (sw.op = true ∧ 1 ≤ f.ttl ∧ ∃ o a b, pipeP s p ls sw f tick = (⟨tick, f.id, f.sw, f.inn, tagP s p ls sw f, 0, o⟩, { f with ttl := f.ttl - 1, tag := tagP s p ls sw f, sw := a, inn := b })) := by
  unfold pipeP
  cases ho : sw.op with
  | false => exact .inl ⟨rfl, by rw [if_pos rfl]⟩
  | true =>
    rw [if_neg (by simp)]
    by_cases ht : f.ttl < 1
    · rw [if_pos ht]; exact .inr (.inl ⟨rfl, ht, rfl⟩)
    · rw [if_neg ht]
      have h1 : 1 ≤ f.ttl := by omega
      by_cases hk : (lookV sw.vs (tagP s p ls sw f) f.inn f.dst).2 ≠ 0
      · rw [if_pos hk]
        have := lookV_what sw.vs (tagP s p ls sw f) f.inn f.dst
        exact .inr (.inr (.inl ⟨rfl, h1, _, _, by omega, rfl⟩))
      · rw [if_neg hk]
        by_cases hf : (farR s p ls f.sw (lookV sw.vs (tagP s p ls sw f) f.inn f.dst).1.2).2.2 = true
        · rw [if_pos hf]; exact .inr (.inr (.inr ⟨rfl, h1, _, _, _, rfl⟩))
        · rw [if_neg hf]; exact .inr (.inr (.inl ⟨rfl, h1, _, _, .inl rfl, rfl⟩))
theorem pipeP_congr (sw2 : Swt) (f2 : Fly) (h1 : sw2.op = sw.op) (h2 : sw2.vs = sw.vs) (h3 : tagP s p ls sw2 f2 = tagP s p ls sw f) (ho : sw.op = true)
    (h4 : f2.id = f.id) (h5 : f2.sw = f.sw) (h6 : f2.inn = f.inn) (h7 : f2.ttl = f.ttl) (h8 : f2.dst = f.dst) (h9 : f2.src = f.src) : pipeP s p ls sw2 f2 tick = pipeP s p ls sw f tick := by
  unfold pipeP
  simp only [h1, h2, h3, h4, h5, h6, h7, h8, h9, ho, Bool.true_eq_false, if_false]
/-- The packet's own tag does not matter where the port leads out; the stamp does not elsewhere. -/
theorem pipeP_stamp (other : Int) (ho : sw.op = true) (he : edgeR s p ls f.sw f.inn = true) : pipeP s p ls sw { f with tag := other } tick = pipeP s p ls sw f tick :=
  pipeP_congr s p ls sw f tick sw { f with tag := other } rfl rfl (by unfold tagP; rw [if_pos ⟨ho, he⟩, if_pos ⟨ho, he⟩]) ho rfl rfl rfl rfl rfl rfl
theorem pipeP_own (other : Int) (ho : sw.op = true) (he : edgeR s p ls f.sw f.inn = false) : pipeP s p ls { sw with stamp := other } f tick = pipeP s p ls sw f tick :=
  pipeP_congr s p ls sw f tick { sw with stamp := other } f rfl rfl (by unfold tagP; rw [if_neg (by simp [he]), if_neg (by simp [he])]) ho rfl rfl rfl rfl rfl rfl
/-- Without the packet's way behind it. -/
theorem pipeP_none (h : (pipeP s p ls sw f tick).1.what ≠ 0) : (pipeP s p ls sw f tick).2 = noFly := by
  rcases pipeP_cases s p ls sw f tick with ⟨_, e⟩ | ⟨_, _, e⟩ | ⟨_, _, k, o, _, e⟩ | ⟨_, _, o, a, b, e⟩
  · rw [e]
  · rw [e]
  · rw [e]
  · rw [e] at h; exact absurd rfl h
end
end Go.Proofs.Ytlnnkkbcmidddaa
