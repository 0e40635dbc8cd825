/- Layer 19 in plain Lean: all packets, a tick later. -/
import Derived.Test.YtajmchdmophdjaaPipeP
namespace Go.Proofs.Ytajmchdmophdjaa

def isBy (sw out : Int) (h : Hop) : Bool := decide (h.what = 0) && decide (h.sw = sw) && decide (h.out = out)
/-- How many went by a port. -/
def carried (hops : List Hop) (sw out : Int) : Nat := (hops.filter (isBy sw out)).length
/-- The switch that a packet is at. -/
def swAt (sws : List Swt) (i : Int) : Option Swt := if i < 0 then none else sws[i.toNat]?
def linkStep (s p : Int) (ls : List Lnk) (sws : List Swt) (tick : Int) (st : List Fly × List Hop) (x : Fly) : List Fly × List Hop :=
  match swAt sws x.sw with
  | none => st
  | some sw =>
    if (pipeP s p ls sw x tick).1.what = 0 then
      if 4 ≤ carried st.2 (pipeP s p ls sw x tick).1.sw (pipeP s p ls sw x tick).1.out then (st.1, st.2 ++ [{ (pipeP s p ls sw x tick).1 with what := 7 }])
      else (st.1 ++ [(pipeP s p ls sw x tick).2], st.2 ++ [(pipeP s p ls sw x tick).1])
    else (st.1, st.2 ++ [(pipeP s p ls sw x tick).1])
def linksP (s p : Int) (ls : List Lnk) (sws : List Swt) (fs : List Fly) (tick : Int) : List Fly × List Hop := fs.foldl (linkStep s p ls sws tick) ([], [])
section
variable {s p : Int} {ls : List Lnk} {sws : List Swt} {tick : Int}
theorem linksP_snoc (fs : List Fly) (x : Fly) : linksP s p ls sws (fs ++ [x]) tick = linkStep s p ls sws tick (linksP s p ls sws fs tick) x := by
  unfold linksP; rw [List.foldl_append]; rfl
theorem linkStep_len (st : List Fly × List Hop) (x : Fly) : (linkStep s p ls sws tick st x).1.length ≤ st.1.length + 1 ∧ (linkStep s p ls sws tick st x).2.length ≤ st.2.length + 1 := by
  unfold linkStep
  split
  · omega
  · split
    · split <;> simp
    · simp
theorem fold_len (fs : List Fly) : ∀ st : List Fly × List Hop, (fs.foldl (linkStep s p ls sws tick) st).1.length ≤ st.1.length + fs.length ∧ (fs.foldl (linkStep s p ls sws tick) st).2.length ≤ st.2.length + fs.length := by
  induction fs with
  | nil => intro st; exact ⟨Nat.le_refl _, Nat.le_refl _⟩
  | cons x fs ih =>
    intro st
    have h1 := linkStep_len (s := s) (p := p) (ls := ls) (sws := sws) (tick := tick) st x
    have h2 := ih (linkStep s p ls sws tick st x)
    rw [List.foldl_cons, List.length_cons]
    omega
theorem linksP_len (fs : List Fly) : (linksP s p ls sws fs tick).1.length ≤ fs.length ∧ (linksP s p ls sws fs tick).2.length ≤ fs.length := by
  have := fold_len (s := s) (p := p) (ls := ls) (sws := sws) (tick := tick) fs ([], [])
  simpa [linksP] using this
theorem carried_snoc (hops : List Hop) (h : Hop) (sw out : Int) : carried (hops ++ [h]) sw out = carried hops sw out + if isBy sw out h then 1 else 0 := by
  unfold carried
  rw [List.filter_append, List.length_append]
  cases hb : isBy sw out h <;> simp [List.filter, hb]
end
end Go.Proofs.Ytajmchdmophdjaa
