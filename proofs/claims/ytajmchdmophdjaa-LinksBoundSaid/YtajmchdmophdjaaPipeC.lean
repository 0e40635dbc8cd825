/- The walk through layer 18's example. -/
import Derived.Test.YtajmchdmophdjaaPipeB
import Derived.Test.YtajmchdmophdjaaPathT
import Derived.Test.YtajmchdmophdjaaPathE
namespace Go.Proofs.Ytajmchdmophdjaa
open Go.RowKit
set_option maxRecDepth 100000

theorem shut_pipe : pipeP 2 2 [⟨0, 1, 1, 0⟩] ⟨0, 0, false, 0, 0, [], 0⟩ ⟨0, 0, 0, 0, 0, 0, 0⟩ 3 = (⟨3, 0, 0, 0, 0, 6, 0⟩, noFly) := by decide +kernel
theorem open_pipe : pipeP 2 2 [⟨0, 1, 1, 0⟩] ⟨0, 0, true, 2, 0, [⟨2, [⟨0, 0, -1, 0, 1, 1⟩]⟩], 0⟩ ⟨0, 0, 0, 5, 0, 0, 0⟩ 3 = (⟨3, 0, 0, 0, 2, 0, 1⟩, ⟨0, 0, 0, 4, 2, 1, 0⟩) := by decide +kernel
/-- A table of one version. -/
theorem one_ver {W W1 : World} {A' : Option Addr} {n' g t : Nat} {tag : Int} {l : List Rul} {fr : Nat × Nat} (hl : Rd rulD W A' l.length l) (hn : l.length ≤ n') (h0 : A' = none → n' = 0) (hb : Below W.heap.size W W1) (hg : W1.heap[g]? = some (.cells #[.int .i64 tag, .slice A' l.length n'] t fr)) : Rd verD W1 (some ⟨g, 0, none⟩) 1 [⟨tag, l⟩] :=
  ⟨rfl, by decide, fun _ => ⟨g, 0, rfl, blk_lt hg, fun i x hx => by
    have hi : i = 0 := by
      have := (List.getElem?_eq_some_iff.1 hx).1
      simpa using this
    subst hi
    have hx' : x = ⟨tag, l⟩ := by simpa using hx.symm
    subst hx'
    refine ⟨_, ⟨A', n', rfl, hn, h0, hl.below hb⟩, fun j u hu => ?_⟩
    rw [blk_cell hg]
    simpa using hu⟩⟩

end Go.Proofs.Ytajmchdmophdjaa
