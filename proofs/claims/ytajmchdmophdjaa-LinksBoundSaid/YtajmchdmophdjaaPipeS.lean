/- The document's At of layer 18, whatever the switch. -/
import Derived.Test.YtajmchdmophdjaaPipeR
namespace Go.Proofs.Ytajmchdmophdjaa
open Go.RowKit
theorem pipeR_any (s p : Int) (A : Option Addr) (c : Nat) (ls : List Lnk) (sw : Swt) (V : Option Addr) (cV : Nat) (f : Fly) (tick : Int) (w : World) (hl : Rd lnkD w A ls.length ls) (hv : Rd verD w V sw.vs.length sw.vs) (hz : ∀ v ∈ sw.vs, v.l.length * 48 ≤ 140737488355328) (hf : Fit f.ttl) :
    Calls Try.prog 16 #[.agg #[.int .i64 s, .int .i64 p, .slice A ls.length c], swV sw V cV, flyV f, .int .i64 tick] w fun e w' => e = .returned (.tuple #[hopV (pipeP s p ls sw f tick).1, flyV (pipeP s p ls sw f tick).2]) ∧ Below w.heap.size w w' := by
  obtain ⟨ep, se, op, st, ba, vs, ju⟩ := sw
  cases op
  · exact pipeR_shut s p A c ls ep se st ba vs ju V cV f tick w
  · cases he : edgeR s p ls f.sw f.inn
    · by_cases ht : f.ttl < 1
      · exact pipeR_old_false s p A c ls ep se st ba vs ju V cV f tick w hl hv hz hf he ht
      · obtain ⟨a1, a2, k, hlk⟩ : ∃ a1 a2 k, lookV vs f.tag f.inn f.dst = ((a1, a2), k) := ⟨_, _, _, rfl⟩
        by_cases hk : k = 0
        · subst hk
          obtain ⟨x1, x2, x3, hfr⟩ : ∃ x1 x2 x3, farR s p ls f.sw a2 = (x1, x2, x3) := ⟨_, _, _, rfl⟩
          cases x3
          · exact pipeR_far_false_false s p A c ls ep se st ba vs ju V cV f tick w hl hv hz hf he ht a1 a2 x1 x2 hlk hfr
          · exact pipeR_far_false_true s p A c ls ep se st ba vs ju V cV f tick w hl hv hz hf he ht a1 a2 x1 x2 hlk hfr
        · exact pipeR_miss_false s p A c ls ep se st ba vs ju V cV f tick w hl hv hz hf he ht a1 a2 k hlk hk
    · by_cases ht : f.ttl < 1
      · exact pipeR_old_true s p A c ls ep se st ba vs ju V cV f tick w hl hv hz hf he ht
      · obtain ⟨a1, a2, k, hlk⟩ : ∃ a1 a2 k, lookV vs st f.inn f.dst = ((a1, a2), k) := ⟨_, _, _, rfl⟩
        by_cases hk : k = 0
        · subst hk
          obtain ⟨x1, x2, x3, hfr⟩ : ∃ x1 x2 x3, farR s p ls f.sw a2 = (x1, x2, x3) := ⟨_, _, _, rfl⟩
          cases x3
          · exact pipeR_far_true_false s p A c ls ep se st ba vs ju V cV f tick w hl hv hz hf he ht a1 a2 x1 x2 hlk hfr
          · exact pipeR_far_true_true s p A c ls ep se st ba vs ju V cV f tick w hl hv hz hf he ht a1 a2 x1 x2 hlk hfr
        · exact pipeR_miss_true s p A c ls ep se st ba vs ju V cV f tick w hl hv hz hf he ht a1 a2 k hlk hk
end Go.Proofs.Ytajmchdmophdjaa
