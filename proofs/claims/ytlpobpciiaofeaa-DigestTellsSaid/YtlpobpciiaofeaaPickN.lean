/- Rules that came in, with their capacity. -/
import Derived.Test.YtlpobpciiaofeaaPickO
namespace Go.Proofs.Ytlpobpciiaofeaa
open Go.ChangeShapes Go.WideShapes Go.ChangeAt Go.RowKit
set_option maxRecDepth 100000
section
variable {r : Reach} {b0 base : Nat} {sp : Nat → Bool} {held : Bool} {H : Type} {enc : TypeId × Value → H} {W : World} {v : Value} {d : DataW H} {ps : List MemPlace}
theorem open_rulesc (hv : Value.okWide Try.prog W r b0 22 v) (h : DataW.Trod enc Try.prog W base sp held 22 v d ps) :
    ∃ (A : Option Addr) (c : Nat) (l : List Rul), v = .slice A l.length c ∧ Rd rulD W A l.length l ∧ (∀ r ∈ l, FitR8 r) ∧ ((A = none → c = 0) ∧ l.length ≤ c) := by
  obtain ⟨a0, len, cap, rfl⟩ := okWide_slice Try.underlying22 hv
  obtain ⟨l, ⟨A, c, e, hle, hn, hr⟩, ok⟩ := readsRuls8.out h
  have e' : [Value.slice a0 len cap] = [.slice A l.length c] := e
  injection e' with e' _
  exact ⟨A, c, l, e', hr, ok, hn, hle⟩
end
end Go.Proofs.Ytlpobpciiaofeaa
