/- Tables that came in. -/
import Derived.Test.YtlpobpciiaofeaaPickO
import Derived.Test.YtlpobpciiaofeaaVerV
namespace Go.Proofs.Ytlpobpciiaofeaa
open Go.ChangeShapes Go.WideShapes Go.ChangeAt Go.RowKit
set_option maxRecDepth 100000
abbrev FitV8 (v : Vr) : Prop := Fit v.tag ∧ ∀ r ∈ v.l, FitR8 r
theorem readsVer8' : Reads Try.prog 56 (intD.prod (rulD.slice.prod unitD)) (fun x => Fit x.1 ∧ (∀ r ∈ x.2.1, FitR8 r) ∧ True) :=
  Reads.struct Try.underlying56 (by kernel_rfl)
    (ReadsF.cons readsInt8 rfl (ReadsF.cons readsRuls8 rfl ReadsF.nil))
    (fun x => x) rfl (fun _ _ _ _ h => h) (fun _ h => h)
theorem readsVer8 : Reads Try.prog 56 verD FitV8 :=
  ⟨readsVer8'.1, fun enc w base spare held fuel cs x hx => by
    obtain ⟨a, ⟨c1, _, rfl, h1, c2, c3, rfl, ⟨A, c, rfl, h2, h4, h5⟩, h3⟩, ok⟩ := readsVer8'.2 enc w base spare held fuel cs x hx
    obtain rfl : c1 = _ := h1
    obtain rfl : c3 = _ := h3
    exact ⟨⟨a.1, a.2.1⟩, ⟨A, c, rfl, h2, h4, h5⟩, ok.1, ok.2.1⟩⟩
theorem readsVers8 : Reads Try.prog 39 verD.slice (fun l => ∀ v ∈ l, FitV8 v) := Reads.slice readsVer8 Try.underlying39 (by kernel_rfl) (by decide)
section
variable {r : Reach} {b0 base : Nat} {sp : Nat → Bool} {held : Bool} {H : Type} {enc : TypeId × Value → H} {W : World} {v : Value} {d : DataW H} {ps : List MemPlace}
theorem open_vers (hv : Value.okWide Try.prog W r b0 39 v) (h : DataW.Trod enc Try.prog W base sp held 39 v d ps) :
    ∃ (A : Option Addr) (c : Nat) (l : List Vr), v = .slice A l.length c ∧ Rd verD W A l.length l ∧ (∀ x ∈ l, FitV8 x) ∧ ((A = none → c = 0) ∧ l.length ≤ c) := by
  obtain ⟨a0, len, cap, rfl⟩ := okWide_slice Try.underlying39 hv
  obtain ⟨l, ⟨A, c, e, hle, hn, hr⟩, ok⟩ := readsVers8.out h
  have e' : [Value.slice a0 len cap] = [.slice A l.length c] := e
  injection e' with e' _
  exact ⟨A, c, l, e', hr, ok, hn, hle⟩
end
end Go.Proofs.Ytlpobpciiaofeaa
