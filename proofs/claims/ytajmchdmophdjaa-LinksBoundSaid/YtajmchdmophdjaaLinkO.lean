/- Lists of switches and of packets that came in. -/
import Derived.Test.YtajmchdmophdjaaPipeO
import Derived.Test.YtajmchdmophdjaaLinkA
namespace Go.Proofs.Ytajmchdmophdjaa
open Go.ChangeShapes Go.WideShapes Go.ChangeAt Go.RowKit
set_option maxRecDepth 100000

abbrev FitSw (sw : Swt) : Prop := Fit sw.epoch ∧ Fit sw.seen ∧ Fit sw.stamp ∧ Fit sw.bad ∧ (∀ v ∈ sw.vs, FitV v) ∧ Fit sw.junk
theorem readsSwitch : Reads Try.prog 45 swD FitSw :=
  ⟨readsSwitch'.1, fun enc w base spare held fuel cs x hx => by
    obtain ⟨a, ⟨c1, _, rfl, h1, c2, _, rfl, h2, c3, _, rfl, h3, c4, _, rfl, h4, c5, _, rfl, h5, c6, _, rfl, h6, c7, c8, rfl, h7, h8⟩, ok⟩ := readsSwitch'.2 enc w base spare held fuel cs x hx
    obtain rfl : c1 = _ := h1
    obtain rfl : c2 = _ := h2
    obtain rfl : c3 = _ := h3
    obtain rfl : c4 = _ := h4
    obtain rfl : c5 = _ := h5
    obtain rfl : c7 = _ := h7
    obtain rfl : c8 = _ := h8
    obtain ⟨A, c, rfl, hle, hn, hr⟩ := h6
    exact ⟨⟨a.1, a.2.1, a.2.2.1, a.2.2.2.1, a.2.2.2.2.1, a.2.2.2.2.2.1, a.2.2.2.2.2.2.1⟩, ⟨A, c, rfl, hle, hn, hr⟩, ok.1, ok.2.1, ok.2.2.2.1, ok.2.2.2.2.1, ok.2.2.2.2.2.1, ok.2.2.2.2.2.2.1⟩⟩
theorem readsSwitches : Reads Try.prog 25 swD.slice (fun l => ∀ x ∈ l, FitSw x) := Reads.slice readsSwitch Try.underlying25 (by kernel_rfl) (by decide)
theorem readsFlyF : Reads Try.prog 38 fliesD FitF := readsFly
theorem readsFlies : Reads Try.prog 26 fliesD.slice (fun l => ∀ x ∈ l, FitF x) := Reads.slice readsFlyF Try.underlying26 (by kernel_rfl) (by decide)

section
variable {r : Reach} {b0 base : Nat} {sp : Nat → Bool} {held : Bool} {H : Type} {enc : TypeId × Value → H} {W : World} {v : Value} {d : DataW H} {ps : List MemPlace}
theorem open_switches (hv : Value.okWide Try.prog W r b0 25 v) (h : DataW.Trod enc Try.prog W base sp held 25 v d ps) :
    ∃ (A : Option Addr) (c : Nat) (l : List Swt), v = .slice A l.length c ∧ Rd swD W A l.length l ∧ (∀ x ∈ l, FitSw x) ∧ l.length ≤ c := by
  obtain ⟨a0, len, cap, rfl⟩ := okWide_slice Try.underlying25 hv
  obtain ⟨l, ⟨A, c, e, hle, -, hr⟩, ok⟩ := readsSwitches.out h
  have e' : [Value.slice a0 len cap] = [.slice A l.length c] := e
  injection e' with e' _
  exact ⟨A, c, l, e', hr, ok, hle⟩
theorem open_flies (hv : Value.okWide Try.prog W r b0 26 v) (h : DataW.Trod enc Try.prog W base sp held 26 v d ps) :
    ∃ (A : Option Addr) (c : Nat) (l : List Fly), v = .slice A l.length c ∧ Rd fliesD W A l.length l ∧ (∀ x ∈ l, FitF x) ∧ l.length ≤ c := by
  obtain ⟨a0, len, cap, rfl⟩ := okWide_slice Try.underlying26 hv
  obtain ⟨l, ⟨A, c, e, hle, -, hr⟩, ok⟩ := readsFlies.out h
  have e' : [Value.slice a0 len cap] = [.slice A l.length c] := e
  injection e' with e' _
  exact ⟨A, c, l, e', hr, ok, hle⟩
end
end Go.Proofs.Ytajmchdmophdjaa
