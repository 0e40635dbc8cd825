/- Rules that came in (without the openings of other layers). -/
import Derived.Test.YtlpobpciiaofeaaPickF
import Derived.Test.YtlpobpciiaofeaaOpen
namespace Go.Proofs.Ytlpobpciiaofeaa
open Go.ChangeShapes Go.WideShapes Go.ChangeAt Go.RowKit
set_option maxRecDepth 100000

abbrev FitR8 (r : Rul) : Prop := Fit r.addr ∧ Fit r.len ∧ Fit r.inn ∧ Fit r.prio ∧ Fit r.kind ∧ Fit r.port
def Ok28 (x : Int × Int × Unit) : Prop := Fit x.1 ∧ Fit x.2.1 ∧ True
theorem readsInt8 : Reads Try.prog 3 intD Fit := Reads.int Try.underlying3 (by kernel_rfl)
theorem readsPfx8 : Reads Try.prog 29 (intD.prod (intD.prod unitD)) Ok28 :=
  Reads.struct Try.underlying29 (by kernel_rfl) (ReadsF.cons readsInt8 rfl (ReadsF.cons readsInt8 rfl ReadsF.nil)) (fun x => x) rfl (fun _ _ _ _ h => h) (fun _ h => h)
theorem readsAct8 : Reads Try.prog 31 (intD.prod (intD.prod unitD)) Ok28 :=
  Reads.struct Try.underlying31 (by kernel_rfl) (ReadsF.cons readsInt8 rfl (ReadsF.cons readsInt8 rfl ReadsF.nil)) (fun x => x) rfl (fun _ _ _ _ h => h) (fun _ h => h)
theorem readsRul8 : Reads Try.prog 33 rulD FitR8 :=
  Reads.struct Try.underlying33 (by kernel_rfl)
    (d := (intD.prod (intD.prod unitD)).prod (intD.prod (intD.prod ((intD.prod (intD.prod unitD)).prod unitD)))) (ok := fun x : (Int × Int × Unit) × Int × Int × (Int × Int × Unit) × Unit => Ok28 x.1 ∧ Fit x.2.1 ∧ Fit x.2.2.1 ∧ Ok28 x.2.2.2.1 ∧ True)
    (ReadsF.cons readsPfx8 rfl (ReadsF.cons readsInt8 rfl (ReadsF.cons readsInt8 rfl (ReadsF.cons readsAct8 rfl ReadsF.nil))))
    (fun x => Rul.mk x.1.1 x.1.2.1 x.2.1 x.2.2.1 x.2.2.2.1.1 x.2.2.2.1.2.1) rfl
    (by
      rintro w S a cs ⟨_, _, rfl, ⟨c1, _, rfl, h1, c2, c3, rfl, h2, h3⟩, c4, _, rfl, h4, c5, _, rfl, h5, _, c9, rfl, ⟨c6, _, rfl, h6, c7, c8, rfl, h7, h8⟩, h9⟩
      obtain rfl : c1 = _ := h1
      obtain rfl : c2 = _ := h2
      obtain rfl : c3 = _ := h3
      obtain rfl : c4 = _ := h4
      obtain rfl : c5 = _ := h5
      obtain rfl : c6 = _ := h6
      obtain rfl : c7 = _ := h7
      obtain rfl : c8 = _ := h8
      obtain rfl : c9 = _ := h9
      rfl)
    (fun a h => ⟨h.1.1, h.1.2.1, h.2.1, h.2.2.1, h.2.2.2.1.1, h.2.2.2.1.2.1⟩)
theorem readsRuls8 : Reads Try.prog 22 rulD.slice (fun l => ∀ r ∈ l, FitR8 r) := Reads.slice readsRul8 Try.underlying22 (by kernel_rfl) (by decide)
section
variable {r : Reach} {b0 base : Nat} {sp : Nat → Bool} {held : Bool} {H : Type} {enc : TypeId × Value → H} {W : World} {v : Value} {d : DataW H} {ps : List MemPlace}
theorem open_rules (hv : Value.okWide Try.prog W r b0 22 v) (h : DataW.Trod enc Try.prog W base sp held 22 v d ps) :
    ∃ (A : Option Addr) (c : Nat) (l : List Rul), v = .slice A l.length c ∧ Rd rulD W A l.length l ∧ (∀ r ∈ l, FitR8 r) ∧ (A = none → c = 0) := by
  obtain ⟨a0, len, cap, rfl⟩ := okWide_slice Try.underlying22 hv
  obtain ⟨l, ⟨A, c, e, -, hn, hr⟩, ok⟩ := readsRuls8.out h
  have e' : [Value.slice a0 len cap] = [.slice A l.length c] := e
  injection e' with e' _
  exact ⟨A, c, l, e', hr, ok, hn⟩
theorem open_rule (hv : Value.okWide Try.prog W r b0 33 v) (h : DataW.Trod enc Try.prog W base sp held 33 v d ps) : ∃ f : Rul, v = rulV f ∧ FitR8 f := by
  obtain ⟨cs, rfl, hsz⟩ := okWide_struct Try.underlying33 hv
  obtain ⟨f, hc, ok⟩ := readsRul8.out h
  refine ⟨f, ?_, ok⟩
  have : cs.toList = _ := hc
  cases cs
  simp at this
  rw [this]
  rfl
end
end Go.Proofs.Ytlpobpciiaofeaa
