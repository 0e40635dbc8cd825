/- A switch that came in. -/
import Derived.Test.YtajmchdmophdjaaOpens
import Derived.Test.YtajmchdmophdjaaPipeB
namespace Go.Proofs.Ytajmchdmophdjaa
open Go.ChangeShapes Go.WideShapes Go.ChangeAt Go.RowKit
set_option maxRecDepth 100000

abbrev FitV (v : Vr) : Prop := Fit v.tag ∧ ∀ r ∈ v.l, FitR r
theorem readsVer' : Reads Try.prog 53 (intD.prod (rulD.slice.prod unitD)) (fun x => Fit x.1 ∧ (∀ r ∈ x.2.1, FitR r) ∧ True) :=
  Reads.struct Try.underlying53 (by kernel_rfl)
    (ReadsF.cons readsInt rfl (ReadsF.cons readsRuls rfl ReadsF.nil))
    (fun x => x) rfl (fun _ _ _ _ h => h) (fun _ h => h)
theorem readsVer : Reads Try.prog 53 verD FitV :=
  ⟨readsVer'.1, fun enc w base spare held fuel cs x hx => by
    obtain ⟨a, ⟨c1, _, rfl, h1, c2, c3, rfl, ⟨A, c, rfl, h2, h4, h5⟩, h3⟩, ok⟩ := readsVer'.2 enc w base spare held fuel cs x hx
    obtain rfl : c1 = _ := h1
    obtain rfl : c3 = _ := h3
    exact ⟨⟨a.1, a.2.1⟩, ⟨A, c, rfl, h2, h4, h5⟩, ok.1, ok.2.1⟩⟩
theorem readsVers : Reads Try.prog 43 verD.slice (fun l => ∀ v ∈ l, FitV v) := Reads.slice readsVer Try.underlying43 (by kernel_rfl) (by decide)
theorem readsBool : Reads Try.prog 4 boolD (fun _ => True) := Reads.bool Try.underlying4 (by kernel_rfl)
theorem readsSwitch' : Reads Try.prog 45 (intD.prod (intD.prod (boolD.prod (intD.prod (intD.prod (verD.slice.prod (intD.prod unitD))))))) (fun x => Fit x.1 ∧ Fit x.2.1 ∧ True ∧ Fit x.2.2.2.1 ∧ Fit x.2.2.2.2.1 ∧ (∀ v ∈ x.2.2.2.2.2.1, FitV v) ∧ Fit x.2.2.2.2.2.2.1 ∧ True) :=
  Reads.struct Try.underlying45 (by kernel_rfl)
    (ReadsF.cons readsInt rfl (ReadsF.cons readsInt rfl (ReadsF.cons readsBool rfl (ReadsF.cons readsInt rfl (ReadsF.cons readsInt rfl (ReadsF.cons readsVers rfl (ReadsF.cons readsInt rfl ReadsF.nil)))))))
    (fun x => x) rfl (fun _ _ _ _ h => h) (fun _ h => h)
abbrev FitS (sw : Swt) (cV : Nat) : Prop := Fit sw.epoch ∧ Fit sw.seen ∧ Fit sw.stamp ∧ Fit sw.bad ∧ (∀ v ∈ sw.vs, FitV v) ∧ Fit sw.junk ∧ sw.vs.length ≤ cV
theorem open_switch {r : Reach} {b0 base : Nat} {sp : Nat → Bool} {held : Bool} {H : Type} {enc : TypeId × Value → H} {W : World} {v : Value} {d : DataW H} {ps : List MemPlace} (hv : Value.okWide Try.prog W r b0 45 v) (h : DataW.Trod enc Try.prog W base sp held 45 v d ps) :
    ∃ (sw : Swt) (V : Option Addr) (cV : Nat), v = swV sw V cV ∧ Rd verD W V sw.vs.length sw.vs ∧ FitS sw cV := by
  obtain ⟨cs, rfl, hsz⟩ := okWide_struct Try.underlying45 hv
  obtain ⟨a, ⟨c1, _, hc, h1, c2, _, rfl, h2, c3, _, rfl, h3, c4, _, rfl, h4, c5, _, rfl, h5, c6, _, rfl, h6, c7, c8, rfl, h7, h8⟩, ok⟩ := readsSwitch'.out h
  obtain rfl : c1 = _ := h1
  obtain rfl : c2 = _ := h2
  obtain rfl : c3 = _ := h3
  obtain rfl : c4 = _ := h4
  obtain rfl : c5 = _ := h5
  obtain rfl : c7 = _ := h7
  obtain rfl : c8 = _ := h8
  obtain ⟨A, c, rfl, hle, -, hr⟩ := h6
  refine ⟨⟨a.1, a.2.1, a.2.2.1, a.2.2.2.1, a.2.2.2.2.1, a.2.2.2.2.2.1, a.2.2.2.2.2.2.1⟩, A, c, ?_, hr, ok.1, ok.2.1, ok.2.2.2.1, ok.2.2.2.2.1, ok.2.2.2.2.2.1, ok.2.2.2.2.2.2.1, hle⟩
  have : cs.toList = _ := hc
  cases cs
  simp at this
  rw [this]
end Go.Proofs.Ytajmchdmophdjaa
