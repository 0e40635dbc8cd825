/- A topology that came in. -/
import Derived.Test.YtlnnkkbcmidddaaRow
import Derived.Test.YtlnnkkbcmidddaaTopoW
namespace Go.Proofs.Ytlnnkkbcmidddaa
open Go.ChangeShapes Go.WideShapes Go.ChangeAt Go.RowKit
set_option maxRecDepth 100000

theorem readsInt : Reads Try.prog 3 intD Fit := Reads.int Try.underlying3 (by kernel_rfl)
abbrev FitL (l : Lnk) : Prop := Fit l.a ∧ Fit l.pa ∧ Fit l.b ∧ Fit l.pb
theorem readsLnk : Reads Try.prog 83 lnkD FitL :=
  Reads.struct Try.underlying83 (by kernel_rfl)
    (d := intD.prod (intD.prod (intD.prod (intD.prod unitD)))) (ok := fun x => Fit x.1 ∧ Fit x.2.1 ∧ Fit x.2.2.1 ∧ Fit x.2.2.2.1 ∧ True) (ReadsF.cons readsInt rfl (ReadsF.cons readsInt rfl (ReadsF.cons readsInt rfl (ReadsF.cons readsInt rfl ReadsF.nil))))
    (fun x : Int × Int × Int × Int × Unit => Lnk.mk x.1 x.2.1 x.2.2.1 x.2.2.2.1) rfl
    (by
      rintro w S a cs ⟨c1, _, rfl, h1, c2, _, rfl, h2, c3, _, rfl, h3, c4, c5, rfl, h4, h5⟩
      obtain rfl : c1 = _ := h1
      obtain rfl : c2 = _ := h2
      obtain rfl : c3 = _ := h3
      obtain rfl : c4 = _ := h4
      obtain rfl : c5 = _ := h5
      rfl)
    (fun a h => ⟨h.1, h.2.1, h.2.2.1, h.2.2.2.1⟩)
theorem readsLinks : Reads Try.prog 22 lnkD.slice (fun ls => ∀ l ∈ ls, FitL l) := Reads.slice readsLnk Try.underlying22 (by kernel_rfl) (by decide)
theorem readsTopo' : Reads Try.prog 24 (intD.prod (intD.prod (lnkD.slice.prod unitD))) (fun x => Fit x.1 ∧ Fit x.2.1 ∧ (∀ l ∈ x.2.2.1, FitL l) ∧ True) :=
  Reads.struct Try.underlying24 (by kernel_rfl)
    (ReadsF.cons readsInt rfl (ReadsF.cons readsInt rfl (ReadsF.cons readsLinks rfl ReadsF.nil)))
    (fun x => x) rfl (fun _ _ _ _ h => h) (fun _ h => h)

/-- What a topology that came in fits in. -/
abbrev FitT (s p : Int) (c : Nat) (ls : List Lnk) : Prop := Fit s ∧ Fit p ∧ (∀ l ∈ ls, FitL l) ∧ ls.length ≤ c

theorem open_topo {r : Reach} {b0 base : Nat} {sp : Nat → Bool} {held : Bool} {H : Type} {enc : TypeId × Value → H} {W : World} {v : Value} {d : DataW H} {ps : List MemPlace} (hv : Value.okWide Try.prog W r b0 24 v) (h : DataW.Trod enc Try.prog W base sp held 24 v d ps) :
    ∃ (s p : Int) (A : Option Addr) (c : Nat) (ls : List Lnk), v = .agg #[.int .i64 s, .int .i64 p, .slice A ls.length c] ∧ Rd lnkD W A ls.length ls ∧ FitT s p c ls := by
  obtain ⟨cs, rfl, hsz⟩ := okWide_struct Try.underlying24 hv
  obtain ⟨a, ⟨c1, _, hc, h1, c2, _, rfl, h2, c3, c4, rfl, h3, h4⟩, ok⟩ := readsTopo'.out h
  obtain rfl : c1 = _ := h1
  obtain rfl : c2 = _ := h2
  obtain rfl : c4 = _ := h4
  obtain ⟨A, c, rfl, hle, -, hr⟩ := h3
  refine ⟨a.1, a.2.1, A, c, a.2.2.1, ?_, hr, ok.1, ok.2.1, ok.2.2.1, hle⟩
  have : cs.toList = _ := hc
  cases cs
  simp at this
  rw [this]
end Go.Proofs.Ytlnnkkbcmidddaa
