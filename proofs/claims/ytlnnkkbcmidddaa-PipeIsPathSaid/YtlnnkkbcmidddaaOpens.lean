/- Rules, configurations and packets that came in. -/
import Derived.Test.YtlnnkkbcmidddaaTopoO
import Derived.Test.YtlnnkkbcmidddaaPathP
namespace Go.Proofs.Ytlnnkkbcmidddaa
open Go.ChangeShapes Go.WideShapes Go.ChangeAt Go.RowKit
set_option maxRecDepth 100000

abbrev FitR (r : Rul) : Prop := Fit r.addr ∧ Fit r.len ∧ Fit r.inn ∧ Fit r.prio ∧ Fit r.kind ∧ Fit r.port
def Ok2 (x : Int × Int × Unit) : Prop := Fit x.1 ∧ Fit x.2.1 ∧ True
theorem readsPfx : Reads Try.prog 54 (intD.prod (intD.prod unitD)) Ok2 :=
  Reads.struct Try.underlying54 (by kernel_rfl) (ReadsF.cons readsInt rfl (ReadsF.cons readsInt rfl ReadsF.nil)) (fun x => x) rfl (fun _ _ _ _ h => h) (fun _ h => h)
theorem readsAct : Reads Try.prog 56 (intD.prod (intD.prod unitD)) Ok2 :=
  Reads.struct Try.underlying56 (by kernel_rfl) (ReadsF.cons readsInt rfl (ReadsF.cons readsInt rfl ReadsF.nil)) (fun x => x) rfl (fun _ _ _ _ h => h) (fun _ h => h)
abbrev Rul5 := (Int × Int × Unit) × Int × Int × (Int × Int × Unit) × Unit
theorem readsRul : Reads Try.prog 58 rulD FitR :=
  Reads.struct Try.underlying58 (by kernel_rfl)
    (d := (intD.prod (intD.prod unitD)).prod (intD.prod (intD.prod ((intD.prod (intD.prod unitD)).prod unitD)))) (ok := fun x : Rul5 => Ok2 x.1 ∧ Fit x.2.1 ∧ Fit x.2.2.1 ∧ Ok2 x.2.2.2.1 ∧ True)
    (ReadsF.cons readsPfx rfl (ReadsF.cons readsInt rfl (ReadsF.cons readsInt rfl (ReadsF.cons readsAct rfl ReadsF.nil))))
    (fun x : Rul5 => Rul.mk x.1.1 x.1.2.1 x.2.1 x.2.2.1 x.2.2.2.1.1 x.2.2.2.1.2.1) rfl
    (by
      rintro w S a cs ⟨_, _, rfl, ⟨c1, _, rfl, h1, c2, c3, rfl, h2, h3⟩, c4, _, rfl, h4, c5, _, rfl, h5, _, c9, rfl, ⟨c6, _, rfl, h6, c7, c8, rfl, h7, h8⟩, h9⟩
      obtain rfl : c1 = _ := h1
      obtain rfl : c2 = _ := h2
      obtain rfl : c3 = _ := h3
      obtain rfl : c4 = _ := h4
      obtain rfl : c5 = _ := h5
      obtain rfl : c6 = _ := h6
      obtain rfl : c7 = _ := h7
      obtain rfl : c8 = _ := h8
      obtain rfl : c9 = _ := h9
      rfl)
    (fun a h => ⟨h.1.1, h.1.2.1, h.2.1, h.2.2.1, h.2.2.2.1.1, h.2.2.2.1.2.1⟩)
theorem readsRuls : Reads Try.prog 33 rulD.slice (fun l => ∀ r ∈ l, FitR r) := Reads.slice readsRul Try.underlying33 (by kernel_rfl) (by decide)
theorem readsConf : Reads Try.prog 26 confD.slice (fun c => ∀ l ∈ c, ∀ r ∈ l, FitR r) := Reads.slice readsRuls Try.underlying26 (by kernel_rfl) (by decide)
abbrev FitF (f : Fly) : Prop := Fit f.id ∧ Fit f.src ∧ Fit f.dst ∧ Fit f.ttl ∧ Fit f.tag ∧ Fit f.sw ∧ Fit f.inn
abbrev Pck := Int × Int × Int × Int × Int × Unit
def Ok5 (x : Pck) : Prop := Fit x.1 ∧ Fit x.2.1 ∧ Fit x.2.2.1 ∧ Fit x.2.2.2.1 ∧ Fit x.2.2.2.2.1 ∧ True
theorem readsPck : Reads Try.prog 28 (intD.prod (intD.prod (intD.prod (intD.prod (intD.prod unitD))))) Ok5 :=
  Reads.struct Try.underlying28 (by kernel_rfl) (ReadsF.cons readsInt rfl (ReadsF.cons readsInt rfl (ReadsF.cons readsInt rfl (ReadsF.cons readsInt rfl (ReadsF.cons readsInt rfl ReadsF.nil))))) (fun x => x) rfl (fun _ _ _ _ h => h) (fun _ h => h)
def flyD : Kd Fly := Kd.flat (fun f => [.int .i64 f.id, .int .i64 f.src, .int .i64 f.dst, .int .i64 f.ttl, .int .i64 f.tag, .int .i64 f.sw, .int .i64 f.inn]) 7 (fun _ => rfl) (fun _ u hu => by simp at hu; rcases hu with rfl | rfl | rfl | rfl | rfl | rfl | rfl <;> rfl)
theorem readsFly : Reads Try.prog 30 flyD FitF :=
  Reads.struct Try.underlying30 (by kernel_rfl)
    (d := (intD.prod (intD.prod (intD.prod (intD.prod (intD.prod unitD))))).prod (intD.prod (intD.prod unitD))) (ok := fun x : Pck × Int × Int × Unit => Ok5 x.1 ∧ Fit x.2.1 ∧ Fit x.2.2.1 ∧ True)
    (ReadsF.cons readsPck rfl (ReadsF.cons readsInt rfl (ReadsF.cons readsInt rfl ReadsF.nil)))
    (fun x : Pck × Int × Int × Unit => Fly.mk x.1.1 x.1.2.1 x.1.2.2.1 x.1.2.2.2.1 x.1.2.2.2.2.1 x.2.1 x.2.2.1) rfl
    (by
      rintro w S a cs ⟨_, _, rfl, ⟨c1, _, rfl, h1, c2, _, rfl, h2, c3, _, rfl, h3, c4, _, rfl, h4, c5, c6, rfl, h5, h6⟩, c7, _, rfl, h7, c8, c9, rfl, h8, h9⟩
      obtain rfl : c1 = _ := h1
      obtain rfl : c2 = _ := h2
      obtain rfl : c3 = _ := h3
      obtain rfl : c4 = _ := h4
      obtain rfl : c5 = _ := h5
      obtain rfl : c6 = _ := h6
      obtain rfl : c7 = _ := h7
      obtain rfl : c8 = _ := h8
      obtain rfl : c9 = _ := h9
      rfl)
    (fun a h => ⟨h.1.1, h.1.2.1, h.1.2.2.1, h.1.2.2.2.1, h.1.2.2.2.2.1, h.2.1, h.2.2.1⟩)

section
variable {r : Reach} {b0 base : Nat} {sp : Nat → Bool} {held : Bool} {H : Type} {enc : TypeId × Value → H} {W : World} {v : Value} {d : DataW H} {ps : List MemPlace}
theorem open_fly (hv : Value.okWide Try.prog W r b0 30 v) (h : DataW.Trod enc Try.prog W base sp held 30 v d ps) : ∃ f : Fly, v = flyV f ∧ FitF f := by
  obtain ⟨cs, rfl, hsz⟩ := okWide_struct Try.underlying30 hv
  obtain ⟨f, hc, ok⟩ := readsFly.out h
  refine ⟨f, ?_, ok⟩
  have : cs.toList = _ := hc
  cases cs
  simp at this
  rw [this]
/-- A configuration that came in: where its lists lie. -/
theorem open_conf (hv : Value.okWide Try.prog W r b0 26 v) (h : DataW.Trod enc Try.prog W base sp held 26 v d ps) :
    ∃ (A : Option Addr) (c : Nat) (cs : List (List Rul)), v = .slice A cs.length c ∧ Rd confD W A cs.length cs ∧ (∀ l ∈ cs, ∀ r ∈ l, FitR r) ∧ cs.length ≤ c := by
  obtain ⟨a0, len, cap, rfl⟩ := okWide_slice Try.underlying26 hv
  obtain ⟨cs, ⟨A, c, e, hle, -, hr⟩, ok⟩ := readsConf.out h
  have e' : [Value.slice a0 len cap] = [.slice A cs.length c] := e
  injection e' with e' _
  exact ⟨A, c, cs, e', hr, ok, hle⟩
end
end Go.Proofs.Ytlnnkkbcmidddaa
