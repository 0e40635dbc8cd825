/- ConfPorts: for every input the law returns true, and each argument reads afterwards as it read before. No condition. -/
import Derived.Test.YtlnnkkbcmidddaaConfF
import Derived.Test.YtlnnkkbcmidddaaTopoO
import Derived.Test.YtlnnkkbcmidddaaOpens
import Derived.Test.YtlnnkkbcmidddaaRow
namespace Go.Proofs.Ytlnnkkbcmidddaa
open Go.ChangeShapes Go.WideShapes Go.ChangeAt Go.RowKit
set_option maxRecDepth 100000 in
theorem confPorts_lifted (os : Os) (started : os.Started) (H : Type) (enc : TypeId × Value → H) :
    ReturnsInHanded {} Try.checked os 6 .any (Rows.confPortsSpec.pre6 enc Try.prog Try.f6 Rows.confPortsRow.domain false) (Rows.confPortsSpec.post enc Try.prog Try.f6 false true false false) := by
  refine returnsInHanded_of_change_sized (C := Try.checked) own started (by kernel_rfl) Try.func6
    (ChangeSpec.witness6 (enc := enc) (C := Try.checked) false ⟨#[], #[.agg #[.int .i64 0, .int .i64 0, .slice none 0 0], .slice none 0 0], []⟩ 8 (by kernel_rfl) (by kernel_rfl) (by kernel_rfl) (by kernel_rfl)) ?_
  intro W base args ds gs before hval0 hW hcnd hsz0 _
  have hval : ∀ (j : Nat) t v, Try.f6.params[j]? = some t → args[j]? = some v → Value.okWide Try.prog W .any base t v := hval0
  have hW' := hW
  obtain ⟨p, q, hA0, hV, rfl, hfz, hnd⟩ := hW
  have hA : DataW.TrodAll enc Try.prog W 0 (fun _ => true) true Try.f6.params.toList args.toList ds p := hA0
  have hA' := hA
  rw [Try.params6] at hA hval
  obtain ⟨v0, vs0, d0, ds0, p0, q0, hargs, rfl, rfl, h0, r0⟩ := trodAll_cons hA
  obtain ⟨v1, vs1, d1, ds1, p1, q1, rfl, rfl, rfl, h1, r1⟩ := trodAll_cons r0
  obtain ⟨rfl, rfl, rfl⟩ := trodAll_nil r1
  obtain rfl : args = #[v0, v1] := by cases args; simp_all
  obtain ⟨rfl, rfl⟩ := trodVars_none hV
  obtain ⟨s0, t0, A0, c0, l0, rfl, o0, w0⟩ := open_topo (hval 0 24 v0 rfl rfl) h0
  obtain ⟨A1, c1, l1, rfl, o1, w1, e1⟩ := open_conf (hval 1 26 v1 rfl rfl) h1
  clear hA0 hval0 hsz0
  refine (confPorts_walk s0 t0 A0 c0 l0 A1 c1 l1 W o0 w0 o1 w1 e1).mono fun e W' ⟨he, bel⟩ => ?_
  subst he
  exact ⟨_, rfl, law_post hW' ⟨_, hA'⟩ rfl bel (by kernel_rfl) (by unfold rowed; rw [Try.params6]; intro t ht; simp at ht; rcases ht with rfl | rfl <;> exact ⟨by kernel_rfl, by decide +kernel⟩) rfl rfl⟩
theorem confPorts_holds : Rows.ConfPortsSaid :=
  OpenClaim.holds_of_wide 6 Try.f6 rfl rfl rfl rfl rfl rfl rfl ⟨rfl, rfl, rfl, rfl, rfl⟩ rfl rfl rfl rfl rfl (by kernel_rfl) Try.func6 (by kernel_rfl)
    (of_decide_eq_true (by kernel_rfl)) (by unfold Func.isWrapper; first | (rw [if_pos (by decide +kernel)]; kernel_rfl) | (rw [if_neg (by decide +kernel)]; exact ⟨rfl, rfl⟩))
    (fun os started H enc _ => confPorts_lifted os started H enc)
#print axioms confPorts_holds
end Go.Proofs.Ytlnnkkbcmidddaa
