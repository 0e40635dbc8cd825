/- The walks through layer 10's example and DigestNone. -/
import Derived.Test.YtlpobpciiaofeaaDigG
namespace Go.Proofs.Ytlpobpciiaofeaa
open Go.RowKit
set_option maxRecDepth 100000
theorem totI_two (a b : Int) : totI 0 [a, b] = a * 256 + b := by simp [totI]
theorem of_nil {a : Int} (h1 : 1 ≤ a) (h2 : a ≤ 4095) : ofP a [] = 65535 - a := by
  have e : bytesP a [] = [a / 256 % 256, a % 256] := by
    unfold bytesP
    rw [sortP_nil]
    rfl
  unfold ofP sumI
  rw [e, totI_two, show a / 256 % 256 * 256 + a % 256 = a by omega, foldC_small (by omega) (by omega)]
theorem ofNil_any (a : Int) (w : World) (h1 : 1 ≤ a) (h2 : a ≤ 4095) : Calls Try.prog 25 #[.int .i64 a, .slice none 0 0] w fun e w' => e = .returned (.int .i64 (65535 - a)) ∧ Below w.heap.size w w' := by
  rw [← of_nil h1 h2]
  exact of_any a [] none 0 w (Rd.nil _ _ _) (fun _ => rfl) (by decide) (WalkArith.wf_i64 ⟨by omega, by omega⟩)
theorem sumNil : sumI [] = 65535 := by simp [sumI, totI, foldC]
theorem sumNil_any (w : World) : Calls Try.prog 39 #[.slice none 0 0] w fun e w' => e = .returned (.int .i64 65535) ∧ Below w.heap.size w w' := by
  have hr : Rd bytF.kd w none ([] : List Int).length [] := Rd.nil _ _ _
  have hn : ([] : List Int).length ≤ 1000000 := by simp
  have h := sum_any [] none 0 w hr Oct.nil hn
  rw [sumNil] at h
  exact h
theorem allNil_any (w : World) : Calls Try.prog 27 #[.slice none 0 0] w fun e w' => e = .returned (.int .i64 65535) ∧ Below w.heap.size w w' := by
  go_enter Try.func27, Try.ntmps27
  go_wp2
  go_loopw [3, 9] (fun v i wr => v = .slice none 0 0 ∧ i = .int .i64 0 ∧ Below w.heap.size w wr) (fun _ _ _ => 0)
  case atStart => exact ⟨rfl, rfl, Below.refl _ _⟩
  case round =>
    obtain ⟨rfl, rfl, hb⟩ := hrel
    have KB := Aside.mk hb
    clear hb
    go_wp2_with (go_at_call 39; refine (sumNil_any _).mono ?_; rintro e w1 ⟨rfl, hb1⟩; have KB := Aside.mk (below_call KB.out hb1); clear hb1)
    go_ret
    exact ⟨rfl, KB.out⟩
theorem awake10_any (w : World) : Calls Try.prog 23 #[] w fun e w' => e = .returned (.bool true) ∧ Below w.heap.size w w' := by
  go_enter Try.func23, Try.ntmps23
  go_wp2_with (first
    | (go_at_call 25; refine (ofNil_any 1 _ (by decide) (by decide)).mono ?_; rintro e w1 ⟨rfl, hb1⟩; have KB := Aside.mk hb1; clear hb1)
    | (go_at_call 27; refine (allNil_any _).mono ?_; rintro e w2 ⟨rfl, hb1⟩; have KB := Aside.mk (below_call KB.out hb1); clear hb1))
  go_ret
  exact ⟨rfl, KB.out⟩
theorem digestNone_walk (a b : Int) (w : World) (ha : Fit a) (hb : Fit b) : Calls Try.prog 10 #[.int .i64 a, .int .i64 b] w fun e w' => e = .returned (.bool true) ∧ Below w.heap.size w w' := by
  have HA := Aside.mk ha
  have HB := Aside.mk hb
  clear ha hb
  by_cases h1 : a < 1
  · have d1 : decide (a < 1) = true := decide_eq_true h1
    go_enter Try.func10, Try.ntmps10
    go_wp2_with (go_at_call 23; refine (awake10_any _).mono ?_; rintro e w1 ⟨rfl, hb1⟩; have KB := Aside.mk hb1; clear hb1)
    go_ret
    exact ⟨rfl, KB.out⟩
  have d1 : decide (a < 1) = false := decide_eq_false h1
  by_cases h2 : 4095 < a
  · have d2 : decide (4095 < a) = true := decide_eq_true h2
    go_enter Try.func10, Try.ntmps10
    go_wp2_with (go_at_call 23; refine (awake10_any _).mono ?_; rintro e w1 ⟨rfl, hb1⟩; have KB := Aside.mk hb1; clear hb1)
    go_ret
    exact ⟨rfl, KB.out⟩
  have d2 : decide (4095 < a) = false := decide_eq_false h2
  by_cases h3 : b < 1
  · have d3 : decide (b < 1) = true := decide_eq_true h3
    go_enter Try.func10, Try.ntmps10
    go_wp2_with (go_at_call 23; refine (awake10_any _).mono ?_; rintro e w1 ⟨rfl, hb1⟩; have KB := Aside.mk hb1; clear hb1)
    go_ret
    exact ⟨rfl, KB.out⟩
  have d3 : decide (b < 1) = false := decide_eq_false h3
  by_cases h4 : 4095 < b
  · have d4 : decide (4095 < b) = true := decide_eq_true h4
    go_enter Try.func10, Try.ntmps10
    go_wp2_with (go_at_call 23; refine (awake10_any _).mono ?_; rintro e w1 ⟨rfl, hb1⟩; have KB := Aside.mk hb1; clear hb1)
    go_ret
    exact ⟨rfl, KB.out⟩
  have d4 : decide (4095 < b) = false := decide_eq_false h4
  have a1 : 1 ≤ a := by omega
  have a2 : a ≤ 4095 := by omega
  have b1 : 1 ≤ b := by omega
  have b2 : b ≤ 4095 := by omega
  have e3 : ((65535 - a : Int) == 65535 - a) = true := by simp
  have e4 : (((65535 - a : Int) == 65535 - b) == (a == b)) = true := by
    have h : (65535 - a == 65535 - b) = (a == b) := by
      rw [Bool.eq_iff_iff]
      simp
    rw [h]
    exact beq_self_eq_true _
  go_enter Try.func10, Try.ntmps10
  go_wp2_with (first
    | (go_at_call 23; refine (awake10_any _).mono ?_; rintro e w1 ⟨rfl, hb1⟩; have KB := Aside.mk hb1; clear hb1)
    | (have hfl := HFL2; go_at_call 25; refine (ofNil_any b _ b1 b2).mono ?_; rintro e w1 ⟨rfl, hb1⟩; have KB := Aside.mk (below_call KB.out hb1); clear hb1)
    | (have hfl := HFL; go_at_call 25; refine (ofNil_any a _ a1 a2).mono ?_; rintro e w1 ⟨rfl, hb1⟩; have KB := Aside.mk (below_call KB.out hb1); have HFL2 : Aside True := .mk trivial; clear hb1)
    | (go_at_call 25; refine (ofNil_any a _ a1 a2).mono ?_; rintro e w1 ⟨rfl, hb1⟩; have KB := Aside.mk (below_call KB.out hb1); have HFL : Aside True := .mk trivial; clear hb1))
  go_ret
  exact ⟨rfl, KB.out⟩
end Go.Proofs.Ytlpobpciiaofeaa
