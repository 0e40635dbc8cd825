/- The walks through layer 1's functions. -/
import Derived.Test.YtlnnkkbcmidddaaRows
import Derived.Test.YtlnnkkbcmidddaaBitsP
import Derived.Test.YtlnnkkbcmidddaaRegion
import Derived.Deep.QuietTactic
import Derived.BigQuiet
import Derived.RegionTactic
import Derived.Lib.MinMax
import Derived.Laws.ResultCell
namespace Go.Proofs.Ytlnnkkbcmidddaa
open Go.RowKit
set_option maxRecDepth 100000

theorem bound_any (n : Int) (w : World) : Calls Try.prog 81 #[.int .i64 n] w fun e w' => e = .returned (.int .i64 (boundI n)) ∧ w' = w := by
  unfold boundI
  go_enter Try.func81, Try.ntmps81
  go_wp2
  go_ret
  exact ⟨rfl, rfl⟩
theorem mask_any (n : Int) (w : World) : Calls Try.prog 73 #[.int .i64 n] w fun e w' => e = .returned (.int .i64 (maskI n)) ∧ w' = w := by
  have h1 : 0 ≤ boundI n := by unfold boundI; omega
  have h2 : boundI n ≤ 32 := by unfold boundI; omega
  go_enter Try.func73, Try.ntmps73
  go_wp2_with (go_at_call 81; refine (bound_any _ _).mono ?_; rintro e w1 ⟨rfl, rfl⟩)
  go_ret
  exact ⟨rfl, rfl⟩
theorem cut_any (a n : Int) (w : World) : Calls Try.prog 76 #[.int .i64 a, .int .i64 n] w fun e w' => e = .returned (.agg #[.int .i64 (cutN a n), .int .i64 (boundI n)]) ∧ Below w.heap.size w w' := by
  have hc := Aside.mk (cut_eq a n)
  go_enter Try.func76, Try.ntmps76
  go_wp2_with (first | (go_at_call 81; refine (bound_any _ _).mono ?_; rintro e w1 ⟨rfl, rfl⟩) | (go_at_call 73; refine (mask_any _ _).mono ?_; rintro e w1 ⟨rfl, rfl⟩))
  refine bodyPost_ret (v := .agg #[.int .i64 (cutN a n), .int .i64 (boundI n)]) (by simp [results, Try.results76, go_sem, hc.out]) rfl ⟨rfl, below_alloc (Below.refl _ _) _⟩
theorem bitR_any (a i : Int) (w : World) : Calls Try.prog 80 #[.int .i64 a, .int .i64 i] w fun e w' => e = .returned (.int .i64 (bitN a i)) ∧ w' = w := by
  by_cases h : i < 0 ∨ 31 < i
  · have hb : bitN a i = 0 := by unfold bitN; rw [if_pos h]
    rw [hb]
    go_enter Try.func80, Try.ntmps80
    go_wp2
    all_goals first
      | (go_ret; exact ⟨rfl, rfl⟩)
      | omega
  · obtain ⟨j, rfl⟩ : ∃ j : Nat, i = j := ⟨i.toNat, by omega⟩
    have hj : j < 32 := by omega
    have d1 : decide ((j : Int) < 0) = false := decide_eq_false (by omega)
    have d2 : decide ((31 : Int) < (j : Int)) = false := decide_eq_false (by omega)
    have hb := Aside.mk (bitN_at a j hj)
    have hl := low_lt a
    have hand := low_and a
    clear h
    go_enter Try.func80, Try.ntmps80
    go_wp2
    go_loop [5, 6] (fun x k => ∃ d : Nat, d ≤ 31 - j ∧ k = .int .i64 (31 - d : Int) ∧ x = .int .i64 (low a / 2 ^ d : Nat)) (fun _ k => (intOf k).toNat)
    case atStart => exact ⟨0, by omega, rfl, by simp⟩
    case round =>
      obtain ⟨d, hd, rfl, rfl⟩ := hrel
      have hle : low a / 2 ^ d ≤ low a := Nat.div_le_self _ _
      have hs : low a / 2 ^ (d + 1) = low a / 2 ^ d / 2 := by rw [Nat.pow_succ, Nat.div_div_eq_div_mul]
      by_cases hlt : d < 31 - j
      · have d3 : decide ((j : Int) < 31 - (d : Int)) = true := decide_eq_true (by omega)
        generalize low a / 2 ^ d = q at *
        go_wp2
        exact ⟨⟨d + 1, by omega, by congr 1; push_cast; omega, by rw [hs]; simp⟩, by simp [intOf]; omega⟩
      · obtain rfl : d = 31 - j := by omega
        have d3 : decide ((j : Int) < 31 - ((31 - j : Nat) : Int)) = false := decide_eq_false (by omega)
        generalize low a / 2 ^ (31 - j) = q at *
        go_wp2
        go_ret
        exact ⟨ret_int (by rw [hb.out]; omega), rfl⟩

theorem eqPfx (w : World) (a b c d : Int) : (Op.equalIn 10000 54 (.agg #[.int .i64 a, .int .i64 b]) (.agg #[.int .i64 c, .int .i64 d])).run Try.prog w = .ok (decide (a = c) && decide (b = d)) w := by
  have u3 := Try.underlying3
  have a3 := Try.isAgg3
  have z3 := Try.sizeOf3
  rw [show (10000 : Nat) = 9999 + 1 from rfl, Op.equalIn]
  simp only [Sem.run_bind, run_underlying Try.underlying54, Result.andThen_ok]
  go_simp
  by_cases h1 : a = c <;> by_cases h2 : b = d <;> simp [h1, h2]
end Go.Proofs.Ytlnnkkbcmidddaa
