/- The walk through rule.Alike. -/
import Derived.Test.YtlnnkkbcmidddaaMayB
import Derived.Test.YtlnnkkbcmidddaaSortK
namespace Go.Proofs.Ytlnnkkbcmidddaa
open Go.RowKit
set_option maxRecDepth 100000
set_option maxHeartbeats 2000000 in
theorem alike_any (a b : Rul) (w : World) : Calls Try.prog 25 #[rulV a, rulV b] w fun e w' => e = .returned (.bool (alikeI a b)) ∧ Below w.heap.size w w' := by
  have hq : ∀ w, (Op.equalIn 10000 58 (.agg #[.int .i64 a.addr, .int .i64 a.len, .int .i64 a.inn, .int .i64 a.prio, .int .i64 0, .int .i64 0]) (.agg #[.int .i64 b.addr, .int .i64 b.len, .int .i64 b.inn, .int .i64 b.prio, .int .i64 0, .int .i64 0])).run Try.prog w = .ok (alikeI a b) w := fun w => eqRul w { a with kind := 0, port := 0 } { b with kind := 0, port := 0 }
  generalize alikeI a b = t at *
  go_enter Try.func25, Try.ntmps25
  go_wp2
  go_ret
  exact ⟨rfl, by repeat (first | exact Below.refl _ _ | refine below_alloc ?_ _ | refine below_set ?_ (by simp <;> omega) _)⟩
end Go.Proofs.Ytlnnkkbcmidddaa
