/- The walks through the functions of layer 11. -/
import Derived.Test.YtlnnkkbcmidddaaRows
import Derived.Test.YtlnnkkbcmidddaaMap
import Derived.Test.YtlnnkkbcmidddaaRead
import Derived.Test.YtlnnkkbcmidddaaTopoP
import Derived.Deep.QuietTactic
import Derived.BigQuiet
import Derived.RegionTactic
import Derived.ChangeAlike
import Derived.Laws.ResultCell
namespace Go.Proofs.Ytlnnkkbcmidddaa
open Go.RowKit

/-- An end as a value. -/
abbrev endV (e : End) : Value := .agg #[.int .i64 e.1, .int .i64 e.2]
abbrev lnkV (l : Lnk) : Value := .agg #[.int .i64 l.a, .int .i64 l.pa, .int .i64 l.b, .int .i64 l.pb]
def lnkD : Kd Lnk := Kd.flat (fun l => [.int .i64 l.a, .int .i64 l.pa, .int .i64 l.b, .int .i64 l.pb]) 4 (fun _ => rfl) (fun _ u hu => by simp at hu; rcases hu with rfl | rfl | rfl | rfl <;> rfl)

theorem zeroEnd (w : World) : (zeroValue 87).run Try.prog w = .ok (endV (0, 0)) w := by kernel_rfl
theorem eqEnd (w : World) (x y : End) : (Op.equal 87 (endV x) (endV y)).run Try.prog w = .ok (decide (x = y)) w := by
  have u3 := Try.underlying3
  have a3 := Try.isAgg3
  have z3 := Try.sizeOf3
  unfold Op.equal Op.maxDepth
  rw [show (10000 : Nat) = 9999 + 1 from rfl, Op.equalIn]
  simp only [Sem.run_bind, run_underlying Try.underlying87, Result.andThen_ok]
  simp only [Std.Legacy.Range.forIn_eq_forIn_range', Std.Legacy.Range.size, Nat.sub_zero, Nat.add_sub_cancel, Nat.div_one, List.range'_succ, List.range'_zero, List.forIn_cons, List.forIn_nil]
  go_simp
  obtain ⟨a, b⟩ := x
  obtain ⟨c, e⟩ := y
  by_cases h1 : a = c <;> by_cases h2 : b = e <;> simp [h1, h2]
theorem chkInt (w : World) (em : Bool) (n : Nat) (x : Int) : (Instr.checkKey em (n + 1) 3 (.int .i64 x)).run Try.prog w = .ok () w := by
  simp only [Instr.checkKey, Sem.run_bind, run_underlying Try.underlying3, Result.andThen_ok, Sem.run_pure]
theorem chkEnd' (w : World) (em : Bool) (n : Nat) (x : End) : (Instr.checkKey em (n + 1 + 1) 87 (endV x)).run Try.prog w = .ok () w := by
  have u3 := Try.underlying3
  have a3 := Try.isAgg3
  have z3 := Try.sizeOf3
  have c3 := fun (w : World) (x : Int) => chkInt w em n x
  rw [Instr.checkKey]
  simp only [Sem.run_bind, run_underlying Try.underlying87, Result.andThen_ok]
  simp only [Std.Legacy.Range.forIn_eq_forIn_range', Std.Legacy.Range.size, Nat.sub_zero, Nat.add_sub_cancel, Nat.div_one, List.range'_succ, List.range'_zero, List.forIn_cons, List.forIn_nil]
  go_simp
theorem chkEnd (w : World) (em : Bool) (x : End) : (Instr.checkKey em 10000 87 (endV x)).run Try.prog w = .ok () w := chkEnd' w em 9998 x
theorem keyEnd : KeyT Try.prog 87 endV :=
  KeyT.ofAgg Try.underlying87 (fun a b h => by
      simp at h
      exact Prod.ext h.1 h.2)
    (fun a b => by simp [Instr.sameNow]) chkEnd eqEnd (fun k => by simp [Instr.sameBits])

theorem look_end {W : World} {b : Nat} {m : List (End × End)} (h : GMap W b endV endV m) (x y : Int) :
    (Instr.lookup 84 (.map (some b)) (.agg #[.int .i64 x, .int .i64 y]) true).run Try.prog W = .ok (.tuple #[.agg #[.int .i64 ((mget m (x, y)).getD (0, 0)).1, .int .i64 ((mget m (x, y)).getD (0, 0)).2], .bool (mget m (x, y)).isSome]) W := by
  have h1 := h.run_look (P := Try.prog) keyEnd Try.underlying84 (zeroEnd W) (x, y) true
  rw [show ((mget m (x, y)).map endV).getD (endV (0, 0)) = endV ((mget m (x, y)).getD (0, 0)) from by cases mget m (x, y) <;> rfl] at h1
  exact h1

set_option maxHeartbeats 400000 in
theorem is_any (a b s p : Int) (l : Value) (_hl : l.oneCell' = true) (w : World) :
    Calls Try.prog 46 #[.agg #[.int .i64 a, .int .i64 b], .agg #[.int .i64 s, .int .i64 p, l]] w fun e w' => e = .returned (.bool (isEnd s p (a, b))) ∧ Below w.heap.size w w' := by
  have hfin : isEnd s p (a, b) = (decide (0 ≤ a) && decide (a < s) && decide (0 ≤ b) && decide (b < p)) := rfl
  have H := Aside.mk hfin
  clear hfin
  go_enter Try.func46, Try.ntmps46
  go_wp2
  all_goals
    go_ret
    exact ⟨by rw [H.out]; simp [*] <;> omega, ((Below.refl _ _).alloc (by simp) _).alloc (by simp) _⟩

set_option maxHeartbeats 400000 in
theorem both_any (a b s p : Int) (w : World) :
    Calls Try.prog 61 #[.agg #[.int .i64 a, .int .i64 b, .int .i64 s, .int .i64 p]] w fun e w' => e = .returned (.tuple #[.agg #[.int .i64 a, .int .i64 b], .agg #[.int .i64 s, .int .i64 p]]) ∧ Below w.heap.size w w' := by
  go_enter Try.func61, Try.ntmps61
  go_wp2
  go_region
  go_wp2
  exact bodyPost_ret (v := .tuple #[.agg #[.int .i64 a, .int .i64 b], .agg #[.int .i64 s, .int .i64 p]]) (by simp [results, Try.results61, go_sem]) rfl ⟨rfl, below_drew ((((Below.refl _ _).alloc (by simp) _).alloc (by simp) _).alloc (by simp; omega) _)⟩
end Go.Proofs.Ytlnnkkbcmidddaa
