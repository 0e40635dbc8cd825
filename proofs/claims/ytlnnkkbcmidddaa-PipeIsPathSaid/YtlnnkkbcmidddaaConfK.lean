/- A rule's place as a map's key; what a switch's rules may be, plain. -/
import Derived.Test.YtlnnkkbcmidddaaMayC
import Derived.Test.YtlnnkkbcmidddaaMap
namespace Go.Proofs.Ytlnnkkbcmidddaa
open Go.RowKit
set_option maxRecDepth 100000
abbrev Plc := Int × Int × Int × Int
abbrev plcV (k : Plc) : Value := .agg #[.int .i64 k.1, .int .i64 k.2.1, .int .i64 k.2.2.1, .int .i64 k.2.2.2]
def keyR (r : Rul) : Plc := (r.addr, r.len, r.inn, r.prio)
theorem alike_key (a b : Rul) : alikeI a b = decide (keyR a = keyR b) := by
  unfold alikeI keyR
  obtain ⟨a1, a2, a3, a4, a5, a6⟩ := a
  obtain ⟨b1, b2, b3, b4, b5, b6⟩ := b
  simp
theorem eqPlc (w : World) (a b : Plc) : (Op.equal 90 (plcV a) (plcV b)).run Try.prog w = .ok (decide (a = b)) w := by
  have u3 := Try.underlying3
  have a3 := Try.isAgg3
  have z3 := Try.sizeOf3
  have a4 := Try.isAgg54
  have z4 := Try.sizeOf54
  unfold Op.equal Op.maxDepth
  rw [show (10000 : Nat) = 9999 + 1 from rfl, Op.equalIn]
  simp only [Sem.run_bind, run_underlying Try.underlying90, Result.andThen_ok]
  go_simp
  obtain ⟨a1, a2, a3, a4⟩ := a
  obtain ⟨b1, b2, b3, b4⟩ := b
  simp only [Prod.mk.injEq]
  by_cases h1 : a1 = b1
  · by_cases h2 : a2 = b2
    · by_cases h3 : a3 = b3
      · by_cases h4 : a4 = b4 <;> simp [h1, h2, h3, h4]
      · simp [h1, h2, h3]
    · simp [h1, h2]
  · simp [h1]
theorem chkIntK (w : World) (em : Bool) (n : Nat) (x : Int) : (Instr.checkKey em (n + 1) 3 (.int .i64 x)).run Try.prog w = .ok () w := by
  simp only [Instr.checkKey, Sem.run_bind, run_underlying Try.underlying3, Result.andThen_ok, Sem.run_pure]
theorem chkPfxK (w : World) (em : Bool) (n : Nat) (x y : Int) : (Instr.checkKey em (n + 1 + 1) 54 (.agg #[.int .i64 x, .int .i64 y])).run Try.prog w = .ok () w := by
  have u3 := Try.underlying3
  have a3 := Try.isAgg3
  have z3 := Try.sizeOf3
  have c3 := fun (w : World) (x : Int) => chkIntK w em n x
  rw [Instr.checkKey]
  simp only [Sem.run_bind, run_underlying Try.underlying54, Result.andThen_ok]
  go_simp
theorem chkPlc' (w : World) (em : Bool) (n : Nat) (x : Plc) : (Instr.checkKey em (n + 1 + 1 + 1) 90 (plcV x)).run Try.prog w = .ok () w := by
  have u3 := Try.underlying3
  have a3 := Try.isAgg3
  have z3 := Try.sizeOf3
  have a4 := Try.isAgg54
  have z4 := Try.sizeOf54
  have c3 := fun (w : World) (x : Int) => chkIntK w em (n + 1) x
  have c4 := fun (w : World) (x y : Int) => chkPfxK w em n x y
  rw [Instr.checkKey]
  simp only [Sem.run_bind, run_underlying Try.underlying90, Result.andThen_ok]
  go_simp
theorem keyPlc : KeyT Try.prog 90 plcV :=
  KeyT.ofAgg Try.underlying90 (fun a b h => by
      simp at h
      exact Prod.ext h.1 (Prod.ext h.2.1 (Prod.ext h.2.2.1 h.2.2.2)))
    (fun a b => by simp [Instr.sameNow]) (fun w em x => chkPlc' w em 9997 x) eqPlc (fun k => by simp [Instr.sameBits])
end Go.Proofs.Ytlnnkkbcmidddaa
