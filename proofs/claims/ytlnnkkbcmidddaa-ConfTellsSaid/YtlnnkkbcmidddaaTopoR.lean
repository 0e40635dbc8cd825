/- The walks through the document's answers of layer 11. -/
import Derived.Test.YtlnnkkbcmidddaaTopoW
import Derived.Test.YtlnnkkbcmidddaaOwn
namespace Go.Proofs.Ytlnnkkbcmidddaa
open Go.RowKit
set_option maxRecDepth 100000

set_option maxHeartbeats 400000 in
theorem port_any (s p : Int) (l : Value) (_hl : l.oneCell' = true) (a b : Int) (w : World) :
    Calls Try.prog 55 #[.agg #[.int .i64 s, .int .i64 p, l], .int .i64 a, .int .i64 b] w fun e w' => e = .returned (.bool (isEnd s p (a, b))) ∧ Below w.heap.size w w' := by
  have hfin : isEnd s p (a, b) = (decide (0 ≤ a) && decide (a < s) && decide (0 ≤ b) && decide (b < p)) := rfl
  have H := Aside.mk hfin
  clear hfin
  go_enter Try.func55, Try.ntmps55
  go_wp2
  all_goals
    go_ret
    exact ⟨by rw [H.out]; simp [*] <;> omega, below_alloc (Below.refl _ _) _⟩

set_option maxHeartbeats 1000000 in
theorem ends_any (s p : Int) (A : Option Addr) (c : Nat) (ls : List Lnk) (x y : Int) (w : World) (hl : Rd lnkD w A ls.length ls) (hmax : ls.length ≤ 4611686018427387903) :
    Calls Try.prog 56 #[.agg #[.int .i64 s, .int .i64 p, .slice A ls.length c], .int .i64 x, .int .i64 y] w fun e w' => e = .returned (.int .i64 (endsN ls x y : Int)) ∧ Below w.heap.size w w' := by
  have HL := Aside.mk hl
  clear hl
  go_enter Try.func56, Try.ntmps56
  go_wp2
  go_loop [7, 8] (fun n i => ∃ k : Nat, k ≤ ls.length ∧ i = .int .i64 k ∧ n = .int .i64 (endsN (ls.take k) x y : Int))
    (fun _ i => ls.length - (intOf i).toNat)
  case atStart => exact ⟨0, Nat.zero_le _, rfl, rfl⟩
  case round =>
    obtain ⟨k, hk, rfl, rfl⟩ := hrel
    by_cases hlt : k < ls.length
    · obtain ⟨b, o, cs, rfl, hbl, hcs, hc⟩ := Row.at HL.out k hlt
      obtain rfl : cs = _ := hcs
      have hc0 : w.cell? ⟨b, o + k * 4, none⟩ = some (.int .i64 ls[k].a) := hc 0 _ rfl
      have hc1 : w.cell? ⟨b, o + k * 4 + 1, none⟩ = some (.int .i64 ls[k].pa) := hc 1 _ rfl
      have hc2 : w.cell? ⟨b, o + k * 4 + 2, none⟩ = some (.int .i64 ls[k].b) := hc 2 _ rfl
      have hc3 : w.cell? ⟨b, o + k * 4 + 3, none⟩ = some (.int .i64 ls[k].pb) := hc 3 _ rfl
      have hj := Aside.mk (endsN_take ls x y k hlt)
      have hle := endsN_le (ls.take k) x y
      have hle2 : (ls.take k).length ≤ k := List.length_take_le _ _
      clear hc
      generalize ls[k] = l at *
      generalize endsN (ls.take k) x y = n at *
      go_wp2
      all_goals
        go_round
        case rel => exact ⟨k + 1, by omega, by go_num, by rw [hj.out]; unfold hits; simp [*] <;> omega⟩
        case measure => simp [intOf]; omega
    · obtain rfl : k = ls.length := by omega
      go_wp2
      go_ret
      exact ⟨by simp, below_alloc (Below.refl _ _) _⟩

theorem seekR_drop {ls : List Lnk} {k : Nat} (h : k < ls.length) (x y : Int) : seekR (ls.drop k) x y = if (ls[k].a == x && ls[k].pa == y) = true then some ls[k].snd else if (ls[k].b == x && ls[k].pb == y) = true then some ls[k].fst else seekR (ls.drop (k + 1)) x y := by
  rw [List.drop_eq_getElem_cons h]; rfl

end Go.Proofs.Ytlnnkkbcmidddaa
