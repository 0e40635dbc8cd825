/- The walks through the document's power and Put of layer 2. -/
import Derived.Test.YtlpobpciiaofeaaDigC
namespace Go.Proofs.Ytlpobpciiaofeaa
open Go.RowKit
set_option maxRecDepth 100000
def pw : Nat → Int
  | 0 => 1 | 1 => 256 | 2 => 65536 | 3 => 16777216 | _ => 4294967296
theorem pw_pos (k : Nat) : 1 ≤ pw k ∧ pw k ≤ 4294967296 := by unfold pw; split <;> omega
theorem pw_succ {k : Nat} (h : k < 4) : pw (k + 1) = pw k * 256 := by
  match k, h with
  | 0, _ | 1, _ | 2, _ | 3, _ => rfl
set_option maxHeartbeats 1000000 in
theorem power_any (n : Nat) (w : World) (h : n ≤ 4) : Calls Try.prog 52 #[.int .i64 n] w fun e w' => e = .returned (.int .i64 (pw n)) ∧ w' = w := by
  go_enter Try.func52, Try.ntmps52
  go_wp2
  go_loopw [3, 4] (fun p i wr => ∃ j : Nat, j ≤ n ∧ i = .int .i64 j ∧ p = .int .i64 (pw j) ∧ wr = w) (fun _ i _ => n - (intOf i).toNat)
  case atStart => exact ⟨0, Nat.zero_le _, rfl, rfl, rfl⟩
  case round =>
    obtain ⟨j, hj, rfl, rfl, hw⟩ := hrel
    rw [hw]
    clear hw
    by_cases hlt : j < n
    · have HS := Aside.mk (pw_succ (k := j) (by omega))
      have hp := pw_pos j
      have hp1 := hp.1
      have hp2 := hp.2
      clear hp
      go_wp2
      refine ⟨⟨j + 1, by omega, by push_cast; rfl, ?_, trivial⟩, by simp [intOf]; omega⟩
      rw [HS.out]
    · obtain rfl : j = n := by omega
      go_wp2
      go_ret
      exact ⟨rfl, rfl⟩
/-- A number's last k bytes, the greatest first. -/
def beN (n : Int) : Nat → List Int
  | 0 => []
  | k + 1 => n / pw k % 256 :: beN n k
theorem beN_len (n : Int) (k : Nat) : (beN n k).length = k := by
  induction k with
  | zero => rfl
  | succ k ih => rw [beN, List.length_cons, ih]
theorem infoByt : (Try.prog.info? 5).map (fun i => (i.zero, i.size, i.bytes)) = some (some (.int .u8 0), 1, 1) := by kernel_rfl
set_option maxHeartbeats 1000000 in
theorem putR_any (n : Int) (k : Nat) (w : World) (h0 : 0 ≤ n) (hk1 : 1 ≤ k) (hk4 : k ≤ 4) (h1 : n < pw k) :
    Calls Try.prog 40 #[.int .i64 n, .int .i64 k] w fun e w' => ∃ v, e = .returned (.tuple #[v, .int .i64 0]) ∧ Own bytF w' w.heap.size 5 v (beN n k) ∧ Below w.heap.size w w' := by
  have H1 := Aside.mk h1
  have d1 : decide ((k : Int) < 1) = false := decide_eq_false (by omega)
  have d2 : decide ((4 : Int) < (k : Int)) = false := decide_eq_false (by omega)
  have d3 : decide (n < 0) = false := decide_eq_false (by omega)
  have d4 : decide (pw k ≤ n) = false := decide_eq_false (by omega)
  have hp := pw_pos k
  have hp1 := hp.1
  have hp2 := hp.2
  have hn2 : n < 4294967296 := by omega
  clear hp h1
  go_enter Try.func40, Try.ntmps40
  go_wp2_with (go_at_call 52; refine (power_any _ _ hk4).mono ?_; rintro e w1 ⟨rfl, hw1⟩; rw [hw1]; clear hw1)
  clear d1 d2 d4 hp1 hp2 hk1
  go_loopw [6, 7] (fun v i wr => ∃ (A : Option Addr) (c j : Nat) (x : Int) (L : List Int), j ≤ k ∧ v = .slice A L.length c ∧ i = .int .i64 x ∧ x = (j : Int) - 1 ∧ L ++ beN n j = beN n k ∧ Own bytF wr w.heap.size 5 (.slice A L.length c) L ∧ Below w.heap.size w wr) (fun _ i _ => (intOf i + 1).toNat)
  case atStart => exact ⟨none, 0, k, _, [], Nat.le_refl _, rfl, rfl, by push_cast; rfl, rfl, Own.nil _ _ _ _, Below.refl _ _⟩
  case round =>
    obtain ⟨A, c, j, x, L, hj, rfl, rfl, hx, hL, ho, hb⟩ := hrel
    have KB := Aside.mk hb
    have KO := Aside.mk ho
    have HL := Aside.mk hL
    have hlen : L.length ≤ 4 := by have := congrArg List.length hL; rw [List.length_append, beN_len, beN_len] at this; omega
    clear hb ho hL
    rcases j with _ | t
    · obtain rfl : x = -1 := by omega
      clear hx
      have HL2 : Aside (L = beN n k) := .mk (by rw [← HL.out]; simp [beN])
      go_wp2
      refine bodyPost_ret (v := .tuple #[.slice A L.length c, .int .i64 0]) (by simp [results, Try.results40, go_sem]) rfl ?_
      exact ⟨_, rfl, by rw [← HL2.out]; exact KO.out, KB.out⟩
    · obtain rfl : x = (t : Int) := by omega
      clear hx
      have ht4 : t ≤ 4 := by omega
      have hp := pw_pos t
      have hp1 := hp.1
      have hp2 := hp.2
      have hp0 : ¬ pw t = 0 := by omega
      have hq0 : 0 ≤ n / pw t := Int.ediv_nonneg h0 (by omega)
      have hq1 : n / pw t ≤ n := Int.ediv_le_self _ h0
      clear hp
      go_wp2_with (first
        | (go_at_call 52; refine (power_any t _ ht4).mono ?_; rintro e w1 ⟨rfl, hw1⟩; rw [hw1]; clear hw1)
        | (at_builtin; refine wp_app1 (f := bytF) w.heap.size rfl _ _ _ _ _ _ rfl Try.underlying58 infoByt rfl (by decide) (.slice A L.length c) L (n / pw t % 256) _ rfl rfl (by go_simp) KO.out (by have := KB.out.size; omega) (by omega) ?_; intro v2 w3 ho2 hg2 hat2; have KB := Aside.mk (below_own KB.out hg2 (fun b e => ⟨(KO.out.lt b e).1, (KO.out.lt b e).2⟩)); obtain ⟨A2, c2, rfl, -⟩ := ho2.form; have KO := Aside.mk ho2; clear hg2 ho2 hat2))
      refine ⟨⟨A2, c2, t, _, L ++ [n / pw t % 256], by omega, by simp, rfl, rfl, ?_, KO.out, KB.out⟩, by simp [intOf]⟩
      rw [← HL.out, List.append_assoc]
      rfl
end Go.Proofs.Ytlpobpciiaofeaa
