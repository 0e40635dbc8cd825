/- The walks through octets.may, octets.Put. -/
import Derived.Test.YtlpobpciiaofeaaDigB
import Derived.Test.YtlpobpciiaofeaaPut
import Derived.Test.YtlpobpciiaofeaaSortQ
namespace Go.Proofs.Ytlpobpciiaofeaa
open Go.RowKit
set_option maxRecDepth 100000
/-- A block of its own. -/
theorem Own.blk {α : Type} (f : Flat α) {w : World} {base g : Nat} {cs : Array Value} {e : TypeId} (hb : w.heap[g]? = some (.cells cs e (0, 0))) (hg : base ≤ g) (xs : List α) (hcs : cs.toList = xs.flatMap f.enc) (hm : xs.length ≤ maxLen) :
    Own f w base e (.slice (some ⟨g, 0, none⟩) xs.length xs.length) xs := by
  have hl := f.len_all xs
  refine ⟨hl, .inr ⟨g, xs.length, cs, rfl, hg, hb, Nat.le_refl _, hm, ?_, ?_⟩⟩
  · rw [← hl, ← hcs, Array.length_toList]
  · rw [← hl, ← hcs, List.take_length]
theorem mayOct_any (n : Int) (w : World) : Calls Try.prog 65 #[.int .i64 n] w fun e w' => e = .returned (.bool (decide (1 ≤ n) && decide (n ≤ 4))) ∧ w' = w := by
  by_cases h : 1 ≤ n
  · have d1 : decide (1 ≤ n) = true := decide_eq_true h
    go_enter Try.func65, Try.ntmps65
    go_wp2
    go_ret
    exact ⟨ret_bool (by simp [h]), rfl⟩
  · have d1 : decide (1 ≤ n) = false := decide_eq_false h
    go_enter Try.func65, Try.ntmps65
    go_wp2
    go_ret
    exact ⟨ret_bool (by simp [h]), rfl⟩
/-- A number's four bytes, of which the first j are laid. -/
def bT (n : Int) : Nat → Array Value
  | 0 => #[.int .u8 0, .int .u8 0, .int .u8 0, .int .u8 0]
  | 1 => #[.int .u8 (n / 16777216 % 256), .int .u8 0, .int .u8 0, .int .u8 0]
  | 2 => #[.int .u8 (n / 16777216 % 256), .int .u8 (n / 65536 % 256), .int .u8 0, .int .u8 0]
  | 3 => #[.int .u8 (n / 16777216 % 256), .int .u8 (n / 65536 % 256), .int .u8 (n / 256 % 256), .int .u8 0]
  | _ => #[.int .u8 (n / 16777216 % 256), .int .u8 (n / 65536 % 256), .int .u8 (n / 256 % 256), .int .u8 (n % 256)]
abbrev four (n : Int) : List Int := [n / 16777216 % 256, n / 65536 % 256, n / 256 % 256, n % 256]
theorem make4 (w : World) : (Instr.makeSlice 58 (.int .i64 4) (.int .i64 4)).run Try.prog w = .ok (.slice (some ⟨w.heap.size, 0, none⟩) 4 4) (w.alloc (.cells #[.int .u8 0, .int .u8 0, .int .u8 0, .int .u8 0] 5)) := by kernel_rfl
set_option maxHeartbeats 1000000 in
theorem put4_any (n : Int) (w : World) (h0 : 0 ≤ n) (h1 : n ≤ 4294967295) :
    Calls Try.prog 60 #[.int .i64 n, .int .i64 4] w fun e w' => ∃ v, e = .returned (.tuple #[v, .int .i64 0]) ∧ Own bytF w' w.heap.size 5 v (four n) ∧ Below w.heap.size w w' := by
  have hmk := make4
  have hz : n / 4294967296 = 0 := by omega
  go_enter Try.func60, Try.ntmps60
  go_wp2_with (go_at_call 65; refine (mayOct_any _ _).mono ?_; rintro e w1 ⟨rfl, hw1⟩; rw [hw1]; clear hw1)
  go_loopw [26] (fun i wr => ∃ j : Nat, j ≤ 4 ∧ i = .int .i64 j ∧ Below w.heap.size w wr ∧ wr.heap[w.heap.size]? = some (.cells (bT n j) 5)) (fun i _ => 4 - (intOf i).toNat)
  case atStart => exact ⟨0, by omega, rfl, below_alloc (Below.refl _ _) _, heapN _ _ rfl⟩
  case round =>
    obtain ⟨j, hj, rfl, hb, hx⟩ := hrel
    have KB := Aside.mk hb
    have HX := Aside.mk hx
    have hfr := fun i => blk_frozen hx i
    have hlt := blk_lt hx
    clear hb
    match j, hj with
    | 0, _ =>
      have x0 := blk_cell hx 0
      simp [bT] at x0
      have hs := blk_set hx 0 (.int .u8 (n / 16777216% 256))
      clear hx
      go_wp2
      refine ⟨⟨1, by omega, rfl, below_set KB.out (Nat.le_refl _) _, ?_⟩, by simp [intOf]⟩
      rw [show n / 16777216 = n / 16777216 % 256 by omega]
      simpa [bT] using hs
    | 1, _ =>
      have x0 := blk_cell hx 1
      simp [bT] at x0
      have hs := blk_set hx 1 (.int .u8 (n / 65536% 256))
      clear hx
      go_wp2
      refine ⟨⟨2, by omega, rfl, below_set KB.out (Nat.le_refl _) _, ?_⟩, by simp [intOf]⟩
      simpa [bT] using hs
    | 2, _ =>
      have x0 := blk_cell hx 2
      simp [bT] at x0
      have hs := blk_set hx 2 (.int .u8 (n / 256% 256))
      clear hx
      go_wp2
      refine ⟨⟨3, by omega, rfl, below_set KB.out (Nat.le_refl _) _, ?_⟩, by simp [intOf]⟩
      simpa [bT] using hs
    | 3, _ =>
      have x0 := blk_cell hx 3
      simp [bT] at x0
      have hs := blk_set hx 3 (.int .u8 (n % 256))
      clear hx
      go_wp2
      refine ⟨⟨4, by omega, rfl, below_set KB.out (Nat.le_refl _) _, ?_⟩, by simp [intOf]⟩
      simpa [bT] using hs
    | 4, _ =>
      clear hx
      go_wp2
      refine bodyPost_ret (v := .tuple #[.slice (some ⟨w.heap.size, 0, none⟩) 4 4, .int .i64 0]) (by simp [results, Try.results60, go_sem]) rfl ?_
      exact ⟨_, rfl, Own.blk bytF HX.out (Nat.le_refl _) (four n) rfl (by show 4 ≤ maxLen; decide), KB.out⟩
end Go.Proofs.Ytlpobpciiaofeaa
