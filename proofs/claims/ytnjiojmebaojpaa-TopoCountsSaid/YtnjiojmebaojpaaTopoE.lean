/- The walk through topo.Edges. -/
import Derived.Test.YtnjiojmebaojpaaTopoF
import Derived.Test.YtnjiojmebaojpaaOwn
import Derived.Lib.MinMax
namespace Go.Proofs.Ytnjiojmebaojpaa
open Go.RowKit

def endF : Flat End where
  enc e := [.int .i64 e.1, .int .i64 e.2]
  sz := 2
  len _ := rfl
  one _ u hu := by simp at hu; rcases hu with rfl | rfl <;> rfl
  pos := by decide
theorem infoPair : (Try.prog.info? 32).map (fun i => (i.zero, i.size, i.bytes)) = some (some (.agg #[.int .i64 0, .int .i64 0]), 2, 16) := by kernel_rfl

set_option maxHeartbeats 1000000 in
theorem edges_no (s p : Int) (A : Option Addr) (c : Nat) (ls : List Lnk) (w : World) (hc : s > 100 ∨ p > 100) :
    Calls Try.prog 14 #[.agg #[.int .i64 s, .int .i64 p, .slice A ls.length c]] w fun e w' => e = .returned (.slice none 0 0) ∧ Below w.heap.size w w' := by
  have HC := Aside.mk hc
  clear hc
  go_enter Try.func14, Try.ntmps14
  go_wp2_with (go_at_call 20; exfalso; have := HC.out; omega)
  all_goals
    go_ret
    exact ⟨rfl, below_alloc (Below.refl _ _) _⟩

set_option maxHeartbeats 1000000 in
theorem edges_yes (s p : Int) (A : Option Addr) (c : Nat) (ls : List Lnk) (w : World) (hl : Rd lnkD w A ls.length ls) (h1 : s ≤ 100) (h2 : p ≤ 100) (N M : Nat) (hN : N = s.toNat) (hM : M = p.toNat) :
    Calls Try.prog 14 #[.agg #[.int .i64 s, .int .i64 p, .slice A ls.length c]] w fun e w' => ∃ v, e = .returned v ∧ Own endF w' w.heap.size 32 v (gridL ls M N) ∧ Below w.heap.size w w' := by
  have HL := Aside.mk hl
  have d1 : decide (100 < s) = false := decide_eq_false (by omega)
  have hmx : max s 0 = (N : Int) := by omega
  have hmy : max p 0 = (M : Int) := by omega
  have d2 : decide (100 < p) = false := decide_eq_false (by omega)
  have hN1 : N ≤ 100 := by omega
  have hM1 : M ≤ 100 := by omega
  clear hl hN hM
  go_enter Try.func14, Try.ntmps14
  go_wp2_with (go_at_call 20; refine (joined_any _ _ _ _ _ _ (HL.out.below (below_alloc (Below.refl _ _) _))).mono ?_; rintro e w1 ⟨b, rfl, hbb, hm1, hb1⟩; have hbx := Aside.mk (box_keep hb1); have hc0 : w1.cell? ⟨w.heap.size, 0, none⟩ = some _ := blk_cell hbx.out 0)
  have hB1 := Aside.mk (below_call (below_alloc (Below.refl _ _) _) hb1)
  have hM1 := Aside.mk hm1
  have hbb' : w.heap.size < b := by simp at hbb; omega
  clear hb1 hm1 hbb hc0
  go_loopw [3, 22] (fun v i wr => ∃ k : Nat, k ≤ N ∧ i = .int .i64 k ∧ Own endF wr w.heap.size 32 v (gridL ls M k) ∧ GMap wr b endV endV (joinedL ls) ∧ Below w.heap.size w wr ∧ wr.heap[w.heap.size]? = some (.cells #[.int .i64 s, .int .i64 p, .slice A ls.length c] 24))
    (fun _ i _ => N - (intOf i).toNat)
  case atStart => exact ⟨0, Nat.zero_le _, rfl, Own.nil _ _ _ _, hM1.out, hB1.out, hbx.out⟩
  case round =>
    clear hB1 hM1 hbx
    obtain ⟨k, hk, rfl, ho, hm, hb, hx⟩ := hrel
    have HO := Aside.mk ho
    have HM := Aside.mk hm
    have HB := Aside.mk hb
    have HX := Aside.mk hx
    have hc0 : wr.cell? ⟨w.heap.size, 0, none⟩ = some _ := blk_cell hx 0
    have hc1 : wr.cell? ⟨w.heap.size, 1, none⟩ = some _ := blk_cell hx 1
    have hc2 : wr.cell? ⟨w.heap.size, 2, none⟩ = some _ := blk_cell hx 2
    clear ho hm hb hx
    by_cases hlt : k < N
    · go_wp2
      obtain ⟨wo, rfl⟩ : ∃ wo : World, wo = wr := ⟨_, rfl⟩
      go_loopw [3, 28] (fun v i wr => ∃ y : Nat, y ≤ M ∧ i = .int .i64 y ∧ Own endF wr w.heap.size 32 v (gridL ls M k ++ rowL ls k y) ∧ GMap wr b endV endV (joinedL ls) ∧ Below w.heap.size w wr ∧ wr.heap[w.heap.size]? = some (.cells #[.int .i64 s, .int .i64 p, .slice A ls.length c] 24))
        (fun _ i _ => M - (intOf i).toNat)
      case atStart => exact ⟨0, Nat.zero_le _, rfl, by simpa [rowL] using HO.out, HM.out, HB.out, HX.out⟩
      case round =>
        clear HO HM HB HX hc0 hc1 hc2
        obtain ⟨y, hy, rfl, ho, hm, hb, hx⟩ := hrel
        have HO := Aside.mk ho
        have HM := Aside.mk hm
        have HB := Aside.mk hb
        have HX := Aside.mk hx
        have hsz := hb.size
        have hbl := hm.lt
        have hlen : (gridL ls M k ++ rowL ls k y).length ≤ 20000 := by
          rw [List.length_append]
          have := gridL_len ls M k
          have := rowL_len ls k y
          have : k * M ≤ 100 * 100 := Nat.mul_le_mul (by omega) (by omega)
          omega
        clear ho hm hb hx
        by_cases hly : y < M
        · have hrow := Aside.mk (rowL_succ ls k y)
          cases hs : (mget (joinedL ls) ((k : Int), (y : Int))).isSome
          · go_wp2_with (first
              | (at_lookup; refine wp_look2 _ rfl _ _ rfl keyEnd Try.underlying39 (d := (0, 0)) (zeroEnd _) (_, _) (by repeat (first | exact HM.out | apply GMap.alloc)) rfl rfl ?_)
              | (at_builtin; refine wp_app1 (f := endF) w.heap.size rfl _ _ _ _ _ _ rfl Try.underlying30 infoPair rfl (by decide) u3 _ ((k : Int), (y : Int)) _ rfl rfl (by go_simp) (HO.out.alloc _) (by simp; omega) (by omega) ?_; intro v1 w1 ho1 hg1 hat1))
            have hB1 := Aside.mk (below_own (below_alloc HB.out _) hg1 HO.out.lt)
            have hM1 := Aside.mk ((HM.out.alloc _).keep (hg1.block b (by simp; omega) (fun e => by have := HM.out; obtain ⟨es, cl, hh, _⟩ := this; exact HO.out.ne_block hh (fun _ _ _ h => by cases h) e.symm)))
            have hX1 := Aside.mk ((hg1.block w.heap.size (by simp; omega) (fun e => by have := HO.out.lt _ e.symm; exact HO.out.ne_type HX.out (by decide) e.symm)).trans (blk_keep HX.out ((Below.refl _ _).alloc (Nat.le_refl _) _)))
            have hO1 := Aside.mk ho1
            clear ho1 hg1 hat1
            go_roundw
            case rel => exact ⟨y + 1, by omega, by go_num, by rw [hrow.out, hs]; simpa using hO1.out, hM1.out, hB1.out, hX1.out⟩
            case measure => simp [intOf]; omega
          · go_wp2_with (at_lookup; refine wp_look2 _ rfl _ _ rfl keyEnd Try.underlying39 (d := (0, 0)) (zeroEnd _) (_, _) (by repeat (first | exact HM.out | apply GMap.alloc)) rfl rfl ?_)
            go_roundw
            case rel => exact ⟨y + 1, by omega, by go_num, by rw [hrow.out, hs]; simpa using HO.out.alloc _, HM.out.alloc _, below_alloc HB.out _, by rw [heap_at, if_neg (by have := blk_lt HX.out; omega)]; exact HX.out⟩
            case measure => simp [intOf]; omega
        · obtain rfl : y = M := by omega
          go_wp2
          go_roundw
          case rel => exact ⟨k + 1, by omega, by go_num, by rw [gridL_succ]; exact HO.out, HM.out, HB.out, HX.out⟩
          case measure => simp [intOf]; omega
    · obtain rfl : k = N := by omega
      go_wp2
      go_ret
      exact ⟨u3, rfl, HO.out, HB.out⟩

/-- What topo.Edges comes to: a slice of its own. -/
theorem edges_any (s p : Int) (A : Option Addr) (c : Nat) (ls : List Lnk) (w : World) (hl : Rd lnkD w A ls.length ls) :
    Calls Try.prog 14 #[.agg #[.int .i64 s, .int .i64 p, .slice A ls.length c]] w fun e w' => ∃ v, e = .returned v ∧ Own endF w' w.heap.size 32 v (edgesL s p ls) ∧ Below w.heap.size w w' := by
  unfold edgesL
  split
  · rename_i h
    refine (edges_no s p A c ls w h).mono ?_
    rintro e w' ⟨rfl, hb⟩
    exact ⟨_, rfl, Own.nil _ _ _ _, hb⟩
  · rename_i h
    exact edges_yes s p A c ls w hl (by omega) (by omega) _ _ rfl rfl
end Go.Proofs.Ytnjiojmebaojpaa
