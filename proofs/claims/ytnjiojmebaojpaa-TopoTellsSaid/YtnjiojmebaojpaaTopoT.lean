/- The walk through TopoTells. -/
import Derived.Test.YtnjiojmebaojpaaTopoA
import Derived.Test.YtnjiojmebaojpaaTopoO
namespace Go.Proofs.Ytnjiojmebaojpaa
open Go.RowKit

set_option maxHeartbeats 1000000 in
theorem topoTells_walk (s p : Int) (A : Option Addr) (c : Nat) (ls : List Lnk) (x y : Int) (w : World) (hl : Rd lnkD w A ls.length ls) (_ : Fit s ∧ Fit p ∧ ∀ l ∈ ls, FitL l) (_ : Fit x) (_ : Fit y) :
    Calls Try.prog 3 #[.agg #[.int .i64 s, .int .i64 p, .slice A ls.length c], .int .i64 x, .int .i64 y] w fun e w' => e = .returned (.bool true) ∧ Below w.heap.size w w' := by
  have hmx := hl.max
  have HL := Aside.mk (hl.below ((Below.refl _ w).alloc (Nat.le_refl _) (.cells #[.int .i64 s, .int .i64 p, .slice A ls.length c] 24)))
  have HB := Aside.mk (below_alloc (Below.refl _ w) (.cells #[.int .i64 s, .int .i64 p, .slice A ls.length c] 24))
  have HX := Aside.mk (show (w.alloc (.cells #[.int .i64 s, .int .i64 p, .slice A ls.length c] 24)).heap[w.heap.size]? = some (.cells #[.int .i64 s, .int .i64 p, .slice A ls.length c] 24) by rw [heap_at, if_pos rfl])
  have hq := eqPair
  clear hl
  by_cases h60 : ls.length ≤ 60
  · have d60 : decide ((60 : Int) < (ls.length : Int)) = false := decide_eq_false (by omega)
    have hlen : (edgesR s p ls).length ≤ 9223372036854775807 := by
      unfold edgesR
      split
      · simp
      · refine Nat.le_trans (gridR_len ..) ?_
        have := Nat.mul_le_mul (show s.toNat ≤ 100 by omega) (show p.toNat ≤ 100 by omega)
        omega
    go_enter Try.func3, Try.ntmps3
    go_wp2_with (first
      | (go_at_call 9; refine (awake_any _).mono ?_; rintro e w1 ⟨rfl, hb1⟩; have HL := Aside.mk (HL.out.below hb1); have HB := Aside.mk (below_call HB.out hb1); have HX := Aside.mk (blk_keep HX.out hb1); have c0 := blk_cell HX.out 0; have c1 := blk_cell HX.out 1; have c2 := blk_cell HX.out 2; simp at c0 c1 c2; clear hb1)
      | (go_at_call 10; refine (mayR_any _ _ _ _ _ _ HL.out).mono ?_; rintro e w1 ⟨rfl, hb1⟩; have HL := Aside.mk (HL.out.below hb1); have HB := Aside.mk (below_call HB.out hb1); have HX := Aside.mk (blk_keep HX.out hb1); have c0 := blk_cell HX.out 0; have c1 := blk_cell HX.out 1; have c2 := blk_cell HX.out 2; simp at c0 c1 c2; clear hb1)
      | (go_at_call 11; refine (edgeR_any _ _ _ _ _ _ _ _ HL.out).mono ?_; rintro e w1 ⟨rfl, hb1⟩; have HL := Aside.mk (HL.out.below hb1); have HB := Aside.mk (below_call HB.out hb1); have HX := Aside.mk (blk_keep HX.out hb1); have c0 := blk_cell HX.out 0; have c1 := blk_cell HX.out 1; have c2 := blk_cell HX.out 2; simp at c0 c1 c2; clear hb1)
      | (go_at_call 12; refine (far_any _ _ _ _ _ _ _ _ HL.out).mono ?_; rw [far_same]; rintro e w1 ⟨rfl, hb1⟩; have HL := Aside.mk (HL.out.below hb1); have HB := Aside.mk (below_call HB.out hb1); have HX := Aside.mk (blk_keep HX.out hb1); have c0 := blk_cell HX.out 0; have c1 := blk_cell HX.out 1; have c2 := blk_cell HX.out 2; simp at c0 c1 c2; clear hb1)
      | (go_at_call 13; refine (farR_any _ _ _ _ _ _ _ _ HL.out).mono ?_; rintro e w1 ⟨rfl, hb1⟩; have HL := Aside.mk (HL.out.below hb1); have HB := Aside.mk (below_call HB.out hb1); have HX := Aside.mk (blk_keep HX.out hb1); have c0 := blk_cell HX.out 0; have c1 := blk_cell HX.out 1; have c2 := blk_cell HX.out 2; simp at c0 c1 c2; clear hb1)
      | (go_at_call 14; refine (edges_any _ _ _ _ _ _ HL.out).mono ?_; rw [edges_same]; rintro e w1 ⟨v1, rfl, ho, hb1⟩; have HL := Aside.mk (HL.out.below hb1); have HB := Aside.mk (below_call HB.out hb1); have HX := Aside.mk (blk_keep HX.out hb1); have c0 := blk_cell HX.out 0; have c1 := blk_cell HX.out 1; have c2 := blk_cell HX.out 2; simp at c0 c1 c2; obtain ⟨A1, k1, rfl, hk1, hr1⟩ := ho.rd; have HR1 := Aside.mk hr1; clear hb1 ho hr1)
      | (go_at_call 15; refine (edgesR_any _ _ _ _ _ _ HL.out).mono ?_; rintro e w2 ⟨v2, rfl, ho, hb1⟩; have HL := Aside.mk (HL.out.below hb1); have HB := Aside.mk (below_call HB.out hb1); have HX := Aside.mk (blk_keep HX.out hb1); have c0 := blk_cell HX.out 0; have c1 := blk_cell HX.out 1; have c2 := blk_cell HX.out 2; simp at c0 c1 c2; obtain ⟨A2, k2, rfl, hk2, hr2⟩ := ho.rd; have HR2 := Aside.mk hr2; have HR1 := Aside.mk (HR1.out.below hb1); clear hb1 ho hr2))
    generalize edgesR s p ls = es at *
    clear c0 c1 c2
    go_loopw [18] (fun i wr => ∃ k : Nat, k ≤ es.length ∧ i = .int .i64 k ∧ Below w.heap.size w wr ∧ wr.heap[w.heap.size]? = some (.cells #[.int .i64 s, .int .i64 p, .slice A ls.length c] 24) ∧ Rd lnkD wr A ls.length ls ∧ Rd endF.kd wr A1 es.length es ∧ Rd endF.kd wr A2 es.length es)
      (fun i _ => es.length - (intOf i).toNat)
    case atStart => exact ⟨0, Nat.zero_le _, rfl, HB.out, HX.out, HL.out, HR1.out, HR2.out⟩
    case round =>
      clear HB HX HL HR1 HR2
      obtain ⟨k, hk, rfl, hb, hx, hL, hr1, hr2⟩ := hrel
      have HB := Aside.mk hb
      have HX := Aside.mk hx
      have HL := Aside.mk hL
      have HR1 := Aside.mk hr1
      have HR2 := Aside.mk hr2
      have c0 := blk_cell hx 0
      have c1 := blk_cell hx 1
      have c2 := blk_cell hx 2
      simp at c0 c1 c2
      by_cases hlt : k < es.length
      · obtain ⟨b1, o1, cs1, rfl, hbl1, hcs1, hd1⟩ := Row.at hr1 k hlt
        obtain ⟨b2, o2, cs2, rfl, hbl2, hcs2, hd2⟩ := Row.at hr2 k hlt
        obtain rfl : cs1 = _ := hcs1
        obtain rfl : cs2 = _ := hcs2
        have e0 : wr.cell? ⟨b1, o1 + k * 2, none⟩ = some (.int .i64 es[k].1) := hd1 0 _ rfl
        have e1 : wr.cell? ⟨b1, o1 + k * 2 + 1, none⟩ = some (.int .i64 es[k].2) := hd1 1 _ rfl
        have f0 : wr.cell? ⟨b2, o2 + k * 2, none⟩ = some (.int .i64 es[k].1) := hd2 0 _ rfl
        have f1 : wr.cell? ⟨b2, o2 + k * 2 + 1, none⟩ = some (.int .i64 es[k].2) := hd2 1 _ rfl
        generalize es[k].1 = q1 at *
        generalize es[k].2 = q2 at *
        clear hb hx hL hr1 hr2 hd1 hd2 c0 c1 c2
        go_wp2
        go_region
        go_wp2
        go_roundw
        case rel => exact ⟨k + 1, by omega, by go_num, below_drew HB.out, HX.out, HL.out, HR1.out, HR2.out⟩
        case measure => simp [intOf]; omega
      · obtain rfl : k = es.length := by omega
        clear hb hx hL hr1 hr2
        go_wp2_with (first
          | (go_at_call 16; refine (may_any _ _ _ _ _ _ HL.out).mono ?_; rw [may_same]; rintro e w1 ⟨rfl, hb1⟩; have HL := Aside.mk (HL.out.below hb1); have HB := Aside.mk (below_call HB.out hb1); have HX := Aside.mk (blk_keep HX.out hb1); have c0 := blk_cell HX.out 0; have c1 := blk_cell HX.out 1; have c2 := blk_cell HX.out 2; simp at c0 c1 c2; clear hb1)
          | (go_at_call 17; refine (edge_any _ _ _ _ _ _ _ _ HL.out).mono ?_; rw [edge_same]; rintro e w1 ⟨rfl, hb1⟩; have HL := Aside.mk (HL.out.below hb1); have HB := Aside.mk (below_call HB.out hb1); have HX := Aside.mk (blk_keep HX.out hb1); have c0 := blk_cell HX.out 0; have c1 := blk_cell HX.out 1; have c2 := blk_cell HX.out 2; simp at c0 c1 c2; clear hb1))
        go_ret
        exact ⟨rfl, HB.out⟩
  · have d60 : decide ((60 : Int) < (ls.length : Int)) = true := decide_eq_true (by omega)
    go_enter Try.func3, Try.ntmps3
    go_wp2_with (go_at_call 9; refine (awake_any _).mono ?_; rintro e w1 ⟨rfl, hb1⟩; have HL := Aside.mk (HL.out.below hb1); have HB := Aside.mk (below_call HB.out hb1); have HX := Aside.mk (blk_keep HX.out hb1); have c0 := blk_cell HX.out 0; have c1 := blk_cell HX.out 1; have c2 := blk_cell HX.out 2; simp at c0 c1 c2; clear hb1)
    go_ret
    exact ⟨rfl, HB.out⟩
end Go.Proofs.Ytnjiojmebaojpaa
