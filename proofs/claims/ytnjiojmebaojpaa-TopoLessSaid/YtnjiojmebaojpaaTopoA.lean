/- The walk through the chapter's example. -/
import Derived.Test.YtnjiojmebaojpaaTopoS
import Derived.Test.YtnjiojmebaojpaaTopoM
import Derived.Test.YtnjiojmebaojpaaTopoL
namespace Go.Proofs.Ytnjiojmebaojpaa
open Go.RowKit

def lnkF : Flat Lnk where
  enc l := [.int .i64 l.a, .int .i64 l.pa, .int .i64 l.b, .int .i64 l.pb]
  sz := 4
  len _ := rfl
  one _ u hu := by simp at hu; rcases hu with rfl | rfl | rfl | rfl <;> rfl
  pos := by decide

theorem infoLnk : (Try.prog.info? 34).map (fun i => (i.zero, i.size, i.bytes)) = some (some (.agg #[.int .i64 0, .int .i64 0, .int .i64 0, .int .i64 0]), 4, 32) := by kernel_rfl
theorem eqPair (w : World) (a b c d : Int) : (Op.equalIn 10000 32 (.agg #[.int .i64 a, .int .i64 b]) (.agg #[.int .i64 c, .int .i64 d])).run Try.prog w = .ok (decide (a = c) && decide (b = d)) w := by
  have u3 := Try.underlying3
  have a3 := Try.isAgg3
  have z3 := Try.sizeOf3
  rw [show (10000 : Nat) = 9999 + 1 from rfl, Op.equalIn]
  simp only [Sem.run_bind, run_underlying Try.underlying32, Result.andThen_ok]
  simp only [Std.Legacy.Range.forIn_eq_forIn_range', Std.Legacy.Range.size, Nat.sub_zero, Nat.add_sub_cancel, Nat.div_one, List.range'_succ, List.range'_zero, List.forIn_cons, List.forIn_nil]
  go_simp
  by_cases h1 : a = c <;> by_cases h2 : b = d <;> simp [h1, h2]

set_option maxHeartbeats 1000000 in
theorem awake_any (w : World) : Calls Try.prog 9 #[] w fun e w' => e = .returned (.bool true) ∧ Below w.heap.size w w' := by
  have HL : Rd lnkD (w.alloc (.cells #[.int .i64 0, .int .i64 1, .int .i64 1, .int .i64 0] 34)) (some ⟨w.heap.size, 0, none⟩) 1 [⟨0, 1, 1, 0⟩] := Rd.made lnkF w _ _ _ [⟨0, 1, 1, 0⟩] rfl (by decide)
  have HL := Aside.mk (HL.below ((Below.refl _ _).alloc (Nat.le_refl _) (.cells #[.int .i64 2, .int .i64 2, .slice (some ⟨w.heap.size, 0, none⟩) 1 1] 24)))
  have HB := Aside.mk (below_alloc (below_alloc (Below.refl w.heap.size w) (.cells #[.int .i64 0, .int .i64 1, .int .i64 1, .int .i64 0] 34)) (.cells #[.int .i64 2, .int .i64 2, .slice (some ⟨w.heap.size, 0, none⟩) 1 1] 24))
  have HX := Aside.mk (show ((w.alloc (.cells #[.int .i64 0, .int .i64 1, .int .i64 1, .int .i64 0] 34)).alloc (.cells #[.int .i64 2, .int .i64 2, .slice (some ⟨w.heap.size, 0, none⟩) 1 1] 24)).heap[w.heap.size + 1]? = some (.cells #[.int .i64 2, .int .i64 2, .slice (some ⟨w.heap.size, 0, none⟩) 1 1] 24) by rw [heap_at, if_pos (by simp)])
  have e1 : farL 2 2 [⟨0, 1, 1, 0⟩] 0 1 = (1, 0, true) := by decide
  have e2 : edgesL 2 2 [⟨0, 1, 1, 0⟩] = [(0, 0), (1, 1)] := by decide
  have e3 : mayT 2 2 [⟨0, 1, 1, 0⟩] = true := by decide
  have e4 : edgeL 2 2 [⟨0, 1, 1, 0⟩] 0 0 = true := by decide
  have hq := eqPair
  go_enter Try.func9, Try.ntmps9
  go_wp2_with (first
    | (go_at_call 12; refine (far_any 2 2 _ 1 [⟨0, 1, 1, 0⟩] 0 1 _ HL.out).mono ?_; rw [e1]; rintro e w1 ⟨rfl, hb1⟩; have HL := Aside.mk (HL.out.below hb1); have HB := Aside.mk (below_call HB.out hb1); have HX := Aside.mk (blk_keep HX.out hb1); have c0 := blk_cell HX.out 0; have c1 := blk_cell HX.out 1; have c2 := blk_cell HX.out 2; simp at c0 c1 c2; clear hb1)
    | (go_at_call 17; refine (edge_any 2 2 _ 1 [⟨0, 1, 1, 0⟩] 0 0 _ HL.out).mono ?_; rw [e4]; rintro e w1 ⟨rfl, hb1⟩; have HL := Aside.mk (HL.out.below hb1); have HB := Aside.mk (below_call HB.out hb1); have HX := Aside.mk (blk_keep HX.out hb1); have c0 := blk_cell HX.out 0; have c1 := blk_cell HX.out 1; have c2 := blk_cell HX.out 2; simp at c0 c1 c2; clear hb1)
    | (go_at_call 16; refine (may_any 2 2 _ 1 [⟨0, 1, 1, 0⟩] _ HL.out).mono ?_; rw [e3]; rintro e w1 ⟨rfl, hb1⟩; have HL := Aside.mk (HL.out.below hb1); have HB := Aside.mk (below_call HB.out hb1); have HX := Aside.mk (blk_keep HX.out hb1); have c0 := blk_cell HX.out 0; have c1 := blk_cell HX.out 1; have c2 := blk_cell HX.out 2; simp at c0 c1 c2; have d0 := (hb1.cell hb2).trans d0; have d1 := (hb1.cell hb2).trans d1; have hb2 := Nat.lt_of_lt_of_le hb2 hb1.size; clear hb1)
    | (go_at_call 14; refine (edges_any 2 2 _ 1 [⟨0, 1, 1, 0⟩] _ HL.out).mono ?_; rw [e2]; rintro e w1 ⟨v, rfl, ho, hb1⟩; have HL := Aside.mk (HL.out.below hb1); have HB := Aside.mk (below_call HB.out hb1); have HX := Aside.mk (blk_keep HX.out hb1); have c0 := blk_cell HX.out 0; have c1 := blk_cell HX.out 1; have c2 := blk_cell HX.out 2; simp at c0 c1 c2; obtain ⟨A2, k2, rfl, hk2, hr⟩ := ho.rd; obtain ⟨b2, o2, cs2, rfl, hb2, hcs2, hd⟩ := Row.at hr 1 (by decide); obtain rfl : cs2 = _ := hcs2; have d0 : w1.cell? ⟨b2, o2 + 2, none⟩ = some (.int .i64 1) := hd 0 _ rfl; have d1 : w1.cell? ⟨b2, o2 + 2 + 1, none⟩ = some (.int .i64 1) := hd 1 _ rfl; clear hb1 hr hd ho))
  go_ret
  exact ⟨rfl, HB.out⟩
end Go.Proofs.Ytnjiojmebaojpaa
