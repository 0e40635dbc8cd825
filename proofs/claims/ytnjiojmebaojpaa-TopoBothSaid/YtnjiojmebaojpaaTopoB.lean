/- The walk through TopoBoth. -/
import Derived.Test.YtnjiojmebaojpaaTopoA
import Derived.Test.YtnjiojmebaojpaaTopoK
import Derived.Test.YtnjiojmebaojpaaTopoO
namespace Go.Proofs.Ytnjiojmebaojpaa
open Go.RowKit

set_option maxHeartbeats 2000000 in
theorem topoBoth_walk (s p : Int) (A : Option Addr) (c : Nat) (ls : List Lnk) (x y : Int) (w : World) (hl : Rd lnkD w A ls.length ls) (_ : FitT s p c ls) (_ : Fit x) (_ : Fit y) :
    Calls Try.prog 4 #[.agg #[.int .i64 s, .int .i64 p, .slice A ls.length c], .int .i64 x, .int .i64 y] w fun e w' => e = .returned (.bool true) ∧ Below w.heap.size w w' := by
  have HL := Aside.mk (hl.below ((Below.refl _ w).alloc (Nat.le_refl _) (.cells #[.int .i64 s, .int .i64 p, .slice A ls.length c] 24)))
  have HB := Aside.mk (below_alloc (Below.refl _ w) (.cells #[.int .i64 s, .int .i64 p, .slice A ls.length c] 24))
  have HX := Aside.mk (show (w.alloc (.cells #[.int .i64 s, .int .i64 p, .slice A ls.length c] 24)).heap[w.heap.size]? = some (.cells #[.int .i64 s, .int .i64 p, .slice A ls.length c] 24) by rw [heap_at, if_pos rfl])
  clear hl
  cases hmay : mayT s p ls
  · go_enter Try.func4, Try.ntmps4
    go_wp2_with (first
      | (go_at_call 9; refine (awake_any _).mono ?_; rintro e w1 ⟨rfl, hb1⟩; have HL := Aside.mk (HL.out.below hb1); have HB := Aside.mk (below_call HB.out hb1); have HX := Aside.mk (blk_keep HX.out hb1); have c0 := blk_cell HX.out 0; have c1 := blk_cell HX.out 1; have c2 := blk_cell HX.out 2; simp at c0 c1 c2; clear hb1)
      | (go_at_call 16; refine (may_any _ _ _ _ _ _ HL.out).mono ?_; rw [hmay]; rintro e w1 ⟨rfl, hb1⟩; have HL := Aside.mk (HL.out.below hb1); have HB := Aside.mk (below_call HB.out hb1); have HX := Aside.mk (blk_keep HX.out hb1); have c0 := blk_cell HX.out 0; have c1 := blk_cell HX.out 1; have c2 := blk_cell HX.out 2; simp at c0 c1 c2; clear hb1))
    go_ret
    exact ⟨rfl, HB.out⟩
  · have hg := (may_good s p ls).1 hmay
    cases hf : (farL s p ls x y).2.2
    · have he := both_no hf
      go_enter Try.func4, Try.ntmps4
      have HE := Aside.mk he
      have HF := Aside.mk hf
      clear hg he
      go_wp2_with (first
        | (go_at_call 9; refine (awake_any _).mono ?_; rintro e w1 ⟨rfl, hb1⟩; have HL := Aside.mk (HL.out.below hb1); have HB := Aside.mk (below_call HB.out hb1); have HX := Aside.mk (blk_keep HX.out hb1); have c0 := blk_cell HX.out 0; have c1 := blk_cell HX.out 1; have c2 := blk_cell HX.out 2; simp at c0 c1 c2; clear hb1)
        | (go_at_call 16; refine (may_any _ _ _ _ _ _ HL.out).mono ?_; rw [hmay]; rintro e w1 ⟨rfl, hb1⟩; have HL := Aside.mk (HL.out.below hb1); have HB := Aside.mk (below_call HB.out hb1); have HX := Aside.mk (blk_keep HX.out hb1); have c0 := blk_cell HX.out 0; have c1 := blk_cell HX.out 1; have c2 := blk_cell HX.out 2; simp at c0 c1 c2; clear hb1)
        | (go_at_call 12; refine (far_any _ _ _ _ _ _ _ _ HL.out).mono ?_; rw [HF.out]; rintro e w1 ⟨rfl, hb1⟩; have HL := Aside.mk (HL.out.below hb1); have HB := Aside.mk (below_call HB.out hb1); have HX := Aside.mk (blk_keep HX.out hb1); have c0 := blk_cell HX.out 0; have c1 := blk_cell HX.out 1; have c2 := blk_cell HX.out 2; simp at c0 c1 c2; clear hb1)
        | (go_at_call 17; refine (edge_any _ _ _ _ _ _ _ _ HL.out).mono ?_; rw [HE.out]; rintro e w1 ⟨rfl, hb1⟩; have HL := Aside.mk (HL.out.below hb1); have HB := Aside.mk (below_call HB.out hb1); have HX := Aside.mk (blk_keep HX.out hb1); have c0 := blk_cell HX.out 0; have c1 := blk_cell HX.out 1; have c2 := blk_cell HX.out 2; simp at c0 c1 c2; clear hb1))
      all_goals
        go_ret
        refine ⟨ret_bool ?_, HB.out⟩
        simp [isEnd, *]
    · obtain ⟨h1, h2, h3, h4⟩ := both_yes hg hf
      have i0 : isEnd s p (x, y) = true := h1
      simp [isEnd] at i0
      obtain ⟨⟨⟨i1, i2⟩, i3⟩, i4⟩ := i0
      have h5 : farL s p ls x y = ((farL s p ls x y).1, (farL s p ls x y).2.1, true) := by rw [← hf]
      generalize (farL s p ls x y).1 = fa at *
      generalize (farL s p ls x y).2.1 = fb at *
      have HF := Aside.mk h5
      have HF2 := Aside.mk h2
      have HE := Aside.mk h3
      clear hg h1 h2 h3 h5 hf
      go_enter Try.func4, Try.ntmps4
      go_wp2_with (first
        | (go_at_call 9; refine (awake_any _).mono ?_; rintro e w1 ⟨rfl, hb1⟩; have HL := Aside.mk (HL.out.below hb1); have HB := Aside.mk (below_call HB.out hb1); have HX := Aside.mk (blk_keep HX.out hb1); have c0 := blk_cell HX.out 0; have c1 := blk_cell HX.out 1; have c2 := blk_cell HX.out 2; simp at c0 c1 c2; clear hb1)
        | (go_at_call 16; refine (may_any _ _ _ _ _ _ HL.out).mono ?_; rw [hmay]; rintro e w1 ⟨rfl, hb1⟩; have HL := Aside.mk (HL.out.below hb1); have HB := Aside.mk (below_call HB.out hb1); have HX := Aside.mk (blk_keep HX.out hb1); have c0 := blk_cell HX.out 0; have c1 := blk_cell HX.out 1; have c2 := blk_cell HX.out 2; simp at c0 c1 c2; clear hb1)
        | (go_at_call 12; refine (far_any s p _ c ls _ _ _ HL.out).mono ?_; first | rw [HF.out] | rw [HF2.out]
           rintro e w1 ⟨rfl, hb1⟩; have HL := Aside.mk (HL.out.below hb1); have HB := Aside.mk (below_call HB.out hb1); have HX := Aside.mk (blk_keep HX.out hb1); have c0 := blk_cell HX.out 0; have c1 := blk_cell HX.out 1; have c2 := blk_cell HX.out 2; simp at c0 c1 c2; clear hb1)
        | (go_at_call 17; refine (edge_any _ _ _ _ _ _ _ _ HL.out).mono ?_; rw [HE.out]; rintro e w1 ⟨rfl, hb1⟩; have HL := Aside.mk (HL.out.below hb1); have HB := Aside.mk (below_call HB.out hb1); have HX := Aside.mk (blk_keep HX.out hb1); have c0 := blk_cell HX.out 0; have c1 := blk_cell HX.out 1; have c2 := blk_cell HX.out 2; simp at c0 c1 c2; clear hb1))
      all_goals
        go_ret
        refine ⟨ret_bool ?_, HB.out⟩
        first | rfl | simp_all
end Go.Proofs.Ytnjiojmebaojpaa
