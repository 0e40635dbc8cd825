/- The walk through layer 13's example. -/
import Derived.Test.YtlnnkkbcmidddaaPathG
import Derived.Test.YtlnnkkbcmidddaaPathT
import Derived.Test.YtlnnkkbcmidddaaPathE
namespace Go.Proofs.Ytlnnkkbcmidddaa
open Go.RowKit
set_option maxRecDepth 100000

theorem two_walk : walkP 2 2 [⟨0, 1, 1, 0⟩] [[⟨0, 0, -1, 0, 1, 1⟩], [⟨0, 0, -1, 0, 1, 1⟩]] (cap16 ⟨7, 0, 0, 5, 0, 0, 0⟩) = [⟨0, 7, 0, 0, 0, 0, 1⟩, ⟨0, 7, 1, 0, 0, 1, 1⟩] := by decide +kernel
set_option maxHeartbeats 1000000 in
theorem awake13_any (w : World) : Calls Try.prog 26 #[] w fun e w' => e = .returned (.bool true) ∧ Below w.heap.size w w' := by
  have hq := eqHop
  have he := two_walk
  have HE := Aside.mk he
  clear he
  go_enter Try.func26, Try.ntmps26
  go_wp2_with (first
    | (go_at_call 29; refine (two_any _).mono ?_; rintro e w1 ⟨A, B, c, k, rfl, hl, hc, hb⟩; have HL := Aside.mk hl; have HC := Aside.mk hc; have KB := Aside.mk hb; have HX := Aside.mk (heap_new w1 (.cells #[.int .i64 2, .int .i64 2, .slice A 1 c] 24) rfl); have c0 := blk_cell HX.out 0; have c1 := blk_cell HX.out 1; have c2 := blk_cell HX.out 2; simp at c0 c1 c2; clear hl hc hb)
    | (go_at_call 28; refine (walk_any 2 2 A c [⟨0, 1, 1, 0⟩] B k [[⟨0, 0, -1, 0, 1, 1⟩], [⟨0, 0, -1, 0, 1, 1⟩]] ⟨7, 0, 0, 5, 0, 0, 0⟩ _ (HL.out.below (below_alloc (Below.refl _ _) _)) (HC.out.below (below_alloc (Below.refl _ _) _)) (by decide) (by decide)).mono ?_; rw [HE.out]; rintro e w2 ⟨v, rfl, ho, hb2⟩; have KB := Aside.mk (below_call (below_alloc KB.out _) hb2); obtain ⟨A2, k2, rfl, hk2, hr⟩ := ho.rd; obtain ⟨b2, o2, cs2, rfl, -⟩ := Row.at hr 0 (by decide); obtain ⟨-, p0, p1, p2, p3, p4, p5, p6⟩ := hop_cells hr (Below.refl _ _) (k := 0) (by decide); obtain ⟨-, q0, q1, q2, q3, q4, q5, q6⟩ := hop_cells hr (Below.refl _ _) (k := 1) (by decide); clear hr ho hk2 hb2; simp at p0 p1 p2 p3 p4 p5 p6 q0 q1 q2 q3 q4 q5 q6))
  go_ret
  exact ⟨rfl, KB.out⟩
end Go.Proofs.Ytlnnkkbcmidddaa
