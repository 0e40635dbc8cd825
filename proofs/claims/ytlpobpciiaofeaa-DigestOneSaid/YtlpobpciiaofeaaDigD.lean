/- The walk through rule.Put. -/
import Derived.Test.YtlpobpciiaofeaaDigE
import Derived.Test.YtlpobpciiaofeaaMayB
namespace Go.Proofs.Ytlpobpciiaofeaa
open Go.RowKit
set_option maxRecDepth 100000
theorem mayI_bounds {r : Rul} (h : mayI r = true) : 0 ≤ r.addr ∧ r.addr ≤ 4294967295 ∧ 0 ≤ r.len ∧ r.len ≤ 32 ∧ -1 ≤ r.inn ∧ r.inn ≤ 7 ∧ 0 ≤ r.prio ∧ r.prio ≤ 255 ∧ 0 ≤ r.kind ∧ r.kind ≤ 1 ∧ 0 ≤ r.port ∧ r.port ≤ 7 := by
  unfold mayI bmI actI at h
  simp only [Bool.and_eq_true, Bool.or_eq_true, decide_eq_true_eq, beq_iff_eq] at h
  omega
theorem putB_oct {r : Rul} (h : mayI r = true) : Oct (putB r) := by
  have hb := mayI_bounds h
  intro z hz
  simp only [putB, List.mem_cons, List.not_mem_nil, or_false] at hz
  rcases hz with rfl | rfl | rfl | rfl | rfl | rfl | rfl | rfl | rfl <;> omega
set_option maxHeartbeats 1000000 in
theorem rput_any (r : Rul) (w : World) (hm : mayI r = true) :
    Calls Try.prog 51 #[rulV r] w fun e w' => ∃ v, e = .returned (.tuple #[v, .int .i64 0]) ∧ Own bytF w' w.heap.size 5 v (putB r) ∧ Below w.heap.size w w' := by
  have HM := Aside.mk hm
  obtain ⟨a0, a1, l0, l1, i0, i1, p0, p1, k0, k1, q0, q1⟩ := mayI_bounds hm
  clear hm
  have HB := Aside.mk (below_alloc (Below.refl _ w) (.cells #[.int .i64 r.addr, .int .i64 r.len, .int .i64 r.inn, .int .i64 r.prio, .int .i64 r.kind, .int .i64 r.port] 33))
  have HX := Aside.mk (heapN w (.cells #[.int .i64 r.addr, .int .i64 r.len, .int .i64 r.inn, .int .i64 r.prio, .int .i64 r.kind, .int .i64 r.port] 33) rfl)
  go_enter Try.func51, Try.ntmps51
  go_wp2_with (first
    | (go_at_call 22; refine (may_any8 _ _).mono ?_; rw [HM.out]; rintro e w1 ⟨rfl, hb1⟩; have HB := Aside.mk (below_call HB.out hb1); have HX := Aside.mk (blk_keep HX.out hb1); have x0 := blk_cell HX.out 0; simp at x0; clear hb1)
    | (go_at_call 60; refine (put4_any _ _ a0 a1).mono ?_; rintro e w2 ⟨v, rfl, ho, hb2⟩; obtain ⟨X, hX⟩ : ∃ X, four r.addr = X := ⟨_, rfl⟩; rw [hX] at ho; have HX4 := Aside.mk hX; have HXL := Aside.mk (show X.length = 4 by rw [← hX]; rfl); clear hX; obtain ⟨A1, c1, rfl, -⟩ := ho.form; have KO := Aside.mk (ho.mono HB.out.size); have HB := Aside.mk (below_call HB.out hb2); have HX := Aside.mk (blk_keep HX.out hb2); clear x0; have x1 := blk_cell HX.out 1; have x2 := blk_cell HX.out 2; have x3 := blk_cell HX.out 3; have x4 := blk_cell HX.out 4; have x5 := blk_cell HX.out 5; simp at x1 x2 x3 x4 x5; clear ho hb2)
    | (at_builtin; refine wp_appRow (f := bytF) w.heap.size rfl _ _ _ _ _ _ rfl Try.underlying58 infoByt rfl (by decide) (.slice A1 X.length c1) X [r.len, r.inn + 1, r.prio, r.kind, r.port] (some ⟨w2.heap.size, 0, none⟩) 5 rfl rfl (fun h => by cases h) (KO.out.alloc _) (Rd.made bytF _ _ _ _ _ rfl (by simp)) (by have := HB.out.size; simp; omega) (by have := HXL.out; simp; omega) ?_; intro v2 w3 ho2 hg2 hat2; have HB := Aside.mk (below_own (below_alloc HB.out _) hg2 (fun b e => ⟨(KO.out.lt b e).1, (KO.out.lt b e).2⟩)); have KO := Aside.mk ho2; clear hg2 ho2 hat2))

  have HE : putB r = X ++ [r.len, r.inn + 1, r.prio, r.kind, r.port] := by rw [← HX4.out]; rfl
  exact bodyPost_ret (v := .tuple #[_, _]) (by simp [results, Try.results51, go_sem]) rfl ⟨_, rfl, HE ▸ KO.out, HB.out⟩
theorem rputNo_any (r : Rul) (w : World) (hm : mayI r = false) :
    Calls Try.prog 51 #[rulV r] w fun e w' => e = .returned (.tuple #[.slice none 0 0, .int .i64 1]) ∧ Below w.heap.size w w' := by
  have HM := Aside.mk hm
  clear hm
  have HB := Aside.mk (below_alloc (Below.refl _ w) (.cells #[.int .i64 r.addr, .int .i64 r.len, .int .i64 r.inn, .int .i64 r.prio, .int .i64 r.kind, .int .i64 r.port] 33))
  go_enter Try.func51, Try.ntmps51
  go_wp2_with (go_at_call 22; refine (may_any8 _ _).mono ?_; rw [HM.out]; rintro e w1 ⟨rfl, hb1⟩; have HB := Aside.mk (below_call HB.out hb1); clear hb1)
  refine bodyPost_ret (v := .tuple #[.slice none 0 0, .int .i64 1]) (by simp [results, Try.results51, go_sem]) rfl ?_
  exact ⟨rfl, HB.out⟩
end Go.Proofs.Ytlpobpciiaofeaa
