/- The walks through the document's 'before' and Order. -/
import Derived.Test.YtlnnkkbcmidddaaSortJ
namespace Go.Proofs.Ytlnnkkbcmidddaa
open Go.RowKit
set_option maxRecDepth 100000
theorem ltR_ahead (a b : Rul) : decide (ltR a b) = if (aheadI a b || aheadI b a) = true then aheadI a b else if a.addr != b.addr then decide (a.addr < b.addr) else if a.kind != b.kind then decide (a.kind < b.kind) else decide (a.port < b.port) := by
  obtain ⟨a1, a2, a3, a4, a5, a6⟩ := a
  obtain ⟨b1, b2, b3, b4, b5, b6⟩ := b
  rcases Int.lt_trichotomy a2 b2 with h | rfl | h
  · have n1 : ¬ a2 = b2 := by omega
    have n2 : ¬ b2 = a2 := by omega
    have n3 : ¬ b2 < a2 := by omega
    simp [aheadI, ltR, n1, n2, n3, h]
  · skip
    rcases Int.lt_trichotomy a4 b4 with h | rfl | h
    · have n1 : ¬ a4 = b4 := by omega
      have n2 : ¬ b4 = a4 := by omega
      have n3 : ¬ b4 < a4 := by omega
      simp [aheadI, ltR, n1, n2, n3, h]
    · skip
      rcases Int.lt_trichotomy a3 b3 with h | rfl | h
      · have n1 : ¬ a3 = b3 := by omega
        have n2 : ¬ b3 = a3 := by omega
        have n3 : ¬ b3 < a3 := by omega
        simp [aheadI, ltR, n1, n2, n3, h]
      · skip
        rcases Int.lt_trichotomy a1 b1 with h | rfl | h
        · have n1 : ¬ a1 = b1 := by omega
          have n2 : ¬ b1 = a1 := by omega
          have n3 : ¬ b1 < a1 := by omega
          simp [aheadI, ltR, n1, n2, n3, h]
        · skip
          rcases Int.lt_trichotomy a5 b5 with h | rfl | h
          · have n1 : ¬ a5 = b5 := by omega
            have n2 : ¬ b5 = a5 := by omega
            have n3 : ¬ b5 < a5 := by omega
            simp [aheadI, ltR, n1, n2, n3, h]
          · skip
            simp [aheadI, ltR]
          · have n1 : ¬ a5 = b5 := by omega
            have n2 : ¬ b5 = a5 := by omega
            have n3 : ¬ a5 < b5 := by omega
            simp [aheadI, ltR, n1, n2, n3, h]
        · have n1 : ¬ a1 = b1 := by omega
          have n2 : ¬ b1 = a1 := by omega
          have n3 : ¬ a1 < b1 := by omega
          simp [aheadI, ltR, n1, n2, n3, h]
      · have n1 : ¬ a3 = b3 := by omega
        have n2 : ¬ b3 = a3 := by omega
        have n3 : ¬ a3 < b3 := by omega
        simp [aheadI, ltR, n1, n2, n3, h]
    · have n1 : ¬ a4 = b4 := by omega
      have n2 : ¬ b4 = a4 := by omega
      have n3 : ¬ a4 < b4 := by omega
      simp [aheadI, ltR, n1, n2, n3, h]
  · have n1 : ¬ a2 = b2 := by omega
    have n2 : ¬ b2 = a2 := by omega
    have n3 : ¬ a2 < b2 := by omega
    simp [aheadI, ltR, n1, n2, n3, h]
set_option maxHeartbeats 4000000 in
theorem before_any (a b : Rul) (w : World) : Calls Try.prog 59 #[rulV a, rulV b] w fun e w' => e = .returned (.bool (decide (ltR a b))) ∧ Below w.heap.size w w' := by
  have HB := Aside.mk (below_alloc (below_alloc (Below.refl _ w) (.cells #[.int .i64 a.addr, .int .i64 a.len, .int .i64 a.inn, .int .i64 a.prio, .int .i64 a.kind, .int .i64 a.port] 58)) (.cells #[.int .i64 b.addr, .int .i64 b.len, .int .i64 b.inn, .int .i64 b.prio, .int .i64 b.kind, .int .i64 b.port] 58))
  have HX := Aside.mk (heapO (heapN w (.cells #[.int .i64 a.addr, .int .i64 a.len, .int .i64 a.inn, .int .i64 a.prio, .int .i64 a.kind, .int .i64 a.port] 58) rfl) (.cells #[.int .i64 b.addr, .int .i64 b.len, .int .i64 b.inn, .int .i64 b.prio, .int .i64 b.kind, .int .i64 b.port] 58))
  have HY := Aside.mk (heapN (w.alloc (.cells #[.int .i64 a.addr, .int .i64 a.len, .int .i64 a.inn, .int .i64 a.prio, .int .i64 a.kind, .int .i64 a.port] 58)) (.cells #[.int .i64 b.addr, .int .i64 b.len, .int .i64 b.inn, .int .i64 b.prio, .int .i64 b.kind, .int .i64 b.port] 58) rfl)
  simp only [World.size_alloc] at HY
  have HE := Aside.mk (ltR_ahead a b)
  obtain ⟨t1, h1⟩ : ∃ t, aheadI a b = t := ⟨_, rfl⟩
  obtain ⟨t2, h2⟩ : ∃ t, aheadI b a = t := ⟨_, rfl⟩
  have H1 := Aside.mk h1
  have H2 := Aside.mk h2
  clear h1 h2
  cases t1
  · cases t2
    · cases h1 : (a.addr != b.addr)
      · cases h2 : (a.kind != b.kind)
        · have hr : decide (ltR a b) = decide (a.port < b.port) := by rw [HE.out, H1.out, H2.out, h1, h2]; rfl
          rw [hr]
          go_enter Try.func59, Try.ntmps59
          go_wp2_with (first | (have hfl := HFL; clear hfl HFL; go_at_call 72; refine (aheadR_any b a _).mono ?_; rw [H2.out]; rintro e w2 ⟨rfl, hb1⟩; have HB := Aside.mk (below_call HB.out hb1); have HX := Aside.mk (blk_keep HX.out hb1); have HY := Aside.mk (blk_keep HY.out hb1); have x0 := blk_cell HX.out 0; have x1 := blk_cell HX.out 1; have x2 := blk_cell HX.out 2; have x3 := blk_cell HX.out 3; have x4 := blk_cell HX.out 4; have x5 := blk_cell HX.out 5; have y0 := blk_cell HY.out 0; have y1 := blk_cell HY.out 1; have y2 := blk_cell HY.out 2; have y3 := blk_cell HY.out 3; have y4 := blk_cell HY.out 4; have y5 := blk_cell HY.out 5; simp at x0 x1 x2 x3 x4 x5 y0 y1 y2 y3 y4 y5; clear hb1) | (go_at_call 72; refine (aheadR_any a b _).mono ?_; rw [H1.out]; rintro e w1 ⟨rfl, hb1⟩; have HFL : Aside True := .mk trivial; have HB := Aside.mk (below_call HB.out hb1); have HX := Aside.mk (blk_keep HX.out hb1); have HY := Aside.mk (blk_keep HY.out hb1); have x0 := blk_cell HX.out 0; have x1 := blk_cell HX.out 1; have x2 := blk_cell HX.out 2; have x3 := blk_cell HX.out 3; have x4 := blk_cell HX.out 4; have x5 := blk_cell HX.out 5; have y0 := blk_cell HY.out 0; have y1 := blk_cell HY.out 1; have y2 := blk_cell HY.out 2; have y3 := blk_cell HY.out 3; have y4 := blk_cell HY.out 4; have y5 := blk_cell HY.out 5; simp at x0 x1 x2 x3 x4 x5 y0 y1 y2 y3 y4 y5; clear hb1))
          go_ret
          exact ⟨rfl, HB.out⟩
        · have hr : decide (ltR a b) = decide (a.kind < b.kind) := by rw [HE.out, H1.out, H2.out, h1, h2]; rfl
          rw [hr]
          go_enter Try.func59, Try.ntmps59
          go_wp2_with (first | (have hfl := HFL; clear hfl HFL; go_at_call 72; refine (aheadR_any b a _).mono ?_; rw [H2.out]; rintro e w2 ⟨rfl, hb1⟩; have HB := Aside.mk (below_call HB.out hb1); have HX := Aside.mk (blk_keep HX.out hb1); have HY := Aside.mk (blk_keep HY.out hb1); have x0 := blk_cell HX.out 0; have x1 := blk_cell HX.out 1; have x2 := blk_cell HX.out 2; have x3 := blk_cell HX.out 3; have x4 := blk_cell HX.out 4; have x5 := blk_cell HX.out 5; have y0 := blk_cell HY.out 0; have y1 := blk_cell HY.out 1; have y2 := blk_cell HY.out 2; have y3 := blk_cell HY.out 3; have y4 := blk_cell HY.out 4; have y5 := blk_cell HY.out 5; simp at x0 x1 x2 x3 x4 x5 y0 y1 y2 y3 y4 y5; clear hb1) | (go_at_call 72; refine (aheadR_any a b _).mono ?_; rw [H1.out]; rintro e w1 ⟨rfl, hb1⟩; have HFL : Aside True := .mk trivial; have HB := Aside.mk (below_call HB.out hb1); have HX := Aside.mk (blk_keep HX.out hb1); have HY := Aside.mk (blk_keep HY.out hb1); have x0 := blk_cell HX.out 0; have x1 := blk_cell HX.out 1; have x2 := blk_cell HX.out 2; have x3 := blk_cell HX.out 3; have x4 := blk_cell HX.out 4; have x5 := blk_cell HX.out 5; have y0 := blk_cell HY.out 0; have y1 := blk_cell HY.out 1; have y2 := blk_cell HY.out 2; have y3 := blk_cell HY.out 3; have y4 := blk_cell HY.out 4; have y5 := blk_cell HY.out 5; simp at x0 x1 x2 x3 x4 x5 y0 y1 y2 y3 y4 y5; clear hb1))
          go_ret
          exact ⟨rfl, HB.out⟩
      · have hr : decide (ltR a b) = decide (a.addr < b.addr) := by rw [HE.out, H1.out, H2.out, h1]; rfl
        rw [hr]
        go_enter Try.func59, Try.ntmps59
        go_wp2_with (first | (have hfl := HFL; clear hfl HFL; go_at_call 72; refine (aheadR_any b a _).mono ?_; rw [H2.out]; rintro e w2 ⟨rfl, hb1⟩; have HB := Aside.mk (below_call HB.out hb1); have HX := Aside.mk (blk_keep HX.out hb1); have HY := Aside.mk (blk_keep HY.out hb1); have x0 := blk_cell HX.out 0; have x1 := blk_cell HX.out 1; have x2 := blk_cell HX.out 2; have x3 := blk_cell HX.out 3; have x4 := blk_cell HX.out 4; have x5 := blk_cell HX.out 5; have y0 := blk_cell HY.out 0; have y1 := blk_cell HY.out 1; have y2 := blk_cell HY.out 2; have y3 := blk_cell HY.out 3; have y4 := blk_cell HY.out 4; have y5 := blk_cell HY.out 5; simp at x0 x1 x2 x3 x4 x5 y0 y1 y2 y3 y4 y5; clear hb1) | (go_at_call 72; refine (aheadR_any a b _).mono ?_; rw [H1.out]; rintro e w1 ⟨rfl, hb1⟩; have HFL : Aside True := .mk trivial; have HB := Aside.mk (below_call HB.out hb1); have HX := Aside.mk (blk_keep HX.out hb1); have HY := Aside.mk (blk_keep HY.out hb1); have x0 := blk_cell HX.out 0; have x1 := blk_cell HX.out 1; have x2 := blk_cell HX.out 2; have x3 := blk_cell HX.out 3; have x4 := blk_cell HX.out 4; have x5 := blk_cell HX.out 5; have y0 := blk_cell HY.out 0; have y1 := blk_cell HY.out 1; have y2 := blk_cell HY.out 2; have y3 := blk_cell HY.out 3; have y4 := blk_cell HY.out 4; have y5 := blk_cell HY.out 5; simp at x0 x1 x2 x3 x4 x5 y0 y1 y2 y3 y4 y5; clear hb1))
        go_ret
        exact ⟨rfl, HB.out⟩
    · have hr : decide (ltR a b) = false := by rw [HE.out, H1.out, H2.out]; rfl
      rw [hr]
      go_enter Try.func59, Try.ntmps59
      go_wp2_with (first | (have hfl := HFL; clear hfl HFL; go_at_call 72; refine (aheadR_any b a _).mono ?_; rw [H2.out]; rintro e w2 ⟨rfl, hb1⟩; have HB := Aside.mk (below_call HB.out hb1); have HX := Aside.mk (blk_keep HX.out hb1); have HY := Aside.mk (blk_keep HY.out hb1); have x0 := blk_cell HX.out 0; have x1 := blk_cell HX.out 1; have x2 := blk_cell HX.out 2; have x3 := blk_cell HX.out 3; have x4 := blk_cell HX.out 4; have x5 := blk_cell HX.out 5; have y0 := blk_cell HY.out 0; have y1 := blk_cell HY.out 1; have y2 := blk_cell HY.out 2; have y3 := blk_cell HY.out 3; have y4 := blk_cell HY.out 4; have y5 := blk_cell HY.out 5; simp at x0 x1 x2 x3 x4 x5 y0 y1 y2 y3 y4 y5; clear hb1) | (go_at_call 72; refine (aheadR_any a b _).mono ?_; rw [H1.out]; rintro e w1 ⟨rfl, hb1⟩; have HFL : Aside True := .mk trivial; have HB := Aside.mk (below_call HB.out hb1); have HX := Aside.mk (blk_keep HX.out hb1); have HY := Aside.mk (blk_keep HY.out hb1); have x0 := blk_cell HX.out 0; have x1 := blk_cell HX.out 1; have x2 := blk_cell HX.out 2; have x3 := blk_cell HX.out 3; have x4 := blk_cell HX.out 4; have x5 := blk_cell HX.out 5; have y0 := blk_cell HY.out 0; have y1 := blk_cell HY.out 1; have y2 := blk_cell HY.out 2; have y3 := blk_cell HY.out 3; have y4 := blk_cell HY.out 4; have y5 := blk_cell HY.out 5; simp at x0 x1 x2 x3 x4 x5 y0 y1 y2 y3 y4 y5; clear hb1))
      go_ret
      exact ⟨rfl, HB.out⟩
  · have hr : decide (ltR a b) = true := by rw [HE.out, H1.out]; rfl
    rw [hr]
    go_enter Try.func59, Try.ntmps59
    go_wp2_with (first | (have hfl := HFL; clear hfl HFL; go_at_call 72; refine (aheadR_any b a _).mono ?_; rw [H2.out]; rintro e w2 ⟨rfl, hb1⟩; have HB := Aside.mk (below_call HB.out hb1); have HX := Aside.mk (blk_keep HX.out hb1); have HY := Aside.mk (blk_keep HY.out hb1); have x0 := blk_cell HX.out 0; have x1 := blk_cell HX.out 1; have x2 := blk_cell HX.out 2; have x3 := blk_cell HX.out 3; have x4 := blk_cell HX.out 4; have x5 := blk_cell HX.out 5; have y0 := blk_cell HY.out 0; have y1 := blk_cell HY.out 1; have y2 := blk_cell HY.out 2; have y3 := blk_cell HY.out 3; have y4 := blk_cell HY.out 4; have y5 := blk_cell HY.out 5; simp at x0 x1 x2 x3 x4 x5 y0 y1 y2 y3 y4 y5; clear hb1) | (go_at_call 72; refine (aheadR_any a b _).mono ?_; rw [H1.out]; rintro e w1 ⟨rfl, hb1⟩; have HFL : Aside True := .mk trivial; have HB := Aside.mk (below_call HB.out hb1); have HX := Aside.mk (blk_keep HX.out hb1); have HY := Aside.mk (blk_keep HY.out hb1); have x0 := blk_cell HX.out 0; have x1 := blk_cell HX.out 1; have x2 := blk_cell HX.out 2; have x3 := blk_cell HX.out 3; have x4 := blk_cell HX.out 4; have x5 := blk_cell HX.out 5; have y0 := blk_cell HY.out 0; have y1 := blk_cell HY.out 1; have y2 := blk_cell HY.out 2; have y3 := blk_cell HY.out 3; have y4 := blk_cell HY.out 4; have y5 := blk_cell HY.out 5; simp at x0 x1 x2 x3 x4 x5 y0 y1 y2 y3 y4 y5; clear hb1))
    go_ret
    exact ⟨rfl, HB.out⟩
end Go.Proofs.Ytlnnkkbcmidddaa
