/- The walk through DigestOne. -/
import Derived.Test.YtlpobpciiaofeaaDigNb
namespace Go.Proofs.Ytlpobpciiaofeaa
open Go.RowKit
set_option maxRecDepth 100000
set_option maxHeartbeats 1000000 in
theorem digestOne_not (tag other : Int) (r : Rul) (port prio : Int) (w : World) (ht : Fit tag) (ho : Fit other) (hr : FitR8 r) (hp : Fit port) (hq : Fit prio) (hm : mayI r = false) : Calls Try.prog 9 #[.int .i64 tag, .int .i64 other, rulV r, .int .i64 port, .int .i64 prio] w fun e w' => e = .returned (.bool true) ∧ Below w.heap.size w w' := by
  have HM := Aside.mk hm
  clear hm ht ho hr hp hq
  have KB := Aside.mk (below_alloc (Below.refl _ w) (.cells #[.int .i64 r.addr, .int .i64 r.len, .int .i64 r.inn, .int .i64 r.prio, .int .i64 r.kind, .int .i64 r.port] 33)); have HX := Aside.mk (heapN w (.cells #[.int .i64 r.addr, .int .i64 r.len, .int .i64 r.inn, .int .i64 r.prio, .int .i64 r.kind, .int .i64 r.port] 33) rfl)
  go_enter Try.func9, Try.ntmps9
  go_wp2_with (first | (go_at_call 23; refine (awake10_any _).mono ?_; rintro e w1 ⟨rfl, hb1⟩; have KB := Aside.mk (below_call KB.out hb1); have HX := Aside.mk (blk_keep HX.out hb1); clear hb1; have hlt4 := blk_lt HX.out; have x0 := blk_cell HX.out 0; have x1 := blk_cell HX.out 1; have x2 := blk_cell HX.out 2; have x3 := blk_cell HX.out 3; have x4 := blk_cell HX.out 4; have x5 := blk_cell HX.out 5; simp at x0 x1 x2 x3 x4 x5) | (go_at_call 22; refine (may_any8 r _).mono ?_; rw [HM.out]; rintro e w2 ⟨rfl, hb1⟩; clear x0 x1 x2 x3 x4 x5 hlt4; have KB := Aside.mk (below_call KB.out hb1); have HX := Aside.mk (blk_keep HX.out hb1); clear hb1; have hlt4 := blk_lt HX.out; have x0 := blk_cell HX.out 0; have x1 := blk_cell HX.out 1; have x2 := blk_cell HX.out 2; have x3 := blk_cell HX.out 3; have x4 := blk_cell HX.out 4; have x5 := blk_cell HX.out 5; simp at x0 x1 x2 x3 x4 x5))
  go_ret
  exact ⟨rfl, KB.out⟩
set_option maxHeartbeats 1000000 in
theorem digestOne_t1 (tag other : Int) (r : Rul) (port prio : Int) (w : World) (ht : Fit tag) (ho : Fit other) (hr : FitR8 r) (hp : Fit port) (hq : Fit prio) (hm : mayI r = true) (h1 : tag < 1) : Calls Try.prog 9 #[.int .i64 tag, .int .i64 other, rulV r, .int .i64 port, .int .i64 prio] w fun e w' => e = .returned (.bool true) ∧ Below w.heap.size w w' := by
  have d1 : decide (tag < 1) = true := decide_eq_true h1
  have HM := Aside.mk hm
  clear hm ht ho hr hp hq h1
  have KB := Aside.mk (below_alloc (Below.refl _ w) (.cells #[.int .i64 r.addr, .int .i64 r.len, .int .i64 r.inn, .int .i64 r.prio, .int .i64 r.kind, .int .i64 r.port] 33)); have HX := Aside.mk (heapN w (.cells #[.int .i64 r.addr, .int .i64 r.len, .int .i64 r.inn, .int .i64 r.prio, .int .i64 r.kind, .int .i64 r.port] 33) rfl)
  go_enter Try.func9, Try.ntmps9
  go_wp2_with (first | (go_at_call 23; refine (awake10_any _).mono ?_; rintro e w1 ⟨rfl, hb1⟩; have KB := Aside.mk (below_call KB.out hb1); have HX := Aside.mk (blk_keep HX.out hb1); clear hb1; have hlt4 := blk_lt HX.out; have x0 := blk_cell HX.out 0; have x1 := blk_cell HX.out 1; have x2 := blk_cell HX.out 2; have x3 := blk_cell HX.out 3; have x4 := blk_cell HX.out 4; have x5 := blk_cell HX.out 5; simp at x0 x1 x2 x3 x4 x5) | (go_at_call 22; refine (may_any8 r _).mono ?_; rw [HM.out]; rintro e w2 ⟨rfl, hb1⟩; clear x0 x1 x2 x3 x4 x5 hlt4; have KB := Aside.mk (below_call KB.out hb1); have HX := Aside.mk (blk_keep HX.out hb1); clear hb1; have hlt4 := blk_lt HX.out; have x0 := blk_cell HX.out 0; have x1 := blk_cell HX.out 1; have x2 := blk_cell HX.out 2; have x3 := blk_cell HX.out 3; have x4 := blk_cell HX.out 4; have x5 := blk_cell HX.out 5; simp at x0 x1 x2 x3 x4 x5))
  go_ret
  exact ⟨rfl, KB.out⟩
set_option maxHeartbeats 1000000 in
theorem digestOne_t2 (tag other : Int) (r : Rul) (port prio : Int) (w : World) (ht : Fit tag) (ho : Fit other) (hr : FitR8 r) (hp : Fit port) (hq : Fit prio) (hm : mayI r = true) (h1 : ¬ (tag < 1)) (h2 : 4095 < tag) : Calls Try.prog 9 #[.int .i64 tag, .int .i64 other, rulV r, .int .i64 port, .int .i64 prio] w fun e w' => e = .returned (.bool true) ∧ Below w.heap.size w w' := by
  have d1 : decide (tag < 1) = false := decide_eq_false h1
  have d2 : decide (4095 < tag) = true := decide_eq_true h2
  have HM := Aside.mk hm
  clear hm ht ho hr hp hq h1 h2
  have KB := Aside.mk (below_alloc (Below.refl _ w) (.cells #[.int .i64 r.addr, .int .i64 r.len, .int .i64 r.inn, .int .i64 r.prio, .int .i64 r.kind, .int .i64 r.port] 33)); have HX := Aside.mk (heapN w (.cells #[.int .i64 r.addr, .int .i64 r.len, .int .i64 r.inn, .int .i64 r.prio, .int .i64 r.kind, .int .i64 r.port] 33) rfl)
  go_enter Try.func9, Try.ntmps9
  go_wp2_with (first | (go_at_call 23; refine (awake10_any _).mono ?_; rintro e w1 ⟨rfl, hb1⟩; have KB := Aside.mk (below_call KB.out hb1); have HX := Aside.mk (blk_keep HX.out hb1); clear hb1; have hlt4 := blk_lt HX.out; have x0 := blk_cell HX.out 0; have x1 := blk_cell HX.out 1; have x2 := blk_cell HX.out 2; have x3 := blk_cell HX.out 3; have x4 := blk_cell HX.out 4; have x5 := blk_cell HX.out 5; simp at x0 x1 x2 x3 x4 x5) | (go_at_call 22; refine (may_any8 r _).mono ?_; rw [HM.out]; rintro e w2 ⟨rfl, hb1⟩; clear x0 x1 x2 x3 x4 x5 hlt4; have KB := Aside.mk (below_call KB.out hb1); have HX := Aside.mk (blk_keep HX.out hb1); clear hb1; have hlt4 := blk_lt HX.out; have x0 := blk_cell HX.out 0; have x1 := blk_cell HX.out 1; have x2 := blk_cell HX.out 2; have x3 := blk_cell HX.out 3; have x4 := blk_cell HX.out 4; have x5 := blk_cell HX.out 5; simp at x0 x1 x2 x3 x4 x5))
  go_ret
  exact ⟨rfl, KB.out⟩
set_option maxHeartbeats 1000000 in
theorem digestOne_o1 (tag other : Int) (r : Rul) (port prio : Int) (w : World) (ht : Fit tag) (ho : Fit other) (hr : FitR8 r) (hp : Fit port) (hq : Fit prio) (hm : mayI r = true) (h1 : ¬ (tag < 1)) (h2 : ¬ (4095 < tag)) (h3 : other < 1) : Calls Try.prog 9 #[.int .i64 tag, .int .i64 other, rulV r, .int .i64 port, .int .i64 prio] w fun e w' => e = .returned (.bool true) ∧ Below w.heap.size w w' := by
  have d1 : decide (tag < 1) = false := decide_eq_false h1
  have d2 : decide (4095 < tag) = false := decide_eq_false h2
  have d3 : decide (other < 1) = true := decide_eq_true h3
  have HM := Aside.mk hm
  clear hm ht ho hr hp hq h1 h2 h3
  have KB := Aside.mk (below_alloc (Below.refl _ w) (.cells #[.int .i64 r.addr, .int .i64 r.len, .int .i64 r.inn, .int .i64 r.prio, .int .i64 r.kind, .int .i64 r.port] 33)); have HX := Aside.mk (heapN w (.cells #[.int .i64 r.addr, .int .i64 r.len, .int .i64 r.inn, .int .i64 r.prio, .int .i64 r.kind, .int .i64 r.port] 33) rfl)
  go_enter Try.func9, Try.ntmps9
  go_wp2_with (first | (go_at_call 23; refine (awake10_any _).mono ?_; rintro e w1 ⟨rfl, hb1⟩; have KB := Aside.mk (below_call KB.out hb1); have HX := Aside.mk (blk_keep HX.out hb1); clear hb1; have hlt4 := blk_lt HX.out; have x0 := blk_cell HX.out 0; have x1 := blk_cell HX.out 1; have x2 := blk_cell HX.out 2; have x3 := blk_cell HX.out 3; have x4 := blk_cell HX.out 4; have x5 := blk_cell HX.out 5; simp at x0 x1 x2 x3 x4 x5) | (go_at_call 22; refine (may_any8 r _).mono ?_; rw [HM.out]; rintro e w2 ⟨rfl, hb1⟩; clear x0 x1 x2 x3 x4 x5 hlt4; have KB := Aside.mk (below_call KB.out hb1); have HX := Aside.mk (blk_keep HX.out hb1); clear hb1; have hlt4 := blk_lt HX.out; have x0 := blk_cell HX.out 0; have x1 := blk_cell HX.out 1; have x2 := blk_cell HX.out 2; have x3 := blk_cell HX.out 3; have x4 := blk_cell HX.out 4; have x5 := blk_cell HX.out 5; simp at x0 x1 x2 x3 x4 x5))
  go_ret
  exact ⟨rfl, KB.out⟩
set_option maxHeartbeats 1000000 in
theorem digestOne_o2 (tag other : Int) (r : Rul) (port prio : Int) (w : World) (ht : Fit tag) (ho : Fit other) (hr : FitR8 r) (hp : Fit port) (hq : Fit prio) (hm : mayI r = true) (h1 : ¬ (tag < 1)) (h2 : ¬ (4095 < tag)) (h3 : ¬ (other < 1)) (h4 : 4095 < other) : Calls Try.prog 9 #[.int .i64 tag, .int .i64 other, rulV r, .int .i64 port, .int .i64 prio] w fun e w' => e = .returned (.bool true) ∧ Below w.heap.size w w' := by
  have d1 : decide (tag < 1) = false := decide_eq_false h1
  have d2 : decide (4095 < tag) = false := decide_eq_false h2
  have d3 : decide (other < 1) = false := decide_eq_false h3
  have d4 : decide (4095 < other) = true := decide_eq_true h4
  have HM := Aside.mk hm
  clear hm ht ho hr hp hq h1 h2 h3 h4
  have KB := Aside.mk (below_alloc (Below.refl _ w) (.cells #[.int .i64 r.addr, .int .i64 r.len, .int .i64 r.inn, .int .i64 r.prio, .int .i64 r.kind, .int .i64 r.port] 33)); have HX := Aside.mk (heapN w (.cells #[.int .i64 r.addr, .int .i64 r.len, .int .i64 r.inn, .int .i64 r.prio, .int .i64 r.kind, .int .i64 r.port] 33) rfl)
  go_enter Try.func9, Try.ntmps9
  go_wp2_with (first | (go_at_call 23; refine (awake10_any _).mono ?_; rintro e w1 ⟨rfl, hb1⟩; have KB := Aside.mk (below_call KB.out hb1); have HX := Aside.mk (blk_keep HX.out hb1); clear hb1; have hlt4 := blk_lt HX.out; have x0 := blk_cell HX.out 0; have x1 := blk_cell HX.out 1; have x2 := blk_cell HX.out 2; have x3 := blk_cell HX.out 3; have x4 := blk_cell HX.out 4; have x5 := blk_cell HX.out 5; simp at x0 x1 x2 x3 x4 x5) | (go_at_call 22; refine (may_any8 r _).mono ?_; rw [HM.out]; rintro e w2 ⟨rfl, hb1⟩; clear x0 x1 x2 x3 x4 x5 hlt4; have KB := Aside.mk (below_call KB.out hb1); have HX := Aside.mk (blk_keep HX.out hb1); clear hb1; have hlt4 := blk_lt HX.out; have x0 := blk_cell HX.out 0; have x1 := blk_cell HX.out 1; have x2 := blk_cell HX.out 2; have x3 := blk_cell HX.out 3; have x4 := blk_cell HX.out 4; have x5 := blk_cell HX.out 5; simp at x0 x1 x2 x3 x4 x5))
  go_ret
  exact ⟨rfl, KB.out⟩
set_option maxHeartbeats 1000000 in
theorem digestOne_q1 (tag other : Int) (r : Rul) (port prio : Int) (w : World) (ht : Fit tag) (ho : Fit other) (hr : FitR8 r) (hp : Fit port) (hq : Fit prio) (hm : mayI r = true) (h1 : ¬ (tag < 1)) (h2 : ¬ (4095 < tag)) (h3 : ¬ (other < 1)) (h4 : ¬ (4095 < other)) (h5 : prio < 0) : Calls Try.prog 9 #[.int .i64 tag, .int .i64 other, rulV r, .int .i64 port, .int .i64 prio] w fun e w' => e = .returned (.bool true) ∧ Below w.heap.size w w' := by
  have d1 : decide (tag < 1) = false := decide_eq_false h1
  have d2 : decide (4095 < tag) = false := decide_eq_false h2
  have d3 : decide (other < 1) = false := decide_eq_false h3
  have d4 : decide (4095 < other) = false := decide_eq_false h4
  have d5 : decide (prio < 0) = true := decide_eq_true h5
  have HM := Aside.mk hm
  clear hm ht ho hr hp hq h1 h2 h3 h4 h5
  have KB := Aside.mk (below_alloc (Below.refl _ w) (.cells #[.int .i64 r.addr, .int .i64 r.len, .int .i64 r.inn, .int .i64 r.prio, .int .i64 r.kind, .int .i64 r.port] 33)); have HX := Aside.mk (heapN w (.cells #[.int .i64 r.addr, .int .i64 r.len, .int .i64 r.inn, .int .i64 r.prio, .int .i64 r.kind, .int .i64 r.port] 33) rfl)
  go_enter Try.func9, Try.ntmps9
  go_wp2_with (first | (go_at_call 23; refine (awake10_any _).mono ?_; rintro e w1 ⟨rfl, hb1⟩; have KB := Aside.mk (below_call KB.out hb1); have HX := Aside.mk (blk_keep HX.out hb1); clear hb1; have hlt4 := blk_lt HX.out; have x0 := blk_cell HX.out 0; have x1 := blk_cell HX.out 1; have x2 := blk_cell HX.out 2; have x3 := blk_cell HX.out 3; have x4 := blk_cell HX.out 4; have x5 := blk_cell HX.out 5; simp at x0 x1 x2 x3 x4 x5) | (go_at_call 22; refine (may_any8 r _).mono ?_; rw [HM.out]; rintro e w2 ⟨rfl, hb1⟩; clear x0 x1 x2 x3 x4 x5 hlt4; have KB := Aside.mk (below_call KB.out hb1); have HX := Aside.mk (blk_keep HX.out hb1); clear hb1; have hlt4 := blk_lt HX.out; have x0 := blk_cell HX.out 0; have x1 := blk_cell HX.out 1; have x2 := blk_cell HX.out 2; have x3 := blk_cell HX.out 3; have x4 := blk_cell HX.out 4; have x5 := blk_cell HX.out 5; simp at x0 x1 x2 x3 x4 x5))
  go_ret
  exact ⟨rfl, KB.out⟩
set_option maxHeartbeats 1000000 in
theorem digestOne_q2 (tag other : Int) (r : Rul) (port prio : Int) (w : World) (ht : Fit tag) (ho : Fit other) (hr : FitR8 r) (hp : Fit port) (hq : Fit prio) (hm : mayI r = true) (h1 : ¬ (tag < 1)) (h2 : ¬ (4095 < tag)) (h3 : ¬ (other < 1)) (h4 : ¬ (4095 < other)) (h5 : ¬ (prio < 0)) (h6 : 255 < prio) : Calls Try.prog 9 #[.int .i64 tag, .int .i64 other, rulV r, .int .i64 port, .int .i64 prio] w fun e w' => e = .returned (.bool true) ∧ Below w.heap.size w w' := by
  have d1 : decide (tag < 1) = false := decide_eq_false h1
  have d2 : decide (4095 < tag) = false := decide_eq_false h2
  have d3 : decide (other < 1) = false := decide_eq_false h3
  have d4 : decide (4095 < other) = false := decide_eq_false h4
  have d5 : decide (prio < 0) = false := decide_eq_false h5
  have d6 : decide (255 < prio) = true := decide_eq_true h6
  have HM := Aside.mk hm
  clear hm ht ho hr hp hq h1 h2 h3 h4 h5 h6
  have KB := Aside.mk (below_alloc (Below.refl _ w) (.cells #[.int .i64 r.addr, .int .i64 r.len, .int .i64 r.inn, .int .i64 r.prio, .int .i64 r.kind, .int .i64 r.port] 33)); have HX := Aside.mk (heapN w (.cells #[.int .i64 r.addr, .int .i64 r.len, .int .i64 r.inn, .int .i64 r.prio, .int .i64 r.kind, .int .i64 r.port] 33) rfl)
  go_enter Try.func9, Try.ntmps9
  go_wp2_with (first | (go_at_call 23; refine (awake10_any _).mono ?_; rintro e w1 ⟨rfl, hb1⟩; have KB := Aside.mk (below_call KB.out hb1); have HX := Aside.mk (blk_keep HX.out hb1); clear hb1; have hlt4 := blk_lt HX.out; have x0 := blk_cell HX.out 0; have x1 := blk_cell HX.out 1; have x2 := blk_cell HX.out 2; have x3 := blk_cell HX.out 3; have x4 := blk_cell HX.out 4; have x5 := blk_cell HX.out 5; simp at x0 x1 x2 x3 x4 x5) | (go_at_call 22; refine (may_any8 r _).mono ?_; rw [HM.out]; rintro e w2 ⟨rfl, hb1⟩; clear x0 x1 x2 x3 x4 x5 hlt4; have KB := Aside.mk (below_call KB.out hb1); have HX := Aside.mk (blk_keep HX.out hb1); clear hb1; have hlt4 := blk_lt HX.out; have x0 := blk_cell HX.out 0; have x1 := blk_cell HX.out 1; have x2 := blk_cell HX.out 2; have x3 := blk_cell HX.out 3; have x4 := blk_cell HX.out 4; have x5 := blk_cell HX.out 5; simp at x0 x1 x2 x3 x4 x5))
  go_ret
  exact ⟨rfl, KB.out⟩
set_option maxHeartbeats 1000000 in
theorem digestOne_p1 (tag other : Int) (r : Rul) (port prio : Int) (w : World) (ht : Fit tag) (ho : Fit other) (hr : FitR8 r) (hp : Fit port) (hq : Fit prio) (hm : mayI r = true) (h1 : ¬ (tag < 1)) (h2 : ¬ (4095 < tag)) (h3 : ¬ (other < 1)) (h4 : ¬ (4095 < other)) (h5 : ¬ (prio < 0)) (h6 : ¬ (255 < prio)) (h7 : port < 0) : Calls Try.prog 9 #[.int .i64 tag, .int .i64 other, rulV r, .int .i64 port, .int .i64 prio] w fun e w' => e = .returned (.bool true) ∧ Below w.heap.size w w' := by
  have d1 : decide (tag < 1) = false := decide_eq_false h1
  have d2 : decide (4095 < tag) = false := decide_eq_false h2
  have d3 : decide (other < 1) = false := decide_eq_false h3
  have d4 : decide (4095 < other) = false := decide_eq_false h4
  have d5 : decide (prio < 0) = false := decide_eq_false h5
  have d6 : decide (255 < prio) = false := decide_eq_false h6
  have d7 : decide (port < 0) = true := decide_eq_true h7
  have HM := Aside.mk hm
  clear hm ht ho hr hp hq h1 h2 h3 h4 h5 h6 h7
  have KB := Aside.mk (below_alloc (Below.refl _ w) (.cells #[.int .i64 r.addr, .int .i64 r.len, .int .i64 r.inn, .int .i64 r.prio, .int .i64 r.kind, .int .i64 r.port] 33)); have HX := Aside.mk (heapN w (.cells #[.int .i64 r.addr, .int .i64 r.len, .int .i64 r.inn, .int .i64 r.prio, .int .i64 r.kind, .int .i64 r.port] 33) rfl)
  go_enter Try.func9, Try.ntmps9
  go_wp2_with (first | (go_at_call 23; refine (awake10_any _).mono ?_; rintro e w1 ⟨rfl, hb1⟩; have KB := Aside.mk (below_call KB.out hb1); have HX := Aside.mk (blk_keep HX.out hb1); clear hb1; have hlt4 := blk_lt HX.out; have x0 := blk_cell HX.out 0; have x1 := blk_cell HX.out 1; have x2 := blk_cell HX.out 2; have x3 := blk_cell HX.out 3; have x4 := blk_cell HX.out 4; have x5 := blk_cell HX.out 5; simp at x0 x1 x2 x3 x4 x5) | (go_at_call 22; refine (may_any8 r _).mono ?_; rw [HM.out]; rintro e w2 ⟨rfl, hb1⟩; clear x0 x1 x2 x3 x4 x5 hlt4; have KB := Aside.mk (below_call KB.out hb1); have HX := Aside.mk (blk_keep HX.out hb1); clear hb1; have hlt4 := blk_lt HX.out; have x0 := blk_cell HX.out 0; have x1 := blk_cell HX.out 1; have x2 := blk_cell HX.out 2; have x3 := blk_cell HX.out 3; have x4 := blk_cell HX.out 4; have x5 := blk_cell HX.out 5; simp at x0 x1 x2 x3 x4 x5))
  go_ret
  exact ⟨rfl, KB.out⟩
set_option maxHeartbeats 1000000 in
theorem digestOne_p2 (tag other : Int) (r : Rul) (port prio : Int) (w : World) (ht : Fit tag) (ho : Fit other) (hr : FitR8 r) (hp : Fit port) (hq : Fit prio) (hm : mayI r = true) (h1 : ¬ (tag < 1)) (h2 : ¬ (4095 < tag)) (h3 : ¬ (other < 1)) (h4 : ¬ (4095 < other)) (h5 : ¬ (prio < 0)) (h6 : ¬ (255 < prio)) (h7 : ¬ (port < 0)) (h8 : 7 < port) : Calls Try.prog 9 #[.int .i64 tag, .int .i64 other, rulV r, .int .i64 port, .int .i64 prio] w fun e w' => e = .returned (.bool true) ∧ Below w.heap.size w w' := by
  have d1 : decide (tag < 1) = false := decide_eq_false h1
  have d2 : decide (4095 < tag) = false := decide_eq_false h2
  have d3 : decide (other < 1) = false := decide_eq_false h3
  have d4 : decide (4095 < other) = false := decide_eq_false h4
  have d5 : decide (prio < 0) = false := decide_eq_false h5
  have d6 : decide (255 < prio) = false := decide_eq_false h6
  have d7 : decide (port < 0) = false := decide_eq_false h7
  have d8 : decide (7 < port) = true := decide_eq_true h8
  have HM := Aside.mk hm
  clear hm ht ho hr hp hq h1 h2 h3 h4 h5 h6 h7 h8
  have KB := Aside.mk (below_alloc (Below.refl _ w) (.cells #[.int .i64 r.addr, .int .i64 r.len, .int .i64 r.inn, .int .i64 r.prio, .int .i64 r.kind, .int .i64 r.port] 33)); have HX := Aside.mk (heapN w (.cells #[.int .i64 r.addr, .int .i64 r.len, .int .i64 r.inn, .int .i64 r.prio, .int .i64 r.kind, .int .i64 r.port] 33) rfl)
  go_enter Try.func9, Try.ntmps9
  go_wp2_with (first | (go_at_call 23; refine (awake10_any _).mono ?_; rintro e w1 ⟨rfl, hb1⟩; have KB := Aside.mk (below_call KB.out hb1); have HX := Aside.mk (blk_keep HX.out hb1); clear hb1; have hlt4 := blk_lt HX.out; have x0 := blk_cell HX.out 0; have x1 := blk_cell HX.out 1; have x2 := blk_cell HX.out 2; have x3 := blk_cell HX.out 3; have x4 := blk_cell HX.out 4; have x5 := blk_cell HX.out 5; simp at x0 x1 x2 x3 x4 x5) | (go_at_call 22; refine (may_any8 r _).mono ?_; rw [HM.out]; rintro e w2 ⟨rfl, hb1⟩; clear x0 x1 x2 x3 x4 x5 hlt4; have KB := Aside.mk (below_call KB.out hb1); have HX := Aside.mk (blk_keep HX.out hb1); clear hb1; have hlt4 := blk_lt HX.out; have x0 := blk_cell HX.out 0; have x1 := blk_cell HX.out 1; have x2 := blk_cell HX.out 2; have x3 := blk_cell HX.out 3; have x4 := blk_cell HX.out 4; have x5 := blk_cell HX.out 5; simp at x0 x1 x2 x3 x4 x5))
  go_ret
  exact ⟨rfl, KB.out⟩
theorem digestOne_walk (tag other : Int) (r : Rul) (port prio : Int) (w : World) (ht : Fit tag) (ho : Fit other) (hr : FitR8 r) (hp : Fit port) (hq : Fit prio) : Calls Try.prog 9 #[.int .i64 tag, .int .i64 other, rulV r, .int .i64 port, .int .i64 prio] w fun e w' => e = .returned (.bool true) ∧ Below w.heap.size w w' := by
  cases hm : mayI r
  · exact digestOne_not tag other r port prio w ht ho hr hp hq hm
  by_cases h1 : tag < 1
  · exact digestOne_t1 tag other r port prio w ht ho hr hp hq hm h1
  by_cases h2 : 4095 < tag
  · exact digestOne_t2 tag other r port prio w ht ho hr hp hq hm h1 h2
  by_cases h3 : other < 1
  · exact digestOne_o1 tag other r port prio w ht ho hr hp hq hm h1 h2 h3
  by_cases h4 : 4095 < other
  · exact digestOne_o2 tag other r port prio w ht ho hr hp hq hm h1 h2 h3 h4
  by_cases h5 : prio < 0
  · exact digestOne_q1 tag other r port prio w ht ho hr hp hq hm h1 h2 h3 h4 h5
  by_cases h6 : 255 < prio
  · exact digestOne_q2 tag other r port prio w ht ho hr hp hq hm h1 h2 h3 h4 h5 h6
  by_cases h7 : port < 0
  · exact digestOne_p1 tag other r port prio w ht ho hr hp hq hm h1 h2 h3 h4 h5 h6 h7
  by_cases h8 : 7 < port
  · exact digestOne_p2 tag other r port prio w ht ho hr hp hq hm h1 h2 h3 h4 h5 h6 h7 h8
  by_cases hk : r.kind = 1
  · exact digestOne_fwd tag other r port prio w ht ho hr hp hq hm h1 h2 h3 h4 h5 h6 h7 h8 hk
  · exact digestOne_oth tag other r port prio w ht ho hr hp hq hm h1 h2 h3 h4 h5 h6 h7 h8 hk
end Go.Proofs.Ytlpobpciiaofeaa
