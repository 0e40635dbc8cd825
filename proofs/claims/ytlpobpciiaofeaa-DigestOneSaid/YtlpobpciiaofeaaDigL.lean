/- The walk through DigestMore. -/
import Derived.Test.YtlpobpciiaofeaaDigK
namespace Go.Proofs.Ytlpobpciiaofeaa
open Go.RowKit
set_option maxRecDepth 100000
theorem of1_any (tag : Int) (r : Rul) (g : Nat) (w : World) (hl : Rd rulF.kd w (some ⟨g, 0, none⟩) 1 [r]) (ht : Fit tag) :
    Calls Try.prog 25 #[.int .i64 tag, .slice (some ⟨g, 0, none⟩) 1 1] w fun e w' => e = .returned (.int .i64 (ofP tag [r])) ∧ Below w.heap.size w w' :=
  of_any tag [r] (some ⟨g, 0, none⟩) 1 w hl (fun h => by cases h) (by simp) ht
theorem of2_any (tag : Int) (r s : Rul) (g : Nat) (w : World) (hl : Rd rulF.kd w (some ⟨g, 0, none⟩) 2 [r, s]) (ht : Fit tag) :
    Calls Try.prog 25 #[.int .i64 tag, .slice (some ⟨g, 0, none⟩) 2 2] w fun e w' => e = .returned (.int .i64 (ofP tag [r, s])) ∧ Below w.heap.size w w' :=
  of_any tag [r, s] (some ⟨g, 0, none⟩) 2 w hl (fun h => by cases h) (by simp) ht
def dmaB (r s : Rul) (tag N M : Int) (b4 b8 : Nat) (wr : World) (w' : World) : Prop :=
  Below wr.heap.size wr w'
def dmaF (r s : Rul) (tag N M : Int) (b4 b8 : Nat) (wr : World) : List (Value → Value → World → Prop) :=
  [fun _ v _ => v = .int .i64 tag,
   fun _ v _ => v = rulV r,
   fun _ v w' => ∃ g, v = .slice (some ⟨g, 0, none⟩) 1 1 ∧ Rd rulF.kd w' (some ⟨g, 0, none⟩) 1 [r],
   fun _ v _ => v = .int .i64 N,
   fun _ v _ => v = .int .i64 tag,
   fun _ v _ => v = rulV r,
   fun _ v _ => v = rulV s,
   fun _ v w' => ∃ g, v = .slice (some ⟨g, 0, none⟩) 2 2 ∧ Rd rulF.kd w' (some ⟨g, 0, none⟩) 2 [r, s],
   fun _ v _ => v = .int .i64 M,
   fun _ v _ => v = .bool true,
   fun _ v _ => v = .bool true]
def dmaQ : Nat → Nat := fun i => i
theorem dmaF_stay (r s : Rul) (tag N M : Int) (b4 b8 : Nat) (wr : World) : AllStay (dmaF r s tag N M b4 b8 wr) := by
  intro F hF u v w' w'' hb h
  simp only [dmaF, List.mem_cons, List.not_mem_nil, or_false] at hF
  rcases hF with rfl | rfl | rfl | rfl | rfl | rfl | rfl | rfl | rfl | rfl | rfl
  · exact h
  · exact h
  · obtain ⟨g, e, hr⟩ := h
    exact ⟨g, e, hr.below hb⟩
  · exact h
  · exact h
  · exact h
  · exact h
  · obtain ⟨g, e, hr⟩ := h
    exact ⟨g, e, hr.below hb⟩
  · exact h
  · exact h
  · exact h
theorem dmaB_stay (r s : Rul) (tag N M : Int) (b4 b8 : Nat) (wr : World) : Stays (dmaB r s tag N M b4 b8 wr) := by
  intro w' w'' hb h
  exact below_call h hb
set_option maxHeartbeats 1000000 in
theorem digestMore_not (tag : Int) (r : Rul) (port : Int) (w : World) (ht : Fit tag) (hr : FitR8 r) (hp : Fit port) (hm : mayI r = false) : Calls Try.prog 11 #[.int .i64 tag, rulV r, .int .i64 port] w fun e w' => e = .returned (.bool true) ∧ Below w.heap.size w w' := by
  have HM := Aside.mk hm
  clear hm ht hr hp
  have KB := Aside.mk (below_alloc (Below.refl _ w) (.cells #[.int .i64 r.addr, .int .i64 r.len, .int .i64 r.inn, .int .i64 r.prio, .int .i64 r.kind, .int .i64 r.port] 33)); have HX := Aside.mk (heapN w (.cells #[.int .i64 r.addr, .int .i64 r.len, .int .i64 r.inn, .int .i64 r.prio, .int .i64 r.kind, .int .i64 r.port] 33) rfl)
  go_enter Try.func11, Try.ntmps11
  go_wp2_with (first | (go_at_call 23; refine (awake10_any _).mono ?_; rintro e w1 ⟨rfl, hb1⟩; have KB := Aside.mk (below_call KB.out hb1); have HX := Aside.mk (blk_keep HX.out hb1); clear hb1; have hlt4 := blk_lt HX.out; have x0 := blk_cell HX.out 0; have x1 := blk_cell HX.out 1; have x2 := blk_cell HX.out 2; have x3 := blk_cell HX.out 3; have x4 := blk_cell HX.out 4; have x5 := blk_cell HX.out 5; simp at x0 x1 x2 x3 x4 x5) | (go_at_call 22; refine (may_any8 r _).mono ?_; rw [HM.out]; rintro e w2 ⟨rfl, hb1⟩; clear x0 x1 x2 x3 x4 x5 hlt4; have KB := Aside.mk (below_call KB.out hb1); have HX := Aside.mk (blk_keep HX.out hb1); clear hb1; have hlt4 := blk_lt HX.out; have x0 := blk_cell HX.out 0; have x1 := blk_cell HX.out 1; have x2 := blk_cell HX.out 2; have x3 := blk_cell HX.out 3; have x4 := blk_cell HX.out 4; have x5 := blk_cell HX.out 5; simp at x0 x1 x2 x3 x4 x5))
  go_ret
  exact ⟨rfl, KB.out⟩
set_option maxHeartbeats 1000000 in
theorem digestMore_t1 (tag : Int) (r : Rul) (port : Int) (w : World) (ht : Fit tag) (hr : FitR8 r) (hp : Fit port) (hm : mayI r = true) (h1 : tag < 1) : Calls Try.prog 11 #[.int .i64 tag, rulV r, .int .i64 port] w fun e w' => e = .returned (.bool true) ∧ Below w.heap.size w w' := by
  have d1 : decide (tag < 1) = true := decide_eq_true h1
  have HM := Aside.mk hm
  clear hm ht hr hp h1
  have KB := Aside.mk (below_alloc (Below.refl _ w) (.cells #[.int .i64 r.addr, .int .i64 r.len, .int .i64 r.inn, .int .i64 r.prio, .int .i64 r.kind, .int .i64 r.port] 33)); have HX := Aside.mk (heapN w (.cells #[.int .i64 r.addr, .int .i64 r.len, .int .i64 r.inn, .int .i64 r.prio, .int .i64 r.kind, .int .i64 r.port] 33) rfl)
  go_enter Try.func11, Try.ntmps11
  go_wp2_with (first | (go_at_call 23; refine (awake10_any _).mono ?_; rintro e w1 ⟨rfl, hb1⟩; have KB := Aside.mk (below_call KB.out hb1); have HX := Aside.mk (blk_keep HX.out hb1); clear hb1; have hlt4 := blk_lt HX.out; have x0 := blk_cell HX.out 0; have x1 := blk_cell HX.out 1; have x2 := blk_cell HX.out 2; have x3 := blk_cell HX.out 3; have x4 := blk_cell HX.out 4; have x5 := blk_cell HX.out 5; simp at x0 x1 x2 x3 x4 x5) | (go_at_call 22; refine (may_any8 r _).mono ?_; rw [HM.out]; rintro e w2 ⟨rfl, hb1⟩; clear x0 x1 x2 x3 x4 x5 hlt4; have KB := Aside.mk (below_call KB.out hb1); have HX := Aside.mk (blk_keep HX.out hb1); clear hb1; have hlt4 := blk_lt HX.out; have x0 := blk_cell HX.out 0; have x1 := blk_cell HX.out 1; have x2 := blk_cell HX.out 2; have x3 := blk_cell HX.out 3; have x4 := blk_cell HX.out 4; have x5 := blk_cell HX.out 5; simp at x0 x1 x2 x3 x4 x5))
  go_ret
  exact ⟨rfl, KB.out⟩
set_option maxHeartbeats 1000000 in
theorem digestMore_t2 (tag : Int) (r : Rul) (port : Int) (w : World) (ht : Fit tag) (hr : FitR8 r) (hp : Fit port) (hm : mayI r = true) (h1 : ¬ tag < 1) (h2 : 100 < tag) : Calls Try.prog 11 #[.int .i64 tag, rulV r, .int .i64 port] w fun e w' => e = .returned (.bool true) ∧ Below w.heap.size w w' := by
  have d1 : decide (tag < 1) = false := decide_eq_false h1
  have d2 : decide (100 < tag) = true := decide_eq_true h2
  have HM := Aside.mk hm
  clear hm ht hr hp h1 h2
  have KB := Aside.mk (below_alloc (Below.refl _ w) (.cells #[.int .i64 r.addr, .int .i64 r.len, .int .i64 r.inn, .int .i64 r.prio, .int .i64 r.kind, .int .i64 r.port] 33)); have HX := Aside.mk (heapN w (.cells #[.int .i64 r.addr, .int .i64 r.len, .int .i64 r.inn, .int .i64 r.prio, .int .i64 r.kind, .int .i64 r.port] 33) rfl)
  go_enter Try.func11, Try.ntmps11
  go_wp2_with (first | (go_at_call 23; refine (awake10_any _).mono ?_; rintro e w1 ⟨rfl, hb1⟩; have KB := Aside.mk (below_call KB.out hb1); have HX := Aside.mk (blk_keep HX.out hb1); clear hb1; have hlt4 := blk_lt HX.out; have x0 := blk_cell HX.out 0; have x1 := blk_cell HX.out 1; have x2 := blk_cell HX.out 2; have x3 := blk_cell HX.out 3; have x4 := blk_cell HX.out 4; have x5 := blk_cell HX.out 5; simp at x0 x1 x2 x3 x4 x5) | (go_at_call 22; refine (may_any8 r _).mono ?_; rw [HM.out]; rintro e w2 ⟨rfl, hb1⟩; clear x0 x1 x2 x3 x4 x5 hlt4; have KB := Aside.mk (below_call KB.out hb1); have HX := Aside.mk (blk_keep HX.out hb1); clear hb1; have hlt4 := blk_lt HX.out; have x0 := blk_cell HX.out 0; have x1 := blk_cell HX.out 1; have x2 := blk_cell HX.out 2; have x3 := blk_cell HX.out 3; have x4 := blk_cell HX.out 4; have x5 := blk_cell HX.out 5; simp at x0 x1 x2 x3 x4 x5))
  go_ret
  exact ⟨rfl, KB.out⟩
set_option maxHeartbeats 1000000 in
theorem digestMore_pf (tag : Int) (r : Rul) (port : Int) (w : World) (ht : Fit tag) (hr : FitR8 r) (hp : Fit port) (hm : mayI r = true) (h1 : ¬ tag < 1) (h2 : ¬ 100 < tag) (h3 : ¬ (r.addr = 0 ∧ r.len = 0)) : Calls Try.prog 11 #[.int .i64 tag, rulV r, .int .i64 port] w fun e w' => e = .returned (.bool true) ∧ Below w.heap.size w w' := by
  have d1 : decide (tag < 1) = false := decide_eq_false h1
  have d2 : decide (100 < tag) = false := decide_eq_false h2
  have d3 : (decide (r.addr = 0) && decide (r.len = 0)) = false := by simpa using h3
  have hq := eqPfx
  have HM := Aside.mk hm
  clear hm ht hr hp h1 h2 h3
  have KB := Aside.mk (below_alloc (Below.refl _ w) (.cells #[.int .i64 r.addr, .int .i64 r.len, .int .i64 r.inn, .int .i64 r.prio, .int .i64 r.kind, .int .i64 r.port] 33)); have HX := Aside.mk (heapN w (.cells #[.int .i64 r.addr, .int .i64 r.len, .int .i64 r.inn, .int .i64 r.prio, .int .i64 r.kind, .int .i64 r.port] 33) rfl)
  go_enter Try.func11, Try.ntmps11
  go_wp2_with (first | (go_at_call 23; refine (awake10_any _).mono ?_; rintro e w1 ⟨rfl, hb1⟩; have KB := Aside.mk (below_call KB.out hb1); have HX := Aside.mk (blk_keep HX.out hb1); clear hb1; have hlt4 := blk_lt HX.out; have x0 := blk_cell HX.out 0; have x1 := blk_cell HX.out 1; have x2 := blk_cell HX.out 2; have x3 := blk_cell HX.out 3; have x4 := blk_cell HX.out 4; have x5 := blk_cell HX.out 5; simp at x0 x1 x2 x3 x4 x5) | (go_at_call 22; refine (may_any8 r _).mono ?_; rw [HM.out]; rintro e w2 ⟨rfl, hb1⟩; clear x0 x1 x2 x3 x4 x5 hlt4; have KB := Aside.mk (below_call KB.out hb1); have HX := Aside.mk (blk_keep HX.out hb1); clear hb1; have hlt4 := blk_lt HX.out; have x0 := blk_cell HX.out 0; have x1 := blk_cell HX.out 1; have x2 := blk_cell HX.out 2; have x3 := blk_cell HX.out 3; have x4 := blk_cell HX.out 4; have x5 := blk_cell HX.out 5; simp at x0 x1 x2 x3 x4 x5))
  go_ret
  exact ⟨rfl, KB.out⟩
set_option maxHeartbeats 1000000 in
theorem digestMore_p1 (tag : Int) (r : Rul) (port : Int) (w : World) (ht : Fit tag) (hr : FitR8 r) (hp : Fit port) (hm : mayI r = true) (h1 : ¬ tag < 1) (h2 : ¬ 100 < tag) (h3 : r.addr = 0 ∧ r.len = 0) (h4 : port < 1) : Calls Try.prog 11 #[.int .i64 tag, rulV r, .int .i64 port] w fun e w' => e = .returned (.bool true) ∧ Below w.heap.size w w' := by
  have d1 : decide (tag < 1) = false := decide_eq_false h1
  have d2 : decide (100 < tag) = false := decide_eq_false h2
  have d3 : (decide (r.addr = 0) && decide (r.len = 0)) = true := by simpa using h3
  have d4 : decide (port < 1) = true := decide_eq_true h4
  have hq := eqPfx
  have HM := Aside.mk hm
  clear hm ht hr hp h1 h2 h3 h4
  have KB := Aside.mk (below_alloc (Below.refl _ w) (.cells #[.int .i64 r.addr, .int .i64 r.len, .int .i64 r.inn, .int .i64 r.prio, .int .i64 r.kind, .int .i64 r.port] 33)); have HX := Aside.mk (heapN w (.cells #[.int .i64 r.addr, .int .i64 r.len, .int .i64 r.inn, .int .i64 r.prio, .int .i64 r.kind, .int .i64 r.port] 33) rfl)
  go_enter Try.func11, Try.ntmps11
  go_wp2_with (first | (go_at_call 23; refine (awake10_any _).mono ?_; rintro e w1 ⟨rfl, hb1⟩; have KB := Aside.mk (below_call KB.out hb1); have HX := Aside.mk (blk_keep HX.out hb1); clear hb1; have hlt4 := blk_lt HX.out; have x0 := blk_cell HX.out 0; have x1 := blk_cell HX.out 1; have x2 := blk_cell HX.out 2; have x3 := blk_cell HX.out 3; have x4 := blk_cell HX.out 4; have x5 := blk_cell HX.out 5; simp at x0 x1 x2 x3 x4 x5) | (go_at_call 22; refine (may_any8 r _).mono ?_; rw [HM.out]; rintro e w2 ⟨rfl, hb1⟩; clear x0 x1 x2 x3 x4 x5 hlt4; have KB := Aside.mk (below_call KB.out hb1); have HX := Aside.mk (blk_keep HX.out hb1); clear hb1; have hlt4 := blk_lt HX.out; have x0 := blk_cell HX.out 0; have x1 := blk_cell HX.out 1; have x2 := blk_cell HX.out 2; have x3 := blk_cell HX.out 3; have x4 := blk_cell HX.out 4; have x5 := blk_cell HX.out 5; simp at x0 x1 x2 x3 x4 x5))
  go_ret
  exact ⟨rfl, KB.out⟩
set_option maxHeartbeats 1000000 in
theorem digestMore_p2 (tag : Int) (r : Rul) (port : Int) (w : World) (ht : Fit tag) (hr : FitR8 r) (hp : Fit port) (hm : mayI r = true) (h1 : ¬ tag < 1) (h2 : ¬ 100 < tag) (h3 : r.addr = 0 ∧ r.len = 0) (h4 : ¬ port < 1) (h5 : 7 < port) : Calls Try.prog 11 #[.int .i64 tag, rulV r, .int .i64 port] w fun e w' => e = .returned (.bool true) ∧ Below w.heap.size w w' := by
  have d1 : decide (tag < 1) = false := decide_eq_false h1
  have d2 : decide (100 < tag) = false := decide_eq_false h2
  have d3 : (decide (r.addr = 0) && decide (r.len = 0)) = true := by simpa using h3
  have d4 : decide (port < 1) = false := decide_eq_false h4
  have d5 : decide (7 < port) = true := decide_eq_true h5
  have hq := eqPfx
  have HM := Aside.mk hm
  clear hm ht hr hp h1 h2 h3 h4 h5
  have KB := Aside.mk (below_alloc (Below.refl _ w) (.cells #[.int .i64 r.addr, .int .i64 r.len, .int .i64 r.inn, .int .i64 r.prio, .int .i64 r.kind, .int .i64 r.port] 33)); have HX := Aside.mk (heapN w (.cells #[.int .i64 r.addr, .int .i64 r.len, .int .i64 r.inn, .int .i64 r.prio, .int .i64 r.kind, .int .i64 r.port] 33) rfl)
  go_enter Try.func11, Try.ntmps11
  go_wp2_with (first | (go_at_call 23; refine (awake10_any _).mono ?_; rintro e w1 ⟨rfl, hb1⟩; have KB := Aside.mk (below_call KB.out hb1); have HX := Aside.mk (blk_keep HX.out hb1); clear hb1; have hlt4 := blk_lt HX.out; have x0 := blk_cell HX.out 0; have x1 := blk_cell HX.out 1; have x2 := blk_cell HX.out 2; have x3 := blk_cell HX.out 3; have x4 := blk_cell HX.out 4; have x5 := blk_cell HX.out 5; simp at x0 x1 x2 x3 x4 x5) | (go_at_call 22; refine (may_any8 r _).mono ?_; rw [HM.out]; rintro e w2 ⟨rfl, hb1⟩; clear x0 x1 x2 x3 x4 x5 hlt4; have KB := Aside.mk (below_call KB.out hb1); have HX := Aside.mk (blk_keep HX.out hb1); clear hb1; have hlt4 := blk_lt HX.out; have x0 := blk_cell HX.out 0; have x1 := blk_cell HX.out 1; have x2 := blk_cell HX.out 2; have x3 := blk_cell HX.out 3; have x4 := blk_cell HX.out 4; have x5 := blk_cell HX.out 5; simp at x0 x1 x2 x3 x4 x5))
  go_ret
  exact ⟨rfl, KB.out⟩
set_option maxHeartbeats 1000000 in
theorem digestMore_main (tag : Int) (r : Rul) (port : Int) (w : World) (ht : Fit tag) (hr : FitR8 r) (hp : Fit port) (hm : mayI r = true) (h1 : ¬ tag < 1) (h2 : ¬ 100 < tag) (h3 : r.addr = 0 ∧ r.len = 0) (h4 : ¬ port < 1) (h5 : ¬ 7 < port) : Calls Try.prog 11 #[.int .i64 tag, rulV r, .int .i64 port] w fun e w' => e = .returned (.bool true) ∧ Below w.heap.size w w' := by
  have d1 : decide (tag < 1) = false := decide_eq_false h1
  have d2 : decide (100 < tag) = false := decide_eq_false h2
  have d3 : (decide (r.addr = 0) && decide (r.len = 0)) = true := by simpa using h3
  have d4 : decide (port < 1) = false := decide_eq_false h4
  have d5 : decide (7 < port) = false := decide_eq_false h5
  have hq := eqPfx
  have hb := mayI_bounds hm
  have q0 : 0 ≤ r.prio := hb.2.2.2.2.2.2.1
  have q1 : r.prio ≤ 255 := hb.2.2.2.2.2.2.2.1
  have hne := more_ne (prio := (r.prio + 1) % 256) hm h3 (by omega) (by omega) (tag := tag) (port := port) (by omega) (by omega) (by omega) (by omega)
  obtain ⟨s, hs⟩ : ∃ s : Rul, s = { r with prio := (r.prio + 1) % 256, kind := 1, port := port } := ⟨_, rfl⟩
  rw [← hs] at hne
  obtain ⟨N, hN⟩ : ∃ N, ofP tag [r] = N := ⟨_, rfl⟩
  obtain ⟨M, hM⟩ : ∃ M, ofP tag [r, s] = M := ⟨_, rfl⟩
  rw [hN, hM] at hne
  have HNE := Aside.mk hN
  have HME := Aside.mk hM
  have HSS := Aside.mk hs
  have HT := Aside.mk ht
  have hnm : (N != M) = true := by simpa using hne
  have HM := Aside.mk hm
  clear hm ht hr hp h1 h2 h3 h4 h5 hb hne hN hM hs
  have KB := Aside.mk (below_alloc (Below.refl _ w) (.cells #[.int .i64 r.addr, .int .i64 r.len, .int .i64 r.inn, .int .i64 r.prio, .int .i64 r.kind, .int .i64 r.port] 33)); have HX := Aside.mk (heapN w (.cells #[.int .i64 r.addr, .int .i64 r.len, .int .i64 r.inn, .int .i64 r.prio, .int .i64 r.kind, .int .i64 r.port] 33) rfl)
  go_enter Try.func11, Try.ntmps11
  go_wp2_with (first | (go_at_call 23; refine (awake10_any _).mono ?_; rintro e w1 ⟨rfl, hb1⟩; have KB := Aside.mk (below_call KB.out hb1); have HX := Aside.mk (blk_keep HX.out hb1); clear hb1; have hlt4 := blk_lt HX.out; have x0 := blk_cell HX.out 0; have x1 := blk_cell HX.out 1; have x2 := blk_cell HX.out 2; have x3 := blk_cell HX.out 3; have x4 := blk_cell HX.out 4; have x5 := blk_cell HX.out 5; simp at x0 x1 x2 x3 x4 x5) | (go_at_call 22; refine (may_any8 r _).mono ?_; rw [HM.out]; rintro e w2 ⟨rfl, hb1⟩; clear x0 x1 x2 x3 x4 x5 hlt4; have KB := Aside.mk (below_call KB.out hb1); have HX := Aside.mk (blk_keep HX.out hb1); clear hb1; have hlt4 := blk_lt HX.out; have x0 := blk_cell HX.out 0; have x1 := blk_cell HX.out 1; have x2 := blk_cell HX.out 2; have x3 := blk_cell HX.out 3; have x4 := blk_cell HX.out 4; have x5 := blk_cell HX.out 5; simp at x0 x1 x2 x3 x4 x5))
  have KB := Aside.mk (below_alloc KB.out (.cells #[.int .i64 r.addr, .int .i64 r.len, .int .i64 r.inn, .int .i64 ((r.prio + 1) % 256), .int .i64 1, .int .i64 port] 33))
  have H4 := heapO HX.out (.cells #[.int .i64 r.addr, .int .i64 r.len, .int .i64 r.inn, .int .i64 ((r.prio + 1) % 256), .int .i64 1, .int .i64 port] 33)
  have H8 := heapN w2 (.cells #[.int .i64 r.addr, .int .i64 r.len, .int .i64 r.inn, .int .i64 ((r.prio + 1) % 256), .int .i64 1, .int .i64 port] 33) rfl
  clear x0 x1 x2 x3 x4 x5 hlt4
  generalize w2.alloc (.cells #[.int .i64 r.addr, .int .i64 r.len, .int .i64 r.inn, .int .i64 ((r.prio + 1) % 256), .int .i64 1, .int .i64 port] 33) = wr at *
  have hx4 := blk_lt H4
  have hx8 := blk_lt H8
  have X0 := Aside.mk (show wr.cell? ⟨w.heap.size, 0, none⟩ = some (.int .i64 r.addr) by simpa using blk_cell H4 0)
  have X1 := Aside.mk (show wr.cell? ⟨w.heap.size, 1, none⟩ = some (.int .i64 r.len) by simpa using blk_cell H4 1)
  have X2 := Aside.mk (show wr.cell? ⟨w.heap.size, 2, none⟩ = some (.int .i64 r.inn) by simpa using blk_cell H4 2)
  have X3 := Aside.mk (show wr.cell? ⟨w.heap.size, 3, none⟩ = some (.int .i64 r.prio) by simpa using blk_cell H4 3)
  have X4 := Aside.mk (show wr.cell? ⟨w.heap.size, 4, none⟩ = some (.int .i64 r.kind) by simpa using blk_cell H4 4)
  have X5 := Aside.mk (show wr.cell? ⟨w.heap.size, 5, none⟩ = some (.int .i64 r.port) by simpa using blk_cell H4 5)
  have Y0 := Aside.mk (show wr.cell? ⟨w2.heap.size, 0, none⟩ = some (.int .i64 s.addr) by rw [HSS.out]; simpa using blk_cell H8 0)
  have Y1 := Aside.mk (show wr.cell? ⟨w2.heap.size, 1, none⟩ = some (.int .i64 s.len) by rw [HSS.out]; simpa using blk_cell H8 1)
  have Y2 := Aside.mk (show wr.cell? ⟨w2.heap.size, 2, none⟩ = some (.int .i64 s.inn) by rw [HSS.out]; simpa using blk_cell H8 2)
  have Y3 := Aside.mk (show wr.cell? ⟨w2.heap.size, 3, none⟩ = some (.int .i64 s.prio) by rw [HSS.out]; simpa using blk_cell H8 3)
  have Y4 := Aside.mk (show wr.cell? ⟨w2.heap.size, 4, none⟩ = some (.int .i64 s.kind) by rw [HSS.out]; simpa using blk_cell H8 4)
  have Y5 := Aside.mk (show wr.cell? ⟨w2.heap.size, 5, none⟩ = some (.int .i64 s.port) by rw [HSS.out]; simpa using blk_cell H8 5)
  clear H4 H8
  refine wp_region_facts (Base := dmaB r s tag N M w.heap.size w2.heap.size wr) (q := dmaQ) (Fs := dmaF r s tag N M w.heap.size w2.heap.size wr) (by kernel_rfl) (by kernel_rfl) (by kernel_rfl) (by kernel_rfl) (below_drew (Below.refl _ _)) ?_ ?_
  ·
    have hBs := dmaB_stay r s tag N M w.heap.size w2.heap.size wr
    have hFs := dmaF_stay r s tag N M w.heap.size w2.heap.size wr
    refine ⟨?_, ?_, ?_, ?_, ?_, ?_, ?_, ?_, ?_, ?_, ?_, trivial⟩
    · refine step_pure hBs hFs rfl fun a' w' hB hag hp => ?_
      have h0 := hag 0 (by kernel_rfl)
      simp at h0
      unfold OpYields
      go_simp
      exact ⟨Below.refl _ _, rfl⟩
    · refine step_pure hBs hFs rfl fun a' w' hB hag hp => ?_
      have h4 := hag 4 (by kernel_rfl)
      have hB : Below wr.heap.size wr w' := hB; have x0 := (hB.cell (p := ⟨w.heap.size, 0, none⟩) hx4).trans X0.out; have x1 := (hB.cell (p := ⟨w.heap.size, 1, none⟩) hx4).trans X1.out; have x2 := (hB.cell (p := ⟨w.heap.size, 2, none⟩) hx4).trans X2.out; have x3 := (hB.cell (p := ⟨w.heap.size, 3, none⟩) hx4).trans X3.out; have x4 := (hB.cell (p := ⟨w.heap.size, 4, none⟩) hx4).trans X4.out; have x5 := (hB.cell (p := ⟨w.heap.size, 5, none⟩) hx4).trans X5.out; have y0 := (hB.cell (p := ⟨w2.heap.size, 0, none⟩) hx8).trans Y0.out; have y1 := (hB.cell (p := ⟨w2.heap.size, 1, none⟩) hx8).trans Y1.out; have y2 := (hB.cell (p := ⟨w2.heap.size, 2, none⟩) hx8).trans Y2.out; have y3 := (hB.cell (p := ⟨w2.heap.size, 3, none⟩) hx8).trans Y3.out; have y4 := (hB.cell (p := ⟨w2.heap.size, 4, none⟩) hx8).trans Y4.out; have y5 := (hB.cell (p := ⟨w2.heap.size, 5, none⟩) hx8).trans Y5.out
      simp at h4
      unfold OpYields
      go_simp
      exact ⟨Below.refl _ _, rfl⟩
    · refine step_pure hBs hFs rfl fun a' w' hB hag hp => ?_
      have h50 : a'.tmps.getD 50 undef = _ := hp 1 (by kernel_rfl)
      simp at h50
      unfold OpYields
      go_simp
      exact ⟨(Below.refl _ _).alloc (Nat.le_refl _) _, _, rfl, Rd.made rulF w' _ _ _ [r] rfl (by simp)⟩
    · refine step_pure hBs hFs rfl fun a' w' hB hag hp => ?_
      have h49 : a'.tmps.getD 49 undef = _ := hp 0 (by kernel_rfl)
      have h51 := hp 2 (by kernel_rfl)
      replace h51 : _ := h51
      obtain ⟨g, hv, hr⟩ : ∃ g, a'.tmps.getD 51 undef = .slice (some ⟨g, 0, none⟩) 1 1 ∧ Rd rulF.kd w' (some ⟨g, 0, none⟩) 1 [r] := h51
      simp at hv h49
      unfold OpYields
      go_simp
      refine (of1_any tag r g w' hr HT.out).mono ?_
      rw [HNE.out]
      rintro e w1 ⟨rfl, hb⟩
      exact ⟨_, rfl, hb, rfl⟩
    · refine step_pure hBs hFs rfl fun a' w' hB hag hp => ?_
      have h0 := hag 0 (by kernel_rfl)
      simp at h0
      unfold OpYields
      go_simp
      exact ⟨Below.refl _ _, rfl⟩
    · refine step_pure hBs hFs rfl fun a' w' hB hag hp => ?_
      have h4 := hag 4 (by kernel_rfl)
      have hB : Below wr.heap.size wr w' := hB; have x0 := (hB.cell (p := ⟨w.heap.size, 0, none⟩) hx4).trans X0.out; have x1 := (hB.cell (p := ⟨w.heap.size, 1, none⟩) hx4).trans X1.out; have x2 := (hB.cell (p := ⟨w.heap.size, 2, none⟩) hx4).trans X2.out; have x3 := (hB.cell (p := ⟨w.heap.size, 3, none⟩) hx4).trans X3.out; have x4 := (hB.cell (p := ⟨w.heap.size, 4, none⟩) hx4).trans X4.out; have x5 := (hB.cell (p := ⟨w.heap.size, 5, none⟩) hx4).trans X5.out; have y0 := (hB.cell (p := ⟨w2.heap.size, 0, none⟩) hx8).trans Y0.out; have y1 := (hB.cell (p := ⟨w2.heap.size, 1, none⟩) hx8).trans Y1.out; have y2 := (hB.cell (p := ⟨w2.heap.size, 2, none⟩) hx8).trans Y2.out; have y3 := (hB.cell (p := ⟨w2.heap.size, 3, none⟩) hx8).trans Y3.out; have y4 := (hB.cell (p := ⟨w2.heap.size, 4, none⟩) hx8).trans Y4.out; have y5 := (hB.cell (p := ⟨w2.heap.size, 5, none⟩) hx8).trans Y5.out
      simp at h4
      unfold OpYields
      go_simp
      exact ⟨Below.refl _ _, rfl⟩
    · refine step_pure hBs hFs rfl fun a' w' hB hag hp => ?_
      have h8 := hag 8 (by kernel_rfl)
      have hB : Below wr.heap.size wr w' := hB; have x0 := (hB.cell (p := ⟨w.heap.size, 0, none⟩) hx4).trans X0.out; have x1 := (hB.cell (p := ⟨w.heap.size, 1, none⟩) hx4).trans X1.out; have x2 := (hB.cell (p := ⟨w.heap.size, 2, none⟩) hx4).trans X2.out; have x3 := (hB.cell (p := ⟨w.heap.size, 3, none⟩) hx4).trans X3.out; have x4 := (hB.cell (p := ⟨w.heap.size, 4, none⟩) hx4).trans X4.out; have x5 := (hB.cell (p := ⟨w.heap.size, 5, none⟩) hx4).trans X5.out; have y0 := (hB.cell (p := ⟨w2.heap.size, 0, none⟩) hx8).trans Y0.out; have y1 := (hB.cell (p := ⟨w2.heap.size, 1, none⟩) hx8).trans Y1.out; have y2 := (hB.cell (p := ⟨w2.heap.size, 2, none⟩) hx8).trans Y2.out; have y3 := (hB.cell (p := ⟨w2.heap.size, 3, none⟩) hx8).trans Y3.out; have y4 := (hB.cell (p := ⟨w2.heap.size, 4, none⟩) hx8).trans Y4.out; have y5 := (hB.cell (p := ⟨w2.heap.size, 5, none⟩) hx8).trans Y5.out
      simp at h8
      unfold OpYields
      go_simp
      exact ⟨Below.refl _ _, rfl⟩
    · refine step_pure hBs hFs rfl fun a' w' hB hag hp => ?_
      have h54 : a'.tmps.getD 54 undef = _ := hp 5 (by kernel_rfl)
      have h55 : a'.tmps.getD 55 undef = _ := hp 6 (by kernel_rfl)
      simp at h54 h55
      unfold OpYields
      go_simp
      exact ⟨(Below.refl _ _).alloc (Nat.le_refl _) _, _, rfl, Rd.made rulF w' _ _ _ [r, s] rfl (by simp)⟩
    · refine step_pure hBs hFs rfl fun a' w' hB hag hp => ?_
      have h53 : a'.tmps.getD 53 undef = _ := hp 4 (by kernel_rfl)
      have h56 := hp 7 (by kernel_rfl)
      replace h56 : _ := h56
      obtain ⟨g, hv, hr⟩ : ∃ g, a'.tmps.getD 56 undef = .slice (some ⟨g, 0, none⟩) 2 2 ∧ Rd rulF.kd w' (some ⟨g, 0, none⟩) 2 [r, s] := h56
      simp at hv h53
      unfold OpYields
      go_simp
      refine (of2_any tag r s g w' hr HT.out).mono ?_
      rw [HME.out]
      rintro e w1 ⟨rfl, hb⟩
      exact ⟨_, rfl, hb, rfl⟩
    · refine step_pure hBs hFs rfl fun a' w' hB hag hp => ?_
      have h52 : a'.tmps.getD 52 undef = _ := hp 3 (by kernel_rfl)
      have h57 : a'.tmps.getD 57 undef = _ := hp 8 (by kernel_rfl)
      have ueq := Try.underlying3
      have ueqb := Try.underlying4
      simp at h52 h57
      unfold OpYields
      go_simp
      exact ⟨Below.refl _ _, rfl⟩
    · refine step_pure hBs hFs rfl fun a' w' hB hag hp => ?_
      have h58 : a'.tmps.getD 58 undef = _ := hp 9 (by kernel_rfl)
      simp at h58
      unfold OpYields
      go_simp
      exact ⟨Below.refl _ _, rfl⟩
  intro vs w' hB hF
  simp only [AllF, forall_const, reduceCtorEq, false_implies, Fof, dmaF, dmaQ, Nat.zero_add, Nat.reduceAdd, Nat.reduceEqDiff, if_true, if_false, List.getD_cons_succ, List.getD_cons_zero] at hF
  obtain ⟨f0, f1, -, f3, f4, f5, f6, -, f8, f9, f10, -⟩ := hF
  simp only [putAll, Act.put, Nat.zero_add, Nat.reduceAdd, f0, f1, f3, f4, f5, f6, f8, f9, f10, List.setIfInBounds_toArray, List.set_cons_zero, List.set_cons_succ]
  have KB := Aside.mk (below_call KB.out hB)
  clear hB
  go_wp2
  go_ret
  exact ⟨rfl, KB.out⟩
theorem digestMore_walk (tag : Int) (r : Rul) (port : Int) (w : World) (ht : Fit tag) (hr : FitR8 r) (hp : Fit port) : Calls Try.prog 11 #[.int .i64 tag, rulV r, .int .i64 port] w fun e w' => e = .returned (.bool true) ∧ Below w.heap.size w w' := by
  cases hm : mayI r
  · exact digestMore_not tag r port w ht hr hp hm
  by_cases h1 : tag < 1
  · exact digestMore_t1 tag r port w ht hr hp hm h1
  by_cases h2 : 100 < tag
  · exact digestMore_t2 tag r port w ht hr hp hm h1 h2
  by_cases h3 : r.addr = 0 ∧ r.len = 0
  · by_cases h4 : port < 1
    · exact digestMore_p1 tag r port w ht hr hp hm h1 h2 h3 h4
    by_cases h5 : 7 < port
    · exact digestMore_p2 tag r port w ht hr hp hm h1 h2 h3 h4 h5
    exact digestMore_main tag r port w ht hr hp hm h1 h2 h3 h4 h5
  · exact digestMore_pf tag r port w ht hr hp hm h1 h2 h3
end Go.Proofs.Ytlpobpciiaofeaa
