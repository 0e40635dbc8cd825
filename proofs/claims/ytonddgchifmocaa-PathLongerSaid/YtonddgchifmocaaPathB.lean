/- The walks through PathSteps and PathWalks. -/
import Derived.Test.YtonddgchifmocaaPathA
import Derived.Test.YtonddgchifmocaaPathR
import Derived.Test.YtonddgchifmocaaPathW
import Derived.Test.YtonddgchifmocaaOpens
import Derived.Test.YtonddgchifmocaaAppend
namespace Go.Proofs.Ytonddgchifmocaa
open Go.RowKit
set_option maxRecDepth 100000

/-- What is few is small. -/
theorem few_small {cs : List (List Rul)} (h : fewL cs = true) : ∀ l ∈ cs, l.length * 48 ≤ 140737488355328 := fun l hl => by
  unfold fewL at h
  simp at h
  have := h.2 l hl
  omega
set_option maxHeartbeats 2000000 in
theorem pathSteps_walk (s p : Int) (A : Option Addr) (c : Nat) (ls : List Lnk) (B : Option Addr) (k : Nat) (cs : List (List Rul)) (f : Fly) (w : World) (hl : Rd lnkD w A ls.length ls) (_ : FitT s p c ls) (hc : Rd confD w B cs.length cs) (_ : ∀ l ∈ cs, ∀ r ∈ l, FitR r) (_ : cs.length ≤ k) (hf : FitF f) :
    Calls Try.prog 3 #[.agg #[.int .i64 s, .int .i64 p, .slice A ls.length c], .slice B cs.length k, flyV f] w fun e w' => e = .returned (.bool true) ∧ Below w.heap.size w w' := by
  have hmx := hl.max
  have HF := Aside.mk hf.2.2.2.1
  have HL := Aside.mk (hl.below (below_alloc (below_alloc (Below.refl _ w) (.cells #[.int .i64 s, .int .i64 p, .slice A ls.length c] 24)) (.cells #[.int .i64 f.id, .int .i64 f.src, .int .i64 f.dst, .int .i64 f.ttl, .int .i64 f.tag, .int .i64 f.sw, .int .i64 f.inn] 30)))
  have HC := Aside.mk (hc.below (below_alloc (below_alloc (Below.refl _ w) (.cells #[.int .i64 s, .int .i64 p, .slice A ls.length c] 24)) (.cells #[.int .i64 f.id, .int .i64 f.src, .int .i64 f.dst, .int .i64 f.ttl, .int .i64 f.tag, .int .i64 f.sw, .int .i64 f.inn] 30)))
  have KB := Aside.mk (below_alloc (below_alloc (Below.refl _ w) (.cells #[.int .i64 s, .int .i64 p, .slice A ls.length c] 24)) (.cells #[.int .i64 f.id, .int .i64 f.src, .int .i64 f.dst, .int .i64 f.ttl, .int .i64 f.tag, .int .i64 f.sw, .int .i64 f.inn] 30))
  have HX := Aside.mk (heap_old (heap_new w (.cells #[.int .i64 s, .int .i64 p, .slice A ls.length c] 24) rfl) (.cells #[.int .i64 f.id, .int .i64 f.src, .int .i64 f.dst, .int .i64 f.ttl, .int .i64 f.tag, .int .i64 f.sw, .int .i64 f.inn] 30))
  have HY := Aside.mk (heap_new (w.alloc (.cells #[.int .i64 s, .int .i64 p, .slice A ls.length c] 24)) (.cells #[.int .i64 f.id, .int .i64 f.src, .int .i64 f.dst, .int .i64 f.ttl, .int .i64 f.tag, .int .i64 f.sw, .int .i64 f.inn] 30) rfl)
  simp only [World.size_alloc] at HX HY
  have hq := eqHop
  have hq2 := eqFly
  clear hl hc hf
  cases hfew : fewL cs
  · go_enter Try.func3, Try.ntmps3
    go_wp2_with (first | (go_at_call 9; refine (awake13_any _).mono ?_; rintro e w1 ⟨rfl, hb1⟩; have HL := Aside.mk (HL.out.below hb1); have HC := Aside.mk (HC.out.below hb1); have KB := Aside.mk (below_call KB.out hb1); have HX := Aside.mk (blk_keep HX.out hb1); have HY := Aside.mk (blk_keep HY.out hb1); have c0 := blk_cell HX.out 0; have c1 := blk_cell HX.out 1; have c2 := blk_cell HX.out 2; have y0 := blk_cell HY.out 0; have y1 := blk_cell HY.out 1; have y2 := blk_cell HY.out 2; have y3 := blk_cell HY.out 3; have y4 := blk_cell HY.out 4; have y5 := blk_cell HY.out 5; have y6 := blk_cell HY.out 6; simp at c0 c1 c2 y0 y1 y2 y3 y4 y5 y6; have hsz := blk_lt HY.out; have hsz0 := blk_lt HX.out; clear hb1) | (go_at_call 10; refine (few_any _ _ _ _ HC.out).mono ?_; rw [hfew]; rintro e w2 ⟨rfl, rfl⟩))
    go_ret
    exact ⟨rfl, KB.out⟩
  · have HZ := Aside.mk (few_small hfew)
    by_cases h60 : ls.length ≤ 60
    · have d60 : decide ((60 : Int) < (ls.length : Int)) = false := decide_eq_false (by omega)
      obtain ⟨h, g, hsp⟩ : ∃ h g, stepP s p ls cs f = (h, g) := ⟨_, _, rfl⟩
      have HS := Aside.mk hsp
      clear hsp
      go_enter Try.func3, Try.ntmps3
      go_wp2_with (first
        | (go_at_call 9; refine (awake13_any _).mono ?_; rintro e w1 ⟨rfl, hb1⟩; have HL := Aside.mk (HL.out.below hb1); have HC := Aside.mk (HC.out.below hb1); have KB := Aside.mk (below_call KB.out hb1); have HX := Aside.mk (blk_keep HX.out hb1); have HY := Aside.mk (blk_keep HY.out hb1); have c0 := blk_cell HX.out 0; have c1 := blk_cell HX.out 1; have c2 := blk_cell HX.out 2; have y0 := blk_cell HY.out 0; have y1 := blk_cell HY.out 1; have y2 := blk_cell HY.out 2; have y3 := blk_cell HY.out 3; have y4 := blk_cell HY.out 4; have y5 := blk_cell HY.out 5; have y6 := blk_cell HY.out 6; simp at c0 c1 c2 y0 y1 y2 y3 y4 y5 y6; have hsz := blk_lt HY.out; have hsz0 := blk_lt HX.out; clear hb1)
        | (go_at_call 10; refine (few_any _ _ _ _ HC.out).mono ?_; rw [hfew]; rintro e w2 ⟨rfl, rfl⟩)
        | (go_at_call 11; refine (step_any s p A c ls B k cs f _ HL.out HC.out HZ.out HF.out).mono ?_; rw [HS.out]; rintro e w1 ⟨rfl, hb1⟩; have HL := Aside.mk (HL.out.below hb1); have HC := Aside.mk (HC.out.below hb1); have KB := Aside.mk (below_call KB.out hb1); have HX := Aside.mk (blk_keep HX.out hb1); have HY := Aside.mk (blk_keep HY.out hb1); have c0 := blk_cell HX.out 0; have c1 := blk_cell HX.out 1; have c2 := blk_cell HX.out 2; have y0 := blk_cell HY.out 0; have y1 := blk_cell HY.out 1; have y2 := blk_cell HY.out 2; have y3 := blk_cell HY.out 3; have y4 := blk_cell HY.out 4; have y5 := blk_cell HY.out 5; have y6 := blk_cell HY.out 6; simp at c0 c1 c2 y0 y1 y2 y3 y4 y5 y6; have hsz := blk_lt HY.out; have hsz0 := blk_lt HX.out; clear hb1)
        | (go_at_call 12; refine (stepR_any s p A c ls B k cs f _ (HL.out.below (below_alloc (below_alloc (Below.refl _ _) _) _)) (HC.out.below (below_alloc (below_alloc (Below.refl _ _) _) _)) HZ.out HF.out).mono ?_; rw [HS.out]; rintro e w3 ⟨rfl, hb1⟩; have KB := Aside.mk (below_call (below_alloc (below_alloc KB.out _) _) hb1); have HH := blk_keep (heap_old (heap_new w1 (.cells #[.int .i64 h.tick, .int .i64 h.id, .int .i64 h.sw, .int .i64 h.inn, .int .i64 h.tag, .int .i64 h.what, .int .i64 h.out] 34) rfl) (.cells #[.int .i64 g.id, .int .i64 g.src, .int .i64 g.dst, .int .i64 g.ttl, .int .i64 g.tag, .int .i64 g.sw, .int .i64 g.inn] 30)) hb1; have HG := blk_keep (heap_new (w1.alloc (.cells #[.int .i64 h.tick, .int .i64 h.id, .int .i64 h.sw, .int .i64 h.inn, .int .i64 h.tag, .int .i64 h.what, .int .i64 h.out] 34)) (.cells #[.int .i64 g.id, .int .i64 g.src, .int .i64 g.dst, .int .i64 g.ttl, .int .i64 g.tag, .int .i64 g.sw, .int .i64 g.inn] 30) rfl) hb1; simp only [World.size_alloc] at HG; have p0 := blk_cell HH 0; have p1 := blk_cell HH 1; have p2 := blk_cell HH 2; have p3 := blk_cell HH 3; have p4 := blk_cell HH 4; have p5 := blk_cell HH 5; have p6 := blk_cell HH 6; have q0 := blk_cell HG 0; have q1 := blk_cell HG 1; have q2 := blk_cell HG 2; have q3 := blk_cell HG 3; have q4 := blk_cell HG 4; have q5 := blk_cell HG 5; have q6 := blk_cell HG 6; simp at p0 p1 p2 p3 p4 p5 p6 q0 q1 q2 q3 q4 q5 q6; have hsz := blk_lt HG; have hsz0 := blk_lt HH; clear HH HG hb1))
      go_ret
      exact ⟨rfl, below_alloc (below_alloc KB.out _) _⟩
    · have d60 : decide ((60 : Int) < (ls.length : Int)) = true := decide_eq_true (by omega)
      go_enter Try.func3, Try.ntmps3
      go_wp2_with (first | (go_at_call 9; refine (awake13_any _).mono ?_; rintro e w1 ⟨rfl, hb1⟩; have HL := Aside.mk (HL.out.below hb1); have HC := Aside.mk (HC.out.below hb1); have KB := Aside.mk (below_call KB.out hb1); have HX := Aside.mk (blk_keep HX.out hb1); have HY := Aside.mk (blk_keep HY.out hb1); have c0 := blk_cell HX.out 0; have c1 := blk_cell HX.out 1; have c2 := blk_cell HX.out 2; have y0 := blk_cell HY.out 0; have y1 := blk_cell HY.out 1; have y2 := blk_cell HY.out 2; have y3 := blk_cell HY.out 3; have y4 := blk_cell HY.out 4; have y5 := blk_cell HY.out 5; have y6 := blk_cell HY.out 6; simp at c0 c1 c2 y0 y1 y2 y3 y4 y5 y6; have hsz := blk_lt HY.out; have hsz0 := blk_lt HX.out; clear hb1) | (go_at_call 10; refine (few_any _ _ _ _ HC.out).mono ?_; rw [hfew]; rintro e w2 ⟨rfl, rfl⟩))
      go_ret
      exact ⟨rfl, KB.out⟩

def pwsB (s p : Int) (A : Option Addr) (c : Nat) (ls : List Lnk) (B : Option Addr) (k : Nat) (cs : List (List Rul)) (f : Fly) (w : World) (w' : World) : Prop :=
  Below w.heap.size w w' ∧ w'.heap[w.heap.size]? = some (.cells #[.int .i64 s, .int .i64 p, .slice A ls.length c] 24) ∧ w'.heap[w.heap.size + 1]? = some (.cells #[.int .i64 f.id, .int .i64 f.src, .int .i64 f.dst, .int .i64 f.ttl, .int .i64 f.tag, .int .i64 f.sw, .int .i64 f.inn] 30) ∧ Rd lnkD w' A ls.length ls ∧ Rd confD w' B cs.length cs
def pwsF (s p : Int) (A : Option Addr) (c : Nat) (ls : List Lnk) (B : Option Addr) (k : Nat) (cs : List (List Rul)) (f : Fly) (w : World) : List (Value → Value → World → Prop) :=
  [fun _ v _ => v = .agg #[.int .i64 s, .int .i64 p, .slice A ls.length c],
   fun _ v _ => v = .slice B cs.length k,
   fun _ v _ => v = .agg #[.int .i64 f.id, .int .i64 f.src, .int .i64 f.dst, .int .i64 f.ttl, .int .i64 f.tag, .int .i64 f.sw, .int .i64 f.inn],
   fun _ v w' => Own hopF w' w.heap.size 34 v (walkP s p ls cs (cap16 f)),
   fun _ v _ => v = .agg #[.int .i64 s, .int .i64 p, .slice A ls.length c],
   fun _ v _ => v = .slice B cs.length k,
   fun _ v _ => v = .agg #[.int .i64 f.id, .int .i64 f.src, .int .i64 f.dst, .int .i64 f.ttl, .int .i64 f.tag, .int .i64 f.sw, .int .i64 f.inn],
   fun _ v w' => Own hopF w' w.heap.size 34 v (walkP s p ls cs (cap16 f)),
   fun _ v _ => v = .bool true,
   fun _ v _ => v = .bool true]
def pwsQ : Nat → Nat := fun i => i
theorem pwsF_stay (s p : Int) (A : Option Addr) (c : Nat) (ls : List Lnk) (B : Option Addr) (k : Nat) (cs : List (List Rul)) (f : Fly) (w : World) : AllStay (pwsF s p A c ls B k cs f w) := by
  intro F hF u v w' w'' hb h
  simp only [pwsF, List.mem_cons, List.not_mem_nil, or_false] at hF
  rcases hF with rfl | rfl | rfl | rfl | rfl | rfl | rfl | rfl | rfl | rfl
  · exact h
  · exact h
  · exact h
  · exact h.below hb
  · exact h
  · exact h
  · exact h
  · exact h.below hb
  · exact h
  · exact h
theorem pwsB_stay (s p : Int) (A : Option Addr) (c : Nat) (ls : List Lnk) (B : Option Addr) (k : Nat) (cs : List (List Rul)) (f : Fly) (w : World) : Stays (pwsB s p A c ls B k cs f w) := by
  intro w' w'' hb h
  exact ⟨below_call h.1 hb, blk_keep h.2.1 hb, blk_keep h.2.2.1 hb, h.2.2.2.1.below hb, h.2.2.2.2.below hb⟩
set_option maxHeartbeats 2000000 in
theorem pathWalks_walk (s p : Int) (A : Option Addr) (c : Nat) (ls : List Lnk) (B : Option Addr) (k : Nat) (cs : List (List Rul)) (f : Fly) (w : World) (hl : Rd lnkD w A ls.length ls) (_ : FitT s p c ls) (hc : Rd confD w B cs.length cs) (_ : ∀ l ∈ cs, ∀ r ∈ l, FitR r) (_ : cs.length ≤ k) (hf : FitF f) :
    Calls Try.prog 4 #[.agg #[.int .i64 s, .int .i64 p, .slice A ls.length c], .slice B cs.length k, flyV f] w fun e w' => e = .returned (.bool true) ∧ Below w.heap.size w w' := by
  have hmx := hl.max
  have HF := Aside.mk hf.2.2.2.1
  have HL := Aside.mk (hl.below (below_alloc (below_alloc (Below.refl _ w) (.cells #[.int .i64 s, .int .i64 p, .slice A ls.length c] 24)) (.cells #[.int .i64 f.id, .int .i64 f.src, .int .i64 f.dst, .int .i64 f.ttl, .int .i64 f.tag, .int .i64 f.sw, .int .i64 f.inn] 30)))
  have HC := Aside.mk (hc.below (below_alloc (below_alloc (Below.refl _ w) (.cells #[.int .i64 s, .int .i64 p, .slice A ls.length c] 24)) (.cells #[.int .i64 f.id, .int .i64 f.src, .int .i64 f.dst, .int .i64 f.ttl, .int .i64 f.tag, .int .i64 f.sw, .int .i64 f.inn] 30)))
  have KB := Aside.mk (below_alloc (below_alloc (Below.refl _ w) (.cells #[.int .i64 s, .int .i64 p, .slice A ls.length c] 24)) (.cells #[.int .i64 f.id, .int .i64 f.src, .int .i64 f.dst, .int .i64 f.ttl, .int .i64 f.tag, .int .i64 f.sw, .int .i64 f.inn] 30))
  have HX := Aside.mk (heap_old (heap_new w (.cells #[.int .i64 s, .int .i64 p, .slice A ls.length c] 24) rfl) (.cells #[.int .i64 f.id, .int .i64 f.src, .int .i64 f.dst, .int .i64 f.ttl, .int .i64 f.tag, .int .i64 f.sw, .int .i64 f.inn] 30))
  have HY := Aside.mk (heap_new (w.alloc (.cells #[.int .i64 s, .int .i64 p, .slice A ls.length c] 24)) (.cells #[.int .i64 f.id, .int .i64 f.src, .int .i64 f.dst, .int .i64 f.ttl, .int .i64 f.tag, .int .i64 f.sw, .int .i64 f.inn] 30) rfl)
  simp only [World.size_alloc] at HX HY
  clear hl hc hf
  cases hfew : fewL cs
  · go_enter Try.func4, Try.ntmps4
    go_wp2_with (first
      | (go_at_call 9; refine (awake13_any _).mono ?_; rintro e w1 ⟨rfl, hb1⟩; have HL := Aside.mk (HL.out.below hb1); have HC := Aside.mk (HC.out.below hb1); have KB := Aside.mk (below_call KB.out hb1); have HX := Aside.mk (blk_keep HX.out hb1); have HY := Aside.mk (blk_keep HY.out hb1); have c0 := blk_cell HX.out 0; have c1 := blk_cell HX.out 1; have c2 := blk_cell HX.out 2; have y0 := blk_cell HY.out 0; have y1 := blk_cell HY.out 1; have y2 := blk_cell HY.out 2; have y3 := blk_cell HY.out 3; have y4 := blk_cell HY.out 4; have y5 := blk_cell HY.out 5; have y6 := blk_cell HY.out 6; simp at c0 c1 c2 y0 y1 y2 y3 y4 y5 y6; have hsz := blk_lt HY.out; have hsz0 := blk_lt HX.out; clear hb1)
      | (go_at_call 10; refine (few_any _ _ _ _ HC.out).mono ?_; rw [hfew]; rintro e w2 ⟨rfl, rfl⟩))
    go_ret
    exact ⟨rfl, KB.out⟩
  · have HZ := Aside.mk (few_small hfew)
    by_cases h60 : ls.length ≤ 60
    · have d60 : decide ((60 : Int) < (ls.length : Int)) = false := decide_eq_false (by omega)
      go_enter Try.func4, Try.ntmps4
      go_wp2_with (first
        | (go_at_call 9; refine (awake13_any _).mono ?_; rintro e w1 ⟨rfl, hb1⟩; have HL := Aside.mk (HL.out.below hb1); have HC := Aside.mk (HC.out.below hb1); have KB := Aside.mk (below_call KB.out hb1); have HX := Aside.mk (blk_keep HX.out hb1); have HY := Aside.mk (blk_keep HY.out hb1); have c0 := blk_cell HX.out 0; have c1 := blk_cell HX.out 1; have c2 := blk_cell HX.out 2; have y0 := blk_cell HY.out 0; have y1 := blk_cell HY.out 1; have y2 := blk_cell HY.out 2; have y3 := blk_cell HY.out 3; have y4 := blk_cell HY.out 4; have y5 := blk_cell HY.out 5; have y6 := blk_cell HY.out 6; simp at c0 c1 c2 y0 y1 y2 y3 y4 y5 y6; have hsz := blk_lt HY.out; have hsz0 := blk_lt HX.out; clear hb1)
        | (go_at_call 10; refine (few_any _ _ _ _ HC.out).mono ?_; rw [hfew]; rintro e w2 ⟨rfl, rfl⟩))
      refine wp_region_facts (Base := pwsB s p A c ls B k cs f w) (q := pwsQ) (Fs := pwsF s p A c ls B k cs f w) (by kernel_rfl) (by kernel_rfl) (by kernel_rfl) (by kernel_rfl) ⟨below_drew KB.out, HX.out, HY.out, HL.out, HC.out⟩ ?_ ?_
      · clear HL HC KB HX HY c0 c1 c2 y0 y1 y2 y3 y4 y5 y6
        have hBs := pwsB_stay s p A c ls B k cs f w
        have hFs := pwsF_stay s p A c ls B k cs f w
        refine ⟨?_, ?_, ?_, ?_, ?_, ?_, ?_, ?_, ?_, ?_, trivial⟩
        · refine step_pure hBs hFs rfl fun a' w' hB hag hp => ?_
          have h3 := hag 3 (by kernel_rfl)
          have hc0 := blk_cell hB.2.1 0; have hc1 := blk_cell hB.2.1 1; have hc2 := blk_cell hB.2.1 2; have hd0 := blk_cell hB.2.2.1 0; have hd1 := blk_cell hB.2.2.1 1; have hd2 := blk_cell hB.2.2.1 2; have hd3 := blk_cell hB.2.2.1 3; have hd4 := blk_cell hB.2.2.1 4; have hd5 := blk_cell hB.2.2.1 5; have hd6 := blk_cell hB.2.2.1 6; simp at hc0 hc1 hc2 hd0 hd1 hd2 hd3 hd4 hd5 hd6
          simp at h3
          unfold OpYields
          go_simp
          exact ⟨Below.refl _ _, rfl⟩
        · refine step_pure hBs hFs rfl fun a' w' hB hag hp => ?_
          have h1 := hag 1 (by kernel_rfl)
          simp at h1
          unfold OpYields
          go_simp
          exact ⟨Below.refl _ _, rfl⟩
        · refine step_pure hBs hFs rfl fun a' w' hB hag hp => ?_
          have h5 := hag 5 (by kernel_rfl)
          have hc0 := blk_cell hB.2.1 0; have hc1 := blk_cell hB.2.1 1; have hc2 := blk_cell hB.2.1 2; have hd0 := blk_cell hB.2.2.1 0; have hd1 := blk_cell hB.2.2.1 1; have hd2 := blk_cell hB.2.2.1 2; have hd3 := blk_cell hB.2.2.1 3; have hd4 := blk_cell hB.2.2.1 4; have hd5 := blk_cell hB.2.2.1 5; have hd6 := blk_cell hB.2.2.1 6; simp at hc0 hc1 hc2 hd0 hd1 hd2 hd3 hd4 hd5 hd6
          simp at h5
          unfold OpYields
          go_simp
          exact ⟨Below.refl _ _, rfl⟩
        · refine step_pure hBs hFs rfl fun a' w' hB hag hp => ?_
          have h26 : a'.tmps.getD 26 undef = _ := hp 0 (by kernel_rfl)
          have h27 : a'.tmps.getD 27 undef = _ := hp 1 (by kernel_rfl)
          have h28 : a'.tmps.getD 28 undef = _ := hp 2 (by kernel_rfl)
          simp at h26 h27 h28
          unfold OpYields
          go_simp
          refine (walk_any s p A c ls B k cs f w' hB.2.2.2.1 hB.2.2.2.2 HZ.out HF.out).mono ?_
          rintro e w1 ⟨v, rfl, ho, hb⟩
          exact ⟨_, rfl, hb, ho.mono hB.1.size⟩
        · refine step_pure hBs hFs rfl fun a' w' hB hag hp => ?_
          have h3 := hag 3 (by kernel_rfl)
          have hc0 := blk_cell hB.2.1 0; have hc1 := blk_cell hB.2.1 1; have hc2 := blk_cell hB.2.1 2; have hd0 := blk_cell hB.2.2.1 0; have hd1 := blk_cell hB.2.2.1 1; have hd2 := blk_cell hB.2.2.1 2; have hd3 := blk_cell hB.2.2.1 3; have hd4 := blk_cell hB.2.2.1 4; have hd5 := blk_cell hB.2.2.1 5; have hd6 := blk_cell hB.2.2.1 6; simp at hc0 hc1 hc2 hd0 hd1 hd2 hd3 hd4 hd5 hd6
          simp at h3
          unfold OpYields
          go_simp
          exact ⟨Below.refl _ _, rfl⟩
        · refine step_pure hBs hFs rfl fun a' w' hB hag hp => ?_
          have h1 := hag 1 (by kernel_rfl)
          simp at h1
          unfold OpYields
          go_simp
          exact ⟨Below.refl _ _, rfl⟩
        · refine step_pure hBs hFs rfl fun a' w' hB hag hp => ?_
          have h5 := hag 5 (by kernel_rfl)
          have hc0 := blk_cell hB.2.1 0; have hc1 := blk_cell hB.2.1 1; have hc2 := blk_cell hB.2.1 2; have hd0 := blk_cell hB.2.2.1 0; have hd1 := blk_cell hB.2.2.1 1; have hd2 := blk_cell hB.2.2.1 2; have hd3 := blk_cell hB.2.2.1 3; have hd4 := blk_cell hB.2.2.1 4; have hd5 := blk_cell hB.2.2.1 5; have hd6 := blk_cell hB.2.2.1 6; simp at hc0 hc1 hc2 hd0 hd1 hd2 hd3 hd4 hd5 hd6
          simp at h5
          unfold OpYields
          go_simp
          exact ⟨Below.refl _ _, rfl⟩
        · refine step_pure hBs hFs rfl fun a' w' hB hag hp => ?_
          have h30 : a'.tmps.getD 30 undef = _ := hp 4 (by kernel_rfl)
          have h31 : a'.tmps.getD 31 undef = _ := hp 5 (by kernel_rfl)
          have h32 : a'.tmps.getD 32 undef = _ := hp 6 (by kernel_rfl)
          simp at h30 h31 h32
          unfold OpYields
          go_simp
          refine (walkR_any s p A c ls B k cs f w' hB.2.2.2.1 hB.2.2.2.2 HZ.out HF.out).mono ?_
          rintro e w1 ⟨v, rfl, ho, hb⟩
          exact ⟨_, rfl, hb, ho.mono hB.1.size⟩
        · refine step_pure hBs hFs rfl fun a' w' hB hag hp => ?_
          have h29 := hp 3 (by kernel_rfl)
          replace h29 : _ := h29
          have h33 := hp 7 (by kernel_rfl)
          replace h33 : _ := h33
          have h29 : Own hopF w' w.heap.size 34 (a'.tmps.getD 29 undef) (walkP s p ls cs (cap16 f)) := h29
          have h33 : Own hopF w' w.heap.size 34 (a'.tmps.getD 33 undef) (walkP s p ls cs (cap16 f)) := h33
          obtain ⟨A1, k1, e1, -, r1⟩ := Own.rd h29
          obtain ⟨A2, k2, e2, -, r2⟩ := Own.rd h33
          simp at e1 e2
          unfold OpYields
          go_simp
          refine (sameH_any _ _ A1 A2 k1 k2 w' r1 r2).mono ?_
          rintro e w1 ⟨rfl, hb⟩
          exact ⟨_, rfl, hb, by show Value.bool _ = Value.bool _; simp⟩
        · refine step_pure hBs hFs rfl fun a' w' hB hag hp => ?_
          have h34 : a'.tmps.getD 34 undef = _ := hp 8 (by kernel_rfl)
          simp at h34
          unfold OpYields
          go_simp
          exact ⟨Below.refl _ _, rfl⟩
      intro vs w' hB hF
      simp only [AllF, forall_const, reduceCtorEq, false_implies, Fof, pwsF, pwsQ, Nat.zero_add, Nat.reduceAdd, Nat.reduceEqDiff, if_true, if_false, List.getD_cons_succ, List.getD_cons_zero] at hF
      obtain ⟨f0, f1, f2, f3, f4, f5, f6, f7, f8, f9, -⟩ := hF
      simp only [putAll, Act.put, Nat.zero_add, Nat.reduceAdd, f0, f1, f2, f3, f4, f5, f6, f7, f8, f9, List.setIfInBounds_toArray, List.set_cons_zero, List.set_cons_succ]
      have KB := Aside.mk hB.1
      clear hB
      go_wp2
      go_ret
      exact ⟨rfl, KB.out⟩
    · have d60 : decide ((60 : Int) < (ls.length : Int)) = true := decide_eq_true (by omega)
      go_enter Try.func4, Try.ntmps4
      go_wp2_with (first
        | (go_at_call 9; refine (awake13_any _).mono ?_; rintro e w1 ⟨rfl, hb1⟩; have HL := Aside.mk (HL.out.below hb1); have HC := Aside.mk (HC.out.below hb1); have KB := Aside.mk (below_call KB.out hb1); have HX := Aside.mk (blk_keep HX.out hb1); have HY := Aside.mk (blk_keep HY.out hb1); have c0 := blk_cell HX.out 0; have c1 := blk_cell HX.out 1; have c2 := blk_cell HX.out 2; have y0 := blk_cell HY.out 0; have y1 := blk_cell HY.out 1; have y2 := blk_cell HY.out 2; have y3 := blk_cell HY.out 3; have y4 := blk_cell HY.out 4; have y5 := blk_cell HY.out 5; have y6 := blk_cell HY.out 6; simp at c0 c1 c2 y0 y1 y2 y3 y4 y5 y6; have hsz := blk_lt HY.out; have hsz0 := blk_lt HX.out; clear hb1)
        | (go_at_call 10; refine (few_any _ _ _ _ HC.out).mono ?_; rw [hfew]; rintro e w2 ⟨rfl, rfl⟩))
      go_ret
      exact ⟨rfl, KB.out⟩
end Go.Proofs.Ytonddgchifmocaa
