/- The walks through bits.May, rule.May and rule.Alike. -/
import Derived.Test.YtlnnkkbcmidddaaBitsH
import Derived.Test.YtlnnkkbcmidddaaSortQ
namespace Go.Proofs.Ytlnnkkbcmidddaa
open Go.RowKit
set_option maxRecDepth 100000
def bmyB (pa pl : Int) (q : Nat) (wr : World) (w' : World) : Prop :=
  Below wr.heap.size wr w'
def bmyF (pa pl : Int) (q : Nat) (wr : World) : List (Value → Value → World → Prop) :=
  [fun _ v _ => v = .pointer (some ⟨q, 1, none⟩),
   fun _ v _ => v = .int .i64 pl,
   fun _ v _ => v = .bool true,
   fun _ v _ => v = .bool true,
   fun _ v _ => v = .pointer (some ⟨q, 1, none⟩),
   fun _ v _ => v = .int .i64 pl,
   fun _ v _ => v = .bool true,
   fun _ v _ => v = .bool true,
   fun _ v _ => v = .bool true,
   fun _ v _ => v = .pointer (some ⟨q, 0, none⟩),
   fun _ v _ => v = .int .i64 pa,
   fun _ v _ => v = .bool true,
   fun _ v _ => v = .bool true,
   fun _ v _ => v = .bool true,
   fun _ v _ => v = .pointer (some ⟨q, 0, none⟩),
   fun _ v _ => v = .int .i64 pa,
   fun _ v _ => v = .bool true,
   fun _ v _ => v = .bool true,
   fun _ v _ => v = .bool true,
   fun _ v _ => v = .pointer (some ⟨q, 0, none⟩),
   fun _ v _ => v = .int .i64 pa,
   fun _ v _ => v = .pointer (some ⟨q, 1, none⟩),
   fun _ v _ => v = .int .i64 pl,
   fun _ v _ => v = .int .i64 (maskI pl),
   fun _ v _ => v = .int .i64 (bits .andNot .i64 pa (maskI pl)),
   fun _ v _ => v = .bool (bits .andNot .i64 pa (maskI pl) == 0),
   fun _ v _ => v = .bool (bits .andNot .i64 pa (maskI pl) == 0),
   fun _ v _ => v = .bool (bits .andNot .i64 pa (maskI pl) == 0)]
def bmyQ : Nat → Nat := fun i => i
theorem bmyF_stay (pa pl : Int) (q : Nat) (wr : World) : AllStay (bmyF pa pl q wr) := by
  intro F hF u v w' w'' hb h
  simp only [bmyF, List.mem_cons, List.not_mem_nil, or_false] at hF
  rcases hF with rfl | rfl | rfl | rfl | rfl | rfl | rfl | rfl | rfl | rfl | rfl | rfl | rfl | rfl | rfl | rfl | rfl | rfl | rfl | rfl | rfl | rfl | rfl | rfl | rfl | rfl | rfl | rfl
  · exact h
  · exact h
  · exact h
  · exact h
  · exact h
  · exact h
  · exact h
  · exact h
  · exact h
  · exact h
  · exact h
  · exact h
  · exact h
  · exact h
  · exact h
  · exact h
  · exact h
  · exact h
  · exact h
  · exact h
  · exact h
  · exact h
  · exact h
  · exact h
  · exact h
  · exact h
  · exact h
  · exact h
theorem bmyB_stay (pa pl : Int) (q : Nat) (wr : World) : Stays (bmyB pa pl q wr) := by
  intro w' w'' hb h
  exact below_call h hb
def bmI (pa pl : Int) : Bool := decide (0 ≤ pl) && decide (pl ≤ 32) && decide (0 ≤ pa) && decide (pa ≤ 4294967295) && (bits .andNot .i64 pa (maskI pl) == 0)
set_option maxHeartbeats 2000000 in
theorem bitsMay_any (pa pl : Int) (w : World) : Calls Try.prog 62 #[.agg #[.int .i64 pa, .int .i64 pl]] w fun e w' => e = .returned (.bool (bmI pa pl)) ∧ Below w.heap.size w w' := by
  have HB := Aside.mk (below_alloc (Below.refl _ w) (.cells #[.int .i64 pa, .int .i64 pl] 54))
  have hx := heapN w (.cells #[.int .i64 pa, .int .i64 pl] 54) rfl
  have X0 := Aside.mk (blk_cell hx 0)
  have X1 := Aside.mk (blk_cell hx 1)
  have hxl : w.heap.size < (w.alloc (.cells #[.int .i64 pa, .int .i64 pl] 54)).heap.size := by simp
  unfold bmI
  go_enter Try.func62, Try.ntmps62
  cases h1 : decide (0 ≤ pl)
  · go_wp2; go_quiet (fail); go_wp2; go_ret; exact ⟨rfl, below_drewN HB.out _⟩
  cases h2 : decide (pl ≤ 32)
  · go_wp2; go_quiet (fail); go_wp2; go_ret; exact ⟨rfl, below_drewN HB.out _⟩
  cases h3 : decide (0 ≤ pa)
  · go_wp2; go_quiet (fail); go_wp2; go_ret; exact ⟨rfl, below_drewN HB.out _⟩
  cases h4 : decide (pa ≤ 4294967295)
  · go_wp2; go_quiet (fail); go_wp2; go_ret; exact ⟨rfl, below_drewN HB.out _⟩
  clear hx
  go_wp2
  generalize w.alloc (.cells #[.int .i64 pa, .int .i64 pl] 54) = W at *
  refine wp_region_facts (Base := bmyB pa pl w.heap.size W) (q := bmyQ) (Fs := bmyF pa pl w.heap.size W) (by kernel_rfl) (by kernel_rfl) (by kernel_rfl) (by kernel_rfl) (below_drew (Below.refl _ _)) ?_ ?_
  ·
    have hBs := bmyB_stay pa pl w.heap.size W
    have hFs := bmyF_stay pa pl w.heap.size W
    refine ⟨?_, ?_, ?_, ?_, ?_, ?_, ?_, ?_, ?_, ?_, ?_, ?_, ?_, ?_, ?_, ?_, ?_, ?_, ?_, ?_, ?_, ?_, ?_, ?_, ?_, ?_, ?_, ?_, trivial⟩
    · refine step_pure hBs hFs rfl fun a' w' hB hag hp => ?_
      have h1 := hag 1 (by kernel_rfl)
      simp at h1
      unfold OpYields
      go_simp
      exact ⟨Below.refl _ _, rfl⟩
    · refine step_pure hBs hFs rfl fun a' w' hB hag hp => ?_
      have h3 : a'.tmps.getD 3 undef = _ := hp 0 (by kernel_rfl)
      have hB : Below W.heap.size W w' := hB; have x0 := (hB.cell (p := ⟨w.heap.size, 0, none⟩) hxl).trans X0.out; have x1 := (hB.cell (p := ⟨w.heap.size, 1, none⟩) hxl).trans X1.out
      simp at h3
      unfold OpYields
      go_simp
      exact ⟨Below.refl _ _, rfl⟩
    · refine step_pure hBs hFs rfl fun a' w' hB hag hp => ?_
      have h4 : a'.tmps.getD 4 undef = _ := hp 1 (by kernel_rfl)
      simp at h4
      unfold OpYields
      go_simp
      exact ⟨Below.refl _ _, rfl⟩
    · refine step_pure hBs hFs rfl fun a' w' hB hag hp => ?_
      have h5 : a'.tmps.getD 5 undef = _ := hp 2 (by kernel_rfl)
      simp at h5
      unfold OpYields
      go_simp
      exact ⟨Below.refl _ _, rfl⟩
    · refine step_pure_g hBs hFs fun a' w' hB hag hp => ?_
      have hg : a'.tmps.getD 6 undef = _ := hp 3 (by kernel_rfl)
      have h1 := hag 1 (by kernel_rfl)
      refine ⟨wanted_of hg rfl rfl, ?_⟩
      simp at h1
      unfold OpYields
      go_simp
      exact ⟨Below.refl _ _, rfl⟩
    · refine step_pure_g hBs hFs fun a' w' hB hag hp => ?_
      have hg : a'.tmps.getD 6 undef = _ := hp 3 (by kernel_rfl)
      have h7 : a'.tmps.getD 7 undef = _ := hp 4 (by kernel_rfl)
      have hB : Below W.heap.size W w' := hB; have x0 := (hB.cell (p := ⟨w.heap.size, 0, none⟩) hxl).trans X0.out; have x1 := (hB.cell (p := ⟨w.heap.size, 1, none⟩) hxl).trans X1.out
      refine ⟨wanted_of hg rfl rfl, ?_⟩
      simp at h7
      unfold OpYields
      go_simp
      exact ⟨Below.refl _ _, rfl⟩
    · refine step_pure_g hBs hFs fun a' w' hB hag hp => ?_
      have hg : a'.tmps.getD 6 undef = _ := hp 3 (by kernel_rfl)
      have h8 : a'.tmps.getD 8 undef = _ := hp 5 (by kernel_rfl)
      refine ⟨wanted_of hg rfl rfl, ?_⟩
      simp at h8
      unfold OpYields
      go_simp
      exact ⟨Below.refl _ _, rfl⟩
    · refine step_pure hBs hFs rfl fun a' w' hB hag hp => ?_
      have h6 : a'.tmps.getD 6 undef = _ := hp 3 (by kernel_rfl)
      have h9 : a'.tmps.getD 9 undef = _ := hp 6 (by kernel_rfl)
      simp at h6 h9
      unfold OpYields
      go_simp
      exact ⟨Below.refl _ _, rfl⟩
    · refine step_pure hBs hFs rfl fun a' w' hB hag hp => ?_
      have h10 : a'.tmps.getD 10 undef = _ := hp 7 (by kernel_rfl)
      simp at h10
      unfold OpYields
      go_simp
      exact ⟨Below.refl _ _, rfl⟩
    · refine step_pure_g hBs hFs fun a' w' hB hag hp => ?_
      have hg : a'.tmps.getD 11 undef = _ := hp 8 (by kernel_rfl)
      have h1 := hag 1 (by kernel_rfl)
      refine ⟨wanted_of hg rfl rfl, ?_⟩
      simp at h1
      unfold OpYields
      go_simp
      exact ⟨Below.refl _ _, rfl⟩
    · refine step_pure_g hBs hFs fun a' w' hB hag hp => ?_
      have hg : a'.tmps.getD 11 undef = _ := hp 8 (by kernel_rfl)
      have h12 : a'.tmps.getD 12 undef = _ := hp 9 (by kernel_rfl)
      have hB : Below W.heap.size W w' := hB; have x0 := (hB.cell (p := ⟨w.heap.size, 0, none⟩) hxl).trans X0.out; have x1 := (hB.cell (p := ⟨w.heap.size, 1, none⟩) hxl).trans X1.out
      refine ⟨wanted_of hg rfl rfl, ?_⟩
      simp at h12
      unfold OpYields
      go_simp
      exact ⟨Below.refl _ _, rfl⟩
    · refine step_pure_g hBs hFs fun a' w' hB hag hp => ?_
      have hg : a'.tmps.getD 11 undef = _ := hp 8 (by kernel_rfl)
      have h13 : a'.tmps.getD 13 undef = _ := hp 10 (by kernel_rfl)
      refine ⟨wanted_of hg rfl rfl, ?_⟩
      simp at h13
      unfold OpYields
      go_simp
      exact ⟨Below.refl _ _, rfl⟩
    · refine step_pure hBs hFs rfl fun a' w' hB hag hp => ?_
      have h11 : a'.tmps.getD 11 undef = _ := hp 8 (by kernel_rfl)
      have h14 : a'.tmps.getD 14 undef = _ := hp 11 (by kernel_rfl)
      simp at h11 h14
      unfold OpYields
      go_simp
      exact ⟨Below.refl _ _, rfl⟩
    · refine step_pure hBs hFs rfl fun a' w' hB hag hp => ?_
      have h15 : a'.tmps.getD 15 undef = _ := hp 12 (by kernel_rfl)
      simp at h15
      unfold OpYields
      go_simp
      exact ⟨Below.refl _ _, rfl⟩
    · refine step_pure_g hBs hFs fun a' w' hB hag hp => ?_
      have hg : a'.tmps.getD 16 undef = _ := hp 13 (by kernel_rfl)
      have h1 := hag 1 (by kernel_rfl)
      refine ⟨wanted_of hg rfl rfl, ?_⟩
      simp at h1
      unfold OpYields
      go_simp
      exact ⟨Below.refl _ _, rfl⟩
    · refine step_pure_g hBs hFs fun a' w' hB hag hp => ?_
      have hg : a'.tmps.getD 16 undef = _ := hp 13 (by kernel_rfl)
      have h17 : a'.tmps.getD 17 undef = _ := hp 14 (by kernel_rfl)
      have hB : Below W.heap.size W w' := hB; have x0 := (hB.cell (p := ⟨w.heap.size, 0, none⟩) hxl).trans X0.out; have x1 := (hB.cell (p := ⟨w.heap.size, 1, none⟩) hxl).trans X1.out
      refine ⟨wanted_of hg rfl rfl, ?_⟩
      simp at h17
      unfold OpYields
      go_simp
      exact ⟨Below.refl _ _, rfl⟩
    · refine step_pure_g hBs hFs fun a' w' hB hag hp => ?_
      have hg : a'.tmps.getD 16 undef = _ := hp 13 (by kernel_rfl)
      have h18 : a'.tmps.getD 18 undef = _ := hp 15 (by kernel_rfl)
      refine ⟨wanted_of hg rfl rfl, ?_⟩
      simp at h18
      unfold OpYields
      go_simp
      exact ⟨Below.refl _ _, rfl⟩
    · refine step_pure hBs hFs rfl fun a' w' hB hag hp => ?_
      have h16 : a'.tmps.getD 16 undef = _ := hp 13 (by kernel_rfl)
      have h19 : a'.tmps.getD 19 undef = _ := hp 16 (by kernel_rfl)
      simp at h16 h19
      unfold OpYields
      go_simp
      exact ⟨Below.refl _ _, rfl⟩
    · refine step_pure hBs hFs rfl fun a' w' hB hag hp => ?_
      have h20 : a'.tmps.getD 20 undef = _ := hp 17 (by kernel_rfl)
      simp at h20
      unfold OpYields
      go_simp
      exact ⟨Below.refl _ _, rfl⟩
    · refine step_pure_g hBs hFs fun a' w' hB hag hp => ?_
      have hg : a'.tmps.getD 21 undef = _ := hp 18 (by kernel_rfl)
      have h1 := hag 1 (by kernel_rfl)
      refine ⟨wanted_of hg rfl rfl, ?_⟩
      simp at h1
      unfold OpYields
      go_simp
      exact ⟨Below.refl _ _, rfl⟩
    · refine step_pure_g hBs hFs fun a' w' hB hag hp => ?_
      have hg : a'.tmps.getD 21 undef = _ := hp 18 (by kernel_rfl)
      have h22 : a'.tmps.getD 22 undef = _ := hp 19 (by kernel_rfl)
      have hB : Below W.heap.size W w' := hB; have x0 := (hB.cell (p := ⟨w.heap.size, 0, none⟩) hxl).trans X0.out; have x1 := (hB.cell (p := ⟨w.heap.size, 1, none⟩) hxl).trans X1.out
      refine ⟨wanted_of hg rfl rfl, ?_⟩
      simp at h22
      unfold OpYields
      go_simp
      exact ⟨Below.refl _ _, rfl⟩
    · refine step_pure_g hBs hFs fun a' w' hB hag hp => ?_
      have hg : a'.tmps.getD 21 undef = _ := hp 18 (by kernel_rfl)
      have h1 := hag 1 (by kernel_rfl)
      refine ⟨wanted_of hg rfl rfl, ?_⟩
      simp at h1
      unfold OpYields
      go_simp
      exact ⟨Below.refl _ _, rfl⟩
    · refine step_pure_g hBs hFs fun a' w' hB hag hp => ?_
      have hg : a'.tmps.getD 21 undef = _ := hp 18 (by kernel_rfl)
      have h24 : a'.tmps.getD 24 undef = _ := hp 21 (by kernel_rfl)
      have hB : Below W.heap.size W w' := hB; have x0 := (hB.cell (p := ⟨w.heap.size, 0, none⟩) hxl).trans X0.out; have x1 := (hB.cell (p := ⟨w.heap.size, 1, none⟩) hxl).trans X1.out
      refine ⟨wanted_of hg rfl rfl, ?_⟩
      simp at h24
      unfold OpYields
      go_simp
      exact ⟨Below.refl _ _, rfl⟩
    · refine step_pure_g hBs hFs fun a' w' hB hag hp => ?_
      have hg : a'.tmps.getD 21 undef = _ := hp 18 (by kernel_rfl)
      have h25 : a'.tmps.getD 25 undef = _ := hp 22 (by kernel_rfl)
      refine ⟨wanted_of hg rfl rfl, ?_⟩
      simp at h25
      unfold OpYields
      go_simp
      refine (mask_any pl w').mono ?_
      rintro e w1 ⟨rfl, rfl⟩
      exact ⟨_, rfl, Below.refl _ _, rfl⟩
    · refine step_pure_g hBs hFs fun a' w' hB hag hp => ?_
      have hg : a'.tmps.getD 21 undef = _ := hp 18 (by kernel_rfl)
      have h23 : a'.tmps.getD 23 undef = _ := hp 20 (by kernel_rfl)
      have h26 : a'.tmps.getD 26 undef = _ := hp 23 (by kernel_rfl)
      refine ⟨wanted_of hg rfl rfl, ?_⟩
      simp at h23 h26
      unfold OpYields
      go_simp
      exact ⟨Below.refl _ _, rfl⟩
    · refine step_pure_g hBs hFs fun a' w' hB hag hp => ?_
      have hg : a'.tmps.getD 21 undef = _ := hp 18 (by kernel_rfl)
      have h27 : a'.tmps.getD 27 undef = _ := hp 24 (by kernel_rfl)
      have ueq := Try.underlying3
      have ueqb := Try.underlying4
      refine ⟨wanted_of hg rfl rfl, ?_⟩
      simp at h27
      unfold OpYields
      go_simp
      exact ⟨Below.refl _ _, rfl⟩
    · refine step_pure hBs hFs rfl fun a' w' hB hag hp => ?_
      have h21 : a'.tmps.getD 21 undef = _ := hp 18 (by kernel_rfl)
      have h28 : a'.tmps.getD 28 undef = _ := hp 25 (by kernel_rfl)
      simp at h21 h28
      unfold OpYields
      go_simp
      exact ⟨Below.refl _ _, rfl⟩
    · refine step_pure hBs hFs rfl fun a' w' hB hag hp => ?_
      have h29 : a'.tmps.getD 29 undef = _ := hp 26 (by kernel_rfl)
      simp at h29
      unfold OpYields
      go_simp
      exact ⟨Below.refl _ _, rfl⟩
  intro vs w' hB hF
  simp only [AllF, forall_const, reduceCtorEq, false_implies, Fof, bmyF, bmyQ, Nat.zero_add, Nat.reduceAdd, Nat.reduceEqDiff, if_true, if_false, List.getD_cons_succ, List.getD_cons_zero] at hF
  obtain ⟨f0, f1, f2, f3, f4, f5, f6, f7, f8, f9, f10, f11, f12, f13, f14, f15, f16, f17, f18, f19, f20, f21, f22, f23, f24, f25, f26, f27, -⟩ := hF
  simp only [putAll, Act.put, Nat.zero_add, Nat.reduceAdd, f0, f1, f2, f3, f4, f5, f6, f7, f8, f9, f10, f11, f12, f13, f14, f15, f16, f17, f18, f19, f20, f21, f22, f23, f24, f25, f26, f27, List.setIfInBounds_toArray, List.set_cons_zero, List.set_cons_succ]
  have HB := Aside.mk (below_call HB.out hB)
  clear hB
  go_wp2
  go_ret
  exact ⟨rfl, HB.out⟩
theorem eqAct (w : World) (a b c d : Int) : (Op.equalIn 10000 56 (.agg #[.int .i64 a, .int .i64 b]) (.agg #[.int .i64 c, .int .i64 d])).run Try.prog w = .ok (decide (a = c) && decide (b = d)) w := by
  have u3 := Try.underlying3
  have a3 := Try.isAgg3
  have z3 := Try.sizeOf3
  rw [show (10000 : Nat) = 9999 + 1 from rfl, Op.equalIn]
  simp only [Sem.run_bind, run_underlying Try.underlying56, Result.andThen_ok]
  go_simp
  by_cases h1 : a = c <;> by_cases h2 : b = d <;> simp [h1, h2]
def actI (k p : Int) : Bool := (decide (k = 0) && decide (p = 0)) || ((k == 1) && decide (0 ≤ p) && decide (p ≤ 7))
def mayI (r : Rul) : Bool := actI r.kind r.port && bmI r.addr r.len && decide (-1 ≤ r.inn) && decide (r.inn ≤ 7) && decide (0 ≤ r.prio) && decide (r.prio ≤ 255)
set_option maxHeartbeats 4000000 in
theorem may_any8 (r : Rul) (w : World) : Calls Try.prog 48 #[rulV r] w fun e w' => e = .returned (.bool (mayI r)) ∧ Below w.heap.size w w' := by
  have HB := Aside.mk (below_alloc (Below.refl _ w) (.cells #[.int .i64 r.addr, .int .i64 r.len, .int .i64 r.inn, .int .i64 r.prio, .int .i64 r.kind, .int .i64 r.port] 58))
  have HX := Aside.mk (heapN w (.cells #[.int .i64 r.addr, .int .i64 r.len, .int .i64 r.inn, .int .i64 r.prio, .int .i64 r.kind, .int .i64 r.port] 58) rfl)
  have x0 := blk_cell HX.out 0; have x1 := blk_cell HX.out 1; have x2 := blk_cell HX.out 2; have x3 := blk_cell HX.out 3; have x4 := blk_cell HX.out 4; have x5 := blk_cell HX.out 5; simp at x0 x1 x2 x3 x4 x5
  have hq := eqAct
  have HE := Aside.mk (show mayI r = (actI r.kind r.port && bmI r.addr r.len && decide (-1 ≤ r.inn) && decide (r.inn ≤ 7) && decide (0 ≤ r.prio) && decide (r.prio ≤ 255)) from rfl)
  have HAC := Aside.mk (show actI r.kind r.port = ((decide (r.kind = 0) && decide (r.port = 0)) || ((r.kind == 1) && decide (0 ≤ r.port) && decide (r.port ≤ 7))) from rfl)
  go_enter Try.func48, Try.ntmps48
  obtain ⟨e, he⟩ : ∃ e, (decide (r.kind = 0) && decide (r.port = 0)) = e := ⟨_, rfl⟩
  cases e
  · cases h1 : (r.kind == 1)
    · have ha : actI r.kind r.port = false := by rw [HAC.out, he, h1]; rfl
      have hr : mayI r = false := by rw [HE.out, ha]; rfl
      rw [hr]
      have HM : Aside True := .mk trivial
      clear ha hr
      go_wp2
      go_ret
      exact ⟨rfl, HB.out⟩
    · cases h2 : decide (0 ≤ r.port)
      · have ha : actI r.kind r.port = false := by rw [HAC.out, he, h1, h2]; rfl
        have hr : mayI r = false := by rw [HE.out, ha]; rfl
        rw [hr]
        have HM : Aside True := .mk trivial
        clear ha hr
        go_wp2
        go_ret
        exact ⟨rfl, HB.out⟩
      · cases h3 : decide (r.port ≤ 7)
        · have ha : actI r.kind r.port = false := by rw [HAC.out, he, h1, h2, h3]; rfl
          have hr : mayI r = false := by rw [HE.out, ha]; rfl
          rw [hr]
          have HM : Aside True := .mk trivial
          clear ha hr
          go_wp2
          go_ret
          exact ⟨rfl, HB.out⟩
        · have ha : actI r.kind r.port = true := by rw [HAC.out, he, h1, h2, h3]; rfl
          cases hm : bmI r.addr r.len
          · have hr : mayI r = false := by rw [HE.out, ha, hm]; rfl
            rw [hr]
            have HM := Aside.mk hm
            clear ha hr hm
            go_wp2_with (go_at_call 62; refine (bitsMay_any _ _ _).mono ?_; rw [HM.out]; rintro e w1 ⟨rfl, hb1⟩; have HB := Aside.mk (below_call HB.out hb1); have HX := Aside.mk (blk_keep HX.out hb1); have x0 := blk_cell HX.out 0; have x1 := blk_cell HX.out 1; have x2 := blk_cell HX.out 2; have x3 := blk_cell HX.out 3; have x4 := blk_cell HX.out 4; have x5 := blk_cell HX.out 5; simp at x0 x1 x2 x3 x4 x5; clear hb1); go_ret; exact ⟨rfl, HB.out⟩
          · cases c1 : decide (-1 ≤ r.inn)
            · have hr : mayI r = false := by rw [HE.out, ha, hm, c1]; rfl
              rw [hr]
              have HM := Aside.mk hm
              clear ha hr hm
              go_wp2_with (go_at_call 62; refine (bitsMay_any _ _ _).mono ?_; rw [HM.out]; rintro e w1 ⟨rfl, hb1⟩; have HB := Aside.mk (below_call HB.out hb1); have HX := Aside.mk (blk_keep HX.out hb1); have x0 := blk_cell HX.out 0; have x1 := blk_cell HX.out 1; have x2 := blk_cell HX.out 2; have x3 := blk_cell HX.out 3; have x4 := blk_cell HX.out 4; have x5 := blk_cell HX.out 5; simp at x0 x1 x2 x3 x4 x5; clear hb1); go_ret; exact ⟨rfl, HB.out⟩
            · cases c2 : decide (r.inn ≤ 7)
              · have hr : mayI r = false := by rw [HE.out, ha, hm, c1, c2]; rfl
                rw [hr]
                have HM := Aside.mk hm
                clear ha hr hm
                go_wp2_with (go_at_call 62; refine (bitsMay_any _ _ _).mono ?_; rw [HM.out]; rintro e w1 ⟨rfl, hb1⟩; have HB := Aside.mk (below_call HB.out hb1); have HX := Aside.mk (blk_keep HX.out hb1); have x0 := blk_cell HX.out 0; have x1 := blk_cell HX.out 1; have x2 := blk_cell HX.out 2; have x3 := blk_cell HX.out 3; have x4 := blk_cell HX.out 4; have x5 := blk_cell HX.out 5; simp at x0 x1 x2 x3 x4 x5; clear hb1); go_ret; exact ⟨rfl, HB.out⟩
              · cases c3 : decide (0 ≤ r.prio)
                · have hr : mayI r = false := by rw [HE.out, ha, hm, c1, c2, c3]; rfl
                  rw [hr]
                  have HM := Aside.mk hm
                  clear ha hr hm
                  go_wp2_with (go_at_call 62; refine (bitsMay_any _ _ _).mono ?_; rw [HM.out]; rintro e w1 ⟨rfl, hb1⟩; have HB := Aside.mk (below_call HB.out hb1); have HX := Aside.mk (blk_keep HX.out hb1); have x0 := blk_cell HX.out 0; have x1 := blk_cell HX.out 1; have x2 := blk_cell HX.out 2; have x3 := blk_cell HX.out 3; have x4 := blk_cell HX.out 4; have x5 := blk_cell HX.out 5; simp at x0 x1 x2 x3 x4 x5; clear hb1); go_ret; exact ⟨rfl, HB.out⟩
                · cases c4 : decide (r.prio ≤ 255)
                  · have hr : mayI r = false := by rw [HE.out, ha, hm, c1, c2, c3, c4]; rfl
                    rw [hr]
                    have HM := Aside.mk hm
                    clear ha hr hm
                    go_wp2_with (go_at_call 62; refine (bitsMay_any _ _ _).mono ?_; rw [HM.out]; rintro e w1 ⟨rfl, hb1⟩; have HB := Aside.mk (below_call HB.out hb1); have HX := Aside.mk (blk_keep HX.out hb1); have x0 := blk_cell HX.out 0; have x1 := blk_cell HX.out 1; have x2 := blk_cell HX.out 2; have x3 := blk_cell HX.out 3; have x4 := blk_cell HX.out 4; have x5 := blk_cell HX.out 5; simp at x0 x1 x2 x3 x4 x5; clear hb1); go_ret; exact ⟨rfl, HB.out⟩
                  · have hr : mayI r = true := by rw [HE.out, ha, hm, c1, c2, c3, c4]; rfl
                    rw [hr]
                    have HM := Aside.mk hm
                    clear ha hr hm
                    go_wp2_with (go_at_call 62; refine (bitsMay_any _ _ _).mono ?_; rw [HM.out]; rintro e w1 ⟨rfl, hb1⟩; have HB := Aside.mk (below_call HB.out hb1); have HX := Aside.mk (blk_keep HX.out hb1); have x0 := blk_cell HX.out 0; have x1 := blk_cell HX.out 1; have x2 := blk_cell HX.out 2; have x3 := blk_cell HX.out 3; have x4 := blk_cell HX.out 4; have x5 := blk_cell HX.out 5; simp at x0 x1 x2 x3 x4 x5; clear hb1); go_ret; exact ⟨rfl, HB.out⟩
  · have ha : actI r.kind r.port = true := by rw [HAC.out, he]; rfl
    cases hm : bmI r.addr r.len
    · have hr : mayI r = false := by rw [HE.out, ha, hm]; rfl
      rw [hr]
      have HM := Aside.mk hm
      clear ha hr hm
      go_wp2_with (go_at_call 62; refine (bitsMay_any _ _ _).mono ?_; rw [HM.out]; rintro e w1 ⟨rfl, hb1⟩; have HB := Aside.mk (below_call HB.out hb1); have HX := Aside.mk (blk_keep HX.out hb1); have x0 := blk_cell HX.out 0; have x1 := blk_cell HX.out 1; have x2 := blk_cell HX.out 2; have x3 := blk_cell HX.out 3; have x4 := blk_cell HX.out 4; have x5 := blk_cell HX.out 5; simp at x0 x1 x2 x3 x4 x5; clear hb1); go_ret; exact ⟨rfl, HB.out⟩
    · cases c1 : decide (-1 ≤ r.inn)
      · have hr : mayI r = false := by rw [HE.out, ha, hm, c1]; rfl
        rw [hr]
        have HM := Aside.mk hm
        clear ha hr hm
        go_wp2_with (go_at_call 62; refine (bitsMay_any _ _ _).mono ?_; rw [HM.out]; rintro e w1 ⟨rfl, hb1⟩; have HB := Aside.mk (below_call HB.out hb1); have HX := Aside.mk (blk_keep HX.out hb1); have x0 := blk_cell HX.out 0; have x1 := blk_cell HX.out 1; have x2 := blk_cell HX.out 2; have x3 := blk_cell HX.out 3; have x4 := blk_cell HX.out 4; have x5 := blk_cell HX.out 5; simp at x0 x1 x2 x3 x4 x5; clear hb1); go_ret; exact ⟨rfl, HB.out⟩
      · cases c2 : decide (r.inn ≤ 7)
        · have hr : mayI r = false := by rw [HE.out, ha, hm, c1, c2]; rfl
          rw [hr]
          have HM := Aside.mk hm
          clear ha hr hm
          go_wp2_with (go_at_call 62; refine (bitsMay_any _ _ _).mono ?_; rw [HM.out]; rintro e w1 ⟨rfl, hb1⟩; have HB := Aside.mk (below_call HB.out hb1); have HX := Aside.mk (blk_keep HX.out hb1); have x0 := blk_cell HX.out 0; have x1 := blk_cell HX.out 1; have x2 := blk_cell HX.out 2; have x3 := blk_cell HX.out 3; have x4 := blk_cell HX.out 4; have x5 := blk_cell HX.out 5; simp at x0 x1 x2 x3 x4 x5; clear hb1); go_ret; exact ⟨rfl, HB.out⟩
        · cases c3 : decide (0 ≤ r.prio)
          · have hr : mayI r = false := by rw [HE.out, ha, hm, c1, c2, c3]; rfl
            rw [hr]
            have HM := Aside.mk hm
            clear ha hr hm
            go_wp2_with (go_at_call 62; refine (bitsMay_any _ _ _).mono ?_; rw [HM.out]; rintro e w1 ⟨rfl, hb1⟩; have HB := Aside.mk (below_call HB.out hb1); have HX := Aside.mk (blk_keep HX.out hb1); have x0 := blk_cell HX.out 0; have x1 := blk_cell HX.out 1; have x2 := blk_cell HX.out 2; have x3 := blk_cell HX.out 3; have x4 := blk_cell HX.out 4; have x5 := blk_cell HX.out 5; simp at x0 x1 x2 x3 x4 x5; clear hb1); go_ret; exact ⟨rfl, HB.out⟩
          · cases c4 : decide (r.prio ≤ 255)
            · have hr : mayI r = false := by rw [HE.out, ha, hm, c1, c2, c3, c4]; rfl
              rw [hr]
              have HM := Aside.mk hm
              clear ha hr hm
              go_wp2_with (go_at_call 62; refine (bitsMay_any _ _ _).mono ?_; rw [HM.out]; rintro e w1 ⟨rfl, hb1⟩; have HB := Aside.mk (below_call HB.out hb1); have HX := Aside.mk (blk_keep HX.out hb1); have x0 := blk_cell HX.out 0; have x1 := blk_cell HX.out 1; have x2 := blk_cell HX.out 2; have x3 := blk_cell HX.out 3; have x4 := blk_cell HX.out 4; have x5 := blk_cell HX.out 5; simp at x0 x1 x2 x3 x4 x5; clear hb1); go_ret; exact ⟨rfl, HB.out⟩
            · have hr : mayI r = true := by rw [HE.out, ha, hm, c1, c2, c3, c4]; rfl
              rw [hr]
              have HM := Aside.mk hm
              clear ha hr hm
              go_wp2_with (go_at_call 62; refine (bitsMay_any _ _ _).mono ?_; rw [HM.out]; rintro e w1 ⟨rfl, hb1⟩; have HB := Aside.mk (below_call HB.out hb1); have HX := Aside.mk (blk_keep HX.out hb1); have x0 := blk_cell HX.out 0; have x1 := blk_cell HX.out 1; have x2 := blk_cell HX.out 2; have x3 := blk_cell HX.out 3; have x4 := blk_cell HX.out 4; have x5 := blk_cell HX.out 5; simp at x0 x1 x2 x3 x4 x5; clear hb1); go_ret; exact ⟨rfl, HB.out⟩
/-- Whether two rules are for the same packets, in the same place. -/
def alikeI (a b : Rul) : Bool := decide ({ a with kind := 0, port := 0 } = { b with kind := 0, port := 0 })
end Go.Proofs.Ytlnnkkbcmidddaa
