/- The walk through pick.stand. -/
import Derived.Test.YtlnnkkbcmidddaaSortA
namespace Go.Proofs.Ytlnnkkbcmidddaa
open Go.RowKit
set_option maxRecDepth 100000
def standI (a b : Rul) : Int := or4 (cntI a b) (cmpI a.addr b.addr) (cmpI a.kind b.kind) (cmpI a.port b.port)
def stdB (a b : Rul) (q : Nat) (wr : World) (w' : World) : Prop :=
  Below wr.heap.size wr w'
def stdF (a b : Rul) (q : Nat) (wr : World) : List (Value → Value → World → Prop) :=
  [fun _ v _ => v = .func (.func 68) #[rulV a] #[],
   fun _ v _ => v = rulV b,
   fun _ v _ => v = .int .i64 (cntI a b),
   fun _ v _ => v = .pointer (some ⟨q, 0, none⟩),
   fun _ v _ => v = .pointer (some ⟨q, 0, none⟩),
   fun _ v _ => v = .int .i64 a.addr,
   fun _ v _ => v = .pointer (some ⟨q + 1, 0, none⟩),
   fun _ v _ => v = .pointer (some ⟨q + 1, 0, none⟩),
   fun _ v _ => v = .int .i64 b.addr,
   fun _ v _ => v = .int .i64 (cmpI a.addr b.addr),
   fun _ v _ => v = .pointer (some ⟨q, 4, none⟩),
   fun _ v _ => v = .pointer (some ⟨q, 4, none⟩),
   fun _ v _ => v = .int .i64 a.kind,
   fun _ v _ => v = .pointer (some ⟨q + 1, 4, none⟩),
   fun _ v _ => v = .pointer (some ⟨q + 1, 4, none⟩),
   fun _ v _ => v = .int .i64 b.kind,
   fun _ v _ => v = .int .i64 (cmpI a.kind b.kind),
   fun _ v _ => v = .pointer (some ⟨q, 4, none⟩),
   fun _ v _ => v = .pointer (some ⟨q, 5, none⟩),
   fun _ v _ => v = .int .i64 a.port,
   fun _ v _ => v = .pointer (some ⟨q + 1, 4, none⟩),
   fun _ v _ => v = .pointer (some ⟨q + 1, 5, none⟩),
   fun _ v _ => v = .int .i64 b.port,
   fun _ v _ => v = .int .i64 (cmpI a.port b.port),
   fun _ v w' => ∃ r, v = .slice (some ⟨r, 0, none⟩) 4 4 ∧ w'.heap[r]? = some (.cells #[.int .i64 (cntI a b), .int .i64 (cmpI a.addr b.addr), .int .i64 (cmpI a.kind b.kind), .int .i64 (cmpI a.port b.port)] 3),
   fun _ v _ => v = .int .i64 (standI a b),
   fun _ v _ => v = .int .i64 (standI a b)]
def stdQ : Nat → Nat := fun i => i
theorem stdF_stay (a b : Rul) (q : Nat) (wr : World) : AllStay (stdF a b q wr) := by
  intro F hF u v w' w'' hb h
  simp only [stdF, List.mem_cons, List.not_mem_nil, or_false] at hF
  rcases hF with rfl | rfl | rfl | rfl | rfl | rfl | rfl | rfl | rfl | rfl | rfl | rfl | rfl | rfl | rfl | rfl | rfl | rfl | rfl | rfl | rfl | rfl | rfl | rfl | rfl | rfl | rfl
  · exact h
  · exact h
  · exact h
  · exact h
  · exact h
  · exact h
  · exact h
  · exact h
  · exact h
  · exact h
  · exact h
  · exact h
  · exact h
  · exact h
  · exact h
  · exact h
  · exact h
  · exact h
  · exact h
  · exact h
  · exact h
  · exact h
  · exact h
  · exact h
  · obtain ⟨r, e, h1⟩ := h
    exact ⟨r, e, blk_keep h1 hb⟩
  · exact h
  · exact h
theorem stdB_stay (a b : Rul) (q : Nat) (wr : World) : Stays (stdB a b q wr) := by
  intro w' w'' hb h
  exact below_call h hb
set_option maxHeartbeats 2000000 in
theorem stand_any (a b : Rul) (w : World) : Calls Try.prog 54 #[rulV a, rulV b] w fun e w' => e = .returned (.int .i64 (standI a b)) ∧ Below w.heap.size w w' := by
  have HB := Aside.mk (below_alloc (below_alloc (Below.refl _ w) (.cells #[.int .i64 a.addr, .int .i64 a.len, .int .i64 a.inn, .int .i64 a.prio, .int .i64 a.kind, .int .i64 a.port] 58)) (.cells #[.int .i64 b.addr, .int .i64 b.len, .int .i64 b.inn, .int .i64 b.prio, .int .i64 b.kind, .int .i64 b.port] 58))
  have HX := heapO (heapN w (.cells #[.int .i64 a.addr, .int .i64 a.len, .int .i64 a.inn, .int .i64 a.prio, .int .i64 a.kind, .int .i64 a.port] 58) rfl) (.cells #[.int .i64 b.addr, .int .i64 b.len, .int .i64 b.inn, .int .i64 b.prio, .int .i64 b.kind, .int .i64 b.port] 58)
  have HY := heapN (w.alloc (.cells #[.int .i64 a.addr, .int .i64 a.len, .int .i64 a.inn, .int .i64 a.prio, .int .i64 a.kind, .int .i64 a.port] 58)) (.cells #[.int .i64 b.addr, .int .i64 b.len, .int .i64 b.inn, .int .i64 b.prio, .int .i64 b.kind, .int .i64 b.port] 58) rfl
  have hq : w.heap.size < ((w.alloc (.cells #[.int .i64 a.addr, .int .i64 a.len, .int .i64 a.inn, .int .i64 a.prio, .int .i64 a.kind, .int .i64 a.port] 58)).alloc (.cells #[.int .i64 b.addr, .int .i64 b.len, .int .i64 b.inn, .int .i64 b.prio, .int .i64 b.kind, .int .i64 b.port] 58)).heap.size := by simp; omega
  have hq1 : w.heap.size + 1 < ((w.alloc (.cells #[.int .i64 a.addr, .int .i64 a.len, .int .i64 a.inn, .int .i64 a.prio, .int .i64 a.kind, .int .i64 a.port] 58)).alloc (.cells #[.int .i64 b.addr, .int .i64 b.len, .int .i64 b.inn, .int .i64 b.prio, .int .i64 b.kind, .int .i64 b.port] 58)).heap.size := by simp
  simp only [World.size_alloc] at HY
  go_enter Try.func54, Try.ntmps54
  go_wp2
  generalize (w.alloc (.cells #[.int .i64 a.addr, .int .i64 a.len, .int .i64 a.inn, .int .i64 a.prio, .int .i64 a.kind, .int .i64 a.port] 58)).alloc (.cells #[.int .i64 b.addr, .int .i64 b.len, .int .i64 b.inn, .int .i64 b.prio, .int .i64 b.kind, .int .i64 b.port] 58) = W at *
  have X0 := Aside.mk (blk_cell HX 0)
  have X4 := Aside.mk (blk_cell HX 4)
  have X5 := Aside.mk (blk_cell HX 5)
  have Y0 := Aside.mk (blk_cell HY 0)
  have Y1 := Aside.mk (blk_cell HY 1)
  have Y2 := Aside.mk (blk_cell HY 2)
  have Y3 := Aside.mk (blk_cell HY 3)
  have Y4 := Aside.mk (blk_cell HY 4)
  have Y5 := Aside.mk (blk_cell HY 5)
  clear HX HY
  refine wp_region_facts (Base := stdB a b w.heap.size W) (q := stdQ) (Fs := stdF a b w.heap.size W) (by kernel_rfl) (by kernel_rfl) (by kernel_rfl) (by kernel_rfl) (below_drew (Below.refl _ _)) ?_ ?_
  ·
    have hBs := stdB_stay a b w.heap.size W
    have hFs := stdF_stay a b w.heap.size W
    refine ⟨?_, ?_, ?_, ?_, ?_, ?_, ?_, ?_, ?_, ?_, ?_, ?_, ?_, ?_, ?_, ?_, ?_, ?_, ?_, ?_, ?_, ?_, ?_, ?_, ?_, ?_, ?_, trivial⟩
    · refine step_pure hBs hFs rfl fun a' w' hB hag hp => ?_
      have h5 := hag 5 (by kernel_rfl)
      simp at h5
      unfold OpYields
      go_simp
      exact ⟨Below.refl _ _, rfl⟩
    · refine step_pure hBs hFs rfl fun a' w' hB hag hp => ?_
      have h3 := hag 3 (by kernel_rfl)
      have hB : Below W.heap.size W w' := hB; have x0 := (hB.cell (p := ⟨w.heap.size, 0, none⟩) hq).trans X0.out; have x4 := (hB.cell (p := ⟨w.heap.size, 4, none⟩) hq).trans X4.out; have x5 := (hB.cell (p := ⟨w.heap.size, 5, none⟩) hq).trans X5.out; have y0 := (hB.cell (p := ⟨w.heap.size + 1, 0, none⟩) hq1).trans Y0.out; have y1 := (hB.cell (p := ⟨w.heap.size + 1, 1, none⟩) hq1).trans Y1.out; have y2 := (hB.cell (p := ⟨w.heap.size + 1, 2, none⟩) hq1).trans Y2.out; have y3 := (hB.cell (p := ⟨w.heap.size + 1, 3, none⟩) hq1).trans Y3.out; have y4 := (hB.cell (p := ⟨w.heap.size + 1, 4, none⟩) hq1).trans Y4.out; have y5 := (hB.cell (p := ⟨w.heap.size + 1, 5, none⟩) hq1).trans Y5.out
      simp at h3
      unfold OpYields
      go_simp
      exact ⟨Below.refl _ _, rfl⟩
    · refine step_pure hBs hFs rfl fun a' w' hB hag hp => ?_
      have h8 : a'.tmps.getD 8 undef = _ := hp 0 (by kernel_rfl)
      have h9 : a'.tmps.getD 9 undef = _ := hp 1 (by kernel_rfl)
      simp at h8 h9
      unfold OpYields
      go_simp
      refine (compare_any a b w').mono ?_
      rintro e w1 ⟨rfl, hb⟩
      exact ⟨_, rfl, hb, rfl⟩
    · refine step_pure hBs hFs rfl fun a' w' hB hag hp => ?_
      have h2 := hag 2 (by kernel_rfl)
      simp at h2
      unfold OpYields
      go_simp
      exact ⟨Below.refl _ _, rfl⟩
    · refine step_pure hBs hFs rfl fun a' w' hB hag hp => ?_
      have h11 : a'.tmps.getD 11 undef = _ := hp 3 (by kernel_rfl)
      simp at h11
      unfold OpYields
      go_simp
      exact ⟨Below.refl _ _, rfl⟩
    · refine step_pure hBs hFs rfl fun a' w' hB hag hp => ?_
      have h12 : a'.tmps.getD 12 undef = _ := hp 4 (by kernel_rfl)
      have hB : Below W.heap.size W w' := hB; have x0 := (hB.cell (p := ⟨w.heap.size, 0, none⟩) hq).trans X0.out; have x4 := (hB.cell (p := ⟨w.heap.size, 4, none⟩) hq).trans X4.out; have x5 := (hB.cell (p := ⟨w.heap.size, 5, none⟩) hq).trans X5.out; have y0 := (hB.cell (p := ⟨w.heap.size + 1, 0, none⟩) hq1).trans Y0.out; have y1 := (hB.cell (p := ⟨w.heap.size + 1, 1, none⟩) hq1).trans Y1.out; have y2 := (hB.cell (p := ⟨w.heap.size + 1, 2, none⟩) hq1).trans Y2.out; have y3 := (hB.cell (p := ⟨w.heap.size + 1, 3, none⟩) hq1).trans Y3.out; have y4 := (hB.cell (p := ⟨w.heap.size + 1, 4, none⟩) hq1).trans Y4.out; have y5 := (hB.cell (p := ⟨w.heap.size + 1, 5, none⟩) hq1).trans Y5.out
      simp at h12
      unfold OpYields
      go_simp
      exact ⟨Below.refl _ _, rfl⟩
    · refine step_pure hBs hFs rfl fun a' w' hB hag hp => ?_
      have h3 := hag 3 (by kernel_rfl)
      simp at h3
      unfold OpYields
      go_simp
      exact ⟨Below.refl _ _, rfl⟩
    · refine step_pure hBs hFs rfl fun a' w' hB hag hp => ?_
      have h14 : a'.tmps.getD 14 undef = _ := hp 6 (by kernel_rfl)
      simp at h14
      unfold OpYields
      go_simp
      exact ⟨Below.refl _ _, rfl⟩
    · refine step_pure hBs hFs rfl fun a' w' hB hag hp => ?_
      have h15 : a'.tmps.getD 15 undef = _ := hp 7 (by kernel_rfl)
      have hB : Below W.heap.size W w' := hB; have x0 := (hB.cell (p := ⟨w.heap.size, 0, none⟩) hq).trans X0.out; have x4 := (hB.cell (p := ⟨w.heap.size, 4, none⟩) hq).trans X4.out; have x5 := (hB.cell (p := ⟨w.heap.size, 5, none⟩) hq).trans X5.out; have y0 := (hB.cell (p := ⟨w.heap.size + 1, 0, none⟩) hq1).trans Y0.out; have y1 := (hB.cell (p := ⟨w.heap.size + 1, 1, none⟩) hq1).trans Y1.out; have y2 := (hB.cell (p := ⟨w.heap.size + 1, 2, none⟩) hq1).trans Y2.out; have y3 := (hB.cell (p := ⟨w.heap.size + 1, 3, none⟩) hq1).trans Y3.out; have y4 := (hB.cell (p := ⟨w.heap.size + 1, 4, none⟩) hq1).trans Y4.out; have y5 := (hB.cell (p := ⟨w.heap.size + 1, 5, none⟩) hq1).trans Y5.out
      simp at h15
      unfold OpYields
      go_simp
      exact ⟨Below.refl _ _, rfl⟩
    · refine step_pure hBs hFs rfl fun a' w' hB hag hp => ?_
      have h13 : a'.tmps.getD 13 undef = _ := hp 5 (by kernel_rfl)
      have h16 : a'.tmps.getD 16 undef = _ := hp 8 (by kernel_rfl)
      simp at h13 h16
      unfold OpYields
      go_simp
      refine (cmp_any _ _ w').mono ?_
      rintro e w1 ⟨rfl, rfl⟩
      exact ⟨_, rfl, Below.refl _ _, rfl⟩
    · refine step_pure hBs hFs rfl fun a' w' hB hag hp => ?_
      have h2 := hag 2 (by kernel_rfl)
      simp at h2
      unfold OpYields
      go_simp
      exact ⟨Below.refl _ _, rfl⟩
    · refine step_pure hBs hFs rfl fun a' w' hB hag hp => ?_
      have h18 : a'.tmps.getD 18 undef = _ := hp 10 (by kernel_rfl)
      simp at h18
      unfold OpYields
      go_simp
      exact ⟨Below.refl _ _, rfl⟩
    · refine step_pure hBs hFs rfl fun a' w' hB hag hp => ?_
      have h19 : a'.tmps.getD 19 undef = _ := hp 11 (by kernel_rfl)
      have hB : Below W.heap.size W w' := hB; have x0 := (hB.cell (p := ⟨w.heap.size, 0, none⟩) hq).trans X0.out; have x4 := (hB.cell (p := ⟨w.heap.size, 4, none⟩) hq).trans X4.out; have x5 := (hB.cell (p := ⟨w.heap.size, 5, none⟩) hq).trans X5.out; have y0 := (hB.cell (p := ⟨w.heap.size + 1, 0, none⟩) hq1).trans Y0.out; have y1 := (hB.cell (p := ⟨w.heap.size + 1, 1, none⟩) hq1).trans Y1.out; have y2 := (hB.cell (p := ⟨w.heap.size + 1, 2, none⟩) hq1).trans Y2.out; have y3 := (hB.cell (p := ⟨w.heap.size + 1, 3, none⟩) hq1).trans Y3.out; have y4 := (hB.cell (p := ⟨w.heap.size + 1, 4, none⟩) hq1).trans Y4.out; have y5 := (hB.cell (p := ⟨w.heap.size + 1, 5, none⟩) hq1).trans Y5.out
      simp at h19
      unfold OpYields
      go_simp
      exact ⟨Below.refl _ _, rfl⟩
    · refine step_pure hBs hFs rfl fun a' w' hB hag hp => ?_
      have h3 := hag 3 (by kernel_rfl)
      simp at h3
      unfold OpYields
      go_simp
      exact ⟨Below.refl _ _, rfl⟩
    · refine step_pure hBs hFs rfl fun a' w' hB hag hp => ?_
      have h21 : a'.tmps.getD 21 undef = _ := hp 13 (by kernel_rfl)
      simp at h21
      unfold OpYields
      go_simp
      exact ⟨Below.refl _ _, rfl⟩
    · refine step_pure hBs hFs rfl fun a' w' hB hag hp => ?_
      have h22 : a'.tmps.getD 22 undef = _ := hp 14 (by kernel_rfl)
      have hB : Below W.heap.size W w' := hB; have x0 := (hB.cell (p := ⟨w.heap.size, 0, none⟩) hq).trans X0.out; have x4 := (hB.cell (p := ⟨w.heap.size, 4, none⟩) hq).trans X4.out; have x5 := (hB.cell (p := ⟨w.heap.size, 5, none⟩) hq).trans X5.out; have y0 := (hB.cell (p := ⟨w.heap.size + 1, 0, none⟩) hq1).trans Y0.out; have y1 := (hB.cell (p := ⟨w.heap.size + 1, 1, none⟩) hq1).trans Y1.out; have y2 := (hB.cell (p := ⟨w.heap.size + 1, 2, none⟩) hq1).trans Y2.out; have y3 := (hB.cell (p := ⟨w.heap.size + 1, 3, none⟩) hq1).trans Y3.out; have y4 := (hB.cell (p := ⟨w.heap.size + 1, 4, none⟩) hq1).trans Y4.out; have y5 := (hB.cell (p := ⟨w.heap.size + 1, 5, none⟩) hq1).trans Y5.out
      simp at h22
      unfold OpYields
      go_simp
      exact ⟨Below.refl _ _, rfl⟩
    · refine step_pure hBs hFs rfl fun a' w' hB hag hp => ?_
      have h20 : a'.tmps.getD 20 undef = _ := hp 12 (by kernel_rfl)
      have h23 : a'.tmps.getD 23 undef = _ := hp 15 (by kernel_rfl)
      simp at h20 h23
      unfold OpYields
      go_simp
      refine (cmp_any _ _ w').mono ?_
      rintro e w1 ⟨rfl, rfl⟩
      exact ⟨_, rfl, Below.refl _ _, rfl⟩
    · refine step_pure hBs hFs rfl fun a' w' hB hag hp => ?_
      have h2 := hag 2 (by kernel_rfl)
      simp at h2
      unfold OpYields
      go_simp
      exact ⟨Below.refl _ _, rfl⟩
    · refine step_pure hBs hFs rfl fun a' w' hB hag hp => ?_
      have h25 : a'.tmps.getD 25 undef = _ := hp 17 (by kernel_rfl)
      simp at h25
      unfold OpYields
      go_simp
      exact ⟨Below.refl _ _, rfl⟩
    · refine step_pure hBs hFs rfl fun a' w' hB hag hp => ?_
      have h26 : a'.tmps.getD 26 undef = _ := hp 18 (by kernel_rfl)
      have hB : Below W.heap.size W w' := hB; have x0 := (hB.cell (p := ⟨w.heap.size, 0, none⟩) hq).trans X0.out; have x4 := (hB.cell (p := ⟨w.heap.size, 4, none⟩) hq).trans X4.out; have x5 := (hB.cell (p := ⟨w.heap.size, 5, none⟩) hq).trans X5.out; have y0 := (hB.cell (p := ⟨w.heap.size + 1, 0, none⟩) hq1).trans Y0.out; have y1 := (hB.cell (p := ⟨w.heap.size + 1, 1, none⟩) hq1).trans Y1.out; have y2 := (hB.cell (p := ⟨w.heap.size + 1, 2, none⟩) hq1).trans Y2.out; have y3 := (hB.cell (p := ⟨w.heap.size + 1, 3, none⟩) hq1).trans Y3.out; have y4 := (hB.cell (p := ⟨w.heap.size + 1, 4, none⟩) hq1).trans Y4.out; have y5 := (hB.cell (p := ⟨w.heap.size + 1, 5, none⟩) hq1).trans Y5.out
      simp at h26
      unfold OpYields
      go_simp
      exact ⟨Below.refl _ _, rfl⟩
    · refine step_pure hBs hFs rfl fun a' w' hB hag hp => ?_
      have h3 := hag 3 (by kernel_rfl)
      simp at h3
      unfold OpYields
      go_simp
      exact ⟨Below.refl _ _, rfl⟩
    · refine step_pure hBs hFs rfl fun a' w' hB hag hp => ?_
      have h28 : a'.tmps.getD 28 undef = _ := hp 20 (by kernel_rfl)
      simp at h28
      unfold OpYields
      go_simp
      exact ⟨Below.refl _ _, rfl⟩
    · refine step_pure hBs hFs rfl fun a' w' hB hag hp => ?_
      have h29 : a'.tmps.getD 29 undef = _ := hp 21 (by kernel_rfl)
      have hB : Below W.heap.size W w' := hB; have x0 := (hB.cell (p := ⟨w.heap.size, 0, none⟩) hq).trans X0.out; have x4 := (hB.cell (p := ⟨w.heap.size, 4, none⟩) hq).trans X4.out; have x5 := (hB.cell (p := ⟨w.heap.size, 5, none⟩) hq).trans X5.out; have y0 := (hB.cell (p := ⟨w.heap.size + 1, 0, none⟩) hq1).trans Y0.out; have y1 := (hB.cell (p := ⟨w.heap.size + 1, 1, none⟩) hq1).trans Y1.out; have y2 := (hB.cell (p := ⟨w.heap.size + 1, 2, none⟩) hq1).trans Y2.out; have y3 := (hB.cell (p := ⟨w.heap.size + 1, 3, none⟩) hq1).trans Y3.out; have y4 := (hB.cell (p := ⟨w.heap.size + 1, 4, none⟩) hq1).trans Y4.out; have y5 := (hB.cell (p := ⟨w.heap.size + 1, 5, none⟩) hq1).trans Y5.out
      simp at h29
      unfold OpYields
      go_simp
      exact ⟨Below.refl _ _, rfl⟩
    · refine step_pure hBs hFs rfl fun a' w' hB hag hp => ?_
      have h27 : a'.tmps.getD 27 undef = _ := hp 19 (by kernel_rfl)
      have h30 : a'.tmps.getD 30 undef = _ := hp 22 (by kernel_rfl)
      simp at h27 h30
      unfold OpYields
      go_simp
      refine (cmp_any _ _ w').mono ?_
      rintro e w1 ⟨rfl, rfl⟩
      exact ⟨_, rfl, Below.refl _ _, rfl⟩
    · refine step_pure hBs hFs rfl fun a' w' hB hag hp => ?_
      have h10 : a'.tmps.getD 10 undef = _ := hp 2 (by kernel_rfl)
      have h17 : a'.tmps.getD 17 undef = _ := hp 9 (by kernel_rfl)
      have h24 : a'.tmps.getD 24 undef = _ := hp 16 (by kernel_rfl)
      have h31 : a'.tmps.getD 31 undef = _ := hp 23 (by kernel_rfl)
      simp at h10 h17 h24 h31
      unfold OpYields
      go_simp
      exact ⟨(Below.refl _ _).alloc (Nat.le_refl _) _, _, rfl, heapN _ _ rfl⟩
    · refine step_pure hBs hFs rfl fun a' w' hB hag hp => ?_
      have h32 := hp 24 (by kernel_rfl)
      replace h32 : _ := h32
      obtain ⟨r, e, hr⟩ : ∃ r, a'.tmps.getD 32 undef = .slice (some ⟨r, 0, none⟩) 4 4 ∧ w'.heap[r]? = some (.cells #[.int .i64 (cntI a b), .int .i64 (cmpI a.addr b.addr), .int .i64 (cmpI a.kind b.kind), .int .i64 (cmpI a.port b.port)] 3) := h32
      simp at e
      unfold OpYields
      go_simp
      refine (or_any _ _ _ _ r w' hr).mono ?_
      rintro e w1 ⟨rfl, rfl⟩
      exact ⟨_, rfl, Below.refl _ _, rfl⟩
    · refine step_pure hBs hFs rfl fun a' w' hB hag hp => ?_
      have h33 : a'.tmps.getD 33 undef = _ := hp 25 (by kernel_rfl)
      simp at h33
      unfold OpYields
      go_simp
      exact ⟨Below.refl _ _, rfl⟩
  intro vs w' hB hF
  simp only [AllF, forall_const, reduceCtorEq, false_implies, Fof, stdF, stdQ, Nat.zero_add, Nat.reduceAdd, Nat.reduceEqDiff, if_true, if_false, List.getD_cons_succ, List.getD_cons_zero] at hF
  obtain ⟨f0, f1, f2, f3, f4, f5, f6, f7, f8, f9, f10, f11, f12, f13, f14, f15, f16, f17, f18, f19, f20, f21, f22, f23, ⟨r, f24, hr⟩, f25, f26, -⟩ := hF
  simp only [putAll, Act.put, Nat.zero_add, Nat.reduceAdd, f0, f1, f2, f3, f4, f5, f6, f7, f8, f9, f10, f11, f12, f13, f14, f15, f16, f17, f18, f19, f20, f21, f22, f23, f24, f25, f26, List.setIfInBounds_toArray, List.set_cons_zero, List.set_cons_succ]
  have hB' : Below W.heap.size W w' := hB
  have HB := Aside.mk (below_call HB.out hB')
  clear hB hB' hr
  go_wp2
  go_ret
  exact ⟨rfl, HB.out⟩

/-- What the comparison tells is which stands ahead. -/
theorem standI_lt (a b : Rul) : standI a b < 0 ↔ ltR a b := by
  obtain ⟨a1, a2, a3, a4, a5, a6⟩ := a
  obtain ⟨b1, b2, b3, b4, b5, b6⟩ := b
  rcases Int.lt_trichotomy a2 b2 with h | rfl | h
  · have n1 : ¬ a2 = b2 := by omega
    have n2 : ¬ b2 = a2 := by omega
    have n3 : ¬ b2 < a2 := by omega
    simp [standI, or4, cntI, aheadI, cmpI, ltR, n1, n2, n3, h]
  · skip
    rcases Int.lt_trichotomy a4 b4 with h | rfl | h
    · have n1 : ¬ a4 = b4 := by omega
      have n2 : ¬ b4 = a4 := by omega
      have n3 : ¬ b4 < a4 := by omega
      simp [standI, or4, cntI, aheadI, cmpI, ltR, n1, n2, n3, h]
    · skip
      rcases Int.lt_trichotomy a3 b3 with h | rfl | h
      · have n1 : ¬ a3 = b3 := by omega
        have n2 : ¬ b3 = a3 := by omega
        have n3 : ¬ b3 < a3 := by omega
        simp [standI, or4, cntI, aheadI, cmpI, ltR, n1, n2, n3, h]
      · skip
        rcases Int.lt_trichotomy a1 b1 with h | rfl | h
        · have n1 : ¬ a1 = b1 := by omega
          have n2 : ¬ b1 = a1 := by omega
          have n3 : ¬ b1 < a1 := by omega
          simp [standI, or4, cntI, aheadI, cmpI, ltR, n1, n2, n3, h]
        · skip
          rcases Int.lt_trichotomy a5 b5 with h | rfl | h
          · have n1 : ¬ a5 = b5 := by omega
            have n2 : ¬ b5 = a5 := by omega
            have n3 : ¬ b5 < a5 := by omega
            simp [standI, or4, cntI, aheadI, cmpI, ltR, n1, n2, n3, h]
          · skip
            rcases Int.lt_trichotomy a6 b6 with h | rfl | h
            · have n1 : ¬ a6 = b6 := by omega
              have n2 : ¬ b6 = a6 := by omega
              have n3 : ¬ b6 < a6 := by omega
              simp [standI, or4, cntI, aheadI, cmpI, ltR, n1, n2, n3, h]
            · skip
              simp [standI, or4, cntI, aheadI, cmpI, ltR]
            · have n1 : ¬ a6 = b6 := by omega
              have n2 : ¬ b6 = a6 := by omega
              have n3 : ¬ a6 < b6 := by omega
              simp [standI, or4, cntI, aheadI, cmpI, ltR, n1, n2, n3, h]
          · have n1 : ¬ a5 = b5 := by omega
            have n2 : ¬ b5 = a5 := by omega
            have n3 : ¬ a5 < b5 := by omega
            simp [standI, or4, cntI, aheadI, cmpI, ltR, n1, n2, n3, h]
        · have n1 : ¬ a1 = b1 := by omega
          have n2 : ¬ b1 = a1 := by omega
          have n3 : ¬ a1 < b1 := by omega
          simp [standI, or4, cntI, aheadI, cmpI, ltR, n1, n2, n3, h]
      · have n1 : ¬ a3 = b3 := by omega
        have n2 : ¬ b3 = a3 := by omega
        have n3 : ¬ a3 < b3 := by omega
        simp [standI, or4, cntI, aheadI, cmpI, ltR, n1, n2, n3, h]
    · have n1 : ¬ a4 = b4 := by omega
      have n2 : ¬ b4 = a4 := by omega
      have n3 : ¬ a4 < b4 := by omega
      simp [standI, or4, cntI, aheadI, cmpI, ltR, n1, n2, n3, h]
  · have n1 : ¬ a2 = b2 := by omega
    have n2 : ¬ b2 = a2 := by omega
    have n3 : ¬ a2 < b2 := by omega
    simp [standI, or4, cntI, aheadI, cmpI, ltR, n1, n2, n3, h]
end Go.Proofs.Ytlnnkkbcmidddaa
