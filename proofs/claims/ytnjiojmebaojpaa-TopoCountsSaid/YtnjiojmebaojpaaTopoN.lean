/- The walk through TopoCounts. -/
import Derived.Test.YtnjiojmebaojpaaTopoA
import Derived.Test.YtnjiojmebaojpaaTopoK
import Derived.Test.YtnjiojmebaojpaaTopoO
namespace Go.Proofs.Ytnjiojmebaojpaa
open Go.RowKit

def cntB (s p : Int) (A : Option Addr) (c : Nat) (ls : List Lnk) (w : World) (w' : World) : Prop :=
  Below w.heap.size w w' ∧ w'.heap[w.heap.size]? = some (.cells #[.int .i64 s, .int .i64 p, .slice A ls.length c] 24) ∧ Rd lnkD w' A ls.length ls
def cntF (s p : Int) (A : Option Addr) (c : Nat) (ls : List Lnk) (w : World) : List (Value → Value → World → Prop) :=
  [fun _ v _ => v = .agg #[.int .i64 s, .int .i64 p, .slice A ls.length c],
   fun _ v _ => ∃ A' c', v = .slice A' (edgesL s p ls).length c',
   fun _ v _ => v = .int .i64 (s * p - 2 * ls.length),
   fun _ v _ => v = .pointer (some ⟨w.heap.size, 0, none⟩),
   fun _ v _ => v = .int .i64 s,
   fun _ v _ => v = .pointer (some ⟨w.heap.size, 1, none⟩),
   fun _ v _ => v = .int .i64 p,
   fun _ v _ => v = .int .i64 (s * p),
   fun _ v _ => v = .pointer (some ⟨w.heap.size, 2, none⟩),
   fun _ v _ => v = .slice A ls.length c,
   fun _ v _ => v = .int .i64 ls.length,
   fun _ v _ => v = .int .i64 (2 * ls.length),
   fun _ v _ => v = .int .i64 (s * p - 2 * ls.length),
   fun _ v _ => v = .bool true,
   fun _ v _ => v = .bool true]
def cntQ : Nat → Nat := fun i => i
theorem cntF_stay (s p : Int) (A : Option Addr) (c : Nat) (ls : List Lnk) (w : World) : AllStay (cntF s p A c ls w) := by
  intro F hF u v w' w'' hb h
  simp only [cntF, List.mem_cons, List.not_mem_nil, or_false] at hF
  rcases hF with rfl | rfl | rfl | rfl | rfl | rfl | rfl | rfl | rfl | rfl | rfl | rfl | rfl | rfl | rfl
  · exact h
  · exact h
  · exact h
  · exact h
  · exact h
  · exact h
  · exact h
  · exact h
  · exact h
  · exact h
  · exact h
  · exact h
  · exact h
  · exact h
  · exact h
theorem cntB_stay (s p : Int) (A : Option Addr) (c : Nat) (ls : List Lnk) (w : World) : Stays (cntB s p A c ls w) := by
  intro w' w'' hb h
  exact ⟨below_call h.1 hb, blk_keep h.2.1 hb, h.2.2.below hb⟩

set_option maxHeartbeats 2000000 in
theorem topoCounts_walk (s p : Int) (A : Option Addr) (c : Nat) (ls : List Lnk) (w : World) (hl : Rd lnkD w A ls.length ls) (_ : FitT s p c ls) :
    Calls Try.prog 5 #[.agg #[.int .i64 s, .int .i64 p, .slice A ls.length c]] w fun e w' => e = .returned (.bool true) ∧ Below w.heap.size w w' := by
  have HL := Aside.mk (hl.below ((Below.refl _ w).alloc (Nat.le_refl _) (.cells #[.int .i64 s, .int .i64 p, .slice A ls.length c] 24)))
  have HB := Aside.mk (below_alloc (Below.refl _ w) (.cells #[.int .i64 s, .int .i64 p, .slice A ls.length c] 24))
  have HX := Aside.mk (show (w.alloc (.cells #[.int .i64 s, .int .i64 p, .slice A ls.length c] 24)).heap[w.heap.size]? = some (.cells #[.int .i64 s, .int .i64 p, .slice A ls.length c] 24) by rw [heap_at, if_pos rfl])
  clear hl
  cases hmay : mayT s p ls
  · go_enter Try.func5, Try.ntmps5
    go_wp2_with (first
      | (go_at_call 9; refine (awake_any _).mono ?_; rintro e w1 ⟨rfl, hb1⟩; have HL := Aside.mk (HL.out.below hb1); have HB := Aside.mk (below_call HB.out hb1); have HX := Aside.mk (blk_keep HX.out hb1); have c0 := blk_cell HX.out 0; have c1 := blk_cell HX.out 1; have c2 := blk_cell HX.out 2; simp at c0 c1 c2; clear hb1)
      | (go_at_call 16; refine (may_any _ _ _ _ _ _ HL.out).mono ?_; rw [hmay]; rintro e w1 ⟨rfl, hb1⟩; have HL := Aside.mk (HL.out.below hb1); have HB := Aside.mk (below_call HB.out hb1); have HX := Aside.mk (blk_keep HX.out hb1); have c0 := blk_cell HX.out 0; have c1 := blk_cell HX.out 1; have c2 := blk_cell HX.out 2; simp at c0 c1 c2; clear hb1))
    go_ret
    exact ⟨rfl, HB.out⟩
  · have hg := (may_good s p ls).1 hmay
    have hlen := edges_len hg
    have hle := edges_le hg
    obtain ⟨⟨i1, i2, i3, i4, i5⟩, -, -⟩ := hg
    have hm1 : s * p ≤ 6 * 8 := Int.mul_le_mul i2 i4 (by omega) (by omega)
    have hm0 : 0 ≤ s * p := Int.mul_nonneg (by omega) (by omega)
    have u3 := Try.underlying3
    have hw1 : IntKind.i64.wrap (s * p) = s * p := IntWalk.i64_in _ (by omega)
    have hw2 : IntKind.i64.wrap (2 * (ls.length : Int)) = 2 * (ls.length : Int) := IntWalk.i64_in _ (by omega)
    have hw3 : IntKind.i64.wrap (s * p - 2 * (ls.length : Int)) = s * p - 2 * (ls.length : Int) := IntWalk.i64_in _ (by omega)
    go_enter Try.func5, Try.ntmps5
    go_wp2_with (first
      | (go_at_call 9; refine (awake_any _).mono ?_; rintro e w1 ⟨rfl, hb1⟩; have HL := Aside.mk (HL.out.below hb1); have HB := Aside.mk (below_call HB.out hb1); have HX := Aside.mk (blk_keep HX.out hb1); have c0 := blk_cell HX.out 0; have c1 := blk_cell HX.out 1; have c2 := blk_cell HX.out 2; simp at c0 c1 c2; clear hb1)
      | (go_at_call 16; refine (may_any _ _ _ _ _ _ HL.out).mono ?_; rw [hmay]; rintro e w1 ⟨rfl, hb1⟩; have HL := Aside.mk (HL.out.below hb1); have HB := Aside.mk (below_call HB.out hb1); have HX := Aside.mk (blk_keep HX.out hb1); have c0 := blk_cell HX.out 0; have c1 := blk_cell HX.out 1; have c2 := blk_cell HX.out 2; simp at c0 c1 c2; clear hb1))
    refine wp_region_facts (Base := cntB s p A c ls w) (q := cntQ) (Fs := cntF s p A c ls w) (by kernel_rfl) (by kernel_rfl) (by kernel_rfl) (by kernel_rfl) ⟨below_drew HB.out, HX.out, HL.out⟩ ?_ ?_
    · clear HL HB HX c0 c1 c2
      have hBs := cntB_stay s p A c ls w
      have hFs := cntF_stay s p A c ls w
      refine ⟨?_, ?_, ?_, ?_, ?_, ?_, ?_, ?_, ?_, ?_, ?_, ?_, ?_, ?_, ?_, trivial⟩
      · refine step_pure hBs hFs rfl fun a' w' hB hag hp => ?_
        have h1 := hag 1 (by kernel_rfl)
        have hc0 := blk_cell hB.2.1 0; have hc1 := blk_cell hB.2.1 1; have hc2 := blk_cell hB.2.1 2; simp at hc0 hc1 hc2
        simp at h1
        unfold OpYields
        go_simp
        exact ⟨Below.refl _ _, rfl⟩
      · refine step_pure hBs hFs rfl fun a' w' hB hag hp => ?_
        have h13 : a'.tmps.getD 13 undef = _ := hp 0 (by kernel_rfl)
        simp at h13
        unfold OpYields
        go_simp
        refine (edges_any _ _ _ _ _ _ hB.2.2).mono ?_
        rintro e w1 ⟨v, rfl, ho, hb⟩
        obtain ⟨A', c', rfl, _⟩ := ho.form
        exact ⟨_, rfl, hb, A', c', rfl⟩
      · refine step_pure hBs hFs rfl fun a' w' hB hag hp => ?_
        have h14 := hp 1 (by kernel_rfl)
        replace h14 : _ := h14
        obtain ⟨A', c', h14⟩ : ∃ A' c', a'.tmps.getD 14 undef = .slice A' (edgesL s p ls).length c' := h14
        simp at h14
        unfold OpYields
        go_simp
        exact ⟨Below.refl _ _, rfl⟩
      · refine step_pure hBs hFs rfl fun a' w' hB hag hp => ?_
        have h1 := hag 1 (by kernel_rfl)
        simp at h1
        unfold OpYields
        go_simp
        exact ⟨Below.refl _ _, rfl⟩
      · refine step_pure hBs hFs rfl fun a' w' hB hag hp => ?_
        have h16 : a'.tmps.getD 16 undef = _ := hp 3 (by kernel_rfl)
        have hc0 := blk_cell hB.2.1 0; have hc1 := blk_cell hB.2.1 1; have hc2 := blk_cell hB.2.1 2; simp at hc0 hc1 hc2
        simp at h16
        unfold OpYields
        go_simp
        exact ⟨Below.refl _ _, rfl⟩
      · refine step_pure hBs hFs rfl fun a' w' hB hag hp => ?_
        have h1 := hag 1 (by kernel_rfl)
        simp at h1
        unfold OpYields
        go_simp
        exact ⟨Below.refl _ _, rfl⟩
      · refine step_pure hBs hFs rfl fun a' w' hB hag hp => ?_
        have h18 : a'.tmps.getD 18 undef = _ := hp 5 (by kernel_rfl)
        have hc0 := blk_cell hB.2.1 0; have hc1 := blk_cell hB.2.1 1; have hc2 := blk_cell hB.2.1 2; simp at hc0 hc1 hc2
        simp at h18
        unfold OpYields
        go_simp
        exact ⟨Below.refl _ _, rfl⟩
      · refine step_pure hBs hFs rfl fun a' w' hB hag hp => ?_
        have h17 : a'.tmps.getD 17 undef = _ := hp 4 (by kernel_rfl)
        have h19 : a'.tmps.getD 19 undef = _ := hp 6 (by kernel_rfl)
        simp at h17 h19
        unfold OpYields
        go_simp
        exact ⟨Below.refl _ _, rfl⟩
      · refine step_pure hBs hFs rfl fun a' w' hB hag hp => ?_
        have h1 := hag 1 (by kernel_rfl)
        simp at h1
        unfold OpYields
        go_simp
        exact ⟨Below.refl _ _, rfl⟩
      · refine step_pure hBs hFs rfl fun a' w' hB hag hp => ?_
        have h21 : a'.tmps.getD 21 undef = _ := hp 8 (by kernel_rfl)
        have hc0 := blk_cell hB.2.1 0; have hc1 := blk_cell hB.2.1 1; have hc2 := blk_cell hB.2.1 2; simp at hc0 hc1 hc2
        simp at h21
        unfold OpYields
        go_simp
        exact ⟨Below.refl _ _, rfl⟩
      · refine step_pure hBs hFs rfl fun a' w' hB hag hp => ?_
        have h22 : a'.tmps.getD 22 undef = _ := hp 9 (by kernel_rfl)
        simp at h22
        unfold OpYields
        go_simp
        exact ⟨Below.refl _ _, rfl⟩
      · refine step_pure hBs hFs rfl fun a' w' hB hag hp => ?_
        have h23 : a'.tmps.getD 23 undef = _ := hp 10 (by kernel_rfl)
        simp at h23
        unfold OpYields
        go_simp
        exact ⟨Below.refl _ _, rfl⟩
      · refine step_pure hBs hFs rfl fun a' w' hB hag hp => ?_
        have h20 : a'.tmps.getD 20 undef = _ := hp 7 (by kernel_rfl)
        have h24 : a'.tmps.getD 24 undef = _ := hp 11 (by kernel_rfl)
        simp at h20 h24
        unfold OpYields
        go_simp
        exact ⟨Below.refl _ _, rfl⟩
      · refine step_pure hBs hFs rfl fun a' w' hB hag hp => ?_
        have h15 : a'.tmps.getD 15 undef = .int .i64 (s * p - 2 * ls.length) := hp 2 (by kernel_rfl)
        simp at h15
        have h25 : a'.tmps.getD 25 undef = _ := hp 12 (by kernel_rfl)
        simp at h25
        unfold OpYields
        go_simp
        exact ⟨Below.refl _ _, rfl⟩
      · refine step_pure hBs hFs rfl fun a' w' hB hag hp => ?_
        have h26 : a'.tmps.getD 26 undef = _ := hp 13 (by kernel_rfl)
        simp at h26
        unfold OpYields
        go_simp
        exact ⟨Below.refl _ _, rfl⟩
    intro vs w' hB hF
    simp only [AllF, forall_const, reduceCtorEq, false_implies, Fof, cntF, cntQ, Nat.zero_add, Nat.reduceAdd, Nat.reduceEqDiff, if_true, if_false, List.getD_cons_succ, List.getD_cons_zero] at hF
    obtain ⟨f0, ⟨A', c', f1⟩, f2, f3, f4, f5, f6, f7, f8, f9, f10, f11, f12, f13, f14, -⟩ := hF
    simp only [putAll, Act.put, Nat.zero_add, Nat.reduceAdd, f0, f1, f2, f3, f4, f5, f6, f7, f8, f9, f10, f11, f12, f13, f14, List.setIfInBounds_toArray, List.set_cons_zero, List.set_cons_succ]
    have HB := Aside.mk hB.1
    clear hB
    go_wp2
    go_ret
    exact ⟨rfl, HB.out⟩
end Go.Proofs.Ytnjiojmebaojpaa
