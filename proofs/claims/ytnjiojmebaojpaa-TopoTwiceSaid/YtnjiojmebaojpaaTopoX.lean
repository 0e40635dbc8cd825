/- The walk through TopoTwice. -/
import Derived.Test.YtnjiojmebaojpaaTopoA
import Derived.Test.YtnjiojmebaojpaaTopoK
import Derived.Test.YtnjiojmebaojpaaTopoO
import Derived.Test.YtnjiojmebaojpaaAppend
namespace Go.Proofs.Ytnjiojmebaojpaa
open Go.RowKit

def twnB (s p : Int) (A : Option Addr) (c : Nat) (ls : List Lnk) (m : Nat) (w : World) (w' : World) : Prop :=
  Below w.heap.size w w' ∧ w'.heap[w.heap.size]? = some (.cells #[.int .i64 s, .int .i64 p, .slice A ls.length c] 24) ∧ w'.heap[m]? = some (.cells #[.int .i64 s, .int .i64 p, .slice none 0 0] 24)
def twnF (s p : Int) (A : Option Addr) (c : Nat) (ls : List Lnk) (m : Nat) (w : World) : List (Value → Value → World → Prop) :=
  [fun _ v _ => v = .agg #[.int .i64 s, .int .i64 p, .slice none 0 0],
   fun _ v _ => v = .bool true,
   fun _ v _ => v = .bool false,
   fun _ v _ => v = .bool false,
   fun _ v _ => v = .agg #[.int .i64 s, .int .i64 p, .slice none 0 0],
   fun _ v _ => ∃ A' c', v = .slice A' (edgesL s p []).length c',
   fun _ v _ => v = .int .i64 (s * p),
   fun _ v _ => v = .pointer (some ⟨w.heap.size, 0, none⟩),
   fun _ v _ => v = .int .i64 s,
   fun _ v _ => v = .pointer (some ⟨w.heap.size, 1, none⟩),
   fun _ v _ => v = .int .i64 p,
   fun _ v _ => v = .int .i64 (s * p),
   fun _ v _ => v = .bool false,
   fun _ v _ => v = .bool false]
def twnQ : Nat → Nat := fun i => i
theorem twnF_stay (s p : Int) (A : Option Addr) (c : Nat) (ls : List Lnk) (m : Nat) (w : World) : AllStay (twnF s p A c ls m w) := by
  intro F hF u v w' w'' hb h
  simp only [twnF, List.mem_cons, List.not_mem_nil, or_false] at hF
  rcases hF with rfl | rfl | rfl | rfl | rfl | rfl | rfl | rfl | rfl | rfl | rfl | rfl | rfl | rfl
  · exact h
  · exact h
  · exact h
  · exact h
  · exact h
  · exact h
  · exact h
  · exact h
  · exact h
  · exact h
  · exact h
  · exact h
  · exact h
  · exact h
theorem twnB_stay (s p : Int) (A : Option Addr) (c : Nat) (ls : List Lnk) (m : Nat) (w : World) : Stays (twnB s p A c ls m w) := by
  intro w' w'' hb h
  exact ⟨below_call h.1 hb, blk_keep h.2.1 hb, blk_keep h.2.2 hb⟩

def twaB (s p : Int) (b o : Nat) (c : Nat) (ls : List Lnk) (l : Lnk) (m2 : Nat) (w : World) (w' : World) : Prop :=
  Below w.heap.size w w' ∧ w'.heap[w.heap.size]? = some (.cells #[.int .i64 s, .int .i64 p, .slice (some ⟨b, o, none⟩) ls.length c] 24) ∧ (∃ u0, u0.oneCell' = true ∧ w'.heap[m2]? = some (.cells #[.int .i64 s, .int .i64 p, u0] 24)) ∧ m2 < w'.heap.size ∧ w.heap.size < m2
def twaF (s p : Int) (b o : Nat) (c : Nat) (ls : List Lnk) (l : Lnk) (m2 : Nat) (w : World) : List (Value → Value → World → Prop) :=
  [fun _ v _ => v = .pointer (some ⟨w.heap.size, 2, none⟩),
   fun _ v _ => v = .slice (some ⟨b, o, none⟩) ls.length c,
   fun _ v w' => Own lnkF w' (m2 + 1) 34 v ls,
   fun _ v _ => v = .pointer (some ⟨w.heap.size, 2, none⟩),
   fun _ v _ => v = .slice (some ⟨b, o, none⟩) ls.length c,
   fun _ v _ => v = .pointer (some ⟨b, o, none⟩),
   fun _ v _ => v = .agg #[.int .i64 l.a, .int .i64 l.pa, .int .i64 l.b, .int .i64 l.pb],
   fun _ v w' => ∃ g, v = .slice (some ⟨g, 0, none⟩) 1 1 ∧ m2 < g ∧ Rd lnkF.kd w' (some ⟨g, 0, none⟩) 1 [l],
   fun _ v w' => Own lnkF w' (m2 + 1) 34 v (ls ++ [l]),
   fun _ v _ => v = .pointer (some ⟨m2, 2, none⟩),
   fun u _ w' => w'.heap[m2]? = some (.cells #[.int .i64 s, .int .i64 p, u] 24)]
def twaQ : Nat → Nat := fun i => if i = 10 then 8 else i
def twaK : Nat → Option Nat := fun i => if i = 2 then some 8 else if i = 7 then some 8 else none
theorem twaF_stay (s p : Int) (b o : Nat) (c : Nat) (ls : List Lnk) (l : Lnk) (m2 : Nat) (w : World) : AllStay (twaF s p b o c ls l m2 w) := by
  intro F hF u v w' w'' hb h
  simp only [twaF, List.mem_cons, List.not_mem_nil, or_false] at hF
  rcases hF with rfl | rfl | rfl | rfl | rfl | rfl | rfl | rfl | rfl | rfl | rfl
  · exact h
  · exact h
  · exact h.below hb
  · exact h
  · exact h
  · exact h
  · exact h
  · obtain ⟨g, e, hg, hr⟩ := h
    exact ⟨g, e, hg, hr.below hb⟩
  · exact h.below hb
  · exact h
  · exact blk_keep h hb
theorem twaB_stay (s p : Int) (b o : Nat) (c : Nat) (ls : List Lnk) (l : Lnk) (m2 : Nat) (w : World) : Stays (twaB s p b o c ls l m2 w) := by
  intro w' w'' hb h
  exact ⟨below_call h.1 hb, blk_keep h.2.1 hb, let ⟨u0, h0, hu⟩ := h.2.2.1; ⟨u0, h0, blk_keep hu hb⟩, Nat.lt_of_lt_of_le h.2.2.2.1 hb.size, h.2.2.2.2⟩

set_option maxHeartbeats 4000000 in
theorem topoTwice_walk (s p : Int) (A : Option Addr) (c : Nat) (ls : List Lnk) (w : World) (hl : Rd lnkD w A ls.length ls) (_ : FitT s p c ls) :
    Calls Try.prog 8 #[.agg #[.int .i64 s, .int .i64 p, .slice A ls.length c]] w fun e w' => e = .returned (.bool true) ∧ Below w.heap.size w w' := by
  have hmx := hl.max
  have HW := Aside.mk hl
  have HL := Aside.mk (hl.below ((Below.refl _ w).alloc (Nat.le_refl _) (.cells #[.int .i64 s, .int .i64 p, .slice A ls.length c] 24)))
  have HB := Aside.mk (below_alloc (Below.refl _ w) (.cells #[.int .i64 s, .int .i64 p, .slice A ls.length c] 24))
  have HX := Aside.mk (show (w.alloc (.cells #[.int .i64 s, .int .i64 p, .slice A ls.length c] 24)).heap[w.heap.size]? = some (.cells #[.int .i64 s, .int .i64 p, .slice A ls.length c] 24) by rw [heap_at, if_pos rfl])
  clear hl
  cases hmay : mayT s p ls
  · go_enter Try.func8, Try.ntmps8
    go_wp2_with (first
      | (go_at_call 9; refine (awake_any _).mono ?_; rintro e w1 ⟨rfl, hb1⟩; have HL := Aside.mk (HL.out.below hb1); have HB := Aside.mk (below_call HB.out hb1); have HX := Aside.mk (blk_keep HX.out hb1); have c0 := blk_cell HX.out 0; have c1 := blk_cell HX.out 1; have c2 := blk_cell HX.out 2; simp at c0 c1 c2; have hsz := blk_lt HX.out; clear hb1)
      | (go_at_call 16; refine (may_any _ _ _ _ _ _ HL.out).mono ?_; rw [hmay]; rintro e w1 ⟨rfl, hb1⟩; have HL := Aside.mk (HL.out.below hb1); have HB := Aside.mk (below_call HB.out hb1); have HX := Aside.mk (blk_keep HX.out hb1); have c0 := blk_cell HX.out 0; have c1 := blk_cell HX.out 1; have c2 := blk_cell HX.out 2; simp at c0 c1 c2; have hsz := blk_lt HX.out; clear hb1))
    go_ret
    exact ⟨rfl, HB.out⟩
  · have hg := (may_good s p ls).1 hmay
    have hgn := none_good hg
    have hmn : mayT s p [] = true := (may_good ..).2 hgn
    have hl0 : Aside (((edgesL s p []).length : Int) = s * p) := .mk (by have := edges_len hgn; simpa using this)
    have hle0 := edges_le hgn
    obtain ⟨⟨i1, i2, i3, i4, i5⟩, -, -⟩ := hg
    have hm1 : s * p ≤ 6 * 8 := Int.mul_le_mul i2 i4 (by omega) (by omega)
    have hm0 : 0 ≤ s * p := Int.mul_nonneg (by omega) (by omega)
    have hw1 : IntKind.i64.wrap (s * p) = s * p := IntWalk.i64_in _ (by omega)
    clear hgn
    go_enter Try.func8, Try.ntmps8
    go_wp2_with (first
      | (go_at_call 9; refine (awake_any _).mono ?_; rintro e w1 ⟨rfl, hb1⟩; have HL := Aside.mk (HL.out.below hb1); have HB := Aside.mk (below_call HB.out hb1); have HX := Aside.mk (blk_keep HX.out hb1); have c0 := blk_cell HX.out 0; have c1 := blk_cell HX.out 1; have c2 := blk_cell HX.out 2; simp at c0 c1 c2; have hsz := blk_lt HX.out; clear hb1)
      | (go_at_call 16; refine (may_any _ _ _ _ _ _ HL.out).mono ?_; rw [hmay]; rintro e w1 ⟨rfl, hb1⟩; have HL := Aside.mk (HL.out.below hb1); have HB := Aside.mk (below_call HB.out hb1); have HX := Aside.mk (blk_keep HX.out hb1); have c0 := blk_cell HX.out 0; have c1 := blk_cell HX.out 1; have c2 := blk_cell HX.out 2; simp at c0 c1 c2; have hsz := blk_lt HX.out; clear hb1))
    have HM := Aside.mk (show (w1.alloc (.cells #[.int .i64 s, .int .i64 p, .slice none 0 0] 24)).heap[w1.heap.size]? = some (.cells #[.int .i64 s, .int .i64 p, .slice none 0 0] 24) by rw [heap_at, if_pos rfl])
    have KB := Aside.mk (below_alloc HB.out (.cells #[.int .i64 s, .int .i64 p, .slice none 0 0] 24))
    have KX := Aside.mk (blk_keep HX.out ((Below.refl _ w1).alloc (Nat.le_refl _) (.cells #[.int .i64 s, .int .i64 p, .slice none 0 0] 24)))
    generalize hm : w1.heap.size = m at *
    clear HL HB HX c0 c1 c2
    refine wp_region_facts (Base := twnB s p A c ls m w) (q := twnQ) (Fs := twnF s p A c ls m w) (by kernel_rfl) (by kernel_rfl) (by kernel_rfl) (by kernel_rfl) ⟨below_drew KB.out, KX.out, HM.out⟩ ?_ ?_
    · clear KB KX HM
      have hBs := twnB_stay s p A c ls m w
      have hFs := twnF_stay s p A c ls m w
      refine ⟨?_, ?_, ?_, ?_, ?_, ?_, ?_, ?_, ?_, ?_, ?_, ?_, ?_, ?_, trivial⟩
      · refine step_pure hBs hFs rfl fun a' w' hB hag hp => ?_
        have h4 := hag 4 (by kernel_rfl)
        have hc0 := blk_cell hB.2.1 0; have hc1 := blk_cell hB.2.1 1; have hc2 := blk_cell hB.2.1 2; have hd0 := blk_cell hB.2.2 0; have hd1 := blk_cell hB.2.2 1; have hd2 := blk_cell hB.2.2 2; simp at hc0 hc1 hc2 hd0 hd1 hd2
        simp at h4
        unfold OpYields
        go_simp
        exact ⟨Below.refl _ _, rfl⟩
      · refine step_pure hBs hFs rfl fun a' w' hB hag hp => ?_
        have h17 : a'.tmps.getD 17 undef = _ := hp 0 (by kernel_rfl)
        simp at h17
        unfold OpYields
        go_simp
        refine (may_any s p none 0 [] w' (Rd.nil _ _ _)).mono ?_
        rw [hmn]
        rintro e w1 ⟨rfl, hb⟩
        exact ⟨_, rfl, hb, rfl⟩
      · refine step_pure hBs hFs rfl fun a' w' hB hag hp => ?_
        have h18 : a'.tmps.getD 18 undef = _ := hp 1 (by kernel_rfl)
        simp at h18
        unfold OpYields
        go_simp
        exact ⟨Below.refl _ _, rfl⟩
      · refine step_pure hBs hFs rfl fun a' w' hB hag hp => ?_
        have h19 : a'.tmps.getD 19 undef = _ := hp 2 (by kernel_rfl)
        simp at h19
        unfold OpYields
        go_simp
        exact ⟨Below.refl _ _, rfl⟩
      · refine step_pure_g hBs hFs fun a' w' hB hag hp => ?_
        have hg : a'.tmps.getD 20 undef = _ := hp 3 (by kernel_rfl)
        have h4 := hag 4 (by kernel_rfl)
        have hc0 := blk_cell hB.2.1 0; have hc1 := blk_cell hB.2.1 1; have hc2 := blk_cell hB.2.1 2; have hd0 := blk_cell hB.2.2 0; have hd1 := blk_cell hB.2.2 1; have hd2 := blk_cell hB.2.2 2; simp at hc0 hc1 hc2 hd0 hd1 hd2
        refine ⟨wanted_of hg rfl rfl, ?_⟩
        simp at h4
        unfold OpYields
        go_simp
        exact ⟨Below.refl _ _, rfl⟩
      · refine step_pure_g hBs hFs fun a' w' hB hag hp => ?_
        have hg : a'.tmps.getD 20 undef = _ := hp 3 (by kernel_rfl)
        have h21 : a'.tmps.getD 21 undef = _ := hp 4 (by kernel_rfl)
        refine ⟨wanted_of hg rfl rfl, ?_⟩
        simp at h21
        unfold OpYields
        go_simp
        refine (edges_any s p none 0 [] w' (Rd.nil _ _ _)).mono ?_
        rintro e w1 ⟨v, rfl, ho, hb⟩
        obtain ⟨A', c', rfl, _⟩ := ho.form
        exact ⟨_, rfl, hb, A', c', rfl⟩
      · refine step_pure_g hBs hFs fun a' w' hB hag hp => ?_
        have hg : a'.tmps.getD 20 undef = _ := hp 3 (by kernel_rfl)
        have h22 := hp 5 (by kernel_rfl)
        replace h22 : _ := h22
        refine ⟨wanted_of hg rfl rfl, ?_⟩
        obtain ⟨A', c', h22⟩ : ∃ A' c', a'.tmps.getD 22 undef = .slice A' (edgesL s p []).length c' := h22
        simp at h22
        unfold OpYields
        go_simp
        exact ⟨Below.refl _ _, by show _ = Value.int _ _; rw [← hl0.out]; rfl⟩
      · refine step_pure_g hBs hFs fun a' w' hB hag hp => ?_
        have hg : a'.tmps.getD 20 undef = _ := hp 3 (by kernel_rfl)
        have h1 := hag 1 (by kernel_rfl)
        refine ⟨wanted_of hg rfl rfl, ?_⟩
        simp at h1
        unfold OpYields
        go_simp
        exact ⟨Below.refl _ _, rfl⟩
      · refine step_pure_g hBs hFs fun a' w' hB hag hp => ?_
        have hg : a'.tmps.getD 20 undef = _ := hp 3 (by kernel_rfl)
        have h24 : a'.tmps.getD 24 undef = _ := hp 7 (by kernel_rfl)
        have hc0 := blk_cell hB.2.1 0; have hc1 := blk_cell hB.2.1 1; have hc2 := blk_cell hB.2.1 2; have hd0 := blk_cell hB.2.2 0; have hd1 := blk_cell hB.2.2 1; have hd2 := blk_cell hB.2.2 2; simp at hc0 hc1 hc2 hd0 hd1 hd2
        refine ⟨wanted_of hg rfl rfl, ?_⟩
        simp at h24
        unfold OpYields
        go_simp
        exact ⟨Below.refl _ _, rfl⟩
      · refine step_pure_g hBs hFs fun a' w' hB hag hp => ?_
        have hg : a'.tmps.getD 20 undef = _ := hp 3 (by kernel_rfl)
        have h1 := hag 1 (by kernel_rfl)
        refine ⟨wanted_of hg rfl rfl, ?_⟩
        simp at h1
        unfold OpYields
        go_simp
        exact ⟨Below.refl _ _, rfl⟩
      · refine step_pure_g hBs hFs fun a' w' hB hag hp => ?_
        have hg : a'.tmps.getD 20 undef = _ := hp 3 (by kernel_rfl)
        have h26 : a'.tmps.getD 26 undef = _ := hp 9 (by kernel_rfl)
        have hc0 := blk_cell hB.2.1 0; have hc1 := blk_cell hB.2.1 1; have hc2 := blk_cell hB.2.1 2; have hd0 := blk_cell hB.2.2 0; have hd1 := blk_cell hB.2.2 1; have hd2 := blk_cell hB.2.2 2; simp at hc0 hc1 hc2 hd0 hd1 hd2
        refine ⟨wanted_of hg rfl rfl, ?_⟩
        simp at h26
        unfold OpYields
        go_simp
        exact ⟨Below.refl _ _, rfl⟩
      · refine step_pure_g hBs hFs fun a' w' hB hag hp => ?_
        have hg : a'.tmps.getD 20 undef = _ := hp 3 (by kernel_rfl)
        have h25 : a'.tmps.getD 25 undef = _ := hp 8 (by kernel_rfl)
        have h27 : a'.tmps.getD 27 undef = _ := hp 10 (by kernel_rfl)
        refine ⟨wanted_of hg rfl rfl, ?_⟩
        simp at h25 h27
        unfold OpYields
        go_simp
        exact ⟨Below.refl _ _, rfl⟩
      · refine step_pure_g hBs hFs fun a' w' hB hag hp => ?_
        have hg : a'.tmps.getD 20 undef = _ := hp 3 (by kernel_rfl)
        have h23 : a'.tmps.getD 23 undef = _ := hp 6 (by kernel_rfl)
        have h28 : a'.tmps.getD 28 undef = _ := hp 11 (by kernel_rfl)
        have ueq := Try.underlying3
        have ueqb := Try.underlying4
        refine ⟨wanted_of hg rfl rfl, ?_⟩
        simp at h23 h28
        unfold OpYields
        go_simp
        exact ⟨Below.refl _ _, rfl⟩
      · refine step_pure hBs hFs rfl fun a' w' hB hag hp => ?_
        have h20 : a'.tmps.getD 20 undef = _ := hp 3 (by kernel_rfl)
        have h29 : a'.tmps.getD 29 undef = _ := hp 12 (by kernel_rfl)
        simp at h20 h29
        unfold OpYields
        go_simp
        exact ⟨Below.refl _ _, rfl⟩
    intro vs w' hB hF
    simp only [AllF, forall_const, reduceCtorEq, false_implies, Fof, twnF, twnQ, Nat.zero_add, Nat.reduceAdd, Nat.reduceEqDiff, if_true, if_false, List.getD_cons_succ, List.getD_cons_zero] at hF
    obtain ⟨f0, f1, f2, f3, f4, ⟨A', c', f5⟩, f6, f7, f8, f9, f10, f11, f12, f13, -⟩ := hF
    simp only [putAll, Act.put, Nat.zero_add, Nat.reduceAdd, f0, f1, f2, f3, f4, f5, f6, f7, f8, f9, f10, f11, f12, f13, List.setIfInBounds_toArray, List.set_cons_zero, List.set_cons_succ]
    have LB := Aside.mk hB.1
    have LX := Aside.mk hB.2.1
    have c0 := blk_cell hB.2.1 0
    have c1 := blk_cell hB.2.1 1
    have c2 := blk_cell hB.2.1 2
    simp at c0 c1 c2
    have hNs := blk_lt hB.2.1
    clear KB KX HM hB f0 f1 f2 f3 f4 f5 f6 f7 f8 f9 f10 f11 f12 f13
    by_cases hpos : 0 < ls.length
    · have htw := twice_bad' (s := s) (p := p) hpos
      obtain ⟨b, o, cs, rfl, hbl, hcs, hc⟩ := Row.at HW.out 0 hpos
      obtain rfl : cs = _ := hcs
      have e0 : w.cell? ⟨b, o, none⟩ = some (.int .i64 ls[0].a) := by simpa using hc 0 _ rfl
      have e1 : w.cell? ⟨b, o + 1, none⟩ = some (.int .i64 ls[0].pa) := by simpa using hc 1 _ rfl
      have e2 : w.cell? ⟨b, o + 2, none⟩ = some (.int .i64 ls[0].b) := by simpa using hc 2 _ rfl
      have e3 : w.cell? ⟨b, o + 3, none⟩ = some (.int .i64 ls[0].pb) := by simpa using hc 3 _ rfl
      generalize ls[0] = l at *
      have d0 : decide ((ls.length : Int) = 0) = false := decide_eq_false (by omega)
      have d1 : ((ls.length : Int) == 0) = false := by simpa using d0
      clear hc
      go_wp2
      have HM := Aside.mk (show (w'.alloc (.cells #[.int .i64 s, .int .i64 p, .slice (some ⟨b, o, none⟩) ls.length c] 24)).heap[w'.heap.size]? = some (.cells #[.int .i64 s, .int .i64 p, .slice (some ⟨b, o, none⟩) ls.length c] 24) by rw [heap_at, if_pos rfl])
      have KB := Aside.mk (below_alloc LB.out (.cells #[.int .i64 s, .int .i64 p, .slice (some ⟨b, o, none⟩) ls.length c] 24))
      have KX := Aside.mk (blk_keep LX.out ((Below.refl _ w').alloc (Nat.le_refl _) (.cells #[.int .i64 s, .int .i64 p, .slice (some ⟨b, o, none⟩) ls.length c] 24)))
      have HS := Aside.mk (show w'.heap.size < (w'.alloc (.cells #[.int .i64 s, .int .i64 p, .slice (some ⟨b, o, none⟩) ls.length c] 24)).heap.size by simp)
      have hp0 : (0 : Int) < (ls.length : Int) := by omega
      generalize hm2 : w'.heap.size = m2 at *
      clear c0 c1 c2 LB LX
      refine wp_region_facts_kl (Base := twaB s p b o c ls l m2 w) twaQ twaK (Fs := twaF s p b o c ls l m2 w) (by kernel_rfl) (by kernel_rfl) (by kernel_rfl) (by kernel_rfl) ⟨below_drew KB.out, KX.out, ⟨_, rfl, HM.out⟩, HS.out, hNs⟩ ?_ ?_
      · clear KB KX HM HS
        have hBs := twaB_stay s p b o c ls l m2 w
        have hFs := twaF_stay s p b o c ls l m2 w
        refine ⟨?_, ?_, ?_, ?_, ?_, ?_, ?_, ?_, ?_, ?_, ?_, trivial⟩
        · refine step_pure hBs hFs rfl fun a' w' hB hag hp => ?_
          have h1 := hag 1 (by kernel_rfl)
          simp at h1
          unfold OpYields
          go_simp
          exact ⟨Below.refl _ _, rfl⟩
        · refine step_pure hBs hFs rfl fun a' w' hB hag hp => ?_
          have h36 : a'.tmps.getD 36 undef = _ := hp 0 (by kernel_rfl)
          have hc0 := blk_cell hB.2.1 0; have hc1 := blk_cell hB.2.1 1; have hc2 := blk_cell hB.2.1 2; simp at hc0 hc1 hc2; have he0 := (hB.1.cell hbl).trans e0; have he1 := (hB.1.cell hbl).trans e1; have he2 := (hB.1.cell hbl).trans e2; have he3 := (hB.1.cell hbl).trans e3
          simp at h36
          unfold OpYields
          go_simp
          exact ⟨Below.refl _ _, rfl⟩
        · refine step_pure hBs hFs rfl fun a' w' hB hag hp => ?_
          have h37 : a'.tmps.getD 37 undef = _ := hp 1 (by kernel_rfl)
          refine (yields_appRow (f := lnkF) (m2 + 1) (.const (.slice none 0 0)) (.tmp 37) _ _ _ _ rfl Try.underlying22 infoLnk rfl (by decide) (.slice none 0 0) [] ls (some ⟨b, o, none⟩) c rfl (by show a'.tmps.getD 37 undef = _; rw [h37]) (fun h => by cases h) (Own.nil _ _ _ _) (HW.out.below hB.1) hB.2.2.2.1 (by simp; omega)).mono ?_
          rintro v w1 ⟨ho, hg, _⟩
          exact ⟨below_of_grown hg, ho⟩
        · refine step_pure hBs hFs rfl fun a' w' hB hag hp => ?_
          have h1 := hag 1 (by kernel_rfl)
          simp at h1
          unfold OpYields
          go_simp
          exact ⟨Below.refl _ _, rfl⟩
        · refine step_pure hBs hFs rfl fun a' w' hB hag hp => ?_
          have h39 : a'.tmps.getD 39 undef = _ := hp 3 (by kernel_rfl)
          have hc0 := blk_cell hB.2.1 0; have hc1 := blk_cell hB.2.1 1; have hc2 := blk_cell hB.2.1 2; simp at hc0 hc1 hc2; have he0 := (hB.1.cell hbl).trans e0; have he1 := (hB.1.cell hbl).trans e1; have he2 := (hB.1.cell hbl).trans e2; have he3 := (hB.1.cell hbl).trans e3
          simp at h39
          unfold OpYields
          go_simp
          exact ⟨Below.refl _ _, rfl⟩
        · refine step_pure hBs hFs rfl fun a' w' hB hag hp => ?_
          have h40 : a'.tmps.getD 40 undef = _ := hp 4 (by kernel_rfl)
          simp at h40
          unfold OpYields
          go_simp
          exact ⟨Below.refl _ _, rfl⟩
        · refine step_pure hBs hFs rfl fun a' w' hB hag hp => ?_
          have h41 : a'.tmps.getD 41 undef = _ := hp 5 (by kernel_rfl)
          have hc0 := blk_cell hB.2.1 0; have hc1 := blk_cell hB.2.1 1; have hc2 := blk_cell hB.2.1 2; simp at hc0 hc1 hc2; have he0 := (hB.1.cell hbl).trans e0; have he1 := (hB.1.cell hbl).trans e1; have he2 := (hB.1.cell hbl).trans e2; have he3 := (hB.1.cell hbl).trans e3
          simp at h41
          unfold OpYields
          go_simp
          exact ⟨Below.refl _ _, rfl⟩
        · refine step_pure hBs hFs rfl fun a' w' hB hag hp => ?_
          have h42 : a'.tmps.getD 42 undef = _ := hp 6 (by kernel_rfl)
          simp at h42
          unfold OpYields
          go_simp
          exact ⟨(Below.refl _ _).alloc (Nat.le_refl _) _, _, rfl, hB.2.2.2.1, Rd.made lnkF w' _ _ _ [l] rfl (by simp)⟩
        · intro a' w' hB hag hp
          rw [if_pos (by simp [Region.wanted])]
          have h38 : Own lnkF w' (m2 + 1) 34 (a'.tmps.getD 38 undef) ls := hp 2 (by kernel_rfl)
          obtain ⟨g0, h43, _, hr43⟩ : ∃ g, a'.tmps.getD 43 undef = .slice (some ⟨g, 0, none⟩) 1 1 ∧ m2 < g ∧ Rd lnkF.kd w' (some ⟨g, 0, none⟩) 1 [l] := hp 7 (by kernel_rfl)
          refine (yields_appRow (f := lnkF) (m2 + 1) (.tmp 38) (.tmp 43) _ _ _ _ rfl Try.underlying22 infoLnk rfl (by decide) (a'.tmps.getD 38 undef) ls [l] (some ⟨g0, 0, none⟩) 1 rfl (by show a'.tmps.getD 43 undef = _; rw [h43]; rfl) (fun h => by cases h) h38 hr43 hB.2.2.2.1 (by simp; omega)).mono ?_
          rintro v w1 ⟨ho, hg, _⟩
          have hfar : ∀ g ob, g ≤ m2 → w'.heap[g]? = some ob → w1.heap[g]? = some ob := fun g ob hgm hh => (hg.block g (blk_lt hh) (fun e => by have := (h38.lt _ e.symm).1; omega)).trans hh
          refine ⟨⟨below_own hB.1 hg (fun k hk => ⟨by have := (h38.lt k hk).1; have := hB.2.2.2.2; omega, (h38.lt k hk).2⟩), hfar _ _ (Nat.le_of_lt hB.2.2.2.2) hB.2.1, let ⟨u0, h0, hu⟩ := hB.2.2.1; ⟨u0, h0, hfar _ _ (Nat.le_refl _) hu⟩, Nat.lt_of_lt_of_le hB.2.2.2.1 hg.size, hB.2.2.2.2⟩, ho, ?_⟩
          intro j vs hj hjk hF
          unfold Fof at *
          match j, hj, hjk with
          | 0, _, _ => exact hF
          | 1, _, _ => exact hF
          | 2, _, h => exact absurd rfl h
          | 3, _, _ => exact hF
          | 4, _, _ => exact hF
          | 5, _, _ => exact hF
          | 6, _, _ => exact hF
          | 7, _, h => exact absurd rfl h
          | 9, _, _ => exact hF
          | 10, _, _ => exact hfar _ _ (Nat.le_refl _) hF
          | j + 11, _, _ => trivial
        · refine step_pure hBs hFs rfl fun a' w' hB hag hp => ?_
          have h5 := hag 5 (by kernel_rfl)
          simp at h5
          unfold OpYields
          go_simp
          exact ⟨Below.refl _ _, rfl⟩
        · intro a' w' hB hag hp
          rw [if_pos (by simp [Region.wanted])]
          have h44 : Own lnkF w' (m2 + 1) 34 (a'.tmps.getD 44 undef) (ls ++ [l]) := hp 8 (by kernel_rfl)
          have h45 : a'.tmps.getD 45 undef = _ := hp 9 (by kernel_rfl)
          obtain ⟨u0, h0, hu⟩ := hB.2.2.1
          obtain ⟨A9, c9, hv, hc9⟩ := h44.form
          have hvv := hv
          simp at hv h45
          have k2 := blk_cell hu 2
          have k3 := blk_frozen hu 2
          simp at k2
          unfold OpYields
          go_simp
          have e1 := blk_set hu 2 (.slice A9 (ls.length + 1) c9)
          have hf : ∀ g o, g ≠ m2 → w'.heap[g]? = some o → (w'.setCell ⟨m2, 2, none⟩ (.slice A9 (ls.length + 1) c9)).heap[g]? = some o := fun g o hg ho => blk_far ho hg _
          refine ⟨⟨below_set hB.1 (Nat.le_of_lt hB.2.2.2.2) _, hf _ _ (Nat.ne_of_lt hB.2.2.2.2) hB.2.1, ⟨_, rfl, e1⟩, by simpa using hB.2.2.2.1, hB.2.2.2.2⟩, ?_, ?_⟩
          · have e1' : (w'.setCell ⟨m2, 2, none⟩ (.slice A9 (ls.length + 1) c9)).heap[m2]? = some (.cells #[.int .i64 s, .int .i64 p, a'.tmps.getD 44 undef] 24) := by rw [hvv]; simpa using e1
            exact e1'
          intro j vs hj _ hF
          unfold Fof at *
          match j, hj with
          | 0, _ => exact hF
          | 1, _ => exact hF
          | 2, _ => exact Own.set (p := ⟨m2, 2, none⟩) hF (Nat.lt_succ_self m2) _
          | 3, _ => exact hF
          | 4, _ => exact hF
          | 5, _ => exact hF
          | 6, _ => exact hF
          | 7, _ =>
            obtain ⟨g0, eg, hg0, hr⟩ : ∃ g, vs 7 = .slice (some ⟨g, 0, none⟩) 1 1 ∧ m2 < g ∧ Rd lnkF.kd w' (some ⟨g, 0, none⟩) 1 [l] := hF
            exact ⟨g0, eg, hg0, hr.set (Nat.ne_of_gt hg0) _⟩
          | 8, _ => exact Own.set (p := ⟨m2, 2, none⟩) hF (Nat.lt_succ_self m2) _
          | 9, _ => exact hF
          | j + 11, _ => trivial
      intro us w2 hB hF
      simp only [AllF, forall_const, reduceCtorEq, false_implies, Fof, twaF, twaQ, twaK, Nat.zero_add, Nat.reduceAdd, Nat.reduceEqDiff, if_true, if_false, List.getD_cons_succ, List.getD_cons_zero] at hF
      obtain ⟨f0, f1, -, f3, f4, f5, f6, -, f8, f9, f10, -⟩ := hF
      simp only [putAll, Act.put, Nat.zero_add, Nat.reduceAdd, f0, f1, f3, f4, f5, f6, f8, f9, f10, List.setIfInBounds_toArray, List.set_cons_zero, List.set_cons_succ]
      obtain ⟨A2, k2, hv, hk2, hr2⟩ := f8.rd
      rw [hv] at f10 ⊢
      have KB := Aside.mk hB.1
      have KU := Aside.mk (show Rd lnkD w2 A2 (ls ++ [l]).length (ls ++ [l]) from hr2)
      have d0 := blk_cell f10 0
      have d1 := blk_cell f10 1
      have d2 := blk_cell f10 2
      simp only [List.getElem?_toArray, List.getElem?_cons_zero, List.getElem?_cons_succ] at d0 d1 d2
      have HT := Aside.mk htw
      clear htw hv hr2 f8 f10 hB hk2
      generalize ls ++ [l] = us2 at *
      go_wp2_with (go_at_call 16; refine (may_any _ _ _ _ _ _ KU.out).mono ?_; rw [HT.out]; rintro e w3 ⟨rfl, hb3⟩; have KB := Aside.mk (below_call KB.out hb3); clear hb3)
      go_ret
      exact ⟨rfl, KB.out⟩
    · have h0 : ls.length = 0 := by omega
      go_wp2
      go_ret
      exact ⟨rfl, LB.out⟩
end Go.Proofs.Ytnjiojmebaojpaa
