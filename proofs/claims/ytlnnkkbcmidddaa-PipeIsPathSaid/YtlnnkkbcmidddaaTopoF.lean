/- The walks through topo.Far, Edge, May. -/
import Derived.Test.YtlnnkkbcmidddaaTopoJ
import Derived.Test.YtlnnkkbcmidddaaRegion
namespace Go.Proofs.Ytlnnkkbcmidddaa
open Go.RowKit
set_option maxRecDepth 100000

def farB (s p : Int) (A : Option Addr) (c : Nat) (ls : List Lnk) (x y : Int) (w w' : World) : Prop :=
  Below w.heap.size w w' ∧ w'.heap[w.heap.size]? = some (.cells #[.int .i64 s, .int .i64 p, .slice A ls.length c] 24) ∧ w'.heap[w.heap.size + 1]? = some (.cells #[.int .i64 x, .int .i64 y] 87)
def farG (ls : List Lnk) (x y : Int) : End := (mget (joinedL ls) (x, y)).getD (0, 0)
def farF (s p : Int) (A : Option Addr) (c : Nat) (ls : List Lnk) (x y : Int) (w : World) : List (Value → Value → World → Prop) :=
  [fun _ v _ => v = .agg #[.int .i64 s, .int .i64 p, .slice A ls.length c],
   fun _ v w' => ∃ b, v = .map (some b) ∧ GMap w' b endV endV (joinedL ls),
   fun _ v _ => v = .agg #[.int .i64 x, .int .i64 y],
   fun _ v _ => v = .tuple #[.agg #[.int .i64 (farG ls x y).1, .int .i64 (farG ls x y).2], .bool (mget (joinedL ls) (x, y)).isSome],
   fun _ v _ => v = .tuple #[.agg #[.int .i64 (farG ls x y).1, .int .i64 (farG ls x y).2], .bool (mget (joinedL ls) (x, y)).isSome],
   fun _ v _ => v = .agg #[.int .i64 (farG ls x y).1, .int .i64 (farG ls x y).2],
   fun _ v _ => v = .bool (mget (joinedL ls) (x, y)).isSome,
   fun _ v w' => ∃ b c0 c1, v = .pointer (some ⟨b, 0, none⟩) ∧ w.heap.size + 1 < b ∧ w'.heap[b]? = some (.cells #[c0, c1] 87),
   fun u _ w' => ∃ b, u = .pointer (some ⟨b, 0, none⟩) ∧ w'.heap[b]? = some (.cells #[.int .i64 (farG ls x y).1, .int .i64 (farG ls x y).2] 87),
   fun _ v _ => v = .bool (mget (joinedL ls) (x, y)).isSome]
def farQ : Nat → Nat := fun i => if i = 8 then 7 else i
theorem farF_stay (s p : Int) (A : Option Addr) (c : Nat) (ls : List Lnk) (x y : Int) (w : World) : AllStay (farF s p A c ls x y w) := by
  intro F hF u v w' w'' hb h
  simp only [farF, List.mem_cons, List.not_mem_nil, or_false] at hF
  rcases hF with rfl | rfl | rfl | rfl | rfl | rfl | rfl | rfl | rfl | rfl
  · exact h
  · obtain ⟨b, e, hm⟩ := h
    exact ⟨b, e, hm.below hm.lt hb⟩
  · exact h
  · exact h
  · exact h
  · exact h
  · exact h
  · obtain ⟨b, c0, c1, e, h1, h2⟩ := h
    exact ⟨b, c0, c1, e, h1, blk_keep h2 hb⟩
  · obtain ⟨b, e, h1⟩ := h
    exact ⟨b, e, blk_keep h1 hb⟩
  · exact h
theorem farB_stay (s p : Int) (A : Option Addr) (c : Nat) (ls : List Lnk) (x y : Int) (w : World) : Stays (farB s p A c ls x y w) := by
  intro w' w'' hb ⟨h1, h2, h3⟩
  exact ⟨below_call h1 hb, blk_keep h2 hb, blk_keep h3 hb⟩

set_option maxHeartbeats 1000000 in
theorem far_any (s p : Int) (A : Option Addr) (c : Nat) (ls : List Lnk) (x y : Int) (w : World) (hl : Rd lnkD w A ls.length ls) :
    Calls Try.prog 36 #[.agg #[.int .i64 s, .int .i64 p, .slice A ls.length c], .int .i64 x, .int .i64 y] w fun e w' =>
      e = .returned (.tuple #[.int .i64 (farL s p ls x y).1, .int .i64 (farL s p ls x y).2.1, .bool (farL s p ls x y).2.2]) ∧ Below w.heap.size w w' := by
  have HL := Aside.mk hl
  clear hl
  go_enter Try.func36, Try.ntmps36
  go_wp2_with fail
  refine wp_region_facts (Base := farB s p A c ls x y w) (q := farQ) (Fs := farF s p A c ls x y w) (by kernel_rfl) (by kernel_rfl) (by kernel_rfl) (by kernel_rfl) ?_ ?_ ?_
  · refine ⟨below_drew (below_alloc (below_alloc (Below.refl _ _) _) _), ?_, ?_⟩
    · rw [heap_drew, heap_at, if_neg (by simp), heap_at, if_pos rfl]
    · rw [heap_drew, heap_at, if_pos (by simp)]
  · have HL' := HL
    have hBs := farB_stay s p A c ls x y w
    have hFs := farF_stay s p A c ls x y w
    refine ⟨?_, ?_, ?_, ?_, ?_, ?_, ?_, ?_, ?_, ?_, trivial⟩
    · refine step_pure hBs hFs rfl fun a' w' hB hag hp => ?_
      have h3 := hag 3 (by kernel_rfl)
      simp at h3
      have hc0 := blk_cell hB.2.1 0
      have hc1 := blk_cell hB.2.1 1
      have hc2 := blk_cell hB.2.1 2
      unfold OpYields
      go_simp
      exact ⟨Below.refl _ _, rfl⟩
    · refine step_pure hBs hFs rfl fun a' w' hB hag hp => ?_
      have h0 : a'.tmps.getD 16 undef = _ := hp 0 (by kernel_rfl)
      simp at h0
      unfold OpYields
      go_simp
      refine (joined_any _ _ _ _ _ _ (HL.out.below hB.1)).mono ?_
      rintro e w1 ⟨b, rfl, hbb, HM, HB⟩
      exact ⟨_, rfl, HB, b, rfl, HM⟩
    · refine step_pure hBs hFs rfl fun a' w' hB hag hp => ?_
      have h3 := hag 9 (by kernel_rfl)
      simp at h3
      have hc0 := blk_cell hB.2.2 0
      have hc1 := blk_cell hB.2.2 1
      unfold OpYields
      go_simp
      exact ⟨Below.refl _ _, rfl⟩
    · refine step_pure hBs hFs rfl fun a' w' hB hag hp => ?_
      obtain ⟨b, h1, hm⟩ : ∃ b, a'.tmps.getD 17 undef = .map (some b) ∧ GMap w' b endV endV (joinedL ls) := hp 1 (by kernel_rfl)
      have h2 : a'.tmps.getD 18 undef = .agg #[.int .i64 x, .int .i64 y] := hp 2 (by kernel_rfl)
      have hk := look_end hm x y
      simp at h1 h2
      unfold OpYields
      go_simp
      exact ⟨Below.refl _ _, rfl⟩
    · refine step_pure hBs hFs rfl fun a' w' hB hag hp => ?_
      have h1 : a'.tmps.getD 19 undef = _ := hp 3 (by kernel_rfl)
      simp at h1
      unfold OpYields
      go_simp
      exact ⟨Below.refl _ _, rfl⟩
    · refine step_pure hBs hFs rfl fun a' w' hB hag hp => ?_
      have h1 : a'.tmps.getD 15 undef = _ := hp 4 (by kernel_rfl)
      simp at h1
      unfold OpYields
      go_simp
      exact ⟨Below.refl _ _, rfl⟩
    · refine step_pure hBs hFs rfl fun a' w' hB hag hp => ?_
      have h1 : a'.tmps.getD 15 undef = _ := hp 4 (by kernel_rfl)
      simp at h1
      unfold OpYields
      go_simp
      exact ⟨Below.refl _ _, rfl⟩
    · refine step_pure hBs hFs rfl fun a' w' hB hag hp => ?_
      unfold OpYields
      go_simp
      exact ⟨(Below.refl _ _).alloc (by simp) _, _, _, _, rfl, by have h1 := blk_lt hB.2.2; exact h1, by rw [heap_at, if_pos rfl]⟩
    · intro a' w' hB hag hp
      rw [if_pos (by kernel_rfl)]
      obtain ⟨b, c0, c1, h1, h2, h3⟩ : ∃ b c0 c1, a'.tmps.getD 10 undef = .pointer (some ⟨b, 0, none⟩) ∧ w.heap.size + 1 < b ∧ w'.heap[b]? = some (.cells #[c0, c1] 87) := hp 7 (by kernel_rfl)
      have h5 : a'.tmps.getD 20 undef = _ := hp 5 (by kernel_rfl)
      have h1' := h1
      simp at h1 h5
      have k0 := blk_cell h3 0
      have k1 := blk_cell h3 1
      have k2 := blk_frozen h3 0
      have k3 := blk_frozen h3 1
      simp at k0 k1
      unfold OpYields
      go_simp
      have e1 := blk_set (blk_set h3 0 (.int .i64 (farG ls x y).1)) 1 (.int .i64 (farG ls x y).2)
      have hf : ∀ g o, g ≠ b → w'.heap[g]? = some o → ((w'.setCell ⟨b, 0, none⟩ (.int .i64 (farG ls x y).1)).setCell ⟨b, 1, none⟩ (.int .i64 (farG ls x y).2)).heap[g]? = some o := fun g o hg ho => blk_far (blk_far ho hg _) hg _
      refine ⟨⟨below_set (below_set hB.1 (by simp; omega) _) (by simp; omega) _, hf _ _ (by omega) hB.2.1, hf _ _ (by omega) hB.2.2⟩, ⟨b, h1', e1⟩, ?_⟩
      intro j vs hj hF
      by_cases hj1 : j = 1
      · subst hj1
        obtain ⟨b1, e, hm⟩ : ∃ b1, vs 1 = .map (some b1) ∧ GMap w' b1 endV endV (joinedL ls) := hF
        exact ⟨b1, e, hm.keep (by
          have hne : b1 ≠ b := by
            intro hh
            obtain ⟨es, cl, hx, _⟩ := hm
            rw [hh, h3] at hx
            cases hx
          exact blk_far (blk_far rfl hne _) hne _)⟩
      by_cases hj7 : j = 7
      · subst hj7
        obtain ⟨b1, d0, d1, e, e1', e2⟩ : ∃ b c0 c1, vs 7 = .pointer (some ⟨b, 0, none⟩) ∧ w.heap.size + 1 < b ∧ w'.heap[b]? = some (.cells #[c0, c1] 87) := hF
        by_cases hbb : b1 = b
        · subst hbb
          exact ⟨b1, _, _, e, e1', e1⟩
        · exact ⟨b1, _, _, e, e1', hf _ _ hbb e2⟩
      unfold Fof at *
      match j, hj, hj1, hj7 with
      | 0, _, _, _ => exact hF
      | 2, _, _, _ => exact hF
      | 3, _, _, _ => exact hF
      | 4, _, _, _ => exact hF
      | 5, _, _, _ => exact hF
      | 6, _, _, _ => exact hF
      | 9, _, _, _ => exact hF
      | j + 10, _, _, _ => trivial
    · refine step_pure hBs hFs rfl fun a' w' hB hag hp => ?_
      have h1 : a'.tmps.getD 21 undef = _ := hp 6 (by kernel_rfl)
      simp at h1
      unfold OpYields
      go_simp
      exact ⟨Below.refl _ _, rfl⟩
  · intro vs w' hB hF
    simp only [AllF, forall_const, true_implies, Fof, farF, farQ, Nat.zero_add, Nat.reduceAdd, Nat.reduceEqDiff, if_true, if_false, List.getD_cons_succ, List.getD_cons_zero] at hF
    obtain ⟨f0, ⟨b, f1, hm⟩, f2, f3, f4, f5, f6, ⟨b7, c0, c1, f7, hlt7, hb7⟩, ⟨b8, f8, hb8⟩, f9, -⟩ := hF
    obtain rfl : b8 = b7 := by
      rw [f7] at f8
      injection f8 with f8
      injection f8 with f8
      injection f8 with f8
      exact f8.symm
    simp only [putAll, Act.put, Nat.zero_add, Nat.reduceAdd, f0, f1, f2, f3, f4, f5, f6, f7, f9, List.setIfInBounds_toArray, List.set_cons_zero, List.set_cons_succ]
    have HB := Aside.mk hB.1
    have hc0 := blk_cell hB.2.1 0
    have hc1 := blk_cell hB.2.1 1
    have hc2 := blk_cell hB.2.1 2
    have hd0 := blk_cell hB.2.2 0
    have hd1 := blk_cell hB.2.2 1
    have he0 := blk_cell hb8 0
    have he1 := blk_cell hb8 1
    have hlt8 := blk_lt hb8
    simp at hc0 hc1 hc2 hd0 hd1 he0 he1
    have hfin : farL s p ls x y = if (mget (joinedL ls) (x, y)).isSome && isEnd s p (x, y) then ((farG ls x y).1, (farG ls x y).2, true) else (0, 0, false) := by
      unfold farL farG
      cases mget (joinedL ls) (x, y) <;> simp
    have HF := Aside.mk hfin
    clear hfin f0 f1 f2 f3 f4 f5 f6 f7 f8 f9 hm hB hb7 hb8 hlt7
    cases hs : (mget (joinedL ls) (x, y)).isSome
    · go_wp2
      refine bodyPost_ret (v := .tuple #[.int .i64 0, .int .i64 0, .bool false]) (by simp [results, Try.results36, go_sem]) rfl ⟨?_, HB.out⟩
      rw [HF.out, hs]; simp
    · cases he : isEnd s p (x, y)
      · go_wp2_with (go_at_call 46; refine (is_any _ _ _ _ _ rfl _).mono ?_; rintro e w2 ⟨rfl, hb2⟩; have HB2 := Aside.mk (below_call HB.out hb2))
        refine bodyPost_ret (v := .tuple #[.int .i64 0, .int .i64 0, .bool false]) (by simp [results, Try.results36, go_sem]) rfl ⟨?_, HB2.out⟩
        rw [HF.out, hs, he]; simp
      · go_wp2_with (go_at_call 46; refine (is_any _ _ _ _ _ rfl _).mono ?_; rintro e w2 ⟨rfl, hb2⟩; have HB2 := Aside.mk (below_call HB.out hb2); have he2 := (hb2.cell (p := ⟨b8, 0, none⟩) hlt8).trans he0; have he3 := (hb2.cell (p := ⟨b8, 1, none⟩) hlt8).trans he1)
        go_region
        go_wp2
        refine bodyPost_ret (v := .tuple #[.int .i64 (farG ls x y).1, .int .i64 (farG ls x y).2, .bool true]) (by simp [results, Try.results36, go_sem]) rfl ⟨?_, below_drew HB2.out⟩
        rw [HF.out, hs, he]; simp
set_option maxHeartbeats 1000000 in
theorem edge_any (s p : Int) (A : Option Addr) (c : Nat) (ls : List Lnk) (x y : Int) (w : World) (hl : Rd lnkD w A ls.length ls) :
    Calls Try.prog 33 #[.agg #[.int .i64 s, .int .i64 p, .slice A ls.length c], .int .i64 x, .int .i64 y] w fun e w' =>
      e = .returned (.bool (edgeL s p ls x y)) ∧ Below w.heap.size w w' := by
  have HL := Aside.mk hl
  clear hl
  go_enter Try.func33, Try.ntmps33
  go_wp2_with fail
  refine wp_region_facts (Base := farB s p A c ls x y w) (q := farQ) (Fs := farF s p A c ls x y w) (by kernel_rfl) (by kernel_rfl) (by kernel_rfl) (by kernel_rfl) ?_ ?_ ?_
  · refine ⟨below_drew (below_alloc (below_alloc (Below.refl _ _) _) _), ?_, ?_⟩
    · rw [heap_drew, heap_at, if_neg (by simp), heap_at, if_pos rfl]
    · rw [heap_drew, heap_at, if_pos (by simp)]
  · have HL' := HL
    have hBs := farB_stay s p A c ls x y w
    have hFs := farF_stay s p A c ls x y w
    refine ⟨?_, ?_, ?_, ?_, ?_, ?_, ?_, ?_, ?_, ?_, trivial⟩
    · refine step_pure hBs hFs rfl fun a' w' hB hag hp => ?_
      have h3 := hag 3 (by kernel_rfl)
      simp at h3
      have hc0 := blk_cell hB.2.1 0
      have hc1 := blk_cell hB.2.1 1
      have hc2 := blk_cell hB.2.1 2
      unfold OpYields
      go_simp
      exact ⟨Below.refl _ _, rfl⟩
    · refine step_pure hBs hFs rfl fun a' w' hB hag hp => ?_
      have h0 : a'.tmps.getD 14 undef = _ := hp 0 (by kernel_rfl)
      simp at h0
      unfold OpYields
      go_simp
      refine (joined_any _ _ _ _ _ _ (HL.out.below hB.1)).mono ?_
      rintro e w1 ⟨b, rfl, hbb, HM, HB⟩
      exact ⟨_, rfl, HB, b, rfl, HM⟩
    · refine step_pure hBs hFs rfl fun a' w' hB hag hp => ?_
      have h3 := hag 7 (by kernel_rfl)
      simp at h3
      have hc0 := blk_cell hB.2.2 0
      have hc1 := blk_cell hB.2.2 1
      unfold OpYields
      go_simp
      exact ⟨Below.refl _ _, rfl⟩
    · refine step_pure hBs hFs rfl fun a' w' hB hag hp => ?_
      obtain ⟨b, h1, hm⟩ : ∃ b, a'.tmps.getD 15 undef = .map (some b) ∧ GMap w' b endV endV (joinedL ls) := hp 1 (by kernel_rfl)
      have h2 : a'.tmps.getD 16 undef = .agg #[.int .i64 x, .int .i64 y] := hp 2 (by kernel_rfl)
      have hk := look_end hm x y
      simp at h1 h2
      unfold OpYields
      go_simp
      exact ⟨Below.refl _ _, rfl⟩
    · refine step_pure hBs hFs rfl fun a' w' hB hag hp => ?_
      have h1 : a'.tmps.getD 17 undef = _ := hp 3 (by kernel_rfl)
      simp at h1
      unfold OpYields
      go_simp
      exact ⟨Below.refl _ _, rfl⟩
    · refine step_pure hBs hFs rfl fun a' w' hB hag hp => ?_
      have h1 : a'.tmps.getD 13 undef = _ := hp 4 (by kernel_rfl)
      simp at h1
      unfold OpYields
      go_simp
      exact ⟨Below.refl _ _, rfl⟩
    · refine step_pure hBs hFs rfl fun a' w' hB hag hp => ?_
      have h1 : a'.tmps.getD 13 undef = _ := hp 4 (by kernel_rfl)
      simp at h1
      unfold OpYields
      go_simp
      exact ⟨Below.refl _ _, rfl⟩
    · refine step_pure hBs hFs rfl fun a' w' hB hag hp => ?_
      unfold OpYields
      go_simp
      exact ⟨(Below.refl _ _).alloc (by simp) _, _, _, _, rfl, by have h1 := blk_lt hB.2.2; exact h1, by rw [heap_at, if_pos rfl]⟩
    · intro a' w' hB hag hp
      rw [if_pos (by kernel_rfl)]
      obtain ⟨b, c0, c1, h1, h2, h3⟩ : ∃ b c0 c1, a'.tmps.getD 8 undef = .pointer (some ⟨b, 0, none⟩) ∧ w.heap.size + 1 < b ∧ w'.heap[b]? = some (.cells #[c0, c1] 87) := hp 7 (by kernel_rfl)
      have h5 : a'.tmps.getD 18 undef = _ := hp 5 (by kernel_rfl)
      have h1' := h1
      simp at h1 h5
      have k0 := blk_cell h3 0
      have k1 := blk_cell h3 1
      have k2 := blk_frozen h3 0
      have k3 := blk_frozen h3 1
      simp at k0 k1
      unfold OpYields
      go_simp
      have e1 := blk_set (blk_set h3 0 (.int .i64 (farG ls x y).1)) 1 (.int .i64 (farG ls x y).2)
      have hf : ∀ g o, g ≠ b → w'.heap[g]? = some o → ((w'.setCell ⟨b, 0, none⟩ (.int .i64 (farG ls x y).1)).setCell ⟨b, 1, none⟩ (.int .i64 (farG ls x y).2)).heap[g]? = some o := fun g o hg ho => blk_far (blk_far ho hg _) hg _
      refine ⟨⟨below_set (below_set hB.1 (by simp; omega) _) (by simp; omega) _, hf _ _ (by omega) hB.2.1, hf _ _ (by omega) hB.2.2⟩, ⟨b, h1', e1⟩, ?_⟩
      intro j vs hj hF
      by_cases hj1 : j = 1
      · subst hj1
        obtain ⟨b1, e, hm⟩ : ∃ b1, vs 1 = .map (some b1) ∧ GMap w' b1 endV endV (joinedL ls) := hF
        exact ⟨b1, e, hm.keep (by
          have hne : b1 ≠ b := by
            intro hh
            obtain ⟨es, cl, hx, _⟩ := hm
            rw [hh, h3] at hx
            cases hx
          exact blk_far (blk_far rfl hne _) hne _)⟩
      by_cases hj7 : j = 7
      · subst hj7
        obtain ⟨b1, d0, d1, e, e1', e2⟩ : ∃ b c0 c1, vs 7 = .pointer (some ⟨b, 0, none⟩) ∧ w.heap.size + 1 < b ∧ w'.heap[b]? = some (.cells #[c0, c1] 87) := hF
        by_cases hbb : b1 = b
        · subst hbb
          exact ⟨b1, _, _, e, e1', e1⟩
        · exact ⟨b1, _, _, e, e1', hf _ _ hbb e2⟩
      unfold Fof at *
      match j, hj, hj1, hj7 with
      | 0, _, _, _ => exact hF
      | 2, _, _, _ => exact hF
      | 3, _, _, _ => exact hF
      | 4, _, _, _ => exact hF
      | 5, _, _, _ => exact hF
      | 6, _, _, _ => exact hF
      | 9, _, _, _ => exact hF
      | j + 10, _, _, _ => trivial
    · refine step_pure hBs hFs rfl fun a' w' hB hag hp => ?_
      have h1 : a'.tmps.getD 19 undef = _ := hp 6 (by kernel_rfl)
      simp at h1
      unfold OpYields
      go_simp
      exact ⟨Below.refl _ _, rfl⟩
  · intro vs w' hB hF
    simp only [AllF, forall_const, true_implies, Fof, farF, farQ, Nat.zero_add, Nat.reduceAdd, Nat.reduceEqDiff, if_true, if_false, List.getD_cons_succ, List.getD_cons_zero] at hF
    obtain ⟨f0, ⟨b, f1, hm⟩, f2, f3, f4, f5, f6, ⟨b7, c0, c1, f7, hlt7, hb7⟩, ⟨b8, f8, hb8⟩, f9, -⟩ := hF
    obtain rfl : b8 = b7 := by
      rw [f7] at f8
      injection f8 with f8
      injection f8 with f8
      injection f8 with f8
      exact f8.symm
    simp only [putAll, Act.put, Nat.zero_add, Nat.reduceAdd, f0, f1, f2, f3, f4, f5, f6, f7, f9, List.setIfInBounds_toArray, List.set_cons_zero, List.set_cons_succ]
    have HB := Aside.mk hB.1
    have hc0 := blk_cell hB.2.1 0
    have hc1 := blk_cell hB.2.1 1
    have hc2 := blk_cell hB.2.1 2
    have hd0 := blk_cell hB.2.2 0
    have hd1 := blk_cell hB.2.2 1
    have he0 := blk_cell hb8 0
    have he1 := blk_cell hb8 1
    have hlt8 := blk_lt hb8
    simp at hc0 hc1 hc2 hd0 hd1 he0 he1
    have hfin : edgeL s p ls x y = (!(mget (joinedL ls) (x, y)).isSome && isEnd s p (x, y)) := rfl
    have HF := Aside.mk hfin
    clear hfin f0 f1 f2 f3 f4 f5 f6 f7 f8 f9 hm hB hb7 hb8 hlt7
    cases hs : (mget (joinedL ls) (x, y)).isSome
    · go_wp2_with (go_at_call 46; refine (is_any _ _ _ _ _ rfl _).mono ?_; rintro e w2 ⟨rfl, hb2⟩; have HB2 := Aside.mk (below_call HB.out hb2))
      go_ret
      exact ⟨by rw [HF.out, hs]; simp, HB2.out⟩
    · go_wp2
      go_ret
      exact ⟨by rw [HF.out, hs]; simp, HB.out⟩

end Go.Proofs.Ytlnnkkbcmidddaa
