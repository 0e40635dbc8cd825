/- The walk through PickMore. -/
import Derived.Test.YtihlhkadmmcgeaaSortK
import Derived.Test.YtihlhkadmmcgeaaPickQ
import Derived.Test.YtihlhkadmmcgeaaPickO
namespace Go.Proofs.Ytihlhkadmmcgeaa
open Go.RowKit
set_option maxRecDepth 100000
def pmaB (A : Option Addr) (c : Nat) (l L : List Rul) (r : Rul) (inn dst : Int) (wr : World) (w' : World) : Prop :=
  Below wr.heap.size wr w'
def pmaF (A : Option Addr) (c : Nat) (l L : List Rul) (r : Rul) (inn dst : Int) (wr : World) : List (Value → Value → World → Prop) :=
  [fun _ v _ => v = .slice A l.length c,
   fun _ v w' => Own rulF w' wr.heap.size 34 v l,
   fun _ v _ => v = rulV r,
   fun _ v w' => ∃ g, v = .slice (some ⟨g, 0, none⟩) 1 1 ∧ Rd rulF.kd w' (some ⟨g, 0, none⟩) 1 [r],
   fun _ v w' => Own rulF w' wr.heap.size 34 v L,
   fun _ v _ => v = .int .i64 inn,
   fun _ v _ => v = .int .i64 dst,
   fun _ v _ => v = .int .i64 (firstI inn dst L),
   fun _ v _ => v = .int .i64 (firstI inn dst L)]
def pmaQ : Nat → Nat := fun i => i
def pmaK : Nat → Option Nat := fun i => if i = 1 then some 4 else if i = 3 then some 4 else none
theorem pmaF_stay (A : Option Addr) (c : Nat) (l L : List Rul) (r : Rul) (inn dst : Int) (wr : World) : AllStay (pmaF A c l L r inn dst wr) := by
  intro F hF u v w' w'' hb h
  simp only [pmaF, List.mem_cons, List.not_mem_nil, or_false] at hF
  rcases hF with rfl | rfl | rfl | rfl | rfl | rfl | rfl | rfl | rfl
  · exact h
  · exact h.below hb
  · exact h
  · obtain ⟨g, e, hr⟩ := h
    exact ⟨g, e, hr.below hb⟩
  · exact h.below hb
  · exact h
  · exact h
  · exact h
  · exact h
theorem pmaB_stay (A : Option Addr) (c : Nat) (l L : List Rul) (r : Rul) (inn dst : Int) (wr : World) : Stays (pmaB A c l L r inn dst wr) := by
  intro w' w'' hb h
  exact below_call h hb
def pmbB (A : Option Addr) (c n : Nat) (r q : Rul) (a b inn dst : Int) (bk o j : Nat) (wr : World) (w' : World) : Prop :=
  Below wr.heap.size wr w'
def pmbF (A : Option Addr) (c n : Nat) (r q : Rul) (a b inn dst : Int) (bk o j : Nat) (wr : World) : List (Value → Value → World → Prop) :=
  [fun _ v _ => v = .int .i64 b,
   fun _ v _ => v = .int .i64 a,
   fun _ v _ => v = .bool true,
   fun _ v _ => v = .bool true,
   fun _ v _ => v = undef,
   fun _ v _ => v = undef,
   fun _ v _ => v = undef,
   fun _ v _ => v = undef,
   fun _ v _ => v = undef,
   fun _ v _ => v = undef,
   fun _ v _ => v = undef,
   fun _ v _ => v = undef,
   fun _ v _ => v = undef,
   fun _ v _ => v = undef,
   fun _ v _ => v = undef,
   fun _ v _ => v = undef,
   fun _ v _ => v = undef,
   fun _ v _ => v = undef,
   fun _ v _ => v = undef,
   fun _ v _ => v = undef,
   fun _ v _ => v = undef,
   fun _ v _ => v = undef,
   fun _ v _ => v = undef,
   fun _ v _ => v = undef,
   fun _ v _ => v = undef,
   fun _ v _ => v = undef,
   fun _ v _ => v = undef,
   fun _ v _ => v = undef,
   fun _ v _ => v = undef,
   fun _ v _ => v = undef,
   fun _ v _ => v = undef,
   fun _ v _ => v = undef,
   fun _ v _ => v = .bool true,
   fun _ v _ => v = .bool true]
def pmbQ : Nat → Nat := fun i => i
theorem pmbF_stay (A : Option Addr) (c n : Nat) (r q : Rul) (a b inn dst : Int) (bk o j : Nat) (wr : World) : AllStay (pmbF A c n r q a b inn dst bk o j wr) := by
  intro F hF u v w' w'' hb h
  simp only [pmbF, List.mem_cons, List.not_mem_nil, or_false] at hF
  rcases hF with rfl | rfl | rfl | rfl | rfl | rfl | rfl | rfl | rfl | rfl | rfl | rfl | rfl | rfl | rfl | rfl | rfl | rfl | rfl | rfl | rfl | rfl | rfl | rfl | rfl | rfl | rfl | rfl | rfl | rfl | rfl | rfl | rfl | rfl
  · exact h
  · exact h
  · exact h
  · exact h
  · exact h
  · exact h
  · exact h
  · exact h
  · exact h
  · exact h
  · exact h
  · exact h
  · exact h
  · exact h
  · exact h
  · exact h
  · exact h
  · exact h
  · exact h
  · exact h
  · exact h
  · exact h
  · exact h
  · exact h
  · exact h
  · exact h
  · exact h
  · exact h
  · exact h
  · exact h
  · exact h
  · exact h
  · exact h
  · exact h
theorem pmbB_stay (A : Option Addr) (c n : Nat) (r q : Rul) (a b inn dst : Int) (bk o j : Nat) (wr : World) : Stays (pmbB A c n r q a b inn dst bk o j wr) := by
  intro w' w'' hb h
  exact below_call h hb
def pmcB (A : Option Addr) (c n : Nat) (r q : Rul) (a b inn dst : Int) (bk o j : Nat) (wr : World) (w' : World) : Prop :=
  Below wr.heap.size wr w'
def pmcF (A : Option Addr) (c n : Nat) (r q : Rul) (a b inn dst : Int) (bk o j : Nat) (wr : World) : List (Value → Value → World → Prop) :=
  [fun _ v _ => v = .int .i64 b,
   fun _ v _ => v = .int .i64 a,
   fun _ v _ => v = .bool false,
   fun _ v _ => v = .bool false,
   fun _ v _ => v = .int .i64 b,
   fun _ v _ => v = .slice A n c,
   fun _ v _ => v = .int .i64 n,
   fun _ v _ => v = .bool true,
   fun _ v _ => v = .bool true,
   fun _ v _ => v = rulV r,
   fun _ v _ => v = .int .i64 inn,
   fun _ v _ => v = .int .i64 dst,
   fun _ v _ => v = .bool true,
   fun _ v _ => v = .bool true,
   fun _ v _ => v = .bool true,
   fun _ v _ => v = .int .i64 a,
   fun _ v _ => v = .bool true,
   fun _ v _ => v = .bool true,
   fun _ v _ => v = undef,
   fun _ v _ => v = undef,
   fun _ v _ => v = undef,
   fun _ v _ => v = undef,
   fun _ v _ => v = undef,
   fun _ v _ => v = undef,
   fun _ v _ => v = undef,
   fun _ v _ => v = undef,
   fun _ v _ => v = undef,
   fun _ v _ => v = undef,
   fun _ v _ => v = undef,
   fun _ v _ => v = undef,
   fun _ v _ => v = .bool true,
   fun _ v _ => v = .bool true,
   fun _ v _ => v = .bool true,
   fun _ v _ => v = .bool true]
def pmcQ : Nat → Nat := fun i => i
theorem pmcF_stay (A : Option Addr) (c n : Nat) (r q : Rul) (a b inn dst : Int) (bk o j : Nat) (wr : World) : AllStay (pmcF A c n r q a b inn dst bk o j wr) := by
  intro F hF u v w' w'' hb h
  simp only [pmcF, List.mem_cons, List.not_mem_nil, or_false] at hF
  rcases hF with rfl | rfl | rfl | rfl | rfl | rfl | rfl | rfl | rfl | rfl | rfl | rfl | rfl | rfl | rfl | rfl | rfl | rfl | rfl | rfl | rfl | rfl | rfl | rfl | rfl | rfl | rfl | rfl | rfl | rfl | rfl | rfl | rfl | rfl
  · exact h
  · exact h
  · exact h
  · exact h
  · exact h
  · exact h
  · exact h
  · exact h
  · exact h
  · exact h
  · exact h
  · exact h
  · exact h
  · exact h
  · exact h
  · exact h
  · exact h
  · exact h
  · exact h
  · exact h
  · exact h
  · exact h
  · exact h
  · exact h
  · exact h
  · exact h
  · exact h
  · exact h
  · exact h
  · exact h
  · exact h
  · exact h
  · exact h
  · exact h
theorem pmcB_stay (A : Option Addr) (c n : Nat) (r q : Rul) (a b inn dst : Int) (bk o j : Nat) (wr : World) : Stays (pmcB A c n r q a b inn dst bk o j wr) := by
  intro w' w'' hb h
  exact below_call h hb
def pmdB (A : Option Addr) (c n : Nat) (r q : Rul) (a b inn dst : Int) (bk o j : Nat) (wr : World) (w' : World) : Prop :=
  Below wr.heap.size wr w'
def pmdF (A : Option Addr) (c n : Nat) (r q : Rul) (a b inn dst : Int) (bk o j : Nat) (wr : World) : List (Value → Value → World → Prop) :=
  [fun _ v _ => v = .int .i64 b,
   fun _ v _ => v = .int .i64 a,
   fun _ v _ => v = .bool false,
   fun _ v _ => v = .bool false,
   fun _ v _ => v = .int .i64 b,
   fun _ v _ => v = .slice A n c,
   fun _ v _ => v = .int .i64 n,
   fun _ v _ => v = .bool true,
   fun _ v _ => v = .bool true,
   fun _ v _ => v = rulV r,
   fun _ v _ => v = .int .i64 inn,
   fun _ v _ => v = .int .i64 dst,
   fun _ v _ => v = .bool true,
   fun _ v _ => v = .bool true,
   fun _ v _ => v = .bool true,
   fun _ v _ => v = .int .i64 a,
   fun _ v _ => v = .bool false,
   fun _ v _ => v = .bool false,
   fun _ v _ => v = .int .i64 a,
   fun _ v _ => v = .slice A n c,
   fun _ v _ => v = .int .i64 n,
   fun _ v _ => v = .bool true,
   fun _ v _ => v = .bool true,
   fun _ v _ => v = rulV r,
   fun _ v _ => v = .slice A n c,
   fun _ v _ => v = .int .i64 a,
   fun _ v _ => v = .pointer (some ⟨bk, o + j * 6, none⟩),
   fun _ v _ => v = rulV q,
   fun _ v _ => v = .bool true,
   fun _ v _ => v = .bool true,
   fun _ v _ => v = .bool true,
   fun _ v _ => v = .bool true,
   fun _ v _ => v = .bool true,
   fun _ v _ => v = .bool true]
def pmdQ : Nat → Nat := fun i => i
theorem pmdF_stay (A : Option Addr) (c n : Nat) (r q : Rul) (a b inn dst : Int) (bk o j : Nat) (wr : World) : AllStay (pmdF A c n r q a b inn dst bk o j wr) := by
  intro F hF u v w' w'' hb h
  simp only [pmdF, List.mem_cons, List.not_mem_nil, or_false] at hF
  rcases hF with rfl | rfl | rfl | rfl | rfl | rfl | rfl | rfl | rfl | rfl | rfl | rfl | rfl | rfl | rfl | rfl | rfl | rfl | rfl | rfl | rfl | rfl | rfl | rfl | rfl | rfl | rfl | rfl | rfl | rfl | rfl | rfl | rfl | rfl
  · exact h
  · exact h
  · exact h
  · exact h
  · exact h
  · exact h
  · exact h
  · exact h
  · exact h
  · exact h
  · exact h
  · exact h
  · exact h
  · exact h
  · exact h
  · exact h
  · exact h
  · exact h
  · exact h
  · exact h
  · exact h
  · exact h
  · exact h
  · exact h
  · exact h
  · exact h
  · exact h
  · exact h
  · exact h
  · exact h
  · exact h
  · exact h
  · exact h
  · exact h
theorem pmdB_stay (A : Option Addr) (c n : Nat) (r q : Rul) (a b inn dst : Int) (bk o j : Nat) (wr : World) : Stays (pmdB A c n r q a b inn dst bk o j wr) := by
  intro w' w'' hb h
  exact below_call h hb
set_option maxHeartbeats 4000000 in
theorem pickMore_big (A : Option Addr) (c : Nat) (l : List Rul) (r : Rul) (inn dst : Int) (w : World) (hl : Rd rulD w A l.length l) (hF : ∀ r ∈ l, FitR8 r) (hnc : A = none → c = 0) (hr : FitR8 r) (hi : Fit inn) (hd : Fit dst) (h60 : ¬ l.length ≤ 60) : Calls Try.prog 6 #[.slice A l.length c, rulV r, .int .i64 inn, .int .i64 dst] w fun e w' => e = .returned (.bool true) ∧ Below w.heap.size w w' := by
  have hmx := hl.max
  have d60 : decide ((60 : Int) < (l.length : Int)) = true := decide_eq_true (by omega)
  have KB := Aside.mk (below_alloc (Below.refl _ w) (.cells #[.int .i64 r.addr, .int .i64 r.len, .int .i64 r.inn, .int .i64 r.prio, .int .i64 r.kind, .int .i64 r.port] 34))
  have HX := Aside.mk (heapN w (.cells #[.int .i64 r.addr, .int .i64 r.len, .int .i64 r.inn, .int .i64 r.prio, .int .i64 r.kind, .int .i64 r.port] 34) rfl)
  clear hl hF
  go_enter Try.func6, Try.ntmps6
  go_wp2_with (go_at_call 9; refine (awake08_any _).mono ?_; rintro e w1 ⟨rfl, hb1⟩; have KB := Aside.mk (below_call KB.out hb1); have HX := Aside.mk (blk_keep HX.out hb1); clear hb1)
  go_ret
  exact ⟨rfl, KB.out⟩
set_option maxHeartbeats 4000000 in
theorem pickMore_same (A : Option Addr) (c : Nat) (l : List Rul) (r : Rul) (inn dst : Int) (w : World) (hl : Rd rulD w A l.length l) (hF : ∀ r ∈ l, FitR8 r) (hnc : A = none → c = 0) (hr : FitR8 r) (hi : Fit inn) (hd : Fit dst) (h60 : l.length ≤ 60) (a b : Int) (h1 : firstI inn dst l = a) (h2 : firstI inn dst (l ++ [r]) = b) (hab : b = a) : Calls Try.prog 6 #[.slice A l.length c, rulV r, .int .i64 inn, .int .i64 dst] w fun e w' => e = .returned (.bool true) ∧ Below w.heap.size w w' := by
  have hmx := hl.max
  have d60 : decide ((60 : Int) < (l.length : Int)) = false := decide_eq_false (by omega)
  have HL0 := Aside.mk hl
  have HNC := Aside.mk hnc
  have KB := Aside.mk (below_alloc (Below.refl _ w) (.cells #[.int .i64 r.addr, .int .i64 r.len, .int .i64 r.inn, .int .i64 r.prio, .int .i64 r.kind, .int .i64 r.port] 34))
  have HX := Aside.mk (heapN w (.cells #[.int .i64 r.addr, .int .i64 r.len, .int .i64 r.inn, .int .i64 r.prio, .int .i64 r.kind, .int .i64 r.port] 34) rfl)
  have F1 := Aside.mk h1
  obtain ⟨L, hLL⟩ : ∃ L, L = l ++ [r] := ⟨_, rfl⟩
  have HLL := Aside.mk hLL
  clear hl hF hnc hr hi hd hLL
  have F2 := Aside.mk h2
  have dab : (b == a) = true := by simp [hab]
  clear h1 h2
  go_enter Try.func6, Try.ntmps6
  go_wp2_with (first | (go_at_call 9; refine (awake08_any _).mono ?_; rintro e w1 ⟨rfl, hb1⟩; have KB := Aside.mk (below_call KB.out hb1); have HX := Aside.mk (blk_keep HX.out hb1); clear hb1) | (go_at_call 13; refine (first_any l A c inn dst _ (HL0.out.below KB.out)).mono ?_; rw [F1.out]; rintro e w2 ⟨rfl, hb1⟩; have KB := Aside.mk (below_call KB.out hb1); have HX := Aside.mk (blk_keep HX.out hb1); clear hb1))
  refine (show ∀ W, Below w.heap.size w W → W.heap[w.heap.size]? = some (.cells #[.int .i64 r.addr, .int .i64 r.len, .int .i64 r.inn, .int .i64 r.prio, .int .i64 r.kind, .int .i64 r.port] 34) → Code.wp _ _ _ _ W from fun wr kb hx => ?_) _ KB.out HX.out
  clear KB HX
  have KB := Aside.mk kb
  have HX := Aside.mk hx
  have HL := Aside.mk (HL0.out.below kb)
  have hxl := blk_lt hx
  clear kb hx
  have X0 := Aside.mk (blk_cell HX.out 0); have X1 := Aside.mk (blk_cell HX.out 1); have X2 := Aside.mk (blk_cell HX.out 2); have X3 := Aside.mk (blk_cell HX.out 3); have X4 := Aside.mk (blk_cell HX.out 4); have X5 := Aside.mk (blk_cell HX.out 5)
  refine wp_region_facts_kl (Base := pmaB A c l L r inn dst wr) pmaQ pmaK (Fs := pmaF A c l L r inn dst wr) (by kernel_rfl) (by kernel_rfl) (by kernel_rfl) (by kernel_rfl) (below_drew (Below.refl _ _)) ?_ ?_
  ·
    have hBs := pmaB_stay A c l L r inn dst wr
    have hFs := pmaF_stay A c l L r inn dst wr
    refine ⟨?_, ?_, ?_, ?_, ?_, ?_, ?_, ?_, ?_, trivial⟩
    · refine step_pure hBs hFs rfl fun a' w' hB hag hp => ?_
      have h0 := hag 0 (by kernel_rfl)
      simp at h0
      unfold OpYields
      go_simp
      exact ⟨Below.refl _ _, rfl⟩
    · refine step_pure hBs hFs rfl fun a' w' hB hag hp => ?_
      have h25 : a'.tmps.getD 25 undef = _ := hp 0 (by kernel_rfl)
      have hB0 : Below wr.heap.size wr w' := hB
      refine (yields_appRow (f := rulF) wr.heap.size (.const (.slice none 0 0)) (.tmp 25) _ _ _ _ rfl Try.underlying22 infoRul rfl (by decide) (.slice none 0 0) [] l A c rfl (by show a'.tmps.getD 25 undef = _; rw [h25]) HNC.out (Own.nil _ _ _ _) (HL.out.below hB0) hB0.size (by simp; omega)).mono ?_
      rintro v w1 ⟨ho, hg, _⟩
      exact ⟨below_of_grown hg, ho⟩
    · refine step_pure hBs hFs rfl fun a' w' hB hag hp => ?_
      have h5 := hag 5 (by kernel_rfl)
      have hB : Below wr.heap.size wr w' := hB; have x0 := (hB.cell (p := ⟨w.heap.size, 0, none⟩) hxl).trans X0.out; have x1 := (hB.cell (p := ⟨w.heap.size, 1, none⟩) hxl).trans X1.out; have x2 := (hB.cell (p := ⟨w.heap.size, 2, none⟩) hxl).trans X2.out; have x3 := (hB.cell (p := ⟨w.heap.size, 3, none⟩) hxl).trans X3.out; have x4 := (hB.cell (p := ⟨w.heap.size, 4, none⟩) hxl).trans X4.out; have x5 := (hB.cell (p := ⟨w.heap.size, 5, none⟩) hxl).trans X5.out
      simp at h5
      unfold OpYields
      go_simp
      exact ⟨Below.refl _ _, rfl⟩
    · refine step_pure hBs hFs rfl fun a' w' hB hag hp => ?_
      have h27 : a'.tmps.getD 27 undef = _ := hp 2 (by kernel_rfl)
      simp at h27
      unfold OpYields
      go_simp
      exact ⟨(Below.refl _ _).alloc (Nat.le_refl _) _, _, rfl, Rd.made rulF w' _ _ _ [r] rfl (by simp)⟩
    · intro a' w' hB hag hp
      rw [if_pos (by simp [Region.wanted])]
      have hB0 : Below wr.heap.size wr w' := hB
      have h26 : Own rulF w' wr.heap.size 34 (a'.tmps.getD 26 undef) l := hp 1 (by kernel_rfl)
      obtain ⟨g0, h28, hr28⟩ : ∃ g, a'.tmps.getD 28 undef = .slice (some ⟨g, 0, none⟩) 1 1 ∧ Rd rulF.kd w' (some ⟨g, 0, none⟩) 1 [r] := hp 3 (by kernel_rfl)
      refine (yields_appRow (f := rulF) wr.heap.size (.tmp 26) (.tmp 28) _ _ _ _ rfl Try.underlying22 infoRul rfl (by decide) (a'.tmps.getD 26 undef) l [r] (some ⟨g0, 0, none⟩) 1 rfl (by show a'.tmps.getD 28 undef = _; rw [h28]; rfl) (fun h => by cases h) h26 hr28 hB0.size (by simp; omega)).mono ?_
      rintro v w1 ⟨ho, hg, _⟩
      rw [← HLL.out] at ho
      refine ⟨below_own hB0 hg (fun k hk => ⟨(h26.lt k hk).1, (h26.lt k hk).2⟩), ho, ?_⟩
      intro j vs hj hjk hF
      unfold Fof at *
      match j, hj, hjk with
      | 0, _, _ => exact hF
      | 1, _, h => exact absurd rfl h
      | 2, _, _ => exact hF
      | 3, _, h => exact absurd rfl h
      | 5, _, _ => exact hF
      | 6, _, _ => exact hF
      | 7, _, _ => exact hF
      | 8, _, _ => exact hF
      | j + 9, _, _ => trivial
    · refine step_pure hBs hFs rfl fun a' w' hB hag hp => ?_
      have h2 := hag 2 (by kernel_rfl)
      simp at h2
      unfold OpYields
      go_simp
      exact ⟨Below.refl _ _, rfl⟩
    · refine step_pure hBs hFs rfl fun a' w' hB hag hp => ?_
      have h3 := hag 3 (by kernel_rfl)
      simp at h3
      unfold OpYields
      go_simp
      exact ⟨Below.refl _ _, rfl⟩
    · refine step_pure hBs hFs rfl fun a' w' hB hag hp => ?_
      have h29 := hp 4 (by kernel_rfl)
      replace h29 : _ := h29
      have h30 : a'.tmps.getD 30 undef = _ := hp 5 (by kernel_rfl)
      have h31 : a'.tmps.getD 31 undef = _ := hp 6 (by kernel_rfl)
      replace h29 : Own rulF w' wr.heap.size 34 (a'.tmps.getD 29 undef) L := h29
      obtain ⟨A9, c9, hv, -, hr⟩ := h29.rd
      simp at hv h30 h31
      unfold OpYields
      go_simp
      refine (first_any L A9 c9 inn dst w' hr).mono ?_
      rintro e w1 ⟨rfl, hb⟩
      exact ⟨_, rfl, hb, rfl⟩
    · refine step_pure hBs hFs rfl fun a' w' hB hag hp => ?_
      have h32 : a'.tmps.getD 32 undef = _ := hp 7 (by kernel_rfl)
      simp at h32
      unfold OpYields
      go_simp
      exact ⟨Below.refl _ _, rfl⟩
  intro vs w' hB hF
  simp only [AllF, forall_const, reduceCtorEq, false_implies, Fof, pmaF, pmaQ, pmaK, Nat.zero_add, Nat.reduceAdd, Nat.reduceEqDiff, if_true, if_false, List.getD_cons_succ, List.getD_cons_zero] at hF
  obtain ⟨f0, -, f2, -, f4, f5, f6, f7, f8, -⟩ := hF
  simp only [putAll, Act.put, Nat.zero_add, Nat.reduceAdd, f0, f2, f4, f5, f6, f7, f8, List.setIfInBounds_toArray, List.set_cons_zero, List.set_cons_succ]
  have hB' : Below wr.heap.size wr w' := hB
  have KB := Aside.mk (below_call KB.out hB')
  have HX := Aside.mk (blk_keep HX.out hB')
  clear hB hB' X0 X1 X2 X3 X4 X5 hxl HL
  rw [HLL.out, F2.out]
  go_wp2
  refine (show ∀ W, Below w.heap.size w W → W.heap[w.heap.size]? = some (.cells #[.int .i64 r.addr, .int .i64 r.len, .int .i64 r.inn, .int .i64 r.prio, .int .i64 r.kind, .int .i64 r.port] 34) → Code.wp _ _ _ _ W from fun wr kb hx => ?_) _ KB.out HX.out
  clear KB HX
  have KB := Aside.mk kb
  have HX := Aside.mk hx
  have hxl := blk_lt hx
  clear kb hx
  have X0 := Aside.mk (blk_cell HX.out 0); have X1 := Aside.mk (blk_cell HX.out 1); have X2 := Aside.mk (blk_cell HX.out 2); have X3 := Aside.mk (blk_cell HX.out 3); have X4 := Aside.mk (blk_cell HX.out 4); have X5 := Aside.mk (blk_cell HX.out 5)
  refine wp_region_facts (Base := pmbB A c l.length r r a b inn dst 0 0 0 wr) (q := pmbQ) (Fs := pmbF A c l.length r r a b inn dst 0 0 0 wr) (by kernel_rfl) (by kernel_rfl) (by kernel_rfl) (by kernel_rfl) (below_drew (Below.refl _ _)) ?_ ?_
  ·
    have hBs := pmbB_stay A c l.length r r a b inn dst 0 0 0 wr
    have hFs := pmbF_stay A c l.length r r a b inn dst 0 0 0 wr
    refine ⟨?_, ?_, ?_, ?_, ?_, ?_, ?_, ?_, ?_, ?_, ?_, ?_, ?_, ?_, ?_, ?_, ?_, ?_, ?_, ?_, ?_, ?_, ?_, ?_, ?_, ?_, ?_, ?_, ?_, ?_, ?_, ?_, ?_, ?_, trivial⟩
    · refine step_pure hBs hFs rfl fun a' w' hB hag hp => ?_
      have h11 := hag 11 (by kernel_rfl)
      simp at h11
      unfold OpYields
      go_simp
      exact ⟨Below.refl _ _, rfl⟩
    · refine step_pure hBs hFs rfl fun a' w' hB hag hp => ?_
      have h10 := hag 10 (by kernel_rfl)
      simp at h10
      unfold OpYields
      go_simp
      exact ⟨Below.refl _ _, rfl⟩
    · refine step_pure hBs hFs rfl fun a' w' hB hag hp => ?_
      have h33 : a'.tmps.getD 33 undef = _ := hp 0 (by kernel_rfl)
      have h34 : a'.tmps.getD 34 undef = _ := hp 1 (by kernel_rfl)
      have ueq := Try.underlying3
      have ueqb := Try.underlying4
      simp at h33 h34
      unfold OpYields
      go_simp
      exact ⟨Below.refl _ _, rfl⟩
    · refine step_pure hBs hFs rfl fun a' w' hB hag hp => ?_
      have h35 : a'.tmps.getD 35 undef = _ := hp 2 (by kernel_rfl)
      simp at h35
      unfold OpYields
      go_simp
      exact ⟨Below.refl _ _, rfl⟩
    · refine step_out fun a' w' hB hag hp => ?_
      have hg : a'.tmps.getD 36 undef = _ := hp 3 (by kernel_rfl)
      exact ⟨unwanted_of hg rfl rfl rfl, rfl⟩
    · refine step_out fun a' w' hB hag hp => ?_
      have hg : a'.tmps.getD 36 undef = _ := hp 3 (by kernel_rfl)
      exact ⟨unwanted_of hg rfl rfl rfl, rfl⟩
    · refine step_out fun a' w' hB hag hp => ?_
      have hg : a'.tmps.getD 36 undef = _ := hp 3 (by kernel_rfl)
      exact ⟨unwanted_of hg rfl rfl rfl, rfl⟩
    · refine step_out fun a' w' hB hag hp => ?_
      have hg : a'.tmps.getD 36 undef = _ := hp 3 (by kernel_rfl)
      exact ⟨unwanted_of hg rfl rfl rfl, rfl⟩
    · refine step_out fun a' w' hB hag hp => ?_
      have hg : a'.tmps.getD 36 undef = _ := hp 3 (by kernel_rfl)
      exact ⟨unwanted_of hg rfl rfl rfl, rfl⟩
    · refine step_out fun a' w' hB hag hp => ?_
      have hg : a'.tmps.getD 41 undef = _ := hp 8 (by kernel_rfl)
      exact ⟨unwanted_undef hg rfl rfl, rfl⟩
    · refine step_out fun a' w' hB hag hp => ?_
      have hg : a'.tmps.getD 41 undef = _ := hp 8 (by kernel_rfl)
      exact ⟨unwanted_undef hg rfl rfl, rfl⟩
    · refine step_out fun a' w' hB hag hp => ?_
      have hg : a'.tmps.getD 41 undef = _ := hp 8 (by kernel_rfl)
      exact ⟨unwanted_undef hg rfl rfl, rfl⟩
    · refine step_out fun a' w' hB hag hp => ?_
      have hg : a'.tmps.getD 41 undef = _ := hp 8 (by kernel_rfl)
      exact ⟨unwanted_undef hg rfl rfl, rfl⟩
    · refine step_out fun a' w' hB hag hp => ?_
      have hg : a'.tmps.getD 36 undef = _ := hp 3 (by kernel_rfl)
      exact ⟨unwanted_of hg rfl rfl rfl, rfl⟩
    · refine step_out fun a' w' hB hag hp => ?_
      have hg : a'.tmps.getD 36 undef = _ := hp 3 (by kernel_rfl)
      exact ⟨unwanted_of hg rfl rfl rfl, rfl⟩
    · refine step_out fun a' w' hB hag hp => ?_
      have hg : a'.tmps.getD 47 undef = _ := hp 14 (by kernel_rfl)
      exact ⟨unwanted_undef hg rfl rfl, rfl⟩
    · refine step_out fun a' w' hB hag hp => ?_
      have hg : a'.tmps.getD 47 undef = _ := hp 14 (by kernel_rfl)
      exact ⟨unwanted_undef hg rfl rfl, rfl⟩
    · refine step_out fun a' w' hB hag hp => ?_
      have hg : a'.tmps.getD 47 undef = _ := hp 14 (by kernel_rfl)
      exact ⟨unwanted_undef hg rfl rfl, rfl⟩
    · refine step_out fun a' w' hB hag hp => ?_
      have hg : a'.tmps.getD 50 undef = _ := hp 17 (by kernel_rfl)
      exact ⟨unwanted_undef hg rfl rfl, rfl⟩
    · refine step_out fun a' w' hB hag hp => ?_
      have hg : a'.tmps.getD 50 undef = _ := hp 17 (by kernel_rfl)
      exact ⟨unwanted_undef hg rfl rfl, rfl⟩
    · refine step_out fun a' w' hB hag hp => ?_
      have hg : a'.tmps.getD 50 undef = _ := hp 17 (by kernel_rfl)
      exact ⟨unwanted_undef hg rfl rfl, rfl⟩
    · refine step_out fun a' w' hB hag hp => ?_
      have hg : a'.tmps.getD 50 undef = _ := hp 17 (by kernel_rfl)
      exact ⟨unwanted_undef hg rfl rfl, rfl⟩
    · refine step_out fun a' w' hB hag hp => ?_
      have hg : a'.tmps.getD 50 undef = _ := hp 17 (by kernel_rfl)
      exact ⟨unwanted_undef hg rfl rfl, rfl⟩
    · refine step_out fun a' w' hB hag hp => ?_
      have hg : a'.tmps.getD 55 undef = _ := hp 22 (by kernel_rfl)
      exact ⟨unwanted_undef hg rfl rfl, rfl⟩
    · refine step_out fun a' w' hB hag hp => ?_
      have hg : a'.tmps.getD 55 undef = _ := hp 22 (by kernel_rfl)
      exact ⟨unwanted_undef hg rfl rfl, rfl⟩
    · refine step_out fun a' w' hB hag hp => ?_
      have hg : a'.tmps.getD 55 undef = _ := hp 22 (by kernel_rfl)
      exact ⟨unwanted_undef hg rfl rfl, rfl⟩
    · refine step_out fun a' w' hB hag hp => ?_
      have hg : a'.tmps.getD 55 undef = _ := hp 22 (by kernel_rfl)
      exact ⟨unwanted_undef hg rfl rfl, rfl⟩
    · refine step_out fun a' w' hB hag hp => ?_
      have hg : a'.tmps.getD 55 undef = _ := hp 22 (by kernel_rfl)
      exact ⟨unwanted_undef hg rfl rfl, rfl⟩
    · refine step_out fun a' w' hB hag hp => ?_
      have hg : a'.tmps.getD 55 undef = _ := hp 22 (by kernel_rfl)
      exact ⟨unwanted_undef hg rfl rfl, rfl⟩
    · refine step_out fun a' w' hB hag hp => ?_
      have hg : a'.tmps.getD 50 undef = _ := hp 17 (by kernel_rfl)
      exact ⟨unwanted_undef hg rfl rfl, rfl⟩
    · refine step_out fun a' w' hB hag hp => ?_
      have hg : a'.tmps.getD 47 undef = _ := hp 14 (by kernel_rfl)
      exact ⟨unwanted_undef hg rfl rfl, rfl⟩
    · refine step_out fun a' w' hB hag hp => ?_
      have hg : a'.tmps.getD 36 undef = _ := hp 3 (by kernel_rfl)
      exact ⟨unwanted_of hg rfl rfl rfl, rfl⟩
    · refine step_pure hBs hFs rfl fun a' w' hB hag hp => ?_
      have h36 : a'.tmps.getD 36 undef = _ := hp 3 (by kernel_rfl)
      have h64 : a'.tmps.getD 64 undef = _ := hp 31 (by kernel_rfl)
      simp at h36 h64
      unfold OpYields
      go_simp
      exact ⟨Below.refl _ _, rfl⟩
    · refine step_pure hBs hFs rfl fun a' w' hB hag hp => ?_
      have h65 : a'.tmps.getD 65 undef = _ := hp 32 (by kernel_rfl)
      simp at h65
      unfold OpYields
      go_simp
      exact ⟨Below.refl _ _, rfl⟩
  intro vs w' hB hF
  simp only [AllF, forall_const, reduceCtorEq, false_implies, Fof, pmbF, pmbQ, Nat.zero_add, Nat.reduceAdd, Nat.reduceEqDiff, if_true, if_false, List.getD_cons_succ, List.getD_cons_zero] at hF
  obtain ⟨f0, f1, f2, f3, f4, f5, f6, f7, f8, f9, f10, f11, f12, f13, f14, f15, f16, f17, f18, f19, f20, f21, f22, f23, f24, f25, f26, f27, f28, f29, f30, f31, f32, f33, -⟩ := hF
  simp only [putAll, Act.put, Nat.zero_add, Nat.reduceAdd, f0, f1, f2, f3, f4, f5, f6, f7, f8, f9, f10, f11, f12, f13, f14, f15, f16, f17, f18, f19, f20, f21, f22, f23, f24, f25, f26, f27, f28, f29, f30, f31, f32, f33, List.setIfInBounds_toArray, List.set_cons_zero, List.set_cons_succ]
  have KB := Aside.mk (below_call KB.out hB)
  clear hB
  go_wp2
  go_ret
  exact ⟨rfl, KB.out⟩
set_option maxHeartbeats 4000000 in
theorem pickMore_none (A : Option Addr) (c : Nat) (l : List Rul) (r : Rul) (inn dst : Int) (w : World) (hl : Rd rulD w A l.length l) (hF : ∀ r ∈ l, FitR8 r) (hnc : A = none → c = 0) (hr : FitR8 r) (hi : Fit inn) (hd : Fit dst) (h60 : l.length ≤ 60) (h1 : firstI inn dst l = -1) (h2 : firstI inn dst (l ++ [r]) = l.length) (hfr : fitsI r inn dst = true) : Calls Try.prog 6 #[.slice A l.length c, rulV r, .int .i64 inn, .int .i64 dst] w fun e w' => e = .returned (.bool true) ∧ Below w.heap.size w w' := by
  have hmx := hl.max
  have d60 : decide ((60 : Int) < (l.length : Int)) = false := decide_eq_false (by omega)
  have HL0 := Aside.mk hl
  have HNC := Aside.mk hnc
  have KB := Aside.mk (below_alloc (Below.refl _ w) (.cells #[.int .i64 r.addr, .int .i64 r.len, .int .i64 r.inn, .int .i64 r.prio, .int .i64 r.kind, .int .i64 r.port] 34))
  have HX := Aside.mk (heapN w (.cells #[.int .i64 r.addr, .int .i64 r.len, .int .i64 r.inn, .int .i64 r.prio, .int .i64 r.kind, .int .i64 r.port] 34) rfl)
  have F1 := Aside.mk h1
  obtain ⟨L, hLL⟩ : ∃ L, L = l ++ [r] := ⟨_, rfl⟩
  have HLL := Aside.mk hLL
  clear hl hF hnc hr hi hd hLL
  have F2 := Aside.mk h2
  have HFR := Aside.mk hfr
  have dab : ((l.length : Int) == -1) = false := by first | (simp; done) | (simp; omega)
  clear h1 h2 hfr
  go_enter Try.func6, Try.ntmps6
  go_wp2_with (first | (go_at_call 9; refine (awake08_any _).mono ?_; rintro e w1 ⟨rfl, hb1⟩; have KB := Aside.mk (below_call KB.out hb1); have HX := Aside.mk (blk_keep HX.out hb1); clear hb1) | (go_at_call 13; refine (first_any l A c inn dst _ (HL0.out.below KB.out)).mono ?_; rw [F1.out]; rintro e w2 ⟨rfl, hb1⟩; have KB := Aside.mk (below_call KB.out hb1); have HX := Aside.mk (blk_keep HX.out hb1); clear hb1))
  refine (show ∀ W, Below w.heap.size w W → W.heap[w.heap.size]? = some (.cells #[.int .i64 r.addr, .int .i64 r.len, .int .i64 r.inn, .int .i64 r.prio, .int .i64 r.kind, .int .i64 r.port] 34) → Code.wp _ _ _ _ W from fun wr kb hx => ?_) _ KB.out HX.out
  clear KB HX
  have KB := Aside.mk kb
  have HX := Aside.mk hx
  have HL := Aside.mk (HL0.out.below kb)
  have hxl := blk_lt hx
  clear kb hx
  have X0 := Aside.mk (blk_cell HX.out 0); have X1 := Aside.mk (blk_cell HX.out 1); have X2 := Aside.mk (blk_cell HX.out 2); have X3 := Aside.mk (blk_cell HX.out 3); have X4 := Aside.mk (blk_cell HX.out 4); have X5 := Aside.mk (blk_cell HX.out 5)
  refine wp_region_facts_kl (Base := pmaB A c l L r inn dst wr) pmaQ pmaK (Fs := pmaF A c l L r inn dst wr) (by kernel_rfl) (by kernel_rfl) (by kernel_rfl) (by kernel_rfl) (below_drew (Below.refl _ _)) ?_ ?_
  ·
    have hBs := pmaB_stay A c l L r inn dst wr
    have hFs := pmaF_stay A c l L r inn dst wr
    refine ⟨?_, ?_, ?_, ?_, ?_, ?_, ?_, ?_, ?_, trivial⟩
    · refine step_pure hBs hFs rfl fun a' w' hB hag hp => ?_
      have h0 := hag 0 (by kernel_rfl)
      simp at h0
      unfold OpYields
      go_simp
      exact ⟨Below.refl _ _, rfl⟩
    · refine step_pure hBs hFs rfl fun a' w' hB hag hp => ?_
      have h25 : a'.tmps.getD 25 undef = _ := hp 0 (by kernel_rfl)
      have hB0 : Below wr.heap.size wr w' := hB
      refine (yields_appRow (f := rulF) wr.heap.size (.const (.slice none 0 0)) (.tmp 25) _ _ _ _ rfl Try.underlying22 infoRul rfl (by decide) (.slice none 0 0) [] l A c rfl (by show a'.tmps.getD 25 undef = _; rw [h25]) HNC.out (Own.nil _ _ _ _) (HL.out.below hB0) hB0.size (by simp; omega)).mono ?_
      rintro v w1 ⟨ho, hg, _⟩
      exact ⟨below_of_grown hg, ho⟩
    · refine step_pure hBs hFs rfl fun a' w' hB hag hp => ?_
      have h5 := hag 5 (by kernel_rfl)
      have hB : Below wr.heap.size wr w' := hB; have x0 := (hB.cell (p := ⟨w.heap.size, 0, none⟩) hxl).trans X0.out; have x1 := (hB.cell (p := ⟨w.heap.size, 1, none⟩) hxl).trans X1.out; have x2 := (hB.cell (p := ⟨w.heap.size, 2, none⟩) hxl).trans X2.out; have x3 := (hB.cell (p := ⟨w.heap.size, 3, none⟩) hxl).trans X3.out; have x4 := (hB.cell (p := ⟨w.heap.size, 4, none⟩) hxl).trans X4.out; have x5 := (hB.cell (p := ⟨w.heap.size, 5, none⟩) hxl).trans X5.out
      simp at h5
      unfold OpYields
      go_simp
      exact ⟨Below.refl _ _, rfl⟩
    · refine step_pure hBs hFs rfl fun a' w' hB hag hp => ?_
      have h27 : a'.tmps.getD 27 undef = _ := hp 2 (by kernel_rfl)
      simp at h27
      unfold OpYields
      go_simp
      exact ⟨(Below.refl _ _).alloc (Nat.le_refl _) _, _, rfl, Rd.made rulF w' _ _ _ [r] rfl (by simp)⟩
    · intro a' w' hB hag hp
      rw [if_pos (by simp [Region.wanted])]
      have hB0 : Below wr.heap.size wr w' := hB
      have h26 : Own rulF w' wr.heap.size 34 (a'.tmps.getD 26 undef) l := hp 1 (by kernel_rfl)
      obtain ⟨g0, h28, hr28⟩ : ∃ g, a'.tmps.getD 28 undef = .slice (some ⟨g, 0, none⟩) 1 1 ∧ Rd rulF.kd w' (some ⟨g, 0, none⟩) 1 [r] := hp 3 (by kernel_rfl)
      refine (yields_appRow (f := rulF) wr.heap.size (.tmp 26) (.tmp 28) _ _ _ _ rfl Try.underlying22 infoRul rfl (by decide) (a'.tmps.getD 26 undef) l [r] (some ⟨g0, 0, none⟩) 1 rfl (by show a'.tmps.getD 28 undef = _; rw [h28]; rfl) (fun h => by cases h) h26 hr28 hB0.size (by simp; omega)).mono ?_
      rintro v w1 ⟨ho, hg, _⟩
      rw [← HLL.out] at ho
      refine ⟨below_own hB0 hg (fun k hk => ⟨(h26.lt k hk).1, (h26.lt k hk).2⟩), ho, ?_⟩
      intro j vs hj hjk hF
      unfold Fof at *
      match j, hj, hjk with
      | 0, _, _ => exact hF
      | 1, _, h => exact absurd rfl h
      | 2, _, _ => exact hF
      | 3, _, h => exact absurd rfl h
      | 5, _, _ => exact hF
      | 6, _, _ => exact hF
      | 7, _, _ => exact hF
      | 8, _, _ => exact hF
      | j + 9, _, _ => trivial
    · refine step_pure hBs hFs rfl fun a' w' hB hag hp => ?_
      have h2 := hag 2 (by kernel_rfl)
      simp at h2
      unfold OpYields
      go_simp
      exact ⟨Below.refl _ _, rfl⟩
    · refine step_pure hBs hFs rfl fun a' w' hB hag hp => ?_
      have h3 := hag 3 (by kernel_rfl)
      simp at h3
      unfold OpYields
      go_simp
      exact ⟨Below.refl _ _, rfl⟩
    · refine step_pure hBs hFs rfl fun a' w' hB hag hp => ?_
      have h29 := hp 4 (by kernel_rfl)
      replace h29 : _ := h29
      have h30 : a'.tmps.getD 30 undef = _ := hp 5 (by kernel_rfl)
      have h31 : a'.tmps.getD 31 undef = _ := hp 6 (by kernel_rfl)
      replace h29 : Own rulF w' wr.heap.size 34 (a'.tmps.getD 29 undef) L := h29
      obtain ⟨A9, c9, hv, -, hr⟩ := h29.rd
      simp at hv h30 h31
      unfold OpYields
      go_simp
      refine (first_any L A9 c9 inn dst w' hr).mono ?_
      rintro e w1 ⟨rfl, hb⟩
      exact ⟨_, rfl, hb, rfl⟩
    · refine step_pure hBs hFs rfl fun a' w' hB hag hp => ?_
      have h32 : a'.tmps.getD 32 undef = _ := hp 7 (by kernel_rfl)
      simp at h32
      unfold OpYields
      go_simp
      exact ⟨Below.refl _ _, rfl⟩
  intro vs w' hB hF
  simp only [AllF, forall_const, reduceCtorEq, false_implies, Fof, pmaF, pmaQ, pmaK, Nat.zero_add, Nat.reduceAdd, Nat.reduceEqDiff, if_true, if_false, List.getD_cons_succ, List.getD_cons_zero] at hF
  obtain ⟨f0, -, f2, -, f4, f5, f6, f7, f8, -⟩ := hF
  simp only [putAll, Act.put, Nat.zero_add, Nat.reduceAdd, f0, f2, f4, f5, f6, f7, f8, List.setIfInBounds_toArray, List.set_cons_zero, List.set_cons_succ]
  have hB' : Below wr.heap.size wr w' := hB
  have KB := Aside.mk (below_call KB.out hB')
  have HX := Aside.mk (blk_keep HX.out hB')
  clear hB hB' X0 X1 X2 X3 X4 X5 hxl HL
  rw [HLL.out, F2.out]
  go_wp2
  refine (show ∀ W, Below w.heap.size w W → W.heap[w.heap.size]? = some (.cells #[.int .i64 r.addr, .int .i64 r.len, .int .i64 r.inn, .int .i64 r.prio, .int .i64 r.kind, .int .i64 r.port] 34) → Code.wp _ _ _ _ W from fun wr kb hx => ?_) _ KB.out HX.out
  clear KB HX
  have KB := Aside.mk kb
  have HX := Aside.mk hx
  have hxl := blk_lt hx
  clear kb hx
  have X0 := Aside.mk (blk_cell HX.out 0); have X1 := Aside.mk (blk_cell HX.out 1); have X2 := Aside.mk (blk_cell HX.out 2); have X3 := Aside.mk (blk_cell HX.out 3); have X4 := Aside.mk (blk_cell HX.out 4); have X5 := Aside.mk (blk_cell HX.out 5)
  refine wp_region_facts (Base := pmcB A c l.length r r (-1) l.length inn dst 0 0 0 wr) (q := pmcQ) (Fs := pmcF A c l.length r r (-1) l.length inn dst 0 0 0 wr) (by kernel_rfl) (by kernel_rfl) (by kernel_rfl) (by kernel_rfl) (below_drew (Below.refl _ _)) ?_ ?_
  ·
    have hBs := pmcB_stay A c l.length r r (-1) l.length inn dst 0 0 0 wr
    have hFs := pmcF_stay A c l.length r r (-1) l.length inn dst 0 0 0 wr
    refine ⟨?_, ?_, ?_, ?_, ?_, ?_, ?_, ?_, ?_, ?_, ?_, ?_, ?_, ?_, ?_, ?_, ?_, ?_, ?_, ?_, ?_, ?_, ?_, ?_, ?_, ?_, ?_, ?_, ?_, ?_, ?_, ?_, ?_, ?_, trivial⟩
    · refine step_pure hBs hFs rfl fun a' w' hB hag hp => ?_
      have h11 := hag 11 (by kernel_rfl)
      simp at h11
      unfold OpYields
      go_simp
      exact ⟨Below.refl _ _, rfl⟩
    · refine step_pure hBs hFs rfl fun a' w' hB hag hp => ?_
      have h10 := hag 10 (by kernel_rfl)
      simp at h10
      unfold OpYields
      go_simp
      exact ⟨Below.refl _ _, rfl⟩
    · refine step_pure hBs hFs rfl fun a' w' hB hag hp => ?_
      have h33 : a'.tmps.getD 33 undef = _ := hp 0 (by kernel_rfl)
      have h34 : a'.tmps.getD 34 undef = _ := hp 1 (by kernel_rfl)
      have ueq := Try.underlying3
      have ueqb := Try.underlying4
      simp at h33 h34
      unfold OpYields
      go_simp
      exact ⟨Below.refl _ _, rfl⟩
    · refine step_pure hBs hFs rfl fun a' w' hB hag hp => ?_
      have h35 : a'.tmps.getD 35 undef = _ := hp 2 (by kernel_rfl)
      simp at h35
      unfold OpYields
      go_simp
      exact ⟨Below.refl _ _, rfl⟩
    · refine step_pure_g hBs hFs fun a' w' hB hag hp => ?_
      have hg : a'.tmps.getD 36 undef = _ := hp 3 (by kernel_rfl)
      have h11 := hag 11 (by kernel_rfl)
      refine ⟨wanted_of hg rfl rfl, ?_⟩
      simp at h11
      unfold OpYields
      go_simp
      exact ⟨Below.refl _ _, rfl⟩
    · refine step_pure_g hBs hFs fun a' w' hB hag hp => ?_
      have hg : a'.tmps.getD 36 undef = _ := hp 3 (by kernel_rfl)
      have h0 := hag 0 (by kernel_rfl)
      refine ⟨wanted_of hg rfl rfl, ?_⟩
      simp at h0
      unfold OpYields
      go_simp
      exact ⟨Below.refl _ _, rfl⟩
    · refine step_pure_g hBs hFs fun a' w' hB hag hp => ?_
      have hg : a'.tmps.getD 36 undef = _ := hp 3 (by kernel_rfl)
      have h38 : a'.tmps.getD 38 undef = _ := hp 5 (by kernel_rfl)
      refine ⟨wanted_of hg rfl rfl, ?_⟩
      simp at h38
      unfold OpYields
      go_simp
      exact ⟨Below.refl _ _, rfl⟩
    · refine step_pure_g hBs hFs fun a' w' hB hag hp => ?_
      have hg : a'.tmps.getD 36 undef = _ := hp 3 (by kernel_rfl)
      have h37 : a'.tmps.getD 37 undef = _ := hp 4 (by kernel_rfl)
      have h39 : a'.tmps.getD 39 undef = _ := hp 6 (by kernel_rfl)
      have ueq := Try.underlying3
      have ueqb := Try.underlying4
      refine ⟨wanted_of hg rfl rfl, ?_⟩
      simp at h37 h39
      unfold OpYields
      go_simp
      exact ⟨Below.refl _ _, rfl⟩
    · refine step_pure_g hBs hFs fun a' w' hB hag hp => ?_
      have hg : a'.tmps.getD 36 undef = _ := hp 3 (by kernel_rfl)
      have h40 : a'.tmps.getD 40 undef = _ := hp 7 (by kernel_rfl)
      refine ⟨wanted_of hg rfl rfl, ?_⟩
      simp at h40
      unfold OpYields
      go_simp
      exact ⟨Below.refl _ _, rfl⟩
    · refine step_pure_g hBs hFs fun a' w' hB hag hp => ?_
      have hg : a'.tmps.getD 41 undef = _ := hp 8 (by kernel_rfl)
      have h5 := hag 5 (by kernel_rfl)
      have hB : Below wr.heap.size wr w' := hB; have x0 := (hB.cell (p := ⟨w.heap.size, 0, none⟩) hxl).trans X0.out; have x1 := (hB.cell (p := ⟨w.heap.size, 1, none⟩) hxl).trans X1.out; have x2 := (hB.cell (p := ⟨w.heap.size, 2, none⟩) hxl).trans X2.out; have x3 := (hB.cell (p := ⟨w.heap.size, 3, none⟩) hxl).trans X3.out; have x4 := (hB.cell (p := ⟨w.heap.size, 4, none⟩) hxl).trans X4.out; have x5 := (hB.cell (p := ⟨w.heap.size, 5, none⟩) hxl).trans X5.out
      refine ⟨wanted_of hg rfl rfl, ?_⟩
      simp at h5
      unfold OpYields
      go_simp
      exact ⟨Below.refl _ _, rfl⟩
    · refine step_pure_g hBs hFs fun a' w' hB hag hp => ?_
      have hg : a'.tmps.getD 41 undef = _ := hp 8 (by kernel_rfl)
      have h2 := hag 2 (by kernel_rfl)
      refine ⟨wanted_of hg rfl rfl, ?_⟩
      simp at h2
      unfold OpYields
      go_simp
      exact ⟨Below.refl _ _, rfl⟩
    · refine step_pure_g hBs hFs fun a' w' hB hag hp => ?_
      have hg : a'.tmps.getD 41 undef = _ := hp 8 (by kernel_rfl)
      have h3 := hag 3 (by kernel_rfl)
      refine ⟨wanted_of hg rfl rfl, ?_⟩
      simp at h3
      unfold OpYields
      go_simp
      exact ⟨Below.refl _ _, rfl⟩
    · refine step_pure_g hBs hFs fun a' w' hB hag hp => ?_
      have hg : a'.tmps.getD 41 undef = _ := hp 8 (by kernel_rfl)
      have h42 : a'.tmps.getD 42 undef = _ := hp 9 (by kernel_rfl)
      have h43 : a'.tmps.getD 43 undef = _ := hp 10 (by kernel_rfl)
      have h44 : a'.tmps.getD 44 undef = _ := hp 11 (by kernel_rfl)
      refine ⟨wanted_of hg rfl rfl, ?_⟩
      simp at h42 h43 h44
      unfold OpYields
      go_simp
      refine (fits_any r inn dst w').mono ?_
      rw [HFR.out]
      rintro e w1 ⟨rfl, hb⟩
      exact ⟨_, rfl, hb, rfl⟩
    · refine step_pure_g hBs hFs fun a' w' hB hag hp => ?_
      have hg : a'.tmps.getD 36 undef = _ := hp 3 (by kernel_rfl)
      have h41 : a'.tmps.getD 41 undef = _ := hp 8 (by kernel_rfl)
      have h45 : a'.tmps.getD 45 undef = _ := hp 12 (by kernel_rfl)
      refine ⟨wanted_of hg rfl rfl, ?_⟩
      simp at h41 h45
      unfold OpYields
      go_simp
      exact ⟨Below.refl _ _, rfl⟩
    · refine step_pure_g hBs hFs fun a' w' hB hag hp => ?_
      have hg : a'.tmps.getD 36 undef = _ := hp 3 (by kernel_rfl)
      have h46 : a'.tmps.getD 46 undef = _ := hp 13 (by kernel_rfl)
      refine ⟨wanted_of hg rfl rfl, ?_⟩
      simp at h46
      unfold OpYields
      go_simp
      exact ⟨Below.refl _ _, rfl⟩
    · refine step_pure_g hBs hFs fun a' w' hB hag hp => ?_
      have hg : a'.tmps.getD 47 undef = _ := hp 14 (by kernel_rfl)
      have h10 := hag 10 (by kernel_rfl)
      refine ⟨wanted_of hg rfl rfl, ?_⟩
      simp at h10
      unfold OpYields
      go_simp
      exact ⟨Below.refl _ _, rfl⟩
    · refine step_pure_g hBs hFs fun a' w' hB hag hp => ?_
      have hg : a'.tmps.getD 47 undef = _ := hp 14 (by kernel_rfl)
      have h48 : a'.tmps.getD 48 undef = _ := hp 15 (by kernel_rfl)
      refine ⟨wanted_of hg rfl rfl, ?_⟩
      simp at h48
      unfold OpYields
      go_simp
      exact ⟨Below.refl _ _, rfl⟩
    · refine step_pure_g hBs hFs fun a' w' hB hag hp => ?_
      have hg : a'.tmps.getD 47 undef = _ := hp 14 (by kernel_rfl)
      have h49 : a'.tmps.getD 49 undef = _ := hp 16 (by kernel_rfl)
      refine ⟨wanted_of hg rfl rfl, ?_⟩
      simp at h49
      unfold OpYields
      go_simp
      exact ⟨Below.refl _ _, rfl⟩
    · refine step_out fun a' w' hB hag hp => ?_
      have hg : a'.tmps.getD 50 undef = _ := hp 17 (by kernel_rfl)
      exact ⟨unwanted_of hg rfl rfl rfl, rfl⟩
    · refine step_out fun a' w' hB hag hp => ?_
      have hg : a'.tmps.getD 50 undef = _ := hp 17 (by kernel_rfl)
      exact ⟨unwanted_of hg rfl rfl rfl, rfl⟩
    · refine step_out fun a' w' hB hag hp => ?_
      have hg : a'.tmps.getD 50 undef = _ := hp 17 (by kernel_rfl)
      exact ⟨unwanted_of hg rfl rfl rfl, rfl⟩
    · refine step_out fun a' w' hB hag hp => ?_
      have hg : a'.tmps.getD 50 undef = _ := hp 17 (by kernel_rfl)
      exact ⟨unwanted_of hg rfl rfl rfl, rfl⟩
    · refine step_out fun a' w' hB hag hp => ?_
      have hg : a'.tmps.getD 50 undef = _ := hp 17 (by kernel_rfl)
      exact ⟨unwanted_of hg rfl rfl rfl, rfl⟩
    · refine step_out fun a' w' hB hag hp => ?_
      have hg : a'.tmps.getD 55 undef = _ := hp 22 (by kernel_rfl)
      exact ⟨unwanted_undef hg rfl rfl, rfl⟩
    · refine step_out fun a' w' hB hag hp => ?_
      have hg : a'.tmps.getD 55 undef = _ := hp 22 (by kernel_rfl)
      exact ⟨unwanted_undef hg rfl rfl, rfl⟩
    · refine step_out fun a' w' hB hag hp => ?_
      have hg : a'.tmps.getD 55 undef = _ := hp 22 (by kernel_rfl)
      exact ⟨unwanted_undef hg rfl rfl, rfl⟩
    · refine step_out fun a' w' hB hag hp => ?_
      have hg : a'.tmps.getD 55 undef = _ := hp 22 (by kernel_rfl)
      exact ⟨unwanted_undef hg rfl rfl, rfl⟩
    · refine step_out fun a' w' hB hag hp => ?_
      have hg : a'.tmps.getD 55 undef = _ := hp 22 (by kernel_rfl)
      exact ⟨unwanted_undef hg rfl rfl, rfl⟩
    · refine step_out fun a' w' hB hag hp => ?_
      have hg : a'.tmps.getD 55 undef = _ := hp 22 (by kernel_rfl)
      exact ⟨unwanted_undef hg rfl rfl, rfl⟩
    · refine step_out fun a' w' hB hag hp => ?_
      have hg : a'.tmps.getD 50 undef = _ := hp 17 (by kernel_rfl)
      exact ⟨unwanted_of hg rfl rfl rfl, rfl⟩
    · refine step_pure_g hBs hFs fun a' w' hB hag hp => ?_
      have hg : a'.tmps.getD 47 undef = _ := hp 14 (by kernel_rfl)
      have h50 : a'.tmps.getD 50 undef = _ := hp 17 (by kernel_rfl)
      have h62 : a'.tmps.getD 62 undef = _ := hp 29 (by kernel_rfl)
      refine ⟨wanted_of hg rfl rfl, ?_⟩
      simp at h50 h62
      unfold OpYields
      go_simp
      exact ⟨Below.refl _ _, rfl⟩
    · refine step_pure_g hBs hFs fun a' w' hB hag hp => ?_
      have hg : a'.tmps.getD 36 undef = _ := hp 3 (by kernel_rfl)
      have h47 : a'.tmps.getD 47 undef = _ := hp 14 (by kernel_rfl)
      have h63 : a'.tmps.getD 63 undef = _ := hp 30 (by kernel_rfl)
      refine ⟨wanted_of hg rfl rfl, ?_⟩
      simp at h47 h63
      unfold OpYields
      go_simp
      exact ⟨Below.refl _ _, rfl⟩
    · refine step_pure hBs hFs rfl fun a' w' hB hag hp => ?_
      have h36 : a'.tmps.getD 36 undef = _ := hp 3 (by kernel_rfl)
      have h64 : a'.tmps.getD 64 undef = _ := hp 31 (by kernel_rfl)
      simp at h36 h64
      unfold OpYields
      go_simp
      exact ⟨Below.refl _ _, rfl⟩
    · refine step_pure hBs hFs rfl fun a' w' hB hag hp => ?_
      have h65 : a'.tmps.getD 65 undef = _ := hp 32 (by kernel_rfl)
      simp at h65
      unfold OpYields
      go_simp
      exact ⟨Below.refl _ _, rfl⟩
  intro vs w' hB hF
  simp only [AllF, forall_const, reduceCtorEq, false_implies, Fof, pmcF, pmcQ, Nat.zero_add, Nat.reduceAdd, Nat.reduceEqDiff, if_true, if_false, List.getD_cons_succ, List.getD_cons_zero] at hF
  obtain ⟨f0, f1, f2, f3, f4, f5, f6, f7, f8, f9, f10, f11, f12, f13, f14, f15, f16, f17, f18, f19, f20, f21, f22, f23, f24, f25, f26, f27, f28, f29, f30, f31, f32, f33, -⟩ := hF
  simp only [putAll, Act.put, Nat.zero_add, Nat.reduceAdd, f0, f1, f2, f3, f4, f5, f6, f7, f8, f9, f10, f11, f12, f13, f14, f15, f16, f17, f18, f19, f20, f21, f22, f23, f24, f25, f26, f27, f28, f29, f30, f31, f32, f33, List.setIfInBounds_toArray, List.set_cons_zero, List.set_cons_succ]
  have KB := Aside.mk (below_call KB.out hB)
  clear hB
  go_wp2
  go_ret
  exact ⟨rfl, KB.out⟩
set_option maxHeartbeats 4000000 in
theorem pickMore_some (A : Option Addr) (c : Nat) (l : List Rul) (r : Rul) (inn dst : Int) (w : World) (hl : Rd rulD w A l.length l) (hF : ∀ r ∈ l, FitR8 r) (hnc : A = none → c = 0) (hr : FitR8 r) (hi : Fit inn) (hd : Fit dst) (h60 : l.length ≤ 60) (j : Nat) (q : Rul) (h1 : firstI inn dst l = j) (hj : j < l.length) (h3 : l[j]? = some q) (h2 : firstI inn dst (l ++ [r]) = l.length) (hfr : fitsI r inn dst = true) (haq : aheadI r q = true) : Calls Try.prog 6 #[.slice A l.length c, rulV r, .int .i64 inn, .int .i64 dst] w fun e w' => e = .returned (.bool true) ∧ Below w.heap.size w w' := by
  have hmx := hl.max
  have d60 : decide ((60 : Int) < (l.length : Int)) = false := decide_eq_false (by omega)
  have HL0 := Aside.mk hl
  have HNC := Aside.mk hnc
  have KB := Aside.mk (below_alloc (Below.refl _ w) (.cells #[.int .i64 r.addr, .int .i64 r.len, .int .i64 r.inn, .int .i64 r.prio, .int .i64 r.kind, .int .i64 r.port] 34))
  have HX := Aside.mk (heapN w (.cells #[.int .i64 r.addr, .int .i64 r.len, .int .i64 r.inn, .int .i64 r.prio, .int .i64 r.kind, .int .i64 r.port] 34) rfl)
  have F1 := Aside.mk h1
  obtain ⟨L, hLL⟩ : ∃ L, L = l ++ [r] := ⟨_, rfl⟩
  have HLL := Aside.mk hLL
  clear hl hF hnc hr hi hd hLL
  have F2 := Aside.mk h2
  have HFR := Aside.mk hfr
  have HAQ := Aside.mk haq
  have dab : ((l.length : Int) == (j : Int)) = false := by simp; omega
  have dj : decide ((j : Int) < 0) = false := decide_eq_false (by omega)
  have dj2 : (j : Int) < (l.length : Int) := by omega
  have hjq : l[j]'hj = q := (List.getElem?_eq_some_iff.1 h3).2
  obtain ⟨bk, o, _, rfl, -⟩ := Row.at HL0.out j hj
  have HCQ := Aside.mk (fun W (hb : Below w.heap.size w W) => rul_cells (c := c) HL0.out hb hj)
  rw [hjq] at HCQ
  clear h1 h2 hfr h3 haq hjq
  go_enter Try.func6, Try.ntmps6
  go_wp2_with (first | (go_at_call 9; refine (awake08_any _).mono ?_; rintro e w1 ⟨rfl, hb1⟩; have KB := Aside.mk (below_call KB.out hb1); have HX := Aside.mk (blk_keep HX.out hb1); clear hb1) | (go_at_call 13; refine (first_any l (some ⟨bk, o, none⟩) c inn dst _ (HL0.out.below KB.out)).mono ?_; rw [F1.out]; rintro e w2 ⟨rfl, hb1⟩; have KB := Aside.mk (below_call KB.out hb1); have HX := Aside.mk (blk_keep HX.out hb1); clear hb1))
  refine (show ∀ W, Below w.heap.size w W → W.heap[w.heap.size]? = some (.cells #[.int .i64 r.addr, .int .i64 r.len, .int .i64 r.inn, .int .i64 r.prio, .int .i64 r.kind, .int .i64 r.port] 34) → Code.wp _ _ _ _ W from fun wr kb hx => ?_) _ KB.out HX.out
  clear KB HX
  have KB := Aside.mk kb
  have HX := Aside.mk hx
  have HL := Aside.mk (HL0.out.below kb)
  have hxl := blk_lt hx
  clear kb hx
  have X0 := Aside.mk (blk_cell HX.out 0); have X1 := Aside.mk (blk_cell HX.out 1); have X2 := Aside.mk (blk_cell HX.out 2); have X3 := Aside.mk (blk_cell HX.out 3); have X4 := Aside.mk (blk_cell HX.out 4); have X5 := Aside.mk (blk_cell HX.out 5)
  refine wp_region_facts_kl (Base := pmaB (some ⟨bk, o, none⟩) c l L r inn dst wr) pmaQ pmaK (Fs := pmaF (some ⟨bk, o, none⟩) c l L r inn dst wr) (by kernel_rfl) (by kernel_rfl) (by kernel_rfl) (by kernel_rfl) (below_drew (Below.refl _ _)) ?_ ?_
  ·
    have hBs := pmaB_stay (some ⟨bk, o, none⟩) c l L r inn dst wr
    have hFs := pmaF_stay (some ⟨bk, o, none⟩) c l L r inn dst wr
    refine ⟨?_, ?_, ?_, ?_, ?_, ?_, ?_, ?_, ?_, trivial⟩
    · refine step_pure hBs hFs rfl fun a' w' hB hag hp => ?_
      have h0 := hag 0 (by kernel_rfl)
      simp at h0
      unfold OpYields
      go_simp
      exact ⟨Below.refl _ _, rfl⟩
    · refine step_pure hBs hFs rfl fun a' w' hB hag hp => ?_
      have h25 : a'.tmps.getD 25 undef = _ := hp 0 (by kernel_rfl)
      have hB0 : Below wr.heap.size wr w' := hB
      refine (yields_appRow (f := rulF) wr.heap.size (.const (.slice none 0 0)) (.tmp 25) _ _ _ _ rfl Try.underlying22 infoRul rfl (by decide) (.slice none 0 0) [] l (some ⟨bk, o, none⟩) c rfl (by show a'.tmps.getD 25 undef = _; rw [h25]) HNC.out (Own.nil _ _ _ _) (HL.out.below hB0) hB0.size (by simp; omega)).mono ?_
      rintro v w1 ⟨ho, hg, _⟩
      exact ⟨below_of_grown hg, ho⟩
    · refine step_pure hBs hFs rfl fun a' w' hB hag hp => ?_
      have h5 := hag 5 (by kernel_rfl)
      have hB : Below wr.heap.size wr w' := hB; have x0 := (hB.cell (p := ⟨w.heap.size, 0, none⟩) hxl).trans X0.out; have x1 := (hB.cell (p := ⟨w.heap.size, 1, none⟩) hxl).trans X1.out; have x2 := (hB.cell (p := ⟨w.heap.size, 2, none⟩) hxl).trans X2.out; have x3 := (hB.cell (p := ⟨w.heap.size, 3, none⟩) hxl).trans X3.out; have x4 := (hB.cell (p := ⟨w.heap.size, 4, none⟩) hxl).trans X4.out; have x5 := (hB.cell (p := ⟨w.heap.size, 5, none⟩) hxl).trans X5.out
      simp at h5
      unfold OpYields
      go_simp
      exact ⟨Below.refl _ _, rfl⟩
    · refine step_pure hBs hFs rfl fun a' w' hB hag hp => ?_
      have h27 : a'.tmps.getD 27 undef = _ := hp 2 (by kernel_rfl)
      simp at h27
      unfold OpYields
      go_simp
      exact ⟨(Below.refl _ _).alloc (Nat.le_refl _) _, _, rfl, Rd.made rulF w' _ _ _ [r] rfl (by simp)⟩
    · intro a' w' hB hag hp
      rw [if_pos (by simp [Region.wanted])]
      have hB0 : Below wr.heap.size wr w' := hB
      have h26 : Own rulF w' wr.heap.size 34 (a'.tmps.getD 26 undef) l := hp 1 (by kernel_rfl)
      obtain ⟨g0, h28, hr28⟩ : ∃ g, a'.tmps.getD 28 undef = .slice (some ⟨g, 0, none⟩) 1 1 ∧ Rd rulF.kd w' (some ⟨g, 0, none⟩) 1 [r] := hp 3 (by kernel_rfl)
      refine (yields_appRow (f := rulF) wr.heap.size (.tmp 26) (.tmp 28) _ _ _ _ rfl Try.underlying22 infoRul rfl (by decide) (a'.tmps.getD 26 undef) l [r] (some ⟨g0, 0, none⟩) 1 rfl (by show a'.tmps.getD 28 undef = _; rw [h28]; rfl) (fun h => by cases h) h26 hr28 hB0.size (by simp; omega)).mono ?_
      rintro v w1 ⟨ho, hg, _⟩
      rw [← HLL.out] at ho
      refine ⟨below_own hB0 hg (fun k hk => ⟨(h26.lt k hk).1, (h26.lt k hk).2⟩), ho, ?_⟩
      intro j vs hj hjk hF
      unfold Fof at *
      match j, hj, hjk with
      | 0, _, _ => exact hF
      | 1, _, h => exact absurd rfl h
      | 2, _, _ => exact hF
      | 3, _, h => exact absurd rfl h
      | 5, _, _ => exact hF
      | 6, _, _ => exact hF
      | 7, _, _ => exact hF
      | 8, _, _ => exact hF
      | j + 9, _, _ => trivial
    · refine step_pure hBs hFs rfl fun a' w' hB hag hp => ?_
      have h2 := hag 2 (by kernel_rfl)
      simp at h2
      unfold OpYields
      go_simp
      exact ⟨Below.refl _ _, rfl⟩
    · refine step_pure hBs hFs rfl fun a' w' hB hag hp => ?_
      have h3 := hag 3 (by kernel_rfl)
      simp at h3
      unfold OpYields
      go_simp
      exact ⟨Below.refl _ _, rfl⟩
    · refine step_pure hBs hFs rfl fun a' w' hB hag hp => ?_
      have h29 := hp 4 (by kernel_rfl)
      replace h29 : _ := h29
      have h30 : a'.tmps.getD 30 undef = _ := hp 5 (by kernel_rfl)
      have h31 : a'.tmps.getD 31 undef = _ := hp 6 (by kernel_rfl)
      replace h29 : Own rulF w' wr.heap.size 34 (a'.tmps.getD 29 undef) L := h29
      obtain ⟨A9, c9, hv, -, hr⟩ := h29.rd
      simp at hv h30 h31
      unfold OpYields
      go_simp
      refine (first_any L A9 c9 inn dst w' hr).mono ?_
      rintro e w1 ⟨rfl, hb⟩
      exact ⟨_, rfl, hb, rfl⟩
    · refine step_pure hBs hFs rfl fun a' w' hB hag hp => ?_
      have h32 : a'.tmps.getD 32 undef = _ := hp 7 (by kernel_rfl)
      simp at h32
      unfold OpYields
      go_simp
      exact ⟨Below.refl _ _, rfl⟩
  intro vs w' hB hF
  simp only [AllF, forall_const, reduceCtorEq, false_implies, Fof, pmaF, pmaQ, pmaK, Nat.zero_add, Nat.reduceAdd, Nat.reduceEqDiff, if_true, if_false, List.getD_cons_succ, List.getD_cons_zero] at hF
  obtain ⟨f0, -, f2, -, f4, f5, f6, f7, f8, -⟩ := hF
  simp only [putAll, Act.put, Nat.zero_add, Nat.reduceAdd, f0, f2, f4, f5, f6, f7, f8, List.setIfInBounds_toArray, List.set_cons_zero, List.set_cons_succ]
  have hB' : Below wr.heap.size wr w' := hB
  have KB := Aside.mk (below_call KB.out hB')
  have HX := Aside.mk (blk_keep HX.out hB')
  clear hB hB' X0 X1 X2 X3 X4 X5 hxl HL
  rw [HLL.out, F2.out]
  go_wp2
  refine (show ∀ W, Below w.heap.size w W → W.heap[w.heap.size]? = some (.cells #[.int .i64 r.addr, .int .i64 r.len, .int .i64 r.inn, .int .i64 r.prio, .int .i64 r.kind, .int .i64 r.port] 34) → Code.wp _ _ _ _ W from fun wr kb hx => ?_) _ KB.out HX.out
  clear KB HX
  have KB := Aside.mk kb
  have HX := Aside.mk hx
  have hxl := blk_lt hx
  clear kb hx
  have X0 := Aside.mk (blk_cell HX.out 0); have X1 := Aside.mk (blk_cell HX.out 1); have X2 := Aside.mk (blk_cell HX.out 2); have X3 := Aside.mk (blk_cell HX.out 3); have X4 := Aside.mk (blk_cell HX.out 4); have X5 := Aside.mk (blk_cell HX.out 5)
  obtain ⟨hbl0, q0, q1, q2, q3, q4, q5⟩ := HCQ.out _ KB.out
  have hbl := Nat.lt_of_lt_of_le hbl0 KB.out.size
  have Y0 := Aside.mk q0
  have Y1 := Aside.mk q1
  have Y2 := Aside.mk q2
  have Y3 := Aside.mk q3
  have Y4 := Aside.mk q4
  have Y5 := Aside.mk q5
  clear q0 q1 q2 q3 q4 q5 hbl0
  refine wp_region_facts (Base := pmdB (some ⟨bk, o, none⟩) c l.length r q j l.length inn dst bk o j wr) (q := pmdQ) (Fs := pmdF (some ⟨bk, o, none⟩) c l.length r q j l.length inn dst bk o j wr) (by kernel_rfl) (by kernel_rfl) (by kernel_rfl) (by kernel_rfl) (below_drew (Below.refl _ _)) ?_ ?_
  ·
    have hBs := pmdB_stay (some ⟨bk, o, none⟩) c l.length r q j l.length inn dst bk o j wr
    have hFs := pmdF_stay (some ⟨bk, o, none⟩) c l.length r q j l.length inn dst bk o j wr
    refine ⟨?_, ?_, ?_, ?_, ?_, ?_, ?_, ?_, ?_, ?_, ?_, ?_, ?_, ?_, ?_, ?_, ?_, ?_, ?_, ?_, ?_, ?_, ?_, ?_, ?_, ?_, ?_, ?_, ?_, ?_, ?_, ?_, ?_, ?_, trivial⟩
    · refine step_pure hBs hFs rfl fun a' w' hB hag hp => ?_
      have h11 := hag 11 (by kernel_rfl)
      simp at h11
      unfold OpYields
      go_simp
      exact ⟨Below.refl _ _, rfl⟩
    · refine step_pure hBs hFs rfl fun a' w' hB hag hp => ?_
      have h10 := hag 10 (by kernel_rfl)
      simp at h10
      unfold OpYields
      go_simp
      exact ⟨Below.refl _ _, rfl⟩
    · refine step_pure hBs hFs rfl fun a' w' hB hag hp => ?_
      have h33 : a'.tmps.getD 33 undef = _ := hp 0 (by kernel_rfl)
      have h34 : a'.tmps.getD 34 undef = _ := hp 1 (by kernel_rfl)
      have ueq := Try.underlying3
      have ueqb := Try.underlying4
      simp at h33 h34
      unfold OpYields
      go_simp
      exact ⟨Below.refl _ _, rfl⟩
    · refine step_pure hBs hFs rfl fun a' w' hB hag hp => ?_
      have h35 : a'.tmps.getD 35 undef = _ := hp 2 (by kernel_rfl)
      simp at h35
      unfold OpYields
      go_simp
      exact ⟨Below.refl _ _, rfl⟩
    · refine step_pure_g hBs hFs fun a' w' hB hag hp => ?_
      have hg : a'.tmps.getD 36 undef = _ := hp 3 (by kernel_rfl)
      have h11 := hag 11 (by kernel_rfl)
      refine ⟨wanted_of hg rfl rfl, ?_⟩
      simp at h11
      unfold OpYields
      go_simp
      exact ⟨Below.refl _ _, rfl⟩
    · refine step_pure_g hBs hFs fun a' w' hB hag hp => ?_
      have hg : a'.tmps.getD 36 undef = _ := hp 3 (by kernel_rfl)
      have h0 := hag 0 (by kernel_rfl)
      refine ⟨wanted_of hg rfl rfl, ?_⟩
      simp at h0
      unfold OpYields
      go_simp
      exact ⟨Below.refl _ _, rfl⟩
    · refine step_pure_g hBs hFs fun a' w' hB hag hp => ?_
      have hg : a'.tmps.getD 36 undef = _ := hp 3 (by kernel_rfl)
      have h38 : a'.tmps.getD 38 undef = _ := hp 5 (by kernel_rfl)
      refine ⟨wanted_of hg rfl rfl, ?_⟩
      simp at h38
      unfold OpYields
      go_simp
      exact ⟨Below.refl _ _, rfl⟩
    · refine step_pure_g hBs hFs fun a' w' hB hag hp => ?_
      have hg : a'.tmps.getD 36 undef = _ := hp 3 (by kernel_rfl)
      have h37 : a'.tmps.getD 37 undef = _ := hp 4 (by kernel_rfl)
      have h39 : a'.tmps.getD 39 undef = _ := hp 6 (by kernel_rfl)
      have ueq := Try.underlying3
      have ueqb := Try.underlying4
      refine ⟨wanted_of hg rfl rfl, ?_⟩
      simp at h37 h39
      unfold OpYields
      go_simp
      exact ⟨Below.refl _ _, rfl⟩
    · refine step_pure_g hBs hFs fun a' w' hB hag hp => ?_
      have hg : a'.tmps.getD 36 undef = _ := hp 3 (by kernel_rfl)
      have h40 : a'.tmps.getD 40 undef = _ := hp 7 (by kernel_rfl)
      refine ⟨wanted_of hg rfl rfl, ?_⟩
      simp at h40
      unfold OpYields
      go_simp
      exact ⟨Below.refl _ _, rfl⟩
    · refine step_pure_g hBs hFs fun a' w' hB hag hp => ?_
      have hg : a'.tmps.getD 41 undef = _ := hp 8 (by kernel_rfl)
      have h5 := hag 5 (by kernel_rfl)
      have hB : Below wr.heap.size wr w' := hB; have x0 := (hB.cell (p := ⟨w.heap.size, 0, none⟩) hxl).trans X0.out; have x1 := (hB.cell (p := ⟨w.heap.size, 1, none⟩) hxl).trans X1.out; have x2 := (hB.cell (p := ⟨w.heap.size, 2, none⟩) hxl).trans X2.out; have x3 := (hB.cell (p := ⟨w.heap.size, 3, none⟩) hxl).trans X3.out; have x4 := (hB.cell (p := ⟨w.heap.size, 4, none⟩) hxl).trans X4.out; have x5 := (hB.cell (p := ⟨w.heap.size, 5, none⟩) hxl).trans X5.out; have y0 := (hB.cell (p := ⟨bk, o + j * 6, none⟩) hbl).trans Y0.out; have y1 := (hB.cell (p := ⟨bk, o + j * 6 + 1, none⟩) hbl).trans Y1.out; have y2 := (hB.cell (p := ⟨bk, o + j * 6 + 2, none⟩) hbl).trans Y2.out; have y3 := (hB.cell (p := ⟨bk, o + j * 6 + 3, none⟩) hbl).trans Y3.out; have y4 := (hB.cell (p := ⟨bk, o + j * 6 + 4, none⟩) hbl).trans Y4.out; have y5 := (hB.cell (p := ⟨bk, o + j * 6 + 5, none⟩) hbl).trans Y5.out
      refine ⟨wanted_of hg rfl rfl, ?_⟩
      simp at h5
      unfold OpYields
      go_simp
      exact ⟨Below.refl _ _, rfl⟩
    · refine step_pure_g hBs hFs fun a' w' hB hag hp => ?_
      have hg : a'.tmps.getD 41 undef = _ := hp 8 (by kernel_rfl)
      have h2 := hag 2 (by kernel_rfl)
      refine ⟨wanted_of hg rfl rfl, ?_⟩
      simp at h2
      unfold OpYields
      go_simp
      exact ⟨Below.refl _ _, rfl⟩
    · refine step_pure_g hBs hFs fun a' w' hB hag hp => ?_
      have hg : a'.tmps.getD 41 undef = _ := hp 8 (by kernel_rfl)
      have h3 := hag 3 (by kernel_rfl)
      refine ⟨wanted_of hg rfl rfl, ?_⟩
      simp at h3
      unfold OpYields
      go_simp
      exact ⟨Below.refl _ _, rfl⟩
    · refine step_pure_g hBs hFs fun a' w' hB hag hp => ?_
      have hg : a'.tmps.getD 41 undef = _ := hp 8 (by kernel_rfl)
      have h42 : a'.tmps.getD 42 undef = _ := hp 9 (by kernel_rfl)
      have h43 : a'.tmps.getD 43 undef = _ := hp 10 (by kernel_rfl)
      have h44 : a'.tmps.getD 44 undef = _ := hp 11 (by kernel_rfl)
      refine ⟨wanted_of hg rfl rfl, ?_⟩
      simp at h42 h43 h44
      unfold OpYields
      go_simp
      refine (fits_any r inn dst w').mono ?_
      rw [HFR.out]
      rintro e w1 ⟨rfl, hb⟩
      exact ⟨_, rfl, hb, rfl⟩
    · refine step_pure_g hBs hFs fun a' w' hB hag hp => ?_
      have hg : a'.tmps.getD 36 undef = _ := hp 3 (by kernel_rfl)
      have h41 : a'.tmps.getD 41 undef = _ := hp 8 (by kernel_rfl)
      have h45 : a'.tmps.getD 45 undef = _ := hp 12 (by kernel_rfl)
      refine ⟨wanted_of hg rfl rfl, ?_⟩
      simp at h41 h45
      unfold OpYields
      go_simp
      exact ⟨Below.refl _ _, rfl⟩
    · refine step_pure_g hBs hFs fun a' w' hB hag hp => ?_
      have hg : a'.tmps.getD 36 undef = _ := hp 3 (by kernel_rfl)
      have h46 : a'.tmps.getD 46 undef = _ := hp 13 (by kernel_rfl)
      refine ⟨wanted_of hg rfl rfl, ?_⟩
      simp at h46
      unfold OpYields
      go_simp
      exact ⟨Below.refl _ _, rfl⟩
    · refine step_pure_g hBs hFs fun a' w' hB hag hp => ?_
      have hg : a'.tmps.getD 47 undef = _ := hp 14 (by kernel_rfl)
      have h10 := hag 10 (by kernel_rfl)
      refine ⟨wanted_of hg rfl rfl, ?_⟩
      simp at h10
      unfold OpYields
      go_simp
      exact ⟨Below.refl _ _, rfl⟩
    · refine step_pure_g hBs hFs fun a' w' hB hag hp => ?_
      have hg : a'.tmps.getD 47 undef = _ := hp 14 (by kernel_rfl)
      have h48 : a'.tmps.getD 48 undef = _ := hp 15 (by kernel_rfl)
      refine ⟨wanted_of hg rfl rfl, ?_⟩
      simp at h48
      unfold OpYields
      go_simp
      exact ⟨Below.refl _ _, rfl⟩
    · refine step_pure_g hBs hFs fun a' w' hB hag hp => ?_
      have hg : a'.tmps.getD 47 undef = _ := hp 14 (by kernel_rfl)
      have h49 : a'.tmps.getD 49 undef = _ := hp 16 (by kernel_rfl)
      refine ⟨wanted_of hg rfl rfl, ?_⟩
      simp at h49
      unfold OpYields
      go_simp
      exact ⟨Below.refl _ _, rfl⟩
    · refine step_pure_g hBs hFs fun a' w' hB hag hp => ?_
      have hg : a'.tmps.getD 50 undef = _ := hp 17 (by kernel_rfl)
      have h10 := hag 10 (by kernel_rfl)
      refine ⟨wanted_of hg rfl rfl, ?_⟩
      simp at h10
      unfold OpYields
      go_simp
      exact ⟨Below.refl _ _, rfl⟩
    · refine step_pure_g hBs hFs fun a' w' hB hag hp => ?_
      have hg : a'.tmps.getD 50 undef = _ := hp 17 (by kernel_rfl)
      have h0 := hag 0 (by kernel_rfl)
      refine ⟨wanted_of hg rfl rfl, ?_⟩
      simp at h0
      unfold OpYields
      go_simp
      exact ⟨Below.refl _ _, rfl⟩
    · refine step_pure_g hBs hFs fun a' w' hB hag hp => ?_
      have hg : a'.tmps.getD 50 undef = _ := hp 17 (by kernel_rfl)
      have h52 : a'.tmps.getD 52 undef = _ := hp 19 (by kernel_rfl)
      refine ⟨wanted_of hg rfl rfl, ?_⟩
      simp at h52
      unfold OpYields
      go_simp
      exact ⟨Below.refl _ _, rfl⟩
    · refine step_pure_g hBs hFs fun a' w' hB hag hp => ?_
      have hg : a'.tmps.getD 50 undef = _ := hp 17 (by kernel_rfl)
      have h51 : a'.tmps.getD 51 undef = _ := hp 18 (by kernel_rfl)
      have h53 : a'.tmps.getD 53 undef = _ := hp 20 (by kernel_rfl)
      refine ⟨wanted_of hg rfl rfl, ?_⟩
      simp at h51 h53
      unfold OpYields
      go_simp
      exact ⟨Below.refl _ _, rfl⟩
    · refine step_pure_g hBs hFs fun a' w' hB hag hp => ?_
      have hg : a'.tmps.getD 50 undef = _ := hp 17 (by kernel_rfl)
      have h54 : a'.tmps.getD 54 undef = _ := hp 21 (by kernel_rfl)
      refine ⟨wanted_of hg rfl rfl, ?_⟩
      simp at h54
      unfold OpYields
      go_simp
      exact ⟨Below.refl _ _, rfl⟩
    · refine step_pure_g hBs hFs fun a' w' hB hag hp => ?_
      have hg : a'.tmps.getD 55 undef = _ := hp 22 (by kernel_rfl)
      have h5 := hag 5 (by kernel_rfl)
      have hB : Below wr.heap.size wr w' := hB; have x0 := (hB.cell (p := ⟨w.heap.size, 0, none⟩) hxl).trans X0.out; have x1 := (hB.cell (p := ⟨w.heap.size, 1, none⟩) hxl).trans X1.out; have x2 := (hB.cell (p := ⟨w.heap.size, 2, none⟩) hxl).trans X2.out; have x3 := (hB.cell (p := ⟨w.heap.size, 3, none⟩) hxl).trans X3.out; have x4 := (hB.cell (p := ⟨w.heap.size, 4, none⟩) hxl).trans X4.out; have x5 := (hB.cell (p := ⟨w.heap.size, 5, none⟩) hxl).trans X5.out; have y0 := (hB.cell (p := ⟨bk, o + j * 6, none⟩) hbl).trans Y0.out; have y1 := (hB.cell (p := ⟨bk, o + j * 6 + 1, none⟩) hbl).trans Y1.out; have y2 := (hB.cell (p := ⟨bk, o + j * 6 + 2, none⟩) hbl).trans Y2.out; have y3 := (hB.cell (p := ⟨bk, o + j * 6 + 3, none⟩) hbl).trans Y3.out; have y4 := (hB.cell (p := ⟨bk, o + j * 6 + 4, none⟩) hbl).trans Y4.out; have y5 := (hB.cell (p := ⟨bk, o + j * 6 + 5, none⟩) hbl).trans Y5.out
      refine ⟨wanted_of hg rfl rfl, ?_⟩
      simp at h5
      unfold OpYields
      go_simp
      exact ⟨Below.refl _ _, rfl⟩
    · refine step_pure_g hBs hFs fun a' w' hB hag hp => ?_
      have hg : a'.tmps.getD 55 undef = _ := hp 22 (by kernel_rfl)
      have h0 := hag 0 (by kernel_rfl)
      refine ⟨wanted_of hg rfl rfl, ?_⟩
      simp at h0
      unfold OpYields
      go_simp
      exact ⟨Below.refl _ _, rfl⟩
    · refine step_pure_g hBs hFs fun a' w' hB hag hp => ?_
      have hg : a'.tmps.getD 55 undef = _ := hp 22 (by kernel_rfl)
      have h10 := hag 10 (by kernel_rfl)
      refine ⟨wanted_of hg rfl rfl, ?_⟩
      simp at h10
      unfold OpYields
      go_simp
      exact ⟨Below.refl _ _, rfl⟩
    · refine step_pure_g hBs hFs fun a' w' hB hag hp => ?_
      have hg : a'.tmps.getD 55 undef = _ := hp 22 (by kernel_rfl)
      have h57 : a'.tmps.getD 57 undef = _ := hp 24 (by kernel_rfl)
      have h58 : a'.tmps.getD 58 undef = _ := hp 25 (by kernel_rfl)
      refine ⟨wanted_of hg rfl rfl, ?_⟩
      simp at h57 h58
      unfold OpYields
      go_simp
      exact ⟨Below.refl _ _, rfl⟩
    · refine step_pure_g hBs hFs fun a' w' hB hag hp => ?_
      have hg : a'.tmps.getD 55 undef = _ := hp 22 (by kernel_rfl)
      have h59 : a'.tmps.getD 59 undef = _ := hp 26 (by kernel_rfl)
      have hB : Below wr.heap.size wr w' := hB; have x0 := (hB.cell (p := ⟨w.heap.size, 0, none⟩) hxl).trans X0.out; have x1 := (hB.cell (p := ⟨w.heap.size, 1, none⟩) hxl).trans X1.out; have x2 := (hB.cell (p := ⟨w.heap.size, 2, none⟩) hxl).trans X2.out; have x3 := (hB.cell (p := ⟨w.heap.size, 3, none⟩) hxl).trans X3.out; have x4 := (hB.cell (p := ⟨w.heap.size, 4, none⟩) hxl).trans X4.out; have x5 := (hB.cell (p := ⟨w.heap.size, 5, none⟩) hxl).trans X5.out; have y0 := (hB.cell (p := ⟨bk, o + j * 6, none⟩) hbl).trans Y0.out; have y1 := (hB.cell (p := ⟨bk, o + j * 6 + 1, none⟩) hbl).trans Y1.out; have y2 := (hB.cell (p := ⟨bk, o + j * 6 + 2, none⟩) hbl).trans Y2.out; have y3 := (hB.cell (p := ⟨bk, o + j * 6 + 3, none⟩) hbl).trans Y3.out; have y4 := (hB.cell (p := ⟨bk, o + j * 6 + 4, none⟩) hbl).trans Y4.out; have y5 := (hB.cell (p := ⟨bk, o + j * 6 + 5, none⟩) hbl).trans Y5.out
      refine ⟨wanted_of hg rfl rfl, ?_⟩
      simp at h59
      unfold OpYields
      go_simp
      exact ⟨Below.refl _ _, rfl⟩
    · refine step_pure_g hBs hFs fun a' w' hB hag hp => ?_
      have hg : a'.tmps.getD 55 undef = _ := hp 22 (by kernel_rfl)
      have h56 : a'.tmps.getD 56 undef = _ := hp 23 (by kernel_rfl)
      have h60 : a'.tmps.getD 60 undef = _ := hp 27 (by kernel_rfl)
      refine ⟨wanted_of hg rfl rfl, ?_⟩
      simp at h56 h60
      unfold OpYields
      go_simp
      refine (ahead_any r q w').mono ?_
      rw [HAQ.out]
      rintro e w1 ⟨rfl, hb⟩
      exact ⟨_, rfl, hb, rfl⟩
    · refine step_pure_g hBs hFs fun a' w' hB hag hp => ?_
      have hg : a'.tmps.getD 50 undef = _ := hp 17 (by kernel_rfl)
      have h55 : a'.tmps.getD 55 undef = _ := hp 22 (by kernel_rfl)
      have h61 : a'.tmps.getD 61 undef = _ := hp 28 (by kernel_rfl)
      refine ⟨wanted_of hg rfl rfl, ?_⟩
      simp at h55 h61
      unfold OpYields
      go_simp
      exact ⟨Below.refl _ _, rfl⟩
    · refine step_pure_g hBs hFs fun a' w' hB hag hp => ?_
      have hg : a'.tmps.getD 47 undef = _ := hp 14 (by kernel_rfl)
      have h50 : a'.tmps.getD 50 undef = _ := hp 17 (by kernel_rfl)
      have h62 : a'.tmps.getD 62 undef = _ := hp 29 (by kernel_rfl)
      refine ⟨wanted_of hg rfl rfl, ?_⟩
      simp at h50 h62
      unfold OpYields
      go_simp
      exact ⟨Below.refl _ _, rfl⟩
    · refine step_pure_g hBs hFs fun a' w' hB hag hp => ?_
      have hg : a'.tmps.getD 36 undef = _ := hp 3 (by kernel_rfl)
      have h47 : a'.tmps.getD 47 undef = _ := hp 14 (by kernel_rfl)
      have h63 : a'.tmps.getD 63 undef = _ := hp 30 (by kernel_rfl)
      refine ⟨wanted_of hg rfl rfl, ?_⟩
      simp at h47 h63
      unfold OpYields
      go_simp
      exact ⟨Below.refl _ _, rfl⟩
    · refine step_pure hBs hFs rfl fun a' w' hB hag hp => ?_
      have h36 : a'.tmps.getD 36 undef = _ := hp 3 (by kernel_rfl)
      have h64 : a'.tmps.getD 64 undef = _ := hp 31 (by kernel_rfl)
      simp at h36 h64
      unfold OpYields
      go_simp
      exact ⟨Below.refl _ _, rfl⟩
    · refine step_pure hBs hFs rfl fun a' w' hB hag hp => ?_
      have h65 : a'.tmps.getD 65 undef = _ := hp 32 (by kernel_rfl)
      simp at h65
      unfold OpYields
      go_simp
      exact ⟨Below.refl _ _, rfl⟩
  intro vs w' hB hF
  simp only [AllF, forall_const, reduceCtorEq, false_implies, Fof, pmdF, pmdQ, Nat.zero_add, Nat.reduceAdd, Nat.reduceEqDiff, if_true, if_false, List.getD_cons_succ, List.getD_cons_zero] at hF
  obtain ⟨f0, f1, f2, f3, f4, f5, f6, f7, f8, f9, f10, f11, f12, f13, f14, f15, f16, f17, f18, f19, f20, f21, f22, f23, f24, f25, f26, f27, f28, f29, f30, f31, f32, f33, -⟩ := hF
  simp only [putAll, Act.put, Nat.zero_add, Nat.reduceAdd, f0, f1, f2, f3, f4, f5, f6, f7, f8, f9, f10, f11, f12, f13, f14, f15, f16, f17, f18, f19, f20, f21, f22, f23, f24, f25, f26, f27, f28, f29, f30, f31, f32, f33, List.setIfInBounds_toArray, List.set_cons_zero, List.set_cons_succ]
  have KB := Aside.mk (below_call KB.out hB)
  clear hB
  go_wp2
  go_ret
  exact ⟨rfl, KB.out⟩
theorem pickMore_walk (A : Option Addr) (c : Nat) (l : List Rul) (r : Rul) (inn dst : Int) (w : World) (hl : Rd rulD w A l.length l) (hF : ∀ r ∈ l, FitR8 r) (hnc : A = none → c = 0) (hr : FitR8 r) (hi : Fit inn) (hd : Fit dst) : Calls Try.prog 6 #[.slice A l.length c, rulV r, .int .i64 inn, .int .i64 dst] w fun e w' => e = .returned (.bool true) ∧ Below w.heap.size w w' := by
  by_cases h60 : l.length ≤ 60
  · have hm := first_more (inn := inn) (dst := dst) l r
    cases ht : tkR inn dst l r with
    | false =>
      rw [ht] at hm
      exact pickMore_same A c l r inn dst w hl hF hnc hr hi hd h60 _ _ rfl rfl (by rw [hm]; rfl)
    | true =>
      rw [ht, if_pos rfl] at hm
      rcases first_cases inn dst l with ⟨h1, h2⟩ | ⟨j, q, h1, hj, h3, h2⟩
      · rw [tkR_none h2] at ht
        exact pickMore_none A c l r inn dst w hl hF hnc hr hi hd h60 h1 hm ht
      · rw [tkR_some h2, Bool.and_eq_true] at ht
        exact pickMore_some A c l r inn dst w hl hF hnc hr hi hd h60 j q h1 hj h3 hm ht.1 ht.2
  · exact pickMore_big A c l r inn dst w hl hF hnc hr hi hd h60
end Go.Proofs.Ytihlhkadmmcgeaa
