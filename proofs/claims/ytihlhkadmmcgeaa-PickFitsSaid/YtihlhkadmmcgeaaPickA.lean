/- The walk through PickFits. -/
import Derived.Test.YtihlhkadmmcgeaaSortK
import Derived.Test.YtihlhkadmmcgeaaPickQ
import Derived.Test.YtihlhkadmmcgeaaPickO
namespace Go.Proofs.Ytihlhkadmmcgeaa
open Go.RowKit
set_option maxRecDepth 100000
def pfaB (x : Rul) (b o c n k : Nat) (inn dst : Int) (wr : World) (w' : World) : Prop :=
  Below wr.heap.size wr w'
def pfaF (x : Rul) (b o c n k : Nat) (inn dst : Int) (wr : World) : List (Value → Value → World → Prop) :=
  [fun _ v _ => v = .slice (some ⟨b, o, none⟩) n c,
   fun _ v _ => v = .int .i64 k,
   fun _ v _ => v = .pointer (some ⟨b, o + k * 6, none⟩),
   fun _ v _ => v = rulV x,
   fun _ v _ => v = .int .i64 inn,
   fun _ v _ => v = .int .i64 dst,
   fun _ v _ => v = .bool false,
   fun _ v _ => v = .bool false,
   fun _ v _ => v = undef,
   fun _ v _ => v = undef,
   fun _ v _ => v = undef,
   fun _ v _ => v = undef,
   fun _ v _ => v = undef,
   fun _ v _ => v = undef,
   fun _ v _ => v = undef,
   fun _ v _ => v = undef,
   fun _ v _ => v = undef,
   fun _ v _ => v = undef,
   fun _ v _ => v = undef,
   fun _ v _ => v = undef,
   fun _ v _ => v = undef,
   fun _ v _ => v = .bool false]
def pfaQ : Nat → Nat := fun i => i
theorem pfaF_stay (x : Rul) (b o c n k : Nat) (inn dst : Int) (wr : World) : AllStay (pfaF x b o c n k inn dst wr) := by
  intro F hF u v w' w'' hb h
  simp only [pfaF, List.mem_cons, List.not_mem_nil, or_false] at hF
  rcases hF with rfl | rfl | rfl | rfl | rfl | rfl | rfl | rfl | rfl | rfl | rfl | rfl | rfl | rfl | rfl | rfl | rfl | rfl | rfl | rfl | rfl | rfl
  · exact h
  · exact h
  · exact h
  · exact h
  · exact h
  · exact h
  · exact h
  · exact h
  · exact h
  · exact h
  · exact h
  · exact h
  · exact h
  · exact h
  · exact h
  · exact h
  · exact h
  · exact h
  · exact h
  · exact h
  · exact h
  · exact h
theorem pfaB_stay (x : Rul) (b o c n k : Nat) (inn dst : Int) (wr : World) : Stays (pfaB x b o c n k inn dst wr) := by
  intro w' w'' hb h
  exact below_call h hb
def pfbB (x y : Rul) (b o c n k j : Nat) (inn dst : Int) (wr : World) (w' : World) : Prop :=
  Below wr.heap.size wr w'
def pfbF (x y : Rul) (b o c n k j : Nat) (inn dst : Int) (wr : World) : List (Value → Value → World → Prop) :=
  [fun _ v _ => v = .slice (some ⟨b, o, none⟩) n c,
   fun _ v _ => v = .int .i64 k,
   fun _ v _ => v = .pointer (some ⟨b, o + k * 6, none⟩),
   fun _ v _ => v = rulV x,
   fun _ v _ => v = .int .i64 inn,
   fun _ v _ => v = .int .i64 dst,
   fun _ v _ => v = .bool true,
   fun _ v _ => v = .bool true,
   fun _ v _ => v = .int .i64 j,
   fun _ v _ => v = .bool false,
   fun _ v _ => v = .bool false,
   fun _ v _ => v = .slice (some ⟨b, o, none⟩) n c,
   fun _ v _ => v = .int .i64 k,
   fun _ v _ => v = .pointer (some ⟨b, o + k * 6, none⟩),
   fun _ v _ => v = rulV x,
   fun _ v _ => v = .slice (some ⟨b, o, none⟩) n c,
   fun _ v _ => v = .int .i64 j,
   fun _ v _ => v = .pointer (some ⟨b, o + j * 6, none⟩),
   fun _ v _ => v = rulV y,
   fun _ v _ => v = .bool false,
   fun _ v _ => v = .bool false,
   fun _ v _ => v = .bool false]
def pfbQ : Nat → Nat := fun i => i
theorem pfbF_stay (x y : Rul) (b o c n k j : Nat) (inn dst : Int) (wr : World) : AllStay (pfbF x y b o c n k j inn dst wr) := by
  intro F hF u v w' w'' hb h
  simp only [pfbF, List.mem_cons, List.not_mem_nil, or_false] at hF
  rcases hF with rfl | rfl | rfl | rfl | rfl | rfl | rfl | rfl | rfl | rfl | rfl | rfl | rfl | rfl | rfl | rfl | rfl | rfl | rfl | rfl | rfl | rfl
  · exact h
  · exact h
  · exact h
  · exact h
  · exact h
  · exact h
  · exact h
  · exact h
  · exact h
  · exact h
  · exact h
  · exact h
  · exact h
  · exact h
  · exact h
  · exact h
  · exact h
  · exact h
  · exact h
  · exact h
  · exact h
  · exact h
theorem pfbB_stay (x y : Rul) (b o c n k j : Nat) (inn dst : Int) (wr : World) : Stays (pfbB x y b o c n k j inn dst wr) := by
  intro w' w'' hb h
  exact below_call h hb
set_option maxHeartbeats 4000000 in
theorem pickFits_big (A : Option Addr) (c : Nat) (l : List Rul) (inn dst : Int) (w : World) (hl : Rd rulD w A l.length l) (hF : ∀ r ∈ l, FitR8 r) (hnc : A = none → c = 0) (hi : Fit inn) (hd : Fit dst) (h60 : ¬ l.length ≤ 100) : Calls Try.prog 4 #[.slice A l.length c, .int .i64 inn, .int .i64 dst] w fun e w' => e = .returned (.bool true) ∧ Below w.heap.size w w' := by
  have hmx := hl.max
  have d60 : decide ((100 : Int) < (l.length : Int)) = true := decide_eq_true (by omega)
  clear hl hF
  go_enter Try.func4, Try.ntmps4
  go_wp2_with (go_at_call 9; refine (awake08_any _).mono ?_; rintro e w1 ⟨rfl, hb1⟩; have KB := Aside.mk hb1; clear hb1)
  go_ret
  exact ⟨rfl, KB.out⟩
set_option maxHeartbeats 4000000 in
theorem pickFits_none (A : Option Addr) (c : Nat) (l : List Rul) (inn dst : Int) (w : World) (hl : Rd rulD w A l.length l) (hF : ∀ r ∈ l, FitR8 r) (hnc : A = none → c = 0) (hi : Fit inn) (hd : Fit dst) (h60 : l.length ≤ 100) (h1 : firstI inn dst l = -1) (h2 : eltB inn dst l = none) : Calls Try.prog 4 #[.slice A l.length c, .int .i64 inn, .int .i64 dst] w fun e w' => e = .returned (.bool true) ∧ Below w.heap.size w w' := by
  have hmx := hl.max
  have d60 : decide ((100 : Int) < (l.length : Int)) = false := decide_eq_false (by omega)
  have d61 : decide ((l.length : Int) ≤ -1) = false := decide_eq_false (by omega)
  have HL := Aside.mk hl
  have F1 := Aside.mk h1
  have HN := Aside.mk (eltB_none h2)
  clear hl hF h1 h2
  go_enter Try.func4, Try.ntmps4
  go_wp2_with (first
    | (go_at_call 9; refine (awake08_any _).mono ?_; rintro e w1 ⟨rfl, hb1⟩; have KB := Aside.mk hb1; clear hb1)
    | (go_at_call 13; refine (first_any l A c inn dst _ (HL.out.below KB.out)).mono ?_; rw [F1.out]; rintro e w2 ⟨rfl, hb2⟩; have KB := Aside.mk (below_call KB.out hb2); clear hb2))
  go_loopw [9] (fun i wr => ∃ k : Nat, k ≤ l.length ∧ i = .int .i64 k ∧ Below w.heap.size w wr) (fun i _ => l.length - (intOf i).toNat)
  case atStart => exact ⟨0, Nat.zero_le _, rfl, KB.out⟩
  case round =>
    clear KB
    obtain ⟨k, hk, rfl, hb⟩ := hrel
    have KB := Aside.mk hb
    by_cases hlt : k < l.length
    · obtain ⟨b, o, _, rfl, -⟩ := Row.at HL.out k hlt
      obtain ⟨hbl0, p0, p1, p2, p3, p4, p5⟩ := rul_cells (c := c) HL.out hb hlt
      have hbl := Nat.lt_of_lt_of_le hbl0 hb.size
      have HF := Aside.mk (HN.out l[k] (List.getElem_mem hlt))
      generalize l[k] = x at *
      have X0 := Aside.mk p0
      have X1 := Aside.mk p1
      have X2 := Aside.mk p2
      have X3 := Aside.mk p3
      have X4 := Aside.mk p4
      have X5 := Aside.mk p5
      clear hb p0 p1 p2 p3 p4 p5
      go_wp2
      refine wp_region_facts (Base := pfaB x b o c l.length k inn dst wr) (q := pfaQ) (Fs := pfaF x b o c l.length k inn dst wr) (by kernel_rfl) (by kernel_rfl) (by kernel_rfl) (by kernel_rfl) (below_drew (Below.refl _ _)) ?_ ?_
      ·
        have hBs := pfaB_stay x b o c l.length k inn dst wr
        have hFs := pfaF_stay x b o c l.length k inn dst wr
        refine ⟨?_, ?_, ?_, ?_, ?_, ?_, ?_, ?_, ?_, ?_, ?_, ?_, ?_, ?_, ?_, ?_, ?_, ?_, ?_, ?_, ?_, ?_, trivial⟩
        · refine step_pure hBs hFs rfl fun a' w' hB hag hp => ?_
          have h0 := hag 0 (by kernel_rfl)
          simp at h0
          unfold OpYields
          go_simp
          exact ⟨Below.refl _ _, rfl⟩
        · refine step_pure hBs hFs rfl fun a' w' hB hag hp => ?_
          have h9 := hag 9 (by kernel_rfl)
          simp at h9
          unfold OpYields
          go_simp
          exact ⟨Below.refl _ _, rfl⟩
        · refine step_pure hBs hFs rfl fun a' w' hB hag hp => ?_
          have h51 : a'.tmps.getD 51 undef = _ := hp 0 (by kernel_rfl)
          have h52 : a'.tmps.getD 52 undef = _ := hp 1 (by kernel_rfl)
          simp at h51 h52
          unfold OpYields
          go_simp
          exact ⟨Below.refl _ _, rfl⟩
        · refine step_pure hBs hFs rfl fun a' w' hB hag hp => ?_
          have h53 : a'.tmps.getD 53 undef = _ := hp 2 (by kernel_rfl)
          have hB : Below wr.heap.size wr w' := hB; have x0 := (hB.cell (p := ⟨b, o + k * 6, none⟩) hbl).trans X0.out; have x1 := (hB.cell (p := ⟨b, o + k * 6 + 1, none⟩) hbl).trans X1.out; have x2 := (hB.cell (p := ⟨b, o + k * 6 + 2, none⟩) hbl).trans X2.out; have x3 := (hB.cell (p := ⟨b, o + k * 6 + 3, none⟩) hbl).trans X3.out; have x4 := (hB.cell (p := ⟨b, o + k * 6 + 4, none⟩) hbl).trans X4.out; have x5 := (hB.cell (p := ⟨b, o + k * 6 + 5, none⟩) hbl).trans X5.out
          simp at h53
          unfold OpYields
          go_simp
          exact ⟨Below.refl _ _, rfl⟩
        · refine step_pure hBs hFs rfl fun a' w' hB hag hp => ?_
          have h1 := hag 1 (by kernel_rfl)
          simp at h1
          unfold OpYields
          go_simp
          exact ⟨Below.refl _ _, rfl⟩
        · refine step_pure hBs hFs rfl fun a' w' hB hag hp => ?_
          have h2 := hag 2 (by kernel_rfl)
          simp at h2
          unfold OpYields
          go_simp
          exact ⟨Below.refl _ _, rfl⟩
        · refine step_pure hBs hFs rfl fun a' w' hB hag hp => ?_
          have h54 : a'.tmps.getD 54 undef = _ := hp 3 (by kernel_rfl)
          have h55 : a'.tmps.getD 55 undef = _ := hp 4 (by kernel_rfl)
          have h56 : a'.tmps.getD 56 undef = _ := hp 5 (by kernel_rfl)
          simp at h54 h55 h56
          unfold OpYields
          go_simp
          refine (fits_any x inn dst w').mono ?_
          rw [HF.out]
          rintro e w1 ⟨rfl, hb⟩
          exact ⟨_, rfl, hb, rfl⟩
        · refine step_pure hBs hFs rfl fun a' w' hB hag hp => ?_
          have h57 : a'.tmps.getD 57 undef = _ := hp 6 (by kernel_rfl)
          simp at h57
          unfold OpYields
          go_simp
          exact ⟨Below.refl _ _, rfl⟩
        · refine step_out fun a' w' hB hag hp => ?_
          have hg : a'.tmps.getD 58 undef = _ := hp 7 (by kernel_rfl)
          exact ⟨unwanted_of hg rfl rfl rfl, rfl⟩
        · refine step_out fun a' w' hB hag hp => ?_
          have hg : a'.tmps.getD 58 undef = _ := hp 7 (by kernel_rfl)
          exact ⟨unwanted_of hg rfl rfl rfl, rfl⟩
        · refine step_out fun a' w' hB hag hp => ?_
          have hg : a'.tmps.getD 58 undef = _ := hp 7 (by kernel_rfl)
          exact ⟨unwanted_of hg rfl rfl rfl, rfl⟩
        · refine step_out fun a' w' hB hag hp => ?_
          have hg : a'.tmps.getD 61 undef = _ := hp 10 (by kernel_rfl)
          exact ⟨unwanted_undef hg rfl rfl, rfl⟩
        · refine step_out fun a' w' hB hag hp => ?_
          have hg : a'.tmps.getD 61 undef = _ := hp 10 (by kernel_rfl)
          exact ⟨unwanted_undef hg rfl rfl, rfl⟩
        · refine step_out fun a' w' hB hag hp => ?_
          have hg : a'.tmps.getD 61 undef = _ := hp 10 (by kernel_rfl)
          exact ⟨unwanted_undef hg rfl rfl, rfl⟩
        · refine step_out fun a' w' hB hag hp => ?_
          have hg : a'.tmps.getD 61 undef = _ := hp 10 (by kernel_rfl)
          exact ⟨unwanted_undef hg rfl rfl, rfl⟩
        · refine step_out fun a' w' hB hag hp => ?_
          have hg : a'.tmps.getD 61 undef = _ := hp 10 (by kernel_rfl)
          exact ⟨unwanted_undef hg rfl rfl, rfl⟩
        · refine step_out fun a' w' hB hag hp => ?_
          have hg : a'.tmps.getD 61 undef = _ := hp 10 (by kernel_rfl)
          exact ⟨unwanted_undef hg rfl rfl, rfl⟩
        · refine step_out fun a' w' hB hag hp => ?_
          have hg : a'.tmps.getD 61 undef = _ := hp 10 (by kernel_rfl)
          exact ⟨unwanted_undef hg rfl rfl, rfl⟩
        · refine step_out fun a' w' hB hag hp => ?_
          have hg : a'.tmps.getD 61 undef = _ := hp 10 (by kernel_rfl)
          exact ⟨unwanted_undef hg rfl rfl, rfl⟩
        · refine step_out fun a' w' hB hag hp => ?_
          have hg : a'.tmps.getD 61 undef = _ := hp 10 (by kernel_rfl)
          exact ⟨unwanted_undef hg rfl rfl, rfl⟩
        · refine step_out fun a' w' hB hag hp => ?_
          have hg : a'.tmps.getD 58 undef = _ := hp 7 (by kernel_rfl)
          exact ⟨unwanted_of hg rfl rfl rfl, rfl⟩
        · refine step_pure hBs hFs rfl fun a' w' hB hag hp => ?_
          have h58 : a'.tmps.getD 58 undef = _ := hp 7 (by kernel_rfl)
          have h71 : a'.tmps.getD 71 undef = _ := hp 20 (by kernel_rfl)
          simp at h58 h71
          unfold OpYields
          go_simp
          exact ⟨Below.refl _ _, rfl⟩
      intro vs w' hB hF
      simp only [AllF, forall_const, reduceCtorEq, false_implies, Fof, pfaF, pfaQ, Nat.zero_add, Nat.reduceAdd, Nat.reduceEqDiff, if_true, if_false, List.getD_cons_succ, List.getD_cons_zero] at hF
      obtain ⟨f0, f1, f2, f3, f4, f5, f6, f7, f8, f9, f10, f11, f12, f13, f14, f15, f16, f17, f18, f19, f20, f21, -⟩ := hF
      simp only [putAll, Act.put, Nat.zero_add, Nat.reduceAdd, f0, f1, f2, f3, f4, f5, f6, f7, f8, f9, f10, f11, f12, f13, f14, f15, f16, f17, f18, f19, f20, f21, List.setIfInBounds_toArray, List.set_cons_zero, List.set_cons_succ]
      have hB' : Below wr.heap.size wr w' := hB
      have KB := Aside.mk (below_call KB.out hB')
      clear hB hB'
      go_wp2
      exact ⟨⟨k + 1, by omega, by go_num, KB.out⟩, by simp [intOf]; omega⟩
    · obtain rfl : k = l.length := by omega
      go_wp2
      go_ret
      exact ⟨rfl, KB.out⟩
set_option maxHeartbeats 4000000 in
theorem pickFits_some (A : Option Addr) (c : Nat) (l : List Rul) (inn dst : Int) (w : World) (hl : Rd rulD w A l.length l) (hF : ∀ r ∈ l, FitR8 r) (hnc : A = none → c = 0) (hi : Fit inn) (hd : Fit dst) (h60 : l.length ≤ 100) (j : Nat) (y : Rul) (h1 : firstI inn dst l = j) (hj : j < l.length) (h3 : l[j]? = some y) (h2 : eltB inn dst l = some y) : Calls Try.prog 4 #[.slice A l.length c, .int .i64 inn, .int .i64 dst] w fun e w' => e = .returned (.bool true) ∧ Below w.heap.size w w' := by
  have hmx := hl.max
  have d60 : decide ((100 : Int) < (l.length : Int)) = false := decide_eq_false (by omega)
  have d61 : decide ((l.length : Int) ≤ (j : Int)) = false := decide_eq_false (by omega)
  have d62 : decide ((j : Int) < -1) = false := decide_eq_false (by omega)
  have d63 : decide ((0 : Int) ≤ (j : Int)) = true := decide_eq_true (by omega)
  have d64 : decide ((j : Int) < 0) = false := decide_eq_false (by omega)
  have HL := Aside.mk hl
  have F1 := Aside.mk h1
  obtain ⟨-, hfy, hno⟩ := eltB_some h2
  have HFY := Aside.mk hfy
  have HNO := Aside.mk hno
  have HJ : Aside (l[j]'hj = y) := Aside.mk (List.getElem?_eq_some_iff.1 h3).2
  obtain ⟨b, o, _, rfl, -⟩ := Row.at hl j hj
  have HCC := Aside.mk (fun W (hb : Below w.heap.size w W) => by
    have h := rul_cells (c := c) HL.out hb hj
    rw [HJ.out] at h
    exact h)
  clear hl hF h1 h2 h3 hfy hno
  go_enter Try.func4, Try.ntmps4
  go_wp2_with (first
    | (go_at_call 9; refine (awake08_any _).mono ?_; rintro e w1 ⟨rfl, hb1⟩; have KB := Aside.mk hb1; clear hb1)
    | (go_at_call 13; refine (first_any l (some ⟨b, o, none⟩) c inn dst _ (HL.out.below KB.out)).mono ?_; rw [F1.out]; rintro e w2 ⟨rfl, hb2⟩; have KB := Aside.mk (below_call KB.out hb2); obtain ⟨-, p0, p1, p2, p3, p4, p5⟩ := HCC.out _ KB.out; clear hb2)
    | (go_at_call 15; refine (fits_any y inn dst _).mono ?_; rw [HFY.out]; rintro e w1 ⟨rfl, hb1⟩; have KB := Aside.mk (below_call KB.out hb1); clear hb1))
  go_loopw [9] (fun i wr => ∃ k : Nat, k ≤ l.length ∧ i = .int .i64 k ∧ Below w.heap.size w wr) (fun i _ => l.length - (intOf i).toNat)
  case atStart => exact ⟨0, Nat.zero_le _, rfl, KB.out⟩
  case round =>
    clear KB p0 p1 p2 p3 p4 p5
    obtain ⟨k, hk, rfl, hb⟩ := hrel
    have KB := Aside.mk hb
    by_cases hlt : k < l.length
    · obtain ⟨hbl0, p0, p1, p2, p3, p4, p5⟩ := rul_cells (c := c) HL.out hb hlt
      obtain ⟨-, q0, q1, q2, q3, q4, q5⟩ := HCC.out _ hb
      have hbl := Nat.lt_of_lt_of_le hbl0 hb.size
      have HM := Aside.mk (HNO.out l[k] (List.getElem_mem hlt))
      generalize l[k] = x at *
      have X0 := Aside.mk p0
      have X1 := Aside.mk p1
      have X2 := Aside.mk p2
      have X3 := Aside.mk p3
      have X4 := Aside.mk p4
      have X5 := Aside.mk p5
      have Y0 := Aside.mk q0
      have Y1 := Aside.mk q1
      have Y2 := Aside.mk q2
      have Y3 := Aside.mk q3
      have Y4 := Aside.mk q4
      have Y5 := Aside.mk q5
      have e1 : (j : Int) < (l.length : Int) := by omega
      clear hb p0 p1 p2 p3 p4 p5 q0 q1 q2 q3 q4 q5
      cases hf : fitsI x inn dst
      · have HF := Aside.mk hf
        clear hf
        go_wp2
        refine wp_region_facts (Base := pfaB x b o c l.length k inn dst wr) (q := pfaQ) (Fs := pfaF x b o c l.length k inn dst wr) (by kernel_rfl) (by kernel_rfl) (by kernel_rfl) (by kernel_rfl) (below_drew (Below.refl _ _)) ?_ ?_
        ·
          have hBs := pfaB_stay x b o c l.length k inn dst wr
          have hFs := pfaF_stay x b o c l.length k inn dst wr
          refine ⟨?_, ?_, ?_, ?_, ?_, ?_, ?_, ?_, ?_, ?_, ?_, ?_, ?_, ?_, ?_, ?_, ?_, ?_, ?_, ?_, ?_, ?_, trivial⟩
          · refine step_pure hBs hFs rfl fun a' w' hB hag hp => ?_
            have h0 := hag 0 (by kernel_rfl)
            simp at h0
            unfold OpYields
            go_simp
            exact ⟨Below.refl _ _, rfl⟩
          · refine step_pure hBs hFs rfl fun a' w' hB hag hp => ?_
            have h9 := hag 9 (by kernel_rfl)
            simp at h9
            unfold OpYields
            go_simp
            exact ⟨Below.refl _ _, rfl⟩
          · refine step_pure hBs hFs rfl fun a' w' hB hag hp => ?_
            have h51 : a'.tmps.getD 51 undef = _ := hp 0 (by kernel_rfl)
            have h52 : a'.tmps.getD 52 undef = _ := hp 1 (by kernel_rfl)
            simp at h51 h52
            unfold OpYields
            go_simp
            exact ⟨Below.refl _ _, rfl⟩
          · refine step_pure hBs hFs rfl fun a' w' hB hag hp => ?_
            have h53 : a'.tmps.getD 53 undef = _ := hp 2 (by kernel_rfl)
            have hB : Below wr.heap.size wr w' := hB; have x0 := (hB.cell (p := ⟨b, o + k * 6, none⟩) hbl).trans X0.out; have x1 := (hB.cell (p := ⟨b, o + k * 6 + 1, none⟩) hbl).trans X1.out; have x2 := (hB.cell (p := ⟨b, o + k * 6 + 2, none⟩) hbl).trans X2.out; have x3 := (hB.cell (p := ⟨b, o + k * 6 + 3, none⟩) hbl).trans X3.out; have x4 := (hB.cell (p := ⟨b, o + k * 6 + 4, none⟩) hbl).trans X4.out; have x5 := (hB.cell (p := ⟨b, o + k * 6 + 5, none⟩) hbl).trans X5.out
            simp at h53
            unfold OpYields
            go_simp
            exact ⟨Below.refl _ _, rfl⟩
          · refine step_pure hBs hFs rfl fun a' w' hB hag hp => ?_
            have h1 := hag 1 (by kernel_rfl)
            simp at h1
            unfold OpYields
            go_simp
            exact ⟨Below.refl _ _, rfl⟩
          · refine step_pure hBs hFs rfl fun a' w' hB hag hp => ?_
            have h2 := hag 2 (by kernel_rfl)
            simp at h2
            unfold OpYields
            go_simp
            exact ⟨Below.refl _ _, rfl⟩
          · refine step_pure hBs hFs rfl fun a' w' hB hag hp => ?_
            have h54 : a'.tmps.getD 54 undef = _ := hp 3 (by kernel_rfl)
            have h55 : a'.tmps.getD 55 undef = _ := hp 4 (by kernel_rfl)
            have h56 : a'.tmps.getD 56 undef = _ := hp 5 (by kernel_rfl)
            simp at h54 h55 h56
            unfold OpYields
            go_simp
            refine (fits_any x inn dst w').mono ?_
            rw [HF.out]
            rintro e w1 ⟨rfl, hb⟩
            exact ⟨_, rfl, hb, rfl⟩
          · refine step_pure hBs hFs rfl fun a' w' hB hag hp => ?_
            have h57 : a'.tmps.getD 57 undef = _ := hp 6 (by kernel_rfl)
            simp at h57
            unfold OpYields
            go_simp
            exact ⟨Below.refl _ _, rfl⟩
          · refine step_out fun a' w' hB hag hp => ?_
            have hg : a'.tmps.getD 58 undef = _ := hp 7 (by kernel_rfl)
            exact ⟨unwanted_of hg rfl rfl rfl, rfl⟩
          · refine step_out fun a' w' hB hag hp => ?_
            have hg : a'.tmps.getD 58 undef = _ := hp 7 (by kernel_rfl)
            exact ⟨unwanted_of hg rfl rfl rfl, rfl⟩
          · refine step_out fun a' w' hB hag hp => ?_
            have hg : a'.tmps.getD 58 undef = _ := hp 7 (by kernel_rfl)
            exact ⟨unwanted_of hg rfl rfl rfl, rfl⟩
          · refine step_out fun a' w' hB hag hp => ?_
            have hg : a'.tmps.getD 61 undef = _ := hp 10 (by kernel_rfl)
            exact ⟨unwanted_undef hg rfl rfl, rfl⟩
          · refine step_out fun a' w' hB hag hp => ?_
            have hg : a'.tmps.getD 61 undef = _ := hp 10 (by kernel_rfl)
            exact ⟨unwanted_undef hg rfl rfl, rfl⟩
          · refine step_out fun a' w' hB hag hp => ?_
            have hg : a'.tmps.getD 61 undef = _ := hp 10 (by kernel_rfl)
            exact ⟨unwanted_undef hg rfl rfl, rfl⟩
          · refine step_out fun a' w' hB hag hp => ?_
            have hg : a'.tmps.getD 61 undef = _ := hp 10 (by kernel_rfl)
            exact ⟨unwanted_undef hg rfl rfl, rfl⟩
          · refine step_out fun a' w' hB hag hp => ?_
            have hg : a'.tmps.getD 61 undef = _ := hp 10 (by kernel_rfl)
            exact ⟨unwanted_undef hg rfl rfl, rfl⟩
          · refine step_out fun a' w' hB hag hp => ?_
            have hg : a'.tmps.getD 61 undef = _ := hp 10 (by kernel_rfl)
            exact ⟨unwanted_undef hg rfl rfl, rfl⟩
          · refine step_out fun a' w' hB hag hp => ?_
            have hg : a'.tmps.getD 61 undef = _ := hp 10 (by kernel_rfl)
            exact ⟨unwanted_undef hg rfl rfl, rfl⟩
          · refine step_out fun a' w' hB hag hp => ?_
            have hg : a'.tmps.getD 61 undef = _ := hp 10 (by kernel_rfl)
            exact ⟨unwanted_undef hg rfl rfl, rfl⟩
          · refine step_out fun a' w' hB hag hp => ?_
            have hg : a'.tmps.getD 61 undef = _ := hp 10 (by kernel_rfl)
            exact ⟨unwanted_undef hg rfl rfl, rfl⟩
          · refine step_out fun a' w' hB hag hp => ?_
            have hg : a'.tmps.getD 58 undef = _ := hp 7 (by kernel_rfl)
            exact ⟨unwanted_of hg rfl rfl rfl, rfl⟩
          · refine step_pure hBs hFs rfl fun a' w' hB hag hp => ?_
            have h58 : a'.tmps.getD 58 undef = _ := hp 7 (by kernel_rfl)
            have h71 : a'.tmps.getD 71 undef = _ := hp 20 (by kernel_rfl)
            simp at h58 h71
            unfold OpYields
            go_simp
            exact ⟨Below.refl _ _, rfl⟩
        intro vs w' hB hF
        simp only [AllF, forall_const, reduceCtorEq, false_implies, Fof, pfaF, pfaQ, Nat.zero_add, Nat.reduceAdd, Nat.reduceEqDiff, if_true, if_false, List.getD_cons_succ, List.getD_cons_zero] at hF
        obtain ⟨f0, f1, f2, f3, f4, f5, f6, f7, f8, f9, f10, f11, f12, f13, f14, f15, f16, f17, f18, f19, f20, f21, -⟩ := hF
        simp only [putAll, Act.put, Nat.zero_add, Nat.reduceAdd, f0, f1, f2, f3, f4, f5, f6, f7, f8, f9, f10, f11, f12, f13, f14, f15, f16, f17, f18, f19, f20, f21, List.setIfInBounds_toArray, List.set_cons_zero, List.set_cons_succ]
        have hB' : Below wr.heap.size wr w' := hB
        have KB := Aside.mk (below_call KB.out hB')
        clear hB hB'
        go_wp2
        exact ⟨⟨k + 1, by omega, by go_num, KB.out⟩, by simp [intOf]; omega⟩
      · have HF := Aside.mk hf
        have HAH := Aside.mk (HM.out hf)
        clear hf
        go_wp2
        refine wp_region_facts (Base := pfbB x y b o c l.length k j inn dst wr) (q := pfbQ) (Fs := pfbF x y b o c l.length k j inn dst wr) (by kernel_rfl) (by kernel_rfl) (by kernel_rfl) (by kernel_rfl) (below_drew (Below.refl _ _)) ?_ ?_
        ·
          have hBs := pfbB_stay x y b o c l.length k j inn dst wr
          have hFs := pfbF_stay x y b o c l.length k j inn dst wr
          refine ⟨?_, ?_, ?_, ?_, ?_, ?_, ?_, ?_, ?_, ?_, ?_, ?_, ?_, ?_, ?_, ?_, ?_, ?_, ?_, ?_, ?_, ?_, trivial⟩
          · refine step_pure hBs hFs rfl fun a' w' hB hag hp => ?_
            have h0 := hag 0 (by kernel_rfl)
            simp at h0
            unfold OpYields
            go_simp
            exact ⟨Below.refl _ _, rfl⟩
          · refine step_pure hBs hFs rfl fun a' w' hB hag hp => ?_
            have h9 := hag 9 (by kernel_rfl)
            simp at h9
            unfold OpYields
            go_simp
            exact ⟨Below.refl _ _, rfl⟩
          · refine step_pure hBs hFs rfl fun a' w' hB hag hp => ?_
            have h51 : a'.tmps.getD 51 undef = _ := hp 0 (by kernel_rfl)
            have h52 : a'.tmps.getD 52 undef = _ := hp 1 (by kernel_rfl)
            simp at h51 h52
            unfold OpYields
            go_simp
            exact ⟨Below.refl _ _, rfl⟩
          · refine step_pure hBs hFs rfl fun a' w' hB hag hp => ?_
            have h53 : a'.tmps.getD 53 undef = _ := hp 2 (by kernel_rfl)
            have hB : Below wr.heap.size wr w' := hB; have x0 := (hB.cell (p := ⟨b, o + k * 6, none⟩) hbl).trans X0.out; have x1 := (hB.cell (p := ⟨b, o + k * 6 + 1, none⟩) hbl).trans X1.out; have x2 := (hB.cell (p := ⟨b, o + k * 6 + 2, none⟩) hbl).trans X2.out; have x3 := (hB.cell (p := ⟨b, o + k * 6 + 3, none⟩) hbl).trans X3.out; have x4 := (hB.cell (p := ⟨b, o + k * 6 + 4, none⟩) hbl).trans X4.out; have x5 := (hB.cell (p := ⟨b, o + k * 6 + 5, none⟩) hbl).trans X5.out; have y0 := (hB.cell (p := ⟨b, o + j * 6, none⟩) hbl).trans Y0.out; have y1 := (hB.cell (p := ⟨b, o + j * 6 + 1, none⟩) hbl).trans Y1.out; have y2 := (hB.cell (p := ⟨b, o + j * 6 + 2, none⟩) hbl).trans Y2.out; have y3 := (hB.cell (p := ⟨b, o + j * 6 + 3, none⟩) hbl).trans Y3.out; have y4 := (hB.cell (p := ⟨b, o + j * 6 + 4, none⟩) hbl).trans Y4.out; have y5 := (hB.cell (p := ⟨b, o + j * 6 + 5, none⟩) hbl).trans Y5.out
            simp at h53
            unfold OpYields
            go_simp
            exact ⟨Below.refl _ _, rfl⟩
          · refine step_pure hBs hFs rfl fun a' w' hB hag hp => ?_
            have h1 := hag 1 (by kernel_rfl)
            simp at h1
            unfold OpYields
            go_simp
            exact ⟨Below.refl _ _, rfl⟩
          · refine step_pure hBs hFs rfl fun a' w' hB hag hp => ?_
            have h2 := hag 2 (by kernel_rfl)
            simp at h2
            unfold OpYields
            go_simp
            exact ⟨Below.refl _ _, rfl⟩
          · refine step_pure hBs hFs rfl fun a' w' hB hag hp => ?_
            have h54 : a'.tmps.getD 54 undef = _ := hp 3 (by kernel_rfl)
            have h55 : a'.tmps.getD 55 undef = _ := hp 4 (by kernel_rfl)
            have h56 : a'.tmps.getD 56 undef = _ := hp 5 (by kernel_rfl)
            simp at h54 h55 h56
            unfold OpYields
            go_simp
            refine (fits_any x inn dst w').mono ?_
            rw [HF.out]
            rintro e w1 ⟨rfl, hb⟩
            exact ⟨_, rfl, hb, rfl⟩
          · refine step_pure hBs hFs rfl fun a' w' hB hag hp => ?_
            have h57 : a'.tmps.getD 57 undef = _ := hp 6 (by kernel_rfl)
            simp at h57
            unfold OpYields
            go_simp
            exact ⟨Below.refl _ _, rfl⟩
          · refine step_pure_g hBs hFs fun a' w' hB hag hp => ?_
            have hg : a'.tmps.getD 58 undef = _ := hp 7 (by kernel_rfl)
            have h8 := hag 8 (by kernel_rfl)
            refine ⟨wanted_of hg rfl rfl, ?_⟩
            simp at h8
            unfold OpYields
            go_simp
            exact ⟨Below.refl _ _, rfl⟩
          · refine step_pure_g hBs hFs fun a' w' hB hag hp => ?_
            have hg : a'.tmps.getD 58 undef = _ := hp 7 (by kernel_rfl)
            have h59 : a'.tmps.getD 59 undef = _ := hp 8 (by kernel_rfl)
            refine ⟨wanted_of hg rfl rfl, ?_⟩
            simp at h59
            unfold OpYields
            go_simp
            exact ⟨Below.refl _ _, rfl⟩
          · refine step_pure_g hBs hFs fun a' w' hB hag hp => ?_
            have hg : a'.tmps.getD 58 undef = _ := hp 7 (by kernel_rfl)
            have h60 : a'.tmps.getD 60 undef = _ := hp 9 (by kernel_rfl)
            refine ⟨wanted_of hg rfl rfl, ?_⟩
            simp at h60
            unfold OpYields
            go_simp
            exact ⟨Below.refl _ _, rfl⟩
          · refine step_pure_g hBs hFs fun a' w' hB hag hp => ?_
            have hg : a'.tmps.getD 61 undef = _ := hp 10 (by kernel_rfl)
            have h0 := hag 0 (by kernel_rfl)
            refine ⟨wanted_of hg rfl rfl, ?_⟩
            simp at h0
            unfold OpYields
            go_simp
            exact ⟨Below.refl _ _, rfl⟩
          · refine step_pure_g hBs hFs fun a' w' hB hag hp => ?_
            have hg : a'.tmps.getD 61 undef = _ := hp 10 (by kernel_rfl)
            have h9 := hag 9 (by kernel_rfl)
            refine ⟨wanted_of hg rfl rfl, ?_⟩
            simp at h9
            unfold OpYields
            go_simp
            exact ⟨Below.refl _ _, rfl⟩
          · refine step_pure_g hBs hFs fun a' w' hB hag hp => ?_
            have hg : a'.tmps.getD 61 undef = _ := hp 10 (by kernel_rfl)
            have h62 : a'.tmps.getD 62 undef = _ := hp 11 (by kernel_rfl)
            have h63 : a'.tmps.getD 63 undef = _ := hp 12 (by kernel_rfl)
            refine ⟨wanted_of hg rfl rfl, ?_⟩
            simp at h62 h63
            unfold OpYields
            go_simp
            exact ⟨Below.refl _ _, rfl⟩
          · refine step_pure_g hBs hFs fun a' w' hB hag hp => ?_
            have hg : a'.tmps.getD 61 undef = _ := hp 10 (by kernel_rfl)
            have h64 : a'.tmps.getD 64 undef = _ := hp 13 (by kernel_rfl)
            have hB : Below wr.heap.size wr w' := hB; have x0 := (hB.cell (p := ⟨b, o + k * 6, none⟩) hbl).trans X0.out; have x1 := (hB.cell (p := ⟨b, o + k * 6 + 1, none⟩) hbl).trans X1.out; have x2 := (hB.cell (p := ⟨b, o + k * 6 + 2, none⟩) hbl).trans X2.out; have x3 := (hB.cell (p := ⟨b, o + k * 6 + 3, none⟩) hbl).trans X3.out; have x4 := (hB.cell (p := ⟨b, o + k * 6 + 4, none⟩) hbl).trans X4.out; have x5 := (hB.cell (p := ⟨b, o + k * 6 + 5, none⟩) hbl).trans X5.out; have y0 := (hB.cell (p := ⟨b, o + j * 6, none⟩) hbl).trans Y0.out; have y1 := (hB.cell (p := ⟨b, o + j * 6 + 1, none⟩) hbl).trans Y1.out; have y2 := (hB.cell (p := ⟨b, o + j * 6 + 2, none⟩) hbl).trans Y2.out; have y3 := (hB.cell (p := ⟨b, o + j * 6 + 3, none⟩) hbl).trans Y3.out; have y4 := (hB.cell (p := ⟨b, o + j * 6 + 4, none⟩) hbl).trans Y4.out; have y5 := (hB.cell (p := ⟨b, o + j * 6 + 5, none⟩) hbl).trans Y5.out
            refine ⟨wanted_of hg rfl rfl, ?_⟩
            simp at h64
            unfold OpYields
            go_simp
            exact ⟨Below.refl _ _, rfl⟩
          · refine step_pure_g hBs hFs fun a' w' hB hag hp => ?_
            have hg : a'.tmps.getD 61 undef = _ := hp 10 (by kernel_rfl)
            have h0 := hag 0 (by kernel_rfl)
            refine ⟨wanted_of hg rfl rfl, ?_⟩
            simp at h0
            unfold OpYields
            go_simp
            exact ⟨Below.refl _ _, rfl⟩
          · refine step_pure_g hBs hFs fun a' w' hB hag hp => ?_
            have hg : a'.tmps.getD 61 undef = _ := hp 10 (by kernel_rfl)
            have h8 := hag 8 (by kernel_rfl)
            refine ⟨wanted_of hg rfl rfl, ?_⟩
            simp at h8
            unfold OpYields
            go_simp
            exact ⟨Below.refl _ _, rfl⟩
          · refine step_pure_g hBs hFs fun a' w' hB hag hp => ?_
            have hg : a'.tmps.getD 61 undef = _ := hp 10 (by kernel_rfl)
            have h66 : a'.tmps.getD 66 undef = _ := hp 15 (by kernel_rfl)
            have h67 : a'.tmps.getD 67 undef = _ := hp 16 (by kernel_rfl)
            refine ⟨wanted_of hg rfl rfl, ?_⟩
            simp at h66 h67
            unfold OpYields
            go_simp
            exact ⟨Below.refl _ _, rfl⟩
          · refine step_pure_g hBs hFs fun a' w' hB hag hp => ?_
            have hg : a'.tmps.getD 61 undef = _ := hp 10 (by kernel_rfl)
            have h68 : a'.tmps.getD 68 undef = _ := hp 17 (by kernel_rfl)
            have hB : Below wr.heap.size wr w' := hB; have x0 := (hB.cell (p := ⟨b, o + k * 6, none⟩) hbl).trans X0.out; have x1 := (hB.cell (p := ⟨b, o + k * 6 + 1, none⟩) hbl).trans X1.out; have x2 := (hB.cell (p := ⟨b, o + k * 6 + 2, none⟩) hbl).trans X2.out; have x3 := (hB.cell (p := ⟨b, o + k * 6 + 3, none⟩) hbl).trans X3.out; have x4 := (hB.cell (p := ⟨b, o + k * 6 + 4, none⟩) hbl).trans X4.out; have x5 := (hB.cell (p := ⟨b, o + k * 6 + 5, none⟩) hbl).trans X5.out; have y0 := (hB.cell (p := ⟨b, o + j * 6, none⟩) hbl).trans Y0.out; have y1 := (hB.cell (p := ⟨b, o + j * 6 + 1, none⟩) hbl).trans Y1.out; have y2 := (hB.cell (p := ⟨b, o + j * 6 + 2, none⟩) hbl).trans Y2.out; have y3 := (hB.cell (p := ⟨b, o + j * 6 + 3, none⟩) hbl).trans Y3.out; have y4 := (hB.cell (p := ⟨b, o + j * 6 + 4, none⟩) hbl).trans Y4.out; have y5 := (hB.cell (p := ⟨b, o + j * 6 + 5, none⟩) hbl).trans Y5.out
            refine ⟨wanted_of hg rfl rfl, ?_⟩
            simp at h68
            unfold OpYields
            go_simp
            exact ⟨Below.refl _ _, rfl⟩
          · refine step_pure_g hBs hFs fun a' w' hB hag hp => ?_
            have hg : a'.tmps.getD 61 undef = _ := hp 10 (by kernel_rfl)
            have h65 : a'.tmps.getD 65 undef = _ := hp 14 (by kernel_rfl)
            have h69 : a'.tmps.getD 69 undef = _ := hp 18 (by kernel_rfl)
            refine ⟨wanted_of hg rfl rfl, ?_⟩
            simp at h65 h69
            unfold OpYields
            go_simp
            refine (ahead_any x y w').mono ?_
            rw [HAH.out]
            rintro e w1 ⟨rfl, hb⟩
            exact ⟨_, rfl, hb, rfl⟩
          · refine step_pure_g hBs hFs fun a' w' hB hag hp => ?_
            have hg : a'.tmps.getD 58 undef = _ := hp 7 (by kernel_rfl)
            have h61 : a'.tmps.getD 61 undef = _ := hp 10 (by kernel_rfl)
            have h70 : a'.tmps.getD 70 undef = _ := hp 19 (by kernel_rfl)
            refine ⟨wanted_of hg rfl rfl, ?_⟩
            simp at h61 h70
            unfold OpYields
            go_simp
            exact ⟨Below.refl _ _, rfl⟩
          · refine step_pure hBs hFs rfl fun a' w' hB hag hp => ?_
            have h58 : a'.tmps.getD 58 undef = _ := hp 7 (by kernel_rfl)
            have h71 : a'.tmps.getD 71 undef = _ := hp 20 (by kernel_rfl)
            simp at h58 h71
            unfold OpYields
            go_simp
            exact ⟨Below.refl _ _, rfl⟩
        intro vs w' hB hF
        simp only [AllF, forall_const, reduceCtorEq, false_implies, Fof, pfbF, pfbQ, Nat.zero_add, Nat.reduceAdd, Nat.reduceEqDiff, if_true, if_false, List.getD_cons_succ, List.getD_cons_zero] at hF
        obtain ⟨f0, f1, f2, f3, f4, f5, f6, f7, f8, f9, f10, f11, f12, f13, f14, f15, f16, f17, f18, f19, f20, f21, -⟩ := hF
        simp only [putAll, Act.put, Nat.zero_add, Nat.reduceAdd, f0, f1, f2, f3, f4, f5, f6, f7, f8, f9, f10, f11, f12, f13, f14, f15, f16, f17, f18, f19, f20, f21, List.setIfInBounds_toArray, List.set_cons_zero, List.set_cons_succ]
        have hB' : Below wr.heap.size wr w' := hB
        have KB := Aside.mk (below_call KB.out hB')
        clear hB hB'
        go_wp2
        exact ⟨⟨k + 1, by omega, by go_num, KB.out⟩, by simp [intOf]; omega⟩
    · obtain rfl : k = l.length := by omega
      go_wp2
      go_ret
      exact ⟨rfl, KB.out⟩
theorem pickFits_walk (A : Option Addr) (c : Nat) (l : List Rul) (inn dst : Int) (w : World) (hl : Rd rulD w A l.length l) (hF : ∀ r ∈ l, FitR8 r) (hnc : A = none → c = 0) (hi : Fit inn) (hd : Fit dst) : Calls Try.prog 4 #[.slice A l.length c, .int .i64 inn, .int .i64 dst] w fun e w' => e = .returned (.bool true) ∧ Below w.heap.size w w' := by
  by_cases h60 : l.length ≤ 100
  · rcases first_cases inn dst l with ⟨h1, h2⟩ | ⟨j, y, h1, hj, h3, h2⟩
    · exact pickFits_none A c l inn dst w hl hF hnc hi hd h60 h1 h2
    · exact pickFits_some A c l inn dst w hl hF hnc hi hd h60 j y h1 hj h3 h2
  · exact pickFits_big A c l inn dst w hl hF hnc hi hd h60
end Go.Proofs.Ytihlhkadmmcgeaa
