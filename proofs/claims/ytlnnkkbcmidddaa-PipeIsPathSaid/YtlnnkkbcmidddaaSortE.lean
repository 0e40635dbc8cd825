/- The walk through insertionSortCmpFunc. -/
import Derived.Test.YtlnnkkbcmidddaaSortB
import Derived.Test.YtlnnkkbcmidddaaSortD
namespace Go.Proofs.Ytlnnkkbcmidddaa
open Go.RowKit
set_option maxRecDepth 100000
def isrB (x y : Rul) (g n c i j k l r : Nat) (wr : World) (w' : World) : Prop :=
  Below wr.heap.size wr w'
def isrF (x y : Rul) (g n c i j k l r : Nat) (wr : World) : List (Value → Value → World → Prop) :=
  [fun _ v _ => v = .int .i64 ((j : Int) + 1),
   fun _ v _ => v = .int .i64 (k : Nat),
   fun _ v _ => v = .bool true,
   fun _ v _ => v = .bool true,
   fun _ v _ => v = .func (.func 54) #[] #[],
   fun _ v _ => v = .slice (some ⟨g, 0, none⟩) n c,
   fun _ v _ => v = .int .i64 ((j : Int) + 1),
   fun _ v _ => v = .pointer (some ⟨g, (j + 1) * 6, none⟩),
   fun _ v _ => v = rulV x,
   fun _ v _ => v = .slice (some ⟨g, 0, none⟩) n c,
   fun _ v _ => v = .int .i64 ((j : Int) + 1),
   fun _ v _ => v = .int .i64 (j : Nat),
   fun _ v _ => v = .pointer (some ⟨g, j * 6, none⟩),
   fun _ v _ => v = rulV y,
   fun _ v _ => v = .int .i64 (standI x y),
   fun _ v _ => v = .bool (decide (standI x y < 0)),
   fun _ v _ => v = .bool (decide (standI x y < 0))]
def isrQ : Nat → Nat := fun i => i
theorem isrF_stay (x y : Rul) (g n c i j k l r : Nat) (wr : World) : AllStay (isrF x y g n c i j k l r wr) := by
  intro F hF u v w' w'' hb h
  simp only [isrF, List.mem_cons, List.not_mem_nil, or_false] at hF
  rcases hF with rfl | rfl | rfl | rfl | rfl | rfl | rfl | rfl | rfl | rfl | rfl | rfl | rfl | rfl | rfl | rfl | rfl
  · exact h
  · exact h
  · exact h
  · exact h
  · exact h
  · exact h
  · exact h
  · exact h
  · exact h
  · exact h
  · exact h
  · exact h
  · exact h
  · exact h
  · exact h
  · exact h
  · exact h
theorem isrB_stay (x y : Rul) (g n c i j k l r : Nat) (wr : World) : Stays (isrB x y g n c i j k l r wr) := by
  intro w' w'' hb h
  exact below_call h hb
theorem sortP_small {l : List Rul} (h : l.length ≤ 1) : sortP l = l := by
  match l, h with
  | [], _ => exact sortP_nil
  | [x], _ => exact sortP_one x
theorem ins_swap {P S : List Rul} {y x : Rul} {R : List Rul} {i : Nat} (hi : i = P.length + S.length) : ((P ++ (S ++ [y]) ++ x :: R).set (i + 1) y).set i x = P ++ S ++ x :: (y :: R) := by
  rw [set_mid (P ++ (S ++ [y])) x R y (by simp; omega)]
  have : P ++ (S ++ [y]) ++ y :: R = (P ++ S) ++ y :: (y :: R) := by simp
  rw [this, set_mid (P ++ S) y (y :: R) x (by simp; omega)]
theorem ins_get {P S : List Rul} {y x : Rul} {R : List Rul} {i : Nat} (hi : i = P.length + S.length) (h1 : i + 1 < (P ++ (S ++ [y]) ++ x :: R).length) (h2 : i < (P ++ (S ++ [y]) ++ x :: R).length) : (P ++ (S ++ [y]) ++ x :: R)[i + 1] = x ∧ (P ++ (S ++ [y]) ++ x :: R)[i] = y := by
  constructor
  · exact get_mid (P ++ (S ++ [y])) x R (by simp; omega) h1
  · have : P ++ (S ++ [y]) ++ x :: R = (P ++ S) ++ y :: (x :: R) := by simp
    simp only [this]
    exact get_mid _ _ _ (by simp; omega) _

set_option maxHeartbeats 4000000 in
theorem insertion_any (base g n c A B : Nat) (W : World) (P L Q : List Rul) (hA : A = P.length) (hB : B = A + L.length) (h : Own rulF W base 58 (.slice (some ⟨g, 0, none⟩) n c) (P ++ L ++ Q)) (hn : n ≤ 1000000) :
    Calls Try.prog 77 #[.slice (some ⟨g, 0, none⟩) n c, .int .i64 A, .int .i64 B, .func (.func 54) #[] #[]] W fun e w' => e = .returned (.tuple #[]) ∧ Srts W base 58 g n c w' (P ++ sortP L ++ Q) := by
  have hl := (Srts.start h).len
  have H := Aside.mk (Srts.start h)
  simp only [List.length_append] at hl
  clear h
  have hA2 : A ≤ 1000000 := by omega
  have hB2 : B ≤ 1000000 := by omega
  have HA := Aside.mk hA
  have HB := Aside.mk hB
  have HL := Aside.mk hl
  clear hA hB hl
  go_enter Try.func77, Try.ntmps77
  go_wp2
  go_loopw [8] (fun i wr => ∃ k ii : Nat, i = .int .i64 ii ∧ ii = A + k ∧ 1 ≤ k ∧ (k ≤ L.length ∨ k = 1) ∧ Srts W base 58 g n c wr (P ++ sortP (L.take k) ++ L.drop k ++ Q)) (fun i _ => B + 1 - (intOf i).toNat)
  case atStart => exact ⟨1, A + 1, by go_num, rfl, Nat.le_refl _, .inr rfl, by rw [sortP_small (by rw [List.length_take]; omega), List.append_assoc P, List.take_append_drop]; exact H.out⟩
  case round =>
    clear H
    obtain ⟨k, ii, rfl, hii, hk1, hk, hs⟩ := hrel
    have HS := Aside.mk hs
    clear hs
    by_cases hlt : ii < B
    · have hkl : k < L.length := by have := HB.out; omega
      obtain ⟨x, hx⟩ : ∃ x, L[k] = x := ⟨_, rfl⟩
      have hd : L.drop k = x :: L.drop (k + 1) := by rw [List.drop_eq_getElem_cons hkl, hx]
      have HT := Aside.mk (show L.take (k + 1) = L.take k ++ [x] by rw [List.take_succ_eq_append_getElem hkl, hx])
      have HK := Aside.mk (show k < L.length from hkl)
      have hlen : (sortP (L.take k)).length = k := by rw [sortP_len, List.length_take]; omega
      have HLEN := Aside.mk hlen
      have HII := Aside.mk hii
      have hs := HS.out
      rw [hd] at hs
      have H2 := Aside.mk hs
      clear hk hx hd hlen hs hkl
      go_wp2
      go_loopw [9] (fun j wr => ∃ (S1 S2 : List Rul) (jj : Nat), j = .int .i64 jj ∧ jj = A + S1.length ∧ sortP (L.take k) = S1 ++ S2 ∧ (∀ y ∈ S2, ltR x y) ∧ Srts W base 58 g n c wr (P ++ S1 ++ x :: (S2 ++ L.drop (k + 1) ++ Q))) (fun j _ => (intOf j).toNat)
      case atStart => exact ⟨sortP (L.take k), [], ii, rfl, by rw [HLEN.out]; exact HII.out, by simp, by simp, by have h := H2.out; simpa only [List.append_assoc, List.nil_append, List.cons_append] using h⟩
      case round =>
        clear H2 HS
        obtain ⟨S1, S2, jj, rfl, hjj, hS, h2, hs⟩ := hrel
        have hl := hs.len
        simp only [List.length_append, List.length_cons] at hl
        have hgl : g < wr.heap.size := by
          have := hs.own.lt g rfl
          exact this.2
        have HS := Aside.mk hs
        have HSS := Aside.mk hS
        have H2 := Aside.mk h2
        have OUT := Aside.mk (fun h1 : ∀ h : S1 ≠ [], leR (S1.getLast h) x => show P ++ S1 ++ x :: (S2 ++ L.drop (k + 1) ++ Q) = P ++ sortP (L.take (k + 1)) ++ L.drop (k + 1) ++ Q by
          rw [HT.out, sortP_put (S1 := S1) (S2 := S2) (by rw [← HSS.out]; exact sortP_srt _) h1 (fun y hy => ltR_le (H2.out y hy)) (by rw [← HSS.out]; exact sortP_perm _)]
          simp only [List.append_assoc, List.cons_append])
        clear hS h2
        rcases List.eq_nil_or_concat S1 with h0 | ⟨S, y, h0⟩
        · subst h0
          simp only [List.length_nil, Nat.add_zero] at hjj
          have dj : decide ((A : Int) < (jj : Int)) = false := decide_eq_false (by omega)
          have dj2 : decide (A < jj) = false := decide_eq_false (by omega)
          have HE := Aside.mk (OUT.out (fun h => absurd rfl h))
          clear hs hjj hl
          go_wp2
          go_quiet (fail)
          go_wp2
          have hz := HS.out
          rw [HE.out] at hz
          exact ⟨⟨k + 1, ii + 1, by go_num, by have := HII.out; omega, by omega, .inl HK.out, hz.below (below_drewN (Below.refl _ _) _)⟩, by simp [intOf]; omega⟩
        · rw [List.concat_eq_append] at h0
          subst h0
          simp only [List.length_append, List.length_singleton] at hjj hl
          obtain ⟨jp, hjp⟩ : ∃ jp, jj = jp + 1 := ⟨jj - 1, by omega⟩
          subst hjp
          have hjp2 : jp = P.length + S.length := by have := HA.out; omega
          have h1 : jp + 1 < (P ++ (S ++ [y]) ++ x :: (S2 ++ L.drop (k + 1) ++ Q)).length := by rw [← hs.len]; omega
          have h2 : jp < (P ++ (S ++ [y]) ++ x :: (S2 ++ L.drop (k + 1) ++ Q)).length := by rw [← hs.len]; omega
          obtain ⟨g1, g2⟩ := ins_get hjp2 h1 h2
          obtain ⟨p0, p1, p2, p3, p4, p5⟩ := rul_at hs.own h1
          obtain ⟨q0, q1, q2, q3, q4, q5⟩ := rul_at hs.own h2
          simp only [g1] at p0 p1 p2 p3 p4 p5
          simp only [g2] at q0 q1 q2 q3 q4 q5
          have HSW := Aside.mk (fun w' (hb : Below wr.heap.size wr w') x y => (hs.below hb).swap h1 h2 x y)
          have HSX := Aside.mk (ins_swap (x := x) (y := y) (R := S2 ++ L.drop (k + 1) ++ Q) hjp2)
          have X0 := Aside.mk p0
          have X1 := Aside.mk p1
          have X2 := Aside.mk p2
          have X3 := Aside.mk p3
          have X4 := Aside.mk p4
          have X5 := Aside.mk p5
          have Y0 := Aside.mk q0
          have Y1 := Aside.mk q1
          have Y2 := Aside.mk q2
          have Y3 := Aside.mk q3
          have Y4 := Aside.mk q4
          have Y5 := Aside.mk q5
          have pf0 := Aside.mk (fun w' (hb : Below wr.heap.size wr w') o => (hs.below hb).own.frozen o)
          have HJP := Aside.mk hjp2
          have hjn : jp + 1 < n := by omega
          have dj : decide ((A : Int) < (jp : Int) + 1) = true := decide_eq_true (by omega)
          have e0 : ((jp : Int) + 1).toNat = jp + 1 := by omega
          have e1 : (jp : Int) + 1 < (n : Int) := by omega
          have e2 : (jp : Int) < (n : Int) := by omega
          have e3 : (0 : Int) ≤ (jp : Int) + 1 := by omega
          have e4 : IntKind.i64.wrap (jp : Int) = (jp : Int) := IntWalk.i64_in _ (by omega)
          have HJJ := Aside.mk hjj
          clear hs hl g1 g2 h1 h2 p0 p1 p2 p3 p4 p5 q0 q1 q2 q3 q4 q5 hjp2 hjj
          go_wp2
          refine wp_region_facts (Base := isrB x y g n c 0 jp A 0 0 wr) (q := isrQ) (Fs := isrF x y g n c 0 jp A 0 0 wr) (by kernel_rfl) (by kernel_rfl) (by kernel_rfl) (by kernel_rfl) (below_drew (Below.refl _ _)) ?_ ?_
          ·
            have hBs := isrB_stay x y g n c 0 jp A 0 0 wr
            have hFs := isrF_stay x y g n c 0 jp A 0 0 wr
            refine ⟨?_, ?_, ?_, ?_, ?_, ?_, ?_, ?_, ?_, ?_, ?_, ?_, ?_, ?_, ?_, ?_, ?_, trivial⟩
            · refine step_pure hBs hFs rfl fun a' w' hB hag hp => ?_
              have h9 := hag 9 (by kernel_rfl)
              simp at h9
              unfold OpYields
              go_simp
              exact ⟨Below.refl _ _, rfl⟩
            · refine step_pure hBs hFs rfl fun a' w' hB hag hp => ?_
              have h1 := hag 1 (by kernel_rfl)
              simp at h1
              unfold OpYields
              go_simp
              exact ⟨Below.refl _ _, rfl⟩
            · refine step_pure hBs hFs rfl fun a' w' hB hag hp => ?_
              have h18 : a'.tmps.getD 18 undef = _ := hp 0 (by kernel_rfl)
              have h19 : a'.tmps.getD 19 undef = _ := hp 1 (by kernel_rfl)
              simp at h18 h19
              unfold OpYields
              go_simp
              exact ⟨Below.refl _ _, rfl⟩
            · refine step_pure hBs hFs rfl fun a' w' hB hag hp => ?_
              have h20 : a'.tmps.getD 20 undef = _ := hp 2 (by kernel_rfl)
              simp at h20
              unfold OpYields
              go_simp
              exact ⟨Below.refl _ _, rfl⟩
            · refine step_pure_g hBs hFs fun a' w' hB hag hp => ?_
              have hg : a'.tmps.getD 21 undef = _ := hp 3 (by kernel_rfl)
              have h3 := hag 3 (by kernel_rfl)
              refine ⟨wanted_of hg rfl rfl, ?_⟩
              simp at h3
              unfold OpYields
              go_simp
              exact ⟨Below.refl _ _, rfl⟩
            · refine step_pure_g hBs hFs fun a' w' hB hag hp => ?_
              have hg : a'.tmps.getD 21 undef = _ := hp 3 (by kernel_rfl)
              have h0 := hag 0 (by kernel_rfl)
              refine ⟨wanted_of hg rfl rfl, ?_⟩
              simp at h0
              unfold OpYields
              go_simp
              exact ⟨Below.refl _ _, rfl⟩
            · refine step_pure_g hBs hFs fun a' w' hB hag hp => ?_
              have hg : a'.tmps.getD 21 undef = _ := hp 3 (by kernel_rfl)
              have h9 := hag 9 (by kernel_rfl)
              refine ⟨wanted_of hg rfl rfl, ?_⟩
              simp at h9
              unfold OpYields
              go_simp
              exact ⟨Below.refl _ _, rfl⟩
            · refine step_pure_g hBs hFs fun a' w' hB hag hp => ?_
              have hg : a'.tmps.getD 21 undef = _ := hp 3 (by kernel_rfl)
              have h23 : a'.tmps.getD 23 undef = _ := hp 5 (by kernel_rfl)
              have h24 : a'.tmps.getD 24 undef = _ := hp 6 (by kernel_rfl)
              refine ⟨wanted_of hg rfl rfl, ?_⟩
              simp at h23 h24
              unfold OpYields
              go_simp
              exact ⟨Below.refl _ _, rfl⟩
            · refine step_pure_g hBs hFs fun a' w' hB hag hp => ?_
              have hg : a'.tmps.getD 21 undef = _ := hp 3 (by kernel_rfl)
              have h25 : a'.tmps.getD 25 undef = _ := hp 7 (by kernel_rfl)
              have hB : Below wr.heap.size wr w' := hB; have x0 := (hB.cell (p := ⟨g, (jp + 1) * 6, none⟩) hgl).trans X0.out; have y0 := (hB.cell (p := ⟨g, jp * 6, none⟩) hgl).trans Y0.out; have x1 := (hB.cell (p := ⟨g, (jp + 1) * 6 + 1, none⟩) hgl).trans X1.out; have y1 := (hB.cell (p := ⟨g, jp * 6 + 1, none⟩) hgl).trans Y1.out; have x2 := (hB.cell (p := ⟨g, (jp + 1) * 6 + 2, none⟩) hgl).trans X2.out; have y2 := (hB.cell (p := ⟨g, jp * 6 + 2, none⟩) hgl).trans Y2.out; have x3 := (hB.cell (p := ⟨g, (jp + 1) * 6 + 3, none⟩) hgl).trans X3.out; have y3 := (hB.cell (p := ⟨g, jp * 6 + 3, none⟩) hgl).trans Y3.out; have x4 := (hB.cell (p := ⟨g, (jp + 1) * 6 + 4, none⟩) hgl).trans X4.out; have y4 := (hB.cell (p := ⟨g, jp * 6 + 4, none⟩) hgl).trans Y4.out; have x5 := (hB.cell (p := ⟨g, (jp + 1) * 6 + 5, none⟩) hgl).trans X5.out; have y5 := (hB.cell (p := ⟨g, jp * 6 + 5, none⟩) hgl).trans Y5.out
              refine ⟨wanted_of hg rfl rfl, ?_⟩
              simp at h25
              unfold OpYields
              go_simp
              exact ⟨Below.refl _ _, rfl⟩
            · refine step_pure_g hBs hFs fun a' w' hB hag hp => ?_
              have hg : a'.tmps.getD 21 undef = _ := hp 3 (by kernel_rfl)
              have h0 := hag 0 (by kernel_rfl)
              refine ⟨wanted_of hg rfl rfl, ?_⟩
              simp at h0
              unfold OpYields
              go_simp
              exact ⟨Below.refl _ _, rfl⟩
            · refine step_pure_g hBs hFs fun a' w' hB hag hp => ?_
              have hg : a'.tmps.getD 21 undef = _ := hp 3 (by kernel_rfl)
              have h9 := hag 9 (by kernel_rfl)
              refine ⟨wanted_of hg rfl rfl, ?_⟩
              simp at h9
              unfold OpYields
              go_simp
              exact ⟨Below.refl _ _, rfl⟩
            · refine step_pure_g hBs hFs fun a' w' hB hag hp => ?_
              have hg : a'.tmps.getD 21 undef = _ := hp 3 (by kernel_rfl)
              have h28 : a'.tmps.getD 28 undef = _ := hp 10 (by kernel_rfl)
              refine ⟨wanted_of hg rfl rfl, ?_⟩
              simp at h28
              unfold OpYields
              go_simp
              exact ⟨Below.refl _ _, rfl⟩
            · refine step_pure_g hBs hFs fun a' w' hB hag hp => ?_
              have hg : a'.tmps.getD 21 undef = _ := hp 3 (by kernel_rfl)
              have h27 : a'.tmps.getD 27 undef = _ := hp 9 (by kernel_rfl)
              have h29 : a'.tmps.getD 29 undef = _ := hp 11 (by kernel_rfl)
              refine ⟨wanted_of hg rfl rfl, ?_⟩
              simp at h27 h29
              unfold OpYields
              go_simp
              exact ⟨Below.refl _ _, rfl⟩
            · refine step_pure_g hBs hFs fun a' w' hB hag hp => ?_
              have hg : a'.tmps.getD 21 undef = _ := hp 3 (by kernel_rfl)
              have h30 : a'.tmps.getD 30 undef = _ := hp 12 (by kernel_rfl)
              have hB : Below wr.heap.size wr w' := hB; have x0 := (hB.cell (p := ⟨g, (jp + 1) * 6, none⟩) hgl).trans X0.out; have y0 := (hB.cell (p := ⟨g, jp * 6, none⟩) hgl).trans Y0.out; have x1 := (hB.cell (p := ⟨g, (jp + 1) * 6 + 1, none⟩) hgl).trans X1.out; have y1 := (hB.cell (p := ⟨g, jp * 6 + 1, none⟩) hgl).trans Y1.out; have x2 := (hB.cell (p := ⟨g, (jp + 1) * 6 + 2, none⟩) hgl).trans X2.out; have y2 := (hB.cell (p := ⟨g, jp * 6 + 2, none⟩) hgl).trans Y2.out; have x3 := (hB.cell (p := ⟨g, (jp + 1) * 6 + 3, none⟩) hgl).trans X3.out; have y3 := (hB.cell (p := ⟨g, jp * 6 + 3, none⟩) hgl).trans Y3.out; have x4 := (hB.cell (p := ⟨g, (jp + 1) * 6 + 4, none⟩) hgl).trans X4.out; have y4 := (hB.cell (p := ⟨g, jp * 6 + 4, none⟩) hgl).trans Y4.out; have x5 := (hB.cell (p := ⟨g, (jp + 1) * 6 + 5, none⟩) hgl).trans X5.out; have y5 := (hB.cell (p := ⟨g, jp * 6 + 5, none⟩) hgl).trans Y5.out
              refine ⟨wanted_of hg rfl rfl, ?_⟩
              simp at h30
              unfold OpYields
              go_simp
              exact ⟨Below.refl _ _, rfl⟩
            · refine step_pure_g hBs hFs fun a' w' hB hag hp => ?_
              have hg : a'.tmps.getD 21 undef = _ := hp 3 (by kernel_rfl)
              have h22 : a'.tmps.getD 22 undef = _ := hp 4 (by kernel_rfl)
              have h26 : a'.tmps.getD 26 undef = _ := hp 8 (by kernel_rfl)
              have h31 : a'.tmps.getD 31 undef = _ := hp 13 (by kernel_rfl)
              refine ⟨wanted_of hg rfl rfl, ?_⟩
              simp at h22 h26 h31
              unfold OpYields
              go_simp
              refine (stand_any x y w').mono ?_
              rintro e w1 ⟨rfl, hb⟩
              exact ⟨_, rfl, hb, rfl⟩
            · refine step_pure_g hBs hFs fun a' w' hB hag hp => ?_
              have hg : a'.tmps.getD 21 undef = _ := hp 3 (by kernel_rfl)
              have h32 : a'.tmps.getD 32 undef = _ := hp 14 (by kernel_rfl)
              refine ⟨wanted_of hg rfl rfl, ?_⟩
              simp at h32
              unfold OpYields
              go_simp
              exact ⟨Below.refl _ _, rfl⟩
            · refine step_pure hBs hFs rfl fun a' w' hB hag hp => ?_
              have h21 : a'.tmps.getD 21 undef = _ := hp 3 (by kernel_rfl)
              have h33 : a'.tmps.getD 33 undef = _ := hp 15 (by kernel_rfl)
              simp at h21 h33
              unfold OpYields
              go_simp
              exact ⟨Below.refl _ _, rfl⟩
          intro vs w' hB hF
          simp only [AllF, forall_const, reduceCtorEq, false_implies, Fof, isrF, isrQ, Nat.zero_add, Nat.reduceAdd, Nat.reduceEqDiff, if_true, if_false, List.getD_cons_succ, List.getD_cons_zero] at hF
          obtain ⟨f0, f1, f2, f3, f4, f5, f6, f7, f8, f9, f10, f11, f12, f13, f14, f15, f16, -⟩ := hF
          simp only [putAll, Act.put, Nat.zero_add, Nat.reduceAdd, f0, f1, f2, f3, f4, f5, f6, f7, f8, f9, f10, f11, f12, f13, f14, f15, f16, List.setIfInBounds_toArray, List.set_cons_zero, List.set_cons_succ]
          have hB' : Below wr.heap.size wr w' := hB
          clear hB
          by_cases hst : standI x y < 0
          · rw [decide_eq_true hst]
            have HLT := Aside.mk ((standI_lt x y).1 hst)
            obtain ⟨u, hu⟩ : ∃ u, (jp + 1) * 6 = u := ⟨_, rfl⟩
            obtain ⟨v, hv⟩ : ∃ v, jp * 6 = v := ⟨_, rfl⟩
            have p0 := (hB'.cell (p := ⟨g, (jp + 1) * 6, none⟩) hgl).trans X0.out
            have p1 := (hB'.cell (p := ⟨g, (jp + 1) * 6 + 1, none⟩) hgl).trans X1.out
            have p2 := (hB'.cell (p := ⟨g, (jp + 1) * 6 + 2, none⟩) hgl).trans X2.out
            have p3 := (hB'.cell (p := ⟨g, (jp + 1) * 6 + 3, none⟩) hgl).trans X3.out
            have p4 := (hB'.cell (p := ⟨g, (jp + 1) * 6 + 4, none⟩) hgl).trans X4.out
            have p5 := (hB'.cell (p := ⟨g, (jp + 1) * 6 + 5, none⟩) hgl).trans X5.out
            have q0 := (hB'.cell (p := ⟨g, jp * 6, none⟩) hgl).trans Y0.out
            have q1 := (hB'.cell (p := ⟨g, jp * 6 + 1, none⟩) hgl).trans Y1.out
            have q2 := (hB'.cell (p := ⟨g, jp * 6 + 2, none⟩) hgl).trans Y2.out
            have q3 := (hB'.cell (p := ⟨g, jp * 6 + 3, none⟩) hgl).trans Y3.out
            have q4 := (hB'.cell (p := ⟨g, jp * 6 + 4, none⟩) hgl).trans Y4.out
            have q5 := (hB'.cell (p := ⟨g, jp * 6 + 5, none⟩) hgl).trans Y5.out
            have pf := pf0.out w' hB'
            have hz := HSW.out w' hB' x y
            rw [HSX.out] at hz
            rw [hu] at p0 p1 p2 p3 p4 p5
            rw [hv] at q0 q1 q2 q3 q4 q5
            rw [hu, hv] at hz
            have HZ := Aside.mk hz
            have huv : u + 6 ≤ v ∨ v + 6 ≤ u := (by omega); have a0 : ¬ v = u := (by omega); have a0' : ¬ u = v := (by omega); have a1 : ¬ v = u + 1 := (by omega); have c1 : ¬ u + 1 = v := (by omega); have d1 : ¬ v + 1 = u := (by omega); have f1 : ¬ u = v + 1 := (by omega); have a2 : ¬ v = u + 2 := (by omega); have c2 : ¬ u + 2 = v := (by omega); have d2 : ¬ v + 2 = u := (by omega); have f2 : ¬ u = v + 2 := (by omega); have a3 : ¬ v = u + 3 := (by omega); have c3 : ¬ u + 3 = v := (by omega); have d3 : ¬ v + 3 = u := (by omega); have f3 : ¬ u = v + 3 := (by omega); have a4 : ¬ v = u + 4 := (by omega); have c4 : ¬ u + 4 = v := (by omega); have d4 : ¬ v + 4 = u := (by omega); have f4 : ¬ u = v + 4 := (by omega); have a5 : ¬ v = u + 5 := (by omega); have c5 : ¬ u + 5 = v := (by omega); have d5 : ¬ v + 5 = u := (by omega); have f5 : ¬ u = v + 5 := (by omega); clear huv
            clear f0 f1 f2 f3 f4 f5 f6 f7 f8 f9 f10 f11 f12 f13 f14 f15 f16 hz hB' hst
            go_wp2
            go_region
            all_goals go_wp2
            all_goals
              exact ⟨⟨S, y :: S2, jp, rfl, by have := HJJ.out; omega, by rw [HSS.out, List.append_assoc]; rfl, fun z hz => by
                  rcases List.mem_cons.1 hz with rfl | hz
                  · exact HLT.out
                  · exact H2.out z hz, HZ.out.below (below_drew (Below.refl _ _))⟩, by simp [intOf]⟩
          · rw [decide_eq_false hst]
            have HLT := Aside.mk (fun h => hst ((standI_lt x y).2 h) : leR y x)
            have HE := Aside.mk (OUT.out (fun h => by have e : (S ++ [y]).getLast h = y := (by simp); rw [e]; exact HLT.out))
            clear f0 f1 f2 f3 f4 f5 f6 f7 f8 f9 f10 f11 f12 f13 f14 f15 f16 hst
            have hz := HS.out.below hB'
            rw [HE.out] at hz
            have HZ := Aside.mk hz
            clear hz hB'
            go_wp2
            exact ⟨⟨k + 1, ii + 1, by go_num, by have := HII.out; omega, by omega, .inl HK.out, HZ.out⟩, by simp [intOf]; omega⟩
    · have hkl : L.length ≤ k := by have := HB.out; omega
      have hz := HS.out
      rw [List.take_of_length_le hkl, List.drop_eq_nil_of_le hkl, List.append_nil] at hz
      have HZ := Aside.mk hz
      clear hz
      go_wp2
      go_end0
      exact ⟨rfl, HZ.out⟩
end Go.Proofs.Ytlnnkkbcmidddaa
