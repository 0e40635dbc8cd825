/- The walk through symMergeCmpFunc where the second part is one rule. -/
import Derived.Test.YtlnnkkbcmidddaaSortF
namespace Go.Proofs.Ytlnnkkbcmidddaa
open Go.RowKit
set_option maxRecDepth 100000
def sybB (x y : Rul) (g n c i j k l r : Nat) (wr : World) (w' : World) : Prop :=
  Below wr.heap.size wr w'
def sybF (x y : Rul) (g n c i j k l r : Nat) (wr : World) : List (Value → Value → World → Prop) :=
  [fun _ v _ => v = .func (.func 54) #[] #[],
   fun _ v _ => v = .slice (some ⟨g, 0, none⟩) n c,
   fun _ v _ => v = .int .i64 (i : Nat),
   fun _ v _ => v = .pointer (some ⟨g, i * 6, none⟩),
   fun _ v _ => v = rulV x,
   fun _ v _ => v = .slice (some ⟨g, 0, none⟩) n c,
   fun _ v _ => v = .int .i64 (j : Nat),
   fun _ v _ => v = .pointer (some ⟨g, j * 6, none⟩),
   fun _ v _ => v = rulV y,
   fun _ v _ => v = .int .i64 (standI x y),
   fun _ v _ => v = .bool (decide (standI x y < 0)),
   fun _ v _ => v = .bool (!decide (standI x y < 0))]
def sybQ : Nat → Nat := fun i => i
theorem sybF_stay (x y : Rul) (g n c i j k l r : Nat) (wr : World) : AllStay (sybF x y g n c i j k l r wr) := by
  intro F hF u v w' w'' hb h
  simp only [sybF, List.mem_cons, List.not_mem_nil, or_false] at hF
  rcases hF with rfl | rfl | rfl | rfl | rfl | rfl | rfl | rfl | rfl | rfl | rfl | rfl
  · exact h
  · exact h
  · exact h
  · exact h
  · exact h
  · exact h
  · exact h
  · exact h
  · exact h
  · exact h
  · exact h
  · exact h
theorem sybB_stay (x y : Rul) (g n c i j k l r : Nat) (wr : World) : Stays (sybB x y g n c i j k l r wr) := by
  intro w' w'' hb h
  exact below_call h hb
theorem last_get {P L Q : List Rul} {x : Rul} {a m i r : Nat} (ha : a = P.length) (hm : m = a + L.length) (hi : i = a + r) (hr : r < L.length) (h0 : m < (P ++ L ++ [x] ++ Q).length) (h1 : i < (P ++ L ++ [x] ++ Q).length) : (P ++ L ++ [x] ++ Q)[m] = x ∧ (P ++ L ++ [x] ++ Q)[i] = L[r] := by
  constructor
  · have : P ++ L ++ [x] ++ Q = (P ++ L) ++ x :: Q := by simp
    simp only [this]
    exact get_mid _ _ _ (by simp; omega) _
  · have : P ++ L ++ [x] ++ Q = P ++ (L ++ ([x] ++ Q)) := by simp
    simp only [this]
    rw [List.getElem_append_right (by omega), List.getElem_append_left (by omega)]
    congr 1
    omega

set_option maxHeartbeats 4000000 in
theorem symLast_any (base g n c A M B : Nat) (W : World) (P : List Rul) (x : Rul) (L Q : List Rul) (hA : A = P.length) (hM : M = A + L.length) (hB : B = M + 1) (h1 : L.length ≠ 1) (hS : SrtR L) (h : Own rulF W base 58 (.slice (some ⟨g, 0, none⟩) n c) (P ++ L ++ [x] ++ Q)) (hn : n ≤ 1000000) :
    Calls Try.prog 78 #[.slice (some ⟨g, 0, none⟩) n c, .int .i64 A, .int .i64 M, .int .i64 B, .func (.func 54) #[] #[]] W fun e w' => e = .returned (.tuple #[]) ∧ Srts W base 58 g n c w' (P ++ sortP (L ++ [x]) ++ Q) := by
  have hl := (Srts.start h).len
  have H := Aside.mk (Srts.start h)
  simp only [List.length_append, List.length_singleton] at hl
  have hB2 : B ≤ 1000000 := by omega
  have hM2 : M < n := by omega
  have w1 : IntKind.i64.wrap ((M : Int) - (A : Int)) = (M : Int) - (A : Int) := IntWalk.i64_in _ (by omega)
  have w2 : ((M : Int) - (A : Int) == 1) = false := by simp; omega
  have w3 : (B : Int) - (M : Int) = 1 := by omega
  have HA := Aside.mk hA
  have HM := Aside.mk hM
  have HB := Aside.mk hB
  have HL := Aside.mk hl
  have HR := Aside.mk hS
  clear h hA hM hB hl hS h1
  go_enter Try.func78, Try.ntmps78
  go_wp2
  go_loopw [14, 15, 16] (fun i j h wr => ∃ p q ii jj : Nat, i = .int .i64 ii ∧ j = .int .i64 jj ∧ ii = A + p ∧ jj = A + q ∧ p ≤ q ∧ q ≤ L.length ∧ (∀ y, 1 ≤ p → L[p - 1]? = some y → ¬ ltR x y) ∧ (∀ y, L[q]? = some y → ltR x y) ∧ Srts W base 58 g n c wr (P ++ L ++ [x] ++ Q)) (fun i j _ _ => (intOf j).toNat - (intOf i).toNat)
  case atStart => exact ⟨0, L.length, A, M, rfl, rfl, rfl, HM.out, Nat.zero_le _, Nat.le_refl _, fun y h => absurd h (by omega), fun y h => by simp at h, H.out⟩
  case round =>
    clear H w1 w2 w3
    obtain ⟨p, q, ii, jj, rfl, rfl, hii, hjj, hpq, hqr, h1, h2, hs⟩ := hrel
    have hgl : g < wr.heap.size := (hs.own.lt g rfl).2
    have HS := Aside.mk hs
    have H1 := Aside.mk h1
    have H2 := Aside.mk h2
    have HII := Aside.mk hii
    have HJJ := Aside.mk hjj
    clear h1 h2
    by_cases hlt : p < q
    · obtain ⟨r, hr⟩ : ∃ r, r = (p + q) / 2 := ⟨_, rfl⟩
      obtain ⟨hh, hhh⟩ : ∃ hh, hh = A + r := ⟨_, rfl⟩
      have hrl : r < L.length := by omega
      have m1 : ((ii : Int) + (jj : Int)) / 2 = (hh : Int) := by omega
      have hlij : ii < jj := by omega
      have hl := HL.out
      have h0' : M < (P ++ L ++ [x] ++ Q).length := by rw [← hs.len]; exact hM2
      have h1' : hh < (P ++ L ++ [x] ++ Q).length := by rw [← hs.len]; have := HM.out; have := HA.out; omega
      have hhn : hh < n := by rw [hs.len]; exact h1'
      obtain ⟨g1, g2⟩ := last_get HA.out HM.out hhh hrl h0' h1'
      obtain ⟨p0, p1, p2, p3, p4, p5⟩ := rul_at hs.own h0'
      obtain ⟨q0, q1, q2, q3, q4, q5⟩ := rul_at hs.own h1'
      obtain ⟨z, hz⟩ : ∃ z, L[r] = z := ⟨_, rfl⟩
      simp only [g1] at p0 p1 p2 p3 p4 p5
      simp only [g2, hz] at q0 q1 q2 q3 q4 q5
      have HZ := Aside.mk (show L[r]? = some z by rw [List.getElem?_eq_getElem hrl, hz])
      have X0 := Aside.mk p0
      have X1 := Aside.mk p1
      have X2 := Aside.mk p2
      have X3 := Aside.mk p3
      have X4 := Aside.mk p4
      have X5 := Aside.mk p5
      have Y0 := Aside.mk q0
      have Y1 := Aside.mk q1
      have Y2 := Aside.mk q2
      have Y3 := Aside.mk q3
      have Y4 := Aside.mk q4
      have Y5 := Aside.mk q5
      have HRR := Aside.mk (show p ≤ r ∧ r < q by omega)
      have HHH := Aside.mk hhh
      have HQR := Aside.mk hqr
      have e1 : (hh : Int) < (n : Int) := by omega
      have e2 : (M : Int) < (n : Int) := by omega
      clear hs hl h0' h1' g1 g2 hz p0 p1 p2 p3 p4 p5 q0 q1 q2 q3 q4 q5 hii hjj hpq hqr hr hhh hrl hlt
      go_wp2
      refine wp_region_facts (Base := sybB x z g n c M hh 0 0 0 wr) (q := sybQ) (Fs := sybF x z g n c M hh 0 0 0 wr) (by kernel_rfl) (by kernel_rfl) (by kernel_rfl) (by kernel_rfl) (below_drew (Below.refl _ _)) ?_ ?_
      ·
        have hBs := sybB_stay x z g n c M hh 0 0 0 wr
        have hFs := sybF_stay x z g n c M hh 0 0 0 wr
        refine ⟨?_, ?_, ?_, ?_, ?_, ?_, ?_, ?_, ?_, ?_, ?_, ?_, trivial⟩
        · refine step_pure hBs hFs rfl fun a' w' hB hag hp => ?_
          have h4 := hag 4 (by kernel_rfl)
          simp at h4
          unfold OpYields
          go_simp
          exact ⟨Below.refl _ _, rfl⟩
        · refine step_pure hBs hFs rfl fun a' w' hB hag hp => ?_
          have h0 := hag 0 (by kernel_rfl)
          simp at h0
          unfold OpYields
          go_simp
          exact ⟨Below.refl _ _, rfl⟩
        · refine step_pure hBs hFs rfl fun a' w' hB hag hp => ?_
          have h2 := hag 2 (by kernel_rfl)
          simp at h2
          unfold OpYields
          go_simp
          exact ⟨Below.refl _ _, rfl⟩
        · refine step_pure hBs hFs rfl fun a' w' hB hag hp => ?_
          have h93 : a'.tmps.getD 93 undef = _ := hp 1 (by kernel_rfl)
          have h94 : a'.tmps.getD 94 undef = _ := hp 2 (by kernel_rfl)
          simp at h93 h94
          unfold OpYields
          go_simp
          exact ⟨Below.refl _ _, rfl⟩
        · refine step_pure hBs hFs rfl fun a' w' hB hag hp => ?_
          have h95 : a'.tmps.getD 95 undef = _ := hp 3 (by kernel_rfl)
          have hB : Below wr.heap.size wr w' := hB; have x0 := (hB.cell (p := ⟨g, M * 6, none⟩) hgl).trans X0.out; have y0 := (hB.cell (p := ⟨g, hh * 6, none⟩) hgl).trans Y0.out; have x1 := (hB.cell (p := ⟨g, M * 6 + 1, none⟩) hgl).trans X1.out; have y1 := (hB.cell (p := ⟨g, hh * 6 + 1, none⟩) hgl).trans Y1.out; have x2 := (hB.cell (p := ⟨g, M * 6 + 2, none⟩) hgl).trans X2.out; have y2 := (hB.cell (p := ⟨g, hh * 6 + 2, none⟩) hgl).trans Y2.out; have x3 := (hB.cell (p := ⟨g, M * 6 + 3, none⟩) hgl).trans X3.out; have y3 := (hB.cell (p := ⟨g, hh * 6 + 3, none⟩) hgl).trans Y3.out; have x4 := (hB.cell (p := ⟨g, M * 6 + 4, none⟩) hgl).trans X4.out; have y4 := (hB.cell (p := ⟨g, hh * 6 + 4, none⟩) hgl).trans Y4.out; have x5 := (hB.cell (p := ⟨g, M * 6 + 5, none⟩) hgl).trans X5.out; have y5 := (hB.cell (p := ⟨g, hh * 6 + 5, none⟩) hgl).trans Y5.out
          simp at h95
          unfold OpYields
          go_simp
          exact ⟨Below.refl _ _, rfl⟩
        · refine step_pure hBs hFs rfl fun a' w' hB hag hp => ?_
          have h0 := hag 0 (by kernel_rfl)
          simp at h0
          unfold OpYields
          go_simp
          exact ⟨Below.refl _ _, rfl⟩
        · refine step_pure hBs hFs rfl fun a' w' hB hag hp => ?_
          have h16 := hag 16 (by kernel_rfl)
          simp at h16
          unfold OpYields
          go_simp
          exact ⟨Below.refl _ _, rfl⟩
        · refine step_pure hBs hFs rfl fun a' w' hB hag hp => ?_
          have h97 : a'.tmps.getD 97 undef = _ := hp 5 (by kernel_rfl)
          have h98 : a'.tmps.getD 98 undef = _ := hp 6 (by kernel_rfl)
          simp at h97 h98
          unfold OpYields
          go_simp
          exact ⟨Below.refl _ _, rfl⟩
        · refine step_pure hBs hFs rfl fun a' w' hB hag hp => ?_
          have h99 : a'.tmps.getD 99 undef = _ := hp 7 (by kernel_rfl)
          have hB : Below wr.heap.size wr w' := hB; have x0 := (hB.cell (p := ⟨g, M * 6, none⟩) hgl).trans X0.out; have y0 := (hB.cell (p := ⟨g, hh * 6, none⟩) hgl).trans Y0.out; have x1 := (hB.cell (p := ⟨g, M * 6 + 1, none⟩) hgl).trans X1.out; have y1 := (hB.cell (p := ⟨g, hh * 6 + 1, none⟩) hgl).trans Y1.out; have x2 := (hB.cell (p := ⟨g, M * 6 + 2, none⟩) hgl).trans X2.out; have y2 := (hB.cell (p := ⟨g, hh * 6 + 2, none⟩) hgl).trans Y2.out; have x3 := (hB.cell (p := ⟨g, M * 6 + 3, none⟩) hgl).trans X3.out; have y3 := (hB.cell (p := ⟨g, hh * 6 + 3, none⟩) hgl).trans Y3.out; have x4 := (hB.cell (p := ⟨g, M * 6 + 4, none⟩) hgl).trans X4.out; have y4 := (hB.cell (p := ⟨g, hh * 6 + 4, none⟩) hgl).trans Y4.out; have x5 := (hB.cell (p := ⟨g, M * 6 + 5, none⟩) hgl).trans X5.out; have y5 := (hB.cell (p := ⟨g, hh * 6 + 5, none⟩) hgl).trans Y5.out
          simp at h99
          unfold OpYields
          go_simp
          exact ⟨Below.refl _ _, rfl⟩
        · refine step_pure hBs hFs rfl fun a' w' hB hag hp => ?_
          have h92 : a'.tmps.getD 92 undef = _ := hp 0 (by kernel_rfl)
          have h96 : a'.tmps.getD 96 undef = _ := hp 4 (by kernel_rfl)
          have h100 : a'.tmps.getD 100 undef = _ := hp 8 (by kernel_rfl)
          simp at h92 h96 h100
          unfold OpYields
          go_simp
          refine (stand_any x z w').mono ?_
          rintro e w1 ⟨rfl, hb⟩
          exact ⟨_, rfl, hb, rfl⟩
        · refine step_pure hBs hFs rfl fun a' w' hB hag hp => ?_
          have h101 : a'.tmps.getD 101 undef = _ := hp 9 (by kernel_rfl)
          simp at h101
          unfold OpYields
          go_simp
          exact ⟨Below.refl _ _, rfl⟩
        · refine step_pure hBs hFs rfl fun a' w' hB hag hp => ?_
          have h102 : a'.tmps.getD 102 undef = _ := hp 10 (by kernel_rfl)
          simp at h102
          unfold OpYields
          go_simp
          exact ⟨Below.refl _ _, rfl⟩
      intro vs w' hB hF
      simp only [AllF, forall_const, reduceCtorEq, false_implies, Fof, sybF, sybQ, Nat.zero_add, Nat.reduceAdd, Nat.reduceEqDiff, if_true, if_false, List.getD_cons_succ, List.getD_cons_zero] at hF
      obtain ⟨f0, f1, f2, f3, f4, f5, f6, f7, f8, f9, f10, f11, -⟩ := hF
      simp only [putAll, Act.put, Nat.zero_add, Nat.reduceAdd, f0, f1, f2, f3, f4, f5, f6, f7, f8, f9, f10, f11, List.setIfInBounds_toArray, List.set_cons_zero, List.set_cons_succ]
      have hB' : Below wr.heap.size wr w' := hB
      have HZS := Aside.mk (HS.out.below hB')
      clear hB hB' f0 f1 f2 f3 f4 f5 f6 f7 f8 f9 f10 f11
      by_cases hst : standI x z < 0
      · rw [decide_eq_true hst]
        have HLT := Aside.mk ((standI_lt x z).1 hst)
        clear hst
        go_wp2
        exact ⟨⟨p, r, ii, hh, rfl, by go_num, HII.out, HHH.out, HRR.out.1, by have := HRR.out; have := HQR.out; omega, H1.out, fun y hy => by rw [HZ.out] at hy; injection hy with hy; rw [← hy]; exact HLT.out, HZS.out⟩, by have := HRR.out; have := HHH.out; have := HII.out; have := HJJ.out; simp [intOf]; omega⟩
      · rw [decide_eq_false hst]
        have HLT := Aside.mk (fun h => hst ((standI_lt x z).2 h))
        clear hst
        go_wp2
        exact ⟨⟨r + 1, q, hh + 1, jj, by go_num, rfl, by have := HHH.out; omega, HJJ.out, HRR.out.2, HQR.out, fun y _ hy => by rw [Nat.add_sub_cancel, HZ.out] at hy; injection hy with hy; rw [← hy]; exact HLT.out, H2.out, HZS.out⟩, by have := HRR.out; have := HHH.out; have := HII.out; have := HJJ.out; simp [intOf]; omega⟩
    · obtain rfl : p = q := by omega
      have hij : ¬ ii < jj := by omega
      have HSP := Aside.mk (sortP_into HR.out H1.out (fun y hy => ltR_le (H2.out y hy)) hqr)
      have HPR := Aside.mk hqr
      clear hs hii hjj hpq hqr hgl
      go_wp2
      go_loopw [17] (fun k wr => ∃ t kk : Nat, k = .int .i64 kk ∧ kk = A + t ∧ p ≤ t ∧ t ≤ L.length ∧ Srts W base 58 g n c wr (P ++ L.take t ++ x :: (L.drop t ++ Q))) (fun k _ => (intOf k).toNat)
      case atStart => exact ⟨L.length, M, rfl, HM.out, HPR.out, Nat.le_refl _, by have h := HS.out; simpa only [List.append_assoc, List.take_length, List.drop_length, List.nil_append, List.cons_append] using h⟩
      case round =>
        clear HS
        obtain ⟨t, kk, rfl, hkk, htp, htl, hs⟩ := hrel
        by_cases hlt2 : p < t
        · obtain ⟨tp, htt⟩ : ∃ tp, t = tp + 1 := ⟨t - 1, by omega⟩
          subst htt
          obtain ⟨kp, hkt⟩ : ∃ kp, kk = kp + 1 := ⟨kk - 1, by omega⟩
          subst hkt
          have htr : tp < L.length := by omega
          obtain ⟨y, hy⟩ : ∃ y, L[tp] = y := ⟨_, rfl⟩
          have HD := Aside.mk (show L.drop tp = y :: L.drop (tp + 1) by rw [List.drop_eq_getElem_cons htr, hy])
          have hT : L.take (tp + 1) = L.take tp ++ [y] := by rw [List.take_succ_eq_append_getElem htr, hy]
          rw [hT] at hs
          have hl := hs.len
          simp only [List.length_append, List.length_cons, List.length_take, List.length_singleton] at hl
          have hkp : kp = P.length + (L.take tp).length := by have := HA.out; rw [List.length_take]; omega
          have h1' : kp + 1 < (P ++ (L.take tp ++ [y]) ++ x :: (L.drop (tp + 1) ++ Q)).length := by rw [← hs.len]; rw [List.length_take] at hkp; omega
          have h2' : kp < (P ++ (L.take tp ++ [y]) ++ x :: (L.drop (tp + 1) ++ Q)).length := by rw [← hs.len]; rw [List.length_take] at hkp; omega
          have hkn : kp + 1 < n := by rw [hs.len]; exact h1'
          obtain ⟨g1, g2⟩ := ins_get (R := L.drop (tp + 1) ++ Q) hkp h1' h2'
          obtain ⟨p0, p1, p2, p3, p4, p5⟩ := rul_at hs.own h1'
          obtain ⟨q0, q1, q2, q3, q4, q5⟩ := rul_at hs.own h2'
          simp only [g1] at p0 p1 p2 p3 p4 p5
          simp only [g2] at q0 q1 q2 q3 q4 q5
          have hz := hs.swap h1' h2' x y
          rw [ins_swap hkp] at hz
          have pf := fun o => hs.own.frozen o
          obtain ⟨u, hu⟩ : ∃ u, (kp + 1) * 6 = u := ⟨_, rfl⟩
          obtain ⟨v, hv⟩ : ∃ v, kp * 6 = v := ⟨_, rfl⟩
          rw [hu] at p0 p1 p2 p3 p4 p5
          rw [hv] at q0 q1 q2 q3 q4 q5
          rw [hu, hv] at hz
          have HZ := Aside.mk hz
          have e0 : ((kp : Int) + 1).toNat = kp + 1 := by omega
          have e1 : (kp : Int) + 1 < (n : Int) := by omega
          have e2 : (kp : Int) < (n : Int) := by omega
          have e3 : (0 : Int) ≤ (kp : Int) + 1 := by omega
          have e4 : IntKind.i64.wrap (kp : Int) = (kp : Int) := IntWalk.i64_in _ (by omega)
          have hka : (ii : Int) < (kp : Int) + 1 := by have := HII.out; omega
          have hkb : ii < kp + 1 := by have := HII.out; omega
          have HKK := Aside.mk hkk
          have HTP := Aside.mk (show p ≤ tp by omega)
          have HTL := Aside.mk htl
          have huv : u + 6 ≤ v ∨ v + 6 ≤ u := (by omega); have a0 : ¬ v = u := (by omega); have a0' : ¬ u = v := (by omega); have a1 : ¬ v = u + 1 := (by omega); have c1 : ¬ u + 1 = v := (by omega); have d1 : ¬ v + 1 = u := (by omega); have f1 : ¬ u = v + 1 := (by omega); have a2 : ¬ v = u + 2 := (by omega); have c2 : ¬ u + 2 = v := (by omega); have d2 : ¬ v + 2 = u := (by omega); have f2 : ¬ u = v + 2 := (by omega); have a3 : ¬ v = u + 3 := (by omega); have c3 : ¬ u + 3 = v := (by omega); have d3 : ¬ v + 3 = u := (by omega); have f3 : ¬ u = v + 3 := (by omega); have a4 : ¬ v = u + 4 := (by omega); have c4 : ¬ u + 4 = v := (by omega); have d4 : ¬ v + 4 = u := (by omega); have f4 : ¬ u = v + 4 := (by omega); have a5 : ¬ v = u + 5 := (by omega); have c5 : ¬ u + 5 = v := (by omega); have d5 : ¬ v + 5 = u := (by omega); have f5 : ¬ u = v + 5 := (by omega); clear huv
          clear hs hl hkp h1' h2' g1 g2 hz hT hy htr hkk htp htl hlt2
          go_wp2
          go_region
          all_goals go_wp2
          all_goals
            exact ⟨⟨tp, kp, by go_num, by have := HKK.out; omega, HTP.out, by have := HTL.out; omega, by rw [HD.out]; exact HZ.out.below (below_drew (Below.refl _ _))⟩, by simp [intOf]⟩
        · obtain rfl : t = p := by omega
          have hz : Srts W base 58 g n c wr (P ++ sortP (L ++ [x]) ++ Q) := by rw [HSP.out]; simpa only [List.append_assoc, List.cons_append] using hs
          have HZ := Aside.mk hz
          have hka : ¬ ii < kk := by have := HII.out; omega
          clear hs hz hkk htp htl
          go_wp2
          exact bodyPost_ret (v := .tuple #[]) (by simp [results, Try.results78, go_sem]) rfl ⟨rfl, HZ.out⟩
end Go.Proofs.Ytlnnkkbcmidddaa
