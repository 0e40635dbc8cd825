/- The walk through symMergeCmpFunc where the first part is one rule. -/
import Derived.Test.YtlnnkkbcmidddaaSortE
namespace Go.Proofs.Ytlnnkkbcmidddaa
open Go.RowKit
set_option maxRecDepth 100000
def syaB (x y : Rul) (g n c i j k l r : Nat) (wr : World) (w' : World) : Prop :=
  Below wr.heap.size wr w'
def syaF (x y : Rul) (g n c i j k l r : Nat) (wr : World) : List (Value → Value → World → Prop) :=
  [fun _ v _ => v = .func (.func 54) #[] #[],
   fun _ v _ => v = .slice (some ⟨g, 0, none⟩) n c,
   fun _ v _ => v = .int .i64 (i : Nat),
   fun _ v _ => v = .pointer (some ⟨g, i * 6, none⟩),
   fun _ v _ => v = rulV x,
   fun _ v _ => v = .slice (some ⟨g, 0, none⟩) n c,
   fun _ v _ => v = .int .i64 (j : Nat),
   fun _ v _ => v = .pointer (some ⟨g, j * 6, none⟩),
   fun _ v _ => v = rulV y,
   fun _ v _ => v = .int .i64 (standI x y),
   fun _ v _ => v = .bool (decide (standI x y < 0))]
def syaQ : Nat → Nat := fun i => i
theorem syaF_stay (x y : Rul) (g n c i j k l r : Nat) (wr : World) : AllStay (syaF x y g n c i j k l r wr) := by
  intro F hF u v w' w'' hb h
  simp only [syaF, List.mem_cons, List.not_mem_nil, or_false] at hF
  rcases hF with rfl | rfl | rfl | rfl | rfl | rfl | rfl | rfl | rfl | rfl | rfl
  · exact h
  · exact h
  · exact h
  · exact h
  · exact h
  · exact h
  · exact h
  · exact h
  · exact h
  · exact h
  · exact h
theorem syaB_stay (x y : Rul) (g n c i j k l r : Nat) (wr : World) : Stays (syaB x y g n c i j k l r wr) := by
  intro w' w'' hb h
  exact below_call h hb
/-- A rule moves on by one place. -/
theorem mov_swap {P S : List Rul} {x y : Rul} {R : List Rul} {i : Nat} (hi : i = P.length + S.length) : ((P ++ S ++ x :: (y :: R)).set i y).set (i + 1) x = P ++ (S ++ [y]) ++ x :: R := by
  rw [set_mid (P ++ S) x (y :: R) y (by simp; omega)]
  have : P ++ S ++ y :: (y :: R) = (P ++ (S ++ [y])) ++ y :: R := by simp
  rw [this, set_mid (P ++ (S ++ [y])) y R x (by simp; omega)]
theorem mov_get {P S : List Rul} {x y : Rul} {R : List Rul} {i : Nat} (hi : i = P.length + S.length) (h1 : i < (P ++ S ++ x :: (y :: R)).length) (h2 : i + 1 < (P ++ S ++ x :: (y :: R)).length) : (P ++ S ++ x :: (y :: R))[i] = x ∧ (P ++ S ++ x :: (y :: R))[i + 1] = y := by
  constructor
  · exact get_mid (P ++ S) x (y :: R) (by simp; omega) h1
  · have : P ++ S ++ x :: (y :: R) = (P ++ (S ++ [x])) ++ y :: R := by simp
    simp only [this]
    exact get_mid _ _ _ (by simp; omega) _
/-- One rule put into sorted ones. -/
theorem sortP_into {R : List Rul} {x : Rul} {p : Nat} (hR : SrtR R) (h1 : ∀ y, 1 ≤ p → R[p - 1]? = some y → leR y x) (h2 : ∀ y, R[p]? = some y → leR x y) (hp : p ≤ R.length) : sortP (R ++ [x]) = R.take p ++ x :: R.drop p := by
  refine sortP_put (S1 := R.take p) (S2 := R.drop p) (by rw [List.take_append_drop]; exact hR) (fun h => ?_) (fun y hy => ?_) (by rw [List.take_append_drop])
  · have hp1 : 1 ≤ p := by
      rcases Nat.eq_zero_or_pos p with h0 | h0
      · subst h0; simp at h
      · exact h0
    refine h1 _ hp1 ?_
    rw [List.getLast_eq_getElem, List.getElem_take, ← List.getElem?_eq_getElem, List.length_take, Nat.min_eq_left hp]
  · by_cases hpl : p < R.length
    · rw [List.drop_eq_getElem_cons hpl] at hy
      have hx := h2 _ (List.getElem?_eq_getElem hpl)
      rcases List.mem_cons.1 hy with rfl | hy
      · exact hx
      · have h3 := hR
        rw [← List.take_append_drop p R, List.drop_eq_getElem_cons hpl] at h3
        exact leR_trans hx ((List.pairwise_cons.1 (srt_app.1 h3).2.1).1 y hy)
    · rw [List.drop_eq_nil_of_le (by omega)] at hy
      simp at hy
theorem one_get {P R Q : List Rul} {x : Rul} {a i r : Nat} (ha : a = P.length) (hi : i = a + 1 + r) (hr : r < R.length) (h0 : a < (P ++ [x] ++ R ++ Q).length) (h1 : i < (P ++ [x] ++ R ++ Q).length) : (P ++ [x] ++ R ++ Q)[a] = x ∧ (P ++ [x] ++ R ++ Q)[i] = R[r] := by
  constructor
  · have : P ++ [x] ++ R ++ Q = P ++ x :: (R ++ Q) := by simp
    simp only [this]
    exact get_mid _ _ _ ha _
  · rw [List.getElem_append_left (by simp; omega), List.getElem_append_right (by simp; omega)]
    congr 1
    simp
    omega

set_option maxHeartbeats 4000000 in
theorem symOne_any (base g n c A M B : Nat) (W : World) (P : List Rul) (x : Rul) (R Q : List Rul) (hA : A = P.length) (hM : M = A + 1) (hB : B = M + R.length) (hS : SrtR R) (h : Own rulF W base 58 (.slice (some ⟨g, 0, none⟩) n c) (P ++ [x] ++ R ++ Q)) (hn : n ≤ 1000000) :
    Calls Try.prog 78 #[.slice (some ⟨g, 0, none⟩) n c, .int .i64 A, .int .i64 M, .int .i64 B, .func (.func 54) #[] #[]] W fun e w' => e = .returned (.tuple #[]) ∧ Srts W base 58 g n c w' (P ++ sortP ([x] ++ R) ++ Q) := by
  have hl := (Srts.start h).len
  have H := Aside.mk (Srts.start h)
  simp only [List.length_append, List.length_singleton] at hl
  have hB2 : B ≤ 1000000 := by omega
  have hM2 : M ≤ 1000000 := by omega
  have hA2 : A < n := by omega
  have w1 : (M : Int) - (A : Int) = 1 := by omega
  have w2 : ((M : Int) - (A : Int) == 1) = true := by rw [w1]; rfl
  have HA := Aside.mk hA
  have HM := Aside.mk hM
  have HB := Aside.mk hB
  have HL := Aside.mk hl
  have HR := Aside.mk hS
  clear h hA hM hB hl hS
  go_enter Try.func78, Try.ntmps78
  go_wp2
  go_loopw [10, 11, 12] (fun i j h wr => ∃ p q ii jj : Nat, i = .int .i64 ii ∧ j = .int .i64 jj ∧ ii = M + p ∧ jj = M + q ∧ p ≤ q ∧ q ≤ R.length ∧ (∀ y, 1 ≤ p → R[p - 1]? = some y → ltR y x) ∧ (∀ y, R[q]? = some y → ¬ ltR y x) ∧ Srts W base 58 g n c wr (P ++ [x] ++ R ++ Q)) (fun i j _ _ => (intOf j).toNat - (intOf i).toNat)
  case atStart => exact ⟨0, R.length, M, B, rfl, rfl, rfl, HB.out, Nat.zero_le _, Nat.le_refl _, fun y h => absurd h (by omega), fun y h => by simp at h, H.out⟩
  case round =>
    clear H w1 w2
    obtain ⟨p, q, ii, jj, rfl, rfl, hii, hjj, hpq, hqr, h1, h2, hs⟩ := hrel
    have hgl : g < wr.heap.size := (hs.own.lt g rfl).2
    have HS := Aside.mk hs
    have H1 := Aside.mk h1
    have H2 := Aside.mk h2
    have HII := Aside.mk hii
    have HJJ := Aside.mk hjj
    clear h1 h2
    by_cases hlt : p < q
    · obtain ⟨r, hr⟩ : ∃ r, r = (p + q) / 2 := ⟨_, rfl⟩
      obtain ⟨hh, hhh⟩ : ∃ hh, hh = M + r := ⟨_, rfl⟩
      have hrl : r < R.length := by omega
      have m1 : ((ii : Int) + (jj : Int)) / 2 = (hh : Int) := by omega
      have hlij : ii < jj := by omega
      have hl := HL.out
      have h0' : A < (P ++ [x] ++ R ++ Q).length := by rw [← hs.len]; omega
      have h1' : hh < (P ++ [x] ++ R ++ Q).length := by rw [← hs.len]; have := HM.out; have := HA.out; omega
      have hhn : hh < n := by rw [hs.len]; exact h1'
      obtain ⟨g1, g2⟩ := one_get HA.out (by have := HM.out; omega) hrl h0' h1'
      obtain ⟨p0, p1, p2, p3, p4, p5⟩ := rul_at hs.own h1'
      obtain ⟨q0, q1, q2, q3, q4, q5⟩ := rul_at hs.own h0'
      obtain ⟨z, hz⟩ : ∃ z, R[r] = z := ⟨_, rfl⟩
      simp only [g2, hz] at p0 p1 p2 p3 p4 p5
      simp only [g1] at q0 q1 q2 q3 q4 q5
      have HZ := Aside.mk (show R[r]? = some z by rw [List.getElem?_eq_getElem hrl, hz])
      have X0 := Aside.mk p0
      have X1 := Aside.mk p1
      have X2 := Aside.mk p2
      have X3 := Aside.mk p3
      have X4 := Aside.mk p4
      have X5 := Aside.mk p5
      have Y0 := Aside.mk q0
      have Y1 := Aside.mk q1
      have Y2 := Aside.mk q2
      have Y3 := Aside.mk q3
      have Y4 := Aside.mk q4
      have Y5 := Aside.mk q5
      have HRR := Aside.mk (show p ≤ r ∧ r < q by omega)
      have HHH := Aside.mk hhh
      have HQR := Aside.mk hqr
      have e1 : (hh : Int) < (n : Int) := by omega
      have e2 : (A : Int) < (n : Int) := by omega
      clear hs hl h0' h1' g1 g2 hz p0 p1 p2 p3 p4 p5 q0 q1 q2 q3 q4 q5 hii hjj hpq hqr hr hhh hrl hlt
      go_wp2
      refine wp_region_facts (Base := syaB z x g n c hh A 0 0 0 wr) (q := syaQ) (Fs := syaF z x g n c hh A 0 0 0 wr) (by kernel_rfl) (by kernel_rfl) (by kernel_rfl) (by kernel_rfl) (below_drew (Below.refl _ _)) ?_ ?_
      ·
        have hBs := syaB_stay z x g n c hh A 0 0 0 wr
        have hFs := syaF_stay z x g n c hh A 0 0 0 wr
        refine ⟨?_, ?_, ?_, ?_, ?_, ?_, ?_, ?_, ?_, ?_, ?_, trivial⟩
        · refine step_pure hBs hFs rfl fun a' w' hB hag hp => ?_
          have h4 := hag 4 (by kernel_rfl)
          simp at h4
          unfold OpYields
          go_simp
          exact ⟨Below.refl _ _, rfl⟩
        · refine step_pure hBs hFs rfl fun a' w' hB hag hp => ?_
          have h0 := hag 0 (by kernel_rfl)
          simp at h0
          unfold OpYields
          go_simp
          exact ⟨Below.refl _ _, rfl⟩
        · refine step_pure hBs hFs rfl fun a' w' hB hag hp => ?_
          have h12 := hag 12 (by kernel_rfl)
          simp at h12
          unfold OpYields
          go_simp
          exact ⟨Below.refl _ _, rfl⟩
        · refine step_pure hBs hFs rfl fun a' w' hB hag hp => ?_
          have h41 : a'.tmps.getD 41 undef = _ := hp 1 (by kernel_rfl)
          have h42 : a'.tmps.getD 42 undef = _ := hp 2 (by kernel_rfl)
          simp at h41 h42
          unfold OpYields
          go_simp
          exact ⟨Below.refl _ _, rfl⟩
        · refine step_pure hBs hFs rfl fun a' w' hB hag hp => ?_
          have h43 : a'.tmps.getD 43 undef = _ := hp 3 (by kernel_rfl)
          have hB : Below wr.heap.size wr w' := hB; have x0 := (hB.cell (p := ⟨g, hh * 6, none⟩) hgl).trans X0.out; have y0 := (hB.cell (p := ⟨g, A * 6, none⟩) hgl).trans Y0.out; have x1 := (hB.cell (p := ⟨g, hh * 6 + 1, none⟩) hgl).trans X1.out; have y1 := (hB.cell (p := ⟨g, A * 6 + 1, none⟩) hgl).trans Y1.out; have x2 := (hB.cell (p := ⟨g, hh * 6 + 2, none⟩) hgl).trans X2.out; have y2 := (hB.cell (p := ⟨g, A * 6 + 2, none⟩) hgl).trans Y2.out; have x3 := (hB.cell (p := ⟨g, hh * 6 + 3, none⟩) hgl).trans X3.out; have y3 := (hB.cell (p := ⟨g, A * 6 + 3, none⟩) hgl).trans Y3.out; have x4 := (hB.cell (p := ⟨g, hh * 6 + 4, none⟩) hgl).trans X4.out; have y4 := (hB.cell (p := ⟨g, A * 6 + 4, none⟩) hgl).trans Y4.out; have x5 := (hB.cell (p := ⟨g, hh * 6 + 5, none⟩) hgl).trans X5.out; have y5 := (hB.cell (p := ⟨g, A * 6 + 5, none⟩) hgl).trans Y5.out
          simp at h43
          unfold OpYields
          go_simp
          exact ⟨Below.refl _ _, rfl⟩
        · refine step_pure hBs hFs rfl fun a' w' hB hag hp => ?_
          have h0 := hag 0 (by kernel_rfl)
          simp at h0
          unfold OpYields
          go_simp
          exact ⟨Below.refl _ _, rfl⟩
        · refine step_pure hBs hFs rfl fun a' w' hB hag hp => ?_
          have h1 := hag 1 (by kernel_rfl)
          simp at h1
          unfold OpYields
          go_simp
          exact ⟨Below.refl _ _, rfl⟩
        · refine step_pure hBs hFs rfl fun a' w' hB hag hp => ?_
          have h45 : a'.tmps.getD 45 undef = _ := hp 5 (by kernel_rfl)
          have h46 : a'.tmps.getD 46 undef = _ := hp 6 (by kernel_rfl)
          simp at h45 h46
          unfold OpYields
          go_simp
          exact ⟨Below.refl _ _, rfl⟩
        · refine step_pure hBs hFs rfl fun a' w' hB hag hp => ?_
          have h47 : a'.tmps.getD 47 undef = _ := hp 7 (by kernel_rfl)
          have hB : Below wr.heap.size wr w' := hB; have x0 := (hB.cell (p := ⟨g, hh * 6, none⟩) hgl).trans X0.out; have y0 := (hB.cell (p := ⟨g, A * 6, none⟩) hgl).trans Y0.out; have x1 := (hB.cell (p := ⟨g, hh * 6 + 1, none⟩) hgl).trans X1.out; have y1 := (hB.cell (p := ⟨g, A * 6 + 1, none⟩) hgl).trans Y1.out; have x2 := (hB.cell (p := ⟨g, hh * 6 + 2, none⟩) hgl).trans X2.out; have y2 := (hB.cell (p := ⟨g, A * 6 + 2, none⟩) hgl).trans Y2.out; have x3 := (hB.cell (p := ⟨g, hh * 6 + 3, none⟩) hgl).trans X3.out; have y3 := (hB.cell (p := ⟨g, A * 6 + 3, none⟩) hgl).trans Y3.out; have x4 := (hB.cell (p := ⟨g, hh * 6 + 4, none⟩) hgl).trans X4.out; have y4 := (hB.cell (p := ⟨g, A * 6 + 4, none⟩) hgl).trans Y4.out; have x5 := (hB.cell (p := ⟨g, hh * 6 + 5, none⟩) hgl).trans X5.out; have y5 := (hB.cell (p := ⟨g, A * 6 + 5, none⟩) hgl).trans Y5.out
          simp at h47
          unfold OpYields
          go_simp
          exact ⟨Below.refl _ _, rfl⟩
        · refine step_pure hBs hFs rfl fun a' w' hB hag hp => ?_
          have h40 : a'.tmps.getD 40 undef = _ := hp 0 (by kernel_rfl)
          have h44 : a'.tmps.getD 44 undef = _ := hp 4 (by kernel_rfl)
          have h48 : a'.tmps.getD 48 undef = _ := hp 8 (by kernel_rfl)
          simp at h40 h44 h48
          unfold OpYields
          go_simp
          refine (stand_any z x w').mono ?_
          rintro e w1 ⟨rfl, hb⟩
          exact ⟨_, rfl, hb, rfl⟩
        · refine step_pure hBs hFs rfl fun a' w' hB hag hp => ?_
          have h49 : a'.tmps.getD 49 undef = _ := hp 9 (by kernel_rfl)
          simp at h49
          unfold OpYields
          go_simp
          exact ⟨Below.refl _ _, rfl⟩
      intro vs w' hB hF
      simp only [AllF, forall_const, reduceCtorEq, false_implies, Fof, syaF, syaQ, Nat.zero_add, Nat.reduceAdd, Nat.reduceEqDiff, if_true, if_false, List.getD_cons_succ, List.getD_cons_zero] at hF
      obtain ⟨f0, f1, f2, f3, f4, f5, f6, f7, f8, f9, f10, -⟩ := hF
      simp only [putAll, Act.put, Nat.zero_add, Nat.reduceAdd, f0, f1, f2, f3, f4, f5, f6, f7, f8, f9, f10, List.setIfInBounds_toArray, List.set_cons_zero, List.set_cons_succ]
      have hB' : Below wr.heap.size wr w' := hB
      have HZS := Aside.mk (HS.out.below hB')
      clear hB hB' f0 f1 f2 f3 f4 f5 f6 f7 f8 f9 f10
      by_cases hst : standI z x < 0
      · rw [decide_eq_true hst]
        have HLT := Aside.mk ((standI_lt z x).1 hst)
        clear hst
        go_wp2
        exact ⟨⟨r + 1, q, hh + 1, jj, by go_num, rfl, by have := HHH.out; omega, HJJ.out, HRR.out.2, HQR.out, fun y _ hy => by rw [Nat.add_sub_cancel, HZ.out] at hy; injection hy with hy; rw [← hy]; exact HLT.out, H2.out, HZS.out⟩, by have := HRR.out; have := HHH.out; have := HII.out; have := HJJ.out; simp [intOf]; omega⟩
      · rw [decide_eq_false hst]
        have HLT := Aside.mk (fun h => hst ((standI_lt z x).2 h))
        clear hst
        go_wp2
        exact ⟨⟨p, r, ii, hh, rfl, by go_num, HII.out, HHH.out, HRR.out.1, by have := HRR.out; have := HQR.out; omega, H1.out, fun y hy => by rw [HZ.out] at hy; injection hy with hy; rw [← hy]; exact HLT.out, HZS.out⟩, by have := HRR.out; have := HHH.out; have := HII.out; have := HJJ.out; simp [intOf]; omega⟩
    · obtain rfl : p = q := by omega
      have hij : ¬ ii < jj := by omega
      have HSP := Aside.mk (show sortP ([x] ++ R) = R.take p ++ x :: R.drop p by
        rw [← sortP_into HR.out (fun y h hy => ltR_le (H1.out y h hy)) H2.out hqr]
        exact sortP_of_perm List.perm_append_comm)
      have HPR := Aside.mk hqr
      have m3 : (ii : Int) - 1 = ((A + p : Nat) : Int) := by have := HM.out; omega
      obtain ⟨ap, hap⟩ : ∃ ap, ap = A + p := ⟨_, rfl⟩
      rw [← hap] at m3
      have m4 : IntKind.i64.wrap (ap : Int) = (ap : Int) := IntWalk.i64_in _ (by have := HM.out; have := HB.out; omega)
      have HAP := Aside.mk hap
      clear hs hii hjj hpq hqr hgl hap
      go_wp2
      go_loopw [13] (fun k wr => ∃ t kk : Nat, k = .int .i64 kk ∧ kk = A + t ∧ t ≤ p ∧ Srts W base 58 g n c wr (P ++ R.take t ++ x :: (R.drop t ++ Q))) (fun k _ => ap - (intOf k).toNat)
      case atStart => exact ⟨0, A, rfl, rfl, Nat.zero_le _, by have h := HS.out; simpa only [List.append_assoc, List.take_zero, List.drop_zero, List.append_nil, List.nil_append, List.cons_append] using h⟩
      case round =>
        clear HS
        obtain ⟨t, kk, rfl, hkk, htp, hs⟩ := hrel
        have hgl : g < wr.heap.size := (hs.own.lt g rfl).2
        by_cases hlt2 : t < p
        · have htr : t < R.length := by have := HPR.out; omega
          obtain ⟨y, hy⟩ : ∃ y, R[t] = y := ⟨_, rfl⟩
          have hd : R.drop t = y :: R.drop (t + 1) := by rw [List.drop_eq_getElem_cons htr, hy]
          have HT := Aside.mk (show R.take (t + 1) = R.take t ++ [y] by rw [List.take_succ_eq_append_getElem htr, hy])
          rw [hd] at hs
          have hl := hs.len
          simp only [List.length_append, List.length_cons, List.length_take] at hl
          have hkp : kk = P.length + (R.take t).length := by have := HA.out; rw [List.length_take]; omega
          have h1' : kk < (P ++ R.take t ++ x :: (y :: R.drop (t + 1) ++ Q)).length := by rw [← hs.len]; rw [List.length_take] at hkp; omega
          have h2' : kk + 1 < (P ++ R.take t ++ x :: (y :: R.drop (t + 1) ++ Q)).length := by rw [← hs.len]; rw [List.length_take] at hkp; omega
          have hkn : kk + 1 < n := by rw [hs.len]; exact h2'
          obtain ⟨g1, g2⟩ := mov_get (R := R.drop (t + 1) ++ Q) hkp h1' h2'
          obtain ⟨p0, p1, p2, p3, p4, p5⟩ := rul_at hs.own h1'
          obtain ⟨q0, q1, q2, q3, q4, q5⟩ := rul_at hs.own h2'
          simp only [List.cons_append, g1] at p0 p1 p2 p3 p4 p5
          simp only [List.cons_append, g2] at q0 q1 q2 q3 q4 q5
          have hz := hs.swap h1' h2' x y
          rw [List.cons_append, mov_swap hkp] at hz
          have pf := fun o => hs.own.frozen o
          obtain ⟨u, hu⟩ : ∃ u, kk * 6 = u := ⟨_, rfl⟩
          obtain ⟨v, hv⟩ : ∃ v, (kk + 1) * 6 = v := ⟨_, rfl⟩
          rw [hu] at p0 p1 p2 p3 p4 p5
          rw [hv] at q0 q1 q2 q3 q4 q5
          rw [hu, hv] at hz
          have HZ := Aside.mk hz
          have e0 : ((kk : Int) + 1).toNat = kk + 1 := by omega
          have e1 : (kk : Int) + 1 < (n : Int) := by omega
          have e2 : (kk : Int) < (n : Int) := by omega
          have e3 : (0 : Int) ≤ (kk : Int) + 1 := by omega
          have hka : kk < ap := by have := HAP.out; omega
          have HKK := Aside.mk hkk
          have HTP := Aside.mk hlt2
          have huv : u + 6 ≤ v ∨ v + 6 ≤ u := (by omega); have a0 : ¬ v = u := (by omega); have a0' : ¬ u = v := (by omega); have a1 : ¬ v = u + 1 := (by omega); have c1 : ¬ u + 1 = v := (by omega); have d1 : ¬ v + 1 = u := (by omega); have f1 : ¬ u = v + 1 := (by omega); have a2 : ¬ v = u + 2 := (by omega); have c2 : ¬ u + 2 = v := (by omega); have d2 : ¬ v + 2 = u := (by omega); have f2 : ¬ u = v + 2 := (by omega); have a3 : ¬ v = u + 3 := (by omega); have c3 : ¬ u + 3 = v := (by omega); have d3 : ¬ v + 3 = u := (by omega); have f3 : ¬ u = v + 3 := (by omega); have a4 : ¬ v = u + 4 := (by omega); have c4 : ¬ u + 4 = v := (by omega); have d4 : ¬ v + 4 = u := (by omega); have f4 : ¬ u = v + 4 := (by omega); have a5 : ¬ v = u + 5 := (by omega); have c5 : ¬ u + 5 = v := (by omega); have d5 : ¬ v + 5 = u := (by omega); have f5 : ¬ u = v + 5 := (by omega); clear huv
          clear hs hl hkp h1' h2' g1 g2 hz hd hy htr hkk htp hlt2
          go_wp2
          go_region
          all_goals go_wp2
          all_goals
            exact ⟨⟨t + 1, kk + 1, by go_num, by have := HKK.out; omega, HTP.out, by rw [HT.out]; exact HZ.out.below (below_drew (Below.refl _ _))⟩, by simp [intOf]; omega⟩
        · obtain rfl : t = p := by omega
          have hz : Srts W base 58 g n c wr (P ++ sortP ([x] ++ R) ++ Q) := by rw [HSP.out]; simpa only [List.append_assoc, List.cons_append] using hs
          have HZ := Aside.mk hz
          have hka : ¬ kk < ap := by have := HAP.out; omega
          clear hs hz hkk htp
          go_wp2
          exact bodyPost_ret (v := .tuple #[]) (by simp [results, Try.results78, go_sem]) rfl ⟨rfl, HZ.out⟩
end Go.Proofs.Ytlnnkkbcmidddaa
