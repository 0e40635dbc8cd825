/- The walk through swapRangeCmpFunc. -/
import Derived.Test.YtlnnkkbcmidddaaSortQ
namespace Go.Proofs.Ytlnnkkbcmidddaa
open Go.RowKit
set_option maxRecDepth 100000

theorem swap_st {P X M Y Q : List Rul} {m i : Nat} (hX : X.length = m) (hY : Y.length = m) (hi : i < m) {a b : Nat} (ha : a = P.length) (hb : b = P.length + m + M.length) :
    ((P ++ (Y.take i ++ X.drop i) ++ M ++ (X.take i ++ Y.drop i) ++ Q).set (a + i) Y[i]).set (b + i) X[i] = P ++ (Y.take (i + 1) ++ X.drop (i + 1)) ++ M ++ (X.take (i + 1) ++ Y.drop (i + 1)) ++ Q := by
  have e1 : X.drop i = X[i] :: X.drop (i + 1) := List.drop_eq_getElem_cons (by omega)
  have e2 : Y.drop i = Y[i] :: Y.drop (i + 1) := List.drop_eq_getElem_cons (by omega)
  have e3 : P ++ (Y.take i ++ X.drop i) ++ M ++ (X.take i ++ Y.drop i) ++ Q = (P ++ Y.take i) ++ X[i] :: ((X.drop (i + 1) ++ M ++ X.take i) ++ Y[i] :: (Y.drop (i + 1) ++ Q)) := by
    rw [e1, e2]; simp only [List.append_assoc, List.cons_append]
  rw [e3, swap_mid (P ++ Y.take i) X[i] (X.drop (i + 1) ++ M ++ X.take i) Y[i] (Y.drop (i + 1) ++ Q) (by simp; omega) (by simp; omega)]
  rw [List.take_succ_eq_append_getElem (by omega : i < Y.length), List.take_succ_eq_append_getElem (by omega : i < X.length)]
  simp only [List.append_assoc, List.cons_append, List.nil_append]
theorem swap_get {P X M Y Q : List Rul} {m i : Nat} (hX : X.length = m) (hY : Y.length = m) (hi : i < m) {a b : Nat} (ha : a = P.length) (hb : b = P.length + m + M.length) (h1 : a + i < (P ++ (Y.take i ++ X.drop i) ++ M ++ (X.take i ++ Y.drop i) ++ Q).length) (h2 : b + i < (P ++ (Y.take i ++ X.drop i) ++ M ++ (X.take i ++ Y.drop i) ++ Q).length) :
    (P ++ (Y.take i ++ X.drop i) ++ M ++ (X.take i ++ Y.drop i) ++ Q)[a + i] = X[i] ∧ (P ++ (Y.take i ++ X.drop i) ++ M ++ (X.take i ++ Y.drop i) ++ Q)[b + i] = Y[i] := by
  have e1 : X.drop i = X[i] :: X.drop (i + 1) := List.drop_eq_getElem_cons (by omega)
  have e2 : Y.drop i = Y[i] :: Y.drop (i + 1) := List.drop_eq_getElem_cons (by omega)
  have e3 : P ++ (Y.take i ++ X.drop i) ++ M ++ (X.take i ++ Y.drop i) ++ Q = (P ++ Y.take i) ++ X[i] :: ((X.drop (i + 1) ++ M ++ X.take i) ++ Y[i] :: (Y.drop (i + 1) ++ Q)) := by
    rw [e1, e2]; simp only [List.append_assoc, List.cons_append]
  have e4 : P ++ (Y.take i ++ X.drop i) ++ M ++ (X.take i ++ Y.drop i) ++ Q = ((P ++ Y.take i) ++ X[i] :: (X.drop (i + 1) ++ M ++ X.take i)) ++ Y[i] :: (Y.drop (i + 1) ++ Q) := by
    rw [e3]; simp only [List.append_assoc, List.cons_append]
  constructor
  · simp only [e3]
    exact get_mid _ _ _ (by simp; omega) _
  · simp only [e4]
    exact get_mid _ _ _ (by simp; omega) _

set_option maxHeartbeats 4000000 in
theorem swapRange_any (base g n c m A B : Nat) (W : World) (P X M Y Q : List Rul) (cv : Value) (hX : X.length = m) (hY : Y.length = m) (hA : A = P.length) (hB : B = P.length + m + M.length) (h : Own rulF W base 58 (.slice (some ⟨g, 0, none⟩) n c) (P ++ X ++ M ++ Y ++ Q)) (hn : n ≤ 1000000) :
    Calls Try.prog 84 #[.slice (some ⟨g, 0, none⟩) n c, .int .i64 A, .int .i64 B, .int .i64 m, cv] W fun e w' => e = .returned (.tuple #[]) ∧ Srts W base 58 g n c w' (P ++ Y ++ M ++ X ++ Q) := by
  have hl := (Srts.start h).len
  have H := Aside.mk (Srts.start h)
  have HN := Aside.mk hl
  simp only [List.length_append] at hl
  clear h
  go_enter Try.func84, Try.ntmps84
  go_wp2
  go_loopw [10] (fun i wr => ∃ j : Nat, j ≤ m ∧ i = .int .i64 j ∧ Srts W base 58 g n c wr (P ++ (Y.take j ++ X.drop j) ++ M ++ (X.take j ++ Y.drop j) ++ Q)) (fun i _ => m - (intOf i).toNat)
  case atStart => exact ⟨0, Nat.zero_le _, rfl, by simpa using H.out⟩
  case round =>
    clear H
    obtain ⟨i, hi, rfl, hs⟩ := hrel
    have HS := Aside.mk hs
    by_cases hlt : i < m
    · have hL := hs.len
      have h1 : A + i < (P ++ (Y.take i ++ X.drop i) ++ M ++ (X.take i ++ Y.drop i) ++ Q).length := by rw [← hL]; omega
      have h2 : B + i < (P ++ (Y.take i ++ X.drop i) ++ M ++ (X.take i ++ Y.drop i) ++ Q).length := by rw [← hL]; omega
      obtain ⟨g1, g2⟩ := swap_get hX hY hlt hA hB h1 h2
      obtain ⟨p0, p1, p2, p3, p4, p5⟩ := rul_at hs.own h1
      obtain ⟨q0, q1, q2, q3, q4, q5⟩ := rul_at hs.own h2
      simp only [g1] at p0 p1 p2 p3 p4 p5
      simp only [g2] at q0 q1 q2 q3 q4 q5
      have HST := Aside.mk (swap_st (Q := Q) hX hY hlt hA hB)
      have HSW := Aside.mk (fun x y => hs.swap h1 h2 x y)
      have pf := fun o => hs.own.frozen o
      generalize X[i] = x at *
      generalize Y[i] = y at *
      have e1 : ((A : Int) + (i : Int)).toNat = A + i := by omega
      have e2 : ((B : Int) + (i : Int)).toNat = B + i := by omega
      have b1 : (A : Int) + i < n := by omega
      have b2 : (B : Int) + i < n := by omega
      have z1 : (0 : Int) ≤ (A : Int) + i := by omega
      have z2 : (0 : Int) ≤ (B : Int) + i := by omega
      have hlt2 : i < 1000000 := by omega
      have hm2 : m ≤ 1000000 := by omega
      have hAB : A ≤ 1000000 ∧ B ≤ 1000000 ∧ A + m ≤ B := by omega
      have HA := Aside.mk hA
      have HB := Aside.mk hB
      have HX := Aside.mk hX
      have HY := Aside.mk hY
      have HL := Aside.mk hl
      have w1 : IntKind.i64.wrap ((A : Int) + i) = (A : Int) + i := IntWalk.i64_in _ (by omega)
      have w2 : IntKind.i64.wrap ((B : Int) + i) = (B : Int) + i := IntWalk.i64_in _ (by omega)
      clear hs g1 g2 hL h1 h2 hA hB hX hY hl
      obtain ⟨u, hu⟩ : ∃ u, (A + i) * 6 = u := ⟨_, rfl⟩
      obtain ⟨v, hv⟩ : ∃ v, (B + i) * 6 = v := ⟨_, rfl⟩
      rw [hu] at p0 p1 p2 p3 p4 p5
      rw [hv] at q0 q1 q2 q3 q4 q5
      rw [hu, hv] at HSW
      have huv : u + 6 ≤ v ∨ v + 6 ≤ u := (by omega); have a0 : ¬ v = u := (by omega); have a0' : ¬ u = v := (by omega); have a1 : ¬ v = u + 1 := (by omega); have c1 : ¬ u + 1 = v := (by omega); have d1 : ¬ v + 1 = u := (by omega); have f1 : ¬ u = v + 1 := (by omega); have a2 : ¬ v = u + 2 := (by omega); have c2 : ¬ u + 2 = v := (by omega); have d2 : ¬ v + 2 = u := (by omega); have f2 : ¬ u = v + 2 := (by omega); have a3 : ¬ v = u + 3 := (by omega); have c3 : ¬ u + 3 = v := (by omega); have d3 : ¬ v + 3 = u := (by omega); have f3 : ¬ u = v + 3 := (by omega); have a4 : ¬ v = u + 4 := (by omega); have c4 : ¬ u + 4 = v := (by omega); have d4 : ¬ v + 4 = u := (by omega); have f4 : ¬ u = v + 4 := (by omega); have a5 : ¬ v = u + 5 := (by omega); have c5 : ¬ u + 5 = v := (by omega); have d5 : ¬ v + 5 = u := (by omega); have f5 : ¬ u = v + 5 := (by omega); clear huv
      go_wp2
      go_region
      all_goals go_wp2
      all_goals
        have hz := HSW.out x y
        rw [HST.out] at hz
        exact ⟨⟨i + 1, by omega, by go_num, hz.below (below_drew (Below.refl _ _))⟩, by simp [intOf]; omega⟩
    · obtain rfl : i = m := by omega
      have hE : P ++ (Y.take i ++ X.drop i) ++ M ++ (X.take i ++ Y.drop i) ++ Q = P ++ Y ++ M ++ X ++ Q := by
        rw [List.take_of_length_le (by omega), List.take_of_length_le (by omega), List.drop_eq_nil_of_le (by omega), List.drop_eq_nil_of_le (by omega)]
        simp
      rw [hE] at HS
      clear hs hE
      go_wp2
      go_end0
      exact ⟨rfl, HS.out⟩
end Go.Proofs.Ytlnnkkbcmidddaa
