/- The walk through rotateCmpFunc. -/
import Derived.Test.YtlnnkkbcmidddaaSortC
namespace Go.Proofs.Ytlnnkkbcmidddaa
open Go.RowKit
set_option maxRecDepth 100000

set_option maxHeartbeats 4000000 in
theorem rotate_any (base g n c A M B : Nat) (W : World) (P U V Q : List Rul) (cv : Value) (hA : A = P.length) (hM : M = A + U.length) (hB : B = M + V.length) (hU : 0 < U.length) (hV : 0 < V.length) (h : Own rulF W base 58 (.slice (some ⟨g, 0, none⟩) n c) (P ++ U ++ V ++ Q)) (hn : n ≤ 1000000) :
    Calls Try.prog 83 #[.slice (some ⟨g, 0, none⟩) n c, .int .i64 A, .int .i64 M, .int .i64 B, cv] W fun e w' => e = .returned (.tuple #[]) ∧ Srts W base 58 g n c w' (P ++ V ++ U ++ Q) := by
  have hl := (Srts.start h).len
  have H := Aside.mk (Srts.start h)
  simp only [List.length_append] at hl
  clear h
  have w1 : (M : Int) - (A : Int) = (U.length : Int) := by omega
  have w2 : (B : Int) - (M : Int) = (V.length : Int) := by omega
  have w3 : ∀ z : Nat, z ≤ 3000000 → IntKind.i64.wrap (z : Int) = (z : Int) := fun z hz => IntWalk.i64_in _ (by omega)
  have w4 := w3 U.length (by omega)
  have w5 := w3 V.length (by omega)
  have hM2 : M ≤ 1000000 := by omega
  have HU := Aside.mk hU
  have HV := Aside.mk hV
  have HA := Aside.mk hA
  have HM := Aside.mk hM
  have W3 := Aside.mk w3
  clear hU hV hA hM hB hl w3
  go_enter Try.func83, Try.ntmps83
  go_wp2
  go_loopw [10, 11] (fun i j wr => ∃ P' X Y Q', i = .int .i64 (X.length : Nat) ∧ j = .int .i64 (Y.length : Nat) ∧ P'.length + X.length = M ∧ 0 < X.length ∧ 0 < Y.length ∧ Srts W base 58 g n c wr (P' ++ X ++ Y ++ Q') ∧ P' ++ Y ++ X ++ Q' = P ++ V ++ U ++ Q) (fun i j _ => (intOf i).toNat + (intOf j).toNat)
  case atStart => exact ⟨P, U, V, Q, rfl, rfl, by have := HA.out; have := HM.out; omega, HU.out, HV.out, H.out, rfl⟩
  case round =>
    clear H w1 w2 w4 w5
    obtain ⟨P', X, Y, Q', rfl, rfl, hp, hx, hy, hs, he⟩ := hrel
    have hl := hs.len
    simp only [List.length_append] at hl
    have HS := Aside.mk hs
    have HE := Aside.mk he
    clear hs he
    obtain ⟨i, hi⟩ : ∃ i, X.length = i := ⟨_, rfl⟩
    obtain ⟨j, hj⟩ : ∃ j, Y.length = j := ⟨_, rfl⟩
    obtain ⟨p, hpp⟩ : ∃ p, P'.length = p := ⟨_, rfl⟩
    rw [hi] at hp hx hl ⊢
    rw [hj] at hy hl ⊢
    rw [hpp] at hp hl
    have m1 : (M : Int) - (i : Int) = (p : Int) := by omega
    have m2 := W3.out p (by omega)
    have HI := Aside.mk hi
    have HJ := Aside.mk hj
    have HP := Aside.mk hpp
    have HL := Aside.mk hl
    clear hi hj hpp
    rcases Nat.lt_trichotomy i j with hlt | heq | hgt
    · have d1 : ((i : Int) != (j : Int)) = true := by simp; omega
      have d2 : decide ((j : Int) < (i : Int)) = false := decide_eq_false (by omega)
      have d3 : decide (j < i) = false := decide_eq_false (by omega)
      obtain ⟨r, hr⟩ : ∃ r, j = r + i := ⟨j - i, by omega⟩
      have m3 : (j : Int) - (i : Int) = (r : Int) := by omega
      have m4 := W3.out r (by omega)
      obtain ⟨bb, hb⟩ : ∃ bb, bb = M + r := ⟨_, rfl⟩
      have m6 : IntKind.i64.wrap ((M : Int) + (j : Int)) = (M : Int) + (j : Int) := IntWalk.i64_in _ (by omega)
      have m7 : (M : Int) + (j : Int) - (i : Int) = (bb : Int) := by omega
      have m8 := W3.out bb (by omega)
      have YT : Aside (Y = Y.take r ++ Y.drop r) := Aside.mk (List.take_append_drop r Y).symm
      have L1 : Aside ((Y.take r).length = r) := Aside.mk (by have := HJ.out; rw [List.length_take]; omega)
      have L2 : Aside ((Y.drop r).length = i) := Aside.mk (by have := HJ.out; rw [List.length_drop]; omega)
      have HR := Aside.mk hr
      have HBB := Aside.mk hb
      have HPM := Aside.mk hp
      have HLT := Aside.mk hlt
      clear hl hr hb hp hlt
      go_wp2_with (go_at_call 84; refine (swapRange_any base g n c i p bb _ P' X (Y.take r) (Y.drop r) Q' _ HI.out L2.out HP.out.symm (by have := HPM.out; have := HBB.out; have := HP.out; have := L1.out; omega) (by have h := HS.out.own; rw [YT.out] at h; simpa only [List.append_assoc] using h) hn).mono ?_; rintro e w2 ⟨rfl, hs2⟩; have HS := Aside.mk (HS.out.call hs2); clear hs2)
      refine ⟨⟨P', Y.drop r, Y.take r, X ++ Q', by rw [L2.out], by rw [L1.out], by rw [L2.out, HP.out]; exact HPM.out, by rw [L2.out]; exact hx, by rw [L1.out]; have := HR.out; have := HLT.out; omega, by have h := HS.out; simpa only [List.append_assoc] using h, ?_⟩, by simp [intOf]; omega⟩
      rw [← HE.out]
      conv => rhs; rw [YT.out]
      simp only [List.append_assoc]
    · have d1 : ((i : Int) != (j : Int)) = false := by simp; omega
      have HPM := Aside.mk hp
      have hij := Aside.mk heq
      clear hl hp heq
      go_wp2_with (go_at_call 84; refine (swapRange_any base g n c i p M _ P' X [] Y Q' _ HI.out (HJ.out.trans hij.out.symm) HP.out.symm (by have := HPM.out; have := HP.out; simp; omega) (by simpa using HS.out.own) hn).mono ?_; rintro e w2 ⟨rfl, hs2⟩; have HS := Aside.mk (HS.out.call hs2); clear hs2)
      go_end0
      exact ⟨rfl, by have h := HS.out; rw [List.append_nil, HE.out] at h; exact h⟩
    · have d1 : ((i : Int) != (j : Int)) = true := by simp; omega
      have d2 : decide ((j : Int) < (i : Int)) = true := decide_eq_true (by omega)
      have d3 : decide (j < i) = true := decide_eq_true (by omega)
      obtain ⟨r, hr⟩ : ∃ r, i = j + r := ⟨i - j, by omega⟩
      have m3 : (i : Int) - (j : Int) = (r : Int) := by omega
      have m4 := W3.out r (by omega)
      have XT : Aside (X = X.take j ++ X.drop j) := Aside.mk (List.take_append_drop j X).symm
      have L1 : Aside ((X.take j).length = j) := Aside.mk (by have := HI.out; rw [List.length_take]; omega)
      have L2 : Aside ((X.drop j).length = r) := Aside.mk (by have := HI.out; rw [List.length_drop]; omega)
      have HR := Aside.mk hr
      have HPM := Aside.mk hp
      have HLT := Aside.mk hgt
      clear hl hr hp hgt
      go_wp2_with (go_at_call 84; refine (swapRange_any base g n c j p M _ P' (X.take j) (X.drop j) Y Q' _ L1.out HJ.out HP.out.symm (by have := HPM.out; have := HP.out; have := L2.out; have := HR.out; omega) (by have h := HS.out.own; rw [XT.out] at h; simpa only [List.append_assoc] using h) hn).mono ?_; rintro e w2 ⟨rfl, hs2⟩; have HS := Aside.mk (HS.out.call hs2); clear hs2)
      refine ⟨⟨P' ++ Y, X.drop j, X.take j, Q', by rw [L2.out], by rw [L1.out], by rw [L2.out, List.length_append, HP.out, HJ.out]; have := HPM.out; have := HR.out; omega, by rw [L2.out]; have := HR.out; have := HLT.out; omega, by rw [L1.out]; exact hy, HS.out, ?_⟩, by simp [intOf]; omega⟩
      rw [← HE.out]
      conv => rhs; rw [XT.out]
      simp only [List.append_assoc]
end Go.Proofs.Ytlnnkkbcmidddaa
