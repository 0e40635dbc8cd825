/- The walk through PickOnly. -/
import Derived.Test.YtihlhkadmmcgeaaSortK
import Derived.Test.YtihlhkadmmcgeaaPickQ
import Derived.Test.YtihlhkadmmcgeaaPickO
namespace Go.Proofs.Ytihlhkadmmcgeaa
open Go.RowKit
set_option maxRecDepth 100000

theorem fit_take {l : List Rul} {k : Nat} (h : k < l.length) (inn dst : Int) : (l.take (k + 1)).filter (fun r => fitsI r inn dst) = (l.take k).filter (fun r => fitsI r inn dst) ++ if fitsI l[k] inn dst = true then [l[k]] else [] := by
  rw [List.take_succ_eq_append_getElem h, List.filter_append]
  cases hf : fitsI l[k] inn dst with
  | false => rw [List.filter_cons_of_neg (by simp [hf])]; rfl
  | true => rw [List.filter_cons_of_pos (by simp [hf])]; rfl
theorem only_none {l : List Rul} {inn dst : Int} (h : eltB inn dst l = none) : firstI inn dst (l.filter fun r => fitsI r inn dst) = -1 ∧ (l.filter fun r => fitsI r inn dst) = [] := by
  constructor
  · rcases first_cases inn dst (l.filter fun r => fitsI r inn dst) with ⟨h1, -⟩ | ⟨j, b, -, -, -, h2⟩
    · exact h1
    · rw [eltB_only, h] at h2; cases h2
  · refine List.filter_eq_nil_iff.2 fun r hr => ?_
    rw [eltB_none h r hr]
    simp
set_option maxHeartbeats 4000000 in
theorem pickOnly_big (A : Option Addr) (c : Nat) (l : List Rul) (inn dst : Int) (w : World) (hl : Rd rulD w A l.length l) (hF : ∀ r ∈ l, FitR8 r) (hnc : A = none → c = 0) (hi : Fit inn) (hd : Fit dst) (h60 : ¬ l.length ≤ 60) : Calls Try.prog 7 #[.slice A l.length c, .int .i64 inn, .int .i64 dst] w fun e w' => e = .returned (.bool true) ∧ Below w.heap.size w w' := by
  have hmx := hl.max
  have d60 : decide ((60 : Int) < (l.length : Int)) = true := decide_eq_true (by omega)
  clear hl hF
  go_enter Try.func7, Try.ntmps7
  go_wp2_with (go_at_call 9; refine (awake08_any _).mono ?_; rintro e w1 ⟨rfl, hb1⟩; have KB := Aside.mk hb1; clear hb1)
  go_ret
  exact ⟨rfl, KB.out⟩
set_option maxHeartbeats 4000000 in
theorem pickOnly_main (A : Option Addr) (c : Nat) (l : List Rul) (inn dst : Int) (w : World) (hl : Rd rulD w A l.length l) (hF : ∀ r ∈ l, FitR8 r) (hnc : A = none → c = 0) (hi : Fit inn) (hd : Fit dst) (h60 : l.length ≤ 60) : Calls Try.prog 7 #[.slice A l.length c, .int .i64 inn, .int .i64 dst] w fun e w' => e = .returned (.bool true) ∧ Below w.heap.size w w' := by
  have hmx := hl.max
  have d60 : decide ((60 : Int) < (l.length : Int)) = false := decide_eq_false (by omega)
  have HL := Aside.mk hl
  have hq := eqRul
  clear hl hF
  go_enter Try.func7, Try.ntmps7
  go_wp2_with (go_at_call 9; refine (awake08_any _).mono ?_; rintro e w1 ⟨rfl, hb1⟩; have KB := Aside.mk hb1; clear hb1)
  go_loopw [8, 9] (fun v i wr => ∃ k : Nat, k ≤ l.length ∧ i = .int .i64 k ∧ Own rulF wr w.heap.size 34 v ((l.take k).filter fun r => fitsI r inn dst) ∧ Below w.heap.size w wr) (fun _ i _ => l.length - (intOf i).toNat)
  case atStart => exact ⟨0, Nat.zero_le _, rfl, Own.nil _ _ _ _, KB.out⟩
  case round =>
    clear KB
    obtain ⟨k, hk, rfl, hv, hb⟩ := hrel
    have KB := Aside.mk hb
    have KV := Aside.mk hv
    obtain ⟨VA, vc, rfl, -⟩ := hv.form
    by_cases hlt : k < l.length
    · obtain ⟨fb, fo, _, rfl, -⟩ := Row.at HL.out k hlt
      obtain ⟨-, p0, p1, p2, p3, p4, p5⟩ := rul_cells (c := c) HL.out hb hlt
      have ht := Aside.mk (fit_take hlt inn dst)
      have hvl := List.length_filter_le (fun r => fitsI r inn dst) (l.take k)
      rw [List.length_take] at hvl
      have HCC := Aside.mk (fun W (hb : Below w.heap.size w W) => (rul_cells (c := c) HL.out hb hlt).2)
      generalize (l.take k).filter (fun r => fitsI r inn dst) = V at *
      generalize l[k] = x at *
      clear hb hv
      cases hf : fitsI x inn dst
      · have HF := Aside.mk hf
        have HT := Aside.mk (show (l.take (k + 1)).filter (fun r => fitsI r inn dst) = V by rw [ht.out, hf]; simp)
        clear ht hf
        go_wp2_with (go_at_call 15; refine (fits_any x inn dst _).mono ?_; rw [HF.out]; rintro e w1 ⟨rfl, hb1⟩; have KV := Aside.mk (KV.out.below hb1); have KB := Aside.mk (below_call KB.out hb1); clear hb1)
        exact ⟨⟨k + 1, by omega, by go_num, by rw [HT.out]; exact KV.out, KB.out⟩, by simp [intOf]; omega⟩
      · have HF := Aside.mk hf
        have HT := Aside.mk (show (l.take (k + 1)).filter (fun r => fitsI r inn dst) = V ++ [x] by rw [ht.out, hf]; simp)
        clear ht hf
        go_wp2_with (first
          | (go_at_call 15; refine (fits_any x inn dst _).mono ?_; rw [HF.out]; rintro e w1 ⟨rfl, hb1⟩; have KV := Aside.mk (KV.out.below hb1); have KB := Aside.mk (below_call KB.out hb1); obtain ⟨p0, p1, p2, p3, p4, p5⟩ := HCC.out _ KB.out; clear hb1)
          | (at_builtin; refine wp_app1 (f := rulF) w.heap.size rfl _ _ _ _ _ _ rfl Try.underlying22 infoRul rfl (by decide) (.slice VA V.length vc) V x _ rfl rfl (by go_simp) KV.out (by have := KB.out.size; omega) (by omega) ?_; intro v2 w3 ho2 hg2 hat2; have KB := Aside.mk (below_own KB.out hg2 (fun b e => ⟨(KV.out.lt b e).1, (KV.out.lt b e).2⟩)); have KV1 := Aside.mk ho2; clear hg2 ho2 hat2))
        exact ⟨⟨k + 1, by omega, by go_num, by rw [HT.out]; exact KV1.out, KB.out⟩, by simp [intOf]; omega⟩
    · obtain rfl : k = l.length := by omega
      rw [List.take_length] at hv ⊢
      obtain ⟨VB, vd, e, -, hrv⟩ := hv.rd
      injection e with e1 e2 e3
      obtain rfl := e1
      obtain rfl := e3
      have RV := Aside.mk hrv
      have RL := Aside.mk (HL.out.below hb)
      have hvl := List.length_filter_le (fun r => fitsI r inn dst) l
      have hcs := first_cases inn dst l
      have hon := only_none (l := l) (inn := inn) (dst := dst)
      have heo := eltB_only (inn := inn) (dst := dst) l
      have hcm := first_cases inn dst (l.filter fun r => fitsI r inn dst)
      generalize hV : l.filter (fun r => fitsI r inn dst) = V at *
      clear hv hrv hb hV
      rcases hcs with ⟨h1, h2⟩ | ⟨j, b, h1, h2, h3, h4⟩
      · obtain ⟨h5, h6⟩ := hon h2
        subst h6
        have F1 := Aside.mk h1
        have F2 := Aside.mk h5
        clear hcm heo hon h1 h5
        go_wp2_with (first
          | (have hfl := HFL; clear hfl HFL; go_at_call 13; refine (first_any [] VA vc inn dst _ RV.out).mono ?_; rw [F2.out]; rintro e w3 ⟨rfl, hb3⟩; have KB := Aside.mk (below_call KB.out hb3); clear hb3)
          | (go_at_call 13; refine (first_any l A c inn dst _ RL.out).mono ?_; rw [F1.out]; rintro e w2 ⟨rfl, hb2⟩; have KB := Aside.mk (below_call KB.out hb2); have RV := Aside.mk (RV.out.below hb2); have HFL : Aside True := .mk trivial; clear hb2))
        go_ret
        exact ⟨rfl, KB.out⟩
      · rcases hcm with ⟨h5, h6⟩ | ⟨jm, bm, h5, h6, h7, h8⟩
        · rw [heo, h4] at h6; cases h6
        · rw [heo, h4] at h8
          injection h8 with h8
          subst h8
          have F1 := Aside.mk h1
          have F2 := Aside.mk h5
          have G1 := Aside.mk h3
          have G2 := Aside.mk h7
          have hq2 : ∀ w, (Op.equalIn 10000 34 (rulV b) (rulV b)).run Try.prog w = .ok true w := fun w => (eqRul w b b).trans (by rw [decide_eq_true rfl])
          clear hon heo h1 h5 hq h3 h7 h4
          go_wp2_with (first
            | (have hfl := HFL; clear hfl HFL; go_at_call 13; refine (first_any V VA vc inn dst _ RV.out).mono ?_; rw [F2.out]; rintro e w3 ⟨rfl, hb3⟩; have KB := Aside.mk (below_call KB.out hb3); have RV := Aside.mk (RV.out.below hb3); have RL := Aside.mk (RL.out.below hb3); clear hb3)
            | (go_at_call 13; refine (first_any l A c inn dst _ RL.out).mono ?_; rw [F1.out]; rintro e w2 ⟨rfl, hb2⟩; have KB := Aside.mk (below_call KB.out hb2); have RV := Aside.mk (RV.out.below hb2); have RL := Aside.mk (RL.out.below hb2); have HFL : Aside True := .mk trivial; clear hb2))
          obtain ⟨b1, o1, _, rfl, -⟩ := Row.at RL.out j h2
          obtain ⟨b2, o2, _, rfl, -⟩ := Row.at RV.out jm h6
          obtain ⟨-, p0, p1, p2, p3, p4, p5⟩ := rul_cells (c := c) RL.out (Below.refl _ _) h2
          obtain ⟨-, q0, q1, q2, q3, q4, q5⟩ := rul_cells (c := vc) RV.out (Below.refl _ _) h6
          have e1 := (List.getElem?_eq_some_iff.1 G1.out).2
          have e2 := (List.getElem?_eq_some_iff.1 G2.out).2
          rw [e1] at p0 p1 p2 p3 p4 p5
          rw [e2] at q0 q1 q2 q3 q4 q5
          clear e1 e2
          go_quiet (fail)
          go_wp2
          go_ret
          exact ⟨rfl, below_drewN KB.out _⟩
theorem pickOnly_walk (A : Option Addr) (c : Nat) (l : List Rul) (inn dst : Int) (w : World) (hl : Rd rulD w A l.length l) (hF : ∀ r ∈ l, FitR8 r) (hnc : A = none → c = 0) (hi : Fit inn) (hd : Fit dst) : Calls Try.prog 7 #[.slice A l.length c, .int .i64 inn, .int .i64 dst] w fun e w' => e = .returned (.bool true) ∧ Below w.heap.size w w' := by
  by_cases h60 : l.length ≤ 60
  · exact pickOnly_main A c l inn dst w hl hF hnc hi hd h60
  · exact pickOnly_big A c l inn dst w hl hF hnc hi hd h60
end Go.Proofs.Ytihlhkadmmcgeaa
