/- The walk through ConfTells. -/
import Derived.Test.YtlnnkkbcmidddaaConfN
import Derived.Test.YtlnnkkbcmidddaaConfO
import Derived.Test.YtlnnkkbcmidddaaOpens
namespace Go.Proofs.Ytlnnkkbcmidddaa
open Go.RowKit
set_option maxRecDepth 100000
theorem fewL_small {cs : List (List Rul)} (h : fewL cs = true) : ∀ l ∈ cs, l.length ≤ 60 := fun l hl => by
  unfold fewL at h
  simp at h
  exact h.2 l hl
set_option maxHeartbeats 1000000 in
theorem confTells_fa (s p : Int) (A : Option Addr) (c : Nat) (ls : List Lnk) (B : Option Addr) (d : Nat) (x : List (List Rul)) (C : Option Addr) (e : Nat) (y : List (List Rul)) (sw : Int) (w : World) (hl : Rd lnkD w A ls.length ls) (hT : FitT s p c ls) (hx : Rd confD w B x.length x) (hFx : ∀ l ∈ x, ∀ r ∈ l, FitR r) (hdx : x.length ≤ d) (hy : Rd confD w C y.length y) (hFy : ∀ l ∈ y, ∀ r ∈ l, FitR r) (hdy : y.length ≤ e) (hs : Fit sw) (hfa : fewL x = false) (hfb : fewL y = fewL y) : Calls Try.prog 7 #[.agg #[.int .i64 s, .int .i64 p, .slice A ls.length c], .slice B x.length d, .slice C y.length e, .int .i64 sw] w fun e w' => e = .returned (.bool true) ∧ Below w.heap.size w w' := by
  have HL := Aside.mk hl; have HA := Aside.mk hx; have HB := Aside.mk hy; have hmx := hl.max; have hmy := hx.max; have hmz := hy.max; have KB := Aside.mk (below_alloc (Below.refl _ w) (.cells #[.int .i64 s, .int .i64 p, .slice A ls.length c] 24)); have HX := Aside.mk (heapN w (.cells #[.int .i64 s, .int .i64 p, .slice A ls.length c] 24) rfl); clear hl hT hx hFx hdx hy hFy hdy
  obtain ⟨t, ht⟩ : ∃ t, fewL y = t := ⟨_, rfl⟩
  rw [ht] at hfb
  have hfb := ht
  clear ht
  have HFA := Aside.mk hfa; have HFB := Aside.mk hfb; clear hfa hfb
  cases t
  · go_enter Try.func7, Try.ntmps7; go_wp2_with (first | (go_at_call 16; refine (awake12_any _).mono ?_; rintro e1 w1 ⟨rfl, hb1⟩; have KB := Aside.mk (below_call KB.out hb1); have HX := Aside.mk (blk_keep HX.out hb1); have hlx := blk_lt HX.out; have t0 := blk_cell HX.out 0; have t1 := blk_cell HX.out 1; have t2 := blk_cell HX.out 2; simp at t0 t1 t2; clear hb1) | (have hfl := HFL; go_at_call 19; clear hfl HFL; refine (few_any y C e _ (HB.out.below KB.out)).mono ?_; rw [HFB.out]; rintro e2 w2 ⟨rfl, rfl⟩) | (go_at_call 19; refine (few_any x B d _ (HA.out.below KB.out)).mono ?_; rw [HFA.out]; rintro e2 w2 ⟨rfl, hw2⟩; rw [hw2]; clear hw2; have HFL : Aside True := .mk trivial)); go_ret; exact ⟨rfl, KB.out⟩
  · go_enter Try.func7, Try.ntmps7; go_wp2_with (first | (go_at_call 16; refine (awake12_any _).mono ?_; rintro e1 w1 ⟨rfl, hb1⟩; have KB := Aside.mk (below_call KB.out hb1); have HX := Aside.mk (blk_keep HX.out hb1); have hlx := blk_lt HX.out; have t0 := blk_cell HX.out 0; have t1 := blk_cell HX.out 1; have t2 := blk_cell HX.out 2; simp at t0 t1 t2; clear hb1) | (have hfl := HFL; go_at_call 19; clear hfl HFL; refine (few_any y C e _ (HB.out.below KB.out)).mono ?_; rw [HFB.out]; rintro e2 w2 ⟨rfl, rfl⟩) | (go_at_call 19; refine (few_any x B d _ (HA.out.below KB.out)).mono ?_; rw [HFA.out]; rintro e2 w2 ⟨rfl, hw2⟩; rw [hw2]; clear hw2; have HFL : Aside True := .mk trivial)); go_ret; exact ⟨rfl, KB.out⟩
set_option maxHeartbeats 1000000 in
theorem confTells_fb (s p : Int) (A : Option Addr) (c : Nat) (ls : List Lnk) (B : Option Addr) (d : Nat) (x : List (List Rul)) (C : Option Addr) (e : Nat) (y : List (List Rul)) (sw : Int) (w : World) (hl : Rd lnkD w A ls.length ls) (hT : FitT s p c ls) (hx : Rd confD w B x.length x) (hFx : ∀ l ∈ x, ∀ r ∈ l, FitR r) (hdx : x.length ≤ d) (hy : Rd confD w C y.length y) (hFy : ∀ l ∈ y, ∀ r ∈ l, FitR r) (hdy : y.length ≤ e) (hs : Fit sw) (hfa : fewL x = true) (hfb : fewL y = false) : Calls Try.prog 7 #[.agg #[.int .i64 s, .int .i64 p, .slice A ls.length c], .slice B x.length d, .slice C y.length e, .int .i64 sw] w fun e w' => e = .returned (.bool true) ∧ Below w.heap.size w w' := by
  have HL := Aside.mk hl; have HA := Aside.mk hx; have HB := Aside.mk hy; have hmx := hl.max; have hmy := hx.max; have hmz := hy.max; have KB := Aside.mk (below_alloc (Below.refl _ w) (.cells #[.int .i64 s, .int .i64 p, .slice A ls.length c] 24)); have HX := Aside.mk (heapN w (.cells #[.int .i64 s, .int .i64 p, .slice A ls.length c] 24) rfl); clear hl hT hx hFx hdx hy hFy hdy
  have HFA := Aside.mk hfa; have HFB := Aside.mk hfb; clear hfa hfb
  go_enter Try.func7, Try.ntmps7; go_wp2_with (first | (go_at_call 16; refine (awake12_any _).mono ?_; rintro e1 w1 ⟨rfl, hb1⟩; have KB := Aside.mk (below_call KB.out hb1); have HX := Aside.mk (blk_keep HX.out hb1); have hlx := blk_lt HX.out; have t0 := blk_cell HX.out 0; have t1 := blk_cell HX.out 1; have t2 := blk_cell HX.out 2; simp at t0 t1 t2; clear hb1) | (have hfl := HFL; go_at_call 19; clear hfl HFL; refine (few_any y C e _ (HB.out.below KB.out)).mono ?_; rw [HFB.out]; rintro e2 w2 ⟨rfl, rfl⟩) | (go_at_call 19; refine (few_any x B d _ (HA.out.below KB.out)).mono ?_; rw [HFA.out]; rintro e2 w2 ⟨rfl, hw2⟩; rw [hw2]; clear hw2; have HFL : Aside True := .mk trivial)); go_ret; exact ⟨rfl, KB.out⟩
set_option maxHeartbeats 1000000 in
theorem confTells_big (s p : Int) (A : Option Addr) (c : Nat) (ls : List Lnk) (B : Option Addr) (d : Nat) (x : List (List Rul)) (C : Option Addr) (e : Nat) (y : List (List Rul)) (sw : Int) (w : World) (hl : Rd lnkD w A ls.length ls) (hT : FitT s p c ls) (hx : Rd confD w B x.length x) (hFx : ∀ l ∈ x, ∀ r ∈ l, FitR r) (hdx : x.length ≤ d) (hy : Rd confD w C y.length y) (hFy : ∀ l ∈ y, ∀ r ∈ l, FitR r) (hdy : y.length ≤ e) (hs : Fit sw) (hfa : fewL x = true) (hfb : fewL y = true) (h60 : ¬ ls.length ≤ 60) : Calls Try.prog 7 #[.agg #[.int .i64 s, .int .i64 p, .slice A ls.length c], .slice B x.length d, .slice C y.length e, .int .i64 sw] w fun e w' => e = .returned (.bool true) ∧ Below w.heap.size w w' := by
  have HL := Aside.mk hl; have HA := Aside.mk hx; have HB := Aside.mk hy; have hmx := hl.max; have hmy := hx.max; have hmz := hy.max; have KB := Aside.mk (below_alloc (Below.refl _ w) (.cells #[.int .i64 s, .int .i64 p, .slice A ls.length c] 24)); have HX := Aside.mk (heapN w (.cells #[.int .i64 s, .int .i64 p, .slice A ls.length c] 24) rfl); clear hl hT hx hFx hdx hy hFy hdy
  have HFA := Aside.mk hfa; have HFB := Aside.mk hfb; clear hfa hfb
  have d0 : decide ((60 : Int) < (ls.length : Int)) = true := decide_eq_true (by omega)
  clear h60
  go_enter Try.func7, Try.ntmps7; go_wp2_with (first | (go_at_call 16; refine (awake12_any _).mono ?_; rintro e1 w1 ⟨rfl, hb1⟩; have KB := Aside.mk (below_call KB.out hb1); have HX := Aside.mk (blk_keep HX.out hb1); have hlx := blk_lt HX.out; have t0 := blk_cell HX.out 0; have t1 := blk_cell HX.out 1; have t2 := blk_cell HX.out 2; simp at t0 t1 t2; clear hb1) | (have hfl := HFL; go_at_call 19; clear hfl HFL; refine (few_any y C e _ (HB.out.below KB.out)).mono ?_; rw [HFB.out]; rintro e2 w2 ⟨rfl, rfl⟩) | (go_at_call 19; refine (few_any x B d _ (HA.out.below KB.out)).mono ?_; rw [HFA.out]; rintro e2 w2 ⟨rfl, hw2⟩; rw [hw2]; clear hw2; have HFL : Aside True := .mk trivial)); go_ret; exact ⟨rfl, KB.out⟩
set_option maxHeartbeats 2000000 in
theorem confTells_main (s p : Int) (A : Option Addr) (c : Nat) (ls : List Lnk) (B : Option Addr) (d : Nat) (x : List (List Rul)) (C : Option Addr) (e : Nat) (y : List (List Rul)) (sw : Int) (w : World) (hl : Rd lnkD w A ls.length ls) (hT : FitT s p c ls) (hx : Rd confD w B x.length x) (hFx : ∀ l ∈ x, ∀ r ∈ l, FitR r) (hdx : x.length ≤ d) (hy : Rd confD w C y.length y) (hFy : ∀ l ∈ y, ∀ r ∈ l, FitR r) (hdy : y.length ≤ e) (hs : Fit sw) (hfa : fewL x = true) (hfb : fewL y = true) (h60 : ls.length ≤ 60) : Calls Try.prog 7 #[.agg #[.int .i64 s, .int .i64 p, .slice A ls.length c], .slice B x.length d, .slice C y.length e, .int .i64 sw] w fun e w' => e = .returned (.bool true) ∧ Below w.heap.size w w' := by
  have HL := Aside.mk hl; have HA := Aside.mk hx; have HB := Aside.mk hy; have hmx := hl.max; have hmy := hx.max; have hmz := hy.max; have KB := Aside.mk (below_alloc (Below.refl _ w) (.cells #[.int .i64 s, .int .i64 p, .slice A ls.length c] 24)); have HX := Aside.mk (heapN w (.cells #[.int .i64 s, .int .i64 p, .slice A ls.length c] 24) rfl); clear hl hT hx hFx hdx hy hFy hdy
  have HS := Aside.mk (fewL_small hfa)
  have HU := Aside.mk (fewL_small hfb)
  have HFA := Aside.mk hfa; have HFB := Aside.mk hfb; clear hfa hfb
  have d0 : decide ((60 : Int) < (ls.length : Int)) = false := decide_eq_false (by omega)
  obtain ⟨M, hM⟩ : ∃ t, mayC s p ls x = t := ⟨_, rfl⟩
  obtain ⟨N, hN⟩ : ∃ t, sameC x y = t := ⟨_, rfl⟩
  obtain ⟨K, hK⟩ : ∃ t : Int, (mostC x : Int) = t := ⟨_, rfl⟩
  obtain ⟨L, hL⟩ : ∃ t, atL x sw = t := ⟨_, rfl⟩
  have em : (M == M) = true := by simp
  have en : (N == N) = true := by simp
  have ek : (K == K) = true := by simp
  have HM := Aside.mk hM
  have HN := Aside.mk hN
  have HK := Aside.mk hK
  have HLL := Aside.mk hL
  clear hM hN hK hL h60
  go_enter Try.func7, Try.ntmps7
  go_wp2_with (first
    | (go_at_call 16; refine (awake12_any _).mono ?_; rintro e1 w1 ⟨rfl, hb1⟩; have KB := Aside.mk (below_call KB.out hb1); have HX := Aside.mk (blk_keep HX.out hb1); have hlx := blk_lt HX.out; have t0 := blk_cell HX.out 0; have t1 := blk_cell HX.out 1; have t2 := blk_cell HX.out 2; simp at t0 t1 t2; clear hb1) | (have hfl := HFL; go_at_call 19; clear hfl HFL; refine (few_any y C e _ (HB.out.below KB.out)).mono ?_; rw [HFB.out]; rintro e2 w2 ⟨rfl, rfl⟩) | (go_at_call 19; refine (few_any x B d _ (HA.out.below KB.out)).mono ?_; rw [HFA.out]; rintro e2 w2 ⟨rfl, hw2⟩; rw [hw2]; clear hw2; have HFL : Aside True := .mk trivial)
    | (go_at_call 20; refine (confMayR_any s p A c ls x B d _ (HL.out.below KB.out) (HA.out.below KB.out)).mono ?_; rw [HM.out]; rintro e3 w3 ⟨rfl, hb1⟩; have KB := Aside.mk (below_call KB.out hb1); have HX := Aside.mk (blk_keep HX.out hb1); clear hb1 t0 t1 t2 hlx)
    | (go_at_call 21; refine (confSameR_any x y B C d e _ (HA.out.below KB.out) (HB.out.below KB.out) (fun l hl => Nat.le_trans (HS.out l hl) (by omega)) (fun l hl => Nat.le_trans (HU.out l hl) (by omega))).mono ?_; rw [HN.out]; rintro e4 w4 ⟨rfl, hb1⟩; have KB := Aside.mk (below_call KB.out hb1); have HX := Aside.mk (blk_keep HX.out hb1); clear hb1)
    | (go_at_call 13; refine (at_any x B d sw _ (HA.out.below KB.out) (fun l hl => Nat.le_trans (Nat.mul_le_mul_right 48 (HS.out l hl)) (by omega))).mono ?_; rw [HLL.out]; rintro e5 w5 ⟨v5, rfl, ho, hb1⟩; obtain ⟨A5, k5, rfl, -, hr5⟩ := ho.rd; have R5 := Aside.mk hr5; have KB := Aside.mk (below_call KB.out hb1); have HX := Aside.mk (blk_keep HX.out hb1); clear hb1 ho hr5)
    | (go_at_call 23; refine (atR_any x B d sw _ (HA.out.below KB.out) (fun l hl => Nat.le_trans (Nat.mul_le_mul_right 48 (HS.out l hl)) (by omega))).mono ?_; rw [HLL.out]; rintro e6 w6 ⟨v6, rfl, ho, hb1⟩; obtain ⟨A6, k6, rfl, -, hr6⟩ := ho.rd; have R6 := Aside.mk hr6; have R5 := Aside.mk (R5.out.below hb1); have KB := Aside.mk (below_call KB.out hb1); have HX := Aside.mk (blk_keep HX.out hb1); clear hb1 ho hr6)
    | (go_at_call 22; refine (same08_any L L A5 A6 k5 k6 _ R5.out R6.out).mono ?_; rw [decide_eq_true rfl]; rintro e7 w7 ⟨rfl, hb1⟩; have KB := Aside.mk (below_call KB.out hb1); have HX := Aside.mk (blk_keep HX.out hb1); have hlx := blk_lt HX.out; have t0 := blk_cell HX.out 0; have t1 := blk_cell HX.out 1; have t2 := blk_cell HX.out 2; simp at t0 t1 t2; clear hb1)
    | (go_at_call 12; refine (confMay_any s p A c ls x B d _ (HL.out.below KB.out) (HA.out.below KB.out)).mono ?_; rw [HM.out]; rintro e8 w8 ⟨rfl, hb1⟩; have KB := Aside.mk (below_call KB.out hb1); clear hb1 HX t0 t1 t2 hlx)
    | (go_at_call 17; refine (confSame_any x y B C d e _ (HA.out.below KB.out) (HB.out.below KB.out) (fun l hl => Nat.le_trans (HS.out l hl) (by omega)) (fun l hl => Nat.le_trans (HU.out l hl) (by omega))).mono ?_; rw [HN.out]; rintro e9 w9 ⟨rfl, hb1⟩; have KB := Aside.mk (below_call KB.out hb1); clear hb1)
    | (go_at_call 18; refine (confMost_any x B d _ (HA.out.below KB.out)).mono ?_; rw [HK.out]; rintro e10 w10 ⟨rfl, hw⟩; rw [hw]; clear hw)
    | (go_at_call 24; refine (confMostR_any x B d _ (HA.out.below KB.out)).mono ?_; rw [HK.out]; rintro e11 w11 ⟨rfl, hw⟩; rw [hw]; clear hw))
  go_ret
  exact ⟨rfl, KB.out⟩
theorem confTells_walk (s p : Int) (A : Option Addr) (c : Nat) (ls : List Lnk) (B : Option Addr) (d : Nat) (x : List (List Rul)) (C : Option Addr) (e : Nat) (y : List (List Rul)) (sw : Int) (w : World) (hl : Rd lnkD w A ls.length ls) (hT : FitT s p c ls) (hx : Rd confD w B x.length x) (hFx : ∀ l ∈ x, ∀ r ∈ l, FitR r) (hdx : x.length ≤ d) (hy : Rd confD w C y.length y) (hFy : ∀ l ∈ y, ∀ r ∈ l, FitR r) (hdy : y.length ≤ e) (hs : Fit sw) : Calls Try.prog 7 #[.agg #[.int .i64 s, .int .i64 p, .slice A ls.length c], .slice B x.length d, .slice C y.length e, .int .i64 sw] w fun e w' => e = .returned (.bool true) ∧ Below w.heap.size w w' := by
  cases hfa : fewL x
  · exact confTells_fa s p A c ls B d x C e y sw w hl hT hx hFx hdx hy hFy hdy hs hfa rfl
  cases hfb : fewL y
  · exact confTells_fb s p A c ls B d x C e y sw w hl hT hx hFx hdx hy hFy hdy hs hfa hfb
  by_cases h60 : ls.length ≤ 60
  · exact confTells_main s p A c ls B d x C e y sw w hl hT hx hFx hdx hy hFy hdy hs hfa hfb h60
  · exact confTells_big s p A c ls B d x C e y sw w hl hT hx hFx hdx hy hFy hdy hs hfa hfb h60
end Go.Proofs.Ytlnnkkbcmidddaa
