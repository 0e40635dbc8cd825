/- The walk through DigestTells. -/
import Derived.Test.YtlpobpciiaofeaaDigS
import Derived.Test.YtlpobpciiaofeaaVerO
import Derived.Test.YtlpobpciiaofeaaPickN
namespace Go.Proofs.Ytlpobpciiaofeaa
open Go.RowKit
set_option maxRecDepth 100000
set_option maxHeartbeats 1000000 in
theorem digestTells_few (tag : Int) (A : Option Addr) (c : Nat) (l : List Rul) (B : Option Addr) (d : Nat) (vs : List Vr) (w : World) (ht : Fit tag) (hl : Rd rulD w A l.length l) (hF : ∀ r ∈ l, FitR8 r) (hnc : (A = none → c = 0) ∧ l.length ≤ c) (hv : Rd verD w B vs.length vs) (hG : ∀ v ∈ vs, FitV8 v) (hnd : (B = none → d = 0) ∧ vs.length ≤ d) (hfew : fewV vs = false) : Calls Try.prog 7 #[.int .i64 tag, .slice A l.length c, .slice B vs.length d] w fun e w' => e = .returned (.bool true) ∧ Below w.heap.size w w' := by
  have HL := Aside.mk hl; have HV := Aside.mk hv; have HT := Aside.mk ht; have HNC := Aside.mk hnc.1; have HTT := Aside.mk (fun v h => (hG v h).1); have hml := hl.max; have hmv := hv.max; clear hl hv ht hF hnc hG hnd
  have HFW := Aside.mk hfew
  clear hfew
  go_enter Try.func7, Try.ntmps7
  go_wp2_with (first | (go_at_call 23; refine (awake10_any _).mono ?_; rintro e w1 ⟨rfl, hb1⟩; have KB := Aside.mk hb1; clear hb1) | (go_at_call 24; refine (fewV_any _ _ _ _ (HV.out.below KB.out)).mono ?_; rw [HFW.out]; rintro e w2 ⟨rfl, rfl⟩))
  go_ret
  exact ⟨rfl, KB.out⟩
set_option maxHeartbeats 1000000 in
theorem digestTells_big (tag : Int) (A : Option Addr) (c : Nat) (l : List Rul) (B : Option Addr) (d : Nat) (vs : List Vr) (w : World) (ht : Fit tag) (hl : Rd rulD w A l.length l) (hF : ∀ r ∈ l, FitR8 r) (hnc : (A = none → c = 0) ∧ l.length ≤ c) (hv : Rd verD w B vs.length vs) (hG : ∀ v ∈ vs, FitV8 v) (hnd : (B = none → d = 0) ∧ vs.length ≤ d) (hfew : fewV vs = true) (h60 : ¬ l.length ≤ 60) : Calls Try.prog 7 #[.int .i64 tag, .slice A l.length c, .slice B vs.length d] w fun e w' => e = .returned (.bool true) ∧ Below w.heap.size w w' := by
  have HL := Aside.mk hl; have HV := Aside.mk hv; have HT := Aside.mk ht; have HNC := Aside.mk hnc.1; have HTT := Aside.mk (fun v h => (hG v h).1); have hml := hl.max; have hmv := hv.max; clear hl hv ht hF hnc hG hnd
  have HFW := Aside.mk hfew
  have d0 : decide ((60 : Int) < (l.length : Int)) = true := decide_eq_true (by omega)
  clear hfew h60
  go_enter Try.func7, Try.ntmps7
  go_wp2_with (first | (go_at_call 23; refine (awake10_any _).mono ?_; rintro e w1 ⟨rfl, hb1⟩; have KB := Aside.mk hb1; clear hb1) | (go_at_call 24; refine (fewV_any _ _ _ _ (HV.out.below KB.out)).mono ?_; rw [HFW.out]; rintro e w2 ⟨rfl, rfl⟩))
  go_ret
  exact ⟨rfl, KB.out⟩
set_option maxHeartbeats 2000000 in
theorem digestTells_main (tag : Int) (A : Option Addr) (c : Nat) (l : List Rul) (B : Option Addr) (d : Nat) (vs : List Vr) (w : World) (ht : Fit tag) (hl : Rd rulD w A l.length l) (hF : ∀ r ∈ l, FitR8 r) (hnc : (A = none → c = 0) ∧ l.length ≤ c) (hv : Rd verD w B vs.length vs) (hG : ∀ v ∈ vs, FitV8 v) (hnd : (B = none → d = 0) ∧ vs.length ≤ d) (hfew : fewV vs = true) (h60 : l.length ≤ 60) : Calls Try.prog 7 #[.int .i64 tag, .slice A l.length c, .slice B vs.length d] w fun e w' => e = .returned (.bool true) ∧ Below w.heap.size w w' := by
  have HL := Aside.mk hl; have HV := Aside.mk hv; have HT := Aside.mk ht; have HNC := Aside.mk hnc.1; have HTT := Aside.mk (fun v h => (hG v h).1); have hml := hl.max; have hmv := hv.max; clear hl hv ht hF hnc hG hnd
  have HFW := Aside.mk hfew
  have HL6 := Aside.mk h60
  have hs := hfew
  unfold fewV at hs
  simp only [Bool.and_eq_true, decide_eq_true_eq, List.all_eq_true] at hs
  have H20 := Aside.mk hs.1
  have H60 := Aside.mk hs.2
  have d0 : decide ((60 : Int) < (l.length : Int)) = false := decide_eq_false (by omega)
  obtain ⟨N, hN⟩ : ∃ N, ofP tag l = N := ⟨_, rfl⟩
  obtain ⟨M, hM⟩ : ∃ N, allP vs = N := ⟨_, rfl⟩
  have HNE := Aside.mk hN
  have HME := Aside.mk hM
  have en : (N == N) = true := by simp
  have em : (M == M) = true := by simp
  clear hfew hs hN hM h60
  go_enter Try.func7, Try.ntmps7
  go_wp2_with (first | (go_at_call 23; refine (awake10_any _).mono ?_; rintro e w1 ⟨rfl, hb1⟩; have KB := Aside.mk hb1; clear hb1) | (go_at_call 24; refine (fewV_any _ _ _ _ (HV.out.below KB.out)).mono ?_; rw [HFW.out]; rintro e w2 ⟨rfl, rfl⟩) | (go_at_call 25; refine (of_any tag l A c _ (HL.out.below KB.out) HNC.out HL6.out HT.out).mono ?_; rw [HNE.out]; rintro e w3 ⟨rfl, hb3⟩; have KB := Aside.mk (below_call KB.out hb3); clear hb3) | (go_at_call 26; refine (ofR_any tag l A c _ (HL.out.below KB.out) HL6.out HT.out).mono ?_; rw [HNE.out]; rintro e w3 ⟨rfl, hb3⟩; have KB := Aside.mk (below_call KB.out hb3); clear hb3) | (go_at_call 27; refine (all_any vs B d _ (HV.out.below KB.out) H20.out H60.out HTT.out).mono ?_; rw [HME.out]; rintro e w3 ⟨rfl, hb3⟩; have KB := Aside.mk (below_call KB.out hb3); clear hb3) | (go_at_call 28; refine (allR_any vs B d _ (HV.out.below KB.out) H20.out H60.out HTT.out).mono ?_; rw [HME.out]; rintro e w3 ⟨rfl, hb3⟩; have KB := Aside.mk (below_call KB.out hb3); clear hb3))
  go_ret
  exact ⟨rfl, KB.out⟩
theorem digestTells_walk (tag : Int) (A : Option Addr) (c : Nat) (l : List Rul) (B : Option Addr) (d : Nat) (vs : List Vr) (w : World) (ht : Fit tag) (hl : Rd rulD w A l.length l) (hF : ∀ r ∈ l, FitR8 r) (hnc : (A = none → c = 0) ∧ l.length ≤ c) (hv : Rd verD w B vs.length vs) (hG : ∀ v ∈ vs, FitV8 v) (hnd : (B = none → d = 0) ∧ vs.length ≤ d) : Calls Try.prog 7 #[.int .i64 tag, .slice A l.length c, .slice B vs.length d] w fun e w' => e = .returned (.bool true) ∧ Below w.heap.size w w' := by
  cases hfew : fewV vs
  · exact digestTells_few tag A c l B d vs w ht hl hF hnc hv hG hnd hfew
  by_cases h60 : l.length ≤ 60
  · exact digestTells_main tag A c l B d vs w ht hl hF hnc hv hG hnd hfew h60
  · exact digestTells_big tag A c l B d vs w ht hl hF hnc hv hG hnd hfew h60
end Go.Proofs.Ytlpobpciiaofeaa
