/- The walk through LinksTell. -/
import Derived.Test.YtajmchdmophdjaaLinkC
import Derived.Test.YtajmchdmophdjaaLinkO
namespace Go.Proofs.Ytajmchdmophdjaa
open Go.RowKit
set_option maxRecDepth 100000

/-- Few rules lie in no more memory than there is. -/
theorem fewS_small {sws : List Swt} (h : fewS sws = true) : ∀ x ∈ sws, ∀ v ∈ x.vs, v.l.length * 48 ≤ 140737488355328 := by
  intro x hx v hv
  unfold fewS at h
  simp only [Bool.and_eq_true, List.all_eq_true] at h
  have h2 := h.2 x hx
  unfold fewV at h2
  simp at h2
  have h3 := h2.2 v hv
  omega

set_option maxHeartbeats 4000000 in
theorem linksTell_few (s p : Int) (A : Option Addr) (c : Nat) (ls : List Lnk) (SA : Option Addr) (sc : Nat) (sws : List Swt) (FA : Option Addr) (fc : Nat) (fs : List Fly) (tick : Int) (w : World) (hl : Rd lnkD w A ls.length ls) (hT : FitT s p c ls) (hs : Rd swD w SA sws.length sws) (hS : ∀ x ∈ sws, FitSw x) (hsc : sws.length ≤ sc) (hf : Rd fliesD w FA fs.length fs) (hF : ∀ x ∈ fs, FitF x) (hfc : fs.length ≤ fc) (hM : Fit tick) (hfew : fewS sws = false) : Calls Try.prog 3 #[.agg #[.int .i64 s, .int .i64 p, .slice A ls.length c], .slice SA sws.length sc, .slice FA fs.length fc, .int .i64 tick] w fun e w' => e = .returned (.bool true) ∧ Below w.heap.size w w' := by
  have HL := Aside.mk (hl.below (below_alloc (Below.refl _ w) (.cells #[.int .i64 s, .int .i64 p, .slice A ls.length c] 24)))
  have HS := Aside.mk (hs.below (below_alloc (Below.refl _ w) (.cells #[.int .i64 s, .int .i64 p, .slice A ls.length c] 24)))
  have HF := Aside.mk (hf.below (below_alloc (Below.refl _ w) (.cells #[.int .i64 s, .int .i64 p, .slice A ls.length c] 24)))
  have KB := Aside.mk (below_alloc (Below.refl _ w) (.cells #[.int .i64 s, .int .i64 p, .slice A ls.length c] 24))
  have HX := Aside.mk (heap_new w (.cells #[.int .i64 s, .int .i64 p, .slice A ls.length c] 24) rfl)
  clear hl hs hf hT hS hF hM
  go_enter Try.func3, Try.ntmps3
  go_wp2_with (first
    | (go_at_call 7; refine (awake19_any _).mono ?_; rintro e w1 ⟨rfl, hb1⟩; have HL := Aside.mk (HL.out.below hb1); have HS := Aside.mk (HS.out.below hb1); have HF := Aside.mk (HF.out.below hb1); have KB := Aside.mk (below_call KB.out hb1); have HX := Aside.mk (blk_keep HX.out hb1); have c0 := blk_cell HX.out 0; have c1 := blk_cell HX.out 1; have c2 := blk_cell HX.out 2; simp at c0 c1 c2; have hsz0 := blk_lt HX.out; clear hb1)
    | (go_at_call 8; refine (fewS_any _ _ _ _ HS.out).mono ?_; rw [hfew]; rintro e w2 ⟨rfl, rfl⟩))
  go_ret
  exact ⟨rfl, KB.out⟩
set_option maxHeartbeats 4000000 in
theorem linksTell_big (s p : Int) (A : Option Addr) (c : Nat) (ls : List Lnk) (SA : Option Addr) (sc : Nat) (sws : List Swt) (FA : Option Addr) (fc : Nat) (fs : List Fly) (tick : Int) (w : World) (hl : Rd lnkD w A ls.length ls) (hT : FitT s p c ls) (hs : Rd swD w SA sws.length sws) (hS : ∀ x ∈ sws, FitSw x) (hsc : sws.length ≤ sc) (hf : Rd fliesD w FA fs.length fs) (hF : ∀ x ∈ fs, FitF x) (hfc : fs.length ≤ fc) (hM : Fit tick) (hfew : fewS sws = true) (h60 : ¬ (ls.length ≤ 60 ∧ fs.length ≤ 100)) : Calls Try.prog 3 #[.agg #[.int .i64 s, .int .i64 p, .slice A ls.length c], .slice SA sws.length sc, .slice FA fs.length fc, .int .i64 tick] w fun e w' => e = .returned (.bool true) ∧ Below w.heap.size w w' := by
  have hmx := hl.max
  have hmf := hf.max
  have HL := Aside.mk (hl.below (below_alloc (Below.refl _ w) (.cells #[.int .i64 s, .int .i64 p, .slice A ls.length c] 24)))
  have HS := Aside.mk (hs.below (below_alloc (Below.refl _ w) (.cells #[.int .i64 s, .int .i64 p, .slice A ls.length c] 24)))
  have HF := Aside.mk (hf.below (below_alloc (Below.refl _ w) (.cells #[.int .i64 s, .int .i64 p, .slice A ls.length c] 24)))
  have KB := Aside.mk (below_alloc (Below.refl _ w) (.cells #[.int .i64 s, .int .i64 p, .slice A ls.length c] 24))
  have HX := Aside.mk (heap_new w (.cells #[.int .i64 s, .int .i64 p, .slice A ls.length c] 24) rfl)
  clear hl hs hf hT hS hF hM
  by_cases h6 : ls.length ≤ 60
  · have d60 : decide ((60 : Int) < (ls.length : Int)) = false := decide_eq_false (by omega)
    have d100 : decide ((100 : Int) < (fs.length : Int)) = true := decide_eq_true (by omega)
    go_enter Try.func3, Try.ntmps3
    go_wp2_with (first
      | (go_at_call 7; refine (awake19_any _).mono ?_; rintro e w1 ⟨rfl, hb1⟩; have HL := Aside.mk (HL.out.below hb1); have HS := Aside.mk (HS.out.below hb1); have HF := Aside.mk (HF.out.below hb1); have KB := Aside.mk (below_call KB.out hb1); have HX := Aside.mk (blk_keep HX.out hb1); have c0 := blk_cell HX.out 0; have c1 := blk_cell HX.out 1; have c2 := blk_cell HX.out 2; simp at c0 c1 c2; have hsz0 := blk_lt HX.out; clear hb1)
      | (go_at_call 8; refine (fewS_any _ _ _ _ HS.out).mono ?_; rw [hfew]; rintro e w2 ⟨rfl, rfl⟩))
    go_ret
    exact ⟨rfl, KB.out⟩
  · have d60 : decide ((60 : Int) < (ls.length : Int)) = true := decide_eq_true (by omega)
    go_enter Try.func3, Try.ntmps3
    go_wp2_with (first
      | (go_at_call 7; refine (awake19_any _).mono ?_; rintro e w1 ⟨rfl, hb1⟩; have HL := Aside.mk (HL.out.below hb1); have HS := Aside.mk (HS.out.below hb1); have HF := Aside.mk (HF.out.below hb1); have KB := Aside.mk (below_call KB.out hb1); have HX := Aside.mk (blk_keep HX.out hb1); have c0 := blk_cell HX.out 0; have c1 := blk_cell HX.out 1; have c2 := blk_cell HX.out 2; simp at c0 c1 c2; have hsz0 := blk_lt HX.out; clear hb1)
      | (go_at_call 8; refine (fewS_any _ _ _ _ HS.out).mono ?_; rw [hfew]; rintro e w2 ⟨rfl, rfl⟩))
    go_ret
    exact ⟨rfl, KB.out⟩
set_option maxHeartbeats 4000000 in
theorem linksTell_main (s p : Int) (A : Option Addr) (c : Nat) (ls : List Lnk) (SA : Option Addr) (sc : Nat) (sws : List Swt) (FA : Option Addr) (fc : Nat) (fs : List Fly) (tick : Int) (w : World) (hl : Rd lnkD w A ls.length ls) (hT : FitT s p c ls) (hs : Rd swD w SA sws.length sws) (hS : ∀ x ∈ sws, FitSw x) (hsc : sws.length ≤ sc) (hf : Rd fliesD w FA fs.length fs) (hF : ∀ x ∈ fs, FitF x) (hfc : fs.length ≤ fc) (hM : Fit tick) (hfew : fewS sws = true) (h60 : ls.length ≤ 60) (h100 : fs.length ≤ 100) : Calls Try.prog 3 #[.agg #[.int .i64 s, .int .i64 p, .slice A ls.length c], .slice SA sws.length sc, .slice FA fs.length fc, .int .i64 tick] w fun e w' => e = .returned (.bool true) ∧ Below w.heap.size w w' := by
  have hmx := hl.max
  have hmf := hf.max
  have HT := Aside.mk (fun x hx => (hF x hx).2.2.2.1 : ∀ x ∈ fs, Fit x.ttl)
  have HZ := Aside.mk (fewS_small hfew)
  have HL := Aside.mk (hl.below (below_alloc (Below.refl _ w) (.cells #[.int .i64 s, .int .i64 p, .slice A ls.length c] 24)))
  have HS := Aside.mk (hs.below (below_alloc (Below.refl _ w) (.cells #[.int .i64 s, .int .i64 p, .slice A ls.length c] 24)))
  have HF := Aside.mk (hf.below (below_alloc (Below.refl _ w) (.cells #[.int .i64 s, .int .i64 p, .slice A ls.length c] 24)))
  have KB := Aside.mk (below_alloc (Below.refl _ w) (.cells #[.int .i64 s, .int .i64 p, .slice A ls.length c] 24))
  have HX := Aside.mk (heap_new w (.cells #[.int .i64 s, .int .i64 p, .slice A ls.length c] 24) rfl)
  clear hl hs hf hT hS hF hM
  have d60 : decide ((60 : Int) < (ls.length : Int)) = false := decide_eq_false (by omega)
  have d100 : decide ((100 : Int) < (fs.length : Int)) = false := decide_eq_false (by omega)
  go_enter Try.func3, Try.ntmps3
  go_wp2_with (first
    | (go_at_call 7; refine (awake19_any _).mono ?_; rintro e w1 ⟨rfl, hb1⟩; have HL := Aside.mk (HL.out.below hb1); have HS := Aside.mk (HS.out.below hb1); have HF := Aside.mk (HF.out.below hb1); have KB := Aside.mk (below_call KB.out hb1); have HX := Aside.mk (blk_keep HX.out hb1); have c0 := blk_cell HX.out 0; have c1 := blk_cell HX.out 1; have c2 := blk_cell HX.out 2; simp at c0 c1 c2; have hsz0 := blk_lt HX.out; clear hb1)
    | (go_at_call 8; refine (fewS_any _ _ _ _ HS.out).mono ?_; rw [hfew]; rintro e w2 ⟨rfl, rfl⟩)
    | (go_at_call 9; refine (links_any s p A c ls sws SA sc fs FA fc tick _ HL.out HS.out HF.out HT.out (by omega)).mono ?_; rintro e w3 ⟨v1, u1, rfl, ho1, ho2, hb1⟩; obtain ⟨A1, k1, rfl, -, hr1⟩ := ho1.rd; obtain ⟨A2, k2, rfl, -, hr2⟩ := ho2.rd; have R1 := Aside.mk hr1; have R2 := Aside.mk hr2; clear ho1 ho2 hr1 hr2; have HL := Aside.mk (HL.out.below hb1); have HS := Aside.mk (HS.out.below hb1); have HF := Aside.mk (HF.out.below hb1); have KB := Aside.mk (below_call KB.out hb1); have HX := Aside.mk (blk_keep HX.out hb1); have c0 := blk_cell HX.out 0; have c1 := blk_cell HX.out 1; have c2 := blk_cell HX.out 2; simp at c0 c1 c2; have hsz0 := blk_lt HX.out; clear hb1)
    | (go_at_call 10; refine (linksR_any s p A c ls sws SA sc fs FA fc tick _ HL.out HS.out HF.out HZ.out HT.out (by omega)).mono ?_; rintro e w4 ⟨v2, u2, rfl, ho1, ho2, hb1⟩; obtain ⟨A3, k3, rfl, -, hr3⟩ := ho1.rd; obtain ⟨A4, k4, rfl, -, hr4⟩ := ho2.rd; have R1 := Aside.mk (R1.out.below hb1); have R2 := Aside.mk (R2.out.below hb1); have R3 := Aside.mk hr3; have R4 := Aside.mk hr4; clear ho1 ho2 hr3 hr4; have HL := Aside.mk (HL.out.below hb1); have HS := Aside.mk (HS.out.below hb1); have HF := Aside.mk (HF.out.below hb1); have KB := Aside.mk (below_call KB.out hb1); have HX := Aside.mk (blk_keep HX.out hb1); have c0 := blk_cell HX.out 0; have c1 := blk_cell HX.out 1; have c2 := blk_cell HX.out 2; simp at c0 c1 c2; have hsz0 := blk_lt HX.out; clear hb1)
    | (go_at_call 11; refine (sameF_any _ _ _ _ _ _ _ R1.out R3.out).mono ?_; rw [decide_eq_true rfl]; rintro e w5 ⟨rfl, hb1⟩; have R2 := Aside.mk (R2.out.below hb1); have R4 := Aside.mk (R4.out.below hb1); have KB := Aside.mk (below_call KB.out hb1); clear hb1)
    | (go_at_call 12; refine (sameH_any _ _ _ _ _ _ _ R2.out R4.out).mono ?_; rw [decide_eq_true rfl]; rintro e w6 ⟨rfl, hb1⟩; have KB := Aside.mk (below_call KB.out hb1); clear hb1))
  go_ret
  exact ⟨rfl, KB.out⟩
theorem linksTell_walk (s p : Int) (A : Option Addr) (c : Nat) (ls : List Lnk) (SA : Option Addr) (sc : Nat) (sws : List Swt) (FA : Option Addr) (fc : Nat) (fs : List Fly) (tick : Int) (w : World) (hl : Rd lnkD w A ls.length ls) (hT : FitT s p c ls) (hs : Rd swD w SA sws.length sws) (hS : ∀ x ∈ sws, FitSw x) (hsc : sws.length ≤ sc) (hf : Rd fliesD w FA fs.length fs) (hF : ∀ x ∈ fs, FitF x) (hfc : fs.length ≤ fc) (hM : Fit tick) : Calls Try.prog 3 #[.agg #[.int .i64 s, .int .i64 p, .slice A ls.length c], .slice SA sws.length sc, .slice FA fs.length fc, .int .i64 tick] w fun e w' => e = .returned (.bool true) ∧ Below w.heap.size w w' := by
  cases hfew : fewS sws
  · exact linksTell_few s p A c ls SA sc sws FA fc fs tick w hl hT hs hS hsc hf hF hfc hM hfew
  by_cases h60 : ls.length ≤ 60 ∧ fs.length ≤ 100
  · exact linksTell_main s p A c ls SA sc sws FA fc fs tick w hl hT hs hS hsc hf hF hfc hM hfew h60.1 h60.2
  · exact linksTell_big s p A c ls SA sc sws FA fc fs tick w hl hT hs hS hsc hf hF hfc hM hfew h60
end Go.Proofs.Ytajmchdmophdjaa
