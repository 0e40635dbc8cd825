/- The walk through LinksFew. -/
import Derived.Test.YtajmchdmophdjaaLinkD
import Derived.Test.YtajmchdmophdjaaLinkN
namespace Go.Proofs.Ytajmchdmophdjaa
open Go.RowKit
set_option maxRecDepth 100000
theorem few_some {s p : Int} {ls : List Lnk} {sws : List Swt} {fs : List Fly} {tick : Int} {j : Nat} (hj : j < fs.length) (hn : fs.length ≤ 4) {sw : Swt} (h : swAt sws fs[j].sw = some sw) :
    (linksP s p ls sws fs tick).2[kAt s p ls sws fs tick j]? = some (pipeP s p ls sw fs[j] tick).1 ∧ kAt s p ls sws fs tick (j + 1) = kAt s p ls sws fs tick j + 1 := by
  have hl := (linksP_len (s := s) (p := p) (ls := ls) (sws := sws) (tick := tick) (fs.take j)).2
  rw [List.length_take] at hl
  have h2 := linkStep_few (s := s) (p := p) (ls := ls) (tick := tick) h (linksP s p ls sws (fs.take j) tick) (by omega)
  obtain ⟨t, u, e⟩ := linksP_pre (s := s) (p := p) (ls := ls) (sws := sws) (tick := tick) fs (j + 1)
  have hs : linksP s p ls sws (fs.take (j + 1)) tick = linkStep s p ls sws tick (linksP s p ls sws (fs.take j) tick) fs[j] := by rw [List.take_succ_eq_append_getElem hj, linksP_snoc]
  unfold kAt
  rw [e, hs, h2]
  exact ⟨by simp, by simp⟩
set_option maxHeartbeats 4000000 in
theorem linksFew_few (s p : Int) (A : Option Addr) (c : Nat) (ls : List Lnk) (SA : Option Addr) (sc : Nat) (sws : List Swt) (FA : Option Addr) (fc : Nat) (fs : List Fly) (tick : Int) (w : World) (hl : Rd lnkD w A ls.length ls) (hT : FitT s p c ls) (hs : Rd swD w SA sws.length sws) (hS : ∀ x ∈ sws, FitSw x) (hsc : sws.length ≤ sc) (hf : Rd fliesD w FA fs.length fs) (hF : ∀ x ∈ fs, FitF x) (hfc : fs.length ≤ fc) (hM : Fit tick) (hfew : fewS sws = false) : Calls Try.prog 5 #[.agg #[.int .i64 s, .int .i64 p, .slice A ls.length c], .slice SA sws.length sc, .slice FA fs.length fc, .int .i64 tick] w fun e w' => e = .returned (.bool true) ∧ Below w.heap.size w w' := by
  have hmx := hl.max
  have hmf := hf.max
  have hms := hs.max
  have HL0 := Aside.mk hl
  have HS0 := Aside.mk hs
  have HF0 := Aside.mk hf
  have HT := Aside.mk (fun x hx => (hF x hx).2.2.2.1 : ∀ x ∈ fs, Fit x.ttl)
  have HL := Aside.mk (hl.below (below_alloc (Below.refl _ w) (.cells #[.int .i64 s, .int .i64 p, .slice A ls.length c] 24)))
  have HS := Aside.mk (hs.below (below_alloc (Below.refl _ w) (.cells #[.int .i64 s, .int .i64 p, .slice A ls.length c] 24)))
  have HF := Aside.mk (hf.below (below_alloc (Below.refl _ w) (.cells #[.int .i64 s, .int .i64 p, .slice A ls.length c] 24)))
  have KB := Aside.mk (below_alloc (Below.refl _ w) (.cells #[.int .i64 s, .int .i64 p, .slice A ls.length c] 24))
  have HX := Aside.mk (heap_new w (.cells #[.int .i64 s, .int .i64 p, .slice A ls.length c] 24) rfl)
  clear hl hs hf hT hS hF hM
  go_enter Try.func5, Try.ntmps5
  go_wp2_with (first
    | (go_at_call 7; refine (awake19_any _).mono ?_; rintro e w1 ⟨rfl, hb1⟩; have HL := Aside.mk (HL.out.below hb1); have HS := Aside.mk (HS.out.below hb1); have HF := Aside.mk (HF.out.below hb1); have KB := Aside.mk (below_call KB.out hb1); have HX := Aside.mk (blk_keep HX.out hb1); have c0 := blk_cell HX.out 0; have c1 := blk_cell HX.out 1; have c2 := blk_cell HX.out 2; simp at c0 c1 c2; have hsz0 := blk_lt HX.out; clear hb1)
    | (go_at_call 8; refine (fewS_any _ _ _ _ HS.out).mono ?_; rw [hfew]; rintro e w2 ⟨rfl, rfl⟩))
  go_ret
  exact ⟨rfl, KB.out⟩
set_option maxHeartbeats 4000000 in
theorem linksFew_big (s p : Int) (A : Option Addr) (c : Nat) (ls : List Lnk) (SA : Option Addr) (sc : Nat) (sws : List Swt) (FA : Option Addr) (fc : Nat) (fs : List Fly) (tick : Int) (w : World) (hl : Rd lnkD w A ls.length ls) (hT : FitT s p c ls) (hs : Rd swD w SA sws.length sws) (hS : ∀ x ∈ sws, FitSw x) (hsc : sws.length ≤ sc) (hf : Rd fliesD w FA fs.length fs) (hF : ∀ x ∈ fs, FitF x) (hfc : fs.length ≤ fc) (hM : Fit tick) (hfew : fewS sws = true) (h60 : ¬ (ls.length ≤ 60 ∧ fs.length ≤ 4)) : Calls Try.prog 5 #[.agg #[.int .i64 s, .int .i64 p, .slice A ls.length c], .slice SA sws.length sc, .slice FA fs.length fc, .int .i64 tick] w fun e w' => e = .returned (.bool true) ∧ Below w.heap.size w w' := by
  have hmx := hl.max
  have hmf := hf.max
  have hms := hs.max
  have HL0 := Aside.mk hl
  have HS0 := Aside.mk hs
  have HF0 := Aside.mk hf
  have HT := Aside.mk (fun x hx => (hF x hx).2.2.2.1 : ∀ x ∈ fs, Fit x.ttl)
  have HL := Aside.mk (hl.below (below_alloc (Below.refl _ w) (.cells #[.int .i64 s, .int .i64 p, .slice A ls.length c] 24)))
  have HS := Aside.mk (hs.below (below_alloc (Below.refl _ w) (.cells #[.int .i64 s, .int .i64 p, .slice A ls.length c] 24)))
  have HF := Aside.mk (hf.below (below_alloc (Below.refl _ w) (.cells #[.int .i64 s, .int .i64 p, .slice A ls.length c] 24)))
  have KB := Aside.mk (below_alloc (Below.refl _ w) (.cells #[.int .i64 s, .int .i64 p, .slice A ls.length c] 24))
  have HX := Aside.mk (heap_new w (.cells #[.int .i64 s, .int .i64 p, .slice A ls.length c] 24) rfl)
  clear hl hs hf hT hS hF hM
  by_cases h6 : ls.length ≤ 60
  · have d60 : decide ((60 : Int) < (ls.length : Int)) = false := decide_eq_false (by omega)
    have d100 : decide ((4 : Int) < (fs.length : Int)) = true := decide_eq_true (by omega)
    go_enter Try.func5, Try.ntmps5
    go_wp2_with (first
      | (go_at_call 7; refine (awake19_any _).mono ?_; rintro e w1 ⟨rfl, hb1⟩; have HL := Aside.mk (HL.out.below hb1); have HS := Aside.mk (HS.out.below hb1); have HF := Aside.mk (HF.out.below hb1); have KB := Aside.mk (below_call KB.out hb1); have HX := Aside.mk (blk_keep HX.out hb1); have c0 := blk_cell HX.out 0; have c1 := blk_cell HX.out 1; have c2 := blk_cell HX.out 2; simp at c0 c1 c2; have hsz0 := blk_lt HX.out; clear hb1)
      | (go_at_call 8; refine (fewS_any _ _ _ _ HS.out).mono ?_; rw [hfew]; rintro e w2 ⟨rfl, rfl⟩))
    go_ret
    exact ⟨rfl, KB.out⟩
  · have d60 : decide ((60 : Int) < (ls.length : Int)) = true := decide_eq_true (by omega)
    go_enter Try.func5, Try.ntmps5
    go_wp2_with (first
      | (go_at_call 7; refine (awake19_any _).mono ?_; rintro e w1 ⟨rfl, hb1⟩; have HL := Aside.mk (HL.out.below hb1); have HS := Aside.mk (HS.out.below hb1); have HF := Aside.mk (HF.out.below hb1); have KB := Aside.mk (below_call KB.out hb1); have HX := Aside.mk (blk_keep HX.out hb1); have c0 := blk_cell HX.out 0; have c1 := blk_cell HX.out 1; have c2 := blk_cell HX.out 2; simp at c0 c1 c2; have hsz0 := blk_lt HX.out; clear hb1)
      | (go_at_call 8; refine (fewS_any _ _ _ _ HS.out).mono ?_; rw [hfew]; rintro e w2 ⟨rfl, rfl⟩))
    go_ret
    exact ⟨rfl, KB.out⟩
set_option maxHeartbeats 8000000 in
theorem linksFew_main (s p : Int) (A : Option Addr) (c : Nat) (ls : List Lnk) (SA : Option Addr) (sc : Nat) (sws : List Swt) (FA : Option Addr) (fc : Nat) (fs : List Fly) (tick : Int) (w : World) (hl : Rd lnkD w A ls.length ls) (hT : FitT s p c ls) (hs : Rd swD w SA sws.length sws) (hS : ∀ x ∈ sws, FitSw x) (hsc : sws.length ≤ sc) (hf : Rd fliesD w FA fs.length fs) (hF : ∀ x ∈ fs, FitF x) (hfc : fs.length ≤ fc) (hM : Fit tick) (hfew : fewS sws = true) (h60 : ls.length ≤ 60) (h100 : fs.length ≤ 4) : Calls Try.prog 5 #[.agg #[.int .i64 s, .int .i64 p, .slice A ls.length c], .slice SA sws.length sc, .slice FA fs.length fc, .int .i64 tick] w fun e w' => e = .returned (.bool true) ∧ Below w.heap.size w w' := by
  have hmx := hl.max
  have hmf := hf.max
  have hms := hs.max
  have HL0 := Aside.mk hl
  have HS0 := Aside.mk hs
  have HF0 := Aside.mk hf
  have HT := Aside.mk (fun x hx => (hF x hx).2.2.2.1 : ∀ x ∈ fs, Fit x.ttl)
  have HL := Aside.mk (hl.below (below_alloc (Below.refl _ w) (.cells #[.int .i64 s, .int .i64 p, .slice A ls.length c] 24)))
  have HS := Aside.mk (hs.below (below_alloc (Below.refl _ w) (.cells #[.int .i64 s, .int .i64 p, .slice A ls.length c] 24)))
  have HF := Aside.mk (hf.below (below_alloc (Below.refl _ w) (.cells #[.int .i64 s, .int .i64 p, .slice A ls.length c] 24)))
  have KB := Aside.mk (below_alloc (Below.refl _ w) (.cells #[.int .i64 s, .int .i64 p, .slice A ls.length c] 24))
  have HX := Aside.mk (heap_new w (.cells #[.int .i64 s, .int .i64 p, .slice A ls.length c] 24) rfl)
  clear hl hs hf hT hS hF hM
  have d60 : decide ((60 : Int) < (ls.length : Int)) = false := decide_eq_false (by omega)
  have d100 : decide ((4 : Int) < (fs.length : Int)) = false := decide_eq_false (by omega)
  have HN := Aside.mk (@at_none s p ls sws fs tick)
  have HM := Aside.mk (@few_some s p ls sws fs tick)
  have HE := Aside.mk (@at_end s p ls sws fs tick)
  have HLE := Aside.mk (@at_le s p ls sws fs tick)
  generalize hK : kAt s p ls sws fs tick = K at *
  have hK0 : K 0 = 0 := by rw [← hK]; rfl
  obtain ⟨G, H, hGH⟩ : ∃ G H, linksP s p ls sws fs tick = (G, H) := ⟨_, _, rfl⟩
  rw [hGH] at HM HE
  have HGH := Aside.mk hGH
  clear hGH hK
  go_enter Try.func5, Try.ntmps5
  go_wp2_with (first
    | (go_at_call 7; refine (awake19_any _).mono ?_; rintro e w1 ⟨rfl, hb1⟩; have HL := Aside.mk (HL.out.below hb1); have HS := Aside.mk (HS.out.below hb1); have HF := Aside.mk (HF.out.below hb1); have KB := Aside.mk (below_call KB.out hb1); have HX := Aside.mk (blk_keep HX.out hb1); have c0 := blk_cell HX.out 0; have c1 := blk_cell HX.out 1; have c2 := blk_cell HX.out 2; simp at c0 c1 c2; have hsz0 := blk_lt HX.out; clear hb1)
    | (go_at_call 8; refine (fewS_any _ _ _ _ HS.out).mono ?_; rw [hfew]; rintro e w2 ⟨rfl, rfl⟩)
    | (go_at_call 9; refine (links_any s p A c ls sws SA sc fs FA fc tick _ HL.out HS.out HF.out HT.out (by omega)).mono ?_; rw [HGH.out]; dsimp only; rintro e w3 ⟨v1, u1, rfl, ho1, ho2, hb1⟩; obtain ⟨A1, k1, rfl, -, hr1⟩ := ho1.rd; obtain ⟨A2, k2, rfl, -, hr2⟩ := ho2.rd; have R2 := Aside.mk hr2; clear ho1 ho2 hr1 hr2; have HL := Aside.mk (HL.out.below hb1); have HS := Aside.mk (HS.out.below hb1); have HF := Aside.mk (HF.out.below hb1); have KB := Aside.mk (below_call KB.out hb1); have HX := Aside.mk (blk_keep HX.out hb1); have c0 := blk_cell HX.out 0; have c1 := blk_cell HX.out 1; have c2 := blk_cell HX.out 2; simp at c0 c1 c2; have hsz0 := blk_lt HX.out; clear hb1))
  go_loopw [13, 14] (fun n i wr => ∃ j : Nat, j ≤ fs.length ∧ n = .int .i64 (K j) ∧ i = .int .i64 j ∧ Below w.heap.size w wr ∧ wr.heap[w.heap.size]? = some (.cells #[.int .i64 s, .int .i64 p, .slice A ls.length c] 24) ∧ Rd hopD wr A2 H.length H) (fun _ i _ => fs.length - (intOf i).toNat)
  case atStart => exact ⟨0, Nat.zero_le _, by rw [hK0]; rfl, rfl, KB.out, HX.out, R2.out⟩
  case round =>
    clear HL HS KB HX HF R2 c0 c1 c2 hsz0 HGH
    obtain ⟨k, hk, rfl, rfl, hb, hx, hr2⟩ := hrel
    have KB := Aside.mk hb
    have HX := Aside.mk hx
    have R2 := Aside.mk hr2
    have htb := blk_lt hx
    have c0 := blk_cell hx 0
    have c1 := blk_cell hx 1
    have c2 := blk_cell hx 2
    simp at c0 c1 c2
    have hle := HLE.out hk
    by_cases hlt : k < fs.length
    · obtain ⟨fb, fo, _, rfl, -⟩ := Row.at HF0.out k hlt
      obtain ⟨hfb0, q0, q1, q2, q3, q4, q5, q6⟩ := fly_cells HF0.out hb hlt
      have hfb := Nat.lt_of_lt_of_le hfb0 hb.size
      have hn := Aside.mk (HN.out hlt)
      have hm := Aside.mk (fun sw => HM.out hlt h100 (sw := sw))
      have HFx := Aside.mk (HT.out fs[k] (List.getElem_mem hlt))
      clear hb hx
      generalize fs[k] = x at *
      by_cases hx0 : x.sw < 0
      · have d0 : decide (x.sw < 0) = true := decide_eq_true hx0
        have h0 := Aside.mk (hn.out (by unfold swAt; rw [if_pos hx0]))
        clear hr2 hm hn
        go_wp2
        exact ⟨⟨k + 1, by omega, by rw [h0.out.2], by go_num, KB.out, HX.out, R2.out⟩, by simp [intOf]; omega⟩
      · have d0 : decide (x.sw < 0) = false := decide_eq_false hx0
        by_cases hx1 : (sws.length : Int) ≤ x.sw
        · have d1 : decide ((sws.length : Int) ≤ x.sw) = true := decide_eq_true hx1
          have h0 := Aside.mk (hn.out (by unfold swAt; rw [if_neg hx0, List.getElem?_eq_none (by omega)]))
          clear hr2 hm hn
          go_wp2
          exact ⟨⟨k + 1, by omega, by rw [h0.out.2], by go_num, KB.out, HX.out, R2.out⟩, by simp [intOf]; omega⟩
        · have d1 : decide ((sws.length : Int) ≤ x.sw) = false := decide_eq_false hx1
          have hj : x.sw.toNat < sws.length := by omega
          obtain ⟨hy, hk1⟩ := hm.out sws[x.sw.toNat] (by unfold swAt; rw [if_neg hx0, List.getElem?_eq_getElem hj])
          try dsimp only at hy
          obtain ⟨sb, so, V, cV, rfl, hsb0, ⟨s0, s1, s2, s3, s4, s5, s6⟩, -, -, hv⟩ := sw_cells HS0.out KB.out hj
          have hsb := Nat.lt_of_lt_of_le hsb0 KB.out.size
          have HVr := Aside.mk (hv.below KB.out)
          have HLr := Aside.mk (HL0.out.below KB.out)
          generalize sws[x.sw.toNat] = sw at *
          obtain ⟨h, g, hhg⟩ : ∃ h g, pipeP s p ls sw x tick = (h, g) := ⟨_, _, rfl⟩
          rw [hhg] at hy
          try dsimp only at hy
          have HPx := Aside.mk hhg
          have HK1 := Aside.mk hk1
          obtain ⟨hKl, hyK⟩ := List.getElem?_eq_some_iff.1 hy
          have HYK := Aside.mk hyK
          have T0 := Aside.mk c0
          have T1 := Aside.mk c1
          have T2 := Aside.mk c2
          have F0 := Aside.mk q0
          have F1 := Aside.mk q1
          have F2 := Aside.mk q2
          have F3 := Aside.mk q3
          have F4 := Aside.mk q4
          have F5 := Aside.mk q5
          have F6 := Aside.mk q6
          have S0 := Aside.mk s0
          have S1 := Aside.mk s1
          have S2 := Aside.mk s2
          have S3 := Aside.mk s3
          have S4 := Aside.mk s4
          have S5 := Aside.mk s5
          have S6 := Aside.mk s6
          have dK : decide ((H.length : Int) ≤ (K k : Int)) = false := decide_eq_false (by omega)
          clear hhg hv hy hk1 hyK hm hn
          go_wp2
          refine wp_region_facts (Base := rstB s p A c ls sws.length sb so sc fs.length fb fo fc k x sw V cV tick h g w.heap.size wr) (q := rstQ) (Fs := rstF s p A c ls sws.length sb so sc fs.length fb fo fc k x sw V cV tick h g w.heap.size wr) (by kernel_rfl) (by kernel_rfl) (by kernel_rfl) (by kernel_rfl) (below_drew (Below.refl _ _)) ?_ ?_
          · clear c0 c1 c2 q0 q1 q2 q3 q4 q5 q6 s0 s1 s2 s3 s4 s5 s6
            have hBs := rstB_stay s p A c ls sws.length sb so sc fs.length fb fo fc k x sw V cV tick h g w.heap.size wr
            have hFs := rstF_stay s p A c ls sws.length sb so sc fs.length fb fo fc k x sw V cV tick h g w.heap.size wr
            refine ⟨?_, ?_, ?_, ?_, ?_, ?_, ?_, ?_, ?_, ?_, ?_, ?_, ?_, ?_, ?_, ?_, ?_, ?_, ?_, ?_, ?_, ?_, trivial⟩
            · refine step_pure hBs hFs rfl fun a' w' hB hag hp => ?_
              have h4 := hag 4 (by kernel_rfl)
              have hB : Below wr.heap.size wr w' := hB; have hc0 := (hB.cell (p := ⟨w.heap.size, 0, none⟩) htb).trans T0.out; have hc1 := (hB.cell (p := ⟨w.heap.size, 1, none⟩) htb).trans T1.out; have hc2 := (hB.cell (p := ⟨w.heap.size, 2, none⟩) htb).trans T2.out; have hf0 := (hB.cell (p := ⟨fb, fo + k * 7, none⟩) hfb).trans F0.out; have hf1 := (hB.cell (p := ⟨fb, fo + k * 7 + 1, none⟩) hfb).trans F1.out; have hf2 := (hB.cell (p := ⟨fb, fo + k * 7 + 2, none⟩) hfb).trans F2.out; have hf3 := (hB.cell (p := ⟨fb, fo + k * 7 + 3, none⟩) hfb).trans F3.out; have hf4 := (hB.cell (p := ⟨fb, fo + k * 7 + 4, none⟩) hfb).trans F4.out; have hf5 := (hB.cell (p := ⟨fb, fo + k * 7 + 5, none⟩) hfb).trans F5.out; have hf6 := (hB.cell (p := ⟨fb, fo + k * 7 + 6, none⟩) hfb).trans F6.out; have hs0 := (hB.cell (p := ⟨sb, so + x.sw.toNat * 7, none⟩) hsb).trans S0.out; have hs1 := (hB.cell (p := ⟨sb, so + x.sw.toNat * 7 + 1, none⟩) hsb).trans S1.out; have hs2 := (hB.cell (p := ⟨sb, so + x.sw.toNat * 7 + 2, none⟩) hsb).trans S2.out; have hs3 := (hB.cell (p := ⟨sb, so + x.sw.toNat * 7 + 3, none⟩) hsb).trans S3.out; have hs4 := (hB.cell (p := ⟨sb, so + x.sw.toNat * 7 + 4, none⟩) hsb).trans S4.out; have hs5 := (hB.cell (p := ⟨sb, so + x.sw.toNat * 7 + 5, none⟩) hsb).trans S5.out; have hs6 := (hB.cell (p := ⟨sb, so + x.sw.toNat * 7 + 6, none⟩) hsb).trans S6.out
              simp at h4
              unfold OpYields
              go_simp
              exact ⟨Below.refl _ _, rfl⟩
            · refine step_pure hBs hFs rfl fun a' w' hB hag hp => ?_
              have h1 := hag 1 (by kernel_rfl)
              simp at h1
              unfold OpYields
              go_simp
              exact ⟨Below.refl _ _, rfl⟩
            · refine step_pure hBs hFs rfl fun a' w' hB hag hp => ?_
              have h2 := hag 2 (by kernel_rfl)
              simp at h2
              unfold OpYields
              go_simp
              exact ⟨Below.refl _ _, rfl⟩
            · refine step_pure hBs hFs rfl fun a' w' hB hag hp => ?_
              have h14 := hag 14 (by kernel_rfl)
              simp at h14
              unfold OpYields
              go_simp
              exact ⟨Below.refl _ _, rfl⟩
            · refine step_pure hBs hFs rfl fun a' w' hB hag hp => ?_
              have h71 : a'.tmps.getD 71 undef = _ := hp 2 (by kernel_rfl)
              have h72 : a'.tmps.getD 72 undef = _ := hp 3 (by kernel_rfl)
              simp at h71 h72
              unfold OpYields
              go_simp
              exact ⟨Below.refl _ _, rfl⟩
            · refine step_pure hBs hFs rfl fun a' w' hB hag hp => ?_
              have h73 : a'.tmps.getD 73 undef = _ := hp 4 (by kernel_rfl)
              simp at h73
              unfold OpYields
              go_simp
              exact ⟨Below.refl _ _, rfl⟩
            · refine step_pure hBs hFs rfl fun a' w' hB hag hp => ?_
              have h74 : a'.tmps.getD 74 undef = _ := hp 5 (by kernel_rfl)
              have hB : Below wr.heap.size wr w' := hB; have hc0 := (hB.cell (p := ⟨w.heap.size, 0, none⟩) htb).trans T0.out; have hc1 := (hB.cell (p := ⟨w.heap.size, 1, none⟩) htb).trans T1.out; have hc2 := (hB.cell (p := ⟨w.heap.size, 2, none⟩) htb).trans T2.out; have hf0 := (hB.cell (p := ⟨fb, fo + k * 7, none⟩) hfb).trans F0.out; have hf1 := (hB.cell (p := ⟨fb, fo + k * 7 + 1, none⟩) hfb).trans F1.out; have hf2 := (hB.cell (p := ⟨fb, fo + k * 7 + 2, none⟩) hfb).trans F2.out; have hf3 := (hB.cell (p := ⟨fb, fo + k * 7 + 3, none⟩) hfb).trans F3.out; have hf4 := (hB.cell (p := ⟨fb, fo + k * 7 + 4, none⟩) hfb).trans F4.out; have hf5 := (hB.cell (p := ⟨fb, fo + k * 7 + 5, none⟩) hfb).trans F5.out; have hf6 := (hB.cell (p := ⟨fb, fo + k * 7 + 6, none⟩) hfb).trans F6.out; have hs0 := (hB.cell (p := ⟨sb, so + x.sw.toNat * 7, none⟩) hsb).trans S0.out; have hs1 := (hB.cell (p := ⟨sb, so + x.sw.toNat * 7 + 1, none⟩) hsb).trans S1.out; have hs2 := (hB.cell (p := ⟨sb, so + x.sw.toNat * 7 + 2, none⟩) hsb).trans S2.out; have hs3 := (hB.cell (p := ⟨sb, so + x.sw.toNat * 7 + 3, none⟩) hsb).trans S3.out; have hs4 := (hB.cell (p := ⟨sb, so + x.sw.toNat * 7 + 4, none⟩) hsb).trans S4.out; have hs5 := (hB.cell (p := ⟨sb, so + x.sw.toNat * 7 + 5, none⟩) hsb).trans S5.out; have hs6 := (hB.cell (p := ⟨sb, so + x.sw.toNat * 7 + 6, none⟩) hsb).trans S6.out
              simp at h74
              unfold OpYields
              go_simp
              exact ⟨Below.refl _ _, rfl⟩
            · refine step_pure hBs hFs rfl fun a' w' hB hag hp => ?_
              have h70 : a'.tmps.getD 70 undef = _ := hp 1 (by kernel_rfl)
              have h75 : a'.tmps.getD 75 undef = _ := hp 6 (by kernel_rfl)
              simp at h70 h75
              unfold OpYields
              go_simp
              exact ⟨Below.refl _ _, rfl⟩
            · refine step_pure hBs hFs rfl fun a' w' hB hag hp => ?_
              have h76 : a'.tmps.getD 76 undef = _ := hp 7 (by kernel_rfl)
              have hB : Below wr.heap.size wr w' := hB; have hc0 := (hB.cell (p := ⟨w.heap.size, 0, none⟩) htb).trans T0.out; have hc1 := (hB.cell (p := ⟨w.heap.size, 1, none⟩) htb).trans T1.out; have hc2 := (hB.cell (p := ⟨w.heap.size, 2, none⟩) htb).trans T2.out; have hf0 := (hB.cell (p := ⟨fb, fo + k * 7, none⟩) hfb).trans F0.out; have hf1 := (hB.cell (p := ⟨fb, fo + k * 7 + 1, none⟩) hfb).trans F1.out; have hf2 := (hB.cell (p := ⟨fb, fo + k * 7 + 2, none⟩) hfb).trans F2.out; have hf3 := (hB.cell (p := ⟨fb, fo + k * 7 + 3, none⟩) hfb).trans F3.out; have hf4 := (hB.cell (p := ⟨fb, fo + k * 7 + 4, none⟩) hfb).trans F4.out; have hf5 := (hB.cell (p := ⟨fb, fo + k * 7 + 5, none⟩) hfb).trans F5.out; have hf6 := (hB.cell (p := ⟨fb, fo + k * 7 + 6, none⟩) hfb).trans F6.out; have hs0 := (hB.cell (p := ⟨sb, so + x.sw.toNat * 7, none⟩) hsb).trans S0.out; have hs1 := (hB.cell (p := ⟨sb, so + x.sw.toNat * 7 + 1, none⟩) hsb).trans S1.out; have hs2 := (hB.cell (p := ⟨sb, so + x.sw.toNat * 7 + 2, none⟩) hsb).trans S2.out; have hs3 := (hB.cell (p := ⟨sb, so + x.sw.toNat * 7 + 3, none⟩) hsb).trans S3.out; have hs4 := (hB.cell (p := ⟨sb, so + x.sw.toNat * 7 + 4, none⟩) hsb).trans S4.out; have hs5 := (hB.cell (p := ⟨sb, so + x.sw.toNat * 7 + 5, none⟩) hsb).trans S5.out; have hs6 := (hB.cell (p := ⟨sb, so + x.sw.toNat * 7 + 6, none⟩) hsb).trans S6.out
              simp at h76
              unfold OpYields
              go_simp
              exact ⟨Below.refl _ _, rfl⟩
            · refine step_pure hBs hFs rfl fun a' w' hB hag hp => ?_
              have h2 := hag 2 (by kernel_rfl)
              simp at h2
              unfold OpYields
              go_simp
              exact ⟨Below.refl _ _, rfl⟩
            · refine step_pure hBs hFs rfl fun a' w' hB hag hp => ?_
              have h14 := hag 14 (by kernel_rfl)
              simp at h14
              unfold OpYields
              go_simp
              exact ⟨Below.refl _ _, rfl⟩
            · refine step_pure hBs hFs rfl fun a' w' hB hag hp => ?_
              have h78 : a'.tmps.getD 78 undef = _ := hp 9 (by kernel_rfl)
              have h79 : a'.tmps.getD 79 undef = _ := hp 10 (by kernel_rfl)
              simp at h78 h79
              unfold OpYields
              go_simp
              exact ⟨Below.refl _ _, rfl⟩
            · refine step_pure hBs hFs rfl fun a' w' hB hag hp => ?_
              have h80 : a'.tmps.getD 80 undef = _ := hp 11 (by kernel_rfl)
              have hB : Below wr.heap.size wr w' := hB; have hc0 := (hB.cell (p := ⟨w.heap.size, 0, none⟩) htb).trans T0.out; have hc1 := (hB.cell (p := ⟨w.heap.size, 1, none⟩) htb).trans T1.out; have hc2 := (hB.cell (p := ⟨w.heap.size, 2, none⟩) htb).trans T2.out; have hf0 := (hB.cell (p := ⟨fb, fo + k * 7, none⟩) hfb).trans F0.out; have hf1 := (hB.cell (p := ⟨fb, fo + k * 7 + 1, none⟩) hfb).trans F1.out; have hf2 := (hB.cell (p := ⟨fb, fo + k * 7 + 2, none⟩) hfb).trans F2.out; have hf3 := (hB.cell (p := ⟨fb, fo + k * 7 + 3, none⟩) hfb).trans F3.out; have hf4 := (hB.cell (p := ⟨fb, fo + k * 7 + 4, none⟩) hfb).trans F4.out; have hf5 := (hB.cell (p := ⟨fb, fo + k * 7 + 5, none⟩) hfb).trans F5.out; have hf6 := (hB.cell (p := ⟨fb, fo + k * 7 + 6, none⟩) hfb).trans F6.out; have hs0 := (hB.cell (p := ⟨sb, so + x.sw.toNat * 7, none⟩) hsb).trans S0.out; have hs1 := (hB.cell (p := ⟨sb, so + x.sw.toNat * 7 + 1, none⟩) hsb).trans S1.out; have hs2 := (hB.cell (p := ⟨sb, so + x.sw.toNat * 7 + 2, none⟩) hsb).trans S2.out; have hs3 := (hB.cell (p := ⟨sb, so + x.sw.toNat * 7 + 3, none⟩) hsb).trans S3.out; have hs4 := (hB.cell (p := ⟨sb, so + x.sw.toNat * 7 + 4, none⟩) hsb).trans S4.out; have hs5 := (hB.cell (p := ⟨sb, so + x.sw.toNat * 7 + 5, none⟩) hsb).trans S5.out; have hs6 := (hB.cell (p := ⟨sb, so + x.sw.toNat * 7 + 6, none⟩) hsb).trans S6.out
              simp at h80
              unfold OpYields
              go_simp
              exact ⟨Below.refl _ _, rfl⟩
            · refine step_pure hBs hFs rfl fun a' w' hB hag hp => ?_
              have h3 := hag 3 (by kernel_rfl)
              simp at h3
              unfold OpYields
              go_simp
              exact ⟨Below.refl _ _, rfl⟩
            · refine step_pure hBs hFs rfl fun a' w' hB hag hp => ?_
              have h69 : a'.tmps.getD 69 undef = _ := hp 0 (by kernel_rfl)
              have h77 : a'.tmps.getD 77 undef = _ := hp 8 (by kernel_rfl)
              have h81 : a'.tmps.getD 81 undef = _ := hp 12 (by kernel_rfl)
              have h82 : a'.tmps.getD 82 undef = _ := hp 13 (by kernel_rfl)
              simp at h69 h77 h81 h82
              have hB' : Below wr.heap.size wr w' := hB
              unfold OpYields
              go_simp
              refine (pipe_any s p A c ls sw V cV x tick w' (HLr.out.below hB') (HVr.out.below hB') HFx.out).mono ?_
              rw [HPx.out]
              dsimp only
              rintro e w1 ⟨rfl, hb⟩
              exact ⟨_, rfl, hb, rfl⟩
            · refine step_pure hBs hFs rfl fun a' w' hB hag hp => ?_
              have h83 : a'.tmps.getD 83 undef = _ := hp 14 (by kernel_rfl)
              simp at h83
              unfold OpYields
              go_simp
              exact ⟨Below.refl _ _, rfl⟩
            · refine step_pure hBs hFs rfl fun a' w' hB hag hp => ?_
              have h68 : a'.tmps.getD 68 undef = _ := hp 15 (by kernel_rfl)
              simp at h68
              unfold OpYields
              go_simp
              exact ⟨Below.refl _ _, rfl⟩
            · refine step_pure hBs hFs rfl fun a' w' hB hag hp => ?_
              have h68 : a'.tmps.getD 68 undef = _ := hp 15 (by kernel_rfl)
              simp at h68
              unfold OpYields
              go_simp
              exact ⟨Below.refl _ _, rfl⟩
            · refine step_pure hBs hFs rfl fun a' w' hB hag hp => ?_
              unfold OpYields
              go_simp
              exact ⟨(Below.refl _ _).alloc (Nat.le_refl _) _, _, _, _, _, _, _, _, _, rfl, hB.size, by rw [heap_at, if_pos rfl]⟩
            · refine step_pure hBs hFs rfl fun a' w' hB hag hp => ?_
              unfold OpYields
              go_simp
              exact ⟨(Below.refl _ _).alloc (Nat.le_refl _) _, _, _, _, _, _, _, _, _, rfl, hB.size, by rw [heap_at, if_pos rfl]⟩
            · intro a' w' hB hag hp
              rw [if_pos (by kernel_rfl)]
              obtain ⟨q, c0, c1, c2, c3, c4, c5, c6, h1, h2, h3⟩ : ∃ q c0 c1 c2 c3 c4 c5 c6, a'.tmps.getD 15 undef = .pointer (some ⟨q, 0, none⟩) ∧ wr.heap.size ≤ q ∧ w'.heap[q]? = some (.cells #[c0, c1, c2, c3, c4, c5, c6] 40) := hp 18 (by kernel_rfl)
              have h5 : a'.tmps.getD 84 undef = _ := hp 16 (by kernel_rfl)
              have h1' := h1
              simp at h1 h5
              have k0 := blk_cell h3 0
              have k1 := blk_cell h3 1
              have k2 := blk_cell h3 2
              have k3 := blk_cell h3 3
              have k4 := blk_cell h3 4
              have k5 := blk_cell h3 5
              have k6 := blk_cell h3 6
              have kf := fun i => blk_frozen h3 i
              simp at k0 k1 k2 k3 k4 k5 k6
              unfold OpYields
              go_simp
              obtain ⟨e1, hf⟩ := fill7 h3 (.int .i64 h.tick) (.int .i64 h.id) (.int .i64 h.sw) (.int .i64 h.inn) (.int .i64 h.tag) (.int .i64 h.what) (.int .i64 h.out)
              refine ⟨?_, ⟨q, h1', e1⟩, ?_⟩
              · exact below_set (below_set (below_set (below_set (below_set (below_set (below_set hB h2 _) h2 _) h2 _) h2 _) h2 _) h2 _) h2 _
              intro j vs hj hF
              by_cases hj1 : j = 18
              · subst hj1
                obtain ⟨q1, d0, d1, d2, d3, d4, d5, d6, e, e1', e2⟩ : ∃ q c0 c1 c2 c3 c4 c5 c6, vs 18 = .pointer (some ⟨q, 0, none⟩) ∧ wr.heap.size ≤ q ∧ w'.heap[q]? = some (.cells #[c0, c1, c2, c3, c4, c5, c6] 40) := hF
                by_cases hbb : q1 = q
                · subst hbb
                  exact ⟨q1, _, _, _, _, _, _, _, e, e1', e1⟩
                · exact ⟨q1, _, _, _, _, _, _, _, e, e1', hf _ _ hbb e2⟩
              by_cases hj2 : j = 19
              · subst hj2
                obtain ⟨q1, d0, d1, d2, d3, d4, d5, d6, e, e1', e2⟩ : ∃ q c0 c1 c2 c3 c4 c5 c6, vs 19 = .pointer (some ⟨q, 0, none⟩) ∧ wr.heap.size ≤ q ∧ w'.heap[q]? = some (.cells #[c0, c1, c2, c3, c4, c5, c6] 38) := hF
                have hne : q1 ≠ q := fun hh => by rw [hh, h3] at e2; cases e2
                exact ⟨q1, _, _, _, _, _, _, _, e, e1', hf _ _ hne e2⟩
              by_cases hj3 : j = 21
              · subst hj3
                obtain ⟨q1, e, e2⟩ : ∃ q, vs 19 = .pointer (some ⟨q, 0, none⟩) ∧ w'.heap[q]? = some (.cells #[.int .i64 g.id, .int .i64 g.src, .int .i64 g.dst, .int .i64 g.ttl, .int .i64 g.tag, .int .i64 g.sw, .int .i64 g.inn] 38) := hF
                have hne : q1 ≠ q := fun hh => by rw [hh, h3] at e2; cases e2
                exact ⟨q1, e, hf _ _ hne e2⟩
              exact rst_keep _ _ _ _ _ _ _ _ _ _ _ _ _ _ _ _ _ _ _ _ _ _ _ (by omega) hF
            · intro a' w' hB hag hp
              rw [if_pos (by kernel_rfl)]
              obtain ⟨q, c0, c1, c2, c3, c4, c5, c6, h1, h2, h3⟩ : ∃ q c0 c1 c2 c3 c4 c5 c6, a'.tmps.getD 16 undef = .pointer (some ⟨q, 0, none⟩) ∧ wr.heap.size ≤ q ∧ w'.heap[q]? = some (.cells #[c0, c1, c2, c3, c4, c5, c6] 38) := hp 19 (by kernel_rfl)
              have h5 : a'.tmps.getD 85 undef = _ := hp 17 (by kernel_rfl)
              have h1' := h1
              simp at h1 h5
              have k0 := blk_cell h3 0
              have k1 := blk_cell h3 1
              have k2 := blk_cell h3 2
              have k3 := blk_cell h3 3
              have k4 := blk_cell h3 4
              have k5 := blk_cell h3 5
              have k6 := blk_cell h3 6
              have kf := fun i => blk_frozen h3 i
              simp at k0 k1 k2 k3 k4 k5 k6
              unfold OpYields
              go_simp
              obtain ⟨e1, hf⟩ := fill7 h3 (.int .i64 g.id) (.int .i64 g.src) (.int .i64 g.dst) (.int .i64 g.ttl) (.int .i64 g.tag) (.int .i64 g.sw) (.int .i64 g.inn)
              refine ⟨?_, ⟨q, h1', e1⟩, ?_⟩
              · exact below_set (below_set (below_set (below_set (below_set (below_set (below_set hB h2 _) h2 _) h2 _) h2 _) h2 _) h2 _) h2 _
              intro j vs hj hF
              by_cases hj1 : j = 19
              · subst hj1
                obtain ⟨q1, d0, d1, d2, d3, d4, d5, d6, e, e1', e2⟩ : ∃ q c0 c1 c2 c3 c4 c5 c6, vs 19 = .pointer (some ⟨q, 0, none⟩) ∧ wr.heap.size ≤ q ∧ w'.heap[q]? = some (.cells #[c0, c1, c2, c3, c4, c5, c6] 38) := hF
                by_cases hbb : q1 = q
                · subst hbb
                  exact ⟨q1, _, _, _, _, _, _, _, e, e1', e1⟩
                · exact ⟨q1, _, _, _, _, _, _, _, e, e1', hf _ _ hbb e2⟩
              by_cases hj2 : j = 18
              · subst hj2
                obtain ⟨q1, d0, d1, d2, d3, d4, d5, d6, e, e1', e2⟩ : ∃ q c0 c1 c2 c3 c4 c5 c6, vs 18 = .pointer (some ⟨q, 0, none⟩) ∧ wr.heap.size ≤ q ∧ w'.heap[q]? = some (.cells #[c0, c1, c2, c3, c4, c5, c6] 40) := hF
                have hne : q1 ≠ q := fun hh => by rw [hh, h3] at e2; cases e2
                exact ⟨q1, _, _, _, _, _, _, _, e, e1', hf _ _ hne e2⟩
              by_cases hj3 : j = 20
              · subst hj3
                obtain ⟨q1, e, e2⟩ : ∃ q, vs 18 = .pointer (some ⟨q, 0, none⟩) ∧ w'.heap[q]? = some (.cells #[.int .i64 h.tick, .int .i64 h.id, .int .i64 h.sw, .int .i64 h.inn, .int .i64 h.tag, .int .i64 h.what, .int .i64 h.out] 40) := hF
                have hne : q1 ≠ q := fun hh => by rw [hh, h3] at e2; cases e2
                exact ⟨q1, e, hf _ _ hne e2⟩
              exact rst_keep _ _ _ _ _ _ _ _ _ _ _ _ _ _ _ _ _ _ _ _ _ _ _ (by omega) hF
          intro vs w' hB hF
          simp only [AllF, forall_const, reduceCtorEq, false_implies, Fof, rstF, rstQ, Nat.zero_add, Nat.reduceAdd, Nat.reduceEqDiff, if_true, if_false, List.getD_cons_succ, List.getD_cons_zero] at hF
          obtain ⟨f0, f1, f2, f3, f4, f5, f6, f7, f8, f9, f10, f11, f12, f13, f14, f15, f16, f17, ⟨q13, u0, u1, u2, u3, u4, u5, u6, f18, hq13, hb13⟩, ⟨q14, t0, t1, t2, t3, t4, t5, t6, f19, hq14, hb14⟩, ⟨q20, f20, hb20⟩, ⟨q21, f21, hb21⟩, -⟩ := hF
          simp only [putAll, Act.put, Nat.zero_add, Nat.reduceAdd, f0, f1, f2, f3, f4, f5, f6, f7, f8, f9, f10, f11, f12, f13, f14, f15, f16, f17, f18, f19, f20, f21, List.setIfInBounds_toArray, List.set_cons_zero, List.set_cons_succ]
          obtain rfl : q20 = q13 := by
            rw [f18] at f20
            injection f20 with f20
            injection f20 with f20
            injection f20 with f20
            exact f20.symm
          obtain rfl : q21 = q14 := by
            rw [f19] at f21
            injection f21 with f21
            injection f21 with f21
            injection f21 with f21
            exact f21.symm
          have hB' : Below wr.heap.size wr w' := hB
          have KB := Aside.mk (below_call KB.out hB')
          have HX := Aside.mk (blk_keep HX.out hB')
          have hr2 := R2.out.below hB'
          have R2 := Aside.mk hr2
          obtain ⟨ob, oo, _, rfl, -⟩ := Row.at hr2 (K k) hKl
          obtain ⟨-, g0, g1, g2, g3, g4, g5, g6⟩ := hop_cells hr2 (Below.refl _ _) hKl
          rw [HYK.out] at g0 g1 g2 g3 g4 g5 g6
          have p0 := blk_cell hb20 0
          have p1 := blk_cell hb20 1
          have p2 := blk_cell hb20 2
          have p3 := blk_cell hb20 3
          have p4 := blk_cell hb20 4
          have p5 := blk_cell hb20 5
          have p6 := blk_cell hb20 6
          simp at p0 p1 p2 p3 p4 p5 p6
          have hqq : ∀ w, (Op.equalIn 10000 40 (hopV h) (hopV h)).run Try.prog w = .ok true w := fun w => (eqHop w h h).trans (by rw [decide_eq_true rfl])
          clear c0 c1 c2 q0 q1 q2 q3 q4 q5 q6 s0 s1 s2 s3 s4 s5 s6 f0 f1 f2 f3 f4 f5 f6 f7 f8 f9 f10 f11 f12 f13 f14 f15 f16 f17 f18 f19 f20 f21 hb13 hb14 hb20 hb21 hB hB' hr2
          generalize K k = kk at *
          go_wp2
          go_quiet (fail)
          go_wp2
          exact ⟨⟨k + 1, by omega, by rw [HK1.out] <;> go_num, by go_num, below_drewN KB.out _, HX.out, R2.out⟩, by simp [intOf]; omega⟩
    · obtain rfl : k = fs.length := by omega
      have hE := HE.out
      try dsimp only at hE
      rw [hE.2]
      clear hle
      go_wp2
      go_ret
      exact ⟨rfl, KB.out⟩
theorem linksFew_walk (s p : Int) (A : Option Addr) (c : Nat) (ls : List Lnk) (SA : Option Addr) (sc : Nat) (sws : List Swt) (FA : Option Addr) (fc : Nat) (fs : List Fly) (tick : Int) (w : World) (hl : Rd lnkD w A ls.length ls) (hT : FitT s p c ls) (hs : Rd swD w SA sws.length sws) (hS : ∀ x ∈ sws, FitSw x) (hsc : sws.length ≤ sc) (hf : Rd fliesD w FA fs.length fs) (hF : ∀ x ∈ fs, FitF x) (hfc : fs.length ≤ fc) (hM : Fit tick) : Calls Try.prog 5 #[.agg #[.int .i64 s, .int .i64 p, .slice A ls.length c], .slice SA sws.length sc, .slice FA fs.length fc, .int .i64 tick] w fun e w' => e = .returned (.bool true) ∧ Below w.heap.size w w' := by
  cases hfew : fewS sws
  · exact linksFew_few s p A c ls SA sc sws FA fc fs tick w hl hT hs hS hsc hf hF hfc hM hfew
  by_cases h60 : ls.length ≤ 60 ∧ fs.length ≤ 4
  · exact linksFew_main s p A c ls SA sc sws FA fc fs tick w hl hT hs hS hsc hf hF hfc hM hfew h60.1 h60.2
  · exact linksFew_big s p A c ls SA sc sws FA fc fs tick w hl hT hs hS hsc hf hF hfc hM hfew h60
end Go.Proofs.Ytajmchdmophdjaa
