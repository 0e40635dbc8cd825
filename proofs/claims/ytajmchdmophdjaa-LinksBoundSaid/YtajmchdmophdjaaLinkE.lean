/- The walk through LinksBound. -/
import Derived.Test.YtajmchdmophdjaaLinkD
import Derived.Test.YtajmchdmophdjaaLinkN
import Derived.Deep.DeepCutAuto
namespace Go.Proofs.Ytajmchdmophdjaa
open Go.RowKit
set_option maxRecDepth 100000
set_option maxHeartbeats 4000000 in
theorem linksBound_few (s p : Int) (A : Option Addr) (c : Nat) (ls : List Lnk) (SA : Option Addr) (sc : Nat) (sws : List Swt) (FA : Option Addr) (fc : Nat) (fs : List Fly) (tick : Int) (w : World) (hl : Rd lnkD w A ls.length ls) (hT : FitT s p c ls) (hs : Rd swD w SA sws.length sws) (hS : ∀ x ∈ sws, FitSw x) (hsc : sws.length ≤ sc) (hf : Rd fliesD w FA fs.length fs) (hF : ∀ x ∈ fs, FitF x) (hfc : fs.length ≤ fc) (hM : Fit tick) (hfew : fewS sws = false) : Calls Try.prog 4 #[.agg #[.int .i64 s, .int .i64 p, .slice A ls.length c], .slice SA sws.length sc, .slice FA fs.length fc, .int .i64 tick] w fun e w' => e = .returned (.bool true) ∧ Below w.heap.size w w' := by
  have hmx := hl.max
  have hmf := hf.max
  have hms := hs.max
  have HL0 := Aside.mk hl
  have HS0 := Aside.mk hs
  have HF0 := Aside.mk hf
  have HT := Aside.mk (fun x hx => (hF x hx).2.2.2.1 : ∀ x ∈ fs, Fit x.ttl)
  have HL := Aside.mk (hl.below (below_alloc (Below.refl _ w) (.cells #[.int .i64 s, .int .i64 p, .slice A ls.length c] 24)))
  have HS := Aside.mk (hs.below (below_alloc (Below.refl _ w) (.cells #[.int .i64 s, .int .i64 p, .slice A ls.length c] 24)))
  have HF := Aside.mk (hf.below (below_alloc (Below.refl _ w) (.cells #[.int .i64 s, .int .i64 p, .slice A ls.length c] 24)))
  have KB := Aside.mk (below_alloc (Below.refl _ w) (.cells #[.int .i64 s, .int .i64 p, .slice A ls.length c] 24))
  have HX := Aside.mk (heap_new w (.cells #[.int .i64 s, .int .i64 p, .slice A ls.length c] 24) rfl)
  clear hl hs hf hT hS hF hM
  go_enter Try.func4, Try.ntmps4
  go_wp2_with (first
    | (go_at_call 7; refine (awake19_any _).mono ?_; rintro e w1 ⟨rfl, hb1⟩; have HL := Aside.mk (HL.out.below hb1); have HS := Aside.mk (HS.out.below hb1); have HF := Aside.mk (HF.out.below hb1); have KB := Aside.mk (below_call KB.out hb1); have HX := Aside.mk (blk_keep HX.out hb1); have c0 := blk_cell HX.out 0; have c1 := blk_cell HX.out 1; have c2 := blk_cell HX.out 2; simp at c0 c1 c2; have hsz0 := blk_lt HX.out; clear hb1)
    | (go_at_call 8; refine (fewS_any _ _ _ _ HS.out).mono ?_; rw [hfew]; rintro e w2 ⟨rfl, rfl⟩))
  go_ret
  exact ⟨rfl, KB.out⟩
set_option maxHeartbeats 4000000 in
theorem linksBound_big (s p : Int) (A : Option Addr) (c : Nat) (ls : List Lnk) (SA : Option Addr) (sc : Nat) (sws : List Swt) (FA : Option Addr) (fc : Nat) (fs : List Fly) (tick : Int) (w : World) (hl : Rd lnkD w A ls.length ls) (hT : FitT s p c ls) (hs : Rd swD w SA sws.length sws) (hS : ∀ x ∈ sws, FitSw x) (hsc : sws.length ≤ sc) (hf : Rd fliesD w FA fs.length fs) (hF : ∀ x ∈ fs, FitF x) (hfc : fs.length ≤ fc) (hM : Fit tick) (hfew : fewS sws = true) (h60 : ¬ (ls.length ≤ 60 ∧ fs.length ≤ 100)) : Calls Try.prog 4 #[.agg #[.int .i64 s, .int .i64 p, .slice A ls.length c], .slice SA sws.length sc, .slice FA fs.length fc, .int .i64 tick] w fun e w' => e = .returned (.bool true) ∧ Below w.heap.size w w' := by
  have hmx := hl.max
  have hmf := hf.max
  have hms := hs.max
  have HL0 := Aside.mk hl
  have HS0 := Aside.mk hs
  have HF0 := Aside.mk hf
  have HT := Aside.mk (fun x hx => (hF x hx).2.2.2.1 : ∀ x ∈ fs, Fit x.ttl)
  have HL := Aside.mk (hl.below (below_alloc (Below.refl _ w) (.cells #[.int .i64 s, .int .i64 p, .slice A ls.length c] 24)))
  have HS := Aside.mk (hs.below (below_alloc (Below.refl _ w) (.cells #[.int .i64 s, .int .i64 p, .slice A ls.length c] 24)))
  have HF := Aside.mk (hf.below (below_alloc (Below.refl _ w) (.cells #[.int .i64 s, .int .i64 p, .slice A ls.length c] 24)))
  have KB := Aside.mk (below_alloc (Below.refl _ w) (.cells #[.int .i64 s, .int .i64 p, .slice A ls.length c] 24))
  have HX := Aside.mk (heap_new w (.cells #[.int .i64 s, .int .i64 p, .slice A ls.length c] 24) rfl)
  clear hl hs hf hT hS hF hM
  by_cases h6 : ls.length ≤ 60
  · have d60 : decide ((60 : Int) < (ls.length : Int)) = false := decide_eq_false (by omega)
    have d100 : decide ((100 : Int) < (fs.length : Int)) = true := decide_eq_true (by omega)
    go_enter Try.func4, Try.ntmps4
    go_wp2_with (first
      | (go_at_call 7; refine (awake19_any _).mono ?_; rintro e w1 ⟨rfl, hb1⟩; have HL := Aside.mk (HL.out.below hb1); have HS := Aside.mk (HS.out.below hb1); have HF := Aside.mk (HF.out.below hb1); have KB := Aside.mk (below_call KB.out hb1); have HX := Aside.mk (blk_keep HX.out hb1); have c0 := blk_cell HX.out 0; have c1 := blk_cell HX.out 1; have c2 := blk_cell HX.out 2; simp at c0 c1 c2; have hsz0 := blk_lt HX.out; clear hb1)
      | (go_at_call 8; refine (fewS_any _ _ _ _ HS.out).mono ?_; rw [hfew]; rintro e w2 ⟨rfl, rfl⟩))
    go_ret
    exact ⟨rfl, KB.out⟩
  · have d60 : decide ((60 : Int) < (ls.length : Int)) = true := decide_eq_true (by omega)
    go_enter Try.func4, Try.ntmps4
    go_wp2_with (first
      | (go_at_call 7; refine (awake19_any _).mono ?_; rintro e w1 ⟨rfl, hb1⟩; have HL := Aside.mk (HL.out.below hb1); have HS := Aside.mk (HS.out.below hb1); have HF := Aside.mk (HF.out.below hb1); have KB := Aside.mk (below_call KB.out hb1); have HX := Aside.mk (blk_keep HX.out hb1); have c0 := blk_cell HX.out 0; have c1 := blk_cell HX.out 1; have c2 := blk_cell HX.out 2; simp at c0 c1 c2; have hsz0 := blk_lt HX.out; clear hb1)
      | (go_at_call 8; refine (fewS_any _ _ _ _ HS.out).mono ?_; rw [hfew]; rintro e w2 ⟨rfl, rfl⟩))
    go_ret
    exact ⟨rfl, KB.out⟩
set_option maxHeartbeats 8000000 in
theorem linksBound_main (s p : Int) (A : Option Addr) (c : Nat) (ls : List Lnk) (SA : Option Addr) (sc : Nat) (sws : List Swt) (FA : Option Addr) (fc : Nat) (fs : List Fly) (tick : Int) (w : World) (hl : Rd lnkD w A ls.length ls) (hT : FitT s p c ls) (hs : Rd swD w SA sws.length sws) (hS : ∀ x ∈ sws, FitSw x) (hsc : sws.length ≤ sc) (hf : Rd fliesD w FA fs.length fs) (hF : ∀ x ∈ fs, FitF x) (hfc : fs.length ≤ fc) (hM : Fit tick) (hfew : fewS sws = true) (h60 : ls.length ≤ 60) (h100 : fs.length ≤ 100) : Calls Try.prog 4 #[.agg #[.int .i64 s, .int .i64 p, .slice A ls.length c], .slice SA sws.length sc, .slice FA fs.length fc, .int .i64 tick] w fun e w' => e = .returned (.bool true) ∧ Below w.heap.size w w' := by
  have hmx := hl.max
  have hmf := hf.max
  have hms := hs.max
  have HL0 := Aside.mk hl
  have HS0 := Aside.mk hs
  have HF0 := Aside.mk hf
  have HT := Aside.mk (fun x hx => (hF x hx).2.2.2.1 : ∀ x ∈ fs, Fit x.ttl)
  have HL := Aside.mk (hl.below (below_alloc (Below.refl _ w) (.cells #[.int .i64 s, .int .i64 p, .slice A ls.length c] 24)))
  have HS := Aside.mk (hs.below (below_alloc (Below.refl _ w) (.cells #[.int .i64 s, .int .i64 p, .slice A ls.length c] 24)))
  have HF := Aside.mk (hf.below (below_alloc (Below.refl _ w) (.cells #[.int .i64 s, .int .i64 p, .slice A ls.length c] 24)))
  have KB := Aside.mk (below_alloc (Below.refl _ w) (.cells #[.int .i64 s, .int .i64 p, .slice A ls.length c] 24))
  have HX := Aside.mk (heap_new w (.cells #[.int .i64 s, .int .i64 p, .slice A ls.length c] 24) rfl)
  clear hl hs hf hT hS hF hM
  have d60 : decide ((60 : Int) < (ls.length : Int)) = false := decide_eq_false (by omega)
  have d100 : decide ((100 : Int) < (fs.length : Int)) = false := decide_eq_false (by omega)
  have HN := Aside.mk (@at_none s p ls sws fs tick)
  have HM := Aside.mk (@at_some s p ls sws fs tick)
  have HE := Aside.mk (@at_end s p ls sws fs tick)
  have HLE := Aside.mk (@at_le s p ls sws fs tick)
  generalize hN : nAt s p ls sws fs tick = N at *
  generalize hK : kAt s p ls sws fs tick = K at *
  have hN0 : N 0 = 0 := by rw [← hN]; rfl
  have hK0 : K 0 = 0 := by rw [← hK]; rfl
  have hmG := (linksP_len (s := s) (p := p) (ls := ls) (sws := sws) (tick := tick) fs)
  obtain ⟨G, H, hGH⟩ : ∃ G H, linksP s p ls sws fs tick = (G, H) := ⟨_, _, rfl⟩
  rw [hGH] at HM HE hmG
  dsimp only at hmG
  have HGH := Aside.mk hGH
  clear hGH hN hK
  go_enter Try.func4, Try.ntmps4
  go_wp2_with (first
    | (go_at_call 7; refine (awake19_any _).mono ?_; rintro e w1 ⟨rfl, hb1⟩; have HL := Aside.mk (HL.out.below hb1); have HS := Aside.mk (HS.out.below hb1); have HF := Aside.mk (HF.out.below hb1); have KB := Aside.mk (below_call KB.out hb1); have HX := Aside.mk (blk_keep HX.out hb1); have c0 := blk_cell HX.out 0; have c1 := blk_cell HX.out 1; have c2 := blk_cell HX.out 2; simp at c0 c1 c2; have hsz0 := blk_lt HX.out; clear hb1)
    | (go_at_call 8; refine (fewS_any _ _ _ _ HS.out).mono ?_; rw [hfew]; rintro e w2 ⟨rfl, rfl⟩)
    | (go_at_call 9; refine (links_any s p A c ls sws SA sc fs FA fc tick _ HL.out HS.out HF.out HT.out (by omega)).mono ?_; rw [HGH.out]; dsimp only; rintro e w3 ⟨v1, u1, rfl, ho1, ho2, hb1⟩; obtain ⟨A1, k1, rfl, -, hr1⟩ := ho1.rd; obtain ⟨A2, k2, rfl, -, hr2⟩ := ho2.rd; have R1 := Aside.mk hr1; have R2 := Aside.mk hr2; clear ho1 ho2 hr1 hr2; have HL := Aside.mk (HL.out.below hb1); have HS := Aside.mk (HS.out.below hb1); have HF := Aside.mk (HF.out.below hb1); have KB := Aside.mk (below_call KB.out hb1); have HX := Aside.mk (blk_keep HX.out hb1); have c0 := blk_cell HX.out 0; have c1 := blk_cell HX.out 1; have c2 := blk_cell HX.out 2; simp at c0 c1 c2; have hsz0 := blk_lt HX.out; clear hb1))
  go_loopw [13, 14, 15] (fun n k i wr => ∃ j : Nat, j ≤ fs.length ∧ n = .int .i64 (N j) ∧ k = .int .i64 (K j) ∧ i = .int .i64 j ∧ Below w.heap.size w wr ∧ Rd fliesD wr FA fs.length fs ∧ Rd fliesD wr A1 G.length G ∧ Rd hopD wr A2 H.length H) (fun _ _ i _ => fs.length - (intOf i).toNat)
  case atStart => exact ⟨0, Nat.zero_le _, by rw [hN0]; rfl, by rw [hK0]; rfl, rfl, KB.out, HF.out, R1.out, R2.out⟩
  case round =>
    clear HL HS KB HX HF R1 R2 c0 c1 c2 HGH
    obtain ⟨j, hj, rfl, rfl, rfl, hb, hf, hr1, hr2⟩ := hrel
    have KB := Aside.mk hb
    have HF := Aside.mk hf
    have R1 := Aside.mk hr1
    have R2 := Aside.mk hr2
    have hle := HLE.out hj
    by_cases hlt : j < fs.length
    · obtain ⟨fb, fo, _, rfl, -⟩ := Row.at hf j hlt
      obtain ⟨-, q0, q1, q2, q3, q4, q5, q6⟩ := fly_cells hf (Below.refl _ _) hlt
      have hn := Aside.mk (HN.out hlt)
      have hm := Aside.mk (fun sw => HM.out hlt (sw := sw))
      have HTx := Aside.mk (HT.out fs[j] (List.getElem_mem hlt))
      clear hb hf
      generalize fs[j] = x at *
      by_cases hx0 : x.sw < 0
      · have d0 : decide (x.sw < 0) = true := decide_eq_true hx0
        have h0 := Aside.mk (hn.out (by unfold swAt; rw [if_pos hx0]))
        clear hr1 hr2 hm hn
        go_wp2
        exact ⟨⟨j + 1, by omega, by rw [h0.out.1], by rw [h0.out.2], by go_num, KB.out, HF.out, R1.out, R2.out⟩, by simp [intOf]; omega⟩
      · have d0 : decide (x.sw < 0) = false := decide_eq_false hx0
        by_cases hx1 : (sws.length : Int) ≤ x.sw
        · have d1 : decide ((sws.length : Int) ≤ x.sw) = true := decide_eq_true hx1
          have h0 := Aside.mk (hn.out (by unfold swAt; rw [if_neg hx0, List.getElem?_eq_none (by omega)]))
          clear hr1 hr2 hm hn
          go_wp2
          exact ⟨⟨j + 1, by omega, by rw [h0.out.1], by rw [h0.out.2], by go_num, KB.out, HF.out, R1.out, R2.out⟩, by simp [intOf]; omega⟩
        · have d1 : decide ((sws.length : Int) ≤ x.sw) = false := decide_eq_false hx1
          have hjs : x.sw.toNat < sws.length := by omega
          obtain ⟨y, hy, hk1, e1, e2, e3, e4, h4, hcase⟩ := hm.out sws[x.sw.toNat] (by unfold swAt; rw [if_neg hx0, List.getElem?_eq_getElem hjs])
          try dsimp only at hy h4 hcase
          obtain ⟨hKl, hyK⟩ := List.getElem?_eq_some_iff.1 hy
          obtain ⟨ob, oo, _, rfl, -⟩ := Row.at hr2 (K j) hKl
          obtain ⟨-, p0, p1, p2, p3, p4, p5, p6⟩ := hop_cells hr2 (Below.refl _ _) hKl
          rw [hyK] at p0 p1 p2 p3 p4 p5 p6
          rw [e4] at p0
          rw [e1] at p1
          rw [e3] at p3
          have h4 := Aside.mk h4
          rw [e2] at p2
          have HK1 := Aside.mk hk1
          have HE2 := Aside.mk e2
          have HYK := Aside.mk hyK
          clear hm hn hy hk1 e1 e2 e3 e4 hyK p4
          have dK : decide ((H.length : Int) ≤ (K j : Int)) = false := decide_eq_false (by omega)
          generalize hNj : N j = n at *
          generalize hKj : K j = k at *
          generalize hNj1 : N (j + 1) = n1 at *
          go_wp2
          go_quiet (fail)
          go_upto_if 127 with fail
          go_cut [13] (fun v wx => v = .int .i64 n1 ∧ Below w.heap.size w wx ∧ Rd fliesD wx (some ⟨fb, fo, none⟩) fs.length fs ∧ Rd fliesD wx A1 G.length G ∧ Rd hopD wx (some ⟨ob, oo, none⟩) H.length H)
          case first => as_aux_lemma =>
            rcases hcase with ⟨hw, hn1, z, hz, z1, z2, z3⟩ | ⟨hw, hn1⟩
            · obtain ⟨hnl, hzG⟩ := List.getElem?_eq_some_iff.1 hz
              obtain ⟨gb, go, _, rfl, -⟩ := Row.at hr1 n hnl
              obtain ⟨-, r0, r1, r2, r3, r4, r5, r6⟩ := fly_cells hr1 (Below.refl _ _) hnl
              rw [hzG] at r0 r3
              rw [z1] at r0
              rw [z2] at r3
              have dw : (y.what == 0) = true := by simp [hw]
              have dn : decide ((G.length : Int) < (n : Int) + 1) = false := decide_eq_false (by omega)
              have hhi := HTx.out.hi
              have hwt : ∀ a : Int, a = x.ttl - 1 → IntKind.i64.wrap a = a := fun a ha => IntWalk.i64_in _ (by omega)
              have hwn : ∀ a : Int, a = (n : Int) → IntKind.i64.wrap a = a := fun a ha => IntWalk.i64_in _ (by omega)
              clear hz hzG z1 z2 z3 hhi r1 r2 r4 r5 r6 hw
              go_wp2
              go_quiet (fail)
              go_wp2
              go_meet
              exact ⟨by rw [hn1] <;> go_num, below_drewN (below_drewN KB.out _) _, HF.out, R1.out, R2.out⟩
            · have dw : (y.what == 0) = false := by simp [hw]
              clear hw
              go_wp2
              go_meet
              exact ⟨by rw [hn1], below_drewN KB.out _, HF.out, R1.out, R2.out⟩
          case rest => as_aux_lemma =>
            obtain ⟨rfl, hb, hf, hr1, hr2⟩ := hcut
            have KB := Aside.mk hb
            have HF := Aside.mk hf
            have R1 := Aside.mk hr1
            have R2 := Aside.mk hr2
            clear hcase hb hf hr1 q0 q1 q2 q3 q4 q5 q6 p0 p1 p2 p3 p5 p6
            go_wp2
            go_loopw [16, 17] (fun m q wr => ∃ r : Nat, r ≤ k + 1 ∧ m = .int .i64 (carried (H.take r) y.sw y.out) ∧ q = .int .i64 r ∧ Below w.heap.size w wr ∧ Rd fliesD wr (some ⟨fb, fo, none⟩) fs.length fs ∧ Rd fliesD wr A1 G.length G ∧ Rd hopD wr (some ⟨ob, oo, none⟩) H.length H) (fun _ q _ => k + 1 - (intOf q).toNat)
            case atStart => exact ⟨0, by omega, rfl, rfl, KB.out, HF.out, R1.out, R2.out⟩
            case round =>
              clear KB HF R1 R2 hr2
              obtain ⟨r, hr, rfl, rfl, hb, hf, hr1, hr2⟩ := hrel
              have KB := Aside.mk hb
              have HF := Aside.mk hf
              have R1 := Aside.mk hr1
              have R2 := Aside.mk hr2
              clear hb hf hr1
              by_cases hltr : r < k + 1
              · have hrl : r < H.length := by omega
                obtain ⟨-, -, -, g2, -, -, g5, g6⟩ := hop_cells hr2 (Below.refl _ _) hrl
                obtain ⟨-, -, -, p2, -, -, -, p6⟩ := hop_cells hr2 (Below.refl _ _) hKl
                rw [HYK.out] at p2 p6
                have ht := Aside.mk (carried_take hrl y.sw y.out)
                have hle := carried_le (H.take r) y.sw y.out
                rw [List.length_take] at hle
                have hle2 : carried (H.take r) y.sw y.out ≤ r := by omega
                clear hle hr2
                generalize carried (H.take r) y.sw y.out = cc at *
                obtain ⟨v, hv⟩ : ∃ v, H[r] = v := ⟨_, rfl⟩
                rw [hv] at g2 g5 g6 ht
                have hfin := Aside.mk (fun h : isBy y.sw y.out v = false => show carried (H.take (r + 1)) y.sw y.out = cc by rw [ht.out, h]; rfl)
                have hfin1 := Aside.mk (fun h : isBy y.sw y.out v = true => show carried (H.take (r + 1)) y.sw y.out = cc + 1 by rw [ht.out, h]; rfl)
                clear hv
                cases h1 : (v.what == 0)
                · as_aux_lemma =>
                  have hbb : isBy y.sw y.out v = false := by unfold isBy; rw [decide_eq_false (by simpa using h1)]; rfl
                  go_wp2
                  go_quiet (fail)
                  go_wp2
                  exact ⟨⟨r + 1, by omega, by rw [hfin.out hbb], by go_num, below_drewN KB.out _, HF.out, R1.out, R2.out⟩, by simp [intOf]; omega⟩
                · cases h2 : (v.sw == y.sw)
                  · as_aux_lemma =>
                    have hbb : isBy y.sw y.out v = false := by unfold isBy; rw [decide_eq_false (show ¬ v.sw = y.sw by simpa using h2)]; simp
                    go_wp2
                    go_quiet (fail)
                    go_wp2
                    exact ⟨⟨r + 1, by omega, by rw [hfin.out hbb], by go_num, below_drewN KB.out _, HF.out, R1.out, R2.out⟩, by simp [intOf]; omega⟩
                  · cases h3 : (v.out == y.out)
                    · as_aux_lemma =>
                      have hbb : isBy y.sw y.out v = false := by unfold isBy; rw [decide_eq_false (show ¬ v.out = y.out by simpa using h3)]; simp
                      go_wp2
                      go_quiet (fail)
                      go_wp2
                      exact ⟨⟨r + 1, by omega, by rw [hfin.out hbb], by go_num, below_drewN KB.out _, HF.out, R1.out, R2.out⟩, by simp [intOf]; omega⟩
                    · as_aux_lemma =>
                      have hbb : isBy y.sw y.out v = true := by
                        unfold isBy
                        rw [decide_eq_true (show v.what = 0 by simpa using h1), decide_eq_true (show v.sw = y.sw by simpa using h2), decide_eq_true (show v.out = y.out by simpa using h3)]; rfl
                      go_wp2
                      go_quiet (fail)
                      go_wp2
                      exact ⟨⟨r + 1, by omega, by rw [hfin1.out hbb]; rfl, by go_num, below_drewN KB.out _, HF.out, R1.out, R2.out⟩, by simp [intOf]; omega⟩
              · obtain rfl : r = k + 1 := by omega
                clear hr2
                have h4' := h4.out
                have d4 : decide ((4 : Int) < (carried (H.take (k + 1)) y.sw y.out : Int)) = false := decide_eq_false (by omega)
                generalize carried (H.take (k + 1)) y.sw y.out = cc at *
                clear h4'
                go_wp2
                go_roundw
                case rel => exact ⟨j + 1, by omega, by rw [hNj1], by rw [HK1.out] <;> go_num, by go_num, KB.out, HF.out, R1.out, R2.out⟩
                case measure => simp [intOf]; omega
    · obtain rfl : j = fs.length := by omega
      have hE := HE.out
      try dsimp only at hE
      rw [hE.1, hE.2]
      clear hle
      go_wp2
      go_ret
      exact ⟨rfl, KB.out⟩
theorem linksBound_walk (s p : Int) (A : Option Addr) (c : Nat) (ls : List Lnk) (SA : Option Addr) (sc : Nat) (sws : List Swt) (FA : Option Addr) (fc : Nat) (fs : List Fly) (tick : Int) (w : World) (hl : Rd lnkD w A ls.length ls) (hT : FitT s p c ls) (hs : Rd swD w SA sws.length sws) (hS : ∀ x ∈ sws, FitSw x) (hsc : sws.length ≤ sc) (hf : Rd fliesD w FA fs.length fs) (hF : ∀ x ∈ fs, FitF x) (hfc : fs.length ≤ fc) (hM : Fit tick) : Calls Try.prog 4 #[.agg #[.int .i64 s, .int .i64 p, .slice A ls.length c], .slice SA sws.length sc, .slice FA fs.length fc, .int .i64 tick] w fun e w' => e = .returned (.bool true) ∧ Below w.heap.size w w' := by
  cases hfew : fewS sws
  · exact linksBound_few s p A c ls SA sc sws FA fc fs tick w hl hT hs hS hsc hf hF hfc hM hfew
  by_cases h60 : ls.length ≤ 60 ∧ fs.length ≤ 100
  · exact linksBound_main s p A c ls SA sc sws FA fc fs tick w hl hT hs hS hsc hf hF hfc hM hfew h60.1 h60.2
  · exact linksBound_big s p A c ls SA sc sws FA fc fs tick w hl hT hs hS hsc hf hF hfc hM hfew h60
end Go.Proofs.Ytajmchdmophdjaa
