/- The walk through LinksGone. -/
import Derived.Test.YtajmchdmophdjaaLinkD
import Derived.Test.YtajmchdmophdjaaLinkQ
namespace Go.Proofs.Ytajmchdmophdjaa
open Go.RowKit
set_option maxRecDepth 100000
section
variable {s p : Int} {ls : List Lnk} {sws : List Swt} {fs : List Fly} {tick other : Int}
/-- Those that are at a switch. -/
def hereP (sws : List Swt) (fs : List Fly) : List Fly := fs.filter fun x => (swAt sws x.sw).isSome
theorem here_none {j : Nat} (hj : j < fs.length) (h : swAt sws fs[j].sw = none) : hereP sws (fs.take (j + 1)) = hereP sws (fs.take j) := by
  unfold hereP
  rw [List.take_succ_eq_append_getElem hj, List.filter_append, List.filter_cons_of_neg (by simp [h]), List.filter_nil, List.append_nil]
theorem here_some {j : Nat} (hj : j < fs.length) {sw : Swt} (h : swAt sws fs[j].sw = some sw) : hereP sws (fs.take (j + 1)) = hereP sws (fs.take j) ++ [fs[j]] := by
  unfold hereP
  rw [List.take_succ_eq_append_getElem hj, List.filter_append, List.filter_cons_of_pos (by simp [h]), List.filter_nil]
theorem here_len (l : List Fly) : (hereP sws l).length ≤ l.length := List.length_filter_le _ _
theorem here_mem {x : Fly} (h : x ∈ hereP sws fs) : x ∈ fs := (List.mem_filter.1 h).1
/-- The hops, of which the first j have the tick. -/
def ticked (t o : Int) (H : List Hop) (j : Nat) : List Hop := H.take j ++ (H.drop j).map (setT o)
theorem ticked_len (t o : Int) (H : List Hop) {j : Nat} (hj : j ≤ H.length) : (ticked t o H j).length = H.length := by
  unfold ticked
  rw [List.length_append, List.length_map, List.length_take, List.length_drop]
  omega
theorem ticked_at (t o : Int) (H : List Hop) {j : Nat} (hj : j < H.length) (h : j < (ticked t o H j).length) : (ticked t o H j)[j] = setT o H[j] := by
  unfold ticked at *
  rw [List.getElem_append_right (by simp; omega)]
  simp [Nat.min_eq_left (Nat.le_of_lt hj)]
theorem ticked_set (t o : Int) (H : List Hop) {j : Nat} (hj : j < H.length) (ht : H[j].tick = t) : (ticked t o H j).set j (setT t (setT o H[j])) = ticked t o H (j + 1) := by
  have hb : setT t (setT o H[j]) = H[j] := by
    generalize H[j] = y at *
    cases y
    simp only [setT] at *
    rw [ht]
  rw [hb]
  unfold ticked
  rw [List.set_append_right _ _ (by simp; omega), List.length_take, Nat.min_eq_left (by omega), Nat.sub_self, List.drop_eq_getElem_cons hj, List.map_cons, List.set_cons_zero, List.take_succ_eq_append_getElem hj, List.append_assoc]
  rfl
theorem ticked_end (t o : Int) (H : List Hop) : ticked t o H H.length = H := by
  unfold ticked
  simp
end
theorem infoFly2 : (Try.prog.info? 38).map (fun i => (i.zero, i.size, i.bytes)) = some (some (.agg #[.int .i64 0, .int .i64 0, .int .i64 0, .int .i64 0, .int .i64 0, .int .i64 0, .int .i64 0]), 7, 56) := infoFly
set_option maxHeartbeats 4000000 in
theorem linksGone_few (s p : Int) (A : Option Addr) (c : Nat) (ls : List Lnk) (SA : Option Addr) (sc : Nat) (sws : List Swt) (FA : Option Addr) (fc : Nat) (fs : List Fly) (tick : Int) (other : Int) (w : World) (hl : Rd lnkD w A ls.length ls) (hT : FitT s p c ls) (hs : Rd swD w SA sws.length sws) (hS : ∀ x ∈ sws, FitSw x) (hsc : sws.length ≤ sc) (hf : Rd fliesD w FA fs.length fs) (hF : ∀ x ∈ fs, FitF x) (hfc : fs.length ≤ fc) (hM : Fit tick) (hO : Fit other) (hfew : fewS sws = false) : Calls Try.prog 6 #[.agg #[.int .i64 s, .int .i64 p, .slice A ls.length c], .slice SA sws.length sc, .slice FA fs.length fc, .int .i64 tick, .int .i64 other] w fun e w' => e = .returned (.bool true) ∧ Below w.heap.size w w' := by
  have hmx := hl.max
  have hmf := hf.max
  have hms := hs.max
  have HL0 := Aside.mk hl
  have HS0 := Aside.mk hs
  have HF0 := Aside.mk hf
  have HT := Aside.mk (fun x hx => (hF x hx).2.2.2.1 : ∀ x ∈ fs, Fit x.ttl)
  have HL := Aside.mk (hl.below (below_alloc (Below.refl _ w) (.cells #[.int .i64 s, .int .i64 p, .slice A ls.length c] 24)))
  have HS := Aside.mk (hs.below (below_alloc (Below.refl _ w) (.cells #[.int .i64 s, .int .i64 p, .slice A ls.length c] 24)))
  have HF := Aside.mk (hf.below (below_alloc (Below.refl _ w) (.cells #[.int .i64 s, .int .i64 p, .slice A ls.length c] 24)))
  have KB := Aside.mk (below_alloc (Below.refl _ w) (.cells #[.int .i64 s, .int .i64 p, .slice A ls.length c] 24))
  have HX := Aside.mk (heap_new w (.cells #[.int .i64 s, .int .i64 p, .slice A ls.length c] 24) rfl)
  clear hl hs hf hT hS hF hM hO
  go_enter Try.func6, Try.ntmps6
  go_wp2_with (first
    | (go_at_call 7; refine (awake19_any _).mono ?_; rintro e w1 ⟨rfl, hb1⟩; have HL := Aside.mk (HL.out.below hb1); have HS := Aside.mk (HS.out.below hb1); have HF := Aside.mk (HF.out.below hb1); have KB := Aside.mk (below_call KB.out hb1); have HX := Aside.mk (blk_keep HX.out hb1); have c0 := blk_cell HX.out 0; have c1 := blk_cell HX.out 1; have c2 := blk_cell HX.out 2; simp at c0 c1 c2; have hsz0 := blk_lt HX.out; clear hb1)
    | (go_at_call 8; refine (fewS_any _ _ _ _ HS.out).mono ?_; rw [hfew]; rintro e w2 ⟨rfl, rfl⟩))
  go_ret
  exact ⟨rfl, KB.out⟩
set_option maxHeartbeats 4000000 in
theorem linksGone_big (s p : Int) (A : Option Addr) (c : Nat) (ls : List Lnk) (SA : Option Addr) (sc : Nat) (sws : List Swt) (FA : Option Addr) (fc : Nat) (fs : List Fly) (tick : Int) (other : Int) (w : World) (hl : Rd lnkD w A ls.length ls) (hT : FitT s p c ls) (hs : Rd swD w SA sws.length sws) (hS : ∀ x ∈ sws, FitSw x) (hsc : sws.length ≤ sc) (hf : Rd fliesD w FA fs.length fs) (hF : ∀ x ∈ fs, FitF x) (hfc : fs.length ≤ fc) (hM : Fit tick) (hO : Fit other) (hfew : fewS sws = true) (h60 : ¬ (ls.length ≤ 60 ∧ fs.length ≤ 100)) : Calls Try.prog 6 #[.agg #[.int .i64 s, .int .i64 p, .slice A ls.length c], .slice SA sws.length sc, .slice FA fs.length fc, .int .i64 tick, .int .i64 other] w fun e w' => e = .returned (.bool true) ∧ Below w.heap.size w w' := by
  have hmx := hl.max
  have hmf := hf.max
  have hms := hs.max
  have HL0 := Aside.mk hl
  have HS0 := Aside.mk hs
  have HF0 := Aside.mk hf
  have HT := Aside.mk (fun x hx => (hF x hx).2.2.2.1 : ∀ x ∈ fs, Fit x.ttl)
  have HL := Aside.mk (hl.below (below_alloc (Below.refl _ w) (.cells #[.int .i64 s, .int .i64 p, .slice A ls.length c] 24)))
  have HS := Aside.mk (hs.below (below_alloc (Below.refl _ w) (.cells #[.int .i64 s, .int .i64 p, .slice A ls.length c] 24)))
  have HF := Aside.mk (hf.below (below_alloc (Below.refl _ w) (.cells #[.int .i64 s, .int .i64 p, .slice A ls.length c] 24)))
  have KB := Aside.mk (below_alloc (Below.refl _ w) (.cells #[.int .i64 s, .int .i64 p, .slice A ls.length c] 24))
  have HX := Aside.mk (heap_new w (.cells #[.int .i64 s, .int .i64 p, .slice A ls.length c] 24) rfl)
  clear hl hs hf hT hS hF hM hO
  by_cases h6 : ls.length ≤ 60
  · have d60 : decide ((60 : Int) < (ls.length : Int)) = false := decide_eq_false (by omega)
    have d100 : decide ((100 : Int) < (fs.length : Int)) = true := decide_eq_true (by omega)
    go_enter Try.func6, Try.ntmps6
    go_wp2_with (first
      | (go_at_call 7; refine (awake19_any _).mono ?_; rintro e w1 ⟨rfl, hb1⟩; have HL := Aside.mk (HL.out.below hb1); have HS := Aside.mk (HS.out.below hb1); have HF := Aside.mk (HF.out.below hb1); have KB := Aside.mk (below_call KB.out hb1); have HX := Aside.mk (blk_keep HX.out hb1); have c0 := blk_cell HX.out 0; have c1 := blk_cell HX.out 1; have c2 := blk_cell HX.out 2; simp at c0 c1 c2; have hsz0 := blk_lt HX.out; clear hb1)
      | (go_at_call 8; refine (fewS_any _ _ _ _ HS.out).mono ?_; rw [hfew]; rintro e w2 ⟨rfl, rfl⟩))
    go_ret
    exact ⟨rfl, KB.out⟩
  · have d60 : decide ((60 : Int) < (ls.length : Int)) = true := decide_eq_true (by omega)
    go_enter Try.func6, Try.ntmps6
    go_wp2_with (first
      | (go_at_call 7; refine (awake19_any _).mono ?_; rintro e w1 ⟨rfl, hb1⟩; have HL := Aside.mk (HL.out.below hb1); have HS := Aside.mk (HS.out.below hb1); have HF := Aside.mk (HF.out.below hb1); have KB := Aside.mk (below_call KB.out hb1); have HX := Aside.mk (blk_keep HX.out hb1); have c0 := blk_cell HX.out 0; have c1 := blk_cell HX.out 1; have c2 := blk_cell HX.out 2; simp at c0 c1 c2; have hsz0 := blk_lt HX.out; clear hb1)
      | (go_at_call 8; refine (fewS_any _ _ _ _ HS.out).mono ?_; rw [hfew]; rintro e w2 ⟨rfl, rfl⟩))
    go_ret
    exact ⟨rfl, KB.out⟩
set_option maxHeartbeats 8000000 in
theorem linksGone_main (s p : Int) (A : Option Addr) (c : Nat) (ls : List Lnk) (SA : Option Addr) (sc : Nat) (sws : List Swt) (FA : Option Addr) (fc : Nat) (fs : List Fly) (tick : Int) (other : Int) (w : World) (hl : Rd lnkD w A ls.length ls) (hT : FitT s p c ls) (hs : Rd swD w SA sws.length sws) (hS : ∀ x ∈ sws, FitSw x) (hsc : sws.length ≤ sc) (hf : Rd fliesD w FA fs.length fs) (hF : ∀ x ∈ fs, FitF x) (hfc : fs.length ≤ fc) (hM : Fit tick) (hO : Fit other) (hfew : fewS sws = true) (h60 : ls.length ≤ 60) (h100 : fs.length ≤ 100) : Calls Try.prog 6 #[.agg #[.int .i64 s, .int .i64 p, .slice A ls.length c], .slice SA sws.length sc, .slice FA fs.length fc, .int .i64 tick, .int .i64 other] w fun e w' => e = .returned (.bool true) ∧ Below w.heap.size w w' := by
  have hmx := hl.max
  have hmf := hf.max
  have hms := hs.max
  have HL0 := Aside.mk hl
  have HS0 := Aside.mk hs
  have HF0 := Aside.mk hf
  have HT := Aside.mk (fun x hx => (hF x hx).2.2.2.1 : ∀ x ∈ fs, Fit x.ttl)
  have HL := Aside.mk (hl.below (below_alloc (Below.refl _ w) (.cells #[.int .i64 s, .int .i64 p, .slice A ls.length c] 24)))
  have HS := Aside.mk (hs.below (below_alloc (Below.refl _ w) (.cells #[.int .i64 s, .int .i64 p, .slice A ls.length c] 24)))
  have HF := Aside.mk (hf.below (below_alloc (Below.refl _ w) (.cells #[.int .i64 s, .int .i64 p, .slice A ls.length c] 24)))
  have KB := Aside.mk (below_alloc (Below.refl _ w) (.cells #[.int .i64 s, .int .i64 p, .slice A ls.length c] 24))
  have HX := Aside.mk (heap_new w (.cells #[.int .i64 s, .int .i64 p, .slice A ls.length c] 24) rfl)
  clear hl hs hf hT hS hF hM hO
  have d60 : decide ((60 : Int) < (ls.length : Int)) = false := decide_eq_false (by omega)
  have d100 : decide ((100 : Int) < (fs.length : Int)) = false := decide_eq_false (by omega)
  have HGO0 := linksP_here (s := s) (p := p) (ls := ls) (sws := sws) (tick := other) fs
  rw [linksP_other (tick := tick) other fs] at HGO0
  have hmG := (linksP_len (s := s) (p := p) (ls := ls) (sws := sws) (tick := tick) fs)
  have htk := linksP_tick (s := s) (p := p) (ls := ls) (sws := sws) (tick := tick) fs
  obtain ⟨G, H, hGH⟩ : ∃ G H, linksP s p ls sws fs tick = (G, H) := ⟨_, _, rfl⟩
  rw [hGH] at HGO0 hmG htk
  dsimp only at HGO0 hmG htk
  have HGH := Aside.mk hGH
  have HGO : Aside (linksP s p ls sws (hereP sws fs) other = (G, ticked tick other H 0)) := Aside.mk HGO0
  have HTK := Aside.mk htk
  clear hGH HGO0 htk
  go_enter Try.func6, Try.ntmps6
  go_wp2_with (first
    | (go_at_call 7; refine (awake19_any _).mono ?_; rintro e w1 ⟨rfl, hb1⟩; have HL := Aside.mk (HL.out.below hb1); have HS := Aside.mk (HS.out.below hb1); have HF := Aside.mk (HF.out.below hb1); have KB := Aside.mk (below_call KB.out hb1); have HX := Aside.mk (blk_keep HX.out hb1); have c0 := blk_cell HX.out 0; have c1 := blk_cell HX.out 1; have c2 := blk_cell HX.out 2; simp at c0 c1 c2; have hsz0 := blk_lt HX.out; clear hb1)
    | (go_at_call 8; refine (fewS_any _ _ _ _ HS.out).mono ?_; rw [hfew]; rintro e w2 ⟨rfl, rfl⟩))
  go_loopw [13, 14] (fun v i wr => ∃ j : Nat, j ≤ fs.length ∧ i = .int .i64 j ∧ Own flyF wr w.heap.size 38 v (hereP sws (fs.take j)) ∧ Below w.heap.size w wr ∧ wr.heap[w.heap.size]? = some (.cells #[.int .i64 s, .int .i64 p, .slice A ls.length c] 24)) (fun _ i _ => fs.length - (intOf i).toNat)
  case atStart => exact ⟨0, Nat.zero_le _, rfl, Own.nil _ _ _ _, KB.out, HX.out⟩
  case round =>
    clear HL HS HF KB HX c0 c1 c2 hsz0
    obtain ⟨j, hj, rfl, hv, hb, hx⟩ := hrel
    have KB := Aside.mk hb
    have HX := Aside.mk hx
    have KV := Aside.mk hv
    obtain ⟨VA, vc, rfl, -⟩ := hv.form
    by_cases hlt : j < fs.length
    · obtain ⟨fb, fo, _, rfl, -⟩ := Row.at HF0.out j hlt
      obtain ⟨-, q0, q1, q2, q3, q4, q5, q6⟩ := fly_cells HF0.out hb hlt
      have hn := Aside.mk (here_none (sws := sws) hlt)
      have hm := Aside.mk (fun sw => here_some (sws := sws) hlt (sw := sw))
      have hvl := here_len (sws := sws) (fs.take j)
      rw [List.length_take] at hvl
      clear hb hx hv
      generalize fs[j] = x at *
      by_cases hx0 : x.sw < 0
      · have d0 : decide ((0 : Int) ≤ x.sw) = false := decide_eq_false (by omega)
        have h0 := Aside.mk (hn.out (by unfold swAt; rw [if_pos hx0]))
        clear hn hm
        go_wp2
        exact ⟨⟨j + 1, by omega, by go_num, by rw [h0.out]; exact KV.out, KB.out, HX.out⟩, by simp [intOf]; omega⟩
      · have d0 : decide ((0 : Int) ≤ x.sw) = true := decide_eq_true (by omega)
        by_cases hx1 : (sws.length : Int) ≤ x.sw
        · have d1 : decide (x.sw < (sws.length : Int)) = false := decide_eq_false (by omega)
          have h0 := Aside.mk (hn.out (by unfold swAt; rw [if_neg hx0, List.getElem?_eq_none (by omega)]))
          clear hn hm
          go_wp2
          exact ⟨⟨j + 1, by omega, by go_num, by rw [h0.out]; exact KV.out, KB.out, HX.out⟩, by simp [intOf]; omega⟩
        · have d1 : decide (x.sw < (sws.length : Int)) = true := decide_eq_true (by omega)
          have hjs : x.sw.toNat < sws.length := by omega
          have h0 := Aside.mk (hm.out sws[x.sw.toNat] (by unfold swAt; rw [if_neg hx0, List.getElem?_eq_getElem hjs]))
          clear hn hm
          generalize hereP sws (fs.take j) = V at *
          go_wp2_with (at_builtin; refine wp_app1 (f := flyF) w.heap.size rfl _ _ _ _ _ _ rfl Try.underlying26 infoFly rfl (by decide) (.slice VA V.length vc) V x _ rfl rfl (by go_simp) KV.out (by have := KB.out.size; omega) (by omega) ?_; intro v2 w3 ho2 hg2 hat2; have HX := Aside.mk ((hg2.block _ (blk_lt HX.out) (fun e => KV.out.ne_type HX.out (by decide) e.symm)).trans HX.out); have KB := Aside.mk (below_own KB.out hg2 (fun b e => ⟨(KV.out.lt b e).1, (KV.out.lt b e).2⟩)); have KV1 := Aside.mk ho2; clear hg2 ho2 hat2)
          exact ⟨⟨j + 1, by omega, by go_num, by rw [h0.out]; exact KV1.out, KB.out, HX.out⟩, by simp [intOf]; omega⟩
    · obtain rfl : j = fs.length := by omega
      have hv2 := hv
      rw [List.take_length] at hv2
      obtain ⟨VB, vd, e, -, hrv⟩ := hv2.rd
      rw [List.take_length] at KV
      injection e with e1 e2 e3
      obtain rfl := e1
      obtain rfl := e3
      have RV := Aside.mk hrv
      have dl : (hereP sws (fs.take fs.length)).length = (hereP sws fs).length := by rw [List.take_length]
      rw [dl]
      have c0 := blk_cell hx 0
      have c1 := blk_cell hx 1
      have c2 := blk_cell hx 2
      simp at c0 c1 c2
      have hsz0 := blk_lt hx
      clear hv hv2 hrv hb hx KV dl
      go_wp2_with (first
        | (have hfl := HFL2; clear hfl HFL2; go_at_call 9; refine (links_any s p A c ls sws SA sc [] none 0 tick _ (HL0.out.below KB.out) (HS0.out.below KB.out) (Rd.nil _ _ _) (fun x hx => by simp at hx) (by simp)).mono ?_; rw [show linksP s p ls sws [] tick = ([], []) from rfl]; dsimp only; rintro e w7 ⟨v5, u5, rfl, ho1, ho2, hb1⟩; obtain ⟨A5, hk5⟩ := ho1.form; obtain ⟨k5, hk5⟩ := hk5; have hk5a := hk5.1; clear hk5; subst hk5a; obtain ⟨A6, hk6⟩ := ho2.form; obtain ⟨k6, hk6⟩ := hk6; have hk6a := hk6.1; clear hk6; subst hk6a; have KB := Aside.mk (below_call KB.out hb1); clear ho1 ho2 hb1)
        | (have hfl := HFL; clear hfl HFL; go_at_call 9; refine (links_any s p A c ls sws SA sc (hereP sws fs) VA vc other _ (HL0.out.below KB.out) (HS0.out.below KB.out) RV.out (fun x hx => HT.out x (here_mem hx)) (by have := here_len (sws := sws) fs; omega)).mono ?_; rw [HGO.out]; dsimp only; rintro e w4 ⟨v2, u2, rfl, ho1, ho2, hb1⟩; have hw3 := KB.out.size; have HB34 := Aside.mk hb1; have R3 := Aside.mk ho1; have R4 := Aside.mk ho2; have HFL2 : Aside True := .mk trivial; clear ho1 ho2 hb1)
        | (go_at_call 9; refine (links_any s p A c ls sws SA sc fs FA fc tick _ (HL0.out.below KB.out) (HS0.out.below KB.out) (HF0.out.below KB.out) HT.out (by omega)).mono ?_; rw [HGH.out]; dsimp only; rintro e w3 ⟨v1, u1, rfl, ho1, ho2, hb1⟩; obtain ⟨A1, k1, rfl, -, hr1⟩ := ho1.rd; obtain ⟨A2, k2, rfl, -, hr2⟩ := ho2.rd; have R1 := Aside.mk hr1; have R2 := Aside.mk hr2; have RV := Aside.mk (RV.out.below hb1); have KB := Aside.mk (below_call KB.out hb1); have HX := Aside.mk (blk_keep HX.out hb1); have c0 := blk_cell HX.out 0; have c1 := blk_cell HX.out 1; have c2 := blk_cell HX.out 2; simp at c0 c1 c2; have hsz0 := blk_lt HX.out; have HFL : Aside True := .mk trivial; clear ho1 ho2 hr1 hr2 hb1))
      obtain ⟨A3, k3, rfl, -⟩ := R3.out.form
      obtain ⟨A4, k4, rfl, -⟩ := R4.out.form
      rw [ticked_len _ _ _ (Nat.zero_le _)] at R4 ⊢
      have hx3 := blk_lt HX.out
      clear HGH HGO c0 c1 c2 hsz0
      go_loopw [19] (fun i wr => ∃ j : Nat, j ≤ H.length ∧ i = .int .i64 j ∧ Below w3.heap.size w3 wr ∧ Own flyF wr w3.heap.size 38 (.slice A3 G.length k3) G ∧ Own hopF wr w3.heap.size 40 (.slice A4 H.length k4) (ticked tick other H j)) (fun i _ => H.length - (intOf i).toNat)
      case atStart => exact ⟨0, Nat.zero_le _, rfl, HB34.out, R3.out, R4.out⟩
      case round =>
        clear HB34 R3 R4
        obtain ⟨j, hj, rfl, hb, hv3, hv4⟩ := hrel
        have HB := Aside.mk hb
        have V3 := Aside.mk hv3
        have V4 := Aside.mk hv4
        by_cases hlt : j < H.length
        · have hjl : j < (ticked tick other H j).length := by rw [ticked_len _ _ _ hj]; exact hlt
          obtain ⟨g0, cc, e, hge, hgl, -⟩ := hv4.addr (by omega)
          injection e with e1 e2 e3
          obtain rfl := e1
          have t0 : wr.cell? ⟨g0, j * 7, none⟩ = some (.int .i64 other) := by
            have := hv4.at hjl 0 (.int .i64 other) (by rw [ticked_at _ _ _ hlt]; rfl)
            exact this
          have tf := fun o => hv4.frozen o
          have hput := hv4.put hjl (setT tick (setT other H[j])) 0 (.int .i64 tick) (by decide) (by rw [ticked_at _ _ _ hlt]; rfl)
          rw [ticked_set _ _ _ hlt (HTK.out _ (List.getElem_mem hlt))] at hput
          have HPUT := Aside.mk hput
          have hfar : (Value.slice A3 G.length k3).ownBlock ≠ some g0 := by
            rcases hv3.apart hv4 (by decide) with h | h
            · rw [h]; intro h2; cases h2
            · exact h
          have HFAR := Aside.mk hfar
          clear hb hv3 hv4 hput hfar e2 e3 hjl
          go_wp2
          exact ⟨⟨j + 1, by omega, by go_num, HB.out.setCell (by exact hge) _, V3.out.far (p := ⟨g0, j * 7, none⟩) HFAR.out _, HPUT.out⟩, by simp [intOf]; omega⟩
        · obtain rfl : j = H.length := by omega
          rw [ticked_end] at hv4
          obtain ⟨B3, d3, e, -, r3⟩ := hv3.rd
          injection e with e1 e2 e3
          obtain rfl := e1
          obtain ⟨B4, d4, e, -, r4⟩ := hv4.rd
          injection e with e1 e2 e3
          obtain rfl := e1
          have R1 := Aside.mk (R1.out.below hb)
          have R2 := Aside.mk (R2.out.below hb)
          have R3 := Aside.mk r3
          have R4 := Aside.mk r4
          have KB := Aside.mk (below_call KB.out hb)
          have HX := Aside.mk (blk_keep HX.out hb)
          have c0 := blk_cell HX.out 0; have c1 := blk_cell HX.out 1; have c2 := blk_cell HX.out 2; simp at c0 c1 c2; have hsz0 := blk_lt HX.out
          clear hb hv3 hv4 r3 r4 e2 e3 HB V3 V4
          go_wp2_with (first
            | (have hfl := HFL2; clear hfl HFL2; go_at_call 9; refine (links_any s p A c ls sws SA sc [] none 0 tick _ (HL0.out.below KB.out) (HS0.out.below KB.out) (Rd.nil _ _ _) (fun x hx => by simp at hx) (by simp)).mono ?_; rw [show linksP s p ls sws [] tick = ([], []) from rfl]; dsimp only; rintro e w7 ⟨v5, u5, rfl, ho1, ho2, hb1⟩; obtain ⟨A5, hk5⟩ := ho1.form; obtain ⟨k5, hk5⟩ := hk5; have hk5a := hk5.1; clear hk5; subst hk5a; obtain ⟨A6, hk6⟩ := ho2.form; obtain ⟨k6, hk6⟩ := hk6; have hk6a := hk6.1; clear hk6; subst hk6a; have KB := Aside.mk (below_call KB.out hb1); clear ho1 ho2 hb1)
            | (go_at_call 12; refine (sameH_any _ _ _ _ _ _ _ R2.out R4.out).mono ?_; rw [decide_eq_true rfl]; rintro e w5 ⟨rfl, hb1⟩; have R1 := Aside.mk (R1.out.below hb1); have R3 := Aside.mk (R3.out.below hb1); have KB := Aside.mk (below_call KB.out hb1); have HX := Aside.mk (blk_keep HX.out hb1); have c0 := blk_cell HX.out 0; have c1 := blk_cell HX.out 1; have c2 := blk_cell HX.out 2; simp at c0 c1 c2; have hsz0 := blk_lt HX.out; clear hb1)
            | (go_at_call 11; refine (sameF_any _ _ _ _ _ _ _ R1.out R3.out).mono ?_; rw [decide_eq_true rfl]; rintro e w6 ⟨rfl, hb1⟩; have KB := Aside.mk (below_call KB.out hb1); have HX := Aside.mk (blk_keep HX.out hb1); have c0 := blk_cell HX.out 0; have c1 := blk_cell HX.out 1; have c2 := blk_cell HX.out 2; simp at c0 c1 c2; have hsz0 := blk_lt HX.out; clear hb1))
          go_ret
          exact ⟨rfl, KB.out⟩
theorem linksGone_walk (s p : Int) (A : Option Addr) (c : Nat) (ls : List Lnk) (SA : Option Addr) (sc : Nat) (sws : List Swt) (FA : Option Addr) (fc : Nat) (fs : List Fly) (tick : Int) (other : Int) (w : World) (hl : Rd lnkD w A ls.length ls) (hT : FitT s p c ls) (hs : Rd swD w SA sws.length sws) (hS : ∀ x ∈ sws, FitSw x) (hsc : sws.length ≤ sc) (hf : Rd fliesD w FA fs.length fs) (hF : ∀ x ∈ fs, FitF x) (hfc : fs.length ≤ fc) (hM : Fit tick) (hO : Fit other) : Calls Try.prog 6 #[.agg #[.int .i64 s, .int .i64 p, .slice A ls.length c], .slice SA sws.length sc, .slice FA fs.length fc, .int .i64 tick, .int .i64 other] w fun e w' => e = .returned (.bool true) ∧ Below w.heap.size w w' := by
  cases hfew : fewS sws
  · exact linksGone_few s p A c ls SA sc sws FA fc fs tick other w hl hT hs hS hsc hf hF hfc hM hO hfew
  by_cases h60 : ls.length ≤ 60 ∧ fs.length ≤ 100
  · exact linksGone_main s p A c ls SA sc sws FA fc fs tick other w hl hT hs hS hsc hf hF hfc hM hO hfew h60.1 h60.2
  · exact linksGone_big s p A c ls SA sc sws FA fc fs tick other w hl hT hs hS hsc hf hF hfc hM hO hfew h60
end Go.Proofs.Ytajmchdmophdjaa
