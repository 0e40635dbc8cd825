/- The walk through PipeIsPath. -/
import Derived.Test.YtlnnkkbcmidddaaPipeC
import Derived.Test.YtlnnkkbcmidddaaPathS
import Derived.Test.YtlnnkkbcmidddaaConfM
import Derived.Test.YtlnnkkbcmidddaaOpens
namespace Go.Proofs.Ytlnnkkbcmidddaa
open Go.RowKit
set_option maxRecDepth 100000
theorem pipe_path (s p : Int) (ls : List Lnk) (cs : List (List Rul)) (tag tick : Int) (f : Fly) (hf : f.tag = tag) (z1 z2 z3 z4 : Int) :
    pipeP s p ls ⟨z1, z2, true, tag, z3, [⟨tag, atL cs f.sw⟩], z4⟩ f tick = ({ (stepP s p ls cs f).1 with tick := tick }, (stepP s p ls cs f).2) := by
  have ht : tagP s p ls ⟨z1, z2, true, tag, z3, [⟨tag, atL cs f.sw⟩], z4⟩ f = f.tag := by
    unfold tagP
    split
    · exact hf.symm
    · rfl
  have hl : lookV [⟨tag, atL cs f.sw⟩] f.tag f.inn f.dst = (match bestN f.inn f.dst (atL cs f.sw) (atL cs f.sw).length with
      | none => ((0, 0), 3)
      | some j => match (atL cs f.sw)[j]? with
        | none => ((0, 0), 3)
        | some r => ((r.kind, r.port), if r.kind = 1 then 0 else 2)) := by
    unfold lookV
    have hi : idxV [⟨tag, atL cs f.sw⟩] f.tag = 0 := by unfold idxV; simp [hf]
    rw [hi]
    rfl
  have key : (lookV [⟨tag, atL cs f.sw⟩] f.tag f.inn f.dst = ((0, 0), 3) ∧ stepP s p ls cs f = if f.ttl < 1 then (hopAt f 5 0, noFly) else (hopAt f 3 0, noFly)) ∨
      ∃ r : Rul, lookV [⟨tag, atL cs f.sw⟩] f.tag f.inn f.dst = ((r.kind, r.port), if r.kind = 1 then 0 else 2) ∧ stepP s p ls cs f = if f.ttl < 1 then (hopAt f 5 0, noFly) else
        if r.kind ≠ 1 then (hopAt f 2 0, noFly) else
        if (farR s p ls f.sw r.port).2.2 = true then (hopAt f 0 r.port, { f with ttl := f.ttl - 1, sw := (farR s p ls f.sw r.port).1, inn := (farR s p ls f.sw r.port).2.1 }) else (hopAt f 1 r.port, noFly) := by
    rw [hl]
    unfold stepP
    cases hb : bestN f.inn f.dst (atL cs f.sw) (atL cs f.sw).length with
    | none => exact .inl ⟨rfl, rfl⟩
    | some j =>
      dsimp only
      cases hj : (atL cs f.sw)[j]? with
      | none => exact .inl ⟨rfl, rfl⟩
      | some r => exact .inr ⟨r, rfl, rfl⟩
  unfold pipeP
  rw [ht]
  dsimp only
  rw [if_neg (by simp)]
  rcases key with ⟨h1, h2⟩ | ⟨r, h1, h2⟩
  · rw [h1, h2]
    by_cases h : f.ttl < 1
    · simp [h, hopAt]
    · simp [h, hopAt]
  · rw [h1, h2]
    by_cases h : f.ttl < 1
    · simp [h, hopAt]
    · by_cases hk : r.kind = 1
      · by_cases h3 : (farR s p ls f.sw r.port).2.2 = true
        · simp [h, hk, h3, hopAt]
        · simp [h, hk, h3, hopAt]
      · simp [h, hk, hopAt]
theorem ver_one {w : World} {g : Nat} {t : TypeId} {tag : Int} {A : Option Addr} {c : Nat} {l : List Rul} (h : w.heap[g]? = some (.cells #[.int .i64 tag, .slice A l.length c] t)) (hl : Rd rulD w A l.length l) (hc : l.length ≤ c) (hn : A = none → c = 0) : Rd verD w (some ⟨g, 0, none⟩) 1 [⟨tag, l⟩] := by
  refine ⟨rfl, by decide, fun _ => ⟨g, 0, rfl, blk_lt h, fun i x hx => ?_⟩⟩
  match i with
  | 0 =>
    cases hx
    refine ⟨[.int .i64 tag, .slice A l.length c], ⟨A, c, rfl, hc, hn, hl⟩, fun j u hj => ?_⟩
    rw [Nat.zero_mul, Nat.zero_add, Nat.zero_add, blk_cell h]
    simpa using hj
  | i + 1 => simp at hx
theorem Own.nilc5 {α : Type} {f : Flat α} {w : World} {base : Nat} {e : TypeId} {A : Option Addr} {n c : Nat} {xs : List α} (h : Own f w base e (.slice A n c) xs) : A = none → c = 0 := by
  intro h0
  subst h0
  rcases h.2 with ⟨h1, -⟩ | ⟨b, cap, cur, h1, -⟩
  · injection h1
  · cases h1
set_option maxHeartbeats 1000000 in
theorem pipeIsPath_not (s p : Int) (A : Option Addr) (c : Nat) (ls : List Lnk) (B : Option Addr) (d : Nat) (cs : List (List Rul)) (tag : Int) (f : Fly) (tick : Int) (w : World) (hl : Rd lnkD w A ls.length ls) (hT : FitT s p c ls) (hx : Rd confD w B cs.length cs) (hFx : ∀ l ∈ cs, ∀ r ∈ l, FitR r) (hdx : cs.length ≤ d) (hg : Fit tag) (hf : FitF f) (hk : Fit tick) (hm : mayC s p ls cs = false) : Calls Try.prog 3 #[.agg #[.int .i64 s, .int .i64 p, .slice A ls.length c], .slice B cs.length d, .int .i64 tag, flyV f, .int .i64 tick] w fun e w' => e = .returned (.bool true) ∧ Below w.heap.size w w' := by
  have HL := Aside.mk hl; have HA := Aside.mk hx; have hmx := hl.max; have hmy := hx.max; have KB := Aside.mk (below_alloc (below_alloc (Below.refl _ w) (.cells #[.int .i64 s, .int .i64 p, .slice A ls.length c] 24)) (.cells #[.int .i64 f.id, .int .i64 f.src, .int .i64 f.dst, .int .i64 f.ttl, .int .i64 f.tag, .int .i64 f.sw, .int .i64 f.inn] 30)); have HX := Aside.mk (heapO (heapN w (.cells #[.int .i64 s, .int .i64 p, .slice A ls.length c] 24) rfl) (.cells #[.int .i64 f.id, .int .i64 f.src, .int .i64 f.dst, .int .i64 f.ttl, .int .i64 f.tag, .int .i64 f.sw, .int .i64 f.inn] 30)); have HF := Aside.mk (heapN (w.alloc (.cells #[.int .i64 s, .int .i64 p, .slice A ls.length c] 24)) (.cells #[.int .i64 f.id, .int .i64 f.src, .int .i64 f.dst, .int .i64 f.ttl, .int .i64 f.tag, .int .i64 f.sw, .int .i64 f.inn] 30) (i := w.heap.size + 1) (by simp)); have HFT := Aside.mk hf.2.2.2.1; clear hl hT hx hFx hdx hf
  have HM := Aside.mk hm
  clear hm
  clear hg hk; go_enter Try.func3, Try.ntmps3; go_wp2_with (first | (go_at_call 11; refine (awake18_any _).mono ?_; rintro e1 w1 ⟨rfl, hb1⟩; have KB := Aside.mk (below_call KB.out hb1); have HX := Aside.mk (blk_keep HX.out hb1); have HF := Aside.mk (blk_keep HF.out hb1); clear hb1; have hlx := blk_lt HX.out; have t0 := blk_cell HX.out 0; have t1 := blk_cell HX.out 1; have t2 := blk_cell HX.out 2; have hly := blk_lt HF.out; have y0 := blk_cell HF.out 0; have y1 := blk_cell HF.out 1; have y2 := blk_cell HF.out 2; have y3 := blk_cell HF.out 3; have y4 := blk_cell HF.out 4; have y5 := blk_cell HF.out 5; have y6 := blk_cell HF.out 6; simp at t0 t1 t2 y0 y1 y2 y3 y4 y5 y6) | (go_at_call 12; refine (confMay_any s p A c ls cs B d _ (HL.out.below KB.out) (HA.out.below KB.out)).mono ?_; rw [HM.out]; rintro e2 w2 ⟨rfl, hb1⟩; clear t0 t1 t2 hlx hly y0 y1 y2 y3 y4 y5 y6; have KB := Aside.mk (below_call KB.out hb1); have HX := Aside.mk (blk_keep HX.out hb1); have HF := Aside.mk (blk_keep HF.out hb1); clear hb1; have hlx := blk_lt HX.out; have t0 := blk_cell HX.out 0; have t1 := blk_cell HX.out 1; have t2 := blk_cell HX.out 2; have hly := blk_lt HF.out; have y0 := blk_cell HF.out 0; have y1 := blk_cell HF.out 1; have y2 := blk_cell HF.out 2; have y3 := blk_cell HF.out 3; have y4 := blk_cell HF.out 4; have y5 := blk_cell HF.out 5; have y6 := blk_cell HF.out 6; simp at t0 t1 t2 y0 y1 y2 y3 y4 y5 y6)); go_ret; exact ⟨rfl, KB.out⟩
set_option maxHeartbeats 1000000 in
theorem pipeIsPath_t1 (s p : Int) (A : Option Addr) (c : Nat) (ls : List Lnk) (B : Option Addr) (d : Nat) (cs : List (List Rul)) (tag : Int) (f : Fly) (tick : Int) (w : World) (hl : Rd lnkD w A ls.length ls) (hT : FitT s p c ls) (hx : Rd confD w B cs.length cs) (hFx : ∀ l ∈ cs, ∀ r ∈ l, FitR r) (hdx : cs.length ≤ d) (hg : Fit tag) (hf : FitF f) (hk : Fit tick) (hm : mayC s p ls cs = true) (h1 : tag < 1) : Calls Try.prog 3 #[.agg #[.int .i64 s, .int .i64 p, .slice A ls.length c], .slice B cs.length d, .int .i64 tag, flyV f, .int .i64 tick] w fun e w' => e = .returned (.bool true) ∧ Below w.heap.size w w' := by
  have HL := Aside.mk hl; have HA := Aside.mk hx; have hmx := hl.max; have hmy := hx.max; have KB := Aside.mk (below_alloc (below_alloc (Below.refl _ w) (.cells #[.int .i64 s, .int .i64 p, .slice A ls.length c] 24)) (.cells #[.int .i64 f.id, .int .i64 f.src, .int .i64 f.dst, .int .i64 f.ttl, .int .i64 f.tag, .int .i64 f.sw, .int .i64 f.inn] 30)); have HX := Aside.mk (heapO (heapN w (.cells #[.int .i64 s, .int .i64 p, .slice A ls.length c] 24) rfl) (.cells #[.int .i64 f.id, .int .i64 f.src, .int .i64 f.dst, .int .i64 f.ttl, .int .i64 f.tag, .int .i64 f.sw, .int .i64 f.inn] 30)); have HF := Aside.mk (heapN (w.alloc (.cells #[.int .i64 s, .int .i64 p, .slice A ls.length c] 24)) (.cells #[.int .i64 f.id, .int .i64 f.src, .int .i64 f.dst, .int .i64 f.ttl, .int .i64 f.tag, .int .i64 f.sw, .int .i64 f.inn] 30) (i := w.heap.size + 1) (by simp)); have HFT := Aside.mk hf.2.2.2.1; clear hl hT hx hFx hdx hf
  have HM := Aside.mk hm
  have d1 : decide (tag < 1) = true := decide_eq_true h1
  clear hm h1
  clear hg hk; go_enter Try.func3, Try.ntmps3; go_wp2_with (first | (go_at_call 11; refine (awake18_any _).mono ?_; rintro e1 w1 ⟨rfl, hb1⟩; have KB := Aside.mk (below_call KB.out hb1); have HX := Aside.mk (blk_keep HX.out hb1); have HF := Aside.mk (blk_keep HF.out hb1); clear hb1; have hlx := blk_lt HX.out; have t0 := blk_cell HX.out 0; have t1 := blk_cell HX.out 1; have t2 := blk_cell HX.out 2; have hly := blk_lt HF.out; have y0 := blk_cell HF.out 0; have y1 := blk_cell HF.out 1; have y2 := blk_cell HF.out 2; have y3 := blk_cell HF.out 3; have y4 := blk_cell HF.out 4; have y5 := blk_cell HF.out 5; have y6 := blk_cell HF.out 6; simp at t0 t1 t2 y0 y1 y2 y3 y4 y5 y6) | (go_at_call 12; refine (confMay_any s p A c ls cs B d _ (HL.out.below KB.out) (HA.out.below KB.out)).mono ?_; rw [HM.out]; rintro e2 w2 ⟨rfl, hb1⟩; clear t0 t1 t2 hlx hly y0 y1 y2 y3 y4 y5 y6; have KB := Aside.mk (below_call KB.out hb1); have HX := Aside.mk (blk_keep HX.out hb1); have HF := Aside.mk (blk_keep HF.out hb1); clear hb1; have hlx := blk_lt HX.out; have t0 := blk_cell HX.out 0; have t1 := blk_cell HX.out 1; have t2 := blk_cell HX.out 2; have hly := blk_lt HF.out; have y0 := blk_cell HF.out 0; have y1 := blk_cell HF.out 1; have y2 := blk_cell HF.out 2; have y3 := blk_cell HF.out 3; have y4 := blk_cell HF.out 4; have y5 := blk_cell HF.out 5; have y6 := blk_cell HF.out 6; simp at t0 t1 t2 y0 y1 y2 y3 y4 y5 y6)); go_ret; exact ⟨rfl, KB.out⟩
set_option maxHeartbeats 1000000 in
theorem pipeIsPath_t2 (s p : Int) (A : Option Addr) (c : Nat) (ls : List Lnk) (B : Option Addr) (d : Nat) (cs : List (List Rul)) (tag : Int) (f : Fly) (tick : Int) (w : World) (hl : Rd lnkD w A ls.length ls) (hT : FitT s p c ls) (hx : Rd confD w B cs.length cs) (hFx : ∀ l ∈ cs, ∀ r ∈ l, FitR r) (hdx : cs.length ≤ d) (hg : Fit tag) (hf : FitF f) (hk : Fit tick) (hm : mayC s p ls cs = true) (h1 : ¬ tag < 1) (h2 : 4095 < tag) : Calls Try.prog 3 #[.agg #[.int .i64 s, .int .i64 p, .slice A ls.length c], .slice B cs.length d, .int .i64 tag, flyV f, .int .i64 tick] w fun e w' => e = .returned (.bool true) ∧ Below w.heap.size w w' := by
  have HL := Aside.mk hl; have HA := Aside.mk hx; have hmx := hl.max; have hmy := hx.max; have KB := Aside.mk (below_alloc (below_alloc (Below.refl _ w) (.cells #[.int .i64 s, .int .i64 p, .slice A ls.length c] 24)) (.cells #[.int .i64 f.id, .int .i64 f.src, .int .i64 f.dst, .int .i64 f.ttl, .int .i64 f.tag, .int .i64 f.sw, .int .i64 f.inn] 30)); have HX := Aside.mk (heapO (heapN w (.cells #[.int .i64 s, .int .i64 p, .slice A ls.length c] 24) rfl) (.cells #[.int .i64 f.id, .int .i64 f.src, .int .i64 f.dst, .int .i64 f.ttl, .int .i64 f.tag, .int .i64 f.sw, .int .i64 f.inn] 30)); have HF := Aside.mk (heapN (w.alloc (.cells #[.int .i64 s, .int .i64 p, .slice A ls.length c] 24)) (.cells #[.int .i64 f.id, .int .i64 f.src, .int .i64 f.dst, .int .i64 f.ttl, .int .i64 f.tag, .int .i64 f.sw, .int .i64 f.inn] 30) (i := w.heap.size + 1) (by simp)); have HFT := Aside.mk hf.2.2.2.1; clear hl hT hx hFx hdx hf
  have HM := Aside.mk hm
  have d1 : decide (tag < 1) = false := decide_eq_false h1
  have d2 : decide (4095 < tag) = true := decide_eq_true h2
  clear hm h1 h2
  clear hg hk; go_enter Try.func3, Try.ntmps3; go_wp2_with (first | (go_at_call 11; refine (awake18_any _).mono ?_; rintro e1 w1 ⟨rfl, hb1⟩; have KB := Aside.mk (below_call KB.out hb1); have HX := Aside.mk (blk_keep HX.out hb1); have HF := Aside.mk (blk_keep HF.out hb1); clear hb1; have hlx := blk_lt HX.out; have t0 := blk_cell HX.out 0; have t1 := blk_cell HX.out 1; have t2 := blk_cell HX.out 2; have hly := blk_lt HF.out; have y0 := blk_cell HF.out 0; have y1 := blk_cell HF.out 1; have y2 := blk_cell HF.out 2; have y3 := blk_cell HF.out 3; have y4 := blk_cell HF.out 4; have y5 := blk_cell HF.out 5; have y6 := blk_cell HF.out 6; simp at t0 t1 t2 y0 y1 y2 y3 y4 y5 y6) | (go_at_call 12; refine (confMay_any s p A c ls cs B d _ (HL.out.below KB.out) (HA.out.below KB.out)).mono ?_; rw [HM.out]; rintro e2 w2 ⟨rfl, hb1⟩; clear t0 t1 t2 hlx hly y0 y1 y2 y3 y4 y5 y6; have KB := Aside.mk (below_call KB.out hb1); have HX := Aside.mk (blk_keep HX.out hb1); have HF := Aside.mk (blk_keep HF.out hb1); clear hb1; have hlx := blk_lt HX.out; have t0 := blk_cell HX.out 0; have t1 := blk_cell HX.out 1; have t2 := blk_cell HX.out 2; have hly := blk_lt HF.out; have y0 := blk_cell HF.out 0; have y1 := blk_cell HF.out 1; have y2 := blk_cell HF.out 2; have y3 := blk_cell HF.out 3; have y4 := blk_cell HF.out 4; have y5 := blk_cell HF.out 5; have y6 := blk_cell HF.out 6; simp at t0 t1 t2 y0 y1 y2 y3 y4 y5 y6)); go_ret; exact ⟨rfl, KB.out⟩
set_option maxHeartbeats 1000000 in
theorem pipeIsPath_s1 (s p : Int) (A : Option Addr) (c : Nat) (ls : List Lnk) (B : Option Addr) (d : Nat) (cs : List (List Rul)) (tag : Int) (f : Fly) (tick : Int) (w : World) (hl : Rd lnkD w A ls.length ls) (hT : FitT s p c ls) (hx : Rd confD w B cs.length cs) (hFx : ∀ l ∈ cs, ∀ r ∈ l, FitR r) (hdx : cs.length ≤ d) (hg : Fit tag) (hf : FitF f) (hk : Fit tick) (hm : mayC s p ls cs = true) (h1 : ¬ tag < 1) (h2 : ¬ 4095 < tag) (h3 : f.sw < 0) : Calls Try.prog 3 #[.agg #[.int .i64 s, .int .i64 p, .slice A ls.length c], .slice B cs.length d, .int .i64 tag, flyV f, .int .i64 tick] w fun e w' => e = .returned (.bool true) ∧ Below w.heap.size w w' := by
  have HL := Aside.mk hl; have HA := Aside.mk hx; have hmx := hl.max; have hmy := hx.max; have KB := Aside.mk (below_alloc (below_alloc (Below.refl _ w) (.cells #[.int .i64 s, .int .i64 p, .slice A ls.length c] 24)) (.cells #[.int .i64 f.id, .int .i64 f.src, .int .i64 f.dst, .int .i64 f.ttl, .int .i64 f.tag, .int .i64 f.sw, .int .i64 f.inn] 30)); have HX := Aside.mk (heapO (heapN w (.cells #[.int .i64 s, .int .i64 p, .slice A ls.length c] 24) rfl) (.cells #[.int .i64 f.id, .int .i64 f.src, .int .i64 f.dst, .int .i64 f.ttl, .int .i64 f.tag, .int .i64 f.sw, .int .i64 f.inn] 30)); have HF := Aside.mk (heapN (w.alloc (.cells #[.int .i64 s, .int .i64 p, .slice A ls.length c] 24)) (.cells #[.int .i64 f.id, .int .i64 f.src, .int .i64 f.dst, .int .i64 f.ttl, .int .i64 f.tag, .int .i64 f.sw, .int .i64 f.inn] 30) (i := w.heap.size + 1) (by simp)); have HFT := Aside.mk hf.2.2.2.1; clear hl hT hx hFx hdx hf
  have HM := Aside.mk hm
  have d1 : decide (tag < 1) = false := decide_eq_false h1
  have d2 : decide (4095 < tag) = false := decide_eq_false h2
  have d3 : decide (f.sw < 0) = true := decide_eq_true h3
  clear hm h1 h2 h3
  clear hg hk; go_enter Try.func3, Try.ntmps3; go_wp2_with (first | (go_at_call 11; refine (awake18_any _).mono ?_; rintro e1 w1 ⟨rfl, hb1⟩; have KB := Aside.mk (below_call KB.out hb1); have HX := Aside.mk (blk_keep HX.out hb1); have HF := Aside.mk (blk_keep HF.out hb1); clear hb1; have hlx := blk_lt HX.out; have t0 := blk_cell HX.out 0; have t1 := blk_cell HX.out 1; have t2 := blk_cell HX.out 2; have hly := blk_lt HF.out; have y0 := blk_cell HF.out 0; have y1 := blk_cell HF.out 1; have y2 := blk_cell HF.out 2; have y3 := blk_cell HF.out 3; have y4 := blk_cell HF.out 4; have y5 := blk_cell HF.out 5; have y6 := blk_cell HF.out 6; simp at t0 t1 t2 y0 y1 y2 y3 y4 y5 y6) | (go_at_call 12; refine (confMay_any s p A c ls cs B d _ (HL.out.below KB.out) (HA.out.below KB.out)).mono ?_; rw [HM.out]; rintro e2 w2 ⟨rfl, hb1⟩; clear t0 t1 t2 hlx hly y0 y1 y2 y3 y4 y5 y6; have KB := Aside.mk (below_call KB.out hb1); have HX := Aside.mk (blk_keep HX.out hb1); have HF := Aside.mk (blk_keep HF.out hb1); clear hb1; have hlx := blk_lt HX.out; have t0 := blk_cell HX.out 0; have t1 := blk_cell HX.out 1; have t2 := blk_cell HX.out 2; have hly := blk_lt HF.out; have y0 := blk_cell HF.out 0; have y1 := blk_cell HF.out 1; have y2 := blk_cell HF.out 2; have y3 := blk_cell HF.out 3; have y4 := blk_cell HF.out 4; have y5 := blk_cell HF.out 5; have y6 := blk_cell HF.out 6; simp at t0 t1 t2 y0 y1 y2 y3 y4 y5 y6)); go_ret; exact ⟨rfl, KB.out⟩
set_option maxHeartbeats 1000000 in
theorem pipeIsPath_s2 (s p : Int) (A : Option Addr) (c : Nat) (ls : List Lnk) (B : Option Addr) (d : Nat) (cs : List (List Rul)) (tag : Int) (f : Fly) (tick : Int) (w : World) (hl : Rd lnkD w A ls.length ls) (hT : FitT s p c ls) (hx : Rd confD w B cs.length cs) (hFx : ∀ l ∈ cs, ∀ r ∈ l, FitR r) (hdx : cs.length ≤ d) (hg : Fit tag) (hf : FitF f) (hk : Fit tick) (hm : mayC s p ls cs = true) (h1 : ¬ tag < 1) (h2 : ¬ 4095 < tag) (h3 : ¬ f.sw < 0) (h4 : s ≤ f.sw) : Calls Try.prog 3 #[.agg #[.int .i64 s, .int .i64 p, .slice A ls.length c], .slice B cs.length d, .int .i64 tag, flyV f, .int .i64 tick] w fun e w' => e = .returned (.bool true) ∧ Below w.heap.size w w' := by
  have HL := Aside.mk hl; have HA := Aside.mk hx; have hmx := hl.max; have hmy := hx.max; have KB := Aside.mk (below_alloc (below_alloc (Below.refl _ w) (.cells #[.int .i64 s, .int .i64 p, .slice A ls.length c] 24)) (.cells #[.int .i64 f.id, .int .i64 f.src, .int .i64 f.dst, .int .i64 f.ttl, .int .i64 f.tag, .int .i64 f.sw, .int .i64 f.inn] 30)); have HX := Aside.mk (heapO (heapN w (.cells #[.int .i64 s, .int .i64 p, .slice A ls.length c] 24) rfl) (.cells #[.int .i64 f.id, .int .i64 f.src, .int .i64 f.dst, .int .i64 f.ttl, .int .i64 f.tag, .int .i64 f.sw, .int .i64 f.inn] 30)); have HF := Aside.mk (heapN (w.alloc (.cells #[.int .i64 s, .int .i64 p, .slice A ls.length c] 24)) (.cells #[.int .i64 f.id, .int .i64 f.src, .int .i64 f.dst, .int .i64 f.ttl, .int .i64 f.tag, .int .i64 f.sw, .int .i64 f.inn] 30) (i := w.heap.size + 1) (by simp)); have HFT := Aside.mk hf.2.2.2.1; clear hl hT hx hFx hdx hf
  have HM := Aside.mk hm
  have d1 : decide (tag < 1) = false := decide_eq_false h1
  have d2 : decide (4095 < tag) = false := decide_eq_false h2
  have d3 : decide (f.sw < 0) = false := decide_eq_false h3
  have d4 : decide (s ≤ f.sw) = true := decide_eq_true h4
  clear hm h1 h2 h3 h4
  clear hg hk; go_enter Try.func3, Try.ntmps3; go_wp2_with (first | (go_at_call 11; refine (awake18_any _).mono ?_; rintro e1 w1 ⟨rfl, hb1⟩; have KB := Aside.mk (below_call KB.out hb1); have HX := Aside.mk (blk_keep HX.out hb1); have HF := Aside.mk (blk_keep HF.out hb1); clear hb1; have hlx := blk_lt HX.out; have t0 := blk_cell HX.out 0; have t1 := blk_cell HX.out 1; have t2 := blk_cell HX.out 2; have hly := blk_lt HF.out; have y0 := blk_cell HF.out 0; have y1 := blk_cell HF.out 1; have y2 := blk_cell HF.out 2; have y3 := blk_cell HF.out 3; have y4 := blk_cell HF.out 4; have y5 := blk_cell HF.out 5; have y6 := blk_cell HF.out 6; simp at t0 t1 t2 y0 y1 y2 y3 y4 y5 y6) | (go_at_call 12; refine (confMay_any s p A c ls cs B d _ (HL.out.below KB.out) (HA.out.below KB.out)).mono ?_; rw [HM.out]; rintro e2 w2 ⟨rfl, hb1⟩; clear t0 t1 t2 hlx hly y0 y1 y2 y3 y4 y5 y6; have KB := Aside.mk (below_call KB.out hb1); have HX := Aside.mk (blk_keep HX.out hb1); have HF := Aside.mk (blk_keep HF.out hb1); clear hb1; have hlx := blk_lt HX.out; have t0 := blk_cell HX.out 0; have t1 := blk_cell HX.out 1; have t2 := blk_cell HX.out 2; have hly := blk_lt HF.out; have y0 := blk_cell HF.out 0; have y1 := blk_cell HF.out 1; have y2 := blk_cell HF.out 2; have y3 := blk_cell HF.out 3; have y4 := blk_cell HF.out 4; have y5 := blk_cell HF.out 5; have y6 := blk_cell HF.out 6; simp at t0 t1 t2 y0 y1 y2 y3 y4 y5 y6)); go_ret; exact ⟨rfl, KB.out⟩
theorem mayC_lens {s p : Int} {ls : List Lnk} {cs : List (List Rul)} (h : mayC s p ls cs = true) : ∀ l ∈ cs, l.length * 48 ≤ 140737488355328 := by
  unfold mayC at h
  simp only [Bool.and_eq_true, decide_eq_true_eq, List.all_eq_true] at h
  intro l hl
  have h2 := h.2 l hl
  unfold rulesP at h2
  simp only [Bool.and_eq_true, decide_eq_true_eq] at h2
  have := h2.1.1
  omega
set_option maxHeartbeats 2000000 in
theorem pipeIsPath_main (s p : Int) (A : Option Addr) (c : Nat) (ls : List Lnk) (B : Option Addr) (d : Nat) (cs : List (List Rul)) (tag : Int) (f : Fly) (tick : Int) (w : World) (hl : Rd lnkD w A ls.length ls) (hT : FitT s p c ls) (hx : Rd confD w B cs.length cs) (hFx : ∀ l ∈ cs, ∀ r ∈ l, FitR r) (hdx : cs.length ≤ d) (hg : Fit tag) (hf : FitF f) (hk : Fit tick) (hm : mayC s p ls cs = true) (h1 : ¬ tag < 1) (h2 : ¬ 4095 < tag) (h3 : ¬ f.sw < 0) (h4 : ¬ s ≤ f.sw) : Calls Try.prog 3 #[.agg #[.int .i64 s, .int .i64 p, .slice A ls.length c], .slice B cs.length d, .int .i64 tag, flyV f, .int .i64 tick] w fun e w' => e = .returned (.bool true) ∧ Below w.heap.size w w' := by
  have HL := Aside.mk hl; have HA := Aside.mk hx; have hmx := hl.max; have hmy := hx.max; have KB := Aside.mk (below_alloc (below_alloc (Below.refl _ w) (.cells #[.int .i64 s, .int .i64 p, .slice A ls.length c] 24)) (.cells #[.int .i64 f.id, .int .i64 f.src, .int .i64 f.dst, .int .i64 f.ttl, .int .i64 f.tag, .int .i64 f.sw, .int .i64 f.inn] 30)); have HX := Aside.mk (heapO (heapN w (.cells #[.int .i64 s, .int .i64 p, .slice A ls.length c] 24) rfl) (.cells #[.int .i64 f.id, .int .i64 f.src, .int .i64 f.dst, .int .i64 f.ttl, .int .i64 f.tag, .int .i64 f.sw, .int .i64 f.inn] 30)); have HF := Aside.mk (heapN (w.alloc (.cells #[.int .i64 s, .int .i64 p, .slice A ls.length c] 24)) (.cells #[.int .i64 f.id, .int .i64 f.src, .int .i64 f.dst, .int .i64 f.ttl, .int .i64 f.tag, .int .i64 f.sw, .int .i64 f.inn] 30) (i := w.heap.size + 1) (by simp)); have HFT := Aside.mk hf.2.2.2.1; clear hl hT hx hFx hdx hf
  have HM := Aside.mk hm
  have HSZ := Aside.mk (mayC_lens hm)
  have d1 : decide (tag < 1) = false := decide_eq_false h1
  have d2 : decide (4095 < tag) = false := decide_eq_false h2
  have d3 : decide (f.sw < 0) = false := decide_eq_false h3
  have d4 : decide (s ≤ f.sw) = false := decide_eq_false h4
  obtain ⟨L, hL⟩ : ∃ L, atL cs f.sw = L := ⟨_, rfl⟩
  have HAT := Aside.mk hL
  clear hm h1 h2 h3 h4 hL
  go_enter Try.func3, Try.ntmps3
  go_wp2_with (first | (go_at_call 11; refine (awake18_any _).mono ?_; rintro e1 w1 ⟨rfl, hb1⟩; have KB := Aside.mk (below_call KB.out hb1); have HX := Aside.mk (blk_keep HX.out hb1); have HF := Aside.mk (blk_keep HF.out hb1); clear hb1; have hlx := blk_lt HX.out; have t0 := blk_cell HX.out 0; have t1 := blk_cell HX.out 1; have t2 := blk_cell HX.out 2; have hly := blk_lt HF.out; have y0 := blk_cell HF.out 0; have y1 := blk_cell HF.out 1; have y2 := blk_cell HF.out 2; have y3 := blk_cell HF.out 3; have y4 := blk_cell HF.out 4; have y5 := blk_cell HF.out 5; have y6 := blk_cell HF.out 6; simp at t0 t1 t2 y0 y1 y2 y3 y4 y5 y6) | (go_at_call 12; refine (confMay_any s p A c ls cs B d _ (HL.out.below KB.out) (HA.out.below KB.out)).mono ?_; rw [HM.out]; rintro e2 w2 ⟨rfl, hb1⟩; clear t0 t1 t2 hlx hly y0 y1 y2 y3 y4 y5 y6; have KB := Aside.mk (below_call KB.out hb1); have HX := Aside.mk (blk_keep HX.out hb1); have HF := Aside.mk (blk_keep HF.out hb1); clear hb1; have hlx := blk_lt HX.out; have t0 := blk_cell HX.out 0; have t1 := blk_cell HX.out 1; have t2 := blk_cell HX.out 2; have hly := blk_lt HF.out; have y0 := blk_cell HF.out 0; have y1 := blk_cell HF.out 1; have y2 := blk_cell HF.out 2; have y3 := blk_cell HF.out 3; have y4 := blk_cell HF.out 4; have y5 := blk_cell HF.out 5; have y6 := blk_cell HF.out 6; simp at t0 t1 t2 y0 y1 y2 y3 y4 y5 y6) | (go_at_call 13; refine (at_any cs B d f.sw _ (HA.out.below KB.out) HSZ.out).mono ?_; rw [HAT.out]; rintro e3 w3 ⟨v3, rfl, ho, hb1⟩; obtain ⟨A3, c3, rfl, hc3, hr3⟩ := ho.rd; have HN3 := Aside.mk ho.nilc5; have HC3 := Aside.mk hc3; have HO3 := Aside.mk ho; clear t0 t1 t2 hlx hly y0 y1 y2 y3 y4 y5 y6; have KB := Aside.mk (below_call KB.out hb1); have HX := Aside.mk (blk_keep HX.out hb1); have HF := Aside.mk (blk_keep HF.out hb1); clear hb1; have hlx := blk_lt HX.out; have t0 := blk_cell HX.out 0; have t1 := blk_cell HX.out 1; have t2 := blk_cell HX.out 2; have hly := blk_lt HF.out; have y0 := blk_cell HF.out 0; have y1 := blk_cell HF.out 1; have y2 := blk_cell HF.out 2; have y3 := blk_cell HF.out 3; have y4 := blk_cell HF.out 4; have y5 := blk_cell HF.out 5; have y6 := blk_cell HF.out 6; simp at t0 t1 t2 y0 y1 y2 y3 y4 y5 y6; have yf := blk_frozen HF.out 4; clear ho hr3 hc3))
  have hpp := pipe_path s p ls cs tag tick ⟨f.id, f.src, f.dst, f.ttl, tag, f.sw, f.inn⟩ rfl 0 0 0 0
  rw [show (⟨f.id, f.src, f.dst, f.ttl, tag, f.sw, f.inn⟩ : Fly).sw = f.sw from rfl, HAT.out] at hpp
  obtain ⟨h, hh⟩ : ∃ h, (stepP s p ls cs ⟨f.id, f.src, f.dst, f.ttl, tag, f.sw, f.inn⟩).1 = h := ⟨_, rfl⟩
  obtain ⟨g, hg2⟩ : ∃ g, (stepP s p ls cs ⟨f.id, f.src, f.dst, f.ttl, tag, f.sw, f.inn⟩).2 = g := ⟨_, rfl⟩
  rw [hh, hg2] at hpp
  have HP := Aside.mk hpp
  have HH := Aside.mk hh
  have HG := Aside.mk hg2
  have hq1 : ∀ w, (Op.equalIn 10000 41 (.agg #[.int .i64 tick, .int .i64 h.id, .int .i64 h.sw, .int .i64 h.inn, .int .i64 h.tag, .int .i64 h.what, .int .i64 h.out]) (.agg #[.int .i64 tick, .int .i64 h.id, .int .i64 h.sw, .int .i64 h.inn, .int .i64 h.tag, .int .i64 h.what, .int .i64 h.out])).run Try.prog w = .ok true w := fun w => (eqHop w { h with tick := tick } { h with tick := tick }).trans (by rw [decide_eq_true rfl])
  have hq2 : ∀ w, (Op.equalIn 10000 30 (.agg #[.int .i64 g.id, .int .i64 g.src, .int .i64 g.dst, .int .i64 g.ttl, .int .i64 g.tag, .int .i64 g.sw, .int .i64 g.inn]) (.agg #[.int .i64 g.id, .int .i64 g.src, .int .i64 g.dst, .int .i64 g.ttl, .int .i64 g.tag, .int .i64 g.sw, .int .i64 g.inn])).run Try.prog w = .ok true w := fun w => (eqFly w g g).trans (by rw [decide_eq_true rfl])
  clear hpp hh hg2
  have hb0 : w.heap.size + 1 < w3.heap.size := blk_lt HF.out
  have hr3 : Rd rulD (((w3.setCell ⟨w.heap.size + 1, 4, none⟩ (.int .i64 tag)).alloc (.cells #[.int .i64 tag, .slice A3 L.length c3] 36)).alloc (.cells #[.int .i64 0, .int .i64 0, .bool true, .int .i64 tag, .int .i64 0, .slice (some ⟨w3.heap.size, 0, none⟩) 1 1, .int .i64 0] 39)) A3 L.length L := by
    have h := ((HO3.out.far (p := ⟨w.heap.size + 1, 4, none⟩) (HO3.out.ne_type HF.out (by decide)) (.int .i64 tag)).alloc (.cells #[.int .i64 tag, .slice A3 L.length c3] 36)).alloc (.cells #[.int .i64 0, .int .i64 0, .bool true, .int .i64 tag, .int .i64 0, .slice (some ⟨w3.heap.size, 0, none⟩) 1 1, .int .i64 0] 39)
    obtain ⟨A', c', e, -, hr⟩ := h.rd
    injection e with e1 e2 e3
    subst e1
    exact hr
  have HVR := Aside.mk (ver_one (heapO (heapN (w3.setCell ⟨w.heap.size + 1, 4, none⟩ (.int .i64 tag)) (.cells #[.int .i64 tag, .slice A3 L.length c3] 36) (i := w3.heap.size) (by simp)) (.cells #[.int .i64 0, .int .i64 0, .bool true, .int .i64 tag, .int .i64 0, .slice (some ⟨w3.heap.size, 0, none⟩) 1 1, .int .i64 0] 39)) hr3 HC3.out HN3.out)
  have KB := Aside.mk (below_alloc (below_alloc (below_set KB.out (p := ⟨w.heap.size + 1, 4, none⟩) (by simp) (.int .i64 tag)) (.cells #[.int .i64 tag, .slice A3 L.length c3] 36)) (.cells #[.int .i64 0, .int .i64 0, .bool true, .int .i64 tag, .int .i64 0, .slice (some ⟨w3.heap.size, 0, none⟩) 1 1, .int .i64 0] 39))
  have HX := Aside.mk (heapO (heapO (blk_far HX.out (p := ⟨w.heap.size + 1, 4, none⟩) (by simp) (.int .i64 tag)) (.cells #[.int .i64 tag, .slice A3 L.length c3] 36)) (.cells #[.int .i64 0, .int .i64 0, .bool true, .int .i64 tag, .int .i64 0, .slice (some ⟨w3.heap.size, 0, none⟩) 1 1, .int .i64 0] 39))
  have HF := Aside.mk (show (((w3.setCell ⟨w.heap.size + 1, 4, none⟩ (.int .i64 tag)).alloc (.cells #[.int .i64 tag, .slice A3 L.length c3] 36)).alloc (.cells #[.int .i64 0, .int .i64 0, .bool true, .int .i64 tag, .int .i64 0, .slice (some ⟨w3.heap.size, 0, none⟩) 1 1, .int .i64 0] 39)).heap[w.heap.size + 1]? = some (.cells #[.int .i64 f.id, .int .i64 f.src, .int .i64 f.dst, .int .i64 f.ttl, .int .i64 tag, .int .i64 f.sw, .int .i64 f.inn] 30) by simpa using heapO (heapO (blk_set HF.out 4 (.int .i64 tag)) (.cells #[.int .i64 tag, .slice A3 L.length c3] 36)) (.cells #[.int .i64 0, .int .i64 0, .bool true, .int .i64 tag, .int .i64 0, .slice (some ⟨w3.heap.size, 0, none⟩) 1 1, .int .i64 0] 39))
  clear t0 t1 t2 hlx hly y0 y1 y2 y3 y4 y5 y6
  clear hr3 hb0
  refine (pipe_any s p A c ls ⟨0, 0, true, tag, 0, [⟨tag, L⟩], 0⟩ (some ⟨w3.heap.size, 0, none⟩) 1 ⟨f.id, f.src, f.dst, f.ttl, tag, f.sw, f.inn⟩ tick _ (HL.out.below KB.out) HVR.out HFT.out).mono ?_
  rw [HP.out]
  dsimp only
  rintro e4 w4 ⟨rfl, hb1⟩
  have KB := Aside.mk (below_call KB.out hb1); have HX := Aside.mk (blk_keep HX.out hb1); have HF := Aside.mk (blk_keep HF.out hb1); clear hb1
  have hlx := blk_lt HX.out; have t0 := blk_cell HX.out 0; have t1 := blk_cell HX.out 1; have t2 := blk_cell HX.out 2; have hly := blk_lt HF.out; have y0 := blk_cell HF.out 0; have y1 := blk_cell HF.out 1; have y2 := blk_cell HF.out 2; have y3 := blk_cell HF.out 3; have y4 := blk_cell HF.out 4; have y5 := blk_cell HF.out 5; have y6 := blk_cell HF.out 6; simp at t0 t1 t2 y0 y1 y2 y3 y4 y5 y6
  have hm1 : w.heap.size < w4.heap.size + 1 := by omega
  have hm2 : w.heap.size + 1 < w4.heap.size + 1 := by omega
  go_wp2_with (go_at_call 15; refine (step_any s p A c ls B d cs ⟨f.id, f.src, f.dst, f.ttl, tag, f.sw, f.inn⟩ _ (HL.out.below (below_alloc (below_alloc KB.out (.cells #[.int .i64 tick, .int .i64 h.id, .int .i64 h.sw, .int .i64 h.inn, .int .i64 h.tag, .int .i64 h.what, .int .i64 h.out] 41)) (.cells #[.int .i64 g.id, .int .i64 g.src, .int .i64 g.dst, .int .i64 g.ttl, .int .i64 g.tag, .int .i64 g.sw, .int .i64 g.inn] 30))) (HA.out.below (below_alloc (below_alloc KB.out (.cells #[.int .i64 tick, .int .i64 h.id, .int .i64 h.sw, .int .i64 h.inn, .int .i64 h.tag, .int .i64 h.what, .int .i64 h.out] 41)) (.cells #[.int .i64 g.id, .int .i64 g.src, .int .i64 g.dst, .int .i64 g.ttl, .int .i64 g.tag, .int .i64 g.sw, .int .i64 g.inn] 30))) HSZ.out HFT.out).mono ?_; rw [HH.out, HG.out]; rintro e5 w5 ⟨rfl, hb1⟩; have H13 := Aside.mk (blk_keep (heapO (heapN w4 (.cells #[.int .i64 tick, .int .i64 h.id, .int .i64 h.sw, .int .i64 h.inn, .int .i64 h.tag, .int .i64 h.what, .int .i64 h.out] 41) rfl) (.cells #[.int .i64 g.id, .int .i64 g.src, .int .i64 g.dst, .int .i64 g.ttl, .int .i64 g.tag, .int .i64 g.sw, .int .i64 g.inn] 30)) hb1); have H14 := Aside.mk (blk_keep (heapN (w4.alloc (.cells #[.int .i64 tick, .int .i64 h.id, .int .i64 h.sw, .int .i64 h.inn, .int .i64 h.tag, .int .i64 h.what, .int .i64 h.out] 41)) (.cells #[.int .i64 g.id, .int .i64 g.src, .int .i64 g.dst, .int .i64 g.ttl, .int .i64 g.tag, .int .i64 g.sw, .int .i64 g.inn] 30) (i := w4.heap.size + 1) (by simp)) hb1); have KB := Aside.mk (below_call (below_alloc (below_alloc KB.out (.cells #[.int .i64 tick, .int .i64 h.id, .int .i64 h.sw, .int .i64 h.inn, .int .i64 h.tag, .int .i64 h.what, .int .i64 h.out] 41)) (.cells #[.int .i64 g.id, .int .i64 g.src, .int .i64 g.dst, .int .i64 g.ttl, .int .i64 g.tag, .int .i64 g.sw, .int .i64 g.inn] 30)) hb1); clear t0 t1 t2 hlx hly y0 y1 y2 y3 y4 y5 y6; have hk1 := blk_lt H13.out; have hk2 := blk_lt H14.out; have hk3 : w4.heap.size < w5.heap.size + 1 := (by omega); have hk4 : w4.heap.size + 1 < w5.heap.size + 1 := (by omega); have a0 := blk_cell H13.out 0; have a1 := blk_cell H13.out 1; have a2 := blk_cell H13.out 2; have a3 := blk_cell H13.out 3; have a4 := blk_cell H13.out 4; have a5 := blk_cell H13.out 5; have a6 := blk_cell H13.out 6; have b0 := blk_cell H14.out 0; have b1 := blk_cell H14.out 1; have b2 := blk_cell H14.out 2; have b3 := blk_cell H14.out 3; have b4 := blk_cell H14.out 4; have b5 := blk_cell H14.out 5; have b6 := blk_cell H14.out 6; simp at a0 b0 a1 b1 a2 b2 a3 b3 a4 b4 a5 b5 a6 b6; clear hb1)
  go_ret
  exact ⟨rfl, by repeat (first | exact KB.out | refine below_alloc ?_ _ | refine below_set ?_ (by (try simp) <;> omega) _)⟩
theorem pipeIsPath_walk (s p : Int) (A : Option Addr) (c : Nat) (ls : List Lnk) (B : Option Addr) (d : Nat) (cs : List (List Rul)) (tag : Int) (f : Fly) (tick : Int) (w : World) (hl : Rd lnkD w A ls.length ls) (hT : FitT s p c ls) (hx : Rd confD w B cs.length cs) (hFx : ∀ l ∈ cs, ∀ r ∈ l, FitR r) (hdx : cs.length ≤ d) (hg : Fit tag) (hf : FitF f) (hk : Fit tick) : Calls Try.prog 3 #[.agg #[.int .i64 s, .int .i64 p, .slice A ls.length c], .slice B cs.length d, .int .i64 tag, flyV f, .int .i64 tick] w fun e w' => e = .returned (.bool true) ∧ Below w.heap.size w w' := by
  cases hm : mayC s p ls cs
  · exact pipeIsPath_not s p A c ls B d cs tag f tick w hl hT hx hFx hdx hg hf hk hm
  by_cases h1 : tag < 1
  · exact pipeIsPath_t1 s p A c ls B d cs tag f tick w hl hT hx hFx hdx hg hf hk hm h1
  by_cases h2 : 4095 < tag
  · exact pipeIsPath_t2 s p A c ls B d cs tag f tick w hl hT hx hFx hdx hg hf hk hm h1 h2
  by_cases h3 : f.sw < 0
  · exact pipeIsPath_s1 s p A c ls B d cs tag f tick w hl hT hx hFx hdx hg hf hk hm h1 h2 h3
  by_cases h4 : s ≤ f.sw
  · exact pipeIsPath_s2 s p A c ls B d cs tag f tick w hl hT hx hFx hdx hg hf hk hm h1 h2 h3 h4
  · exact pipeIsPath_main s p A c ls B d cs tag f tick w hl hT hx hFx hdx hg hf hk hm h1 h2 h3 h4
end Go.Proofs.Ytlnnkkbcmidddaa
