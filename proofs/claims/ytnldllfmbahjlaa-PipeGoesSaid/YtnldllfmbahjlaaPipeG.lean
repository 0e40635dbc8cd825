/- The walk through PipeGoes. -/
import Derived.Test.YtnldllfmbahjlaaPipeC
import Derived.Test.YtnldllfmbahjlaaPipeO
namespace Go.Proofs.Ytnldllfmbahjlaa
open Go.RowKit
set_option maxRecDepth 100000
theorem eqPck (a b c d e : Int) (w : World) : (Op.equalIn 10000 29 (.agg #[.int .i64 a, .int .i64 b, .int .i64 c, .int .i64 d, .int .i64 e]) (.agg #[.int .i64 a, .int .i64 b, .int .i64 c, .int .i64 d, .int .i64 e])).run Try.prog w = .ok true w := by
  have u3 := Try.underlying3
  have a3 := Try.isAgg3
  have z3 := Try.sizeOf3
  rw [show (10000 : Nat) = 9999 + 1 from rfl, Op.equalIn]
  simp only [Sem.run_bind, run_underlying Try.underlying29, Result.andThen_ok]
  go_simp
set_option maxHeartbeats 4000000 in
theorem pipeGoes_few (s p : Int) (A : Option Addr) (c : Nat) (ls : List Lnk) (sw : Swt) (V : Option Addr) (cV : Nat) (f : Fly) (tick : Int) (w : World) (hl : Rd lnkD w A ls.length ls) (hT : FitT s p c ls) (hv : Rd verD w V sw.vs.length sw.vs) (hS : FitS sw cV) (hf : FitF f) (hM : Fit tick) (hfew : fewV sw.vs = false) :
    Calls Try.prog 6 #[.agg #[.int .i64 s, .int .i64 p, .slice A ls.length c], swV sw V cV, flyV f, .int .i64 tick] w fun e w' => e = .returned (.bool true) ∧ Below w.heap.size w w' := by
  have hmx := hl.max
  have HF := Aside.mk hf.2.2.2.1
  have hlo := hf.2.2.2.1.lo
  have hhi := hf.2.2.2.1.hi
  have HL := Aside.mk (hl.below (below_alloc (below_alloc (below_alloc (Below.refl _ w) (.cells #[.int .i64 s, .int .i64 p, .slice A ls.length c] 24)) (.cells #[.int .i64 sw.epoch, .int .i64 sw.seen, .bool sw.op, .int .i64 sw.stamp, .int .i64 sw.bad, .slice V sw.vs.length cV, .int .i64 sw.junk] 27)) (.cells #[.int .i64 f.id, .int .i64 f.src, .int .i64 f.dst, .int .i64 f.ttl, .int .i64 f.tag, .int .i64 f.sw, .int .i64 f.inn] 31)))
  have HV := Aside.mk (hv.below (below_alloc (below_alloc (below_alloc (Below.refl _ w) (.cells #[.int .i64 s, .int .i64 p, .slice A ls.length c] 24)) (.cells #[.int .i64 sw.epoch, .int .i64 sw.seen, .bool sw.op, .int .i64 sw.stamp, .int .i64 sw.bad, .slice V sw.vs.length cV, .int .i64 sw.junk] 27)) (.cells #[.int .i64 f.id, .int .i64 f.src, .int .i64 f.dst, .int .i64 f.ttl, .int .i64 f.tag, .int .i64 f.sw, .int .i64 f.inn] 31)))
  have KB := Aside.mk (below_alloc (below_alloc (below_alloc (Below.refl _ w) (.cells #[.int .i64 s, .int .i64 p, .slice A ls.length c] 24)) (.cells #[.int .i64 sw.epoch, .int .i64 sw.seen, .bool sw.op, .int .i64 sw.stamp, .int .i64 sw.bad, .slice V sw.vs.length cV, .int .i64 sw.junk] 27)) (.cells #[.int .i64 f.id, .int .i64 f.src, .int .i64 f.dst, .int .i64 f.ttl, .int .i64 f.tag, .int .i64 f.sw, .int .i64 f.inn] 31))
  have HX := Aside.mk (heap_old (heap_old (heap_new w (.cells #[.int .i64 s, .int .i64 p, .slice A ls.length c] 24) rfl) (.cells #[.int .i64 sw.epoch, .int .i64 sw.seen, .bool sw.op, .int .i64 sw.stamp, .int .i64 sw.bad, .slice V sw.vs.length cV, .int .i64 sw.junk] 27)) (.cells #[.int .i64 f.id, .int .i64 f.src, .int .i64 f.dst, .int .i64 f.ttl, .int .i64 f.tag, .int .i64 f.sw, .int .i64 f.inn] 31))
  have HS := Aside.mk (heap_old (heap_new (w.alloc (.cells #[.int .i64 s, .int .i64 p, .slice A ls.length c] 24)) (.cells #[.int .i64 sw.epoch, .int .i64 sw.seen, .bool sw.op, .int .i64 sw.stamp, .int .i64 sw.bad, .slice V sw.vs.length cV, .int .i64 sw.junk] 27) rfl) (.cells #[.int .i64 f.id, .int .i64 f.src, .int .i64 f.dst, .int .i64 f.ttl, .int .i64 f.tag, .int .i64 f.sw, .int .i64 f.inn] 31))
  have HY := Aside.mk (heap_new ((w.alloc (.cells #[.int .i64 s, .int .i64 p, .slice A ls.length c] 24)).alloc (.cells #[.int .i64 sw.epoch, .int .i64 sw.seen, .bool sw.op, .int .i64 sw.stamp, .int .i64 sw.bad, .slice V sw.vs.length cV, .int .i64 sw.junk] 27)) (.cells #[.int .i64 f.id, .int .i64 f.src, .int .i64 f.dst, .int .i64 f.ttl, .int .i64 f.tag, .int .i64 f.sw, .int .i64 f.inn] 31) rfl)
  simp only [World.size_alloc] at HX HS HY
  clear hl hv hf
  go_enter Try.func6, Try.ntmps6
  go_wp2_with (first
    | (go_at_call 8; refine (awake18_any _).mono ?_; rintro e w1 ⟨rfl, hb1⟩; have HL := Aside.mk (HL.out.below hb1); have HV := Aside.mk (HV.out.below hb1); have KB := Aside.mk (below_call KB.out hb1); have HX := Aside.mk (blk_keep HX.out hb1); have HS := Aside.mk (blk_keep HS.out hb1); have HY := Aside.mk (blk_keep HY.out hb1); have c0 := blk_cell HX.out 0; have c1 := blk_cell HX.out 1; have c2 := blk_cell HX.out 2; have s0 := blk_cell HS.out 0; have s1 := blk_cell HS.out 1; have s2 := blk_cell HS.out 2; have s3 := blk_cell HS.out 3; have s4 := blk_cell HS.out 4; have s5 := blk_cell HS.out 5; have s6 := blk_cell HS.out 6; have y0 := blk_cell HY.out 0; have y1 := blk_cell HY.out 1; have y2 := blk_cell HY.out 2; have y3 := blk_cell HY.out 3; have y4 := blk_cell HY.out 4; have y5 := blk_cell HY.out 5; have y6 := blk_cell HY.out 6; simp at c0 c1 c2 s0 s1 s2 s3 s4 s5 s6 y0 y1 y2 y3 y4 y5 y6; have hsz := blk_lt HY.out; have hsz0 := blk_lt HX.out; have hsz1 := blk_lt HS.out; have hsy := Nat.lt_succ_of_lt hsz; have hsy0 := Nat.lt_succ_of_lt hsz0; have hsy1 := Nat.lt_succ_of_lt hsz1; clear hb1)
    | (go_at_call 9; refine (fewV_any _ _ _ _ HV.out).mono ?_; rw [hfew]; rintro e w2 ⟨rfl, rfl⟩))
  go_ret
  exact ⟨rfl, KB.out⟩
set_option maxHeartbeats 4000000 in
theorem pipeGoes_big (s p : Int) (A : Option Addr) (c : Nat) (ls : List Lnk) (sw : Swt) (V : Option Addr) (cV : Nat) (f : Fly) (tick : Int) (w : World) (hl : Rd lnkD w A ls.length ls) (hT : FitT s p c ls) (hv : Rd verD w V sw.vs.length sw.vs) (hS : FitS sw cV) (hf : FitF f) (hM : Fit tick) (hfew : fewV sw.vs = true) (h60 : ¬ ls.length ≤ 60) :
    Calls Try.prog 6 #[.agg #[.int .i64 s, .int .i64 p, .slice A ls.length c], swV sw V cV, flyV f, .int .i64 tick] w fun e w' => e = .returned (.bool true) ∧ Below w.heap.size w w' := by
  have hmx := hl.max
  have HF := Aside.mk hf.2.2.2.1
  have hlo := hf.2.2.2.1.lo
  have hhi := hf.2.2.2.1.hi
  have HL := Aside.mk (hl.below (below_alloc (below_alloc (below_alloc (Below.refl _ w) (.cells #[.int .i64 s, .int .i64 p, .slice A ls.length c] 24)) (.cells #[.int .i64 sw.epoch, .int .i64 sw.seen, .bool sw.op, .int .i64 sw.stamp, .int .i64 sw.bad, .slice V sw.vs.length cV, .int .i64 sw.junk] 27)) (.cells #[.int .i64 f.id, .int .i64 f.src, .int .i64 f.dst, .int .i64 f.ttl, .int .i64 f.tag, .int .i64 f.sw, .int .i64 f.inn] 31)))
  have HV := Aside.mk (hv.below (below_alloc (below_alloc (below_alloc (Below.refl _ w) (.cells #[.int .i64 s, .int .i64 p, .slice A ls.length c] 24)) (.cells #[.int .i64 sw.epoch, .int .i64 sw.seen, .bool sw.op, .int .i64 sw.stamp, .int .i64 sw.bad, .slice V sw.vs.length cV, .int .i64 sw.junk] 27)) (.cells #[.int .i64 f.id, .int .i64 f.src, .int .i64 f.dst, .int .i64 f.ttl, .int .i64 f.tag, .int .i64 f.sw, .int .i64 f.inn] 31)))
  have KB := Aside.mk (below_alloc (below_alloc (below_alloc (Below.refl _ w) (.cells #[.int .i64 s, .int .i64 p, .slice A ls.length c] 24)) (.cells #[.int .i64 sw.epoch, .int .i64 sw.seen, .bool sw.op, .int .i64 sw.stamp, .int .i64 sw.bad, .slice V sw.vs.length cV, .int .i64 sw.junk] 27)) (.cells #[.int .i64 f.id, .int .i64 f.src, .int .i64 f.dst, .int .i64 f.ttl, .int .i64 f.tag, .int .i64 f.sw, .int .i64 f.inn] 31))
  have HX := Aside.mk (heap_old (heap_old (heap_new w (.cells #[.int .i64 s, .int .i64 p, .slice A ls.length c] 24) rfl) (.cells #[.int .i64 sw.epoch, .int .i64 sw.seen, .bool sw.op, .int .i64 sw.stamp, .int .i64 sw.bad, .slice V sw.vs.length cV, .int .i64 sw.junk] 27)) (.cells #[.int .i64 f.id, .int .i64 f.src, .int .i64 f.dst, .int .i64 f.ttl, .int .i64 f.tag, .int .i64 f.sw, .int .i64 f.inn] 31))
  have HS := Aside.mk (heap_old (heap_new (w.alloc (.cells #[.int .i64 s, .int .i64 p, .slice A ls.length c] 24)) (.cells #[.int .i64 sw.epoch, .int .i64 sw.seen, .bool sw.op, .int .i64 sw.stamp, .int .i64 sw.bad, .slice V sw.vs.length cV, .int .i64 sw.junk] 27) rfl) (.cells #[.int .i64 f.id, .int .i64 f.src, .int .i64 f.dst, .int .i64 f.ttl, .int .i64 f.tag, .int .i64 f.sw, .int .i64 f.inn] 31))
  have HY := Aside.mk (heap_new ((w.alloc (.cells #[.int .i64 s, .int .i64 p, .slice A ls.length c] 24)).alloc (.cells #[.int .i64 sw.epoch, .int .i64 sw.seen, .bool sw.op, .int .i64 sw.stamp, .int .i64 sw.bad, .slice V sw.vs.length cV, .int .i64 sw.junk] 27)) (.cells #[.int .i64 f.id, .int .i64 f.src, .int .i64 f.dst, .int .i64 f.ttl, .int .i64 f.tag, .int .i64 f.sw, .int .i64 f.inn] 31) rfl)
  simp only [World.size_alloc] at HX HS HY
  clear hl hv hf
  have d60 : decide ((60 : Int) < (ls.length : Int)) = true := decide_eq_true (by omega)
  go_enter Try.func6, Try.ntmps6
  go_wp2_with (first
    | (go_at_call 8; refine (awake18_any _).mono ?_; rintro e w1 ⟨rfl, hb1⟩; have HL := Aside.mk (HL.out.below hb1); have HV := Aside.mk (HV.out.below hb1); have KB := Aside.mk (below_call KB.out hb1); have HX := Aside.mk (blk_keep HX.out hb1); have HS := Aside.mk (blk_keep HS.out hb1); have HY := Aside.mk (blk_keep HY.out hb1); have c0 := blk_cell HX.out 0; have c1 := blk_cell HX.out 1; have c2 := blk_cell HX.out 2; have s0 := blk_cell HS.out 0; have s1 := blk_cell HS.out 1; have s2 := blk_cell HS.out 2; have s3 := blk_cell HS.out 3; have s4 := blk_cell HS.out 4; have s5 := blk_cell HS.out 5; have s6 := blk_cell HS.out 6; have y0 := blk_cell HY.out 0; have y1 := blk_cell HY.out 1; have y2 := blk_cell HY.out 2; have y3 := blk_cell HY.out 3; have y4 := blk_cell HY.out 4; have y5 := blk_cell HY.out 5; have y6 := blk_cell HY.out 6; simp at c0 c1 c2 s0 s1 s2 s3 s4 s5 s6 y0 y1 y2 y3 y4 y5 y6; have hsz := blk_lt HY.out; have hsz0 := blk_lt HX.out; have hsz1 := blk_lt HS.out; have hsy := Nat.lt_succ_of_lt hsz; have hsy0 := Nat.lt_succ_of_lt hsz0; have hsy1 := Nat.lt_succ_of_lt hsz1; clear hb1)
    | (go_at_call 9; refine (fewV_any _ _ _ _ HV.out).mono ?_; rw [hfew]; rintro e w2 ⟨rfl, rfl⟩))
  go_ret
  exact ⟨rfl, KB.out⟩
set_option maxHeartbeats 4000000 in
theorem pipeGoes_c0 (s p : Int) (A : Option Addr) (c : Nat) (ls : List Lnk) (sw : Swt) (V : Option Addr) (cV : Nat) (f : Fly) (tick : Int) (w : World) (hl : Rd lnkD w A ls.length ls) (hT : FitT s p c ls) (hv : Rd verD w V sw.vs.length sw.vs) (hS : FitS sw cV) (hf : FitF f) (hM : Fit tick) (hfew : fewV sw.vs = true) (h60 : ls.length ≤ 60) (ho : sw.op = false) (hp : pipeP s p ls sw f tick = (⟨tick, f.id, f.sw, f.inn, f.tag, 6, 0⟩, noFly)) :
    Calls Try.prog 6 #[.agg #[.int .i64 s, .int .i64 p, .slice A ls.length c], swV sw V cV, flyV f, .int .i64 tick] w fun e w' => e = .returned (.bool true) ∧ Below w.heap.size w w' := by
  have hmx := hl.max
  have HF := Aside.mk hf.2.2.2.1
  have hlo := hf.2.2.2.1.lo
  have hhi := hf.2.2.2.1.hi
  have HL := Aside.mk (hl.below (below_alloc (below_alloc (below_alloc (Below.refl _ w) (.cells #[.int .i64 s, .int .i64 p, .slice A ls.length c] 24)) (.cells #[.int .i64 sw.epoch, .int .i64 sw.seen, .bool sw.op, .int .i64 sw.stamp, .int .i64 sw.bad, .slice V sw.vs.length cV, .int .i64 sw.junk] 27)) (.cells #[.int .i64 f.id, .int .i64 f.src, .int .i64 f.dst, .int .i64 f.ttl, .int .i64 f.tag, .int .i64 f.sw, .int .i64 f.inn] 31)))
  have HV := Aside.mk (hv.below (below_alloc (below_alloc (below_alloc (Below.refl _ w) (.cells #[.int .i64 s, .int .i64 p, .slice A ls.length c] 24)) (.cells #[.int .i64 sw.epoch, .int .i64 sw.seen, .bool sw.op, .int .i64 sw.stamp, .int .i64 sw.bad, .slice V sw.vs.length cV, .int .i64 sw.junk] 27)) (.cells #[.int .i64 f.id, .int .i64 f.src, .int .i64 f.dst, .int .i64 f.ttl, .int .i64 f.tag, .int .i64 f.sw, .int .i64 f.inn] 31)))
  have KB := Aside.mk (below_alloc (below_alloc (below_alloc (Below.refl _ w) (.cells #[.int .i64 s, .int .i64 p, .slice A ls.length c] 24)) (.cells #[.int .i64 sw.epoch, .int .i64 sw.seen, .bool sw.op, .int .i64 sw.stamp, .int .i64 sw.bad, .slice V sw.vs.length cV, .int .i64 sw.junk] 27)) (.cells #[.int .i64 f.id, .int .i64 f.src, .int .i64 f.dst, .int .i64 f.ttl, .int .i64 f.tag, .int .i64 f.sw, .int .i64 f.inn] 31))
  have HX := Aside.mk (heap_old (heap_old (heap_new w (.cells #[.int .i64 s, .int .i64 p, .slice A ls.length c] 24) rfl) (.cells #[.int .i64 sw.epoch, .int .i64 sw.seen, .bool sw.op, .int .i64 sw.stamp, .int .i64 sw.bad, .slice V sw.vs.length cV, .int .i64 sw.junk] 27)) (.cells #[.int .i64 f.id, .int .i64 f.src, .int .i64 f.dst, .int .i64 f.ttl, .int .i64 f.tag, .int .i64 f.sw, .int .i64 f.inn] 31))
  have HS := Aside.mk (heap_old (heap_new (w.alloc (.cells #[.int .i64 s, .int .i64 p, .slice A ls.length c] 24)) (.cells #[.int .i64 sw.epoch, .int .i64 sw.seen, .bool sw.op, .int .i64 sw.stamp, .int .i64 sw.bad, .slice V sw.vs.length cV, .int .i64 sw.junk] 27) rfl) (.cells #[.int .i64 f.id, .int .i64 f.src, .int .i64 f.dst, .int .i64 f.ttl, .int .i64 f.tag, .int .i64 f.sw, .int .i64 f.inn] 31))
  have HY := Aside.mk (heap_new ((w.alloc (.cells #[.int .i64 s, .int .i64 p, .slice A ls.length c] 24)).alloc (.cells #[.int .i64 sw.epoch, .int .i64 sw.seen, .bool sw.op, .int .i64 sw.stamp, .int .i64 sw.bad, .slice V sw.vs.length cV, .int .i64 sw.junk] 27)) (.cells #[.int .i64 f.id, .int .i64 f.src, .int .i64 f.dst, .int .i64 f.ttl, .int .i64 f.tag, .int .i64 f.sw, .int .i64 f.inn] 31) rfl)
  simp only [World.size_alloc] at HX HS HY
  clear hl hv hf
  obtain ⟨ep, se, op, st, ba, vs, ju⟩ := sw
  dsimp only at *
  subst ho
  have d60 : decide ((60 : Int) < (ls.length : Int)) = false := decide_eq_false (by omega)
  have HP := Aside.mk hp
  clear hp
  have hq2 := eqFly
  have hzz : ∀ w, (Op.equalIn 10000 31 (.agg #[.int .i64 0, .int .i64 0, .int .i64 0, .int .i64 0, .int .i64 0, .int .i64 0, .int .i64 0]) (.agg #[.int .i64 0, .int .i64 0, .int .i64 0, .int .i64 0, .int .i64 0, .int .i64 0, .int .i64 0])).run Try.prog w = .ok true w := fun w => eqFly w noFly noFly
  clear hq2
  go_enter Try.func6, Try.ntmps6
  go_wp2_with (first
    | (go_at_call 8; refine (awake18_any _).mono ?_; rintro e w1 ⟨rfl, hb1⟩; have HL := Aside.mk (HL.out.below hb1); have HV := Aside.mk (HV.out.below hb1); have KB := Aside.mk (below_call KB.out hb1); have HX := Aside.mk (blk_keep HX.out hb1); have HS := Aside.mk (blk_keep HS.out hb1); have HY := Aside.mk (blk_keep HY.out hb1); have c0 := blk_cell HX.out 0; have c1 := blk_cell HX.out 1; have c2 := blk_cell HX.out 2; have s0 := blk_cell HS.out 0; have s1 := blk_cell HS.out 1; have s2 := blk_cell HS.out 2; have s3 := blk_cell HS.out 3; have s4 := blk_cell HS.out 4; have s5 := blk_cell HS.out 5; have s6 := blk_cell HS.out 6; have y0 := blk_cell HY.out 0; have y1 := blk_cell HY.out 1; have y2 := blk_cell HY.out 2; have y3 := blk_cell HY.out 3; have y4 := blk_cell HY.out 4; have y5 := blk_cell HY.out 5; have y6 := blk_cell HY.out 6; simp at c0 c1 c2 s0 s1 s2 s3 s4 s5 s6 y0 y1 y2 y3 y4 y5 y6; have hsz := blk_lt HY.out; have hsz0 := blk_lt HX.out; have hsz1 := blk_lt HS.out; have hsy := Nat.lt_succ_of_lt hsz; have hsy0 := Nat.lt_succ_of_lt hsz0; have hsy1 := Nat.lt_succ_of_lt hsz1; clear hb1)
    | (go_at_call 9; refine (fewV_any _ _ _ _ HV.out).mono ?_; rw [hfew]; rintro e w2 ⟨rfl, rfl⟩)
    | (go_at_call 10; refine (pipe_any s p A c ls ⟨ep, se, false, st, ba, vs, ju⟩ V cV f tick _ HL.out HV.out HF.out).mono ?_; rw [HP.out]; dsimp only [noFly]; rintro e w3 ⟨rfl, hb1⟩; have HL := Aside.mk (HL.out.below hb1); have HV := Aside.mk (HV.out.below hb1); have KB := Aside.mk (below_call KB.out hb1); have HX := Aside.mk (blk_keep HX.out hb1); have HS := Aside.mk (blk_keep HS.out hb1); have HY := Aside.mk (blk_keep HY.out hb1); have c0 := blk_cell HX.out 0; have c1 := blk_cell HX.out 1; have c2 := blk_cell HX.out 2; have s0 := blk_cell HS.out 0; have s1 := blk_cell HS.out 1; have s2 := blk_cell HS.out 2; have s3 := blk_cell HS.out 3; have s4 := blk_cell HS.out 4; have s5 := blk_cell HS.out 5; have s6 := blk_cell HS.out 6; have y0 := blk_cell HY.out 0; have y1 := blk_cell HY.out 1; have y2 := blk_cell HY.out 2; have y3 := blk_cell HY.out 3; have y4 := blk_cell HY.out 4; have y5 := blk_cell HY.out 5; have y6 := blk_cell HY.out 6; simp at c0 c1 c2 s0 s1 s2 s3 s4 s5 s6 y0 y1 y2 y3 y4 y5 y6; have hsz := blk_lt HY.out; have hsz0 := blk_lt HX.out; have hsz1 := blk_lt HS.out; have hsy := Nat.lt_succ_of_lt hsz; have hsy0 := Nat.lt_succ_of_lt hsz0; have hsy1 := Nat.lt_succ_of_lt hsz1; clear hb1))
  all_goals (go_ret; exact ⟨by first | rfl | simp, by (repeat (first | exact KB.out | refine below_alloc ?_ _ | refine below_set ?_ (by (try simp) <;> omega) _))⟩)
set_option maxHeartbeats 4000000 in
theorem pipeGoes_c1 (s p : Int) (A : Option Addr) (c : Nat) (ls : List Lnk) (sw : Swt) (V : Option Addr) (cV : Nat) (f : Fly) (tick : Int) (w : World) (hl : Rd lnkD w A ls.length ls) (hT : FitT s p c ls) (hv : Rd verD w V sw.vs.length sw.vs) (hS : FitS sw cV) (hf : FitF f) (hM : Fit tick) (hfew : fewV sw.vs = true) (h60 : ls.length ≤ 60) (ho : sw.op = true) (ht : f.ttl < 1) (tg : Int) (hp : pipeP s p ls sw f tick = (⟨tick, f.id, f.sw, f.inn, tg, 5, 0⟩, noFly)) :
    Calls Try.prog 6 #[.agg #[.int .i64 s, .int .i64 p, .slice A ls.length c], swV sw V cV, flyV f, .int .i64 tick] w fun e w' => e = .returned (.bool true) ∧ Below w.heap.size w w' := by
  have hmx := hl.max
  have HF := Aside.mk hf.2.2.2.1
  have hlo := hf.2.2.2.1.lo
  have hhi := hf.2.2.2.1.hi
  have HL := Aside.mk (hl.below (below_alloc (below_alloc (below_alloc (Below.refl _ w) (.cells #[.int .i64 s, .int .i64 p, .slice A ls.length c] 24)) (.cells #[.int .i64 sw.epoch, .int .i64 sw.seen, .bool sw.op, .int .i64 sw.stamp, .int .i64 sw.bad, .slice V sw.vs.length cV, .int .i64 sw.junk] 27)) (.cells #[.int .i64 f.id, .int .i64 f.src, .int .i64 f.dst, .int .i64 f.ttl, .int .i64 f.tag, .int .i64 f.sw, .int .i64 f.inn] 31)))
  have HV := Aside.mk (hv.below (below_alloc (below_alloc (below_alloc (Below.refl _ w) (.cells #[.int .i64 s, .int .i64 p, .slice A ls.length c] 24)) (.cells #[.int .i64 sw.epoch, .int .i64 sw.seen, .bool sw.op, .int .i64 sw.stamp, .int .i64 sw.bad, .slice V sw.vs.length cV, .int .i64 sw.junk] 27)) (.cells #[.int .i64 f.id, .int .i64 f.src, .int .i64 f.dst, .int .i64 f.ttl, .int .i64 f.tag, .int .i64 f.sw, .int .i64 f.inn] 31)))
  have KB := Aside.mk (below_alloc (below_alloc (below_alloc (Below.refl _ w) (.cells #[.int .i64 s, .int .i64 p, .slice A ls.length c] 24)) (.cells #[.int .i64 sw.epoch, .int .i64 sw.seen, .bool sw.op, .int .i64 sw.stamp, .int .i64 sw.bad, .slice V sw.vs.length cV, .int .i64 sw.junk] 27)) (.cells #[.int .i64 f.id, .int .i64 f.src, .int .i64 f.dst, .int .i64 f.ttl, .int .i64 f.tag, .int .i64 f.sw, .int .i64 f.inn] 31))
  have HX := Aside.mk (heap_old (heap_old (heap_new w (.cells #[.int .i64 s, .int .i64 p, .slice A ls.length c] 24) rfl) (.cells #[.int .i64 sw.epoch, .int .i64 sw.seen, .bool sw.op, .int .i64 sw.stamp, .int .i64 sw.bad, .slice V sw.vs.length cV, .int .i64 sw.junk] 27)) (.cells #[.int .i64 f.id, .int .i64 f.src, .int .i64 f.dst, .int .i64 f.ttl, .int .i64 f.tag, .int .i64 f.sw, .int .i64 f.inn] 31))
  have HS := Aside.mk (heap_old (heap_new (w.alloc (.cells #[.int .i64 s, .int .i64 p, .slice A ls.length c] 24)) (.cells #[.int .i64 sw.epoch, .int .i64 sw.seen, .bool sw.op, .int .i64 sw.stamp, .int .i64 sw.bad, .slice V sw.vs.length cV, .int .i64 sw.junk] 27) rfl) (.cells #[.int .i64 f.id, .int .i64 f.src, .int .i64 f.dst, .int .i64 f.ttl, .int .i64 f.tag, .int .i64 f.sw, .int .i64 f.inn] 31))
  have HY := Aside.mk (heap_new ((w.alloc (.cells #[.int .i64 s, .int .i64 p, .slice A ls.length c] 24)).alloc (.cells #[.int .i64 sw.epoch, .int .i64 sw.seen, .bool sw.op, .int .i64 sw.stamp, .int .i64 sw.bad, .slice V sw.vs.length cV, .int .i64 sw.junk] 27)) (.cells #[.int .i64 f.id, .int .i64 f.src, .int .i64 f.dst, .int .i64 f.ttl, .int .i64 f.tag, .int .i64 f.sw, .int .i64 f.inn] 31) rfl)
  simp only [World.size_alloc] at HX HS HY
  clear hl hv hf
  obtain ⟨ep, se, op, st, ba, vs, ju⟩ := sw
  dsimp only at *
  subst ho
  have d60 : decide ((60 : Int) < (ls.length : Int)) = false := decide_eq_false (by omega)
  have HP := Aside.mk hp
  clear hp
  have hq2 := eqFly
  have hzz : ∀ w, (Op.equalIn 10000 31 (.agg #[.int .i64 0, .int .i64 0, .int .i64 0, .int .i64 0, .int .i64 0, .int .i64 0, .int .i64 0]) (.agg #[.int .i64 0, .int .i64 0, .int .i64 0, .int .i64 0, .int .i64 0, .int .i64 0, .int .i64 0])).run Try.prog w = .ok true w := fun w => eqFly w noFly noFly
  clear hq2
  have dt : decide (f.ttl < 1) = true := decide_eq_true (by omega)
  go_enter Try.func6, Try.ntmps6
  go_wp2_with (first
    | (go_at_call 8; refine (awake18_any _).mono ?_; rintro e w1 ⟨rfl, hb1⟩; have HL := Aside.mk (HL.out.below hb1); have HV := Aside.mk (HV.out.below hb1); have KB := Aside.mk (below_call KB.out hb1); have HX := Aside.mk (blk_keep HX.out hb1); have HS := Aside.mk (blk_keep HS.out hb1); have HY := Aside.mk (blk_keep HY.out hb1); have c0 := blk_cell HX.out 0; have c1 := blk_cell HX.out 1; have c2 := blk_cell HX.out 2; have s0 := blk_cell HS.out 0; have s1 := blk_cell HS.out 1; have s2 := blk_cell HS.out 2; have s3 := blk_cell HS.out 3; have s4 := blk_cell HS.out 4; have s5 := blk_cell HS.out 5; have s6 := blk_cell HS.out 6; have y0 := blk_cell HY.out 0; have y1 := blk_cell HY.out 1; have y2 := blk_cell HY.out 2; have y3 := blk_cell HY.out 3; have y4 := blk_cell HY.out 4; have y5 := blk_cell HY.out 5; have y6 := blk_cell HY.out 6; simp at c0 c1 c2 s0 s1 s2 s3 s4 s5 s6 y0 y1 y2 y3 y4 y5 y6; have hsz := blk_lt HY.out; have hsz0 := blk_lt HX.out; have hsz1 := blk_lt HS.out; have hsy := Nat.lt_succ_of_lt hsz; have hsy0 := Nat.lt_succ_of_lt hsz0; have hsy1 := Nat.lt_succ_of_lt hsz1; clear hb1)
    | (go_at_call 9; refine (fewV_any _ _ _ _ HV.out).mono ?_; rw [hfew]; rintro e w2 ⟨rfl, rfl⟩)
    | (go_at_call 10; refine (pipe_any s p A c ls ⟨ep, se, true, st, ba, vs, ju⟩ V cV f tick _ HL.out HV.out HF.out).mono ?_; rw [HP.out]; dsimp only [noFly]; rintro e w3 ⟨rfl, hb1⟩; have HL := Aside.mk (HL.out.below hb1); have HV := Aside.mk (HV.out.below hb1); have KB := Aside.mk (below_call KB.out hb1); have HX := Aside.mk (blk_keep HX.out hb1); have HS := Aside.mk (blk_keep HS.out hb1); have HY := Aside.mk (blk_keep HY.out hb1); have c0 := blk_cell HX.out 0; have c1 := blk_cell HX.out 1; have c2 := blk_cell HX.out 2; have s0 := blk_cell HS.out 0; have s1 := blk_cell HS.out 1; have s2 := blk_cell HS.out 2; have s3 := blk_cell HS.out 3; have s4 := blk_cell HS.out 4; have s5 := blk_cell HS.out 5; have s6 := blk_cell HS.out 6; have y0 := blk_cell HY.out 0; have y1 := blk_cell HY.out 1; have y2 := blk_cell HY.out 2; have y3 := blk_cell HY.out 3; have y4 := blk_cell HY.out 4; have y5 := blk_cell HY.out 5; have y6 := blk_cell HY.out 6; simp at c0 c1 c2 s0 s1 s2 s3 s4 s5 s6 y0 y1 y2 y3 y4 y5 y6; have hsz := blk_lt HY.out; have hsz0 := blk_lt HX.out; have hsz1 := blk_lt HS.out; have hsy := Nat.lt_succ_of_lt hsz; have hsy0 := Nat.lt_succ_of_lt hsz0; have hsy1 := Nat.lt_succ_of_lt hsz1; clear hb1))
  all_goals (go_ret; exact ⟨by first | rfl | simp, by (repeat (first | exact KB.out | refine below_alloc ?_ _ | refine below_set ?_ (by (try simp) <;> omega) _))⟩)
set_option maxHeartbeats 4000000 in
theorem pipeGoes_c2 (s p : Int) (A : Option Addr) (c : Nat) (ls : List Lnk) (sw : Swt) (V : Option Addr) (cV : Nat) (f : Fly) (tick : Int) (w : World) (hl : Rd lnkD w A ls.length ls) (hT : FitT s p c ls) (hv : Rd verD w V sw.vs.length sw.vs) (hS : FitS sw cV) (hf : FitF f) (hM : Fit tick) (hfew : fewV sw.vs = true) (h60 : ls.length ≤ 60) (ho : sw.op = true) (ht : 1 ≤ f.ttl) (tg k o : Int) (hk : k = 1 ∨ k = 2 ∨ k = 3 ∨ k = 4) (hp : pipeP s p ls sw f tick = (⟨tick, f.id, f.sw, f.inn, tg, k, o⟩, noFly)) :
    Calls Try.prog 6 #[.agg #[.int .i64 s, .int .i64 p, .slice A ls.length c], swV sw V cV, flyV f, .int .i64 tick] w fun e w' => e = .returned (.bool true) ∧ Below w.heap.size w w' := by
  have hmx := hl.max
  have HF := Aside.mk hf.2.2.2.1
  have hlo := hf.2.2.2.1.lo
  have hhi := hf.2.2.2.1.hi
  have HL := Aside.mk (hl.below (below_alloc (below_alloc (below_alloc (Below.refl _ w) (.cells #[.int .i64 s, .int .i64 p, .slice A ls.length c] 24)) (.cells #[.int .i64 sw.epoch, .int .i64 sw.seen, .bool sw.op, .int .i64 sw.stamp, .int .i64 sw.bad, .slice V sw.vs.length cV, .int .i64 sw.junk] 27)) (.cells #[.int .i64 f.id, .int .i64 f.src, .int .i64 f.dst, .int .i64 f.ttl, .int .i64 f.tag, .int .i64 f.sw, .int .i64 f.inn] 31)))
  have HV := Aside.mk (hv.below (below_alloc (below_alloc (below_alloc (Below.refl _ w) (.cells #[.int .i64 s, .int .i64 p, .slice A ls.length c] 24)) (.cells #[.int .i64 sw.epoch, .int .i64 sw.seen, .bool sw.op, .int .i64 sw.stamp, .int .i64 sw.bad, .slice V sw.vs.length cV, .int .i64 sw.junk] 27)) (.cells #[.int .i64 f.id, .int .i64 f.src, .int .i64 f.dst, .int .i64 f.ttl, .int .i64 f.tag, .int .i64 f.sw, .int .i64 f.inn] 31)))
  have KB := Aside.mk (below_alloc (below_alloc (below_alloc (Below.refl _ w) (.cells #[.int .i64 s, .int .i64 p, .slice A ls.length c] 24)) (.cells #[.int .i64 sw.epoch, .int .i64 sw.seen, .bool sw.op, .int .i64 sw.stamp, .int .i64 sw.bad, .slice V sw.vs.length cV, .int .i64 sw.junk] 27)) (.cells #[.int .i64 f.id, .int .i64 f.src, .int .i64 f.dst, .int .i64 f.ttl, .int .i64 f.tag, .int .i64 f.sw, .int .i64 f.inn] 31))
  have HX := Aside.mk (heap_old (heap_old (heap_new w (.cells #[.int .i64 s, .int .i64 p, .slice A ls.length c] 24) rfl) (.cells #[.int .i64 sw.epoch, .int .i64 sw.seen, .bool sw.op, .int .i64 sw.stamp, .int .i64 sw.bad, .slice V sw.vs.length cV, .int .i64 sw.junk] 27)) (.cells #[.int .i64 f.id, .int .i64 f.src, .int .i64 f.dst, .int .i64 f.ttl, .int .i64 f.tag, .int .i64 f.sw, .int .i64 f.inn] 31))
  have HS := Aside.mk (heap_old (heap_new (w.alloc (.cells #[.int .i64 s, .int .i64 p, .slice A ls.length c] 24)) (.cells #[.int .i64 sw.epoch, .int .i64 sw.seen, .bool sw.op, .int .i64 sw.stamp, .int .i64 sw.bad, .slice V sw.vs.length cV, .int .i64 sw.junk] 27) rfl) (.cells #[.int .i64 f.id, .int .i64 f.src, .int .i64 f.dst, .int .i64 f.ttl, .int .i64 f.tag, .int .i64 f.sw, .int .i64 f.inn] 31))
  have HY := Aside.mk (heap_new ((w.alloc (.cells #[.int .i64 s, .int .i64 p, .slice A ls.length c] 24)).alloc (.cells #[.int .i64 sw.epoch, .int .i64 sw.seen, .bool sw.op, .int .i64 sw.stamp, .int .i64 sw.bad, .slice V sw.vs.length cV, .int .i64 sw.junk] 27)) (.cells #[.int .i64 f.id, .int .i64 f.src, .int .i64 f.dst, .int .i64 f.ttl, .int .i64 f.tag, .int .i64 f.sw, .int .i64 f.inn] 31) rfl)
  simp only [World.size_alloc] at HX HS HY
  clear hl hv hf
  obtain ⟨ep, se, op, st, ba, vs, ju⟩ := sw
  dsimp only at *
  subst ho
  have d60 : decide ((60 : Int) < (ls.length : Int)) = false := decide_eq_false (by omega)
  have HP := Aside.mk hp
  clear hp
  have hq2 := eqFly
  have hzz : ∀ w, (Op.equalIn 10000 31 (.agg #[.int .i64 0, .int .i64 0, .int .i64 0, .int .i64 0, .int .i64 0, .int .i64 0, .int .i64 0]) (.agg #[.int .i64 0, .int .i64 0, .int .i64 0, .int .i64 0, .int .i64 0, .int .i64 0, .int .i64 0])).run Try.prog w = .ok true w := fun w => eqFly w noFly noFly
  clear hq2
  have dk0 : (k == 0) = false := by rcases hk with rfl | rfl | rfl | rfl <;> rfl
  have dn0 : (k != 0) = true := by rcases hk with rfl | rfl | rfl | rfl <;> rfl
  have dk5 : (k == 5) = false := by rcases hk with rfl | rfl | rfl | rfl <;> rfl
  have dk6 : (k == 6) = false := by rcases hk with rfl | rfl | rfl | rfl <;> rfl
  have dk7 : (k != 7) = true := by rcases hk with rfl | rfl | rfl | rfl <;> rfl
  clear hk
  have dt : decide (f.ttl < 1) = false := decide_eq_false (by omega)
  have dt2 : decide (1 ≤ f.ttl) = true := decide_eq_true (by omega)
  go_enter Try.func6, Try.ntmps6
  go_wp2_with (first
    | (go_at_call 8; refine (awake18_any _).mono ?_; rintro e w1 ⟨rfl, hb1⟩; have HL := Aside.mk (HL.out.below hb1); have HV := Aside.mk (HV.out.below hb1); have KB := Aside.mk (below_call KB.out hb1); have HX := Aside.mk (blk_keep HX.out hb1); have HS := Aside.mk (blk_keep HS.out hb1); have HY := Aside.mk (blk_keep HY.out hb1); have c0 := blk_cell HX.out 0; have c1 := blk_cell HX.out 1; have c2 := blk_cell HX.out 2; have s0 := blk_cell HS.out 0; have s1 := blk_cell HS.out 1; have s2 := blk_cell HS.out 2; have s3 := blk_cell HS.out 3; have s4 := blk_cell HS.out 4; have s5 := blk_cell HS.out 5; have s6 := blk_cell HS.out 6; have y0 := blk_cell HY.out 0; have y1 := blk_cell HY.out 1; have y2 := blk_cell HY.out 2; have y3 := blk_cell HY.out 3; have y4 := blk_cell HY.out 4; have y5 := blk_cell HY.out 5; have y6 := blk_cell HY.out 6; simp at c0 c1 c2 s0 s1 s2 s3 s4 s5 s6 y0 y1 y2 y3 y4 y5 y6; have hsz := blk_lt HY.out; have hsz0 := blk_lt HX.out; have hsz1 := blk_lt HS.out; have hsy := Nat.lt_succ_of_lt hsz; have hsy0 := Nat.lt_succ_of_lt hsz0; have hsy1 := Nat.lt_succ_of_lt hsz1; clear hb1)
    | (go_at_call 9; refine (fewV_any _ _ _ _ HV.out).mono ?_; rw [hfew]; rintro e w2 ⟨rfl, rfl⟩)
    | (go_at_call 10; refine (pipe_any s p A c ls ⟨ep, se, true, st, ba, vs, ju⟩ V cV f tick _ HL.out HV.out HF.out).mono ?_; rw [HP.out]; dsimp only [noFly]; rintro e w3 ⟨rfl, hb1⟩; have HL := Aside.mk (HL.out.below hb1); have HV := Aside.mk (HV.out.below hb1); have KB := Aside.mk (below_call KB.out hb1); have HX := Aside.mk (blk_keep HX.out hb1); have HS := Aside.mk (blk_keep HS.out hb1); have HY := Aside.mk (blk_keep HY.out hb1); have c0 := blk_cell HX.out 0; have c1 := blk_cell HX.out 1; have c2 := blk_cell HX.out 2; have s0 := blk_cell HS.out 0; have s1 := blk_cell HS.out 1; have s2 := blk_cell HS.out 2; have s3 := blk_cell HS.out 3; have s4 := blk_cell HS.out 4; have s5 := blk_cell HS.out 5; have s6 := blk_cell HS.out 6; have y0 := blk_cell HY.out 0; have y1 := blk_cell HY.out 1; have y2 := blk_cell HY.out 2; have y3 := blk_cell HY.out 3; have y4 := blk_cell HY.out 4; have y5 := blk_cell HY.out 5; have y6 := blk_cell HY.out 6; simp at c0 c1 c2 s0 s1 s2 s3 s4 s5 s6 y0 y1 y2 y3 y4 y5 y6; have hsz := blk_lt HY.out; have hsz0 := blk_lt HX.out; have hsz1 := blk_lt HS.out; have hsy := Nat.lt_succ_of_lt hsz; have hsy0 := Nat.lt_succ_of_lt hsz0; have hsy1 := Nat.lt_succ_of_lt hsz1; clear hb1))
  all_goals (go_ret; exact ⟨by first | rfl | simp, by (repeat (first | exact KB.out | refine below_alloc ?_ _ | refine below_set ?_ (by (try simp) <;> omega) _))⟩)
set_option maxHeartbeats 4000000 in
theorem pipeGoes_c3 (s p : Int) (A : Option Addr) (c : Nat) (ls : List Lnk) (sw : Swt) (V : Option Addr) (cV : Nat) (f : Fly) (tick : Int) (w : World) (hl : Rd lnkD w A ls.length ls) (hT : FitT s p c ls) (hv : Rd verD w V sw.vs.length sw.vs) (hS : FitS sw cV) (hf : FitF f) (hM : Fit tick) (hfew : fewV sw.vs = true) (h60 : ls.length ≤ 60) (ho : sw.op = true) (ht : 1 ≤ f.ttl) (tg o a b : Int) (hp : pipeP s p ls sw f tick = (⟨tick, f.id, f.sw, f.inn, tg, 0, o⟩, { f with ttl := f.ttl - 1, tag := tg, sw := a, inn := b })) :
    Calls Try.prog 6 #[.agg #[.int .i64 s, .int .i64 p, .slice A ls.length c], swV sw V cV, flyV f, .int .i64 tick] w fun e w' => e = .returned (.bool true) ∧ Below w.heap.size w w' := by
  have hmx := hl.max
  have HF := Aside.mk hf.2.2.2.1
  have hlo := hf.2.2.2.1.lo
  have hhi := hf.2.2.2.1.hi
  have HL := Aside.mk (hl.below (below_alloc (below_alloc (below_alloc (Below.refl _ w) (.cells #[.int .i64 s, .int .i64 p, .slice A ls.length c] 24)) (.cells #[.int .i64 sw.epoch, .int .i64 sw.seen, .bool sw.op, .int .i64 sw.stamp, .int .i64 sw.bad, .slice V sw.vs.length cV, .int .i64 sw.junk] 27)) (.cells #[.int .i64 f.id, .int .i64 f.src, .int .i64 f.dst, .int .i64 f.ttl, .int .i64 f.tag, .int .i64 f.sw, .int .i64 f.inn] 31)))
  have HV := Aside.mk (hv.below (below_alloc (below_alloc (below_alloc (Below.refl _ w) (.cells #[.int .i64 s, .int .i64 p, .slice A ls.length c] 24)) (.cells #[.int .i64 sw.epoch, .int .i64 sw.seen, .bool sw.op, .int .i64 sw.stamp, .int .i64 sw.bad, .slice V sw.vs.length cV, .int .i64 sw.junk] 27)) (.cells #[.int .i64 f.id, .int .i64 f.src, .int .i64 f.dst, .int .i64 f.ttl, .int .i64 f.tag, .int .i64 f.sw, .int .i64 f.inn] 31)))
  have KB := Aside.mk (below_alloc (below_alloc (below_alloc (Below.refl _ w) (.cells #[.int .i64 s, .int .i64 p, .slice A ls.length c] 24)) (.cells #[.int .i64 sw.epoch, .int .i64 sw.seen, .bool sw.op, .int .i64 sw.stamp, .int .i64 sw.bad, .slice V sw.vs.length cV, .int .i64 sw.junk] 27)) (.cells #[.int .i64 f.id, .int .i64 f.src, .int .i64 f.dst, .int .i64 f.ttl, .int .i64 f.tag, .int .i64 f.sw, .int .i64 f.inn] 31))
  have HX := Aside.mk (heap_old (heap_old (heap_new w (.cells #[.int .i64 s, .int .i64 p, .slice A ls.length c] 24) rfl) (.cells #[.int .i64 sw.epoch, .int .i64 sw.seen, .bool sw.op, .int .i64 sw.stamp, .int .i64 sw.bad, .slice V sw.vs.length cV, .int .i64 sw.junk] 27)) (.cells #[.int .i64 f.id, .int .i64 f.src, .int .i64 f.dst, .int .i64 f.ttl, .int .i64 f.tag, .int .i64 f.sw, .int .i64 f.inn] 31))
  have HS := Aside.mk (heap_old (heap_new (w.alloc (.cells #[.int .i64 s, .int .i64 p, .slice A ls.length c] 24)) (.cells #[.int .i64 sw.epoch, .int .i64 sw.seen, .bool sw.op, .int .i64 sw.stamp, .int .i64 sw.bad, .slice V sw.vs.length cV, .int .i64 sw.junk] 27) rfl) (.cells #[.int .i64 f.id, .int .i64 f.src, .int .i64 f.dst, .int .i64 f.ttl, .int .i64 f.tag, .int .i64 f.sw, .int .i64 f.inn] 31))
  have HY := Aside.mk (heap_new ((w.alloc (.cells #[.int .i64 s, .int .i64 p, .slice A ls.length c] 24)).alloc (.cells #[.int .i64 sw.epoch, .int .i64 sw.seen, .bool sw.op, .int .i64 sw.stamp, .int .i64 sw.bad, .slice V sw.vs.length cV, .int .i64 sw.junk] 27)) (.cells #[.int .i64 f.id, .int .i64 f.src, .int .i64 f.dst, .int .i64 f.ttl, .int .i64 f.tag, .int .i64 f.sw, .int .i64 f.inn] 31) rfl)
  simp only [World.size_alloc] at HX HS HY
  clear hl hv hf
  obtain ⟨ep, se, op, st, ba, vs, ju⟩ := sw
  dsimp only at *
  subst ho
  have d60 : decide ((60 : Int) < (ls.length : Int)) = false := decide_eq_false (by omega)
  have HP := Aside.mk hp
  clear hp
  have dt : decide (f.ttl < 1) = false := decide_eq_false (by omega)
  have dt2 : decide (1 ≤ f.ttl) = true := decide_eq_true (by omega)
  have hwt : IntKind.i64.wrap (f.ttl - 1) = f.ttl - 1 := IntWalk.i64_in _ (by omega)
  have hpk : ∀ w, (Op.equalIn 10000 29 (.agg #[.int .i64 f.id, .int .i64 f.src, .int .i64 f.dst, .int .i64 (f.ttl - 1), .int .i64 tg]) (.agg #[.int .i64 f.id, .int .i64 f.src, .int .i64 f.dst, .int .i64 (f.ttl - 1), .int .i64 tg])).run Try.prog w = .ok true w := eqPck f.id f.src f.dst (f.ttl - 1) tg
  go_enter Try.func6, Try.ntmps6
  go_wp2_with (first
    | (go_at_call 8; refine (awake18_any _).mono ?_; rintro e w1 ⟨rfl, hb1⟩; have HL := Aside.mk (HL.out.below hb1); have HV := Aside.mk (HV.out.below hb1); have KB := Aside.mk (below_call KB.out hb1); have HX := Aside.mk (blk_keep HX.out hb1); have HS := Aside.mk (blk_keep HS.out hb1); have HY := Aside.mk (blk_keep HY.out hb1); have c0 := blk_cell HX.out 0; have c1 := blk_cell HX.out 1; have c2 := blk_cell HX.out 2; have s0 := blk_cell HS.out 0; have s1 := blk_cell HS.out 1; have s2 := blk_cell HS.out 2; have s3 := blk_cell HS.out 3; have s4 := blk_cell HS.out 4; have s5 := blk_cell HS.out 5; have s6 := blk_cell HS.out 6; have y0 := blk_cell HY.out 0; have y1 := blk_cell HY.out 1; have y2 := blk_cell HY.out 2; have y3 := blk_cell HY.out 3; have y4 := blk_cell HY.out 4; have y5 := blk_cell HY.out 5; have y6 := blk_cell HY.out 6; simp at c0 c1 c2 s0 s1 s2 s3 s4 s5 s6 y0 y1 y2 y3 y4 y5 y6; have hsz := blk_lt HY.out; have hsz0 := blk_lt HX.out; have hsz1 := blk_lt HS.out; have hsy := Nat.lt_succ_of_lt hsz; have hsy0 := Nat.lt_succ_of_lt hsz0; have hsy1 := Nat.lt_succ_of_lt hsz1; clear hb1)
    | (go_at_call 9; refine (fewV_any _ _ _ _ HV.out).mono ?_; rw [hfew]; rintro e w2 ⟨rfl, rfl⟩)
    | (go_at_call 10; refine (pipe_any s p A c ls ⟨ep, se, true, st, ba, vs, ju⟩ V cV f tick _ HL.out HV.out HF.out).mono ?_; rw [HP.out]; dsimp only [noFly]; rintro e w3 ⟨rfl, hb1⟩; have HL := Aside.mk (HL.out.below hb1); have HV := Aside.mk (HV.out.below hb1); have KB := Aside.mk (below_call KB.out hb1); have HX := Aside.mk (blk_keep HX.out hb1); have HS := Aside.mk (blk_keep HS.out hb1); have HY := Aside.mk (blk_keep HY.out hb1); have c0 := blk_cell HX.out 0; have c1 := blk_cell HX.out 1; have c2 := blk_cell HX.out 2; have s0 := blk_cell HS.out 0; have s1 := blk_cell HS.out 1; have s2 := blk_cell HS.out 2; have s3 := blk_cell HS.out 3; have s4 := blk_cell HS.out 4; have s5 := blk_cell HS.out 5; have s6 := blk_cell HS.out 6; have y0 := blk_cell HY.out 0; have y1 := blk_cell HY.out 1; have y2 := blk_cell HY.out 2; have y3 := blk_cell HY.out 3; have y4 := blk_cell HY.out 4; have y5 := blk_cell HY.out 5; have y6 := blk_cell HY.out 6; simp at c0 c1 c2 s0 s1 s2 s3 s4 s5 s6 y0 y1 y2 y3 y4 y5 y6; have hsz := blk_lt HY.out; have hsz0 := blk_lt HX.out; have hsz1 := blk_lt HS.out; have hsy := Nat.lt_succ_of_lt hsz; have hsy0 := Nat.lt_succ_of_lt hsz0; have hsy1 := Nat.lt_succ_of_lt hsz1; clear hb1))
  all_goals (go_ret; exact ⟨by first | rfl | simp, by (repeat (first | exact KB.out | refine below_alloc ?_ _ | refine below_set ?_ (by (try simp) <;> omega) _))⟩)
set_option maxHeartbeats 4000000 in
theorem pipeGoes_main (s p : Int) (A : Option Addr) (c : Nat) (ls : List Lnk) (sw : Swt) (V : Option Addr) (cV : Nat) (f : Fly) (tick : Int) (w : World) (hl : Rd lnkD w A ls.length ls) (hT : FitT s p c ls) (hv : Rd verD w V sw.vs.length sw.vs) (hS : FitS sw cV) (hf : FitF f) (hM : Fit tick) (hfew : fewV sw.vs = true) (h60 : ls.length ≤ 60) :
    Calls Try.prog 6 #[.agg #[.int .i64 s, .int .i64 p, .slice A ls.length c], swV sw V cV, flyV f, .int .i64 tick] w fun e w' => e = .returned (.bool true) ∧ Below w.heap.size w w' := by
  rcases pipeP_cases s p ls sw f tick with ⟨ho, hp⟩ | ⟨ho, ht, hp⟩ | ⟨ho, ht, k, o, hk, hp⟩ | ⟨ho, ht, o, a, b, hp⟩
  · exact pipeGoes_c0 s p A c ls sw V cV f tick w hl hT hv hS hf hM hfew h60 ho hp
  · exact pipeGoes_c1 s p A c ls sw V cV f tick w hl hT hv hS hf hM hfew h60 ho ht _ hp
  · exact pipeGoes_c2 s p A c ls sw V cV f tick w hl hT hv hS hf hM hfew h60 ho ht _ k o hk hp
  · exact pipeGoes_c3 s p A c ls sw V cV f tick w hl hT hv hS hf hM hfew h60 ho ht _ o a b hp
set_option maxHeartbeats 4000000 in
theorem pipeGoes_walk (s p : Int) (A : Option Addr) (c : Nat) (ls : List Lnk) (sw : Swt) (V : Option Addr) (cV : Nat) (f : Fly) (tick : Int) (w : World) (hl : Rd lnkD w A ls.length ls) (hT : FitT s p c ls) (hv : Rd verD w V sw.vs.length sw.vs) (hS : FitS sw cV) (hf : FitF f) (hM : Fit tick) :
    Calls Try.prog 6 #[.agg #[.int .i64 s, .int .i64 p, .slice A ls.length c], swV sw V cV, flyV f, .int .i64 tick] w fun e w' => e = .returned (.bool true) ∧ Below w.heap.size w w' := by
  cases hfew : fewV sw.vs
  · exact pipeGoes_few s p A c ls sw V cV f tick w hl hT hv hS hf hM hfew
  by_cases h60 : ls.length ≤ 60
  · exact pipeGoes_main s p A c ls sw V cV f tick w hl hT hv hS hf hM hfew h60
  · exact pipeGoes_big s p A c ls sw V cV f tick w hl hT hv hS hf hM hfew h60
end Go.Proofs.Ytnldllfmbahjlaa
