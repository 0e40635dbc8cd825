/- The walk through pipe.At. -/
import Derived.Test.YtlnnkkbcmidddaaPipeA
namespace Go.Proofs.Ytlnnkkbcmidddaa
open Go.RowKit
set_option maxRecDepth 100000

theorem pipeP_look (s p : Int) (ls : List Lnk) (sw : Swt) (f : Fly) (tick : Int) (ho : sw.op = true) (ht : 1 ≤ f.ttl) : pipeP s p ls sw f tick = lookP s p ls sw.vs f ⟨tick, f.id, f.sw, f.inn, tagP s p ls sw f, 0, 0⟩ := by
  unfold pipeP lookP
  rw [if_neg (by simp [ho]), if_neg (by omega)]
/-- What stands behind the frame of a passing. -/
structure PipK (s p : Int) (A : Option Addr) (c : Nat) (ls : List Lnk) (sw : Swt) (V : Option Addr) (cV : Nat) (f : Fly) (h : Hop) (g : Fly) (w W : World) : Prop where
  kb : Below w.heap.size w W
  kt : W.heap[w.heap.size]? = some (.cells #[.int .i64 s, .int .i64 p, .slice A ls.length c] 24)
  ks : W.heap[w.heap.size + 1]? = some (.cells #[.int .i64 sw.epoch, .int .i64 sw.seen, .bool sw.op, .int .i64 sw.stamp, .int .i64 sw.bad, .slice V sw.vs.length cV, .int .i64 sw.junk] 39)
  kf : W.heap[w.heap.size + 1 + 1]? = some (.cells #[.int .i64 f.id, .int .i64 f.src, .int .i64 f.dst, .int .i64 f.ttl, .int .i64 f.tag, .int .i64 f.sw, .int .i64 f.inn] 30)
  kh : W.heap[w.heap.size + 1 + 1 + 1]? = some (.cells #[.int .i64 0, .int .i64 0, .int .i64 0, .int .i64 0, .int .i64 0, .int .i64 0, .int .i64 0] 41)
  kg : W.heap[w.heap.size + 1 + 1 + 1 + 1]? = some (.cells #[.int .i64 0, .int .i64 0, .int .i64 0, .int .i64 0, .int .i64 0, .int .i64 0, .int .i64 0] 30)
  kp : W.heap[w.heap.size + 1 + 1 + 1 + 1 + 1]? = some (.cells #[.int .i64 h.tick, .int .i64 h.id, .int .i64 h.sw, .int .i64 h.inn, .int .i64 h.tag, .int .i64 h.what, .int .i64 h.out, .int .i64 g.id, .int .i64 g.src, .int .i64 g.dst, .int .i64 g.ttl, .int .i64 g.tag, .int .i64 g.sw, .int .i64 g.inn] 72)
theorem PipK.start (s p : Int) (A : Option Addr) (c : Nat) (ls : List Lnk) (sw : Swt) (V : Option Addr) (cV : Nat) (f : Fly) (tick : Int) (w : World) : PipK s p A c ls sw V cV f ⟨tick, f.id, f.sw, f.inn, f.tag, 0, 0⟩ noFly w ((((((w.alloc (.cells #[.int .i64 s, .int .i64 p, .slice A ls.length c] 24)).alloc (.cells #[.int .i64 sw.epoch, .int .i64 sw.seen, .bool sw.op, .int .i64 sw.stamp, .int .i64 sw.bad, .slice V sw.vs.length cV, .int .i64 sw.junk] 39)).alloc (.cells #[.int .i64 f.id, .int .i64 f.src, .int .i64 f.dst, .int .i64 f.ttl, .int .i64 f.tag, .int .i64 f.sw, .int .i64 f.inn] 30)).alloc (.cells #[.int .i64 0, .int .i64 0, .int .i64 0, .int .i64 0, .int .i64 0, .int .i64 0, .int .i64 0] 41)).alloc (.cells #[.int .i64 0, .int .i64 0, .int .i64 0, .int .i64 0, .int .i64 0, .int .i64 0, .int .i64 0] 30)).alloc (.cells #[.int .i64 tick, .int .i64 f.id, .int .i64 f.sw, .int .i64 f.inn, .int .i64 f.tag, .int .i64 0, .int .i64 0, .int .i64 0, .int .i64 0, .int .i64 0, .int .i64 0, .int .i64 0, .int .i64 0, .int .i64 0] 72)) :=
  ⟨below_alloc (below_alloc (below_alloc (below_alloc (below_alloc (below_alloc (Below.refl _ _) _) _) _) _) _) _, heap_old (heap_old (heap_old (heap_old (heap_old (heap_new _ _ rfl) _) _) _) _) _, heap_old (heap_old (heap_old (heap_old (heap_new _ _ (by simp)) _) _) _) _, heap_old (heap_old (heap_old (heap_new _ _ (by simp)) _) _) _, heap_old (heap_old (heap_new _ _ (by simp)) _) _, heap_old (heap_new _ _ (by simp)) _, heap_new _ _ (by simp)⟩
section
variable {s p : Int} {A : Option Addr} {c : Nat} {ls : List Lnk} {sw : Swt} {V : Option Addr} {cV : Nat} {f : Fly} {h : Hop} {g : Fly} {w W W' : World}
theorem PipK.call (k : PipK s p A c ls sw V cV f h g w W) (hb : Below W.heap.size W W') : PipK s p A c ls sw V cV f h g w W' :=
  ⟨below_call k.kb hb, blk_keep k.kt hb, blk_keep k.ks hb, blk_keep k.kf hb, blk_keep k.kh hb, blk_keep k.kg hb, blk_keep k.kp hb⟩
theorem PipK.turn {h' : Hop} {g' : Fly} (k : PipK s p A c ls sw V cV f h g w W) (hg : W.grownBy W' (some (w.heap.size + 1 + 1 + 1 + 1 + 1))) (hp : W'.heap[w.heap.size + 1 + 1 + 1 + 1 + 1]? = some (.cells (passC h' g') 72)) : PipK s p A c ls sw V cV f h' g' w W' :=
  have far : ∀ i o, i ≠ w.heap.size + 1 + 1 + 1 + 1 + 1 → W.heap[i]? = some o → W'.heap[i]? = some o := fun i o hi ho => (hg.block i (blk_lt ho) (fun e => hi (by injection e))).trans ho
  ⟨below_grown k.kb hg (by omega), far _ _ (by omega) k.kt, far _ _ (by omega) k.ks, far _ _ (by omega) k.kf, far _ _ (by omega) k.kh, far _ _ (by omega) k.kg, hp⟩
theorem PipK.tag (k : PipK s p A c ls sw V cV f h g w W) (x : Int) : PipK s p A c ls sw V cV f { h with tag := x } g w (W.setCell ⟨w.heap.size + 1 + 1 + 1 + 1 + 1, 4, none⟩ (.int .i64 x)) :=
  k.turn (grown_set2 _ _ _ _) (blk_set k.kp 4 _)
theorem PipK.what (k : PipK s p A c ls sw V cV f h g w W) (x : Int) : PipK s p A c ls sw V cV f { h with what := x } g w (W.setCell ⟨w.heap.size + 1 + 1 + 1 + 1 + 1, 5, none⟩ (.int .i64 x)) :=
  k.turn (grown_set2 _ _ _ _) (blk_set k.kp 5 _)
end

set_option maxHeartbeats 4000000 in
theorem pipe_shut (s p : Int) (A : Option Addr) (c : Nat) (ls : List Lnk) (sw : Swt) (V : Option Addr) (cV : Nat) (f : Fly) (tick : Int) (w : World) (ho : sw.op = false) :
    Calls Try.prog 14 #[.agg #[.int .i64 s, .int .i64 p, .slice A ls.length c], swV sw V cV, flyV f, .int .i64 tick] w fun e w' => e = .returned (.tuple #[hopV (pipeP s p ls sw f tick).1, flyV (pipeP s p ls sw f tick).2]) ∧ Below w.heap.size w w' := by
  obtain ⟨ep, se, op, st, ba, vs, ju⟩ := sw
  dsimp only at ho
  subst ho
  have SK := PipK.start s p A c ls ⟨ep, se, false, st, ba, vs, ju⟩ V cV f tick w
  have KK := Aside.mk SK
  have HS := Aside.mk (show pipeP s p ls ⟨ep, se, false, st, ba, vs, ju⟩ f tick = (⟨tick, f.id, f.sw, f.inn, f.tag, 6, 0⟩, noFly) by unfold pipeP; rw [if_pos rfl])
  clear SK
  go_enter Try.func14, Try.ntmps14
  go_wp2_with fail
  go_region
  all_goals
    go_wp2
    refine bodyPost_ret (v := .tuple #[hopV ⟨tick, f.id, f.sw, f.inn, f.tag, 6, 0⟩, flyV noFly]) (by simp [results, Try.results14, go_sem, hopV, flyV, noFly, *]) rfl ⟨by rw [HS.out], ?_⟩
    refine below_drew ?_
    repeat (refine below_set ?_ (by (try simp) <;> omega) _)
    repeat (refine below_alloc ?_ _)
    exact Below.refl _ _

set_option maxHeartbeats 4000000 in
theorem pipe_open (s p : Int) (A : Option Addr) (c : Nat) (ls : List Lnk) (sw : Swt) (V : Option Addr) (cV : Nat) (f : Fly) (tick : Int) (w : World) (hl : Rd lnkD w A ls.length ls) (hv : Rd verD w V sw.vs.length sw.vs) (hf : Fit f.ttl) (ho : sw.op = true) :
    Calls Try.prog 14 #[.agg #[.int .i64 s, .int .i64 p, .slice A ls.length c], swV sw V cV, flyV f, .int .i64 tick] w fun e w' => e = .returned (.tuple #[hopV (pipeP s p ls sw f tick).1, flyV (pipeP s p ls sw f tick).2]) ∧ Below w.heap.size w w' := by
  have HL := Aside.mk hl
  have HV := Aside.mk hv
  have HF := Aside.mk hf
  clear hl hv hf
  obtain ⟨ep, se, op, st, ba, vs, ju⟩ := sw
  dsimp only at ho
  subst ho
  have SK := PipK.start s p A c ls ⟨ep, se, true, st, ba, vs, ju⟩ V cV f tick w
  have KK := Aside.mk SK
  clear SK
  have htg : tagP s p ls ⟨ep, se, true, st, ba, vs, ju⟩ f = if edgeR s p ls f.sw f.inn = true then st else f.tag := by unfold tagP; simp
  by_cases ht : f.ttl < 1
  · have dt : decide (f.ttl < 1) = true := decide_eq_true ht
    cases hedge : edgeR s p ls f.sw f.inn
    · have HS := Aside.mk (show pipeP s p ls ⟨ep, se, true, st, ba, vs, ju⟩ f tick = (⟨tick, f.id, f.sw, f.inn, f.tag, 5, 0⟩, noFly) by unfold pipeP; rw [if_neg (by simp), if_pos ht, htg, hedge]; rfl)
      clear htg
      go_enter Try.func14, Try.ntmps14
      go_wp2_with (go_at_call 33; refine (edge_any s p A c ls _ _ _ (HL.out.below KK.out.kb)).mono ?_; rw [edge_same, hedge]; rintro e w1 ⟨rfl, hb1⟩; have KK := Aside.mk (KK.out.call hb1); have c0 := blk_cell KK.out.kt 0; have c1 := blk_cell KK.out.kt 1; have c2 := blk_cell KK.out.kt 2; have s0 := blk_cell KK.out.ks 0; have s1 := blk_cell KK.out.ks 1; have s2 := blk_cell KK.out.ks 2; have s3 := blk_cell KK.out.ks 3; have s4 := blk_cell KK.out.ks 4; have s5 := blk_cell KK.out.ks 5; have s6 := blk_cell KK.out.ks 6; have d0 := blk_cell KK.out.kf 0; have d1 := blk_cell KK.out.kf 1; have d2 := blk_cell KK.out.kf 2; have d3 := blk_cell KK.out.kf 3; have d4 := blk_cell KK.out.kf 4; have d5 := blk_cell KK.out.kf 5; have d6 := blk_cell KK.out.kf 6; simp at c0 c1 c2 s0 s1 s2 s3 s4 s5 s6 d0 d1 d2 d3 d4 d5 d6; have P0 := blk_cell KK.out.kp 0; have P1 := blk_cell KK.out.kp 1; have P2 := blk_cell KK.out.kp 2; have P3 := blk_cell KK.out.kp 3; have P4 := blk_cell KK.out.kp 4; have P5 := blk_cell KK.out.kp 5; have P6 := blk_cell KK.out.kp 6; have P7 := blk_cell KK.out.kp 7; have P8 := blk_cell KK.out.kp 8; have P9 := blk_cell KK.out.kp 9; have P10 := blk_cell KK.out.kp 10; have P11 := blk_cell KK.out.kp 11; have P12 := blk_cell KK.out.kp 12; have P13 := blk_cell KK.out.kp 13; simp at P0 P1 P2 P3 P4 P5 P6 P7 P8 P9 P10 P11 P12 P13; have PF := fun i => blk_frozen KK.out.kp i; have r0 := blk_cell KK.out.kh 0; have r1 := blk_cell KK.out.kh 1; have r2 := blk_cell KK.out.kh 2; have r3 := blk_cell KK.out.kh 3; have r4 := blk_cell KK.out.kh 4; have r5 := blk_cell KK.out.kh 5; have r6 := blk_cell KK.out.kh 6; have g0 := blk_cell KK.out.kg 0; have g1 := blk_cell KK.out.kg 1; have g2 := blk_cell KK.out.kg 2; have g3 := blk_cell KK.out.kg 3; have g4 := blk_cell KK.out.kg 4; have g5 := blk_cell KK.out.kg 5; have g6 := blk_cell KK.out.kg 6; simp at r0 r1 r2 r3 r4 r5 r6 g0 g1 g2 g3 g4 g5 g6; have fr := fun i => blk_frozen KK.out.kh i; have gr := fun i => blk_frozen KK.out.kg i; have sz := blk_lt KK.out.kp; clear hb1)
      go_region
      all_goals
        go_wp2
        refine bodyPost_ret (v := .tuple #[hopV ⟨tick, f.id, f.sw, f.inn, f.tag, 5, 0⟩, flyV noFly]) (by simp [results, Try.results14, go_sem, hopV, flyV, noFly, *]) rfl ⟨by rw [HS.out], ?_⟩
        refine below_drew ?_
        repeat (refine below_set ?_ (by (try simp) <;> omega) _)
        exact KK.out.kb
    · have HS := Aside.mk (show pipeP s p ls ⟨ep, se, true, st, ba, vs, ju⟩ f tick = (⟨tick, f.id, f.sw, f.inn, st, 5, 0⟩, noFly) by unfold pipeP; rw [if_neg (by simp), if_pos ht, htg, hedge]; rfl)
      clear htg
      go_enter Try.func14, Try.ntmps14
      go_wp2_with (go_at_call 33; refine (edge_any s p A c ls _ _ _ (HL.out.below KK.out.kb)).mono ?_; rw [edge_same, hedge]; rintro e w1 ⟨rfl, hb1⟩; have KK := Aside.mk (KK.out.call hb1); have c0 := blk_cell KK.out.kt 0; have c1 := blk_cell KK.out.kt 1; have c2 := blk_cell KK.out.kt 2; have s0 := blk_cell KK.out.ks 0; have s1 := blk_cell KK.out.ks 1; have s2 := blk_cell KK.out.ks 2; have s3 := blk_cell KK.out.ks 3; have s4 := blk_cell KK.out.ks 4; have s5 := blk_cell KK.out.ks 5; have s6 := blk_cell KK.out.ks 6; have d0 := blk_cell KK.out.kf 0; have d1 := blk_cell KK.out.kf 1; have d2 := blk_cell KK.out.kf 2; have d3 := blk_cell KK.out.kf 3; have d4 := blk_cell KK.out.kf 4; have d5 := blk_cell KK.out.kf 5; have d6 := blk_cell KK.out.kf 6; simp at c0 c1 c2 s0 s1 s2 s3 s4 s5 s6 d0 d1 d2 d3 d4 d5 d6; have P0 := blk_cell KK.out.kp 0; have P1 := blk_cell KK.out.kp 1; have P2 := blk_cell KK.out.kp 2; have P3 := blk_cell KK.out.kp 3; have P4 := blk_cell KK.out.kp 4; have P5 := blk_cell KK.out.kp 5; have P6 := blk_cell KK.out.kp 6; have P7 := blk_cell KK.out.kp 7; have P8 := blk_cell KK.out.kp 8; have P9 := blk_cell KK.out.kp 9; have P10 := blk_cell KK.out.kp 10; have P11 := blk_cell KK.out.kp 11; have P12 := blk_cell KK.out.kp 12; have P13 := blk_cell KK.out.kp 13; simp at P0 P1 P2 P3 P4 P5 P6 P7 P8 P9 P10 P11 P12 P13; have PF := fun i => blk_frozen KK.out.kp i; have r0 := blk_cell KK.out.kh 0; have r1 := blk_cell KK.out.kh 1; have r2 := blk_cell KK.out.kh 2; have r3 := blk_cell KK.out.kh 3; have r4 := blk_cell KK.out.kh 4; have r5 := blk_cell KK.out.kh 5; have r6 := blk_cell KK.out.kh 6; have g0 := blk_cell KK.out.kg 0; have g1 := blk_cell KK.out.kg 1; have g2 := blk_cell KK.out.kg 2; have g3 := blk_cell KK.out.kg 3; have g4 := blk_cell KK.out.kg 4; have g5 := blk_cell KK.out.kg 5; have g6 := blk_cell KK.out.kg 6; simp at r0 r1 r2 r3 r4 r5 r6 g0 g1 g2 g3 g4 g5 g6; have fr := fun i => blk_frozen KK.out.kh i; have gr := fun i => blk_frozen KK.out.kg i; have sz := blk_lt KK.out.kp; clear hb1)
      go_region
      all_goals
        go_wp2
        refine bodyPost_ret (v := .tuple #[hopV ⟨tick, f.id, f.sw, f.inn, st, 5, 0⟩, flyV noFly]) (by simp [results, Try.results14, go_sem, hopV, flyV, noFly, *]) rfl ⟨by rw [HS.out], ?_⟩
        refine below_drew ?_
        repeat (refine below_set ?_ (by (try simp) <;> omega) _)
        exact KK.out.kb
  · have dt : decide (f.ttl < 1) = false := decide_eq_false ht
    have hpl := pipeP_look s p ls ⟨ep, se, true, st, ba, vs, ju⟩ f tick rfl (by omega)
    rw [htg] at hpl
    have HT1 := Aside.mk (show 1 ≤ f.ttl by omega)
    clear htg ht
    cases hedge : edgeR s p ls f.sw f.inn
    · rw [hedge, if_neg (by simp)] at hpl
      obtain ⟨h, g, hhg⟩ : ∃ h g, lookP s p ls vs f ⟨tick, f.id, f.sw, f.inn, f.tag, 0, 0⟩ = (h, g) := ⟨_, _, rfl⟩
      have HS := Aside.mk (hpl.trans hhg)
      have HLK := Aside.mk hhg
      clear hpl hhg
      go_enter Try.func14, Try.ntmps14
      go_wp2_with (first
        | (go_at_call 33; refine (edge_any s p A c ls _ _ _ (HL.out.below KK.out.kb)).mono ?_; rw [edge_same, hedge]; rintro e w1 ⟨rfl, hb1⟩; have KK := Aside.mk (KK.out.call hb1); have c0 := blk_cell KK.out.kt 0; have c1 := blk_cell KK.out.kt 1; have c2 := blk_cell KK.out.kt 2; have s0 := blk_cell KK.out.ks 0; have s1 := blk_cell KK.out.ks 1; have s2 := blk_cell KK.out.ks 2; have s3 := blk_cell KK.out.ks 3; have s4 := blk_cell KK.out.ks 4; have s5 := blk_cell KK.out.ks 5; have s6 := blk_cell KK.out.ks 6; have d0 := blk_cell KK.out.kf 0; have d1 := blk_cell KK.out.kf 1; have d2 := blk_cell KK.out.kf 2; have d3 := blk_cell KK.out.kf 3; have d4 := blk_cell KK.out.kf 4; have d5 := blk_cell KK.out.kf 5; have d6 := blk_cell KK.out.kf 6; simp at c0 c1 c2 s0 s1 s2 s3 s4 s5 s6 d0 d1 d2 d3 d4 d5 d6; have P0 := blk_cell KK.out.kp 0; have P1 := blk_cell KK.out.kp 1; have P2 := blk_cell KK.out.kp 2; have P3 := blk_cell KK.out.kp 3; have P4 := blk_cell KK.out.kp 4; have P5 := blk_cell KK.out.kp 5; have P6 := blk_cell KK.out.kp 6; have P7 := blk_cell KK.out.kp 7; have P8 := blk_cell KK.out.kp 8; have P9 := blk_cell KK.out.kp 9; have P10 := blk_cell KK.out.kp 10; have P11 := blk_cell KK.out.kp 11; have P12 := blk_cell KK.out.kp 12; have P13 := blk_cell KK.out.kp 13; simp at P0 P1 P2 P3 P4 P5 P6 P7 P8 P9 P10 P11 P12 P13; have PF := fun i => blk_frozen KK.out.kp i; have r0 := blk_cell KK.out.kh 0; have r1 := blk_cell KK.out.kh 1; have r2 := blk_cell KK.out.kh 2; have r3 := blk_cell KK.out.kh 3; have r4 := blk_cell KK.out.kh 4; have r5 := blk_cell KK.out.kh 5; have r6 := blk_cell KK.out.kh 6; have g0 := blk_cell KK.out.kg 0; have g1 := blk_cell KK.out.kg 1; have g2 := blk_cell KK.out.kg 2; have g3 := blk_cell KK.out.kg 3; have g4 := blk_cell KK.out.kg 4; have g5 := blk_cell KK.out.kg 5; have g6 := blk_cell KK.out.kg 6; simp at r0 r1 r2 r3 r4 r5 r6 g0 g1 g2 g3 g4 g5 g6; have fr := fun i => blk_frozen KK.out.kh i; have gr := fun i => blk_frozen KK.out.kg i; have sz := blk_lt KK.out.kp; clear hb1)
        | (go_at_call 34; refine (passing_any s p A c ls ⟨ep, se, true, st, ba, vs, ju⟩ V cV f _ _ w _ HL.out HV.out KK.out.kb (by omega) KK.out.kp HF.out HT1.out).mono ?_; rw [HLK.out]; rintro e w2 ⟨⟨v, rfl⟩, hp2, hg2⟩; have KK := Aside.mk (KK.out.turn hg2 hp2); have c0 := blk_cell KK.out.kt 0; have c1 := blk_cell KK.out.kt 1; have c2 := blk_cell KK.out.kt 2; have s0 := blk_cell KK.out.ks 0; have s1 := blk_cell KK.out.ks 1; have s2 := blk_cell KK.out.ks 2; have s3 := blk_cell KK.out.ks 3; have s4 := blk_cell KK.out.ks 4; have s5 := blk_cell KK.out.ks 5; have s6 := blk_cell KK.out.ks 6; have d0 := blk_cell KK.out.kf 0; have d1 := blk_cell KK.out.kf 1; have d2 := blk_cell KK.out.kf 2; have d3 := blk_cell KK.out.kf 3; have d4 := blk_cell KK.out.kf 4; have d5 := blk_cell KK.out.kf 5; have d6 := blk_cell KK.out.kf 6; simp at c0 c1 c2 s0 s1 s2 s3 s4 s5 s6 d0 d1 d2 d3 d4 d5 d6; have P0 := blk_cell KK.out.kp 0; have P1 := blk_cell KK.out.kp 1; have P2 := blk_cell KK.out.kp 2; have P3 := blk_cell KK.out.kp 3; have P4 := blk_cell KK.out.kp 4; have P5 := blk_cell KK.out.kp 5; have P6 := blk_cell KK.out.kp 6; have P7 := blk_cell KK.out.kp 7; have P8 := blk_cell KK.out.kp 8; have P9 := blk_cell KK.out.kp 9; have P10 := blk_cell KK.out.kp 10; have P11 := blk_cell KK.out.kp 11; have P12 := blk_cell KK.out.kp 12; have P13 := blk_cell KK.out.kp 13; simp at P0 P1 P2 P3 P4 P5 P6 P7 P8 P9 P10 P11 P12 P13; have PF := fun i => blk_frozen KK.out.kp i; have r0 := blk_cell KK.out.kh 0; have r1 := blk_cell KK.out.kh 1; have r2 := blk_cell KK.out.kh 2; have r3 := blk_cell KK.out.kh 3; have r4 := blk_cell KK.out.kh 4; have r5 := blk_cell KK.out.kh 5; have r6 := blk_cell KK.out.kh 6; have g0 := blk_cell KK.out.kg 0; have g1 := blk_cell KK.out.kg 1; have g2 := blk_cell KK.out.kg 2; have g3 := blk_cell KK.out.kg 3; have g4 := blk_cell KK.out.kg 4; have g5 := blk_cell KK.out.kg 5; have g6 := blk_cell KK.out.kg 6; simp at r0 r1 r2 r3 r4 r5 r6 g0 g1 g2 g3 g4 g5 g6; have fr := fun i => blk_frozen KK.out.kh i; have gr := fun i => blk_frozen KK.out.kg i; have sz := blk_lt KK.out.kp; clear hp2 hg2))
      go_region
      all_goals
        go_wp2
        refine bodyPost_ret (v := .tuple #[hopV h, flyV g]) (by simp [results, Try.results14, go_sem, hopV, flyV, noFly, *]) rfl ⟨by rw [HS.out], ?_⟩
        refine below_drew ?_
        repeat (refine below_set ?_ (by (try simp) <;> omega) _)
        exact KK.out.kb
    · rw [hedge, if_pos rfl] at hpl
      obtain ⟨h, g, hhg⟩ : ∃ h g, lookP s p ls vs f ⟨tick, f.id, f.sw, f.inn, st, 0, 0⟩ = (h, g) := ⟨_, _, rfl⟩
      have HS := Aside.mk (hpl.trans hhg)
      have HLK := Aside.mk hhg
      clear hpl hhg
      go_enter Try.func14, Try.ntmps14
      go_wp2_with (first
        | (go_at_call 33; refine (edge_any s p A c ls _ _ _ (HL.out.below KK.out.kb)).mono ?_; rw [edge_same, hedge]; rintro e w1 ⟨rfl, hb1⟩; have KK := Aside.mk (KK.out.call hb1); have c0 := blk_cell KK.out.kt 0; have c1 := blk_cell KK.out.kt 1; have c2 := blk_cell KK.out.kt 2; have s0 := blk_cell KK.out.ks 0; have s1 := blk_cell KK.out.ks 1; have s2 := blk_cell KK.out.ks 2; have s3 := blk_cell KK.out.ks 3; have s4 := blk_cell KK.out.ks 4; have s5 := blk_cell KK.out.ks 5; have s6 := blk_cell KK.out.ks 6; have d0 := blk_cell KK.out.kf 0; have d1 := blk_cell KK.out.kf 1; have d2 := blk_cell KK.out.kf 2; have d3 := blk_cell KK.out.kf 3; have d4 := blk_cell KK.out.kf 4; have d5 := blk_cell KK.out.kf 5; have d6 := blk_cell KK.out.kf 6; simp at c0 c1 c2 s0 s1 s2 s3 s4 s5 s6 d0 d1 d2 d3 d4 d5 d6; have P0 := blk_cell KK.out.kp 0; have P1 := blk_cell KK.out.kp 1; have P2 := blk_cell KK.out.kp 2; have P3 := blk_cell KK.out.kp 3; have P4 := blk_cell KK.out.kp 4; have P5 := blk_cell KK.out.kp 5; have P6 := blk_cell KK.out.kp 6; have P7 := blk_cell KK.out.kp 7; have P8 := blk_cell KK.out.kp 8; have P9 := blk_cell KK.out.kp 9; have P10 := blk_cell KK.out.kp 10; have P11 := blk_cell KK.out.kp 11; have P12 := blk_cell KK.out.kp 12; have P13 := blk_cell KK.out.kp 13; simp at P0 P1 P2 P3 P4 P5 P6 P7 P8 P9 P10 P11 P12 P13; have PF := fun i => blk_frozen KK.out.kp i; have r0 := blk_cell KK.out.kh 0; have r1 := blk_cell KK.out.kh 1; have r2 := blk_cell KK.out.kh 2; have r3 := blk_cell KK.out.kh 3; have r4 := blk_cell KK.out.kh 4; have r5 := blk_cell KK.out.kh 5; have r6 := blk_cell KK.out.kh 6; have g0 := blk_cell KK.out.kg 0; have g1 := blk_cell KK.out.kg 1; have g2 := blk_cell KK.out.kg 2; have g3 := blk_cell KK.out.kg 3; have g4 := blk_cell KK.out.kg 4; have g5 := blk_cell KK.out.kg 5; have g6 := blk_cell KK.out.kg 6; simp at r0 r1 r2 r3 r4 r5 r6 g0 g1 g2 g3 g4 g5 g6; have fr := fun i => blk_frozen KK.out.kh i; have gr := fun i => blk_frozen KK.out.kg i; have sz := blk_lt KK.out.kp; clear hb1)
        | (go_at_call 34; refine (passing_any s p A c ls ⟨ep, se, true, st, ba, vs, ju⟩ V cV f _ _ w _ HL.out HV.out (KK.out.tag st).kb (by omega) (KK.out.tag st).kp HF.out HT1.out).mono ?_; rw [HLK.out]; rintro e w2 ⟨⟨v, rfl⟩, hp2, hg2⟩; have KK := Aside.mk ((KK.out.tag st).turn hg2 hp2); have c0 := blk_cell KK.out.kt 0; have c1 := blk_cell KK.out.kt 1; have c2 := blk_cell KK.out.kt 2; have s0 := blk_cell KK.out.ks 0; have s1 := blk_cell KK.out.ks 1; have s2 := blk_cell KK.out.ks 2; have s3 := blk_cell KK.out.ks 3; have s4 := blk_cell KK.out.ks 4; have s5 := blk_cell KK.out.ks 5; have s6 := blk_cell KK.out.ks 6; have d0 := blk_cell KK.out.kf 0; have d1 := blk_cell KK.out.kf 1; have d2 := blk_cell KK.out.kf 2; have d3 := blk_cell KK.out.kf 3; have d4 := blk_cell KK.out.kf 4; have d5 := blk_cell KK.out.kf 5; have d6 := blk_cell KK.out.kf 6; simp at c0 c1 c2 s0 s1 s2 s3 s4 s5 s6 d0 d1 d2 d3 d4 d5 d6; have P0 := blk_cell KK.out.kp 0; have P1 := blk_cell KK.out.kp 1; have P2 := blk_cell KK.out.kp 2; have P3 := blk_cell KK.out.kp 3; have P4 := blk_cell KK.out.kp 4; have P5 := blk_cell KK.out.kp 5; have P6 := blk_cell KK.out.kp 6; have P7 := blk_cell KK.out.kp 7; have P8 := blk_cell KK.out.kp 8; have P9 := blk_cell KK.out.kp 9; have P10 := blk_cell KK.out.kp 10; have P11 := blk_cell KK.out.kp 11; have P12 := blk_cell KK.out.kp 12; have P13 := blk_cell KK.out.kp 13; simp at P0 P1 P2 P3 P4 P5 P6 P7 P8 P9 P10 P11 P12 P13; have PF := fun i => blk_frozen KK.out.kp i; have r0 := blk_cell KK.out.kh 0; have r1 := blk_cell KK.out.kh 1; have r2 := blk_cell KK.out.kh 2; have r3 := blk_cell KK.out.kh 3; have r4 := blk_cell KK.out.kh 4; have r5 := blk_cell KK.out.kh 5; have r6 := blk_cell KK.out.kh 6; have g0 := blk_cell KK.out.kg 0; have g1 := blk_cell KK.out.kg 1; have g2 := blk_cell KK.out.kg 2; have g3 := blk_cell KK.out.kg 3; have g4 := blk_cell KK.out.kg 4; have g5 := blk_cell KK.out.kg 5; have g6 := blk_cell KK.out.kg 6; simp at r0 r1 r2 r3 r4 r5 r6 g0 g1 g2 g3 g4 g5 g6; have fr := fun i => blk_frozen KK.out.kh i; have gr := fun i => blk_frozen KK.out.kg i; have sz := blk_lt KK.out.kp; clear hp2 hg2))
      go_region
      all_goals
        go_wp2
        refine bodyPost_ret (v := .tuple #[hopV h, flyV g]) (by simp [results, Try.results14, go_sem, hopV, flyV, noFly, *]) rfl ⟨by rw [HS.out], ?_⟩
        refine below_drew ?_
        repeat (refine below_set ?_ (by (try simp) <;> omega) _)
        exact KK.out.kb
theorem pipe_any (s p : Int) (A : Option Addr) (c : Nat) (ls : List Lnk) (sw : Swt) (V : Option Addr) (cV : Nat) (f : Fly) (tick : Int) (w : World) (hl : Rd lnkD w A ls.length ls) (hv : Rd verD w V sw.vs.length sw.vs) (hf : Fit f.ttl) :
    Calls Try.prog 14 #[.agg #[.int .i64 s, .int .i64 p, .slice A ls.length c], swV sw V cV, flyV f, .int .i64 tick] w fun e w' => e = .returned (.tuple #[hopV (pipeP s p ls sw f tick).1, flyV (pipeP s p ls sw f tick).2]) ∧ Below w.heap.size w w' := by
  cases ho : sw.op
  · exact pipe_shut s p A c ls sw V cV f tick w ho
  · exact pipe_open s p A c ls sw V cV f tick w hl hv hf ho
end Go.Proofs.Ytlnnkkbcmidddaa
