/- The walk through the document's Walk of layer 13. -/
import Derived.Test.YtonddgchifmocaaPathR
import Derived.Test.YtonddgchifmocaaPathQ
import Derived.Test.YtonddgchifmocaaPathV
namespace Go.Proofs.Ytonddgchifmocaa
open Go.RowKit
set_option maxRecDepth 100000

theorem infoHop : (Try.prog.info? 34).map (fun i => (i.zero, i.size, i.bytes)) = some (some (.agg #[.int .i64 0, .int .i64 0, .int .i64 0, .int .i64 0, .int .i64 0, .int .i64 0, .int .i64 0]), 7, 56) := by kernel_rfl
def ttlOf (n : Nat) (w : World) : Nat := match w.cell? ⟨n, 3, none⟩ with | some (.int _ x) => x.toNat | _ => 0

set_option maxHeartbeats 2000000 in
theorem walkR_any (s p : Int) (A : Option Addr) (c : Nat) (ls : List Lnk) (B : Option Addr) (k : Nat) (cs : List (List Rul)) (f : Fly) (w : World) (hl : Rd lnkD w A ls.length ls) (hc : Rd confD w B cs.length cs) (hsz : ∀ l ∈ cs, l.length * 48 ≤ 140737488355328) (ht : Fit f.ttl) :
    Calls Try.prog 15 #[.agg #[.int .i64 s, .int .i64 p, .slice A ls.length c], .slice B cs.length k, flyV f] w fun e w' => ∃ v, e = .returned v ∧ Own hopF w' w.heap.size 34 v (walkP s p ls cs (cap16 f)) ∧ Below w.heap.size w w' := by
  have HL := Aside.mk hl
  have HC := Aside.mk hc
  have HZ := Aside.mk hsz
  have HT := Aside.mk ht
  clear hl hc hsz ht
  have hcap : ∀ x : Int, x ≤ 16 → x = min f.ttl 16 → True := fun _ _ _ => trivial
  by_cases h16 : f.ttl ≤ 16
  · have d16 : decide ((16 : Int) < f.ttl) = false := decide_eq_false (by omega)
    have hcf : cap16 f = f := by unfold cap16; rw [show min f.ttl 16 = f.ttl by omega]
    rw [hcf]
    obtain ⟨g0, hg0⟩ : ∃ g0, g0 = f := ⟨_, rfl⟩
    rw [← hg0]
    have hg16 : g0.ttl ≤ 16 := by rw [hg0]; exact h16
    have hgf : Fit g0.ttl := by rw [hg0]; exact HT.out
    subst hg0
    go_enter Try.func15, Try.ntmps15
    go_wp2_with fail
    go_loopw [7] (fun out wr => ∃ (g : Fly) (pre : List Hop), g.ttl ≤ 16 ∧ Fit g.ttl ∧ pre ++ walkP s p ls cs g = walkP s p ls cs g0 ∧ pre.length + g.ttl.toNat ≤ 16 ∧ Own hopF wr w.heap.size 34 out pre ∧ Below w.heap.size w wr ∧ wr.heap[w.heap.size]? = some (.cells #[.int .i64 s, .int .i64 p, .slice A ls.length c] 24) ∧ wr.heap[w.heap.size + 1]? = some (.cells #[.int .i64 g.id, .int .i64 g.src, .int .i64 g.dst, .int .i64 g.ttl, .int .i64 g.tag, .int .i64 g.sw, .int .i64 g.inn] 30))
      (fun _ wr => ttlOf (w.heap.size + 1) wr)
    case atStart => exact ⟨g0, [], hg16, hgf, rfl, by (try simp) <;> omega, Own.nil _ _ _ _, below_alloc (below_alloc (Below.refl _ _) _) _, heap_old (heap_new _ _ rfl) _, heap_new _ _ (by simp)⟩
    case round =>
      obtain ⟨g, pre, h1, h2, h3, h4, ho, hb, hx, hy⟩ := hrel
      have KO := Aside.mk ho
      have KB := Aside.mk hb
      have KX := Aside.mk hx
      have KY := Aside.mk hy
      have KF := Aside.mk h2
      have c0 := blk_cell hx 0
      have c1 := blk_cell hx 1
      have c2 := blk_cell hx 2
      have y0 := blk_cell hy 0
      have y1 := blk_cell hy 1
      have y2 := blk_cell hy 2
      have y3 := blk_cell hy 3
      have y4 := blk_cell hy 4
      have y5 := blk_cell hy 5
      have y6 := blk_cell hy 6
      simp at c0 c1 c2 y0 y1 y2 y3 y4 y5 y6
      have hm0 := Aside.mk (show ttlOf (w.heap.size + 1) wr = g.ttl.toNat by unfold ttlOf; rw [y3])
      have hst := Aside.mk (walkP_step s p ls cs g)
      have hwt := Aside.mk (fun h => step_went (s := s) (p := p) (ls := ls) (cs := cs) (f := g) h)
      have HE := Aside.mk h3
      have hys := blk_lt hy
      clear h3 ho hb hx hy h2
      go_wp2_with (first
        | (go_at_call 12; refine (stepR_any s p A c ls B k cs g _ (HL.out.below KB.out) (HC.out.below KB.out) HZ.out KF.out).mono ?_; rintro e w1 ⟨rfl, hb1⟩; have KO := Aside.mk (KO.out.below hb1); have KB := Aside.mk (below_call KB.out hb1); have KX := Aside.mk (blk_keep KX.out hb1); have KY := Aside.mk (blk_keep KY.out hb1); have hys := blk_lt KY.out; clear hb1)
        | (at_builtin; go_loud (refine wp_app1 (f := hopF) w.heap.size rfl _ _ _ _ _ _ rfl Try.underlying39 infoHop rfl (by decide) _ _ (stepP s p ls cs g).1 _ rfl rfl (by go_simp) ((KO.out.alloc _).alloc _) (by (try simp) <;> omega) (by omega) ?_); intro v1 w2 ho1 hg1 hat1; have hP := (hg1.block w1.heap.size (by (try simp) <;> omega) (fun e => by have := (KO.out.lt _ e.symm).2; omega)).trans (heap_old (heap_new w1 (.cells #[.int .i64 (stepP s p ls cs g).1.tick, .int .i64 (stepP s p ls cs g).1.id, .int .i64 (stepP s p ls cs g).1.sw, .int .i64 (stepP s p ls cs g).1.inn, .int .i64 (stepP s p ls cs g).1.tag, .int .i64 (stepP s p ls cs g).1.what, .int .i64 (stepP s p ls cs g).1.out] 34) rfl) _); have hQ := (hg1.block (w1.heap.size + 1) (by (try simp) <;> omega) (fun e => by have := (KO.out.lt _ e.symm).2; omega)).trans (heap_new _ _ (by simp)); have KX2 := Aside.mk ((hg1.block w.heap.size (by (try simp) <;> omega) (fun e => KO.out.ne_type KX.out (by decide) e.symm)).trans (heap_old (heap_old KX.out _) _)); have KY2 := Aside.mk ((hg1.block (w.heap.size + 1) (by (try simp) <;> omega) (fun e => KO.out.ne_type KY.out (by decide) e.symm)).trans (heap_old (heap_old KY.out _) _)); have KB2 := Aside.mk (below_own (below_alloc (below_alloc KB.out _) _) hg1 KO.out.lt); have KO2 := Aside.mk ho1; have p5 := blk_cell hP 5; have x0 := blk_cell hQ 0; have x1 := blk_cell hQ 1; have x2 := blk_cell hQ 2; have x3 := blk_cell hQ 3; have x4 := blk_cell hQ 4; have x5 := blk_cell hQ 5; have x6 := blk_cell hQ 6; have y0 := blk_cell KY2.out 0; have y1 := blk_cell KY2.out 1; have y2 := blk_cell KY2.out 2; have y3 := blk_cell KY2.out 3; have y4 := blk_cell KY2.out 4; have y5 := blk_cell KY2.out 5; have y6 := blk_cell KY2.out 6; simp at p5 x0 x1 x2 x3 x4 x5 x6 y0 y1 y2 y3 y4 y5 y6; have yfr := fun i => blk_frozen KY2.out i; clear ho1 hg1 hat1))
      · have hne : ¬ (stepP s p ls cs g).1.what = 0 := by
          have h : ((stepP s p ls cs g).1.what != 0) = true := by assumption
          simpa using h
        go_ret
        refine ⟨_, rfl, ?_, KB2.out⟩
        rw [← HE.out, hst.out, if_neg hne]
        exact KO2.out
      · have h0 : (stepP s p ls cs g).1.what = 0 := by
          have h : ((stepP s p ls cs g).1.what != 0) = false := by assumption
          simpa using h
        obtain ⟨ht1, ht2⟩ := hwt.out h0
        have hfl := KF.out
        have hno := KO2.out.ne_type KY2.out (by decide)
        have hE : pre ++ [(stepP s p ls cs g).1] ++ walkP s p ls cs (stepP s p ls cs g).2 = walkP s p ls cs g0 := by rw [← HE.out, hst.out, if_pos h0]; simp
        have hfin := blk_set (blk_set (blk_set (blk_set (blk_set (blk_set (blk_set KY2.out 0 (.int .i64 (stepP s p ls cs g).2.id)) 1 (.int .i64 (stepP s p ls cs g).2.src)) 2 (.int .i64 (stepP s p ls cs g).2.dst)) 3 (.int .i64 (stepP s p ls cs g).2.ttl)) 4 (.int .i64 (stepP s p ls cs g).2.tag)) 5 (.int .i64 (stepP s p ls cs g).2.sw)) 6 (.int .i64 (stepP s p ls cs g).2.inn)
        refine ⟨⟨(stepP s p ls cs g).2, pre ++ [(stepP s p ls cs g).1], by omega, WalkArith.wf_i64 ⟨by omega, by omega⟩, hE, by simp; omega, Own.far (Own.far (Own.far (Own.far (Own.far (Own.far (Own.far KO2.out hno _) hno _) hno _) hno _) hno _) hno _) hno _, ?_, ?_, hfin⟩, ?_⟩
        · repeat (refine below_set ?_ (by (try simp) <;> omega) _)
          exact KB2.out
        · exact blk_far (blk_far (blk_far (blk_far (blk_far (blk_far (blk_far KX2.out (by simp) _) (by simp) _) (by simp) _) (by simp) _) (by simp) _) (by simp) _) (by simp) _
        · rw [hm0.out]
          have e3 := blk_cell hfin 3
          unfold ttlOf
          rw [e3]
          show (stepP s p ls cs g).2.ttl.toNat < _
          omega
  · have d16 : decide ((16 : Int) < f.ttl) = true := decide_eq_true (by omega)
    have hcf : cap16 f = { f with ttl := 16 } := by unfold cap16; rw [show min f.ttl 16 = 16 by omega]
    rw [hcf]
    have hg16 : ({ f with ttl := 16 } : Fly).ttl ≤ 16 := by simp
    have hgf : Fit ({ f with ttl := 16 } : Fly).ttl := by show Fit 16; decide
    go_enter Try.func15, Try.ntmps15
    go_wp2_with fail
    go_loopw [7] (fun out wr => ∃ (g : Fly) (pre : List Hop), g.ttl ≤ 16 ∧ Fit g.ttl ∧ pre ++ walkP s p ls cs g = walkP s p ls cs ({ f with ttl := 16 } : Fly) ∧ pre.length + g.ttl.toNat ≤ 16 ∧ Own hopF wr w.heap.size 34 out pre ∧ Below w.heap.size w wr ∧ wr.heap[w.heap.size]? = some (.cells #[.int .i64 s, .int .i64 p, .slice A ls.length c] 24) ∧ wr.heap[w.heap.size + 1]? = some (.cells #[.int .i64 g.id, .int .i64 g.src, .int .i64 g.dst, .int .i64 g.ttl, .int .i64 g.tag, .int .i64 g.sw, .int .i64 g.inn] 30))
      (fun _ wr => ttlOf (w.heap.size + 1) wr)
    case atStart => exact ⟨({ f with ttl := 16 } : Fly), [], hg16, hgf, rfl, by (try simp) <;> omega, Own.nil _ _ _ _, below_alloc (below_alloc (Below.refl _ _) _) _, heap_old (heap_new _ _ rfl) _, heap_new _ _ (by simp)⟩
    case round =>
      obtain ⟨g, pre, h1, h2, h3, h4, ho, hb, hx, hy⟩ := hrel
      have KO := Aside.mk ho
      have KB := Aside.mk hb
      have KX := Aside.mk hx
      have KY := Aside.mk hy
      have KF := Aside.mk h2
      have c0 := blk_cell hx 0
      have c1 := blk_cell hx 1
      have c2 := blk_cell hx 2
      have y0 := blk_cell hy 0
      have y1 := blk_cell hy 1
      have y2 := blk_cell hy 2
      have y3 := blk_cell hy 3
      have y4 := blk_cell hy 4
      have y5 := blk_cell hy 5
      have y6 := blk_cell hy 6
      simp at c0 c1 c2 y0 y1 y2 y3 y4 y5 y6
      have hm0 := Aside.mk (show ttlOf (w.heap.size + 1) wr = g.ttl.toNat by unfold ttlOf; rw [y3])
      have hst := Aside.mk (walkP_step s p ls cs g)
      have hwt := Aside.mk (fun h => step_went (s := s) (p := p) (ls := ls) (cs := cs) (f := g) h)
      have HE := Aside.mk h3
      have hys := blk_lt hy
      clear h3 ho hb hx hy h2
      go_wp2_with (first
        | (go_at_call 12; refine (stepR_any s p A c ls B k cs g _ (HL.out.below KB.out) (HC.out.below KB.out) HZ.out KF.out).mono ?_; rintro e w1 ⟨rfl, hb1⟩; have KO := Aside.mk (KO.out.below hb1); have KB := Aside.mk (below_call KB.out hb1); have KX := Aside.mk (blk_keep KX.out hb1); have KY := Aside.mk (blk_keep KY.out hb1); have hys := blk_lt KY.out; clear hb1)
        | (at_builtin; go_loud (refine wp_app1 (f := hopF) w.heap.size rfl _ _ _ _ _ _ rfl Try.underlying39 infoHop rfl (by decide) _ _ (stepP s p ls cs g).1 _ rfl rfl (by go_simp) ((KO.out.alloc _).alloc _) (by (try simp) <;> omega) (by omega) ?_); intro v1 w2 ho1 hg1 hat1; have hP := (hg1.block w1.heap.size (by (try simp) <;> omega) (fun e => by have := (KO.out.lt _ e.symm).2; omega)).trans (heap_old (heap_new w1 (.cells #[.int .i64 (stepP s p ls cs g).1.tick, .int .i64 (stepP s p ls cs g).1.id, .int .i64 (stepP s p ls cs g).1.sw, .int .i64 (stepP s p ls cs g).1.inn, .int .i64 (stepP s p ls cs g).1.tag, .int .i64 (stepP s p ls cs g).1.what, .int .i64 (stepP s p ls cs g).1.out] 34) rfl) _); have hQ := (hg1.block (w1.heap.size + 1) (by (try simp) <;> omega) (fun e => by have := (KO.out.lt _ e.symm).2; omega)).trans (heap_new _ _ (by simp)); have KX2 := Aside.mk ((hg1.block w.heap.size (by (try simp) <;> omega) (fun e => KO.out.ne_type KX.out (by decide) e.symm)).trans (heap_old (heap_old KX.out _) _)); have KY2 := Aside.mk ((hg1.block (w.heap.size + 1) (by (try simp) <;> omega) (fun e => KO.out.ne_type KY.out (by decide) e.symm)).trans (heap_old (heap_old KY.out _) _)); have KB2 := Aside.mk (below_own (below_alloc (below_alloc KB.out _) _) hg1 KO.out.lt); have KO2 := Aside.mk ho1; have p5 := blk_cell hP 5; have x0 := blk_cell hQ 0; have x1 := blk_cell hQ 1; have x2 := blk_cell hQ 2; have x3 := blk_cell hQ 3; have x4 := blk_cell hQ 4; have x5 := blk_cell hQ 5; have x6 := blk_cell hQ 6; have y0 := blk_cell KY2.out 0; have y1 := blk_cell KY2.out 1; have y2 := blk_cell KY2.out 2; have y3 := blk_cell KY2.out 3; have y4 := blk_cell KY2.out 4; have y5 := blk_cell KY2.out 5; have y6 := blk_cell KY2.out 6; simp at p5 x0 x1 x2 x3 x4 x5 x6 y0 y1 y2 y3 y4 y5 y6; have yfr := fun i => blk_frozen KY2.out i; clear ho1 hg1 hat1))
      · have hne : ¬ (stepP s p ls cs g).1.what = 0 := by
          have h : ((stepP s p ls cs g).1.what != 0) = true := by assumption
          simpa using h
        go_ret
        refine ⟨_, rfl, ?_, KB2.out⟩
        rw [← HE.out, hst.out, if_neg hne]
        exact KO2.out
      · have h0 : (stepP s p ls cs g).1.what = 0 := by
          have h : ((stepP s p ls cs g).1.what != 0) = false := by assumption
          simpa using h
        obtain ⟨ht1, ht2⟩ := hwt.out h0
        have hfl := KF.out
        have hno := KO2.out.ne_type KY2.out (by decide)
        have hE : pre ++ [(stepP s p ls cs g).1] ++ walkP s p ls cs (stepP s p ls cs g).2 = walkP s p ls cs ({ f with ttl := 16 } : Fly) := by rw [← HE.out, hst.out, if_pos h0]; simp
        have hfin := blk_set (blk_set (blk_set (blk_set (blk_set (blk_set (blk_set KY2.out 0 (.int .i64 (stepP s p ls cs g).2.id)) 1 (.int .i64 (stepP s p ls cs g).2.src)) 2 (.int .i64 (stepP s p ls cs g).2.dst)) 3 (.int .i64 (stepP s p ls cs g).2.ttl)) 4 (.int .i64 (stepP s p ls cs g).2.tag)) 5 (.int .i64 (stepP s p ls cs g).2.sw)) 6 (.int .i64 (stepP s p ls cs g).2.inn)
        refine ⟨⟨(stepP s p ls cs g).2, pre ++ [(stepP s p ls cs g).1], by omega, WalkArith.wf_i64 ⟨by omega, by omega⟩, hE, by simp; omega, Own.far (Own.far (Own.far (Own.far (Own.far (Own.far (Own.far KO2.out hno _) hno _) hno _) hno _) hno _) hno _) hno _, ?_, ?_, hfin⟩, ?_⟩
        · repeat (refine below_set ?_ (by (try simp) <;> omega) _)
          exact KB2.out
        · exact blk_far (blk_far (blk_far (blk_far (blk_far (blk_far (blk_far KX2.out (by simp) _) (by simp) _) (by simp) _) (by simp) _) (by simp) _) (by simp) _) (by simp) _
        · rw [hm0.out]
          have e3 := blk_cell hfin 3
          unfold ttlOf
          rw [e3]
          show (stepP s p ls cs g).2.ttl.toNat < _
          omega
end Go.Proofs.Ytonddgchifmocaa
