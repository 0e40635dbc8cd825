/- The walk through PathGoes. -/
import Derived.Test.YtonddgchifmocaaPathB
import Derived.BigQuiet
namespace Go.Proofs.Ytonddgchifmocaa
open Go.RowKit
set_option maxRecDepth 100000
/-- sameH_any at a length that is told otherwise. -/
theorem sameH_any' (a b : List Hop) (A B : Option Addr) (c d : Nat) (w : World) (n : Nat) (hn : a.length = n) (ha : Rd hopD w A n a) (hb : Rd hopD w B b.length b) :
    Calls Try.prog 13 #[.slice A n c, .slice B b.length d] w fun e w' => e = .returned (.bool (decide (a = b))) ∧ Below w.heap.size w w' := by
  subst hn
  exact sameH_any a b A B c d w ha hb

def pgsB (s p : Int) (A : Option Addr) (c : Nat) (ls : List Lnk) (B : Option Addr) (k : Nat) (cs : List (List Rul)) (g : Fly) (l : List Hop) (b2 o2 k2 n : Nat) (w : World) (w' : World) : Prop :=
  Below w.heap.size w w' ∧ w'.heap[w.heap.size]? = some (.cells #[.int .i64 s, .int .i64 p, .slice A ls.length c] 24) ∧ w'.heap[n + 1]? = some (.cells #[.int .i64 g.id, .int .i64 g.src, .int .i64 g.dst, .int .i64 g.ttl, .int .i64 g.tag, .int .i64 g.sw, .int .i64 g.inn] 30) ∧ Rd lnkD w' A ls.length ls ∧ Rd confD w' B cs.length cs ∧ Rd hopD w' (some ⟨b2, o2, none⟩) l.length l
def pgsF (s p : Int) (A : Option Addr) (c : Nat) (ls : List Lnk) (B : Option Addr) (k : Nat) (cs : List (List Rul)) (g : Fly) (l : List Hop) (b2 o2 k2 n : Nat) (w : World) : List (Value → Value → World → Prop) :=
  [fun _ v _ => v = .slice (some ⟨b2, o2, none⟩) l.length k2,
   fun _ v _ => v = .slice (if k2 = 1 then some ⟨b2, o2, none⟩ else some ⟨b2, o2 + 7, none⟩) (l.length - 1) (k2 - 1),
   fun _ v _ => v = .agg #[.int .i64 s, .int .i64 p, .slice A ls.length c],
   fun _ v _ => v = .slice B cs.length k,
   fun _ v _ => v = .agg #[.int .i64 g.id, .int .i64 g.src, .int .i64 g.dst, .int .i64 g.ttl, .int .i64 g.tag, .int .i64 g.sw, .int .i64 g.inn],
   fun _ v w' => Own hopF w' w.heap.size 34 v (walkP s p ls cs g),
   fun _ v _ => v = .bool true,
   fun _ v _ => v = .bool true]
def pgsQ : Nat → Nat := fun i => i
theorem pgsF_stay (s p : Int) (A : Option Addr) (c : Nat) (ls : List Lnk) (B : Option Addr) (k : Nat) (cs : List (List Rul)) (g : Fly) (l : List Hop) (b2 o2 k2 n : Nat) (w : World) : AllStay (pgsF s p A c ls B k cs g l b2 o2 k2 n w) := by
  intro F hF u v w' w'' hb h
  simp only [pgsF, List.mem_cons, List.not_mem_nil, or_false] at hF
  rcases hF with rfl | rfl | rfl | rfl | rfl | rfl | rfl | rfl
  · exact h
  · exact h
  · exact h
  · exact h
  · exact h
  · exact h.below hb
  · exact h
  · exact h
theorem pgsB_stay (s p : Int) (A : Option Addr) (c : Nat) (ls : List Lnk) (B : Option Addr) (k : Nat) (cs : List (List Rul)) (g : Fly) (l : List Hop) (b2 o2 k2 n : Nat) (w : World) : Stays (pgsB s p A c ls B k cs g l b2 o2 k2 n w) := by
  intro w' w'' hb h
  exact ⟨below_call h.1 hb, blk_keep h.2.1 hb, blk_keep h.2.2.1 hb, h.2.2.2.1.below hb, h.2.2.2.2.1.below hb, h.2.2.2.2.2.below hb⟩
set_option maxHeartbeats 4000000 in
theorem pathGoes_walk (s p : Int) (A : Option Addr) (c : Nat) (ls : List Lnk) (B : Option Addr) (k : Nat) (cs : List (List Rul)) (f : Fly) (w : World) (hl : Rd lnkD w A ls.length ls) (_ : FitT s p c ls) (hc : Rd confD w B cs.length cs) (_ : ∀ l ∈ cs, ∀ r ∈ l, FitR r) (_ : cs.length ≤ k) (hf : FitF f) :
    Calls Try.prog 6 #[.agg #[.int .i64 s, .int .i64 p, .slice A ls.length c], .slice B cs.length k, flyV f] w fun e w' => e = .returned (.bool true) ∧ Below w.heap.size w w' := by
  have hmx := hl.max
  have HF := Aside.mk hf.2.2.2.1
  have HL := Aside.mk (hl.below (below_alloc (below_alloc (Below.refl _ w) (.cells #[.int .i64 s, .int .i64 p, .slice A ls.length c] 24)) (.cells #[.int .i64 f.id, .int .i64 f.src, .int .i64 f.dst, .int .i64 f.ttl, .int .i64 f.tag, .int .i64 f.sw, .int .i64 f.inn] 30)))
  have HC := Aside.mk (hc.below (below_alloc (below_alloc (Below.refl _ w) (.cells #[.int .i64 s, .int .i64 p, .slice A ls.length c] 24)) (.cells #[.int .i64 f.id, .int .i64 f.src, .int .i64 f.dst, .int .i64 f.ttl, .int .i64 f.tag, .int .i64 f.sw, .int .i64 f.inn] 30)))
  have KB := Aside.mk (below_alloc (below_alloc (Below.refl _ w) (.cells #[.int .i64 s, .int .i64 p, .slice A ls.length c] 24)) (.cells #[.int .i64 f.id, .int .i64 f.src, .int .i64 f.dst, .int .i64 f.ttl, .int .i64 f.tag, .int .i64 f.sw, .int .i64 f.inn] 30))
  have HX := Aside.mk (heap_old (heap_new w (.cells #[.int .i64 s, .int .i64 p, .slice A ls.length c] 24) rfl) (.cells #[.int .i64 f.id, .int .i64 f.src, .int .i64 f.dst, .int .i64 f.ttl, .int .i64 f.tag, .int .i64 f.sw, .int .i64 f.inn] 30))
  have HY := Aside.mk (heap_new (w.alloc (.cells #[.int .i64 s, .int .i64 p, .slice A ls.length c] 24)) (.cells #[.int .i64 f.id, .int .i64 f.src, .int .i64 f.dst, .int .i64 f.ttl, .int .i64 f.tag, .int .i64 f.sw, .int .i64 f.inn] 30) rfl)
  simp only [World.size_alloc] at HX HY
  have hlo := hf.2.2.2.1.lo
  have hhi := hf.2.2.2.1.hi
  clear hl hc hf
  have hq := eqHop
  have hq2 := eqFly
  cases hfew : fewL cs
  · go_enter Try.func6, Try.ntmps6
    go_wp2_with (first
      | (go_at_call 9; refine (awake13_any _).mono ?_; rintro e w1 ⟨rfl, hb1⟩; have HL := Aside.mk (HL.out.below hb1); have HC := Aside.mk (HC.out.below hb1); have KB := Aside.mk (below_call KB.out hb1); have HX := Aside.mk (blk_keep HX.out hb1); have HY := Aside.mk (blk_keep HY.out hb1); have c0 := blk_cell HX.out 0; have c1 := blk_cell HX.out 1; have c2 := blk_cell HX.out 2; have y0 := blk_cell HY.out 0; have y1 := blk_cell HY.out 1; have y2 := blk_cell HY.out 2; have y3 := blk_cell HY.out 3; have y4 := blk_cell HY.out 4; have y5 := blk_cell HY.out 5; have y6 := blk_cell HY.out 6; simp at c0 c1 c2 y0 y1 y2 y3 y4 y5 y6; have hsz := blk_lt HY.out; have hsz0 := blk_lt HX.out; clear hb1)
      | (go_at_call 10; refine (few_any _ _ _ _ HC.out).mono ?_; rw [hfew]; rintro e w2 ⟨rfl, rfl⟩))
    go_ret
    exact ⟨rfl, KB.out⟩
  · have HZ := Aside.mk (few_small hfew)
    by_cases h60 : ls.length ≤ 60
    · have d60 : decide ((60 : Int) < (ls.length : Int)) = false := decide_eq_false (by omega)
      by_cases h16 : f.ttl ≤ 16
      · have d16 : decide (16 < f.ttl) = false := decide_eq_false (by omega)
        have hcf : cap16 f = f := by unfold cap16; rw [show min f.ttl 16 = f.ttl by omega]
        obtain ⟨h, g, hsp⟩ : ∃ h g, stepP s p ls cs f = (h, g) := ⟨_, _, rfl⟩
        have hst := walkP_step s p ls cs f
        have hno := stepP_none (s := s) (p := p) (ls := ls) (cs := cs) f
        have hwe := step_went (s := s) (p := p) (ls := ls) (cs := cs) (f := f)
        rw [hsp] at hst hno hwe
        dsimp only at hst hno hwe
        obtain ⟨l, hl⟩ : ∃ l, walkP s p ls cs (cap16 f) = l := ⟨_, rfl⟩
        rw [← hcf, hl] at hst
        have HS := Aside.mk hsp
        have HW := Aside.mk hl
        have hpos : 0 < l.length := by rw [hst]; split <;> simp
        have h0 : l[0] = h := by simp only [hst]; split <;> simp
        have d1 : decide ((l.length : Int) < 1) = false := decide_eq_false (by omega)
        have HST := Aside.mk hst
        clear hsp hl hst hcf
        by_cases hw0 : h.what = 0
        · have dw : (h.what != 0) = false := by simp [hw0]
          obtain ⟨ht1, ht2⟩ := hwe hw0
          have hcg := Aside.mk (show cap16 g = g by unfold cap16; rw [show min g.ttl 16 = g.ttl by omega])
          have HG := Aside.mk (show Fit g.ttl from WalkArith.wf_i64 ⟨by omega, by omega⟩)
          have hdr := Aside.mk (show l.drop 1 = walkP s p ls cs g by rw [HST.out, if_pos hw0]; rfl)
          have hl1 : 1 ≤ l.length := hpos
          have hle1 : (1 : Int) ≤ (l.length : Int) := by omega
          clear hwe hno hw0 ht1 ht2
          go_enter Try.func6, Try.ntmps6
          go_wp2_with (first
            | (go_at_call 9; refine (awake13_any _).mono ?_; rintro e w1 ⟨rfl, hb1⟩; have HL := Aside.mk (HL.out.below hb1); have HC := Aside.mk (HC.out.below hb1); have KB := Aside.mk (below_call KB.out hb1); have HX := Aside.mk (blk_keep HX.out hb1); have HY := Aside.mk (blk_keep HY.out hb1); have c0 := blk_cell HX.out 0; have c1 := blk_cell HX.out 1; have c2 := blk_cell HX.out 2; have y0 := blk_cell HY.out 0; have y1 := blk_cell HY.out 1; have y2 := blk_cell HY.out 2; have y3 := blk_cell HY.out 3; have y4 := blk_cell HY.out 4; have y5 := blk_cell HY.out 5; have y6 := blk_cell HY.out 6; simp at c0 c1 c2 y0 y1 y2 y3 y4 y5 y6; have hsz := blk_lt HY.out; have hsz0 := blk_lt HX.out; clear hb1)
            | (go_at_call 10; refine (few_any _ _ _ _ HC.out).mono ?_; rw [hfew]; rintro e w2 ⟨rfl, rfl⟩)
            | (go_at_call 11; refine (step_any s p A c ls B k cs f _ HL.out HC.out HZ.out HF.out).mono ?_; rw [HS.out]; rintro e w1 ⟨rfl, hb1⟩; have HL := Aside.mk (HL.out.below hb1); have HC := Aside.mk (HC.out.below hb1); have KB := Aside.mk (below_call KB.out hb1); have HX := Aside.mk (blk_keep HX.out hb1); have HY := Aside.mk (blk_keep HY.out hb1); have c0 := blk_cell HX.out 0; have c1 := blk_cell HX.out 1; have c2 := blk_cell HX.out 2; have y0 := blk_cell HY.out 0; have y1 := blk_cell HY.out 1; have y2 := blk_cell HY.out 2; have y3 := blk_cell HY.out 3; have y4 := blk_cell HY.out 4; have y5 := blk_cell HY.out 5; have y6 := blk_cell HY.out 6; simp at c0 c1 c2 y0 y1 y2 y3 y4 y5 y6; have hsz := blk_lt HY.out; have hsz0 := blk_lt HX.out; clear hb1)
            | (go_at_call 14; refine (walk_any s p A c ls B k cs f _ (HL.out.below (below_alloc (below_alloc (Below.refl _ _) _) _)) (HC.out.below (below_alloc (below_alloc (Below.refl _ _) _) _)) HZ.out HF.out).mono ?_; rw [HW.out]; rintro e w3 ⟨v, rfl, ho, hb1⟩; have KB := Aside.mk (below_call (below_alloc (below_alloc KB.out _) _) hb1); have HH := blk_keep (heap_old (heap_new w1 (.cells #[.int .i64 h.tick, .int .i64 h.id, .int .i64 h.sw, .int .i64 h.inn, .int .i64 h.tag, .int .i64 h.what, .int .i64 h.out] 34) rfl) (.cells #[.int .i64 g.id, .int .i64 g.src, .int .i64 g.dst, .int .i64 g.ttl, .int .i64 g.tag, .int .i64 g.sw, .int .i64 g.inn] 30)) hb1; have HGB := blk_keep (heap_new (w1.alloc (.cells #[.int .i64 h.tick, .int .i64 h.id, .int .i64 h.sw, .int .i64 h.inn, .int .i64 h.tag, .int .i64 h.what, .int .i64 h.out] 34)) (.cells #[.int .i64 g.id, .int .i64 g.src, .int .i64 g.dst, .int .i64 g.ttl, .int .i64 g.tag, .int .i64 g.sw, .int .i64 g.inn] 30) rfl) hb1; simp only [World.size_alloc] at HGB; have p0 := blk_cell HH 0; have p1 := blk_cell HH 1; have p2 := blk_cell HH 2; have p3 := blk_cell HH 3; have p4 := blk_cell HH 4; have p5 := blk_cell HH 5; have p6 := blk_cell HH 6; have q0 := blk_cell HGB 0; have q1 := blk_cell HGB 1; have q2 := blk_cell HGB 2; have q3 := blk_cell HGB 3; have q4 := blk_cell HGB 4; have q5 := blk_cell HGB 5; have q6 := blk_cell HGB 6; simp at p0 p1 p2 p3 p4 p5 p6 q0 q1 q2 q3 q4 q5 q6; have hsz := blk_lt HGB; have hsz0 := blk_lt HH; have HX := Aside.mk (blk_keep (heap_old (heap_old HX.out _) _) hb1); have HGX := Aside.mk HGB; have HL := Aside.mk ((HL.out.below (below_alloc (below_alloc (Below.refl _ _) _) _)).below hb1); have HC := Aside.mk ((HC.out.below (below_alloc (below_alloc (Below.refl _ _) _) _)).below hb1); obtain ⟨A2, k2, rfl, hk2, hr⟩ := ho.rd; have HR := Aside.mk hr; obtain ⟨b2, o2, _, rfl, -⟩ := Row.at hr 0 hpos; obtain ⟨-, x0, x1, x2, x3, x4, x5, x6⟩ := hop_cells hr (Below.refl _ _) hpos; simp only [h0] at x0 x1 x2 x3 x4 x5 x6; simp at x0 x1 x2 x3 x4 x5 x6; clear HH HGB hb1 ho hr))
          go_quiet (fail)
          go_wp2
          refine wp_region_facts (Base := pgsB s p A c ls B k cs g l b2 o2 k2 w1.heap.size w) (q := pgsQ) (Fs := pgsF s p A c ls B k cs g l b2 o2 k2 w1.heap.size w) (by kernel_rfl) (by kernel_rfl) (by kernel_rfl) (by kernel_rfl) ⟨below_drew (below_drewN KB.out _), HX.out, HGX.out, HL.out, HC.out, HR.out⟩ ?_ ?_
          · clear HL HC KB HX HY HR HGX
            have hBs := pgsB_stay s p A c ls B k cs g l b2 o2 k2 w1.heap.size w
            have hFs := pgsF_stay s p A c ls B k cs g l b2 o2 k2 w1.heap.size w
            refine ⟨?_, ?_, ?_, ?_, ?_, ?_, ?_, ?_, trivial⟩
            · refine step_pure hBs hFs rfl fun a' w' hB hag hp => ?_
              have h11 := hag 11 (by kernel_rfl)
              simp at h11
              unfold OpYields
              go_simp
              exact ⟨Below.refl _ _, rfl⟩
            · refine step_pure hBs hFs rfl fun a' w' hB hag hp => ?_
              have h67 : a'.tmps.getD 67 undef = _ := hp 0 (by kernel_rfl)
              simp at h67
              unfold OpYields
              go_simp
              exact ⟨Below.refl _ _, rfl⟩
            · refine step_pure hBs hFs rfl fun a' w' hB hag hp => ?_
              have h3 := hag 3 (by kernel_rfl)
              have hc0 := blk_cell hB.2.1 0; have hc1 := blk_cell hB.2.1 1; have hc2 := blk_cell hB.2.1 2; have hd0 := blk_cell hB.2.2.1 0; have hd1 := blk_cell hB.2.2.1 1; have hd2 := blk_cell hB.2.2.1 2; have hd3 := blk_cell hB.2.2.1 3; have hd4 := blk_cell hB.2.2.1 4; have hd5 := blk_cell hB.2.2.1 5; have hd6 := blk_cell hB.2.2.1 6; simp at hc0 hc1 hc2 hd0 hd1 hd2 hd3 hd4 hd5 hd6
              simp at h3
              unfold OpYields
              go_simp
              exact ⟨Below.refl _ _, rfl⟩
            · refine step_pure hBs hFs rfl fun a' w' hB hag hp => ?_
              have h1 := hag 1 (by kernel_rfl)
              simp at h1
              unfold OpYields
              go_simp
              exact ⟨Below.refl _ _, rfl⟩
            · refine step_pure hBs hFs rfl fun a' w' hB hag hp => ?_
              have h10 := hag 10 (by kernel_rfl)
              have hc0 := blk_cell hB.2.1 0; have hc1 := blk_cell hB.2.1 1; have hc2 := blk_cell hB.2.1 2; have hd0 := blk_cell hB.2.2.1 0; have hd1 := blk_cell hB.2.2.1 1; have hd2 := blk_cell hB.2.2.1 2; have hd3 := blk_cell hB.2.2.1 3; have hd4 := blk_cell hB.2.2.1 4; have hd5 := blk_cell hB.2.2.1 5; have hd6 := blk_cell hB.2.2.1 6; simp at hc0 hc1 hc2 hd0 hd1 hd2 hd3 hd4 hd5 hd6
              simp at h10
              unfold OpYields
              go_simp
              exact ⟨Below.refl _ _, rfl⟩
            · refine step_pure hBs hFs rfl fun a' w' hB hag hp => ?_
              have h69 : a'.tmps.getD 69 undef = _ := hp 2 (by kernel_rfl)
              have h70 : a'.tmps.getD 70 undef = _ := hp 3 (by kernel_rfl)
              have h71 : a'.tmps.getD 71 undef = _ := hp 4 (by kernel_rfl)
              simp at h69 h70 h71
              unfold OpYields
              go_simp
              refine (walk_any s p A c ls B k cs g w' hB.2.2.2.1 hB.2.2.2.2.1 HZ.out HG.out).mono ?_
              rw [hcg.out]
              rintro e w1 ⟨v, rfl, ho, hb⟩
              exact ⟨_, rfl, hb, ho.mono hB.1.size⟩
            · refine step_pure hBs hFs rfl fun a' w' hB hag hp => ?_
              have h68 : a'.tmps.getD 68 undef = _ := hp 1 (by kernel_rfl)
              have h72 := hp 5 (by kernel_rfl)
              replace h72 : _ := h72
              have h72 : Own hopF w' w.heap.size 34 (a'.tmps.getD 72 undef) (walkP s p ls cs g) := h72
              obtain ⟨A2, k3, e2, -, r2⟩ := Own.rd h72
              have r1 : Rd hopD w' (if k2 = 1 then some ⟨b2, o2, none⟩ else some ⟨b2, o2 + 7, none⟩) (l.length - 1) (walkP s p ls cs g) := by
               rw [← hdr.out]
               split
               · have h10 : l.length = 1 := by omega
                 have h11 : l.drop 1 = [] := List.drop_eq_nil_of_le (by omega)
                 rw [h10, h11]
                 exact Rd.nil _ _ _
               · exact Rd.drop hB.2.2.2.2.2 (k := 1) hl1
              simp at e2 h68
              unfold OpYields
              go_simp
              have hln := r1.1
              refine (sameH_any' _ _ _ A2 _ k3 w' (l.length - 1) hln r1 r2).mono ?_
              rintro e w1 ⟨rfl, hb⟩
              exact ⟨_, rfl, hb, by show Value.bool _ = Value.bool _; simp⟩
            · refine step_pure hBs hFs rfl fun a' w' hB hag hp => ?_
              have h73 : a'.tmps.getD 73 undef = _ := hp 6 (by kernel_rfl)
              simp at h73
              unfold OpYields
              go_simp
              exact ⟨Below.refl _ _, rfl⟩
          intro vs w' hB hF
          simp only [AllF, forall_const, reduceCtorEq, false_implies, Fof, pgsF, pgsQ, Nat.zero_add, Nat.reduceAdd, Nat.reduceEqDiff, if_true, if_false, List.getD_cons_succ, List.getD_cons_zero] at hF
          obtain ⟨f0, f1, f2, f3, f4, f5, f6, f7, -⟩ := hF
          simp only [putAll, Act.put, Nat.zero_add, Nat.reduceAdd, f0, f1, f2, f3, f4, f5, f6, f7, List.setIfInBounds_toArray, List.set_cons_zero, List.set_cons_succ]
          have KB := Aside.mk hB.1
          clear hB
          go_wp2
          all_goals (go_ret; exact ⟨rfl, KB.out⟩)
        · have dw : (h.what != 0) = true := by simp [hw0]
          have hg0 : g = noFly := hno hw0
          have hq3 : ∀ w, (Op.equalIn 10000 30 (flyV g) (.agg #[.int .i64 0, .int .i64 0, .int .i64 0, .int .i64 0, .int .i64 0, .int .i64 0, .int .i64 0])).run Try.prog w = .ok true w := fun w => by have := eqFly w g noFly; rw [decide_eq_true hg0] at this; exact this
          clear hg0
          have hl1 : l.length = 1 := by rw [HST.out, if_neg hw0]; rfl
          clear hwe hno hw0
          go_enter Try.func6, Try.ntmps6
          go_wp2_with (first
            | (go_at_call 9; refine (awake13_any _).mono ?_; rintro e w1 ⟨rfl, hb1⟩; have HL := Aside.mk (HL.out.below hb1); have HC := Aside.mk (HC.out.below hb1); have KB := Aside.mk (below_call KB.out hb1); have HX := Aside.mk (blk_keep HX.out hb1); have HY := Aside.mk (blk_keep HY.out hb1); have c0 := blk_cell HX.out 0; have c1 := blk_cell HX.out 1; have c2 := blk_cell HX.out 2; have y0 := blk_cell HY.out 0; have y1 := blk_cell HY.out 1; have y2 := blk_cell HY.out 2; have y3 := blk_cell HY.out 3; have y4 := blk_cell HY.out 4; have y5 := blk_cell HY.out 5; have y6 := blk_cell HY.out 6; simp at c0 c1 c2 y0 y1 y2 y3 y4 y5 y6; have hsz := blk_lt HY.out; have hsz0 := blk_lt HX.out; clear hb1)
            | (go_at_call 10; refine (few_any _ _ _ _ HC.out).mono ?_; rw [hfew]; rintro e w2 ⟨rfl, rfl⟩)
            | (go_at_call 11; refine (step_any s p A c ls B k cs f _ HL.out HC.out HZ.out HF.out).mono ?_; rw [HS.out]; rintro e w1 ⟨rfl, hb1⟩; have HL := Aside.mk (HL.out.below hb1); have HC := Aside.mk (HC.out.below hb1); have KB := Aside.mk (below_call KB.out hb1); have HX := Aside.mk (blk_keep HX.out hb1); have HY := Aside.mk (blk_keep HY.out hb1); have c0 := blk_cell HX.out 0; have c1 := blk_cell HX.out 1; have c2 := blk_cell HX.out 2; have y0 := blk_cell HY.out 0; have y1 := blk_cell HY.out 1; have y2 := blk_cell HY.out 2; have y3 := blk_cell HY.out 3; have y4 := blk_cell HY.out 4; have y5 := blk_cell HY.out 5; have y6 := blk_cell HY.out 6; simp at c0 c1 c2 y0 y1 y2 y3 y4 y5 y6; have hsz := blk_lt HY.out; have hsz0 := blk_lt HX.out; clear hb1)
            | (go_at_call 14; refine (walk_any s p A c ls B k cs f _ (HL.out.below (below_alloc (below_alloc (Below.refl _ _) _) _)) (HC.out.below (below_alloc (below_alloc (Below.refl _ _) _) _)) HZ.out HF.out).mono ?_; rw [HW.out]; rintro e w3 ⟨v, rfl, ho, hb1⟩; have KB := Aside.mk (below_call (below_alloc (below_alloc KB.out _) _) hb1); have HH := blk_keep (heap_old (heap_new w1 (.cells #[.int .i64 h.tick, .int .i64 h.id, .int .i64 h.sw, .int .i64 h.inn, .int .i64 h.tag, .int .i64 h.what, .int .i64 h.out] 34) rfl) (.cells #[.int .i64 g.id, .int .i64 g.src, .int .i64 g.dst, .int .i64 g.ttl, .int .i64 g.tag, .int .i64 g.sw, .int .i64 g.inn] 30)) hb1; have HGB := blk_keep (heap_new (w1.alloc (.cells #[.int .i64 h.tick, .int .i64 h.id, .int .i64 h.sw, .int .i64 h.inn, .int .i64 h.tag, .int .i64 h.what, .int .i64 h.out] 34)) (.cells #[.int .i64 g.id, .int .i64 g.src, .int .i64 g.dst, .int .i64 g.ttl, .int .i64 g.tag, .int .i64 g.sw, .int .i64 g.inn] 30) rfl) hb1; simp only [World.size_alloc] at HGB; have p0 := blk_cell HH 0; have p1 := blk_cell HH 1; have p2 := blk_cell HH 2; have p3 := blk_cell HH 3; have p4 := blk_cell HH 4; have p5 := blk_cell HH 5; have p6 := blk_cell HH 6; have q0 := blk_cell HGB 0; have q1 := blk_cell HGB 1; have q2 := blk_cell HGB 2; have q3 := blk_cell HGB 3; have q4 := blk_cell HGB 4; have q5 := blk_cell HGB 5; have q6 := blk_cell HGB 6; simp at p0 p1 p2 p3 p4 p5 p6 q0 q1 q2 q3 q4 q5 q6; have hsz := blk_lt HGB; have hsz0 := blk_lt HH; have HX := Aside.mk (blk_keep (heap_old (heap_old HX.out _) _) hb1); have HGX := Aside.mk HGB; have HL := Aside.mk ((HL.out.below (below_alloc (below_alloc (Below.refl _ _) _) _)).below hb1); have HC := Aside.mk ((HC.out.below (below_alloc (below_alloc (Below.refl _ _) _) _)).below hb1); obtain ⟨A2, k2, rfl, hk2, hr⟩ := ho.rd; have HR := Aside.mk hr; obtain ⟨b2, o2, _, rfl, -⟩ := Row.at hr 0 hpos; obtain ⟨-, x0, x1, x2, x3, x4, x5, x6⟩ := hop_cells hr (Below.refl _ _) hpos; simp only [h0] at x0 x1 x2 x3 x4 x5 x6; simp at x0 x1 x2 x3 x4 x5 x6; clear HH HGB hb1 ho hr))
          go_quiet (fail)
          go_wp2
          all_goals (go_ret; exact ⟨by first | rfl | simp, below_drewN KB.out _⟩)
      · have d16 : decide (16 < f.ttl) = true := decide_eq_true (by omega)
        go_enter Try.func6, Try.ntmps6
        go_wp2_with (first
          | (go_at_call 9; refine (awake13_any _).mono ?_; rintro e w1 ⟨rfl, hb1⟩; have HL := Aside.mk (HL.out.below hb1); have HC := Aside.mk (HC.out.below hb1); have KB := Aside.mk (below_call KB.out hb1); have HX := Aside.mk (blk_keep HX.out hb1); have HY := Aside.mk (blk_keep HY.out hb1); have c0 := blk_cell HX.out 0; have c1 := blk_cell HX.out 1; have c2 := blk_cell HX.out 2; have y0 := blk_cell HY.out 0; have y1 := blk_cell HY.out 1; have y2 := blk_cell HY.out 2; have y3 := blk_cell HY.out 3; have y4 := blk_cell HY.out 4; have y5 := blk_cell HY.out 5; have y6 := blk_cell HY.out 6; simp at c0 c1 c2 y0 y1 y2 y3 y4 y5 y6; have hsz := blk_lt HY.out; have hsz0 := blk_lt HX.out; clear hb1)
          | (go_at_call 10; refine (few_any _ _ _ _ HC.out).mono ?_; rw [hfew]; rintro e w2 ⟨rfl, rfl⟩))
        go_ret
        exact ⟨rfl, KB.out⟩
    · have d60 : decide ((60 : Int) < (ls.length : Int)) = true := decide_eq_true (by omega)
      go_enter Try.func6, Try.ntmps6
      go_wp2_with (first
        | (go_at_call 9; refine (awake13_any _).mono ?_; rintro e w1 ⟨rfl, hb1⟩; have HL := Aside.mk (HL.out.below hb1); have HC := Aside.mk (HC.out.below hb1); have KB := Aside.mk (below_call KB.out hb1); have HX := Aside.mk (blk_keep HX.out hb1); have HY := Aside.mk (blk_keep HY.out hb1); have c0 := blk_cell HX.out 0; have c1 := blk_cell HX.out 1; have c2 := blk_cell HX.out 2; have y0 := blk_cell HY.out 0; have y1 := blk_cell HY.out 1; have y2 := blk_cell HY.out 2; have y3 := blk_cell HY.out 3; have y4 := blk_cell HY.out 4; have y5 := blk_cell HY.out 5; have y6 := blk_cell HY.out 6; simp at c0 c1 c2 y0 y1 y2 y3 y4 y5 y6; have hsz := blk_lt HY.out; have hsz0 := blk_lt HX.out; clear hb1)
        | (go_at_call 10; refine (few_any _ _ _ _ HC.out).mono ?_; rw [hfew]; rintro e w2 ⟨rfl, rfl⟩))
      go_ret
      exact ⟨rfl, KB.out⟩
end Go.Proofs.Ytonddgchifmocaa
