/- The walk through PathEnds. -/
import Derived.Test.YtonddgchifmocaaPathA
import Derived.Test.YtonddgchifmocaaOpens
import Derived.Test.YtonddgchifmocaaPathB
import Derived.BigQuiet
namespace Go.Proofs.Ytonddgchifmocaa
open Go.RowKit
set_option maxRecDepth 100000
set_option maxHeartbeats 4000000 in
theorem pathEnds_walk (s p : Int) (A : Option Addr) (c : Nat) (ls : List Lnk) (B : Option Addr) (k : Nat) (cs : List (List Rul)) (f : Fly) (w : World) (hl : Rd lnkD w A ls.length ls) (_ : FitT s p c ls) (hc : Rd confD w B cs.length cs) (_ : ∀ l ∈ cs, ∀ r ∈ l, FitR r) (_ : cs.length ≤ k) (hf : FitF f) :
    Calls Try.prog 5 #[.agg #[.int .i64 s, .int .i64 p, .slice A ls.length c], .slice B cs.length k, flyV f] w fun e w' => e = .returned (.bool true) ∧ Below w.heap.size w w' := by
  have hmx := hl.max
  have HF := Aside.mk hf.2.2.2.1
  have HL := Aside.mk (hl.below (below_alloc (below_alloc (Below.refl _ w) (.cells #[.int .i64 s, .int .i64 p, .slice A ls.length c] 24)) (.cells #[.int .i64 f.id, .int .i64 f.src, .int .i64 f.dst, .int .i64 f.ttl, .int .i64 f.tag, .int .i64 f.sw, .int .i64 f.inn] 30)))
  have HC := Aside.mk (hc.below (below_alloc (below_alloc (Below.refl _ w) (.cells #[.int .i64 s, .int .i64 p, .slice A ls.length c] 24)) (.cells #[.int .i64 f.id, .int .i64 f.src, .int .i64 f.dst, .int .i64 f.ttl, .int .i64 f.tag, .int .i64 f.sw, .int .i64 f.inn] 30)))
  have KB := Aside.mk (below_alloc (below_alloc (Below.refl _ w) (.cells #[.int .i64 s, .int .i64 p, .slice A ls.length c] 24)) (.cells #[.int .i64 f.id, .int .i64 f.src, .int .i64 f.dst, .int .i64 f.ttl, .int .i64 f.tag, .int .i64 f.sw, .int .i64 f.inn] 30))
  have HX := Aside.mk (heap_old (heap_new w (.cells #[.int .i64 s, .int .i64 p, .slice A ls.length c] 24) rfl) (.cells #[.int .i64 f.id, .int .i64 f.src, .int .i64 f.dst, .int .i64 f.ttl, .int .i64 f.tag, .int .i64 f.sw, .int .i64 f.inn] 30))
  have HY := Aside.mk (heap_new (w.alloc (.cells #[.int .i64 s, .int .i64 p, .slice A ls.length c] 24)) (.cells #[.int .i64 f.id, .int .i64 f.src, .int .i64 f.dst, .int .i64 f.ttl, .int .i64 f.tag, .int .i64 f.sw, .int .i64 f.inn] 30) rfl)
  simp only [World.size_alloc] at HX HY
  have hlo := hf.2.2.2.1.lo
  have hhi := hf.2.2.2.1.hi
  clear hl hc hf
  cases hfew : fewL cs
  · go_enter Try.func5, Try.ntmps5
    go_wp2_with (first
      | (go_at_call 9; refine (awake13_any _).mono ?_; rintro e w1 ⟨rfl, hb1⟩; have HL := Aside.mk (HL.out.below hb1); have HC := Aside.mk (HC.out.below hb1); have KB := Aside.mk (below_call KB.out hb1); have HX := Aside.mk (blk_keep HX.out hb1); have HY := Aside.mk (blk_keep HY.out hb1); have c0 := blk_cell HX.out 0; have c1 := blk_cell HX.out 1; have c2 := blk_cell HX.out 2; have y0 := blk_cell HY.out 0; have y1 := blk_cell HY.out 1; have y2 := blk_cell HY.out 2; have y3 := blk_cell HY.out 3; have y4 := blk_cell HY.out 4; have y5 := blk_cell HY.out 5; have y6 := blk_cell HY.out 6; simp at c0 c1 c2 y0 y1 y2 y3 y4 y5 y6; have hsz := blk_lt HY.out; have hsz0 := blk_lt HX.out; clear hb1)
      | (go_at_call 10; refine (few_any _ _ _ _ HC.out).mono ?_; rw [hfew]; rintro e w2 ⟨rfl, rfl⟩))
    go_ret
    exact ⟨rfl, KB.out⟩
  · have HZ := Aside.mk (few_small hfew)
    by_cases h60 : ls.length ≤ 60
    · have d60 : decide ((60 : Int) < (ls.length : Int)) = false := decide_eq_false (by omega)
      have hpos := walkP_pos (s := s) (p := p) (ls := ls) (cs := cs) (cap16 f)
      have hlen := walkP_len (s := s) (p := p) (ls := ls) (cs := cs) (cap16 f)
      have hends := walkP_ends (s := s) (p := p) (ls := ls) (cs := cs) (cap16 f)
      have hct : (cap16 f).ttl = min f.ttl 16 := rfl
      rw [hct] at hlen
      generalize hl : walkP s p ls cs (cap16 f) = l at hpos hlen hends
      have HW := Aside.mk hl
      clear hl
      have HE := Aside.mk hends
      clear hends hct
      by_cases ht : f.ttl < 1
      · have d1 : decide (f.ttl < 16) = true := decide_eq_true (by omega)
        have d2 : decide (0 < f.ttl) = false := decide_eq_false (by omega)
        have hm : l.length ≤ 1 := by omega
        have d3 : decide ((1 : Int) < (l.length : Int)) = false := decide_eq_false (by omega)
        have d4 : decide ((l.length : Int) < 1) = false := decide_eq_false (by omega)
        go_enter Try.func5, Try.ntmps5
        go_wp2_with (first
          | (go_at_call 9; refine (awake13_any _).mono ?_; rintro e w1 ⟨rfl, hb1⟩; have HL := Aside.mk (HL.out.below hb1); have HC := Aside.mk (HC.out.below hb1); have KB := Aside.mk (below_call KB.out hb1); have HX := Aside.mk (blk_keep HX.out hb1); have HY := Aside.mk (blk_keep HY.out hb1); have c0 := blk_cell HX.out 0; have c1 := blk_cell HX.out 1; have c2 := blk_cell HX.out 2; have y0 := blk_cell HY.out 0; have y1 := blk_cell HY.out 1; have y2 := blk_cell HY.out 2; have y3 := blk_cell HY.out 3; have y4 := blk_cell HY.out 4; have y5 := blk_cell HY.out 5; have y6 := blk_cell HY.out 6; simp at c0 c1 c2 y0 y1 y2 y3 y4 y5 y6; have hsz := blk_lt HY.out; have hsz0 := blk_lt HX.out; clear hb1)
          | (go_at_call 10; refine (few_any _ _ _ _ HC.out).mono ?_; rw [hfew]; rintro e w2 ⟨rfl, rfl⟩)
          | (go_at_call 14; refine (walk_any s p A c ls B k cs f _ HL.out HC.out HZ.out HF.out).mono ?_; rw [HW.out]; rintro e w3 ⟨v, rfl, ho, hb1⟩; obtain ⟨A2, k2, rfl, hk2, hr⟩ := ho.rd; have HR := Aside.mk hr; have HL := Aside.mk (HL.out.below hb1); have HC := Aside.mk (HC.out.below hb1); have KB := Aside.mk (below_call KB.out hb1); have HX := Aside.mk (blk_keep HX.out hb1); have HY := Aside.mk (blk_keep HY.out hb1); have c0 := blk_cell HX.out 0; have c1 := blk_cell HX.out 1; have c2 := blk_cell HX.out 2; have y0 := blk_cell HY.out 0; have y1 := blk_cell HY.out 1; have y2 := blk_cell HY.out 2; have y3 := blk_cell HY.out 3; have y4 := blk_cell HY.out 4; have y5 := blk_cell HY.out 5; have y6 := blk_cell HY.out 6; simp at c0 c1 c2 y0 y1 y2 y3 y4 y5 y6; have hsz := blk_lt HY.out; have hsz0 := blk_lt HX.out; clear hb1; clear ho hr))
        go_loopw [11] (fun i wr => ∃ k : Nat, k ≤ l.length ∧ i = .int .i64 k ∧ Below w.heap.size w wr ∧ wr.heap[w.heap.size + 1]? = some (.cells #[.int .i64 f.id, .int .i64 f.src, .int .i64 f.dst, .int .i64 f.ttl, .int .i64 f.tag, .int .i64 f.sw, .int .i64 f.inn] 30) ∧ Rd hopD wr A2 l.length l) (fun i _ => l.length - (intOf i).toNat)
        case atStart => exact ⟨0, Nat.zero_le _, rfl, KB.out, HY.out, HR.out⟩
        case round =>
          clear HL HC KB HX HY HR c0 c1 c2 y0 y1 y2 y3 y4 y5 y6
          obtain ⟨k, hk, rfl, hb, hy, hr⟩ := hrel
          have KB := Aside.mk hb
          have HY := Aside.mk hy
          have HR := Aside.mk hr
          have y0 := blk_cell hy 0
          have y4 := blk_cell hy 4
          simp at y0 y4
          by_cases hlt : k < l.length
          · obtain ⟨b1, o1, _, rfl, -⟩ := Row.at hr k hlt
            obtain ⟨-, p0, p1, p2, p3, p4, p5, p6⟩ := hop_cells hr (Below.refl _ _) hlt
            obtain ⟨e1, e2, e3⟩ := HE.out k hlt
            replace e2 : l[k].id = f.id := e2
            replace e3 : l[k].tag = f.tag := e3
            rw [e2] at p1
            rw [e3] at p4
            obtain ⟨q, hq1⟩ : ∃ q, (l[k].what == 0) = q := ⟨_, rfl⟩
            have hq2 : decide ((k : Int) < (l.length : Int) - 1) = q := by
              rw [← hq1, Bool.eq_iff_iff]
              simp only [decide_eq_true_eq, beq_iff_eq, e1]
              omega
            have hwm : IntKind.i64.wrap ((l.length : Int) - 1) = (l.length : Int) - 1 := IntWalk.i64_in _ (by omega)
            generalize l[k].what = x at *
            clear e1 e2 e3 hb hy hr p0 p2 p3 p6
            cases q
            all_goals
              go_wp2
              go_quiet (fail)
              go_wp2
              go_roundw
              case rel => exact ⟨k + 1, by omega, by go_num, below_drewN KB.out _, HY.out, HR.out⟩
              case measure => simp [intOf]; omega
          · obtain rfl : k = l.length := by omega
            clear hb hy hr
            go_wp2
            go_ret
            exact ⟨rfl, KB.out⟩
      · by_cases ht2 : f.ttl < 16
        · have d1 : decide (f.ttl < 16) = true := decide_eq_true (by omega)
          have d2 : decide (0 < f.ttl) = true := decide_eq_true (by omega)
          have hwt : IntKind.i64.wrap (f.ttl + 1) = f.ttl + 1 := IntWalk.i64_in _ (by omega)
          have hm : (l.length : Int) ≤ f.ttl + 1 := by omega
          go_enter Try.func5, Try.ntmps5
          go_wp2_with (first
            | (go_at_call 9; refine (awake13_any _).mono ?_; rintro e w1 ⟨rfl, hb1⟩; have HL := Aside.mk (HL.out.below hb1); have HC := Aside.mk (HC.out.below hb1); have KB := Aside.mk (below_call KB.out hb1); have HX := Aside.mk (blk_keep HX.out hb1); have HY := Aside.mk (blk_keep HY.out hb1); have c0 := blk_cell HX.out 0; have c1 := blk_cell HX.out 1; have c2 := blk_cell HX.out 2; have y0 := blk_cell HY.out 0; have y1 := blk_cell HY.out 1; have y2 := blk_cell HY.out 2; have y3 := blk_cell HY.out 3; have y4 := blk_cell HY.out 4; have y5 := blk_cell HY.out 5; have y6 := blk_cell HY.out 6; simp at c0 c1 c2 y0 y1 y2 y3 y4 y5 y6; have hsz := blk_lt HY.out; have hsz0 := blk_lt HX.out; clear hb1)
            | (go_at_call 10; refine (few_any _ _ _ _ HC.out).mono ?_; rw [hfew]; rintro e w2 ⟨rfl, rfl⟩)
            | (go_at_call 14; refine (walk_any s p A c ls B k cs f _ HL.out HC.out HZ.out HF.out).mono ?_; rw [HW.out]; rintro e w3 ⟨v, rfl, ho, hb1⟩; obtain ⟨A2, k2, rfl, hk2, hr⟩ := ho.rd; have HR := Aside.mk hr; have HL := Aside.mk (HL.out.below hb1); have HC := Aside.mk (HC.out.below hb1); have KB := Aside.mk (below_call KB.out hb1); have HX := Aside.mk (blk_keep HX.out hb1); have HY := Aside.mk (blk_keep HY.out hb1); have c0 := blk_cell HX.out 0; have c1 := blk_cell HX.out 1; have c2 := blk_cell HX.out 2; have y0 := blk_cell HY.out 0; have y1 := blk_cell HY.out 1; have y2 := blk_cell HY.out 2; have y3 := blk_cell HY.out 3; have y4 := blk_cell HY.out 4; have y5 := blk_cell HY.out 5; have y6 := blk_cell HY.out 6; simp at c0 c1 c2 y0 y1 y2 y3 y4 y5 y6; have hsz := blk_lt HY.out; have hsz0 := blk_lt HX.out; clear hb1; clear ho hr))
          go_loopw [11] (fun i wr => ∃ k : Nat, k ≤ l.length ∧ i = .int .i64 k ∧ Below w.heap.size w wr ∧ wr.heap[w.heap.size + 1]? = some (.cells #[.int .i64 f.id, .int .i64 f.src, .int .i64 f.dst, .int .i64 f.ttl, .int .i64 f.tag, .int .i64 f.sw, .int .i64 f.inn] 30) ∧ Rd hopD wr A2 l.length l) (fun i _ => l.length - (intOf i).toNat)
          case atStart => exact ⟨0, Nat.zero_le _, rfl, KB.out, HY.out, HR.out⟩
          case round =>
            clear HL HC KB HX HY HR c0 c1 c2 y0 y1 y2 y3 y4 y5 y6
            obtain ⟨k, hk, rfl, hb, hy, hr⟩ := hrel
            have KB := Aside.mk hb
            have HY := Aside.mk hy
            have HR := Aside.mk hr
            have y0 := blk_cell hy 0
            have y4 := blk_cell hy 4
            simp at y0 y4
            by_cases hlt : k < l.length
            · obtain ⟨b1, o1, _, rfl, -⟩ := Row.at hr k hlt
              obtain ⟨-, p0, p1, p2, p3, p4, p5, p6⟩ := hop_cells hr (Below.refl _ _) hlt
              obtain ⟨e1, e2, e3⟩ := HE.out k hlt
              replace e2 : l[k].id = f.id := e2
              replace e3 : l[k].tag = f.tag := e3
              rw [e2] at p1
              rw [e3] at p4
              obtain ⟨q, hq1⟩ : ∃ q, (l[k].what == 0) = q := ⟨_, rfl⟩
              have hq2 : decide ((k : Int) < (l.length : Int) - 1) = q := by
                rw [← hq1, Bool.eq_iff_iff]
                simp only [decide_eq_true_eq, beq_iff_eq, e1]
                omega
              have hwm : IntKind.i64.wrap ((l.length : Int) - 1) = (l.length : Int) - 1 := IntWalk.i64_in _ (by omega)
              generalize l[k].what = x at *
              clear e1 e2 e3 hb hy hr p0 p2 p3 p6
              cases q
              all_goals
                go_wp2
                go_quiet (fail)
                go_wp2
                go_roundw
                case rel => exact ⟨k + 1, by omega, by go_num, below_drewN KB.out _, HY.out, HR.out⟩
                case measure => simp [intOf]; omega
            · obtain rfl : k = l.length := by omega
              clear hb hy hr
              go_wp2
              go_ret
              exact ⟨rfl, KB.out⟩
        · have d1 : decide (f.ttl < 16) = false := decide_eq_false (by omega)
          have hm : l.length ≤ 17 := by omega
          go_enter Try.func5, Try.ntmps5
          go_wp2_with (first
            | (go_at_call 9; refine (awake13_any _).mono ?_; rintro e w1 ⟨rfl, hb1⟩; have HL := Aside.mk (HL.out.below hb1); have HC := Aside.mk (HC.out.below hb1); have KB := Aside.mk (below_call KB.out hb1); have HX := Aside.mk (blk_keep HX.out hb1); have HY := Aside.mk (blk_keep HY.out hb1); have c0 := blk_cell HX.out 0; have c1 := blk_cell HX.out 1; have c2 := blk_cell HX.out 2; have y0 := blk_cell HY.out 0; have y1 := blk_cell HY.out 1; have y2 := blk_cell HY.out 2; have y3 := blk_cell HY.out 3; have y4 := blk_cell HY.out 4; have y5 := blk_cell HY.out 5; have y6 := blk_cell HY.out 6; simp at c0 c1 c2 y0 y1 y2 y3 y4 y5 y6; have hsz := blk_lt HY.out; have hsz0 := blk_lt HX.out; clear hb1)
            | (go_at_call 10; refine (few_any _ _ _ _ HC.out).mono ?_; rw [hfew]; rintro e w2 ⟨rfl, rfl⟩)
            | (go_at_call 14; refine (walk_any s p A c ls B k cs f _ HL.out HC.out HZ.out HF.out).mono ?_; rw [HW.out]; rintro e w3 ⟨v, rfl, ho, hb1⟩; obtain ⟨A2, k2, rfl, hk2, hr⟩ := ho.rd; have HR := Aside.mk hr; have HL := Aside.mk (HL.out.below hb1); have HC := Aside.mk (HC.out.below hb1); have KB := Aside.mk (below_call KB.out hb1); have HX := Aside.mk (blk_keep HX.out hb1); have HY := Aside.mk (blk_keep HY.out hb1); have c0 := blk_cell HX.out 0; have c1 := blk_cell HX.out 1; have c2 := blk_cell HX.out 2; have y0 := blk_cell HY.out 0; have y1 := blk_cell HY.out 1; have y2 := blk_cell HY.out 2; have y3 := blk_cell HY.out 3; have y4 := blk_cell HY.out 4; have y5 := blk_cell HY.out 5; have y6 := blk_cell HY.out 6; simp at c0 c1 c2 y0 y1 y2 y3 y4 y5 y6; have hsz := blk_lt HY.out; have hsz0 := blk_lt HX.out; clear hb1; clear ho hr))
          go_loopw [11] (fun i wr => ∃ k : Nat, k ≤ l.length ∧ i = .int .i64 k ∧ Below w.heap.size w wr ∧ wr.heap[w.heap.size + 1]? = some (.cells #[.int .i64 f.id, .int .i64 f.src, .int .i64 f.dst, .int .i64 f.ttl, .int .i64 f.tag, .int .i64 f.sw, .int .i64 f.inn] 30) ∧ Rd hopD wr A2 l.length l) (fun i _ => l.length - (intOf i).toNat)
          case atStart => exact ⟨0, Nat.zero_le _, rfl, KB.out, HY.out, HR.out⟩
          case round =>
            clear HL HC KB HX HY HR c0 c1 c2 y0 y1 y2 y3 y4 y5 y6
            obtain ⟨k, hk, rfl, hb, hy, hr⟩ := hrel
            have KB := Aside.mk hb
            have HY := Aside.mk hy
            have HR := Aside.mk hr
            have y0 := blk_cell hy 0
            have y4 := blk_cell hy 4
            simp at y0 y4
            by_cases hlt : k < l.length
            · obtain ⟨b1, o1, _, rfl, -⟩ := Row.at hr k hlt
              obtain ⟨-, p0, p1, p2, p3, p4, p5, p6⟩ := hop_cells hr (Below.refl _ _) hlt
              obtain ⟨e1, e2, e3⟩ := HE.out k hlt
              replace e2 : l[k].id = f.id := e2
              replace e3 : l[k].tag = f.tag := e3
              rw [e2] at p1
              rw [e3] at p4
              obtain ⟨q, hq1⟩ : ∃ q, (l[k].what == 0) = q := ⟨_, rfl⟩
              have hq2 : decide ((k : Int) < (l.length : Int) - 1) = q := by
                rw [← hq1, Bool.eq_iff_iff]
                simp only [decide_eq_true_eq, beq_iff_eq, e1]
                omega
              have hwm : IntKind.i64.wrap ((l.length : Int) - 1) = (l.length : Int) - 1 := IntWalk.i64_in _ (by omega)
              generalize l[k].what = x at *
              clear e1 e2 e3 hb hy hr p0 p2 p3 p6
              cases q
              all_goals
                go_wp2
                go_quiet (fail)
                go_wp2
                go_roundw
                case rel => exact ⟨k + 1, by omega, by go_num, below_drewN KB.out _, HY.out, HR.out⟩
                case measure => simp [intOf]; omega
            · obtain rfl : k = l.length := by omega
              clear hb hy hr
              go_wp2
              go_ret
              exact ⟨rfl, KB.out⟩
    · have d60 : decide ((60 : Int) < (ls.length : Int)) = true := decide_eq_true (by omega)
      go_enter Try.func5, Try.ntmps5
      go_wp2_with (first
        | (go_at_call 9; refine (awake13_any _).mono ?_; rintro e w1 ⟨rfl, hb1⟩; have HL := Aside.mk (HL.out.below hb1); have HC := Aside.mk (HC.out.below hb1); have KB := Aside.mk (below_call KB.out hb1); have HX := Aside.mk (blk_keep HX.out hb1); have HY := Aside.mk (blk_keep HY.out hb1); have c0 := blk_cell HX.out 0; have c1 := blk_cell HX.out 1; have c2 := blk_cell HX.out 2; have y0 := blk_cell HY.out 0; have y1 := blk_cell HY.out 1; have y2 := blk_cell HY.out 2; have y3 := blk_cell HY.out 3; have y4 := blk_cell HY.out 4; have y5 := blk_cell HY.out 5; have y6 := blk_cell HY.out 6; simp at c0 c1 c2 y0 y1 y2 y3 y4 y5 y6; have hsz := blk_lt HY.out; have hsz0 := blk_lt HX.out; clear hb1)
        | (go_at_call 10; refine (few_any _ _ _ _ HC.out).mono ?_; rw [hfew]; rintro e w2 ⟨rfl, rfl⟩))
      go_ret
      exact ⟨rfl, KB.out⟩
end Go.Proofs.Ytonddgchifmocaa
