/- The walk through PathId. -/
import Derived.Test.YtonddgchifmocaaPathB
import Derived.Test.YtonddgchifmocaaPut
namespace Go.Proofs.Ytonddgchifmocaa
open Go.RowKit
set_option maxRecDepth 100000

def mixL (a b : List Hop) (k : Nat) : List Hop := a.take k ++ b.drop k
section
variable {a b : List Hop} {k : Nat}
theorem mixL_len (h : a.length = b.length) (hk : k ≤ a.length) : (mixL a b k).length = a.length := by unfold mixL; simp; omega
theorem mixL_get (h : a.length = b.length) (hk : k < a.length) (hk' : k < (mixL a b k).length) : (mixL a b k)[k] = b[k] := by
  simp only [mixL]
  rw [List.getElem_append_right (by simp; omega)]
  simp only [List.length_take, List.getElem_drop]
  congr 1
  omega
theorem mixL_set (h : a.length = b.length) (hk : k < a.length) : (mixL a b k).set k a[k] = mixL a b (k + 1) := by
  unfold mixL
  rw [List.set_append_right _ _ (by simp; omega), List.take_succ_eq_append_getElem hk, List.append_assoc]
  congr 1
  rw [List.length_take, Nat.min_eq_left (Nat.le_of_lt hk), Nat.sub_self, List.drop_eq_getElem_cons (show k < b.length by omega)]
  rfl
end
set_option maxHeartbeats 4000000 in
theorem pathId_walk (s p : Int) (A : Option Addr) (c : Nat) (ls : List Lnk) (B : Option Addr) (k : Nat) (cs : List (List Rul)) (f : Fly) (id tag : Int) (w : World) (hl : Rd lnkD w A ls.length ls) (_ : FitT s p c ls) (hc : Rd confD w B cs.length cs) (_ : ∀ l ∈ cs, ∀ r ∈ l, FitR r) (_ : cs.length ≤ k) (hf : FitF f) (_ : Fit id) (_ : Fit tag) :
    Calls Try.prog 7 #[.agg #[.int .i64 s, .int .i64 p, .slice A ls.length c], .slice B cs.length k, flyV f, .int .i64 id, .int .i64 tag] w fun e w' => e = .returned (.bool true) ∧ Below w.heap.size w w' := by
  have hmx := hl.max
  have HF := Aside.mk hf.2.2.2.1
  have HL := Aside.mk (hl.below (below_alloc (below_alloc (Below.refl _ w) (.cells #[.int .i64 s, .int .i64 p, .slice A ls.length c] 24)) (.cells #[.int .i64 f.id, .int .i64 f.src, .int .i64 f.dst, .int .i64 f.ttl, .int .i64 f.tag, .int .i64 f.sw, .int .i64 f.inn] 30)))
  have HC := Aside.mk (hc.below (below_alloc (below_alloc (Below.refl _ w) (.cells #[.int .i64 s, .int .i64 p, .slice A ls.length c] 24)) (.cells #[.int .i64 f.id, .int .i64 f.src, .int .i64 f.dst, .int .i64 f.ttl, .int .i64 f.tag, .int .i64 f.sw, .int .i64 f.inn] 30)))
  have KB := Aside.mk (below_alloc (below_alloc (Below.refl _ w) (.cells #[.int .i64 s, .int .i64 p, .slice A ls.length c] 24)) (.cells #[.int .i64 f.id, .int .i64 f.src, .int .i64 f.dst, .int .i64 f.ttl, .int .i64 f.tag, .int .i64 f.sw, .int .i64 f.inn] 30))
  have HX := Aside.mk (heap_old (heap_new w (.cells #[.int .i64 s, .int .i64 p, .slice A ls.length c] 24) rfl) (.cells #[.int .i64 f.id, .int .i64 f.src, .int .i64 f.dst, .int .i64 f.ttl, .int .i64 f.tag, .int .i64 f.sw, .int .i64 f.inn] 30))
  have HY := Aside.mk (heap_new (w.alloc (.cells #[.int .i64 s, .int .i64 p, .slice A ls.length c] 24)) (.cells #[.int .i64 f.id, .int .i64 f.src, .int .i64 f.dst, .int .i64 f.ttl, .int .i64 f.tag, .int .i64 f.sw, .int .i64 f.inn] 30) rfl)
  simp only [World.size_alloc] at HX HY
  clear hl hc hf
  cases hfew : fewL cs
  · go_enter Try.func7, Try.ntmps7
    go_wp2_with (first
      | (go_at_call 9; refine (awake13_any _).mono ?_; rintro e w1 ⟨rfl, hb1⟩; have HL := Aside.mk (HL.out.below hb1); have HC := Aside.mk (HC.out.below hb1); have KB := Aside.mk (below_call KB.out hb1); have HX := Aside.mk (blk_keep HX.out hb1); have HY := Aside.mk (blk_keep HY.out hb1); have c0 := blk_cell HX.out 0; have c1 := blk_cell HX.out 1; have c2 := blk_cell HX.out 2; have y0 := blk_cell HY.out 0; have y1 := blk_cell HY.out 1; have y2 := blk_cell HY.out 2; have y3 := blk_cell HY.out 3; have y4 := blk_cell HY.out 4; have y5 := blk_cell HY.out 5; have y6 := blk_cell HY.out 6; simp at c0 c1 c2 y0 y1 y2 y3 y4 y5 y6; have hsz := blk_lt HY.out; have hsz0 := blk_lt HX.out; clear hb1)
      | (go_at_call 10; refine (few_any _ _ _ _ HC.out).mono ?_; rw [hfew]; rintro e w2 ⟨rfl, rfl⟩))
    go_ret
    exact ⟨rfl, KB.out⟩
  · have HZ := Aside.mk (few_small hfew)
    by_cases h60 : ls.length ≤ 60
    · have d60 : decide ((60 : Int) < (ls.length : Int)) = false := decide_eq_false (by omega)
      have hpos := walkP_pos (s := s) (p := p) (ls := ls) (cs := cs) (cap16 f)
      have hids := walkP_ends (s := s) (p := p) (ls := ls) (cs := cs) (cap16 f)
      have hnum := walkP_num (s := s) (p := p) (ls := ls) (cs := cs) id tag (wrap64 (f.src + 1)) (cap16 f)
      have hlen := walkP_len (s := s) (p := p) (ls := ls) (cs := cs) (cap16 f)
      have hct : (cap16 f).ttl ≤ 16 := by show min f.ttl 16 ≤ 16; omega
      generalize hl : walkP s p ls cs (cap16 f) = la at hpos hids hnum hlen
      have HW := Aside.mk hl
      have HW2 := Aside.mk (show walkP s p ls cs (cap16 (numF id tag (wrap64 (f.src + 1)) f)) = la.map (numH id tag) from hnum)
      have HI := Aside.mk hids
      have hl17 : la.length ≤ 17 := by omega
      clear hl hnum hids hlen hct
      go_enter Try.func7, Try.ntmps7
      go_wp2_with (first
        | (go_at_call 9; refine (awake13_any _).mono ?_; rintro e w1 ⟨rfl, hb1⟩; have HL := Aside.mk (HL.out.below hb1); have HC := Aside.mk (HC.out.below hb1); have KB := Aside.mk (below_call KB.out hb1); have HX := Aside.mk (blk_keep HX.out hb1); have HY := Aside.mk (blk_keep HY.out hb1); have c0 := blk_cell HX.out 0; have c1 := blk_cell HX.out 1; have c2 := blk_cell HX.out 2; have y0 := blk_cell HY.out 0; have y1 := blk_cell HY.out 1; have y2 := blk_cell HY.out 2; have y3 := blk_cell HY.out 3; have y4 := blk_cell HY.out 4; have y5 := blk_cell HY.out 5; have y6 := blk_cell HY.out 6; simp at c0 c1 c2 y0 y1 y2 y3 y4 y5 y6; have hsz := blk_lt HY.out; have hsz0 := blk_lt HX.out; clear hb1)
        | (go_at_call 10; refine (few_any _ _ _ _ HC.out).mono ?_; rw [hfew]; rintro e w2 ⟨rfl, rfl⟩)
        | (have hA0 := HA; clear hA0; go_at_call 14; refine (walk_any s p A c ls B k cs (numF id tag (wrap64 (f.src + 1)) f) _ HL.out HC.out HZ.out HF.out).mono ?_; rw [HW2.out]; rintro e w4 ⟨v, rfl, ho, hb1⟩; obtain ⟨gb, cb, rfl, hgb, hgb2, -⟩ := ho.addr (by rw [List.length_map]; exact hpos); have HV := Aside.mk ho; have HA := Aside.mk (HA.out.below hb1); have HL := Aside.mk (HL.out.below hb1); have HC := Aside.mk (HC.out.below hb1); have KB := Aside.mk (below_call KB.out hb1); have HX := Aside.mk (blk_keep HX.out hb1); have HY := Aside.mk (blk_keep HY.out hb1); have c0 := blk_cell HX.out 0; have c1 := blk_cell HX.out 1; have c2 := blk_cell HX.out 2; have y0 := blk_cell HY.out 0; have y1 := blk_cell HY.out 1; have y2 := blk_cell HY.out 2; have y3 := blk_cell HY.out 3; have y4 := blk_cell HY.out 4; have y5 := blk_cell HY.out 5; have y6 := blk_cell HY.out 6; simp at c0 c1 c2 y0 y1 y2 y3 y4 y5 y6; have hsz := blk_lt HY.out; have hsz0 := blk_lt HX.out; clear hb1; clear ho)
        | (go_at_call 14; refine (walk_any s p A c ls B k cs f _ (HL.out.below (below_alloc (Below.refl _ _) (.cells #[.int .i64 id, .int .i64 (wrap64 (f.src + 1)), .int .i64 f.dst, .int .i64 f.ttl, .int .i64 tag, .int .i64 f.sw, .int .i64 f.inn] 30))) (HC.out.below (below_alloc (Below.refl _ _) (.cells #[.int .i64 id, .int .i64 (wrap64 (f.src + 1)), .int .i64 f.dst, .int .i64 f.ttl, .int .i64 tag, .int .i64 f.sw, .int .i64 f.inn] 30))) HZ.out HF.out).mono ?_; rw [HW.out]; rintro e w3 ⟨v, rfl, ho, hb1⟩; have KB := Aside.mk (below_alloc KB.out (.cells #[.int .i64 id, .int .i64 (wrap64 (f.src + 1)), .int .i64 f.dst, .int .i64 f.ttl, .int .i64 tag, .int .i64 f.sw, .int .i64 f.inn] 30)); have HM := Aside.mk (blk_keep (heap_new w2 (.cells #[.int .i64 id, .int .i64 (wrap64 (f.src + 1)), .int .i64 f.dst, .int .i64 f.ttl, .int .i64 tag, .int .i64 f.sw, .int .i64 f.inn] 30) rfl) hb1); have HX := Aside.mk (heap_old HX.out (.cells #[.int .i64 id, .int .i64 (wrap64 (f.src + 1)), .int .i64 f.dst, .int .i64 f.ttl, .int .i64 tag, .int .i64 f.sw, .int .i64 f.inn] 30)); have HY := Aside.mk (heap_old HY.out (.cells #[.int .i64 id, .int .i64 (wrap64 (f.src + 1)), .int .i64 f.dst, .int .i64 f.ttl, .int .i64 tag, .int .i64 f.sw, .int .i64 f.inn] 30)); have HL := Aside.mk (HL.out.below (below_alloc (Below.refl _ _) (.cells #[.int .i64 id, .int .i64 (wrap64 (f.src + 1)), .int .i64 f.dst, .int .i64 f.ttl, .int .i64 tag, .int .i64 f.sw, .int .i64 f.inn] 30))); have HC := Aside.mk (HC.out.below (below_alloc (Below.refl _ _) (.cells #[.int .i64 id, .int .i64 (wrap64 (f.src + 1)), .int .i64 f.dst, .int .i64 f.ttl, .int .i64 tag, .int .i64 f.sw, .int .i64 f.inn] 30))); obtain ⟨ga, ca, rfl, hga, hga2, -⟩ := ho.addr hpos; have HA := Aside.mk ho; have HL := Aside.mk (HL.out.below hb1); have HC := Aside.mk (HC.out.below hb1); have KB := Aside.mk (below_call KB.out hb1); have HX := Aside.mk (blk_keep HX.out hb1); have HY := Aside.mk (blk_keep HY.out hb1); have c0 := blk_cell HX.out 0; have c1 := blk_cell HX.out 1; have c2 := blk_cell HX.out 2; have y0 := blk_cell HY.out 0; have y1 := blk_cell HY.out 1; have y2 := blk_cell HY.out 2; have y3 := blk_cell HY.out 3; have y4 := blk_cell HY.out 4; have y5 := blk_cell HY.out 5; have y6 := blk_cell HY.out 6; simp at c0 c1 c2 y0 y1 y2 y3 y4 y5 y6; have hsz := blk_lt HY.out; have hsz0 := blk_lt HX.out; clear hb1; have g0 := blk_cell HM.out 0; have g1 := blk_cell HM.out 1; have g2 := blk_cell HM.out 2; have g3 := blk_cell HM.out 3; have g4 := blk_cell HM.out 4; have g5 := blk_cell HM.out 5; have g6 := blk_cell HM.out 6; simp at g0 g1 g2 g3 g4 g5 g6; have hsz2 := blk_lt HM.out; clear ho))
      have hV : Own hopF w4 w3.heap.size 34 (.slice (some ⟨gb, 0, none⟩) la.length cb) (la.map (numH id tag)) := by have := HV.out; rwa [List.length_map] at this
      have hne : ga ≠ gb := by omega
      have hmap := Aside.mk (show la.length = (la.map (numH id tag)).length by rw [List.length_map])
      go_loopw [16] (fun i wr => ∃ k : Nat, k ≤ la.length ∧ i = .int .i64 k ∧ Below w.heap.size w wr ∧ wr.heap[w.heap.size + 1]? = some (.cells #[.int .i64 f.id, .int .i64 f.src, .int .i64 f.dst, .int .i64 f.ttl, .int .i64 f.tag, .int .i64 f.sw, .int .i64 f.inn] 30) ∧ Own hopF wr (w2.heap.size + 1) 34 (.slice (some ⟨ga, 0, none⟩) la.length ca) la ∧ Own hopF wr w3.heap.size 34 (.slice (some ⟨gb, 0, none⟩) la.length cb) (mixL la (la.map (numH id tag)) k)) (fun i _ => la.length - (intOf i).toNat)
      case atStart => exact ⟨0, Nat.zero_le _, rfl, KB.out, HY.out, by simpa using HA.out, hV⟩
      case round =>
        clear HL HC KB HX HY HA HV HM hV c0 c1 c2 y0 y1 y2 y3 y4 y5 y6 g0 g1 g2 g3 g4 g5 g6
        obtain ⟨k, hk, rfl, hb, hy, ha, hv⟩ := hrel
        have KB := Aside.mk hb
        have HY := Aside.mk hy
        have HA := Aside.mk ha
        have HV := Aside.mk hv
        have y0 := blk_cell hy 0
        have y4 := blk_cell hy 4
        simp at y0 y4
        have hsw := blk_lt hy
        by_cases hlt : k < la.length
        · have hlt2 : k < (mixL la (la.map (numH id tag)) k).length := by rw [mixL_len hmap.out hk]; exact hlt
          have v1 : wr.cell? ⟨gb, k * 7 + 1, none⟩ = some (.int .i64 (mixL la (la.map (numH id tag)) k)[k].id) := hv.at hlt2 1 _ rfl
          have v4 : wr.cell? ⟨gb, k * 7 + 4, none⟩ = some (.int .i64 (mixL la (la.map (numH id tag)) k)[k].tag) := hv.at hlt2 4 _ rfl
          have hfz := fun o => hv.frozen o
          have hgbw : gb ≠ w.heap.size + 1 := by omega
          clear hb hy ha hv
          go_wp2
          have hxk := mixL_get hmap.out hlt hlt2
          rw [List.getElem_map] at hxk
          obtain ⟨-, i1, i2⟩ := HI.out k hlt
          replace i1 : la[k].id = f.id := i1
          replace i2 : la[k].tag = f.tag := i2
          obtain ⟨y1, hy1⟩ : ∃ y1, y1 = { (mixL la (la.map (numH id tag)) k)[k] with id := f.id } := ⟨_, rfl⟩
          have hP := HV.out.put hlt2 y1 1 (.int .i64 f.id) (by decide) (by rw [hy1]; rfl)
          have hQ := hP.put (i := k) (by rw [List.length_set]; exact hlt2) la[k] 4 (.int .i64 f.tag) (by decide) (by
            rw [List.getElem_set_self, hy1, hxk]
            show [Value.int .i64 la[k].tick, .int .i64 la[k].id, .int .i64 la[k].sw, .int .i64 la[k].inn, .int .i64 la[k].tag, .int .i64 la[k].what, .int .i64 la[k].out] = _
            rw [i1, i2]; rfl)
          rw [List.set_set, mixL_set hmap.out hlt] at hQ
          refine ⟨⟨k + 1, by omega, by go_num, below_set (below_set KB.out (by simp; omega) _) (by simp; omega) _, blk_far (blk_far HY.out (by simp; omega) _) (by simp; omega) _, ?_, hQ⟩, by simp [intOf]; omega⟩
          exact Own.far (Own.far HA.out (by simp [Value.ownBlock]; omega) _) (by simp [Value.ownBlock]; omega) _
        · obtain rfl : k = la.length := by omega
          have hv2 : Own hopF wr w3.heap.size 34 (.slice (some ⟨gb, 0, none⟩) la.length cb) la := by
            have := hv
            unfold mixL at this
            rw [List.take_length, List.drop_eq_nil_of_le (by simp), List.append_nil] at this
            exact this
          obtain ⟨A1, k1, e1, -, r1⟩ := ha.rd
          obtain ⟨A2, k2, e2, -, r2⟩ := hv2.rd
          cases e1
          cases e2
          have HR1 := Aside.mk r1
          have HR2 := Aside.mk r2
          clear hb hy ha hv hv2 r1 r2
          go_wp2_with (go_at_call 13; refine (sameH_any la la _ _ _ _ _ HR1.out HR2.out).mono ?_; rintro e w5 ⟨rfl, hb1⟩; have KB := Aside.mk (below_call KB.out hb1); clear hb1)
          go_ret
          exact ⟨by simp, KB.out⟩
    · have d60 : decide ((60 : Int) < (ls.length : Int)) = true := decide_eq_true (by omega)
      go_enter Try.func7, Try.ntmps7
      go_wp2_with (first
        | (go_at_call 9; refine (awake13_any _).mono ?_; rintro e w1 ⟨rfl, hb1⟩; have HL := Aside.mk (HL.out.below hb1); have HC := Aside.mk (HC.out.below hb1); have KB := Aside.mk (below_call KB.out hb1); have HX := Aside.mk (blk_keep HX.out hb1); have HY := Aside.mk (blk_keep HY.out hb1); have c0 := blk_cell HX.out 0; have c1 := blk_cell HX.out 1; have c2 := blk_cell HX.out 2; have y0 := blk_cell HY.out 0; have y1 := blk_cell HY.out 1; have y2 := blk_cell HY.out 2; have y3 := blk_cell HY.out 3; have y4 := blk_cell HY.out 4; have y5 := blk_cell HY.out 5; have y6 := blk_cell HY.out 6; simp at c0 c1 c2 y0 y1 y2 y3 y4 y5 y6; have hsz := blk_lt HY.out; have hsz0 := blk_lt HX.out; clear hb1)
        | (go_at_call 10; refine (few_any _ _ _ _ HC.out).mono ?_; rw [hfew]; rintro e w2 ⟨rfl, rfl⟩))
      go_ret
      exact ⟨rfl, KB.out⟩
end Go.Proofs.Ytonddgchifmocaa
