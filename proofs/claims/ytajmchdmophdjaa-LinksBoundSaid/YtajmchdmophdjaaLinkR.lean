/- The walk through the document's Step of layer 19. -/
import Derived.Test.YtajmchdmophdjaaLinkA
import Derived.Test.YtajmchdmophdjaaPipeS
import Derived.Test.YtajmchdmophdjaaPut
namespace Go.Proofs.Ytajmchdmophdjaa
open Go.RowKit
set_option maxRecDepth 100000

theorem infoHop2 : (Try.prog.info? 40).map (fun i => (i.zero, i.size, i.bytes)) = some (some (.agg #[.int .i64 0, .int .i64 0, .int .i64 0, .int .i64 0, .int .i64 0, .int .i64 0, .int .i64 0]), 7, 56) := by kernel_rfl
theorem infoFly : (Try.prog.info? 38).map (fun i => (i.zero, i.size, i.bytes)) = some (some (.agg #[.int .i64 0, .int .i64 0, .int .i64 0, .int .i64 0, .int .i64 0, .int .i64 0, .int .i64 0]), 7, 56) := by kernel_rfl
/-- Seven stores fill a block of seven cells, and turn no other one. -/
theorem fill7 {W : World} {q : Nat} {t : TypeId} {c0 c1 c2 c3 c4 c5 c6 : Value} (h : W.heap[q]? = some (.cells #[c0, c1, c2, c3, c4, c5, c6] t)) (v0 v1 v2 v3 v4 v5 v6 : Value) :
    (((((((W.setCell ⟨q, 0, none⟩ v0).setCell ⟨q, 1, none⟩ v1).setCell ⟨q, 2, none⟩ v2).setCell ⟨q, 3, none⟩ v3).setCell ⟨q, 4, none⟩ v4).setCell ⟨q, 5, none⟩ v5).setCell ⟨q, 6, none⟩ v6).heap[q]? = some (.cells #[v0, v1, v2, v3, v4, v5, v6] t) ∧
    ∀ g o, g ≠ q → W.heap[g]? = some o → (((((((W.setCell ⟨q, 0, none⟩ v0).setCell ⟨q, 1, none⟩ v1).setCell ⟨q, 2, none⟩ v2).setCell ⟨q, 3, none⟩ v3).setCell ⟨q, 4, none⟩ v4).setCell ⟨q, 5, none⟩ v5).setCell ⟨q, 6, none⟩ v6).heap[g]? = some o := by
  refine ⟨?_, fun g o hg ho => blk_far (blk_far (blk_far (blk_far (blk_far (blk_far (blk_far ho hg _) hg _) hg _) hg _) hg _) hg _) hg _⟩
  have e0 := blk_set h 0 v0
  simp only [List.setIfInBounds_toArray, List.set_cons_zero, List.set_cons_succ] at e0
  have e1 := blk_set e0 1 v1
  simp only [List.setIfInBounds_toArray, List.set_cons_zero, List.set_cons_succ] at e1
  have e2 := blk_set e1 2 v2
  simp only [List.setIfInBounds_toArray, List.set_cons_zero, List.set_cons_succ] at e2
  have e3 := blk_set e2 3 v3
  simp only [List.setIfInBounds_toArray, List.set_cons_zero, List.set_cons_succ] at e3
  have e4 := blk_set e3 4 v4
  simp only [List.setIfInBounds_toArray, List.set_cons_zero, List.set_cons_succ] at e4
  have e5 := blk_set e4 5 v5
  simp only [List.setIfInBounds_toArray, List.set_cons_zero, List.set_cons_succ] at e5
  have e6 := blk_set e5 6 v6
  simp only [List.setIfInBounds_toArray, List.set_cons_zero, List.set_cons_succ] at e6
  exact e6

/-- Two own slices of elements of two types lie apart. -/
theorem Own.apart {α β : Type} {f : Flat α} {f2 : Flat β} {w : World} {b1 b2 : Nat} {e1 e2 : TypeId} {v v2 : Value} {xs : List α} {ys : List β} (h : Own f w b1 e1 v xs) (h2 : Own f2 w b2 e2 v2 ys) (hne : e1 ≠ e2) : v.ownBlock = none ∨ v.ownBlock ≠ v2.ownBlock := by
  rcases h2.2 with ⟨rfl, _⟩ | ⟨g, cap, cur, rfl, _, hh, _⟩
  · cases hv : v.ownBlock with
    | none => exact .inl rfl
    | some r => exact .inr (by simp [Value.ownBlock])
  · exact .inr (fun e => h.ne_type hh hne e)
def rstB (s p : Int) (A : Option Addr) (c : Nat) (ls : List Lnk) (m sb so sc n fb fo fc k : Nat) (x : Fly) (sw : Swt) (V : Option Addr) (cV : Nat) (tick : Int) (h : Hop) (g : Fly) (tb : Nat) (wr : World) (w' : World) : Prop :=
  Below wr.heap.size wr w'
def rstF (s p : Int) (A : Option Addr) (c : Nat) (ls : List Lnk) (m sb so sc n fb fo fc k : Nat) (x : Fly) (sw : Swt) (V : Option Addr) (cV : Nat) (tick : Int) (h : Hop) (g : Fly) (tb : Nat) (wr : World) : List (Value → Value → World → Prop) :=
  [fun _ v _ => v = .agg #[.int .i64 s, .int .i64 p, .slice A ls.length c],
   fun _ v _ => v = .slice (some ⟨sb, so, none⟩) m sc,
   fun _ v _ => v = .slice (some ⟨fb, fo, none⟩) n fc,
   fun _ v _ => v = .int .i64 k,
   fun _ v _ => v = .pointer (some ⟨fb, fo + k * 7, none⟩),
   fun _ v _ => v = .pointer (some ⟨fb, fo + k * 7 + 5, none⟩),
   fun _ v _ => v = .int .i64 x.sw,
   fun _ v _ => v = .pointer (some ⟨sb, so + x.sw.toNat * 7, none⟩),
   fun _ v _ => v = .agg #[.int .i64 sw.epoch, .int .i64 sw.seen, .bool sw.op, .int .i64 sw.stamp, .int .i64 sw.bad, .slice V sw.vs.length cV, .int .i64 sw.junk],
   fun _ v _ => v = .slice (some ⟨fb, fo, none⟩) n fc,
   fun _ v _ => v = .int .i64 k,
   fun _ v _ => v = .pointer (some ⟨fb, fo + k * 7, none⟩),
   fun _ v _ => v = .agg #[.int .i64 x.id, .int .i64 x.src, .int .i64 x.dst, .int .i64 x.ttl, .int .i64 x.tag, .int .i64 x.sw, .int .i64 x.inn],
   fun _ v _ => v = .int .i64 tick,
   fun _ v _ => v = .tuple #[.agg #[.int .i64 h.tick, .int .i64 h.id, .int .i64 h.sw, .int .i64 h.inn, .int .i64 h.tag, .int .i64 h.what, .int .i64 h.out], .agg #[.int .i64 g.id, .int .i64 g.src, .int .i64 g.dst, .int .i64 g.ttl, .int .i64 g.tag, .int .i64 g.sw, .int .i64 g.inn]],
   fun _ v _ => v = .tuple #[.agg #[.int .i64 h.tick, .int .i64 h.id, .int .i64 h.sw, .int .i64 h.inn, .int .i64 h.tag, .int .i64 h.what, .int .i64 h.out], .agg #[.int .i64 g.id, .int .i64 g.src, .int .i64 g.dst, .int .i64 g.ttl, .int .i64 g.tag, .int .i64 g.sw, .int .i64 g.inn]],
   fun _ v _ => v = .agg #[.int .i64 h.tick, .int .i64 h.id, .int .i64 h.sw, .int .i64 h.inn, .int .i64 h.tag, .int .i64 h.what, .int .i64 h.out],
   fun _ v _ => v = .agg #[.int .i64 g.id, .int .i64 g.src, .int .i64 g.dst, .int .i64 g.ttl, .int .i64 g.tag, .int .i64 g.sw, .int .i64 g.inn],
   fun _ v w' => ∃ q c0 c1 c2 c3 c4 c5 c6, v = .pointer (some ⟨q, 0, none⟩) ∧ wr.heap.size ≤ q ∧ w'.heap[q]? = some (.cells #[c0, c1, c2, c3, c4, c5, c6] 40),
   fun _ v w' => ∃ q c0 c1 c2 c3 c4 c5 c6, v = .pointer (some ⟨q, 0, none⟩) ∧ wr.heap.size ≤ q ∧ w'.heap[q]? = some (.cells #[c0, c1, c2, c3, c4, c5, c6] 38),
   fun u _ w' => ∃ q, u = .pointer (some ⟨q, 0, none⟩) ∧ w'.heap[q]? = some (.cells #[.int .i64 h.tick, .int .i64 h.id, .int .i64 h.sw, .int .i64 h.inn, .int .i64 h.tag, .int .i64 h.what, .int .i64 h.out] 40),
   fun u _ w' => ∃ q, u = .pointer (some ⟨q, 0, none⟩) ∧ w'.heap[q]? = some (.cells #[.int .i64 g.id, .int .i64 g.src, .int .i64 g.dst, .int .i64 g.ttl, .int .i64 g.tag, .int .i64 g.sw, .int .i64 g.inn] 38)]
def rstQ : Nat → Nat := fun i => if i = 20 then 18 else if i = 21 then 19 else i
theorem rstF_stay (s p : Int) (A : Option Addr) (c : Nat) (ls : List Lnk) (m sb so sc n fb fo fc k : Nat) (x : Fly) (sw : Swt) (V : Option Addr) (cV : Nat) (tick : Int) (h : Hop) (g : Fly) (tb : Nat) (wr : World) : AllStay (rstF s p A c ls m sb so sc n fb fo fc k x sw V cV tick h g tb wr) := by
  intro F hF u v w' w'' hb h
  simp only [rstF, List.mem_cons, List.not_mem_nil, or_false] at hF
  rcases hF with rfl | rfl | rfl | rfl | rfl | rfl | rfl | rfl | rfl | rfl | rfl | rfl | rfl | rfl | rfl | rfl | rfl | rfl | rfl | rfl | rfl | rfl
  · exact h
  · exact h
  · exact h
  · exact h
  · exact h
  · exact h
  · exact h
  · exact h
  · exact h
  · exact h
  · exact h
  · exact h
  · exact h
  · exact h
  · exact h
  · exact h
  · exact h
  · exact h
  · obtain ⟨q, c0, c1, c2, c3, c4, c5, c6, e, h1, h2⟩ := h
    exact ⟨q, c0, c1, c2, c3, c4, c5, c6, e, h1, blk_keep h2 hb⟩
  · obtain ⟨q, c0, c1, c2, c3, c4, c5, c6, e, h1, h2⟩ := h
    exact ⟨q, c0, c1, c2, c3, c4, c5, c6, e, h1, blk_keep h2 hb⟩
  · obtain ⟨q, e, h1⟩ := h
    exact ⟨q, e, blk_keep h1 hb⟩
  · obtain ⟨q, e, h1⟩ := h
    exact ⟨q, e, blk_keep h1 hb⟩
theorem rstB_stay (s p : Int) (A : Option Addr) (c : Nat) (ls : List Lnk) (m sb so sc n fb fo fc k : Nat) (x : Fly) (sw : Swt) (V : Option Addr) (cV : Nat) (tick : Int) (h : Hop) (g : Fly) (tb : Nat) (wr : World) : Stays (rstB s p A c ls m sb so sc n fb fo fc k x sw V cV tick h g tb wr) := by
  intro w' w'' hb h
  exact below_call h hb
theorem rst_keep (s p : Int) (A : Option Addr) (c : Nat) (ls : List Lnk) (m sb so sc n fb fo fc k : Nat) (x : Fly) (sw : Swt) (V : Option Addr) (cV : Nat) (tick : Int) (h : Hop) (g : Fly) (tb : Nat) (wr : World) {j : Nat} {vs : Nat → Value} {w' w'' : World} (hj : j ≠ 18 ∧ j ≠ 19 ∧ j ≠ 20 ∧ j ≠ 21)
    (hF : Fof rstQ (rstF s p A c ls m sb so sc n fb fo fc k x sw V cV tick h g tb wr) j vs w') : Fof rstQ (rstF s p A c ls m sb so sc n fb fo fc k x sw V cV tick h g tb wr) j vs w'' := by
  unfold Fof at *
  match j, hj with
  | 0, _ | 1, _ | 2, _ | 3, _ | 4, _ | 5, _ | 6, _ | 7, _ | 8, _ | 9, _ | 10, _ | 11, _ | 12, _ | 13, _ | 14, _ | 15, _ | 16, _ | 17, _ => exact hF
  | 18, hj => exact absurd rfl hj.1
  | 19, hj => exact absurd rfl hj.2.1
  | 20, hj => exact absurd rfl hj.2.2.1
  | 21, hj => exact absurd rfl hj.2.2.2
  | j + 22, _ => trivial

set_option maxHeartbeats 4000000 in
theorem linksR_any (s p : Int) (A : Option Addr) (c : Nat) (ls : List Lnk) (sws : List Swt) (SA : Option Addr) (sc : Nat) (fs : List Fly) (FA : Option Addr) (fc : Nat) (tick : Int) (w : World) (hl : Rd lnkD w A ls.length ls) (hs : Rd swD w SA sws.length sws) (hf : Rd fliesD w FA fs.length fs) (hz : ∀ x ∈ sws, ∀ v ∈ x.vs, v.l.length * 48 ≤ 140737488355328) (ht : ∀ x ∈ fs, Fit x.ttl) (hn : fs.length ≤ 1000) :
    Calls Try.prog 10 #[.agg #[.int .i64 s, .int .i64 p, .slice A ls.length c], .slice SA sws.length sc, .slice FA fs.length fc, .int .i64 tick] w fun e w' => ∃ v u, e = .returned (.tuple #[v, u]) ∧ Own flyF w' w.heap.size 38 v (linksP s p ls sws fs tick).1 ∧ Own hopF w' w.heap.size 40 u (linksP s p ls sws fs tick).2 ∧ Below w.heap.size w w' := by
  have HL := Aside.mk hl
  have HS := Aside.mk hs
  have HF := Aside.mk hf
  have HZ := Aside.mk hz
  have HT := Aside.mk ht
  have hms := hs.max
  have hmf := hf.max
  clear hl hs hf hz ht
  go_enter Try.func10, Try.ntmps10
  go_wp2
  go_loopw [10, 11, 12] (fun nv hv i wr => ∃ k : Nat, k ≤ fs.length ∧ i = .int .i64 k ∧ Own flyF wr w.heap.size 38 nv (linksP s p ls sws (fs.take k) tick).1 ∧ Own hopF wr w.heap.size 40 hv (linksP s p ls sws (fs.take k) tick).2 ∧ Below w.heap.size w wr ∧ wr.heap[w.heap.size]? = some (.cells #[.int .i64 s, .int .i64 p, .slice A ls.length c] 24)) (fun _ _ i _ => fs.length - (intOf i).toNat)
  case atStart => exact ⟨0, Nat.zero_le _, rfl, Own.nil _ _ _ _, Own.nil _ _ _ _, below_alloc (Below.refl _ _) _, heap_at _ _ _ ▸ if_pos rfl⟩
  case round =>
    obtain ⟨k, hk, rfl, hnx, hho, hb, hx⟩ := hrel
    have KN := Aside.mk hnx
    have KH := Aside.mk hho
    have KB := Aside.mk hb
    have KX := Aside.mk hx
    have htb := blk_lt hx
    have c0 := blk_cell hx 0
    have c1 := blk_cell hx 1
    have c2 := blk_cell hx 2
    simp at c0 c1 c2
    clear hnx hho hb hx
    by_cases hlt : k < fs.length
    · have hsn := Aside.mk (show linksP s p ls sws (fs.take (k + 1)) tick = linkStep s p ls sws tick (linksP s p ls sws (fs.take k) tick) fs[k] by rw [List.take_succ_eq_append_getElem hlt, linksP_snoc])
      obtain ⟨fb, fo, _, rfl, -⟩ := Row.at HF.out k hlt
      obtain ⟨hfb0, q0, q1, q2, q3, q4, q5, q6⟩ := fly_cells HF.out KB.out hlt
      have hfb := Nat.lt_of_lt_of_le hfb0 KB.out.size
      have HFx := Aside.mk (HT.out fs[k] (List.getElem_mem hlt))
      generalize fs[k] = x at *
      by_cases hx0 : x.sw < 0
      · have hat : swAt sws x.sw = none := by unfold swAt; rw [if_pos hx0]
        have HST := Aside.mk (show linkStep s p ls sws tick (linksP s p ls sws (fs.take k) tick) x = linksP s p ls sws (fs.take k) tick by unfold linkStep; rw [hat])
        have d0 : decide (x.sw < 0) = true := decide_eq_true hx0
        clear hat
        go_wp2
        exact ⟨⟨k + 1, by omega, by go_num, by rw [hsn.out, HST.out]; exact KN.out, by rw [hsn.out, HST.out]; exact KH.out, KB.out, KX.out⟩, by simp [intOf]; omega⟩
      · have d0 : decide (x.sw < 0) = false := decide_eq_false hx0
        by_cases hx1 : (sws.length : Int) ≤ x.sw
        · have hat : swAt sws x.sw = none := by unfold swAt; rw [if_neg hx0, List.getElem?_eq_none (by omega)]
          have HST := Aside.mk (show linkStep s p ls sws tick (linksP s p ls sws (fs.take k) tick) x = linksP s p ls sws (fs.take k) tick by unfold linkStep; rw [hat])
          have d1 : decide ((sws.length : Int) ≤ x.sw) = true := decide_eq_true hx1
          clear hat
          go_wp2
          exact ⟨⟨k + 1, by omega, by go_num, by rw [hsn.out, HST.out]; exact KN.out, by rw [hsn.out, HST.out]; exact KH.out, KB.out, KX.out⟩, by simp [intOf]; omega⟩
        · have d1 : decide ((sws.length : Int) ≤ x.sw) = false := decide_eq_false hx1
          have hj : x.sw.toNat < sws.length := by omega
          have hat : swAt sws x.sw = some sws[x.sw.toNat] := by unfold swAt; rw [if_neg hx0, List.getElem?_eq_getElem hj]
          obtain ⟨sb, so, V, cV, rfl, hsb0, ⟨s0, s1, s2, s3, s4, s5, s6⟩, -, -, hv⟩ := sw_cells HS.out KB.out hj
          have hsb := Nat.lt_of_lt_of_le hsb0 KB.out.size
          have HZx := Aside.mk (HZ.out sws[x.sw.toNat] (List.getElem_mem hj))
          have HVr := Aside.mk (hv.below KB.out)
          have HLr := Aside.mk (HL.out.below KB.out)
          generalize sws[x.sw.toNat] = sw at *
          obtain ⟨h, g, hhg⟩ : ∃ h g, pipeP s p ls sw x tick = (h, g) := ⟨_, _, rfl⟩
          have HPx := Aside.mk hhg
          have T0 := Aside.mk c0
          have T1 := Aside.mk c1
          have T2 := Aside.mk c2
          have F0 := Aside.mk q0
          have F1 := Aside.mk q1
          have F2 := Aside.mk q2
          have F3 := Aside.mk q3
          have F4 := Aside.mk q4
          have F5 := Aside.mk q5
          have F6 := Aside.mk q6
          have S0 := Aside.mk s0
          have S1 := Aside.mk s1
          have S2 := Aside.mk s2
          have S3 := Aside.mk s3
          have S4 := Aside.mk s4
          have S5 := Aside.mk s5
          have S6 := Aside.mk s6
          have HAT := Aside.mk hat
          clear hhg hv hat
          go_wp2
          refine wp_region_facts (Base := rstB s p A c ls sws.length sb so sc fs.length fb fo fc k x sw V cV tick h g w.heap.size wr) (q := rstQ) (Fs := rstF s p A c ls sws.length sb so sc fs.length fb fo fc k x sw V cV tick h g w.heap.size wr) (by kernel_rfl) (by kernel_rfl) (by kernel_rfl) (by kernel_rfl) (below_drew (Below.refl _ _)) ?_ ?_
          · clear c0 c1 c2 q0 q1 q2 q3 q4 q5 q6 s0 s1 s2 s3 s4 s5 s6
            have hBs := rstB_stay s p A c ls sws.length sb so sc fs.length fb fo fc k x sw V cV tick h g w.heap.size wr
            have hFs := rstF_stay s p A c ls sws.length sb so sc fs.length fb fo fc k x sw V cV tick h g w.heap.size wr
            refine ⟨?_, ?_, ?_, ?_, ?_, ?_, ?_, ?_, ?_, ?_, ?_, ?_, ?_, ?_, ?_, ?_, ?_, ?_, ?_, ?_, ?_, ?_, trivial⟩
            · refine step_pure hBs hFs rfl fun a' w' hB hag hp => ?_
              have h4 := hag 4 (by kernel_rfl)
              have hB : Below wr.heap.size wr w' := hB; have hc0 := (hB.cell (p := ⟨w.heap.size, 0, none⟩) htb).trans T0.out; have hc1 := (hB.cell (p := ⟨w.heap.size, 1, none⟩) htb).trans T1.out; have hc2 := (hB.cell (p := ⟨w.heap.size, 2, none⟩) htb).trans T2.out; have hf0 := (hB.cell (p := ⟨fb, fo + k * 7, none⟩) hfb).trans F0.out; have hf1 := (hB.cell (p := ⟨fb, fo + k * 7 + 1, none⟩) hfb).trans F1.out; have hf2 := (hB.cell (p := ⟨fb, fo + k * 7 + 2, none⟩) hfb).trans F2.out; have hf3 := (hB.cell (p := ⟨fb, fo + k * 7 + 3, none⟩) hfb).trans F3.out; have hf4 := (hB.cell (p := ⟨fb, fo + k * 7 + 4, none⟩) hfb).trans F4.out; have hf5 := (hB.cell (p := ⟨fb, fo + k * 7 + 5, none⟩) hfb).trans F5.out; have hf6 := (hB.cell (p := ⟨fb, fo + k * 7 + 6, none⟩) hfb).trans F6.out; have hs0 := (hB.cell (p := ⟨sb, so + x.sw.toNat * 7, none⟩) hsb).trans S0.out; have hs1 := (hB.cell (p := ⟨sb, so + x.sw.toNat * 7 + 1, none⟩) hsb).trans S1.out; have hs2 := (hB.cell (p := ⟨sb, so + x.sw.toNat * 7 + 2, none⟩) hsb).trans S2.out; have hs3 := (hB.cell (p := ⟨sb, so + x.sw.toNat * 7 + 3, none⟩) hsb).trans S3.out; have hs4 := (hB.cell (p := ⟨sb, so + x.sw.toNat * 7 + 4, none⟩) hsb).trans S4.out; have hs5 := (hB.cell (p := ⟨sb, so + x.sw.toNat * 7 + 5, none⟩) hsb).trans S5.out; have hs6 := (hB.cell (p := ⟨sb, so + x.sw.toNat * 7 + 6, none⟩) hsb).trans S6.out
              simp at h4
              unfold OpYields
              go_simp
              exact ⟨Below.refl _ _, rfl⟩
            · refine step_pure hBs hFs rfl fun a' w' hB hag hp => ?_
              have h1 := hag 1 (by kernel_rfl)
              simp at h1
              unfold OpYields
              go_simp
              exact ⟨Below.refl _ _, rfl⟩
            · refine step_pure hBs hFs rfl fun a' w' hB hag hp => ?_
              have h2 := hag 2 (by kernel_rfl)
              simp at h2
              unfold OpYields
              go_simp
              exact ⟨Below.refl _ _, rfl⟩
            · refine step_pure hBs hFs rfl fun a' w' hB hag hp => ?_
              have h12 := hag 12 (by kernel_rfl)
              simp at h12
              unfold OpYields
              go_simp
              exact ⟨Below.refl _ _, rfl⟩
            · refine step_pure hBs hFs rfl fun a' w' hB hag hp => ?_
              have h40 : a'.tmps.getD 40 undef = _ := hp 2 (by kernel_rfl)
              have h41 : a'.tmps.getD 41 undef = _ := hp 3 (by kernel_rfl)
              simp at h40 h41
              unfold OpYields
              go_simp
              exact ⟨Below.refl _ _, rfl⟩
            · refine step_pure hBs hFs rfl fun a' w' hB hag hp => ?_
              have h42 : a'.tmps.getD 42 undef = _ := hp 4 (by kernel_rfl)
              simp at h42
              unfold OpYields
              go_simp
              exact ⟨Below.refl _ _, rfl⟩
            · refine step_pure hBs hFs rfl fun a' w' hB hag hp => ?_
              have h43 : a'.tmps.getD 43 undef = _ := hp 5 (by kernel_rfl)
              have hB : Below wr.heap.size wr w' := hB; have hc0 := (hB.cell (p := ⟨w.heap.size, 0, none⟩) htb).trans T0.out; have hc1 := (hB.cell (p := ⟨w.heap.size, 1, none⟩) htb).trans T1.out; have hc2 := (hB.cell (p := ⟨w.heap.size, 2, none⟩) htb).trans T2.out; have hf0 := (hB.cell (p := ⟨fb, fo + k * 7, none⟩) hfb).trans F0.out; have hf1 := (hB.cell (p := ⟨fb, fo + k * 7 + 1, none⟩) hfb).trans F1.out; have hf2 := (hB.cell (p := ⟨fb, fo + k * 7 + 2, none⟩) hfb).trans F2.out; have hf3 := (hB.cell (p := ⟨fb, fo + k * 7 + 3, none⟩) hfb).trans F3.out; have hf4 := (hB.cell (p := ⟨fb, fo + k * 7 + 4, none⟩) hfb).trans F4.out; have hf5 := (hB.cell (p := ⟨fb, fo + k * 7 + 5, none⟩) hfb).trans F5.out; have hf6 := (hB.cell (p := ⟨fb, fo + k * 7 + 6, none⟩) hfb).trans F6.out; have hs0 := (hB.cell (p := ⟨sb, so + x.sw.toNat * 7, none⟩) hsb).trans S0.out; have hs1 := (hB.cell (p := ⟨sb, so + x.sw.toNat * 7 + 1, none⟩) hsb).trans S1.out; have hs2 := (hB.cell (p := ⟨sb, so + x.sw.toNat * 7 + 2, none⟩) hsb).trans S2.out; have hs3 := (hB.cell (p := ⟨sb, so + x.sw.toNat * 7 + 3, none⟩) hsb).trans S3.out; have hs4 := (hB.cell (p := ⟨sb, so + x.sw.toNat * 7 + 4, none⟩) hsb).trans S4.out; have hs5 := (hB.cell (p := ⟨sb, so + x.sw.toNat * 7 + 5, none⟩) hsb).trans S5.out; have hs6 := (hB.cell (p := ⟨sb, so + x.sw.toNat * 7 + 6, none⟩) hsb).trans S6.out
              simp at h43
              unfold OpYields
              go_simp
              exact ⟨Below.refl _ _, rfl⟩
            · refine step_pure hBs hFs rfl fun a' w' hB hag hp => ?_
              have h39 : a'.tmps.getD 39 undef = _ := hp 1 (by kernel_rfl)
              have h44 : a'.tmps.getD 44 undef = _ := hp 6 (by kernel_rfl)
              simp at h39 h44
              unfold OpYields
              go_simp
              exact ⟨Below.refl _ _, rfl⟩
            · refine step_pure hBs hFs rfl fun a' w' hB hag hp => ?_
              have h45 : a'.tmps.getD 45 undef = _ := hp 7 (by kernel_rfl)
              have hB : Below wr.heap.size wr w' := hB; have hc0 := (hB.cell (p := ⟨w.heap.size, 0, none⟩) htb).trans T0.out; have hc1 := (hB.cell (p := ⟨w.heap.size, 1, none⟩) htb).trans T1.out; have hc2 := (hB.cell (p := ⟨w.heap.size, 2, none⟩) htb).trans T2.out; have hf0 := (hB.cell (p := ⟨fb, fo + k * 7, none⟩) hfb).trans F0.out; have hf1 := (hB.cell (p := ⟨fb, fo + k * 7 + 1, none⟩) hfb).trans F1.out; have hf2 := (hB.cell (p := ⟨fb, fo + k * 7 + 2, none⟩) hfb).trans F2.out; have hf3 := (hB.cell (p := ⟨fb, fo + k * 7 + 3, none⟩) hfb).trans F3.out; have hf4 := (hB.cell (p := ⟨fb, fo + k * 7 + 4, none⟩) hfb).trans F4.out; have hf5 := (hB.cell (p := ⟨fb, fo + k * 7 + 5, none⟩) hfb).trans F5.out; have hf6 := (hB.cell (p := ⟨fb, fo + k * 7 + 6, none⟩) hfb).trans F6.out; have hs0 := (hB.cell (p := ⟨sb, so + x.sw.toNat * 7, none⟩) hsb).trans S0.out; have hs1 := (hB.cell (p := ⟨sb, so + x.sw.toNat * 7 + 1, none⟩) hsb).trans S1.out; have hs2 := (hB.cell (p := ⟨sb, so + x.sw.toNat * 7 + 2, none⟩) hsb).trans S2.out; have hs3 := (hB.cell (p := ⟨sb, so + x.sw.toNat * 7 + 3, none⟩) hsb).trans S3.out; have hs4 := (hB.cell (p := ⟨sb, so + x.sw.toNat * 7 + 4, none⟩) hsb).trans S4.out; have hs5 := (hB.cell (p := ⟨sb, so + x.sw.toNat * 7 + 5, none⟩) hsb).trans S5.out; have hs6 := (hB.cell (p := ⟨sb, so + x.sw.toNat * 7 + 6, none⟩) hsb).trans S6.out
              simp at h45
              unfold OpYields
              go_simp
              exact ⟨Below.refl _ _, rfl⟩
            · refine step_pure hBs hFs rfl fun a' w' hB hag hp => ?_
              have h2 := hag 2 (by kernel_rfl)
              simp at h2
              unfold OpYields
              go_simp
              exact ⟨Below.refl _ _, rfl⟩
            · refine step_pure hBs hFs rfl fun a' w' hB hag hp => ?_
              have h12 := hag 12 (by kernel_rfl)
              simp at h12
              unfold OpYields
              go_simp
              exact ⟨Below.refl _ _, rfl⟩
            · refine step_pure hBs hFs rfl fun a' w' hB hag hp => ?_
              have h47 : a'.tmps.getD 47 undef = _ := hp 9 (by kernel_rfl)
              have h48 : a'.tmps.getD 48 undef = _ := hp 10 (by kernel_rfl)
              simp at h47 h48
              unfold OpYields
              go_simp
              exact ⟨Below.refl _ _, rfl⟩
            · refine step_pure hBs hFs rfl fun a' w' hB hag hp => ?_
              have h49 : a'.tmps.getD 49 undef = _ := hp 11 (by kernel_rfl)
              have hB : Below wr.heap.size wr w' := hB; have hc0 := (hB.cell (p := ⟨w.heap.size, 0, none⟩) htb).trans T0.out; have hc1 := (hB.cell (p := ⟨w.heap.size, 1, none⟩) htb).trans T1.out; have hc2 := (hB.cell (p := ⟨w.heap.size, 2, none⟩) htb).trans T2.out; have hf0 := (hB.cell (p := ⟨fb, fo + k * 7, none⟩) hfb).trans F0.out; have hf1 := (hB.cell (p := ⟨fb, fo + k * 7 + 1, none⟩) hfb).trans F1.out; have hf2 := (hB.cell (p := ⟨fb, fo + k * 7 + 2, none⟩) hfb).trans F2.out; have hf3 := (hB.cell (p := ⟨fb, fo + k * 7 + 3, none⟩) hfb).trans F3.out; have hf4 := (hB.cell (p := ⟨fb, fo + k * 7 + 4, none⟩) hfb).trans F4.out; have hf5 := (hB.cell (p := ⟨fb, fo + k * 7 + 5, none⟩) hfb).trans F5.out; have hf6 := (hB.cell (p := ⟨fb, fo + k * 7 + 6, none⟩) hfb).trans F6.out; have hs0 := (hB.cell (p := ⟨sb, so + x.sw.toNat * 7, none⟩) hsb).trans S0.out; have hs1 := (hB.cell (p := ⟨sb, so + x.sw.toNat * 7 + 1, none⟩) hsb).trans S1.out; have hs2 := (hB.cell (p := ⟨sb, so + x.sw.toNat * 7 + 2, none⟩) hsb).trans S2.out; have hs3 := (hB.cell (p := ⟨sb, so + x.sw.toNat * 7 + 3, none⟩) hsb).trans S3.out; have hs4 := (hB.cell (p := ⟨sb, so + x.sw.toNat * 7 + 4, none⟩) hsb).trans S4.out; have hs5 := (hB.cell (p := ⟨sb, so + x.sw.toNat * 7 + 5, none⟩) hsb).trans S5.out; have hs6 := (hB.cell (p := ⟨sb, so + x.sw.toNat * 7 + 6, none⟩) hsb).trans S6.out
              simp at h49
              unfold OpYields
              go_simp
              exact ⟨Below.refl _ _, rfl⟩
            · refine step_pure hBs hFs rfl fun a' w' hB hag hp => ?_
              have h3 := hag 3 (by kernel_rfl)
              simp at h3
              unfold OpYields
              go_simp
              exact ⟨Below.refl _ _, rfl⟩
            · refine step_pure hBs hFs rfl fun a' w' hB hag hp => ?_
              have h38 : a'.tmps.getD 38 undef = _ := hp 0 (by kernel_rfl)
              have h46 : a'.tmps.getD 46 undef = _ := hp 8 (by kernel_rfl)
              have h50 : a'.tmps.getD 50 undef = _ := hp 12 (by kernel_rfl)
              have h51 : a'.tmps.getD 51 undef = _ := hp 13 (by kernel_rfl)
              simp at h38 h46 h50 h51
              have hB' : Below wr.heap.size wr w' := hB
              unfold OpYields
              go_simp
              refine (pipeR_any s p A c ls sw V cV x tick w' (HLr.out.below hB') (HVr.out.below hB') HZx.out HFx.out).mono ?_
              rw [HPx.out]
              dsimp only
              rintro e w1 ⟨rfl, hb⟩
              exact ⟨_, rfl, hb, rfl⟩
            · refine step_pure hBs hFs rfl fun a' w' hB hag hp => ?_
              have h52 : a'.tmps.getD 52 undef = _ := hp 14 (by kernel_rfl)
              simp at h52
              unfold OpYields
              go_simp
              exact ⟨Below.refl _ _, rfl⟩
            · refine step_pure hBs hFs rfl fun a' w' hB hag hp => ?_
              have h37 : a'.tmps.getD 37 undef = _ := hp 15 (by kernel_rfl)
              simp at h37
              unfold OpYields
              go_simp
              exact ⟨Below.refl _ _, rfl⟩
            · refine step_pure hBs hFs rfl fun a' w' hB hag hp => ?_
              have h37 : a'.tmps.getD 37 undef = _ := hp 15 (by kernel_rfl)
              simp at h37
              unfold OpYields
              go_simp
              exact ⟨Below.refl _ _, rfl⟩
            · refine step_pure hBs hFs rfl fun a' w' hB hag hp => ?_
              unfold OpYields
              go_simp
              exact ⟨(Below.refl _ _).alloc (Nat.le_refl _) _, _, _, _, _, _, _, _, _, rfl, hB.size, by rw [heap_at, if_pos rfl]⟩
            · refine step_pure hBs hFs rfl fun a' w' hB hag hp => ?_
              unfold OpYields
              go_simp
              exact ⟨(Below.refl _ _).alloc (Nat.le_refl _) _, _, _, _, _, _, _, _, _, rfl, hB.size, by rw [heap_at, if_pos rfl]⟩
            · intro a' w' hB hag hp
              rw [if_pos (by kernel_rfl)]
              obtain ⟨q, c0, c1, c2, c3, c4, c5, c6, h1, h2, h3⟩ : ∃ q c0 c1 c2 c3 c4 c5 c6, a'.tmps.getD 13 undef = .pointer (some ⟨q, 0, none⟩) ∧ wr.heap.size ≤ q ∧ w'.heap[q]? = some (.cells #[c0, c1, c2, c3, c4, c5, c6] 40) := hp 18 (by kernel_rfl)
              have h5 : a'.tmps.getD 53 undef = _ := hp 16 (by kernel_rfl)
              have h1' := h1
              simp at h1 h5
              have k0 := blk_cell h3 0
              have k1 := blk_cell h3 1
              have k2 := blk_cell h3 2
              have k3 := blk_cell h3 3
              have k4 := blk_cell h3 4
              have k5 := blk_cell h3 5
              have k6 := blk_cell h3 6
              have kf := fun i => blk_frozen h3 i
              simp at k0 k1 k2 k3 k4 k5 k6
              unfold OpYields
              go_simp
              obtain ⟨e1, hf⟩ := fill7 h3 (.int .i64 h.tick) (.int .i64 h.id) (.int .i64 h.sw) (.int .i64 h.inn) (.int .i64 h.tag) (.int .i64 h.what) (.int .i64 h.out)
              refine ⟨?_, ⟨q, h1', e1⟩, ?_⟩
              · exact below_set (below_set (below_set (below_set (below_set (below_set (below_set hB h2 _) h2 _) h2 _) h2 _) h2 _) h2 _) h2 _
              intro j vs hj hF
              by_cases hj1 : j = 18
              · subst hj1
                obtain ⟨q1, d0, d1, d2, d3, d4, d5, d6, e, e1', e2⟩ : ∃ q c0 c1 c2 c3 c4 c5 c6, vs 18 = .pointer (some ⟨q, 0, none⟩) ∧ wr.heap.size ≤ q ∧ w'.heap[q]? = some (.cells #[c0, c1, c2, c3, c4, c5, c6] 40) := hF
                by_cases hbb : q1 = q
                · subst hbb
                  exact ⟨q1, _, _, _, _, _, _, _, e, e1', e1⟩
                · exact ⟨q1, _, _, _, _, _, _, _, e, e1', hf _ _ hbb e2⟩
              by_cases hj2 : j = 19
              · subst hj2
                obtain ⟨q1, d0, d1, d2, d3, d4, d5, d6, e, e1', e2⟩ : ∃ q c0 c1 c2 c3 c4 c5 c6, vs 19 = .pointer (some ⟨q, 0, none⟩) ∧ wr.heap.size ≤ q ∧ w'.heap[q]? = some (.cells #[c0, c1, c2, c3, c4, c5, c6] 38) := hF
                have hne : q1 ≠ q := fun hh => by rw [hh, h3] at e2; cases e2
                exact ⟨q1, _, _, _, _, _, _, _, e, e1', hf _ _ hne e2⟩
              by_cases hj3 : j = 21
              · subst hj3
                obtain ⟨q1, e, e2⟩ : ∃ q, vs 19 = .pointer (some ⟨q, 0, none⟩) ∧ w'.heap[q]? = some (.cells #[.int .i64 g.id, .int .i64 g.src, .int .i64 g.dst, .int .i64 g.ttl, .int .i64 g.tag, .int .i64 g.sw, .int .i64 g.inn] 38) := hF
                have hne : q1 ≠ q := fun hh => by rw [hh, h3] at e2; cases e2
                exact ⟨q1, e, hf _ _ hne e2⟩
              exact rst_keep _ _ _ _ _ _ _ _ _ _ _ _ _ _ _ _ _ _ _ _ _ _ _ (by omega) hF
            · intro a' w' hB hag hp
              rw [if_pos (by kernel_rfl)]
              obtain ⟨q, c0, c1, c2, c3, c4, c5, c6, h1, h2, h3⟩ : ∃ q c0 c1 c2 c3 c4 c5 c6, a'.tmps.getD 14 undef = .pointer (some ⟨q, 0, none⟩) ∧ wr.heap.size ≤ q ∧ w'.heap[q]? = some (.cells #[c0, c1, c2, c3, c4, c5, c6] 38) := hp 19 (by kernel_rfl)
              have h5 : a'.tmps.getD 54 undef = _ := hp 17 (by kernel_rfl)
              have h1' := h1
              simp at h1 h5
              have k0 := blk_cell h3 0
              have k1 := blk_cell h3 1
              have k2 := blk_cell h3 2
              have k3 := blk_cell h3 3
              have k4 := blk_cell h3 4
              have k5 := blk_cell h3 5
              have k6 := blk_cell h3 6
              have kf := fun i => blk_frozen h3 i
              simp at k0 k1 k2 k3 k4 k5 k6
              unfold OpYields
              go_simp
              obtain ⟨e1, hf⟩ := fill7 h3 (.int .i64 g.id) (.int .i64 g.src) (.int .i64 g.dst) (.int .i64 g.ttl) (.int .i64 g.tag) (.int .i64 g.sw) (.int .i64 g.inn)
              refine ⟨?_, ⟨q, h1', e1⟩, ?_⟩
              · exact below_set (below_set (below_set (below_set (below_set (below_set (below_set hB h2 _) h2 _) h2 _) h2 _) h2 _) h2 _) h2 _
              intro j vs hj hF
              by_cases hj1 : j = 19
              · subst hj1
                obtain ⟨q1, d0, d1, d2, d3, d4, d5, d6, e, e1', e2⟩ : ∃ q c0 c1 c2 c3 c4 c5 c6, vs 19 = .pointer (some ⟨q, 0, none⟩) ∧ wr.heap.size ≤ q ∧ w'.heap[q]? = some (.cells #[c0, c1, c2, c3, c4, c5, c6] 38) := hF
                by_cases hbb : q1 = q
                · subst hbb
                  exact ⟨q1, _, _, _, _, _, _, _, e, e1', e1⟩
                · exact ⟨q1, _, _, _, _, _, _, _, e, e1', hf _ _ hbb e2⟩
              by_cases hj2 : j = 18
              · subst hj2
                obtain ⟨q1, d0, d1, d2, d3, d4, d5, d6, e, e1', e2⟩ : ∃ q c0 c1 c2 c3 c4 c5 c6, vs 18 = .pointer (some ⟨q, 0, none⟩) ∧ wr.heap.size ≤ q ∧ w'.heap[q]? = some (.cells #[c0, c1, c2, c3, c4, c5, c6] 40) := hF
                have hne : q1 ≠ q := fun hh => by rw [hh, h3] at e2; cases e2
                exact ⟨q1, _, _, _, _, _, _, _, e, e1', hf _ _ hne e2⟩
              by_cases hj3 : j = 20
              · subst hj3
                obtain ⟨q1, e, e2⟩ : ∃ q, vs 18 = .pointer (some ⟨q, 0, none⟩) ∧ w'.heap[q]? = some (.cells #[.int .i64 h.tick, .int .i64 h.id, .int .i64 h.sw, .int .i64 h.inn, .int .i64 h.tag, .int .i64 h.what, .int .i64 h.out] 40) := hF
                have hne : q1 ≠ q := fun hh => by rw [hh, h3] at e2; cases e2
                exact ⟨q1, e, hf _ _ hne e2⟩
              exact rst_keep _ _ _ _ _ _ _ _ _ _ _ _ _ _ _ _ _ _ _ _ _ _ _ (by omega) hF
          intro vs w' hB hF
          simp only [AllF, forall_const, reduceCtorEq, false_implies, Fof, rstF, rstQ, Nat.zero_add, Nat.reduceAdd, Nat.reduceEqDiff, if_true, if_false, List.getD_cons_succ, List.getD_cons_zero] at hF
          obtain ⟨f0, f1, f2, f3, f4, f5, f6, f7, f8, f9, f10, f11, f12, f13, f14, f15, f16, f17, ⟨q13, u0, u1, u2, u3, u4, u5, u6, f18, hq13, hb13⟩, ⟨q14, t0, t1, t2, t3, t4, t5, t6, f19, hq14, hb14⟩, ⟨q20, f20, hb20⟩, ⟨q21, f21, hb21⟩, -⟩ := hF
          simp only [putAll, Act.put, Nat.zero_add, Nat.reduceAdd, f0, f1, f2, f3, f4, f5, f6, f7, f8, f9, f10, f11, f12, f13, f14, f15, f16, f17, f18, f19, f20, f21, List.setIfInBounds_toArray, List.set_cons_zero, List.set_cons_succ]
          obtain rfl : q20 = q13 := by
            rw [f18] at f20
            injection f20 with f20
            injection f20 with f20
            injection f20 with f20
            exact f20.symm
          obtain rfl : q21 = q14 := by
            rw [f19] at f21
            injection f21 with f21
            injection f21 with f21
            injection f21 with f21
            exact f21.symm
          have hB' : Below wr.heap.size wr w' := hB
          have hlen := linksP_len (s := s) (p := p) (ls := ls) (sws := sws) (tick := tick) (fs.take k)
          rw [List.length_take] at hlen
          have KHL := Aside.mk (fun b (e : _ = some b) => (KH.out.lt b e).2)
          have KNL := Aside.mk (fun b (e : _ = some b) => (KN.out.lt b e).2)
          have KN := Aside.mk (KN.out.below hB')
          have KH := Aside.mk (KH.out.below hB')
          have KB := Aside.mk (below_call KB.out hB')
          have KX := Aside.mk (blk_keep KX.out hB')
          have HH := Aside.mk hb20
          have HG := Aside.mk hb21
          have hwsz := hB'.size
          obtain ⟨A3, k3, rfl, hk3, hr3⟩ := KH.out.rd
          have HR := Aside.mk hr3
          generalize hst : linksP s p ls sws (fs.take k) tick = stt at *
          have HST := Aside.mk (show linkStep s p ls sws tick stt x = if h.what = 0 then if 4 ≤ carried stt.2 h.sw h.out then (stt.1, stt.2 ++ [{ h with what := 7 }]) else (stt.1 ++ [g], stt.2 ++ [h]) else (stt.1, stt.2 ++ [h]) by
            unfold linkStep; rw [HAT.out]; dsimp only; rw [HPx.out])
          have p0 := blk_cell hb20 0
          have p1 := blk_cell hb20 1
          have p2 := blk_cell hb20 2
          have p3 := blk_cell hb20 3
          have p4 := blk_cell hb20 4
          have p5 := blk_cell hb20 5
          have p6 := blk_cell hb20 6
          have pf := fun i => blk_frozen hb20 i
          have r0 := blk_cell hb21 0
          have r1 := blk_cell hb21 1
          have r2 := blk_cell hb21 2
          have r3 := blk_cell hb21 3
          have r4 := blk_cell hb21 4
          have r5 := blk_cell hb21 5
          have r6 := blk_cell hb21 6
          simp at p0 p1 p2 p3 p4 p5 p6 r0 r1 r2 r3 r4 r5 r6
          have hlq := blk_lt hb20
          have hlq2 := blk_lt hb21
          clear c0 c1 c2 q0 q1 q2 q3 q4 q5 q6 s0 s1 s2 s3 s4 s5 s6 f0 f1 f2 f3 f4 f5 f6 f7 f8 f9 f10 f11 f12 f13 f14 f15 f16 f17 f18 f19 f20 f21 hb13 hb14 hb20 hb21 hB hB' hr3 hst
          obtain ⟨A4, k4, rfl, -⟩ := KN.out.form
          by_cases hw0 : h.what = 0
          · have dw : (h.what == 0) = true := by simp [hw0]
            by_cases h4 : 4 ≤ carried stt.2 h.sw h.out
            · have d4 : decide ((4 : Int) ≤ (carried stt.2 h.sw h.out : Int)) = true := decide_eq_true (by omega)
              have HS1 := Aside.mk (HST.out.trans ((if_pos hw0).trans (if_pos h4)))
              clear hw0 h4
              go_wp2_with (first
                | (go_at_call 17; refine (carriedR_any stt.2 A3 k3 h.sw h.out _ HR.out).mono ?_; rintro e w9 ⟨rfl, rfl⟩)
                | (at_builtin; have KN := Aside.mk (KN.out.far (p := ⟨q20, 5, none⟩) (fun e => absurd (KNL.out q20 e) (by omega)) (.int .i64 7)); have KH := Aside.mk (KH.out.far (p := ⟨q20, 5, none⟩) (fun e => absurd (KHL.out q20 e) (by omega)) (.int .i64 7)); have KX := Aside.mk (blk_far (p := ⟨q20, 5, none⟩) KX.out (by simp; omega) (.int .i64 7)); have HH := Aside.mk (blk_set HH.out 5 (.int .i64 7)); have KB := Aside.mk (below_set (p := ⟨q20, 5, none⟩) KB.out (by simp; omega) (.int .i64 7)); refine wp_app1 (f := hopF) w.heap.size rfl _ _ _ _ _ _ rfl Try.underlying29 infoHop2 rfl (by decide) (.slice A3 stt.2.length k3) stt.2 { h with what := 7 } _ rfl rfl (by go_simp) KH.out (by have := KB.out.size; omega) (by omega) ?_; intro v1 w2 ho1 hg1 hat1; have KN := Aside.mk (KN.out.kept hg1 (KN.out.apart KH.out (by decide))); have KX := Aside.mk ((hg1.block _ (blk_lt KX.out) (fun e => KH.out.ne_type KX.out (by decide) e.symm)).trans KX.out); have KB := Aside.mk (below_own KB.out hg1 (fun b e => ⟨(KH.out.lt b e).1, (KH.out.lt b e).2⟩)); have HH := Aside.mk ((hg1.block _ (blk_lt HH.out) (fun e => by have := KHL.out _ e.symm; omega)).trans HH.out); have p5 := blk_cell HH.out 5; simp at p5; have KH1 := Aside.mk ho1; clear hg1 ho1 hat1))
              exact ⟨⟨k + 1, by omega, by go_num, by rw [hsn.out, HS1.out]; exact KN.out, by rw [hsn.out, HS1.out]; exact KH1.out, KB.out, KX.out⟩, by simp [intOf]; omega⟩
            · have d4 : decide ((4 : Int) ≤ (carried stt.2 h.sw h.out : Int)) = false := decide_eq_false (by omega)
              have HS1 := Aside.mk (HST.out.trans ((if_pos hw0).trans (if_neg h4)))
              clear hw0 h4
              go_wp2_with (first
                | (go_at_call 17; refine (carriedR_any stt.2 A3 k3 h.sw h.out _ HR.out).mono ?_; rintro e w9 ⟨rfl, rfl⟩)
                | (have hfl := HFL; clear hfl; at_builtin; refine wp_app1 (f := flyF) w.heap.size rfl _ _ _ _ _ _ rfl Try.underlying26 infoFly rfl (by decide) (.slice A4 stt.1.length k4) stt.1 g _ rfl rfl (by go_simp) KN.out (by have := KB.out.size; omega) (by omega) ?_; intro v2 w3 ho2 hg2 hat2; have KH1 := Aside.mk (KH1.out.kept hg2 (KH1.out.apart KN.out (by decide))); have KX := Aside.mk ((hg2.block _ (blk_lt KX.out) (fun e => KN.out.ne_type KX.out (by decide) e.symm)).trans KX.out); have KB := Aside.mk (below_own KB.out hg2 (fun b e => ⟨(KN.out.lt b e).1, (KN.out.lt b e).2⟩)); have KN1 := Aside.mk ho2; clear hg2 ho2 hat2)
                | (at_builtin; refine wp_app1 (f := hopF) w.heap.size rfl _ _ _ _ _ _ rfl Try.underlying29 infoHop2 rfl (by decide) (.slice A3 stt.2.length k3) stt.2 h _ rfl rfl (by go_simp) KH.out (by have := KB.out.size; omega) (by omega) ?_; intro v1 w2 ho1 hg1 hat1; have KN := Aside.mk (KN.out.kept hg1 (KN.out.apart KH.out (by decide))); have KX := Aside.mk ((hg1.block _ (blk_lt KX.out) (fun e => KH.out.ne_type KX.out (by decide) e.symm)).trans KX.out); have KB := Aside.mk (below_own KB.out hg1 (fun b e => ⟨(KH.out.lt b e).1, (KH.out.lt b e).2⟩)); have HH := Aside.mk ((hg1.block _ (blk_lt HH.out) (fun e => by have := KHL.out _ e.symm; omega)).trans HH.out); have p5 := blk_cell HH.out 5; simp at p5; have HG := Aside.mk ((hg1.block _ (blk_lt HG.out) (fun e => by have := KHL.out _ e.symm; omega)).trans HG.out); have r0 := blk_cell HG.out 0; have r1 := blk_cell HG.out 1; have r2 := blk_cell HG.out 2; have r3 := blk_cell HG.out 3; have r4 := blk_cell HG.out 4; have r5 := blk_cell HG.out 5; have r6 := blk_cell HG.out 6; simp at r0 r1 r2 r3 r4 r5 r6; obtain ⟨A5, k5, rfl, -⟩ := ho1.form; have KH1 := Aside.mk ho1; have HFL : Aside True := .mk trivial; clear hg1 ho1 hat1))
              exact ⟨⟨k + 1, by omega, by go_num, by rw [hsn.out, HS1.out]; exact KN1.out, by rw [hsn.out, HS1.out]; have h9 := KH1.out; rw [List.length_append, List.length_singleton] at h9; exact h9, KB.out, KX.out⟩, by simp [intOf]; omega⟩
          · have dw : (h.what == 0) = false := by simp [hw0]
            have HS1 := Aside.mk (HST.out.trans (if_neg hw0))
            clear hw0
            go_wp2_with (at_builtin; refine wp_app1 (f := hopF) w.heap.size rfl _ _ _ _ _ _ rfl Try.underlying29 infoHop2 rfl (by decide) (.slice A3 stt.2.length k3) stt.2 h _ rfl rfl (by go_simp) KH.out (by have := KB.out.size; omega) (by omega) ?_; intro v1 w2 ho1 hg1 hat1; have KN := Aside.mk (KN.out.kept hg1 (KN.out.apart KH.out (by decide))); have KX := Aside.mk ((hg1.block _ (blk_lt KX.out) (fun e => KH.out.ne_type KX.out (by decide) e.symm)).trans KX.out); have KB := Aside.mk (below_own KB.out hg1 (fun b e => ⟨(KH.out.lt b e).1, (KH.out.lt b e).2⟩)); have HH := Aside.mk ((hg1.block _ (blk_lt HH.out) (fun e => by have := KHL.out _ e.symm; omega)).trans HH.out); have p5 := blk_cell HH.out 5; simp at p5; have KH1 := Aside.mk ho1; clear hg1 ho1 hat1)
            exact ⟨⟨k + 1, by omega, by go_num, by rw [hsn.out, HS1.out]; exact KN.out, by rw [hsn.out, HS1.out]; exact KH1.out, KB.out, KX.out⟩, by simp [intOf]; omega⟩
    · obtain rfl : k = fs.length := by omega
      have KN2 := KN.out
      have KH2 := KH.out
      rw [List.take_length] at KN2 KH2
      have KN3 := Aside.mk KN2
      have KH3 := Aside.mk KH2
      clear KN2 KH2
      go_wp2
      exact bodyPost_ret (v := .tuple #[_, _]) (by simp [results, Try.results10, go_sem]) rfl ⟨_, _, rfl, KN3.out, KH3.out, KB.out⟩
end Go.Proofs.Ytajmchdmophdjaa
