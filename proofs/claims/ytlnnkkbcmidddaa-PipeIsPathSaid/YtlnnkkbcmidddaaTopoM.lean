/- The walk through topo.May. -/
import Derived.Test.YtlnnkkbcmidddaaTopoF
namespace Go.Proofs.Ytlnnkkbcmidddaa
open Go.RowKit
set_option maxRecDepth 100000

set_option maxHeartbeats 1000000 in
theorem may_no (s p : Int) (A : Option Addr) (c : Nat) (ls : List Lnk) (w : World) (hl : Rd lnkD w A ls.length ls) (hc : ¬ (1 ≤ s ∧ s ≤ 6 ∧ 1 ≤ p ∧ p ≤ 8 ∧ ls.length ≤ 12)) :
    Calls Try.prog 30 #[.agg #[.int .i64 s, .int .i64 p, .slice A ls.length c]] w fun e w' => e = .returned (.bool (mayT s p ls)) ∧ Below w.heap.size w w' := by
  have hfin : mayT s p ls = false := by unfold mayT; rw [decide_eq_false hc]; rfl
  have HF := Aside.mk hfin
  have HC := Aside.mk hc
  have hn := hl.max
  clear hfin hl hc
  go_enter Try.func30, Try.ntmps30
  go_wp2_with (go_at_call 45; exact absurd ⟨by omega, by omega, by omega, by omega, by omega⟩ HC.out)
  all_goals
    go_ret
    exact ⟨by rw [HF.out]; rfl, below_alloc (Below.refl _ _) _⟩

set_option maxHeartbeats 1000000 in
theorem may_yes (s p : Int) (A : Option Addr) (c : Nat) (ls : List Lnk) (w : World) (hl : Rd lnkD w A ls.length ls) (h1 : 1 ≤ s) (h2 : s ≤ 6) (h3 : 1 ≤ p) (h4 : p ≤ 8) (h5 : ls.length ≤ 12) :
    Calls Try.prog 30 #[.agg #[.int .i64 s, .int .i64 p, .slice A ls.length c]] w fun e w' => e = .returned (.bool (mayT s p ls)) ∧ Below w.heap.size w w' := by
  have hfin : mayT s p ls = ((joinedL ls).all (fun x => isEnd s p x.1) && decide ((joinedL ls).length = 2 * ls.length)) := by unfold mayT; rw [decide_eq_true ⟨h1, h2, h3, h4, h5⟩]; rfl
  have HF := Aside.mk hfin
  have HL := Aside.mk hl
  have hjl := joinedL_len ls
  have d1 : decide (s < 1) = false := decide_eq_false (by omega)
  have d2 : decide (6 < s) = false := decide_eq_false (by omega)
  have d3 : decide (p < 1) = false := decide_eq_false (by omega)
  have d4 : decide (8 < p) = false := decide_eq_false (by omega)
  have d5 : decide ((12 : Int) < (ls.length : Int)) = false := decide_eq_false (by omega)
  clear hfin hl h1 h2 h3 h4
  go_enter Try.func30, Try.ntmps30
  go_wp2_with (first
    | (go_at_call 45; refine (joined_any _ _ _ _ _ _ (HL.out.below (below_alloc (Below.refl _ _) _))).mono ?_; rintro e w1 ⟨b, rfl, hbb, hm1, hb1⟩)
    | (at_range; refine wp_range _ rfl _ rfl Try.underlying84 hm1 rfl ?_; intro w2 hr2 hg2 hs2))
  go_frame
  have hbx : w1.heap[w.heap.size]? = some (.cells #[.int .i64 s, .int .i64 p, .slice A ls.length c] 24) := (hb1.block _ (by simp)).trans (by rw [heap_at, if_pos rfl])
  have hbx2 := Aside.mk ((hg2.block _ (blk_lt hbx) (by simp)).trans hbx)
  have hB2 := Aside.mk (below_grown' (below_call (below_alloc (Below.refl _ _) _) hb1) hg2)
  have hbb' : w.heap.size < b := by simp at hbb; omega
  have hr1 : w.heap.size < w1.heap.size := blk_lt hbx
  have hm2 := hm1.lt
  generalize hR : w1.heap.size = r at *
  clear hbx hm1 hb1 hg2 hs2 hR hbb
  go_loopw [33] (fun _ wr => ∃ rem, GRange wr b r endV endV (joinedL ls) rem ∧ (∀ x ∈ joinedL ls, isEnd s p x.1 = true ∨ x ∈ rem) ∧ (∀ x ∈ rem, x ∈ joinedL ls) ∧ Below w.heap.size w wr ∧ wr.heap[w.heap.size]? = some (.cells #[.int .i64 s, .int .i64 p, .slice A ls.length c] 24))
    (fun _ wr => wr.rangeLeft b r)
  case atStart => exact ⟨_, hr2, fun x hx => .inr hx, fun _ h => h, hB2.out, hbx2.out⟩
  case round =>
    clear hr2 hB2 hbx2
    obtain ⟨rem, hg, hall, hsub, hb, hbx⟩ := hrel
    have hlf := Aside.mk hg.left
    have HG := Aside.mk hg
    clear hg
    go_wp2_with (at_next; refine wp_next _ rfl _ rfl HG.out rfl ?_ ?_)
    · intro hrem
      have hlen := fun ty => HG.out.map.run_len (P := Try.prog) Try.underlying84 ty
      simp only [goInt] at hlen
      have hc0 := blk_cell hbx 0
      have hc1 := blk_cell hbx 1
      have hc2 := blk_cell hbx 2
      simp at hc0 hc1 hc2
      have hfin : ((joinedL ls).all fun x => isEnd s p x.1) = true := List.all_eq_true.2 fun x hx => by
        rcases hall x hx with h | h
        · exact h
        · rw [hrem] at h; simp at h
      have HF2 := Aside.mk hfin
      have HB := Aside.mk hb
      clear hfin hb hall hsub hbx hrem HL hlf HG
      go_wp2
      go_ret
      refine ⟨?_, HB.out⟩
      refine ret_bool ?_
      rw [HF.out, HF2.out, Bool.true_and, Bool.eq_iff_iff]
      simp
      omega
    · intro i hi w3 hg3 hgr3 hs3 hen
      have hbx3 := (hgr3.block _ (blk_lt hbx) (by simp; omega)).trans hbx
      have HX := Aside.mk hbx3
      have hc0 := blk_cell hbx3 0
      have hc1 := blk_cell hbx3 1
      have hc2 := blk_cell hbx3 2
      simp at hc0 hc1 hc2
      have HB := Aside.mk (below_grown hb hgr3 (by omega))
      have hmem : rem[i] ∈ joinedL ls := hsub _ (List.getElem_mem hi)
      have HE := Aside.mk hmem
      have hin : ∀ x ∈ joinedL ls, isEnd s p x.1 = true ∨ x = rem[i] ∨ x ∈ rem.eraseIdx i := fun x hx => by
        rcases hall x hx with h | h
        · exact .inl h
        · exact .inr (mem_eraseIdx_or i hi h)
      have HA := Aside.mk hin
      have HS := Aside.mk hsub
      have HG3 := Aside.mk hg3
      have HLt := Aside.mk (show (rem.eraseIdx i).length < rem.length by rw [List.length_eraseIdx_of_lt hi]; omega)
      clear hall hsub hbx hbx3 hb hgr3 hs3 HL hin hg3 hmem
      generalize rem[i] = e at *
      have hlt4 : w.heap.size < w3.heap.size := blk_lt HX.out
      have hlt3 : r < w3.heap.size := HG3.out.lt.2
      cases he : isEnd s p e.1
      · go_wp2_with (go_at_call 46; refine (is_any _ _ _ _ _ rfl _).mono ?_; rintro e' w4 ⟨rfl, hb4⟩; have HB4 := Aside.mk (below_call (below_alloc HB.out _) hb4))
        go_ret
        refine ⟨ret_bool ?_, HB4.out⟩
        rw [HF.out]
        have : (joinedL ls).all (fun x => isEnd s p x.1) = false := by
          rw [List.all_eq_false]
          exact ⟨e, HE.out, by simp [he]⟩
        rw [this]; rfl
      · go_wp2_with (go_at_call 46; refine (is_any _ _ _ _ _ rfl _).mono ?_; rintro e' w4 ⟨rfl, hb4⟩; have HB4 := Aside.mk (below_call (below_alloc HB.out _) hb4); have HG4 := Aside.mk ((HG3.out.alloc (.cells #[.int .i64 e.1.1, .int .i64 e.1.2] 87)).below (by simp; omega) (by simp; omega) hb4); have HX4 := Aside.mk (blk_keep (blk_keep HX.out ((Below.refl _ _).alloc (Nat.le_refl _) (.cells #[.int .i64 e.1.1, .int .i64 e.1.2] 87))) hb4))
        go_roundw
        case rel => exact ⟨_, HG4.out, fun x hx => (HA.out x hx).elim .inl (fun h => h.elim (fun h => .inl (by rw [h]; exact he)) .inr), fun x hx => HS.out x (List.mem_of_mem_eraseIdx hx), HB4.out, HX4.out⟩
        case measure => rw [HG4.out.left, hlf.out]; exact HLt.out

theorem may_any (s p : Int) (A : Option Addr) (c : Nat) (ls : List Lnk) (w : World) (hl : Rd lnkD w A ls.length ls) :
    Calls Try.prog 30 #[.agg #[.int .i64 s, .int .i64 p, .slice A ls.length c]] w fun e w' => e = .returned (.bool (mayT s p ls)) ∧ Below w.heap.size w w' := by
  by_cases h : 1 ≤ s ∧ s ≤ 6 ∧ 1 ≤ p ∧ p ≤ 8 ∧ ls.length ≤ 12
  · exact may_yes s p A c ls w hl h.1 h.2.1 h.2.2.1 h.2.2.2.1 h.2.2.2.2
  · exact may_no s p A c ls w hl h
end Go.Proofs.Ytlnnkkbcmidddaa
