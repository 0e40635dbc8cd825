/- The walk through the document's May of layer 11. -/
import Derived.Test.YtlnnkkbcmidddaaTopoR
import Derived.Test.YtlnnkkbcmidddaaRegion
namespace Go.Proofs.Ytlnnkkbcmidddaa
open Go.RowKit
set_option maxRecDepth 100000

theorem goodR_drop {s p : Int} {ls : List Lnk} {k : Nat} (h : k < ls.length) : (ls.drop k).all (goodR s p ls) = (goodR s p ls ls[k] && (ls.drop (k + 1)).all (goodR s p ls)) := by
  rw [List.drop_eq_getElem_cons h]; rfl

set_option maxHeartbeats 1000000 in
theorem mayR_no (s p : Int) (A : Option Addr) (c : Nat) (ls : List Lnk) (w : World) (hl : Rd lnkD w A ls.length ls) (hc : ¬ (1 ≤ s ∧ s ≤ 6 ∧ 1 ≤ p ∧ p ≤ 8 ∧ ls.length ≤ 12)) :
    Calls Try.prog 41 #[.agg #[.int .i64 s, .int .i64 p, .slice A ls.length c]] w fun e w' => e = .returned (.bool (mayR s p ls)) ∧ Below w.heap.size w w' := by
  have hfin : mayR s p ls = false := by unfold mayR; rw [decide_eq_false hc]; rfl
  have HF := Aside.mk hfin
  have HC := Aside.mk hc
  have hn := hl.max
  clear hfin hl hc
  go_enter Try.func41, Try.ntmps41
  go_wp2
  all_goals first
    | (go_ret; exact ⟨by rw [HF.out]; rfl, below_alloc (Below.refl _ _) _⟩)
    | exact absurd ⟨by omega, by omega, by omega, by omega, by omega⟩ HC.out

set_option maxHeartbeats 1000000 in
theorem mayR_yes (s p : Int) (A : Option Addr) (c : Nat) (ls : List Lnk) (w : World) (hl : Rd lnkD w A ls.length ls) (h1 : 1 ≤ s) (h2 : s ≤ 6) (h3 : 1 ≤ p) (h4 : p ≤ 8) (h5 : ls.length ≤ 12) :
    Calls Try.prog 41 #[.agg #[.int .i64 s, .int .i64 p, .slice A ls.length c]] w fun e w' => e = .returned (.bool (mayR s p ls)) ∧ Below w.heap.size w w' := by
  have hfin : mayR s p ls = ls.all (goodR s p ls) := by unfold mayR; rw [decide_eq_true ⟨h1, h2, h3, h4, h5⟩]; rfl
  have HF := Aside.mk hfin
  have HL := Aside.mk hl
  have d1 : decide (s < 1) = false := decide_eq_false (by omega)
  have d2 : decide (6 < s) = false := decide_eq_false (by omega)
  have d3 : decide (p < 1) = false := decide_eq_false (by omega)
  have d4 : decide (8 < p) = false := decide_eq_false (by omega)
  have d5 : decide ((12 : Int) < (ls.length : Int)) = false := decide_eq_false (by omega)
  clear hfin hl h1 h2 h3 h4
  go_enter Try.func41, Try.ntmps41
  go_wp2
  go_loopw [3] (fun i wr => ∃ k : Nat, k ≤ ls.length ∧ i = .int .i64 k ∧ (ls.drop k).all (goodR s p ls) = ls.all (goodR s p ls) ∧ Below w.heap.size w wr ∧ wr.heap[w.heap.size]? = some (.cells #[.int .i64 s, .int .i64 p, .slice A ls.length c] 24))
    (fun i _ => ls.length - (intOf i).toNat)
  case atStart => exact ⟨0, Nat.zero_le _, rfl, rfl, below_alloc (Below.refl _ _) _, by rw [heap_at, if_pos rfl]⟩
  case round =>
    obtain ⟨k, hk, rfl, hsk, hb, hx⟩ := hrel
    have HS := Aside.mk hsk
    have HB := Aside.mk hb
    have HX := Aside.mk hx
    have hc0 : wr.cell? ⟨w.heap.size, 0, none⟩ = some _ := blk_cell hx 0
    have hc1 : wr.cell? ⟨w.heap.size, 1, none⟩ = some _ := blk_cell hx 1
    have hc2 : wr.cell? ⟨w.heap.size, 2, none⟩ = some (.slice A ls.length c) := blk_cell hx 2
    simp at hc0 hc1
    clear hsk hx
    have hsz := blk_lt HX.out
    by_cases hlt : k < ls.length
    · have hdr := Aside.mk (goodR_drop (s := s) (p := p) hlt)
      obtain ⟨b, o, cs, rfl, hbl, hcs, hc⟩ := Row.at HL.out k hlt
      obtain rfl : cs = _ := hcs
      have hd0 : wr.cell? ⟨b, o + k * 4, none⟩ = some (.int .i64 ls[k].a) := (hb.cell hbl).trans (hc 0 _ rfl)
      have hd1 : wr.cell? ⟨b, o + k * 4 + 1, none⟩ = some (.int .i64 ls[k].pa) := (hb.cell hbl).trans (hc 1 _ rfl)
      have hd2 : wr.cell? ⟨b, o + k * 4 + 2, none⟩ = some (.int .i64 ls[k].b) := (hb.cell hbl).trans (hc 2 _ rfl)
      have hd3 : wr.cell? ⟨b, o + k * 4 + 3, none⟩ = some (.int .i64 ls[k].pb) := (hb.cell hbl).trans (hc 3 _ rfl)
      clear hc hb
      have hg := Aside.mk (show goodR s p ls ls[k] = (isEnd s p (ls[k].a, ls[k].pa) && isEnd s p (ls[k].b, ls[k].pb) && endsN ls ls[k].a ls[k].pa == 1 && endsN ls ls[k].b ls[k].pb == 1) from rfl)
      generalize ls[k] = l at *
      have hmx : ls.length ≤ 4611686018427387903 := by omega
      have HB := Aside.mk (below_alloc HB.out (.cells #[.int .i64 l.a, .int .i64 l.pa, .int .i64 l.b, .int .i64 l.pb] 83))
      have HX := Aside.mk (blk_keep HX.out ((Below.refl _ wr).alloc (Nat.le_refl _) (.cells #[.int .i64 l.a, .int .i64 l.pa, .int .i64 l.b, .int .i64 l.pb] 83)))
      have HK := Aside.mk (show (wr.alloc (.cells #[.int .i64 l.a, .int .i64 l.pa, .int .i64 l.b, .int .i64 l.pb] 83)).heap[wr.heap.size]? = some (.cells #[.int .i64 l.a, .int .i64 l.pa, .int .i64 l.b, .int .i64 l.pb] 83) by rw [heap_at, if_pos rfl])
      go_wp2_with (first
        | (go_at_call 55; refine (port_any s p _ rfl _ _ _).mono ?_; rintro e w1 ⟨rfl, hb1⟩; have HX := Aside.mk (blk_keep HX.out hb1); have HB := Aside.mk (below_call HB.out hb1); have HK := Aside.mk (blk_keep HK.out hb1); have hc0 := blk_cell HX.out 0; have hc1 := blk_cell HX.out 1; have hc2 := blk_cell HX.out 2; simp at hc0 hc1 hc2; have he0 := blk_cell HK.out 0; have he1 := blk_cell HK.out 1; have he2 := blk_cell HK.out 2; have he3 := blk_cell HK.out 3; simp at he0 he1 he2 he3; clear hb1)
        | (go_at_call 56; refine (ends_any s p _ c ls _ _ _ (HL.out.below HB.out) hmx).mono ?_; rintro e w3 ⟨rfl, hb3⟩; have HX := Aside.mk (blk_keep HX.out hb3); have HB := Aside.mk (below_call HB.out hb3); have HK := Aside.mk (blk_keep HK.out hb3); have hc0 := blk_cell HX.out 0; have hc1 := blk_cell HX.out 1; have hc2 := blk_cell HX.out 2; simp at hc0 hc1 hc2; have he0 := blk_cell HK.out 0; have he1 := blk_cell HK.out 1; have he2 := blk_cell HK.out 2; have he3 := blk_cell HK.out 3; simp at he0 he1 he2 he3; clear hb3))
      all_goals first
        | (go_ret
           refine ⟨ret_bool ?_, HB.out⟩
           have e1 := hdr.out
           have e2 := hg.out
           rw [HF.out, ← HS.out, e1, e2]
           try simp [*]
           try (intro h1 h2; exfalso; first
                | omega
                | (have hh : ((endsN ls l.b l.pb : Int) != 1) = true := by assumption
                   rw [h2] at hh; simp at hh)))
        | (go_roundw
           case rel =>
             have e1 := hdr.out
             have e2 := hg.out
             have t1 : (endsN ls l.a l.pa == 1) = true := by
               cases hq : (endsN ls l.a l.pa == 1)
               · exfalso
                 have : ((endsN ls l.a l.pa : Int) != 1) = true := by simp at hq ⊢; omega
                 simp [*] at this
               · rfl
             have t2 : (endsN ls l.b l.pb == 1) = true := by
               cases hq : (endsN ls l.b l.pb == 1)
               · exfalso
                 have : ((endsN ls l.b l.pb : Int) != 1) = true := by simp at hq ⊢; omega
                 simp [*] at this
               · rfl
             rw [t1, t2, show isEnd s p (l.a, l.pa) = true by assumption, show isEnd s p (l.b, l.pb) = true by assumption] at e2
             rw [e2] at e1
             exact ⟨k + 1, by omega, by go_num, e1.symm.trans HS.out, HB.out, HX.out⟩
           case measure => simp [intOf]; omega)
    · obtain rfl : k = ls.length := by omega
      clear hb
      go_wp2
      go_ret
      refine ⟨ret_bool ?_, HB.out⟩
      rw [HF.out, ← HS.out, List.drop_length]
      rfl

theorem mayR_any (s p : Int) (A : Option Addr) (c : Nat) (ls : List Lnk) (w : World) (hl : Rd lnkD w A ls.length ls) :
    Calls Try.prog 41 #[.agg #[.int .i64 s, .int .i64 p, .slice A ls.length c]] w fun e w' => e = .returned (.bool (mayR s p ls)) ∧ Below w.heap.size w w' := by
  by_cases h : 1 ≤ s ∧ s ≤ 6 ∧ 1 ≤ p ∧ p ≤ 8 ∧ ls.length ≤ 12
  · exact mayR_yes s p A c ls w hl h.1 h.2.1 h.2.2.1 h.2.2.2.1 h.2.2.2.2
  · exact mayR_no s p A c ls w hl h
end Go.Proofs.Ytlnnkkbcmidddaa
