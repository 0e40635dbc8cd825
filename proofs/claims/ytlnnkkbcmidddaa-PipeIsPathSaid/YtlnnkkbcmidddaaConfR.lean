/- The walk through conf.rules. -/
import Derived.Test.YtlnnkkbcmidddaaConfP
import Derived.Test.YtlnnkkbcmidddaaTopoW
namespace Go.Proofs.Ytlnnkkbcmidddaa
open Go.RowKit
set_option maxRecDepth 100000
set_option maxHeartbeats 2000000 in
theorem strange_any (r : Rul) (p : Int) (B : Nat) (w : World) (hB : w.cell? ⟨B, 1, none⟩ = some (.int .i64 p)) (hlt : B < w.heap.size) :
    Calls Try.prog 47 #[rulV r, .pointer (some ⟨B, 0, none⟩)] w fun e w' => e = .returned (.bool (!okR p r)) ∧ Below w.heap.size w w' := by
  have HP := Aside.mk hB
  clear hB
  have HE := Aside.mk (show okR p r = (mayI r && decide (r.inn < p) && !(r.kind == 1 && decide (p ≤ r.port))) from rfl)
  have HB := Aside.mk (below_alloc (Below.refl _ w) (.cells #[.int .i64 r.addr, .int .i64 r.len, .int .i64 r.inn, .int .i64 r.prio, .int .i64 r.kind, .int .i64 r.port] 58)); have HX := Aside.mk (heapN w (.cells #[.int .i64 r.addr, .int .i64 r.len, .int .i64 r.inn, .int .i64 r.prio, .int .i64 r.kind, .int .i64 r.port] 58) rfl)
  cases hm : mayI r
  · have HM := Aside.mk hm
    rw [show okR p r = false by rw [HE.out, hm]; rfl]
    clear hm
    go_enter Try.func47, Try.ntmps47; go_wp2_with (go_at_call 48; refine (may_any8 _ _).mono ?_; rw [HM.out]; rintro e w1 ⟨rfl, hb1⟩; have y0 := (HB.out.cell (Nat.lt_of_lt_of_le hlt (Nat.le_refl _))).trans HP.out; have y0 := (hb1.cell (p := ⟨B, 1, none⟩) (Nat.lt_of_lt_of_le hlt HB.out.size)).trans y0; have hly : B < w1.heap.size := Nat.lt_of_lt_of_le hlt (Nat.le_trans HB.out.size hb1.size); have HB := Aside.mk (below_call HB.out hb1); have HX := Aside.mk (blk_keep HX.out hb1); have hlx := blk_lt HX.out; have x0 := blk_cell HX.out 0; have x1 := blk_cell HX.out 1; have x2 := blk_cell HX.out 2; have x3 := blk_cell HX.out 3; have x4 := blk_cell HX.out 4; have x5 := blk_cell HX.out 5; simp at x0 x1 x2 x3 x4 x5; clear hb1); go_ret; exact ⟨rfl, HB.out⟩
  have HM := Aside.mk hm
  by_cases c1 : p ≤ r.inn
  · have d1 : decide (p ≤ r.inn) = true := decide_eq_true c1
    rw [show okR p r = false by rw [HE.out, hm, decide_eq_false (by omega)]; rfl]
    clear hm c1
    go_enter Try.func47, Try.ntmps47; go_wp2_with (go_at_call 48; refine (may_any8 _ _).mono ?_; rw [HM.out]; rintro e w1 ⟨rfl, hb1⟩; have y0 := (HB.out.cell (Nat.lt_of_lt_of_le hlt (Nat.le_refl _))).trans HP.out; have y0 := (hb1.cell (p := ⟨B, 1, none⟩) (Nat.lt_of_lt_of_le hlt HB.out.size)).trans y0; have hly : B < w1.heap.size := Nat.lt_of_lt_of_le hlt (Nat.le_trans HB.out.size hb1.size); have HB := Aside.mk (below_call HB.out hb1); have HX := Aside.mk (blk_keep HX.out hb1); have hlx := blk_lt HX.out; have x0 := blk_cell HX.out 0; have x1 := blk_cell HX.out 1; have x2 := blk_cell HX.out 2; have x3 := blk_cell HX.out 3; have x4 := blk_cell HX.out 4; have x5 := blk_cell HX.out 5; simp at x0 x1 x2 x3 x4 x5; clear hb1); go_ret; exact ⟨rfl, HB.out⟩
  have d1 : decide (p ≤ r.inn) = false := decide_eq_false c1
  by_cases c2 : r.kind = 1
  · have d2 : (r.kind == 1) = true := by simpa using c2
    by_cases c3 : p ≤ r.port
    · have d3 : decide (p ≤ r.port) = true := decide_eq_true c3
      rw [show okR p r = false by rw [HE.out, hm, d2, d3, decide_eq_true (by omega)]; rfl]
      clear hm c1 c2 c3
      go_enter Try.func47, Try.ntmps47; go_wp2_with (go_at_call 48; refine (may_any8 _ _).mono ?_; rw [HM.out]; rintro e w1 ⟨rfl, hb1⟩; have y0 := (HB.out.cell (Nat.lt_of_lt_of_le hlt (Nat.le_refl _))).trans HP.out; have y0 := (hb1.cell (p := ⟨B, 1, none⟩) (Nat.lt_of_lt_of_le hlt HB.out.size)).trans y0; have hly : B < w1.heap.size := Nat.lt_of_lt_of_le hlt (Nat.le_trans HB.out.size hb1.size); have HB := Aside.mk (below_call HB.out hb1); have HX := Aside.mk (blk_keep HX.out hb1); have hlx := blk_lt HX.out; have x0 := blk_cell HX.out 0; have x1 := blk_cell HX.out 1; have x2 := blk_cell HX.out 2; have x3 := blk_cell HX.out 3; have x4 := blk_cell HX.out 4; have x5 := blk_cell HX.out 5; simp at x0 x1 x2 x3 x4 x5; clear hb1); go_ret; exact ⟨rfl, HB.out⟩
    · have d3 : decide (p ≤ r.port) = false := decide_eq_false c3
      rw [show okR p r = true by rw [HE.out, hm, d2, d3, decide_eq_true (by omega)]; rfl]
      clear hm c1 c2 c3
      go_enter Try.func47, Try.ntmps47; go_wp2_with (go_at_call 48; refine (may_any8 _ _).mono ?_; rw [HM.out]; rintro e w1 ⟨rfl, hb1⟩; have y0 := (HB.out.cell (Nat.lt_of_lt_of_le hlt (Nat.le_refl _))).trans HP.out; have y0 := (hb1.cell (p := ⟨B, 1, none⟩) (Nat.lt_of_lt_of_le hlt HB.out.size)).trans y0; have hly : B < w1.heap.size := Nat.lt_of_lt_of_le hlt (Nat.le_trans HB.out.size hb1.size); have HB := Aside.mk (below_call HB.out hb1); have HX := Aside.mk (blk_keep HX.out hb1); have hlx := blk_lt HX.out; have x0 := blk_cell HX.out 0; have x1 := blk_cell HX.out 1; have x2 := blk_cell HX.out 2; have x3 := blk_cell HX.out 3; have x4 := blk_cell HX.out 4; have x5 := blk_cell HX.out 5; simp at x0 x1 x2 x3 x4 x5; clear hb1); go_ret; exact ⟨rfl, HB.out⟩
  · have d2 : (r.kind == 1) = false := by simpa using c2
    rw [show okR p r = true by rw [HE.out, hm, d2, decide_eq_true (by omega)]; rfl]
    clear hm c1 c2
    go_enter Try.func47, Try.ntmps47; go_wp2_with (go_at_call 48; refine (may_any8 _ _).mono ?_; rw [HM.out]; rintro e w1 ⟨rfl, hb1⟩; have y0 := (HB.out.cell (Nat.lt_of_lt_of_le hlt (Nat.le_refl _))).trans HP.out; have y0 := (hb1.cell (p := ⟨B, 1, none⟩) (Nat.lt_of_lt_of_le hlt HB.out.size)).trans y0; have hly : B < w1.heap.size := Nat.lt_of_lt_of_le hlt (Nat.le_trans HB.out.size hb1.size); have HB := Aside.mk (below_call HB.out hb1); have HX := Aside.mk (blk_keep HX.out hb1); have hlx := blk_lt HX.out; have x0 := blk_cell HX.out 0; have x1 := blk_cell HX.out 1; have x2 := blk_cell HX.out 2; have x3 := blk_cell HX.out 3; have x4 := blk_cell HX.out 4; have x5 := blk_cell HX.out 5; simp at x0 x1 x2 x3 x4 x5; clear hb1); go_ret; exact ⟨rfl, HB.out⟩
set_option maxHeartbeats 1000000 in
theorem indexS_any (l : List Rul) (A : Option Addr) (c : Nat) (p : Int) (B : Nat) (w : World) (hl : Rd rulD w A l.length l) (hB : w.cell? ⟨B, 1, none⟩ = some (.int .i64 p)) (hlt : B < w.heap.size) :
    Calls Try.prog 63 #[.slice A l.length c, .func (.func 47) #[] #[.pointer (some ⟨B, 0, none⟩)]] w fun e w' => (∃ n : Int, e = .returned (.int .i64 n) ∧ decide (0 ≤ n) = !(l.all (okR p))) ∧ Below w.heap.size w w' := by
  have HL := Aside.mk hl
  have HB := Aside.mk hB
  have hmx := hl.max
  clear hl hB
  go_enter Try.func63, Try.ntmps63
  go_wp2
  go_loopw [8] (fun i wr => ∃ k : Nat, k ≤ l.length ∧ i = .int .i64 k ∧ (l.take k).all (okR p) = true ∧ Below w.heap.size w wr) (fun i _ => l.length - (intOf i).toNat)
  case atStart => exact ⟨0, Nat.zero_le _, rfl, by simp, Below.refl _ _⟩
  case round =>
    obtain ⟨k, hk, rfl, hs, hb⟩ := hrel
    have HS := Aside.mk hs
    have KB := Aside.mk hb
    clear hs
    by_cases hk2 : k < l.length
    · obtain ⟨b, o, _, rfl, -⟩ := Row.at HL.out k hk2
      obtain ⟨hw1, p0, p1, p2, p3, p4, p5⟩ := rul_cells (c := c) HL.out hb hk2
      have HT := Aside.mk (all_snoc (f := okR p) hk2)
      have HN := Aside.mk (fun h => all_not (f := okR p) hk2 h)
      obtain ⟨x, hx⟩ : ∃ x, l[k] = x := ⟨_, rfl⟩
      rw [hx] at p0 p1 p2 p3 p4 p5 HT HN
      clear hx hb
      cases ho : okR p x
      · have HO := Aside.mk ho
        have HA := Aside.mk (HN.out ho)
        clear ho
        go_wp2_with (go_at_call 47; refine (strange_any x p B _ ((KB.out.cell hlt).trans HB.out) (Nat.lt_of_lt_of_le hlt KB.out.size)).mono ?_; rw [HO.out]; rintro e w1 ⟨rfl, hb1⟩; have KB := Aside.mk (below_call KB.out hb1); clear hb1)
        refine bodyPost_ret (v := .int .i64 (k : Int)) (by simp [results, Try.results63, go_sem]) rfl ?_
        exact ⟨⟨_, rfl, by rw [HA.out, decide_eq_true (by omega)]; rfl⟩, KB.out⟩
      · have HO := Aside.mk ho
        have HA := Aside.mk (show (l.take (k + 1)).all (okR p) = true by rw [HT.out, HS.out, ho]; rfl)
        clear ho
        go_wp2_with (go_at_call 47; refine (strange_any x p B _ ((KB.out.cell hlt).trans HB.out) (Nat.lt_of_lt_of_le hlt KB.out.size)).mono ?_; rw [HO.out]; rintro e w1 ⟨rfl, hb1⟩; have KB := Aside.mk (below_call KB.out hb1); clear hb1)
        exact ⟨⟨k + 1, by omega, by go_num, HA.out, KB.out⟩, by simp [intOf]; omega⟩
    · obtain rfl : k = l.length := by omega
      clear hb
      have HA := Aside.mk (show l.all (okR p) = true by rw [← HS.out, List.take_length])
      go_wp2
      refine bodyPost_ret (v := .int .i64 (-1)) (by simp [results, Try.results63, go_sem]) rfl ?_
      exact ⟨⟨_, rfl, by rw [HA.out]; rfl⟩, KB.out⟩
theorem containsS_any (l : List Rul) (A : Option Addr) (c : Nat) (p : Int) (B : Nat) (w : World) (hl : Rd rulD w A l.length l) (hB : w.cell? ⟨B, 1, none⟩ = some (.int .i64 p)) (hlt : B < w.heap.size) :
    Calls Try.prog 49 #[.slice A l.length c, .func (.func 47) #[] #[.pointer (some ⟨B, 0, none⟩)]] w fun e w' => e = .returned (.bool (!(l.all (okR p)))) ∧ Below w.heap.size w w' := by
  have HL := Aside.mk hl
  have HB := Aside.mk hB
  clear hl hB
  obtain ⟨t, ht⟩ : ∃ t, (!(l.all (okR p))) = t := ⟨_, rfl⟩
  rw [ht]
  have HT := Aside.mk ht
  clear ht
  go_enter Try.func49, Try.ntmps49
  go_wp2_with (go_at_call 63; refine (indexS_any l A c p B _ HL.out HB.out hlt).mono ?_; rintro e w1 ⟨⟨n, rfl, hn⟩, hb1⟩; rw [HT.out] at hn; have KB := Aside.mk hb1; clear hb1)
  go_ret
  exact ⟨rfl, KB.out⟩
theorem seen_step {m : List (Plc × Bool)} {l : List Rul} {k : Nat} (h : k < l.length) (hs : Seen m (l.take k)) : Seen (mput m (keyR l[k]) true) (l.take (k + 1)) := by
  rw [List.take_succ_eq_append_getElem h]
  exact hs.put _
abbrev boolV (b : Bool) : Value := .bool b
set_option maxHeartbeats 1000000 in
theorem rules_any (s p : Int) (A : Option Addr) (c : Nat) (ls : List Lnk) (l : List Rul) (C : Option Addr) (d : Nat) (w : World) (hl : Rd rulD w C l.length l) :
    Calls Try.prog 31 #[.agg #[.int .i64 s, .int .i64 p, .slice A ls.length c], .slice C l.length d] w fun e w' => e = .returned (.bool (rulesP p l)) ∧ Below w.heap.size w w' := by
  have hmm := @run_makeMap Try.prog
  have hn := hl.max
  have HL := Aside.mk hl
  clear hl
  go_enter Try.func31, Try.ntmps31
  go_wp2
  go_loopw [12] (fun i wr => ∃ (k : Nat) (m : List (Plc × Bool)), k ≤ l.length ∧ i = .int .i64 k ∧ Seen m (l.take k) ∧ GMap wr (w.heap.size + 1) plcV boolV m ∧ Below w.heap.size w wr ∧ wr.heap[w.heap.size]? = some (.cells #[.int .i64 s, .int .i64 p, .slice A ls.length c] 24)) (fun i _ => l.length - (intOf i).toNat)
  case atStart => exact ⟨0, [], Nat.zero_le _, rfl, Seen.nil, by simpa using GMap.made (w.alloc (.cells #[.int .i64 s, .int .i64 p, .slice A ls.length c] 24)) plcV boolV, below_alloc (below_alloc (Below.refl _ _) _) _, heapO (heapN _ _ rfl) _⟩
  case round =>
    obtain ⟨k, m, hk, rfl, hs, hm, hb, hx⟩ := hrel
    have HS := Aside.mk hs
    have HM := Aside.mk hm
    have KB := Aside.mk hb
    have HX := Aside.mk hx
    clear hs hm hx
    by_cases hk2 : k < l.length
    · obtain ⟨b, o, _, rfl, -⟩ := Row.at HL.out k hk2
      obtain ⟨hw1, p0, p1, p2, p3, p4, p5⟩ := rul_cells (c := d) HL.out hb hk2
      have HT := Aside.mk (seen_step hk2 HS.out)
      obtain ⟨x, hx⟩ : ∃ x, l[k] = x := ⟨_, rfl⟩
      rw [hx] at p0 p1 p2 p3 p4 p5 HT
      clear hx hb
      go_wp2_with (at_mapUpdate; refine wp_put _ rfl _ _ _ rfl keyPlc Try.underlying88 (keyR x) true (HM.out.alloc (.cells #[.int .i64 x.addr, .int .i64 x.len, .int .i64 x.inn, .int .i64 x.prio, .int .i64 x.kind, .int .i64 x.port] 58)) rfl rfl rfl ?_; intro w2 hm2 hg2 hs2)
      go_roundw
      case rel =>
        have hlt := HM.out.lt
        refine ⟨k + 1, _, by omega, by go_num, HT.out, hm2, below_grown (w := w) (below_alloc KB.out _) hg2 (by omega), ?_⟩
        exact (hg2.block _ (by simp; omega) (by intro h; simp at h)).trans (heapO HX.out _)
      case measure => simp [intOf]; omega
    · obtain rfl : k = l.length := by omega
      have hlen := fun ty => HM.out.run_len (P := Try.prog) Try.underlying88 ty
      simp only [goInt] at hlen
      have hse := HS.out
      rw [List.take_length] at hse
      have HSE := Aside.mk hse
      have hml := hse.2.1
      have HR := Aside.mk (show rulesP p l = (decide (l.length ≤ 40) && decide ((l.map keyR).Nodup) && l.all (okR p)) from rfl)
      have hlx := blk_lt HX.out
      have y1 := blk_cell HX.out 1
      simp at y1
      have HY := Aside.mk y1
      clear hse hb y1
      by_cases h40 : l.length ≤ 40
      · have d1 : decide ((l.length : Int) ≤ 40) = true := decide_eq_true (by omega)
        by_cases hnd : m.length = l.length
        · have d2 : ((m.length : Int) == (l.length : Int)) = true := by rw [hnd]; exact beq_self_eq_true _
          have HR2 : Aside (rulesP p l = (l.all (okR p))) := .mk (by rw [HR.out, decide_eq_true h40, decide_eq_true (HSE.out.2.2.1 hnd)]; simp)
          clear hnd h40
          go_wp2_with (go_at_call 49; refine (containsS_any l C d p w.heap.size _ (HL.out.below KB.out) HY.out hlx).mono ?_; rintro e w1 ⟨rfl, hb1⟩; have KB := Aside.mk (below_call KB.out hb1); clear hb1)
          go_ret
          exact ⟨ret_bool HR2.out.symm, KB.out⟩
        · have d2 : ((m.length : Int) == (l.length : Int)) = false := beq_false_of_ne (fun h => hnd (Int.ofNat.inj h))
          have HR2 : Aside (rulesP p l = false) := .mk (by rw [HR.out, decide_eq_false (fun h => hnd (HSE.out.2.2.2 h))]; simp)
          clear hnd h40
          go_wp2
          go_ret
          exact ⟨ret_bool HR2.out.symm, KB.out⟩
      · have d1 : decide ((l.length : Int) ≤ 40) = false := decide_eq_false (by omega)
        have HR2 : Aside (rulesP p l = false) := .mk (by rw [HR.out, decide_eq_false h40]; rfl)
        clear h40
        go_wp2
        go_ret
        exact ⟨ret_bool HR2.out.symm, KB.out⟩
end Go.Proofs.Ytlnnkkbcmidddaa
