/- The walks through what rules are compared by: cmp.Compare, cmp.Or, ranked.compare. -/
import Derived.Test.YtlnnkkbcmidddaaSortQ
import Derived.Test.YtlnnkkbcmidddaaBitsH
namespace Go.Proofs.Ytlnnkkbcmidddaa
open Go.RowKit
set_option maxRecDepth 100000

def cmpI (a b : Int) : Int := if a < b then -1 else if b < a then 1 else 0
theorem isNaN_any (a : Int) (w : World) : Calls Try.prog 79 #[.int .i64 a] w fun e w' => e = .returned (.bool false) ∧ w' = w := by
  go_enter Try.func79, Try.ntmps79
  go_wp2
  go_ret
  exact ⟨by simp, rfl⟩
theorem cmp_any (a b : Int) (w : World) : Calls Try.prog 70 #[.int .i64 a, .int .i64 b] w fun e w' => e = .returned (.int .i64 (cmpI a b)) ∧ w' = w := by
  by_cases h1 : a < b
  · have d1 : decide (a < b) = true := decide_eq_true h1
    have e1 : cmpI a b = -1 := by unfold cmpI; rw [if_pos h1]
    rw [e1]
    go_enter Try.func70, Try.ntmps70
    go_wp2_with (go_at_call 79; refine (isNaN_any _ _).mono ?_; rintro e w1 ⟨rfl, rfl⟩)
    go_ret
    exact ⟨rfl, rfl⟩
  · have d1 : decide (a < b) = false := decide_eq_false h1
    by_cases h2 : b < a
    · have d2 : decide (b < a) = true := decide_eq_true h2
      have e1 : cmpI a b = 1 := by unfold cmpI; rw [if_neg h1, if_pos h2]
      rw [e1]
      go_enter Try.func70, Try.ntmps70
      go_wp2_with (go_at_call 79; refine (isNaN_any _ _).mono ?_; rintro e w1 ⟨rfl, rfl⟩)
      go_ret
      exact ⟨rfl, rfl⟩
    · have d2 : decide (b < a) = false := decide_eq_false h2
      have e1 : cmpI a b = 0 := by unfold cmpI; rw [if_neg h1, if_neg h2]
      rw [e1]
      go_enter Try.func70, Try.ntmps70
      go_wp2_with (go_at_call 79; refine (isNaN_any _ _).mono ?_; rintro e w1 ⟨rfl, rfl⟩)
      go_ret
      exact ⟨rfl, rfl⟩
/-- The first of four that is not 0. -/
def or4 (a b c d : Int) : Int := if a ≠ 0 then a else if b ≠ 0 then b else if c ≠ 0 then c else d
theorem or_any (x0 x1 x2 x3 : Int) (q : Nat) (w : World) (h : w.heap[q]? = some (.cells #[.int .i64 x0, .int .i64 x1, .int .i64 x2, .int .i64 x3] 3)) :
    Calls Try.prog 69 #[.slice (some ⟨q, 0, none⟩) 4 4] w fun e w' => e = .returned (.int .i64 (or4 x0 x1 x2 x3)) ∧ w' = w := by
  have p0 := blk_cell h 0
  have p1 := blk_cell h 1
  have p2 := blk_cell h 2
  have p3 := blk_cell h 3
  simp at p0 p1 p2 p3
  clear h
  go_enter Try.func69, Try.ntmps69
  go_wp2
  go_loop [8] (fun i => (i = .int .i64 0) ∨ (i = .int .i64 1 ∧ x0 = 0) ∨ (i = .int .i64 2 ∧ x0 = 0 ∧ x1 = 0) ∨ (i = .int .i64 3 ∧ x0 = 0 ∧ x1 = 0 ∧ x2 = 0) ∨ (i = .int .i64 4 ∧ x0 = 0 ∧ x1 = 0 ∧ x2 = 0 ∧ x3 = 0)) (fun i => 4 - (intOf i).toNat)
  case atStart => exact .inl rfl
  case round =>
    rcases hrel with rfl | ⟨rfl, rfl⟩ | ⟨rfl, rfl, rfl⟩ | ⟨rfl, rfl, rfl, rfl⟩ | ⟨rfl, rfl, rfl, rfl, rfl⟩
    · cases h0 : (x0 != 0)
      · have e0 : x0 = 0 := by simpa using h0
        go_wp2
        exact ⟨by simp [e0], by decide⟩
      · have e0 : x0 ≠ 0 := by simpa using h0
        go_wp2
        go_ret
        exact ⟨ret_int (by unfold or4; rw [if_pos e0]), rfl⟩
    · cases h0 : (x1 != 0)
      · have e0 : x1 = 0 := by simpa using h0
        go_wp2
        exact ⟨by simp [e0], by decide⟩
      · have e0 : x1 ≠ 0 := by simpa using h0
        go_wp2
        go_ret
        exact ⟨ret_int (by unfold or4; simp [e0]), rfl⟩
    · cases h0 : (x2 != 0)
      · have e0 : x2 = 0 := by simpa using h0
        go_wp2
        exact ⟨by simp [e0], by decide⟩
      · have e0 : x2 ≠ 0 := by simpa using h0
        go_wp2
        go_ret
        exact ⟨ret_int (by unfold or4; simp [e0]), rfl⟩
    · cases h0 : (x3 != 0)
      · have e0 : x3 = 0 := by simpa using h0
        go_wp2
        exact ⟨by simp [e0], by decide⟩
      · have e0 : x3 ≠ 0 := by simpa using h0
        go_wp2
        go_ret
        exact ⟨ret_int (by unfold or4; simp), rfl⟩
    · go_wp2
      go_ret
      exact ⟨ret_int (by unfold or4; simp), rfl⟩
/-- By which one counts. -/
def cntI (a b : Rul) : Int := if aheadI a b = true then -1 else if aheadI b a = true then 1 else 0
theorem compare_any (a b : Rul) (w : World) : Calls Try.prog 68 #[rulV a, rulV b] w fun e w' => e = .returned (.int .i64 (cntI a b)) ∧ Below w.heap.size w w' := by
  have HB := Aside.mk (below_alloc (below_alloc (Below.refl _ w) (.cells #[.int .i64 a.addr, .int .i64 a.len, .int .i64 a.inn, .int .i64 a.prio, .int .i64 a.kind, .int .i64 a.port] 110)) (.cells #[.int .i64 b.addr, .int .i64 b.len, .int .i64 b.inn, .int .i64 b.prio, .int .i64 b.kind, .int .i64 b.port] 58))
  cases h1 : aheadI a b
  · have H1 := Aside.mk h1
    cases h2 : aheadI b a
    · have e1 : cntI a b = 0 := by unfold cntI; rw [h1, h2]; rfl
      have H2 := Aside.mk h2
      rw [e1]
      clear h1 h2
      go_enter Try.func68, Try.ntmps68
      go_wp2_with (first
        | (have hfl := HFL; clear hfl; go_at_call 52; refine (ahead_any b a _).mono ?_; rw [H2.out]; rintro e w2 ⟨rfl, hb2⟩; have HB := Aside.mk (below_call HB.out hb2); clear hb2)
        | (go_at_call 52; refine (ahead_any a b _).mono ?_; rw [H1.out]; rintro e w1 ⟨rfl, hb1⟩; have HFL : Aside True := .mk trivial; have HB := Aside.mk (below_call HB.out hb1); have b1 := blk_keep (heapO (heapN w (.cells #[.int .i64 a.addr, .int .i64 a.len, .int .i64 a.inn, .int .i64 a.prio, .int .i64 a.kind, .int .i64 a.port] 110) rfl) (.cells #[.int .i64 b.addr, .int .i64 b.len, .int .i64 b.inn, .int .i64 b.prio, .int .i64 b.kind, .int .i64 b.port] 58)) hb1; have b2 := blk_keep (heapN (w.alloc (.cells #[.int .i64 a.addr, .int .i64 a.len, .int .i64 a.inn, .int .i64 a.prio, .int .i64 a.kind, .int .i64 a.port] 110)) (.cells #[.int .i64 b.addr, .int .i64 b.len, .int .i64 b.inn, .int .i64 b.prio, .int .i64 b.kind, .int .i64 b.port] 58) rfl) hb1; simp only [World.size_alloc] at b2; have x0 := blk_cell b1 0; have x1 := blk_cell b1 1; have x2 := blk_cell b1 2; have x3 := blk_cell b1 3; have x4 := blk_cell b1 4; have x5 := blk_cell b1 5; have y0 := blk_cell b2 0; have y1 := blk_cell b2 1; have y2 := blk_cell b2 2; have y3 := blk_cell b2 3; have y4 := blk_cell b2 4; have y5 := blk_cell b2 5; simp at x0 x1 x2 x3 x4 x5 y0 y1 y2 y3 y4 y5; clear hb1 b1 b2))
      go_ret
      exact ⟨rfl, HB.out⟩
    · have e1 : cntI a b = 1 := by unfold cntI; rw [h1, h2]; rfl
      have H2 := Aside.mk h2
      rw [e1]
      clear h1 h2
      go_enter Try.func68, Try.ntmps68
      go_wp2_with (first
        | (have hfl := HFL; clear hfl; go_at_call 52; refine (ahead_any b a _).mono ?_; rw [H2.out]; rintro e w2 ⟨rfl, hb2⟩; have HB := Aside.mk (below_call HB.out hb2); clear hb2)
        | (go_at_call 52; refine (ahead_any a b _).mono ?_; rw [H1.out]; rintro e w1 ⟨rfl, hb1⟩; have HFL : Aside True := .mk trivial; have HB := Aside.mk (below_call HB.out hb1); have b1 := blk_keep (heapO (heapN w (.cells #[.int .i64 a.addr, .int .i64 a.len, .int .i64 a.inn, .int .i64 a.prio, .int .i64 a.kind, .int .i64 a.port] 110) rfl) (.cells #[.int .i64 b.addr, .int .i64 b.len, .int .i64 b.inn, .int .i64 b.prio, .int .i64 b.kind, .int .i64 b.port] 58)) hb1; have b2 := blk_keep (heapN (w.alloc (.cells #[.int .i64 a.addr, .int .i64 a.len, .int .i64 a.inn, .int .i64 a.prio, .int .i64 a.kind, .int .i64 a.port] 110)) (.cells #[.int .i64 b.addr, .int .i64 b.len, .int .i64 b.inn, .int .i64 b.prio, .int .i64 b.kind, .int .i64 b.port] 58) rfl) hb1; simp only [World.size_alloc] at b2; have x0 := blk_cell b1 0; have x1 := blk_cell b1 1; have x2 := blk_cell b1 2; have x3 := blk_cell b1 3; have x4 := blk_cell b1 4; have x5 := blk_cell b1 5; have y0 := blk_cell b2 0; have y1 := blk_cell b2 1; have y2 := blk_cell b2 2; have y3 := blk_cell b2 3; have y4 := blk_cell b2 4; have y5 := blk_cell b2 5; simp at x0 x1 x2 x3 x4 x5 y0 y1 y2 y3 y4 y5; clear hb1 b1 b2))
      go_ret
      exact ⟨rfl, HB.out⟩
  · have H1 := Aside.mk h1
    have e1 : cntI a b = -1 := by unfold cntI; rw [h1]; rfl
    rw [e1]
    clear h1
    go_enter Try.func68, Try.ntmps68
    go_wp2_with (go_at_call 52; refine (ahead_any a b _).mono ?_; rw [H1.out]; rintro e w1 ⟨rfl, hb1⟩; have HB := Aside.mk (below_call HB.out hb1); clear hb1)
    go_ret
    exact ⟨rfl, HB.out⟩
end Go.Proofs.Ytlnnkkbcmidddaa
