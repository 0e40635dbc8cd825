/- The walk through PathLonger. -/
import Derived.Test.YtonddgchifmocaaPathB
import Derived.Test.YtonddgchifmocaaPut
namespace Go.Proofs.Ytonddgchifmocaa
open Go.RowKit
set_option maxRecDepth 100000
/-- sameH_any at lengths that are told otherwise. -/
theorem sameH_two (a b : List Hop) (A B : Option Addr) (c d : Nat) (w : World) (n m : Nat) (hn : a.length = n) (hm : b.length = m) (ha : Rd hopD w A n a) (hb : Rd hopD w B m b) :
    Calls Try.prog 13 #[.slice A n c, .slice B m d] w fun e w' => e = .returned (.bool (decide (a = b))) ∧ Below w.heap.size w w' := by
  subst hn hm
  exact sameH_any a b A B c d w ha hb
theorem keepL_last {l : List Hop} {m : Nat} (h : l.length = m + 1) : keepL l = if l[m].what = 5 then m else m + 1 := by
  have hl : l.getLast? = some l[m] := by rw [List.getLast?_eq_getElem?, show l.length - 1 = m by omega]; exact List.getElem?_eq_getElem _
  unfold keepL
  rw [hl]
  simp [h]

def plgB (la lb : List Hop) (ga ca gb cb m n : Nat) (w : World) (w' : World) : Prop :=
  Below w.heap.size w w' ∧ Rd hopD w' (some ⟨ga, 0, none⟩) (m + 1) la ∧ Rd hopD w' (some ⟨gb, 0, none⟩) lb.length lb
def plgF (la lb : List Hop) (ga ca gb cb m n : Nat) (w : World) : List (Value → Value → World → Prop) :=
  [fun _ v _ => v = .slice (some ⟨ga, 0, none⟩) (m + 1) ca,
   fun _ v _ => v = .int .i64 n,
   fun _ v _ => v = .slice (some ⟨ga, 0, none⟩) n ca,
   fun _ v _ => v = .slice (some ⟨gb, 0, none⟩) lb.length cb,
   fun _ v _ => v = .int .i64 n,
   fun _ v _ => v = .slice (some ⟨gb, 0, none⟩) n cb,
   fun _ v _ => v = .bool true,
   fun _ v _ => v = .bool true]
def plgQ : Nat → Nat := fun i => i
theorem plgF_stay (la lb : List Hop) (ga ca gb cb m n : Nat) (w : World) : AllStay (plgF la lb ga ca gb cb m n w) := by
  intro F hF u v w' w'' hb h
  simp only [plgF, List.mem_cons, List.not_mem_nil, or_false] at hF
  rcases hF with rfl | rfl | rfl | rfl | rfl | rfl | rfl | rfl
  · exact h
  · exact h
  · exact h
  · exact h
  · exact h
  · exact h
  · exact h
  · exact h
theorem plgB_stay (la lb : List Hop) (ga ca gb cb m n : Nat) (w : World) : Stays (plgB la lb ga ca gb cb m n w) := by
  intro w' w'' hb h
  exact ⟨below_call h.1 hb, h.2.1.below hb, h.2.2.below hb⟩
set_option maxHeartbeats 4000000 in
theorem pathLonger0_part (s p : Int) (A : Option Addr) (c : Nat) (ls : List Lnk) (B : Option Addr) (k : Nat) (cs : List (List Rul)) (f : Fly) (more : Int) (w : World) (hl : Rd lnkD w A ls.length ls) (_ : FitT s p c ls) (hc : Rd confD w B cs.length cs) (_ : ∀ l ∈ cs, ∀ r ∈ l, FitR r) (_ : cs.length ≤ k) (hf : FitF f) (_ : Fit more) (hfew : fewL cs = false) :
    Calls Try.prog 8 #[.agg #[.int .i64 s, .int .i64 p, .slice A ls.length c], .slice B cs.length k, flyV f, .int .i64 more] w fun e w' => e = .returned (.bool true) ∧ Below w.heap.size w w' := by
  have hmx := hl.max
  have HF := Aside.mk hf.2.2.2.1
  have HL := Aside.mk (hl.below (below_alloc (below_alloc (Below.refl _ w) (.cells #[.int .i64 s, .int .i64 p, .slice A ls.length c] 24)) (.cells #[.int .i64 f.id, .int .i64 f.src, .int .i64 f.dst, .int .i64 f.ttl, .int .i64 f.tag, .int .i64 f.sw, .int .i64 f.inn] 30)))
  have HC := Aside.mk (hc.below (below_alloc (below_alloc (Below.refl _ w) (.cells #[.int .i64 s, .int .i64 p, .slice A ls.length c] 24)) (.cells #[.int .i64 f.id, .int .i64 f.src, .int .i64 f.dst, .int .i64 f.ttl, .int .i64 f.tag, .int .i64 f.sw, .int .i64 f.inn] 30)))
  have KB := Aside.mk (below_alloc (below_alloc (Below.refl _ w) (.cells #[.int .i64 s, .int .i64 p, .slice A ls.length c] 24)) (.cells #[.int .i64 f.id, .int .i64 f.src, .int .i64 f.dst, .int .i64 f.ttl, .int .i64 f.tag, .int .i64 f.sw, .int .i64 f.inn] 30))
  have HX := Aside.mk (heap_old (heap_new w (.cells #[.int .i64 s, .int .i64 p, .slice A ls.length c] 24) rfl) (.cells #[.int .i64 f.id, .int .i64 f.src, .int .i64 f.dst, .int .i64 f.ttl, .int .i64 f.tag, .int .i64 f.sw, .int .i64 f.inn] 30))
  have HY := Aside.mk (heap_new (w.alloc (.cells #[.int .i64 s, .int .i64 p, .slice A ls.length c] 24)) (.cells #[.int .i64 f.id, .int .i64 f.src, .int .i64 f.dst, .int .i64 f.ttl, .int .i64 f.tag, .int .i64 f.sw, .int .i64 f.inn] 30) rfl)
  simp only [World.size_alloc] at HX HY
  have hlo := hf.2.2.2.1.lo
  have hhi := hf.2.2.2.1.hi
  clear hl hc hf
  go_enter Try.func8, Try.ntmps8
  go_wp2_with (first
    | (go_at_call 9; refine (awake13_any _).mono ?_; rintro e w1 ⟨rfl, hb1⟩; have HL := Aside.mk (HL.out.below hb1); have HC := Aside.mk (HC.out.below hb1); have KB := Aside.mk (below_call KB.out hb1); have HX := Aside.mk (blk_keep HX.out hb1); have HY := Aside.mk (blk_keep HY.out hb1); have c0 := blk_cell HX.out 0; have c1 := blk_cell HX.out 1; have c2 := blk_cell HX.out 2; have y0 := blk_cell HY.out 0; have y1 := blk_cell HY.out 1; have y2 := blk_cell HY.out 2; have y3 := blk_cell HY.out 3; have y4 := blk_cell HY.out 4; have y5 := blk_cell HY.out 5; have y6 := blk_cell HY.out 6; simp at c0 c1 c2 y0 y1 y2 y3 y4 y5 y6; have hsz := blk_lt HY.out; have hsz0 := blk_lt HX.out; clear hb1)
    | (go_at_call 10; refine (few_any _ _ _ _ HC.out).mono ?_; rw [hfew]; rintro e w2 ⟨rfl, rfl⟩))
  go_ret
  exact ⟨rfl, KB.out⟩
set_option maxHeartbeats 4000000 in
theorem pathLonger1_part (s p : Int) (A : Option Addr) (c : Nat) (ls : List Lnk) (B : Option Addr) (k : Nat) (cs : List (List Rul)) (f : Fly) (more : Int) (w : World) (hl : Rd lnkD w A ls.length ls) (_ : FitT s p c ls) (hc : Rd confD w B cs.length cs) (_ : ∀ l ∈ cs, ∀ r ∈ l, FitR r) (_ : cs.length ≤ k) (hf : FitF f) (_ : Fit more) (hfew : fewL cs = true) (h60 : ¬ ls.length ≤ 60) :
    Calls Try.prog 8 #[.agg #[.int .i64 s, .int .i64 p, .slice A ls.length c], .slice B cs.length k, flyV f, .int .i64 more] w fun e w' => e = .returned (.bool true) ∧ Below w.heap.size w w' := by
  have hmx := hl.max
  have HF := Aside.mk hf.2.2.2.1
  have HL := Aside.mk (hl.below (below_alloc (below_alloc (Below.refl _ w) (.cells #[.int .i64 s, .int .i64 p, .slice A ls.length c] 24)) (.cells #[.int .i64 f.id, .int .i64 f.src, .int .i64 f.dst, .int .i64 f.ttl, .int .i64 f.tag, .int .i64 f.sw, .int .i64 f.inn] 30)))
  have HC := Aside.mk (hc.below (below_alloc (below_alloc (Below.refl _ w) (.cells #[.int .i64 s, .int .i64 p, .slice A ls.length c] 24)) (.cells #[.int .i64 f.id, .int .i64 f.src, .int .i64 f.dst, .int .i64 f.ttl, .int .i64 f.tag, .int .i64 f.sw, .int .i64 f.inn] 30)))
  have KB := Aside.mk (below_alloc (below_alloc (Below.refl _ w) (.cells #[.int .i64 s, .int .i64 p, .slice A ls.length c] 24)) (.cells #[.int .i64 f.id, .int .i64 f.src, .int .i64 f.dst, .int .i64 f.ttl, .int .i64 f.tag, .int .i64 f.sw, .int .i64 f.inn] 30))
  have HX := Aside.mk (heap_old (heap_new w (.cells #[.int .i64 s, .int .i64 p, .slice A ls.length c] 24) rfl) (.cells #[.int .i64 f.id, .int .i64 f.src, .int .i64 f.dst, .int .i64 f.ttl, .int .i64 f.tag, .int .i64 f.sw, .int .i64 f.inn] 30))
  have HY := Aside.mk (heap_new (w.alloc (.cells #[.int .i64 s, .int .i64 p, .slice A ls.length c] 24)) (.cells #[.int .i64 f.id, .int .i64 f.src, .int .i64 f.dst, .int .i64 f.ttl, .int .i64 f.tag, .int .i64 f.sw, .int .i64 f.inn] 30) rfl)
  simp only [World.size_alloc] at HX HY
  have hlo := hf.2.2.2.1.lo
  have hhi := hf.2.2.2.1.hi
  clear hl hc hf
  have d60 : decide ((60 : Int) < (ls.length : Int)) = true := decide_eq_true (by omega)
  go_enter Try.func8, Try.ntmps8
  go_wp2_with (first
    | (go_at_call 9; refine (awake13_any _).mono ?_; rintro e w1 ⟨rfl, hb1⟩; have HL := Aside.mk (HL.out.below hb1); have HC := Aside.mk (HC.out.below hb1); have KB := Aside.mk (below_call KB.out hb1); have HX := Aside.mk (blk_keep HX.out hb1); have HY := Aside.mk (blk_keep HY.out hb1); have c0 := blk_cell HX.out 0; have c1 := blk_cell HX.out 1; have c2 := blk_cell HX.out 2; have y0 := blk_cell HY.out 0; have y1 := blk_cell HY.out 1; have y2 := blk_cell HY.out 2; have y3 := blk_cell HY.out 3; have y4 := blk_cell HY.out 4; have y5 := blk_cell HY.out 5; have y6 := blk_cell HY.out 6; simp at c0 c1 c2 y0 y1 y2 y3 y4 y5 y6; have hsz := blk_lt HY.out; have hsz0 := blk_lt HX.out; clear hb1)
    | (go_at_call 10; refine (few_any _ _ _ _ HC.out).mono ?_; rw [hfew]; rintro e w2 ⟨rfl, rfl⟩))
  go_ret
  exact ⟨rfl, KB.out⟩
set_option maxHeartbeats 4000000 in
theorem pathLonger2_part (s p : Int) (A : Option Addr) (c : Nat) (ls : List Lnk) (B : Option Addr) (k : Nat) (cs : List (List Rul)) (f : Fly) (more : Int) (w : World) (hl : Rd lnkD w A ls.length ls) (_ : FitT s p c ls) (hc : Rd confD w B cs.length cs) (_ : ∀ l ∈ cs, ∀ r ∈ l, FitR r) (_ : cs.length ≤ k) (hf : FitF f) (_ : Fit more) (hfew : fewL cs = true) (h60 : ls.length ≤ 60) (t0 : f.ttl < 0) :
    Calls Try.prog 8 #[.agg #[.int .i64 s, .int .i64 p, .slice A ls.length c], .slice B cs.length k, flyV f, .int .i64 more] w fun e w' => e = .returned (.bool true) ∧ Below w.heap.size w w' := by
  have hmx := hl.max
  have HF := Aside.mk hf.2.2.2.1
  have HL := Aside.mk (hl.below (below_alloc (below_alloc (Below.refl _ w) (.cells #[.int .i64 s, .int .i64 p, .slice A ls.length c] 24)) (.cells #[.int .i64 f.id, .int .i64 f.src, .int .i64 f.dst, .int .i64 f.ttl, .int .i64 f.tag, .int .i64 f.sw, .int .i64 f.inn] 30)))
  have HC := Aside.mk (hc.below (below_alloc (below_alloc (Below.refl _ w) (.cells #[.int .i64 s, .int .i64 p, .slice A ls.length c] 24)) (.cells #[.int .i64 f.id, .int .i64 f.src, .int .i64 f.dst, .int .i64 f.ttl, .int .i64 f.tag, .int .i64 f.sw, .int .i64 f.inn] 30)))
  have KB := Aside.mk (below_alloc (below_alloc (Below.refl _ w) (.cells #[.int .i64 s, .int .i64 p, .slice A ls.length c] 24)) (.cells #[.int .i64 f.id, .int .i64 f.src, .int .i64 f.dst, .int .i64 f.ttl, .int .i64 f.tag, .int .i64 f.sw, .int .i64 f.inn] 30))
  have HX := Aside.mk (heap_old (heap_new w (.cells #[.int .i64 s, .int .i64 p, .slice A ls.length c] 24) rfl) (.cells #[.int .i64 f.id, .int .i64 f.src, .int .i64 f.dst, .int .i64 f.ttl, .int .i64 f.tag, .int .i64 f.sw, .int .i64 f.inn] 30))
  have HY := Aside.mk (heap_new (w.alloc (.cells #[.int .i64 s, .int .i64 p, .slice A ls.length c] 24)) (.cells #[.int .i64 f.id, .int .i64 f.src, .int .i64 f.dst, .int .i64 f.ttl, .int .i64 f.tag, .int .i64 f.sw, .int .i64 f.inn] 30) rfl)
  simp only [World.size_alloc] at HX HY
  have hlo := hf.2.2.2.1.lo
  have hhi := hf.2.2.2.1.hi
  clear hl hc hf
  have HZ := Aside.mk (few_small hfew)
  have d60 : decide ((60 : Int) < (ls.length : Int)) = false := decide_eq_false (by omega)
  have d1 : decide (f.ttl < 0) = true := decide_eq_true (by omega)
  go_enter Try.func8, Try.ntmps8
  go_wp2_with (first
    | (go_at_call 9; refine (awake13_any _).mono ?_; rintro e w1 ⟨rfl, hb1⟩; have HL := Aside.mk (HL.out.below hb1); have HC := Aside.mk (HC.out.below hb1); have KB := Aside.mk (below_call KB.out hb1); have HX := Aside.mk (blk_keep HX.out hb1); have HY := Aside.mk (blk_keep HY.out hb1); have c0 := blk_cell HX.out 0; have c1 := blk_cell HX.out 1; have c2 := blk_cell HX.out 2; have y0 := blk_cell HY.out 0; have y1 := blk_cell HY.out 1; have y2 := blk_cell HY.out 2; have y3 := blk_cell HY.out 3; have y4 := blk_cell HY.out 4; have y5 := blk_cell HY.out 5; have y6 := blk_cell HY.out 6; simp at c0 c1 c2 y0 y1 y2 y3 y4 y5 y6; have hsz := blk_lt HY.out; have hsz0 := blk_lt HX.out; clear hb1)
    | (go_at_call 10; refine (few_any _ _ _ _ HC.out).mono ?_; rw [hfew]; rintro e w2 ⟨rfl, rfl⟩))
  go_ret
  exact ⟨rfl, KB.out⟩
set_option maxHeartbeats 4000000 in
theorem pathLonger3_part (s p : Int) (A : Option Addr) (c : Nat) (ls : List Lnk) (B : Option Addr) (k : Nat) (cs : List (List Rul)) (f : Fly) (more : Int) (w : World) (hl : Rd lnkD w A ls.length ls) (_ : FitT s p c ls) (hc : Rd confD w B cs.length cs) (_ : ∀ l ∈ cs, ∀ r ∈ l, FitR r) (_ : cs.length ≤ k) (hf : FitF f) (_ : Fit more) (hfew : fewL cs = true) (h60 : ls.length ≤ 60) (t0 : ¬ f.ttl < 0) (t1 : more < 0) :
    Calls Try.prog 8 #[.agg #[.int .i64 s, .int .i64 p, .slice A ls.length c], .slice B cs.length k, flyV f, .int .i64 more] w fun e w' => e = .returned (.bool true) ∧ Below w.heap.size w w' := by
  have hmx := hl.max
  have HF := Aside.mk hf.2.2.2.1
  have HL := Aside.mk (hl.below (below_alloc (below_alloc (Below.refl _ w) (.cells #[.int .i64 s, .int .i64 p, .slice A ls.length c] 24)) (.cells #[.int .i64 f.id, .int .i64 f.src, .int .i64 f.dst, .int .i64 f.ttl, .int .i64 f.tag, .int .i64 f.sw, .int .i64 f.inn] 30)))
  have HC := Aside.mk (hc.below (below_alloc (below_alloc (Below.refl _ w) (.cells #[.int .i64 s, .int .i64 p, .slice A ls.length c] 24)) (.cells #[.int .i64 f.id, .int .i64 f.src, .int .i64 f.dst, .int .i64 f.ttl, .int .i64 f.tag, .int .i64 f.sw, .int .i64 f.inn] 30)))
  have KB := Aside.mk (below_alloc (below_alloc (Below.refl _ w) (.cells #[.int .i64 s, .int .i64 p, .slice A ls.length c] 24)) (.cells #[.int .i64 f.id, .int .i64 f.src, .int .i64 f.dst, .int .i64 f.ttl, .int .i64 f.tag, .int .i64 f.sw, .int .i64 f.inn] 30))
  have HX := Aside.mk (heap_old (heap_new w (.cells #[.int .i64 s, .int .i64 p, .slice A ls.length c] 24) rfl) (.cells #[.int .i64 f.id, .int .i64 f.src, .int .i64 f.dst, .int .i64 f.ttl, .int .i64 f.tag, .int .i64 f.sw, .int .i64 f.inn] 30))
  have HY := Aside.mk (heap_new (w.alloc (.cells #[.int .i64 s, .int .i64 p, .slice A ls.length c] 24)) (.cells #[.int .i64 f.id, .int .i64 f.src, .int .i64 f.dst, .int .i64 f.ttl, .int .i64 f.tag, .int .i64 f.sw, .int .i64 f.inn] 30) rfl)
  simp only [World.size_alloc] at HX HY
  have hlo := hf.2.2.2.1.lo
  have hhi := hf.2.2.2.1.hi
  clear hl hc hf
  have HZ := Aside.mk (few_small hfew)
  have d60 : decide ((60 : Int) < (ls.length : Int)) = false := decide_eq_false (by omega)
  have d1 : decide (f.ttl < 0) = false := decide_eq_false (by omega)
  have d2 : decide (more < 0) = true := decide_eq_true (by omega)
  go_enter Try.func8, Try.ntmps8
  go_wp2_with (first
    | (go_at_call 9; refine (awake13_any _).mono ?_; rintro e w1 ⟨rfl, hb1⟩; have HL := Aside.mk (HL.out.below hb1); have HC := Aside.mk (HC.out.below hb1); have KB := Aside.mk (below_call KB.out hb1); have HX := Aside.mk (blk_keep HX.out hb1); have HY := Aside.mk (blk_keep HY.out hb1); have c0 := blk_cell HX.out 0; have c1 := blk_cell HX.out 1; have c2 := blk_cell HX.out 2; have y0 := blk_cell HY.out 0; have y1 := blk_cell HY.out 1; have y2 := blk_cell HY.out 2; have y3 := blk_cell HY.out 3; have y4 := blk_cell HY.out 4; have y5 := blk_cell HY.out 5; have y6 := blk_cell HY.out 6; simp at c0 c1 c2 y0 y1 y2 y3 y4 y5 y6; have hsz := blk_lt HY.out; have hsz0 := blk_lt HX.out; clear hb1)
    | (go_at_call 10; refine (few_any _ _ _ _ HC.out).mono ?_; rw [hfew]; rintro e w2 ⟨rfl, rfl⟩))
  go_ret
  exact ⟨rfl, KB.out⟩
set_option maxHeartbeats 4000000 in
theorem pathLonger4_part (s p : Int) (A : Option Addr) (c : Nat) (ls : List Lnk) (B : Option Addr) (k : Nat) (cs : List (List Rul)) (f : Fly) (more : Int) (w : World) (hl : Rd lnkD w A ls.length ls) (_ : FitT s p c ls) (hc : Rd confD w B cs.length cs) (_ : ∀ l ∈ cs, ∀ r ∈ l, FitR r) (_ : cs.length ≤ k) (hf : FitF f) (_ : Fit more) (hfew : fewL cs = true) (h60 : ls.length ≤ 60) (t0 : ¬ f.ttl < 0) (t1 : ¬ more < 0) (t2 : 16 < f.ttl) :
    Calls Try.prog 8 #[.agg #[.int .i64 s, .int .i64 p, .slice A ls.length c], .slice B cs.length k, flyV f, .int .i64 more] w fun e w' => e = .returned (.bool true) ∧ Below w.heap.size w w' := by
  have hmx := hl.max
  have HF := Aside.mk hf.2.2.2.1
  have HL := Aside.mk (hl.below (below_alloc (below_alloc (Below.refl _ w) (.cells #[.int .i64 s, .int .i64 p, .slice A ls.length c] 24)) (.cells #[.int .i64 f.id, .int .i64 f.src, .int .i64 f.dst, .int .i64 f.ttl, .int .i64 f.tag, .int .i64 f.sw, .int .i64 f.inn] 30)))
  have HC := Aside.mk (hc.below (below_alloc (below_alloc (Below.refl _ w) (.cells #[.int .i64 s, .int .i64 p, .slice A ls.length c] 24)) (.cells #[.int .i64 f.id, .int .i64 f.src, .int .i64 f.dst, .int .i64 f.ttl, .int .i64 f.tag, .int .i64 f.sw, .int .i64 f.inn] 30)))
  have KB := Aside.mk (below_alloc (below_alloc (Below.refl _ w) (.cells #[.int .i64 s, .int .i64 p, .slice A ls.length c] 24)) (.cells #[.int .i64 f.id, .int .i64 f.src, .int .i64 f.dst, .int .i64 f.ttl, .int .i64 f.tag, .int .i64 f.sw, .int .i64 f.inn] 30))
  have HX := Aside.mk (heap_old (heap_new w (.cells #[.int .i64 s, .int .i64 p, .slice A ls.length c] 24) rfl) (.cells #[.int .i64 f.id, .int .i64 f.src, .int .i64 f.dst, .int .i64 f.ttl, .int .i64 f.tag, .int .i64 f.sw, .int .i64 f.inn] 30))
  have HY := Aside.mk (heap_new (w.alloc (.cells #[.int .i64 s, .int .i64 p, .slice A ls.length c] 24)) (.cells #[.int .i64 f.id, .int .i64 f.src, .int .i64 f.dst, .int .i64 f.ttl, .int .i64 f.tag, .int .i64 f.sw, .int .i64 f.inn] 30) rfl)
  simp only [World.size_alloc] at HX HY
  have hlo := hf.2.2.2.1.lo
  have hhi := hf.2.2.2.1.hi
  clear hl hc hf
  have HZ := Aside.mk (few_small hfew)
  have d60 : decide ((60 : Int) < (ls.length : Int)) = false := decide_eq_false (by omega)
  have d1 : decide (f.ttl < 0) = false := decide_eq_false (by omega)
  have d2 : decide (more < 0) = false := decide_eq_false (by omega)
  have d3 : decide (16 < f.ttl) = true := decide_eq_true (by omega)
  go_enter Try.func8, Try.ntmps8
  go_wp2_with (first
    | (go_at_call 9; refine (awake13_any _).mono ?_; rintro e w1 ⟨rfl, hb1⟩; have HL := Aside.mk (HL.out.below hb1); have HC := Aside.mk (HC.out.below hb1); have KB := Aside.mk (below_call KB.out hb1); have HX := Aside.mk (blk_keep HX.out hb1); have HY := Aside.mk (blk_keep HY.out hb1); have c0 := blk_cell HX.out 0; have c1 := blk_cell HX.out 1; have c2 := blk_cell HX.out 2; have y0 := blk_cell HY.out 0; have y1 := blk_cell HY.out 1; have y2 := blk_cell HY.out 2; have y3 := blk_cell HY.out 3; have y4 := blk_cell HY.out 4; have y5 := blk_cell HY.out 5; have y6 := blk_cell HY.out 6; simp at c0 c1 c2 y0 y1 y2 y3 y4 y5 y6; have hsz := blk_lt HY.out; have hsz0 := blk_lt HX.out; clear hb1)
    | (go_at_call 10; refine (few_any _ _ _ _ HC.out).mono ?_; rw [hfew]; rintro e w2 ⟨rfl, rfl⟩))
  go_ret
  exact ⟨rfl, KB.out⟩
set_option maxHeartbeats 4000000 in
theorem pathLonger5_part (s p : Int) (A : Option Addr) (c : Nat) (ls : List Lnk) (B : Option Addr) (k : Nat) (cs : List (List Rul)) (f : Fly) (more : Int) (w : World) (hl : Rd lnkD w A ls.length ls) (_ : FitT s p c ls) (hc : Rd confD w B cs.length cs) (_ : ∀ l ∈ cs, ∀ r ∈ l, FitR r) (_ : cs.length ≤ k) (hf : FitF f) (_ : Fit more) (hfew : fewL cs = true) (h60 : ls.length ≤ 60) (t0 : ¬ f.ttl < 0) (t1 : ¬ more < 0) (t2 : ¬ 16 < f.ttl) (t3 : 16 - f.ttl < more) :
    Calls Try.prog 8 #[.agg #[.int .i64 s, .int .i64 p, .slice A ls.length c], .slice B cs.length k, flyV f, .int .i64 more] w fun e w' => e = .returned (.bool true) ∧ Below w.heap.size w w' := by
  have hmx := hl.max
  have HF := Aside.mk hf.2.2.2.1
  have HL := Aside.mk (hl.below (below_alloc (below_alloc (Below.refl _ w) (.cells #[.int .i64 s, .int .i64 p, .slice A ls.length c] 24)) (.cells #[.int .i64 f.id, .int .i64 f.src, .int .i64 f.dst, .int .i64 f.ttl, .int .i64 f.tag, .int .i64 f.sw, .int .i64 f.inn] 30)))
  have HC := Aside.mk (hc.below (below_alloc (below_alloc (Below.refl _ w) (.cells #[.int .i64 s, .int .i64 p, .slice A ls.length c] 24)) (.cells #[.int .i64 f.id, .int .i64 f.src, .int .i64 f.dst, .int .i64 f.ttl, .int .i64 f.tag, .int .i64 f.sw, .int .i64 f.inn] 30)))
  have KB := Aside.mk (below_alloc (below_alloc (Below.refl _ w) (.cells #[.int .i64 s, .int .i64 p, .slice A ls.length c] 24)) (.cells #[.int .i64 f.id, .int .i64 f.src, .int .i64 f.dst, .int .i64 f.ttl, .int .i64 f.tag, .int .i64 f.sw, .int .i64 f.inn] 30))
  have HX := Aside.mk (heap_old (heap_new w (.cells #[.int .i64 s, .int .i64 p, .slice A ls.length c] 24) rfl) (.cells #[.int .i64 f.id, .int .i64 f.src, .int .i64 f.dst, .int .i64 f.ttl, .int .i64 f.tag, .int .i64 f.sw, .int .i64 f.inn] 30))
  have HY := Aside.mk (heap_new (w.alloc (.cells #[.int .i64 s, .int .i64 p, .slice A ls.length c] 24)) (.cells #[.int .i64 f.id, .int .i64 f.src, .int .i64 f.dst, .int .i64 f.ttl, .int .i64 f.tag, .int .i64 f.sw, .int .i64 f.inn] 30) rfl)
  simp only [World.size_alloc] at HX HY
  have hlo := hf.2.2.2.1.lo
  have hhi := hf.2.2.2.1.hi
  clear hl hc hf
  have HZ := Aside.mk (few_small hfew)
  have d60 : decide ((60 : Int) < (ls.length : Int)) = false := decide_eq_false (by omega)
  have d1 : decide (f.ttl < 0) = false := decide_eq_false (by omega)
  have d2 : decide (more < 0) = false := decide_eq_false (by omega)
  have d3 : decide (16 < f.ttl) = false := decide_eq_false (by omega)
  have hwr : ∀ x : Int, x = 16 - f.ttl → wrap64 x = x := fun x hx => IntWalk.wrap64_in _ (by omega)
  have d4 : decide (16 - f.ttl < more) = true := decide_eq_true (by omega)
  go_enter Try.func8, Try.ntmps8
  go_wp2_with (first
    | (go_at_call 9; refine (awake13_any _).mono ?_; rintro e w1 ⟨rfl, hb1⟩; have HL := Aside.mk (HL.out.below hb1); have HC := Aside.mk (HC.out.below hb1); have KB := Aside.mk (below_call KB.out hb1); have HX := Aside.mk (blk_keep HX.out hb1); have HY := Aside.mk (blk_keep HY.out hb1); have c0 := blk_cell HX.out 0; have c1 := blk_cell HX.out 1; have c2 := blk_cell HX.out 2; have y0 := blk_cell HY.out 0; have y1 := blk_cell HY.out 1; have y2 := blk_cell HY.out 2; have y3 := blk_cell HY.out 3; have y4 := blk_cell HY.out 4; have y5 := blk_cell HY.out 5; have y6 := blk_cell HY.out 6; simp at c0 c1 c2 y0 y1 y2 y3 y4 y5 y6; have hsz := blk_lt HY.out; have hsz0 := blk_lt HX.out; clear hb1)
    | (go_at_call 10; refine (few_any _ _ _ _ HC.out).mono ?_; rw [hfew]; rintro e w2 ⟨rfl, rfl⟩))
  go_ret
  exact ⟨rfl, KB.out⟩
set_option maxHeartbeats 4000000 in
theorem pathLonger6_part (s p : Int) (A : Option Addr) (c : Nat) (ls : List Lnk) (B : Option Addr) (k : Nat) (cs : List (List Rul)) (f : Fly) (more : Int) (w : World) (hl : Rd lnkD w A ls.length ls) (_ : FitT s p c ls) (hc : Rd confD w B cs.length cs) (_ : ∀ l ∈ cs, ∀ r ∈ l, FitR r) (_ : cs.length ≤ k) (hf : FitF f) (_ : Fit more) (hfew : fewL cs = true) (h60 : ls.length ≤ 60) (t0 : ¬ f.ttl < 0) (t1 : ¬ more < 0) (t2 : ¬ 16 < f.ttl) (t3 : ¬ 16 - f.ttl < more) (h5 : ∀ la, la = walkP s p ls cs f → ∀ m, (h : la.length = m + 1) → la[m].what = 5) :
    Calls Try.prog 8 #[.agg #[.int .i64 s, .int .i64 p, .slice A ls.length c], .slice B cs.length k, flyV f, .int .i64 more] w fun e w' => e = .returned (.bool true) ∧ Below w.heap.size w w' := by
  have hmx := hl.max
  have HF := Aside.mk hf.2.2.2.1
  have HL := Aside.mk (hl.below (below_alloc (below_alloc (Below.refl _ w) (.cells #[.int .i64 s, .int .i64 p, .slice A ls.length c] 24)) (.cells #[.int .i64 f.id, .int .i64 f.src, .int .i64 f.dst, .int .i64 f.ttl, .int .i64 f.tag, .int .i64 f.sw, .int .i64 f.inn] 30)))
  have HC := Aside.mk (hc.below (below_alloc (below_alloc (Below.refl _ w) (.cells #[.int .i64 s, .int .i64 p, .slice A ls.length c] 24)) (.cells #[.int .i64 f.id, .int .i64 f.src, .int .i64 f.dst, .int .i64 f.ttl, .int .i64 f.tag, .int .i64 f.sw, .int .i64 f.inn] 30)))
  have KB := Aside.mk (below_alloc (below_alloc (Below.refl _ w) (.cells #[.int .i64 s, .int .i64 p, .slice A ls.length c] 24)) (.cells #[.int .i64 f.id, .int .i64 f.src, .int .i64 f.dst, .int .i64 f.ttl, .int .i64 f.tag, .int .i64 f.sw, .int .i64 f.inn] 30))
  have HX := Aside.mk (heap_old (heap_new w (.cells #[.int .i64 s, .int .i64 p, .slice A ls.length c] 24) rfl) (.cells #[.int .i64 f.id, .int .i64 f.src, .int .i64 f.dst, .int .i64 f.ttl, .int .i64 f.tag, .int .i64 f.sw, .int .i64 f.inn] 30))
  have HY := Aside.mk (heap_new (w.alloc (.cells #[.int .i64 s, .int .i64 p, .slice A ls.length c] 24)) (.cells #[.int .i64 f.id, .int .i64 f.src, .int .i64 f.dst, .int .i64 f.ttl, .int .i64 f.tag, .int .i64 f.sw, .int .i64 f.inn] 30) rfl)
  simp only [World.size_alloc] at HX HY
  have hlo := hf.2.2.2.1.lo
  have hhi := hf.2.2.2.1.hi
  clear hl hc hf
  have HZ := Aside.mk (few_small hfew)
  have d60 : decide ((60 : Int) < (ls.length : Int)) = false := decide_eq_false (by omega)
  have d1 : decide (f.ttl < 0) = false := decide_eq_false (by omega)
  have d2 : decide (more < 0) = false := decide_eq_false (by omega)
  have d3 : decide (16 < f.ttl) = false := decide_eq_false (by omega)
  have hwr : ∀ x : Int, x = 16 - f.ttl → wrap64 x = x := fun x hx => IntWalk.wrap64_in _ (by omega)
  have d4 : decide (16 - f.ttl < more) = false := decide_eq_false (by omega)
  have hwa : ∀ x : Int, x = f.ttl + more → wrap64 x = x := fun x hx => IntWalk.wrap64_in _ (by omega)
  have hca : cap16 f = f := by unfold cap16; rw [show min f.ttl 16 = f.ttl by omega]
  have hcb : cap16 { f with ttl := f.ttl + more } = { f with ttl := f.ttl + more } := by unfold cap16; rw [show min (f.ttl + more) 16 = f.ttl + more by omega]
  have hfit2 : Fit (f.ttl + more) := WalkArith.wf_i64 ⟨by omega, by omega⟩
  have HF2 := Aside.mk (show Fit ({ f with ttl := f.ttl + more } : Fly).ttl from hfit2)
  have hposa := walkP_pos (s := s) (p := p) (ls := ls) (cs := cs) f
  have hposb := walkP_pos (s := s) (p := p) (ls := ls) (cs := cs) { f with ttl := f.ttl + more }
  have hlena := walkP_len (s := s) (p := p) (ls := ls) (cs := cs) f
  obtain ⟨hm1, hm2⟩ := walkP_more (s := s) (p := p) (ls := ls) (cs := cs) more (by omega) f
  have HW := show walkP s p ls cs (cap16 f) = walkP s p ls cs f by rw [hca]
  have HW2 := show walkP s p ls cs (cap16 { f with ttl := f.ttl + more }) = walkP s p ls cs { f with ttl := f.ttl + more } by rw [hcb]
  generalize hg : walkP s p ls cs f = la at hposa hlena hm1 hm2 HW
  generalize walkP s p ls cs { f with ttl := f.ttl + more } = lb at hposb hm1 hm2 HW2
  have HW := Aside.mk HW
  have HW2 := Aside.mk HW2
  obtain ⟨m, hm⟩ : ∃ m, la.length = m + 1 := ⟨la.length - 1, by omega⟩
  have hwm : ∀ x : Int, x = (m : Int) → wrap64 x = x := fun x hx => IntWalk.wrap64_in _ (by omega)
  have hkl := keepL_last hm
  have HT0 := Aside.mk hm2
  clear hm2 hca hcb
  replace h5 := h5 la hg.symm m hm
  have hm16 : m ≤ 16 := by omega
  clear hg hlena hlo hhi t0 t1 t2 t3 hposa
  have d5 : (la[m].what == 5) = true := by simp [h5]
  rw [if_pos h5] at hkl
  have HT := Aside.mk (show la.take m = lb.take m by have := HT0.out; rwa [hkl] at this)
  have hn2 : m ≤ lb.length := by omega
  have hn1 : m ≤ m + 1 := by omega
  have d6 : decide ((lb.length : Int) < (m : Int)) = false := decide_eq_false (by omega)
  clear hkl hm1 h5 HT0
  go_enter Try.func8, Try.ntmps8
  go_wp2_with (first
    | (go_at_call 9; refine (awake13_any _).mono ?_; rintro e w1 ⟨rfl, hb1⟩; have HL := Aside.mk (HL.out.below hb1); have HC := Aside.mk (HC.out.below hb1); have KB := Aside.mk (below_call KB.out hb1); have HX := Aside.mk (blk_keep HX.out hb1); have HY := Aside.mk (blk_keep HY.out hb1); have c0 := blk_cell HX.out 0; have c1 := blk_cell HX.out 1; have c2 := blk_cell HX.out 2; have y0 := blk_cell HY.out 0; have y1 := blk_cell HY.out 1; have y2 := blk_cell HY.out 2; have y3 := blk_cell HY.out 3; have y4 := blk_cell HY.out 4; have y5 := blk_cell HY.out 5; have y6 := blk_cell HY.out 6; simp at c0 c1 c2 y0 y1 y2 y3 y4 y5 y6; have hsz := blk_lt HY.out; have hsz0 := blk_lt HX.out; clear hb1)
    | (go_at_call 10; refine (few_any _ _ _ _ HC.out).mono ?_; rw [hfew]; rintro e w2 ⟨rfl, rfl⟩)
    | (have hA0 := HA; clear hA0; go_at_call 14; refine (walk_any s p A c ls B k cs { f with ttl := f.ttl + more } _ HL.out HC.out HZ.out HF2.out).mono ?_; rw [HW2.out]; rintro e w4 ⟨v, rfl, ho, hb1⟩; obtain ⟨gb, cb, rfl, hgb, hgb2, hcb⟩ := ho.addr hposb; obtain ⟨A1, k1, e1, -, hr⟩ := ho.rd; cases e1; have HV := Aside.mk hr; have HA := Aside.mk (HA.out.below hb1); have HL := Aside.mk (HL.out.below hb1); have HC := Aside.mk (HC.out.below hb1); have KB := Aside.mk (below_call KB.out hb1); have HX := Aside.mk (blk_keep HX.out hb1); have HY := Aside.mk (blk_keep HY.out hb1); have c0 := blk_cell HX.out 0; have c1 := blk_cell HX.out 1; have c2 := blk_cell HX.out 2; have y0 := blk_cell HY.out 0; have y1 := blk_cell HY.out 1; have y2 := blk_cell HY.out 2; have y3 := blk_cell HY.out 3; have y4 := blk_cell HY.out 4; have y5 := blk_cell HY.out 5; have y6 := blk_cell HY.out 6; simp at c0 c1 c2 y0 y1 y2 y3 y4 y5 y6; have hsz := blk_lt HY.out; have hsz0 := blk_lt HX.out; clear hb1; clear ho hr; obtain ⟨-, -, -, -, -, -, a5, -⟩ := hop_cells HA.out (Below.refl _ _) (k := m) (by omega); simp at a5)
    | (go_at_call 14; refine (walk_any s p A c ls B k cs f _ (HL.out.below (below_alloc (Below.refl _ _) (.cells #[.int .i64 f.id, .int .i64 f.src, .int .i64 f.dst, .int .i64 (f.ttl + more), .int .i64 f.tag, .int .i64 f.sw, .int .i64 f.inn] 30))) (HC.out.below (below_alloc (Below.refl _ _) (.cells #[.int .i64 f.id, .int .i64 f.src, .int .i64 f.dst, .int .i64 (f.ttl + more), .int .i64 f.tag, .int .i64 f.sw, .int .i64 f.inn] 30))) HZ.out HF.out).mono ?_; rw [HW.out]; rintro e w3 ⟨v, rfl, ho, hb1⟩; have KB := Aside.mk (below_alloc KB.out (.cells #[.int .i64 f.id, .int .i64 f.src, .int .i64 f.dst, .int .i64 (f.ttl + more), .int .i64 f.tag, .int .i64 f.sw, .int .i64 f.inn] 30)); have HM := Aside.mk (blk_keep (heap_new w2 (.cells #[.int .i64 f.id, .int .i64 f.src, .int .i64 f.dst, .int .i64 (f.ttl + more), .int .i64 f.tag, .int .i64 f.sw, .int .i64 f.inn] 30) rfl) hb1); have HX := Aside.mk (heap_old HX.out (.cells #[.int .i64 f.id, .int .i64 f.src, .int .i64 f.dst, .int .i64 (f.ttl + more), .int .i64 f.tag, .int .i64 f.sw, .int .i64 f.inn] 30)); have HY := Aside.mk (heap_old HY.out (.cells #[.int .i64 f.id, .int .i64 f.src, .int .i64 f.dst, .int .i64 (f.ttl + more), .int .i64 f.tag, .int .i64 f.sw, .int .i64 f.inn] 30)); have HL := Aside.mk (HL.out.below (below_alloc (Below.refl _ _) (.cells #[.int .i64 f.id, .int .i64 f.src, .int .i64 f.dst, .int .i64 (f.ttl + more), .int .i64 f.tag, .int .i64 f.sw, .int .i64 f.inn] 30))); have HC := Aside.mk (HC.out.below (below_alloc (Below.refl _ _) (.cells #[.int .i64 f.id, .int .i64 f.src, .int .i64 f.dst, .int .i64 (f.ttl + more), .int .i64 f.tag, .int .i64 f.sw, .int .i64 f.inn] 30))); obtain ⟨ga, ca, rfl, hga, hga2, hca⟩ := ho.addr (by omega); obtain ⟨A1, k1, e1, -, hr⟩ := ho.rd; cases e1; have HA := Aside.mk hr; have HL := Aside.mk (HL.out.below hb1); have HC := Aside.mk (HC.out.below hb1); have KB := Aside.mk (below_call KB.out hb1); have HX := Aside.mk (blk_keep HX.out hb1); have HY := Aside.mk (blk_keep HY.out hb1); have c0 := blk_cell HX.out 0; have c1 := blk_cell HX.out 1; have c2 := blk_cell HX.out 2; have y0 := blk_cell HY.out 0; have y1 := blk_cell HY.out 1; have y2 := blk_cell HY.out 2; have y3 := blk_cell HY.out 3; have y4 := blk_cell HY.out 4; have y5 := blk_cell HY.out 5; have y6 := blk_cell HY.out 6; simp at c0 c1 c2 y0 y1 y2 y3 y4 y5 y6; have hsz := blk_lt HY.out; have hsz0 := blk_lt HX.out; clear hb1; have g0 := blk_cell HM.out 0; have g1 := blk_cell HM.out 1; have g2 := blk_cell HM.out 2; have g3 := blk_cell HM.out 3; have g4 := blk_cell HM.out 4; have g5 := blk_cell HM.out 5; have g6 := blk_cell HM.out 6; simp at g0 g1 g2 g3 g4 g5 g6; have hsz2 := blk_lt HM.out; clear ho hr))
  refine wp_region_facts (Base := plgB la lb ga ca gb cb m m w) (q := plgQ) (Fs := plgF la lb ga ca gb cb m m w) (by kernel_rfl) (by kernel_rfl) (by kernel_rfl) (by kernel_rfl) ⟨below_drew KB.out, by have := HA.out; rwa [hm] at this, HV.out⟩ ?_ ?_
  · have hc1 : m ≤ ca := by omega
    have hc2 : m ≤ cb := by omega
    have hi0 : (0 : Int) ≤ (m : Int) + 1 := by omega
    have hi1 : m + 1 ≤ ca → (m : Int) + 1 ≤ (ca : Int) := by omega
    have hi2 : m + 1 ≤ cb → (m : Int) + 1 ≤ (cb : Int) := by omega
    try replace hi1 := hi1 hc1
    try replace hi2 := hi2 hc2
    clear HL HC KB HX HY HA HV HM
    have hBs := plgB_stay la lb ga ca gb cb m m w
    have hFs := plgF_stay la lb ga ca gb cb m m w
    refine ⟨?_, ?_, ?_, ?_, ?_, ?_, ?_, ?_, trivial⟩
    · refine step_pure hBs hFs rfl fun a' w' hB hag hp => ?_
      have h12 := hag 12 (by kernel_rfl)
      simp at h12
      unfold OpYields
      go_simp
      exact ⟨Below.refl _ _, rfl⟩
    · refine step_pure hBs hFs rfl fun a' w' hB hag hp => ?_
      have h14 := hag 14 (by kernel_rfl)
      simp at h14
      unfold OpYields
      go_simp
      exact ⟨Below.refl _ _, rfl⟩
    · refine step_pure hBs hFs rfl fun a' w' hB hag hp => ?_
      have h91 : a'.tmps.getD 91 undef = _ := hp 0 (by kernel_rfl)
      have h92 : a'.tmps.getD 92 undef = _ := hp 1 (by kernel_rfl)
      simp at h91 h92
      unfold OpYields
      go_simp
      exact ⟨Below.refl _ _, rfl⟩
    · refine step_pure hBs hFs rfl fun a' w' hB hag hp => ?_
      have h13 := hag 13 (by kernel_rfl)
      simp at h13
      unfold OpYields
      go_simp
      exact ⟨Below.refl _ _, rfl⟩
    · refine step_pure hBs hFs rfl fun a' w' hB hag hp => ?_
      have h14 := hag 14 (by kernel_rfl)
      simp at h14
      unfold OpYields
      go_simp
      exact ⟨Below.refl _ _, rfl⟩
    · refine step_pure hBs hFs rfl fun a' w' hB hag hp => ?_
      have h94 : a'.tmps.getD 94 undef = _ := hp 3 (by kernel_rfl)
      have h95 : a'.tmps.getD 95 undef = _ := hp 4 (by kernel_rfl)
      simp at h94 h95
      unfold OpYields
      go_simp
      exact ⟨Below.refl _ _, rfl⟩
    · refine step_pure hBs hFs rfl fun a' w' hB hag hp => ?_
      have h93 : a'.tmps.getD 93 undef = _ := hp 2 (by kernel_rfl)
      have h96 : a'.tmps.getD 96 undef = _ := hp 5 (by kernel_rfl)
      have r1 := Rd.take hB.2.1 (k := m) hn1
      have r2 := Rd.take hB.2.2 (k := m) hn2
      simp at h93 h96
      unfold OpYields
      go_simp
      refine (sameH_two _ _ _ _ _ _ w' m m r1.1 r2.1 r1 r2).mono ?_
      rintro e w1 ⟨rfl, hb⟩
      exact ⟨_, rfl, hb, by show Value.bool _ = Value.bool _; rw [HT.out]; simp⟩
    · refine step_pure hBs hFs rfl fun a' w' hB hag hp => ?_
      have h97 : a'.tmps.getD 97 undef = _ := hp 6 (by kernel_rfl)
      simp at h97
      unfold OpYields
      go_simp
      exact ⟨Below.refl _ _, rfl⟩
  intro vs w' hB hF
  simp only [AllF, forall_const, reduceCtorEq, false_implies, Fof, plgF, plgQ, Nat.zero_add, Nat.reduceAdd, Nat.reduceEqDiff, if_true, if_false, List.getD_cons_succ, List.getD_cons_zero] at hF
  obtain ⟨f0, f1, f2, f3, f4, f5, f6, f7, -⟩ := hF
  simp only [putAll, Act.put, Nat.zero_add, Nat.reduceAdd, f0, f1, f2, f3, f4, f5, f6, f7, List.setIfInBounds_toArray, List.set_cons_zero, List.set_cons_succ]
  have KB := Aside.mk hB.1
  clear hB
  go_wp2
  all_goals (go_ret; exact ⟨rfl, KB.out⟩)
set_option maxHeartbeats 4000000 in
theorem pathLonger7_part (s p : Int) (A : Option Addr) (c : Nat) (ls : List Lnk) (B : Option Addr) (k : Nat) (cs : List (List Rul)) (f : Fly) (more : Int) (w : World) (hl : Rd lnkD w A ls.length ls) (_ : FitT s p c ls) (hc : Rd confD w B cs.length cs) (_ : ∀ l ∈ cs, ∀ r ∈ l, FitR r) (_ : cs.length ≤ k) (hf : FitF f) (_ : Fit more) (hfew : fewL cs = true) (h60 : ls.length ≤ 60) (t0 : ¬ f.ttl < 0) (t1 : ¬ more < 0) (t2 : ¬ 16 < f.ttl) (t3 : ¬ 16 - f.ttl < more) (h5 : ∀ la, la = walkP s p ls cs f → ∀ m, (h : la.length = m + 1) → ¬ la[m].what = 5) :
    Calls Try.prog 8 #[.agg #[.int .i64 s, .int .i64 p, .slice A ls.length c], .slice B cs.length k, flyV f, .int .i64 more] w fun e w' => e = .returned (.bool true) ∧ Below w.heap.size w w' := by
  have hmx := hl.max
  have HF := Aside.mk hf.2.2.2.1
  have HL := Aside.mk (hl.below (below_alloc (below_alloc (Below.refl _ w) (.cells #[.int .i64 s, .int .i64 p, .slice A ls.length c] 24)) (.cells #[.int .i64 f.id, .int .i64 f.src, .int .i64 f.dst, .int .i64 f.ttl, .int .i64 f.tag, .int .i64 f.sw, .int .i64 f.inn] 30)))
  have HC := Aside.mk (hc.below (below_alloc (below_alloc (Below.refl _ w) (.cells #[.int .i64 s, .int .i64 p, .slice A ls.length c] 24)) (.cells #[.int .i64 f.id, .int .i64 f.src, .int .i64 f.dst, .int .i64 f.ttl, .int .i64 f.tag, .int .i64 f.sw, .int .i64 f.inn] 30)))
  have KB := Aside.mk (below_alloc (below_alloc (Below.refl _ w) (.cells #[.int .i64 s, .int .i64 p, .slice A ls.length c] 24)) (.cells #[.int .i64 f.id, .int .i64 f.src, .int .i64 f.dst, .int .i64 f.ttl, .int .i64 f.tag, .int .i64 f.sw, .int .i64 f.inn] 30))
  have HX := Aside.mk (heap_old (heap_new w (.cells #[.int .i64 s, .int .i64 p, .slice A ls.length c] 24) rfl) (.cells #[.int .i64 f.id, .int .i64 f.src, .int .i64 f.dst, .int .i64 f.ttl, .int .i64 f.tag, .int .i64 f.sw, .int .i64 f.inn] 30))
  have HY := Aside.mk (heap_new (w.alloc (.cells #[.int .i64 s, .int .i64 p, .slice A ls.length c] 24)) (.cells #[.int .i64 f.id, .int .i64 f.src, .int .i64 f.dst, .int .i64 f.ttl, .int .i64 f.tag, .int .i64 f.sw, .int .i64 f.inn] 30) rfl)
  simp only [World.size_alloc] at HX HY
  have hlo := hf.2.2.2.1.lo
  have hhi := hf.2.2.2.1.hi
  clear hl hc hf
  have HZ := Aside.mk (few_small hfew)
  have d60 : decide ((60 : Int) < (ls.length : Int)) = false := decide_eq_false (by omega)
  have d1 : decide (f.ttl < 0) = false := decide_eq_false (by omega)
  have d2 : decide (more < 0) = false := decide_eq_false (by omega)
  have d3 : decide (16 < f.ttl) = false := decide_eq_false (by omega)
  have hwr : ∀ x : Int, x = 16 - f.ttl → wrap64 x = x := fun x hx => IntWalk.wrap64_in _ (by omega)
  have d4 : decide (16 - f.ttl < more) = false := decide_eq_false (by omega)
  have hwa : ∀ x : Int, x = f.ttl + more → wrap64 x = x := fun x hx => IntWalk.wrap64_in _ (by omega)
  have hca : cap16 f = f := by unfold cap16; rw [show min f.ttl 16 = f.ttl by omega]
  have hcb : cap16 { f with ttl := f.ttl + more } = { f with ttl := f.ttl + more } := by unfold cap16; rw [show min (f.ttl + more) 16 = f.ttl + more by omega]
  have hfit2 : Fit (f.ttl + more) := WalkArith.wf_i64 ⟨by omega, by omega⟩
  have HF2 := Aside.mk (show Fit ({ f with ttl := f.ttl + more } : Fly).ttl from hfit2)
  have hposa := walkP_pos (s := s) (p := p) (ls := ls) (cs := cs) f
  have hposb := walkP_pos (s := s) (p := p) (ls := ls) (cs := cs) { f with ttl := f.ttl + more }
  have hlena := walkP_len (s := s) (p := p) (ls := ls) (cs := cs) f
  obtain ⟨hm1, hm2⟩ := walkP_more (s := s) (p := p) (ls := ls) (cs := cs) more (by omega) f
  have HW := show walkP s p ls cs (cap16 f) = walkP s p ls cs f by rw [hca]
  have HW2 := show walkP s p ls cs (cap16 { f with ttl := f.ttl + more }) = walkP s p ls cs { f with ttl := f.ttl + more } by rw [hcb]
  generalize hg : walkP s p ls cs f = la at hposa hlena hm1 hm2 HW
  generalize walkP s p ls cs { f with ttl := f.ttl + more } = lb at hposb hm1 hm2 HW2
  have HW := Aside.mk HW
  have HW2 := Aside.mk HW2
  obtain ⟨m, hm⟩ : ∃ m, la.length = m + 1 := ⟨la.length - 1, by omega⟩
  have hwm : ∀ x : Int, x = (m : Int) → wrap64 x = x := fun x hx => IntWalk.wrap64_in _ (by omega)
  have hkl := keepL_last hm
  have HT0 := Aside.mk hm2
  clear hm2 hca hcb
  replace h5 := h5 la hg.symm m hm
  have hm16 : m ≤ 16 := by omega
  clear hg hlena hlo hhi t0 t1 t2 t3 hposa
  have d5 : (la[m].what == 5) = false := by simp [h5]
  rw [if_neg h5] at hkl
  have HT := Aside.mk (show la.take (m + 1) = lb.take (m + 1) by have := HT0.out; rwa [hkl] at this)
  have hn2 : m + 1 ≤ lb.length := by omega
  have hn1 : m + 1 ≤ m + 1 := by omega
  have d6 : decide ((lb.length : Int) < (m : Int) + 1) = false := decide_eq_false (by omega)
  clear hkl hm1 h5 HT0
  go_enter Try.func8, Try.ntmps8
  go_wp2_with (first
    | (go_at_call 9; refine (awake13_any _).mono ?_; rintro e w1 ⟨rfl, hb1⟩; have HL := Aside.mk (HL.out.below hb1); have HC := Aside.mk (HC.out.below hb1); have KB := Aside.mk (below_call KB.out hb1); have HX := Aside.mk (blk_keep HX.out hb1); have HY := Aside.mk (blk_keep HY.out hb1); have c0 := blk_cell HX.out 0; have c1 := blk_cell HX.out 1; have c2 := blk_cell HX.out 2; have y0 := blk_cell HY.out 0; have y1 := blk_cell HY.out 1; have y2 := blk_cell HY.out 2; have y3 := blk_cell HY.out 3; have y4 := blk_cell HY.out 4; have y5 := blk_cell HY.out 5; have y6 := blk_cell HY.out 6; simp at c0 c1 c2 y0 y1 y2 y3 y4 y5 y6; have hsz := blk_lt HY.out; have hsz0 := blk_lt HX.out; clear hb1)
    | (go_at_call 10; refine (few_any _ _ _ _ HC.out).mono ?_; rw [hfew]; rintro e w2 ⟨rfl, rfl⟩)
    | (have hA0 := HA; clear hA0; go_at_call 14; refine (walk_any s p A c ls B k cs { f with ttl := f.ttl + more } _ HL.out HC.out HZ.out HF2.out).mono ?_; rw [HW2.out]; rintro e w4 ⟨v, rfl, ho, hb1⟩; obtain ⟨gb, cb, rfl, hgb, hgb2, hcb⟩ := ho.addr hposb; obtain ⟨A1, k1, e1, -, hr⟩ := ho.rd; cases e1; have HV := Aside.mk hr; have HA := Aside.mk (HA.out.below hb1); have HL := Aside.mk (HL.out.below hb1); have HC := Aside.mk (HC.out.below hb1); have KB := Aside.mk (below_call KB.out hb1); have HX := Aside.mk (blk_keep HX.out hb1); have HY := Aside.mk (blk_keep HY.out hb1); have c0 := blk_cell HX.out 0; have c1 := blk_cell HX.out 1; have c2 := blk_cell HX.out 2; have y0 := blk_cell HY.out 0; have y1 := blk_cell HY.out 1; have y2 := blk_cell HY.out 2; have y3 := blk_cell HY.out 3; have y4 := blk_cell HY.out 4; have y5 := blk_cell HY.out 5; have y6 := blk_cell HY.out 6; simp at c0 c1 c2 y0 y1 y2 y3 y4 y5 y6; have hsz := blk_lt HY.out; have hsz0 := blk_lt HX.out; clear hb1; clear ho hr; obtain ⟨-, -, -, -, -, -, a5, -⟩ := hop_cells HA.out (Below.refl _ _) (k := m) (by omega); simp at a5)
    | (go_at_call 14; refine (walk_any s p A c ls B k cs f _ (HL.out.below (below_alloc (Below.refl _ _) (.cells #[.int .i64 f.id, .int .i64 f.src, .int .i64 f.dst, .int .i64 (f.ttl + more), .int .i64 f.tag, .int .i64 f.sw, .int .i64 f.inn] 30))) (HC.out.below (below_alloc (Below.refl _ _) (.cells #[.int .i64 f.id, .int .i64 f.src, .int .i64 f.dst, .int .i64 (f.ttl + more), .int .i64 f.tag, .int .i64 f.sw, .int .i64 f.inn] 30))) HZ.out HF.out).mono ?_; rw [HW.out]; rintro e w3 ⟨v, rfl, ho, hb1⟩; have KB := Aside.mk (below_alloc KB.out (.cells #[.int .i64 f.id, .int .i64 f.src, .int .i64 f.dst, .int .i64 (f.ttl + more), .int .i64 f.tag, .int .i64 f.sw, .int .i64 f.inn] 30)); have HM := Aside.mk (blk_keep (heap_new w2 (.cells #[.int .i64 f.id, .int .i64 f.src, .int .i64 f.dst, .int .i64 (f.ttl + more), .int .i64 f.tag, .int .i64 f.sw, .int .i64 f.inn] 30) rfl) hb1); have HX := Aside.mk (heap_old HX.out (.cells #[.int .i64 f.id, .int .i64 f.src, .int .i64 f.dst, .int .i64 (f.ttl + more), .int .i64 f.tag, .int .i64 f.sw, .int .i64 f.inn] 30)); have HY := Aside.mk (heap_old HY.out (.cells #[.int .i64 f.id, .int .i64 f.src, .int .i64 f.dst, .int .i64 (f.ttl + more), .int .i64 f.tag, .int .i64 f.sw, .int .i64 f.inn] 30)); have HL := Aside.mk (HL.out.below (below_alloc (Below.refl _ _) (.cells #[.int .i64 f.id, .int .i64 f.src, .int .i64 f.dst, .int .i64 (f.ttl + more), .int .i64 f.tag, .int .i64 f.sw, .int .i64 f.inn] 30))); have HC := Aside.mk (HC.out.below (below_alloc (Below.refl _ _) (.cells #[.int .i64 f.id, .int .i64 f.src, .int .i64 f.dst, .int .i64 (f.ttl + more), .int .i64 f.tag, .int .i64 f.sw, .int .i64 f.inn] 30))); obtain ⟨ga, ca, rfl, hga, hga2, hca⟩ := ho.addr (by omega); obtain ⟨A1, k1, e1, -, hr⟩ := ho.rd; cases e1; have HA := Aside.mk hr; have HL := Aside.mk (HL.out.below hb1); have HC := Aside.mk (HC.out.below hb1); have KB := Aside.mk (below_call KB.out hb1); have HX := Aside.mk (blk_keep HX.out hb1); have HY := Aside.mk (blk_keep HY.out hb1); have c0 := blk_cell HX.out 0; have c1 := blk_cell HX.out 1; have c2 := blk_cell HX.out 2; have y0 := blk_cell HY.out 0; have y1 := blk_cell HY.out 1; have y2 := blk_cell HY.out 2; have y3 := blk_cell HY.out 3; have y4 := blk_cell HY.out 4; have y5 := blk_cell HY.out 5; have y6 := blk_cell HY.out 6; simp at c0 c1 c2 y0 y1 y2 y3 y4 y5 y6; have hsz := blk_lt HY.out; have hsz0 := blk_lt HX.out; clear hb1; have g0 := blk_cell HM.out 0; have g1 := blk_cell HM.out 1; have g2 := blk_cell HM.out 2; have g3 := blk_cell HM.out 3; have g4 := blk_cell HM.out 4; have g5 := blk_cell HM.out 5; have g6 := blk_cell HM.out 6; simp at g0 g1 g2 g3 g4 g5 g6; have hsz2 := blk_lt HM.out; clear ho hr))
  refine wp_region_facts (Base := plgB la lb ga ca gb cb m (m + 1) w) (q := plgQ) (Fs := plgF la lb ga ca gb cb m (m + 1) w) (by kernel_rfl) (by kernel_rfl) (by kernel_rfl) (by kernel_rfl) ⟨below_drew KB.out, by have := HA.out; rwa [hm] at this, HV.out⟩ ?_ ?_
  · have hc1 : (m + 1) ≤ ca := by omega
    have hc2 : (m + 1) ≤ cb := by omega
    have hi0 : (0 : Int) ≤ (m : Int) + 1 := by omega
    have hi1 : m + 1 ≤ ca → (m : Int) + 1 ≤ (ca : Int) := by omega
    have hi2 : m + 1 ≤ cb → (m : Int) + 1 ≤ (cb : Int) := by omega
    try replace hi1 := hi1 hc1
    try replace hi2 := hi2 hc2
    clear HL HC KB HX HY HA HV HM
    have hBs := plgB_stay la lb ga ca gb cb m (m + 1) w
    have hFs := plgF_stay la lb ga ca gb cb m (m + 1) w
    refine ⟨?_, ?_, ?_, ?_, ?_, ?_, ?_, ?_, trivial⟩
    · refine step_pure hBs hFs rfl fun a' w' hB hag hp => ?_
      have h12 := hag 12 (by kernel_rfl)
      simp at h12
      unfold OpYields
      go_simp
      exact ⟨Below.refl _ _, rfl⟩
    · refine step_pure hBs hFs rfl fun a' w' hB hag hp => ?_
      have h14 := hag 14 (by kernel_rfl)
      simp at h14
      unfold OpYields
      go_simp
      exact ⟨Below.refl _ _, rfl⟩
    · refine step_pure hBs hFs rfl fun a' w' hB hag hp => ?_
      have h91 : a'.tmps.getD 91 undef = _ := hp 0 (by kernel_rfl)
      have h92 : a'.tmps.getD 92 undef = _ := hp 1 (by kernel_rfl)
      simp at h91 h92
      unfold OpYields
      go_simp
      exact ⟨Below.refl _ _, rfl⟩
    · refine step_pure hBs hFs rfl fun a' w' hB hag hp => ?_
      have h13 := hag 13 (by kernel_rfl)
      simp at h13
      unfold OpYields
      go_simp
      exact ⟨Below.refl _ _, rfl⟩
    · refine step_pure hBs hFs rfl fun a' w' hB hag hp => ?_
      have h14 := hag 14 (by kernel_rfl)
      simp at h14
      unfold OpYields
      go_simp
      exact ⟨Below.refl _ _, rfl⟩
    · refine step_pure hBs hFs rfl fun a' w' hB hag hp => ?_
      have h94 : a'.tmps.getD 94 undef = _ := hp 3 (by kernel_rfl)
      have h95 : a'.tmps.getD 95 undef = _ := hp 4 (by kernel_rfl)
      simp at h94 h95
      unfold OpYields
      go_simp
      exact ⟨Below.refl _ _, rfl⟩
    · refine step_pure hBs hFs rfl fun a' w' hB hag hp => ?_
      have h93 : a'.tmps.getD 93 undef = _ := hp 2 (by kernel_rfl)
      have h96 : a'.tmps.getD 96 undef = _ := hp 5 (by kernel_rfl)
      have r1 := Rd.take hB.2.1 (k := (m + 1)) hn1
      have r2 := Rd.take hB.2.2 (k := (m + 1)) hn2
      simp at h93 h96
      unfold OpYields
      go_simp
      refine (sameH_two _ _ _ _ _ _ w' (m + 1) (m + 1) r1.1 r2.1 r1 r2).mono ?_
      rintro e w1 ⟨rfl, hb⟩
      exact ⟨_, rfl, hb, by show Value.bool _ = Value.bool _; rw [HT.out]; simp⟩
    · refine step_pure hBs hFs rfl fun a' w' hB hag hp => ?_
      have h97 : a'.tmps.getD 97 undef = _ := hp 6 (by kernel_rfl)
      simp at h97
      unfold OpYields
      go_simp
      exact ⟨Below.refl _ _, rfl⟩
  intro vs w' hB hF
  simp only [AllF, forall_const, reduceCtorEq, false_implies, Fof, plgF, plgQ, Nat.zero_add, Nat.reduceAdd, Nat.reduceEqDiff, if_true, if_false, List.getD_cons_succ, List.getD_cons_zero] at hF
  obtain ⟨f0, f1, f2, f3, f4, f5, f6, f7, -⟩ := hF
  simp only [putAll, Act.put, Nat.zero_add, Nat.reduceAdd, f0, f1, f2, f3, f4, f5, f6, f7, List.setIfInBounds_toArray, List.set_cons_zero, List.set_cons_succ]
  have KB := Aside.mk hB.1
  clear hB
  go_wp2
  all_goals (go_ret; exact ⟨rfl, KB.out⟩)
set_option maxHeartbeats 4000000 in
theorem pathLonger_walk (s p : Int) (A : Option Addr) (c : Nat) (ls : List Lnk) (B : Option Addr) (k : Nat) (cs : List (List Rul)) (f : Fly) (more : Int) (w : World) (hl : Rd lnkD w A ls.length ls) (hT : FitT s p c ls) (hc : Rd confD w B cs.length cs) (hR : ∀ l ∈ cs, ∀ r ∈ l, FitR r) (hle : cs.length ≤ k) (hf : FitF f) (hM : Fit more) :
    Calls Try.prog 8 #[.agg #[.int .i64 s, .int .i64 p, .slice A ls.length c], .slice B cs.length k, flyV f, .int .i64 more] w fun e w' => e = .returned (.bool true) ∧ Below w.heap.size w w' := by
  cases hfew : fewL cs
  · exact pathLonger0_part s p A c ls B k cs f more w hl hT hc hR hle hf hM hfew
  by_cases h60 : ls.length ≤ 60
  · by_cases t0 : f.ttl < 0
    · exact pathLonger2_part s p A c ls B k cs f more w hl hT hc hR hle hf hM hfew h60 t0
    by_cases t1 : more < 0
    · exact pathLonger3_part s p A c ls B k cs f more w hl hT hc hR hle hf hM hfew h60 t0 t1
    by_cases t2 : 16 < f.ttl
    · exact pathLonger4_part s p A c ls B k cs f more w hl hT hc hR hle hf hM hfew h60 t0 t1 t2
    by_cases t3 : 16 - f.ttl < more
    · exact pathLonger5_part s p A c ls B k cs f more w hl hT hc hR hle hf hM hfew h60 t0 t1 t2 t3
    have hp := walkP_pos (s := s) (p := p) (ls := ls) (cs := cs) f
    obtain ⟨m, hm⟩ : ∃ m, (walkP s p ls cs f).length = m + 1 := ⟨(walkP s p ls cs f).length - 1, by omega⟩
    by_cases h5 : (walkP s p ls cs f)[m].what = 5
    · refine pathLonger6_part s p A c ls B k cs f more w hl hT hc hR hle hf hM hfew h60 t0 t1 t2 t3 ?_
      rintro la rfl m' hm'
      have e2 : m' = m := by omega
      subst e2
      exact h5
    · refine pathLonger7_part s p A c ls B k cs f more w hl hT hc hR hle hf hM hfew h60 t0 t1 t2 t3 ?_
      rintro la rfl m' hm'
      have e2 : m' = m := by omega
      subst e2
      exact h5
  · exact pathLonger1_part s p A c ls B k cs f more w hl hT hc hR hle hf hM hfew h60
end Go.Proofs.Ytonddgchifmocaa
