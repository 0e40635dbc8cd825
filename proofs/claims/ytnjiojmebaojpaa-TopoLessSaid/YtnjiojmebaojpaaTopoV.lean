/- The walk through TopoLess. -/
import Derived.Test.YtnjiojmebaojpaaTopoA
import Derived.Test.YtnjiojmebaojpaaTopoK
import Derived.Test.YtnjiojmebaojpaaTopoO
import Derived.Test.YtnjiojmebaojpaaAppend
namespace Go.Proofs.Ytnjiojmebaojpaa
open Go.RowKit


def lssB (s p : Int) (b o : Nat) (c : Nat) (ls : List Lnk) (k : Nat) (AY : Option Addr) (xs ys : List Lnk) (m : Nat) (w : World) (w' : World) : Prop :=
  Below w.heap.size w w' ∧ w'.heap[w.heap.size]? = some (.cells #[.int .i64 s, .int .i64 p, .slice (some ⟨b, o, none⟩) ls.length c] 24) ∧ (∃ u0, u0.oneCell' = true ∧ w'.heap[m]? = some (.cells #[.int .i64 s, .int .i64 p, u0] 24)) ∧ m < w'.heap.size ∧ w.heap.size < m
def lssF (s p : Int) (b o : Nat) (c : Nat) (ls : List Lnk) (k : Nat) (AY : Option Addr) (xs ys : List Lnk) (m : Nat) (w : World) : List (Value → Value → World → Prop) :=
  [fun _ v _ => v = .pointer (some ⟨w.heap.size, 2, none⟩),
   fun _ v _ => v = .slice (some ⟨b, o, none⟩) ls.length c,
   fun _ v _ => v = .int .i64 k,
   fun _ v _ => v = .slice (some ⟨b, o, none⟩) k c,
   fun _ v w' => Own lnkF w' (m + 1) 34 v xs,
   fun _ v _ => v = .pointer (some ⟨w.heap.size, 2, none⟩),
   fun _ v _ => v = .slice (some ⟨b, o, none⟩) ls.length c,
   fun _ v _ => v = .int .i64 k,
   fun _ v _ => v = .int .i64 (k + 1),
   fun _ v _ => v = .slice AY (ls.length - (k + 1)) (c - (k + 1)),
   fun _ v w' => Own lnkF w' (m + 1) 34 v (xs ++ ys),
   fun _ v _ => v = .pointer (some ⟨m, 2, none⟩),
   fun u _ w' => w'.heap[m]? = some (.cells #[.int .i64 s, .int .i64 p, u] 24)]
def lssQ : Nat → Nat := fun i => if i = 12 then 10 else i
def lssK : Nat → Option Nat := fun i => if i = 4 then some 10 else none
theorem lssF_stay (s p : Int) (b o : Nat) (c : Nat) (ls : List Lnk) (k : Nat) (AY : Option Addr) (xs ys : List Lnk) (m : Nat) (w : World) : AllStay (lssF s p b o c ls k AY xs ys m w) := by
  intro F hF u v w' w'' hb h
  simp only [lssF, List.mem_cons, List.not_mem_nil, or_false] at hF
  rcases hF with rfl | rfl | rfl | rfl | rfl | rfl | rfl | rfl | rfl | rfl | rfl | rfl | rfl
  · exact h
  · exact h
  · exact h
  · exact h
  · exact h.below hb
  · exact h
  · exact h
  · exact h
  · exact h
  · exact h
  · exact h.below hb
  · exact h
  · exact blk_keep h hb
theorem lssB_stay (s p : Int) (b o : Nat) (c : Nat) (ls : List Lnk) (k : Nat) (AY : Option Addr) (xs ys : List Lnk) (m : Nat) (w : World) : Stays (lssB s p b o c ls k AY xs ys m w) := by
  intro w' w'' hb h
  exact ⟨below_call h.1 hb, blk_keep h.2.1 hb, let ⟨u0, h0, hu⟩ := h.2.2.1; ⟨u0, h0, blk_keep hu hb⟩, Nat.lt_of_lt_of_le h.2.2.2.1 hb.size, h.2.2.2.2⟩

def lseB (s p : Int) (A : Option Addr) (c : Nat) (ls : List Lnk) (A2 : Option Addr) (k2 : Nat) (us : List Lnk) (x y : Int) (e1 e2 ee : Bool) (m : Nat) (w : World) (w' : World) : Prop :=
  Below w.heap.size w w' ∧ w'.heap[w.heap.size]? = some (.cells #[.int .i64 s, .int .i64 p, .slice A ls.length c] 24) ∧ w'.heap[m]? = some (.cells #[.int .i64 s, .int .i64 p, .slice A2 us.length k2] 24) ∧ Rd lnkD w' A ls.length ls ∧ Rd lnkD w' A2 us.length us
def lseF (s p : Int) (A : Option Addr) (c : Nat) (ls : List Lnk) (A2 : Option Addr) (k2 : Nat) (us : List Lnk) (x y : Int) (e1 e2 ee : Bool) (m : Nat) (w : World) : List (Value → Value → World → Prop) :=
  [fun _ v _ => v = .agg #[.int .i64 s, .int .i64 p, .slice A2 us.length k2],
   fun _ v _ => v = .bool true,
   fun _ v _ => v = .bool true,
   fun _ v _ => v = .agg #[.int .i64 s, .int .i64 p, .slice A2 us.length k2],
   fun _ v _ => v = .int .i64 x,
   fun _ v _ => v = .int .i64 y,
   fun _ v _ => v = .bool e1,
   fun _ v _ => v = .agg #[.int .i64 s, .int .i64 p, .slice A ls.length c],
   fun _ v _ => v = .int .i64 x,
   fun _ v _ => v = .int .i64 y,
   fun _ v _ => v = .bool e2,
   fun _ v _ => v = .bool e2,
   fun _ v _ => v = if e2 then undef else .bool ee,
   fun _ v _ => v = .bool (e2 || ee),
   fun _ v _ => v = .bool true,
   fun _ v _ => v = .bool true,
   fun _ v _ => v = .bool true]
def lseQ : Nat → Nat := fun i => i
theorem lseF_stay (s p : Int) (A : Option Addr) (c : Nat) (ls : List Lnk) (A2 : Option Addr) (k2 : Nat) (us : List Lnk) (x y : Int) (e1 e2 ee : Bool) (m : Nat) (w : World) : AllStay (lseF s p A c ls A2 k2 us x y e1 e2 ee m w) := by
  intro F hF u v w' w'' hb h
  simp only [lseF, List.mem_cons, List.not_mem_nil, or_false] at hF
  rcases hF with rfl | rfl | rfl | rfl | rfl | rfl | rfl | rfl | rfl | rfl | rfl | rfl | rfl | rfl | rfl | rfl | rfl
  · exact h
  · exact h
  · exact h
  · exact h
  · exact h
  · exact h
  · exact h
  · exact h
  · exact h
  · exact h
  · exact h
  · exact h
  · exact h
  · exact h
  · exact h
  · exact h
  · exact h
theorem lseB_stay (s p : Int) (A : Option Addr) (c : Nat) (ls : List Lnk) (A2 : Option Addr) (k2 : Nat) (us : List Lnk) (x y : Int) (e1 e2 ee : Bool) (m : Nat) (w : World) : Stays (lseB s p A c ls A2 k2 us x y e1 e2 ee m w) := by
  intro w' w'' hb h
  exact ⟨below_call h.1 hb, blk_keep h.2.1 hb, blk_keep h.2.2.1 hb, h.2.2.2.1.below hb, h.2.2.2.2.below hb⟩

set_option maxHeartbeats 1000000 in
theorem topoLess_out (s p : Int) (A : Option Addr) (c : Nat) (ls : List Lnk) (i x y : Int) (w : World) (hl : Rd lnkD w A ls.length ls) (hc : ¬ (mayT s p ls = true ∧ 0 ≤ i ∧ i < ls.length)) :
    Calls Try.prog 6 #[.agg #[.int .i64 s, .int .i64 p, .slice A ls.length c], .int .i64 i, .int .i64 x, .int .i64 y] w fun e w' => e = .returned (.bool true) ∧ Below w.heap.size w w' := by
  have hmx := hl.max
  have HL := Aside.mk (hl.below ((Below.refl _ w).alloc (Nat.le_refl _) (.cells #[.int .i64 s, .int .i64 p, .slice A ls.length c] 24)))
  have HB := Aside.mk (below_alloc (Below.refl _ w) (.cells #[.int .i64 s, .int .i64 p, .slice A ls.length c] 24))
  have HX := Aside.mk (show (w.alloc (.cells #[.int .i64 s, .int .i64 p, .slice A ls.length c] 24)).heap[w.heap.size]? = some (.cells #[.int .i64 s, .int .i64 p, .slice A ls.length c] 24) by rw [heap_at, if_pos rfl])
  clear hl
  cases hmay : mayT s p ls
  · clear hc
    go_enter Try.func6, Try.ntmps6
    go_wp2_with (first
      | (go_at_call 9; refine (awake_any _).mono ?_; rintro e w1 ⟨rfl, hb1⟩; have HL := Aside.mk (HL.out.below hb1); have HB := Aside.mk (below_call HB.out hb1); have HX := Aside.mk (blk_keep HX.out hb1); have c0 := blk_cell HX.out 0; have c1 := blk_cell HX.out 1; have c2 := blk_cell HX.out 2; simp at c0 c1 c2; have hsz := blk_lt HX.out; clear hb1)
      | (go_at_call 16; refine (may_any _ _ _ _ _ _ HL.out).mono ?_; rw [hmay]; rintro e w1 ⟨rfl, hb1⟩; have HL := Aside.mk (HL.out.below hb1); have HB := Aside.mk (below_call HB.out hb1); have HX := Aside.mk (blk_keep HX.out hb1); have c0 := blk_cell HX.out 0; have c1 := blk_cell HX.out 1; have c2 := blk_cell HX.out 2; simp at c0 c1 c2; have hsz := blk_lt HX.out; clear hb1))
    go_ret
    exact ⟨rfl, HB.out⟩
  · rw [hmay] at hc
    by_cases h0 : i < 0
    · have d0 : decide (i < 0) = true := decide_eq_true h0
      go_enter Try.func6, Try.ntmps6
      go_wp2_with (first
        | (go_at_call 9; refine (awake_any _).mono ?_; rintro e w1 ⟨rfl, hb1⟩; have HL := Aside.mk (HL.out.below hb1); have HB := Aside.mk (below_call HB.out hb1); have HX := Aside.mk (blk_keep HX.out hb1); have c0 := blk_cell HX.out 0; have c1 := blk_cell HX.out 1; have c2 := blk_cell HX.out 2; simp at c0 c1 c2; have hsz := blk_lt HX.out; clear hb1)
        | (go_at_call 16; refine (may_any _ _ _ _ _ _ HL.out).mono ?_; rw [hmay]; rintro e w1 ⟨rfl, hb1⟩; have HL := Aside.mk (HL.out.below hb1); have HB := Aside.mk (below_call HB.out hb1); have HX := Aside.mk (blk_keep HX.out hb1); have c0 := blk_cell HX.out 0; have c1 := blk_cell HX.out 1; have c2 := blk_cell HX.out 2; simp at c0 c1 c2; have hsz := blk_lt HX.out; clear hb1))
      go_ret
      exact ⟨rfl, HB.out⟩
    · have d0 : decide (i < 0) = false := decide_eq_false h0
      have h1 : (ls.length : Int) ≤ i := by
        have h2 : ¬ (true = true ∧ 0 ≤ i ∧ i < ls.length) := hc
        by_cases h3 : i < ls.length
        · exact absurd ⟨rfl, by omega, h3⟩ h2
        · omega
      have d1 : decide ((ls.length : Int) ≤ i) = true := decide_eq_true h1
      clear hc
      go_enter Try.func6, Try.ntmps6
      go_wp2_with (first
        | (go_at_call 9; refine (awake_any _).mono ?_; rintro e w1 ⟨rfl, hb1⟩; have HL := Aside.mk (HL.out.below hb1); have HB := Aside.mk (below_call HB.out hb1); have HX := Aside.mk (blk_keep HX.out hb1); have c0 := blk_cell HX.out 0; have c1 := blk_cell HX.out 1; have c2 := blk_cell HX.out 2; simp at c0 c1 c2; have hsz := blk_lt HX.out; clear hb1)
        | (go_at_call 16; refine (may_any _ _ _ _ _ _ HL.out).mono ?_; rw [hmay]; rintro e w1 ⟨rfl, hb1⟩; have HL := Aside.mk (HL.out.below hb1); have HB := Aside.mk (below_call HB.out hb1); have HX := Aside.mk (blk_keep HX.out hb1); have c0 := blk_cell HX.out 0; have c1 := blk_cell HX.out 1; have c2 := blk_cell HX.out 2; simp at c0 c1 c2; have hsz := blk_lt HX.out; clear hb1))
      go_ret
      exact ⟨rfl, HB.out⟩

set_option maxHeartbeats 4000000 in
theorem topoLess_in (s p : Int) (A : Option Addr) (c : Nat) (ls : List Lnk) (k : Nat) (x y : Int) (w : World) (hl : Rd lnkD w A ls.length ls) (hcap : ls.length ≤ c) (hmay : mayT s p ls = true) (hk : k < ls.length) :
    Calls Try.prog 6 #[.agg #[.int .i64 s, .int .i64 p, .slice A ls.length c], .int .i64 k, .int .i64 x, .int .i64 y] w fun e w' => e = .returned (.bool true) ∧ Below w.heap.size w w' := by
  have hg := (may_good s p ls).1 hmay
  have hn : ls.length ≤ 12 := hg.1.2.2.2.2
  have hsp : ls = ls.take k ++ ls[k] :: ls.drop (k + 1) := by rw [List.getElem_cons_drop hk, List.take_append_drop]
  have hgu : Good s p (ls.take k ++ ls.drop (k + 1)) := less_good (by rw [← hsp]; exact hg)
  have heu : edgeL s p (ls.take k ++ ls.drop (k + 1)) x y = (edgeL s p ls x y || ((ls[k].a == x && ls[k].pa == y) || (ls[k].b == x && ls[k].pb == y))) := by
    have := less_edge (show Good s p (ls.take k ++ ls[k] :: ls.drop (k + 1)) by rw [← hsp]; exact hg) x y
    rwa [← hsp] at this
  have hmu := (may_good ..).2 hgu
  obtain ⟨b, o, cs, rfl, hbl, hcs, hc⟩ := Row.at hl k hk
  obtain rfl : cs = _ := hcs
  have e0 : w.cell? ⟨b, o + k * 4, none⟩ = some (.int .i64 ls[k].a) := hc 0 _ rfl
  have e1 : w.cell? ⟨b, o + k * 4 + 1, none⟩ = some (.int .i64 ls[k].pa) := hc 1 _ rfl
  have e2 : w.cell? ⟨b, o + k * 4 + 2, none⟩ = some (.int .i64 ls[k].b) := hc 2 _ rfl
  have e3 : w.cell? ⟨b, o + k * 4 + 3, none⟩ = some (.int .i64 ls[k].pb) := hc 3 _ rfl
  have hxl : (ls.take k).length = k := by rw [List.length_take]; omega
  have hyl : (ls.drop (k + 1)).length = ls.length - (k + 1) := List.length_drop
  have RX : Aside (Rd lnkF.kd w (some ⟨b, o, none⟩) (ls.take k).length (ls.take k)) := .mk (by rw [hxl]; exact hl.take (by omega))
  obtain ⟨AY, hAY⟩ : ∃ AY, (if c = k + 1 then (some ⟨b, o, none⟩ : Option Addr) else some ⟨b, o + (k + 1) * 4, none⟩) = AY := ⟨_, rfl⟩
  have RY : Aside (Rd lnkF.kd w AY (ls.drop (k + 1)).length (ls.drop (k + 1))) := .mk (by
    rw [← hAY]
    split
    · have h0 : (ls.drop (k + 1)) = [] := List.length_eq_zero_iff.1 (by omega)
      rw [h0]
      exact Rd.nil _ _ _
    · rw [hyl]; exact hl.drop (by omega))
  generalize ls.take k = xs at *
  generalize ls.drop (k + 1) = ys at *
  generalize ls[k] = l at *
  have HW := Aside.mk hl
  have HL := Aside.mk (hl.below ((Below.refl _ w).alloc (Nat.le_refl _) (.cells #[.int .i64 s, .int .i64 p, .slice (some ⟨b, o, none⟩) ls.length c] 24)))
  have HB := Aside.mk (below_alloc (Below.refl _ w) (.cells #[.int .i64 s, .int .i64 p, .slice (some ⟨b, o, none⟩) ls.length c] 24))
  have HX := Aside.mk (show (w.alloc (.cells #[.int .i64 s, .int .i64 p, .slice (some ⟨b, o, none⟩) ls.length c] 24)).heap[w.heap.size]? = some (.cells #[.int .i64 s, .int .i64 p, .slice (some ⟨b, o, none⟩) ls.length c] 24) by rw [heap_at, if_pos rfl])
  obtain ⟨q1, hq1⟩ : ∃ q, (x == l.a) = q := ⟨_, rfl⟩
  obtain ⟨q2, hq2⟩ : ∃ q, (y == l.pa) = q := ⟨_, rfl⟩
  obtain ⟨q3, hq3⟩ : ∃ q, (x == l.b) = q := ⟨_, rfl⟩
  obtain ⟨q4, hq4⟩ : ∃ q, (y == l.pb) = q := ⟨_, rfl⟩
  rw [show (l.a == x) = q1 by rw [← hq1]; exact BEq.comm, show (l.pa == y) = q2 by rw [← hq2]; exact BEq.comm, show (l.b == x) = q3 by rw [← hq3]; exact BEq.comm, show (l.pb == y) = q4 by rw [← hq4]; exact BEq.comm] at heu
  have HE := Aside.mk heu
  have HU := Aside.mk hmu
  have HXL := Aside.mk hxl
  have HYL := Aside.mk hyl
  clear hl hg hsp hgu hc heu hmu
  have hkc : k ≤ c := by omega
  have hk2 : (0 : Int) ≤ (k : Int) + 1 ∧ (k : Int) + 1 ≤ (ls.length : Int) := by omega
  have hwk : IntKind.i64.wrap ((k : Int) + 1) = (k : Int) + 1 := IntWalk.i64_in _ (by omega)
  have hxy : xs.length + ys.length ≤ 12 := by omega
  clear hxl hyl
  go_enter Try.func6, Try.ntmps6
  go_wp2_with (first
    | (go_at_call 9; refine (awake_any _).mono ?_; rintro e w1 ⟨rfl, hb1⟩; have HL := Aside.mk (HL.out.below hb1); have HB := Aside.mk (below_call HB.out hb1); have HX := Aside.mk (blk_keep HX.out hb1); have c0 := blk_cell HX.out 0; have c1 := blk_cell HX.out 1; have c2 := blk_cell HX.out 2; simp at c0 c1 c2; have hsz := blk_lt HX.out; clear hb1)
    | (go_at_call 16; refine (may_any _ _ _ _ _ _ HL.out).mono ?_; rw [hmay]; rintro e w1 ⟨rfl, hb1⟩; have HL := Aside.mk (HL.out.below hb1); have HB := Aside.mk (below_call HB.out hb1); have HX := Aside.mk (blk_keep HX.out hb1); have c0 := blk_cell HX.out 0; have c1 := blk_cell HX.out 1; have c2 := blk_cell HX.out 2; simp at c0 c1 c2; have hsz := blk_lt HX.out; clear hb1))
  have HM := Aside.mk (show (w1.alloc (.cells #[.int .i64 s, .int .i64 p, .slice (some ⟨b, o, none⟩) ls.length c] 24)).heap[w1.heap.size]? = some (.cells #[.int .i64 s, .int .i64 p, .slice (some ⟨b, o, none⟩) ls.length c] 24) by rw [heap_at, if_pos rfl])
  have KB := Aside.mk (below_alloc HB.out (.cells #[.int .i64 s, .int .i64 p, .slice (some ⟨b, o, none⟩) ls.length c] 24))
  have KX := Aside.mk (blk_keep HX.out ((Below.refl _ w1).alloc (Nat.le_refl _) (.cells #[.int .i64 s, .int .i64 p, .slice (some ⟨b, o, none⟩) ls.length c] 24)))
  have HS := Aside.mk (show w1.heap.size < (w1.alloc (.cells #[.int .i64 s, .int .i64 p, .slice (some ⟨b, o, none⟩) ls.length c] 24)).heap.size by simp)
  generalize hm : w1.heap.size = m at *
  clear HL HB HX c0 c1 c2
  refine wp_region_facts_kl (Base := lssB s p b o c ls k AY xs ys m w) lssQ lssK (Fs := lssF s p b o c ls k AY xs ys m w) (by kernel_rfl) (by kernel_rfl) (by kernel_rfl) (by kernel_rfl) ⟨below_drew KB.out, KX.out, ⟨_, rfl, HM.out⟩, HS.out, hsz⟩ ?_ ?_
  · clear KB KX HM HS
    have hBs := lssB_stay s p b o c ls k AY xs ys m w
    have hFs := lssF_stay s p b o c ls k AY xs ys m w
    refine ⟨?_, ?_, ?_, ?_, ?_, ?_, ?_, ?_, ?_, ?_, ?_, ?_, ?_, trivial⟩
    · refine step_pure hBs hFs rfl fun a' w' hB hag hp => ?_
      have h4 := hag 4 (by kernel_rfl)
      simp at h4
      unfold OpYields
      go_simp
      exact ⟨Below.refl _ _, rfl⟩
    · refine step_pure hBs hFs rfl fun a' w' hB hag hp => ?_
      have h34 : a'.tmps.getD 34 undef = _ := hp 0 (by kernel_rfl)
      have hc0 := blk_cell hB.2.1 0; have hc1 := blk_cell hB.2.1 1; have hc2 := blk_cell hB.2.1 2; simp at hc0 hc1 hc2
      simp at h34
      unfold OpYields
      go_simp
      exact ⟨Below.refl _ _, rfl⟩
    · refine step_pure hBs hFs rfl fun a' w' hB hag hp => ?_
      have h1 := hag 1 (by kernel_rfl)
      simp at h1
      unfold OpYields
      go_simp
      exact ⟨Below.refl _ _, rfl⟩
    · refine step_pure hBs hFs rfl fun a' w' hB hag hp => ?_
      have h35 : a'.tmps.getD 35 undef = _ := hp 1 (by kernel_rfl)
      have h36 : a'.tmps.getD 36 undef = _ := hp 2 (by kernel_rfl)
      simp at h35 h36
      unfold OpYields
      go_simp
      exact ⟨Below.refl _ _, rfl⟩
    · refine step_pure hBs hFs rfl fun a' w' hB hag hp => ?_
      have h37 : a'.tmps.getD 37 undef = _ := hp 3 (by kernel_rfl)
      refine (yields_appRow (f := lnkF) (m + 1) (.const (.slice none 0 0)) (.tmp 37) _ _ _ _ rfl Try.underlying22 infoLnk rfl (by decide) (.slice none 0 0) [] xs (some ⟨b, o, none⟩) c rfl (by show a'.tmps.getD 37 undef = _; rw [h37, HXL.out]) (fun h => by cases h) (Own.nil _ _ _ _) (RX.out.below hB.1) hB.2.2.2.1 (by simp; omega)).mono ?_
      rintro v w1 ⟨ho, hg, _⟩
      exact ⟨below_of_grown hg, ho⟩
    · refine step_pure hBs hFs rfl fun a' w' hB hag hp => ?_
      have h4 := hag 4 (by kernel_rfl)
      simp at h4
      unfold OpYields
      go_simp
      exact ⟨Below.refl _ _, rfl⟩
    · refine step_pure hBs hFs rfl fun a' w' hB hag hp => ?_
      have h39 : a'.tmps.getD 39 undef = _ := hp 5 (by kernel_rfl)
      have hc0 := blk_cell hB.2.1 0; have hc1 := blk_cell hB.2.1 1; have hc2 := blk_cell hB.2.1 2; simp at hc0 hc1 hc2
      simp at h39
      unfold OpYields
      go_simp
      exact ⟨Below.refl _ _, rfl⟩
    · refine step_pure hBs hFs rfl fun a' w' hB hag hp => ?_
      have h1 := hag 1 (by kernel_rfl)
      simp at h1
      unfold OpYields
      go_simp
      exact ⟨Below.refl _ _, rfl⟩
    · refine step_pure hBs hFs rfl fun a' w' hB hag hp => ?_
      have h41 : a'.tmps.getD 41 undef = _ := hp 7 (by kernel_rfl)
      simp at h41
      unfold OpYields
      go_simp
      exact ⟨Below.refl _ _, rfl⟩
    · refine step_pure hBs hFs rfl fun a' w' hB hag hp => ?_
      have h40 : a'.tmps.getD 40 undef = _ := hp 6 (by kernel_rfl)
      have h42 : a'.tmps.getD 42 undef = _ := hp 8 (by kernel_rfl)
      simp at h40 h42
      unfold OpYields
      go_simp
      exact ⟨Below.refl _ _, rfl⟩
    · intro a' w' hB hag hp
      rw [if_pos (by simp [Region.wanted])]
      have h38 : Own lnkF w' (m + 1) 34 (a'.tmps.getD 38 undef) xs := hp 4 (by kernel_rfl)
      have h43 : a'.tmps.getD 43 undef = _ := hp 9 (by kernel_rfl)
      refine (yields_appRow (f := lnkF) (m + 1) (.tmp 38) (.tmp 43) _ _ _ _ rfl Try.underlying22 infoLnk rfl (by decide) (a'.tmps.getD 38 undef) xs ys AY (c - (k + 1)) rfl (by show a'.tmps.getD 43 undef = _; rw [h43, HYL.out]) (fun h => by rw [h] at hAY; split at hAY <;> cases hAY) h38 (RY.out.below hB.1) hB.2.2.2.1 (by omega)).mono ?_
      rintro v w1 ⟨ho, hg, _⟩
      have hfar : ∀ g ob, g ≤ m → w'.heap[g]? = some ob → w1.heap[g]? = some ob := fun g ob hgm hh => (hg.block g (blk_lt hh) (fun e => by have := (h38.lt _ e.symm).1; omega)).trans hh
      refine ⟨⟨below_own hB.1 hg (fun k hk => ⟨by have := (h38.lt k hk).1; have := hB.2.2.2.2; omega, (h38.lt k hk).2⟩), hfar _ _ (Nat.le_of_lt hB.2.2.2.2) hB.2.1, let ⟨u0, h0, hu⟩ := hB.2.2.1; ⟨u0, h0, hfar _ _ (Nat.le_refl _) hu⟩, Nat.lt_of_lt_of_le hB.2.2.2.1 hg.size, hB.2.2.2.2⟩, ho, ?_⟩
      intro j vs hj hjk hF
      unfold Fof at *
      match j, hj, hjk with
      | 0, _, _ => exact hF
      | 1, _, _ => exact hF
      | 2, _, _ => exact hF
      | 3, _, _ => exact hF
      | 4, _, h => exact absurd rfl h
      | 5, _, _ => exact hF
      | 6, _, _ => exact hF
      | 7, _, _ => exact hF
      | 8, _, _ => exact hF
      | 9, _, _ => exact hF
      | 11, _, _ => exact hF
      | 12, _, _ => exact hfar _ _ (Nat.le_refl _) hF
      | j + 13, _, _ => trivial
    · refine step_pure hBs hFs rfl fun a' w' hB hag hp => ?_
      have h10 := hag 10 (by kernel_rfl)
      simp at h10
      unfold OpYields
      go_simp
      exact ⟨Below.refl _ _, rfl⟩
    · intro a' w' hB hag hp
      rw [if_pos (by simp [Region.wanted])]
      have h44 : Own lnkF w' (m + 1) 34 (a'.tmps.getD 44 undef) (xs ++ ys) := hp 10 (by kernel_rfl)
      have h45 : a'.tmps.getD 45 undef = _ := hp 11 (by kernel_rfl)
      obtain ⟨u0, h0, hu⟩ := hB.2.2.1
      obtain ⟨A9, c9, hv, hc9⟩ := h44.form
      have hvv := hv
      simp at hv h45
      have k2 := blk_cell hu 2
      have k3 := blk_frozen hu 2
      simp at k2
      unfold OpYields
      go_simp
      have e1 := blk_set hu 2 (.slice A9 (xs.length + ys.length) c9)
      have hf : ∀ g o, g ≠ m → w'.heap[g]? = some o → (w'.setCell ⟨m, 2, none⟩ (.slice A9 (xs.length + ys.length) c9)).heap[g]? = some o := fun g o hg ho => blk_far ho hg _
      refine ⟨⟨below_set hB.1 (Nat.le_of_lt hB.2.2.2.2) _, hf _ _ (Nat.ne_of_lt hB.2.2.2.2) hB.2.1, ⟨_, rfl, e1⟩, by simpa using hB.2.2.2.1, hB.2.2.2.2⟩, ?_, ?_⟩
      · have e1' : (w'.setCell ⟨m, 2, none⟩ (.slice A9 (xs.length + ys.length) c9)).heap[m]? = some (.cells #[.int .i64 s, .int .i64 p, a'.tmps.getD 44 undef] 24) := by rw [hvv]; simpa using e1
        exact e1'
      intro j vs hj _ hF
      unfold Fof at *
      match j, hj with
      | 0, _ => exact hF
      | 1, _ => exact hF
      | 2, _ => exact hF
      | 3, _ => exact hF
      | 4, _ => exact Own.set (p := ⟨m, 2, none⟩) hF (Nat.lt_succ_self m) _
      | 5, _ => exact hF
      | 6, _ => exact hF
      | 7, _ => exact hF
      | 8, _ => exact hF
      | 9, _ => exact hF
      | 10, _ => exact Own.set (p := ⟨m, 2, none⟩) hF (Nat.lt_succ_self m) _
      | 11, _ => exact hF
      | j + 13, _ => trivial
  intro vs w' hB hF
  simp only [AllF, forall_const, reduceCtorEq, false_implies, Fof, lssF, lssQ, lssK, Nat.zero_add, Nat.reduceAdd, Nat.reduceEqDiff, if_true, if_false, List.getD_cons_succ, List.getD_cons_zero] at hF
  obtain ⟨f0, f1, f2, f3, -, f5, f6, f7, f8, f9, f10, f11, f12, -⟩ := hF
  simp only [putAll, Act.put, Nat.zero_add, Nat.reduceAdd, f0, f1, f2, f3, f5, f6, f7, f8, f9, f10, f11, f12, List.setIfInBounds_toArray, List.set_cons_zero, List.set_cons_succ]
  obtain ⟨us, hus⟩ : ∃ us, us = xs ++ ys := ⟨_, rfl⟩
  rw [← hus] at f10 HE HU
  obtain ⟨A2, k2, hv, hk2, hr2⟩ := f10.rd
  rw [hv] at f12 ⊢
  have KB := Aside.mk hB.1
  have KX := Aside.mk hB.2.1
  have KM := Aside.mk f12
  have KL := Aside.mk (HW.out.below hB.1)
  have KU := Aside.mk (show Rd lnkD w' A2 us.length us from hr2)
  have hms : m < w'.heap.size := hB.2.2.2.1
  have hNs : w.heap.size < w'.heap.size := by omega
  have e0 := (hB.1.cell hbl).trans e0
  have e1 := (hB.1.cell hbl).trans e1
  have e2 := (hB.1.cell hbl).trans e2
  have e3 := (hB.1.cell hbl).trans e3
  have c0 := blk_cell hB.2.1 0
  have c1 := blk_cell hB.2.1 1
  have c2 := blk_cell hB.2.1 2
  simp at c0 c1 c2
  clear f0 f1 f2 f3 f5 f6 f7 f8 f9 f10 f11 f12 hB hv hr2 HXL HYL RX RY hAY hus HW hxy
  generalize vs 4 = v4
  go_wp2
  all_goals
    have he := HE.out
    have hmu := HU.out
    obtain ⟨v1, hq1⟩ : ∃ v, edgeL s p us x y = v := ⟨_, rfl⟩
    obtain ⟨v2, hq2⟩ : ∃ v, edgeL s p ls x y = v := ⟨_, rfl⟩
    rw [hq1, hq2] at he
    first
      | (have hee : (q1 && q2 || q3 && q4) = true := by simp [*]
         rw [hee] at he
         have HQ3 := Aside.mk he
         clear he
         refine wp_region_facts (Base := lseB s p (some ⟨b, o, none⟩) c ls A2 k2 us x y v1 v2 true m w) (q := lseQ) (Fs := lseF s p (some ⟨b, o, none⟩) c ls A2 k2 us x y v1 v2 true m w) (by kernel_rfl) (by kernel_rfl) (by kernel_rfl) (by kernel_rfl) ⟨below_drew (below_alloc KB.out _), blk_keep KX.out (below_drew ((Below.refl _ _).alloc (Nat.le_refl _) _)), blk_keep KM.out (below_drew ((Below.refl _ _).alloc (Nat.le_refl _) _)), KL.out.below (below_drew ((Below.refl _ _).alloc (Nat.le_refl _) _)), KU.out.below (below_drew ((Below.refl _ _).alloc (Nat.le_refl _) _))⟩ ?_ ?_
         · clear KB KX KM KL KU c0 c1 c2 e0 e1 e2 e3
           have hBs := lseB_stay s p (some ⟨b, o, none⟩) c ls A2 k2 us x y v1 v2 true m w
           have hFs := lseF_stay s p (some ⟨b, o, none⟩) c ls A2 k2 us x y v1 v2 true m w
           refine ⟨?_, ?_, ?_, ?_, ?_, ?_, ?_, ?_, ?_, ?_, ?_, ?_, ?_, ?_, ?_, ?_, ?_, trivial⟩
           · refine step_pure hBs hFs rfl fun a' w' hB hag hp => ?_
             have h10 := hag 10 (by kernel_rfl)
             have hc0 := blk_cell hB.2.1 0; have hc1 := blk_cell hB.2.1 1; have hc2 := blk_cell hB.2.1 2; have hd0 := blk_cell hB.2.2.1 0; have hd1 := blk_cell hB.2.2.1 1; have hd2 := blk_cell hB.2.2.1 2; simp at hc0 hc1 hc2 hd0 hd1 hd2
             simp at h10
             unfold OpYields
             go_simp
             exact ⟨Below.refl _ _, rfl⟩
           · refine step_pure hBs hFs rfl fun a' w' hB hag hp => ?_
             have h73 : a'.tmps.getD 73 undef = _ := hp 0 (by kernel_rfl)
             simp at h73
             unfold OpYields
             go_simp
             refine (may_any _ _ _ _ _ _ hB.2.2.2.2).mono ?_
             rw [hmu]
             rintro e w1 ⟨rfl, hb⟩
             exact ⟨_, rfl, hb, rfl⟩
           · refine step_pure hBs hFs rfl fun a' w' hB hag hp => ?_
             have h74 : a'.tmps.getD 74 undef = _ := hp 1 (by kernel_rfl)
             simp at h74
             unfold OpYields
             go_simp
             exact ⟨Below.refl _ _, rfl⟩
           · refine step_pure_g hBs hFs fun a' w' hB hag hp => ?_
             have hg : a'.tmps.getD 75 undef = _ := hp 2 (by kernel_rfl)
             have h10 := hag 10 (by kernel_rfl)
             have hc0 := blk_cell hB.2.1 0; have hc1 := blk_cell hB.2.1 1; have hc2 := blk_cell hB.2.1 2; have hd0 := blk_cell hB.2.2.1 0; have hd1 := blk_cell hB.2.2.1 1; have hd2 := blk_cell hB.2.2.1 2; simp at hc0 hc1 hc2 hd0 hd1 hd2
             refine ⟨wanted_of hg rfl rfl, ?_⟩
             simp at h10
             unfold OpYields
             go_simp
             exact ⟨Below.refl _ _, rfl⟩
           · refine step_pure_g hBs hFs fun a' w' hB hag hp => ?_
             have hg : a'.tmps.getD 75 undef = _ := hp 2 (by kernel_rfl)
             have h2 := hag 2 (by kernel_rfl)
             refine ⟨wanted_of hg rfl rfl, ?_⟩
             simp at h2
             unfold OpYields
             go_simp
             exact ⟨Below.refl _ _, rfl⟩
           · refine step_pure_g hBs hFs fun a' w' hB hag hp => ?_
             have hg : a'.tmps.getD 75 undef = _ := hp 2 (by kernel_rfl)
             have h3 := hag 3 (by kernel_rfl)
             refine ⟨wanted_of hg rfl rfl, ?_⟩
             simp at h3
             unfold OpYields
             go_simp
             exact ⟨Below.refl _ _, rfl⟩
           · refine step_pure_g hBs hFs fun a' w' hB hag hp => ?_
             have hg : a'.tmps.getD 75 undef = _ := hp 2 (by kernel_rfl)
             have h76 : a'.tmps.getD 76 undef = _ := hp 3 (by kernel_rfl)
             have h77 : a'.tmps.getD 77 undef = _ := hp 4 (by kernel_rfl)
             have h78 : a'.tmps.getD 78 undef = _ := hp 5 (by kernel_rfl)
             refine ⟨wanted_of hg rfl rfl, ?_⟩
             simp at h76 h77 h78
             unfold OpYields
             go_simp
             refine (edge_any _ _ _ _ _ _ _ _ hB.2.2.2.2).mono ?_
             rw [hq1]
             rintro e w1 ⟨rfl, hb⟩
             exact ⟨_, rfl, hb, rfl⟩
           · refine step_pure_g hBs hFs fun a' w' hB hag hp => ?_
             have hg : a'.tmps.getD 75 undef = _ := hp 2 (by kernel_rfl)
             have h4 := hag 4 (by kernel_rfl)
             have hc0 := blk_cell hB.2.1 0; have hc1 := blk_cell hB.2.1 1; have hc2 := blk_cell hB.2.1 2; have hd0 := blk_cell hB.2.2.1 0; have hd1 := blk_cell hB.2.2.1 1; have hd2 := blk_cell hB.2.2.1 2; simp at hc0 hc1 hc2 hd0 hd1 hd2
             refine ⟨wanted_of hg rfl rfl, ?_⟩
             simp at h4
             unfold OpYields
             go_simp
             exact ⟨Below.refl _ _, rfl⟩
           · refine step_pure_g hBs hFs fun a' w' hB hag hp => ?_
             have hg : a'.tmps.getD 75 undef = _ := hp 2 (by kernel_rfl)
             have h2 := hag 2 (by kernel_rfl)
             refine ⟨wanted_of hg rfl rfl, ?_⟩
             simp at h2
             unfold OpYields
             go_simp
             exact ⟨Below.refl _ _, rfl⟩
           · refine step_pure_g hBs hFs fun a' w' hB hag hp => ?_
             have hg : a'.tmps.getD 75 undef = _ := hp 2 (by kernel_rfl)
             have h3 := hag 3 (by kernel_rfl)
             refine ⟨wanted_of hg rfl rfl, ?_⟩
             simp at h3
             unfold OpYields
             go_simp
             exact ⟨Below.refl _ _, rfl⟩
           · refine step_pure_g hBs hFs fun a' w' hB hag hp => ?_
             have hg : a'.tmps.getD 75 undef = _ := hp 2 (by kernel_rfl)
             have h80 : a'.tmps.getD 80 undef = _ := hp 7 (by kernel_rfl)
             have h81 : a'.tmps.getD 81 undef = _ := hp 8 (by kernel_rfl)
             have h82 : a'.tmps.getD 82 undef = _ := hp 9 (by kernel_rfl)
             refine ⟨wanted_of hg rfl rfl, ?_⟩
             simp at h80 h81 h82
             unfold OpYields
             go_simp
             refine (edge_any _ _ _ _ _ _ _ _ hB.2.2.2.1).mono ?_
             rw [hq2]
             rintro e w1 ⟨rfl, hb⟩
             exact ⟨_, rfl, hb, rfl⟩
           · refine step_pure_g hBs hFs fun a' w' hB hag hp => ?_
             have hg : a'.tmps.getD 75 undef = _ := hp 2 (by kernel_rfl)
             have h83 : a'.tmps.getD 83 undef = _ := hp 10 (by kernel_rfl)
             refine ⟨wanted_of hg rfl rfl, ?_⟩
             simp at h83
             unfold OpYields
             go_simp
             exact ⟨Below.refl _ _, rfl⟩
           · cases v2 with
             | true =>
               refine step_out fun a' w' hB hag hp => ?_
               have h84 : a'.tmps.getD 84 undef = .bool true := hp 11 (by kernel_rfl)
               exact ⟨unwanted_of h84 rfl rfl rfl, rfl⟩
             | false =>
               refine step_pure_g hBs hFs fun a' w' hB hag hp => ?_
               have h84 : a'.tmps.getD 84 undef = .bool false := hp 11 (by kernel_rfl)
               have h12 := hag 12 (by kernel_rfl)
               refine ⟨wanted_of h84 rfl rfl, ?_⟩
               simp at h12
               unfold OpYields
               go_simp
               exact ⟨Below.refl _ _, rfl⟩
           · refine step_pure_g hBs hFs fun a' w' hB hag hp => ?_
             have hg : a'.tmps.getD 75 undef = _ := hp 2 (by kernel_rfl)
             have h84 : a'.tmps.getD 84 undef = _ := hp 11 (by kernel_rfl)
             have h85 := hp 12 (by kernel_rfl)
             replace h85 : _ := h85
             refine ⟨wanted_of hg rfl rfl, ?_⟩
             have h85' : a'.tmps.getD 85 undef = if v2 then undef else .bool true := hp 12 (by kernel_rfl)
             simp at h84
             cases v2 <;> simp at h85' <;> unfold OpYields <;> go_simp <;> exact ⟨Below.refl _ _, rfl⟩
           · refine step_pure_g hBs hFs fun a' w' hB hag hp => ?_
             have hg : a'.tmps.getD 75 undef = _ := hp 2 (by kernel_rfl)
             have h79 : a'.tmps.getD 79 undef = _ := hp 6 (by kernel_rfl)
             have h86 : a'.tmps.getD 86 undef = _ := hp 13 (by kernel_rfl)
             have ueq := Try.underlying3
             have ueqb := Try.underlying4
             refine ⟨wanted_of hg rfl rfl, ?_⟩
             simp at h79 h86
             unfold OpYields
             go_simp
             rw [HQ3.out]
             simp
             exact ⟨Below.refl _ _, rfl⟩
           · refine step_pure hBs hFs rfl fun a' w' hB hag hp => ?_
             have h75 : a'.tmps.getD 75 undef = _ := hp 2 (by kernel_rfl)
             have h87 : a'.tmps.getD 87 undef = _ := hp 14 (by kernel_rfl)
             simp at h75 h87
             unfold OpYields
             go_simp
             exact ⟨Below.refl _ _, rfl⟩
           · refine step_pure hBs hFs rfl fun a' w' hB hag hp => ?_
             have h88 : a'.tmps.getD 88 undef = _ := hp 15 (by kernel_rfl)
             simp at h88
             unfold OpYields
             go_simp
             exact ⟨Below.refl _ _, rfl⟩
         intro vs w' hB hF
         simp only [AllF, forall_const, reduceCtorEq, false_implies, Fof, lseF, lseQ, Nat.zero_add, Nat.reduceAdd, Nat.reduceEqDiff, if_true, if_false, List.getD_cons_succ, List.getD_cons_zero] at hF
         obtain ⟨f0, f1, f2, f3, f4, f5, f6, f7, f8, f9, f10, f11, f12, f13, f14, f15, f16, -⟩ := hF
         simp only [putAll, Act.put, Nat.zero_add, Nat.reduceAdd, f0, f1, f2, f3, f4, f5, f6, f7, f8, f9, f10, f11, f12, f13, f14, f15, f16, List.setIfInBounds_toArray, List.set_cons_zero, List.set_cons_succ]
         have KB := Aside.mk hB.1
         clear hB
         go_wp2
         all_goals
           go_ret
           exact ⟨rfl, KB.out⟩)
      | (have hee : (q1 && q2 || q3 && q4) = false := by simp [*]
         rw [hee] at he
         have HQ3 := Aside.mk he
         clear he
         refine wp_region_facts (Base := lseB s p (some ⟨b, o, none⟩) c ls A2 k2 us x y v1 v2 false m w) (q := lseQ) (Fs := lseF s p (some ⟨b, o, none⟩) c ls A2 k2 us x y v1 v2 false m w) (by kernel_rfl) (by kernel_rfl) (by kernel_rfl) (by kernel_rfl) ⟨below_drew (below_alloc KB.out _), blk_keep KX.out (below_drew ((Below.refl _ _).alloc (Nat.le_refl _) _)), blk_keep KM.out (below_drew ((Below.refl _ _).alloc (Nat.le_refl _) _)), KL.out.below (below_drew ((Below.refl _ _).alloc (Nat.le_refl _) _)), KU.out.below (below_drew ((Below.refl _ _).alloc (Nat.le_refl _) _))⟩ ?_ ?_
         · clear KB KX KM KL KU c0 c1 c2 e0 e1 e2 e3
           have hBs := lseB_stay s p (some ⟨b, o, none⟩) c ls A2 k2 us x y v1 v2 false m w
           have hFs := lseF_stay s p (some ⟨b, o, none⟩) c ls A2 k2 us x y v1 v2 false m w
           refine ⟨?_, ?_, ?_, ?_, ?_, ?_, ?_, ?_, ?_, ?_, ?_, ?_, ?_, ?_, ?_, ?_, ?_, trivial⟩
           · refine step_pure hBs hFs rfl fun a' w' hB hag hp => ?_
             have h10 := hag 10 (by kernel_rfl)
             have hc0 := blk_cell hB.2.1 0; have hc1 := blk_cell hB.2.1 1; have hc2 := blk_cell hB.2.1 2; have hd0 := blk_cell hB.2.2.1 0; have hd1 := blk_cell hB.2.2.1 1; have hd2 := blk_cell hB.2.2.1 2; simp at hc0 hc1 hc2 hd0 hd1 hd2
             simp at h10
             unfold OpYields
             go_simp
             exact ⟨Below.refl _ _, rfl⟩
           · refine step_pure hBs hFs rfl fun a' w' hB hag hp => ?_
             have h73 : a'.tmps.getD 73 undef = _ := hp 0 (by kernel_rfl)
             simp at h73
             unfold OpYields
             go_simp
             refine (may_any _ _ _ _ _ _ hB.2.2.2.2).mono ?_
             rw [hmu]
             rintro e w1 ⟨rfl, hb⟩
             exact ⟨_, rfl, hb, rfl⟩
           · refine step_pure hBs hFs rfl fun a' w' hB hag hp => ?_
             have h74 : a'.tmps.getD 74 undef = _ := hp 1 (by kernel_rfl)
             simp at h74
             unfold OpYields
             go_simp
             exact ⟨Below.refl _ _, rfl⟩
           · refine step_pure_g hBs hFs fun a' w' hB hag hp => ?_
             have hg : a'.tmps.getD 75 undef = _ := hp 2 (by kernel_rfl)
             have h10 := hag 10 (by kernel_rfl)
             have hc0 := blk_cell hB.2.1 0; have hc1 := blk_cell hB.2.1 1; have hc2 := blk_cell hB.2.1 2; have hd0 := blk_cell hB.2.2.1 0; have hd1 := blk_cell hB.2.2.1 1; have hd2 := blk_cell hB.2.2.1 2; simp at hc0 hc1 hc2 hd0 hd1 hd2
             refine ⟨wanted_of hg rfl rfl, ?_⟩
             simp at h10
             unfold OpYields
             go_simp
             exact ⟨Below.refl _ _, rfl⟩
           · refine step_pure_g hBs hFs fun a' w' hB hag hp => ?_
             have hg : a'.tmps.getD 75 undef = _ := hp 2 (by kernel_rfl)
             have h2 := hag 2 (by kernel_rfl)
             refine ⟨wanted_of hg rfl rfl, ?_⟩
             simp at h2
             unfold OpYields
             go_simp
             exact ⟨Below.refl _ _, rfl⟩
           · refine step_pure_g hBs hFs fun a' w' hB hag hp => ?_
             have hg : a'.tmps.getD 75 undef = _ := hp 2 (by kernel_rfl)
             have h3 := hag 3 (by kernel_rfl)
             refine ⟨wanted_of hg rfl rfl, ?_⟩
             simp at h3
             unfold OpYields
             go_simp
             exact ⟨Below.refl _ _, rfl⟩
           · refine step_pure_g hBs hFs fun a' w' hB hag hp => ?_
             have hg : a'.tmps.getD 75 undef = _ := hp 2 (by kernel_rfl)
             have h76 : a'.tmps.getD 76 undef = _ := hp 3 (by kernel_rfl)
             have h77 : a'.tmps.getD 77 undef = _ := hp 4 (by kernel_rfl)
             have h78 : a'.tmps.getD 78 undef = _ := hp 5 (by kernel_rfl)
             refine ⟨wanted_of hg rfl rfl, ?_⟩
             simp at h76 h77 h78
             unfold OpYields
             go_simp
             refine (edge_any _ _ _ _ _ _ _ _ hB.2.2.2.2).mono ?_
             rw [hq1]
             rintro e w1 ⟨rfl, hb⟩
             exact ⟨_, rfl, hb, rfl⟩
           · refine step_pure_g hBs hFs fun a' w' hB hag hp => ?_
             have hg : a'.tmps.getD 75 undef = _ := hp 2 (by kernel_rfl)
             have h4 := hag 4 (by kernel_rfl)
             have hc0 := blk_cell hB.2.1 0; have hc1 := blk_cell hB.2.1 1; have hc2 := blk_cell hB.2.1 2; have hd0 := blk_cell hB.2.2.1 0; have hd1 := blk_cell hB.2.2.1 1; have hd2 := blk_cell hB.2.2.1 2; simp at hc0 hc1 hc2 hd0 hd1 hd2
             refine ⟨wanted_of hg rfl rfl, ?_⟩
             simp at h4
             unfold OpYields
             go_simp
             exact ⟨Below.refl _ _, rfl⟩
           · refine step_pure_g hBs hFs fun a' w' hB hag hp => ?_
             have hg : a'.tmps.getD 75 undef = _ := hp 2 (by kernel_rfl)
             have h2 := hag 2 (by kernel_rfl)
             refine ⟨wanted_of hg rfl rfl, ?_⟩
             simp at h2
             unfold OpYields
             go_simp
             exact ⟨Below.refl _ _, rfl⟩
           · refine step_pure_g hBs hFs fun a' w' hB hag hp => ?_
             have hg : a'.tmps.getD 75 undef = _ := hp 2 (by kernel_rfl)
             have h3 := hag 3 (by kernel_rfl)
             refine ⟨wanted_of hg rfl rfl, ?_⟩
             simp at h3
             unfold OpYields
             go_simp
             exact ⟨Below.refl _ _, rfl⟩
           · refine step_pure_g hBs hFs fun a' w' hB hag hp => ?_
             have hg : a'.tmps.getD 75 undef = _ := hp 2 (by kernel_rfl)
             have h80 : a'.tmps.getD 80 undef = _ := hp 7 (by kernel_rfl)
             have h81 : a'.tmps.getD 81 undef = _ := hp 8 (by kernel_rfl)
             have h82 : a'.tmps.getD 82 undef = _ := hp 9 (by kernel_rfl)
             refine ⟨wanted_of hg rfl rfl, ?_⟩
             simp at h80 h81 h82
             unfold OpYields
             go_simp
             refine (edge_any _ _ _ _ _ _ _ _ hB.2.2.2.1).mono ?_
             rw [hq2]
             rintro e w1 ⟨rfl, hb⟩
             exact ⟨_, rfl, hb, rfl⟩
           · refine step_pure_g hBs hFs fun a' w' hB hag hp => ?_
             have hg : a'.tmps.getD 75 undef = _ := hp 2 (by kernel_rfl)
             have h83 : a'.tmps.getD 83 undef = _ := hp 10 (by kernel_rfl)
             refine ⟨wanted_of hg rfl rfl, ?_⟩
             simp at h83
             unfold OpYields
             go_simp
             exact ⟨Below.refl _ _, rfl⟩
           · cases v2 with
             | true =>
               refine step_out fun a' w' hB hag hp => ?_
               have h84 : a'.tmps.getD 84 undef = .bool true := hp 11 (by kernel_rfl)
               exact ⟨unwanted_of h84 rfl rfl rfl, rfl⟩
             | false =>
               refine step_pure_g hBs hFs fun a' w' hB hag hp => ?_
               have h84 : a'.tmps.getD 84 undef = .bool false := hp 11 (by kernel_rfl)
               have h12 := hag 12 (by kernel_rfl)
               refine ⟨wanted_of h84 rfl rfl, ?_⟩
               simp at h12
               unfold OpYields
               go_simp
               exact ⟨Below.refl _ _, rfl⟩
           · refine step_pure_g hBs hFs fun a' w' hB hag hp => ?_
             have hg : a'.tmps.getD 75 undef = _ := hp 2 (by kernel_rfl)
             have h84 : a'.tmps.getD 84 undef = _ := hp 11 (by kernel_rfl)
             have h85 := hp 12 (by kernel_rfl)
             replace h85 : _ := h85
             refine ⟨wanted_of hg rfl rfl, ?_⟩
             have h85' : a'.tmps.getD 85 undef = if v2 then undef else .bool false := hp 12 (by kernel_rfl)
             simp at h84
             cases v2 <;> simp at h85' <;> unfold OpYields <;> go_simp <;> exact ⟨Below.refl _ _, rfl⟩
           · refine step_pure_g hBs hFs fun a' w' hB hag hp => ?_
             have hg : a'.tmps.getD 75 undef = _ := hp 2 (by kernel_rfl)
             have h79 : a'.tmps.getD 79 undef = _ := hp 6 (by kernel_rfl)
             have h86 : a'.tmps.getD 86 undef = _ := hp 13 (by kernel_rfl)
             have ueq := Try.underlying3
             have ueqb := Try.underlying4
             refine ⟨wanted_of hg rfl rfl, ?_⟩
             simp at h79 h86
             unfold OpYields
             go_simp
             rw [HQ3.out]
             simp
             exact ⟨Below.refl _ _, rfl⟩
           · refine step_pure hBs hFs rfl fun a' w' hB hag hp => ?_
             have h75 : a'.tmps.getD 75 undef = _ := hp 2 (by kernel_rfl)
             have h87 : a'.tmps.getD 87 undef = _ := hp 14 (by kernel_rfl)
             simp at h75 h87
             unfold OpYields
             go_simp
             exact ⟨Below.refl _ _, rfl⟩
           · refine step_pure hBs hFs rfl fun a' w' hB hag hp => ?_
             have h88 : a'.tmps.getD 88 undef = _ := hp 15 (by kernel_rfl)
             simp at h88
             unfold OpYields
             go_simp
             exact ⟨Below.refl _ _, rfl⟩
         intro vs w' hB hF
         simp only [AllF, forall_const, reduceCtorEq, false_implies, Fof, lseF, lseQ, Nat.zero_add, Nat.reduceAdd, Nat.reduceEqDiff, if_true, if_false, List.getD_cons_succ, List.getD_cons_zero] at hF
         obtain ⟨f0, f1, f2, f3, f4, f5, f6, f7, f8, f9, f10, f11, f12, f13, f14, f15, f16, -⟩ := hF
         simp only [putAll, Act.put, Nat.zero_add, Nat.reduceAdd, f0, f1, f2, f3, f4, f5, f6, f7, f8, f9, f10, f11, f12, f13, f14, f15, f16, List.setIfInBounds_toArray, List.set_cons_zero, List.set_cons_succ]
         have KB := Aside.mk hB.1
         clear hB
         go_wp2
         all_goals
           go_ret
           exact ⟨rfl, KB.out⟩)
      | (have hee : (q1 && q2 || q3 && q4) = q4 := by simp [*]
         rw [hee] at he
         have HQ3 := Aside.mk he
         clear he
         refine wp_region_facts (Base := lseB s p (some ⟨b, o, none⟩) c ls A2 k2 us x y v1 v2 q4 m w) (q := lseQ) (Fs := lseF s p (some ⟨b, o, none⟩) c ls A2 k2 us x y v1 v2 q4 m w) (by kernel_rfl) (by kernel_rfl) (by kernel_rfl) (by kernel_rfl) ⟨below_drew (below_alloc KB.out _), blk_keep KX.out (below_drew ((Below.refl _ _).alloc (Nat.le_refl _) _)), blk_keep KM.out (below_drew ((Below.refl _ _).alloc (Nat.le_refl _) _)), KL.out.below (below_drew ((Below.refl _ _).alloc (Nat.le_refl _) _)), KU.out.below (below_drew ((Below.refl _ _).alloc (Nat.le_refl _) _))⟩ ?_ ?_
         · clear KB KX KM KL KU c0 c1 c2 e0 e1 e2 e3
           have hBs := lseB_stay s p (some ⟨b, o, none⟩) c ls A2 k2 us x y v1 v2 q4 m w
           have hFs := lseF_stay s p (some ⟨b, o, none⟩) c ls A2 k2 us x y v1 v2 q4 m w
           refine ⟨?_, ?_, ?_, ?_, ?_, ?_, ?_, ?_, ?_, ?_, ?_, ?_, ?_, ?_, ?_, ?_, ?_, trivial⟩
           · refine step_pure hBs hFs rfl fun a' w' hB hag hp => ?_
             have h10 := hag 10 (by kernel_rfl)
             have hc0 := blk_cell hB.2.1 0; have hc1 := blk_cell hB.2.1 1; have hc2 := blk_cell hB.2.1 2; have hd0 := blk_cell hB.2.2.1 0; have hd1 := blk_cell hB.2.2.1 1; have hd2 := blk_cell hB.2.2.1 2; simp at hc0 hc1 hc2 hd0 hd1 hd2
             simp at h10
             unfold OpYields
             go_simp
             exact ⟨Below.refl _ _, rfl⟩
           · refine step_pure hBs hFs rfl fun a' w' hB hag hp => ?_
             have h73 : a'.tmps.getD 73 undef = _ := hp 0 (by kernel_rfl)
             simp at h73
             unfold OpYields
             go_simp
             refine (may_any _ _ _ _ _ _ hB.2.2.2.2).mono ?_
             rw [hmu]
             rintro e w1 ⟨rfl, hb⟩
             exact ⟨_, rfl, hb, rfl⟩
           · refine step_pure hBs hFs rfl fun a' w' hB hag hp => ?_
             have h74 : a'.tmps.getD 74 undef = _ := hp 1 (by kernel_rfl)
             simp at h74
             unfold OpYields
             go_simp
             exact ⟨Below.refl _ _, rfl⟩
           · refine step_pure_g hBs hFs fun a' w' hB hag hp => ?_
             have hg : a'.tmps.getD 75 undef = _ := hp 2 (by kernel_rfl)
             have h10 := hag 10 (by kernel_rfl)
             have hc0 := blk_cell hB.2.1 0; have hc1 := blk_cell hB.2.1 1; have hc2 := blk_cell hB.2.1 2; have hd0 := blk_cell hB.2.2.1 0; have hd1 := blk_cell hB.2.2.1 1; have hd2 := blk_cell hB.2.2.1 2; simp at hc0 hc1 hc2 hd0 hd1 hd2
             refine ⟨wanted_of hg rfl rfl, ?_⟩
             simp at h10
             unfold OpYields
             go_simp
             exact ⟨Below.refl _ _, rfl⟩
           · refine step_pure_g hBs hFs fun a' w' hB hag hp => ?_
             have hg : a'.tmps.getD 75 undef = _ := hp 2 (by kernel_rfl)
             have h2 := hag 2 (by kernel_rfl)
             refine ⟨wanted_of hg rfl rfl, ?_⟩
             simp at h2
             unfold OpYields
             go_simp
             exact ⟨Below.refl _ _, rfl⟩
           · refine step_pure_g hBs hFs fun a' w' hB hag hp => ?_
             have hg : a'.tmps.getD 75 undef = _ := hp 2 (by kernel_rfl)
             have h3 := hag 3 (by kernel_rfl)
             refine ⟨wanted_of hg rfl rfl, ?_⟩
             simp at h3
             unfold OpYields
             go_simp
             exact ⟨Below.refl _ _, rfl⟩
           · refine step_pure_g hBs hFs fun a' w' hB hag hp => ?_
             have hg : a'.tmps.getD 75 undef = _ := hp 2 (by kernel_rfl)
             have h76 : a'.tmps.getD 76 undef = _ := hp 3 (by kernel_rfl)
             have h77 : a'.tmps.getD 77 undef = _ := hp 4 (by kernel_rfl)
             have h78 : a'.tmps.getD 78 undef = _ := hp 5 (by kernel_rfl)
             refine ⟨wanted_of hg rfl rfl, ?_⟩
             simp at h76 h77 h78
             unfold OpYields
             go_simp
             refine (edge_any _ _ _ _ _ _ _ _ hB.2.2.2.2).mono ?_
             rw [hq1]
             rintro e w1 ⟨rfl, hb⟩
             exact ⟨_, rfl, hb, rfl⟩
           · refine step_pure_g hBs hFs fun a' w' hB hag hp => ?_
             have hg : a'.tmps.getD 75 undef = _ := hp 2 (by kernel_rfl)
             have h4 := hag 4 (by kernel_rfl)
             have hc0 := blk_cell hB.2.1 0; have hc1 := blk_cell hB.2.1 1; have hc2 := blk_cell hB.2.1 2; have hd0 := blk_cell hB.2.2.1 0; have hd1 := blk_cell hB.2.2.1 1; have hd2 := blk_cell hB.2.2.1 2; simp at hc0 hc1 hc2 hd0 hd1 hd2
             refine ⟨wanted_of hg rfl rfl, ?_⟩
             simp at h4
             unfold OpYields
             go_simp
             exact ⟨Below.refl _ _, rfl⟩
           · refine step_pure_g hBs hFs fun a' w' hB hag hp => ?_
             have hg : a'.tmps.getD 75 undef = _ := hp 2 (by kernel_rfl)
             have h2 := hag 2 (by kernel_rfl)
             refine ⟨wanted_of hg rfl rfl, ?_⟩
             simp at h2
             unfold OpYields
             go_simp
             exact ⟨Below.refl _ _, rfl⟩
           · refine step_pure_g hBs hFs fun a' w' hB hag hp => ?_
             have hg : a'.tmps.getD 75 undef = _ := hp 2 (by kernel_rfl)
             have h3 := hag 3 (by kernel_rfl)
             refine ⟨wanted_of hg rfl rfl, ?_⟩
             simp at h3
             unfold OpYields
             go_simp
             exact ⟨Below.refl _ _, rfl⟩
           · refine step_pure_g hBs hFs fun a' w' hB hag hp => ?_
             have hg : a'.tmps.getD 75 undef = _ := hp 2 (by kernel_rfl)
             have h80 : a'.tmps.getD 80 undef = _ := hp 7 (by kernel_rfl)
             have h81 : a'.tmps.getD 81 undef = _ := hp 8 (by kernel_rfl)
             have h82 : a'.tmps.getD 82 undef = _ := hp 9 (by kernel_rfl)
             refine ⟨wanted_of hg rfl rfl, ?_⟩
             simp at h80 h81 h82
             unfold OpYields
             go_simp
             refine (edge_any _ _ _ _ _ _ _ _ hB.2.2.2.1).mono ?_
             rw [hq2]
             rintro e w1 ⟨rfl, hb⟩
             exact ⟨_, rfl, hb, rfl⟩
           · refine step_pure_g hBs hFs fun a' w' hB hag hp => ?_
             have hg : a'.tmps.getD 75 undef = _ := hp 2 (by kernel_rfl)
             have h83 : a'.tmps.getD 83 undef = _ := hp 10 (by kernel_rfl)
             refine ⟨wanted_of hg rfl rfl, ?_⟩
             simp at h83
             unfold OpYields
             go_simp
             exact ⟨Below.refl _ _, rfl⟩
           · cases v2 with
             | true =>
               refine step_out fun a' w' hB hag hp => ?_
               have h84 : a'.tmps.getD 84 undef = .bool true := hp 11 (by kernel_rfl)
               exact ⟨unwanted_of h84 rfl rfl rfl, rfl⟩
             | false =>
               refine step_pure_g hBs hFs fun a' w' hB hag hp => ?_
               have h84 : a'.tmps.getD 84 undef = .bool false := hp 11 (by kernel_rfl)
               have h12 := hag 12 (by kernel_rfl)
               refine ⟨wanted_of h84 rfl rfl, ?_⟩
               simp at h12
               unfold OpYields
               go_simp
               exact ⟨Below.refl _ _, rfl⟩
           · refine step_pure_g hBs hFs fun a' w' hB hag hp => ?_
             have hg : a'.tmps.getD 75 undef = _ := hp 2 (by kernel_rfl)
             have h84 : a'.tmps.getD 84 undef = _ := hp 11 (by kernel_rfl)
             have h85 := hp 12 (by kernel_rfl)
             replace h85 : _ := h85
             refine ⟨wanted_of hg rfl rfl, ?_⟩
             have h85' : a'.tmps.getD 85 undef = if v2 then undef else .bool q4 := hp 12 (by kernel_rfl)
             simp at h84
             cases v2 <;> simp at h85' <;> unfold OpYields <;> go_simp <;> exact ⟨Below.refl _ _, rfl⟩
           · refine step_pure_g hBs hFs fun a' w' hB hag hp => ?_
             have hg : a'.tmps.getD 75 undef = _ := hp 2 (by kernel_rfl)
             have h79 : a'.tmps.getD 79 undef = _ := hp 6 (by kernel_rfl)
             have h86 : a'.tmps.getD 86 undef = _ := hp 13 (by kernel_rfl)
             have ueq := Try.underlying3
             have ueqb := Try.underlying4
             refine ⟨wanted_of hg rfl rfl, ?_⟩
             simp at h79 h86
             unfold OpYields
             go_simp
             rw [HQ3.out]
             simp
             exact ⟨Below.refl _ _, rfl⟩
           · refine step_pure hBs hFs rfl fun a' w' hB hag hp => ?_
             have h75 : a'.tmps.getD 75 undef = _ := hp 2 (by kernel_rfl)
             have h87 : a'.tmps.getD 87 undef = _ := hp 14 (by kernel_rfl)
             simp at h75 h87
             unfold OpYields
             go_simp
             exact ⟨Below.refl _ _, rfl⟩
           · refine step_pure hBs hFs rfl fun a' w' hB hag hp => ?_
             have h88 : a'.tmps.getD 88 undef = _ := hp 15 (by kernel_rfl)
             simp at h88
             unfold OpYields
             go_simp
             exact ⟨Below.refl _ _, rfl⟩
         intro vs w' hB hF
         simp only [AllF, forall_const, reduceCtorEq, false_implies, Fof, lseF, lseQ, Nat.zero_add, Nat.reduceAdd, Nat.reduceEqDiff, if_true, if_false, List.getD_cons_succ, List.getD_cons_zero] at hF
         obtain ⟨f0, f1, f2, f3, f4, f5, f6, f7, f8, f9, f10, f11, f12, f13, f14, f15, f16, -⟩ := hF
         simp only [putAll, Act.put, Nat.zero_add, Nat.reduceAdd, f0, f1, f2, f3, f4, f5, f6, f7, f8, f9, f10, f11, f12, f13, f14, f15, f16, List.setIfInBounds_toArray, List.set_cons_zero, List.set_cons_succ]
         have KB := Aside.mk hB.1
         clear hB
         go_wp2
         all_goals
           go_ret
           exact ⟨rfl, KB.out⟩)

theorem topoLess_walk (s p : Int) (A : Option Addr) (c : Nat) (ls : List Lnk) (i x y : Int) (w : World) (hl : Rd lnkD w A ls.length ls) (hf : FitT s p c ls) (_ : Fit i) (_ : Fit x) (_ : Fit y) :
    Calls Try.prog 6 #[.agg #[.int .i64 s, .int .i64 p, .slice A ls.length c], .int .i64 i, .int .i64 x, .int .i64 y] w fun e w' => e = .returned (.bool true) ∧ Below w.heap.size w w' := by
  by_cases h : mayT s p ls = true ∧ 0 ≤ i ∧ i < ls.length
  · obtain ⟨k, rfl⟩ : ∃ k : Nat, i = k := ⟨i.toNat, by omega⟩
    exact topoLess_in s p A c ls k x y w hl hf.2.2.2 h.1 (by omega)
  · exact topoLess_out s p A c ls i x y w hl h
end Go.Proofs.Ytnjiojmebaojpaa
