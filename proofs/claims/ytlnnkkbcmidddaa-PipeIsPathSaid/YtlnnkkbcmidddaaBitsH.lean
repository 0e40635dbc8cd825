/- The walks through Has, Fits, Ahead: the program's, and the document's. -/
import Derived.Test.YtlnnkkbcmidddaaBitsW
import Derived.Test.YtlnnkkbcmidddaaOwn
namespace Go.Proofs.Ytlnnkkbcmidddaa
open Go.RowKit
set_option maxRecDepth 100000

def hasB (pa pl dst : Int) (w : World) (w' : World) : Prop :=
  Below w.heap.size w w' ∧ w'.heap[w.heap.size]? = some (.cells #[.int .i64 pa, .int .i64 pl] 54)
def hasF (pa pl dst : Int) (w : World) : List (Value → Value → World → Prop) :=
  [fun _ v _ => v = .int .i64 dst,
   fun _ v _ => v = .pointer (some ⟨w.heap.size, 1, none⟩),
   fun _ v _ => v = .int .i64 pl,
   fun _ v _ => v = .agg #[.int .i64 (cutN dst pl), .int .i64 (boundI pl)],
   fun _ v _ => v = .agg #[.int .i64 pa, .int .i64 pl],
   fun _ v _ => v = .bool (hasI pa pl dst),
   fun _ v _ => v = .bool (hasI pa pl dst)]
def hasQ : Nat → Nat := fun i => i
theorem hasF_stay (pa pl dst : Int) (w : World) : AllStay (hasF pa pl dst w) := by
  intro F hF u v w' w'' hb h
  simp only [hasF, List.mem_cons, List.not_mem_nil, or_false] at hF
  rcases hF with rfl | rfl | rfl | rfl | rfl | rfl | rfl
  · exact h
  · exact h
  · exact h
  · exact h
  · exact h
  · exact h
  · exact h
theorem hasB_stay (pa pl dst : Int) (w : World) : Stays (hasB pa pl dst w) := by
  intro w' w'' hb h
  exact ⟨below_call h.1 hb, blk_keep h.2 hb⟩

def hasRB (pa pl dst : Int) (w : World) (w' : World) : Prop :=
  Below w.heap.size w w' ∧ w'.heap[w.heap.size]? = some (.cells #[.int .i64 pa, .int .i64 pl] 54)
def hasRF (pa pl dst : Int) (w : World) : List (Value → Value → World → Prop) :=
  [fun _ v _ => v = .int .i64 dst,
   fun _ v _ => v = .pointer (some ⟨w.heap.size, 1, none⟩),
   fun _ v _ => v = .int .i64 pl,
   fun _ v _ => v = .agg #[.int .i64 (cutN dst pl), .int .i64 (boundI pl)],
   fun _ v _ => v = .agg #[.int .i64 pa, .int .i64 pl],
   fun _ v _ => v = .bool (hasI pa pl dst),
   fun _ v _ => v = .bool (hasI pa pl dst)]
def hasRQ : Nat → Nat := fun i => i
theorem hasRF_stay (pa pl dst : Int) (w : World) : AllStay (hasRF pa pl dst w) := by
  intro F hF u v w' w'' hb h
  simp only [hasRF, List.mem_cons, List.not_mem_nil, or_false] at hF
  rcases hF with rfl | rfl | rfl | rfl | rfl | rfl | rfl
  · exact h
  · exact h
  · exact h
  · exact h
  · exact h
  · exact h
  · exact h
theorem hasRB_stay (pa pl dst : Int) (w : World) : Stays (hasRB pa pl dst w) := by
  intro w' w'' hb h
  exact ⟨below_call h.1 hb, blk_keep h.2 hb⟩

theorem has_any (pa pl dst : Int) (w : World) : Calls Try.prog 65 #[.agg #[.int .i64 pa, .int .i64 pl], .int .i64 dst] w fun e w' => e = .returned (.bool (hasI pa pl dst)) ∧ Below w.heap.size w w' := by
  go_enter Try.func65, Try.ntmps65
  go_wp2_with fail
  refine wp_region_facts (Base := hasB pa pl dst w) (q := hasQ) (Fs := hasF pa pl dst w) (by kernel_rfl) (by kernel_rfl) (by kernel_rfl) (by kernel_rfl) ⟨below_drew (below_alloc (Below.refl _ _) _), by rw [heap_drew, heap_at, if_pos rfl]⟩ ?_ ?_
  · skip
    have hBs := hasB_stay pa pl dst w
    have hFs := hasF_stay pa pl dst w
    refine ⟨?_, ?_, ?_, ?_, ?_, ?_, ?_, trivial⟩
    · refine step_pure hBs hFs rfl fun a' w' hB hag hp => ?_
      have h1 := hag 1 (by kernel_rfl)
      simp at h1
      unfold OpYields
      go_simp
      exact ⟨Below.refl _ _, rfl⟩
    · refine step_pure hBs hFs rfl fun a' w' hB hag hp => ?_
      have h2 := hag 2 (by kernel_rfl)
      simp at h2
      unfold OpYields
      go_simp
      exact ⟨Below.refl _ _, rfl⟩
    · refine step_pure hBs hFs rfl fun a' w' hB hag hp => ?_
      have h6 : a'.tmps.getD 6 undef = _ := hp 1 (by kernel_rfl)
      have hc0 := blk_cell hB.2 0; have hc1 := blk_cell hB.2 1; simp at hc0 hc1
      simp at h6
      unfold OpYields
      go_simp
      exact ⟨Below.refl _ _, rfl⟩
    · refine step_pure hBs hFs rfl fun a' w' hB hag hp => ?_
      have h5 : a'.tmps.getD 5 undef = _ := hp 0 (by kernel_rfl)
      have h7 : a'.tmps.getD 7 undef = _ := hp 2 (by kernel_rfl)
      simp at h5 h7
      unfold OpYields
      go_simp
      refine (cut_any _ _ _).mono ?_
      rintro e w1 ⟨rfl, hb⟩
      exact ⟨_, rfl, hb, rfl⟩
    · refine step_pure hBs hFs rfl fun a' w' hB hag hp => ?_
      have h2 := hag 2 (by kernel_rfl)
      have hc0 := blk_cell hB.2 0; have hc1 := blk_cell hB.2 1; simp at hc0 hc1
      simp at h2
      unfold OpYields
      go_simp
      exact ⟨Below.refl _ _, rfl⟩
    · refine step_pure hBs hFs rfl fun a' w' hB hag hp => ?_
      have h8 : a'.tmps.getD 8 undef = _ := hp 3 (by kernel_rfl)
      have h9 : a'.tmps.getD 9 undef = _ := hp 4 (by kernel_rfl)
      have ueq := Try.underlying3
      have ueqb := Try.underlying4
      simp at h8 h9
      have hq := eqPfx
      unfold OpYields
      go_simp
      exact ⟨Below.refl _ _, rfl⟩
    · refine step_pure hBs hFs rfl fun a' w' hB hag hp => ?_
      have h10 : a'.tmps.getD 10 undef = _ := hp 5 (by kernel_rfl)
      simp at h10
      unfold OpYields
      go_simp
      exact ⟨Below.refl _ _, rfl⟩
  intro vs w' hB hF
  simp only [AllF, forall_const, reduceCtorEq, false_implies, Fof, hasF, hasQ, Nat.zero_add, Nat.reduceAdd, Nat.reduceEqDiff, if_true, if_false, List.getD_cons_succ, List.getD_cons_zero] at hF
  obtain ⟨f0, f1, f2, f3, f4, f5, f6, -⟩ := hF
  simp only [putAll, Act.put, Nat.zero_add, Nat.reduceAdd, f0, f1, f2, f3, f4, f5, f6, List.setIfInBounds_toArray, List.set_cons_zero, List.set_cons_succ]
  have HB := Aside.mk hB.1
  clear hB
  go_wp2
  go_ret
  exact ⟨rfl, HB.out⟩
abbrev rulV (r : Rul) : Value := .agg #[.int .i64 r.addr, .int .i64 r.len, .int .i64 r.inn, .int .i64 r.prio, .int .i64 r.kind, .int .i64 r.port]

theorem fits_any (r : Rul) (inn dst : Int) (w : World) : Calls Try.prog 51 #[rulV r, .int .i64 inn, .int .i64 dst] w fun e w' => e = .returned (.bool (fitsI r inn dst)) ∧ Below w.heap.size w w' := by
  have HB := Aside.mk (below_alloc (Below.refl _ w) (.cells #[.int .i64 r.addr, .int .i64 r.len, .int .i64 r.inn, .int .i64 r.prio, .int .i64 r.kind, .int .i64 r.port] 58))
  have HX := Aside.mk (show (w.alloc (.cells #[.int .i64 r.addr, .int .i64 r.len, .int .i64 r.inn, .int .i64 r.prio, .int .i64 r.kind, .int .i64 r.port] 58)).heap[w.heap.size]? = some (.cells #[.int .i64 r.addr, .int .i64 r.len, .int .i64 r.inn, .int .i64 r.prio, .int .i64 r.kind, .int .i64 r.port] 58) by rw [heap_at, if_pos rfl])
  have HF := Aside.mk (show fitsI r inn dst = (hasI r.addr r.len dst && (r.inn == -1 || r.inn == inn)) from rfl)
  go_enter Try.func51, Try.ntmps51
  go_wp2_with (go_at_call 65; refine (has_any _ _ _ _).mono ?_; rintro e w1 ⟨rfl, hb1⟩; have HB := Aside.mk (below_call HB.out hb1); have HX := Aside.mk (blk_keep HX.out hb1); have c0 := blk_cell HX.out 0; have c1 := blk_cell HX.out 1; have c2 := blk_cell HX.out 2; simp at c0 c1 c2; clear hb1)
  all_goals
    go_ret
    exact ⟨ret_bool (by rw [HF.out]; simp [*]), HB.out⟩
theorem aheadR_any (a b : Rul) (w : World) : Calls Try.prog 72 #[rulV a, rulV b] w fun e w' => e = .returned (.bool (aheadI a b)) ∧ Below w.heap.size w w' := by
  have HF := Aside.mk (show aheadI a b = (if a.len != b.len then decide (b.len < a.len) else if a.prio != b.prio then decide (b.prio < a.prio) else decide (b.inn < a.inn)) from rfl)
  go_enter Try.func72, Try.ntmps72
  go_wp2
  all_goals
    go_ret
    exact ⟨ret_bool (by rw [HF.out]; simp [*]), below_alloc (below_alloc (Below.refl _ _) _) _⟩

/-- Pairs of numbers, the first that differ. -/
def pairF : Flat (Int × Int) where
  enc e := [.int .i64 e.1, .int .i64 e.2]
  sz := 2
  len _ := rfl
  one _ u hu := by simp at hu; rcases hu with rfl | rfl <;> rfl
  pos := by decide
def greaterL : List (Int × Int) → Bool
  | [] => false
  | x :: l => if x.1 != x.2 then decide (x.2 < x.1) else greaterL l
theorem greaterL_drop {l : List (Int × Int)} {k : Nat} (h : k < l.length) : greaterL (l.drop k) = if l[k].1 != l[k].2 then decide (l[k].2 < l[k].1) else greaterL (l.drop (k + 1)) := by
  rw [List.drop_eq_getElem_cons h]; rfl
theorem greater_any (l : List (Int × Int)) (A : Option Addr) (c : Nat) (w : World) (hl : Rd pairF.kd w A l.length l) : Calls Try.prog 66 #[.slice A l.length c] w fun e w' => e = .returned (.bool (greaterL l)) ∧ Below w.heap.size w w' := by
  have hmx := hl.max
  have HL := Aside.mk hl
  clear hl
  go_enter Try.func66, Try.ntmps66
  go_wp2_with fail
  go_loopw [7] (fun i wr => ∃ k : Nat, k ≤ l.length ∧ i = .int .i64 k ∧ greaterL (l.drop k) = greaterL l ∧ Below w.heap.size w wr) (fun i _ => l.length - (intOf i).toNat)
  case atStart => exact ⟨0, Nat.zero_le _, rfl, rfl, Below.refl _ _⟩
  case round =>
    obtain ⟨k, hk, rfl, hs, hb⟩ := hrel
    have HS := Aside.mk hs
    have HB := Aside.mk hb
    clear hs
    by_cases hlt : k < l.length
    · obtain ⟨b, o, cs, rfl, hbl, hcs, hc⟩ := Row.at HL.out k hlt
      obtain rfl : cs = _ := hcs
      have e0 : wr.cell? ⟨b, o + k * 2, none⟩ = some (.int .i64 l[k].1) := (hb.cell hbl).trans (hc 0 _ rfl)
      have e1 : wr.cell? ⟨b, o + k * 2 + 1, none⟩ = some (.int .i64 l[k].2) := (hb.cell hbl).trans (hc 1 _ rfl)
      have hd := Aside.mk (greaterL_drop hlt)
      generalize l[k].1 = x at *
      generalize l[k].2 = y at *
      clear hc hb
      go_wp2
      all_goals first
        | (go_ret
           refine ⟨ret_bool ?_, below_alloc HB.out _⟩
           rw [← HS.out, hd.out]
           simp [*])
        | (go_roundw
           case rel => exact ⟨k + 1, by omega, by go_num, by rw [← HS.out, hd.out]; simp [*], below_alloc HB.out _⟩
           case measure => simp [intOf]; omega)
    · obtain rfl : k = l.length := by omega
      clear hb
      go_wp2
      go_ret
      refine ⟨ret_bool ?_, HB.out⟩
      rw [← HS.out, List.drop_length]
      rfl
theorem ahead_any (a b : Rul) (w : World) : Calls Try.prog 52 #[rulV a, rulV b] w fun e w' => e = .returned (.bool (aheadI a b)) ∧ Below w.heap.size w w' := by
  have HF := Aside.mk (show greaterL [(a.len, b.len), (a.prio, b.prio), (a.inn, b.inn)] = aheadI a b by
    unfold greaterL aheadI greaterL greaterL greaterL
    cases h1 : (a.len != b.len) <;> cases h2 : (a.prio != b.prio) <;> simp [h1, h2]
    intro h; omega)
  have HR : Aside (Rd pairF.kd (((w.alloc (.cells #[.int .i64 a.addr, .int .i64 a.len, .int .i64 a.inn, .int .i64 a.prio, .int .i64 a.kind, .int .i64 a.port] 58)).alloc (.cells #[.int .i64 b.addr, .int .i64 b.len, .int .i64 b.inn, .int .i64 b.prio, .int .i64 b.kind, .int .i64 b.port] 58)).alloc (.cells #[.int .i64 a.len, .int .i64 b.len, .int .i64 a.prio, .int .i64 b.prio, .int .i64 a.inn, .int .i64 b.inn] 86)) (some ⟨w.heap.size + 1 + 1, 0, none⟩) 3 [(a.len, b.len), (a.prio, b.prio), (a.inn, b.inn)]) := .mk (by
    have h := Rd.made pairF ((w.alloc (.cells #[.int .i64 a.addr, .int .i64 a.len, .int .i64 a.inn, .int .i64 a.prio, .int .i64 a.kind, .int .i64 a.port] 58)).alloc (.cells #[.int .i64 b.addr, .int .i64 b.len, .int .i64 b.inn, .int .i64 b.prio, .int .i64 b.kind, .int .i64 b.port] 58)) #[.int .i64 a.len, .int .i64 b.len, .int .i64 a.prio, .int .i64 b.prio, .int .i64 a.inn, .int .i64 b.inn] 86 (0, 0) [(a.len, b.len), (a.prio, b.prio), (a.inn, b.inn)] rfl (by simp)
    have e : ((w.alloc (.cells #[.int .i64 a.addr, .int .i64 a.len, .int .i64 a.inn, .int .i64 a.prio, .int .i64 a.kind, .int .i64 a.port] 58)).alloc (.cells #[.int .i64 b.addr, .int .i64 b.len, .int .i64 b.inn, .int .i64 b.prio, .int .i64 b.kind, .int .i64 b.port] 58)).heap.size = w.heap.size + 1 + 1 := by simp
    rw [e] at h
    exact h)
  go_enter Try.func52, Try.ntmps52
  go_wp2_with (go_at_call 66; refine (greater_any [(a.len, b.len), (a.prio, b.prio), (a.inn, b.inn)] (some ⟨w.heap.size + 1 + 1, 0, none⟩) 3 _ HR.out).mono ?_; rw [HF.out]; rintro e w1 ⟨rfl, hb1⟩; have HB := Aside.mk (below_call (below_alloc (below_alloc (below_alloc (Below.refl _ _) _) _) _) hb1))
  go_ret
  exact ⟨rfl, HB.out⟩
end Go.Proofs.Ytlnnkkbcmidddaa
