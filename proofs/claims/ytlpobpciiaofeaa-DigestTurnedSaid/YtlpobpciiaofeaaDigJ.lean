/- The walk through DigestTurned. -/
import Derived.Test.YtlpobpciiaofeaaDigI
import Derived.Test.YtlpobpciiaofeaaPickN
import Derived.Test.YtlpobpciiaofeaaMayC
namespace Go.Proofs.Ytlpobpciiaofeaa
open Go.RowKit
set_option maxRecDepth 100000
def dtrB (x y : Rul) (t : Bool) (b o c n i k : Nat) (wr : World) (w' : World) : Prop :=
  Below wr.heap.size wr w'
def dtrF (x y : Rul) (t : Bool) (b o c n i k : Nat) (wr : World) : List (Value → Value → World → Prop) :=
  [fun _ v _ => v = .slice (some ⟨b, o, none⟩) n c,
   fun _ v _ => v = .int .i64 i,
   fun _ v _ => v = .pointer (some ⟨b, o + i * 6, none⟩),
   fun _ v _ => v = rulV x,
   fun _ v _ => v = .slice (some ⟨b, o, none⟩) n c,
   fun _ v _ => v = .int .i64 k,
   fun _ v _ => v = .pointer (some ⟨b, o + k * 6, none⟩),
   fun _ v _ => v = rulV y,
   fun _ v _ => v = .bool t]
def dtrQ : Nat → Nat := fun i => i
theorem dtrF_stay (x y : Rul) (t : Bool) (b o c n i k : Nat) (wr : World) : AllStay (dtrF x y t b o c n i k wr) := by
  intro F hF u v w' w'' hb h
  simp only [dtrF, List.mem_cons, List.not_mem_nil, or_false] at hF
  rcases hF with rfl | rfl | rfl | rfl | rfl | rfl | rfl | rfl | rfl
  · exact h
  · exact h
  · exact h
  · exact h
  · exact h
  · exact h
  · exact h
  · exact h
  · exact h
theorem dtrB_stay (x y : Rul) (t : Bool) (b o c n i k : Nat) (wr : World) : Stays (dtrB x y t b o c n i k wr) := by
  intro w' w'' hb h
  exact below_call h hb
def dtcB (A : Option Addr) (c : Nat) (l l1 l2 : List Rul) (bn : Nat) (v63 v67 : Value) (tag N : Int) (m : List Rul) (wr : World) (w' : World) : Prop :=
  Below wr.heap.size wr w'
def dtcF (A : Option Addr) (c : Nat) (l l1 l2 : List Rul) (bn : Nat) (v63 v67 : Value) (tag N : Int) (m : List Rul) (wr : World) : List (Value → Value → World → Prop) :=
  [fun _ v _ => v = .int .i64 tag,
   fun _ v _ => v = .slice A l.length c,
   fun _ v _ => v = .int .i64 N,
   fun _ v _ => v = .int .i64 tag,
   fun _ v _ => v = .slice A l.length c,
   fun _ v _ => v = .int .i64 bn,
   fun _ v _ => v = v63,
   fun _ v w' => Own rulF w' wr.heap.size 33 v l2,
   fun _ v _ => v = .slice A l.length c,
   fun _ v _ => v = .int .i64 bn,
   fun _ v _ => v = v67,
   fun _ v w' => Own rulF w' wr.heap.size 33 v m,
   fun _ v _ => v = .int .i64 N,
   fun _ v _ => v = .bool true,
   fun _ v _ => v = .bool true]
def dtcQ : Nat → Nat := fun i => i
def dtcK : Nat → Option Nat := fun i => if i = 7 then some 11 else none
theorem dtcF_stay (A : Option Addr) (c : Nat) (l l1 l2 : List Rul) (bn : Nat) (v63 v67 : Value) (tag N : Int) (m : List Rul) (wr : World) : AllStay (dtcF A c l l1 l2 bn v63 v67 tag N m wr) := by
  intro F hF u v w' w'' hb h
  simp only [dtcF, List.mem_cons, List.not_mem_nil, or_false] at hF
  rcases hF with rfl | rfl | rfl | rfl | rfl | rfl | rfl | rfl | rfl | rfl | rfl | rfl | rfl | rfl | rfl
  · exact h
  · exact h
  · exact h
  · exact h
  · exact h
  · exact h
  · exact h
  · exact h.below hb
  · exact h
  · exact h
  · exact h
  · exact h.below hb
  · exact h
  · exact h
  · exact h
theorem dtcB_stay (A : Option Addr) (c : Nat) (l l1 l2 : List Rul) (bn : Nat) (v63 v67 : Value) (tag N : Int) (m : List Rul) (wr : World) : Stays (dtcB A c l l1 l2 bn v63 v67 tag N m wr) := by
  intro w' w'' hb h
  exact below_call h hb
theorem turned_perm2 (l : List Rul) (b : Nat) : List.Perm l (l.drop b ++ l.take b) := by
  conv => lhs; rw [← List.take_append_drop b l]
  exact List.perm_append_comm
theorem of_perm {tag : Int} {l m : List Rul} (h : l.Perm m) : ofP tag m = ofP tag l := by
  unfold ofP bytesP
  rw [sortP_of_perm h]
set_option maxHeartbeats 1000000 in
theorem digestTurned_big (tag : Int) (A : Option Addr) (c : Nat) (l : List Rul) (by_ : Int) (w : World) (ht : Fit tag) (hl : Rd rulD w A l.length l) (hF : ∀ r ∈ l, FitR8 r) (hnc : (A = none → c = 0) ∧ l.length ≤ c) (hby : Fit by_) (h60 : ¬ l.length ≤ 60) : Calls Try.prog 12 #[.int .i64 tag, .slice A l.length c, .int .i64 by_] w fun e w' => e = .returned (.bool true) ∧ Below w.heap.size w w' := by
  have hmx := hl.max
  have d60 : decide ((60 : Int) < (l.length : Int)) = true := decide_eq_true (by omega)
  clear hl hF
  go_enter Try.func12, Try.ntmps12
  go_wp2_with (go_at_call 23; refine (awake10_any _).mono ?_; rintro e w1 ⟨rfl, hb1⟩; have KB := Aside.mk hb1; clear hb1)
  go_ret
  exact ⟨rfl, KB.out⟩
set_option maxHeartbeats 1000000 in
theorem digestTurned_off (tag : Int) (A : Option Addr) (c : Nat) (l : List Rul) (by_ : Int) (w : World) (ht : Fit tag) (hl : Rd rulD w A l.length l) (hF : ∀ r ∈ l, FitR8 r) (hnc : (A = none → c = 0) ∧ l.length ≤ c) (hby : Fit by_) (h60 : l.length ≤ 60) (hoff : by_ < 0 ∨ (l.length : Int) < by_) : Calls Try.prog 12 #[.int .i64 tag, .slice A l.length c, .int .i64 by_] w fun e w' => e = .returned (.bool true) ∧ Below w.heap.size w w' := by
  have hmx := hl.max
  have d60 : decide ((60 : Int) < (l.length : Int)) = false := decide_eq_false (by omega)
  clear hl hF
  by_cases h1 : by_ < 0
  · have d61 : decide (by_ < 0) = true := decide_eq_true h1
    go_enter Try.func12, Try.ntmps12
    go_wp2_with (go_at_call 23; refine (awake10_any _).mono ?_; rintro e w1 ⟨rfl, hb1⟩; have KB := Aside.mk hb1; clear hb1)
    go_ret
    exact ⟨rfl, KB.out⟩
  · have d61 : decide (by_ < 0) = false := decide_eq_false h1
    have d62 : decide ((l.length : Int) < by_) = true := decide_eq_true (by omega)
    go_enter Try.func12, Try.ntmps12
    go_wp2_with (go_at_call 23; refine (awake10_any _).mono ?_; rintro e w1 ⟨rfl, hb1⟩; have KB := Aside.mk hb1; clear hb1)
    go_ret
    exact ⟨rfl, KB.out⟩
set_option maxHeartbeats 8000000 in
theorem digestTurned_main (tag : Int) (A : Option Addr) (c : Nat) (l : List Rul) (by_ : Int) (w : World) (ht : Fit tag) (hl : Rd rulD w A l.length l) (hF : ∀ r ∈ l, FitR8 r) (hnc : (A = none → c = 0) ∧ l.length ≤ c) (hby : Fit by_) (h60 : l.length ≤ 60) (bn : Nat) (hbn : by_ = bn) (hbl : bn ≤ l.length) : Calls Try.prog 12 #[.int .i64 tag, .slice A l.length c, .int .i64 by_] w fun e w' => e = .returned (.bool true) ∧ Below w.heap.size w w' := by
  have hmx := hl.max
  subst hbn
  have d60 : decide ((60 : Int) < (l.length : Int)) = false := decide_eq_false (by omega)
  have d61 : decide ((bn : Int) < 0) = false := decide_eq_false (by omega)
  have d62 : decide ((l.length : Int) < (bn : Int)) = false := decide_eq_false (by omega)
  have d63 : decide (l.length < bn) = false := decide_eq_false (by omega)
  have d64 : ¬ l.length < bn := by omega
  have HL := Aside.mk hl
  have HNC := Aside.mk hnc
  have HBN := Aside.mk hbl
  have HT := Aside.mk ht
  have HL6 := Aside.mk h60
  obtain ⟨N, hN⟩ : ∃ N, ofP tag l = N := ⟨_, rfl⟩
  have HNE := Aside.mk hN
  clear hl hF hnc hbl hby ht hN
  go_enter Try.func12, Try.ntmps12
  go_wp2_with (go_at_call 23; refine (awake10_any _).mono ?_; rintro e w1 ⟨rfl, hb1⟩; have KB := Aside.mk hb1; clear hb1)
  go_loopw [8, 9] (fun i _ wr => ∃ k : Nat, k ≤ l.length ∧ i = .int .i64 k ∧ (∀ p q (hp : p < l.length) (hq : q < p), p < k → alikeI l[p] (l[q]'(by omega)) = false) ∧ Below w.heap.size w wr) (fun i _ _ => l.length - (intOf i).toNat)
  case atStart => exact ⟨0, Nat.zero_le _, rfl, fun p q _ _ h => absurd h (by omega), KB.out⟩
  case round =>
    clear KB
    obtain ⟨k, hk, rfl, hno, hb⟩ := hrel
    have KB := Aside.mk hb
    have HNO := Aside.mk hno
    by_cases hlt : k < l.length
    · obtain ⟨b, o, _, rfl, -⟩ := Row.at HL.out k hlt
      have HCX := Aside.mk (fun W (hb : Below w.heap.size w W) => rul_cells (c := c) HL.out hb hlt)
      obtain ⟨x, hx⟩ : ∃ x, l[k]'hlt = x := ⟨_, rfl⟩
      have HXX := Aside.mk hx
      rw [hx] at HCX
      clear hb hno hx
      go_wp2
      go_loopw [9] (fun j wr => ∃ q : Nat, q ≤ k ∧ j = .int .i64 q ∧ (∀ q' (hq : q' < l.length), q' < q → alikeI x l[q'] = false) ∧ Below w.heap.size w wr) (fun j _ => k - (intOf j).toNat)
      case atStart => exact ⟨0, Nat.zero_le _, rfl, fun q _ h => absurd h (by omega), KB.out⟩
      case round =>
        clear KB
        obtain ⟨q, hq1, rfl, hno2, hb⟩ := hrel
        have KB := Aside.mk hb
        have HNO2 := Aside.mk hno2
        by_cases hlt2 : q < k
        · have hql : q < l.length := by omega
          obtain ⟨hbl0, p0, p1, p2, p3, p4, p5⟩ := HCX.out _ hb
          obtain ⟨-, q0, q1, q2, q3, q4, q5⟩ := rul_cells (c := c) HL.out hb hql
          have hbl := Nat.lt_of_lt_of_le hbl0 hb.size
          obtain ⟨y, hy⟩ : ∃ y, l[q]'hql = y := ⟨_, rfl⟩
          have HYY := Aside.mk hy
          rw [hy] at q0 q1 q2 q3 q4 q5
          have X0 := Aside.mk p0
          have X1 := Aside.mk p1
          have X2 := Aside.mk p2
          have X3 := Aside.mk p3
          have X4 := Aside.mk p4
          have X5 := Aside.mk p5
          have Y0 := Aside.mk q0
          have Y1 := Aside.mk q1
          have Y2 := Aside.mk q2
          have Y3 := Aside.mk q3
          have Y4 := Aside.mk q4
          have Y5 := Aside.mk q5
          have HQL := Aside.mk hql
          have e1 : (k : Int) < (l.length : Int) := by omega
          have e2 : (q : Int) < (l.length : Int) := by omega
          clear hb hno2 p0 p1 p2 p3 p4 p5 q0 q1 q2 q3 q4 q5 hy hbl0
          cases hal : alikeI x y
          · have HAL := Aside.mk hal
            clear hal
            go_wp2
            refine wp_region_facts (Base := dtrB x y false b o c l.length k q wr) (q := dtrQ) (Fs := dtrF x y false b o c l.length k q wr) (by kernel_rfl) (by kernel_rfl) (by kernel_rfl) (by kernel_rfl) (below_drew (Below.refl _ _)) ?_ ?_
            ·
              have hBs := dtrB_stay x y false b o c l.length k q wr
              have hFs := dtrF_stay x y false b o c l.length k q wr
              refine ⟨?_, ?_, ?_, ?_, ?_, ?_, ?_, ?_, ?_, trivial⟩
              · refine step_pure hBs hFs rfl fun a' w' hB hag hp => ?_
                have h1 := hag 1 (by kernel_rfl)
                simp at h1
                unfold OpYields
                go_simp
                exact ⟨Below.refl _ _, rfl⟩
              · refine step_pure hBs hFs rfl fun a' w' hB hag hp => ?_
                have h8 := hag 8 (by kernel_rfl)
                simp at h8
                unfold OpYields
                go_simp
                exact ⟨Below.refl _ _, rfl⟩
              · refine step_pure hBs hFs rfl fun a' w' hB hag hp => ?_
                have h40 : a'.tmps.getD 40 undef = _ := hp 0 (by kernel_rfl)
                have h41 : a'.tmps.getD 41 undef = _ := hp 1 (by kernel_rfl)
                simp at h40 h41
                unfold OpYields
                go_simp
                exact ⟨Below.refl _ _, rfl⟩
              · refine step_pure hBs hFs rfl fun a' w' hB hag hp => ?_
                have h42 : a'.tmps.getD 42 undef = _ := hp 2 (by kernel_rfl)
                have hB : Below wr.heap.size wr w' := hB; have x0 := (hB.cell (p := ⟨b, o + k * 6, none⟩) hbl).trans X0.out; have y0 := (hB.cell (p := ⟨b, o + q * 6, none⟩) hbl).trans Y0.out; have x1 := (hB.cell (p := ⟨b, o + k * 6 + 1, none⟩) hbl).trans X1.out; have y1 := (hB.cell (p := ⟨b, o + q * 6 + 1, none⟩) hbl).trans Y1.out; have x2 := (hB.cell (p := ⟨b, o + k * 6 + 2, none⟩) hbl).trans X2.out; have y2 := (hB.cell (p := ⟨b, o + q * 6 + 2, none⟩) hbl).trans Y2.out; have x3 := (hB.cell (p := ⟨b, o + k * 6 + 3, none⟩) hbl).trans X3.out; have y3 := (hB.cell (p := ⟨b, o + q * 6 + 3, none⟩) hbl).trans Y3.out; have x4 := (hB.cell (p := ⟨b, o + k * 6 + 4, none⟩) hbl).trans X4.out; have y4 := (hB.cell (p := ⟨b, o + q * 6 + 4, none⟩) hbl).trans Y4.out; have x5 := (hB.cell (p := ⟨b, o + k * 6 + 5, none⟩) hbl).trans X5.out; have y5 := (hB.cell (p := ⟨b, o + q * 6 + 5, none⟩) hbl).trans Y5.out
                simp at h42
                unfold OpYields
                go_simp
                exact ⟨Below.refl _ _, rfl⟩
              · refine step_pure hBs hFs rfl fun a' w' hB hag hp => ?_
                have h1 := hag 1 (by kernel_rfl)
                simp at h1
                unfold OpYields
                go_simp
                exact ⟨Below.refl _ _, rfl⟩
              · refine step_pure hBs hFs rfl fun a' w' hB hag hp => ?_
                have h9 := hag 9 (by kernel_rfl)
                simp at h9
                unfold OpYields
                go_simp
                exact ⟨Below.refl _ _, rfl⟩
              · refine step_pure hBs hFs rfl fun a' w' hB hag hp => ?_
                have h44 : a'.tmps.getD 44 undef = _ := hp 4 (by kernel_rfl)
                have h45 : a'.tmps.getD 45 undef = _ := hp 5 (by kernel_rfl)
                simp at h44 h45
                unfold OpYields
                go_simp
                exact ⟨Below.refl _ _, rfl⟩
              · refine step_pure hBs hFs rfl fun a' w' hB hag hp => ?_
                have h46 : a'.tmps.getD 46 undef = _ := hp 6 (by kernel_rfl)
                have hB : Below wr.heap.size wr w' := hB; have x0 := (hB.cell (p := ⟨b, o + k * 6, none⟩) hbl).trans X0.out; have y0 := (hB.cell (p := ⟨b, o + q * 6, none⟩) hbl).trans Y0.out; have x1 := (hB.cell (p := ⟨b, o + k * 6 + 1, none⟩) hbl).trans X1.out; have y1 := (hB.cell (p := ⟨b, o + q * 6 + 1, none⟩) hbl).trans Y1.out; have x2 := (hB.cell (p := ⟨b, o + k * 6 + 2, none⟩) hbl).trans X2.out; have y2 := (hB.cell (p := ⟨b, o + q * 6 + 2, none⟩) hbl).trans Y2.out; have x3 := (hB.cell (p := ⟨b, o + k * 6 + 3, none⟩) hbl).trans X3.out; have y3 := (hB.cell (p := ⟨b, o + q * 6 + 3, none⟩) hbl).trans Y3.out; have x4 := (hB.cell (p := ⟨b, o + k * 6 + 4, none⟩) hbl).trans X4.out; have y4 := (hB.cell (p := ⟨b, o + q * 6 + 4, none⟩) hbl).trans Y4.out; have x5 := (hB.cell (p := ⟨b, o + k * 6 + 5, none⟩) hbl).trans X5.out; have y5 := (hB.cell (p := ⟨b, o + q * 6 + 5, none⟩) hbl).trans Y5.out
                simp at h46
                unfold OpYields
                go_simp
                exact ⟨Below.refl _ _, rfl⟩
              · refine step_pure hBs hFs rfl fun a' w' hB hag hp => ?_
                have h43 : a'.tmps.getD 43 undef = _ := hp 3 (by kernel_rfl)
                have h47 : a'.tmps.getD 47 undef = _ := hp 7 (by kernel_rfl)
                simp at h43 h47
                unfold OpYields
                go_simp
                refine (alike_any x y w').mono ?_
                rw [HAL.out]
                rintro e w1 ⟨rfl, hb⟩
                exact ⟨_, rfl, hb, rfl⟩
            intro vs w' hB hF
            simp only [AllF, forall_const, reduceCtorEq, false_implies, Fof, dtrF, dtrQ, Nat.zero_add, Nat.reduceAdd, Nat.reduceEqDiff, if_true, if_false, List.getD_cons_succ, List.getD_cons_zero] at hF
            obtain ⟨f0, f1, f2, f3, f4, f5, f6, f7, f8, -⟩ := hF
            simp only [putAll, Act.put, Nat.zero_add, Nat.reduceAdd, f0, f1, f2, f3, f4, f5, f6, f7, f8, List.setIfInBounds_toArray, List.set_cons_zero, List.set_cons_succ]
            have KB := Aside.mk (below_call KB.out hB)
            clear hB
            go_wp2
            exact ⟨⟨q + 1, by omega, by go_num, fun q' hq' h => by
              rcases Nat.lt_or_ge q' q with h1 | h1
              · exact HNO2.out q' hq' h1
              · obtain rfl : q' = q := by omega
                rw [HYY.out]; exact HAL.out, KB.out⟩, by simp [intOf]; omega⟩
          · have HAL := Aside.mk hal
            clear hal
            go_wp2
            refine wp_region_facts (Base := dtrB x y true b o c l.length k q wr) (q := dtrQ) (Fs := dtrF x y true b o c l.length k q wr) (by kernel_rfl) (by kernel_rfl) (by kernel_rfl) (by kernel_rfl) (below_drew (Below.refl _ _)) ?_ ?_
            ·
              have hBs := dtrB_stay x y true b o c l.length k q wr
              have hFs := dtrF_stay x y true b o c l.length k q wr
              refine ⟨?_, ?_, ?_, ?_, ?_, ?_, ?_, ?_, ?_, trivial⟩
              · refine step_pure hBs hFs rfl fun a' w' hB hag hp => ?_
                have h1 := hag 1 (by kernel_rfl)
                simp at h1
                unfold OpYields
                go_simp
                exact ⟨Below.refl _ _, rfl⟩
              · refine step_pure hBs hFs rfl fun a' w' hB hag hp => ?_
                have h8 := hag 8 (by kernel_rfl)
                simp at h8
                unfold OpYields
                go_simp
                exact ⟨Below.refl _ _, rfl⟩
              · refine step_pure hBs hFs rfl fun a' w' hB hag hp => ?_
                have h40 : a'.tmps.getD 40 undef = _ := hp 0 (by kernel_rfl)
                have h41 : a'.tmps.getD 41 undef = _ := hp 1 (by kernel_rfl)
                simp at h40 h41
                unfold OpYields
                go_simp
                exact ⟨Below.refl _ _, rfl⟩
              · refine step_pure hBs hFs rfl fun a' w' hB hag hp => ?_
                have h42 : a'.tmps.getD 42 undef = _ := hp 2 (by kernel_rfl)
                have hB : Below wr.heap.size wr w' := hB; have x0 := (hB.cell (p := ⟨b, o + k * 6, none⟩) hbl).trans X0.out; have y0 := (hB.cell (p := ⟨b, o + q * 6, none⟩) hbl).trans Y0.out; have x1 := (hB.cell (p := ⟨b, o + k * 6 + 1, none⟩) hbl).trans X1.out; have y1 := (hB.cell (p := ⟨b, o + q * 6 + 1, none⟩) hbl).trans Y1.out; have x2 := (hB.cell (p := ⟨b, o + k * 6 + 2, none⟩) hbl).trans X2.out; have y2 := (hB.cell (p := ⟨b, o + q * 6 + 2, none⟩) hbl).trans Y2.out; have x3 := (hB.cell (p := ⟨b, o + k * 6 + 3, none⟩) hbl).trans X3.out; have y3 := (hB.cell (p := ⟨b, o + q * 6 + 3, none⟩) hbl).trans Y3.out; have x4 := (hB.cell (p := ⟨b, o + k * 6 + 4, none⟩) hbl).trans X4.out; have y4 := (hB.cell (p := ⟨b, o + q * 6 + 4, none⟩) hbl).trans Y4.out; have x5 := (hB.cell (p := ⟨b, o + k * 6 + 5, none⟩) hbl).trans X5.out; have y5 := (hB.cell (p := ⟨b, o + q * 6 + 5, none⟩) hbl).trans Y5.out
                simp at h42
                unfold OpYields
                go_simp
                exact ⟨Below.refl _ _, rfl⟩
              · refine step_pure hBs hFs rfl fun a' w' hB hag hp => ?_
                have h1 := hag 1 (by kernel_rfl)
                simp at h1
                unfold OpYields
                go_simp
                exact ⟨Below.refl _ _, rfl⟩
              · refine step_pure hBs hFs rfl fun a' w' hB hag hp => ?_
                have h9 := hag 9 (by kernel_rfl)
                simp at h9
                unfold OpYields
                go_simp
                exact ⟨Below.refl _ _, rfl⟩
              · refine step_pure hBs hFs rfl fun a' w' hB hag hp => ?_
                have h44 : a'.tmps.getD 44 undef = _ := hp 4 (by kernel_rfl)
                have h45 : a'.tmps.getD 45 undef = _ := hp 5 (by kernel_rfl)
                simp at h44 h45
                unfold OpYields
                go_simp
                exact ⟨Below.refl _ _, rfl⟩
              · refine step_pure hBs hFs rfl fun a' w' hB hag hp => ?_
                have h46 : a'.tmps.getD 46 undef = _ := hp 6 (by kernel_rfl)
                have hB : Below wr.heap.size wr w' := hB; have x0 := (hB.cell (p := ⟨b, o + k * 6, none⟩) hbl).trans X0.out; have y0 := (hB.cell (p := ⟨b, o + q * 6, none⟩) hbl).trans Y0.out; have x1 := (hB.cell (p := ⟨b, o + k * 6 + 1, none⟩) hbl).trans X1.out; have y1 := (hB.cell (p := ⟨b, o + q * 6 + 1, none⟩) hbl).trans Y1.out; have x2 := (hB.cell (p := ⟨b, o + k * 6 + 2, none⟩) hbl).trans X2.out; have y2 := (hB.cell (p := ⟨b, o + q * 6 + 2, none⟩) hbl).trans Y2.out; have x3 := (hB.cell (p := ⟨b, o + k * 6 + 3, none⟩) hbl).trans X3.out; have y3 := (hB.cell (p := ⟨b, o + q * 6 + 3, none⟩) hbl).trans Y3.out; have x4 := (hB.cell (p := ⟨b, o + k * 6 + 4, none⟩) hbl).trans X4.out; have y4 := (hB.cell (p := ⟨b, o + q * 6 + 4, none⟩) hbl).trans Y4.out; have x5 := (hB.cell (p := ⟨b, o + k * 6 + 5, none⟩) hbl).trans X5.out; have y5 := (hB.cell (p := ⟨b, o + q * 6 + 5, none⟩) hbl).trans Y5.out
                simp at h46
                unfold OpYields
                go_simp
                exact ⟨Below.refl _ _, rfl⟩
              · refine step_pure hBs hFs rfl fun a' w' hB hag hp => ?_
                have h43 : a'.tmps.getD 43 undef = _ := hp 3 (by kernel_rfl)
                have h47 : a'.tmps.getD 47 undef = _ := hp 7 (by kernel_rfl)
                simp at h43 h47
                unfold OpYields
                go_simp
                refine (alike_any x y w').mono ?_
                rw [HAL.out]
                rintro e w1 ⟨rfl, hb⟩
                exact ⟨_, rfl, hb, rfl⟩
            intro vs w' hB hF
            simp only [AllF, forall_const, reduceCtorEq, false_implies, Fof, dtrF, dtrQ, Nat.zero_add, Nat.reduceAdd, Nat.reduceEqDiff, if_true, if_false, List.getD_cons_succ, List.getD_cons_zero] at hF
            obtain ⟨f0, f1, f2, f3, f4, f5, f6, f7, f8, -⟩ := hF
            simp only [putAll, Act.put, Nat.zero_add, Nat.reduceAdd, f0, f1, f2, f3, f4, f5, f6, f7, f8, List.setIfInBounds_toArray, List.set_cons_zero, List.set_cons_succ]
            have KB := Aside.mk (below_call KB.out hB)
            clear hB
            go_wp2
            go_ret
            exact ⟨rfl, KB.out⟩
        · obtain rfl : q = k := by omega
          obtain ⟨-, p0, p1, p2, p3, p4, p5⟩ := HCX.out _ hb
          have HNX := Aside.mk (show ∀ p q' (hp : p < l.length) (hq : q' < p), p < q + 1 → alikeI l[p] (l[q']'(by omega)) = false from fun p q' hp hq' h => by
            rcases Nat.lt_or_ge p q with h1 | h1
            · exact HNO.out p q' hp hq' h1
            · obtain rfl : p = q := by omega
              rw [HXX.out]; exact HNO2.out q' (by omega) hq')
          clear hb hno2
          cases hm : mayI x
          · have HM := Aside.mk hm
            clear hm
            go_wp2_with (go_at_call 22; refine (may_any8 x _).mono ?_; rw [HM.out]; rintro e w2 ⟨rfl, hb2⟩; have KB := Aside.mk (below_call KB.out hb2); clear hb2)
            go_ret
            exact ⟨rfl, KB.out⟩
          · have HM := Aside.mk hm
            clear hm
            go_wp2_with (go_at_call 22; refine (may_any8 x _).mono ?_; rw [HM.out]; rintro e w2 ⟨rfl, hb2⟩; have KB := Aside.mk (below_call KB.out hb2); clear hb2)
            exact ⟨⟨q + 1, by omega, by go_num, HNX.out, KB.out⟩, by simp [intOf]; omega⟩
    · obtain rfl : k = l.length := by omega
      have HNA := Aside.mk (show ∀ p q (hp : p < l.length) (hq : q < p), alikeI l[p] (l[q]'(by omega)) = false from fun p q hp hq => hno p q hp hq hp)
      have HLr := Aside.mk (HL.out.below hb)
      clear hno hb HNO
      have hlc := HNC.out.2
      have hbl := HBN.out
      have HLN := Aside.mk (show (l.drop bn).length + (l.take bn).length ≤ 60 ∧ (l.drop bn).length ≤ 60 by rw [List.length_drop, List.length_take]; omega)
      rcases Nat.eq_zero_or_pos l.length with h0 | h0
      · have hb0 : bn = 0 := by omega
        subst hb0
        have hl0 := List.eq_nil_of_length_eq_zero h0
        obtain ⟨l1, hl1⟩ : ∃ l1 : List Rul, l1 = [] := ⟨_, rfl⟩
        obtain ⟨l2, hl2⟩ : ∃ l2 : List Rul, l2 = [] := ⟨_, rfl⟩
        have HE := Aside.mk (And.intro hl0 (And.intro hl1 hl2))
        have HLN : Aside (l2.length + l1.length ≤ 60 ∧ l2.length ≤ 60) := .mk (by rw [hl1, hl2]; exact ⟨by simp, by simp⟩)
        clear h0 hl0 hl1 hl2
        rcases A with _ | ⟨b, o, e⟩
        · have hc0 : c = 0 := HNC.out.1 rfl
          subst hc0
          have E2 : Aside (Value.slice none 0 0 = .slice none l2.length 0) := .mk (by rw [HE.out.2.2]; rfl)
          have E1 : Aside (Value.slice none 0 0 = .slice none l1.length 0) := .mk (by rw [HE.out.2.1]; rfl)
          have HN2 : Aside ((none : Option Addr) = none → 0 = 0) := .mk HNC.out.1
          have HN1 : Aside ((none : Option Addr) = none → 0 = 0) := .mk HNC.out.1
          have RD2 := Aside.mk (show Rd rulD wr none l2.length l2 by rw [HE.out.2.2]; exact Rd.nil _ _ _)
          have RD1 := Aside.mk (show Rd rulD wr none l1.length l1 by rw [HE.out.2.1]; exact Rd.nil _ _ _)
          have hpm : l.Perm (l2 ++ l1) := by rw [HE.out.1, HE.out.2.1, HE.out.2.2]; exact .nil
          obtain ⟨m, hmm⟩ : ∃ m, l2 ++ l1 = m := ⟨_, rfl⟩
          have HMM := Aside.mk hmm
          have HNM := Aside.mk (show ofP tag m = N by rw [← hmm, of_perm hpm, HNE.out])
          have HMF := Aside.mk (show m.length ≤ 60 by rw [← hmm, ← hpm.length_eq]; exact h60)
          clear hpm hmm
          go_wp2
          refine wp_region_facts_kl (Base := dtcB none 0 l l1 l2 0 (.slice none 0 0) (.slice none 0 0) tag N m wr) dtcQ dtcK (Fs := dtcF none 0 l l1 l2 0 (.slice none 0 0) (.slice none 0 0) tag N m wr) (by kernel_rfl) (by kernel_rfl) (by kernel_rfl) (by kernel_rfl) (below_drew (Below.refl _ _)) ?_ ?_
          ·
            have hBs := dtcB_stay none 0 l l1 l2 0 (.slice none 0 0) (.slice none 0 0) tag N m wr
            have hFs := dtcF_stay none 0 l l1 l2 0 (.slice none 0 0) (.slice none 0 0) tag N m wr
            refine ⟨?_, ?_, ?_, ?_, ?_, ?_, ?_, ?_, ?_, ?_, ?_, ?_, ?_, ?_, ?_, trivial⟩
            · refine step_pure hBs hFs rfl fun a' w' hB hag hp => ?_
              have h0 := hag 0 (by kernel_rfl)
              simp at h0
              unfold OpYields
              go_simp
              exact ⟨Below.refl _ _, rfl⟩
            · refine step_pure hBs hFs rfl fun a' w' hB hag hp => ?_
              have h1 := hag 1 (by kernel_rfl)
              simp at h1
              unfold OpYields
              go_simp
              exact ⟨Below.refl _ _, rfl⟩
            · refine step_pure hBs hFs rfl fun a' w' hB hag hp => ?_
              have h55 : a'.tmps.getD 55 undef = _ := hp 0 (by kernel_rfl)
              have h56 : a'.tmps.getD 56 undef = _ := hp 1 (by kernel_rfl)
              have hB0 : Below wr.heap.size wr w' := hB
              simp at h55 h56
              unfold OpYields
              go_simp
              refine (of_any tag l _ _ w' (HLr.out.below hB0) (by first | exact HNC.out.1 | exact fun _ => rfl) HL6.out HT.out).mono ?_
              rw [HNE.out]
              rintro e w1 ⟨rfl, hb⟩
              exact ⟨_, rfl, hb, rfl⟩
            · refine step_pure hBs hFs rfl fun a' w' hB hag hp => ?_
              have h0 := hag 0 (by kernel_rfl)
              simp at h0
              unfold OpYields
              go_simp
              exact ⟨Below.refl _ _, rfl⟩
            · refine step_pure hBs hFs rfl fun a' w' hB hag hp => ?_
              have h1 := hag 1 (by kernel_rfl)
              simp at h1
              unfold OpYields
              go_simp
              exact ⟨Below.refl _ _, rfl⟩
            · refine step_pure hBs hFs rfl fun a' w' hB hag hp => ?_
              have h2 := hag 2 (by kernel_rfl)
              simp at h2
              unfold OpYields
              go_simp
              exact ⟨Below.refl _ _, rfl⟩
            · refine step_pure hBs hFs rfl fun a' w' hB hag hp => ?_
              have h59 : a'.tmps.getD 59 undef = _ := hp 4 (by kernel_rfl)
              have h60 : a'.tmps.getD 60 undef = _ := hp 5 (by kernel_rfl)
              simp at h59 h60
              unfold OpYields
              go_simp
              exact ⟨Below.refl _ _, rfl⟩
            · refine step_pure hBs hFs rfl fun a' w' hB hag hp => ?_
              have h61 : a'.tmps.getD 61 undef = _ := hp 6 (by kernel_rfl)
              have hB0 : Below wr.heap.size wr w' := hB
              refine (yields_appRow (f := rulF) wr.heap.size (.const (.slice none 0 0)) (.tmp 61) _ _ _ _ rfl Try.underlying22 infoRul rfl (by decide) (.slice none 0 0) [] l2 none 0 rfl (by show a'.tmps.getD 61 undef = _; rw [h61, E2.out]) (fun _ => rfl) (Own.nil _ _ _ _) (RD2.out.below hB0) hB0.size (by have := HLN.out; (try simp); (try omega))).mono ?_
              rintro v w1 ⟨ho, hg, _⟩
              exact ⟨below_of_grown hg, ho⟩
            · refine step_pure hBs hFs rfl fun a' w' hB hag hp => ?_
              have h1 := hag 1 (by kernel_rfl)
              simp at h1
              unfold OpYields
              go_simp
              exact ⟨Below.refl _ _, rfl⟩
            · refine step_pure hBs hFs rfl fun a' w' hB hag hp => ?_
              have h2 := hag 2 (by kernel_rfl)
              simp at h2
              unfold OpYields
              go_simp
              exact ⟨Below.refl _ _, rfl⟩
            · refine step_pure hBs hFs rfl fun a' w' hB hag hp => ?_
              have h63 : a'.tmps.getD 63 undef = _ := hp 8 (by kernel_rfl)
              have h64 : a'.tmps.getD 64 undef = _ := hp 9 (by kernel_rfl)
              simp at h63 h64
              unfold OpYields
              go_simp
              exact ⟨Below.refl _ _, rfl⟩
            · intro a' w' hB hag hp
              rw [if_pos (by simp [Region.wanted])]
              have hB0 : Below wr.heap.size wr w' := hB
              have h62 : Own rulF w' wr.heap.size 33 (a'.tmps.getD 62 undef) l2 := hp 7 (by kernel_rfl)
              have h65 : a'.tmps.getD 65 undef = _ := hp 10 (by kernel_rfl)
              refine (yields_appRow (f := rulF) wr.heap.size (.tmp 62) (.tmp 65) _ _ _ _ rfl Try.underlying22 infoRul rfl (by decide) (a'.tmps.getD 62 undef) l2 l1 none 0 rfl (by show a'.tmps.getD 65 undef = _; rw [h65, E1.out]) (fun _ => rfl) h62 (RD1.out.below hB0) hB0.size (by have := HLN.out; omega)).mono ?_
              rintro v w1 ⟨ho, hg, _⟩
              refine ⟨below_own hB0 hg (fun k hk => ⟨(h62.lt k hk).1, (h62.lt k hk).2⟩), HMM.out ▸ ho, ?_⟩
              intro j vs hj hjk hF
              unfold Fof at *
              match j, hj, hjk with
              | 0, _, _ => exact hF
              | 1, _, _ => exact hF
              | 2, _, _ => exact hF
              | 3, _, _ => exact hF
              | 4, _, _ => exact hF
              | 5, _, _ => exact hF
              | 6, _, _ => exact hF
              | 7, _, h => exact absurd rfl h
              | 8, _, _ => exact hF
              | 9, _, _ => exact hF
              | 10, _, _ => exact hF
              | 12, _, _ => exact hF
              | 13, _, _ => exact hF
              | 14, _, _ => exact hF
              | j + 15, _, _ => trivial
            · refine step_pure hBs hFs rfl fun a' w' hB hag hp => ?_
              have h58 : a'.tmps.getD 58 undef = _ := hp 3 (by kernel_rfl)
              have h66 := hp 11 (by kernel_rfl)
              replace h66 : _ := h66
              have h66' : Own rulF w' wr.heap.size 33 (a'.tmps.getD 66 undef) m := h66
              obtain ⟨A9, c9, hv, -, hr⟩ := h66'.rd
              have hn9 : A9 = none → c9 = 0 := by rw [hv] at h66'; exact h66'.nilc3
              clear h66 h66'
              simp at hv h58
              unfold OpYields
              go_simp
              refine (of_any tag m A9 c9 w' hr hn9 HMF.out HT.out).mono ?_
              rw [HNM.out]
              rintro e w1 ⟨rfl, hb⟩
              exact ⟨_, rfl, hb, rfl⟩
            · refine step_pure hBs hFs rfl fun a' w' hB hag hp => ?_
              have h57 : a'.tmps.getD 57 undef = _ := hp 2 (by kernel_rfl)
              have h67 : a'.tmps.getD 67 undef = _ := hp 12 (by kernel_rfl)
              have ueq := Try.underlying3
              have ueqb := Try.underlying4
              simp at h57 h67
              unfold OpYields
              go_simp
              exact ⟨Below.refl _ _, rfl⟩
            · refine step_pure hBs hFs rfl fun a' w' hB hag hp => ?_
              have h68 : a'.tmps.getD 68 undef = _ := hp 13 (by kernel_rfl)
              simp at h68
              unfold OpYields
              go_simp
              exact ⟨Below.refl _ _, rfl⟩
          intro vs w' hB hF
          simp only [AllF, forall_const, reduceCtorEq, false_implies, Fof, dtcF, dtcQ, dtcK, Nat.zero_add, Nat.reduceAdd, Nat.reduceEqDiff, if_true, if_false, List.getD_cons_succ, List.getD_cons_zero] at hF
          obtain ⟨f0, f1, f2, f3, f4, f5, f6, -, f8, f9, f10, -, f12, f13, f14, -⟩ := hF
          simp only [putAll, Act.put, Nat.zero_add, Nat.reduceAdd, f0, f1, f2, f3, f4, f5, f6, f8, f9, f10, f12, f13, f14, List.setIfInBounds_toArray, List.set_cons_zero, List.set_cons_succ]
          have KB := Aside.mk (below_call KB.out hB)
          clear hB
          go_wp2
          go_ret
          exact ⟨rfl, KB.out⟩
        ·
          have E2 : Aside (Value.slice (some ⟨b, o, e⟩) l.length c = .slice (some ⟨b, o, e⟩) l2.length c) := .mk (by rw [HE.out.1, HE.out.2.2])
          have E1 : Aside (Value.slice (some ⟨b, o, e⟩) 0 c = .slice (some ⟨b, o, e⟩) l1.length c) := .mk (by rw [HE.out.2.1]; rfl)
          have HN2 : Aside (((some ⟨b, o, e⟩) : Option Addr) = none → c = 0) := .mk HNC.out.1
          have HN1 : Aside (((some ⟨b, o, e⟩) : Option Addr) = none → c = 0) := .mk HNC.out.1
          have RD2 := Aside.mk (show Rd rulD wr (some ⟨b, o, e⟩) l2.length l2 by rw [HE.out.2.2]; exact Rd.nil _ _ _)
          have RD1 := Aside.mk (show Rd rulD wr (some ⟨b, o, e⟩) l1.length l1 by rw [HE.out.2.1]; exact Rd.nil _ _ _)
          have hpm : l.Perm (l2 ++ l1) := by rw [HE.out.1, HE.out.2.1, HE.out.2.2]; exact .nil
          obtain ⟨m, hmm⟩ : ∃ m, l2 ++ l1 = m := ⟨_, rfl⟩
          have HMM := Aside.mk hmm
          have HNM := Aside.mk (show ofP tag m = N by rw [← hmm, of_perm hpm, HNE.out])
          have HMF := Aside.mk (show m.length ≤ 60 by rw [← hmm, ← hpm.length_eq]; exact h60)
          clear hpm hmm
          go_wp2
          refine wp_region_facts_kl (Base := dtcB (some ⟨b, o, e⟩) c l l1 l2 0 (.slice (some ⟨b, o, e⟩) l.length c) (.slice (some ⟨b, o, e⟩) 0 c) tag N m wr) dtcQ dtcK (Fs := dtcF (some ⟨b, o, e⟩) c l l1 l2 0 (.slice (some ⟨b, o, e⟩) l.length c) (.slice (some ⟨b, o, e⟩) 0 c) tag N m wr) (by kernel_rfl) (by kernel_rfl) (by kernel_rfl) (by kernel_rfl) (below_drew (Below.refl _ _)) ?_ ?_
          ·
            have hBs := dtcB_stay (some ⟨b, o, e⟩) c l l1 l2 0 (.slice (some ⟨b, o, e⟩) l.length c) (.slice (some ⟨b, o, e⟩) 0 c) tag N m wr
            have hFs := dtcF_stay (some ⟨b, o, e⟩) c l l1 l2 0 (.slice (some ⟨b, o, e⟩) l.length c) (.slice (some ⟨b, o, e⟩) 0 c) tag N m wr
            refine ⟨?_, ?_, ?_, ?_, ?_, ?_, ?_, ?_, ?_, ?_, ?_, ?_, ?_, ?_, ?_, trivial⟩
            · refine step_pure hBs hFs rfl fun a' w' hB hag hp => ?_
              have h0 := hag 0 (by kernel_rfl)
              simp at h0
              unfold OpYields
              go_simp
              exact ⟨Below.refl _ _, rfl⟩
            · refine step_pure hBs hFs rfl fun a' w' hB hag hp => ?_
              have h1 := hag 1 (by kernel_rfl)
              simp at h1
              unfold OpYields
              go_simp
              exact ⟨Below.refl _ _, rfl⟩
            · refine step_pure hBs hFs rfl fun a' w' hB hag hp => ?_
              have h55 : a'.tmps.getD 55 undef = _ := hp 0 (by kernel_rfl)
              have h56 : a'.tmps.getD 56 undef = _ := hp 1 (by kernel_rfl)
              have hB0 : Below wr.heap.size wr w' := hB
              simp at h55 h56
              unfold OpYields
              go_simp
              refine (of_any tag l _ _ w' (HLr.out.below hB0) (by first | exact HNC.out.1 | exact fun _ => rfl) HL6.out HT.out).mono ?_
              rw [HNE.out]
              rintro e w1 ⟨rfl, hb⟩
              exact ⟨_, rfl, hb, rfl⟩
            · refine step_pure hBs hFs rfl fun a' w' hB hag hp => ?_
              have h0 := hag 0 (by kernel_rfl)
              simp at h0
              unfold OpYields
              go_simp
              exact ⟨Below.refl _ _, rfl⟩
            · refine step_pure hBs hFs rfl fun a' w' hB hag hp => ?_
              have h1 := hag 1 (by kernel_rfl)
              simp at h1
              unfold OpYields
              go_simp
              exact ⟨Below.refl _ _, rfl⟩
            · refine step_pure hBs hFs rfl fun a' w' hB hag hp => ?_
              have h2 := hag 2 (by kernel_rfl)
              simp at h2
              unfold OpYields
              go_simp
              exact ⟨Below.refl _ _, rfl⟩
            · refine step_pure hBs hFs rfl fun a' w' hB hag hp => ?_
              have h59 : a'.tmps.getD 59 undef = _ := hp 4 (by kernel_rfl)
              have h60 : a'.tmps.getD 60 undef = _ := hp 5 (by kernel_rfl)
              simp at h59 h60
              unfold OpYields
              go_simp
              exact ⟨Below.refl _ _, rfl⟩
            · refine step_pure hBs hFs rfl fun a' w' hB hag hp => ?_
              have h61 : a'.tmps.getD 61 undef = _ := hp 6 (by kernel_rfl)
              have hB0 : Below wr.heap.size wr w' := hB
              refine (yields_appRow (f := rulF) wr.heap.size (.const (.slice none 0 0)) (.tmp 61) _ _ _ _ rfl Try.underlying22 infoRul rfl (by decide) (.slice none 0 0) [] l2 (some ⟨b, o, e⟩) c rfl (by show a'.tmps.getD 61 undef = _; rw [h61, E2.out]) HN2.out (Own.nil _ _ _ _) (RD2.out.below hB0) hB0.size (by have := HLN.out; (try simp); (try omega))).mono ?_
              rintro v w1 ⟨ho, hg, _⟩
              exact ⟨below_of_grown hg, ho⟩
            · refine step_pure hBs hFs rfl fun a' w' hB hag hp => ?_
              have h1 := hag 1 (by kernel_rfl)
              simp at h1
              unfold OpYields
              go_simp
              exact ⟨Below.refl _ _, rfl⟩
            · refine step_pure hBs hFs rfl fun a' w' hB hag hp => ?_
              have h2 := hag 2 (by kernel_rfl)
              simp at h2
              unfold OpYields
              go_simp
              exact ⟨Below.refl _ _, rfl⟩
            · refine step_pure hBs hFs rfl fun a' w' hB hag hp => ?_
              have h63 : a'.tmps.getD 63 undef = _ := hp 8 (by kernel_rfl)
              have h64 : a'.tmps.getD 64 undef = _ := hp 9 (by kernel_rfl)
              simp at h63 h64
              unfold OpYields
              go_simp
              exact ⟨Below.refl _ _, rfl⟩
            · intro a' w' hB hag hp
              rw [if_pos (by simp [Region.wanted])]
              have hB0 : Below wr.heap.size wr w' := hB
              have h62 : Own rulF w' wr.heap.size 33 (a'.tmps.getD 62 undef) l2 := hp 7 (by kernel_rfl)
              have h65 : a'.tmps.getD 65 undef = _ := hp 10 (by kernel_rfl)
              refine (yields_appRow (f := rulF) wr.heap.size (.tmp 62) (.tmp 65) _ _ _ _ rfl Try.underlying22 infoRul rfl (by decide) (a'.tmps.getD 62 undef) l2 l1 (some ⟨b, o, e⟩) c rfl (by show a'.tmps.getD 65 undef = _; rw [h65, E1.out]) HN1.out h62 (RD1.out.below hB0) hB0.size (by have := HLN.out; omega)).mono ?_
              rintro v w1 ⟨ho, hg, _⟩
              refine ⟨below_own hB0 hg (fun k hk => ⟨(h62.lt k hk).1, (h62.lt k hk).2⟩), HMM.out ▸ ho, ?_⟩
              intro j vs hj hjk hF
              unfold Fof at *
              match j, hj, hjk with
              | 0, _, _ => exact hF
              | 1, _, _ => exact hF
              | 2, _, _ => exact hF
              | 3, _, _ => exact hF
              | 4, _, _ => exact hF
              | 5, _, _ => exact hF
              | 6, _, _ => exact hF
              | 7, _, h => exact absurd rfl h
              | 8, _, _ => exact hF
              | 9, _, _ => exact hF
              | 10, _, _ => exact hF
              | 12, _, _ => exact hF
              | 13, _, _ => exact hF
              | 14, _, _ => exact hF
              | j + 15, _, _ => trivial
            · refine step_pure hBs hFs rfl fun a' w' hB hag hp => ?_
              have h58 : a'.tmps.getD 58 undef = _ := hp 3 (by kernel_rfl)
              have h66 := hp 11 (by kernel_rfl)
              replace h66 : _ := h66
              have h66' : Own rulF w' wr.heap.size 33 (a'.tmps.getD 66 undef) m := h66
              obtain ⟨A9, c9, hv, -, hr⟩ := h66'.rd
              have hn9 : A9 = none → c9 = 0 := by rw [hv] at h66'; exact h66'.nilc3
              clear h66 h66'
              simp at hv h58
              unfold OpYields
              go_simp
              refine (of_any tag m A9 c9 w' hr hn9 HMF.out HT.out).mono ?_
              rw [HNM.out]
              rintro e w1 ⟨rfl, hb⟩
              exact ⟨_, rfl, hb, rfl⟩
            · refine step_pure hBs hFs rfl fun a' w' hB hag hp => ?_
              have h57 : a'.tmps.getD 57 undef = _ := hp 2 (by kernel_rfl)
              have h67 : a'.tmps.getD 67 undef = _ := hp 12 (by kernel_rfl)
              have ueq := Try.underlying3
              have ueqb := Try.underlying4
              simp at h57 h67
              unfold OpYields
              go_simp
              exact ⟨Below.refl _ _, rfl⟩
            · refine step_pure hBs hFs rfl fun a' w' hB hag hp => ?_
              have h68 : a'.tmps.getD 68 undef = _ := hp 13 (by kernel_rfl)
              simp at h68
              unfold OpYields
              go_simp
              exact ⟨Below.refl _ _, rfl⟩
          intro vs w' hB hF
          simp only [AllF, forall_const, reduceCtorEq, false_implies, Fof, dtcF, dtcQ, dtcK, Nat.zero_add, Nat.reduceAdd, Nat.reduceEqDiff, if_true, if_false, List.getD_cons_succ, List.getD_cons_zero] at hF
          obtain ⟨f0, f1, f2, f3, f4, f5, f6, -, f8, f9, f10, -, f12, f13, f14, -⟩ := hF
          simp only [putAll, Act.put, Nat.zero_add, Nat.reduceAdd, f0, f1, f2, f3, f4, f5, f6, f8, f9, f10, f12, f13, f14, List.setIfInBounds_toArray, List.set_cons_zero, List.set_cons_succ]
          have KB := Aside.mk (below_call KB.out hB)
          clear hB
          go_wp2
          go_ret
          exact ⟨rfl, KB.out⟩
      · obtain ⟨b, o, _, rfl, -⟩ := Row.at HLr.out 0 h0
        by_cases hcq : c = bn
        · have hcq' := hcq.symm
          clear hcq
          subst hcq'
          have E2 := Aside.mk (show Value.slice (some ⟨b, o, none⟩) (l.length - bn) (bn - bn) = .slice (some ⟨b, o, none⟩) (l.drop bn).length (bn - bn) by rw [List.length_drop])
          have E1 := Aside.mk (show Value.slice (some ⟨b, o, none⟩) bn bn = .slice (some ⟨b, o, none⟩) (l.take bn).length bn by rw [List.length_take, Nat.min_eq_left HBN.out])
          have HN2 : Aside ((some ⟨b, o, none⟩ : Option Addr) = none → bn - bn = 0) := Aside.mk (fun h => by cases h)
          have HN1 : Aside ((some ⟨b, o, none⟩ : Option Addr) = none → bn = 0) := Aside.mk (fun h => by cases h)
          have RD2 := Aside.mk (show Rd rulD wr (some ⟨b, o, none⟩) (l.drop bn).length (l.drop bn) by rw [List.drop_eq_nil_of_le (by omega)]; exact Rd.nil _ _ _)
          have RD1 := Aside.mk (show Rd rulD wr (some ⟨b, o, none⟩) (l.take bn).length (l.take bn) by rw [List.length_take, Nat.min_eq_left HBN.out]; exact HLr.out.take HBN.out)
          have hpm : l.Perm ((l.drop bn) ++ (l.take bn)) := turned_perm2 l bn
          obtain ⟨m, hmm⟩ : ∃ m, (l.drop bn) ++ (l.take bn) = m := ⟨_, rfl⟩
          have HMM := Aside.mk hmm
          have HNM := Aside.mk (show ofP tag m = N by rw [← hmm, of_perm hpm, HNE.out])
          have HMF := Aside.mk (show m.length ≤ 60 by rw [← hmm, ← hpm.length_eq]; exact h60)
          clear hpm hmm
          go_wp2
          refine wp_region_facts_kl (Base := dtcB (some ⟨b, o, none⟩) bn l (l.take bn) (l.drop bn) bn (.slice (some ⟨b, o, none⟩) (l.length - bn) (bn - bn)) (.slice (some ⟨b, o, none⟩) bn bn) tag N m wr) dtcQ dtcK (Fs := dtcF (some ⟨b, o, none⟩) bn l (l.take bn) (l.drop bn) bn (.slice (some ⟨b, o, none⟩) (l.length - bn) (bn - bn)) (.slice (some ⟨b, o, none⟩) bn bn) tag N m wr) (by kernel_rfl) (by kernel_rfl) (by kernel_rfl) (by kernel_rfl) (below_drew (Below.refl _ _)) ?_ ?_
          ·
            have hBs := dtcB_stay (some ⟨b, o, none⟩) bn l (l.take bn) (l.drop bn) bn (.slice (some ⟨b, o, none⟩) (l.length - bn) (bn - bn)) (.slice (some ⟨b, o, none⟩) bn bn) tag N m wr
            have hFs := dtcF_stay (some ⟨b, o, none⟩) bn l (l.take bn) (l.drop bn) bn (.slice (some ⟨b, o, none⟩) (l.length - bn) (bn - bn)) (.slice (some ⟨b, o, none⟩) bn bn) tag N m wr
            refine ⟨?_, ?_, ?_, ?_, ?_, ?_, ?_, ?_, ?_, ?_, ?_, ?_, ?_, ?_, ?_, trivial⟩
            · refine step_pure hBs hFs rfl fun a' w' hB hag hp => ?_
              have h0 := hag 0 (by kernel_rfl)
              simp at h0
              unfold OpYields
              go_simp
              exact ⟨Below.refl _ _, rfl⟩
            · refine step_pure hBs hFs rfl fun a' w' hB hag hp => ?_
              have h1 := hag 1 (by kernel_rfl)
              simp at h1
              unfold OpYields
              go_simp
              exact ⟨Below.refl _ _, rfl⟩
            · refine step_pure hBs hFs rfl fun a' w' hB hag hp => ?_
              have h55 : a'.tmps.getD 55 undef = _ := hp 0 (by kernel_rfl)
              have h56 : a'.tmps.getD 56 undef = _ := hp 1 (by kernel_rfl)
              have hB0 : Below wr.heap.size wr w' := hB
              simp at h55 h56
              unfold OpYields
              go_simp
              refine (of_any tag l _ _ w' (HLr.out.below hB0) (by first | exact HNC.out.1 | exact fun _ => rfl) HL6.out HT.out).mono ?_
              rw [HNE.out]
              rintro e w1 ⟨rfl, hb⟩
              exact ⟨_, rfl, hb, rfl⟩
            · refine step_pure hBs hFs rfl fun a' w' hB hag hp => ?_
              have h0 := hag 0 (by kernel_rfl)
              simp at h0
              unfold OpYields
              go_simp
              exact ⟨Below.refl _ _, rfl⟩
            · refine step_pure hBs hFs rfl fun a' w' hB hag hp => ?_
              have h1 := hag 1 (by kernel_rfl)
              simp at h1
              unfold OpYields
              go_simp
              exact ⟨Below.refl _ _, rfl⟩
            · refine step_pure hBs hFs rfl fun a' w' hB hag hp => ?_
              have h2 := hag 2 (by kernel_rfl)
              simp at h2
              unfold OpYields
              go_simp
              exact ⟨Below.refl _ _, rfl⟩
            · refine step_pure hBs hFs rfl fun a' w' hB hag hp => ?_
              have h59 : a'.tmps.getD 59 undef = _ := hp 4 (by kernel_rfl)
              have h60 : a'.tmps.getD 60 undef = _ := hp 5 (by kernel_rfl)
              simp at h59 h60
              unfold OpYields
              go_simp
              exact ⟨Below.refl _ _, rfl⟩
            · refine step_pure hBs hFs rfl fun a' w' hB hag hp => ?_
              have h61 : a'.tmps.getD 61 undef = _ := hp 6 (by kernel_rfl)
              have hB0 : Below wr.heap.size wr w' := hB
              refine (yields_appRow (f := rulF) wr.heap.size (.const (.slice none 0 0)) (.tmp 61) _ _ _ _ rfl Try.underlying22 infoRul rfl (by decide) (.slice none 0 0) [] (l.drop bn) (some ⟨b, o, none⟩) (bn - bn) rfl (by show a'.tmps.getD 61 undef = _; rw [h61, E2.out]) HN2.out (Own.nil _ _ _ _) (RD2.out.below hB0) hB0.size (by have := HLN.out; (try simp); (try omega))).mono ?_
              rintro v w1 ⟨ho, hg, _⟩
              exact ⟨below_of_grown hg, ho⟩
            · refine step_pure hBs hFs rfl fun a' w' hB hag hp => ?_
              have h1 := hag 1 (by kernel_rfl)
              simp at h1
              unfold OpYields
              go_simp
              exact ⟨Below.refl _ _, rfl⟩
            · refine step_pure hBs hFs rfl fun a' w' hB hag hp => ?_
              have h2 := hag 2 (by kernel_rfl)
              simp at h2
              unfold OpYields
              go_simp
              exact ⟨Below.refl _ _, rfl⟩
            · refine step_pure hBs hFs rfl fun a' w' hB hag hp => ?_
              have h63 : a'.tmps.getD 63 undef = _ := hp 8 (by kernel_rfl)
              have h64 : a'.tmps.getD 64 undef = _ := hp 9 (by kernel_rfl)
              simp at h63 h64
              unfold OpYields
              go_simp
              exact ⟨Below.refl _ _, rfl⟩
            · intro a' w' hB hag hp
              rw [if_pos (by simp [Region.wanted])]
              have hB0 : Below wr.heap.size wr w' := hB
              have h62 : Own rulF w' wr.heap.size 33 (a'.tmps.getD 62 undef) (l.drop bn) := hp 7 (by kernel_rfl)
              have h65 : a'.tmps.getD 65 undef = _ := hp 10 (by kernel_rfl)
              refine (yields_appRow (f := rulF) wr.heap.size (.tmp 62) (.tmp 65) _ _ _ _ rfl Try.underlying22 infoRul rfl (by decide) (a'.tmps.getD 62 undef) (l.drop bn) (l.take bn) (some ⟨b, o, none⟩) bn rfl (by show a'.tmps.getD 65 undef = _; rw [h65, E1.out]) HN1.out h62 (RD1.out.below hB0) hB0.size (by have := HLN.out; omega)).mono ?_
              rintro v w1 ⟨ho, hg, _⟩
              refine ⟨below_own hB0 hg (fun k hk => ⟨(h62.lt k hk).1, (h62.lt k hk).2⟩), HMM.out ▸ ho, ?_⟩
              intro j vs hj hjk hF
              unfold Fof at *
              match j, hj, hjk with
              | 0, _, _ => exact hF
              | 1, _, _ => exact hF
              | 2, _, _ => exact hF
              | 3, _, _ => exact hF
              | 4, _, _ => exact hF
              | 5, _, _ => exact hF
              | 6, _, _ => exact hF
              | 7, _, h => exact absurd rfl h
              | 8, _, _ => exact hF
              | 9, _, _ => exact hF
              | 10, _, _ => exact hF
              | 12, _, _ => exact hF
              | 13, _, _ => exact hF
              | 14, _, _ => exact hF
              | j + 15, _, _ => trivial
            · refine step_pure hBs hFs rfl fun a' w' hB hag hp => ?_
              have h58 : a'.tmps.getD 58 undef = _ := hp 3 (by kernel_rfl)
              have h66 := hp 11 (by kernel_rfl)
              replace h66 : _ := h66
              have h66' : Own rulF w' wr.heap.size 33 (a'.tmps.getD 66 undef) m := h66
              obtain ⟨A9, c9, hv, -, hr⟩ := h66'.rd
              have hn9 : A9 = none → c9 = 0 := by rw [hv] at h66'; exact h66'.nilc3
              clear h66 h66'
              simp at hv h58
              unfold OpYields
              go_simp
              refine (of_any tag m A9 c9 w' hr hn9 HMF.out HT.out).mono ?_
              rw [HNM.out]
              rintro e w1 ⟨rfl, hb⟩
              exact ⟨_, rfl, hb, rfl⟩
            · refine step_pure hBs hFs rfl fun a' w' hB hag hp => ?_
              have h57 : a'.tmps.getD 57 undef = _ := hp 2 (by kernel_rfl)
              have h67 : a'.tmps.getD 67 undef = _ := hp 12 (by kernel_rfl)
              have ueq := Try.underlying3
              have ueqb := Try.underlying4
              simp at h57 h67
              unfold OpYields
              go_simp
              exact ⟨Below.refl _ _, rfl⟩
            · refine step_pure hBs hFs rfl fun a' w' hB hag hp => ?_
              have h68 : a'.tmps.getD 68 undef = _ := hp 13 (by kernel_rfl)
              simp at h68
              unfold OpYields
              go_simp
              exact ⟨Below.refl _ _, rfl⟩
          intro vs w' hB hF
          simp only [AllF, forall_const, reduceCtorEq, false_implies, Fof, dtcF, dtcQ, dtcK, Nat.zero_add, Nat.reduceAdd, Nat.reduceEqDiff, if_true, if_false, List.getD_cons_succ, List.getD_cons_zero] at hF
          obtain ⟨f0, f1, f2, f3, f4, f5, f6, -, f8, f9, f10, -, f12, f13, f14, -⟩ := hF
          simp only [putAll, Act.put, Nat.zero_add, Nat.reduceAdd, f0, f1, f2, f3, f4, f5, f6, f8, f9, f10, f12, f13, f14, List.setIfInBounds_toArray, List.set_cons_zero, List.set_cons_succ]
          have KB := Aside.mk (below_call KB.out hB)
          clear hB
          go_wp2
          go_ret
          exact ⟨rfl, KB.out⟩
        · skip
          have hcq2 : ¬ c - bn = 0 := by omega
          have hbc : bn ≤ c := by omega
          have E2 := Aside.mk (show Value.slice (some ⟨b, o + bn * 6, none⟩) (l.length - bn) (c - bn) = .slice (some ⟨b, o + bn * 6, none⟩) (l.drop bn).length (c - bn) by rw [List.length_drop])
          have E1 := Aside.mk (show Value.slice (some ⟨b, o, none⟩) bn c = .slice (some ⟨b, o, none⟩) (l.take bn).length c by rw [List.length_take, Nat.min_eq_left HBN.out])
          have HN2 : Aside ((some ⟨b, o + bn * 6, none⟩ : Option Addr) = none → c - bn = 0) := Aside.mk (fun h => by cases h)
          have HN1 : Aside ((some ⟨b, o, none⟩ : Option Addr) = none → c = 0) := Aside.mk (fun h => by cases h)
          have RD2 := Aside.mk (show Rd rulD wr (some ⟨b, o + bn * 6, none⟩) (l.drop bn).length (l.drop bn) by rw [List.length_drop]; exact HLr.out.drop HBN.out)
          have RD1 := Aside.mk (show Rd rulD wr (some ⟨b, o, none⟩) (l.take bn).length (l.take bn) by rw [List.length_take, Nat.min_eq_left HBN.out]; exact HLr.out.take HBN.out)
          have hpm : l.Perm ((l.drop bn) ++ (l.take bn)) := turned_perm2 l bn
          obtain ⟨m, hmm⟩ : ∃ m, (l.drop bn) ++ (l.take bn) = m := ⟨_, rfl⟩
          have HMM := Aside.mk hmm
          have HNM := Aside.mk (show ofP tag m = N by rw [← hmm, of_perm hpm, HNE.out])
          have HMF := Aside.mk (show m.length ≤ 60 by rw [← hmm, ← hpm.length_eq]; exact h60)
          clear hpm hmm
          go_wp2
          refine wp_region_facts_kl (Base := dtcB (some ⟨b, o, none⟩) c l (l.take bn) (l.drop bn) bn (.slice (some ⟨b, o + bn * 6, none⟩) (l.length - bn) (c - bn)) (.slice (some ⟨b, o, none⟩) bn c) tag N m wr) dtcQ dtcK (Fs := dtcF (some ⟨b, o, none⟩) c l (l.take bn) (l.drop bn) bn (.slice (some ⟨b, o + bn * 6, none⟩) (l.length - bn) (c - bn)) (.slice (some ⟨b, o, none⟩) bn c) tag N m wr) (by kernel_rfl) (by kernel_rfl) (by kernel_rfl) (by kernel_rfl) (below_drew (Below.refl _ _)) ?_ ?_
          ·
            have hBs := dtcB_stay (some ⟨b, o, none⟩) c l (l.take bn) (l.drop bn) bn (.slice (some ⟨b, o + bn * 6, none⟩) (l.length - bn) (c - bn)) (.slice (some ⟨b, o, none⟩) bn c) tag N m wr
            have hFs := dtcF_stay (some ⟨b, o, none⟩) c l (l.take bn) (l.drop bn) bn (.slice (some ⟨b, o + bn * 6, none⟩) (l.length - bn) (c - bn)) (.slice (some ⟨b, o, none⟩) bn c) tag N m wr
            refine ⟨?_, ?_, ?_, ?_, ?_, ?_, ?_, ?_, ?_, ?_, ?_, ?_, ?_, ?_, ?_, trivial⟩
            · refine step_pure hBs hFs rfl fun a' w' hB hag hp => ?_
              have h0 := hag 0 (by kernel_rfl)
              simp at h0
              unfold OpYields
              go_simp
              exact ⟨Below.refl _ _, rfl⟩
            · refine step_pure hBs hFs rfl fun a' w' hB hag hp => ?_
              have h1 := hag 1 (by kernel_rfl)
              simp at h1
              unfold OpYields
              go_simp
              exact ⟨Below.refl _ _, rfl⟩
            · refine step_pure hBs hFs rfl fun a' w' hB hag hp => ?_
              have h55 : a'.tmps.getD 55 undef = _ := hp 0 (by kernel_rfl)
              have h56 : a'.tmps.getD 56 undef = _ := hp 1 (by kernel_rfl)
              have hB0 : Below wr.heap.size wr w' := hB
              simp at h55 h56
              unfold OpYields
              go_simp
              refine (of_any tag l _ _ w' (HLr.out.below hB0) (by first | exact HNC.out.1 | exact fun _ => rfl) HL6.out HT.out).mono ?_
              rw [HNE.out]
              rintro e w1 ⟨rfl, hb⟩
              exact ⟨_, rfl, hb, rfl⟩
            · refine step_pure hBs hFs rfl fun a' w' hB hag hp => ?_
              have h0 := hag 0 (by kernel_rfl)
              simp at h0
              unfold OpYields
              go_simp
              exact ⟨Below.refl _ _, rfl⟩
            · refine step_pure hBs hFs rfl fun a' w' hB hag hp => ?_
              have h1 := hag 1 (by kernel_rfl)
              simp at h1
              unfold OpYields
              go_simp
              exact ⟨Below.refl _ _, rfl⟩
            · refine step_pure hBs hFs rfl fun a' w' hB hag hp => ?_
              have h2 := hag 2 (by kernel_rfl)
              simp at h2
              unfold OpYields
              go_simp
              exact ⟨Below.refl _ _, rfl⟩
            · refine step_pure hBs hFs rfl fun a' w' hB hag hp => ?_
              have h59 : a'.tmps.getD 59 undef = _ := hp 4 (by kernel_rfl)
              have h60 : a'.tmps.getD 60 undef = _ := hp 5 (by kernel_rfl)
              simp at h59 h60
              unfold OpYields
              go_simp
              exact ⟨Below.refl _ _, rfl⟩
            · refine step_pure hBs hFs rfl fun a' w' hB hag hp => ?_
              have h61 : a'.tmps.getD 61 undef = _ := hp 6 (by kernel_rfl)
              have hB0 : Below wr.heap.size wr w' := hB
              refine (yields_appRow (f := rulF) wr.heap.size (.const (.slice none 0 0)) (.tmp 61) _ _ _ _ rfl Try.underlying22 infoRul rfl (by decide) (.slice none 0 0) [] (l.drop bn) (some ⟨b, o + bn * 6, none⟩) (c - bn) rfl (by show a'.tmps.getD 61 undef = _; rw [h61, E2.out]) HN2.out (Own.nil _ _ _ _) (RD2.out.below hB0) hB0.size (by have := HLN.out; (try simp); (try omega))).mono ?_
              rintro v w1 ⟨ho, hg, _⟩
              exact ⟨below_of_grown hg, ho⟩
            · refine step_pure hBs hFs rfl fun a' w' hB hag hp => ?_
              have h1 := hag 1 (by kernel_rfl)
              simp at h1
              unfold OpYields
              go_simp
              exact ⟨Below.refl _ _, rfl⟩
            · refine step_pure hBs hFs rfl fun a' w' hB hag hp => ?_
              have h2 := hag 2 (by kernel_rfl)
              simp at h2
              unfold OpYields
              go_simp
              exact ⟨Below.refl _ _, rfl⟩
            · refine step_pure hBs hFs rfl fun a' w' hB hag hp => ?_
              have h63 : a'.tmps.getD 63 undef = _ := hp 8 (by kernel_rfl)
              have h64 : a'.tmps.getD 64 undef = _ := hp 9 (by kernel_rfl)
              simp at h63 h64
              unfold OpYields
              go_simp
              exact ⟨Below.refl _ _, rfl⟩
            · intro a' w' hB hag hp
              rw [if_pos (by simp [Region.wanted])]
              have hB0 : Below wr.heap.size wr w' := hB
              have h62 : Own rulF w' wr.heap.size 33 (a'.tmps.getD 62 undef) (l.drop bn) := hp 7 (by kernel_rfl)
              have h65 : a'.tmps.getD 65 undef = _ := hp 10 (by kernel_rfl)
              refine (yields_appRow (f := rulF) wr.heap.size (.tmp 62) (.tmp 65) _ _ _ _ rfl Try.underlying22 infoRul rfl (by decide) (a'.tmps.getD 62 undef) (l.drop bn) (l.take bn) (some ⟨b, o, none⟩) c rfl (by show a'.tmps.getD 65 undef = _; rw [h65, E1.out]) HN1.out h62 (RD1.out.below hB0) hB0.size (by have := HLN.out; omega)).mono ?_
              rintro v w1 ⟨ho, hg, _⟩
              refine ⟨below_own hB0 hg (fun k hk => ⟨(h62.lt k hk).1, (h62.lt k hk).2⟩), HMM.out ▸ ho, ?_⟩
              intro j vs hj hjk hF
              unfold Fof at *
              match j, hj, hjk with
              | 0, _, _ => exact hF
              | 1, _, _ => exact hF
              | 2, _, _ => exact hF
              | 3, _, _ => exact hF
              | 4, _, _ => exact hF
              | 5, _, _ => exact hF
              | 6, _, _ => exact hF
              | 7, _, h => exact absurd rfl h
              | 8, _, _ => exact hF
              | 9, _, _ => exact hF
              | 10, _, _ => exact hF
              | 12, _, _ => exact hF
              | 13, _, _ => exact hF
              | 14, _, _ => exact hF
              | j + 15, _, _ => trivial
            · refine step_pure hBs hFs rfl fun a' w' hB hag hp => ?_
              have h58 : a'.tmps.getD 58 undef = _ := hp 3 (by kernel_rfl)
              have h66 := hp 11 (by kernel_rfl)
              replace h66 : _ := h66
              have h66' : Own rulF w' wr.heap.size 33 (a'.tmps.getD 66 undef) m := h66
              obtain ⟨A9, c9, hv, -, hr⟩ := h66'.rd
              have hn9 : A9 = none → c9 = 0 := by rw [hv] at h66'; exact h66'.nilc3
              clear h66 h66'
              simp at hv h58
              unfold OpYields
              go_simp
              refine (of_any tag m A9 c9 w' hr hn9 HMF.out HT.out).mono ?_
              rw [HNM.out]
              rintro e w1 ⟨rfl, hb⟩
              exact ⟨_, rfl, hb, rfl⟩
            · refine step_pure hBs hFs rfl fun a' w' hB hag hp => ?_
              have h57 : a'.tmps.getD 57 undef = _ := hp 2 (by kernel_rfl)
              have h67 : a'.tmps.getD 67 undef = _ := hp 12 (by kernel_rfl)
              have ueq := Try.underlying3
              have ueqb := Try.underlying4
              simp at h57 h67
              unfold OpYields
              go_simp
              exact ⟨Below.refl _ _, rfl⟩
            · refine step_pure hBs hFs rfl fun a' w' hB hag hp => ?_
              have h68 : a'.tmps.getD 68 undef = _ := hp 13 (by kernel_rfl)
              simp at h68
              unfold OpYields
              go_simp
              exact ⟨Below.refl _ _, rfl⟩
          intro vs w' hB hF
          simp only [AllF, forall_const, reduceCtorEq, false_implies, Fof, dtcF, dtcQ, dtcK, Nat.zero_add, Nat.reduceAdd, Nat.reduceEqDiff, if_true, if_false, List.getD_cons_succ, List.getD_cons_zero] at hF
          obtain ⟨f0, f1, f2, f3, f4, f5, f6, -, f8, f9, f10, -, f12, f13, f14, -⟩ := hF
          simp only [putAll, Act.put, Nat.zero_add, Nat.reduceAdd, f0, f1, f2, f3, f4, f5, f6, f8, f9, f10, f12, f13, f14, List.setIfInBounds_toArray, List.set_cons_zero, List.set_cons_succ]
          have KB := Aside.mk (below_call KB.out hB)
          clear hB
          go_wp2
          go_ret
          exact ⟨rfl, KB.out⟩
theorem digestTurned_walk (tag : Int) (A : Option Addr) (c : Nat) (l : List Rul) (by_ : Int) (w : World) (ht : Fit tag) (hl : Rd rulD w A l.length l) (hF : ∀ r ∈ l, FitR8 r) (hnc : (A = none → c = 0) ∧ l.length ≤ c) (hby : Fit by_) : Calls Try.prog 12 #[.int .i64 tag, .slice A l.length c, .int .i64 by_] w fun e w' => e = .returned (.bool true) ∧ Below w.heap.size w w' := by
  by_cases h60 : l.length ≤ 60
  · by_cases hoff : by_ < 0 ∨ (l.length : Int) < by_
    · exact digestTurned_off tag A c l by_ w ht hl hF hnc hby h60 hoff
    · exact digestTurned_main tag A c l by_ w ht hl hF hnc hby h60 by_.toNat (by omega) (by omega)
  · exact digestTurned_big tag A c l by_ w ht hl hF hnc hby h60
end Go.Proofs.Ytlpobpciiaofeaa
