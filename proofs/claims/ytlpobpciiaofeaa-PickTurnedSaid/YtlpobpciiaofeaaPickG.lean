/- The walk through PickTurned. -/
import Derived.Test.YtlpobpciiaofeaaSortK
import Derived.Test.YtlpobpciiaofeaaPickQ
import Derived.Test.YtlpobpciiaofeaaPickN
import Derived.Test.YtlpobpciiaofeaaMayC
namespace Go.Proofs.Ytlpobpciiaofeaa
open Go.RowKit
set_option maxRecDepth 100000
def ptrB (x y : Rul) (t : Bool) (b o c n i k : Nat) (wr : World) (w' : World) : Prop :=
  Below wr.heap.size wr w'
def ptrF (x y : Rul) (t : Bool) (b o c n i k : Nat) (wr : World) : List (Value → Value → World → Prop) :=
  [fun _ v _ => v = .slice (some ⟨b, o, none⟩) n c,
   fun _ v _ => v = .int .i64 i,
   fun _ v _ => v = .pointer (some ⟨b, o + i * 6, none⟩),
   fun _ v _ => v = rulV x,
   fun _ v _ => v = .slice (some ⟨b, o, none⟩) n c,
   fun _ v _ => v = .int .i64 k,
   fun _ v _ => v = .pointer (some ⟨b, o + k * 6, none⟩),
   fun _ v _ => v = rulV y,
   fun _ v _ => v = .bool t]
def ptrQ : Nat → Nat := fun i => i
theorem ptrF_stay (x y : Rul) (t : Bool) (b o c n i k : Nat) (wr : World) : AllStay (ptrF x y t b o c n i k wr) := by
  intro F hF u v w' w'' hb h
  simp only [ptrF, List.mem_cons, List.not_mem_nil, or_false] at hF
  rcases hF with rfl | rfl | rfl | rfl | rfl | rfl | rfl | rfl | rfl
  · exact h
  · exact h
  · exact h
  · exact h
  · exact h
  · exact h
  · exact h
  · exact h
  · exact h
theorem ptrB_stay (x y : Rul) (t : Bool) (b o c n i k : Nat) (wr : World) : Stays (ptrB x y t b o c n i k wr) := by
  intro w' w'' hb h
  exact below_call h hb
def ptcB (A : Option Addr) (c : Nat) (l l1 l2 : List Rul) (bn : Nat) (v63 v67 : Value) (wr : World) (w' : World) : Prop :=
  Below wr.heap.size wr w'
def ptcF (A : Option Addr) (c : Nat) (l l1 l2 : List Rul) (bn : Nat) (v63 v67 : Value) (wr : World) : List (Value → Value → World → Prop) :=
  [fun _ v _ => v = .slice A l.length c,
   fun _ v _ => v = .int .i64 bn,
   fun _ v _ => v = v63,
   fun _ v w' => Own rulF w' wr.heap.size 33 v l2,
   fun _ v _ => v = .slice A l.length c,
   fun _ v _ => v = .int .i64 bn,
   fun _ v _ => v = v67,
   fun _ v w' => Own rulF w' wr.heap.size 33 v (l2 ++ l1),
   fun u v _ => v = u]
def ptcQ : Nat → Nat := fun i => if i = 8 then 7 else i
def ptcK : Nat → Option Nat := fun i => if i = 3 then some 7 else none
theorem ptcF_stay (A : Option Addr) (c : Nat) (l l1 l2 : List Rul) (bn : Nat) (v63 v67 : Value) (wr : World) : AllStay (ptcF A c l l1 l2 bn v63 v67 wr) := by
  intro F hF u v w' w'' hb h
  simp only [ptcF, List.mem_cons, List.not_mem_nil, or_false] at hF
  rcases hF with rfl | rfl | rfl | rfl | rfl | rfl | rfl | rfl | rfl
  · exact h
  · exact h
  · exact h
  · exact h.below hb
  · exact h
  · exact h
  · exact h
  · exact h.below hb
  · exact h
theorem ptcB_stay (A : Option Addr) (c : Nat) (l l1 l2 : List Rul) (bn : Nat) (v63 v67 : Value) (wr : World) : Stays (ptcB A c l l1 l2 bn v63 v67 wr) := by
  intro w' w'' hb h
  exact below_call h hb
theorem Own.nilc2 {α : Type} {f : Flat α} {w : World} {base : Nat} {e : TypeId} {A : Option Addr} {n c : Nat} {xs : List α} (h : Own f w base e (.slice A n c) xs) : A = none → c = 0 := by
  intro hA
  rcases h.2 with ⟨h2, -⟩ | ⟨g, cap, cur, hv, _⟩
  · injection h2
  · rw [hA] at hv; injection hv with hv; cases hv
theorem turned_perm (l : List Rul) (b : Nat) : List.Perm l (l.drop b ++ l.take b) := by
  conv => lhs; rw [← List.take_append_drop b l]
  exact List.perm_append_comm
theorem alikeI_comm (a b : Rul) : alikeI a b = alikeI b a := by unfold alikeI; exact decide_eq_decide.2 ⟨Eq.symm, Eq.symm⟩
theorem fits_addr {r : Rul} {inn dst : Int} (h : fitsI r inn dst = true) : (cutN dst r.len : Int) = r.addr := by
  unfold fitsI hasI at h
  simp only [Bool.and_eq_true, decide_eq_true_eq] at h
  exact h.1.1
theorem turned_elt {l m : List Rul} {inn dst : Int} {x y : Rul} (hp : List.Perm l m) (hna : ∀ p q (hp : p < l.length) (hq : q < p), alikeI l[p] (l[q]'(by omega)) = false) (hx : eltB inn dst l = some x) (hy : eltB inn dst m = some y) : x = y := by
  obtain ⟨h1, h2⟩ := (eltB_any hp).2 x y hx hy
  obtain ⟨hx1, hx2, -⟩ := eltB_some hx
  obtain ⟨hy1, hy2, -⟩ := eltB_some hy
  have e1 := fits_addr hx2
  have e2 := fits_addr hy2
  have e3 : x.len = y.len ∧ x.prio = y.prio ∧ x.inn = y.inn := by
    have k1 : ¬ aheadI x y = true := by rw [h1]; simp
    have k2 : ¬ aheadI y x = true := by rw [h2]; simp
    rw [ahead_iff] at k1 k2
    omega
  have ha : alikeI x y = true := by
    unfold alikeI
    rw [decide_eq_true_eq]
    obtain ⟨a1, a2, a3, a4, a5, a6⟩ := x
    obtain ⟨b1, b2, b3, b4, b5, b6⟩ := y
    dsimp only at *
    obtain ⟨rfl, rfl, rfl⟩ := e3
    rw [← e1, ← e2]
  obtain ⟨p, hp1, rfl⟩ := List.getElem_of_mem hx1
  obtain ⟨q, hq1, hq2⟩ := List.getElem_of_mem (hp.mem_iff.2 hy1)
  subst hq2
  rcases Nat.lt_trichotomy p q with h | h | h
  · rw [alikeI_comm, hna q p hq1 h] at ha; cases ha
  · subst h; rfl
  · rw [hna p q hp1 h] at ha; cases ha
set_option maxHeartbeats 4000000 in
theorem pickTurned_big (A : Option Addr) (c : Nat) (l : List Rul) (by_ inn dst : Int) (w : World) (hl : Rd rulD w A l.length l) (hF : ∀ r ∈ l, FitR8 r) (hnc : (A = none → c = 0) ∧ l.length ≤ c) (hby : Fit by_) (hi : Fit inn) (hd : Fit dst) (h60 : ¬ l.length ≤ 60) : Calls Try.prog 6 #[.slice A l.length c, .int .i64 by_, .int .i64 inn, .int .i64 dst] w fun e w' => e = .returned (.bool true) ∧ Below w.heap.size w w' := by
  have hmx := hl.max
  have d60 : decide ((60 : Int) < (l.length : Int)) = true := decide_eq_true (by omega)
  clear hl hF
  go_enter Try.func6, Try.ntmps6
  go_wp2_with (go_at_call 13; refine (awake08_any _).mono ?_; rintro e w1 ⟨rfl, hb1⟩; have KB := Aside.mk hb1; clear hb1)
  go_ret
  exact ⟨rfl, KB.out⟩
set_option maxHeartbeats 4000000 in
theorem pickTurned_off (A : Option Addr) (c : Nat) (l : List Rul) (by_ inn dst : Int) (w : World) (hl : Rd rulD w A l.length l) (hF : ∀ r ∈ l, FitR8 r) (hnc : (A = none → c = 0) ∧ l.length ≤ c) (hby : Fit by_) (hi : Fit inn) (hd : Fit dst) (h60 : l.length ≤ 60) (hoff : by_ < 0 ∨ (l.length : Int) < by_) : Calls Try.prog 6 #[.slice A l.length c, .int .i64 by_, .int .i64 inn, .int .i64 dst] w fun e w' => e = .returned (.bool true) ∧ Below w.heap.size w w' := by
  have hmx := hl.max
  have d60 : decide ((60 : Int) < (l.length : Int)) = false := decide_eq_false (by omega)
  clear hl hF
  by_cases h1 : by_ < 0
  · have d61 : decide (by_ < 0) = true := decide_eq_true h1
    go_enter Try.func6, Try.ntmps6
    go_wp2_with (go_at_call 13; refine (awake08_any _).mono ?_; rintro e w1 ⟨rfl, hb1⟩; have KB := Aside.mk hb1; clear hb1)
    go_ret
    exact ⟨rfl, KB.out⟩
  · have d61 : decide (by_ < 0) = false := decide_eq_false h1
    have d62 : decide ((l.length : Int) < by_) = true := decide_eq_true (by omega)
    go_enter Try.func6, Try.ntmps6
    go_wp2_with (go_at_call 13; refine (awake08_any _).mono ?_; rintro e w1 ⟨rfl, hb1⟩; have KB := Aside.mk hb1; clear hb1)
    go_ret
    exact ⟨rfl, KB.out⟩
set_option maxHeartbeats 8000000 in
theorem pickTurned_main (A : Option Addr) (c : Nat) (l : List Rul) (by_ inn dst : Int) (w : World) (hl : Rd rulD w A l.length l) (hF : ∀ r ∈ l, FitR8 r) (hnc : (A = none → c = 0) ∧ l.length ≤ c) (hby : Fit by_) (hi : Fit inn) (hd : Fit dst) (h60 : l.length ≤ 60) (bn : Nat) (hbn : by_ = bn) (hbl : bn ≤ l.length) : Calls Try.prog 6 #[.slice A l.length c, .int .i64 by_, .int .i64 inn, .int .i64 dst] w fun e w' => e = .returned (.bool true) ∧ Below w.heap.size w w' := by
  have hmx := hl.max
  subst hbn
  have d60 : decide ((60 : Int) < (l.length : Int)) = false := decide_eq_false (by omega)
  have d61 : decide ((bn : Int) < 0) = false := decide_eq_false (by omega)
  have d62 : decide ((l.length : Int) < (bn : Int)) = false := decide_eq_false (by omega)
  have d63 : decide (l.length < bn) = false := decide_eq_false (by omega)
  have d64 : ¬ l.length < bn := by omega
  have HL := Aside.mk hl
  have HNC := Aside.mk hnc
  have HBN := Aside.mk hbl
  have hq := eqRul
  clear hl hF hnc hbl hby hi hd
  go_enter Try.func6, Try.ntmps6
  go_wp2_with (go_at_call 13; refine (awake08_any _).mono ?_; rintro e w1 ⟨rfl, hb1⟩; have KB := Aside.mk hb1; clear hb1)
  go_loopw [10, 11] (fun i _ wr => ∃ k : Nat, k ≤ l.length ∧ i = .int .i64 k ∧ (∀ p q (hp : p < l.length) (hq : q < p), p < k → alikeI l[p] (l[q]'(by omega)) = false) ∧ Below w.heap.size w wr) (fun i _ _ => l.length - (intOf i).toNat)
  case atStart => exact ⟨0, Nat.zero_le _, rfl, fun p q _ _ h => absurd h (by omega), KB.out⟩
  case round =>
    clear KB
    obtain ⟨k, hk, rfl, hno, hb⟩ := hrel
    have KB := Aside.mk hb
    have HNO := Aside.mk hno
    by_cases hlt : k < l.length
    · obtain ⟨b, o, _, rfl, -⟩ := Row.at HL.out k hlt
      have HCX := Aside.mk (fun W (hb : Below w.heap.size w W) => rul_cells (c := c) HL.out hb hlt)
      obtain ⟨x, hx⟩ : ∃ x, l[k]'hlt = x := ⟨_, rfl⟩
      have HXX := Aside.mk hx
      rw [hx] at HCX
      clear hb hno hx
      go_wp2
      go_loopw [11] (fun j wr => ∃ q : Nat, q ≤ k ∧ j = .int .i64 q ∧ (∀ q' (hq : q' < l.length), q' < q → alikeI x l[q'] = false) ∧ Below w.heap.size w wr) (fun j _ => k - (intOf j).toNat)
      case atStart => exact ⟨0, Nat.zero_le _, rfl, fun q _ h => absurd h (by omega), KB.out⟩
      case round =>
        clear KB
        obtain ⟨q, hq1, rfl, hno2, hb⟩ := hrel
        have KB := Aside.mk hb
        have HNO2 := Aside.mk hno2
        by_cases hlt2 : q < k
        · have hql : q < l.length := by omega
          obtain ⟨hbl0, p0, p1, p2, p3, p4, p5⟩ := HCX.out _ hb
          obtain ⟨-, q0, q1, q2, q3, q4, q5⟩ := rul_cells (c := c) HL.out hb hql
          have hbl := Nat.lt_of_lt_of_le hbl0 hb.size
          obtain ⟨y, hy⟩ : ∃ y, l[q]'hql = y := ⟨_, rfl⟩
          have HYY := Aside.mk hy
          rw [hy] at q0 q1 q2 q3 q4 q5
          have X0 := Aside.mk p0
          have X1 := Aside.mk p1
          have X2 := Aside.mk p2
          have X3 := Aside.mk p3
          have X4 := Aside.mk p4
          have X5 := Aside.mk p5
          have Y0 := Aside.mk q0
          have Y1 := Aside.mk q1
          have Y2 := Aside.mk q2
          have Y3 := Aside.mk q3
          have Y4 := Aside.mk q4
          have Y5 := Aside.mk q5
          have HQL := Aside.mk hql
          have e1 : (k : Int) < (l.length : Int) := by omega
          have e2 : (q : Int) < (l.length : Int) := by omega
          clear hb hno2 p0 p1 p2 p3 p4 p5 q0 q1 q2 q3 q4 q5 hy hbl0
          cases hal : alikeI x y
          · have HAL := Aside.mk hal
            clear hal
            go_wp2
            refine wp_region_facts (Base := ptrB x y false b o c l.length k q wr) (q := ptrQ) (Fs := ptrF x y false b o c l.length k q wr) (by kernel_rfl) (by kernel_rfl) (by kernel_rfl) (by kernel_rfl) (below_drew (Below.refl _ _)) ?_ ?_
            ·
              have hBs := ptrB_stay x y false b o c l.length k q wr
              have hFs := ptrF_stay x y false b o c l.length k q wr
              refine ⟨?_, ?_, ?_, ?_, ?_, ?_, ?_, ?_, ?_, trivial⟩
              · refine step_pure hBs hFs rfl fun a' w' hB hag hp => ?_
                have h0 := hag 0 (by kernel_rfl)
                simp at h0
                unfold OpYields
                go_simp
                exact ⟨Below.refl _ _, rfl⟩
              · refine step_pure hBs hFs rfl fun a' w' hB hag hp => ?_
                have h10 := hag 10 (by kernel_rfl)
                simp at h10
                unfold OpYields
                go_simp
                exact ⟨Below.refl _ _, rfl⟩
              · refine step_pure hBs hFs rfl fun a' w' hB hag hp => ?_
                have h46 : a'.tmps.getD 46 undef = _ := hp 0 (by kernel_rfl)
                have h47 : a'.tmps.getD 47 undef = _ := hp 1 (by kernel_rfl)
                simp at h46 h47
                unfold OpYields
                go_simp
                exact ⟨Below.refl _ _, rfl⟩
              · refine step_pure hBs hFs rfl fun a' w' hB hag hp => ?_
                have h48 : a'.tmps.getD 48 undef = _ := hp 2 (by kernel_rfl)
                have hB : Below wr.heap.size wr w' := hB; have x0 := (hB.cell (p := ⟨b, o + k * 6, none⟩) hbl).trans X0.out; have y0 := (hB.cell (p := ⟨b, o + q * 6, none⟩) hbl).trans Y0.out; have x1 := (hB.cell (p := ⟨b, o + k * 6 + 1, none⟩) hbl).trans X1.out; have y1 := (hB.cell (p := ⟨b, o + q * 6 + 1, none⟩) hbl).trans Y1.out; have x2 := (hB.cell (p := ⟨b, o + k * 6 + 2, none⟩) hbl).trans X2.out; have y2 := (hB.cell (p := ⟨b, o + q * 6 + 2, none⟩) hbl).trans Y2.out; have x3 := (hB.cell (p := ⟨b, o + k * 6 + 3, none⟩) hbl).trans X3.out; have y3 := (hB.cell (p := ⟨b, o + q * 6 + 3, none⟩) hbl).trans Y3.out; have x4 := (hB.cell (p := ⟨b, o + k * 6 + 4, none⟩) hbl).trans X4.out; have y4 := (hB.cell (p := ⟨b, o + q * 6 + 4, none⟩) hbl).trans Y4.out; have x5 := (hB.cell (p := ⟨b, o + k * 6 + 5, none⟩) hbl).trans X5.out; have y5 := (hB.cell (p := ⟨b, o + q * 6 + 5, none⟩) hbl).trans Y5.out
                simp at h48
                unfold OpYields
                go_simp
                exact ⟨Below.refl _ _, rfl⟩
              · refine step_pure hBs hFs rfl fun a' w' hB hag hp => ?_
                have h0 := hag 0 (by kernel_rfl)
                simp at h0
                unfold OpYields
                go_simp
                exact ⟨Below.refl _ _, rfl⟩
              · refine step_pure hBs hFs rfl fun a' w' hB hag hp => ?_
                have h11 := hag 11 (by kernel_rfl)
                simp at h11
                unfold OpYields
                go_simp
                exact ⟨Below.refl _ _, rfl⟩
              · refine step_pure hBs hFs rfl fun a' w' hB hag hp => ?_
                have h50 : a'.tmps.getD 50 undef = _ := hp 4 (by kernel_rfl)
                have h51 : a'.tmps.getD 51 undef = _ := hp 5 (by kernel_rfl)
                simp at h50 h51
                unfold OpYields
                go_simp
                exact ⟨Below.refl _ _, rfl⟩
              · refine step_pure hBs hFs rfl fun a' w' hB hag hp => ?_
                have h52 : a'.tmps.getD 52 undef = _ := hp 6 (by kernel_rfl)
                have hB : Below wr.heap.size wr w' := hB; have x0 := (hB.cell (p := ⟨b, o + k * 6, none⟩) hbl).trans X0.out; have y0 := (hB.cell (p := ⟨b, o + q * 6, none⟩) hbl).trans Y0.out; have x1 := (hB.cell (p := ⟨b, o + k * 6 + 1, none⟩) hbl).trans X1.out; have y1 := (hB.cell (p := ⟨b, o + q * 6 + 1, none⟩) hbl).trans Y1.out; have x2 := (hB.cell (p := ⟨b, o + k * 6 + 2, none⟩) hbl).trans X2.out; have y2 := (hB.cell (p := ⟨b, o + q * 6 + 2, none⟩) hbl).trans Y2.out; have x3 := (hB.cell (p := ⟨b, o + k * 6 + 3, none⟩) hbl).trans X3.out; have y3 := (hB.cell (p := ⟨b, o + q * 6 + 3, none⟩) hbl).trans Y3.out; have x4 := (hB.cell (p := ⟨b, o + k * 6 + 4, none⟩) hbl).trans X4.out; have y4 := (hB.cell (p := ⟨b, o + q * 6 + 4, none⟩) hbl).trans Y4.out; have x5 := (hB.cell (p := ⟨b, o + k * 6 + 5, none⟩) hbl).trans X5.out; have y5 := (hB.cell (p := ⟨b, o + q * 6 + 5, none⟩) hbl).trans Y5.out
                simp at h52
                unfold OpYields
                go_simp
                exact ⟨Below.refl _ _, rfl⟩
              · refine step_pure hBs hFs rfl fun a' w' hB hag hp => ?_
                have h49 : a'.tmps.getD 49 undef = _ := hp 3 (by kernel_rfl)
                have h53 : a'.tmps.getD 53 undef = _ := hp 7 (by kernel_rfl)
                simp at h49 h53
                unfold OpYields
                go_simp
                refine (alike_any x y w').mono ?_
                rw [HAL.out]
                rintro e w1 ⟨rfl, hb⟩
                exact ⟨_, rfl, hb, rfl⟩
            intro vs w' hB hF
            simp only [AllF, forall_const, reduceCtorEq, false_implies, Fof, ptrF, ptrQ, Nat.zero_add, Nat.reduceAdd, Nat.reduceEqDiff, if_true, if_false, List.getD_cons_succ, List.getD_cons_zero] at hF
            obtain ⟨f0, f1, f2, f3, f4, f5, f6, f7, f8, -⟩ := hF
            simp only [putAll, Act.put, Nat.zero_add, Nat.reduceAdd, f0, f1, f2, f3, f4, f5, f6, f7, f8, List.setIfInBounds_toArray, List.set_cons_zero, List.set_cons_succ]
            have KB := Aside.mk (below_call KB.out hB)
            clear hB
            go_wp2
            exact ⟨⟨q + 1, by omega, by go_num, fun q' hq' h => by
              rcases Nat.lt_or_ge q' q with h1 | h1
              · exact HNO2.out q' hq' h1
              · obtain rfl : q' = q := by omega
                rw [HYY.out]; exact HAL.out, KB.out⟩, by simp [intOf]; omega⟩
          · have HAL := Aside.mk hal
            clear hal
            go_wp2
            refine wp_region_facts (Base := ptrB x y true b o c l.length k q wr) (q := ptrQ) (Fs := ptrF x y true b o c l.length k q wr) (by kernel_rfl) (by kernel_rfl) (by kernel_rfl) (by kernel_rfl) (below_drew (Below.refl _ _)) ?_ ?_
            ·
              have hBs := ptrB_stay x y true b o c l.length k q wr
              have hFs := ptrF_stay x y true b o c l.length k q wr
              refine ⟨?_, ?_, ?_, ?_, ?_, ?_, ?_, ?_, ?_, trivial⟩
              · refine step_pure hBs hFs rfl fun a' w' hB hag hp => ?_
                have h0 := hag 0 (by kernel_rfl)
                simp at h0
                unfold OpYields
                go_simp
                exact ⟨Below.refl _ _, rfl⟩
              · refine step_pure hBs hFs rfl fun a' w' hB hag hp => ?_
                have h10 := hag 10 (by kernel_rfl)
                simp at h10
                unfold OpYields
                go_simp
                exact ⟨Below.refl _ _, rfl⟩
              · refine step_pure hBs hFs rfl fun a' w' hB hag hp => ?_
                have h46 : a'.tmps.getD 46 undef = _ := hp 0 (by kernel_rfl)
                have h47 : a'.tmps.getD 47 undef = _ := hp 1 (by kernel_rfl)
                simp at h46 h47
                unfold OpYields
                go_simp
                exact ⟨Below.refl _ _, rfl⟩
              · refine step_pure hBs hFs rfl fun a' w' hB hag hp => ?_
                have h48 : a'.tmps.getD 48 undef = _ := hp 2 (by kernel_rfl)
                have hB : Below wr.heap.size wr w' := hB; have x0 := (hB.cell (p := ⟨b, o + k * 6, none⟩) hbl).trans X0.out; have y0 := (hB.cell (p := ⟨b, o + q * 6, none⟩) hbl).trans Y0.out; have x1 := (hB.cell (p := ⟨b, o + k * 6 + 1, none⟩) hbl).trans X1.out; have y1 := (hB.cell (p := ⟨b, o + q * 6 + 1, none⟩) hbl).trans Y1.out; have x2 := (hB.cell (p := ⟨b, o + k * 6 + 2, none⟩) hbl).trans X2.out; have y2 := (hB.cell (p := ⟨b, o + q * 6 + 2, none⟩) hbl).trans Y2.out; have x3 := (hB.cell (p := ⟨b, o + k * 6 + 3, none⟩) hbl).trans X3.out; have y3 := (hB.cell (p := ⟨b, o + q * 6 + 3, none⟩) hbl).trans Y3.out; have x4 := (hB.cell (p := ⟨b, o + k * 6 + 4, none⟩) hbl).trans X4.out; have y4 := (hB.cell (p := ⟨b, o + q * 6 + 4, none⟩) hbl).trans Y4.out; have x5 := (hB.cell (p := ⟨b, o + k * 6 + 5, none⟩) hbl).trans X5.out; have y5 := (hB.cell (p := ⟨b, o + q * 6 + 5, none⟩) hbl).trans Y5.out
                simp at h48
                unfold OpYields
                go_simp
                exact ⟨Below.refl _ _, rfl⟩
              · refine step_pure hBs hFs rfl fun a' w' hB hag hp => ?_
                have h0 := hag 0 (by kernel_rfl)
                simp at h0
                unfold OpYields
                go_simp
                exact ⟨Below.refl _ _, rfl⟩
              · refine step_pure hBs hFs rfl fun a' w' hB hag hp => ?_
                have h11 := hag 11 (by kernel_rfl)
                simp at h11
                unfold OpYields
                go_simp
                exact ⟨Below.refl _ _, rfl⟩
              · refine step_pure hBs hFs rfl fun a' w' hB hag hp => ?_
                have h50 : a'.tmps.getD 50 undef = _ := hp 4 (by kernel_rfl)
                have h51 : a'.tmps.getD 51 undef = _ := hp 5 (by kernel_rfl)
                simp at h50 h51
                unfold OpYields
                go_simp
                exact ⟨Below.refl _ _, rfl⟩
              · refine step_pure hBs hFs rfl fun a' w' hB hag hp => ?_
                have h52 : a'.tmps.getD 52 undef = _ := hp 6 (by kernel_rfl)
                have hB : Below wr.heap.size wr w' := hB; have x0 := (hB.cell (p := ⟨b, o + k * 6, none⟩) hbl).trans X0.out; have y0 := (hB.cell (p := ⟨b, o + q * 6, none⟩) hbl).trans Y0.out; have x1 := (hB.cell (p := ⟨b, o + k * 6 + 1, none⟩) hbl).trans X1.out; have y1 := (hB.cell (p := ⟨b, o + q * 6 + 1, none⟩) hbl).trans Y1.out; have x2 := (hB.cell (p := ⟨b, o + k * 6 + 2, none⟩) hbl).trans X2.out; have y2 := (hB.cell (p := ⟨b, o + q * 6 + 2, none⟩) hbl).trans Y2.out; have x3 := (hB.cell (p := ⟨b, o + k * 6 + 3, none⟩) hbl).trans X3.out; have y3 := (hB.cell (p := ⟨b, o + q * 6 + 3, none⟩) hbl).trans Y3.out; have x4 := (hB.cell (p := ⟨b, o + k * 6 + 4, none⟩) hbl).trans X4.out; have y4 := (hB.cell (p := ⟨b, o + q * 6 + 4, none⟩) hbl).trans Y4.out; have x5 := (hB.cell (p := ⟨b, o + k * 6 + 5, none⟩) hbl).trans X5.out; have y5 := (hB.cell (p := ⟨b, o + q * 6 + 5, none⟩) hbl).trans Y5.out
                simp at h52
                unfold OpYields
                go_simp
                exact ⟨Below.refl _ _, rfl⟩
              · refine step_pure hBs hFs rfl fun a' w' hB hag hp => ?_
                have h49 : a'.tmps.getD 49 undef = _ := hp 3 (by kernel_rfl)
                have h53 : a'.tmps.getD 53 undef = _ := hp 7 (by kernel_rfl)
                simp at h49 h53
                unfold OpYields
                go_simp
                refine (alike_any x y w').mono ?_
                rw [HAL.out]
                rintro e w1 ⟨rfl, hb⟩
                exact ⟨_, rfl, hb, rfl⟩
            intro vs w' hB hF
            simp only [AllF, forall_const, reduceCtorEq, false_implies, Fof, ptrF, ptrQ, Nat.zero_add, Nat.reduceAdd, Nat.reduceEqDiff, if_true, if_false, List.getD_cons_succ, List.getD_cons_zero] at hF
            obtain ⟨f0, f1, f2, f3, f4, f5, f6, f7, f8, -⟩ := hF
            simp only [putAll, Act.put, Nat.zero_add, Nat.reduceAdd, f0, f1, f2, f3, f4, f5, f6, f7, f8, List.setIfInBounds_toArray, List.set_cons_zero, List.set_cons_succ]
            have KB := Aside.mk (below_call KB.out hB)
            clear hB
            go_wp2
            go_ret
            exact ⟨rfl, KB.out⟩
        · obtain rfl : q = k := by omega
          obtain ⟨-, p0, p1, p2, p3, p4, p5⟩ := HCX.out _ hb
          have HNX := Aside.mk (show ∀ p q' (hp : p < l.length) (hq : q' < p), p < q + 1 → alikeI l[p] (l[q']'(by omega)) = false from fun p q' hp hq' h => by
            rcases Nat.lt_or_ge p q with h1 | h1
            · exact HNO.out p q' hp hq' h1
            · obtain rfl : p = q := by omega
              rw [HXX.out]; exact HNO2.out q' (by omega) hq')
          clear hb hno2
          cases hm : mayI x
          · have HM := Aside.mk hm
            clear hm
            go_wp2_with (go_at_call 22; refine (may_any8 x _).mono ?_; rw [HM.out]; rintro e w2 ⟨rfl, hb2⟩; have KB := Aside.mk (below_call KB.out hb2); clear hb2)
            go_ret
            exact ⟨rfl, KB.out⟩
          · have HM := Aside.mk hm
            clear hm
            go_wp2_with (go_at_call 22; refine (may_any8 x _).mono ?_; rw [HM.out]; rintro e w2 ⟨rfl, hb2⟩; have KB := Aside.mk (below_call KB.out hb2); clear hb2)
            exact ⟨⟨q + 1, by omega, by go_num, HNX.out, KB.out⟩, by simp [intOf]; omega⟩
    · obtain rfl : k = l.length := by omega
      have HNA := Aside.mk (show ∀ p q (hp : p < l.length) (hq : q < p), alikeI l[p] (l[q]'(by omega)) = false from fun p q hp hq => hno p q hp hq hp)
      have HLr := Aside.mk (HL.out.below hb)
      clear hno hb HNO
      have hlc := HNC.out.2
      have hbl := HBN.out
      have HLN := Aside.mk (show (l.drop bn).length + (l.take bn).length ≤ 60 ∧ (l.drop bn).length ≤ 60 by rw [List.length_drop, List.length_take]; omega)
      rcases Nat.eq_zero_or_pos l.length with h0 | h0
      · have hb0 : bn = 0 := by omega
        subst hb0
        have hl0 := List.eq_nil_of_length_eq_zero h0
        obtain ⟨l1, hl1⟩ : ∃ l1 : List Rul, l1 = [] := ⟨_, rfl⟩
        obtain ⟨l2, hl2⟩ : ∃ l2 : List Rul, l2 = [] := ⟨_, rfl⟩
        have HE := Aside.mk (And.intro hl0 (And.intro hl1 hl2))
        have HLN : Aside (l2.length + l1.length ≤ 60 ∧ l2.length ≤ 60) := .mk (by rw [hl1, hl2]; exact ⟨by simp, by simp⟩)
        clear h0 hl0 hl1 hl2
        rcases A with _ | ⟨b, o, e⟩
        · have hc0 : c = 0 := HNC.out.1 rfl
          subst hc0
          have E2 : Aside (Value.slice none 0 0 = .slice none l2.length 0) := .mk (by rw [HE.out.2.2]; rfl)
          have E1 : Aside (Value.slice none 0 0 = .slice none l1.length 0) := .mk (by rw [HE.out.2.1]; rfl)
          have HN2 : Aside ((none : Option Addr) = none → 0 = 0) := .mk HNC.out.1
          have HN1 : Aside ((none : Option Addr) = none → 0 = 0) := .mk HNC.out.1
          have RD2 := Aside.mk (show Rd rulD wr none l2.length l2 by rw [HE.out.2.2]; exact Rd.nil _ _ _)
          have RD1 := Aside.mk (show Rd rulD wr none l1.length l1 by rw [HE.out.2.1]; exact Rd.nil _ _ _)
          go_wp2
          refine wp_region_facts_kl (Base := ptcB none 0 l l1 l2 0 (.slice none 0 0) (.slice none 0 0) wr) ptcQ ptcK (Fs := ptcF none 0 l l1 l2 0 (.slice none 0 0) (.slice none 0 0) wr) (by kernel_rfl) (by kernel_rfl) (by kernel_rfl) (by kernel_rfl) (below_drew (Below.refl _ _)) ?_ ?_
          ·
            have hBs := ptcB_stay none 0 l l1 l2 0 (.slice none 0 0) (.slice none 0 0) wr
            have hFs := ptcF_stay none 0 l l1 l2 0 (.slice none 0 0) (.slice none 0 0) wr
            refine ⟨?_, ?_, ?_, ?_, ?_, ?_, ?_, ?_, ?_, trivial⟩
            · refine step_pure hBs hFs rfl fun a' w' hB hag hp => ?_
              have h0 := hag 0 (by kernel_rfl)
              simp at h0
              unfold OpYields
              go_simp
              exact ⟨Below.refl _ _, rfl⟩
            · refine step_pure hBs hFs rfl fun a' w' hB hag hp => ?_
              have h1 := hag 1 (by kernel_rfl)
              simp at h1
              unfold OpYields
              go_simp
              exact ⟨Below.refl _ _, rfl⟩
            · refine step_pure hBs hFs rfl fun a' w' hB hag hp => ?_
              have h61 : a'.tmps.getD 61 undef = _ := hp 0 (by kernel_rfl)
              have h62 : a'.tmps.getD 62 undef = _ := hp 1 (by kernel_rfl)
              simp at h61 h62
              unfold OpYields
              go_simp
              exact ⟨Below.refl _ _, rfl⟩
            · refine step_pure hBs hFs rfl fun a' w' hB hag hp => ?_
              have h63 : a'.tmps.getD 63 undef = _ := hp 2 (by kernel_rfl)
              have hB0 : Below wr.heap.size wr w' := hB
              refine (yields_appRow (f := rulF) wr.heap.size (.const (.slice none 0 0)) (.tmp 63) _ _ _ _ rfl Try.underlying22 infoRul rfl (by decide) (.slice none 0 0) [] l2 none 0 rfl (by show a'.tmps.getD 63 undef = _; rw [h63, E2.out]) (fun _ => rfl) (Own.nil _ _ _ _) (RD2.out.below hB0) hB0.size (by have := HLN.out; (try simp); (try omega))).mono ?_
              rintro v w1 ⟨ho, hg, _⟩
              exact ⟨below_of_grown hg, ho⟩
            · refine step_pure hBs hFs rfl fun a' w' hB hag hp => ?_
              have h0 := hag 0 (by kernel_rfl)
              simp at h0
              unfold OpYields
              go_simp
              exact ⟨Below.refl _ _, rfl⟩
            · refine step_pure hBs hFs rfl fun a' w' hB hag hp => ?_
              have h1 := hag 1 (by kernel_rfl)
              simp at h1
              unfold OpYields
              go_simp
              exact ⟨Below.refl _ _, rfl⟩
            · refine step_pure hBs hFs rfl fun a' w' hB hag hp => ?_
              have h65 : a'.tmps.getD 65 undef = _ := hp 4 (by kernel_rfl)
              have h66 : a'.tmps.getD 66 undef = _ := hp 5 (by kernel_rfl)
              simp at h65 h66
              unfold OpYields
              go_simp
              exact ⟨Below.refl _ _, rfl⟩
            · intro a' w' hB hag hp
              rw [if_pos (by simp [Region.wanted])]
              have hB0 : Below wr.heap.size wr w' := hB
              have h64 : Own rulF w' wr.heap.size 33 (a'.tmps.getD 64 undef) l2 := hp 3 (by kernel_rfl)
              have h67 : a'.tmps.getD 67 undef = _ := hp 6 (by kernel_rfl)
              refine (yields_appRow (f := rulF) wr.heap.size (.tmp 64) (.tmp 67) _ _ _ _ rfl Try.underlying22 infoRul rfl (by decide) (a'.tmps.getD 64 undef) l2 l1 none 0 rfl (by show a'.tmps.getD 67 undef = _; rw [h67, E1.out]) (fun _ => rfl) h64 (RD1.out.below hB0) hB0.size (by have := HLN.out; omega)).mono ?_
              rintro v w1 ⟨ho, hg, _⟩
              refine ⟨below_own hB0 hg (fun k hk => ⟨(h64.lt k hk).1, (h64.lt k hk).2⟩), ho, ?_⟩
              intro j vs hj hjk hF
              unfold Fof at *
              match j, hj, hjk with
              | 0, _, _ => exact hF
              | 1, _, _ => exact hF
              | 2, _, _ => exact hF
              | 3, _, h => exact absurd rfl h
              | 4, _, _ => exact hF
              | 5, _, _ => exact hF
              | 6, _, _ => exact hF
              | 8, _, _ => exact hF
              | j + 9, _, _ => trivial
            · refine step_pure hBs hFs rfl fun a' w' hB hag hp => ?_
              have h68 := hp 7 (by kernel_rfl)
              replace h68 : _ := h68
              unfold OpYields
              go_simp
              refine ⟨Below.refl _ _, ?_⟩
              unfold Fof
              simp [ptcF, ptcQ, upd, keptVal, slotOf]
          intro vs w' hB hF
          simp only [AllF, forall_const, reduceCtorEq, false_implies, Fof, ptcF, ptcQ, ptcK, Nat.zero_add, Nat.reduceAdd, Nat.reduceEqDiff, if_true, if_false, List.getD_cons_succ, List.getD_cons_zero] at hF
          obtain ⟨f0, f1, f2, -, f4, f5, f6, f7, f8, -⟩ := hF
          simp only [putAll, Act.put, Nat.zero_add, Nat.reduceAdd, f0, f1, f2, f4, f5, f6, f7, f8, List.setIfInBounds_toArray, List.set_cons_zero, List.set_cons_succ]
          have hB' : Below wr.heap.size wr w' := hB
          obtain ⟨AM, cm, hvm, -, hrm⟩ := f7.rd
          have hnm := f7
          rw [hvm] at hnm
          have HNM := Aside.mk hnm.nilc2
          rw [hvm]
          have RM := Aside.mk hrm
          have RL := Aside.mk (HLr.out.below hB')
          have KB := Aside.mk (below_call KB.out hB')
          have hpm : l.Perm (l2 ++ l1) := by rw [HE.out.1, HE.out.2.1, HE.out.2.2]; exact .nil
          have hml := hpm.length_eq
          have HSO := Aside.mk (sortP_of_perm hpm)
          have F1 : Aside (firstI inn dst l = -1) := .mk (by rw [HE.out.1]; rfl)
          have F2 : Aside (firstI inn dst (l2 ++ l1) = -1) := .mk (by rw [HE.out.2.1, HE.out.2.2]; rfl)
          generalize l2 ++ l1 = m at *
          have HPM := Aside.mk hpm
          have HMF : m.length ≤ 60 := by omega
          clear hB hB' hrm hnm hvm f0 f1 f2 f4 f5 f6 f7 f8 HLr hml hpm
          go_wp2_with (first | (have hfl := HFL; clear hfl HFL; go_at_call 17; refine (first_any m AM cm inn dst _ RM.out).mono ?_; rw [F2.out]; rintro e w3 ⟨rfl, hb2⟩; have KB := Aside.mk (below_call KB.out hb2); have RL := Aside.mk (RL.out.below hb2); have RM := Aside.mk (RM.out.below hb2); clear hb2) | (go_at_call 17; refine (first_any l _ _ inn dst _ RL.out).mono ?_; rw [F1.out]; rintro e w2 ⟨rfl, hb2⟩; have KB := Aside.mk (below_call KB.out hb2); have RL := Aside.mk (RL.out.below hb2); have RM := Aside.mk (RM.out.below hb2); have HFL : Aside True := .mk trivial; clear hb2) | (have hfl := HFL2; clear hfl HFL2; go_at_call 15; refine (order_any m AM cm _ RM.out HNM.out (by omega)).mono ?_; rintro e w5 ⟨v2, rfl, ho, hb2⟩; obtain ⟨A2, k2', rfl, -, hr2⟩ := ho.rd; have R2 := Aside.mk hr2; have R1 := Aside.mk (R1.out.below hb2); have KB := Aside.mk (below_call KB.out hb2); have RL := Aside.mk (RL.out.below hb2); have RM := Aside.mk (RM.out.below hb2); clear ho hr2 hb2) | (go_at_call 15; refine (order_any l _ _ _ RL.out (by first | exact HNC.out.1 | exact fun _ => rfl) (by omega)).mono ?_; rw [HSO.out]; rintro e w4 ⟨v1, rfl, ho, hb2⟩; obtain ⟨A1, k1', rfl, -, hr1⟩ := ho.rd; have R1 := Aside.mk hr1; have KB := Aside.mk (below_call KB.out hb2); have RL := Aside.mk (RL.out.below hb2); have RM := Aside.mk (RM.out.below hb2); have HFL2 : Aside True := .mk trivial; clear ho hr1 hb2) | (go_at_call 14; refine (same08_any _ _ _ _ _ _ _ R1.out R2.out).mono ?_; rw [decide_eq_true rfl]; rintro e w6 ⟨rfl, hb2⟩; have KB := Aside.mk (below_call KB.out hb2); have RL := Aside.mk (RL.out.below hb2); have RM := Aside.mk (RM.out.below hb2); clear hb2))
          go_ret
          exact ⟨rfl, KB.out⟩
        ·
          have E2 : Aside (Value.slice (some ⟨b, o, e⟩) l.length c = .slice (some ⟨b, o, e⟩) l2.length c) := .mk (by rw [HE.out.1, HE.out.2.2])
          have E1 : Aside (Value.slice (some ⟨b, o, e⟩) 0 c = .slice (some ⟨b, o, e⟩) l1.length c) := .mk (by rw [HE.out.2.1]; rfl)
          have HN2 : Aside (((some ⟨b, o, e⟩) : Option Addr) = none → c = 0) := .mk HNC.out.1
          have HN1 : Aside (((some ⟨b, o, e⟩) : Option Addr) = none → c = 0) := .mk HNC.out.1
          have RD2 := Aside.mk (show Rd rulD wr (some ⟨b, o, e⟩) l2.length l2 by rw [HE.out.2.2]; exact Rd.nil _ _ _)
          have RD1 := Aside.mk (show Rd rulD wr (some ⟨b, o, e⟩) l1.length l1 by rw [HE.out.2.1]; exact Rd.nil _ _ _)
          go_wp2
          refine wp_region_facts_kl (Base := ptcB (some ⟨b, o, e⟩) c l l1 l2 0 (.slice (some ⟨b, o, e⟩) l.length c) (.slice (some ⟨b, o, e⟩) 0 c) wr) ptcQ ptcK (Fs := ptcF (some ⟨b, o, e⟩) c l l1 l2 0 (.slice (some ⟨b, o, e⟩) l.length c) (.slice (some ⟨b, o, e⟩) 0 c) wr) (by kernel_rfl) (by kernel_rfl) (by kernel_rfl) (by kernel_rfl) (below_drew (Below.refl _ _)) ?_ ?_
          ·
            have hBs := ptcB_stay (some ⟨b, o, e⟩) c l l1 l2 0 (.slice (some ⟨b, o, e⟩) l.length c) (.slice (some ⟨b, o, e⟩) 0 c) wr
            have hFs := ptcF_stay (some ⟨b, o, e⟩) c l l1 l2 0 (.slice (some ⟨b, o, e⟩) l.length c) (.slice (some ⟨b, o, e⟩) 0 c) wr
            refine ⟨?_, ?_, ?_, ?_, ?_, ?_, ?_, ?_, ?_, trivial⟩
            · refine step_pure hBs hFs rfl fun a' w' hB hag hp => ?_
              have h0 := hag 0 (by kernel_rfl)
              simp at h0
              unfold OpYields
              go_simp
              exact ⟨Below.refl _ _, rfl⟩
            · refine step_pure hBs hFs rfl fun a' w' hB hag hp => ?_
              have h1 := hag 1 (by kernel_rfl)
              simp at h1
              unfold OpYields
              go_simp
              exact ⟨Below.refl _ _, rfl⟩
            · refine step_pure hBs hFs rfl fun a' w' hB hag hp => ?_
              have h61 : a'.tmps.getD 61 undef = _ := hp 0 (by kernel_rfl)
              have h62 : a'.tmps.getD 62 undef = _ := hp 1 (by kernel_rfl)
              simp at h61 h62
              unfold OpYields
              go_simp
              exact ⟨Below.refl _ _, rfl⟩
            · refine step_pure hBs hFs rfl fun a' w' hB hag hp => ?_
              have h63 : a'.tmps.getD 63 undef = _ := hp 2 (by kernel_rfl)
              have hB0 : Below wr.heap.size wr w' := hB
              refine (yields_appRow (f := rulF) wr.heap.size (.const (.slice none 0 0)) (.tmp 63) _ _ _ _ rfl Try.underlying22 infoRul rfl (by decide) (.slice none 0 0) [] l2 (some ⟨b, o, e⟩) c rfl (by show a'.tmps.getD 63 undef = _; rw [h63, E2.out]) HN2.out (Own.nil _ _ _ _) (RD2.out.below hB0) hB0.size (by have := HLN.out; (try simp); (try omega))).mono ?_
              rintro v w1 ⟨ho, hg, _⟩
              exact ⟨below_of_grown hg, ho⟩
            · refine step_pure hBs hFs rfl fun a' w' hB hag hp => ?_
              have h0 := hag 0 (by kernel_rfl)
              simp at h0
              unfold OpYields
              go_simp
              exact ⟨Below.refl _ _, rfl⟩
            · refine step_pure hBs hFs rfl fun a' w' hB hag hp => ?_
              have h1 := hag 1 (by kernel_rfl)
              simp at h1
              unfold OpYields
              go_simp
              exact ⟨Below.refl _ _, rfl⟩
            · refine step_pure hBs hFs rfl fun a' w' hB hag hp => ?_
              have h65 : a'.tmps.getD 65 undef = _ := hp 4 (by kernel_rfl)
              have h66 : a'.tmps.getD 66 undef = _ := hp 5 (by kernel_rfl)
              simp at h65 h66
              unfold OpYields
              go_simp
              exact ⟨Below.refl _ _, rfl⟩
            · intro a' w' hB hag hp
              rw [if_pos (by simp [Region.wanted])]
              have hB0 : Below wr.heap.size wr w' := hB
              have h64 : Own rulF w' wr.heap.size 33 (a'.tmps.getD 64 undef) l2 := hp 3 (by kernel_rfl)
              have h67 : a'.tmps.getD 67 undef = _ := hp 6 (by kernel_rfl)
              refine (yields_appRow (f := rulF) wr.heap.size (.tmp 64) (.tmp 67) _ _ _ _ rfl Try.underlying22 infoRul rfl (by decide) (a'.tmps.getD 64 undef) l2 l1 (some ⟨b, o, e⟩) c rfl (by show a'.tmps.getD 67 undef = _; rw [h67, E1.out]) HN1.out h64 (RD1.out.below hB0) hB0.size (by have := HLN.out; omega)).mono ?_
              rintro v w1 ⟨ho, hg, _⟩
              refine ⟨below_own hB0 hg (fun k hk => ⟨(h64.lt k hk).1, (h64.lt k hk).2⟩), ho, ?_⟩
              intro j vs hj hjk hF
              unfold Fof at *
              match j, hj, hjk with
              | 0, _, _ => exact hF
              | 1, _, _ => exact hF
              | 2, _, _ => exact hF
              | 3, _, h => exact absurd rfl h
              | 4, _, _ => exact hF
              | 5, _, _ => exact hF
              | 6, _, _ => exact hF
              | 8, _, _ => exact hF
              | j + 9, _, _ => trivial
            · refine step_pure hBs hFs rfl fun a' w' hB hag hp => ?_
              have h68 := hp 7 (by kernel_rfl)
              replace h68 : _ := h68
              unfold OpYields
              go_simp
              refine ⟨Below.refl _ _, ?_⟩
              unfold Fof
              simp [ptcF, ptcQ, upd, keptVal, slotOf]
          intro vs w' hB hF
          simp only [AllF, forall_const, reduceCtorEq, false_implies, Fof, ptcF, ptcQ, ptcK, Nat.zero_add, Nat.reduceAdd, Nat.reduceEqDiff, if_true, if_false, List.getD_cons_succ, List.getD_cons_zero] at hF
          obtain ⟨f0, f1, f2, -, f4, f5, f6, f7, f8, -⟩ := hF
          simp only [putAll, Act.put, Nat.zero_add, Nat.reduceAdd, f0, f1, f2, f4, f5, f6, f7, f8, List.setIfInBounds_toArray, List.set_cons_zero, List.set_cons_succ]
          have hB' : Below wr.heap.size wr w' := hB
          obtain ⟨AM, cm, hvm, -, hrm⟩ := f7.rd
          have hnm := f7
          rw [hvm] at hnm
          have HNM := Aside.mk hnm.nilc2
          rw [hvm]
          have RM := Aside.mk hrm
          have RL := Aside.mk (HLr.out.below hB')
          have KB := Aside.mk (below_call KB.out hB')
          have hpm : l.Perm (l2 ++ l1) := by rw [HE.out.1, HE.out.2.1, HE.out.2.2]; exact .nil
          have hml := hpm.length_eq
          have HSO := Aside.mk (sortP_of_perm hpm)
          have F1 : Aside (firstI inn dst l = -1) := .mk (by rw [HE.out.1]; rfl)
          have F2 : Aside (firstI inn dst (l2 ++ l1) = -1) := .mk (by rw [HE.out.2.1, HE.out.2.2]; rfl)
          generalize l2 ++ l1 = m at *
          have HPM := Aside.mk hpm
          have HMF : m.length ≤ 60 := by omega
          clear hB hB' hrm hnm hvm f0 f1 f2 f4 f5 f6 f7 f8 HLr hml hpm
          go_wp2_with (first | (have hfl := HFL; clear hfl HFL; go_at_call 17; refine (first_any m AM cm inn dst _ RM.out).mono ?_; rw [F2.out]; rintro e w3 ⟨rfl, hb2⟩; have KB := Aside.mk (below_call KB.out hb2); have RL := Aside.mk (RL.out.below hb2); have RM := Aside.mk (RM.out.below hb2); clear hb2) | (go_at_call 17; refine (first_any l _ _ inn dst _ RL.out).mono ?_; rw [F1.out]; rintro e w2 ⟨rfl, hb2⟩; have KB := Aside.mk (below_call KB.out hb2); have RL := Aside.mk (RL.out.below hb2); have RM := Aside.mk (RM.out.below hb2); have HFL : Aside True := .mk trivial; clear hb2) | (have hfl := HFL2; clear hfl HFL2; go_at_call 15; refine (order_any m AM cm _ RM.out HNM.out (by omega)).mono ?_; rintro e w5 ⟨v2, rfl, ho, hb2⟩; obtain ⟨A2, k2', rfl, -, hr2⟩ := ho.rd; have R2 := Aside.mk hr2; have R1 := Aside.mk (R1.out.below hb2); have KB := Aside.mk (below_call KB.out hb2); have RL := Aside.mk (RL.out.below hb2); have RM := Aside.mk (RM.out.below hb2); clear ho hr2 hb2) | (go_at_call 15; refine (order_any l _ _ _ RL.out (by first | exact HNC.out.1 | exact fun _ => rfl) (by omega)).mono ?_; rw [HSO.out]; rintro e w4 ⟨v1, rfl, ho, hb2⟩; obtain ⟨A1, k1', rfl, -, hr1⟩ := ho.rd; have R1 := Aside.mk hr1; have KB := Aside.mk (below_call KB.out hb2); have RL := Aside.mk (RL.out.below hb2); have RM := Aside.mk (RM.out.below hb2); have HFL2 : Aside True := .mk trivial; clear ho hr1 hb2) | (go_at_call 14; refine (same08_any _ _ _ _ _ _ _ R1.out R2.out).mono ?_; rw [decide_eq_true rfl]; rintro e w6 ⟨rfl, hb2⟩; have KB := Aside.mk (below_call KB.out hb2); have RL := Aside.mk (RL.out.below hb2); have RM := Aside.mk (RM.out.below hb2); clear hb2))
          go_ret
          exact ⟨rfl, KB.out⟩
      · obtain ⟨b, o, _, rfl, -⟩ := Row.at HLr.out 0 h0
        by_cases hcq : c = bn
        · have hcq' := hcq.symm
          clear hcq
          subst hcq'
          have E2 := Aside.mk (show Value.slice (some ⟨b, o, none⟩) (l.length - bn) (bn - bn) = .slice (some ⟨b, o, none⟩) (l.drop bn).length (bn - bn) by rw [List.length_drop])
          have E1 := Aside.mk (show Value.slice (some ⟨b, o, none⟩) bn bn = .slice (some ⟨b, o, none⟩) (l.take bn).length bn by rw [List.length_take, Nat.min_eq_left HBN.out])
          have HN2 : Aside ((some ⟨b, o, none⟩ : Option Addr) = none → bn - bn = 0) := Aside.mk (fun h => by cases h)
          have HN1 : Aside ((some ⟨b, o, none⟩ : Option Addr) = none → bn = 0) := Aside.mk (fun h => by cases h)
          have RD2 := Aside.mk (show Rd rulD wr (some ⟨b, o, none⟩) (l.drop bn).length (l.drop bn) by rw [List.drop_eq_nil_of_le (by omega)]; exact Rd.nil _ _ _)
          have RD1 := Aside.mk (show Rd rulD wr (some ⟨b, o, none⟩) (l.take bn).length (l.take bn) by rw [List.length_take, Nat.min_eq_left HBN.out]; exact HLr.out.take HBN.out)
          go_wp2
          refine wp_region_facts_kl (Base := ptcB (some ⟨b, o, none⟩) bn l (l.take bn) (l.drop bn) bn (.slice (some ⟨b, o, none⟩) (l.length - bn) (bn - bn)) (.slice (some ⟨b, o, none⟩) bn bn) wr) ptcQ ptcK (Fs := ptcF (some ⟨b, o, none⟩) bn l (l.take bn) (l.drop bn) bn (.slice (some ⟨b, o, none⟩) (l.length - bn) (bn - bn)) (.slice (some ⟨b, o, none⟩) bn bn) wr) (by kernel_rfl) (by kernel_rfl) (by kernel_rfl) (by kernel_rfl) (below_drew (Below.refl _ _)) ?_ ?_
          ·
            have hBs := ptcB_stay (some ⟨b, o, none⟩) bn l (l.take bn) (l.drop bn) bn (.slice (some ⟨b, o, none⟩) (l.length - bn) (bn - bn)) (.slice (some ⟨b, o, none⟩) bn bn) wr
            have hFs := ptcF_stay (some ⟨b, o, none⟩) bn l (l.take bn) (l.drop bn) bn (.slice (some ⟨b, o, none⟩) (l.length - bn) (bn - bn)) (.slice (some ⟨b, o, none⟩) bn bn) wr
            refine ⟨?_, ?_, ?_, ?_, ?_, ?_, ?_, ?_, ?_, trivial⟩
            · refine step_pure hBs hFs rfl fun a' w' hB hag hp => ?_
              have h0 := hag 0 (by kernel_rfl)
              simp at h0
              unfold OpYields
              go_simp
              exact ⟨Below.refl _ _, rfl⟩
            · refine step_pure hBs hFs rfl fun a' w' hB hag hp => ?_
              have h1 := hag 1 (by kernel_rfl)
              simp at h1
              unfold OpYields
              go_simp
              exact ⟨Below.refl _ _, rfl⟩
            · refine step_pure hBs hFs rfl fun a' w' hB hag hp => ?_
              have h61 : a'.tmps.getD 61 undef = _ := hp 0 (by kernel_rfl)
              have h62 : a'.tmps.getD 62 undef = _ := hp 1 (by kernel_rfl)
              simp at h61 h62
              unfold OpYields
              go_simp
              exact ⟨Below.refl _ _, rfl⟩
            · refine step_pure hBs hFs rfl fun a' w' hB hag hp => ?_
              have h63 : a'.tmps.getD 63 undef = _ := hp 2 (by kernel_rfl)
              have hB0 : Below wr.heap.size wr w' := hB
              refine (yields_appRow (f := rulF) wr.heap.size (.const (.slice none 0 0)) (.tmp 63) _ _ _ _ rfl Try.underlying22 infoRul rfl (by decide) (.slice none 0 0) [] (l.drop bn) (some ⟨b, o, none⟩) (bn - bn) rfl (by show a'.tmps.getD 63 undef = _; rw [h63, E2.out]) HN2.out (Own.nil _ _ _ _) (RD2.out.below hB0) hB0.size (by have := HLN.out; (try simp); (try omega))).mono ?_
              rintro v w1 ⟨ho, hg, _⟩
              exact ⟨below_of_grown hg, ho⟩
            · refine step_pure hBs hFs rfl fun a' w' hB hag hp => ?_
              have h0 := hag 0 (by kernel_rfl)
              simp at h0
              unfold OpYields
              go_simp
              exact ⟨Below.refl _ _, rfl⟩
            · refine step_pure hBs hFs rfl fun a' w' hB hag hp => ?_
              have h1 := hag 1 (by kernel_rfl)
              simp at h1
              unfold OpYields
              go_simp
              exact ⟨Below.refl _ _, rfl⟩
            · refine step_pure hBs hFs rfl fun a' w' hB hag hp => ?_
              have h65 : a'.tmps.getD 65 undef = _ := hp 4 (by kernel_rfl)
              have h66 : a'.tmps.getD 66 undef = _ := hp 5 (by kernel_rfl)
              simp at h65 h66
              unfold OpYields
              go_simp
              exact ⟨Below.refl _ _, rfl⟩
            · intro a' w' hB hag hp
              rw [if_pos (by simp [Region.wanted])]
              have hB0 : Below wr.heap.size wr w' := hB
              have h64 : Own rulF w' wr.heap.size 33 (a'.tmps.getD 64 undef) (l.drop bn) := hp 3 (by kernel_rfl)
              have h67 : a'.tmps.getD 67 undef = _ := hp 6 (by kernel_rfl)
              refine (yields_appRow (f := rulF) wr.heap.size (.tmp 64) (.tmp 67) _ _ _ _ rfl Try.underlying22 infoRul rfl (by decide) (a'.tmps.getD 64 undef) (l.drop bn) (l.take bn) (some ⟨b, o, none⟩) bn rfl (by show a'.tmps.getD 67 undef = _; rw [h67, E1.out]) HN1.out h64 (RD1.out.below hB0) hB0.size (by have := HLN.out; omega)).mono ?_
              rintro v w1 ⟨ho, hg, _⟩
              refine ⟨below_own hB0 hg (fun k hk => ⟨(h64.lt k hk).1, (h64.lt k hk).2⟩), ho, ?_⟩
              intro j vs hj hjk hF
              unfold Fof at *
              match j, hj, hjk with
              | 0, _, _ => exact hF
              | 1, _, _ => exact hF
              | 2, _, _ => exact hF
              | 3, _, h => exact absurd rfl h
              | 4, _, _ => exact hF
              | 5, _, _ => exact hF
              | 6, _, _ => exact hF
              | 8, _, _ => exact hF
              | j + 9, _, _ => trivial
            · refine step_pure hBs hFs rfl fun a' w' hB hag hp => ?_
              have h68 := hp 7 (by kernel_rfl)
              replace h68 : _ := h68
              unfold OpYields
              go_simp
              refine ⟨Below.refl _ _, ?_⟩
              unfold Fof
              simp [ptcF, ptcQ, upd, keptVal, slotOf]
          intro vs w' hB hF
          simp only [AllF, forall_const, reduceCtorEq, false_implies, Fof, ptcF, ptcQ, ptcK, Nat.zero_add, Nat.reduceAdd, Nat.reduceEqDiff, if_true, if_false, List.getD_cons_succ, List.getD_cons_zero] at hF
          obtain ⟨f0, f1, f2, -, f4, f5, f6, f7, f8, -⟩ := hF
          simp only [putAll, Act.put, Nat.zero_add, Nat.reduceAdd, f0, f1, f2, f4, f5, f6, f7, f8, List.setIfInBounds_toArray, List.set_cons_zero, List.set_cons_succ]
          have hB' : Below wr.heap.size wr w' := hB
          obtain ⟨AM, cm, hvm, -, hrm⟩ := f7.rd
          have hnm := f7
          rw [hvm] at hnm
          have HNM := Aside.mk hnm.nilc2
          rw [hvm]
          have RM := Aside.mk hrm
          have RL := Aside.mk (HLr.out.below hB')
          have KB := Aside.mk (below_call KB.out hB')
          have hpm := turned_perm l bn
          have hml := hpm.length_eq
          have HSO := Aside.mk (sortP_of_perm hpm)
          generalize l.drop bn ++ l.take bn = m at *
          have HPM := Aside.mk hpm
          have HMF : m.length ≤ 60 := by omega
          clear hB hB' hrm hnm hvm f0 f1 f2 f4 f5 f6 f7 f8 HLr hml hpm
          rcases first_cases inn dst l with ⟨h1, h2⟩ | ⟨j, x, h1, hj, h3, h2⟩
          · rcases first_cases inn dst m with ⟨g1, g2⟩ | ⟨jm, y, g1, gj, g3, g2⟩
            · have F1 := Aside.mk h1
              have F2 := Aside.mk g1
              clear h1 h2 g1 g2
              go_wp2_with (first | (have hfl := HFL; clear hfl HFL; go_at_call 17; refine (first_any m AM cm inn dst _ RM.out).mono ?_; rw [F2.out]; rintro e w3 ⟨rfl, hb2⟩; have KB := Aside.mk (below_call KB.out hb2); have RL := Aside.mk (RL.out.below hb2); have RM := Aside.mk (RM.out.below hb2); clear hb2) | (go_at_call 17; refine (first_any l _ _ inn dst _ RL.out).mono ?_; rw [F1.out]; rintro e w2 ⟨rfl, hb2⟩; have KB := Aside.mk (below_call KB.out hb2); have RL := Aside.mk (RL.out.below hb2); have RM := Aside.mk (RM.out.below hb2); have HFL : Aside True := .mk trivial; clear hb2) | (have hfl := HFL2; clear hfl HFL2; go_at_call 15; refine (order_any m AM cm _ RM.out HNM.out (by omega)).mono ?_; rintro e w5 ⟨v2, rfl, ho, hb2⟩; obtain ⟨A2, k2', rfl, -, hr2⟩ := ho.rd; have R2 := Aside.mk hr2; have R1 := Aside.mk (R1.out.below hb2); have KB := Aside.mk (below_call KB.out hb2); have RL := Aside.mk (RL.out.below hb2); have RM := Aside.mk (RM.out.below hb2); clear ho hr2 hb2) | (go_at_call 15; refine (order_any l _ _ _ RL.out (by first | exact HNC.out.1 | exact fun _ => rfl) (by omega)).mono ?_; rw [HSO.out]; rintro e w4 ⟨v1, rfl, ho, hb2⟩; obtain ⟨A1, k1', rfl, -, hr1⟩ := ho.rd; have R1 := Aside.mk hr1; have KB := Aside.mk (below_call KB.out hb2); have RL := Aside.mk (RL.out.below hb2); have RM := Aside.mk (RM.out.below hb2); have HFL2 : Aside True := .mk trivial; clear ho hr1 hb2) | (go_at_call 14; refine (same08_any _ _ _ _ _ _ _ R1.out R2.out).mono ?_; rw [decide_eq_true rfl]; rintro e w6 ⟨rfl, hb2⟩; have KB := Aside.mk (below_call KB.out hb2); have RL := Aside.mk (RL.out.below hb2); have RM := Aside.mk (RM.out.below hb2); clear hb2))
              go_ret
              exact ⟨rfl, KB.out⟩
            · rw [(eltB_any HPM.out).1.1 h2] at g2
              cases g2
          · rcases first_cases inn dst m with ⟨g1, g2⟩ | ⟨jm, y, g1, gj, g3, g2⟩
            · rw [(eltB_any HPM.out).1.2 g2] at h2
              cases h2
            · have hxy := turned_elt HPM.out HNA.out h2 g2
              subst hxy
              have F1 := Aside.mk h1
              have F2 := Aside.mk g1
              have G1 := Aside.mk h3
              have G2 := Aside.mk g3
              have hq2 : ∀ w, (Op.equalIn 10000 33 (rulV x) (rulV x)).run Try.prog w = .ok true w := fun w => (eqRul w x x).trans (by rw [decide_eq_true rfl])
              have k1 : decide ((j : Int) < 0) = false := decide_eq_false (by omega)
              have k2 : decide ((jm : Int) < 0) = false := decide_eq_false (by omega)
              have k3 : decide ((l.length : Int) ≤ (j : Int)) = false := decide_eq_false (by omega)
              have k4 : decide ((m.length : Int) ≤ (jm : Int)) = false := decide_eq_false (by omega)
              have k5 : ¬ l.length ≤ j := by omega
              have k6 : ¬ m.length ≤ jm := by omega
              clear h1 h2 g1 g2 h3 g3 hq
              go_wp2_with (first | (have hfl := HFL; clear hfl HFL; go_at_call 17; refine (first_any m AM cm inn dst _ RM.out).mono ?_; rw [F2.out]; rintro e w3 ⟨rfl, hb2⟩; have KB := Aside.mk (below_call KB.out hb2); have RL := Aside.mk (RL.out.below hb2); have RM := Aside.mk (RM.out.below hb2); clear hb2) | (go_at_call 17; refine (first_any l _ _ inn dst _ RL.out).mono ?_; rw [F1.out]; rintro e w2 ⟨rfl, hb2⟩; have KB := Aside.mk (below_call KB.out hb2); have RL := Aside.mk (RL.out.below hb2); have RM := Aside.mk (RM.out.below hb2); have HFL : Aside True := .mk trivial; clear hb2) | (have hfl := HFL2; clear hfl HFL2; go_at_call 15; refine (order_any m AM cm _ RM.out HNM.out (by omega)).mono ?_; rintro e w5 ⟨v2, rfl, ho, hb2⟩; obtain ⟨A2, k2', rfl, -, hr2⟩ := ho.rd; have R2 := Aside.mk hr2; have R1 := Aside.mk (R1.out.below hb2); have KB := Aside.mk (below_call KB.out hb2); have RL := Aside.mk (RL.out.below hb2); have RM := Aside.mk (RM.out.below hb2); clear ho hr2 hb2) | (go_at_call 15; refine (order_any l _ _ _ RL.out (by first | exact HNC.out.1 | exact fun _ => rfl) (by omega)).mono ?_; rw [HSO.out]; rintro e w4 ⟨v1, rfl, ho, hb2⟩; obtain ⟨A1, k1', rfl, -, hr1⟩ := ho.rd; have R1 := Aside.mk hr1; have KB := Aside.mk (below_call KB.out hb2); have RL := Aside.mk (RL.out.below hb2); have RM := Aside.mk (RM.out.below hb2); have HFL2 : Aside True := .mk trivial; clear ho hr1 hb2) | (go_at_call 14; refine (same08_any _ _ _ _ _ _ _ R1.out R2.out).mono ?_; rw [decide_eq_true rfl]; rintro e w6 ⟨rfl, hb2⟩; have KB := Aside.mk (below_call KB.out hb2); have RL := Aside.mk (RL.out.below hb2); have RM := Aside.mk (RM.out.below hb2); clear hb2))
              obtain ⟨b1, o1, _, hab, -⟩ := Row.at RL.out j hj
              obtain ⟨b2, o2, _, hab2, -⟩ := Row.at RM.out jm gj
              first | subst hab | (injection hab with hab; injection hab with e1 e2 e3; subst e1 e2)
              subst hab2
              obtain ⟨-, p0, p1, p2, p3, p4, p5⟩ := rul_cells (c := 0) RL.out (Below.refl _ _) hj
              obtain ⟨-, q0, q1, q2, q3, q4, q5⟩ := rul_cells (c := cm) RM.out (Below.refl _ _) gj
              have e1 : l[j]'hj = x := (List.getElem?_eq_some_iff.1 G1.out).2
              have e2 : m[jm]'gj = x := (List.getElem?_eq_some_iff.1 G2.out).2
              rw [e1] at p0 p1 p2 p3 p4 p5
              rw [e2] at q0 q1 q2 q3 q4 q5
              clear e1 e2
              go_quiet (fail)
              go_wp2
              go_ret
              exact ⟨rfl, below_drewN KB.out _⟩
        · skip
          have hcq2 : ¬ c - bn = 0 := by omega
          have hbc : bn ≤ c := by omega
          have E2 := Aside.mk (show Value.slice (some ⟨b, o + bn * 6, none⟩) (l.length - bn) (c - bn) = .slice (some ⟨b, o + bn * 6, none⟩) (l.drop bn).length (c - bn) by rw [List.length_drop])
          have E1 := Aside.mk (show Value.slice (some ⟨b, o, none⟩) bn c = .slice (some ⟨b, o, none⟩) (l.take bn).length c by rw [List.length_take, Nat.min_eq_left HBN.out])
          have HN2 : Aside ((some ⟨b, o + bn * 6, none⟩ : Option Addr) = none → c - bn = 0) := Aside.mk (fun h => by cases h)
          have HN1 : Aside ((some ⟨b, o, none⟩ : Option Addr) = none → c = 0) := Aside.mk (fun h => by cases h)
          have RD2 := Aside.mk (show Rd rulD wr (some ⟨b, o + bn * 6, none⟩) (l.drop bn).length (l.drop bn) by rw [List.length_drop]; exact HLr.out.drop HBN.out)
          have RD1 := Aside.mk (show Rd rulD wr (some ⟨b, o, none⟩) (l.take bn).length (l.take bn) by rw [List.length_take, Nat.min_eq_left HBN.out]; exact HLr.out.take HBN.out)
          go_wp2
          refine wp_region_facts_kl (Base := ptcB (some ⟨b, o, none⟩) c l (l.take bn) (l.drop bn) bn (.slice (some ⟨b, o + bn * 6, none⟩) (l.length - bn) (c - bn)) (.slice (some ⟨b, o, none⟩) bn c) wr) ptcQ ptcK (Fs := ptcF (some ⟨b, o, none⟩) c l (l.take bn) (l.drop bn) bn (.slice (some ⟨b, o + bn * 6, none⟩) (l.length - bn) (c - bn)) (.slice (some ⟨b, o, none⟩) bn c) wr) (by kernel_rfl) (by kernel_rfl) (by kernel_rfl) (by kernel_rfl) (below_drew (Below.refl _ _)) ?_ ?_
          ·
            have hBs := ptcB_stay (some ⟨b, o, none⟩) c l (l.take bn) (l.drop bn) bn (.slice (some ⟨b, o + bn * 6, none⟩) (l.length - bn) (c - bn)) (.slice (some ⟨b, o, none⟩) bn c) wr
            have hFs := ptcF_stay (some ⟨b, o, none⟩) c l (l.take bn) (l.drop bn) bn (.slice (some ⟨b, o + bn * 6, none⟩) (l.length - bn) (c - bn)) (.slice (some ⟨b, o, none⟩) bn c) wr
            refine ⟨?_, ?_, ?_, ?_, ?_, ?_, ?_, ?_, ?_, trivial⟩
            · refine step_pure hBs hFs rfl fun a' w' hB hag hp => ?_
              have h0 := hag 0 (by kernel_rfl)
              simp at h0
              unfold OpYields
              go_simp
              exact ⟨Below.refl _ _, rfl⟩
            · refine step_pure hBs hFs rfl fun a' w' hB hag hp => ?_
              have h1 := hag 1 (by kernel_rfl)
              simp at h1
              unfold OpYields
              go_simp
              exact ⟨Below.refl _ _, rfl⟩
            · refine step_pure hBs hFs rfl fun a' w' hB hag hp => ?_
              have h61 : a'.tmps.getD 61 undef = _ := hp 0 (by kernel_rfl)
              have h62 : a'.tmps.getD 62 undef = _ := hp 1 (by kernel_rfl)
              simp at h61 h62
              unfold OpYields
              go_simp
              exact ⟨Below.refl _ _, rfl⟩
            · refine step_pure hBs hFs rfl fun a' w' hB hag hp => ?_
              have h63 : a'.tmps.getD 63 undef = _ := hp 2 (by kernel_rfl)
              have hB0 : Below wr.heap.size wr w' := hB
              refine (yields_appRow (f := rulF) wr.heap.size (.const (.slice none 0 0)) (.tmp 63) _ _ _ _ rfl Try.underlying22 infoRul rfl (by decide) (.slice none 0 0) [] (l.drop bn) (some ⟨b, o + bn * 6, none⟩) (c - bn) rfl (by show a'.tmps.getD 63 undef = _; rw [h63, E2.out]) HN2.out (Own.nil _ _ _ _) (RD2.out.below hB0) hB0.size (by have := HLN.out; (try simp); (try omega))).mono ?_
              rintro v w1 ⟨ho, hg, _⟩
              exact ⟨below_of_grown hg, ho⟩
            · refine step_pure hBs hFs rfl fun a' w' hB hag hp => ?_
              have h0 := hag 0 (by kernel_rfl)
              simp at h0
              unfold OpYields
              go_simp
              exact ⟨Below.refl _ _, rfl⟩
            · refine step_pure hBs hFs rfl fun a' w' hB hag hp => ?_
              have h1 := hag 1 (by kernel_rfl)
              simp at h1
              unfold OpYields
              go_simp
              exact ⟨Below.refl _ _, rfl⟩
            · refine step_pure hBs hFs rfl fun a' w' hB hag hp => ?_
              have h65 : a'.tmps.getD 65 undef = _ := hp 4 (by kernel_rfl)
              have h66 : a'.tmps.getD 66 undef = _ := hp 5 (by kernel_rfl)
              simp at h65 h66
              unfold OpYields
              go_simp
              exact ⟨Below.refl _ _, rfl⟩
            · intro a' w' hB hag hp
              rw [if_pos (by simp [Region.wanted])]
              have hB0 : Below wr.heap.size wr w' := hB
              have h64 : Own rulF w' wr.heap.size 33 (a'.tmps.getD 64 undef) (l.drop bn) := hp 3 (by kernel_rfl)
              have h67 : a'.tmps.getD 67 undef = _ := hp 6 (by kernel_rfl)
              refine (yields_appRow (f := rulF) wr.heap.size (.tmp 64) (.tmp 67) _ _ _ _ rfl Try.underlying22 infoRul rfl (by decide) (a'.tmps.getD 64 undef) (l.drop bn) (l.take bn) (some ⟨b, o, none⟩) c rfl (by show a'.tmps.getD 67 undef = _; rw [h67, E1.out]) HN1.out h64 (RD1.out.below hB0) hB0.size (by have := HLN.out; omega)).mono ?_
              rintro v w1 ⟨ho, hg, _⟩
              refine ⟨below_own hB0 hg (fun k hk => ⟨(h64.lt k hk).1, (h64.lt k hk).2⟩), ho, ?_⟩
              intro j vs hj hjk hF
              unfold Fof at *
              match j, hj, hjk with
              | 0, _, _ => exact hF
              | 1, _, _ => exact hF
              | 2, _, _ => exact hF
              | 3, _, h => exact absurd rfl h
              | 4, _, _ => exact hF
              | 5, _, _ => exact hF
              | 6, _, _ => exact hF
              | 8, _, _ => exact hF
              | j + 9, _, _ => trivial
            · refine step_pure hBs hFs rfl fun a' w' hB hag hp => ?_
              have h68 := hp 7 (by kernel_rfl)
              replace h68 : _ := h68
              unfold OpYields
              go_simp
              refine ⟨Below.refl _ _, ?_⟩
              unfold Fof
              simp [ptcF, ptcQ, upd, keptVal, slotOf]
          intro vs w' hB hF
          simp only [AllF, forall_const, reduceCtorEq, false_implies, Fof, ptcF, ptcQ, ptcK, Nat.zero_add, Nat.reduceAdd, Nat.reduceEqDiff, if_true, if_false, List.getD_cons_succ, List.getD_cons_zero] at hF
          obtain ⟨f0, f1, f2, -, f4, f5, f6, f7, f8, -⟩ := hF
          simp only [putAll, Act.put, Nat.zero_add, Nat.reduceAdd, f0, f1, f2, f4, f5, f6, f7, f8, List.setIfInBounds_toArray, List.set_cons_zero, List.set_cons_succ]
          have hB' : Below wr.heap.size wr w' := hB
          obtain ⟨AM, cm, hvm, -, hrm⟩ := f7.rd
          have hnm := f7
          rw [hvm] at hnm
          have HNM := Aside.mk hnm.nilc2
          rw [hvm]
          have RM := Aside.mk hrm
          have RL := Aside.mk (HLr.out.below hB')
          have KB := Aside.mk (below_call KB.out hB')
          have hpm := turned_perm l bn
          have hml := hpm.length_eq
          have HSO := Aside.mk (sortP_of_perm hpm)
          generalize l.drop bn ++ l.take bn = m at *
          have HPM := Aside.mk hpm
          have HMF : m.length ≤ 60 := by omega
          clear hB hB' hrm hnm hvm f0 f1 f2 f4 f5 f6 f7 f8 HLr hml hpm
          rcases first_cases inn dst l with ⟨h1, h2⟩ | ⟨j, x, h1, hj, h3, h2⟩
          · rcases first_cases inn dst m with ⟨g1, g2⟩ | ⟨jm, y, g1, gj, g3, g2⟩
            · have F1 := Aside.mk h1
              have F2 := Aside.mk g1
              clear h1 h2 g1 g2
              go_wp2_with (first | (have hfl := HFL; clear hfl HFL; go_at_call 17; refine (first_any m AM cm inn dst _ RM.out).mono ?_; rw [F2.out]; rintro e w3 ⟨rfl, hb2⟩; have KB := Aside.mk (below_call KB.out hb2); have RL := Aside.mk (RL.out.below hb2); have RM := Aside.mk (RM.out.below hb2); clear hb2) | (go_at_call 17; refine (first_any l _ _ inn dst _ RL.out).mono ?_; rw [F1.out]; rintro e w2 ⟨rfl, hb2⟩; have KB := Aside.mk (below_call KB.out hb2); have RL := Aside.mk (RL.out.below hb2); have RM := Aside.mk (RM.out.below hb2); have HFL : Aside True := .mk trivial; clear hb2) | (have hfl := HFL2; clear hfl HFL2; go_at_call 15; refine (order_any m AM cm _ RM.out HNM.out (by omega)).mono ?_; rintro e w5 ⟨v2, rfl, ho, hb2⟩; obtain ⟨A2, k2', rfl, -, hr2⟩ := ho.rd; have R2 := Aside.mk hr2; have R1 := Aside.mk (R1.out.below hb2); have KB := Aside.mk (below_call KB.out hb2); have RL := Aside.mk (RL.out.below hb2); have RM := Aside.mk (RM.out.below hb2); clear ho hr2 hb2) | (go_at_call 15; refine (order_any l _ _ _ RL.out (by first | exact HNC.out.1 | exact fun _ => rfl) (by omega)).mono ?_; rw [HSO.out]; rintro e w4 ⟨v1, rfl, ho, hb2⟩; obtain ⟨A1, k1', rfl, -, hr1⟩ := ho.rd; have R1 := Aside.mk hr1; have KB := Aside.mk (below_call KB.out hb2); have RL := Aside.mk (RL.out.below hb2); have RM := Aside.mk (RM.out.below hb2); have HFL2 : Aside True := .mk trivial; clear ho hr1 hb2) | (go_at_call 14; refine (same08_any _ _ _ _ _ _ _ R1.out R2.out).mono ?_; rw [decide_eq_true rfl]; rintro e w6 ⟨rfl, hb2⟩; have KB := Aside.mk (below_call KB.out hb2); have RL := Aside.mk (RL.out.below hb2); have RM := Aside.mk (RM.out.below hb2); clear hb2))
              go_ret
              exact ⟨rfl, KB.out⟩
            · rw [(eltB_any HPM.out).1.1 h2] at g2
              cases g2
          · rcases first_cases inn dst m with ⟨g1, g2⟩ | ⟨jm, y, g1, gj, g3, g2⟩
            · rw [(eltB_any HPM.out).1.2 g2] at h2
              cases h2
            · have hxy := turned_elt HPM.out HNA.out h2 g2
              subst hxy
              have F1 := Aside.mk h1
              have F2 := Aside.mk g1
              have G1 := Aside.mk h3
              have G2 := Aside.mk g3
              have hq2 : ∀ w, (Op.equalIn 10000 33 (rulV x) (rulV x)).run Try.prog w = .ok true w := fun w => (eqRul w x x).trans (by rw [decide_eq_true rfl])
              have k1 : decide ((j : Int) < 0) = false := decide_eq_false (by omega)
              have k2 : decide ((jm : Int) < 0) = false := decide_eq_false (by omega)
              have k3 : decide ((l.length : Int) ≤ (j : Int)) = false := decide_eq_false (by omega)
              have k4 : decide ((m.length : Int) ≤ (jm : Int)) = false := decide_eq_false (by omega)
              have k5 : ¬ l.length ≤ j := by omega
              have k6 : ¬ m.length ≤ jm := by omega
              clear h1 h2 g1 g2 h3 g3 hq
              go_wp2_with (first | (have hfl := HFL; clear hfl HFL; go_at_call 17; refine (first_any m AM cm inn dst _ RM.out).mono ?_; rw [F2.out]; rintro e w3 ⟨rfl, hb2⟩; have KB := Aside.mk (below_call KB.out hb2); have RL := Aside.mk (RL.out.below hb2); have RM := Aside.mk (RM.out.below hb2); clear hb2) | (go_at_call 17; refine (first_any l _ _ inn dst _ RL.out).mono ?_; rw [F1.out]; rintro e w2 ⟨rfl, hb2⟩; have KB := Aside.mk (below_call KB.out hb2); have RL := Aside.mk (RL.out.below hb2); have RM := Aside.mk (RM.out.below hb2); have HFL : Aside True := .mk trivial; clear hb2) | (have hfl := HFL2; clear hfl HFL2; go_at_call 15; refine (order_any m AM cm _ RM.out HNM.out (by omega)).mono ?_; rintro e w5 ⟨v2, rfl, ho, hb2⟩; obtain ⟨A2, k2', rfl, -, hr2⟩ := ho.rd; have R2 := Aside.mk hr2; have R1 := Aside.mk (R1.out.below hb2); have KB := Aside.mk (below_call KB.out hb2); have RL := Aside.mk (RL.out.below hb2); have RM := Aside.mk (RM.out.below hb2); clear ho hr2 hb2) | (go_at_call 15; refine (order_any l _ _ _ RL.out (by first | exact HNC.out.1 | exact fun _ => rfl) (by omega)).mono ?_; rw [HSO.out]; rintro e w4 ⟨v1, rfl, ho, hb2⟩; obtain ⟨A1, k1', rfl, -, hr1⟩ := ho.rd; have R1 := Aside.mk hr1; have KB := Aside.mk (below_call KB.out hb2); have RL := Aside.mk (RL.out.below hb2); have RM := Aside.mk (RM.out.below hb2); have HFL2 : Aside True := .mk trivial; clear ho hr1 hb2) | (go_at_call 14; refine (same08_any _ _ _ _ _ _ _ R1.out R2.out).mono ?_; rw [decide_eq_true rfl]; rintro e w6 ⟨rfl, hb2⟩; have KB := Aside.mk (below_call KB.out hb2); have RL := Aside.mk (RL.out.below hb2); have RM := Aside.mk (RM.out.below hb2); clear hb2))
              obtain ⟨b1, o1, _, hab, -⟩ := Row.at RL.out j hj
              obtain ⟨b2, o2, _, hab2, -⟩ := Row.at RM.out jm gj
              first | subst hab | (injection hab with hab; injection hab with e1 e2 e3; subst e1 e2)
              subst hab2
              obtain ⟨-, p0, p1, p2, p3, p4, p5⟩ := rul_cells (c := 0) RL.out (Below.refl _ _) hj
              obtain ⟨-, q0, q1, q2, q3, q4, q5⟩ := rul_cells (c := cm) RM.out (Below.refl _ _) gj
              have e1 : l[j]'hj = x := (List.getElem?_eq_some_iff.1 G1.out).2
              have e2 : m[jm]'gj = x := (List.getElem?_eq_some_iff.1 G2.out).2
              rw [e1] at p0 p1 p2 p3 p4 p5
              rw [e2] at q0 q1 q2 q3 q4 q5
              clear e1 e2
              go_quiet (fail)
              go_wp2
              go_ret
              exact ⟨rfl, below_drewN KB.out _⟩
theorem pickTurned_walk (A : Option Addr) (c : Nat) (l : List Rul) (by_ inn dst : Int) (w : World) (hl : Rd rulD w A l.length l) (hF : ∀ r ∈ l, FitR8 r) (hnc : (A = none → c = 0) ∧ l.length ≤ c) (hby : Fit by_) (hi : Fit inn) (hd : Fit dst) : Calls Try.prog 6 #[.slice A l.length c, .int .i64 by_, .int .i64 inn, .int .i64 dst] w fun e w' => e = .returned (.bool true) ∧ Below w.heap.size w w' := by
  by_cases h60 : l.length ≤ 60
  · by_cases hoff : by_ < 0 ∨ (l.length : Int) < by_
    · exact pickTurned_off A c l by_ inn dst w hl hF hnc hby hi hd h60 hoff
    · exact pickTurned_main A c l by_ inn dst w hl hF hnc hby hi hd h60 by_.toNat (by omega) (by omega)
  · exact pickTurned_big A c l by_ inn dst w hl hF hnc hby hi hd h60
end Go.Proofs.Ytlpobpciiaofeaa
