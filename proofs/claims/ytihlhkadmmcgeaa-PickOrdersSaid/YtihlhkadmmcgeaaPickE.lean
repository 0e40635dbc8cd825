/- The walk through PickOrders. -/
import Derived.Test.YtihlhkadmmcgeaaSortK
import Derived.Test.YtihlhkadmmcgeaaPickQ
import Derived.Test.YtihlhkadmmcgeaaPickO
namespace Go.Proofs.Ytihlhkadmmcgeaa
open Go.RowKit
set_option maxRecDepth 100000
def pogB (x y : Rul) (b o c n g og m vc j i : Nat) (wr : World) (w' : World) : Prop :=
  Below wr.heap.size wr w'
def pogF (x y : Rul) (b o c n g og m vc j i : Nat) (wr : World) : List (Value → Value → World → Prop) :=
  [fun _ v _ => v = .int .i64 j,
   fun _ v _ => v = .bool true,
   fun _ v _ => v = .bool true,
   fun _ v _ => v = .int .i64 j,
   fun _ v _ => v = .slice (some ⟨b, o, none⟩) n c,
   fun _ v _ => v = .int .i64 n,
   fun _ v _ => v = .bool true,
   fun _ v _ => v = .bool true,
   fun _ v _ => v = .bool true,
   fun _ v _ => v = .slice (some ⟨b, o, none⟩) n c,
   fun _ v _ => v = .int .i64 j,
   fun _ v _ => v = .pointer (some ⟨b, o + j * 6, none⟩),
   fun _ v _ => v = rulV x,
   fun _ v _ => v = .slice (some ⟨g, og, none⟩) m vc,
   fun _ v _ => v = .int .i64 i,
   fun _ v _ => v = .pointer (some ⟨g, og + i * 6, none⟩),
   fun _ v _ => v = rulV y,
   fun _ v _ => v = .bool false,
   fun _ v _ => v = .bool true,
   fun _ v _ => v = .bool true,
   fun _ v _ => v = .bool true,
   fun _ v _ => v = .slice (some ⟨g, og, none⟩) m vc,
   fun _ v _ => v = .int .i64 i,
   fun _ v _ => v = .pointer (some ⟨g, og + i * 6, none⟩),
   fun _ v _ => v = rulV y,
   fun _ v _ => v = .slice (some ⟨b, o, none⟩) n c,
   fun _ v _ => v = .int .i64 j,
   fun _ v _ => v = .pointer (some ⟨b, o + j * 6, none⟩),
   fun _ v _ => v = rulV x,
   fun _ v _ => v = .bool false,
   fun _ v _ => v = .bool true,
   fun _ v _ => v = .bool true,
   fun _ v _ => v = .bool true]
def pogQ : Nat → Nat := fun i => i
theorem pogF_stay (x y : Rul) (b o c n g og m vc j i : Nat) (wr : World) : AllStay (pogF x y b o c n g og m vc j i wr) := by
  intro F hF u v w' w'' hb h
  simp only [pogF, List.mem_cons, List.not_mem_nil, or_false] at hF
  rcases hF with rfl | rfl | rfl | rfl | rfl | rfl | rfl | rfl | rfl | rfl | rfl | rfl | rfl | rfl | rfl | rfl | rfl | rfl | rfl | rfl | rfl | rfl | rfl | rfl | rfl | rfl | rfl | rfl | rfl | rfl | rfl | rfl | rfl
  · exact h
  · exact h
  · exact h
  · exact h
  · exact h
  · exact h
  · exact h
  · exact h
  · exact h
  · exact h
  · exact h
  · exact h
  · exact h
  · exact h
  · exact h
  · exact h
  · exact h
  · exact h
  · exact h
  · exact h
  · exact h
  · exact h
  · exact h
  · exact h
  · exact h
  · exact h
  · exact h
  · exact h
  · exact h
  · exact h
  · exact h
  · exact h
  · exact h
theorem pogB_stay (x y : Rul) (b o c n g og m vc j i : Nat) (wr : World) : Stays (pogB x y b o c n g og m vc j i wr) := by
  intro w' w'' hb h
  exact below_call h hb
theorem Own.nilc {α : Type} {f : Flat α} {w : World} {base : Nat} {e : TypeId} {A : Option Addr} {n c : Nat} {xs : List α} (h : Own f w base e (.slice A n c) xs) : A = none → c = 0 := by
  intro hA
  rcases h.2 with ⟨h2, -⟩ | ⟨g, cap, cur, hv, _⟩
  · injection h2
  · rw [hA] at hv; injection hv with hv; cases hv
/-- How often a rule stands in a list. -/
def cntE (l : List Rul) (x : Rul) : Nat := (l.filter fun r => decide (r = x)).length
theorem cntE_take {l : List Rul} {k : Nat} (h : k < l.length) (x : Rul) : cntE (l.take (k + 1)) x = cntE (l.take k) x + if l[k] = x then 1 else 0 := by
  unfold cntE
  rw [List.take_succ_eq_append_getElem h, List.filter_append, List.length_append]
  by_cases hx : l[k] = x <;> simp [hx]
theorem cntE_le (l : List Rul) (x : Rul) : cntE l x ≤ l.length := List.length_filter_le _ _
theorem cntE_perm {l k : List Rul} (h : List.Perm l k) (x : Rul) : cntE l x = cntE k x := (h.filter _).length_eq
theorem ahead_lt {a b : Rul} (h : aheadI a b = true) : ltR a b := by
  rw [ahead_iff] at h
  unfold ltR
  omega
/-- The first one that fits, in order, is one that counts. -/
theorem first_order {l : List Rul} {inn dst : Int} {i : Nat} (hi : i < (sortP l).length) (hb : ∀ j, (h : j < (sortP l).length) → j < i → fitsI (sortP l)[j] inn dst = false) (hf : fitsI (sortP l)[i] inn dst = true) :
    ∃ (j : Nat) (b : Rul), firstI inn dst l = j ∧ j < l.length ∧ l[j]? = some b ∧ aheadI b (sortP l)[i] = false ∧ aheadI (sortP l)[i] b = false := by
  have hm : (sortP l)[i] ∈ l := (sortP_perm l).mem_iff.1 (List.getElem_mem hi)
  rcases first_cases inn dst l with ⟨-, h2⟩ | ⟨j, b, h1, hj, h3, h2⟩
  · rw [eltB_none h2 _ hm] at hf; cases hf
  · obtain ⟨k1, k2, k3⟩ := eltB_some h2
    refine ⟨j, b, h1, hj, h3, ?_, k3 _ hm hf⟩
    cases ha : aheadI b (sortP l)[i] with
    | false => rfl
    | true =>
      have hlt := ahead_lt ha
      obtain ⟨q, hq, hqb⟩ := List.getElem_of_mem ((sortP_perm l).mem_iff.2 k1)
      rcases Nat.lt_trichotomy q i with h | h | h
      · have := hb q hq h
        rw [hqb, k2] at this
        cases this
      · subst h
        rw [hqb] at hlt
        exact absurd hlt (ltR_irrefl b)
      · have hs := List.pairwise_iff_getElem.1 (sortP_srt l) i q hi hq h
        rw [hqb] at hs
        exact absurd hlt hs
set_option maxHeartbeats 4000000 in
theorem pickOrders_big (A : Option Addr) (c : Nat) (l : List Rul) (inn dst : Int) (w : World) (hl : Rd rulD w A l.length l) (hF : ∀ r ∈ l, FitR8 r) (hnc : A = none → c = 0) (hi : Fit inn) (hd : Fit dst) (h60 : ¬ l.length ≤ 60) : Calls Try.prog 5 #[.slice A l.length c, .int .i64 inn, .int .i64 dst] w fun e w' => e = .returned (.bool true) ∧ Below w.heap.size w w' := by
  have hmx := hl.max
  have d60 : decide ((60 : Int) < (l.length : Int)) = true := decide_eq_true (by omega)
  clear hl hF
  go_enter Try.func5, Try.ntmps5
  go_wp2_with (go_at_call 9; refine (awake08_any _).mono ?_; rintro e w1 ⟨rfl, hb1⟩; have KB := Aside.mk hb1; clear hb1)
  go_ret
  exact ⟨rfl, KB.out⟩
set_option maxHeartbeats 8000000 in
theorem pickOrders_main (A : Option Addr) (c : Nat) (l : List Rul) (inn dst : Int) (w : World) (hl : Rd rulD w A l.length l) (hF : ∀ r ∈ l, FitR8 r) (hnc : A = none → c = 0) (hi : Fit inn) (hd : Fit dst) (h60 : l.length ≤ 60) : Calls Try.prog 5 #[.slice A l.length c, .int .i64 inn, .int .i64 dst] w fun e w' => e = .returned (.bool true) ∧ Below w.heap.size w w' := by
  have hmx := hl.max
  have d60 : decide ((60 : Int) < (l.length : Int)) = false := decide_eq_false (by omega)
  have HL := Aside.mk hl
  have HNC := Aside.mk hnc
  have hsl := sortP_len l
  have HSL := Aside.mk hsl
  have d61 : (((sortP l).length : Int) != (l.length : Int)) = false := by rw [hsl]; simp
  have hq := eqRul
  have HPM := Aside.mk (fun x => cntE_perm (sortP_perm l) x)
  clear hl hF hnc hsl
  go_enter Try.func5, Try.ntmps5
  go_wp2_with (first
    | (go_at_call 9; refine (awake08_any _).mono ?_; rintro e w1 ⟨rfl, hb1⟩; have KB := Aside.mk hb1; clear hb1)
    | (have hfl := HFL; clear hfl HFL; go_at_call 11; refine (order_any (sortP l) A1 k1 _ R1.out HC1.out (by rw [sortP_len]; omega)).mono ?_; rw [sortP_id (sortP_srt l)]; rintro e w3 ⟨v2, rfl, ho, hb2⟩; obtain ⟨A2, k2, rfl, -, hr2⟩ := ho.rd; have R2 := Aside.mk hr2; have R1 := Aside.mk (R1.out.below hb2); have KB := Aside.mk (below_call KB.out hb2); clear ho hr2 hb2)
    | (go_at_call 11; refine (order_any l A c _ (HL.out.below KB.out) HNC.out (by omega)).mono ?_; rintro e w2 ⟨v1, rfl, ho, hb2⟩; obtain ⟨A1, k1, rfl, -, hr1⟩ := ho.rd; have HC1 := Aside.mk ho.nilc; have R1 := Aside.mk hr1; have KB := Aside.mk (below_call KB.out hb2); have HFL : Aside True := .mk trivial; clear ho hr1 hb2)
    | (go_at_call 10; refine (same08_any _ _ _ _ _ _ _ R2.out R1.out).mono ?_; rw [decide_eq_true rfl]; rintro e w4 ⟨rfl, hb2⟩; have R1 := Aside.mk (R1.out.below hb2); have KB := Aside.mk (below_call KB.out hb2); clear hb2))
  go_loopw [10, 11, 12, 13] (fun i _ _ _ wr => ∃ k : Nat, k ≤ l.length ∧ i = .int .i64 k ∧ Below w.heap.size w wr ∧ Rd rulD wr A1 (sortP l).length (sortP l)) (fun i _ _ _ _ => l.length - (intOf i).toNat)
  case atStart => exact ⟨0, Nat.zero_le _, rfl, KB.out, R1.out⟩
  case round =>
    clear KB R1
    obtain ⟨k, hk, rfl, hb, hr1⟩ := hrel
    have KB := Aside.mk hb
    have R1 := Aside.mk hr1
    by_cases hlt : k < l.length
    · obtain ⟨b, o, _, rfl, -⟩ := Row.at HL.out k hlt
      have HCX := Aside.mk (fun W (hb : Below w.heap.size w W) => (rul_cells (c := c) HL.out hb hlt).2)
      obtain ⟨x, hx⟩ : ∃ x, l[k] = x := ⟨_, rfl⟩
      rw [hx] at HCX
      clear hb hr1 hx
      go_wp2
      go_loopw [11, 12, 13] (fun a bb i wr => ∃ q : Nat, q ≤ l.length ∧ a = .int .i64 (cntE (l.take q) x) ∧ bb = .int .i64 (cntE ((sortP l).take q) x) ∧ i = .int .i64 q ∧ Below w.heap.size w wr ∧ Rd rulD wr A1 (sortP l).length (sortP l)) (fun _ _ i _ => l.length - (intOf i).toNat)
      case atStart => exact ⟨0, Nat.zero_le _, rfl, rfl, rfl, KB.out, R1.out⟩
      case round =>
        clear KB R1
        obtain ⟨q, hq1, rfl, rfl, rfl, hb, hr1⟩ := hrel
        have KB := Aside.mk hb
        have R1 := Aside.mk hr1
        by_cases hlt2 : q < l.length
        · have hls : q < (sortP l).length := by rw [HSL.out]; exact hlt2
          obtain ⟨g, og, _, rfl, -⟩ := Row.at hr1 q hls
          obtain ⟨p0, p1, p2, p3, p4, p5⟩ := HCX.out _ hb
          obtain ⟨-, q0, q1, q2, q3, q4, q5⟩ := rul_cells (c := c) HL.out hb hlt2
          obtain ⟨-, r0, r1, r2, r3, r4, r5⟩ := rul_cells (c := k1) hr1 (Below.refl _ _) hls
          have ht := Aside.mk (cntE_take hlt2 x)
          have ht2 := Aside.mk (cntE_take hls x)
          have c1 := cntE_le (l.take q) x
          have c2 := cntE_le ((sortP l).take q) x
          rw [List.length_take] at c1 c2
          have c3 : cntE (l.take q) x ≤ 60 := by omega
          have c4 : cntE ((sortP l).take q) x ≤ 60 := by omega
          clear c1 c2 hb hr1
          generalize cntE (l.take q) x = ca at *
          generalize cntE ((sortP l).take q) x = cb at *
          generalize l[q] = y at *
          generalize (sortP l)[q] = z at *
          cases e1 : decide (y = x) <;> cases e2 : decide (z = x)
          all_goals
            have f1 := Aside.mk e1
            have f2 := Aside.mk e2
            go_wp2
            go_region
            go_wp2
            go_region
            go_wp2
            refine ⟨⟨q + 1, by omega, ?_, ?_, by go_num, below_drew (below_drew KB.out), R1.out⟩, by simp [intOf]; omega⟩
            · rw [ht.out]
              have := f1.out
              simp only [decide_eq_true_eq, decide_eq_false_iff_not] at this
              simp [this]
            · rw [ht2.out]
              have := f2.out
              simp only [decide_eq_true_eq, decide_eq_false_iff_not] at this
              simp [this]
        · obtain rfl : q = l.length := by omega
          have hpm := HPM.out x
          have e1 : l.take l.length = l := List.take_length
          have e2 : (sortP l).take l.length = sortP l := by rw [List.take_of_length_le]; rw [HSL.out]; exact Nat.le_refl _
          rw [e1, e2, hpm]
          have c1 := cntE_le l x
          generalize cntE l x = cc at *
          clear hpm hb hr1 e1 e2
          go_wp2
          exact ⟨⟨k + 1, by omega, by go_num, KB.out, R1.out⟩, by simp [intOf]; omega⟩
    · obtain rfl : k = l.length := by omega
      have HL2 := Aside.mk (HL.out.below hb)
      clear hb hr1
      go_wp2_with (go_at_call 13; refine (first_any l A c inn dst _ HL2.out).mono ?_; rintro e w5 ⟨rfl, hb2⟩; have KB := Aside.mk (below_call KB.out hb2); have R1 := Aside.mk (R1.out.below hb2); clear hb2)
      go_loopw [15] (fun i wr => ∃ k : Nat, k ≤ l.length ∧ i = .int .i64 k ∧ (∀ j, (h : j < (sortP l).length) → j < k → fitsI (sortP l)[j] inn dst = false) ∧ Below w.heap.size w wr ∧ Rd rulD wr A1 (sortP l).length (sortP l)) (fun i _ => l.length - (intOf i).toNat)
      case atStart => exact ⟨0, Nat.zero_le _, rfl, fun j _ h => absurd h (by omega), KB.out, R1.out⟩
      case round =>
        clear KB R1 HL2
        obtain ⟨k, hk, rfl, hno, hb, hr1⟩ := hrel
        have KB := Aside.mk hb
        have R1 := Aside.mk hr1
        by_cases hlt : k < l.length
        · have hls : k < (sortP l).length := by rw [HSL.out]; exact hlt
          have hls2 : (k : Int) < ((sortP l).length : Int) := by omega
          obtain ⟨g, og, _, rfl, -⟩ := Row.at hr1 k hls
          obtain ⟨-, r0, r1, r2, r3, r4, r5⟩ := rul_cells (c := k1) hr1 (Below.refl _ _) hls
          obtain ⟨y, hy⟩ : ∃ y, (sortP l)[k]'hls = y := ⟨_, rfl⟩
          have HYY := Aside.mk hy
          rw [hy] at r0 r1 r2 r3 r4 r5
          cases hf : fitsI y inn dst
          · have HF := Aside.mk hf
            have HNO := Aside.mk (show ∀ j, (h : j < (sortP l).length) → j < k + 1 → fitsI (sortP l)[j] inn dst = false from fun j h hj => by
              rcases Nat.lt_or_ge j k with h1 | h1
              · exact hno j h h1
              · obtain rfl : j = k := by omega
                rw [hy]; exact hf)
            clear hno hf hb hr1 hy
            go_wp2_with (go_at_call 15; refine (fits_any y inn dst _).mono ?_; rw [HF.out]; rintro e w6 ⟨rfl, hb2⟩; have KB := Aside.mk (below_call KB.out hb2); have R1 := Aside.mk (R1.out.below hb2); clear hb2)
            exact ⟨⟨k + 1, by omega, by go_num, HNO.out, KB.out, R1.out⟩, by simp [intOf]; omega⟩
          · have HF := Aside.mk hf
            obtain ⟨j, xb, hj1, hjl, hjx, ha1, ha2⟩ := first_order hls hno (by rw [hy]; exact hf)
            rw [hy] at ha1 ha2
            have HA1 := Aside.mk ha1
            have HA2 := Aside.mk ha2
            obtain ⟨b, o, _, rfl, -⟩ := Row.at HL.out j hjl
            have hxj := (List.getElem?_eq_some_iff.1 hjx).2
            have HCX := Aside.mk (fun W (hb : Below w.heap.size w W) => rul_cells (c := c) HL.out hb hjl)
            rw [hxj] at HCX
            rw [hj1]
            have dj : decide ((0 : Int) ≤ (j : Int)) = true := decide_eq_true (by omega)
            have dj2 : (j : Int) < (l.length : Int) := by omega
            clear hno hf hb hr1 hy ha1 ha2 hj1 hjx hxj
            go_wp2_with (go_at_call 15; refine (fits_any y inn dst _).mono ?_; rw [HF.out]; rintro e w6 ⟨rfl, hb2⟩; have KB := Aside.mk (below_call KB.out hb2); have R1 := Aside.mk (R1.out.below hb2); clear hb2)
            obtain ⟨hbl0, p0, p1, p2, p3, p4, p5⟩ := HCX.out _ KB.out
            obtain ⟨hgl, q0, q1, q2, q3, q4, q5⟩ := rul_cells (c := k1) R1.out (Below.refl _ _) hls
            rw [HYY.out] at q0 q1 q2 q3 q4 q5
            have hbl := Nat.lt_of_lt_of_le hbl0 KB.out.size
            have X0 := Aside.mk p0
            have X1 := Aside.mk p1
            have X2 := Aside.mk p2
            have X3 := Aside.mk p3
            have X4 := Aside.mk p4
            have X5 := Aside.mk p5
            have Y0 := Aside.mk q0
            have Y1 := Aside.mk q1
            have Y2 := Aside.mk q2
            have Y3 := Aside.mk q3
            have Y4 := Aside.mk q4
            have Y5 := Aside.mk q5
            clear p0 p1 p2 p3 p4 p5 q0 q1 q2 q3 q4 q5 hbl0 r0 r1 r2 r3 r4 r5
            refine wp_region_facts (Base := pogB xb y b o c l.length g og (sortP l).length k1 j k w6) (q := pogQ) (Fs := pogF xb y b o c l.length g og (sortP l).length k1 j k w6) (by kernel_rfl) (by kernel_rfl) (by kernel_rfl) (by kernel_rfl) (below_drew (Below.refl _ _)) ?_ ?_
            ·
              have hBs := pogB_stay xb y b o c l.length g og (sortP l).length k1 j k w6
              have hFs := pogF_stay xb y b o c l.length g og (sortP l).length k1 j k w6
              refine ⟨?_, ?_, ?_, ?_, ?_, ?_, ?_, ?_, ?_, ?_, ?_, ?_, ?_, ?_, ?_, ?_, ?_, ?_, ?_, ?_, ?_, ?_, ?_, ?_, ?_, ?_, ?_, ?_, ?_, ?_, ?_, ?_, ?_, trivial⟩
              · refine step_pure hBs hFs rfl fun a' w' hB hag hp => ?_
                have h14 := hag 14 (by kernel_rfl)
                simp at h14
                unfold OpYields
                go_simp
                exact ⟨Below.refl _ _, rfl⟩
              · refine step_pure hBs hFs rfl fun a' w' hB hag hp => ?_
                have h94 : a'.tmps.getD 94 undef = _ := hp 0 (by kernel_rfl)
                simp at h94
                unfold OpYields
                go_simp
                exact ⟨Below.refl _ _, rfl⟩
              · refine step_pure hBs hFs rfl fun a' w' hB hag hp => ?_
                have h95 : a'.tmps.getD 95 undef = _ := hp 1 (by kernel_rfl)
                simp at h95
                unfold OpYields
                go_simp
                exact ⟨Below.refl _ _, rfl⟩
              · refine step_pure_g hBs hFs fun a' w' hB hag hp => ?_
                have hg : a'.tmps.getD 96 undef = _ := hp 2 (by kernel_rfl)
                have h14 := hag 14 (by kernel_rfl)
                refine ⟨wanted_of hg rfl rfl, ?_⟩
                simp at h14
                unfold OpYields
                go_simp
                exact ⟨Below.refl _ _, rfl⟩
              · refine step_pure_g hBs hFs fun a' w' hB hag hp => ?_
                have hg : a'.tmps.getD 96 undef = _ := hp 2 (by kernel_rfl)
                have h0 := hag 0 (by kernel_rfl)
                refine ⟨wanted_of hg rfl rfl, ?_⟩
                simp at h0
                unfold OpYields
                go_simp
                exact ⟨Below.refl _ _, rfl⟩
              · refine step_pure_g hBs hFs fun a' w' hB hag hp => ?_
                have hg : a'.tmps.getD 96 undef = _ := hp 2 (by kernel_rfl)
                have h98 : a'.tmps.getD 98 undef = _ := hp 4 (by kernel_rfl)
                refine ⟨wanted_of hg rfl rfl, ?_⟩
                simp at h98
                unfold OpYields
                go_simp
                exact ⟨Below.refl _ _, rfl⟩
              · refine step_pure_g hBs hFs fun a' w' hB hag hp => ?_
                have hg : a'.tmps.getD 96 undef = _ := hp 2 (by kernel_rfl)
                have h97 : a'.tmps.getD 97 undef = _ := hp 3 (by kernel_rfl)
                have h99 : a'.tmps.getD 99 undef = _ := hp 5 (by kernel_rfl)
                refine ⟨wanted_of hg rfl rfl, ?_⟩
                simp at h97 h99
                unfold OpYields
                go_simp
                exact ⟨Below.refl _ _, rfl⟩
              · refine step_pure hBs hFs rfl fun a' w' hB hag hp => ?_
                have h96 : a'.tmps.getD 96 undef = _ := hp 2 (by kernel_rfl)
                have h100 : a'.tmps.getD 100 undef = _ := hp 6 (by kernel_rfl)
                simp at h96 h100
                unfold OpYields
                go_simp
                exact ⟨Below.refl _ _, rfl⟩
              · refine step_pure hBs hFs rfl fun a' w' hB hag hp => ?_
                have h101 : a'.tmps.getD 101 undef = _ := hp 7 (by kernel_rfl)
                simp at h101
                unfold OpYields
                go_simp
                exact ⟨Below.refl _ _, rfl⟩
              · refine step_pure_g hBs hFs fun a' w' hB hag hp => ?_
                have hg : a'.tmps.getD 102 undef = _ := hp 8 (by kernel_rfl)
                have h0 := hag 0 (by kernel_rfl)
                refine ⟨wanted_of hg rfl rfl, ?_⟩
                simp at h0
                unfold OpYields
                go_simp
                exact ⟨Below.refl _ _, rfl⟩
              · refine step_pure_g hBs hFs fun a' w' hB hag hp => ?_
                have hg : a'.tmps.getD 102 undef = _ := hp 8 (by kernel_rfl)
                have h14 := hag 14 (by kernel_rfl)
                refine ⟨wanted_of hg rfl rfl, ?_⟩
                simp at h14
                unfold OpYields
                go_simp
                exact ⟨Below.refl _ _, rfl⟩
              · refine step_pure_g hBs hFs fun a' w' hB hag hp => ?_
                have hg : a'.tmps.getD 102 undef = _ := hp 8 (by kernel_rfl)
                have h103 : a'.tmps.getD 103 undef = _ := hp 9 (by kernel_rfl)
                have h104 : a'.tmps.getD 104 undef = _ := hp 10 (by kernel_rfl)
                refine ⟨wanted_of hg rfl rfl, ?_⟩
                simp at h103 h104
                unfold OpYields
                go_simp
                exact ⟨Below.refl _ _, rfl⟩
              · refine step_pure_g hBs hFs fun a' w' hB hag hp => ?_
                have hg : a'.tmps.getD 102 undef = _ := hp 8 (by kernel_rfl)
                have h105 : a'.tmps.getD 105 undef = _ := hp 11 (by kernel_rfl)
                have hB : Below w6.heap.size w6 w' := hB; have x0 := (hB.cell (p := ⟨b, o + j * 6, none⟩) hbl).trans X0.out; have y0 := (hB.cell (p := ⟨g, og + k * 6, none⟩) hgl).trans Y0.out; have x1 := (hB.cell (p := ⟨b, o + j * 6 + 1, none⟩) hbl).trans X1.out; have y1 := (hB.cell (p := ⟨g, og + k * 6 + 1, none⟩) hgl).trans Y1.out; have x2 := (hB.cell (p := ⟨b, o + j * 6 + 2, none⟩) hbl).trans X2.out; have y2 := (hB.cell (p := ⟨g, og + k * 6 + 2, none⟩) hgl).trans Y2.out; have x3 := (hB.cell (p := ⟨b, o + j * 6 + 3, none⟩) hbl).trans X3.out; have y3 := (hB.cell (p := ⟨g, og + k * 6 + 3, none⟩) hgl).trans Y3.out; have x4 := (hB.cell (p := ⟨b, o + j * 6 + 4, none⟩) hbl).trans X4.out; have y4 := (hB.cell (p := ⟨g, og + k * 6 + 4, none⟩) hgl).trans Y4.out; have x5 := (hB.cell (p := ⟨b, o + j * 6 + 5, none⟩) hbl).trans X5.out; have y5 := (hB.cell (p := ⟨g, og + k * 6 + 5, none⟩) hgl).trans Y5.out
                refine ⟨wanted_of hg rfl rfl, ?_⟩
                simp at h105
                unfold OpYields
                go_simp
                exact ⟨Below.refl _ _, rfl⟩
              · refine step_pure_g hBs hFs fun a' w' hB hag hp => ?_
                have hg : a'.tmps.getD 102 undef = _ := hp 8 (by kernel_rfl)
                have h8 := hag 8 (by kernel_rfl)
                refine ⟨wanted_of hg rfl rfl, ?_⟩
                simp at h8
                unfold OpYields
                go_simp
                exact ⟨Below.refl _ _, rfl⟩
              · refine step_pure_g hBs hFs fun a' w' hB hag hp => ?_
                have hg : a'.tmps.getD 102 undef = _ := hp 8 (by kernel_rfl)
                have h15 := hag 15 (by kernel_rfl)
                refine ⟨wanted_of hg rfl rfl, ?_⟩
                simp at h15
                unfold OpYields
                go_simp
                exact ⟨Below.refl _ _, rfl⟩
              · refine step_pure_g hBs hFs fun a' w' hB hag hp => ?_
                have hg : a'.tmps.getD 102 undef = _ := hp 8 (by kernel_rfl)
                have h107 : a'.tmps.getD 107 undef = _ := hp 13 (by kernel_rfl)
                have h108 : a'.tmps.getD 108 undef = _ := hp 14 (by kernel_rfl)
                refine ⟨wanted_of hg rfl rfl, ?_⟩
                simp at h107 h108
                unfold OpYields
                go_simp
                exact ⟨Below.refl _ _, rfl⟩
              · refine step_pure_g hBs hFs fun a' w' hB hag hp => ?_
                have hg : a'.tmps.getD 102 undef = _ := hp 8 (by kernel_rfl)
                have h109 : a'.tmps.getD 109 undef = _ := hp 15 (by kernel_rfl)
                have hB : Below w6.heap.size w6 w' := hB; have x0 := (hB.cell (p := ⟨b, o + j * 6, none⟩) hbl).trans X0.out; have y0 := (hB.cell (p := ⟨g, og + k * 6, none⟩) hgl).trans Y0.out; have x1 := (hB.cell (p := ⟨b, o + j * 6 + 1, none⟩) hbl).trans X1.out; have y1 := (hB.cell (p := ⟨g, og + k * 6 + 1, none⟩) hgl).trans Y1.out; have x2 := (hB.cell (p := ⟨b, o + j * 6 + 2, none⟩) hbl).trans X2.out; have y2 := (hB.cell (p := ⟨g, og + k * 6 + 2, none⟩) hgl).trans Y2.out; have x3 := (hB.cell (p := ⟨b, o + j * 6 + 3, none⟩) hbl).trans X3.out; have y3 := (hB.cell (p := ⟨g, og + k * 6 + 3, none⟩) hgl).trans Y3.out; have x4 := (hB.cell (p := ⟨b, o + j * 6 + 4, none⟩) hbl).trans X4.out; have y4 := (hB.cell (p := ⟨g, og + k * 6 + 4, none⟩) hgl).trans Y4.out; have x5 := (hB.cell (p := ⟨b, o + j * 6 + 5, none⟩) hbl).trans X5.out; have y5 := (hB.cell (p := ⟨g, og + k * 6 + 5, none⟩) hgl).trans Y5.out
                refine ⟨wanted_of hg rfl rfl, ?_⟩
                simp at h109
                unfold OpYields
                go_simp
                exact ⟨Below.refl _ _, rfl⟩
              · refine step_pure_g hBs hFs fun a' w' hB hag hp => ?_
                have hg : a'.tmps.getD 102 undef = _ := hp 8 (by kernel_rfl)
                have h106 : a'.tmps.getD 106 undef = _ := hp 12 (by kernel_rfl)
                have h110 : a'.tmps.getD 110 undef = _ := hp 16 (by kernel_rfl)
                refine ⟨wanted_of hg rfl rfl, ?_⟩
                simp at h106 h110
                unfold OpYields
                go_simp
                refine (ahead_any xb y w').mono ?_
                rw [HA1.out]
                rintro e w1 ⟨rfl, hb⟩
                exact ⟨_, rfl, hb, rfl⟩
              · refine step_pure_g hBs hFs fun a' w' hB hag hp => ?_
                have hg : a'.tmps.getD 102 undef = _ := hp 8 (by kernel_rfl)
                have h111 : a'.tmps.getD 111 undef = _ := hp 17 (by kernel_rfl)
                refine ⟨wanted_of hg rfl rfl, ?_⟩
                simp at h111
                unfold OpYields
                go_simp
                exact ⟨Below.refl _ _, rfl⟩
              · refine step_pure hBs hFs rfl fun a' w' hB hag hp => ?_
                have h102 : a'.tmps.getD 102 undef = _ := hp 8 (by kernel_rfl)
                have h112 : a'.tmps.getD 112 undef = _ := hp 18 (by kernel_rfl)
                simp at h102 h112
                unfold OpYields
                go_simp
                exact ⟨Below.refl _ _, rfl⟩
              · refine step_pure hBs hFs rfl fun a' w' hB hag hp => ?_
                have h113 : a'.tmps.getD 113 undef = _ := hp 19 (by kernel_rfl)
                simp at h113
                unfold OpYields
                go_simp
                exact ⟨Below.refl _ _, rfl⟩
              · refine step_pure_g hBs hFs fun a' w' hB hag hp => ?_
                have hg : a'.tmps.getD 114 undef = _ := hp 20 (by kernel_rfl)
                have h8 := hag 8 (by kernel_rfl)
                refine ⟨wanted_of hg rfl rfl, ?_⟩
                simp at h8
                unfold OpYields
                go_simp
                exact ⟨Below.refl _ _, rfl⟩
              · refine step_pure_g hBs hFs fun a' w' hB hag hp => ?_
                have hg : a'.tmps.getD 114 undef = _ := hp 20 (by kernel_rfl)
                have h15 := hag 15 (by kernel_rfl)
                refine ⟨wanted_of hg rfl rfl, ?_⟩
                simp at h15
                unfold OpYields
                go_simp
                exact ⟨Below.refl _ _, rfl⟩
              · refine step_pure_g hBs hFs fun a' w' hB hag hp => ?_
                have hg : a'.tmps.getD 114 undef = _ := hp 20 (by kernel_rfl)
                have h115 : a'.tmps.getD 115 undef = _ := hp 21 (by kernel_rfl)
                have h116 : a'.tmps.getD 116 undef = _ := hp 22 (by kernel_rfl)
                refine ⟨wanted_of hg rfl rfl, ?_⟩
                simp at h115 h116
                unfold OpYields
                go_simp
                exact ⟨Below.refl _ _, rfl⟩
              · refine step_pure_g hBs hFs fun a' w' hB hag hp => ?_
                have hg : a'.tmps.getD 114 undef = _ := hp 20 (by kernel_rfl)
                have h117 : a'.tmps.getD 117 undef = _ := hp 23 (by kernel_rfl)
                have hB : Below w6.heap.size w6 w' := hB; have x0 := (hB.cell (p := ⟨b, o + j * 6, none⟩) hbl).trans X0.out; have y0 := (hB.cell (p := ⟨g, og + k * 6, none⟩) hgl).trans Y0.out; have x1 := (hB.cell (p := ⟨b, o + j * 6 + 1, none⟩) hbl).trans X1.out; have y1 := (hB.cell (p := ⟨g, og + k * 6 + 1, none⟩) hgl).trans Y1.out; have x2 := (hB.cell (p := ⟨b, o + j * 6 + 2, none⟩) hbl).trans X2.out; have y2 := (hB.cell (p := ⟨g, og + k * 6 + 2, none⟩) hgl).trans Y2.out; have x3 := (hB.cell (p := ⟨b, o + j * 6 + 3, none⟩) hbl).trans X3.out; have y3 := (hB.cell (p := ⟨g, og + k * 6 + 3, none⟩) hgl).trans Y3.out; have x4 := (hB.cell (p := ⟨b, o + j * 6 + 4, none⟩) hbl).trans X4.out; have y4 := (hB.cell (p := ⟨g, og + k * 6 + 4, none⟩) hgl).trans Y4.out; have x5 := (hB.cell (p := ⟨b, o + j * 6 + 5, none⟩) hbl).trans X5.out; have y5 := (hB.cell (p := ⟨g, og + k * 6 + 5, none⟩) hgl).trans Y5.out
                refine ⟨wanted_of hg rfl rfl, ?_⟩
                simp at h117
                unfold OpYields
                go_simp
                exact ⟨Below.refl _ _, rfl⟩
              · refine step_pure_g hBs hFs fun a' w' hB hag hp => ?_
                have hg : a'.tmps.getD 114 undef = _ := hp 20 (by kernel_rfl)
                have h0 := hag 0 (by kernel_rfl)
                refine ⟨wanted_of hg rfl rfl, ?_⟩
                simp at h0
                unfold OpYields
                go_simp
                exact ⟨Below.refl _ _, rfl⟩
              · refine step_pure_g hBs hFs fun a' w' hB hag hp => ?_
                have hg : a'.tmps.getD 114 undef = _ := hp 20 (by kernel_rfl)
                have h14 := hag 14 (by kernel_rfl)
                refine ⟨wanted_of hg rfl rfl, ?_⟩
                simp at h14
                unfold OpYields
                go_simp
                exact ⟨Below.refl _ _, rfl⟩
              · refine step_pure_g hBs hFs fun a' w' hB hag hp => ?_
                have hg : a'.tmps.getD 114 undef = _ := hp 20 (by kernel_rfl)
                have h119 : a'.tmps.getD 119 undef = _ := hp 25 (by kernel_rfl)
                have h120 : a'.tmps.getD 120 undef = _ := hp 26 (by kernel_rfl)
                refine ⟨wanted_of hg rfl rfl, ?_⟩
                simp at h119 h120
                unfold OpYields
                go_simp
                exact ⟨Below.refl _ _, rfl⟩
              · refine step_pure_g hBs hFs fun a' w' hB hag hp => ?_
                have hg : a'.tmps.getD 114 undef = _ := hp 20 (by kernel_rfl)
                have h121 : a'.tmps.getD 121 undef = _ := hp 27 (by kernel_rfl)
                have hB : Below w6.heap.size w6 w' := hB; have x0 := (hB.cell (p := ⟨b, o + j * 6, none⟩) hbl).trans X0.out; have y0 := (hB.cell (p := ⟨g, og + k * 6, none⟩) hgl).trans Y0.out; have x1 := (hB.cell (p := ⟨b, o + j * 6 + 1, none⟩) hbl).trans X1.out; have y1 := (hB.cell (p := ⟨g, og + k * 6 + 1, none⟩) hgl).trans Y1.out; have x2 := (hB.cell (p := ⟨b, o + j * 6 + 2, none⟩) hbl).trans X2.out; have y2 := (hB.cell (p := ⟨g, og + k * 6 + 2, none⟩) hgl).trans Y2.out; have x3 := (hB.cell (p := ⟨b, o + j * 6 + 3, none⟩) hbl).trans X3.out; have y3 := (hB.cell (p := ⟨g, og + k * 6 + 3, none⟩) hgl).trans Y3.out; have x4 := (hB.cell (p := ⟨b, o + j * 6 + 4, none⟩) hbl).trans X4.out; have y4 := (hB.cell (p := ⟨g, og + k * 6 + 4, none⟩) hgl).trans Y4.out; have x5 := (hB.cell (p := ⟨b, o + j * 6 + 5, none⟩) hbl).trans X5.out; have y5 := (hB.cell (p := ⟨g, og + k * 6 + 5, none⟩) hgl).trans Y5.out
                refine ⟨wanted_of hg rfl rfl, ?_⟩
                simp at h121
                unfold OpYields
                go_simp
                exact ⟨Below.refl _ _, rfl⟩
              · refine step_pure_g hBs hFs fun a' w' hB hag hp => ?_
                have hg : a'.tmps.getD 114 undef = _ := hp 20 (by kernel_rfl)
                have h118 : a'.tmps.getD 118 undef = _ := hp 24 (by kernel_rfl)
                have h122 : a'.tmps.getD 122 undef = _ := hp 28 (by kernel_rfl)
                refine ⟨wanted_of hg rfl rfl, ?_⟩
                simp at h118 h122
                unfold OpYields
                go_simp
                refine (ahead_any y xb w').mono ?_
                rw [HA2.out]
                rintro e w1 ⟨rfl, hb⟩
                exact ⟨_, rfl, hb, rfl⟩
              · refine step_pure_g hBs hFs fun a' w' hB hag hp => ?_
                have hg : a'.tmps.getD 114 undef = _ := hp 20 (by kernel_rfl)
                have h123 : a'.tmps.getD 123 undef = _ := hp 29 (by kernel_rfl)
                refine ⟨wanted_of hg rfl rfl, ?_⟩
                simp at h123
                unfold OpYields
                go_simp
                exact ⟨Below.refl _ _, rfl⟩
              · refine step_pure hBs hFs rfl fun a' w' hB hag hp => ?_
                have h114 : a'.tmps.getD 114 undef = _ := hp 20 (by kernel_rfl)
                have h124 : a'.tmps.getD 124 undef = _ := hp 30 (by kernel_rfl)
                simp at h114 h124
                unfold OpYields
                go_simp
                exact ⟨Below.refl _ _, rfl⟩
              · refine step_pure hBs hFs rfl fun a' w' hB hag hp => ?_
                have h125 : a'.tmps.getD 125 undef = _ := hp 31 (by kernel_rfl)
                simp at h125
                unfold OpYields
                go_simp
                exact ⟨Below.refl _ _, rfl⟩
            intro vs w' hB hF
            simp only [AllF, forall_const, reduceCtorEq, false_implies, Fof, pogF, pogQ, Nat.zero_add, Nat.reduceAdd, Nat.reduceEqDiff, if_true, if_false, List.getD_cons_succ, List.getD_cons_zero] at hF
            obtain ⟨f0, f1, f2, f3, f4, f5, f6, f7, f8, f9, f10, f11, f12, f13, f14, f15, f16, f17, f18, f19, f20, f21, f22, f23, f24, f25, f26, f27, f28, f29, f30, f31, f32, -⟩ := hF
            simp only [putAll, Act.put, Nat.zero_add, Nat.reduceAdd, f0, f1, f2, f3, f4, f5, f6, f7, f8, f9, f10, f11, f12, f13, f14, f15, f16, f17, f18, f19, f20, f21, f22, f23, f24, f25, f26, f27, f28, f29, f30, f31, f32, List.setIfInBounds_toArray, List.set_cons_zero, List.set_cons_succ]
            have KB := Aside.mk (below_call KB.out hB)
            clear hB
            go_wp2
            go_ret
            exact ⟨rfl, KB.out⟩
        · obtain rfl : k = l.length := by omega
          have hls2 : ¬ (l.length : Int) < ((sortP l).length : Int) := by rw [HSL.out]; omega
          have hm1 : firstI inn dst l = -1 := by
            rcases first_cases inn dst l with ⟨h1, -⟩ | ⟨j, b, -, -, -, h2⟩
            · exact h1
            · obtain ⟨k1, k2, -⟩ := eltB_some h2
              obtain ⟨q, hq, hqb⟩ := List.getElem_of_mem ((sortP_perm l).mem_iff.2 k1)
              have := hno q hq (by rw [HSL.out] at hq; exact hq)
              rw [hqb, k2] at this
              cases this
          rw [hm1]
          clear hb hr1 hno
          go_wp2
          go_ret
          exact ⟨rfl, KB.out⟩
theorem pickOrders_walk (A : Option Addr) (c : Nat) (l : List Rul) (inn dst : Int) (w : World) (hl : Rd rulD w A l.length l) (hF : ∀ r ∈ l, FitR8 r) (hnc : A = none → c = 0) (hi : Fit inn) (hd : Fit dst) : Calls Try.prog 5 #[.slice A l.length c, .int .i64 inn, .int .i64 dst] w fun e w' => e = .returned (.bool true) ∧ Below w.heap.size w w' := by
  by_cases h60 : l.length ≤ 60
  · exact pickOrders_main A c l inn dst w hl hF hnc hi hd h60
  · exact pickOrders_big A c l inn dst w hl hF hnc hi hd h60
end Go.Proofs.Ytihlhkadmmcgeaa
