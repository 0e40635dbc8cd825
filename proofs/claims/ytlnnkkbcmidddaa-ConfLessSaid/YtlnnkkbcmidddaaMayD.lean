/- The walks through the document's May of layers 1 and 4. -/
import Derived.Test.YtlnnkkbcmidddaaMayB
namespace Go.Proofs.Ytlnnkkbcmidddaa
open Go.RowKit
set_option maxRecDepth 100000
theorem and_le64 (x y : BitVec 64) : (x &&& y).toNat ≤ x.toNat := by rw [BitVec.toNat_and]; exact Nat.and_le_left
theorem andNot_iff (x y : BitVec 64) : x &&& ~~~y = 0#64 ↔ x &&& y = x := by
  constructor
  · intro h
    ext i hi
    have h2 : (x &&& ~~~y)[i] = (0#64)[i] := by rw [h]
    rw [BitVec.getElem_and, BitVec.getElem_not] at h2
    rw [BitVec.getElem_and]
    cases h3 : x[i] <;> cases h4 : y[i] <;> simp_all
  · intro h
    ext i hi
    have h2 : (x &&& y)[i] = x[i] := by rw [h]
    rw [BitVec.getElem_and] at h2
    rw [BitVec.getElem_and, BitVec.getElem_not]
    cases h3 : x[i] <;> cases h4 : y[i] <;> simp_all
theorem andNot_zero {a m : Int} (h0 : 0 ≤ a) (h1 : a ≤ 4294967295) : bits .andNot .i64 a m = 0 ↔ bits .and .i64 a m = a := by
  have hx : (BitVec.ofInt 64 a).toNat = a.toNat := by
    rw [BitVec.toNat_ofInt]
    omega
  have e1 : bits .andNot .i64 a m = (((BitVec.ofInt 64 a) &&& ~~~(BitVec.ofInt 64 m)).toNat : Int) := by
    show IntKind.i64.wrap (((BitVec.ofInt 64 a &&& ~~~(BitVec.ofInt 64 m)).toNat : Nat) : Int) = _
    have h := and_le64 (BitVec.ofInt 64 a) (~~~(BitVec.ofInt 64 m))
    rw [hx] at h
    rw [IntKind.wrap_i64]
    omega
  have e2 : bits .and .i64 a m = (((BitVec.ofInt 64 a) &&& (BitVec.ofInt 64 m)).toNat : Int) := by
    show IntKind.i64.wrap (((BitVec.ofInt 64 a &&& (BitVec.ofInt 64 m)).toNat : Nat) : Int) = _
    have h := and_le64 (BitVec.ofInt 64 a) (BitVec.ofInt 64 m)
    rw [hx] at h
    rw [IntKind.wrap_i64]
    omega
  rw [e1, e2]
  constructor
  · intro h
    have h2 : BitVec.ofInt 64 a &&& ~~~(BitVec.ofInt 64 m) = 0#64 := BitVec.eq_of_toNat_eq (by rw [BitVec.toNat_ofNat]; omega)
    rw [(andNot_iff _ _).1 h2, hx]
    omega
  · intro h
    have h2 : BitVec.ofInt 64 a &&& BitVec.ofInt 64 m = BitVec.ofInt 64 a := BitVec.eq_of_toNat_eq (by rw [hx]; omega)
    rw [(andNot_iff _ _).2 h2]
    rfl
theorem low_id {a : Int} (h0 : 0 ≤ a) (h1 : a ≤ 4294967295) : (low a : Int) = a := by unfold low; omega
/-- A prefix may be just if its low bits are none. -/
theorem bmI_low {pa : Int} {k : Nat} (hk : k ≤ 32) (a0 : 0 ≤ pa) (a1 : pa ≤ 4294967295) : bmI pa k = decide (low pa % 2 ^ (32 - k) = 0) := by
  unfold bmI
  rw [Bool.eq_iff_iff]
  simp only [Bool.and_eq_true, decide_eq_true_eq, beq_iff_eq]
  rw [andNot_zero a0 a1, cut_eq]
  have hb : boundN (k : Int) = k := by unfold boundN boundI; omega
  unfold cutN
  rw [hb]
  have hl := low_id a0 a1
  have hd := Nat.div_add_mod (low pa) (2 ^ (32 - k))
  rw [Nat.mul_comm] at hd
  constructor
  · intro h
    omega
  · intro h
    refine ⟨⟨⟨⟨by omega, by omega⟩, a0⟩, a1⟩, ?_⟩
    omega
theorem bmI_off {pa pl : Int} (h : pl < 0 ∨ 32 < pl ∨ pa < 0 ∨ 4294967295 < pa) : bmI pa pl = false := by
  rw [Bool.eq_false_iff]
  intro e
  unfold bmI at e
  simp only [Bool.and_eq_true, decide_eq_true_eq] at e
  omega
theorem mod_succ2 (L m : Nat) : L % 2 ^ (m + 1) = 0 ↔ L / 2 ^ m % 2 ≠ 1 ∧ L % 2 ^ m = 0 := by
  have e : L % 2 ^ (m + 1) = L % 2 ^ m + 2 ^ m * (L / 2 ^ m % 2) := Nat.mod_pow_succ
  have hp := Nat.two_pow_pos m
  rw [e]
  constructor
  · intro h
    have h1 : L % 2 ^ m = 0 := by omega
    refine ⟨fun h2 => ?_, h1⟩
    rw [h1, h2] at h
    omega
  · rintro ⟨h1, h2⟩
    have h3 : L / 2 ^ m % 2 = 0 := by omega
    rw [h2, h3]
    omega
set_option maxHeartbeats 1000000 in
theorem bitsMayR_any (pa pl : Int) (w : World) : Calls Try.prog 71 #[.agg #[.int .i64 pa, .int .i64 pl]] w fun e w' => e = .returned (.bool (bmI pa pl)) ∧ Below w.heap.size w w' := by
  by_cases h1 : pl < 0
  · have d1 : decide (pl < 0) = true := decide_eq_true h1
    rw [bmI_off (.inl h1)]
    clear h1
    have HB := Aside.mk (below_alloc (Below.refl _ w) (.cells #[.int .i64 pa, .int .i64 pl] 54)); have x0 := blk_cell (heapN w (.cells #[.int .i64 pa, .int .i64 pl] 54) rfl) 0; have x1 := blk_cell (heapN w (.cells #[.int .i64 pa, .int .i64 pl] 54) rfl) 1; simp at x0 x1
    go_enter Try.func71, Try.ntmps71
    go_wp2
    go_ret
    exact ⟨rfl, HB.out⟩
  have d1 : decide (pl < 0) = false := decide_eq_false h1
  by_cases h2 : 32 < pl
  · have d2 : decide (32 < pl) = true := decide_eq_true h2
    rw [bmI_off (.inr (.inl h2))]
    clear h1 h2
    have HB := Aside.mk (below_alloc (Below.refl _ w) (.cells #[.int .i64 pa, .int .i64 pl] 54)); have x0 := blk_cell (heapN w (.cells #[.int .i64 pa, .int .i64 pl] 54) rfl) 0; have x1 := blk_cell (heapN w (.cells #[.int .i64 pa, .int .i64 pl] 54) rfl) 1; simp at x0 x1
    go_enter Try.func71, Try.ntmps71
    go_wp2
    go_ret
    exact ⟨rfl, HB.out⟩
  have d2 : decide (32 < pl) = false := decide_eq_false h2
  by_cases h3 : pa < 0
  · have d3 : decide (pa < 0) = true := decide_eq_true h3
    rw [bmI_off (.inr (.inr (.inl h3)))]
    clear h1 h2 h3
    have HB := Aside.mk (below_alloc (Below.refl _ w) (.cells #[.int .i64 pa, .int .i64 pl] 54)); have x0 := blk_cell (heapN w (.cells #[.int .i64 pa, .int .i64 pl] 54) rfl) 0; have x1 := blk_cell (heapN w (.cells #[.int .i64 pa, .int .i64 pl] 54) rfl) 1; simp at x0 x1
    go_enter Try.func71, Try.ntmps71
    go_wp2
    go_ret
    exact ⟨rfl, HB.out⟩
  have d3 : decide (pa < 0) = false := decide_eq_false h3
  by_cases h4 : 4294967295 < pa
  · have d4 : decide (4294967295 < pa) = true := decide_eq_true h4
    rw [bmI_off (.inr (.inr (.inr h4)))]
    clear h1 h2 h3 h4
    have HB := Aside.mk (below_alloc (Below.refl _ w) (.cells #[.int .i64 pa, .int .i64 pl] 54)); have x0 := blk_cell (heapN w (.cells #[.int .i64 pa, .int .i64 pl] 54) rfl) 0; have x1 := blk_cell (heapN w (.cells #[.int .i64 pa, .int .i64 pl] 54) rfl) 1; simp at x0 x1
    go_enter Try.func71, Try.ntmps71
    go_wp2
    go_ret
    exact ⟨rfl, HB.out⟩
  have d4 : decide (4294967295 < pa) = false := decide_eq_false h4
  obtain ⟨n, rfl⟩ : ∃ n : Nat, pl = n := ⟨pl.toNat, by omega⟩
  have hn : n ≤ 32 := by omega
  have HE := Aside.mk (bmI_low hn (pa := pa) (by omega) (by omega))
  have HB := Aside.mk (below_alloc (Below.refl _ w) (.cells #[.int .i64 pa, .int .i64 n] 54))
  have HX := Aside.mk (heapN w (.cells #[.int .i64 pa, .int .i64 n] 54) rfl)
  clear h1 h2 h3 h4
  go_enter Try.func71, Try.ntmps71
  go_wp2
  generalize w.alloc (.cells #[.int .i64 pa, .int .i64 n] 54) = W at *
  have hlx := blk_lt HX.out
  have x0 := blk_cell HX.out 0
  have x1 := blk_cell HX.out 1
  simp at x0 x1
  clear d1 d2 d3 d4
  go_loopw [3] (fun i wr => ∃ k : Nat, k ≤ 32 ∧ i = .int .i64 k ∧ (low pa % 2 ^ (32 - n) = 0 ↔ low pa % 2 ^ (32 - k) = 0) ∧ wr = W) (fun i _ => 32 - (intOf i).toNat)
  case atStart => exact ⟨n, hn, rfl, Iff.rfl, rfl⟩
  case round =>
    obtain ⟨k, hk, rfl, hs, hw⟩ := hrel
    rw [hw]
    clear hw
    have HS := Aside.mk hs
    clear hs
    by_cases hlt : k < 32
    · have HQ := Aside.mk (mod_succ2 (low pa) (31 - k))
      have HK : Aside (31 - k + 1 = 32 - k ∧ 31 - k = 32 - (k + 1)) := .mk (by omega)
      have HV := Aside.mk (bitN_at pa k hlt)
      have hq2 : bitN pa k < 2 := by rw [HV.out]; omega
      obtain ⟨q, hq⟩ : ∃ q, bitN pa k = q := ⟨_, rfl⟩
      rw [hq] at HV hq2
      have HQQ := Aside.mk hq
      clear hq
      by_cases hq : q = 1
      · have dq : ((q : Int) == 1) = true := by subst hq; rfl
        have HR : Aside (bmI pa n = false) := .mk (by
          rw [HE.out, decide_eq_false_iff_not, HS.out, ← HK.out.1, HQ.out, ← HV.out]
          exact fun h => h.1 hq)
        clear hq hq2
        go_wp2_with (go_at_call 80; refine (bitR_any _ _ _).mono ?_; rw [HQQ.out]; rintro e w1 ⟨rfl, hw1⟩; rw [hw1]; clear hw1)
        go_ret
        exact ⟨ret_bool HR.out.symm, HB.out⟩
      · have dq : ((q : Int) == 1) = false := by simpa using (by omega : ¬ (q : Int) = 1)
        have HR : Aside (low pa % 2 ^ (32 - n) = 0 ↔ low pa % 2 ^ (32 - (k + 1)) = 0) := .mk (by
          rw [HS.out, ← HK.out.1, HQ.out, ← HV.out, HK.out.2]
          exact and_iff_right hq)
        clear hq hq2
        go_wp2_with (go_at_call 80; refine (bitR_any _ _ _).mono ?_; rw [HQQ.out]; rintro e w1 ⟨rfl, hw1⟩; rw [hw1]; clear hw1)
        exact ⟨⟨k + 1, by omega, by push_cast; rfl, HR.out, trivial⟩, by simp [intOf]; omega⟩
    · obtain rfl : k = 32 := by omega
      go_wp2
      go_ret
      refine ⟨ret_bool ?_, HB.out⟩
      rw [HE.out]
      simp only [HS.out, Nat.sub_self, Nat.pow_zero, Nat.mod_one, decide_true]
theorem mayI_iff (r : Rul) : mayI r = true ↔ bmI r.addr r.len = true ∧ -1 ≤ r.inn ∧ r.inn ≤ 7 ∧ 0 ≤ r.prio ∧ r.prio ≤ 255 ∧ ((r.kind = 0 ∧ r.port = 0) ∨ (r.kind = 1 ∧ 0 ≤ r.port ∧ r.port ≤ 7)) := by
  unfold mayI actI
  simp only [Bool.and_eq_true, Bool.or_eq_true, decide_eq_true_eq, beq_iff_eq]
  constructor
  · rintro ⟨⟨⟨⟨⟨h1 | h1, h2⟩, h3⟩, h4⟩, h5⟩, h6⟩
    · exact ⟨h2, h3, h4, h5, h6, .inl h1⟩
    · exact ⟨h2, h3, h4, h5, h6, .inr ⟨h1.1.1, h1.1.2, h1.2⟩⟩
  · rintro ⟨h2, h3, h4, h5, h6, h1 | h1⟩
    · exact ⟨⟨⟨⟨⟨.inl h1, h2⟩, h3⟩, h4⟩, h5⟩, h6⟩
    · exact ⟨⟨⟨⟨⟨.inr ⟨⟨h1.1, h1.2.1⟩, h1.2.2⟩, h2⟩, h3⟩, h4⟩, h5⟩, h6⟩
set_option maxHeartbeats 4000000 in
theorem mayR4_any (r : Rul) (w : World) : Calls Try.prog 57 #[rulV r] w fun e w' => e = .returned (.bool (mayI r)) ∧ Below w.heap.size w w' := by
  have HB := Aside.mk (below_alloc (Below.refl _ w) (.cells #[.int .i64 r.addr, .int .i64 r.len, .int .i64 r.inn, .int .i64 r.prio, .int .i64 r.kind, .int .i64 r.port] 58)); have HX := Aside.mk (heapN w (.cells #[.int .i64 r.addr, .int .i64 r.len, .int .i64 r.inn, .int .i64 r.prio, .int .i64 r.kind, .int .i64 r.port] 58) rfl)
  cases hm : bmI r.addr r.len
  · have HM := Aside.mk hm
    rw [show mayI r = false by rw [Bool.eq_false_iff, ne_eq, mayI_iff, hm]; rintro ⟨h, -⟩; cases h]
    clear hm
    go_enter Try.func57, Try.ntmps57; go_wp2_with (go_at_call 71; refine (bitsMayR_any _ _ _).mono ?_; rw [HM.out]; rintro e w1 ⟨rfl, hb1⟩; have HB := Aside.mk (below_call HB.out hb1); have HX := Aside.mk (blk_keep HX.out hb1); have hlx := blk_lt HX.out; have x0 := blk_cell HX.out 0; have x1 := blk_cell HX.out 1; have x2 := blk_cell HX.out 2; have x3 := blk_cell HX.out 3; have x4 := blk_cell HX.out 4; have x5 := blk_cell HX.out 5; simp at x0 x1 x2 x3 x4 x5; clear hb1); go_ret; exact ⟨rfl, HB.out⟩
  have HM := Aside.mk hm
  have hE := mayI_iff r
  rw [hm, eq_self, true_and] at hE
  have HE := Aside.mk hE
  clear hm hE
  by_cases c1 : r.inn < -1
  · have d1 : decide (r.inn < -1) = true := decide_eq_true c1
    rw [show mayI r = false by rw [Bool.eq_false_iff, ne_eq, HE.out]; omega]
    clear c1
    go_enter Try.func57, Try.ntmps57; go_wp2_with (go_at_call 71; refine (bitsMayR_any _ _ _).mono ?_; rw [HM.out]; rintro e w1 ⟨rfl, hb1⟩; have HB := Aside.mk (below_call HB.out hb1); have HX := Aside.mk (blk_keep HX.out hb1); have hlx := blk_lt HX.out; have x0 := blk_cell HX.out 0; have x1 := blk_cell HX.out 1; have x2 := blk_cell HX.out 2; have x3 := blk_cell HX.out 3; have x4 := blk_cell HX.out 4; have x5 := blk_cell HX.out 5; simp at x0 x1 x2 x3 x4 x5; clear hb1); go_ret; exact ⟨rfl, HB.out⟩
  have d1 : decide (r.inn < -1) = false := decide_eq_false c1
  by_cases c2 : 7 < r.inn
  · have d2 : decide (7 < r.inn) = true := decide_eq_true c2
    rw [show mayI r = false by rw [Bool.eq_false_iff, ne_eq, HE.out]; omega]
    clear c1 c2
    go_enter Try.func57, Try.ntmps57; go_wp2_with (go_at_call 71; refine (bitsMayR_any _ _ _).mono ?_; rw [HM.out]; rintro e w1 ⟨rfl, hb1⟩; have HB := Aside.mk (below_call HB.out hb1); have HX := Aside.mk (blk_keep HX.out hb1); have hlx := blk_lt HX.out; have x0 := blk_cell HX.out 0; have x1 := blk_cell HX.out 1; have x2 := blk_cell HX.out 2; have x3 := blk_cell HX.out 3; have x4 := blk_cell HX.out 4; have x5 := blk_cell HX.out 5; simp at x0 x1 x2 x3 x4 x5; clear hb1); go_ret; exact ⟨rfl, HB.out⟩
  have d2 : decide (7 < r.inn) = false := decide_eq_false c2
  by_cases c3 : r.prio < 0
  · have d3 : decide (r.prio < 0) = true := decide_eq_true c3
    rw [show mayI r = false by rw [Bool.eq_false_iff, ne_eq, HE.out]; omega]
    clear c1 c2 c3
    go_enter Try.func57, Try.ntmps57; go_wp2_with (go_at_call 71; refine (bitsMayR_any _ _ _).mono ?_; rw [HM.out]; rintro e w1 ⟨rfl, hb1⟩; have HB := Aside.mk (below_call HB.out hb1); have HX := Aside.mk (blk_keep HX.out hb1); have hlx := blk_lt HX.out; have x0 := blk_cell HX.out 0; have x1 := blk_cell HX.out 1; have x2 := blk_cell HX.out 2; have x3 := blk_cell HX.out 3; have x4 := blk_cell HX.out 4; have x5 := blk_cell HX.out 5; simp at x0 x1 x2 x3 x4 x5; clear hb1); go_ret; exact ⟨rfl, HB.out⟩
  have d3 : decide (r.prio < 0) = false := decide_eq_false c3
  by_cases c4 : 255 < r.prio
  · have d4 : decide (255 < r.prio) = true := decide_eq_true c4
    rw [show mayI r = false by rw [Bool.eq_false_iff, ne_eq, HE.out]; omega]
    clear c1 c2 c3 c4
    go_enter Try.func57, Try.ntmps57; go_wp2_with (go_at_call 71; refine (bitsMayR_any _ _ _).mono ?_; rw [HM.out]; rintro e w1 ⟨rfl, hb1⟩; have HB := Aside.mk (below_call HB.out hb1); have HX := Aside.mk (blk_keep HX.out hb1); have hlx := blk_lt HX.out; have x0 := blk_cell HX.out 0; have x1 := blk_cell HX.out 1; have x2 := blk_cell HX.out 2; have x3 := blk_cell HX.out 3; have x4 := blk_cell HX.out 4; have x5 := blk_cell HX.out 5; simp at x0 x1 x2 x3 x4 x5; clear hb1); go_ret; exact ⟨rfl, HB.out⟩
  have d4 : decide (255 < r.prio) = false := decide_eq_false c4
  by_cases c5 : r.kind = 0
  · have d5 : (r.kind == 0) = true := by simpa using c5
    rw [show mayI r = (r.port == 0) by rw [Bool.eq_iff_iff, HE.out, beq_iff_eq]; omega]
    clear c1 c2 c3 c4 c5
    go_enter Try.func57, Try.ntmps57; go_wp2_with (go_at_call 71; refine (bitsMayR_any _ _ _).mono ?_; rw [HM.out]; rintro e w1 ⟨rfl, hb1⟩; have HB := Aside.mk (below_call HB.out hb1); have HX := Aside.mk (blk_keep HX.out hb1); have hlx := blk_lt HX.out; have x0 := blk_cell HX.out 0; have x1 := blk_cell HX.out 1; have x2 := blk_cell HX.out 2; have x3 := blk_cell HX.out 3; have x4 := blk_cell HX.out 4; have x5 := blk_cell HX.out 5; simp at x0 x1 x2 x3 x4 x5; clear hb1); go_ret; exact ⟨rfl, HB.out⟩
  have d5 : (r.kind == 0) = false := by simpa using c5
  by_cases c6 : r.kind = 1
  · have d6 : (r.kind == 1) = true := by simpa using c6
    by_cases c7 : 0 ≤ r.port
    · have d7 : decide (0 ≤ r.port) = true := decide_eq_true c7
      rw [show mayI r = decide (r.port ≤ 7) by rw [Bool.eq_iff_iff, HE.out, decide_eq_true_eq]; omega]
      clear c1 c2 c3 c4 c5 c6 c7
      go_enter Try.func57, Try.ntmps57; go_wp2_with (go_at_call 71; refine (bitsMayR_any _ _ _).mono ?_; rw [HM.out]; rintro e w1 ⟨rfl, hb1⟩; have HB := Aside.mk (below_call HB.out hb1); have HX := Aside.mk (blk_keep HX.out hb1); have hlx := blk_lt HX.out; have x0 := blk_cell HX.out 0; have x1 := blk_cell HX.out 1; have x2 := blk_cell HX.out 2; have x3 := blk_cell HX.out 3; have x4 := blk_cell HX.out 4; have x5 := blk_cell HX.out 5; simp at x0 x1 x2 x3 x4 x5; clear hb1); go_ret; exact ⟨rfl, HB.out⟩
    · have d7 : decide (0 ≤ r.port) = false := decide_eq_false c7
      rw [show mayI r = false by rw [Bool.eq_false_iff, ne_eq, HE.out]; omega]
      clear c1 c2 c3 c4 c5 c6 c7
      go_enter Try.func57, Try.ntmps57; go_wp2_with (go_at_call 71; refine (bitsMayR_any _ _ _).mono ?_; rw [HM.out]; rintro e w1 ⟨rfl, hb1⟩; have HB := Aside.mk (below_call HB.out hb1); have HX := Aside.mk (blk_keep HX.out hb1); have hlx := blk_lt HX.out; have x0 := blk_cell HX.out 0; have x1 := blk_cell HX.out 1; have x2 := blk_cell HX.out 2; have x3 := blk_cell HX.out 3; have x4 := blk_cell HX.out 4; have x5 := blk_cell HX.out 5; simp at x0 x1 x2 x3 x4 x5; clear hb1); go_ret; exact ⟨rfl, HB.out⟩
  · have d6 : (r.kind == 1) = false := by simpa using c6
    rw [show mayI r = false by rw [Bool.eq_false_iff, ne_eq, HE.out]; omega]
    clear c1 c2 c3 c4 c5 c6
    go_enter Try.func57, Try.ntmps57; go_wp2_with (go_at_call 71; refine (bitsMayR_any _ _ _).mono ?_; rw [HM.out]; rintro e w1 ⟨rfl, hb1⟩; have HB := Aside.mk (below_call HB.out hb1); have HX := Aside.mk (blk_keep HX.out hb1); have hlx := blk_lt HX.out; have x0 := blk_cell HX.out 0; have x1 := blk_cell HX.out 1; have x2 := blk_cell HX.out 2; have x3 := blk_cell HX.out 3; have x4 := blk_cell HX.out 4; have x5 := blk_cell HX.out 5; simp at x0 x1 x2 x3 x4 x5; clear hb1); go_ret; exact ⟨rfl, HB.out⟩
end Go.Proofs.Ytlnnkkbcmidddaa
