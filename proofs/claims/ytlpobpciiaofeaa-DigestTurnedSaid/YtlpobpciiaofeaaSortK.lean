/- The walks through the document's Same of layer 8 and the layer's example. -/
import Derived.Test.YtlpobpciiaofeaaSortJ
namespace Go.Proofs.Ytlpobpciiaofeaa
open Go.RowKit
set_option maxRecDepth 100000

theorem eqRul (w : World) (a b : Rul) : (Op.equalIn 10000 33 (rulV a) (rulV b)).run Try.prog w = .ok (decide (a = b)) w := by
  have u3 := Try.underlying3
  have a3 := Try.isAgg3
  have z3 := Try.sizeOf3
  have a4 := Try.isAgg29
  have z4 := Try.sizeOf29
  have a5 := Try.isAgg31
  have z5 := Try.sizeOf31
  rw [show (10000 : Nat) = 9999 + 1 from rfl, Op.equalIn]
  simp only [Sem.run_bind, run_underlying Try.underlying33, Result.andThen_ok]
  go_simp
  obtain ⟨a1, a2, a3, a4, a5, a6⟩ := a
  obtain ⟨b1, b2, b3, b4, b5, b6⟩ := b
  simp only [Rul.mk.injEq]
  by_cases h1 : a1 = b1
  · by_cases h2 : a2 = b2
    · by_cases h3 : a3 = b3
      · by_cases h4 : a4 = b4
        · by_cases h5 : a5 = b5
          · by_cases h6 : a6 = b6 <;> simp [h1, h2, h3, h4, h5, h6]
          · simp [h1, h2, h3, h4, h5]
        · simp [h1, h2, h3, h4]
      · simp [h1, h2, h3]
    · simp [h1, h2]
  · simp [h1]
theorem dropR_eq {a b : List Rul} {k : Nat} (ha : k < a.length) (hb : k < b.length) : a.drop k = b.drop k ↔ a[k] = b[k] ∧ a.drop (k + 1) = b.drop (k + 1) := by
  rw [List.drop_eq_getElem_cons ha, List.drop_eq_getElem_cons hb, List.cons.injEq]
set_option maxHeartbeats 1000000 in
theorem same08_any (a b : List Rul) (A B : Option Addr) (c d : Nat) (w : World) (ha : Rd rulD w A a.length a) (hb : Rd rulD w B b.length b) :
    Calls Try.prog 14 #[.slice A a.length c, .slice B b.length d] w fun e w' => e = .returned (.bool (decide (a = b))) ∧ Below w.heap.size w w' := by
  have HA := Aside.mk ha
  have HB := Aside.mk hb
  have hma := ha.max
  have hmb := hb.max
  have hq := eqRul
  clear ha hb
  by_cases hlen : a.length = b.length
  · have d0 : ((a.length : Int) != (b.length : Int)) = false := by simp [hlen]
    go_enter Try.func14, Try.ntmps14
    go_wp2
    go_loopw [5] (fun i wr => ∃ k : Nat, k ≤ b.length ∧ i = .int .i64 k ∧ (a = b ↔ a.drop k = b.drop k) ∧ Below w.heap.size w wr) (fun i _ => b.length - (intOf i).toNat)
    case atStart => exact ⟨0, Nat.zero_le _, rfl, by simp, Below.refl _ _⟩
    case round =>
      obtain ⟨k, hk, rfl, hs, hbl⟩ := hrel
      have HS := Aside.mk hs
      have KB := Aside.mk hbl
      clear hs
      by_cases hlt : k < b.length
      · have hlta : k < a.length := by omega
        obtain ⟨b1, o1, _, rfl, -⟩ := Row.at HA.out k hlta
        obtain ⟨b2, o2, _, rfl, -⟩ := Row.at HB.out k hlt
        obtain ⟨hb1, p0, p1, p2, p3, p4, p5⟩ := rul_cells (c := c) HA.out hbl hlta
        obtain ⟨hb2, q0, q1, q2, q3, q4, q5⟩ := rul_cells (c := d) HB.out hbl hlt
        have hd := Aside.mk (dropR_eq hlta hlt)
        generalize a[k] = x at *
        generalize b[k] = y at *
        clear hbl
        cases hxy : decide (x = y)
        · have hne : decide (a = b) = false := decide_eq_false (fun h => by
            have := (hd.out.1 (HS.out.1 h)).1
            rw [decide_eq_true this] at hxy
            cases hxy)
          go_wp2
          go_region
          go_wp2
          go_ret
          exact ⟨ret_bool hne.symm, below_drew KB.out⟩
        · have hxy' := of_decide_eq_true hxy
          go_wp2
          go_region
          go_wp2
          go_roundw
          case rel => exact ⟨k + 1, by omega, by go_num, HS.out.trans (hd.out.trans ⟨fun h => h.2, fun h => ⟨hxy', h⟩⟩), below_drew KB.out⟩
          case measure => simp [intOf]; omega
      · obtain rfl : k = b.length := by omega
        have hab : a = b := HS.out.2 (by rw [List.drop_length, List.drop_eq_nil_of_le (by omega)])
        clear hbl
        go_wp2
        go_ret
        exact ⟨ret_bool (by simp [hab]), KB.out⟩
  · have d0 : ((a.length : Int) != (b.length : Int)) = true := by simp; omega
    have hne : decide (a = b) = false := decide_eq_false (fun h => hlen (by rw [h]))
    rw [hne]
    go_enter Try.func14, Try.ntmps14
    go_wp2
    all_goals first
      | (go_ret; exact ⟨rfl, Below.refl _ _⟩)
      | (exfalso; simp_all)
abbrev r08 : Rul := ⟨167772160, 8, -1, 0, 0, 0⟩
abbrev s08 : Rul := ⟨167837696, 16, 2, 0, 0, 0⟩
theorem order08 : sortP [r08, s08] = [s08, r08] := sortP_uniq (List.Perm.swap _ _ _) (by
  refine List.pairwise_cons.2 ⟨fun a ha => ?_, List.pairwise_singleton _ _⟩
  rw [List.mem_singleton.1 ha]
  decide)
def awkB (q g k : Nat) (wr : World) (w' : World) : Prop :=
  Below wr.heap.size wr w'
def awkF (q g k : Nat) (wr : World) : List (Value → Value → World → Prop) :=
  [fun _ v _ => v = .slice (some ⟨q, 0, none⟩) 2 2,
   fun _ v _ => v = .int .i64 167838211,
   fun _ v _ => v = .int .i64 1,
   fun _ v _ => v = .bool true,
   fun _ v _ => v = .bool true,
   fun _ v _ => v = .slice (some ⟨q, 0, none⟩) 2 2,
   fun _ v _ => v = .int .i64 167838211,
   fun _ v _ => v = .int .i64 0,
   fun _ v _ => v = .bool true,
   fun _ v _ => v = .bool true,
   fun _ v _ => v = .bool true,
   fun _ v _ => v = .slice (some ⟨q, 0, none⟩) 2 2,
   fun _ v _ => v = .int .i64 (-1),
   fun _ v _ => v = .bool true,
   fun _ v _ => v = .bool true,
   fun _ v _ => v = .bool true,
   fun _ v _ => v = .slice (some ⟨g, 0, none⟩) 2 k,
   fun _ v _ => v = .int .i64 2,
   fun _ v _ => v = .bool true,
   fun _ v _ => v = .bool true,
   fun _ v _ => v = .bool true,
   fun _ v _ => v = .slice (some ⟨g, 0, none⟩) 2 k,
   fun _ v _ => v = .pointer (some ⟨g, 0, none⟩),
   fun _ v _ => v = rulV s08,
   fun _ v _ => v = .slice (some ⟨q, 0, none⟩) 2 2,
   fun _ v _ => v = .pointer (some ⟨q, 6, none⟩),
   fun _ v _ => v = rulV s08,
   fun _ v _ => v = .bool true,
   fun _ v _ => v = .bool true,
   fun _ v _ => v = .bool true]
def awkQ : Nat → Nat := fun i => i
theorem awkF_stay (q g k : Nat) (wr : World) : AllStay (awkF q g k wr) := by
  intro F hF u v w' w'' hb h
  simp only [awkF, List.mem_cons, List.not_mem_nil, or_false] at hF
  rcases hF with rfl | rfl | rfl | rfl | rfl | rfl | rfl | rfl | rfl | rfl | rfl | rfl | rfl | rfl | rfl | rfl | rfl | rfl | rfl | rfl | rfl | rfl | rfl | rfl | rfl | rfl | rfl | rfl | rfl | rfl
  · exact h
  · exact h
  · exact h
  · exact h
  · exact h
  · exact h
  · exact h
  · exact h
  · exact h
  · exact h
  · exact h
  · exact h
  · exact h
  · exact h
  · exact h
  · exact h
  · exact h
  · exact h
  · exact h
  · exact h
  · exact h
  · exact h
  · exact h
  · exact h
  · exact h
  · exact h
  · exact h
  · exact h
  · exact h
  · exact h
theorem awkB_stay (q g k : Nat) (wr : World) : Stays (awkB q g k wr) := by
  intro w' w'' hb h
  exact below_call h hb
set_option maxHeartbeats 2000000 in
theorem awake08_any (w : World) : Calls Try.prog 13 #[] w fun e w' => e = .returned (.bool true) ∧ Below w.heap.size w w' := by
  have F1 := Aside.mk (show firstI 2 167838211 [r08, s08] = 1 by decide +kernel)
  have F2 := Aside.mk (show firstI 1 167838211 [r08, s08] = 0 by decide +kernel)
  have F3 := Aside.mk (show firstI 1 0 [r08, s08] = -1 by decide +kernel)
  have HBX := heapN w (.cells #[.int .i64 167772160, .int .i64 8, .int .i64 (-1), .int .i64 0, .int .i64 0, .int .i64 0, .int .i64 167837696, .int .i64 16, .int .i64 2, .int .i64 0, .int .i64 0, .int .i64 0] 33) rfl
  have HL := Aside.mk (Rd.made rulF w #[.int .i64 167772160, .int .i64 8, .int .i64 (-1), .int .i64 0, .int .i64 0, .int .i64 0, .int .i64 167837696, .int .i64 16, .int .i64 2, .int .i64 0, .int .i64 0, .int .i64 0] 33 (0, 0) [r08, s08] rfl (by decide))
  have eqS : ∀ w, (Op.equalIn 10000 33 (rulV s08) (rulV s08)).run Try.prog w = .ok true w := fun w => (eqRul w s08 s08).trans (by rw [decide_eq_true rfl])
  go_enter Try.func13, Try.ntmps13
  go_wp2_with (go_at_call 15; refine (order_any [r08, s08] (some ⟨w.heap.size, 0, none⟩) 2 _ HL.out (fun h => by cases h) (by decide)).mono ?_; rw [order08]; rintro e w1 ⟨v, rfl, ho, hb⟩; obtain ⟨g, k, rfl, hg, hgl, -⟩ := ho.addr (by decide); have KB := Aside.mk (below_call (below_alloc (Below.refl _ w) (.cells #[.int .i64 167772160, .int .i64 8, .int .i64 (-1), .int .i64 0, .int .i64 0, .int .i64 0, .int .i64 167837696, .int .i64 16, .int .i64 2, .int .i64 0, .int .i64 0, .int .i64 0] 33)) hb); have HBY := blk_keep HBX hb; have HL := Aside.mk (HL.out.below hb); have HO := Aside.mk ho; clear ho hb HBX)
  have hql := blk_lt HBY
  obtain ⟨x0, x1, x2, x3, x4, x5⟩ := rul_at (i := 0) HO.out (by decide)
  simp at x0 x1 x2 x3 x4 x5
  have y0 := blk_cell HBY 6
  have y1 := blk_cell HBY 7
  have y2 := blk_cell HBY 8
  have y3 := blk_cell HBY 9
  have y4 := blk_cell HBY 10
  have y5 := blk_cell HBY 11
  simp at y0 y1 y2 y3 y4 y5
  have X0 := Aside.mk x0
  have X1 := Aside.mk x1
  have X2 := Aside.mk x2
  have X3 := Aside.mk x3
  have X4 := Aside.mk x4
  have X5 := Aside.mk x5
  have Y0 := Aside.mk y0
  have Y1 := Aside.mk y1
  have Y2 := Aside.mk y2
  have Y3 := Aside.mk y3
  have Y4 := Aside.mk y4
  have Y5 := Aside.mk y5
  clear x0 x1 x2 x3 x4 x5 y0 y1 y2 y3 y4 y5 HBY hg HO
  refine wp_region_facts (Base := awkB w.heap.size g k w1) (q := awkQ) (Fs := awkF w.heap.size g k w1) (by kernel_rfl) (by kernel_rfl) (by kernel_rfl) (by kernel_rfl) (below_drew (Below.refl _ _)) ?_ ?_
  ·
    have hBs := awkB_stay w.heap.size g k w1
    have hFs := awkF_stay w.heap.size g k w1
    refine ⟨?_, ?_, ?_, ?_, ?_, ?_, ?_, ?_, ?_, ?_, ?_, ?_, ?_, ?_, ?_, ?_, ?_, ?_, ?_, ?_, ?_, ?_, ?_, ?_, ?_, ?_, ?_, ?_, ?_, ?_, trivial⟩
    · refine step_pure hBs hFs rfl fun a' w' hB hag hp => ?_
      have h1 := hag 1 (by kernel_rfl)
      simp at h1
      unfold OpYields
      go_simp
      exact ⟨Below.refl _ _, rfl⟩
    · refine step_pure hBs hFs rfl fun a' w' hB hag hp => ?_
      have h2 := hag 2 (by kernel_rfl)
      simp at h2
      unfold OpYields
      go_simp
      exact ⟨Below.refl _ _, rfl⟩
    · refine step_pure hBs hFs rfl fun a' w' hB hag hp => ?_
      have h11 : a'.tmps.getD 11 undef = _ := hp 0 (by kernel_rfl)
      have h12 : a'.tmps.getD 12 undef = _ := hp 1 (by kernel_rfl)
      simp at h11 h12
      have hB' : Below w1.heap.size w1 w' := hB
      unfold OpYields
      go_simp
      refine (first_any [r08, s08] (some ⟨w.heap.size, 0, none⟩) 2 2 167838211 w' (HL.out.below hB')).mono ?_
      rw [F1.out]
      rintro e w1 ⟨rfl, hb⟩
      exact ⟨_, rfl, hb, rfl⟩
    · refine step_pure hBs hFs rfl fun a' w' hB hag hp => ?_
      have h13 : a'.tmps.getD 13 undef = _ := hp 2 (by kernel_rfl)
      have ueq := Try.underlying3
      have ueqb := Try.underlying4
      simp at h13
      unfold OpYields
      go_simp
      exact ⟨Below.refl _ _, rfl⟩
    · refine step_pure hBs hFs rfl fun a' w' hB hag hp => ?_
      have h14 : a'.tmps.getD 14 undef = _ := hp 3 (by kernel_rfl)
      simp at h14
      unfold OpYields
      go_simp
      exact ⟨Below.refl _ _, rfl⟩
    · refine step_pure_g hBs hFs fun a' w' hB hag hp => ?_
      have hg : a'.tmps.getD 15 undef = _ := hp 4 (by kernel_rfl)
      have h1 := hag 1 (by kernel_rfl)
      refine ⟨wanted_of hg rfl rfl, ?_⟩
      simp at h1
      unfold OpYields
      go_simp
      exact ⟨Below.refl _ _, rfl⟩
    · refine step_pure_g hBs hFs fun a' w' hB hag hp => ?_
      have hg : a'.tmps.getD 15 undef = _ := hp 4 (by kernel_rfl)
      have h2 := hag 2 (by kernel_rfl)
      refine ⟨wanted_of hg rfl rfl, ?_⟩
      simp at h2
      unfold OpYields
      go_simp
      exact ⟨Below.refl _ _, rfl⟩
    · refine step_pure_g hBs hFs fun a' w' hB hag hp => ?_
      have hg : a'.tmps.getD 15 undef = _ := hp 4 (by kernel_rfl)
      have h16 : a'.tmps.getD 16 undef = _ := hp 5 (by kernel_rfl)
      have h17 : a'.tmps.getD 17 undef = _ := hp 6 (by kernel_rfl)
      refine ⟨wanted_of hg rfl rfl, ?_⟩
      simp at h16 h17
      have hB' : Below w1.heap.size w1 w' := hB
      unfold OpYields
      go_simp
      refine (first_any [r08, s08] (some ⟨w.heap.size, 0, none⟩) 2 1 167838211 w' (HL.out.below hB')).mono ?_
      rw [F2.out]
      rintro e w1 ⟨rfl, hb⟩
      exact ⟨_, rfl, hb, rfl⟩
    · refine step_pure_g hBs hFs fun a' w' hB hag hp => ?_
      have hg : a'.tmps.getD 15 undef = _ := hp 4 (by kernel_rfl)
      have h18 : a'.tmps.getD 18 undef = _ := hp 7 (by kernel_rfl)
      have ueq := Try.underlying3
      have ueqb := Try.underlying4
      refine ⟨wanted_of hg rfl rfl, ?_⟩
      simp at h18
      unfold OpYields
      go_simp
      exact ⟨Below.refl _ _, rfl⟩
    · refine step_pure hBs hFs rfl fun a' w' hB hag hp => ?_
      have h15 : a'.tmps.getD 15 undef = _ := hp 4 (by kernel_rfl)
      have h19 : a'.tmps.getD 19 undef = _ := hp 8 (by kernel_rfl)
      simp at h15 h19
      unfold OpYields
      go_simp
      exact ⟨Below.refl _ _, rfl⟩
    · refine step_pure hBs hFs rfl fun a' w' hB hag hp => ?_
      have h20 : a'.tmps.getD 20 undef = _ := hp 9 (by kernel_rfl)
      simp at h20
      unfold OpYields
      go_simp
      exact ⟨Below.refl _ _, rfl⟩
    · refine step_pure_g hBs hFs fun a' w' hB hag hp => ?_
      have hg : a'.tmps.getD 21 undef = _ := hp 10 (by kernel_rfl)
      have h1 := hag 1 (by kernel_rfl)
      refine ⟨wanted_of hg rfl rfl, ?_⟩
      simp at h1
      unfold OpYields
      go_simp
      exact ⟨Below.refl _ _, rfl⟩
    · refine step_pure_g hBs hFs fun a' w' hB hag hp => ?_
      have hg : a'.tmps.getD 21 undef = _ := hp 10 (by kernel_rfl)
      have h22 : a'.tmps.getD 22 undef = _ := hp 11 (by kernel_rfl)
      refine ⟨wanted_of hg rfl rfl, ?_⟩
      simp at h22
      have hB' : Below w1.heap.size w1 w' := hB
      unfold OpYields
      go_simp
      refine (first_any [r08, s08] (some ⟨w.heap.size, 0, none⟩) 2 1 0 w' (HL.out.below hB')).mono ?_
      rw [F3.out]
      rintro e w1 ⟨rfl, hb⟩
      exact ⟨_, rfl, hb, rfl⟩
    · refine step_pure_g hBs hFs fun a' w' hB hag hp => ?_
      have hg : a'.tmps.getD 21 undef = _ := hp 10 (by kernel_rfl)
      have h23 : a'.tmps.getD 23 undef = _ := hp 12 (by kernel_rfl)
      have ueq := Try.underlying3
      have ueqb := Try.underlying4
      refine ⟨wanted_of hg rfl rfl, ?_⟩
      simp at h23
      unfold OpYields
      go_simp
      exact ⟨Below.refl _ _, rfl⟩
    · refine step_pure hBs hFs rfl fun a' w' hB hag hp => ?_
      have h21 : a'.tmps.getD 21 undef = _ := hp 10 (by kernel_rfl)
      have h24 : a'.tmps.getD 24 undef = _ := hp 13 (by kernel_rfl)
      simp at h21 h24
      unfold OpYields
      go_simp
      exact ⟨Below.refl _ _, rfl⟩
    · refine step_pure hBs hFs rfl fun a' w' hB hag hp => ?_
      have h25 : a'.tmps.getD 25 undef = _ := hp 14 (by kernel_rfl)
      simp at h25
      unfold OpYields
      go_simp
      exact ⟨Below.refl _ _, rfl⟩
    · refine step_pure_g hBs hFs fun a' w' hB hag hp => ?_
      have hg : a'.tmps.getD 26 undef = _ := hp 15 (by kernel_rfl)
      have h3 := hag 3 (by kernel_rfl)
      refine ⟨wanted_of hg rfl rfl, ?_⟩
      simp at h3
      unfold OpYields
      go_simp
      exact ⟨Below.refl _ _, rfl⟩
    · refine step_pure_g hBs hFs fun a' w' hB hag hp => ?_
      have hg : a'.tmps.getD 26 undef = _ := hp 15 (by kernel_rfl)
      have h27 : a'.tmps.getD 27 undef = _ := hp 16 (by kernel_rfl)
      refine ⟨wanted_of hg rfl rfl, ?_⟩
      simp at h27
      unfold OpYields
      go_simp
      exact ⟨Below.refl _ _, rfl⟩
    · refine step_pure_g hBs hFs fun a' w' hB hag hp => ?_
      have hg : a'.tmps.getD 26 undef = _ := hp 15 (by kernel_rfl)
      have h28 : a'.tmps.getD 28 undef = _ := hp 17 (by kernel_rfl)
      have ueq := Try.underlying3
      have ueqb := Try.underlying4
      refine ⟨wanted_of hg rfl rfl, ?_⟩
      simp at h28
      unfold OpYields
      go_simp
      exact ⟨Below.refl _ _, rfl⟩
    · refine step_pure hBs hFs rfl fun a' w' hB hag hp => ?_
      have h26 : a'.tmps.getD 26 undef = _ := hp 15 (by kernel_rfl)
      have h29 : a'.tmps.getD 29 undef = _ := hp 18 (by kernel_rfl)
      simp at h26 h29
      unfold OpYields
      go_simp
      exact ⟨Below.refl _ _, rfl⟩
    · refine step_pure hBs hFs rfl fun a' w' hB hag hp => ?_
      have h30 : a'.tmps.getD 30 undef = _ := hp 19 (by kernel_rfl)
      simp at h30
      unfold OpYields
      go_simp
      exact ⟨Below.refl _ _, rfl⟩
    · refine step_pure_g hBs hFs fun a' w' hB hag hp => ?_
      have hg : a'.tmps.getD 31 undef = _ := hp 20 (by kernel_rfl)
      have h3 := hag 3 (by kernel_rfl)
      refine ⟨wanted_of hg rfl rfl, ?_⟩
      simp at h3
      unfold OpYields
      go_simp
      exact ⟨Below.refl _ _, rfl⟩
    · refine step_pure_g hBs hFs fun a' w' hB hag hp => ?_
      have hg : a'.tmps.getD 31 undef = _ := hp 20 (by kernel_rfl)
      have h32 : a'.tmps.getD 32 undef = _ := hp 21 (by kernel_rfl)
      refine ⟨wanted_of hg rfl rfl, ?_⟩
      simp at h32
      unfold OpYields
      go_simp
      exact ⟨Below.refl _ _, rfl⟩
    · refine step_pure_g hBs hFs fun a' w' hB hag hp => ?_
      have hg : a'.tmps.getD 31 undef = _ := hp 20 (by kernel_rfl)
      have h33 : a'.tmps.getD 33 undef = _ := hp 22 (by kernel_rfl)
      have hB : Below w1.heap.size w1 w' := hB; have x0 := (hB.cell (p := ⟨g, 0, none⟩) hgl).trans X0.out; have x1 := (hB.cell (p := ⟨g, 1, none⟩) hgl).trans X1.out; have x2 := (hB.cell (p := ⟨g, 2, none⟩) hgl).trans X2.out; have x3 := (hB.cell (p := ⟨g, 3, none⟩) hgl).trans X3.out; have x4 := (hB.cell (p := ⟨g, 4, none⟩) hgl).trans X4.out; have x5 := (hB.cell (p := ⟨g, 5, none⟩) hgl).trans X5.out; have y0 := (hB.cell (p := ⟨w.heap.size, 6, none⟩) hql).trans Y0.out; have y1 := (hB.cell (p := ⟨w.heap.size, 7, none⟩) hql).trans Y1.out; have y2 := (hB.cell (p := ⟨w.heap.size, 8, none⟩) hql).trans Y2.out; have y3 := (hB.cell (p := ⟨w.heap.size, 9, none⟩) hql).trans Y3.out; have y4 := (hB.cell (p := ⟨w.heap.size, 10, none⟩) hql).trans Y4.out; have y5 := (hB.cell (p := ⟨w.heap.size, 11, none⟩) hql).trans Y5.out
      refine ⟨wanted_of hg rfl rfl, ?_⟩
      simp at h33
      unfold OpYields
      go_simp
      exact ⟨Below.refl _ _, rfl⟩
    · refine step_pure_g hBs hFs fun a' w' hB hag hp => ?_
      have hg : a'.tmps.getD 31 undef = _ := hp 20 (by kernel_rfl)
      have h1 := hag 1 (by kernel_rfl)
      refine ⟨wanted_of hg rfl rfl, ?_⟩
      simp at h1
      unfold OpYields
      go_simp
      exact ⟨Below.refl _ _, rfl⟩
    · refine step_pure_g hBs hFs fun a' w' hB hag hp => ?_
      have hg : a'.tmps.getD 31 undef = _ := hp 20 (by kernel_rfl)
      have h35 : a'.tmps.getD 35 undef = _ := hp 24 (by kernel_rfl)
      refine ⟨wanted_of hg rfl rfl, ?_⟩
      simp at h35
      unfold OpYields
      go_simp
      exact ⟨Below.refl _ _, rfl⟩
    · refine step_pure_g hBs hFs fun a' w' hB hag hp => ?_
      have hg : a'.tmps.getD 31 undef = _ := hp 20 (by kernel_rfl)
      have h36 : a'.tmps.getD 36 undef = _ := hp 25 (by kernel_rfl)
      have hB : Below w1.heap.size w1 w' := hB; have x0 := (hB.cell (p := ⟨g, 0, none⟩) hgl).trans X0.out; have x1 := (hB.cell (p := ⟨g, 1, none⟩) hgl).trans X1.out; have x2 := (hB.cell (p := ⟨g, 2, none⟩) hgl).trans X2.out; have x3 := (hB.cell (p := ⟨g, 3, none⟩) hgl).trans X3.out; have x4 := (hB.cell (p := ⟨g, 4, none⟩) hgl).trans X4.out; have x5 := (hB.cell (p := ⟨g, 5, none⟩) hgl).trans X5.out; have y0 := (hB.cell (p := ⟨w.heap.size, 6, none⟩) hql).trans Y0.out; have y1 := (hB.cell (p := ⟨w.heap.size, 7, none⟩) hql).trans Y1.out; have y2 := (hB.cell (p := ⟨w.heap.size, 8, none⟩) hql).trans Y2.out; have y3 := (hB.cell (p := ⟨w.heap.size, 9, none⟩) hql).trans Y3.out; have y4 := (hB.cell (p := ⟨w.heap.size, 10, none⟩) hql).trans Y4.out; have y5 := (hB.cell (p := ⟨w.heap.size, 11, none⟩) hql).trans Y5.out
      refine ⟨wanted_of hg rfl rfl, ?_⟩
      simp at h36
      unfold OpYields
      go_simp
      exact ⟨Below.refl _ _, rfl⟩
    · refine step_pure_g hBs hFs fun a' w' hB hag hp => ?_
      have hg : a'.tmps.getD 31 undef = _ := hp 20 (by kernel_rfl)
      have h34 : a'.tmps.getD 34 undef = _ := hp 23 (by kernel_rfl)
      have h37 : a'.tmps.getD 37 undef = _ := hp 26 (by kernel_rfl)
      have ueq := Try.underlying3
      have ueqb := Try.underlying4
      refine ⟨wanted_of hg rfl rfl, ?_⟩
      simp at h34 h37
      have hq := eqS
      unfold OpYields
      go_simp
      exact ⟨Below.refl _ _, rfl⟩
    · refine step_pure hBs hFs rfl fun a' w' hB hag hp => ?_
      have h31 : a'.tmps.getD 31 undef = _ := hp 20 (by kernel_rfl)
      have h38 : a'.tmps.getD 38 undef = _ := hp 27 (by kernel_rfl)
      simp at h31 h38
      unfold OpYields
      go_simp
      exact ⟨Below.refl _ _, rfl⟩
    · refine step_pure hBs hFs rfl fun a' w' hB hag hp => ?_
      have h39 : a'.tmps.getD 39 undef = _ := hp 28 (by kernel_rfl)
      simp at h39
      unfold OpYields
      go_simp
      exact ⟨Below.refl _ _, rfl⟩
  intro vs w' hB hF
  simp only [AllF, forall_const, reduceCtorEq, false_implies, Fof, awkF, awkQ, Nat.zero_add, Nat.reduceAdd, Nat.reduceEqDiff, if_true, if_false, List.getD_cons_succ, List.getD_cons_zero] at hF
  obtain ⟨f0, f1, f2, f3, f4, f5, f6, f7, f8, f9, f10, f11, f12, f13, f14, f15, f16, f17, f18, f19, f20, f21, f22, f23, f24, f25, f26, f27, f28, f29, -⟩ := hF
  simp only [putAll, Act.put, Nat.zero_add, Nat.reduceAdd, f0, f1, f2, f3, f4, f5, f6, f7, f8, f9, f10, f11, f12, f13, f14, f15, f16, f17, f18, f19, f20, f21, f22, f23, f24, f25, f26, f27, f28, f29, List.setIfInBounds_toArray, List.set_cons_zero, List.set_cons_succ]
  have hB' : Below w1.heap.size w1 w' := hB
  have KB := Aside.mk (below_call KB.out hB')
  clear hB hB'
  go_wp2
  go_ret
  exact ⟨rfl, KB.out⟩
end Go.Proofs.Ytlpobpciiaofeaa
