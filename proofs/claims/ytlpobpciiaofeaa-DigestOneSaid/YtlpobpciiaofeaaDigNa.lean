/- The walk through DigestOne, of a rule that forwards. -/
import Derived.Test.YtlpobpciiaofeaaDigL
namespace Go.Proofs.Ytlpobpciiaofeaa
open Go.RowKit
set_option maxRecDepth 100000
theorem made1 (w : World) (r : Rul) (g : Nat) (hg : g = w.heap.size) : Rd rulF.kd (w.alloc (.cells #[.int .i64 r.addr, .int .i64 r.len, .int .i64 r.inn, .int .i64 r.prio, .int .i64 r.kind, .int .i64 r.port] 33)) (some ⟨g, 0, none⟩) 1 [r] := by
  subst hg
  exact Rd.made rulF w _ _ _ [r] rfl (by simp)
def doaB (r s u : Rul) (tag other prio port N M1 M2 M3 : Int) (p1 p2 p3 : Bool) (B4 B5 B6 : Nat) (wr : World) (w' : World) : Prop :=
  Below wr.heap.size wr w'
def doaF (r s u : Rul) (tag other prio port N M1 M2 M3 : Int) (p1 p2 p3 : Bool) (B4 B5 B6 : Nat) (wr : World) : List (Value → Value → World → Prop) :=
  [fun _ v _ => v = .int .i64 tag,
   fun _ v _ => v = rulV s,
   fun _ v w' => ∃ g, v = .slice (some ⟨g, 0, none⟩) 1 1 ∧ Rd rulF.kd w' (some ⟨g, 0, none⟩) 1 [s],
   fun _ v _ => v = .int .i64 M1,
   fun _ v _ => v = .int .i64 N,
   fun _ v _ => v = .bool p1,
   fun _ v _ => v = .int .i64 prio,
   fun _ v _ => v = .pointer (some ⟨B4, 3, none⟩),
   fun _ v _ => v = .int .i64 r.prio,
   fun _ v _ => v = .bool p1,
   fun _ v _ => v = .bool true,
   fun _ v _ => v = .bool true,
   fun _ v _ => v = .pointer (some ⟨B4, 4, none⟩),
   fun _ v _ => v = .pointer (some ⟨B4, 4, none⟩),
   fun _ v _ => v = .int .i64 r.kind,
   fun _ v _ => v = .bool false,
   fun _ v _ => v = .bool false,
   fun _ v _ => v = .int .i64 tag,
   fun _ v _ => v = rulV u,
   fun _ v w' => ∃ g, v = .slice (some ⟨g, 0, none⟩) 1 1 ∧ Rd rulF.kd w' (some ⟨g, 0, none⟩) 1 [u],
   fun _ v _ => v = .int .i64 M2,
   fun _ v _ => v = .int .i64 N,
   fun _ v _ => v = .bool p2,
   fun _ v _ => v = .int .i64 port,
   fun _ v _ => v = .pointer (some ⟨B4, 4, none⟩),
   fun _ v _ => v = .pointer (some ⟨B4, 5, none⟩),
   fun _ v _ => v = .int .i64 r.port,
   fun _ v _ => v = .bool p2,
   fun _ v _ => v = .bool true,
   fun _ v _ => v = .bool true,
   fun _ v _ => v = .bool true,
   fun _ v _ => v = .bool true,
   fun _ v _ => v = .int .i64 other,
   fun _ v _ => v = rulV r,
   fun _ v w' => ∃ g, v = .slice (some ⟨g, 0, none⟩) 1 1 ∧ Rd rulF.kd w' (some ⟨g, 0, none⟩) 1 [r],
   fun _ v _ => v = .int .i64 M3,
   fun _ v _ => v = .int .i64 N,
   fun _ v _ => v = .bool p3,
   fun _ v _ => v = .int .i64 other,
   fun _ v _ => v = .int .i64 tag,
   fun _ v _ => v = .bool p3,
   fun _ v _ => v = .bool true,
   fun _ v _ => v = .bool true,
   fun _ v _ => v = .bool true]
def doaQ : Nat → Nat := fun i => i
theorem doaF_stay (r s u : Rul) (tag other prio port N M1 M2 M3 : Int) (p1 p2 p3 : Bool) (B4 B5 B6 : Nat) (wr : World) : AllStay (doaF r s u tag other prio port N M1 M2 M3 p1 p2 p3 B4 B5 B6 wr) := by
  intro F hF u v w' w'' hb h
  simp only [doaF, List.mem_cons, List.not_mem_nil, or_false] at hF
  rcases hF with rfl | rfl | rfl | rfl | rfl | rfl | rfl | rfl | rfl | rfl | rfl | rfl | rfl | rfl | rfl | rfl | rfl | rfl | rfl | rfl | rfl | rfl | rfl | rfl | rfl | rfl | rfl | rfl | rfl | rfl | rfl | rfl | rfl | rfl | rfl | rfl | rfl | rfl | rfl | rfl | rfl | rfl | rfl | rfl
  · exact h
  · exact h
  · obtain ⟨g, e, hr⟩ := h
    exact ⟨g, e, hr.below hb⟩
  · exact h
  · exact h
  · exact h
  · exact h
  · exact h
  · exact h
  · exact h
  · exact h
  · exact h
  · exact h
  · exact h
  · exact h
  · exact h
  · exact h
  · exact h
  · exact h
  · obtain ⟨g, e, hr⟩ := h
    exact ⟨g, e, hr.below hb⟩
  · exact h
  · exact h
  · exact h
  · exact h
  · exact h
  · exact h
  · exact h
  · exact h
  · exact h
  · exact h
  · exact h
  · exact h
  · exact h
  · exact h
  · obtain ⟨g, e, hr⟩ := h
    exact ⟨g, e, hr.below hb⟩
  · exact h
  · exact h
  · exact h
  · exact h
  · exact h
  · exact h
  · exact h
  · exact h
  · exact h
theorem doaB_stay (r s u : Rul) (tag other prio port N M1 M2 M3 : Int) (p1 p2 p3 : Bool) (B4 B5 B6 : Nat) (wr : World) : Stays (doaB r s u tag other prio port N M1 M2 M3 p1 p2 p3 B4 B5 B6 wr) := by
  intro w' w'' hb h
  exact below_call h hb
set_option maxHeartbeats 2000000 in
theorem digestOne_fwd (tag other : Int) (r : Rul) (port prio : Int) (w : World) (ht : Fit tag) (ho : Fit other) (hr : FitR8 r) (hp : Fit port) (hq : Fit prio) (hm : mayI r = true) (h1 : ¬ (tag < 1)) (h2 : ¬ (4095 < tag)) (h3 : ¬ (other < 1)) (h4 : ¬ (4095 < other)) (h5 : ¬ (prio < 0)) (h6 : ¬ (255 < prio)) (h7 : ¬ (port < 0)) (h8 : ¬ (7 < port)) (hk : r.kind = 1) : Calls Try.prog 9 #[.int .i64 tag, .int .i64 other, rulV r, .int .i64 port, .int .i64 prio] w fun e w' => e = .returned (.bool true) ∧ Below w.heap.size w w' := by
  have d1 : decide (tag < 1) = false := decide_eq_false h1
  have d2 : decide (4095 < tag) = false := decide_eq_false h2
  have d3 : decide (other < 1) = false := decide_eq_false h3
  have d4 : decide (4095 < other) = false := decide_eq_false h4
  have d5 : decide (prio < 0) = false := decide_eq_false h5
  have d6 : decide (255 < prio) = false := decide_eq_false h6
  have d7 : decide (port < 0) = false := decide_eq_false h7
  have d8 : decide (7 < port) = false := decide_eq_false h8
  have e1 := one_prio_eq (prio := prio) hm (tag := tag) (by omega) (by omega) (by omega) (by omega)
  have e3 := one_tag_eq (tag := tag) (other := other) hm (by omega) (by omega) (by omega) (by omega)
  have e2 := one_port_eq (port := port) hm hk (tag := tag) (by omega) (by omega) (by omega) (by omega)
  have dk : (r.kind != 1) = false := by simpa using hk
  obtain ⟨s, hs⟩ : ∃ s : Rul, s = { r with prio := prio } := ⟨_, rfl⟩
  obtain ⟨u, hu⟩ : ∃ u : Rul, u = { r with kind := 1, port := port } := ⟨_, rfl⟩
  rw [← hs] at e1
  rw [← hu] at e2
  obtain ⟨N, hN⟩ : ∃ N, ofP tag [r] = N := ⟨_, rfl⟩
  obtain ⟨M1, hM1⟩ : ∃ M, ofP tag [s] = M := ⟨_, rfl⟩
  obtain ⟨M2, hM2⟩ : ∃ M, ofP tag [u] = M := ⟨_, rfl⟩
  obtain ⟨M3, hM3⟩ : ∃ M, ofP other [r] = M := ⟨_, rfl⟩
  rw [hN, hM1] at e1
  rw [hN, hM3] at e3
  rw [hN, hM2] at e2
  obtain ⟨p2, hp2⟩ : ∃ p : Bool, (port == r.port) = p := ⟨_, rfl⟩
  have hp2' : (M2 == N) = p2 := by rw [← hp2, Bool.eq_iff_iff]; simpa using e2
  obtain ⟨p1, hp1⟩ : ∃ p : Bool, (prio == r.prio) = p := ⟨_, rfl⟩
  have hp1' : (M1 == N) = p1 := by rw [← hp1, Bool.eq_iff_iff]; simpa using e1
  obtain ⟨p3, hp3⟩ : ∃ p : Bool, (other == tag) = p := ⟨_, rfl⟩
  have hp3' : (M3 == N) = p3 := by rw [← hp3, Bool.eq_iff_iff]; simpa using e3
  have HNE := Aside.mk hN
  have HM1 := Aside.mk hM1
  have HM2 := Aside.mk hM2
  have HM3 := Aside.mk hM3
  have HSS := Aside.mk hs
  have HUU := Aside.mk hu
  have HT := Aside.mk ht
  have HO := Aside.mk ho
  have HM := Aside.mk hm
  clear hm ht ho hr hp hq h1 h2 h3 h4 h5 h6 h7 h8 e1 e3 e2 hN hM1 hM2 hM3 hs hu hk
  have KB := Aside.mk (below_alloc (Below.refl _ w) (.cells #[.int .i64 r.addr, .int .i64 r.len, .int .i64 r.inn, .int .i64 r.prio, .int .i64 r.kind, .int .i64 r.port] 33)); have HX := Aside.mk (heapN w (.cells #[.int .i64 r.addr, .int .i64 r.len, .int .i64 r.inn, .int .i64 r.prio, .int .i64 r.kind, .int .i64 r.port] 33) rfl)
  go_enter Try.func9, Try.ntmps9
  go_wp2_with (first | (go_at_call 25; refine (of1_any _ r _ _ (made1 _ r _ (by simp)) HT.out).mono ?_; rw [HNE.out]; rintro e w3 ⟨rfl, hb3⟩) | (go_at_call 23; refine (awake10_any _).mono ?_; rintro e w1 ⟨rfl, hb1⟩; have KB := Aside.mk (below_call KB.out hb1); have HX := Aside.mk (blk_keep HX.out hb1); clear hb1; have hlt4 := blk_lt HX.out; have x0 := blk_cell HX.out 0; have x1 := blk_cell HX.out 1; have x2 := blk_cell HX.out 2; have x3 := blk_cell HX.out 3; have x4 := blk_cell HX.out 4; have x5 := blk_cell HX.out 5; simp at x0 x1 x2 x3 x4 x5) | (go_at_call 22; refine (may_any8 r _).mono ?_; rw [HM.out]; rintro e w2 ⟨rfl, hb1⟩; clear x0 x1 x2 x3 x4 x5 hlt4; have KB := Aside.mk (below_call KB.out hb1); have HX := Aside.mk (blk_keep HX.out hb1); clear hb1; have hlt4 := blk_lt HX.out; have x0 := blk_cell HX.out 0; have x1 := blk_cell HX.out 1; have x2 := blk_cell HX.out 2; have x3 := blk_cell HX.out 3; have x4 := blk_cell HX.out 4; have x5 := blk_cell HX.out 5; simp at x0 x1 x2 x3 x4 x5))
  have KB := Aside.mk (below_call (below_alloc (below_alloc (below_alloc KB.out (.cells #[.int .i64 r.addr, .int .i64 r.len, .int .i64 r.inn, .int .i64 prio, .int .i64 r.kind, .int .i64 r.port] 33)) (.cells #[.int .i64 r.addr, .int .i64 r.len, .int .i64 r.inn, .int .i64 r.prio, .int .i64 1, .int .i64 port] 33)) (.cells #[.int .i64 r.addr, .int .i64 r.len, .int .i64 r.inn, .int .i64 r.prio, .int .i64 r.kind, .int .i64 r.port] 33)) hb3)
  have H4 := blk_keep (heapO (heapO (heapO HX.out (.cells #[.int .i64 r.addr, .int .i64 r.len, .int .i64 r.inn, .int .i64 prio, .int .i64 r.kind, .int .i64 r.port] 33)) (.cells #[.int .i64 r.addr, .int .i64 r.len, .int .i64 r.inn, .int .i64 r.prio, .int .i64 1, .int .i64 port] 33)) (.cells #[.int .i64 r.addr, .int .i64 r.len, .int .i64 r.inn, .int .i64 r.prio, .int .i64 r.kind, .int .i64 r.port] 33)) hb3
  have H5 := blk_keep (heapO (heapO (heapN w2 (.cells #[.int .i64 r.addr, .int .i64 r.len, .int .i64 r.inn, .int .i64 prio, .int .i64 r.kind, .int .i64 r.port] 33) rfl) (.cells #[.int .i64 r.addr, .int .i64 r.len, .int .i64 r.inn, .int .i64 r.prio, .int .i64 1, .int .i64 port] 33)) (.cells #[.int .i64 r.addr, .int .i64 r.len, .int .i64 r.inn, .int .i64 r.prio, .int .i64 r.kind, .int .i64 r.port] 33)) hb3
  have H6 := blk_keep (heapO (heapN (w2.alloc (.cells #[.int .i64 r.addr, .int .i64 r.len, .int .i64 r.inn, .int .i64 prio, .int .i64 r.kind, .int .i64 r.port] 33)) (.cells #[.int .i64 r.addr, .int .i64 r.len, .int .i64 r.inn, .int .i64 r.prio, .int .i64 1, .int .i64 port] 33) (i := w2.heap.size + 1) (by simp)) (.cells #[.int .i64 r.addr, .int .i64 r.len, .int .i64 r.inn, .int .i64 r.prio, .int .i64 r.kind, .int .i64 r.port] 33)) hb3
  clear x0 x1 x2 x3 x4 x5 hlt4 hb3
  generalize w3 = wr at *
  have hx := blk_lt H4
  have hy := blk_lt H5
  have hz := blk_lt H6
  have X0 := Aside.mk (show wr.cell? ⟨w.heap.size, 0, none⟩ = some (.int .i64 r.addr) by simpa using blk_cell H4 0)
  have X1 := Aside.mk (show wr.cell? ⟨w.heap.size, 1, none⟩ = some (.int .i64 r.len) by simpa using blk_cell H4 1)
  have X2 := Aside.mk (show wr.cell? ⟨w.heap.size, 2, none⟩ = some (.int .i64 r.inn) by simpa using blk_cell H4 2)
  have X3 := Aside.mk (show wr.cell? ⟨w.heap.size, 3, none⟩ = some (.int .i64 r.prio) by simpa using blk_cell H4 3)
  have X4 := Aside.mk (show wr.cell? ⟨w.heap.size, 4, none⟩ = some (.int .i64 r.kind) by simpa using blk_cell H4 4)
  have X5 := Aside.mk (show wr.cell? ⟨w.heap.size, 5, none⟩ = some (.int .i64 r.port) by simpa using blk_cell H4 5)
  have Y0 := Aside.mk (show wr.cell? ⟨w2.heap.size, 0, none⟩ = some (.int .i64 s.addr) by rw [HSS.out]; simpa using blk_cell H5 0)
  have Y1 := Aside.mk (show wr.cell? ⟨w2.heap.size, 1, none⟩ = some (.int .i64 s.len) by rw [HSS.out]; simpa using blk_cell H5 1)
  have Y2 := Aside.mk (show wr.cell? ⟨w2.heap.size, 2, none⟩ = some (.int .i64 s.inn) by rw [HSS.out]; simpa using blk_cell H5 2)
  have Y3 := Aside.mk (show wr.cell? ⟨w2.heap.size, 3, none⟩ = some (.int .i64 s.prio) by rw [HSS.out]; simpa using blk_cell H5 3)
  have Y4 := Aside.mk (show wr.cell? ⟨w2.heap.size, 4, none⟩ = some (.int .i64 s.kind) by rw [HSS.out]; simpa using blk_cell H5 4)
  have Y5 := Aside.mk (show wr.cell? ⟨w2.heap.size, 5, none⟩ = some (.int .i64 s.port) by rw [HSS.out]; simpa using blk_cell H5 5)
  have Z0 := Aside.mk (show wr.cell? ⟨w2.heap.size + 1, 0, none⟩ = some (.int .i64 u.addr) by rw [HUU.out]; simpa using blk_cell H6 0)
  have Z1 := Aside.mk (show wr.cell? ⟨w2.heap.size + 1, 1, none⟩ = some (.int .i64 u.len) by rw [HUU.out]; simpa using blk_cell H6 1)
  have Z2 := Aside.mk (show wr.cell? ⟨w2.heap.size + 1, 2, none⟩ = some (.int .i64 u.inn) by rw [HUU.out]; simpa using blk_cell H6 2)
  have Z3 := Aside.mk (show wr.cell? ⟨w2.heap.size + 1, 3, none⟩ = some (.int .i64 u.prio) by rw [HUU.out]; simpa using blk_cell H6 3)
  have Z4 := Aside.mk (show wr.cell? ⟨w2.heap.size + 1, 4, none⟩ = some (.int .i64 u.kind) by rw [HUU.out]; simpa using blk_cell H6 4)
  have Z5 := Aside.mk (show wr.cell? ⟨w2.heap.size + 1, 5, none⟩ = some (.int .i64 u.port) by rw [HUU.out]; simpa using blk_cell H6 5)
  clear H4 H5 H6
  refine wp_region_facts (Base := doaB r s u tag other prio port N M1 M2 M3 p1 p2 p3 w.heap.size w2.heap.size (w2.heap.size + 1) wr) (q := doaQ) (Fs := doaF r s u tag other prio port N M1 M2 M3 p1 p2 p3 w.heap.size w2.heap.size (w2.heap.size + 1) wr) (by kernel_rfl) (by kernel_rfl) (by kernel_rfl) (by kernel_rfl) (below_drew (Below.refl _ _)) ?_ ?_
  ·
    have hBs := doaB_stay r s u tag other prio port N M1 M2 M3 p1 p2 p3 w.heap.size w2.heap.size (w2.heap.size + 1) wr
    have hFs := doaF_stay r s u tag other prio port N M1 M2 M3 p1 p2 p3 w.heap.size w2.heap.size (w2.heap.size + 1) wr
    refine ⟨?_, ?_, ?_, ?_, ?_, ?_, ?_, ?_, ?_, ?_, ?_, ?_, ?_, ?_, ?_, ?_, ?_, ?_, ?_, ?_, ?_, ?_, ?_, ?_, ?_, ?_, ?_, ?_, ?_, ?_, ?_, ?_, ?_, ?_, ?_, ?_, ?_, ?_, ?_, ?_, ?_, ?_, ?_, ?_, trivial⟩
    · refine step_pure hBs hFs rfl fun a' w' hB hag hp => ?_
      have h0 := hag 0 (by kernel_rfl)
      simp at h0
      unfold OpYields
      go_simp
      exact ⟨Below.refl _ _, rfl⟩
    · refine step_pure hBs hFs rfl fun a' w' hB hag hp => ?_
      have h12 := hag 12 (by kernel_rfl)
      have hB : Below wr.heap.size wr w' := hB; have x0 := (hB.cell (p := ⟨w.heap.size, 0, none⟩) hx).trans X0.out; have x1 := (hB.cell (p := ⟨w.heap.size, 1, none⟩) hx).trans X1.out; have x2 := (hB.cell (p := ⟨w.heap.size, 2, none⟩) hx).trans X2.out; have x3 := (hB.cell (p := ⟨w.heap.size, 3, none⟩) hx).trans X3.out; have x4 := (hB.cell (p := ⟨w.heap.size, 4, none⟩) hx).trans X4.out; have x5 := (hB.cell (p := ⟨w.heap.size, 5, none⟩) hx).trans X5.out; have y0 := (hB.cell (p := ⟨w2.heap.size, 0, none⟩) hy).trans Y0.out; have y1 := (hB.cell (p := ⟨w2.heap.size, 1, none⟩) hy).trans Y1.out; have y2 := (hB.cell (p := ⟨w2.heap.size, 2, none⟩) hy).trans Y2.out; have y3 := (hB.cell (p := ⟨w2.heap.size, 3, none⟩) hy).trans Y3.out; have y4 := (hB.cell (p := ⟨w2.heap.size, 4, none⟩) hy).trans Y4.out; have y5 := (hB.cell (p := ⟨w2.heap.size, 5, none⟩) hy).trans Y5.out; have z0 := (hB.cell (p := ⟨w2.heap.size + 1, 0, none⟩) hz).trans Z0.out; have z1 := (hB.cell (p := ⟨w2.heap.size + 1, 1, none⟩) hz).trans Z1.out; have z2 := (hB.cell (p := ⟨w2.heap.size + 1, 2, none⟩) hz).trans Z2.out; have z3 := (hB.cell (p := ⟨w2.heap.size + 1, 3, none⟩) hz).trans Z3.out; have z4 := (hB.cell (p := ⟨w2.heap.size + 1, 4, none⟩) hz).trans Z4.out; have z5 := (hB.cell (p := ⟨w2.heap.size + 1, 5, none⟩) hz).trans Z5.out
      simp at h12
      unfold OpYields
      go_simp
      exact ⟨Below.refl _ _, rfl⟩
    · refine step_pure hBs hFs rfl fun a' w' hB hag hp => ?_
      have h68 : a'.tmps.getD 68 undef = _ := hp 1 (by kernel_rfl)
      simp at h68
      unfold OpYields
      go_simp
      exact ⟨(Below.refl _ _).alloc (Nat.le_refl _) _, _, rfl, Rd.made rulF w' _ _ _ [s] rfl (by simp)⟩
    · refine step_pure hBs hFs rfl fun a' w' hB hag hp => ?_
      have h67 : a'.tmps.getD 67 undef = _ := hp 0 (by kernel_rfl)
      have h69 := hp 2 (by kernel_rfl)
      replace h69 : _ := h69
      obtain ⟨g, hv, hr⟩ : ∃ g, a'.tmps.getD 69 undef = .slice (some ⟨g, 0, none⟩) 1 1 ∧ Rd rulF.kd w' (some ⟨g, 0, none⟩) 1 [s] := h69
      simp at hv h67
      unfold OpYields
      go_simp
      refine (of1_any tag s g w' hr HT.out).mono ?_
      rw [HM1.out]
      rintro e w1 ⟨rfl, hb⟩
      exact ⟨_, rfl, hb, rfl⟩
    · refine step_pure hBs hFs rfl fun a' w' hB hag hp => ?_
      have h14 := hag 14 (by kernel_rfl)
      simp at h14
      unfold OpYields
      go_simp
      exact ⟨Below.refl _ _, rfl⟩
    · refine step_pure hBs hFs rfl fun a' w' hB hag hp => ?_
      have h70 : a'.tmps.getD 70 undef = _ := hp 3 (by kernel_rfl)
      have h71 : a'.tmps.getD 71 undef = _ := hp 4 (by kernel_rfl)
      have ueq := Try.underlying3
      have ueqb := Try.underlying4
      simp at h70 h71
      unfold OpYields
      go_simp
      exact ⟨Below.refl _ _, rfl⟩
    · refine step_pure hBs hFs rfl fun a' w' hB hag hp => ?_
      have h4 := hag 4 (by kernel_rfl)
      simp at h4
      unfold OpYields
      go_simp
      exact ⟨Below.refl _ _, rfl⟩
    · refine step_pure hBs hFs rfl fun a' w' hB hag hp => ?_
      have h7 := hag 7 (by kernel_rfl)
      simp at h7
      unfold OpYields
      go_simp
      exact ⟨Below.refl _ _, rfl⟩
    · refine step_pure hBs hFs rfl fun a' w' hB hag hp => ?_
      have h74 : a'.tmps.getD 74 undef = _ := hp 7 (by kernel_rfl)
      have hB : Below wr.heap.size wr w' := hB; have x0 := (hB.cell (p := ⟨w.heap.size, 0, none⟩) hx).trans X0.out; have x1 := (hB.cell (p := ⟨w.heap.size, 1, none⟩) hx).trans X1.out; have x2 := (hB.cell (p := ⟨w.heap.size, 2, none⟩) hx).trans X2.out; have x3 := (hB.cell (p := ⟨w.heap.size, 3, none⟩) hx).trans X3.out; have x4 := (hB.cell (p := ⟨w.heap.size, 4, none⟩) hx).trans X4.out; have x5 := (hB.cell (p := ⟨w.heap.size, 5, none⟩) hx).trans X5.out; have y0 := (hB.cell (p := ⟨w2.heap.size, 0, none⟩) hy).trans Y0.out; have y1 := (hB.cell (p := ⟨w2.heap.size, 1, none⟩) hy).trans Y1.out; have y2 := (hB.cell (p := ⟨w2.heap.size, 2, none⟩) hy).trans Y2.out; have y3 := (hB.cell (p := ⟨w2.heap.size, 3, none⟩) hy).trans Y3.out; have y4 := (hB.cell (p := ⟨w2.heap.size, 4, none⟩) hy).trans Y4.out; have y5 := (hB.cell (p := ⟨w2.heap.size, 5, none⟩) hy).trans Y5.out; have z0 := (hB.cell (p := ⟨w2.heap.size + 1, 0, none⟩) hz).trans Z0.out; have z1 := (hB.cell (p := ⟨w2.heap.size + 1, 1, none⟩) hz).trans Z1.out; have z2 := (hB.cell (p := ⟨w2.heap.size + 1, 2, none⟩) hz).trans Z2.out; have z3 := (hB.cell (p := ⟨w2.heap.size + 1, 3, none⟩) hz).trans Z3.out; have z4 := (hB.cell (p := ⟨w2.heap.size + 1, 4, none⟩) hz).trans Z4.out; have z5 := (hB.cell (p := ⟨w2.heap.size + 1, 5, none⟩) hz).trans Z5.out
      simp at h74
      unfold OpYields
      go_simp
      exact ⟨Below.refl _ _, rfl⟩
    · refine step_pure hBs hFs rfl fun a' w' hB hag hp => ?_
      have h73 : a'.tmps.getD 73 undef = _ := hp 6 (by kernel_rfl)
      have h75 : a'.tmps.getD 75 undef = _ := hp 8 (by kernel_rfl)
      have ueq := Try.underlying3
      have ueqb := Try.underlying4
      simp at h73 h75
      unfold OpYields
      go_simp
      exact ⟨Below.refl _ _, rfl⟩
    · refine step_pure hBs hFs rfl fun a' w' hB hag hp => ?_
      have h72 : a'.tmps.getD 72 undef = _ := hp 5 (by kernel_rfl)
      have h76 : a'.tmps.getD 76 undef = _ := hp 9 (by kernel_rfl)
      have ueq := Try.underlying3
      have ueqb := Try.underlying4
      simp at h72 h76
      unfold OpYields
      go_simp
      exact ⟨Below.refl _ _, rfl⟩
    · refine step_pure hBs hFs rfl fun a' w' hB hag hp => ?_
      have h77 : a'.tmps.getD 77 undef = _ := hp 10 (by kernel_rfl)
      simp at h77
      unfold OpYields
      go_simp
      exact ⟨Below.refl _ _, rfl⟩
    · refine step_pure_g hBs hFs fun a' w' hB hag hp => ?_
      have hg : a'.tmps.getD 78 undef = _ := hp 11 (by kernel_rfl)
      have h7 := hag 7 (by kernel_rfl)
      refine ⟨wanted_of hg rfl rfl, ?_⟩
      simp at h7
      unfold OpYields
      go_simp
      exact ⟨Below.refl _ _, rfl⟩
    · refine step_pure_g hBs hFs fun a' w' hB hag hp => ?_
      have hg : a'.tmps.getD 78 undef = _ := hp 11 (by kernel_rfl)
      have h79 : a'.tmps.getD 79 undef = _ := hp 12 (by kernel_rfl)
      refine ⟨wanted_of hg rfl rfl, ?_⟩
      simp at h79
      unfold OpYields
      go_simp
      exact ⟨Below.refl _ _, rfl⟩
    · refine step_pure_g hBs hFs fun a' w' hB hag hp => ?_
      have hg : a'.tmps.getD 78 undef = _ := hp 11 (by kernel_rfl)
      have h80 : a'.tmps.getD 80 undef = _ := hp 13 (by kernel_rfl)
      have hB : Below wr.heap.size wr w' := hB; have x0 := (hB.cell (p := ⟨w.heap.size, 0, none⟩) hx).trans X0.out; have x1 := (hB.cell (p := ⟨w.heap.size, 1, none⟩) hx).trans X1.out; have x2 := (hB.cell (p := ⟨w.heap.size, 2, none⟩) hx).trans X2.out; have x3 := (hB.cell (p := ⟨w.heap.size, 3, none⟩) hx).trans X3.out; have x4 := (hB.cell (p := ⟨w.heap.size, 4, none⟩) hx).trans X4.out; have x5 := (hB.cell (p := ⟨w.heap.size, 5, none⟩) hx).trans X5.out; have y0 := (hB.cell (p := ⟨w2.heap.size, 0, none⟩) hy).trans Y0.out; have y1 := (hB.cell (p := ⟨w2.heap.size, 1, none⟩) hy).trans Y1.out; have y2 := (hB.cell (p := ⟨w2.heap.size, 2, none⟩) hy).trans Y2.out; have y3 := (hB.cell (p := ⟨w2.heap.size, 3, none⟩) hy).trans Y3.out; have y4 := (hB.cell (p := ⟨w2.heap.size, 4, none⟩) hy).trans Y4.out; have y5 := (hB.cell (p := ⟨w2.heap.size, 5, none⟩) hy).trans Y5.out; have z0 := (hB.cell (p := ⟨w2.heap.size + 1, 0, none⟩) hz).trans Z0.out; have z1 := (hB.cell (p := ⟨w2.heap.size + 1, 1, none⟩) hz).trans Z1.out; have z2 := (hB.cell (p := ⟨w2.heap.size + 1, 2, none⟩) hz).trans Z2.out; have z3 := (hB.cell (p := ⟨w2.heap.size + 1, 3, none⟩) hz).trans Z3.out; have z4 := (hB.cell (p := ⟨w2.heap.size + 1, 4, none⟩) hz).trans Z4.out; have z5 := (hB.cell (p := ⟨w2.heap.size + 1, 5, none⟩) hz).trans Z5.out
      refine ⟨wanted_of hg rfl rfl, ?_⟩
      simp at h80
      unfold OpYields
      go_simp
      exact ⟨Below.refl _ _, rfl⟩
    · refine step_pure_g hBs hFs fun a' w' hB hag hp => ?_
      have hg : a'.tmps.getD 78 undef = _ := hp 11 (by kernel_rfl)
      have h81 : a'.tmps.getD 81 undef = _ := hp 14 (by kernel_rfl)
      have ueq := Try.underlying3
      have ueqb := Try.underlying4
      refine ⟨wanted_of hg rfl rfl, ?_⟩
      simp at h81
      unfold OpYields
      go_simp
      exact ⟨Below.refl _ _, rfl⟩
    · refine step_pure_g hBs hFs fun a' w' hB hag hp => ?_
      have hg : a'.tmps.getD 78 undef = _ := hp 11 (by kernel_rfl)
      have h82 : a'.tmps.getD 82 undef = _ := hp 15 (by kernel_rfl)
      refine ⟨wanted_of hg rfl rfl, ?_⟩
      simp at h82
      unfold OpYields
      go_simp
      exact ⟨Below.refl _ _, rfl⟩
    · refine step_pure_g hBs hFs fun a' w' hB hag hp => ?_
      have hg : a'.tmps.getD 83 undef = _ := hp 16 (by kernel_rfl)
      have h0 := hag 0 (by kernel_rfl)
      refine ⟨wanted_of hg rfl rfl, ?_⟩
      simp at h0
      unfold OpYields
      go_simp
      exact ⟨Below.refl _ _, rfl⟩
    · refine step_pure_g hBs hFs fun a' w' hB hag hp => ?_
      have hg : a'.tmps.getD 83 undef = _ := hp 16 (by kernel_rfl)
      have h13 := hag 13 (by kernel_rfl)
      have hB : Below wr.heap.size wr w' := hB; have x0 := (hB.cell (p := ⟨w.heap.size, 0, none⟩) hx).trans X0.out; have x1 := (hB.cell (p := ⟨w.heap.size, 1, none⟩) hx).trans X1.out; have x2 := (hB.cell (p := ⟨w.heap.size, 2, none⟩) hx).trans X2.out; have x3 := (hB.cell (p := ⟨w.heap.size, 3, none⟩) hx).trans X3.out; have x4 := (hB.cell (p := ⟨w.heap.size, 4, none⟩) hx).trans X4.out; have x5 := (hB.cell (p := ⟨w.heap.size, 5, none⟩) hx).trans X5.out; have y0 := (hB.cell (p := ⟨w2.heap.size, 0, none⟩) hy).trans Y0.out; have y1 := (hB.cell (p := ⟨w2.heap.size, 1, none⟩) hy).trans Y1.out; have y2 := (hB.cell (p := ⟨w2.heap.size, 2, none⟩) hy).trans Y2.out; have y3 := (hB.cell (p := ⟨w2.heap.size, 3, none⟩) hy).trans Y3.out; have y4 := (hB.cell (p := ⟨w2.heap.size, 4, none⟩) hy).trans Y4.out; have y5 := (hB.cell (p := ⟨w2.heap.size, 5, none⟩) hy).trans Y5.out; have z0 := (hB.cell (p := ⟨w2.heap.size + 1, 0, none⟩) hz).trans Z0.out; have z1 := (hB.cell (p := ⟨w2.heap.size + 1, 1, none⟩) hz).trans Z1.out; have z2 := (hB.cell (p := ⟨w2.heap.size + 1, 2, none⟩) hz).trans Z2.out; have z3 := (hB.cell (p := ⟨w2.heap.size + 1, 3, none⟩) hz).trans Z3.out; have z4 := (hB.cell (p := ⟨w2.heap.size + 1, 4, none⟩) hz).trans Z4.out; have z5 := (hB.cell (p := ⟨w2.heap.size + 1, 5, none⟩) hz).trans Z5.out
      refine ⟨wanted_of hg rfl rfl, ?_⟩
      simp at h13
      unfold OpYields
      go_simp
      exact ⟨Below.refl _ _, rfl⟩
    · refine step_pure_g hBs hFs fun a' w' hB hag hp => ?_
      have hg : a'.tmps.getD 83 undef = _ := hp 16 (by kernel_rfl)
      have h85 : a'.tmps.getD 85 undef = _ := hp 18 (by kernel_rfl)
      refine ⟨wanted_of hg rfl rfl, ?_⟩
      simp at h85
      unfold OpYields
      go_simp
      exact ⟨(Below.refl _ _).alloc (Nat.le_refl _) _, _, rfl, Rd.made rulF w' _ _ _ [u] rfl (by simp)⟩
    · refine step_pure_g hBs hFs fun a' w' hB hag hp => ?_
      have hg : a'.tmps.getD 83 undef = _ := hp 16 (by kernel_rfl)
      have h84 : a'.tmps.getD 84 undef = _ := hp 17 (by kernel_rfl)
      have h86 := hp 19 (by kernel_rfl)
      replace h86 : _ := h86
      refine ⟨wanted_of hg rfl rfl, ?_⟩
      obtain ⟨g, hv, hr⟩ : ∃ g, a'.tmps.getD 86 undef = .slice (some ⟨g, 0, none⟩) 1 1 ∧ Rd rulF.kd w' (some ⟨g, 0, none⟩) 1 [u] := h86
      simp at hv h84
      unfold OpYields
      go_simp
      refine (of1_any tag u g w' hr HT.out).mono ?_
      rw [HM2.out]
      rintro e w1 ⟨rfl, hb⟩
      exact ⟨_, rfl, hb, rfl⟩
    · refine step_pure_g hBs hFs fun a' w' hB hag hp => ?_
      have hg : a'.tmps.getD 83 undef = _ := hp 16 (by kernel_rfl)
      have h14 := hag 14 (by kernel_rfl)
      refine ⟨wanted_of hg rfl rfl, ?_⟩
      simp at h14
      unfold OpYields
      go_simp
      exact ⟨Below.refl _ _, rfl⟩
    · refine step_pure_g hBs hFs fun a' w' hB hag hp => ?_
      have hg : a'.tmps.getD 83 undef = _ := hp 16 (by kernel_rfl)
      have h87 : a'.tmps.getD 87 undef = _ := hp 20 (by kernel_rfl)
      have h88 : a'.tmps.getD 88 undef = _ := hp 21 (by kernel_rfl)
      have ueq := Try.underlying3
      have ueqb := Try.underlying4
      refine ⟨wanted_of hg rfl rfl, ?_⟩
      simp at h87 h88
      unfold OpYields
      go_simp
      exact ⟨Below.refl _ _, rfl⟩
    · refine step_pure_g hBs hFs fun a' w' hB hag hp => ?_
      have hg : a'.tmps.getD 83 undef = _ := hp 16 (by kernel_rfl)
      have h3 := hag 3 (by kernel_rfl)
      refine ⟨wanted_of hg rfl rfl, ?_⟩
      simp at h3
      unfold OpYields
      go_simp
      exact ⟨Below.refl _ _, rfl⟩
    · refine step_pure_g hBs hFs fun a' w' hB hag hp => ?_
      have hg : a'.tmps.getD 83 undef = _ := hp 16 (by kernel_rfl)
      have h7 := hag 7 (by kernel_rfl)
      refine ⟨wanted_of hg rfl rfl, ?_⟩
      simp at h7
      unfold OpYields
      go_simp
      exact ⟨Below.refl _ _, rfl⟩
    · refine step_pure_g hBs hFs fun a' w' hB hag hp => ?_
      have hg : a'.tmps.getD 83 undef = _ := hp 16 (by kernel_rfl)
      have h91 : a'.tmps.getD 91 undef = _ := hp 24 (by kernel_rfl)
      refine ⟨wanted_of hg rfl rfl, ?_⟩
      simp at h91
      unfold OpYields
      go_simp
      exact ⟨Below.refl _ _, rfl⟩
    · refine step_pure_g hBs hFs fun a' w' hB hag hp => ?_
      have hg : a'.tmps.getD 83 undef = _ := hp 16 (by kernel_rfl)
      have h92 : a'.tmps.getD 92 undef = _ := hp 25 (by kernel_rfl)
      have hB : Below wr.heap.size wr w' := hB; have x0 := (hB.cell (p := ⟨w.heap.size, 0, none⟩) hx).trans X0.out; have x1 := (hB.cell (p := ⟨w.heap.size, 1, none⟩) hx).trans X1.out; have x2 := (hB.cell (p := ⟨w.heap.size, 2, none⟩) hx).trans X2.out; have x3 := (hB.cell (p := ⟨w.heap.size, 3, none⟩) hx).trans X3.out; have x4 := (hB.cell (p := ⟨w.heap.size, 4, none⟩) hx).trans X4.out; have x5 := (hB.cell (p := ⟨w.heap.size, 5, none⟩) hx).trans X5.out; have y0 := (hB.cell (p := ⟨w2.heap.size, 0, none⟩) hy).trans Y0.out; have y1 := (hB.cell (p := ⟨w2.heap.size, 1, none⟩) hy).trans Y1.out; have y2 := (hB.cell (p := ⟨w2.heap.size, 2, none⟩) hy).trans Y2.out; have y3 := (hB.cell (p := ⟨w2.heap.size, 3, none⟩) hy).trans Y3.out; have y4 := (hB.cell (p := ⟨w2.heap.size, 4, none⟩) hy).trans Y4.out; have y5 := (hB.cell (p := ⟨w2.heap.size, 5, none⟩) hy).trans Y5.out; have z0 := (hB.cell (p := ⟨w2.heap.size + 1, 0, none⟩) hz).trans Z0.out; have z1 := (hB.cell (p := ⟨w2.heap.size + 1, 1, none⟩) hz).trans Z1.out; have z2 := (hB.cell (p := ⟨w2.heap.size + 1, 2, none⟩) hz).trans Z2.out; have z3 := (hB.cell (p := ⟨w2.heap.size + 1, 3, none⟩) hz).trans Z3.out; have z4 := (hB.cell (p := ⟨w2.heap.size + 1, 4, none⟩) hz).trans Z4.out; have z5 := (hB.cell (p := ⟨w2.heap.size + 1, 5, none⟩) hz).trans Z5.out
      refine ⟨wanted_of hg rfl rfl, ?_⟩
      simp at h92
      unfold OpYields
      go_simp
      exact ⟨Below.refl _ _, rfl⟩
    · refine step_pure_g hBs hFs fun a' w' hB hag hp => ?_
      have hg : a'.tmps.getD 83 undef = _ := hp 16 (by kernel_rfl)
      have h90 : a'.tmps.getD 90 undef = _ := hp 23 (by kernel_rfl)
      have h93 : a'.tmps.getD 93 undef = _ := hp 26 (by kernel_rfl)
      have ueq := Try.underlying3
      have ueqb := Try.underlying4
      refine ⟨wanted_of hg rfl rfl, ?_⟩
      simp at h90 h93
      unfold OpYields
      go_simp
      exact ⟨Below.refl _ _, rfl⟩
    · refine step_pure_g hBs hFs fun a' w' hB hag hp => ?_
      have hg : a'.tmps.getD 83 undef = _ := hp 16 (by kernel_rfl)
      have h89 : a'.tmps.getD 89 undef = _ := hp 22 (by kernel_rfl)
      have h94 : a'.tmps.getD 94 undef = _ := hp 27 (by kernel_rfl)
      have ueq := Try.underlying3
      have ueqb := Try.underlying4
      refine ⟨wanted_of hg rfl rfl, ?_⟩
      simp at h89 h94
      unfold OpYields
      go_simp
      exact ⟨Below.refl _ _, rfl⟩
    · refine step_pure_g hBs hFs fun a' w' hB hag hp => ?_
      have hg : a'.tmps.getD 78 undef = _ := hp 11 (by kernel_rfl)
      have h83 : a'.tmps.getD 83 undef = _ := hp 16 (by kernel_rfl)
      have h95 : a'.tmps.getD 95 undef = _ := hp 28 (by kernel_rfl)
      refine ⟨wanted_of hg rfl rfl, ?_⟩
      simp at h83 h95
      unfold OpYields
      go_simp
      exact ⟨Below.refl _ _, rfl⟩
    · refine step_pure hBs hFs rfl fun a' w' hB hag hp => ?_
      have h78 : a'.tmps.getD 78 undef = _ := hp 11 (by kernel_rfl)
      have h96 : a'.tmps.getD 96 undef = _ := hp 29 (by kernel_rfl)
      simp at h78 h96
      unfold OpYields
      go_simp
      exact ⟨Below.refl _ _, rfl⟩
    · refine step_pure hBs hFs rfl fun a' w' hB hag hp => ?_
      have h97 : a'.tmps.getD 97 undef = _ := hp 30 (by kernel_rfl)
      simp at h97
      unfold OpYields
      go_simp
      exact ⟨Below.refl _ _, rfl⟩
    · refine step_pure_g hBs hFs fun a' w' hB hag hp => ?_
      have hg : a'.tmps.getD 98 undef = _ := hp 31 (by kernel_rfl)
      have h1 := hag 1 (by kernel_rfl)
      refine ⟨wanted_of hg rfl rfl, ?_⟩
      simp at h1
      unfold OpYields
      go_simp
      exact ⟨Below.refl _ _, rfl⟩
    · refine step_pure_g hBs hFs fun a' w' hB hag hp => ?_
      have hg : a'.tmps.getD 98 undef = _ := hp 31 (by kernel_rfl)
      have h7 := hag 7 (by kernel_rfl)
      have hB : Below wr.heap.size wr w' := hB; have x0 := (hB.cell (p := ⟨w.heap.size, 0, none⟩) hx).trans X0.out; have x1 := (hB.cell (p := ⟨w.heap.size, 1, none⟩) hx).trans X1.out; have x2 := (hB.cell (p := ⟨w.heap.size, 2, none⟩) hx).trans X2.out; have x3 := (hB.cell (p := ⟨w.heap.size, 3, none⟩) hx).trans X3.out; have x4 := (hB.cell (p := ⟨w.heap.size, 4, none⟩) hx).trans X4.out; have x5 := (hB.cell (p := ⟨w.heap.size, 5, none⟩) hx).trans X5.out; have y0 := (hB.cell (p := ⟨w2.heap.size, 0, none⟩) hy).trans Y0.out; have y1 := (hB.cell (p := ⟨w2.heap.size, 1, none⟩) hy).trans Y1.out; have y2 := (hB.cell (p := ⟨w2.heap.size, 2, none⟩) hy).trans Y2.out; have y3 := (hB.cell (p := ⟨w2.heap.size, 3, none⟩) hy).trans Y3.out; have y4 := (hB.cell (p := ⟨w2.heap.size, 4, none⟩) hy).trans Y4.out; have y5 := (hB.cell (p := ⟨w2.heap.size, 5, none⟩) hy).trans Y5.out; have z0 := (hB.cell (p := ⟨w2.heap.size + 1, 0, none⟩) hz).trans Z0.out; have z1 := (hB.cell (p := ⟨w2.heap.size + 1, 1, none⟩) hz).trans Z1.out; have z2 := (hB.cell (p := ⟨w2.heap.size + 1, 2, none⟩) hz).trans Z2.out; have z3 := (hB.cell (p := ⟨w2.heap.size + 1, 3, none⟩) hz).trans Z3.out; have z4 := (hB.cell (p := ⟨w2.heap.size + 1, 4, none⟩) hz).trans Z4.out; have z5 := (hB.cell (p := ⟨w2.heap.size + 1, 5, none⟩) hz).trans Z5.out
      refine ⟨wanted_of hg rfl rfl, ?_⟩
      simp at h7
      unfold OpYields
      go_simp
      exact ⟨Below.refl _ _, rfl⟩
    · refine step_pure_g hBs hFs fun a' w' hB hag hp => ?_
      have hg : a'.tmps.getD 98 undef = _ := hp 31 (by kernel_rfl)
      have h100 : a'.tmps.getD 100 undef = _ := hp 33 (by kernel_rfl)
      refine ⟨wanted_of hg rfl rfl, ?_⟩
      simp at h100
      unfold OpYields
      go_simp
      exact ⟨(Below.refl _ _).alloc (Nat.le_refl _) _, _, rfl, Rd.made rulF w' _ _ _ [r] rfl (by simp)⟩
    · refine step_pure_g hBs hFs fun a' w' hB hag hp => ?_
      have hg : a'.tmps.getD 98 undef = _ := hp 31 (by kernel_rfl)
      have h99 : a'.tmps.getD 99 undef = _ := hp 32 (by kernel_rfl)
      have h101 := hp 34 (by kernel_rfl)
      replace h101 : _ := h101
      refine ⟨wanted_of hg rfl rfl, ?_⟩
      obtain ⟨g, hv, hr⟩ : ∃ g, a'.tmps.getD 101 undef = .slice (some ⟨g, 0, none⟩) 1 1 ∧ Rd rulF.kd w' (some ⟨g, 0, none⟩) 1 [r] := h101
      simp at hv h99
      unfold OpYields
      go_simp
      refine (of1_any other r g w' hr HO.out).mono ?_
      rw [HM3.out]
      rintro e w1 ⟨rfl, hb⟩
      exact ⟨_, rfl, hb, rfl⟩
    · refine step_pure_g hBs hFs fun a' w' hB hag hp => ?_
      have hg : a'.tmps.getD 98 undef = _ := hp 31 (by kernel_rfl)
      have h14 := hag 14 (by kernel_rfl)
      refine ⟨wanted_of hg rfl rfl, ?_⟩
      simp at h14
      unfold OpYields
      go_simp
      exact ⟨Below.refl _ _, rfl⟩
    · refine step_pure_g hBs hFs fun a' w' hB hag hp => ?_
      have hg : a'.tmps.getD 98 undef = _ := hp 31 (by kernel_rfl)
      have h102 : a'.tmps.getD 102 undef = _ := hp 35 (by kernel_rfl)
      have h103 : a'.tmps.getD 103 undef = _ := hp 36 (by kernel_rfl)
      have ueq := Try.underlying3
      have ueqb := Try.underlying4
      refine ⟨wanted_of hg rfl rfl, ?_⟩
      simp at h102 h103
      unfold OpYields
      go_simp
      exact ⟨Below.refl _ _, rfl⟩
    · refine step_pure_g hBs hFs fun a' w' hB hag hp => ?_
      have hg : a'.tmps.getD 98 undef = _ := hp 31 (by kernel_rfl)
      have h1 := hag 1 (by kernel_rfl)
      refine ⟨wanted_of hg rfl rfl, ?_⟩
      simp at h1
      unfold OpYields
      go_simp
      exact ⟨Below.refl _ _, rfl⟩
    · refine step_pure_g hBs hFs fun a' w' hB hag hp => ?_
      have hg : a'.tmps.getD 98 undef = _ := hp 31 (by kernel_rfl)
      have h0 := hag 0 (by kernel_rfl)
      refine ⟨wanted_of hg rfl rfl, ?_⟩
      simp at h0
      unfold OpYields
      go_simp
      exact ⟨Below.refl _ _, rfl⟩
    · refine step_pure_g hBs hFs fun a' w' hB hag hp => ?_
      have hg : a'.tmps.getD 98 undef = _ := hp 31 (by kernel_rfl)
      have h105 : a'.tmps.getD 105 undef = _ := hp 38 (by kernel_rfl)
      have h106 : a'.tmps.getD 106 undef = _ := hp 39 (by kernel_rfl)
      have ueq := Try.underlying3
      have ueqb := Try.underlying4
      refine ⟨wanted_of hg rfl rfl, ?_⟩
      simp at h105 h106
      unfold OpYields
      go_simp
      exact ⟨Below.refl _ _, rfl⟩
    · refine step_pure_g hBs hFs fun a' w' hB hag hp => ?_
      have hg : a'.tmps.getD 98 undef = _ := hp 31 (by kernel_rfl)
      have h104 : a'.tmps.getD 104 undef = _ := hp 37 (by kernel_rfl)
      have h107 : a'.tmps.getD 107 undef = _ := hp 40 (by kernel_rfl)
      have ueq := Try.underlying3
      have ueqb := Try.underlying4
      refine ⟨wanted_of hg rfl rfl, ?_⟩
      simp at h104 h107
      unfold OpYields
      go_simp
      exact ⟨Below.refl _ _, rfl⟩
    · refine step_pure hBs hFs rfl fun a' w' hB hag hp => ?_
      have h98 : a'.tmps.getD 98 undef = _ := hp 31 (by kernel_rfl)
      have h108 : a'.tmps.getD 108 undef = _ := hp 41 (by kernel_rfl)
      simp at h98 h108
      unfold OpYields
      go_simp
      exact ⟨Below.refl _ _, rfl⟩
    · refine step_pure hBs hFs rfl fun a' w' hB hag hp => ?_
      have h109 : a'.tmps.getD 109 undef = _ := hp 42 (by kernel_rfl)
      simp at h109
      unfold OpYields
      go_simp
      exact ⟨Below.refl _ _, rfl⟩
  intro vs w' hB hF
  simp only [AllF, forall_const, reduceCtorEq, false_implies, Fof, doaF, doaQ, Nat.zero_add, Nat.reduceAdd, Nat.reduceEqDiff, if_true, if_false, List.getD_cons_succ, List.getD_cons_zero] at hF
  obtain ⟨f0, f1, -, f3, f4, f5, f6, f7, f8, f9, f10, f11, f12, f13, f14, f15, f16, f17, f18, -, f20, f21, f22, f23, f24, f25, f26, f27, f28, f29, f30, f31, f32, f33, -, f35, f36, f37, f38, f39, f40, f41, f42, f43, -⟩ := hF
  simp only [putAll, Act.put, Nat.zero_add, Nat.reduceAdd, f0, f1, f3, f4, f5, f6, f7, f8, f9, f10, f11, f12, f13, f14, f15, f16, f17, f18, f20, f21, f22, f23, f24, f25, f26, f27, f28, f29, f30, f31, f32, f33, f35, f36, f37, f38, f39, f40, f41, f42, f43, List.setIfInBounds_toArray, List.set_cons_zero, List.set_cons_succ]
  have KB := Aside.mk (below_call KB.out hB)
  clear hB
  go_wp2
  go_ret
  exact ⟨rfl, KB.out⟩
end Go.Proofs.Ytlpobpciiaofeaa
