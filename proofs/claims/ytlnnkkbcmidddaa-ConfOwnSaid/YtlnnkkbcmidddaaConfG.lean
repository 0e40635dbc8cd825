/- The walk through ConfOwn. -/
import Derived.Test.YtlnnkkbcmidddaaConfO
import Derived.Test.YtlnnkkbcmidddaaOpens
namespace Go.Proofs.Ytlnnkkbcmidddaa
open Go.RowKit
set_option maxRecDepth 100000
theorem fewL_all {cs : List (List Rul)} (h : fewL cs = true) : ∀ l ∈ cs, l.length * 48 ≤ 140737488355328 := fun l hl => by
  unfold fewL at h
  simp at h
  have := h.2 l hl
  omega
def ownB (x y : Rul) (A' : Option Addr) (nl n' : Nat) (A : Option Addr) (n c k : Nat) (p0 p3 p5 : Addr) (cc : Nat) (wr : World) (w' : World) : Prop :=
  Below wr.heap.size wr w'
def ownF (x y : Rul) (A' : Option Addr) (nl n' : Nat) (A : Option Addr) (n c k : Nat) (p0 p3 p5 : Addr) (cc : Nat) (wr : World) : List (Value → Value → World → Prop) :=
  [fun _ v _ => v = .slice A n c,
   fun _ v _ => v = .int .i64 k,
   fun _ v _ => v = .pointer (some p0),
   fun _ v _ => v = .slice A' nl n',
   fun _ v _ => v = .pointer (some p3),
   fun _ v _ => v = rulV x,
   fun _ v _ => v = rulV x,
   fun _ v _ => v = .bool true,
   fun _ v _ => v = .bool true,
   fun _ v _ => v = .slice (some p5) nl cc,
   fun _ v _ => v = .pointer (some p5),
   fun _ v _ => v = rulV y,
   fun _ v _ => v = rulV x,
   fun _ v _ => v = .bool false,
   fun _ v _ => v = .bool true,
   fun _ v _ => v = .bool true,
   fun _ v _ => v = .bool true]
def ownQ : Nat → Nat := fun i => i
theorem ownF_stay (x y : Rul) (A' : Option Addr) (nl n' : Nat) (A : Option Addr) (n c k : Nat) (p0 p3 p5 : Addr) (cc : Nat) (wr : World) : AllStay (ownF x y A' nl n' A n c k p0 p3 p5 cc wr) := by
  intro F hF u v w' w'' hb h
  simp only [ownF, List.mem_cons, List.not_mem_nil, or_false] at hF
  rcases hF with rfl | rfl | rfl | rfl | rfl | rfl | rfl | rfl | rfl | rfl | rfl | rfl | rfl | rfl | rfl | rfl | rfl
  · exact h
  · exact h
  · exact h
  · exact h
  · exact h
  · exact h
  · exact h
  · exact h
  · exact h
  · exact h
  · exact h
  · exact h
  · exact h
  · exact h
  · exact h
  · exact h
  · exact h
theorem ownB_stay (x y : Rul) (A' : Option Addr) (nl n' : Nat) (A : Option Addr) (n c k : Nat) (p0 p3 p5 : Addr) (cc : Nat) (wr : World) : Stays (ownB x y A' nl n' A n c k p0 p3 p5 cc wr) := by
  intro w' w'' hb h
  exact below_call h hb
set_option maxHeartbeats 1000000 in
theorem confOwn_few (B : Option Addr) (c : Nat) (cs : List (List Rul)) (sw : Int) (w : World) (hx : Rd confD w B cs.length cs) (hFx : ∀ l ∈ cs, ∀ r ∈ l, FitR r) (hdx : cs.length ≤ c) (hs : Fit sw) (hf : fewL cs = false) : Calls Try.prog 9 #[.slice B cs.length c, .int .i64 sw] w fun e w' => e = .returned (.bool true) ∧ Below w.heap.size w w' := by
  have HA := Aside.mk hx
  have HFA := Aside.mk hf
  clear hx hFx hdx hf
  go_enter Try.func9, Try.ntmps9
  go_wp2_with (first | (go_at_call 16; refine (awake12_any _).mono ?_; rintro e1 w1 ⟨rfl, hb1⟩; have KB := Aside.mk hb1; clear hb1) | (go_at_call 19; refine (few_any _ _ _ _ (HA.out.below KB.out)).mono ?_; rw [HFA.out]; rintro e2 w2 ⟨rfl, hw2⟩; rw [hw2]; clear hw2))
  go_ret
  exact ⟨rfl, KB.out⟩
set_option maxHeartbeats 1000000 in
theorem confOwn_off (B : Option Addr) (c : Nat) (cs : List (List Rul)) (sw : Int) (w : World) (hx : Rd confD w B cs.length cs) (hFx : ∀ l ∈ cs, ∀ r ∈ l, FitR r) (hdx : cs.length ≤ c) (hs : Fit sw) (hf : fewL cs = true) (ho : sw < 0 ∨ (cs.length : Int) ≤ sw) : Calls Try.prog 9 #[.slice B cs.length c, .int .i64 sw] w fun e w' => e = .returned (.bool true) ∧ Below w.heap.size w w' := by
  have HA := Aside.mk hx
  have HFA := Aside.mk hf
  have HSM := Aside.mk (fewL_all hf)
  have HOF := Aside.mk (atL_out ho)
  have hmx := hx.max
  clear hx hFx hdx hf hs
  by_cases h : sw < 0
  · have d1 : decide (sw < 0) = true := decide_eq_true h
    clear h ho
    go_enter Try.func9, Try.ntmps9
    go_wp2_with (first | (go_at_call 16; refine (awake12_any _).mono ?_; rintro e1 w1 ⟨rfl, hb1⟩; have KB := Aside.mk hb1; clear hb1) | (go_at_call 19; refine (few_any _ _ _ _ (HA.out.below KB.out)).mono ?_; rw [HFA.out]; rintro e2 w2 ⟨rfl, hw2⟩; rw [hw2]; clear hw2) | (go_at_call 13; refine (at_any cs B c sw _ (HA.out.below KB.out) HSM.out).mono ?_; rw [HOF.out]; rintro e3 w3 ⟨v3, rfl, ho3, hb1⟩; obtain ⟨A3, k3, rfl, -⟩ := ho3.form; have KB := Aside.mk (below_call KB.out hb1); clear hb1 ho3))
    go_ret
    exact ⟨rfl, KB.out⟩
  · have d1 : decide (sw < 0) = false := decide_eq_false h
    have d2 : decide ((cs.length : Int) ≤ sw) = true := decide_eq_true (by omega)
    clear h ho
    go_enter Try.func9, Try.ntmps9
    go_wp2_with (first | (go_at_call 16; refine (awake12_any _).mono ?_; rintro e1 w1 ⟨rfl, hb1⟩; have KB := Aside.mk hb1; clear hb1) | (go_at_call 19; refine (few_any _ _ _ _ (HA.out.below KB.out)).mono ?_; rw [HFA.out]; rintro e2 w2 ⟨rfl, hw2⟩; rw [hw2]; clear hw2) | (go_at_call 13; refine (at_any cs B c sw _ (HA.out.below KB.out) HSM.out).mono ?_; rw [HOF.out]; rintro e3 w3 ⟨v3, rfl, ho3, hb1⟩; obtain ⟨A3, k3, rfl, -⟩ := ho3.form; have KB := Aside.mk (below_call KB.out hb1); clear hb1 ho3))
    go_ret
    exact ⟨rfl, KB.out⟩
set_option maxHeartbeats 2000000 in
theorem confOwn_nil (B : Option Addr) (c : Nat) (cs : List (List Rul)) (sw : Int) (w : World) (hx : Rd confD w B cs.length cs) (hFx : ∀ l ∈ cs, ∀ r ∈ l, FitR r) (hdx : cs.length ≤ c) (hs : Fit sw) (hf : fewL cs = true) (k : Nat) (hk : k < cs.length) (hsw : sw = (k : Int)) (hn : cs[k] = []) : Calls Try.prog 9 #[.slice B cs.length c, .int .i64 sw] w fun e w' => e = .returned (.bool true) ∧ Below w.heap.size w w' := by
  subst hsw
  obtain ⟨b, o, A', n', rfl, hbl, hc0, -, hn', hr⟩ := conf_cell hx (Below.refl _ w) hk
  have HA := Aside.mk hx
  have HFA := Aside.mk hf
  have HSM := Aside.mk (fewL_all hf)
  have HAT := Aside.mk (atL_in hk)
  have hmx := hx.max
  have d1 : decide ((k : Int) < 0) = false := decide_eq_false (by omega)
  have d2 : decide ((cs.length : Int) ≤ (k : Int)) = false := decide_eq_false (by omega)
  rw [hn] at HAT hc0
  have HC0 := Aside.mk hc0
  clear hx hFx hdx hf hs hc0 hr
  go_enter Try.func9, Try.ntmps9
  go_wp2_with (first | (go_at_call 16; refine (awake12_any _).mono ?_; rintro e1 w1 ⟨rfl, hb1⟩; have KB := Aside.mk hb1; clear hb1) | (go_at_call 19; refine (few_any _ _ _ _ (HA.out.below KB.out)).mono ?_; rw [HFA.out]; rintro e2 w2 ⟨rfl, hw2⟩; rw [hw2]; clear hw2) | (go_at_call 13; refine (at_any cs _ c k _ (HA.out.below KB.out) HSM.out).mono ?_; rw [HAT.out]; rintro e3 w3 ⟨v3, rfl, ho3, hb1⟩; obtain ⟨A3, k3, rfl, -⟩ := ho3.form; have KB := Aside.mk (below_call KB.out hb1); have c0 := (KB.out.cell (p := ⟨b, o + k, none⟩) hbl).trans HC0.out; have hlx := Nat.lt_of_lt_of_le hbl KB.out.size; clear hb1 ho3))
  go_ret
  exact ⟨rfl, KB.out⟩
set_option maxHeartbeats 2000000 in
theorem confOwn_main (B : Option Addr) (c : Nat) (cs : List (List Rul)) (sw : Int) (w : World) (hx : Rd confD w B cs.length cs) (hFx : ∀ l ∈ cs, ∀ r ∈ l, FitR r) (hdx : cs.length ≤ c) (hs : Fit sw) (hf : fewL cs = true) (k : Nat) (hk : k < cs.length) (hsw : sw = (k : Int)) (l : List Rul) (hl : cs[k] = l) (x : Rul) (h0 : 0 < l.length) (hx0 : l[0] = x) : Calls Try.prog 9 #[.slice B cs.length c, .int .i64 sw] w fun e w' => e = .returned (.bool true) ∧ Below w.heap.size w w' := by
  subst hsw
  obtain ⟨b, o, A', n', rfl, hbl, hc0, -, hn', hr⟩ := conf_cell hx (Below.refl _ w) hk
  have HA := Aside.mk hx
  have HFA := Aside.mk hf
  have HSM := Aside.mk (fewL_all hf)
  have HAT := Aside.mk (atL_in hk)
  have hmx := hx.max
  have d1 : decide ((k : Int) < 0) = false := decide_eq_false (by omega)
  have d2 : decide ((cs.length : Int) ≤ (k : Int)) = false := decide_eq_false (by omega)
  rw [hl] at HAT hc0 hr
  obtain ⟨b3, o3, _, rfl, -⟩ := Row.at hr 0 h0
  have HRC := Aside.mk (fun W (hb : Below w.heap.size w W) => rul_cells (c := n') hr hb h0)
  rw [hx0] at HRC
  obtain ⟨q, hQ⟩ : ∃ q, wrap64 (x.prio + 1) = q := ⟨_, rfl⟩
  have hq : q ≠ x.prio := by rw [← hQ]; unfold wrap64; omega
  obtain ⟨y, hy⟩ : ∃ y : Rul, y = { x with prio := q } := ⟨_, rfl⟩
  have HQ := Aside.mk hQ
  clear hQ
  have HAL : Aside (alikeI y x = false) := .mk (by
    rw [alike_key]
    refine decide_eq_false (fun h => ?_)
    rw [hy] at h
    unfold keyR at h
    simp only [Prod.mk.injEq] at h
    exact hq h.2.2.2)
  have HY := Aside.mk hy
  have HX0 := Aside.mk hx0
  have hmr := hr.max
  have d3 : ((l.length : Int) == 0) = false := beq_false_of_ne (by omega)
  have hqq := eqRul
  have HC0 := Aside.mk hc0
  clear hx hFx hdx hf hs hc0 hr hy hx0 hl hq
  go_enter Try.func9, Try.ntmps9
  go_wp2_with (first | (go_at_call 16; refine (awake12_any _).mono ?_; rintro e1 w1 ⟨rfl, hb1⟩; have KB := Aside.mk hb1; clear hb1) | (go_at_call 19; refine (few_any _ _ _ _ (HA.out.below KB.out)).mono ?_; rw [HFA.out]; rintro e2 w2 ⟨rfl, hw2⟩; rw [hw2]; clear hw2) | (go_at_call 13; refine (at_any cs _ c k _ (HA.out.below KB.out) HSM.out).mono ?_; rw [HAT.out]; rintro e3 w3 ⟨v3, rfl, ho3, hb1⟩; obtain ⟨g, cc, rfl, hg1, hg2, hcc⟩ := ho3.addr h0; have KO := Aside.mk (ho3.mono KB.out.size); have hgw : w.heap.size ≤ g := Nat.le_trans KB.out.size hg1; have KB := Aside.mk (below_call KB.out hb1); have c0 := (KB.out.cell (p := ⟨b, o + k, none⟩) hbl).trans HC0.out; have hlx := Nat.lt_of_lt_of_le hbl KB.out.size; obtain ⟨hbl3, p0, p1, p2, p3, p4, p5⟩ := HRC.out _ KB.out; have hl3 := Nat.lt_of_lt_of_le hbl3 KB.out.size; have g3 := KO.out.at h0 3 (.int .i64 x.prio) (by rw [HX0.out]; rfl); have gf := KO.out.frozen 3; simp at p0 p1 p2 p3 p4 p5 g3; clear hb1 ho3))
  rw [HQ.out]
  have hwr : ∃ wr, wr = (w3.setCell ⟨g, 3, none⟩ (.int .i64 q)).alloc (.cells #[.int .i64 x.addr, .int .i64 x.len, .int .i64 x.inn, .int .i64 x.prio, .int .i64 x.kind, .int .i64 x.port] 58) := ⟨_, rfl⟩
  obtain ⟨wr, hwr⟩ := hwr
  have hKB : Below w.heap.size w wr := by rw [hwr]; exact below_alloc (below_set KB.out hgw _) _
  have hKO : Own rulF wr w.heap.size 58 (.slice (some ⟨g, 0, none⟩) l.length cc) (l.set 0 y) := by
    rw [hwr]
    exact (KO.out.put h0 y 3 (.int .i64 q) (by decide) (by rw [HX0.out, HY.out]; rfl)).alloc _
  have hZB : wr.heap[w3.heap.size]? = some (.cells #[.int .i64 x.addr, .int .i64 x.len, .int .i64 x.inn, .int .i64 x.prio, .int .i64 x.kind, .int .i64 x.port] 58) := by rw [hwr]; exact heapN _ _ (by simp)
  rw [← hwr]
  clear hwr c0 hlx p0 p1 p2 p3 p4 p5 g3 gf
  have C0 := Aside.mk ((hKB.cell (p := ⟨b, o + k, none⟩) hbl).trans HC0.out)
  have hbl : b < wr.heap.size := Nat.lt_of_lt_of_le hbl hKB.size
  obtain ⟨-, p0, p1, p2, p3, p4, p5⟩ := HRC.out _ hKB
  simp only [Nat.zero_mul, Nat.add_zero] at p0 p1 p2 p3 p4 p5
  have hx := Nat.lt_of_lt_of_le hbl3 hKB.size
  have hz := blk_lt hZB
  have hls : 0 < (l.set 0 y).length := by rw [List.length_set]; exact h0
  have hy : g < wr.heap.size := (hKO.lt g rfl).2
  have X0 := Aside.mk p0
  have X1 := Aside.mk p1
  have X2 := Aside.mk p2
  have X3 := Aside.mk p3
  have X4 := Aside.mk p4
  have X5 := Aside.mk p5
  have Y0 := Aside.mk (show wr.cell? ⟨g, 0, none⟩ = some (.int .i64 y.addr) by simpa [rulF] using hKO.at hls 0 (.int .i64 y.addr) (by rw [List.getElem_set_self]; rfl))
  have Y1 := Aside.mk (show wr.cell? ⟨g, 1, none⟩ = some (.int .i64 y.len) by simpa [rulF] using hKO.at hls 1 (.int .i64 y.len) (by rw [List.getElem_set_self]; rfl))
  have Y2 := Aside.mk (show wr.cell? ⟨g, 2, none⟩ = some (.int .i64 y.inn) by simpa [rulF] using hKO.at hls 2 (.int .i64 y.inn) (by rw [List.getElem_set_self]; rfl))
  have Y3 := Aside.mk (show wr.cell? ⟨g, 3, none⟩ = some (.int .i64 y.prio) by simpa [rulF] using hKO.at hls 3 (.int .i64 y.prio) (by rw [List.getElem_set_self]; rfl))
  have Y4 := Aside.mk (show wr.cell? ⟨g, 4, none⟩ = some (.int .i64 y.kind) by simpa [rulF] using hKO.at hls 4 (.int .i64 y.kind) (by rw [List.getElem_set_self]; rfl))
  have Y5 := Aside.mk (show wr.cell? ⟨g, 5, none⟩ = some (.int .i64 y.port) by simpa [rulF] using hKO.at hls 5 (.int .i64 y.port) (by rw [List.getElem_set_self]; rfl))
  have Z0 := Aside.mk (show wr.cell? ⟨w3.heap.size, 0, none⟩ = some (.int .i64 x.addr) by simpa using blk_cell hZB 0)
  have Z1 := Aside.mk (show wr.cell? ⟨w3.heap.size, 1, none⟩ = some (.int .i64 x.len) by simpa using blk_cell hZB 1)
  have Z2 := Aside.mk (show wr.cell? ⟨w3.heap.size, 2, none⟩ = some (.int .i64 x.inn) by simpa using blk_cell hZB 2)
  have Z3 := Aside.mk (show wr.cell? ⟨w3.heap.size, 3, none⟩ = some (.int .i64 x.prio) by simpa using blk_cell hZB 3)
  have Z4 := Aside.mk (show wr.cell? ⟨w3.heap.size, 4, none⟩ = some (.int .i64 x.kind) by simpa using blk_cell hZB 4)
  have Z5 := Aside.mk (show wr.cell? ⟨w3.heap.size, 5, none⟩ = some (.int .i64 x.port) by simpa using blk_cell hZB 5)
  have KB := Aside.mk hKB
  clear p0 p1 p2 p3 p4 p5 hKB hKO hZB hls HX0 HY
  refine wp_region_facts (Base := ownB x y (some ⟨b3, o3, none⟩) l.length n' (some ⟨b, o, none⟩) cs.length c k ⟨b, o + k, none⟩ ⟨b3, o3, none⟩ ⟨g, 0, none⟩ cc wr) (q := ownQ) (Fs := ownF x y (some ⟨b3, o3, none⟩) l.length n' (some ⟨b, o, none⟩) cs.length c k ⟨b, o + k, none⟩ ⟨b3, o3, none⟩ ⟨g, 0, none⟩ cc wr) (by kernel_rfl) (by kernel_rfl) (by kernel_rfl) (by kernel_rfl) (below_drew (Below.refl _ _)) ?_ ?_
  ·
    have hBs := ownB_stay x y (some ⟨b3, o3, none⟩) l.length n' (some ⟨b, o, none⟩) cs.length c k ⟨b, o + k, none⟩ ⟨b3, o3, none⟩ ⟨g, 0, none⟩ cc wr
    have hFs := ownF_stay x y (some ⟨b3, o3, none⟩) l.length n' (some ⟨b, o, none⟩) cs.length c k ⟨b, o + k, none⟩ ⟨b3, o3, none⟩ ⟨g, 0, none⟩ cc wr
    refine ⟨?_, ?_, ?_, ?_, ?_, ?_, ?_, ?_, ?_, ?_, ?_, ?_, ?_, ?_, ?_, ?_, ?_, trivial⟩
    · refine step_pure hBs hFs rfl fun a' w' hB hag hp => ?_
      have h0 := hag 0 (by kernel_rfl)
      simp at h0
      unfold OpYields
      go_simp
      exact ⟨Below.refl _ _, rfl⟩
    · refine step_pure hBs hFs rfl fun a' w' hB hag hp => ?_
      have h1 := hag 1 (by kernel_rfl)
      simp at h1
      unfold OpYields
      go_simp
      exact ⟨Below.refl _ _, rfl⟩
    · refine step_pure hBs hFs rfl fun a' w' hB hag hp => ?_
      have h68 : a'.tmps.getD 68 undef = _ := hp 0 (by kernel_rfl)
      have h69 : a'.tmps.getD 69 undef = _ := hp 1 (by kernel_rfl)
      simp at h68 h69
      unfold OpYields
      go_simp
      exact ⟨Below.refl _ _, rfl⟩
    · refine step_pure hBs hFs rfl fun a' w' hB hag hp => ?_
      have h70 : a'.tmps.getD 70 undef = _ := hp 2 (by kernel_rfl)
      have hB : Below wr.heap.size wr w' := hB; have c0 := (hB.cell (p := ⟨b, o + k, none⟩) hbl).trans C0.out; have x0 := (hB.cell (p := ⟨b3, o3, none⟩) hx).trans X0.out; have x1 := (hB.cell (p := ⟨b3, o3 + 1, none⟩) hx).trans X1.out; have x2 := (hB.cell (p := ⟨b3, o3 + 2, none⟩) hx).trans X2.out; have x3 := (hB.cell (p := ⟨b3, o3 + 3, none⟩) hx).trans X3.out; have x4 := (hB.cell (p := ⟨b3, o3 + 4, none⟩) hx).trans X4.out; have x5 := (hB.cell (p := ⟨b3, o3 + 5, none⟩) hx).trans X5.out; have y0 := (hB.cell (p := ⟨g, 0, none⟩) hy).trans Y0.out; have y1 := (hB.cell (p := ⟨g, 1, none⟩) hy).trans Y1.out; have y2 := (hB.cell (p := ⟨g, 2, none⟩) hy).trans Y2.out; have y3 := (hB.cell (p := ⟨g, 3, none⟩) hy).trans Y3.out; have y4 := (hB.cell (p := ⟨g, 4, none⟩) hy).trans Y4.out; have y5 := (hB.cell (p := ⟨g, 5, none⟩) hy).trans Y5.out; have z0 := (hB.cell (p := ⟨w3.heap.size, 0, none⟩) hz).trans Z0.out; have z1 := (hB.cell (p := ⟨w3.heap.size, 1, none⟩) hz).trans Z1.out; have z2 := (hB.cell (p := ⟨w3.heap.size, 2, none⟩) hz).trans Z2.out; have z3 := (hB.cell (p := ⟨w3.heap.size, 3, none⟩) hz).trans Z3.out; have z4 := (hB.cell (p := ⟨w3.heap.size, 4, none⟩) hz).trans Z4.out; have z5 := (hB.cell (p := ⟨w3.heap.size, 5, none⟩) hz).trans Z5.out
      simp at h70
      unfold OpYields
      go_simp
      exact ⟨Below.refl _ _, rfl⟩
    · refine step_pure hBs hFs rfl fun a' w' hB hag hp => ?_
      have h71 : a'.tmps.getD 71 undef = _ := hp 3 (by kernel_rfl)
      simp at h71
      unfold OpYields
      go_simp
      exact ⟨Below.refl _ _, rfl⟩
    · refine step_pure hBs hFs rfl fun a' w' hB hag hp => ?_
      have h72 : a'.tmps.getD 72 undef = _ := hp 4 (by kernel_rfl)
      have hB : Below wr.heap.size wr w' := hB; have c0 := (hB.cell (p := ⟨b, o + k, none⟩) hbl).trans C0.out; have x0 := (hB.cell (p := ⟨b3, o3, none⟩) hx).trans X0.out; have x1 := (hB.cell (p := ⟨b3, o3 + 1, none⟩) hx).trans X1.out; have x2 := (hB.cell (p := ⟨b3, o3 + 2, none⟩) hx).trans X2.out; have x3 := (hB.cell (p := ⟨b3, o3 + 3, none⟩) hx).trans X3.out; have x4 := (hB.cell (p := ⟨b3, o3 + 4, none⟩) hx).trans X4.out; have x5 := (hB.cell (p := ⟨b3, o3 + 5, none⟩) hx).trans X5.out; have y0 := (hB.cell (p := ⟨g, 0, none⟩) hy).trans Y0.out; have y1 := (hB.cell (p := ⟨g, 1, none⟩) hy).trans Y1.out; have y2 := (hB.cell (p := ⟨g, 2, none⟩) hy).trans Y2.out; have y3 := (hB.cell (p := ⟨g, 3, none⟩) hy).trans Y3.out; have y4 := (hB.cell (p := ⟨g, 4, none⟩) hy).trans Y4.out; have y5 := (hB.cell (p := ⟨g, 5, none⟩) hy).trans Y5.out; have z0 := (hB.cell (p := ⟨w3.heap.size, 0, none⟩) hz).trans Z0.out; have z1 := (hB.cell (p := ⟨w3.heap.size, 1, none⟩) hz).trans Z1.out; have z2 := (hB.cell (p := ⟨w3.heap.size, 2, none⟩) hz).trans Z2.out; have z3 := (hB.cell (p := ⟨w3.heap.size, 3, none⟩) hz).trans Z3.out; have z4 := (hB.cell (p := ⟨w3.heap.size, 4, none⟩) hz).trans Z4.out; have z5 := (hB.cell (p := ⟨w3.heap.size, 5, none⟩) hz).trans Z5.out
      simp at h72
      unfold OpYields
      go_simp
      exact ⟨Below.refl _ _, rfl⟩
    · refine step_pure hBs hFs rfl fun a' w' hB hag hp => ?_
      have h8 := hag 8 (by kernel_rfl)
      have hB : Below wr.heap.size wr w' := hB; have c0 := (hB.cell (p := ⟨b, o + k, none⟩) hbl).trans C0.out; have x0 := (hB.cell (p := ⟨b3, o3, none⟩) hx).trans X0.out; have x1 := (hB.cell (p := ⟨b3, o3 + 1, none⟩) hx).trans X1.out; have x2 := (hB.cell (p := ⟨b3, o3 + 2, none⟩) hx).trans X2.out; have x3 := (hB.cell (p := ⟨b3, o3 + 3, none⟩) hx).trans X3.out; have x4 := (hB.cell (p := ⟨b3, o3 + 4, none⟩) hx).trans X4.out; have x5 := (hB.cell (p := ⟨b3, o3 + 5, none⟩) hx).trans X5.out; have y0 := (hB.cell (p := ⟨g, 0, none⟩) hy).trans Y0.out; have y1 := (hB.cell (p := ⟨g, 1, none⟩) hy).trans Y1.out; have y2 := (hB.cell (p := ⟨g, 2, none⟩) hy).trans Y2.out; have y3 := (hB.cell (p := ⟨g, 3, none⟩) hy).trans Y3.out; have y4 := (hB.cell (p := ⟨g, 4, none⟩) hy).trans Y4.out; have y5 := (hB.cell (p := ⟨g, 5, none⟩) hy).trans Y5.out; have z0 := (hB.cell (p := ⟨w3.heap.size, 0, none⟩) hz).trans Z0.out; have z1 := (hB.cell (p := ⟨w3.heap.size, 1, none⟩) hz).trans Z1.out; have z2 := (hB.cell (p := ⟨w3.heap.size, 2, none⟩) hz).trans Z2.out; have z3 := (hB.cell (p := ⟨w3.heap.size, 3, none⟩) hz).trans Z3.out; have z4 := (hB.cell (p := ⟨w3.heap.size, 4, none⟩) hz).trans Z4.out; have z5 := (hB.cell (p := ⟨w3.heap.size, 5, none⟩) hz).trans Z5.out
      simp at h8
      unfold OpYields
      go_simp
      exact ⟨Below.refl _ _, rfl⟩
    · refine step_pure hBs hFs rfl fun a' w' hB hag hp => ?_
      have h73 : a'.tmps.getD 73 undef = _ := hp 5 (by kernel_rfl)
      have h74 : a'.tmps.getD 74 undef = _ := hp 6 (by kernel_rfl)
      have ueq := Try.underlying3
      have ueqb := Try.underlying4
      simp at h73 h74
      unfold OpYields
      go_simp
      exact ⟨Below.refl _ _, rfl⟩
    · refine step_pure hBs hFs rfl fun a' w' hB hag hp => ?_
      have h75 : a'.tmps.getD 75 undef = _ := hp 7 (by kernel_rfl)
      simp at h75
      unfold OpYields
      go_simp
      exact ⟨Below.refl _ _, rfl⟩
    · refine step_pure_g hBs hFs fun a' w' hB hag hp => ?_
      have hg : a'.tmps.getD 76 undef = _ := hp 8 (by kernel_rfl)
      have h7 := hag 7 (by kernel_rfl)
      refine ⟨wanted_of hg rfl rfl, ?_⟩
      simp at h7
      unfold OpYields
      go_simp
      exact ⟨Below.refl _ _, rfl⟩
    · refine step_pure_g hBs hFs fun a' w' hB hag hp => ?_
      have hg : a'.tmps.getD 76 undef = _ := hp 8 (by kernel_rfl)
      have h77 : a'.tmps.getD 77 undef = _ := hp 9 (by kernel_rfl)
      refine ⟨wanted_of hg rfl rfl, ?_⟩
      simp at h77
      unfold OpYields
      go_simp
      exact ⟨Below.refl _ _, rfl⟩
    · refine step_pure_g hBs hFs fun a' w' hB hag hp => ?_
      have hg : a'.tmps.getD 76 undef = _ := hp 8 (by kernel_rfl)
      have h78 : a'.tmps.getD 78 undef = _ := hp 10 (by kernel_rfl)
      have hB : Below wr.heap.size wr w' := hB; have c0 := (hB.cell (p := ⟨b, o + k, none⟩) hbl).trans C0.out; have x0 := (hB.cell (p := ⟨b3, o3, none⟩) hx).trans X0.out; have x1 := (hB.cell (p := ⟨b3, o3 + 1, none⟩) hx).trans X1.out; have x2 := (hB.cell (p := ⟨b3, o3 + 2, none⟩) hx).trans X2.out; have x3 := (hB.cell (p := ⟨b3, o3 + 3, none⟩) hx).trans X3.out; have x4 := (hB.cell (p := ⟨b3, o3 + 4, none⟩) hx).trans X4.out; have x5 := (hB.cell (p := ⟨b3, o3 + 5, none⟩) hx).trans X5.out; have y0 := (hB.cell (p := ⟨g, 0, none⟩) hy).trans Y0.out; have y1 := (hB.cell (p := ⟨g, 1, none⟩) hy).trans Y1.out; have y2 := (hB.cell (p := ⟨g, 2, none⟩) hy).trans Y2.out; have y3 := (hB.cell (p := ⟨g, 3, none⟩) hy).trans Y3.out; have y4 := (hB.cell (p := ⟨g, 4, none⟩) hy).trans Y4.out; have y5 := (hB.cell (p := ⟨g, 5, none⟩) hy).trans Y5.out; have z0 := (hB.cell (p := ⟨w3.heap.size, 0, none⟩) hz).trans Z0.out; have z1 := (hB.cell (p := ⟨w3.heap.size, 1, none⟩) hz).trans Z1.out; have z2 := (hB.cell (p := ⟨w3.heap.size, 2, none⟩) hz).trans Z2.out; have z3 := (hB.cell (p := ⟨w3.heap.size, 3, none⟩) hz).trans Z3.out; have z4 := (hB.cell (p := ⟨w3.heap.size, 4, none⟩) hz).trans Z4.out; have z5 := (hB.cell (p := ⟨w3.heap.size, 5, none⟩) hz).trans Z5.out
      refine ⟨wanted_of hg rfl rfl, ?_⟩
      simp at h78
      unfold OpYields
      go_simp
      exact ⟨Below.refl _ _, rfl⟩
    · refine step_pure_g hBs hFs fun a' w' hB hag hp => ?_
      have hg : a'.tmps.getD 76 undef = _ := hp 8 (by kernel_rfl)
      have h8 := hag 8 (by kernel_rfl)
      have hB : Below wr.heap.size wr w' := hB; have c0 := (hB.cell (p := ⟨b, o + k, none⟩) hbl).trans C0.out; have x0 := (hB.cell (p := ⟨b3, o3, none⟩) hx).trans X0.out; have x1 := (hB.cell (p := ⟨b3, o3 + 1, none⟩) hx).trans X1.out; have x2 := (hB.cell (p := ⟨b3, o3 + 2, none⟩) hx).trans X2.out; have x3 := (hB.cell (p := ⟨b3, o3 + 3, none⟩) hx).trans X3.out; have x4 := (hB.cell (p := ⟨b3, o3 + 4, none⟩) hx).trans X4.out; have x5 := (hB.cell (p := ⟨b3, o3 + 5, none⟩) hx).trans X5.out; have y0 := (hB.cell (p := ⟨g, 0, none⟩) hy).trans Y0.out; have y1 := (hB.cell (p := ⟨g, 1, none⟩) hy).trans Y1.out; have y2 := (hB.cell (p := ⟨g, 2, none⟩) hy).trans Y2.out; have y3 := (hB.cell (p := ⟨g, 3, none⟩) hy).trans Y3.out; have y4 := (hB.cell (p := ⟨g, 4, none⟩) hy).trans Y4.out; have y5 := (hB.cell (p := ⟨g, 5, none⟩) hy).trans Y5.out; have z0 := (hB.cell (p := ⟨w3.heap.size, 0, none⟩) hz).trans Z0.out; have z1 := (hB.cell (p := ⟨w3.heap.size, 1, none⟩) hz).trans Z1.out; have z2 := (hB.cell (p := ⟨w3.heap.size, 2, none⟩) hz).trans Z2.out; have z3 := (hB.cell (p := ⟨w3.heap.size, 3, none⟩) hz).trans Z3.out; have z4 := (hB.cell (p := ⟨w3.heap.size, 4, none⟩) hz).trans Z4.out; have z5 := (hB.cell (p := ⟨w3.heap.size, 5, none⟩) hz).trans Z5.out
      refine ⟨wanted_of hg rfl rfl, ?_⟩
      simp at h8
      unfold OpYields
      go_simp
      exact ⟨Below.refl _ _, rfl⟩
    · refine step_pure_g hBs hFs fun a' w' hB hag hp => ?_
      have hg : a'.tmps.getD 76 undef = _ := hp 8 (by kernel_rfl)
      have h79 : a'.tmps.getD 79 undef = _ := hp 11 (by kernel_rfl)
      have h80 : a'.tmps.getD 80 undef = _ := hp 12 (by kernel_rfl)
      refine ⟨wanted_of hg rfl rfl, ?_⟩
      simp at h79 h80
      unfold OpYields
      go_simp
      refine (alike_any y x w').mono ?_
      rw [HAL.out]
      rintro e w1 ⟨rfl, hb⟩
      exact ⟨_, rfl, hb, rfl⟩
    · refine step_pure_g hBs hFs fun a' w' hB hag hp => ?_
      have hg : a'.tmps.getD 76 undef = _ := hp 8 (by kernel_rfl)
      have h81 : a'.tmps.getD 81 undef = _ := hp 13 (by kernel_rfl)
      refine ⟨wanted_of hg rfl rfl, ?_⟩
      simp at h81
      unfold OpYields
      go_simp
      exact ⟨Below.refl _ _, rfl⟩
    · refine step_pure hBs hFs rfl fun a' w' hB hag hp => ?_
      have h76 : a'.tmps.getD 76 undef = _ := hp 8 (by kernel_rfl)
      have h82 : a'.tmps.getD 82 undef = _ := hp 14 (by kernel_rfl)
      simp at h76 h82
      unfold OpYields
      go_simp
      exact ⟨Below.refl _ _, rfl⟩
    · refine step_pure hBs hFs rfl fun a' w' hB hag hp => ?_
      have h83 : a'.tmps.getD 83 undef = _ := hp 15 (by kernel_rfl)
      simp at h83
      unfold OpYields
      go_simp
      exact ⟨Below.refl _ _, rfl⟩
  intro vs w' hB hF
  simp only [AllF, forall_const, reduceCtorEq, false_implies, Fof, ownF, ownQ, Nat.zero_add, Nat.reduceAdd, Nat.reduceEqDiff, if_true, if_false, List.getD_cons_succ, List.getD_cons_zero] at hF
  obtain ⟨f0, f1, f2, f3, f4, f5, f6, f7, f8, f9, f10, f11, f12, f13, f14, f15, f16, -⟩ := hF
  simp only [putAll, Act.put, Nat.zero_add, Nat.reduceAdd, f0, f1, f2, f3, f4, f5, f6, f7, f8, f9, f10, f11, f12, f13, f14, f15, f16, List.setIfInBounds_toArray, List.set_cons_zero, List.set_cons_succ]
  have KB := Aside.mk (below_call KB.out hB)
  clear hB
  go_wp2
  go_ret
  exact ⟨rfl, KB.out⟩
theorem confOwn_walk (B : Option Addr) (c : Nat) (cs : List (List Rul)) (sw : Int) (w : World) (hx : Rd confD w B cs.length cs) (hFx : ∀ l ∈ cs, ∀ r ∈ l, FitR r) (hdx : cs.length ≤ c) (hs : Fit sw) : Calls Try.prog 9 #[.slice B cs.length c, .int .i64 sw] w fun e w' => e = .returned (.bool true) ∧ Below w.heap.size w w' := by
  cases hf : fewL cs
  · exact confOwn_few B c cs sw w hx hFx hdx hs hf
  by_cases ho : sw < 0 ∨ (cs.length : Int) ≤ sw
  · exact confOwn_off B c cs sw w hx hFx hdx hs hf ho
  obtain ⟨k, hk⟩ : ∃ k : Nat, sw = (k : Int) := ⟨sw.toNat, by omega⟩
  have hlt : k < cs.length := by omega
  by_cases h0 : 0 < cs[k].length
  · exact confOwn_main B c cs sw w hx hFx hdx hs hf k hlt hk _ rfl _ h0 rfl
  · exact confOwn_nil B c cs sw w hx hFx hdx hs hf k hlt hk (List.length_eq_zero_iff.1 (by omega))
end Go.Proofs.Ytlnnkkbcmidddaa
