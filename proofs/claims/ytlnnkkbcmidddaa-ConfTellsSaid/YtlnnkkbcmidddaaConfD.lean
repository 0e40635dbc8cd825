/- The walks through the document's Alike of layer 4 and rules of layer 12. -/
import Derived.Test.YtlnnkkbcmidddaaConfP
import Derived.Test.YtlnnkkbcmidddaaMayD
import Derived.Test.YtlnnkkbcmidddaaTopoW
import Derived.BigQuiet
namespace Go.Proofs.Ytlnnkkbcmidddaa
open Go.RowKit
set_option maxRecDepth 100000
theorem alikeR4_any (a b : Rul) (w : World) : Calls Try.prog 58 #[rulV a, rulV b] w fun e w' => e = .returned (.bool (alikeI a b)) ∧ Below w.heap.size w w' := by
  have hq := eqPfx
  have HE := Aside.mk (show alikeI a b = decide (a.addr = b.addr ∧ a.len = b.len ∧ a.inn = b.inn ∧ a.prio = b.prio) by
    rw [alike_key]
    unfold keyR
    simp only [Prod.mk.injEq])
  by_cases h1 : a.addr = b.addr ∧ a.len = b.len
  · have d1 : (decide (a.addr = b.addr) && decide (a.len = b.len)) = true := by simpa using h1
    by_cases h2 : a.inn = b.inn
    · have d2 : (a.inn == b.inn) = true := by simpa using h2
      rw [show alikeI a b = (a.prio == b.prio) by
        rw [HE.out, Bool.eq_iff_iff, decide_eq_true_eq, beq_iff_eq]
        exact ⟨fun h => h.2.2.2, fun h => ⟨h1.1, h1.2, h2, h⟩⟩]
      clear h1 h2
      go_enter Try.func58, Try.ntmps58; go_wp2; go_ret; exact ⟨rfl, below_alloc (below_alloc (Below.refl _ _) _) _⟩
    · have d2 : (a.inn == b.inn) = false := by simpa using h2
      rw [show alikeI a b = false by rw [HE.out]; exact decide_eq_false (fun h => h2 h.2.2.1)]
      clear h1 h2
      go_enter Try.func58, Try.ntmps58; go_wp2; go_ret; exact ⟨rfl, below_alloc (below_alloc (Below.refl _ _) _) _⟩
  · have d1 : (decide (a.addr = b.addr) && decide (a.len = b.len)) = false := by simpa using h1
    rw [show alikeI a b = false by rw [HE.out]; exact decide_eq_false (fun h => h1 ⟨h.1, h.2.1⟩)]
    clear h1
    go_enter Try.func58, Try.ntmps58; go_wp2; go_ret; exact ⟨rfl, below_alloc (below_alloc (Below.refl _ _) _) _⟩
def alkB (x y : Rul) (t : Bool) (b o c n i k : Nat) (wr : World) (w' : World) : Prop :=
  Below wr.heap.size wr w'
def alkF (x y : Rul) (t : Bool) (b o c n i k : Nat) (wr : World) : List (Value → Value → World → Prop) :=
  [fun _ v _ => v = .slice (some ⟨b, o, none⟩) n c,
   fun _ v _ => v = .int .i64 i,
   fun _ v _ => v = .pointer (some ⟨b, o + i * 6, none⟩),
   fun _ v _ => v = rulV x,
   fun _ v _ => v = .slice (some ⟨b, o, none⟩) n c,
   fun _ v _ => v = .int .i64 k,
   fun _ v _ => v = .pointer (some ⟨b, o + k * 6, none⟩),
   fun _ v _ => v = rulV y,
   fun _ v _ => v = .bool t,
   fun _ v _ => v = .bool t]
def alkQ : Nat → Nat := fun i => i
theorem alkF_stay (x y : Rul) (t : Bool) (b o c n i k : Nat) (wr : World) : AllStay (alkF x y t b o c n i k wr) := by
  intro F hF u v w' w'' hb h
  simp only [alkF, List.mem_cons, List.not_mem_nil, or_false] at hF
  rcases hF with rfl | rfl | rfl | rfl | rfl | rfl | rfl | rfl | rfl | rfl
  · exact h
  · exact h
  · exact h
  · exact h
  · exact h
  · exact h
  · exact h
  · exact h
  · exact h
  · exact h
theorem alkB_stay (x y : Rul) (t : Bool) (b o c n i k : Nat) (wr : World) : Stays (alkB x y t b o c n i k wr) := by
  intro w' w'' hb h
  exact below_call h hb
def altB (x y : Rul) (t : Bool) (b o c n i k : Nat) (wr : World) (w' : World) : Prop :=
  Below wr.heap.size wr w'
def altF (x y : Rul) (t : Bool) (b o c n i k : Nat) (wr : World) : List (Value → Value → World → Prop) :=
  [fun _ v _ => v = .slice (some ⟨b, o, none⟩) n c,
   fun _ v _ => v = .int .i64 i,
   fun _ v _ => v = .pointer (some ⟨b, o + i * 6, none⟩),
   fun _ v _ => v = rulV x,
   fun _ v _ => v = .slice (some ⟨b, o, none⟩) n c,
   fun _ v _ => v = .int .i64 k,
   fun _ v _ => v = .pointer (some ⟨b, o + k * 6, none⟩),
   fun _ v _ => v = rulV y,
   fun _ v _ => v = .bool t,
   fun _ v _ => v = .bool t]
def altQ : Nat → Nat := fun i => i
theorem altF_stay (x y : Rul) (t : Bool) (b o c n i k : Nat) (wr : World) : AllStay (altF x y t b o c n i k wr) := by
  intro F hF u v w' w'' hb h
  simp only [altF, List.mem_cons, List.not_mem_nil, or_false] at hF
  rcases hF with rfl | rfl | rfl | rfl | rfl | rfl | rfl | rfl | rfl | rfl
  · exact h
  · exact h
  · exact h
  · exact h
  · exact h
  · exact h
  · exact h
  · exact h
  · exact h
  · exact h
theorem altB_stay (x y : Rul) (t : Bool) (b o c n i k : Nat) (wr : World) : Stays (altB x y t b o c n i k wr) := by
  intro w' w'' hb h
  exact below_call h hb
theorem nodup_snoc {l : List Rul} {k : Nat} (h : k < l.length) : ((l.take (k + 1)).map keyR).Nodup ↔ ((l.take k).map keyR).Nodup ∧ keyR l[k] ∉ (l.take k).map keyR := by
  rw [List.take_succ_eq_append_getElem h, List.map_append, List.nodup_append]
  constructor
  · rintro ⟨h1, -, h3⟩
    exact ⟨h1, fun hin => h3 _ hin _ (by simp) rfl⟩
  · rintro ⟨h1, h2⟩
    refine ⟨h1, by simp, fun a ha b hb => ?_⟩
    simp only [List.map_cons, List.map_nil, List.mem_singleton] at hb
    rintro rfl
    rw [hb] at ha
    exact h2 ha
theorem nodup_take {l : List Rul} (k : Nat) (h : (l.map keyR).Nodup) : ((l.take k).map keyR).Nodup := by
  rw [List.map_take]
  exact (List.take_sublist k _).nodup h
theorem key_snoc {l : List Rul} {j : Nat} (x : Plc) (h : j < l.length) : x ∉ (l.take (j + 1)).map keyR ↔ x ∉ (l.take j).map keyR ∧ ¬ x = keyR l[j] := by
  rw [List.take_succ_eq_append_getElem h, List.map_append, List.mem_append, not_or]
  simp
theorem key_take {l : List Rul} {i j : Nat} {x : Plc} (hij : i ≤ j) (h : x ∈ (l.take i).map keyR) : x ∈ (l.take j).map keyR := by
  obtain ⟨r, hr, rfl⟩ := List.mem_map.1 h
  have : l.take i = (l.take j).take i := by rw [List.take_take, Nat.min_eq_left hij]
  rw [this] at hr
  exact List.mem_map.2 ⟨r, List.mem_of_mem_take hr, rfl⟩
set_option maxHeartbeats 2000000 in
theorem rulesR_any (s p : Int) (A : Option Addr) (c : Nat) (ls : List Lnk) (l : List Rul) (C : Option Addr) (d : Nat) (w : World) (hl : Rd rulD w C l.length l) :
    Calls Try.prog 42 #[.agg #[.int .i64 s, .int .i64 p, .slice A ls.length c], .slice C l.length d] w fun e w' => e = .returned (.bool (rulesP p l)) ∧ Below w.heap.size w w' := by
  have hn := hl.max
  have HL := Aside.mk hl
  have HR := Aside.mk (show rulesP p l = (decide (l.length ≤ 40) && decide ((l.map keyR).Nodup) && l.all (okR p)) from rfl)
  clear hl
  by_cases h40 : l.length ≤ 40
  · have d0 : decide ((40 : Int) < (l.length : Int)) = false := decide_eq_false (by omega)
    have H40 := Aside.mk h40
    clear h40
    go_enter Try.func42, Try.ntmps42
    go_wp2
    clear d0
    go_loopw [5] (fun i wr => ∃ k : Nat, k ≤ l.length ∧ i = .int .i64 k ∧ (l.take k).all (okR p) = true ∧ ((l.take k).map keyR).Nodup ∧ Below w.heap.size w wr ∧ wr.heap[w.heap.size]? = some (.cells #[.int .i64 s, .int .i64 p, .slice A ls.length c] 24)) (fun i _ => l.length - (intOf i).toNat)
    case atStart => exact ⟨0, Nat.zero_le _, rfl, by simp, by simp, below_alloc (Below.refl _ _) _, heapN _ _ rfl⟩
    case round =>
      obtain ⟨k, hk, rfl, ha, hd, hb, hx⟩ := hrel
      have HAL2 := Aside.mk ha
      have HND := Aside.mk hd
      have KB := Aside.mk hb
      have HX := Aside.mk hx
      clear ha hd hx
      by_cases hlt : k < l.length
      · obtain ⟨b, o, _, rfl, -⟩ := Row.at HL.out k hlt
        have HCC := Aside.mk (fun W (hb : Below w.heap.size w W) => rul_cells (c := d) HL.out hb hlt)
        have HT := Aside.mk (all_snoc (f := okR p) hlt)
        have HU := Aside.mk (nodup_snoc hlt)
        have HN := Aside.mk (fun h => all_not (f := okR p) hlt h)
        obtain ⟨x, hx⟩ : ∃ x, l[k] = x := ⟨_, rfl⟩
        rw [hx] at HCC HT HN HU
        have HOK := Aside.mk (show okR p x = (mayI x && decide (x.inn < p) && !(x.kind == 1 && decide (p ≤ x.port))) from rfl)
        obtain ⟨-, p0, p1, p2, p3, p4, p5⟩ := HCC.out _ hb
        clear hx hb
        cases hm : mayI x
        · have HM := Aside.mk hm
          have HRF : Aside (rulesP p l = false) := .mk (by rw [HR.out, HN.out (by rw [HOK.out, hm]; rfl)]; simp)
          clear hm
          go_wp2_with (go_at_call 57; refine (mayR4_any x _).mono ?_; rw [HM.out]; rintro e w1 ⟨rfl, hb1⟩; have KC := Aside.mk (below_call KB.out hb1); have HX := Aside.mk (blk_keep HX.out hb1); have y1 := blk_cell HX.out 1; have hly := blk_lt HX.out; simp at y1; obtain ⟨-, p0, p1, p2, p3, p4, p5⟩ := HCC.out _ KC.out; clear hb1); go_quiet (fail); go_wp2; go_ret; exact ⟨ret_bool HRF.out.symm, below_drewN KC.out _⟩
        have HM := Aside.mk hm
        by_cases c1 : p ≤ x.inn
        · have d1 : decide (p ≤ x.inn) = true := decide_eq_true c1
          have HRF : Aside (rulesP p l = false) := .mk (by rw [HR.out, HN.out (by rw [HOK.out, hm, decide_eq_false (show ¬ x.inn < p by omega)]; rfl)]; simp)
          clear hm c1
          go_wp2_with (go_at_call 57; refine (mayR4_any x _).mono ?_; rw [HM.out]; rintro e w1 ⟨rfl, hb1⟩; have KC := Aside.mk (below_call KB.out hb1); have HX := Aside.mk (blk_keep HX.out hb1); have y1 := blk_cell HX.out 1; have hly := blk_lt HX.out; simp at y1; obtain ⟨-, p0, p1, p2, p3, p4, p5⟩ := HCC.out _ KC.out; clear hb1); go_quiet (fail); go_wp2; go_ret; exact ⟨ret_bool HRF.out.symm, below_drewN KC.out _⟩
        have d1 : decide (p ≤ x.inn) = false := decide_eq_false c1
        by_cases c2 : x.kind = 1
        · have d2 : (x.kind == 1) = true := by simpa using c2
          by_cases c3 : p ≤ x.port
          · have d3 : decide (p ≤ x.port) = true := decide_eq_true c3
            have HRF : Aside (rulesP p l = false) := .mk (by rw [HR.out, HN.out (by rw [HOK.out, hm, d2, d3, decide_eq_true (show x.inn < p by omega)]; rfl)]; simp)
            clear hm c1 c2 c3
            go_wp2_with (go_at_call 57; refine (mayR4_any x _).mono ?_; rw [HM.out]; rintro e w1 ⟨rfl, hb1⟩; have KC := Aside.mk (below_call KB.out hb1); have HX := Aside.mk (blk_keep HX.out hb1); have y1 := blk_cell HX.out 1; have hly := blk_lt HX.out; simp at y1; obtain ⟨-, p0, p1, p2, p3, p4, p5⟩ := HCC.out _ KC.out; clear hb1); go_quiet (fail); go_wp2; go_ret; exact ⟨ret_bool HRF.out.symm, below_drewN KC.out _⟩
          · have d3 : decide (p ≤ x.port) = false := decide_eq_false c3
            have HOX : Aside (okR p x = true) := .mk (by rw [HOK.out, hm, d2, d3, decide_eq_true (show x.inn < p by omega)]; rfl)
            clear hm c1 c2 c3
            go_wp2_with (go_at_call 57; refine (mayR4_any x _).mono ?_; rw [HM.out]; rintro e w1 ⟨rfl, hb1⟩; have KC := Aside.mk (below_call KB.out hb1); have HX := Aside.mk (blk_keep HX.out hb1); have y1 := blk_cell HX.out 1; have hly := blk_lt HX.out; simp at y1; obtain ⟨-, p0, p1, p2, p3, p4, p5⟩ := HCC.out _ KC.out; clear hb1)
            go_quiet (fail)
            go_wp2
            refine (show ∀ W, (Below w.heap.size w W ∧ W.heap[w.heap.size]? = some (.cells #[.int .i64 s, .int .i64 p, .slice A ls.length c] 24)) → Code.wp _ _ _ _ W from fun W hW => ?_) _ ⟨below_drewN KC.out _, HX.out⟩
            clear p0 p1 p2 p3 p4 p5 y1 hly KC HX KB
            go_loopw [7] (fun v wi => ∃ j : Nat, j ≤ k ∧ v = .int .i64 j ∧ keyR x ∉ (l.take j).map keyR ∧ Below w.heap.size w wi ∧ wi.heap[w.heap.size]? = some (.cells #[.int .i64 s, .int .i64 p, .slice A ls.length c] 24)) (fun v _ => k - (intOf v).toNat)
            case atStart => exact ⟨0, Nat.zero_le _, rfl, by simp, hW.1, hW.2⟩
            case round =>
              clear hW
              obtain ⟨j, hj, rfl, hnk, hb, hx⟩ := hrel
              have HNK := Aside.mk hnk
              have KB := Aside.mk hb
              have HX := Aside.mk hx
              clear hnk hx
              by_cases hjk : j < k
              · have hjl : j < l.length := by omega
                obtain ⟨hbl0, p0, p1, p2, p3, p4, p5⟩ := HCC.out _ hb
                obtain ⟨-, q0, q1, q2, q3, q4, q5⟩ := rul_cells (c := d) HL.out hb hjl
                have hbl := Nat.lt_of_lt_of_le hbl0 hb.size
                have HKS := Aside.mk (key_snoc (keyR x) hjl)
                have HIN := Aside.mk (fun h => key_take (l := l) (x := keyR x) (show j + 1 ≤ k by omega) h)
                obtain ⟨y, hy⟩ : ∃ y, l[j] = y := ⟨_, rfl⟩
                rw [hy] at q0 q1 q2 q3 q4 q5 HKS
                have X0 := Aside.mk p0
                have Y0 := Aside.mk q0
                have X1 := Aside.mk p1
                have Y1 := Aside.mk q1
                have X2 := Aside.mk p2
                have Y2 := Aside.mk q2
                have X3 := Aside.mk p3
                have Y3 := Aside.mk q3
                have X4 := Aside.mk p4
                have Y4 := Aside.mk q4
                have X5 := Aside.mk p5
                have Y5 := Aside.mk q5
                clear hb hy p0 p1 p2 p3 p4 p5 q0 q1 q2 q3 q4 q5 hbl0
                cases hal : alikeI x y
                · have HAL := Aside.mk hal
                  have HKN : Aside (keyR x ∉ (l.take (j + 1)).map keyR) := .mk (HKS.out.2 ⟨HNK.out, fun h => by rw [alike_key, decide_eq_true h] at hal; cases hal⟩)
                  clear hal
                  go_wp2
                  refine wp_region_facts (Base := alkB x y false b o d l.length k j wr) (q := alkQ) (Fs := alkF x y false b o d l.length k j wr) (by kernel_rfl) (by kernel_rfl) (by kernel_rfl) (by kernel_rfl) (below_drew (Below.refl _ _)) ?_ ?_
                  ·
                    have hBs := alkB_stay x y false b o d l.length k j wr
                    have hFs := alkF_stay x y false b o d l.length k j wr
                    refine ⟨?_, ?_, ?_, ?_, ?_, ?_, ?_, ?_, ?_, ?_, trivial⟩
                    · refine step_pure hBs hFs rfl fun a' w' hB hag hp => ?_
                      have h1 := hag 1 (by kernel_rfl)
                      simp at h1
                      unfold OpYields
                      go_simp
                      exact ⟨Below.refl _ _, rfl⟩
                    · refine step_pure hBs hFs rfl fun a' w' hB hag hp => ?_
                      have h5 := hag 5 (by kernel_rfl)
                      simp at h5
                      unfold OpYields
                      go_simp
                      exact ⟨Below.refl _ _, rfl⟩
                    · refine step_pure hBs hFs rfl fun a' w' hB hag hp => ?_
                      have h60 : a'.tmps.getD 60 undef = _ := hp 0 (by kernel_rfl)
                      have h61 : a'.tmps.getD 61 undef = _ := hp 1 (by kernel_rfl)
                      simp at h60 h61
                      unfold OpYields
                      go_simp
                      exact ⟨Below.refl _ _, rfl⟩
                    · refine step_pure hBs hFs rfl fun a' w' hB hag hp => ?_
                      have h62 : a'.tmps.getD 62 undef = _ := hp 2 (by kernel_rfl)
                      have hB : Below wr.heap.size wr w' := hB; have x0 := (hB.cell (p := ⟨b, o + k * 6, none⟩) hbl).trans X0.out; have y0 := (hB.cell (p := ⟨b, o + j * 6, none⟩) hbl).trans Y0.out; have x1 := (hB.cell (p := ⟨b, o + k * 6 + 1, none⟩) hbl).trans X1.out; have y1 := (hB.cell (p := ⟨b, o + j * 6 + 1, none⟩) hbl).trans Y1.out; have x2 := (hB.cell (p := ⟨b, o + k * 6 + 2, none⟩) hbl).trans X2.out; have y2 := (hB.cell (p := ⟨b, o + j * 6 + 2, none⟩) hbl).trans Y2.out; have x3 := (hB.cell (p := ⟨b, o + k * 6 + 3, none⟩) hbl).trans X3.out; have y3 := (hB.cell (p := ⟨b, o + j * 6 + 3, none⟩) hbl).trans Y3.out; have x4 := (hB.cell (p := ⟨b, o + k * 6 + 4, none⟩) hbl).trans X4.out; have y4 := (hB.cell (p := ⟨b, o + j * 6 + 4, none⟩) hbl).trans Y4.out; have x5 := (hB.cell (p := ⟨b, o + k * 6 + 5, none⟩) hbl).trans X5.out; have y5 := (hB.cell (p := ⟨b, o + j * 6 + 5, none⟩) hbl).trans Y5.out
                      simp at h62
                      unfold OpYields
                      go_simp
                      exact ⟨Below.refl _ _, rfl⟩
                    · refine step_pure hBs hFs rfl fun a' w' hB hag hp => ?_
                      have h1 := hag 1 (by kernel_rfl)
                      simp at h1
                      unfold OpYields
                      go_simp
                      exact ⟨Below.refl _ _, rfl⟩
                    · refine step_pure hBs hFs rfl fun a' w' hB hag hp => ?_
                      have h7 := hag 7 (by kernel_rfl)
                      simp at h7
                      unfold OpYields
                      go_simp
                      exact ⟨Below.refl _ _, rfl⟩
                    · refine step_pure hBs hFs rfl fun a' w' hB hag hp => ?_
                      have h64 : a'.tmps.getD 64 undef = _ := hp 4 (by kernel_rfl)
                      have h65 : a'.tmps.getD 65 undef = _ := hp 5 (by kernel_rfl)
                      simp at h64 h65
                      unfold OpYields
                      go_simp
                      exact ⟨Below.refl _ _, rfl⟩
                    · refine step_pure hBs hFs rfl fun a' w' hB hag hp => ?_
                      have h66 : a'.tmps.getD 66 undef = _ := hp 6 (by kernel_rfl)
                      have hB : Below wr.heap.size wr w' := hB; have x0 := (hB.cell (p := ⟨b, o + k * 6, none⟩) hbl).trans X0.out; have y0 := (hB.cell (p := ⟨b, o + j * 6, none⟩) hbl).trans Y0.out; have x1 := (hB.cell (p := ⟨b, o + k * 6 + 1, none⟩) hbl).trans X1.out; have y1 := (hB.cell (p := ⟨b, o + j * 6 + 1, none⟩) hbl).trans Y1.out; have x2 := (hB.cell (p := ⟨b, o + k * 6 + 2, none⟩) hbl).trans X2.out; have y2 := (hB.cell (p := ⟨b, o + j * 6 + 2, none⟩) hbl).trans Y2.out; have x3 := (hB.cell (p := ⟨b, o + k * 6 + 3, none⟩) hbl).trans X3.out; have y3 := (hB.cell (p := ⟨b, o + j * 6 + 3, none⟩) hbl).trans Y3.out; have x4 := (hB.cell (p := ⟨b, o + k * 6 + 4, none⟩) hbl).trans X4.out; have y4 := (hB.cell (p := ⟨b, o + j * 6 + 4, none⟩) hbl).trans Y4.out; have x5 := (hB.cell (p := ⟨b, o + k * 6 + 5, none⟩) hbl).trans X5.out; have y5 := (hB.cell (p := ⟨b, o + j * 6 + 5, none⟩) hbl).trans Y5.out
                      simp at h66
                      unfold OpYields
                      go_simp
                      exact ⟨Below.refl _ _, rfl⟩
                    · refine step_pure hBs hFs rfl fun a' w' hB hag hp => ?_
                      have h63 : a'.tmps.getD 63 undef = _ := hp 3 (by kernel_rfl)
                      have h67 : a'.tmps.getD 67 undef = _ := hp 7 (by kernel_rfl)
                      simp at h63 h67
                      unfold OpYields
                      go_simp
                      refine (alikeR4_any x y w').mono ?_
                      rw [HAL.out]
                      rintro e w1 ⟨rfl, hb⟩
                      exact ⟨_, rfl, hb, rfl⟩
                    · refine step_pure hBs hFs rfl fun a' w' hB hag hp => ?_
                      have h68 : a'.tmps.getD 68 undef = _ := hp 8 (by kernel_rfl)
                      simp at h68
                      unfold OpYields
                      go_simp
                      exact ⟨Below.refl _ _, rfl⟩
                  intro vs w' hB hF
                  simp only [AllF, forall_const, reduceCtorEq, false_implies, Fof, alkF, alkQ, Nat.zero_add, Nat.reduceAdd, Nat.reduceEqDiff, if_true, if_false, List.getD_cons_succ, List.getD_cons_zero] at hF
                  obtain ⟨f0, f1, f2, f3, f4, f5, f6, f7, f8, f9, -⟩ := hF
                  simp only [putAll, Act.put, Nat.zero_add, Nat.reduceAdd, f0, f1, f2, f3, f4, f5, f6, f7, f8, f9, List.setIfInBounds_toArray, List.set_cons_zero, List.set_cons_succ]
                  have KB := Aside.mk (below_call KB.out hB)
                  have HX := Aside.mk (blk_keep HX.out hB)
                  clear hB
                  go_wp2
                  go_roundw
                  case rel => exact ⟨j + 1, by omega, by go_num, HKN.out, KB.out, HX.out⟩
                  case measure => simp [intOf]; omega
                · have HAL := Aside.mk hal
                  have HKN : Aside (rulesP p l = false) := .mk (by
                    have hin : keyR x ∈ (l.take k).map keyR := HIN.out (Decidable.not_not.1 (fun hn => (HKS.out.1 hn).2 (by rw [alike_key] at hal; exact of_decide_eq_true hal)))
                    rw [HR.out, decide_eq_false (fun h => (HU.out.1 (nodup_take (k + 1) h)).2 hin)]
                    simp)
                  clear hal
                  go_wp2
                  refine wp_region_facts (Base := altB x y true b o d l.length k j wr) (q := altQ) (Fs := altF x y true b o d l.length k j wr) (by kernel_rfl) (by kernel_rfl) (by kernel_rfl) (by kernel_rfl) (below_drew (Below.refl _ _)) ?_ ?_
                  ·
                    have hBs := altB_stay x y true b o d l.length k j wr
                    have hFs := altF_stay x y true b o d l.length k j wr
                    refine ⟨?_, ?_, ?_, ?_, ?_, ?_, ?_, ?_, ?_, ?_, trivial⟩
                    · refine step_pure hBs hFs rfl fun a' w' hB hag hp => ?_
                      have h1 := hag 1 (by kernel_rfl)
                      simp at h1
                      unfold OpYields
                      go_simp
                      exact ⟨Below.refl _ _, rfl⟩
                    · refine step_pure hBs hFs rfl fun a' w' hB hag hp => ?_
                      have h5 := hag 5 (by kernel_rfl)
                      simp at h5
                      unfold OpYields
                      go_simp
                      exact ⟨Below.refl _ _, rfl⟩
                    · refine step_pure hBs hFs rfl fun a' w' hB hag hp => ?_
                      have h60 : a'.tmps.getD 60 undef = _ := hp 0 (by kernel_rfl)
                      have h61 : a'.tmps.getD 61 undef = _ := hp 1 (by kernel_rfl)
                      simp at h60 h61
                      unfold OpYields
                      go_simp
                      exact ⟨Below.refl _ _, rfl⟩
                    · refine step_pure hBs hFs rfl fun a' w' hB hag hp => ?_
                      have h62 : a'.tmps.getD 62 undef = _ := hp 2 (by kernel_rfl)
                      have hB : Below wr.heap.size wr w' := hB; have x0 := (hB.cell (p := ⟨b, o + k * 6, none⟩) hbl).trans X0.out; have y0 := (hB.cell (p := ⟨b, o + j * 6, none⟩) hbl).trans Y0.out; have x1 := (hB.cell (p := ⟨b, o + k * 6 + 1, none⟩) hbl).trans X1.out; have y1 := (hB.cell (p := ⟨b, o + j * 6 + 1, none⟩) hbl).trans Y1.out; have x2 := (hB.cell (p := ⟨b, o + k * 6 + 2, none⟩) hbl).trans X2.out; have y2 := (hB.cell (p := ⟨b, o + j * 6 + 2, none⟩) hbl).trans Y2.out; have x3 := (hB.cell (p := ⟨b, o + k * 6 + 3, none⟩) hbl).trans X3.out; have y3 := (hB.cell (p := ⟨b, o + j * 6 + 3, none⟩) hbl).trans Y3.out; have x4 := (hB.cell (p := ⟨b, o + k * 6 + 4, none⟩) hbl).trans X4.out; have y4 := (hB.cell (p := ⟨b, o + j * 6 + 4, none⟩) hbl).trans Y4.out; have x5 := (hB.cell (p := ⟨b, o + k * 6 + 5, none⟩) hbl).trans X5.out; have y5 := (hB.cell (p := ⟨b, o + j * 6 + 5, none⟩) hbl).trans Y5.out
                      simp at h62
                      unfold OpYields
                      go_simp
                      exact ⟨Below.refl _ _, rfl⟩
                    · refine step_pure hBs hFs rfl fun a' w' hB hag hp => ?_
                      have h1 := hag 1 (by kernel_rfl)
                      simp at h1
                      unfold OpYields
                      go_simp
                      exact ⟨Below.refl _ _, rfl⟩
                    · refine step_pure hBs hFs rfl fun a' w' hB hag hp => ?_
                      have h7 := hag 7 (by kernel_rfl)
                      simp at h7
                      unfold OpYields
                      go_simp
                      exact ⟨Below.refl _ _, rfl⟩
                    · refine step_pure hBs hFs rfl fun a' w' hB hag hp => ?_
                      have h64 : a'.tmps.getD 64 undef = _ := hp 4 (by kernel_rfl)
                      have h65 : a'.tmps.getD 65 undef = _ := hp 5 (by kernel_rfl)
                      simp at h64 h65
                      unfold OpYields
                      go_simp
                      exact ⟨Below.refl _ _, rfl⟩
                    · refine step_pure hBs hFs rfl fun a' w' hB hag hp => ?_
                      have h66 : a'.tmps.getD 66 undef = _ := hp 6 (by kernel_rfl)
                      have hB : Below wr.heap.size wr w' := hB; have x0 := (hB.cell (p := ⟨b, o + k * 6, none⟩) hbl).trans X0.out; have y0 := (hB.cell (p := ⟨b, o + j * 6, none⟩) hbl).trans Y0.out; have x1 := (hB.cell (p := ⟨b, o + k * 6 + 1, none⟩) hbl).trans X1.out; have y1 := (hB.cell (p := ⟨b, o + j * 6 + 1, none⟩) hbl).trans Y1.out; have x2 := (hB.cell (p := ⟨b, o + k * 6 + 2, none⟩) hbl).trans X2.out; have y2 := (hB.cell (p := ⟨b, o + j * 6 + 2, none⟩) hbl).trans Y2.out; have x3 := (hB.cell (p := ⟨b, o + k * 6 + 3, none⟩) hbl).trans X3.out; have y3 := (hB.cell (p := ⟨b, o + j * 6 + 3, none⟩) hbl).trans Y3.out; have x4 := (hB.cell (p := ⟨b, o + k * 6 + 4, none⟩) hbl).trans X4.out; have y4 := (hB.cell (p := ⟨b, o + j * 6 + 4, none⟩) hbl).trans Y4.out; have x5 := (hB.cell (p := ⟨b, o + k * 6 + 5, none⟩) hbl).trans X5.out; have y5 := (hB.cell (p := ⟨b, o + j * 6 + 5, none⟩) hbl).trans Y5.out
                      simp at h66
                      unfold OpYields
                      go_simp
                      exact ⟨Below.refl _ _, rfl⟩
                    · refine step_pure hBs hFs rfl fun a' w' hB hag hp => ?_
                      have h63 : a'.tmps.getD 63 undef = _ := hp 3 (by kernel_rfl)
                      have h67 : a'.tmps.getD 67 undef = _ := hp 7 (by kernel_rfl)
                      simp at h63 h67
                      unfold OpYields
                      go_simp
                      refine (alikeR4_any x y w').mono ?_
                      rw [HAL.out]
                      rintro e w1 ⟨rfl, hb⟩
                      exact ⟨_, rfl, hb, rfl⟩
                    · refine step_pure hBs hFs rfl fun a' w' hB hag hp => ?_
                      have h68 : a'.tmps.getD 68 undef = _ := hp 8 (by kernel_rfl)
                      simp at h68
                      unfold OpYields
                      go_simp
                      exact ⟨Below.refl _ _, rfl⟩
                  intro vs w' hB hF
                  simp only [AllF, forall_const, reduceCtorEq, false_implies, Fof, altF, altQ, Nat.zero_add, Nat.reduceAdd, Nat.reduceEqDiff, if_true, if_false, List.getD_cons_succ, List.getD_cons_zero] at hF
                  obtain ⟨f0, f1, f2, f3, f4, f5, f6, f7, f8, f9, -⟩ := hF
                  simp only [putAll, Act.put, Nat.zero_add, Nat.reduceAdd, f0, f1, f2, f3, f4, f5, f6, f7, f8, f9, List.setIfInBounds_toArray, List.set_cons_zero, List.set_cons_succ]
                  have KB := Aside.mk (below_call KB.out hB)
                  have HX := Aside.mk (blk_keep HX.out hB)
                  clear hB
                  go_wp2
                  go_ret
                  exact ⟨ret_bool HKN.out.symm, KB.out⟩
              · obtain rfl : j = k := by omega
                clear hb
                have HD2 : Aside ((l.take (j + 1)).map keyR).Nodup := .mk (HU.out.2 ⟨HND.out, HNK.out⟩)
                have HA2 : Aside ((l.take (j + 1)).all (okR p) = true) := .mk (by rw [HT.out, HAL2.out, HOX.out]; rfl)
                go_wp2
                go_roundw
                case rel => exact ⟨j + 1, by omega, by go_num, HA2.out, HD2.out, KB.out, HX.out⟩
                case measure => simp [intOf]; omega
        · have d2 : (x.kind == 1) = false := by simpa using c2
          have HOX : Aside (okR p x = true) := .mk (by rw [HOK.out, hm, d2, decide_eq_true (show x.inn < p by omega)]; rfl)
          clear hm c1 c2
          go_wp2_with (go_at_call 57; refine (mayR4_any x _).mono ?_; rw [HM.out]; rintro e w1 ⟨rfl, hb1⟩; have KC := Aside.mk (below_call KB.out hb1); have HX := Aside.mk (blk_keep HX.out hb1); have y1 := blk_cell HX.out 1; have hly := blk_lt HX.out; simp at y1; obtain ⟨-, p0, p1, p2, p3, p4, p5⟩ := HCC.out _ KC.out; clear hb1)
          go_quiet (fail)
          go_wp2
          refine (show ∀ W, (Below w.heap.size w W ∧ W.heap[w.heap.size]? = some (.cells #[.int .i64 s, .int .i64 p, .slice A ls.length c] 24)) → Code.wp _ _ _ _ W from fun W hW => ?_) _ ⟨below_drewN KC.out _, HX.out⟩
          clear p0 p1 p2 p3 p4 p5 y1 hly KC HX KB
          go_loopw [7] (fun v wi => ∃ j : Nat, j ≤ k ∧ v = .int .i64 j ∧ keyR x ∉ (l.take j).map keyR ∧ Below w.heap.size w wi ∧ wi.heap[w.heap.size]? = some (.cells #[.int .i64 s, .int .i64 p, .slice A ls.length c] 24)) (fun v _ => k - (intOf v).toNat)
          case atStart => exact ⟨0, Nat.zero_le _, rfl, by simp, hW.1, hW.2⟩
          case round =>
            clear hW
            obtain ⟨j, hj, rfl, hnk, hb, hx⟩ := hrel
            have HNK := Aside.mk hnk
            have KB := Aside.mk hb
            have HX := Aside.mk hx
            clear hnk hx
            by_cases hjk : j < k
            · have hjl : j < l.length := by omega
              obtain ⟨hbl0, p0, p1, p2, p3, p4, p5⟩ := HCC.out _ hb
              obtain ⟨-, q0, q1, q2, q3, q4, q5⟩ := rul_cells (c := d) HL.out hb hjl
              have hbl := Nat.lt_of_lt_of_le hbl0 hb.size
              have HKS := Aside.mk (key_snoc (keyR x) hjl)
              have HIN := Aside.mk (fun h => key_take (l := l) (x := keyR x) (show j + 1 ≤ k by omega) h)
              obtain ⟨y, hy⟩ : ∃ y, l[j] = y := ⟨_, rfl⟩
              rw [hy] at q0 q1 q2 q3 q4 q5 HKS
              have X0 := Aside.mk p0
              have Y0 := Aside.mk q0
              have X1 := Aside.mk p1
              have Y1 := Aside.mk q1
              have X2 := Aside.mk p2
              have Y2 := Aside.mk q2
              have X3 := Aside.mk p3
              have Y3 := Aside.mk q3
              have X4 := Aside.mk p4
              have Y4 := Aside.mk q4
              have X5 := Aside.mk p5
              have Y5 := Aside.mk q5
              clear hb hy p0 p1 p2 p3 p4 p5 q0 q1 q2 q3 q4 q5 hbl0
              cases hal : alikeI x y
              · have HAL := Aside.mk hal
                have HKN : Aside (keyR x ∉ (l.take (j + 1)).map keyR) := .mk (HKS.out.2 ⟨HNK.out, fun h => by rw [alike_key, decide_eq_true h] at hal; cases hal⟩)
                clear hal
                go_wp2
                refine wp_region_facts (Base := alkB x y false b o d l.length k j wr) (q := alkQ) (Fs := alkF x y false b o d l.length k j wr) (by kernel_rfl) (by kernel_rfl) (by kernel_rfl) (by kernel_rfl) (below_drew (Below.refl _ _)) ?_ ?_
                ·
                  have hBs := alkB_stay x y false b o d l.length k j wr
                  have hFs := alkF_stay x y false b o d l.length k j wr
                  refine ⟨?_, ?_, ?_, ?_, ?_, ?_, ?_, ?_, ?_, ?_, trivial⟩
                  · refine step_pure hBs hFs rfl fun a' w' hB hag hp => ?_
                    have h1 := hag 1 (by kernel_rfl)
                    simp at h1
                    unfold OpYields
                    go_simp
                    exact ⟨Below.refl _ _, rfl⟩
                  · refine step_pure hBs hFs rfl fun a' w' hB hag hp => ?_
                    have h5 := hag 5 (by kernel_rfl)
                    simp at h5
                    unfold OpYields
                    go_simp
                    exact ⟨Below.refl _ _, rfl⟩
                  · refine step_pure hBs hFs rfl fun a' w' hB hag hp => ?_
                    have h60 : a'.tmps.getD 60 undef = _ := hp 0 (by kernel_rfl)
                    have h61 : a'.tmps.getD 61 undef = _ := hp 1 (by kernel_rfl)
                    simp at h60 h61
                    unfold OpYields
                    go_simp
                    exact ⟨Below.refl _ _, rfl⟩
                  · refine step_pure hBs hFs rfl fun a' w' hB hag hp => ?_
                    have h62 : a'.tmps.getD 62 undef = _ := hp 2 (by kernel_rfl)
                    have hB : Below wr.heap.size wr w' := hB; have x0 := (hB.cell (p := ⟨b, o + k * 6, none⟩) hbl).trans X0.out; have y0 := (hB.cell (p := ⟨b, o + j * 6, none⟩) hbl).trans Y0.out; have x1 := (hB.cell (p := ⟨b, o + k * 6 + 1, none⟩) hbl).trans X1.out; have y1 := (hB.cell (p := ⟨b, o + j * 6 + 1, none⟩) hbl).trans Y1.out; have x2 := (hB.cell (p := ⟨b, o + k * 6 + 2, none⟩) hbl).trans X2.out; have y2 := (hB.cell (p := ⟨b, o + j * 6 + 2, none⟩) hbl).trans Y2.out; have x3 := (hB.cell (p := ⟨b, o + k * 6 + 3, none⟩) hbl).trans X3.out; have y3 := (hB.cell (p := ⟨b, o + j * 6 + 3, none⟩) hbl).trans Y3.out; have x4 := (hB.cell (p := ⟨b, o + k * 6 + 4, none⟩) hbl).trans X4.out; have y4 := (hB.cell (p := ⟨b, o + j * 6 + 4, none⟩) hbl).trans Y4.out; have x5 := (hB.cell (p := ⟨b, o + k * 6 + 5, none⟩) hbl).trans X5.out; have y5 := (hB.cell (p := ⟨b, o + j * 6 + 5, none⟩) hbl).trans Y5.out
                    simp at h62
                    unfold OpYields
                    go_simp
                    exact ⟨Below.refl _ _, rfl⟩
                  · refine step_pure hBs hFs rfl fun a' w' hB hag hp => ?_
                    have h1 := hag 1 (by kernel_rfl)
                    simp at h1
                    unfold OpYields
                    go_simp
                    exact ⟨Below.refl _ _, rfl⟩
                  · refine step_pure hBs hFs rfl fun a' w' hB hag hp => ?_
                    have h7 := hag 7 (by kernel_rfl)
                    simp at h7
                    unfold OpYields
                    go_simp
                    exact ⟨Below.refl _ _, rfl⟩
                  · refine step_pure hBs hFs rfl fun a' w' hB hag hp => ?_
                    have h64 : a'.tmps.getD 64 undef = _ := hp 4 (by kernel_rfl)
                    have h65 : a'.tmps.getD 65 undef = _ := hp 5 (by kernel_rfl)
                    simp at h64 h65
                    unfold OpYields
                    go_simp
                    exact ⟨Below.refl _ _, rfl⟩
                  · refine step_pure hBs hFs rfl fun a' w' hB hag hp => ?_
                    have h66 : a'.tmps.getD 66 undef = _ := hp 6 (by kernel_rfl)
                    have hB : Below wr.heap.size wr w' := hB; have x0 := (hB.cell (p := ⟨b, o + k * 6, none⟩) hbl).trans X0.out; have y0 := (hB.cell (p := ⟨b, o + j * 6, none⟩) hbl).trans Y0.out; have x1 := (hB.cell (p := ⟨b, o + k * 6 + 1, none⟩) hbl).trans X1.out; have y1 := (hB.cell (p := ⟨b, o + j * 6 + 1, none⟩) hbl).trans Y1.out; have x2 := (hB.cell (p := ⟨b, o + k * 6 + 2, none⟩) hbl).trans X2.out; have y2 := (hB.cell (p := ⟨b, o + j * 6 + 2, none⟩) hbl).trans Y2.out; have x3 := (hB.cell (p := ⟨b, o + k * 6 + 3, none⟩) hbl).trans X3.out; have y3 := (hB.cell (p := ⟨b, o + j * 6 + 3, none⟩) hbl).trans Y3.out; have x4 := (hB.cell (p := ⟨b, o + k * 6 + 4, none⟩) hbl).trans X4.out; have y4 := (hB.cell (p := ⟨b, o + j * 6 + 4, none⟩) hbl).trans Y4.out; have x5 := (hB.cell (p := ⟨b, o + k * 6 + 5, none⟩) hbl).trans X5.out; have y5 := (hB.cell (p := ⟨b, o + j * 6 + 5, none⟩) hbl).trans Y5.out
                    simp at h66
                    unfold OpYields
                    go_simp
                    exact ⟨Below.refl _ _, rfl⟩
                  · refine step_pure hBs hFs rfl fun a' w' hB hag hp => ?_
                    have h63 : a'.tmps.getD 63 undef = _ := hp 3 (by kernel_rfl)
                    have h67 : a'.tmps.getD 67 undef = _ := hp 7 (by kernel_rfl)
                    simp at h63 h67
                    unfold OpYields
                    go_simp
                    refine (alikeR4_any x y w').mono ?_
                    rw [HAL.out]
                    rintro e w1 ⟨rfl, hb⟩
                    exact ⟨_, rfl, hb, rfl⟩
                  · refine step_pure hBs hFs rfl fun a' w' hB hag hp => ?_
                    have h68 : a'.tmps.getD 68 undef = _ := hp 8 (by kernel_rfl)
                    simp at h68
                    unfold OpYields
                    go_simp
                    exact ⟨Below.refl _ _, rfl⟩
                intro vs w' hB hF
                simp only [AllF, forall_const, reduceCtorEq, false_implies, Fof, alkF, alkQ, Nat.zero_add, Nat.reduceAdd, Nat.reduceEqDiff, if_true, if_false, List.getD_cons_succ, List.getD_cons_zero] at hF
                obtain ⟨f0, f1, f2, f3, f4, f5, f6, f7, f8, f9, -⟩ := hF
                simp only [putAll, Act.put, Nat.zero_add, Nat.reduceAdd, f0, f1, f2, f3, f4, f5, f6, f7, f8, f9, List.setIfInBounds_toArray, List.set_cons_zero, List.set_cons_succ]
                have KB := Aside.mk (below_call KB.out hB)
                have HX := Aside.mk (blk_keep HX.out hB)
                clear hB
                go_wp2
                go_roundw
                case rel => exact ⟨j + 1, by omega, by go_num, HKN.out, KB.out, HX.out⟩
                case measure => simp [intOf]; omega
              · have HAL := Aside.mk hal
                have HKN : Aside (rulesP p l = false) := .mk (by
                  have hin : keyR x ∈ (l.take k).map keyR := HIN.out (Decidable.not_not.1 (fun hn => (HKS.out.1 hn).2 (by rw [alike_key] at hal; exact of_decide_eq_true hal)))
                  rw [HR.out, decide_eq_false (fun h => (HU.out.1 (nodup_take (k + 1) h)).2 hin)]
                  simp)
                clear hal
                go_wp2
                refine wp_region_facts (Base := altB x y true b o d l.length k j wr) (q := altQ) (Fs := altF x y true b o d l.length k j wr) (by kernel_rfl) (by kernel_rfl) (by kernel_rfl) (by kernel_rfl) (below_drew (Below.refl _ _)) ?_ ?_
                ·
                  have hBs := altB_stay x y true b o d l.length k j wr
                  have hFs := altF_stay x y true b o d l.length k j wr
                  refine ⟨?_, ?_, ?_, ?_, ?_, ?_, ?_, ?_, ?_, ?_, trivial⟩
                  · refine step_pure hBs hFs rfl fun a' w' hB hag hp => ?_
                    have h1 := hag 1 (by kernel_rfl)
                    simp at h1
                    unfold OpYields
                    go_simp
                    exact ⟨Below.refl _ _, rfl⟩
                  · refine step_pure hBs hFs rfl fun a' w' hB hag hp => ?_
                    have h5 := hag 5 (by kernel_rfl)
                    simp at h5
                    unfold OpYields
                    go_simp
                    exact ⟨Below.refl _ _, rfl⟩
                  · refine step_pure hBs hFs rfl fun a' w' hB hag hp => ?_
                    have h60 : a'.tmps.getD 60 undef = _ := hp 0 (by kernel_rfl)
                    have h61 : a'.tmps.getD 61 undef = _ := hp 1 (by kernel_rfl)
                    simp at h60 h61
                    unfold OpYields
                    go_simp
                    exact ⟨Below.refl _ _, rfl⟩
                  · refine step_pure hBs hFs rfl fun a' w' hB hag hp => ?_
                    have h62 : a'.tmps.getD 62 undef = _ := hp 2 (by kernel_rfl)
                    have hB : Below wr.heap.size wr w' := hB; have x0 := (hB.cell (p := ⟨b, o + k * 6, none⟩) hbl).trans X0.out; have y0 := (hB.cell (p := ⟨b, o + j * 6, none⟩) hbl).trans Y0.out; have x1 := (hB.cell (p := ⟨b, o + k * 6 + 1, none⟩) hbl).trans X1.out; have y1 := (hB.cell (p := ⟨b, o + j * 6 + 1, none⟩) hbl).trans Y1.out; have x2 := (hB.cell (p := ⟨b, o + k * 6 + 2, none⟩) hbl).trans X2.out; have y2 := (hB.cell (p := ⟨b, o + j * 6 + 2, none⟩) hbl).trans Y2.out; have x3 := (hB.cell (p := ⟨b, o + k * 6 + 3, none⟩) hbl).trans X3.out; have y3 := (hB.cell (p := ⟨b, o + j * 6 + 3, none⟩) hbl).trans Y3.out; have x4 := (hB.cell (p := ⟨b, o + k * 6 + 4, none⟩) hbl).trans X4.out; have y4 := (hB.cell (p := ⟨b, o + j * 6 + 4, none⟩) hbl).trans Y4.out; have x5 := (hB.cell (p := ⟨b, o + k * 6 + 5, none⟩) hbl).trans X5.out; have y5 := (hB.cell (p := ⟨b, o + j * 6 + 5, none⟩) hbl).trans Y5.out
                    simp at h62
                    unfold OpYields
                    go_simp
                    exact ⟨Below.refl _ _, rfl⟩
                  · refine step_pure hBs hFs rfl fun a' w' hB hag hp => ?_
                    have h1 := hag 1 (by kernel_rfl)
                    simp at h1
                    unfold OpYields
                    go_simp
                    exact ⟨Below.refl _ _, rfl⟩
                  · refine step_pure hBs hFs rfl fun a' w' hB hag hp => ?_
                    have h7 := hag 7 (by kernel_rfl)
                    simp at h7
                    unfold OpYields
                    go_simp
                    exact ⟨Below.refl _ _, rfl⟩
                  · refine step_pure hBs hFs rfl fun a' w' hB hag hp => ?_
                    have h64 : a'.tmps.getD 64 undef = _ := hp 4 (by kernel_rfl)
                    have h65 : a'.tmps.getD 65 undef = _ := hp 5 (by kernel_rfl)
                    simp at h64 h65
                    unfold OpYields
                    go_simp
                    exact ⟨Below.refl _ _, rfl⟩
                  · refine step_pure hBs hFs rfl fun a' w' hB hag hp => ?_
                    have h66 : a'.tmps.getD 66 undef = _ := hp 6 (by kernel_rfl)
                    have hB : Below wr.heap.size wr w' := hB; have x0 := (hB.cell (p := ⟨b, o + k * 6, none⟩) hbl).trans X0.out; have y0 := (hB.cell (p := ⟨b, o + j * 6, none⟩) hbl).trans Y0.out; have x1 := (hB.cell (p := ⟨b, o + k * 6 + 1, none⟩) hbl).trans X1.out; have y1 := (hB.cell (p := ⟨b, o + j * 6 + 1, none⟩) hbl).trans Y1.out; have x2 := (hB.cell (p := ⟨b, o + k * 6 + 2, none⟩) hbl).trans X2.out; have y2 := (hB.cell (p := ⟨b, o + j * 6 + 2, none⟩) hbl).trans Y2.out; have x3 := (hB.cell (p := ⟨b, o + k * 6 + 3, none⟩) hbl).trans X3.out; have y3 := (hB.cell (p := ⟨b, o + j * 6 + 3, none⟩) hbl).trans Y3.out; have x4 := (hB.cell (p := ⟨b, o + k * 6 + 4, none⟩) hbl).trans X4.out; have y4 := (hB.cell (p := ⟨b, o + j * 6 + 4, none⟩) hbl).trans Y4.out; have x5 := (hB.cell (p := ⟨b, o + k * 6 + 5, none⟩) hbl).trans X5.out; have y5 := (hB.cell (p := ⟨b, o + j * 6 + 5, none⟩) hbl).trans Y5.out
                    simp at h66
                    unfold OpYields
                    go_simp
                    exact ⟨Below.refl _ _, rfl⟩
                  · refine step_pure hBs hFs rfl fun a' w' hB hag hp => ?_
                    have h63 : a'.tmps.getD 63 undef = _ := hp 3 (by kernel_rfl)
                    have h67 : a'.tmps.getD 67 undef = _ := hp 7 (by kernel_rfl)
                    simp at h63 h67
                    unfold OpYields
                    go_simp
                    refine (alikeR4_any x y w').mono ?_
                    rw [HAL.out]
                    rintro e w1 ⟨rfl, hb⟩
                    exact ⟨_, rfl, hb, rfl⟩
                  · refine step_pure hBs hFs rfl fun a' w' hB hag hp => ?_
                    have h68 : a'.tmps.getD 68 undef = _ := hp 8 (by kernel_rfl)
                    simp at h68
                    unfold OpYields
                    go_simp
                    exact ⟨Below.refl _ _, rfl⟩
                intro vs w' hB hF
                simp only [AllF, forall_const, reduceCtorEq, false_implies, Fof, altF, altQ, Nat.zero_add, Nat.reduceAdd, Nat.reduceEqDiff, if_true, if_false, List.getD_cons_succ, List.getD_cons_zero] at hF
                obtain ⟨f0, f1, f2, f3, f4, f5, f6, f7, f8, f9, -⟩ := hF
                simp only [putAll, Act.put, Nat.zero_add, Nat.reduceAdd, f0, f1, f2, f3, f4, f5, f6, f7, f8, f9, List.setIfInBounds_toArray, List.set_cons_zero, List.set_cons_succ]
                have KB := Aside.mk (below_call KB.out hB)
                have HX := Aside.mk (blk_keep HX.out hB)
                clear hB
                go_wp2
                go_ret
                exact ⟨ret_bool HKN.out.symm, KB.out⟩
            · obtain rfl : j = k := by omega
              clear hb
              have HD2 : Aside ((l.take (j + 1)).map keyR).Nodup := .mk (HU.out.2 ⟨HND.out, HNK.out⟩)
              have HA2 : Aside ((l.take (j + 1)).all (okR p) = true) := .mk (by rw [HT.out, HAL2.out, HOX.out]; rfl)
              go_wp2
              go_roundw
              case rel => exact ⟨j + 1, by omega, by go_num, HA2.out, HD2.out, KB.out, HX.out⟩
              case measure => simp [intOf]; omega
      · obtain rfl : k = l.length := by omega
        clear hb
        have HRT : Aside (rulesP p l = true) := .mk (by
          have h1 := HAL2.out
          have h2 := HND.out
          rw [List.take_length] at h1 h2
          rw [HR.out, decide_eq_true H40.out, decide_eq_true h2, h1]
          rfl)
        go_wp2
        go_ret
        exact ⟨ret_bool HRT.out.symm, KB.out⟩
  · have d0 : decide ((40 : Int) < (l.length : Int)) = true := decide_eq_true (by omega)
    have HRF : Aside (rulesP p l = false) := .mk (by rw [HR.out, decide_eq_false h40]; rfl)
    clear h40
    go_enter Try.func42, Try.ntmps42
    go_wp2
    go_ret
    exact ⟨ret_bool HRF.out.symm, below_alloc (Below.refl _ _) _⟩
end Go.Proofs.Ytlnnkkbcmidddaa
