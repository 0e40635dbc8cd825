/- The walks through the document's May, Most and Same of layer 12. -/
import Derived.Test.YtlnnkkbcmidddaaConfD
import Derived.Test.YtlnnkkbcmidddaaConfM
import Derived.Test.YtlnnkkbcmidddaaConfS
import Derived.Test.YtlnnkkbcmidddaaSortM
import Derived.Test.YtlnnkkbcmidddaaTopoH
import Derived.Test.YtlnnkkbcmidddaaTopoL
namespace Go.Proofs.Ytlnnkkbcmidddaa
open Go.RowKit
set_option maxRecDepth 100000
def cmfB (s p : Int) (A : Option Addr) (nl c : Nat) (l : List Rul) (A' : Option Addr) (n' : Nat) (C : Option Addr) (n d k : Nat) (q : Addr) (t : Bool) (wr : World) (w' : World) : Prop :=
  Below wr.heap.size wr w'
def cmfF (s p : Int) (A : Option Addr) (nl c : Nat) (l : List Rul) (A' : Option Addr) (n' : Nat) (C : Option Addr) (n d k : Nat) (q : Addr) (t : Bool) (wr : World) : List (Value → Value → World → Prop) :=
  [fun _ v _ => v = .agg #[.int .i64 s, .int .i64 p, .slice A nl c],
   fun _ v _ => v = .slice C n d,
   fun _ v _ => v = .int .i64 k,
   fun _ v _ => v = .pointer (some q),
   fun _ v _ => v = .slice A' l.length n',
   fun _ v _ => v = .bool t,
   fun _ v _ => v = .bool t]
def cmfQ : Nat → Nat := fun i => i
theorem cmfF_stay (s p : Int) (A : Option Addr) (nl c : Nat) (l : List Rul) (A' : Option Addr) (n' : Nat) (C : Option Addr) (n d k : Nat) (q : Addr) (t : Bool) (wr : World) : AllStay (cmfF s p A nl c l A' n' C n d k q t wr) := by
  intro F hF u v w' w'' hb h
  simp only [cmfF, List.mem_cons, List.not_mem_nil, or_false] at hF
  rcases hF with rfl | rfl | rfl | rfl | rfl | rfl | rfl
  · exact h
  · exact h
  · exact h
  · exact h
  · exact h
  · exact h
  · exact h
theorem cmfB_stay (s p : Int) (A : Option Addr) (nl c : Nat) (l : List Rul) (A' : Option Addr) (n' : Nat) (C : Option Addr) (n d k : Nat) (q : Addr) (t : Bool) (wr : World) : Stays (cmfB s p A nl c l A' n' C n d k q t wr) := by
  intro w' w'' hb h
  exact below_call h hb
def cmtB (s p : Int) (A : Option Addr) (nl c : Nat) (l : List Rul) (A' : Option Addr) (n' : Nat) (C : Option Addr) (n d k : Nat) (q : Addr) (t : Bool) (wr : World) (w' : World) : Prop :=
  Below wr.heap.size wr w'
def cmtF (s p : Int) (A : Option Addr) (nl c : Nat) (l : List Rul) (A' : Option Addr) (n' : Nat) (C : Option Addr) (n d k : Nat) (q : Addr) (t : Bool) (wr : World) : List (Value → Value → World → Prop) :=
  [fun _ v _ => v = .agg #[.int .i64 s, .int .i64 p, .slice A nl c],
   fun _ v _ => v = .slice C n d,
   fun _ v _ => v = .int .i64 k,
   fun _ v _ => v = .pointer (some q),
   fun _ v _ => v = .slice A' l.length n',
   fun _ v _ => v = .bool t,
   fun _ v _ => v = .bool t]
def cmtQ : Nat → Nat := fun i => i
theorem cmtF_stay (s p : Int) (A : Option Addr) (nl c : Nat) (l : List Rul) (A' : Option Addr) (n' : Nat) (C : Option Addr) (n d k : Nat) (q : Addr) (t : Bool) (wr : World) : AllStay (cmtF s p A nl c l A' n' C n d k q t wr) := by
  intro F hF u v w' w'' hb h
  simp only [cmtF, List.mem_cons, List.not_mem_nil, or_false] at hF
  rcases hF with rfl | rfl | rfl | rfl | rfl | rfl | rfl
  · exact h
  · exact h
  · exact h
  · exact h
  · exact h
  · exact h
  · exact h
theorem cmtB_stay (s p : Int) (A : Option Addr) (nl c : Nat) (l : List Rul) (A' : Option Addr) (n' : Nat) (C : Option Addr) (n d k : Nat) (q : Addr) (t : Bool) (wr : World) : Stays (cmtB s p A nl c l A' n' C n d k q t wr) := by
  intro w' w'' hb h
  exact below_call h hb
def csfB (x y S T : List Rul) (A1 A2 : Option Addr) (n1 n2 : Nat) (A B : Option Addr) (na nb c d k : Nat) (q1 q2 : Addr) (t : Bool) (wr : World) (w' : World) : Prop :=
  Below wr.heap.size wr w'
def csfF (x y S T : List Rul) (A1 A2 : Option Addr) (n1 n2 : Nat) (A B : Option Addr) (na nb c d k : Nat) (q1 q2 : Addr) (t : Bool) (wr : World) : List (Value → Value → World → Prop) :=
  [fun _ v _ => v = .slice A na c,
   fun _ v _ => v = .int .i64 k,
   fun _ v _ => v = .pointer (some q1),
   fun _ v _ => v = .slice A1 x.length n1,
   fun _ v w' => Own rulF w' wr.heap.size 58 v S,
   fun _ v _ => v = .slice B nb d,
   fun _ v _ => v = .int .i64 k,
   fun _ v _ => v = .pointer (some q2),
   fun _ v _ => v = .slice A2 y.length n2,
   fun _ v w' => Own rulF w' wr.heap.size 58 v T,
   fun _ v _ => v = .bool t,
   fun _ v _ => v = .bool t]
def csfQ : Nat → Nat := fun i => i
theorem csfF_stay (x y S T : List Rul) (A1 A2 : Option Addr) (n1 n2 : Nat) (A B : Option Addr) (na nb c d k : Nat) (q1 q2 : Addr) (t : Bool) (wr : World) : AllStay (csfF x y S T A1 A2 n1 n2 A B na nb c d k q1 q2 t wr) := by
  intro F hF u v w' w'' hb h
  simp only [csfF, List.mem_cons, List.not_mem_nil, or_false] at hF
  rcases hF with rfl | rfl | rfl | rfl | rfl | rfl | rfl | rfl | rfl | rfl | rfl | rfl
  · exact h
  · exact h
  · exact h
  · exact h
  · exact h.below hb
  · exact h
  · exact h
  · exact h
  · exact h
  · exact h.below hb
  · exact h
  · exact h
theorem csfB_stay (x y S T : List Rul) (A1 A2 : Option Addr) (n1 n2 : Nat) (A B : Option Addr) (na nb c d k : Nat) (q1 q2 : Addr) (t : Bool) (wr : World) : Stays (csfB x y S T A1 A2 n1 n2 A B na nb c d k q1 q2 t wr) := by
  intro w' w'' hb h
  exact below_call h hb
def cstB (x y S T : List Rul) (A1 A2 : Option Addr) (n1 n2 : Nat) (A B : Option Addr) (na nb c d k : Nat) (q1 q2 : Addr) (t : Bool) (wr : World) (w' : World) : Prop :=
  Below wr.heap.size wr w'
def cstF (x y S T : List Rul) (A1 A2 : Option Addr) (n1 n2 : Nat) (A B : Option Addr) (na nb c d k : Nat) (q1 q2 : Addr) (t : Bool) (wr : World) : List (Value → Value → World → Prop) :=
  [fun _ v _ => v = .slice A na c,
   fun _ v _ => v = .int .i64 k,
   fun _ v _ => v = .pointer (some q1),
   fun _ v _ => v = .slice A1 x.length n1,
   fun _ v w' => Own rulF w' wr.heap.size 58 v S,
   fun _ v _ => v = .slice B nb d,
   fun _ v _ => v = .int .i64 k,
   fun _ v _ => v = .pointer (some q2),
   fun _ v _ => v = .slice A2 y.length n2,
   fun _ v w' => Own rulF w' wr.heap.size 58 v T,
   fun _ v _ => v = .bool t,
   fun _ v _ => v = .bool t]
def cstQ : Nat → Nat := fun i => i
theorem cstF_stay (x y S T : List Rul) (A1 A2 : Option Addr) (n1 n2 : Nat) (A B : Option Addr) (na nb c d k : Nat) (q1 q2 : Addr) (t : Bool) (wr : World) : AllStay (cstF x y S T A1 A2 n1 n2 A B na nb c d k q1 q2 t wr) := by
  intro F hF u v w' w'' hb h
  simp only [cstF, List.mem_cons, List.not_mem_nil, or_false] at hF
  rcases hF with rfl | rfl | rfl | rfl | rfl | rfl | rfl | rfl | rfl | rfl | rfl | rfl
  · exact h
  · exact h
  · exact h
  · exact h
  · exact h.below hb
  · exact h
  · exact h
  · exact h
  · exact h
  · exact h.below hb
  · exact h
  · exact h
theorem cstB_stay (x y S T : List Rul) (A1 A2 : Option Addr) (n1 n2 : Nat) (A B : Option Addr) (na nb c d k : Nat) (q1 q2 : Addr) (t : Bool) (wr : World) : Stays (cstB x y S T A1 A2 n1 n2 A B na nb c d k q1 q2 t wr) := by
  intro w' w'' hb h
  exact below_call h hb
set_option maxHeartbeats 1000000 in
theorem confMayR_any (s p : Int) (A : Option Addr) (c : Nat) (ls : List Lnk) (cs : List (List Rul)) (C : Option Addr) (d : Nat) (w : World) (hl : Rd lnkD w A ls.length ls) (hc : Rd confD w C cs.length cs) :
    Calls Try.prog 20 #[.agg #[.int .i64 s, .int .i64 p, .slice A ls.length c], .slice C cs.length d] w fun e w' => e = .returned (.bool (mayC s p ls cs)) ∧ Below w.heap.size w w' := by
  have HL := Aside.mk hl; have HC := Aside.mk hc; have hmx := hc.max; have KB := Aside.mk (below_alloc (Below.refl _ w) (.cells #[.int .i64 s, .int .i64 p, .slice A ls.length c] 24)); have HX := Aside.mk (heapN w (.cells #[.int .i64 s, .int .i64 p, .slice A ls.length c] 24) rfl); have HE := Aside.mk (show mayC s p ls cs = (mayT s p ls && decide ((cs.length : Int) = s) && cs.all (rulesP p)) from rfl); clear hl hc
  cases hm : mayT s p ls
  · have HM := Aside.mk hm
    rw [show mayC s p ls cs = false by rw [HE.out, hm]; rfl]
    clear hm
    go_enter Try.func20, Try.ntmps20
    go_wp2_with (go_at_call 41; refine (mayR_any s p A c ls _ (HL.out.below KB.out)).mono ?_; rw [← may_same, HM.out]; rintro e w1 ⟨rfl, hb1⟩; have KB := Aside.mk (below_call KB.out hb1); have HX := Aside.mk (blk_keep HX.out hb1); have hlx := blk_lt HX.out; have x0 := blk_cell HX.out 0; have x1 := blk_cell HX.out 1; have x2 := blk_cell HX.out 2; simp at x0 x1 x2; clear hb1)
    go_ret
    exact ⟨rfl, KB.out⟩
  have HM := Aside.mk hm
  by_cases hs : (cs.length : Int) = s
  · have d1 : ((cs.length : Int) != s) = false := by rw [hs]; exact bne_self_eq_false _
    have HR := Aside.mk (show mayC s p ls cs = cs.all (rulesP p) by rw [HE.out, hm, decide_eq_true hs]; simp)
    clear hm hs
    go_enter Try.func20, Try.ntmps20
    go_wp2_with (go_at_call 41; refine (mayR_any s p A c ls _ (HL.out.below KB.out)).mono ?_; rw [← may_same, HM.out]; rintro e w1 ⟨rfl, hb1⟩; have KB := Aside.mk (below_call KB.out hb1); have HX := Aside.mk (blk_keep HX.out hb1); have hlx := blk_lt HX.out; have x0 := blk_cell HX.out 0; have x1 := blk_cell HX.out 1; have x2 := blk_cell HX.out 2; simp at x0 x1 x2; clear hb1)
    clear d1 x0 x1 x2
    go_loopw [6] (fun i wr => ∃ k : Nat, k ≤ cs.length ∧ i = .int .i64 k ∧ (cs.take k).all (rulesP p) = true ∧ Below w.heap.size w wr ∧ wr.heap[w.heap.size]? = some (.cells #[.int .i64 s, .int .i64 p, .slice A ls.length c] 24)) (fun i _ => cs.length - (intOf i).toNat)
    case atStart => exact ⟨0, Nat.zero_le _, rfl, by simp, KB.out, HX.out⟩
    case round =>
      obtain ⟨k, hk, rfl, hs, hb, hx⟩ := hrel
      have HS := Aside.mk hs
      have KB := Aside.mk hb
      have HX := Aside.mk hx
      clear hs hx
      by_cases hk2 : k < cs.length
      · obtain ⟨b, o, A', n', rfl, hbl, hcell, -, -, hr⟩ := conf_cell HC.out hb hk2
        have HT := Aside.mk (allC_snoc (f := rulesP p) hk2)
        have HN := Aside.mk (fun h => allC_not (f := rulesP p) hk2 h)
        obtain ⟨l, hx⟩ : ∃ x, cs[k] = x := ⟨_, rfl⟩
        rw [hx] at hcell hr HT HN
        have HRL := Aside.mk (hr.below hb)
        clear hx hb hr
        have hlx := blk_lt HX.out; have x0 := blk_cell HX.out 0; have x1 := blk_cell HX.out 1; have x2 := blk_cell HX.out 2; simp at x0 x1 x2
        have X0 := Aside.mk x0
        have X1 := Aside.mk x1
        have X2 := Aside.mk x2
        have Y0 := Aside.mk hcell
        have hbl := Nat.lt_of_lt_of_le hbl KB.out.size
        clear x0 x1 x2 hcell
        cases ho : rulesP p l
        · have HO := Aside.mk ho
          have HA := Aside.mk (HN.out ho)
          clear ho
          go_wp2
          refine wp_region_facts (Base := cmfB s p A ls.length c l A' n' (some ⟨b, o, none⟩) cs.length d k ⟨b, o + k, none⟩ false wr) (q := cmfQ) (Fs := cmfF s p A ls.length c l A' n' (some ⟨b, o, none⟩) cs.length d k ⟨b, o + k, none⟩ false wr) (by kernel_rfl) (by kernel_rfl) (by kernel_rfl) (by kernel_rfl) (below_drew (Below.refl _ _)) ?_ ?_
          ·
            have hBs := cmfB_stay s p A ls.length c l A' n' (some ⟨b, o, none⟩) cs.length d k ⟨b, o + k, none⟩ false wr
            have hFs := cmfF_stay s p A ls.length c l A' n' (some ⟨b, o, none⟩) cs.length d k ⟨b, o + k, none⟩ false wr
            refine ⟨?_, ?_, ?_, ?_, ?_, ?_, ?_, trivial⟩
            · refine step_pure hBs hFs rfl fun a' w' hB hag hp => ?_
              have h2 := hag 2 (by kernel_rfl)
              have hB : Below wr.heap.size wr w' := hB; have x0 := (hB.cell (p := ⟨w.heap.size, 0, none⟩) hlx).trans X0.out; have x1 := (hB.cell (p := ⟨w.heap.size, 1, none⟩) hlx).trans X1.out; have x2 := (hB.cell (p := ⟨w.heap.size, 2, none⟩) hlx).trans X2.out; have y0 := (hB.cell (p := ⟨b, o + k, none⟩) hbl).trans Y0.out
              simp at h2
              unfold OpYields
              go_simp
              exact ⟨Below.refl _ _, rfl⟩
            · refine step_pure hBs hFs rfl fun a' w' hB hag hp => ?_
              have h1 := hag 1 (by kernel_rfl)
              simp at h1
              unfold OpYields
              go_simp
              exact ⟨Below.refl _ _, rfl⟩
            · refine step_pure hBs hFs rfl fun a' w' hB hag hp => ?_
              have h6 := hag 6 (by kernel_rfl)
              simp at h6
              unfold OpYields
              go_simp
              exact ⟨Below.refl _ _, rfl⟩
            · refine step_pure hBs hFs rfl fun a' w' hB hag hp => ?_
              have h26 : a'.tmps.getD 26 undef = _ := hp 1 (by kernel_rfl)
              have h27 : a'.tmps.getD 27 undef = _ := hp 2 (by kernel_rfl)
              simp at h26 h27
              unfold OpYields
              go_simp
              exact ⟨Below.refl _ _, rfl⟩
            · refine step_pure hBs hFs rfl fun a' w' hB hag hp => ?_
              have h28 : a'.tmps.getD 28 undef = _ := hp 3 (by kernel_rfl)
              have hB : Below wr.heap.size wr w' := hB; have x0 := (hB.cell (p := ⟨w.heap.size, 0, none⟩) hlx).trans X0.out; have x1 := (hB.cell (p := ⟨w.heap.size, 1, none⟩) hlx).trans X1.out; have x2 := (hB.cell (p := ⟨w.heap.size, 2, none⟩) hlx).trans X2.out; have y0 := (hB.cell (p := ⟨b, o + k, none⟩) hbl).trans Y0.out
              simp at h28
              unfold OpYields
              go_simp
              exact ⟨Below.refl _ _, rfl⟩
            · refine step_pure hBs hFs rfl fun a' w' hB hag hp => ?_
              have h25 : a'.tmps.getD 25 undef = _ := hp 0 (by kernel_rfl)
              have h29 : a'.tmps.getD 29 undef = _ := hp 4 (by kernel_rfl)
              have hB0 : Below wr.heap.size wr w' := hB
              simp at h25 h29
              unfold OpYields
              go_simp
              refine (rulesR_any s p A c ls l A' n' w' (HRL.out.below hB0)).mono ?_
              rw [HO.out]
              rintro e w1 ⟨rfl, hb⟩
              exact ⟨_, rfl, hb, rfl⟩
            · refine step_pure hBs hFs rfl fun a' w' hB hag hp => ?_
              have h30 : a'.tmps.getD 30 undef = _ := hp 5 (by kernel_rfl)
              simp at h30
              unfold OpYields
              go_simp
              exact ⟨Below.refl _ _, rfl⟩
          intro vs w' hB hF
          simp only [AllF, forall_const, reduceCtorEq, false_implies, Fof, cmfF, cmfQ, Nat.zero_add, Nat.reduceAdd, Nat.reduceEqDiff, if_true, if_false, List.getD_cons_succ, List.getD_cons_zero] at hF
          obtain ⟨f0, f1, f2, f3, f4, f5, f6, -⟩ := hF
          simp only [putAll, Act.put, Nat.zero_add, Nat.reduceAdd, f0, f1, f2, f3, f4, f5, f6, List.setIfInBounds_toArray, List.set_cons_zero, List.set_cons_succ]
          have KB := Aside.mk (below_call KB.out hB)
          clear hB
          go_wp2
          go_ret
          exact ⟨ret_bool (by rw [HR.out, HA.out]), KB.out⟩
        · have HO := Aside.mk ho
          have HA := Aside.mk (show (cs.take (k + 1)).all (rulesP p) = true by rw [HT.out, HS.out, ho]; rfl)
          clear ho
          go_wp2
          refine wp_region_facts (Base := cmtB s p A ls.length c l A' n' (some ⟨b, o, none⟩) cs.length d k ⟨b, o + k, none⟩ true wr) (q := cmtQ) (Fs := cmtF s p A ls.length c l A' n' (some ⟨b, o, none⟩) cs.length d k ⟨b, o + k, none⟩ true wr) (by kernel_rfl) (by kernel_rfl) (by kernel_rfl) (by kernel_rfl) (below_drew (Below.refl _ _)) ?_ ?_
          ·
            have hBs := cmtB_stay s p A ls.length c l A' n' (some ⟨b, o, none⟩) cs.length d k ⟨b, o + k, none⟩ true wr
            have hFs := cmtF_stay s p A ls.length c l A' n' (some ⟨b, o, none⟩) cs.length d k ⟨b, o + k, none⟩ true wr
            refine ⟨?_, ?_, ?_, ?_, ?_, ?_, ?_, trivial⟩
            · refine step_pure hBs hFs rfl fun a' w' hB hag hp => ?_
              have h2 := hag 2 (by kernel_rfl)
              have hB : Below wr.heap.size wr w' := hB; have x0 := (hB.cell (p := ⟨w.heap.size, 0, none⟩) hlx).trans X0.out; have x1 := (hB.cell (p := ⟨w.heap.size, 1, none⟩) hlx).trans X1.out; have x2 := (hB.cell (p := ⟨w.heap.size, 2, none⟩) hlx).trans X2.out; have y0 := (hB.cell (p := ⟨b, o + k, none⟩) hbl).trans Y0.out
              simp at h2
              unfold OpYields
              go_simp
              exact ⟨Below.refl _ _, rfl⟩
            · refine step_pure hBs hFs rfl fun a' w' hB hag hp => ?_
              have h1 := hag 1 (by kernel_rfl)
              simp at h1
              unfold OpYields
              go_simp
              exact ⟨Below.refl _ _, rfl⟩
            · refine step_pure hBs hFs rfl fun a' w' hB hag hp => ?_
              have h6 := hag 6 (by kernel_rfl)
              simp at h6
              unfold OpYields
              go_simp
              exact ⟨Below.refl _ _, rfl⟩
            · refine step_pure hBs hFs rfl fun a' w' hB hag hp => ?_
              have h26 : a'.tmps.getD 26 undef = _ := hp 1 (by kernel_rfl)
              have h27 : a'.tmps.getD 27 undef = _ := hp 2 (by kernel_rfl)
              simp at h26 h27
              unfold OpYields
              go_simp
              exact ⟨Below.refl _ _, rfl⟩
            · refine step_pure hBs hFs rfl fun a' w' hB hag hp => ?_
              have h28 : a'.tmps.getD 28 undef = _ := hp 3 (by kernel_rfl)
              have hB : Below wr.heap.size wr w' := hB; have x0 := (hB.cell (p := ⟨w.heap.size, 0, none⟩) hlx).trans X0.out; have x1 := (hB.cell (p := ⟨w.heap.size, 1, none⟩) hlx).trans X1.out; have x2 := (hB.cell (p := ⟨w.heap.size, 2, none⟩) hlx).trans X2.out; have y0 := (hB.cell (p := ⟨b, o + k, none⟩) hbl).trans Y0.out
              simp at h28
              unfold OpYields
              go_simp
              exact ⟨Below.refl _ _, rfl⟩
            · refine step_pure hBs hFs rfl fun a' w' hB hag hp => ?_
              have h25 : a'.tmps.getD 25 undef = _ := hp 0 (by kernel_rfl)
              have h29 : a'.tmps.getD 29 undef = _ := hp 4 (by kernel_rfl)
              have hB0 : Below wr.heap.size wr w' := hB
              simp at h25 h29
              unfold OpYields
              go_simp
              refine (rulesR_any s p A c ls l A' n' w' (HRL.out.below hB0)).mono ?_
              rw [HO.out]
              rintro e w1 ⟨rfl, hb⟩
              exact ⟨_, rfl, hb, rfl⟩
            · refine step_pure hBs hFs rfl fun a' w' hB hag hp => ?_
              have h30 : a'.tmps.getD 30 undef = _ := hp 5 (by kernel_rfl)
              simp at h30
              unfold OpYields
              go_simp
              exact ⟨Below.refl _ _, rfl⟩
          intro vs w' hB hF
          simp only [AllF, forall_const, reduceCtorEq, false_implies, Fof, cmtF, cmtQ, Nat.zero_add, Nat.reduceAdd, Nat.reduceEqDiff, if_true, if_false, List.getD_cons_succ, List.getD_cons_zero] at hF
          obtain ⟨f0, f1, f2, f3, f4, f5, f6, -⟩ := hF
          simp only [putAll, Act.put, Nat.zero_add, Nat.reduceAdd, f0, f1, f2, f3, f4, f5, f6, List.setIfInBounds_toArray, List.set_cons_zero, List.set_cons_succ]
          have KB := Aside.mk (below_call KB.out hB)
          have HX := Aside.mk (blk_keep HX.out hB)
          clear hB
          go_wp2
          exact ⟨⟨k + 1, by omega, by go_num, HA.out, KB.out, HX.out⟩, by simp [intOf]; omega⟩
      · obtain rfl : k = cs.length := by omega
        clear hb
        have HA := Aside.mk (show cs.all (rulesP p) = true by rw [← HS.out, List.take_length])
        go_wp2
        go_ret
        exact ⟨ret_bool (by rw [HR.out, HA.out]), KB.out⟩
  · have d1 : ((cs.length : Int) != s) = true := by simpa using hs
    rw [show mayC s p ls cs = false by rw [HE.out, hm, decide_eq_false hs]; rfl]
    clear hm hs
    go_enter Try.func20, Try.ntmps20
    go_wp2_with (go_at_call 41; refine (mayR_any s p A c ls _ (HL.out.below KB.out)).mono ?_; rw [← may_same, HM.out]; rintro e w1 ⟨rfl, hb1⟩; have KB := Aside.mk (below_call KB.out hb1); have HX := Aside.mk (blk_keep HX.out hb1); have hlx := blk_lt HX.out; have x0 := blk_cell HX.out 0; have x1 := blk_cell HX.out 1; have x2 := blk_cell HX.out 2; simp at x0 x1 x2; clear hb1)
    go_ret
    exact ⟨rfl, KB.out⟩
set_option maxHeartbeats 1000000 in
theorem confMostR_any (cs : List (List Rul)) (C : Option Addr) (d : Nat) (w : World) (hc : Rd confD w C cs.length cs) :
    Calls Try.prog 24 #[.slice C cs.length d] w fun e w' => e = .returned (.int .i64 (mostC cs : Int)) ∧ w' = w := by
  have HC := Aside.mk hc
  have hmx := hc.max
  have HM : Aside (∀ l ∈ cs, l.length ≤ 9223372036854775807) := .mk (fun l hl => by
    obtain ⟨k, hk, rfl⟩ := List.getElem_of_mem hl
    obtain ⟨_, _, _, _, _, _, _, _, _, hr⟩ := conf_cell hc (Below.refl _ w) hk
    exact hr.max)
  clear hc
  go_enter Try.func24, Try.ntmps24
  go_wp2
  go_loop [3, 4] (fun n i => ∃ k : Nat, k ≤ cs.length ∧ i = .int .i64 k ∧ n = .int .i64 (mostC (cs.take k) : Nat)) (fun _ i => cs.length - (intOf i).toNat)
  case atStart => exact ⟨0, Nat.zero_le _, rfl, rfl⟩
  case round =>
    obtain ⟨k, hk, rfl, rfl⟩ := hrel
    by_cases hk2 : k < cs.length
    · obtain ⟨b, o, A', n', rfl, hbl, hcell, -, -, -⟩ := conf_cell HC.out (Below.refl _ w) hk2
      have HT := Aside.mk (most_snoc hk2)
      have h1 := HM.out _ (List.getElem_mem hk2)
      have h2 := most_le (cs := cs.take k) (fun l hl => HM.out l (List.mem_of_mem_take hl))
      obtain ⟨l, hx⟩ : ∃ x, cs[k] = x := ⟨_, rfl⟩
      rw [hx] at hcell HT h1
      obtain ⟨N, hN⟩ : ∃ N, mostC (cs.take k) = N := ⟨_, rfl⟩
      rw [hN] at HT h2 ⊢
      clear hx hN
      go_wp2
      all_goals exact ⟨⟨k + 1, by omega, by go_num, by rw [HT.out]; congr 1; omega⟩, by simp [intOf]; omega⟩
    · obtain rfl : k = cs.length := by omega
      rw [List.take_length]
      go_wp2
      go_ret
      exact ⟨rfl, rfl⟩
set_option maxHeartbeats 1000000 in
theorem confSameR_any (a b : List (List Rul)) (A B : Option Addr) (c d : Nat) (w : World) (ha : Rd confD w A a.length a) (hb : Rd confD w B b.length b) (h1 : ∀ l ∈ a, l.length ≤ 1000) (h2 : ∀ l ∈ b, l.length ≤ 1000) :
    Calls Try.prog 21 #[.slice A a.length c, .slice B b.length d] w fun e w' => e = .returned (.bool (sameC a b)) ∧ Below w.heap.size w w' := by
  have HA := Aside.mk ha
  have HB := Aside.mk hb
  have H1 := Aside.mk h1
  have H2 := Aside.mk h2
  have hma := ha.max
  have hmb := hb.max
  have HE := Aside.mk (show sameC a b = decide (a.map sortP = b.map sortP) from rfl)
  clear ha hb h1 h2
  by_cases hlen : a.length = b.length
  · have d0 : ((a.length : Int) != (b.length : Int)) = false := by simp [hlen]
    have HLEN := Aside.mk hlen
    clear hlen
    go_enter Try.func21, Try.ntmps21
    go_wp2
    go_loopw [5] (fun i wr => ∃ k : Nat, k ≤ a.length ∧ i = .int .i64 k ∧ (a.map sortP = b.map sortP ↔ (a.drop k).map sortP = (b.drop k).map sortP) ∧ Below w.heap.size w wr) (fun i _ => a.length - (intOf i).toNat)
    case atStart => exact ⟨0, Nat.zero_le _, rfl, by simp, Below.refl _ _⟩
    case round =>
      obtain ⟨k, hk, rfl, hs, hbl⟩ := hrel
      have HS := Aside.mk hs
      have KB := Aside.mk hbl
      clear hs
      by_cases hlta : k < a.length
      · have hlt : k < b.length := by have := HLEN.out; omega
        obtain ⟨b1, o1, A1, n1, rfl, hbl1, hc1, -, hn1, hr1⟩ := conf_cell HA.out hbl hlta
        obtain ⟨b2, o2, A2, n2, rfl, hbl2, hc2, -, hn2, hr2⟩ := conf_cell HB.out hbl hlt
        have hx1 := H1.out _ (List.getElem_mem hlta)
        have hx2 := H2.out _ (List.getElem_mem hlt)
        have hd := Aside.mk (dropS_eq hlta hlt)
        obtain ⟨x, hx⟩ : ∃ x, a[k] = x := ⟨_, rfl⟩
        obtain ⟨y, hy⟩ : ∃ x, b[k] = x := ⟨_, rfl⟩
        rw [hx] at hc1 hr1 hx1 hd
        rw [hy] at hc2 hr2 hx2 hd
        have HR1 := Aside.mk (hr1.below hbl)
        have HR2 := Aside.mk (hr2.below hbl)
        have HN1 := Aside.mk hn1
        have HN2 := Aside.mk hn2
        clear hbl hx hy hr1 hr2 hn1 hn2
        have X0 := Aside.mk hc1
        have Y0 := Aside.mk hc2
        have hbl1 := Nat.lt_of_lt_of_le hbl1 KB.out.size
        have hbl2 := Nat.lt_of_lt_of_le hbl2 KB.out.size
        obtain ⟨S, hS⟩ : ∃ S, sortP x = S := ⟨_, rfl⟩
        obtain ⟨T, hT⟩ : ∃ S, sortP y = S := ⟨_, rfl⟩
        rw [hS, hT] at hd
        have HSX := Aside.mk hS
        have HSY := Aside.mk hT
        clear hc1 hc2 hS hT
        cases hxy : decide (S = T)
        · have HST := Aside.mk hxy
          have HNE : Aside (sameC a b = false) := .mk (by
            rw [HE.out]
            exact decide_eq_false (fun h => by
              have := (hd.out.1 (HS.out.1 h)).1
              rw [decide_eq_true this] at hxy
              cases hxy))
          clear hxy
          go_wp2
          refine wp_region_facts (Base := csfB x y S T A1 A2 n1 n2 (some ⟨b1, o1, none⟩) (some ⟨b2, o2, none⟩) a.length b.length c d k ⟨b1, o1 + k, none⟩ ⟨b2, o2 + k, none⟩ false wr) (q := csfQ) (Fs := csfF x y S T A1 A2 n1 n2 (some ⟨b1, o1, none⟩) (some ⟨b2, o2, none⟩) a.length b.length c d k ⟨b1, o1 + k, none⟩ ⟨b2, o2 + k, none⟩ false wr) (by kernel_rfl) (by kernel_rfl) (by kernel_rfl) (by kernel_rfl) (below_drew (Below.refl _ _)) ?_ ?_
          ·
            have hBs := csfB_stay x y S T A1 A2 n1 n2 (some ⟨b1, o1, none⟩) (some ⟨b2, o2, none⟩) a.length b.length c d k ⟨b1, o1 + k, none⟩ ⟨b2, o2 + k, none⟩ false wr
            have hFs := csfF_stay x y S T A1 A2 n1 n2 (some ⟨b1, o1, none⟩) (some ⟨b2, o2, none⟩) a.length b.length c d k ⟨b1, o1 + k, none⟩ ⟨b2, o2 + k, none⟩ false wr
            refine ⟨?_, ?_, ?_, ?_, ?_, ?_, ?_, ?_, ?_, ?_, ?_, ?_, trivial⟩
            · refine step_pure hBs hFs rfl fun a' w' hB hag hp => ?_
              have h0 := hag 0 (by kernel_rfl)
              simp at h0
              unfold OpYields
              go_simp
              exact ⟨Below.refl _ _, rfl⟩
            · refine step_pure hBs hFs rfl fun a' w' hB hag hp => ?_
              have h5 := hag 5 (by kernel_rfl)
              simp at h5
              unfold OpYields
              go_simp
              exact ⟨Below.refl _ _, rfl⟩
            · refine step_pure hBs hFs rfl fun a' w' hB hag hp => ?_
              have h18 : a'.tmps.getD 18 undef = _ := hp 0 (by kernel_rfl)
              have h19 : a'.tmps.getD 19 undef = _ := hp 1 (by kernel_rfl)
              simp at h18 h19
              unfold OpYields
              go_simp
              exact ⟨Below.refl _ _, rfl⟩
            · refine step_pure hBs hFs rfl fun a' w' hB hag hp => ?_
              have h20 : a'.tmps.getD 20 undef = _ := hp 2 (by kernel_rfl)
              have hB : Below wr.heap.size wr w' := hB; have x0 := (hB.cell (p := ⟨b1, o1 + k, none⟩) hbl1).trans X0.out; have y0 := (hB.cell (p := ⟨b2, o2 + k, none⟩) hbl2).trans Y0.out
              simp at h20
              unfold OpYields
              go_simp
              exact ⟨Below.refl _ _, rfl⟩
            · refine step_pure hBs hFs rfl fun a' w' hB hag hp => ?_
              have h21 : a'.tmps.getD 21 undef = _ := hp 3 (by kernel_rfl)
              have hB0 : Below wr.heap.size wr w' := hB
              simp at h21
              unfold OpYields
              go_simp
              refine (orderR_any x A1 n1 w' (HR1.out.below hB0) hx1).mono ?_
              rintro e w1 ⟨v, rfl, ho, hb⟩
              rw [HSX.out] at ho
              exact ⟨_, rfl, hb, ho.mono hB0.size⟩
            · refine step_pure hBs hFs rfl fun a' w' hB hag hp => ?_
              have h1 := hag 1 (by kernel_rfl)
              simp at h1
              unfold OpYields
              go_simp
              exact ⟨Below.refl _ _, rfl⟩
            · refine step_pure hBs hFs rfl fun a' w' hB hag hp => ?_
              have h5 := hag 5 (by kernel_rfl)
              simp at h5
              unfold OpYields
              go_simp
              exact ⟨Below.refl _ _, rfl⟩
            · refine step_pure hBs hFs rfl fun a' w' hB hag hp => ?_
              have h23 : a'.tmps.getD 23 undef = _ := hp 5 (by kernel_rfl)
              have h24 : a'.tmps.getD 24 undef = _ := hp 6 (by kernel_rfl)
              simp at h23 h24
              unfold OpYields
              go_simp
              exact ⟨Below.refl _ _, rfl⟩
            · refine step_pure hBs hFs rfl fun a' w' hB hag hp => ?_
              have h25 : a'.tmps.getD 25 undef = _ := hp 7 (by kernel_rfl)
              have hB : Below wr.heap.size wr w' := hB; have x0 := (hB.cell (p := ⟨b1, o1 + k, none⟩) hbl1).trans X0.out; have y0 := (hB.cell (p := ⟨b2, o2 + k, none⟩) hbl2).trans Y0.out
              simp at h25
              unfold OpYields
              go_simp
              exact ⟨Below.refl _ _, rfl⟩
            · refine step_pure hBs hFs rfl fun a' w' hB hag hp => ?_
              have h26 : a'.tmps.getD 26 undef = _ := hp 8 (by kernel_rfl)
              have hB0 : Below wr.heap.size wr w' := hB
              simp at h26
              unfold OpYields
              go_simp
              refine (orderR_any y A2 n2 w' (HR2.out.below hB0) hx2).mono ?_
              rintro e w1 ⟨v, rfl, ho, hb⟩
              rw [HSY.out] at ho
              exact ⟨_, rfl, hb, ho.mono hB0.size⟩
            · refine step_pure hBs hFs rfl fun a' w' hB hag hp => ?_
              have h22 := hp 4 (by kernel_rfl)
              replace h22 : _ := h22
              have h27 := hp 9 (by kernel_rfl)
              replace h27 : _ := h27
              have h22' : Own rulF w' wr.heap.size 58 (a'.tmps.getD 22 undef) S := h22
              have h27' : Own rulF w' wr.heap.size 58 (a'.tmps.getD 27 undef) T := h27
              clear h22 h27
              obtain ⟨AS, kS, hvS, -, hrS⟩ := h22'.rd
              obtain ⟨AT, kT, hvT, -, hrT⟩ := h27'.rd
              simp at hvS hvT
              unfold OpYields
              go_simp
              refine (same08_any S T AS AT kS kT w' hrS hrT).mono ?_
              rw [HST.out]
              rintro e w1 ⟨rfl, hb⟩
              exact ⟨_, rfl, hb, rfl⟩
            · refine step_pure hBs hFs rfl fun a' w' hB hag hp => ?_
              have h28 : a'.tmps.getD 28 undef = _ := hp 10 (by kernel_rfl)
              simp at h28
              unfold OpYields
              go_simp
              exact ⟨Below.refl _ _, rfl⟩
          intro vs w' hB hF
          simp only [AllF, forall_const, reduceCtorEq, false_implies, Fof, csfF, csfQ, Nat.zero_add, Nat.reduceAdd, Nat.reduceEqDiff, if_true, if_false, List.getD_cons_succ, List.getD_cons_zero] at hF
          obtain ⟨f0, f1, f2, f3, -, f5, f6, f7, f8, -, f10, f11, -⟩ := hF
          simp only [putAll, Act.put, Nat.zero_add, Nat.reduceAdd, f0, f1, f2, f3, f5, f6, f7, f8, f10, f11, List.setIfInBounds_toArray, List.set_cons_zero, List.set_cons_succ]
          have KB := Aside.mk (below_call KB.out hB)
          clear hB
          go_wp2
          go_ret
          exact ⟨ret_bool HNE.out.symm, KB.out⟩
        · have HST := Aside.mk hxy
          have HNX := Aside.mk (HS.out.trans (hd.out.trans ⟨fun h => h.2, fun h => ⟨of_decide_eq_true hxy, h⟩⟩))
          clear hxy
          go_wp2
          refine wp_region_facts (Base := cstB x y S T A1 A2 n1 n2 (some ⟨b1, o1, none⟩) (some ⟨b2, o2, none⟩) a.length b.length c d k ⟨b1, o1 + k, none⟩ ⟨b2, o2 + k, none⟩ true wr) (q := cstQ) (Fs := cstF x y S T A1 A2 n1 n2 (some ⟨b1, o1, none⟩) (some ⟨b2, o2, none⟩) a.length b.length c d k ⟨b1, o1 + k, none⟩ ⟨b2, o2 + k, none⟩ true wr) (by kernel_rfl) (by kernel_rfl) (by kernel_rfl) (by kernel_rfl) (below_drew (Below.refl _ _)) ?_ ?_
          ·
            have hBs := cstB_stay x y S T A1 A2 n1 n2 (some ⟨b1, o1, none⟩) (some ⟨b2, o2, none⟩) a.length b.length c d k ⟨b1, o1 + k, none⟩ ⟨b2, o2 + k, none⟩ true wr
            have hFs := cstF_stay x y S T A1 A2 n1 n2 (some ⟨b1, o1, none⟩) (some ⟨b2, o2, none⟩) a.length b.length c d k ⟨b1, o1 + k, none⟩ ⟨b2, o2 + k, none⟩ true wr
            refine ⟨?_, ?_, ?_, ?_, ?_, ?_, ?_, ?_, ?_, ?_, ?_, ?_, trivial⟩
            · refine step_pure hBs hFs rfl fun a' w' hB hag hp => ?_
              have h0 := hag 0 (by kernel_rfl)
              simp at h0
              unfold OpYields
              go_simp
              exact ⟨Below.refl _ _, rfl⟩
            · refine step_pure hBs hFs rfl fun a' w' hB hag hp => ?_
              have h5 := hag 5 (by kernel_rfl)
              simp at h5
              unfold OpYields
              go_simp
              exact ⟨Below.refl _ _, rfl⟩
            · refine step_pure hBs hFs rfl fun a' w' hB hag hp => ?_
              have h18 : a'.tmps.getD 18 undef = _ := hp 0 (by kernel_rfl)
              have h19 : a'.tmps.getD 19 undef = _ := hp 1 (by kernel_rfl)
              simp at h18 h19
              unfold OpYields
              go_simp
              exact ⟨Below.refl _ _, rfl⟩
            · refine step_pure hBs hFs rfl fun a' w' hB hag hp => ?_
              have h20 : a'.tmps.getD 20 undef = _ := hp 2 (by kernel_rfl)
              have hB : Below wr.heap.size wr w' := hB; have x0 := (hB.cell (p := ⟨b1, o1 + k, none⟩) hbl1).trans X0.out; have y0 := (hB.cell (p := ⟨b2, o2 + k, none⟩) hbl2).trans Y0.out
              simp at h20
              unfold OpYields
              go_simp
              exact ⟨Below.refl _ _, rfl⟩
            · refine step_pure hBs hFs rfl fun a' w' hB hag hp => ?_
              have h21 : a'.tmps.getD 21 undef = _ := hp 3 (by kernel_rfl)
              have hB0 : Below wr.heap.size wr w' := hB
              simp at h21
              unfold OpYields
              go_simp
              refine (orderR_any x A1 n1 w' (HR1.out.below hB0) hx1).mono ?_
              rintro e w1 ⟨v, rfl, ho, hb⟩
              rw [HSX.out] at ho
              exact ⟨_, rfl, hb, ho.mono hB0.size⟩
            · refine step_pure hBs hFs rfl fun a' w' hB hag hp => ?_
              have h1 := hag 1 (by kernel_rfl)
              simp at h1
              unfold OpYields
              go_simp
              exact ⟨Below.refl _ _, rfl⟩
            · refine step_pure hBs hFs rfl fun a' w' hB hag hp => ?_
              have h5 := hag 5 (by kernel_rfl)
              simp at h5
              unfold OpYields
              go_simp
              exact ⟨Below.refl _ _, rfl⟩
            · refine step_pure hBs hFs rfl fun a' w' hB hag hp => ?_
              have h23 : a'.tmps.getD 23 undef = _ := hp 5 (by kernel_rfl)
              have h24 : a'.tmps.getD 24 undef = _ := hp 6 (by kernel_rfl)
              simp at h23 h24
              unfold OpYields
              go_simp
              exact ⟨Below.refl _ _, rfl⟩
            · refine step_pure hBs hFs rfl fun a' w' hB hag hp => ?_
              have h25 : a'.tmps.getD 25 undef = _ := hp 7 (by kernel_rfl)
              have hB : Below wr.heap.size wr w' := hB; have x0 := (hB.cell (p := ⟨b1, o1 + k, none⟩) hbl1).trans X0.out; have y0 := (hB.cell (p := ⟨b2, o2 + k, none⟩) hbl2).trans Y0.out
              simp at h25
              unfold OpYields
              go_simp
              exact ⟨Below.refl _ _, rfl⟩
            · refine step_pure hBs hFs rfl fun a' w' hB hag hp => ?_
              have h26 : a'.tmps.getD 26 undef = _ := hp 8 (by kernel_rfl)
              have hB0 : Below wr.heap.size wr w' := hB
              simp at h26
              unfold OpYields
              go_simp
              refine (orderR_any y A2 n2 w' (HR2.out.below hB0) hx2).mono ?_
              rintro e w1 ⟨v, rfl, ho, hb⟩
              rw [HSY.out] at ho
              exact ⟨_, rfl, hb, ho.mono hB0.size⟩
            · refine step_pure hBs hFs rfl fun a' w' hB hag hp => ?_
              have h22 := hp 4 (by kernel_rfl)
              replace h22 : _ := h22
              have h27 := hp 9 (by kernel_rfl)
              replace h27 : _ := h27
              have h22' : Own rulF w' wr.heap.size 58 (a'.tmps.getD 22 undef) S := h22
              have h27' : Own rulF w' wr.heap.size 58 (a'.tmps.getD 27 undef) T := h27
              clear h22 h27
              obtain ⟨AS, kS, hvS, -, hrS⟩ := h22'.rd
              obtain ⟨AT, kT, hvT, -, hrT⟩ := h27'.rd
              simp at hvS hvT
              unfold OpYields
              go_simp
              refine (same08_any S T AS AT kS kT w' hrS hrT).mono ?_
              rw [HST.out]
              rintro e w1 ⟨rfl, hb⟩
              exact ⟨_, rfl, hb, rfl⟩
            · refine step_pure hBs hFs rfl fun a' w' hB hag hp => ?_
              have h28 : a'.tmps.getD 28 undef = _ := hp 10 (by kernel_rfl)
              simp at h28
              unfold OpYields
              go_simp
              exact ⟨Below.refl _ _, rfl⟩
          intro vs w' hB hF
          simp only [AllF, forall_const, reduceCtorEq, false_implies, Fof, cstF, cstQ, Nat.zero_add, Nat.reduceAdd, Nat.reduceEqDiff, if_true, if_false, List.getD_cons_succ, List.getD_cons_zero] at hF
          obtain ⟨f0, f1, f2, f3, -, f5, f6, f7, f8, -, f10, f11, -⟩ := hF
          simp only [putAll, Act.put, Nat.zero_add, Nat.reduceAdd, f0, f1, f2, f3, f5, f6, f7, f8, f10, f11, List.setIfInBounds_toArray, List.set_cons_zero, List.set_cons_succ]
          have KB := Aside.mk (below_call KB.out hB)
          clear hB
          go_wp2
          go_roundw
          case rel => exact ⟨k + 1, by omega, by go_num, HNX.out, KB.out⟩
          case measure => simp [intOf]; omega
      · obtain rfl : k = a.length := by omega
        have HAB : Aside (sameC a b = true) := .mk (by
          rw [HE.out]
          exact decide_eq_true (HS.out.2 (by rw [List.drop_length, List.drop_eq_nil_of_le (by have := HLEN.out; omega)])))
        clear hbl
        go_wp2
        go_ret
        exact ⟨ret_bool HAB.out.symm, KB.out⟩
  · have d0 : ((a.length : Int) != (b.length : Int)) = true := by simp; omega
    have hne : sameC a b = false := by
      rw [HE.out]
      exact decide_eq_false (fun h => hlen (by have := congrArg List.length h; simpa using this))
    rw [hne]
    clear hlen hne
    go_enter Try.func21, Try.ntmps21
    go_wp2
    go_ret
    exact ⟨rfl, Below.refl _ _⟩
end Go.Proofs.Ytlnnkkbcmidddaa
