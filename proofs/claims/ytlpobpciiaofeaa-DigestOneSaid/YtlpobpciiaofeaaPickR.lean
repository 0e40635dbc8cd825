/- The walk through the document's First. -/
import Derived.Test.YtlpobpciiaofeaaPickF
namespace Go.Proofs.Ytlpobpciiaofeaa
open Go.RowKit
set_option maxRecDepth 100000

def pfrB (r q : Rul) (l : List Rul) (b o c : Nat) (j k : Nat) (w : World) (w' : World) : Prop :=
  Below w.heap.size w w'
def pfrF (r q : Rul) (l : List Rul) (b o c : Nat) (j k : Nat) (w : World) : List (Value → Value → World → Prop) :=
  [fun _ v _ => v = .slice (some ⟨b, o, none⟩) l.length c,
   fun _ v _ => v = .int .i64 k,
   fun _ v _ => v = .pointer (some ⟨b, o + k * 6, none⟩),
   fun _ v _ => v = rulV r,
   fun _ v _ => v = .slice (some ⟨b, o, none⟩) l.length c,
   fun _ v _ => v = .int .i64 j,
   fun _ v _ => v = .pointer (some ⟨b, o + j * 6, none⟩),
   fun _ v _ => v = rulV q,
   fun _ v _ => v = .bool (aheadI r q),
   fun _ v _ => v = .bool (aheadI r q)]
def pfrQ : Nat → Nat := fun i => i
theorem pfrF_stay (r q : Rul) (l : List Rul) (b o c : Nat) (j k : Nat) (w : World) : AllStay (pfrF r q l b o c j k w) := by
  intro F hF u v w' w'' hb h
  simp only [pfrF, List.mem_cons, List.not_mem_nil, or_false] at hF
  rcases hF with rfl | rfl | rfl | rfl | rfl | rfl | rfl | rfl | rfl | rfl
  · exact h
  · exact h
  · exact h
  · exact h
  · exact h
  · exact h
  · exact h
  · exact h
  · exact h
  · exact h
theorem pfrB_stay (r q : Rul) (l : List Rul) (b o c : Nat) (j k : Nat) (w : World) : Stays (pfrB r q l b o c j k w) := by
  intro w' w'' hb h
  exact below_call h hb

set_option maxHeartbeats 2000000 in
theorem firstR_any (l : List Rul) (A : Option Addr) (c : Nat) (inn dst : Int) (w : World) (hl : Rd rulD w A l.length l) :
    Calls Try.prog 18 #[.slice A l.length c, .int .i64 inn, .int .i64 dst] w fun e w' => e = .returned (.int .i64 (firstI inn dst l)) ∧ Below w.heap.size w w' := by
  have hmx := hl.max
  have HL := Aside.mk hl
  clear hl
  go_enter Try.func18, Try.ntmps18
  go_wp2_with fail
  go_loopw [7, 8] (fun best i wr => ∃ k : Nat, k ≤ l.length ∧ i = .int .i64 k ∧ best = .int .i64 (numI (bestN inn dst l k)) ∧ Below w.heap.size w wr) (fun _ i _ => l.length - (intOf i).toNat)
  case atStart => exact ⟨0, Nat.zero_le _, rfl, rfl, Below.refl _ _⟩
  case round =>
    obtain ⟨k, hk, rfl, rfl, hb⟩ := hrel
    have HB := Aside.mk hb
    by_cases hlt : k < l.length
    · obtain ⟨b, o, cs, rfl, -⟩ := Row.at HL.out k hlt
      obtain ⟨hbl, q0, q1, q2, q3, q4, q5⟩ := rul_cells (c := c) HL.out hb hlt
      obtain ⟨-, e0, e1, e2, e3, e4, e5⟩ := rul_cells (c := c) HL.out (Below.refl _ w) hlt
      have hs := Aside.mk (bestN_succ (inn := inn) (dst := dst) hlt)
      clear hb
      cases hfit : fitsI l[k] inn dst
      · have ht : bestN inn dst l (k + 1) = bestN inn dst l k := by rw [hs.out]; simp [takes, hfit]
        generalize l[k] = r at *
        clear e0 e1 e2 e3 e4 e5
        go_wp2_with (go_at_call 33; refine (fitsR_any r _ _ _).mono ?_; rw [hfit]; rintro e w1 ⟨rfl, hb1⟩; have KB := Aside.mk (below_call HB.out hb1); clear hb1)
        go_roundw
        case rel => exact ⟨k + 1, by omega, by go_num, by rw [ht], KB.out⟩
        case measure => simp [intOf]; omega
      · cases hbest : bestN inn dst l k with
        | none =>
          have ht : bestN inn dst l (k + 1) = some k := by rw [hs.out, hbest, takes_none, hfit]; rfl
          generalize l[k] = r at *
          clear e0 e1 e2 e3 e4 e5
          simp only [numI]
          go_wp2_with (go_at_call 33; refine (fitsR_any r _ _ _).mono ?_; rw [hfit]; rintro e w1 ⟨rfl, hb1⟩; have KB := Aside.mk (below_call HB.out hb1); clear hb1)
          go_roundw
          case rel => exact ⟨k + 1, by omega, by go_num, by rw [ht], KB.out⟩
          case measure => simp [intOf]; omega
        | some j =>
          obtain ⟨hjk, hjl⟩ := bestN_lt hbest
          have ht : bestN inn dst l (k + 1) = if aheadI l[k] l[j] = true then some k else some j := by rw [hs.out, hbest, takes_some hjl, hfit, Bool.true_and]
          obtain ⟨-, f0, f1, f2, f3, f4, f5⟩ := rul_cells (c := c) HL.out (Below.refl _ w) hjl
          have hjl' : (j : Int) < (l.length : Int) := by omega
          generalize l[k] = r at *
          generalize l[j] = q at *
          simp only [numI]
          go_wp2_with (go_at_call 33; refine (fitsR_any r _ _ _).mono ?_; rw [hfit]; rintro e w1 ⟨rfl, hb1⟩; have KB := Aside.mk (below_call HB.out hb1); clear hb1)
          refine wp_region_facts (Base := pfrB r q l b o c j k w) (q := pfrQ) (Fs := pfrF r q l b o c j k w) (by kernel_rfl) (by kernel_rfl) (by kernel_rfl) (by kernel_rfl) (below_drew KB.out) ?_ ?_
          · clear KB HB q0 q1 q2 q3 q4 q5
            have hBs := pfrB_stay r q l b o c j k w
            have hFs := pfrF_stay r q l b o c j k w
            refine ⟨?_, ?_, ?_, ?_, ?_, ?_, ?_, ?_, ?_, ?_, trivial⟩
            · refine step_pure hBs hFs rfl fun a' w' hB hag hp => ?_
              have h0 := hag 0 (by kernel_rfl)
              simp at h0
              unfold OpYields
              go_simp
              exact ⟨Below.refl _ _, rfl⟩
            · refine step_pure hBs hFs rfl fun a' w' hB hag hp => ?_
              have h8 := hag 8 (by kernel_rfl)
              simp at h8
              unfold OpYields
              go_simp
              exact ⟨Below.refl _ _, rfl⟩
            · refine step_pure hBs hFs rfl fun a' w' hB hag hp => ?_
              have h29 : a'.tmps.getD 29 undef = _ := hp 0 (by kernel_rfl)
              have h30 : a'.tmps.getD 30 undef = _ := hp 1 (by kernel_rfl)
              simp at h29 h30
              unfold OpYields
              go_simp
              exact ⟨Below.refl _ _, rfl⟩
            · refine step_pure hBs hFs rfl fun a' w' hB hag hp => ?_
              have h31 : a'.tmps.getD 31 undef = _ := hp 2 (by kernel_rfl)
              have hd0 := (hB.cell hbl).trans f0; have hd1 := (hB.cell hbl).trans f1; have hd2 := (hB.cell hbl).trans f2; have hd3 := (hB.cell hbl).trans f3; have hd4 := (hB.cell hbl).trans f4; have hd5 := (hB.cell hbl).trans f5; have he0 := (hB.cell hbl).trans e0; have he1 := (hB.cell hbl).trans e1; have he2 := (hB.cell hbl).trans e2; have he3 := (hB.cell hbl).trans e3; have he4 := (hB.cell hbl).trans e4; have he5 := (hB.cell hbl).trans e5
              simp at h31
              unfold OpYields
              go_simp
              exact ⟨Below.refl _ _, rfl⟩
            · refine step_pure hBs hFs rfl fun a' w' hB hag hp => ?_
              have h0 := hag 0 (by kernel_rfl)
              simp at h0
              unfold OpYields
              go_simp
              exact ⟨Below.refl _ _, rfl⟩
            · refine step_pure hBs hFs rfl fun a' w' hB hag hp => ?_
              have h7 := hag 7 (by kernel_rfl)
              simp at h7
              unfold OpYields
              go_simp
              exact ⟨Below.refl _ _, rfl⟩
            · refine step_pure hBs hFs rfl fun a' w' hB hag hp => ?_
              have h33 : a'.tmps.getD 33 undef = _ := hp 4 (by kernel_rfl)
              have h34 : a'.tmps.getD 34 undef = _ := hp 5 (by kernel_rfl)
              simp at h33 h34
              unfold OpYields
              go_simp
              exact ⟨Below.refl _ _, rfl⟩
            · refine step_pure hBs hFs rfl fun a' w' hB hag hp => ?_
              have h35 : a'.tmps.getD 35 undef = _ := hp 6 (by kernel_rfl)
              have hd0 := (hB.cell hbl).trans f0; have hd1 := (hB.cell hbl).trans f1; have hd2 := (hB.cell hbl).trans f2; have hd3 := (hB.cell hbl).trans f3; have hd4 := (hB.cell hbl).trans f4; have hd5 := (hB.cell hbl).trans f5; have he0 := (hB.cell hbl).trans e0; have he1 := (hB.cell hbl).trans e1; have he2 := (hB.cell hbl).trans e2; have he3 := (hB.cell hbl).trans e3; have he4 := (hB.cell hbl).trans e4; have he5 := (hB.cell hbl).trans e5
              simp at h35
              unfold OpYields
              go_simp
              exact ⟨Below.refl _ _, rfl⟩
            · refine step_pure hBs hFs rfl fun a' w' hB hag hp => ?_
              have h32 : a'.tmps.getD 32 undef = _ := hp 3 (by kernel_rfl)
              have h36 : a'.tmps.getD 36 undef = _ := hp 7 (by kernel_rfl)
              simp at h32 h36
              unfold OpYields
              go_simp
              refine (aheadR_any r q _).mono ?_
              rintro e w1 ⟨rfl, hb⟩
              exact ⟨_, rfl, hb, rfl⟩
            · refine step_pure hBs hFs rfl fun a' w' hB hag hp => ?_
              have h37 : a'.tmps.getD 37 undef = _ := hp 8 (by kernel_rfl)
              simp at h37
              unfold OpYields
              go_simp
              exact ⟨Below.refl _ _, rfl⟩
          clear f0 f1 f2 f3 f4 f5 e0 e1 e2 e3 e4 e5
          intro vs w' hB hF
          simp only [AllF, forall_const, reduceCtorEq, false_implies, Fof, pfrF, pfrQ, Nat.zero_add, Nat.reduceAdd, Nat.reduceEqDiff, if_true, if_false, List.getD_cons_succ, List.getD_cons_zero] at hF
          obtain ⟨f0, f1, f2, f3, f4, f5, f6, f7, f8, f9, -⟩ := hF
          simp only [putAll, Act.put, Nat.zero_add, Nat.reduceAdd, f0, f1, f2, f3, f4, f5, f6, f7, f8, f9, List.setIfInBounds_toArray, List.set_cons_zero, List.set_cons_succ]
          have LB := Aside.mk hB
          clear hB
          cases ha : aheadI r q
          · rw [ha] at ht
            go_wp2
            go_roundw
            case rel => exact ⟨k + 1, by omega, by go_num, by rw [ht]; rfl, LB.out⟩
            case measure => simp [intOf]; omega
          · rw [ha] at ht
            go_wp2
            go_roundw
            case rel => exact ⟨k + 1, by omega, by go_num, by rw [ht]; rfl, LB.out⟩
            case measure => simp [intOf]; omega
    · obtain rfl : k = l.length := by omega
      clear hb
      go_wp2
      go_ret
      exact ⟨rfl, HB.out⟩
end Go.Proofs.Ytlpobpciiaofeaa
