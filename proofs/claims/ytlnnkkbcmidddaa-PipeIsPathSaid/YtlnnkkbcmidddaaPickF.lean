/- The walks through pick.First and the document's First. -/
import Derived.Test.YtlnnkkbcmidddaaBitsH
import Derived.Test.YtlnnkkbcmidddaaPickP
namespace Go.Proofs.Ytlnnkkbcmidddaa
open Go.RowKit
set_option maxRecDepth 100000

def rulF : Flat Rul where
  enc r := [.int .i64 r.addr, .int .i64 r.len, .int .i64 r.inn, .int .i64 r.prio, .int .i64 r.kind, .int .i64 r.port]
  sz := 6
  len _ := rfl
  one _ u hu := by simp at hu; rcases hu with rfl | rfl | rfl | rfl | rfl | rfl <;> rfl
  pos := by decide
abbrev rulD : Kd Rul := rulF.kd
/-- A rule's cells. -/
theorem rul_cells {l : List Rul} {b o c k : Nat} {w W : World} (hl : Rd rulD w (some ⟨b, o, none⟩) l.length l) (hb : Below w.heap.size w W) (h : k < l.length) : b < w.heap.size ∧
    W.cell? ⟨b, o + k * 6, none⟩ = some (.int .i64 l[k].addr) ∧ W.cell? ⟨b, o + k * 6 + 1, none⟩ = some (.int .i64 l[k].len) ∧ W.cell? ⟨b, o + k * 6 + 2, none⟩ = some (.int .i64 l[k].inn) ∧
    W.cell? ⟨b, o + k * 6 + 3, none⟩ = some (.int .i64 l[k].prio) ∧ W.cell? ⟨b, o + k * 6 + 4, none⟩ = some (.int .i64 l[k].kind) ∧ W.cell? ⟨b, o + k * 6 + 5, none⟩ = some (.int .i64 l[k].port) := by
  obtain ⟨b', o', cs, e, hbl, hcs, hc⟩ := Row.at hl k h
  injection e with e
  injection e with e1 e2 _
  subst e1 e2
  obtain rfl : cs = _ := hcs
  exact ⟨hbl, (hb.cell hbl).trans (hc 0 _ rfl), (hb.cell hbl).trans (hc 1 _ rfl), (hb.cell hbl).trans (hc 2 _ rfl), (hb.cell hbl).trans (hc 3 _ rfl), (hb.cell hbl).trans (hc 4 _ rfl), (hb.cell hbl).trans (hc 5 _ rfl)⟩

def pfnB (r q : Rul) (l : List Rul) (b o c : Nat) (inn dst : Int) (j m : Nat) (w : World) (w' : World) : Prop :=
  Below w.heap.size w w' ∧ w'.heap[m]? = some (.cells #[.int .i64 r.addr, .int .i64 r.len, .int .i64 r.inn, .int .i64 r.prio, .int .i64 r.kind, .int .i64 r.port] 58)
def pfnF (r q : Rul) (l : List Rul) (b o c : Nat) (inn dst : Int) (j m : Nat) (w : World) : List (Value → Value → World → Prop) :=
  [fun _ v _ => v = rulV r,
   fun _ v _ => v = .int .i64 inn,
   fun _ v _ => v = .int .i64 dst,
   fun _ v _ => v = .bool false,
   fun _ v _ => v = .bool false,
   fun _ v _ => v = undef,
   fun _ v _ => v = undef,
   fun _ v _ => v = undef,
   fun _ v _ => v = undef,
   fun _ v _ => v = undef,
   fun _ v _ => v = undef,
   fun _ v _ => v = undef,
   fun _ v _ => v = undef,
   fun _ v _ => v = undef,
   fun _ v _ => v = undef,
   fun _ v _ => v = .bool false]
def pfnQ : Nat → Nat := fun i => i
theorem pfnF_stay (r q : Rul) (l : List Rul) (b o c : Nat) (inn dst : Int) (j m : Nat) (w : World) : AllStay (pfnF r q l b o c inn dst j m w) := by
  intro F hF u v w' w'' hb h
  simp only [pfnF, List.mem_cons, List.not_mem_nil, or_false] at hF
  rcases hF with rfl | rfl | rfl | rfl | rfl | rfl | rfl | rfl | rfl | rfl | rfl | rfl | rfl | rfl | rfl | rfl
  · exact h
  · exact h
  · exact h
  · exact h
  · exact h
  · exact h
  · exact h
  · exact h
  · exact h
  · exact h
  · exact h
  · exact h
  · exact h
  · exact h
  · exact h
  · exact h
theorem pfnB_stay (r q : Rul) (l : List Rul) (b o c : Nat) (inn dst : Int) (j m : Nat) (w : World) : Stays (pfnB r q l b o c inn dst j m w) := by
  intro w' w'' hb h
  exact ⟨below_call h.1 hb, blk_keep h.2 hb⟩

def pffB (r q : Rul) (l : List Rul) (b o c : Nat) (inn dst : Int) (j m : Nat) (w : World) (w' : World) : Prop :=
  Below w.heap.size w w' ∧ w'.heap[m]? = some (.cells #[.int .i64 r.addr, .int .i64 r.len, .int .i64 r.inn, .int .i64 r.prio, .int .i64 r.kind, .int .i64 r.port] 58)
def pffF (r q : Rul) (l : List Rul) (b o c : Nat) (inn dst : Int) (j m : Nat) (w : World) : List (Value → Value → World → Prop) :=
  [fun _ v _ => v = rulV r,
   fun _ v _ => v = .int .i64 inn,
   fun _ v _ => v = .int .i64 dst,
   fun _ v _ => v = .bool true,
   fun _ v _ => v = .bool true,
   fun _ v _ => v = .int .i64 (-1),
   fun _ v _ => v = .bool true,
   fun _ v _ => v = .bool true,
   fun _ v _ => v = undef,
   fun _ v _ => v = undef,
   fun _ v _ => v = undef,
   fun _ v _ => v = undef,
   fun _ v _ => v = undef,
   fun _ v _ => v = undef,
   fun _ v _ => v = .bool true,
   fun _ v _ => v = .bool true]
def pffQ : Nat → Nat := fun i => i
theorem pffF_stay (r q : Rul) (l : List Rul) (b o c : Nat) (inn dst : Int) (j m : Nat) (w : World) : AllStay (pffF r q l b o c inn dst j m w) := by
  intro F hF u v w' w'' hb h
  simp only [pffF, List.mem_cons, List.not_mem_nil, or_false] at hF
  rcases hF with rfl | rfl | rfl | rfl | rfl | rfl | rfl | rfl | rfl | rfl | rfl | rfl | rfl | rfl | rfl | rfl
  · exact h
  · exact h
  · exact h
  · exact h
  · exact h
  · exact h
  · exact h
  · exact h
  · exact h
  · exact h
  · exact h
  · exact h
  · exact h
  · exact h
  · exact h
  · exact h
theorem pffB_stay (r q : Rul) (l : List Rul) (b o c : Nat) (inn dst : Int) (j m : Nat) (w : World) : Stays (pffB r q l b o c inn dst j m w) := by
  intro w' w'' hb h
  exact ⟨below_call h.1 hb, blk_keep h.2 hb⟩

def pfsB (r q : Rul) (l : List Rul) (b o c : Nat) (inn dst : Int) (j m : Nat) (w : World) (w' : World) : Prop :=
  Below w.heap.size w w' ∧ w'.heap[m]? = some (.cells #[.int .i64 r.addr, .int .i64 r.len, .int .i64 r.inn, .int .i64 r.prio, .int .i64 r.kind, .int .i64 r.port] 58)
def pfsF (r q : Rul) (l : List Rul) (b o c : Nat) (inn dst : Int) (j m : Nat) (w : World) : List (Value → Value → World → Prop) :=
  [fun _ v _ => v = rulV r,
   fun _ v _ => v = .int .i64 inn,
   fun _ v _ => v = .int .i64 dst,
   fun _ v _ => v = .bool true,
   fun _ v _ => v = .bool true,
   fun _ v _ => v = .int .i64 j,
   fun _ v _ => v = .bool false,
   fun _ v _ => v = .bool false,
   fun _ v _ => v = rulV r,
   fun _ v _ => v = .slice (some ⟨b, o, none⟩) l.length c,
   fun _ v _ => v = .int .i64 j,
   fun _ v _ => v = .pointer (some ⟨b, o + j * 6, none⟩),
   fun _ v _ => v = rulV q,
   fun _ v _ => v = .bool (aheadI r q),
   fun _ v _ => v = .bool (aheadI r q),
   fun _ v _ => v = .bool (aheadI r q)]
def pfsQ : Nat → Nat := fun i => i
theorem pfsF_stay (r q : Rul) (l : List Rul) (b o c : Nat) (inn dst : Int) (j m : Nat) (w : World) : AllStay (pfsF r q l b o c inn dst j m w) := by
  intro F hF u v w' w'' hb h
  simp only [pfsF, List.mem_cons, List.not_mem_nil, or_false] at hF
  rcases hF with rfl | rfl | rfl | rfl | rfl | rfl | rfl | rfl | rfl | rfl | rfl | rfl | rfl | rfl | rfl | rfl
  · exact h
  · exact h
  · exact h
  · exact h
  · exact h
  · exact h
  · exact h
  · exact h
  · exact h
  · exact h
  · exact h
  · exact h
  · exact h
  · exact h
  · exact h
  · exact h
theorem pfsB_stay (r q : Rul) (l : List Rul) (b o c : Nat) (inn dst : Int) (j m : Nat) (w : World) : Stays (pfsB r q l b o c inn dst j m w) := by
  intro w' w'' hb h
  exact ⟨below_call h.1 hb, blk_keep h.2 hb⟩

set_option maxHeartbeats 2000000 in
theorem first_any (l : List Rul) (A : Option Addr) (c : Nat) (inn dst : Int) (w : World) (hl : Rd rulD w A l.length l) :
    Calls Try.prog 35 #[.slice A l.length c, .int .i64 inn, .int .i64 dst] w fun e w' => e = .returned (.int .i64 (firstI inn dst l)) ∧ Below w.heap.size w w' := by
  have hmx := hl.max
  have HL := Aside.mk hl
  clear hl
  go_enter Try.func35, Try.ntmps35
  go_wp2_with fail
  go_loopw [7, 12] (fun best i wr => ∃ k : Nat, k ≤ l.length ∧ i = .int .i64 k ∧ best = .int .i64 (numI (bestN inn dst l k)) ∧ Below w.heap.size w wr) (fun _ i _ => l.length - (intOf i).toNat)
  case atStart => exact ⟨0, Nat.zero_le _, rfl, rfl, Below.refl _ _⟩
  case round =>
    obtain ⟨k, hk, rfl, rfl, hb⟩ := hrel
    have HB := Aside.mk hb
    by_cases hlt : k < l.length
    · obtain ⟨b, o, cs, rfl, -⟩ := Row.at HL.out k hlt
      obtain ⟨hbl, e0, e1, e2, e3, e4, e5⟩ := rul_cells (c := c) HL.out hb hlt
      have hs := Aside.mk (bestN_succ (inn := inn) (dst := dst) hlt)
      clear hb
      have KB := Aside.mk (below_alloc HB.out (.cells #[.int .i64 l[k].addr, .int .i64 l[k].len, .int .i64 l[k].inn, .int .i64 l[k].prio, .int .i64 l[k].kind, .int .i64 l[k].port] 58))
      have KX := Aside.mk (show (wr.alloc (.cells #[.int .i64 l[k].addr, .int .i64 l[k].len, .int .i64 l[k].inn, .int .i64 l[k].prio, .int .i64 l[k].kind, .int .i64 l[k].port] 58)).heap[wr.heap.size]? = some (.cells #[.int .i64 l[k].addr, .int .i64 l[k].len, .int .i64 l[k].inn, .int .i64 l[k].prio, .int .i64 l[k].kind, .int .i64 l[k].port] 58) by rw [heap_at, if_pos rfl])
      cases hfit : fitsI l[k] inn dst
      · have ht : bestN inn dst l (k + 1) = bestN inn dst l k := by rw [hs.out]; simp [takes, hfit]
        generalize l[k] = r at *
        go_wp2
        refine wp_region_facts (Base := pfnB r r l b o c inn dst 0 wr.heap.size w) (q := pfnQ) (Fs := pfnF r r l b o c inn dst 0 wr.heap.size w) (by kernel_rfl) (by kernel_rfl) (by kernel_rfl) (by kernel_rfl) ⟨below_drew KB.out, KX.out⟩ ?_ ?_
        · clear KB KX HB e0 e1 e2 e3 e4 e5
          have hBs := pfnB_stay r r l b o c inn dst 0 wr.heap.size w
          have hFs := pfnF_stay r r l b o c inn dst 0 wr.heap.size w
          refine ⟨?_, ?_, ?_, ?_, ?_, ?_, ?_, ?_, ?_, ?_, ?_, ?_, ?_, ?_, ?_, ?_, trivial⟩
          · refine step_pure hBs hFs rfl fun a' w' hB hag hp => ?_
            have h9 := hag 9 (by kernel_rfl)
            have hc0 := blk_cell hB.2 0; have hc1 := blk_cell hB.2 1; have hc2 := blk_cell hB.2 2; have hc3 := blk_cell hB.2 3; have hc4 := blk_cell hB.2 4; have hc5 := blk_cell hB.2 5; simp at hc0 hc1 hc2 hc3 hc4 hc5
            simp at h9
            unfold OpYields
            go_simp
            exact ⟨Below.refl _ _, rfl⟩
          · refine step_pure hBs hFs rfl fun a' w' hB hag hp => ?_
            have h1 := hag 1 (by kernel_rfl)
            simp at h1
            unfold OpYields
            go_simp
            exact ⟨Below.refl _ _, rfl⟩
          · refine step_pure hBs hFs rfl fun a' w' hB hag hp => ?_
            have h2 := hag 2 (by kernel_rfl)
            simp at h2
            unfold OpYields
            go_simp
            exact ⟨Below.refl _ _, rfl⟩
          · refine step_pure hBs hFs rfl fun a' w' hB hag hp => ?_
            have h17 : a'.tmps.getD 17 undef = _ := hp 0 (by kernel_rfl)
            have h18 : a'.tmps.getD 18 undef = _ := hp 1 (by kernel_rfl)
            have h19 : a'.tmps.getD 19 undef = _ := hp 2 (by kernel_rfl)
            simp at h17 h18 h19
            unfold OpYields
            go_simp
            refine (fits_any r _ _ _).mono ?_
            rw [hfit]
            rintro e w1 ⟨rfl, hb⟩
            exact ⟨_, rfl, hb, rfl⟩
          · refine step_pure hBs hFs rfl fun a' w' hB hag hp => ?_
            have h20 : a'.tmps.getD 20 undef = _ := hp 3 (by kernel_rfl)
            simp at h20
            unfold OpYields
            go_simp
            exact ⟨Below.refl _ _, rfl⟩
          · refine step_out fun a' w' hB hag hp => ?_
            have hg : a'.tmps.getD 21 undef = _ := hp 4 (by kernel_rfl)
            exact ⟨unwanted_of hg rfl rfl rfl, rfl⟩
          · refine step_out fun a' w' hB hag hp => ?_
            have hg : a'.tmps.getD 21 undef = _ := hp 4 (by kernel_rfl)
            exact ⟨unwanted_of hg rfl rfl rfl, rfl⟩
          · refine step_out fun a' w' hB hag hp => ?_
            have hg : a'.tmps.getD 21 undef = _ := hp 4 (by kernel_rfl)
            exact ⟨unwanted_of hg rfl rfl rfl, rfl⟩
          · refine step_out fun a' w' hB hag hp => ?_
            have hg : a'.tmps.getD 24 undef = _ := hp 7 (by kernel_rfl)
            exact ⟨unwanted_undef hg rfl rfl, rfl⟩
          · refine step_out fun a' w' hB hag hp => ?_
            have hg : a'.tmps.getD 24 undef = _ := hp 7 (by kernel_rfl)
            exact ⟨unwanted_undef hg rfl rfl, rfl⟩
          · refine step_out fun a' w' hB hag hp => ?_
            have hg : a'.tmps.getD 24 undef = _ := hp 7 (by kernel_rfl)
            exact ⟨unwanted_undef hg rfl rfl, rfl⟩
          · refine step_out fun a' w' hB hag hp => ?_
            have hg : a'.tmps.getD 24 undef = _ := hp 7 (by kernel_rfl)
            exact ⟨unwanted_undef hg rfl rfl, rfl⟩
          · refine step_out fun a' w' hB hag hp => ?_
            have hg : a'.tmps.getD 24 undef = _ := hp 7 (by kernel_rfl)
            exact ⟨unwanted_undef hg rfl rfl, rfl⟩
          · refine step_out fun a' w' hB hag hp => ?_
            have hg : a'.tmps.getD 24 undef = _ := hp 7 (by kernel_rfl)
            exact ⟨unwanted_undef hg rfl rfl, rfl⟩
          · refine step_out fun a' w' hB hag hp => ?_
            have hg : a'.tmps.getD 21 undef = _ := hp 4 (by kernel_rfl)
            exact ⟨unwanted_of hg rfl rfl rfl, rfl⟩
          · refine step_pure hBs hFs rfl fun a' w' hB hag hp => ?_
            have h21 : a'.tmps.getD 21 undef = _ := hp 4 (by kernel_rfl)
            have h31 : a'.tmps.getD 31 undef = _ := hp 14 (by kernel_rfl)
            simp at h21 h31
            unfold OpYields
            go_simp
            exact ⟨Below.refl _ _, rfl⟩
        intro vs w' hB hF
        simp only [AllF, forall_const, reduceCtorEq, false_implies, Fof, pfnF, pfnQ, Nat.zero_add, Nat.reduceAdd, Nat.reduceEqDiff, if_true, if_false, List.getD_cons_succ, List.getD_cons_zero] at hF
        obtain ⟨f0, f1, f2, f3, f4, f5, f6, f7, f8, f9, f10, f11, f12, f13, f14, f15, -⟩ := hF
        simp only [putAll, Act.put, Nat.zero_add, Nat.reduceAdd, f0, f1, f2, f3, f4, f5, f6, f7, f8, f9, f10, f11, f12, f13, f14, f15, List.setIfInBounds_toArray, List.set_cons_zero, List.set_cons_succ]
        have LB := Aside.mk hB.1
        clear hB
        go_wp2
        go_roundw
        case rel => exact ⟨k + 1, by omega, by go_num, by rw [ht], LB.out⟩
        case measure => simp [intOf]; omega
      · cases hbest : bestN inn dst l k with
        | none =>
          have ht : bestN inn dst l (k + 1) = some k := by rw [hs.out, hbest, takes_none, hfit]; rfl
          generalize l[k] = r at *
          simp only [numI]
          go_wp2
          refine wp_region_facts (Base := pffB r r l b o c inn dst 0 wr.heap.size w) (q := pffQ) (Fs := pffF r r l b o c inn dst 0 wr.heap.size w) (by kernel_rfl) (by kernel_rfl) (by kernel_rfl) (by kernel_rfl) ⟨below_drew KB.out, KX.out⟩ ?_ ?_
          · clear KB KX HB e0 e1 e2 e3 e4 e5
            have hBs := pffB_stay r r l b o c inn dst 0 wr.heap.size w
            have hFs := pffF_stay r r l b o c inn dst 0 wr.heap.size w
            refine ⟨?_, ?_, ?_, ?_, ?_, ?_, ?_, ?_, ?_, ?_, ?_, ?_, ?_, ?_, ?_, ?_, trivial⟩
            · refine step_pure hBs hFs rfl fun a' w' hB hag hp => ?_
              have h9 := hag 9 (by kernel_rfl)
              have hc0 := blk_cell hB.2 0; have hc1 := blk_cell hB.2 1; have hc2 := blk_cell hB.2 2; have hc3 := blk_cell hB.2 3; have hc4 := blk_cell hB.2 4; have hc5 := blk_cell hB.2 5; simp at hc0 hc1 hc2 hc3 hc4 hc5
              simp at h9
              unfold OpYields
              go_simp
              exact ⟨Below.refl _ _, rfl⟩
            · refine step_pure hBs hFs rfl fun a' w' hB hag hp => ?_
              have h1 := hag 1 (by kernel_rfl)
              simp at h1
              unfold OpYields
              go_simp
              exact ⟨Below.refl _ _, rfl⟩
            · refine step_pure hBs hFs rfl fun a' w' hB hag hp => ?_
              have h2 := hag 2 (by kernel_rfl)
              simp at h2
              unfold OpYields
              go_simp
              exact ⟨Below.refl _ _, rfl⟩
            · refine step_pure hBs hFs rfl fun a' w' hB hag hp => ?_
              have h17 : a'.tmps.getD 17 undef = _ := hp 0 (by kernel_rfl)
              have h18 : a'.tmps.getD 18 undef = _ := hp 1 (by kernel_rfl)
              have h19 : a'.tmps.getD 19 undef = _ := hp 2 (by kernel_rfl)
              simp at h17 h18 h19
              unfold OpYields
              go_simp
              refine (fits_any r _ _ _).mono ?_
              rw [hfit]
              rintro e w1 ⟨rfl, hb⟩
              exact ⟨_, rfl, hb, rfl⟩
            · refine step_pure hBs hFs rfl fun a' w' hB hag hp => ?_
              have h20 : a'.tmps.getD 20 undef = _ := hp 3 (by kernel_rfl)
              simp at h20
              unfold OpYields
              go_simp
              exact ⟨Below.refl _ _, rfl⟩
            · refine step_pure_g hBs hFs fun a' w' hB hag hp => ?_
              have hg : a'.tmps.getD 21 undef = _ := hp 4 (by kernel_rfl)
              have h7 := hag 7 (by kernel_rfl)
              refine ⟨wanted_of hg rfl rfl, ?_⟩
              simp at h7
              unfold OpYields
              go_simp
              exact ⟨Below.refl _ _, rfl⟩
            · refine step_pure_g hBs hFs fun a' w' hB hag hp => ?_
              have hg : a'.tmps.getD 21 undef = _ := hp 4 (by kernel_rfl)
              have h22 : a'.tmps.getD 22 undef = _ := hp 5 (by kernel_rfl)
              refine ⟨wanted_of hg rfl rfl, ?_⟩
              simp at h22
              unfold OpYields
              go_simp
              exact ⟨Below.refl _ _, rfl⟩
            · refine step_pure_g hBs hFs fun a' w' hB hag hp => ?_
              have hg : a'.tmps.getD 21 undef = _ := hp 4 (by kernel_rfl)
              have h23 : a'.tmps.getD 23 undef = _ := hp 6 (by kernel_rfl)
              refine ⟨wanted_of hg rfl rfl, ?_⟩
              simp at h23
              unfold OpYields
              go_simp
              exact ⟨Below.refl _ _, rfl⟩
            · refine step_out fun a' w' hB hag hp => ?_
              have hg : a'.tmps.getD 24 undef = _ := hp 7 (by kernel_rfl)
              exact ⟨unwanted_of hg rfl rfl rfl, rfl⟩
            · refine step_out fun a' w' hB hag hp => ?_
              have hg : a'.tmps.getD 24 undef = _ := hp 7 (by kernel_rfl)
              exact ⟨unwanted_of hg rfl rfl rfl, rfl⟩
            · refine step_out fun a' w' hB hag hp => ?_
              have hg : a'.tmps.getD 24 undef = _ := hp 7 (by kernel_rfl)
              exact ⟨unwanted_of hg rfl rfl rfl, rfl⟩
            · refine step_out fun a' w' hB hag hp => ?_
              have hg : a'.tmps.getD 24 undef = _ := hp 7 (by kernel_rfl)
              exact ⟨unwanted_of hg rfl rfl rfl, rfl⟩
            · refine step_out fun a' w' hB hag hp => ?_
              have hg : a'.tmps.getD 24 undef = _ := hp 7 (by kernel_rfl)
              exact ⟨unwanted_of hg rfl rfl rfl, rfl⟩
            · refine step_out fun a' w' hB hag hp => ?_
              have hg : a'.tmps.getD 24 undef = _ := hp 7 (by kernel_rfl)
              exact ⟨unwanted_of hg rfl rfl rfl, rfl⟩
            · refine step_pure_g hBs hFs fun a' w' hB hag hp => ?_
              have hg : a'.tmps.getD 21 undef = _ := hp 4 (by kernel_rfl)
              have h24 : a'.tmps.getD 24 undef = _ := hp 7 (by kernel_rfl)
              have h30 : a'.tmps.getD 30 undef = _ := hp 13 (by kernel_rfl)
              refine ⟨wanted_of hg rfl rfl, ?_⟩
              simp at h24 h30
              unfold OpYields
              go_simp
              exact ⟨Below.refl _ _, rfl⟩
            · refine step_pure hBs hFs rfl fun a' w' hB hag hp => ?_
              have h21 : a'.tmps.getD 21 undef = _ := hp 4 (by kernel_rfl)
              have h31 : a'.tmps.getD 31 undef = _ := hp 14 (by kernel_rfl)
              simp at h21 h31
              unfold OpYields
              go_simp
              exact ⟨Below.refl _ _, rfl⟩
          intro vs w' hB hF
          simp only [AllF, forall_const, reduceCtorEq, false_implies, Fof, pffF, pffQ, Nat.zero_add, Nat.reduceAdd, Nat.reduceEqDiff, if_true, if_false, List.getD_cons_succ, List.getD_cons_zero] at hF
          obtain ⟨f0, f1, f2, f3, f4, f5, f6, f7, f8, f9, f10, f11, f12, f13, f14, f15, -⟩ := hF
          simp only [putAll, Act.put, Nat.zero_add, Nat.reduceAdd, f0, f1, f2, f3, f4, f5, f6, f7, f8, f9, f10, f11, f12, f13, f14, f15, List.setIfInBounds_toArray, List.set_cons_zero, List.set_cons_succ]
          have LB := Aside.mk hB.1
          clear hB
          go_wp2
          go_roundw
          case rel => exact ⟨k + 1, by omega, by go_num, by rw [ht], LB.out⟩
          case measure => simp [intOf]; omega
        | some j =>
          obtain ⟨hjk, hjl⟩ := bestN_lt hbest
          have ht : bestN inn dst l (k + 1) = if aheadI l[k] l[j] = true then some k else some j := by rw [hs.out, hbest, takes_some hjl, hfit, Bool.true_and]
          obtain ⟨-, f0, f1, f2, f3, f4, f5⟩ := rul_cells (c := c) HL.out (Below.refl _ w) hjl
          have hjl' : (j : Int) < (l.length : Int) := by omega
          generalize l[k] = r at *
          generalize l[j] = q at *
          simp only [numI]
          go_wp2
          refine wp_region_facts (Base := pfsB r q l b o c inn dst j wr.heap.size w) (q := pfsQ) (Fs := pfsF r q l b o c inn dst j wr.heap.size w) (by kernel_rfl) (by kernel_rfl) (by kernel_rfl) (by kernel_rfl) ⟨below_drew KB.out, KX.out⟩ ?_ ?_
          · clear KB KX HB e0 e1 e2 e3 e4 e5
            have hBs := pfsB_stay r q l b o c inn dst j wr.heap.size w
            have hFs := pfsF_stay r q l b o c inn dst j wr.heap.size w
            refine ⟨?_, ?_, ?_, ?_, ?_, ?_, ?_, ?_, ?_, ?_, ?_, ?_, ?_, ?_, ?_, ?_, trivial⟩
            · refine step_pure hBs hFs rfl fun a' w' hB hag hp => ?_
              have h9 := hag 9 (by kernel_rfl)
              have hc0 := blk_cell hB.2 0; have hc1 := blk_cell hB.2 1; have hc2 := blk_cell hB.2 2; have hc3 := blk_cell hB.2 3; have hc4 := blk_cell hB.2 4; have hc5 := blk_cell hB.2 5; simp at hc0 hc1 hc2 hc3 hc4 hc5; have hd0 := (hB.1.cell hbl).trans f0; have hd1 := (hB.1.cell hbl).trans f1; have hd2 := (hB.1.cell hbl).trans f2; have hd3 := (hB.1.cell hbl).trans f3; have hd4 := (hB.1.cell hbl).trans f4; have hd5 := (hB.1.cell hbl).trans f5
              simp at h9
              unfold OpYields
              go_simp
              exact ⟨Below.refl _ _, rfl⟩
            · refine step_pure hBs hFs rfl fun a' w' hB hag hp => ?_
              have h1 := hag 1 (by kernel_rfl)
              simp at h1
              unfold OpYields
              go_simp
              exact ⟨Below.refl _ _, rfl⟩
            · refine step_pure hBs hFs rfl fun a' w' hB hag hp => ?_
              have h2 := hag 2 (by kernel_rfl)
              simp at h2
              unfold OpYields
              go_simp
              exact ⟨Below.refl _ _, rfl⟩
            · refine step_pure hBs hFs rfl fun a' w' hB hag hp => ?_
              have h17 : a'.tmps.getD 17 undef = _ := hp 0 (by kernel_rfl)
              have h18 : a'.tmps.getD 18 undef = _ := hp 1 (by kernel_rfl)
              have h19 : a'.tmps.getD 19 undef = _ := hp 2 (by kernel_rfl)
              simp at h17 h18 h19
              unfold OpYields
              go_simp
              refine (fits_any r _ _ _).mono ?_
              rw [hfit]
              rintro e w1 ⟨rfl, hb⟩
              exact ⟨_, rfl, hb, rfl⟩
            · refine step_pure hBs hFs rfl fun a' w' hB hag hp => ?_
              have h20 : a'.tmps.getD 20 undef = _ := hp 3 (by kernel_rfl)
              simp at h20
              unfold OpYields
              go_simp
              exact ⟨Below.refl _ _, rfl⟩
            · refine step_pure_g hBs hFs fun a' w' hB hag hp => ?_
              have hg : a'.tmps.getD 21 undef = _ := hp 4 (by kernel_rfl)
              have h7 := hag 7 (by kernel_rfl)
              refine ⟨wanted_of hg rfl rfl, ?_⟩
              simp at h7
              unfold OpYields
              go_simp
              exact ⟨Below.refl _ _, rfl⟩
            · refine step_pure_g hBs hFs fun a' w' hB hag hp => ?_
              have hg : a'.tmps.getD 21 undef = _ := hp 4 (by kernel_rfl)
              have h22 : a'.tmps.getD 22 undef = _ := hp 5 (by kernel_rfl)
              refine ⟨wanted_of hg rfl rfl, ?_⟩
              simp at h22
              unfold OpYields
              go_simp
              exact ⟨Below.refl _ _, rfl⟩
            · refine step_pure_g hBs hFs fun a' w' hB hag hp => ?_
              have hg : a'.tmps.getD 21 undef = _ := hp 4 (by kernel_rfl)
              have h23 : a'.tmps.getD 23 undef = _ := hp 6 (by kernel_rfl)
              refine ⟨wanted_of hg rfl rfl, ?_⟩
              simp at h23
              unfold OpYields
              go_simp
              exact ⟨Below.refl _ _, rfl⟩
            · refine step_pure_g hBs hFs fun a' w' hB hag hp => ?_
              have hg : a'.tmps.getD 24 undef = _ := hp 7 (by kernel_rfl)
              have h9 := hag 9 (by kernel_rfl)
              have hc0 := blk_cell hB.2 0; have hc1 := blk_cell hB.2 1; have hc2 := blk_cell hB.2 2; have hc3 := blk_cell hB.2 3; have hc4 := blk_cell hB.2 4; have hc5 := blk_cell hB.2 5; simp at hc0 hc1 hc2 hc3 hc4 hc5; have hd0 := (hB.1.cell hbl).trans f0; have hd1 := (hB.1.cell hbl).trans f1; have hd2 := (hB.1.cell hbl).trans f2; have hd3 := (hB.1.cell hbl).trans f3; have hd4 := (hB.1.cell hbl).trans f4; have hd5 := (hB.1.cell hbl).trans f5
              refine ⟨wanted_of hg rfl rfl, ?_⟩
              simp at h9
              unfold OpYields
              go_simp
              exact ⟨Below.refl _ _, rfl⟩
            · refine step_pure_g hBs hFs fun a' w' hB hag hp => ?_
              have hg : a'.tmps.getD 24 undef = _ := hp 7 (by kernel_rfl)
              have h0 := hag 0 (by kernel_rfl)
              refine ⟨wanted_of hg rfl rfl, ?_⟩
              simp at h0
              unfold OpYields
              go_simp
              exact ⟨Below.refl _ _, rfl⟩
            · refine step_pure_g hBs hFs fun a' w' hB hag hp => ?_
              have hg : a'.tmps.getD 24 undef = _ := hp 7 (by kernel_rfl)
              have h7 := hag 7 (by kernel_rfl)
              refine ⟨wanted_of hg rfl rfl, ?_⟩
              simp at h7
              unfold OpYields
              go_simp
              exact ⟨Below.refl _ _, rfl⟩
            · refine step_pure_g hBs hFs fun a' w' hB hag hp => ?_
              have hg : a'.tmps.getD 24 undef = _ := hp 7 (by kernel_rfl)
              have h26 : a'.tmps.getD 26 undef = _ := hp 9 (by kernel_rfl)
              have h27 : a'.tmps.getD 27 undef = _ := hp 10 (by kernel_rfl)
              refine ⟨wanted_of hg rfl rfl, ?_⟩
              simp at h26 h27
              unfold OpYields
              go_simp
              exact ⟨Below.refl _ _, rfl⟩
            · refine step_pure_g hBs hFs fun a' w' hB hag hp => ?_
              have hg : a'.tmps.getD 24 undef = _ := hp 7 (by kernel_rfl)
              have h28 : a'.tmps.getD 28 undef = _ := hp 11 (by kernel_rfl)
              have hc0 := blk_cell hB.2 0; have hc1 := blk_cell hB.2 1; have hc2 := blk_cell hB.2 2; have hc3 := blk_cell hB.2 3; have hc4 := blk_cell hB.2 4; have hc5 := blk_cell hB.2 5; simp at hc0 hc1 hc2 hc3 hc4 hc5; have hd0 := (hB.1.cell hbl).trans f0; have hd1 := (hB.1.cell hbl).trans f1; have hd2 := (hB.1.cell hbl).trans f2; have hd3 := (hB.1.cell hbl).trans f3; have hd4 := (hB.1.cell hbl).trans f4; have hd5 := (hB.1.cell hbl).trans f5
              refine ⟨wanted_of hg rfl rfl, ?_⟩
              simp at h28
              unfold OpYields
              go_simp
              exact ⟨Below.refl _ _, rfl⟩
            · refine step_pure_g hBs hFs fun a' w' hB hag hp => ?_
              have hg : a'.tmps.getD 24 undef = _ := hp 7 (by kernel_rfl)
              have h25 : a'.tmps.getD 25 undef = _ := hp 8 (by kernel_rfl)
              have h29 : a'.tmps.getD 29 undef = _ := hp 12 (by kernel_rfl)
              refine ⟨wanted_of hg rfl rfl, ?_⟩
              simp at h25 h29
              unfold OpYields
              go_simp
              refine (ahead_any r q _).mono ?_
              rintro e w1 ⟨rfl, hb⟩
              exact ⟨_, rfl, hb, rfl⟩
            · refine step_pure_g hBs hFs fun a' w' hB hag hp => ?_
              have hg : a'.tmps.getD 21 undef = _ := hp 4 (by kernel_rfl)
              have h24 : a'.tmps.getD 24 undef = _ := hp 7 (by kernel_rfl)
              have h30 : a'.tmps.getD 30 undef = _ := hp 13 (by kernel_rfl)
              refine ⟨wanted_of hg rfl rfl, ?_⟩
              simp at h24 h30
              unfold OpYields
              go_simp
              exact ⟨Below.refl _ _, rfl⟩
            · refine step_pure hBs hFs rfl fun a' w' hB hag hp => ?_
              have h21 : a'.tmps.getD 21 undef = _ := hp 4 (by kernel_rfl)
              have h31 : a'.tmps.getD 31 undef = _ := hp 14 (by kernel_rfl)
              simp at h21 h31
              unfold OpYields
              go_simp
              exact ⟨Below.refl _ _, rfl⟩
          clear f0 f1 f2 f3 f4 f5
          intro vs w' hB hF
          simp only [AllF, forall_const, reduceCtorEq, false_implies, Fof, pfsF, pfsQ, Nat.zero_add, Nat.reduceAdd, Nat.reduceEqDiff, if_true, if_false, List.getD_cons_succ, List.getD_cons_zero] at hF
          obtain ⟨f0, f1, f2, f3, f4, f5, f6, f7, f8, f9, f10, f11, f12, f13, f14, f15, -⟩ := hF
          simp only [putAll, Act.put, Nat.zero_add, Nat.reduceAdd, f0, f1, f2, f3, f4, f5, f6, f7, f8, f9, f10, f11, f12, f13, f14, f15, List.setIfInBounds_toArray, List.set_cons_zero, List.set_cons_succ]
          have LB := Aside.mk hB.1
          clear hB
          cases ha : aheadI r q
          · rw [ha] at ht
            go_wp2
            go_roundw
            case rel => exact ⟨k + 1, by omega, by go_num, by rw [ht]; rfl, LB.out⟩
            case measure => simp [intOf]; omega
          · rw [ha] at ht
            go_wp2
            go_roundw
            case rel => exact ⟨k + 1, by omega, by go_num, by rw [ht]; rfl, LB.out⟩
            case measure => simp [intOf]; omega
    · obtain rfl : k = l.length := by omega
      clear hb
      go_wp2
      go_ret
      exact ⟨rfl, HB.out⟩
end Go.Proofs.Ytlnnkkbcmidddaa
