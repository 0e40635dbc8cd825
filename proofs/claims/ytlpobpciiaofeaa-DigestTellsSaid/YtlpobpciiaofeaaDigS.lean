/- The walks through digest.All and the document's All of layer 10. -/
import Derived.Test.YtlpobpciiaofeaaDigR
namespace Go.Proofs.Ytlpobpciiaofeaa
open Go.RowKit
set_option maxRecDepth 100000
abbrev verB (v : Vr) : List Int := headB (ofP v.tag v.l)
def allP (vs : List Vr) : Int := sumI (vs.flatMap verB)
theorem ver_len (vs : List Vr) : (vs.flatMap verB).length = vs.length * 2 := by
  induction vs with
  | nil => rfl
  | cons x xs ih => rw [List.flatMap_cons, List.length_append, ih]; simp only [List.length_cons, List.length_nil]; omega
theorem ver_oct (vs : List Vr) : Oct (vs.flatMap verB) := by
  intro z hz
  obtain ⟨v, -, hz⟩ := List.mem_flatMap.1 hz
  simp [headB] at hz
  omega
theorem ver_snoc {vs : List Vr} {k : Nat} (h : k < vs.length) : (vs.take (k + 1)).flatMap verB = (vs.take k).flatMap verB ++ verB vs[k] := by
  rw [List.take_succ_eq_append_getElem h, List.flatMap_append]
  simp
theorem ofP_lt (tag : Int) (l : List Rul) : 0 ≤ ofP tag l ∧ ofP tag l < 65536 := by
  have h := sumI_bounds (bytes_oct tag l)
  unfold ofP
  omega
set_option maxHeartbeats 2000000 in
theorem all_any (vs : List Vr) (A : Option Addr) (c : Nat) (w : World) (hc : Rd verD w A vs.length vs) (h20 : vs.length ≤ 20) (h60 : ∀ v ∈ vs, v.l.length ≤ 60) (ht : ∀ v ∈ vs, Fit v.tag) :
    Calls Try.prog 27 #[.slice A vs.length c] w fun e w' => e = .returned (.int .i64 (allP vs)) ∧ Below w.heap.size w w' := by
  have HC := Aside.mk hc
  have H60 := Aside.mk h60
  have HTT := Aside.mk ht
  clear hc h60 ht
  go_enter Try.func27, Try.ntmps27
  go_wp2
  go_loopw [3, 9] (fun v i wr => ∃ (k : Nat) (L : List Int), k ≤ vs.length ∧ i = .int .i64 k ∧ L = (vs.take k).flatMap verB ∧ Own bytF wr w.heap.size 5 v L ∧ Below w.heap.size w wr) (fun _ i _ => vs.length - (intOf i).toNat)
  case atStart => exact ⟨0, [], Nat.zero_le _, rfl, rfl, Own.nil _ _ _ _, Below.refl _ _⟩
  case round =>
    obtain ⟨k, L, hk, rfl, hL, ho, hb⟩ := hrel
    obtain ⟨A0, k0, rfl, -⟩ := ho.form
    have KC := Aside.mk hb
    have KO := Aside.mk ho
    have HL := Aside.mk hL
    have hLl : L.length ≤ 40 := by rw [hL, ver_len, List.length_take]; omega
    clear hb ho hL
    by_cases hlt : k < vs.length
    · obtain ⟨b, o, A', n', rfl, hbl, p0, p1, -, hn', hr⟩ := ver_cell HC.out KC.out hlt
      have HS := Aside.mk (ver_snoc hlt)
      have HL6 := Aside.mk (H60.out _ (List.getElem_mem hlt))
      have HT := Aside.mk (HTT.out _ (List.getElem_mem hlt))
      obtain ⟨v, hv⟩ : ∃ v, vs[k] = v := ⟨_, rfl⟩
      rw [hv] at HS HL6 HT p0 p1 hr
      obtain ⟨tag, l⟩ := v
      dsimp only at HL6 HT p0 p1 hr
      obtain ⟨N, hN⟩ : ∃ N, ofP tag l = N := ⟨_, rfl⟩
      have hN0 : 0 ≤ N ∧ N < 65536 := by rw [← hN]; exact ofP_lt tag l
      have HNE := Aside.mk hN
      have HLR := Aside.mk (hr.below KC.out)
      have HNC := Aside.mk hn'
      have hsw := KC.out.size
      have n0 := hN0.1
      have n1 := hN0.2
      clear hv hN hr hn' hN0
      go_wp2_with (first
        | (go_at_call 25; refine (of_any tag l A' n' _ (HLR.out.below ((Below.refl _ _).alloc (Nat.le_refl _) _)) HNC.out HL6.out HT.out).mono ?_; rw [HNE.out]; rintro e w2 ⟨rfl, hb2⟩; have KO := Aside.mk ((KO.out.alloc _).below hb2); have KC := Aside.mk (below_call (below_alloc KC.out _) hb2); have hs2 := KC.out.size; clear hb2 p0 p1)
        | (at_builtin; refine wp_appRow (f := bytF) w.heap.size rfl _ _ _ _ _ _ rfl Try.underlying58 infoByt rfl (by decide) (.slice A0 L.length k0) L [N / 256, N % 256] (some ⟨w2.heap.size, 0, none⟩) 2 rfl rfl (fun h => by cases h) (KO.out.alloc _) (Rd.made bytF _ _ _ _ _ rfl (by simp)) (by simp; omega) (by simp; omega) ?_; intro v4 w4 ho4 hg4 hat4; have KC := Aside.mk (below_own (below_alloc KC.out _) hg4 (fun b e => ⟨(KO.out.lt b e).1, (KO.out.lt b e).2⟩)); have KO := Aside.mk ho4; clear ho4 hg4 hat4))
      have HS2 : Aside (L ++ [N / 256, N % 256] = (vs.take (k + 1)).flatMap verB) := .mk (by rw [HS.out, HL.out, show N / 256 = N / 256 % 256 by omega, ← HNE.out])
      exact ⟨⟨k + 1, _, by omega, by push_cast; rfl, HS2.out, KO.out, KC.out⟩, by simp [intOf]; omega⟩
    · obtain rfl : k = vs.length := by omega
      have HL2 : Aside (sumI L = allP vs) := .mk (by rw [HL.out, List.take_length]; rfl)
      have hoct : Oct L := by rw [HL.out]; exact ver_oct _
      have hr0 : Rd bytF.kd wr A0 L.length L := by
        obtain ⟨A', c', e, -, hr⟩ := KO.out.rd
        cases e
        exact hr
      have HR0 := Aside.mk hr0
      have HOC := Aside.mk hoct
      clear hr0 hoct
      go_wp2_with (go_at_call 39; refine (sum_any L A0 k0 _ HR0.out HOC.out (by omega)).mono ?_; rintro e w6 ⟨rfl, hb6⟩; have KC := Aside.mk (below_call KC.out hb6); clear hb6)
      go_ret
      exact ⟨ret_int HL2.out, KC.out⟩
def alrB (tag N : Int) (l : List Rul) (A' : Option Addr) (n' : Nat) (A : Option Addr) (n c k : Nat) (p q : Addr) (X : List Int) (wr : World) (w' : World) : Prop :=
  Below wr.heap.size wr w'
def alrF (tag N : Int) (l : List Rul) (A' : Option Addr) (n' : Nat) (A : Option Addr) (n c k : Nat) (p q : Addr) (X : List Int) (wr : World) : List (Value → Value → World → Prop) :=
  [fun _ v _ => v = .slice A n c,
   fun _ v _ => v = .int .i64 k,
   fun _ v _ => v = .pointer (some p),
   fun _ v _ => v = .pointer (some p),
   fun _ v _ => v = .int .i64 tag,
   fun _ v _ => v = .slice A n c,
   fun _ v _ => v = .int .i64 k,
   fun _ v _ => v = .pointer (some p),
   fun _ v _ => v = .pointer (some q),
   fun _ v _ => v = .slice A' l.length n',
   fun _ v _ => v = .int .i64 N,
   fun _ v w' => ∃ u, v = .tuple #[u, .int .i64 0] ∧ Own bytF w' wr.heap.size 5 u X,
   fun _ v w' => ∃ u, v = .tuple #[u, .int .i64 0] ∧ Own bytF w' wr.heap.size 5 u X,
   fun _ v w' => Own bytF w' wr.heap.size 5 v X,
   fun _ v _ => v = .int .i64 0,
   fun _ v w' => Own bytF w' wr.heap.size 5 v X,
   fun _ v _ => v = .int .i64 0]
def alrQ : Nat → Nat := fun i => i
theorem alrF_stay (tag N : Int) (l : List Rul) (A' : Option Addr) (n' : Nat) (A : Option Addr) (n c k : Nat) (p q : Addr) (X : List Int) (wr : World) : AllStay (alrF tag N l A' n' A n c k p q X wr) := by
  intro F hF u v w' w'' hb h
  simp only [alrF, List.mem_cons, List.not_mem_nil, or_false] at hF
  rcases hF with rfl | rfl | rfl | rfl | rfl | rfl | rfl | rfl | rfl | rfl | rfl | rfl | rfl | rfl | rfl | rfl | rfl
  · exact h
  · exact h
  · exact h
  · exact h
  · exact h
  · exact h
  · exact h
  · exact h
  · exact h
  · exact h
  · exact h
  · obtain ⟨u, e, h⟩ := h
    exact ⟨u, e, h.below hb⟩
  · obtain ⟨u, e, h⟩ := h
    exact ⟨u, e, h.below hb⟩
  · exact h.below hb
  · exact h
  · exact h.below hb
  · exact h
theorem alrB_stay (tag N : Int) (l : List Rul) (A' : Option Addr) (n' : Nat) (A : Option Addr) (n c k : Nat) (p q : Addr) (X : List Int) (wr : World) : Stays (alrB tag N l A' n' A n c k p q X wr) := by
  intro w' w'' hb h
  exact below_call h hb
set_option maxHeartbeats 2000000 in
theorem allR_any (vs : List Vr) (A : Option Addr) (c : Nat) (w : World) (hc : Rd verD w A vs.length vs) (h20 : vs.length ≤ 20) (h60 : ∀ v ∈ vs, v.l.length ≤ 60) (ht : ∀ v ∈ vs, Fit v.tag) :
    Calls Try.prog 28 #[.slice A vs.length c] w fun e w' => e = .returned (.int .i64 (allP vs)) ∧ Below w.heap.size w w' := by
  have HC := Aside.mk hc
  have H60 := Aside.mk h60
  have HTT := Aside.mk ht
  clear hc h60 ht
  go_enter Try.func28, Try.ntmps28
  go_wp2
  go_loopw [3, 4] (fun v i wr => ∃ (k : Nat) (L : List Int), k ≤ vs.length ∧ i = .int .i64 k ∧ L = (vs.take k).flatMap verB ∧ Own bytF wr w.heap.size 5 v L ∧ Below w.heap.size w wr) (fun _ i _ => vs.length - (intOf i).toNat)
  case atStart => exact ⟨0, [], Nat.zero_le _, rfl, rfl, Own.nil _ _ _ _, Below.refl _ _⟩
  case round =>
    obtain ⟨k, L, hk, rfl, hL, ho, hb⟩ := hrel
    obtain ⟨A0, k0, rfl, -⟩ := ho.form
    have KC := Aside.mk hb
    have KO := Aside.mk ho
    have HL := Aside.mk hL
    have hLl : L.length ≤ 40 := by rw [hL, ver_len, List.length_take]; omega
    clear hb ho hL
    by_cases hlt : k < vs.length
    · obtain ⟨b, o, A', n', rfl, hbl, p0, p1, -, hn', hr⟩ := ver_cell HC.out KC.out hlt
      have HS := Aside.mk (ver_snoc hlt)
      have HL6 := Aside.mk (H60.out _ (List.getElem_mem hlt))
      have HT := Aside.mk (HTT.out _ (List.getElem_mem hlt))
      obtain ⟨v, hv⟩ : ∃ v, vs[k] = v := ⟨_, rfl⟩
      rw [hv] at HS HL6 HT p0 p1 hr
      obtain ⟨tag, l⟩ := v
      dsimp only at HL6 HT p0 p1 hr
      obtain ⟨N, hN⟩ : ∃ N, ofP tag l = N := ⟨_, rfl⟩
      have HN : Aside (0 ≤ N ∧ N < 65536) := .mk (by rw [← hN]; exact ofP_lt tag l)
      have HNE := Aside.mk hN
      have HLR := Aside.mk (hr.below KC.out)
      obtain ⟨X, hX⟩ : ∃ X, [N / 256 % 256, N % 256] = X := ⟨_, rfl⟩
      have hXl : X.length ≤ 2 := by rw [← hX]; exact Nat.le_refl 2
      have HXX := Aside.mk hX
      have HS2 : Aside (L ++ X = (vs.take (k + 1)).flatMap verB) := .mk (by rw [HS.out, HL.out, ← hX, ← hN])
      have C1 := Aside.mk p0
      have C2 := Aside.mk p1
      have hl1 : b < wr.heap.size := Nat.lt_of_lt_of_le hbl KC.out.size
      clear hv hN hr hn' hX p0 p1 hbl
      go_wp2
      refine wp_region_facts (Base := alrB tag N l A' n' (some ⟨b, o, none⟩) vs.length c k ⟨b, o + k * 2, none⟩ ⟨b, o + k * 2 + 1, none⟩ X wr) (q := alrQ) (Fs := alrF tag N l A' n' (some ⟨b, o, none⟩) vs.length c k ⟨b, o + k * 2, none⟩ ⟨b, o + k * 2 + 1, none⟩ X wr) (by kernel_rfl) (by kernel_rfl) (by kernel_rfl) (by kernel_rfl) (below_drew (Below.refl _ _)) ?_ ?_
      ·
        have hBs := alrB_stay tag N l A' n' (some ⟨b, o, none⟩) vs.length c k ⟨b, o + k * 2, none⟩ ⟨b, o + k * 2 + 1, none⟩ X wr
        have hFs := alrF_stay tag N l A' n' (some ⟨b, o, none⟩) vs.length c k ⟨b, o + k * 2, none⟩ ⟨b, o + k * 2 + 1, none⟩ X wr
        refine ⟨?_, ?_, ?_, ?_, ?_, ?_, ?_, ?_, ?_, ?_, ?_, ?_, ?_, ?_, ?_, ?_, ?_, trivial⟩
        · refine step_pure hBs hFs rfl fun a' w' hB hag hp => ?_
          have h0 := hag 0 (by kernel_rfl)
          simp at h0
          unfold OpYields
          go_simp
          exact ⟨Below.refl _ _, rfl⟩
        · refine step_pure hBs hFs rfl fun a' w' hB hag hp => ?_
          have h4 := hag 4 (by kernel_rfl)
          simp at h4
          unfold OpYields
          go_simp
          exact ⟨Below.refl _ _, rfl⟩
        · refine step_pure hBs hFs rfl fun a' w' hB hag hp => ?_
          have h14 : a'.tmps.getD 14 undef = _ := hp 0 (by kernel_rfl)
          have h15 : a'.tmps.getD 15 undef = _ := hp 1 (by kernel_rfl)
          simp at h14 h15
          unfold OpYields
          go_simp
          exact ⟨Below.refl _ _, rfl⟩
        · refine step_pure hBs hFs rfl fun a' w' hB hag hp => ?_
          have h16 : a'.tmps.getD 16 undef = _ := hp 2 (by kernel_rfl)
          simp at h16
          unfold OpYields
          go_simp
          exact ⟨Below.refl _ _, rfl⟩
        · refine step_pure hBs hFs rfl fun a' w' hB hag hp => ?_
          have h17 : a'.tmps.getD 17 undef = _ := hp 3 (by kernel_rfl)
          have hB : Below wr.heap.size wr w' := hB; have y0 := (hB.cell (p := ⟨b, o + k * 2, none⟩) hl1).trans C1.out; have y1 := (hB.cell (p := ⟨b, o + k * 2 + 1, none⟩) hl1).trans C2.out
          simp at h17
          unfold OpYields
          go_simp
          exact ⟨Below.refl _ _, rfl⟩
        · refine step_pure hBs hFs rfl fun a' w' hB hag hp => ?_
          have h0 := hag 0 (by kernel_rfl)
          simp at h0
          unfold OpYields
          go_simp
          exact ⟨Below.refl _ _, rfl⟩
        · refine step_pure hBs hFs rfl fun a' w' hB hag hp => ?_
          have h4 := hag 4 (by kernel_rfl)
          simp at h4
          unfold OpYields
          go_simp
          exact ⟨Below.refl _ _, rfl⟩
        · refine step_pure hBs hFs rfl fun a' w' hB hag hp => ?_
          have h19 : a'.tmps.getD 19 undef = _ := hp 5 (by kernel_rfl)
          have h20 : a'.tmps.getD 20 undef = _ := hp 6 (by kernel_rfl)
          simp at h19 h20
          unfold OpYields
          go_simp
          exact ⟨Below.refl _ _, rfl⟩
        · refine step_pure hBs hFs rfl fun a' w' hB hag hp => ?_
          have h21 : a'.tmps.getD 21 undef = _ := hp 7 (by kernel_rfl)
          simp at h21
          unfold OpYields
          go_simp
          exact ⟨Below.refl _ _, rfl⟩
        · refine step_pure hBs hFs rfl fun a' w' hB hag hp => ?_
          have h22 : a'.tmps.getD 22 undef = _ := hp 8 (by kernel_rfl)
          have hB : Below wr.heap.size wr w' := hB; have y0 := (hB.cell (p := ⟨b, o + k * 2, none⟩) hl1).trans C1.out; have y1 := (hB.cell (p := ⟨b, o + k * 2 + 1, none⟩) hl1).trans C2.out
          simp at h22
          unfold OpYields
          go_simp
          exact ⟨Below.refl _ _, rfl⟩
        · refine step_pure hBs hFs rfl fun a' w' hB hag hp => ?_
          have h18 : a'.tmps.getD 18 undef = _ := hp 4 (by kernel_rfl)
          have h23 : a'.tmps.getD 23 undef = _ := hp 9 (by kernel_rfl)
          have hB0 : Below wr.heap.size wr w' := hB
          simp at h18 h23
          unfold OpYields
          go_simp
          refine (ofR_any tag l A' n' w' (HLR.out.below hB0) HL6.out HT.out).mono ?_
          rw [HNE.out]
          rintro e w1 ⟨rfl, hb⟩
          exact ⟨_, rfl, hb, rfl⟩
        · refine step_pure hBs hFs rfl fun a' w' hB hag hp => ?_
          have h24 : a'.tmps.getD 24 undef = _ := hp 10 (by kernel_rfl)
          have hB0 : Below wr.heap.size wr w' := hB
          simp at h24
          unfold OpYields
          go_simp
          refine (putTwo_any N w' HN.out.1 HN.out.2).mono ?_
          rintro e w1 ⟨u, rfl, ho, hb⟩
          rw [HXX.out] at ho
          exact ⟨_, rfl, hb, _, rfl, ho.mono hB0.size⟩
        · refine step_pure hBs hFs rfl fun a' w' hB hag hp => ?_
          have h25 := hp 11 (by kernel_rfl)
          replace h25 : _ := h25
          obtain ⟨u, hv, ho⟩ : ∃ u, a'.tmps.getD 25 undef = .tuple #[u, .int .i64 0] ∧ Own bytF w' wr.heap.size 5 u X := h25
          simp at hv
          unfold OpYields
          go_simp
          exact ⟨Below.refl _ _, _, rfl, ho⟩
        · refine step_pure hBs hFs rfl fun a' w' hB hag hp => ?_
          have h13 := hp 12 (by kernel_rfl)
          replace h13 : _ := h13
          obtain ⟨u, hv, ho⟩ : ∃ u, a'.tmps.getD 13 undef = .tuple #[u, .int .i64 0] ∧ Own bytF w' wr.heap.size 5 u X := h13
          simp at hv
          unfold OpYields
          go_simp
          exact ⟨Below.refl _ _, ho⟩
        · refine step_pure hBs hFs rfl fun a' w' hB hag hp => ?_
          have h13 := hp 12 (by kernel_rfl)
          replace h13 : _ := h13
          obtain ⟨u, hv, ho⟩ : ∃ u, a'.tmps.getD 13 undef = .tuple #[u, .int .i64 0] ∧ Own bytF w' wr.heap.size 5 u X := h13
          simp at hv
          unfold OpYields
          go_simp
          exact ⟨Below.refl _ _, rfl⟩
        · refine step_pure hBs hFs rfl fun a' w' hB hag hp => ?_
          have h26 := hp 13 (by kernel_rfl)
          replace h26 : _ := h26
          have h26' : Own bytF w' wr.heap.size 5 (a'.tmps.getD 26 undef) X := h26
          clear h26
          obtain ⟨u, hv⟩ : ∃ u, a'.tmps.getD 26 undef = u := ⟨_, rfl⟩
          rw [hv] at h26'
          simp at hv
          unfold OpYields
          go_simp
          exact ⟨Below.refl _ _, h26'⟩
        · refine step_pure hBs hFs rfl fun a' w' hB hag hp => ?_
          have h27 : a'.tmps.getD 27 undef = _ := hp 14 (by kernel_rfl)
          simp at h27
          unfold OpYields
          go_simp
          exact ⟨Below.refl _ _, rfl⟩
      intro vs' w' hB hF
      simp only [AllF, forall_const, reduceCtorEq, false_implies, Fof, alrF, alrQ, Nat.zero_add, Nat.reduceAdd, Nat.reduceEqDiff, if_true, if_false, List.getD_cons_succ, List.getD_cons_zero] at hF
      obtain ⟨f0, f1, f2, f3, f4, f5, f6, f7, f8, f9, f10, -, -, -, f14, f15, f16, -⟩ := hF
      simp only [putAll, Act.put, Nat.zero_add, Nat.reduceAdd, f0, f1, f2, f3, f4, f5, f6, f7, f8, f9, f10, f14, f15, f16, List.setIfInBounds_toArray, List.set_cons_zero, List.set_cons_succ]
      obtain ⟨v8, hv8⟩ : ∃ v, vs' 15 = v := ⟨_, rfl⟩
      have h8o : Own bytF w' wr.heap.size 5 (vs' 15) X := f15
      clear f15
      rw [hv8] at h8o
      simp only [hv8]
      clear hv8
      have KC2 := Aside.mk (below_call KC.out hB)
      have hB2 : Below wr.heap.size wr w' := hB
      have h8b : Own bytF w' wr.heap.size 5 v8 X := h8o
      obtain ⟨A3, k3, rfl, -, hr3⟩ := h8b.rd
      have HR := Aside.mk hr3
      have HN3 := Aside.mk h8b.nilc3
      have KO2 := Aside.mk (KO.out.below hB2)
      have hsw := KC2.out.size
      clear h8o h8b hr3 hB hB2
      go_wp2_with (at_builtin; refine wp_appRow (f := bytF) w.heap.size rfl _ _ _ _ _ _ rfl Try.underlying58 infoByt rfl (by decide) (.slice A0 L.length k0) L X A3 k3 rfl rfl HN3.out KO2.out HR.out hsw (by omega) ?_; intro v2 w3 ho2 hg2 hat2; have KC3 := Aside.mk (below_own KC2.out hg2 (fun b e => ⟨(KO2.out.lt b e).1, (KO2.out.lt b e).2⟩)); have KO3 := Aside.mk ho2; clear hg2 ho2 hat2)
      exact ⟨⟨k + 1, _, by omega, by push_cast; rfl, HS2.out, KO3.out, KC3.out⟩, by simp [intOf]; omega⟩
    · obtain rfl : k = vs.length := by omega
      have HL2 : Aside (sumI L = allP vs) := .mk (by rw [HL.out, List.take_length]; rfl)
      have hoct : Oct L := by rw [HL.out]; exact ver_oct _
      have hr0 : Rd bytF.kd wr A0 L.length L := by
        obtain ⟨A', c', e, -, hr⟩ := KO.out.rd
        cases e
        exact hr
      have HR0 := Aside.mk hr0
      have HOC := Aside.mk hoct
      clear hr0 hoct
      go_wp2_with (go_at_call 42; refine (sumR_any L A0 k0 _ HR0.out HOC.out (by omega)).mono ?_; rintro e w6 ⟨rfl, hb6⟩; have KC := Aside.mk (below_call KC.out hb6); clear hb6)
      go_ret
      exact ⟨ret_int HL2.out, KC.out⟩
end Go.Proofs.Ytlpobpciiaofeaa
