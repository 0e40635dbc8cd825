/- The walk through symMergeCmpFunc where both parts are of two rules at least. -/
import Derived.Test.YtlnnkkbcmidddaaSortG
namespace Go.Proofs.Ytlnnkkbcmidddaa
open Go.RowKit
set_option maxRecDepth 100000
def sycB (x y : Rul) (g n c i j k l r : Nat) (wr : World) (w' : World) : Prop :=
  Below wr.heap.size wr w'
def sycF (x y : Rul) (g n c i j k l r : Nat) (wr : World) : List (Value → Value → World → Prop) :=
  [fun _ v _ => v = .func (.func 54) #[] #[],
   fun _ v _ => v = .slice (some ⟨g, 0, none⟩) n c,
   fun _ v _ => v = .int .i64 (k : Nat),
   fun _ v _ => v = .int .i64 (j : Nat),
   fun _ v _ => v = .int .i64 (i : Nat),
   fun _ v _ => v = .pointer (some ⟨g, i * 6, none⟩),
   fun _ v _ => v = rulV x,
   fun _ v _ => v = .slice (some ⟨g, 0, none⟩) n c,
   fun _ v _ => v = .int .i64 (j : Nat),
   fun _ v _ => v = .pointer (some ⟨g, j * 6, none⟩),
   fun _ v _ => v = rulV y,
   fun _ v _ => v = .int .i64 (standI x y),
   fun _ v _ => v = .bool (decide (standI x y < 0)),
   fun _ v _ => v = .bool (!decide (standI x y < 0))]
def sycQ : Nat → Nat := fun i => i
theorem sycF_stay (x y : Rul) (g n c i j k l r : Nat) (wr : World) : AllStay (sycF x y g n c i j k l r wr) := by
  intro F hF u v w' w'' hb h
  simp only [sycF, List.mem_cons, List.not_mem_nil, or_false] at hF
  rcases hF with rfl | rfl | rfl | rfl | rfl | rfl | rfl | rfl | rfl | rfl | rfl | rfl | rfl | rfl
  · exact h
  · exact h
  · exact h
  · exact h
  · exact h
  · exact h
  · exact h
  · exact h
  · exact h
  · exact h
  · exact h
  · exact h
  · exact h
  · exact h
theorem sycB_stay (x y : Rul) (g n c i j k l r : Nat) (wr : World) : Stays (sycB x y g n c i j k l r wr) := by
  intro w' w'' hb h
  exact below_call h hb
abbrev symC (base g n c A M B : Nat) (W : World) (X : List Rul) : Prop :=
  Calls Try.prog 78 #[.slice (some ⟨g, 0, none⟩) n c, .int .i64 A, .int .i64 M, .int .i64 B, .func (.func 54) #[] #[]] W fun e w' => e = .returned (.tuple #[]) ∧ Srts W base 58 g n c w' X
/-- The merge does what it should, for parts of N rules at most. -/
def SymOK (N : Nat) : Prop := ∀ (base g n c A M B : Nat) (W : World) (P L R Q : List Rul), L.length + R.length ≤ N → A = P.length → M = A + L.length → B = M + R.length → 0 < L.length → 0 < R.length → SrtR L → SrtR R →
  Own rulF W base 58 (.slice (some ⟨g, 0, none⟩) n c) (P ++ L ++ R ++ Q) → n ≤ 1000000 → symC base g n c A M B W (P ++ sortP (L ++ R) ++ Q)
theorem two_get {P L R Q : List Rul} {a m i j r s : Nat} (ha : a = P.length) (hm : m = a + L.length) (hi : i = a + r) (hj : j = m + s) (hr : r < L.length) (hs : s < R.length) (h0 : i < (P ++ L ++ R ++ Q).length) (h1 : j < (P ++ L ++ R ++ Q).length) : (P ++ L ++ R ++ Q)[i] = L[r] ∧ (P ++ L ++ R ++ Q)[j] = R[s] := by
  constructor
  · have : P ++ L ++ R ++ Q = P ++ (L ++ (R ++ Q)) := by simp
    simp only [this]
    rw [List.getElem_append_right (by omega), List.getElem_append_left (by omega)]
    congr 1
    omega
  · have : P ++ L ++ R ++ Q = (P ++ L) ++ (R ++ Q) := by simp
    simp only [this]
    rw [List.getElem_append_right (by simp; omega), List.getElem_append_left (by simp; omega)]
    congr 1
    simp
    omega
theorem parts_at {L R : List Rul} {h p : Nat} (hL : SrtR L) (hR : SrtR R) (hp : p ≤ h) (hpl : p ≤ L.length) (hpr : h - p ≤ R.length) (h1 : ∀ y z, 1 ≤ p → L[p - 1]? = some z → R[h - p]? = some y → ¬ ltR y z) (h2 : ∀ y z, p + 1 ≤ h → L[p]? = some z → R[h - 1 - p]? = some y → ltR y z) :
    sortP (L ++ R) = sortP (L.take p ++ R.take (h - p)) ++ sortP (L.drop p ++ R.drop (h - p)) := by
  have e := sortP_parts (A1 := L.take p) (A2 := L.drop p) (B1 := R.take (h - p)) (B2 := R.drop (h - p)) (by rw [List.take_append_drop]; exact hL) (by rw [List.take_append_drop]; exact hR) (fun a b => ?_) (fun a b => ?_)
  · rw [List.take_append_drop, List.take_append_drop] at e
    exact e
  · have hp1 : 1 ≤ p := by
      rcases Nat.eq_zero_or_pos p with h0 | h0
      · subst h0; simp at a
      · exact h0
    have hb : h - p < R.length := by
      rcases Nat.lt_or_ge (h - p) R.length with h0 | h0
      · exact h0
      · rw [List.drop_eq_nil_of_le h0] at b; simp at b
    refine h1 _ _ hp1 ?_ ?_
    · rw [List.getLast_eq_getElem, List.getElem_take, ← List.getElem?_eq_getElem, List.length_take, Nat.min_eq_left hpl]
    · rw [List.head_drop, ← List.getElem?_eq_getElem]
  · have hp1 : p + 1 ≤ h := by
      rcases Nat.lt_or_ge p h with h0 | h0
      · exact h0
      · have : h - p = 0 := by omega
        rw [this] at a; simp at a
    have hb : p < L.length := by
      rcases Nat.lt_or_ge p L.length with h0 | h0
      · exact h0
      · rw [List.drop_eq_nil_of_le h0] at b; simp at b
    refine ltR_le (h2 _ _ hp1 ?_ ?_)
    · rw [List.head_drop, ← List.getElem?_eq_getElem]
    · rw [List.getLast_eq_getElem, List.getElem_take, ← List.getElem?_eq_getElem, List.length_take, Nat.min_eq_left hpr, show h - 1 - p = h - p - 1 by omega]

set_option maxHeartbeats 8000000 in
theorem symMain_a (N : Nat) (ih : SymOK N) (base g n c A M B mid : Nat) (W : World) (P L R Q : List Rul) (hN : L.length + R.length ≤ N + 1) (hA : A = P.length) (hM : M = A + L.length) (hB : B = M + R.length) (h1 : 2 ≤ L.length) (h2 : 2 ≤ R.length) (hSL : SrtR L) (hSR : SrtR R) (hmid : mid = (A + B) / 2) (hcase : M ≤ mid)
    (h : Own rulF W base 58 (.slice (some ⟨g, 0, none⟩) n c) (P ++ L ++ R ++ Q)) (hn : n ≤ 1000000) : symC base g n c A M B W (P ++ sortP (L ++ R) ++ Q) := by
  have hl := (Srts.start h).len
  have H := Aside.mk (Srts.start h)
  have IH := Aside.mk ih
  simp only [List.length_append] at hl
  obtain ⟨hf, hhf⟩ : ∃ hf, mid = A + hf := ⟨mid - A, by omega⟩
  obtain ⟨nn, hnn⟩ : ∃ nn, nn = mid + M := ⟨_, rfl⟩
  obtain ⟨pm, hpm⟩ : ∃ pm, nn = pm + 1 := ⟨nn - 1, by omega⟩
  obtain ⟨s0, hs0⟩ : ∃ s0, s0 = A + (0) := ⟨_, rfl⟩
  have hB2 : B ≤ 1000000 := by omega
  have hM2 : M ≤ 1000000 := by omega
  have hA2 : A ≤ 1000000 := by omega
  have hmd2 : mid ≤ 1000000 := by omega
  have w1 : ∀ z : Int, z = (M : Int) - (A : Int) → IntKind.i64.wrap z = z := fun z hz => IntWalk.i64_in _ (by omega)
  have w2 : ((M : Int) - (A : Int) == 1) = false := by simp; omega
  have w3 : ∀ z : Int, z = (B : Int) - (M : Int) → IntKind.i64.wrap z = z := fun z hz => IntWalk.i64_in _ (by omega)
  have w4 : ((B : Int) - (M : Int) == 1) = false := by simp; omega
  have m1 : ((A : Int) + (B : Int)) / 2 = (mid : Int) := by omega
  have m2 : (mid : Int) + (M : Int) = (nn : Int) := by omega
  have m3 : (0 : Nat) = 0 := by omega
  have m4 : (nn : Int) - 1 = (pm : Int) := by omega
  have w5 : ∀ z : Nat, z ≤ 3000000 → IntKind.i64.wrap (z : Int) = (z : Int) := fun z hz => IntWalk.i64_in _ (by omega)
  have w6 := w5 nn (by omega)
  have w7 := w5 pm (by omega)
  have w8 := w5 s0 (by omega)
  have W5 := Aside.mk w5
  have d1 : ¬ mid < M := by omega
  have d2 : decide (mid < M) = false := decide_eq_false (by omega)
  have d3 : decide ((mid : Int) < (M : Int)) = false := decide_eq_false (by omega)
  have HA := Aside.mk hA
  have HM := Aside.mk hM
  have HB := Aside.mk hB
  have HL := Aside.mk hl
  have HSL := Aside.mk hSL
  have HSR := Aside.mk hSR
  have HN := Aside.mk hN
  have HHF := Aside.mk hhf
  have HNN := Aside.mk hnn
  have HPM := Aside.mk hpm
  have HS0 := Aside.mk hs0
  have HMID := Aside.mk hmid
  have HCASE := Aside.mk hcase
  have H12 := Aside.mk (And.intro h1 h2)
  clear h hA hM hB hl hSL hSR hN hhf hnn hpm hs0 hmid hcase w5 ih h1 h2
  go_enter Try.func78, Try.ntmps78
  go_wp2
  go_loopw [20, 21, 23] (fun s r cx wr => ∃ p q ss rr : Nat, s = .int .i64 ss ∧ r = .int .i64 rr ∧ ss = A + p ∧ rr = A + q ∧ p ≤ q ∧ 0 ≤ p ∧ q ≤ L.length ∧ (∀ y z, 1 ≤ p → L[p - 1]? = some z → R[hf - p]? = some y → ¬ ltR y z) ∧ (∀ y z, q + 1 ≤ hf → L[q]? = some z → R[hf - 1 - q]? = some y → ltR y z) ∧ Srts W base 58 g n c wr (P ++ L ++ R ++ Q)) (fun s r _ _ => (intOf r).toNat - (intOf s).toNat)
  case atStart =>
    exact ⟨0, L.length, A, M, rfl, rfl, rfl, HM.out, Nat.zero_le _, Nat.le_refl _, Nat.le_refl _, fun y z h => absurd h (by omega), fun y z _ h => by simp at h, H.out⟩
  case round =>
    clear H w1 w2 w3 w4 w6 w8 m1 m2 m3
    obtain ⟨p, q, ss, rr, rfl, rfl, hss, hrr, hpq, hp0, hq0, h1, h2, hs⟩ := hrel
    have hgl : g < wr.heap.size := (hs.own.lt g rfl).2
    have HS := Aside.mk hs
    have H1 := Aside.mk h1
    have H2 := Aside.mk h2
    have HII := Aside.mk hss
    have HJJ := Aside.mk hrr
    clear h1 h2
    have hC := HCASE.out
    have hA := HA.out
    have hM := HM.out
    have hB := HB.out
    have hl := HL.out
    have hHF := HHF.out
    have hMID := HMID.out
    have h12 := H12.out
    by_cases hlt : p < q
    · obtain ⟨r, hr⟩ : ∃ r, r = (p + q) / 2 := ⟨_, rfl⟩
      obtain ⟨cc, hcc⟩ : ∃ cc, cc = A + r := ⟨_, rfl⟩
      have hrl : r < L.length := by omega
      obtain ⟨bt, hbt⟩ : ∃ bt, bt = hf - 1 - r := ⟨_, rfl⟩
      have hrf : r < hf := by omega
      have hbr : bt < R.length := by omega
      obtain ⟨pc, hpc⟩ : ∃ pc, pc = M + bt := ⟨_, rfl⟩
      have m1 : ((ss : Int) + (rr : Int)) / 2 = (cc : Int) := by omega
      have m2 : (pm : Int) - (cc : Int) = (pc : Int) := by have := HNN.out; have := HPM.out; omega
      have w6 := W5.out pc (by omega)
      have hlij : ss < rr := by omega
      have h0' : cc < (P ++ L ++ R ++ Q).length := by rw [← hs.len]; omega
      have h1' : pc < (P ++ L ++ R ++ Q).length := by rw [← hs.len]; omega
      obtain ⟨g1, g2⟩ := two_get hA hM hcc hpc hrl hbr h0' h1'
      obtain ⟨p0, p1, p2, p3, p4, p5⟩ := rul_at hs.own h1'
      obtain ⟨q0, q1, q2, q3, q4, q5⟩ := rul_at hs.own h0'
      obtain ⟨z, hz⟩ : ∃ z, L[r] = z := ⟨_, rfl⟩
      obtain ⟨y, hy⟩ : ∃ y, R[bt] = y := ⟨_, rfl⟩
      simp only [g2, hy] at p0 p1 p2 p3 p4 p5
      simp only [g1, hz] at q0 q1 q2 q3 q4 q5
      have HZ := Aside.mk (show L[r]? = some z by rw [List.getElem?_eq_getElem hrl, hz])
      have HY := Aside.mk (show R[hf - 1 - r]? = some y by rw [← hbt, List.getElem?_eq_getElem hbr, hy])
      have X0 := Aside.mk p0
      have X1 := Aside.mk p1
      have X2 := Aside.mk p2
      have X3 := Aside.mk p3
      have X4 := Aside.mk p4
      have X5 := Aside.mk p5
      have Y0 := Aside.mk q0
      have Y1 := Aside.mk q1
      have Y2 := Aside.mk q2
      have Y3 := Aside.mk q3
      have Y4 := Aside.mk q4
      have Y5 := Aside.mk q5
      have HRR := Aside.mk (show p ≤ r ∧ r < q ∧ r < hf by omega)
      have HHH := Aside.mk hcc
      have HQ0 := Aside.mk hq0
      have HP0 := Aside.mk hp0
      have e1 : (pc : Int) < (n : Int) := by omega
      have e2 : (cc : Int) < (n : Int) := by omega
      clear hs hl h0' h1' g1 g2 hz hy p0 p1 p2 p3 p4 p5 q0 q1 q2 q3 q4 q5 hss hrr hpq hp0 hq0 hr hcc hrl hbt hrf hbr hpc hlt hC hA hM hB hHF hMID h12
      go_wp2
      refine wp_region_facts (Base := sycB y z g n c pc cc pm 0 0 wr) (q := sycQ) (Fs := sycF y z g n c pc cc pm 0 0 wr) (by kernel_rfl) (by kernel_rfl) (by kernel_rfl) (by kernel_rfl) (below_drew (Below.refl _ _)) ?_ ?_
      ·
        have hBs := sycB_stay y z g n c pc cc pm 0 0 wr
        have hFs := sycF_stay y z g n c pc cc pm 0 0 wr
        refine ⟨?_, ?_, ?_, ?_, ?_, ?_, ?_, ?_, ?_, ?_, ?_, ?_, ?_, ?_, trivial⟩
        · refine step_pure hBs hFs rfl fun a' w' hB hag hp => ?_
          have h4 := hag 4 (by kernel_rfl)
          simp at h4
          unfold OpYields
          go_simp
          exact ⟨Below.refl _ _, rfl⟩
        · refine step_pure hBs hFs rfl fun a' w' hB hag hp => ?_
          have h0 := hag 0 (by kernel_rfl)
          simp at h0
          unfold OpYields
          go_simp
          exact ⟨Below.refl _ _, rfl⟩
        · refine step_pure hBs hFs rfl fun a' w' hB hag hp => ?_
          have h22 := hag 22 (by kernel_rfl)
          simp at h22
          unfold OpYields
          go_simp
          exact ⟨Below.refl _ _, rfl⟩
        · refine step_pure hBs hFs rfl fun a' w' hB hag hp => ?_
          have h23 := hag 23 (by kernel_rfl)
          simp at h23
          unfold OpYields
          go_simp
          exact ⟨Below.refl _ _, rfl⟩
        · refine step_pure hBs hFs rfl fun a' w' hB hag hp => ?_
          have h160 : a'.tmps.getD 160 undef = _ := hp 2 (by kernel_rfl)
          have h161 : a'.tmps.getD 161 undef = _ := hp 3 (by kernel_rfl)
          simp at h160 h161
          unfold OpYields
          go_simp
          exact ⟨Below.refl _ _, rfl⟩
        · refine step_pure hBs hFs rfl fun a' w' hB hag hp => ?_
          have h159 : a'.tmps.getD 159 undef = _ := hp 1 (by kernel_rfl)
          have h162 : a'.tmps.getD 162 undef = _ := hp 4 (by kernel_rfl)
          simp at h159 h162
          unfold OpYields
          go_simp
          exact ⟨Below.refl _ _, rfl⟩
        · refine step_pure hBs hFs rfl fun a' w' hB hag hp => ?_
          have h163 : a'.tmps.getD 163 undef = _ := hp 5 (by kernel_rfl)
          have hB : Below wr.heap.size wr w' := hB; have x0 := (hB.cell (p := ⟨g, pc * 6, none⟩) hgl).trans X0.out; have y0 := (hB.cell (p := ⟨g, cc * 6, none⟩) hgl).trans Y0.out; have x1 := (hB.cell (p := ⟨g, pc * 6 + 1, none⟩) hgl).trans X1.out; have y1 := (hB.cell (p := ⟨g, cc * 6 + 1, none⟩) hgl).trans Y1.out; have x2 := (hB.cell (p := ⟨g, pc * 6 + 2, none⟩) hgl).trans X2.out; have y2 := (hB.cell (p := ⟨g, cc * 6 + 2, none⟩) hgl).trans Y2.out; have x3 := (hB.cell (p := ⟨g, pc * 6 + 3, none⟩) hgl).trans X3.out; have y3 := (hB.cell (p := ⟨g, cc * 6 + 3, none⟩) hgl).trans Y3.out; have x4 := (hB.cell (p := ⟨g, pc * 6 + 4, none⟩) hgl).trans X4.out; have y4 := (hB.cell (p := ⟨g, cc * 6 + 4, none⟩) hgl).trans Y4.out; have x5 := (hB.cell (p := ⟨g, pc * 6 + 5, none⟩) hgl).trans X5.out; have y5 := (hB.cell (p := ⟨g, cc * 6 + 5, none⟩) hgl).trans Y5.out
          simp at h163
          unfold OpYields
          go_simp
          exact ⟨Below.refl _ _, rfl⟩
        · refine step_pure hBs hFs rfl fun a' w' hB hag hp => ?_
          have h0 := hag 0 (by kernel_rfl)
          simp at h0
          unfold OpYields
          go_simp
          exact ⟨Below.refl _ _, rfl⟩
        · refine step_pure hBs hFs rfl fun a' w' hB hag hp => ?_
          have h23 := hag 23 (by kernel_rfl)
          simp at h23
          unfold OpYields
          go_simp
          exact ⟨Below.refl _ _, rfl⟩
        · refine step_pure hBs hFs rfl fun a' w' hB hag hp => ?_
          have h165 : a'.tmps.getD 165 undef = _ := hp 7 (by kernel_rfl)
          have h166 : a'.tmps.getD 166 undef = _ := hp 8 (by kernel_rfl)
          simp at h165 h166
          unfold OpYields
          go_simp
          exact ⟨Below.refl _ _, rfl⟩
        · refine step_pure hBs hFs rfl fun a' w' hB hag hp => ?_
          have h167 : a'.tmps.getD 167 undef = _ := hp 9 (by kernel_rfl)
          have hB : Below wr.heap.size wr w' := hB; have x0 := (hB.cell (p := ⟨g, pc * 6, none⟩) hgl).trans X0.out; have y0 := (hB.cell (p := ⟨g, cc * 6, none⟩) hgl).trans Y0.out; have x1 := (hB.cell (p := ⟨g, pc * 6 + 1, none⟩) hgl).trans X1.out; have y1 := (hB.cell (p := ⟨g, cc * 6 + 1, none⟩) hgl).trans Y1.out; have x2 := (hB.cell (p := ⟨g, pc * 6 + 2, none⟩) hgl).trans X2.out; have y2 := (hB.cell (p := ⟨g, cc * 6 + 2, none⟩) hgl).trans Y2.out; have x3 := (hB.cell (p := ⟨g, pc * 6 + 3, none⟩) hgl).trans X3.out; have y3 := (hB.cell (p := ⟨g, cc * 6 + 3, none⟩) hgl).trans Y3.out; have x4 := (hB.cell (p := ⟨g, pc * 6 + 4, none⟩) hgl).trans X4.out; have y4 := (hB.cell (p := ⟨g, cc * 6 + 4, none⟩) hgl).trans Y4.out; have x5 := (hB.cell (p := ⟨g, pc * 6 + 5, none⟩) hgl).trans X5.out; have y5 := (hB.cell (p := ⟨g, cc * 6 + 5, none⟩) hgl).trans Y5.out
          simp at h167
          unfold OpYields
          go_simp
          exact ⟨Below.refl _ _, rfl⟩
        · refine step_pure hBs hFs rfl fun a' w' hB hag hp => ?_
          have h158 : a'.tmps.getD 158 undef = _ := hp 0 (by kernel_rfl)
          have h164 : a'.tmps.getD 164 undef = _ := hp 6 (by kernel_rfl)
          have h168 : a'.tmps.getD 168 undef = _ := hp 10 (by kernel_rfl)
          simp at h158 h164 h168
          unfold OpYields
          go_simp
          refine (stand_any y z w').mono ?_
          rintro e w1 ⟨rfl, hb⟩
          exact ⟨_, rfl, hb, rfl⟩
        · refine step_pure hBs hFs rfl fun a' w' hB hag hp => ?_
          have h169 : a'.tmps.getD 169 undef = _ := hp 11 (by kernel_rfl)
          simp at h169
          unfold OpYields
          go_simp
          exact ⟨Below.refl _ _, rfl⟩
        · refine step_pure hBs hFs rfl fun a' w' hB hag hp => ?_
          have h170 : a'.tmps.getD 170 undef = _ := hp 12 (by kernel_rfl)
          simp at h170
          unfold OpYields
          go_simp
          exact ⟨Below.refl _ _, rfl⟩
      intro vs w' hB hF
      simp only [AllF, forall_const, reduceCtorEq, false_implies, Fof, sycF, sycQ, Nat.zero_add, Nat.reduceAdd, Nat.reduceEqDiff, if_true, if_false, List.getD_cons_succ, List.getD_cons_zero] at hF
      obtain ⟨f0, f1, f2, f3, f4, f5, f6, f7, f8, f9, f10, f11, f12, f13, -⟩ := hF
      simp only [putAll, Act.put, Nat.zero_add, Nat.reduceAdd, f0, f1, f2, f3, f4, f5, f6, f7, f8, f9, f10, f11, f12, f13, List.setIfInBounds_toArray, List.set_cons_zero, List.set_cons_succ]
      have hB' : Below wr.heap.size wr w' := hB
      have HZS := Aside.mk (HS.out.below hB')
      clear hB hB' f0 f1 f2 f3 f4 f5 f6 f7 f8 f9 f10 f11 f12 f13
      by_cases hst : standI y z < 0
      · rw [decide_eq_true hst]
        have HLT := Aside.mk ((standI_lt y z).1 hst)
        clear hst
        go_wp2
        exact ⟨⟨p, r, ss, cc, rfl, by go_num, HII.out, HHH.out, HRR.out.1, HP0.out, by have := HRR.out; have := HQ0.out; omega, H1.out, fun y' z' _ hz hy => by rw [HZ.out] at hz; rw [HY.out] at hy; injection hz with hz; injection hy with hy; rw [← hz, ← hy]; exact HLT.out, HZS.out⟩, by have := HRR.out; have := HHH.out; have := HII.out; have := HJJ.out; simp [intOf]; omega⟩
      · rw [decide_eq_false hst]
        have HLT := Aside.mk (fun h => hst ((standI_lt y z).2 h))
        clear hst
        go_wp2
        exact ⟨⟨r + 1, q, cc + 1, rr, by go_num, rfl, by have := HHH.out; omega, HJJ.out, HRR.out.2.1, by have := HRR.out; have := HP0.out; omega, HQ0.out, fun y' z' _ hz hy => by rw [Nat.add_sub_cancel, HZ.out] at hz; rw [show hf - (r + 1) = hf - 1 - r by omega, HY.out] at hy; injection hz with hz; injection hy with hy; rw [← hz, ← hy]; exact HLT.out, H2.out, HZS.out⟩, by have := HRR.out; have := HHH.out; have := HII.out; have := HJJ.out; simp [intOf]; omega⟩
    · obtain rfl : p = q := by omega
      have hij : ¬ ss < rr := by omega
      have hpf : p ≤ hf := by omega
      have hpl : p ≤ L.length := by omega
      have hpr : hf - p ≤ R.length := by omega
      obtain ⟨ee, hee⟩ : ∃ ee, ee = M + (hf - p) := ⟨_, rfl⟩
      have m1 : (nn : Int) - (ss : Int) = (ee : Int) := by have := HNN.out; omega
      have w6 := W5.out ee (by omega)
      have hsp := parts_at HSL.out HSR.out hpf hpl hpr H1.out H2.out
      have hL := HSL.out
      have hR := HSR.out
      have e1 := (List.take_append_drop p L).symm
      have e2 := (List.take_append_drop (hf - p) R).symm
      rw [e1] at hL
      rw [e2] at hR
      have k1 : (L.take p).length = p := by rw [List.length_take]; omega
      have k2 : (R.take (hf - p)).length = hf - p := by rw [List.length_take]; omega
      have k3 : (L.drop p).length = L.length - p := List.length_drop ..
      have k4 : (R.drop (hf - p)).length = R.length - (hf - p) := List.length_drop ..
      obtain ⟨a1, a2, -⟩ := srt_app.1 hL
      obtain ⟨b1, b2, -⟩ := srt_app.1 hR
      have hs2 := hs
      rw [e1, e2] at hs2
      generalize L.take p = L1 at *
      generalize L.drop p = L2 at *
      generalize R.take (hf - p) = R1 at *
      generalize R.drop (hf - p) = R2 at *
      have hN := HN.out
      have hLL : A = P.length ∧ ss = A + L1.length ∧ M = ss + L2.length ∧ ee = M + R1.length ∧ B = ee + R2.length ∧ mid = ss + R1.length ∧ ee = mid + L2.length ∧ L1.length + R1.length ≤ N ∧ L2.length + R2.length ≤ N ∧ 2 ≤ L1.length + L2.length ∧ 2 ≤ R1.length + R2.length ∧ 1 ≤ L1.length + R1.length := by omega
      have LL := Aside.mk hLL
      have SL1 := Aside.mk a1
      have SL2 := Aside.mk a2
      have SR1 := Aside.mk b1
      have SR2 := Aside.mk b2
      have SP := Aside.mk hsp
      have HS := Aside.mk hs2
      clear hs hs2 hgl hss hrr hpq hp0 hq0 hlt hC hA hM hB hl hHF hMID h12 hpf hpl hpr hee hsp hL hR e1 e2 k1 k2 k3 k4 a1 a2 b1 b2 hN H1 H2
      rcases Nat.eq_zero_or_pos L1.length with hz1 | hz1 <;> rcases Nat.eq_zero_or_pos L2.length with hz2 | hz2 <;> rcases Nat.eq_zero_or_pos R1.length with hz3 | hz3 <;> rcases Nat.eq_zero_or_pos R2.length with hz4 | hz4
      · exfalso; omega
      · exfalso; omega
      · exfalso; omega
      · exfalso; omega
      · exfalso; omega
      · exfalso; omega
      · have b0 : ss < M := by omega
        have b1 : M < ee := by omega
        have b2 : ¬ A < ss := by omega
        have b3 : ss < mid := by omega
        have b4 : mid < ee := by omega
        have b5 : ¬ ee < B := by omega
        have HX := Aside.mk (show Srts W base 58 g n c wr (P ++ (L1 ++ (L2 ++ (R1 ++ (R2 ++ Q))))) by simpa only [List.append_assoc] using HS.out)
        have E2 := Aside.mk (show sortP (L1 ++ R1) = L1 ++ R1 by rw [List.eq_nil_of_length_eq_zero (show L1.length = 0 by omega)]; simpa using sortP_id SR1.out)
        have E3 := Aside.mk (show sortP (L2 ++ R2) = L2 ++ R2 by rw [List.eq_nil_of_length_eq_zero (show R2.length = 0 by omega)]; simpa using sortP_id SL2.out)
        have ZZ := Aside.mk (show 0 ≤ L1.length ∧ (L1.length = 0) ∧ (0 < L2.length) ∧ (0 < R1.length) ∧ (R2.length = 0) by omega)
        clear hLL hz1 hz2 hz3 hz4 HS
        go_wp2_with (first
          | (go_at_call 83; refine (rotate_any base g n c ss M ee _ (P ++ L1) L2 R1 (R2 ++ Q) _ (by have := LL.out; rw [List.length_append]; omega) (by have := LL.out; omega) (by have := LL.out; omega) (by have := ZZ.out; omega) (by have := ZZ.out; omega) (by have h := HX.out.own; simpa only [List.append_assoc] using h) hn).mono ?_; rintro e w2 ⟨rfl, hs2⟩; have HX := Aside.mk (HX.out.call hs2); simp only [List.append_assoc] at HX; clear hs2))
        go_end0
        exact ⟨rfl, by have h := HX.out; rw [SP.out, E2.out, E3.out]; simpa only [List.append_assoc] using h⟩
      · have b0 : ss < M := by omega
        have b1 : M < ee := by omega
        have b2 : ¬ A < ss := by omega
        have b3 : ss < mid := by omega
        have b4 : mid < ee := by omega
        have b5 : ee < B := by omega
        have HX := Aside.mk (show Srts W base 58 g n c wr (P ++ (L1 ++ (L2 ++ (R1 ++ (R2 ++ Q))))) by simpa only [List.append_assoc] using HS.out)
        have E2 := Aside.mk (show sortP (L1 ++ R1) = L1 ++ R1 by rw [List.eq_nil_of_length_eq_zero (show L1.length = 0 by omega)]; simpa using sortP_id SR1.out)
        have ZZ := Aside.mk (show 0 ≤ L1.length ∧ (L1.length = 0) ∧ (0 < L2.length) ∧ (0 < R1.length) ∧ (0 < R2.length) by omega)
        clear hLL hz1 hz2 hz3 hz4 HS
        go_wp2_with (first
          | (go_at_call 83; refine (rotate_any base g n c ss M ee _ (P ++ L1) L2 R1 (R2 ++ Q) _ (by have := LL.out; rw [List.length_append]; omega) (by have := LL.out; omega) (by have := LL.out; omega) (by have := ZZ.out; omega) (by have := ZZ.out; omega) (by have h := HX.out.own; simpa only [List.append_assoc] using h) hn).mono ?_; rintro e w2 ⟨rfl, hs2⟩; have HX := Aside.mk (HX.out.call hs2); simp only [List.append_assoc] at HX; clear hs2)
          | (go_at_call 78; refine (IH.out base g n c mid ee B _ (P ++ sortP (L1 ++ R1)) L2 R2 Q (by have := LL.out; omega) (by have := LL.out; rw [List.length_append, sortP_len, List.length_append]; omega) (by have := LL.out; omega) (by have := LL.out; omega) (by have := ZZ.out; omega) (by have := ZZ.out; omega) SL2.out SR2.out (by have h := HX.out.own; rw [E2.out]; simpa only [List.append_assoc] using h) hn).mono ?_; rintro e w4 ⟨rfl, hs4⟩; have HX := Aside.mk (HX.out.call hs4); simp only [List.append_assoc] at HX; clear hs4))
        go_end0
        exact ⟨rfl, by have h := HX.out; rw [SP.out]; simpa only [List.append_assoc] using h⟩
      · exfalso; omega
      · have b0 : ¬ ss < M := by omega
        have b1 : ¬ M < ee := by omega
        have b2 : A < ss := by omega
        have b3 : ¬ ss < mid := by omega
        have b4 : ¬ mid < ee := by omega
        have b5 : ee < B := by omega
        have HX := Aside.mk (show Srts W base 58 g n c wr (P ++ (L1 ++ (L2 ++ (R1 ++ (R2 ++ Q))))) by simpa only [List.append_assoc] using HS.out)
        have hx : P ++ (L1 ++ (L2 ++ (R1 ++ (R2 ++ Q)))) = P ++ (L1 ++ (R1 ++ (L2 ++ (R2 ++ Q)))) := by rw [List.eq_nil_of_length_eq_zero (show L2.length = 0 by omega)]; simp only [List.nil_append]
        rw [hx] at HX
        have E2 := Aside.mk (show sortP (L1 ++ R1) = L1 ++ R1 by rw [List.eq_nil_of_length_eq_zero (show R1.length = 0 by omega)]; simpa using sortP_id SL1.out)
        have E3 := Aside.mk (show sortP (L2 ++ R2) = L2 ++ R2 by rw [List.eq_nil_of_length_eq_zero (show L2.length = 0 by omega)]; simpa using sortP_id SR2.out)
        have ZZ := Aside.mk (show 0 ≤ L1.length ∧ (0 < L1.length) ∧ (L2.length = 0) ∧ (R1.length = 0) ∧ (0 < R2.length) by omega)
        clear hLL hz1 hz2 hz3 hz4 HS
        go_wp2
        go_end0
        exact ⟨rfl, by have h := HX.out; rw [SP.out, E2.out, E3.out]; simpa only [List.append_assoc] using h⟩
      · have b0 : ¬ ss < M := by omega
        have b1 : M < ee := by omega
        have b2 : A < ss := by omega
        have b3 : ss < mid := by omega
        have b4 : ¬ mid < ee := by omega
        have b5 : ¬ ee < B := by omega
        have HX := Aside.mk (show Srts W base 58 g n c wr (P ++ (L1 ++ (L2 ++ (R1 ++ (R2 ++ Q))))) by simpa only [List.append_assoc] using HS.out)
        have hx : P ++ (L1 ++ (L2 ++ (R1 ++ (R2 ++ Q)))) = P ++ (L1 ++ (R1 ++ (L2 ++ (R2 ++ Q)))) := by rw [List.eq_nil_of_length_eq_zero (show L2.length = 0 by omega)]; simp only [List.nil_append]
        rw [hx] at HX
        have E3 := Aside.mk (show sortP (L2 ++ R2) = L2 ++ R2 by rw [List.eq_nil_of_length_eq_zero (show L2.length = 0 by omega)]; simpa using sortP_id SR2.out)
        have ZZ := Aside.mk (show 0 ≤ L1.length ∧ (0 < L1.length) ∧ (L2.length = 0) ∧ (0 < R1.length) ∧ (R2.length = 0) by omega)
        clear hLL hz1 hz2 hz3 hz4 HS
        go_wp2_with (first
          | (go_at_call 78; refine (IH.out base g n c A ss mid _ P L1 R1 (L2 ++ (R2 ++ Q)) (by have := LL.out; omega) (by have := LL.out; omega) (by have := LL.out; omega) (by have := LL.out; omega) (by have := ZZ.out; omega) (by have := ZZ.out; omega) SL1.out SR1.out (by have h := HX.out.own; simpa only [List.append_assoc] using h) hn).mono ?_; rintro e w3 ⟨rfl, hs3⟩; have HX := Aside.mk (HX.out.call hs3); simp only [List.append_assoc] at HX; have HFL : Aside True := .mk trivial; clear hs3))
        go_end0
        exact ⟨rfl, by have h := HX.out; rw [SP.out, E3.out]; simpa only [List.append_assoc] using h⟩
      · have b0 : ¬ ss < M := by omega
        have b1 : M < ee := by omega
        have b2 : A < ss := by omega
        have b3 : ss < mid := by omega
        have b4 : ¬ mid < ee := by omega
        have b5 : ee < B := by omega
        have HX := Aside.mk (show Srts W base 58 g n c wr (P ++ (L1 ++ (L2 ++ (R1 ++ (R2 ++ Q))))) by simpa only [List.append_assoc] using HS.out)
        have hx : P ++ (L1 ++ (L2 ++ (R1 ++ (R2 ++ Q)))) = P ++ (L1 ++ (R1 ++ (L2 ++ (R2 ++ Q)))) := by rw [List.eq_nil_of_length_eq_zero (show L2.length = 0 by omega)]; simp only [List.nil_append]
        rw [hx] at HX
        have E3 := Aside.mk (show sortP (L2 ++ R2) = L2 ++ R2 by rw [List.eq_nil_of_length_eq_zero (show L2.length = 0 by omega)]; simpa using sortP_id SR2.out)
        have ZZ := Aside.mk (show 0 ≤ L1.length ∧ (0 < L1.length) ∧ (L2.length = 0) ∧ (0 < R1.length) ∧ (0 < R2.length) by omega)
        clear hLL hz1 hz2 hz3 hz4 HS
        go_wp2_with (first
          | (go_at_call 78; refine (IH.out base g n c A ss mid _ P L1 R1 (L2 ++ (R2 ++ Q)) (by have := LL.out; omega) (by have := LL.out; omega) (by have := LL.out; omega) (by have := LL.out; omega) (by have := ZZ.out; omega) (by have := ZZ.out; omega) SL1.out SR1.out (by have h := HX.out.own; simpa only [List.append_assoc] using h) hn).mono ?_; rintro e w3 ⟨rfl, hs3⟩; have HX := Aside.mk (HX.out.call hs3); simp only [List.append_assoc] at HX; have HFL : Aside True := .mk trivial; clear hs3))
        go_end0
        exact ⟨rfl, by have h := HX.out; rw [SP.out, E3.out]; simpa only [List.append_assoc] using h⟩
      · exfalso; omega
      · have b0 : ss < M := by omega
        have b1 : ¬ M < ee := by omega
        have b2 : A < ss := by omega
        have b3 : ¬ ss < mid := by omega
        have b4 : mid < ee := by omega
        have b5 : ee < B := by omega
        have HX := Aside.mk (show Srts W base 58 g n c wr (P ++ (L1 ++ (L2 ++ (R1 ++ (R2 ++ Q))))) by simpa only [List.append_assoc] using HS.out)
        have hx : P ++ (L1 ++ (L2 ++ (R1 ++ (R2 ++ Q)))) = P ++ (L1 ++ (R1 ++ (L2 ++ (R2 ++ Q)))) := by rw [List.eq_nil_of_length_eq_zero (show R1.length = 0 by omega)]; simp only [List.nil_append]
        rw [hx] at HX
        have E2 := Aside.mk (show sortP (L1 ++ R1) = L1 ++ R1 by rw [List.eq_nil_of_length_eq_zero (show R1.length = 0 by omega)]; simpa using sortP_id SL1.out)
        have ZZ := Aside.mk (show 0 ≤ L1.length ∧ (0 < L1.length) ∧ (0 < L2.length) ∧ (R1.length = 0) ∧ (0 < R2.length) by omega)
        clear hLL hz1 hz2 hz3 hz4 HS
        go_wp2_with (first
          | (go_at_call 78; refine (IH.out base g n c mid ee B _ (P ++ sortP (L1 ++ R1)) L2 R2 Q (by have := LL.out; omega) (by have := LL.out; rw [List.length_append, sortP_len, List.length_append]; omega) (by have := LL.out; omega) (by have := LL.out; omega) (by have := ZZ.out; omega) (by have := ZZ.out; omega) SL2.out SR2.out (by have h := HX.out.own; rw [E2.out]; simpa only [List.append_assoc] using h) hn).mono ?_; rintro e w4 ⟨rfl, hs4⟩; have HX := Aside.mk (HX.out.call hs4); simp only [List.append_assoc] at HX; clear hs4))
        go_end0
        exact ⟨rfl, by have h := HX.out; rw [SP.out]; simpa only [List.append_assoc] using h⟩
      · have b0 : ss < M := by omega
        have b1 : M < ee := by omega
        have b2 : A < ss := by omega
        have b3 : ss < mid := by omega
        have b4 : mid < ee := by omega
        have b5 : ¬ ee < B := by omega
        have HX := Aside.mk (show Srts W base 58 g n c wr (P ++ (L1 ++ (L2 ++ (R1 ++ (R2 ++ Q))))) by simpa only [List.append_assoc] using HS.out)
        have E3 := Aside.mk (show sortP (L2 ++ R2) = L2 ++ R2 by rw [List.eq_nil_of_length_eq_zero (show R2.length = 0 by omega)]; simpa using sortP_id SL2.out)
        have ZZ := Aside.mk (show 0 ≤ L1.length ∧ (0 < L1.length) ∧ (0 < L2.length) ∧ (0 < R1.length) ∧ (R2.length = 0) by omega)
        clear hLL hz1 hz2 hz3 hz4 HS
        go_wp2_with (first
          | (go_at_call 83; refine (rotate_any base g n c ss M ee _ (P ++ L1) L2 R1 (R2 ++ Q) _ (by have := LL.out; rw [List.length_append]; omega) (by have := LL.out; omega) (by have := LL.out; omega) (by have := ZZ.out; omega) (by have := ZZ.out; omega) (by have h := HX.out.own; simpa only [List.append_assoc] using h) hn).mono ?_; rintro e w2 ⟨rfl, hs2⟩; have HX := Aside.mk (HX.out.call hs2); simp only [List.append_assoc] at HX; clear hs2)
          | (go_at_call 78; refine (IH.out base g n c A ss mid _ P L1 R1 (L2 ++ (R2 ++ Q)) (by have := LL.out; omega) (by have := LL.out; omega) (by have := LL.out; omega) (by have := LL.out; omega) (by have := ZZ.out; omega) (by have := ZZ.out; omega) SL1.out SR1.out (by have h := HX.out.own; simpa only [List.append_assoc] using h) hn).mono ?_; rintro e w3 ⟨rfl, hs3⟩; have HX := Aside.mk (HX.out.call hs3); simp only [List.append_assoc] at HX; have HFL : Aside True := .mk trivial; clear hs3))
        go_end0
        exact ⟨rfl, by have h := HX.out; rw [SP.out, E3.out]; simpa only [List.append_assoc] using h⟩
      · have b0 : ss < M := by omega
        have b1 : M < ee := by omega
        have b2 : A < ss := by omega
        have b3 : ss < mid := by omega
        have b4 : mid < ee := by omega
        have b5 : ee < B := by omega
        have HX := Aside.mk (show Srts W base 58 g n c wr (P ++ (L1 ++ (L2 ++ (R1 ++ (R2 ++ Q))))) by simpa only [List.append_assoc] using HS.out)
        have ZZ := Aside.mk (show 0 ≤ L1.length ∧ (0 < L1.length) ∧ (0 < L2.length) ∧ (0 < R1.length) ∧ (0 < R2.length) by omega)
        clear hLL hz1 hz2 hz3 hz4 HS
        go_wp2_with (first
          | (go_at_call 83; refine (rotate_any base g n c ss M ee _ (P ++ L1) L2 R1 (R2 ++ Q) _ (by have := LL.out; rw [List.length_append]; omega) (by have := LL.out; omega) (by have := LL.out; omega) (by have := ZZ.out; omega) (by have := ZZ.out; omega) (by have h := HX.out.own; simpa only [List.append_assoc] using h) hn).mono ?_; rintro e w2 ⟨rfl, hs2⟩; have HX := Aside.mk (HX.out.call hs2); simp only [List.append_assoc] at HX; clear hs2)
          | (have hfl := HFL; clear hfl HFL; go_at_call 78; refine (IH.out base g n c mid ee B _ (P ++ sortP (L1 ++ R1)) L2 R2 Q (by have := LL.out; omega) (by have := LL.out; rw [List.length_append, sortP_len, List.length_append]; omega) (by have := LL.out; omega) (by have := LL.out; omega) (by have := ZZ.out; omega) (by have := ZZ.out; omega) SL2.out SR2.out (by have h := HX.out.own; simpa only [List.append_assoc] using h) hn).mono ?_; rintro e w4 ⟨rfl, hs4⟩; have HX := Aside.mk (HX.out.call hs4); simp only [List.append_assoc] at HX; clear hs4)
          | (go_at_call 78; refine (IH.out base g n c A ss mid _ P L1 R1 (L2 ++ (R2 ++ Q)) (by have := LL.out; omega) (by have := LL.out; omega) (by have := LL.out; omega) (by have := LL.out; omega) (by have := ZZ.out; omega) (by have := ZZ.out; omega) SL1.out SR1.out (by have h := HX.out.own; simpa only [List.append_assoc] using h) hn).mono ?_; rintro e w3 ⟨rfl, hs3⟩; have HX := Aside.mk (HX.out.call hs3); simp only [List.append_assoc] at HX; have HFL : Aside True := .mk trivial; clear hs3))
        go_end0
        exact ⟨rfl, by have h := HX.out; rw [SP.out]; simpa only [List.append_assoc] using h⟩

set_option maxHeartbeats 8000000 in
theorem symMain_b (N : Nat) (ih : SymOK N) (base g n c A M B mid : Nat) (W : World) (P L R Q : List Rul) (hN : L.length + R.length ≤ N + 1) (hA : A = P.length) (hM : M = A + L.length) (hB : B = M + R.length) (h1 : 2 ≤ L.length) (h2 : 2 ≤ R.length) (hSL : SrtR L) (hSR : SrtR R) (hmid : mid = (A + B) / 2) (hcase : mid < M)
    (h : Own rulF W base 58 (.slice (some ⟨g, 0, none⟩) n c) (P ++ L ++ R ++ Q)) (hn : n ≤ 1000000) : symC base g n c A M B W (P ++ sortP (L ++ R) ++ Q) := by
  have hl := (Srts.start h).len
  have H := Aside.mk (Srts.start h)
  have IH := Aside.mk ih
  simp only [List.length_append] at hl
  obtain ⟨hf, hhf⟩ : ∃ hf, mid = A + hf := ⟨mid - A, by omega⟩
  obtain ⟨nn, hnn⟩ : ∃ nn, nn = mid + M := ⟨_, rfl⟩
  obtain ⟨pm, hpm⟩ : ∃ pm, nn = pm + 1 := ⟨nn - 1, by omega⟩
  obtain ⟨s0, hs0⟩ : ∃ s0, s0 = A + ((hf - R.length)) := ⟨_, rfl⟩
  have hB2 : B ≤ 1000000 := by omega
  have hM2 : M ≤ 1000000 := by omega
  have hA2 : A ≤ 1000000 := by omega
  have hmd2 : mid ≤ 1000000 := by omega
  have w1 : ∀ z : Int, z = (M : Int) - (A : Int) → IntKind.i64.wrap z = z := fun z hz => IntWalk.i64_in _ (by omega)
  have w2 : ((M : Int) - (A : Int) == 1) = false := by simp; omega
  have w3 : ∀ z : Int, z = (B : Int) - (M : Int) → IntKind.i64.wrap z = z := fun z hz => IntWalk.i64_in _ (by omega)
  have w4 : ((B : Int) - (M : Int) == 1) = false := by simp; omega
  have m1 : ((A : Int) + (B : Int)) / 2 = (mid : Int) := by omega
  have m2 : (mid : Int) + (M : Int) = (nn : Int) := by omega
  have m3 : (nn : Int) - (B : Int) = (s0 : Int) := by omega
  have m4 : (nn : Int) - 1 = (pm : Int) := by omega
  have w5 : ∀ z : Nat, z ≤ 3000000 → IntKind.i64.wrap (z : Int) = (z : Int) := fun z hz => IntWalk.i64_in _ (by omega)
  have w6 := w5 nn (by omega)
  have w7 := w5 pm (by omega)
  have w8 := w5 s0 (by omega)
  have W5 := Aside.mk w5
  have d1 : mid < M := hcase
  have HA := Aside.mk hA
  have HM := Aside.mk hM
  have HB := Aside.mk hB
  have HL := Aside.mk hl
  have HSL := Aside.mk hSL
  have HSR := Aside.mk hSR
  have HN := Aside.mk hN
  have HHF := Aside.mk hhf
  have HNN := Aside.mk hnn
  have HPM := Aside.mk hpm
  have HS0 := Aside.mk hs0
  have HMID := Aside.mk hmid
  have HCASE := Aside.mk hcase
  have H12 := Aside.mk (And.intro h1 h2)
  clear h hA hM hB hl hSL hSR hN hhf hnn hpm hs0 hmid hcase w5 ih h1 h2
  go_enter Try.func78, Try.ntmps78
  go_wp2
  go_loopw [20, 21, 23] (fun s r cx wr => ∃ p q ss rr : Nat, s = .int .i64 ss ∧ r = .int .i64 rr ∧ ss = A + p ∧ rr = A + q ∧ p ≤ q ∧ (hf - R.length) ≤ p ∧ q ≤ hf ∧ (∀ y z, 1 ≤ p → L[p - 1]? = some z → R[hf - p]? = some y → ¬ ltR y z) ∧ (∀ y z, q + 1 ≤ hf → L[q]? = some z → R[hf - 1 - q]? = some y → ltR y z) ∧ Srts W base 58 g n c wr (P ++ L ++ R ++ Q)) (fun s r _ _ => (intOf r).toNat - (intOf s).toNat)
  case atStart =>
    exact ⟨hf - R.length, hf, s0, mid, rfl, rfl, HS0.out, HHF.out, by omega, Nat.le_refl _, Nat.le_refl _, fun y z _ _ hy => (by have := HCASE.out; have := HMID.out; have := HHF.out; have := HM.out; have := HB.out; rw [List.getElem?_eq_none (by omega)] at hy; cases hy), fun y z h => absurd h (by omega), H.out⟩
  case round =>
    clear H w1 w2 w3 w4 w6 w8 m1 m2 m3
    obtain ⟨p, q, ss, rr, rfl, rfl, hss, hrr, hpq, hp0, hq0, h1, h2, hs⟩ := hrel
    have hgl : g < wr.heap.size := (hs.own.lt g rfl).2
    have HS := Aside.mk hs
    have H1 := Aside.mk h1
    have H2 := Aside.mk h2
    have HII := Aside.mk hss
    have HJJ := Aside.mk hrr
    clear h1 h2
    have hC := HCASE.out
    have hA := HA.out
    have hM := HM.out
    have hB := HB.out
    have hl := HL.out
    have hHF := HHF.out
    have hMID := HMID.out
    have h12 := H12.out
    by_cases hlt : p < q
    · obtain ⟨r, hr⟩ : ∃ r, r = (p + q) / 2 := ⟨_, rfl⟩
      obtain ⟨cc, hcc⟩ : ∃ cc, cc = A + r := ⟨_, rfl⟩
      have hrl : r < L.length := by omega
      obtain ⟨bt, hbt⟩ : ∃ bt, bt = hf - 1 - r := ⟨_, rfl⟩
      have hrf : r < hf := by omega
      have hbr : bt < R.length := by omega
      obtain ⟨pc, hpc⟩ : ∃ pc, pc = M + bt := ⟨_, rfl⟩
      have m1 : ((ss : Int) + (rr : Int)) / 2 = (cc : Int) := by omega
      have m2 : (pm : Int) - (cc : Int) = (pc : Int) := by have := HNN.out; have := HPM.out; omega
      have w6 := W5.out pc (by omega)
      have hlij : ss < rr := by omega
      have h0' : cc < (P ++ L ++ R ++ Q).length := by rw [← hs.len]; omega
      have h1' : pc < (P ++ L ++ R ++ Q).length := by rw [← hs.len]; omega
      obtain ⟨g1, g2⟩ := two_get hA hM hcc hpc hrl hbr h0' h1'
      obtain ⟨p0, p1, p2, p3, p4, p5⟩ := rul_at hs.own h1'
      obtain ⟨q0, q1, q2, q3, q4, q5⟩ := rul_at hs.own h0'
      obtain ⟨z, hz⟩ : ∃ z, L[r] = z := ⟨_, rfl⟩
      obtain ⟨y, hy⟩ : ∃ y, R[bt] = y := ⟨_, rfl⟩
      simp only [g2, hy] at p0 p1 p2 p3 p4 p5
      simp only [g1, hz] at q0 q1 q2 q3 q4 q5
      have HZ := Aside.mk (show L[r]? = some z by rw [List.getElem?_eq_getElem hrl, hz])
      have HY := Aside.mk (show R[hf - 1 - r]? = some y by rw [← hbt, List.getElem?_eq_getElem hbr, hy])
      have X0 := Aside.mk p0
      have X1 := Aside.mk p1
      have X2 := Aside.mk p2
      have X3 := Aside.mk p3
      have X4 := Aside.mk p4
      have X5 := Aside.mk p5
      have Y0 := Aside.mk q0
      have Y1 := Aside.mk q1
      have Y2 := Aside.mk q2
      have Y3 := Aside.mk q3
      have Y4 := Aside.mk q4
      have Y5 := Aside.mk q5
      have HRR := Aside.mk (show p ≤ r ∧ r < q ∧ r < hf by omega)
      have HHH := Aside.mk hcc
      have HQ0 := Aside.mk hq0
      have HP0 := Aside.mk hp0
      have e1 : (pc : Int) < (n : Int) := by omega
      have e2 : (cc : Int) < (n : Int) := by omega
      clear hs hl h0' h1' g1 g2 hz hy p0 p1 p2 p3 p4 p5 q0 q1 q2 q3 q4 q5 hss hrr hpq hp0 hq0 hr hcc hrl hbt hrf hbr hpc hlt hC hA hM hB hHF hMID h12
      go_wp2
      refine wp_region_facts (Base := sycB y z g n c pc cc pm 0 0 wr) (q := sycQ) (Fs := sycF y z g n c pc cc pm 0 0 wr) (by kernel_rfl) (by kernel_rfl) (by kernel_rfl) (by kernel_rfl) (below_drew (Below.refl _ _)) ?_ ?_
      ·
        have hBs := sycB_stay y z g n c pc cc pm 0 0 wr
        have hFs := sycF_stay y z g n c pc cc pm 0 0 wr
        refine ⟨?_, ?_, ?_, ?_, ?_, ?_, ?_, ?_, ?_, ?_, ?_, ?_, ?_, ?_, trivial⟩
        · refine step_pure hBs hFs rfl fun a' w' hB hag hp => ?_
          have h4 := hag 4 (by kernel_rfl)
          simp at h4
          unfold OpYields
          go_simp
          exact ⟨Below.refl _ _, rfl⟩
        · refine step_pure hBs hFs rfl fun a' w' hB hag hp => ?_
          have h0 := hag 0 (by kernel_rfl)
          simp at h0
          unfold OpYields
          go_simp
          exact ⟨Below.refl _ _, rfl⟩
        · refine step_pure hBs hFs rfl fun a' w' hB hag hp => ?_
          have h22 := hag 22 (by kernel_rfl)
          simp at h22
          unfold OpYields
          go_simp
          exact ⟨Below.refl _ _, rfl⟩
        · refine step_pure hBs hFs rfl fun a' w' hB hag hp => ?_
          have h23 := hag 23 (by kernel_rfl)
          simp at h23
          unfold OpYields
          go_simp
          exact ⟨Below.refl _ _, rfl⟩
        · refine step_pure hBs hFs rfl fun a' w' hB hag hp => ?_
          have h160 : a'.tmps.getD 160 undef = _ := hp 2 (by kernel_rfl)
          have h161 : a'.tmps.getD 161 undef = _ := hp 3 (by kernel_rfl)
          simp at h160 h161
          unfold OpYields
          go_simp
          exact ⟨Below.refl _ _, rfl⟩
        · refine step_pure hBs hFs rfl fun a' w' hB hag hp => ?_
          have h159 : a'.tmps.getD 159 undef = _ := hp 1 (by kernel_rfl)
          have h162 : a'.tmps.getD 162 undef = _ := hp 4 (by kernel_rfl)
          simp at h159 h162
          unfold OpYields
          go_simp
          exact ⟨Below.refl _ _, rfl⟩
        · refine step_pure hBs hFs rfl fun a' w' hB hag hp => ?_
          have h163 : a'.tmps.getD 163 undef = _ := hp 5 (by kernel_rfl)
          have hB : Below wr.heap.size wr w' := hB; have x0 := (hB.cell (p := ⟨g, pc * 6, none⟩) hgl).trans X0.out; have y0 := (hB.cell (p := ⟨g, cc * 6, none⟩) hgl).trans Y0.out; have x1 := (hB.cell (p := ⟨g, pc * 6 + 1, none⟩) hgl).trans X1.out; have y1 := (hB.cell (p := ⟨g, cc * 6 + 1, none⟩) hgl).trans Y1.out; have x2 := (hB.cell (p := ⟨g, pc * 6 + 2, none⟩) hgl).trans X2.out; have y2 := (hB.cell (p := ⟨g, cc * 6 + 2, none⟩) hgl).trans Y2.out; have x3 := (hB.cell (p := ⟨g, pc * 6 + 3, none⟩) hgl).trans X3.out; have y3 := (hB.cell (p := ⟨g, cc * 6 + 3, none⟩) hgl).trans Y3.out; have x4 := (hB.cell (p := ⟨g, pc * 6 + 4, none⟩) hgl).trans X4.out; have y4 := (hB.cell (p := ⟨g, cc * 6 + 4, none⟩) hgl).trans Y4.out; have x5 := (hB.cell (p := ⟨g, pc * 6 + 5, none⟩) hgl).trans X5.out; have y5 := (hB.cell (p := ⟨g, cc * 6 + 5, none⟩) hgl).trans Y5.out
          simp at h163
          unfold OpYields
          go_simp
          exact ⟨Below.refl _ _, rfl⟩
        · refine step_pure hBs hFs rfl fun a' w' hB hag hp => ?_
          have h0 := hag 0 (by kernel_rfl)
          simp at h0
          unfold OpYields
          go_simp
          exact ⟨Below.refl _ _, rfl⟩
        · refine step_pure hBs hFs rfl fun a' w' hB hag hp => ?_
          have h23 := hag 23 (by kernel_rfl)
          simp at h23
          unfold OpYields
          go_simp
          exact ⟨Below.refl _ _, rfl⟩
        · refine step_pure hBs hFs rfl fun a' w' hB hag hp => ?_
          have h165 : a'.tmps.getD 165 undef = _ := hp 7 (by kernel_rfl)
          have h166 : a'.tmps.getD 166 undef = _ := hp 8 (by kernel_rfl)
          simp at h165 h166
          unfold OpYields
          go_simp
          exact ⟨Below.refl _ _, rfl⟩
        · refine step_pure hBs hFs rfl fun a' w' hB hag hp => ?_
          have h167 : a'.tmps.getD 167 undef = _ := hp 9 (by kernel_rfl)
          have hB : Below wr.heap.size wr w' := hB; have x0 := (hB.cell (p := ⟨g, pc * 6, none⟩) hgl).trans X0.out; have y0 := (hB.cell (p := ⟨g, cc * 6, none⟩) hgl).trans Y0.out; have x1 := (hB.cell (p := ⟨g, pc * 6 + 1, none⟩) hgl).trans X1.out; have y1 := (hB.cell (p := ⟨g, cc * 6 + 1, none⟩) hgl).trans Y1.out; have x2 := (hB.cell (p := ⟨g, pc * 6 + 2, none⟩) hgl).trans X2.out; have y2 := (hB.cell (p := ⟨g, cc * 6 + 2, none⟩) hgl).trans Y2.out; have x3 := (hB.cell (p := ⟨g, pc * 6 + 3, none⟩) hgl).trans X3.out; have y3 := (hB.cell (p := ⟨g, cc * 6 + 3, none⟩) hgl).trans Y3.out; have x4 := (hB.cell (p := ⟨g, pc * 6 + 4, none⟩) hgl).trans X4.out; have y4 := (hB.cell (p := ⟨g, cc * 6 + 4, none⟩) hgl).trans Y4.out; have x5 := (hB.cell (p := ⟨g, pc * 6 + 5, none⟩) hgl).trans X5.out; have y5 := (hB.cell (p := ⟨g, cc * 6 + 5, none⟩) hgl).trans Y5.out
          simp at h167
          unfold OpYields
          go_simp
          exact ⟨Below.refl _ _, rfl⟩
        · refine step_pure hBs hFs rfl fun a' w' hB hag hp => ?_
          have h158 : a'.tmps.getD 158 undef = _ := hp 0 (by kernel_rfl)
          have h164 : a'.tmps.getD 164 undef = _ := hp 6 (by kernel_rfl)
          have h168 : a'.tmps.getD 168 undef = _ := hp 10 (by kernel_rfl)
          simp at h158 h164 h168
          unfold OpYields
          go_simp
          refine (stand_any y z w').mono ?_
          rintro e w1 ⟨rfl, hb⟩
          exact ⟨_, rfl, hb, rfl⟩
        · refine step_pure hBs hFs rfl fun a' w' hB hag hp => ?_
          have h169 : a'.tmps.getD 169 undef = _ := hp 11 (by kernel_rfl)
          simp at h169
          unfold OpYields
          go_simp
          exact ⟨Below.refl _ _, rfl⟩
        · refine step_pure hBs hFs rfl fun a' w' hB hag hp => ?_
          have h170 : a'.tmps.getD 170 undef = _ := hp 12 (by kernel_rfl)
          simp at h170
          unfold OpYields
          go_simp
          exact ⟨Below.refl _ _, rfl⟩
      intro vs w' hB hF
      simp only [AllF, forall_const, reduceCtorEq, false_implies, Fof, sycF, sycQ, Nat.zero_add, Nat.reduceAdd, Nat.reduceEqDiff, if_true, if_false, List.getD_cons_succ, List.getD_cons_zero] at hF
      obtain ⟨f0, f1, f2, f3, f4, f5, f6, f7, f8, f9, f10, f11, f12, f13, -⟩ := hF
      simp only [putAll, Act.put, Nat.zero_add, Nat.reduceAdd, f0, f1, f2, f3, f4, f5, f6, f7, f8, f9, f10, f11, f12, f13, List.setIfInBounds_toArray, List.set_cons_zero, List.set_cons_succ]
      have hB' : Below wr.heap.size wr w' := hB
      have HZS := Aside.mk (HS.out.below hB')
      clear hB hB' f0 f1 f2 f3 f4 f5 f6 f7 f8 f9 f10 f11 f12 f13
      by_cases hst : standI y z < 0
      · rw [decide_eq_true hst]
        have HLT := Aside.mk ((standI_lt y z).1 hst)
        clear hst
        go_wp2
        exact ⟨⟨p, r, ss, cc, rfl, by go_num, HII.out, HHH.out, HRR.out.1, HP0.out, by have := HRR.out; have := HQ0.out; omega, H1.out, fun y' z' _ hz hy => by rw [HZ.out] at hz; rw [HY.out] at hy; injection hz with hz; injection hy with hy; rw [← hz, ← hy]; exact HLT.out, HZS.out⟩, by have := HRR.out; have := HHH.out; have := HII.out; have := HJJ.out; simp [intOf]; omega⟩
      · rw [decide_eq_false hst]
        have HLT := Aside.mk (fun h => hst ((standI_lt y z).2 h))
        clear hst
        go_wp2
        exact ⟨⟨r + 1, q, cc + 1, rr, by go_num, rfl, by have := HHH.out; omega, HJJ.out, HRR.out.2.1, by have := HRR.out; have := HP0.out; omega, HQ0.out, fun y' z' _ hz hy => by rw [Nat.add_sub_cancel, HZ.out] at hz; rw [show hf - (r + 1) = hf - 1 - r by omega, HY.out] at hy; injection hz with hz; injection hy with hy; rw [← hz, ← hy]; exact HLT.out, H2.out, HZS.out⟩, by have := HRR.out; have := HHH.out; have := HII.out; have := HJJ.out; simp [intOf]; omega⟩
    · obtain rfl : p = q := by omega
      have hij : ¬ ss < rr := by omega
      have hpf : p ≤ hf := by omega
      have hpl : p ≤ L.length := by omega
      have hpr : hf - p ≤ R.length := by omega
      obtain ⟨ee, hee⟩ : ∃ ee, ee = M + (hf - p) := ⟨_, rfl⟩
      have m1 : (nn : Int) - (ss : Int) = (ee : Int) := by have := HNN.out; omega
      have w6 := W5.out ee (by omega)
      have hsp := parts_at HSL.out HSR.out hpf hpl hpr H1.out H2.out
      have hL := HSL.out
      have hR := HSR.out
      have e1 := (List.take_append_drop p L).symm
      have e2 := (List.take_append_drop (hf - p) R).symm
      rw [e1] at hL
      rw [e2] at hR
      have k1 : (L.take p).length = p := by rw [List.length_take]; omega
      have k2 : (R.take (hf - p)).length = hf - p := by rw [List.length_take]; omega
      have k3 : (L.drop p).length = L.length - p := List.length_drop ..
      have k4 : (R.drop (hf - p)).length = R.length - (hf - p) := List.length_drop ..
      obtain ⟨a1, a2, -⟩ := srt_app.1 hL
      obtain ⟨b1, b2, -⟩ := srt_app.1 hR
      have hs2 := hs
      rw [e1, e2] at hs2
      generalize L.take p = L1 at *
      generalize L.drop p = L2 at *
      generalize R.take (hf - p) = R1 at *
      generalize R.drop (hf - p) = R2 at *
      have hN := HN.out
      have hLL : A = P.length ∧ ss = A + L1.length ∧ M = ss + L2.length ∧ ee = M + R1.length ∧ B = ee + R2.length ∧ mid = ss + R1.length ∧ ee = mid + L2.length ∧ L1.length + R1.length ≤ N ∧ L2.length + R2.length ≤ N ∧ 2 ≤ L1.length + L2.length ∧ 2 ≤ R1.length + R2.length ∧ 1 ≤ L1.length + R1.length := by omega
      have LL := Aside.mk hLL
      have SL1 := Aside.mk a1
      have SL2 := Aside.mk a2
      have SR1 := Aside.mk b1
      have SR2 := Aside.mk b2
      have SP := Aside.mk hsp
      have HS := Aside.mk hs2
      clear hs hs2 hgl hss hrr hpq hp0 hq0 hlt hC hA hM hB hl hHF hMID h12 hpf hpl hpr hee hsp hL hR e1 e2 k1 k2 k3 k4 a1 a2 b1 b2 hN H1 H2
      rcases Nat.eq_zero_or_pos L1.length with hz1 | hz1 <;> rcases Nat.eq_zero_or_pos L2.length with hz2 | hz2 <;> rcases Nat.eq_zero_or_pos R1.length with hz3 | hz3 <;> rcases Nat.eq_zero_or_pos R2.length with hz4 | hz4
      · exfalso; omega
      · exfalso; omega
      · exfalso; omega
      · exfalso; omega
      · exfalso; omega
      · exfalso; omega
      · have b0 : ss < M := by omega
        have b1 : M < ee := by omega
        have b2 : ¬ A < ss := by omega
        have b3 : ss < mid := by omega
        have b4 : mid < ee := by omega
        have b5 : ¬ ee < B := by omega
        have HX := Aside.mk (show Srts W base 58 g n c wr (P ++ (L1 ++ (L2 ++ (R1 ++ (R2 ++ Q))))) by simpa only [List.append_assoc] using HS.out)
        have E2 := Aside.mk (show sortP (L1 ++ R1) = L1 ++ R1 by rw [List.eq_nil_of_length_eq_zero (show L1.length = 0 by omega)]; simpa using sortP_id SR1.out)
        have E3 := Aside.mk (show sortP (L2 ++ R2) = L2 ++ R2 by rw [List.eq_nil_of_length_eq_zero (show R2.length = 0 by omega)]; simpa using sortP_id SL2.out)
        have ZZ := Aside.mk (show 0 ≤ L1.length ∧ (L1.length = 0) ∧ (0 < L2.length) ∧ (0 < R1.length) ∧ (R2.length = 0) by omega)
        clear hLL hz1 hz2 hz3 hz4 HS
        go_wp2_with (first
          | (go_at_call 83; refine (rotate_any base g n c ss M ee _ (P ++ L1) L2 R1 (R2 ++ Q) _ (by have := LL.out; rw [List.length_append]; omega) (by have := LL.out; omega) (by have := LL.out; omega) (by have := ZZ.out; omega) (by have := ZZ.out; omega) (by have h := HX.out.own; simpa only [List.append_assoc] using h) hn).mono ?_; rintro e w2 ⟨rfl, hs2⟩; have HX := Aside.mk (HX.out.call hs2); simp only [List.append_assoc] at HX; clear hs2))
        go_end0
        exact ⟨rfl, by have h := HX.out; rw [SP.out, E2.out, E3.out]; simpa only [List.append_assoc] using h⟩
      · have b0 : ss < M := by omega
        have b1 : M < ee := by omega
        have b2 : ¬ A < ss := by omega
        have b3 : ss < mid := by omega
        have b4 : mid < ee := by omega
        have b5 : ee < B := by omega
        have HX := Aside.mk (show Srts W base 58 g n c wr (P ++ (L1 ++ (L2 ++ (R1 ++ (R2 ++ Q))))) by simpa only [List.append_assoc] using HS.out)
        have E2 := Aside.mk (show sortP (L1 ++ R1) = L1 ++ R1 by rw [List.eq_nil_of_length_eq_zero (show L1.length = 0 by omega)]; simpa using sortP_id SR1.out)
        have ZZ := Aside.mk (show 0 ≤ L1.length ∧ (L1.length = 0) ∧ (0 < L2.length) ∧ (0 < R1.length) ∧ (0 < R2.length) by omega)
        clear hLL hz1 hz2 hz3 hz4 HS
        go_wp2_with (first
          | (go_at_call 83; refine (rotate_any base g n c ss M ee _ (P ++ L1) L2 R1 (R2 ++ Q) _ (by have := LL.out; rw [List.length_append]; omega) (by have := LL.out; omega) (by have := LL.out; omega) (by have := ZZ.out; omega) (by have := ZZ.out; omega) (by have h := HX.out.own; simpa only [List.append_assoc] using h) hn).mono ?_; rintro e w2 ⟨rfl, hs2⟩; have HX := Aside.mk (HX.out.call hs2); simp only [List.append_assoc] at HX; clear hs2)
          | (go_at_call 78; refine (IH.out base g n c mid ee B _ (P ++ sortP (L1 ++ R1)) L2 R2 Q (by have := LL.out; omega) (by have := LL.out; rw [List.length_append, sortP_len, List.length_append]; omega) (by have := LL.out; omega) (by have := LL.out; omega) (by have := ZZ.out; omega) (by have := ZZ.out; omega) SL2.out SR2.out (by have h := HX.out.own; rw [E2.out]; simpa only [List.append_assoc] using h) hn).mono ?_; rintro e w4 ⟨rfl, hs4⟩; have HX := Aside.mk (HX.out.call hs4); simp only [List.append_assoc] at HX; clear hs4))
        go_end0
        exact ⟨rfl, by have h := HX.out; rw [SP.out]; simpa only [List.append_assoc] using h⟩
      · exfalso; omega
      · have b0 : ¬ ss < M := by omega
        have b1 : ¬ M < ee := by omega
        have b2 : A < ss := by omega
        have b3 : ¬ ss < mid := by omega
        have b4 : ¬ mid < ee := by omega
        have b5 : ee < B := by omega
        have HX := Aside.mk (show Srts W base 58 g n c wr (P ++ (L1 ++ (L2 ++ (R1 ++ (R2 ++ Q))))) by simpa only [List.append_assoc] using HS.out)
        have hx : P ++ (L1 ++ (L2 ++ (R1 ++ (R2 ++ Q)))) = P ++ (L1 ++ (R1 ++ (L2 ++ (R2 ++ Q)))) := by rw [List.eq_nil_of_length_eq_zero (show L2.length = 0 by omega)]; simp only [List.nil_append]
        rw [hx] at HX
        have E2 := Aside.mk (show sortP (L1 ++ R1) = L1 ++ R1 by rw [List.eq_nil_of_length_eq_zero (show R1.length = 0 by omega)]; simpa using sortP_id SL1.out)
        have E3 := Aside.mk (show sortP (L2 ++ R2) = L2 ++ R2 by rw [List.eq_nil_of_length_eq_zero (show L2.length = 0 by omega)]; simpa using sortP_id SR2.out)
        have ZZ := Aside.mk (show 0 ≤ L1.length ∧ (0 < L1.length) ∧ (L2.length = 0) ∧ (R1.length = 0) ∧ (0 < R2.length) by omega)
        clear hLL hz1 hz2 hz3 hz4 HS
        go_wp2
        go_end0
        exact ⟨rfl, by have h := HX.out; rw [SP.out, E2.out, E3.out]; simpa only [List.append_assoc] using h⟩
      · have b0 : ¬ ss < M := by omega
        have b1 : M < ee := by omega
        have b2 : A < ss := by omega
        have b3 : ss < mid := by omega
        have b4 : ¬ mid < ee := by omega
        have b5 : ¬ ee < B := by omega
        have HX := Aside.mk (show Srts W base 58 g n c wr (P ++ (L1 ++ (L2 ++ (R1 ++ (R2 ++ Q))))) by simpa only [List.append_assoc] using HS.out)
        have hx : P ++ (L1 ++ (L2 ++ (R1 ++ (R2 ++ Q)))) = P ++ (L1 ++ (R1 ++ (L2 ++ (R2 ++ Q)))) := by rw [List.eq_nil_of_length_eq_zero (show L2.length = 0 by omega)]; simp only [List.nil_append]
        rw [hx] at HX
        have E3 := Aside.mk (show sortP (L2 ++ R2) = L2 ++ R2 by rw [List.eq_nil_of_length_eq_zero (show L2.length = 0 by omega)]; simpa using sortP_id SR2.out)
        have ZZ := Aside.mk (show 0 ≤ L1.length ∧ (0 < L1.length) ∧ (L2.length = 0) ∧ (0 < R1.length) ∧ (R2.length = 0) by omega)
        clear hLL hz1 hz2 hz3 hz4 HS
        go_wp2_with (first
          | (go_at_call 78; refine (IH.out base g n c A ss mid _ P L1 R1 (L2 ++ (R2 ++ Q)) (by have := LL.out; omega) (by have := LL.out; omega) (by have := LL.out; omega) (by have := LL.out; omega) (by have := ZZ.out; omega) (by have := ZZ.out; omega) SL1.out SR1.out (by have h := HX.out.own; simpa only [List.append_assoc] using h) hn).mono ?_; rintro e w3 ⟨rfl, hs3⟩; have HX := Aside.mk (HX.out.call hs3); simp only [List.append_assoc] at HX; have HFL : Aside True := .mk trivial; clear hs3))
        go_end0
        exact ⟨rfl, by have h := HX.out; rw [SP.out, E3.out]; simpa only [List.append_assoc] using h⟩
      · have b0 : ¬ ss < M := by omega
        have b1 : M < ee := by omega
        have b2 : A < ss := by omega
        have b3 : ss < mid := by omega
        have b4 : ¬ mid < ee := by omega
        have b5 : ee < B := by omega
        have HX := Aside.mk (show Srts W base 58 g n c wr (P ++ (L1 ++ (L2 ++ (R1 ++ (R2 ++ Q))))) by simpa only [List.append_assoc] using HS.out)
        have hx : P ++ (L1 ++ (L2 ++ (R1 ++ (R2 ++ Q)))) = P ++ (L1 ++ (R1 ++ (L2 ++ (R2 ++ Q)))) := by rw [List.eq_nil_of_length_eq_zero (show L2.length = 0 by omega)]; simp only [List.nil_append]
        rw [hx] at HX
        have E3 := Aside.mk (show sortP (L2 ++ R2) = L2 ++ R2 by rw [List.eq_nil_of_length_eq_zero (show L2.length = 0 by omega)]; simpa using sortP_id SR2.out)
        have ZZ := Aside.mk (show 0 ≤ L1.length ∧ (0 < L1.length) ∧ (L2.length = 0) ∧ (0 < R1.length) ∧ (0 < R2.length) by omega)
        clear hLL hz1 hz2 hz3 hz4 HS
        go_wp2_with (first
          | (go_at_call 78; refine (IH.out base g n c A ss mid _ P L1 R1 (L2 ++ (R2 ++ Q)) (by have := LL.out; omega) (by have := LL.out; omega) (by have := LL.out; omega) (by have := LL.out; omega) (by have := ZZ.out; omega) (by have := ZZ.out; omega) SL1.out SR1.out (by have h := HX.out.own; simpa only [List.append_assoc] using h) hn).mono ?_; rintro e w3 ⟨rfl, hs3⟩; have HX := Aside.mk (HX.out.call hs3); simp only [List.append_assoc] at HX; have HFL : Aside True := .mk trivial; clear hs3))
        go_end0
        exact ⟨rfl, by have h := HX.out; rw [SP.out, E3.out]; simpa only [List.append_assoc] using h⟩
      · exfalso; omega
      · have b0 : ss < M := by omega
        have b1 : ¬ M < ee := by omega
        have b2 : A < ss := by omega
        have b3 : ¬ ss < mid := by omega
        have b4 : mid < ee := by omega
        have b5 : ee < B := by omega
        have HX := Aside.mk (show Srts W base 58 g n c wr (P ++ (L1 ++ (L2 ++ (R1 ++ (R2 ++ Q))))) by simpa only [List.append_assoc] using HS.out)
        have hx : P ++ (L1 ++ (L2 ++ (R1 ++ (R2 ++ Q)))) = P ++ (L1 ++ (R1 ++ (L2 ++ (R2 ++ Q)))) := by rw [List.eq_nil_of_length_eq_zero (show R1.length = 0 by omega)]; simp only [List.nil_append]
        rw [hx] at HX
        have E2 := Aside.mk (show sortP (L1 ++ R1) = L1 ++ R1 by rw [List.eq_nil_of_length_eq_zero (show R1.length = 0 by omega)]; simpa using sortP_id SL1.out)
        have ZZ := Aside.mk (show 0 ≤ L1.length ∧ (0 < L1.length) ∧ (0 < L2.length) ∧ (R1.length = 0) ∧ (0 < R2.length) by omega)
        clear hLL hz1 hz2 hz3 hz4 HS
        go_wp2_with (first
          | (go_at_call 78; refine (IH.out base g n c mid ee B _ (P ++ sortP (L1 ++ R1)) L2 R2 Q (by have := LL.out; omega) (by have := LL.out; rw [List.length_append, sortP_len, List.length_append]; omega) (by have := LL.out; omega) (by have := LL.out; omega) (by have := ZZ.out; omega) (by have := ZZ.out; omega) SL2.out SR2.out (by have h := HX.out.own; rw [E2.out]; simpa only [List.append_assoc] using h) hn).mono ?_; rintro e w4 ⟨rfl, hs4⟩; have HX := Aside.mk (HX.out.call hs4); simp only [List.append_assoc] at HX; clear hs4))
        go_end0
        exact ⟨rfl, by have h := HX.out; rw [SP.out]; simpa only [List.append_assoc] using h⟩
      · have b0 : ss < M := by omega
        have b1 : M < ee := by omega
        have b2 : A < ss := by omega
        have b3 : ss < mid := by omega
        have b4 : mid < ee := by omega
        have b5 : ¬ ee < B := by omega
        have HX := Aside.mk (show Srts W base 58 g n c wr (P ++ (L1 ++ (L2 ++ (R1 ++ (R2 ++ Q))))) by simpa only [List.append_assoc] using HS.out)
        have E3 := Aside.mk (show sortP (L2 ++ R2) = L2 ++ R2 by rw [List.eq_nil_of_length_eq_zero (show R2.length = 0 by omega)]; simpa using sortP_id SL2.out)
        have ZZ := Aside.mk (show 0 ≤ L1.length ∧ (0 < L1.length) ∧ (0 < L2.length) ∧ (0 < R1.length) ∧ (R2.length = 0) by omega)
        clear hLL hz1 hz2 hz3 hz4 HS
        go_wp2_with (first
          | (go_at_call 83; refine (rotate_any base g n c ss M ee _ (P ++ L1) L2 R1 (R2 ++ Q) _ (by have := LL.out; rw [List.length_append]; omega) (by have := LL.out; omega) (by have := LL.out; omega) (by have := ZZ.out; omega) (by have := ZZ.out; omega) (by have h := HX.out.own; simpa only [List.append_assoc] using h) hn).mono ?_; rintro e w2 ⟨rfl, hs2⟩; have HX := Aside.mk (HX.out.call hs2); simp only [List.append_assoc] at HX; clear hs2)
          | (go_at_call 78; refine (IH.out base g n c A ss mid _ P L1 R1 (L2 ++ (R2 ++ Q)) (by have := LL.out; omega) (by have := LL.out; omega) (by have := LL.out; omega) (by have := LL.out; omega) (by have := ZZ.out; omega) (by have := ZZ.out; omega) SL1.out SR1.out (by have h := HX.out.own; simpa only [List.append_assoc] using h) hn).mono ?_; rintro e w3 ⟨rfl, hs3⟩; have HX := Aside.mk (HX.out.call hs3); simp only [List.append_assoc] at HX; have HFL : Aside True := .mk trivial; clear hs3))
        go_end0
        exact ⟨rfl, by have h := HX.out; rw [SP.out, E3.out]; simpa only [List.append_assoc] using h⟩
      · have b0 : ss < M := by omega
        have b1 : M < ee := by omega
        have b2 : A < ss := by omega
        have b3 : ss < mid := by omega
        have b4 : mid < ee := by omega
        have b5 : ee < B := by omega
        have HX := Aside.mk (show Srts W base 58 g n c wr (P ++ (L1 ++ (L2 ++ (R1 ++ (R2 ++ Q))))) by simpa only [List.append_assoc] using HS.out)
        have ZZ := Aside.mk (show 0 ≤ L1.length ∧ (0 < L1.length) ∧ (0 < L2.length) ∧ (0 < R1.length) ∧ (0 < R2.length) by omega)
        clear hLL hz1 hz2 hz3 hz4 HS
        go_wp2_with (first
          | (go_at_call 83; refine (rotate_any base g n c ss M ee _ (P ++ L1) L2 R1 (R2 ++ Q) _ (by have := LL.out; rw [List.length_append]; omega) (by have := LL.out; omega) (by have := LL.out; omega) (by have := ZZ.out; omega) (by have := ZZ.out; omega) (by have h := HX.out.own; simpa only [List.append_assoc] using h) hn).mono ?_; rintro e w2 ⟨rfl, hs2⟩; have HX := Aside.mk (HX.out.call hs2); simp only [List.append_assoc] at HX; clear hs2)
          | (have hfl := HFL; clear hfl HFL; go_at_call 78; refine (IH.out base g n c mid ee B _ (P ++ sortP (L1 ++ R1)) L2 R2 Q (by have := LL.out; omega) (by have := LL.out; rw [List.length_append, sortP_len, List.length_append]; omega) (by have := LL.out; omega) (by have := LL.out; omega) (by have := ZZ.out; omega) (by have := ZZ.out; omega) SL2.out SR2.out (by have h := HX.out.own; simpa only [List.append_assoc] using h) hn).mono ?_; rintro e w4 ⟨rfl, hs4⟩; have HX := Aside.mk (HX.out.call hs4); simp only [List.append_assoc] at HX; clear hs4)
          | (go_at_call 78; refine (IH.out base g n c A ss mid _ P L1 R1 (L2 ++ (R2 ++ Q)) (by have := LL.out; omega) (by have := LL.out; omega) (by have := LL.out; omega) (by have := LL.out; omega) (by have := ZZ.out; omega) (by have := ZZ.out; omega) SL1.out SR1.out (by have h := HX.out.own; simpa only [List.append_assoc] using h) hn).mono ?_; rintro e w3 ⟨rfl, hs3⟩; have HX := Aside.mk (HX.out.call hs3); simp only [List.append_assoc] at HX; have HFL : Aside True := .mk trivial; clear hs3))
        go_end0
        exact ⟨rfl, by have h := HX.out; rw [SP.out]; simpa only [List.append_assoc] using h⟩

/-- symMergeCmpFunc merges, whatever the two parts. -/
theorem sym_any : ∀ N, SymOK N
  | 0 => fun base g n c A M B W P L R Q hN hA hM hB h1 h2 => by omega
  | N + 1 => fun base g n c A M B W P L R Q hN hA hM hB h1 h2 hSL hSR h hn => by
    by_cases k1 : L.length = 1
    · obtain ⟨x, rfl⟩ := List.length_eq_one_iff.1 k1
      exact symOne_any base g n c A M B W P x R Q hA (by simpa using hM) hB hSR h hn
    · by_cases k2 : R.length = 1
      · obtain ⟨x, rfl⟩ := List.length_eq_one_iff.1 k2
        exact symLast_any base g n c A M B W P x L Q hA hM (by simpa using hB) k1 hSL h hn
      · by_cases k3 : M ≤ (A + B) / 2
        · exact symMain_a N (sym_any N) base g n c A M B _ W P L R Q hN hA hM hB (by omega) (by omega) hSL hSR rfl k3 h hn
        · exact symMain_b N (sym_any N) base g n c A M B _ W P L R Q hN hA hM hB (by omega) (by omega) hSL hSR rfl (by omega) h hn
end Go.Proofs.Ytlnnkkbcmidddaa
