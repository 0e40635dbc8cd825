/- The walks through the document's PutAll of layer 2 and Put of layer 4. -/
import Derived.Test.YtlpobpciiaofeaaDigE
import Derived.Test.YtlpobpciiaofeaaMayD
import Derived.Test.YtlpobpciiaofeaaDigI
import Derived.Test.YtlpobpciiaofeaaSortM
namespace Go.Proofs.Ytlpobpciiaofeaa
open Go.RowKit
set_option maxRecDepth 100000
def numF : Flat Int where
  enc z := [.int .i64 z]
  sz := 1
  len _ := rfl
  one _ u hu := by simp at hu; subst hu; rfl
  pos := by decide
theorem num_cells {l : List Int} {b o k n : Nat} {w W : World} (hl : Rd numF.kd w (some ⟨b, o, none⟩) n l) (hb : Below w.heap.size w W) (h : k < l.length) :
    b < w.heap.size ∧ W.cell? ⟨b, o + k, none⟩ = some (.int .i64 l[k]) := by
  obtain ⟨b', o', cs, e, hbl, hcs, hc⟩ := Row.at hl k (by rw [← hl.1]; exact h)
  injection e with e
  injection e with e1 e2 _
  subst e1 e2
  obtain rfl : cs = _ := hcs
  have h2 : W.cell? ⟨b, o + (k * 1 + 0), none⟩ = some (.int .i64 l[k]) := (hb.cell hbl).trans (hc 0 _ rfl)
  rw [Nat.mul_one, Nat.add_zero] at h2
  exact ⟨hbl, h2⟩
/-- The bytes of numbers, each in so many. -/
def allN (ns : List Int) (ws : List Nat) : List Int := (List.zipWith beN ns ws).flatten
theorem allN_take {ns : List Int} {ws : List Nat} {k : Nat} (h : k < ns.length) (h2 : k < ws.length) : allN (ns.take (k + 1)) (ws.take (k + 1)) = allN (ns.take k) (ws.take k) ++ beN ns[k] ws[k] := by
  unfold allN
  rw [← List.take_zipWith, ← List.take_zipWith, List.take_succ_eq_append_getElem (by simp; omega), List.flatten_append]
  simp
theorem allN_len {ns : List Int} {ws : List Nat} (hw : ∀ k ∈ ws, k ≤ 4) : (allN ns ws).length ≤ ns.length * 4 := by
  induction ns generalizing ws with
  | nil => simp [allN]
  | cons x xs ih =>
    cases ws with
    | nil => simp [allN]
    | cons y ys =>
      have h1 := ih (ws := ys) (fun k hk => hw k (by simp [hk]))
      have h2 := hw y (by simp)
      have h3 : allN (x :: xs) (y :: ys) = beN x y ++ allN xs ys := by simp [allN]
      rw [h3, List.length_append, beN_len, List.length_cons]
      omega
def palB (x : Int) (wd : Nat) (A B : Option Addr) (n c m d k : Nat) (p q : Addr) (X : List Int) (wr : World) (w' : World) : Prop :=
  Below wr.heap.size wr w'
def palF (x : Int) (wd : Nat) (A B : Option Addr) (n c m d k : Nat) (p q : Addr) (X : List Int) (wr : World) : List (Value → Value → World → Prop) :=
  [fun _ v _ => v = .slice A n c,
   fun _ v _ => v = .int .i64 k,
   fun _ v _ => v = .pointer (some p),
   fun _ v _ => v = .int .i64 x,
   fun _ v _ => v = .slice B m d,
   fun _ v _ => v = .int .i64 k,
   fun _ v _ => v = .pointer (some q),
   fun _ v _ => v = .int .i64 wd,
   fun _ v w' => ∃ u, v = .tuple #[u, .int .i64 0] ∧ Own bytF w' wr.heap.size 5 u X,
   fun _ v w' => ∃ u, v = .tuple #[u, .int .i64 0] ∧ Own bytF w' wr.heap.size 5 u X,
   fun _ v w' => Own bytF w' wr.heap.size 5 v X,
   fun _ v _ => v = .int .i64 0,
   fun _ v w' => Own bytF w' wr.heap.size 5 v X,
   fun _ v _ => v = .int .i64 0]
def palQ : Nat → Nat := fun i => i
theorem palF_stay (x : Int) (wd : Nat) (A B : Option Addr) (n c m d k : Nat) (p q : Addr) (X : List Int) (wr : World) : AllStay (palF x wd A B n c m d k p q X wr) := by
  intro F hF u v w' w'' hb h
  simp only [palF, List.mem_cons, List.not_mem_nil, or_false] at hF
  rcases hF with rfl | rfl | rfl | rfl | rfl | rfl | rfl | rfl | rfl | rfl | rfl | rfl | rfl | rfl
  · exact h
  · exact h
  · exact h
  · exact h
  · exact h
  · exact h
  · exact h
  · exact h
  · obtain ⟨u, e, h⟩ := h
    exact ⟨u, e, h.below hb⟩
  · obtain ⟨u, e, h⟩ := h
    exact ⟨u, e, h.below hb⟩
  · exact h.below hb
  · exact h
  · exact h.below hb
  · exact h
theorem palB_stay (x : Int) (wd : Nat) (A B : Option Addr) (n c m d k : Nat) (p q : Addr) (X : List Int) (wr : World) : Stays (palB x wd A B n c m d k p q X wr) := by
  intro w' w'' hb h
  exact below_call h hb
set_option maxHeartbeats 2000000 in
theorem putAllR_any (ns : List Int) (ws : List Nat) (A B : Option Addr) (c d : Nat) (w : World) (hA : Rd numF.kd w A ns.length ns) (hB : Rd numF.kd w B ns.length (ws.map fun k : Nat => (k : Int))) (hlen : ws.length = ns.length) (h60 : ns.length ≤ 60)
    (hok : ∀ k (h : k < ns.length) (h2 : k < ws.length), 0 ≤ ns[k] ∧ 1 ≤ ws[k] ∧ ws[k] ≤ 4 ∧ ns[k] < pw ws[k]) :
    Calls Try.prog 54 #[.slice A ns.length c, .slice B ns.length d] w fun e w' => ∃ v, e = .returned (.tuple #[v, .int .i64 0]) ∧ Own bytF w' w.heap.size 5 v (allN ns ws) ∧ Below w.heap.size w w' := by
  have HA := Aside.mk hA
  have HB := Aside.mk hB
  have HK := Aside.mk hok
  have HLE := Aside.mk hlen
  have HW : Aside (∀ k ∈ ws, k ≤ 4) := .mk (fun k hk => by
    obtain ⟨i, hi, rfl⟩ := List.getElem_of_mem hk
    exact (hok i (by omega) hi).2.2.1)
  clear hA hB hok hlen
  have d0 : ((ns.length : Int) != (ns.length : Int)) = false := by simp
  go_enter Try.func54, Try.ntmps54
  go_wp2
  go_loopw [6, 7] (fun v i wr => ∃ (k : Nat) (L : List Int), k ≤ ns.length ∧ i = .int .i64 k ∧ L = allN (ns.take k) (ws.take k) ∧ Own bytF wr w.heap.size 5 v L ∧ Below w.heap.size w wr) (fun _ i _ => ns.length - (intOf i).toNat)
  case atStart => exact ⟨0, [], Nat.zero_le _, rfl, by simp [allN], Own.nil _ _ _ _, Below.refl _ _⟩
  case round =>
    obtain ⟨k, L, hk, rfl, hL, ho, hb⟩ := hrel
    obtain ⟨A0, k0, rfl, -⟩ := ho.form
    have KB := Aside.mk hb
    have KO := Aside.mk ho
    have HL := Aside.mk hL
    have hLl : L.length ≤ 240 := by
      have := allN_len (ns := ns.take k) (ws := ws.take k) (fun j hj => HW.out j (List.mem_of_mem_take hj))
      rw [← hL, List.length_take] at this
      omega
    clear hb ho hL
    by_cases hlt : k < ns.length
    · obtain ⟨b1, o1, _, rfl, -⟩ := Row.at HA.out k hlt
      have hlt2 : k < ws.length := by have := HLE.out; omega
      obtain ⟨b2, o2, _, rfl, -⟩ := Row.at HB.out k hlt
      obtain ⟨hw1, p1⟩ := num_cells HA.out KB.out hlt
      obtain ⟨hw2, p2⟩ := num_cells HB.out KB.out (by simpa using hlt2)
      rw [List.getElem_map] at p2
      have HX0 := Aside.mk (HK.out k hlt hlt2)
      have HT := Aside.mk (allN_take hlt hlt2)
      obtain ⟨x, hx⟩ : ∃ x, ns[k] = x := ⟨_, rfl⟩
      obtain ⟨wd, hwd⟩ : ∃ x, ws[k] = x := ⟨_, rfl⟩
      rw [hx, hwd] at HX0 HT
      rw [hx] at p1
      rw [hwd] at p2
      obtain ⟨X, hX⟩ : ∃ X, beN x wd = X := ⟨_, rfl⟩
      have hXl : X.length ≤ 4 := by rw [← hX, beN_len]; exact HX0.out.2.2.1
      rw [hX] at HT
      have HXX := Aside.mk hX
      clear hx hwd hX
      have C1 := Aside.mk p1
      have C2 := Aside.mk p2
      have hl1 : b1 < wr.heap.size := Nat.lt_of_lt_of_le hw1 KB.out.size
      have hl2 : b2 < wr.heap.size := Nat.lt_of_lt_of_le hw2 KB.out.size
      clear p1 p2 hw1 hw2
      go_wp2
      refine wp_region_facts (Base := palB x wd (some ⟨b1, o1, none⟩) (some ⟨b2, o2, none⟩) ns.length c ns.length d k ⟨b1, o1 + k, none⟩ ⟨b2, o2 + k, none⟩ X wr) (q := palQ) (Fs := palF x wd (some ⟨b1, o1, none⟩) (some ⟨b2, o2, none⟩) ns.length c ns.length d k ⟨b1, o1 + k, none⟩ ⟨b2, o2 + k, none⟩ X wr) (by kernel_rfl) (by kernel_rfl) (by kernel_rfl) (by kernel_rfl) (below_drew (Below.refl _ _)) ?_ ?_
      ·
        have hBs := palB_stay x wd (some ⟨b1, o1, none⟩) (some ⟨b2, o2, none⟩) ns.length c ns.length d k ⟨b1, o1 + k, none⟩ ⟨b2, o2 + k, none⟩ X wr
        have hFs := palF_stay x wd (some ⟨b1, o1, none⟩) (some ⟨b2, o2, none⟩) ns.length c ns.length d k ⟨b1, o1 + k, none⟩ ⟨b2, o2 + k, none⟩ X wr
        refine ⟨?_, ?_, ?_, ?_, ?_, ?_, ?_, ?_, ?_, ?_, ?_, ?_, ?_, ?_, trivial⟩
        · refine step_pure hBs hFs rfl fun a' w' hB hag hp => ?_
          have h0 := hag 0 (by kernel_rfl)
          simp at h0
          unfold OpYields
          go_simp
          exact ⟨Below.refl _ _, rfl⟩
        · refine step_pure hBs hFs rfl fun a' w' hB hag hp => ?_
          have h7 := hag 7 (by kernel_rfl)
          simp at h7
          unfold OpYields
          go_simp
          exact ⟨Below.refl _ _, rfl⟩
        · refine step_pure hBs hFs rfl fun a' w' hB hag hp => ?_
          have h22 : a'.tmps.getD 22 undef = _ := hp 0 (by kernel_rfl)
          have h23 : a'.tmps.getD 23 undef = _ := hp 1 (by kernel_rfl)
          simp at h22 h23
          unfold OpYields
          go_simp
          exact ⟨Below.refl _ _, rfl⟩
        · refine step_pure hBs hFs rfl fun a' w' hB hag hp => ?_
          have h24 : a'.tmps.getD 24 undef = _ := hp 2 (by kernel_rfl)
          have hB : Below wr.heap.size wr w' := hB; have y0 := (hB.cell (p := ⟨b1, o1 + k, none⟩) hl1).trans C1.out; have y1 := (hB.cell (p := ⟨b2, o2 + k, none⟩) hl2).trans C2.out
          simp at h24
          unfold OpYields
          go_simp
          exact ⟨Below.refl _ _, rfl⟩
        · refine step_pure hBs hFs rfl fun a' w' hB hag hp => ?_
          have h1 := hag 1 (by kernel_rfl)
          simp at h1
          unfold OpYields
          go_simp
          exact ⟨Below.refl _ _, rfl⟩
        · refine step_pure hBs hFs rfl fun a' w' hB hag hp => ?_
          have h7 := hag 7 (by kernel_rfl)
          simp at h7
          unfold OpYields
          go_simp
          exact ⟨Below.refl _ _, rfl⟩
        · refine step_pure hBs hFs rfl fun a' w' hB hag hp => ?_
          have h26 : a'.tmps.getD 26 undef = _ := hp 4 (by kernel_rfl)
          have h27 : a'.tmps.getD 27 undef = _ := hp 5 (by kernel_rfl)
          simp at h26 h27
          unfold OpYields
          go_simp
          exact ⟨Below.refl _ _, rfl⟩
        · refine step_pure hBs hFs rfl fun a' w' hB hag hp => ?_
          have h28 : a'.tmps.getD 28 undef = _ := hp 6 (by kernel_rfl)
          have hB : Below wr.heap.size wr w' := hB; have y0 := (hB.cell (p := ⟨b1, o1 + k, none⟩) hl1).trans C1.out; have y1 := (hB.cell (p := ⟨b2, o2 + k, none⟩) hl2).trans C2.out
          simp at h28
          unfold OpYields
          go_simp
          exact ⟨Below.refl _ _, rfl⟩
        · refine step_pure hBs hFs rfl fun a' w' hB hag hp => ?_
          have h25 : a'.tmps.getD 25 undef = _ := hp 3 (by kernel_rfl)
          have h29 : a'.tmps.getD 29 undef = _ := hp 7 (by kernel_rfl)
          have hB0 : Below wr.heap.size wr w' := hB
          simp at h25 h29
          unfold OpYields
          go_simp
          refine (putR_any x wd w' HX0.out.1 HX0.out.2.1 HX0.out.2.2.1 HX0.out.2.2.2).mono ?_
          rintro e w1 ⟨u, rfl, ho, hb⟩
          rw [HXX.out] at ho
          exact ⟨_, rfl, hb, _, rfl, ho.mono hB0.size⟩
        · refine step_pure hBs hFs rfl fun a' w' hB hag hp => ?_
          have h30 := hp 8 (by kernel_rfl)
          replace h30 : _ := h30
          obtain ⟨u, hv, ho⟩ : ∃ u, a'.tmps.getD 30 undef = .tuple #[u, .int .i64 0] ∧ Own bytF w' wr.heap.size 5 u X := h30
          simp at hv
          unfold OpYields
          go_simp
          exact ⟨Below.refl _ _, _, rfl, ho⟩
        · refine step_pure hBs hFs rfl fun a' w' hB hag hp => ?_
          have h21 := hp 9 (by kernel_rfl)
          replace h21 : _ := h21
          obtain ⟨u, hv, ho⟩ : ∃ u, a'.tmps.getD 21 undef = .tuple #[u, .int .i64 0] ∧ Own bytF w' wr.heap.size 5 u X := h21
          simp at hv
          unfold OpYields
          go_simp
          exact ⟨Below.refl _ _, ho⟩
        · refine step_pure hBs hFs rfl fun a' w' hB hag hp => ?_
          have h21 := hp 9 (by kernel_rfl)
          replace h21 : _ := h21
          obtain ⟨u, hv, ho⟩ : ∃ u, a'.tmps.getD 21 undef = .tuple #[u, .int .i64 0] ∧ Own bytF w' wr.heap.size 5 u X := h21
          simp at hv
          unfold OpYields
          go_simp
          exact ⟨Below.refl _ _, rfl⟩
        · refine step_pure hBs hFs rfl fun a' w' hB hag hp => ?_
          have h31 := hp 10 (by kernel_rfl)
          replace h31 : _ := h31
          have h31' : Own bytF w' wr.heap.size 5 (a'.tmps.getD 31 undef) X := h31
          clear h31
          obtain ⟨u, hv⟩ : ∃ u, a'.tmps.getD 31 undef = u := ⟨_, rfl⟩
          rw [hv] at h31'
          simp at hv
          unfold OpYields
          go_simp
          exact ⟨Below.refl _ _, h31'⟩
        · refine step_pure hBs hFs rfl fun a' w' hB hag hp => ?_
          have h32 : a'.tmps.getD 32 undef = _ := hp 11 (by kernel_rfl)
          simp at h32
          unfold OpYields
          go_simp
          exact ⟨Below.refl _ _, rfl⟩
      intro vs w' hB hF
      simp only [AllF, forall_const, reduceCtorEq, false_implies, Fof, palF, palQ, Nat.zero_add, Nat.reduceAdd, Nat.reduceEqDiff, if_true, if_false, List.getD_cons_succ, List.getD_cons_zero] at hF
      obtain ⟨f0, f1, f2, f3, f4, f5, f6, f7, -, -, -, f11, f12, f13, -⟩ := hF
      simp only [putAll, Act.put, Nat.zero_add, Nat.reduceAdd, f0, f1, f2, f3, f4, f5, f6, f7, f11, f12, f13, List.setIfInBounds_toArray, List.set_cons_zero, List.set_cons_succ]
      obtain ⟨v8, hv8⟩ : ∃ v, vs 12 = v := ⟨_, rfl⟩
      have h8o : Own bytF w' wr.heap.size 5 (vs 12) X := f12
      clear f12
      rw [hv8] at h8o
      simp only [hv8]
      clear hv8
      have KB2 := Aside.mk (below_call KB.out hB)
      have hB2 : Below wr.heap.size wr w' := hB
      have h8b : Own bytF w' wr.heap.size 5 v8 X := h8o
      obtain ⟨A3, k3, rfl, -, hr3⟩ := h8b.rd
      have HR := Aside.mk hr3
      have HN3 := Aside.mk h8b.nilc3
      have KO2 := Aside.mk (KO.out.below hB2)
      have hsw := KB2.out.size
      clear h8o h8b hr3 hB hB2
      go_wp2_with (at_builtin; refine wp_appRow (f := bytF) w.heap.size rfl _ _ _ _ _ _ rfl Try.underlying58 infoByt rfl (by decide) (.slice A0 L.length k0) L X A3 k3 rfl rfl HN3.out KO2.out HR.out hsw (by omega) ?_; intro v2 w3 ho2 hg2 hat2; have KB3 := Aside.mk (below_own KB2.out hg2 (fun b e => ⟨(KO2.out.lt b e).1, (KO2.out.lt b e).2⟩)); have KO3 := Aside.mk ho2; clear hg2 ho2 hat2)
      exact ⟨⟨k + 1, L ++ X, by omega, by push_cast; rfl, by rw [HT.out, HL.out], KO3.out, KB3.out⟩, by simp [intOf]; omega⟩
    · obtain rfl : k = ns.length := by omega
      have HL2 : Aside (L = allN ns ws) := .mk (by rw [HL.out, List.take_length, ← HLE.out, List.take_length])
      go_wp2
      refine bodyPost_ret (v := .tuple #[.slice A0 L.length k0, .int .i64 0]) (by simp [results, Try.results54, go_sem]) rfl ?_
      exact ⟨_, rfl, by rw [← HL2.out]; exact KO.out, KB.out⟩
theorem rd_two (w : World) (xs ys : List Int) (hx : xs.length ≤ 1000) (hy : ys.length ≤ 1000) (c1 c2 : Array Value) (t : TypeId) (h1 : c1.toList = xs.flatMap numF.enc) (h2 : c2.toList = ys.flatMap numF.enc) :
    Rd numF.kd ((w.alloc (.cells c1 t)).alloc (.cells c2 t)) (some ⟨w.heap.size, 0, none⟩) xs.length xs ∧ Rd numF.kd ((w.alloc (.cells c1 t)).alloc (.cells c2 t)) (some ⟨w.heap.size + 1, 0, none⟩) ys.length ys := by
  refine ⟨(Rd.made numF w c1 t _ xs h1 (by omega)).below ((Below.refl _ _).alloc (Nat.le_refl _) _), ?_⟩
  have h := Rd.made numF (w.alloc (.cells c1 t)) c2 t (0, 0) ys h2 (by omega)
  simpa using h
abbrev sixN (r : Rul) : List Int := [r.addr, r.len, r.inn + 1, r.prio, r.kind, r.port]
theorem six_put {r : Rul} (h : mayI r = true) : allN (sixN r) [4, 1, 1, 1, 1, 1] = putB r := by
  have hb := mayI_bounds h
  simp only [allN, sixN, putB, beN, pw, List.zipWith_cons_cons, List.zipWith_nil_left, List.flatten_cons, List.flatten_nil, List.append_nil, List.cons_append, List.nil_append, Int.ediv_one]
  repeat (first | rfl | (congr 1 <;> first | omega | skip))
theorem putSix_any (r : Rul) (h : mayI r = true) (g1 g2 : Nat) (w : World) (hA : Rd numF.kd w (some ⟨g1, 0, none⟩) 6 (sixN r)) (hB : Rd numF.kd w (some ⟨g2, 0, none⟩) 6 [4, 1, 1, 1, 1, 1]) :
    Calls Try.prog 54 #[.slice (some ⟨g1, 0, none⟩) 6 6, .slice (some ⟨g2, 0, none⟩) 6 6] w fun e w' => ∃ v, e = .returned (.tuple #[v, .int .i64 0]) ∧ Own bytF w' w.heap.size 5 v (putB r) ∧ Below w.heap.size w w' := by
  have hb := mayI_bounds h
  rw [← six_put h]
  refine putAllR_any (sixN r) [4, 1, 1, 1, 1, 1] _ _ 6 6 w hA hB rfl (by simp) (fun k h1 h2 => ?_)
  match k, h1, h2 with
  | 0, _, _ => refine ⟨?_, ?_, ?_, ?_⟩ <;> simp [pw] <;> omega
  | 1, _, _ => refine ⟨?_, ?_, ?_, ?_⟩ <;> simp [pw] <;> omega
  | 2, _, _ => refine ⟨?_, ?_, ?_, ?_⟩ <;> simp [pw] <;> omega
  | 3, _, _ => refine ⟨?_, ?_, ?_, ?_⟩ <;> simp [pw] <;> omega
  | 4, _, _ => refine ⟨?_, ?_, ?_, ?_⟩ <;> simp [pw] <;> omega
  | 5, _, _ => refine ⟨?_, ?_, ?_, ?_⟩ <;> simp [pw] <;> omega
  | k + 6, h1, _ => simp at h1; omega
set_option maxHeartbeats 1000000 in
theorem rputR_any (r : Rul) (w : World) (hm : mayI r = true) :
    Calls Try.prog 41 #[rulV r] w fun e w' => ∃ v, e = .returned (.tuple #[v, .int .i64 0]) ∧ Own bytF w' w.heap.size 5 v (putB r) ∧ Below w.heap.size w w' := by
  have HM := Aside.mk hm
  obtain ⟨a0, a1, l0, l1, i0, i1, p0, p1, k0, k1, q0, q1⟩ := mayI_bounds hm
  clear hm a0 a1 l0 l1 p0 p1 k0 k1 q0 q1
  have HB := Aside.mk (below_alloc (Below.refl _ w) (.cells #[.int .i64 r.addr, .int .i64 r.len, .int .i64 r.inn, .int .i64 r.prio, .int .i64 r.kind, .int .i64 r.port] 33))
  have HX := Aside.mk (heapN w (.cells #[.int .i64 r.addr, .int .i64 r.len, .int .i64 r.inn, .int .i64 r.prio, .int .i64 r.kind, .int .i64 r.port] 33) rfl)
  go_enter Try.func41, Try.ntmps41
  go_wp2_with (first
    | (go_at_call 53; refine (mayR4_any _ _).mono ?_; rw [HM.out]; rintro e w1 ⟨rfl, hb1⟩; have HB := Aside.mk (below_call HB.out hb1); have HX := Aside.mk (blk_keep HX.out hb1); have x0 := blk_cell HX.out 0; have x1 := blk_cell HX.out 1; have x2 := blk_cell HX.out 2; have x3 := blk_cell HX.out 3; have x4 := blk_cell HX.out 4; have x5 := blk_cell HX.out 5; simp at x0 x1 x2 x3 x4 x5; clear hb1)
    | (go_at_call 54; have HR2 := rd_two w1 (sixN r) [4, 1, 1, 1, 1, 1] (by simp) (by simp) _ _ 3 rfl rfl; refine (putSix_any r HM.out _ _ _ HR2.1 HR2.2).mono ?_; rintro e w2 ⟨v, rfl, ho, hb2⟩; have hsz1 := HB.out.size; have KO := Aside.mk (ho.mono (base' := w.heap.size) (by simp; omega)); have HB := Aside.mk (below_call (below_alloc (below_alloc HB.out _) _) hb2); clear ho hb2 HR2))
  exact bodyPost_ret (v := .tuple #[_, _]) (by simp [results, Try.results41, go_sem]) rfl ⟨_, rfl, KO.out, HB.out⟩
theorem rputRNo_any (r : Rul) (w : World) (hm : mayI r = false) :
    Calls Try.prog 41 #[rulV r] w fun e w' => e = .returned (.tuple #[.slice none 0 0, .int .i64 1]) ∧ Below w.heap.size w w' := by
  have HM := Aside.mk hm
  clear hm
  have HB := Aside.mk (below_alloc (Below.refl _ w) (.cells #[.int .i64 r.addr, .int .i64 r.len, .int .i64 r.inn, .int .i64 r.prio, .int .i64 r.kind, .int .i64 r.port] 33))
  go_enter Try.func41, Try.ntmps41
  go_wp2_with (go_at_call 53; refine (mayR4_any _ _).mono ?_; rw [HM.out]; rintro e w1 ⟨rfl, hb1⟩; have HB := Aside.mk (below_call HB.out hb1); clear hb1)
  refine bodyPost_ret (v := .tuple #[.slice none 0 0, .int .i64 1]) (by simp [results, Try.results41, go_sem]) rfl ?_
  exact ⟨rfl, HB.out⟩
end Go.Proofs.Ytlpobpciiaofeaa
