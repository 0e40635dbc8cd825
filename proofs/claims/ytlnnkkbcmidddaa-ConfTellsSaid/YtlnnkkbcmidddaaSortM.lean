/- The walk through the document's Order: the same order. -/
import Derived.Test.YtlnnkkbcmidddaaSortL
namespace Go.Proofs.Ytlnnkkbcmidddaa
open Go.RowKit
set_option maxRecDepth 100000
def orbB (x y : Rul) (b o c n k g m vc q jp : Nat) (wr : World) (w' : World) : Prop :=
  Below wr.heap.size wr w'
def orbF (x y : Rul) (b o c n k g m vc q jp : Nat) (wr : World) : List (Value → Value → World → Prop) :=
  [fun _ v _ => v = .slice (some ⟨b, o, none⟩) n c,
   fun _ v _ => v = .int .i64 k,
   fun _ v _ => v = .pointer (some ⟨b, o + k * 6, none⟩),
   fun _ v _ => v = rulV x,
   fun _ v _ => v = .slice (some ⟨g, 0, none⟩) m vc,
   fun _ v _ => v = .int .i64 (q : Nat),
   fun _ v _ => v = .int .i64 (jp : Nat),
   fun _ v _ => v = .pointer (some ⟨g, jp * 6, none⟩),
   fun _ v _ => v = rulV y,
   fun _ v _ => v = .bool (decide (ltR x y)),
   fun _ v _ => v = .bool (decide (ltR x y))]
def orbQ : Nat → Nat := fun i => i
theorem orbF_stay (x y : Rul) (b o c n k g m vc q jp : Nat) (wr : World) : AllStay (orbF x y b o c n k g m vc q jp wr) := by
  intro F hF u v w' w'' hb h
  simp only [orbF, List.mem_cons, List.not_mem_nil, or_false] at hF
  rcases hF with rfl | rfl | rfl | rfl | rfl | rfl | rfl | rfl | rfl | rfl | rfl
  · exact h
  · exact h
  · exact h
  · exact h
  · exact h
  · exact h
  · exact h
  · exact h
  · exact h
  · exact h
  · exact h
theorem orbB_stay (x y : Rul) (b o c n k g m vc q jp : Nat) (wr : World) : Stays (orbB x y b o c n k g m vc q jp wr) := by
  intro w' w'' hb h
  exact below_call h hb
theorem Own.sub {α : Type} {f : Flat α} {w : World} {base g n c : Nat} {e : TypeId} {xs : List α} (h : Own f w base e (.slice (some ⟨g, 0, none⟩) n c) xs) {k : Nat} (hk : k ≤ xs.length) : Rd f.kd w (some ⟨g, 0, none⟩) k (xs.take k) ∧ Rd f.kd w (some ⟨g, 0 + k * f.sz, none⟩) (xs.length - k) (xs.drop k) := by
  obtain ⟨A, c', e1, -, hr⟩ := h.rd
  injection e1 with e1 e2 e3
  subst e1
  exact ⟨hr.take hk, hr.drop (k := k) hk⟩
theorem own_ne {v1 : Value} {g : Nat} {W : World} {o : Option Nat} (ho : o ≠ some g) (hg : g < W.heap.size) (h : v1.ownBlock = o ∨ ∃ b, v1.ownBlock = some b ∧ W.heap.size ≤ b) : v1.ownBlock ≠ some g := by
  rcases h with h | ⟨b, h, hb⟩
  · rw [h]; exact ho
  · rw [h]
    intro hc
    injection hc with hc
    omega
set_option maxHeartbeats 4000000 in
theorem orderR_any (l : List Rul) (A : Option Addr) (c : Nat) (w : World) (hl : Rd rulD w A l.length l) (hn : l.length ≤ 1000) :
    Calls Try.prog 43 #[.slice A l.length c] w fun e w' => ∃ v, e = .returned v ∧ Own rulF w' w.heap.size 58 v (sortP l) ∧ Below w.heap.size w w' := by
  have HL := Aside.mk hl
  clear hl
  go_enter Try.func43, Try.ntmps43
  go_wp2
  go_loopw [3, 4] (fun v i wr => ∃ k : Nat, k ≤ l.length ∧ i = .int .i64 k ∧ (k = 0 → v = .slice none 0 0) ∧ Own rulF wr w.heap.size 58 v (sortP (l.take k)) ∧ Below w.heap.size w wr) (fun _ i _ => l.length - (intOf i).toNat)
  case atStart => exact ⟨0, Nat.zero_le _, rfl, fun _ => rfl, by rw [List.take_zero, sortP_nil]; exact Own.nil _ _ _ _, Below.refl _ _⟩
  case round =>
    obtain ⟨k, hk, rfl, hv0, hv, hb⟩ := hrel
    have KB := Aside.mk hb
    have KV := Aside.mk hv
    by_cases hlt : k < l.length
    · obtain ⟨b, o, _, rfl, -⟩ := Row.at HL.out k hlt
      have HCC := Aside.mk (fun W (hb : Below w.heap.size w W) => rul_cells (c := c) HL.out hb hlt)
      have hsl : (sortP (l.take k)).length = k := by rw [sortP_len, List.length_take]; omega
      obtain ⟨x, hx⟩ : ∃ x, l[k] = x := ⟨_, rfl⟩
      have HT := Aside.mk (show l.take (k + 1) = l.take k ++ [x] by rw [List.take_succ_eq_append_getElem hlt, hx])
      rw [hx] at HCC
      have HSR := Aside.mk (sortP_srt (l.take k))
      have HSP := Aside.mk (sortP_perm (l.take k))
      rcases Nat.eq_zero_or_pos k with h0 | h0
      · subst h0
        have hv1 := hv0 rfl
        subst hv1
        have HR := Aside.mk (show sortP (l.take 1) = [x] by rw [HT.out, List.take_zero, List.nil_append, sortP_one])
        clear hv0 hv hsl hx hb KV
        go_wp2
        go_loopw [5, 6] (fun a t wx => a = .int .i64 0 ∧ Below w.heap.size w wx) (fun a _ _ => 0)
        case atStart => exact ⟨rfl, KB.out⟩
        case round =>
          obtain ⟨rfl, hbx⟩ := hrel
          have KB := Aside.mk hbx
          obtain ⟨-, p0, p1, p2, p3, p4, p5⟩ := HCC.out _ KB.out; simp only [Nat.zero_mul, Nat.add_zero] at p0 p1 p2 p3 p4 p5
          have HF0 : Aside True := .mk trivial
          clear hbx
          go_wp2_with (first
            | (have hfl := HF2; clear hfl HF2; at_builtin; refine wp_appRow (f := rulF) w.heap.size rfl _ _ _ _ _ _ rfl Try.underlying33 infoRul rfl (by decide) v2 ([] ++ [] ++ [x]) [] none 0 rfl rfl (fun _ => rfl) K2.out (Rd.nil _ _ _) KB.out.size (by simp) ?_; intro v3 w3 ho3 hg3 hat3; have KB := Aside.mk (below_own KB.out hg3 (fun b e => ⟨(K2.out.lt b e).1, (K2.out.lt b e).2⟩)); have K3 := Aside.mk ho3; clear ho3 hg3 hat3)
            | (have hfl := HF1; clear hfl HF1; at_builtin; refine wp_app1 (f := rulF) w.heap.size rfl _ _ _ _ _ _ rfl Try.underlying33 infoRul rfl (by decide) v1 ([] ++ []) x _ rfl rfl (by go_simp) K1.out KB.out.size (by simp) ?_; intro v2 w2 ho2 hg2 hat2; have KB := Aside.mk (below_own KB.out hg2 (fun b e => ⟨(K1.out.lt b e).1, (K1.out.lt b e).2⟩)); have K2 := Aside.mk ho2; have HF2 : Aside True := .mk trivial; clear ho2 hg2 hat2)
            | (have hfl := HF0; clear hfl HF0; at_builtin; refine wp_appRow (f := rulF) w.heap.size rfl _ _ _ _ _ _ rfl Try.underlying33 infoRul rfl (by decide) (.slice none 0 0) [] [] none 0 rfl rfl (fun _ => rfl) (Own.nil _ _ _ _) (Rd.nil _ _ _) KB.out.size (by simp) ?_; intro v1 w1 ho1 hg1 hat1; have KB := Aside.mk (below_grown' KB.out hg1); have K1 := Aside.mk ho1; have HF1 : Aside True := .mk trivial; obtain ⟨-, p0, p1, p2, p3, p4, p5⟩ := HCC.out _ KB.out; simp only [Nat.zero_mul, Nat.add_zero] at p0 p1 p2 p3 p4 p5; clear ho1 hg1 hat1))
          exact ⟨⟨1, by omega, rfl, fun h => absurd h (by decide), by rw [HR.out]; simpa using K3.out, KB.out⟩, by simp [intOf]; omega⟩
      · obtain ⟨g, vc, rfl, hg, hgl0, hvc⟩ := hv.addr (by rw [hsl]; exact h0)
        generalize hS : sortP (l.take k) = S at *
        have HSL := Aside.mk hsl
        have HGL := Aside.mk hgl0
        clear hS hx hb hv hv0 hsl
        go_wp2
        go_loopw [5, 6] (fun a t wx => ∃ q : Nat, q ≤ S.length ∧ a = .int .i64 q ∧ (∀ y ∈ S.drop q, ltR x y) ∧ Below wr.heap.size wr wx) (fun a _ _ => (intOf a).toNat)
        case atStart => exact ⟨S.length, Nat.le_refl _, rfl, by simp, Below.refl _ _⟩
        case round =>
          obtain ⟨q, hq, rfl, h2, hbx⟩ := hrel
          have KBR := KB
          have KVR := KV
          have KBX := Aside.mk hbx
          have KB := Aside.mk (below_call KB.out hbx)
          have KV := Aside.mk (KV.out.below hbx)
          have HQ := Aside.mk hq
          have H2 := Aside.mk h2
          have HQ1 := Aside.mk (show (S.take q).length = q by rw [List.length_take]; omega)
          have HQ2 := Aside.mk (show (S.drop q).length = S.length - q from List.length_drop ..)
          have OUT := Aside.mk (fun h1 : ∀ h : S.take q ≠ [], leR ((S.take q).getLast h) x => show sortP (l.take (k + 1)) = S.take q ++ x :: S.drop q by
            rw [HT.out]
            exact sortP_put (S1 := S.take q) (S2 := S.drop q) (by rw [List.take_append_drop]; exact HSR.out) h1 (fun y hy => ltR_le (H2.out y hy)) (by rw [List.take_append_drop]; exact HSP.out))
          have HF0 : Aside True := .mk trivial
          have hqc : q ≤ vc := by omega
          rcases Nat.eq_zero_or_pos q with hq0 | hq0
          · have HR := Aside.mk (OUT.out (fun h => absurd (by rw [hq0]; simp) h))
            have d0 : decide ((0 : Int) < (q : Int)) = false := decide_eq_false (by omega)
            have d1 : ¬ 0 < q := by omega
            clear hbx h2
            obtain ⟨-, p0, p1, p2, p3, p4, p5⟩ := HCC.out _ KB.out
            go_wp2_with (first
              | (have hfl := HF2; clear hfl HF2; at_builtin; refine wp_appRow (f := rulF) w.heap.size rfl _ _ _ _ _ _ rfl Try.underlying33 infoRul rfl (by decide) v2 ([] ++ S.take q ++ [x]) (S.drop q) (some ⟨g, q * 6, none⟩) (vc - q) rfl (by rw [HQ2.out]; first | rfl | (rw [hq0]; simp; rfl) | (rw [hq0]; simp)) (fun h => by cases h) K2.out (by have h := (KV.out.sub HQ.out).2; rw [Nat.zero_add] at h; rw [HQ2.out]; exact h) KB.out.size (by have := HQ.out; have := HSL.out; rw [HQ2.out]; simp only [List.length_append, List.length_nil, List.length_singleton]; rw [HQ1.out]; omega) ?_; intro v3 w3 ho3 hg3 hat3; have KB := Aside.mk (below_own KB.out hg3 (fun b e => ⟨(K2.out.lt b e).1, (K2.out.lt b e).2⟩)); have K3 := Aside.mk ho3; clear ho3 hg3 hat3)
              | (have hfl := HF1; clear hfl HF1; at_builtin; refine wp_app1 (f := rulF) w.heap.size rfl _ _ _ _ _ _ rfl Try.underlying33 infoRul rfl (by decide) v1 ([] ++ S.take q) x _ rfl rfl (by go_simp) K1.out KB.out.size (by have := HQ.out; have := HSL.out; rw [List.nil_append, HQ1.out]; omega) ?_; intro v2 w2 ho2 hg2 hat2; have HN2 := Aside.mk (own_ne HN1.out (KV.out.lt g rfl).2 hat2); have KV := Aside.mk (KV.out.kept hg2 (.inr (fun h => HN1.out h.symm))); have KB := Aside.mk (below_own KB.out hg2 (fun b e => ⟨(K1.out.lt b e).1, (K1.out.lt b e).2⟩)); have K2 := Aside.mk ho2; have HF2 : Aside True := .mk trivial; clear ho2 hg2 hat2)
              | (have hfl := HF0; clear hfl HF0; at_builtin; refine wp_appRow (f := rulF) w.heap.size rfl _ _ _ _ _ _ rfl Try.underlying33 infoRul rfl (by decide) (.slice none 0 0) [] (S.take q) (some ⟨g, 0, none⟩) _ rfl (by rw [HQ1.out]; first | rfl | (rw [hq0]; rfl)) (fun h => by cases h) (Own.nil _ _ _ _) (by rw [HQ1.out]; exact (KV.out.sub HQ.out).1) KB.out.size (by have := HQ.out; have := HSL.out; rw [HQ1.out]; simp only [List.length_nil]; omega) ?_; intro v1 w1 ho1 hg1 hat1; have HN1 := Aside.mk (own_ne (by intro hc; cases hc) (KV.out.lt g rfl).2 hat1); have KV := Aside.mk (KV.out.kept hg1 (.inr (by intro hc; cases hc))); have KB := Aside.mk (below_grown' KB.out hg1); have K1 := Aside.mk ho1; have HF1 : Aside True := .mk trivial; obtain ⟨-, p0, p1, p2, p3, p4, p5⟩ := HCC.out _ KB.out; clear ho1 hg1 hat1))
            exact ⟨⟨k + 1, by omega, by go_num, fun h => absurd h (by omega), by rw [HR.out]; have h := K3.out; simpa only [List.nil_append, List.append_assoc, List.cons_append] using h, KB.out⟩, by simp [intOf]; omega⟩
          · obtain ⟨jp, hjp⟩ : ∃ jp, q = jp + 1 := ⟨q - 1, by omega⟩
            have hjl : jp < S.length := by omega
            have d0 : decide ((0 : Int) < (q : Int)) = true := decide_eq_true (by omega)
            obtain ⟨hbl0, p0, p1, p2, p3, p4, p5⟩ := HCC.out _ KB.out
            obtain ⟨q0, q1, q2, q3, q4, q5⟩ := rul_at KV.out hjl
            obtain ⟨y, hy⟩ : ∃ y, S[jp] = y := ⟨_, rfl⟩
            rw [hy] at q0 q1 q2 q3 q4 q5
            have X0 := Aside.mk p0
            have X1 := Aside.mk p1
            have X2 := Aside.mk p2
            have X3 := Aside.mk p3
            have X4 := Aside.mk p4
            have X5 := Aside.mk p5
            have Y0 := Aside.mk q0
            have Y1 := Aside.mk q1
            have Y2 := Aside.mk q2
            have Y3 := Aside.mk q3
            have Y4 := Aside.mk q4
            have Y5 := Aside.mk q5
            have hbl : b < wr.heap.size := Nat.lt_of_lt_of_le hbl0 KB.out.size
            have hgl : g < wr.heap.size := (KV.out.lt g rfl).2
            have m1 : (q : Int) - 1 = (jp : Int) := by omega
            have m2 : IntKind.i64.wrap (jp : Int) = (jp : Int) := IntWalk.i64_in _ (by have := HSL.out; omega)
            have HDR := Aside.mk (show S.drop jp = y :: S.drop q by rw [List.drop_eq_getElem_cons hjl, hy, hjp])
            have HLA := Aside.mk (fun (h : S.take q ≠ []) => show (S.take q).getLast h = y by
              have e : S.take q = S.take jp ++ [y] := by rw [hjp, List.take_succ_eq_append_getElem hjl, hy]
              simp only [e]
              simp)
            have HJP := Aside.mk hjp
            have hjq : jp < q := by omega
            clear hbx h2 p0 p1 p2 p3 p4 p5 q0 q1 q2 q3 q4 q5 hy hbl0 hjp
            go_wp2
            refine wp_region_facts (Base := orbB x y b o c l.length k g S.length vc q jp wr) (q := orbQ) (Fs := orbF x y b o c l.length k g S.length vc q jp wr) (by kernel_rfl) (by kernel_rfl) (by kernel_rfl) (by kernel_rfl) (below_drew (Below.refl _ _)) ?_ ?_
            ·
              have hBs := orbB_stay x y b o c l.length k g S.length vc q jp wr
              have hFs := orbF_stay x y b o c l.length k g S.length vc q jp wr
              refine ⟨?_, ?_, ?_, ?_, ?_, ?_, ?_, ?_, ?_, ?_, ?_, trivial⟩
              · refine step_pure hBs hFs rfl fun a' w' hB hag hp => ?_
                have h0 := hag 0 (by kernel_rfl)
                simp at h0
                unfold OpYields
                go_simp
                exact ⟨Below.refl _ _, rfl⟩
              · refine step_pure hBs hFs rfl fun a' w' hB hag hp => ?_
                have h4 := hag 4 (by kernel_rfl)
                simp at h4
                unfold OpYields
                go_simp
                exact ⟨Below.refl _ _, rfl⟩
              · refine step_pure hBs hFs rfl fun a' w' hB hag hp => ?_
                have h18 : a'.tmps.getD 18 undef = _ := hp 0 (by kernel_rfl)
                have h19 : a'.tmps.getD 19 undef = _ := hp 1 (by kernel_rfl)
                simp at h18 h19
                unfold OpYields
                go_simp
                exact ⟨Below.refl _ _, rfl⟩
              · refine step_pure hBs hFs rfl fun a' w' hB hag hp => ?_
                have h20 : a'.tmps.getD 20 undef = _ := hp 2 (by kernel_rfl)
                have hB : Below wr.heap.size wr w' := hB; have x0 := (hB.cell (p := ⟨b, o + k * 6, none⟩) hbl).trans X0.out; have x1 := (hB.cell (p := ⟨b, o + k * 6 + 1, none⟩) hbl).trans X1.out; have x2 := (hB.cell (p := ⟨b, o + k * 6 + 2, none⟩) hbl).trans X2.out; have x3 := (hB.cell (p := ⟨b, o + k * 6 + 3, none⟩) hbl).trans X3.out; have x4 := (hB.cell (p := ⟨b, o + k * 6 + 4, none⟩) hbl).trans X4.out; have x5 := (hB.cell (p := ⟨b, o + k * 6 + 5, none⟩) hbl).trans X5.out; have y0 := (hB.cell (p := ⟨g, jp * 6, none⟩) hgl).trans Y0.out; have y1 := (hB.cell (p := ⟨g, jp * 6 + 1, none⟩) hgl).trans Y1.out; have y2 := (hB.cell (p := ⟨g, jp * 6 + 2, none⟩) hgl).trans Y2.out; have y3 := (hB.cell (p := ⟨g, jp * 6 + 3, none⟩) hgl).trans Y3.out; have y4 := (hB.cell (p := ⟨g, jp * 6 + 4, none⟩) hgl).trans Y4.out; have y5 := (hB.cell (p := ⟨g, jp * 6 + 5, none⟩) hgl).trans Y5.out
                simp at h20
                unfold OpYields
                go_simp
                exact ⟨Below.refl _ _, rfl⟩
              · refine step_pure hBs hFs rfl fun a' w' hB hag hp => ?_
                have h3 := hag 3 (by kernel_rfl)
                simp at h3
                unfold OpYields
                go_simp
                exact ⟨Below.refl _ _, rfl⟩
              · refine step_pure hBs hFs rfl fun a' w' hB hag hp => ?_
                have h5 := hag 5 (by kernel_rfl)
                simp at h5
                unfold OpYields
                go_simp
                exact ⟨Below.refl _ _, rfl⟩
              · refine step_pure hBs hFs rfl fun a' w' hB hag hp => ?_
                have h23 : a'.tmps.getD 23 undef = _ := hp 5 (by kernel_rfl)
                simp at h23
                unfold OpYields
                go_simp
                exact ⟨Below.refl _ _, rfl⟩
              · refine step_pure hBs hFs rfl fun a' w' hB hag hp => ?_
                have h22 : a'.tmps.getD 22 undef = _ := hp 4 (by kernel_rfl)
                have h24 : a'.tmps.getD 24 undef = _ := hp 6 (by kernel_rfl)
                simp at h22 h24
                unfold OpYields
                go_simp
                exact ⟨Below.refl _ _, rfl⟩
              · refine step_pure hBs hFs rfl fun a' w' hB hag hp => ?_
                have h25 : a'.tmps.getD 25 undef = _ := hp 7 (by kernel_rfl)
                have hB : Below wr.heap.size wr w' := hB; have x0 := (hB.cell (p := ⟨b, o + k * 6, none⟩) hbl).trans X0.out; have x1 := (hB.cell (p := ⟨b, o + k * 6 + 1, none⟩) hbl).trans X1.out; have x2 := (hB.cell (p := ⟨b, o + k * 6 + 2, none⟩) hbl).trans X2.out; have x3 := (hB.cell (p := ⟨b, o + k * 6 + 3, none⟩) hbl).trans X3.out; have x4 := (hB.cell (p := ⟨b, o + k * 6 + 4, none⟩) hbl).trans X4.out; have x5 := (hB.cell (p := ⟨b, o + k * 6 + 5, none⟩) hbl).trans X5.out; have y0 := (hB.cell (p := ⟨g, jp * 6, none⟩) hgl).trans Y0.out; have y1 := (hB.cell (p := ⟨g, jp * 6 + 1, none⟩) hgl).trans Y1.out; have y2 := (hB.cell (p := ⟨g, jp * 6 + 2, none⟩) hgl).trans Y2.out; have y3 := (hB.cell (p := ⟨g, jp * 6 + 3, none⟩) hgl).trans Y3.out; have y4 := (hB.cell (p := ⟨g, jp * 6 + 4, none⟩) hgl).trans Y4.out; have y5 := (hB.cell (p := ⟨g, jp * 6 + 5, none⟩) hgl).trans Y5.out
                simp at h25
                unfold OpYields
                go_simp
                exact ⟨Below.refl _ _, rfl⟩
              · refine step_pure hBs hFs rfl fun a' w' hB hag hp => ?_
                have h21 : a'.tmps.getD 21 undef = _ := hp 3 (by kernel_rfl)
                have h26 : a'.tmps.getD 26 undef = _ := hp 8 (by kernel_rfl)
                simp at h21 h26
                unfold OpYields
                go_simp
                refine (before_any x y w').mono ?_
                rintro e w1 ⟨rfl, hb⟩
                exact ⟨_, rfl, hb, rfl⟩
              · refine step_pure hBs hFs rfl fun a' w' hB hag hp => ?_
                have h27 : a'.tmps.getD 27 undef = _ := hp 9 (by kernel_rfl)
                simp at h27
                unfold OpYields
                go_simp
                exact ⟨Below.refl _ _, rfl⟩
            intro vs w' hB hF
            simp only [AllF, forall_const, reduceCtorEq, false_implies, Fof, orbF, orbQ, Nat.zero_add, Nat.reduceAdd, Nat.reduceEqDiff, if_true, if_false, List.getD_cons_succ, List.getD_cons_zero] at hF
            obtain ⟨f0, f1, f2, f3, f4, f5, f6, f7, f8, f9, f10, -⟩ := hF
            simp only [putAll, Act.put, Nat.zero_add, Nat.reduceAdd, f0, f1, f2, f3, f4, f5, f6, f7, f8, f9, f10, List.setIfInBounds_toArray, List.set_cons_zero, List.set_cons_succ]
            have hB' : Below wr.heap.size wr w' := hB
            have KBX := Aside.mk (below_call KBX.out hB')
            have KB := Aside.mk (below_call KB.out hB')
            have KV := Aside.mk (KV.out.below hB')
            clear hB hB' f0 f1 f2 f3 f4 f5 f6 f7 f8 f9 f10
            by_cases hst : ltR x y
            · rw [decide_eq_true hst]
              have HLT := Aside.mk hst
              clear hst
              go_wp2
              exact ⟨⟨jp, by omega, by go_num, fun z hz => by
                rw [HDR.out] at hz
                rcases List.mem_cons.1 hz with rfl | hz
                · exact HLT.out
                · exact H2.out z hz, KBX.out⟩, by have := HJP.out; simp [intOf]; omega⟩
            · rw [decide_eq_false hst]
              have HR := Aside.mk (OUT.out (fun h => by rw [HLA.out h]; exact hst))
              clear hst
              by_cases hcq : vc = q
              · have HD0 := Aside.mk (show S.drop q = [] from List.drop_eq_nil_of_le (by omega))
                have hcq' := hcq.symm
                clear hcq
                subst hcq'
                have HQ3 := Aside.mk (show S.length - q = 0 by omega)
                obtain ⟨-, p0, p1, p2, p3, p4, p5⟩ := HCC.out _ KB.out
                go_wp2_with (first
                  | (have hfl := HF2; clear hfl HF2; at_builtin; refine wp_appRow (f := rulF) w.heap.size rfl _ _ _ _ _ _ rfl Try.underlying33 infoRul rfl (by decide) v2 ([] ++ S.take q ++ [x]) (S.drop q) (some ⟨g, 0, none⟩) _ rfl (by rw [HD0.out]; rfl) (fun h => by cases h) K2.out (by rw [HD0.out]; exact Rd.nil _ _ _) KB.out.size (by have := HQ.out; have := HSL.out; rw [HQ2.out]; simp only [List.length_append, List.length_nil, List.length_singleton]; rw [HQ1.out]; omega) ?_; intro v3 w3 ho3 hg3 hat3; have KB := Aside.mk (below_own KB.out hg3 (fun b e => ⟨(K2.out.lt b e).1, (K2.out.lt b e).2⟩)); have K3 := Aside.mk ho3; clear ho3 hg3 hat3)
                  | (have hfl := HF1; clear hfl HF1; at_builtin; refine wp_app1 (f := rulF) w.heap.size rfl _ _ _ _ _ _ rfl Try.underlying33 infoRul rfl (by decide) v1 ([] ++ S.take q) x _ rfl rfl (by go_simp) K1.out KB.out.size (by have := HQ.out; have := HSL.out; rw [List.nil_append, HQ1.out]; omega) ?_; intro v2 w2 ho2 hg2 hat2; have HN2 := Aside.mk (own_ne HN1.out (KV.out.lt g rfl).2 hat2); have KV := Aside.mk (KV.out.kept hg2 (.inr (fun h => HN1.out h.symm))); have KB := Aside.mk (below_own KB.out hg2 (fun b e => ⟨(K1.out.lt b e).1, (K1.out.lt b e).2⟩)); have K2 := Aside.mk ho2; have HF2 : Aside True := .mk trivial; clear ho2 hg2 hat2)
                  | (have hfl := HF0; clear hfl HF0; at_builtin; refine wp_appRow (f := rulF) w.heap.size rfl _ _ _ _ _ _ rfl Try.underlying33 infoRul rfl (by decide) (.slice none 0 0) [] (S.take q) (some ⟨g, 0, none⟩) _ rfl (by rw [HQ1.out]; first | rfl | (rw [hq0]; rfl)) (fun h => by cases h) (Own.nil _ _ _ _) (by rw [HQ1.out]; exact (KV.out.sub HQ.out).1) KB.out.size (by have := HQ.out; have := HSL.out; rw [HQ1.out]; simp only [List.length_nil]; omega) ?_; intro v1 w1 ho1 hg1 hat1; have HN1 := Aside.mk (own_ne (by intro hc; cases hc) (KV.out.lt g rfl).2 hat1); have KV := Aside.mk (KV.out.kept hg1 (.inr (by intro hc; cases hc))); have KB := Aside.mk (below_grown' KB.out hg1); have K1 := Aside.mk ho1; have HF1 : Aside True := .mk trivial; obtain ⟨-, p0, p1, p2, p3, p4, p5⟩ := HCC.out _ KB.out; clear ho1 hg1 hat1))
                exact ⟨⟨k + 1, by omega, by go_num, fun h => absurd h (by omega), by rw [HR.out]; have h := K3.out; simpa only [List.nil_append, List.append_assoc, List.cons_append] using h, KB.out⟩, by simp [intOf]; omega⟩
              · have hcq2 : ¬ vc - q = 0 := by omega
                obtain ⟨-, p0, p1, p2, p3, p4, p5⟩ := HCC.out _ KB.out
                go_wp2_with (first
                  | (have hfl := HF2; clear hfl HF2; at_builtin; refine wp_appRow (f := rulF) w.heap.size rfl _ _ _ _ _ _ rfl Try.underlying33 infoRul rfl (by decide) v2 ([] ++ S.take q ++ [x]) (S.drop q) (some ⟨g, q * 6, none⟩) (vc - q) rfl (by rw [HQ2.out]; first | rfl | (rw [hq0]; simp; rfl) | (rw [hq0]; simp)) (fun h => by cases h) K2.out (by have h := (KV.out.sub HQ.out).2; rw [Nat.zero_add] at h; rw [HQ2.out]; exact h) KB.out.size (by have := HQ.out; have := HSL.out; rw [HQ2.out]; simp only [List.length_append, List.length_nil, List.length_singleton]; rw [HQ1.out]; omega) ?_; intro v3 w3 ho3 hg3 hat3; have KB := Aside.mk (below_own KB.out hg3 (fun b e => ⟨(K2.out.lt b e).1, (K2.out.lt b e).2⟩)); have K3 := Aside.mk ho3; clear ho3 hg3 hat3)
                  | (have hfl := HF1; clear hfl HF1; at_builtin; refine wp_app1 (f := rulF) w.heap.size rfl _ _ _ _ _ _ rfl Try.underlying33 infoRul rfl (by decide) v1 ([] ++ S.take q) x _ rfl rfl (by go_simp) K1.out KB.out.size (by have := HQ.out; have := HSL.out; rw [List.nil_append, HQ1.out]; omega) ?_; intro v2 w2 ho2 hg2 hat2; have HN2 := Aside.mk (own_ne HN1.out (KV.out.lt g rfl).2 hat2); have KV := Aside.mk (KV.out.kept hg2 (.inr (fun h => HN1.out h.symm))); have KB := Aside.mk (below_own KB.out hg2 (fun b e => ⟨(K1.out.lt b e).1, (K1.out.lt b e).2⟩)); have K2 := Aside.mk ho2; have HF2 : Aside True := .mk trivial; clear ho2 hg2 hat2)
                  | (have hfl := HF0; clear hfl HF0; at_builtin; refine wp_appRow (f := rulF) w.heap.size rfl _ _ _ _ _ _ rfl Try.underlying33 infoRul rfl (by decide) (.slice none 0 0) [] (S.take q) (some ⟨g, 0, none⟩) _ rfl (by rw [HQ1.out]; first | rfl | (rw [hq0]; rfl)) (fun h => by cases h) (Own.nil _ _ _ _) (by rw [HQ1.out]; exact (KV.out.sub HQ.out).1) KB.out.size (by have := HQ.out; have := HSL.out; rw [HQ1.out]; simp only [List.length_nil]; omega) ?_; intro v1 w1 ho1 hg1 hat1; have HN1 := Aside.mk (own_ne (by intro hc; cases hc) (KV.out.lt g rfl).2 hat1); have KV := Aside.mk (KV.out.kept hg1 (.inr (by intro hc; cases hc))); have KB := Aside.mk (below_grown' KB.out hg1); have K1 := Aside.mk ho1; have HF1 : Aside True := .mk trivial; obtain ⟨-, p0, p1, p2, p3, p4, p5⟩ := HCC.out _ KB.out; clear ho1 hg1 hat1))
                exact ⟨⟨k + 1, by omega, by go_num, fun h => absurd h (by omega), by rw [HR.out]; have h := K3.out; simpa only [List.nil_append, List.append_assoc, List.cons_append] using h, KB.out⟩, by simp [intOf]; omega⟩
    · obtain rfl : k = l.length := by omega
      rw [List.take_length] at KV
      clear hb hv hv0
      go_wp2
      go_ret
      exact ⟨_, rfl, KV.out, KB.out⟩
end Go.Proofs.Ytlnnkkbcmidddaa
