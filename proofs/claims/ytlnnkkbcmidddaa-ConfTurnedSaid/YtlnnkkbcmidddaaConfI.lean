/- The walk through ConfTurned. -/
import Derived.Test.YtlnnkkbcmidddaaConfH
namespace Go.Proofs.Ytlnnkkbcmidddaa
open Go.RowKit
set_option maxRecDepth 100000
def ctaB (A : Option Addr) (n c k : Nat) (A' : Option Addr) (nl n' : Nat) (pa : Addr) (mm : Nat) (va vb : Value) (l2 l3 : List Rul) (v8 : Value) (hs : List Hdr) (bw : Nat) (wr : World) (w' : World) : Prop :=
  wr.grownBy w' v8.ownBlock
def ctaF (A : Option Addr) (n c k : Nat) (A' : Option Addr) (nl n' : Nat) (pa : Addr) (mm : Nat) (va vb : Value) (l2 l3 : List Rul) (v8 : Value) (hs : List Hdr) (bw : Nat) (wr : World) : List (Value → Value → World → Prop) :=
  [fun _ v _ => v = v8,
   fun _ v _ => v = .slice A n c,
   fun _ v _ => v = .int .i64 k,
   fun _ v _ => v = .pointer (some pa),
   fun _ v _ => v = .slice A' nl n',
   fun _ v _ => v = .int .i64 mm,
   fun _ v _ => v = va,
   fun _ v w' => Own rulF w' wr.heap.size 58 v l2,
   fun _ v _ => v = .slice A n c,
   fun _ v _ => v = .int .i64 k,
   fun _ v _ => v = .pointer (some pa),
   fun _ v _ => v = .slice A' nl n',
   fun _ v _ => v = .int .i64 mm,
   fun _ v _ => v = vb,
   fun _ v w' => Own rulF w' wr.heap.size 58 v l3,
   fun u v w' => ∃ g h, u = hdrV h ∧ v = .slice (some ⟨g, 0, none⟩) 1 1 ∧ wr.heap.size ≤ g ∧ w'.heap[g]? = some (.cells #[hdrV h] 33),
   fun u v w' => ∃ g h, u = .slice (some ⟨g, 0, none⟩) 1 1 ∧ w'.heap[g]? = some (.cells #[hdrV h] 33) ∧ Own hdrF w' bw 33 v (hs ++ [h]),
   fun u v _ => v = u]
def ctaQ : Nat → Nat := fun i => if i = 15 then 14 else if i = 16 then 15 else if i = 17 then 16 else i
def ctaK : Nat → Option Nat := fun i => if i = 7 then some 14 else none
def ctaS (A : Option Addr) (n c k : Nat) (A' : Option Addr) (nl n' : Nat) (pa : Addr) (mm : Nat) (va vb : Value) (l2 l3 : List Rul) (v8 : Value) (hs : List Hdr) (bw : Nat) (wr : World) (w' : World) : Prop :=
  Own hdrF w' bw 33 v8 hs
theorem ctaS_stay (A : Option Addr) (n c k : Nat) (A' : Option Addr) (nl n' : Nat) (pa : Addr) (mm : Nat) (va vb : Value) (l2 l3 : List Rul) (v8 : Value) (hs : List Hdr) (bw : Nat) (wr : World) : Stays (ctaS A n c k A' nl n' pa mm va vb l2 l3 v8 hs bw wr) := by
  intro w' w'' hb h
  exact h.below hb
theorem ctaF_stay (A : Option Addr) (n c k : Nat) (A' : Option Addr) (nl n' : Nat) (pa : Addr) (mm : Nat) (va vb : Value) (l2 l3 : List Rul) (v8 : Value) (hs : List Hdr) (bw : Nat) (wr : World) : AllStay (ctaF A n c k A' nl n' pa mm va vb l2 l3 v8 hs bw wr) := by
  intro F hF u v w' w'' hb h
  simp only [ctaF, List.mem_cons, List.not_mem_nil, or_false] at hF
  rcases hF with rfl | rfl | rfl | rfl | rfl | rfl | rfl | rfl | rfl | rfl | rfl | rfl | rfl | rfl | rfl | rfl | rfl | rfl
  · exact h
  · exact h
  · exact h
  · exact h
  · exact h
  · exact h
  · exact h
  · exact h.below hb
  · exact h
  · exact h
  · exact h
  · exact h
  · exact h
  · exact h
  · exact h.below hb
  · obtain ⟨g, h, e1, e2, e3, e4⟩ := h
    exact ⟨g, h, e1, e2, e3, blk_keep e4 hb⟩
  · obtain ⟨g, h, e1, e2, e3⟩ := h
    exact ⟨g, h, e1, blk_keep e2 hb, e3.below hb⟩
  · exact h
theorem ctaB_stay (A : Option Addr) (n c k : Nat) (A' : Option Addr) (nl n' : Nat) (pa : Addr) (mm : Nat) (va vb : Value) (l2 l3 : List Rul) (v8 : Value) (hs : List Hdr) (bw : Nat) (wr : World) : Stays (ctaB A n c k A' nl n' pa mm va vb l2 l3 v8 hs bw wr) := by
  intro w' w'' hb h
  exact h.trans (grown_of_below hb _)
set_option maxHeartbeats 1000000 in
theorem confTurned_not (s p : Int) (A : Option Addr) (c : Nat) (ls : List Lnk) (B : Option Addr) (d : Nat) (cs : List (List Rul)) (by_ : Int) (w : World) (hl : Rd lnkD w A ls.length ls) (hT : FitT s p c ls) (hx : Rd confD w B cs.length cs) (hFx : ∀ l ∈ cs, ∀ r ∈ l, FitR r) (hdx : cs.length ≤ d) (hby : Fit by_) (hm : mayC s p ls cs = false) : Calls Try.prog 4 #[.agg #[.int .i64 s, .int .i64 p, .slice A ls.length c], .slice B cs.length d, .int .i64 by_] w fun e w' => e = .returned (.bool true) ∧ Below w.heap.size w w' := by
  have HL := Aside.mk hl; have HA := Aside.mk hx; have hmx := hl.max; have hmy := hx.max; have KB := Aside.mk (below_alloc (Below.refl _ w) (.cells #[.int .i64 s, .int .i64 p, .slice A ls.length c] 24)); have HX := Aside.mk (heapN w (.cells #[.int .i64 s, .int .i64 p, .slice A ls.length c] 24) rfl); clear hl hT hx hFx hdx
  have HM := Aside.mk hm
  clear hm hby
  go_enter Try.func4, Try.ntmps4
  go_wp2_with (first | (go_at_call 16; refine (awake12_any _).mono ?_; rintro e1 w1 ⟨rfl, hb1⟩; have KB := Aside.mk (below_call KB.out hb1); have HX := Aside.mk (blk_keep HX.out hb1); have hlx := blk_lt HX.out; have t0 := blk_cell HX.out 0; have t1 := blk_cell HX.out 1; have t2 := blk_cell HX.out 2; simp at t0 t1 t2; clear hb1) | (go_at_call 12; refine (confMay_any s p A c ls cs B d _ (HL.out.below KB.out) (HA.out.below KB.out)).mono ?_; rw [HM.out]; rintro e3 w3 ⟨rfl, hb1⟩; have KB := Aside.mk (below_call KB.out hb1); have HX := Aside.mk (blk_keep HX.out hb1); clear t0 t1 t2 hlx; clear hb1))
  go_ret
  exact ⟨rfl, KB.out⟩
set_option maxHeartbeats 1000000 in
theorem confTurned_lo (s p : Int) (A : Option Addr) (c : Nat) (ls : List Lnk) (B : Option Addr) (d : Nat) (cs : List (List Rul)) (by_ : Int) (w : World) (hl : Rd lnkD w A ls.length ls) (hT : FitT s p c ls) (hx : Rd confD w B cs.length cs) (hFx : ∀ l ∈ cs, ∀ r ∈ l, FitR r) (hdx : cs.length ≤ d) (hby : Fit by_) (hm : mayC s p ls cs = true) (h1 : by_ < 0) : Calls Try.prog 4 #[.agg #[.int .i64 s, .int .i64 p, .slice A ls.length c], .slice B cs.length d, .int .i64 by_] w fun e w' => e = .returned (.bool true) ∧ Below w.heap.size w w' := by
  have HL := Aside.mk hl; have HA := Aside.mk hx; have hmx := hl.max; have hmy := hx.max; have KB := Aside.mk (below_alloc (Below.refl _ w) (.cells #[.int .i64 s, .int .i64 p, .slice A ls.length c] 24)); have HX := Aside.mk (heapN w (.cells #[.int .i64 s, .int .i64 p, .slice A ls.length c] 24) rfl); clear hl hT hx hFx hdx
  have HM := Aside.mk hm
  have d1 : decide (by_ < 0) = true := decide_eq_true h1
  clear hm h1 hby
  go_enter Try.func4, Try.ntmps4
  go_wp2_with (first | (go_at_call 16; refine (awake12_any _).mono ?_; rintro e1 w1 ⟨rfl, hb1⟩; have KB := Aside.mk (below_call KB.out hb1); have HX := Aside.mk (blk_keep HX.out hb1); have hlx := blk_lt HX.out; have t0 := blk_cell HX.out 0; have t1 := blk_cell HX.out 1; have t2 := blk_cell HX.out 2; simp at t0 t1 t2; clear hb1) | (go_at_call 12; refine (confMay_any s p A c ls cs B d _ (HL.out.below KB.out) (HA.out.below KB.out)).mono ?_; rw [HM.out]; rintro e3 w3 ⟨rfl, hb1⟩; have KB := Aside.mk (below_call KB.out hb1); have HX := Aside.mk (blk_keep HX.out hb1); clear t0 t1 t2 hlx; clear hb1))
  go_ret
  exact ⟨rfl, KB.out⟩
set_option maxHeartbeats 1000000 in
theorem confTurned_hi (s p : Int) (A : Option Addr) (c : Nat) (ls : List Lnk) (B : Option Addr) (d : Nat) (cs : List (List Rul)) (by_ : Int) (w : World) (hl : Rd lnkD w A ls.length ls) (hT : FitT s p c ls) (hx : Rd confD w B cs.length cs) (hFx : ∀ l ∈ cs, ∀ r ∈ l, FitR r) (hdx : cs.length ≤ d) (hby : Fit by_) (hm : mayC s p ls cs = true) (h1 : ¬ by_ < 0) (h2 : 100 < by_) : Calls Try.prog 4 #[.agg #[.int .i64 s, .int .i64 p, .slice A ls.length c], .slice B cs.length d, .int .i64 by_] w fun e w' => e = .returned (.bool true) ∧ Below w.heap.size w w' := by
  have HL := Aside.mk hl; have HA := Aside.mk hx; have hmx := hl.max; have hmy := hx.max; have KB := Aside.mk (below_alloc (Below.refl _ w) (.cells #[.int .i64 s, .int .i64 p, .slice A ls.length c] 24)); have HX := Aside.mk (heapN w (.cells #[.int .i64 s, .int .i64 p, .slice A ls.length c] 24) rfl); clear hl hT hx hFx hdx
  have HM := Aside.mk hm
  have d1 : decide (by_ < 0) = false := decide_eq_false h1
  have d2 : decide (100 < by_) = true := decide_eq_true h2
  clear hm h1 h2 hby
  go_enter Try.func4, Try.ntmps4
  go_wp2_with (first | (go_at_call 16; refine (awake12_any _).mono ?_; rintro e1 w1 ⟨rfl, hb1⟩; have KB := Aside.mk (below_call KB.out hb1); have HX := Aside.mk (blk_keep HX.out hb1); have hlx := blk_lt HX.out; have t0 := blk_cell HX.out 0; have t1 := blk_cell HX.out 1; have t2 := blk_cell HX.out 2; simp at t0 t1 t2; clear hb1) | (go_at_call 12; refine (confMay_any s p A c ls cs B d _ (HL.out.below KB.out) (HA.out.below KB.out)).mono ?_; rw [HM.out]; rintro e3 w3 ⟨rfl, hb1⟩; have KB := Aside.mk (below_call KB.out hb1); have HX := Aside.mk (blk_keep HX.out hb1); clear t0 t1 t2 hlx; clear hb1))
  go_ret
  exact ⟨rfl, KB.out⟩
theorem turn_snoc {cs : List (List Rul)} {k : Nat} (n : Nat) (h : k < cs.length) : (cs.take (k + 1)).map (turnL n) = (cs.take k).map (turnL n) ++ [turnL n cs[k]] := by
  rw [List.take_succ_eq_append_getElem h, List.map_append]
  rfl
set_option maxHeartbeats 2000000 in
theorem confTurned_main (s p : Int) (A : Option Addr) (c : Nat) (ls : List Lnk) (B : Option Addr) (d : Nat) (cs : List (List Rul)) (by_ : Int) (w : World) (hl : Rd lnkD w A ls.length ls) (hT : FitT s p c ls) (hx : Rd confD w B cs.length cs) (hFx : ∀ l ∈ cs, ∀ r ∈ l, FitR r) (hdx : cs.length ≤ d) (hby : Fit by_) (hm : mayC s p ls cs = true) (bn : Nat) (h1 : by_ = (bn : Int)) (h2 : bn ≤ 100) : Calls Try.prog 4 #[.agg #[.int .i64 s, .int .i64 p, .slice A ls.length c], .slice B cs.length d, .int .i64 by_] w fun e w' => e = .returned (.bool true) ∧ Below w.heap.size w w' := by
  subst h1
  have HL := Aside.mk hl; have HA := Aside.mk hx; have hmx := hl.max; have hmy := hx.max; have KB := Aside.mk (below_alloc (Below.refl _ w) (.cells #[.int .i64 s, .int .i64 p, .slice A ls.length c] 24)); have HX := Aside.mk (heapN w (.cells #[.int .i64 s, .int .i64 p, .slice A ls.length c] 24) rfl); clear hl hT hx hFx hdx
  have HM := Aside.mk hm
  have H6 : Aside (cs.length ≤ 6 ∧ ∀ l ∈ cs, l.length ≤ 40) := .mk (by
    obtain ⟨h1, h2, h3⟩ := mayC_parts hm
    have := mayT_bounds h1
    exact ⟨by omega, fun l hl => rulesP_len (h3 l hl)⟩)
  have HMT := Aside.mk (may_turn bn hm)
  have d1 : decide ((bn : Int) < 0) = false := decide_eq_false (by omega)
  have d2 : decide (100 < (bn : Int)) = false := decide_eq_false (by omega)
  clear hm hby
  go_enter Try.func4, Try.ntmps4
  go_wp2_with (first | (go_at_call 16; refine (awake12_any _).mono ?_; rintro e1 w1 ⟨rfl, hb1⟩; have KB := Aside.mk (below_call KB.out hb1); have HX := Aside.mk (blk_keep HX.out hb1); have hlx := blk_lt HX.out; have t0 := blk_cell HX.out 0; have t1 := blk_cell HX.out 1; have t2 := blk_cell HX.out 2; simp at t0 t1 t2; clear hb1) | (go_at_call 12; refine (confMay_any s p A c ls cs B d _ (HL.out.below KB.out) (HA.out.below KB.out)).mono ?_; rw [HM.out]; rintro e3 w3 ⟨rfl, hb1⟩; have KB := Aside.mk (below_call KB.out hb1); have HX := Aside.mk (blk_keep HX.out hb1); clear t0 t1 t2 hlx; clear hb1))
  clear d1 d2
  go_loopw [8, 9] (fun v i wr => ∃ (k : Nat) (hs : List Hdr), k ≤ cs.length ∧ i = .int .i64 k ∧ Own hdrF wr w.heap.size 33 v hs ∧ Hdrs wr w.heap.size hs ((cs.take k).map (turnL bn)) ∧ Below w.heap.size w wr ∧ wr.heap[w.heap.size]? = some (.cells #[.int .i64 s, .int .i64 p, .slice A ls.length c] 24)) (fun _ i _ => cs.length - (intOf i).toNat)
  case atStart => exact ⟨0, [], Nat.zero_le _, rfl, Own.nil _ _ _ _, Hdrs.nil _ _, KB.out, HX.out⟩
  case round =>
    obtain ⟨k, hs, hk, rfl, ho, hh, hb, hx⟩ := hrel
    obtain ⟨A8, c8, rfl, -⟩ := ho.form
    have HHS : Aside (hs.length ≤ 6) := .mk (by have := H6.out.1; rw [← hh.1, List.length_map, List.length_take]; omega)
    have KO := Aside.mk ho
    have KH := Aside.mk hh
    have KB := Aside.mk hb
    have HX := Aside.mk hx
    clear ho hh hx
    by_cases hlt : k < cs.length
    · obtain ⟨b, o, A', n', rfl, hbl, hcell, hn1, hn2, hr⟩ := conf_cell HA.out hb hlt
      have HT := Aside.mk (turn_snoc bn hlt)
      have h40 := H6.out.2 _ (List.getElem_mem hlt)
      obtain ⟨x, hx⟩ : ∃ x, cs[k] = x := ⟨_, rfl⟩
      rw [hx] at HT h40 hcell hn1 hr
      have HR := Aside.mk hr
      have hbne : some b ≠ (Value.slice A8 hs.length c8).ownBlock := fun e => by
        have := (KO.out.lt b e.symm).1
        omega
      have C0 := Aside.mk hcell
      have hbl : b < wr.heap.size := Nat.lt_of_lt_of_le hbl hb.size
      have HN2 := Aside.mk hn2
      clear hx hr hn2 hb
      by_cases hx0 : 0 < x.length
      · obtain ⟨b3, o3, _, rfl, -⟩ := Row.at HR.out 0 hx0
        have hm1 : bn % x.length < x.length := Nat.mod_lt _ hx0
        have hmod : ((bn : Int) % (x.length : Int)) = ((bn % x.length : Nat) : Int) := by push_cast; rfl
        obtain ⟨m, hm⟩ : ∃ m, bn % x.length = m := ⟨_, rfl⟩
        rw [hm] at hm1 hmod
        have HTM := Aside.mk hm
        clear hm
        have e1 : m ≤ x.length := Nat.le_of_lt hm1
        have e2 : m ≤ n' := Nat.le_trans e1 hn1
        have e3 : ¬ n' = m := by omega
        have HLN : Aside ((x.drop m).length + (x.take m).length ≤ 40 ∧ (x.drop m).length ≤ 40) := .mk (by rw [List.length_drop, List.length_take]; omega)
        have E2 := Aside.mk (show Value.slice (some ⟨b3, o3 + m * 6, none⟩) (x.length - m) (n' - m) = .slice (some ⟨b3, o3 + m * 6, none⟩) (x.drop m).length (n' - m) by rw [List.length_drop])
        have E1 := Aside.mk (show Value.slice (some ⟨b3, o3, none⟩) m n' = .slice (some ⟨b3, o3, none⟩) (x.take m).length n' by rw [List.length_take, Nat.min_eq_left (Nat.le_of_lt hm1)])
        have RD2 := Aside.mk (show Rd rulD w (some ⟨b3, o3 + m * 6, none⟩) (x.drop m).length (x.drop m) by rw [List.length_drop]; exact HR.out.drop (Nat.le_of_lt hm1))
        have RD1 := Aside.mk (show Rd rulD w (some ⟨b3, o3, none⟩) (x.take m).length (x.take m) by rw [List.length_take, Nat.min_eq_left (Nat.le_of_lt hm1)]; exact HR.out.take (Nat.le_of_lt hm1))
        obtain ⟨y, hy⟩ : ∃ y, x.drop m ++ x.take m = y := ⟨_, rfl⟩
        have HMM := Aside.mk hy
        have HY : Aside (turnL bn x = y) := .mk (by rw [← hy, ← HTM.out]; rfl)
        clear hy
        go_wp2
        refine wp_region_facts_klK (Base := ctaB (some ⟨b, o, none⟩) cs.length d k (some ⟨b3, o3, none⟩) x.length n' ⟨b, o + k, none⟩ m (.slice (some ⟨b3, o3 + m * 6, none⟩) (x.length - m) (n' - m)) (.slice (some ⟨b3, o3, none⟩) m n') (x.drop m) y (.slice A8 hs.length c8) hs w.heap.size wr) 16 (ctaS (some ⟨b, o, none⟩) cs.length d k (some ⟨b3, o3, none⟩) x.length n' ⟨b, o + k, none⟩ m (.slice (some ⟨b3, o3 + m * 6, none⟩) (x.length - m) (n' - m)) (.slice (some ⟨b3, o3, none⟩) m n') (x.drop m) y (.slice A8 hs.length c8) hs w.heap.size wr) ctaQ ctaK (Fs := ctaF (some ⟨b, o, none⟩) cs.length d k (some ⟨b3, o3, none⟩) x.length n' ⟨b, o + k, none⟩ m (.slice (some ⟨b3, o3 + m * 6, none⟩) (x.length - m) (n' - m)) (.slice (some ⟨b3, o3, none⟩) m n') (x.drop m) y (.slice A8 hs.length c8) hs w.heap.size wr) (by kernel_rfl) (by kernel_rfl) (by kernel_rfl) (by kernel_rfl) (grown_of_below (below_drew (Below.refl _ _)) _) KO.out.drew ?_ ?_
        ·
          have hSs := ctaS_stay (some ⟨b, o, none⟩) cs.length d k (some ⟨b3, o3, none⟩) x.length n' ⟨b, o + k, none⟩ m (.slice (some ⟨b3, o3 + m * 6, none⟩) (x.length - m) (n' - m)) (.slice (some ⟨b3, o3, none⟩) m n') (x.drop m) y (.slice A8 hs.length c8) hs w.heap.size wr
          have hBs := ctaB_stay (some ⟨b, o, none⟩) cs.length d k (some ⟨b3, o3, none⟩) x.length n' ⟨b, o + k, none⟩ m (.slice (some ⟨b3, o3 + m * 6, none⟩) (x.length - m) (n' - m)) (.slice (some ⟨b3, o3, none⟩) m n') (x.drop m) y (.slice A8 hs.length c8) hs w.heap.size wr
          have hFs := ctaF_stay (some ⟨b, o, none⟩) cs.length d k (some ⟨b3, o3, none⟩) x.length n' ⟨b, o + k, none⟩ m (.slice (some ⟨b3, o3 + m * 6, none⟩) (x.length - m) (n' - m)) (.slice (some ⟨b3, o3, none⟩) m n') (x.drop m) y (.slice A8 hs.length c8) hs w.heap.size wr
          refine ⟨?_, ?_, ?_, ?_, ?_, ?_, ?_, ?_, ?_, ?_, ?_, ?_, ?_, ?_, ?_, ?_, ?_, ?_, trivial⟩
          · refine step_pureK hBs hSs hFs rfl fun a' w' hB hag hp hS => ?_
            have h8 := hag 8 (by kernel_rfl)
            simp at h8
            unfold OpYields
            go_simp
            exact ⟨Below.refl _ _, rfl⟩
          · refine step_pureK hBs hSs hFs rfl fun a' w' hB hag hp hS => ?_
            have h1 := hag 1 (by kernel_rfl)
            simp at h1
            unfold OpYields
            go_simp
            exact ⟨Below.refl _ _, rfl⟩
          · refine step_pureK hBs hSs hFs rfl fun a' w' hB hag hp hS => ?_
            have h9 := hag 9 (by kernel_rfl)
            simp at h9
            unfold OpYields
            go_simp
            exact ⟨Below.refl _ _, rfl⟩
          · refine step_pureK hBs hSs hFs rfl fun a' w' hB hag hp hS => ?_
            have h49 : a'.tmps.getD 49 undef = _ := hp 1 (by kernel_rfl)
            have h50 : a'.tmps.getD 50 undef = _ := hp 2 (by kernel_rfl)
            simp at h49 h50
            unfold OpYields
            go_simp
            exact ⟨Below.refl _ _, rfl⟩
          · refine step_pureK hBs hSs hFs rfl fun a' w' hB hag hp hS => ?_
            have h51 : a'.tmps.getD 51 undef = _ := hp 3 (by kernel_rfl)
            have hB0 : wr.grownBy w' (Value.slice A8 hs.length c8).ownBlock := hB; have c0 := (World.cell?_of_block (hB0.block b hbl hbne) : w'.cell? ⟨b, o + k, none⟩ = _).trans C0.out
            simp at h51
            unfold OpYields
            go_simp
            exact ⟨Below.refl _ _, rfl⟩
          · refine step_pureK hBs hSs hFs rfl fun a' w' hB hag hp hS => ?_
            have h10 := hag 10 (by kernel_rfl)
            simp at h10
            unfold OpYields
            go_simp
            exact ⟨Below.refl _ _, rfl⟩
          · refine step_pureK hBs hSs hFs rfl fun a' w' hB hag hp hS => ?_
            have h52 : a'.tmps.getD 52 undef = _ := hp 4 (by kernel_rfl)
            have h53 : a'.tmps.getD 53 undef = _ := hp 5 (by kernel_rfl)
            simp at h52 h53
            unfold OpYields
            go_simp
            exact ⟨Below.refl _ _, rfl⟩
          · refine step_pureK hBs hSs hFs rfl fun a' w' hB hag hp hS => ?_
            have h54 : a'.tmps.getD 54 undef = _ := hp 6 (by kernel_rfl)
            have hB0 : wr.grownBy w' (Value.slice A8 hs.length c8).ownBlock := hB
            have hW := below_own KB.out hB0 (fun b e => ⟨(KO.out.lt b e).1, (KO.out.lt b e).2⟩)
            refine (yields_appRow (f := rulF) wr.heap.size (.const (.slice none 0 0)) (.tmp 54) _ _ _ _ rfl Try.underlying33 infoRul rfl (by decide) (.slice none 0 0) [] (x.drop m) (some ⟨b3, o3 + m * 6, none⟩) (n' - m) rfl (by show a'.tmps.getD 54 undef = _; rw [h54, E2.out]) (fun h => by cases h) (Own.nil _ _ _ _) (RD2.out.below hW) hB0.size (by have := HLN.out; (try simp); (try omega))).mono ?_
            rintro v w1 ⟨ho, hg, _⟩
            exact ⟨below_of_grown hg, ho⟩
          · refine step_pureK hBs hSs hFs rfl fun a' w' hB hag hp hS => ?_
            have h1 := hag 1 (by kernel_rfl)
            simp at h1
            unfold OpYields
            go_simp
            exact ⟨Below.refl _ _, rfl⟩
          · refine step_pureK hBs hSs hFs rfl fun a' w' hB hag hp hS => ?_
            have h9 := hag 9 (by kernel_rfl)
            simp at h9
            unfold OpYields
            go_simp
            exact ⟨Below.refl _ _, rfl⟩
          · refine step_pureK hBs hSs hFs rfl fun a' w' hB hag hp hS => ?_
            have h56 : a'.tmps.getD 56 undef = _ := hp 8 (by kernel_rfl)
            have h57 : a'.tmps.getD 57 undef = _ := hp 9 (by kernel_rfl)
            simp at h56 h57
            unfold OpYields
            go_simp
            exact ⟨Below.refl _ _, rfl⟩
          · refine step_pureK hBs hSs hFs rfl fun a' w' hB hag hp hS => ?_
            have h58 : a'.tmps.getD 58 undef = _ := hp 10 (by kernel_rfl)
            have hB0 : wr.grownBy w' (Value.slice A8 hs.length c8).ownBlock := hB; have c0 := (World.cell?_of_block (hB0.block b hbl hbne) : w'.cell? ⟨b, o + k, none⟩ = _).trans C0.out
            simp at h58
            unfold OpYields
            go_simp
            exact ⟨Below.refl _ _, rfl⟩
          · refine step_pureK hBs hSs hFs rfl fun a' w' hB hag hp hS => ?_
            have h10 := hag 10 (by kernel_rfl)
            simp at h10
            unfold OpYields
            go_simp
            exact ⟨Below.refl _ _, rfl⟩
          · refine step_pureK hBs hSs hFs rfl fun a' w' hB hag hp hS => ?_
            have h59 : a'.tmps.getD 59 undef = _ := hp 11 (by kernel_rfl)
            have h60 : a'.tmps.getD 60 undef = _ := hp 12 (by kernel_rfl)
            simp at h59 h60
            unfold OpYields
            go_simp
            exact ⟨Below.refl _ _, rfl⟩
          · intro a' w' hB hag hp hS
            rw [if_pos (by simp [Region.wanted])]
            have hB0 : wr.grownBy w' (Value.slice A8 hs.length c8).ownBlock := hB
            have hW := below_own KB.out hB0 (fun b e => ⟨(KO.out.lt b e).1, (KO.out.lt b e).2⟩)
            have h55 : Own rulF w' wr.heap.size 58 (a'.tmps.getD 55 undef) (x.drop m) := hp 7 (by kernel_rfl)
            have h61 : a'.tmps.getD 61 undef = _ := hp 13 (by kernel_rfl)
            refine (yields_appRow (f := rulF) wr.heap.size (.tmp 55) (.tmp 61) _ _ _ _ rfl Try.underlying33 infoRul rfl (by decide) (a'.tmps.getD 55 undef) (x.drop m) (x.take m) (some ⟨b3, o3, none⟩) n' rfl (by show a'.tmps.getD 61 undef = _; rw [h61, E1.out]) (fun h => by cases h) h55 (RD1.out.below hW) hB0.size (by have := HLN.out; omega)).mono ?_
            rintro v w1 ⟨ho, hg, _⟩
            refine ⟨hB0.andThen hg (fun j e => .inl (h55.lt j e).1), fun _ h => Own.kept h hg (Own.apart2 h h55 (by decide)), HMM.out ▸ ho, ?_⟩
            intro j vs hj hjk hF
            unfold Fof at *
            match j, hj, hjk with
            | 0, _, _ | 1, _, _ | 2, _, _ | 3, _, _ | 4, _, _ | 5, _, _ | 6, _, _ | 8, _, _ | 9, _, _ | 10, _, _ | 11, _, _ | 12, _, _ | 13, _, _ | 17, _, _ => exact hF
            | 7, _, h => exact absurd rfl h
            | 15, _, _ =>
              obtain ⟨g, h, e1, e2, e3, e4⟩ : ∃ g h, vs 14 = hdrV h ∧ vs 15 = .slice (some ⟨g, 0, none⟩) 1 1 ∧ wr.heap.size ≤ g ∧ w'.heap[g]? = some (.cells #[hdrV h] 33) := hF
              exact ⟨g, h, e1, e2, e3, (hg.block g (blk_lt e4) (fun e => h55.ne_type e4 (by decide) e.symm)).trans e4⟩
            | 16, _, _ =>
              obtain ⟨g, h, e1, e2, e3⟩ : ∃ g h, vs 15 = .slice (some ⟨g, 0, none⟩) 1 1 ∧ w'.heap[g]? = some (.cells #[hdrV h] 33) ∧ Own hdrF w' w.heap.size 33 (vs 16) (hs ++ [h]) := hF
              exact ⟨g, h, e1, (hg.block g (blk_lt e2) (fun e => h55.ne_type e2 (by decide) e.symm)).trans e2, e3.kept hg (e3.apart2 h55 (by decide))⟩
            | j + 18, _, _ => trivial
          · refine step_pureK hBs hSs hFs rfl fun a' w' hB hag hp hS => ?_
            have h62 := hp 14 (by kernel_rfl)
            replace h62 : _ := h62
            have hB0 : wr.grownBy w' (Value.slice A8 hs.length c8).ownBlock := hB
            have h62' : Own rulF w' wr.heap.size 58 (a'.tmps.getD 62 undef) y := h62
            clear h62
            obtain ⟨A9, c9, hv, -⟩ := h62'.form
            have hvv := hv
            simp at hv
            unfold OpYields
            go_simp
            exact ⟨(Below.refl _ _).alloc (Nat.le_refl _) _, _, (A9, _, c9), hvv, rfl, hB0.size, heapN _ _ rfl⟩
          · intro a' w' hB hag hp hS
            rw [if_pos (by simp [Region.wanted])]
            have hB0 : wr.grownBy w' (Value.slice A8 hs.length c8).ownBlock := hB
            have h48 : a'.tmps.getD 48 undef = .slice A8 hs.length c8 := hp 0 (by kernel_rfl)
            obtain ⟨g, h, e1, h63, hgl, hgh⟩ : ∃ g h, a'.tmps.getD 62 undef = hdrV h ∧ a'.tmps.getD 63 undef = .slice (some ⟨g, 0, none⟩) 1 1 ∧ wr.heap.size ≤ g ∧ w'.heap[g]? = some (.cells #[hdrV h] 33) := hp 15 (by kernel_rfl)
            have hS0 : Own hdrF w' w.heap.size 33 (.slice A8 hs.length c8) hs := hS (by kernel_rfl)
            have hne : ∀ i, wr.heap.size ≤ i → some i ≠ (Value.slice A8 hs.length c8).ownBlock := fun i hi e => by
              have := (KO.out.lt i e.symm).2
              omega
            refine (yields_appRow (f := hdrF) w.heap.size (.tmp 48) (.tmp 63) _ _ _ _ rfl Try.underlying26 infoSl rfl (by decide) (.slice A8 hs.length c8) hs [h] (some ⟨g, 0, none⟩) 1 h48 h63 (fun h => by cases h) hS0 (Rd.blk hdrF hgh [h] rfl (by simp)) (Nat.le_trans KB.out.size hB0.size) (by have := HHS.out; simp; omega)).mono ?_
            rintro v w1 ⟨ho, hg, _⟩
            refine ⟨hB0.trans hg, fun h => absurd rfl h, ⟨g, h, h63, (hg.block g (blk_lt hgh) (hne g hgl)).trans hgh, ho⟩, ?_⟩
            intro j vs hj hjk hF
            unfold Fof at *
            match j, hj, hjk with
            | 0, _, _ | 1, _, _ | 2, _, _ | 3, _, _ | 4, _, _ | 5, _, _ | 6, _, _ | 8, _, _ | 9, _, _ | 10, _, _ | 11, _, _ | 12, _, _ | 13, _, _ | 17, _, _ => exact hF
            | 7, _, _ => exact Own.kept hF hg (Own.apart2 hF hS0 (by decide))
            | 14, _, _ => exact Own.kept hF hg (Own.apart2 hF hS0 (by decide))
            | 15, _, _ =>
              obtain ⟨g, h, e1, e2, e3, e4⟩ : ∃ g h, vs 14 = hdrV h ∧ vs 15 = .slice (some ⟨g, 0, none⟩) 1 1 ∧ wr.heap.size ≤ g ∧ w'.heap[g]? = some (.cells #[hdrV h] 33) := hF
              exact ⟨g, h, e1, e2, e3, (hg.block g (blk_lt e4) (hne g e3)).trans e4⟩
            | j + 18, _, _ => trivial
          · refine step_pureK hBs hSs hFs rfl fun a' w' hB hag hp hS => ?_
            have h64 := hp 16 (by kernel_rfl)
            replace h64 : _ := h64
            unfold OpYields
            go_simp
            refine ⟨Below.refl _ _, ?_⟩
            unfold Fof
            simp [ctaF, ctaQ, upd, keptVal, slotOf]
        intro vs w' hB hF
        simp only [AllF, forall_const, reduceCtorEq, false_implies, Fof, ctaF, ctaQ, ctaK, Nat.zero_add, Nat.reduceAdd, Nat.reduceEqDiff, if_true, if_false, List.getD_cons_succ, List.getD_cons_zero] at hF
        obtain ⟨f0, f1, f2, f3, f4, f5, f6, -, f8, f9, f10, f11, f12, f13, f14, ⟨g5, h5, f15, e15b, e15c, e15d⟩, ⟨g6, h6, f16, e16b, e16c⟩, f17, -⟩ := hF
        simp only [putAll, Act.put, Nat.zero_add, Nat.reduceAdd, f0, f1, f2, f3, f4, f5, f6, f8, f9, f10, f11, f12, f13, f14, f15, f16, f17, List.setIfInBounds_toArray, List.set_cons_zero, List.set_cons_succ]
        have hg : wr.grownBy w' (Value.slice A8 hs.length c8).ownBlock := hB
        have f14' : Own rulF w' wr.heap.size 58 (vs 14) y := f14
        have e16d : Own hdrF w' w.heap.size 33 (vs 16) (hs ++ [h6]) := e16c
        have e15d' : w'.heap[g5]? = some (.cells #[hdrV h5] 33) := e15d
        have e16b' : w'.heap[g6]? = some (.cells #[hdrV h6] 33) := e16b
        have hgg : g5 = g6 := by
          have := e15b.symm.trans f16
          injection this with this
          injection this with this
          injection this
        subst hgg
        have hhh : h5 = h6 := by
          have := e15d'.symm.trans e16b'
          simp at this
          obtain ⟨a1, a2, a3⟩ := h5
          obtain ⟨b1, b2, b3⟩ := h6
          simp at this ⊢
          exact this
        subst hhh
        rw [f15] at f14'
        have KB2 := Aside.mk (below_own KB.out hg (fun b e => ⟨(KO.out.lt b e).1, (KO.out.lt b e).2⟩))
        have KH2 := Aside.mk ((KH.out.kept KO.out hg).snoc (f14'.mono KB.out.size))
        have HX2 := Aside.mk ((hg.block _ (blk_lt HX.out) (fun e => KO.out.ne_type HX.out (by decide) e.symm)).trans HX.out)
        rw [← HY.out, ← HT.out] at KH2
        have KO2 := Aside.mk e16d
        clear hB hg f14 f14' e16c e16d e15d e15d' e16b e16b' f15 f16 f17 e15b e15c
        obtain ⟨v9, hv9⟩ : ∃ v, vs 16 = v := ⟨_, rfl⟩
        rw [hv9] at KO2
        simp only [hv9]
        clear hv9
        go_wp2
        go_roundw
        case rel => exact ⟨k + 1, _, by omega, by push_cast; rfl, KO2.out, KH2.out, KB2.out, HX2.out⟩
        case measure => simp [intOf]; omega
      · obtain rfl : x = [] := List.length_eq_zero_iff.1 (by omega)
        have HLN : Aside (([] : List Rul).length + ([] : List Rul).length ≤ 40 ∧ ([] : List Rul).length ≤ 40) := .mk (by simp)
        clear hx0 h40 hn1
        rcases A' with _ | ⟨b3, o3, e3⟩
        · obtain rfl := HN2.out rfl
          have E2 := Aside.mk (show Value.slice none 0 0 = .slice none ([] : List Rul).length 0 from rfl)
          have E1 := Aside.mk (show Value.slice none 0 0 = .slice none ([] : List Rul).length 0 from rfl)
          have RD2 := Aside.mk (show Rd rulD w none ([] : List Rul).length [] from Rd.nil _ _ _)
          have RD1 := Aside.mk (show Rd rulD w none ([] : List Rul).length [] from Rd.nil _ _ _)
          obtain ⟨y, hy⟩ : ∃ y, ([] : List Rul) ++ [] = y := ⟨_, rfl⟩
          have HMM := Aside.mk hy
          have HY : Aside (turnL bn [] = y) := .mk (by rw [← hy]; simp [turnL])
          clear hy
          go_wp2
          refine wp_region_facts_klK (Base := ctaB (some ⟨b, o, none⟩) cs.length d k none 0 0 ⟨b, o + k, none⟩ 0 (.slice none 0 0) (.slice none 0 0) [] y (.slice A8 hs.length c8) hs w.heap.size wr) 16 (ctaS (some ⟨b, o, none⟩) cs.length d k none 0 0 ⟨b, o + k, none⟩ 0 (.slice none 0 0) (.slice none 0 0) [] y (.slice A8 hs.length c8) hs w.heap.size wr) ctaQ ctaK (Fs := ctaF (some ⟨b, o, none⟩) cs.length d k none 0 0 ⟨b, o + k, none⟩ 0 (.slice none 0 0) (.slice none 0 0) [] y (.slice A8 hs.length c8) hs w.heap.size wr) (by kernel_rfl) (by kernel_rfl) (by kernel_rfl) (by kernel_rfl) (grown_of_below (below_drew (Below.refl _ _)) _) KO.out.drew ?_ ?_
          ·
            have hSs := ctaS_stay (some ⟨b, o, none⟩) cs.length d k none 0 0 ⟨b, o + k, none⟩ 0 (.slice none 0 0) (.slice none 0 0) [] y (.slice A8 hs.length c8) hs w.heap.size wr
            have hBs := ctaB_stay (some ⟨b, o, none⟩) cs.length d k none 0 0 ⟨b, o + k, none⟩ 0 (.slice none 0 0) (.slice none 0 0) [] y (.slice A8 hs.length c8) hs w.heap.size wr
            have hFs := ctaF_stay (some ⟨b, o, none⟩) cs.length d k none 0 0 ⟨b, o + k, none⟩ 0 (.slice none 0 0) (.slice none 0 0) [] y (.slice A8 hs.length c8) hs w.heap.size wr
            refine ⟨?_, ?_, ?_, ?_, ?_, ?_, ?_, ?_, ?_, ?_, ?_, ?_, ?_, ?_, ?_, ?_, ?_, ?_, trivial⟩
            · refine step_pureK hBs hSs hFs rfl fun a' w' hB hag hp hS => ?_
              have h8 := hag 8 (by kernel_rfl)
              simp at h8
              unfold OpYields
              go_simp
              exact ⟨Below.refl _ _, rfl⟩
            · refine step_pureK hBs hSs hFs rfl fun a' w' hB hag hp hS => ?_
              have h1 := hag 1 (by kernel_rfl)
              simp at h1
              unfold OpYields
              go_simp
              exact ⟨Below.refl _ _, rfl⟩
            · refine step_pureK hBs hSs hFs rfl fun a' w' hB hag hp hS => ?_
              have h9 := hag 9 (by kernel_rfl)
              simp at h9
              unfold OpYields
              go_simp
              exact ⟨Below.refl _ _, rfl⟩
            · refine step_pureK hBs hSs hFs rfl fun a' w' hB hag hp hS => ?_
              have h49 : a'.tmps.getD 49 undef = _ := hp 1 (by kernel_rfl)
              have h50 : a'.tmps.getD 50 undef = _ := hp 2 (by kernel_rfl)
              simp at h49 h50
              unfold OpYields
              go_simp
              exact ⟨Below.refl _ _, rfl⟩
            · refine step_pureK hBs hSs hFs rfl fun a' w' hB hag hp hS => ?_
              have h51 : a'.tmps.getD 51 undef = _ := hp 3 (by kernel_rfl)
              have hB0 : wr.grownBy w' (Value.slice A8 hs.length c8).ownBlock := hB; have c0 := (World.cell?_of_block (hB0.block b hbl hbne) : w'.cell? ⟨b, o + k, none⟩ = _).trans C0.out
              simp at h51
              unfold OpYields
              go_simp
              exact ⟨Below.refl _ _, rfl⟩
            · refine step_pureK hBs hSs hFs rfl fun a' w' hB hag hp hS => ?_
              have h10 := hag 10 (by kernel_rfl)
              simp at h10
              unfold OpYields
              go_simp
              exact ⟨Below.refl _ _, rfl⟩
            · refine step_pureK hBs hSs hFs rfl fun a' w' hB hag hp hS => ?_
              have h52 : a'.tmps.getD 52 undef = _ := hp 4 (by kernel_rfl)
              have h53 : a'.tmps.getD 53 undef = _ := hp 5 (by kernel_rfl)
              simp at h52 h53
              unfold OpYields
              go_simp
              exact ⟨Below.refl _ _, rfl⟩
            · refine step_pureK hBs hSs hFs rfl fun a' w' hB hag hp hS => ?_
              have h54 : a'.tmps.getD 54 undef = _ := hp 6 (by kernel_rfl)
              have hB0 : wr.grownBy w' (Value.slice A8 hs.length c8).ownBlock := hB
              have hW := below_own KB.out hB0 (fun b e => ⟨(KO.out.lt b e).1, (KO.out.lt b e).2⟩)
              refine (yields_appRow (f := rulF) wr.heap.size (.const (.slice none 0 0)) (.tmp 54) _ _ _ _ rfl Try.underlying33 infoRul rfl (by decide) (.slice none 0 0) [] [] none 0 rfl (by show a'.tmps.getD 54 undef = _; rw [h54, E2.out]) (fun _ => rfl) (Own.nil _ _ _ _) (RD2.out.below hW) hB0.size (by have := HLN.out; (try simp); (try omega))).mono ?_
              rintro v w1 ⟨ho, hg, _⟩
              exact ⟨below_of_grown hg, ho⟩
            · refine step_pureK hBs hSs hFs rfl fun a' w' hB hag hp hS => ?_
              have h1 := hag 1 (by kernel_rfl)
              simp at h1
              unfold OpYields
              go_simp
              exact ⟨Below.refl _ _, rfl⟩
            · refine step_pureK hBs hSs hFs rfl fun a' w' hB hag hp hS => ?_
              have h9 := hag 9 (by kernel_rfl)
              simp at h9
              unfold OpYields
              go_simp
              exact ⟨Below.refl _ _, rfl⟩
            · refine step_pureK hBs hSs hFs rfl fun a' w' hB hag hp hS => ?_
              have h56 : a'.tmps.getD 56 undef = _ := hp 8 (by kernel_rfl)
              have h57 : a'.tmps.getD 57 undef = _ := hp 9 (by kernel_rfl)
              simp at h56 h57
              unfold OpYields
              go_simp
              exact ⟨Below.refl _ _, rfl⟩
            · refine step_pureK hBs hSs hFs rfl fun a' w' hB hag hp hS => ?_
              have h58 : a'.tmps.getD 58 undef = _ := hp 10 (by kernel_rfl)
              have hB0 : wr.grownBy w' (Value.slice A8 hs.length c8).ownBlock := hB; have c0 := (World.cell?_of_block (hB0.block b hbl hbne) : w'.cell? ⟨b, o + k, none⟩ = _).trans C0.out
              simp at h58
              unfold OpYields
              go_simp
              exact ⟨Below.refl _ _, rfl⟩
            · refine step_pureK hBs hSs hFs rfl fun a' w' hB hag hp hS => ?_
              have h10 := hag 10 (by kernel_rfl)
              simp at h10
              unfold OpYields
              go_simp
              exact ⟨Below.refl _ _, rfl⟩
            · refine step_pureK hBs hSs hFs rfl fun a' w' hB hag hp hS => ?_
              have h59 : a'.tmps.getD 59 undef = _ := hp 11 (by kernel_rfl)
              have h60 : a'.tmps.getD 60 undef = _ := hp 12 (by kernel_rfl)
              simp at h59 h60
              unfold OpYields
              go_simp
              exact ⟨Below.refl _ _, rfl⟩
            · intro a' w' hB hag hp hS
              rw [if_pos (by simp [Region.wanted])]
              have hB0 : wr.grownBy w' (Value.slice A8 hs.length c8).ownBlock := hB
              have hW := below_own KB.out hB0 (fun b e => ⟨(KO.out.lt b e).1, (KO.out.lt b e).2⟩)
              have h55 : Own rulF w' wr.heap.size 58 (a'.tmps.getD 55 undef) [] := hp 7 (by kernel_rfl)
              have h61 : a'.tmps.getD 61 undef = _ := hp 13 (by kernel_rfl)
              refine (yields_appRow (f := rulF) wr.heap.size (.tmp 55) (.tmp 61) _ _ _ _ rfl Try.underlying33 infoRul rfl (by decide) (a'.tmps.getD 55 undef) [] [] none 0 rfl (by show a'.tmps.getD 61 undef = _; rw [h61, E1.out]) (fun _ => rfl) h55 (RD1.out.below hW) hB0.size (by have := HLN.out; omega)).mono ?_
              rintro v w1 ⟨ho, hg, _⟩
              refine ⟨hB0.andThen hg (fun j e => .inl (h55.lt j e).1), fun _ h => Own.kept h hg (Own.apart2 h h55 (by decide)), HMM.out ▸ ho, ?_⟩
              intro j vs hj hjk hF
              unfold Fof at *
              match j, hj, hjk with
              | 0, _, _ | 1, _, _ | 2, _, _ | 3, _, _ | 4, _, _ | 5, _, _ | 6, _, _ | 8, _, _ | 9, _, _ | 10, _, _ | 11, _, _ | 12, _, _ | 13, _, _ | 17, _, _ => exact hF
              | 7, _, h => exact absurd rfl h
              | 15, _, _ =>
                obtain ⟨g, h, e1, e2, e3, e4⟩ : ∃ g h, vs 14 = hdrV h ∧ vs 15 = .slice (some ⟨g, 0, none⟩) 1 1 ∧ wr.heap.size ≤ g ∧ w'.heap[g]? = some (.cells #[hdrV h] 33) := hF
                exact ⟨g, h, e1, e2, e3, (hg.block g (blk_lt e4) (fun e => h55.ne_type e4 (by decide) e.symm)).trans e4⟩
              | 16, _, _ =>
                obtain ⟨g, h, e1, e2, e3⟩ : ∃ g h, vs 15 = .slice (some ⟨g, 0, none⟩) 1 1 ∧ w'.heap[g]? = some (.cells #[hdrV h] 33) ∧ Own hdrF w' w.heap.size 33 (vs 16) (hs ++ [h]) := hF
                exact ⟨g, h, e1, (hg.block g (blk_lt e2) (fun e => h55.ne_type e2 (by decide) e.symm)).trans e2, e3.kept hg (e3.apart2 h55 (by decide))⟩
              | j + 18, _, _ => trivial
            · refine step_pureK hBs hSs hFs rfl fun a' w' hB hag hp hS => ?_
              have h62 := hp 14 (by kernel_rfl)
              replace h62 : _ := h62
              have hB0 : wr.grownBy w' (Value.slice A8 hs.length c8).ownBlock := hB
              have h62' : Own rulF w' wr.heap.size 58 (a'.tmps.getD 62 undef) y := h62
              clear h62
              obtain ⟨A9, c9, hv, -⟩ := h62'.form
              have hvv := hv
              simp at hv
              unfold OpYields
              go_simp
              exact ⟨(Below.refl _ _).alloc (Nat.le_refl _) _, _, (A9, _, c9), hvv, rfl, hB0.size, heapN _ _ rfl⟩
            · intro a' w' hB hag hp hS
              rw [if_pos (by simp [Region.wanted])]
              have hB0 : wr.grownBy w' (Value.slice A8 hs.length c8).ownBlock := hB
              have h48 : a'.tmps.getD 48 undef = .slice A8 hs.length c8 := hp 0 (by kernel_rfl)
              obtain ⟨g, h, e1, h63, hgl, hgh⟩ : ∃ g h, a'.tmps.getD 62 undef = hdrV h ∧ a'.tmps.getD 63 undef = .slice (some ⟨g, 0, none⟩) 1 1 ∧ wr.heap.size ≤ g ∧ w'.heap[g]? = some (.cells #[hdrV h] 33) := hp 15 (by kernel_rfl)
              have hS0 : Own hdrF w' w.heap.size 33 (.slice A8 hs.length c8) hs := hS (by kernel_rfl)
              have hne : ∀ i, wr.heap.size ≤ i → some i ≠ (Value.slice A8 hs.length c8).ownBlock := fun i hi e => by
                have := (KO.out.lt i e.symm).2
                omega
              refine (yields_appRow (f := hdrF) w.heap.size (.tmp 48) (.tmp 63) _ _ _ _ rfl Try.underlying26 infoSl rfl (by decide) (.slice A8 hs.length c8) hs [h] (some ⟨g, 0, none⟩) 1 h48 h63 (fun h => by cases h) hS0 (Rd.blk hdrF hgh [h] rfl (by simp)) (Nat.le_trans KB.out.size hB0.size) (by have := HHS.out; simp; omega)).mono ?_
              rintro v w1 ⟨ho, hg, _⟩
              refine ⟨hB0.trans hg, fun h => absurd rfl h, ⟨g, h, h63, (hg.block g (blk_lt hgh) (hne g hgl)).trans hgh, ho⟩, ?_⟩
              intro j vs hj hjk hF
              unfold Fof at *
              match j, hj, hjk with
              | 0, _, _ | 1, _, _ | 2, _, _ | 3, _, _ | 4, _, _ | 5, _, _ | 6, _, _ | 8, _, _ | 9, _, _ | 10, _, _ | 11, _, _ | 12, _, _ | 13, _, _ | 17, _, _ => exact hF
              | 7, _, _ => exact Own.kept hF hg (Own.apart2 hF hS0 (by decide))
              | 14, _, _ => exact Own.kept hF hg (Own.apart2 hF hS0 (by decide))
              | 15, _, _ =>
                obtain ⟨g, h, e1, e2, e3, e4⟩ : ∃ g h, vs 14 = hdrV h ∧ vs 15 = .slice (some ⟨g, 0, none⟩) 1 1 ∧ wr.heap.size ≤ g ∧ w'.heap[g]? = some (.cells #[hdrV h] 33) := hF
                exact ⟨g, h, e1, e2, e3, (hg.block g (blk_lt e4) (hne g e3)).trans e4⟩
              | j + 18, _, _ => trivial
            · refine step_pureK hBs hSs hFs rfl fun a' w' hB hag hp hS => ?_
              have h64 := hp 16 (by kernel_rfl)
              replace h64 : _ := h64
              unfold OpYields
              go_simp
              refine ⟨Below.refl _ _, ?_⟩
              unfold Fof
              simp [ctaF, ctaQ, upd, keptVal, slotOf]
          intro vs w' hB hF
          simp only [AllF, forall_const, reduceCtorEq, false_implies, Fof, ctaF, ctaQ, ctaK, Nat.zero_add, Nat.reduceAdd, Nat.reduceEqDiff, if_true, if_false, List.getD_cons_succ, List.getD_cons_zero] at hF
          obtain ⟨f0, f1, f2, f3, f4, f5, f6, -, f8, f9, f10, f11, f12, f13, f14, ⟨g5, h5, f15, e15b, e15c, e15d⟩, ⟨g6, h6, f16, e16b, e16c⟩, f17, -⟩ := hF
          simp only [putAll, Act.put, Nat.zero_add, Nat.reduceAdd, f0, f1, f2, f3, f4, f5, f6, f8, f9, f10, f11, f12, f13, f14, f15, f16, f17, List.setIfInBounds_toArray, List.set_cons_zero, List.set_cons_succ]
          have hg : wr.grownBy w' (Value.slice A8 hs.length c8).ownBlock := hB
          have f14' : Own rulF w' wr.heap.size 58 (vs 14) y := f14
          have e16d : Own hdrF w' w.heap.size 33 (vs 16) (hs ++ [h6]) := e16c
          have e15d' : w'.heap[g5]? = some (.cells #[hdrV h5] 33) := e15d
          have e16b' : w'.heap[g6]? = some (.cells #[hdrV h6] 33) := e16b
          have hgg : g5 = g6 := by
            have := e15b.symm.trans f16
            injection this with this
            injection this with this
            injection this
          subst hgg
          have hhh : h5 = h6 := by
            have := e15d'.symm.trans e16b'
            simp at this
            obtain ⟨a1, a2, a3⟩ := h5
            obtain ⟨b1, b2, b3⟩ := h6
            simp at this ⊢
            exact this
          subst hhh
          rw [f15] at f14'
          have KB2 := Aside.mk (below_own KB.out hg (fun b e => ⟨(KO.out.lt b e).1, (KO.out.lt b e).2⟩))
          have KH2 := Aside.mk ((KH.out.kept KO.out hg).snoc (f14'.mono KB.out.size))
          have HX2 := Aside.mk ((hg.block _ (blk_lt HX.out) (fun e => KO.out.ne_type HX.out (by decide) e.symm)).trans HX.out)
          rw [← HY.out, ← HT.out] at KH2
          have KO2 := Aside.mk e16d
          clear hB hg f14 f14' e16c e16d e15d e15d' e16b e16b' f15 f16 f17 e15b e15c
          obtain ⟨v9, hv9⟩ : ∃ v, vs 16 = v := ⟨_, rfl⟩
          rw [hv9] at KO2
          simp only [hv9]
          clear hv9
          go_wp2
          go_roundw
          case rel => exact ⟨k + 1, _, by omega, by push_cast; rfl, KO2.out, KH2.out, KB2.out, HX2.out⟩
          case measure => simp [intOf]; omega
        · have E2 := Aside.mk (show Value.slice (some ⟨b3, o3, e3⟩) 0 n' = .slice (some ⟨b3, o3, e3⟩) ([] : List Rul).length n' from rfl)
          have E1 := Aside.mk (show Value.slice (some ⟨b3, o3, e3⟩) 0 n' = .slice (some ⟨b3, o3, e3⟩) ([] : List Rul).length n' from rfl)
          have RD2 := Aside.mk (show Rd rulD w (some ⟨b3, o3, e3⟩) ([] : List Rul).length [] from Rd.nil _ _ _)
          have RD1 := Aside.mk (show Rd rulD w (some ⟨b3, o3, e3⟩) ([] : List Rul).length [] from Rd.nil _ _ _)
          obtain ⟨y, hy⟩ : ∃ y, ([] : List Rul) ++ [] = y := ⟨_, rfl⟩
          have HMM := Aside.mk hy
          have HY : Aside (turnL bn [] = y) := .mk (by rw [← hy]; simp [turnL])
          clear hy
          go_wp2
          refine wp_region_facts_klK (Base := ctaB (some ⟨b, o, none⟩) cs.length d k (some ⟨b3, o3, e3⟩) 0 n' ⟨b, o + k, none⟩ 0 (.slice (some ⟨b3, o3, e3⟩) 0 n') (.slice (some ⟨b3, o3, e3⟩) 0 n') [] y (.slice A8 hs.length c8) hs w.heap.size wr) 16 (ctaS (some ⟨b, o, none⟩) cs.length d k (some ⟨b3, o3, e3⟩) 0 n' ⟨b, o + k, none⟩ 0 (.slice (some ⟨b3, o3, e3⟩) 0 n') (.slice (some ⟨b3, o3, e3⟩) 0 n') [] y (.slice A8 hs.length c8) hs w.heap.size wr) ctaQ ctaK (Fs := ctaF (some ⟨b, o, none⟩) cs.length d k (some ⟨b3, o3, e3⟩) 0 n' ⟨b, o + k, none⟩ 0 (.slice (some ⟨b3, o3, e3⟩) 0 n') (.slice (some ⟨b3, o3, e3⟩) 0 n') [] y (.slice A8 hs.length c8) hs w.heap.size wr) (by kernel_rfl) (by kernel_rfl) (by kernel_rfl) (by kernel_rfl) (grown_of_below (below_drew (Below.refl _ _)) _) KO.out.drew ?_ ?_
          ·
            have hSs := ctaS_stay (some ⟨b, o, none⟩) cs.length d k (some ⟨b3, o3, e3⟩) 0 n' ⟨b, o + k, none⟩ 0 (.slice (some ⟨b3, o3, e3⟩) 0 n') (.slice (some ⟨b3, o3, e3⟩) 0 n') [] y (.slice A8 hs.length c8) hs w.heap.size wr
            have hBs := ctaB_stay (some ⟨b, o, none⟩) cs.length d k (some ⟨b3, o3, e3⟩) 0 n' ⟨b, o + k, none⟩ 0 (.slice (some ⟨b3, o3, e3⟩) 0 n') (.slice (some ⟨b3, o3, e3⟩) 0 n') [] y (.slice A8 hs.length c8) hs w.heap.size wr
            have hFs := ctaF_stay (some ⟨b, o, none⟩) cs.length d k (some ⟨b3, o3, e3⟩) 0 n' ⟨b, o + k, none⟩ 0 (.slice (some ⟨b3, o3, e3⟩) 0 n') (.slice (some ⟨b3, o3, e3⟩) 0 n') [] y (.slice A8 hs.length c8) hs w.heap.size wr
            refine ⟨?_, ?_, ?_, ?_, ?_, ?_, ?_, ?_, ?_, ?_, ?_, ?_, ?_, ?_, ?_, ?_, ?_, ?_, trivial⟩
            · refine step_pureK hBs hSs hFs rfl fun a' w' hB hag hp hS => ?_
              have h8 := hag 8 (by kernel_rfl)
              simp at h8
              unfold OpYields
              go_simp
              exact ⟨Below.refl _ _, rfl⟩
            · refine step_pureK hBs hSs hFs rfl fun a' w' hB hag hp hS => ?_
              have h1 := hag 1 (by kernel_rfl)
              simp at h1
              unfold OpYields
              go_simp
              exact ⟨Below.refl _ _, rfl⟩
            · refine step_pureK hBs hSs hFs rfl fun a' w' hB hag hp hS => ?_
              have h9 := hag 9 (by kernel_rfl)
              simp at h9
              unfold OpYields
              go_simp
              exact ⟨Below.refl _ _, rfl⟩
            · refine step_pureK hBs hSs hFs rfl fun a' w' hB hag hp hS => ?_
              have h49 : a'.tmps.getD 49 undef = _ := hp 1 (by kernel_rfl)
              have h50 : a'.tmps.getD 50 undef = _ := hp 2 (by kernel_rfl)
              simp at h49 h50
              unfold OpYields
              go_simp
              exact ⟨Below.refl _ _, rfl⟩
            · refine step_pureK hBs hSs hFs rfl fun a' w' hB hag hp hS => ?_
              have h51 : a'.tmps.getD 51 undef = _ := hp 3 (by kernel_rfl)
              have hB0 : wr.grownBy w' (Value.slice A8 hs.length c8).ownBlock := hB; have c0 := (World.cell?_of_block (hB0.block b hbl hbne) : w'.cell? ⟨b, o + k, none⟩ = _).trans C0.out
              simp at h51
              unfold OpYields
              go_simp
              exact ⟨Below.refl _ _, rfl⟩
            · refine step_pureK hBs hSs hFs rfl fun a' w' hB hag hp hS => ?_
              have h10 := hag 10 (by kernel_rfl)
              simp at h10
              unfold OpYields
              go_simp
              exact ⟨Below.refl _ _, rfl⟩
            · refine step_pureK hBs hSs hFs rfl fun a' w' hB hag hp hS => ?_
              have h52 : a'.tmps.getD 52 undef = _ := hp 4 (by kernel_rfl)
              have h53 : a'.tmps.getD 53 undef = _ := hp 5 (by kernel_rfl)
              simp at h52 h53
              unfold OpYields
              go_simp
              exact ⟨Below.refl _ _, rfl⟩
            · refine step_pureK hBs hSs hFs rfl fun a' w' hB hag hp hS => ?_
              have h54 : a'.tmps.getD 54 undef = _ := hp 6 (by kernel_rfl)
              have hB0 : wr.grownBy w' (Value.slice A8 hs.length c8).ownBlock := hB
              have hW := below_own KB.out hB0 (fun b e => ⟨(KO.out.lt b e).1, (KO.out.lt b e).2⟩)
              refine (yields_appRow (f := rulF) wr.heap.size (.const (.slice none 0 0)) (.tmp 54) _ _ _ _ rfl Try.underlying33 infoRul rfl (by decide) (.slice none 0 0) [] [] (some ⟨b3, o3, e3⟩) n' rfl (by show a'.tmps.getD 54 undef = _; rw [h54, E2.out]) (fun h => by cases h) (Own.nil _ _ _ _) (RD2.out.below hW) hB0.size (by have := HLN.out; (try simp); (try omega))).mono ?_
              rintro v w1 ⟨ho, hg, _⟩
              exact ⟨below_of_grown hg, ho⟩
            · refine step_pureK hBs hSs hFs rfl fun a' w' hB hag hp hS => ?_
              have h1 := hag 1 (by kernel_rfl)
              simp at h1
              unfold OpYields
              go_simp
              exact ⟨Below.refl _ _, rfl⟩
            · refine step_pureK hBs hSs hFs rfl fun a' w' hB hag hp hS => ?_
              have h9 := hag 9 (by kernel_rfl)
              simp at h9
              unfold OpYields
              go_simp
              exact ⟨Below.refl _ _, rfl⟩
            · refine step_pureK hBs hSs hFs rfl fun a' w' hB hag hp hS => ?_
              have h56 : a'.tmps.getD 56 undef = _ := hp 8 (by kernel_rfl)
              have h57 : a'.tmps.getD 57 undef = _ := hp 9 (by kernel_rfl)
              simp at h56 h57
              unfold OpYields
              go_simp
              exact ⟨Below.refl _ _, rfl⟩
            · refine step_pureK hBs hSs hFs rfl fun a' w' hB hag hp hS => ?_
              have h58 : a'.tmps.getD 58 undef = _ := hp 10 (by kernel_rfl)
              have hB0 : wr.grownBy w' (Value.slice A8 hs.length c8).ownBlock := hB; have c0 := (World.cell?_of_block (hB0.block b hbl hbne) : w'.cell? ⟨b, o + k, none⟩ = _).trans C0.out
              simp at h58
              unfold OpYields
              go_simp
              exact ⟨Below.refl _ _, rfl⟩
            · refine step_pureK hBs hSs hFs rfl fun a' w' hB hag hp hS => ?_
              have h10 := hag 10 (by kernel_rfl)
              simp at h10
              unfold OpYields
              go_simp
              exact ⟨Below.refl _ _, rfl⟩
            · refine step_pureK hBs hSs hFs rfl fun a' w' hB hag hp hS => ?_
              have h59 : a'.tmps.getD 59 undef = _ := hp 11 (by kernel_rfl)
              have h60 : a'.tmps.getD 60 undef = _ := hp 12 (by kernel_rfl)
              simp at h59 h60
              unfold OpYields
              go_simp
              exact ⟨Below.refl _ _, rfl⟩
            · intro a' w' hB hag hp hS
              rw [if_pos (by simp [Region.wanted])]
              have hB0 : wr.grownBy w' (Value.slice A8 hs.length c8).ownBlock := hB
              have hW := below_own KB.out hB0 (fun b e => ⟨(KO.out.lt b e).1, (KO.out.lt b e).2⟩)
              have h55 : Own rulF w' wr.heap.size 58 (a'.tmps.getD 55 undef) [] := hp 7 (by kernel_rfl)
              have h61 : a'.tmps.getD 61 undef = _ := hp 13 (by kernel_rfl)
              refine (yields_appRow (f := rulF) wr.heap.size (.tmp 55) (.tmp 61) _ _ _ _ rfl Try.underlying33 infoRul rfl (by decide) (a'.tmps.getD 55 undef) [] [] (some ⟨b3, o3, e3⟩) n' rfl (by show a'.tmps.getD 61 undef = _; rw [h61, E1.out]) (fun h => by cases h) h55 (RD1.out.below hW) hB0.size (by have := HLN.out; omega)).mono ?_
              rintro v w1 ⟨ho, hg, _⟩
              refine ⟨hB0.andThen hg (fun j e => .inl (h55.lt j e).1), fun _ h => Own.kept h hg (Own.apart2 h h55 (by decide)), HMM.out ▸ ho, ?_⟩
              intro j vs hj hjk hF
              unfold Fof at *
              match j, hj, hjk with
              | 0, _, _ | 1, _, _ | 2, _, _ | 3, _, _ | 4, _, _ | 5, _, _ | 6, _, _ | 8, _, _ | 9, _, _ | 10, _, _ | 11, _, _ | 12, _, _ | 13, _, _ | 17, _, _ => exact hF
              | 7, _, h => exact absurd rfl h
              | 15, _, _ =>
                obtain ⟨g, h, e1, e2, e3, e4⟩ : ∃ g h, vs 14 = hdrV h ∧ vs 15 = .slice (some ⟨g, 0, none⟩) 1 1 ∧ wr.heap.size ≤ g ∧ w'.heap[g]? = some (.cells #[hdrV h] 33) := hF
                exact ⟨g, h, e1, e2, e3, (hg.block g (blk_lt e4) (fun e => h55.ne_type e4 (by decide) e.symm)).trans e4⟩
              | 16, _, _ =>
                obtain ⟨g, h, e1, e2, e3⟩ : ∃ g h, vs 15 = .slice (some ⟨g, 0, none⟩) 1 1 ∧ w'.heap[g]? = some (.cells #[hdrV h] 33) ∧ Own hdrF w' w.heap.size 33 (vs 16) (hs ++ [h]) := hF
                exact ⟨g, h, e1, (hg.block g (blk_lt e2) (fun e => h55.ne_type e2 (by decide) e.symm)).trans e2, e3.kept hg (e3.apart2 h55 (by decide))⟩
              | j + 18, _, _ => trivial
            · refine step_pureK hBs hSs hFs rfl fun a' w' hB hag hp hS => ?_
              have h62 := hp 14 (by kernel_rfl)
              replace h62 : _ := h62
              have hB0 : wr.grownBy w' (Value.slice A8 hs.length c8).ownBlock := hB
              have h62' : Own rulF w' wr.heap.size 58 (a'.tmps.getD 62 undef) y := h62
              clear h62
              obtain ⟨A9, c9, hv, -⟩ := h62'.form
              have hvv := hv
              simp at hv
              unfold OpYields
              go_simp
              exact ⟨(Below.refl _ _).alloc (Nat.le_refl _) _, _, (A9, _, c9), hvv, rfl, hB0.size, heapN _ _ rfl⟩
            · intro a' w' hB hag hp hS
              rw [if_pos (by simp [Region.wanted])]
              have hB0 : wr.grownBy w' (Value.slice A8 hs.length c8).ownBlock := hB
              have h48 : a'.tmps.getD 48 undef = .slice A8 hs.length c8 := hp 0 (by kernel_rfl)
              obtain ⟨g, h, e1, h63, hgl, hgh⟩ : ∃ g h, a'.tmps.getD 62 undef = hdrV h ∧ a'.tmps.getD 63 undef = .slice (some ⟨g, 0, none⟩) 1 1 ∧ wr.heap.size ≤ g ∧ w'.heap[g]? = some (.cells #[hdrV h] 33) := hp 15 (by kernel_rfl)
              have hS0 : Own hdrF w' w.heap.size 33 (.slice A8 hs.length c8) hs := hS (by kernel_rfl)
              have hne : ∀ i, wr.heap.size ≤ i → some i ≠ (Value.slice A8 hs.length c8).ownBlock := fun i hi e => by
                have := (KO.out.lt i e.symm).2
                omega
              refine (yields_appRow (f := hdrF) w.heap.size (.tmp 48) (.tmp 63) _ _ _ _ rfl Try.underlying26 infoSl rfl (by decide) (.slice A8 hs.length c8) hs [h] (some ⟨g, 0, none⟩) 1 h48 h63 (fun h => by cases h) hS0 (Rd.blk hdrF hgh [h] rfl (by simp)) (Nat.le_trans KB.out.size hB0.size) (by have := HHS.out; simp; omega)).mono ?_
              rintro v w1 ⟨ho, hg, _⟩
              refine ⟨hB0.trans hg, fun h => absurd rfl h, ⟨g, h, h63, (hg.block g (blk_lt hgh) (hne g hgl)).trans hgh, ho⟩, ?_⟩
              intro j vs hj hjk hF
              unfold Fof at *
              match j, hj, hjk with
              | 0, _, _ | 1, _, _ | 2, _, _ | 3, _, _ | 4, _, _ | 5, _, _ | 6, _, _ | 8, _, _ | 9, _, _ | 10, _, _ | 11, _, _ | 12, _, _ | 13, _, _ | 17, _, _ => exact hF
              | 7, _, _ => exact Own.kept hF hg (Own.apart2 hF hS0 (by decide))
              | 14, _, _ => exact Own.kept hF hg (Own.apart2 hF hS0 (by decide))
              | 15, _, _ =>
                obtain ⟨g, h, e1, e2, e3, e4⟩ : ∃ g h, vs 14 = hdrV h ∧ vs 15 = .slice (some ⟨g, 0, none⟩) 1 1 ∧ wr.heap.size ≤ g ∧ w'.heap[g]? = some (.cells #[hdrV h] 33) := hF
                exact ⟨g, h, e1, e2, e3, (hg.block g (blk_lt e4) (hne g e3)).trans e4⟩
              | j + 18, _, _ => trivial
            · refine step_pureK hBs hSs hFs rfl fun a' w' hB hag hp hS => ?_
              have h64 := hp 16 (by kernel_rfl)
              replace h64 : _ := h64
              unfold OpYields
              go_simp
              refine ⟨Below.refl _ _, ?_⟩
              unfold Fof
              simp [ctaF, ctaQ, upd, keptVal, slotOf]
          intro vs w' hB hF
          simp only [AllF, forall_const, reduceCtorEq, false_implies, Fof, ctaF, ctaQ, ctaK, Nat.zero_add, Nat.reduceAdd, Nat.reduceEqDiff, if_true, if_false, List.getD_cons_succ, List.getD_cons_zero] at hF
          obtain ⟨f0, f1, f2, f3, f4, f5, f6, -, f8, f9, f10, f11, f12, f13, f14, ⟨g5, h5, f15, e15b, e15c, e15d⟩, ⟨g6, h6, f16, e16b, e16c⟩, f17, -⟩ := hF
          simp only [putAll, Act.put, Nat.zero_add, Nat.reduceAdd, f0, f1, f2, f3, f4, f5, f6, f8, f9, f10, f11, f12, f13, f14, f15, f16, f17, List.setIfInBounds_toArray, List.set_cons_zero, List.set_cons_succ]
          have hg : wr.grownBy w' (Value.slice A8 hs.length c8).ownBlock := hB
          have f14' : Own rulF w' wr.heap.size 58 (vs 14) y := f14
          have e16d : Own hdrF w' w.heap.size 33 (vs 16) (hs ++ [h6]) := e16c
          have e15d' : w'.heap[g5]? = some (.cells #[hdrV h5] 33) := e15d
          have e16b' : w'.heap[g6]? = some (.cells #[hdrV h6] 33) := e16b
          have hgg : g5 = g6 := by
            have := e15b.symm.trans f16
            injection this with this
            injection this with this
            injection this
          subst hgg
          have hhh : h5 = h6 := by
            have := e15d'.symm.trans e16b'
            simp at this
            obtain ⟨a1, a2, a3⟩ := h5
            obtain ⟨b1, b2, b3⟩ := h6
            simp at this ⊢
            exact this
          subst hhh
          rw [f15] at f14'
          have KB2 := Aside.mk (below_own KB.out hg (fun b e => ⟨(KO.out.lt b e).1, (KO.out.lt b e).2⟩))
          have KH2 := Aside.mk ((KH.out.kept KO.out hg).snoc (f14'.mono KB.out.size))
          have HX2 := Aside.mk ((hg.block _ (blk_lt HX.out) (fun e => KO.out.ne_type HX.out (by decide) e.symm)).trans HX.out)
          rw [← HY.out, ← HT.out] at KH2
          have KO2 := Aside.mk e16d
          clear hB hg f14 f14' e16c e16d e15d e15d' e16b e16b' f15 f16 f17 e15b e15c
          obtain ⟨v9, hv9⟩ : ∃ v, vs 16 = v := ⟨_, rfl⟩
          rw [hv9] at KO2
          simp only [hv9]
          clear hv9
          go_wp2
          go_roundw
          case rel => exact ⟨k + 1, _, by omega, by push_cast; rfl, KO2.out, KH2.out, KB2.out, HX2.out⟩
          case measure => simp [intOf]; omega
    · obtain rfl : k = cs.length := by omega
      have hh := KH.out
      rw [List.take_length] at hh
      have HC := Aside.mk (hh.conf KO.out)
      have hds := hh.1
      have HLE : Aside ((cs.map (turnL bn)).length = hs.length) := .mk hds
      have HS1 := Aside.mk (same_turn bn cs)
      have HMO := Aside.mk (most_turn bn cs)
      obtain ⟨K, hK⟩ : ∃ t : Int, (mostC cs : Int) = t := ⟨_, rfl⟩
      have ek : (K == K) = true := by simp
      have HK := Aside.mk hK
      have HL1 : Aside (∀ l ∈ cs, l.length ≤ 1000000) := .mk (fun l hl => Nat.le_trans (H6.out.2 l hl) (by omega))
      have HL2 : Aside (∀ l ∈ cs.map (turnL bn), l.length ≤ 1000000) := .mk (fun l hl => by
        obtain ⟨m, hm, rfl⟩ := List.mem_map.1 hl
        rw [turn_len]
        exact HL1.out m hm)
      obtain ⟨D, hD⟩ : ∃ D, cs.map (turnL bn) = D := ⟨_, rfl⟩
      rw [hD] at HC HLE HS1 HMO HMT HL2
      rw [← HLE.out]
      clear hh hds hD hK hb
      have hlx := blk_lt HX.out; have t0 := blk_cell HX.out 0; have t1 := blk_cell HX.out 1; have t2 := blk_cell HX.out 2; simp at t0 t1 t2
      go_wp2_with (first
        | (go_at_call 17; refine (confSame_any cs D B A8 d c8 _ (HA.out.below KB.out) HC.out HL1.out HL2.out).mono ?_; rw [HS1.out]; rintro e4 w4 ⟨rfl, hb1⟩; have HC := Aside.mk (HC.out.below hb1); have KB := Aside.mk (below_call KB.out hb1); have HX := Aside.mk (blk_keep HX.out hb1); clear t0 t1 t2 hlx; have hlx := blk_lt HX.out; have t0 := blk_cell HX.out 0; have t1 := blk_cell HX.out 1; have t2 := blk_cell HX.out 2; simp at t0 t1 t2; clear hb1)
        | (go_at_call 12; refine (confMay_any s p A c ls D A8 c8 _ (HL.out.below KB.out) HC.out).mono ?_; rw [HMT.out]; rintro e5 w5 ⟨rfl, hb1⟩; have HC := Aside.mk (HC.out.below hb1); have KB := Aside.mk (below_call KB.out hb1); clear hb1 t0 t1 t2 hlx)
        | (have hfl := HFL; go_at_call 18; clear hfl HFL; refine (confMost_any D A8 c8 _ HC.out).mono ?_; rw [HMO.out, HK.out]; rintro e7 w7 ⟨rfl, hw⟩; rw [hw]; clear hw)
        | (go_at_call 18; refine (confMost_any cs B d _ (HA.out.below KB.out)).mono ?_; rw [HK.out]; rintro e6 w6 ⟨rfl, hw⟩; rw [hw]; clear hw; have HFL : Aside True := .mk trivial))
      go_ret
      exact ⟨rfl, KB.out⟩
theorem confTurned_walk (s p : Int) (A : Option Addr) (c : Nat) (ls : List Lnk) (B : Option Addr) (d : Nat) (cs : List (List Rul)) (by_ : Int) (w : World) (hl : Rd lnkD w A ls.length ls) (hT : FitT s p c ls) (hx : Rd confD w B cs.length cs) (hFx : ∀ l ∈ cs, ∀ r ∈ l, FitR r) (hdx : cs.length ≤ d) (hby : Fit by_) : Calls Try.prog 4 #[.agg #[.int .i64 s, .int .i64 p, .slice A ls.length c], .slice B cs.length d, .int .i64 by_] w fun e w' => e = .returned (.bool true) ∧ Below w.heap.size w w' := by
  cases hm : mayC s p ls cs
  · exact confTurned_not s p A c ls B d cs by_ w hl hT hx hFx hdx hby hm
  by_cases h1 : by_ < 0
  · exact confTurned_lo s p A c ls B d cs by_ w hl hT hx hFx hdx hby hm h1
  by_cases h2 : 100 < by_
  · exact confTurned_hi s p A c ls B d cs by_ w hl hT hx hFx hdx hby hm h1 h2
  · exact confTurned_main s p A c ls B d cs by_ w hl hT hx hFx hdx hby hm by_.toNat (by omega) (by omega)
end Go.Proofs.Ytlnnkkbcmidddaa
