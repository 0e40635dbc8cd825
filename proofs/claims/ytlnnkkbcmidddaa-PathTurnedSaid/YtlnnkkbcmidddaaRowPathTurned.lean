/- PathTurned: for every input the law returns true, and each argument reads afterwards as it read before. No condition. -/
import Derived.Test.YtlnnkkbcmidddaaPathA
import Derived.Test.YtlnnkkbcmidddaaPathQ
import Derived.Test.YtlnnkkbcmidddaaConfM
import Derived.Test.YtlnnkkbcmidddaaConfS
import Derived.Test.YtlnnkkbcmidddaaPickQ
import Derived.Test.YtlnnkkbcmidddaaOpens
import Derived.Test.YtlnnkkbcmidddaaTopoO
import Derived.Test.YtlnnkkbcmidddaaRow
namespace Go.Proofs.Ytlnnkkbcmidddaa
open Go.RowKit
set_option maxRecDepth 100000
/-- A packet's step, by the rule that counts. -/
def stepE (s p : Int) (ls : List Lnk) (e : Option Rul) (f : Fly) : Hop × Fly :=
  if f.ttl < 1 then (hopAt f 5 0, noFly) else
  match e with
  | none => (hopAt f 3 0, noFly)
  | some r =>
    if r.kind ≠ 1 then (hopAt f 2 0, noFly) else
    if (farR s p ls f.sw r.port).2.2 = true then (hopAt f 0 r.port, { f with ttl := f.ttl - 1, sw := (farR s p ls f.sw r.port).1, inn := (farR s p ls f.sw r.port).2.1 }) else (hopAt f 1 r.port, noFly)
theorem step_elt (s p : Int) (ls : List Lnk) (cs : List (List Rul)) (f : Fly) : stepP s p ls cs f = stepE s p ls (eltB f.inn f.dst (atL cs f.sw)) f := by
  unfold stepP stepE eltB
  split
  · rfl
  · cases h : bestN f.inn f.dst (atL cs f.sw) (atL cs f.sw).length with
    | none => rfl
    | some j =>
      dsimp only [Option.bind_some]
      cases h2 : (atL cs f.sw)[j]? <;> rfl
theorem key_uniq {l : List Rul} (h : (l.map keyR).Nodup) {x y : Rul} (hx : x ∈ l) (hy : y ∈ l) (hk : keyR x = keyR y) : x = y := by
  obtain ⟨i, hi, rfl⟩ := List.getElem_of_mem hx
  obtain ⟨j, hj, rfl⟩ := List.getElem_of_mem hy
  have e : (l.map keyR)[i]'(by simpa using hi) = (l.map keyR)[j]'(by simpa using hj) := by simpa using hk
  have := (List.getElem_inj h).1 e
  subst this
  rfl
theorem elt_perm {l m : List Rul} {inn dst : Int} (hp : l.Perm m) (hn : (l.map keyR).Nodup) : eltB inn dst l = eltB inn dst m := by
  have ha := eltB_any (inn := inn) (dst := dst) hp
  cases hl : eltB inn dst l with
  | none => exact (ha.1.1 hl).symm
  | some x =>
    cases hm : eltB inn dst m with
    | none => rw [ha.1.2 hm] at hl; cases hl
    | some y =>
      obtain ⟨h1, h2⟩ := ha.2 x y hl hm
      obtain ⟨hx1, hx2, -⟩ := eltB_some hl
      obtain ⟨hy1, hy2, -⟩ := eltB_some hm
      congr 1
      refine key_uniq hn hx1 (hp.mem_iff.2 hy1) ?_
      have e1 : (cutN dst x.len : Int) = x.addr := by
        unfold fitsI hasI at hx2
        simp only [Bool.and_eq_true, decide_eq_true_eq] at hx2
        exact hx2.1.1
      have e2 : (cutN dst y.len : Int) = y.addr := by
        unfold fitsI hasI at hy2
        simp only [Bool.and_eq_true, decide_eq_true_eq] at hy2
        exact hy2.1.1
      have k1 : ¬ aheadI x y = true := by rw [h1]; simp
      have k2 : ¬ aheadI y x = true := by rw [h2]; simp
      rw [ahead_iff] at k1 k2
      have e3 : x.len = y.len ∧ x.inn = y.inn ∧ x.prio = y.prio := by omega
      unfold keyR
      rw [← e1, ← e2, e3.1, e3.2.1, e3.2.2]
theorem atL_map (cs : List (List Rul)) (sw : Int) : sortP (atL cs sw) = atL (cs.map sortP) sw := by
  unfold atL
  split
  · exact sortP_nil
  · rw [List.getElem?_map]
    cases cs[sw.toNat]? with
    | none => exact sortP_nil
    | some l => rfl
theorem atL_nodup {s p : Int} {ls : List Lnk} {cs : List (List Rul)} (h : mayC s p ls cs = true) (sw : Int) : ((atL cs sw).map keyR).Nodup := by
  unfold mayC at h
  simp only [Bool.and_eq_true, decide_eq_true_eq, List.all_eq_true] at h
  unfold atL
  split
  · exact List.nodup_nil
  · cases hc : cs[sw.toNat]? with
    | none => exact List.nodup_nil
    | some l =>
      have h2 := h.2 l (List.mem_of_getElem? hc)
      unfold rulesP at h2
      simp only [Bool.and_eq_true, decide_eq_true_eq] at h2
      exact h2.1.2
theorem step_same {s p : Int} {ls : List Lnk} {x y : List (List Rul)} (h : mayC s p ls x = true) (he : sameC x y = true) (f : Fly) : stepP s p ls x f = stepP s p ls y f := by
  rw [step_elt, step_elt]
  have e1 : sortP (atL x f.sw) = sortP (atL y f.sw) := by
    rw [atL_map, atL_map, of_decide_eq_true he]
  have hp : (atL x f.sw).Perm (atL y f.sw) := (sortP_perm _).symm.trans (e1 ▸ sortP_perm _)
  rw [elt_perm hp (atL_nodup h f.sw)]
theorem walk_same {s p : Int} {ls : List Lnk} {x y : List (List Rul)} (h : mayC s p ls x = true) (he : sameC x y = true) (f : Fly) : walkP s p ls x f = walkP s p ls y f := by
  have key : ∀ (n : Nat) (f : Fly), walkN s p ls x n f = walkN s p ls y n f := by
    intro n
    induction n with
    | zero => intro f; unfold walkN; rw [step_same h he]
    | succ n ih => intro f; unfold walkN; rw [step_same h he, ih]
  exact key _ f
theorem mayC_len {s p : Int} {ls : List Lnk} {cs : List (List Rul)} (h : mayC s p ls cs = true) : ∀ l ∈ cs, l.length ≤ 40 := by
  unfold mayC at h
  simp only [Bool.and_eq_true, decide_eq_true_eq, List.all_eq_true] at h
  intro l hl
  have h2 := h.2 l hl
  unfold rulesP at h2
  simp only [Bool.and_eq_true, decide_eq_true_eq] at h2
  exact h2.1.1
def pztB (s p : Int) (A : Option Addr) (nl c : Nat) (B : Option Addr) (nx d : Nat) (C : Option Addr) (ny e : Nat) (f : Fly) (H : List Hop) (wr : World) (w' : World) : Prop :=
  Below wr.heap.size wr w'
def pztF (s p : Int) (A : Option Addr) (nl c : Nat) (B : Option Addr) (nx d : Nat) (C : Option Addr) (ny e : Nat) (f : Fly) (H : List Hop) (wr : World) : List (Value → Value → World → Prop) :=
  [fun _ v _ => v = .agg #[.int .i64 s, .int .i64 p, .slice A nl c],
   fun _ v _ => v = .slice B nx d,
   fun _ v _ => v = flyV f,
   fun _ v w' => Own hopF w' wr.heap.size 41 v H,
   fun _ v _ => v = .agg #[.int .i64 s, .int .i64 p, .slice A nl c],
   fun _ v _ => v = .slice C ny e,
   fun _ v _ => v = flyV f,
   fun _ v w' => Own hopF w' wr.heap.size 41 v H,
   fun _ v _ => v = .bool true,
   fun _ v _ => v = .bool true]
def pztQ : Nat → Nat := fun i => i
theorem pztF_stay (s p : Int) (A : Option Addr) (nl c : Nat) (B : Option Addr) (nx d : Nat) (C : Option Addr) (ny e : Nat) (f : Fly) (H : List Hop) (wr : World) : AllStay (pztF s p A nl c B nx d C ny e f H wr) := by
  intro F hF u v w' w'' hb h
  simp only [pztF, List.mem_cons, List.not_mem_nil, or_false] at hF
  rcases hF with rfl | rfl | rfl | rfl | rfl | rfl | rfl | rfl | rfl | rfl
  · exact h
  · exact h
  · exact h
  · exact h.below hb
  · exact h
  · exact h
  · exact h
  · exact h.below hb
  · exact h
  · exact h
theorem pztB_stay (s p : Int) (A : Option Addr) (nl c : Nat) (B : Option Addr) (nx d : Nat) (C : Option Addr) (ny e : Nat) (f : Fly) (H : List Hop) (wr : World) : Stays (pztB s p A nl c B nx d C ny e f H wr) := by
  intro w' w'' hb h
  exact below_call h hb
set_option maxHeartbeats 1000000 in
theorem pathTurned_n1 (s p : Int) (A : Option Addr) (c : Nat) (ls : List Lnk) (B : Option Addr) (d : Nat) (x : List (List Rul)) (C : Option Addr) (e : Nat) (y : List (List Rul)) (f : Fly) (w : World) (hl : Rd lnkD w A ls.length ls) (hT : FitT s p c ls) (hx : Rd confD w B x.length x) (hFx : ∀ l ∈ x, ∀ r ∈ l, FitR r) (hdx : x.length ≤ d) (hy : Rd confD w C y.length y) (hFy : ∀ l ∈ y, ∀ r ∈ l, FitR r) (hdy : y.length ≤ e) (hf : FitF f) (h1 : mayC s p ls x = false) : Calls Try.prog 10 #[.agg #[.int .i64 s, .int .i64 p, .slice A ls.length c], .slice B x.length d, .slice C y.length e, flyV f] w fun e w' => e = .returned (.bool true) ∧ Below w.heap.size w w' := by
  have HL := Aside.mk hl; have HA := Aside.mk hx; have HC := Aside.mk hy; have hmx := hl.max; have hmy := hx.max; have hmz := hy.max; have KB := Aside.mk (below_alloc (below_alloc (Below.refl _ w) (.cells #[.int .i64 s, .int .i64 p, .slice A ls.length c] 24)) (.cells #[.int .i64 f.id, .int .i64 f.src, .int .i64 f.dst, .int .i64 f.ttl, .int .i64 f.tag, .int .i64 f.sw, .int .i64 f.inn] 30)); have HX := Aside.mk (heapO (heapN w (.cells #[.int .i64 s, .int .i64 p, .slice A ls.length c] 24) rfl) (.cells #[.int .i64 f.id, .int .i64 f.src, .int .i64 f.dst, .int .i64 f.ttl, .int .i64 f.tag, .int .i64 f.sw, .int .i64 f.inn] 30)); have HF := Aside.mk (heapN (w.alloc (.cells #[.int .i64 s, .int .i64 p, .slice A ls.length c] 24)) (.cells #[.int .i64 f.id, .int .i64 f.src, .int .i64 f.dst, .int .i64 f.ttl, .int .i64 f.tag, .int .i64 f.sw, .int .i64 f.inn] 30) (i := w.heap.size + 1) (by simp)); have HFT := Aside.mk hf.2.2.2.1; clear hl hT hx hFx hdx hy hFy hdy hf
  have HM1 := Aside.mk h1
  clear h1
  go_enter Try.func10, Try.ntmps10
  go_wp2_with (first | (go_at_call 26; refine (awake13_any _).mono ?_; rintro e1 w1 ⟨rfl, hb1⟩; have KB := Aside.mk (below_call KB.out hb1); have HX := Aside.mk (blk_keep HX.out hb1); have HF := Aside.mk (blk_keep HF.out hb1); clear hb1; have hlx := blk_lt HX.out; have t0 := blk_cell HX.out 0; have t1 := blk_cell HX.out 1; have t2 := blk_cell HX.out 2; simp at t0 t1 t2) | (go_at_call 12; refine (confMay_any s p A c ls x B d _ (HL.out.below KB.out) (HA.out.below KB.out)).mono ?_; rw [HM1.out]; rintro e2 w2 ⟨rfl, hb1⟩; clear t0 t1 t2 hlx; have KB := Aside.mk (below_call KB.out hb1); have HX := Aside.mk (blk_keep HX.out hb1); have HF := Aside.mk (blk_keep HF.out hb1); clear hb1; have hlx := blk_lt HX.out; have t0 := blk_cell HX.out 0; have t1 := blk_cell HX.out 1; have t2 := blk_cell HX.out 2; simp at t0 t1 t2; have HFL : Aside True := .mk trivial))
  go_ret
  exact ⟨rfl, KB.out⟩
set_option maxHeartbeats 1000000 in
theorem pathTurned_n2 (s p : Int) (A : Option Addr) (c : Nat) (ls : List Lnk) (B : Option Addr) (d : Nat) (x : List (List Rul)) (C : Option Addr) (e : Nat) (y : List (List Rul)) (f : Fly) (w : World) (hl : Rd lnkD w A ls.length ls) (hT : FitT s p c ls) (hx : Rd confD w B x.length x) (hFx : ∀ l ∈ x, ∀ r ∈ l, FitR r) (hdx : x.length ≤ d) (hy : Rd confD w C y.length y) (hFy : ∀ l ∈ y, ∀ r ∈ l, FitR r) (hdy : y.length ≤ e) (hf : FitF f) (h1 : mayC s p ls x = true) (h2 : mayC s p ls y = false) : Calls Try.prog 10 #[.agg #[.int .i64 s, .int .i64 p, .slice A ls.length c], .slice B x.length d, .slice C y.length e, flyV f] w fun e w' => e = .returned (.bool true) ∧ Below w.heap.size w w' := by
  have HL := Aside.mk hl; have HA := Aside.mk hx; have HC := Aside.mk hy; have hmx := hl.max; have hmy := hx.max; have hmz := hy.max; have KB := Aside.mk (below_alloc (below_alloc (Below.refl _ w) (.cells #[.int .i64 s, .int .i64 p, .slice A ls.length c] 24)) (.cells #[.int .i64 f.id, .int .i64 f.src, .int .i64 f.dst, .int .i64 f.ttl, .int .i64 f.tag, .int .i64 f.sw, .int .i64 f.inn] 30)); have HX := Aside.mk (heapO (heapN w (.cells #[.int .i64 s, .int .i64 p, .slice A ls.length c] 24) rfl) (.cells #[.int .i64 f.id, .int .i64 f.src, .int .i64 f.dst, .int .i64 f.ttl, .int .i64 f.tag, .int .i64 f.sw, .int .i64 f.inn] 30)); have HF := Aside.mk (heapN (w.alloc (.cells #[.int .i64 s, .int .i64 p, .slice A ls.length c] 24)) (.cells #[.int .i64 f.id, .int .i64 f.src, .int .i64 f.dst, .int .i64 f.ttl, .int .i64 f.tag, .int .i64 f.sw, .int .i64 f.inn] 30) (i := w.heap.size + 1) (by simp)); have HFT := Aside.mk hf.2.2.2.1; clear hl hT hx hFx hdx hy hFy hdy hf
  have HM1 := Aside.mk h1
  have HM2 := Aside.mk h2
  clear h1 h2
  go_enter Try.func10, Try.ntmps10
  go_wp2_with (first | (go_at_call 26; refine (awake13_any _).mono ?_; rintro e1 w1 ⟨rfl, hb1⟩; have KB := Aside.mk (below_call KB.out hb1); have HX := Aside.mk (blk_keep HX.out hb1); have HF := Aside.mk (blk_keep HF.out hb1); clear hb1; have hlx := blk_lt HX.out; have t0 := blk_cell HX.out 0; have t1 := blk_cell HX.out 1; have t2 := blk_cell HX.out 2; simp at t0 t1 t2) | (have hfl := HFL; go_at_call 12; clear hfl HFL; refine (confMay_any s p A c ls y C e _ (HL.out.below KB.out) (HC.out.below KB.out)).mono ?_; rw [HM2.out]; rintro e3 w3 ⟨rfl, hb1⟩; clear t0 t1 t2 hlx; have KB := Aside.mk (below_call KB.out hb1); have HX := Aside.mk (blk_keep HX.out hb1); have HF := Aside.mk (blk_keep HF.out hb1); clear hb1) | (go_at_call 12; refine (confMay_any s p A c ls x B d _ (HL.out.below KB.out) (HA.out.below KB.out)).mono ?_; rw [HM1.out]; rintro e2 w2 ⟨rfl, hb1⟩; clear t0 t1 t2 hlx; have KB := Aside.mk (below_call KB.out hb1); have HX := Aside.mk (blk_keep HX.out hb1); have HF := Aside.mk (blk_keep HF.out hb1); clear hb1; have hlx := blk_lt HX.out; have t0 := blk_cell HX.out 0; have t1 := blk_cell HX.out 1; have t2 := blk_cell HX.out 2; simp at t0 t1 t2; have HFL : Aside True := .mk trivial))
  go_ret
  exact ⟨rfl, KB.out⟩
set_option maxHeartbeats 1000000 in
theorem pathTurned_n3 (s p : Int) (A : Option Addr) (c : Nat) (ls : List Lnk) (B : Option Addr) (d : Nat) (x : List (List Rul)) (C : Option Addr) (e : Nat) (y : List (List Rul)) (f : Fly) (w : World) (hl : Rd lnkD w A ls.length ls) (hT : FitT s p c ls) (hx : Rd confD w B x.length x) (hFx : ∀ l ∈ x, ∀ r ∈ l, FitR r) (hdx : x.length ≤ d) (hy : Rd confD w C y.length y) (hFy : ∀ l ∈ y, ∀ r ∈ l, FitR r) (hdy : y.length ≤ e) (hf : FitF f) (h1 : mayC s p ls x = true) (h2 : mayC s p ls y = true) (h3 : sameC x y = false) : Calls Try.prog 10 #[.agg #[.int .i64 s, .int .i64 p, .slice A ls.length c], .slice B x.length d, .slice C y.length e, flyV f] w fun e w' => e = .returned (.bool true) ∧ Below w.heap.size w w' := by
  have HL := Aside.mk hl; have HA := Aside.mk hx; have HC := Aside.mk hy; have hmx := hl.max; have hmy := hx.max; have hmz := hy.max; have KB := Aside.mk (below_alloc (below_alloc (Below.refl _ w) (.cells #[.int .i64 s, .int .i64 p, .slice A ls.length c] 24)) (.cells #[.int .i64 f.id, .int .i64 f.src, .int .i64 f.dst, .int .i64 f.ttl, .int .i64 f.tag, .int .i64 f.sw, .int .i64 f.inn] 30)); have HX := Aside.mk (heapO (heapN w (.cells #[.int .i64 s, .int .i64 p, .slice A ls.length c] 24) rfl) (.cells #[.int .i64 f.id, .int .i64 f.src, .int .i64 f.dst, .int .i64 f.ttl, .int .i64 f.tag, .int .i64 f.sw, .int .i64 f.inn] 30)); have HF := Aside.mk (heapN (w.alloc (.cells #[.int .i64 s, .int .i64 p, .slice A ls.length c] 24)) (.cells #[.int .i64 f.id, .int .i64 f.src, .int .i64 f.dst, .int .i64 f.ttl, .int .i64 f.tag, .int .i64 f.sw, .int .i64 f.inn] 30) (i := w.heap.size + 1) (by simp)); have HFT := Aside.mk hf.2.2.2.1; clear hl hT hx hFx hdx hy hFy hdy hf
  have HM1 := Aside.mk h1
  have HM2 := Aside.mk h2
  have HS := Aside.mk h3
  have HL1 : Aside (∀ l ∈ x, l.length ≤ 1000000) := .mk (fun l hl => Nat.le_trans (mayC_len h1 l hl) (by omega))
  have HL2 : Aside (∀ l ∈ y, l.length ≤ 1000000) := .mk (fun l hl => Nat.le_trans (mayC_len h2 l hl) (by omega))
  clear h1 h2 h3
  go_enter Try.func10, Try.ntmps10
  go_wp2_with (first | (go_at_call 26; refine (awake13_any _).mono ?_; rintro e1 w1 ⟨rfl, hb1⟩; have KB := Aside.mk (below_call KB.out hb1); have HX := Aside.mk (blk_keep HX.out hb1); have HF := Aside.mk (blk_keep HF.out hb1); clear hb1; have hlx := blk_lt HX.out; have t0 := blk_cell HX.out 0; have t1 := blk_cell HX.out 1; have t2 := blk_cell HX.out 2; simp at t0 t1 t2) | (have hfl := HFL; go_at_call 12; clear hfl HFL; refine (confMay_any s p A c ls y C e _ (HL.out.below KB.out) (HC.out.below KB.out)).mono ?_; rw [HM2.out]; rintro e3 w3 ⟨rfl, hb1⟩; clear t0 t1 t2 hlx; have KB := Aside.mk (below_call KB.out hb1); have HX := Aside.mk (blk_keep HX.out hb1); have HF := Aside.mk (blk_keep HF.out hb1); clear hb1) | (go_at_call 12; refine (confMay_any s p A c ls x B d _ (HL.out.below KB.out) (HA.out.below KB.out)).mono ?_; rw [HM1.out]; rintro e2 w2 ⟨rfl, hb1⟩; clear t0 t1 t2 hlx; have KB := Aside.mk (below_call KB.out hb1); have HX := Aside.mk (blk_keep HX.out hb1); have HF := Aside.mk (blk_keep HF.out hb1); clear hb1; have hlx := blk_lt HX.out; have t0 := blk_cell HX.out 0; have t1 := blk_cell HX.out 1; have t2 := blk_cell HX.out 2; simp at t0 t1 t2; have HFL : Aside True := .mk trivial) | (go_at_call 17; refine (confSame_any x y B C d e _ (HA.out.below KB.out) (HC.out.below KB.out) HL1.out HL2.out).mono ?_; rw [HS.out]; rintro e4 w4 ⟨rfl, hb1⟩; have KB := Aside.mk (below_call KB.out hb1); have HX := Aside.mk (blk_keep HX.out hb1); have HF := Aside.mk (blk_keep HF.out hb1); clear hb1))
  go_ret
  exact ⟨rfl, KB.out⟩
set_option maxHeartbeats 2000000 in
theorem pathTurned_main (s p : Int) (A : Option Addr) (c : Nat) (ls : List Lnk) (B : Option Addr) (d : Nat) (x : List (List Rul)) (C : Option Addr) (e : Nat) (y : List (List Rul)) (f : Fly) (w : World) (hl : Rd lnkD w A ls.length ls) (hT : FitT s p c ls) (hx : Rd confD w B x.length x) (hFx : ∀ l ∈ x, ∀ r ∈ l, FitR r) (hdx : x.length ≤ d) (hy : Rd confD w C y.length y) (hFy : ∀ l ∈ y, ∀ r ∈ l, FitR r) (hdy : y.length ≤ e) (hf : FitF f) (h1 : mayC s p ls x = true) (h2 : mayC s p ls y = true) (h3 : sameC x y = true) : Calls Try.prog 10 #[.agg #[.int .i64 s, .int .i64 p, .slice A ls.length c], .slice B x.length d, .slice C y.length e, flyV f] w fun e w' => e = .returned (.bool true) ∧ Below w.heap.size w w' := by
  have HL := Aside.mk hl; have HA := Aside.mk hx; have HC := Aside.mk hy; have hmx := hl.max; have hmy := hx.max; have hmz := hy.max; have KB := Aside.mk (below_alloc (below_alloc (Below.refl _ w) (.cells #[.int .i64 s, .int .i64 p, .slice A ls.length c] 24)) (.cells #[.int .i64 f.id, .int .i64 f.src, .int .i64 f.dst, .int .i64 f.ttl, .int .i64 f.tag, .int .i64 f.sw, .int .i64 f.inn] 30)); have HX := Aside.mk (heapO (heapN w (.cells #[.int .i64 s, .int .i64 p, .slice A ls.length c] 24) rfl) (.cells #[.int .i64 f.id, .int .i64 f.src, .int .i64 f.dst, .int .i64 f.ttl, .int .i64 f.tag, .int .i64 f.sw, .int .i64 f.inn] 30)); have HF := Aside.mk (heapN (w.alloc (.cells #[.int .i64 s, .int .i64 p, .slice A ls.length c] 24)) (.cells #[.int .i64 f.id, .int .i64 f.src, .int .i64 f.dst, .int .i64 f.ttl, .int .i64 f.tag, .int .i64 f.sw, .int .i64 f.inn] 30) (i := w.heap.size + 1) (by simp)); have HFT := Aside.mk hf.2.2.2.1; clear hl hT hx hFx hdx hy hFy hdy hf
  have HM1 := Aside.mk h1
  have HM2 := Aside.mk h2
  have HS := Aside.mk h3
  have HL1 : Aside (∀ l ∈ x, l.length ≤ 1000000) := .mk (fun l hl => Nat.le_trans (mayC_len h1 l hl) (by omega))
  have HL2 : Aside (∀ l ∈ y, l.length ≤ 1000000) := .mk (fun l hl => Nat.le_trans (mayC_len h2 l hl) (by omega))
  have HZ1 : Aside (∀ l ∈ x, l.length * 48 ≤ 140737488355328) := .mk (fun l hl => Nat.le_trans (Nat.mul_le_mul_right 48 (mayC_len h1 l hl)) (by omega))
  have HZ2 : Aside (∀ l ∈ y, l.length * 48 ≤ 140737488355328) := .mk (fun l hl => Nat.le_trans (Nat.mul_le_mul_right 48 (mayC_len h2 l hl)) (by omega))
  obtain ⟨H, hH⟩ : ∃ H, walkP s p ls x (cap16 f) = H := ⟨_, rfl⟩
  have HW1 := Aside.mk hH
  have HW2 := Aside.mk ((walk_same h1 h3 (cap16 f)).symm.trans hH)
  clear h1 h2 h3 hH
  go_enter Try.func10, Try.ntmps10
  go_wp2_with (first | (go_at_call 26; refine (awake13_any _).mono ?_; rintro e1 w1 ⟨rfl, hb1⟩; have KB := Aside.mk (below_call KB.out hb1); have HX := Aside.mk (blk_keep HX.out hb1); have HF := Aside.mk (blk_keep HF.out hb1); clear hb1; have hlx := blk_lt HX.out; have t0 := blk_cell HX.out 0; have t1 := blk_cell HX.out 1; have t2 := blk_cell HX.out 2; simp at t0 t1 t2) | (have hfl := HFL; go_at_call 12; clear hfl HFL; refine (confMay_any s p A c ls y C e _ (HL.out.below KB.out) (HC.out.below KB.out)).mono ?_; rw [HM2.out]; rintro e3 w3 ⟨rfl, hb1⟩; clear t0 t1 t2 hlx; have KB := Aside.mk (below_call KB.out hb1); have HX := Aside.mk (blk_keep HX.out hb1); have HF := Aside.mk (blk_keep HF.out hb1); clear hb1) | (go_at_call 12; refine (confMay_any s p A c ls x B d _ (HL.out.below KB.out) (HA.out.below KB.out)).mono ?_; rw [HM1.out]; rintro e2 w2 ⟨rfl, hb1⟩; clear t0 t1 t2 hlx; have KB := Aside.mk (below_call KB.out hb1); have HX := Aside.mk (blk_keep HX.out hb1); have HF := Aside.mk (blk_keep HF.out hb1); clear hb1; have hlx := blk_lt HX.out; have t0 := blk_cell HX.out 0; have t1 := blk_cell HX.out 1; have t2 := blk_cell HX.out 2; simp at t0 t1 t2; have HFL : Aside True := .mk trivial) | (go_at_call 17; refine (confSame_any x y B C d e _ (HA.out.below KB.out) (HC.out.below KB.out) HL1.out HL2.out).mono ?_; rw [HS.out]; rintro e4 w4 ⟨rfl, hb1⟩; have KB := Aside.mk (below_call KB.out hb1); have HX := Aside.mk (blk_keep HX.out hb1); have HF := Aside.mk (blk_keep HF.out hb1); clear hb1))
  generalize w4 = wr at *
  have hlt := blk_lt HX.out
  have hly := blk_lt HF.out
  have T0 := Aside.mk (show wr.cell? ⟨w.heap.size, 0, none⟩ = some (.int .i64 s) by simpa using blk_cell HX.out 0)
  have T1 := Aside.mk (show wr.cell? ⟨w.heap.size, 1, none⟩ = some (.int .i64 p) by simpa using blk_cell HX.out 1)
  have T2 := Aside.mk (show wr.cell? ⟨w.heap.size, 2, none⟩ = some (.slice A ls.length c) by simpa using blk_cell HX.out 2)
  have Y0 := Aside.mk (show wr.cell? ⟨w.heap.size + 1, 0, none⟩ = some (.int .i64 f.id) by simpa using blk_cell HF.out 0)
  have Y1 := Aside.mk (show wr.cell? ⟨w.heap.size + 1, 1, none⟩ = some (.int .i64 f.src) by simpa using blk_cell HF.out 1)
  have Y2 := Aside.mk (show wr.cell? ⟨w.heap.size + 1, 2, none⟩ = some (.int .i64 f.dst) by simpa using blk_cell HF.out 2)
  have Y3 := Aside.mk (show wr.cell? ⟨w.heap.size + 1, 3, none⟩ = some (.int .i64 f.ttl) by simpa using blk_cell HF.out 3)
  have Y4 := Aside.mk (show wr.cell? ⟨w.heap.size + 1, 4, none⟩ = some (.int .i64 f.tag) by simpa using blk_cell HF.out 4)
  have Y5 := Aside.mk (show wr.cell? ⟨w.heap.size + 1, 5, none⟩ = some (.int .i64 f.sw) by simpa using blk_cell HF.out 5)
  have Y6 := Aside.mk (show wr.cell? ⟨w.heap.size + 1, 6, none⟩ = some (.int .i64 f.inn) by simpa using blk_cell HF.out 6)
  refine wp_region_facts (Base := pztB s p A ls.length c B x.length d C y.length e f H wr) (q := pztQ) (Fs := pztF s p A ls.length c B x.length d C y.length e f H wr) (by kernel_rfl) (by kernel_rfl) (by kernel_rfl) (by kernel_rfl) (below_drew (Below.refl _ _)) ?_ ?_
  ·
    have hBs := pztB_stay s p A ls.length c B x.length d C y.length e f H wr
    have hFs := pztF_stay s p A ls.length c B x.length d C y.length e f H wr
    refine ⟨?_, ?_, ?_, ?_, ?_, ?_, ?_, ?_, ?_, ?_, trivial⟩
    · refine step_pure hBs hFs rfl fun a' w' hB hag hp => ?_
      have h4 := hag 4 (by kernel_rfl)
      have hB : Below wr.heap.size wr w' := hB; have t0 := (hB.cell (p := ⟨w.heap.size, 0, none⟩) hlt).trans T0.out; have t1 := (hB.cell (p := ⟨w.heap.size, 1, none⟩) hlt).trans T1.out; have t2 := (hB.cell (p := ⟨w.heap.size, 2, none⟩) hlt).trans T2.out; have y0 := (hB.cell (p := ⟨w.heap.size + 1, 0, none⟩) hly).trans Y0.out; have y1 := (hB.cell (p := ⟨w.heap.size + 1, 1, none⟩) hly).trans Y1.out; have y2 := (hB.cell (p := ⟨w.heap.size + 1, 2, none⟩) hly).trans Y2.out; have y3 := (hB.cell (p := ⟨w.heap.size + 1, 3, none⟩) hly).trans Y3.out; have y4 := (hB.cell (p := ⟨w.heap.size + 1, 4, none⟩) hly).trans Y4.out; have y5 := (hB.cell (p := ⟨w.heap.size + 1, 5, none⟩) hly).trans Y5.out; have y6 := (hB.cell (p := ⟨w.heap.size + 1, 6, none⟩) hly).trans Y6.out
      simp at h4
      unfold OpYields
      go_simp
      exact ⟨Below.refl _ _, rfl⟩
    · refine step_pure hBs hFs rfl fun a' w' hB hag hp => ?_
      have h1 := hag 1 (by kernel_rfl)
      simp at h1
      unfold OpYields
      go_simp
      exact ⟨Below.refl _ _, rfl⟩
    · refine step_pure hBs hFs rfl fun a' w' hB hag hp => ?_
      have h7 := hag 7 (by kernel_rfl)
      have hB : Below wr.heap.size wr w' := hB; have t0 := (hB.cell (p := ⟨w.heap.size, 0, none⟩) hlt).trans T0.out; have t1 := (hB.cell (p := ⟨w.heap.size, 1, none⟩) hlt).trans T1.out; have t2 := (hB.cell (p := ⟨w.heap.size, 2, none⟩) hlt).trans T2.out; have y0 := (hB.cell (p := ⟨w.heap.size + 1, 0, none⟩) hly).trans Y0.out; have y1 := (hB.cell (p := ⟨w.heap.size + 1, 1, none⟩) hly).trans Y1.out; have y2 := (hB.cell (p := ⟨w.heap.size + 1, 2, none⟩) hly).trans Y2.out; have y3 := (hB.cell (p := ⟨w.heap.size + 1, 3, none⟩) hly).trans Y3.out; have y4 := (hB.cell (p := ⟨w.heap.size + 1, 4, none⟩) hly).trans Y4.out; have y5 := (hB.cell (p := ⟨w.heap.size + 1, 5, none⟩) hly).trans Y5.out; have y6 := (hB.cell (p := ⟨w.heap.size + 1, 6, none⟩) hly).trans Y6.out
      simp at h7
      unfold OpYields
      go_simp
      exact ⟨Below.refl _ _, rfl⟩
    · refine step_pure hBs hFs rfl fun a' w' hB hag hp => ?_
      have h33 : a'.tmps.getD 33 undef = _ := hp 0 (by kernel_rfl)
      have h34 : a'.tmps.getD 34 undef = _ := hp 1 (by kernel_rfl)
      have h35 : a'.tmps.getD 35 undef = _ := hp 2 (by kernel_rfl)
      have hB0 : Below wr.heap.size wr w' := hB
      simp at h33 h34 h35
      unfold OpYields
      go_simp
      refine (walk_any s p A c ls B d x f w' (HL.out.below (below_call KB.out hB0)) (HA.out.below (below_call KB.out hB0)) HZ1.out HFT.out).mono ?_
      rw [HW1.out]
      rintro e w1 ⟨v, rfl, ho, hb⟩
      exact ⟨_, rfl, hb, ho.mono hB0.size⟩
    · refine step_pure hBs hFs rfl fun a' w' hB hag hp => ?_
      have h4 := hag 4 (by kernel_rfl)
      have hB : Below wr.heap.size wr w' := hB; have t0 := (hB.cell (p := ⟨w.heap.size, 0, none⟩) hlt).trans T0.out; have t1 := (hB.cell (p := ⟨w.heap.size, 1, none⟩) hlt).trans T1.out; have t2 := (hB.cell (p := ⟨w.heap.size, 2, none⟩) hlt).trans T2.out; have y0 := (hB.cell (p := ⟨w.heap.size + 1, 0, none⟩) hly).trans Y0.out; have y1 := (hB.cell (p := ⟨w.heap.size + 1, 1, none⟩) hly).trans Y1.out; have y2 := (hB.cell (p := ⟨w.heap.size + 1, 2, none⟩) hly).trans Y2.out; have y3 := (hB.cell (p := ⟨w.heap.size + 1, 3, none⟩) hly).trans Y3.out; have y4 := (hB.cell (p := ⟨w.heap.size + 1, 4, none⟩) hly).trans Y4.out; have y5 := (hB.cell (p := ⟨w.heap.size + 1, 5, none⟩) hly).trans Y5.out; have y6 := (hB.cell (p := ⟨w.heap.size + 1, 6, none⟩) hly).trans Y6.out
      simp at h4
      unfold OpYields
      go_simp
      exact ⟨Below.refl _ _, rfl⟩
    · refine step_pure hBs hFs rfl fun a' w' hB hag hp => ?_
      have h2 := hag 2 (by kernel_rfl)
      simp at h2
      unfold OpYields
      go_simp
      exact ⟨Below.refl _ _, rfl⟩
    · refine step_pure hBs hFs rfl fun a' w' hB hag hp => ?_
      have h7 := hag 7 (by kernel_rfl)
      have hB : Below wr.heap.size wr w' := hB; have t0 := (hB.cell (p := ⟨w.heap.size, 0, none⟩) hlt).trans T0.out; have t1 := (hB.cell (p := ⟨w.heap.size, 1, none⟩) hlt).trans T1.out; have t2 := (hB.cell (p := ⟨w.heap.size, 2, none⟩) hlt).trans T2.out; have y0 := (hB.cell (p := ⟨w.heap.size + 1, 0, none⟩) hly).trans Y0.out; have y1 := (hB.cell (p := ⟨w.heap.size + 1, 1, none⟩) hly).trans Y1.out; have y2 := (hB.cell (p := ⟨w.heap.size + 1, 2, none⟩) hly).trans Y2.out; have y3 := (hB.cell (p := ⟨w.heap.size + 1, 3, none⟩) hly).trans Y3.out; have y4 := (hB.cell (p := ⟨w.heap.size + 1, 4, none⟩) hly).trans Y4.out; have y5 := (hB.cell (p := ⟨w.heap.size + 1, 5, none⟩) hly).trans Y5.out; have y6 := (hB.cell (p := ⟨w.heap.size + 1, 6, none⟩) hly).trans Y6.out
      simp at h7
      unfold OpYields
      go_simp
      exact ⟨Below.refl _ _, rfl⟩
    · refine step_pure hBs hFs rfl fun a' w' hB hag hp => ?_
      have h37 : a'.tmps.getD 37 undef = _ := hp 4 (by kernel_rfl)
      have h38 : a'.tmps.getD 38 undef = _ := hp 5 (by kernel_rfl)
      have h39 : a'.tmps.getD 39 undef = _ := hp 6 (by kernel_rfl)
      have hB0 : Below wr.heap.size wr w' := hB
      simp at h37 h38 h39
      unfold OpYields
      go_simp
      refine (walk_any s p A c ls C e y f w' (HL.out.below (below_call KB.out hB0)) (HC.out.below (below_call KB.out hB0)) HZ2.out HFT.out).mono ?_
      rw [HW2.out]
      rintro e w1 ⟨v, rfl, ho, hb⟩
      exact ⟨_, rfl, hb, ho.mono hB0.size⟩
    · refine step_pure hBs hFs rfl fun a' w' hB hag hp => ?_
      have h36 := hp 3 (by kernel_rfl)
      replace h36 : _ := h36
      have h40 := hp 7 (by kernel_rfl)
      replace h40 : _ := h40
      have h36' : Own hopF w' wr.heap.size 41 (a'.tmps.getD 36 undef) H := h36
      have h40' : Own hopF w' wr.heap.size 41 (a'.tmps.getD 40 undef) H := h40
      clear h36 h40
      obtain ⟨AS, kS, hvS, -, hrS⟩ := h36'.rd
      obtain ⟨AT, kT, hvT, -, hrT⟩ := h40'.rd
      simp at hvS hvT
      unfold OpYields
      go_simp
      refine (sameH_any H H AS AT kS kT w' hrS hrT).mono ?_
      rw [decide_eq_true rfl]
      rintro e w1 ⟨rfl, hb⟩
      exact ⟨_, rfl, hb, rfl⟩
    · refine step_pure hBs hFs rfl fun a' w' hB hag hp => ?_
      have h41 : a'.tmps.getD 41 undef = _ := hp 8 (by kernel_rfl)
      simp at h41
      unfold OpYields
      go_simp
      exact ⟨Below.refl _ _, rfl⟩
  intro vs w' hB hF
  simp only [AllF, forall_const, reduceCtorEq, false_implies, Fof, pztF, pztQ, Nat.zero_add, Nat.reduceAdd, Nat.reduceEqDiff, if_true, if_false, List.getD_cons_succ, List.getD_cons_zero] at hF
  obtain ⟨f0, f1, f2, -, f4, f5, f6, -, f8, f9, -⟩ := hF
  simp only [putAll, Act.put, Nat.zero_add, Nat.reduceAdd, f0, f1, f2, f4, f5, f6, f8, f9, List.setIfInBounds_toArray, List.set_cons_zero, List.set_cons_succ]
  have KB := Aside.mk (below_call KB.out hB)
  clear hB
  go_wp2
  go_ret
  exact ⟨rfl, KB.out⟩
theorem pathTurned_walk (s p : Int) (A : Option Addr) (c : Nat) (ls : List Lnk) (B : Option Addr) (d : Nat) (x : List (List Rul)) (C : Option Addr) (e : Nat) (y : List (List Rul)) (f : Fly) (w : World) (hl : Rd lnkD w A ls.length ls) (hT : FitT s p c ls) (hx : Rd confD w B x.length x) (hFx : ∀ l ∈ x, ∀ r ∈ l, FitR r) (hdx : x.length ≤ d) (hy : Rd confD w C y.length y) (hFy : ∀ l ∈ y, ∀ r ∈ l, FitR r) (hdy : y.length ≤ e) (hf : FitF f) : Calls Try.prog 10 #[.agg #[.int .i64 s, .int .i64 p, .slice A ls.length c], .slice B x.length d, .slice C y.length e, flyV f] w fun e w' => e = .returned (.bool true) ∧ Below w.heap.size w w' := by
  cases h1 : mayC s p ls x
  · exact pathTurned_n1 s p A c ls B d x C e y f w hl hT hx hFx hdx hy hFy hdy hf h1
  cases h2 : mayC s p ls y
  · exact pathTurned_n2 s p A c ls B d x C e y f w hl hT hx hFx hdx hy hFy hdy hf h1 h2
  cases h3 : sameC x y
  · exact pathTurned_n3 s p A c ls B d x C e y f w hl hT hx hFx hdx hy hFy hdy hf h1 h2 h3
  · exact pathTurned_main s p A c ls B d x C e y f w hl hT hx hFx hdx hy hFy hdy hf h1 h2 h3
end Go.Proofs.Ytlnnkkbcmidddaa
namespace Go.Proofs.Ytlnnkkbcmidddaa
open Go.ChangeShapes Go.WideShapes Go.ChangeAt Go.RowKit
set_option maxRecDepth 100000 in
theorem pathTurned_lifted (os : Os) (started : os.Started) (H : Type) (enc : TypeId × Value → H) :
    ReturnsInHanded {} Try.checked os 10 .any (Rows.pathTurnedSpec.pre6 enc Try.prog Try.f10 Rows.pathTurnedRow.domain false) (Rows.pathTurnedSpec.post enc Try.prog Try.f10 false true false false) := by
  refine returnsInHanded_of_change_sized (C := Try.checked) own started (by kernel_rfl) Try.func10
    (ChangeSpec.witness6 (enc := enc) (C := Try.checked) false ⟨#[], #[.agg #[.int .i64 0, .int .i64 0, .slice none 0 0], .slice none 0 0, .slice none 0 0, .agg #[.int .i64 0, .int .i64 0, .int .i64 0, .int .i64 0, .int .i64 0, .int .i64 0, .int .i64 0]], []⟩ 8 (by kernel_rfl) (by kernel_rfl) (by kernel_rfl) (by kernel_rfl)) ?_
  intro W base args ds gs before hval0 hW hcnd hsz0 _
  have hval : ∀ (j : Nat) t v, Try.f10.params[j]? = some t → args[j]? = some v → Value.okWide Try.prog W .any base t v := hval0
  have hW' := hW
  obtain ⟨p, q, hA0, hV, rfl, hfz, hnd⟩ := hW
  have hA : DataW.TrodAll enc Try.prog W 0 (fun _ => true) true Try.f10.params.toList args.toList ds p := hA0
  have hA' := hA
  rw [Try.params10] at hA hval
  obtain ⟨v0, vs0, d0, ds0, p0, q0, hargs, rfl, rfl, h0, r0⟩ := trodAll_cons hA
  obtain ⟨v1, vs1, d1, ds1, p1, q1, rfl, rfl, rfl, h1, r1⟩ := trodAll_cons r0
  obtain ⟨v2, vs2, d2, ds2, p2, q2, rfl, rfl, rfl, h2, r2⟩ := trodAll_cons r1
  obtain ⟨v3, vs3, d3, ds3, p3, q3, rfl, rfl, rfl, h3, r3⟩ := trodAll_cons r2
  obtain ⟨rfl, rfl, rfl⟩ := trodAll_nil r3
  obtain rfl : args = #[v0, v1, v2, v3] := by cases args; simp_all
  obtain ⟨rfl, rfl⟩ := trodVars_none hV
  obtain ⟨s0, t0, A0, c0, l0, rfl, o0, w0⟩ := open_topo (hval 0 24 v0 rfl rfl) h0
  obtain ⟨A1, c1, l1, rfl, o1, w1, e1⟩ := open_conf (hval 1 26 v1 rfl rfl) h1
  obtain ⟨A2, c2, l2, rfl, o2, w2, e2⟩ := open_conf (hval 2 26 v2 rfl rfl) h2
  obtain ⟨x3, rfl, o3⟩ := open_fly (hval 3 30 v3 rfl rfl) h3
  clear hA0 hval0 hsz0
  refine (pathTurned_walk s0 t0 A0 c0 l0 A1 c1 l1 A2 c2 l2 x3 W o0 w0 o1 w1 e1 o2 w2 e2 o3).mono fun e W' ⟨he, bel⟩ => ?_
  subst he
  exact ⟨_, rfl, law_post hW' ⟨_, hA'⟩ rfl bel (by kernel_rfl) (by unfold rowed; rw [Try.params10]; intro t ht; simp at ht; rcases ht with rfl | rfl | rfl <;> exact ⟨by kernel_rfl, by decide +kernel⟩) rfl rfl⟩
theorem pathTurned_holds : Rows.PathTurnedSaid :=
  OpenClaim.holds_of_wide 10 Try.f10 rfl rfl rfl rfl rfl rfl rfl ⟨rfl, rfl, rfl, rfl, rfl⟩ rfl rfl rfl rfl rfl (by kernel_rfl) Try.func10 (by kernel_rfl)
    (of_decide_eq_true (by kernel_rfl)) (by unfold Func.isWrapper; first | (rw [if_pos (by decide +kernel)]; kernel_rfl) | (rw [if_neg (by decide +kernel)]; exact ⟨rfl, rfl⟩))
    (fun os started H enc _ => pathTurned_lifted os started H enc)
#print axioms pathTurned_holds
end Go.Proofs.Ytlnnkkbcmidddaa
