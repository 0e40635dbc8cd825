/- The walk through ConfPorts. -/
import Derived.Test.YtlnnkkbcmidddaaConfO
import Derived.Test.YtlnnkkbcmidddaaOpens
import Derived.Test.YtlnnkkbcmidddaaMayD
namespace Go.Proofs.Ytlnnkkbcmidddaa
open Go.RowKit
set_option maxRecDepth 100000
theorem mayT_bounds {s p : Int} {ls : List Lnk} (h : mayT s p ls = true) : 1 ≤ s ∧ s ≤ 6 ∧ 1 ≤ p ∧ p ≤ 8 ∧ ls.length ≤ 12 := by
  unfold mayT at h
  simp only [Bool.and_eq_true, decide_eq_true_eq] at h
  exact h.1.1
theorem mayT_ports {s p : Int} {ls : List Lnk} (h : mayT s p ls = true) : mayT s 8 ls = true := by
  have hb := mayT_bounds h
  unfold mayT at h ⊢
  simp only [Bool.and_eq_true, decide_eq_true_eq, List.all_eq_true] at h ⊢
  refine ⟨⟨⟨hb.1, hb.2.1, by decide, by decide, hb.2.2.2.2⟩, fun x hx => ?_⟩, h.2⟩
  have := h.1.2 x hx
  unfold isEnd at this ⊢
  simp only [Bool.and_eq_true, decide_eq_true_eq] at this ⊢
  omega
theorem mayT_nil {s p : Int} {ls : List Lnk} (h : mayT s p ls = true) : mayT s p [] = true := by
  have hb := mayT_bounds h
  unfold mayT
  simp only [Bool.and_eq_true, decide_eq_true_eq]
  exact ⟨⟨⟨hb.1, hb.2.1, hb.2.2.1, hb.2.2.2.1, by simp⟩, rfl⟩, rfl⟩
theorem okR_ports {p : Int} {r : Rul} (h : okR p r = true) : okR 8 r = true := by
  unfold okR at h ⊢
  simp only [Bool.and_eq_true, decide_eq_true_eq] at h
  obtain ⟨⟨h1, -⟩, -⟩ := h
  have hb := mayI_iff r
  rw [h1] at hb
  have hb2 := hb.1 rfl
  rw [h1, decide_eq_true (show r.inn < 8 by omega), decide_eq_false (show ¬ (8 : Int) ≤ r.port by omega)]
  simp
theorem rulesP_ports {p : Int} {l : List Rul} (h : rulesP p l = true) : rulesP 8 l = true := by
  unfold rulesP at h ⊢
  simp only [Bool.and_eq_true, decide_eq_true_eq, List.all_eq_true] at h ⊢
  exact ⟨h.1, fun r hr => okR_ports (h.2 r hr)⟩
theorem mayC_parts {s p : Int} {ls : List Lnk} {cs : List (List Rul)} (h : mayC s p ls cs = true) : mayT s p ls = true ∧ (cs.length : Int) = s ∧ ∀ l ∈ cs, rulesP p l = true := by
  unfold mayC at h
  simp only [Bool.and_eq_true, decide_eq_true_eq, List.all_eq_true] at h
  exact ⟨h.1.1, h.1.2, h.2⟩
theorem mayC_mk {s p : Int} {ls : List Lnk} {cs : List (List Rul)} (h1 : mayT s p ls = true) (h2 : (cs.length : Int) = s) (h3 : ∀ l ∈ cs, rulesP p l = true) : mayC s p ls cs = true := by
  unfold mayC
  rw [h1, decide_eq_true h2, List.all_eq_true.2 h3]
  rfl
theorem rulesP_len {p : Int} {l : List Rul} (h : rulesP p l = true) : l.length ≤ 40 := by
  unfold rulesP at h
  simp only [Bool.and_eq_true, decide_eq_true_eq] at h
  exact h.1.1
set_option maxHeartbeats 1000000 in
theorem confPorts_not (s p : Int) (A : Option Addr) (c : Nat) (ls : List Lnk) (B : Option Addr) (d : Nat) (x : List (List Rul)) (w : World) (hl : Rd lnkD w A ls.length ls) (hT : FitT s p c ls) (hx : Rd confD w B x.length x) (hFx : ∀ l ∈ x, ∀ r ∈ l, FitR r) (hdx : x.length ≤ d) (hm : mayC s p ls x = false) : Calls Try.prog 6 #[.agg #[.int .i64 s, .int .i64 p, .slice A ls.length c], .slice B x.length d] w fun e w' => e = .returned (.bool true) ∧ Below w.heap.size w w' := by
  have HL := Aside.mk hl; have HA := Aside.mk hx; have hmx := hl.max; have hmy := hx.max; have KB := Aside.mk (below_alloc (Below.refl _ w) (.cells #[.int .i64 s, .int .i64 p, .slice A ls.length c] 24)); have HX := Aside.mk (heapN w (.cells #[.int .i64 s, .int .i64 p, .slice A ls.length c] 24) rfl); clear hl hT hx hFx hdx
  have HM := Aside.mk hm
  clear hm
  go_enter Try.func6, Try.ntmps6
  go_wp2_with (first | (go_at_call 16; refine (awake12_any _).mono ?_; rintro e1 w1 ⟨rfl, hb1⟩; have KB := Aside.mk (below_call KB.out hb1); have HX := Aside.mk (blk_keep HX.out hb1); have hlx := blk_lt HX.out; have t0 := blk_cell HX.out 0; have t1 := blk_cell HX.out 1; have t2 := blk_cell HX.out 2; simp at t0 t1 t2; clear hb1) | (go_at_call 12; refine (confMay_any s p A c ls x B d _ (HL.out.below KB.out) (HA.out.below KB.out)).mono ?_; rw [HM.out]; rintro e3 w3 ⟨rfl, hb1⟩; have KB := Aside.mk (below_call KB.out hb1); have HX := Aside.mk (blk_keep HX.out hb1); clear t0 t1 t2 hlx; have hlx := blk_lt HX.out; have t0 := blk_cell HX.out 0; have t1 := blk_cell HX.out 1; have t2 := blk_cell HX.out 2; simp at t0 t1 t2; clear hb1; have hl2 : w.heap.size < w3.heap.size + 1 := (by omega); have hl3 : w.heap.size < w3.heap.size + 1 + 1 := (by omega); have HF1 : Aside True := .mk trivial))
  go_ret
  exact ⟨rfl, KB.out⟩
set_option maxHeartbeats 1000000 in
theorem confPorts_main (s p : Int) (A : Option Addr) (c : Nat) (ls : List Lnk) (B : Option Addr) (d : Nat) (x : List (List Rul)) (w : World) (hl : Rd lnkD w A ls.length ls) (hT : FitT s p c ls) (hx : Rd confD w B x.length x) (hFx : ∀ l ∈ x, ∀ r ∈ l, FitR r) (hdx : x.length ≤ d) (hm : mayC s p ls x = true) : Calls Try.prog 6 #[.agg #[.int .i64 s, .int .i64 p, .slice A ls.length c], .slice B x.length d] w fun e w' => e = .returned (.bool true) ∧ Below w.heap.size w w' := by
  have HL := Aside.mk hl; have HA := Aside.mk hx; have hmx := hl.max; have hmy := hx.max; have KB := Aside.mk (below_alloc (Below.refl _ w) (.cells #[.int .i64 s, .int .i64 p, .slice A ls.length c] 24)); have HX := Aside.mk (heapN w (.cells #[.int .i64 s, .int .i64 p, .slice A ls.length c] 24) rfl); clear hl hT hx hFx hdx
  have HM := Aside.mk hm
  obtain ⟨h1, h2, h3⟩ := mayC_parts hm
  have hs := mayT_bounds h1
  have s0 := hs.1
  have s1 := hs.2.1
  have HU := Aside.mk (mayC_mk (mayT_ports h1) h2 (fun l hl => rulesP_ports (h3 l hl)))
  have HV := Aside.mk (mayC_mk (mayT_nil h1) h2 h3)
  have HW : Aside (mayC (s + 1) p ls x = false) := .mk (by
    unfold mayC
    rw [decide_eq_false (show ¬ (x.length : Int) = s + 1 by omega)]
    simp)
  clear hm h1 h2 h3 hs
  go_enter Try.func6, Try.ntmps6
  go_wp2_with (first | (go_at_call 16; refine (awake12_any _).mono ?_; rintro e1 w1 ⟨rfl, hb1⟩; have KB := Aside.mk (below_call KB.out hb1); have HX := Aside.mk (blk_keep HX.out hb1); have hlx := blk_lt HX.out; have t0 := blk_cell HX.out 0; have t1 := blk_cell HX.out 1; have t2 := blk_cell HX.out 2; simp at t0 t1 t2; clear hb1) | (have hfl := HF3; go_at_call 12; clear hfl HF3; refine (confMay_any (s + 1) p A c ls x B d _ (HL.out.below KB.out) (HA.out.below KB.out)).mono ?_; rw [HW.out]; rintro e6 w6 ⟨rfl, hb1⟩; have KB := Aside.mk (below_call KB.out hb1); clear hb1) | (have hfl := HF2; go_at_call 12; clear hfl HF2; refine (confMay_any s p none 0 [] x B d _ (Rd.nil _ _ _) (HA.out.below KB.out)).mono ?_; rw [HV.out]; rintro e5 w5 ⟨rfl, hb1⟩; have HX := Aside.mk (blk_keep HX3.out hb1); have KB := Aside.mk (below_call KB.out hb1); clear t0 t1 t2 hlx HX3; have hlx := blk_lt HX.out; have t0 := blk_cell HX.out 0; have t1 := blk_cell HX.out 1; have t2 := blk_cell HX.out 2; simp at t0 t1 t2; clear hb1; have HF3 : Aside True := .mk trivial) | (have hfl := HF1; go_at_call 12; clear hfl HF1; have KB := Aside.mk (below_alloc (below_alloc (below_alloc KB.out (.cells #[.int .i64 s, .int .i64 8, .slice A ls.length c] 24)) (.cells #[.int .i64 s, .int .i64 p, .slice none 0 0] 24)) (.cells #[.int .i64 (s + 1), .int .i64 p, .slice A ls.length c] 24)); refine (confMay_any s 8 A c ls x B d _ (HL.out.below KB.out) (HA.out.below KB.out)).mono ?_; rw [HU.out]; rintro e4 w4 ⟨rfl, hb1⟩; have HX2 := Aside.mk (blk_keep (heapO (heapN (w3.alloc (.cells #[.int .i64 s, .int .i64 8, .slice A ls.length c] 24)) (.cells #[.int .i64 s, .int .i64 p, .slice none 0 0] 24) (i := w3.heap.size + 1) (by simp)) (.cells #[.int .i64 (s + 1), .int .i64 p, .slice A ls.length c] 24)) hb1); have HX3 := Aside.mk (blk_keep (heapN ((w3.alloc (.cells #[.int .i64 s, .int .i64 8, .slice A ls.length c] 24)).alloc (.cells #[.int .i64 s, .int .i64 p, .slice none 0 0] 24)) (.cells #[.int .i64 (s + 1), .int .i64 p, .slice A ls.length c] 24) (i := w3.heap.size + 1 + 1) (by simp)) hb1); have KB := Aside.mk (below_call KB.out hb1); clear t0 t1 t2 hlx HX; have HX := HX2; have hlx := blk_lt HX.out; have t0 := blk_cell HX.out 0; have t1 := blk_cell HX.out 1; have t2 := blk_cell HX.out 2; simp at t0 t1 t2; clear hb1 HX2; have HF2 : Aside True := .mk trivial) | (go_at_call 12; refine (confMay_any s p A c ls x B d _ (HL.out.below KB.out) (HA.out.below KB.out)).mono ?_; rw [HM.out]; rintro e3 w3 ⟨rfl, hb1⟩; have KB := Aside.mk (below_call KB.out hb1); have HX := Aside.mk (blk_keep HX.out hb1); clear t0 t1 t2 hlx; have hlx := blk_lt HX.out; have t0 := blk_cell HX.out 0; have t1 := blk_cell HX.out 1; have t2 := blk_cell HX.out 2; simp at t0 t1 t2; clear hb1; have hl2 : w.heap.size < w3.heap.size + 1 := (by omega); have hl3 : w.heap.size < w3.heap.size + 1 + 1 := (by omega); have HF1 : Aside True := .mk trivial))
  go_ret
  exact ⟨rfl, KB.out⟩
theorem confPorts_walk (s p : Int) (A : Option Addr) (c : Nat) (ls : List Lnk) (B : Option Addr) (d : Nat) (x : List (List Rul)) (w : World) (hl : Rd lnkD w A ls.length ls) (hT : FitT s p c ls) (hx : Rd confD w B x.length x) (hFx : ∀ l ∈ x, ∀ r ∈ l, FitR r) (hdx : x.length ≤ d) : Calls Try.prog 6 #[.agg #[.int .i64 s, .int .i64 p, .slice A ls.length c], .slice B x.length d] w fun e w' => e = .returned (.bool true) ∧ Below w.heap.size w w' := by
  cases hm : mayC s p ls x
  · exact confPorts_not s p A c ls B d x w hl hT hx hFx hdx hm
  · exact confPorts_main s p A c ls B d x w hl hT hx hFx hdx hm
end Go.Proofs.Ytlnnkkbcmidddaa
