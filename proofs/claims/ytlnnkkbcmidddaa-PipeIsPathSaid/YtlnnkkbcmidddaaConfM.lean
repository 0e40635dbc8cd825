/- The walks through conf.May, Most, and the document's. -/
import Derived.Test.YtlnnkkbcmidddaaConfR
import Derived.Test.YtlnnkkbcmidddaaConfA
import Derived.Test.YtlnnkkbcmidddaaTopoM
namespace Go.Proofs.Ytlnnkkbcmidddaa
open Go.RowKit
set_option maxRecDepth 100000
def mayC (s p : Int) (ls : List Lnk) (cs : List (List Rul)) : Bool := mayT s p ls && decide ((cs.length : Int) = s) && cs.all (rulesP p)
theorem allC_snoc {l : List (List Rul)} {k : Nat} {f : List Rul → Bool} (h : k < l.length) : (l.take (k + 1)).all f = ((l.take k).all f && f l[k]) := by
  rw [List.take_succ_eq_append_getElem h, List.all_append]
  simp
theorem allC_not {l : List (List Rul)} {k : Nat} {f : List Rul → Bool} (h : k < l.length) (hf : f l[k] = false) : l.all f = false := by
  rw [List.all_eq_false]
  exact ⟨l[k], List.getElem_mem h, by simp [hf]⟩
set_option maxHeartbeats 1000000 in
theorem confMay_any (s p : Int) (A : Option Addr) (c : Nat) (ls : List Lnk) (cs : List (List Rul)) (C : Option Addr) (d : Nat) (w : World) (hl : Rd lnkD w A ls.length ls) (hc : Rd confD w C cs.length cs) :
    Calls Try.prog 12 #[.agg #[.int .i64 s, .int .i64 p, .slice A ls.length c], .slice C cs.length d] w fun e w' => e = .returned (.bool (mayC s p ls cs)) ∧ Below w.heap.size w w' := by
  have HL := Aside.mk hl; have HC := Aside.mk hc; have hmx := hc.max; have KB := Aside.mk (below_alloc (Below.refl _ w) (.cells #[.int .i64 s, .int .i64 p, .slice A ls.length c] 24)); have HX := Aside.mk (heapN w (.cells #[.int .i64 s, .int .i64 p, .slice A ls.length c] 24) rfl); have HE := Aside.mk (show mayC s p ls cs = (mayT s p ls && decide ((cs.length : Int) = s) && cs.all (rulesP p)) from rfl); clear hl hc
  cases hm : mayT s p ls
  · have HM := Aside.mk hm
    rw [show mayC s p ls cs = false by rw [HE.out, hm]; rfl]
    clear hm
    go_enter Try.func12, Try.ntmps12
    go_wp2_with (go_at_call 30; refine (may_any s p A c ls _ (HL.out.below KB.out)).mono ?_; rw [HM.out]; rintro e w1 ⟨rfl, hb1⟩; have KB := Aside.mk (below_call KB.out hb1); have HX := Aside.mk (blk_keep HX.out hb1); have hlx := blk_lt HX.out; have x0 := blk_cell HX.out 0; have x1 := blk_cell HX.out 1; have x2 := blk_cell HX.out 2; simp at x0 x1 x2; clear hb1)
    go_ret
    exact ⟨rfl, KB.out⟩
  have HM := Aside.mk hm
  by_cases hs : (cs.length : Int) = s
  · have d1 : ((cs.length : Int) != s) = false := by rw [hs]; exact bne_self_eq_false _
    have HR := Aside.mk (show mayC s p ls cs = cs.all (rulesP p) by rw [HE.out, hm, decide_eq_true hs]; simp)
    clear hm hs
    go_enter Try.func12, Try.ntmps12
    go_wp2_with (go_at_call 30; refine (may_any s p A c ls _ (HL.out.below KB.out)).mono ?_; rw [HM.out]; rintro e w1 ⟨rfl, hb1⟩; have KB := Aside.mk (below_call KB.out hb1); have HX := Aside.mk (blk_keep HX.out hb1); have hlx := blk_lt HX.out; have x0 := blk_cell HX.out 0; have x1 := blk_cell HX.out 1; have x2 := blk_cell HX.out 2; simp at x0 x1 x2; clear hb1)
    clear d1 x0 x1 x2
    go_loopw [19] (fun i wr => ∃ k : Nat, k ≤ cs.length ∧ i = .int .i64 k ∧ (cs.take k).all (rulesP p) = true ∧ Below w.heap.size w wr ∧ wr.heap[w.heap.size]? = some (.cells #[.int .i64 s, .int .i64 p, .slice A ls.length c] 24)) (fun i _ => cs.length - (intOf i).toNat)
    case atStart => exact ⟨0, Nat.zero_le _, rfl, by simp, KB.out, HX.out⟩
    case round =>
      obtain ⟨k, hk, rfl, hs, hb, hx⟩ := hrel
      have HS := Aside.mk hs
      have KB := Aside.mk hb
      have HX := Aside.mk hx
      clear hs hx
      by_cases hk2 : k < cs.length
      · obtain ⟨b, o, A', n', rfl, hbl, hcell, -, -, hr⟩ := conf_cell HC.out hb hk2
        have HT := Aside.mk (allC_snoc (f := rulesP p) hk2)
        have HN := Aside.mk (fun h => allC_not (f := rulesP p) hk2 h)
        obtain ⟨l, hx⟩ : ∃ x, cs[k] = x := ⟨_, rfl⟩
        rw [hx] at hcell hr HT HN
        have HRL := Aside.mk (hr.below hb)
        clear hx hb hr
        have hlx := blk_lt HX.out; have x0 := blk_cell HX.out 0; have x1 := blk_cell HX.out 1; have x2 := blk_cell HX.out 2; simp at x0 x1 x2
        cases ho : rulesP p l
        · have HO := Aside.mk ho
          have HA := Aside.mk (HN.out ho)
          clear ho
          go_wp2_with (go_at_call 31; refine (rules_any s p A c ls l A' n' _ HRL.out).mono ?_; rw [HO.out]; rintro e w2 ⟨rfl, hb1⟩; have KB := Aside.mk (below_call KB.out hb1); clear hb1)
          go_ret
          exact ⟨ret_bool (by rw [HR.out, HA.out]), KB.out⟩
        · have HO := Aside.mk ho
          have HA := Aside.mk (show (cs.take (k + 1)).all (rulesP p) = true by rw [HT.out, HS.out, ho]; rfl)
          clear ho
          go_wp2_with (go_at_call 31; refine (rules_any s p A c ls l A' n' _ HRL.out).mono ?_; rw [HO.out]; rintro e w2 ⟨rfl, hb1⟩; have KB := Aside.mk (below_call KB.out hb1); have HX := Aside.mk (blk_keep HX.out hb1); clear hb1)
          exact ⟨⟨k + 1, by omega, by go_num, HA.out, KB.out, HX.out⟩, by simp [intOf]; omega⟩
      · obtain rfl : k = cs.length := by omega
        clear hb
        have HA := Aside.mk (show cs.all (rulesP p) = true by rw [← HS.out, List.take_length])
        go_wp2
        go_ret
        exact ⟨ret_bool (by rw [HR.out, HA.out]), KB.out⟩
  · have d1 : ((cs.length : Int) != s) = true := by simpa using hs
    rw [show mayC s p ls cs = false by rw [HE.out, hm, decide_eq_false hs]; rfl]
    clear hm hs
    go_enter Try.func12, Try.ntmps12
    go_wp2_with (go_at_call 30; refine (may_any s p A c ls _ (HL.out.below KB.out)).mono ?_; rw [HM.out]; rintro e w1 ⟨rfl, hb1⟩; have KB := Aside.mk (below_call KB.out hb1); have HX := Aside.mk (blk_keep HX.out hb1); have hlx := blk_lt HX.out; have x0 := blk_cell HX.out 0; have x1 := blk_cell HX.out 1; have x2 := blk_cell HX.out 2; simp at x0 x1 x2; clear hb1)
    go_ret
    exact ⟨rfl, KB.out⟩
theorem most_snoc {cs : List (List Rul)} {k : Nat} (h : k < cs.length) : mostC (cs.take (k + 1)) = max (mostC (cs.take k)) cs[k].length := by
  unfold mostC
  rw [List.take_succ_eq_append_getElem h, List.foldl_append]
  rfl
theorem most_le {cs : List (List Rul)} {n : Nat} (h : ∀ l ∈ cs, l.length ≤ n) : mostC cs ≤ n := by
  have key : ∀ (cs : List (List Rul)) (m : Nat), m ≤ n → (∀ l ∈ cs, l.length ≤ n) → cs.foldl (fun n l => max n l.length) m ≤ n := by
    intro cs
    induction cs with
    | nil => intro m hm _; exact hm
    | cons x xs ih => intro m hm h; exact ih _ (by have := h x (by simp); show max m x.length ≤ n; omega) (fun l hl => h l (by simp [hl]))
  exact key cs 0 (Nat.zero_le _) h
set_option maxHeartbeats 1000000 in
theorem confMost_any (cs : List (List Rul)) (C : Option Addr) (d : Nat) (w : World) (hc : Rd confD w C cs.length cs) :
    Calls Try.prog 18 #[.slice C cs.length d] w fun e w' => e = .returned (.int .i64 (mostC cs : Int)) ∧ w' = w := by
  have HC := Aside.mk hc
  have hmx := hc.max
  have HM : Aside (∀ l ∈ cs, l.length ≤ 9223372036854775807) := .mk (fun l hl => by
    obtain ⟨k, hk, rfl⟩ := List.getElem_of_mem hl
    obtain ⟨_, _, _, _, _, _, _, _, _, hr⟩ := conf_cell hc (Below.refl _ w) hk
    exact hr.max)
  clear hc
  go_enter Try.func18, Try.ntmps18
  go_wp2
  go_loop [3, 8] (fun n i => ∃ k : Nat, k ≤ cs.length ∧ i = .int .i64 k ∧ n = .int .i64 (mostC (cs.take k) : Nat)) (fun _ i => cs.length - (intOf i).toNat)
  case atStart => exact ⟨0, Nat.zero_le _, rfl, rfl⟩
  case round =>
    obtain ⟨k, hk, rfl, rfl⟩ := hrel
    by_cases hk2 : k < cs.length
    · obtain ⟨b, o, A', n', rfl, hbl, hcell, -, -, -⟩ := conf_cell HC.out (Below.refl _ w) hk2
      have HT := Aside.mk (most_snoc hk2)
      have h1 := HM.out _ (List.getElem_mem hk2)
      have h2 := most_le (cs := cs.take k) (fun l hl => HM.out l (List.mem_of_mem_take hl))
      obtain ⟨l, hx⟩ : ∃ x, cs[k] = x := ⟨_, rfl⟩
      rw [hx] at hcell HT h1
      obtain ⟨N, hN⟩ : ∃ N, mostC (cs.take k) = N := ⟨_, rfl⟩
      rw [hN] at HT h2 ⊢
      clear hx hN
      go_wp2
      all_goals exact ⟨⟨k + 1, by omega, by go_num, by rw [HT.out]; congr 1; omega⟩, by simp [intOf]; omega⟩
    · obtain rfl : k = cs.length := by omega
      rw [List.take_length]
      go_wp2
      go_ret
      exact ⟨rfl, rfl⟩
end Go.Proofs.Ytlnnkkbcmidddaa
