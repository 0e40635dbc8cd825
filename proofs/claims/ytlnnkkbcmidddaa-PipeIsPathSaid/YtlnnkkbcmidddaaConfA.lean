/- The walks through a configuration's reading: conf.At, the document's At, Few. -/
import Derived.Test.YtlnnkkbcmidddaaPickR
import Derived.Test.YtlnnkkbcmidddaaAppend
import Derived.Laws.Cover3
namespace Go.Proofs.Ytlnnkkbcmidddaa
open Go.RowKit
set_option maxRecDepth 100000

theorem infoRul : (Try.prog.info? 58).map (fun i => (i.zero, i.size, i.bytes)) = some (some (.agg #[.int .i64 0, .int .i64 0, .int .i64 0, .int .i64 0, .int .i64 0, .int .i64 0]), 6, 48) := by kernel_rfl
abbrev confD : Kd (List Rul) := rulD.slice
def atL (c : List (List Rul)) (sw : Int) : List Rul := if sw < 0 then [] else (c[sw.toNat]?).getD []
def fewL (c : List (List Rul)) : Bool := decide (c.length ≤ 10) && c.all fun l => decide (l.length ≤ 60)
theorem atL_out {c : List (List Rul)} {sw : Int} (h : sw < 0 ∨ (c.length : Int) ≤ sw) : atL c sw = [] := by
  unfold atL
  split
  · rfl
  · rw [List.getElem?_eq_none (by omega)]; rfl
theorem atL_in {c : List (List Rul)} {k : Nat} (h : k < c.length) : atL c k = c[k] := by
  unfold atL
  rw [if_neg (by omega), Int.toNat_natCast, List.getElem?_eq_getElem h]; rfl
/-- A configuration's list: its cell, and that it may be read. -/
theorem conf_cell {c : List (List Rul)} {A : Option Addr} {k : Nat} {w W : World} (hc : Rd confD w A c.length c) (hb : Below w.heap.size w W) (h : k < c.length) :
    ∃ b o A' n', A = some ⟨b, o, none⟩ ∧ b < w.heap.size ∧ W.cell? ⟨b, o + k, none⟩ = some (.slice A' c[k].length n') ∧ c[k].length ≤ n' ∧ (A' = none → n' = 0) ∧ Rd rulD w A' c[k].length c[k] := by
  obtain ⟨b, o, cs, e, hbl, ⟨A', n', rfl, h1, h2, h3⟩, hcell⟩ := Row.at hc k h
  refine ⟨b, o, A', n', e, hbl, ?_, h1, h2, h3⟩
  have := hcell 0 _ rfl
  rw [← this, hb.cell hbl]
  show _ = w.cell? ⟨b, o + (k * 1 + 0), none⟩
  rw [Nat.mul_one, Nat.add_zero]
theorem Own.empty {α : Type} (f : Flat α) (w : World) (e : TypeId) : Own f (w.alloc (.cells #[] e)) w.heap.size e (.slice (some ⟨w.heap.size, 0, none⟩) 0 0) [] :=
  ⟨by simp, .inr ⟨w.heap.size, 0, #[], rfl, Nat.le_refl _, by show (w.heap.push _)[w.heap.size]? = _; simp, Nat.le_refl _, by unfold maxLen; omega, by simp, by simp⟩⟩

theorem nilRul (w : World) (a : Option Addr) (n c : Nat) : (binOp .eql 33 (.slice a n c) (.slice none 0 0)).run Try.prog w = .ok (.bool a.isNone) w := by
  simp only [binOp]
  simp [run_equal_slice_nil w 33 58 a n c Try.underlying33]
theorem clone_any (l : List Rul) (A : Option Addr) (c : Nat) (w : World) (hl : Rd rulD w A l.length l) (hn : A = none → c = 0) (hsz : l.length * 48 ≤ 140737488355328) :
    Calls Try.prog 32 #[.slice A l.length c] w fun e w' => ∃ v, e = .returned v ∧ Own rulF w' w.heap.size 58 v l ∧ Below w.heap.size w w' := by
  have HL := Aside.mk hl
  have HN := Aside.mk hn
  have ur := nilRul
  clear hl hn
  cases A with
  | none =>
    have h0 : l = [] := by
      cases l with
      | nil => rfl
      | cons x l => obtain ⟨b, o, e, _⟩ := HL.out.2.2 (by simp); cases e
    subst h0
    go_enter Try.func32, Try.ntmps32
    go_wp2
    go_ret
    exact ⟨_, rfl, Own.nil _ _ _ _, Below.refl _ _⟩
  | some a =>
    go_enter Try.func32, Try.ntmps32
    go_wp2_with (at_builtin; refine wp_appRow (f := rulF) w.heap.size rfl _ _ _ _ _ _ rfl Try.underlying33 infoRul rfl (by decide) (.slice (some ⟨w.heap.size, 0, none⟩) 0 0) [] l (some a) c rfl rfl (fun h => by cases h) (Own.empty rulF w _) (HL.out.below ((Below.refl _ w).alloc (Nat.le_refl _) _)) (by simp) (by simp; omega) ?_; intro v w1 ho hg hat)
    have hb : Below w.heap.size w w1 := below_own (below_alloc (Below.refl _ _) _) hg (fun k hk => by cases hk; exact ⟨Nat.le_refl _, Nat.lt_succ_self _⟩)
    go_ret
    exact ⟨_, rfl, by simpa using ho, hb⟩

theorem at_any (cs : List (List Rul)) (A : Option Addr) (c : Nat) (sw : Int) (w : World) (hc : Rd confD w A cs.length cs) (hsz : ∀ l ∈ cs, l.length * 48 ≤ 140737488355328) :
    Calls Try.prog 13 #[.slice A cs.length c, .int .i64 sw] w fun e w' => ∃ v, e = .returned v ∧ Own rulF w' w.heap.size 58 v (atL cs sw) ∧ Below w.heap.size w w' := by
  by_cases h : sw < 0 ∨ (cs.length : Int) ≤ sw
  · rw [atL_out h]
    clear hc hsz
    go_enter Try.func13, Try.ntmps13
    go_wp2
    all_goals first
      | (go_ret; exact ⟨_, rfl, Own.nil _ _ _ _, Below.refl _ _⟩)
      | (exfalso; omega)
  · obtain ⟨k, rfl⟩ : ∃ k : Nat, sw = k := ⟨sw.toNat, by omega⟩
    have hk : k < cs.length := by omega
    rw [atL_in hk]
    obtain ⟨b, o, A', n', rfl, hbl, hcell, h1, h2, h3⟩ := conf_cell hc (Below.refl _ w) hk
    have hs := hsz cs[k] (List.getElem_mem hk)
    have HR := Aside.mk h3
    have HN := Aside.mk h2
    have d0 : decide ((k : Int) < 0) = false := decide_eq_false (by omega)
    have d1 : decide ((cs.length : Int) ≤ (k : Int)) = false := decide_eq_false (by omega)
    generalize cs[k] = l at *
    clear hc hsz h h2 h3
    go_enter Try.func13, Try.ntmps13
    go_wp2_with (go_at_call 32; refine (clone_any l A' n' _ HR.out HN.out hs).mono ?_; rintro e w1 ⟨v, rfl, ho, hb⟩)
    go_ret
    exact ⟨_, rfl, ho, hb⟩
theorem atR_any (cs : List (List Rul)) (A : Option Addr) (c : Nat) (sw : Int) (w : World) (hc : Rd confD w A cs.length cs) (hsz : ∀ l ∈ cs, l.length * 48 ≤ 140737488355328) :
    Calls Try.prog 23 #[.slice A cs.length c, .int .i64 sw] w fun e w' => ∃ v, e = .returned v ∧ Own rulF w' w.heap.size 58 v (atL cs sw) ∧ Below w.heap.size w w' := by
  by_cases h : sw < 0 ∨ (cs.length : Int) ≤ sw
  · rw [atL_out h]
    clear hc hsz
    go_enter Try.func23, Try.ntmps23
    go_wp2
    all_goals first
      | (go_ret; exact ⟨_, rfl, Own.nil _ _ _ _, Below.refl _ _⟩)
      | (exfalso; omega)
  · obtain ⟨k, rfl⟩ : ∃ k : Nat, sw = k := ⟨sw.toNat, by omega⟩
    have hk : k < cs.length := by omega
    rw [atL_in hk]
    obtain ⟨b, o, A', n', rfl, hbl, hcell, h1, h2, h3⟩ := conf_cell hc (Below.refl _ w) hk
    have hs := hsz cs[k] (List.getElem_mem hk)
    have HR := Aside.mk h3
    have HN := Aside.mk h2
    have d0 : decide ((k : Int) < 0) = false := decide_eq_false (by omega)
    have d1 : decide ((cs.length : Int) ≤ (k : Int)) = false := decide_eq_false (by omega)
    generalize cs[k] = l at *
    clear hc hsz h h2 h3
    go_enter Try.func23, Try.ntmps23
    go_wp2_with (at_builtin; refine wp_appRow (f := rulF) w.heap.size rfl _ _ _ _ _ _ rfl Try.underlying33 infoRul rfl (by decide) (.slice none 0 0) [] l A' n' rfl rfl HN.out (Own.nil _ _ _ _) HR.out (Nat.le_refl _) (by simp; omega) ?_; intro v w1 ho hg hat)
    go_ret
    exact ⟨_, rfl, by simpa using ho, below_grown' (Below.refl _ _) hg⟩

theorem fewL_drop {c : List (List Rul)} {k : Nat} (h : k < c.length) : ((c.drop k).all fun l => decide (l.length ≤ 60)) = (decide (c[k].length ≤ 60) && (c.drop (k + 1)).all fun l => decide (l.length ≤ 60)) := by
  rw [List.drop_eq_getElem_cons h]; rfl
theorem few_any (cs : List (List Rul)) (A : Option Addr) (c : Nat) (w : World) (hc : Rd confD w A cs.length cs) :
    Calls Try.prog 19 #[.slice A cs.length c] w fun e w' => e = .returned (.bool (fewL cs)) ∧ w' = w := by
  have HC := Aside.mk hc
  have hmx := hc.max
  clear hc
  by_cases h10 : cs.length ≤ 10
  · have d0 : decide ((10 : Int) < (cs.length : Int)) = false := decide_eq_false (by omega)
    have HF := Aside.mk (show fewL cs = cs.all fun l => decide (l.length ≤ 60) by unfold fewL; rw [decide_eq_true h10]; rfl)
    go_enter Try.func19, Try.ntmps19
    go_wp2
    go_loop [3] (fun i => ∃ k : Nat, k ≤ cs.length ∧ i = .int .i64 k ∧ ((cs.drop k).all fun l => decide (l.length ≤ 60)) = cs.all fun l => decide (l.length ≤ 60)) (fun i => cs.length - (intOf i).toNat)
    case atStart => exact ⟨0, Nat.zero_le _, rfl, rfl⟩
    case round =>
      obtain ⟨k, hk, rfl, hs⟩ := hrel
      have HS := Aside.mk hs
      clear hs
      by_cases hlt : k < cs.length
      · obtain ⟨b, o, A', n', rfl, hbl, hcell, -, -, -⟩ := conf_cell HC.out (Below.refl _ w) hlt
        have hd := Aside.mk (fewL_drop hlt)
        generalize cs[k] = l at *
        go_wp2
        all_goals first
          | (go_ret
             refine ⟨ret_bool ?_, rfl⟩
             rw [HF.out, ← HS.out, hd.out, decide_eq_false (by omega)]
             rfl)
          | exact ⟨⟨k + 1, by omega, by go_num, by rw [← HS.out, hd.out, decide_eq_true (by omega), Bool.true_and]⟩, by simp [intOf]; omega⟩
      · obtain rfl : k = cs.length := by omega
        go_wp2
        go_ret
        refine ⟨ret_bool ?_, rfl⟩
        rw [HF.out, ← HS.out, List.drop_length]; rfl
  · have d0 : decide ((10 : Int) < (cs.length : Int)) = true := decide_eq_true (by omega)
    have HF := Aside.mk (show fewL cs = false by unfold fewL; rw [decide_eq_false h10]; rfl)
    go_enter Try.func19, Try.ntmps19
    go_wp2
    go_ret
    exact ⟨ret_bool HF.out.symm, rfl⟩
end Go.Proofs.Ytlnnkkbcmidddaa
