/- The walk through pick.Order: rules stand in their one order. -/
import Derived.Test.YtlnnkkbcmidddaaSortI
import Derived.Test.YtlnnkkbcmidddaaConfA
namespace Go.Proofs.Ytlnnkkbcmidddaa
open Go.RowKit
set_option maxRecDepth 100000

theorem sortStable_any (base g n c : Nat) (W : World) (L : List Rul) (h : Own rulF W base 58 (.slice (some ⟨g, 0, none⟩) n c) L) (hn : n ≤ 1000000) :
    Calls Try.prog 53 #[.slice (some ⟨g, 0, none⟩) n c, .func (.func 54) #[] #[]] W fun e w' => e = .returned (.tuple #[]) ∧ Srts W base 58 g n c w' (sortP L) := by
  have H := Aside.mk h
  have H2 := Aside.mk (Srts.start h).len
  clear h
  go_enter Try.func53, Try.ntmps53
  go_wp2_with (go_at_call 67; refine (stable_any base g n c _ L H.out hn).mono ?_; rintro e w1 ⟨rfl, hs⟩; have HS := Aside.mk hs; clear hs)
  go_end0
  exact ⟨rfl, HS.out⟩
theorem sortStable_nil (A : Option Addr) (c : Nat) (W : World) :
    Calls Try.prog 53 #[.slice A 0 c, .func (.func 54) #[] #[]] W fun e w' => e = .returned (.tuple #[]) ∧ w' = W := by
  go_enter Try.func53, Try.ntmps53
  go_wp2_with (go_at_call 67; refine (stable_nil _ _ _ _).mono ?_; rintro e w1 ⟨rfl, rfl⟩)
  go_end0
  exact ⟨rfl, rfl⟩
theorem order_any (l : List Rul) (A : Option Addr) (c : Nat) (w : World) (hl : Rd rulD w A l.length l) (hz : A = none → c = 0) (hn : l.length ≤ 1000000) :
    Calls Try.prog 40 #[.slice A l.length c] w fun e w' => ∃ v, e = .returned v ∧ Own rulF w' w.heap.size 58 v (sortP l) ∧ Below w.heap.size w w' := by
  have HL := Aside.mk hl
  have HZ := Aside.mk hz
  clear hl hz
  rcases Nat.eq_zero_or_pos l.length with h0 | h0
  · obtain rfl := List.eq_nil_of_length_eq_zero h0
    go_enter Try.func40, Try.ntmps40
    go_wp2_with (first
      | (go_at_call 32; refine (clone_any [] A c _ HL.out HZ.out (by simp)).mono ?_; rintro e w1 ⟨v, rfl, ho, hb⟩; have HO := Aside.mk ho; have hf := ho.form; obtain ⟨A2, hf⟩ := hf; obtain ⟨c2, hf⟩ := hf; have hf1 := hf.1; clear hf; subst hf1; have HB := Aside.mk hb; clear ho hb)
      | (go_at_call 53; refine (sortStable_nil _ _ _).mono ?_; rintro e w2 ⟨rfl, rfl⟩))
    go_ret
    exact ⟨_, rfl, by rw [sortP_nil]; exact HO.out, HB.out⟩
  · have H0 := Aside.mk h0
    clear h0
    go_enter Try.func40, Try.ntmps40
    go_wp2_with (first
      | (go_at_call 32; refine (clone_any l A c _ HL.out HZ.out (by omega)).mono ?_; rintro e w1 ⟨v, rfl, ho, hb⟩; obtain ⟨g, cc, rfl, hg, -, -⟩ := ho.addr H0.out; have HO := Aside.mk ho; have HB := Aside.mk hb; clear ho hb)
      | (go_at_call 53; refine (sortStable_any w.heap.size g l.length cc _ l HO.out hn).mono ?_; rintro e w2 ⟨rfl, hs⟩; have HO := Aside.mk hs.own; have HB := Aside.mk (below_grown HB.out hs.grown hg); clear hs))
    go_ret
    exact ⟨_, rfl, HO.out, HB.out⟩
#print axioms order_any
end Go.Proofs.Ytlnnkkbcmidddaa
