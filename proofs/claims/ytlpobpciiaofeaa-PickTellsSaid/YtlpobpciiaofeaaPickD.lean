/- The walk through PickTells. -/
import Derived.Test.YtlpobpciiaofeaaSortK
import Derived.Test.YtlpobpciiaofeaaSortM
import Derived.Test.YtlpobpciiaofeaaPickR
import Derived.Test.YtlpobpciiaofeaaPickO
namespace Go.Proofs.Ytlpobpciiaofeaa
open Go.RowKit
set_option maxRecDepth 100000
set_option maxHeartbeats 4000000 in
theorem pickTells_big (A : Option Addr) (c : Nat) (l : List Rul) (inn dst : Int) (w : World) (hl : Rd rulD w A l.length l) (hF : ∀ r ∈ l, FitR8 r) (hnc : A = none → c = 0) (hi : Fit inn) (hd : Fit dst) (h60 : ¬ l.length ≤ 100) : Calls Try.prog 3 #[.slice A l.length c, .int .i64 inn, .int .i64 dst] w fun e w' => e = .returned (.bool true) ∧ Below w.heap.size w w' := by
  have hmx := hl.max
  have d60 : decide ((100 : Int) < (l.length : Int)) = true := decide_eq_true (by omega)
  clear hl hF
  go_enter Try.func3, Try.ntmps3
  go_wp2_with (go_at_call 13; refine (awake08_any _).mono ?_; rintro e w1 ⟨rfl, hb1⟩; have KB := Aside.mk hb1; clear hb1)
  go_ret
  exact ⟨rfl, KB.out⟩
set_option maxHeartbeats 4000000 in
theorem pickTells_main (A : Option Addr) (c : Nat) (l : List Rul) (inn dst : Int) (w : World) (hl : Rd rulD w A l.length l) (hF : ∀ r ∈ l, FitR8 r) (hnc : A = none → c = 0) (hi : Fit inn) (hd : Fit dst) (h60 : l.length ≤ 100) : Calls Try.prog 3 #[.slice A l.length c, .int .i64 inn, .int .i64 dst] w fun e w' => e = .returned (.bool true) ∧ Below w.heap.size w w' := by
  have hmx := hl.max
  have d60 : decide ((100 : Int) < (l.length : Int)) = false := decide_eq_false (by omega)
  have HL := Aside.mk hl
  have HNC := Aside.mk hnc
  clear hl hF hnc
  go_enter Try.func3, Try.ntmps3
  go_wp2_with (first
    | (go_at_call 13; refine (awake08_any _).mono ?_; rintro e w1 ⟨rfl, hb1⟩; have KB := Aside.mk hb1; clear hb1)
    | (go_at_call 15; refine (order_any l A c _ (HL.out.below KB.out) HNC.out (by omega)).mono ?_; rintro e w2 ⟨v1, rfl, ho, hb2⟩; obtain ⟨A1, k1, rfl, -, hr1⟩ := ho.rd; have R1 := Aside.mk hr1; have KB := Aside.mk (below_call KB.out hb2); clear ho hr1 hb2)
    | (go_at_call 16; refine (orderR_any l A c _ (HL.out.below KB.out) (by omega)).mono ?_; rintro e w3 ⟨v2, rfl, ho, hb2⟩; obtain ⟨A2, k2, rfl, -, hr2⟩ := ho.rd; have R2 := Aside.mk hr2; have R1 := Aside.mk (R1.out.below hb2); have KB := Aside.mk (below_call KB.out hb2); clear ho hr2 hb2)
    | (go_at_call 14; refine (same08_any _ _ _ _ _ _ _ R1.out R2.out).mono ?_; rw [decide_eq_true rfl]; rintro e w4 ⟨rfl, hb2⟩; have KB := Aside.mk (below_call KB.out hb2); clear hb2)
    | (go_at_call 17; refine (first_any l A c inn dst _ (HL.out.below KB.out)).mono ?_; rintro e w5 ⟨rfl, hb2⟩; have KB := Aside.mk (below_call KB.out hb2); clear hb2)
    | (go_at_call 18; refine (firstR_any l A c inn dst _ (HL.out.below KB.out)).mono ?_; rintro e w6 ⟨rfl, hb2⟩; have KB := Aside.mk (below_call KB.out hb2); clear hb2))
  go_ret
  exact ⟨rfl, KB.out⟩
theorem pickTells_walk (A : Option Addr) (c : Nat) (l : List Rul) (inn dst : Int) (w : World) (hl : Rd rulD w A l.length l) (hF : ∀ r ∈ l, FitR8 r) (hnc : A = none → c = 0) (hi : Fit inn) (hd : Fit dst) : Calls Try.prog 3 #[.slice A l.length c, .int .i64 inn, .int .i64 dst] w fun e w' => e = .returned (.bool true) ∧ Below w.heap.size w w' := by
  by_cases h60 : l.length ≤ 100
  · exact pickTells_main A c l inn dst w hl hF hnc hi hd h60
  · exact pickTells_big A c l inn dst w hl hF hnc hi hd h60
end Go.Proofs.Ytlpobpciiaofeaa
