/- The walks through the document's Same of layer 8 and the layer's example. -/
import Derived.Test.YtlnnkkbcmidddaaSortJ
namespace Go.Proofs.Ytlnnkkbcmidddaa
open Go.RowKit
set_option maxRecDepth 100000

theorem eqRul (w : World) (a b : Rul) : (Op.equalIn 10000 58 (rulV a) (rulV b)).run Try.prog w = .ok (decide (a = b)) w := by
  have u3 := Try.underlying3
  have a3 := Try.isAgg3
  have z3 := Try.sizeOf3
  have a4 := Try.isAgg54
  have z4 := Try.sizeOf54
  have a5 := Try.isAgg56
  have z5 := Try.sizeOf56
  rw [show (10000 : Nat) = 9999 + 1 from rfl, Op.equalIn]
  simp only [Sem.run_bind, run_underlying Try.underlying58, Result.andThen_ok]
  go_simp
  obtain ⟨a1, a2, a3, a4, a5, a6⟩ := a
  obtain ⟨b1, b2, b3, b4, b5, b6⟩ := b
  simp only [Rul.mk.injEq]
  by_cases h1 : a1 = b1
  · by_cases h2 : a2 = b2
    · by_cases h3 : a3 = b3
      · by_cases h4 : a4 = b4
        · by_cases h5 : a5 = b5
          · by_cases h6 : a6 = b6 <;> simp [h1, h2, h3, h4, h5, h6]
          · simp [h1, h2, h3, h4, h5]
        · simp [h1, h2, h3, h4]
      · simp [h1, h2, h3]
    · simp [h1, h2]
  · simp [h1]
theorem dropR_eq {a b : List Rul} {k : Nat} (ha : k < a.length) (hb : k < b.length) : a.drop k = b.drop k ↔ a[k] = b[k] ∧ a.drop (k + 1) = b.drop (k + 1) := by
  rw [List.drop_eq_getElem_cons ha, List.drop_eq_getElem_cons hb, List.cons.injEq]
set_option maxHeartbeats 1000000 in
theorem same08_any (a b : List Rul) (A B : Option Addr) (c d : Nat) (w : World) (ha : Rd rulD w A a.length a) (hb : Rd rulD w B b.length b) :
    Calls Try.prog 22 #[.slice A a.length c, .slice B b.length d] w fun e w' => e = .returned (.bool (decide (a = b))) ∧ Below w.heap.size w w' := by
  have HA := Aside.mk ha
  have HB := Aside.mk hb
  have hma := ha.max
  have hmb := hb.max
  have hq := eqRul
  clear ha hb
  by_cases hlen : a.length = b.length
  · have d0 : ((a.length : Int) != (b.length : Int)) = false := by simp [hlen]
    go_enter Try.func22, Try.ntmps22
    go_wp2
    go_loopw [5] (fun i wr => ∃ k : Nat, k ≤ b.length ∧ i = .int .i64 k ∧ (a = b ↔ a.drop k = b.drop k) ∧ Below w.heap.size w wr) (fun i _ => b.length - (intOf i).toNat)
    case atStart => exact ⟨0, Nat.zero_le _, rfl, by simp, Below.refl _ _⟩
    case round =>
      obtain ⟨k, hk, rfl, hs, hbl⟩ := hrel
      have HS := Aside.mk hs
      have KB := Aside.mk hbl
      clear hs
      by_cases hlt : k < b.length
      · have hlta : k < a.length := by omega
        obtain ⟨b1, o1, _, rfl, -⟩ := Row.at HA.out k hlta
        obtain ⟨b2, o2, _, rfl, -⟩ := Row.at HB.out k hlt
        obtain ⟨hb1, p0, p1, p2, p3, p4, p5⟩ := rul_cells (c := c) HA.out hbl hlta
        obtain ⟨hb2, q0, q1, q2, q3, q4, q5⟩ := rul_cells (c := d) HB.out hbl hlt
        have hd := Aside.mk (dropR_eq hlta hlt)
        generalize a[k] = x at *
        generalize b[k] = y at *
        clear hbl
        cases hxy : decide (x = y)
        · have hne : decide (a = b) = false := decide_eq_false (fun h => by
            have := (hd.out.1 (HS.out.1 h)).1
            rw [decide_eq_true this] at hxy
            cases hxy)
          go_wp2
          go_region
          go_wp2
          go_ret
          exact ⟨ret_bool hne.symm, below_drew KB.out⟩
        · have hxy' := of_decide_eq_true hxy
          go_wp2
          go_region
          go_wp2
          go_roundw
          case rel => exact ⟨k + 1, by omega, by go_num, HS.out.trans (hd.out.trans ⟨fun h => h.2, fun h => ⟨hxy', h⟩⟩), below_drew KB.out⟩
          case measure => simp [intOf]; omega
      · obtain rfl : k = b.length := by omega
        have hab : a = b := HS.out.2 (by rw [List.drop_length, List.drop_eq_nil_of_le (by omega)])
        clear hbl
        go_wp2
        go_ret
        exact ⟨ret_bool (by simp [hab]), KB.out⟩
  · have d0 : ((a.length : Int) != (b.length : Int)) = true := by simp; omega
    have hne : decide (a = b) = false := decide_eq_false (fun h => hlen (by rw [h]))
    rw [hne]
    go_enter Try.func22, Try.ntmps22
    go_wp2
    all_goals first
      | (go_ret; exact ⟨rfl, Below.refl _ _⟩)
      | (exfalso; simp_all)
abbrev r08 : Rul := ⟨167772160, 8, -1, 0, 0, 0⟩
abbrev s08 : Rul := ⟨167837696, 16, 2, 0, 0, 0⟩
theorem order08 : sortP [r08, s08] = [s08, r08] := sortP_uniq (List.Perm.swap _ _ _) (by
  refine List.pairwise_cons.2 ⟨fun a ha => ?_, List.pairwise_singleton _ _⟩
  rw [List.mem_singleton.1 ha]
  decide)
def awkB (q g k : Nat) (wr : World) (w' : World) : Prop :=
  Below wr.heap.size wr w'
def awkF (q g k : Nat) (wr : World) : List (Value → Value → World → Prop) :=
  [fun _ v _ => v = .slice (some ⟨q, 0, none⟩) 2 2,
   fun _ v _ => v = .int .i64 167838211,
   fun _ v _ => v = .int .i64 1,
   fun _ v _ => v = .bool true,
   fun _ v _ => v = .bool true,
   fun _ v _ => v = .slice (some ⟨q, 0, none⟩) 2 2,
   fun _ v _ => v = .int .i64 167838211,
   fun _ v _ => v = .int .i64 0,
   fun _ v _ => v = .bool true,
   fun _ v _ => v = .bool true,
   fun _ v _ => v = .bool true,
   fun _ v _ => v = .slice (some ⟨q, 0, none⟩) 2 2,
   fun _ v _ => v = .int .i64 (-1),
   fun _ v _ => v = .bool true,
   fun _ v _ => v = .bool true,
   fun _ v _ => v = .bool true,
   fun _ v _ => v = .slice (some ⟨g, 0, none⟩) 2 k,
   fun _ v _ => v = .int .i64 2,
   fun _ v _ => v = .bool true,
   fun _ v _ => v = .bool true,
   fun _ v _ => v = .bool true,
   fun _ v _ => v = .slice (some ⟨g, 0, none⟩) 2 k,
   fun _ v _ => v = .pointer (some ⟨g, 0, none⟩),
   fun _ v _ => v = rulV s08,
   fun _ v _ => v = .slice (some ⟨q, 0, none⟩) 2 2,
   fun _ v _ => v = .pointer (some ⟨q, 6, none⟩),
   fun _ v _ => v = rulV s08,
   fun _ v _ => v = .bool true,
   fun _ v _ => v = .bool true,
   fun _ v _ => v = .bool true]
def awkQ : Nat → Nat := fun i => i
theorem awkF_stay (q g k : Nat) (wr : World) : AllStay (awkF q g k wr) := by
  intro F hF u v w' w'' hb h
  simp only [awkF, List.mem_cons, List.not_mem_nil, or_false] at hF
  rcases hF with rfl | rfl | rfl | rfl | rfl | rfl | rfl | rfl | rfl | rfl | rfl | rfl | rfl | rfl | rfl | rfl | rfl | rfl | rfl | rfl | rfl | rfl | rfl | rfl | rfl | rfl | rfl | rfl | rfl | rfl
  · exact h
  · exact h
  · exact h
  · exact h
  · exact h
  · exact h
  · exact h
  · exact h
  · exact h
  · exact h
  · exact h
  · exact h
  · exact h
  · exact h
  · exact h
  · exact h
  · exact h
  · exact h
  · exact h
  · exact h
  · exact h
  · exact h
  · exact h
  · exact h
  · exact h
  · exact h
  · exact h
  · exact h
  · exact h
  · exact h
theorem awkB_stay (q g k : Nat) (wr : World) : Stays (awkB q g k wr) := by
  intro w' w'' hb h
  exact below_call h hb
end Go.Proofs.Ytlnnkkbcmidddaa
