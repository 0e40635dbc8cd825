/- The walks through conf.Same. -/
import Derived.Test.YtlnnkkbcmidddaaConfP
import Derived.Test.YtlnnkkbcmidddaaConfA
import Derived.Test.YtlnnkkbcmidddaaSortK
namespace Go.Proofs.Ytlnnkkbcmidddaa
open Go.RowKit
set_option maxRecDepth 100000
set_option maxHeartbeats 1000000 in
theorem equalR_any (a b : List Rul) (A B : Option Addr) (c d : Nat) (w : World) (ha : Rd rulD w A a.length a) (hb : Rd rulD w B b.length b) :
    Calls Try.prog 39 #[.slice A a.length c, .slice B b.length d] w fun e w' => e = .returned (.bool (decide (a = b))) ∧ Below w.heap.size w w' := by
  have HA := Aside.mk ha
  have HB := Aside.mk hb
  have hma := ha.max
  have hmb := hb.max
  have hq := eqRul
  clear ha hb
  by_cases hlen : a.length = b.length
  · have d0 : ((a.length : Int) != (b.length : Int)) = false := by simp [hlen]
    go_enter Try.func39, Try.ntmps39
    go_wp2
    go_loopw [13] (fun i wr => ∃ k : Nat, k ≤ b.length ∧ i = .int .i64 k ∧ (a = b ↔ a.drop k = b.drop k) ∧ Below w.heap.size w wr) (fun i _ => b.length - (intOf i).toNat)
    case atStart => exact ⟨0, Nat.zero_le _, rfl, by simp, Below.refl _ _⟩
    case round =>
      obtain ⟨k, hk, rfl, hs, hbl⟩ := hrel
      have HS := Aside.mk hs
      have KB := Aside.mk hbl
      clear hs
      by_cases hlt : k < b.length
      · have hlta : k < a.length := by omega
        obtain ⟨b1, o1, _, rfl, -⟩ := Row.at HA.out k hlta
        obtain ⟨b2, o2, _, rfl, -⟩ := Row.at HB.out k hlt
        obtain ⟨hb1, p0, p1, p2, p3, p4, p5⟩ := rul_cells (c := c) HA.out hbl hlta
        obtain ⟨hb2, q0, q1, q2, q3, q4, q5⟩ := rul_cells (c := d) HB.out hbl hlt
        have hd := Aside.mk (dropR_eq hlta hlt)
        generalize a[k] = x at *
        generalize b[k] = y at *
        clear hbl
        cases hxy : decide (x = y)
        · have hne : decide (a = b) = false := decide_eq_false (fun h => by
            have := (hd.out.1 (HS.out.1 h)).1
            rw [decide_eq_true this] at hxy
            cases hxy)
          go_wp2
          go_region
          go_wp2
          go_ret
          exact ⟨ret_bool hne.symm, below_drew KB.out⟩
        · have hxy' := of_decide_eq_true hxy
          go_wp2
          go_region
          go_wp2
          go_roundw
          case rel => exact ⟨k + 1, by omega, by go_num, HS.out.trans (hd.out.trans ⟨fun h => h.2, fun h => ⟨hxy', h⟩⟩), below_drew KB.out⟩
          case measure => simp [intOf]; omega
      · obtain rfl : k = b.length := by omega
        have hab : a = b := HS.out.2 (by rw [List.drop_length, List.drop_eq_nil_of_le (by omega)])
        clear hbl
        go_wp2
        go_ret
        exact ⟨ret_bool (by simp [hab]), KB.out⟩
  · have d0 : ((a.length : Int) != (b.length : Int)) = true := by simp; omega
    have hne : decide (a = b) = false := decide_eq_false (fun h => hlen (by rw [h]))
    rw [hne]
    go_enter Try.func39, Try.ntmps39
    go_wp2
    all_goals first
      | (go_ret; exact ⟨rfl, Below.refl _ _⟩)
      | (exfalso; simp_all)
set_option maxHeartbeats 1000000 in
theorem sameF_any (l m : List Rul) (A B : Option Addr) (c d : Nat) (w : World) (hl : Rd rulD w A l.length l) (hm : Rd rulD w B m.length m) (hc : A = none → c = 0) (hd : B = none → d = 0) (h1 : l.length ≤ 1000000) (h2 : m.length ≤ 1000000) :
    Calls Try.prog 38 #[.slice A l.length c, .slice B m.length d] w fun e w' => e = .returned (.bool (decide (sortP l = sortP m))) ∧ Below w.heap.size w w' := by
  have HL := Aside.mk hl
  have HM := Aside.mk hm
  have HC := Aside.mk hc
  have HD := Aside.mk hd
  obtain ⟨S, hS⟩ : ∃ S, sortP l = S := ⟨_, rfl⟩
  obtain ⟨T, hT⟩ : ∃ S, sortP m = S := ⟨_, rfl⟩
  rw [hS, hT]
  have HS := Aside.mk hS
  have HT := Aside.mk hT
  clear hl hm hc hd hS hT
  go_enter Try.func38, Try.ntmps38
  go_wp2_with (first
    | (have hfl := HFL; go_at_call 40; clear hfl HFL; refine (order_any m B d _ (HM.out.below KB.out) HD.out h2).mono ?_; rintro e w2 ⟨v2, rfl, ho, hb2⟩; rw [HT.out] at ho; obtain ⟨A2, k2, rfl, -, hr2⟩ := ho.rd; have R2 := Aside.mk hr2; have R1 := Aside.mk (R1.out.below hb2); have KB := Aside.mk (below_call KB.out hb2); clear ho hr2 hb2)
    | (go_at_call 40; refine (order_any l A c _ HL.out HC.out h1).mono ?_; rintro e w1 ⟨v1, rfl, ho, hb1⟩; rw [HS.out] at ho; obtain ⟨A1, k1, rfl, -, hr1⟩ := ho.rd; have R1 := Aside.mk hr1; have KB := Aside.mk hb1; have HFL : Aside True := .mk trivial; clear ho hr1 hb1)
    | (go_at_call 39; refine (equalR_any S T A1 A2 k1 k2 _ R1.out R2.out).mono ?_; rintro e w3 ⟨rfl, hb3⟩; have KB := Aside.mk (below_call KB.out hb3); clear hb3))
  go_ret
  exact ⟨rfl, KB.out⟩
theorem dropS_eq {a b : List (List Rul)} {k : Nat} (ha : k < a.length) (hb : k < b.length) : (a.drop k).map sortP = (b.drop k).map sortP ↔ sortP a[k] = sortP b[k] ∧ (a.drop (k + 1)).map sortP = (b.drop (k + 1)).map sortP := by
  rw [List.drop_eq_getElem_cons ha, List.drop_eq_getElem_cons hb, List.map_cons, List.map_cons, List.cons.injEq]
set_option maxHeartbeats 1000000 in
theorem equalC_any (a b : List (List Rul)) (A B : Option Addr) (c d : Nat) (w : World) (ha : Rd confD w A a.length a) (hb : Rd confD w B b.length b) (h1 : ∀ l ∈ a, l.length ≤ 1000000) (h2 : ∀ l ∈ b, l.length ≤ 1000000) :
    Calls Try.prog 37 #[.slice A a.length c, .slice B b.length d, .func (.func 38) #[] #[]] w fun e w' => e = .returned (.bool (sameC a b)) ∧ Below w.heap.size w w' := by
  have HA := Aside.mk ha
  have HB := Aside.mk hb
  have H1 := Aside.mk h1
  have H2 := Aside.mk h2
  have hma := ha.max
  have hmb := hb.max
  have HE := Aside.mk (show sameC a b = decide (a.map sortP = b.map sortP) from rfl)
  clear ha hb h1 h2
  by_cases hlen : a.length = b.length
  · have d0 : ((a.length : Int) != (b.length : Int)) = false := by simp [hlen]
    have HLEN := Aside.mk hlen
    clear hlen
    go_enter Try.func37, Try.ntmps37
    go_wp2
    go_loopw [17] (fun i wr => ∃ k : Nat, k ≤ a.length ∧ i = .int .i64 k ∧ (a.map sortP = b.map sortP ↔ (a.drop k).map sortP = (b.drop k).map sortP) ∧ Below w.heap.size w wr) (fun i _ => a.length - (intOf i).toNat)
    case atStart => exact ⟨0, Nat.zero_le _, rfl, by simp, Below.refl _ _⟩
    case round =>
      obtain ⟨k, hk, rfl, hs, hbl⟩ := hrel
      have HS := Aside.mk hs
      have KB := Aside.mk hbl
      clear hs
      by_cases hlta : k < a.length
      · have hlt : k < b.length := by have := HLEN.out; omega
        obtain ⟨b1, o1, A1, n1, rfl, hbl1, hc1, -, hn1, hr1⟩ := conf_cell HA.out hbl hlta
        obtain ⟨b2, o2, A2, n2, rfl, hbl2, hc2, -, hn2, hr2⟩ := conf_cell HB.out hbl hlt
        have hx1 := H1.out _ (List.getElem_mem hlta)
        have hx2 := H2.out _ (List.getElem_mem hlt)
        have hd := Aside.mk (dropS_eq hlta hlt)
        obtain ⟨x, hx⟩ : ∃ x, a[k] = x := ⟨_, rfl⟩
        obtain ⟨y, hy⟩ : ∃ x, b[k] = x := ⟨_, rfl⟩
        rw [hx] at hc1 hr1 hx1 hd
        rw [hy] at hc2 hr2 hx2 hd
        have HR1 := Aside.mk (hr1.below hbl)
        have HR2 := Aside.mk (hr2.below hbl)
        have HN1 := Aside.mk hn1
        have HN2 := Aside.mk hn2
        clear hbl hx hy hr1 hr2 hn1 hn2
        cases hxy : decide (sortP x = sortP y)
        · have HXY := Aside.mk hxy
          have HNE : Aside (sameC a b = false) := .mk (by
            rw [HE.out]
            exact decide_eq_false (fun h => by
              have := (hd.out.1 (HS.out.1 h)).1
              rw [decide_eq_true this] at hxy
              cases hxy))
          clear hxy
          go_wp2_with (go_at_call 38; refine (sameF_any x y A1 A2 n1 n2 _ HR1.out HR2.out HN1.out HN2.out hx1 hx2).mono ?_; rw [HXY.out]; rintro e w1 ⟨rfl, hb1⟩; have KB := Aside.mk (below_call KB.out hb1); clear hb1)
          go_ret
          exact ⟨ret_bool HNE.out.symm, KB.out⟩
        · have HXY := Aside.mk hxy
          have HNX := Aside.mk (HS.out.trans (hd.out.trans ⟨fun h => h.2, fun h => ⟨of_decide_eq_true hxy, h⟩⟩))
          clear hxy
          go_wp2_with (go_at_call 38; refine (sameF_any x y A1 A2 n1 n2 _ HR1.out HR2.out HN1.out HN2.out hx1 hx2).mono ?_; rw [HXY.out]; rintro e w1 ⟨rfl, hb1⟩; have KB := Aside.mk (below_call KB.out hb1); clear hb1)
          go_roundw
          case rel => exact ⟨k + 1, by omega, by go_num, HNX.out, KB.out⟩
          case measure => simp [intOf]; omega
      · obtain rfl : k = a.length := by omega
        have HAB : Aside (sameC a b = true) := .mk (by
          rw [HE.out]
          exact decide_eq_true (HS.out.2 (by rw [List.drop_length, List.drop_eq_nil_of_le (by have := HLEN.out; omega)])))
        clear hbl
        go_wp2
        go_ret
        exact ⟨ret_bool HAB.out.symm, KB.out⟩
  · have d0 : ((a.length : Int) != (b.length : Int)) = true := by simp; omega
    have hne : sameC a b = false := by
      rw [HE.out]
      exact decide_eq_false (fun h => hlen (by have := congrArg List.length h; simpa using this))
    rw [hne]
    clear hlen hne
    go_enter Try.func37, Try.ntmps37
    go_wp2
    go_ret
    exact ⟨rfl, Below.refl _ _⟩
theorem confSame_any (a b : List (List Rul)) (A B : Option Addr) (c d : Nat) (w : World) (ha : Rd confD w A a.length a) (hb : Rd confD w B b.length b) (h1 : ∀ l ∈ a, l.length ≤ 1000000) (h2 : ∀ l ∈ b, l.length ≤ 1000000) :
    Calls Try.prog 17 #[.slice A a.length c, .slice B b.length d] w fun e w' => e = .returned (.bool (sameC a b)) ∧ Below w.heap.size w w' := by
  have HA := Aside.mk ha
  have HB := Aside.mk hb
  have H1 := Aside.mk h1
  have H2 := Aside.mk h2
  clear ha hb h1 h2
  go_enter Try.func17, Try.ntmps17
  go_wp2_with (go_at_call 37; refine (equalC_any a b A B c d _ HA.out HB.out H1.out H2.out).mono ?_; rintro e w1 ⟨rfl, hb1⟩)
  go_ret
  exact ⟨rfl, hb1⟩
end Go.Proofs.Ytlnnkkbcmidddaa
