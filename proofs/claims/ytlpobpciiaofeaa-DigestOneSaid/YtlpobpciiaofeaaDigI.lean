/- The walk through DigestBounds. -/
import Derived.Test.YtlpobpciiaofeaaDigH
import Derived.Test.YtlpobpciiaofeaaPickQ
import Derived.Test.YtlpobpciiaofeaaPickO
namespace Go.Proofs.Ytlpobpciiaofeaa
open Go.RowKit
set_option maxRecDepth 100000
theorem Own.nilc3 {α : Type} {f : Flat α} {w : World} {base : Nat} {e : TypeId} {A : Option Addr} {n c : Nat} {xs : List α} (h : Own f w base e (.slice A n c) xs) : A = none → c = 0 := by
  intro hA
  rcases h.2 with ⟨h2, -⟩ | ⟨g, cap, cur, hv, _⟩
  · injection h2
  · rw [hA] at hv; injection hv with hv; cases hv
theorem sortP_filter (l : List Rul) : sortP (l.filter mayI) = (sortP l).filter mayI := sortP_uniq ((sortP_perm l).filter mayI) ((sortP_srt l).filter mayI)
theorem of_filter (tag : Int) (l : List Rul) : ofP tag (l.filter mayI) = ofP tag l := by
  unfold ofP bytesP
  rw [sortP_filter, List.filter_filter]
  simp
theorem of_bounds (tag : Int) (l : List Rul) : 0 ≤ ofP tag l ∧ ofP tag l ≤ 65535 := sumI_bounds (bytes_oct tag l)
set_option maxHeartbeats 1000000 in
theorem digestBounds_walk (tag : Int) (A : Option Addr) (c : Nat) (l : List Rul) (w : World) (ht : Fit tag) (hl : Rd rulD w A l.length l) (hF : ∀ r ∈ l, FitR8 r) (hnc : A = none → c = 0) : Calls Try.prog 8 #[.int .i64 tag, .slice A l.length c] w fun e w' => e = .returned (.bool true) ∧ Below w.heap.size w w' := by
  have HT := Aside.mk ht
  have HL := Aside.mk hl
  have HN := Aside.mk hnc
  have hmx := hl.max
  clear ht hl hF hnc
  by_cases h60 : l.length ≤ 60
  · have d0 : decide ((60 : Int) < (l.length : Int)) = false := decide_eq_false (by omega)
    obtain ⟨N, hN⟩ : ∃ N, ofP tag l = N := ⟨_, rfl⟩
    have hb := of_bounds tag l
    rw [hN] at hb
    have n1 : decide (0 ≤ N) = true := decide_eq_true hb.1
    have n2 : decide (N ≤ 65535) = true := decide_eq_true hb.2
    have HNE := Aside.mk hN
    clear hN hb
    go_enter Try.func8, Try.ntmps8
    go_wp2_with (go_at_call 23; refine (awake10_any _).mono ?_; rintro e w1 ⟨rfl, hb1⟩; have KB := Aside.mk hb1; clear hb1)
    go_loopw [6, 7] (fun v i wr => ∃ (k : Nat) (A' : Option Addr) (c' : Nat) (L : List Rul), k ≤ l.length ∧ i = .int .i64 k ∧ v = .slice A' L.length c' ∧ L = (l.take k).filter mayI ∧ Own rulF wr w.heap.size 33 (.slice A' L.length c') L ∧ Below w.heap.size w wr) (fun _ i _ => l.length - (intOf i).toNat)
    case atStart => exact ⟨0, none, 0, [], Nat.zero_le _, rfl, rfl, rfl, Own.nil _ _ _ _, KB.out⟩
    case round =>
      clear KB
      obtain ⟨k, A', c', L, hk, rfl, rfl, hL, ho, hb⟩ := hrel
      have KB := Aside.mk hb
      have KO := Aside.mk ho
      have HLE := Aside.mk hL
      have hLl : L.length ≤ 60 := by
        rw [hL]
        have h1 := List.length_filter_le mayI (l.take k)
        rw [List.length_take] at h1
        omega
      clear hb ho hL
      by_cases hlt : k < l.length
      · obtain ⟨b, o, _, rfl, -⟩ := Row.at HL.out k hlt
        obtain ⟨hbl, p0, p1, p2, p3, p4, p5⟩ := rul_cells (c := 0) HL.out KB.out hlt
        have HTK := Aside.mk (show (l.take (k + 1)).filter mayI = (l.take k).filter mayI ++ [l[k]].filter mayI by rw [List.take_add_one, List.getElem?_eq_getElem hlt, Option.toList_some, List.filter_append])
        have HCX := Aside.mk (fun W (hb : Below w.heap.size w W) => rul_cells (c := 0) HL.out hb hlt)
        obtain ⟨x, hx⟩ : ∃ x, l[k] = x := ⟨_, rfl⟩
        rw [hx] at p0 p1 p2 p3 p4 p5 HTK HCX
        clear hx
        cases hm : mayI x
        · have HM := Aside.mk hm
          clear hm
          go_wp2_with (go_at_call 22; refine (may_any8 x _).mono ?_; rw [HM.out]; rintro e w2 ⟨rfl, hb2⟩; have KB := Aside.mk (below_call KB.out hb2); have KO := Aside.mk (KO.out.below hb2); clear hb2)
          refine ⟨⟨k + 1, A', c', L, by omega, by go_num, rfl, ?_, KO.out, KB.out⟩, by simp [intOf]; omega⟩
          rw [HTK.out, List.filter_cons, HM.out, HLE.out]
          simp
        · have HM := Aside.mk hm
          clear hm
          go_wp2_with (first
            | (go_at_call 22; refine (may_any8 x _).mono ?_; rw [HM.out]; rintro e w2 ⟨rfl, hb2⟩; have KB := Aside.mk (below_call KB.out hb2); have KO := Aside.mk (KO.out.below hb2); clear p0 p1 p2 p3 p4 p5 hb2; obtain ⟨-, p0, p1, p2, p3, p4, p5⟩ := HCX.out _ KB.out)
            | (at_builtin; refine wp_app1 (f := rulF) w.heap.size rfl _ _ _ _ _ _ rfl Try.underlying22 infoRul rfl (by decide) (.slice A' L.length c') L x _ rfl rfl (by go_simp) KO.out (by have := KB.out.size; omega) (by omega) ?_; intro v2 w3 ho2 hg2 hat2; have KB := Aside.mk (below_own KB.out hg2 (fun b e => ⟨(KO.out.lt b e).1, (KO.out.lt b e).2⟩)); obtain ⟨A2, c2, rfl, -⟩ := ho2.form; have KO := Aside.mk ho2; clear hg2 ho2 hat2))
          refine ⟨⟨k + 1, A2, c2, L ++ [x], by omega, by go_num, by simp, ?_, KO.out, KB.out⟩, by simp [intOf]; omega⟩
          rw [HTK.out, List.filter_cons, HM.out, HLE.out]
          simp
      · obtain rfl : k = l.length := by omega
        have HE2 : Aside (ofP tag L = N) := .mk (by rw [HLE.out, List.take_length, of_filter, HNE.out])
        have HNM := Aside.mk KO.out.nilc3
        go_wp2_with (first
          | (have hfl := HFL; clear hfl; go_at_call 25; refine (of_any tag L A' c' _ KR.out HNM.out (by omega) HT.out).mono ?_; rw [HE2.out]; rintro e w3 ⟨rfl, hb1⟩; have KB := Aside.mk (below_call KB.out hb1); clear hb1)
          | (go_at_call 25; refine (of_any tag l A c _ (HL.out.below KB.out) HN.out h60 HT.out).mono ?_; rw [HNE.out]; rintro e w2 ⟨rfl, hb1⟩; obtain ⟨A9, c9, hv9, -, hr9⟩ := (KO.out.below hb1).rd; cases hv9; have KR := Aside.mk hr9; have KB := Aside.mk (below_call KB.out hb1); have HFL : Aside True := .mk trivial; clear hb1 hr9))
        go_ret
        exact ⟨rfl, KB.out⟩
  · have d0 : decide ((60 : Int) < (l.length : Int)) = true := decide_eq_true (by omega)
    go_enter Try.func8, Try.ntmps8
    go_wp2_with (go_at_call 23; refine (awake10_any _).mono ?_; rintro e w1 ⟨rfl, hb1⟩; have KB := Aside.mk hb1; clear hb1)
    go_ret
    exact ⟨rfl, KB.out⟩
end Go.Proofs.Ytlpobpciiaofeaa
