/- The iterator of layer 10: the bytes of the rules that count. -/
import Derived.Test.YtlpobpciiaofeaaSeqR
import Derived.Test.YtlpobpciiaofeaaDigD
import Derived.Test.YtlpobpciiaofeaaSortJ
import Derived.Shelf.Abstract
import Derived.Shelf.RegionOpen
import Derived.TacticsInMore
import Derived.LoopNIn
import Derived.LoopIn
namespace Go.Proofs.Ytlpobpciiaofeaa
open Go.RowKit Go.Shelf
set_option maxRecDepth 100000
attribute [local go_sem] Oper.semAt_some
theorem told_any (l : List Rul) (A : Option Addr) (c : Nat) (w : World) :
    Calls Try.prog 38 #[.slice A l.length c] w fun e w' => e = .returned (.func (.func 50) #[] #[.pointer (some ⟨w.heap.size, 0, none⟩)]) ∧ w' = w.alloc (.cells #[.slice A l.length c] 22) := by
  go_enter Try.func38, Try.ntmps38
  go_wp2
  go_ret
  exact ⟨rfl, rfl⟩
/-- What is told of a rule. -/
def toldB (r : Rul) : List Int := putB r ++ [0]
abbrev toldR (base : Nat) (r : Rul) (args : Array Value) (W : World) : Prop := ∃ v, args = #[v] ∧ Own bytF W base 5 v (toldB r)
set_option maxHeartbeats 2000000 in
theorem told_yields (l : List Rul) (A : Option Addr) (c : Nat) (w0 : World) (hl : Rd rulD w0 A l.length l) (hnc : A = none → c = 0) (hlen : l.length ≤ 60) (n : Nat) (hn : 1 ≤ n) (b : Nat) (hb : w0.heap.size ≤ b) (w : World) (hw : Below w0.heap.size w0 w) (k0 : w.heap[b]? = some (.cells #[.slice A l.length c] 22)) :
    YieldsR Fence.wide n Try.prog 50 #[.pointer (some ⟨b, 0, none⟩)] (toldR w0.heap.size) (fun k => k < w0.heap.size ∨ k = b) (fun _ => False) ((sortP l).filter mayI) w := by
  intro yl J C W hW hJ hC hY h0
  have HL := Aside.mk (hl.below (hw.trans (hW.mono hw.size)))
  have HN := Aside.mk hnc
  have H0 := Aside.mk h0
  have HJ := Aside.mk hJ
  have HY := Aside.mk hY
  have hC0 := Aside.mk hC
  have hB0 := Aside.mk (hw.trans (hW.mono hw.size))
  have K0 := Aside.mk (blk_keep k0 hW)
  have hbs := hw.size
  have hWs := hW.size
  have hbl := Nat.lt_of_lt_of_le (blk_lt k0) hWs
  clear hl h0 hJ hY hw k0 hW hC hnc
  have c0 := blk_cell K0.out 0
  simp at c0
  refine callsIn_of_wp Try.func50 rfl trivial ?_ rfl
  simp only [Try.ntmps50, List.size_toArray, List.length_cons, List.length_nil, Nat.reduceAdd, Nat.reduceSub, Array.replicate_succ, Array.replicate_zero, List.push_toArray, List.append_toArray, List.nil_append, List.cons_append]
  gi_wp2_with (refine ⟨trivial, ?_⟩; gi_at_call 15; refine (callsIn_wide.2 (order_any l _ _ _ HL.out HN.out (by omega))).mono ?_; rintro e w1 ⟨v1, rfl, ho, hb1⟩; obtain ⟨A1, c1, rfl, -⟩ := ho.form; have KO := Aside.mk ho; have HB1 := Aside.mk hb1; clear ho hb1)
  have hsl : (sortP l).length ≤ 60 := by rw [sortP_len]; exact hlen
  obtain ⟨S, hS⟩ : ∃ S, sortP l = S := ⟨_, rfl⟩
  rw [hS] at HY KO hsl ⊢
  have HS := Aside.mk hS
  clear hS
  gi_loopw [10] (fun i wr => ∃ (k : Nat) (pre : List Rul) (C : Nat → Prop), k ≤ S.length ∧ i = .int .i64 k ∧ pre ++ (S.drop k).filter mayI = S.filter mayI ∧ J pre C wr ∧ (∀ q, C q → ¬ (q < w0.heap.size ∨ q = b) ∧ (Value.slice A1 S.length c1).ownBlock ≠ some q ∧ q < wr.heap.size) ∧ Own rulF wr W.heap.size 33 (.slice A1 S.length c1) S ∧ Below w0.heap.size w0 wr ∧ W.heap.size ≤ wr.heap.size ∧ w.heap.size ≤ wr.heap.size)
    (fun i _ => S.length - (intOf i).toNat)
  case atStart =>
    exact ⟨0, [], C, Nat.zero_le _, rfl, rfl, HJ.out [] C W w1 none H0.out (grown_of_below HB1.out none) (fun r h => by cases h), fun q hq => ⟨(hC0.out q hq).1, fun e => by
      have h1 := (KO.out.lt q e).1
      have h2 := (hC0.out q hq).2
      omega, by
      have h1 := HB1.out.size
      have h2 := (hC0.out q hq).2
      omega⟩, KO.out, below_call hB0.out HB1.out, HB1.out.size, Nat.le_trans hWs HB1.out.size⟩
  case round =>
    clear H0 hB0 HB1 hC0 C c0 K0 HL KO w1
    obtain ⟨k, pre, C, hk, rfl, he, hj, hc, ho, hb1, hsz1, hsz2⟩ := hrel
    have KJ := Aside.mk hj
    have KC := Aside.mk hc
    have KB := Aside.mk hb1
    have KO := Aside.mk ho
    have HE := Aside.mk he
    clear he hj hc hb1
    by_cases hlt : k < S.length
    · obtain ⟨g, cc, hv, hg1, hg2, -⟩ := ho.addr (by omega)
      cases hv
      obtain ⟨p0, p1, p2, p3, p4, p5⟩ := rul_at ho hlt
      have HK := Aside.mk (List.drop_eq_getElem_cons hlt)
      obtain ⟨x, hx⟩ : ∃ x, S[k] = x := ⟨_, rfl⟩
      rw [hx] at p0 p1 p2 p3 p4 p5 HK
      clear hx ho
      cases hm : mayI x
      · have HM := Aside.mk hm
        clear hm
        gi_wp2_with (refine ⟨trivial, ?_⟩; gi_at_call 51; refine (callsIn_wide.2 (rputNo_any x _ HM.out)).mono ?_; rintro e w2 ⟨rfl, hb2⟩; have HB2 := Aside.mk hb2; clear hb2)
        refine ⟨fun f hf => (by cases hf), ?_⟩
        gi_wp2
        have hb2 := below_call (below_alloc (Below.refl wr.heap.size wr) _) HB2.out
        have hs2 := hb2.size
        refine ⟨⟨k + 1, pre, C, by omega, by push_cast; rfl, ?_, HJ.out pre C wr w2 none KJ.out (grown_of_below hb2 none) (fun r h => by cases h), fun q hq => ⟨(KC.out q hq).1, (KC.out q hq).2.1, by have := (KC.out q hq).2.2; omega⟩, KO.out.below hb2, below_call KB.out hb2, by omega, by omega⟩, by simp [intOf]; omega⟩
        rw [← HE.out, HK.out, List.filter_cons, HM.out]
        rfl
      · have HM := Aside.mk hm
        clear hm
        have hks := KB.out.size
        gi_wp2_with (first
          | (refine ⟨trivial, ?_⟩; gi_at_call 51; refine (callsIn_wide.2 (rput_any x _ HM.out)).mono ?_; rintro e w2 ⟨v2, rfl, ho2, hb2⟩; obtain ⟨X, hX⟩ : ∃ X, putB x = X := ⟨_, rfl⟩; rw [hX] at ho2; have HXP := Aside.mk hX; have HXL := Aside.mk (show X.length = 9 by rw [← hX]; rfl); clear hX; have hb2 := below_call (below_alloc (Below.refl wr.heap.size wr) _) hb2; obtain ⟨A2, c2, rfl, -⟩ := ho2.form; have KP := Aside.mk (ho2.mono (show wr.heap.size ≤ _ by simp)); have HB2 := Aside.mk hb2; clear ho2 hb2)
          | (gi_at_builtin; go_loud (refine wpIn_app1w (f := bytF) wr.heap.size rfl _ _ _ _ _ _ rfl Try.underlying58 infoByt rfl (by decide) (.slice A2 X.length c2) X 0 _ rfl rfl (by go_simp) KP.out HB2.out.size (by have := HXL.out; omega) ?_); intro v3 w3 ho3 hg3 hat3; have HB3 := Aside.mk (below_own HB2.out hg3 (fun b e => ⟨(KP.out.lt b e).1, (KP.out.lt b e).2⟩)); have KP3 := Aside.mk ho3; clear ho3 hg3 hat3))
        have hj3 : J pre C w3 := HJ.out pre C wr w3 none KJ.out (grown_of_below HB3.out none) (fun r h => by cases h)
        have hsplit : S.filter mayI = pre ++ x :: (S.drop (k + 1)).filter mayI := by
          rw [← HE.out, HK.out, List.filter_cons, HM.out]
          rfl
        obtain ⟨fn, tmps, assign, body, hy, hR⟩ := HY.out pre x _ C w3 #[v3] hsplit hj3 ⟨v3, rfl, by
          unfold toldB
          rw [HXP.out]
          exact KP3.out.mono hks⟩
        have HSP := Aside.mk hsplit
        have HR := Aside.mk hR
        clear hsplit hj3 hR
        rw [hy, Oper.uponIn_round]
        refine ⟨fun _ => hn, HR.out.mono ?_⟩
        rintro e W3 ⟨rfl, C', hj4, hk4, hc4⟩
        have HJ4 := Aside.mk hj4
        have HK4 := Aside.mk hk4
        have HC4 := Aside.mk hc4
        clear hj4 hk4 hc4 hy HR
        gi_wp2
        have hs3 := HB3.out.size
        have hs4 := HK4.out.size
        refine ⟨⟨k + 1, pre ++ [x], C', by omega, by push_cast; rfl, by rw [HSP.out]; simp, HJ4.out, fun q hq => ?_, (KO.out.below HB3.out).keptC HK4.out (fun q e hC => (KC.out q hC).2.1 e),
          (below_call KB.out HB3.out).trans (HK4.out.toBelow (by omega) (fun i hi => by have := (KC.out i hi).1; omega)), by omega, by omega⟩, by simp [intOf]; omega⟩
        obtain ⟨h1, h2⟩ := HC4.out q hq
        rcases h1 with h1 | h1
        · exact ⟨(KC.out q h1).1, (KC.out q h1).2.1, h2⟩
        · exact ⟨by omega, fun e => by have := (KO.out.lt q e).2; omega, h2⟩
    · obtain rfl : k = S.length := by omega
      have hpre : pre = S.filter mayI := by
        have h := HE.out
        simpa using h
      have HP := Aside.mk hpre
      clear hpre
      gi_wp2
      go_end0
      refine ⟨⟨_, rfl⟩, C, ?_⟩
      rw [HS.out, ← HP.out]
      exact KJ.out
end Go.Proofs.Ytlpobpciiaofeaa
