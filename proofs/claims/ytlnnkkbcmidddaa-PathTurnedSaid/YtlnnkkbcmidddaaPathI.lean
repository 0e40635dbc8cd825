/- The iterator of layer 13: all that becomes of a packet, hop by hop. -/
import Derived.Test.YtlnnkkbcmidddaaSeq
import Derived.Test.YtlnnkkbcmidddaaPathS
import Derived.Test.YtlnnkkbcmidddaaPathV
import Derived.Test.YtlnnkkbcmidddaaPathQ
import Derived.Shelf.Abstract
import Derived.Shelf.RegionOpen
import Derived.TacticsInMore
import Derived.LoopNIn
import Derived.LoopIn
namespace Go.Proofs.Ytlnnkkbcmidddaa
open Go.RowKit Go.Shelf
set_option maxRecDepth 100000
attribute [local go_sem] Oper.semAt_some

theorem hops_any (s p : Int) (A : Option Addr) (c : Nat) (ls : List Lnk) (B : Option Addr) (k : Nat) (cs : List (List Rul)) (f : Fly) (w : World) :
    Calls Try.prog 44 #[.agg #[.int .i64 s, .int .i64 p, .slice A ls.length c], .slice B cs.length k, flyV f] w fun e w' =>
      e = .returned (.func (.func 60) #[] #[.pointer (some ⟨w.heap.size, 0, none⟩), .pointer (some ⟨w.heap.size + 1, 0, none⟩), .pointer (some ⟨w.heap.size + 1 + 1, 0, none⟩)]) ∧ w' = ((w.alloc (.cells #[.int .i64 s, .int .i64 p, .slice A ls.length c] 24)).alloc (.cells #[.slice B cs.length k] 26)).alloc (.cells #[.int .i64 f.id, .int .i64 f.src, .int .i64 f.dst, .int .i64 f.ttl, .int .i64 f.tag, .int .i64 f.sw, .int .i64 f.inn] 30) := by
  go_enter Try.func44, Try.ntmps44
  go_wp2
  go_ret
  exact ⟨rfl, rfl⟩

def ttlAt (n : Nat) (w : World) : Nat := match w.cell? ⟨n, 3, none⟩ with | some (.int _ x) => x.toNat | _ => 0
theorem grown_set (W : World) (b o : Nat) (v : Value) : W.grownBy (W.setCell ⟨b, o, none⟩ v) (some b) :=
  ⟨rfl, rfl, rfl, (KeepsWalks.setCell W _ v).size, fun k _ hk => Below.heap_setCell _ _ _ k (fun e => hk (by rw [e]))⟩
/-- What a round may not turn. -/
def protH (n b : Nat) (k : Nat) : Prop := k < n ∨ k = b ∨ k = b + 1 ∨ k = b + 1 + 1

set_option maxHeartbeats 2000000 in
theorem hops_yields (s p : Int) (A : Option Addr) (c : Nat) (ls : List Lnk) (B : Option Addr) (k : Nat) (cs : List (List Rul)) (f : Fly) (w0 : World) (hl : Rd lnkD w0 A ls.length ls) (hc : Rd confD w0 B cs.length cs) (hsz : ∀ l ∈ cs, l.length * 48 ≤ 140737488355328) (ht : Fit f.ttl)
    (n : Nat) (hn : 1 ≤ n) (b : Nat) (hb : w0.heap.size ≤ b) (w : World) (hw : Below w0.heap.size w0 w) (k0 : w.heap[b]? = some (.cells #[.int .i64 s, .int .i64 p, .slice A ls.length c] 24)) (k1 : w.heap[b + 1]? = some (.cells #[.slice B cs.length k] 26)) (k2 : w.heap[b + 1 + 1]? = some (.cells #[.int .i64 f.id, .int .i64 f.src, .int .i64 f.dst, .int .i64 f.ttl, .int .i64 f.tag, .int .i64 f.sw, .int .i64 f.inn] 30)) :
    Yields Fence.wide n Try.prog 60 #[.pointer (some ⟨b, 0, none⟩), .pointer (some ⟨b + 1, 0, none⟩), .pointer (some ⟨b + 1 + 1, 0, none⟩)] (fun h : Hop => #[hopV h]) (protH w0.heap.size b) (fun r => r = b + 1 + 1) (walkP s p ls cs f) w := by
  intro l J C W hW hJ hC hY h0
  have HL := Aside.mk hl
  have HC := Aside.mk hc
  have HZ := Aside.mk hsz
  have H0 := Aside.mk h0
  have HJ := Aside.mk hJ
  have HY := Aside.mk hY
  have hC0 := Aside.mk hC
  have hB0 := Aside.mk (hw.trans (hW.mono hw.size))
  have K0 := Aside.mk (blk_keep k0 hW)
  have K1 := Aside.mk (blk_keep k1 hW)
  have K2 := Aside.mk (blk_keep k2 hW)
  have HT := Aside.mk ht
  clear hl hc hsz h0 hJ hY hw k0 k1 k2 hW ht hC
  refine callsIn_of_wp Try.func60 rfl trivial ?_ rfl
  simp only [Try.ntmps60, List.size_toArray, List.length_cons, List.length_nil, Nat.reduceAdd, Nat.reduceSub, Array.replicate_succ, Array.replicate_zero, List.push_toArray, List.append_toArray, List.nil_append, List.cons_append]
  gi_wp2
  gi_loopw [18] (fun _ wr => ∃ (g : Fly) (pre : List Hop) (C : Nat → Prop), Fit g.ttl ∧ pre ++ walkP s p ls cs g = walkP s p ls cs f ∧ J pre C wr ∧ (∀ k, C k → ¬ protH w0.heap.size b k ∧ k < wr.heap.size) ∧ Below w0.heap.size w0 wr ∧ wr.heap[b]? = some (.cells #[.int .i64 s, .int .i64 p, .slice A ls.length c] 24) ∧ wr.heap[b + 1]? = some (.cells #[.slice B cs.length k] 26) ∧ wr.heap[b + 1 + 1]? = some (.cells #[.int .i64 g.id, .int .i64 g.src, .int .i64 g.dst, .int .i64 g.ttl, .int .i64 g.tag, .int .i64 g.sw, .int .i64 g.inn] 30))
    (fun _ wr => ttlAt (b + 1 + 1) wr)
  case atStart => exact ⟨f, [], C, HT.out, rfl, H0.out, hC0.out, hB0.out, K0.out, K1.out, K2.out⟩
  case round =>
    clear H0 hB0 K0 K1 K2 hC0 C
    obtain ⟨g, pre, C, hf, he, hj, hc, hb1, k0, k1, k2⟩ := hrel
    have KJ := Aside.mk hj
    have KC := Aside.mk hc
    have KB := Aside.mk hb1
    have K0 := Aside.mk k0
    have K1 := Aside.mk k1
    have K2 := Aside.mk k2
    have KF := Aside.mk hf
    have HE := Aside.mk he
    have c0 := blk_cell k0 0
    have c1 := blk_cell k0 1
    have c2 := blk_cell k0 2
    have d0 := blk_cell k1 0
    have y0 := blk_cell k2 0
    have y1 := blk_cell k2 1
    have y2 := blk_cell k2 2
    have y3 := blk_cell k2 3
    have y4 := blk_cell k2 4
    have y5 := blk_cell k2 5
    have y6 := blk_cell k2 6
    simp at c0 c1 c2 d0 y0 y1 y2 y3 y4 y5 y6
    have hm0 := Aside.mk (show ttlAt (b + 1 + 1) wr = g.ttl.toNat by unfold ttlAt; rw [y3])
    have hst := walkP_step s p ls cs g
    have hwt := fun h => step_went (s := s) (p := p) (ls := ls) (cs := cs) (f := g) h
    obtain ⟨h, g2, hsp⟩ : ∃ h g2, stepP s p ls cs g = (h, g2) := ⟨_, _, rfl⟩
    rw [hsp] at hst hwt
    have HS := Aside.mk hsp
    have HST := Aside.mk hst
    have HWT := Aside.mk hwt
    clear hj hb1 k0 k1 k2 hf he hc hst hwt hsp
    gi_wp2_with (refine ⟨trivial, ?_⟩; gi_at_call 15; refine (callsIn_wide.2 (step_any s p A c ls B k cs g _ (HL.out.below KB.out) (HC.out.below KB.out) HZ.out KF.out)).mono ?_; rw [HS.out]; rintro e w1 ⟨rfl, hb1⟩; have HB1 := Aside.mk hb1; clear hb1)
    obtain ⟨W2, hW2⟩ : ∃ W2, (w1.alloc (.cells #[.int .i64 h.tick, .int .i64 h.id, .int .i64 h.sw, .int .i64 h.inn, .int .i64 h.tag, .int .i64 h.what, .int .i64 h.out] 41)).alloc (.cells #[.int .i64 g2.id, .int .i64 g2.src, .int .i64 g2.dst, .int .i64 g2.ttl, .int .i64 g2.tag, .int .i64 g2.sw, .int .i64 g2.inn] 30) = W2 := ⟨_, rfl⟩
    rw [hW2]
    have hB2 : Below w1.heap.size w1 W2 := by rw [← hW2]; exact ((Below.refl _ _).alloc (Nat.le_refl _) _).alloc (by simp) _
    have hH : W2.heap[w1.heap.size]? = some (.cells #[.int .i64 h.tick, .int .i64 h.id, .int .i64 h.sw, .int .i64 h.inn, .int .i64 h.tag, .int .i64 h.what, .int .i64 h.out] 41) := by rw [← hW2]; exact heap_old (heap_new _ _ rfl) _
    have hG : W2.heap[w1.heap.size + 1]? = some (.cells #[.int .i64 g2.id, .int .i64 g2.src, .int .i64 g2.dst, .int .i64 g2.ttl, .int .i64 g2.tag, .int .i64 g2.sw, .int .i64 g2.inn] 30) := by rw [← hW2]; exact heap_new _ _ (by simp)
    clear hW2
    have hB3 : Below wr.heap.size wr W2 := HB1.out.trans (hB2.mono HB1.out.size)
    have hj2 : J pre C W2 := HJ.out pre C wr W2 none KJ.out (grown_of_below hB3 none) (fun r h => by cases h)
    have hsplit : walkP s p ls cs f = pre ++ h :: (if h.what = 0 then walkP s p ls cs g2 else []) := by
      rw [← HE.out, HST.out]
      split <;> rfl
    obtain ⟨fn, tmps, assign, body, hy, hR⟩ := HY.out pre h _ C W2 hsplit hj2
    dsimp only [hopV] at hy
    have HH := Aside.mk hH
    have HG := Aside.mk hG
    have HR := Aside.mk hR
    have HB2 := Aside.mk hB3
    have HSP := Aside.mk hsplit
    clear hH hG hB2 hB3 hj2 hR hsplit
    rw [hy, Oper.uponIn_round]
    refine ⟨fun _ => hn, HR.out.mono ?_⟩
    rintro e W3 ⟨rfl, C', hj3, hk3, hc3⟩
    clear hy HR
    have hs1 := HB1.out.size
    have hnc : ∀ i, wr.heap.size ≤ i → ¬ C i := fun i hi hC => by have := (KC.out i hC).2; omega
    have hnp : ∀ i, protH w0.heap.size b i → ¬ C i := fun i hi hC => (KC.out i hC).1 hi
    have hbr := blk_lt K2.out
    have h5 := hk3.keep HH.out (hnc _ hs1)
    have h6 := hk3.keep HG.out (hnc _ (by omega))
    have K0 := Aside.mk (hk3.keep (blk_keep K0.out HB2.out) (hnp _ (.inr (.inl rfl))))
    have K1 := Aside.mk (hk3.keep (blk_keep K1.out HB2.out) (hnp _ (.inr (.inr (.inl rfl)))))
    have K2 := Aside.mk (hk3.keep (blk_keep K2.out HB2.out) (hnp _ (.inr (.inr (.inr rfl)))))
    have KB := Aside.mk ((below_call KB.out HB2.out).trans (hk3.toBelow (Nat.le_trans KB.out.size HB2.out.size) (fun i hi => by
      have := (KC.out i hi).1
      unfold protH at this
      omega)))
    have x5 := blk_cell h5 5
    have z0 := blk_cell h6 0
    have z1 := blk_cell h6 1
    have z2 := blk_cell h6 2
    have z3 := blk_cell h6 3
    have z4 := blk_cell h6 4
    have z5 := blk_cell h6 5
    have z6 := blk_cell h6 6
    have yf := fun i => blk_frozen K2.out i
    have y0 := blk_cell K2.out 0
    have y1 := blk_cell K2.out 1
    have y2 := blk_cell K2.out 2
    have y3 := blk_cell K2.out 3
    have y4 := blk_cell K2.out 4
    have y5 := blk_cell K2.out 5
    have y6 := blk_cell K2.out 6
    simp at x5 z0 z1 z2 z3 z4 z5 z6 y0 y1 y2 y3 y4 y5 y6
    have HJ3 := Aside.mk hj3
    have HK3 := Aside.mk hk3
    have HC3 := Aside.mk hc3
    clear hj3 hk3 hc3 hnc hnp h5 h6
    have hbw := blk_lt K2.out
    have hs3 := HK3.out.size
    have hs2 := HB2.out.size
    by_cases hw0 : h.what = 0
    · have dw : (h.what != 0) = false := by simp [hw0]
      have HWT2 := Aside.mk (HWT.out hw0)
      have HW0 := Aside.mk hw0
      clear hw0
      gi_wp2
      obtain ⟨ht1, ht2⟩ := HWT2.out
      have hfin := blk_set (blk_set (blk_set (blk_set (blk_set (blk_set (blk_set K2.out 0 (.int .i64 g2.id)) 1 (.int .i64 g2.src)) 2 (.int .i64 g2.dst)) 3 (.int .i64 g2.ttl)) 4 (.int .i64 g2.tag)) 5 (.int .i64 g2.sw)) 6 (.int .i64 g2.inn)
      have hgr := ((((((grown_set W3 (b + 1 + 1) 0 (.int .i64 g2.id)).trans (grown_set _ _ 1 (.int .i64 g2.src))).trans (grown_set _ _ 2 (.int .i64 g2.dst))).trans (grown_set _ _ 3 (.int .i64 g2.ttl))).trans (grown_set _ _ 4 (.int .i64 g2.tag))).trans (grown_set _ _ 5 (.int .i64 g2.sw))).trans (grown_set _ _ 6 (.int .i64 g2.inn))
      have hj4 := HJ.out _ _ _ _ _ HJ3.out hgr (fun r e => by cases e; rfl)
      have hb4 := KB.out.grown hgr KB.out.size (fun k e => by cases e; omega)
      have hk0 := (hgr.block b (blk_lt K0.out) (by intro e; injection e; omega)).trans K0.out
      have hk1 := (hgr.block (b + 1) (blk_lt K1.out) (by intro e; injection e; omega)).trans K1.out
      have hsz4 := hgr.size
      revert hfin hj4 hb4 hk0 hk1 hsz4
      clear hgr
      generalize ((((((W3.setCell ⟨b + 1 + 1, 0, none⟩ (.int .i64 g2.id)).setCell ⟨b + 1 + 1, 1, none⟩ (.int .i64 g2.src)).setCell ⟨b + 1 + 1, 2, none⟩ (.int .i64 g2.dst)).setCell ⟨b + 1 + 1, 3, none⟩ (.int .i64 g2.ttl)).setCell ⟨b + 1 + 1, 4, none⟩ (.int .i64 g2.tag)).setCell ⟨b + 1 + 1, 5, none⟩ (.int .i64 g2.sw)).setCell ⟨b + 1 + 1, 6, none⟩ (.int .i64 g2.inn) = W4
      intro hfin hj4 hb4 hk0 hk1 hsz4
      have hfit := KF.out
      refine ⟨⟨g2, pre ++ [h], C', WalkArith.wf_i64 ⟨by omega, by have := hfit.hi; omega⟩, ?_, hj4, fun k hk => ?_, hb4, hk0, hk1, hfin⟩, ?_⟩
      · rw [HSP.out, if_pos HW0.out]; simp
      · obtain ⟨h1, h2⟩ := HC3.out k hk
        refine ⟨?_, by omega⟩
        rcases h1 with h1 | h1
        · exact (KC.out k h1).1
        · have h4 := KB.out.size
          unfold protH
          omega
      · rw [hm0.out]
        have e3 := blk_cell hfin 3
        unfold ttlAt
        rw [e3]
        show g2.ttl.toNat < _
        omega
    · have dw : (h.what != 0) = true := by simp [hw0]
      have HW0 := Aside.mk hw0
      clear hw0
      gi_wp2
      refine bodyPost_ret (results_none rfl _ _ _) rfl ⟨⟨_, rfl⟩, C', ?_⟩
      rw [HSP.out, if_neg HW0.out]
      exact HJ3.out
end Go.Proofs.Ytlnnkkbcmidddaa
