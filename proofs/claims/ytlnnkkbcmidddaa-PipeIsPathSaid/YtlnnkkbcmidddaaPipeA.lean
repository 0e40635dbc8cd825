/- The walks through (*passing).look and pipe.At. -/
import Derived.Test.YtlnnkkbcmidddaaVerA
import Derived.Test.YtlnnkkbcmidddaaPathS
import Derived.Test.YtlnnkkbcmidddaaAppend
namespace Go.Proofs.Ytlnnkkbcmidddaa
open Go.RowKit
set_option maxRecDepth 100000
abbrev swV (sw : Swt) (V : Option Addr) (cV : Nat) : Value := .agg #[.int .i64 sw.epoch, .int .i64 sw.seen, .bool sw.op, .int .i64 sw.stamp, .int .i64 sw.bad, .slice V sw.vs.length cV, .int .i64 sw.junk]
/-- What passes: a hop, and where the packet goes. -/
abbrev passC (h : Hop) (g : Fly) : Array Value := #[.int .i64 h.tick, .int .i64 h.id, .int .i64 h.sw, .int .i64 h.inn, .int .i64 h.tag, .int .i64 h.what, .int .i64 h.out, .int .i64 g.id, .int .i64 g.src, .int .i64 g.dst, .int .i64 g.ttl, .int .i64 g.tag, .int .i64 g.sw, .int .i64 g.inn]
def lookP (s p : Int) (ls : List Lnk) (vs : List Vr) (f : Fly) (h : Hop) : Hop × Fly :=
  if (lookV vs h.tag f.inn f.dst).2 ≠ 0 then ({ h with what := (lookV vs h.tag f.inn f.dst).2 }, noFly) else
  if (farR s p ls f.sw (lookV vs h.tag f.inn f.dst).1.2).2.2 = true then
    ({ h with what := 0, out := (lookV vs h.tag f.inn f.dst).1.2 }, { f with ttl := f.ttl - 1, tag := h.tag, sw := (farR s p ls f.sw (lookV vs h.tag f.inn f.dst).1.2).1, inn := (farR s p ls f.sw (lookV vs h.tag f.inn f.dst).1.2).2.1 })
  else ({ h with what := 1, out := (lookV vs h.tag f.inn f.dst).1.2 }, noFly)
theorem grown_set2 (W : World) (b o : Nat) (v : Value) : W.grownBy (W.setCell ⟨b, o, none⟩ v) (some b) :=
  ⟨rfl, rfl, rfl, by simp, fun k _ hk => Below.heap_setCell _ _ _ k (fun e => hk (by rw [e]))⟩

theorem heap_drew2 {W : World} {b : Nat} {o : Option Obj} (h : W.heap[b]? = o) : W.drew.heap[b]? = o := h
theorem grown_drew {w W : World} {r : Option Nat} (h : w.grownBy W r) : w.grownBy W.drew r := by
  obtain ⟨h1, h2, h3, h4, h5⟩ := h
  exact ⟨h1, h2, h3, h4, h5⟩
theorem blk_eq {W : World} {b : Nat} {cs cs' : Array Value} {t : TypeId} {fr : Nat × Nat} (h : W.heap[b]? = some (.cells cs t fr)) (he : cs = cs') : W.heap[b]? = some (.cells cs' t fr) := he ▸ h

def lkaB (s p : Int) (A : Option Addr) (c : Nat) (ls : List Lnk) (sw : Swt) (V : Option Addr) (cV : Nat) (f : Fly) (b : Nat) (h : Hop) (w0 w : World) (w' : World) : Prop :=
  Below w.heap.size w w' ∧ Below w0.heap.size w0 w' ∧ w'.heap[w.heap.size]? = some (.cells #[.int .i64 s, .int .i64 p, .slice A ls.length c] 24) ∧ w'.heap[w.heap.size + 1]? = some (.cells #[.int .i64 sw.epoch, .int .i64 sw.seen, .bool sw.op, .int .i64 sw.stamp, .int .i64 sw.bad, .slice V sw.vs.length cV, .int .i64 sw.junk] 39) ∧ w'.heap[w.heap.size + 1 + 1]? = some (.cells #[.int .i64 f.id, .int .i64 f.src, .int .i64 f.dst, .int .i64 f.ttl, .int .i64 f.tag, .int .i64 f.sw, .int .i64 f.inn] 30) ∧ w'.heap[b]? = some (.cells #[.int .i64 h.tick, .int .i64 h.id, .int .i64 h.sw, .int .i64 h.inn, .int .i64 h.tag, .int .i64 h.what, .int .i64 h.out, .int .i64 0, .int .i64 0, .int .i64 0, .int .i64 0, .int .i64 0, .int .i64 0, .int .i64 0] 72) ∧ w0.heap.size ≤ w.heap.size ∧ b < w.heap.size
def lkaF (s p : Int) (A : Option Addr) (c : Nat) (ls : List Lnk) (sw : Swt) (V : Option Addr) (cV : Nat) (f : Fly) (b : Nat) (h : Hop) (w0 w : World) : List (Value → Value → World → Prop) :=
  [fun _ v _ => v = .pointer (some ⟨w.heap.size + 1, 5, none⟩),
   fun _ v _ => v = .slice V sw.vs.length cV,
   fun _ v _ => v = .pointer (some ⟨b, 0, none⟩),
   fun _ v _ => v = .pointer (some ⟨b, 0, none⟩),
   fun _ v _ => v = .pointer (some ⟨b, 0, none⟩),
   fun _ v _ => v = .pointer (some ⟨b, 4, none⟩),
   fun _ v _ => v = .int .i64 h.tag,
   fun _ v _ => v = .pointer (some ⟨w.heap.size + 1 + 1, 6, none⟩),
   fun _ v _ => v = .int .i64 f.inn,
   fun _ v _ => v = .pointer (some ⟨w.heap.size + 1 + 1, 0, none⟩),
   fun _ v _ => v = .pointer (some ⟨w.heap.size + 1 + 1, 2, none⟩),
   fun _ v _ => v = .int .i64 f.dst,
   fun _ v _ => v = .tuple #[.agg #[.int .i64 (lookV sw.vs h.tag f.inn f.dst).1.1, .int .i64 (lookV sw.vs h.tag f.inn f.dst).1.2], .int .i64 (lookV sw.vs h.tag f.inn f.dst).2],
   fun _ v _ => v = .tuple #[.agg #[.int .i64 (lookV sw.vs h.tag f.inn f.dst).1.1, .int .i64 (lookV sw.vs h.tag f.inn f.dst).1.2], .int .i64 (lookV sw.vs h.tag f.inn f.dst).2],
   fun _ v _ => v = .agg #[.int .i64 (lookV sw.vs h.tag f.inn f.dst).1.1, .int .i64 (lookV sw.vs h.tag f.inn f.dst).1.2],
   fun _ v _ => v = .int .i64 (lookV sw.vs h.tag f.inn f.dst).2,
   fun _ v w' => ∃ g c0 c1, v = .pointer (some ⟨g, 0, none⟩) ∧ w.heap.size + 1 + 1 < g ∧ w'.heap[g]? = some (.cells #[c0, c1] 56),
   fun u _ w' => ∃ g, u = .pointer (some ⟨g, 0, none⟩) ∧ w'.heap[g]? = some (.cells #[.int .i64 (lookV sw.vs h.tag f.inn f.dst).1.1, .int .i64 (lookV sw.vs h.tag f.inn f.dst).1.2] 56),
   fun _ v _ => v = .int .i64 (lookV sw.vs h.tag f.inn f.dst).2]
def lkaQ : Nat → Nat := fun i => if i = 17 then 16 else i
theorem lkaF_stay (s p : Int) (A : Option Addr) (c : Nat) (ls : List Lnk) (sw : Swt) (V : Option Addr) (cV : Nat) (f : Fly) (b : Nat) (h : Hop) (w0 w : World) : AllStay (lkaF s p A c ls sw V cV f b h w0 w) := by
  intro F hF u v w' w'' hb h
  simp only [lkaF, List.mem_cons, List.not_mem_nil, or_false] at hF
  rcases hF with rfl | rfl | rfl | rfl | rfl | rfl | rfl | rfl | rfl | rfl | rfl | rfl | rfl | rfl | rfl | rfl | rfl | rfl | rfl
  · exact h
  · exact h
  · exact h
  · exact h
  · exact h
  · exact h
  · exact h
  · exact h
  · exact h
  · exact h
  · exact h
  · exact h
  · exact h
  · exact h
  · exact h
  · exact h
  · obtain ⟨g, c0, c1, e, h1, h2⟩ := h
    exact ⟨g, c0, c1, e, h1, blk_keep h2 hb⟩
  · obtain ⟨g, e, h1⟩ := h
    exact ⟨g, e, blk_keep h1 hb⟩
  · exact h
theorem lkaB_stay (s p : Int) (A : Option Addr) (c : Nat) (ls : List Lnk) (sw : Swt) (V : Option Addr) (cV : Nat) (f : Fly) (b : Nat) (h : Hop) (w0 w : World) : Stays (lkaB s p A c ls sw V cV f b h w0 w) := by
  intro w' w'' hb h
  exact ⟨below_call h.1 hb, below_call h.2.1 hb, blk_keep h.2.2.1 hb, blk_keep h.2.2.2.1 hb, blk_keep h.2.2.2.2.1 hb, blk_keep h.2.2.2.2.2.1 hb, h.2.2.2.2.2.2⟩

set_option maxHeartbeats 4000000 in
theorem passing_any (s p : Int) (A : Option Addr) (c : Nat) (ls : List Lnk) (sw : Swt) (V : Option Addr) (cV : Nat) (f : Fly) (b : Nat) (h : Hop) (w0 w : World) (hl : Rd lnkD w0 A ls.length ls) (hv : Rd verD w0 V sw.vs.length sw.vs) (h0 : Below w0.heap.size w0 w) (hb : w0.heap.size ≤ b) (hp : w.heap[b]? = some (.cells (passC h noFly) 72)) (ht : Fit f.ttl) (ht1 : 1 ≤ f.ttl) :
    Calls Try.prog 34 #[.pointer (some ⟨b, 0, none⟩), .agg #[.int .i64 s, .int .i64 p, .slice A ls.length c], swV sw V cV, flyV f] w fun e w' => (∃ v, e = .returned v) ∧ w'.heap[b]? = some (.cells (passC (lookP s p ls sw.vs f h).1 (lookP s p ls sw.vs f h).2) 72) ∧ w.grownBy w' (some b) := by
  have HL := Aside.mk hl
  have HV := Aside.mk hv
  have hbl := blk_lt hp
  have hs0 := h0.size
  have HT := Aside.mk ht
  have KB := below_alloc (below_alloc (below_alloc (Below.refl _ w) (.cells #[.int .i64 s, .int .i64 p, .slice A ls.length c] 24)) (.cells #[.int .i64 sw.epoch, .int .i64 sw.seen, .bool sw.op, .int .i64 sw.stamp, .int .i64 sw.bad, .slice V sw.vs.length cV, .int .i64 sw.junk] 39)) (.cells #[.int .i64 f.id, .int .i64 f.src, .int .i64 f.dst, .int .i64 f.ttl, .int .i64 f.tag, .int .i64 f.sw, .int .i64 f.inn] 30)
  have KB0 := below_call h0 KB
  have KT := heap_old (heap_old (heap_new w (.cells #[.int .i64 s, .int .i64 p, .slice A ls.length c] 24) rfl) (.cells #[.int .i64 sw.epoch, .int .i64 sw.seen, .bool sw.op, .int .i64 sw.stamp, .int .i64 sw.bad, .slice V sw.vs.length cV, .int .i64 sw.junk] 39)) (.cells #[.int .i64 f.id, .int .i64 f.src, .int .i64 f.dst, .int .i64 f.ttl, .int .i64 f.tag, .int .i64 f.sw, .int .i64 f.inn] 30)
  have KS := heap_old (heap_new (w.alloc (.cells #[.int .i64 s, .int .i64 p, .slice A ls.length c] 24)) (.cells #[.int .i64 sw.epoch, .int .i64 sw.seen, .bool sw.op, .int .i64 sw.stamp, .int .i64 sw.bad, .slice V sw.vs.length cV, .int .i64 sw.junk] 39) rfl) (.cells #[.int .i64 f.id, .int .i64 f.src, .int .i64 f.dst, .int .i64 f.ttl, .int .i64 f.tag, .int .i64 f.sw, .int .i64 f.inn] 30)
  have KF := heap_new ((w.alloc (.cells #[.int .i64 s, .int .i64 p, .slice A ls.length c] 24)).alloc (.cells #[.int .i64 sw.epoch, .int .i64 sw.seen, .bool sw.op, .int .i64 sw.stamp, .int .i64 sw.bad, .slice V sw.vs.length cV, .int .i64 sw.junk] 39)) (.cells #[.int .i64 f.id, .int .i64 f.src, .int .i64 f.dst, .int .i64 f.ttl, .int .i64 f.tag, .int .i64 f.sw, .int .i64 f.inn] 30) rfl
  have KP := blk_keep hp KB
  simp only [World.size_alloc] at KT KS KF
  clear hl hv h0 hp ht
  have hwt : IntKind.i64.wrap (f.ttl - 1) = f.ttl - 1 := IntWalk.i64_in _ ⟨by omega, by have := HT.out.hi; omega⟩
  go_enter Try.func34, Try.ntmps34
  go_wp2
  refine wp_region_facts (Base := lkaB s p A c ls sw V cV f b h w0 w) (q := lkaQ) (Fs := lkaF s p A c ls sw V cV f b h w0 w) (by kernel_rfl) (by kernel_rfl) (by kernel_rfl) (by kernel_rfl) ⟨below_drew KB, below_drew KB0, KT, KS, KF, KP, hs0, hbl⟩ ?_ ?_
  · clear KB KB0 KT KS KF KP
    have hBs := lkaB_stay s p A c ls sw V cV f b h w0 w
    have hFs := lkaF_stay s p A c ls sw V cV f b h w0 w
    refine ⟨?_, ?_, ?_, ?_, ?_, ?_, ?_, ?_, ?_, ?_, ?_, ?_, ?_, ?_, ?_, ?_, ?_, ?_, ?_, trivial⟩
    · refine step_pure hBs hFs rfl fun a' w' hB hag hp => ?_
      have h6 := hag 6 (by kernel_rfl)
      simp at h6
      unfold OpYields
      go_simp
      exact ⟨Below.refl _ _, rfl⟩
    · refine step_pure hBs hFs rfl fun a' w' hB hag hp => ?_
      have h14 : a'.tmps.getD 14 undef = _ := hp 0 (by kernel_rfl)
      have hc0 := blk_cell hB.2.2.1 0; have hc5 := blk_cell hB.2.2.2.1 5; have hd2 := blk_cell hB.2.2.2.2.1 2; have hd6 := blk_cell hB.2.2.2.2.1 6; have hp4 := blk_cell hB.2.2.2.2.2.1 4; simp at hc0 hc5 hd2 hd6 hp4
      simp at h14
      unfold OpYields
      go_simp
      exact ⟨Below.refl _ _, rfl⟩
    · refine step_pure hBs hFs rfl fun a' w' hB hag hp => ?_
      have h0 := hag 0 (by kernel_rfl)
      simp at h0
      unfold OpYields
      go_simp
      exact ⟨Below.refl _ _, rfl⟩
    · refine step_pure hBs hFs rfl fun a' w' hB hag hp => ?_
      have h16 : a'.tmps.getD 16 undef = _ := hp 2 (by kernel_rfl)
      simp at h16
      unfold OpYields
      go_simp
      exact ⟨Below.refl _ _, rfl⟩
    · refine step_pure hBs hFs rfl fun a' w' hB hag hp => ?_
      have h17 : a'.tmps.getD 17 undef = _ := hp 3 (by kernel_rfl)
      simp at h17
      unfold OpYields
      go_simp
      exact ⟨Below.refl _ _, rfl⟩
    · refine step_pure hBs hFs rfl fun a' w' hB hag hp => ?_
      have h18 : a'.tmps.getD 18 undef = _ := hp 4 (by kernel_rfl)
      simp at h18
      unfold OpYields
      go_simp
      exact ⟨Below.refl _ _, rfl⟩
    · refine step_pure hBs hFs rfl fun a' w' hB hag hp => ?_
      have h19 : a'.tmps.getD 19 undef = _ := hp 5 (by kernel_rfl)
      have hc0 := blk_cell hB.2.2.1 0; have hc5 := blk_cell hB.2.2.2.1 5; have hd2 := blk_cell hB.2.2.2.2.1 2; have hd6 := blk_cell hB.2.2.2.2.1 6; have hp4 := blk_cell hB.2.2.2.2.2.1 4; simp at hc0 hc5 hd2 hd6 hp4
      simp at h19
      unfold OpYields
      go_simp
      exact ⟨Below.refl _ _, rfl⟩
    · refine step_pure hBs hFs rfl fun a' w' hB hag hp => ?_
      have h7 := hag 7 (by kernel_rfl)
      simp at h7
      unfold OpYields
      go_simp
      exact ⟨Below.refl _ _, rfl⟩
    · refine step_pure hBs hFs rfl fun a' w' hB hag hp => ?_
      have h21 : a'.tmps.getD 21 undef = _ := hp 7 (by kernel_rfl)
      have hc0 := blk_cell hB.2.2.1 0; have hc5 := blk_cell hB.2.2.2.1 5; have hd2 := blk_cell hB.2.2.2.2.1 2; have hd6 := blk_cell hB.2.2.2.2.1 6; have hp4 := blk_cell hB.2.2.2.2.2.1 4; simp at hc0 hc5 hd2 hd6 hp4
      simp at h21
      unfold OpYields
      go_simp
      exact ⟨Below.refl _ _, rfl⟩
    · refine step_pure hBs hFs rfl fun a' w' hB hag hp => ?_
      have h7 := hag 7 (by kernel_rfl)
      simp at h7
      unfold OpYields
      go_simp
      exact ⟨Below.refl _ _, rfl⟩
    · refine step_pure hBs hFs rfl fun a' w' hB hag hp => ?_
      have h23 : a'.tmps.getD 23 undef = _ := hp 9 (by kernel_rfl)
      simp at h23
      unfold OpYields
      go_simp
      exact ⟨Below.refl _ _, rfl⟩
    · refine step_pure hBs hFs rfl fun a' w' hB hag hp => ?_
      have h24 : a'.tmps.getD 24 undef = _ := hp 10 (by kernel_rfl)
      have hc0 := blk_cell hB.2.2.1 0; have hc5 := blk_cell hB.2.2.2.1 5; have hd2 := blk_cell hB.2.2.2.2.1 2; have hd6 := blk_cell hB.2.2.2.2.1 6; have hp4 := blk_cell hB.2.2.2.2.2.1 4; simp at hc0 hc5 hd2 hd6 hp4
      simp at h24
      unfold OpYields
      go_simp
      exact ⟨Below.refl _ _, rfl⟩
    · refine step_pure hBs hFs rfl fun a' w' hB hag hp => ?_
      have h15 : a'.tmps.getD 15 undef = _ := hp 1 (by kernel_rfl)
      have h20 : a'.tmps.getD 20 undef = _ := hp 6 (by kernel_rfl)
      have h22 : a'.tmps.getD 22 undef = _ := hp 8 (by kernel_rfl)
      have h25 : a'.tmps.getD 25 undef = _ := hp 11 (by kernel_rfl)
      simp at h15 h20 h22 h25
      unfold OpYields
      go_simp
      refine (look_any sw.vs V cV h.tag f.inn f.dst w' (HV.out.below hB.2.1)).mono ?_
      rintro e w1 ⟨rfl, hb⟩
      exact ⟨_, rfl, hb, rfl⟩
    · refine step_pure hBs hFs rfl fun a' w' hB hag hp => ?_
      have h26 : a'.tmps.getD 26 undef = _ := hp 12 (by kernel_rfl)
      simp at h26
      unfold OpYields
      go_simp
      exact ⟨Below.refl _ _, rfl⟩
    · refine step_pure hBs hFs rfl fun a' w' hB hag hp => ?_
      have h13 : a'.tmps.getD 13 undef = _ := hp 13 (by kernel_rfl)
      simp at h13
      unfold OpYields
      go_simp
      exact ⟨Below.refl _ _, rfl⟩
    · refine step_pure hBs hFs rfl fun a' w' hB hag hp => ?_
      have h13 : a'.tmps.getD 13 undef = _ := hp 13 (by kernel_rfl)
      simp at h13
      unfold OpYields
      go_simp
      exact ⟨Below.refl _ _, rfl⟩
    · refine step_pure hBs hFs rfl fun a' w' hB hag hp => ?_
      unfold OpYields
      go_simp
      exact ⟨(Below.refl _ _).alloc (by simp) _, _, _, _, rfl, by have h1 := blk_lt hB.2.2.2.2.1; exact h1, by rw [heap_at, if_pos rfl]⟩
    · intro a' w' hB hag hp
      rw [if_pos (by kernel_rfl)]
      obtain ⟨g, c0, c1, h1, h2, h3⟩ : ∃ g c0 c1, a'.tmps.getD 8 undef = .pointer (some ⟨g, 0, none⟩) ∧ w.heap.size + 1 + 1 < g ∧ w'.heap[g]? = some (.cells #[c0, c1] 56) := hp 16 (by kernel_rfl)
      have h5 : a'.tmps.getD 27 undef = _ := hp 14 (by kernel_rfl)
      have h1' := h1
      simp at h1 h5
      have k0 := blk_cell h3 0
      have k1 := blk_cell h3 1
      have k2 := blk_frozen h3 0
      have k3 := blk_frozen h3 1
      simp at k0 k1
      unfold OpYields
      go_simp
      have e1 := blk_set (blk_set h3 0 (.int .i64 (lookV sw.vs h.tag f.inn f.dst).1.1)) 1 (.int .i64 (lookV sw.vs h.tag f.inn f.dst).1.2)
      have hf : ∀ g' o, g' ≠ g → w'.heap[g']? = some o → ((w'.setCell ⟨g, 0, none⟩ (.int .i64 (lookV sw.vs h.tag f.inn f.dst).1.1)).setCell ⟨g, 1, none⟩ (.int .i64 (lookV sw.vs h.tag f.inn f.dst).1.2)).heap[g']? = some o := fun g' o hg ho => blk_far (blk_far ho hg _) hg _
      obtain ⟨b1, b2, b3, b4, b5, b6, b7, b8⟩ := hB
      refine ⟨⟨below_set (below_set b1 (by simp; omega) _) (by simp; omega) _, below_set (below_set b2 (by simp; omega) _) (by simp; omega) _, hf _ _ (by omega) b3, hf _ _ (by omega) b4, hf _ _ (by omega) b5, hf _ _ (by omega) b6, b7, b8⟩, ⟨g, h1', e1⟩, ?_⟩
      intro j vs hj hF
      by_cases hj7 : j = 16
      · subst hj7
        obtain ⟨g1, d0, d1, e, e1', e2⟩ : ∃ g c0 c1, vs 16 = .pointer (some ⟨g, 0, none⟩) ∧ w.heap.size + 1 + 1 < g ∧ w'.heap[g]? = some (.cells #[c0, c1] 56) := hF
        by_cases hbb : g1 = g
        · subst hbb
          exact ⟨g1, _, _, e, e1', e1⟩
        · exact ⟨g1, _, _, e, e1', hf _ _ hbb e2⟩
      unfold Fof at *
      match j, hj, hj7 with
      | 0, _, _ | 1, _, _ | 2, _, _ | 3, _, _ | 4, _, _ | 5, _, _ | 6, _, _ | 7, _, _ | 8, _, _ | 9, _, _ | 10, _, _ | 11, _, _ | 12, _, _ | 13, _, _ | 14, _, _ | 15, _, _ | 18, _, _ => exact hF
      | j + 19, _, _ => trivial
    · refine step_pure hBs hFs rfl fun a' w' hB hag hp => ?_
      have h28 : a'.tmps.getD 28 undef = _ := hp 15 (by kernel_rfl)
      simp at h28
      unfold OpYields
      go_simp
      exact ⟨Below.refl _ _, rfl⟩
  intro vs w' hB hF
  simp only [AllF, forall_const, reduceCtorEq, false_implies, Fof, lkaF, lkaQ, Nat.zero_add, Nat.reduceAdd, Nat.reduceEqDiff, if_true, if_false, List.getD_cons_succ, List.getD_cons_zero] at hF
  obtain ⟨f0, f1, f2, f3, f4, f5, f6, f7, f8, f9, f10, f11, f12, f13, f14, f15, ⟨g8, u0, u1, f16, hlt8, hb8⟩, ⟨g9, f17, hb9⟩, f18, -⟩ := hF
  simp only [putAll, Act.put, Nat.zero_add, Nat.reduceAdd, f0, f1, f2, f3, f4, f5, f6, f7, f8, f9, f10, f11, f12, f13, f14, f15, f16, f17, f18, List.setIfInBounds_toArray, List.set_cons_zero, List.set_cons_succ]
  obtain rfl : g9 = g8 := by
    rw [f16] at f17
    injection f17 with f17
    injection f17 with f17
    injection f17 with f17
    exact f17.symm
  obtain ⟨B1, B2, B3, B4, B5, B6, -, -⟩ := hB
  have KG := Aside.mk (grown_of_below B1 (some b))
  have KB0 := Aside.mk B2
  have KT := Aside.mk B3
  have KF := Aside.mk B5
  have KP := Aside.mk B6
  have KA := Aside.mk hb9
  have hsz := B1.size
  have P0 := blk_cell KP.out 0; have P1 := blk_cell KP.out 1; have P2 := blk_cell KP.out 2; have P3 := blk_cell KP.out 3; have P4 := blk_cell KP.out 4; have P5 := blk_cell KP.out 5; have P6 := blk_cell KP.out 6; have P7 := blk_cell KP.out 7; have P8 := blk_cell KP.out 8; have P9 := blk_cell KP.out 9; have P10 := blk_cell KP.out 10; have P11 := blk_cell KP.out 11; have P12 := blk_cell KP.out 12; have P13 := blk_cell KP.out 13; simp at P0 P1 P2 P3 P4 P5 P6 P7 P8 P9 P10 P11 P12 P13; have PF := fun i => blk_frozen KP.out i; have PL := blk_lt KP.out
  have c0 := blk_cell KT.out 0; have c1 := blk_cell KT.out 1; have c2 := blk_cell KT.out 2; have d0 := blk_cell KF.out 0; have d1 := blk_cell KF.out 1; have d2 := blk_cell KF.out 2; have d3 := blk_cell KF.out 3; have d4 := blk_cell KF.out 4; have d5 := blk_cell KF.out 5; have d6 := blk_cell KF.out 6; have a0 := blk_cell KA.out 0; have a1 := blk_cell KA.out 1; simp at c0 c1 c2 d0 d1 d2 d3 d4 d5 d6 a0 a1
  have hl1 := blk_lt B5
  have hl2 := blk_lt hb9
  clear B1 B2 B3 B4 B5 B6 hb8 hb9 f0 f1 f2 f3 f4 f5 f6 f7 f8 f9 f10 f11 f12 f13 f14 f15 f16 f17 f18
  by_cases hk : (lookV sw.vs h.tag f.inn f.dst).2 ≠ 0
  · have HE := Aside.mk (show lookP s p ls sw.vs f h = ({ h with what := (lookV sw.vs h.tag f.inn f.dst).2 }, noFly) by unfold lookP; rw [if_pos hk])
    have dk : ((lookV sw.vs h.tag f.inn f.dst).2 != 0) = true := by simpa using hk
    clear hk
    go_wp2
    refine bodyPost_ret (results_none rfl _ _ _) rfl ⟨⟨_, rfl⟩, ?_, KG.out.trans (grown_set2 _ _ _ _)⟩
    rw [HE.out]
    exact blk_set KP.out 5 _
  · have hk0 : (lookV sw.vs h.tag f.inn f.dst).2 = 0 := Classical.not_not.1 hk
    have dk : ((lookV sw.vs h.tag f.inn f.dst).2 != 0) = false := by simp [hk0]
    cases hfar : (farR s p ls f.sw (lookV sw.vs h.tag f.inn f.dst).1.2).2.2
    · have HE := Aside.mk (show lookP s p ls sw.vs f h = ({ h with what := 1, out := (lookV sw.vs h.tag f.inn f.dst).1.2 }, noFly) by unfold lookP; rw [if_neg hk, if_neg (by simp [hfar])])
      have HK0 := Aside.mk hk0
      clear hk hk0
      go_wp2_with (go_at_call 36; have KB1 := Aside.mk (below_set (p := ⟨b, 5, none⟩) (below_set (p := ⟨b, 6, none⟩) (below_set (p := ⟨b, 5, none⟩) KB0.out (by simp; omega) (.int .i64 (lookV sw.vs h.tag f.inn f.dst).2)) (by simp; omega) (.int .i64 (lookV sw.vs h.tag f.inn f.dst).1.2)) (by simp; omega) (.int .i64 1)); refine (far_any s p A c ls _ _ _ (HL.out.below KB1.out)).mono ?_; rw [far_same]; rintro e w2 ⟨rfl, hb1⟩; have KG := Aside.mk ((((KG.out.trans (grown_set2 _ b 5 _)).trans (grown_set2 _ b 6 _)).trans (grown_set2 _ b 5 _)).trans (grown_of_below hb1 (some b))); have KP := Aside.mk (show w2.heap[b]? = some (.cells (passC { h with what := 1, out := (lookV sw.vs h.tag f.inn f.dst).1.2 } noFly) 72) from blk_keep (blk_set (blk_set (blk_set KP.out 5 _) 6 _) 5 _) hb1); have KT := Aside.mk (blk_keep (blk_far (blk_far (blk_far KT.out (by simp; omega) _) (by simp; omega) _) (by simp; omega) _) hb1); have KF := Aside.mk (blk_keep (blk_far (blk_far (blk_far KF.out (by simp; omega) _) (by simp; omega) _) (by simp; omega) _) hb1); have KA := Aside.mk (blk_keep (blk_far (blk_far (blk_far KA.out (by simp; omega) _) (by simp; omega) _) (by simp; omega) _) hb1); have P0 := blk_cell KP.out 0; have P1 := blk_cell KP.out 1; have P2 := blk_cell KP.out 2; have P3 := blk_cell KP.out 3; have P4 := blk_cell KP.out 4; have P5 := blk_cell KP.out 5; have P6 := blk_cell KP.out 6; have P7 := blk_cell KP.out 7; have P8 := blk_cell KP.out 8; have P9 := blk_cell KP.out 9; have P10 := blk_cell KP.out 10; have P11 := blk_cell KP.out 11; have P12 := blk_cell KP.out 12; have P13 := blk_cell KP.out 13; simp at P0 P1 P2 P3 P4 P5 P6 P7 P8 P9 P10 P11 P12 P13; have PF := fun i => blk_frozen KP.out i; have PL := blk_lt KP.out; have c0 := blk_cell KT.out 0; have c1 := blk_cell KT.out 1; have c2 := blk_cell KT.out 2; have d0 := blk_cell KF.out 0; have d1 := blk_cell KF.out 1; have d2 := blk_cell KF.out 2; have d3 := blk_cell KF.out 3; have d4 := blk_cell KF.out 4; have d5 := blk_cell KF.out 5; have d6 := blk_cell KF.out 6; have a0 := blk_cell KA.out 0; have a1 := blk_cell KA.out 1; simp at c0 c1 c2 d0 d1 d2 d3 d4 d5 d6 a0 a1; clear hb1 KB1)
      go_end0
      exact ⟨⟨_, rfl⟩, by rw [HE.out]; exact KP.out, KG.out⟩
    · have HE := Aside.mk (show lookP s p ls sw.vs f h = ({ h with what := 0, out := (lookV sw.vs h.tag f.inn f.dst).1.2 }, { f with ttl := f.ttl - 1, tag := h.tag, sw := (farR s p ls f.sw (lookV sw.vs h.tag f.inn f.dst).1.2).1, inn := (farR s p ls f.sw (lookV sw.vs h.tag f.inn f.dst).1.2).2.1 }) by unfold lookP; rw [if_neg hk, if_pos hfar])
      have HK0 := Aside.mk hk0
      clear hk hk0
      go_wp2_with (go_at_call 36; have KB1 := Aside.mk (below_set (p := ⟨b, 5, none⟩) (below_set (p := ⟨b, 6, none⟩) (below_set (p := ⟨b, 5, none⟩) KB0.out (by simp; omega) (.int .i64 (lookV sw.vs h.tag f.inn f.dst).2)) (by simp; omega) (.int .i64 (lookV sw.vs h.tag f.inn f.dst).1.2)) (by simp; omega) (.int .i64 1)); refine (far_any s p A c ls _ _ _ (HL.out.below KB1.out)).mono ?_; rw [far_same]; rintro e w2 ⟨rfl, hb1⟩; have KG := Aside.mk ((((KG.out.trans (grown_set2 _ b 5 _)).trans (grown_set2 _ b 6 _)).trans (grown_set2 _ b 5 _)).trans (grown_of_below hb1 (some b))); have KP := Aside.mk (show w2.heap[b]? = some (.cells (passC { h with what := 1, out := (lookV sw.vs h.tag f.inn f.dst).1.2 } noFly) 72) from blk_keep (blk_set (blk_set (blk_set KP.out 5 _) 6 _) 5 _) hb1); have KT := Aside.mk (blk_keep (blk_far (blk_far (blk_far KT.out (by simp; omega) _) (by simp; omega) _) (by simp; omega) _) hb1); have KF := Aside.mk (blk_keep (blk_far (blk_far (blk_far KF.out (by simp; omega) _) (by simp; omega) _) (by simp; omega) _) hb1); have KA := Aside.mk (blk_keep (blk_far (blk_far (blk_far KA.out (by simp; omega) _) (by simp; omega) _) (by simp; omega) _) hb1); have P0 := blk_cell KP.out 0; have P1 := blk_cell KP.out 1; have P2 := blk_cell KP.out 2; have P3 := blk_cell KP.out 3; have P4 := blk_cell KP.out 4; have P5 := blk_cell KP.out 5; have P6 := blk_cell KP.out 6; have P7 := blk_cell KP.out 7; have P8 := blk_cell KP.out 8; have P9 := blk_cell KP.out 9; have P10 := blk_cell KP.out 10; have P11 := blk_cell KP.out 11; have P12 := blk_cell KP.out 12; have P13 := blk_cell KP.out 13; simp at P0 P1 P2 P3 P4 P5 P6 P7 P8 P9 P10 P11 P12 P13; have PF := fun i => blk_frozen KP.out i; have PL := blk_lt KP.out; have c0 := blk_cell KT.out 0; have c1 := blk_cell KT.out 1; have c2 := blk_cell KT.out 2; have d0 := blk_cell KF.out 0; have d1 := blk_cell KF.out 1; have d2 := blk_cell KF.out 2; have d3 := blk_cell KF.out 3; have d4 := blk_cell KF.out 4; have d5 := blk_cell KF.out 5; have d6 := blk_cell KF.out 6; have a0 := blk_cell KA.out 0; have a1 := blk_cell KA.out 1; simp at c0 c1 c2 d0 d1 d2 d3 d4 d5 d6 a0 a1; clear hb1 KB1)
      go_region
      all_goals
        go_wp2
        go_end0
        refine ⟨⟨_, rfl⟩, ?_, ?_⟩
        · rw [HE.out]
          refine heap_drew2 ?_
          have e0 := blk_set KP.out 5 (.int .i64 0)
          simp only [passC, noFly, List.setIfInBounds_toArray, List.set_cons_zero, List.set_cons_succ] at e0
          have e1 := blk_set e0 7 (.int .i64 f.id)
          simp only [passC, noFly, List.setIfInBounds_toArray, List.set_cons_zero, List.set_cons_succ] at e1
          have e2 := blk_set e1 8 (.int .i64 f.src)
          simp only [passC, noFly, List.setIfInBounds_toArray, List.set_cons_zero, List.set_cons_succ] at e2
          have e3 := blk_set e2 9 (.int .i64 f.dst)
          simp only [passC, noFly, List.setIfInBounds_toArray, List.set_cons_zero, List.set_cons_succ] at e3
          have e4 := blk_set e3 10 (.int .i64 f.ttl)
          simp only [passC, noFly, List.setIfInBounds_toArray, List.set_cons_zero, List.set_cons_succ] at e4
          have e5 := blk_set e4 11 (.int .i64 f.tag)
          simp only [passC, noFly, List.setIfInBounds_toArray, List.set_cons_zero, List.set_cons_succ] at e5
          have e6 := blk_set e5 12 (.int .i64 (farR s p ls f.sw (lookV sw.vs h.tag f.inn f.dst).1.2).1)
          simp only [passC, noFly, List.setIfInBounds_toArray, List.set_cons_zero, List.set_cons_succ] at e6
          have e7 := blk_set e6 13 (.int .i64 (farR s p ls f.sw (lookV sw.vs h.tag f.inn f.dst).1.2).2.1)
          simp only [passC, noFly, List.setIfInBounds_toArray, List.set_cons_zero, List.set_cons_succ] at e7
          have e8 := blk_set e7 11 (.int .i64 h.tag)
          simp only [passC, noFly, List.setIfInBounds_toArray, List.set_cons_zero, List.set_cons_succ] at e8
          have e9 := blk_set e8 10 (.int .i64 (f.ttl - 1))
          simp only [passC, noFly, List.setIfInBounds_toArray, List.set_cons_zero, List.set_cons_succ] at e9
          exact e9
        · exact grown_drew ((((((((((KG.out.trans (grown_set2 _ b 5 (.int .i64 0))).trans (grown_set2 _ b 7 (.int .i64 f.id))).trans (grown_set2 _ b 8 (.int .i64 f.src))).trans (grown_set2 _ b 9 (.int .i64 f.dst))).trans (grown_set2 _ b 10 (.int .i64 f.ttl))).trans (grown_set2 _ b 11 (.int .i64 f.tag))).trans (grown_set2 _ b 12 (.int .i64 (farR s p ls f.sw (lookV sw.vs h.tag f.inn f.dst).1.2).1))).trans (grown_set2 _ b 13 (.int .i64 (farR s p ls f.sw (lookV sw.vs h.tag f.inn f.dst).1.2).2.1))).trans (grown_set2 _ b 11 (.int .i64 h.tag))).trans (grown_set2 _ b 10 (.int .i64 (f.ttl - 1))))
end Go.Proofs.Ytlnnkkbcmidddaa
