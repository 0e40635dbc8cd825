/- The walk through path.Walk. -/
import Derived.Test.YtlnnkkbcmidddaaPathI
import Derived.Test.YtlnnkkbcmidddaaPathY
namespace Go.Proofs.Ytlnnkkbcmidddaa
open Go.RowKit Go.Shelf
set_option maxRecDepth 100000
attribute [local go_sem] Oper.semAt_some

theorem infoHop' : (Try.prog.info? 41).map (fun i => (i.zero, i.size, i.bytes)) = some (some (.agg #[.int .i64 0, .int .i64 0, .int .i64 0, .int .i64 0, .int .i64 0, .int .i64 0, .int .i64 0]), 7, 56) := by kernel_rfl
set_option maxHeartbeats 2000000 in
theorem walk_any (s p : Int) (A : Option Addr) (c : Nat) (ls : List Lnk) (B : Option Addr) (k : Nat) (cs : List (List Rul)) (f : Fly) (w : World) (hl : Rd lnkD w A ls.length ls) (hc : Rd confD w B cs.length cs) (hsz : ∀ l ∈ cs, l.length * 48 ≤ 140737488355328) (ht : Fit f.ttl) :
    Calls Try.prog 28 #[.agg #[.int .i64 s, .int .i64 p, .slice A ls.length c], .slice B cs.length k, flyV f] w fun e w' => ∃ v, e = .returned v ∧ Own hopF w' w.heap.size 41 v (walkP s p ls cs (cap16 f)) ∧ Below w.heap.size w w' := by
  refine (callsIn_wide (n := 6)).1 ?_
  have HL := Aside.mk hl
  have HC := Aside.mk hc
  have HZ := Aside.mk hsz
  have HT := Aside.mk ht
  clear hl hc hsz ht
  refine callsIn_of_wp_marks Try.func28 rfl trivial ?_ rfl
  simp only [Try.ntmps28, List.size_toArray, List.length_cons, List.length_nil, Nat.reduceAdd, Nat.reduceSub, Array.replicate_succ, Array.replicate_zero, List.push_toArray, List.append_toArray, List.nil_append, List.cons_append]
  gi_wp2_with (refine ⟨trivial, ?_⟩; gi_at_call 44; refine (callsIn_wide.2 (hops_any s p A c ls B k cs (cap16 f) _)).mono ?_; rintro e w1 ⟨rfl, hw1⟩)
  rw [← hw1]
  have hbel : Below w.heap.size w w1 := by rw [hw1]; exact below_alloc (below_alloc (below_alloc (below_alloc (below_alloc (below_alloc (Below.refl _ _) _) _) _) _) _) _
  have hs1 : w1.heap.size = w.heap.size + 1 + 1 + 1 + 1 + 1 + 1 := by rw [hw1]; simp
  have hbox : w1.heap[w.heap.size + 1 + 1]? = some (.cells #[.slice none 0 0] 62) := by rw [hw1]; exact heap_old (heap_old (heap_old (heap_new _ _ (by simp)) _) _) _
  have k0 : w1.heap[w.heap.size + 1 + 1 + 1]? = some (.cells #[.int .i64 s, .int .i64 p, .slice A ls.length c] 24) := by rw [hw1]; exact heap_old (heap_old (heap_new _ _ (by simp)) _) _
  have k1 : w1.heap[w.heap.size + 1 + 1 + 1 + 1]? = some (.cells #[.slice B cs.length k] 26) := by rw [hw1]; exact heap_old (heap_new _ _ (by simp)) _
  have k2 : w1.heap[w.heap.size + 1 + 1 + 1 + 1 + 1]? = some (.cells #[.int .i64 f.id, .int .i64 f.src, .int .i64 f.dst, .int .i64 (min f.ttl 16), .int .i64 f.tag, .int .i64 f.sw, .int .i64 f.inn] 30) := by rw [hw1]; exact heap_new _ _ (by simp)
  have hfit : Fit (cap16 f).ttl := by
    have h1 := HT.out.lo
    have h2 := HT.out.hi
    exact WalkArith.wf_i64 ⟨by show _ ≤ min f.ttl 16; omega, by show min f.ttl 16 ≤ _; omega⟩
  have h17 : ∀ pre x rest, walkP s p ls cs (cap16 f) = pre ++ x :: rest → pre.length + 1 ≤ 17 := fun pre x rest h => by
    have h1 := walkP_len (s := s) (p := p) (ls := ls) (cs := cs) (cap16 f)
    rw [h] at h1
    have h2 : (cap16 f).ttl ≤ 16 := by show min f.ttl 16 ≤ 16; omega
    simp at h1
    omega
  clear hw1
  refine wpIn_range_yields (F := Fence.wide) rfl (by decide) (gf := 60) (lb := #[.pointer (some ⟨w.heap.size + 1 + 1 + 1, 0, none⟩), .pointer (some ⟨w.heap.size + 1 + 1 + 1 + 1, 0, none⟩), .pointer (some ⟨w.heap.size + 1 + 1 + 1 + 1 + 1, 0, none⟩)]) rfl trivial (enters_of Try.func60 (by kernel_rfl) rfl)
    (fun _ => rfl) (Below.refl _ w1) (hops_yields s p A c ls B k cs (cap16 f) w HL.out HC.out HZ.out hfit 5 (by decide) (w.heap.size + 1 + 1 + 1) (by omega) w1 hbel k0 k1 k2) (fun r h => by omega) (fun r h => by unfold protH at h; omega)
    (fun pre C W => ∃ v, C = (fun i => i = w.heap.size + 1 + 1 ∨ v.ownBlock = some i) ∧ W.heap[w.heap.size + 1 + 1]? = some (.cells #[v] 62) ∧ Own hopF W w1.heap.size 41 v pre ∧ Below w.heap.size w W ∧ w1.heap.size ≤ W.heap.size)
    ?stays (fun i => i = w.heap.size + 1 + 1 ∨ (Value.slice none 0 0).ownBlock = some i) ?own ⟨_, rfl, hbox, Own.nil _ _ _ _, hbel, Nat.le_refl _⟩
    (fun (x : Hop) (a' : Act) (W : World) => ∃ Bx, W.heap[Bx]? = some (.cells #[.int .i64 x.tick, .int .i64 x.id, .int .i64 x.sw, .int .i64 x.inn, .int .i64 x.tag, .int .i64 x.what, .int .i64 x.out] 41) ∧ a' = { tmps := #[.agg #[.int .i64 s, .int .i64 p, .slice A ls.length c], .slice B cs.length k, flyV f, .pointer (some ⟨w.heap.size, 0, none⟩), undef, .pointer (some ⟨w.heap.size + 1, 0, none⟩), .slice none 0 0, .pointer (some ⟨w.heap.size + 1 + 1, 0, none⟩), .pointer (some ⟨Bx, 0, none⟩), .pointer (some ⟨w.heap.size + 1, 0, none⟩), .pointer (some ⟨w.heap.size + 1, 3, none⟩), .int .i64 f.ttl, .int .i64 (min f.ttl 16), .pointer (some ⟨w.heap.size + 1, 0, none⟩), .pointer (some ⟨w.heap.size + 1, 3, none⟩), .agg #[.int .i64 s, .int .i64 p, .slice A ls.length c], .slice B cs.length k, .agg #[.int .i64 f.id, .int .i64 f.src, .int .i64 f.dst, .int .i64 (min f.ttl 16), .int .i64 f.tag, .int .i64 f.sw, .int .i64 f.inn], .func (.func 60) #[] #[.pointer (some ⟨w.heap.size + 1 + 1 + 1, 0, none⟩), .pointer (some ⟨w.heap.size + 1 + 1 + 1 + 1, 0, none⟩), .pointer (some ⟨w.heap.size + 1 + 1 + 1 + 1 + 1, 0, none⟩)], hopV x, undef, undef, undef, undef, undef], defers := [] }) ?ax ?assign ?body ?done
  case stays =>
    rintro pre C X Y row ⟨v, rfl, hb, ho, hbe, hsx⟩ hg hr
    have hne : some (w.heap.size + 1 + 1) ≠ row := fun e => by
      rcases hr _ e.symm with h | ⟨h, _⟩
      · omega
      · omega
    refine ⟨v, rfl, (hg.block _ (blk_lt hb) hne).trans hb, ho.kept hg ?_, hbe.grown hg hbe.size (fun k e => by
      rcases hr _ e with h | ⟨h, _⟩
      · omega
      · omega), Nat.le_trans hsx hg.size⟩
    cases hv : v.ownBlock with
    | none => exact .inl rfl
    | some r =>
      refine .inr fun e => ?_
      have h1 := (ho.lt r hv).1
      rcases hr r e.symm with h | ⟨_, o, h2, h3⟩
      · omega
      · exact ho.ne_block h2 (fun cs t fr e => by subst e; cases h3) hv
  case own =>
    rintro i (rfl | h)
    · exact ⟨fun h => by unfold protH at h; omega, by omega⟩
    · cases h
  case ax =>
    rintro x a' _ _ X Y row ⟨Bx, h1, h2⟩ hg hr
    refine ⟨Bx, (hg.block _ (blk_lt h1) (fun e => ?_)).trans h1, h2⟩
    obtain ⟨_, o, h3, h4⟩ := hr _ e.symm
    rw [h1] at h3
    cases h3
    cases h4
  case assign =>
    rintro l pre x C W K - hK
    gi_wp2
    exact hK _ _ (below_alloc (Below.refl _ _) _) ⟨_, heap_new _ _ rfl, rfl⟩
  case body =>
    rintro l pre x rest a' C W hxs hlt ⟨v, rfl, hb, ho, hbe, hsx⟩ ⟨Bx, hBx, rfl⟩
    have h0 := h17 _ _ _ hxs
    have HO := Aside.mk ho
    have HBX := Aside.mk hb
    have HBE := Aside.mk hbe
    have c0 := blk_cell hb 0
    have cf := blk_frozen hb 0
    have x0 := blk_cell hBx 0
    have x1 := blk_cell hBx 1
    have x2 := blk_cell hBx 2
    have x3 := blk_cell hBx 3
    have x4 := blk_cell hBx 4
    have x5 := blk_cell hBx 5
    have x6 := blk_cell hBx 6
    simp at c0 x0 x1 x2 x3 x4 x5 x6
    obtain ⟨A0, k0, hvf, -⟩ := ho.form
    have HV := Aside.mk hvf
    have hsl := hlt _ (.inl rfl)
    have hsw := hbe.size
    clear hb ho hbe hBx hvf hlt
    gi_wp2_with (gi_at_builtin; go_loud (refine wpIn_app1 (f := hopF) w1.heap.size rfl _ _ _ _ _ _ rfl Try.underlying62 infoHop' rfl (by decide) v pre x _ rfl rfl (by go_simp) HO.out hsx (by omega) ?_); intro v1 w2 ho1 hg1 hat1; have HAT := Aside.mk hat1; have HO1 := Aside.mk ho1; have HG := Aside.mk hg1; have HB2 := Aside.mk ((hg1.block _ hsl (fun e => HO.out.ne_type HBX.out (by decide) e.symm)).trans HBX.out); clear hat1 ho1 hg1; obtain ⟨A1, k1, hv1, -⟩ := HO1.out.form; subst hv1; have c0 := blk_cell HB2.out 0; have cf := blk_frozen HB2.out 0; simp at c0)
    have hg := HG.out
    have hsz2 := hg.size
    have hbw := blk_lt HB2.out
    refine ⟨((KeepsOthers.of_grownBy hg (fun j o ej hj => ?_)).trans (KeepsOthers.setCell _ _ _)).from _, (fun i => i = w.heap.size + 1 + 1 ∨ (Value.slice A1 (pre ++ [x]).length k1).ownBlock = some i),
      ⟨_, rfl, ?_, HO1.out.far (HO1.out.ne_type HB2.out (by decide)) _, below_set (HBE.out.grown hg HBE.out.size (fun k e => ?_)) (by simp; omega) _, by simp; omega⟩,
      (Kept.grown hg (fun r e => .inr e)).trans (Kept.grown (C := fun i => i = w.heap.size + 1 + 1 ∨ v.ownBlock = some i) (grown_set w2 _ 0 _) (fun r e => by cases e; exact .inl rfl)) (fun i h => .inl h), ?_⟩
    · cases hoc : o.isCells with
      | true => rfl
      | false => exact absurd ej (HO.out.ne_block hj (fun cs t fr e => by subst e; cases hoc))
    · have := blk_set HB2.out 0 (.slice A1 (pre ++ [x]).length k1)
      simpa using this
    · have := (HO.out.lt k e).1
      omega
    · rintro i (rfl | hi)
      · exact ⟨.inl (.inl rfl), by simp; omega⟩
      · have h2 := (HO1.out.lt i hi).2
        refine ⟨?_, by simpa using h2⟩
        rcases HAT.out with h1 | ⟨b1, h1, h3⟩
        · exact .inl (.inr (by rw [← h1]; exact hi))
        · rw [hi] at h1
          cases h1
          exact .inr h3
  case done =>
    rintro D C W hD ⟨v, rfl, hb, ho, hbe, hsx⟩ hK
    have c0 := blk_cell hb 0
    simp at c0
    have HO := Aside.mk ho
    have HBE := Aside.mk hbe
    have HK := Aside.mk hK
    clear hb ho hbe hK
    gi_wp2
    refine ⟨by simp, .inl ⟨_, _, rfl, run_takeDeferred HK.out, ?_⟩⟩
    exact ⟨_, results_tmp rfl _ _ _, v, rfl, (HO.out.kept (grownBy_putObj' W D _) (.inr (HO.out.ne_block HK.out (fun cs t fr e => by cases e)))).mono hbel.size, HBE.out.trans (belowK_b (w := w) (Nat.le_refl _) W D _ _ (by omega) HK.out rfl rfl)⟩
end Go.Proofs.Ytlnnkkbcmidddaa
