/- The walk through digest.Of. -/
import Derived.Test.YtlpobpciiaofeaaDigF
namespace Go.Proofs.Ytlpobpciiaofeaa
open Go.RowKit Go.Shelf
set_option maxRecDepth 100000
attribute [local go_sem] Oper.semAt_some
abbrev headB (tag : Int) : List Int := [tag / 256 % 256, tag % 256]
/-- The bytes of which a digest is the sum. -/
def bytesP (tag : Int) (l : List Rul) : List Int := headB tag ++ ((sortP l).filter mayI).flatMap toldB
def ofP (tag : Int) (l : List Rul) : Int := sumI (bytesP tag l)
theorem told_oct {r : Rul} (h : mayI r = true) : Oct (toldB r) := (putB_oct h).app (fun z hz => by simp at hz; omega)
theorem told_len (r : Rul) : (toldB r).length = 10 := rfl
theorem flat_told (xs : List Rul) : (xs.flatMap toldB).length = xs.length * 10 := by
  induction xs with
  | nil => rfl
  | cons x xs ih => rw [List.flatMap_cons, List.length_append, ih, told_len, List.length_cons]; omega
theorem bytes_oct (tag : Int) (l : List Rul) : Oct (bytesP tag l) := by
  refine Oct.app (fun z hz => by simp at hz; omega) (fun z hz => ?_)
  obtain ⟨r, hr, hz⟩ := List.mem_flatMap.1 hz
  exact told_oct (List.mem_filter.1 hr).2 z hz
theorem filt_len (l : List Rul) : ((sortP l).filter mayI).length ≤ l.length := by
  have := List.length_filter_le mayI (sortP l)
  rw [sortP_len] at this
  exact this
theorem bytes_len (tag : Int) (l : List Rul) : (bytesP tag l).length ≤ 2 + l.length * 10 := by
  have := filt_len l
  unfold bytesP
  rw [List.length_append, flat_told]
  show 2 + _ ≤ _
  omega
theorem grown_set (W : World) (b o : Nat) (v : Value) : W.grownBy (W.setCell ⟨b, o, none⟩ v) (some b) :=
  ⟨rfl, rfl, rfl, (KeepsWalks.setCell W _ v).size, fun k _ hk => Below.heap_setCell _ _ _ k (fun e => hk (by rw [e]))⟩
set_option maxHeartbeats 2000000 in
theorem of_any (tag : Int) (l : List Rul) (A : Option Addr) (c : Nat) (w : World) (hl : Rd rulD w A l.length l) (hnc : A = none → c = 0) (hlen : l.length ≤ 60) (ht : Fit tag) :
    Calls Try.prog 25 #[.int .i64 tag, .slice A l.length c] w fun e w' => e = .returned (.int .i64 (ofP tag l)) ∧ Below w.heap.size w w' := by
  refine (callsIn_wide (n := 6)).1 ?_
  have HL := Aside.mk hl
  have HN := Aside.mk hnc
  have HT := Aside.mk ht
  clear hl hnc ht
  refine callsIn_of_wp_marks Try.func25 rfl trivial ?_ rfl
  simp only [Try.ntmps25, List.size_toArray, List.length_cons, List.length_nil, Nat.reduceAdd, Nat.reduceSub, Array.replicate_succ, Array.replicate_zero, List.push_toArray, List.append_toArray, List.nil_append, List.cons_append]
  gi_wp2_with (refine ⟨trivial, ?_⟩; gi_at_call 38; refine (callsIn_wide.2 (told_any l A c _)).mono ?_; rintro e w1 ⟨rfl, hw1⟩)
  rw [← hw1]
  have hbel : Below w.heap.size w w1 := by rw [hw1]; exact below_alloc (below_alloc (below_alloc (Below.refl _ _) _) _) _
  have hs1 : w1.heap.size = w.heap.size + 1 + 1 + 1 := by rw [hw1]; simp
  have hx0 : w1.heap[w.heap.size]? = some (.cells #[.int .u8 (tag / 256 % 256), .int .u8 (tag % 256)] 5) := by rw [hw1]; exact heapO (heapO (heapN _ _ rfl) _) _
  have hbox : w1.heap[w.heap.size + 1]? = some (.cells #[.slice (some ⟨w.heap.size, 0, none⟩) 2 2] 58) := by rw [hw1]; exact heapO (heapN _ _ (by simp)) _
  have k0 : w1.heap[w.heap.size + 1 + 1]? = some (.cells #[.slice A l.length c] 22) := by rw [hw1]; exact heapN _ _ (by simp)
  have hown : Own bytF w1 w.heap.size 5 (.slice (some ⟨w.heap.size, 0, none⟩) 2 2) (headB tag) := Own.blk bytF hx0 (Nat.le_refl _) (headB tag) rfl (by show 2 ≤ maxLen; decide)
  have hfl := filt_len l
  have hpre : ∀ pre x rest, (sortP l).filter mayI = pre ++ x :: rest → pre.length ≤ 60 := fun pre x rest h => by
    rw [h] at hfl
    simp at hfl
    omega
  clear hw1 hx0
  refine wpIn_range_yieldsR (F := Fence.wide) rfl (by decide) (gf := 50) (lb := #[.pointer (some ⟨w.heap.size + 1 + 1, 0, none⟩)]) rfl trivial (enters_of Try.func50 rfl rfl)
    (R := toldR w.heap.size) (fun x args W h => by obtain ⟨v, rfl, -⟩ := h; rfl) (Below.refl _ w1) (told_yields l A c w HL.out HN.out hlen 5 (by decide) (w.heap.size + 1 + 1) (by omega) w1 hbel k0) (fun r h => h.elim) (fun r h => by omega)
    (fun pre C W => ∃ (v : Value) (L : List Int), L = headB tag ++ pre.flatMap toldB ∧ C = (fun i => i = w.heap.size + 1 ∨ v.ownBlock = some i) ∧ W.heap[w.heap.size + 1]? = some (.cells #[v] 58) ∧ Own bytF W w.heap.size 5 v L ∧ Below w.heap.size w W ∧ w1.heap.size ≤ W.heap.size)
    ?stays (fun i => i = w.heap.size + 1 ∨ (Value.slice (some ⟨w.heap.size, 0, none⟩) 2 2).ownBlock = some i) ?own ⟨_, _, by simp, rfl, hbox, hown, hbel, Nat.le_refl _⟩
    (fun (x : Rul) (a' : Act) (W : World) => ∃ v, Own bytF W w.heap.size 5 v (toldB x) ∧ a' = { tmps := #[.int .i64 tag, .slice A l.length c, undef, undef, .int .i64 0, .pointer (some ⟨w.heap.size + 1, 0, none⟩), v, .int .i64 tag, .int .i64 (tag / 256), .int .u8 (tag / 256 % 256), .int .i64 tag, .int .u8 (tag % 256), .slice (some ⟨w.heap.size, 0, none⟩) 2 2, .slice A l.length c, .func (.func 50) #[] #[.pointer (some ⟨w.heap.size + 1 + 1, 0, none⟩)], v, undef, undef, undef, undef, undef], defers := [] }) ?ax ?assign ?body ?done
  case stays =>
    rintro pre C X Y row ⟨v, L, hL, rfl, hb, ho, hbe, hsx⟩ hg hr
    have hne : some (w.heap.size + 1) ≠ row := fun e => by
      rcases hr _ e.symm with h | ⟨h, _⟩
      · exact h
      · omega
    refine ⟨v, L, hL, rfl, (hg.block _ (blk_lt hb) hne).trans hb, ho.kept hg ?_, hbe.grown hg hbe.size (fun k e => by
      rcases hr _ e with h | ⟨h, _⟩
      · exact h.elim
      · omega), Nat.le_trans hsx hg.size⟩
    cases hv : v.ownBlock with
    | none => exact .inl rfl
    | some r =>
      refine .inr fun e => ?_
      rcases hr r e.symm with h | ⟨_, o, h2, h3⟩
      · exact h
      · exact ho.ne_block h2 (fun cs t fr e => by subst e; cases h3) hv
  case own =>
    rintro i (rfl | h)
    · exact ⟨fun h => by omega, by omega⟩
    · obtain rfl : w.heap.size = i := by simpa [Value.ownBlock] using h
      exact ⟨fun h => by omega, by omega⟩
  case ax =>
    rintro x a' _ _ X Y row ⟨v, h1, h2⟩ hg hr
    refine ⟨v, h1.kept hg ?_, h2⟩
    cases hv : v.ownBlock with
    | none => exact .inl rfl
    | some r =>
      refine .inr fun e => ?_
      obtain ⟨_, o, h3, h4⟩ := hr r e.symm
      exact h1.ne_block h3 (fun cs t fr e => by subst e; cases h4) hv
  case assign =>
    rintro _ pre x args C W K - ⟨v, rfl, ho⟩ hK
    gi_wp2
    exact hK _ _ (Below.refl _ _) ⟨v, ho, rfl⟩
  case body =>
    rintro _ pre x rest a' C W hxs hlt ⟨v, L, hL, rfl, hb, ho, hbe, hsx⟩ ⟨v2, ho2, rfl⟩
    have h0 := hpre _ _ _ hxs
    have hLl : L.length ≤ 602 := by rw [hL, List.length_append, flat_told]; show 2 + _ ≤ _; omega
    obtain ⟨X, hX⟩ : ∃ X, toldB x = X := ⟨_, rfl⟩
    have hXl : X.length = 10 := by rw [← hX]; rfl
    rw [hX] at ho2
    have HL1 := Aside.mk hL
    have HX1 := Aside.mk hX
    have HXL := Aside.mk hXl
    have HO := Aside.mk ho
    have HO2 := Aside.mk ho2
    have HBX := Aside.mk hb
    have HBE := Aside.mk hbe
    have c0 := blk_cell hb 0
    have cf := blk_frozen hb 0
    simp at c0
    obtain ⟨A0, k0, rfl, -⟩ := ho.form
    obtain ⟨A2, k2, rfl, -⟩ := ho2.form
    obtain ⟨A3, k3, hv3, -, hr3⟩ := ho2.rd
    cases hv3
    have HR := Aside.mk hr3
    have hsl := hlt _ (.inl rfl)
    have hsw := hbe.size
    clear hb ho ho2 hbe hlt hL hX hXl hr3
    gi_wp2_with (gi_at_builtin; go_loud (refine wpIn_appRow (f := bytF) w.heap.size rfl _ _ _ _ _ _ rfl Try.underlying58 infoByt rfl (by decide) (.slice A0 L.length k0) L X A2 k2 rfl rfl (by have := HXL.out; omega) HO.out HR.out hsw (by have := HXL.out; omega) ?_); intro v1 w2 ho1 hg1 hat1; have HAT := Aside.mk hat1; have HO1 := Aside.mk ho1; have HG := Aside.mk hg1; have HB2 := Aside.mk ((hg1.block _ (blk_lt HBX.out) (fun e => HO.out.ne_type HBX.out (by decide) e.symm)).trans HBX.out); obtain ⟨A1, k1, rfl, -⟩ := ho1.form; have d0 := blk_cell HB2.out 0; have df := blk_frozen HB2.out 0; simp at d0; clear ho1 hg1 hat1)
    have hg := HG.out
    have hsz2 := hg.size
    have hbw := blk_lt HB2.out
    refine ⟨((KeepsOthers.of_grownBy hg (fun j o ej hj => ?_)).trans (KeepsOthers.setCell _ _ _)).from _, (fun i => i = w.heap.size + 1 ∨ (Value.slice A1 (L ++ X).length k1).ownBlock = some i),
      ⟨_, L ++ X, ?_, rfl, ?_, HO1.out.far (HO1.out.ne_type HB2.out (by decide)) _, below_set (HBE.out.grown hg HBE.out.size (fun k e => ?_)) (by simp) _, by simp; omega⟩,
      (Kept.grown hg (fun r e => .inr e)).trans (Kept.grown (C := fun i => i = w.heap.size + 1 ∨ (Value.slice A0 L.length k0).ownBlock = some i) (grown_set w2 _ 0 _) (fun r e => by cases e; exact .inl rfl)) (fun i h => .inl h), ?_⟩
    · cases hoc : o.isCells with
      | true => rfl
      | false => exact absurd ej (HO.out.ne_block hj (fun cs t fr e => by subst e; cases hoc))
    · rw [HL1.out, ← HX1.out]
      simp
    · have := blk_set HB2.out 0 (.slice A1 (L ++ X).length k1)
      simpa using this
    · have := (HO.out.lt k e).1
      omega
    · rintro i (rfl | hi)
      · exact ⟨.inl (.inl rfl), by simp; omega⟩
      · have h2 := (HO1.out.lt i hi).2
        refine ⟨?_, by simpa using h2⟩
        rcases HAT.out with h1 | ⟨b1, h1, h3⟩
        · exact .inl (.inr (by rw [← h1]; exact hi))
        · rw [hi] at h1
          cases h1
          exact .inr h3
  case done =>
    rintro D C W hD ⟨v, L, hL, rfl, hb, ho, hbe, hsx⟩ hK
    have c0 := blk_cell hb 0
    simp at c0
    have hLl : L.length ≤ 602 := by
      have := bytes_len tag l
      rw [hL]
      unfold bytesP at this
      omega
    have hoct : Oct L := by rw [hL]; exact bytes_oct tag l
    have HL1 := Aside.mk (show L = bytesP tag l from hL)
    have HO := Aside.mk ho
    have HBE := Aside.mk hbe
    have HK := Aside.mk hK
    have HOC := Aside.mk hoct
    obtain ⟨A0, k0, rfl, -, hr0⟩ := ho.rd
    have HR := Aside.mk hr0
    clear hb ho hbe hK hL hr0 hoct
    gi_wp2_with (refine ⟨trivial, ?_⟩; gi_at_call 39; refine (callsIn_wide.2 (sum_any L A0 k0 _ HR.out HOC.out (by omega))).mono ?_; rintro e w5 ⟨rfl, hb5⟩; have HB5 := Aside.mk hb5; clear hb5)
    refine ⟨by simp, .inl ⟨_, _, rfl, run_takeDeferred (blk_keep HK.out HB5.out), ?_⟩⟩
    have e5 : sumI L = ofP tag l := by rw [HL1.out]; rfl
    refine ⟨_, results_tmp rfl _ _ _, ?_, (below_call HBE.out HB5.out).trans (belowK_b (w := w) (Nat.le_refl _) w5 D _ _ (by omega) (blk_keep HK.out HB5.out) rfl rfl)⟩
    show Ending.returned (.int .i64 (sumI L)) = _
    rw [e5]
end Go.Proofs.Ytlpobpciiaofeaa
