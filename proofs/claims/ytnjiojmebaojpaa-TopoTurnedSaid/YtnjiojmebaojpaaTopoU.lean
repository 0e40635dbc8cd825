/- The walk through TopoTurned. -/
import Derived.Test.YtnjiojmebaojpaaTopoA
import Derived.Test.YtnjiojmebaojpaaTopoK
import Derived.Test.YtnjiojmebaojpaaTopoO
import Derived.Test.YtnjiojmebaojpaaAppend
namespace Go.Proofs.Ytnjiojmebaojpaa
open Go.RowKit

theorem turned_drop {ls : List Lnk} {k : Nat} (h : k < ls.length) : turned (ls.drop k) = turned (ls.drop (k + 1)) ++ [ls[k].swap] := by
  have e : ∀ (l : Lnk) (r : List Lnk), turned (l :: r) = turned r ++ [l.swap] := fun l r => by simp [turned]
  rw [List.drop_eq_getElem_cons h, e]

def trnB (s p : Int) (A : Option Addr) (c : Nat) (ls : List Lnk) (A2 : Option Addr) (k2 : Nat) (us : List Lnk) (x y fa fb : Int) (fc : Bool) (m : Nat) (w : World) (w' : World) : Prop :=
  Below w.heap.size w w' ∧ w'.heap[w.heap.size]? = some (.cells #[.int .i64 s, .int .i64 p, .slice A ls.length c] 24) ∧ w'.heap[m]? = some (.cells #[.int .i64 s, .int .i64 p, .slice A2 us.length k2] 24) ∧ Rd lnkD w' A ls.length ls ∧ Rd lnkD w' A2 us.length us
def trnF (s p : Int) (A : Option Addr) (c : Nat) (ls : List Lnk) (A2 : Option Addr) (k2 : Nat) (us : List Lnk) (x y fa fb : Int) (fc : Bool) (m : Nat) (w : World) : List (Value → Value → World → Prop) :=
  [fun _ v _ => v = .agg #[.int .i64 s, .int .i64 p, .slice A2 us.length k2],
   fun _ v _ => v = .bool true,
   fun _ v _ => v = .bool true,
   fun _ v _ => v = .int .i64 fa,
   fun _ v _ => v = .int .i64 fa,
   fun _ v _ => v = .bool true,
   fun _ v _ => v = .bool true,
   fun _ v _ => v = .bool true,
   fun _ v _ => v = .int .i64 fb,
   fun _ v _ => v = .int .i64 fb,
   fun _ v _ => v = .bool true,
   fun _ v _ => v = .bool true,
   fun _ v _ => v = .bool true,
   fun _ v _ => v = .bool fc,
   fun _ v _ => v = .bool fc,
   fun _ v _ => v = .bool true,
   fun _ v _ => v = .bool true,
   fun _ v _ => v = .bool true,
   fun _ v _ => v = .agg #[.int .i64 s, .int .i64 p, .slice A ls.length c],
   fun _ v _ => v = .int .i64 x,
   fun _ v _ => v = .int .i64 y,
   fun _ v _ => v = .bool (edgeL s p ls x y),
   fun _ v _ => v = .agg #[.int .i64 s, .int .i64 p, .slice A2 us.length k2],
   fun _ v _ => v = .int .i64 x,
   fun _ v _ => v = .int .i64 y,
   fun _ v _ => v = .bool (edgeL s p ls x y),
   fun _ v _ => v = .bool true,
   fun _ v _ => v = .bool true,
   fun _ v _ => v = .bool true]
def trnQ : Nat → Nat := fun i => i
theorem trnF_stay (s p : Int) (A : Option Addr) (c : Nat) (ls : List Lnk) (A2 : Option Addr) (k2 : Nat) (us : List Lnk) (x y fa fb : Int) (fc : Bool) (m : Nat) (w : World) : AllStay (trnF s p A c ls A2 k2 us x y fa fb fc m w) := by
  intro F hF u v w' w'' hb h
  simp only [trnF, List.mem_cons, List.not_mem_nil, or_false] at hF
  rcases hF with rfl | rfl | rfl | rfl | rfl | rfl | rfl | rfl | rfl | rfl | rfl | rfl | rfl | rfl | rfl | rfl | rfl | rfl | rfl | rfl | rfl | rfl | rfl | rfl | rfl | rfl | rfl | rfl | rfl
  · exact h
  · exact h
  · exact h
  · exact h
  · exact h
  · exact h
  · exact h
  · exact h
  · exact h
  · exact h
  · exact h
  · exact h
  · exact h
  · exact h
  · exact h
  · exact h
  · exact h
  · exact h
  · exact h
  · exact h
  · exact h
  · exact h
  · exact h
  · exact h
  · exact h
  · exact h
  · exact h
  · exact h
  · exact h
theorem trnB_stay (s p : Int) (A : Option Addr) (c : Nat) (ls : List Lnk) (A2 : Option Addr) (k2 : Nat) (us : List Lnk) (x y fa fb : Int) (fc : Bool) (m : Nat) (w : World) : Stays (trnB s p A c ls A2 k2 us x y fa fb fc m w) := by
  intro w' w'' hb h
  exact ⟨below_call h.1 hb, blk_keep h.2.1 hb, blk_keep h.2.2.1 hb, h.2.2.2.1.below hb, h.2.2.2.2.below hb⟩

set_option maxHeartbeats 4000000 in
theorem topoTurned_walk (s p : Int) (A : Option Addr) (c : Nat) (ls : List Lnk) (x y : Int) (w : World) (hl : Rd lnkD w A ls.length ls) (_ : FitT s p c ls) (_ : Fit x) (_ : Fit y) :
    Calls Try.prog 7 #[.agg #[.int .i64 s, .int .i64 p, .slice A ls.length c], .int .i64 x, .int .i64 y] w fun e w' => e = .returned (.bool true) ∧ Below w.heap.size w w' := by
  have HW := Aside.mk hl
  have HL := Aside.mk (hl.below ((Below.refl _ w).alloc (Nat.le_refl _) (.cells #[.int .i64 s, .int .i64 p, .slice A ls.length c] 24)))
  have HB := Aside.mk (below_alloc (Below.refl _ w) (.cells #[.int .i64 s, .int .i64 p, .slice A ls.length c] 24))
  have HX := Aside.mk (show (w.alloc (.cells #[.int .i64 s, .int .i64 p, .slice A ls.length c] 24)).heap[w.heap.size]? = some (.cells #[.int .i64 s, .int .i64 p, .slice A ls.length c] 24) by rw [heap_at, if_pos rfl])
  clear hl
  cases hmay : mayT s p ls
  · go_enter Try.func7, Try.ntmps7
    go_wp2_with (first
      | (go_at_call 9; refine (awake_any _).mono ?_; rintro e w1 ⟨rfl, hb1⟩; have HL := Aside.mk (HL.out.below hb1); have HB := Aside.mk (below_call HB.out hb1); have HX := Aside.mk (blk_keep HX.out hb1); have c0 := blk_cell HX.out 0; have c1 := blk_cell HX.out 1; have c2 := blk_cell HX.out 2; simp at c0 c1 c2; have hsz := blk_lt HX.out; clear hb1)
      | (go_at_call 16; refine (may_any _ _ _ _ _ _ HL.out).mono ?_; rw [hmay]; rintro e w1 ⟨rfl, hb1⟩; have HL := Aside.mk (HL.out.below hb1); have HB := Aside.mk (below_call HB.out hb1); have HX := Aside.mk (blk_keep HX.out hb1); have c0 := blk_cell HX.out 0; have c1 := blk_cell HX.out 1; have c2 := blk_cell HX.out 2; simp at c0 c1 c2; have hsz := blk_lt HX.out; clear hb1))
    go_ret
    exact ⟨rfl, HB.out⟩
  · have hg := (may_good s p ls).1 hmay
    have hmu : mayT s p (turned ls) = true := (may_good ..).2 (turned_good hg)
    have heu : edgeL s p (turned ls) x y = edgeL s p ls x y := turned_edge hg x y
    have hfu : farL s p (turned ls) x y = farL s p ls x y := turned_far hg x y
    have hn : ls.length ≤ 12 := hg.1.2.2.2.2
    clear hg
    go_enter Try.func7, Try.ntmps7
    go_wp2_with (first
      | (go_at_call 9; refine (awake_any _).mono ?_; rintro e w1 ⟨rfl, hb1⟩; have HL := Aside.mk (HL.out.below hb1); have HB := Aside.mk (below_call HB.out hb1); have HX := Aside.mk (blk_keep HX.out hb1); have c0 := blk_cell HX.out 0; have c1 := blk_cell HX.out 1; have c2 := blk_cell HX.out 2; simp at c0 c1 c2; have hsz := blk_lt HX.out; clear hb1)
      | (go_at_call 16; refine (may_any _ _ _ _ _ _ HL.out).mono ?_; rw [hmay]; rintro e w1 ⟨rfl, hb1⟩; have HL := Aside.mk (HL.out.below hb1); have HB := Aside.mk (below_call HB.out hb1); have HX := Aside.mk (blk_keep HX.out hb1); have c0 := blk_cell HX.out 0; have c1 := blk_cell HX.out 1; have c2 := blk_cell HX.out 2; simp at c0 c1 c2; have hsz := blk_lt HX.out; clear hb1))
    have HM := Aside.mk (show (w1.alloc (.cells #[.int .i64 s, .int .i64 p, .slice none 0 0] 24)).heap[w1.heap.size]? = some (.cells #[.int .i64 s, .int .i64 p, .slice none 0 0] 24) by rw [heap_at, if_pos rfl])
    have HB := Aside.mk (below_alloc HB.out (.cells #[.int .i64 s, .int .i64 p, .slice none 0 0] 24))
    have HX := Aside.mk (blk_keep HX.out ((Below.refl _ w1).alloc (Nat.le_refl _) (.cells #[.int .i64 s, .int .i64 p, .slice none 0 0] 24)))
    have HS := Aside.mk (show w1.heap.size + 1 ≤ (w1.alloc (.cells #[.int .i64 s, .int .i64 p, .slice none 0 0] 24)).heap.size by simp)
    generalize hm : w1.heap.size = m at *
    clear HL c0 c1 c2 hm
    go_loopw [9] (fun i wr => ∃ (k : Nat) (V : Value), k ≤ ls.length ∧ i = .int .i64 ((k : Int) - 1) ∧ Below w.heap.size w wr ∧ wr.heap[w.heap.size]? = some (.cells #[.int .i64 s, .int .i64 p, .slice A ls.length c] 24) ∧ wr.heap[m]? = some (.cells #[.int .i64 s, .int .i64 p, V] 24) ∧ Own lnkF wr (m + 1) 34 V (turned (ls.drop k)) ∧ m + 1 ≤ wr.heap.size)
      (fun i _ => (intOf i + 1).toNat)
    case atStart => exact ⟨ls.length, _, Nat.le_refl _, rfl, HB.out, HX.out, HM.out, by rw [List.drop_length]; exact Own.nil _ _ _ _, HS.out⟩
    case round =>
      clear HB HX HM HS
      obtain ⟨k, V, hk, rfl, hb, hx, hm, ho, hms⟩ := hrel
      have KB := Aside.mk hb
      have KX := Aside.mk hx
      have KM := Aside.mk hm
      have KO := Aside.mk ho
      have c0 := blk_cell hx 0
      have c1 := blk_cell hx 1
      have c2 := blk_cell hx 2
      simp at c0 c1 c2
      have d0 := blk_cell hm 0
      have d1 := blk_cell hm 1
      have d2 := blk_cell hm 2
      simp at d0 d1 d2
      cases k with
      | succ k =>
        obtain ⟨b, o, cs, rfl, hbl, hcs, hc⟩ := Row.at HW.out k (by omega)
        obtain rfl : cs = _ := hcs
        have e0 : wr.cell? ⟨b, o + k * 4, none⟩ = some (.int .i64 ls[k].a) := (hb.cell hbl).trans (hc 0 _ rfl)
        have e1 : wr.cell? ⟨b, o + k * 4 + 1, none⟩ = some (.int .i64 ls[k].pa) := (hb.cell hbl).trans (hc 1 _ rfl)
        have e2 : wr.cell? ⟨b, o + k * 4 + 2, none⟩ = some (.int .i64 ls[k].b) := (hb.cell hbl).trans (hc 2 _ rfl)
        have e3 : wr.cell? ⟨b, o + k * 4 + 3, none⟩ = some (.int .i64 ls[k].pb) := (hb.cell hbl).trans (hc 3 _ rfl)
        have hj := Aside.mk (turned_drop (ls := ls) (k := k) (by omega))
        have hsl : ls[k].swap = ⟨ls[k].b, ls[k].pb, ls[k].a, ls[k].pa⟩ := rfl
        rw [hsl] at hj
        generalize ls[k] = l at *
        have hi : ((k + 1 : Nat) : Int) - 1 = (k : Int) := by omega
        rw [hi]
        have htl : (turned (List.drop (k + 1) ls)).length ≤ 12 := by rw [turned_len, List.length_drop]; omega
        have hml : m < wr.heap.size := by omega
        have hNl : w.heap.size < wr.heap.size := by omega
        clear hb hx hm ho hc
        go_wp2_with (at_builtin; refine wp_app1 (f := lnkF) (m + 1) rfl _ _ _ _ _ _ rfl Try.underlying22 infoLnk rfl (by decide) V _ (⟨l.b, l.pb, l.a, l.pa⟩ : Lnk) _ rfl rfl (by go_simp) (KO.out.alloc _) (by simp; omega) (by omega) ?_; intro v1 w2 ho1 hg1 hat1; obtain ⟨A1, q1, rfl, hq1⟩ := ho1.form; have hX2 := Aside.mk ((hg1.block w.heap.size (by simp; omega) (fun e => by have := (KO.out.lt _ e.symm).1; omega)).trans (blk_keep KX.out ((Below.refl _ _).alloc (Nat.le_refl _) _))); have hM2 := Aside.mk ((hg1.block m (by simp; omega) (fun e => by have := (KO.out.lt _ e.symm).1; omega)).trans (blk_keep KM.out ((Below.refl _ _).alloc (Nat.le_refl _) _))); have g2 := blk_cell hM2.out 2; have q2 := blk_frozen hM2.out 2; simp at g2; have hB2 := Aside.mk (below_own (below_alloc KB.out _) hg1 (fun k hk => ⟨by have := (KO.out.lt k hk).1; omega, (KO.out.lt k hk).2⟩)); have hO2 := Aside.mk ho1; have hs2 := hg1.size; simp at hs2; clear ho1 hg1 hat1)
        go_roundw
        case rel =>
          exact ⟨k, _, by omega, rfl, below_set hB2.out (by simp; omega) _, blk_far hX2.out (by simp; omega) _, blk_set hM2.out 2 _, by rw [hj.out]; simpa using hO2.out.set (p := ⟨m, 2, none⟩) (Nat.lt_succ_self m) (.slice A1 ((turned (List.drop (k + 1) ls)).length + 1) q1), by (try simp) <;> omega⟩
        case measure => simp [intOf] <;> omega
      | zero =>
        rw [List.drop_zero] at ho KO
        obtain ⟨A2, k2, rfl, hc2, hr2⟩ := ho.rd
        have KL := Aside.mk (HW.out.below hb)
        have KU := Aside.mk (show Rd lnkD wr A2 (turned ls).length (turned ls) from hr2)
        have hml : m < wr.heap.size := by omega
        have hNl : w.heap.size < wr.heap.size := by omega
        have ffu := Aside.mk hfu
        clear hb hx hm ho hr2 KO hfu
        generalize turned ls = us at *
        go_wp2_with (go_at_call 12; refine (far_any s p _ _ _ _ _ _ (by first | (with_reducible exact KL.out) | (with_reducible exact KU.out))).mono ?_; try rw [ffu.out]
                     rintro e w3 ⟨rfl, hb1⟩; have KL := Aside.mk (KL.out.below hb1); have KU := Aside.mk (KU.out.below hb1); have KB := Aside.mk (below_call KB.out hb1); have KX := Aside.mk (blk_keep KX.out hb1); have KM := Aside.mk (blk_keep KM.out hb1); have c0 := blk_cell KX.out 0; have c1 := blk_cell KX.out 1; have c2 := blk_cell KX.out 2; simp at c0 c1 c2; have d0 := blk_cell KM.out 0; have d1 := blk_cell KM.out 1; have d2 := blk_cell KM.out 2; simp at d0 d1 d2; clear hb1)
        generalize (farL s p ls x y).1 = fa at *
        generalize (farL s p ls x y).2.1 = fb at *
        generalize (farL s p ls x y).2.2 = fc at *
        refine wp_region_facts (Base := trnB s p A c ls A2 k2 us x y fa fb fc m w) (q := trnQ) (Fs := trnF s p A c ls A2 k2 us x y fa fb fc m w) (by kernel_rfl) (by kernel_rfl) (by kernel_rfl) (by kernel_rfl) ⟨below_drew KB.out, KX.out, KM.out, KL.out, KU.out⟩ ?_ ?_
        · clear KB KX KM KL KU c0 c1 c2 d0 d1 d2 ffu HW
          have hBs := trnB_stay s p A c ls A2 k2 us x y fa fb fc m w
          have hFs := trnF_stay s p A c ls A2 k2 us x y fa fb fc m w
          refine ⟨?_, ?_, ?_, ?_, ?_, ?_, ?_, ?_, ?_, ?_, ?_, ?_, ?_, ?_, ?_, ?_, ?_, ?_, ?_, ?_, ?_, ?_, ?_, ?_, ?_, ?_, ?_, ?_, ?_, trivial⟩
          · refine step_pure hBs hFs rfl fun a' w' hB hag hp => ?_
            have h8 := hag 8 (by kernel_rfl)
            have hc0 := blk_cell hB.2.1 0; have hc1 := blk_cell hB.2.1 1; have hc2 := blk_cell hB.2.1 2; have hd0 := blk_cell hB.2.2.1 0; have hd1 := blk_cell hB.2.2.1 1; have hd2 := blk_cell hB.2.2.1 2; simp at hc0 hc1 hc2 hd0 hd1 hd2
            simp at h8
            unfold OpYields
            go_simp
            exact ⟨Below.refl _ _, rfl⟩
          · refine step_pure hBs hFs rfl fun a' w' hB hag hp => ?_
            have h71 : a'.tmps.getD 71 undef = _ := hp 0 (by kernel_rfl)
            simp at h71
            unfold OpYields
            go_simp
            refine (may_any _ _ _ _ _ _ hB.2.2.2.2).mono ?_
            rw [hmu]
            rintro e w1 ⟨rfl, hb⟩
            exact ⟨_, rfl, hb, rfl⟩
          · refine step_pure hBs hFs rfl fun a' w' hB hag hp => ?_
            have h72 : a'.tmps.getD 72 undef = _ := hp 1 (by kernel_rfl)
            simp at h72
            unfold OpYields
            go_simp
            exact ⟨Below.refl _ _, rfl⟩
          · refine step_pure_g hBs hFs fun a' w' hB hag hp => ?_
            have hg : a'.tmps.getD 73 undef = _ := hp 2 (by kernel_rfl)
            have h11 := hag 11 (by kernel_rfl)
            refine ⟨wanted_of hg rfl rfl, ?_⟩
            simp at h11
            unfold OpYields
            go_simp
            exact ⟨Below.refl _ _, rfl⟩
          · refine step_pure_g hBs hFs fun a' w' hB hag hp => ?_
            have hg : a'.tmps.getD 73 undef = _ := hp 2 (by kernel_rfl)
            have h14 := hag 14 (by kernel_rfl)
            refine ⟨wanted_of hg rfl rfl, ?_⟩
            simp at h14
            unfold OpYields
            go_simp
            exact ⟨Below.refl _ _, rfl⟩
          · refine step_pure_g hBs hFs fun a' w' hB hag hp => ?_
            have hg : a'.tmps.getD 73 undef = _ := hp 2 (by kernel_rfl)
            have h74 : a'.tmps.getD 74 undef = _ := hp 3 (by kernel_rfl)
            have h75 : a'.tmps.getD 75 undef = _ := hp 4 (by kernel_rfl)
            have ueq := Try.underlying3
            have ueqb := Try.underlying4
            refine ⟨wanted_of hg rfl rfl, ?_⟩
            simp at h74 h75
            unfold OpYields
            go_simp
            exact ⟨Below.refl _ _, rfl⟩
          · refine step_pure hBs hFs rfl fun a' w' hB hag hp => ?_
            have h73 : a'.tmps.getD 73 undef = _ := hp 2 (by kernel_rfl)
            have h76 : a'.tmps.getD 76 undef = _ := hp 5 (by kernel_rfl)
            simp at h73 h76
            unfold OpYields
            go_simp
            exact ⟨Below.refl _ _, rfl⟩
          · refine step_pure hBs hFs rfl fun a' w' hB hag hp => ?_
            have h77 : a'.tmps.getD 77 undef = _ := hp 6 (by kernel_rfl)
            simp at h77
            unfold OpYields
            go_simp
            exact ⟨Below.refl _ _, rfl⟩
          · refine step_pure_g hBs hFs fun a' w' hB hag hp => ?_
            have hg : a'.tmps.getD 78 undef = _ := hp 7 (by kernel_rfl)
            have h12 := hag 12 (by kernel_rfl)
            refine ⟨wanted_of hg rfl rfl, ?_⟩
            simp at h12
            unfold OpYields
            go_simp
            exact ⟨Below.refl _ _, rfl⟩
          · refine step_pure_g hBs hFs fun a' w' hB hag hp => ?_
            have hg : a'.tmps.getD 78 undef = _ := hp 7 (by kernel_rfl)
            have h15 := hag 15 (by kernel_rfl)
            refine ⟨wanted_of hg rfl rfl, ?_⟩
            simp at h15
            unfold OpYields
            go_simp
            exact ⟨Below.refl _ _, rfl⟩
          · refine step_pure_g hBs hFs fun a' w' hB hag hp => ?_
            have hg : a'.tmps.getD 78 undef = _ := hp 7 (by kernel_rfl)
            have h79 : a'.tmps.getD 79 undef = _ := hp 8 (by kernel_rfl)
            have h80 : a'.tmps.getD 80 undef = _ := hp 9 (by kernel_rfl)
            have ueq := Try.underlying3
            have ueqb := Try.underlying4
            refine ⟨wanted_of hg rfl rfl, ?_⟩
            simp at h79 h80
            unfold OpYields
            go_simp
            exact ⟨Below.refl _ _, rfl⟩
          · refine step_pure hBs hFs rfl fun a' w' hB hag hp => ?_
            have h78 : a'.tmps.getD 78 undef = _ := hp 7 (by kernel_rfl)
            have h81 : a'.tmps.getD 81 undef = _ := hp 10 (by kernel_rfl)
            simp at h78 h81
            unfold OpYields
            go_simp
            exact ⟨Below.refl _ _, rfl⟩
          · refine step_pure hBs hFs rfl fun a' w' hB hag hp => ?_
            have h82 : a'.tmps.getD 82 undef = _ := hp 11 (by kernel_rfl)
            simp at h82
            unfold OpYields
            go_simp
            exact ⟨Below.refl _ _, rfl⟩
          · refine step_pure_g hBs hFs fun a' w' hB hag hp => ?_
            have hg : a'.tmps.getD 83 undef = _ := hp 12 (by kernel_rfl)
            have h13 := hag 13 (by kernel_rfl)
            refine ⟨wanted_of hg rfl rfl, ?_⟩
            simp at h13
            unfold OpYields
            go_simp
            exact ⟨Below.refl _ _, rfl⟩
          · refine step_pure_g hBs hFs fun a' w' hB hag hp => ?_
            have hg : a'.tmps.getD 83 undef = _ := hp 12 (by kernel_rfl)
            have h16 := hag 16 (by kernel_rfl)
            refine ⟨wanted_of hg rfl rfl, ?_⟩
            simp at h16
            unfold OpYields
            go_simp
            exact ⟨Below.refl _ _, rfl⟩
          · refine step_pure_g hBs hFs fun a' w' hB hag hp => ?_
            have hg : a'.tmps.getD 83 undef = _ := hp 12 (by kernel_rfl)
            have h84 : a'.tmps.getD 84 undef = _ := hp 13 (by kernel_rfl)
            have h85 : a'.tmps.getD 85 undef = _ := hp 14 (by kernel_rfl)
            have ueq := Try.underlying3
            have ueqb := Try.underlying4
            refine ⟨wanted_of hg rfl rfl, ?_⟩
            simp at h84 h85
            unfold OpYields
            go_simp
            exact ⟨Below.refl _ _, rfl⟩
          · refine step_pure hBs hFs rfl fun a' w' hB hag hp => ?_
            have h83 : a'.tmps.getD 83 undef = _ := hp 12 (by kernel_rfl)
            have h86 : a'.tmps.getD 86 undef = _ := hp 15 (by kernel_rfl)
            simp at h83 h86
            unfold OpYields
            go_simp
            exact ⟨Below.refl _ _, rfl⟩
          · refine step_pure hBs hFs rfl fun a' w' hB hag hp => ?_
            have h87 : a'.tmps.getD 87 undef = _ := hp 16 (by kernel_rfl)
            simp at h87
            unfold OpYields
            go_simp
            exact ⟨Below.refl _ _, rfl⟩
          · refine step_pure_g hBs hFs fun a' w' hB hag hp => ?_
            have hg : a'.tmps.getD 88 undef = _ := hp 17 (by kernel_rfl)
            have h3 := hag 3 (by kernel_rfl)
            have hc0 := blk_cell hB.2.1 0; have hc1 := blk_cell hB.2.1 1; have hc2 := blk_cell hB.2.1 2; have hd0 := blk_cell hB.2.2.1 0; have hd1 := blk_cell hB.2.2.1 1; have hd2 := blk_cell hB.2.2.1 2; simp at hc0 hc1 hc2 hd0 hd1 hd2
            refine ⟨wanted_of hg rfl rfl, ?_⟩
            simp at h3
            unfold OpYields
            go_simp
            exact ⟨Below.refl _ _, rfl⟩
          · refine step_pure_g hBs hFs fun a' w' hB hag hp => ?_
            have hg : a'.tmps.getD 88 undef = _ := hp 17 (by kernel_rfl)
            have h1 := hag 1 (by kernel_rfl)
            refine ⟨wanted_of hg rfl rfl, ?_⟩
            simp at h1
            unfold OpYields
            go_simp
            exact ⟨Below.refl _ _, rfl⟩
          · refine step_pure_g hBs hFs fun a' w' hB hag hp => ?_
            have hg : a'.tmps.getD 88 undef = _ := hp 17 (by kernel_rfl)
            have h2 := hag 2 (by kernel_rfl)
            refine ⟨wanted_of hg rfl rfl, ?_⟩
            simp at h2
            unfold OpYields
            go_simp
            exact ⟨Below.refl _ _, rfl⟩
          · refine step_pure_g hBs hFs fun a' w' hB hag hp => ?_
            have hg : a'.tmps.getD 88 undef = _ := hp 17 (by kernel_rfl)
            have h89 : a'.tmps.getD 89 undef = _ := hp 18 (by kernel_rfl)
            have h90 : a'.tmps.getD 90 undef = _ := hp 19 (by kernel_rfl)
            have h91 : a'.tmps.getD 91 undef = _ := hp 20 (by kernel_rfl)
            refine ⟨wanted_of hg rfl rfl, ?_⟩
            simp at h89 h90 h91
            unfold OpYields
            go_simp
            refine (edge_any _ _ _ _ _ _ _ _ hB.2.2.2.1).mono ?_
            rintro e w1 ⟨rfl, hb⟩
            exact ⟨_, rfl, hb, rfl⟩
          · refine step_pure_g hBs hFs fun a' w' hB hag hp => ?_
            have hg : a'.tmps.getD 88 undef = _ := hp 17 (by kernel_rfl)
            have h8 := hag 8 (by kernel_rfl)
            have hc0 := blk_cell hB.2.1 0; have hc1 := blk_cell hB.2.1 1; have hc2 := blk_cell hB.2.1 2; have hd0 := blk_cell hB.2.2.1 0; have hd1 := blk_cell hB.2.2.1 1; have hd2 := blk_cell hB.2.2.1 2; simp at hc0 hc1 hc2 hd0 hd1 hd2
            refine ⟨wanted_of hg rfl rfl, ?_⟩
            simp at h8
            unfold OpYields
            go_simp
            exact ⟨Below.refl _ _, rfl⟩
          · refine step_pure_g hBs hFs fun a' w' hB hag hp => ?_
            have hg : a'.tmps.getD 88 undef = _ := hp 17 (by kernel_rfl)
            have h1 := hag 1 (by kernel_rfl)
            refine ⟨wanted_of hg rfl rfl, ?_⟩
            simp at h1
            unfold OpYields
            go_simp
            exact ⟨Below.refl _ _, rfl⟩
          · refine step_pure_g hBs hFs fun a' w' hB hag hp => ?_
            have hg : a'.tmps.getD 88 undef = _ := hp 17 (by kernel_rfl)
            have h2 := hag 2 (by kernel_rfl)
            refine ⟨wanted_of hg rfl rfl, ?_⟩
            simp at h2
            unfold OpYields
            go_simp
            exact ⟨Below.refl _ _, rfl⟩
          · refine step_pure_g hBs hFs fun a' w' hB hag hp => ?_
            have hg : a'.tmps.getD 88 undef = _ := hp 17 (by kernel_rfl)
            have h93 : a'.tmps.getD 93 undef = _ := hp 22 (by kernel_rfl)
            have h94 : a'.tmps.getD 94 undef = _ := hp 23 (by kernel_rfl)
            have h95 : a'.tmps.getD 95 undef = _ := hp 24 (by kernel_rfl)
            refine ⟨wanted_of hg rfl rfl, ?_⟩
            simp at h93 h94 h95
            unfold OpYields
            go_simp
            refine (edge_any _ _ _ _ _ _ _ _ hB.2.2.2.2).mono ?_
            rw [heu]
            rintro e w1 ⟨rfl, hb⟩
            exact ⟨_, rfl, hb, rfl⟩
          · refine step_pure_g hBs hFs fun a' w' hB hag hp => ?_
            have hg : a'.tmps.getD 88 undef = _ := hp 17 (by kernel_rfl)
            have h92 : a'.tmps.getD 92 undef = _ := hp 21 (by kernel_rfl)
            have h96 : a'.tmps.getD 96 undef = _ := hp 25 (by kernel_rfl)
            have ueq := Try.underlying3
            have ueqb := Try.underlying4
            refine ⟨wanted_of hg rfl rfl, ?_⟩
            simp at h92 h96
            unfold OpYields
            go_simp
            exact ⟨Below.refl _ _, rfl⟩
          · refine step_pure hBs hFs rfl fun a' w' hB hag hp => ?_
            have h88 : a'.tmps.getD 88 undef = _ := hp 17 (by kernel_rfl)
            have h97 : a'.tmps.getD 97 undef = _ := hp 26 (by kernel_rfl)
            simp at h88 h97
            unfold OpYields
            go_simp
            exact ⟨Below.refl _ _, rfl⟩
          · refine step_pure hBs hFs rfl fun a' w' hB hag hp => ?_
            have h98 : a'.tmps.getD 98 undef = _ := hp 27 (by kernel_rfl)
            simp at h98
            unfold OpYields
            go_simp
            exact ⟨Below.refl _ _, rfl⟩
        intro vs w' hB hF
        simp only [AllF, forall_const, reduceCtorEq, false_implies, Fof, trnF, trnQ, Nat.zero_add, Nat.reduceAdd, Nat.reduceEqDiff, if_true, if_false, List.getD_cons_succ, List.getD_cons_zero] at hF
        obtain ⟨f0, f1, f2, f3, f4, f5, f6, f7, f8, f9, f10, f11, f12, f13, f14, f15, f16, f17, f18, f19, f20, f21, f22, f23, f24, f25, f26, f27, f28, -⟩ := hF
        simp only [putAll, Act.put, Nat.zero_add, Nat.reduceAdd, f0, f1, f2, f3, f4, f5, f6, f7, f8, f9, f10, f11, f12, f13, f14, f15, f16, f17, f18, f19, f20, f21, f22, f23, f24, f25, f26, f27, f28, List.setIfInBounds_toArray, List.set_cons_zero, List.set_cons_succ]
        have KB := Aside.mk hB.1
        clear hB
        go_wp2
        go_ret
        exact ⟨rfl, KB.out⟩
end Go.Proofs.Ytnjiojmebaojpaa
