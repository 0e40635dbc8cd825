/- The walks through a table's reading: table.at, Look; the document's where, Of, Look; Few. -/
import Derived.Test.YtlnnkkbcmidddaaConfA
import Derived.Test.YtlnnkkbcmidddaaPipeP
namespace Go.Proofs.Ytlnnkkbcmidddaa
open Go.RowKit
set_option maxRecDepth 100000

/-! ### where a tag stands -/
theorem idxV_drop {vs : List Vr} {t : Int} {k : Nat} (h : k < vs.length) : idxV (vs.drop k) t = if vs[k].tag = t then 0 else idxV (vs.drop (k + 1)) t + 1 := by
  rw [List.drop_eq_getElem_cons h]
  unfold idxV
  rw [List.findIdx_cons]
  by_cases he : vs[k].tag = t <;> simp [he]
theorem idxV_le (vs : List Vr) (t : Int) : idxV vs t ≤ vs.length := List.findIdx_le_length
def idxI (vs : List Vr) (t : Int) : Int := if idxV vs t < vs.length then idxV vs t else -1

set_option maxHeartbeats 1000000 in
theorem same_tag (x t : Int) (A : Option Addr) (n c B : Nat) (w : World) (hB : w.cell? ⟨B, 0, none⟩ = some (.int .i64 t)) (hlt : B < w.heap.size) :
    Calls Try.prog 75 #[.agg #[.int .i64 x, .slice A n c], .pointer (some ⟨B, 0, none⟩)] w fun e w' => e = .returned (.bool (x == t)) ∧ Below w.heap.size w w' := by
  go_enter Try.func75, Try.ntmps75
  go_wp2
  go_ret
  exact ⟨rfl, below_alloc (Below.refl _ _) _⟩
set_option maxHeartbeats 1000000 in
theorem index_any (vs : List Vr) (A : Option Addr) (c : Nat) (t : Int) (B : Nat) (w : World) (hc : Rd verD w A vs.length vs) (hB : w.cell? ⟨B, 0, none⟩ = some (.int .i64 t)) (hlt : B < w.heap.size) :
    Calls Try.prog 82 #[.slice A vs.length c, .func (.func 75) #[] #[.pointer (some ⟨B, 0, none⟩)]] w fun e w' => e = .returned (.int .i64 (idxI vs t)) ∧ Below w.heap.size w w' := by
  have HC := Aside.mk hc
  have HB := Aside.mk hB
  have hmx := hc.max
  clear hc hB
  go_enter Try.func82, Try.ntmps82
  go_wp2
  go_loopw [8] (fun i wr => ∃ k : Nat, k ≤ vs.length ∧ i = .int .i64 k ∧ idxV vs t = k + idxV (vs.drop k) t ∧ Below w.heap.size w wr) (fun i _ => vs.length - (intOf i).toNat)
  case atStart => exact ⟨0, Nat.zero_le _, rfl, by simp, Below.refl _ _⟩
  case round =>
    obtain ⟨k, hk, rfl, hs, hb⟩ := hrel
    have HS := Aside.mk hs
    have KB := Aside.mk hb
    clear hs hb
    by_cases hk2 : k < vs.length
    · obtain ⟨b, o, A', n', rfl, hbl, hc0, hc1, -, -, -⟩ := ver_cell HC.out KB.out hk2
      have hd := Aside.mk (idxV_drop (t := t) hk2)
      cases hq : (vs[k].tag == t)
      · go_wp2_with (go_at_call 75; refine (same_tag vs[k].tag t A' _ n' B _ ((KB.out.cell hlt).trans HB.out) (Nat.lt_of_lt_of_le hlt KB.out.size)).mono ?_; rw [hq]; rintro e w1 ⟨rfl, hb1⟩; have KB := Aside.mk (below_call KB.out hb1); clear hb1)
        have hne : ¬ vs[k].tag = t := by simpa using hq
        exact ⟨⟨k + 1, by omega, by go_num, by rw [HS.out, hd.out, if_neg hne]; omega, KB.out⟩, by simp [intOf]; omega⟩
      · have he : vs[k].tag = t := by simpa using hq
        have HI := Aside.mk (show idxI vs t = k by unfold idxI; rw [HS.out, hd.out, if_pos he, Nat.add_zero, if_pos hk2])
        clear he
        go_wp2_with (go_at_call 75; refine (same_tag vs[k].tag t A' _ n' B _ ((KB.out.cell hlt).trans HB.out) (Nat.lt_of_lt_of_le hlt KB.out.size)).mono ?_; rw [hq]; rintro e w1 ⟨rfl, hb1⟩; have KB := Aside.mk (below_call KB.out hb1); clear hb1)
        go_ret
        exact ⟨ret_int HI.out.symm, KB.out⟩
    · obtain rfl : k = vs.length := by omega
      have HI := Aside.mk (show idxI vs t = -1 by
        have := HS.out
        rw [List.drop_length] at this
        unfold idxI
        rw [if_neg (by rw [this]; simp)])
      go_wp2
      go_ret
      exact ⟨ret_int HI.out.symm, KB.out⟩
theorem firstV_any (vs : List Vr) (A : Option Addr) (c : Nat) (t : Int) (B : Nat) (w : World) (hc : Rd verD w A vs.length vs) (hB : w.cell? ⟨B, 0, none⟩ = some (.int .i64 t)) (hlt : B < w.heap.size) :
    Calls Try.prog 74 #[.slice A vs.length c, .func (.func 75) #[] #[.pointer (some ⟨B, 0, none⟩)]] w fun e w' => e = .returned (.int .i64 (idxV vs t)) ∧ Below w.heap.size w w' := by
  have HC := Aside.mk hc
  have hle := idxV_le vs t
  by_cases h : idxV vs t < vs.length
  · have hi : idxI vs t = idxV vs t := by unfold idxI; rw [if_pos h]
    have d0 : decide ((0 : Int) ≤ (idxV vs t : Int)) = true := decide_eq_true (by omega)
    have HI := Aside.mk hi
    clear hi
    go_enter Try.func74, Try.ntmps74
    go_wp2_with (go_at_call 82; refine (index_any vs A c t B _ HC.out hB hlt).mono ?_; rw [HI.out]; rintro e w1 ⟨rfl, hb1⟩)
    go_ret
    exact ⟨rfl, hb1⟩
  · have hi : idxI vs t = -1 := by unfold idxI; rw [if_neg h]
    have HI := Aside.mk hi
    have HN := Aside.mk (show vs.length = idxV vs t by omega)
    clear hi hle h
    go_enter Try.func74, Try.ntmps74
    go_wp2_with (go_at_call 82; refine (index_any vs A c t B _ HC.out hB hlt).mono ?_; rw [HI.out]; rintro e w1 ⟨rfl, hb1⟩)
    go_ret
    exact ⟨ret_int (by rw [HN.out]), hb1⟩
theorem vat_any (vs : List Vr) (A : Option Addr) (c : Nat) (t : Int) (w : World) (hc : Rd verD w A vs.length vs) :
    Calls Try.prog 64 #[.slice A vs.length c, .int .i64 t] w fun e w' => e = .returned (.int .i64 (idxV vs t)) ∧ Below w.heap.size w w' := by
  have HC := Aside.mk hc
  clear hc
  go_enter Try.func64, Try.ntmps64
  go_wp2_with (go_at_call 74; refine (firstV_any vs A c t w.heap.size _ (HC.out.below (below_alloc (Below.refl _ _) _)) (by simp) (by simp)).mono ?_; rintro e w1 ⟨rfl, hb1⟩)
  go_ret
  exact ⟨rfl, below_call (below_alloc (Below.refl _ _) _) hb1⟩
/-! ### Of, Look -/
abbrev actV (a : Int × Int) : Value := .agg #[.int .i64 a.1, .int .i64 a.2]
theorem lookV_none {vs : List Vr} {t inn dst : Int} (h : ¬ idxV vs t < vs.length) : lookV vs t inn dst = ((0, 0), 4) := by
  unfold lookV; rw [List.getElem?_eq_none (by omega)]
theorem lookV_some {vs : List Vr} {t inn dst : Int} (h : idxV vs t < vs.length) : lookV vs t inn dst = match bestN inn dst vs[idxV vs t].l vs[idxV vs t].l.length with
    | none => ((0, 0), 3)
    | some j => match vs[idxV vs t].l[j]? with
      | none => ((0, 0), 3)
      | some r => ((r.kind, r.port), if r.kind = 1 then 0 else 2) := by
  unfold lookV; rw [List.getElem?_eq_getElem h]; rfl
set_option maxHeartbeats 2000000 in
theorem look_any (vs : List Vr) (A : Option Addr) (c : Nat) (t inn dst : Int) (w : World) (hc : Rd verD w A vs.length vs) :
    Calls Try.prog 50 #[.slice A vs.length c, .int .i64 t, .int .i64 inn, .int .i64 dst] w fun e w' => e = .returned (.tuple #[actV (lookV vs t inn dst).1, .int .i64 (lookV vs t inn dst).2]) ∧ Below w.heap.size w w' := by
  have hle := idxV_le vs t
  by_cases h : idxV vs t < vs.length
  · have hlk := lookV_some (inn := inn) (dst := dst) h
    obtain ⟨b, o, A', n', rfl, hbl, hc0, hc1, h1, h2, h3⟩ := ver_cell hc (Below.refl _ w) h
    have HC := Aside.mk hc
    have HR := Aside.mk h3
    have H1 := Aside.mk hc1
    have hmx := hc.max
    have dq : ((idxV vs t : Int) == (vs.length : Int)) = false := by simp; omega
    generalize vs[idxV vs t] = v at *
    have HI := Aside.mk (show idxV vs t = idxV vs t from rfl)
    generalize hidx : idxV vs t = i at *
    have HX := Aside.mk hidx
    clear hc h2 h3 hc0 hc1 hidx
    cases hbest : bestN inn dst v.l v.l.length with
    | none =>
      rw [hbest] at hlk
      have HK := Aside.mk hlk
      have hfi := Aside.mk (show firstI inn dst v.l = -1 by unfold firstI; rw [hbest]; rfl)
      clear hlk hbest
      go_enter Try.func50, Try.ntmps50
      go_wp2_with (first
        | (go_at_call 64; refine (vat_any vs _ c t _ (HC.out.below (below_alloc (Below.refl _ _) _))).mono ?_; rw [HX.out]; rintro e w1 ⟨rfl, hb1⟩; have KB := Aside.mk (below_call (below_alloc (Below.refl _ _) _) hb1); have KX := Aside.mk (box_keep hb1); have x0 := blk_cell KX.out 0; have x1 := blk_cell KX.out 1; simp at x0 x1; have xf := fun i => blk_frozen KX.out i; have hlx := blk_lt KX.out; have e1 := (KB.out.cell (p := ⟨b, o + i * 2 + 1, none⟩) hbl).trans H1.out; clear hb1)
        | (go_at_call 35; refine (first_any v.l A' n' inn dst _ (HR.out.below KB.out)).mono ?_; rw [hfi.out]; rintro e w2 ⟨rfl, hb1⟩; have KB := Aside.mk (below_call KB.out hb1); have KX := Aside.mk (blk_keep KX.out hb1); have x0 := blk_cell KX.out 0; have x1 := blk_cell KX.out 1; simp at x0 x1; have xf := fun i => blk_frozen KX.out i; have hlx := blk_lt KX.out; clear hb1))
      refine bodyPost_ret (v := .tuple #[actV (0, 0), .int .i64 3]) (by simp [results, Try.results50, go_sem, *]) rfl ⟨by rw [HK.out], ?_⟩
      repeat (refine below_set ?_ (by (try simp) <;> omega) _)
      exact KB.out
    | some j =>
      have hj : j < v.l.length := (bestN_lt hbest).2
      rw [hbest] at hlk
      simp only [List.getElem?_eq_getElem hj] at hlk
      have HK := Aside.mk hlk
      have hfi := Aside.mk (show firstI inn dst v.l = (j : Int) by unfold firstI; rw [hbest]; rfl)
      obtain ⟨b2, o2, cs2, rfl, -⟩ := Row.at HR.out j hj
      obtain ⟨hb2, q0, q1, q2, q3, q4, q5⟩ := rul_cells (c := n') HR.out (Below.refl _ _) hj
      have Q4 := Aside.mk q4
      have Q5 := Aside.mk q5
      have hj' : (j : Int) < (v.l.length : Int) := by omega
      clear hlk hbest q0 q1 q2 q3 q4 q5
      by_cases hk : v.l[j].kind = 1
      · have dk : (v.l[j].kind != 1) = false := by simp [hk]
        rw [if_pos hk] at HK
        have HKK := Aside.mk hk
        clear hk
        go_enter Try.func50, Try.ntmps50
        go_wp2_with (first
          | (go_at_call 64; refine (vat_any vs _ c t _ (HC.out.below (below_alloc (Below.refl _ _) _))).mono ?_; rw [HX.out]; rintro e w1 ⟨rfl, hb1⟩; have KB := Aside.mk (below_call (below_alloc (Below.refl _ _) _) hb1); have KX := Aside.mk (box_keep hb1); have x0 := blk_cell KX.out 0; have x1 := blk_cell KX.out 1; simp at x0 x1; have xf := fun i => blk_frozen KX.out i; have hlx := blk_lt KX.out; have e1 := (KB.out.cell (p := ⟨b, o + i * 2 + 1, none⟩) hbl).trans H1.out; clear hb1)
          | (go_at_call 35; refine (first_any v.l (some ⟨b2, o2, none⟩) n' inn dst _ (HR.out.below KB.out)).mono ?_; rw [hfi.out]; rintro e w2 ⟨rfl, hb1⟩; have KB := Aside.mk (below_call KB.out hb1); have KX := Aside.mk (blk_keep KX.out hb1); have x0 := blk_cell KX.out 0; have x1 := blk_cell KX.out 1; simp at x0 x1; have xf := fun i => blk_frozen KX.out i; have hlx := blk_lt KX.out; have e1 := (KB.out.cell (p := ⟨b, o + i * 2 + 1, none⟩) hbl).trans H1.out; have q4 := (KB.out.cell (p := ⟨b2, o2 + j * 6 + 4, none⟩) hb2).trans Q4.out; have q5 := (KB.out.cell (p := ⟨b2, o2 + j * 6 + 5, none⟩) hb2).trans Q5.out; clear hb1))
        refine bodyPost_ret (v := .tuple #[actV (v.l[j].kind, v.l[j].port), .int .i64 0]) (by simp [results, Try.results50, go_sem, *]) rfl ⟨by rw [HK.out], ?_⟩
        refine below_alloc ?_ _
        repeat (refine below_set ?_ (by (try simp) <;> omega) _)
        exact KB.out
      · have dk : (v.l[j].kind != 1) = true := by simp [hk]
        rw [if_neg hk] at HK
        clear hk
        go_enter Try.func50, Try.ntmps50
        go_wp2_with (first
          | (go_at_call 64; refine (vat_any vs _ c t _ (HC.out.below (below_alloc (Below.refl _ _) _))).mono ?_; rw [HX.out]; rintro e w1 ⟨rfl, hb1⟩; have KB := Aside.mk (below_call (below_alloc (Below.refl _ _) _) hb1); have KX := Aside.mk (box_keep hb1); have x0 := blk_cell KX.out 0; have x1 := blk_cell KX.out 1; simp at x0 x1; have xf := fun i => blk_frozen KX.out i; have hlx := blk_lt KX.out; have e1 := (KB.out.cell (p := ⟨b, o + i * 2 + 1, none⟩) hbl).trans H1.out; clear hb1)
          | (go_at_call 35; refine (first_any v.l (some ⟨b2, o2, none⟩) n' inn dst _ (HR.out.below KB.out)).mono ?_; rw [hfi.out]; rintro e w2 ⟨rfl, hb1⟩; have KB := Aside.mk (below_call KB.out hb1); have KX := Aside.mk (blk_keep KX.out hb1); have x0 := blk_cell KX.out 0; have x1 := blk_cell KX.out 1; simp at x0 x1; have xf := fun i => blk_frozen KX.out i; have hlx := blk_lt KX.out; have e1 := (KB.out.cell (p := ⟨b, o + i * 2 + 1, none⟩) hbl).trans H1.out; have q4 := (KB.out.cell (p := ⟨b2, o2 + j * 6 + 4, none⟩) hb2).trans Q4.out; have q5 := (KB.out.cell (p := ⟨b2, o2 + j * 6 + 5, none⟩) hb2).trans Q5.out; clear hb1))
        refine bodyPost_ret (v := .tuple #[actV (v.l[j].kind, v.l[j].port), .int .i64 2]) (by simp [results, Try.results50, go_sem, *]) rfl ⟨by rw [HK.out], ?_⟩
        refine below_alloc ?_ _
        repeat (refine below_set ?_ (by (try simp) <;> omega) _)
        exact KB.out
  · have hlk := lookV_none (inn := inn) (dst := dst) h
    have HC := Aside.mk hc
    have HL := Aside.mk hlk
    have dq : ((idxV vs t : Int) == (vs.length : Int)) = true := by simp; omega
    clear hc hlk h
    go_enter Try.func50, Try.ntmps50
    go_wp2_with (go_at_call 64; refine (vat_any vs _ c t _ (HC.out.below (below_alloc (Below.refl _ _) _))).mono ?_; rintro e w1 ⟨rfl, hb1⟩; have KB := Aside.mk (below_call (below_alloc (Below.refl _ _) _) hb1); have KX := Aside.mk (box_keep hb1); have x0 := blk_cell KX.out 0; have x1 := blk_cell KX.out 1; simp at x0 x1; have xf := fun i => blk_frozen KX.out i; have hlx := blk_lt KX.out; clear hb1)
    refine bodyPost_ret (v := .tuple #[actV (0, 0), .int .i64 4]) (by simp [results, Try.results50, go_sem, *]) rfl ⟨by rw [HL.out], ?_⟩
    repeat (refine below_set ?_ (by (try simp) <;> omega) _)
    exact KB.out
end Go.Proofs.Ytlnnkkbcmidddaa
