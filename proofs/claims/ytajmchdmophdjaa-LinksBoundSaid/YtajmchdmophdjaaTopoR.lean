/- The walks through the document's answers of layer 11. -/
import Derived.Test.YtajmchdmophdjaaTopoW
import Derived.Test.YtajmchdmophdjaaOwn
namespace Go.Proofs.Ytajmchdmophdjaa
open Go.RowKit
set_option maxRecDepth 100000

set_option maxHeartbeats 400000 in
theorem port_any (s p : Int) (l : Value) (_hl : l.oneCell' = true) (a b : Int) (w : World) :
    Calls Try.prog 27 #[.agg #[.int .i64 s, .int .i64 p, l], .int .i64 a, .int .i64 b] w fun e w' => e = .returned (.bool (isEnd s p (a, b))) ∧ Below w.heap.size w w' := by
  have hfin : isEnd s p (a, b) = (decide (0 ≤ a) && decide (a < s) && decide (0 ≤ b) && decide (b < p)) := rfl
  have H := Aside.mk hfin
  clear hfin
  go_enter Try.func27, Try.ntmps27
  go_wp2
  all_goals
    go_ret
    exact ⟨by rw [H.out]; simp [*] <;> omega, below_alloc (Below.refl _ _) _⟩

theorem seekR_drop {ls : List Lnk} {k : Nat} (h : k < ls.length) (x y : Int) : seekR (ls.drop k) x y = if (ls[k].a == x && ls[k].pa == y) = true then some ls[k].snd else if (ls[k].b == x && ls[k].pb == y) = true then some ls[k].fst else seekR (ls.drop (k + 1)) x y := by
  rw [List.drop_eq_getElem_cons h]; rfl

set_option maxHeartbeats 1000000 in
theorem farR_any (s p : Int) (A : Option Addr) (c : Nat) (ls : List Lnk) (x y : Int) (w : World) (hl : Rd lnkD w A ls.length ls) :
    Calls Try.prog 22 #[.agg #[.int .i64 s, .int .i64 p, .slice A ls.length c], .int .i64 x, .int .i64 y] w fun e w' =>
      e = .returned (.tuple #[.int .i64 (farR s p ls x y).1, .int .i64 (farR s p ls x y).2.1, .bool (farR s p ls x y).2.2]) ∧ Below w.heap.size w w' := by
  have HL := Aside.mk hl
  have hmax := hl.max
  clear hl
  cases hp : isEnd s p (x, y)
  · have HF := Aside.mk (show farR s p ls x y = (0, 0, false) by unfold farR; rw [hp]; rfl)
    go_enter Try.func22, Try.ntmps22
    go_wp2_with (go_at_call 27; refine (port_any _ _ _ rfl _ _ _).mono ?_; rintro e w1 ⟨rfl, hb1⟩; have HB := Aside.mk (below_call (below_alloc (Below.refl _ _) _) hb1))
    refine bodyPost_ret (v := .tuple #[.int .i64 0, .int .i64 0, .bool false]) (by simp [results, Try.results22, go_sem]) rfl ⟨by rw [HF.out], HB.out⟩
  · have HF := Aside.mk (show farR s p ls x y = (match seekR ls x y with | some e => (e.1, e.2, true) | none => (0, 0, false)) by unfold farR; rw [hp]; rfl)
    go_enter Try.func22, Try.ntmps22
    go_wp2_with (go_at_call 27; refine (port_any _ _ _ rfl _ _ _).mono ?_; rintro e w1 ⟨rfl, hb1⟩; have HB := Aside.mk (below_call (below_alloc (Below.refl _ _) _) hb1); have HX := Aside.mk (box_keep hb1))
    clear hb1
    go_loopw [10] (fun i wr => ∃ k : Nat, k ≤ ls.length ∧ i = .int .i64 k ∧ seekR (ls.drop k) x y = seekR ls x y ∧ Below w.heap.size w wr ∧ wr.heap[w.heap.size]? = some (.cells #[.int .i64 s, .int .i64 p, .slice A ls.length c] 24))
      (fun i _ => ls.length - (intOf i).toNat)
    case atStart => exact ⟨0, Nat.zero_le _, rfl, rfl, HB.out, HX.out⟩
    case round =>
      clear HB HX
      obtain ⟨k, hk, rfl, hsk, hb, hx⟩ := hrel
      have HS := Aside.mk hsk
      have HB := Aside.mk hb
      have HX := Aside.mk hx
      have hc2 : wr.cell? ⟨w.heap.size, 2, none⟩ = some (.slice A ls.length c) := blk_cell hx 2
      clear hsk hx
      by_cases hlt : k < ls.length
      · have hdr := Aside.mk (seekR_drop hlt x y)
        obtain ⟨b, o, cs, rfl, hbl, hcs, hc⟩ := Row.at HL.out k hlt
        obtain rfl : cs = _ := hcs
        have hc0 : wr.cell? ⟨b, o + k * 4, none⟩ = some (.int .i64 ls[k].a) := (hb.cell hbl).trans (hc 0 _ rfl)
        have hc1 : wr.cell? ⟨b, o + k * 4 + 1, none⟩ = some (.int .i64 ls[k].pa) := (hb.cell hbl).trans (hc 1 _ rfl)
        have hc3 : wr.cell? ⟨b, o + k * 4 + 2, none⟩ = some (.int .i64 ls[k].b) := (hb.cell hbl).trans (hc 2 _ rfl)
        have hc4 : wr.cell? ⟨b, o + k * 4 + 3, none⟩ = some (.int .i64 ls[k].pb) := (hb.cell hbl).trans (hc 3 _ rfl)
        clear hc hb
        generalize ls[k] = l at *
        have hxl := blk_lt HX.out
        go_wp2
        all_goals first
          | (go_roundw
             case rel => exact ⟨k + 1, by omega, by go_num, by have e := hdr.out; simp [*] at e; exact e.symm.trans HS.out, below_alloc HB.out _, blk_keep HX.out ((Below.refl _ _).alloc (Nat.le_refl _) _)⟩
             case measure => simp [intOf]; omega)
          | (go_region
             go_wp2
             refine bodyPost_ret (v := .tuple #[.int .i64 _, .int .i64 _, .bool true]) (by simp [results, Try.results22, go_sem]; exact ⟨rfl, rfl⟩) rfl ⟨?_, below_drew (below_alloc HB.out _)⟩
             have e := hdr.out
             simp [*] at e
             rw [HF.out, ← HS.out, e]
             simp [Lnk.fst, Lnk.snd, *])
      · obtain rfl : k = ls.length := by omega
        clear hb
        go_wp2
        refine bodyPost_ret (v := .tuple #[.int .i64 0, .int .i64 0, .bool false]) (by simp [results, Try.results22, go_sem]) rfl ⟨?_, HB.out⟩
        rw [HF.out, ← HS.out, List.drop_length]
        rfl

theorem edgeR_any (s p : Int) (A : Option Addr) (c : Nat) (ls : List Lnk) (x y : Int) (w : World) (hl : Rd lnkD w A ls.length ls) :
    Calls Try.prog 20 #[.agg #[.int .i64 s, .int .i64 p, .slice A ls.length c], .int .i64 x, .int .i64 y] w fun e w' => e = .returned (.bool (edgeR s p ls x y)) ∧ Below w.heap.size w w' := by
  have HL := Aside.mk hl
  have HF := Aside.mk (show edgeR s p ls x y = (isEnd s p (x, y) && !(farR s p ls x y).2.2) from rfl)
  clear hl
  go_enter Try.func20, Try.ntmps20
  go_wp2_with (first
    | (go_at_call 27; refine (port_any _ _ _ rfl _ _ _).mono ?_; rintro e w1 ⟨rfl, hb1⟩; have HB := Aside.mk (below_call (below_alloc (Below.refl _ _) _) hb1); have HX := Aside.mk (box_keep hb1); have hc0 := blk_cell HX.out 0; have hc1 := blk_cell HX.out 1; have hc2 := blk_cell HX.out 2; simp at hc0 hc1 hc2)
    | (go_at_call 22; refine (farR_any _ _ _ _ _ _ _ _ (HL.out.below HB.out)).mono ?_; rintro e w2 ⟨rfl, hb2⟩; have HB2 := Aside.mk (below_call HB.out hb2)))
  all_goals
    go_ret
    refine ⟨ret_bool ?_, HB2.out⟩
    rw [HF.out]
    simp [*]

end Go.Proofs.Ytajmchdmophdjaa
