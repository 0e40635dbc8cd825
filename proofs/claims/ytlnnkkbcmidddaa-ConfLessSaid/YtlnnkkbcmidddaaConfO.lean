/- Configurations in memory out of the headers of their lists; layer 12's example. -/
import Derived.Test.YtlnnkkbcmidddaaConfM
import Derived.Test.YtlnnkkbcmidddaaConfS
import Derived.Test.YtlnnkkbcmidddaaTopoO
namespace Go.Proofs.Ytlnnkkbcmidddaa
open Go.RowKit
set_option maxRecDepth 100000
abbrev Hdr := Option Addr × Nat × Nat
def hdrF : Flat Hdr where
  enc h := [.slice h.1 h.2.1 h.2.2]
  sz := 1
  len _ := rfl
  one _ u hu := by simp at hu; subst hu; rfl
  pos := by decide
/-- A header that is one of a list of rules. -/
def HdrOf (w : World) (h : Hdr) (l : List Rul) : Prop := h.2.1 = l.length ∧ l.length ≤ h.2.2 ∧ (h.1 = none → h.2.2 = 0) ∧ Rd rulD w h.1 l.length l
theorem HdrOf.below {w w' : World} {h : Hdr} {l : List Rul} (hh : HdrOf w h l) (hb : Below w.heap.size w w') : HdrOf w' h l := ⟨hh.1, hh.2.1, hh.2.2.1, hh.2.2.2.below hb⟩
theorem conf_hdr {w : World} {A : Option Addr} {n : Nat} {hs : List Hdr} {ls : List (List Rul)} (h : Rd hdrF.kd w A n hs) (hlen : ls.length = hs.length) (hr : ∀ (i : Nat) (x : Hdr) (l : List Rul), hs[i]? = some x → ls[i]? = some l → HdrOf w x l) : Rd confD w A n ls := by
  obtain ⟨h1, h2, h3⟩ := h
  refine ⟨hlen.trans h1, h2, fun hn => ?_⟩
  obtain ⟨b, o, hA, hb, hc⟩ := h3 hn
  refine ⟨b, o, hA, hb, fun i l hl => ?_⟩
  have hi : i < hs.length := by rw [← hlen]; exact (List.getElem?_eq_some_iff.1 hl).1
  have hx := List.getElem?_eq_getElem hi
  obtain ⟨cs, hcs, hcell⟩ := hc i _ hx
  obtain rfl : cs = _ := hcs
  obtain ⟨e1, e2, e3, e4⟩ := hr i _ l hx hl
  exact ⟨_, ⟨hs[i].1, hs[i].2.2, by show [Value.slice _ _ _] = _; rw [e1], e2, e3, e4⟩, hcell⟩
theorem Rd.blk {α : Type} (f : Flat α) {w : World} {b : Nat} {cs : Array Value} {t : TypeId} {fr : Nat × Nat} (hb : w.heap[b]? = some (.cells cs t fr)) (xs : List α) (hcs : cs.toList = xs.flatMap f.enc) (hm : xs.length ≤ 9223372036854775807) : Rd f.kd w (some ⟨b, 0, none⟩) xs.length xs :=
  ⟨rfl, hm, fun _ => ⟨b, 0, rfl, blk_lt hb, fun i x hx => ⟨f.enc x, rfl, fun j u hu => by
    have h1 := f.at_all xs i x hx j u hu
    have hk : f.kd.sz = f.sz := rfl
    rw [blk_cell hb, hk, Nat.zero_add]
    rw [← hcs] at h1
    simpa using h1⟩⟩⟩
abbrev ra : Rul := ⟨0, 0, -1, 0, 1, 1⟩
abbrev rb : Rul := ⟨0, 0, -1, 0, 1, 2⟩
theorem conf_one {w : World} {g k : Nat} {t u : TypeId} (r : Rul) (h1 : w.heap[g]? = some (.cells #[.int .i64 r.addr, .int .i64 r.len, .int .i64 r.inn, .int .i64 r.prio, .int .i64 r.kind, .int .i64 r.port] t)) (h2 : w.heap[k]? = some (.cells #[.slice (some ⟨g, 0, none⟩) 1 1] u)) : Rd confD w (some ⟨k, 0, none⟩) 1 [[r]] := by
  have hr : Rd rulF.kd w (some ⟨g, 0, none⟩) 1 [r] := Rd.blk rulF h1 [r] rfl (by simp)
  have hh : Rd hdrF.kd w (some ⟨k, 0, none⟩) 1 [(some ⟨g, 0, none⟩, 1, 1)] := Rd.blk hdrF h2 [(some ⟨g, 0, none⟩, 1, 1)] rfl (by simp)
  refine conf_hdr hh rfl (fun i x l hx hl => ?_)
  match i with
  | 0 =>
    cases hx
    cases hl
    exact ⟨rfl, Nat.le_refl _, (fun h => by cases h), hr⟩
  | i + 1 => simp at hx
theorem awk12_a (w : World) : Rd confD (((((w.alloc (.cells #[.int .i64 1, .int .i64 2, .slice none 0 0] 24)).alloc (.cells #[.int .i64 0, .int .i64 0, .int .i64 (-1), .int .i64 0, .int .i64 1, .int .i64 1] 58)).alloc (.cells #[.slice (some ⟨w.heap.size + 1, 0, none⟩) 1 1] 33)).alloc (.cells #[.int .i64 0, .int .i64 0, .int .i64 (-1), .int .i64 0, .int .i64 1, .int .i64 2] 58)).alloc (.cells #[.slice (some ⟨w.heap.size + 1 + 1 + 1, 0, none⟩) 1 1] 33)) (some ⟨w.heap.size + 1 + 1, 0, none⟩) 1 [[ra]] :=
  conf_one ra (heapO (heapO (heapO (heapN _ _ (by simp)) _) _) _) (heapO (heapO (heapN _ _ (by simp)) _) _)
theorem awk12_b (w : World) : Rd confD (((((w.alloc (.cells #[.int .i64 1, .int .i64 2, .slice none 0 0] 24)).alloc (.cells #[.int .i64 0, .int .i64 0, .int .i64 (-1), .int .i64 0, .int .i64 1, .int .i64 1] 58)).alloc (.cells #[.slice (some ⟨w.heap.size + 1, 0, none⟩) 1 1] 33)).alloc (.cells #[.int .i64 0, .int .i64 0, .int .i64 (-1), .int .i64 0, .int .i64 1, .int .i64 2] 58)).alloc (.cells #[.slice (some ⟨w.heap.size + 1 + 1 + 1, 0, none⟩) 1 1] 33)) (some ⟨w.heap.size + 1 + 1 + 1 + 1, 0, none⟩) 1 [[rb]] :=
  conf_one rb (heapO (heapN _ _ (by simp)) _) (heapN _ _ (by simp))
theorem may12_a : mayC 1 2 [] [[ra]] = true := by decide +kernel
theorem may12_b : mayC 1 2 [] [[rb]] = false := by decide +kernel
theorem same12_a : sameC [[ra]] [[ra]] = true := decide_eq_true rfl
theorem same12_b : sameC [[ra]] [[rb]] = false := by simp [sameC, sortP_one]
theorem most12 : mostC [[ra]] = 1 := rfl
set_option maxHeartbeats 2000000 in
theorem awake12_any (w : World) : Calls Try.prog 16 #[] w fun e w' => e = .returned (.bool true) ∧ Below w.heap.size w w' := by
  have HA := Aside.mk (awk12_a w)
  have HB := Aside.mk (awk12_b w)
  have HT : Aside ((((((w.alloc (.cells #[.int .i64 1, .int .i64 2, .slice none 0 0] 24)).alloc (.cells #[.int .i64 0, .int .i64 0, .int .i64 (-1), .int .i64 0, .int .i64 1, .int .i64 1] 58)).alloc (.cells #[.slice (some ⟨w.heap.size + 1, 0, none⟩) 1 1] 33)).alloc (.cells #[.int .i64 0, .int .i64 0, .int .i64 (-1), .int .i64 0, .int .i64 1, .int .i64 2] 58)).alloc (.cells #[.slice (some ⟨w.heap.size + 1 + 1 + 1, 0, none⟩) 1 1] 33)).heap[w.heap.size]? = some (.cells #[.int .i64 1, .int .i64 2, .slice none 0 0] 24)) := .mk (heapO (heapO (heapO (heapO (heapN _ _ rfl) _) _) _) _)
  have KB : Aside (Below w.heap.size w (((((w.alloc (.cells #[.int .i64 1, .int .i64 2, .slice none 0 0] 24)).alloc (.cells #[.int .i64 0, .int .i64 0, .int .i64 (-1), .int .i64 0, .int .i64 1, .int .i64 1] 58)).alloc (.cells #[.slice (some ⟨w.heap.size + 1, 0, none⟩) 1 1] 33)).alloc (.cells #[.int .i64 0, .int .i64 0, .int .i64 (-1), .int .i64 0, .int .i64 1, .int .i64 2] 58)).alloc (.cells #[.slice (some ⟨w.heap.size + 1 + 1 + 1, 0, none⟩) 1 1] 33))) := .mk (below_alloc (below_alloc (below_alloc (below_alloc (below_alloc (Below.refl _ _) _) _) _) _) _)
  go_enter Try.func16, Try.ntmps16
  go_wp2_with (first
    | (have hfl := HFL; go_at_call 12; clear hfl HFL; refine (confMay_any 1 2 none 0 [] [[rb]] _ 1 _ (Rd.nil _ _ _) HB.out).mono ?_; rw [may12_b]; rintro e w2 ⟨rfl, hb1⟩; clear t0 t1 t2 hlt; have KB := Aside.mk (below_call KB.out hb1); have HA := Aside.mk (HA.out.below hb1); have HB := Aside.mk (HB.out.below hb1); have HT := Aside.mk (blk_keep HT.out hb1); have hlt := blk_lt HT.out; have t0 := blk_cell HT.out 0; have t1 := blk_cell HT.out 1; have t2 := blk_cell HT.out 2; simp at t0 t1 t2; clear hb1; have HFL2 : Aside True := .mk trivial)
    | (go_at_call 12; refine (confMay_any 1 2 none 0 [] [[ra]] _ 1 _ (Rd.nil _ _ _) HA.out).mono ?_; rw [may12_a]; rintro e w1 ⟨rfl, hb1⟩; have KB := Aside.mk (below_call KB.out hb1); have HA := Aside.mk (HA.out.below hb1); have HB := Aside.mk (HB.out.below hb1); have HT := Aside.mk (blk_keep HT.out hb1); have hlt := blk_lt HT.out; have t0 := blk_cell HT.out 0; have t1 := blk_cell HT.out 1; have t2 := blk_cell HT.out 2; simp at t0 t1 t2; clear hb1; have HFL : Aside True := .mk trivial)
    | (go_at_call 18; refine (confMost_any [[ra]] _ 1 _ HA.out).mono ?_; rw [most12]; rintro e w3 ⟨rfl, hw⟩; rw [hw]; clear hw)
    | (have hfl := HFL3; go_at_call 17; clear hfl HFL3; refine (confSame_any [[ra]] [[rb]] _ _ 1 1 _ HA.out HB.out (by simp) (by simp)).mono ?_; rw [same12_b]; rintro e w5 ⟨rfl, hb1⟩; clear t0 t1 t2 hlt; have KB := Aside.mk (below_call KB.out hb1); have HA := Aside.mk (HA.out.below hb1); have HB := Aside.mk (HB.out.below hb1); have HT := Aside.mk (blk_keep HT.out hb1); have hlt := blk_lt HT.out; have t0 := blk_cell HT.out 0; have t1 := blk_cell HT.out 1; have t2 := blk_cell HT.out 2; simp at t0 t1 t2; clear hb1)
    | (have hfl := HFL2; go_at_call 17; clear hfl HFL2; refine (confSame_any [[ra]] [[ra]] _ _ 1 1 _ HA.out HA.out (by simp) (by simp)).mono ?_; rw [same12_a]; rintro e w4 ⟨rfl, hb1⟩; clear t0 t1 t2 hlt; have KB := Aside.mk (below_call KB.out hb1); have HA := Aside.mk (HA.out.below hb1); have HB := Aside.mk (HB.out.below hb1); have HT := Aside.mk (blk_keep HT.out hb1); have hlt := blk_lt HT.out; have t0 := blk_cell HT.out 0; have t1 := blk_cell HT.out 1; have t2 := blk_cell HT.out 2; simp at t0 t1 t2; clear hb1; have HFL3 : Aside True := .mk trivial))
  go_ret
  exact ⟨rfl, KB.out⟩
end Go.Proofs.Ytlnnkkbcmidddaa
