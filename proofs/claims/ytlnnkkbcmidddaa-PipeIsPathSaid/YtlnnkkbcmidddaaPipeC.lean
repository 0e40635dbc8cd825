/- The walk through layer 18's example. -/
import Derived.Test.YtlnnkkbcmidddaaPipeB
import Derived.Test.YtlnnkkbcmidddaaPathT
import Derived.Test.YtlnnkkbcmidddaaPathE
namespace Go.Proofs.Ytlnnkkbcmidddaa
open Go.RowKit
set_option maxRecDepth 100000

theorem shut_pipe : pipeP 2 2 [⟨0, 1, 1, 0⟩] ⟨0, 0, false, 0, 0, [], 0⟩ ⟨0, 0, 0, 0, 0, 0, 0⟩ 3 = (⟨3, 0, 0, 0, 0, 6, 0⟩, noFly) := by decide +kernel
theorem open_pipe : pipeP 2 2 [⟨0, 1, 1, 0⟩] ⟨0, 0, true, 2, 0, [⟨2, [⟨0, 0, -1, 0, 1, 1⟩]⟩], 0⟩ ⟨0, 0, 0, 5, 0, 0, 0⟩ 3 = (⟨3, 0, 0, 0, 2, 0, 1⟩, ⟨0, 0, 0, 4, 2, 1, 0⟩) := by decide +kernel
/-- A table of one version. -/
theorem one_ver {W W1 : World} {A' : Option Addr} {n' g t : Nat} {tag : Int} {l : List Rul} {fr : Nat × Nat} (hl : Rd rulD W A' l.length l) (hn : l.length ≤ n') (h0 : A' = none → n' = 0) (hb : Below W.heap.size W W1) (hg : W1.heap[g]? = some (.cells #[.int .i64 tag, .slice A' l.length n'] t fr)) : Rd verD W1 (some ⟨g, 0, none⟩) 1 [⟨tag, l⟩] :=
  ⟨rfl, by decide, fun _ => ⟨g, 0, rfl, blk_lt hg, fun i x hx => by
    have hi : i = 0 := by
      have := (List.getElem?_eq_some_iff.1 hx).1
      simpa using this
    subst hi
    have hx' : x = ⟨tag, l⟩ := by simpa using hx.symm
    subst hx'
    refine ⟨_, ⟨A', n', rfl, hn, h0, hl.below hb⟩, fun j u hu => ?_⟩
    rw [blk_cell hg]
    simpa using hu⟩⟩

set_option maxHeartbeats 2000000 in
theorem awake18_any (w : World) : Calls Try.prog 11 #[] w fun e w' => e = .returned (.bool true) ∧ Below w.heap.size w w' := by
  have H1 := Aside.mk shut_pipe
  have H2 := Aside.mk open_pipe
  go_enter Try.func11, Try.ntmps11
  go_wp2_with (first
    | (go_at_call 29; refine (two_any _).mono ?_; rintro e w1 ⟨A, B, c, k, rfl, hl, hc, hb⟩; have hX := heap_new w1 (.cells #[.int .i64 2, .int .i64 2, .slice A 1 c] 24) rfl; have hbe : Below w1.heap.size w1 (w1.alloc (.cells #[.int .i64 2, .int .i64 2, .slice A 1 c] 24)) := below_alloc (Below.refl _ _) _; obtain ⟨b, o, A', n', rfl, hbl, hcell, hn1, hn2, hR⟩ := conf_cell (k := 0) hc hbe (by decide); have HL := Aside.mk (hl.below hbe); have HR := Aside.mk (hR.below hbe); have HC0 := Aside.mk hcell; have HBL := Aside.mk (Nat.lt_of_lt_of_le hbl hbe.size); have KB := Aside.mk (below_alloc hb (.cells #[.int .i64 2, .int .i64 2, .slice A 1 c] 24)); have HX := Aside.mk hX; have HN1 := Aside.mk hn1; have HN2 := Aside.mk hn2; clear hl hc hb hX hbe hcell hn1 hn2 hR hbl)
    | (have hfl := HFL; clear hfl; go_at_call 14; refine (pipe_any 2 2 A c [⟨0, 1, 1, 0⟩] ⟨0, 0, true, 2, 0, [⟨2, [⟨0, 0, -1, 0, 1, 1⟩]⟩], 0⟩ (some ⟨w2.heap.size + 1 + 1, 0, none⟩) 1 ⟨0, 0, 0, 5, 0, 0, 0⟩ 3 _ (HL.out.below (below_alloc (below_alloc (below_alloc (below_alloc (Below.refl _ _) (.cells #[.int .i64 3, .int .i64 0, .int .i64 0, .int .i64 0, .int .i64 0, .int .i64 6, .int .i64 0] 41)) (.cells #[.int .i64 0, .int .i64 0, .int .i64 0, .int .i64 0, .int .i64 0, .int .i64 0, .int .i64 0] 30)) (.cells #[.int .i64 2, .slice A' 1 n'] 36)) (.cells #[.int .i64 0, .int .i64 0, .bool true, .int .i64 2, .int .i64 0, .slice (some ⟨w2.heap.size + 1 + 1, 0, none⟩) 1 1, .int .i64 0] 39))) (one_ver HR.out HN1.out HN2.out (below_alloc (below_alloc (below_alloc (below_alloc (Below.refl _ _) (.cells #[.int .i64 3, .int .i64 0, .int .i64 0, .int .i64 0, .int .i64 0, .int .i64 6, .int .i64 0] 41)) (.cells #[.int .i64 0, .int .i64 0, .int .i64 0, .int .i64 0, .int .i64 0, .int .i64 0, .int .i64 0] 30)) (.cells #[.int .i64 2, .slice A' 1 n'] 36)) (.cells #[.int .i64 0, .int .i64 0, .bool true, .int .i64 2, .int .i64 0, .slice (some ⟨w2.heap.size + 1 + 1, 0, none⟩) 1 1, .int .i64 0] 39)) (heap_old (heap_new _ (.cells #[.int .i64 2, .slice A' 1 n'] 36) (by simp)) (.cells #[.int .i64 0, .int .i64 0, .bool true, .int .i64 2, .int .i64 0, .slice (some ⟨w2.heap.size + 1 + 1, 0, none⟩) 1 1, .int .i64 0] 39))) (by decide)).mono ?_; rw [H2.out]; dsimp only; rintro e w3 ⟨rfl, hb⟩; have KB := Aside.mk (below_call (below_alloc (below_alloc (below_alloc (below_alloc KB.out _) _) _) _) hb); have HB := Aside.mk (blk_keep (heap_old (heap_old (heap_old (heap_new w2 (.cells #[.int .i64 3, .int .i64 0, .int .i64 0, .int .i64 0, .int .i64 0, .int .i64 6, .int .i64 0] 41) rfl) (.cells #[.int .i64 0, .int .i64 0, .int .i64 0, .int .i64 0, .int .i64 0, .int .i64 0, .int .i64 0] 30)) (.cells #[.int .i64 2, .slice A' 1 n'] 36)) (.cells #[.int .i64 0, .int .i64 0, .bool true, .int .i64 2, .int .i64 0, .slice (some ⟨w2.heap.size + 1 + 1, 0, none⟩) 1 1, .int .i64 0] 39)) hb); have p0 := blk_cell HB.out 0; have p5 := blk_cell HB.out 5; simp at p0 p5; have hlh := blk_lt HB.out; clear hb)
    | (go_at_call 14; refine (pipe_any 2 2 A c [⟨0, 1, 1, 0⟩] ⟨0, 0, false, 0, 0, [], 0⟩ none 0 ⟨0, 0, 0, 0, 0, 0, 0⟩ 3 _ HL.out (Rd.nil _ _ _) (by decide)).mono ?_; rw [H1.out]; dsimp only [noFly]; rintro e w2 ⟨rfl, hb⟩; have KB := Aside.mk (below_call KB.out hb); have HX := Aside.mk (blk_keep HX.out hb); have HL := Aside.mk (HL.out.below hb); have HR := Aside.mk (HR.out.below hb); have e0 := (hb.cell (p := ⟨b, o, none⟩) HBL.out).trans HC0.out; have hbl := Nat.lt_of_lt_of_le HBL.out hb.size; have x0 := blk_cell HX.out 0; have x1 := blk_cell HX.out 1; have x2 := blk_cell HX.out 2; simp at x0 x1 x2 e0; have hlx := blk_lt HX.out; have hlx1 : w1.heap.size < w2.heap.size + 1 := (by omega); have hlx2 : w1.heap.size < w2.heap.size + 1 + 1 := (by omega); have hlx3 : w1.heap.size < w2.heap.size + 1 + 1 + 1 := (by omega); have hbl1 : b < w2.heap.size + 1 := (by omega); have HFL : Aside True := .mk trivial; clear hb))
  go_ret
  exact ⟨rfl, below_alloc (below_alloc KB.out _) _⟩
end Go.Proofs.Ytlnnkkbcmidddaa
