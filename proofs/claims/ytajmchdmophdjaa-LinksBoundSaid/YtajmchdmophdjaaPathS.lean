/- The walk through path.Step. -/
import Derived.Test.YtajmchdmophdjaaPathP
import Derived.Test.YtajmchdmophdjaaTopoF
import Derived.Test.YtajmchdmophdjaaTopoL
import Derived.Test.YtajmchdmophdjaaOpen
namespace Go.Proofs.Ytajmchdmophdjaa
open Go.RowKit
set_option maxRecDepth 100000

abbrev hopC (h : Hop) : Array Value := #[.int .i64 h.tick, .int .i64 h.id, .int .i64 h.sw, .int .i64 h.inn, .int .i64 h.tag, .int .i64 h.what, .int .i64 h.out]
abbrev flyC (f : Fly) : Array Value := #[.int .i64 f.id, .int .i64 f.src, .int .i64 f.dst, .int .i64 f.ttl, .int .i64 f.tag, .int .i64 f.sw, .int .i64 f.inn]
/-- What stands behind the frame of a step. -/
structure StepK (s p : Int) (A : Option Addr) (c : Nat) (ls : List Lnk) (f : Fly) (h : Hop) (w W : World) : Prop where
  kb : Below w.heap.size w W
  k0 : W.heap[w.heap.size]? = some (.cells #[.int .i64 s, .int .i64 p, .slice A ls.length c] 24)
  k1 : W.heap[w.heap.size + 1]? = some (.cells #[.int .i64 f.id, .int .i64 f.src, .int .i64 f.dst, .int .i64 f.ttl, .int .i64 f.tag, .int .i64 f.sw, .int .i64 f.inn] 38)
  k2 : W.heap[w.heap.size + 1 + 1]? = some (.cells #[.int .i64 0, .int .i64 0, .int .i64 0, .int .i64 0, .int .i64 0, .int .i64 0, .int .i64 0] 40)
  k3 : W.heap[w.heap.size + 1 + 1 + 1]? = some (.cells #[.int .i64 0, .int .i64 0, .int .i64 0, .int .i64 0, .int .i64 0, .int .i64 0, .int .i64 0] 38)
  k4 : W.heap[w.heap.size + 1 + 1 + 1 + 1]? = some (.cells #[.int .i64 h.tick, .int .i64 h.id, .int .i64 h.sw, .int .i64 h.inn, .int .i64 h.tag, .int .i64 h.what, .int .i64 h.out] 40)
  ks : w.heap.size + 1 + 1 + 1 + 1 + 1 ≤ W.heap.size
theorem heap_new (W : World) (o : Obj) {i : Nat} (h : i = W.heap.size) : (W.alloc o).heap[i]? = some o := by rw [heap_at, if_pos h]
theorem heap_old {W : World} {x : Obj} {i : Nat} (h : W.heap[i]? = some x) (o : Obj) : (W.alloc o).heap[i]? = some x := blk_keep h ((Below.refl _ _).alloc (Nat.le_refl _) o)
theorem StepK.start (s p : Int) (A : Option Addr) (c : Nat) (ls : List Lnk) (f : Fly) (w : World) : StepK s p A c ls f (hopAt f 0 0) w (((((w.alloc (.cells #[.int .i64 s, .int .i64 p, .slice A ls.length c] 24)).alloc (.cells #[.int .i64 f.id, .int .i64 f.src, .int .i64 f.dst, .int .i64 f.ttl, .int .i64 f.tag, .int .i64 f.sw, .int .i64 f.inn] 38)).alloc (.cells #[.int .i64 0, .int .i64 0, .int .i64 0, .int .i64 0, .int .i64 0, .int .i64 0, .int .i64 0] 40)).alloc (.cells #[.int .i64 0, .int .i64 0, .int .i64 0, .int .i64 0, .int .i64 0, .int .i64 0, .int .i64 0] 38)).alloc (.cells #[.int .i64 0, .int .i64 f.id, .int .i64 f.sw, .int .i64 f.inn, .int .i64 f.tag, .int .i64 0, .int .i64 0] 40)) :=
  ⟨below_alloc (below_alloc (below_alloc (below_alloc (below_alloc (Below.refl _ _) _) _) _) _) _, heap_old (heap_old (heap_old (heap_old (heap_new _ _ rfl) _) _) _) _, heap_old (heap_old (heap_old (heap_new _ _ (by simp)) _) _) _, heap_old (heap_old (heap_new _ _ (by simp)) _) _, heap_old (heap_new _ _ (by simp)) _, heap_new _ _ (by simp), by simp⟩
section
variable {s p : Int} {A : Option Addr} {c : Nat} {ls : List Lnk} {f : Fly} {h : Hop} {w W W' : World}
theorem StepK.call (k : StepK s p A c ls f h w W) (hb : Below W.heap.size W W') : StepK s p A c ls f h w W' :=
  ⟨below_call k.kb hb, blk_keep k.k0 hb, blk_keep k.k1 hb, blk_keep k.k2 hb, blk_keep k.k3 hb, blk_keep k.k4 hb, Nat.le_trans k.ks hb.size⟩
theorem StepK.what (k : StepK s p A c ls f h w W) (x : Int) : StepK s p A c ls f { h with what := x } w (W.setCell ⟨w.heap.size + 1 + 1 + 1 + 1, 5, none⟩ (.int .i64 x)) :=
  ⟨below_set k.kb (by simp; omega) _, blk_far k.k0 (by simp; omega) _, blk_far k.k1 (by simp) _, blk_far k.k2 (by simp) _, blk_far k.k3 (by simp) _, blk_set k.k4 5 _, by simpa using k.ks⟩
theorem StepK.out (k : StepK s p A c ls f h w W) (x : Int) : StepK s p A c ls f { h with out := x } w (W.setCell ⟨w.heap.size + 1 + 1 + 1 + 1, 6, none⟩ (.int .i64 x)) :=
  ⟨below_set k.kb (by simp; omega) _, blk_far k.k0 (by simp; omega) _, blk_far k.k1 (by simp) _, blk_far k.k2 (by simp) _, blk_far k.k3 (by simp) _, blk_set k.k4 6 _, by simpa using k.ks⟩
theorem StepK.fsw (k : StepK s p A c ls f h w W) (x : Int) : StepK s p A c ls { f with sw := x } h w (W.setCell ⟨w.heap.size + 1, 5, none⟩ (.int .i64 x)) :=
  ⟨below_set k.kb (by simp) _, blk_far k.k0 (by simp) _, blk_set k.k1 5 _, blk_far k.k2 (by simp) _, blk_far k.k3 (by simp; omega) _, blk_far k.k4 (by simp; omega) _, by simpa using k.ks⟩
theorem StepK.finn (k : StepK s p A c ls f h w W) (x : Int) : StepK s p A c ls { f with inn := x } h w (W.setCell ⟨w.heap.size + 1, 6, none⟩ (.int .i64 x)) :=
  ⟨below_set k.kb (by simp) _, blk_far k.k0 (by simp) _, blk_set k.k1 6 _, blk_far k.k2 (by simp) _, blk_far k.k3 (by simp; omega) _, blk_far k.k4 (by simp; omega) _, by simpa using k.ks⟩
theorem StepK.fttl (k : StepK s p A c ls f h w W) (x : Int) : StepK s p A c ls { f with ttl := x } h w (W.setCell ⟨w.heap.size + 1, 3, none⟩ (.int .i64 x)) :=
  ⟨below_set k.kb (by simp) _, blk_far k.k0 (by simp) _, blk_set k.k1 3 _, blk_far k.k2 (by simp) _, blk_far k.k3 (by simp; omega) _, blk_far k.k4 (by simp; omega) _, by simpa using k.ks⟩
end

end Go.Proofs.Ytajmchdmophdjaa
