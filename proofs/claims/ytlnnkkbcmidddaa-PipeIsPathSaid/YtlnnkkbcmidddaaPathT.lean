/- The walk through the two switches of layer 13's example. -/
import Derived.Test.YtlnnkkbcmidddaaPathP
import Derived.Test.YtlnnkkbcmidddaaTopoF
namespace Go.Proofs.Ytlnnkkbcmidddaa
open Go.RowKit
set_option maxRecDepth 100000

def lnkF : Flat Lnk where
  enc l := [.int .i64 l.a, .int .i64 l.pa, .int .i64 l.b, .int .i64 l.pb]
  sz := 4
  len _ := rfl
  one _ u hu := by simp at hu; rcases hu with rfl | rfl | rfl | rfl <;> rfl
  pos := by decide
theorem two_any (w : World) : Calls Try.prog 29 #[] w fun e w' => ∃ A B c k, e = .returned (.tuple #[.agg #[.int .i64 2, .int .i64 2, .slice A 1 c], .slice B 2 k]) ∧ Rd lnkD w' A 1 [⟨0, 1, 1, 0⟩] ∧ Rd confD w' B 2 [[⟨0, 0, -1, 0, 1, 1⟩], [⟨0, 0, -1, 0, 1, 1⟩]] ∧ Below w.heap.size w w' := by
  go_enter Try.func29, Try.ntmps29
  go_wp2_with fail
  have hR := Rd.made rulF (w.alloc (.cells #[.int .i64 2, .int .i64 2, .slice (some ⟨w.heap.size + 1 + 1, 0, none⟩) 1 1] 24)) #[.int .i64 0, .int .i64 0, .int .i64 (-1), .int .i64 0, .int .i64 1, .int .i64 1] 58 (0, 0) [⟨0, 0, -1, 0, 1, 1⟩] rfl (by decide)
  have hL := Rd.made lnkF ((w.alloc (.cells #[.int .i64 2, .int .i64 2, .slice (some ⟨w.heap.size + 1 + 1, 0, none⟩) 1 1] 24)).alloc (.cells #[.int .i64 0, .int .i64 0, .int .i64 (-1), .int .i64 0, .int .i64 1, .int .i64 1] 58)) #[.int .i64 0, .int .i64 1, .int .i64 1, .int .i64 0] 83 (0, 0) [⟨0, 1, 1, 0⟩] rfl (by decide)
  simp only [World.size_alloc] at hR hL
  have hR2 := (hR.below ((Below.refl _ _).alloc (Nat.le_refl _) (.cells #[.int .i64 0, .int .i64 1, .int .i64 1, .int .i64 0] 83)))
  have hR3 := hR2.below ((Below.refl _ _).alloc (Nat.le_refl _) (.cells #[.slice (some ⟨w.heap.size + 1, 0, none⟩) 1 1, .slice (some ⟨w.heap.size + 1, 0, none⟩) 1 1] 33))
  have hL3 := hL.below ((Below.refl _ _).alloc (Nat.le_refl _) (.cells #[.slice (some ⟨w.heap.size + 1, 0, none⟩) 1 1, .slice (some ⟨w.heap.size + 1, 0, none⟩) 1 1] 33))
  refine bodyPost_ret (v := .tuple #[.agg #[.int .i64 2, .int .i64 2, .slice (some ⟨w.heap.size + 1 + 1, 0, none⟩) 1 1], .slice (some ⟨w.heap.size + 1 + 1 + 1, 0, none⟩) 2 2]) (by simp [results, Try.results29, go_sem]) rfl ⟨_, _, _, _, rfl, hL3, ⟨rfl, by decide, fun _ => ⟨_, 0, rfl, by simp, fun i x hx => ⟨[.slice (some ⟨w.heap.size + 1, 0, none⟩) 1 1], ?_, ?_⟩⟩⟩, below_alloc (below_alloc (below_alloc (below_alloc (Below.refl _ _) _) _) _) _⟩
  · have hx' : x = [⟨0, 0, -1, 0, 1, 1⟩] := by
      match i, hx with
      | 0, hx => simpa using hx.symm
      | 1, hx => simpa using hx.symm
      | i + 2, hx => simp at hx
    subst hx'
    exact ⟨_, 1, rfl, Nat.le_refl _, (fun h => by cases h), hR3⟩
  · intro j u hu
    have hj : j = 0 := by
      have := (List.getElem?_eq_some_iff.1 hu).1
      simpa using this
    subst hj
    have hu' : u = .slice (some ⟨w.heap.size + 1, 0, none⟩) 1 1 := by simpa using hu.symm
    subst hu'
    have hi : i < 2 := (List.getElem?_eq_some_iff.1 hx).1
    have hb : ∀ W : World, W.heap.size = w.heap.size + 1 + 1 + 1 → (W.alloc (.cells #[.slice (some ⟨w.heap.size + 1, 0, none⟩) 1 1, .slice (some ⟨w.heap.size + 1, 0, none⟩) 1 1] 33)).cell? ⟨w.heap.size + 1 + 1 + 1, 0 + (i * 1 + 0), none⟩ = some (.slice (some ⟨w.heap.size + 1, 0, none⟩) 1 1) := fun W hW => by
      rw [blk_cell (t := 33) (fr := (0, 0)) (by rw [heap_at, if_pos hW.symm])]
      match i, hi with
      | 0, _ => rfl
      | 1, _ => rfl
    exact hb _ (by simp)
end Go.Proofs.Ytlnnkkbcmidddaa
