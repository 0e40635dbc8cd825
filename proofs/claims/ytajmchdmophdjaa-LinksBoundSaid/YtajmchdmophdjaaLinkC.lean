/- The walk through layer 19's example. -/
import Derived.Test.YtajmchdmophdjaaPipeC
import Derived.Test.YtajmchdmophdjaaLinkS
namespace Go.Proofs.Ytajmchdmophdjaa
open Go.RowKit
set_option maxRecDepth 100000

/-- Five packets, of which the first k have their TTL. -/
def flyT : Nat → Array Value
  | 0 => Array.replicate 35 (.int .i64 0)
  | k + 1 => (flyT k).setIfInBounds (k * 7 + 3) (.int .i64 3)
theorem flyT_size (k : Nat) : (flyT k).size = 35 := by
  induction k with
  | zero => rfl
  | succ k ih => unfold flyT; rw [Array.size_setIfInBounds, ih]
abbrev fly5 : List Fly := List.replicate 5 ⟨0, 0, 0, 3, 0, 0, 0⟩
theorem flyT_done : (flyT 5).toList = fly5.flatMap flyF.enc := by kernel_rfl
abbrev sw19 : Swt := ⟨0, 0, true, 2, 0, [⟨2, [⟨0, 0, -1, 0, 1, 1⟩]⟩], 0⟩
theorem links19_len : (linksP 2 2 [⟨0, 1, 1, 0⟩] [sw19, sw19] fly5 0).1.length = 4 ∧ (linksP 2 2 [⟨0, 1, 1, 0⟩] [sw19, sw19] fly5 0).2.map (·.what) = [0, 0, 0, 0, 7] := by decide +kernel
theorem links19 : ∃ (G : List Fly) (H : List Hop), linksP 2 2 [⟨0, 1, 1, 0⟩] [sw19, sw19] fly5 0 = (G, H) ∧ G.length = 4 ∧ H.length = 5 ∧ (∀ h : 3 < H.length, H[3].what = 0) ∧ ∀ h : 4 < H.length, H[4].what = 7 := by
  obtain ⟨h1, h2⟩ := links19_len
  generalize linksP 2 2 [⟨0, 1, 1, 0⟩] [sw19, sw19] fly5 0 = q at h1 h2 ⊢
  obtain ⟨G, H⟩ := q
  dsimp only at h1 h2
  refine ⟨G, H, rfl, h1, by simpa using congrArg List.length h2, fun h => ?_, fun h => ?_⟩
  · have := congrArg (fun l : List Int => l[3]?) h2
    simpa [h] using this
  · have := congrArg (fun l : List Int => l[4]?) h2
    simpa [h] using this
theorem fly5_fit : ∀ x ∈ fly5, Fit x.ttl := by
  intro x hx
  obtain rfl := List.eq_of_mem_replicate hx
  decide
/-- A block of such elements. -/
theorem Rd.blk {α : Type} (f : Flat α) {w : World} {b : Nat} {cs : Array Value} {t : TypeId} {fr : Nat × Nat} (hb : w.heap[b]? = some (.cells cs t fr)) (xs : List α) (hcs : cs.toList = xs.flatMap f.enc) (hm : xs.length ≤ 9223372036854775807) : Rd f.kd w (some ⟨b, 0, none⟩) xs.length xs :=
  ⟨rfl, hm, fun _ => ⟨b, 0, rfl, blk_lt hb, fun i x hx => ⟨f.enc x, rfl, fun j u hu => by
    have h1 := f.at_all xs i x hx j u hu
    have hk : f.kd.sz = f.sz := rfl
    rw [blk_cell hb, hk, Nat.zero_add]
    rw [← hcs] at h1
    simpa using h1⟩⟩⟩
/-- A block of switches. -/
theorem two_sw {W1 : World} {V : Option Addr} {cV g t : Nat} {vs : List Vr} {fr : Nat × Nat} (e s2 : Int) (op : Bool) (st bd jk : Int) (hv : Rd verD W1 V vs.length vs) (hn : vs.length ≤ cV) (h0 : V = none → cV = 0)
    (hg : W1.heap[g]? = some (.cells #[.int .i64 e, .int .i64 s2, .bool op, .int .i64 st, .int .i64 bd, .slice V vs.length cV, .int .i64 jk, .int .i64 e, .int .i64 s2, .bool op, .int .i64 st, .int .i64 bd, .slice V vs.length cV, .int .i64 jk] t fr)) :
    Rd swD W1 (some ⟨g, 0, none⟩) 2 [⟨e, s2, op, st, bd, vs, jk⟩, ⟨e, s2, op, st, bd, vs, jk⟩] :=
  ⟨rfl, by decide, fun _ => ⟨g, 0, rfl, blk_lt hg, fun i x hx => by
    have hi : i < 2 := (List.getElem?_eq_some_iff.1 hx).1
    have hx' : x = ⟨e, s2, op, st, bd, vs, jk⟩ := by
      match i, hi with
      | 0, _ => simpa using hx.symm
      | 1, _ => simpa using hx.symm
    subst hx'
    refine ⟨_, ⟨V, cV, rfl, hn, h0, hv⟩, fun j u hu => ?_⟩
    have hj : j < 7 := (List.getElem?_eq_some_iff.1 hu).1
    rw [blk_cell hg]
    match i, hi, j, hj with
    | 0, _, 0, _ | 0, _, 1, _ | 0, _, 2, _ | 0, _, 3, _ | 0, _, 4, _ | 0, _, 5, _ | 0, _, 6, _ => simpa [swD] using hu
    | 1, _, 0, _ | 1, _, 1, _ | 1, _, 2, _ | 1, _, 3, _ | 1, _, 4, _ | 1, _, 5, _ | 1, _, 6, _ => simpa [swD] using hu⟩⟩

theorem make5 (w : World) : (Instr.makeSlice 26 (.int .i64 5) (.int .i64 5)).run Try.prog w = .ok (.slice (some ⟨w.heap.size, 0, none⟩) 5 5) (w.alloc (.cells (flyT 0) 38)) := by kernel_rfl

set_option maxHeartbeats 2000000 in
theorem awake19_any (w : World) : Calls Try.prog 7 #[] w fun e w' => e = .returned (.bool true) ∧ Below w.heap.size w w' := by
  have hmk := make5
  go_enter Try.func7, Try.ntmps7
  go_wp2_with (go_at_call 14; refine (two_any _).mono ?_; rintro e w1 ⟨A, B, c, k, rfl, hl, hc, hb⟩; have hX := heap_new w1 (.cells #[.int .i64 2, .int .i64 2, .slice A 1 c] 24) rfl; have hbe : Below w1.heap.size w1 (w1.alloc (.cells #[.int .i64 2, .int .i64 2, .slice A 1 c] 24)) := below_alloc (Below.refl _ _) _; obtain ⟨b, o, A', n', rfl, hbl, hcell, hn1, hn2, hR⟩ := conf_cell (k := 0) hc hbe (by decide); have HL := Aside.mk (hl.below hbe); have HR := Aside.mk (hR.below hbe); have e0 := hcell; simp at e0; have HBL := Aside.mk (Nat.lt_of_lt_of_le hbl hbe.size); have KB := Aside.mk (below_alloc hb (.cells #[.int .i64 2, .int .i64 2, .slice A 1 c] 24)); have HX := Aside.mk hX; have HN1 := Aside.mk hn1; have HN2 := Aside.mk hn2; clear hl hc hb hX hbe hcell hn1 hn2 hR hbl)
  have HVr : Aside (Rd verD _ _ 1 [⟨2, [⟨0, 0, -1, 0, 1, 1⟩]⟩]) := Aside.mk (one_ver (tag := 2) HR.out HN1.out HN2.out (below_alloc (below_alloc (Below.refl _ _) (.cells #[.int .i64 2, .slice A' 1 n'] 53)) (.cells #[.int .i64 0, .int .i64 0, .bool true, .int .i64 2, .int .i64 0, .slice (some ⟨w1.heap.size + 1, 0, none⟩) 1 1, .int .i64 0] 45)) (heap_old (heap_new _ (.cells #[.int .i64 2, .slice A' 1 n'] 53) rfl) (.cells #[.int .i64 0, .int .i64 0, .bool true, .int .i64 2, .int .i64 0, .slice (some ⟨w1.heap.size + 1, 0, none⟩) 1 1, .int .i64 0] 45)))
  have HL := Aside.mk (HL.out.below (below_alloc (below_alloc (Below.refl _ _) (.cells #[.int .i64 2, .slice A' 1 n'] 53)) (.cells #[.int .i64 0, .int .i64 0, .bool true, .int .i64 2, .int .i64 0, .slice (some ⟨w1.heap.size + 1, 0, none⟩) 1 1, .int .i64 0] 45)))
  have HX := Aside.mk (heap_old (heap_old HX.out (.cells #[.int .i64 2, .slice A' 1 n'] 53)) (.cells #[.int .i64 0, .int .i64 0, .bool true, .int .i64 2, .int .i64 0, .slice (some ⟨w1.heap.size + 1, 0, none⟩) 1 1, .int .i64 0] 45))
  have HS := Aside.mk (heap_new ((w1.alloc (.cells #[.int .i64 2, .int .i64 2, .slice A 1 c] 24)).alloc (.cells #[.int .i64 2, .slice A' 1 n'] 53)) (.cells #[.int .i64 0, .int .i64 0, .bool true, .int .i64 2, .int .i64 0, .slice (some ⟨w1.heap.size + 1, 0, none⟩) 1 1, .int .i64 0] 45) rfl)
  have KB := Aside.mk (below_alloc (below_alloc KB.out (.cells #[.int .i64 2, .slice A' 1 n'] 53)) (.cells #[.int .i64 0, .int .i64 0, .bool true, .int .i64 2, .int .i64 0, .slice (some ⟨w1.heap.size + 1, 0, none⟩) 1 1, .int .i64 0] 45))
  have hsz : (((w1.alloc (.cells #[.int .i64 2, .int .i64 2, .slice A 1 c] 24)).alloc (.cells #[.int .i64 2, .slice A' 1 n'] 53)).alloc (.cells #[.int .i64 0, .int .i64 0, .bool true, .int .i64 2, .int .i64 0, .slice (some ⟨w1.heap.size + 1, 0, none⟩) 1 1, .int .i64 0] 45)).heap.size = w1.heap.size + 1 + 1 + 1 := by simp
  simp only [World.size_alloc] at HS HVr
  clear HR HN1 HN2 HBL e0
  generalize ((w1.alloc (.cells #[.int .i64 2, .int .i64 2, .slice A 1 c] 24)).alloc (.cells #[.int .i64 2, .slice A' 1 n'] 53)).alloc (.cells #[.int .i64 0, .int .i64 0, .bool true, .int .i64 2, .int .i64 0, .slice (some ⟨w1.heap.size + 1, 0, none⟩) 1 1, .int .i64 0] 45) = W3 at *
  go_loopw [5] (fun i wr => ∃ j : Nat, j ≤ 5 ∧ i = .int .i64 j ∧ Below W3.heap.size W3 wr ∧ wr.heap[W3.heap.size]? = some (.cells (flyT j) 38)) (fun i _ => 5 - (intOf i).toNat)
  case atStart => exact ⟨0, by omega, rfl, below_alloc (Below.refl _ _) _, heap_new W3 _ rfl⟩
  case round =>
    obtain ⟨j, hj, rfl, hb, hf⟩ := hrel
    have HB := Aside.mk hb
    have HF := Aside.mk hf
    rw [hsz] at hf
    by_cases hlt : j < 5
    · obtain ⟨u, hu⟩ : ∃ u, (flyT j)[j * 7 + 3]? = some u := ⟨_, Array.getElem?_eq_getElem (by rw [flyT_size]; omega)⟩
      have c0 := (blk_cell hf (j * 7 + 3)).trans hu
      have cf := fun i => blk_frozen hf i
      have hl := blk_lt hf
      clear hb hf hu hmk
      go_wp2
      exact ⟨⟨j + 1, by omega, by go_num, HB.out.setCell (by show W3.heap.size ≤ w1.heap.size + 1 + 1 + 1; omega) _, by rw [hsz]; rw [hsz] at HF; exact blk_set HF.out _ _⟩, by simp [intOf]; omega⟩
    · obtain rfl : j = 5 := by omega
      clear hf hmk
      have HL := Aside.mk (HL.out.below hb)
      have HV := Aside.mk (HVr.out.below hb)
      have HX := Aside.mk (blk_keep HX.out hb)
      have HS := Aside.mk (blk_keep HS.out hb)
      have KB := Aside.mk (below_call KB.out hb)
      have x0 := blk_cell HX.out 0
      have x1 := blk_cell HX.out 1
      have x2 := blk_cell HX.out 2
      have s0 := blk_cell HS.out 0
      have s1 := blk_cell HS.out 1
      have s2 := blk_cell HS.out 2
      have s3 := blk_cell HS.out 3
      have s4 := blk_cell HS.out 4
      have s5 := blk_cell HS.out 5
      have s6 := blk_cell HS.out 6
      simp at x0 x1 x2 s0 s1 s2 s3 s4 s5 s6
      have HV2 := Aside.mk (two_sw (V := some ⟨w1.heap.size + 1, 0, none⟩) (cV := 1) (vs := [⟨2, [⟨0, 0, -1, 0, 1, 1⟩]⟩]) 0 0 true 2 0 0 (HV.out.below (alloc_below wr (.cells #[.int .i64 0, .int .i64 0, .bool true, .int .i64 2, .int .i64 0, .slice (some ⟨w1.heap.size + 1, 0, none⟩) 1 1, .int .i64 0, .int .i64 0, .int .i64 0, .bool true, .int .i64 2, .int .i64 0, .slice (some ⟨w1.heap.size + 1, 0, none⟩) 1 1, .int .i64 0] 45))) (by decide) (fun h => by cases h) (heap_new wr (.cells #[.int .i64 0, .int .i64 0, .bool true, .int .i64 2, .int .i64 0, .slice (some ⟨w1.heap.size + 1, 0, none⟩) 1 1, .int .i64 0, .int .i64 0, .int .i64 0, .bool true, .int .i64 2, .int .i64 0, .slice (some ⟨w1.heap.size + 1, 0, none⟩) 1 1, .int .i64 0] 45) rfl))
      have HF := Aside.mk ((Rd.blk flyF HF.out fly5 flyT_done (by decide)).below (alloc_below wr (.cells #[.int .i64 0, .int .i64 0, .bool true, .int .i64 2, .int .i64 0, .slice (some ⟨w1.heap.size + 1, 0, none⟩) 1 1, .int .i64 0, .int .i64 0, .int .i64 0, .bool true, .int .i64 2, .int .i64 0, .slice (some ⟨w1.heap.size + 1, 0, none⟩) 1 1, .int .i64 0] 45)))
      rw [hsz] at HF
      obtain ⟨G, H, hGH, hG, hH, h3, h4⟩ := links19
      have HGH := Aside.mk hGH
      have H3 := Aside.mk h3
      have H4 := Aside.mk h4
      have dG : ((G.length : Int) == 4) = true := by rw [hG]; rfl
      have dH : ((H.length : Int) == 5) = true := by rw [hH]; rfl
      clear hb hG hGH h3 h4
      go_wp2_with (go_at_call 9; refine (links_any 2 2 A c [⟨0, 1, 1, 0⟩] [sw19, sw19] (some ⟨wr.heap.size, 0, none⟩) 2 fly5 (some ⟨w1.heap.size + 1 + 1 + 1, 0, none⟩) 5 0 _ (HL.out.below (alloc_below wr (.cells #[.int .i64 0, .int .i64 0, .bool true, .int .i64 2, .int .i64 0, .slice (some ⟨w1.heap.size + 1, 0, none⟩) 1 1, .int .i64 0, .int .i64 0, .int .i64 0, .bool true, .int .i64 2, .int .i64 0, .slice (some ⟨w1.heap.size + 1, 0, none⟩) 1 1, .int .i64 0] 45))) HV2.out HF.out fly5_fit (by decide)).mono ?_; rw [HGH.out]; dsimp only; rintro e w4 ⟨v, u, rfl, ho1, ho2, hb4⟩; obtain ⟨A1, k1, rfl, -, -⟩ := ho1.rd; obtain ⟨A2, k2, rfl, -, hr2⟩ := ho2.rd; have KB := Aside.mk (below_call (below_alloc KB.out _) hb4); obtain ⟨b2, o2, _, rfl, -⟩ := Row.at hr2 3 (by omega); obtain ⟨-, -, -, -, -, -, p5, -⟩ := hop_cells hr2 (Below.refl _ _) (k := 3) (by omega); obtain ⟨-, -, -, -, -, -, q5, -⟩ := hop_cells hr2 (Below.refl _ _) (k := 4) (by omega); rw [H3.out] at p5; rw [H4.out] at q5; simp at p5 q5; clear ho1 ho2 hb4 hr2)
      go_ret
      exact ⟨rfl, KB.out⟩
end Go.Proofs.Ytajmchdmophdjaa
