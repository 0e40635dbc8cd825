/- The walk through links.Step. -/
import Derived.Test.YtajmchdmophdjaaLinkR
import Derived.Test.YtajmchdmophdjaaRegionK
import Derived.Test.YtajmchdmophdjaaMapI
namespace Go.Proofs.Ytajmchdmophdjaa
open Go.RowKit
set_option maxRecDepth 100000

abbrev pairV (e : Int × Int) : Value := .agg #[.int .i64 e.1, .int .i64 e.2]
abbrev intV (n : Int) : Value := .int .i64 n
theorem zeroI (w : World) : (zeroValue 3).run Try.prog w = .ok (intV 0) w := by kernel_rfl
theorem eqPair (w : World) (x y : Int × Int) : (Op.equal 56 (pairV x) (pairV y)).run Try.prog w = .ok (decide (x = y)) w := by
  have u3 := Try.underlying3
  have a3 := Try.isAgg3
  have z3 := Try.sizeOf3
  unfold Op.equal Op.maxDepth
  rw [show (10000 : Nat) = 9999 + 1 from rfl, Op.equalIn]
  simp only [Sem.run_bind, run_underlying Try.underlying56, Result.andThen_ok]
  simp only [Std.Legacy.Range.forIn_eq_forIn_range', Std.Legacy.Range.size, Nat.sub_zero, Nat.add_sub_cancel, Nat.div_one, List.range'_succ, List.range'_zero, List.forIn_cons, List.forIn_nil]
  go_simp
  obtain ⟨a, b⟩ := x
  obtain ⟨c, e⟩ := y
  by_cases h1 : a = c <;> by_cases h2 : b = e <;> simp [h1, h2]
theorem chkI (w : World) (em : Bool) (n : Nat) (x : Int) : (Instr.checkKey em (n + 1) 3 (.int .i64 x)).run Try.prog w = .ok () w := by
  simp only [Instr.checkKey, Sem.run_bind, run_underlying Try.underlying3, Result.andThen_ok, Sem.run_pure]
theorem chkPair' (w : World) (em : Bool) (n : Nat) (x : Int × Int) : (Instr.checkKey em (n + 1 + 1) 56 (pairV x)).run Try.prog w = .ok () w := by
  have u3 := Try.underlying3
  have a3 := Try.isAgg3
  have z3 := Try.sizeOf3
  have c3 := fun (w : World) (x : Int) => chkI w em n x
  rw [Instr.checkKey]
  simp only [Sem.run_bind, run_underlying Try.underlying56, Result.andThen_ok]
  simp only [Std.Legacy.Range.forIn_eq_forIn_range', Std.Legacy.Range.size, Nat.sub_zero, Nat.add_sub_cancel, Nat.div_one, List.range'_succ, List.range'_zero, List.forIn_cons, List.forIn_nil]
  go_simp
theorem chkPair (w : World) (em : Bool) (x : Int × Int) : (Instr.checkKey em 10000 56 (pairV x)).run Try.prog w = .ok () w := chkPair' w em 9998 x
theorem keyPair : KeyT Try.prog 56 pairV :=
  KeyT.ofAgg Try.underlying56 (fun a b h => by
      simp at h
      exact Prod.ext h.1 h.2)
    (fun a b => by simp [Instr.sameNow]) chkPair eqPair (fun k => by simp [Instr.sameBits])
theorem alloc_below (w : World) (o : Obj) : Below w.heap.size w (w.alloc o) := (Below.refl _ _).alloc (Nat.le_refl _) o
theorem sw7_keep {W W' : World} {b o : Nat} {v0 v1 v2 v3 v4 v5 v6 : Value} (h : W.cell? ⟨b, o, none⟩ = some v0 ∧ W.cell? ⟨b, o + 1, none⟩ = some v1 ∧ W.cell? ⟨b, o + 2, none⟩ = some v2 ∧ W.cell? ⟨b, o + 3, none⟩ = some v3 ∧ W.cell? ⟨b, o + 4, none⟩ = some v4 ∧ W.cell? ⟨b, o + 5, none⟩ = some v5 ∧ W.cell? ⟨b, o + 6, none⟩ = some v6)
    (hb : Below W.heap.size W W') (hlt : b < W.heap.size) : W'.cell? ⟨b, o, none⟩ = some v0 ∧ W'.cell? ⟨b, o + 1, none⟩ = some v1 ∧ W'.cell? ⟨b, o + 2, none⟩ = some v2 ∧ W'.cell? ⟨b, o + 3, none⟩ = some v3 ∧ W'.cell? ⟨b, o + 4, none⟩ = some v4 ∧ W'.cell? ⟨b, o + 5, none⟩ = some v5 ∧ W'.cell? ⟨b, o + 6, none⟩ = some v6 :=
  ⟨(hb.cell hlt).trans h.1, (hb.cell hlt).trans h.2.1, (hb.cell hlt).trans h.2.2.1, (hb.cell hlt).trans h.2.2.2.1, (hb.cell hlt).trans h.2.2.2.2.1, (hb.cell hlt).trans h.2.2.2.2.2.1, (hb.cell hlt).trans h.2.2.2.2.2.2⟩
theorem gm_apart {α κ ν : Type} {f : Flat α} {w : World} {b1 b : Nat} {e1 : TypeId} {v : Value} {xs : List α} {kv : κ → Value} {vv : ν → Value} {l : List (κ × ν)} (h : Own f w b1 e1 v xs) (hm : GMap w b kv vv l) : some b ≠ v.ownBlock := by
  obtain ⟨es, clock, hb, -⟩ := hm
  exact fun e => h.ne_block hb (fun _ _ _ hh => by cases hh) e.symm
theorem grown_far {w w' w'' : World} {r : Option Nat} (h : w.grownBy w' r) (hb : Below w'.heap.size w' w'') : w.grownBy w'' r := h.trans (grown_of_below hb r)
def lstB (s p : Int) (A : Option Addr) (c : Nat) (ls : List Lnk) (m sb so sc : Nat) (x : Fly) (sw : Swt) (V : Option Addr) (cV : Nat) (tick : Int) (h : Hop) (g : Fly) (xb : Nat) (wr : World) (w' : World) : Prop :=
  Below wr.heap.size wr w'
def lstF (s p : Int) (A : Option Addr) (c : Nat) (ls : List Lnk) (m sb so sc : Nat) (x : Fly) (sw : Swt) (V : Option Addr) (cV : Nat) (tick : Int) (h : Hop) (g : Fly) (xb : Nat) (wr : World) : List (Value → Value → World → Prop) :=
  [fun _ v _ => v = .agg #[.int .i64 s, .int .i64 p, .slice A ls.length c],
   fun _ v _ => v = .slice (some ⟨sb, so, none⟩) m sc,
   fun _ v _ => v = .pointer (some ⟨xb, 5, none⟩),
   fun _ v _ => v = .int .i64 x.sw,
   fun _ v _ => v = .pointer (some ⟨sb, so + x.sw.toNat * 7, none⟩),
   fun _ v _ => v = .agg #[.int .i64 sw.epoch, .int .i64 sw.seen, .bool sw.op, .int .i64 sw.stamp, .int .i64 sw.bad, .slice V sw.vs.length cV, .int .i64 sw.junk],
   fun _ v _ => v = .agg #[.int .i64 x.id, .int .i64 x.src, .int .i64 x.dst, .int .i64 x.ttl, .int .i64 x.tag, .int .i64 x.sw, .int .i64 x.inn],
   fun _ v _ => v = .int .i64 tick,
   fun _ v _ => v = .tuple #[.agg #[.int .i64 h.tick, .int .i64 h.id, .int .i64 h.sw, .int .i64 h.inn, .int .i64 h.tag, .int .i64 h.what, .int .i64 h.out], .agg #[.int .i64 g.id, .int .i64 g.src, .int .i64 g.dst, .int .i64 g.ttl, .int .i64 g.tag, .int .i64 g.sw, .int .i64 g.inn]],
   fun _ v _ => v = .tuple #[.agg #[.int .i64 h.tick, .int .i64 h.id, .int .i64 h.sw, .int .i64 h.inn, .int .i64 h.tag, .int .i64 h.what, .int .i64 h.out], .agg #[.int .i64 g.id, .int .i64 g.src, .int .i64 g.dst, .int .i64 g.ttl, .int .i64 g.tag, .int .i64 g.sw, .int .i64 g.inn]],
   fun _ v _ => v = .agg #[.int .i64 h.tick, .int .i64 h.id, .int .i64 h.sw, .int .i64 h.inn, .int .i64 h.tag, .int .i64 h.what, .int .i64 h.out],
   fun _ v _ => v = .agg #[.int .i64 g.id, .int .i64 g.src, .int .i64 g.dst, .int .i64 g.ttl, .int .i64 g.tag, .int .i64 g.sw, .int .i64 g.inn],
   fun _ v w' => ∃ q c0 c1 c2 c3 c4 c5 c6, v = .pointer (some ⟨q, 0, none⟩) ∧ wr.heap.size ≤ q ∧ w'.heap[q]? = some (.cells #[c0, c1, c2, c3, c4, c5, c6] 40),
   fun _ v w' => ∃ q c0 c1 c2 c3 c4 c5 c6, v = .pointer (some ⟨q, 0, none⟩) ∧ wr.heap.size ≤ q ∧ w'.heap[q]? = some (.cells #[c0, c1, c2, c3, c4, c5, c6] 38),
   fun u _ w' => ∃ q, u = .pointer (some ⟨q, 0, none⟩) ∧ w'.heap[q]? = some (.cells #[.int .i64 h.tick, .int .i64 h.id, .int .i64 h.sw, .int .i64 h.inn, .int .i64 h.tag, .int .i64 h.what, .int .i64 h.out] 40),
   fun u _ w' => ∃ q, u = .pointer (some ⟨q, 0, none⟩) ∧ w'.heap[q]? = some (.cells #[.int .i64 g.id, .int .i64 g.src, .int .i64 g.dst, .int .i64 g.ttl, .int .i64 g.tag, .int .i64 g.sw, .int .i64 g.inn] 38)]
def lstQ : Nat → Nat := fun i => if i = 14 then 12 else if i = 15 then 13 else i
theorem lstF_stay (s p : Int) (A : Option Addr) (c : Nat) (ls : List Lnk) (m sb so sc : Nat) (x : Fly) (sw : Swt) (V : Option Addr) (cV : Nat) (tick : Int) (h : Hop) (g : Fly) (xb : Nat) (wr : World) : AllStay (lstF s p A c ls m sb so sc x sw V cV tick h g xb wr) := by
  intro F hF u v w' w'' hb h
  simp only [lstF, List.mem_cons, List.not_mem_nil, or_false] at hF
  rcases hF with rfl | rfl | rfl | rfl | rfl | rfl | rfl | rfl | rfl | rfl | rfl | rfl | rfl | rfl | rfl | rfl
  · exact h
  · exact h
  · exact h
  · exact h
  · exact h
  · exact h
  · exact h
  · exact h
  · exact h
  · exact h
  · exact h
  · exact h
  · obtain ⟨q, c0, c1, c2, c3, c4, c5, c6, e, h1, h2⟩ := h
    exact ⟨q, c0, c1, c2, c3, c4, c5, c6, e, h1, blk_keep h2 hb⟩
  · obtain ⟨q, c0, c1, c2, c3, c4, c5, c6, e, h1, h2⟩ := h
    exact ⟨q, c0, c1, c2, c3, c4, c5, c6, e, h1, blk_keep h2 hb⟩
  · obtain ⟨q, e, h1⟩ := h
    exact ⟨q, e, blk_keep h1 hb⟩
  · obtain ⟨q, e, h1⟩ := h
    exact ⟨q, e, blk_keep h1 hb⟩
theorem lstB_stay (s p : Int) (A : Option Addr) (c : Nat) (ls : List Lnk) (m sb so sc : Nat) (x : Fly) (sw : Swt) (V : Option Addr) (cV : Nat) (tick : Int) (h : Hop) (g : Fly) (xb : Nat) (wr : World) : Stays (lstB s p A c ls m sb so sc x sw V cV tick h g xb wr) := by
  intro w' w'' hb h
  exact below_call h hb
theorem lst_keep (s p : Int) (A : Option Addr) (c : Nat) (ls : List Lnk) (m sb so sc : Nat) (x : Fly) (sw : Swt) (V : Option Addr) (cV : Nat) (tick : Int) (h : Hop) (g : Fly) (xb : Nat) (wr : World) {j : Nat} {vs : Nat → Value} {w' w'' : World} (hj : j ≠ 12 ∧ j ≠ 13 ∧ j ≠ 14 ∧ j ≠ 15)
    (hF : Fof lstQ (lstF s p A c ls m sb so sc x sw V cV tick h g xb wr) j vs w') : Fof lstQ (lstF s p A c ls m sb so sc x sw V cV tick h g xb wr) j vs w'' := by
  unfold Fof at *
  match j, hj with
  | 0, _ | 1, _ | 2, _ | 3, _ | 4, _ | 5, _ | 6, _ | 7, _ | 8, _ | 9, _ | 10, _ | 11, _ => exact hF
  | 12, hj => exact absurd rfl hj.1
  | 13, hj => exact absurd rfl hj.2.1
  | 14, hj => exact absurd rfl hj.2.2.1
  | 15, hj => exact absurd rfl hj.2.2.2
  | j + 16, _ => trivial
def incB (mb : Nat) (f : Int × Int → Int) (kx : Int × Int) (wr : World) (w' : World) : Prop :=
  wr.grownBy w' (some mb)
def incF (mb : Nat) (f : Int × Int → Int) (kx : Int × Int) (wr : World) : List (Value → Value → World → Prop) :=
  [fun _ v _ => v = .map (some mb),
   fun _ v _ => v = pairV kx,
   fun _ v _ => v = .int .i64 (f kx),
   fun _ v _ => v = .int .i64 (f kx + 1),
   fun _ v w' => ∃ z st l, v = .tuple #[z, goInt st] ∧ GAt w' mb pairV intV l kx st ∧ ∀ y, cnt 0 l y = f y,
   fun _ v w' => ∃ st l, v = goInt st ∧ GAt w' mb pairV intV l kx st ∧ ∀ y, cnt 0 l y = f y,
   fun _ _ w' => ∃ l, GMap w' mb pairV intV l ∧ ∀ y, cnt 0 l y = if y = kx then f kx + 1 else f y]
def incQ : Nat → Nat := fun i => i
def incK : Nat → Option Nat := fun i => if i = 4 then some 6 else if i = 5 then some 6 else none
def incS (mb : Nat) (f : Int × Int → Int) (kx : Int × Int) (wr : World) (w' : World) : Prop :=
  ∃ l, GMap w' mb pairV intV l ∧ ∀ y, cnt 0 l y = f y
theorem incS_stay (mb : Nat) (f : Int × Int → Int) (kx : Int × Int) (wr : World) : Stays (incS mb f kx wr) := by
  intro w' w'' hb h
  obtain ⟨l, hm, hc⟩ := h; exact ⟨l, hm.below hm.lt hb, hc⟩
theorem incF_stay (mb : Nat) (f : Int × Int → Int) (kx : Int × Int) (wr : World) : AllStay (incF mb f kx wr) := by
  intro F hF u v w' w'' hb h
  simp only [incF, List.mem_cons, List.not_mem_nil, or_false] at hF
  rcases hF with rfl | rfl | rfl | rfl | rfl | rfl | rfl
  · exact h
  · exact h
  · exact h
  · exact h
  · obtain ⟨z, st, l, e, hm, hc⟩ := h
    exact ⟨z, st, l, e, hm.keep (hb.block mb hm.map.lt), hc⟩
  · obtain ⟨st, l, e, hm, hc⟩ := h
    exact ⟨st, l, e, hm.keep (hb.block mb hm.map.lt), hc⟩
  · obtain ⟨l, hm, hc⟩ := h
    exact ⟨l, hm.below hm.lt hb, hc⟩
theorem incB_stay (mb : Nat) (f : Int × Int → Int) (kx : Int × Int) (wr : World) : Stays (incB mb f kx wr) := by
  intro w' w'' hb h
  exact grown_far h hb
theorem intV_inj (a b : Int) (h : intV a = intV b) : a = b := by injection h
theorem inc_keep (mb : Nat) (f : Int × Int → Int) (kx : Int × Int) (wr : World) {l l2 : List ((Int × Int) × Int)} {j : Nat} {vs : Nat → Value} {w' w2 : World} (hm : GMap w' mb pairV intV l) (hc : ∀ y, cnt 0 l y = f y) (h1 : GMap w2 mb pairV intV l2) (hc2 : ∀ y, cnt 0 l2 y = f y)
    (h4 : ∀ st', GAt w' mb pairV intV l kx st' → GAt w2 mb pairV intV l kx st') (hj : j ≠ 4) (hF : Fof incQ (incF mb f kx wr) j vs w') : Fof incQ (incF mb f kx wr) j vs w2 := by
  unfold Fof at *
  match j, hj with
  | 0, _ | 1, _ | 2, _ | 3, _ => exact hF
  | 4, hj => exact absurd rfl hj
  | 5, _ =>
    obtain ⟨st, l', e, hat, hc'⟩ : ∃ st l, vs 5 = goInt st ∧ GAt w' mb pairV intV l kx st ∧ ∀ y, cnt 0 l y = f y := hF
    obtain rfl := GMap.uniq keyPair.inj intV_inj hat.map hm
    exact ⟨st, _, e, h4 st hat, hc'⟩
  | 6, _ =>
    obtain ⟨l', hm', hc'⟩ : ∃ l, GMap w' mb pairV intV l ∧ ∀ y, cnt 0 l y = if y = kx then f kx + 1 else f y := hF
    obtain rfl := GMap.uniq keyPair.inj intV_inj hm' hm
    have h0 := (hc kx).symm.trans (hc' kx)
    rw [if_pos rfl] at h0
    omega
  | j + 7, _ => trivial
theorem inc_keep6 (mb : Nat) (f : Int × Int → Int) (kx : Int × Int) (wr : World) {j : Nat} {vs : Nat → Value} {w' w2 : World} (hj : j ≠ 6) (hk : incK j ≠ some 6) (hF : Fof incQ (incF mb f kx wr) j vs w') : Fof incQ (incF mb f kx wr) j vs w2 := by
  unfold Fof at *
  match j, hj, hk with
  | 0, _, _ | 1, _, _ | 2, _, _ | 3, _, _ => exact hF
  | 4, _, hk => exact absurd rfl hk
  | 5, _, hk => exact absurd rfl hk
  | 6, hj, _ => exact absurd rfl hj
  | j + 7, _, _ => trivial

/-- How often each port was asked for, and how many went by it. -/
def Cnts (f : Int × Int → Int) (hops : List Hop) (k : Nat) : Prop := ∀ y, 0 ≤ f y ∧ f y ≤ k ∧ min (f y) 4 = (carried hops y.1 y.2 : Int)
theorem isBy_not {h : Hop} (hw : h.what ≠ 0) (a b : Int) : isBy a b h = false := by unfold isBy; rw [decide_eq_false hw]; rfl
section
variable {f : Int × Int → Int} {hops : List Hop} {k : Nat}
theorem Cnts.more {m : Nat} (h : Cnts f hops k) (hm : k ≤ m) : Cnts f hops m := fun y => ⟨(h y).1, by have := (h y).2.1; omega, (h y).2.2⟩
theorem Cnts.none (h : Cnts f hops k) (x : Hop) (hw : x.what ≠ 0) : Cnts f (hops ++ [x]) (k + 1) := fun y => by
  have := h y
  rw [carried_snoc, isBy_not hw]
  simp
  omega
theorem Cnts.full (h : Cnts f hops k) (x : Hop) (hw : x.what ≠ 0) (q : Int × Int) (h4 : 4 < f q + 1) {f' : Int × Int → Int} (hf : ∀ y, f' y = if y = q then f q + 1 else f y) : Cnts f' (hops ++ [x]) (k + 1) := fun y => by
  have h1 := h y
  rw [carried_snoc, isBy_not hw, hf]
  by_cases hy : y = q
  · subst hy
    simp
    omega
  · simp [hy]
    omega
theorem Cnts.went (h : Cnts f hops k) (x : Hop) (hw : x.what = 0) (h4 : ¬ 4 < f (x.sw, x.out) + 1) {f' : Int × Int → Int} (hf : ∀ y, f' y = if y = (x.sw, x.out) then f (x.sw, x.out) + 1 else f y) : Cnts f' (hops ++ [x]) (k + 1) := fun y => by
  have h1 := h y
  rw [carried_snoc, hf]
  by_cases hy : y = (x.sw, x.out)
  · subst hy
    dsimp only at h1
    have : isBy x.sw x.out x = true := by unfold isBy; simp [hw]
    rw [if_pos rfl, this]
    simp
    omega
  · have : isBy y.1 y.2 x = false := by
      unfold isBy
      rw [decide_eq_true hw]
      simp
      intro h1 h2
      exact hy (Prod.ext h1.symm h2.symm)
    rw [if_neg hy, this]
    simp
    omega
end

set_option maxHeartbeats 4000000 in
theorem links_any (s p : Int) (A : Option Addr) (c : Nat) (ls : List Lnk) (sws : List Swt) (SA : Option Addr) (sc : Nat) (fs : List Fly) (FA : Option Addr) (fc : Nat) (tick : Int) (w : World) (hl : Rd lnkD w A ls.length ls) (hs : Rd swD w SA sws.length sws) (hf : Rd fliesD w FA fs.length fs) (ht : ∀ x ∈ fs, Fit x.ttl) (hn : fs.length ≤ 1000) :
    Calls Try.prog 9 #[.agg #[.int .i64 s, .int .i64 p, .slice A ls.length c], .slice SA sws.length sc, .slice FA fs.length fc, .int .i64 tick] w fun e w' => ∃ v u, e = .returned (.tuple #[v, u]) ∧ Own flyF w' w.heap.size 38 v (linksP s p ls sws fs tick).1 ∧ Own hopF w' w.heap.size 40 u (linksP s p ls sws fs tick).2 ∧ Below w.heap.size w w' := by
  have hmm := @run_makeMap Try.prog
  have HL := Aside.mk hl
  have HS := Aside.mk hs
  have HF := Aside.mk hf
  have HT := Aside.mk ht
  have hms := hs.max
  have hmf := hf.max
  clear hl hs hf ht
  go_enter Try.func9, Try.ntmps9
  go_wp2
  go_loopw [10, 11, 21] (fun nv hv i wr => ∃ k : Nat, k ≤ fs.length ∧ i = .int .i64 k ∧ Own flyF wr w.heap.size 38 nv (linksP s p ls sws (fs.take k) tick).1 ∧ Own hopF wr w.heap.size 40 hv (linksP s p ls sws (fs.take k) tick).2 ∧ Below w.heap.size w wr ∧ wr.heap[w.heap.size]? = some (.cells #[.int .i64 s, .int .i64 p, .slice A ls.length c] 24) ∧ ∃ m, GMap wr (w.heap.size + 1) pairV intV m ∧ Cnts (cnt 0 m) (linksP s p ls sws (fs.take k) tick).2 k) (fun _ _ i _ => fs.length - (intOf i).toNat)
  case atStart => exact ⟨0, Nat.zero_le _, rfl, Own.nil _ _ _ _, Own.nil _ _ _ _, below_alloc (below_alloc (Below.refl _ _) _) _, blk_keep (heap_at _ _ _ ▸ if_pos rfl) ((Below.refl _ _).alloc (Nat.le_refl _) _), [], by simpa using GMap.made (w.alloc (.cells #[.int .i64 s, .int .i64 p, .slice A ls.length c] 24)) pairV intV, fun y => ⟨by simp [cnt, mget], by simp [cnt, mget], by simp [cnt, mget, linksP, carried]; decide⟩⟩
  case round =>
    obtain ⟨k, hk, rfl, hnx, hho, hb, hx, m, hm, hcm⟩ := hrel
    have KN := Aside.mk hnx
    have KH := Aside.mk hho
    have KB := Aside.mk hb
    have KX := Aside.mk hx
    have KM := Aside.mk hm
    have KC := Aside.mk hcm
    have htb := blk_lt hx
    have c0 := blk_cell hx 0
    have c1 := blk_cell hx 1
    have c2 := blk_cell hx 2
    simp at c0 c1 c2
    clear hnx hho hb hx hm hcm
    by_cases hlt : k < fs.length
    · have hsn := Aside.mk (show linksP s p ls sws (fs.take (k + 1)) tick = linkStep s p ls sws tick (linksP s p ls sws (fs.take k) tick) fs[k] by rw [List.take_succ_eq_append_getElem hlt, linksP_snoc])
      obtain ⟨fb, fo, _, rfl, -⟩ := Row.at HF.out k hlt
      obtain ⟨hfb0, q0, q1, q2, q3, q4, q5, q6⟩ := fly_cells HF.out KB.out hlt
      have hfb := Nat.lt_of_lt_of_le hfb0 KB.out.size
      have HFx := Aside.mk (HT.out fs[k] (List.getElem_mem hlt))
      generalize fs[k] = x at *
      by_cases hx0 : x.sw < 0
      · have hat : swAt sws x.sw = none := by unfold swAt; rw [if_pos hx0]
        have HST := Aside.mk (show linkStep s p ls sws tick (linksP s p ls sws (fs.take k) tick) x = linksP s p ls sws (fs.take k) tick by unfold linkStep; rw [hat])
        have d0 : decide (x.sw < 0) = true := decide_eq_true hx0
        clear hat
        go_wp2
        exact ⟨⟨k + 1, by omega, by go_num, by rw [hsn.out, HST.out]; exact KN.out.alloc _, by rw [hsn.out, HST.out]; exact KH.out.alloc _, below_alloc KB.out _, blk_keep KX.out (alloc_below _ _), m, KM.out.alloc _, by rw [hsn.out, HST.out]; exact KC.out.more (by omega)⟩, by simp [intOf]; omega⟩
      · have d0 : decide (x.sw < 0) = false := decide_eq_false hx0
        by_cases hx1 : (sws.length : Int) ≤ x.sw
        · have hat : swAt sws x.sw = none := by unfold swAt; rw [if_neg hx0, List.getElem?_eq_none (by omega)]
          have HST := Aside.mk (show linkStep s p ls sws tick (linksP s p ls sws (fs.take k) tick) x = linksP s p ls sws (fs.take k) tick by unfold linkStep; rw [hat])
          have d1 : decide ((sws.length : Int) ≤ x.sw) = true := decide_eq_true hx1
          clear hat
          go_wp2
          exact ⟨⟨k + 1, by omega, by go_num, by rw [hsn.out, HST.out]; exact KN.out.alloc _, by rw [hsn.out, HST.out]; exact KH.out.alloc _, below_alloc KB.out _, blk_keep KX.out (alloc_below _ _), m, KM.out.alloc _, by rw [hsn.out, HST.out]; exact KC.out.more (by omega)⟩, by simp [intOf]; omega⟩
        · have d1 : decide ((sws.length : Int) ≤ x.sw) = false := decide_eq_false hx1
          have hj : x.sw.toNat < sws.length := by omega
          have hat : swAt sws x.sw = some sws[x.sw.toNat] := by unfold swAt; rw [if_neg hx0, List.getElem?_eq_getElem hj]
          obtain ⟨sb, so, V, cV, rfl, hsb0, hsc, -, -, hv⟩ := sw_cells HS.out KB.out hj
          have HSC := Aside.mk hsc
          have HVr := Aside.mk (hv.below KB.out)
          have HLr := Aside.mk (HL.out.below KB.out)
          generalize sws[x.sw.toNat] = sw at *
          obtain ⟨h, g, hhg⟩ : ∃ h g, pipeP s p ls sw x tick = (h, g) := ⟨_, _, rfl⟩
          have HPx := Aside.mk hhg
          have HAT := Aside.mk hat
          have KN := Aside.mk (KN.out.alloc (.cells #[.int .i64 x.id, .int .i64 x.src, .int .i64 x.dst, .int .i64 x.ttl, .int .i64 x.tag, .int .i64 x.sw, .int .i64 x.inn] 38))
          have KH := Aside.mk (KH.out.alloc (.cells #[.int .i64 x.id, .int .i64 x.src, .int .i64 x.dst, .int .i64 x.ttl, .int .i64 x.tag, .int .i64 x.sw, .int .i64 x.inn] 38))
          have KX := Aside.mk (blk_keep KX.out (alloc_below wr (.cells #[.int .i64 x.id, .int .i64 x.src, .int .i64 x.dst, .int .i64 x.ttl, .int .i64 x.tag, .int .i64 x.sw, .int .i64 x.inn] 38)))
          have KM := Aside.mk (KM.out.alloc (.cells #[.int .i64 x.id, .int .i64 x.src, .int .i64 x.dst, .int .i64 x.ttl, .int .i64 x.tag, .int .i64 x.sw, .int .i64 x.inn] 38))
          have KB1 := Aside.mk (below_alloc KB.out (.cells #[.int .i64 x.id, .int .i64 x.src, .int .i64 x.dst, .int .i64 x.ttl, .int .i64 x.tag, .int .i64 x.sw, .int .i64 x.inn] 38))
          have KXB := Aside.mk (heap_new wr (.cells #[.int .i64 x.id, .int .i64 x.src, .int .i64 x.dst, .int .i64 x.ttl, .int .i64 x.tag, .int .i64 x.sw, .int .i64 x.inn] 38) rfl)
          have HVr := Aside.mk (HVr.out.below (alloc_below wr (.cells #[.int .i64 x.id, .int .i64 x.src, .int .i64 x.dst, .int .i64 x.ttl, .int .i64 x.tag, .int .i64 x.sw, .int .i64 x.inn] 38)))
          have HLr := Aside.mk (HLr.out.below (alloc_below wr (.cells #[.int .i64 x.id, .int .i64 x.src, .int .i64 x.dst, .int .i64 x.ttl, .int .i64 x.tag, .int .i64 x.sw, .int .i64 x.inn] 38)))
          have HSC := Aside.mk (sw7_keep HSC.out (alloc_below wr (.cells #[.int .i64 x.id, .int .i64 x.src, .int .i64 x.dst, .int .i64 x.ttl, .int .i64 x.tag, .int .i64 x.sw, .int .i64 x.inn] 38)) (Nat.lt_of_lt_of_le hsb0 KB.out.size))
          have hxb : wr.heap.size < (wr.alloc (.cells #[.int .i64 x.id, .int .i64 x.src, .int .i64 x.dst, .int .i64 x.ttl, .int .i64 x.tag, .int .i64 x.sw, .int .i64 x.inn] 38)).heap.size := by simp
          have hsb : sb < (wr.alloc (.cells #[.int .i64 x.id, .int .i64 x.src, .int .i64 x.dst, .int .i64 x.ttl, .int .i64 x.tag, .int .i64 x.sw, .int .i64 x.inn] 38)).heap.size := by have := KB1.out.size; omega
          have hwz := KB.out.size
          have htb1 : w.heap.size < (wr.alloc (.cells #[.int .i64 x.id, .int .i64 x.src, .int .i64 x.dst, .int .i64 x.ttl, .int .i64 x.tag, .int .i64 x.sw, .int .i64 x.inn] 38)).heap.size := by simp; omega
          clear hhg hv hat hsc c0 c1 c2
          go_wp2
          generalize wr.alloc (.cells #[.int .i64 x.id, .int .i64 x.src, .int .i64 x.dst, .int .i64 x.ttl, .int .i64 x.tag, .int .i64 x.sw, .int .i64 x.inn] 38) = W at *
          generalize hxbe : wr.heap.size = xb at *
          have T0 := Aside.mk (blk_cell KX.out 0)
          have T1 := Aside.mk (blk_cell KX.out 1)
          have T2 := Aside.mk (blk_cell KX.out 2)
          have F0 := Aside.mk (blk_cell KXB.out 0)
          have F1 := Aside.mk (blk_cell KXB.out 1)
          have F2 := Aside.mk (blk_cell KXB.out 2)
          have F3 := Aside.mk (blk_cell KXB.out 3)
          have F4 := Aside.mk (blk_cell KXB.out 4)
          have F5 := Aside.mk (blk_cell KXB.out 5)
          have F6 := Aside.mk (blk_cell KXB.out 6)
          have S0 := Aside.mk HSC.out.1
          have S1 := Aside.mk HSC.out.2.1
          have S2 := Aside.mk HSC.out.2.2.1
          have S3 := Aside.mk HSC.out.2.2.2.1
          have S4 := Aside.mk HSC.out.2.2.2.2.1
          have S5 := Aside.mk HSC.out.2.2.2.2.2.1
          have S6 := Aside.mk HSC.out.2.2.2.2.2.2
          refine wp_region_facts (Base := lstB s p A c ls sws.length sb so sc x sw V cV tick h g xb W) (q := lstQ) (Fs := lstF s p A c ls sws.length sb so sc x sw V cV tick h g xb W) (by kernel_rfl) (by kernel_rfl) (by kernel_rfl) (by kernel_rfl) (below_drew (Below.refl _ _)) ?_ ?_
          · have htb := htb1
            clear q0 q1 q2 q3 q4 q5 q6
            have hBs := lstB_stay s p A c ls sws.length sb so sc x sw V cV tick h g xb W
            have hFs := lstF_stay s p A c ls sws.length sb so sc x sw V cV tick h g xb W
            refine ⟨?_, ?_, ?_, ?_, ?_, ?_, ?_, ?_, ?_, ?_, ?_, ?_, ?_, ?_, ?_, ?_, trivial⟩
            · refine step_pure hBs hFs rfl fun a' w' hB hag hp => ?_
              have h4 := hag 4 (by kernel_rfl)
              have hB : Below W.heap.size W w' := hB; have hc0 := (hB.cell (p := ⟨w.heap.size, 0, none⟩) htb).trans T0.out; have hc1 := (hB.cell (p := ⟨w.heap.size, 1, none⟩) htb).trans T1.out; have hc2 := (hB.cell (p := ⟨w.heap.size, 2, none⟩) htb).trans T2.out; have hf0 := (hB.cell (p := ⟨xb, 0, none⟩) hxb).trans F0.out; have hf1 := (hB.cell (p := ⟨xb, 1, none⟩) hxb).trans F1.out; have hf2 := (hB.cell (p := ⟨xb, 2, none⟩) hxb).trans F2.out; have hf3 := (hB.cell (p := ⟨xb, 3, none⟩) hxb).trans F3.out; have hf4 := (hB.cell (p := ⟨xb, 4, none⟩) hxb).trans F4.out; have hf5 := (hB.cell (p := ⟨xb, 5, none⟩) hxb).trans F5.out; have hf6 := (hB.cell (p := ⟨xb, 6, none⟩) hxb).trans F6.out; have hs0 := (hB.cell (p := ⟨sb, so + x.sw.toNat * 7, none⟩) hsb).trans S0.out; have hs1 := (hB.cell (p := ⟨sb, so + x.sw.toNat * 7 + 1, none⟩) hsb).trans S1.out; have hs2 := (hB.cell (p := ⟨sb, so + x.sw.toNat * 7 + 2, none⟩) hsb).trans S2.out; have hs3 := (hB.cell (p := ⟨sb, so + x.sw.toNat * 7 + 3, none⟩) hsb).trans S3.out; have hs4 := (hB.cell (p := ⟨sb, so + x.sw.toNat * 7 + 4, none⟩) hsb).trans S4.out; have hs5 := (hB.cell (p := ⟨sb, so + x.sw.toNat * 7 + 5, none⟩) hsb).trans S5.out; have hs6 := (hB.cell (p := ⟨sb, so + x.sw.toNat * 7 + 6, none⟩) hsb).trans S6.out
              simp at h4
              unfold OpYields
              go_simp
              exact ⟨Below.refl _ _, rfl⟩
            · refine step_pure hBs hFs rfl fun a' w' hB hag hp => ?_
              have h1 := hag 1 (by kernel_rfl)
              simp at h1
              unfold OpYields
              go_simp
              exact ⟨Below.refl _ _, rfl⟩
            · refine step_pure hBs hFs rfl fun a' w' hB hag hp => ?_
              have h14 := hag 14 (by kernel_rfl)
              simp at h14
              unfold OpYields
              go_simp
              exact ⟨Below.refl _ _, rfl⟩
            · refine step_pure hBs hFs rfl fun a' w' hB hag hp => ?_
              have h38 : a'.tmps.getD 38 undef = _ := hp 2 (by kernel_rfl)
              have hB : Below W.heap.size W w' := hB; have hc0 := (hB.cell (p := ⟨w.heap.size, 0, none⟩) htb).trans T0.out; have hc1 := (hB.cell (p := ⟨w.heap.size, 1, none⟩) htb).trans T1.out; have hc2 := (hB.cell (p := ⟨w.heap.size, 2, none⟩) htb).trans T2.out; have hf0 := (hB.cell (p := ⟨xb, 0, none⟩) hxb).trans F0.out; have hf1 := (hB.cell (p := ⟨xb, 1, none⟩) hxb).trans F1.out; have hf2 := (hB.cell (p := ⟨xb, 2, none⟩) hxb).trans F2.out; have hf3 := (hB.cell (p := ⟨xb, 3, none⟩) hxb).trans F3.out; have hf4 := (hB.cell (p := ⟨xb, 4, none⟩) hxb).trans F4.out; have hf5 := (hB.cell (p := ⟨xb, 5, none⟩) hxb).trans F5.out; have hf6 := (hB.cell (p := ⟨xb, 6, none⟩) hxb).trans F6.out; have hs0 := (hB.cell (p := ⟨sb, so + x.sw.toNat * 7, none⟩) hsb).trans S0.out; have hs1 := (hB.cell (p := ⟨sb, so + x.sw.toNat * 7 + 1, none⟩) hsb).trans S1.out; have hs2 := (hB.cell (p := ⟨sb, so + x.sw.toNat * 7 + 2, none⟩) hsb).trans S2.out; have hs3 := (hB.cell (p := ⟨sb, so + x.sw.toNat * 7 + 3, none⟩) hsb).trans S3.out; have hs4 := (hB.cell (p := ⟨sb, so + x.sw.toNat * 7 + 4, none⟩) hsb).trans S4.out; have hs5 := (hB.cell (p := ⟨sb, so + x.sw.toNat * 7 + 5, none⟩) hsb).trans S5.out; have hs6 := (hB.cell (p := ⟨sb, so + x.sw.toNat * 7 + 6, none⟩) hsb).trans S6.out
              simp at h38
              unfold OpYields
              go_simp
              exact ⟨Below.refl _ _, rfl⟩
            · refine step_pure hBs hFs rfl fun a' w' hB hag hp => ?_
              have h37 : a'.tmps.getD 37 undef = _ := hp 1 (by kernel_rfl)
              have h39 : a'.tmps.getD 39 undef = _ := hp 3 (by kernel_rfl)
              simp at h37 h39
              unfold OpYields
              go_simp
              exact ⟨Below.refl _ _, rfl⟩
            · refine step_pure hBs hFs rfl fun a' w' hB hag hp => ?_
              have h40 : a'.tmps.getD 40 undef = _ := hp 4 (by kernel_rfl)
              have hB : Below W.heap.size W w' := hB; have hc0 := (hB.cell (p := ⟨w.heap.size, 0, none⟩) htb).trans T0.out; have hc1 := (hB.cell (p := ⟨w.heap.size, 1, none⟩) htb).trans T1.out; have hc2 := (hB.cell (p := ⟨w.heap.size, 2, none⟩) htb).trans T2.out; have hf0 := (hB.cell (p := ⟨xb, 0, none⟩) hxb).trans F0.out; have hf1 := (hB.cell (p := ⟨xb, 1, none⟩) hxb).trans F1.out; have hf2 := (hB.cell (p := ⟨xb, 2, none⟩) hxb).trans F2.out; have hf3 := (hB.cell (p := ⟨xb, 3, none⟩) hxb).trans F3.out; have hf4 := (hB.cell (p := ⟨xb, 4, none⟩) hxb).trans F4.out; have hf5 := (hB.cell (p := ⟨xb, 5, none⟩) hxb).trans F5.out; have hf6 := (hB.cell (p := ⟨xb, 6, none⟩) hxb).trans F6.out; have hs0 := (hB.cell (p := ⟨sb, so + x.sw.toNat * 7, none⟩) hsb).trans S0.out; have hs1 := (hB.cell (p := ⟨sb, so + x.sw.toNat * 7 + 1, none⟩) hsb).trans S1.out; have hs2 := (hB.cell (p := ⟨sb, so + x.sw.toNat * 7 + 2, none⟩) hsb).trans S2.out; have hs3 := (hB.cell (p := ⟨sb, so + x.sw.toNat * 7 + 3, none⟩) hsb).trans S3.out; have hs4 := (hB.cell (p := ⟨sb, so + x.sw.toNat * 7 + 4, none⟩) hsb).trans S4.out; have hs5 := (hB.cell (p := ⟨sb, so + x.sw.toNat * 7 + 5, none⟩) hsb).trans S5.out; have hs6 := (hB.cell (p := ⟨sb, so + x.sw.toNat * 7 + 6, none⟩) hsb).trans S6.out
              simp at h40
              unfold OpYields
              go_simp
              exact ⟨Below.refl _ _, rfl⟩
            · refine step_pure hBs hFs rfl fun a' w' hB hag hp => ?_
              have h14 := hag 14 (by kernel_rfl)
              have hB : Below W.heap.size W w' := hB; have hc0 := (hB.cell (p := ⟨w.heap.size, 0, none⟩) htb).trans T0.out; have hc1 := (hB.cell (p := ⟨w.heap.size, 1, none⟩) htb).trans T1.out; have hc2 := (hB.cell (p := ⟨w.heap.size, 2, none⟩) htb).trans T2.out; have hf0 := (hB.cell (p := ⟨xb, 0, none⟩) hxb).trans F0.out; have hf1 := (hB.cell (p := ⟨xb, 1, none⟩) hxb).trans F1.out; have hf2 := (hB.cell (p := ⟨xb, 2, none⟩) hxb).trans F2.out; have hf3 := (hB.cell (p := ⟨xb, 3, none⟩) hxb).trans F3.out; have hf4 := (hB.cell (p := ⟨xb, 4, none⟩) hxb).trans F4.out; have hf5 := (hB.cell (p := ⟨xb, 5, none⟩) hxb).trans F5.out; have hf6 := (hB.cell (p := ⟨xb, 6, none⟩) hxb).trans F6.out; have hs0 := (hB.cell (p := ⟨sb, so + x.sw.toNat * 7, none⟩) hsb).trans S0.out; have hs1 := (hB.cell (p := ⟨sb, so + x.sw.toNat * 7 + 1, none⟩) hsb).trans S1.out; have hs2 := (hB.cell (p := ⟨sb, so + x.sw.toNat * 7 + 2, none⟩) hsb).trans S2.out; have hs3 := (hB.cell (p := ⟨sb, so + x.sw.toNat * 7 + 3, none⟩) hsb).trans S3.out; have hs4 := (hB.cell (p := ⟨sb, so + x.sw.toNat * 7 + 4, none⟩) hsb).trans S4.out; have hs5 := (hB.cell (p := ⟨sb, so + x.sw.toNat * 7 + 5, none⟩) hsb).trans S5.out; have hs6 := (hB.cell (p := ⟨sb, so + x.sw.toNat * 7 + 6, none⟩) hsb).trans S6.out
              simp at h14
              unfold OpYields
              go_simp
              exact ⟨Below.refl _ _, rfl⟩
            · refine step_pure hBs hFs rfl fun a' w' hB hag hp => ?_
              have h3 := hag 3 (by kernel_rfl)
              simp at h3
              unfold OpYields
              go_simp
              exact ⟨Below.refl _ _, rfl⟩
            · refine step_pure hBs hFs rfl fun a' w' hB hag hp => ?_
              have h36 : a'.tmps.getD 36 undef = _ := hp 0 (by kernel_rfl)
              have h41 : a'.tmps.getD 41 undef = _ := hp 5 (by kernel_rfl)
              have h42 : a'.tmps.getD 42 undef = _ := hp 6 (by kernel_rfl)
              have h43 : a'.tmps.getD 43 undef = _ := hp 7 (by kernel_rfl)
              simp at h36 h41 h42 h43
              have hB' : Below W.heap.size W w' := hB
              unfold OpYields
              go_simp
              refine (pipe_any s p A c ls sw V cV x tick w' (HLr.out.below hB') (HVr.out.below hB') HFx.out).mono ?_
              rw [HPx.out]
              dsimp only
              rintro e w1 ⟨rfl, hb⟩
              exact ⟨_, rfl, hb, rfl⟩
            · refine step_pure hBs hFs rfl fun a' w' hB hag hp => ?_
              have h44 : a'.tmps.getD 44 undef = _ := hp 8 (by kernel_rfl)
              simp at h44
              unfold OpYields
              go_simp
              exact ⟨Below.refl _ _, rfl⟩
            · refine step_pure hBs hFs rfl fun a' w' hB hag hp => ?_
              have h35 : a'.tmps.getD 35 undef = _ := hp 9 (by kernel_rfl)
              simp at h35
              unfold OpYields
              go_simp
              exact ⟨Below.refl _ _, rfl⟩
            · refine step_pure hBs hFs rfl fun a' w' hB hag hp => ?_
              have h35 : a'.tmps.getD 35 undef = _ := hp 9 (by kernel_rfl)
              simp at h35
              unfold OpYields
              go_simp
              exact ⟨Below.refl _ _, rfl⟩
            · refine step_pure hBs hFs rfl fun a' w' hB hag hp => ?_
              unfold OpYields
              go_simp
              exact ⟨(Below.refl _ _).alloc (Nat.le_refl _) _, _, _, _, _, _, _, _, _, rfl, hB.size, by rw [heap_at, if_pos rfl]⟩
            · refine step_pure hBs hFs rfl fun a' w' hB hag hp => ?_
              unfold OpYields
              go_simp
              exact ⟨(Below.refl _ _).alloc (Nat.le_refl _) _, _, _, _, _, _, _, _, _, rfl, hB.size, by rw [heap_at, if_pos rfl]⟩
            · intro a' w' hB hag hp
              rw [if_pos (by kernel_rfl)]
              obtain ⟨q, c0, c1, c2, c3, c4, c5, c6, h1, h2, h3⟩ : ∃ q c0 c1 c2 c3 c4 c5 c6, a'.tmps.getD 15 undef = .pointer (some ⟨q, 0, none⟩) ∧ W.heap.size ≤ q ∧ w'.heap[q]? = some (.cells #[c0, c1, c2, c3, c4, c5, c6] 40) := hp 12 (by kernel_rfl)
              have h5 : a'.tmps.getD 45 undef = _ := hp 10 (by kernel_rfl)
              have h1' := h1
              simp at h1 h5
              have k0 := blk_cell h3 0
              have k1 := blk_cell h3 1
              have k2 := blk_cell h3 2
              have k3 := blk_cell h3 3
              have k4 := blk_cell h3 4
              have k5 := blk_cell h3 5
              have k6 := blk_cell h3 6
              have kf := fun i => blk_frozen h3 i
              simp at k0 k1 k2 k3 k4 k5 k6
              unfold OpYields
              go_simp
              obtain ⟨e1, hf⟩ := fill7 h3 (.int .i64 h.tick) (.int .i64 h.id) (.int .i64 h.sw) (.int .i64 h.inn) (.int .i64 h.tag) (.int .i64 h.what) (.int .i64 h.out)
              refine ⟨?_, ⟨q, h1', e1⟩, ?_⟩
              · exact below_set (below_set (below_set (below_set (below_set (below_set (below_set hB h2 _) h2 _) h2 _) h2 _) h2 _) h2 _) h2 _
              intro j vs hj hF
              by_cases hj1 : j = 12
              · subst hj1
                obtain ⟨q1, d0, d1, d2, d3, d4, d5, d6, e, e1', e2⟩ : ∃ q c0 c1 c2 c3 c4 c5 c6, vs 12 = .pointer (some ⟨q, 0, none⟩) ∧ W.heap.size ≤ q ∧ w'.heap[q]? = some (.cells #[c0, c1, c2, c3, c4, c5, c6] 40) := hF
                by_cases hbb : q1 = q
                · subst hbb
                  exact ⟨q1, _, _, _, _, _, _, _, e, e1', e1⟩
                · exact ⟨q1, _, _, _, _, _, _, _, e, e1', hf _ _ hbb e2⟩
              by_cases hj2 : j = 13
              · subst hj2
                obtain ⟨q1, d0, d1, d2, d3, d4, d5, d6, e, e1', e2⟩ : ∃ q c0 c1 c2 c3 c4 c5 c6, vs 13 = .pointer (some ⟨q, 0, none⟩) ∧ W.heap.size ≤ q ∧ w'.heap[q]? = some (.cells #[c0, c1, c2, c3, c4, c5, c6] 38) := hF
                have hne : q1 ≠ q := fun hh => by rw [hh, h3] at e2; cases e2
                exact ⟨q1, _, _, _, _, _, _, _, e, e1', hf _ _ hne e2⟩
              by_cases hj3 : j = 15
              · subst hj3
                obtain ⟨q1, e, e2⟩ : ∃ q, vs 13 = .pointer (some ⟨q, 0, none⟩) ∧ w'.heap[q]? = some (.cells #[.int .i64 g.id, .int .i64 g.src, .int .i64 g.dst, .int .i64 g.ttl, .int .i64 g.tag, .int .i64 g.sw, .int .i64 g.inn] 38) := hF
                have hne : q1 ≠ q := fun hh => by rw [hh, h3] at e2; cases e2
                exact ⟨q1, e, hf _ _ hne e2⟩
              exact lst_keep _ _ _ _ _ _ _ _ _ _ _ _ _ _ _ _ _ _ (by omega) hF
            · intro a' w' hB hag hp
              rw [if_pos (by kernel_rfl)]
              obtain ⟨q, c0, c1, c2, c3, c4, c5, c6, h1, h2, h3⟩ : ∃ q c0 c1 c2 c3 c4 c5 c6, a'.tmps.getD 16 undef = .pointer (some ⟨q, 0, none⟩) ∧ W.heap.size ≤ q ∧ w'.heap[q]? = some (.cells #[c0, c1, c2, c3, c4, c5, c6] 38) := hp 13 (by kernel_rfl)
              have h5 : a'.tmps.getD 46 undef = _ := hp 11 (by kernel_rfl)
              have h1' := h1
              simp at h1 h5
              have k0 := blk_cell h3 0
              have k1 := blk_cell h3 1
              have k2 := blk_cell h3 2
              have k3 := blk_cell h3 3
              have k4 := blk_cell h3 4
              have k5 := blk_cell h3 5
              have k6 := blk_cell h3 6
              have kf := fun i => blk_frozen h3 i
              simp at k0 k1 k2 k3 k4 k5 k6
              unfold OpYields
              go_simp
              obtain ⟨e1, hf⟩ := fill7 h3 (.int .i64 g.id) (.int .i64 g.src) (.int .i64 g.dst) (.int .i64 g.ttl) (.int .i64 g.tag) (.int .i64 g.sw) (.int .i64 g.inn)
              refine ⟨?_, ⟨q, h1', e1⟩, ?_⟩
              · exact below_set (below_set (below_set (below_set (below_set (below_set (below_set hB h2 _) h2 _) h2 _) h2 _) h2 _) h2 _) h2 _
              intro j vs hj hF
              by_cases hj1 : j = 13
              · subst hj1
                obtain ⟨q1, d0, d1, d2, d3, d4, d5, d6, e, e1', e2⟩ : ∃ q c0 c1 c2 c3 c4 c5 c6, vs 13 = .pointer (some ⟨q, 0, none⟩) ∧ W.heap.size ≤ q ∧ w'.heap[q]? = some (.cells #[c0, c1, c2, c3, c4, c5, c6] 38) := hF
                by_cases hbb : q1 = q
                · subst hbb
                  exact ⟨q1, _, _, _, _, _, _, _, e, e1', e1⟩
                · exact ⟨q1, _, _, _, _, _, _, _, e, e1', hf _ _ hbb e2⟩
              by_cases hj2 : j = 12
              · subst hj2
                obtain ⟨q1, d0, d1, d2, d3, d4, d5, d6, e, e1', e2⟩ : ∃ q c0 c1 c2 c3 c4 c5 c6, vs 12 = .pointer (some ⟨q, 0, none⟩) ∧ W.heap.size ≤ q ∧ w'.heap[q]? = some (.cells #[c0, c1, c2, c3, c4, c5, c6] 40) := hF
                have hne : q1 ≠ q := fun hh => by rw [hh, h3] at e2; cases e2
                exact ⟨q1, _, _, _, _, _, _, _, e, e1', hf _ _ hne e2⟩
              by_cases hj3 : j = 14
              · subst hj3
                obtain ⟨q1, e, e2⟩ : ∃ q, vs 12 = .pointer (some ⟨q, 0, none⟩) ∧ w'.heap[q]? = some (.cells #[.int .i64 h.tick, .int .i64 h.id, .int .i64 h.sw, .int .i64 h.inn, .int .i64 h.tag, .int .i64 h.what, .int .i64 h.out] 40) := hF
                have hne : q1 ≠ q := fun hh => by rw [hh, h3] at e2; cases e2
                exact ⟨q1, e, hf _ _ hne e2⟩
              exact lst_keep _ _ _ _ _ _ _ _ _ _ _ _ _ _ _ _ _ _ (by omega) hF
          intro vs w' hB hF
          simp only [AllF, forall_const, reduceCtorEq, false_implies, Fof, lstF, lstQ, Nat.zero_add, Nat.reduceAdd, Nat.reduceEqDiff, if_true, if_false, List.getD_cons_succ, List.getD_cons_zero] at hF
          obtain ⟨f0, f1, f2, f3, f4, f5, f6, f7, f8, f9, f10, f11, ⟨q15a, u0, u1, u2, u3, u4, u5, u6, f12, hq15a, hx15⟩, ⟨q16a, t0, t1, t2, t3, t4, t5, t6, f13, hq16a, hx16⟩, ⟨q14, f14, hb14⟩, ⟨q15, f15, hb15⟩, -⟩ := hF
          simp only [putAll, Act.put, Nat.zero_add, Nat.reduceAdd, f0, f1, f2, f3, f4, f5, f6, f7, f8, f9, f10, f11, f12, f13, f14, f15, List.setIfInBounds_toArray, List.set_cons_zero, List.set_cons_succ]
          obtain rfl : q14 = q15a := by
            rw [f12] at f14
            injection f14 with f14
            injection f14 with f14
            injection f14 with f14
            exact f14.symm
          obtain rfl : q15 = q16a := by
            rw [f13] at f15
            injection f15 with f15
            injection f15 with f15
            injection f15 with f15
            exact f15.symm
          have hB' : Below W.heap.size W w' := hB
          have hlen := linksP_len (s := s) (p := p) (ls := ls) (sws := sws) (tick := tick) (fs.take k)
          rw [List.length_take] at hlen
          have hBa := alloc_below w' (.cells #[.int .i64 h.sw, .int .i64 h.out] 56)
          have hB2 := below_call hB' hBa
          have hqW : W.heap.size ≤ q14 := hq15a
          have hqW2 : W.heap.size ≤ q15 := hq16a
          have hmbW := KM.out.lt
          have KHL := Aside.mk (fun b (e : _ = some b) => (KH.out.lt b e).2)
          have KNL := Aside.mk (fun b (e : _ = some b) => (KN.out.lt b e).2)
          have KN := Aside.mk (KN.out.below hB2)
          have KH := Aside.mk (KH.out.below hB2)
          have KB := Aside.mk (below_call KB1.out hB2)
          have KX := Aside.mk (blk_keep KX.out hB2)
          have KM := Aside.mk (KM.out.below KM.out.lt hB2)
          have HH := Aside.mk (blk_keep hb14 hBa)
          have HG := Aside.mk (blk_keep hb15 hBa)
          have HK := Aside.mk (heap_new w' (.cells #[.int .i64 h.sw, .int .i64 h.out] 56) rfl)
          have hwsz := hB'.size
          obtain ⟨A3, k3, rfl, -⟩ := KH.out.form
          obtain ⟨A4, k4, rfl, -⟩ := KN.out.form
          generalize hst : linksP s p ls sws (fs.take k) tick = stt at *
          have HST := Aside.mk (show linkStep s p ls sws tick stt x = if h.what = 0 then if 4 ≤ carried stt.2 h.sw h.out then (stt.1, stt.2 ++ [{ h with what := 7 }]) else (stt.1 ++ [g], stt.2 ++ [h]) else (stt.1, stt.2 ++ [h]) by
            unfold linkStep; rw [HAT.out]; dsimp only; rw [HPx.out])
          have p0 := blk_cell hb14 0
          have p1 := blk_cell hb14 1
          have p2 := blk_cell hb14 2
          have p3 := blk_cell hb14 3
          have p4 := blk_cell hb14 4
          have p5 := blk_cell hb14 5
          have p6 := blk_cell hb14 6
          simp at p0 p1 p2 p3 p4 p5 p6
          have hlq := blk_lt hb14
          have hlq2 := blk_lt hb15
          clear q0 q1 q2 q3 q4 q5 q6 f0 f1 f2 f3 f4 f5 f6 f7 f8 f9 f10 f11 f12 f13 f14 f15 hb15 hx15 hx16 hb14 hB hst
          by_cases hw0 : h.what = 0
          · have dw : (h.what == 0) = true := by simp [hw0]
            go_wp2
            have hkb : w'.heap.size < (w'.alloc (.cells #[.int .i64 h.sw, .int .i64 h.out] 56)).heap.size := by simp
            have hkm : some w'.heap.size ≠ some (w.heap.size + 1) := by intro e; injection e with e; have := KB1.out.size; omega
            generalize w'.alloc (.cells #[.int .i64 h.sw, .int .i64 h.out] 56) = W1 at *
            generalize w'.heap.size = kb at *
            have K0 := Aside.mk (blk_cell HK.out 0)
            have K1 := Aside.mk (blk_cell HK.out 1)
            have HC0 := Aside.mk (KC.out (h.sw, h.out))
            refine wp_region_facts_klK (Base := incB (w.heap.size + 1) (cnt 0 m) (h.sw, h.out) W1) 6 (incS (w.heap.size + 1) (cnt 0 m) (h.sw, h.out) W1) incQ incK (Fs := incF (w.heap.size + 1) (cnt 0 m) (h.sw, h.out) W1) (by kernel_rfl) (by kernel_rfl) (by kernel_rfl) (by kernel_rfl) (grown_of_below (below_drew (Below.refl _ _)) _) ⟨m, KM.out.drew, fun _ => rfl⟩ ?_ ?_
            · clear p0 p1 p2 p3 p4 p5 p6
              have hSs := incS_stay (w.heap.size + 1) (cnt 0 m) (h.sw, h.out) W1
              have hBs := incB_stay (w.heap.size + 1) (cnt 0 m) (h.sw, h.out) W1
              have hFs := incF_stay (w.heap.size + 1) (cnt 0 m) (h.sw, h.out) W1
              refine ⟨?_, ?_, ?_, ?_, ?_, ?_, ?_, trivial⟩
              · refine step_pureK hBs hSs hFs rfl fun a' w' hB hag hp hS => ?_
                have h12 := hag 12 (by kernel_rfl)
                simp at h12
                unfold OpYields
                go_simp
                exact ⟨Below.refl _ _, rfl⟩
              · refine step_pureK hBs hSs hFs rfl fun a' w' hB hag hp hS => ?_
                have h17 := hag 17 (by kernel_rfl)
                have hB : W1.grownBy w' (some (w.heap.size + 1)) := hB; have hk0 := blk_cell ((hB.block kb hkb hkm).trans HK.out) 0; have hk1 := blk_cell ((hB.block kb hkb hkm).trans HK.out) 1
                simp at h17
                unfold OpYields
                go_simp
                exact ⟨Below.refl _ _, rfl⟩
              · refine step_pureK hBs hSs hFs rfl fun a' w' hB hag hp hS => ?_
                have h55 : a'.tmps.getD 55 undef = _ := hp 0 (by kernel_rfl)
                have h56 : a'.tmps.getD 56 undef = _ := hp 1 (by kernel_rfl)
                have hB : W1.grownBy w' (some (w.heap.size + 1)) := hB; have hk0 := blk_cell ((hB.block kb hkb hkm).trans HK.out) 0; have hk1 := blk_cell ((hB.block kb hkb hkm).trans HK.out) 1
                obtain ⟨l, hm, hc⟩ := hS (by kernel_rfl)
                refine yields_look1 (b := w.heap.size + 1) _ _ rfl keyPair Try.underlying55 (d := 0) zeroI (h.sw, h.out) hm h55 h56 ?_
                rw [hc]
                exact ⟨Below.refl _ _, rfl⟩
              · refine step_pureK hBs hSs hFs rfl fun a' w' hB hag hp hS => ?_
                have h57 : a'.tmps.getD 57 undef = _ := hp 2 (by kernel_rfl)
                simp at h57
                have hwr : IntKind.i64.wrap (cnt 0 m (h.sw, h.out) + 1) = cnt 0 m (h.sw, h.out) + 1 := IntWalk.i64_in _ (by have := HC0.out; omega)
                unfold OpYields
                go_simp
                exact ⟨Below.refl _ _, rfl⟩
              · intro a' w' hB hag hp hS
                rw [if_pos (by kernel_rfl)]
                have h55 : a'.tmps.getD 55 undef = _ := hp 0 (by kernel_rfl)
                have h56 : a'.tmps.getD 56 undef = _ := hp 1 (by kernel_rfl)
                obtain ⟨l, hm, hc⟩ := hS (by kernel_rfl)
                refine yields_entry (b := w.heap.size + 1) _ _ rfl keyPair Try.underlying55 (d := 0) zeroI (h.sw, h.out) hm h55 h56 ?_
                intro v st w2 h1 h4 h2 h3
                have hc2 : ∀ y, cnt 0 (mentry l (h.sw, h.out) 0) y = cnt 0 m y := fun y => (cnt_mentry 0 l _ y).trans (hc y)
                refine ⟨hB.trans h2, fun _ _ => ⟨_, h1.map, hc2⟩, ⟨v, st, _, rfl, h1, hc2⟩, ?_⟩
                intro j vs hj hk hF
                exact inc_keep _ _ _ _ hm hc h1.map hc2 h4 hj hF
              · refine step_pureK hBs hSs hFs rfl fun a' w' hB hag hp hS => ?_
                have h59 := hp 4 (by kernel_rfl)
                replace h59 : _ := h59
                obtain ⟨z, st, l, e, hm, hc⟩ : ∃ z st l, a'.tmps.getD 59 undef = .tuple #[z, goInt st] ∧ GAt w' (w.heap.size + 1) pairV intV l (h.sw, h.out) st ∧ ∀ y, cnt 0 l y = cnt 0 m y := h59
                simp at e
                unfold OpYields
                go_simp
                exact ⟨Below.refl _ _, st, l, rfl, hm, hc⟩
              · intro a' w' hB hag hp hS
                rw [if_pos (by kernel_rfl)]
                have h55 : a'.tmps.getD 55 undef = _ := hp 0 (by kernel_rfl)
                have h58 : a'.tmps.getD 58 undef = _ := hp 3 (by kernel_rfl)
                obtain ⟨st, l, h60, hm, hc⟩ : ∃ st l, a'.tmps.getD 60 undef = goInt st ∧ GAt w' (w.heap.size + 1) pairV intV l (h.sw, h.out) st ∧ ∀ y, cnt 0 l y = cnt 0 m y := hp 5 (by kernel_rfl)
                refine yields_estore (b := w.heap.size + 1) _ _ _ rfl (h.sw, h.out) st (cnt 0 m (h.sw, h.out) + 1) hm h55 h60 h58 ?_
                intro w2 h1 h2 h3
                refine ⟨hB.trans h2, fun h => absurd rfl h, ⟨_, h1, fun y => by rw [cnt_mput, hc]⟩, ?_⟩
                intro j vs hj hk hF
                exact inc_keep6 _ _ _ _ hj hk hF
            intro vs w2 hB hF
            simp only [AllF, forall_const, reduceCtorEq, false_implies, Fof, incF, incQ, incK, Nat.zero_add, Nat.reduceAdd, Nat.reduceEqDiff, if_true, if_false, List.getD_cons_succ, List.getD_cons_zero] at hF
            obtain ⟨f0, f1, f2, f3, -, -, ⟨l6, hm6, f6⟩, -⟩ := hF
            simp only [putAll, Act.put, Nat.zero_add, Nat.reduceAdd, f0, f1, f2, f3, f6, List.setIfInBounds_toArray, List.set_cons_zero, List.set_cons_succ]
            have hB' : W1.grownBy w2 (some (w.heap.size + 1)) := hB
            have hmb1 : W.heap.size ≤ W1.heap.size := hB2.size
            have KX := Aside.mk ((hB'.block _ (blk_lt KX.out) (by simp)).trans KX.out)
            have HH := Aside.mk ((hB'.block _ (blk_lt HH.out) (by intro e; injection e with e; omega)).trans HH.out)
            have HG := Aside.mk ((hB'.block _ (blk_lt HG.out) (by intro e; injection e with e; omega)).trans HG.out)
            have HK := Aside.mk ((hB'.block _ (blk_lt HK.out) hkm).trans HK.out)
            have KN := Aside.mk (KN.out.kept hB' (.inr (gm_apart KN.out KM.out).symm))
            have KH := Aside.mk (KH.out.kept hB' (.inr (gm_apart KH.out KM.out).symm))
            have KB := Aside.mk (below_grown KB.out hB' (by omega))
            have KM := Aside.mk hm6
            have HF6 := Aside.mk f6
            have HQ : Aside ((mget l6 (h.sw, h.out)).getD 0 = cnt 0 m (h.sw, h.out) + 1) := Aside.mk ((f6 (h.sw, h.out)).trans (if_pos rfl))
            have p0 := blk_cell HH.out 0
            have p1 := blk_cell HH.out 1
            have p2 := blk_cell HH.out 2
            have p3 := blk_cell HH.out 3
            have p4 := blk_cell HH.out 4
            have p5 := blk_cell HH.out 5
            have p6 := blk_cell HH.out 6
            have pf := fun i => blk_frozen HH.out i
            have r0 := blk_cell HG.out 0
            have r1 := blk_cell HG.out 1
            have r2 := blk_cell HG.out 2
            have r3 := blk_cell HG.out 3
            have r4 := blk_cell HG.out 4
            have r5 := blk_cell HG.out 5
            have r6 := blk_cell HG.out 6
            have k0 := blk_cell HK.out 0
            have k1 := blk_cell HK.out 1
            simp at p0 p1 p2 p3 p4 p5 p6 r0 r1 r2 r3 r4 r5 r6 k0 k1
            have hlq := blk_lt HH.out
            have hlq2 := blk_lt HG.out
            have hlk := blk_lt HK.out
            have HW0 := Aside.mk hw0
            have hcar := HC0.out
            dsimp only at hcar
            clear f0 f1 f2 f3 f6 hm6 hB hB' hw0 hBa
            by_cases h4 : 4 < cnt 0 m (h.sw, h.out) + 1
            · have d4 : decide ((4 : Int) < cnt 0 m (h.sw, h.out) + 1) = true := decide_eq_true h4
              have HS1 := Aside.mk (HST.out.trans ((if_pos HW0.out).trans (if_pos (by omega))))
              have H4 := Aside.mk h4
              clear h4 hcar
              go_wp2_with (first
                | (at_lookup; refine wp_look1 _ rfl _ _ rfl keyPair Try.underlying55 (d := 0) (zeroI _) (h.sw, h.out) KM.out rfl rfl ?_; rw [HQ.out])
                | (at_builtin; have KN := Aside.mk (KN.out.far (p := ⟨q14, 5, none⟩) (fun e => absurd (KNL.out q14 e) (by omega)) (.int .i64 7)); have KH := Aside.mk (KH.out.far (p := ⟨q14, 5, none⟩) (fun e => absurd (KHL.out q14 e) (by omega)) (.int .i64 7)); have KX := Aside.mk (blk_far (p := ⟨q14, 5, none⟩) KX.out (by simp; omega) (.int .i64 7)); have KM := Aside.mk (KM.out.keep (blk_far (p := ⟨q14, 5, none⟩) rfl (by simp; omega) (.int .i64 7))); have KB := Aside.mk (below_set (p := ⟨q14, 5, none⟩) KB.out (by simp; omega) (.int .i64 7)); refine wp_app1 (f := hopF) w.heap.size rfl _ _ _ _ _ _ rfl Try.underlying29 infoHop2 rfl (by decide) (.slice A3 stt.2.length k3) stt.2 { h with what := 7 } _ rfl rfl (by go_simp) KH.out (by have := KB.out.size; omega) (by omega) ?_; intro v1 w3 ho1 hg1 hat1; have KN := Aside.mk (KN.out.kept hg1 (KN.out.apart KH.out (by decide))); have KX := Aside.mk ((hg1.block _ (blk_lt KX.out) (fun e => KH.out.ne_type KX.out (by decide) e.symm)).trans KX.out); have KB := Aside.mk (below_own KB.out hg1 (fun b e => ⟨(KH.out.lt b e).1, (KH.out.lt b e).2⟩)); have KM := Aside.mk (KM.out.keep (hg1.block _ KM.out.lt (gm_apart KH.out KM.out))); have KH1 := Aside.mk ho1; clear hg1 ho1 hat1))
              exact ⟨⟨k + 1, by omega, by go_num, by rw [hsn.out, HS1.out]; exact KN.out, by rw [hsn.out, HS1.out]; exact KH1.out, KB.out, KX.out, l6, KM.out, by rw [hsn.out, HS1.out]; exact KC.out.full _ (by simp) (h.sw, h.out) H4.out HF6.out⟩, by simp [intOf]; omega⟩
            · have d4 : decide ((4 : Int) < cnt 0 m (h.sw, h.out) + 1) = false := decide_eq_false h4
              have HS1 := Aside.mk (HST.out.trans ((if_pos HW0.out).trans (if_neg (by omega))))
              have H4 := Aside.mk h4
              clear h4 hcar
              go_wp2_with (first
                | (at_lookup; refine wp_look1 _ rfl _ _ rfl keyPair Try.underlying55 (d := 0) (zeroI _) (h.sw, h.out) KM.out rfl rfl ?_; rw [HQ.out])
                | (have hfl := HFL; clear hfl; at_builtin; refine wp_app1 (f := hopF) w.heap.size rfl _ _ _ _ _ _ rfl Try.underlying29 infoHop2 rfl (by decide) (.slice A3 stt.2.length k3) stt.2 h _ rfl rfl (by go_simp) KH.out (by have := KB.out.size; omega) (by omega) ?_; intro v1 w4 ho1 hg1 hat1; have KN1 := Aside.mk (KN1.out.kept hg1 (KN1.out.apart KH.out (by decide))); have KX := Aside.mk ((hg1.block _ (blk_lt KX.out) (fun e => KH.out.ne_type KX.out (by decide) e.symm)).trans KX.out); have KB := Aside.mk (below_own KB.out hg1 (fun b e => ⟨(KH.out.lt b e).1, (KH.out.lt b e).2⟩)); have KM := Aside.mk (KM.out.keep (hg1.block _ KM.out.lt (gm_apart KH.out KM.out))); have KH1 := Aside.mk ho1; clear hg1 ho1 hat1)
                | (at_builtin; refine wp_app1 (f := flyF) w.heap.size rfl _ _ _ _ _ _ rfl Try.underlying26 infoFly rfl (by decide) (.slice A4 stt.1.length k4) stt.1 g _ rfl rfl (by go_simp) KN.out (by have := KB.out.size; omega) (by omega) ?_; intro v2 w3 ho2 hg2 hat2; have KH := Aside.mk (KH.out.kept hg2 (KH.out.apart KN.out (by decide))); have KX := Aside.mk ((hg2.block _ (blk_lt KX.out) (fun e => KN.out.ne_type KX.out (by decide) e.symm)).trans KX.out); have KB := Aside.mk (below_own KB.out hg2 (fun b e => ⟨(KN.out.lt b e).1, (KN.out.lt b e).2⟩)); have KM := Aside.mk (KM.out.keep (hg2.block _ KM.out.lt (gm_apart KN.out KM.out))); have HH := Aside.mk ((hg2.block _ (blk_lt HH.out) (fun e => by have := KNL.out _ e.symm; omega)).trans HH.out); have p0 := blk_cell HH.out 0; have p1 := blk_cell HH.out 1; have p2 := blk_cell HH.out 2; have p3 := blk_cell HH.out 3; have p4 := blk_cell HH.out 4; have p5 := blk_cell HH.out 5; have p6 := blk_cell HH.out 6; simp at p0 p1 p2 p3 p4 p5 p6; have KN1 := Aside.mk ho2; have HFL : Aside True := .mk trivial; clear hg2 ho2 hat2))
              exact ⟨⟨k + 1, by omega, by go_num, by rw [hsn.out, HS1.out]; exact KN1.out, by rw [hsn.out, HS1.out]; exact KH1.out, KB.out, KX.out, l6, KM.out, by rw [hsn.out, HS1.out]; exact KC.out.went h HW0.out H4.out HF6.out⟩, by simp [intOf]; omega⟩
          · have dw : (h.what == 0) = false := by simp [hw0]
            have HS1 := Aside.mk (HST.out.trans (if_neg hw0))
            have HW0 := Aside.mk hw0
            clear hw0
            go_wp2_with (at_builtin; refine wp_app1 (f := hopF) w.heap.size rfl _ _ _ _ _ _ rfl Try.underlying29 infoHop2 rfl (by decide) (.slice A3 stt.2.length k3) stt.2 h _ rfl rfl (by go_simp) KH.out (by have := KB.out.size; omega) (by omega) ?_; intro v1 w2 ho1 hg1 hat1; have KN := Aside.mk (KN.out.kept hg1 (KN.out.apart KH.out (by decide))); have KX := Aside.mk ((hg1.block _ (blk_lt KX.out) (fun e => KH.out.ne_type KX.out (by decide) e.symm)).trans KX.out); have KB := Aside.mk (below_own KB.out hg1 (fun b e => ⟨(KH.out.lt b e).1, (KH.out.lt b e).2⟩)); have KM := Aside.mk (KM.out.keep (hg1.block _ KM.out.lt (gm_apart KH.out KM.out))); have KH1 := Aside.mk ho1; clear hg1 ho1 hat1)
            exact ⟨⟨k + 1, by omega, by go_num, by rw [hsn.out, HS1.out]; exact KN.out, by rw [hsn.out, HS1.out]; exact KH1.out, KB.out, KX.out, m, KM.out, by rw [hsn.out, HS1.out]; exact KC.out.none h HW0.out⟩, by simp [intOf]; omega⟩
    · obtain rfl : k = fs.length := by omega
      have KN2 := KN.out
      have KH2 := KH.out
      rw [List.take_length] at KN2 KH2
      have KN3 := Aside.mk KN2
      have KH3 := Aside.mk KH2
      clear KN2 KH2
      go_wp2
      exact bodyPost_ret (v := .tuple #[_, _]) (by simp [results, Try.results9, go_sem]) rfl ⟨_, _, rfl, KN3.out, KH3.out, KB.out⟩
end Go.Proofs.Ytajmchdmophdjaa
