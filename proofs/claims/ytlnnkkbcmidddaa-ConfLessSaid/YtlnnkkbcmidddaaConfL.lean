/- The walk through ConfLess. -/
import Derived.Test.YtlnnkkbcmidddaaConfH
namespace Go.Proofs.Ytlnnkkbcmidddaa
open Go.RowKit
set_option maxRecDepth 100000
theorem exists_list {α : Type} {P : Nat → α → Prop} : ∀ n, (∀ i, i < n → ∃ x, P i x) → ∃ l : List α, l.length = n ∧ ∀ (i : Nat) (x : α), l[i]? = some x → P i x
  | 0, _ => ⟨[], rfl, fun i x h => by simp at h⟩
  | n + 1, h => by
    obtain ⟨l, hl, hp⟩ := exists_list n (fun i hi => h i (by omega))
    obtain ⟨x, hx⟩ := h n (by omega)
    refine ⟨l ++ [x], by simp [hl], fun i y hy => ?_⟩
    by_cases hi : i < l.length
    · rw [List.getElem?_append_left hi] at hy
      exact hp i y hy
    · rw [List.getElem?_append_right (by omega)] at hy
      have h0 : i - l.length = 0 := by
        have := (List.getElem?_eq_some_iff.1 hy).1
        simp at this
        omega
      rw [h0] at hy
      simp at hy
      subst hy
      rw [show i = n by omega]
      exact hx
/-- A configuration's headers. -/
theorem hdr_conf {w : World} {A : Option Addr} {cs : List (List Rul)} (h : Rd confD w A cs.length cs) : ∃ hs : List Hdr, hs.length = cs.length ∧ Rd hdrF.kd w A hs.length hs ∧ ∀ (i : Nat) (x : Hdr) (l : List Rul), hs[i]? = some x → cs[i]? = some l → HdrOf w x l := by
  by_cases h0 : 0 < cs.length
  · obtain ⟨b, o, hA, hb, hc⟩ := h.2.2 h0
    obtain ⟨hs, hl, hp⟩ := exists_list (P := fun i (x : Hdr) => ∃ l, cs[i]? = some l ∧ HdrOf w x l ∧ w.cell? ⟨b, o + i, none⟩ = some (hdrV x)) cs.length (fun i hi => by
      obtain ⟨b', o', A', n', e, hbl, hcell, h1, h2, h3⟩ := conf_cell h (Below.refl _ w) hi
      rw [hA] at e
      injection e with e
      injection e with e1 e2 _
      subst e1 e2
      exact ⟨(A', cs[i].length, n'), cs[i], List.getElem?_eq_getElem hi, ⟨rfl, h1, h2, h3⟩, hcell⟩)
    refine ⟨hs, hl, ⟨rfl, by rw [hl]; exact h.max, fun _ => ⟨b, o, hA, hb, fun i x hx => ?_⟩⟩, fun i x l hx hcl => ?_⟩
    · obtain ⟨l, -, -, h3⟩ := hp i x hx
      refine ⟨[hdrV x], rfl, fun j u hj => ?_⟩
      match j with
      | 0 =>
        cases hj
        show w.cell? ⟨b, o + (i * 1 + 0), none⟩ = _
        rw [Nat.mul_one, Nat.add_zero]
        exact h3
      | j + 1 => simp at hj
    · obtain ⟨l', h1, h2, -⟩ := hp i x hx
      rw [hcl] at h1
      cases h1
      exact h2
  · have : cs = [] := List.length_eq_zero_iff.1 (by omega)
    subst this
    exact ⟨[], rfl, Rd.nil _ _ _, fun i x l hx => by simp at hx⟩
theorem rulesP_drop {p : Int} {l : List Rul} (h : rulesP p l = true) : rulesP p (l.drop 1) = true := by
  unfold rulesP at h ⊢
  simp only [Bool.and_eq_true, decide_eq_true_eq, List.all_eq_true] at h ⊢
  refine ⟨⟨by rw [List.length_drop]; omega, ?_⟩, fun r hr => h.2 r (List.mem_of_mem_drop hr)⟩
  rw [List.map_drop]
  exact (List.drop_sublist 1 _).nodup h.1.2
theorem rulesP_twice {p : Int} {l : List Rul} {r : Rul} (hr : r ∈ l) : rulesP p (l ++ [r]) = false := by
  unfold rulesP
  rw [decide_eq_false (p := ((l ++ [r]).map keyR).Nodup)]
  · simp
  · intro h
    rw [List.map_append, List.nodup_append] at h
    exact h.2.2 _ (List.mem_map.2 ⟨r, hr, rfl⟩) _ (by simp) rfl
theorem may_less {s p : Int} {ls : List Lnk} {cs : List (List Rul)} {k : Nat} (hk : k < cs.length) (h : mayC s p ls cs = true) : mayC s p ls (cs.set k (cs[k].drop 1)) = true := by
  obtain ⟨h1, h2, h3⟩ := mayC_parts h
  refine mayC_mk h1 (by rw [List.length_set]; exact h2) (fun l hl => ?_)
  rcases List.mem_or_eq_of_mem_set hl with hl | rfl
  · exact h3 l hl
  · exact rulesP_drop (h3 _ (List.getElem_mem hk))
theorem may_twice {s p : Int} {ls : List Lnk} {cs : List (List Rul)} {k : Nat} (hk : k < cs.length) {r : Rul} (hr : r ∈ cs[k]) : mayC s p ls (cs.set k (cs[k] ++ [r])) = false := by
  unfold mayC
  have : (cs.set k (cs[k] ++ [r])).all (rulesP p) = false := by
    rw [List.all_eq_false]
    exact ⟨cs[k] ++ [r], List.mem_set hk _, by rw [rulesP_twice hr]; decide⟩
  rw [this]
  simp
theorem same_less {cs : List (List Rul)} {k : Nat} (hk : k < cs.length) (h0 : 0 < cs[k].length) : sameC cs (cs.set k (cs[k].drop 1)) = false := by
  unfold sameC
  refine decide_eq_false (fun h => ?_)
  have h1 := congrArg (fun l : List (List Rul) => l[k]?.map List.length) h
  simp only [List.getElem?_map, List.getElem?_set_self hk, List.getElem?_eq_getElem hk, Option.map_some, sortP_len, List.length_drop, Option.some.injEq] at h1
  omega
/-- Headers of lists, wherever they lie. -/
def HdrsOf (w : World) (hs : List Hdr) (ls : List (List Rul)) : Prop := ls.length = hs.length ∧ ∀ (i : Nat) (x : Hdr) (l : List Rul), hs[i]? = some x → ls[i]? = some l → HdrOf w x l
theorem HdrsOf.below {w w' : World} {hs : List Hdr} {ls : List (List Rul)} (h : HdrsOf w hs ls) (hb : Below w.heap.size w w') : HdrsOf w' hs ls := ⟨h.1, fun i x l hx hl => (h.2 i x l hx hl).below hb⟩
theorem HdrsOf.set {w : World} {hs : List Hdr} {ls : List (List Rul)} (h : HdrsOf w hs ls) (k : Nat) {x : Hdr} {l : List Rul} (hx : HdrOf w x l) : HdrsOf w (hs.set k x) (ls.set k l) := by
  refine ⟨by simp [h.1], fun i y m hy hm => ?_⟩
  by_cases hi : k = i
  · subst hi
    have h1 : k < hs.length := by
      have := (List.getElem?_eq_some_iff.1 hy).1
      simpa using this
    rw [List.getElem?_set_self h1] at hy
    rw [List.getElem?_set_self (by rw [h.1]; exact h1)] at hm
    cases hy
    cases hm
    exact hx
  · rw [List.getElem?_set_ne hi] at hy hm
    exact h.2 i y m hy hm
theorem HdrsOf.conf {w : World} {base' : Nat} {hs : List Hdr} {ls : List (List Rul)} {A : Option Addr} {n c : Nat} {e : TypeId} (h : HdrsOf w hs ls) (hv : Own hdrF w base' e (.slice A n c) hs) : Rd confD w A ls.length ls := by
  obtain ⟨A', c', e1, -, hr⟩ := hv.rd
  injection e1 with e1 e2 e3
  subst e1 e2 e3
  rw [h.1]
  exact conf_hdr hr h.1 h.2
theorem hdr_drop {w : World} {b o n n' : Nat} {x : List Rul} (h : HdrOf w (some ⟨b, o, none⟩, n, n') x) (h0 : 0 < x.length) : HdrOf w (if n' = 1 then some ⟨b, o, none⟩ else some ⟨b, o + 6, none⟩, x.length - 1, n' - 1) (x.drop 1) := by
  obtain ⟨-, h2, -, h4⟩ := h
  have h2 : x.length ≤ n' := h2
  refine ⟨by rw [List.length_drop], by rw [List.length_drop]; show x.length - 1 ≤ n' - 1; omega, fun h => ?_, ?_⟩
  · dsimp only at h
    split at h <;> cases h
  · have hd := Rd.drop (k := 1) h4 (by omega)
    dsimp only
    split
    · rename_i e
      have hx : x.drop 1 = [] := List.drop_eq_nil_of_le (by omega)
      rw [hx]
      exact Rd.nil _ _ _
    · rw [List.length_drop]
      exact hd
set_option maxHeartbeats 1000000 in
theorem confLess_not (s p : Int) (A : Option Addr) (c : Nat) (ls : List Lnk) (B : Option Addr) (d : Nat) (cs : List (List Rul)) (sw : Int) (w : World) (hl : Rd lnkD w A ls.length ls) (hT : FitT s p c ls) (hx : Rd confD w B cs.length cs) (hFx : ∀ l ∈ cs, ∀ r ∈ l, FitR r) (hdx : cs.length ≤ d) (hsw : Fit sw) (hm : mayC s p ls cs = false) : Calls Try.prog 8 #[.agg #[.int .i64 s, .int .i64 p, .slice A ls.length c], .slice B cs.length d, .int .i64 sw] w fun e w' => e = .returned (.bool true) ∧ Below w.heap.size w w' := by
  have HL := Aside.mk hl; have HA := Aside.mk hx; have hmx := hl.max; have hmy := hx.max; have KB := Aside.mk (below_alloc (Below.refl _ w) (.cells #[.int .i64 s, .int .i64 p, .slice A ls.length c] 24)); have HX := Aside.mk (heapN w (.cells #[.int .i64 s, .int .i64 p, .slice A ls.length c] 24) rfl); clear hl hT hFx hdx
  have HM := Aside.mk hm
  clear hm hsw hx
  go_enter Try.func8, Try.ntmps8
  go_wp2_with (first | (go_at_call 16; refine (awake12_any _).mono ?_; rintro e1 w1 ⟨rfl, hb1⟩; have KB := Aside.mk (below_call KB.out hb1); have HX := Aside.mk (blk_keep HX.out hb1); have hlx := blk_lt HX.out; have t0 := blk_cell HX.out 0; have t1 := blk_cell HX.out 1; have t2 := blk_cell HX.out 2; simp at t0 t1 t2; clear hb1) | (go_at_call 12; refine (confMay_any s p A c ls cs B d _ (HL.out.below KB.out) (HA.out.below KB.out)).mono ?_; rw [HM.out]; rintro e3 w3 ⟨rfl, hb1⟩; have KB := Aside.mk (below_call KB.out hb1); have HX := Aside.mk (blk_keep HX.out hb1); clear t0 t1 t2 hlx; clear hb1))
  go_ret
  exact ⟨rfl, KB.out⟩
set_option maxHeartbeats 1000000 in
theorem confLess_lo (s p : Int) (A : Option Addr) (c : Nat) (ls : List Lnk) (B : Option Addr) (d : Nat) (cs : List (List Rul)) (sw : Int) (w : World) (hl : Rd lnkD w A ls.length ls) (hT : FitT s p c ls) (hx : Rd confD w B cs.length cs) (hFx : ∀ l ∈ cs, ∀ r ∈ l, FitR r) (hdx : cs.length ≤ d) (hsw : Fit sw) (hm : mayC s p ls cs = true) (h1 : sw < 0) : Calls Try.prog 8 #[.agg #[.int .i64 s, .int .i64 p, .slice A ls.length c], .slice B cs.length d, .int .i64 sw] w fun e w' => e = .returned (.bool true) ∧ Below w.heap.size w w' := by
  have HL := Aside.mk hl; have HA := Aside.mk hx; have hmx := hl.max; have hmy := hx.max; have KB := Aside.mk (below_alloc (Below.refl _ w) (.cells #[.int .i64 s, .int .i64 p, .slice A ls.length c] 24)); have HX := Aside.mk (heapN w (.cells #[.int .i64 s, .int .i64 p, .slice A ls.length c] 24) rfl); clear hl hT hFx hdx
  have HM := Aside.mk hm
  have d1 : decide (sw < 0) = true := decide_eq_true h1
  clear hm h1 hsw hx
  go_enter Try.func8, Try.ntmps8
  go_wp2_with (first | (go_at_call 16; refine (awake12_any _).mono ?_; rintro e1 w1 ⟨rfl, hb1⟩; have KB := Aside.mk (below_call KB.out hb1); have HX := Aside.mk (blk_keep HX.out hb1); have hlx := blk_lt HX.out; have t0 := blk_cell HX.out 0; have t1 := blk_cell HX.out 1; have t2 := blk_cell HX.out 2; simp at t0 t1 t2; clear hb1) | (go_at_call 12; refine (confMay_any s p A c ls cs B d _ (HL.out.below KB.out) (HA.out.below KB.out)).mono ?_; rw [HM.out]; rintro e3 w3 ⟨rfl, hb1⟩; have KB := Aside.mk (below_call KB.out hb1); have HX := Aside.mk (blk_keep HX.out hb1); clear t0 t1 t2 hlx; clear hb1))
  go_ret
  exact ⟨rfl, KB.out⟩
set_option maxHeartbeats 1000000 in
theorem confLess_hi (s p : Int) (A : Option Addr) (c : Nat) (ls : List Lnk) (B : Option Addr) (d : Nat) (cs : List (List Rul)) (sw : Int) (w : World) (hl : Rd lnkD w A ls.length ls) (hT : FitT s p c ls) (hx : Rd confD w B cs.length cs) (hFx : ∀ l ∈ cs, ∀ r ∈ l, FitR r) (hdx : cs.length ≤ d) (hsw : Fit sw) (hm : mayC s p ls cs = true) (h1 : ¬ sw < 0) (h2 : (cs.length : Int) ≤ sw) : Calls Try.prog 8 #[.agg #[.int .i64 s, .int .i64 p, .slice A ls.length c], .slice B cs.length d, .int .i64 sw] w fun e w' => e = .returned (.bool true) ∧ Below w.heap.size w w' := by
  have HL := Aside.mk hl; have HA := Aside.mk hx; have hmx := hl.max; have hmy := hx.max; have KB := Aside.mk (below_alloc (Below.refl _ w) (.cells #[.int .i64 s, .int .i64 p, .slice A ls.length c] 24)); have HX := Aside.mk (heapN w (.cells #[.int .i64 s, .int .i64 p, .slice A ls.length c] 24) rfl); clear hl hT hFx hdx
  have HM := Aside.mk hm
  have d1 : decide (sw < 0) = false := decide_eq_false h1
  have d2 : decide ((cs.length : Int) ≤ sw) = true := decide_eq_true h2
  clear hm h1 h2 hsw hx
  go_enter Try.func8, Try.ntmps8
  go_wp2_with (first | (go_at_call 16; refine (awake12_any _).mono ?_; rintro e1 w1 ⟨rfl, hb1⟩; have KB := Aside.mk (below_call KB.out hb1); have HX := Aside.mk (blk_keep HX.out hb1); have hlx := blk_lt HX.out; have t0 := blk_cell HX.out 0; have t1 := blk_cell HX.out 1; have t2 := blk_cell HX.out 2; simp at t0 t1 t2; clear hb1) | (go_at_call 12; refine (confMay_any s p A c ls cs B d _ (HL.out.below KB.out) (HA.out.below KB.out)).mono ?_; rw [HM.out]; rintro e3 w3 ⟨rfl, hb1⟩; have KB := Aside.mk (below_call KB.out hb1); have HX := Aside.mk (blk_keep HX.out hb1); clear t0 t1 t2 hlx; clear hb1))
  go_ret
  exact ⟨rfl, KB.out⟩
set_option maxHeartbeats 1000000 in
theorem confLess_nil (s p : Int) (A : Option Addr) (c : Nat) (ls : List Lnk) (B : Option Addr) (d : Nat) (cs : List (List Rul)) (sw : Int) (w : World) (hl : Rd lnkD w A ls.length ls) (hT : FitT s p c ls) (hx : Rd confD w B cs.length cs) (hFx : ∀ l ∈ cs, ∀ r ∈ l, FitR r) (hdx : cs.length ≤ d) (hsw : Fit sw) (hm : mayC s p ls cs = true) (k : Nat) (hk : k < cs.length) (he : sw = (k : Int)) (hn : cs[k] = []) : Calls Try.prog 8 #[.agg #[.int .i64 s, .int .i64 p, .slice A ls.length c], .slice B cs.length d, .int .i64 sw] w fun e w' => e = .returned (.bool true) ∧ Below w.heap.size w w' := by
  subst he
  obtain ⟨b, o, A', n', rfl, hbl, hc0, -, -, -⟩ := conf_cell hx (Below.refl _ w) hk
  rw [hn] at hc0
  have C0 := Aside.mk hc0
  have HL := Aside.mk hl; have HA := Aside.mk hx; have hmx := hl.max; have hmy := hx.max; have KB := Aside.mk (below_alloc (Below.refl _ w) (.cells #[.int .i64 s, .int .i64 p, .slice A ls.length c] 24)); have HX := Aside.mk (heapN w (.cells #[.int .i64 s, .int .i64 p, .slice A ls.length c] 24) rfl); clear hl hT hFx hdx
  have HM := Aside.mk hm
  have d1 : decide ((k : Int) < 0) = false := decide_eq_false (by omega)
  have d2 : decide ((cs.length : Int) ≤ (k : Int)) = false := decide_eq_false (by omega)
  clear hm hsw hx hc0
  go_enter Try.func8, Try.ntmps8
  go_wp2_with (first | (go_at_call 16; refine (awake12_any _).mono ?_; rintro e1 w1 ⟨rfl, hb1⟩; have KB := Aside.mk (below_call KB.out hb1); have HX := Aside.mk (blk_keep HX.out hb1); have hlx := blk_lt HX.out; have t0 := blk_cell HX.out 0; have t1 := blk_cell HX.out 1; have t2 := blk_cell HX.out 2; simp at t0 t1 t2; clear hb1) | (go_at_call 12; refine (confMay_any s p A c ls cs _ d _ (HL.out.below KB.out) (HA.out.below KB.out)).mono ?_; rw [HM.out]; rintro e3 w3 ⟨rfl, hb1⟩; have KB := Aside.mk (below_call KB.out hb1); have HX := Aside.mk (blk_keep HX.out hb1); have c0 := (KB.out.cell (p := ⟨b, o + k, none⟩) hbl).trans C0.out; have hlb := Nat.lt_of_lt_of_le hbl KB.out.size; clear t0 t1 t2 hlx; clear hb1))
  go_ret
  exact ⟨rfl, KB.out⟩
theorem hdrF_at (k : Nat) : k * hdrF.sz + 0 = k := by show k * 1 + 0 = k; omega
theorem fresh_ne {v : Value} {g8 g9 : Nat} {n c : Nat} {W : World} (h : (Value.slice (some ⟨g9, 0, none⟩) n c).ownBlock = v.ownBlock ∨ ∃ b, (Value.slice (some ⟨g9, 0, none⟩) n c).ownBlock = some b ∧ W.heap.size ≤ b) (hg : g8 < W.heap.size) (hv : v.ownBlock = none := by rfl) : ¬ g8 = g9 := by
  intro e
  subst e
  rcases h with h | ⟨b, h1, h2⟩
  · rw [hv] at h
    cases h
  · have h3 : g8 = b := by injection h1
    omega
theorem grown_set2 (W : World) (b o : Nat) (v : Value) : W.grownBy (W.setCell ⟨b, o, none⟩ v) (some b) :=
  ⟨rfl, rfl, rfl, by simp, fun k _ hk => Below.heap_setCell _ _ _ k (fun e => hk (by rw [e]))⟩
def clsB (x y : List Rul) (r : Rul) (nl n9 : Nat) (A' : Option Addr) (p3 : Addr) (B : Option Addr) (n d k : Nat) (pa : Addr) (g9 c9 bw : Nat) (hs : List Hdr) (wr : World) (w' : World) : Prop :=
  wr.grownBy w' (some g9)
def clsF (x y : List Rul) (r : Rul) (nl n9 : Nat) (A' : Option Addr) (p3 : Addr) (B : Option Addr) (n d k : Nat) (pa : Addr) (g9 c9 bw : Nat) (hs : List Hdr) (wr : World) : List (Value → Value → World → Prop) :=
  [fun _ v _ => v = .slice (some ⟨g9, 0, none⟩) n c9,
   fun _ v _ => v = .int .i64 k,
   fun _ v _ => v = .slice B n d,
   fun _ v _ => v = .int .i64 k,
   fun _ v _ => v = .pointer (some pa),
   fun _ v _ => v = .slice A' nl n9,
   fun _ v w' => Own rulF w' wr.heap.size 58 v x,
   fun _ v _ => v = .slice B n d,
   fun _ v _ => v = .int .i64 k,
   fun _ v _ => v = .pointer (some pa),
   fun _ v _ => v = .slice A' nl n9,
   fun _ v _ => v = .pointer (some p3),
   fun _ v _ => v = rulV r,
   fun _ v w' => ∃ g, v = .slice (some ⟨g, 0, none⟩) 1 1 ∧ wr.heap.size ≤ g ∧ w'.heap[g]? = some (.cells #[.int .i64 r.addr, .int .i64 r.len, .int .i64 r.inn, .int .i64 r.prio, .int .i64 r.kind, .int .i64 r.port] 58),
   fun _ v w' => Own rulF w' wr.heap.size 58 v y,
   fun _ v _ => v = .pointer (some ⟨g9, k, none⟩),
   fun u _ w' => ∃ h, u = hdrV h ∧ Own hdrF w' bw 33 (.slice (some ⟨g9, 0, none⟩) hs.length c9) (hs.set k h)]
def clsQ : Nat → Nat := fun i => if i = 16 then 14 else i
def clsK : Nat → Option Nat := fun i => if i = 6 then some 14 else if i = 13 then some 14 else none
def clsS (x y : List Rul) (r : Rul) (nl n9 : Nat) (A' : Option Addr) (p3 : Addr) (B : Option Addr) (n d k : Nat) (pa : Addr) (g9 c9 bw : Nat) (hs : List Hdr) (wr : World) (w' : World) : Prop :=
  Own hdrF w' bw 33 (.slice (some ⟨g9, 0, none⟩) hs.length c9) hs
theorem clsS_stay (x y : List Rul) (r : Rul) (nl n9 : Nat) (A' : Option Addr) (p3 : Addr) (B : Option Addr) (n d k : Nat) (pa : Addr) (g9 c9 bw : Nat) (hs : List Hdr) (wr : World) : Stays (clsS x y r nl n9 A' p3 B n d k pa g9 c9 bw hs wr) := by
  intro w' w'' hb h
  exact h.below hb
theorem clsF_stay (x y : List Rul) (r : Rul) (nl n9 : Nat) (A' : Option Addr) (p3 : Addr) (B : Option Addr) (n d k : Nat) (pa : Addr) (g9 c9 bw : Nat) (hs : List Hdr) (wr : World) : AllStay (clsF x y r nl n9 A' p3 B n d k pa g9 c9 bw hs wr) := by
  intro F hF u v w' w'' hb h
  simp only [clsF, List.mem_cons, List.not_mem_nil, or_false] at hF
  rcases hF with rfl | rfl | rfl | rfl | rfl | rfl | rfl | rfl | rfl | rfl | rfl | rfl | rfl | rfl | rfl | rfl | rfl
  · exact h
  · exact h
  · exact h
  · exact h
  · exact h
  · exact h
  · exact h.below hb
  · exact h
  · exact h
  · exact h
  · exact h
  · exact h
  · exact h
  · obtain ⟨g, e, hl, hr⟩ := h
    exact ⟨g, e, hl, blk_keep hr hb⟩
  · exact h.below hb
  · exact h
  · obtain ⟨h, e1, e2⟩ := h
    exact ⟨h, e1, e2.below hb⟩
theorem clsB_stay (x y : List Rul) (r : Rul) (nl n9 : Nat) (A' : Option Addr) (p3 : Addr) (B : Option Addr) (n d k : Nat) (pa : Addr) (g9 c9 bw : Nat) (hs : List Hdr) (wr : World) : Stays (clsB x y r nl n9 A' p3 B n d k pa g9 c9 bw hs wr) := by
  intro w' w'' hb h
  exact h.trans (grown_of_below hb _)
def cleB (s p : Int) (A : Option Addr) (nl c : Nat) (B : Option Addr) (n d k : Nat) (pa : Addr) (g8 c8 g9 c9 : Nat) (A' : Option Addr) (nx n9 : Nat) (xd : List Rul) (wr : World) (w' : World) : Prop :=
  Below wr.heap.size wr w'
def cleF (s p : Int) (A : Option Addr) (nl c : Nat) (B : Option Addr) (n d k : Nat) (pa : Addr) (g8 c8 g9 c9 : Nat) (A' : Option Addr) (nx n9 : Nat) (xd : List Rul) (wr : World) : List (Value → Value → World → Prop) :=
  [fun _ v _ => v = .agg #[.int .i64 s, .int .i64 p, .slice A nl c],
   fun _ v _ => v = .slice (some ⟨g8, 0, none⟩) n c8,
   fun _ v _ => v = .bool true,
   fun _ v _ => v = .bool true,
   fun _ v _ => v = .slice B n d,
   fun _ v _ => v = .slice (some ⟨g8, 0, none⟩) n c8,
   fun _ v _ => v = .bool false,
   fun _ v _ => v = .bool true,
   fun _ v _ => v = .bool true,
   fun _ v _ => v = .bool true,
   fun _ v _ => v = .agg #[.int .i64 s, .int .i64 p, .slice A nl c],
   fun _ v _ => v = .slice (some ⟨g9, 0, none⟩) n c9,
   fun _ v _ => v = .bool false,
   fun _ v _ => v = .bool true,
   fun _ v _ => v = .bool true,
   fun _ v _ => v = .bool true,
   fun _ v _ => v = .slice (some ⟨g8, 0, none⟩) n c8,
   fun _ v _ => v = .int .i64 k,
   fun _ v w' => Own rulF w' wr.heap.size 58 v xd,
   fun _ v _ => v = .int .i64 xd.length,
   fun _ v _ => v = .slice B n d,
   fun _ v _ => v = .int .i64 k,
   fun _ v _ => v = .pointer (some pa),
   fun _ v _ => v = .slice A' nx n9,
   fun _ v _ => v = .int .i64 nx,
   fun _ v _ => v = .int .i64 ((nx : Int) - 1),
   fun _ v _ => v = .bool true,
   fun _ v _ => v = .bool true,
   fun _ v _ => v = .bool true]
def cleQ : Nat → Nat := fun i => i
theorem cleF_stay (s p : Int) (A : Option Addr) (nl c : Nat) (B : Option Addr) (n d k : Nat) (pa : Addr) (g8 c8 g9 c9 : Nat) (A' : Option Addr) (nx n9 : Nat) (xd : List Rul) (wr : World) : AllStay (cleF s p A nl c B n d k pa g8 c8 g9 c9 A' nx n9 xd wr) := by
  intro F hF u v w' w'' hb h
  simp only [cleF, List.mem_cons, List.not_mem_nil, or_false] at hF
  rcases hF with rfl | rfl | rfl | rfl | rfl | rfl | rfl | rfl | rfl | rfl | rfl | rfl | rfl | rfl | rfl | rfl | rfl | rfl | rfl | rfl | rfl | rfl | rfl | rfl | rfl | rfl | rfl | rfl | rfl
  · exact h
  · exact h
  · exact h
  · exact h
  · exact h
  · exact h
  · exact h
  · exact h
  · exact h
  · exact h
  · exact h
  · exact h
  · exact h
  · exact h
  · exact h
  · exact h
  · exact h
  · exact h
  · exact h.below hb
  · exact h
  · exact h
  · exact h
  · exact h
  · exact h
  · exact h
  · exact h
  · exact h
  · exact h
  · exact h
theorem cleB_stay (s p : Int) (A : Option Addr) (nl c : Nat) (B : Option Addr) (n d k : Nat) (pa : Addr) (g8 c8 g9 c9 : Nat) (A' : Option Addr) (nx n9 : Nat) (xd : List Rul) (wr : World) : Stays (cleB s p A nl c B n d k pa g8 c8 g9 c9 A' nx n9 xd wr) := by
  intro w' w'' hb h
  exact below_call h hb
set_option maxHeartbeats 2000000 in
theorem confLess_one (s p : Int) (A : Option Addr) (c : Nat) (ls : List Lnk) (B : Option Addr) (d : Nat) (cs : List (List Rul)) (sw : Int) (w : World) (hl : Rd lnkD w A ls.length ls) (hT : FitT s p c ls) (hx : Rd confD w B cs.length cs) (hFx : ∀ l ∈ cs, ∀ r ∈ l, FitR r) (hdx : cs.length ≤ d) (hsw : Fit sw) (hm : mayC s p ls cs = true) (k : Nat) (hk : k < cs.length) (he : sw = (k : Int)) (x : List Rul) (hxk : cs[k] = x) (h0 : 0 < x.length) (r : Rul) (hr0 : x[0] = r) (hcap : ∃ A9 n9, w.cell? ⟨(B.getD ⟨0, 0, none⟩).block, (B.getD ⟨0, 0, none⟩).off + k, none⟩ = some (.slice A9 x.length n9) ∧ n9 = 1) : Calls Try.prog 8 #[.agg #[.int .i64 s, .int .i64 p, .slice A ls.length c], .slice B cs.length d, .int .i64 sw] w fun e w' => e = .returned (.bool true) ∧ Below w.heap.size w w' := by
  subst he
  obtain ⟨b, o, A', n9, rfl, hbl, hc0, hn1, -, hr⟩ := conf_cell hx (Below.refl _ w) hk
  rw [hxk] at hc0 hn1 hr
  obtain ⟨A9, n8, hc9, hq⟩ := hcap
  have hc8 := hc9.symm.trans hc0
  simp only [Option.some.injEq, Value.slice.injEq] at hc8
  rw [hc8.2.2] at hq
  clear hc9 hc8
  subst hq
  obtain ⟨b3, o3, _, rfl, -⟩ := Row.at hr 0 h0
  have C0 := Aside.mk hc0
  obtain ⟨hs, hhl, hhr, hho⟩ := hdr_conf hx
  have HH := Aside.mk hhr
  have HHL := Aside.mk hhl
  have HHO : Aside (HdrsOf w hs cs) := .mk ⟨hhl.symm, hho⟩
  have HL := Aside.mk hl; have HA := Aside.mk hx; have hmx := hl.max; have hmy := hx.max; have KB := Aside.mk (below_alloc (Below.refl _ w) (.cells #[.int .i64 s, .int .i64 p, .slice A ls.length c] 24)); have HX := Aside.mk (heapN w (.cells #[.int .i64 s, .int .i64 p, .slice A ls.length c] 24) rfl); clear hl hT hFx hdx
  have HM := Aside.mk hm
  have HL6 : Aside (cs.length ≤ 6 ∧ x.length ≤ 40) := .mk (by
    obtain ⟨h1, h2, h3⟩ := mayC_parts hm
    have := mayT_bounds h1
    exact ⟨by omega, by rw [← hxk]; exact rulesP_len (h3 _ (List.getElem_mem hk))⟩)
  have d1 : decide ((k : Int) < 0) = false := decide_eq_false (by omega)
  have d2 : decide ((cs.length : Int) ≤ (k : Int)) = false := decide_eq_false (by omega)
  have d3 : ((x.length : Int) == 0) = false := beq_false_of_ne (by omega)
  have hx1 : 1 ≤ x.length := h0
  have d2n : decide (cs.length ≤ k) = false := decide_eq_false (by omega)
  have d2m : ¬ cs.length ≤ k := by omega
  obtain ⟨A7, hA7⟩ : ∃ A7 : Option Addr, A7 = (some ⟨b3, o3, none⟩) := ⟨_, rfl⟩
  have H7 : Aside (HdrOf w ((some ⟨b3, o3, none⟩), 0, 0) (x.drop 1)) := .mk (by
    have h := hdr_drop (show HdrOf w (some ⟨b3, o3, none⟩, x.length, 1) x from ⟨rfl, hn1, (fun h => by cases h), hr⟩) h0
    rw [if_pos rfl, show x.length - 1 = 0 by omega] at h
    exact h)
  clear hm hsw hx hc0 hhl hhr hho
  subst hA7
  go_enter Try.func8, Try.ntmps8
  go_wp2_with (first | (go_at_call 16; refine (awake12_any _).mono ?_; rintro e1 w1 ⟨rfl, hb1⟩; have KB := Aside.mk (below_call KB.out hb1); have HX := Aside.mk (blk_keep HX.out hb1); have hlx := blk_lt HX.out; have t0 := blk_cell HX.out 0; have t1 := blk_cell HX.out 1; have t2 := blk_cell HX.out 2; simp at t0 t1 t2; clear hb1) | (go_at_call 12; refine (confMay_any s p A c ls cs _ d _ (HL.out.below KB.out) (HA.out.below KB.out)).mono ?_; rw [HM.out]; rintro e3 w3 ⟨rfl, hb1⟩; have KB := Aside.mk (below_call KB.out hb1); have HX := Aside.mk (blk_keep HX.out hb1); have c0 := (KB.out.cell (p := ⟨b, o + k, none⟩) hbl).trans C0.out; have hlb := Nat.lt_of_lt_of_le hbl KB.out.size; clear t0 t1 t2 hlx; clear hb1) | (have hfl := HF1; clear hfl HF1; at_builtin; have KB := Aside.mk (below_set KB.out (p := ⟨g8, k, none⟩) hg8 (hdrV ((some ⟨b3, o3, none⟩), 0, 0))); have HX := Aside.mk (blk_far HX.out (p := ⟨g8, k, none⟩) (fun e => KO8.out.ne_type HX.out (by decide) (by rw [e]; rfl)) (hdrV ((some ⟨b3, o3, none⟩), 0, 0))); have KO8 := Aside.mk (KO8.out.put (show k < hs.length by have := HHL.out; omega) ((some ⟨b3, o3, none⟩), 0, 0) 0 (hdrV ((some ⟨b3, o3, none⟩), 0, 0)) (by decide) rfl); rw [hdrF_at] at KO8; refine wp_appRow (f := hdrF) w.heap.size rfl _ _ _ _ _ _ rfl Try.underlying26 infoSl rfl (by decide) (.slice none 0 0) [] hs (some ⟨b, o, none⟩) d rfl (by rw [HHL.out]; rfl) (fun h => by cases h) (Own.nil _ _ _ _) (HH.out.below KB.out) KB.out.size (by have := HL6.out; have := HHL.out; simp; omega) ?_; intro v5 w5 ho5 hg5 hat5; rw [List.nil_append] at ho5; obtain ⟨g9, c9, rfl, hg9, hs9, -⟩ := ho5.addr (by have := HHL.out; omega); rw [HHL.out]; have KB := Aside.mk (below_grown' KB.out hg5); have HX := Aside.mk ((hg5.block _ (blk_lt HX.out) (by simp [Value.ownBlock])).trans HX.out); have KO9 := Aside.mk ho5; have H89 : Aside (¬ g8 = g9) := .mk (fresh_ne hat5 (KO8.out.lt g8 rfl).2); have KO8 := Aside.mk (KO8.out.kept hg5 (.inr (by simp [Value.ownBlock]))); clear c0 hlb g8c g8f ho5 hg5 hat5) | (at_builtin; refine wp_appRow (f := hdrF) w.heap.size rfl _ _ _ _ _ _ rfl Try.underlying26 infoSl rfl (by decide) (.slice none 0 0) [] hs (some ⟨b, o, none⟩) d rfl (by rw [HHL.out]; rfl) (fun h => by cases h) (Own.nil _ _ _ _) (HH.out.below KB.out) KB.out.size (by have := HL6.out; have := HHL.out; simp; omega) ?_; intro v4 w4 ho4 hg4 hat4; rw [List.nil_append] at ho4; obtain ⟨g8, c8, rfl, hg8, hs8, -⟩ := ho4.addr (by have := HHL.out; omega); rw [HHL.out]; have KB := Aside.mk (below_grown' KB.out hg4); have HX := Aside.mk ((hg4.block _ (blk_lt HX.out) (by simp [Value.ownBlock])).trans HX.out); have KO8 := Aside.mk ho4; have c0 := (KB.out.cell (p := ⟨b, o + k, none⟩) hbl).trans C0.out; have hlb := Nat.lt_of_lt_of_le hbl KB.out.size; have g8c := KO8.out.at (show k < hs.length by have := HHL.out; omega) 0 _ rfl; have g8f := KO8.out.frozen k; rw [hdrF_at] at g8c; clear ho4 hg4 hat4; have HF1 : Aside True := .mk trivial))
  have HR := Aside.mk hr
  generalize w5 = wr at *
  have c0 := (KB.out.cell (p := ⟨b, o + k, none⟩) hbl).trans C0.out
  have hlb := Nat.lt_of_lt_of_le hbl KB.out.size
  obtain ⟨hbl3, p0, p1, p2, p3, p4, p5⟩ := rul_cells (c := 1) hr KB.out h0
  simp only [Nat.zero_mul, Nat.add_zero, hr0] at p0 p1 p2 p3 p4 p5
  have hl3 := Nat.lt_of_lt_of_le hbl3 KB.out.size
  have hg9r : g9 < wr.heap.size := hs9
  have hb9 : some b ≠ some g9 := fun e => by cases e; omega
  have h39 : some b3 ≠ some g9 := fun e => by cases e; omega
  obtain ⟨y, hy⟩ : ∃ y, x ++ [r] = y := ⟨_, rfl⟩
  have HMM := Aside.mk hy
  clear hy hr
  refine wp_region_facts_klK (Base := clsB x y r x.length 1 (some ⟨b3, o3, none⟩) ⟨b3, o3, none⟩ (some ⟨b, o, none⟩) cs.length d k ⟨b, o + k, none⟩ g9 c9 w.heap.size hs wr) 16 (clsS x y r x.length 1 (some ⟨b3, o3, none⟩) ⟨b3, o3, none⟩ (some ⟨b, o, none⟩) cs.length d k ⟨b, o + k, none⟩ g9 c9 w.heap.size hs wr) clsQ clsK (Fs := clsF x y r x.length 1 (some ⟨b3, o3, none⟩) ⟨b3, o3, none⟩ (some ⟨b, o, none⟩) cs.length d k ⟨b, o + k, none⟩ g9 c9 w.heap.size hs wr) (by kernel_rfl) (by kernel_rfl) (by kernel_rfl) (by kernel_rfl) (grown_of_below (below_drew (Below.refl _ _)) _) KO9.out.drew ?_ ?_
  ·
    have hSs := clsS_stay x y r x.length 1 (some ⟨b3, o3, none⟩) ⟨b3, o3, none⟩ (some ⟨b, o, none⟩) cs.length d k ⟨b, o + k, none⟩ g9 c9 w.heap.size hs wr
    have hBs := clsB_stay x y r x.length 1 (some ⟨b3, o3, none⟩) ⟨b3, o3, none⟩ (some ⟨b, o, none⟩) cs.length d k ⟨b, o + k, none⟩ g9 c9 w.heap.size hs wr
    have hFs := clsF_stay x y r x.length 1 (some ⟨b3, o3, none⟩) ⟨b3, o3, none⟩ (some ⟨b, o, none⟩) cs.length d k ⟨b, o + k, none⟩ g9 c9 w.heap.size hs wr
    refine ⟨?_, ?_, ?_, ?_, ?_, ?_, ?_, ?_, ?_, ?_, ?_, ?_, ?_, ?_, ?_, ?_, ?_, trivial⟩
    · refine step_pureK hBs hSs hFs rfl fun a' w' hB hag hp hS => ?_
      have h9 := hag 9 (by kernel_rfl)
      simp at h9
      unfold OpYields
      go_simp
      exact ⟨Below.refl _ _, rfl⟩
    · refine step_pureK hBs hSs hFs rfl fun a' w' hB hag hp hS => ?_
      have h2 := hag 2 (by kernel_rfl)
      simp at h2
      unfold OpYields
      go_simp
      exact ⟨Below.refl _ _, rfl⟩
    · refine step_pureK hBs hSs hFs rfl fun a' w' hB hag hp hS => ?_
      have h1 := hag 1 (by kernel_rfl)
      simp at h1
      unfold OpYields
      go_simp
      exact ⟨Below.refl _ _, rfl⟩
    · refine step_pureK hBs hSs hFs rfl fun a' w' hB hag hp hS => ?_
      have h2 := hag 2 (by kernel_rfl)
      simp at h2
      unfold OpYields
      go_simp
      exact ⟨Below.refl _ _, rfl⟩
    · refine step_pureK hBs hSs hFs rfl fun a' w' hB hag hp hS => ?_
      have h52 : a'.tmps.getD 52 undef = _ := hp 2 (by kernel_rfl)
      have h53 : a'.tmps.getD 53 undef = _ := hp 3 (by kernel_rfl)
      simp at h52 h53
      unfold OpYields
      go_simp
      exact ⟨Below.refl _ _, rfl⟩
    · refine step_pureK hBs hSs hFs rfl fun a' w' hB hag hp hS => ?_
      have h54 : a'.tmps.getD 54 undef = _ := hp 4 (by kernel_rfl)
      have hB0 : wr.grownBy w' (some g9) := hB; have c0 := (World.cell?_of_block (hB0.block b hlb hb9) : w'.cell? ⟨b, o + k, none⟩ = _).trans c0; have q0 := (World.cell?_of_block (hB0.block b3 hl3 h39) : w'.cell? ⟨b3, o3, none⟩ = _).trans p0; have q1 := (World.cell?_of_block (hB0.block b3 hl3 h39) : w'.cell? ⟨b3, o3 + 1, none⟩ = _).trans p1; have q2 := (World.cell?_of_block (hB0.block b3 hl3 h39) : w'.cell? ⟨b3, o3 + 2, none⟩ = _).trans p2; have q3 := (World.cell?_of_block (hB0.block b3 hl3 h39) : w'.cell? ⟨b3, o3 + 3, none⟩ = _).trans p3; have q4 := (World.cell?_of_block (hB0.block b3 hl3 h39) : w'.cell? ⟨b3, o3 + 4, none⟩ = _).trans p4; have q5 := (World.cell?_of_block (hB0.block b3 hl3 h39) : w'.cell? ⟨b3, o3 + 5, none⟩ = _).trans p5
      simp at h54
      unfold OpYields
      go_simp
      exact ⟨Below.refl _ _, rfl⟩
    · refine step_pureK hBs hSs hFs rfl fun a' w' hB hag hp hS => ?_
      have h55 : a'.tmps.getD 55 undef = _ := hp 5 (by kernel_rfl)
      have hB0 : wr.grownBy w' (some g9) := hB
      have hW := below_own KB.out hB0 (fun b e => ⟨(KO9.out.lt b e).1, (KO9.out.lt b e).2⟩)
      refine (yields_appRow (f := rulF) wr.heap.size (.const (.slice none 0 0)) (.tmp 55) _ _ _ _ rfl Try.underlying33 infoRul rfl (by decide) (.slice none 0 0) [] x (some ⟨b3, o3, none⟩) 1 rfl (by show a'.tmps.getD 55 undef = _; rw [h55]) (fun h => by cases h) (Own.nil _ _ _ _) (HR.out.below hW) hB0.size (by have := HL6.out; simp; omega)).mono ?_
      rintro v w1 ⟨ho, hg, _⟩
      exact ⟨below_of_grown hg, ho⟩
    · refine step_pureK hBs hSs hFs rfl fun a' w' hB hag hp hS => ?_
      have h1 := hag 1 (by kernel_rfl)
      simp at h1
      unfold OpYields
      go_simp
      exact ⟨Below.refl _ _, rfl⟩
    · refine step_pureK hBs hSs hFs rfl fun a' w' hB hag hp hS => ?_
      have h2 := hag 2 (by kernel_rfl)
      simp at h2
      unfold OpYields
      go_simp
      exact ⟨Below.refl _ _, rfl⟩
    · refine step_pureK hBs hSs hFs rfl fun a' w' hB hag hp hS => ?_
      have h57 : a'.tmps.getD 57 undef = _ := hp 7 (by kernel_rfl)
      have h58 : a'.tmps.getD 58 undef = _ := hp 8 (by kernel_rfl)
      simp at h57 h58
      unfold OpYields
      go_simp
      exact ⟨Below.refl _ _, rfl⟩
    · refine step_pureK hBs hSs hFs rfl fun a' w' hB hag hp hS => ?_
      have h59 : a'.tmps.getD 59 undef = _ := hp 9 (by kernel_rfl)
      have hB0 : wr.grownBy w' (some g9) := hB; have c0 := (World.cell?_of_block (hB0.block b hlb hb9) : w'.cell? ⟨b, o + k, none⟩ = _).trans c0; have q0 := (World.cell?_of_block (hB0.block b3 hl3 h39) : w'.cell? ⟨b3, o3, none⟩ = _).trans p0; have q1 := (World.cell?_of_block (hB0.block b3 hl3 h39) : w'.cell? ⟨b3, o3 + 1, none⟩ = _).trans p1; have q2 := (World.cell?_of_block (hB0.block b3 hl3 h39) : w'.cell? ⟨b3, o3 + 2, none⟩ = _).trans p2; have q3 := (World.cell?_of_block (hB0.block b3 hl3 h39) : w'.cell? ⟨b3, o3 + 3, none⟩ = _).trans p3; have q4 := (World.cell?_of_block (hB0.block b3 hl3 h39) : w'.cell? ⟨b3, o3 + 4, none⟩ = _).trans p4; have q5 := (World.cell?_of_block (hB0.block b3 hl3 h39) : w'.cell? ⟨b3, o3 + 5, none⟩ = _).trans p5
      simp at h59
      unfold OpYields
      go_simp
      exact ⟨Below.refl _ _, rfl⟩
    · refine step_pureK hBs hSs hFs rfl fun a' w' hB hag hp hS => ?_
      have h60 : a'.tmps.getD 60 undef = _ := hp 10 (by kernel_rfl)
      simp at h60
      unfold OpYields
      go_simp
      exact ⟨Below.refl _ _, rfl⟩
    · refine step_pureK hBs hSs hFs rfl fun a' w' hB hag hp hS => ?_
      have h61 : a'.tmps.getD 61 undef = _ := hp 11 (by kernel_rfl)
      have hB0 : wr.grownBy w' (some g9) := hB; have c0 := (World.cell?_of_block (hB0.block b hlb hb9) : w'.cell? ⟨b, o + k, none⟩ = _).trans c0; have q0 := (World.cell?_of_block (hB0.block b3 hl3 h39) : w'.cell? ⟨b3, o3, none⟩ = _).trans p0; have q1 := (World.cell?_of_block (hB0.block b3 hl3 h39) : w'.cell? ⟨b3, o3 + 1, none⟩ = _).trans p1; have q2 := (World.cell?_of_block (hB0.block b3 hl3 h39) : w'.cell? ⟨b3, o3 + 2, none⟩ = _).trans p2; have q3 := (World.cell?_of_block (hB0.block b3 hl3 h39) : w'.cell? ⟨b3, o3 + 3, none⟩ = _).trans p3; have q4 := (World.cell?_of_block (hB0.block b3 hl3 h39) : w'.cell? ⟨b3, o3 + 4, none⟩ = _).trans p4; have q5 := (World.cell?_of_block (hB0.block b3 hl3 h39) : w'.cell? ⟨b3, o3 + 5, none⟩ = _).trans p5
      simp at h61
      unfold OpYields
      go_simp
      exact ⟨Below.refl _ _, rfl⟩
    · refine step_pureK hBs hSs hFs rfl fun a' w' hB hag hp hS => ?_
      have h62 : a'.tmps.getD 62 undef = _ := hp 12 (by kernel_rfl)
      have hB0 : wr.grownBy w' (some g9) := hB
      simp at h62
      unfold OpYields
      go_simp
      exact ⟨(Below.refl _ _).alloc (Nat.le_refl _) _, _, rfl, hB0.size, heapN _ _ rfl⟩
    · intro a' w' hB hag hp hS
      rw [if_pos (by simp [Region.wanted])]
      have hB0 : wr.grownBy w' (some g9) := hB
      have h56 : Own rulF w' wr.heap.size 58 (a'.tmps.getD 56 undef) x := hp 6 (by kernel_rfl)
      obtain ⟨g, h63, hgl, hgh⟩ : ∃ g, a'.tmps.getD 63 undef = .slice (some ⟨g, 0, none⟩) 1 1 ∧ wr.heap.size ≤ g ∧ w'.heap[g]? = some (.cells #[.int .i64 r.addr, .int .i64 r.len, .int .i64 r.inn, .int .i64 r.prio, .int .i64 r.kind, .int .i64 r.port] 58) := hp 13 (by kernel_rfl)
      refine (yields_appRow (f := rulF) wr.heap.size (.tmp 56) (.tmp 63) _ _ _ _ rfl Try.underlying33 infoRul rfl (by decide) (a'.tmps.getD 56 undef) x [r] (some ⟨g, 0, none⟩) 1 rfl h63 (fun h => by cases h) h56 (Rd.blk rulF hgh [r] rfl (by simp)) hB0.size (by have := HL6.out; simp; omega)).mono ?_
      rintro v w1 ⟨ho, hg, _⟩
      refine ⟨hB0.andThen hg (fun j e => .inl (h56.lt j e).1), fun _ h => Own.kept h hg (Own.apart2 h h56 (by decide)), HMM.out ▸ ho, ?_⟩
      intro j vs hj hjk hF
      unfold Fof at *
      match j, hj, hjk with
      | 0, _, _ | 1, _, _ | 2, _, _ | 3, _, _ | 4, _, _ | 5, _, _ | 7, _, _ | 8, _, _ | 9, _, _ | 10, _, _ | 11, _, _ | 12, _, _ | 15, _, _ => exact hF
      | 6, _, h => exact absurd rfl h
      | 13, _, h => exact absurd rfl h
      | 16, _, _ =>
        obtain ⟨h, e1, e3⟩ : ∃ h, vs 14 = hdrV h ∧ Own hdrF w' w.heap.size 33 (.slice (some ⟨g9, 0, none⟩) hs.length c9) (hs.set k h) := hF
        exact ⟨h, e1, e3.kept hg (e3.apart2 h56 (by decide))⟩
      | j + 17, _, _ => trivial
    · refine step_pureK hBs hSs hFs rfl fun a' w' hB hag hp hS => ?_
      have h50 : a'.tmps.getD 50 undef = _ := hp 0 (by kernel_rfl)
      have h51 : a'.tmps.getD 51 undef = _ := hp 1 (by kernel_rfl)
      simp at h50 h51
      unfold OpYields
      go_simp
      exact ⟨Below.refl _ _, rfl⟩
    · intro a' w' hB hag hp hS
      rw [if_pos (by simp [Region.wanted])]
      have hB0 : wr.grownBy w' (some g9) := hB
      have hS0 : Own hdrF w' w.heap.size 33 (.slice (some ⟨g9, 0, none⟩) hs.length c9) hs := hS (by kernel_rfl)
      have h64 : Own rulF w' wr.heap.size 58 (a'.tmps.getD 64 undef) y := hp 14 (by kernel_rfl)
      have h65 : a'.tmps.getD 65 undef = _ := hp 15 (by kernel_rfl)
      obtain ⟨A6, c6, hv, -⟩ := h64.form
      have hvv := hv
      have hkh : k < hs.length := by have := HHL.out; omega
      have g9c := hS0.at hkh 0 _ rfl
      have g9f := hS0.frozen k
      rw [hdrF_at] at g9c
      have g9l := (hS0.lt g9 rfl).2
      simp at hv h65
      have hput := hS0.put hkh (A6, y.length, c6) 0 (.slice A6 y.length c6) (by decide) rfl
      rw [hdrF_at] at hput
      have hgg := grown_set2 w' g9 k (.slice A6 y.length c6)
      unfold OpYields
      go_simp
      refine ⟨hB0.trans hgg, ⟨(A6, y.length, c6), hvv, hput⟩, ?_⟩
      intro j vs hj hjk hF
      unfold Fof at *
      match j, hj, hjk with
      | 0, _, _ | 1, _, _ | 2, _, _ | 3, _, _ | 4, _, _ | 5, _, _ | 7, _, _ | 8, _, _ | 9, _, _ | 10, _, _ | 11, _, _ | 12, _, _ | 15, _, _ => exact hF
      | 6, _, _ => exact Own.kept hF hgg (Own.apart2 hF hS0 (by decide))
      | 14, _, _ => exact Own.kept hF hgg (Own.apart2 hF hS0 (by decide))
      | 13, _, _ =>
        obtain ⟨g, e1, e2, e3⟩ : ∃ g, vs 13 = .slice (some ⟨g, 0, none⟩) 1 1 ∧ wr.heap.size ≤ g ∧ w'.heap[g]? = some (.cells #[.int .i64 r.addr, .int .i64 r.len, .int .i64 r.inn, .int .i64 r.prio, .int .i64 r.kind, .int .i64 r.port] 58) := hF
        exact ⟨g, e1, e2, (hgg.block g (blk_lt e3) (fun e => by cases e; exact absurd hg9r (by omega))).trans e3⟩
      | j + 17, _, _ => trivial
  intro vs w' hB hF
  simp only [AllF, forall_const, reduceCtorEq, false_implies, Fof, clsF, clsQ, clsK, Nat.zero_add, Nat.reduceAdd, Nat.reduceEqDiff, if_true, if_false, List.getD_cons_succ, List.getD_cons_zero] at hF
  obtain ⟨f0, f1, f2, f3, f4, f5, -, f7, f8, f9, f10, f11, f12, -, f14, f15, ⟨h6, f16, e16b⟩, -⟩ := hF
  simp only [putAll, Act.put, Nat.zero_add, Nat.reduceAdd, f0, f1, f2, f3, f4, f5, f7, f8, f9, f10, f11, f12, f14, f15, f16, List.setIfInBounds_toArray, List.set_cons_zero, List.set_cons_succ]
  have hg : wr.grownBy w' (some g9) := hB
  have f14' : Own rulF w' wr.heap.size 58 (vs 14) y := f14
  have e16d : Own hdrF w' w.heap.size 33 (.slice (some ⟨g9, 0, none⟩) hs.length c9) (hs.set k h6) := e16b
  rw [f16] at f14'
  have KB2 := below_own KB.out hg (fun b e => ⟨(KO9.out.lt b e).1, (KO9.out.lt b e).2⟩)
  have HX2 := (hg.block _ (blk_lt HX.out) (fun e => KO9.out.ne_type HX.out (by decide) e.symm)).trans HX.out
  have KO8b := KO8.out.kept hg (.inr (fun e => H89.out (by injection e)))
  have HE := Aside.mk (((HHO.out.below KB2).set k f14'.hdrOf).conf e16d)
  have h7 : HdrOf w ((some ⟨b3, o3, none⟩), 0, 0) (x.drop 1) := H7.out
  have HD := Aside.mk (((HHO.out.below KB2).set k (h7.below KB2)).conf (show Own hdrF w' w.heap.size 33 (.slice (some ⟨g8, 0, none⟩) hs.length c8) (hs.set k ((some ⟨b3, o3, none⟩), 0, 0)) from KO8b))
  clear hB hg f14 f14' e16b e16d f16 f0 f1 f2 f3 f4 f5 f7 f8 f9 f10 f11 f12 f15 KO8b h7 p0 p1 p2 p3 p4 p5 c0 hlb
  have KB := Aside.mk KB2
  have HX := Aside.mk HX2
  clear KB2 HX2
  generalize w' = wr at *
  have hxk' : cs[k] = x := hxk
  have HMD := Aside.mk (may_less hk HM.out)
  have HME := Aside.mk (may_twice (s := s) (p := p) (ls := ls) hk (List.getElem_mem (show 0 < cs[k].length by rw [hxk]; exact h0)))
  have HSD := Aside.mk (same_less hk (by rw [hxk]; exact h0))
  have hk0 : (cs[k])[0]'(by rw [hxk]; exact h0) = r := by simp only [hxk, hr0]
  rw [hk0] at HME
  rw [hxk] at HMD HME HSD
  rw [HMM.out] at HME
  have HS1 : Aside (∀ l ∈ cs, l.length ≤ 1000000) := .mk (fun l hl => by
    obtain ⟨h1, h2, h3⟩ := mayC_parts HM.out
    exact Nat.le_trans (rulesP_len (h3 l hl)) (by omega))
  have hx40 : x.length ≤ 40 := HL6.out.2
  obtain ⟨xd, hxd⟩ : ∃ l, x.drop 1 = l := ⟨_, rfl⟩
  have hxl : xd.length + 1 = x.length := by rw [← hxd, List.length_drop]; omega
  rw [hxd] at HD HMD HSD
  obtain ⟨D, hD⟩ : ∃ l, cs.set k xd = l := ⟨_, rfl⟩
  obtain ⟨E, hE⟩ : ∃ l, cs.set k y = l := ⟨_, rfl⟩
  have HAT : Aside (atL D k = xd) := .mk (by
    have hkd : k < D.length := by rw [← hD, List.length_set]; exact hk
    rw [atL_in hkd]
    simp only [← hD, List.getElem_set_self])
  have HDL : Aside (D.length = cs.length) := .mk (by rw [← hD, List.length_set])
  have HEL : Aside (E.length = cs.length) := .mk (by rw [← hE, List.length_set])
  have hd40 : ∀ l ∈ D, l.length ≤ 1000000 := fun l hl => by
    rw [← hD] at hl
    rcases List.mem_or_eq_of_mem_set hl with hl | rfl
    · exact HS1.out l hl
    · have := HL6.out
      omega
  have HS2 := Aside.mk hd40
  have HS3 : Aside (∀ l ∈ D, l.length * 48 ≤ 140737488355328) := .mk (fun l hl => by have := hd40 l hl; omega)
  rw [hD] at HD HMD HSD
  rw [hE] at HE HME
  have hql : ((xd.length : Int) == (x.length : Int) - 1) = true := by
    rw [show (x.length : Int) - 1 = (xd.length : Int) by omega]
    exact beq_self_eq_true _
  clear hD hE hxd hd40 hxk' hk0 hxk hr0
  have c0 := (KB.out.cell (p := ⟨b, o + k, none⟩) hbl).trans C0.out
  have hlb := Nat.lt_of_lt_of_le hbl KB.out.size
  have hlx := blk_lt HX.out; have t0 := blk_cell HX.out 0; have t1 := blk_cell HX.out 1; have t2 := blk_cell HX.out 2; simp at t0 t1 t2
  clear KO9
  go_wp2
  refine wp_region_facts (Base := cleB s p A ls.length c (some ⟨b, o, none⟩) cs.length d k ⟨b, o + k, none⟩ g8 c8 g9 c9 (some ⟨b3, o3, none⟩) x.length 1 xd wr) (q := cleQ) (Fs := cleF s p A ls.length c (some ⟨b, o, none⟩) cs.length d k ⟨b, o + k, none⟩ g8 c8 g9 c9 (some ⟨b3, o3, none⟩) x.length 1 xd wr) (by kernel_rfl) (by kernel_rfl) (by kernel_rfl) (by kernel_rfl) (below_drew (Below.refl _ _)) ?_ ?_
  ·
    have hBs := cleB_stay s p A ls.length c (some ⟨b, o, none⟩) cs.length d k ⟨b, o + k, none⟩ g8 c8 g9 c9 (some ⟨b3, o3, none⟩) x.length 1 xd wr
    have hFs := cleF_stay s p A ls.length c (some ⟨b, o, none⟩) cs.length d k ⟨b, o + k, none⟩ g8 c8 g9 c9 (some ⟨b3, o3, none⟩) x.length 1 xd wr
    refine ⟨?_, ?_, ?_, ?_, ?_, ?_, ?_, ?_, ?_, ?_, ?_, ?_, ?_, ?_, ?_, ?_, ?_, ?_, ?_, ?_, ?_, ?_, ?_, ?_, ?_, ?_, ?_, ?_, ?_, trivial⟩
    · refine step_pure hBs hFs rfl fun a' w' hB hag hp => ?_
      have h3 := hag 3 (by kernel_rfl)
      have hB0 : Below wr.heap.size wr w' := hB; have c0 := (hB0.cell (p := ⟨b, o + k, none⟩) hlb).trans c0; have t0 := (hB0.cell (p := ⟨w.heap.size, 0, none⟩) hlx).trans t0; have t1 := (hB0.cell (p := ⟨w.heap.size, 1, none⟩) hlx).trans t1; have t2 := (hB0.cell (p := ⟨w.heap.size, 2, none⟩) hlx).trans t2
      simp at h3
      unfold OpYields
      go_simp
      exact ⟨Below.refl _ _, rfl⟩
    · refine step_pure hBs hFs rfl fun a' w' hB hag hp => ?_
      have h8 := hag 8 (by kernel_rfl)
      simp at h8
      unfold OpYields
      go_simp
      exact ⟨Below.refl _ _, rfl⟩
    · refine step_pure hBs hFs rfl fun a' w' hB hag hp => ?_
      have h66 : a'.tmps.getD 66 undef = _ := hp 0 (by kernel_rfl)
      have h67 : a'.tmps.getD 67 undef = _ := hp 1 (by kernel_rfl)
      have hB0 : Below wr.heap.size wr w' := hB
      simp at h66 h67
      unfold OpYields
      go_simp
      rw [← HDL.out]
      refine (confMay_any s p A c ls D _ c8 w' (HL.out.below (below_call KB.out hB0)) (HD.out.below hB0)).mono ?_
      rw [HMD.out]
      rintro e w1 ⟨rfl, hb⟩
      exact ⟨_, rfl, hb, rfl⟩
    · refine step_pure hBs hFs rfl fun a' w' hB hag hp => ?_
      have h68 : a'.tmps.getD 68 undef = _ := hp 2 (by kernel_rfl)
      simp at h68
      unfold OpYields
      go_simp
      exact ⟨Below.refl _ _, rfl⟩
    · refine step_pure_g hBs hFs fun a' w' hB hag hp => ?_
      have hg : a'.tmps.getD 69 undef = _ := hp 3 (by kernel_rfl)
      have h1 := hag 1 (by kernel_rfl)
      refine ⟨wanted_of hg rfl rfl, ?_⟩
      simp at h1
      unfold OpYields
      go_simp
      exact ⟨Below.refl _ _, rfl⟩
    · refine step_pure_g hBs hFs fun a' w' hB hag hp => ?_
      have hg : a'.tmps.getD 69 undef = _ := hp 3 (by kernel_rfl)
      have h8 := hag 8 (by kernel_rfl)
      refine ⟨wanted_of hg rfl rfl, ?_⟩
      simp at h8
      unfold OpYields
      go_simp
      exact ⟨Below.refl _ _, rfl⟩
    · refine step_pure_g hBs hFs fun a' w' hB hag hp => ?_
      have hg : a'.tmps.getD 69 undef = _ := hp 3 (by kernel_rfl)
      have h70 : a'.tmps.getD 70 undef = _ := hp 4 (by kernel_rfl)
      have h71 : a'.tmps.getD 71 undef = _ := hp 5 (by kernel_rfl)
      refine ⟨wanted_of hg rfl rfl, ?_⟩
      have hB0 : Below wr.heap.size wr w' := hB
      simp at h70 h71
      unfold OpYields
      go_simp
      rw [show Value.slice (some ⟨g8, 0, none⟩) cs.length c8 = .slice (some ⟨g8, 0, none⟩) D.length c8 by rw [HDL.out]]
      refine (confSame_any cs D _ _ d c8 w' (HA.out.below (below_call KB.out hB0)) (HD.out.below hB0) HS1.out HS2.out).mono ?_
      rw [HSD.out]
      rintro e w1 ⟨rfl, hb⟩
      exact ⟨_, rfl, hb, rfl⟩
    · refine step_pure_g hBs hFs fun a' w' hB hag hp => ?_
      have hg : a'.tmps.getD 69 undef = _ := hp 3 (by kernel_rfl)
      have h72 : a'.tmps.getD 72 undef = _ := hp 6 (by kernel_rfl)
      refine ⟨wanted_of hg rfl rfl, ?_⟩
      simp at h72
      unfold OpYields
      go_simp
      exact ⟨Below.refl _ _, rfl⟩
    · refine step_pure hBs hFs rfl fun a' w' hB hag hp => ?_
      have h69 : a'.tmps.getD 69 undef = _ := hp 3 (by kernel_rfl)
      have h73 : a'.tmps.getD 73 undef = _ := hp 7 (by kernel_rfl)
      simp at h69 h73
      unfold OpYields
      go_simp
      exact ⟨Below.refl _ _, rfl⟩
    · refine step_pure hBs hFs rfl fun a' w' hB hag hp => ?_
      have h74 : a'.tmps.getD 74 undef = _ := hp 8 (by kernel_rfl)
      simp at h74
      unfold OpYields
      go_simp
      exact ⟨Below.refl _ _, rfl⟩
    · refine step_pure_g hBs hFs fun a' w' hB hag hp => ?_
      have hg : a'.tmps.getD 75 undef = _ := hp 9 (by kernel_rfl)
      have h3 := hag 3 (by kernel_rfl)
      have hB0 : Below wr.heap.size wr w' := hB; have c0 := (hB0.cell (p := ⟨b, o + k, none⟩) hlb).trans c0; have t0 := (hB0.cell (p := ⟨w.heap.size, 0, none⟩) hlx).trans t0; have t1 := (hB0.cell (p := ⟨w.heap.size, 1, none⟩) hlx).trans t1; have t2 := (hB0.cell (p := ⟨w.heap.size, 2, none⟩) hlx).trans t2
      refine ⟨wanted_of hg rfl rfl, ?_⟩
      simp at h3
      unfold OpYields
      go_simp
      exact ⟨Below.refl _ _, rfl⟩
    · refine step_pure_g hBs hFs fun a' w' hB hag hp => ?_
      have hg : a'.tmps.getD 75 undef = _ := hp 9 (by kernel_rfl)
      have h9 := hag 9 (by kernel_rfl)
      refine ⟨wanted_of hg rfl rfl, ?_⟩
      simp at h9
      unfold OpYields
      go_simp
      exact ⟨Below.refl _ _, rfl⟩
    · refine step_pure_g hBs hFs fun a' w' hB hag hp => ?_
      have hg : a'.tmps.getD 75 undef = _ := hp 9 (by kernel_rfl)
      have h76 : a'.tmps.getD 76 undef = _ := hp 10 (by kernel_rfl)
      have h77 : a'.tmps.getD 77 undef = _ := hp 11 (by kernel_rfl)
      refine ⟨wanted_of hg rfl rfl, ?_⟩
      have hB0 : Below wr.heap.size wr w' := hB
      simp at h76 h77
      unfold OpYields
      go_simp
      rw [← HEL.out]
      refine (confMay_any s p A c ls E _ c9 w' (HL.out.below (below_call KB.out hB0)) (HE.out.below hB0)).mono ?_
      rw [HME.out]
      rintro e w1 ⟨rfl, hb⟩
      exact ⟨_, rfl, hb, rfl⟩
    · refine step_pure_g hBs hFs fun a' w' hB hag hp => ?_
      have hg : a'.tmps.getD 75 undef = _ := hp 9 (by kernel_rfl)
      have h78 : a'.tmps.getD 78 undef = _ := hp 12 (by kernel_rfl)
      refine ⟨wanted_of hg rfl rfl, ?_⟩
      simp at h78
      unfold OpYields
      go_simp
      exact ⟨Below.refl _ _, rfl⟩
    · refine step_pure hBs hFs rfl fun a' w' hB hag hp => ?_
      have h75 : a'.tmps.getD 75 undef = _ := hp 9 (by kernel_rfl)
      have h79 : a'.tmps.getD 79 undef = _ := hp 13 (by kernel_rfl)
      simp at h75 h79
      unfold OpYields
      go_simp
      exact ⟨Below.refl _ _, rfl⟩
    · refine step_pure hBs hFs rfl fun a' w' hB hag hp => ?_
      have h80 : a'.tmps.getD 80 undef = _ := hp 14 (by kernel_rfl)
      simp at h80
      unfold OpYields
      go_simp
      exact ⟨Below.refl _ _, rfl⟩
    · refine step_pure_g hBs hFs fun a' w' hB hag hp => ?_
      have hg : a'.tmps.getD 81 undef = _ := hp 15 (by kernel_rfl)
      have h8 := hag 8 (by kernel_rfl)
      refine ⟨wanted_of hg rfl rfl, ?_⟩
      simp at h8
      unfold OpYields
      go_simp
      exact ⟨Below.refl _ _, rfl⟩
    · refine step_pure_g hBs hFs fun a' w' hB hag hp => ?_
      have hg : a'.tmps.getD 81 undef = _ := hp 15 (by kernel_rfl)
      have h2 := hag 2 (by kernel_rfl)
      refine ⟨wanted_of hg rfl rfl, ?_⟩
      simp at h2
      unfold OpYields
      go_simp
      exact ⟨Below.refl _ _, rfl⟩
    · refine step_pure_g hBs hFs fun a' w' hB hag hp => ?_
      have hg : a'.tmps.getD 81 undef = _ := hp 15 (by kernel_rfl)
      have h82 : a'.tmps.getD 82 undef = _ := hp 16 (by kernel_rfl)
      have h83 : a'.tmps.getD 83 undef = _ := hp 17 (by kernel_rfl)
      refine ⟨wanted_of hg rfl rfl, ?_⟩
      have hB0 : Below wr.heap.size wr w' := hB
      simp at h82 h83
      unfold OpYields
      go_simp
      rw [← HDL.out]
      refine (at_any D _ c8 k w' (HD.out.below hB0) HS3.out).mono ?_
      rw [HAT.out]
      rintro e w1 ⟨v, rfl, ho, hb⟩
      exact ⟨_, rfl, hb, ho.mono hB0.size⟩
    · refine step_pure_g hBs hFs fun a' w' hB hag hp => ?_
      have hg : a'.tmps.getD 81 undef = _ := hp 15 (by kernel_rfl)
      have h84 := hp 18 (by kernel_rfl)
      replace h84 : _ := h84
      refine ⟨wanted_of hg rfl rfl, ?_⟩
      have h84' : Own rulF w' wr.heap.size 58 (a'.tmps.getD 84 undef) xd := h84
      clear h84
      obtain ⟨AS, kS, hvS, -⟩ := h84'.form
      simp at hvS
      unfold OpYields
      go_simp
      exact ⟨Below.refl _ _, rfl⟩
    · refine step_pure_g hBs hFs fun a' w' hB hag hp => ?_
      have hg : a'.tmps.getD 81 undef = _ := hp 15 (by kernel_rfl)
      have h1 := hag 1 (by kernel_rfl)
      refine ⟨wanted_of hg rfl rfl, ?_⟩
      simp at h1
      unfold OpYields
      go_simp
      exact ⟨Below.refl _ _, rfl⟩
    · refine step_pure_g hBs hFs fun a' w' hB hag hp => ?_
      have hg : a'.tmps.getD 81 undef = _ := hp 15 (by kernel_rfl)
      have h2 := hag 2 (by kernel_rfl)
      refine ⟨wanted_of hg rfl rfl, ?_⟩
      simp at h2
      unfold OpYields
      go_simp
      exact ⟨Below.refl _ _, rfl⟩
    · refine step_pure_g hBs hFs fun a' w' hB hag hp => ?_
      have hg : a'.tmps.getD 81 undef = _ := hp 15 (by kernel_rfl)
      have h86 : a'.tmps.getD 86 undef = _ := hp 20 (by kernel_rfl)
      have h87 : a'.tmps.getD 87 undef = _ := hp 21 (by kernel_rfl)
      refine ⟨wanted_of hg rfl rfl, ?_⟩
      simp at h86 h87
      unfold OpYields
      go_simp
      exact ⟨Below.refl _ _, rfl⟩
    · refine step_pure_g hBs hFs fun a' w' hB hag hp => ?_
      have hg : a'.tmps.getD 81 undef = _ := hp 15 (by kernel_rfl)
      have h88 : a'.tmps.getD 88 undef = _ := hp 22 (by kernel_rfl)
      have hB0 : Below wr.heap.size wr w' := hB; have c0 := (hB0.cell (p := ⟨b, o + k, none⟩) hlb).trans c0; have t0 := (hB0.cell (p := ⟨w.heap.size, 0, none⟩) hlx).trans t0; have t1 := (hB0.cell (p := ⟨w.heap.size, 1, none⟩) hlx).trans t1; have t2 := (hB0.cell (p := ⟨w.heap.size, 2, none⟩) hlx).trans t2
      refine ⟨wanted_of hg rfl rfl, ?_⟩
      simp at h88
      unfold OpYields
      go_simp
      exact ⟨Below.refl _ _, rfl⟩
    · refine step_pure_g hBs hFs fun a' w' hB hag hp => ?_
      have hg : a'.tmps.getD 81 undef = _ := hp 15 (by kernel_rfl)
      have h89 : a'.tmps.getD 89 undef = _ := hp 23 (by kernel_rfl)
      refine ⟨wanted_of hg rfl rfl, ?_⟩
      simp at h89
      unfold OpYields
      go_simp
      exact ⟨Below.refl _ _, rfl⟩
    · refine step_pure_g hBs hFs fun a' w' hB hag hp => ?_
      have hg : a'.tmps.getD 81 undef = _ := hp 15 (by kernel_rfl)
      have h90 : a'.tmps.getD 90 undef = _ := hp 24 (by kernel_rfl)
      refine ⟨wanted_of hg rfl rfl, ?_⟩
      have hwr : IntKind.i64.wrap ((x.length : Int) - 1) = (x.length : Int) - 1 := IntWalk.i64_in _ (by omega)
      simp at h90
      unfold OpYields
      go_simp
      exact ⟨Below.refl _ _, rfl⟩
    · refine step_pure_g hBs hFs fun a' w' hB hag hp => ?_
      have hg : a'.tmps.getD 81 undef = _ := hp 15 (by kernel_rfl)
      have h85 : a'.tmps.getD 85 undef = _ := hp 19 (by kernel_rfl)
      have h91 : a'.tmps.getD 91 undef = _ := hp 25 (by kernel_rfl)
      have ueq := Try.underlying3
      have ueqb := Try.underlying4
      refine ⟨wanted_of hg rfl rfl, ?_⟩
      simp at h85 h91
      unfold OpYields
      go_simp
      exact ⟨Below.refl _ _, rfl⟩
    · refine step_pure hBs hFs rfl fun a' w' hB hag hp => ?_
      have h81 : a'.tmps.getD 81 undef = _ := hp 15 (by kernel_rfl)
      have h92 : a'.tmps.getD 92 undef = _ := hp 26 (by kernel_rfl)
      simp at h81 h92
      unfold OpYields
      go_simp
      exact ⟨Below.refl _ _, rfl⟩
    · refine step_pure hBs hFs rfl fun a' w' hB hag hp => ?_
      have h93 : a'.tmps.getD 93 undef = _ := hp 27 (by kernel_rfl)
      simp at h93
      unfold OpYields
      go_simp
      exact ⟨Below.refl _ _, rfl⟩
  intro vs' w' hB hF
  simp only [AllF, forall_const, reduceCtorEq, false_implies, Fof, cleF, cleQ, Nat.zero_add, Nat.reduceAdd, Nat.reduceEqDiff, if_true, if_false, List.getD_cons_succ, List.getD_cons_zero] at hF
  obtain ⟨f0, f1, f2, f3, f4, f5, f6, f7, f8, f9, f10, f11, f12, f13, f14, f15, f16, f17, -, f19, f20, f21, f22, f23, f24, f25, f26, f27, f28, -⟩ := hF
  simp only [putAll, Act.put, Nat.zero_add, Nat.reduceAdd, f0, f1, f2, f3, f4, f5, f6, f7, f8, f9, f10, f11, f12, f13, f14, f15, f16, f17, f19, f20, f21, f22, f23, f24, f25, f26, f27, f28, List.setIfInBounds_toArray, List.set_cons_zero, List.set_cons_succ]
  have KB := Aside.mk (below_call KB.out hB)
  clear hB
  go_wp2
  go_ret
  exact ⟨rfl, KB.out⟩
set_option maxHeartbeats 2000000 in
theorem confLess_two (s p : Int) (A : Option Addr) (c : Nat) (ls : List Lnk) (B : Option Addr) (d : Nat) (cs : List (List Rul)) (sw : Int) (w : World) (hl : Rd lnkD w A ls.length ls) (hT : FitT s p c ls) (hx : Rd confD w B cs.length cs) (hFx : ∀ l ∈ cs, ∀ r ∈ l, FitR r) (hdx : cs.length ≤ d) (hsw : Fit sw) (hm : mayC s p ls cs = true) (k : Nat) (hk : k < cs.length) (he : sw = (k : Int)) (x : List Rul) (hxk : cs[k] = x) (h0 : 0 < x.length) (r : Rul) (hr0 : x[0] = r) (hcap : ∃ A9 n9, w.cell? ⟨(B.getD ⟨0, 0, none⟩).block, (B.getD ⟨0, 0, none⟩).off + k, none⟩ = some (.slice A9 x.length n9) ∧ ¬ n9 = 1) : Calls Try.prog 8 #[.agg #[.int .i64 s, .int .i64 p, .slice A ls.length c], .slice B cs.length d, .int .i64 sw] w fun e w' => e = .returned (.bool true) ∧ Below w.heap.size w w' := by
  subst he
  obtain ⟨b, o, A', n9, rfl, hbl, hc0, hn1, -, hr⟩ := conf_cell hx (Below.refl _ w) hk
  rw [hxk] at hc0 hn1 hr
  obtain ⟨A9, n8, hc9, hq⟩ := hcap
  have hc8 := hc9.symm.trans hc0
  simp only [Option.some.injEq, Value.slice.injEq] at hc8
  rw [hc8.2.2] at hq
  clear hc9 hc8
  obtain ⟨b3, o3, _, rfl, -⟩ := Row.at hr 0 h0
  have C0 := Aside.mk hc0
  obtain ⟨hs, hhl, hhr, hho⟩ := hdr_conf hx
  have HH := Aside.mk hhr
  have HHL := Aside.mk hhl
  have HHO : Aside (HdrsOf w hs cs) := .mk ⟨hhl.symm, hho⟩
  have HL := Aside.mk hl; have HA := Aside.mk hx; have hmx := hl.max; have hmy := hx.max; have KB := Aside.mk (below_alloc (Below.refl _ w) (.cells #[.int .i64 s, .int .i64 p, .slice A ls.length c] 24)); have HX := Aside.mk (heapN w (.cells #[.int .i64 s, .int .i64 p, .slice A ls.length c] 24) rfl); clear hl hT hFx hdx
  have HM := Aside.mk hm
  have HL6 : Aside (cs.length ≤ 6 ∧ x.length ≤ 40) := .mk (by
    obtain ⟨h1, h2, h3⟩ := mayC_parts hm
    have := mayT_bounds h1
    exact ⟨by omega, by rw [← hxk]; exact rulesP_len (h3 _ (List.getElem_mem hk))⟩)
  have d1 : decide ((k : Int) < 0) = false := decide_eq_false (by omega)
  have d2 : decide ((cs.length : Int) ≤ (k : Int)) = false := decide_eq_false (by omega)
  have d3 : ((x.length : Int) == 0) = false := beq_false_of_ne (by omega)
  have hx1 : 1 ≤ x.length := h0
  have d2n : decide (cs.length ≤ k) = false := decide_eq_false (by omega)
  have d2m : ¬ cs.length ≤ k := by omega
  obtain ⟨A7, hA7⟩ : ∃ A7 : Option Addr, A7 = (some ⟨b3, o3 + 6, none⟩) := ⟨_, rfl⟩
  have H7 : Aside (HdrOf w ((some ⟨b3, o3 + 6, none⟩), x.length - 1, n9 - 1) (x.drop 1)) := .mk (by
    have h := hdr_drop (show HdrOf w (some ⟨b3, o3, none⟩, x.length, n9) x from ⟨rfl, hn1, (fun h => by cases h), hr⟩) h0
    rw [if_neg hq] at h
    exact h)
  clear hm hsw hx hc0 hhl hhr hho
  subst hA7
  go_enter Try.func8, Try.ntmps8
  go_wp2_with (first | (go_at_call 16; refine (awake12_any _).mono ?_; rintro e1 w1 ⟨rfl, hb1⟩; have KB := Aside.mk (below_call KB.out hb1); have HX := Aside.mk (blk_keep HX.out hb1); have hlx := blk_lt HX.out; have t0 := blk_cell HX.out 0; have t1 := blk_cell HX.out 1; have t2 := blk_cell HX.out 2; simp at t0 t1 t2; clear hb1) | (go_at_call 12; refine (confMay_any s p A c ls cs _ d _ (HL.out.below KB.out) (HA.out.below KB.out)).mono ?_; rw [HM.out]; rintro e3 w3 ⟨rfl, hb1⟩; have KB := Aside.mk (below_call KB.out hb1); have HX := Aside.mk (blk_keep HX.out hb1); have c0 := (KB.out.cell (p := ⟨b, o + k, none⟩) hbl).trans C0.out; have hlb := Nat.lt_of_lt_of_le hbl KB.out.size; clear t0 t1 t2 hlx; clear hb1) | (have hfl := HF1; clear hfl HF1; at_builtin; have KB := Aside.mk (below_set KB.out (p := ⟨g8, k, none⟩) hg8 (hdrV ((some ⟨b3, o3 + 6, none⟩), x.length - 1, n9 - 1))); have HX := Aside.mk (blk_far HX.out (p := ⟨g8, k, none⟩) (fun e => KO8.out.ne_type HX.out (by decide) (by rw [e]; rfl)) (hdrV ((some ⟨b3, o3 + 6, none⟩), x.length - 1, n9 - 1))); have KO8 := Aside.mk (KO8.out.put (show k < hs.length by have := HHL.out; omega) ((some ⟨b3, o3 + 6, none⟩), x.length - 1, n9 - 1) 0 (hdrV ((some ⟨b3, o3 + 6, none⟩), x.length - 1, n9 - 1)) (by decide) rfl); rw [hdrF_at] at KO8; refine wp_appRow (f := hdrF) w.heap.size rfl _ _ _ _ _ _ rfl Try.underlying26 infoSl rfl (by decide) (.slice none 0 0) [] hs (some ⟨b, o, none⟩) d rfl (by rw [HHL.out]; rfl) (fun h => by cases h) (Own.nil _ _ _ _) (HH.out.below KB.out) KB.out.size (by have := HL6.out; have := HHL.out; simp; omega) ?_; intro v5 w5 ho5 hg5 hat5; rw [List.nil_append] at ho5; obtain ⟨g9, c9, rfl, hg9, hs9, -⟩ := ho5.addr (by have := HHL.out; omega); rw [HHL.out]; have KB := Aside.mk (below_grown' KB.out hg5); have HX := Aside.mk ((hg5.block _ (blk_lt HX.out) (by simp [Value.ownBlock])).trans HX.out); have KO9 := Aside.mk ho5; have H89 : Aside (¬ g8 = g9) := .mk (fresh_ne hat5 (KO8.out.lt g8 rfl).2); have KO8 := Aside.mk (KO8.out.kept hg5 (.inr (by simp [Value.ownBlock]))); clear c0 hlb g8c g8f ho5 hg5 hat5) | (at_builtin; refine wp_appRow (f := hdrF) w.heap.size rfl _ _ _ _ _ _ rfl Try.underlying26 infoSl rfl (by decide) (.slice none 0 0) [] hs (some ⟨b, o, none⟩) d rfl (by rw [HHL.out]; rfl) (fun h => by cases h) (Own.nil _ _ _ _) (HH.out.below KB.out) KB.out.size (by have := HL6.out; have := HHL.out; simp; omega) ?_; intro v4 w4 ho4 hg4 hat4; rw [List.nil_append] at ho4; obtain ⟨g8, c8, rfl, hg8, hs8, -⟩ := ho4.addr (by have := HHL.out; omega); rw [HHL.out]; have KB := Aside.mk (below_grown' KB.out hg4); have HX := Aside.mk ((hg4.block _ (blk_lt HX.out) (by simp [Value.ownBlock])).trans HX.out); have KO8 := Aside.mk ho4; have c0 := (KB.out.cell (p := ⟨b, o + k, none⟩) hbl).trans C0.out; have hlb := Nat.lt_of_lt_of_le hbl KB.out.size; have g8c := KO8.out.at (show k < hs.length by have := HHL.out; omega) 0 _ rfl; have g8f := KO8.out.frozen k; rw [hdrF_at] at g8c; clear ho4 hg4 hat4; have HF1 : Aside True := .mk trivial))
  have HR := Aside.mk hr
  generalize w5 = wr at *
  have c0 := (KB.out.cell (p := ⟨b, o + k, none⟩) hbl).trans C0.out
  have hlb := Nat.lt_of_lt_of_le hbl KB.out.size
  obtain ⟨hbl3, p0, p1, p2, p3, p4, p5⟩ := rul_cells (c := n9) hr KB.out h0
  simp only [Nat.zero_mul, Nat.add_zero, hr0] at p0 p1 p2 p3 p4 p5
  have hl3 := Nat.lt_of_lt_of_le hbl3 KB.out.size
  have hg9r : g9 < wr.heap.size := hs9
  have hb9 : some b ≠ some g9 := fun e => by cases e; omega
  have h39 : some b3 ≠ some g9 := fun e => by cases e; omega
  obtain ⟨y, hy⟩ : ∃ y, x ++ [r] = y := ⟨_, rfl⟩
  have HMM := Aside.mk hy
  clear hy hr
  refine wp_region_facts_klK (Base := clsB x y r x.length n9 (some ⟨b3, o3, none⟩) ⟨b3, o3, none⟩ (some ⟨b, o, none⟩) cs.length d k ⟨b, o + k, none⟩ g9 c9 w.heap.size hs wr) 16 (clsS x y r x.length n9 (some ⟨b3, o3, none⟩) ⟨b3, o3, none⟩ (some ⟨b, o, none⟩) cs.length d k ⟨b, o + k, none⟩ g9 c9 w.heap.size hs wr) clsQ clsK (Fs := clsF x y r x.length n9 (some ⟨b3, o3, none⟩) ⟨b3, o3, none⟩ (some ⟨b, o, none⟩) cs.length d k ⟨b, o + k, none⟩ g9 c9 w.heap.size hs wr) (by kernel_rfl) (by kernel_rfl) (by kernel_rfl) (by kernel_rfl) (grown_of_below (below_drew (Below.refl _ _)) _) KO9.out.drew ?_ ?_
  ·
    have hSs := clsS_stay x y r x.length n9 (some ⟨b3, o3, none⟩) ⟨b3, o3, none⟩ (some ⟨b, o, none⟩) cs.length d k ⟨b, o + k, none⟩ g9 c9 w.heap.size hs wr
    have hBs := clsB_stay x y r x.length n9 (some ⟨b3, o3, none⟩) ⟨b3, o3, none⟩ (some ⟨b, o, none⟩) cs.length d k ⟨b, o + k, none⟩ g9 c9 w.heap.size hs wr
    have hFs := clsF_stay x y r x.length n9 (some ⟨b3, o3, none⟩) ⟨b3, o3, none⟩ (some ⟨b, o, none⟩) cs.length d k ⟨b, o + k, none⟩ g9 c9 w.heap.size hs wr
    refine ⟨?_, ?_, ?_, ?_, ?_, ?_, ?_, ?_, ?_, ?_, ?_, ?_, ?_, ?_, ?_, ?_, ?_, trivial⟩
    · refine step_pureK hBs hSs hFs rfl fun a' w' hB hag hp hS => ?_
      have h9 := hag 9 (by kernel_rfl)
      simp at h9
      unfold OpYields
      go_simp
      exact ⟨Below.refl _ _, rfl⟩
    · refine step_pureK hBs hSs hFs rfl fun a' w' hB hag hp hS => ?_
      have h2 := hag 2 (by kernel_rfl)
      simp at h2
      unfold OpYields
      go_simp
      exact ⟨Below.refl _ _, rfl⟩
    · refine step_pureK hBs hSs hFs rfl fun a' w' hB hag hp hS => ?_
      have h1 := hag 1 (by kernel_rfl)
      simp at h1
      unfold OpYields
      go_simp
      exact ⟨Below.refl _ _, rfl⟩
    · refine step_pureK hBs hSs hFs rfl fun a' w' hB hag hp hS => ?_
      have h2 := hag 2 (by kernel_rfl)
      simp at h2
      unfold OpYields
      go_simp
      exact ⟨Below.refl _ _, rfl⟩
    · refine step_pureK hBs hSs hFs rfl fun a' w' hB hag hp hS => ?_
      have h52 : a'.tmps.getD 52 undef = _ := hp 2 (by kernel_rfl)
      have h53 : a'.tmps.getD 53 undef = _ := hp 3 (by kernel_rfl)
      simp at h52 h53
      unfold OpYields
      go_simp
      exact ⟨Below.refl _ _, rfl⟩
    · refine step_pureK hBs hSs hFs rfl fun a' w' hB hag hp hS => ?_
      have h54 : a'.tmps.getD 54 undef = _ := hp 4 (by kernel_rfl)
      have hB0 : wr.grownBy w' (some g9) := hB; have c0 := (World.cell?_of_block (hB0.block b hlb hb9) : w'.cell? ⟨b, o + k, none⟩ = _).trans c0; have q0 := (World.cell?_of_block (hB0.block b3 hl3 h39) : w'.cell? ⟨b3, o3, none⟩ = _).trans p0; have q1 := (World.cell?_of_block (hB0.block b3 hl3 h39) : w'.cell? ⟨b3, o3 + 1, none⟩ = _).trans p1; have q2 := (World.cell?_of_block (hB0.block b3 hl3 h39) : w'.cell? ⟨b3, o3 + 2, none⟩ = _).trans p2; have q3 := (World.cell?_of_block (hB0.block b3 hl3 h39) : w'.cell? ⟨b3, o3 + 3, none⟩ = _).trans p3; have q4 := (World.cell?_of_block (hB0.block b3 hl3 h39) : w'.cell? ⟨b3, o3 + 4, none⟩ = _).trans p4; have q5 := (World.cell?_of_block (hB0.block b3 hl3 h39) : w'.cell? ⟨b3, o3 + 5, none⟩ = _).trans p5
      simp at h54
      unfold OpYields
      go_simp
      exact ⟨Below.refl _ _, rfl⟩
    · refine step_pureK hBs hSs hFs rfl fun a' w' hB hag hp hS => ?_
      have h55 : a'.tmps.getD 55 undef = _ := hp 5 (by kernel_rfl)
      have hB0 : wr.grownBy w' (some g9) := hB
      have hW := below_own KB.out hB0 (fun b e => ⟨(KO9.out.lt b e).1, (KO9.out.lt b e).2⟩)
      refine (yields_appRow (f := rulF) wr.heap.size (.const (.slice none 0 0)) (.tmp 55) _ _ _ _ rfl Try.underlying33 infoRul rfl (by decide) (.slice none 0 0) [] x (some ⟨b3, o3, none⟩) n9 rfl (by show a'.tmps.getD 55 undef = _; rw [h55]) (fun h => by cases h) (Own.nil _ _ _ _) (HR.out.below hW) hB0.size (by have := HL6.out; simp; omega)).mono ?_
      rintro v w1 ⟨ho, hg, _⟩
      exact ⟨below_of_grown hg, ho⟩
    · refine step_pureK hBs hSs hFs rfl fun a' w' hB hag hp hS => ?_
      have h1 := hag 1 (by kernel_rfl)
      simp at h1
      unfold OpYields
      go_simp
      exact ⟨Below.refl _ _, rfl⟩
    · refine step_pureK hBs hSs hFs rfl fun a' w' hB hag hp hS => ?_
      have h2 := hag 2 (by kernel_rfl)
      simp at h2
      unfold OpYields
      go_simp
      exact ⟨Below.refl _ _, rfl⟩
    · refine step_pureK hBs hSs hFs rfl fun a' w' hB hag hp hS => ?_
      have h57 : a'.tmps.getD 57 undef = _ := hp 7 (by kernel_rfl)
      have h58 : a'.tmps.getD 58 undef = _ := hp 8 (by kernel_rfl)
      simp at h57 h58
      unfold OpYields
      go_simp
      exact ⟨Below.refl _ _, rfl⟩
    · refine step_pureK hBs hSs hFs rfl fun a' w' hB hag hp hS => ?_
      have h59 : a'.tmps.getD 59 undef = _ := hp 9 (by kernel_rfl)
      have hB0 : wr.grownBy w' (some g9) := hB; have c0 := (World.cell?_of_block (hB0.block b hlb hb9) : w'.cell? ⟨b, o + k, none⟩ = _).trans c0; have q0 := (World.cell?_of_block (hB0.block b3 hl3 h39) : w'.cell? ⟨b3, o3, none⟩ = _).trans p0; have q1 := (World.cell?_of_block (hB0.block b3 hl3 h39) : w'.cell? ⟨b3, o3 + 1, none⟩ = _).trans p1; have q2 := (World.cell?_of_block (hB0.block b3 hl3 h39) : w'.cell? ⟨b3, o3 + 2, none⟩ = _).trans p2; have q3 := (World.cell?_of_block (hB0.block b3 hl3 h39) : w'.cell? ⟨b3, o3 + 3, none⟩ = _).trans p3; have q4 := (World.cell?_of_block (hB0.block b3 hl3 h39) : w'.cell? ⟨b3, o3 + 4, none⟩ = _).trans p4; have q5 := (World.cell?_of_block (hB0.block b3 hl3 h39) : w'.cell? ⟨b3, o3 + 5, none⟩ = _).trans p5
      simp at h59
      unfold OpYields
      go_simp
      exact ⟨Below.refl _ _, rfl⟩
    · refine step_pureK hBs hSs hFs rfl fun a' w' hB hag hp hS => ?_
      have h60 : a'.tmps.getD 60 undef = _ := hp 10 (by kernel_rfl)
      simp at h60
      unfold OpYields
      go_simp
      exact ⟨Below.refl _ _, rfl⟩
    · refine step_pureK hBs hSs hFs rfl fun a' w' hB hag hp hS => ?_
      have h61 : a'.tmps.getD 61 undef = _ := hp 11 (by kernel_rfl)
      have hB0 : wr.grownBy w' (some g9) := hB; have c0 := (World.cell?_of_block (hB0.block b hlb hb9) : w'.cell? ⟨b, o + k, none⟩ = _).trans c0; have q0 := (World.cell?_of_block (hB0.block b3 hl3 h39) : w'.cell? ⟨b3, o3, none⟩ = _).trans p0; have q1 := (World.cell?_of_block (hB0.block b3 hl3 h39) : w'.cell? ⟨b3, o3 + 1, none⟩ = _).trans p1; have q2 := (World.cell?_of_block (hB0.block b3 hl3 h39) : w'.cell? ⟨b3, o3 + 2, none⟩ = _).trans p2; have q3 := (World.cell?_of_block (hB0.block b3 hl3 h39) : w'.cell? ⟨b3, o3 + 3, none⟩ = _).trans p3; have q4 := (World.cell?_of_block (hB0.block b3 hl3 h39) : w'.cell? ⟨b3, o3 + 4, none⟩ = _).trans p4; have q5 := (World.cell?_of_block (hB0.block b3 hl3 h39) : w'.cell? ⟨b3, o3 + 5, none⟩ = _).trans p5
      simp at h61
      unfold OpYields
      go_simp
      exact ⟨Below.refl _ _, rfl⟩
    · refine step_pureK hBs hSs hFs rfl fun a' w' hB hag hp hS => ?_
      have h62 : a'.tmps.getD 62 undef = _ := hp 12 (by kernel_rfl)
      have hB0 : wr.grownBy w' (some g9) := hB
      simp at h62
      unfold OpYields
      go_simp
      exact ⟨(Below.refl _ _).alloc (Nat.le_refl _) _, _, rfl, hB0.size, heapN _ _ rfl⟩
    · intro a' w' hB hag hp hS
      rw [if_pos (by simp [Region.wanted])]
      have hB0 : wr.grownBy w' (some g9) := hB
      have h56 : Own rulF w' wr.heap.size 58 (a'.tmps.getD 56 undef) x := hp 6 (by kernel_rfl)
      obtain ⟨g, h63, hgl, hgh⟩ : ∃ g, a'.tmps.getD 63 undef = .slice (some ⟨g, 0, none⟩) 1 1 ∧ wr.heap.size ≤ g ∧ w'.heap[g]? = some (.cells #[.int .i64 r.addr, .int .i64 r.len, .int .i64 r.inn, .int .i64 r.prio, .int .i64 r.kind, .int .i64 r.port] 58) := hp 13 (by kernel_rfl)
      refine (yields_appRow (f := rulF) wr.heap.size (.tmp 56) (.tmp 63) _ _ _ _ rfl Try.underlying33 infoRul rfl (by decide) (a'.tmps.getD 56 undef) x [r] (some ⟨g, 0, none⟩) 1 rfl h63 (fun h => by cases h) h56 (Rd.blk rulF hgh [r] rfl (by simp)) hB0.size (by have := HL6.out; simp; omega)).mono ?_
      rintro v w1 ⟨ho, hg, _⟩
      refine ⟨hB0.andThen hg (fun j e => .inl (h56.lt j e).1), fun _ h => Own.kept h hg (Own.apart2 h h56 (by decide)), HMM.out ▸ ho, ?_⟩
      intro j vs hj hjk hF
      unfold Fof at *
      match j, hj, hjk with
      | 0, _, _ | 1, _, _ | 2, _, _ | 3, _, _ | 4, _, _ | 5, _, _ | 7, _, _ | 8, _, _ | 9, _, _ | 10, _, _ | 11, _, _ | 12, _, _ | 15, _, _ => exact hF
      | 6, _, h => exact absurd rfl h
      | 13, _, h => exact absurd rfl h
      | 16, _, _ =>
        obtain ⟨h, e1, e3⟩ : ∃ h, vs 14 = hdrV h ∧ Own hdrF w' w.heap.size 33 (.slice (some ⟨g9, 0, none⟩) hs.length c9) (hs.set k h) := hF
        exact ⟨h, e1, e3.kept hg (e3.apart2 h56 (by decide))⟩
      | j + 17, _, _ => trivial
    · refine step_pureK hBs hSs hFs rfl fun a' w' hB hag hp hS => ?_
      have h50 : a'.tmps.getD 50 undef = _ := hp 0 (by kernel_rfl)
      have h51 : a'.tmps.getD 51 undef = _ := hp 1 (by kernel_rfl)
      simp at h50 h51
      unfold OpYields
      go_simp
      exact ⟨Below.refl _ _, rfl⟩
    · intro a' w' hB hag hp hS
      rw [if_pos (by simp [Region.wanted])]
      have hB0 : wr.grownBy w' (some g9) := hB
      have hS0 : Own hdrF w' w.heap.size 33 (.slice (some ⟨g9, 0, none⟩) hs.length c9) hs := hS (by kernel_rfl)
      have h64 : Own rulF w' wr.heap.size 58 (a'.tmps.getD 64 undef) y := hp 14 (by kernel_rfl)
      have h65 : a'.tmps.getD 65 undef = _ := hp 15 (by kernel_rfl)
      obtain ⟨A6, c6, hv, -⟩ := h64.form
      have hvv := hv
      have hkh : k < hs.length := by have := HHL.out; omega
      have g9c := hS0.at hkh 0 _ rfl
      have g9f := hS0.frozen k
      rw [hdrF_at] at g9c
      have g9l := (hS0.lt g9 rfl).2
      simp at hv h65
      have hput := hS0.put hkh (A6, y.length, c6) 0 (.slice A6 y.length c6) (by decide) rfl
      rw [hdrF_at] at hput
      have hgg := grown_set2 w' g9 k (.slice A6 y.length c6)
      unfold OpYields
      go_simp
      refine ⟨hB0.trans hgg, ⟨(A6, y.length, c6), hvv, hput⟩, ?_⟩
      intro j vs hj hjk hF
      unfold Fof at *
      match j, hj, hjk with
      | 0, _, _ | 1, _, _ | 2, _, _ | 3, _, _ | 4, _, _ | 5, _, _ | 7, _, _ | 8, _, _ | 9, _, _ | 10, _, _ | 11, _, _ | 12, _, _ | 15, _, _ => exact hF
      | 6, _, _ => exact Own.kept hF hgg (Own.apart2 hF hS0 (by decide))
      | 14, _, _ => exact Own.kept hF hgg (Own.apart2 hF hS0 (by decide))
      | 13, _, _ =>
        obtain ⟨g, e1, e2, e3⟩ : ∃ g, vs 13 = .slice (some ⟨g, 0, none⟩) 1 1 ∧ wr.heap.size ≤ g ∧ w'.heap[g]? = some (.cells #[.int .i64 r.addr, .int .i64 r.len, .int .i64 r.inn, .int .i64 r.prio, .int .i64 r.kind, .int .i64 r.port] 58) := hF
        exact ⟨g, e1, e2, (hgg.block g (blk_lt e3) (fun e => by cases e; exact absurd hg9r (by omega))).trans e3⟩
      | j + 17, _, _ => trivial
  intro vs w' hB hF
  simp only [AllF, forall_const, reduceCtorEq, false_implies, Fof, clsF, clsQ, clsK, Nat.zero_add, Nat.reduceAdd, Nat.reduceEqDiff, if_true, if_false, List.getD_cons_succ, List.getD_cons_zero] at hF
  obtain ⟨f0, f1, f2, f3, f4, f5, -, f7, f8, f9, f10, f11, f12, -, f14, f15, ⟨h6, f16, e16b⟩, -⟩ := hF
  simp only [putAll, Act.put, Nat.zero_add, Nat.reduceAdd, f0, f1, f2, f3, f4, f5, f7, f8, f9, f10, f11, f12, f14, f15, f16, List.setIfInBounds_toArray, List.set_cons_zero, List.set_cons_succ]
  have hg : wr.grownBy w' (some g9) := hB
  have f14' : Own rulF w' wr.heap.size 58 (vs 14) y := f14
  have e16d : Own hdrF w' w.heap.size 33 (.slice (some ⟨g9, 0, none⟩) hs.length c9) (hs.set k h6) := e16b
  rw [f16] at f14'
  have KB2 := below_own KB.out hg (fun b e => ⟨(KO9.out.lt b e).1, (KO9.out.lt b e).2⟩)
  have HX2 := (hg.block _ (blk_lt HX.out) (fun e => KO9.out.ne_type HX.out (by decide) e.symm)).trans HX.out
  have KO8b := KO8.out.kept hg (.inr (fun e => H89.out (by injection e)))
  have HE := Aside.mk (((HHO.out.below KB2).set k f14'.hdrOf).conf e16d)
  have h7 : HdrOf w ((some ⟨b3, o3 + 6, none⟩), x.length - 1, n9 - 1) (x.drop 1) := H7.out
  have HD := Aside.mk (((HHO.out.below KB2).set k (h7.below KB2)).conf (show Own hdrF w' w.heap.size 33 (.slice (some ⟨g8, 0, none⟩) hs.length c8) (hs.set k ((some ⟨b3, o3 + 6, none⟩), x.length - 1, n9 - 1)) from KO8b))
  clear hB hg f14 f14' e16b e16d f16 f0 f1 f2 f3 f4 f5 f7 f8 f9 f10 f11 f12 f15 KO8b h7 p0 p1 p2 p3 p4 p5 c0 hlb
  have KB := Aside.mk KB2
  have HX := Aside.mk HX2
  clear KB2 HX2
  generalize w' = wr at *
  have hxk' : cs[k] = x := hxk
  have HMD := Aside.mk (may_less hk HM.out)
  have HME := Aside.mk (may_twice (s := s) (p := p) (ls := ls) hk (List.getElem_mem (show 0 < cs[k].length by rw [hxk]; exact h0)))
  have HSD := Aside.mk (same_less hk (by rw [hxk]; exact h0))
  have hk0 : (cs[k])[0]'(by rw [hxk]; exact h0) = r := by simp only [hxk, hr0]
  rw [hk0] at HME
  rw [hxk] at HMD HME HSD
  rw [HMM.out] at HME
  have HS1 : Aside (∀ l ∈ cs, l.length ≤ 1000000) := .mk (fun l hl => by
    obtain ⟨h1, h2, h3⟩ := mayC_parts HM.out
    exact Nat.le_trans (rulesP_len (h3 l hl)) (by omega))
  have hx40 : x.length ≤ 40 := HL6.out.2
  obtain ⟨xd, hxd⟩ : ∃ l, x.drop 1 = l := ⟨_, rfl⟩
  have hxl : xd.length + 1 = x.length := by rw [← hxd, List.length_drop]; omega
  rw [hxd] at HD HMD HSD
  obtain ⟨D, hD⟩ : ∃ l, cs.set k xd = l := ⟨_, rfl⟩
  obtain ⟨E, hE⟩ : ∃ l, cs.set k y = l := ⟨_, rfl⟩
  have HAT : Aside (atL D k = xd) := .mk (by
    have hkd : k < D.length := by rw [← hD, List.length_set]; exact hk
    rw [atL_in hkd]
    simp only [← hD, List.getElem_set_self])
  have HDL : Aside (D.length = cs.length) := .mk (by rw [← hD, List.length_set])
  have HEL : Aside (E.length = cs.length) := .mk (by rw [← hE, List.length_set])
  have hd40 : ∀ l ∈ D, l.length ≤ 1000000 := fun l hl => by
    rw [← hD] at hl
    rcases List.mem_or_eq_of_mem_set hl with hl | rfl
    · exact HS1.out l hl
    · have := HL6.out
      omega
  have HS2 := Aside.mk hd40
  have HS3 : Aside (∀ l ∈ D, l.length * 48 ≤ 140737488355328) := .mk (fun l hl => by have := hd40 l hl; omega)
  rw [hD] at HD HMD HSD
  rw [hE] at HE HME
  have hql : ((xd.length : Int) == (x.length : Int) - 1) = true := by
    rw [show (x.length : Int) - 1 = (xd.length : Int) by omega]
    exact beq_self_eq_true _
  clear hD hE hxd hd40 hxk' hk0 hxk hr0
  have c0 := (KB.out.cell (p := ⟨b, o + k, none⟩) hbl).trans C0.out
  have hlb := Nat.lt_of_lt_of_le hbl KB.out.size
  have hlx := blk_lt HX.out; have t0 := blk_cell HX.out 0; have t1 := blk_cell HX.out 1; have t2 := blk_cell HX.out 2; simp at t0 t1 t2
  clear KO9
  go_wp2
  refine wp_region_facts (Base := cleB s p A ls.length c (some ⟨b, o, none⟩) cs.length d k ⟨b, o + k, none⟩ g8 c8 g9 c9 (some ⟨b3, o3, none⟩) x.length n9 xd wr) (q := cleQ) (Fs := cleF s p A ls.length c (some ⟨b, o, none⟩) cs.length d k ⟨b, o + k, none⟩ g8 c8 g9 c9 (some ⟨b3, o3, none⟩) x.length n9 xd wr) (by kernel_rfl) (by kernel_rfl) (by kernel_rfl) (by kernel_rfl) (below_drew (Below.refl _ _)) ?_ ?_
  ·
    have hBs := cleB_stay s p A ls.length c (some ⟨b, o, none⟩) cs.length d k ⟨b, o + k, none⟩ g8 c8 g9 c9 (some ⟨b3, o3, none⟩) x.length n9 xd wr
    have hFs := cleF_stay s p A ls.length c (some ⟨b, o, none⟩) cs.length d k ⟨b, o + k, none⟩ g8 c8 g9 c9 (some ⟨b3, o3, none⟩) x.length n9 xd wr
    refine ⟨?_, ?_, ?_, ?_, ?_, ?_, ?_, ?_, ?_, ?_, ?_, ?_, ?_, ?_, ?_, ?_, ?_, ?_, ?_, ?_, ?_, ?_, ?_, ?_, ?_, ?_, ?_, ?_, ?_, trivial⟩
    · refine step_pure hBs hFs rfl fun a' w' hB hag hp => ?_
      have h3 := hag 3 (by kernel_rfl)
      have hB0 : Below wr.heap.size wr w' := hB; have c0 := (hB0.cell (p := ⟨b, o + k, none⟩) hlb).trans c0; have t0 := (hB0.cell (p := ⟨w.heap.size, 0, none⟩) hlx).trans t0; have t1 := (hB0.cell (p := ⟨w.heap.size, 1, none⟩) hlx).trans t1; have t2 := (hB0.cell (p := ⟨w.heap.size, 2, none⟩) hlx).trans t2
      simp at h3
      unfold OpYields
      go_simp
      exact ⟨Below.refl _ _, rfl⟩
    · refine step_pure hBs hFs rfl fun a' w' hB hag hp => ?_
      have h8 := hag 8 (by kernel_rfl)
      simp at h8
      unfold OpYields
      go_simp
      exact ⟨Below.refl _ _, rfl⟩
    · refine step_pure hBs hFs rfl fun a' w' hB hag hp => ?_
      have h66 : a'.tmps.getD 66 undef = _ := hp 0 (by kernel_rfl)
      have h67 : a'.tmps.getD 67 undef = _ := hp 1 (by kernel_rfl)
      have hB0 : Below wr.heap.size wr w' := hB
      simp at h66 h67
      unfold OpYields
      go_simp
      rw [← HDL.out]
      refine (confMay_any s p A c ls D _ c8 w' (HL.out.below (below_call KB.out hB0)) (HD.out.below hB0)).mono ?_
      rw [HMD.out]
      rintro e w1 ⟨rfl, hb⟩
      exact ⟨_, rfl, hb, rfl⟩
    · refine step_pure hBs hFs rfl fun a' w' hB hag hp => ?_
      have h68 : a'.tmps.getD 68 undef = _ := hp 2 (by kernel_rfl)
      simp at h68
      unfold OpYields
      go_simp
      exact ⟨Below.refl _ _, rfl⟩
    · refine step_pure_g hBs hFs fun a' w' hB hag hp => ?_
      have hg : a'.tmps.getD 69 undef = _ := hp 3 (by kernel_rfl)
      have h1 := hag 1 (by kernel_rfl)
      refine ⟨wanted_of hg rfl rfl, ?_⟩
      simp at h1
      unfold OpYields
      go_simp
      exact ⟨Below.refl _ _, rfl⟩
    · refine step_pure_g hBs hFs fun a' w' hB hag hp => ?_
      have hg : a'.tmps.getD 69 undef = _ := hp 3 (by kernel_rfl)
      have h8 := hag 8 (by kernel_rfl)
      refine ⟨wanted_of hg rfl rfl, ?_⟩
      simp at h8
      unfold OpYields
      go_simp
      exact ⟨Below.refl _ _, rfl⟩
    · refine step_pure_g hBs hFs fun a' w' hB hag hp => ?_
      have hg : a'.tmps.getD 69 undef = _ := hp 3 (by kernel_rfl)
      have h70 : a'.tmps.getD 70 undef = _ := hp 4 (by kernel_rfl)
      have h71 : a'.tmps.getD 71 undef = _ := hp 5 (by kernel_rfl)
      refine ⟨wanted_of hg rfl rfl, ?_⟩
      have hB0 : Below wr.heap.size wr w' := hB
      simp at h70 h71
      unfold OpYields
      go_simp
      rw [show Value.slice (some ⟨g8, 0, none⟩) cs.length c8 = .slice (some ⟨g8, 0, none⟩) D.length c8 by rw [HDL.out]]
      refine (confSame_any cs D _ _ d c8 w' (HA.out.below (below_call KB.out hB0)) (HD.out.below hB0) HS1.out HS2.out).mono ?_
      rw [HSD.out]
      rintro e w1 ⟨rfl, hb⟩
      exact ⟨_, rfl, hb, rfl⟩
    · refine step_pure_g hBs hFs fun a' w' hB hag hp => ?_
      have hg : a'.tmps.getD 69 undef = _ := hp 3 (by kernel_rfl)
      have h72 : a'.tmps.getD 72 undef = _ := hp 6 (by kernel_rfl)
      refine ⟨wanted_of hg rfl rfl, ?_⟩
      simp at h72
      unfold OpYields
      go_simp
      exact ⟨Below.refl _ _, rfl⟩
    · refine step_pure hBs hFs rfl fun a' w' hB hag hp => ?_
      have h69 : a'.tmps.getD 69 undef = _ := hp 3 (by kernel_rfl)
      have h73 : a'.tmps.getD 73 undef = _ := hp 7 (by kernel_rfl)
      simp at h69 h73
      unfold OpYields
      go_simp
      exact ⟨Below.refl _ _, rfl⟩
    · refine step_pure hBs hFs rfl fun a' w' hB hag hp => ?_
      have h74 : a'.tmps.getD 74 undef = _ := hp 8 (by kernel_rfl)
      simp at h74
      unfold OpYields
      go_simp
      exact ⟨Below.refl _ _, rfl⟩
    · refine step_pure_g hBs hFs fun a' w' hB hag hp => ?_
      have hg : a'.tmps.getD 75 undef = _ := hp 9 (by kernel_rfl)
      have h3 := hag 3 (by kernel_rfl)
      have hB0 : Below wr.heap.size wr w' := hB; have c0 := (hB0.cell (p := ⟨b, o + k, none⟩) hlb).trans c0; have t0 := (hB0.cell (p := ⟨w.heap.size, 0, none⟩) hlx).trans t0; have t1 := (hB0.cell (p := ⟨w.heap.size, 1, none⟩) hlx).trans t1; have t2 := (hB0.cell (p := ⟨w.heap.size, 2, none⟩) hlx).trans t2
      refine ⟨wanted_of hg rfl rfl, ?_⟩
      simp at h3
      unfold OpYields
      go_simp
      exact ⟨Below.refl _ _, rfl⟩
    · refine step_pure_g hBs hFs fun a' w' hB hag hp => ?_
      have hg : a'.tmps.getD 75 undef = _ := hp 9 (by kernel_rfl)
      have h9 := hag 9 (by kernel_rfl)
      refine ⟨wanted_of hg rfl rfl, ?_⟩
      simp at h9
      unfold OpYields
      go_simp
      exact ⟨Below.refl _ _, rfl⟩
    · refine step_pure_g hBs hFs fun a' w' hB hag hp => ?_
      have hg : a'.tmps.getD 75 undef = _ := hp 9 (by kernel_rfl)
      have h76 : a'.tmps.getD 76 undef = _ := hp 10 (by kernel_rfl)
      have h77 : a'.tmps.getD 77 undef = _ := hp 11 (by kernel_rfl)
      refine ⟨wanted_of hg rfl rfl, ?_⟩
      have hB0 : Below wr.heap.size wr w' := hB
      simp at h76 h77
      unfold OpYields
      go_simp
      rw [← HEL.out]
      refine (confMay_any s p A c ls E _ c9 w' (HL.out.below (below_call KB.out hB0)) (HE.out.below hB0)).mono ?_
      rw [HME.out]
      rintro e w1 ⟨rfl, hb⟩
      exact ⟨_, rfl, hb, rfl⟩
    · refine step_pure_g hBs hFs fun a' w' hB hag hp => ?_
      have hg : a'.tmps.getD 75 undef = _ := hp 9 (by kernel_rfl)
      have h78 : a'.tmps.getD 78 undef = _ := hp 12 (by kernel_rfl)
      refine ⟨wanted_of hg rfl rfl, ?_⟩
      simp at h78
      unfold OpYields
      go_simp
      exact ⟨Below.refl _ _, rfl⟩
    · refine step_pure hBs hFs rfl fun a' w' hB hag hp => ?_
      have h75 : a'.tmps.getD 75 undef = _ := hp 9 (by kernel_rfl)
      have h79 : a'.tmps.getD 79 undef = _ := hp 13 (by kernel_rfl)
      simp at h75 h79
      unfold OpYields
      go_simp
      exact ⟨Below.refl _ _, rfl⟩
    · refine step_pure hBs hFs rfl fun a' w' hB hag hp => ?_
      have h80 : a'.tmps.getD 80 undef = _ := hp 14 (by kernel_rfl)
      simp at h80
      unfold OpYields
      go_simp
      exact ⟨Below.refl _ _, rfl⟩
    · refine step_pure_g hBs hFs fun a' w' hB hag hp => ?_
      have hg : a'.tmps.getD 81 undef = _ := hp 15 (by kernel_rfl)
      have h8 := hag 8 (by kernel_rfl)
      refine ⟨wanted_of hg rfl rfl, ?_⟩
      simp at h8
      unfold OpYields
      go_simp
      exact ⟨Below.refl _ _, rfl⟩
    · refine step_pure_g hBs hFs fun a' w' hB hag hp => ?_
      have hg : a'.tmps.getD 81 undef = _ := hp 15 (by kernel_rfl)
      have h2 := hag 2 (by kernel_rfl)
      refine ⟨wanted_of hg rfl rfl, ?_⟩
      simp at h2
      unfold OpYields
      go_simp
      exact ⟨Below.refl _ _, rfl⟩
    · refine step_pure_g hBs hFs fun a' w' hB hag hp => ?_
      have hg : a'.tmps.getD 81 undef = _ := hp 15 (by kernel_rfl)
      have h82 : a'.tmps.getD 82 undef = _ := hp 16 (by kernel_rfl)
      have h83 : a'.tmps.getD 83 undef = _ := hp 17 (by kernel_rfl)
      refine ⟨wanted_of hg rfl rfl, ?_⟩
      have hB0 : Below wr.heap.size wr w' := hB
      simp at h82 h83
      unfold OpYields
      go_simp
      rw [← HDL.out]
      refine (at_any D _ c8 k w' (HD.out.below hB0) HS3.out).mono ?_
      rw [HAT.out]
      rintro e w1 ⟨v, rfl, ho, hb⟩
      exact ⟨_, rfl, hb, ho.mono hB0.size⟩
    · refine step_pure_g hBs hFs fun a' w' hB hag hp => ?_
      have hg : a'.tmps.getD 81 undef = _ := hp 15 (by kernel_rfl)
      have h84 := hp 18 (by kernel_rfl)
      replace h84 : _ := h84
      refine ⟨wanted_of hg rfl rfl, ?_⟩
      have h84' : Own rulF w' wr.heap.size 58 (a'.tmps.getD 84 undef) xd := h84
      clear h84
      obtain ⟨AS, kS, hvS, -⟩ := h84'.form
      simp at hvS
      unfold OpYields
      go_simp
      exact ⟨Below.refl _ _, rfl⟩
    · refine step_pure_g hBs hFs fun a' w' hB hag hp => ?_
      have hg : a'.tmps.getD 81 undef = _ := hp 15 (by kernel_rfl)
      have h1 := hag 1 (by kernel_rfl)
      refine ⟨wanted_of hg rfl rfl, ?_⟩
      simp at h1
      unfold OpYields
      go_simp
      exact ⟨Below.refl _ _, rfl⟩
    · refine step_pure_g hBs hFs fun a' w' hB hag hp => ?_
      have hg : a'.tmps.getD 81 undef = _ := hp 15 (by kernel_rfl)
      have h2 := hag 2 (by kernel_rfl)
      refine ⟨wanted_of hg rfl rfl, ?_⟩
      simp at h2
      unfold OpYields
      go_simp
      exact ⟨Below.refl _ _, rfl⟩
    · refine step_pure_g hBs hFs fun a' w' hB hag hp => ?_
      have hg : a'.tmps.getD 81 undef = _ := hp 15 (by kernel_rfl)
      have h86 : a'.tmps.getD 86 undef = _ := hp 20 (by kernel_rfl)
      have h87 : a'.tmps.getD 87 undef = _ := hp 21 (by kernel_rfl)
      refine ⟨wanted_of hg rfl rfl, ?_⟩
      simp at h86 h87
      unfold OpYields
      go_simp
      exact ⟨Below.refl _ _, rfl⟩
    · refine step_pure_g hBs hFs fun a' w' hB hag hp => ?_
      have hg : a'.tmps.getD 81 undef = _ := hp 15 (by kernel_rfl)
      have h88 : a'.tmps.getD 88 undef = _ := hp 22 (by kernel_rfl)
      have hB0 : Below wr.heap.size wr w' := hB; have c0 := (hB0.cell (p := ⟨b, o + k, none⟩) hlb).trans c0; have t0 := (hB0.cell (p := ⟨w.heap.size, 0, none⟩) hlx).trans t0; have t1 := (hB0.cell (p := ⟨w.heap.size, 1, none⟩) hlx).trans t1; have t2 := (hB0.cell (p := ⟨w.heap.size, 2, none⟩) hlx).trans t2
      refine ⟨wanted_of hg rfl rfl, ?_⟩
      simp at h88
      unfold OpYields
      go_simp
      exact ⟨Below.refl _ _, rfl⟩
    · refine step_pure_g hBs hFs fun a' w' hB hag hp => ?_
      have hg : a'.tmps.getD 81 undef = _ := hp 15 (by kernel_rfl)
      have h89 : a'.tmps.getD 89 undef = _ := hp 23 (by kernel_rfl)
      refine ⟨wanted_of hg rfl rfl, ?_⟩
      simp at h89
      unfold OpYields
      go_simp
      exact ⟨Below.refl _ _, rfl⟩
    · refine step_pure_g hBs hFs fun a' w' hB hag hp => ?_
      have hg : a'.tmps.getD 81 undef = _ := hp 15 (by kernel_rfl)
      have h90 : a'.tmps.getD 90 undef = _ := hp 24 (by kernel_rfl)
      refine ⟨wanted_of hg rfl rfl, ?_⟩
      have hwr : IntKind.i64.wrap ((x.length : Int) - 1) = (x.length : Int) - 1 := IntWalk.i64_in _ (by omega)
      simp at h90
      unfold OpYields
      go_simp
      exact ⟨Below.refl _ _, rfl⟩
    · refine step_pure_g hBs hFs fun a' w' hB hag hp => ?_
      have hg : a'.tmps.getD 81 undef = _ := hp 15 (by kernel_rfl)
      have h85 : a'.tmps.getD 85 undef = _ := hp 19 (by kernel_rfl)
      have h91 : a'.tmps.getD 91 undef = _ := hp 25 (by kernel_rfl)
      have ueq := Try.underlying3
      have ueqb := Try.underlying4
      refine ⟨wanted_of hg rfl rfl, ?_⟩
      simp at h85 h91
      unfold OpYields
      go_simp
      exact ⟨Below.refl _ _, rfl⟩
    · refine step_pure hBs hFs rfl fun a' w' hB hag hp => ?_
      have h81 : a'.tmps.getD 81 undef = _ := hp 15 (by kernel_rfl)
      have h92 : a'.tmps.getD 92 undef = _ := hp 26 (by kernel_rfl)
      simp at h81 h92
      unfold OpYields
      go_simp
      exact ⟨Below.refl _ _, rfl⟩
    · refine step_pure hBs hFs rfl fun a' w' hB hag hp => ?_
      have h93 : a'.tmps.getD 93 undef = _ := hp 27 (by kernel_rfl)
      simp at h93
      unfold OpYields
      go_simp
      exact ⟨Below.refl _ _, rfl⟩
  intro vs' w' hB hF
  simp only [AllF, forall_const, reduceCtorEq, false_implies, Fof, cleF, cleQ, Nat.zero_add, Nat.reduceAdd, Nat.reduceEqDiff, if_true, if_false, List.getD_cons_succ, List.getD_cons_zero] at hF
  obtain ⟨f0, f1, f2, f3, f4, f5, f6, f7, f8, f9, f10, f11, f12, f13, f14, f15, f16, f17, -, f19, f20, f21, f22, f23, f24, f25, f26, f27, f28, -⟩ := hF
  simp only [putAll, Act.put, Nat.zero_add, Nat.reduceAdd, f0, f1, f2, f3, f4, f5, f6, f7, f8, f9, f10, f11, f12, f13, f14, f15, f16, f17, f19, f20, f21, f22, f23, f24, f25, f26, f27, f28, List.setIfInBounds_toArray, List.set_cons_zero, List.set_cons_succ]
  have KB := Aside.mk (below_call KB.out hB)
  clear hB
  go_wp2
  go_ret
  exact ⟨rfl, KB.out⟩
theorem confLess_walk (s p : Int) (A : Option Addr) (c : Nat) (ls : List Lnk) (B : Option Addr) (d : Nat) (cs : List (List Rul)) (sw : Int) (w : World) (hl : Rd lnkD w A ls.length ls) (hT : FitT s p c ls) (hx : Rd confD w B cs.length cs) (hFx : ∀ l ∈ cs, ∀ r ∈ l, FitR r) (hdx : cs.length ≤ d) (hsw : Fit sw) : Calls Try.prog 8 #[.agg #[.int .i64 s, .int .i64 p, .slice A ls.length c], .slice B cs.length d, .int .i64 sw] w fun e w' => e = .returned (.bool true) ∧ Below w.heap.size w w' := by
  cases hm : mayC s p ls cs
  · exact confLess_not s p A c ls B d cs sw w hl hT hx hFx hdx hsw hm
  by_cases h1 : sw < 0
  · exact confLess_lo s p A c ls B d cs sw w hl hT hx hFx hdx hsw hm h1
  by_cases h2 : (cs.length : Int) ≤ sw
  · exact confLess_hi s p A c ls B d cs sw w hl hT hx hFx hdx hsw hm h1 h2
  obtain ⟨k, hk⟩ : ∃ k : Nat, sw = (k : Int) := ⟨sw.toNat, by omega⟩
  have hlt : k < cs.length := by omega
  by_cases h0 : 0 < cs[k].length
  · obtain ⟨b, o, A', n', hB, -, hc, -, -, -⟩ := conf_cell hx (Below.refl _ w) hlt
    by_cases hn : n' = 1
    · exact confLess_one s p A c ls B d cs sw w hl hT hx hFx hdx hsw hm k hlt hk _ rfl h0 _ rfl ⟨A', n', by rw [hB]; exact hc, hn⟩
    · exact confLess_two s p A c ls B d cs sw w hl hT hx hFx hdx hsw hm k hlt hk _ rfl h0 _ rfl ⟨A', n', by rw [hB]; exact hc, hn⟩
  · exact confLess_nil s p A c ls B d cs sw w hl hT hx hFx hdx hsw hm k hlt hk (List.length_eq_zero_iff.1 (by omega))
end Go.Proofs.Ytlnnkkbcmidddaa
