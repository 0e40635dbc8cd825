/- The walks through layer 19's small functions: Few, the document's Same and carried. -/
import Derived.Test.YtajmchdmophdjaaLinkP
import Derived.Test.YtajmchdmophdjaaPipeB
import Derived.Test.YtajmchdmophdjaaPathQ
namespace Go.Proofs.Ytajmchdmophdjaa
open Go.RowKit
set_option maxRecDepth 100000

/-- A switch's cells. -/
def swD : Kd Swt where
  sz := 7
  K w S x cs := ∃ V cV, cs = [.int .i64 x.epoch, .int .i64 x.seen, .bool x.op, .int .i64 x.stamp, .int .i64 x.bad, .slice V x.vs.length cV, .int .i64 x.junk] ∧ x.vs.length ≤ cV ∧ (V = none → cV = 0) ∧ Row verD w S V x.vs.length x.vs
  len h := by obtain ⟨V, cV, rfl, _⟩ := h; rfl
  one h := by
    obtain ⟨V, cV, rfl, _⟩ := h
    intro u hu
    simp at hu
    rcases hu with rfl | rfl | rfl | rfl | rfl | rfl | rfl <;> rfl
  keep h hw := by
    obtain ⟨V, cV, e, hc, hn, h⟩ := h
    exact ⟨V, cV, e, hc, hn, h.keep hw⟩
  mono h hS := by
    obtain ⟨V, cV, e, hc, hn, h⟩ := h
    exact ⟨V, cV, e, hc, hn, h.mono hS⟩
theorem sw_cells {l : List Swt} {A : Option Addr} {k : Nat} {w W : World} (hc : Rd swD w A l.length l) (hb : Below w.heap.size w W) (h : k < l.length) :
    ∃ b o V cV, A = some ⟨b, o, none⟩ ∧ b < w.heap.size ∧ (W.cell? ⟨b, o + k * 7, none⟩ = some (.int .i64 l[k].epoch) ∧ W.cell? ⟨b, o + k * 7 + 1, none⟩ = some (.int .i64 l[k].seen) ∧ W.cell? ⟨b, o + k * 7 + 2, none⟩ = some (.bool l[k].op) ∧ W.cell? ⟨b, o + k * 7 + 3, none⟩ = some (.int .i64 l[k].stamp) ∧
      W.cell? ⟨b, o + k * 7 + 4, none⟩ = some (.int .i64 l[k].bad) ∧ W.cell? ⟨b, o + k * 7 + 5, none⟩ = some (.slice V l[k].vs.length cV) ∧ W.cell? ⟨b, o + k * 7 + 6, none⟩ = some (.int .i64 l[k].junk)) ∧ l[k].vs.length ≤ cV ∧ (V = none → cV = 0) ∧ Rd verD w V l[k].vs.length l[k].vs := by
  obtain ⟨b, o, cs, e, hbl, ⟨V, cV, rfl, h1, h2, h3⟩, hcell⟩ := Row.at hc k h
  exact ⟨b, o, V, cV, e, hbl, ⟨(hb.cell hbl).trans (hcell 0 _ rfl), (hb.cell hbl).trans (hcell 1 _ rfl), (hb.cell hbl).trans (hcell 2 _ rfl), (hb.cell hbl).trans (hcell 3 _ rfl), (hb.cell hbl).trans (hcell 4 _ rfl), (hb.cell hbl).trans (hcell 5 _ rfl), (hb.cell hbl).trans (hcell 6 _ rfl)⟩, h1, h2, h3⟩
def fewS (l : List Swt) : Bool := decide (l.length ≤ 10) && l.all fun s => fewV s.vs
theorem fewS_drop {c : List Swt} {k : Nat} (h : k < c.length) : ((c.drop k).all fun s => fewV s.vs) = (fewV c[k].vs && (c.drop (k + 1)).all fun s => fewV s.vs) := by
  rw [List.drop_eq_getElem_cons h]; rfl
theorem fewS_any (l : List Swt) (A : Option Addr) (c : Nat) (w : World) (hc : Rd swD w A l.length l) :
    Calls Try.prog 8 #[.slice A l.length c] w fun e w' => e = .returned (.bool (fewS l)) ∧ w' = w := by
  have HC := Aside.mk hc
  have hmx := hc.max
  clear hc
  by_cases h10 : l.length ≤ 10
  · have d0 : decide ((10 : Int) < (l.length : Int)) = false := decide_eq_false (by omega)
    have HF := Aside.mk (show fewS l = l.all fun s => fewV s.vs by unfold fewS; rw [decide_eq_true h10]; rfl)
    go_enter Try.func8, Try.ntmps8
    go_wp2
    go_loop [3] (fun i => ∃ k : Nat, k ≤ l.length ∧ i = .int .i64 k ∧ ((l.drop k).all fun s => fewV s.vs) = l.all fun s => fewV s.vs) (fun i => l.length - (intOf i).toNat)
    case atStart => exact ⟨0, Nat.zero_le _, rfl, rfl⟩
    case round =>
      obtain ⟨k, hk, rfl, hs⟩ := hrel
      have HS := Aside.mk hs
      clear hs
      by_cases hlt : k < l.length
      · obtain ⟨b, o, V, cV, rfl, hbl, ⟨-, -, -, -, -, hcell, -⟩, -, -, hv⟩ := sw_cells HC.out (Below.refl _ w) hlt
        have HV := Aside.mk hv
        have hd := Aside.mk (fewS_drop hlt)
        generalize l[k] = x at *
        clear hv
        cases hf : fewV x.vs
        · have HFF := Aside.mk hf
          go_wp2_with (go_at_call 15; refine (fewV_any x.vs V cV _ HV.out).mono ?_; rw [hf]; rintro e w1 ⟨rfl, rfl⟩)
          go_ret
          refine ⟨ret_bool ?_, rfl⟩
          rw [HF.out, ← HS.out, hd.out, HFF.out]
          rfl
        · have HFF := Aside.mk hf
          go_wp2_with (go_at_call 15; refine (fewV_any x.vs V cV _ HV.out).mono ?_; rw [hf]; rintro e w1 ⟨rfl, rfl⟩)
          exact ⟨⟨k + 1, by omega, by go_num, by rw [← HS.out, hd.out, HFF.out, Bool.true_and]⟩, by simp [intOf]; omega⟩
      · obtain rfl : k = l.length := by omega
        go_wp2
        go_ret
        refine ⟨ret_bool ?_, rfl⟩
        rw [HF.out, ← HS.out, List.drop_length]; rfl
  · have d0 : decide ((10 : Int) < (l.length : Int)) = true := decide_eq_true (by omega)
    have HF := Aside.mk (show fewS l = false by unfold fewS; rw [decide_eq_false h10]; rfl)
    go_enter Try.func8, Try.ntmps8
    go_wp2
    go_ret
    exact ⟨ret_bool HF.out.symm, rfl⟩

/-! ### lists of packets on their way -/
def flyF : Flat Fly where
  enc f := [.int .i64 f.id, .int .i64 f.src, .int .i64 f.dst, .int .i64 f.ttl, .int .i64 f.tag, .int .i64 f.sw, .int .i64 f.inn]
  sz := 7
  len _ := rfl
  one _ u hu := by simp at hu; rcases hu with rfl | rfl | rfl | rfl | rfl | rfl | rfl <;> rfl
  pos := by decide
abbrev fliesD : Kd Fly := flyF.kd
theorem fly_cells {l : List Fly} {b o k n : Nat} {w W : World} (hl : Rd fliesD w (some ⟨b, o, none⟩) n l) (hb : Below w.heap.size w W) (h : k < l.length) : b < w.heap.size ∧
    W.cell? ⟨b, o + k * 7, none⟩ = some (.int .i64 l[k].id) ∧ W.cell? ⟨b, o + k * 7 + 1, none⟩ = some (.int .i64 l[k].src) ∧ W.cell? ⟨b, o + k * 7 + 2, none⟩ = some (.int .i64 l[k].dst) ∧ W.cell? ⟨b, o + k * 7 + 3, none⟩ = some (.int .i64 l[k].ttl) ∧
    W.cell? ⟨b, o + k * 7 + 4, none⟩ = some (.int .i64 l[k].tag) ∧ W.cell? ⟨b, o + k * 7 + 5, none⟩ = some (.int .i64 l[k].sw) ∧ W.cell? ⟨b, o + k * 7 + 6, none⟩ = some (.int .i64 l[k].inn) := by
  obtain ⟨b', o', cs, e, hbl, hcs, hc⟩ := Row.at hl k (by rw [← hl.1]; exact h)
  injection e with e
  injection e with e1 e2 _
  subst e1 e2
  obtain rfl : cs = _ := hcs
  exact ⟨hbl, (hb.cell hbl).trans (hc 0 _ rfl), (hb.cell hbl).trans (hc 1 _ rfl), (hb.cell hbl).trans (hc 2 _ rfl), (hb.cell hbl).trans (hc 3 _ rfl), (hb.cell hbl).trans (hc 4 _ rfl), (hb.cell hbl).trans (hc 5 _ rfl), (hb.cell hbl).trans (hc 6 _ rfl)⟩
set_option maxHeartbeats 1000000 in
theorem sameF_any (a b : List Fly) (A B : Option Addr) (c d : Nat) (w : World) (ha : Rd fliesD w A a.length a) (hb : Rd fliesD w B b.length b) :
    Calls Try.prog 11 #[.slice A a.length c, .slice B b.length d] w fun e w' => e = .returned (.bool (decide (a = b))) ∧ Below w.heap.size w w' := by
  have HA := Aside.mk ha
  have HB := Aside.mk hb
  have hma := ha.max
  have hmb := hb.max
  have hq := eqFly
  clear ha hb
  by_cases hlen : a.length = b.length
  · have d0 : ((a.length : Int) != (b.length : Int)) = false := by simp [hlen]
    go_enter Try.func11, Try.ntmps11
    go_wp2
    go_loopw [5] (fun i wr => ∃ k : Nat, k ≤ b.length ∧ i = .int .i64 k ∧ (a = b ↔ a.drop k = b.drop k) ∧ Below w.heap.size w wr) (fun i _ => b.length - (intOf i).toNat)
    case atStart => exact ⟨0, Nat.zero_le _, rfl, by simp, Below.refl _ _⟩
    case round =>
      obtain ⟨k, hk, rfl, hs, hbl⟩ := hrel
      have HS := Aside.mk hs
      have KB := Aside.mk hbl
      clear hs
      by_cases hlt : k < b.length
      · have hlta : k < a.length := by omega
        obtain ⟨b1, o1, _, rfl, -⟩ := Row.at HA.out k hlta
        obtain ⟨b2, o2, _, rfl, -⟩ := Row.at HB.out k hlt
        obtain ⟨hb1, p0, p1, p2, p3, p4, p5, p6⟩ := fly_cells HA.out hbl hlta
        obtain ⟨hb2, q0, q1, q2, q3, q4, q5, q6⟩ := fly_cells HB.out hbl hlt
        have hd := Aside.mk (show a.drop k = b.drop k ↔ a[k] = b[k] ∧ a.drop (k + 1) = b.drop (k + 1) by rw [List.drop_eq_getElem_cons hlta, List.drop_eq_getElem_cons hlt, List.cons.injEq])
        generalize a[k] = x at *
        generalize b[k] = y at *
        clear hbl
        cases hxy : decide (x = y)
        · have hne : decide (a = b) = false := decide_eq_false (fun h => by
            have := (hd.out.1 (HS.out.1 h)).1
            rw [decide_eq_true this] at hxy
            cases hxy)
          go_wp2
          go_region
          go_wp2
          go_ret
          exact ⟨ret_bool hne.symm, below_drew KB.out⟩
        · have hxy' := of_decide_eq_true hxy
          go_wp2
          go_region
          go_wp2
          go_roundw
          case rel => exact ⟨k + 1, by omega, by go_num, HS.out.trans (hd.out.trans ⟨fun h => h.2, fun h => ⟨hxy', h⟩⟩), below_drew KB.out⟩
          case measure => simp [intOf]; omega
      · obtain rfl : k = b.length := by omega
        have hab : a = b := HS.out.2 (by rw [List.drop_length, List.drop_eq_nil_of_le (by omega)])
        clear hbl
        go_wp2
        go_ret
        exact ⟨ret_bool (by simp [hab]), KB.out⟩
  · have d0 : ((a.length : Int) != (b.length : Int)) = true := by simp; omega
    have hne : decide (a = b) = false := decide_eq_false (fun h => hlen (by rw [h]))
    rw [hne]
    go_enter Try.func11, Try.ntmps11
    go_wp2
    all_goals first
      | (go_ret; exact ⟨rfl, Below.refl _ _⟩)
      | (exfalso; simp_all)

/-! ### how many went by a port -/
theorem carried_take {l : List Hop} {k : Nat} (h : k < l.length) (sw out : Int) : carried (l.take (k + 1)) sw out = carried (l.take k) sw out + if isBy sw out l[k] then 1 else 0 := by
  rw [List.take_succ_eq_append_getElem h, carried_snoc]
theorem carried_le (l : List Hop) (sw out : Int) : carried l sw out ≤ l.length := List.length_filter_le _ _
set_option maxHeartbeats 1000000 in
theorem carriedR_any (l : List Hop) (A : Option Addr) (c : Nat) (sw out : Int) (w : World) (hl : Rd hopD w A l.length l) :
    Calls Try.prog 17 #[.slice A l.length c, .int .i64 sw, .int .i64 out] w fun e w' => e = .returned (.int .i64 (carried l sw out)) ∧ w' = w := by
  have HL := Aside.mk hl
  have hmx := hl.max
  clear hl
  go_enter Try.func17, Try.ntmps17
  go_wp2
  go_loop [7, 8] (fun n i => ∃ k : Nat, k ≤ l.length ∧ n = .int .i64 (carried (l.take k) sw out) ∧ i = .int .i64 k) (fun _ i => l.length - (intOf i).toNat)
  case atStart => exact ⟨0, Nat.zero_le _, rfl, rfl⟩
  case round =>
    obtain ⟨k, hk, rfl, rfl⟩ := hrel
    by_cases hlt : k < l.length
    · obtain ⟨b, o, _, rfl, -⟩ := Row.at HL.out k hlt
      obtain ⟨-, p0, p1, p2, p3, p4, p5, p6⟩ := hop_cells HL.out (Below.refl _ _) hlt
      have ht := Aside.mk (carried_take hlt sw out)
      have hle := carried_le (l.take k) sw out
      rw [List.length_take] at hle
      have hle2 : carried (l.take k) sw out ≤ k := by omega
      clear hle
      generalize carried (l.take k) sw out = n at *
      obtain ⟨x, hx⟩ : ∃ x, l[k] = x := ⟨_, rfl⟩
      rw [hx] at p5 p2 p6 ht
      clear hx p0 p1 p3 p4
      have hfin := Aside.mk (fun h : isBy sw out x = false => show carried (l.take (k + 1)) sw out = n by rw [ht.out, h]; rfl)
      have hfin1 := Aside.mk (fun h : isBy sw out x = true => show carried (l.take (k + 1)) sw out = n + 1 by rw [ht.out, h]; rfl)
      cases h1 : (x.what == 0)
      · have hb : isBy sw out x = false := by unfold isBy; rw [decide_eq_false (by simpa using h1)]; rfl
        go_wp2
        exact ⟨⟨k + 1, by omega, by rw [hfin.out hb], by go_num⟩, by simp [intOf]; omega⟩
      · cases h2 : (x.sw == sw)
        · have hb : isBy sw out x = false := by unfold isBy; rw [decide_eq_false (show ¬ x.sw = sw by simpa using h2)]; simp
          go_wp2
          exact ⟨⟨k + 1, by omega, by rw [hfin.out hb], by go_num⟩, by simp [intOf]; omega⟩
        · cases h3 : (x.out == out)
          · have hb : isBy sw out x = false := by unfold isBy; rw [decide_eq_false (show ¬ x.out = out by simpa using h3)]; simp
            go_wp2
            exact ⟨⟨k + 1, by omega, by rw [hfin.out hb], by go_num⟩, by simp [intOf]; omega⟩
          · have hb : isBy sw out x = true := by
              unfold isBy
              rw [decide_eq_true (show x.what = 0 by simpa using h1), decide_eq_true (show x.sw = sw by simpa using h2), decide_eq_true (show x.out = out by simpa using h3)]; rfl
            go_wp2
            exact ⟨⟨k + 1, by omega, by rw [hfin1.out hb]; rfl, by go_num⟩, by simp [intOf]; omega⟩
    · obtain rfl : k = l.length := by omega
      go_wp2
      go_ret
      exact ⟨ret_int (by simp), rfl⟩
end Go.Proofs.Ytajmchdmophdjaa
