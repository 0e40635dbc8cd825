/- The walk through the document's Same of layer 13: two lists of hops. -/
import Derived.Test.YtlnnkkbcmidddaaPathE
namespace Go.Proofs.Ytlnnkkbcmidddaa
open Go.RowKit
set_option maxRecDepth 100000

def hopF : Flat Hop where
  enc h := [.int .i64 h.tick, .int .i64 h.id, .int .i64 h.sw, .int .i64 h.inn, .int .i64 h.tag, .int .i64 h.what, .int .i64 h.out]
  sz := 7
  len _ := rfl
  one _ u hu := by simp at hu; rcases hu with rfl | rfl | rfl | rfl | rfl | rfl | rfl <;> rfl
  pos := by decide
abbrev hopD : Kd Hop := hopF.kd
/-- A hop's cells. -/
theorem hop_cells {l : List Hop} {b o k n : Nat} {w W : World} (hl : Rd hopD w (some ⟨b, o, none⟩) n l) (hb : Below w.heap.size w W) (h : k < l.length) : b < w.heap.size ∧
    W.cell? ⟨b, o + k * 7, none⟩ = some (.int .i64 l[k].tick) ∧ W.cell? ⟨b, o + k * 7 + 1, none⟩ = some (.int .i64 l[k].id) ∧ W.cell? ⟨b, o + k * 7 + 2, none⟩ = some (.int .i64 l[k].sw) ∧
    W.cell? ⟨b, o + k * 7 + 3, none⟩ = some (.int .i64 l[k].inn) ∧ W.cell? ⟨b, o + k * 7 + 4, none⟩ = some (.int .i64 l[k].tag) ∧ W.cell? ⟨b, o + k * 7 + 5, none⟩ = some (.int .i64 l[k].what) ∧ W.cell? ⟨b, o + k * 7 + 6, none⟩ = some (.int .i64 l[k].out) := by
  obtain ⟨b', o', cs, e, hbl, hcs, hc⟩ := Row.at hl k (by rw [← hl.1]; exact h)
  injection e with e
  injection e with e1 e2 _
  subst e1 e2
  obtain rfl : cs = _ := hcs
  exact ⟨hbl, (hb.cell hbl).trans (hc 0 _ rfl), (hb.cell hbl).trans (hc 1 _ rfl), (hb.cell hbl).trans (hc 2 _ rfl), (hb.cell hbl).trans (hc 3 _ rfl), (hb.cell hbl).trans (hc 4 _ rfl), (hb.cell hbl).trans (hc 5 _ rfl), (hb.cell hbl).trans (hc 6 _ rfl)⟩
theorem drop_eq_iff {α : Type} {a b : List α} {k : Nat} (ha : k < a.length) (hb : k < b.length) : a.drop k = b.drop k ↔ a[k] = b[k] ∧ a.drop (k + 1) = b.drop (k + 1) := by
  rw [List.drop_eq_getElem_cons ha, List.drop_eq_getElem_cons hb, List.cons.injEq]

set_option maxHeartbeats 1000000 in
theorem sameH_any (a b : List Hop) (A B : Option Addr) (c d : Nat) (w : World) (ha : Rd hopD w A a.length a) (hb : Rd hopD w B b.length b) :
    Calls Try.prog 27 #[.slice A a.length c, .slice B b.length d] w fun e w' => e = .returned (.bool (decide (a = b))) ∧ Below w.heap.size w w' := by
  have HA := Aside.mk ha
  have HB := Aside.mk hb
  have hma := ha.max
  have hmb := hb.max
  have hq := eqHop
  clear ha hb
  by_cases hlen : a.length = b.length
  · have d0 : ((a.length : Int) != (b.length : Int)) = false := by simp [hlen]
    go_enter Try.func27, Try.ntmps27
    go_wp2
    go_loopw [5] (fun i wr => ∃ k : Nat, k ≤ b.length ∧ i = .int .i64 k ∧ (a = b ↔ a.drop k = b.drop k) ∧ Below w.heap.size w wr) (fun i _ => b.length - (intOf i).toNat)
    case atStart => exact ⟨0, Nat.zero_le _, rfl, by simp, Below.refl _ _⟩
    case round =>
      obtain ⟨k, hk, rfl, hs, hbl⟩ := hrel
      have HS := Aside.mk hs
      have KB := Aside.mk hbl
      clear hs
      by_cases hlt : k < b.length
      · have hlta : k < a.length := by omega
        obtain ⟨b1, o1, _, rfl, -⟩ := Row.at HA.out k hlta
        obtain ⟨b2, o2, _, rfl, -⟩ := Row.at HB.out k hlt
        obtain ⟨hb1, p0, p1, p2, p3, p4, p5, p6⟩ := hop_cells HA.out hbl hlta
        obtain ⟨hb2, q0, q1, q2, q3, q4, q5, q6⟩ := hop_cells HB.out hbl hlt
        have hd := Aside.mk (drop_eq_iff hlta hlt)
        generalize a[k] = x at *
        generalize b[k] = y at *
        clear hbl
        cases hxy : decide (x = y)
        · have hne : decide (a = b) = false := decide_eq_false (fun h => by
            have := (hd.out.1 (HS.out.1 h)).1
            rw [decide_eq_true this] at hxy
            cases hxy)
          go_wp2
          go_region
          go_wp2
          go_ret
          exact ⟨ret_bool hne.symm, below_drew KB.out⟩
        · have hxy' := of_decide_eq_true hxy
          go_wp2
          go_region
          go_wp2
          go_roundw
          case rel => exact ⟨k + 1, by omega, by go_num, HS.out.trans (hd.out.trans ⟨fun h => h.2, fun h => ⟨hxy', h⟩⟩), below_drew KB.out⟩
          case measure => simp [intOf]; omega
      · obtain rfl : k = b.length := by omega
        have hab : a = b := HS.out.2 (by rw [List.drop_length, List.drop_eq_nil_of_le (by omega)])
        clear hbl
        go_wp2
        go_ret
        exact ⟨ret_bool (by simp [hab]), KB.out⟩
  · have d0 : ((a.length : Int) != (b.length : Int)) = true := by simp; omega
    have hne : decide (a = b) = false := decide_eq_false (fun h => hlen (by rw [h]))
    rw [hne]
    go_enter Try.func27, Try.ntmps27
    go_wp2
    all_goals first
      | (go_ret; exact ⟨rfl, Below.refl _ _⟩)
      | (exfalso; simp_all)
end Go.Proofs.Ytlnnkkbcmidddaa
