/- The walk through topo.joined. -/
import Derived.Test.YtlnnkkbcmidddaaTopoW
namespace Go.Proofs.Ytlnnkkbcmidddaa
open Go.RowKit
set_option maxRecDepth 100000

section
variable {w : World} {b : Nat} {m : List (End × End)} {l : Lnk}
theorem some_of_isNone {o : Option End} (h : o.isNone = false) : o.isSome = true := by cases o <;> simp_all
theorem not_some_of_isNone {o : Option End} (h : o.isNone = true) : ¬ o.isSome = true := by cases o <;> simp_all
theorem gm_tt (h1 : (mget m (l.a, l.pa)).isNone = false) (h2 : (mget m (l.b, l.pb)).isNone = false) (h : GMap w b endV endV m) : GMap w b endV endV (joinStep m l) := by
  unfold joinStep addEnd Lnk.fst Lnk.snd
  rw [if_pos (some_of_isNone h1), if_pos (some_of_isNone h2)]
  exact h
theorem gm_tf (h1 : (mget m (l.a, l.pa)).isNone = false) (h2 : (mget m (l.b, l.pb)).isNone = true) (h : GMap w b endV endV (mput m (l.b, l.pb) (l.a, l.pa))) : GMap w b endV endV (joinStep m l) := by
  unfold joinStep addEnd Lnk.fst Lnk.snd
  rw [if_pos (some_of_isNone h1), if_neg (not_some_of_isNone h2)]
  exact h
theorem gm_ft (h1 : (mget m (l.a, l.pa)).isNone = true) (h2 : (mget (mput m (l.a, l.pa) (l.b, l.pb)) (l.b, l.pb)).isNone = false) (h : GMap w b endV endV (mput m (l.a, l.pa) (l.b, l.pb))) : GMap w b endV endV (joinStep m l) := by
  unfold joinStep addEnd Lnk.fst Lnk.snd
  rw [if_neg (not_some_of_isNone h1), if_pos (some_of_isNone h2)]
  exact h
theorem gm_ff (h1 : (mget m (l.a, l.pa)).isNone = true) (h2 : (mget (mput m (l.a, l.pa) (l.b, l.pb)) (l.b, l.pb)).isNone = true) (h : GMap w b endV endV (mput (mput m (l.a, l.pa) (l.b, l.pb)) (l.b, l.pb) (l.a, l.pa))) : GMap w b endV endV (joinStep m l) := by
  unfold joinStep addEnd Lnk.fst Lnk.snd
  rw [if_neg (not_some_of_isNone h1), if_neg (not_some_of_isNone h2)]
  exact h
end

set_option maxHeartbeats 1000000 in
theorem joined_any (s p : Int) (A : Option Addr) (c : Nat) (ls : List Lnk) (w : World) (hl : Rd lnkD w A ls.length ls) :
    Calls Try.prog 45 #[.agg #[.int .i64 s, .int .i64 p, .slice A ls.length c]] w fun e w' => ∃ b, e = .returned (.map (some b)) ∧ w.heap.size ≤ b ∧ GMap w' b endV endV (joinedL ls) ∧ Below w.heap.size w w' := by
  have hmm := @run_makeMap Try.prog
  have hn := hl.max
  have HL := Aside.mk hl
  clear hl
  go_enter Try.func45, Try.ntmps45
  go_wp2
  go_loopw [16] (fun i wr => ∃ k : Nat, k ≤ ls.length ∧ i = .int .i64 k ∧ GMap wr (w.heap.size + 1) endV endV (joinedL (ls.take k)) ∧ Below w.heap.size w wr)
    (fun i _ => ls.length - (intOf i).toNat)
  case atStart => exact ⟨0, Nat.zero_le _, rfl, by simpa [joinedL] using GMap.made (w.alloc (.cells #[.int .i64 s, .int .i64 p, .slice A ls.length c] 24)) endV endV, ((Below.refl _ _).alloc (by simp) _).alloc (by simp) _⟩
  case round =>
    obtain ⟨k, hk, rfl, hm, hb⟩ := hrel
    by_cases hlt : k < ls.length
    · obtain ⟨b, o, cs, rfl, hbl, hcs, hc⟩ := Row.at HL.out k hlt
      obtain rfl : cs = _ := hcs
      have hc0 : wr.cell? ⟨b, o + k * 4, none⟩ = some (.int .i64 ls[k].a) := (hb.cell hbl).trans (hc 0 _ rfl)
      have hc1 : wr.cell? ⟨b, o + k * 4 + 1, none⟩ = some (.int .i64 ls[k].pa) := (hb.cell hbl).trans (hc 1 _ rfl)
      have hc2 : wr.cell? ⟨b, o + k * 4 + 2, none⟩ = some (.int .i64 ls[k].b) := (hb.cell hbl).trans (hc 2 _ rfl)
      have hc3 : wr.cell? ⟨b, o + k * 4 + 3, none⟩ = some (.int .i64 ls[k].pb) := (hb.cell hbl).trans (hc 3 _ rfl)
      clear hc hbl
      have hj := Aside.mk (joinedL_take ls k hlt)
      generalize ls[k] = l at *
      have HM := Aside.mk hm
      have HB := Aside.mk hb
      clear hm hb
      have hsz : w.heap.size ≤ wr.heap.size := HB.out.size
      go_wp2_with (first
        | (go_at_call 61; refine (both_any _ _ _ _ _).mono ?_; rintro e w1 ⟨rfl, hb1⟩; have hm1 := Aside.mk ((HM.out.alloc _).below (GMap.lt (HM.out.alloc _)) hb1); have hB1 := Aside.mk (below_call (below_alloc HB.out _) hb1); clear HM HB hb1; have HM := hm1; have HB := hB1; clear hm1 hB1)
        | (at_lookup; refine wp_look2 _ rfl _ _ rfl keyEnd Try.underlying84 (d := (0, 0)) (zeroEnd _) (_, _) (by repeat (first | exact HM.out | apply GMap.alloc)) rfl rfl ?_)
        | (at_mapUpdate; refine wp_put _ rfl _ _ _ rfl keyEnd Try.underlying84 (_, _) (_, _) (by repeat (first | exact HM.out | apply GMap.alloc)) rfl rfl rfl ?_; intro w2 hm2 hg2 hs2; have hlt2 := HM.out.lt; have hs3 : w1.heap.size + 1 < w2.heap.size := (by rw [hs2]; (try simp) <;> omega); have hs4 : w1.heap.size < w2.heap.size := (by omega); have e0 : ∀ o, w2.cell? ⟨w1.heap.size, o, none⟩ = _ := fun o => World.cell?_of_block (hg2.block w1.heap.size (by (try simp) <;> omega) (by (try simp) <;> omega)); have e1 : ∀ o, w2.cell? ⟨w1.heap.size + 1, o, none⟩ = _ := fun o => World.cell?_of_block (hg2.block (w1.heap.size + 1) (by (try simp) <;> omega) (by (try simp) <;> omega)); have hB2 := Aside.mk (below_grown (w := w) (by repeat (first | exact HB.out | apply below_alloc)) hg2 (by omega)); have hm2' := Aside.mk hm2; clear hm2 hg2 hs2 HM HB; have HM := hm2'; have HB := hB2; clear hm2' hB2))
      all_goals
        go_roundw
        case rel =>
          refine ⟨k + 1, by omega, by go_num, ?_, by repeat (first | exact HB.out | apply below_alloc)⟩
          rw [hj.out]
          first
            | (refine gm_tt ?h1 ?h2 ?h3; (case h1 => assumption); (case h2 => assumption); (case h3 => repeat (first | exact HM.out | apply GMap.alloc)))
            | (refine gm_tf ?h1 ?h2 ?h3; (case h1 => assumption); (case h2 => assumption); (case h3 => repeat (first | exact HM.out | apply GMap.alloc)))
            | (refine gm_ft ?h1 ?h2 ?h3; (case h1 => assumption); (case h2 => assumption); (case h3 => repeat (first | exact HM.out | apply GMap.alloc)))
            | (refine gm_ff ?h1 ?h2 ?h3; (case h1 => assumption); (case h2 => assumption); (case h3 => repeat (first | exact HM.out | apply GMap.alloc)))
        case measure => simp [intOf]; omega
    · have : k = ls.length := by omega
      subst this
      rw [List.take_length] at hm
      have HM := Aside.mk hm
      have HB := Aside.mk hb
      clear hm hb
      go_wp2
      go_ret
      exact ⟨_, rfl, by omega, HM.out, HB.out⟩

end Go.Proofs.Ytlnnkkbcmidddaa
