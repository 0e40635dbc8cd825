/- The walks through octets.may, octets.Sum. -/
import Derived.Test.YtlpobpciiaofeaaRegion
import Derived.Test.YtlpobpciiaofeaaOpen
import Derived.Test.YtlpobpciiaofeaaDigP
import Derived.WalkMore
import Derived.ScopeJumps
namespace Go.Proofs.Ytlpobpciiaofeaa
open Go.RowKit
set_option maxRecDepth 100000
theorem byt_cells {l : List Int} {b o k n : Nat} {w W : World} (hl : Rd bytF.kd w (some ⟨b, o, none⟩) n l) (hb : Below w.heap.size w W) (h : k < l.length) : b < w.heap.size ∧ W.cell? ⟨b, o + k, none⟩ = some (.int .u8 l[k]) := by
  obtain ⟨b', o', cs, e, hbl, hcs, hc⟩ := Row.at hl k (by rw [← hl.1]; exact h)
  injection e with e
  injection e with e1 e2 _
  subst e1 e2
  obtain rfl : cs = _ := hcs
  have := (hb.cell hbl).trans (hc 0 _ rfl)
  exact ⟨hbl, by simpa [bytF, Flat.kd, Kd.flat] using this⟩
theorem totI_take {l : List Int} {k : Nat} (h : k < l.length) : totI 0 (l.take (k + 1)) = totI 0 (l.take k) + l[k] * (if k % 2 = 0 then 256 else 1) := by
  rw [List.take_add_one, List.getElem?_eq_getElem h, Option.toList_some, totI_app, List.length_take, Nat.min_eq_left (by omega), totI, totI]
  simp
theorem and65535 (n : Int) : bits .and .i64 n 65535 = n % 65536 := by
  have h127 : (BitVec.ofInt 64 65535).toNat = 2 ^ 16 - 1 := by decide
  have key : (BitVec.ofInt 64 n &&& BitVec.ofInt 64 65535).toNat = (n % ((2 ^ 64 : Nat) : Int)).toNat % 2 ^ 16 := by
    rw [BitVec.toNat_and, BitVec.toNat_ofInt, h127, Nat.and_two_pow_sub_one_eq_mod]
  show IntKind.i64.wrap ((BitVec.ofInt 64 n &&& BitVec.ofInt 64 65535).toNat : Nat) = n % 65536
  rw [key, IntKind.wrap_i64]
  omega
theorem wr_sum (t x : Int) (h1 : 0 ≤ t) (h2 : t ≤ 65280000000) (h3 : 0 ≤ x) (h4 : x ≤ 1000000) : wrap64 (t + wrap64 x) = t + x := by
  have e : wrap64 x = x := by unfold wrap64; omega
  rw [e]
  unfold wrap64
  omega
set_option maxHeartbeats 1000000 in
theorem sum_any (l : List Int) (A : Option Addr) (c : Nat) (w : World) (hl : Rd bytF.kd w A l.length l) (ho : Oct l) (hn : l.length ≤ 1000000) :
    Calls Try.prog 39 #[.slice A l.length c] w fun e w' => e = .returned (.int .i64 (sumI l)) ∧ Below w.heap.size w w' := by
  have HL := Aside.mk hl
  have HO := Aside.mk ho
  have hmx := hl.max
  clear hl ho
  go_enter Try.func39, Try.ntmps39
  go_wp2
  obtain ⟨N, hN⟩ : ∃ N, totI 0 l = N := ⟨_, rfl⟩
  have hN0 : 0 ≤ N := by rw [← hN]; exact (totI_bound HO.out 0).1
  have hN1 : N ≤ 65280000000 := by have := (totI_bound HO.out 0).2; rw [← hN]; omega
  have HN := Aside.mk hN
  clear hN
  refine wp_scope_jumps 0 (fun a' w' => ∃ (n : Int) (u4 u5 u6 u7 u8 u9 u10 u11 u12 u13 u14 u15 u16 u17 u18 u19 u20 u21 u22 u23 u24 u25 u26 u27 u28 u29 u30 u31 : Value), 0 ≤ n ∧ n ≤ 100000000000 ∧ foldC n = foldC N ∧ Below w.heap.size w w' ∧ a' = { tmps := #[.slice A l.length c, undef, .int .i64 0, .int .i64 n, u4, u5, u6, u7, u8, u9, u10, u11, u12, u13, u14, u15, u16, u17, u18, u19, u20, u21, u22, u23, u24, u25, u26, u27, u28, u29, u30, u31], defers := [] }) (fun a' _ => (intOf (a'.tmps.getD 3 undef)).toNat) rfl ?first ?pass
  case first =>
    go_wp2
    go_loopw [3, 8] (fun n i wr => ∃ k : Nat, k ≤ l.length ∧ i = .int .i64 k ∧ n = .int .i64 (totI 0 (l.take k)) ∧ Below w.heap.size w wr) (fun _ i _ => l.length - (intOf i).toNat)
    case atStart => exact ⟨0, Nat.zero_le _, rfl, rfl, Below.refl _ _⟩
    case round =>
      obtain ⟨k, hk, rfl, rfl, hb⟩ := hrel
      have KB := Aside.mk hb
      clear hb
      by_cases hlt : k < l.length
      · obtain ⟨b, o, _, rfl, -⟩ := Row.at HL.out k hlt
        obtain ⟨hbl, p0⟩ := byt_cells HL.out KB.out hlt
        have hz := HO.out _ (List.getElem_mem hlt)
        have hz0 := hz.1
        have hz1 := hz.2
        have ht := totI_bound (l := l.take k) (fun z hz => HO.out z (List.mem_of_mem_take hz)) 0
        have ht0 := ht.1
        have ht1 : totI 0 (l.take k) ≤ 65280000000 := by have := ht.2; rw [List.length_take] at this; omega
        have HT := Aside.mk (totI_take hlt)
        clear hz ht
        obtain ⟨z, HZ⟩ : ∃ z, l[k] = z := ⟨_, rfl⟩
        rw [HZ] at p0 hz0 hz1 HT
        obtain ⟨t, HE⟩ : ∃ t, totI 0 (l.take k) = t := ⟨_, rfl⟩
        rw [HE] at HT ht0 ht1
        have HE := Aside.mk HE
        clear HZ
        go_wp2
        refine ⟨⟨k + 1, by omega, by push_cast; rfl, ?_, KB.out⟩, by simp [intOf]; omega⟩
        rw [HT.out]
        congr 1
        rcases Nat.mod_two_eq_zero_or_one k with h | h
        · rw [show (k + 1) % 2 = 1 by omega, if_pos h]
          exact wr_sum t (z * 256) (by omega) (by omega) (by omega) (by omega)
        · rw [show (k + 1) % 2 = 0 by omega, if_neg (by omega)]
          exact wr_sum t (z * 1) (by omega) (by omega) (by omega) (by omega)
      · obtain rfl : k = l.length := by omega
        go_wp2
        go_step3
        rw [List.take_length, HN.out]
        clear HL
        by_cases h : 65535 < N
        · have hf := fold_less h
          have hf0 := hf.1
          have hf1 : N / 65536 + N % 65536 ≤ 100000000000 := by omega
          have HF := Aside.mk (foldC_fold h)
          clear hf
          have hand := and65535 N
          have hw2 : wrap64 (N / 65536 + N % 65536) = N / 65536 + N % 65536 := by unfold wrap64; omega
          go_wp2
          go_step3
          exact ⟨rfl, _, _, _, _, _, _, _, _, _, _, _, _, _, _, _, _, _, _, _, _, _, _, _, _, _, _, _, _, _, hf0, hf1, HF.out, KB.out, rfl⟩
        · have HF := Aside.mk (foldC_small hN0 (by omega))
          go_wp2
          simp only [Exit.jump]
          go_ret
          exact ⟨ret_int (by unfold sumI; rw [HN.out, HF.out]), KB.out⟩
  case pass =>
    rintro a' w' ⟨n, u4, u5, u6, u7, u8, u9, u10, u11, u12, u13, u14, u15, u16, u17, u18, u19, u20, u21, u22, u23, u24, u25, u26, u27, u28, u29, u30, u31, h0, h1, he, hb, rfl⟩
    have HE := Aside.mk he
    have KB := Aside.mk hb
    clear HL he hb
    by_cases h : 65535 < n
    · have hf := fold_less h
      have hf0 := hf.1
      have hf1 : n / 65536 + n % 65536 ≤ 100000000000 := by omega
      have HF := Aside.mk (foldC_fold h)
      clear hf
      have hand := and65535 n
      have hw2 : wrap64 (n / 65536 + n % 65536) = n / 65536 + n % 65536 := by unfold wrap64; omega
      go_wp2
      go_step3
      refine ⟨rfl, ⟨_, _, _, _, _, _, _, _, _, _, _, _, _, _, _, _, _, _, _, _, _, _, _, _, _, _, _, _, _, hf0, hf1, HF.out.trans HE.out, KB.out, rfl⟩, ?_⟩
      have h2 := fold_less h
      simp [intOf]
      omega
    · have HF := Aside.mk (foldC_small h0 (by omega))
      go_wp2
      simp only [Exit.jump]
      go_ret
      exact ⟨ret_int (by unfold sumI; rw [HN.out, ← HE.out, HF.out]), KB.out⟩
end Go.Proofs.Ytlpobpciiaofeaa
