/- The walk through the document's Sum of layer 2. -/
import Derived.Test.YtlpobpciiaofeaaDigA
namespace Go.Proofs.Ytlpobpciiaofeaa
open Go.RowKit
set_option maxRecDepth 100000
set_option maxHeartbeats 1000000 in
theorem sumR_any (l : List Int) (A : Option Addr) (c : Nat) (w : World) (hl : Rd bytF.kd w A l.length l) (ho : Oct l) (hn : l.length ≤ 1000000) :
    Calls Try.prog 42 #[.slice A l.length c] w fun e w' => e = .returned (.int .i64 (sumI l)) ∧ Below w.heap.size w w' := by
  have HL := Aside.mk hl
  have HO := Aside.mk ho
  have hmx := hl.max
  clear hl ho
  obtain ⟨N, hN⟩ : ∃ N, totI 0 l = N := ⟨_, rfl⟩
  have hN0 : 0 ≤ N := by rw [← hN]; exact (totI_bound HO.out 0).1
  have hN1 : N ≤ 65280000000 := by have := (totI_bound HO.out 0).2; rw [← hN]; omega
  have HN := Aside.mk hN
  clear hN
  go_enter Try.func42, Try.ntmps42
  go_wp2
  go_loopw [3, 4] (fun n i wr => ∃ k : Nat, k ≤ l.length ∧ i = .int .i64 k ∧ n = .int .i64 (totI 0 (l.take k)) ∧ Below w.heap.size w wr) (fun _ i _ => l.length - (intOf i).toNat)
  case atStart => exact ⟨0, Nat.zero_le _, rfl, rfl, Below.refl _ _⟩
  case round =>
    obtain ⟨k, hk, rfl, rfl, hb⟩ := hrel
    have KB := Aside.mk hb
    clear hb
    by_cases hlt : k < l.length
    · obtain ⟨b, o, _, rfl, -⟩ := Row.at HL.out k hlt
      obtain ⟨hbl, p0⟩ := byt_cells HL.out KB.out hlt
      have hz := HO.out _ (List.getElem_mem hlt)
      have hz0 := hz.1
      have hz1 := hz.2
      have ht := totI_bound (l := l.take k) (fun z hz => HO.out z (List.mem_of_mem_take hz)) 0
      have ht0 := ht.1
      have ht1 : totI 0 (l.take k) ≤ 65280000000 := by have := ht.2; rw [List.length_take] at this; omega
      have HT := Aside.mk (totI_take hlt)
      clear hz ht
      obtain ⟨z, HZ⟩ : ∃ z, l[k] = z := ⟨_, rfl⟩
      rw [HZ] at p0 hz0 hz1 HT
      obtain ⟨t, HE⟩ : ∃ t, totI 0 (l.take k) = t := ⟨_, rfl⟩
      rw [HE] at HT ht0 ht1
      have HE := Aside.mk HE
      clear HZ
      rcases Nat.mod_two_eq_zero_or_one k with h | h
      · have HP := Aside.mk h
        go_wp2
        refine ⟨⟨k + 1, by omega, by push_cast; rfl, ?_, KB.out⟩, by simp [intOf]; omega⟩
        rw [HT.out, if_pos HP.out]
        congr 1
        omega
      · have HP := Aside.mk h
        go_wp2
        refine ⟨⟨k + 1, by omega, by push_cast; rfl, ?_, KB.out⟩, by simp [intOf]; omega⟩
        rw [HT.out, if_neg (by have := HP.out; omega)]
        congr 1
        omega
    · obtain rfl : k = l.length := by omega
      rw [List.take_length, HN.out]
      clear HL
      go_wp2
      go_loopw [3] (fun n wr => ∃ x : Int, n = .int .i64 x ∧ 0 ≤ x ∧ x ≤ 65280000000 ∧ foldC x = foldC N ∧ Below w.heap.size w wr) (fun n _ => (intOf n).toNat)
      case atStart => exact ⟨N, rfl, hN0, hN1, rfl, KB.out⟩
      case round =>
        obtain ⟨n, rfl, h0, h1, he, hb⟩ := hrel
        have HE := Aside.mk he
        have KB := Aside.mk hb
        clear he hb
        by_cases h : 65535 < n
        · have hf := fold_less h
          have hf0 := hf.1
          have hf1 : n / 65536 + n % 65536 ≤ 100000000000 := by omega
          have HF := Aside.mk (foldC_fold h)
          clear hf
          go_wp2
          have h2 := fold_less h
          refine ⟨⟨_, rfl, hf0, by omega, HF.out.trans HE.out, KB.out⟩, ?_⟩
          simp only [intOf]
          omega
        · have HF := Aside.mk (foldC_small h0 (by omega))
          go_wp2
          go_ret
          exact ⟨ret_int (by unfold sumI; rw [HN.out, ← HE.out, HF.out]), KB.out⟩
end Go.Proofs.Ytlpobpciiaofeaa
