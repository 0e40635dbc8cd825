/- The walk through stableCmpFunc. -/
import Derived.Test.YtlnnkkbcmidddaaSortH
namespace Go.Proofs.Ytlnnkkbcmidddaa
open Go.RowKit
set_option maxRecDepth 100000

theorem chunk_nil (n : Nat) : chunkP n [] = [] := by rw [chunkP_le (by simp), sortP_nil]
/-- One more run behind whole ones. -/
theorem chunk_snoc {n : Nat} (h0 : n ≠ 0) : ∀ (k : Nat) (l p : List Rul), l.length = n * k → p.length ≤ n → chunkP n (l ++ p) = chunkP n l ++ sortP p
  | 0, l, p, hl, hp => by
    obtain rfl : l = [] := List.eq_nil_of_length_eq_zero (by simpa using hl)
    rw [List.nil_append, chunk_nil, List.nil_append, chunkP_le hp]
  | k + 1, l, p, hl, hp => by
    have hn : n ≤ l.length := by rw [hl, Nat.mul_add]; omega
    have e : l = l.take n ++ l.drop n := (List.take_append_drop n l).symm
    have hk : (l.drop n).length = n * k := by rw [List.length_drop, hl, Nat.mul_add]; omega
    have kt : (l.take n).length = n := by rw [List.length_take]; omega
    have a1 := chunkP_app h0 (l := l.drop n ++ p) kt
    have a2 := chunkP_app h0 (l := l.drop n) kt
    rw [chunk_snoc h0 k _ p hk hp, ← List.append_assoc, ← List.append_assoc, ← e] at a1
    rw [← e] at a2
    rw [a1, a2]
theorem sortP_two (l k : List Rul) : sortP (sortP l ++ sortP k) = sortP (l ++ k) := sortP_of_perm ((sortP_perm l).append (sortP_perm k))

theorem insertion_nil (A : Option Addr) (c : Nat) (cv : Value) (w : World) : Calls Try.prog 77 #[.slice A 0 c, .int .i64 0, .int .i64 0, cv] w fun e w' => e = .returned (.tuple #[]) ∧ w' = w := by
  go_enter Try.func77, Try.ntmps77
  go_wp2
  go_loop [8] (fun i => i = .int .i64 1) (fun _ => 0)
  case atStart => rfl
  case round =>
    subst hrel
    go_wp2
    go_end0
    exact ⟨rfl, rfl⟩
theorem stable_nil (A : Option Addr) (c : Nat) (cv : Value) (w : World) : Calls Try.prog 67 #[.slice A 0 c, .int .i64 0, cv] w fun e w' => e = .returned (.tuple #[]) ∧ w' = w := by
  go_enter Try.func67, Try.ntmps67
  go_wp2
  go_loop [7, 8] (fun a b => a = .int .i64 0 ∧ b = .int .i64 20) (fun _ _ => 0)
  case atStart => exact ⟨rfl, rfl⟩
  case round =>
    obtain ⟨rfl, rfl⟩ := hrel
    go_wp2_with (go_at_call 77; refine (insertion_nil A c cv _).mono ?_; rintro e w1 ⟨rfl, rfl⟩)
    go_loop [6, 7, 8, 9] (fun s _ _ _ => s = .int .i64 20) (fun _ _ _ _ => 0)
    case atStart => rfl
    case round =>
      subst hrel
      go_wp2
      go_end0
      exact ⟨rfl, rfl⟩

set_option maxHeartbeats 4000000 in
theorem stable_any (base g n c : Nat) (W : World) (L : List Rul) (h : Own rulF W base 58 (.slice (some ⟨g, 0, none⟩) n c) L) (hn : n ≤ 1000000) :
    Calls Try.prog 67 #[.slice (some ⟨g, 0, none⟩) n c, .int .i64 n, .func (.func 54) #[] #[]] W fun e w' => e = .returned (.tuple #[]) ∧ Srts W base 58 g n c w' (sortP L) := by
  have hl := (Srts.start h).len
  have H := Aside.mk (Srts.start h)
  have HL := Aside.mk hl
  clear h hl
  go_enter Try.func67, Try.ntmps67
  go_wp2
  go_loopw [7, 8] (fun a b wr => ∃ k aa bb : Nat, a = .int .i64 aa ∧ b = .int .i64 bb ∧ aa = 20 * k ∧ bb = aa + 20 ∧ aa ≤ n ∧ Srts W base 58 g n c wr (chunkP 20 (L.take aa) ++ L.drop aa)) (fun _ b _ => n + 20 - (intOf b).toNat)
  case atStart => exact ⟨0, 0, 20, rfl, rfl, rfl, rfl, Nat.zero_le _, by rw [List.take_zero, chunk_nil]; exact H.out⟩
  case round =>
    clear H
    obtain ⟨k, aa, bb, rfl, rfl, haa, hbb, han, hs⟩ := hrel
    have HS := Aside.mk hs
    have hl := HL.out
    have k1 : (L.take aa).length = aa := by rw [List.length_take]; omega
    have HP := Aside.mk (show aa = (chunkP 20 (L.take aa)).length by rw [chunkP_len, k1])
    have HAA := Aside.mk haa
    have HBB := Aside.mk hbb
    have HK := Aside.mk k1
    clear hs k1
    by_cases hlt : bb ≤ n
    · have e1 : L.drop aa = (L.drop aa).take 20 ++ L.drop bb := by rw [hbb, ← List.drop_drop, List.take_append_drop]
      have k2 : ((L.drop aa).take 20).length = 20 := by rw [List.length_take, List.length_drop]; omega
      have e2 : L.take bb = L.take aa ++ (L.drop aa).take 20 := by rw [hbb, List.take_add]
      have hs := HS.out
      rw [e1, ← List.append_assoc] at hs
      have HS := Aside.mk hs
      have HC := Aside.mk (show chunkP 20 (L.take bb) = chunkP 20 (L.take aa) ++ sortP ((L.drop aa).take 20) by rw [e2]; exact chunk_snoc (by decide) k _ _ (by rw [HK.out]; exact haa) (by omega))
      have HK2 := Aside.mk k2
      clear hs e1 e2 k2 hl haa hbb
      go_wp2_with (go_at_call 77; refine (insertion_any base g n c aa bb _ (chunkP 20 (L.take aa)) ((L.drop aa).take 20) (L.drop bb) HP.out (by rw [HK2.out]; exact HBB.out) HS.out.own hn).mono ?_; rintro e w1 ⟨rfl, hs1⟩; have HS := Aside.mk (HS.out.call hs1); clear hs1)
      exact ⟨⟨k + 1, bb, bb + 20, by go_num, by go_num, by have := HAA.out; have := HBB.out; omega, rfl, by omega, by rw [HC.out]; exact HS.out⟩, by simp [intOf]; omega⟩
    · have hs := HS.out
      rw [← List.append_nil (chunkP 20 (L.take aa) ++ L.drop aa)] at hs
      have HS := Aside.mk hs
      have k2 : (L.drop aa).length = n - aa := by rw [List.length_drop]; omega
      have HC := Aside.mk (show chunkP 20 L = chunkP 20 (L.take aa) ++ sortP (L.drop aa) by
        conv => lhs; rw [← List.take_append_drop aa L]
        exact chunk_snoc (by decide) k _ _ (by rw [HK.out]; exact haa) (by omega))
      have HK2 := Aside.mk k2
      clear hs k2 hl haa hbb
      go_wp2_with (go_at_call 77; refine (insertion_any base g n c aa n _ (chunkP 20 (L.take aa)) (L.drop aa) [] HP.out (by rw [HK2.out]; omega) HS.out.own hn).mono ?_; rintro e w1 ⟨rfl, hs1⟩; have HS := Aside.mk (HS.out.call hs1); clear hs1)
      have hs := HS.out
      rw [List.append_nil, ← HC.out] at hs
      have HS := Aside.mk hs
      clear hs HC HK2 HP HAA HBB HK han hlt
      go_loopw [6, 7, 8, 9] (fun s a b m wr => ∃ bs : Nat, s = .int .i64 bs ∧ 0 < bs ∧ bs ≤ 2 * n + 20 ∧ Srts W base 58 g n c wr (chunkP bs L)) (fun s _ _ _ _ => n - (intOf s).toNat)
      case atStart => exact ⟨20, rfl, by decide, by omega, HS.out⟩
      case round =>
        clear HS
        obtain ⟨bs, rfl, hb0, hbl, hs⟩ := hrel
        have HS := Aside.mk hs
        clear hs
        by_cases hbn : bs < n
        · have w1 : ∀ z : Nat, z ≤ 9000000 → IntKind.i64.wrap (z : Int) = (z : Int) := fun z hz => IntWalk.i64_in _ (by omega)
          obtain ⟨b2, hb2⟩ : ∃ b2, b2 = 2 * bs := ⟨_, rfl⟩
          have m1 : 2 * (bs : Int) = (b2 : Int) := by omega
          have m1' : (bs : Int) * 2 = (b2 : Int) := by omega
          have m2 := w1 b2 (by omega)
          have W1 := Aside.mk w1
          have HB2 := Aside.mk hb2
          have HB0 := Aside.mk hb0
          clear w1 hb2 hb0
          go_wp2
          go_loopw [7, 8] (fun a b wr => ∃ k aa bb : Nat, a = .int .i64 aa ∧ b = .int .i64 bb ∧ aa = b2 * k ∧ bb = aa + b2 ∧ aa ≤ n ∧ Srts W base 58 g n c wr (chunkP b2 (L.take aa) ++ chunkP bs (L.drop aa))) (fun _ b _ => n + b2 - (intOf b).toNat)
          case atStart => exact ⟨0, 0, b2, rfl, by go_num, rfl, by omega, Nat.zero_le _, by rw [List.take_zero, chunk_nil]; exact HS.out⟩
          case round =>
            clear HS
            obtain ⟨k, aa, bb, rfl, rfl, haa, hbb, han, hs⟩ := hrel
            have HS := Aside.mk hs
            have hl := HL.out
            have hb2 := HB2.out
            have hb0 := HB0.out
            have k1 : (L.take aa).length = aa := by rw [List.length_take]; omega
            have HP := Aside.mk (show aa = (chunkP b2 (L.take aa)).length by rw [chunkP_len, k1])
            have HAA := Aside.mk haa
            have HBB := Aside.mk hbb
            have HK := Aside.mk k1
            obtain ⟨mm, hmm⟩ : ∃ mm, mm = aa + bs := ⟨_, rfl⟩
            have m3 : (aa : Int) + (bs : Int) = (mm : Int) := by omega
            have m4 := W1.out mm (by omega)
            have HMM := Aside.mk hmm
            clear hs k1
            by_cases hlt : bb ≤ n
            · have e1 : L.drop aa = (L.drop aa).take bs ++ ((L.drop mm).take bs ++ L.drop bb) := by
                rw [show bb = mm + bs by omega, ← List.drop_drop, List.take_append_drop, hmm, ← List.drop_drop, List.take_append_drop]
              have k2 : ((L.drop aa).take bs).length = bs := by rw [List.length_take, List.length_drop]; omega
              have k3 : ((L.drop mm).take bs).length = bs := by rw [List.length_take, List.length_drop]; omega
              have e2 : L.take bb = L.take aa ++ ((L.drop aa).take bs ++ (L.drop mm).take bs) := by
                rw [show bb = aa + (bs + bs) by omega, List.take_add, List.take_add, hmm, ← List.drop_drop]
              have hs := HS.out
              rw [e1, chunkP_app (by omega) k2, chunkP_app (by omega) k3, ← List.append_assoc, ← List.append_assoc] at hs
              have HS := Aside.mk hs
              have HC := Aside.mk (show chunkP b2 (L.take bb) = chunkP b2 (L.take aa) ++ sortP (sortP ((L.drop aa).take bs) ++ sortP ((L.drop mm).take bs)) by rw [e2, sortP_two]; exact chunk_snoc (by omega) k _ _ (by rw [HK.out]; exact haa) (by rw [List.length_append]; omega))
              have HK2 := Aside.mk k2
              have HK3 := Aside.mk k3
              obtain ⟨b3, hb3⟩ : ∃ b3, b3 = bb + b2 := ⟨_, rfl⟩
              have m5 : (bb : Int) + (b2 : Int) = (b3 : Int) := by omega
              have m6 := W1.out b3 (by omega)
              have HB3 := Aside.mk hb3
              have HBN := Aside.mk (show n - bb < n + b2 - bb by omega)
              clear hs e1 e2 k2 k3 hl haa hbb hb2 hb0 hmm hb3
              go_wp2_with (go_at_call 78; refine (sym_any _ base g n c aa mm bb _ (chunkP b2 (L.take aa)) (sortP ((L.drop aa).take bs)) (sortP ((L.drop mm).take bs)) (chunkP bs (L.drop bb)) (Nat.le_refl _) HP.out (by rw [sortP_len, HK2.out]; exact HMM.out) (by have := HMM.out; have := HBB.out; have := HB2.out; rw [sortP_len, HK3.out]; omega) (by rw [sortP_len, HK2.out]; exact HB0.out) (by rw [sortP_len, HK3.out]; exact HB0.out) (sortP_srt _) (sortP_srt _) HS.out.own hn).mono ?_; rintro e w1 ⟨rfl, hs1⟩; have HS := Aside.mk (HS.out.call hs1); clear hs1)
              exact ⟨⟨k + 1, bb, b3, by go_num, by go_num, by have := HAA.out; have := HBB.out; rw [Nat.mul_add]; omega, HB3.out, by omega, by rw [HC.out]; exact HS.out⟩, by have := HB3.out; have := HB2.out; have := HB0.out; simp [intOf]; omega⟩
            · by_cases hm : mm < n
              · have e1 : L.drop aa = (L.drop aa).take bs ++ L.drop mm := by rw [hmm, ← List.drop_drop, List.take_append_drop]
                have k2 : ((L.drop aa).take bs).length = bs := by rw [List.length_take, List.length_drop]; omega
                have k3 : (L.drop mm).length = n - mm := by rw [List.length_drop]; omega
                have hs := HS.out
                rw [e1, chunkP_app (by omega) k2, chunkP_le (l := L.drop mm) (by omega), ← List.append_assoc, ← List.append_nil (_ ++ sortP (L.drop mm))] at hs
                have HS := Aside.mk hs
                have HC := Aside.mk (show chunkP b2 L = chunkP b2 (L.take aa) ++ sortP (sortP ((L.drop aa).take bs) ++ sortP (L.drop mm)) by
                  rw [sortP_two, ← e1]
                  conv => lhs; rw [← List.take_append_drop aa L]
                  exact chunk_snoc (by omega) k _ _ (by rw [HK.out]; exact haa) (by rw [List.length_drop]; omega))
                have HK2 := Aside.mk k2
                have HK3 := Aside.mk k3
                clear hs e1 k2 k3 hl haa hbb hb2 hb0 hmm
                go_wp2_with (go_at_call 78; refine (sym_any _ base g n c aa mm n _ (chunkP b2 (L.take aa)) (sortP ((L.drop aa).take bs)) (sortP (L.drop mm)) [] (Nat.le_refl _) HP.out (by rw [sortP_len, HK2.out]; exact HMM.out) (by rw [sortP_len, HK3.out]; omega) (by rw [sortP_len, HK2.out]; exact HB0.out) (by rw [sortP_len, HK3.out]; omega) (sortP_srt _) (sortP_srt _) HS.out.own hn).mono ?_; rintro e w1 ⟨rfl, hs1⟩; have HS := Aside.mk (HS.out.call hs1); clear hs1)
                exact ⟨⟨b2, by go_num, by have := HB2.out; have := HB0.out; omega, by have := HB2.out; omega, by rw [HC.out]; have h := HS.out; rw [List.append_nil] at h; exact h⟩, by have := HB2.out; have := HB0.out; simp [intOf]; omega⟩
              · have hs := HS.out
                rw [chunkP_le (l := L.drop aa) (by rw [List.length_drop]; omega)] at hs
                have HC := Aside.mk (show chunkP b2 L = chunkP b2 (L.take aa) ++ sortP (L.drop aa) by
                  conv => lhs; rw [← List.take_append_drop aa L]
                  exact chunk_snoc (by omega) k _ _ (by rw [HK.out]; exact haa) (by rw [List.length_drop]; omega))
                have HS := Aside.mk hs
                clear hs hl haa hbb hb2 hb0 hmm
                go_wp2
                exact ⟨⟨b2, by go_num, by have := HB2.out; have := HB0.out; omega, by have := HB2.out; omega, by rw [HC.out]; exact HS.out⟩, by have := HB2.out; have := HB0.out; simp [intOf]; omega⟩
        · have hs := HS.out
          rw [chunkP_le (by have := HL.out; omega)] at hs
          have HS := Aside.mk hs
          clear hs
          go_wp2
          go_end0
          exact ⟨rfl, HS.out⟩
end Go.Proofs.Ytlnnkkbcmidddaa
