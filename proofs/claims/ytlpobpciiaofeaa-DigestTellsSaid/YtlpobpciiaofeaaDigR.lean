/- The walk through the document's Of of layer 10. -/
import Derived.Test.YtlpobpciiaofeaaDigQ
import Derived.Test.YtlpobpciiaofeaaVerV
namespace Go.Proofs.Ytlpobpciiaofeaa
open Go.RowKit
set_option maxRecDepth 100000
theorem and_word (a : Int) : bits .and .i64 a 65535 = a % 65536 := by
  rw [show (65535 : Int) = ((65535 : Nat) : Int) from rfl, bits_and64 _ _ (by decide), show (65535 : Nat) = 2 ^ 16 - 1 by decide, Nat.and_two_pow_sub_one_eq_mod]
  omega
theorem beN_two (n : Int) : beN n 2 = [n / 256 % 256, n % 256] := by simp [beN, pw]
theorem putTwo_any (n : Int) (w : World) (h0 : 0 ≤ n) (h1 : n < 65536) :
    Calls Try.prog 40 #[.int .i64 n, .int .i64 2] w fun e w' => ∃ v, e = .returned (.tuple #[v, .int .i64 0]) ∧ Own bytF w' w.heap.size 5 v [n / 256 % 256, n % 256] ∧ Below w.heap.size w w' := by
  rw [← beN_two]
  exact putR_any n 2 w h0 (by decide) (by decide) h1
theorem told_snoc {l : List Rul} {k : Nat} (h : k < l.length) : ((l.take (k + 1)).filter mayI).flatMap toldB = ((l.take k).filter mayI).flatMap toldB ++ (if mayI l[k] then toldB l[k] else []) := by
  rw [List.take_succ_eq_append_getElem h, List.filter_append, List.flatMap_append]
  cases hm : mayI l[k] <;> simp [hm]
/-- What owns rows of two types does not share a block. -/
theorem Own.apart {α β : Type} {f : Flat α} {g : Flat β} {w : World} {base base' : Nat} {e e' : TypeId} {v v' : Value} {xs : List α} {ys : List β} (h : Own f w base e v xs) (h' : Own g w base' e' v' ys) (hne : e ≠ e') : v.ownBlock = none ∨ v.ownBlock ≠ v'.ownBlock := by
  rcases h'.2 with ⟨rfl, -⟩ | ⟨b, cap, cur, rfl, -, hb, -⟩
  · cases hv : v.ownBlock with
    | none => exact .inl rfl
    | some k => exact .inr (fun h => by cases h)
  · exact .inr (h.ne_type hb hne)
set_option maxHeartbeats 2000000 in
theorem ofR_any (tag : Int) (l : List Rul) (A : Option Addr) (c : Nat) (w : World) (hl : Rd rulD w A l.length l) (hlen : l.length ≤ 60) (ht : Fit tag) :
    Calls Try.prog 26 #[.int .i64 tag, .slice A l.length c] w fun e w' => e = .returned (.int .i64 (ofP tag l)) ∧ Below w.heap.size w w' := by
  have HL := Aside.mk hl
  have HT := Aside.mk ht
  have hand := and_word tag
  have t0 : 0 ≤ tag % 65536 := by omega
  have t1 : tag % 65536 < 65536 := by omega
  clear hl ht
  go_enter Try.func26, Try.ntmps26
  go_wp2_with (first
    | (go_at_call 40; refine (putTwo_any _ _ t0 t1).mono ?_; rintro e w1 ⟨v, rfl, ho1, hb1⟩; have KO := Aside.mk ho1; have KB := Aside.mk hb1; have HB1 := Aside.mk hb1.size; clear ho1 hb1)
    | (go_at_call 16; refine (orderR_any l A c _ (HL.out.below KB.out) (by omega)).mono ?_; rintro e w2 ⟨v2, rfl, ho2, hb2⟩; have KP := Aside.mk ho2; have KO := Aside.mk (KO.out.below hb2); have KB := Aside.mk (below_call KB.out hb2); clear ho2 hb2))
  obtain ⟨HD, hHD⟩ : ∃ x, headB tag = x := ⟨_, rfl⟩
  have hHDl : HD.length ≤ 2 := by rw [← hHD]; exact Nat.le_refl 2
  have KO0 : Aside (Own bytF w2 w.heap.size 5 v HD) := .mk (by
    have e : HD = [tag % 65536 / 256 % 256, tag % 65536 % 256] := by
      rw [← hHD]
      show [tag / 256 % 256, tag % 256] = _
      rw [show tag % 65536 / 256 % 256 = tag / 256 % 256 by omega, show tag % 65536 % 256 = tag % 256 by omega]
    rw [e]
    exact KO.out)
  have HHD := Aside.mk hHD
  obtain ⟨S, hS⟩ : ∃ S, sortP l = S := ⟨_, rfl⟩
  have HSl := Aside.mk (show S.length = l.length by rw [← hS, sortP_len])
  have hS60 : S.length ≤ 60 := by have := HSl.out; omega
  rw [hS] at KP
  have HS := Aside.mk hS
  obtain ⟨A1, k1, rfl, -⟩ := KP.out.form
  have KP := Aside.mk (KP.out.mono (base' := w.heap.size) HB1.out)
  clear KO hS hHD hand t0 t1
  go_loopw [5, 8] (fun v i wr => ∃ (k : Nat) (L : List Int), k ≤ S.length ∧ i = .int .i64 k ∧ L = HD ++ ((S.take k).filter mayI).flatMap toldB ∧ Own bytF wr w.heap.size 5 v L ∧ Own rulF wr w.heap.size 33 (.slice A1 S.length k1) S ∧ Below w.heap.size w wr) (fun _ i _ => S.length - (intOf i).toNat)
  case atStart => exact ⟨0, HD, Nat.zero_le _, rfl, by simp, KO0.out, KP.out, KB.out⟩
  case round =>
    obtain ⟨k, L, hk, rfl, hL, ho, hp, hb⟩ := hrel
    obtain ⟨A0, k0, rfl, -⟩ := ho.form
    have KC := Aside.mk hb
    have KO := Aside.mk ho
    have KP := Aside.mk hp
    have hr1 : Rd rulF.kd wr A1 S.length S := by
      obtain ⟨A', c', e, -, hr⟩ := hp.rd
      cases e
      exact hr
    have HR1 := Aside.mk hr1
    have HLL := Aside.mk hL
    have hLl : L.length ≤ 602 := by
      have h1 : ((S.take k).filter mayI).length ≤ k := Nat.le_trans (List.length_filter_le _ _) (by rw [List.length_take]; omega)
      rw [hL, List.length_append, flat_told]
      omega
    clear hb ho hL hp hr1
    by_cases hlt : k < S.length
    · obtain ⟨b, o, _, rfl, -⟩ := Row.at HR1.out k hlt
      obtain ⟨hw1, p0, p1, p2, p3, p4, p5⟩ := rul_cells (c := k1) HR1.out (Below.refl _ wr) hlt
      have HTT := Aside.mk (told_snoc hlt)
      obtain ⟨x, hx⟩ : ∃ x, S[k] = x := ⟨_, rfl⟩
      rw [hx] at p0 p1 p2 p3 p4 p5 HTT
      clear hx
      have hsw := KC.out.size
      cases hm : mayI x
      · have HM := Aside.mk hm
        have HT2 : Aside (L = HD ++ ((S.take (k + 1)).filter mayI).flatMap toldB) := .mk (by rw [HTT.out, HM.out, HLL.out]; simp)
        clear hm
        go_wp2_with (go_at_call 41; refine (rputRNo_any x _ HM.out).mono ?_; rintro e w3 ⟨rfl, hb3⟩; have KC := Aside.mk (below_call KC.out hb3); have KO := Aside.mk (KO.out.below hb3); have KP := Aside.mk (KP.out.below hb3); clear hb3 p0 p1 p2 p3 p4 p5)
        exact ⟨⟨k + 1, L, by omega, by push_cast; rfl, HT2.out, KO.out, KP.out, KC.out⟩, by simp [intOf]; omega⟩
      · have HM := Aside.mk hm
        obtain ⟨X, hX⟩ : ∃ X, putB x = X := ⟨_, rfl⟩
        have hXl : X.length ≤ 9 := by rw [← hX]; exact Nat.le_refl 9
        have HT2 : Aside (L ++ X ++ [0] = HD ++ ((S.take (k + 1)).filter mayI).flatMap toldB) := .mk (by rw [HTT.out, HM.out, HLL.out, ← hX]; simp [toldB])
        have HX := Aside.mk hX
        obtain ⟨Z, hZ⟩ : ∃ Z, L ++ X = Z := ⟨_, rfl⟩
        have hZl : Z.length ≤ 611 := by rw [← hZ, List.length_append]; omega
        rw [hZ] at HT2
        have HZ := Aside.mk hZ
        clear hm hX hZ
        go_wp2_with (first
          | (go_at_call 41; refine (rputR_any x _ HM.out).mono ?_; rintro e w3 ⟨v3, rfl, ho3, hb3⟩; rw [HX.out] at ho3; obtain ⟨A3, k3, rfl, -, hr3⟩ := ho3.rd; have HN3 := Aside.mk ho3.nilc3; have HR3 := Aside.mk hr3; have KC := Aside.mk (below_call KC.out hb3); have hs3 := hb3.size; have KO := Aside.mk (KO.out.below hb3); have KP := Aside.mk (KP.out.below hb3); clear hb3 p0 p1 p2 p3 p4 p5 ho3 hr3; have HF : Aside True := .mk trivial)
          | (have hfl := HF; clear hfl HF; at_builtin; refine wp_appRow (f := bytF) w.heap.size rfl _ _ _ _ _ _ rfl Try.underlying58 infoByt rfl (by decide) (.slice A0 L.length k0) L X A3 k3 rfl rfl HN3.out KO.out HR3.out (by omega) (by omega) ?_; intro v4 w4 ho4 hg4 hat4; rw [HZ.out] at ho4; have KC := Aside.mk (KC.out.grown hg4 KC.out.size (fun k e => (KO.out.lt k e).1)); have KP := Aside.mk (KP.out.kept hg4 (KP.out.apart KO.out (by decide))); obtain ⟨A4, k4, rfl, -⟩ := ho4.form; have KO := Aside.mk ho4; have hs4 := KC.out.size; clear ho4 hg4 hat4; have HF2 : Aside True := .mk trivial)
          | (have hfl := HF2; clear hfl HF2; at_builtin; refine wp_app1 (f := bytF) w.heap.size rfl _ _ _ _ _ _ rfl Try.underlying58 infoByt rfl (by decide) (.slice A4 Z.length k4) Z 0 _ rfl rfl (by go_simp) KO.out hs4 (by omega) ?_; intro v5 w5 ho5 hg5 hat5; have KC := Aside.mk (KC.out.grown hg5 KC.out.size (fun k e => (KO.out.lt k e).1)); have KP := Aside.mk (KP.out.kept hg5 (KP.out.apart KO.out (by decide))); have KO := Aside.mk ho5; clear ho5 hg5 hat5))
        exact ⟨⟨k + 1, Z ++ [0], by omega, by push_cast; rfl, HT2.out, KO.out, KP.out, KC.out⟩, by simp [intOf]; omega⟩
    · obtain rfl : k = S.length := by omega
      have HL2 : Aside (L = bytesP tag l) := .mk (by rw [HLL.out, List.take_length]; unfold bytesP; rw [HS.out, HHD.out])
      have hoct : Oct L := by rw [HL2.out]; exact bytes_oct tag l
      have hr0 : Rd bytF.kd wr A0 L.length L := by
        obtain ⟨A', c', e, -, hr⟩ := KO.out.rd
        cases e
        exact hr
      have HR0 := Aside.mk hr0
      have HOC := Aside.mk hoct
      clear hr0 hoct
      go_wp2_with (go_at_call 42; refine (sumR_any L A0 k0 _ HR0.out HOC.out (by omega)).mono ?_; rintro e w6 ⟨rfl, hb6⟩; have KC := Aside.mk (below_call KC.out hb6); clear hb6)
      go_ret
      exact ⟨ret_int (by rw [HL2.out]; rfl), KC.out⟩
end Go.Proofs.Ytlpobpciiaofeaa
