/- Configurations that a call makes: the headers of lists of its own; a list turned. -/
import Derived.Test.YtlnnkkbcmidddaaConfF
import Derived.Test.YtlnnkkbcmidddaaRegionK
namespace Go.Proofs.Ytlnnkkbcmidddaa
open Go.RowKit
set_option maxRecDepth 100000
theorem infoSl : (Try.prog.info? 33).map (fun i => (i.zero, i.size, i.bytes)) = some (some (.slice none 0 0), 1, 24) := by kernel_rfl
/-- What owns rows of two types does not share a block. -/
theorem Own.apart2 {α β : Type} {f : Flat α} {g : Flat β} {w : World} {base base' : Nat} {e e' : TypeId} {v v' : Value} {xs : List α} {ys : List β} (h : Own f w base e v xs) (h' : Own g w base' e' v' ys) (hne : e ≠ e') : v.ownBlock = none ∨ v.ownBlock ≠ v'.ownBlock := by
  rcases h'.2 with ⟨rfl, -⟩ | ⟨b, cap, cur, rfl, -, hb, -⟩
  · cases hv : v.ownBlock with
    | none => exact .inl rfl
    | some k => exact .inr (fun h => by cases h)
  · exact .inr (h.ne_type hb hne)
abbrev hdrV (h : Hdr) : Value := .slice h.1 h.2.1 h.2.2
/-- Headers of lists of rules, each one of the call's own. -/
def Hdrs (w : World) (base : Nat) (hs : List Hdr) (ls : List (List Rul)) : Prop := ls.length = hs.length ∧ ∀ (i : Nat) (x : Hdr) (l : List Rul), hs[i]? = some x → ls[i]? = some l → Own rulF w base 58 (hdrV x) l
theorem Hdrs.nil (w : World) (base : Nat) : Hdrs w base [] [] := ⟨rfl, fun i x l h => by simp at h⟩
theorem Hdrs.kept {w w' : World} {base base' : Nat} {hs hs' : List Hdr} {ls : List (List Rul)} {v : Value} (h : Hdrs w base hs ls) (hv : Own hdrF w base' 33 v hs') (hg : w.grownBy w' v.ownBlock) : Hdrs w' base hs ls :=
  ⟨h.1, fun i x l hx hl => (h.2 i x l hx hl).kept hg ((h.2 i x l hx hl).apart2 hv (by decide))⟩
theorem Hdrs.below {w w' : World} {base : Nat} {hs : List Hdr} {ls : List (List Rul)} (h : Hdrs w base hs ls) (hb : Below w.heap.size w w') : Hdrs w' base hs ls :=
  ⟨h.1, fun i x l hx hl => (h.2 i x l hx hl).below hb⟩
theorem Hdrs.snoc {w : World} {base : Nat} {hs : List Hdr} {ls : List (List Rul)} {x : Hdr} {l : List Rul} (h : Hdrs w base hs ls) (hx : Own rulF w base 58 (hdrV x) l) : Hdrs w base (hs ++ [x]) (ls ++ [l]) := by
  refine ⟨by simp [h.1], fun i y m hy hm => ?_⟩
  by_cases hi : i < hs.length
  · rw [List.getElem?_append_left hi] at hy
    rw [List.getElem?_append_left (by rw [h.1]; exact hi)] at hm
    exact h.2 i y m hy hm
  · rw [List.getElem?_append_right (by omega)] at hy
    rw [List.getElem?_append_right (by rw [h.1]; omega), h.1] at hm
    have h0 : i - hs.length = 0 := by
      have := (List.getElem?_eq_some_iff.1 hy).1
      simp at this
      omega
    rw [h0] at hy hm
    simp at hy hm
    subst hy hm
    exact hx
theorem Own.hdrOf {w : World} {base : Nat} {x : Hdr} {l : List Rul} {e : TypeId} (h : Own rulF w base e (hdrV x) l) : HdrOf w x l := by
  obtain ⟨A, c, e1, hc, hr⟩ := h.rd
  obtain ⟨a, n, k⟩ := x
  injection e1 with e1 e2 e3
  subst e1 e2 e3
  refine ⟨rfl, hc, ?_, hr⟩
  intro h0
  rcases h.2 with ⟨h1, -⟩ | ⟨b, cap, cur, h1, -⟩
  · injection h1
  · injection h1 with h2
    rw [show a = none from h0] at h2
    cases h2
theorem Hdrs.conf {w : World} {base base' : Nat} {hs : List Hdr} {ls : List (List Rul)} {A : Option Addr} {n c : Nat} {e : TypeId} (h : Hdrs w base hs ls) (hv : Own hdrF w base' e (.slice A n c) hs) : Rd confD w A ls.length ls := by
  obtain ⟨A', c', e1, -, hr⟩ := hv.rd
  injection e1 with e1 e2 e3
  subst e1 e2 e3
  rw [h.1]
  exact conf_hdr hr h.1 (fun i x l hx hl => (h.2 i x l hx hl).hdrOf)
/-- A list turned. -/
def turnL (n : Nat) (l : List Rul) : List Rul := l.drop (n % l.length) ++ l.take (n % l.length)
theorem turn_perm (n : Nat) (l : List Rul) : List.Perm (turnL n l) l := by
  unfold turnL
  conv => rhs; rw [← List.take_append_drop (n % l.length) l]
  exact List.perm_append_comm
theorem turn_len (n : Nat) (l : List Rul) : (turnL n l).length = l.length := (turn_perm n l).length_eq
theorem rulesP_perm {p : Int} {l m : List Rul} (h : l.Perm m) : rulesP p l = rulesP p m := by
  unfold rulesP
  rw [h.length_eq, Bool.eq_iff_iff]
  simp only [Bool.and_eq_true, decide_eq_true_eq, List.all_eq_true]
  constructor
  · rintro ⟨⟨h1, h2⟩, h3⟩
    exact ⟨⟨h1, (h.map keyR).nodup_iff.1 h2⟩, fun x hx => h3 x (h.mem_iff.2 hx)⟩
  · rintro ⟨⟨h1, h2⟩, h3⟩
    exact ⟨⟨h1, (h.map keyR).nodup_iff.2 h2⟩, fun x hx => h3 x (h.mem_iff.1 hx)⟩
theorem same_turn (n : Nat) (cs : List (List Rul)) : sameC cs (cs.map (turnL n)) = true := by
  unfold sameC
  refine decide_eq_true ?_
  rw [List.map_map]
  exact List.map_congr_left (fun l _ => (sortP_of_perm (turn_perm n l)).symm)
theorem may_turn {s p : Int} {ls : List Lnk} {cs : List (List Rul)} (n : Nat) (h : mayC s p ls cs = true) : mayC s p ls (cs.map (turnL n)) = true := by
  obtain ⟨h1, h2, h3⟩ := mayC_parts h
  refine mayC_mk h1 (by rw [List.length_map]; exact h2) (fun l hl => ?_)
  obtain ⟨m, hm, rfl⟩ := List.mem_map.1 hl
  rw [rulesP_perm (turn_perm n m)]
  exact h3 m hm
theorem most_turn (n : Nat) (cs : List (List Rul)) : mostC (cs.map (turnL n)) = mostC cs := by
  unfold mostC
  rw [List.foldl_map]
  congr 1
  funext m l
  rw [turn_len]
end Go.Proofs.Ytlnnkkbcmidddaa
