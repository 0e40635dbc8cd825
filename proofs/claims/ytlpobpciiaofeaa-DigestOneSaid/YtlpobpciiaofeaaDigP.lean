/- Sums of bytes (chapters 02, 10), plain. -/
import Derived.Test.YtlpobpciiaofeaaPickF
import Derived.Test.YtlpobpciiaofeaaOwn
namespace Go.Proofs.Ytlpobpciiaofeaa
open Go.RowKit
/-- Bytes that are. -/
def Oct (l : List Int) : Prop := ∀ z ∈ l, 0 ≤ z ∧ z < 256
theorem Oct.nil : Oct [] := fun _ h => by cases h
theorem Oct.app {a b : List Int} (ha : Oct a) (hb : Oct b) : Oct (a ++ b) := fun z hz => (List.mem_append.1 hz).elim (ha z) (hb z)
/-- What the bytes come to, the first one standing at place i. -/
def totI : Nat → List Int → Int
  | _, [] => 0
  | i, z :: zs => z * (if i % 2 = 0 then 256 else 1) + totI (i + 1) zs
/-- The sum folded to 16 bits. -/
def foldC (n : Int) : Int := if n = 0 then 0 else (n - 1) % 65535 + 1
def sumI (l : List Int) : Int := 65535 - foldC (totI 0 l)
theorem foldC_small {n : Int} (h0 : 0 ≤ n) (h : n ≤ 65535) : foldC n = n := by unfold foldC; split <;> omega
theorem foldC_fold {n : Int} (h : 65535 < n) : foldC (n / 65536 + n % 65536) = foldC n := by
  unfold foldC
  rw [if_neg (by omega), if_neg (by omega)]
  omega
theorem foldC_bounds {n : Int} (h : 0 ≤ n) : 0 ≤ foldC n ∧ foldC n ≤ 65535 := by unfold foldC; split <;> omega
theorem fold_less {n : Int} (h : 65535 < n) : 0 ≤ n / 65536 + n % 65536 ∧ n / 65536 + n % 65536 < n := by omega
theorem totI_bound {l : List Int} (h : Oct l) : ∀ i, 0 ≤ totI i l ∧ totI i l ≤ l.length * 65280 := by
  induction l with
  | nil => intro i; simp [totI]
  | cons z zs ih =>
    intro i
    have h1 := h z (by simp)
    have h2 := ih (fun y hy => h y (by simp [hy])) (i + 1)
    unfold totI
    rw [List.length_cons]
    split <;> omega
theorem totI_app : ∀ (a b : List Int) (i : Nat), totI i (a ++ b) = totI i a + totI (i + a.length) b
  | [], b, i => by simp [totI]
  | z :: zs, b, i => by
    rw [List.cons_append, totI, totI, totI_app zs b (i + 1), List.length_cons, show i + 1 + zs.length = i + (zs.length + 1) by omega]
    omega
theorem totI_par (l : List Int) : ∀ i j, i % 2 = j % 2 → totI i l = totI j l := by
  induction l with
  | nil => intro i j _; rfl
  | cons z zs ih =>
    intro i j h
    rw [totI, totI, ih (i + 1) (j + 1) (by omega), h]
theorem sumI_bounds {l : List Int} (h : Oct l) : 0 ≤ sumI l ∧ sumI l ≤ 65535 := by
  have h1 := foldC_bounds (totI_bound h 0).1
  unfold sumI
  omega
/-- Two sums are one just if their totals differ by a multiple, none of both being 0. -/
theorem foldC_eq {m n : Int} (hm : 0 < m) (hn : 0 < n) : foldC m = foldC n ↔ (m - n) % 65535 = 0 := by
  unfold foldC
  rw [if_neg (by omega), if_neg (by omega)]
  omega
def bytF : Flat Int where
  enc z := [.int .u8 z]
  sz := 1
  len _ := rfl
  one _ u hu := by simp at hu; subst hu; rfl
  pos := by decide
/-- A rule's bytes, with the 0 behind. -/
def putB (r : Rul) : List Int := [r.addr / 16777216 % 256, r.addr / 65536 % 256, r.addr / 256 % 256, r.addr % 256, r.len, r.inn + 1, r.prio, r.kind, r.port]
end Go.Proofs.Ytlpobpciiaofeaa
