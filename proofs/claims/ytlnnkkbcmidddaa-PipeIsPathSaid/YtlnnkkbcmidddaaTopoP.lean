/- Layer 11 in plain Lean: what its functions compute, said of numbers and lists. -/
import Derived.Test.YtlnnkkbcmidddaaMap
namespace Go.Proofs.Ytlnnkkbcmidddaa

structure Lnk where
  a : Int
  pa : Int
  b : Int
  pb : Int
abbrev End := Int × Int
def Lnk.fst (l : Lnk) : End := (l.a, l.pa)
def Lnk.snd (l : Lnk) : End := (l.b, l.pb)
def addEnd (m : List (End × End)) (x y : End) : List (End × End) := if (mget m x).isSome = true then m else mput m x y
def joinStep (m : List (End × End)) (l : Lnk) : List (End × End) := addEnd (addEnd m l.fst l.snd) l.snd l.fst
def joinedL (ls : List Lnk) : List (End × End) := ls.foldl joinStep []
theorem joinedL_snoc (ls : List Lnk) (l : Lnk) : joinedL (ls ++ [l]) = joinStep (joinedL ls) l := by simp [joinedL]
theorem joinedL_take (ls : List Lnk) (k : Nat) (h : k < ls.length) : joinedL (ls.take (k + 1)) = joinStep (joinedL (ls.take k)) ls[k] := by
  rw [List.take_succ_eq_append_getElem h, joinedL_snoc]
theorem addEnd_len (m : List (End × End)) (x y : End) : (addEnd m x y).length ≤ m.length + 1 := by
  unfold addEnd mput
  split
  · omega
  · split <;> simp
theorem joinedL_len (ls : List Lnk) : (joinedL ls).length ≤ 2 * ls.length := by
  unfold joinedL
  suffices h : ∀ (ls : List Lnk) (m : List (End × End)), (ls.foldl joinStep m).length ≤ m.length + 2 * ls.length by simpa using h ls []
  intro ls
  induction ls with
  | nil => intro m; simp
  | cons l ls ih =>
    intro m
    have h1 := ih (joinStep m l)
    have h2 := addEnd_len (addEnd m l.fst l.snd) l.snd l.fst
    have h3 := addEnd_len m l.fst l.snd
    simp only [List.foldl_cons, List.length_cons]
    unfold joinStep at h1 ⊢
    omega
def isEnd (s p : Int) (e : End) : Bool := decide (0 ≤ e.1) && decide (e.1 < s) && decide (0 ≤ e.2) && decide (e.2 < p)
def farL (s p : Int) (ls : List Lnk) (x y : Int) : Int × Int × Bool :=
  match mget (joinedL ls) (x, y) with
  | some e => if isEnd s p (x, y) = true then (e.1, e.2, true) else (0, 0, false)
  | none => (0, 0, false)
def edgeL (s p : Int) (ls : List Lnk) (x y : Int) : Bool := !(mget (joinedL ls) (x, y)).isSome && isEnd s p (x, y)
def mayT (s p : Int) (ls : List Lnk) : Bool :=
  decide (1 ≤ s ∧ s ≤ 6 ∧ 1 ≤ p ∧ p ≤ 8 ∧ ls.length ≤ 12) && (joinedL ls).all (fun x => isEnd s p x.1) && decide ((joinedL ls).length = 2 * ls.length)
/-- The ports of switch x, from 0 to p, that no link has; of the switches ahead of x all. -/
def rowL (ls : List Lnk) (x : Nat) (p : Nat) : List End := (List.range p).filterMap fun (y : Nat) => if (mget (joinedL ls) ((x : Int), (y : Int))).isSome = true then none else some ((x : Int), (y : Int))
def gridL (ls : List Lnk) (p : Nat) (x : Nat) : List End := (List.range x).flatMap fun i => rowL ls i p
def edgesL (s p : Int) (ls : List Lnk) : List End := if s > 100 ∨ p > 100 then [] else gridL ls p.toNat s.toNat
theorem rowL_succ (ls : List Lnk) (x p : Nat) : rowL ls x (p + 1) = rowL ls x p ++ (if (mget (joinedL ls) ((x : Int), (p : Int))).isSome = true then [] else [((x : Int), (p : Int))]) := by
  unfold rowL
  rw [List.range_succ, List.filterMap_append]
  congr 1
  cases h : mget (joinedL ls) ((x : Int), (p : Int)) <;> simp [h]
theorem gridL_succ (ls : List Lnk) (p x : Nat) : gridL ls p (x + 1) = gridL ls p x ++ rowL ls x p := by
  unfold gridL
  rw [List.range_succ, List.flatMap_append]
  simp
theorem rowL_len (ls : List Lnk) (x p : Nat) : (rowL ls x p).length ≤ p := by
  have := List.length_filterMap_le (fun (y : Nat) => if (mget (joinedL ls) ((x : Int), (y : Int))).isSome = true then none else some ((x : Int), (y : Int))) (List.range p)
  simpa [rowL] using this
theorem gridL_len (ls : List Lnk) (p : Nat) : ∀ x, (gridL ls p x).length ≤ x * p
  | 0 => by simp [gridL]
  | x + 1 => by
    rw [gridL_succ, List.length_append, Nat.add_mul]
    have := gridL_len ls p x
    have := rowL_len ls x p
    omega

/-! The document's answers. -/
def hits (l : Lnk) (x y : Int) : Nat := (if (l.a == x && l.pa == y) = true then 1 else 0) + (if (l.b == x && l.pb == y) = true then 1 else 0)
def endsN (ls : List Lnk) (x y : Int) : Nat := (ls.map fun l => hits l x y).sum
theorem endsN_take (ls : List Lnk) (x y : Int) (k : Nat) (h : k < ls.length) : endsN (ls.take (k + 1)) x y = endsN (ls.take k) x y + hits ls[k] x y := by
  unfold endsN
  rw [List.take_succ_eq_append_getElem h, List.map_append, List.sum_append]
  simp
theorem endsN_le (ls : List Lnk) (x y : Int) : endsN ls x y ≤ 2 * ls.length := by
  unfold endsN
  induction ls with
  | nil => simp
  | cons l ls ih =>
    simp only [List.map_cons, List.sum_cons, List.length_cons]
    have : hits l x y ≤ 2 := by unfold hits; split <;> split <;> omega
    omega
def goodR (s p : Int) (ls : List Lnk) (l : Lnk) : Bool := isEnd s p l.fst && isEnd s p l.snd && endsN ls l.a l.pa == 1 && endsN ls l.b l.pb == 1
def mayR (s p : Int) (ls : List Lnk) : Bool := decide (1 ≤ s ∧ s ≤ 6 ∧ 1 ≤ p ∧ p ≤ 8 ∧ ls.length ≤ 12) && ls.all (goodR s p ls)
def seekR : List Lnk → Int → Int → Option End
  | [], _, _ => none
  | l :: ls, x, y => if (l.a == x && l.pa == y) = true then some l.snd else if (l.b == x && l.pb == y) = true then some l.fst else seekR ls x y
def farR (s p : Int) (ls : List Lnk) (x y : Int) : Int × Int × Bool :=
  if isEnd s p (x, y) = true then (match seekR ls x y with | some e => (e.1, e.2, true) | none => (0, 0, false)) else (0, 0, false)
def edgeR (s p : Int) (ls : List Lnk) (x y : Int) : Bool := isEnd s p (x, y) && !(farR s p ls x y).2.2
def rowR (s q : Int) (ls : List Lnk) (x : Nat) (p : Nat) : List End := (List.range p).filterMap fun (y : Nat) => if edgeR s q ls (x : Int) (y : Int) = true then some ((x : Int), (y : Int)) else none
def gridR (s q : Int) (ls : List Lnk) (p : Nat) (x : Nat) : List End := (List.range x).flatMap fun i => rowR s q ls i p
def edgesR (s p : Int) (ls : List Lnk) : List End := if s > 100 ∨ p > 100 then [] else gridR s p ls p.toNat s.toNat
theorem rowR_succ (s q : Int) (ls : List Lnk) (x p : Nat) : rowR s q ls x (p + 1) = rowR s q ls x p ++ (if edgeR s q ls (x : Int) (p : Int) = true then [((x : Int), (p : Int))] else []) := by
  unfold rowR
  rw [List.range_succ, List.filterMap_append]
  congr 1
  cases h : edgeR s q ls (x : Int) (p : Int) <;> simp [h]
theorem gridR_succ (s q : Int) (ls : List Lnk) (p x : Nat) : gridR s q ls p (x + 1) = gridR s q ls p x ++ rowR s q ls x p := by
  unfold gridR
  rw [List.range_succ, List.flatMap_append]
  simp
theorem rowR_len (s q : Int) (ls : List Lnk) (x p : Nat) : (rowR s q ls x p).length ≤ p := by
  have := List.length_filterMap_le (fun (y : Nat) => if edgeR s q ls (x : Int) (y : Int) = true then some ((x : Int), (y : Int)) else none) (List.range p)
  simpa [rowR] using this
theorem gridR_len (s q : Int) (ls : List Lnk) (p : Nat) : ∀ x, (gridR s q ls p x).length ≤ x * p
  | 0 => by simp [gridR]
  | x + 1 => by
    rw [gridR_succ, List.length_append, Nat.add_mul]
    have := gridR_len s q ls p x
    have := rowR_len s q ls x p
    omega
end Go.Proofs.Ytlnnkkbcmidddaa
