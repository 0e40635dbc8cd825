/- How an argument that came in reads: numbers, bools, structs and slices of such, at any depth; for every program. -/
import Derived.Test.YtlnnkkbcmidddaaRead
import Derived.Deep.Slices
import Derived.Lib.SmallJoins
import Derived.ChangeOld
import Derived.DataReads
namespace Go.Proofs.Ytlnnkkbcmidddaa
open Go.RowKit Go.ChangeShapes Go.WideShapes

def intD : Kd Int := Kd.flat (fun x => [.int .i64 x]) 1 (fun _ => rfl) (fun _ u hu => by simp at hu; subst hu; rfl)
def boolD : Kd Bool := Kd.flat (fun x => [.bool x]) 1 (fun _ => rfl) (fun _ u hu => by simp at hu; subst hu; rfl)
def unitD : Kd Unit := Kd.flat (fun _ => []) 0 (fun _ => rfl) (fun _ u hu => by simp at hu)
/-- Two data, one behind the other. -/
def Kd.prod {α β : Type} (d : Kd α) (e : Kd β) : Kd (α × β) where
  sz := d.sz + e.sz
  K w S x cs := ∃ c1 c2, cs = c1 ++ c2 ∧ d.K w S x.1 c1 ∧ e.K w S x.2 c2
  len h := by obtain ⟨c1, c2, rfl, h1, h2⟩ := h; rw [List.length_append, d.len h1, e.len h2]
  one h := by
    obtain ⟨c1, c2, rfl, h1, h2⟩ := h
    intro u hu
    rcases List.mem_append.1 hu with hu | hu
    · exact d.one h1 u hu
    · exact e.one h2 u hu
  keep h hw := by obtain ⟨c1, c2, rfl, h1, h2⟩ := h; exact ⟨c1, c2, rfl, d.keep h1 hw, e.keep h2 hw⟩
  mono h hS := by obtain ⟨c1, c2, rfl, h1, h2⟩ := h; exact ⟨c1, c2, rfl, d.mono h1 hS, e.mono h2 hS⟩

/-- A number of 64 bits. -/
abbrev Fit (x : Int) : Prop := (Lit.int .i64 x).wf = true
theorem Fit.both {x : Int} (h : Fit x) : -9223372036854775808 ≤ x ∧ x ≤ 9223372036854775807 := by
  have h' : (decide (IntKind.i64.min ≤ x) && decide (x ≤ IntKind.i64.max)) = true := h
  rw [show IntKind.i64.min = -9223372036854775808 by decide, show IntKind.i64.max = 9223372036854775807 by decide] at h'
  simpa using h'
theorem Fit.lo {x : Int} (h : Fit x) : -9223372036854775808 ≤ x := h.both.1
theorem Fit.hi {x : Int} (h : Fit x) : x ≤ 9223372036854775807 := h.both.2

theorem list_of_all {α : Type} {p : Nat → α → Prop} : ∀ (n : Nat), (∀ i, i < n → ∃ y, p i y) → ∃ xs : List α, xs.length = n ∧ ∀ i y, xs[i]? = some y → p i y
  | 0, _ => ⟨[], rfl, fun i y hy => by simp at hy⟩
  | n + 1, h => by
    obtain ⟨xs, h1, h2⟩ := list_of_all n (fun i hi => h i (by omega))
    obtain ⟨y, hy⟩ := h n (by omega)
    refine ⟨xs ++ [y], by simp [h1], fun i z hz => ?_⟩
    by_cases hi : i < xs.length
    · rw [List.getElem?_append_left hi] at hz
      exact h2 i z hz
    · rw [List.getElem?_append_right (by omega)] at hz
      have hn : i = n := by
        have := (List.getElem?_eq_some_iff.1 hz).1
        simp at this
        omega
      subst hn
      rw [h1, Nat.sub_self] at hz
      simp at hz
      subst hz
      exact hy

/-- Whatever of type t came in reads as a datum of kind d that is ok. -/
def Reads (P : Program) (t : TypeId) {α : Type} (d : Kd α) (ok : α → Prop) : Prop :=
  P.cellsOf t = d.sz ∧ ∀ {H : Type} (enc : TypeId × Value → H) (w : World) (base : Nat) (spare : Nat → Bool) (held : Bool) (fuel : Nat) (cs : List Value) (x : DataW H × List MemPlace),
    DataW.trod enc P w base spare held fuel t cs = some x → ∃ a, d.K w (· < w.heap.size) a cs ∧ ok a

/-- The same of a row of fields, from a cell on. -/
structure ReadsF (P : Program) (fs : List Field) (off : Nat) {α : Type} (d : Kd α) (ok : α → Prop) : Prop where
  read : ∀ {H : Type} (enc : TypeId × Value → H) (w : World) (base : Nat) (spare : Nat → Bool) (held : Bool) (fuel : Nat) (cs : List Value),
    cs.length = off + d.sz → (∀ f ∈ fs, ∃ x, DataW.trod enc P w base spare held fuel f.type ((cs.drop f.offset).take (P.cellsOf f.type)) = some x) → ∃ a, d.K w (· < w.heap.size) a (cs.drop off) ∧ ok a

section
variable {P : Program} {t e : TypeId} {α β γ : Type} {d : Kd α} {d' : Kd β} {ok : α → Prop} {ok' : β → Prop}

theorem Reads.int (ht : P.underlying t = some (.int .i64)) (hc : P.cellsOf t = 1) : Reads P t intD Fit :=
  ⟨hc, fun enc w base spare held fuel cs x h => by
    obtain ⟨n, rfl, _, hw⟩ := DataW.trod_int ht h
    exact ⟨n, rfl, hw⟩⟩
theorem Reads.bool (ht : P.underlying t = some .bool) (hc : P.cellsOf t = 1) : Reads P t boolD (fun _ => True) :=
  ⟨hc, fun enc w base spare held fuel cs x h => by
    obtain ⟨n, rfl, _⟩ := DataW.trod_bool ht h
    exact ⟨n, rfl, trivial⟩⟩
theorem ReadsF.nil {off : Nat} : ReadsF P [] off unitD (fun _ => True) := .mk fun enc w base spare held fuel cs hl _ =>
  ⟨(), by show cs.drop off = []; rw [List.drop_eq_nil_iff]; show cs.length ≤ off; rw [hl]; exact Nat.le_refl _, trivial⟩
theorem ReadsF.cons {f : Field} {fs : List Field} {off : Nat} (h1 : Reads P f.type d ok) (ho : f.offset = off) (h2 : ReadsF P fs (off + d.sz) d' ok') : ReadsF P (f :: fs) off (d.prod d') (fun x => ok x.1 ∧ ok' x.2) :=
  .mk fun enc w base spare held fuel cs hl hx => by
    obtain ⟨x, hx1⟩ := hx f (List.mem_cons_self ..)
    obtain ⟨a, ha, oka⟩ := h1.2 _ _ _ _ _ _ _ _ hx1
    obtain ⟨b, hb, okb⟩ := h2.read enc w base spare held fuel cs (by rw [hl]; show _ = off + d.sz + d'.sz; show off + (d.sz + d'.sz) = _; omega) (fun g hg => hx g (List.mem_cons_of_mem _ hg))
    refine ⟨(a, b), ⟨_, _, ?_, ha, hb⟩, oka, okb⟩
    rw [ho, h1.1, show cs.drop (off + d.sz) = (cs.drop off).drop d.sz by rw [List.drop_drop]]
    exact (List.take_append_drop _ _).symm
theorem Reads.struct {fs : Array Field} (ht : P.underlying t = some (.struct fs)) (hc : P.cellsOf t = d.sz) (h : ReadsF P fs.toList 0 d ok) (f : α → β) (hs : d'.sz = d.sz) (hf : ∀ w S a cs, d.K w S a cs → d'.K w S (f a) cs) (hok : ∀ a, ok a → ok' (f a)) : Reads P t d' ok' :=
  ⟨hc.trans hs.symm, fun enc w base spare held fuel cs x hx => by
    obtain ⟨xs, n, _, _, hl, hlen, hfs⟩ := DataW.trod_struct ht hx
    obtain ⟨a, ha, oka⟩ := h.read enc w base spare held n cs (by rw [hl, hc, Nat.zero_add]) (fun g hg => by
      obtain ⟨i, hi, rfl⟩ := List.getElem_of_mem hg
      have hi' : i < fs.size := by simpa using hi
      have := hfs i fs[i] (by simp [hi'])
      exact ⟨_, by rw [show fs.toList[i] = fs[i] by simp, this]; exact List.getElem?_eq_getElem (by rw [hlen]; exact hi')⟩)
    exact ⟨f a, hf _ _ _ _ (by simpa using ha), hok _ oka⟩⟩
theorem Reads.slice (h : Reads P e d ok) (ht : P.underlying t = some (.slice e)) (hc : P.cellsOf t = 1) (hp : 0 < d.sz) : Reads P t d.slice (fun xs => ∀ x ∈ xs, ok x) :=
  ⟨hc, fun enc w base spare held fuel cs x hx => by
    rcases Go.Deep.open_slice ht hx with ⟨rfl, _⟩ | ⟨a, len, cap, m, n, D, Pl, rfl, hb, hl, hm, hmm, _, hel⟩
    · exact ⟨[], ⟨none, 0, rfl, Nat.le_refl _, fun _ => rfl, Row.nil _ _ _ _⟩, fun _ h => by cases h⟩
    have hlm : len ≤ m := by rw [hmm]; split <;> omega
    have hall : ∀ i, i < len → ∃ y, (∃ cs', w.cells? base (a.add (i * d.sz)) d.sz = some cs' ∧ d.K w (· < w.heap.size) y cs') ∧ ok y := fun i hi => by
      obtain ⟨cs', h1, h2⟩ := hel i (Nat.lt_of_lt_of_le hi hlm)
      obtain ⟨y, hy, oy⟩ := h.2 _ _ _ _ _ _ _ _ h2
      rw [h.1] at h1
      exact ⟨y, ⟨cs', h1, hy⟩, oy⟩
    obtain ⟨xs, hxl, hxs⟩ := list_of_all (p := fun i y => (∃ cs', w.cells? base (a.add (i * d.sz)) d.sz = some cs' ∧ d.K w (· < w.heap.size) y cs') ∧ ok y) len hall
    refine ⟨xs, ⟨some a, cap, by rw [hxl], by rw [hxl]; exact hl, (fun h => by cases h), rfl, by unfold maxLen at hm; omega, fun hn => ?_⟩, fun y hy => ?_⟩
    · obtain ⟨i, hi⟩ : ∃ y, xs[0]? = some y := ⟨_, List.getElem?_eq_getElem hn⟩
      obtain ⟨⟨cs0, h1, h2⟩, _⟩ := hxs 0 _ hi
      obtain ⟨_, hl0, hc0⟩ := World.cells?_some h1
      have hsp : a.spot = none := by
        have := hc0 0 hp
        rw [List.getElem?_eq_getElem (by rw [hl0]; exact hp)] at this
        unfold World.cell? at this
        simp only [Nat.zero_mul, Addr.add, if_pos] at this
        split at this
        · split at this
          · cases this
          · rename_i h; simpa using h
        · cases this
      refine ⟨a.block, a.off, ?_, ?_, ?_⟩
      · cases a; simp at hsp; simp [hsp]
      · have := World.cells?_block h1 hp
        simpa [Addr.add] using this
      · intro j y hy
        obtain ⟨⟨cs', h3, h4⟩, _⟩ := hxs j y hy
        obtain ⟨_, hl3, hc3⟩ := World.cells?_some h3
        refine ⟨cs', h4, fun k u hk => ?_⟩
        have hlt := (List.getElem?_eq_some_iff.1 hk).1
        have := hc3 k (by rw [← hl3]; exact hlt)
        rw [hk] at this
        rw [← this]
        congr 1
        cases a
        simp at hsp
        subst hsp
        simp only [Addr.add]
        split <;> split <;> simp_all <;> omega
    · obtain ⟨i, hi, rfl⟩ := List.getElem_of_mem hy
      exact (hxs i _ (List.getElem?_eq_getElem hi)).2⟩

theorem Reads.out (h : Reads P t d ok) {H : Type} {enc : TypeId × Value → H} {w : World} {base : Nat} {spare : Nat → Bool} {held : Bool} {v : Value} {x : DataW H} {ps : List MemPlace} (hx : DataW.Trod enc P w base spare held t v x ps) :
    ∃ a, d.K w (· < w.heap.size) a v.cells.toList ∧ ok a := by
  obtain ⟨fuel, hf⟩ := hx
  exact h.2 _ _ _ _ _ _ _ _ hf
end
end Go.Proofs.Ytlnnkkbcmidddaa
