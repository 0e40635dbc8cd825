/- Plain laws of the digests of one rule and of two. -/
import Derived.Test.YtlpobpciiaofeaaDigI
namespace Go.Proofs.Ytlpobpciiaofeaa
/-- What a rule's address comes to. -/
def adrW (a : Int) : Int := a / 16777216 % 256 * 256 + a / 65536 % 256 + (a / 256 % 256 * 256 + a % 256)
/-- What a rule's bytes come to. -/
def ruleW (r : Rul) : Int := adrW r.addr + (r.len * 256 + (r.inn + 1)) + (r.prio * 256 + r.kind) + r.port * 256
theorem adrW_bounds (a : Int) : 0 ≤ adrW a := by unfold adrW; omega
theorem tot_told (r : Rul) : totI 0 (toldB r) = ruleW r := by
  unfold toldB putB ruleW adrW
  simp [totI]
  omega
/-- What a tag's two bytes come to. -/
def tagW (tag : Int) : Int := tag / 256 % 256 * 256 + tag % 256
theorem tagW_eq {tag : Int} (t0 : 1 ≤ tag) (t1 : tag ≤ 4095) : tagW tag = tag := by unfold tagW; omega
theorem tot_head (tag : Int) : totI 0 (headB tag) = tagW tag := by simp [totI, tagW]
theorem tot_one (tag : Int) (r : Rul) (h : mayI r = true) : totI 0 (bytesP tag [r]) = tagW tag + ruleW r := by
  unfold bytesP
  rw [sortP_one, List.filter_cons, h, totI_app, tot_head]
  simp only [if_true, List.filter_nil, List.flatMap_cons, List.flatMap_nil, List.append_nil]
  rw [totI_par _ (0 + (headB tag).length) 0 (by simp), tot_told]
theorem sum_perm {l m : List Rul} (h : l.Perm m) : (l.map ruleW).sum = (m.map ruleW).sum := by
  induction h with
  | nil => rfl
  | cons x _ ih => simp [ih]
  | swap x y l => simp; omega
  | trans _ _ h1 h2 => exact h1.trans h2
theorem tot_two (tag : Int) (r s : Rul) (h : mayI r = true) (k : mayI s = true) : totI 0 (bytesP tag [r, s]) = tagW tag + ruleW r + ruleW s := by
  have hp := sortP_perm [r, s]
  have hf : List.Perm ((sortP [r, s]).filter mayI) [r, s] := by
    have := hp.filter mayI
    simpa [h, k] using this
  have key : ∀ m : List Rul, totI 0 (m.flatMap toldB) = (m.map ruleW).sum := by
    intro m
    induction m with
    | nil => rfl
    | cons x m ih =>
      rw [List.flatMap_cons, totI_app, tot_told, totI_par _ (0 + (toldB x).length) 0 (by rw [told_len]), ih]
      rfl
  unfold bytesP
  rw [totI_app, tot_head, totI_par _ (0 + (headB tag).length) 0 (by simp), key, sum_perm hf]
  simp
  omega
theorem ruleW_pos {r : Rul} (h : mayI r = true) : 0 ≤ ruleW r := by
  have hb := mayI_bounds h
  have ha := adrW_bounds r.addr
  unfold ruleW
  omega
/-- Two digests are one just if what they are the sums of differs by a multiple. -/
theorem of_eq {tag tag2 : Int} {l m : List Rul} (hp : 0 < totI 0 (bytesP tag l)) (hq : 0 < totI 0 (bytesP tag2 m)) : ofP tag l = ofP tag2 m ↔ (totI 0 (bytesP tag l) - totI 0 (bytesP tag2 m)) % 65535 = 0 := by
  rw [← foldC_eq hp hq]
  unfold ofP sumI
  omega
section
variable {tag other prio port : Int} {r : Rul}
theorem one_prio (h : mayI r = true) (p0 : 0 ≤ prio) (p1 : prio ≤ 255) : mayI { r with prio := prio } = true := by
  unfold mayI at *
  simp only [Bool.and_eq_true, decide_eq_true_eq] at h ⊢
  obtain ⟨⟨⟨⟨⟨a, b⟩, c⟩, d⟩, -⟩, -⟩ := h
  exact ⟨⟨⟨⟨⟨a, b⟩, c⟩, d⟩, p0⟩, p1⟩
theorem one_prio_eq (h : mayI r = true) (t0 : 1 ≤ tag) (t1 : tag ≤ 4095) (p0 : 0 ≤ prio) (p1 : prio ≤ 255) : ofP tag [{ r with prio := prio }] = ofP tag [r] ↔ prio = r.prio := by
  have hb := mayI_bounds h
  have k := one_prio h p0 p1
  have e1 := tot_one tag r h
  have e2 := tot_one tag { r with prio := prio } k
  have w1 := ruleW_pos h
  have g1 := tagW_eq t0 t1
  have w2 := ruleW_pos k
  rw [of_eq (by rw [e2]; omega) (by rw [e1]; omega), e1, e2]
  have : ruleW { r with prio := prio } - ruleW r = (prio - r.prio) * 256 := by unfold ruleW; dsimp only; omega
  omega
theorem one_port (h : mayI r = true) (p0 : 0 ≤ port) (p1 : port ≤ 7) : mayI { r with kind := 1, port := port } = true := by
  unfold mayI at *
  simp only [Bool.and_eq_true, decide_eq_true_eq] at h ⊢
  obtain ⟨⟨⟨⟨⟨-, b⟩, c⟩, d⟩, e⟩, f⟩ := h
  refine ⟨⟨⟨⟨⟨?_, b⟩, c⟩, d⟩, e⟩, f⟩
  unfold actI
  simp [p0, p1]
theorem one_port_eq (h : mayI r = true) (hk : r.kind = 1) (t0 : 1 ≤ tag) (t1 : tag ≤ 4095) (p0 : 0 ≤ port) (p1 : port ≤ 7) : ofP tag [{ r with kind := 1, port := port }] = ofP tag [r] ↔ port = r.port := by
  have hb := mayI_bounds h
  have k := one_port h p0 p1
  have e1 := tot_one tag r h
  have e2 := tot_one tag { r with kind := 1, port := port } k
  have w1 := ruleW_pos h
  have g1 := tagW_eq t0 t1
  have w2 := ruleW_pos k
  rw [of_eq (by rw [e2]; omega) (by rw [e1]; omega), e1, e2]
  have : ruleW { r with kind := 1, port := port } - ruleW r = (port - r.port) * 256 := by unfold ruleW; dsimp only; omega
  omega
theorem one_tag_eq (h : mayI r = true) (t0 : 1 ≤ tag) (t1 : tag ≤ 4095) (o0 : 1 ≤ other) (o1 : other ≤ 4095) : ofP other [r] = ofP tag [r] ↔ other = tag := by
  have e1 := tot_one tag r h
  have e2 := tot_one other r h
  have w1 := ruleW_pos h
  have g1 := tagW_eq t0 t1
  have g2 := tagW_eq o0 o1
  rw [of_eq (by rw [e2]; omega) (by rw [e1]; omega), e1, e2]
  omega
/-- One more rule that forwards, at the next priority. -/
theorem more_ne (h : mayI r = true) (hp : r.addr = 0 ∧ r.len = 0) (t0 : 1 ≤ tag) (t1 : tag ≤ 4095) (p0 : 1 ≤ port) (p1 : port ≤ 7) (q0 : 0 ≤ prio) (q1 : prio ≤ 255) : ofP tag [r] ≠ ofP tag [r, { r with prio := prio, kind := 1, port := port }] := by
  have hb := mayI_bounds h
  have k : mayI { r with prio := prio, kind := 1, port := port } = true := one_port (r := { r with prio := prio }) (one_prio h q0 q1) (by omega) p1
  have e1 := tot_one tag r h
  have e2 := tot_two tag r { r with prio := prio, kind := 1, port := port } h k
  have w1 := ruleW_pos h
  have g1 := tagW_eq t0 t1
  have w2 := ruleW_pos k
  intro e
  rw [of_eq (by rw [e1]; omega) (by rw [e2]; omega), e1, e2] at e
  have : ruleW { r with prio := prio, kind := 1, port := port } = r.inn + 1 + (prio * 256 + 1) + port * 256 := by
    unfold ruleW adrW
    dsimp only
    rw [hp.1, hp.2]
    omega
  rw [this] at e
  obtain ⟨q, hq⟩ : ∃ q : Int, r.inn + 1 + (prio * 256 + 1) + port * 256 = 65535 * q := ⟨(r.inn + 1 + (prio * 256 + 1) + port * 256) / 65535, by omega⟩
  have h2 : q = 0 ∨ q = 1 := by omega
  rcases h2 with rfl | rfl <;> omega
end
end Go.Proofs.Ytlpobpciiaofeaa
