/- Words (layer 10): plain. -/
import Derived.Test.YtihmegmambmljaaDoorPlainL
set_option linter.unusedVariables false
namespace Go.Kn
/-- a text's first place in a list, or -1 -/
def sIdxFrom (x : List UInt8) : List (List UInt8) → Nat → Int
  | [], _ => -1
  | y :: l, i => if y = x then ((i : Nat) : Int) else sIdxFrom x l (i + 1)
def sIdx (l : List (List UInt8)) (x : List UInt8) : Int := sIdxFrom x l 0
theorem sIdxFrom_at {x : List UInt8} : ∀ (l : List (List UInt8)) (k i : Nat), (∀ j, j < i → l.getD j default ≠ x) → i < l.length → l.getD i default = x → sIdxFrom x l k = ((k + i : Nat) : Int)
  | [], _, i, _, h, _ => absurd h (by simp)
  | y :: l, k, 0, _, _, h => by simp only [List.getD_cons_zero] at h; simp [sIdxFrom, h]
  | y :: l, k, i + 1, hn, h, he => by
    have h0 := hn 0 (by omega)
    simp only [List.getD_cons_zero] at h0
    rw [sIdxFrom, if_neg h0, sIdxFrom_at l (k + 1) i (fun j hj => by have := hn (j + 1) (by omega); simpa using this) (by simpa using h) (by simpa using he)]
    congr 1; omega
theorem sIdxFrom_no {x : List UInt8} : ∀ (l : List (List UInt8)) (k : Nat), (∀ j, j < l.length → l.getD j default ≠ x) → sIdxFrom x l k = -1
  | [], _, _ => rfl
  | y :: l, k, hn => by
    have h0 := hn 0 (by simp)
    simp only [List.getD_cons_zero] at h0
    rw [sIdxFrom, if_neg h0]
    exact sIdxFrom_no l (k + 1) (fun j hj => by have := hn (j + 1) (by simpa using hj); simpa using this)
theorem sIdx_at {l : List (List UInt8)} {x : List UInt8} {i : Nat} (hn : ∀ j, j < i → l.getD j default ≠ x) (h : i < l.length) (he : l.getD i default = x) : sIdx l x = ((i : Nat) : Int) := by
  have := sIdxFrom_at l 0 i hn h he
  rw [Nat.zero_add] at this; exact this
theorem sIdx_no {l : List (List UInt8)} {x : List UInt8} (hn : ∀ j, j < l.length → l.getD j default ≠ x) : sIdx l x = -1 := sIdxFrom_no l 0 hn
theorem mem_at {l : List (List UInt8)} {x : List UInt8} {i : Nat} (h : i < l.length) (he : l.getD i default = x) : x ∈ l := by
  rw [← he, List.getD_eq_getElem?_getD, List.getElem?_eq_getElem h]; exact List.getElem_mem h
theorem mem_no {l : List (List UInt8)} {x : List UInt8} (hn : ∀ j, j < l.length → l.getD j default ≠ x) : ¬ x ∈ l := by
  intro hx
  obtain ⟨i, h, he⟩ := List.mem_iff_getElem.1 hx
  exact hn i h (by rw [List.getD_eq_getElem?_getD, List.getElem?_eq_getElem h]; exact he)
theorem sIdx_in (l : List (List UInt8)) (x : List UInt8) : decide ((0 : Int) ≤ sIdx l x) = decide (x ∈ l) := by
  by_cases h : ∀ j, j < l.length → l.getD j default ≠ x
  · rw [sIdx_no h, decide_eq_false (mem_no h)]; rfl
  · have hx : x ∈ l := by
      apply Classical.byContradiction
      intro hm
      exact h fun j hj e => hm (mem_at hj e)
    rw [decide_eq_true hx]
    have key : ∀ (l : List (List UInt8)) (k : Nat), x ∈ l → 0 ≤ sIdxFrom x l k := by
      intro l
      induction l with
      | nil => intro k h; cases h
      | cons y l ih =>
        intro k h
        rw [sIdxFrom]
        split
        · omega
        · rename_i hy
          rcases List.mem_cons.1 h with e | e
          · exact absurd e.symm hy
          · exact ih (k + 1) e
    exact decide_eq_true (key l 0 hx)
def cFew (l : List (List UInt8)) : Bool := decide (l.length ≤ 30 ∧ ∀ t ∈ l.take 30, t.length ≤ 100)
theorem cFew_bad {l : List (List UInt8)} {i : Nat} (h : i < l.length ∧ i < 30) (hl : 100 < (l.getD i default).length) : cFew l = false := by
  refine decide_eq_false fun hh => ?_
  have : l.getD i default ∈ l.take 30 := by
    rw [List.getD_eq_getElem?_getD, List.getElem?_eq_getElem h.1]
    rw [List.mem_iff_getElem]
    exact ⟨i, by rw [List.length_take]; omega, by rw [List.getElem_take]; rfl⟩
  have := hh.2 _ this
  omega
theorem cFew_len {l : List (List UInt8)} {i : Nat} (hn : ∀ j, j < i → (l.getD j default).length ≤ 100) (h : l.length ≤ i ∨ 30 ≤ i) : cFew l = decide (l.length ≤ 30) := by
  have hk : ∀ t ∈ l.take 30, t.length ≤ 100 := by
    intro t ht
    obtain ⟨j, hj, rfl⟩ := List.mem_iff_getElem.1 ht
    rw [List.length_take] at hj
    have := hn j (by omega)
    rw [List.getD_eq_getElem?_getD, List.getElem?_eq_getElem (by omega)] at this
    rw [List.getElem_take]; exact this
  unfold cFew
  by_cases hl : l.length ≤ 30
  · rw [decide_eq_true hl]; exact decide_eq_true ⟨hl, hk⟩
  · rw [decide_eq_false hl]; exact decide_eq_false fun hh => hl hh.1
theorem cFew_spec {l : List (List UInt8)} (h : cFew l = true) : l.length ≤ 30 ∧ ∀ t ∈ l, t.length ≤ 100 := by
  have := of_decide_eq_true h
  refine ⟨this.1, fun t ht => this.2 t ?_⟩
  rw [List.take_of_length_le this.1]; exact ht
end Go.Kn
