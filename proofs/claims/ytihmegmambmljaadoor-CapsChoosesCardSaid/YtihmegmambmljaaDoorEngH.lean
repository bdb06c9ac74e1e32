/- The engine, eighth part: arguments opened: a slice of anything as a list. -/
import Derived.Test.YtihmegmambmljaaDoorEngG
import Derived.Deep.Slices
import Derived.OpenShut
import Derived.ChangeOld
set_option linter.unusedSimpArgs false
set_option linter.unusedVariables false
namespace Go.Kn
open Go Go.ChangeShapes Go.WideShapes Go.RowKit Go.Deep
section
variable {H : Type} {enc : TypeId × Value → H} {P : Program} {w : World} {base : Nat} {spare : Nat → Bool} {held : Bool}

theorem cells_list {a : Addr} {n : Nat} {cs : List Value} (h : w.cells? base a n = some cs) : cs.length = n ∧ ∀ j v, cs[j]? = some v → w.cell? (a.add j) = some v := by
  obtain ⟨_, hl, hc⟩ := World.cells?_some h
  refine ⟨hl, fun j v hj => ?_⟩
  have hlt := (List.getElem?_eq_some_iff.1 hj).1
  rw [hc j (by omega)]; exact hj
theorem flat_at {α : Type} {en : α → List Value} {sz : Nat} (hen : ∀ a, (en a).length = sz) (hsz : 0 < sz) : ∀ (l : List α) (j : Nat) (v : Value), (l.flatMap en)[j]? = some v → ∃ a, l[j / sz]? = some a ∧ (en a)[j % sz]? = some v := by
  intro l
  induction l with
  | nil => intro j v h; simp at h
  | cons x l ih =>
    intro j v h
    rw [List.flatMap_cons] at h
    rcases Nat.lt_or_ge j sz with hj | hj
    · rw [List.getElem?_append_left (by rw [hen]; exact hj)] at h
      rw [Nat.div_eq_of_lt hj, Nat.mod_eq_of_lt hj]
      exact ⟨x, rfl, h⟩
    · rw [List.getElem?_append_right (by rw [hen]; exact hj), hen] at h
      obtain ⟨a, h1, h2⟩ := ih _ _ h
      have e : j = (j - sz) + sz := by omega
      refine ⟨a, ?_, ?_⟩
      · rw [e, Nat.add_div_right _ hsz]; exact h1
      · rw [e, Nat.add_mod_right]; exact h2

/-- a slice of anything, opened as a list -/
theorem open_list {α : Type} [Inhabited α] {en : α → List Value} {Q : α → Prop} {r : Reach} {b0 : Nat} {t e sz : Nat} {v : Value} {d : DataW H} {ps : List MemPlace}
    (ht : P.underlying t = some (.slice e)) (hc : P.cellsOf e = sz) (hsz : 0 < sz) (hlen : ∀ a, (en a).length = sz)
    (hen : ∀ n cs x, DataW.trod enc P w base spare held n e cs = some x → ∃ a, cs = en a ∧ Q a)
    (hval : Value.okWide P w r b0 t v) (hd : DataW.Trod enc P w base spare held t v d ps) :
    ∃ (A : Option Addr) (c : Nat) (l : List α), v = .slice A l.length c ∧ Rd w sz A l.length (l.flatMap en) ∧ l.length ≤ 9223372036854775807 ∧ ∀ a ∈ l, Q a := by
  obtain ⟨a0, n0, c0, rfl⟩ := okWide_slice ht hval
  obtain ⟨fuel, hf⟩ := hd
  rcases open_slice ht hf with ⟨hcs, -⟩ | ⟨a, len, cap, m, n, D, Pl, hcs, hb, hl, hm, hmm, -, hel⟩
  · simp [Value.cells] at hcs
    obtain ⟨rfl, rfl, rfl⟩ := hcs
    exact ⟨none, 0, [], rfl, rd_nil w sz, by simp, by simp⟩
  · simp [Value.cells] at hcs
    obtain ⟨rfl, rfl, rfl⟩ := hcs
    have hlm : n0 ≤ m := by rw [hmm]; split <;> omega
    have key : ∀ i, i < n0 → ∃ z : α, w.cells? base (a.add (i * sz)) sz = some (en z) ∧ Q z := by
      intro i hi
      obtain ⟨cs', h1, h2⟩ := hel i (by omega)
      rw [hc] at h1
      obtain ⟨z, rfl, hq⟩ := hen _ _ _ h2
      exact ⟨z, h1, hq⟩
    obtain ⟨f, hf'⟩ := choose_lt key
    have hspot : 0 < n0 → a.spot = none := by
      intro h0
      have hcell := (cells_list (hf' 0 h0).1).2 0
      have hne : (en (f 0)).length = sz := hlen _
      obtain ⟨v, hv⟩ : ∃ v, (en (f 0))[0]? = some v := ⟨_, List.getElem?_eq_getElem (by omega)⟩
      have := World.cell?_spot (hcell v hv)
      simpa [Addr.add] using this
    refine ⟨some a, c0, (List.range n0).map f, by simp, ⟨?_, ?_, ?_⟩, by have e0 : maxLen = 9223372036854775807 := by { decide +kernel }; simp; omega, ?_⟩
    · simp only [List.length_map, List.length_range]
      rw [List.length_flatMap, List.map_map]
      have : (List.range n0).map (List.length ∘ en ∘ f) = List.replicate n0 sz := by
        rw [List.eq_replicate_iff]
        refine ⟨by simp, fun b hb => ?_⟩
        obtain ⟨i, _, rfl⟩ := List.mem_map.1 hb
        exact hlen _
      have e2 : (List.range n0).map ((fun a => (en a).length) ∘ f) = List.replicate n0 sz := this
      rw [e2]; simp
    · intro h0
      simp only [List.length_map, List.length_range] at h0
      have := hspot h0
      obtain ⟨ab0, ao0, sp⟩ := a
      simp only at this
      subst this
      rfl
    · intro j v hj
      obtain ⟨z, h1, h2⟩ := flat_at hlen hsz _ _ _ hj
      obtain ⟨hjl, hjz⟩ := List.getElem?_eq_some_iff.1 h1
      simp only [List.length_map, List.length_range] at hjl
      simp only [List.getElem_map, List.getElem_range] at hjz
      subst hjz
      have hcell := (cells_list (hf' (j / sz) hjl).1).2 (j % sz) v h2
      have hsp := hspot (Nat.lt_of_le_of_lt (Nat.zero_le _) hjl)
      obtain ⟨ab0, ao0, sp⟩ := a
      simp only at hsp
      subst hsp
      rw [add_plain, add_plain] at hcell
      simp only [ab, ao]
      rw [show ao0 + j = ao0 + j / sz * sz + j % sz by have := Nat.div_add_mod j sz; rw [Nat.mul_comm] at this; omega]
      exact hcell
    · intro z hz
      obtain ⟨i, hi, rfl⟩ := List.mem_map.1 hz
      exact (hf' i (by simpa using hi)).2
end
#print axioms open_list
end Go.Kn
