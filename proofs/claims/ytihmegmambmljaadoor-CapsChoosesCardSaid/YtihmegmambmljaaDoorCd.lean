/- What is chosen: plain laws. -/
import Derived.Test.YtihmegmambmljaaDoorVk
set_option linter.unusedSimpArgs false
set_option linter.unusedVariables false
set_option maxRecDepth 100000
namespace Go.Kn
theorem cChosen_len (l1 l2 : List (List UInt8)) : (cChosen l1 l2).length ≤ 5 := List.length_filter_le _ known5
theorem cChosen_small (l1 l2 : List (List UInt8)) : ∀ i, i < (cChosen l1 l2).length → ((cChosen l1 l2).getD i default).length ≤ 1000000 := by
  intro i hi
  rw [List.getD_eq_getElem?_getD, List.getElem?_eq_getElem hi]
  have hm : (cChosen l1 l2)[i] ∈ known5 := (List.mem_filter.1 (List.getElem_mem hi)).1
  have : ∀ t ∈ known5, t.length ≤ 1000000 := by decide
  exact this _ hm
theorem cChosen_comm (l1 l2 : List (List UInt8)) : cChosen l2 l1 = cChosen l1 l2 := List.filter_congr fun t _ => Bool.and_comm _ _
theorem cChosen_again (l1 l2 : List (List UInt8)) : cChosen (cChosen l1 l2) l1 = cChosen l1 l2 := List.filter_congr fun t ht => by
  have : decide (t ∈ cChosen l1 l2) = (decide (t ∈ l1) && decide (t ∈ l2)) := by
    rw [← Bool.decide_and]
    exact decide_eq_decide.2 ⟨fun h => by simpa using (List.mem_filter.1 h).2, fun h => List.mem_filter.2 ⟨ht, by simpa using h⟩⟩
  rw [this]
  cases decide (t ∈ l1) <;> cases decide (t ∈ l2) <;> rfl
theorem cChosen_once (l1 l2 : List (List UInt8)) : cChosen l2 (cChosen l1 l2) = cChosen l1 l2 := by
  rw [cChosen_comm, ← cChosen_comm l1 l2, cChosen_again]
theorem cChosen_fine (l1 l2 : List (List UInt8)) : cFine (cChosen l1 l2) = true := by
  have key : ∀ p : List UInt8 → Bool, cFine (known5.filter p) = true := by
    intro p
    unfold known5
    simp only [List.filter_cons, List.filter_nil]
    cases p [97, 116, 111, 109, 105, 99] <;> cases p [98, 97, 110, 100] <;> cases p [100, 101, 101, 112, 101, 110] <;> cases p [111, 102, 115] <;> cases p [116, 104, 105, 110] <;> decide +kernel
  exact key _
end Go.Kn
