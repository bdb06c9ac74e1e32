/- Steps, opened. -/
import Derived.Test.YtihmegmambmljaaPlainD
import Derived.Test.YtihmegmambmljaaEngH
set_option linter.unusedVariables false
set_option linter.unusedSimpArgs false
namespace Go.Kn
open Go Go.ChangeShapes Go.WideShapes Go.RowKit
section
variable {H : Type} {enc : TypeId × Value → H} {P : Program} {w : World} {base : Nat} {spare : Nat → Bool} {held : Bool}
theorem open_step {t : Nat} {f0 f1 f2 : Field} {n : Nat} {cs : List Value} {x : DataW H × List MemPlace} (hu : P.underlying t = some (.struct #[f0, f1, f2]))
    (h0 : P.underlying f0.type = some (.int .i64)) (h1 : P.underlying f1.type = some (.int .i64)) (h2 : P.underlying f2.type = some .string)
    (o0 : f0.offset = 0) (o1 : f1.offset = 1) (o2 : f2.offset = 2) (z0 : P.cellsOf f0.type = 1) (z1 : P.cellsOf f1.type = 1) (z2 : P.cellsOf f2.type = 1) (z : P.cellsOf t = 3)
    (h : DataW.trod enc P w base spare held n t cs = some x) :
    ∃ a : StepR, cs = encStep a ∧ (InR .i64 a.N ∧ InR .i64 a.Far) := by
  obtain ⟨xs, m, rfl, rfl, hl, hxs, hf⟩ := DataW.trod_struct hu h
  have e0 := hf 0 f0 rfl
  have e1 := hf 1 f1 rfl
  have e2 := hf 2 f2 rfl
  rw [o0, z0] at e0
  rw [o1, z1] at e1
  rw [o2, z2] at e2
  rw [z] at hl
  match cs, hl with
  | [a, b, c], _ =>
    simp only [List.size_toArray, List.length_cons, List.length_nil] at hxs
    match xs, hxs with
    | [x0, x1, x2], _ =>
      obtain ⟨n0, q0, -, w0⟩ := DataW.trod_int h0 e0
      obtain ⟨n1, q1, -, w1⟩ := DataW.trod_int h1 e1
      obtain ⟨s2, q2, -, w2⟩ := DataW.trod_string h2 e2
      simp at q0 q1 q2
      subst q0; subst q1; subst q2
      exact ⟨⟨n0, n1, s2.data.toList⟩, by simp [encStep, S], inr_wf w0, inr_wf w1⟩
end
end Go.Kn
