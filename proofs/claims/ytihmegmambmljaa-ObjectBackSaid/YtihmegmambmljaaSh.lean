import Derived.Shelf.Strings.Builder1
import Derived.Test.YtihmegmambmljaaChecked
import Derived.Test.YtihmegmambmljaaWk
set_option linter.unusedVariables false
namespace Go.Kn
open Go.Proofs Go.Shelf
def ren169 : Ren := ⟨fun | 169 => 51 | n => n, fun | 70 => 89 | 72 => 91 | 37 => 36 | 127 => 103 | n => n, fun n => n⟩
theorem lays169 : Lays.n169 Try.prog ren169 := {
  mixed := by kernel_rfl,
  f169 := by kernel_rfl,
  t0 := by kernel_rfl,
  a0 := fun w => by kernel_rfl,
  z0 := fun w => by kernel_rfl,
  v0 := fun w => by kernel_rfl,
  t3 := by kernel_rfl,
  a3 := fun w => by kernel_rfl,
  z3 := fun w => by kernel_rfl,
  v3 := fun w => by kernel_rfl,
  t9 := by kernel_rfl,
  a9 := fun w => by kernel_rfl,
  z9 := fun w => by kernel_rfl,
  v9 := fun w => by kernel_rfl,
  t37 := by kernel_rfl,
  a37 := fun w => by kernel_rfl,
  z37 := fun w => by kernel_rfl,
  v37 := fun w => by kernel_rfl,
  t70 := by kernel_rfl,
  a70 := fun w => by kernel_rfl,
  z70 := fun w => by kernel_rfl,
  v70 := fun w => by kernel_rfl,
  t72 := by kernel_rfl,
  a72 := fun w => by kernel_rfl,
  z72 := fun w => by kernel_rfl,
  v72 := fun w => by kernel_rfl,
  t127 := by kernel_rfl,
  a127 := fun w => by kernel_rfl,
  z127 := fun w => by kernel_rfl,
  v127 := fun w => by kernel_rfl }
theorem x72_169 : Builder.X72 Try.prog ren169 := {
  sizeBuilder := by kernel_rfl,
  liesBuilder := by kernel_rfl }
theorem extra169 : Builder.Extra Try.prog ren169 := {
  toX72 := x72_169, t5 := by kernel_rfl, a5 := fun w => by kernel_rfl, z5 := fun w => by kernel_rfl, v5 := fun w => by kernel_rfl, infoByte := by kernel_rfl, cellsByte := by kernel_rfl, sizeByte := by kernel_rfl, neB5 := by decide }
theorem bd_is {T B b : Nat} {w : World} {l : List UInt8} (hT : Nat.beq T 5 = false) (h : Bd T w B b l) : Lib.IsBuilder T 5 B b (Lib.byteCells l) w := by
  obtain ⟨p, A, c, hp, hBb, hB, ho⟩ := h
  have hat : Lib.BuilderAt T 5 B b (.pointer p) (Lib.byteCells l) w := by
    refine ⟨hBb, .slice A l.length c, hB, ?_, ?_⟩
    · have : (Lib.byteCells l).length = l.length := by simp [Lib.byteCells]
      rw [this]; exact ho
    · intro e
      rcases ho.2 with ⟨h0, h1⟩ | ⟨g, cap, cur, hv, _, hg, _⟩
      · rw [h0] at e; simp [Value.ownBlock] at e
      · rw [hv] at e
        simp only [Value.ownBlock, Option.some.injEq] at e
        subst e
        rw [hB] at hg
        cases hg
        exact beqN_ne hT rfl
  rcases hp with rfl | rfl
  · exact .inl hat
  · exact .inr hat
theorem bstr_ok (B b : Nat) (l : List UInt8) (w : World) (hB0 : B ≤ w.heap.size) (h : Bd 91 w B b l) : Fn Try.prog 51 #[.pointer (some ⟨b, 0, none⟩)] w (fun x w' => x = .string (S l) ∧ Go.RowKit.Below B w w') :=
  Calls.mono (Any.Builder_String_any lays169 extra169 B b l w (bd_is (T := 91) rfl h) hB0) fun e w' ⟨h1, h2⟩ => ⟨_, h1, rfl, h2⟩
end Go.Kn
