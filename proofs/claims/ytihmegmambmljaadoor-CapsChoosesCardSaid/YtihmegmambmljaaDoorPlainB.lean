/- Plain functions: packed texts (layer 5). -/
import Derived.Test.YtihmegmambmljaaDoorPlainA
import Derived.Test.YtihmegmambmljaaDoorEngF
namespace Go.Kn

theorem vgo_lt_len : ∀ (l : List UInt8) (i n : Nat), n < 2 ^ (7 * i) → i ≤ 10 → (vgo l i n).1 < 2 ^ 64 ∧ (vgo l i n).2.1.length ≤ l.length ∧ ((vgo l i n).2.2 = 0 → (vgo l i n).2.1.length < l.length) := by
  intro l
  induction l with
  | nil => intro i n _ _; simp [vgo]
  | cons c r ih =>
    intro i n hn hi
    have hc : c.toNat < 256 := UInt8.toNat_lt _
    unfold vgo
    split
    · simp
    · split
      · simp
      · split
        · obtain ⟨h1, h2, h3⟩ := ih (i + 1) _ (vgo_lt (c := c.toNat) hn) (by omega)
          exact ⟨h1, by simp only [List.length_cons]; omega, fun h => by have := h3 h; simp only [List.length_cons]; omega⟩
        · split
          · simp
          · refine ⟨?_, by simp, fun _ => by simp⟩
            rename_i h10 h9 h128 h0
            have := vshl_nat (c := c.toNat) (k := i) (by omega) h9
            have h2 := vgo_lt (c := c.toNat) hn
            rcases Nat.lt_or_ge i 9 with h | h
            · have : 2 ^ (7 * (i + 1)) ≤ 2 ^ 63 := pow7_le (by omega)
              simp only; omega
            · have : i = 9 := by omega
              subst this
              have h3 : c.toNat % 128 ≤ 1 := by omega
              have h4 : c.toNat % 128 * 2 ^ (7 * 9) ≤ 1 * 2 ^ (7 * 9) := Nat.mul_le_mul h3 (Nat.le_refl _)
              simp only; omega
theorem vget_lt (l : List UInt8) : (vget l).1 < 18446744073709551616 := (vgo_lt_len l 0 0 (by decide) (by omega)).1
theorem vget_len (l : List UInt8) : (vget l).2.1.length ≤ l.length := (vgo_lt_len l 0 0 (by decide) (by omega)).2.1
theorem vget_less (l : List UInt8) (h : (vget l).2.2 = 0) : (vget l).2.1.length < l.length := (vgo_lt_len l 0 0 (by decide) (by omega)).2.2 h

/-- lz.read: how many, how far back, what stands behind, the error. -/
def lzread (l : List UInt8) (h : Nat) : Nat × Nat × List UInt8 × Nat :=
  if (vget l).2.2 ≠ 0 then (0, 0, [], 2)
  else if (vget l).1 % 2 = 0 then
    if (vget l).1 = 0 ∨ (vget l).2.1.length < (vget l).1 / 2 then (0, 0, [], 2) else ((vget l).1 / 2, 0, (vget l).2.1, 0)
  else if (vget (vget l).2.1).2.2 ≠ 0 ∨ (vget l).1 / 2 < 4 ∨ (vget (vget l).2.1).1 < 1 ∨ 65535 < (vget (vget l).2.1).1 ∨ h < (vget (vget l).2.1).1 then (0, 0, [], 2)
  else ((vget l).1 / 2, (vget (vget l).2.1).1, (vget (vget l).2.1).2.1, 0)
theorem lzread_spec (l : List UInt8) (h : Nat) : (lzread l h).2.2.1.length ≤ l.length ∧ (lzread l h).1 < 18446744073709551616 ∧ (lzread l h).2.1 ≤ 65535 ∧ (lzread l h).2.1 ≤ h ∧ (lzread l h).2.2.2 ≤ 2 ∧
    ((lzread l h).2.2.2 = 0 → (lzread l h).2.2.1.length < l.length ∧ ((lzread l h).2.1 = 0 → (lzread l h).1 ≤ (lzread l h).2.2.1.length)) := by
  have h1 := vget_lt l
  have h2 := vget_len l
  have h3 := vget_len (vget l).2.1
  have h4 := vget_less l
  unfold lzread
  split
  · simp
  · rename_i he
    have h4 := h4 (by omega)
    split
    · split
      · simp
      · refine ⟨h2, by simp only; omega, by simp, by simp, by simp, fun _ => ⟨h4, fun _ => by simp only; omega⟩⟩
    · split
      · simp
      · rename_i hh
        simp only
        refine ⟨by omega, by omega, by omega, by omega, by omega, fun _ => ⟨by omega, fun hz => by omega⟩⟩
/-- so many bytes, each from so far back -/
def cpy (far : Nat) : Nat → List UInt8 → List UInt8
  | 0, out => out
  | n + 1, out => cpy far n (out ++ [out.getD (out.length - far) 0])
theorem cpy_len (far : Nat) : ∀ n out, (cpy far n out).length = out.length + n := by
  intro n
  induction n with
  | zero => intro out; rfl
  | succ n ih => intro out; rw [cpy, ih]; simp; omega
def lzun (most : Nat) : Nat → List UInt8 → List UInt8 → List UInt8 × Nat
  | 0, _, _ => ([], 2)
  | f + 1, s, out =>
    if s = [] then (out, 0)
    else if (lzread s out.length).2.2.2 ≠ 0 then ([], (lzread s out.length).2.2.2)
    else if most - out.length < (lzread s out.length).1 then ([], 3)
    else if (lzread s out.length).2.1 = 0 then
      lzun most f ((lzread s out.length).2.2.1.drop (lzread s out.length).1) (out ++ (lzread s out.length).2.2.1.take (lzread s out.length).1)
    else lzun most f (lzread s out.length).2.2.1 (cpy (lzread s out.length).2.1 (lzread s out.length).1 out)
/-- lz.Unpack -/
def lzUnpack (s : List UInt8) (m : Int) : List UInt8 × Nat :=
  if m < 0 then ([], 1)
  else if s = [] ∨ 1 < (s.getD 0 0).toNat then ([], 2)
  else if (s.getD 0 0).toNat = 0 then (if m < (s.length : Int) - 1 then ([], 3) else (s.drop 1, 0))
  else lzun m.toNat (s.length + 1) (s.drop 1) []
theorem getD_toNat_lt (l : List UInt8) (k : Nat) : (l.getD k 0).toNat < 256 := UInt8.toNat_lt _
theorem bys_app (a b : List UInt8) : bys a ++ bys b = bys (a ++ b) := by simp
theorem bys_push (a : List UInt8) (c : UInt8) : bys a ++ [.int .u8 ((c.toNat : Nat) : Int)] = bys (a ++ [c]) := by simp
theorem bys_get (l : List UInt8) (i : Nat) (h : i < l.length) : (bys l)[i]? = some (.int .u8 (((l.getD i 0).toNat : Nat) : Int)) := by
  simp [List.getD_eq_getElem?_getD, h]
end Go.Kn
