/- Plain functions: numbers in bytes (layer 1). -/
import Derived.Test.YtihmegmambmljaaDoorEngE
namespace Go.Kn

/-- varint.Get, round by round: the number, what stands behind it, the error. -/
def vgo : List UInt8 → Nat → Nat → Nat × List UInt8 × Nat
  | [], _, _ => (0, [], 2)
  | c :: r, i, n =>
    if 10 ≤ i then (0, [], 2)
    else if i = 9 ∧ 1 < c.toNat then (0, [], 2)
    else if 128 ≤ c.toNat then vgo r (i + 1) (n + c.toNat % 128 * 2 ^ (7 * i))
    else if c.toNat = 0 ∧ 0 < i then (0, [], 2)
    else (n + c.toNat % 128 * 2 ^ (7 * i), r, 0)
def vget (l : List UInt8) : Nat × List UInt8 × Nat := vgo l 0 0
theorem drop_cons (l : List UInt8) (k : Nat) (h : k < l.length) : l.drop k = l.getD k 0 :: l.drop (k + 1) := by
  rw [List.drop_eq_getElem_cons h, List.getD_eq_getElem?_getD, List.getElem?_eq_getElem h]; rfl
theorem and127 (c : Nat) : c &&& 127 = c % 128 := Nat.and_two_pow_sub_one_eq_mod c 7
theorem pow7_le {k : Nat} (h : k ≤ 9) : 2 ^ (7 * k) ≤ 2 ^ 63 := Nat.pow_le_pow_right (by omega) (by omega)
theorem vshl_nat {c k : Nat} (hk : k < 10) (h9 : ¬ (k = 9 ∧ 1 < c)) : c % 128 * 2 ^ (7 * k) < 2 ^ 64 := by
  rcases Nat.lt_or_ge k 9 with h | h
  · have h1 : 2 ^ (7 * k) ≤ 2 ^ 56 := Nat.pow_le_pow_right (by omega) (by omega)
    have h2 : c % 128 * 2 ^ (7 * k) ≤ 127 * 2 ^ 56 := Nat.mul_le_mul (by omega) h1
    omega
  · have : k = 9 := by omega
    subst this
    have : c % 128 ≤ 1 := by omega
    have h2 : c % 128 * 2 ^ (7 * 9) ≤ 1 * 2 ^ 63 := Nat.mul_le_mul this (Nat.le_refl _)
    omega
theorem shl_cast (x k : Nat) (h : 7 * k ≤ 64) : ((x : Nat) : Int) * 2 ^ (min (7 * k) 64) = ((x * 2 ^ (7 * k) : Nat) : Int) := by
  rw [Nat.min_eq_left h]; simp
theorem vshl {c k : Nat} (hk : k < 10) (h9 : ¬ (k = 9 ∧ 1 < c)) : InR .u64 (((c &&& 127 : Nat) : Int) * 2 ^ (min (7 * k) 64)) := by
  rw [shl_cast _ _ (by omega), and127]
  have := vshl_nat hk h9
  exact ⟨by omega, by omega⟩
theorem vshl' {c k : Nat} (hk : k < 10) (h9 : ¬ (k = 9 ∧ 1 < c)) : NN .u64 (((c &&& 127 : Nat) : Int) * 2 ^ (min (7 * k) 64)) := ⟨(vshl hk h9).1, vshl hk h9⟩
theorem vor {n c k : Nat} (hk : k < 10) (hn : n < 2 ^ (7 * k)) : ((n ||| (((c &&& 127 : Nat) : Int) * 2 ^ (min (7 * k) 64) : Int).toNat : Nat) : Int) = ((n + c % 128 * 2 ^ (7 * k) : Nat) : Int) := by
  rw [shl_cast _ _ (by omega), and127, Int.toNat_natCast]
  congr 1
  rw [Nat.or_comm, Nat.mul_comm, ← Nat.two_pow_add_eq_or_of_lt hn]
  omega
theorem vgo_lt {n c k : Nat} (hn : n < 2 ^ (7 * k)) : n + c % 128 * 2 ^ (7 * k) < 2 ^ (7 * (k + 1)) := by
  have h1 : 2 ^ (7 * (k + 1)) = 128 * 2 ^ (7 * k) := by rw [show 7 * (k + 1) = 7 * k + 7 by omega, Nat.pow_add]; omega
  have h2 : c % 128 * 2 ^ (7 * k) ≤ 127 * 2 ^ (7 * k) := Nat.mul_le_mul (by omega) (Nat.le_refl _)
  omega
theorem vgo_63 {n k : Nat} (hk : k < 10) (hn : n < 2 ^ (7 * k)) : n < 2 ^ 63 := Nat.lt_of_lt_of_le hn (pow7_le (by omega))
theorem t3 {a a' b b' c c' : Value} (h1 : a = a') (h2 : b = b') (h3 : c = c') : (Value.tuple #[a, b, c]) = .tuple #[a', b', c'] := by rw [h1, h2, h3]
end Go.Kn
