/- Plain functions: the document's reader of numbers. -/
import Derived.Test.YtihmegmambmljaaDoorPlainB
namespace Go.Kn

/-- how many bytes the number has; 0: there is none -/
def vk (l : List UInt8) : Nat := if (vget l).2.2 = 0 then l.length - (vget l).2.1.length else 0
theorem vgo_suffix : ∀ (l : List UInt8) (i n : Nat), (vgo l i n).2.2 = 0 → ∃ k, 0 < k ∧ k ≤ l.length ∧ (vgo l i n).2.1 = l.drop k := by
  intro l
  induction l with
  | nil => intro i n h; simp [vgo] at h
  | cons c r ih =>
    intro i n h
    unfold vgo at h ⊢
    split
    · rename_i h1; simp [h1] at h
    · rename_i h1
      rw [if_neg h1] at h
      split
      · rename_i h2; simp [h2] at h
      · rename_i h2
        rw [if_neg h2] at h
        split
        · rename_i h3
          rw [if_pos h3] at h
          obtain ⟨k, hk, hl, he⟩ := ih _ _ h
          exact ⟨k + 1, by omega, by simp only [List.length_cons]; omega, by rw [he, List.drop_succ_cons]⟩
        · rename_i h3
          rw [if_neg h3] at h
          split
          · rename_i h4; simp [h4] at h
          · exact ⟨1, by omega, by simp, rfl⟩
theorem vget_drop (l : List UInt8) (h : (vget l).2.2 = 0) : (vget l).2.1 = l.drop (vk l) ∧ 0 < vk l ∧ vk l ≤ l.length := by
  obtain ⟨k, hk, hl, he⟩ := vgo_suffix l 0 0 h
  have he' : (vget l).2.1 = l.drop k := he
  have : vk l = k := by unfold vk; rw [if_pos h, he', List.length_drop]; omega
  rw [this]; exact ⟨he', hk, hl⟩
theorem vk_zero (l : List UInt8) : vk l = 0 ↔ (vget l).2.2 ≠ 0 := by
  constructor
  · intro h he
    have := (vget_drop l he).2.1
    omega
  · intro h
    unfold vk; rw [if_neg h]
theorem vk_le (l : List UInt8) : vk l ≤ l.length := by unfold vk; split <;> omega
def sumv (l : List UInt8) : Nat → Nat
  | 0 => 0
  | k + 1 => sumv l k + (l.getD k 0).toNat % 128 * 2 ^ (7 * k)
theorem vgo_ten (r : List UInt8) (n : Nat) : vgo r 10 n = (0, [], 2) := by
  cases r with
  | nil => rfl
  | cons c r => rw [vgo, if_pos (by omega)]
theorem vstep {l : List UInt8} {k n : Nat} (h : k < l.length) (h10 : k < 10) (hc : 128 ≤ (l.getD k 0).toNat) : vgo (l.drop k) k n = vgo (l.drop (k + 1)) (k + 1) (n + (l.getD k 0).toNat % 128 * 2 ^ (7 * k)) := by
  rw [drop_cons l k h, vgo, if_neg (by omega)]
  by_cases h9 : k = 9
  · subst h9
    rw [if_pos ⟨rfl, by omega⟩, vgo_ten]
  · rw [if_neg (by omega), if_pos hc]
theorem vstop {l : List UInt8} {k n : Nat} (h : l.length ≤ k ∨ 10 ≤ k) : vgo (l.drop k) k n = (0, [], 2) := by
  rcases Nat.lt_or_ge k l.length with hk | hk
  · rw [drop_cons l k hk, vgo, if_pos (by omega)]
  · rw [List.drop_of_length_le hk]; rfl
theorem vend {l : List UInt8} {k n : Nat} (h : k < l.length) (h10 : k < 10) (hc : (l.getD k 0).toNat < 128) :
    vgo (l.drop k) k n = if (k = 9 ∧ 1 < (l.getD k 0).toNat) ∨ (0 < k ∧ (l.getD k 0).toNat = 0) then (0, [], 2) else (n + (l.getD k 0).toNat % 128 * 2 ^ (7 * k), l.drop (k + 1), 0) := by
  rw [drop_cons l k h, vgo, if_neg (by omega)]
  by_cases h9 : k = 9 ∧ 1 < (l.getD k 0).toNat
  · rw [if_pos h9, if_pos (.inl h9)]
  · rw [if_neg h9, if_neg (by omega)]
    by_cases h0 : (l.getD k 0).toNat = 0 ∧ 0 < k
    · rw [if_pos h0, if_pos (by omega)]
    · rw [if_neg h0, if_neg (by omega)]
theorem sum_step (l : List UInt8) (n j : Nat) : n * 2 ^ (7 * (j + 1)) + sumv l (j + 1) = (128 * n + (l.getD j 0).toNat % 128) * 2 ^ (7 * j) + sumv l j := by
  have h1 : 2 ^ (7 * (j + 1)) = 128 * 2 ^ (7 * j) := by rw [show 7 * (j + 1) = 7 * j + 7 by omega, Nat.pow_add]; omega
  rw [h1, sumv, Nat.add_mul, Nat.mul_assoc, Nat.mul_left_comm n 128]
  omega
theorem sum_le {l : List UInt8} {t n j : Nat} (h : t = n * 2 ^ (7 * j) + sumv l j) : n ≤ t := by
  have : n * 1 ≤ n * 2 ^ (7 * j) := Nat.mul_le_mul (Nat.le_refl _) (Nat.one_le_two_pow)
  omega
theorem take_drop_snoc (s : List UInt8) (q i : Nat) (h : q + i < s.length) : (s.drop q).take i ++ [s.getD (q + i) 0] = (s.drop q).take (i + 1) := by
  rw [List.take_succ_eq_append_getElem (by simp; omega)]
  congr 1
  simp [List.getD_eq_getElem?_getD, h]
end Go.Kn
