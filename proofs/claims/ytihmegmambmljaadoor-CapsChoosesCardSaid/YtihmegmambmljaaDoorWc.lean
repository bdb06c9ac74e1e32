import Derived.Test.YtihmegmambmljaaDoorPlainC
import Derived.Test.YtihmegmambmljaaDoorWb
set_option linter.unusedSimpArgs false
set_option linter.unusedVariables false
set_option maxRecDepth 100000
namespace Go.Kn
open Go.Proofs
theorem rget_ok (l : List UInt8) (w : World) (hl : l.length ≤ 9223372036854775807) :
    Fn Tryd.prog 89 #[.string (S l)] w (fun x w' => x = .tuple #[.int .u64 (((vget l).1 : Nat) : Int), .int .i64 ((vk l : Nat) : Int)] ∧ Ext w w') := by
  have hx : Ext w w := Ext.rfl' w
  refine enter (N := 64) (args := [.string (S l)]) Tryd.func89 rfl rfl rfl ?_
  intro a ha
  simp only [argEnv, Nat.zero_add, Nat.reduceAdd] at ha
  refine wseq ?_
  refine regp (ρ' := [(0, .string (S l))]) (C := []) ha [] (by kernel_rfl) .nil ?_
  clear ha a; intro a ha
  refine tn ?_
  refine wseq ?_
  refine regp (ρ' := [(0, .string (S l)), (4, .int .i64 0)]) (C := []) ha [] (by kernel_rfl) .nil ?_
  clear ha a; intro a ha
  refine tn ?_
  refine wseq ?_
  refine wblk ?_
  refine wloop (fun zz a w1 => ∃ (k : Nat), zz = 10 - k ∧ On 64 [(0, .string (S l)), (4, .int .i64 ((k : Nat) : Int))] a ∧ Ext w w1 ∧ (k ≤ l.length) ∧ (k ≤ 10) ∧ (vget l = vgo (l.drop k) k (sumv l k))) _ ⟨0, rfl, ha.sub (ρ' := [(0, .string (S l)), (4, .int .i64 ((0 : Nat) : Int))]) (by kernel_rfl), hx, by omega, by omega, rfl⟩ ?_
  clear ha hx
  rintro zz a w2 ⟨k, hzz, ha, hx, hk, hk10, hv⟩
  refine wseq ?_
  refine wseq ?_
  refine regp (ρ' := [(0, .string (S l)), (4, .int .i64 ((k : Nat) : Int)), (20, .bool (((decide (((k : Nat) : Int) < ((l.length : Nat) : Int))) && (decide (((k : Nat) : Int) < 10))) && (decide ((128 : Int) ≤ (((l.getD k 0).toNat : Nat) : Int)))))]) (C := [((decide (((k : Nat) : Int) < ((l.length : Nat) : Int))) && (decide (((k : Nat) : Int) < 10))) = true → All [0 ≤ ((k : Nat) : Int) ∧ ((k : Nat) : Int) < (l.length : Int)]]) ha [] (by kernel_rfl) (.cons (fun hg9 => by simp only [Bool.not_eq_true', Bool.not_eq_false', Bool.and_eq_true, Bool.or_eq_true, Bool.and_eq_false_iff, Bool.or_eq_false_iff, decide_eq_true_eq, decide_eq_false_iff_not, Bool.not_eq_true, Decidable.not_not] at hg9; exact (.cons ⟨by omega, by omega⟩ .nil)) .nil) ?_
  clear ha a; intro a ha
  refine tn ?_
  refine wif ha rfl (fun h20 => ?_) (fun h20 => ?_)
  · simp only [Bool.not_eq_true', Bool.not_eq_false', Bool.and_eq_true, Bool.or_eq_true, Bool.and_eq_false_iff, Bool.or_eq_false_iff, decide_eq_true_eq, decide_eq_false_iff_not, Bool.not_eq_true, Decidable.not_not] at h20
    refine wskip ?_
    refine tn ?_
    refine wblk ?_
    refine regp (ρ' := [(0, .string (S l)), (4, .int .i64 ((k + 1 : Nat) : Int))]) (C := [InR .i64 ((k + 1 : Nat) : Int)]) ha [] (by kernel_rfl) (.cons (by unfold InR; omega) .nil) ?_
    clear ha a; intro a ha
    refine bn ?_
    exact tn ⟨10 - ((k + 1)), by omega, (k + 1), rfl, ha.sub (ρ' := [(0, .string (S l)), (4, .int .i64 (((k + 1) : Nat) : Int))]) (by kernel_rfl), hx, by omega, by omega, by rw [hv, vstep (by omega) (by omega) (by omega)]; rfl⟩
  · simp only [Bool.not_eq_true', Bool.not_eq_false', Bool.and_eq_true, Bool.or_eq_true, Bool.and_eq_false_iff, Bool.or_eq_false_iff, decide_eq_true_eq, decide_eq_false_iff_not, Bool.not_eq_true, Decidable.not_not] at h20
    refine wexit ?_
    refine (te (te (be ?_)))
    refine tn ?_
    refine wseq ?_
    refine wseq ?_
    refine regp (ρ' := [(0, .string (S l)), (4, .int .i64 ((k : Nat) : Int)), (30, .bool ((decide (((l.length : Nat) : Int) ≤ ((k : Nat) : Int))) || (decide ((10 : Int) ≤ ((k : Nat) : Int)))))]) (C := []) ha [] (by kernel_rfl) .nil ?_
    clear ha a; intro a ha
    refine tn ?_
    refine wif ha rfl (fun h30 => ?_) (fun h30 => ?_)
    · simp only [Bool.not_eq_true', Bool.not_eq_false', Bool.and_eq_true, Bool.or_eq_true, Bool.and_eq_false_iff, Bool.or_eq_false_iff, decide_eq_true_eq, decide_eq_false_iff_not, Bool.not_eq_true, Decidable.not_not] at h30
      have hz : vget l = (0, [], 2) := by rw [hv, vstop (by omega)]
      refine wseq ?_
      refine regp (ρ' := [(2, .int .u64 0), (3, .int .i64 0)]) (C := []) ha [] (by kernel_rfl) .nil ?_
      clear ha a; intro a ha
      refine tn ?_
      refine wret ?_
      refine (tr ?_)
      refine fin ha (.tmp rfl (.tmp rfl .nil)) ?_
      exact ⟨by rw [hz, show vk l = 0 from (vk_zero l).2 (by rw [hz]; decide)]; rfl, hx⟩
    · simp only [Bool.not_eq_true', Bool.not_eq_false', Bool.and_eq_true, Bool.or_eq_true, Bool.and_eq_false_iff, Bool.or_eq_false_iff, decide_eq_true_eq, decide_eq_false_iff_not, Bool.not_eq_true, Decidable.not_not] at h30
      have h9 : k ≠ 9 ∨ (l.getD 9 0).toNat = (l.getD k 0).toNat := (Decidable.em (k = 9)).elim (fun h => .inr (by rw [h])) .inl
      have h128 : (l.getD k 0).toNat < 128 := by omega
      rw [vend (by omega) (by omega) h128] at hv
      refine wskip ?_
      refine tn ?_
      refine wseq ?_
      refine wseq ?_
      refine regp (ρ' := [(0, .string (S l)), (4, .int .i64 ((k : Nat) : Int)), (47, .bool (((decide (((k : Nat) : Int) = 9)) && (decide ((1 : Int) < (((l.getD 9 0).toNat : Nat) : Int)))) || ((decide ((0 : Int) < ((k : Nat) : Int))) && (decide ((((l.getD k 0).toNat : Nat) : Int) = 0)))))]) (C := [(decide (((k : Nat) : Int) = 9)) = true → All [0 ≤ (9 : Int) ∧ 9 < (l.length : Int)], ((decide (((k : Nat) : Int) = 9)) && (decide ((1 : Int) < (((l.getD 9 0).toNat : Nat) : Int)))) = false → All [(decide ((0 : Int) < ((k : Nat) : Int))) = true → All [0 ≤ ((k : Nat) : Int) ∧ ((k : Nat) : Int) < (l.length : Int)]]]) ha [] (by kernel_rfl) (.cons (fun hg3 => by replace hg3 := of_decide_eq_true hg3; exact (.cons ⟨by omega, by omega⟩ .nil)) (.cons (fun hg8 => by simp only [Bool.not_eq_true', Bool.not_eq_false', Bool.and_eq_true, Bool.or_eq_true, Bool.and_eq_false_iff, Bool.or_eq_false_iff, decide_eq_true_eq, decide_eq_false_iff_not, Bool.not_eq_true, Decidable.not_not] at hg8; exact (.cons (fun hg11 => by replace hg11 := of_decide_eq_true hg11; exact (.cons ⟨by omega, by omega⟩ .nil)) .nil)) .nil)) ?_
      clear ha a; intro a ha
      refine tn ?_
      refine wif ha rfl (fun h47 => ?_) (fun h47 => ?_)
      · simp only [Bool.not_eq_true', Bool.not_eq_false', Bool.and_eq_true, Bool.or_eq_true, Bool.and_eq_false_iff, Bool.or_eq_false_iff, decide_eq_true_eq, decide_eq_false_iff_not, Bool.not_eq_true, Decidable.not_not] at h47
        have hz : vget l = (0, [], 2) := by rw [hv, if_pos (by omega)]
        refine wseq ?_
        refine regp (ρ' := [(2, .int .u64 0), (3, .int .i64 0)]) (C := []) ha [] (by kernel_rfl) .nil ?_
        clear ha a; intro a ha
        refine tn ?_
        refine wret ?_
        refine (tr ?_)
        refine fin ha (.tmp rfl (.tmp rfl .nil)) ?_
        exact ⟨by rw [hz, show vk l = 0 from (vk_zero l).2 (by rw [hz]; decide)]; rfl, hx⟩
      · simp only [Bool.not_eq_true', Bool.not_eq_false', Bool.and_eq_true, Bool.or_eq_true, Bool.and_eq_false_iff, Bool.or_eq_false_iff, decide_eq_true_eq, decide_eq_false_iff_not, Bool.not_eq_true, Decidable.not_not] at h47
        have hv2 : vget l = (sumv l (k + 1), l.drop (k + 1), 0) := by rw [hv, if_neg (by omega)]; rfl
        have hlt : sumv l (k + 1) < 18446744073709551616 := by have := vget_lt l; rw [hv2] at this; exact this
        clear hv
        refine wskip ?_
        refine tn ?_
        refine wseq ?_
        refine regp (ρ' := [(0, .string (S l)), (4, .int .i64 ((k : Nat) : Int)), (5, .int .u64 0)]) (C := []) ha [] (by kernel_rfl) .nil ?_
        clear ha a; intro a ha
        refine tn ?_
        refine wseq ?_
        refine wseq ?_
        refine regp (ρ' := [(0, .string (S l)), (4, .int .i64 ((k : Nat) : Int)), (5, .int .u64 0), (6, .int .i64 ((k : Nat) : Int))]) (C := []) ha [] (by kernel_rfl) .nil ?_
        clear ha a; intro a ha
        refine tn ?_
        refine wblk ?_
        refine wloop (fun zz a w3 => ∃ (i n : Nat) (z : Int), zz = i ∧ On 64 [(0, .string (S l)), (4, .int .i64 ((k : Nat) : Int)), (5, .int .u64 ((n : Nat) : Int)), (6, .int .i64 z)] a ∧ Ext w w3 ∧ (z = (i : Int) - 1) ∧ (i ≤ k + 1) ∧ (sumv l (k + 1) = n * 2 ^ (7 * i) + sumv l i)) _ ⟨(k + 1), 0, ((k : Nat) : Int), rfl, ha.sub (ρ' := [(0, .string (S l)), (4, .int .i64 ((k : Nat) : Int)), (5, .int .u64 ((0 : Nat) : Int)), (6, .int .i64 ((k : Nat) : Int))]) (by kernel_rfl), hx, by omega, by omega, by simp⟩ ?_
        clear ha hx
        rintro zz a w4 ⟨i, n, z, hzz, ha, hx, hzi, hkq, hsum⟩
        refine wseq ?_
        refine wseq ?_
        refine regp (ρ' := [(0, .string (S l)), (4, .int .i64 ((k : Nat) : Int)), (5, .int .u64 ((n : Nat) : Int)), (6, .int .i64 z), (50, .bool (decide ((0 : Int) ≤ z)))]) (C := []) ha [] (by kernel_rfl) .nil ?_
        clear ha a; intro a ha
        refine tn ?_
        refine wif ha rfl (fun h50 => ?_) (fun h50 => ?_)
        · replace h50 := of_decide_eq_true h50
          obtain ⟨j, rfl⟩ : ∃ j, i = j + 1 := ⟨i - 1, by omega⟩
          obtain rfl : z = ((j : Nat) : Int) := by omega
          rw [sum_step] at hsum
          have hcb := getD_toNat_lt l j
          have hle := sum_le hsum
          refine wskip ?_
          refine tn ?_
          refine wseq ?_
          refine wblk ?_
          refine regp (ρ' := [(0, .string (S l)), (4, .int .i64 ((k : Nat) : Int)), (5, .int .u64 (((128 * n) + (((l.getD j 0).toNat) % 128) : Nat) : Int)), (6, .int .i64 ((j : Nat) : Int))]) (C := [InR .u64 ((128 * n : Nat) : Int), 0 ≤ ((j : Nat) : Int) ∧ ((j : Nat) : Int) < (l.length : Int), 0 ≤ (((l.getD j 0).toNat : Nat) : Int), 0 < (128 : Int), InR .u64 ((((l.getD j 0).toNat) % 128 : Nat) : Int), InR .u64 (((128 * n) + (((l.getD j 0).toNat) % 128) : Nat) : Int)]) ha [] (by kernel_rfl) (.cons (by unfold InR; omega) (.cons ⟨by omega, by omega⟩ (.cons (by omega) (.cons (by omega) (.cons (by unfold InR; omega) (.cons (by unfold InR; omega) .nil)))))) ?_
          clear ha a; intro a ha
          refine bn ?_
          refine tn ?_
          refine regp (ρ' := [(0, .string (S l)), (4, .int .i64 ((k : Nat) : Int)), (5, .int .u64 (((128 * n) + (((l.getD j 0).toNat) % 128) : Nat) : Int)), (6, .int .i64 (((j : Nat) : Int) - 1))]) (C := [InR .i64 (((j : Nat) : Int) - 1)]) ha [] (by kernel_rfl) (.cons (by unfold InR; omega) .nil) ?_
          clear ha a; intro a ha
          exact tn ⟨(j), by omega, j, (128 * n + (l.getD j 0).toNat % 128), (((j : Nat) : Int) - 1), rfl, ha.sub (ρ' := [(0, .string (S l)), (4, .int .i64 ((k : Nat) : Int)), (5, .int .u64 (((128 * n + (l.getD j 0).toNat % 128) : Nat) : Int)), (6, .int .i64 (((j : Nat) : Int) - 1))]) (by kernel_rfl), hx, by omega, by omega, hsum⟩
        · replace h50 := of_decide_eq_false h50
          obtain rfl : i = 0 := by omega
          simp only [Nat.mul_zero, Nat.pow_zero, Nat.mul_one, sumv, Nat.add_zero] at hsum
          refine wexit ?_
          refine (te (te (be ?_)))
          refine tn ?_
          refine wseq ?_
          refine regp (ρ' := [(2, .int .u64 ((n : Nat) : Int)), (3, .int .i64 ((k + 1 : Nat) : Int))]) (C := [InR .i64 ((k + 1 : Nat) : Int)]) ha [] (by kernel_rfl) (.cons (by unfold InR; omega) .nil) ?_
          clear ha a; intro a ha
          refine tn ?_
          refine wret ?_
          refine fin ha (.tmp rfl (.tmp rfl .nil)) ?_
          refine ⟨?_, hx⟩
          rw [hv2, ← hsum, show vk l = k + 1 from by unfold vk; rw [hv2]; simp; omega]; rfl
end Go.Kn
