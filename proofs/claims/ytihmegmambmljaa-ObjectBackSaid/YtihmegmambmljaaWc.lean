import Derived.Test.YtihmegmambmljaaPlainC
import Derived.Test.YtihmegmambmljaaWb
set_option linter.unusedSimpArgs false
set_option linter.unusedVariables false
set_option maxRecDepth 100000
namespace Go.Kn
open Go.Proofs
theorem rget_ok (l : List UInt8) (w : World) (hl : l.length ≤ 9223372036854775807) :
    Fn Try.prog 25 #[.string (S l)] w (fun x w' => x = .tuple #[.int .u64 (((vget l).1 : Nat) : Int), .int .i64 ((vk l : Nat) : Int)] ∧ Ext w w') := by
  have hx : Ext w w := Ext.rfl' w
  refine enter (N := 64) (args := [.string (S l)]) Try.func25 rfl rfl rfl ?_
  intro a ha
  simp only [argEnv, Nat.zero_add, Nat.reduceAdd] at ha
  refine wseq ?_
  refine regp (ρ' := [(0, .string (S l))]) (C := []) ha [] (by kernel_rfl) .nil ?_
  clear ha a; intro a ha
  refine tn ?_
  refine wseq ?_
  refine regp (ρ' := [(0, .string (S l)), (4, .int .i64 0)]) (C := []) ha [] (by kernel_rfl) .nil ?_
  clear ha a; intro a ha
  refine tn ?_
  refine wseq ?_
  refine wblk ?_
  refine wloop (fun zz a w1 => ∃ (k : Nat), zz = 10 - k ∧ On 64 [(0, .string (S l)), (4, .int .i64 ((k : Nat) : Int))] a ∧ Ext w w1 ∧ (k ≤ l.length) ∧ (k ≤ 10) ∧ (vget l = vgo (l.drop k) k (sumv l k))) _ ⟨0, rfl, ha.sub (ρ' := [(0, .string (S l)), (4, .int .i64 ((0 : Nat) : Int))]) (by kernel_rfl), hx, by omega, by omega, rfl⟩ ?_
  clear ha hx
  rintro zz a w2 ⟨k, hzz, ha, hx, hk, hk10, hv⟩
  refine wseq ?_
  refine wseq ?_
  refine regp (ρ' := [(0, .string (S l)), (4, .int .i64 ((k : Nat) : Int)), (20, .bool (((decide (((k : Nat) : Int) < ((l.length : Nat) : Int))) && (decide (((k : Nat) : Int) < 10))) && (decide ((128 : Int) ≤ (((l.getD k 0).toNat : Nat) : Int)))))]) (C := [((decide (((k : Nat) : Int) < ((l.length : Nat) : Int))) && (decide (((k : Nat) : Int) < 10))) = true → All [0 ≤ ((k : Nat) : Int) ∧ ((k : Nat) : Int) < (l.length : Int)]]) ha [] (by kernel_rfl) (.cons (fun hg9 => by simp only [Bool.not_eq_true', Bool.not_eq_false', Bool.and_eq_true, Bool.or_eq_true, Bool.and_eq_false_iff, Bool.or_eq_false_iff, decide_eq_true_eq, decide_eq_false_iff_not, Bool.not_eq_true, Decidable.not_not] at hg9; exact (.cons ⟨by omega, by omega⟩ .nil)) .nil) ?_
  clear ha a; intro a ha
  refine tn ?_
  refine wif ha rfl (fun h20 => ?_) (fun h20 => ?_)
  · simp only [Bool.not_eq_true', Bool.not_eq_false', Bool.and_eq_true, Bool.or_eq_true, Bool.and_eq_false_iff, Bool.or_eq_false_iff, decide_eq_true_eq, decide_eq_false_iff_not, Bool.not_eq_true, Decidable.not_not] at h20
    refine wskip ?_
    refine tn ?_
    refine wblk ?_
    refine regp (ρ' := [(0, .string (S l)), (4, .int .i64 ((k + 1 : Nat) : Int))]) (C := [InR .i64 ((k + 1 : Nat) : Int)]) ha [] (by kernel_rfl) (.cons (by unfold InR; omega) .nil) ?_
    clear ha a; intro a ha
    refine bn ?_
    exact tn ⟨10 - ((k + 1)), by omega, (k + 1), rfl, ha.sub (ρ' := [(0, .string (S l)), (4, .int .i64 (((k + 1) : Nat) : Int))]) (by kernel_rfl), hx, by omega, by omega, by rw [hv, vstep (by omega) (by omega) (by omega)]; rfl⟩
  · simp only [Bool.not_eq_true', Bool.not_eq_false', Bool.and_eq_true, Bool.or_eq_true, Bool.and_eq_false_iff, Bool.or_eq_false_iff, decide_eq_true_eq, decide_eq_false_iff_not, Bool.not_eq_true, Decidable.not_not] at h20
    refine wexit ?_
    refine (te (te (be ?_)))
    refine tn ?_
    refine wseq ?_
    refine wseq ?_
    refine regp (ρ' := [(0, .string (S l)), (4, .int .i64 ((k : Nat) : Int)), (30, .bool ((decide (((l.length : Nat) : Int) ≤ ((k : Nat) : Int))) || (decide ((10 : Int) ≤ ((k : Nat) : Int)))))]) (C := []) ha [] (by kernel_rfl) .nil ?_
    clear ha a; intro a ha
    refine tn ?_
    refine wif ha rfl (fun h30 => ?_) (fun h30 => ?_)
    · simp only [Bool.not_eq_true', Bool.not_eq_false', Bool.and_eq_true, Bool.or_eq_true, Bool.and_eq_false_iff, Bool.or_eq_false_iff, decide_eq_true_eq, decide_eq_false_iff_not, Bool.not_eq_true, Decidable.not_not] at h30
      have hz : vget l = (0, [], 2) := by rw [hv, vstop (by omega)]
      refine wseq ?_
      refine regp (ρ' := [(2, .int .u64 0), (3, .int .i64 0)]) (C := []) ha [] (by kernel_rfl) .nil ?_
      clear ha a; intro a ha
      refine tn ?_
      refine wret ?_
      refine (tr ?_)
      refine fin ha (.tmp rfl (.tmp rfl .nil)) ?_
      exact ⟨by rw [hz, show vk l = 0 from (vk_zero l).2 (by rw [hz]; decide)]; rfl, hx⟩
    · simp only [Bool.not_eq_true', Bool.not_eq_false', Bool.and_eq_true, Bool.or_eq_true, Bool.and_eq_false_iff, Bool.or_eq_false_iff, decide_eq_true_eq, decide_eq_false_iff_not, Bool.not_eq_true, Decidable.not_not] at h30
      have h9 : k ≠ 9 ∨ (l.getD 9 0).toNat = (l.getD k 0).toNat := (Decidable.em (k = 9)).elim (fun h => .inr (by rw [h])) .inl
      have h128 : (l.getD k 0).toNat < 128 := by omega
      rw [vend (by omega) (by omega) h128] at hv
      refine wskip ?_
      refine tn ?_
      refine wseq ?_
      refine wseq ?_
      refine regp (ρ' := [(0, .string (S l)), (4, .int .i64 ((k : Nat) : Int)), (47, .bool (((decide (((k : Nat) : Int) = 9)) && (decide ((1 : Int) < (((l.getD 9 0).toNat : Nat) : Int)))) || ((decide ((0 : Int) < ((k : Nat) : Int))) && (decide ((((l.getD k 0).toNat : Nat) : Int) = 0)))))]) (C := [(decide (((k : Nat) : Int) = 9)) = true → All [0 ≤ (9 : Int) ∧ 9 < (l.length : Int)], ((decide (((k : Nat) : Int) = 9)) && (decide ((1 : Int) < (((l.getD 9 0).toNat : Nat) : Int)))) = false → All [(decide ((0 : Int) < ((k : Nat) : Int))) = true → All [0 ≤ ((k : Nat) : Int) ∧ ((k : Nat) : Int) < (l.length : Int)]]]) ha [] (by kernel_rfl) (.cons (fun hg3 => by replace hg3 := of_decide_eq_true hg3; exact (.cons ⟨by omega, by omega⟩ .nil)) (.cons (fun hg8 => by simp only [Bool.not_eq_true', Bool.not_eq_false', Bool.and_eq_true, Bool.or_eq_true, Bool.and_eq_false_iff, Bool.or_eq_false_iff, decide_eq_true_eq, decide_eq_false_iff_not, Bool.not_eq_true, Decidable.not_not] at hg8; exact (.cons (fun hg11 => by replace hg11 := of_decide_eq_true hg11; exact (.cons ⟨by omega, by omega⟩ .nil)) .nil)) .nil)) ?_
      clear ha a; intro a ha
      refine tn ?_
      refine wif ha rfl (fun h47 => ?_) (fun h47 => ?_)
      · simp only [Bool.not_eq_true', Bool.not_eq_false', Bool.and_eq_true, Bool.or_eq_true, Bool.and_eq_false_iff, Bool.or_eq_false_iff, decide_eq_true_eq, decide_eq_false_iff_not, Bool.not_eq_true, Decidable.not_not] at h47
        have hz : vget l = (0, [], 2) := by rw [hv, if_pos (by omega)]
        refine wseq ?_
        refine regp (ρ' := [(2, .int .u64 0), (3, .int .i64 0)]) (C := []) ha [] (by kernel_rfl) .nil ?_
        clear ha a; intro a ha
        refine tn ?_
        refine wret ?_
        refine (tr ?_)
        refine fin ha (.tmp rfl (.tmp rfl .nil)) ?_
        exact ⟨by rw [hz, show vk l = 0 from (vk_zero l).2 (by rw [hz]; decide)]; rfl, hx⟩
      · simp only [Bool.not_eq_true', Bool.not_eq_false', Bool.and_eq_true, Bool.or_eq_true, Bool.and_eq_false_iff, Bool.or_eq_false_iff, decide_eq_true_eq, decide_eq_false_iff_not, Bool.not_eq_true, Decidable.not_not] at h47
        have hv2 : vget l = (sumv l (k + 1), l.drop (k + 1), 0) := by rw [hv, if_neg (by omega)]; rfl
        have hlt : sumv l (k + 1) < 18446744073709551616 := by have := vget_lt l; rw [hv2] at this; exact this
        clear hv
        refine wskip ?_
        refine tn ?_
        refine wseq ?_
        refine regp (ρ' := [(0, .string (S l)), (4, .int .i64 ((k : Nat) : Int)), (5, .int .u64 0)]) (C := []) ha [] (by kernel_rfl) .nil ?_
        clear ha a; intro a ha
        refine tn ?_
        refine wseq ?_
        refine wseq ?_
        refine regp (ρ' := [(0, .string (S l)), (4, .int .i64 ((k : Nat) : Int)), (5, .int .u64 0), (6, .int .i64 ((k : Nat) : Int))]) (C := []) ha [] (by kernel_rfl) .nil ?_
        clear ha a; intro a ha
        refine tn ?_
        refine wblk ?_
        refine wloop (fun zz a w3 => ∃ (i n : Nat) (z : Int), zz = i ∧ On 64 [(0, .string (S l)), (4, .int .i64 ((k : Nat) : Int)), (5, .int .u64 ((n : Nat) : Int)), (6, .int .i64 z)] a ∧ Ext w w3 ∧ (z = (i : Int) - 1) ∧ (i ≤ k + 1) ∧ (sumv l (k + 1) = n * 2 ^ (7 * i) + sumv l i)) _ ⟨(k + 1), 0, ((k : Nat) : Int), rfl, ha.sub (ρ' := [(0, .string (S l)), (4, .int .i64 ((k : Nat) : Int)), (5, .int .u64 ((0 : Nat) : Int)), (6, .int .i64 ((k : Nat) : Int))]) (by kernel_rfl), hx, by omega, by omega, by simp⟩ ?_
        clear ha hx
        rintro zz a w4 ⟨i, n, z, hzz, ha, hx, hzi, hkq, hsum⟩
        refine wseq ?_
        refine wseq ?_
        refine regp (ρ' := [(0, .string (S l)), (4, .int .i64 ((k : Nat) : Int)), (5, .int .u64 ((n : Nat) : Int)), (6, .int .i64 z), (50, .bool (decide ((0 : Int) ≤ z)))]) (C := []) ha [] (by kernel_rfl) .nil ?_
        clear ha a; intro a ha
        refine tn ?_
        refine wif ha rfl (fun h50 => ?_) (fun h50 => ?_)
        · replace h50 := of_decide_eq_true h50
          obtain ⟨j, rfl⟩ : ∃ j, i = j + 1 := ⟨i - 1, by omega⟩
          obtain rfl : z = ((j : Nat) : Int) := by omega
          rw [sum_step] at hsum
          have hcb := getD_toNat_lt l j
          have hle := sum_le hsum
          refine wskip ?_
          refine tn ?_
          refine wseq ?_
          refine wblk ?_
          refine regp (ρ' := [(0, .string (S l)), (4, .int .i64 ((k : Nat) : Int)), (5, .int .u64 (((128 * n) + (((l.getD j 0).toNat) % 128) : Nat) : Int)), (6, .int .i64 ((j : Nat) : Int))]) (C := [InR .u64 ((128 * n : Nat) : Int), 0 ≤ ((j : Nat) : Int) ∧ ((j : Nat) : Int) < (l.length : Int), 0 ≤ (((l.getD j 0).toNat : Nat) : Int), 0 < (128 : Int), InR .u64 ((((l.getD j 0).toNat) % 128 : Nat) : Int), InR .u64 (((128 * n) + (((l.getD j 0).toNat) % 128) : Nat) : Int)]) ha [] (by kernel_rfl) (.cons (by unfold InR; omega) (.cons ⟨by omega, by omega⟩ (.cons (by omega) (.cons (by omega) (.cons (by unfold InR; omega) (.cons (by unfold InR; omega) .nil)))))) ?_
          clear ha a; intro a ha
          refine bn ?_
          refine tn ?_
          refine regp (ρ' := [(0, .string (S l)), (4, .int .i64 ((k : Nat) : Int)), (5, .int .u64 (((128 * n) + (((l.getD j 0).toNat) % 128) : Nat) : Int)), (6, .int .i64 (((j : Nat) : Int) - 1))]) (C := [InR .i64 (((j : Nat) : Int) - 1)]) ha [] (by kernel_rfl) (.cons (by unfold InR; omega) .nil) ?_
          clear ha a; intro a ha
          exact tn ⟨(j), by omega, j, (128 * n + (l.getD j 0).toNat % 128), (((j : Nat) : Int) - 1), rfl, ha.sub (ρ' := [(0, .string (S l)), (4, .int .i64 ((k : Nat) : Int)), (5, .int .u64 (((128 * n + (l.getD j 0).toNat % 128) : Nat) : Int)), (6, .int .i64 (((j : Nat) : Int) - 1))]) (by kernel_rfl), hx, by omega, by omega, hsum⟩
        · replace h50 := of_decide_eq_false h50
          obtain rfl : i = 0 := by omega
          simp only [Nat.mul_zero, Nat.pow_zero, Nat.mul_one, sumv, Nat.add_zero] at hsum
          refine wexit ?_
          refine (te (te (be ?_)))
          refine tn ?_
          refine wseq ?_
          refine regp (ρ' := [(2, .int .u64 ((n : Nat) : Int)), (3, .int .i64 ((k + 1 : Nat) : Int))]) (C := [InR .i64 ((k + 1 : Nat) : Int)]) ha [] (by kernel_rfl) (.cons (by unfold InR; omega) .nil) ?_
          clear ha a; intro a ha
          refine tn ?_
          refine wret ?_
          refine fin ha (.tmp rfl (.tmp rfl .nil)) ?_
          refine ⟨?_, hx⟩
          rw [hv2, ← hsum, show vk l = k + 1 from by unfold vk; rw [hv2]; simp; omega]; rfl
set_option maxHeartbeats 1000000 in
theorem runpack_ok (s : List UInt8) (m : Int) (w : World) (hs : s.length ≤ 9223372036854775807) (hm : m ≤ 1000000000) :
    Fn Try.prog 10 #[.string (S s), .int .i64 m] w (fun x w' => x = .tuple #[.string (S ((lzUnpack s m).1)), .int .i64 (((lzUnpack s m).2 : Nat) : Int)] ∧ Ext w w') := by
  have hx : Ext w w := Ext.rfl' w
  refine enter (N := 140) (args := [.string (S s), .int .i64 m]) Try.func10 rfl rfl rfl ?_
  intro a ha
  simp only [argEnv, Nat.zero_add, Nat.reduceAdd] at ha
  refine wseq ?_
  refine regp (ρ' := [(0, .string (S s)), (1, .int .i64 m)]) (C := []) ha [] (by kernel_rfl) .nil ?_
  clear ha a; intro a ha
  refine tn ?_
  refine wseq ?_
  refine wseq ?_
  refine regp (ρ' := [(0, .string (S s)), (1, .int .i64 m), (17, .bool (decide ((m : Int) < 0)))]) (C := []) ha [] (by kernel_rfl) .nil ?_
  clear ha a; intro a ha
  refine tn ?_
  refine wif ha rfl (fun h17 => ?_) (fun h17 => ?_)
  · replace h17 := of_decide_eq_true h17
    have hres : lzUnpack s m = ([], 1) := by unfold lzUnpack; rw [if_pos h17]
    refine wseq ?_
    refine regp (ρ' := [(4, .string (S [])), (5, .int .i64 1)]) (C := []) ha [] (by kernel_rfl) .nil ?_
    clear ha a; intro a ha
    refine tn ?_
    refine wret ?_
    refine (tr ?_)
    refine fin ha (.tmp rfl (.tmp rfl .nil)) ?_
    exact ⟨by rw [hres]; rfl, hx⟩
  · replace h17 := of_decide_eq_false h17
    obtain ⟨M, rfl⟩ := Int.eq_ofNat_of_zero_le (by omega : 0 ≤ m)
    refine wskip ?_
    refine tn ?_
    refine wseq ?_
    refine wseq ?_
    refine regp (ρ' := [(0, .string (S s)), (1, .int .i64 ((M : Nat) : Int)), (19, .bool (decide ((s : List UInt8) = ([] : List UInt8))))]) (C := []) ha [] (by kernel_rfl) .nil ?_
    clear ha a; intro a ha
    refine tn ?_
    refine wif ha rfl (fun h19 => ?_) (fun h19 => ?_)
    · replace h19 := of_decide_eq_true h19
      have hres : lzUnpack s (M : Int) = ([], 2) := by unfold lzUnpack; rw [if_neg (by omega), if_pos (.inl h19)]
      refine wseq ?_
      refine regp (ρ' := [(4, .string (S [])), (5, .int .i64 2)]) (C := []) ha [] (by kernel_rfl) .nil ?_
      clear ha a; intro a ha
      refine tn ?_
      refine wret ?_
      refine (tr ?_)
      refine fin ha (.tmp rfl (.tmp rfl .nil)) ?_
      exact ⟨by rw [hres]; rfl, hx⟩
    · replace h19 := of_decide_eq_false h19
      have hs0 : 0 < s.length := List.length_pos_iff.2 h19
      refine wskip ?_
      refine tn ?_
      refine wseq ?_
      refine wseq ?_
      refine regp (ρ' := [(0, .string (S s)), (1, .int .i64 ((M : Nat) : Int)), (22, .bool (decide ((1 : Int) < (((s.getD 0 0).toNat : Nat) : Int))))]) (C := [0 ≤ (0 : Int) ∧ 0 < (s.length : Int)]) ha [] (by kernel_rfl) (.cons ⟨by omega, by omega⟩ .nil) ?_
      clear ha a; intro a ha
      refine tn ?_
      refine wif ha rfl (fun h22 => ?_) (fun h22 => ?_)
      · replace h22 := of_decide_eq_true h22
        have hres : lzUnpack s (M : Int) = ([], 2) := by unfold lzUnpack; rw [if_neg (by omega), if_pos (.inr (by omega))]
        refine wseq ?_
        refine regp (ρ' := [(4, .string (S [])), (5, .int .i64 2)]) (C := []) ha [] (by kernel_rfl) .nil ?_
        clear ha a; intro a ha
        refine tn ?_
        refine wret ?_
        refine (tr ?_)
        refine fin ha (.tmp rfl (.tmp rfl .nil)) ?_
        exact ⟨by rw [hres]; rfl, hx⟩
      · replace h22 := of_decide_eq_false h22
        have hne : ¬ (s = [] ∨ 1 < (s.getD 0 0).toNat) := fun h => h.elim (fun h => h19 h) (fun h => h22 (by omega))
        refine wskip ?_
        refine tn ?_
        refine wseq ?_
        refine wseq ?_
        refine regp (ρ' := [(0, .string (S s)), (1, .int .i64 ((M : Nat) : Int)), (25, .bool (decide ((((s.getD 0 0).toNat : Nat) : Int) = 0)))]) (C := [0 ≤ (0 : Int) ∧ 0 < (s.length : Int)]) ha [] (by kernel_rfl) (.cons ⟨by omega, by omega⟩ .nil) ?_
        clear ha a; intro a ha
        refine tn ?_
        refine wif ha rfl (fun h25 => ?_) (fun h25 => ?_)
        · replace h25 := of_decide_eq_true h25
          refine wseq ?_
          refine wseq ?_
          refine regp (ρ' := [(0, .string (S s)), (30, .bool (decide (((M : Nat) : Int) < (((s.length : Nat) : Int) - 1))))]) (C := [InR .i64 (((s.length : Nat) : Int) - 1)]) ha [] (by kernel_rfl) (.cons (by unfold InR; omega) .nil) ?_
          clear ha a; intro a ha
          refine tn ?_
          refine wif ha rfl (fun h30 => ?_) (fun h30 => ?_)
          · replace h30 := of_decide_eq_true h30
            have hres : lzUnpack s (M : Int) = ([], 3) := by unfold lzUnpack; rw [if_neg (by omega), if_neg hne, if_pos (by omega), if_pos (by omega)]
            refine wseq ?_
            refine regp (ρ' := [(4, .string (S [])), (5, .int .i64 3)]) (C := []) ha [] (by kernel_rfl) .nil ?_
            clear ha a; intro a ha
            refine tn ?_
            refine wret ?_
            refine (tr (tr ?_))
            refine fin ha (.tmp rfl (.tmp rfl .nil)) ?_
            exact ⟨by rw [hres]; rfl, hx⟩
          · replace h30 := of_decide_eq_false h30
            have hres : lzUnpack s (M : Int) = (s.drop 1, 0) := by unfold lzUnpack; rw [if_neg (by omega), if_neg hne, if_pos (by omega), if_neg (by omega)]
            refine wskip ?_
            refine tn ?_
            refine wseq ?_
            refine regp (ρ' := [(4, .string (S (s.drop 1))), (5, .int .i64 0)]) (C := [0 ≤ (1 : Int) ∧ 1 ≤ (s.length : Int)]) ha [] (by kernel_rfl) (.cons ⟨by omega, by omega⟩ .nil) ?_
            clear ha a; intro a ha
            refine tn ?_
            refine wret ?_
            refine (tr ?_)
            refine fin ha (.tmp rfl (.tmp rfl .nil)) ?_
            exact ⟨by rw [hres]; rfl, hx⟩
        · replace h25 := of_decide_eq_false h25
          have hgo : lzUnpack s (M : Int) = lzun M (s.length + 1) (s.drop 1) [] := by unfold lzUnpack; rw [if_neg (by omega), if_neg hne, if_neg (by omega)]; rfl
          refine wskip ?_
          refine tn ?_
          refine wseq ?_
          refine regp (ρ' := [(0, .string (S s)), (1, .int .i64 ((M : Nat) : Int)), (6, .slice none 0 0)]) (C := []) ha [] (by kernel_rfl) .nil ?_
          clear ha a; intro a ha
          refine tn ?_
          refine wseq ?_
          refine regp (ρ' := [(0, .string (S s)), (1, .int .i64 ((M : Nat) : Int)), (6, .slice none 0 0), (7, .int .i64 1)]) (C := []) ha [] (by kernel_rfl) .nil ?_
          clear ha a; intro a ha
          refine tn ?_
          refine wseq ?_
          refine wblk ?_
          refine wloop (fun zz a w1 => ∃ (f p : Nat) (out : List UInt8) (A : Option Addr) (c : Nat), zz = f ∧ On 140 [(0, .string (S s)), (1, .int .i64 ((M : Nat) : Int)), (6, .slice A out.length c), (7, .int .i64 ((p : Nat) : Int))] a ∧ Ext w w1 ∧ Own w1 w.heap.size 5 1 A out.length c (bys out) ∧ (s.length - p < f) ∧ (p ≤ s.length) ∧ (out.length ≤ M) ∧ (lzUnpack s (M : Int) = lzun M f (s.drop p) out)) _ ⟨(s.length + 1), 1, ([] : List UInt8), none, 0, rfl, ha.sub (ρ' := [(0, .string (S s)), (1, .int .i64 ((M : Nat) : Int)), (6, .slice none (([] : List UInt8).length) 0), (7, .int .i64 ((1 : Nat) : Int))]) (by kernel_rfl), hx, own_nil _ _ _ _, by omega, by omega, by simp, hgo⟩ ?_
          clear ha hx
          rintro zz a w2 ⟨f, p, out, A, c, hzz, ha, hx, ho, hf, hp, hlen, hgo⟩
          obtain ⟨f, rfl⟩ : ∃ f', f = f' + 1 := ⟨f - 1, by omega⟩
          refine wseq ?_
          refine wseq ?_
          refine regp (ρ' := [(0, .string (S s)), (1, .int .i64 ((M : Nat) : Int)), (6, .slice A out.length c), (7, .int .i64 ((p : Nat) : Int)), (36, .bool (decide (((p : Nat) : Int) < ((s.length : Nat) : Int))))]) (C := []) ha [] (by kernel_rfl) .nil ?_
          clear ha a; intro a ha
          refine tn ?_
          refine wif ha rfl (fun h36 => ?_) (fun h36 => ?_)
          · replace h36 := of_decide_eq_true h36
            have hne2 : s.drop p ≠ [] := fun h => by have := congrArg List.length h; simp at this; omega
            rw [lzun, if_neg hne2] at hgo
            have hvl := vk_le (s.drop p)
            simp only [List.length_drop] at hvl
            have hg1 := vget_lt (s.drop p)
            refine wskip ?_
            refine tn ?_
            refine wblk ?_
            refine wseq ?_
            refine reg hmix (ρ' := [(0, .string (S s)), (1, .int .i64 ((M : Nat) : Int)), (6, .slice A out.length c), (7, .int .i64 ((p : Nat) : Int)), (8, .int .u64 (((vget (s.drop p)).1 : Nat) : Int)), (9, .int .i64 ((vk (s.drop p) : Nat) : Int))]) (C := [0 ≤ ((p : Nat) : Int) ∧ ((p : Nat) : Int) ≤ (s.length : Int), CallOk Try.prog w2 25 #[.string (S (s.drop p))] (.tuple #[.int .u64 (((vget (s.drop p)).1 : Nat) : Int), .int .i64 ((vk (s.drop p) : Nat) : Int)])]) ha [(3, .val (.tuple #[.int .u64 (((vget (s.drop p)).1 : Nat) : Int), .int .i64 ((vk (s.drop p) : Nat) : Int)]))] (by kernel_rfl) (.cons ⟨by omega, by omega⟩ (.cons (fun w _ => rget_ok _ w (by first | omega | (simp only [List.length_drop]; omega))) .nil)) ?_
            clear ha a; intro a w3 ha he
            replace hx := hx.tr he
            replace ho := ownE he ho
            clear he
            refine tn ?_
            refine wseq ?_
            refine wseq ?_
            refine regp (ρ' := [(0, .string (S s)), (1, .int .i64 ((M : Nat) : Int)), (6, .slice A out.length c), (7, .int .i64 ((p : Nat) : Int)), (8, .int .u64 (((vget (s.drop p)).1 : Nat) : Int)), (9, .int .i64 ((vk (s.drop p) : Nat) : Int)), (45, .bool (decide (((vk (s.drop p) : Nat) : Int) = 0)))]) (C := []) ha [] (by kernel_rfl) .nil ?_
            clear ha a; intro a ha
            refine tn ?_
            refine wif ha rfl (fun h45 => ?_) (fun h45 => ?_)
            · replace h45 := of_decide_eq_true h45
              have hres : lzUnpack s (M : Int) = ([], 2) := by rw [hgo, show (lzread (s.drop p) out.length) = (0, 0, [], 2) from by unfold lzread; rw [if_pos ((vk_zero _).1 (by omega))]]; rfl
              refine wseq ?_
              refine regp (ρ' := [(4, .string (S [])), (5, .int .i64 2)]) (C := []) ha [] (by kernel_rfl) .nil ?_
              clear ha a; intro a ha
              refine tn ?_
              refine wret ?_
              refine (tr (br (tr (br (tr ?_)))))
              refine fin ha (.tmp rfl (.tmp rfl .nil)) ?_
              exact ⟨by rw [hres]; rfl, hx⟩
            · replace h45 := of_decide_eq_false h45
              have he : (vget (s.drop p)).2.2 = 0 := Decidable.of_not_not fun h => h45 (by rw [(vk_zero _).2 h]; rfl)
              have hvd := vget_drop _ he
              have hdd : s.drop (p + vk (s.drop p)) = (vget (s.drop p)).2.1 := by rw [hvd.1, List.drop_drop]
              refine wskip ?_
              refine tn ?_
              refine wseq ?_
              refine regp (ρ' := [(0, .string (S s)), (1, .int .i64 ((M : Nat) : Int)), (6, .slice A out.length c), (7, .int .i64 ((p + (vk (s.drop p)) : Nat) : Int)), (8, .int .u64 (((vget (s.drop p)).1 : Nat) : Int))]) (C := [InR .i64 ((p + (vk (s.drop p)) : Nat) : Int)]) ha [] (by kernel_rfl) (.cons (by unfold InR; omega) .nil) ?_
              clear ha a; intro a ha
              refine tn ?_
              refine wseq ?_
              refine regp (ρ' := [(0, .string (S s)), (1, .int .i64 ((M : Nat) : Int)), (6, .slice A out.length c), (7, .int .i64 ((p + (vk (s.drop p)) : Nat) : Int)), (8, .int .u64 (((vget (s.drop p)).1 : Nat) : Int)), (10, .int .u64 ((((vget (s.drop p)).1) / 2 : Nat) : Int))]) (C := [0 ≤ (((vget (s.drop p)).1 : Nat) : Int), 0 < (2 : Int), InR .u64 ((((vget (s.drop p)).1) / 2 : Nat) : Int)]) ha [] (by kernel_rfl) (.cons (by omega) (.cons (by omega) (.cons (by unfold InR; omega) .nil))) ?_
              clear ha a; intro a ha
              refine tn ?_
              refine wseq ?_
              refine regp (ρ' := [(0, .string (S s)), (1, .int .i64 ((M : Nat) : Int)), (6, .slice A out.length c), (7, .int .i64 ((p + (vk (s.drop p)) : Nat) : Int)), (8, .int .u64 (((vget (s.drop p)).1 : Nat) : Int)), (10, .int .u64 ((((vget (s.drop p)).1) / 2 : Nat) : Int)), (11, .int .u64 0)]) (C := []) ha [] (by kernel_rfl) .nil ?_
              clear ha a; intro a ha
              refine tn ?_
              refine wcut (fun a w4 => ∃ (q far many : Nat), On 140 [(0, .string (S s)), (1, .int .i64 ((M : Nat) : Int)), (6, .slice A out.length c), (7, .int .i64 ((q : Nat) : Int)), (10, .int .u64 ((many : Nat) : Int)), (11, .int .u64 ((far : Nat) : Int))] a ∧ Ext w w4 ∧ Own w4 w.heap.size 5 1 A out.length c (bys out) ∧ (lzread (s.drop p) out.length = (many, far, s.drop q, 0)) ∧ (p < q ∧ q ≤ s.length) ∧ (many < 18446744073709551616 ∧ far ≤ out.length ∧ (far = 0 → many ≤ s.length - q))) ?_ ?_
              ·
                refine wseq ?_
                refine regp (ρ' := [(0, .string (S s)), (1, .int .i64 ((M : Nat) : Int)), (6, .slice A out.length c), (7, .int .i64 ((p + (vk (s.drop p)) : Nat) : Int)), (10, .int .u64 ((((vget (s.drop p)).1) / 2 : Nat) : Int)), (11, .int .u64 0), (53, .bool (decide (((((vget (s.drop p)).1) % 2 : Nat) : Int) = 1)))]) (C := [0 ≤ (((vget (s.drop p)).1 : Nat) : Int), 0 < (2 : Int)]) ha [] (by kernel_rfl) (.cons (by omega) (.cons (by omega) .nil)) ?_
                clear ha a; intro a ha
                refine tn ?_
                refine wif ha rfl (fun h53 => ?_) (fun h53 => ?_)
                · replace h53 := of_decide_eq_true h53
                  have hvl2 := vk_le (s.drop (p + vk (s.drop p)))
                  simp only [List.length_drop] at hvl2
                  have hg2 := vget_lt (s.drop (p + vk (s.drop p)))
                  refine wseq ?_
                  refine reg hmix (ρ' := [(0, .string (S s)), (1, .int .i64 ((M : Nat) : Int)), (6, .slice A out.length c), (7, .int .i64 ((p + (vk (s.drop p)) : Nat) : Int)), (10, .int .u64 ((((vget (s.drop p)).1) / 2 : Nat) : Int)), (12, .int .u64 (((vget (s.drop (p + (vk (s.drop p))))).1 : Nat) : Int)), (13, .int .i64 ((vk (s.drop (p + (vk (s.drop p)))) : Nat) : Int))]) (C := [0 ≤ ((p + (vk (s.drop p)) : Nat) : Int) ∧ ((p + (vk (s.drop p)) : Nat) : Int) ≤ (s.length : Int), CallOk Try.prog w3 25 #[.string (S (s.drop (p + (vk (s.drop p)))))] (.tuple #[.int .u64 (((vget (s.drop (p + (vk (s.drop p))))).1 : Nat) : Int), .int .i64 ((vk (s.drop (p + (vk (s.drop p)))) : Nat) : Int)])]) ha [(3, .val (.tuple #[.int .u64 (((vget (s.drop (p + (vk (s.drop p))))).1 : Nat) : Int), .int .i64 ((vk (s.drop (p + (vk (s.drop p)))) : Nat) : Int)]))] (by kernel_rfl) (.cons ⟨by omega, by omega⟩ (.cons (fun w _ => rget_ok _ w (by first | omega | (simp only [List.length_drop]; omega))) .nil)) ?_
                  clear ha a; intro a w5 ha he
                  replace hx := hx.tr he
                  replace ho := ownE he ho
                  clear he
                  refine tn ?_
                  refine wseq ?_
                  refine wseq ?_
                  refine regp (ρ' := [(0, .string (S s)), (1, .int .i64 ((M : Nat) : Int)), (6, .slice A out.length c), (7, .int .i64 ((p + (vk (s.drop p)) : Nat) : Int)), (10, .int .u64 ((((vget (s.drop p)).1) / 2 : Nat) : Int)), (12, .int .u64 (((vget (s.drop (p + (vk (s.drop p))))).1 : Nat) : Int)), (13, .int .i64 ((vk (s.drop (p + (vk (s.drop p)))) : Nat) : Int)), (81, .bool (((((decide (((vk (s.drop (p + (vk (s.drop p)))) : Nat) : Int) = 0)) || (decide (((((vget (s.drop p)).1) / 2 : Nat) : Int) < 4))) || (decide ((((vget (s.drop (p + (vk (s.drop p))))).1 : Nat) : Int) < 1))) || (decide ((65535 : Int) < (((vget (s.drop (p + (vk (s.drop p))))).1 : Nat) : Int)))) || (decide (((out.length : Nat) : Int) < (((vget (s.drop (p + (vk (s.drop p))))).1 : Nat) : Int)))))]) (C := [((((decide (((vk (s.drop (p + (vk (s.drop p)))) : Nat) : Int) = 0)) || (decide (((((vget (s.drop p)).1) / 2 : Nat) : Int) < 4))) || (decide ((((vget (s.drop (p + (vk (s.drop p))))).1 : Nat) : Int) < 1))) || (decide ((65535 : Int) < (((vget (s.drop (p + (vk (s.drop p))))).1 : Nat) : Int)))) = false → All [InR .u64 ((out.length : Nat) : Int)]]) ha [] (by kernel_rfl) (.cons (fun hg15 => by simp only [Bool.not_eq_true', Bool.not_eq_false', Bool.and_eq_true, Bool.or_eq_true, Bool.and_eq_false_iff, Bool.or_eq_false_iff, decide_eq_true_eq, decide_eq_false_iff_not, Bool.not_eq_true, Decidable.not_not] at hg15; exact (.cons (by unfold InR; omega) .nil)) .nil) ?_
                  clear ha a; intro a ha
                  refine tn ?_
                  refine wif ha rfl (fun h81 => ?_) (fun h81 => ?_)
                  · simp only [Bool.not_eq_true', Bool.not_eq_false', Bool.and_eq_true, Bool.or_eq_true, Bool.and_eq_false_iff, Bool.or_eq_false_iff, decide_eq_true_eq, decide_eq_false_iff_not, Bool.not_eq_true, Decidable.not_not] at h81
                    have hz2 := vk_zero (s.drop (p + vk (s.drop p)))
                    have hres : lzUnpack s (M : Int) = ([], 2) := by rw [hgo, show (lzread (s.drop p) out.length) = (0, 0, [], 2) from by unfold lzread; rw [if_neg (by omega), if_neg (by omega), ← hdd, if_pos (by omega)]]; rfl
                    refine wseq ?_
                    refine regp (ρ' := [(4, .string (S [])), (5, .int .i64 2)]) (C := []) ha [] (by kernel_rfl) .nil ?_
                    clear ha a; intro a ha
                    refine tn ?_
                    refine wret ?_
                    refine (tr (tr (br (tr (br (tr ?_))))))
                    refine fin ha (.tmp rfl (.tmp rfl .nil)) ?_
                    exact ⟨by rw [hres]; rfl, hx⟩
                  · simp only [Bool.not_eq_true', Bool.not_eq_false', Bool.and_eq_true, Bool.or_eq_true, Bool.and_eq_false_iff, Bool.or_eq_false_iff, decide_eq_true_eq, decide_eq_false_iff_not, Bool.not_eq_true, Decidable.not_not] at h81
                    have hz2 := vk_zero (s.drop (p + vk (s.drop p)))
                    have he2 : (vget (s.drop (p + vk (s.drop p)))).2.2 = 0 := by omega
                    have hvd2 := vget_drop _ he2
                    refine wskip ?_
                    refine tn ?_
                    refine wseq ?_
                    refine regp (ρ' := [(0, .string (S s)), (1, .int .i64 ((M : Nat) : Int)), (6, .slice A out.length c), (7, .int .i64 ((p + (vk (s.drop p)) : Nat) : Int)), (10, .int .u64 ((((vget (s.drop p)).1) / 2 : Nat) : Int)), (11, .int .u64 (((vget (s.drop (p + (vk (s.drop p))))).1 : Nat) : Int)), (13, .int .i64 ((vk (s.drop (p + (vk (s.drop p)))) : Nat) : Int))]) (C := []) ha [] (by kernel_rfl) .nil ?_
                    clear ha a; intro a ha
                    refine tn ?_
                    refine regp (ρ' := [(0, .string (S s)), (1, .int .i64 ((M : Nat) : Int)), (6, .slice A out.length c), (7, .int .i64 (((p + (vk (s.drop p))) + (vk (s.drop (p + (vk (s.drop p))))) : Nat) : Int)), (10, .int .u64 ((((vget (s.drop p)).1) / 2 : Nat) : Int)), (11, .int .u64 (((vget (s.drop (p + (vk (s.drop p))))).1 : Nat) : Int))]) (C := [InR .i64 (((p + (vk (s.drop p))) + (vk (s.drop (p + (vk (s.drop p))))) : Nat) : Int)]) ha [] (by kernel_rfl) (.cons (by unfold InR; omega) .nil) ?_
                    clear ha a; intro a ha
                    exact tn ⟨((p + (vk (s.drop p))) + (vk (s.drop (p + (vk (s.drop p)))))), ((vget (s.drop (p + (vk (s.drop p))))).1), (((vget (s.drop p)).1) / 2), ha.sub (ρ' := [(0, .string (S s)), (1, .int .i64 ((M : Nat) : Int)), (6, .slice A out.length c), (7, .int .i64 ((((p + (vk (s.drop p))) + (vk (s.drop (p + (vk (s.drop p)))))) : Nat) : Int)), (10, .int .u64 (((((vget (s.drop p)).1) / 2) : Nat) : Int)), (11, .int .u64 ((((vget (s.drop (p + (vk (s.drop p))))).1) : Nat) : Int))]) (by kernel_rfl), hx, ho, by unfold lzread; rw [if_neg (by omega), if_neg (by omega), ← hdd, if_neg (by omega), hvd2.1, List.drop_drop], ⟨by omega, by omega⟩, ⟨by omega, by omega, by omega⟩⟩
                · replace h53 := of_decide_eq_false h53
                  refine wseq ?_
                  refine regp (ρ' := [(0, .string (S s)), (1, .int .i64 ((M : Nat) : Int)), (6, .slice A out.length c), (7, .int .i64 ((p + (vk (s.drop p)) : Nat) : Int)), (10, .int .u64 ((((vget (s.drop p)).1) / 2 : Nat) : Int)), (11, .int .u64 0), (96, .bool ((decide (((((vget (s.drop p)).1) / 2 : Nat) : Int) < 1)) || (decide ((((s.length : Nat) : Int) - ((p + (vk (s.drop p)) : Nat) : Int)) < ((((vget (s.drop p)).1) / 2 : Nat) : Int)))))]) (C := [(decide (((((vget (s.drop p)).1) / 2 : Nat) : Int) < 1)) = false → All [InR .i64 (((s.length : Nat) : Int) - ((p + (vk (s.drop p)) : Nat) : Int)), InR .u64 (((s.length : Nat) : Int) - ((p + (vk (s.drop p)) : Nat) : Int))]]) ha [] (by kernel_rfl) (.cons (fun hg3 => by replace hg3 := of_decide_eq_false hg3; exact (.cons (by unfold InR; omega) (.cons (by unfold InR; omega) .nil))) .nil) ?_
                  clear ha a; intro a ha
                  refine tn ?_
                  refine wif ha rfl (fun h96 => ?_) (fun h96 => ?_)
                  · simp only [Bool.not_eq_true', Bool.not_eq_false', Bool.and_eq_true, Bool.or_eq_true, Bool.and_eq_false_iff, Bool.or_eq_false_iff, decide_eq_true_eq, decide_eq_false_iff_not, Bool.not_eq_true, Decidable.not_not] at h96
                    have hres : lzUnpack s (M : Int) = ([], 2) := by rw [hgo, show (lzread (s.drop p) out.length) = (0, 0, [], 2) from by unfold lzread; rw [if_neg (by omega), if_pos (by omega), ← hdd, List.length_drop, if_pos (by omega)]]; rfl
                    refine wseq ?_
                    refine regp (ρ' := [(4, .string (S [])), (5, .int .i64 2)]) (C := []) ha [] (by kernel_rfl) .nil ?_
                    clear ha a; intro a ha
                    refine tn ?_
                    refine wret ?_
                    refine (tr (br (tr (br (tr ?_)))))
                    refine fin ha (.tmp rfl (.tmp rfl .nil)) ?_
                    exact ⟨by rw [hres]; rfl, hx⟩
                  · simp only [Bool.not_eq_true', Bool.not_eq_false', Bool.and_eq_true, Bool.or_eq_true, Bool.and_eq_false_iff, Bool.or_eq_false_iff, decide_eq_true_eq, decide_eq_false_iff_not, Bool.not_eq_true, Decidable.not_not] at h96
                    refine wskip ?_
                    exact tn ⟨(p + (vk (s.drop p))), 0, (((vget (s.drop p)).1) / 2), ha.sub (ρ' := [(0, .string (S s)), (1, .int .i64 ((M : Nat) : Int)), (6, .slice A out.length c), (7, .int .i64 (((p + (vk (s.drop p))) : Nat) : Int)), (10, .int .u64 (((((vget (s.drop p)).1) / 2) : Nat) : Int)), (11, .int .u64 ((0 : Nat) : Int))]) (by kernel_rfl), hx, ho, by unfold lzread; rw [if_neg (by omega), if_pos (by omega), ← hdd, List.length_drop, if_neg (by omega)], ⟨by omega, by omega⟩, ⟨by omega, by omega, by omega⟩⟩
              clear ha hx ho
              rintro a w6 ⟨q, far, many, ha, hx, ho, hrd, hq, hmf⟩
              rw [hrd] at hgo
              dsimp only at hgo
              rw [if_neg (by decide)] at hgo
              refine wseq ?_
              refine wseq ?_
              refine regp (ρ' := [(0, .string (S s)), (1, .int .i64 ((M : Nat) : Int)), (6, .slice A out.length c), (7, .int .i64 ((q : Nat) : Int)), (10, .int .u64 ((many : Nat) : Int)), (11, .int .u64 ((far : Nat) : Int)), (109, .bool ((decide (((M : Nat) : Int) < ((many : Nat) : Int))) || (decide ((((M : Nat) : Int) - ((many : Nat) : Int)) < ((out.length : Nat) : Int)))))]) (C := [InR .u64 ((M : Nat) : Int), (decide (((M : Nat) : Int) < ((many : Nat) : Int))) = false → All [InR .i64 ((many : Nat) : Int), InR .i64 (((M : Nat) : Int) - ((many : Nat) : Int))]]) ha [] (by kernel_rfl) (.cons (by unfold InR; omega) (.cons (fun hg5 => by replace hg5 := of_decide_eq_false hg5; exact (.cons (by unfold InR; omega) (.cons (by unfold InR; omega) .nil))) .nil)) ?_
              clear ha a; intro a ha
              refine tn ?_
              refine wif ha rfl (fun h109 => ?_) (fun h109 => ?_)
              · simp only [Bool.not_eq_true', Bool.not_eq_false', Bool.and_eq_true, Bool.or_eq_true, Bool.and_eq_false_iff, Bool.or_eq_false_iff, decide_eq_true_eq, decide_eq_false_iff_not, Bool.not_eq_true, Decidable.not_not] at h109
                have hres : lzUnpack s (M : Int) = ([], 3) := by rw [hgo, if_pos (by omega)]
                refine wseq ?_
                refine regp (ρ' := [(4, .string (S [])), (5, .int .i64 3)]) (C := []) ha [] (by kernel_rfl) .nil ?_
                clear ha a; intro a ha
                refine tn ?_
                refine wret ?_
                refine (tr (br (tr (br (tr ?_)))))
                refine fin ha (.tmp rfl (.tmp rfl .nil)) ?_
                exact ⟨by rw [hres]; rfl, hx⟩
              · simp only [Bool.not_eq_true', Bool.not_eq_false', Bool.and_eq_true, Bool.or_eq_true, Bool.and_eq_false_iff, Bool.or_eq_false_iff, decide_eq_true_eq, decide_eq_false_iff_not, Bool.not_eq_true, Decidable.not_not] at h109
                rw [if_neg (by omega)] at hgo
                refine wskip ?_
                refine tn ?_
                refine wseq ?_
                refine regp (ρ' := [(0, .string (S s)), (1, .int .i64 ((M : Nat) : Int)), (6, .slice A out.length c), (7, .int .i64 ((q : Nat) : Int)), (10, .int .u64 ((many : Nat) : Int)), (11, .int .u64 ((far : Nat) : Int)), (14, .int .i64 0)]) (C := []) ha [] (by kernel_rfl) .nil ?_
                clear ha a; intro a ha
                refine tn ?_
                refine wblk ?_
                refine wloop (fun zz a w7 => ∃ (i p2 : Nat) (o2 : List UInt8) (A : Option Addr) (c : Nat), zz = many - i ∧ On 140 [(0, .string (S s)), (1, .int .i64 ((M : Nat) : Int)), (6, .slice A o2.length c), (7, .int .i64 ((p2 : Nat) : Int)), (10, .int .u64 ((many : Nat) : Int)), (11, .int .u64 ((far : Nat) : Int)), (14, .int .i64 ((i : Nat) : Int))] a ∧ Ext w w7 ∧ Own w7 w.heap.size 5 1 A o2.length c (bys o2) ∧ (i ≤ many) ∧ (o2.length = out.length + i) ∧ ((far = 0 ∧ p2 = q + i ∧ o2 = out ++ (s.drop q).take i) ∨ (far ≠ 0 ∧ p2 = q ∧ cpy far (many - i) o2 = cpy far many out))) _ ⟨0, q, out, A, c, rfl, ha.sub (ρ' := [(0, .string (S s)), (1, .int .i64 ((M : Nat) : Int)), (6, .slice A out.length c), (7, .int .i64 ((q : Nat) : Int)), (10, .int .u64 ((many : Nat) : Int)), (11, .int .u64 ((far : Nat) : Int)), (14, .int .i64 ((0 : Nat) : Int))]) (by kernel_rfl), hx, ho, by omega, rfl, (Decidable.em (far = 0)).elim (fun h => .inl ⟨h, rfl, by simp⟩) (fun h => .inr ⟨h, rfl, rfl⟩)⟩ ?_
                clear ha hx ho
                rintro zz a w8 ⟨i, p2, o2, A, c, hzz, ha, hx, ho, hi, hlen2, hcase⟩
                have hp2 : far = 0 ∧ p2 = q + i ∨ far ≠ 0 ∧ p2 = q := hcase.elim (fun h => .inl ⟨h.1, h.2.1⟩) (fun h => .inr ⟨h.1, h.2.1⟩)
                refine wseq ?_
                refine wseq ?_
                refine regp (ρ' := [(0, .string (S s)), (1, .int .i64 ((M : Nat) : Int)), (6, .slice A o2.length c), (7, .int .i64 ((p2 : Nat) : Int)), (10, .int .u64 ((many : Nat) : Int)), (11, .int .u64 ((far : Nat) : Int)), (14, .int .i64 ((i : Nat) : Int)), (113, .bool (decide (((i : Nat) : Int) < ((many : Nat) : Int))))]) (C := [InR .i64 ((many : Nat) : Int)]) ha [] (by kernel_rfl) (.cons (by unfold InR; omega) .nil) ?_
                clear ha a; intro a ha
                refine tn ?_
                refine wif ha rfl (fun h113 => ?_) (fun h113 => ?_)
                · replace h113 := of_decide_eq_true h113
                  refine wskip ?_
                  refine tn ?_
                  refine wseq ?_
                  refine wblk ?_
                  refine wseq ?_
                  refine regp (ρ' := [(0, .string (S s)), (1, .int .i64 ((M : Nat) : Int)), (6, .slice A o2.length c), (7, .int .i64 ((p2 : Nat) : Int)), (10, .int .u64 ((many : Nat) : Int)), (11, .int .u64 ((far : Nat) : Int)), (14, .int .i64 ((i : Nat) : Int)), (117, .bool (decide (((far : Nat) : Int) = 0)))]) (C := []) ha [] (by kernel_rfl) .nil ?_
                  clear ha a; intro a ha
                  refine tn ?_
                  refine wif ha rfl (fun h117 => ?_) (fun h117 => ?_)
                  · replace h117 := of_decide_eq_true h117
                    refine wseq ?_
                    refine reg_list ?_
                    refine segp (ρ' := [(0, .string (S s)), (1, .int .i64 ((M : Nat) : Int)), (7, .int .i64 ((p2 : Nat) : Int)), (10, .int .u64 ((many : Nat) : Int)), (11, .int .u64 ((far : Nat) : Int)), (14, .int .i64 ((i : Nat) : Int)), (118, .slice A o2.length c), (121, .int .u8 (((s.getD p2 0).toNat : Nat) : Int))]) (C := [0 ≤ ((p2 : Nat) : Int) ∧ ((p2 : Nat) : Int) < (s.length : Int)]) ha 4 [] rfl (by kernel_rfl) (.cons ⟨by omega, by omega⟩ .nil) ?_
                    clear ha a; intro a ha
                    refine lnewS ha rfl (by kernel_rfl) #[.int .u8 (((s.getD p2 0).toNat : Nat) : Int)] 5 1 (by kernel_rfl) ?_
                    clear ha a; intro b9 w10 he hb_b9 hB_b9 a ha
                    have hno_ho_b9 : (Value.slice A o2.length c).ownBlock ≠ some b9 := own_ne ho hb_b9
                    replace ho := ownE he ho
                    replace hb_b9 := Nat.le_trans hx.size hb_b9
                    replace hx := hx.tr he
                    clear he
                    refine lapp (by_ := 1) ha rfl (by kernel_rfl) rfl (by kernel_rfl) rfl ho rfl [.int .u8 (((s.getD p2 0).toNat : Nat) : Int)] rfl (news_blk hB_b9) rfl (by omega) (by omega) hx.size ?_
                    clear ha a; intro A11 c12 w13 ho2 hg a ha
                    clear hB_b9 hb_b9
                    replace hx := extG hx hg ho (Nat.le_refl _)
                    clear hg ho
                    refine segp (ρ' := [(0, .string (S s)), (1, .int .i64 ((M : Nat) : Int)), (6, .slice A11 (o2.length + 1) c12), (7, .int .i64 ((p2 : Nat) : Int)), (10, .int .u64 ((many : Nat) : Int)), (11, .int .u64 ((far : Nat) : Int)), (14, .int .i64 ((i : Nat) : Int))]) (C := []) ha 1 [] rfl (by kernel_rfl) .nil ?_
                    clear ha a; intro a ha
                    refine lnil ?_
                    replace ha := ha.sub (ρ' := [(0, .string (S s)), (1, .int .i64 ((M : Nat) : Int)), (6, .slice A11 (o2.length + 1) c12), (7, .int .i64 ((p2 : Nat) : Int)), (10, .int .u64 ((many : Nat) : Int)), (11, .int .u64 ((far : Nat) : Int)), (14, .int .i64 ((i : Nat) : Int))]) (by kernel_rfl)
                    rw [show ((bys o2 ++ [.int .u8 (((s.getD p2 0).toNat : Nat) : Int)]) : List Value) = bys (o2 ++ [s.getD p2 0]) from bys_push _ _] at ho2
                    rw [show ((o2.length + 1) : Nat) = (o2 ++ [s.getD p2 0]).length from by simp] at ha ho2
                    refine tn ?_
                    refine regp (ρ' := [(0, .string (S s)), (1, .int .i64 ((M : Nat) : Int)), (6, .slice A11 ((o2 ++ [s.getD p2 0]).length) c12), (7, .int .i64 ((p2 + 1 : Nat) : Int)), (10, .int .u64 ((many : Nat) : Int)), (11, .int .u64 ((far : Nat) : Int)), (14, .int .i64 ((i : Nat) : Int))]) (C := [InR .i64 ((p2 + 1 : Nat) : Int)]) ha [] (by kernel_rfl) (.cons (by unfold InR; omega) .nil) ?_
                    clear ha a; intro a ha
                    refine bn ?_
                    refine tn ?_
                    refine regp (ρ' := [(0, .string (S s)), (1, .int .i64 ((M : Nat) : Int)), (6, .slice A11 ((o2 ++ [s.getD p2 0]).length) c12), (7, .int .i64 ((p2 + 1 : Nat) : Int)), (10, .int .u64 ((many : Nat) : Int)), (11, .int .u64 ((far : Nat) : Int)), (14, .int .i64 ((i + 1 : Nat) : Int))]) (C := [InR .i64 ((i + 1 : Nat) : Int)]) ha [] (by kernel_rfl) (.cons (by unfold InR; omega) .nil) ?_
                    clear ha a; intro a ha
                    exact tn ⟨many - ((i + 1)), by omega, (i + 1), (p2 + 1), (o2 ++ [s.getD p2 0]), A11, c12, rfl, ha.sub (ρ' := [(0, .string (S s)), (1, .int .i64 ((M : Nat) : Int)), (6, .slice A11 ((o2 ++ [s.getD p2 0]).length) c12), (7, .int .i64 (((p2 + 1) : Nat) : Int)), (10, .int .u64 ((many : Nat) : Int)), (11, .int .u64 ((far : Nat) : Int)), (14, .int .i64 (((i + 1) : Nat) : Int))]) (by kernel_rfl), hx, ho2, by omega, by simp; omega, hcase.elim (fun ⟨h1, h2, h3⟩ => .inl ⟨h1, by omega, by rw [h3, List.append_assoc, h2, take_drop_snoc _ _ _ (by omega)]⟩) (fun ⟨h1, h2, h3⟩ => absurd (by omega) h1)⟩
                  · replace h117 := of_decide_eq_false h117
                    obtain ⟨g, rfl⟩ := own_some ho (by omega)
                    refine wseq ?_
                    refine regp (ρ' := [(0, .string (S s)), (1, .int .i64 ((M : Nat) : Int)), (6, .slice (some ⟨g, 0, none⟩) o2.length c), (7, .int .i64 ((p2 : Nat) : Int)), (10, .int .u64 ((many : Nat) : Int)), (11, .int .u64 ((far : Nat) : Int)), (14, .int .i64 ((i : Nat) : Int)), (15, .int .u8 (((o2.getD (((((o2.length : Nat) : Int) - ((far : Nat) : Int)) : Int).toNat) 0).toNat : Nat) : Int))]) (C := [InR .i64 ((far : Nat) : Int), InR .i64 (((o2.length : Nat) : Int) - ((far : Nat) : Int)), RunOk Try.prog w8 (Instr.indexAt 36 (.slice (some ⟨g, 0, none⟩) o2.length c) (.int .i64 (((o2.length : Nat) : Int) - ((far : Nat) : Int)))) (.pointer (some ⟨g, ((((o2.length : Nat) : Int) - ((far : Nat) : Int)) : Int).toNat * 1, none⟩)), RunOk Try.prog w8 (Instr.loadAt 5 (.pointer (some ⟨g, ((((o2.length : Nat) : Int) - ((far : Nat) : Int)) : Int).toNat * 1, none⟩))) (.int .u8 (((o2.getD (((((o2.length : Nat) : Int) - ((far : Nat) : Int)) : Int).toNat) 0).toNat : Nat) : Int))]) ha [(6, .val (.pointer (some ⟨g, ((((o2.length : Nat) : Int) - ((far : Nat) : Int)) : Int).toNat * 1, none⟩))), (7, .val (.int .u8 (((o2.getD (((((o2.length : Nat) : Int) - ((far : Nat) : Int)) : Int).toNat) 0).toNat : Nat) : Int)))] (by kernel_rfl) (.cons (by unfold InR; omega) (.cons (by unfold InR; omega) (.cons (idxOwnI (e := 5) (by kernel_rfl) (by kernel_rfl) ⟨by omega, by omega⟩) (.cons (ldOwn (by kernel_rfl) ho (bys_get _ _ (by omega))) .nil)))) ?_
                    clear ha a; intro a ha
                    rw [show ((((o2.getD (((((o2.length : Nat) : Int) - ((far : Nat) : Int)) : Int).toNat) 0).toNat : Nat) : Int) : Int) = (((o2.getD (o2.length - far) 0).toNat : Nat) : Int) from by rw [Int.toNat_sub]] at ha
                    refine tn ?_
                    refine reg_list ?_
                    refine segp (ρ' := [(0, .string (S s)), (1, .int .i64 ((M : Nat) : Int)), (7, .int .i64 ((p2 : Nat) : Int)), (10, .int .u64 ((many : Nat) : Int)), (11, .int .u64 ((far : Nat) : Int)), (14, .int .i64 ((i : Nat) : Int)), (134, .slice (some ⟨g, 0, none⟩) o2.length c), (135, .int .u8 (((o2.getD (o2.length - far) 0).toNat : Nat) : Int))]) (C := []) ha 2 [] rfl (by kernel_rfl) .nil ?_
                    clear ha a; intro a ha
                    refine lnewS ha rfl (by kernel_rfl) #[.int .u8 (((o2.getD (o2.length - far) 0).toNat : Nat) : Int)] 5 1 (by kernel_rfl) ?_
                    clear ha a; intro b14 w15 he hb_b14 hB_b14 a ha
                    have hno_ho_b14 : (Value.slice (some ⟨g, 0, none⟩) o2.length c).ownBlock ≠ some b14 := own_ne ho hb_b14
                    replace ho := ownE he ho
                    replace hb_b14 := Nat.le_trans hx.size hb_b14
                    replace hx := hx.tr he
                    clear he
                    refine lapp (by_ := 1) ha rfl (by kernel_rfl) rfl (by kernel_rfl) rfl ho rfl [.int .u8 (((o2.getD (o2.length - far) 0).toNat : Nat) : Int)] rfl (news_blk hB_b14) rfl (by omega) (by omega) hx.size ?_
                    clear ha a; intro A16 c17 w18 ho3 hg a ha
                    clear hB_b14 hb_b14
                    replace hx := extG hx hg ho (Nat.le_refl _)
                    clear hg ho
                    refine segp (ρ' := [(0, .string (S s)), (1, .int .i64 ((M : Nat) : Int)), (6, .slice A16 (o2.length + 1) c17), (7, .int .i64 ((p2 : Nat) : Int)), (10, .int .u64 ((many : Nat) : Int)), (11, .int .u64 ((far : Nat) : Int)), (14, .int .i64 ((i : Nat) : Int))]) (C := []) ha 1 [] rfl (by kernel_rfl) .nil ?_
                    clear ha a; intro a ha
                    refine lnil ?_
                    replace ha := ha.sub (ρ' := [(0, .string (S s)), (1, .int .i64 ((M : Nat) : Int)), (6, .slice A16 (o2.length + 1) c17), (7, .int .i64 ((p2 : Nat) : Int)), (10, .int .u64 ((many : Nat) : Int)), (11, .int .u64 ((far : Nat) : Int)), (14, .int .i64 ((i : Nat) : Int))]) (by kernel_rfl)
                    rw [show ((bys o2 ++ [.int .u8 (((o2.getD (o2.length - far) 0).toNat : Nat) : Int)]) : List Value) = bys (o2 ++ [o2.getD (o2.length - far) 0]) from bys_push _ _] at ho3
                    rw [show ((o2.length + 1) : Nat) = (o2 ++ [o2.getD (o2.length - far) 0]).length from by simp] at ha ho3
                    refine bn ?_
                    refine tn ?_
                    refine regp (ρ' := [(0, .string (S s)), (1, .int .i64 ((M : Nat) : Int)), (6, .slice A16 ((o2 ++ [o2.getD (o2.length - far) 0]).length) c17), (7, .int .i64 ((p2 : Nat) : Int)), (10, .int .u64 ((many : Nat) : Int)), (11, .int .u64 ((far : Nat) : Int)), (14, .int .i64 ((i + 1 : Nat) : Int))]) (C := [InR .i64 ((i + 1 : Nat) : Int)]) ha [] (by kernel_rfl) (.cons (by unfold InR; omega) .nil) ?_
                    clear ha a; intro a ha
                    exact tn ⟨many - ((i + 1)), by omega, (i + 1), p2, (o2 ++ [o2.getD (o2.length - far) 0]), A16, c17, rfl, ha.sub (ρ' := [(0, .string (S s)), (1, .int .i64 ((M : Nat) : Int)), (6, .slice A16 ((o2 ++ [o2.getD (o2.length - far) 0]).length) c17), (7, .int .i64 ((p2 : Nat) : Int)), (10, .int .u64 ((many : Nat) : Int)), (11, .int .u64 ((far : Nat) : Int)), (14, .int .i64 (((i + 1) : Nat) : Int))]) (by kernel_rfl), hx, ho3, by omega, by simp; omega, hcase.elim (fun ⟨h1, h2, h3⟩ => absurd h1 (by omega)) (fun ⟨h1, h2, h3⟩ => .inr ⟨h1, h2, by rw [← h3, show many - i = (many - (i + 1)) + 1 by omega, cpy]⟩)⟩
                · replace h113 := of_decide_eq_false h113
                  have him : i = many := by omega
                  have hend : s.length - p2 < f ∧ p2 ≤ s.length := ⟨by omega, by omega⟩
                  rw [him] at hcase
                  have hgo2 : lzUnpack s (M : Int) = lzun M f (s.drop p2) o2 := hcase.elim (fun ⟨h1, h2, h3⟩ => by rw [hgo, if_pos h1, h2, h3, List.drop_drop]) (fun ⟨h1, h2, h3⟩ => by rw [hgo, if_neg h1, h2, ← h3, Nat.sub_self, cpy])
                  refine wexit ?_
                  refine (te (te (be ?_)))
                  refine bn ?_
                  exact tn ⟨f, by omega, f, p2, o2, A, c, rfl, ha.sub (ρ' := [(0, .string (S s)), (1, .int .i64 ((M : Nat) : Int)), (6, .slice A o2.length c), (7, .int .i64 ((p2 : Nat) : Int))]) (by kernel_rfl), hx, ho, hend.1, hend.2, by omega, hgo2⟩
          · replace h36 := of_decide_eq_false h36
            have hres : lzUnpack s (M : Int) = (out, 0) := by rw [hgo, lzun, if_pos (List.drop_of_length_le (by omega))]
            refine wexit ?_
            refine (te (te (be ?_)))
            refine tn ?_
            refine wseq ?_
            refine regp (ρ' := [(4, .string (S out)), (5, .int .i64 0)]) (C := [RunOk Try.prog w2 (convert 36 9 (.slice A out.length c)) (.string (S out))]) ha [(1, .val (.string (S out)))] (by kernel_rfl) (.cons (cvOwn (by kernel_rfl) (by kernel_rfl) (by kernel_rfl) ho) .nil) ?_
            clear ha a; intro a ha
            refine tn ?_
            refine wret ?_
            refine fin ha (.tmp rfl (.tmp rfl .nil)) ?_
            exact ⟨by rw [hres]; rfl, hx⟩
theorem knows5_ok (w : World) :
    Fn Try.prog 8 #[] w (fun x w' => x = .bool true ∧ Ext w w') := by
  have hx : Ext w w := Ext.rfl' w
  refine enter (N := 37) (args := []) Try.func8 rfl rfl rfl ?_
  intro a ha
  simp only [argEnv, Nat.zero_add, Nat.reduceAdd] at ha
  refine wseq ?_
  refine regp (ρ' := []) (C := []) ha [] (by kernel_rfl) .nil ?_
  clear ha a; intro a ha
  refine tn ?_
  refine wseq ?_
  refine reg hmix (ρ' := [(1, .string (S ((lzUnpack [1, 2, 97, 11, 1] 9).1))), (2, .int .i64 (((lzUnpack [1, 2, 97, 11, 1] 9).2 : Nat) : Int))]) (C := [CallOk Try.prog w 9 #[.string (S [1, 2, 97, 11, 1]), .int .i64 9] (.tuple #[.string (S ((lzUnpack [1, 2, 97, 11, 1] 9).1)), .int .i64 (((lzUnpack [1, 2, 97, 11, 1] 9).2 : Nat) : Int)])]) ha [(0, .val (.tuple #[.string (S ((lzUnpack [1, 2, 97, 11, 1] 9).1)), .int .i64 (((lzUnpack [1, 2, 97, 11, 1] 9).2 : Nat) : Int)]))] (by kernel_rfl) (.cons (fun w _ => unpack_ok _ _ w (by first | omega | decide) (by omega)) .nil) ?_
  clear ha a; intro a w1 ha he
  replace hx := hx.tr he
  clear he
  refine tn ?_
  refine wseq ?_
  refine reg hmix (ρ' := [(1, .string (S ((lzUnpack [1, 2, 97, 11, 1] 9).1))), (2, .int .i64 (((lzUnpack [1, 2, 97, 11, 1] 9).2 : Nat) : Int)), (4, .int .i64 (((lzUnpack [] 9).2 : Nat) : Int))]) (C := [CallOk Try.prog w1 9 #[.string (S []), .int .i64 9] (.tuple #[.string (S ((lzUnpack [] 9).1)), .int .i64 (((lzUnpack [] 9).2 : Nat) : Int)])]) ha [(0, .val (.tuple #[.string (S ((lzUnpack [] 9).1)), .int .i64 (((lzUnpack [] 9).2 : Nat) : Int)]))] (by kernel_rfl) (.cons (fun w _ => unpack_ok _ _ w (by first | omega | decide) (by omega)) .nil) ?_
  clear ha a; intro a w2 ha he
  replace hx := hx.tr he
  clear he
  refine tn ?_
  refine wseq ?_
  refine reg hmix (ρ' := [(1, .string (S ((lzUnpack [1, 2, 97, 11, 1] 9).1))), (2, .int .i64 (((lzUnpack [1, 2, 97, 11, 1] 9).2 : Nat) : Int)), (4, .int .i64 (((lzUnpack [] 9).2 : Nat) : Int)), (6, .int .i64 (((lzUnpack [0, 97] 0).2 : Nat) : Int))]) (C := [CallOk Try.prog w2 9 #[.string (S [0, 97]), .int .i64 0] (.tuple #[.string (S ((lzUnpack [0, 97] 0).1)), .int .i64 (((lzUnpack [0, 97] 0).2 : Nat) : Int)])]) ha [(0, .val (.tuple #[.string (S ((lzUnpack [0, 97] 0).1)), .int .i64 (((lzUnpack [0, 97] 0).2 : Nat) : Int)]))] (by kernel_rfl) (.cons (fun w _ => unpack_ok _ _ w (by first | omega | decide) (by omega)) .nil) ?_
  clear ha a; intro a w3 ha he
  replace hx := hx.tr he
  clear he
  refine tn ?_
  refine wseq ?_
  refine regp (ρ' := [(0, .bool ((((decide (((lzUnpack [1, 2, 97, 11, 1] 9).1 : List UInt8) = ([97, 97, 97, 97, 97, 97] : List UInt8))) && (decide ((((lzUnpack [1, 2, 97, 11, 1] 9).2 : Nat) : Int) = 0))) && (decide ((((lzUnpack [] 9).2 : Nat) : Int) = 2))) && (decide ((((lzUnpack [0, 97] 0).2 : Nat) : Int) = 3))))]) (C := []) ha [] (by kernel_rfl) .nil ?_
  clear ha a; intro a ha
  refine tn ?_
  refine wret ?_
  refine fin ha (.tmp rfl .nil) ?_
  exact ⟨congrArg Value.bool (by decide +kernel), hx⟩
theorem lzUnpacks_walk (s : List UInt8) (m : Int) (w : World) (hs : s.length ≤ 9223372036854775807) (hm : InR .i64 m) :
    Fn Try.prog 3 #[.string (S s), .int .i64 m] w (fun x w' => x = .bool true ∧ Ext w w') := by
  have hx : Ext w w := Ext.rfl' w
  refine enter (N := 40) (args := [.string (S s), .int .i64 m]) Try.func3 rfl rfl rfl ?_
  intro a ha
  simp only [argEnv, Nat.zero_add, Nat.reduceAdd] at ha
  refine wseq ?_
  refine regp (ρ' := [(0, .string (S s)), (1, .int .i64 m)]) (C := []) ha [] (by kernel_rfl) .nil ?_
  clear ha a; intro a ha
  refine tn ?_
  refine wseq ?_
  refine wseq ?_
  refine regp (ρ' := [(0, .string (S s)), (1, .int .i64 m), (15, .bool ((decide ((400 : Int) < ((s.length : Nat) : Int))) || (decide ((20000 : Int) < m))))]) (C := []) ha [] (by kernel_rfl) .nil ?_
  clear ha a; intro a ha
  refine tn ?_
  refine wif ha rfl (fun h15 => ?_) (fun h15 => ?_)
  · simp only [Bool.not_eq_true', Bool.not_eq_false', Bool.and_eq_true, Bool.or_eq_true, Bool.and_eq_false_iff, Bool.or_eq_false_iff, decide_eq_true_eq, decide_eq_false_iff_not, Bool.not_eq_true, Decidable.not_not] at h15
    refine wseq ?_
    refine reg hmix (ρ' := [(4, .bool true)]) (C := [CallOk Try.prog w 8 #[] (.bool true)]) ha [(0, .val (.bool true))] (by kernel_rfl) (.cons (fun w _ => knows5_ok w) .nil) ?_
    clear ha a; intro a w1 ha he
    replace hx := hx.tr he
    clear he
    refine tn ?_
    refine wret ?_
    refine (tr ?_)
    refine fin ha (.tmp rfl .nil) ?_
    exact ⟨congrArg Value.bool (by simp), hx⟩
  · simp only [Bool.not_eq_true', Bool.not_eq_false', Bool.and_eq_true, Bool.or_eq_true, Bool.and_eq_false_iff, Bool.or_eq_false_iff, decide_eq_true_eq, decide_eq_false_iff_not, Bool.not_eq_true, Decidable.not_not] at h15
    refine wskip ?_
    refine tn ?_
    refine wseq ?_
    refine reg hmix (ρ' := [(0, .string (S s)), (1, .int .i64 m), (5, .string (S ((lzUnpack s m).1))), (6, .int .i64 (((lzUnpack s m).2 : Nat) : Int))]) (C := [CallOk Try.prog w 9 #[.string (S s), .int .i64 m] (.tuple #[.string (S ((lzUnpack s m).1)), .int .i64 (((lzUnpack s m).2 : Nat) : Int)])]) ha [(2, .val (.tuple #[.string (S ((lzUnpack s m).1)), .int .i64 (((lzUnpack s m).2 : Nat) : Int)]))] (by kernel_rfl) (.cons (fun w _ => unpack_ok _ _ w (by first | omega | decide) (by omega)) .nil) ?_
    clear ha a; intro a w2 ha he
    replace hx := hx.tr he
    clear he
    refine tn ?_
    refine wseq ?_
    refine reg hmix (ρ' := [(5, .string (S ((lzUnpack s m).1))), (6, .int .i64 (((lzUnpack s m).2 : Nat) : Int)), (7, .string (S ((lzUnpack s m).1))), (8, .int .i64 (((lzUnpack s m).2 : Nat) : Int))]) (C := [CallOk Try.prog w2 10 #[.string (S s), .int .i64 m] (.tuple #[.string (S ((lzUnpack s m).1)), .int .i64 (((lzUnpack s m).2 : Nat) : Int)])]) ha [(2, .val (.tuple #[.string (S ((lzUnpack s m).1)), .int .i64 (((lzUnpack s m).2 : Nat) : Int)]))] (by kernel_rfl) (.cons (fun w _ => runpack_ok _ _ w (by first | omega | decide) (by omega)) .nil) ?_
    clear ha a; intro a w3 ha he
    replace hx := hx.tr he
    clear he
    refine tn ?_
    refine wseq ?_
    refine reg hmix (ρ' := [(4, .bool ((true && (decide (((lzUnpack s m).1 : List UInt8) = ((lzUnpack s m).1 : List UInt8)))) && (decide ((((lzUnpack s m).2 : Nat) : Int) = (((lzUnpack s m).2 : Nat) : Int)))))]) (C := [CallOk Try.prog w3 8 #[] (.bool true)]) ha [(0, .val (.bool true))] (by kernel_rfl) (.cons (fun w _ => knows5_ok w) .nil) ?_
    clear ha a; intro a w4 ha he
    replace hx := hx.tr he
    clear he
    refine tn ?_
    refine wret ?_
    refine fin ha (.tmp rfl .nil) ?_
    exact ⟨congrArg Value.bool (by simp), hx⟩
end Go.Kn
