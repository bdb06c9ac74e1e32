import Derived.Test.YtgimiamcigdgjaaDoorCt04
import Derived.Test.YtgimiamcigdgjaaDoorCt02
import Derived.Shelf.Slices.Turned
import Derived.Shelf.GgClosure.StringsRunes
import Derived.Shelf.SlicesE.DeleteFunc
import Derived.Laws.RangeAny
import Derived.Laws.RangeString
import Derived.Lib.OwnBridge
import Derived.Shelf.Strings.Split
import Derived.Lib.SplitLaws
section
set_option linter.unusedSimpArgs false
set_option linter.unusedVariables false
set_option maxRecDepth 100000
namespace Go.Kn
open Go.Proofs
theorem rget_ok (l : List UInt8) (w : World) (hl : l.length ≤ 9223372036854775807) :
    Fn Tryd.prog 41 #[.string (S l)] w (fun x w' => x = .tuple #[.int .u64 (((vget l).1 : Nat) : Int), .int .i64 ((vk l : Nat) : Int)] ∧ Ext w w') := by
  have hx : Ext w w := Ext.rfl' w
  refine enter (N := 64) (args := [.string (S l)]) Tryd.func41 rfl rfl rfl ?_
  intro a ha
  simp only [argEnv, Nat.zero_add, Nat.reduceAdd] at ha
  refine wseq ?_
  refine regp (ρ' := [(0, .string (S l))]) (C := []) ha [] (by kernel_rfl) .nil ?_
  clear ha a; intro a ha
  refine tn ?_
  refine wseq ?_
  refine regp (ρ' := [(0, .string (S l)), (4, .int .i64 0)]) (C := []) ha [] (by kernel_rfl) .nil ?_
  clear ha a; intro a ha
  refine tn ?_
  refine wseq ?_
  refine wblk ?_
  refine wloop (fun zz a w1 => ∃ (k : Nat), zz = 10 - k ∧ On 64 [(0, .string (S l)), (4, .int .i64 ((k : Nat) : Int))] a ∧ Ext w w1 ∧ (k ≤ l.length) ∧ (k ≤ 10) ∧ (vget l = vgo (l.drop k) k (sumv l k))) _ ⟨0, rfl, ha.sub (ρ' := [(0, .string (S l)), (4, .int .i64 ((0 : Nat) : Int))]) (by kernel_rfl), hx, by omega, by omega, rfl⟩ ?_
  clear ha hx
  rintro zz a w2 ⟨k, hzz, ha, hx, hk, hk10, hv⟩
  refine wseq ?_
  refine wseq ?_
  refine regp (ρ' := [(0, .string (S l)), (4, .int .i64 ((k : Nat) : Int)), (20, .bool (((decide (((k : Nat) : Int) < ((l.length : Nat) : Int))) && (decide (((k : Nat) : Int) < 10))) && (decide ((128 : Int) ≤ (((l.getD k 0).toNat : Nat) : Int)))))]) (C := [((decide (((k : Nat) : Int) < ((l.length : Nat) : Int))) && (decide (((k : Nat) : Int) < 10))) = true → All [0 ≤ ((k : Nat) : Int) ∧ ((k : Nat) : Int) < (l.length : Int)]]) ha [] (by kernel_rfl) (.cons (fun hg9 => by simp only [Bool.not_eq_true', Bool.not_eq_false', Bool.and_eq_true, Bool.or_eq_true, Bool.and_eq_false_iff, Bool.or_eq_false_iff, decide_eq_true_eq, decide_eq_false_iff_not, Bool.not_eq_true, Decidable.not_not] at hg9; exact (.cons ⟨by omega, by omega⟩ .nil)) .nil) ?_
  clear ha a; intro a ha
  refine tn ?_
  refine wif ha rfl (fun h20 => ?_) (fun h20 => ?_)
  · simp only [Bool.not_eq_true', Bool.not_eq_false', Bool.and_eq_true, Bool.or_eq_true, Bool.and_eq_false_iff, Bool.or_eq_false_iff, decide_eq_true_eq, decide_eq_false_iff_not, Bool.not_eq_true, Decidable.not_not] at h20
    refine wskip ?_
    refine tn ?_
    refine wblk ?_
    refine regp (ρ' := [(0, .string (S l)), (4, .int .i64 ((k + 1 : Nat) : Int))]) (C := [InR .i64 ((k + 1 : Nat) : Int)]) ha [] (by kernel_rfl) (.cons (by unfold InR; omega) .nil) ?_
    clear ha a; intro a ha
    refine bn ?_
    exact tn ⟨10 - ((k + 1)), by omega, (k + 1), rfl, ha.sub (ρ' := [(0, .string (S l)), (4, .int .i64 (((k + 1) : Nat) : Int))]) (by kernel_rfl), hx, by omega, by omega, by rw [hv, vstep (by omega) (by omega) (by omega)]; rfl⟩
  · simp only [Bool.not_eq_true', Bool.not_eq_false', Bool.and_eq_true, Bool.or_eq_true, Bool.and_eq_false_iff, Bool.or_eq_false_iff, decide_eq_true_eq, decide_eq_false_iff_not, Bool.not_eq_true, Decidable.not_not] at h20
    refine wexit ?_
    refine (te (te (be ?_)))
    refine tn ?_
    refine wseq ?_
    refine wseq ?_
    refine regp (ρ' := [(0, .string (S l)), (4, .int .i64 ((k : Nat) : Int)), (30, .bool ((decide (((l.length : Nat) : Int) ≤ ((k : Nat) : Int))) || (decide ((10 : Int) ≤ ((k : Nat) : Int)))))]) (C := []) ha [] (by kernel_rfl) .nil ?_
    clear ha a; intro a ha
    refine tn ?_
    refine wif ha rfl (fun h30 => ?_) (fun h30 => ?_)
    · simp only [Bool.not_eq_true', Bool.not_eq_false', Bool.and_eq_true, Bool.or_eq_true, Bool.and_eq_false_iff, Bool.or_eq_false_iff, decide_eq_true_eq, decide_eq_false_iff_not, Bool.not_eq_true, Decidable.not_not] at h30
      have hz : vget l = (0, [], 2) := by rw [hv, vstop (by omega)]
      refine wseq ?_
      refine regp (ρ' := [(2, .int .u64 0), (3, .int .i64 0)]) (C := []) ha [] (by kernel_rfl) .nil ?_
      clear ha a; intro a ha
      refine tn ?_
      refine wret ?_
      refine (tr ?_)
      refine fin ha (.tmp rfl (.tmp rfl .nil)) ?_
      exact ⟨by rw [hz, show vk l = 0 from (vk_zero l).2 (by rw [hz]; decide)]; rfl, hx⟩
    · simp only [Bool.not_eq_true', Bool.not_eq_false', Bool.and_eq_true, Bool.or_eq_true, Bool.and_eq_false_iff, Bool.or_eq_false_iff, decide_eq_true_eq, decide_eq_false_iff_not, Bool.not_eq_true, Decidable.not_not] at h30
      have h9 : k ≠ 9 ∨ (l.getD 9 0).toNat = (l.getD k 0).toNat := (Decidable.em (k = 9)).elim (fun h => .inr (by rw [h])) .inl
      have h128 : (l.getD k 0).toNat < 128 := by omega
      rw [vend (by omega) (by omega) h128] at hv
      refine wskip ?_
      refine tn ?_
      refine wseq ?_
      refine wseq ?_
      refine regp (ρ' := [(0, .string (S l)), (4, .int .i64 ((k : Nat) : Int)), (47, .bool (((decide (((k : Nat) : Int) = 9)) && (decide ((1 : Int) < (((l.getD 9 0).toNat : Nat) : Int)))) || ((decide ((0 : Int) < ((k : Nat) : Int))) && (decide ((((l.getD k 0).toNat : Nat) : Int) = 0)))))]) (C := [(decide (((k : Nat) : Int) = 9)) = true → All [0 ≤ (9 : Int) ∧ 9 < (l.length : Int)], ((decide (((k : Nat) : Int) = 9)) && (decide ((1 : Int) < (((l.getD 9 0).toNat : Nat) : Int)))) = false → All [(decide ((0 : Int) < ((k : Nat) : Int))) = true → All [0 ≤ ((k : Nat) : Int) ∧ ((k : Nat) : Int) < (l.length : Int)]]]) ha [] (by kernel_rfl) (.cons (fun hg3 => by replace hg3 := of_decide_eq_true hg3; exact (.cons ⟨by omega, by omega⟩ .nil)) (.cons (fun hg8 => by simp only [Bool.not_eq_true', Bool.not_eq_false', Bool.and_eq_true, Bool.or_eq_true, Bool.and_eq_false_iff, Bool.or_eq_false_iff, decide_eq_true_eq, decide_eq_false_iff_not, Bool.not_eq_true, Decidable.not_not] at hg8; exact (.cons (fun hg11 => by replace hg11 := of_decide_eq_true hg11; exact (.cons ⟨by omega, by omega⟩ .nil)) .nil)) .nil)) ?_
      clear ha a; intro a ha
      refine tn ?_
      refine wif ha rfl (fun h47 => ?_) (fun h47 => ?_)
      · simp only [Bool.not_eq_true', Bool.not_eq_false', Bool.and_eq_true, Bool.or_eq_true, Bool.and_eq_false_iff, Bool.or_eq_false_iff, decide_eq_true_eq, decide_eq_false_iff_not, Bool.not_eq_true, Decidable.not_not] at h47
        have hz : vget l = (0, [], 2) := by rw [hv, if_pos (by omega)]
        refine wseq ?_
        refine regp (ρ' := [(2, .int .u64 0), (3, .int .i64 0)]) (C := []) ha [] (by kernel_rfl) .nil ?_
        clear ha a; intro a ha
        refine tn ?_
        refine wret ?_
        refine (tr ?_)
        refine fin ha (.tmp rfl (.tmp rfl .nil)) ?_
        exact ⟨by rw [hz, show vk l = 0 from (vk_zero l).2 (by rw [hz]; decide)]; rfl, hx⟩
      · simp only [Bool.not_eq_true', Bool.not_eq_false', Bool.and_eq_true, Bool.or_eq_true, Bool.and_eq_false_iff, Bool.or_eq_false_iff, decide_eq_true_eq, decide_eq_false_iff_not, Bool.not_eq_true, Decidable.not_not] at h47
        have hv2 : vget l = (sumv l (k + 1), l.drop (k + 1), 0) := by rw [hv, if_neg (by omega)]; rfl
        have hlt : sumv l (k + 1) < 18446744073709551616 := by have := vget_lt l; rw [hv2] at this; exact this
        clear hv
        refine wskip ?_
        refine tn ?_
        refine wseq ?_
        refine regp (ρ' := [(0, .string (S l)), (4, .int .i64 ((k : Nat) : Int)), (5, .int .u64 0)]) (C := []) ha [] (by kernel_rfl) .nil ?_
        clear ha a; intro a ha
        refine tn ?_
        refine wseq ?_
        refine wseq ?_
        refine regp (ρ' := [(0, .string (S l)), (4, .int .i64 ((k : Nat) : Int)), (5, .int .u64 0), (6, .int .i64 ((k : Nat) : Int))]) (C := []) ha [] (by kernel_rfl) .nil ?_
        clear ha a; intro a ha
        refine tn ?_
        refine wblk ?_
        refine wloop (fun zz a w3 => ∃ (i n : Nat) (z : Int), zz = i ∧ On 64 [(0, .string (S l)), (4, .int .i64 ((k : Nat) : Int)), (5, .int .u64 ((n : Nat) : Int)), (6, .int .i64 z)] a ∧ Ext w w3 ∧ (z = (i : Int) - 1) ∧ (i ≤ k + 1) ∧ (sumv l (k + 1) = n * 2 ^ (7 * i) + sumv l i)) _ ⟨(k + 1), 0, ((k : Nat) : Int), rfl, ha.sub (ρ' := [(0, .string (S l)), (4, .int .i64 ((k : Nat) : Int)), (5, .int .u64 ((0 : Nat) : Int)), (6, .int .i64 ((k : Nat) : Int))]) (by kernel_rfl), hx, by omega, by omega, by simp⟩ ?_
        clear ha hx
        rintro zz a w4 ⟨i, n, z, hzz, ha, hx, hzi, hkq, hsum⟩
        refine wseq ?_
        refine wseq ?_
        refine regp (ρ' := [(0, .string (S l)), (4, .int .i64 ((k : Nat) : Int)), (5, .int .u64 ((n : Nat) : Int)), (6, .int .i64 z), (50, .bool (decide ((0 : Int) ≤ z)))]) (C := []) ha [] (by kernel_rfl) .nil ?_
        clear ha a; intro a ha
        refine tn ?_
        refine wif ha rfl (fun h50 => ?_) (fun h50 => ?_)
        · replace h50 := of_decide_eq_true h50
          obtain ⟨j, rfl⟩ : ∃ j, i = j + 1 := ⟨i - 1, by omega⟩
          obtain rfl : z = ((j : Nat) : Int) := by omega
          rw [sum_step] at hsum
          have hcb := getD_toNat_lt l j
          have hle := sum_le hsum
          refine wskip ?_
          refine tn ?_
          refine wseq ?_
          refine wblk ?_
          refine regp (ρ' := [(0, .string (S l)), (4, .int .i64 ((k : Nat) : Int)), (5, .int .u64 (((128 * n) + (((l.getD j 0).toNat) % 128) : Nat) : Int)), (6, .int .i64 ((j : Nat) : Int))]) (C := [InR .u64 ((128 * n : Nat) : Int), 0 ≤ ((j : Nat) : Int) ∧ ((j : Nat) : Int) < (l.length : Int), 0 ≤ (((l.getD j 0).toNat : Nat) : Int), 0 < (128 : Int), InR .u64 ((((l.getD j 0).toNat) % 128 : Nat) : Int), InR .u64 (((128 * n) + (((l.getD j 0).toNat) % 128) : Nat) : Int)]) ha [] (by kernel_rfl) (.cons (by unfold InR; omega) (.cons ⟨by omega, by omega⟩ (.cons (by omega) (.cons (by omega) (.cons (by unfold InR; omega) (.cons (by unfold InR; omega) .nil)))))) ?_
          clear ha a; intro a ha
          refine bn ?_
          refine tn ?_
          refine regp (ρ' := [(0, .string (S l)), (4, .int .i64 ((k : Nat) : Int)), (5, .int .u64 (((128 * n) + (((l.getD j 0).toNat) % 128) : Nat) : Int)), (6, .int .i64 (((j : Nat) : Int) - 1))]) (C := [InR .i64 (((j : Nat) : Int) - 1)]) ha [] (by kernel_rfl) (.cons (by unfold InR; omega) .nil) ?_
          clear ha a; intro a ha
          exact tn ⟨(j), by omega, j, (128 * n + (l.getD j 0).toNat % 128), (((j : Nat) : Int) - 1), rfl, ha.sub (ρ' := [(0, .string (S l)), (4, .int .i64 ((k : Nat) : Int)), (5, .int .u64 (((128 * n + (l.getD j 0).toNat % 128) : Nat) : Int)), (6, .int .i64 (((j : Nat) : Int) - 1))]) (by kernel_rfl), hx, by omega, by omega, hsum⟩
        · replace h50 := of_decide_eq_false h50
          obtain rfl : i = 0 := by omega
          simp only [Nat.mul_zero, Nat.pow_zero, Nat.mul_one, sumv, Nat.add_zero] at hsum
          refine wexit ?_
          refine (te (te (be ?_)))
          refine tn ?_
          refine wseq ?_
          refine regp (ρ' := [(2, .int .u64 ((n : Nat) : Int)), (3, .int .i64 ((k + 1 : Nat) : Int))]) (C := [InR .i64 ((k + 1 : Nat) : Int)]) ha [] (by kernel_rfl) (.cons (by unfold InR; omega) .nil) ?_
          clear ha a; intro a ha
          refine tn ?_
          refine wret ?_
          refine fin ha (.tmp rfl (.tmp rfl .nil)) ?_
          refine ⟨?_, hx⟩
          rw [hv2, ← hsum, show vk l = k + 1 from by unfold vk; rw [hv2]; simp; omega]; rfl
set_option maxHeartbeats 1000000 in
theorem runpack_ok (s : List UInt8) (m : Int) (w : World) (hs : s.length ≤ 9223372036854775807) (hm : m ≤ 1000000000) :
    Fn Tryd.prog 63 #[.string (S s), .int .i64 m] w (fun x w' => x = .tuple #[.string (S ((lzUnpack s m).1)), .int .i64 (((lzUnpack s m).2 : Nat) : Int)] ∧ Ext w w') := by
  have hx : Ext w w := Ext.rfl' w
  refine enter (N := 140) (args := [.string (S s), .int .i64 m]) Tryd.func63 rfl rfl rfl ?_
  intro a ha
  simp only [argEnv, Nat.zero_add, Nat.reduceAdd] at ha
  refine wseq ?_
  refine regp (ρ' := [(0, .string (S s)), (1, .int .i64 m)]) (C := []) ha [] (by kernel_rfl) .nil ?_
  clear ha a; intro a ha
  refine tn ?_
  refine wseq ?_
  refine wseq ?_
  refine regp (ρ' := [(0, .string (S s)), (1, .int .i64 m), (17, .bool (decide ((m : Int) < 0)))]) (C := []) ha [] (by kernel_rfl) .nil ?_
  clear ha a; intro a ha
  refine tn ?_
  refine wif ha rfl (fun h17 => ?_) (fun h17 => ?_)
  · replace h17 := of_decide_eq_true h17
    have hres : lzUnpack s m = ([], 1) := by unfold lzUnpack; rw [if_pos h17]
    refine wseq ?_
    refine regp (ρ' := [(4, .string (S [])), (5, .int .i64 1)]) (C := []) ha [] (by kernel_rfl) .nil ?_
    clear ha a; intro a ha
    refine tn ?_
    refine wret ?_
    refine (tr ?_)
    refine fin ha (.tmp rfl (.tmp rfl .nil)) ?_
    exact ⟨by rw [hres]; rfl, hx⟩
  · replace h17 := of_decide_eq_false h17
    obtain ⟨M, rfl⟩ := Int.eq_ofNat_of_zero_le (by omega : 0 ≤ m)
    refine wskip ?_
    refine tn ?_
    refine wseq ?_
    refine wseq ?_
    refine regp (ρ' := [(0, .string (S s)), (1, .int .i64 ((M : Nat) : Int)), (19, .bool (decide ((s : List UInt8) = ([] : List UInt8))))]) (C := []) ha [] (by kernel_rfl) .nil ?_
    clear ha a; intro a ha
    refine tn ?_
    refine wif ha rfl (fun h19 => ?_) (fun h19 => ?_)
    · replace h19 := of_decide_eq_true h19
      have hres : lzUnpack s (M : Int) = ([], 2) := by unfold lzUnpack; rw [if_neg (by omega), if_pos (.inl h19)]
      refine wseq ?_
      refine regp (ρ' := [(4, .string (S [])), (5, .int .i64 2)]) (C := []) ha [] (by kernel_rfl) .nil ?_
      clear ha a; intro a ha
      refine tn ?_
      refine wret ?_
      refine (tr ?_)
      refine fin ha (.tmp rfl (.tmp rfl .nil)) ?_
      exact ⟨by rw [hres]; rfl, hx⟩
    · replace h19 := of_decide_eq_false h19
      have hs0 : 0 < s.length := List.length_pos_iff.2 h19
      refine wskip ?_
      refine tn ?_
      refine wseq ?_
      refine wseq ?_
      refine regp (ρ' := [(0, .string (S s)), (1, .int .i64 ((M : Nat) : Int)), (22, .bool (decide ((1 : Int) < (((s.getD 0 0).toNat : Nat) : Int))))]) (C := [0 ≤ (0 : Int) ∧ 0 < (s.length : Int)]) ha [] (by kernel_rfl) (.cons ⟨by omega, by omega⟩ .nil) ?_
      clear ha a; intro a ha
      refine tn ?_
      refine wif ha rfl (fun h22 => ?_) (fun h22 => ?_)
      · replace h22 := of_decide_eq_true h22
        have hres : lzUnpack s (M : Int) = ([], 2) := by unfold lzUnpack; rw [if_neg (by omega), if_pos (.inr (by omega))]
        refine wseq ?_
        refine regp (ρ' := [(4, .string (S [])), (5, .int .i64 2)]) (C := []) ha [] (by kernel_rfl) .nil ?_
        clear ha a; intro a ha
        refine tn ?_
        refine wret ?_
        refine (tr ?_)
        refine fin ha (.tmp rfl (.tmp rfl .nil)) ?_
        exact ⟨by rw [hres]; rfl, hx⟩
      · replace h22 := of_decide_eq_false h22
        have hne : ¬ (s = [] ∨ 1 < (s.getD 0 0).toNat) := fun h => h.elim (fun h => h19 h) (fun h => h22 (by omega))
        refine wskip ?_
        refine tn ?_
        refine wseq ?_
        refine wseq ?_
        refine regp (ρ' := [(0, .string (S s)), (1, .int .i64 ((M : Nat) : Int)), (25, .bool (decide ((((s.getD 0 0).toNat : Nat) : Int) = 0)))]) (C := [0 ≤ (0 : Int) ∧ 0 < (s.length : Int)]) ha [] (by kernel_rfl) (.cons ⟨by omega, by omega⟩ .nil) ?_
        clear ha a; intro a ha
        refine tn ?_
        refine wif ha rfl (fun h25 => ?_) (fun h25 => ?_)
        · replace h25 := of_decide_eq_true h25
          refine wseq ?_
          refine wseq ?_
          refine regp (ρ' := [(0, .string (S s)), (30, .bool (decide (((M : Nat) : Int) < (((s.length : Nat) : Int) - 1))))]) (C := [InR .i64 (((s.length : Nat) : Int) - 1)]) ha [] (by kernel_rfl) (.cons (by unfold InR; omega) .nil) ?_
          clear ha a; intro a ha
          refine tn ?_
          refine wif ha rfl (fun h30 => ?_) (fun h30 => ?_)
          · replace h30 := of_decide_eq_true h30
            have hres : lzUnpack s (M : Int) = ([], 3) := by unfold lzUnpack; rw [if_neg (by omega), if_neg hne, if_pos (by omega), if_pos (by omega)]
            refine wseq ?_
            refine regp (ρ' := [(4, .string (S [])), (5, .int .i64 3)]) (C := []) ha [] (by kernel_rfl) .nil ?_
            clear ha a; intro a ha
            refine tn ?_
            refine wret ?_
            refine (tr (tr ?_))
            refine fin ha (.tmp rfl (.tmp rfl .nil)) ?_
            exact ⟨by rw [hres]; rfl, hx⟩
          · replace h30 := of_decide_eq_false h30
            have hres : lzUnpack s (M : Int) = (s.drop 1, 0) := by unfold lzUnpack; rw [if_neg (by omega), if_neg hne, if_pos (by omega), if_neg (by omega)]
            refine wskip ?_
            refine tn ?_
            refine wseq ?_
            refine regp (ρ' := [(4, .string (S (s.drop 1))), (5, .int .i64 0)]) (C := [0 ≤ (1 : Int) ∧ 1 ≤ (s.length : Int)]) ha [] (by kernel_rfl) (.cons ⟨by omega, by omega⟩ .nil) ?_
            clear ha a; intro a ha
            refine tn ?_
            refine wret ?_
            refine (tr ?_)
            refine fin ha (.tmp rfl (.tmp rfl .nil)) ?_
            exact ⟨by rw [hres]; rfl, hx⟩
        · replace h25 := of_decide_eq_false h25
          have hgo : lzUnpack s (M : Int) = lzun M (s.length + 1) (s.drop 1) [] := by unfold lzUnpack; rw [if_neg (by omega), if_neg hne, if_neg (by omega)]; rfl
          refine wskip ?_
          refine tn ?_
          refine wseq ?_
          refine regp (ρ' := [(0, .string (S s)), (1, .int .i64 ((M : Nat) : Int)), (6, .slice none 0 0)]) (C := []) ha [] (by kernel_rfl) .nil ?_
          clear ha a; intro a ha
          refine tn ?_
          refine wseq ?_
          refine regp (ρ' := [(0, .string (S s)), (1, .int .i64 ((M : Nat) : Int)), (6, .slice none 0 0), (7, .int .i64 1)]) (C := []) ha [] (by kernel_rfl) .nil ?_
          clear ha a; intro a ha
          refine tn ?_
          refine wseq ?_
          refine wblk ?_
          refine wloop (fun zz a w1 => ∃ (f p : Nat) (out : List UInt8) (A : Option Addr) (c : Nat), zz = f ∧ On 140 [(0, .string (S s)), (1, .int .i64 ((M : Nat) : Int)), (6, .slice A out.length c), (7, .int .i64 ((p : Nat) : Int))] a ∧ Ext w w1 ∧ Own w1 w.heap.size 5 1 A out.length c (bys out) ∧ (s.length - p < f) ∧ (p ≤ s.length) ∧ (out.length ≤ M) ∧ (lzUnpack s (M : Int) = lzun M f (s.drop p) out)) _ ⟨(s.length + 1), 1, ([] : List UInt8), none, 0, rfl, ha.sub (ρ' := [(0, .string (S s)), (1, .int .i64 ((M : Nat) : Int)), (6, .slice none (([] : List UInt8).length) 0), (7, .int .i64 ((1 : Nat) : Int))]) (by kernel_rfl), hx, own_nil _ _ _ _, by omega, by omega, by simp, hgo⟩ ?_
          clear ha hx
          rintro zz a w2 ⟨f, p, out, A, c, hzz, ha, hx, ho, hf, hp, hlen, hgo⟩
          obtain ⟨f, rfl⟩ : ∃ f', f = f' + 1 := ⟨f - 1, by omega⟩
          refine wseq ?_
          refine wseq ?_
          refine regp (ρ' := [(0, .string (S s)), (1, .int .i64 ((M : Nat) : Int)), (6, .slice A out.length c), (7, .int .i64 ((p : Nat) : Int)), (36, .bool (decide (((p : Nat) : Int) < ((s.length : Nat) : Int))))]) (C := []) ha [] (by kernel_rfl) .nil ?_
          clear ha a; intro a ha
          refine tn ?_
          refine wif ha rfl (fun h36 => ?_) (fun h36 => ?_)
          · replace h36 := of_decide_eq_true h36
            have hne2 : s.drop p ≠ [] := fun h => by have := congrArg List.length h; simp at this; omega
            rw [lzun, if_neg hne2] at hgo
            have hvl := vk_le (s.drop p)
            simp only [List.length_drop] at hvl
            have hg1 := vget_lt (s.drop p)
            refine wskip ?_
            refine tn ?_
            refine wblk ?_
            refine wseq ?_
            refine reg hmix (ρ' := [(0, .string (S s)), (1, .int .i64 ((M : Nat) : Int)), (6, .slice A out.length c), (7, .int .i64 ((p : Nat) : Int)), (8, .int .u64 (((vget (s.drop p)).1 : Nat) : Int)), (9, .int .i64 ((vk (s.drop p) : Nat) : Int))]) (C := [0 ≤ ((p : Nat) : Int) ∧ ((p : Nat) : Int) ≤ (s.length : Int), CallOk Tryd.prog w2 41 #[.string (S (s.drop p))] (.tuple #[.int .u64 (((vget (s.drop p)).1 : Nat) : Int), .int .i64 ((vk (s.drop p) : Nat) : Int)])]) ha [(3, .val (.tuple #[.int .u64 (((vget (s.drop p)).1 : Nat) : Int), .int .i64 ((vk (s.drop p) : Nat) : Int)]))] (by kernel_rfl) (.cons ⟨by omega, by omega⟩ (.cons (fun w _ => rget_ok _ w (by first | omega | (simp only [List.length_drop]; omega))) .nil)) ?_
            clear ha a; intro a w3 ha he
            replace hx := hx.tr he
            replace ho := ownE he ho
            clear he
            refine tn ?_
            refine wseq ?_
            refine wseq ?_
            refine regp (ρ' := [(0, .string (S s)), (1, .int .i64 ((M : Nat) : Int)), (6, .slice A out.length c), (7, .int .i64 ((p : Nat) : Int)), (8, .int .u64 (((vget (s.drop p)).1 : Nat) : Int)), (9, .int .i64 ((vk (s.drop p) : Nat) : Int)), (45, .bool (decide (((vk (s.drop p) : Nat) : Int) = 0)))]) (C := []) ha [] (by kernel_rfl) .nil ?_
            clear ha a; intro a ha
            refine tn ?_
            refine wif ha rfl (fun h45 => ?_) (fun h45 => ?_)
            · replace h45 := of_decide_eq_true h45
              have hres : lzUnpack s (M : Int) = ([], 2) := by rw [hgo, show (lzread (s.drop p) out.length) = (0, 0, [], 2) from by unfold lzread; rw [if_pos ((vk_zero _).1 (by omega))]]; rfl
              refine wseq ?_
              refine regp (ρ' := [(4, .string (S [])), (5, .int .i64 2)]) (C := []) ha [] (by kernel_rfl) .nil ?_
              clear ha a; intro a ha
              refine tn ?_
              refine wret ?_
              refine (tr (br (tr (br (tr ?_)))))
              refine fin ha (.tmp rfl (.tmp rfl .nil)) ?_
              exact ⟨by rw [hres]; rfl, hx⟩
            · replace h45 := of_decide_eq_false h45
              have he : (vget (s.drop p)).2.2 = 0 := Decidable.of_not_not fun h => h45 (by rw [(vk_zero _).2 h]; rfl)
              have hvd := vget_drop _ he
              have hdd : s.drop (p + vk (s.drop p)) = (vget (s.drop p)).2.1 := by rw [hvd.1, List.drop_drop]
              refine wskip ?_
              refine tn ?_
              refine wseq ?_
              refine regp (ρ' := [(0, .string (S s)), (1, .int .i64 ((M : Nat) : Int)), (6, .slice A out.length c), (7, .int .i64 ((p + (vk (s.drop p)) : Nat) : Int)), (8, .int .u64 (((vget (s.drop p)).1 : Nat) : Int))]) (C := [InR .i64 ((p + (vk (s.drop p)) : Nat) : Int)]) ha [] (by kernel_rfl) (.cons (by unfold InR; omega) .nil) ?_
              clear ha a; intro a ha
              refine tn ?_
              refine wseq ?_
              refine regp (ρ' := [(0, .string (S s)), (1, .int .i64 ((M : Nat) : Int)), (6, .slice A out.length c), (7, .int .i64 ((p + (vk (s.drop p)) : Nat) : Int)), (8, .int .u64 (((vget (s.drop p)).1 : Nat) : Int)), (10, .int .u64 ((((vget (s.drop p)).1) / 2 : Nat) : Int))]) (C := [0 ≤ (((vget (s.drop p)).1 : Nat) : Int), 0 < (2 : Int), InR .u64 ((((vget (s.drop p)).1) / 2 : Nat) : Int)]) ha [] (by kernel_rfl) (.cons (by omega) (.cons (by omega) (.cons (by unfold InR; omega) .nil))) ?_
              clear ha a; intro a ha
              refine tn ?_
              refine wseq ?_
              refine regp (ρ' := [(0, .string (S s)), (1, .int .i64 ((M : Nat) : Int)), (6, .slice A out.length c), (7, .int .i64 ((p + (vk (s.drop p)) : Nat) : Int)), (8, .int .u64 (((vget (s.drop p)).1 : Nat) : Int)), (10, .int .u64 ((((vget (s.drop p)).1) / 2 : Nat) : Int)), (11, .int .u64 0)]) (C := []) ha [] (by kernel_rfl) .nil ?_
              clear ha a; intro a ha
              refine tn ?_
              refine wcut (fun a w4 => ∃ (q far many : Nat), On 140 [(0, .string (S s)), (1, .int .i64 ((M : Nat) : Int)), (6, .slice A out.length c), (7, .int .i64 ((q : Nat) : Int)), (10, .int .u64 ((many : Nat) : Int)), (11, .int .u64 ((far : Nat) : Int))] a ∧ Ext w w4 ∧ Own w4 w.heap.size 5 1 A out.length c (bys out) ∧ (lzread (s.drop p) out.length = (many, far, s.drop q, 0)) ∧ (p < q ∧ q ≤ s.length) ∧ (many < 18446744073709551616 ∧ far ≤ out.length ∧ (far = 0 → many ≤ s.length - q))) ?_ ?_
              ·
                refine wseq ?_
                refine regp (ρ' := [(0, .string (S s)), (1, .int .i64 ((M : Nat) : Int)), (6, .slice A out.length c), (7, .int .i64 ((p + (vk (s.drop p)) : Nat) : Int)), (10, .int .u64 ((((vget (s.drop p)).1) / 2 : Nat) : Int)), (11, .int .u64 0), (53, .bool (decide (((((vget (s.drop p)).1) % 2 : Nat) : Int) = 1)))]) (C := [0 ≤ (((vget (s.drop p)).1 : Nat) : Int), 0 < (2 : Int)]) ha [] (by kernel_rfl) (.cons (by omega) (.cons (by omega) .nil)) ?_
                clear ha a; intro a ha
                refine tn ?_
                refine wif ha rfl (fun h53 => ?_) (fun h53 => ?_)
                · replace h53 := of_decide_eq_true h53
                  have hvl2 := vk_le (s.drop (p + vk (s.drop p)))
                  simp only [List.length_drop] at hvl2
                  have hg2 := vget_lt (s.drop (p + vk (s.drop p)))
                  refine wseq ?_
                  refine reg hmix (ρ' := [(0, .string (S s)), (1, .int .i64 ((M : Nat) : Int)), (6, .slice A out.length c), (7, .int .i64 ((p + (vk (s.drop p)) : Nat) : Int)), (10, .int .u64 ((((vget (s.drop p)).1) / 2 : Nat) : Int)), (12, .int .u64 (((vget (s.drop (p + (vk (s.drop p))))).1 : Nat) : Int)), (13, .int .i64 ((vk (s.drop (p + (vk (s.drop p)))) : Nat) : Int))]) (C := [0 ≤ ((p + (vk (s.drop p)) : Nat) : Int) ∧ ((p + (vk (s.drop p)) : Nat) : Int) ≤ (s.length : Int), CallOk Tryd.prog w3 41 #[.string (S (s.drop (p + (vk (s.drop p)))))] (.tuple #[.int .u64 (((vget (s.drop (p + (vk (s.drop p))))).1 : Nat) : Int), .int .i64 ((vk (s.drop (p + (vk (s.drop p)))) : Nat) : Int)])]) ha [(3, .val (.tuple #[.int .u64 (((vget (s.drop (p + (vk (s.drop p))))).1 : Nat) : Int), .int .i64 ((vk (s.drop (p + (vk (s.drop p)))) : Nat) : Int)]))] (by kernel_rfl) (.cons ⟨by omega, by omega⟩ (.cons (fun w _ => rget_ok _ w (by first | omega | (simp only [List.length_drop]; omega))) .nil)) ?_
                  clear ha a; intro a w5 ha he
                  replace hx := hx.tr he
                  replace ho := ownE he ho
                  clear he
                  refine tn ?_
                  refine wseq ?_
                  refine wseq ?_
                  refine regp (ρ' := [(0, .string (S s)), (1, .int .i64 ((M : Nat) : Int)), (6, .slice A out.length c), (7, .int .i64 ((p + (vk (s.drop p)) : Nat) : Int)), (10, .int .u64 ((((vget (s.drop p)).1) / 2 : Nat) : Int)), (12, .int .u64 (((vget (s.drop (p + (vk (s.drop p))))).1 : Nat) : Int)), (13, .int .i64 ((vk (s.drop (p + (vk (s.drop p)))) : Nat) : Int)), (81, .bool (((((decide (((vk (s.drop (p + (vk (s.drop p)))) : Nat) : Int) = 0)) || (decide (((((vget (s.drop p)).1) / 2 : Nat) : Int) < 4))) || (decide ((((vget (s.drop (p + (vk (s.drop p))))).1 : Nat) : Int) < 1))) || (decide ((65535 : Int) < (((vget (s.drop (p + (vk (s.drop p))))).1 : Nat) : Int)))) || (decide (((out.length : Nat) : Int) < (((vget (s.drop (p + (vk (s.drop p))))).1 : Nat) : Int)))))]) (C := [((((decide (((vk (s.drop (p + (vk (s.drop p)))) : Nat) : Int) = 0)) || (decide (((((vget (s.drop p)).1) / 2 : Nat) : Int) < 4))) || (decide ((((vget (s.drop (p + (vk (s.drop p))))).1 : Nat) : Int) < 1))) || (decide ((65535 : Int) < (((vget (s.drop (p + (vk (s.drop p))))).1 : Nat) : Int)))) = false → All [InR .u64 ((out.length : Nat) : Int)]]) ha [] (by kernel_rfl) (.cons (fun hg15 => by simp only [Bool.not_eq_true', Bool.not_eq_false', Bool.and_eq_true, Bool.or_eq_true, Bool.and_eq_false_iff, Bool.or_eq_false_iff, decide_eq_true_eq, decide_eq_false_iff_not, Bool.not_eq_true, Decidable.not_not] at hg15; exact (.cons (by unfold InR; omega) .nil)) .nil) ?_
                  clear ha a; intro a ha
                  refine tn ?_
                  refine wif ha rfl (fun h81 => ?_) (fun h81 => ?_)
                  · simp only [Bool.not_eq_true', Bool.not_eq_false', Bool.and_eq_true, Bool.or_eq_true, Bool.and_eq_false_iff, Bool.or_eq_false_iff, decide_eq_true_eq, decide_eq_false_iff_not, Bool.not_eq_true, Decidable.not_not] at h81
                    have hz2 := vk_zero (s.drop (p + vk (s.drop p)))
                    have hres : lzUnpack s (M : Int) = ([], 2) := by rw [hgo, show (lzread (s.drop p) out.length) = (0, 0, [], 2) from by unfold lzread; rw [if_neg (by omega), if_neg (by omega), ← hdd, if_pos (by omega)]]; rfl
                    refine wseq ?_
                    refine regp (ρ' := [(4, .string (S [])), (5, .int .i64 2)]) (C := []) ha [] (by kernel_rfl) .nil ?_
                    clear ha a; intro a ha
                    refine tn ?_
                    refine wret ?_
                    refine (tr (tr (br (tr (br (tr ?_))))))
                    refine fin ha (.tmp rfl (.tmp rfl .nil)) ?_
                    exact ⟨by rw [hres]; rfl, hx⟩
                  · simp only [Bool.not_eq_true', Bool.not_eq_false', Bool.and_eq_true, Bool.or_eq_true, Bool.and_eq_false_iff, Bool.or_eq_false_iff, decide_eq_true_eq, decide_eq_false_iff_not, Bool.not_eq_true, Decidable.not_not] at h81
                    have hz2 := vk_zero (s.drop (p + vk (s.drop p)))
                    have he2 : (vget (s.drop (p + vk (s.drop p)))).2.2 = 0 := by omega
                    have hvd2 := vget_drop _ he2
                    refine wskip ?_
                    refine tn ?_
                    refine wseq ?_
                    refine regp (ρ' := [(0, .string (S s)), (1, .int .i64 ((M : Nat) : Int)), (6, .slice A out.length c), (7, .int .i64 ((p + (vk (s.drop p)) : Nat) : Int)), (10, .int .u64 ((((vget (s.drop p)).1) / 2 : Nat) : Int)), (11, .int .u64 (((vget (s.drop (p + (vk (s.drop p))))).1 : Nat) : Int)), (13, .int .i64 ((vk (s.drop (p + (vk (s.drop p)))) : Nat) : Int))]) (C := []) ha [] (by kernel_rfl) .nil ?_
                    clear ha a; intro a ha
                    refine tn ?_
                    refine regp (ρ' := [(0, .string (S s)), (1, .int .i64 ((M : Nat) : Int)), (6, .slice A out.length c), (7, .int .i64 (((p + (vk (s.drop p))) + (vk (s.drop (p + (vk (s.drop p))))) : Nat) : Int)), (10, .int .u64 ((((vget (s.drop p)).1) / 2 : Nat) : Int)), (11, .int .u64 (((vget (s.drop (p + (vk (s.drop p))))).1 : Nat) : Int))]) (C := [InR .i64 (((p + (vk (s.drop p))) + (vk (s.drop (p + (vk (s.drop p))))) : Nat) : Int)]) ha [] (by kernel_rfl) (.cons (by unfold InR; omega) .nil) ?_
                    clear ha a; intro a ha
                    exact tn ⟨((p + (vk (s.drop p))) + (vk (s.drop (p + (vk (s.drop p)))))), ((vget (s.drop (p + (vk (s.drop p))))).1), (((vget (s.drop p)).1) / 2), ha.sub (ρ' := [(0, .string (S s)), (1, .int .i64 ((M : Nat) : Int)), (6, .slice A out.length c), (7, .int .i64 ((((p + (vk (s.drop p))) + (vk (s.drop (p + (vk (s.drop p)))))) : Nat) : Int)), (10, .int .u64 (((((vget (s.drop p)).1) / 2) : Nat) : Int)), (11, .int .u64 ((((vget (s.drop (p + (vk (s.drop p))))).1) : Nat) : Int))]) (by kernel_rfl), hx, ho, by unfold lzread; rw [if_neg (by omega), if_neg (by omega), ← hdd, if_neg (by omega), hvd2.1, List.drop_drop], ⟨by omega, by omega⟩, ⟨by omega, by omega, by omega⟩⟩
                · replace h53 := of_decide_eq_false h53
                  refine wseq ?_
                  refine regp (ρ' := [(0, .string (S s)), (1, .int .i64 ((M : Nat) : Int)), (6, .slice A out.length c), (7, .int .i64 ((p + (vk (s.drop p)) : Nat) : Int)), (10, .int .u64 ((((vget (s.drop p)).1) / 2 : Nat) : Int)), (11, .int .u64 0), (96, .bool ((decide (((((vget (s.drop p)).1) / 2 : Nat) : Int) < 1)) || (decide ((((s.length : Nat) : Int) - ((p + (vk (s.drop p)) : Nat) : Int)) < ((((vget (s.drop p)).1) / 2 : Nat) : Int)))))]) (C := [(decide (((((vget (s.drop p)).1) / 2 : Nat) : Int) < 1)) = false → All [InR .i64 (((s.length : Nat) : Int) - ((p + (vk (s.drop p)) : Nat) : Int)), InR .u64 (((s.length : Nat) : Int) - ((p + (vk (s.drop p)) : Nat) : Int))]]) ha [] (by kernel_rfl) (.cons (fun hg3 => by replace hg3 := of_decide_eq_false hg3; exact (.cons (by unfold InR; omega) (.cons (by unfold InR; omega) .nil))) .nil) ?_
                  clear ha a; intro a ha
                  refine tn ?_
                  refine wif ha rfl (fun h96 => ?_) (fun h96 => ?_)
                  · simp only [Bool.not_eq_true', Bool.not_eq_false', Bool.and_eq_true, Bool.or_eq_true, Bool.and_eq_false_iff, Bool.or_eq_false_iff, decide_eq_true_eq, decide_eq_false_iff_not, Bool.not_eq_true, Decidable.not_not] at h96
                    have hres : lzUnpack s (M : Int) = ([], 2) := by rw [hgo, show (lzread (s.drop p) out.length) = (0, 0, [], 2) from by unfold lzread; rw [if_neg (by omega), if_pos (by omega), ← hdd, List.length_drop, if_pos (by omega)]]; rfl
                    refine wseq ?_
                    refine regp (ρ' := [(4, .string (S [])), (5, .int .i64 2)]) (C := []) ha [] (by kernel_rfl) .nil ?_
                    clear ha a; intro a ha
                    refine tn ?_
                    refine wret ?_
                    refine (tr (br (tr (br (tr ?_)))))
                    refine fin ha (.tmp rfl (.tmp rfl .nil)) ?_
                    exact ⟨by rw [hres]; rfl, hx⟩
                  · simp only [Bool.not_eq_true', Bool.not_eq_false', Bool.and_eq_true, Bool.or_eq_true, Bool.and_eq_false_iff, Bool.or_eq_false_iff, decide_eq_true_eq, decide_eq_false_iff_not, Bool.not_eq_true, Decidable.not_not] at h96
                    refine wskip ?_
                    exact tn ⟨(p + (vk (s.drop p))), 0, (((vget (s.drop p)).1) / 2), ha.sub (ρ' := [(0, .string (S s)), (1, .int .i64 ((M : Nat) : Int)), (6, .slice A out.length c), (7, .int .i64 (((p + (vk (s.drop p))) : Nat) : Int)), (10, .int .u64 (((((vget (s.drop p)).1) / 2) : Nat) : Int)), (11, .int .u64 ((0 : Nat) : Int))]) (by kernel_rfl), hx, ho, by unfold lzread; rw [if_neg (by omega), if_pos (by omega), ← hdd, List.length_drop, if_neg (by omega)], ⟨by omega, by omega⟩, ⟨by omega, by omega, by omega⟩⟩
              clear ha hx ho
              rintro a w6 ⟨q, far, many, ha, hx, ho, hrd, hq, hmf⟩
              rw [hrd] at hgo
              dsimp only at hgo
              rw [if_neg (by decide)] at hgo
              refine wseq ?_
              refine wseq ?_
              refine regp (ρ' := [(0, .string (S s)), (1, .int .i64 ((M : Nat) : Int)), (6, .slice A out.length c), (7, .int .i64 ((q : Nat) : Int)), (10, .int .u64 ((many : Nat) : Int)), (11, .int .u64 ((far : Nat) : Int)), (109, .bool ((decide (((M : Nat) : Int) < ((many : Nat) : Int))) || (decide ((((M : Nat) : Int) - ((many : Nat) : Int)) < ((out.length : Nat) : Int)))))]) (C := [InR .u64 ((M : Nat) : Int), (decide (((M : Nat) : Int) < ((many : Nat) : Int))) = false → All [InR .i64 ((many : Nat) : Int), InR .i64 (((M : Nat) : Int) - ((many : Nat) : Int))]]) ha [] (by kernel_rfl) (.cons (by unfold InR; omega) (.cons (fun hg5 => by replace hg5 := of_decide_eq_false hg5; exact (.cons (by unfold InR; omega) (.cons (by unfold InR; omega) .nil))) .nil)) ?_
              clear ha a; intro a ha
              refine tn ?_
              refine wif ha rfl (fun h109 => ?_) (fun h109 => ?_)
              · simp only [Bool.not_eq_true', Bool.not_eq_false', Bool.and_eq_true, Bool.or_eq_true, Bool.and_eq_false_iff, Bool.or_eq_false_iff, decide_eq_true_eq, decide_eq_false_iff_not, Bool.not_eq_true, Decidable.not_not] at h109
                have hres : lzUnpack s (M : Int) = ([], 3) := by rw [hgo, if_pos (by omega)]
                refine wseq ?_
                refine regp (ρ' := [(4, .string (S [])), (5, .int .i64 3)]) (C := []) ha [] (by kernel_rfl) .nil ?_
                clear ha a; intro a ha
                refine tn ?_
                refine wret ?_
                refine (tr (br (tr (br (tr ?_)))))
                refine fin ha (.tmp rfl (.tmp rfl .nil)) ?_
                exact ⟨by rw [hres]; rfl, hx⟩
              · simp only [Bool.not_eq_true', Bool.not_eq_false', Bool.and_eq_true, Bool.or_eq_true, Bool.and_eq_false_iff, Bool.or_eq_false_iff, decide_eq_true_eq, decide_eq_false_iff_not, Bool.not_eq_true, Decidable.not_not] at h109
                rw [if_neg (by omega)] at hgo
                refine wskip ?_
                refine tn ?_
                refine wseq ?_
                refine regp (ρ' := [(0, .string (S s)), (1, .int .i64 ((M : Nat) : Int)), (6, .slice A out.length c), (7, .int .i64 ((q : Nat) : Int)), (10, .int .u64 ((many : Nat) : Int)), (11, .int .u64 ((far : Nat) : Int)), (14, .int .i64 0)]) (C := []) ha [] (by kernel_rfl) .nil ?_
                clear ha a; intro a ha
                refine tn ?_
                refine wblk ?_
                refine wloop (fun zz a w7 => ∃ (i p2 : Nat) (o2 : List UInt8) (A : Option Addr) (c : Nat), zz = many - i ∧ On 140 [(0, .string (S s)), (1, .int .i64 ((M : Nat) : Int)), (6, .slice A o2.length c), (7, .int .i64 ((p2 : Nat) : Int)), (10, .int .u64 ((many : Nat) : Int)), (11, .int .u64 ((far : Nat) : Int)), (14, .int .i64 ((i : Nat) : Int))] a ∧ Ext w w7 ∧ Own w7 w.heap.size 5 1 A o2.length c (bys o2) ∧ (i ≤ many) ∧ (o2.length = out.length + i) ∧ ((far = 0 ∧ p2 = q + i ∧ o2 = out ++ (s.drop q).take i) ∨ (far ≠ 0 ∧ p2 = q ∧ cpy far (many - i) o2 = cpy far many out))) _ ⟨0, q, out, A, c, rfl, ha.sub (ρ' := [(0, .string (S s)), (1, .int .i64 ((M : Nat) : Int)), (6, .slice A out.length c), (7, .int .i64 ((q : Nat) : Int)), (10, .int .u64 ((many : Nat) : Int)), (11, .int .u64 ((far : Nat) : Int)), (14, .int .i64 ((0 : Nat) : Int))]) (by kernel_rfl), hx, ho, by omega, rfl, (Decidable.em (far = 0)).elim (fun h => .inl ⟨h, rfl, by simp⟩) (fun h => .inr ⟨h, rfl, rfl⟩)⟩ ?_
                clear ha hx ho
                rintro zz a w8 ⟨i, p2, o2, A, c, hzz, ha, hx, ho, hi, hlen2, hcase⟩
                have hp2 : far = 0 ∧ p2 = q + i ∨ far ≠ 0 ∧ p2 = q := hcase.elim (fun h => .inl ⟨h.1, h.2.1⟩) (fun h => .inr ⟨h.1, h.2.1⟩)
                refine wseq ?_
                refine wseq ?_
                refine regp (ρ' := [(0, .string (S s)), (1, .int .i64 ((M : Nat) : Int)), (6, .slice A o2.length c), (7, .int .i64 ((p2 : Nat) : Int)), (10, .int .u64 ((many : Nat) : Int)), (11, .int .u64 ((far : Nat) : Int)), (14, .int .i64 ((i : Nat) : Int)), (113, .bool (decide (((i : Nat) : Int) < ((many : Nat) : Int))))]) (C := [InR .i64 ((many : Nat) : Int)]) ha [] (by kernel_rfl) (.cons (by unfold InR; omega) .nil) ?_
                clear ha a; intro a ha
                refine tn ?_
                refine wif ha rfl (fun h113 => ?_) (fun h113 => ?_)
                · replace h113 := of_decide_eq_true h113
                  refine wskip ?_
                  refine tn ?_
                  refine wseq ?_
                  refine wblk ?_
                  refine wseq ?_
                  refine regp (ρ' := [(0, .string (S s)), (1, .int .i64 ((M : Nat) : Int)), (6, .slice A o2.length c), (7, .int .i64 ((p2 : Nat) : Int)), (10, .int .u64 ((many : Nat) : Int)), (11, .int .u64 ((far : Nat) : Int)), (14, .int .i64 ((i : Nat) : Int)), (117, .bool (decide (((far : Nat) : Int) = 0)))]) (C := []) ha [] (by kernel_rfl) .nil ?_
                  clear ha a; intro a ha
                  refine tn ?_
                  refine wif ha rfl (fun h117 => ?_) (fun h117 => ?_)
                  · replace h117 := of_decide_eq_true h117
                    refine wseq ?_
                    refine reg_list ?_
                    refine segp (ρ' := [(0, .string (S s)), (1, .int .i64 ((M : Nat) : Int)), (7, .int .i64 ((p2 : Nat) : Int)), (10, .int .u64 ((many : Nat) : Int)), (11, .int .u64 ((far : Nat) : Int)), (14, .int .i64 ((i : Nat) : Int)), (118, .slice A o2.length c), (121, .int .u8 (((s.getD p2 0).toNat : Nat) : Int))]) (C := [0 ≤ ((p2 : Nat) : Int) ∧ ((p2 : Nat) : Int) < (s.length : Int)]) ha 4 [] rfl (by kernel_rfl) (.cons ⟨by omega, by omega⟩ .nil) ?_
                    clear ha a; intro a ha
                    refine lnewS ha rfl (by kernel_rfl) #[.int .u8 (((s.getD p2 0).toNat : Nat) : Int)] 5 1 (by kernel_rfl) ?_
                    clear ha a; intro b9 w10 he hb_b9 hB_b9 a ha
                    have hno_ho_b9 : (Value.slice A o2.length c).ownBlock ≠ some b9 := own_ne ho hb_b9
                    replace ho := ownE he ho
                    replace hb_b9 := Nat.le_trans hx.size hb_b9
                    replace hx := hx.tr he
                    clear he
                    refine lapp (by_ := 1) ha rfl (by kernel_rfl) rfl (by kernel_rfl) rfl ho rfl [.int .u8 (((s.getD p2 0).toNat : Nat) : Int)] rfl (news_blk hB_b9) rfl (by omega) (by omega) hx.size ?_
                    clear ha a; intro A11 c12 w13 ho2 hg a ha
                    clear hB_b9 hb_b9
                    replace hx := extG hx hg ho (Nat.le_refl _)
                    clear hg ho
                    refine segp (ρ' := [(0, .string (S s)), (1, .int .i64 ((M : Nat) : Int)), (6, .slice A11 (o2.length + 1) c12), (7, .int .i64 ((p2 : Nat) : Int)), (10, .int .u64 ((many : Nat) : Int)), (11, .int .u64 ((far : Nat) : Int)), (14, .int .i64 ((i : Nat) : Int))]) (C := []) ha 1 [] rfl (by kernel_rfl) .nil ?_
                    clear ha a; intro a ha
                    refine lnil ?_
                    replace ha := ha.sub (ρ' := [(0, .string (S s)), (1, .int .i64 ((M : Nat) : Int)), (6, .slice A11 (o2.length + 1) c12), (7, .int .i64 ((p2 : Nat) : Int)), (10, .int .u64 ((many : Nat) : Int)), (11, .int .u64 ((far : Nat) : Int)), (14, .int .i64 ((i : Nat) : Int))]) (by kernel_rfl)
                    rw [show ((bys o2 ++ [.int .u8 (((s.getD p2 0).toNat : Nat) : Int)]) : List Value) = bys (o2 ++ [s.getD p2 0]) from bys_push _ _] at ho2
                    rw [show ((o2.length + 1) : Nat) = (o2 ++ [s.getD p2 0]).length from by simp] at ha ho2
                    refine tn ?_
                    refine regp (ρ' := [(0, .string (S s)), (1, .int .i64 ((M : Nat) : Int)), (6, .slice A11 ((o2 ++ [s.getD p2 0]).length) c12), (7, .int .i64 ((p2 + 1 : Nat) : Int)), (10, .int .u64 ((many : Nat) : Int)), (11, .int .u64 ((far : Nat) : Int)), (14, .int .i64 ((i : Nat) : Int))]) (C := [InR .i64 ((p2 + 1 : Nat) : Int)]) ha [] (by kernel_rfl) (.cons (by unfold InR; omega) .nil) ?_
                    clear ha a; intro a ha
                    refine bn ?_
                    refine tn ?_
                    refine regp (ρ' := [(0, .string (S s)), (1, .int .i64 ((M : Nat) : Int)), (6, .slice A11 ((o2 ++ [s.getD p2 0]).length) c12), (7, .int .i64 ((p2 + 1 : Nat) : Int)), (10, .int .u64 ((many : Nat) : Int)), (11, .int .u64 ((far : Nat) : Int)), (14, .int .i64 ((i + 1 : Nat) : Int))]) (C := [InR .i64 ((i + 1 : Nat) : Int)]) ha [] (by kernel_rfl) (.cons (by unfold InR; omega) .nil) ?_
                    clear ha a; intro a ha
                    exact tn ⟨many - ((i + 1)), by omega, (i + 1), (p2 + 1), (o2 ++ [s.getD p2 0]), A11, c12, rfl, ha.sub (ρ' := [(0, .string (S s)), (1, .int .i64 ((M : Nat) : Int)), (6, .slice A11 ((o2 ++ [s.getD p2 0]).length) c12), (7, .int .i64 (((p2 + 1) : Nat) : Int)), (10, .int .u64 ((many : Nat) : Int)), (11, .int .u64 ((far : Nat) : Int)), (14, .int .i64 (((i + 1) : Nat) : Int))]) (by kernel_rfl), hx, ho2, by omega, by simp; omega, hcase.elim (fun ⟨h1, h2, h3⟩ => .inl ⟨h1, by omega, by rw [h3, List.append_assoc, h2, take_drop_snoc _ _ _ (by omega)]⟩) (fun ⟨h1, h2, h3⟩ => absurd (by omega) h1)⟩
                  · replace h117 := of_decide_eq_false h117
                    obtain ⟨g, rfl⟩ := own_some ho (by omega)
                    refine wseq ?_
                    refine regp (ρ' := [(0, .string (S s)), (1, .int .i64 ((M : Nat) : Int)), (6, .slice (some ⟨g, 0, none⟩) o2.length c), (7, .int .i64 ((p2 : Nat) : Int)), (10, .int .u64 ((many : Nat) : Int)), (11, .int .u64 ((far : Nat) : Int)), (14, .int .i64 ((i : Nat) : Int)), (15, .int .u8 (((o2.getD (((((o2.length : Nat) : Int) - ((far : Nat) : Int)) : Int).toNat) 0).toNat : Nat) : Int))]) (C := [InR .i64 ((far : Nat) : Int), InR .i64 (((o2.length : Nat) : Int) - ((far : Nat) : Int)), RunOk Tryd.prog w8 (Instr.indexAt 50 (.slice (some ⟨g, 0, none⟩) o2.length c) (.int .i64 (((o2.length : Nat) : Int) - ((far : Nat) : Int)))) (.pointer (some ⟨g, ((((o2.length : Nat) : Int) - ((far : Nat) : Int)) : Int).toNat * 1, none⟩)), RunOk Tryd.prog w8 (Instr.loadAt 5 (.pointer (some ⟨g, ((((o2.length : Nat) : Int) - ((far : Nat) : Int)) : Int).toNat * 1, none⟩))) (.int .u8 (((o2.getD (((((o2.length : Nat) : Int) - ((far : Nat) : Int)) : Int).toNat) 0).toNat : Nat) : Int))]) ha [(6, .val (.pointer (some ⟨g, ((((o2.length : Nat) : Int) - ((far : Nat) : Int)) : Int).toNat * 1, none⟩))), (7, .val (.int .u8 (((o2.getD (((((o2.length : Nat) : Int) - ((far : Nat) : Int)) : Int).toNat) 0).toNat : Nat) : Int)))] (by kernel_rfl) (.cons (by unfold InR; omega) (.cons (by unfold InR; omega) (.cons (idxOwnI (e := 5) (by kernel_rfl) (by kernel_rfl) ⟨by omega, by omega⟩) (.cons (ldOwn (by kernel_rfl) ho (bys_get _ _ (by omega))) .nil)))) ?_
                    clear ha a; intro a ha
                    rw [show ((((o2.getD (((((o2.length : Nat) : Int) - ((far : Nat) : Int)) : Int).toNat) 0).toNat : Nat) : Int) : Int) = (((o2.getD (o2.length - far) 0).toNat : Nat) : Int) from by rw [Int.toNat_sub]] at ha
                    refine tn ?_
                    refine reg_list ?_
                    refine segp (ρ' := [(0, .string (S s)), (1, .int .i64 ((M : Nat) : Int)), (7, .int .i64 ((p2 : Nat) : Int)), (10, .int .u64 ((many : Nat) : Int)), (11, .int .u64 ((far : Nat) : Int)), (14, .int .i64 ((i : Nat) : Int)), (134, .slice (some ⟨g, 0, none⟩) o2.length c), (135, .int .u8 (((o2.getD (o2.length - far) 0).toNat : Nat) : Int))]) (C := []) ha 2 [] rfl (by kernel_rfl) .nil ?_
                    clear ha a; intro a ha
                    refine lnewS ha rfl (by kernel_rfl) #[.int .u8 (((o2.getD (o2.length - far) 0).toNat : Nat) : Int)] 5 1 (by kernel_rfl) ?_
                    clear ha a; intro b14 w15 he hb_b14 hB_b14 a ha
                    have hno_ho_b14 : (Value.slice (some ⟨g, 0, none⟩) o2.length c).ownBlock ≠ some b14 := own_ne ho hb_b14
                    replace ho := ownE he ho
                    replace hb_b14 := Nat.le_trans hx.size hb_b14
                    replace hx := hx.tr he
                    clear he
                    refine lapp (by_ := 1) ha rfl (by kernel_rfl) rfl (by kernel_rfl) rfl ho rfl [.int .u8 (((o2.getD (o2.length - far) 0).toNat : Nat) : Int)] rfl (news_blk hB_b14) rfl (by omega) (by omega) hx.size ?_
                    clear ha a; intro A16 c17 w18 ho3 hg a ha
                    clear hB_b14 hb_b14
                    replace hx := extG hx hg ho (Nat.le_refl _)
                    clear hg ho
                    refine segp (ρ' := [(0, .string (S s)), (1, .int .i64 ((M : Nat) : Int)), (6, .slice A16 (o2.length + 1) c17), (7, .int .i64 ((p2 : Nat) : Int)), (10, .int .u64 ((many : Nat) : Int)), (11, .int .u64 ((far : Nat) : Int)), (14, .int .i64 ((i : Nat) : Int))]) (C := []) ha 1 [] rfl (by kernel_rfl) .nil ?_
                    clear ha a; intro a ha
                    refine lnil ?_
                    replace ha := ha.sub (ρ' := [(0, .string (S s)), (1, .int .i64 ((M : Nat) : Int)), (6, .slice A16 (o2.length + 1) c17), (7, .int .i64 ((p2 : Nat) : Int)), (10, .int .u64 ((many : Nat) : Int)), (11, .int .u64 ((far : Nat) : Int)), (14, .int .i64 ((i : Nat) : Int))]) (by kernel_rfl)
                    rw [show ((bys o2 ++ [.int .u8 (((o2.getD (o2.length - far) 0).toNat : Nat) : Int)]) : List Value) = bys (o2 ++ [o2.getD (o2.length - far) 0]) from bys_push _ _] at ho3
                    rw [show ((o2.length + 1) : Nat) = (o2 ++ [o2.getD (o2.length - far) 0]).length from by simp] at ha ho3
                    refine bn ?_
                    refine tn ?_
                    refine regp (ρ' := [(0, .string (S s)), (1, .int .i64 ((M : Nat) : Int)), (6, .slice A16 ((o2 ++ [o2.getD (o2.length - far) 0]).length) c17), (7, .int .i64 ((p2 : Nat) : Int)), (10, .int .u64 ((many : Nat) : Int)), (11, .int .u64 ((far : Nat) : Int)), (14, .int .i64 ((i + 1 : Nat) : Int))]) (C := [InR .i64 ((i + 1 : Nat) : Int)]) ha [] (by kernel_rfl) (.cons (by unfold InR; omega) .nil) ?_
                    clear ha a; intro a ha
                    exact tn ⟨many - ((i + 1)), by omega, (i + 1), p2, (o2 ++ [o2.getD (o2.length - far) 0]), A16, c17, rfl, ha.sub (ρ' := [(0, .string (S s)), (1, .int .i64 ((M : Nat) : Int)), (6, .slice A16 ((o2 ++ [o2.getD (o2.length - far) 0]).length) c17), (7, .int .i64 ((p2 : Nat) : Int)), (10, .int .u64 ((many : Nat) : Int)), (11, .int .u64 ((far : Nat) : Int)), (14, .int .i64 (((i + 1) : Nat) : Int))]) (by kernel_rfl), hx, ho3, by omega, by simp; omega, hcase.elim (fun ⟨h1, h2, h3⟩ => absurd h1 (by omega)) (fun ⟨h1, h2, h3⟩ => .inr ⟨h1, h2, by rw [← h3, show many - i = (many - (i + 1)) + 1 by omega, cpy]⟩)⟩
                · replace h113 := of_decide_eq_false h113
                  have him : i = many := by omega
                  have hend : s.length - p2 < f ∧ p2 ≤ s.length := ⟨by omega, by omega⟩
                  rw [him] at hcase
                  have hgo2 : lzUnpack s (M : Int) = lzun M f (s.drop p2) o2 := hcase.elim (fun ⟨h1, h2, h3⟩ => by rw [hgo, if_pos h1, h2, h3, List.drop_drop]) (fun ⟨h1, h2, h3⟩ => by rw [hgo, if_neg h1, h2, ← h3, Nat.sub_self, cpy])
                  refine wexit ?_
                  refine (te (te (be ?_)))
                  refine bn ?_
                  exact tn ⟨f, by omega, f, p2, o2, A, c, rfl, ha.sub (ρ' := [(0, .string (S s)), (1, .int .i64 ((M : Nat) : Int)), (6, .slice A o2.length c), (7, .int .i64 ((p2 : Nat) : Int))]) (by kernel_rfl), hx, ho, hend.1, hend.2, by omega, hgo2⟩
          · replace h36 := of_decide_eq_false h36
            have hres : lzUnpack s (M : Int) = (out, 0) := by rw [hgo, lzun, if_pos (List.drop_of_length_le (by omega))]
            refine wexit ?_
            refine (te (te (be ?_)))
            refine tn ?_
            refine wseq ?_
            refine regp (ρ' := [(4, .string (S out)), (5, .int .i64 0)]) (C := [RunOk Tryd.prog w2 (convert 50 9 (.slice A out.length c)) (.string (S out))]) ha [(1, .val (.string (S out)))] (by kernel_rfl) (.cons (cvOwn (by kernel_rfl) (by kernel_rfl) (by kernel_rfl) ho) .nil) ?_
            clear ha a; intro a ha
            refine tn ?_
            refine wret ?_
            refine fin ha (.tmp rfl (.tmp rfl .nil)) ?_
            exact ⟨by rw [hres]; rfl, hx⟩
end Go.Kn
end
section
set_option linter.unusedSimpArgs false
set_option linter.unusedVariables false
set_option maxRecDepth 100000
namespace Go.Kn
open Go.Proofs
theorem rput_ok (n : Nat) (w : World) (hn : n < 18446744073709551616) :
    Fn Tryd.prog 37 #[.int .u64 ((n : Nat) : Int)] w (fun x w' => x = .string (S (vput n)) ∧ Ext w w') := by
  have hx : Ext w w := Ext.rfl' w
  refine enter (N := 22) (args := [.int .u64 ((n : Nat) : Int)]) Tryd.func37 rfl rfl rfl ?_
  intro a ha
  simp only [argEnv, Nat.zero_add, Nat.reduceAdd] at ha
  refine wseq ?_
  refine regp (ρ' := [(0, .int .u64 ((n : Nat) : Int))]) (C := []) ha [] (by kernel_rfl) .nil ?_
  clear ha a; intro a ha
  refine tn ?_
  refine wseq ?_
  refine regp (ρ' := [(0, .int .u64 ((n : Nat) : Int)), (3, .string (S []))]) (C := []) ha [] (by kernel_rfl) .nil ?_
  clear ha a; intro a ha
  refine tn ?_
  refine wseq ?_
  refine wblk ?_
  refine wloop (fun zz a w1 => ∃ (f m : Nat) (out : List UInt8), zz = f ∧ On 22 [(0, .int .u64 ((m : Nat) : Int)), (3, .string (S out))] a ∧ Ext w w1 ∧ (m < 2 ^ (1 + 7 * f)) ∧ (vput n = out ++ vputf f m) ∧ (out.length + f ≤ 9)) _ ⟨9, n, ([] : List UInt8), rfl, ha.sub (ρ' := [(0, .int .u64 ((n : Nat) : Int)), (3, .string (S ([] : List UInt8)))]) (by kernel_rfl), hx, by omega, rfl, by simp⟩ ?_
  clear ha hx
  rintro zz a w2 ⟨f, m, out, hzz, ha, hx, hf, hv, ho10⟩
  refine wseq ?_
  refine wseq ?_
  refine regp (ρ' := [(0, .int .u64 ((m : Nat) : Int)), (3, .string (S out)), (5, .bool (decide ((128 : Int) ≤ ((m : Nat) : Int))))]) (C := []) ha [] (by kernel_rfl) .nil ?_
  clear ha a; intro a ha
  refine tn ?_
  refine wif ha rfl (fun h5 => ?_) (fun h5 => ?_)
  · replace h5 := of_decide_eq_true h5
    have hf0 : 0 < f := Nat.pos_of_ne_zero (fun h => by subst h; simp at hf; omega)
    obtain ⟨f, rfl⟩ : ∃ f', f = f' + 1 := ⟨f - 1, by omega⟩
    have hm64 : m < 18446744073709551616 := Nat.lt_of_lt_of_le hf (Nat.pow_le_pow_right (n := 2) (by omega) (by omega : 1 + 7 * (f + 1) ≤ 64))
    refine wskip ?_
    refine tn ?_
    refine wblk ?_
    refine wseq ?_
    refine reg_list ?_
    refine segp (ρ' := [(0, .int .u64 ((m : Nat) : Int)), (6, .string (S out)), (10, .int .u8 ((128 + (m % 128) : Nat) : Int))]) (C := [0 ≤ ((m : Nat) : Int), 0 < (128 : Int), InR .u64 ((128 + (m % 128) : Nat) : Int), InR .u8 ((128 + (m % 128) : Nat) : Int)]) ha 5 [] rfl (by kernel_rfl) (.cons (by omega) (.cons (by omega) (.cons (by unfold InR; omega) (.cons (by unfold InR; omega) .nil)))) ?_
    clear ha a; intro a ha
    refine lnewS ha rfl (by kernel_rfl) #[.int .u8 ((128 + (m % 128) : Nat) : Int)] 5 1 (by kernel_rfl) ?_
    clear ha a; intro b3 w4 he hb_b3 hB_b3 a ha
    replace hb_b3 := Nat.le_trans hx.size hb_b3
    replace hx := hx.tr he
    clear he
    refine segp (ρ' := [(0, .int .u64 ((m : Nat) : Int)), (3, .string (S (out ++ [UInt8.ofNat (128 + (m % 128))])))]) (C := [RunOk Tryd.prog w4 (convert 50 9 (.slice (some ⟨b3, 0, none⟩) 1 1)) (.string (S [UInt8.ofNat (128 + (m % 128))])), (out : List UInt8).length + ([UInt8.ofNat (128 + (m % 128))] : List UInt8).length ≤ 9223372036854775807]) ha 3 [(0, .val (.string (S [UInt8.ofNat (128 + (m % 128))])))] rfl (by kernel_rfl) (.cons (cvBlk (e := 5) (zs := [((128 + (m % 128) : Nat) : Int)]) (by kernel_rfl) (by kernel_rfl) (by kernel_rfl) hB_b3 rfl rfl) (.cons (by first | omega | (simp only [List.length_cons, List.length_nil, List.length_append, List.length_take, List.length_drop]; omega)) .nil)) ?_
    clear ha a; intro a ha
    refine lnil ?_
    replace ha := ha.sub (ρ' := [(0, .int .u64 ((m : Nat) : Int)), (3, .string (S (out ++ [UInt8.ofNat (128 + (m % 128))])))]) (by kernel_rfl)
    refine tn ?_
    refine regp (ρ' := [(0, .int .u64 ((m / 128 : Nat) : Int)), (3, .string (S (out ++ [UInt8.ofNat (128 + (m % 128))])))]) (C := [0 ≤ ((m : Nat) : Int), 0 < (128 : Int), InR .u64 ((m / 128 : Nat) : Int)]) ha [] (by kernel_rfl) (.cons (by omega) (.cons (by omega) (.cons (by unfold InR; omega) .nil))) ?_
    clear ha a; intro a ha
    refine bn ?_
    exact tn ⟨f, by omega, f, (m / 128), (out ++ [UInt8.ofNat (128 + m % 128)]), rfl, ha.sub (ρ' := [(0, .int .u64 (((m / 128) : Nat) : Int)), (3, .string (S (out ++ [UInt8.ofNat (128 + m % 128)])))]) (by kernel_rfl), hx, vdiv_lt hf, by rw [hv, vputf, if_neg (by omega), List.append_assoc]; rfl, by simp; omega⟩
  · replace h5 := of_decide_eq_false h5
    have hlast : vputf f m = [UInt8.ofNat m] := by cases f with | zero => rfl | succ f => rw [vputf, if_pos (by omega)]
    rw [hlast] at hv
    refine wexit ?_
    refine (te (te (be ?_)))
    refine tn ?_
    refine wseq ?_
    refine reg_list ?_
    refine segp (ρ' := [(16, .string (S out)), (18, .int .u8 ((m : Nat) : Int))]) (C := [InR .u8 ((m : Nat) : Int)]) ha 3 [] rfl (by kernel_rfl) (.cons (by unfold InR; omega) .nil) ?_
    clear ha a; intro a ha
    refine lnewS ha rfl (by kernel_rfl) #[.int .u8 ((m : Nat) : Int)] 5 1 (by kernel_rfl) ?_
    clear ha a; intro b5 w6 he hb_b5 hB_b5 a ha
    replace hb_b5 := Nat.le_trans hx.size hb_b5
    replace hx := hx.tr he
    clear he
    refine segp (ρ' := [(2, .string (S (out ++ [UInt8.ofNat m])))]) (C := [RunOk Tryd.prog w6 (convert 50 9 (.slice (some ⟨b5, 0, none⟩) 1 1)) (.string (S [UInt8.ofNat m])), (out : List UInt8).length + ([UInt8.ofNat m] : List UInt8).length ≤ 9223372036854775807]) ha 3 [(0, .val (.string (S [UInt8.ofNat m])))] rfl (by kernel_rfl) (.cons (cvBlk (e := 5) (zs := [((m : Nat) : Int)]) (by kernel_rfl) (by kernel_rfl) (by kernel_rfl) hB_b5 rfl rfl) (.cons (by first | omega | (simp only [List.length_cons, List.length_nil, List.length_append, List.length_take, List.length_drop]; omega)) .nil)) ?_
    clear ha a; intro a ha
    refine lnil ?_
    replace ha := ha.sub (ρ' := [(2, .string (S (out ++ [UInt8.ofNat m])))]) (by kernel_rfl)
    refine tn ?_
    refine wret ?_
    refine fin ha (.tmp rfl .nil) ?_
    exact ⟨by rw [hv]; rfl, hx⟩
theorem put_ok (n : Nat) (w : World) (hn : n < 18446744073709551616) :
    Fn Tryd.prog 46 #[.int .u64 ((n : Nat) : Int)] w (fun x w' => x = .string (S (vput n)) ∧ Ext w w') := by
  have hx : Ext w w := Ext.rfl' w
  refine enter (N := 20) (args := [.int .u64 ((n : Nat) : Int)]) Tryd.func46 rfl rfl rfl ?_
  intro a ha
  simp only [argEnv, Nat.zero_add, Nat.reduceAdd] at ha
  refine wseq ?_
  refine regp (ρ' := [(0, .int .u64 ((n : Nat) : Int))]) (C := []) ha [] (by kernel_rfl) .nil ?_
  clear ha a; intro a ha
  refine tn ?_
  refine wseq ?_
  refine regp (ρ' := [(0, .int .u64 ((n : Nat) : Int)), (3, .slice none 0 0)]) (C := []) ha [] (by kernel_rfl) .nil ?_
  clear ha a; intro a ha
  refine tn ?_
  refine wseq ?_
  refine wblk ?_
  refine wloop (fun zz a w1 => ∃ (f m : Nat) (out : List UInt8) (A : Option Addr) (c : Nat), zz = f ∧ On 20 [(0, .int .u64 ((m : Nat) : Int)), (3, .slice A out.length c)] a ∧ Ext w w1 ∧ Own w1 w.heap.size 5 1 A out.length c (bys out) ∧ (m < 2 ^ (1 + 7 * f)) ∧ (vput n = out ++ vputf f m) ∧ (out.length + f ≤ 9)) _ ⟨9, n, ([] : List UInt8), none, 0, rfl, ha.sub (ρ' := [(0, .int .u64 ((n : Nat) : Int)), (3, .slice none (([] : List UInt8).length) 0)]) (by kernel_rfl), hx, own_nil _ _ _ _, by omega, rfl, by simp⟩ ?_
  clear ha hx
  rintro zz a w2 ⟨f, m, out, A, c, hzz, ha, hx, ho, hf, hv, ho10⟩
  refine wseq ?_
  refine wseq ?_
  refine regp (ρ' := [(0, .int .u64 ((m : Nat) : Int)), (3, .slice A out.length c), (5, .bool (decide ((128 : Int) ≤ ((m : Nat) : Int))))]) (C := []) ha [] (by kernel_rfl) .nil ?_
  clear ha a; intro a ha
  refine tn ?_
  refine wif ha rfl (fun h5 => ?_) (fun h5 => ?_)
  · replace h5 := of_decide_eq_true h5
    have hf0 : 0 < f := Nat.pos_of_ne_zero (fun h => by subst h; simp at hf; omega)
    obtain ⟨f, rfl⟩ : ∃ f', f = f' + 1 := ⟨f - 1, by omega⟩
    have hm64 : m < 18446744073709551616 := Nat.lt_of_lt_of_le hf (Nat.pow_le_pow_right (n := 2) (by omega) (by omega : 1 + 7 * (f + 1) ≤ 64))
    refine wskip ?_
    refine tn ?_
    refine wblk ?_
    refine wseq ?_
    refine reg_list ?_
    refine segp (ρ' := [(0, .int .u64 ((m : Nat) : Int)), (6, .slice A out.length c), (9, .int .u8 (((m % 256) ||| 128 : Nat) : Int))]) (C := [NN .u8 ((m % 256 : Nat) : Int), NN .u8 128]) ha 4 [(2, .mod)] rfl (by kernel_rfl) (.cons (by unfold NN InR; omega) (.cons (by unfold NN InR; omega) .nil)) ?_
    clear ha a; intro a ha
    refine lnewS ha rfl (by kernel_rfl) #[.int .u8 (((m % 256) ||| 128 : Nat) : Int)] 5 1 (by kernel_rfl) ?_
    clear ha a; intro b3 w4 he hb_b3 hB_b3 a ha
    have hno_ho_b3 : (Value.slice A out.length c).ownBlock ≠ some b3 := own_ne ho hb_b3
    replace ho := ownE he ho
    replace hb_b3 := Nat.le_trans hx.size hb_b3
    replace hx := hx.tr he
    clear he
    refine lapp (by_ := 1) ha rfl (by kernel_rfl) rfl (by kernel_rfl) rfl ho rfl [.int .u8 (((m % 256) ||| 128 : Nat) : Int)] rfl (news_blk hB_b3) rfl (by omega) (by omega) hx.size ?_
    clear ha a; intro A5 c6 w7 ho2 hg a ha
    clear hB_b3 hb_b3
    replace hx := extG hx hg ho (Nat.le_refl _)
    clear hg ho
    refine segp (ρ' := [(0, .int .u64 ((m : Nat) : Int)), (3, .slice A5 (out.length + 1) c6)]) (C := []) ha 1 [] rfl (by kernel_rfl) .nil ?_
    clear ha a; intro a ha
    refine lnil ?_
    replace ha := ha.sub (ρ' := [(0, .int .u64 ((m : Nat) : Int)), (3, .slice A5 (out.length + 1) c6)]) (by kernel_rfl)
    rw [show ((bys out ++ [.int .u8 (((m % 256) ||| 128 : Nat) : Int)]) : List Value) = bys (out ++ [UInt8.ofNat (128 + m % 128)]) from by rw [or128]; exact bys_pushN _ _ (by omega)] at ho2
    rw [show ((out.length + 1) : Nat) = (out ++ [UInt8.ofNat (128 + m % 128)]).length from by simp] at ha ho2
    refine tn ?_
    refine regp (ρ' := [(0, .int .u64 ((m / 128 : Nat) : Int)), (3, .slice A5 ((out ++ [UInt8.ofNat (128 + m % 128)]).length) c6)]) (C := [0 ≤ (7 : Int)]) ha [] (by kernel_rfl) (.cons (by omega) .nil) ?_
    clear ha a; intro a ha
    refine bn ?_
    exact tn ⟨f, by omega, f, (m / 128), (out ++ [UInt8.ofNat (128 + m % 128)]), A5, c6, rfl, ha.sub (ρ' := [(0, .int .u64 (((m / 128) : Nat) : Int)), (3, .slice A5 ((out ++ [UInt8.ofNat (128 + m % 128)]).length) c6)]) (by kernel_rfl), hx, ho2, vdiv_lt hf, by rw [hv, vputf, if_neg (by omega), List.append_assoc]; rfl, by simp; omega⟩
  · replace h5 := of_decide_eq_false h5
    have hlast : vputf f m = [UInt8.ofNat m] := by cases f with | zero => rfl | succ f => rw [vputf, if_pos (by omega)]
    rw [hlast] at hv
    refine wexit ?_
    refine (te (te (be ?_)))
    refine tn ?_
    refine wseq ?_
    refine reg_list ?_
    refine segp (ρ' := [(14, .slice A out.length c), (16, .int .u8 ((m % 256 : Nat) : Int))]) (C := []) ha 3 [(2, .mod)] rfl (by kernel_rfl) .nil ?_
    clear ha a; intro a ha
    refine lnewS ha rfl (by kernel_rfl) #[.int .u8 ((m % 256 : Nat) : Int)] 5 1 (by kernel_rfl) ?_
    clear ha a; intro b8 w9 he hb_b8 hB_b8 a ha
    have hno_ho_b8 : (Value.slice A out.length c).ownBlock ≠ some b8 := own_ne ho hb_b8
    replace ho := ownE he ho
    replace hb_b8 := Nat.le_trans hx.size hb_b8
    replace hx := hx.tr he
    clear he
    refine lapp (by_ := 1) ha rfl (by kernel_rfl) rfl (by kernel_rfl) rfl ho rfl [.int .u8 ((m % 256 : Nat) : Int)] rfl (news_blk hB_b8) rfl (by omega) (by omega) hx.size ?_
    clear ha a; intro A10 c11 w12 ho2 hg a ha
    clear hB_b8 hb_b8
    replace hx := extG hx hg ho (Nat.le_refl _)
    clear hg ho
    rw [show ((bys out ++ [.int .u8 ((m % 256 : Nat) : Int)]) : List Value) = bys (out ++ [UInt8.ofNat m]) from by rw [bys_pushN _ _ (by omega), ofNat_mod]] at ho2
    rw [show ((out.length + 1) : Nat) = (out ++ [UInt8.ofNat m]).length from by simp] at ha ho2
    refine segp (ρ' := [(2, .string (S (out ++ [UInt8.ofNat m])))]) (C := [RunOk Tryd.prog w12 (convert 50 9 (.slice A10 ((out ++ [UInt8.ofNat m]).length) c11)) (.string (S (out ++ [UInt8.ofNat m])))]) ha 2 [(0, .val (.string (S (out ++ [UInt8.ofNat m]))))] rfl (by kernel_rfl) (.cons (cvOwn (by kernel_rfl) (by kernel_rfl) (by kernel_rfl) ho2) .nil) ?_
    clear ha a; intro a ha
    refine lnil ?_
    replace ha := ha.sub (ρ' := [(2, .string (S (out ++ [UInt8.ofNat m])))]) (by kernel_rfl)
    refine tn ?_
    refine wret ?_
    refine fin ha (.tmp rfl .nil) ?_
    exact ⟨by rw [hv]; rfl, hx⟩
theorem put_okI (n : Int) (w : World) (h0 : 0 ≤ n) (hn : n < 18446744073709551616) : FnV Tryd.prog 46 (#[.int .u64 n]) w (.string (S (vput n.toNat))) := by
  have := put_ok n.toNat w (by omega)
  rwa [Int.toNat_of_nonneg h0] at this
theorem rput_okI (n : Int) (w : World) (h0 : 0 ≤ n) (hn : n < 18446744073709551616) : FnV Tryd.prog 37 (#[.int .u64 n]) w (.string (S (vput n.toNat))) := by
  have := rput_ok n.toNat w (by omega)
  rwa [Int.toNat_of_nonneg h0] at this
theorem text_ok (l : List UInt8) (w : World) (hl : l.length ≤ 140737488355328) :
    Fn Tryd.prog 66 #[.string (S l)] w (fun x w' => x = .string (S (vtext l)) ∧ Ext w w') := by
  have hx : Ext w w := Ext.rfl' w
  refine enter (N := 9) (args := [.string (S l)]) Tryd.func66 rfl rfl rfl ?_
  intro a ha
  simp only [argEnv, Nat.zero_add, Nat.reduceAdd] at ha
  refine wseq ?_
  refine regp (ρ' := [(0, .string (S l))]) (C := []) ha [] (by kernel_rfl) .nil ?_
  clear ha a; intro a ha
  refine tn ?_
  refine wseq ?_
  have hv := (vput_len l.length).1
  refine reg hmix (ρ' := [(2, .string (S ((vput l.length) ++ l)))]) (C := [InR .u64 ((l.length : Nat) : Int), CallOk Tryd.prog w 46 #[.int .u64 ((l.length : Nat) : Int)] (.string (S (vput l.length))), ((vput l.length) : List UInt8).length + (l : List UInt8).length ≤ 9223372036854775807]) ha [(3, .val (.string (S (vput l.length))))] (by kernel_rfl) (.cons (by unfold InR; omega) (.cons (fun w _ => put_ok _ w (by first | omega | (have := vget_lt; omega))) (.cons (by first | omega | (simp only [List.length_cons, List.length_nil, List.length_append, List.length_take, List.length_drop]; omega)) .nil))) ?_
  clear ha a; intro a w1 ha he
  replace hx := hx.tr he
  clear he
  refine tn ?_
  refine wret ?_
  refine fin ha (.tmp rfl .nil) ?_
  exact ⟨rfl, hx⟩
theorem rtext_ok (l : List UInt8) (w : World) (hl : l.length ≤ 140737488355328) :
    Fn Tryd.prog 38 #[.string (S l)] w (fun x w' => x = .string (S (vtext l)) ∧ Ext w w') := by
  have hx : Ext w w := Ext.rfl' w
  refine enter (N := 9) (args := [.string (S l)]) Tryd.func38 rfl rfl rfl ?_
  intro a ha
  simp only [argEnv, Nat.zero_add, Nat.reduceAdd] at ha
  refine wseq ?_
  refine regp (ρ' := [(0, .string (S l))]) (C := []) ha [] (by kernel_rfl) .nil ?_
  clear ha a; intro a ha
  refine tn ?_
  refine wseq ?_
  have hv := (vput_len l.length).1
  refine reg hmix (ρ' := [(2, .string (S ((vput l.length) ++ l)))]) (C := [InR .u64 ((l.length : Nat) : Int), CallOk Tryd.prog w 37 #[.int .u64 ((l.length : Nat) : Int)] (.string (S (vput l.length))), ((vput l.length) : List UInt8).length + (l : List UInt8).length ≤ 9223372036854775807]) ha [(3, .val (.string (S (vput l.length))))] (by kernel_rfl) (.cons (by unfold InR; omega) (.cons (fun w _ => rput_ok _ w (by first | omega | (have := vget_lt; omega))) (.cons (by first | omega | (simp only [List.length_cons, List.length_nil, List.length_append, List.length_take, List.length_drop]; omega)) .nil))) ?_
  clear ha a; intro a w1 ha he
  replace hx := hx.tr he
  clear he
  refine tn ?_
  refine wret ?_
  refine fin ha (.tmp rfl .nil) ?_
  exact ⟨rfl, hx⟩
end Go.Kn
end
section
set_option linter.unusedSimpArgs false
set_option linter.unusedVariables false
set_option maxRecDepth 100000
namespace Go.Kn
open Go.Proofs
end Go.Kn
end
section
set_option linter.unusedSimpArgs false
set_option linter.unusedVariables false
set_option maxRecDepth 100000
namespace Go.Kn
open Go.Proofs
theorem mkRes1 (v : Value) : mkRes [v] = v := rfl
theorem keyU32 : KeyOk (fun n : Nat => Value.int .u32 (n : Int)) (.int .u32) := ⟨fun x => by simp [Go.MapKept.IsKey], fun x y h => by injection h with _ h; omega⟩
theorem key_ok (l : List UInt8) (w : World) (hl : 4 ≤ l.length) :
    Fn Tryd.prog 82 #[.string (S l)] w (fun x w' => x = .int .u32 ((lkey l : Nat) : Int) ∧ Ext w w') := by
  have hx : Ext w w := Ext.rfl' w
  refine enter (N := 21) (args := [.string (S l)]) Tryd.func82 rfl rfl rfl ?_
  intro a ha
  simp only [argEnv, Nat.zero_add, Nat.reduceAdd] at ha
  refine wseq ?_
  refine regp (ρ' := [(0, .string (S l))]) (C := []) ha [] (by kernel_rfl) .nil ?_
  clear ha a; intro a ha
  refine tn ?_
  refine wseq ?_
  have g0 := getD_toNat_lt l 0
  have g1 := getD_toNat_lt l 1
  have g2 := getD_toNat_lt l 2
  have g3 := getD_toNat_lt l 3
  have o1 := or8 (l.getD 1 0).toNat g0
  have o2 := or16i (l.getD 2 0).toNat (show ((l.getD 0 0).toNat ||| (l.getD 1 0).toNat * 256) < 65536 by omega)
  have o3 := or24i (l.getD 3 0).toNat (show ((l.getD 0 0).toNat ||| (l.getD 1 0).toNat * 256 ||| ((((l.getD 2 0).toNat : Nat) : Int) * 2 ^ 16).toNat) < 16777216 by omega)
  have p2 := sh16 (l.getD 2 0).toNat g2
  have p3 := sh24 (l.getD 3 0).toNat g3
  refine reg hmix (ρ' := [(2, .int .u32 ((((((l.getD 0 0).toNat) ||| (((l.getD 1 0).toNat) * 256)) ||| (((((l.getD 2 0).toNat : Nat) : Int) * 2 ^ 16) : Int).toNat) ||| (((((l.getD 3 0).toNat : Nat) : Int) * 2 ^ 24) : Int).toNat : Nat) : Int))]) (C := [0 ≤ (0 : Int) ∧ 0 < (l.length : Int), InR .u32 (((l.getD 0 0).toNat : Nat) : Int), 0 ≤ (1 : Int) ∧ 1 < (l.length : Int), InR .u32 (((l.getD 1 0).toNat : Nat) : Int), 0 ≤ (8 : Int), InR .u32 ((((l.getD 1 0).toNat) * 256 : Nat) : Int), NN .u32 (((l.getD 0 0).toNat : Nat) : Int), NN .u32 ((((l.getD 1 0).toNat) * 256 : Nat) : Int), 0 ≤ (2 : Int) ∧ 2 < (l.length : Int), InR .u32 (((l.getD 2 0).toNat : Nat) : Int), 0 ≤ (16 : Int), InR .u32 ((((l.getD 2 0).toNat : Nat) : Int) * 2 ^ 16), NN .u32 ((((l.getD 0 0).toNat) ||| (((l.getD 1 0).toNat) * 256) : Nat) : Int), NN .u32 ((((l.getD 2 0).toNat : Nat) : Int) * 2 ^ 16), 0 ≤ (3 : Int) ∧ 3 < (l.length : Int), InR .u32 (((l.getD 3 0).toNat : Nat) : Int), 0 ≤ (24 : Int), InR .u32 ((((l.getD 3 0).toNat : Nat) : Int) * 2 ^ 24), NN .u32 (((((l.getD 0 0).toNat) ||| (((l.getD 1 0).toNat) * 256)) ||| (((((l.getD 2 0).toNat : Nat) : Int) * 2 ^ 16) : Int).toNat : Nat) : Int), NN .u32 ((((l.getD 3 0).toNat : Nat) : Int) * 2 ^ 24)]) ha [] (by kernel_rfl) (.cons ⟨by omega, by omega⟩ (.cons (by unfold InR; omega) (.cons ⟨by omega, by omega⟩ (.cons (by unfold InR; omega) (.cons (by omega) (.cons (by unfold InR; omega) (.cons (by first | (refine nn32 ?_; (repeat' (first | exact Wn.at_lt _ _ | exact rotr_lt _ _ | apply xor32 | apply and32 | exact mod32 _ | apply div32 | assumption | omega)); done) | (unfold NN InR; omega)) (.cons (by first | (refine nn32 ?_; (repeat' (first | exact Wn.at_lt _ _ | exact rotr_lt _ _ | apply xor32 | apply and32 | exact mod32 _ | apply div32 | assumption | omega)); done) | (unfold NN InR; omega)) (.cons ⟨by omega, by omega⟩ (.cons (by unfold InR; omega) (.cons (by omega) (.cons (by unfold InR; omega) (.cons (by first | (refine nn32 ?_; (repeat' (first | exact Wn.at_lt _ _ | exact rotr_lt _ _ | apply xor32 | apply and32 | exact mod32 _ | apply div32 | assumption | omega)); done) | (unfold NN InR; omega)) (.cons (by first | (refine nn32 ?_; (repeat' (first | exact Wn.at_lt _ _ | exact rotr_lt _ _ | apply xor32 | apply and32 | exact mod32 _ | apply div32 | assumption | omega)); done) | (unfold NN InR; omega)) (.cons ⟨by omega, by omega⟩ (.cons (by unfold InR; omega) (.cons (by omega) (.cons (by unfold InR; omega) (.cons (by first | (refine nn32 ?_; (repeat' (first | exact Wn.at_lt _ _ | exact rotr_lt _ _ | apply xor32 | apply and32 | exact mod32 _ | apply div32 | assumption | omega)); done) | (unfold NN InR; omega)) (.cons (by first | (refine nn32 ?_; (repeat' (first | exact Wn.at_lt _ _ | exact rotr_lt _ _ | apply xor32 | apply and32 | exact mod32 _ | apply div32 | assumption | omega)); done) | (unfold NN InR; omega)) .nil)))))))))))))))))))) ?_
  clear ha a; intro a w1 ha he
  replace hx := hx.tr he
  clear he
  refine tn ?_
  refine wret ?_
  refine fin ha (.tmp rfl .nil) ?_
  exact ⟨by rw [o3, o2, o1]; unfold lkey; exact mkRes1 _, hx⟩
theorem alike_ok (s : List UInt8) (p q : Nat) (w : World) (hab : p < q) (hb : q ≤ s.length) (hs : s.length ≤ 1000000) :
    Fn Tryd.prog 83 #[.string (S s), .int .i64 ((p : Nat) : Int), .int .i64 ((q : Nat) : Int)] w (fun x w' => x = .int .i64 ((lpre (s.drop p) (s.drop q) : Nat) : Int) ∧ Ext w w') := by
  have hx : Ext w w := Ext.rfl' w
  refine enter (N := 30) (args := [.string (S s), .int .i64 ((p : Nat) : Int), .int .i64 ((q : Nat) : Int)]) Tryd.func83 rfl rfl rfl ?_
  intro a ha
  simp only [argEnv, Nat.zero_add, Nat.reduceAdd] at ha
  refine wseq ?_
  refine regp (ρ' := [(0, .string (S s)), (1, .int .i64 ((p : Nat) : Int)), (2, .int .i64 ((q : Nat) : Int))]) (C := []) ha [] (by kernel_rfl) .nil ?_
  clear ha a; intro a ha
  refine tn ?_
  refine wseq ?_
  refine regp (ρ' := [(0, .string (S s)), (1, .int .i64 ((p : Nat) : Int)), (2, .int .i64 ((q : Nat) : Int)), (7, .int .i64 0)]) (C := []) ha [] (by kernel_rfl) .nil ?_
  clear ha a; intro a ha
  refine tn ?_
  refine wseq ?_
  refine wblk ?_
  refine wloop (fun zz a w1 => ∃ (n : Nat), zz = s.length - n ∧ On 30 [(0, .string (S s)), (1, .int .i64 ((p : Nat) : Int)), (2, .int .i64 ((q : Nat) : Int)), (7, .int .i64 ((n : Nat) : Int))] a ∧ Ext w w1 ∧ (q + n ≤ s.length) ∧ (lpre (s.drop p) (s.drop q) = n + lpre (s.drop (p + n)) (s.drop (q + n)))) _ ⟨0, rfl, ha.sub (ρ' := [(0, .string (S s)), (1, .int .i64 ((p : Nat) : Int)), (2, .int .i64 ((q : Nat) : Int)), (7, .int .i64 ((0 : Nat) : Int))]) (by kernel_rfl), hx, by omega, by simp⟩ ?_
  clear ha hx
  rintro zz a w2 ⟨n, hzz, ha, hx, hn, hp⟩
  refine wseq ?_
  refine wseq ?_
  refine reg hmix (ρ' := [(0, .string (S s)), (1, .int .i64 ((p : Nat) : Int)), (2, .int .i64 ((q : Nat) : Int)), (7, .int .i64 ((n : Nat) : Int)), (26, .bool ((decide (((q + n : Nat) : Int) < ((s.length : Nat) : Int))) && (decide ((((s.getD (p + n) 0).toNat : Nat) : Int) = (((s.getD (q + n) 0).toNat : Nat) : Int)))))]) (C := [InR .i64 ((q + n : Nat) : Int), (decide (((q + n : Nat) : Int) < ((s.length : Nat) : Int))) = true → All [InR .i64 ((p + n : Nat) : Int), 0 ≤ ((p + n : Nat) : Int) ∧ ((p + n : Nat) : Int) < (s.length : Int), InR .i64 ((q + n : Nat) : Int), 0 ≤ ((q + n : Nat) : Int) ∧ ((q + n : Nat) : Int) < (s.length : Int)]]) ha [] (by kernel_rfl) (.cons (by unfold InR; omega) (.cons (fun hg7 => by replace hg7 := of_decide_eq_true hg7; exact (.cons (by unfold InR; omega) (.cons ⟨by omega, by omega⟩ (.cons (by unfold InR; omega) (.cons ⟨by omega, by omega⟩ .nil))))) .nil)) ?_
  clear ha a; intro a w3 ha he
  replace hx := hx.tr he
  clear he
  refine tn ?_
  refine wif ha rfl (fun h26 => ?_) (fun h26 => ?_)
  · simp only [Bool.not_eq_true', Bool.not_eq_false', Bool.and_eq_true, Bool.or_eq_true, Bool.and_eq_false_iff, Bool.or_eq_false_iff, decide_eq_true_eq, decide_eq_false_iff_not, Bool.not_eq_true, Decidable.not_not] at h26
    refine wskip ?_
    refine tn ?_
    refine wblk ?_
    refine regp (ρ' := [(0, .string (S s)), (1, .int .i64 ((p : Nat) : Int)), (2, .int .i64 ((q : Nat) : Int)), (7, .int .i64 ((n + 1 : Nat) : Int))]) (C := [InR .i64 ((n + 1 : Nat) : Int)]) ha [] (by kernel_rfl) (.cons (by unfold InR; omega) .nil) ?_
    clear ha a; intro a ha
    refine bn ?_
    exact tn ⟨s.length - ((n + 1)), by omega, (n + 1), rfl, ha.sub (ρ' := [(0, .string (S s)), (1, .int .i64 ((p : Nat) : Int)), (2, .int .i64 ((q : Nat) : Int)), (7, .int .i64 (((n + 1) : Nat) : Int))]) (by kernel_rfl), hx, by omega, by rw [hp, lpre_go (by omega) (by omega) (u8_eq h26.2), Nat.add_assoc n, Nat.add_comm 1]; rfl⟩
  · simp only [Bool.not_eq_true', Bool.not_eq_false', Bool.and_eq_true, Bool.or_eq_true, Bool.and_eq_false_iff, Bool.or_eq_false_iff, decide_eq_true_eq, decide_eq_false_iff_not, Bool.not_eq_true, Decidable.not_not] at h26
    have hz : lpre (s.drop (p + n)) (s.drop (q + n)) = 0 := lpre_stop (h26.elim (fun h => .inl (by omega)) (fun h => .inr (u8_ne h)))
    refine wexit ?_
    refine (te (te (be ?_)))
    refine tn ?_
    refine wseq ?_
    refine regp (ρ' := [(6, .int .i64 ((n : Nat) : Int))]) (C := []) ha [] (by kernel_rfl) .nil ?_
    clear ha a; intro a ha
    refine tn ?_
    refine wret ?_
    refine fin ha (.tmp rfl .nil) ?_
    exact ⟨by rw [hp, hz]; rfl, hx⟩
theorem plain_ok (l : List UInt8) (w : World) (hl : l.length ≤ 1000000) :
    Fn Tryd.prog 84 #[.string (S l)] w (fun x w' => x = .string (S (lpl l)) ∧ Ext w w') := by
  have hx : Ext w w := Ext.rfl' w
  refine enter (N := 12) (args := [.string (S l)]) Tryd.func84 rfl rfl rfl ?_
  intro a ha
  simp only [argEnv, Nat.zero_add, Nat.reduceAdd] at ha
  refine wseq ?_
  refine regp (ρ' := [(0, .string (S l))]) (C := []) ha [] (by kernel_rfl) .nil ?_
  clear ha a; intro a ha
  refine tn ?_
  refine wseq ?_
  refine wseq ?_
  refine regp (ρ' := [(0, .string (S l)), (4, .bool (decide ((l : List UInt8) = ([] : List UInt8))))]) (C := []) ha [] (by kernel_rfl) .nil ?_
  clear ha a; intro a ha
  refine tn ?_
  refine wif ha rfl (fun h4 => ?_) (fun h4 => ?_)
  · replace h4 := of_decide_eq_true h4
    have hres : lpl l = [] := by unfold lpl; rw [if_pos h4]
    refine wseq ?_
    refine regp (ρ' := [(2, .string (S []))]) (C := []) ha [] (by kernel_rfl) .nil ?_
    clear ha a; intro a ha
    refine tn ?_
    refine wret ?_
    refine (tr ?_)
    refine fin ha (.tmp rfl .nil) ?_
    exact ⟨by rw [hres]; rfl, hx⟩
  · replace h4 := of_decide_eq_false h4
    have hres : lpl l = vput (2 * l.length) ++ l := by unfold lpl; rw [if_neg h4]
    have hv := vput_len (2 * l.length)
    refine wskip ?_
    refine tn ?_
    refine wseq ?_
    refine reg hmix (ρ' := [(2, .string (S ((vput (2 * l.length)) ++ l)))]) (C := [InR .i64 ((2 * l.length : Nat) : Int), InR .u64 ((2 * l.length : Nat) : Int), CallOk Tryd.prog w 46 #[.int .u64 ((2 * l.length : Nat) : Int)] (.string (S (vput (2 * l.length)))), ((vput (2 * l.length)) : List UInt8).length + (l : List UInt8).length ≤ 9223372036854775807]) ha [(4, .val (.string (S (vput (2 * l.length)))))] (by kernel_rfl) (.cons (by unfold InR; omega) (.cons (by unfold InR; omega) (.cons (fun w _ => put_ok _ w (by first | omega | (have := vget_lt; omega))) (.cons (by first | omega | (simp only [List.length_cons, List.length_nil, List.length_append, List.length_take, List.length_drop]; omega)) .nil)))) ?_
    clear ha a; intro a w1 ha he
    replace hx := hx.tr he
    clear he
    refine tn ?_
    refine wret ?_
    refine fin ha (.tmp rfl .nil) ?_
    exact ⟨by rw [hres]; rfl, hx⟩
theorem pack_ok (s : List UInt8) (w : World) (hs : s.length ≤ 100000) :
    Fn Tryd.prog 67 #[.string (S s)] w (fun x w' => x = .string (S (lzPack s)) ∧ Ext w w') := by
  have hx : Ext w w := Ext.rfl' w
  refine enter (N := 85) (args := [.string (S s)]) Tryd.func67 rfl rfl rfl ?_
  intro a ha
  simp only [argEnv, Nat.zero_add, Nat.reduceAdd] at ha
  refine wseq ?_
  refine regp (ρ' := [(0, .string (S s))]) (C := []) ha [] (by kernel_rfl) .nil ?_
  clear ha a; intro a ha
  refine tn ?_
  refine wseq ?_
  refine reg_list ?_
  refine lnewM (fun n : Nat => .int .u32 (n : Int)) (fun n : Nat => .int .i64 (n : Int)) ha rfl (by kernel_rfl) rfl ?_
  clear ha a; intro m w1 he hb_m hM_m a ha
  replace hb_m := Nat.le_trans hx.size hb_m
  replace hx := hx.tr he
  clear he
  refine segp (ρ' := [(0, .string (S s)), (3, .map (some m))]) (C := []) ha 1 [] rfl (by kernel_rfl) .nil ?_
  clear ha a; intro a ha
  refine lnil ?_
  replace ha := ha.sub (ρ' := [(0, .string (S s)), (3, .map (some m))]) (by kernel_rfl)
  refine tn ?_
  refine wseq ?_
  refine reg_list ?_
  refine lnewS ha rfl (by kernel_rfl) #[.int .u8 1] 5 1 (by kernel_rfl) ?_
  clear ha a; intro b2 w3 he hb_b2 hB_b2 a ha
  replace hM_m := mapE he hM_m
  replace hb_b2 := Nat.le_trans hx.size hb_b2
  replace hx := hx.tr he
  clear he
  refine segp (ρ' := [(0, .string (S s)), (3, .map (some m)), (4, .string (S [UInt8.ofNat 1]))]) (C := [RunOk Tryd.prog w3 (convert 50 9 (.slice (some ⟨b2, 0, none⟩) 1 1)) (.string (S [UInt8.ofNat 1]))]) ha 2 [(0, .val (.string (S [UInt8.ofNat 1])))] rfl (by kernel_rfl) (.cons (cvBlk (e := 5) (zs := [(1 : Int)]) (by kernel_rfl) (by kernel_rfl) (by kernel_rfl) hB_b2 rfl rfl) .nil) ?_
  clear ha a; intro a ha
  refine lnil ?_
  replace ha := ha.sub (ρ' := [(0, .string (S s)), (3, .map (some m)), (4, .string (S [UInt8.ofNat 1]))]) (by kernel_rfl)
  rw [show ([UInt8.ofNat 1] : List UInt8) = (1 :: ([] : List Tok).flatMap tenc) from rfl] at ha
  refine tn ?_
  refine wseq ?_
  refine regp (ρ' := [(0, .string (S s)), (3, .map (some m)), (4, .string (S (1 :: ([] : List Tok).flatMap tenc))), (5, .int .i64 0)]) (C := []) ha [] (by kernel_rfl) .nil ?_
  clear ha a; intro a ha
  refine tn ?_
  refine wseq ?_
  refine wseq ?_
  refine regp (ρ' := [(0, .string (S s)), (3, .map (some m)), (4, .string (S (1 :: ([] : List Tok).flatMap tenc))), (5, .int .i64 0), (6, .int .i64 0)]) (C := []) ha [] (by kernel_rfl) .nil ?_
  clear ha a; intro a ha
  refine tn ?_
  refine wblk ?_
  refine wloop (fun zz a w4 => ∃ (f i fr : Nat) (M : List (Nat × Nat)) (ts : List Tok), zz = f ∧ On 85 [(0, .string (S s)), (3, .map (some m)), (4, .string (S (1 :: ts.flatMap tenc))), (5, .int .i64 ((fr : Nat) : Int)), (6, .int .i64 ((i : Nat) : Int))] a ∧ Ext w w4 ∧ w4.heap[b2]? = some (.cells #[.int .u8 1] 5 (0, 0)) ∧ MapR (fun n : Nat => .int .u32 (n : Int)) (fun n : Nat => .int .i64 (n : Int)) w4 m M ∧ (s.length - i < f) ∧ (PkInv s M i fr ts) ∧ (lzSteps s = pkgo s f M i fr ts)) _ ⟨(s.length + 1), 0, 0, [], [], rfl, ha.sub (ρ' := [(0, .string (S s)), (3, .map (some m)), (4, .string (S (1 :: [].flatMap tenc))), (5, .int .i64 ((0 : Nat) : Int)), (6, .int .i64 ((0 : Nat) : Int))]) (by kernel_rfl), hx, hB_b2, hM_m, by omega, pk_init s, rfl⟩ ?_
  clear ha hx hB_b2 hM_m
  rintro zz a w5 ⟨f, i, fr, M, ts, hzz, ha, hx, hB_b2, hM_m, hf, inv, hgo⟩
  obtain ⟨f, rfl⟩ : ∃ f', f = f' + 1 := ⟨f - 1, by omega⟩
  have hfr := inv.fr_le
  have hile := inv.i_le
  have hlen := inv.len
  have hat := pk_at inv (lkey (s.drop i))
  refine wseq ?_
  refine wseq ?_
  refine regp (ρ' := [(0, .string (S s)), (3, .map (some m)), (4, .string (S (1 :: ts.flatMap tenc))), (5, .int .i64 ((fr : Nat) : Int)), (6, .int .i64 ((i : Nat) : Int)), (18, .bool (decide (((i + 4 : Nat) : Int) ≤ ((s.length : Nat) : Int))))]) (C := [InR .i64 ((i + 4 : Nat) : Int)]) ha [] (by kernel_rfl) (.cons (by unfold InR; omega) .nil) ?_
  clear ha a; intro a ha
  refine tn ?_
  refine wif ha rfl (fun h18 => ?_) (fun h18 => ?_)
  · replace h18 := of_decide_eq_true h18
    have h18n : i + 4 ≤ s.length := by omega
    refine wskip ?_
    refine tn ?_
    refine wblk ?_
    refine wseq ?_
    refine reg hmix (ρ' := [(0, .string (S s)), (3, .map (some m)), (4, .string (S (1 :: ts.flatMap tenc))), (5, .int .i64 ((fr : Nat) : Int)), (6, .int .i64 ((i : Nat) : Int)), (7, .int .u32 ((lkey (s.drop i) : Nat) : Int))]) (C := [0 ≤ ((i : Nat) : Int) ∧ ((i : Nat) : Int) ≤ (s.length : Int), CallOk Tryd.prog w5 82 #[.string (S (s.drop i))] (.int .u32 ((lkey (s.drop i) : Nat) : Int))]) ha [(3, .val (.int .u32 ((lkey (s.drop i) : Nat) : Int)))] (by kernel_rfl) (.cons ⟨by omega, by omega⟩ (.cons (fun w _ => key_ok _ w (by simp only [List.length_drop]; omega)) .nil)) ?_
    clear ha a; intro a w6 ha he
    replace hx := hx.tr he
    replace hB_b2 := keepB he hB_b2
    replace hM_m := mapE he hM_m
    clear he
    refine tn ?_
    refine wseq ?_
    refine regp (ρ' := [(0, .string (S s)), (3, .map (some m)), (4, .string (S (1 :: ts.flatMap tenc))), (5, .int .i64 ((fr : Nat) : Int)), (6, .int .i64 ((i : Nat) : Int)), (7, .int .u32 ((lkey (s.drop i) : Nat) : Int)), (8, .int .i64 ((((mget M (lkey (s.drop i))).getD 0) : Nat) : Int)), (9, .bool ((mget M (lkey (s.drop i))).isSome))]) (C := [RunOk Tryd.prog w6 (Instr.lookup 129 (.map (some m)) (.int .u32 ((lkey (s.drop i) : Nat) : Int)) true) (.tuple #[.int .i64 ((((mget M (lkey (s.drop i))).getD 0) : Nat) : Int), .bool ((mget M (lkey (s.drop i))).isSome)])]) ha [(2, .val (.tuple #[.int .i64 ((((mget M (lkey (s.drop i))).getD 0) : Nat) : Int), .bool ((mget M (lkey (s.drop i))).isSome)]))] (by kernel_rfl) (.cons (lkM (ek := fun n : Nat => .int .u32 (n : Int)) (ev := fun n : Nat => .int .i64 (n : Int)) (k := (lkey (s.drop i))) (z := 0) (show Tryd.prog.underlying 129 = some (.map 59 3) by kernel_rfl) (show Tryd.prog.underlying 59 = some (.int .u32) by kernel_rfl) keyU32 (show zeroB Tryd.prog 3 = some ((fun n : Nat => .int .i64 (n : Int)) 0) by kernel_rfl) hM_m) .nil) ?_
    clear ha a; intro a ha
    refine tn ?_
    refine wseq ?_
    refine reg_list ?_
    refine segp (ρ' := [(0, .string (S s)), (3, .map (some m)), (4, .string (S (1 :: ts.flatMap tenc))), (5, .int .i64 ((fr : Nat) : Int)), (6, .int .i64 ((i : Nat) : Int)), (8, .int .i64 ((((mget M (lkey (s.drop i))).getD 0) : Nat) : Int)), (9, .bool ((mget M (lkey (s.drop i))).isSome)), (29, .map (some m)), (30, .int .u32 ((lkey (s.drop i) : Nat) : Int)), (31, .int .i64 ((i : Nat) : Int))]) (C := []) ha 3 [] rfl (by kernel_rfl) .nil ?_
    clear ha a; intro a ha
    refine lmset (ek := fun n : Nat => .int .u32 (n : Int)) (ev := fun n : Nat => .int .i64 (n : Int)) (k := (lkey (s.drop i))) (v := i) ha rfl rfl (by kernel_rfl) rfl (show Tryd.prog.underlying 129 = some (.map 59 3) by kernel_rfl) (show Tryd.prog.underlying 59 = some (.int .u32) by kernel_rfl) keyU32 hM_m rfl rfl rfl ?_
    clear ha a; intro w7 ob8 hc hm' a ha
    replace hB_b2 := chgM_keep (o' := ob8) hM_m hc hB_b2
    replace hx := hc.ext hx hb_m
    clear hc; replace hM_m := hm'; clear hm'
    refine lnil ?_
    replace ha := ha.sub (ρ' := [(0, .string (S s)), (3, .map (some m)), (4, .string (S (1 :: ts.flatMap tenc))), (5, .int .i64 ((fr : Nat) : Int)), (6, .int .i64 ((i : Nat) : Int)), (8, .int .i64 ((((mget M (lkey (s.drop i))).getD 0) : Nat) : Int)), (9, .bool ((mget M (lkey (s.drop i))).isSome))]) (by kernel_rfl)
    refine tn ?_
    refine wseq ?_
    refine wseq ?_
    refine regp (ρ' := [(0, .string (S s)), (3, .map (some m)), (4, .string (S (1 :: ts.flatMap tenc))), (5, .int .i64 ((fr : Nat) : Int)), (6, .int .i64 ((i : Nat) : Int)), (8, .int .i64 ((((mget M (lkey (s.drop i))).getD 0) : Nat) : Int)), (39, .bool ((!((mget M (lkey (s.drop i))).isSome)) || (decide ((65535 : Int) < (((i : Nat) : Int) - ((((mget M (lkey (s.drop i))).getD 0) : Nat) : Int))))))]) (C := [(!((mget M (lkey (s.drop i))).isSome)) = false → All [InR .i64 (((i : Nat) : Int) - ((((mget M (lkey (s.drop i))).getD 0) : Nat) : Int))]]) ha [] (by kernel_rfl) (.cons (fun hg3 => by simp only [Bool.not_eq_true', Bool.not_eq_false', Bool.and_eq_true, Bool.or_eq_true, Bool.and_eq_false_iff, Bool.or_eq_false_iff, decide_eq_true_eq, decide_eq_false_iff_not, Bool.not_eq_true, Decidable.not_not] at hg3; exact (.cons (by unfold InR; omega) .nil)) .nil) ?_
    clear ha a; intro a ha
    refine tn ?_
    refine wif ha rfl (fun h39 => ?_) (fun h39 => ?_)
    · simp only [Bool.not_eq_true', Bool.not_eq_false', Bool.and_eq_true, Bool.or_eq_true, Bool.and_eq_false_iff, Bool.or_eq_false_iff, decide_eq_true_eq, decide_eq_false_iff_not, Bool.not_eq_true, Decidable.not_not] at h39
      refine wseq ?_
      refine regp (ρ' := [(0, .string (S s)), (3, .map (some m)), (4, .string (S (1 :: ts.flatMap tenc))), (5, .int .i64 ((fr : Nat) : Int)), (6, .int .i64 ((i + 1 : Nat) : Int))]) (C := [InR .i64 ((i + 1 : Nat) : Int)]) ha [] (by kernel_rfl) (.cons (by unfold InR; omega) .nil) ?_
      clear ha a; intro a ha
      refine tn ?_
      refine wexit ?_
      refine (te (be ?_))
      exact tn ⟨f, by omega, f, (i + 1), fr, (mset M (lkey (s.drop i)) i), ts, rfl, ha.sub (ρ' := [(0, .string (S s)), (3, .map (some m)), (4, .string (S (1 :: ts.flatMap tenc))), (5, .int .i64 ((fr : Nat) : Int)), (6, .int .i64 (((i + 1) : Nat) : Int))]) (by kernel_rfl), hx, hB_b2, hM_m, by omega, pk_step inv h18n, by rw [hgo]; exact pk_next h18n h39⟩
    · simp only [Bool.not_eq_true', Bool.not_eq_false', Bool.and_eq_true, Bool.or_eq_true, Bool.and_eq_false_iff, Bool.or_eq_false_iff, decide_eq_true_eq, decide_eq_false_iff_not, Bool.not_eq_true, Decidable.not_not] at h39
      obtain ⟨p, hp⟩ := Option.isSome_iff_exists.1 h39.1
      rw [show (((((mget M (lkey (s.drop i))).getD 0) : Nat) : Int) : Int) = ((p : Nat) : Int) from by rw [hp]; rfl] at ha h39
      obtain ⟨hp1, hp2, hp3⟩ := pk_pre inv h18n hp
      refine wskip ?_
      refine tn ?_
      refine wseq ?_
      refine reg hmix (ρ' := [(0, .string (S s)), (3, .map (some m)), (4, .string (S (1 :: ts.flatMap tenc))), (5, .int .i64 ((fr : Nat) : Int)), (6, .int .i64 ((i : Nat) : Int)), (8, .int .i64 ((p : Nat) : Int)), (10, .int .i64 ((lpre (s.drop p) (s.drop i) : Nat) : Int))]) (C := [CallOk Tryd.prog w7 83 #[.string (S s), .int .i64 ((p : Nat) : Int), .int .i64 ((i : Nat) : Int)] (.int .i64 ((lpre (s.drop p) (s.drop i) : Nat) : Int))]) ha [(3, .val (.int .i64 ((lpre (s.drop p) (s.drop i) : Nat) : Int)))] (by kernel_rfl) (.cons (fun w _ => alike_ok _ _ _ w (by omega) (by omega) (by omega)) .nil) ?_
      clear ha a; intro a w9 ha he
      replace hx := hx.tr he
      replace hB_b2 := keepB he hB_b2
      replace hM_m := mapE he hM_m
      clear he
      refine tn ?_
      refine wseq ?_
      have hq := lpl_len ((s.drop fr).take (i - fr))
      simp only [List.length_take, List.length_drop] at hq
      have hv1 := vput_len (2 * lpre (s.drop p) (s.drop i) + 1)
      have hv2 := vput_len ((i : Int) - (p : Int)).toNat
      refine reg hmix (ρ' := [(0, .string (S s)), (3, .map (some m)), (4, .string (S ((1 :: ts.flatMap tenc) ++ (((lpl ((s.drop fr).take (i - fr))) ++ (vput ((2 * (lpre (s.drop p) (s.drop i))) + 1))) ++ (vput (((((i : Nat) : Int) - ((p : Nat) : Int)) : Int).toNat)))))), (6, .int .i64 ((i : Nat) : Int)), (10, .int .i64 ((lpre (s.drop p) (s.drop i) : Nat) : Int))]) (C := [0 ≤ ((fr : Nat) : Int) ∧ ((fr : Nat) : Int) ≤ ((i : Nat) : Int) ∧ ((i : Nat) : Int) ≤ (s.length : Int), CallOk Tryd.prog w9 84 #[.string (S ((s.drop fr).take (i - fr)))] (.string (S (lpl ((s.drop fr).take (i - fr))))), InR .i64 ((2 * (lpre (s.drop p) (s.drop i)) : Nat) : Int), InR .i64 (((2 * (lpre (s.drop p) (s.drop i))) + 1 : Nat) : Int), InR .u64 (((2 * (lpre (s.drop p) (s.drop i))) + 1 : Nat) : Int), CallOk Tryd.prog w9 46 #[.int .u64 (((2 * (lpre (s.drop p) (s.drop i))) + 1 : Nat) : Int)] (.string (S (vput ((2 * (lpre (s.drop p) (s.drop i))) + 1)))), (lpl ((s.drop fr).take (i - fr)) : List UInt8).length + ((vput ((2 * (lpre (s.drop p) (s.drop i))) + 1)) : List UInt8).length ≤ 9223372036854775807, InR .i64 (((i : Nat) : Int) - ((p : Nat) : Int)), InR .u64 (((i : Nat) : Int) - ((p : Nat) : Int)), CallOk Tryd.prog w9 46 #[.int .u64 (((i : Nat) : Int) - ((p : Nat) : Int))] (.string (S (vput (((((i : Nat) : Int) - ((p : Nat) : Int)) : Int).toNat)))), (((lpl ((s.drop fr).take (i - fr))) ++ (vput ((2 * (lpre (s.drop p) (s.drop i))) + 1))) : List UInt8).length + ((vput (((((i : Nat) : Int) - ((p : Nat) : Int)) : Int).toNat)) : List UInt8).length ≤ 9223372036854775807, ((1 :: ts.flatMap tenc) : List UInt8).length + ((((lpl ((s.drop fr).take (i - fr))) ++ (vput ((2 * (lpre (s.drop p) (s.drop i))) + 1))) ++ (vput (((((i : Nat) : Int) - ((p : Nat) : Int)) : Int).toNat))) : List UInt8).length ≤ 9223372036854775807]) ha [(5, .val (.string (S (lpl ((s.drop fr).take (i - fr)))))), (10, .val (.string (S (vput ((2 * (lpre (s.drop p) (s.drop i))) + 1))))), (16, .val (.string (S (vput (((((i : Nat) : Int) - ((p : Nat) : Int)) : Int).toNat)))))] (by kernel_rfl) (.cons ⟨by omega, by omega, by omega⟩ (.cons (fun w _ => plain_ok _ w (by simp only [List.length_take, List.length_drop]; omega)) (.cons (by unfold InR; omega) (.cons (by unfold InR; omega) (.cons (by unfold InR; omega) (.cons (fun w _ => put_ok _ w (by first | omega | (have := vget_lt; omega))) (.cons (by first | omega | (simp only [List.length_cons, List.length_nil, List.length_append, List.length_take, List.length_drop]; omega)) (.cons (by unfold InR; omega) (.cons (by unfold InR; omega) (.cons (fun w _ => put_okI _ w (by omega) (by omega)) (.cons (by first | omega | (simp only [List.length_cons, List.length_nil, List.length_append, List.length_take, List.length_drop]; omega)) (.cons (by first | omega | (simp only [List.length_cons, List.length_nil, List.length_append, List.length_take, List.length_drop]; omega)) .nil)))))))))))) ?_
      clear ha a; intro a w10 ha he
      replace hx := hx.tr he
      replace hB_b2 := keepB he hB_b2
      replace hM_m := mapE he hM_m
      clear he
      rw [show (((1 :: ts.flatMap tenc) ++ (((lpl ((s.drop fr).take (i - fr))) ++ (vput ((2 * (lpre (s.drop p) (s.drop i))) + 1))) ++ (vput (((((i : Nat) : Int) - ((p : Nat) : Int)) : Int).toNat)))) : List UInt8) = (1 :: (ts ++ ltok ((s.drop fr).take (i - fr)) ++ [Tok.cp (lpre (s.drop p) (s.drop i)) (i - p)]).flatMap tenc) from pk_out ts _ _ i p] at ha
      refine tn ?_
      refine wseq ?_
      refine regp (ρ' := [(0, .string (S s)), (3, .map (some m)), (4, .string (S (1 :: (ts ++ ltok ((s.drop fr).take (i - fr)) ++ [Tok.cp (lpre (s.drop p) (s.drop i)) (i - p)]).flatMap tenc))), (6, .int .i64 ((i + (lpre (s.drop p) (s.drop i)) : Nat) : Int))]) (C := [InR .i64 ((i + (lpre (s.drop p) (s.drop i)) : Nat) : Int)]) ha [] (by kernel_rfl) (.cons (by unfold InR; omega) .nil) ?_
      clear ha a; intro a ha
      refine tn ?_
      refine regp (ρ' := [(0, .string (S s)), (3, .map (some m)), (4, .string (S (1 :: (ts ++ ltok ((s.drop fr).take (i - fr)) ++ [Tok.cp (lpre (s.drop p) (s.drop i)) (i - p)]).flatMap tenc))), (5, .int .i64 ((i + (lpre (s.drop p) (s.drop i)) : Nat) : Int)), (6, .int .i64 ((i + (lpre (s.drop p) (s.drop i)) : Nat) : Int))]) (C := []) ha [] (by kernel_rfl) .nil ?_
      clear ha a; intro a ha
      refine bn ?_
      exact tn ⟨f, by omega, f, (i + lpre (s.drop p) (s.drop i)), (i + lpre (s.drop p) (s.drop i)), (mset M (lkey (s.drop i)) i), (ts ++ ltok ((s.drop fr).take (i - fr)) ++ [Tok.cp (lpre (s.drop p) (s.drop i)) (i - p)]), rfl, ha.sub (ρ' := [(0, .string (S s)), (3, .map (some m)), (4, .string (S (1 :: (ts ++ ltok ((s.drop fr).take (i - fr)) ++ [Tok.cp (lpre (s.drop p) (s.drop i)) (i - p)]).flatMap tenc))), (5, .int .i64 (((i + lpre (s.drop p) (s.drop i)) : Nat) : Int)), (6, .int .i64 (((i + lpre (s.drop p) (s.drop i)) : Nat) : Int))]) (by kernel_rfl), hx, hB_b2, hM_m, by omega, pk_copy inv (by omega) h18n hp (by omega), by rw [hgo]; exact pkgo_hit h18n hp (by omega)⟩
  · replace h18 := of_decide_eq_false h18
    have hend : lzSteps s = ts ++ ltok (s.drop fr) := by rw [hgo]; exact pkgo_end (by omega)
    have hq := lpl_len (s.drop fr)
    simp only [List.length_drop] at hq
    refine wexit ?_
    refine (te (te (be ?_)))
    refine tn ?_
    refine wseq ?_
    refine reg hmix (ρ' := [(0, .string (S s)), (4, .string (S ((1 :: ts.flatMap tenc) ++ (lpl (s.drop fr)))))]) (C := [0 ≤ ((fr : Nat) : Int) ∧ ((fr : Nat) : Int) ≤ (s.length : Int), CallOk Tryd.prog w5 84 #[.string (S (s.drop fr))] (.string (S (lpl (s.drop fr)))), ((1 :: ts.flatMap tenc) : List UInt8).length + (lpl (s.drop fr) : List UInt8).length ≤ 9223372036854775807]) ha [(4, .val (.string (S (lpl (s.drop fr)))))] (by kernel_rfl) (.cons ⟨by omega, by omega⟩ (.cons (fun w _ => plain_ok _ w (by simp only [List.length_take, List.length_drop]; omega)) (.cons (by first | omega | (simp only [List.length_cons, List.length_nil, List.length_append, List.length_take, List.length_drop]; omega)) .nil))) ?_
    clear ha a; intro a w11 ha he
    replace hx := hx.tr he
    replace hB_b2 := keepB he hB_b2
    replace hM_m := mapE he hM_m
    clear he
    rw [show (((1 :: ts.flatMap tenc) ++ (lpl (s.drop fr))) : List UInt8) = (lzBody s) from by rw [lzBody, hend]; exact pk_outE ts _] at ha
    have hbl : (lzBody s).length ≤ 1 + fr * 31 + s.length + 10 := by rw [lzBody, hend, ← pk_outE, List.length_append, List.length_cons]; omega
    refine tn ?_
    refine wseq ?_
    refine wseq ?_
    refine regp (ρ' := [(0, .string (S s)), (4, .string (S (lzBody s))), (79, .bool (decide (((s.length : Nat) : Int) < (((lzBody s).length : Nat) : Int))))]) (C := []) ha [] (by kernel_rfl) .nil ?_
    clear ha a; intro a ha
    refine tn ?_
    refine wif ha rfl (fun h79 => ?_) (fun h79 => ?_)
    · replace h79 := of_decide_eq_true h79
      have hres : lzPack s = 0 :: s := by unfold lzPack; rw [if_pos (by omega)]
      refine wseq ?_
      refine reg_list ?_
      refine lnewS ha rfl (by kernel_rfl) #[.int .u8 0] 5 1 (by kernel_rfl) ?_
      clear ha a; intro b12 w13 he hb_b12 hB_b12 a ha
      have hne_b2_b12 : b2 ≠ b12 := ne_new hB_b2 hb_b12
      replace hB_b2 := keepB he hB_b2
      replace hM_m := mapE he hM_m
      replace hb_b12 := Nat.le_trans hx.size hb_b12
      replace hx := hx.tr he
      clear he
      refine segp (ρ' := [(2, .string (S ([UInt8.ofNat 0] ++ s)))]) (C := [RunOk Tryd.prog w13 (convert 50 9 (.slice (some ⟨b12, 0, none⟩) 1 1)) (.string (S [UInt8.ofNat 0])), ([UInt8.ofNat 0] : List UInt8).length + (s : List UInt8).length ≤ 9223372036854775807]) ha 4 [(0, .val (.string (S [UInt8.ofNat 0])))] rfl (by kernel_rfl) (.cons (cvBlk (e := 5) (zs := [(0 : Int)]) (by kernel_rfl) (by kernel_rfl) (by kernel_rfl) hB_b12 rfl rfl) (.cons (by first | omega | (simp only [List.length_cons, List.length_nil, List.length_append, List.length_take, List.length_drop]; omega)) .nil)) ?_
      clear ha a; intro a ha
      refine lnil ?_
      replace ha := ha.sub (ρ' := [(2, .string (S ([UInt8.ofNat 0] ++ s)))]) (by kernel_rfl)
      refine tn ?_
      refine wret ?_
      refine (tr ?_)
      refine fin ha (.tmp rfl .nil) ?_
      exact ⟨by rw [hres]; rfl, hx⟩
    · replace h79 := of_decide_eq_false h79
      have hres : lzPack s = lzBody s := by unfold lzPack; rw [if_neg (by omega)]
      refine wskip ?_
      refine tn ?_
      refine wseq ?_
      refine regp (ρ' := [(2, .string (S (lzBody s)))]) (C := []) ha [] (by kernel_rfl) .nil ?_
      clear ha a; intro a ha
      refine tn ?_
      refine wret ?_
      refine fin ha (.tmp rfl .nil) ?_
      exact ⟨by rw [hres]; rfl, hx⟩
end Go.Kn
end
section
set_option linter.unusedSimpArgs false
set_option linter.unusedVariables false
set_option maxRecDepth 100000
namespace Go.Kn
open Go.Proofs
end Go.Kn
end
section
set_option linter.unusedSimpArgs false
set_option linter.unusedVariables false
set_option maxRecDepth 100000
namespace Go.Kn
open Go.Proofs
theorem ixb_ok (l : List UInt8) (c : Int) (w : World) :
    Fn Tryd.prog 98 #[.string (S l), .int .u8 c] w (fun x w' => x = .int .i64 (Go.Lib.indexByte l c.toNat.toUInt8) ∧ Ext w w') := by
  have hx : Ext w w := Ext.rfl' w
  refine enter (N := 8) (args := [.string (S l), .int .u8 c]) Tryd.func98 rfl rfl rfl ?_
  intro a ha
  simp only [argEnv, Nat.zero_add, Nat.reduceAdd] at ha
  refine wseq ?_
  refine regp (ρ' := [(0, .string (S l)), (1, .int .u8 c)]) (C := []) ha [] (by kernel_rfl) .nil ?_
  clear ha a; intro a ha
  refine tn ?_
  refine wseq ?_
  refine reg_list ?_
  refine segp (ρ' := [(5, .string (S l)), (6, .int .u8 c)]) (C := []) ha 2 [] rfl (by kernel_rfl) .nil ?_
  clear ha a; intro a ha
  refine lext (e := Extern.BytealgIndexByte.indexByte) (vs := #[.string (S l), .int .u8 c]) (v := .int .i64 (Go.Lib.indexByte l (c : Int).toNat.toUInt8)) ha rfl (by kernel_rfl) rfl rfl (by kernel_rfl) Tryd.func103 (by kernel_rfl) (by kernel_rfl) (by kernel_rfl) (by kernel_rfl) (Go.Lib.run_indexByteString _ _ _) ?_
  clear ha a; intro a ha
  refine segp (ρ' := [(4, .int .i64 (Go.Lib.indexByte l (c : Int).toNat.toUInt8))]) (C := []) ha 1 [] rfl (by kernel_rfl) .nil ?_
  clear ha a; intro a ha
  refine lnil ?_
  replace ha := ha.sub (ρ' := [(4, .int .i64 (Go.Lib.indexByte l (c : Int).toNat.toUInt8))]) (by kernel_rfl)
  refine tn ?_
  refine wret ?_
  refine fin ha (.tmp rfl .nil) ?_
  exact ⟨rfl, hx⟩
end Go.Kn
end
section
set_option linter.unusedSimpArgs false
set_option linter.unusedVariables false
set_option maxRecDepth 100000
namespace Go.Kn
open Go.Proofs
theorem sum1_ok (t : List UInt8) (b : Nat) (w : World) (ht : t.length ≤ 1000000000) (hB : w.heap[b]? = some (.cells #[.string (S t)] 9 (0, 0))) {T0 : Nat} {f0 : Nat × Nat} (hB_0 : w.heap[0]? = some (.cells ⟨wc shaK⟩ T0 f0)) : FnV Tryd.prog 49 #[.slice (some ⟨b, 0, none⟩) 1 1] w (.agg ⟨idc (shaSum t)⟩) := by
  have h := sum_ok shaK b 0 1 [t] w (rd_block (cs := [.string (S t)]) hB rfl) (by simp) (by simp) (by simp) (by simpa using ht) hB_0
  have e : [t].flatten = t := by simp
  rw [e] at h; exact h
theorem sumO_ok (l : List (List UInt8)) (A : Option Addr) (c B : Nat) (w : World) (h : Own w B 9 1 A l.length c (l.flatMap encS)) (hne : l ≠ []) (hN : l.length ≤ 100000) (hlen : l.flatten.length ≤ 1000000000) {T0 : Nat} {f0 : Nat × Nat} (hB_0 : w.heap[0]? = some (.cells ⟨wc shaK⟩ T0 f0)) : FnV Tryd.prog 49 #[.slice A l.length c] w (.agg ⟨idc (shaSum l.flatten)⟩) := by
  obtain ⟨g, rfl, hc⟩ := own_at0 h (List.length_pos_iff.2 hne)
  exact sum_ok shaK g 0 c l w (own_rd h) hne hc hN hlen hB_0
end Go.Kn
end
section
set_option linter.unusedSimpArgs false
set_option linter.unusedVariables false
set_option maxRecDepth 100000
namespace Go.Kn
open Go.Proofs
theorem sindex_ok (A : Option Addr) (c : Nat) (l : List (List UInt8)) (x : List UInt8) (w : World) (hr : Rd w 1 A l.length (l.flatMap encS)) (hl : l.length ≤ 9223372036854775807) :
    Fn Tryd.prog 59 #[.slice A l.length c, .string (S x)] w (fun v w' => v = .int .i64 (sIdx l x) ∧ Ext w w') := by
  have hx : Ext w w := Ext.rfl' w
  refine enter (N := 19) (args := [.slice A l.length c, .string (S x)]) Tryd.func59 rfl rfl rfl ?_
  intro a ha
  simp only [argEnv, Nat.zero_add, Nat.reduceAdd] at ha
  refine wseq ?_
  refine regp (ρ' := [(0, .slice A l.length c), (1, .string (S x))]) (C := []) ha [] (by kernel_rfl) .nil ?_
  clear ha a; intro a ha
  refine tn ?_
  refine wseq ?_
  refine wseq ?_
  refine regp (ρ' := [(0, .slice A l.length c), (1, .string (S x)), (7, .int .i64 ((l.length : Nat) : Int)), (8, .int .i64 0)]) (C := []) ha [] (by kernel_rfl) .nil ?_
  clear ha a; intro a ha
  refine tn ?_
  refine wblk ?_
  refine wloop (fun zz a w1 => ∃ (i : Nat), zz = l.length - i ∧ On 19 [(0, .slice A l.length c), (1, .string (S x)), (7, .int .i64 ((l.length : Nat) : Int)), (8, .int .i64 ((i : Nat) : Int))] a ∧ Ext w w1 ∧ (i ≤ l.length) ∧ (∀ j, j < i → l.getD j default ≠ x)) _ ⟨0, rfl, ha.sub (ρ' := [(0, .slice A l.length c), (1, .string (S x)), (7, .int .i64 ((l.length : Nat) : Int)), (8, .int .i64 ((0 : Nat) : Int))]) (by kernel_rfl), hx, by omega, fun j hj => absurd hj (by omega)⟩ ?_
  clear ha hx
  rintro zz a w2 ⟨i, hzz, ha, hx, hi, hn⟩
  refine wseq ?_
  refine regp (ρ' := [(0, .slice A l.length c), (1, .string (S x)), (7, .int .i64 ((l.length : Nat) : Int)), (8, .int .i64 ((i : Nat) : Int)), (9, .bool (decide (((i : Nat) : Int) < ((l.length : Nat) : Int))))]) (C := []) ha [] (by kernel_rfl) .nil ?_
  clear ha a; intro a ha
  refine tn ?_
  refine wseq ?_
  refine wif ha rfl (fun h9 => ?_) (fun h9 => ?_)
  · replace h9 := of_decide_eq_true h9
    refine wskip ?_
    refine tn ?_
    refine wseq ?_
    refine wblk ?_
    refine wseq ?_
    refine regp (ρ' := [(0, .slice A l.length c), (1, .string (S x)), (5, .int .i64 ((i : Nat) : Int)), (7, .int .i64 ((l.length : Nat) : Int)), (8, .int .i64 ((i : Nat) : Int))]) (C := []) ha [] (by kernel_rfl) .nil ?_
    clear ha a; intro a ha
    refine tn ?_
    refine wseq ?_
    refine regp (ρ' := [(0, .slice A l.length c), (1, .string (S x)), (5, .int .i64 ((i : Nat) : Int)), (7, .int .i64 ((l.length : Nat) : Int)), (8, .int .i64 ((i : Nat) : Int)), (16, .bool (decide ((x : List UInt8) = ((l.getD i default) : List UInt8))))]) (C := [RunOk Tryd.prog w2 (Instr.indexAt 22 (.slice A l.length c) (.int .i64 ((i : Nat) : Int))) (.pointer (some ⟨ab A, ao A + i * 1, none⟩)), RunOk Tryd.prog w2 (Instr.loadAt 9 (.pointer (some ⟨ab A, ao A + i * 1, none⟩))) (.string (S (l.getD i default)))]) ha [(3, .val (.pointer (some ⟨ab A, ao A + i * 1, none⟩))), (4, .val (.string (S (l.getD i default))))] (by kernel_rfl) (.cons (ixRd (e := 9) (by kernel_rfl) (by kernel_rfl) (rdE hx hr) (by omega)) (.cons (ldRd (j := i * 1) (by kernel_rfl) (rdE hx hr) (by omega) (flat_get0 encS_len l default i (by omega) rfl)) .nil)) ?_
    clear ha a; intro a ha
    refine tn ?_
    refine wif ha rfl (fun h16 => ?_) (fun h16 => ?_)
    · replace h16 := of_decide_eq_true h16
      have hres := sIdx_at hn (by omega) h16.symm
      refine wseq ?_
      refine regp (ρ' := [(4, .int .i64 ((i : Nat) : Int))]) (C := []) ha [] (by kernel_rfl) .nil ?_
      clear ha a; intro a ha
      refine tn ?_
      refine wret ?_
      refine (br (tr (tr (br (tr ?_)))))
      refine fin ha (.tmp rfl .nil) ?_
      exact ⟨by rw [hres]; rfl, hx⟩
    · replace h16 := of_decide_eq_false h16
      refine wskip ?_
      refine bn ?_
      refine tn ?_
      refine regp (ρ' := [(0, .slice A l.length c), (1, .string (S x)), (7, .int .i64 ((l.length : Nat) : Int)), (8, .int .i64 ((i + 1 : Nat) : Int))]) (C := [InR .i64 ((i + 1 : Nat) : Int)]) ha [] (by kernel_rfl) (.cons (by unfold InR; omega) .nil) ?_
      clear ha a; intro a ha
      exact tn ⟨l.length - ((i + 1)), by omega, (i + 1), rfl, ha.sub (ρ' := [(0, .slice A l.length c), (1, .string (S x)), (7, .int .i64 ((l.length : Nat) : Int)), (8, .int .i64 (((i + 1) : Nat) : Int))]) (by kernel_rfl), hx, by omega, fun j hj => (Nat.lt_or_ge j i).elim (hn j) (fun h => (show j = i by omega) ▸ (by first | assumption | exact fun e => h16 e.symm))⟩
  · replace h9 := of_decide_eq_false h9
    obtain rfl : i = l.length := by omega
    have hres := sIdx_no hn
    refine wexit ?_
    refine (te (te (be ?_)))
    refine tn ?_
    refine wseq ?_
    refine regp (ρ' := [(4, .int .i64 (-1))]) (C := []) ha [] (by kernel_rfl) .nil ?_
    clear ha a; intro a ha
    refine tn ?_
    refine wret ?_
    refine fin ha (.tmp rfl .nil) ?_
    exact ⟨by rw [hres]; rfl, hx⟩
theorem scontains_ok (A : Option Addr) (c : Nat) (l : List (List UInt8)) (x : List UInt8) (w : World) (hr : Rd w 1 A l.length (l.flatMap encS)) (hl : l.length ≤ 9223372036854775807) :
    Fn Tryd.prog 36 #[.slice A l.length c, .string (S x)] w (fun v w' => v = .bool (decide (x ∈ l)) ∧ Ext w w') := by
  have hx : Ext w w := Ext.rfl' w
  refine enter (N := 9) (args := [.slice A l.length c, .string (S x)]) Tryd.func36 rfl rfl rfl ?_
  intro a ha
  simp only [argEnv, Nat.zero_add, Nat.reduceAdd] at ha
  refine wseq ?_
  refine regp (ρ' := [(0, .slice A l.length c), (1, .string (S x))]) (C := []) ha [] (by kernel_rfl) .nil ?_
  clear ha a; intro a ha
  refine tn ?_
  refine wseq ?_
  refine reg hmix (ρ' := [(4, .bool (decide ((0 : Int) ≤ (sIdx l x))))]) (C := [CallOk Tryd.prog w 59 #[.slice A l.length c, .string (S x)] (.int .i64 (sIdx l x))]) ha [(2, .val (.int .i64 (sIdx l x)))] (by kernel_rfl) (.cons (fun w2 h2 => sindex_ok _ _ _ _ w2 (rdE h2 (rdE hx hr)) (by omega)) .nil) ?_
  clear ha a; intro a w1 ha he
  replace hx := hx.tr he
  clear he
  refine tn ?_
  refine wret ?_
  refine fin ha (.tmp rfl .nil) ?_
  exact ⟨congrArg Value.bool (sIdx_in l x), hx⟩
theorem chas_ok (A : Option Addr) (c : Nat) (l : List (List UInt8)) (x : List UInt8) (w : World) (hr : Rd w 1 A l.length (l.flatMap encS)) (hl : l.length ≤ 9223372036854775807) :
    Fn Tryd.prog 16 #[.slice A l.length c, .string (S x)] w (fun v w' => v = .bool (decide (x ∈ l)) ∧ Ext w w') := by
  have hx : Ext w w := Ext.rfl' w
  refine enter (N := 8) (args := [.slice A l.length c, .string (S x)]) Tryd.func16 rfl rfl rfl ?_
  intro a ha
  simp only [argEnv, Nat.zero_add, Nat.reduceAdd] at ha
  refine wseq ?_
  refine regp (ρ' := [(0, .slice A l.length c), (1, .string (S x))]) (C := []) ha [] (by kernel_rfl) .nil ?_
  clear ha a; intro a ha
  refine tn ?_
  refine wseq ?_
  refine reg hmix (ρ' := [(4, .bool (decide (x ∈ l)))]) (C := [CallOk Tryd.prog w 36 #[.slice A l.length c, .string (S x)] (.bool (decide (x ∈ l)))]) ha [(2, .val (.bool (decide (x ∈ l))))] (by kernel_rfl) (.cons (fun w2 h2 => scontains_ok _ _ _ _ w2 (rdE h2 (rdE hx hr)) (by omega)) .nil) ?_
  clear ha a; intro a w1 ha he
  replace hx := hx.tr he
  clear he
  refine tn ?_
  refine wret ?_
  refine fin ha (.tmp rfl .nil) ?_
  exact ⟨rfl, hx⟩
theorem rhas_ok (A : Option Addr) (c : Nat) (l : List (List UInt8)) (x : List UInt8) (w : World) (hr : Rd w 1 A l.length (l.flatMap encS)) (hl : l.length ≤ 9223372036854775807) :
    Fn Tryd.prog 17 #[.slice A l.length c, .string (S x)] w (fun v w' => v = .bool (decide (x ∈ l)) ∧ Ext w w') := by
  have hx : Ext w w := Ext.rfl' w
  refine enter (N := 18) (args := [.slice A l.length c, .string (S x)]) Tryd.func17 rfl rfl rfl ?_
  intro a ha
  simp only [argEnv, Nat.zero_add, Nat.reduceAdd] at ha
  refine wseq ?_
  refine regp (ρ' := [(0, .slice A l.length c), (1, .string (S x))]) (C := []) ha [] (by kernel_rfl) .nil ?_
  clear ha a; intro a ha
  refine tn ?_
  refine wseq ?_
  refine wseq ?_
  refine regp (ρ' := [(0, .slice A l.length c), (1, .string (S x)), (5, .int .i64 0)]) (C := []) ha [] (by kernel_rfl) .nil ?_
  clear ha a; intro a ha
  refine tn ?_
  refine wblk ?_
  refine wloop (fun zz a w1 => ∃ (i : Nat), zz = l.length - i ∧ On 18 [(0, .slice A l.length c), (1, .string (S x)), (5, .int .i64 ((i : Nat) : Int))] a ∧ Ext w w1 ∧ (i ≤ l.length) ∧ (∀ j, j < i → l.getD j default ≠ x)) _ ⟨0, rfl, ha.sub (ρ' := [(0, .slice A l.length c), (1, .string (S x)), (5, .int .i64 ((0 : Nat) : Int))]) (by kernel_rfl), hx, by omega, fun j hj => absurd hj (by omega)⟩ ?_
  clear ha hx
  rintro zz a w2 ⟨i, hzz, ha, hx, hi, hn⟩
  refine wseq ?_
  refine wseq ?_
  refine regp (ρ' := [(0, .slice A l.length c), (1, .string (S x)), (5, .int .i64 ((i : Nat) : Int)), (9, .bool (decide (((i : Nat) : Int) < ((l.length : Nat) : Int))))]) (C := []) ha [] (by kernel_rfl) .nil ?_
  clear ha a; intro a ha
  refine tn ?_
  refine wif ha rfl (fun h9 => ?_) (fun h9 => ?_)
  · replace h9 := of_decide_eq_true h9
    refine wskip ?_
    refine tn ?_
    refine wseq ?_
    refine wblk ?_
    refine wseq ?_
    refine regp (ρ' := [(0, .slice A l.length c), (1, .string (S x)), (5, .int .i64 ((i : Nat) : Int)), (17, .bool (decide (((l.getD i default) : List UInt8) = (x : List UInt8))))]) (C := [RunOk Tryd.prog w2 (Instr.indexAt 22 (.slice A l.length c) (.int .i64 ((i : Nat) : Int))) (.pointer (some ⟨ab A, ao A + i * 1, none⟩)), RunOk Tryd.prog w2 (Instr.loadAt 9 (.pointer (some ⟨ab A, ao A + i * 1, none⟩))) (.string (S (l.getD i default)))]) ha [(2, .val (.pointer (some ⟨ab A, ao A + i * 1, none⟩))), (3, .val (.string (S (l.getD i default))))] (by kernel_rfl) (.cons (ixRd (e := 9) (by kernel_rfl) (by kernel_rfl) (rdE hx hr) (by omega)) (.cons (ldRd (j := i * 1) (by kernel_rfl) (rdE hx hr) (by omega) (flat_get0 encS_len l default i (by omega) rfl)) .nil)) ?_
    clear ha a; intro a ha
    refine tn ?_
    refine wif ha rfl (fun h17 => ?_) (fun h17 => ?_)
    · replace h17 := of_decide_eq_true h17
      have hres : decide (x ∈ l) = true := decide_eq_true (mem_at (by omega) h17)
      refine wseq ?_
      refine regp (ρ' := [(4, .bool true)]) (C := []) ha [] (by kernel_rfl) .nil ?_
      clear ha a; intro a ha
      refine tn ?_
      refine wret ?_
      refine (br (tr (tr (br (tr ?_)))))
      refine fin ha (.tmp rfl .nil) ?_
      exact ⟨congrArg Value.bool hres.symm, hx⟩
    · replace h17 := of_decide_eq_false h17
      refine wskip ?_
      refine bn ?_
      refine tn ?_
      refine regp (ρ' := [(0, .slice A l.length c), (1, .string (S x)), (5, .int .i64 ((i + 1 : Nat) : Int))]) (C := [InR .i64 ((i + 1 : Nat) : Int)]) ha [] (by kernel_rfl) (.cons (by unfold InR; omega) .nil) ?_
      clear ha a; intro a ha
      exact tn ⟨l.length - ((i + 1)), by omega, (i + 1), rfl, ha.sub (ρ' := [(0, .slice A l.length c), (1, .string (S x)), (5, .int .i64 (((i + 1) : Nat) : Int))]) (by kernel_rfl), hx, by omega, fun j hj => (Nat.lt_or_ge j i).elim (hn j) (fun h => (show j = i by omega) ▸ (by first | assumption | exact fun e => h16 e.symm))⟩
  · replace h9 := of_decide_eq_false h9
    obtain rfl : i = l.length := by omega
    have hres : decide (x ∈ l) = false := decide_eq_false (mem_no hn)
    refine wexit ?_
    refine (te (te (be ?_)))
    refine tn ?_
    refine wseq ?_
    refine regp (ρ' := [(4, .bool false)]) (C := []) ha [] (by kernel_rfl) .nil ?_
    clear ha a; intro a ha
    refine tn ?_
    refine wret ?_
    refine fin ha (.tmp rfl .nil) ?_
    exact ⟨congrArg Value.bool hres.symm, hx⟩
theorem few10_ok (A : Option Addr) (c : Nat) (l : List (List UInt8)) (w : World) (hr : Rd w 1 A l.length (l.flatMap encS)) (hl : l.length ≤ 9223372036854775807) (hs : ∀ i, i < l.length → (l.getD i default).length ≤ 9223372036854775807) :
    Fn Tryd.prog 7 #[.slice A l.length c] w (fun v w' => v = .bool (cFew l) ∧ Ext w w') := by
  have hx : Ext w w := Ext.rfl' w
  refine enter (N := 23) (args := [.slice A l.length c]) Tryd.func7 rfl rfl rfl ?_
  intro a ha
  simp only [argEnv, Nat.zero_add, Nat.reduceAdd] at ha
  refine wseq ?_
  refine regp (ρ' := [(0, .slice A l.length c)]) (C := []) ha [] (by kernel_rfl) .nil ?_
  clear ha a; intro a ha
  refine tn ?_
  refine wseq ?_
  refine wseq ?_
  refine regp (ρ' := [(0, .slice A l.length c), (3, .int .i64 0)]) (C := []) ha [] (by kernel_rfl) .nil ?_
  clear ha a; intro a ha
  refine tn ?_
  refine wblk ?_
  refine wloop (fun zz a w1 => ∃ (i : Nat), zz = l.length - i ∧ On 23 [(0, .slice A l.length c), (3, .int .i64 ((i : Nat) : Int))] a ∧ Ext w w1 ∧ (i ≤ l.length) ∧ (∀ j, j < i → (l.getD j default).length ≤ 100)) _ ⟨0, rfl, ha.sub (ρ' := [(0, .slice A l.length c), (3, .int .i64 ((0 : Nat) : Int))]) (by kernel_rfl), hx, by omega, fun j hj => absurd hj (by omega)⟩ ?_
  clear ha hx
  rintro zz a w2 ⟨i, hzz, ha, hx, hi, hn⟩
  refine wseq ?_
  refine wseq ?_
  refine regp (ρ' := [(0, .slice A l.length c), (3, .int .i64 ((i : Nat) : Int)), (11, .bool ((decide (((i : Nat) : Int) < ((l.length : Nat) : Int))) && (decide (((i : Nat) : Int) < 30))))]) (C := []) ha [] (by kernel_rfl) .nil ?_
  clear ha a; intro a ha
  refine tn ?_
  refine wif ha rfl (fun h11 => ?_) (fun h11 => ?_)
  · simp only [Bool.not_eq_true', Bool.not_eq_false', Bool.and_eq_true, Bool.or_eq_true, Bool.and_eq_false_iff, Bool.or_eq_false_iff, decide_eq_true_eq, decide_eq_false_iff_not, Bool.not_eq_true, Decidable.not_not] at h11
    refine wskip ?_
    refine tn ?_
    refine wseq ?_
    refine wblk ?_
    refine wseq ?_
    refine regp (ρ' := [(0, .slice A l.length c), (3, .int .i64 ((i : Nat) : Int)), (19, .bool (decide ((100 : Int) < (((l.getD i default).length : Nat) : Int))))]) (C := [RunOk Tryd.prog w2 (Instr.indexAt 22 (.slice A l.length c) (.int .i64 ((i : Nat) : Int))) (.pointer (some ⟨ab A, ao A + i * 1, none⟩)), RunOk Tryd.prog w2 (Instr.loadAt 9 (.pointer (some ⟨ab A, ao A + i * 1, none⟩))) (.string (S (l.getD i default)))]) ha [(2, .val (.pointer (some ⟨ab A, ao A + i * 1, none⟩))), (3, .val (.string (S (l.getD i default))))] (by kernel_rfl) (.cons (ixRd (e := 9) (by kernel_rfl) (by kernel_rfl) (rdE hx hr) (by omega)) (.cons (ldRd (j := i * 1) (by kernel_rfl) (rdE hx hr) (by omega) (flat_get0 encS_len l default i (by omega) rfl)) .nil)) ?_
    clear ha a; intro a ha
    refine tn ?_
    refine wif ha rfl (fun h19 => ?_) (fun h19 => ?_)
    · replace h19 := of_decide_eq_true h19
      have hres : cFew l = false := cFew_bad (i := i) (by omega) (by omega)
      refine wseq ?_
      refine regp (ρ' := [(2, .bool false)]) (C := []) ha [] (by kernel_rfl) .nil ?_
      clear ha a; intro a ha
      refine tn ?_
      refine wret ?_
      refine (br (tr (tr (br (tr ?_)))))
      refine fin ha (.tmp rfl .nil) ?_
      exact ⟨congrArg Value.bool (by rw [hres] <;> (apply decide_eq_decide.2; omega)), hx⟩
    · replace h19 := of_decide_eq_false h19
      refine wskip ?_
      refine bn ?_
      refine tn ?_
      refine regp (ρ' := [(0, .slice A l.length c), (3, .int .i64 ((i + 1 : Nat) : Int))]) (C := [InR .i64 ((i + 1 : Nat) : Int)]) ha [] (by kernel_rfl) (.cons (by unfold InR; omega) .nil) ?_
      clear ha a; intro a ha
      exact tn ⟨l.length - ((i + 1)), by omega, (i + 1), rfl, ha.sub (ρ' := [(0, .slice A l.length c), (3, .int .i64 (((i + 1) : Nat) : Int))]) (by kernel_rfl), hx, by omega, fun j hj => (Nat.lt_or_ge j i).elim (hn j) (fun h => (show j = i by omega) ▸ (by omega))⟩
  · simp only [Bool.not_eq_true', Bool.not_eq_false', Bool.and_eq_true, Bool.or_eq_true, Bool.and_eq_false_iff, Bool.or_eq_false_iff, decide_eq_true_eq, decide_eq_false_iff_not, Bool.not_eq_true, Decidable.not_not] at h11
    have hres : cFew l = decide (l.length ≤ 30) := cFew_len hn (by omega)
    refine wexit ?_
    refine (te (te (be ?_)))
    refine tn ?_
    refine wseq ?_
    refine regp (ρ' := [(2, .bool (decide (((l.length : Nat) : Int) ≤ 30)))]) (C := []) ha [] (by kernel_rfl) .nil ?_
    clear ha a; intro a ha
    refine tn ?_
    refine wret ?_
    refine fin ha (.tmp rfl .nil) ?_
    exact ⟨congrArg Value.bool (by rw [hres] <;> (apply decide_eq_decide.2; omega)), hx⟩
end Go.Kn
end
section
set_option linter.unusedSimpArgs false
set_option linter.unusedVariables false
set_option maxRecDepth 100000
namespace Go.Kn
open Go.Proofs Go.Shelf Go.RowKit Go.Lib Go.Sort
def ren110 : Ren := ⟨fun | 110 => 36 | 109 => 59 | n => n, fun | 31 => 22 | n => n, fun n => n⟩
theorem lays110 : Lays.n110 Tryd.prog ren110 := {
  mixed := by kernel_rfl,
  f109 := by kernel_rfl,
  f110 := by kernel_rfl,
  t0 := by kernel_rfl,
  a0 := fun w => by kernel_rfl,
  z0 := fun w => by kernel_rfl,
  v0 := fun w => by kernel_rfl,
  t3 := by kernel_rfl,
  a3 := fun w => by kernel_rfl,
  z3 := fun w => by kernel_rfl,
  v3 := fun w => by kernel_rfl,
  t4 := by kernel_rfl,
  a4 := fun w => by kernel_rfl,
  z4 := fun w => by kernel_rfl,
  v4 := fun w => by kernel_rfl,
  t9 := by kernel_rfl,
  a9 := fun w => by kernel_rfl,
  z9 := fun w => by kernel_rfl,
  v9 := fun w => by kernel_rfl,
  t31 := by kernel_rfl,
  a31 := fun w => by kernel_rfl,
  z31 := fun w => by kernel_rfl,
  v31 := fun w => by kernel_rfl }
def renGw15 : Ren := ⟨fun | 15 => 56 | 20 => 72 | n => n, fun | 23 => 101 | n => n, fun n => n⟩
theorem laysGw15 : LaysGw.n15 Tryd.prog renGw15 := {
  mixed := by kernel_rfl,
  f15 := by kernel_rfl,
  f20 := by kernel_rfl,
  t0 := by kernel_rfl,
  a0 := fun w => by kernel_rfl,
  z0 := fun w => by kernel_rfl,
  v0 := fun w => by kernel_rfl,
  i0 := by kernel_rfl,
  t3 := by kernel_rfl,
  a3 := fun w => by kernel_rfl,
  z3 := fun w => by kernel_rfl,
  v3 := fun w => by kernel_rfl,
  i3 := by kernel_rfl,
  t4 := by kernel_rfl,
  a4 := fun w => by kernel_rfl,
  z4 := fun w => by kernel_rfl,
  v4 := fun w => by kernel_rfl,
  i4 := by kernel_rfl,
  t9 := by kernel_rfl,
  a9 := fun w => by kernel_rfl,
  z9 := fun w => by kernel_rfl,
  v9 := fun w => by kernel_rfl,
  i9 := by kernel_rfl,
  t21 := by kernel_rfl,
  a21 := fun w => by kernel_rfl,
  z21 := fun w => by kernel_rfl,
  v21 := fun w => by kernel_rfl,
  i21 := by kernel_rfl,
  t23 := by kernel_rfl,
  a23 := fun w => by kernel_rfl,
  z23 := fun w => by kernel_rfl,
  v23 := fun w => by kernel_rfl,
  i23 := by kernel_rfl }
def renHd : Ren := ⟨fun | 10 => 53 | 6 => 70 | n => n, fun | 23 => 9 | 25 => 66 | n => n, fun n => n⟩
theorem laysHd : SlLaysH.n10 Tryd.prog renHd := {
  mixed := by kernel_rfl,
  f6 := ⟨"slices.IndexFunc[[]string,string]", by kernel_rfl, by kernel_rfl⟩,
  f10 := ⟨"slices.DeleteFunc[[]string,string]", by kernel_rfl, by kernel_rfl⟩,
  t0 := by kernel_rfl,
  a0 := fun w => by kernel_rfl,
  z0 := fun w => by kernel_rfl,
  v0 := fun w => by kernel_rfl,
  t3 := by kernel_rfl,
  a3 := fun w => by kernel_rfl,
  z3 := fun w => by kernel_rfl,
  v3 := fun w => by kernel_rfl,
  t4 := by kernel_rfl,
  a4 := fun w => by kernel_rfl,
  z4 := fun w => by kernel_rfl,
  v4 := fun w => by kernel_rfl,
  t22 := by kernel_rfl,
  a22 := fun w => by kernel_rfl,
  z22 := fun w => by kernel_rfl,
  v22 := fun w => by kernel_rfl,
  a23 := fun w => by kernel_rfl,
  z23 := fun w => by kernel_rfl,
  t25 := by kernel_rfl,
  a25 := fun w => by kernel_rfl,
  z25 := fun w => by kernel_rfl,
  v25 := fun w => by kernel_rfl }
theorem strange_ok (r : Nat) (W : World) (hr : r ≤ 1114111) : FnGives Tryd.prog 57 #[] #[encR r] (.bool (decide (r ≠ 45) && (decide (r < 48) || decide (57 < r)) && (decide (r < 97) || decide (122 < r)))) W := by
  unfold FnGives
  by_cases h1 : r = 45 <;> by_cases h2 : r < 48 <;> by_cases h3 : 57 < r <;> by_cases h4 : r < 97 <;> by_cases h5 : 122 < r
  all_goals first | (exfalso; omega) | skip
  all_goals
    have z1 : (r : Int) = 45 ↔ r = 45 := by omega
    have z2 : (r : Int) < 48 ↔ r < 48 := by omega
    have z3 : (57 : Int) < (r : Int) ↔ 57 < r := by omega
    have z4 : (r : Int) < 97 ↔ r < 97 := by omega
    have z5 : (122 : Int) < (r : Int) ↔ 122 < r := by omega
    go_enter Tryd.func57, Tryd.ntmps57
    go_wp2
    all_goals first | (exfalso; omega) | (go_ret; exact ⟨by simp [h1, h2, h3, h4, h5] <;> omega, 0, rfl⟩)
theorem has_exact (b off n c : Nat) (zs : List ByteArray) (x : ByteArray) (w : World) (hz : n ≤ zs.length) (hbig : n ≤ 9223372036854775807) (hc : ∀ j, j < zs.length → w.cell? ⟨b, off + j, none⟩ = some (.string (zs.getD j ByteArray.empty))) :
    Calls Tryd.prog 16 #[.slice (some ⟨b, off, none⟩) n c, .string x] w fun e w' => e = .returned (.bool (Lib.containsS (zs.take n) x)) ∧ w' = w := by
  have hcon := Any.slices_Contains_string lays110 b off n c zs x w hz hbig hc
  change Calls Tryd.prog 36 _ _ _ at hcon
  generalize Lib.containsS (zs.take n) x = r at hcon ⊢
  go_enter Tryd.func16, Tryd.ntmps16
  go_wp2_with (go_at_call 36; refine hcon.mono ?_; rintro e w' ⟨rfl, rfl⟩)
  go_ret
  exact ⟨rfl, rfl⟩
theorem has_empty (A : Option Addr) (c : Nat) (x : ByteArray) (w : World) :
    Calls Tryd.prog 16 #[.slice A 0 c, .string x] w fun e w' => e = .returned (.bool false) ∧ w' = w := by
  have hcon := Any.slices_Contains_string_empty lays110 A c x w
  change Calls Tryd.prog 36 _ _ _ at hcon
  go_enter Tryd.func16, Tryd.ntmps16
  go_wp2_with (go_at_call 36; refine hcon.mono ?_; rintro e w' ⟨rfl, rfl⟩)
  go_ret
  exact ⟨rfl, rfl⟩
theorem S_self (x : ByteArray) : S x.data.toList = x := by
  cases x; simp [S]
theorem mem_S (l : List (List UInt8)) (x : List UInt8) : S x ∈ l.map S ↔ x ∈ l := by
  constructor
  · intro h
    obtain ⟨y, hy, e⟩ := List.mem_map.1 h
    have := congrArg (fun z => z.data.toList) e
    simp only [S_list] at this
    rw [← this]; exact hy
  · intro h; exact List.mem_map.2 ⟨x, h, rfl⟩
theorem has_rd (A : Option Addr) (c : Nat) (l : List (List UInt8)) (x : ByteArray) (w : World) (hr : Rd w 1 A l.length (l.flatMap encS)) (hl : l.length ≤ 9223372036854775807) :
    Calls Tryd.prog 16 #[.slice A l.length c, .string x] w fun e w' => e = .returned (.bool (decide (x.data.toList ∈ l))) ∧ w' = w := by
  by_cases h0 : 0 < l.length
  · have ha := hr.addr h0
    have key := has_exact (ab A) (ao A) l.length c (l.map S) x w (by simp) hl (fun j hj => by
      rw [List.length_map] at hj
      refine hr.cell j _ ?_
      rw [encS_flat, List.getElem?_map, List.getElem?_eq_getElem hj]
      simp [List.getD_eq_getElem?_getD, List.getElem?_map, List.getElem?_eq_getElem hj])
    have e : Lib.containsS ((l.map S).take l.length) x = decide (x.data.toList ∈ l) := by
      rw [List.take_of_length_le (by simp)]
      apply Bool.eq_iff_iff.2
      rw [Lib.containsS_iff, decide_eq_true_eq, ← mem_S, S_self]
    rw [e, ← ha] at key
    exact key
  · obtain rfl : l = [] := List.eq_nil_of_length_eq_zero (by omega)
    exact has_empty A c x w
theorem choose1_ok (l1 l2 : List (List UInt8)) (A1 A2 : Option Addr) (c1 c2 b2 b3 : Nat) (x : ByteArray) (W : World) (h2 : W.cell? ⟨b2, 0, none⟩ = some (.slice A1 l1.length c1)) (h3 : W.cell? ⟨b3, 0, none⟩ = some (.slice A2 l2.length c2))
    (r1 : Rd W 1 A1 l1.length (l1.flatMap encS)) (r2 : Rd W 1 A2 l2.length (l2.flatMap encS)) (hl1 : l1.length ≤ 9223372036854775807) (hl2 : l2.length ≤ 9223372036854775807) :
    FnGives Tryd.prog 54 #[.pointer (some ⟨b2, 0, none⟩), .pointer (some ⟨b3, 0, none⟩)] #[.string x] (.bool (!decide (x.data.toList ∈ l1) || !decide (x.data.toList ∈ l2))) W := by
  show Calls Tryd.prog 54 #[.string x, .pointer (some ⟨b2, 0, none⟩), .pointer (some ⟨b3, 0, none⟩)] W _
  have hc1 := has_rd A1 c1 l1 x W r1 hl1
  have hc2 := has_rd A2 c2 l2 x W r2 hl2
  clear r1 r2
  generalize decide (x.data.toList ∈ l1) = d1 at *
  generalize decide (x.data.toList ∈ l2) = d2 at *
  generalize l1.length = n1 at *
  generalize l2.length = n2 at *
  cases d1 <;> cases d2
  all_goals
    go_enter Tryd.func54, Tryd.ntmps54
    go_wp2_with (go_at_call 16; first | (refine hc1.mono ?_; rintro e w' ⟨rfl, rfl⟩) | (refine hc2.mono ?_; rintro e w' ⟨rfl, rfl⟩))
    all_goals (go_ret; exact ⟨rfl, 0, rfl⟩)
end Go.Kn
end
section
/- Words that may be: the library's search over runes, plain. -/
set_option linter.unusedSimpArgs false
set_option linter.unusedVariables false
set_option maxRecDepth 100000
namespace Go.Kn
open Go.Proofs Go.Shelf Go.RowKit Go.Lib
/-- a rune that no word has -/
def strP (r : Nat) : Bool := decide (r ≠ 45) && (decide (r < 48) || decide (57 < r)) && (decide (r < 97) || decide (122 < r))
theorem strP_high {r : Nat} (h : 128 ≤ r) : strP r = true := by
  unfold strP; simp; omega
/-- a word that may be -/
def cWord (l : List UInt8) : Bool := decide ((1 ≤ l.length ∧ l.length ≤ 20) ∧ ∀ i, i < l.length → strP (l.getD i 0).toNat = false)
theorem idxFrom_neg (s : ByteArray) : ∀ (f pos : Nat), s.size ≤ pos + f → (idxFuncFrom strP true s f pos < 0 ↔ ∀ i (h : i < s.size), pos ≤ i → strP (s[i]'h).toNat = false)
  | 0, pos, hf => by
    unfold idxFuncFrom
    exact ⟨fun _ i h hp => absurd h (by omega), fun _ => by omega⟩
  | f + 1, pos, hf => by
    unfold idxFuncFrom
    by_cases hp : pos < s.size
    · rw [if_pos hp]
      by_cases ha : (s[pos]'hp).toNat < 128
      · rw [Go.decode_ascii s pos hp ha]
        simp only
        by_cases hs : strP (s[pos]'hp).toNat = true
        · rw [if_pos hs]
          exact ⟨fun h => absurd h (by omega), fun h => absurd (h pos hp (Nat.le_refl _)) (by rw [hs]; decide)⟩
        · rw [if_neg hs, idxFrom_neg s f (pos + 1) (by omega)]
          refine ⟨fun h i hi hpi => ?_, fun h i hi hpi => h i hi (by omega)⟩
          rcases Nat.lt_or_ge pos i with hlt | hge
          · exact h i hi hlt
          · obtain rfl : i = pos := by omega
            simpa using hs
      · have hh := Go.decode_high s pos hp (by omega)
        rw [if_pos (strP_high hh.1)]
        exact ⟨fun h => absurd h (by omega), fun h => absurd (h pos hp (Nat.le_refl _)) (by rw [strP_high (by omega)]; decide)⟩
    · rw [if_neg hp]
      exact ⟨fun _ i h hpi => absurd h (by omega), fun _ => by omega⟩
theorem idx_neg (l : List UInt8) : idxFunc strP true (S l) < 0 ↔ ∀ i, i < l.length → strP (l.getD i 0).toNat = false := by
  unfold idxFunc
  rw [idxFrom_neg (S l) _ 0 (by omega)]
  have hs : (S l).size = l.length := S_size l
  constructor
  · intro h i hi
    have := h i (by rw [hs]; exact hi) (Nat.zero_le _)
    rw [List.getD_eq_getElem?_getD, List.getElem?_eq_getElem hi]
    exact this
  · intro h i hi _
    have hi' : i < l.length := by rw [hs] at hi; exact hi
    have := h i hi'
    rw [List.getD_eq_getElem?_getD, List.getElem?_eq_getElem hi'] at this
    exact this
theorem sidx_ok (l : List UInt8) (w : World) : FnV Tryd.prog 56 #[.string (S l), .func (.func 57) #[] #[]] w (.int .i64 (idxFunc strP true (S l))) := by
  have eg : ∀ args w, (callFunc 57 args).run Tryd.prog w = .ok (.enter 57 args) w := enters_of Tryd.func57 (by kernel_rfl) rfl
  have h := Any.strings_IndexFunc_runes laysGw15 57 #[] eg strP (S l) w (fun W x hx _ => strange_ok x W hx)
  exact Calls.mono h fun e w' ⟨h1, h2⟩ => ⟨_, h1, rfl, h2⟩
theorem strP_ok {c : Nat} (h : c = 45 ∨ (48 ≤ c ∧ c ≤ 57) ∨ (97 ≤ c ∧ c ≤ 122)) : strP c = false := by
  unfold strP
  rcases h with h | h | h <;> simp <;> omega
theorem strP_bad {c : Nat} (h : ¬ (c = 45 ∨ (48 ≤ c ∧ c ≤ 57) ∨ (97 ≤ c ∧ c ≤ 122))) : strP c = true := by
  unfold strP; simp; omega
theorem cWord_bad {s : List UInt8} {i : Nat} (h : i < s.length) (hb : strP (s.getD i 0).toNat = true) : cWord s = false :=
  decide_eq_false fun e => by have := e.2 i h; rw [hb] at this; cases this
theorem cWord_len {s : List UInt8} (h : ∀ i, i < s.length → strP (s.getD i 0).toNat = false) : cWord s = (decide (1 ≤ s.length) && decide (s.length ≤ 20)) := by
  unfold cWord
  rw [← Bool.decide_and]
  exact decide_eq_decide.2 ⟨fun e => e.1, fun e => ⟨e, h⟩⟩
theorem word_eq (s : List UInt8) : (!decide (s = []) && decide ((s.length : Int) ≤ 20) && decide (Go.Lib.idxFunc strP true (S s) < 0)) = cWord s := by
  unfold cWord
  rw [decide_eq_decide.2 (idx_neg s), ← decide_not, ← Bool.decide_and, ← Bool.decide_and]
  refine decide_eq_decide.2 ⟨fun e => ⟨⟨List.length_pos_iff.2 e.1.1, by omega⟩, e.2⟩, fun e => ⟨⟨List.length_pos_iff.1 (by omega), by omega⟩, e.2⟩⟩
def fineAt (l : List (List UInt8)) (i : Nat) : Bool := cWord (l.getD i default) && (decide (i = 0) || Op.bytesLess (l.getD (i - 1) default) (l.getD i default))
/-- may words be -/
def cFine (l : List (List UInt8)) : Bool := decide (l.length ≤ 20 ∧ ∀ i, i < l.length → fineAt l i = true)
theorem cFine_bad {l : List (List UInt8)} {i : Nat} (h : i < l.length) (hb : fineAt l i = false) : cFine l = false :=
  decide_eq_false fun e => by have := e.2 i h; rw [hb] at this; cases this
theorem cFine_len {l : List (List UInt8)} (h : ∀ i, i < l.length → fineAt l i = true) : cFine l = decide (l.length ≤ 20) :=
  decide_eq_decide.2 ⟨fun e => e.1, fun e => ⟨e, h⟩⟩
theorem bl_total : ∀ (a b : List UInt8), (Op.bytesLess a b || decide (a = b)) = !Op.bytesLess b a
  | [], [] => rfl
  | [], b :: y => by simp [Op.bytesLess]
  | a :: x, [] => by simp [Op.bytesLess]
  | a :: x, b :: y => by
    have ih := bl_total x y
    simp only [Op.bytesLess]
    by_cases h1 : a < b
    · have h2 : ¬ b < a := by rw [UInt8.lt_iff_toNat_lt] at *; omega
      have h3 : ¬ b = a := fun e => by subst e; exact h2 h1
      simp [h1, h2, h3]
    · by_cases h2 : b < a
      · have h3 : ¬ a = b := fun e => by subst e; exact h1 h2
        simp [h1, h2, h3]
      · have h3 : a = b := by
          apply UInt8.toNat.inj
          rw [UInt8.lt_iff_toNat_lt] at h1 h2; omega
        subst h3
        simp only [h1, decide_false, Bool.false_or, beq_self_eq_true, Bool.true_and]
        rw [← ih]
        congr 1
        exact decide_eq_decide.2 ⟨fun e => by injection e, fun e => by rw [e]⟩
theorem take_snocS (l : List (List UInt8)) (i : Nat) (h : i < l.length) : l.take (i + 1) = l.take i ++ [l.getD i default] := by
  rw [List.take_succ_eq_append_getElem h, List.getD_eq_getElem?_getD, List.getElem?_eq_getElem h]; rfl
theorem filt_snoc (p : List UInt8 → Bool) (l : List (List UInt8)) (i : Nat) (h : i < l.length) : (l.take (i + 1)).filter p = (l.take i).filter p ++ (if p (l.getD i default) = true then [l.getD i default] else []) := by
  rw [take_snocS l i h, List.filter_append]
  congr 1
  rw [List.filter_cons]; rfl
theorem own_nb {w : World} {b e sz n c : Nat} {A : Option Addr} {xs : List Value} (h : Own w (b + 1) e sz A n c xs) : (Value.slice A n c).ownBlock ≠ some b := fun he => by
  have h1 := (World.ownsRow.lt h b he).1
  omega
end Go.Kn
end
section
/- caps.Choose's deletion: the shelf's contract at the five words. -/
set_option linter.unusedSimpArgs false
set_option linter.unusedVariables false
set_option maxRecDepth 100000
namespace Go.Kn
open Go.Proofs Go.Shelf Go.RowKit Go.Lib Go.Sort
def known5 : List (List UInt8) := [[97, 116, 111, 109, 105, 99], [98, 97, 110, 100], [100, 101, 101, 112, 101, 110], [111, 102, 115], [116, 104, 105, 110]]
/-- the words of the five that are in both lists -/
def cChosen (l1 l2 : List (List UInt8)) : List (List UInt8) := known5.filter fun t => decide (t ∈ l1) && decide (t ∈ l2)
theorem cell_sort {w : World} {kb n : Nat} {dk : Array ByteArray} {os : Array Obj} {a : Addr} {v : Value} (hv : w.cell? a = some v) (hne : a.block ≠ kb) : (sortWorld Value.string w kb 0 n dk os).cell? a = some v := by
  unfold sortWorld
  rw [cell?_grow _ _ _ (by rw [size_putRow]; exact blk_lt hv), cell?_putRow_other _ _ _ _ _ _ (Or.inl hne)]
  exact hv
theorem del_ok (l1 l2 : List (List UInt8)) (A1 A2 : Option Addr) (c1 c2 b2 b3 kb T : Nat) (w0 w : World) (hx : Ext w0 w) (hkb : w0.heap.size ≤ kb) (hn2 : b2 ≠ kb) (hn3 : b3 ≠ kb)
    (hb2 : w.cell? ⟨b2, 0, none⟩ = some (.slice A1 l1.length c1)) (hb3 : w.cell? ⟨b3, 0, none⟩ = some (.slice A2 l2.length c2))
    (r1 : Rd w0 1 A1 l1.length (l1.flatMap encS)) (r2 : Rd w0 1 A2 l2.length (l2.flatMap encS)) (hl1 : l1.length ≤ 9223372036854775807) (hl2 : l2.length ≤ 9223372036854775807)
    (hK : w.heap[kb]? = some (.cells ⟨known5.map fun t => .string (S t)⟩ T (0, 0))) :
    Calls Tryd.prog 53 #[.slice (some ⟨kb, 0, none⟩) 5 5, .func (.func 54) #[] #[.pointer (some ⟨b2, 0, none⟩), .pointer (some ⟨b3, 0, none⟩)]] w fun e w' =>
      e = .returned (.slice (some ⟨kb, 0, none⟩) (cChosen l1 l2).length 5) ∧ Rd w' 1 (some ⟨kb, 0, none⟩) (cChosen l1 l2).length ((cChosen l1 l2).flatMap encS) ∧ Ext w0 w' := by
  have q1 := rdE hx r1
  have q2 := rdE hx r2
  have hp : PredAt Tryd.prog 54 #[.pointer (some ⟨b2, 0, none⟩), .pointer (some ⟨b3, 0, none⟩)] Value.string (fun x : ByteArray => !decide (x.data.toList ∈ l1) || !decide (x.data.toList ∈ l2)) w := fun W x hb =>
    choose1_ok l1 l2 A1 A2 c1 c2 b2 b3 x W ((hb.cell (p := ⟨b2, 0, none⟩) (blk_lt hb2)).trans hb2) ((hb.cell (p := ⟨b3, 0, none⟩) (blk_lt hb3)).trans hb3) (rdE hb q1) (rdE hb q2) hl1 hl2
  have hpo : PredOver Tryd.prog 54 #[.pointer (some ⟨b2, 0, none⟩), .pointer (some ⟨b3, 0, none⟩)] Value.string (fun x : ByteArray => !decide (x.data.toList ∈ l1) || !decide (x.data.toList ∈ l2)) kb 0 5 w := fun n os dk x _ =>
    choose1_ok l1 l2 A1 A2 c1 c2 b2 b3 x _ (cell_sort hb2 hn2) (cell_sort hb3 hn3)
      ⟨r1.len, r1.addr, fun j v hj => cell_sort (q1.cell j v hj) (Nat.ne_of_lt (Nat.lt_of_lt_of_le (blk_lt (r1.cell j v hj)) hkb))⟩
      ⟨r2.len, r2.addr, fun j v hj => cell_sort (q2.cell j v hj) (Nat.ne_of_lt (Nat.lt_of_lt_of_le (blk_lt (r2.cell j v hj)) hkb))⟩ hl1 hl2
  have hH : ∀ q, Holds Value.string (Sort.ahead w q) kb 0 (known5.map S).toArray := fun q j hj => by
    have hj5 : j < 5 := hj
    have : j = 0 ∨ j = 1 ∨ j = 2 ∨ j = 3 ∨ j = 4 := by omega
    rcases this with rfl | rfl | rfl | rfl | rfl <;> exact ⟨by simp [World.cell?, Sort.ahead, hK, known5], by simp [World.frozen?, Sort.ahead, hK]⟩
  have eg : ∀ args w, (callFunc 54 args).run Tryd.prog w = .ok (.enter 54 args) w := enters_of Tryd.func54 (by kernel_rfl) rfl
  have hcon := AnyE.slices_DeleteFunc laysHd Value.string (fun _ => rfl) _ 54 #[.pointer (some ⟨b2, 0, none⟩), .pointer (some ⟨b3, 0, none⟩)] eg ByteArray.empty (fun w => by kernel_rfl) kb 0 5 (known5.map S).toArray w hp hpo (hH 0) (by decide) (by decide)
  change Calls Tryd.prog 53 _ _ _ at hcon
  have hf : ((known5.map S).toArray.toList.filter fun x => !(!decide (x.data.toList ∈ l1) || !decide (x.data.toList ∈ l2))) = (cChosen l1 l2).map S := by
    show (known5.map S).filter _ = _
    rw [List.filter_map]
    unfold cChosen
    congr 1
    refine List.filter_congr fun t _ => ?_
    simp [Function.comp, S_list]
  rw [hf, List.length_map] at hcon
  have hm : (cChosen l1 l2).length ≤ 5 := by
    have := List.length_filter_le (fun t => decide (t ∈ l1) && decide (t ∈ l2)) known5
    exact this
  refine Calls.mono hcon ?_
  rintro e w' ⟨rfl, q, rfl⟩
  refine ⟨rfl, ?_, below_putRow hx hkb⟩
  generalize cChosen l1 l2 = ch at *
  refine ⟨by rw [encS_flat]; simp, fun _ => rfl, fun j v hj => ?_⟩
  have hjl : j < ch.length := by
    have := (List.getElem?_eq_some_iff.1 hj).1
    rw [encS_flat, List.length_map] at this; exact this
  have hsz : ((ch.map S ++ List.replicate ((known5.map S).toArray.size - ch.length) ByteArray.empty).toArray).size = (known5.map S).toArray.size := by
    have : (known5.map S).toArray.size = 5 := rfl
    rw [this]; simp; omega
  have h := cell?_putRow Value.string (Sort.ahead w q) kb 0 (known5.map S).toArray _ (hH q) hsz j (by rw [hsz]; exact Nat.lt_of_lt_of_le hjl hm)
  refine h.trans ?_
  rw [← hj, encS_flat, List.getElem?_map, List.getElem?_eq_getElem hjl]
  simp [List.getElem?_append_left, hjl, getElem!_pos]
end Go.Kn
end
section
set_option linter.unusedSimpArgs false
set_option linter.unusedVariables false
set_option maxRecDepth 100000
namespace Go.Kn
open Go.Proofs
theorem del_okF (l1 l2 : List (List UInt8)) (A1 A2 : Option Addr) (c1 c2 b2 b3 kb T : Nat) (w0 w : World) (hx : Ext w0 w) (hkb : w0.heap.size ≤ kb) (hn2 : b2 ≠ kb) (hn3 : b3 ≠ kb)
    (hb2 : w.cell? ⟨b2, 0, none⟩ = some (.slice A1 l1.length c1)) (hb3 : w.cell? ⟨b3, 0, none⟩ = some (.slice A2 l2.length c2))
    (r1 : Rd w0 1 A1 l1.length (l1.flatMap encS)) (r2 : Rd w0 1 A2 l2.length (l2.flatMap encS)) (hl1 : l1.length ≤ 9223372036854775807) (hl2 : l2.length ≤ 9223372036854775807)
    (hK : w.heap[kb]? = some (.cells ⟨known5.map fun t => .string (S t)⟩ T (0, 0))) :
    Fn Tryd.prog 53 #[.slice (some ⟨kb, 0, none⟩) 5 5, (.func (.func 54) #[] #[.pointer (some ⟨b2, 0, none⟩), .pointer (some ⟨b3, 0, none⟩)])] w fun v w' =>
      v = .slice (some ⟨kb, 0, none⟩) (cChosen l1 l2).length 5 ∧ Rd w' 1 (some ⟨kb, 0, none⟩) (cChosen l1 l2).length ((cChosen l1 l2).flatMap encS) ∧ Ext w0 w' :=
  Calls.mono (del_ok l1 l2 A1 A2 c1 c2 b2 b3 kb T w0 w hx hkb hn2 hn3 hb2 hb3 r1 r2 hl1 hl2 hK) fun e w' ⟨h1, h2, h3⟩ => ⟨_, h1, rfl, h2, h3⟩
theorem known_ok (w : World) :
    Fn Tryd.prog 31 #[] w (fun v w' => ∃ kb, v = .slice (some ⟨kb, 0, none⟩) 5 5 ∧ w.heap.size ≤ kb ∧ w'.heap[kb]? = some (.cells ⟨known5.map fun t => .string (S t)⟩ 9 (0, 0)) ∧ Ext w w') := by
  have hx : Ext w w := Ext.rfl' w
  refine enter (N := 2) (args := []) Tryd.func31 rfl rfl rfl ?_
  intro a ha
  simp only [argEnv, Nat.zero_add, Nat.reduceAdd] at ha
  refine wseq ?_
  refine regp (ρ' := []) (C := []) ha [] (by kernel_rfl) .nil ?_
  clear ha a; intro a ha
  refine tn ?_
  refine wseq ?_
  refine reg_list ?_
  refine lnewS ha rfl (by kernel_rfl) #[.string (S [97, 116, 111, 109, 105, 99]), .string (S [98, 97, 110, 100]), .string (S [100, 101, 101, 112, 101, 110]), .string (S [111, 102, 115]), .string (S [116, 104, 105, 110])] 9 5 (by kernel_rfl) ?_
  clear ha a; intro kb w1 he hb_kb hB_kb a ha
  replace hb_kb := Nat.le_trans hx.size hb_kb
  replace hx := hx.tr he
  clear he
  refine segp (ρ' := [(0, .slice (some ⟨kb, 0, none⟩) 5 5)]) (C := []) ha 1 [] rfl (by kernel_rfl) .nil ?_
  clear ha a; intro a ha
  refine lnil ?_
  replace ha := ha.sub (ρ' := [(0, .slice (some ⟨kb, 0, none⟩) 5 5)]) (by kernel_rfl)
  refine tn ?_
  refine wret ?_
  refine fin ha (.tmp rfl .nil) ?_
  exact ⟨kb, rfl, hb_kb, hB_kb, hx⟩
theorem choose_ok (A1 A2 : Option Addr) (c1 c2 : Nat) (l1 l2 : List (List UInt8)) (w : World) (hr1 : Rd w 1 A1 l1.length (l1.flatMap encS)) (hr2 : Rd w 1 A2 l2.length (l2.flatMap encS)) (hl1 : l1.length ≤ 9223372036854775807) (hl2 : l2.length ≤ 9223372036854775807) :
    Fn Tryd.prog 30 #[.slice A1 l1.length c1, .slice A2 l2.length c2] w (fun v w' => ∃ A c, v = .slice A (cChosen l1 l2).length c ∧ Rd w' 1 A (cChosen l1 l2).length ((cChosen l1 l2).flatMap encS) ∧ Ext w w') := by
  have hx : Ext w w := Ext.rfl' w
  refine enter (N := 8) (args := [.slice A1 l1.length c1, .slice A2 l2.length c2]) Tryd.func30 rfl rfl rfl ?_
  intro a ha
  simp only [argEnv, Nat.zero_add, Nat.reduceAdd] at ha
  refine wseq ?_
  refine reg_list ?_
  refine lnew ha rfl (by kernel_rfl) #[.slice A1 l1.length c1] 22 (by kernel_rfl) ?_
  clear ha a; intro b2 w1 he hb_b2 hB_b2 a ha
  replace hb_b2 := Nat.le_trans hx.size hb_b2
  replace hx := hx.tr he
  clear he
  refine lnew ha rfl (by kernel_rfl) #[.slice A2 l2.length c2] 22 (by kernel_rfl) ?_
  clear ha a; intro b3 w2 he hb_b3 hB_b3 a ha
  have hne_b2_b3 : b2 ≠ b3 := ne_new hB_b2 hb_b3
  replace hB_b2 := keepB he hB_b2
  replace hb_b3 := Nat.le_trans hx.size hb_b3
  replace hx := hx.tr he
  clear he
  refine segp (ρ' := [(2, .pointer (some ⟨b2, 0, none⟩)), (3, .pointer (some ⟨b3, 0, none⟩))]) (C := []) ha 1 [] rfl (by kernel_rfl) .nil ?_
  clear ha a; intro a ha
  refine lnil ?_
  replace ha := ha.sub (ρ' := [(2, .pointer (some ⟨b2, 0, none⟩)), (3, .pointer (some ⟨b3, 0, none⟩))]) (by kernel_rfl)
  refine tn ?_
  refine wseq ?_
  refine reg_list ?_
  refine lcall (vs := #[]) ha rfl (by kernel_rfl) rfl rfl (by kernel_rfl) (by kernel_rfl) (known_ok _) ?_
  clear ha a; rintro _ w3 ⟨kb, rfl, hb_kb, hB_kb, he⟩ a ha
  have hne_b2_kb : b2 ≠ kb := ne_new hB_b2 hb_kb
  have hne_b3_kb : b3 ≠ kb := ne_new hB_b3 hb_kb
  replace hB_b2 := keepB he hB_b2
  replace hB_b3 := keepB he hB_b3
  replace hb_kb := Nat.le_trans hx.size hb_kb
  replace hx := hx.tr he
  clear he
  refine lrun (v := (.func (.func 54) #[] #[.pointer (some ⟨b2, 0, none⟩), .pointer (some ⟨b3, 0, none⟩)])) (w' := w3) ha rfl (by kernel_rfl) (by first | rfl | kernel_rfl) ?_
  clear ha a; intro a ha
  refine lcall (vs := #[.slice (some ⟨kb, 0, none⟩) 5 5, (.func (.func 54) #[] #[.pointer (some ⟨b2, 0, none⟩), .pointer (some ⟨b3, 0, none⟩)])]) ha rfl (by kernel_rfl) rfl rfl (by kernel_rfl) (by kernel_rfl) (del_okF l1 l2 A1 A2 c1 c2 b2 b3 kb _ w w3 hx hb_kb hne_b2_kb hne_b3_kb (by simp [World.cell?, hB_b2]) (by simp [World.cell?, hB_b3]) hr1 hr2 hl1 hl2 hB_kb) ?_
  clear ha a hx hB_b2 hB_b3 hB_kb; rintro _ w4 ⟨rfl, hrk, hx⟩ a ha
  refine segp (ρ' := [(4, .slice (some ⟨kb, 0, none⟩) ((cChosen l1 l2).length) 5)]) (C := []) ha 1 [] rfl (by kernel_rfl) .nil ?_
  clear ha a; intro a ha
  refine lnil ?_
  replace ha := ha.sub (ρ' := [(4, .slice (some ⟨kb, 0, none⟩) ((cChosen l1 l2).length) 5)]) (by kernel_rfl)
  refine tn ?_
  refine wret ?_
  refine fin ha (.tmp rfl .nil) ?_
  exact ⟨_, _, rfl, hrk, hx⟩
end Go.Kn
end
section
set_option linter.unusedSimpArgs false
set_option linter.unusedVariables false
set_option maxRecDepth 100000
namespace Go.Kn
open Go.Proofs
theorem rd_known {w : World} {kb T : Nat} {f : Nat × Nat} (h : w.heap[kb]? = some (.cells #[.string (S [97, 116, 111, 109, 105, 99]), .string (S [98, 97, 110, 100]), .string (S [100, 101, 101, 112, 101, 110]), .string (S [111, 102, 115]), .string (S [116, 104, 105, 110])] T f)) : Rd w 1 (some ⟨kb, 0, none⟩) 5 (known5.flatMap encS) := rd_blk h rfl
theorem word_ok (s : List UInt8) (w : World) (hs : s.length ≤ 1000000) :
    Fn Tryd.prog 34 #[.string (S s)] w (fun v w' => v = .bool (cWord s) ∧ Ext w w') := by
  have hx : Ext w w := Ext.rfl' w
  refine enter (N := 15) (args := [.string (S s)]) Tryd.func34 rfl rfl rfl ?_
  intro a ha
  simp only [argEnv, Nat.zero_add, Nat.reduceAdd] at ha
  refine wseq ?_
  refine regp (ρ' := [(0, .string (S s))]) (C := []) ha [] (by kernel_rfl) .nil ?_
  clear ha a; intro a ha
  refine tn ?_
  refine wseq ?_
  refine reg hmix (ρ' := [(2, .bool (((!decide ((s : List UInt8) = ([] : List UInt8))) && (decide (((s.length : Nat) : Int) ≤ 20))) && (decide (((Go.Lib.idxFunc strP true (S s)) : Int) < 0))))]) (C := [((!decide ((s : List UInt8) = ([] : List UInt8))) && (decide (((s.length : Nat) : Int) ≤ 20))) = true → All [CallOk Tryd.prog w 56 #[.string (S s), .func (.func 57) #[] #[]] (.int .i64 (Go.Lib.idxFunc strP true (S s)))]]) ha [(9, .val (.int .i64 (Go.Lib.idxFunc strP true (S s))))] (by kernel_rfl) (.cons (fun hg8 => by simp only [Bool.not_eq_true', Bool.not_eq_false', Bool.and_eq_true, Bool.or_eq_true, Bool.and_eq_false_iff, Bool.or_eq_false_iff, decide_eq_true_eq, decide_eq_false_iff_not, Bool.not_eq_true, Decidable.not_not] at hg8; exact (.cons (fun w _ => sidx_ok _ w) .nil)) .nil) ?_
  clear ha a; intro a w1 ha he
  replace hx := hx.tr he
  clear he
  refine tn ?_
  refine wret ?_
  refine fin ha (.tmp rfl .nil) ?_
  exact ⟨congrArg Value.bool (word_eq s), hx⟩
theorem rword_ok (s : List UInt8) (w : World) (hs : s.length ≤ 1000000) :
    Fn Tryd.prog 32 #[.string (S s)] w (fun v w' => v = .bool (cWord s) ∧ Ext w w') := by
  have hx : Ext w w := Ext.rfl' w
  refine enter (N := 40) (args := [.string (S s)]) Tryd.func32 rfl rfl rfl ?_
  intro a ha
  simp only [argEnv, Nat.zero_add, Nat.reduceAdd] at ha
  refine wseq ?_
  refine regp (ρ' := [(0, .string (S s))]) (C := []) ha [] (by kernel_rfl) .nil ?_
  clear ha a; intro a ha
  refine tn ?_
  refine wseq ?_
  refine wseq ?_
  refine regp (ρ' := [(0, .string (S s)), (3, .int .i64 0)]) (C := []) ha [] (by kernel_rfl) .nil ?_
  clear ha a; intro a ha
  refine tn ?_
  refine wblk ?_
  refine wloop (fun zz a w1 => ∃ (i : Nat), zz = s.length - i ∧ On 40 [(0, .string (S s)), (3, .int .i64 ((i : Nat) : Int))] a ∧ Ext w w1 ∧ (i ≤ s.length) ∧ (∀ j, j < i → strP (s.getD j 0).toNat = false)) _ ⟨0, rfl, ha.sub (ρ' := [(0, .string (S s)), (3, .int .i64 ((0 : Nat) : Int))]) (by kernel_rfl), hx, by omega, fun j hj => absurd hj (by omega)⟩ ?_
  clear ha hx
  rintro zz a w2 ⟨i, hzz, ha, hx, hi, hk⟩
  refine wseq ?_
  refine wseq ?_
  refine regp (ρ' := [(0, .string (S s)), (3, .int .i64 ((i : Nat) : Int)), (8, .bool (decide (((i : Nat) : Int) < ((s.length : Nat) : Int))))]) (C := []) ha [] (by kernel_rfl) .nil ?_
  clear ha a; intro a ha
  refine tn ?_
  refine wif ha rfl (fun h8 => ?_) (fun h8 => ?_)
  · replace h8 := of_decide_eq_true h8
    refine wskip ?_
    refine tn ?_
    refine wseq ?_
    refine wblk ?_
    refine wseq ?_
    refine regp (ρ' := [(0, .string (S s)), (3, .int .i64 ((i : Nat) : Int)), (4, .int .u8 (((s.getD i 0).toNat : Nat) : Int))]) (C := [0 ≤ ((i : Nat) : Int) ∧ ((i : Nat) : Int) < (s.length : Int)]) ha [] (by kernel_rfl) (.cons ⟨by omega, by omega⟩ .nil) ?_
    clear ha a; intro a ha
    refine tn ?_
    refine wseq ?_
    refine wseq ?_
    refine regp (ρ' := [(0, .string (S s)), (3, .int .i64 ((i : Nat) : Int)), (31, .bool (((decide ((((s.getD i 0).toNat : Nat) : Int) = 45)) || ((decide ((48 : Int) ≤ (((s.getD i 0).toNat : Nat) : Int))) && (decide ((((s.getD i 0).toNat : Nat) : Int) ≤ 57)))) || ((decide ((97 : Int) ≤ (((s.getD i 0).toNat : Nat) : Int))) && (decide ((((s.getD i 0).toNat : Nat) : Int) ≤ 122)))))]) (C := []) ha [] (by kernel_rfl) .nil ?_
    clear ha a; intro a ha
    refine tn ?_
    refine wif ha rfl (fun h31 => ?_) (fun h31 => ?_)
    · simp only [Bool.not_eq_true', Bool.not_eq_false', Bool.and_eq_true, Bool.or_eq_true, Bool.and_eq_false_iff, Bool.or_eq_false_iff, decide_eq_true_eq, decide_eq_false_iff_not, Bool.not_eq_true, Decidable.not_not] at h31
      refine wexit ?_
      refine (te (be ?_))
      refine tn ?_
      refine regp (ρ' := [(0, .string (S s)), (3, .int .i64 ((i + 1 : Nat) : Int))]) (C := [InR .i64 ((i + 1 : Nat) : Int)]) ha [] (by kernel_rfl) (.cons (by unfold InR; omega) .nil) ?_
      clear ha a; intro a ha
      exact tn ⟨s.length - ((i + 1)), by omega, (i + 1), rfl, ha.sub (ρ' := [(0, .string (S s)), (3, .int .i64 (((i + 1) : Nat) : Int))]) (by kernel_rfl), hx, by omega, fun j hj => (Nat.lt_or_ge j i).elim (hk j) (fun h => (show j = i by omega) ▸ strP_ok (by omega))⟩
    · simp only [Bool.not_eq_true', Bool.not_eq_false', Bool.and_eq_true, Bool.or_eq_true, Bool.and_eq_false_iff, Bool.or_eq_false_iff, decide_eq_true_eq, decide_eq_false_iff_not, Bool.not_eq_true, Decidable.not_not] at h31
      have hres := cWord_bad (s := s) (i := i) (by omega) (strP_bad (by omega))
      refine wskip ?_
      refine tn ?_
      refine wseq ?_
      refine regp (ρ' := [(2, .bool false)]) (C := []) ha [] (by kernel_rfl) .nil ?_
      clear ha a; intro a ha
      refine tn ?_
      refine wret ?_
      refine (br (tr (tr (br (tr ?_)))))
      refine fin ha (.tmp rfl .nil) ?_
      exact ⟨congrArg Value.bool (by rw [hres] <;> (congr 1 <;> exact decide_eq_decide.2 (by omega))), hx⟩
  · replace h8 := of_decide_eq_false h8
    obtain rfl : i = s.length := by omega
    have hres := cWord_len hk
    refine wexit ?_
    refine (te (te (be ?_)))
    refine tn ?_
    refine wseq ?_
    refine regp (ρ' := [(2, .bool ((decide ((1 : Int) ≤ ((s.length : Nat) : Int))) && (decide (((s.length : Nat) : Int) ≤ 20))))]) (C := []) ha [] (by kernel_rfl) .nil ?_
    clear ha a; intro a ha
    refine tn ?_
    refine wret ?_
    refine fin ha (.tmp rfl .nil) ?_
    exact ⟨congrArg Value.bool (by rw [hres] <;> (congr 1 <;> exact decide_eq_decide.2 (by omega))), hx⟩
theorem fine_ok (A : Option Addr) (c : Nat) (l : List (List UInt8)) (w : World) (hr : Rd w 1 A l.length (l.flatMap encS)) (hl : l.length ≤ 1000000) (hs100 : ∀ i, i < l.length → (l.getD i default).length ≤ 1000000) :
    Fn Tryd.prog 11 #[.slice A l.length c] w (fun v w' => v = .bool (cFine l) ∧ Ext w w') := by
  have hx : Ext w w := Ext.rfl' w
  refine enter (N := 32) (args := [.slice A l.length c]) Tryd.func11 rfl rfl rfl ?_
  intro a ha
  simp only [argEnv, Nat.zero_add, Nat.reduceAdd] at ha
  refine wseq ?_
  refine regp (ρ' := [(0, .slice A l.length c)]) (C := []) ha [] (by kernel_rfl) .nil ?_
  clear ha a; intro a ha
  refine tn ?_
  refine wseq ?_
  refine wseq ?_
  refine regp (ρ' := [(0, .slice A l.length c), (5, .slice A l.length c), (6, .int .i64 ((l.length : Nat) : Int)), (7, .int .i64 0)]) (C := []) ha [] (by kernel_rfl) .nil ?_
  clear ha a; intro a ha
  refine tn ?_
  refine wblk ?_
  refine wloop (fun zz a w1 => ∃ (i : Nat), zz = l.length - i ∧ On 32 [(0, .slice A l.length c), (5, .slice A l.length c), (6, .int .i64 ((l.length : Nat) : Int)), (7, .int .i64 ((i : Nat) : Int))] a ∧ Ext w w1 ∧ (i ≤ l.length) ∧ (∀ j, j < i → fineAt l j = true)) _ ⟨0, rfl, ha.sub (ρ' := [(0, .slice A l.length c), (5, .slice A l.length c), (6, .int .i64 ((l.length : Nat) : Int)), (7, .int .i64 ((0 : Nat) : Int))]) (by kernel_rfl), hx, by omega, fun j hj => absurd hj (by omega)⟩ ?_
  clear ha hx
  rintro zz a w2 ⟨i, hzz, ha, hx, hi, hk⟩
  refine wseq ?_
  refine regp (ρ' := [(0, .slice A l.length c), (5, .slice A l.length c), (6, .int .i64 ((l.length : Nat) : Int)), (7, .int .i64 ((i : Nat) : Int)), (8, .bool (decide (((i : Nat) : Int) < ((l.length : Nat) : Int))))]) (C := []) ha [] (by kernel_rfl) .nil ?_
  clear ha a; intro a ha
  refine tn ?_
  refine wseq ?_
  refine wif ha rfl (fun h8 => ?_) (fun h8 => ?_)
  · replace h8 := of_decide_eq_true h8
    have hw := hs100 i (by omega)
    refine wskip ?_
    refine tn ?_
    refine wseq ?_
    refine wblk ?_
    refine wseq ?_
    refine regp (ρ' := [(0, .slice A l.length c), (3, .int .i64 ((i : Nat) : Int)), (4, .string (S (l.getD i default))), (5, .slice A l.length c), (6, .int .i64 ((l.length : Nat) : Int)), (7, .int .i64 ((i : Nat) : Int))]) (C := [RunOk Tryd.prog w2 (Instr.indexAt 22 (.slice A l.length c) (.int .i64 ((i : Nat) : Int))) (.pointer (some ⟨ab A, ao A + i * 1, none⟩)), RunOk Tryd.prog w2 (Instr.loadAt 9 (.pointer (some ⟨ab A, ao A + i * 1, none⟩))) (.string (S (l.getD i default)))]) ha [(1, .val (.pointer (some ⟨ab A, ao A + i * 1, none⟩))), (2, .val (.string (S (l.getD i default))))] (by kernel_rfl) (.cons (ixRd (e := 9) (by kernel_rfl) (by kernel_rfl) (rdE hx hr) (by omega)) (.cons (ldRd (j := i * 1) (by kernel_rfl) (rdE hx hr) (by omega) (flat_get0 encS_len l default i (by omega) rfl)) .nil)) ?_
    clear ha a; intro a ha
    refine tn ?_
    refine wseq ?_
    refine reg hmix (ρ' := [(0, .slice A l.length c), (5, .slice A l.length c), (6, .int .i64 ((l.length : Nat) : Int)), (7, .int .i64 ((i : Nat) : Int)), (27, .bool ((!(cWord (l.getD i default))) || ((decide ((0 : Int) < ((i : Nat) : Int))) && (!Op.bytesLess ((l.getD (((((i : Nat) : Int) - 1) : Int).toNat) default) : List UInt8) ((l.getD i default) : List UInt8)))))]) (C := [CallOk Tryd.prog w2 34 #[.string (S (l.getD i default))] (.bool (cWord (l.getD i default))), (!(cWord (l.getD i default))) = false → All [(decide ((0 : Int) < ((i : Nat) : Int))) = true → All [InR .i64 (((i : Nat) : Int) - 1), RunOk Tryd.prog w2 (Instr.indexAt 22 (.slice A l.length c) (.int .i64 (((i : Nat) : Int) - 1))) (.pointer (some ⟨ab A, ao A + ((((i : Nat) : Int) - 1) : Int).toNat * 1, none⟩)), RunOk Tryd.prog w2 (Instr.loadAt 9 (.pointer (some ⟨ab A, ao A + ((((i : Nat) : Int) - 1) : Int).toNat * 1, none⟩))) (.string (S (l.getD (((((i : Nat) : Int) - 1) : Int).toNat) default)))]]]) ha [(1, .val (.bool (cWord (l.getD i default)))), (10, .val (.pointer (some ⟨ab A, ao A + ((((i : Nat) : Int) - 1) : Int).toNat * 1, none⟩))), (11, .val (.string (S (l.getD (((((i : Nat) : Int) - 1) : Int).toNat) default))))] (by kernel_rfl) (.cons (fun w _ => word_ok _ w (by omega)) (.cons (fun hg4 => by simp only [Bool.not_eq_true', Bool.not_eq_false', Bool.and_eq_true, Bool.or_eq_true, Bool.and_eq_false_iff, Bool.or_eq_false_iff, decide_eq_true_eq, decide_eq_false_iff_not, Bool.not_eq_true, Decidable.not_not] at hg4; exact (.cons (fun hg7 => by replace hg7 := of_decide_eq_true hg7; exact (.cons (by unfold InR; omega) (.cons (ixRdI (e := 9) (by kernel_rfl) (by kernel_rfl) (rdE hx hr) ⟨by omega, by omega⟩) (.cons (ldRd (j := ((((i : Nat) : Int) - 1) : Int).toNat * 1) (by kernel_rfl) (rdE hx hr) (by omega) (flat_get0 encS_len l default (((((i : Nat) : Int) - 1) : Int).toNat) (by omega) rfl)) .nil)))) .nil)) .nil)) ?_
    clear ha a; intro a w3 ha he
    replace hx := hx.tr he
    clear he
    refine tn ?_
    refine wif ha rfl (fun h27 => ?_) (fun h27 => ?_)
    · simp only [Bool.not_eq_true', Bool.not_eq_false', Bool.and_eq_true, Bool.or_eq_true, Bool.and_eq_false_iff, Bool.or_eq_false_iff, decide_eq_true_eq, decide_eq_false_iff_not, Bool.not_eq_true, Decidable.not_not] at h27
      try rw [show (((i : Nat) : Int) - 1).toNat = i - 1 by omega] at h27
      have hres := cFine_bad (l := l) (i := i) (by omega) (by unfold fineAt; rcases h27 with h | ⟨h0, h⟩; (rw [h]; rfl); (rw [h]; simp; omega))
      refine wseq ?_
      refine regp (ρ' := [(2, .bool false)]) (C := []) ha [] (by kernel_rfl) .nil ?_
      clear ha a; intro a ha
      refine tn ?_
      refine wret ?_
      refine (br (tr (tr (br (tr ?_)))))
      refine fin ha (.tmp rfl .nil) ?_
      exact ⟨congrArg Value.bool (by rw [hres] <;> exact decide_eq_decide.2 (by omega)), hx⟩
    · simp only [Bool.not_eq_true', Bool.not_eq_false', Bool.and_eq_true, Bool.or_eq_true, Bool.and_eq_false_iff, Bool.or_eq_false_iff, decide_eq_true_eq, decide_eq_false_iff_not, Bool.not_eq_true, Decidable.not_not] at h27
      try rw [show (((i : Nat) : Int) - 1).toNat = i - 1 by omega] at h27
      have hfi : fineAt l i = true := by
        unfold fineAt
        rw [h27.1]
        rcases h27.2 with h | h
        · simp; left; omega
        · rw [h]; simp
      refine wskip ?_
      refine bn ?_
      refine tn ?_
      refine regp (ρ' := [(0, .slice A l.length c), (5, .slice A l.length c), (6, .int .i64 ((l.length : Nat) : Int)), (7, .int .i64 ((i + 1 : Nat) : Int))]) (C := [InR .i64 ((i + 1 : Nat) : Int)]) ha [] (by kernel_rfl) (.cons (by unfold InR; omega) .nil) ?_
      clear ha a; intro a ha
      exact tn ⟨l.length - ((i + 1)), by omega, (i + 1), rfl, ha.sub (ρ' := [(0, .slice A l.length c), (5, .slice A l.length c), (6, .int .i64 ((l.length : Nat) : Int)), (7, .int .i64 (((i + 1) : Nat) : Int))]) (by kernel_rfl), hx, by omega, fun j hj => (Nat.lt_or_ge j i).elim (hk j) (fun h => (show j = i by omega) ▸ hfi)⟩
  · replace h8 := of_decide_eq_false h8
    obtain rfl : i = l.length := by omega
    have hres := cFine_len hk
    refine wexit ?_
    refine (te (te (be ?_)))
    refine tn ?_
    refine wseq ?_
    refine regp (ρ' := [(2, .bool (decide (((l.length : Nat) : Int) ≤ 20)))]) (C := []) ha [] (by kernel_rfl) .nil ?_
    clear ha a; intro a ha
    refine tn ?_
    refine wret ?_
    refine fin ha (.tmp rfl .nil) ?_
    exact ⟨congrArg Value.bool (by rw [hres] <;> exact decide_eq_decide.2 (by omega)), hx⟩
theorem rfine_ok (A : Option Addr) (c : Nat) (l : List (List UInt8)) (w : World) (hr : Rd w 1 A l.length (l.flatMap encS)) (hl : l.length ≤ 1000000) (hs100 : ∀ i, i < l.length → (l.getD i default).length ≤ 1000000) :
    Fn Tryd.prog 9 #[.slice A l.length c] w (fun v w' => v = .bool (cFine l) ∧ Ext w w') := by
  have hx : Ext w w := Ext.rfl' w
  refine enter (N := 35) (args := [.slice A l.length c]) Tryd.func9 rfl rfl rfl ?_
  intro a ha
  simp only [argEnv, Nat.zero_add, Nat.reduceAdd] at ha
  refine wseq ?_
  refine regp (ρ' := [(0, .slice A l.length c)]) (C := []) ha [] (by kernel_rfl) .nil ?_
  clear ha a; intro a ha
  refine tn ?_
  refine wseq ?_
  refine wseq ?_
  refine regp (ρ' := [(0, .slice A l.length c), (3, .int .i64 0)]) (C := []) ha [] (by kernel_rfl) .nil ?_
  clear ha a; intro a ha
  refine tn ?_
  refine wblk ?_
  refine wloop (fun zz a w1 => ∃ (i : Nat), zz = l.length - i ∧ On 35 [(0, .slice A l.length c), (3, .int .i64 ((i : Nat) : Int))] a ∧ Ext w w1 ∧ (i ≤ l.length) ∧ (∀ j, j < i → fineAt l j = true)) _ ⟨0, rfl, ha.sub (ρ' := [(0, .slice A l.length c), (3, .int .i64 ((0 : Nat) : Int))]) (by kernel_rfl), hx, by omega, fun j hj => absurd hj (by omega)⟩ ?_
  clear ha hx
  rintro zz a w2 ⟨i, hzz, ha, hx, hi, hk⟩
  refine wseq ?_
  refine wseq ?_
  refine regp (ρ' := [(0, .slice A l.length c), (3, .int .i64 ((i : Nat) : Int)), (8, .bool (decide (((i : Nat) : Int) < ((l.length : Nat) : Int))))]) (C := []) ha [] (by kernel_rfl) .nil ?_
  clear ha a; intro a ha
  refine tn ?_
  refine wif ha rfl (fun h8 => ?_) (fun h8 => ?_)
  · replace h8 := of_decide_eq_true h8
    have hw := hs100 i (by omega)
    refine wskip ?_
    refine tn ?_
    refine wseq ?_
    refine wblk ?_
    refine wseq ?_
    refine reg hmix (ρ' := [(0, .slice A l.length c), (3, .int .i64 ((i : Nat) : Int)), (4, .bool (cWord (l.getD i default)))]) (C := [RunOk Tryd.prog w2 (Instr.indexAt 22 (.slice A l.length c) (.int .i64 ((i : Nat) : Int))) (.pointer (some ⟨ab A, ao A + i * 1, none⟩)), RunOk Tryd.prog w2 (Instr.loadAt 9 (.pointer (some ⟨ab A, ao A + i * 1, none⟩))) (.string (S (l.getD i default))), CallOk Tryd.prog w2 32 #[.string (S (l.getD i default))] (.bool (cWord (l.getD i default)))]) ha [(2, .val (.pointer (some ⟨ab A, ao A + i * 1, none⟩))), (3, .val (.string (S (l.getD i default)))), (4, .val (.bool (cWord (l.getD i default))))] (by kernel_rfl) (.cons (ixRd (e := 9) (by kernel_rfl) (by kernel_rfl) (rdE hx hr) (by omega)) (.cons (ldRd (j := i * 1) (by kernel_rfl) (rdE hx hr) (by omega) (flat_get0 encS_len l default i (by omega) rfl)) (.cons (fun w _ => rword_ok _ w (by omega)) .nil))) ?_
    clear ha a; intro a w3 ha he
    replace hx := hx.tr he
    clear he
    refine tn ?_
    refine wseq ?_
    refine wseq ?_
    refine regp (ρ' := [(0, .slice A l.length c), (3, .int .i64 ((i : Nat) : Int)), (17, .bool (!(cWord (l.getD i default))))]) (C := []) ha [] (by kernel_rfl) .nil ?_
    clear ha a; intro a ha
    refine tn ?_
    refine wif ha rfl (fun h17 => ?_) (fun h17 => ?_)
    · simp only [Bool.not_eq_true', Bool.not_eq_false', Bool.and_eq_true, Bool.or_eq_true, Bool.and_eq_false_iff, Bool.or_eq_false_iff, decide_eq_true_eq, decide_eq_false_iff_not, Bool.not_eq_true, Decidable.not_not] at h17
      have hres := cFine_bad (l := l) (i := i) (by omega) (by unfold fineAt; rw [show cWord (l.getD i default) = false by simpa using h17]; rfl)
      refine wseq ?_
      refine regp (ρ' := [(2, .bool false)]) (C := []) ha [] (by kernel_rfl) .nil ?_
      clear ha a; intro a ha
      refine tn ?_
      refine wret ?_
      refine (tr (br (tr (tr (br (tr ?_))))))
      refine fin ha (.tmp rfl .nil) ?_
      exact ⟨congrArg Value.bool (by rw [hres] <;> exact decide_eq_decide.2 (by omega)), hx⟩
    · simp only [Bool.not_eq_true', Bool.not_eq_false', Bool.and_eq_true, Bool.or_eq_true, Bool.and_eq_false_iff, Bool.or_eq_false_iff, decide_eq_true_eq, decide_eq_false_iff_not, Bool.not_eq_true, Decidable.not_not] at h17
      have hwd : cWord (l.getD i default) = true := by simpa using h17
      refine wskip ?_
      refine tn ?_
      refine wseq ?_
      refine reg hmix (ρ' := [(0, .slice A l.length c), (3, .int .i64 ((i : Nat) : Int)), (31, .bool ((decide ((0 : Int) < ((i : Nat) : Int))) && (Op.bytesLess ((l.getD i default) : List UInt8) ((l.getD (((((i : Nat) : Int) - 1) : Int).toNat) default) : List UInt8) || decide (((l.getD i default) : List UInt8) = ((l.getD (((((i : Nat) : Int) - 1) : Int).toNat) default) : List UInt8)))))]) (C := [(decide ((0 : Int) < ((i : Nat) : Int))) = true → All [RunOk Tryd.prog w3 (Instr.indexAt 22 (.slice A l.length c) (.int .i64 ((i : Nat) : Int))) (.pointer (some ⟨ab A, ao A + i * 1, none⟩)), RunOk Tryd.prog w3 (Instr.loadAt 9 (.pointer (some ⟨ab A, ao A + i * 1, none⟩))) (.string (S (l.getD i default))), InR .i64 (((i : Nat) : Int) - 1), RunOk Tryd.prog w3 (Instr.indexAt 22 (.slice A l.length c) (.int .i64 (((i : Nat) : Int) - 1))) (.pointer (some ⟨ab A, ao A + ((((i : Nat) : Int) - 1) : Int).toNat * 1, none⟩)), RunOk Tryd.prog w3 (Instr.loadAt 9 (.pointer (some ⟨ab A, ao A + ((((i : Nat) : Int) - 1) : Int).toNat * 1, none⟩))) (.string (S (l.getD (((((i : Nat) : Int) - 1) : Int).toNat) default)))]]) ha [(5, .val (.pointer (some ⟨ab A, ao A + i * 1, none⟩))), (6, .val (.string (S (l.getD i default)))), (10, .val (.pointer (some ⟨ab A, ao A + ((((i : Nat) : Int) - 1) : Int).toNat * 1, none⟩))), (11, .val (.string (S (l.getD (((((i : Nat) : Int) - 1) : Int).toNat) default))))] (by kernel_rfl) (.cons (fun hg3 => by replace hg3 := of_decide_eq_true hg3; exact (.cons (ixRd (e := 9) (by kernel_rfl) (by kernel_rfl) (rdE hx hr) (by omega)) (.cons (ldRd (j := i * 1) (by kernel_rfl) (rdE hx hr) (by omega) (flat_get0 encS_len l default i (by omega) rfl)) (.cons (by unfold InR; omega) (.cons (ixRdI (e := 9) (by kernel_rfl) (by kernel_rfl) (rdE hx hr) ⟨by omega, by omega⟩) (.cons (ldRd (j := ((((i : Nat) : Int) - 1) : Int).toNat * 1) (by kernel_rfl) (rdE hx hr) (by omega) (flat_get0 encS_len l default (((((i : Nat) : Int) - 1) : Int).toNat) (by omega) rfl)) .nil)))))) .nil) ?_
      clear ha a; intro a w4 ha he
      replace hx := hx.tr he
      clear he
      refine tn ?_
      refine wif ha rfl (fun h31 => ?_) (fun h31 => ?_)
      · simp only [Bool.not_eq_true', Bool.not_eq_false', Bool.and_eq_true, Bool.or_eq_true, Bool.and_eq_false_iff, Bool.or_eq_false_iff, decide_eq_true_eq, decide_eq_false_iff_not, Bool.not_eq_true, Decidable.not_not] at h31
        try rw [show (((i : Nat) : Int) - 1).toNat = i - 1 by omega] at h31
        have hres := cFine_bad (l := l) (i := i) (by omega) (by
          have e : (Op.bytesLess (l.getD i default) (l.getD (i - 1) default) || decide ((l.getD i default) = (l.getD (i - 1) default))) = true := by simpa using h31.2
          rw [bl_total] at e
          have e2 : Op.bytesLess (l.getD (i - 1) default) (l.getD i default) = false := by cases hb : Op.bytesLess (l.getD (i - 1) default) (l.getD i default) with | true => (rw [hb] at e; cases e) | false => rfl
          unfold fineAt
          rw [hwd, e2]
          have := h31.1
          simp; omega)
        refine wseq ?_
        refine regp (ρ' := [(2, .bool false)]) (C := []) ha [] (by kernel_rfl) .nil ?_
        clear ha a; intro a ha
        refine tn ?_
        refine wret ?_
        refine (br (tr (tr (br (tr ?_)))))
        refine fin ha (.tmp rfl .nil) ?_
        exact ⟨congrArg Value.bool (by rw [hres] <;> exact decide_eq_decide.2 (by omega)), hx⟩
      · simp only [Bool.not_eq_true', Bool.not_eq_false', Bool.and_eq_true, Bool.or_eq_true, Bool.and_eq_false_iff, Bool.or_eq_false_iff, decide_eq_true_eq, decide_eq_false_iff_not, Bool.not_eq_true, Decidable.not_not] at h31
        try rw [show (((i : Nat) : Int) - 1).toNat = i - 1 by omega] at h31
        have hfi : fineAt l i = true := by
          unfold fineAt
          rw [hwd]
          rcases h31 with h | h
          · simp; left; omega
          · have e : (Op.bytesLess (l.getD i default) (l.getD (i - 1) default) || decide ((l.getD i default) = (l.getD (i - 1) default))) = false := by simpa using h
            rw [bl_total] at e
            have e2 : Op.bytesLess (l.getD (i - 1) default) (l.getD i default) = true := by cases hb : Op.bytesLess (l.getD (i - 1) default) (l.getD i default) with | true => rfl | false => (rw [hb] at e; cases e)
            rw [e2]; simp
        refine wskip ?_
        refine bn ?_
        refine tn ?_
        refine regp (ρ' := [(0, .slice A l.length c), (3, .int .i64 ((i + 1 : Nat) : Int))]) (C := [InR .i64 ((i + 1 : Nat) : Int)]) ha [] (by kernel_rfl) (.cons (by unfold InR; omega) .nil) ?_
        clear ha a; intro a ha
        exact tn ⟨l.length - ((i + 1)), by omega, (i + 1), rfl, ha.sub (ρ' := [(0, .slice A l.length c), (3, .int .i64 (((i + 1) : Nat) : Int))]) (by kernel_rfl), hx, by omega, fun j hj => (Nat.lt_or_ge j i).elim (hk j) (fun h => (show j = i by omega) ▸ hfi)⟩
  · replace h8 := of_decide_eq_false h8
    obtain rfl : i = l.length := by omega
    have hres := cFine_len hk
    refine wexit ?_
    refine (te (te (be ?_)))
    refine tn ?_
    refine wseq ?_
    refine regp (ρ' := [(2, .bool (decide (((l.length : Nat) : Int) ≤ 20)))]) (C := []) ha [] (by kernel_rfl) .nil ?_
    clear ha a; intro a ha
    refine tn ?_
    refine wret ?_
    refine fin ha (.tmp rfl .nil) ?_
    exact ⟨congrArg Value.bool (by rw [hres] <;> exact decide_eq_decide.2 (by omega)), hx⟩
theorem same10_ok (A1 A2 : Option Addr) (c1 c2 : Nat) (l1 l2 : List (List UInt8)) (w : World) (hr1 : Rd w 1 A1 l1.length (l1.flatMap encS)) (hr2 : Rd w 1 A2 l2.length (l2.flatMap encS)) (hl1 : l1.length ≤ 1000000) (hl2 : l2.length ≤ 1000000) :
    Fn Tryd.prog 15 #[.slice A1 l1.length c1, .slice A2 l2.length c2] w (fun v w' => v = .bool (decide (l1 = l2)) ∧ Ext w w') := by
  have hx : Ext w w := Ext.rfl' w
  refine enter (N := 26) (args := [.slice A1 l1.length c1, .slice A2 l2.length c2]) Tryd.func15 rfl rfl rfl ?_
  intro a ha
  simp only [argEnv, Nat.zero_add, Nat.reduceAdd] at ha
  refine wseq ?_
  refine regp (ρ' := [(0, .slice A1 l1.length c1), (1, .slice A2 l2.length c2)]) (C := []) ha [] (by kernel_rfl) .nil ?_
  clear ha a; intro a ha
  refine tn ?_
  refine wseq ?_
  refine wseq ?_
  refine regp (ρ' := [(0, .slice A1 l1.length c1), (1, .slice A2 l2.length c2), (10, .bool (!decide (((l1.length : Nat) : Int) = ((l2.length : Nat) : Int))))]) (C := []) ha [] (by kernel_rfl) .nil ?_
  clear ha a; intro a ha
  refine tn ?_
  refine wif ha rfl (fun h10 => ?_) (fun h10 => ?_)
  · simp only [Bool.not_eq_true', Bool.not_eq_false', Bool.and_eq_true, Bool.or_eq_true, Bool.and_eq_false_iff, Bool.or_eq_false_iff, decide_eq_true_eq, decide_eq_false_iff_not, Bool.not_eq_true, Decidable.not_not] at h10
    have hres : decide (l1 = l2) = false := decide_eq_false (fun e => by rw [e] at h10; omega)
    refine wseq ?_
    refine regp (ρ' := [(4, .bool false)]) (C := []) ha [] (by kernel_rfl) .nil ?_
    clear ha a; intro a ha
    refine tn ?_
    refine wret ?_
    refine (tr ?_)
    refine fin ha (.tmp rfl .nil) ?_
    exact ⟨congrArg Value.bool hres.symm, hx⟩
  · simp only [Bool.not_eq_true', Bool.not_eq_false', Bool.and_eq_true, Bool.or_eq_true, Bool.and_eq_false_iff, Bool.or_eq_false_iff, decide_eq_true_eq, decide_eq_false_iff_not, Bool.not_eq_true, Decidable.not_not] at h10
    refine wskip ?_
    refine tn ?_
    refine wseq ?_
    refine wseq ?_
    refine regp (ρ' := [(0, .slice A1 l1.length c1), (1, .slice A2 l2.length c2), (5, .int .i64 0)]) (C := []) ha [] (by kernel_rfl) .nil ?_
    clear ha a; intro a ha
    refine tn ?_
    refine wblk ?_
    refine wloop (fun zz a w1 => ∃ (i : Nat), zz = l1.length - i ∧ On 26 [(0, .slice A1 l1.length c1), (1, .slice A2 l2.length c2), (5, .int .i64 ((i : Nat) : Int))] a ∧ Ext w w1 ∧ (i ≤ l1.length) ∧ (l1.take i = l2.take i)) _ ⟨0, rfl, ha.sub (ρ' := [(0, .slice A1 l1.length c1), (1, .slice A2 l2.length c2), (5, .int .i64 ((0 : Nat) : Int))]) (by kernel_rfl), hx, by omega, rfl⟩ ?_
    clear ha hx
    rintro zz a w2 ⟨i, hzz, ha, hx, hi, hk⟩
    refine wseq ?_
    refine wseq ?_
    refine regp (ρ' := [(0, .slice A1 l1.length c1), (1, .slice A2 l2.length c2), (5, .int .i64 ((i : Nat) : Int)), (14, .bool (decide (((i : Nat) : Int) < ((l1.length : Nat) : Int))))]) (C := []) ha [] (by kernel_rfl) .nil ?_
    clear ha a; intro a ha
    refine tn ?_
    refine wif ha rfl (fun h14 => ?_) (fun h14 => ?_)
    · replace h14 := of_decide_eq_true h14
      refine wskip ?_
      refine tn ?_
      refine wseq ?_
      refine wblk ?_
      refine wseq ?_
      refine reg hmix (ρ' := [(0, .slice A1 l1.length c1), (1, .slice A2 l2.length c2), (5, .int .i64 ((i : Nat) : Int)), (25, .bool (!decide (((l1.getD i default) : List UInt8) = ((l2.getD i default) : List UInt8))))]) (C := [RunOk Tryd.prog w2 (Instr.indexAt 22 (.slice A1 l1.length c1) (.int .i64 ((i : Nat) : Int))) (.pointer (some ⟨ab A1, ao A1 + i * 1, none⟩)), RunOk Tryd.prog w2 (Instr.loadAt 9 (.pointer (some ⟨ab A1, ao A1 + i * 1, none⟩))) (.string (S (l1.getD i default))), RunOk Tryd.prog w2 (Instr.indexAt 22 (.slice A2 l2.length c2) (.int .i64 ((i : Nat) : Int))) (.pointer (some ⟨ab A2, ao A2 + i * 1, none⟩)), RunOk Tryd.prog w2 (Instr.loadAt 9 (.pointer (some ⟨ab A2, ao A2 + i * 1, none⟩))) (.string (S (l2.getD i default)))]) ha [(2, .val (.pointer (some ⟨ab A1, ao A1 + i * 1, none⟩))), (3, .val (.string (S (l1.getD i default)))), (6, .val (.pointer (some ⟨ab A2, ao A2 + i * 1, none⟩))), (7, .val (.string (S (l2.getD i default))))] (by kernel_rfl) (.cons (ixRd (e := 9) (by kernel_rfl) (by kernel_rfl) (rdE hx hr1) (by omega)) (.cons (ldRd (j := i * 1) (by kernel_rfl) (rdE hx hr1) (by omega) (flat_get0 encS_len l1 default i (by omega) rfl)) (.cons (ixRd (e := 9) (by kernel_rfl) (by kernel_rfl) (rdE hx hr2) (by omega)) (.cons (ldRd (j := i * 1) (by kernel_rfl) (rdE hx hr2) (by omega) (flat_get0 encS_len l2 default i (by omega) rfl)) .nil)))) ?_
      clear ha a; intro a w3 ha he
      replace hx := hx.tr he
      clear he
      refine tn ?_
      refine wif ha rfl (fun h25 => ?_) (fun h25 => ?_)
      · simp only [Bool.not_eq_true', Bool.not_eq_false', Bool.and_eq_true, Bool.or_eq_true, Bool.and_eq_false_iff, Bool.or_eq_false_iff, decide_eq_true_eq, decide_eq_false_iff_not, Bool.not_eq_true, Decidable.not_not] at h25
        have hres : decide (l1 = l2) = false := decide_eq_false (fun e => h25 (by rw [e]))
        refine wseq ?_
        refine regp (ρ' := [(4, .bool false)]) (C := []) ha [] (by kernel_rfl) .nil ?_
        clear ha a; intro a ha
        refine tn ?_
        refine wret ?_
        refine (br (tr (tr (br (tr ?_)))))
        refine fin ha (.tmp rfl .nil) ?_
        exact ⟨congrArg Value.bool hres.symm, hx⟩
      · simp only [Bool.not_eq_true', Bool.not_eq_false', Bool.and_eq_true, Bool.or_eq_true, Bool.and_eq_false_iff, Bool.or_eq_false_iff, decide_eq_true_eq, decide_eq_false_iff_not, Bool.not_eq_true, Decidable.not_not] at h25
        refine wskip ?_
        refine bn ?_
        refine tn ?_
        refine regp (ρ' := [(0, .slice A1 l1.length c1), (1, .slice A2 l2.length c2), (5, .int .i64 ((i + 1 : Nat) : Int))]) (C := [InR .i64 ((i + 1 : Nat) : Int)]) ha [] (by kernel_rfl) (.cons (by unfold InR; omega) .nil) ?_
        clear ha a; intro a ha
        exact tn ⟨l1.length - ((i + 1)), by omega, (i + 1), rfl, ha.sub (ρ' := [(0, .slice A1 l1.length c1), (1, .slice A2 l2.length c2), (5, .int .i64 (((i + 1) : Nat) : Int))]) (by kernel_rfl), hx, by omega, by rw [take_snocS _ i (by omega), take_snocS _ i (by omega), hk, h25]⟩
    · replace h14 := of_decide_eq_false h14
      have hres : decide (l1 = l2) = true := decide_eq_true (by rw [List.take_of_length_le (by omega), List.take_of_length_le (by omega)] at hk; exact hk)
      refine wexit ?_
      refine (te (te (be ?_)))
      refine tn ?_
      refine wseq ?_
      refine regp (ρ' := [(4, .bool true)]) (C := []) ha [] (by kernel_rfl) .nil ?_
      clear ha a; intro a ha
      refine tn ?_
      refine wret ?_
      refine fin ha (.tmp rfl .nil) ?_
      exact ⟨congrArg Value.bool hres.symm, hx⟩
end Go.Kn
end
section
/- What is chosen: plain laws. -/
set_option linter.unusedSimpArgs false
set_option linter.unusedVariables false
set_option maxRecDepth 100000
namespace Go.Kn
theorem cChosen_len (l1 l2 : List (List UInt8)) : (cChosen l1 l2).length ≤ 5 := List.length_filter_le _ known5
theorem cChosen_small (l1 l2 : List (List UInt8)) : ∀ i, i < (cChosen l1 l2).length → ((cChosen l1 l2).getD i default).length ≤ 1000000 := by
  intro i hi
  rw [List.getD_eq_getElem?_getD, List.getElem?_eq_getElem hi]
  have hm : (cChosen l1 l2)[i] ∈ known5 := (List.mem_filter.1 (List.getElem_mem hi)).1
  have : ∀ t ∈ known5, t.length ≤ 1000000 := by decide
  exact this _ hm
theorem cChosen_comm (l1 l2 : List (List UInt8)) : cChosen l2 l1 = cChosen l1 l2 := List.filter_congr fun t _ => Bool.and_comm _ _
theorem cChosen_again (l1 l2 : List (List UInt8)) : cChosen (cChosen l1 l2) l1 = cChosen l1 l2 := List.filter_congr fun t ht => by
  have : decide (t ∈ cChosen l1 l2) = (decide (t ∈ l1) && decide (t ∈ l2)) := by
    rw [← Bool.decide_and]
    exact decide_eq_decide.2 ⟨fun h => by simpa using (List.mem_filter.1 h).2, fun h => List.mem_filter.2 ⟨ht, by simpa using h⟩⟩
  rw [this]
  cases decide (t ∈ l1) <;> cases decide (t ∈ l2) <;> rfl
theorem cChosen_once (l1 l2 : List (List UInt8)) : cChosen l2 (cChosen l1 l2) = cChosen l1 l2 := by
  rw [cChosen_comm, ← cChosen_comm l1 l2, cChosen_again]
theorem cChosen_fine (l1 l2 : List (List UInt8)) : cFine (cChosen l1 l2) = true := by
  have key : ∀ p : List UInt8 → Bool, cFine (known5.filter p) = true := by
    intro p
    unfold known5
    simp only [List.filter_cons, List.filter_nil]
    cases p [97, 116, 111, 109, 105, 99] <;> cases p [98, 97, 110, 100] <;> cases p [100, 101, 101, 112, 101, 110] <;> cases p [111, 102, 115] <;> cases p [116, 104, 105, 110] <;> decide +kernel
  exact key _
end Go.Kn
end
section
set_option linter.unusedSimpArgs false
set_option linter.unusedVariables false
set_option maxRecDepth 100000
namespace Go.Kn
open Go.Proofs Go.Shelf Go.RowKit Go.Lib
def ren146 : Ren := ⟨fun | 146 => 35 | 221 => 58 | 268 => 73 | 138 => 74 | 143 => 75 | 195 => 89 | 197 => 90 | 218 => 91 | 219 => 92 | 260 => 97 | 217 => 98 | 225 => 99 | 224 => 100 | 267 => 101 | 266 => 103 | 314 => 104 | n => n, fun | 31 => 22 | 105 => 140 | 46 => 80 | 119 => 153 | 139 => 156 | 138 => 155 | 146 => 144 | 51 => 59 | n => n, fun | 3 => 2 | 4 => 3 | n => n⟩
theorem lays146 : Lays.n146 Tryd.prog ren146 := {
  mixed := by kernel_rfl,
  f138 := by kernel_rfl,
  f143 := by kernel_rfl,
  f146 := by kernel_rfl,
  f195 := by kernel_rfl,
  f197 := by kernel_rfl,
  f217 := by kernel_rfl,
  f218 := by kernel_rfl,
  f219 := by kernel_rfl,
  f221 := by kernel_rfl,
  f224 := by kernel_rfl,
  f225 := by kernel_rfl,
  f260 := by kernel_rfl,
  f266 := by kernel_rfl,
  f267 := by kernel_rfl,
  f268 := by kernel_rfl,
  f314 := by kernel_rfl,
  t0 := by kernel_rfl,
  a0 := fun w => by kernel_rfl,
  z0 := fun w => by kernel_rfl,
  v0 := fun w => by kernel_rfl,
  t3 := by kernel_rfl,
  a3 := fun w => by kernel_rfl,
  z3 := fun w => by kernel_rfl,
  v3 := fun w => by kernel_rfl,
  t4 := by kernel_rfl,
  a4 := fun w => by kernel_rfl,
  z4 := fun w => by kernel_rfl,
  v4 := fun w => by kernel_rfl,
  t5 := by kernel_rfl,
  a5 := fun w => by kernel_rfl,
  z5 := fun w => by kernel_rfl,
  v5 := fun w => by kernel_rfl,
  t9 := by kernel_rfl,
  a9 := fun w => by kernel_rfl,
  z9 := fun w => by kernel_rfl,
  v9 := fun w => by kernel_rfl,
  t21 := by kernel_rfl,
  a21 := fun w => by kernel_rfl,
  z21 := fun w => by kernel_rfl,
  v21 := fun w => by kernel_rfl,
  t31 := by kernel_rfl,
  a31 := fun w => by kernel_rfl,
  z31 := fun w => by kernel_rfl,
  v31 := fun w => by kernel_rfl,
  t46 := by kernel_rfl,
  a46 := fun w => by kernel_rfl,
  z46 := fun w => by kernel_rfl,
  v46 := fun w => by kernel_rfl,
  t51 := by kernel_rfl,
  a51 := fun w => by kernel_rfl,
  z51 := fun w => by kernel_rfl,
  v51 := fun w => by kernel_rfl,
  t105 := by kernel_rfl,
  a105 := fun w => by kernel_rfl,
  z105 := fun w => by kernel_rfl,
  v105 := fun w => by kernel_rfl,
  t119 := by kernel_rfl,
  a119 := fun w => by kernel_rfl,
  z119 := fun w => by kernel_rfl,
  t138 := by kernel_rfl,
  a138 := fun w => by kernel_rfl,
  z138 := fun w => by kernel_rfl,
  v138 := fun w => by kernel_rfl,
  t139 := by kernel_rfl,
  a139 := fun w => by kernel_rfl,
  z139 := fun w => by kernel_rfl,
  v139 := fun w => by kernel_rfl,
  t146 := by kernel_rfl,
  a146 := fun w => by kernel_rfl,
  z146 := fun w => by kernel_rfl,
  v146 := fun w => by kernel_rfl,
  g1 := by kernel_rfl,
  g3 := by kernel_rfl,
  g4 := by kernel_rfl }
def cSplit (s : List UInt8) : List (List UInt8) := (Lib.splitB (S [32]) 0 (Lib.countB (S s) (S [32])) (S s)).map (·.data.toList)
theorem split_ok (s : List UInt8) (m : Int) (w : World) (hs : s.length < 4294967281) (hm : w.cell? ⟨ren146.g 1, 0, none⟩ = some (.int .i64 m)) :
    Fn Tryd.prog 35 #[.string (S s), .string (S [32])] w fun v w' => ∃ A c, v = .slice A (cSplit s).length c ∧ Rd w' 1 A (cSplit s).length ((cSplit s).flatMap encS) ∧ Ext w w' ∧ (cSplit s).length ≤ c := by
  have h := Any.strings_Split lays146 (by kernel_rfl) (S s) (S [32]) m w (by rw [S_size]; exact hs) hm (by decide)
  refine Calls.mono h ?_
  rintro e w' ⟨rfl, rfl⟩
  have hl : (cSplit s).length = Lib.countB (S s) (S [32]) + 1 := by unfold cSplit; rw [List.length_map]; exact Lib.splitB_all (S [32]) (by decide) 0 _ _ rfl
  refine ⟨_, rfl, _, _, by rw [hl], ?_, Below.alloc (Below.refl _ w) (Nat.le_refl _) _, by omega⟩
  have e1 : ((cSplit s).flatMap encS) = (Lib.splitB (S [32]) 0 (Lib.countB (S s) (S [32])) (S s)).map Value.string := by
    rw [encS_flat]; unfold cSplit; rw [List.map_map]
    refine List.map_congr_left fun x _ => ?_
    simp [Function.comp, S_self]
  rw [e1]
  have hsz : ((Lib.splitB (S [32]) 0 (Lib.countB (S s) (S [32])) (S s)).map Value.string).toArray.size = (cSplit s).length * 1 := by unfold cSplit; simp
  generalize ((Lib.splitB (S [32]) 0 (Lib.countB (S s) (S [32])) (S s)).map Value.string) = L at *
  have hB : (w.alloc (.cells L.toArray (ren146.t 9))).heap[w.heap.size]? = some (.cells L.toArray (ren146.t 9) (0, 0)) := by show (w.heap.push _)[w.heap.size]? = _; exact Array.getElem?_push_size
  have := rd_blk (sz := 1) hB hsz
  simpa using this
end Go.Kn
end
section
set_option linter.unusedSimpArgs false
set_option linter.unusedVariables false
set_option maxRecDepth 100000
namespace Go.Kn
open Go.Proofs
end Go.Kn
end
section
set_option linter.unusedSimpArgs false
set_option linter.unusedVariables false
set_option maxRecDepth 100000
namespace Go.Kn
open Go.Proofs
theorem getbt_ok (m : Int) (w : World) (hm : w.cell? ⟨1, 0, none⟩ = some (.int .i64 m)) :
    Fn Tryd.prog 13 #[.string (S [98, 97, 110, 100, 32, 116, 104, 105, 110])] w (fun v w' => ∃ A c, v = .tuple #[.slice A 2 c, .int .i64 0] ∧ Ext w w') := by
  have hsp : cSplit [98, 97, 110, 100, 32, 116, 104, 105, 110] = ([[98, 97, 110, 100], [116, 104, 105, 110]] : List (List UInt8)) := by decide +kernel
  have hfi : cFine ([[98, 97, 110, 100], [116, 104, 105, 110]] : List (List UInt8)) = true := by decide +kernel
  have hx : Ext w w := Ext.rfl' w
  refine enter (N := 13) (args := [.string (S [98, 97, 110, 100, 32, 116, 104, 105, 110])]) Tryd.func13 rfl rfl rfl ?_
  intro a ha
  simp only [argEnv, Nat.zero_add, Nat.reduceAdd] at ha
  refine wseq ?_
  refine regp (ρ' := [(0, .string (S [98, 97, 110, 100, 32, 116, 104, 105, 110]))]) (C := []) ha [] (by kernel_rfl) .nil ?_
  clear ha a; intro a ha
  refine tn ?_
  refine wseq ?_
  refine wseq ?_
  refine regp (ρ' := [(0, .string (S [98, 97, 110, 100, 32, 116, 104, 105, 110])), (6, .bool (decide (([98, 97, 110, 100, 32, 116, 104, 105, 110] : List UInt8) = ([] : List UInt8))))]) (C := []) ha [] (by kernel_rfl) .nil ?_
  clear ha a; intro a ha
  refine tn ?_
  refine wif ha rfl (fun h6 => ?_) (fun h6 => ?_)
  · replace h6 := of_decide_eq_true h6
    refine wseq ?_
    refine regp (ρ' := [(2, .slice none 0 0), (3, .int .i64 0)]) (C := []) ha [] (by kernel_rfl) .nil ?_
    clear ha a; intro a ha
    refine tn ?_
    refine wret ?_
    refine (tr ?_)
    refine fin ha (.tmp rfl (.tmp rfl .nil)) ?_
    first | exact ⟨_, _, rfl, hx⟩ | (exfalso; rw [hfi] at *; simp at *)
  · replace h6 := of_decide_eq_false h6
    refine wskip ?_
    refine tn ?_
    refine wseq ?_
    refine reg_list ?_
    refine segp (ρ' := [(7, .string (S [98, 97, 110, 100, 32, 116, 104, 105, 110]))]) (C := []) ha 1 [] rfl (by kernel_rfl) .nil ?_
    clear ha a; intro a ha
    refine lcall (vs := #[.string (S [98, 97, 110, 100, 32, 116, 104, 105, 110]), .string (S [32])]) ha rfl (by kernel_rfl) rfl rfl (by kernel_rfl) (by kernel_rfl) (split_ok _ m w (by simp) (cellE hx hm)) ?_
    clear ha a; rintro _ w1 ⟨A, c, rfl, hrk, he, -⟩ a ha
    rw [hsp] at ha hrk
    replace hx := hx.tr he
    clear he
    refine segp (ρ' := [(4, .slice A (([[98, 97, 110, 100], [116, 104, 105, 110]] : List (List UInt8)).length) c)]) (C := []) ha 1 [] rfl (by kernel_rfl) .nil ?_
    clear ha a; intro a ha
    refine lnil ?_
    replace ha := ha.sub (ρ' := [(4, .slice A (([[98, 97, 110, 100], [116, 104, 105, 110]] : List (List UInt8)).length) c)]) (by kernel_rfl)
    refine tn ?_
    refine wseq ?_
    refine wseq ?_
    refine reg hmix (ρ' := [(4, .slice A (([[98, 97, 110, 100], [116, 104, 105, 110]] : List (List UInt8)).length) c), (11, .bool (!(cFine ([[98, 97, 110, 100], [116, 104, 105, 110]] : List (List UInt8)))))]) (C := [CallOk Tryd.prog w1 11 #[.slice A (([[98, 97, 110, 100], [116, 104, 105, 110]] : List (List UInt8)).length) c] (.bool (cFine ([[98, 97, 110, 100], [116, 104, 105, 110]] : List (List UInt8))))]) ha [(1, .val (.bool (cFine ([[98, 97, 110, 100], [116, 104, 105, 110]] : List (List UInt8)))))] (by kernel_rfl) (.cons (fun w2 h2 => fine_ok _ _ ([[98, 97, 110, 100], [116, 104, 105, 110]] : List (List UInt8)) w2 (rdE h2 hrk) (by decide) (by decide)) .nil) ?_
    clear ha a; intro a w2 ha he
    replace hx := hx.tr he
    replace hrk := rdE he hrk
    clear he
    refine tn ?_
    refine wif ha rfl (fun h11 => ?_) (fun h11 => ?_)
    · simp only [Bool.not_eq_true', Bool.not_eq_false', Bool.and_eq_true, Bool.or_eq_true, Bool.and_eq_false_iff, Bool.or_eq_false_iff, decide_eq_true_eq, decide_eq_false_iff_not, Bool.not_eq_true, Decidable.not_not] at h11
      refine wseq ?_
      refine regp (ρ' := [(2, .slice none 0 0), (3, .int .i64 2)]) (C := []) ha [] (by kernel_rfl) .nil ?_
      clear ha a; intro a ha
      refine tn ?_
      refine wret ?_
      refine (tr ?_)
      refine fin ha (.tmp rfl (.tmp rfl .nil)) ?_
      first | exact ⟨_, _, rfl, hx⟩ | (exfalso; rw [hfi] at *; simp at *)
    · simp only [Bool.not_eq_true', Bool.not_eq_false', Bool.and_eq_true, Bool.or_eq_true, Bool.and_eq_false_iff, Bool.or_eq_false_iff, decide_eq_true_eq, decide_eq_false_iff_not, Bool.not_eq_true, Decidable.not_not] at h11
      refine wskip ?_
      refine tn ?_
      refine wseq ?_
      refine regp (ρ' := [(2, .slice A (([[98, 97, 110, 100], [116, 104, 105, 110]] : List (List UInt8)).length) c), (3, .int .i64 0)]) (C := []) ha [] (by kernel_rfl) .nil ?_
      clear ha a; intro a ha
      refine tn ?_
      refine wret ?_
      refine fin ha (.tmp rfl (.tmp rfl .nil)) ?_
      first | exact ⟨_, _, rfl, hx⟩ | (exfalso; rw [hfi] at *; simp at *)
theorem knows10_ok (m : Int) (w : World) (hm : w.cell? ⟨1, 0, none⟩ = some (.int .i64 m)) :
    Fn Tryd.prog 8 #[] w (fun v w' => v = .bool true ∧ Ext w w') := by
  have hch : cChosen ([[98, 97, 110, 100], [110, 101, 119], [116, 104, 105, 110]] : List (List UInt8)) ([[110, 101, 119], [111, 102, 115], [116, 104, 105, 110]] : List (List UInt8)) = ([[116, 104, 105, 110]] : List (List UInt8)) := by decide +kernel
  have hx : Ext w w := Ext.rfl' w
  refine enter (N := 46) (args := []) Tryd.func8 rfl rfl rfl ?_
  intro a ha
  simp only [argEnv, Nat.zero_add, Nat.reduceAdd] at ha
  refine wseq ?_
  refine regp (ρ' := []) (C := []) ha [] (by kernel_rfl) .nil ?_
  clear ha a; intro a ha
  refine tn ?_
  refine wseq ?_
  refine reg_list ?_
  refine lcall (vs := #[.string (S [98, 97, 110, 100, 32, 116, 104, 105, 110])]) ha rfl (by kernel_rfl) rfl rfl (by kernel_rfl) (by kernel_rfl) (getbt_ok m w (cellE hx hm)) ?_
  clear ha a; rintro _ w1 ⟨Ag, cg, rfl, he⟩ a ha
  replace hx := hx.tr he
  clear he
  refine segp (ρ' := [(1, .slice Ag 2 cg), (2, .int .i64 0)]) (C := []) ha 5 [] rfl (by kernel_rfl) .nil ?_
  clear ha a; intro a ha
  refine lnil ?_
  replace ha := ha.sub (ρ' := [(1, .slice Ag 2 cg), (2, .int .i64 0)]) (by kernel_rfl)
  refine tn ?_
  refine wseq ?_
  refine reg_list ?_
  refine lnewS ha rfl (by kernel_rfl) #[.string (S [98, 97, 110, 100]), .string (S [110, 101, 119]), .string (S [116, 104, 105, 110])] 9 3 (by kernel_rfl) ?_
  clear ha a; intro b2 w3 he hb_b2 hB_b2 a ha
  replace hb_b2 := Nat.le_trans hx.size hb_b2
  replace hx := hx.tr he
  clear he
  refine lnewS ha rfl (by kernel_rfl) #[.string (S [110, 101, 119]), .string (S [111, 102, 115]), .string (S [116, 104, 105, 110])] 9 3 (by kernel_rfl) ?_
  clear ha a; intro b4 w5 he hb_b4 hB_b4 a ha
  have hne_b2_b4 : b2 ≠ b4 := ne_new hB_b2 hb_b4
  replace hB_b2 := keepB he hB_b2
  replace hb_b4 := Nat.le_trans hx.size hb_b4
  replace hx := hx.tr he
  clear he
  refine lcall (vs := #[.slice (some ⟨b2, 0, none⟩) 3 3, .slice (some ⟨b4, 0, none⟩) 3 3]) ha rfl (by kernel_rfl) rfl rfl (by kernel_rfl) (by kernel_rfl) (choose_ok _ _ _ _ ([[98, 97, 110, 100], [110, 101, 119], [116, 104, 105, 110]] : List (List UInt8)) ([[110, 101, 119], [111, 102, 115], [116, 104, 105, 110]] : List (List UInt8)) w5 (rd_blk hB_b2 rfl) (rd_blk hB_b4 rfl) (by decide) (by decide)) ?_
  clear ha a; rintro _ w6 ⟨Ac, cc, rfl, hrk, he⟩ a ha
  rw [hch] at ha hrk
  replace hB_b2 := keepB he hB_b2
  replace hB_b4 := keepB he hB_b4
  replace hx := hx.tr he
  clear he
  refine segp (ρ' := [(1, .slice Ag 2 cg), (2, .int .i64 0), (3, .slice Ac (([[116, 104, 105, 110]] : List (List UInt8)).length) cc)]) (C := []) ha 1 [] rfl (by kernel_rfl) .nil ?_
  clear ha a; intro a ha
  refine lnil ?_
  replace ha := ha.sub (ρ' := [(1, .slice Ag 2 cg), (2, .int .i64 0), (3, .slice Ac (([[116, 104, 105, 110]] : List (List UInt8)).length) cc)]) (by kernel_rfl)
  refine tn ?_
  refine wseq ?_
  refine reg_list ?_
  refine lcall (vs := #[]) ha rfl (by kernel_rfl) rfl rfl (by kernel_rfl) (by kernel_rfl) (known_ok _) ?_
  clear ha a; rintro _ w7 ⟨kb, rfl, hb_kb, hB_kb, he⟩ a ha
  replace hB_b2 := keepB he hB_b2
  replace hB_b4 := keepB he hB_b4
  replace hrk := rdE he hrk
  replace hx := hx.tr he
  clear he
  have hrK := rd_blk (sz := 1) (m := 5) hB_kb rfl
  refine segp (ρ' := [(1, .slice Ag 2 cg), (2, .int .i64 0), (3, .slice Ac (([[116, 104, 105, 110]] : List (List UInt8)).length) cc), (4, .slice (some ⟨kb, 0, none⟩) 5 5)]) (C := []) ha 1 [] rfl (by kernel_rfl) .nil ?_
  clear ha a; intro a ha
  refine lnil ?_
  replace ha := ha.sub (ρ' := [(1, .slice Ag 2 cg), (2, .int .i64 0), (3, .slice Ac (([[116, 104, 105, 110]] : List (List UInt8)).length) cc), (4, .slice (some ⟨kb, 0, none⟩) 5 5)]) (by kernel_rfl)
  refine tn ?_
  refine wseq ?_
  have hk5 : known5.length = 5 := rfl
  refine regp (ρ' := [(0, .bool ((((((decide (((2 : Nat) : Int) = 2)) && (decide ((0 : Int) = 0))) && (decide (((([[116, 104, 105, 110]] : List (List UInt8)).length : Nat) : Int) = 1))) && (decide (((([[116, 104, 105, 110]] : List (List UInt8)).getD 0 default) : List UInt8) = ([116, 104, 105, 110] : List UInt8)))) && (decide (((5 : Nat) : Int) = 5))) && (decide (((known5.getD 0 default) : List UInt8) = ([97, 116, 111, 109, 105, 99] : List UInt8)))))]) (C := [(((decide (((2 : Nat) : Int) = 2)) && (decide ((0 : Int) = 0))) && (decide (((([[116, 104, 105, 110]] : List (List UInt8)).length : Nat) : Int) = 1))) = true → All [RunOk Tryd.prog w7 (Instr.indexAt 22 (.slice Ac (([[116, 104, 105, 110]] : List (List UInt8)).length) cc) (.int .i64 0)) (.pointer (some ⟨ab Ac, ao Ac + 0 * 1, none⟩)), RunOk Tryd.prog w7 (Instr.loadAt 9 (.pointer (some ⟨ab Ac, ao Ac + 0 * 1, none⟩))) (.string (S (([[116, 104, 105, 110]] : List (List UInt8)).getD 0 default)))], (((((decide (((2 : Nat) : Int) = 2)) && (decide ((0 : Int) = 0))) && (decide (((([[116, 104, 105, 110]] : List (List UInt8)).length : Nat) : Int) = 1))) && (decide (((([[116, 104, 105, 110]] : List (List UInt8)).getD 0 default) : List UInt8) = ([116, 104, 105, 110] : List UInt8)))) && (decide (((5 : Nat) : Int) = 5))) = true → All [RunOk Tryd.prog w7 (Instr.indexAt 22 (.slice (some ⟨kb, 0, none⟩) 5 5) (.int .i64 0)) (.pointer (some ⟨ab (some ⟨kb, 0, none⟩), ao (some ⟨kb, 0, none⟩) + 0 * 1, none⟩)), RunOk Tryd.prog w7 (Instr.loadAt 9 (.pointer (some ⟨ab (some ⟨kb, 0, none⟩), ao (some ⟨kb, 0, none⟩) + 0 * 1, none⟩))) (.string (S (known5.getD 0 default)))]]) ha [(14, .val (.pointer (some ⟨ab Ac, ao Ac + 0 * 1, none⟩))), (15, .val (.string (S (([[116, 104, 105, 110]] : List (List UInt8)).getD 0 default)))), (25, .val (.pointer (some ⟨ab (some ⟨kb, 0, none⟩), ao (some ⟨kb, 0, none⟩) + 0 * 1, none⟩))), (26, .val (.string (S (known5.getD 0 default))))] (by kernel_rfl) (.cons (fun hg13 => by simp only [Bool.not_eq_true', Bool.not_eq_false', Bool.and_eq_true, Bool.or_eq_true, Bool.and_eq_false_iff, Bool.or_eq_false_iff, decide_eq_true_eq, decide_eq_false_iff_not, Bool.not_eq_true, Decidable.not_not] at hg13; exact (.cons (ixRd (e := 9) (i := 0) (by kernel_rfl) (by kernel_rfl) hrk (by omega)) (.cons (ldRd (j := 0 * 1) (by kernel_rfl) hrk (by omega) (flat_get0 encS_len ([[116, 104, 105, 110]] : List (List UInt8)) default 0 (by omega) rfl)) .nil))) (.cons (fun hg24 => by simp only [Bool.not_eq_true', Bool.not_eq_false', Bool.and_eq_true, Bool.or_eq_true, Bool.and_eq_false_iff, Bool.or_eq_false_iff, decide_eq_true_eq, decide_eq_false_iff_not, Bool.not_eq_true, Decidable.not_not] at hg24; exact (.cons (ixRd (e := 9) (i := 0) (by kernel_rfl) (by kernel_rfl) hrK (by omega)) (.cons (ldRd (j := 0 * 1) (by kernel_rfl) hrK (by omega) (flat_get0 encS_len known5 default 0 (by omega) rfl)) .nil))) .nil)) ?_
  clear ha a; intro a ha
  refine tn ?_
  refine wret ?_
  refine fin ha (.tmp rfl .nil) ?_
  exact ⟨rfl, hx⟩
end Go.Kn
end
section
/- The words' text: plain. -/
set_option linter.unusedSimpArgs false
set_option linter.unusedVariables false
namespace Go.Kn
/-- the text of the first i words -/
def jt (l : List (List UInt8)) : Nat → List UInt8
  | 0 => []
  | i + 1 => (if 0 < i then jt l i ++ [32] else jt l i) ++ l.getD i default
theorem jt_len {l : List (List UInt8)} (hs : ∀ i, i < l.length → (l.getD i default).length ≤ 1000) : ∀ i, i ≤ l.length → (jt l i).length ≤ i * 1001
  | 0, _ => by simp [jt]
  | i + 1, h => by
    have ih := jt_len hs i (by omega)
    have := hs i (by omega)
    rw [jt, List.length_append]
    split
    · rw [List.length_append]; simp only [List.length_cons, List.length_nil]; omega
    · omega
theorem jt_join (x : List UInt8) (r : List (List UInt8)) : ∀ i, i ≤ r.length → jt (x :: r) (i + 1) = x ++ Go.Lib.joinTail [32] (r.take i)
  | 0, _ => by simp [jt, Go.Lib.joinTail]
  | i + 1, h => by
    have ih := jt_join x r i (by omega)
    have hy : r[i]? = some (r.getD i default) := by rw [List.getD_eq_getElem?_getD, List.getElem?_eq_getElem (by omega)]; rfl
    rw [Go.Lib.joinTail_take_succ [32] r i _ hy, jt, if_pos (by omega), ih]
    simp [List.append_assoc]
theorem jt_all (l : List (List UInt8)) : jt l l.length = Go.Lib.join l [32] := by
  cases l with
  | nil => rfl
  | cons x r => rw [List.length_cons, jt_join x r r.length (Nat.le_refl _), List.take_length, Go.Lib.join_cons]
end Go.Kn
end
section
/- The words of a text: plain. -/
set_option linter.unusedSimpArgs false
set_option linter.unusedVariables false
namespace Go.Kn
/-- a text's words, cut at each blank -/
def wsp : List UInt8 → List (List UInt8)
  | [] => [[]]
  | c :: r => if c = 32 then [] :: wsp r else (c :: (wsp r).headD []) :: (wsp r).tail
theorem wsp_ne (s : List UInt8) : wsp s ≠ [] := by cases s with
  | nil => simp [wsp]
  | cons c r => rw [wsp]; split <;> simp
theorem wsp_cons (s : List UInt8) : ∃ x t, wsp s = x :: t := List.exists_cons_of_ne_nil (wsp_ne s)
theorem wsp_no {s : List UInt8} (h : (32 : UInt8) ∉ s) : wsp s = [s] := by
  induction s with
  | nil => rfl
  | cons c r ih =>
    simp only [List.mem_cons, not_or] at h
    rw [wsp, if_neg (fun e => h.1 e.symm), ih h.2]; rfl
theorem wsp_hit {p : List UInt8} (r : List UInt8) (h : (32 : UInt8) ∉ p) : wsp (p ++ 32 :: r) = p :: wsp r := by
  induction p with
  | nil => rw [List.nil_append, wsp, if_pos rfl]
  | cons c p ih =>
    simp only [List.mem_cons, not_or] at h
    rw [List.cons_append, wsp, if_neg (fun e => h.1 e.symm), ih h.2]; rfl
theorem wsp_blank (p : List UInt8) : wsp (p ++ [32]) = wsp p ++ [[]] := by
  induction p with
  | nil => rfl
  | cons c p ih =>
    rw [List.cons_append, wsp, wsp, ih]
    obtain ⟨x, t, e⟩ := wsp_cons p
    rw [e]
    split <;> rfl
theorem wsp_sign (p : List UInt8) (b : UInt8) (hb : b ≠ 32) : wsp (p ++ [b]) = (wsp p).set ((wsp p).length - 1) ((wsp p).getD ((wsp p).length - 1) default ++ [b]) := by
  induction p with
  | nil => simp [wsp, hb]
  | cons c p ih =>
    rw [List.cons_append, wsp, wsp, ih]
    obtain ⟨x, t, e⟩ := wsp_cons p
    rw [e]
    split
    · cases t <;> simp
    · cases t with
      | nil => simp
      | cons y t => simp
theorem wsp_len (s : List UInt8) : (wsp s).length ≤ s.length + 1 := by
  induction s with
  | nil => simp [wsp]
  | cons c r ih =>
    rw [wsp]
    split
    · simp only [List.length_cons]; omega
    · simp only [List.length_cons, List.length_tail]; omega
theorem wsp_mem {s x : List UInt8} (h : x ∈ wsp s) : x.length ≤ s.length := by
  induction s generalizing x with
  | nil => simp [wsp] at h; simp [h]
  | cons c r ih =>
    rw [wsp] at h
    obtain ⟨y, t, e⟩ := wsp_cons r
    rw [e] at h ih
    split at h
    · rcases List.mem_cons.1 h with rfl | h
      · simp
      · have := ih h; simp only [List.length_cons]; omega
    · rcases List.mem_cons.1 h with rfl | h
      · have := ih (x := y) (by simp); simp only [List.headD_cons, List.length_cons]; omega
      · have := ih (List.mem_cons_of_mem _ h); simp only [List.length_cons]; omega
theorem wsp_small (s : List UInt8) (i : Nat) : ((wsp s).getD i default).length ≤ s.length := by
  rcases Nat.lt_or_ge i (wsp s).length with h | h
  · rw [List.getD_eq_getElem?_getD, List.getElem?_eq_getElem h]; exact wsp_mem (List.getElem_mem h)
  · rw [List.getD_eq_getElem?_getD, List.getElem?_eq_none h]; exact Nat.zero_le _
theorem join_blank (x : List UInt8) (l : List (List UInt8)) (h : l ≠ []) : Go.Lib.join (x :: l) [32] = x ++ 32 :: Go.Lib.join l [32] := by
  cases l with
  | nil => exact absurd rfl h
  | cons y t => rw [Go.Lib.join_cons, Go.Lib.join_cons]; rfl
theorem join_head (c : UInt8) (x : List UInt8) (l : List (List UInt8)) : Go.Lib.join ((c :: x) :: l) [32] = c :: Go.Lib.join (x :: l) [32] := by
  rw [Go.Lib.join_cons, Go.Lib.join_cons]; rfl
theorem wsp_join (s : List UInt8) : Go.Lib.join (wsp s) [32] = s := by
  induction s with
  | nil => rfl
  | cons c r ih =>
    rw [wsp]
    split
    · rename_i h; subst h
      rw [join_blank _ _ (wsp_ne r), ih]; rfl
    · obtain ⟨x, t, e⟩ := wsp_cons r
      rw [e] at ih ⊢
      show Go.Lib.join ((c :: x) :: t) [32] = _
      rw [join_head, ih]
theorem idx_miss : ∀ {s : List UInt8}, Go.Lib.index s [32] = -1 → (32 : UInt8) ∉ s
  | [], _ => by simp
  | b :: l, h => by
    unfold Go.Lib.index at h
    split at h
    · cases h
    · rename_i hp
      have hb : ¬ 32 = b := fun e => hp (by subst e; simp [List.isPrefixOf])
      split at h
      · rename_i h1
        have := idx_miss (beq_iff_eq.1 h1)
        simp [hb, this]
      · have := Go.Lib.index_ge l [32]; rename_i h2; have h3 : Go.Lib.index l [32] ≠ -1 := fun e => h2 (beq_iff_eq.2 e)
        omega
theorem idx_hit : ∀ {s : List UInt8} {i : Nat}, Go.Lib.index s [32] = i → (32 : UInt8) ∉ s.take i ∧ s = s.take i ++ 32 :: s.drop (i + 1)
  | [], i, h => by simp [Go.Lib.index] at h
  | b :: l, i, h => by
    unfold Go.Lib.index at h
    split at h
    · rename_i hp
      have hb : b = 32 := by
        simp only [List.isPrefixOf, Bool.and_true, beq_iff_eq] at hp
        exact hp.symm
      obtain rfl : i = 0 := by omega
      subst hb; simp
    · rename_i hp
      have hb : ¬ 32 = b := fun e => hp (by subst e; simp [List.isPrefixOf])
      split at h
      · omega
      · rename_i h2
        have h3 : Go.Lib.index l [32] ≠ -1 := fun e => h2 (beq_iff_eq.2 e)
        have := Go.Lib.index_ge l [32]
        obtain ⟨j, rfl⟩ : ∃ j, i = j + 1 := ⟨i - 1, by omega⟩
        obtain ⟨k1, k2⟩ := idx_hit (s := l) (i := j) (by omega)
        refine ⟨by simp [hb, k1], ?_⟩
        rw [List.take_succ_cons, List.drop_succ_cons, List.cons_append, ← k2]
theorem split_wsp : ∀ (k : Nat) (s : List UInt8), Go.Lib.countB (S s) (S [32]) = k → (Go.Lib.splitB (S [32]) 0 k (S s)).map (·.data.toList) = wsp s
  | 0, s, hk => by
    have hm : Go.Lib.indexB (S s) (S [32]) = -1 := by
      rcases Go.Lib.indexB_cases (S s) (S [32]) with h | ⟨i, h, _⟩
      · exact h
      · have := Go.Lib.countB_hit (S s) (S [32]) i (by decide) h; omega
    rw [wsp_no (idx_miss hm)]; rfl
  | k + 1, s, hk => by
    rcases Go.Lib.indexB_cases (S s) (S [32]) with h | ⟨i, h, hr⟩
    · have := Go.Lib.countB_miss (S s) (S [32]) h; omega
    · have hc := Go.Lib.countB_hit (S s) (S [32]) i (by decide) h
      obtain ⟨k1, k2⟩ := idx_hit (s := s) (i := i) h
      rw [Go.Lib.splitB_hit _ _ _ _ i h, List.map_cons]
      have e2 : (S s).extract (i + (S [32]).size) (S s).size = S (s.drop (i + 1)) := by
        rw [S_extract, S_size, S_size]
        congr 2
        rw [List.take_of_length_le (by simp)]; rfl
      have e1 : (S s).extract 0 (i + 0) = S (s.take i) := by rw [S_extract]; simp
      rw [e2] at hc ⊢
      rw [e1, split_wsp k (s.drop (i + 1)) (by omega)]
      conv => rhs; rw [k2]
      rw [wsp_hit _ k1]
theorem cSplit_eq (s : List UInt8) : cSplit s = wsp s := split_wsp _ s rfl
theorem take_snocU (l : List UInt8) (i : Nat) (h : i < l.length) : l.take (i + 1) = l.take i ++ [l.getD i 0] := by
  rw [List.take_add_one, List.getD_eq_getElem?_getD, List.getElem?_eq_getElem h]; rfl
/-- what caps.Get tells -/
def cGet (s : List UInt8) : List (List UInt8) × Int := if s = [] then ([], 0) else if cFine (wsp s) = true then (wsp s, 0) else ([], 2)
theorem cGet_len (s : List UInt8) : (cGet s).1.length ≤ s.length + 1 := by
  have := wsp_len s
  unfold cGet
  split
  · simp
  · split
    · exact this
    · simp
theorem cGet_small (s : List UInt8) (i : Nat) : ((cGet s).1.getD i default).length ≤ s.length := by
  have := wsp_small s i
  unfold cGet
  split
  · exact Nat.zero_le _
  · split
    · exact this
    · exact Nat.zero_le _
theorem cFine_nil : cFine [] = true := rfl
end Go.Kn
end
