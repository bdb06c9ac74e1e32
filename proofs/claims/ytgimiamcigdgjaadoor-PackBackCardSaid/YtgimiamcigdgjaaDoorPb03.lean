import Derived.Test.YtgimiamcigdgjaaDoorPb01
import Derived.Test.YtgimiamcigdgjaaDoorProg
section
set_option linter.unusedSimpArgs false
set_option linter.unusedVariables false
set_option maxRecDepth 100000
namespace Go.Kn
open Go.Proofs
theorem hmix : Tryd.prog.follows .mixedOrders = true := by kernel_rfl
theorem get_ok (l : List UInt8) (w : World) (hl : l.length ≤ 9223372036854775807) :
    Fn Tryd.prog 77 #[.string (S l)] w (fun x w' => x = .tuple #[.int .u64 (((vget l).1 : Nat) : Int), .string (S ((vget l).2.1)), .int .i64 (((vget l).2.2 : Nat) : Int)] ∧ Ext w w') := by
  have hx : Ext w w := Ext.rfl' w
  refine enter (N := 45) (args := [.string (S l)]) Tryd.func77 rfl rfl rfl ?_
  intro a ha
  simp only [argEnv, Nat.zero_add, Nat.reduceAdd] at ha
  refine wseq ?_
  refine regp (ρ' := [(0, .string (S l))]) (C := []) ha [] (by kernel_rfl) .nil ?_
  clear ha a; intro a ha
  refine tn ?_
  refine wseq ?_
  refine regp (ρ' := [(0, .string (S l)), (5, .int .u64 0)]) (C := []) ha [] (by kernel_rfl) .nil ?_
  clear ha a; intro a ha
  refine tn ?_
  refine wcut (fun a w1 => On 45 [] a ∧ Ext w w1 ∧ (vget l = (0, [], 2))) ?_ ?_
  ·
    refine wseq ?_
    refine regp (ρ' := [(0, .string (S l)), (5, .int .u64 0), (10, .int .i64 (if (10 : Int) < ((l.length : Nat) : Int) then 10 else ((l.length : Nat) : Int))), (11, .int .i64 0)]) (C := []) ha [] (by kernel_rfl) .nil ?_
    clear ha a; intro a ha
    rw [show ((if (10 : Int) < ((l.length : Nat) : Int) then 10 else ((l.length : Nat) : Int)) : Int) = ((min l.length 10 : Nat) : Int) from by split <;> omega] at ha
    refine tn ?_
    refine wblk ?_
    refine wloop (fun zz a w2 => ∃ (k n : Nat), zz = 10 - k ∧ On 45 [(0, .string (S l)), (5, .int .u64 ((n : Nat) : Int)), (10, .int .i64 ((min l.length 10 : Nat) : Int)), (11, .int .i64 ((k : Nat) : Int))] a ∧ Ext w w2 ∧ (k ≤ l.length) ∧ (k ≤ 10) ∧ (n < 2 ^ (7 * k)) ∧ (vget l = vgo (l.drop k) k n)) _ ⟨0, 0, rfl, ha.sub (ρ' := [(0, .string (S l)), (5, .int .u64 ((0 : Nat) : Int)), (10, .int .i64 ((min l.length 10 : Nat) : Int)), (11, .int .i64 ((0 : Nat) : Int))]) (by kernel_rfl), hx, by omega, by omega, by decide, rfl⟩ ?_
    clear ha hx
    rintro zz a w3 ⟨k, n, hzz, ha, hx, hk, hk10, hn, hv⟩
    refine wseq ?_
    refine regp (ρ' := [(0, .string (S l)), (5, .int .u64 ((n : Nat) : Int)), (10, .int .i64 ((min l.length 10 : Nat) : Int)), (11, .int .i64 ((k : Nat) : Int)), (12, .bool (decide (((k : Nat) : Int) < ((min l.length 10 : Nat) : Int))))]) (C := []) ha [] (by kernel_rfl) .nil ?_
    clear ha a; intro a ha
    refine tn ?_
    refine wseq ?_
    refine wif ha rfl (fun h12 => ?_) (fun h12 => ?_)
    · replace h12 := of_decide_eq_true h12
      have hk1 : k < l.length := by omega
      have hk2 : k < 10 := by omega
      rw [drop_cons l k hk1] at hv
      have hcb : (l.getD k 0).toNat < 256 := UInt8.toNat_lt _
      refine wskip ?_
      refine tn ?_
      refine wseq ?_
      refine wblk ?_
      refine wseq ?_
      refine regp (ρ' := [(0, .string (S l)), (5, .int .u64 ((n : Nat) : Int)), (6, .int .i64 ((k : Nat) : Int)), (10, .int .i64 ((min l.length 10 : Nat) : Int)), (11, .int .i64 ((k : Nat) : Int))]) (C := []) ha [] (by kernel_rfl) .nil ?_
      clear ha a; intro a ha
      refine tn ?_
      refine wseq ?_
      refine regp (ρ' := [(0, .string (S l)), (5, .int .u64 ((n : Nat) : Int)), (6, .int .i64 ((k : Nat) : Int)), (7, .int .u8 (((l.getD k 0).toNat : Nat) : Int)), (10, .int .i64 ((min l.length 10 : Nat) : Int)), (11, .int .i64 ((k : Nat) : Int))]) (C := [0 ≤ ((k : Nat) : Int) ∧ ((k : Nat) : Int) < (l.length : Int)]) ha [] (by kernel_rfl) (.cons ⟨by omega, by omega⟩ .nil) ?_
      clear ha a; intro a ha
      refine tn ?_
      refine wseq ?_
      refine wseq ?_
      refine regp (ρ' := [(0, .string (S l)), (5, .int .u64 ((n : Nat) : Int)), (6, .int .i64 ((k : Nat) : Int)), (7, .int .u8 (((l.getD k 0).toNat : Nat) : Int)), (10, .int .i64 ((min l.length 10 : Nat) : Int)), (11, .int .i64 ((k : Nat) : Int)), (22, .bool ((decide (((k : Nat) : Int) = 9)) && (decide ((1 : Int) < (((l.getD k 0).toNat : Nat) : Int)))))]) (C := []) ha [] (by kernel_rfl) .nil ?_
      clear ha a; intro a ha
      refine tn ?_
      refine wif ha rfl (fun h22 => ?_) (fun h22 => ?_)
      · simp only [Bool.not_eq_true', Bool.not_eq_false', Bool.and_eq_true, Bool.or_eq_true, Bool.and_eq_false_iff, Bool.or_eq_false_iff, decide_eq_true_eq, decide_eq_false_iff_not, Bool.not_eq_true, Decidable.not_not] at h22
        have hz : vget l = (0, [], 2) := by rw [hv, vgo, if_neg (by omega), if_pos (by omega)]
        refine wexit ?_
        refine (te (bx rfl (te (te (be ?_)))))
        exact tn ⟨ha.sub (ρ' := []) (by kernel_rfl), hx, hz⟩
      · simp only [Bool.not_eq_true', Bool.not_eq_false', Bool.and_eq_true, Bool.or_eq_true, Bool.and_eq_false_iff, Bool.or_eq_false_iff, decide_eq_true_eq, decide_eq_false_iff_not, Bool.not_eq_true, Decidable.not_not] at h22
        replace h22 : ¬ (k = 9 ∧ 1 < (l.getD k 0).toNat) := by omega
        refine wskip ?_
        refine tn ?_
        refine wseq ?_
        refine regp (ρ' := [(0, .string (S l)), (5, .int .u64 ((n ||| ((((((l.getD k 0).toNat) &&& 127 : Nat) : Int) * 2 ^ (min (7 * k) 64)) : Int).toNat : Nat) : Int)), (6, .int .i64 ((k : Nat) : Int)), (7, .int .u8 (((l.getD k 0).toNat : Nat) : Int)), (10, .int .i64 ((min l.length 10 : Nat) : Int)), (11, .int .i64 ((k : Nat) : Int))]) (C := [NN .u8 (((l.getD k 0).toNat : Nat) : Int), NN .u8 127, InR .u64 ((((l.getD k 0).toNat) &&& 127 : Nat) : Int), InR .i64 ((7 * k : Nat) : Int), 0 ≤ ((7 * k : Nat) : Int), InR .u64 (((((l.getD k 0).toNat) &&& 127 : Nat) : Int) * 2 ^ (min (7 * k) 64)), NN .u64 ((n : Nat) : Int), NN .u64 (((((l.getD k 0).toNat) &&& 127 : Nat) : Int) * 2 ^ (min (7 * k) 64))]) ha [] (by kernel_rfl) (.cons (by unfold NN InR; omega) (.cons (by unfold NN InR; omega) (.cons (by rw [and127]; unfold InR; omega) (.cons (by unfold InR; omega) (.cons (by omega) (.cons (vshl hk2 h22) (.cons (by have := vgo_63 hk2 hn; unfold NN InR; omega) (.cons (vshl' hk2 h22) .nil)))))))) ?_
        clear ha a; intro a ha
        rw [show (((n ||| ((((((l.getD k 0).toNat) &&& 127 : Nat) : Int) * 2 ^ (min (7 * k) 64)) : Int).toNat : Nat) : Int) : Int) = ((n + (l.getD k 0).toNat % 128 * 2 ^ (7 * k) : Nat) : Int) from vor hk2 hn] at ha
        refine tn ?_
        refine wseq ?_
        refine wseq ?_
        refine regp (ρ' := [(0, .string (S l)), (5, .int .u64 ((n + (l.getD k 0).toNat % 128 * 2 ^ (7 * k) : Nat) : Int)), (6, .int .i64 ((k : Nat) : Int)), (7, .int .u8 (((l.getD k 0).toNat : Nat) : Int)), (10, .int .i64 ((min l.length 10 : Nat) : Int)), (11, .int .i64 ((k : Nat) : Int)), (32, .bool (decide ((128 : Int) ≤ (((l.getD k 0).toNat : Nat) : Int))))]) (C := []) ha [] (by kernel_rfl) .nil ?_
        clear ha a; intro a ha
        refine tn ?_
        refine wif ha rfl (fun h32 => ?_) (fun h32 => ?_)
        · replace h32 := of_decide_eq_true h32
          refine wexit ?_
          refine (te (be ?_))
          refine tn ?_
          refine regp (ρ' := [(0, .string (S l)), (5, .int .u64 ((n + (l.getD k 0).toNat % 128 * 2 ^ (7 * k) : Nat) : Int)), (10, .int .i64 ((min l.length 10 : Nat) : Int)), (11, .int .i64 ((k + 1 : Nat) : Int))]) (C := [InR .i64 ((k + 1 : Nat) : Int)]) ha [] (by kernel_rfl) (.cons (by unfold InR; omega) .nil) ?_
          clear ha a; intro a ha
          exact tn ⟨10 - ((k + 1)), by omega, (k + 1), (n + (l.getD k 0).toNat % 128 * 2 ^ (7 * k)), rfl, ha.sub (ρ' := [(0, .string (S l)), (5, .int .u64 (((n + (l.getD k 0).toNat % 128 * 2 ^ (7 * k)) : Nat) : Int)), (10, .int .i64 ((min l.length 10 : Nat) : Int)), (11, .int .i64 (((k + 1) : Nat) : Int))]) (by kernel_rfl), hx, by omega, by omega, vgo_lt hn, by rw [hv, vgo, if_neg (by omega), if_neg h22, if_pos (by omega)]⟩
        · replace h32 := of_decide_eq_false h32
          refine wskip ?_
          refine tn ?_
          refine wseq ?_
          refine wseq ?_
          refine regp (ρ' := [(0, .string (S l)), (5, .int .u64 ((n + (l.getD k 0).toNat % 128 * 2 ^ (7 * k) : Nat) : Int)), (6, .int .i64 ((k : Nat) : Int)), (38, .bool ((decide ((((l.getD k 0).toNat : Nat) : Int) = 0)) && (decide ((0 : Int) < ((k : Nat) : Int)))))]) (C := []) ha [] (by kernel_rfl) .nil ?_
          clear ha a; intro a ha
          refine tn ?_
          refine wif ha rfl (fun h38 => ?_) (fun h38 => ?_)
          · simp only [Bool.not_eq_true', Bool.not_eq_false', Bool.and_eq_true, Bool.or_eq_true, Bool.and_eq_false_iff, Bool.or_eq_false_iff, decide_eq_true_eq, decide_eq_false_iff_not, Bool.not_eq_true, Decidable.not_not] at h38
            have hz : vget l = (0, [], 2) := by rw [hv, vgo, if_neg (by omega), if_neg h22, if_neg (by omega), if_pos (by omega)]
            refine wexit ?_
            refine (te (bx rfl (te (te (be ?_)))))
            exact tn ⟨ha.sub (ρ' := []) (by kernel_rfl), hx, hz⟩
          · simp only [Bool.not_eq_true', Bool.not_eq_false', Bool.and_eq_true, Bool.or_eq_true, Bool.and_eq_false_iff, Bool.or_eq_false_iff, decide_eq_true_eq, decide_eq_false_iff_not, Bool.not_eq_true, Decidable.not_not] at h38
            refine wskip ?_
            refine tn ?_
            refine wseq ?_
            refine reg hmix (ρ' := [(2, .int .u64 ((n + (l.getD k 0).toNat % 128 * 2 ^ (7 * k) : Nat) : Int)), (3, .string (S (l.drop (k + 1)))), (4, .int .i64 0)]) (C := [InR .i64 ((k + 1 : Nat) : Int), 0 ≤ ((k + 1 : Nat) : Int) ∧ ((k + 1 : Nat) : Int) ≤ (l.length : Int)]) ha [] (by kernel_rfl) (.cons (by unfold InR; omega) (.cons ⟨by omega, by omega⟩ .nil)) ?_
            clear ha a; intro a w4 ha he
            replace hx := hx.tr he
            clear he
            refine tn ?_
            refine wret ?_
            refine (br (tr (tr (br (tr ?_)))))
            refine fin ha (.tmp rfl (.tmp rfl (.tmp rfl .nil))) ?_
            refine ⟨?_, hx⟩
            rw [hv, vgo, if_neg (by omega), if_neg h22, if_neg (by omega), if_neg (by omega)]; rfl
    · replace h12 := of_decide_eq_false h12
      have hz : vget l = (0, [], 2) := by
        rcases Nat.lt_or_ge k l.length with h | h
        · rw [hv, drop_cons l k h, vgo, if_pos (by omega)]
        · rw [hv, List.drop_of_length_le h]; rfl
      refine wexit ?_
      refine (te (te (be ?_)))
      exact tn ⟨ha.sub (ρ' := []) (by kernel_rfl), hx, hz⟩
  clear ha hx
  rintro a w5 ⟨ha, hx, hz⟩
  refine wseq ?_
  refine regp (ρ' := [(2, .int .u64 0), (3, .string (S [])), (4, .int .i64 2)]) (C := []) ha [] (by kernel_rfl) .nil ?_
  clear ha a; intro a ha
  refine tn ?_
  refine wret ?_
  refine fin ha (.tmp rfl (.tmp rfl (.tmp rfl .nil))) ?_
  refine ⟨?_, hx⟩
  rw [hz]; rfl
end Go.Kn
end
