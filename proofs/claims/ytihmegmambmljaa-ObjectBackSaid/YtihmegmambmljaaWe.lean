import Derived.Test.YtihmegmambmljaaWd
set_option linter.unusedSimpArgs false
set_option linter.unusedVariables false
set_option maxRecDepth 100000
namespace Go.Kn
open Go.Proofs
theorem lzSteps_walk (A : Option Addr) (c : Nat) (l : List StepR) (m : Int) (w : World) (hr : Rd w 3 A l.length (l.flatMap encStep)) (hm : InR .i64 m) :
    Fn Try.prog 4 #[.slice A l.length c, .int .i64 m] w (fun x w' => x = .bool true ∧ Ext w w') := by
  have hx : Ext w w := Ext.rfl' w
  refine enter (N := 74) (args := [.slice A l.length c, .int .i64 m]) Try.func4 rfl rfl rfl ?_
  intro a ha
  simp only [argEnv, Nat.zero_add, Nat.reduceAdd] at ha
  refine wseq ?_
  refine regp (ρ' := [(0, .slice A l.length c), (1, .int .i64 m)]) (C := []) ha [] (by kernel_rfl) .nil ?_
  clear ha a; intro a ha
  refine tn ?_
  refine wseq ?_
  refine wseq ?_
  refine regp (ρ' := [(0, .slice A l.length c), (1, .int .i64 m), (17, .bool ((decide ((30 : Int) < ((l.length : Nat) : Int))) || (decide ((20000 : Int) < m))))]) (C := []) ha [] (by kernel_rfl) .nil ?_
  clear ha a; intro a ha
  refine tn ?_
  refine wif ha rfl (fun h17 => ?_) (fun h17 => ?_)
  · simp only [Bool.not_eq_true', Bool.not_eq_false', Bool.and_eq_true, Bool.or_eq_true, Bool.and_eq_false_iff, Bool.or_eq_false_iff, decide_eq_true_eq, decide_eq_false_iff_not, Bool.not_eq_true, Decidable.not_not] at h17
    refine wseq ?_
    refine reg hmix (ρ' := [(4, .bool true)]) (C := [CallOk Try.prog w 8 #[] (.bool true)]) ha [(0, .val (.bool true))] (by kernel_rfl) (.cons (fun w _ => knows5_ok w) .nil) ?_
    clear ha a; intro a w1 ha he
    replace hx := hx.tr he
    clear he
    refine tn ?_
    refine wret ?_
    refine (tr ?_)
    refine fin ha (.tmp rfl .nil) ?_
    exact ⟨congrArg Value.bool (by simp), hx⟩
  · simp only [Bool.not_eq_true', Bool.not_eq_false', Bool.and_eq_true, Bool.or_eq_true, Bool.and_eq_false_iff, Bool.or_eq_false_iff, decide_eq_true_eq, decide_eq_false_iff_not, Bool.not_eq_true, Decidable.not_not] at h17
    refine wskip ?_
    refine tn ?_
    refine wseq ?_
    refine wseq ?_
    refine regp (ρ' := [(0, .slice A l.length c), (1, .int .i64 m), (5, .int .i64 0)]) (C := []) ha [] (by kernel_rfl) .nil ?_
    clear ha a; intro a ha
    refine tn ?_
    refine wblk ?_
    refine wloop (fun zz a w2 => ∃ (k : Nat), zz = l.length - k ∧ On 74 [(0, .slice A l.length c), (1, .int .i64 m), (5, .int .i64 ((k : Nat) : Int))] a ∧ Ext w w2 ∧ (k ≤ l.length) ∧ (∀ i < k, (l.getD i default).Text.length ≤ 1000000 ∧ 0 ≤ (l.getD i default).N ∧ 0 ≤ (l.getD i default).Far)) _ ⟨0, rfl, ha.sub (ρ' := [(0, .slice A l.length c), (1, .int .i64 m), (5, .int .i64 ((0 : Nat) : Int))]) (by kernel_rfl), hx, by omega, fun i hi => absurd hi (by omega)⟩ ?_
    clear ha hx
    rintro zz a w3 ⟨k, hzz, ha, hx, hk, hs⟩
    refine wseq ?_
    refine wseq ?_
    refine regp (ρ' := [(0, .slice A l.length c), (1, .int .i64 m), (5, .int .i64 ((k : Nat) : Int)), (22, .bool (decide (((k : Nat) : Int) < ((l.length : Nat) : Int))))]) (C := []) ha [] (by kernel_rfl) .nil ?_
    clear ha a; intro a ha
    refine tn ?_
    refine wif ha rfl (fun h22 => ?_) (fun h22 => ?_)
    · replace h22 := of_decide_eq_true h22
      have hkl : k < l.length := by omega
      refine wskip ?_
      refine tn ?_
      refine wseq ?_
      refine wblk ?_
      refine wseq ?_
      refine regp (ρ' := [(0, .slice A l.length c), (1, .int .i64 m), (5, .int .i64 ((k : Nat) : Int)), (47, .bool (((decide ((100 : Int) < ((((l.getD k default).Text).length : Nat) : Int))) || (decide (((l.getD k default).N : Int) < 0))) || (decide (((l.getD k default).Far : Int) < 0))))]) (C := [RunOk Try.prog w3 (Instr.indexAt 29 (.slice A l.length c) (.int .i64 ((k : Nat) : Int))) (.pointer (some ⟨ab A, ao A + k * 3, none⟩)), RunOk Try.prog w3 (Instr.loadAt 9 (.pointer (some ⟨ab A, ao A + k * 3 + 2, none⟩))) (.string (S ((l.getD k default).Text))), (decide ((100 : Int) < ((((l.getD k default).Text).length : Nat) : Int))) = false → All [RunOk Try.prog w3 (Instr.indexAt 29 (.slice A l.length c) (.int .i64 ((k : Nat) : Int))) (.pointer (some ⟨ab A, ao A + k * 3, none⟩)), RunOk Try.prog w3 (Instr.loadAt 3 (.pointer (some ⟨ab A, ao A + k * 3, none⟩))) (.int .i64 ((l.getD k default).N))], ((decide ((100 : Int) < ((((l.getD k default).Text).length : Nat) : Int))) || (decide (((l.getD k default).N : Int) < 0))) = false → All [RunOk Try.prog w3 (Instr.indexAt 29 (.slice A l.length c) (.int .i64 ((k : Nat) : Int))) (.pointer (some ⟨ab A, ao A + k * 3, none⟩)), RunOk Try.prog w3 (Instr.loadAt 3 (.pointer (some ⟨ab A, ao A + k * 3 + 1, none⟩))) (.int .i64 ((l.getD k default).Far))]]) ha [(2, .val (.pointer (some ⟨ab A, ao A + k * 3, none⟩))), (4, .val (.string (S ((l.getD k default).Text)))), (10, .val (.pointer (some ⟨ab A, ao A + k * 3, none⟩))), (12, .val (.int .i64 ((l.getD k default).N))), (18, .val (.pointer (some ⟨ab A, ao A + k * 3, none⟩))), (20, .val (.int .i64 ((l.getD k default).Far)))] (by kernel_rfl) (.cons (ixRd (e := 31) (by kernel_rfl) (by kernel_rfl) (rdE hx hr) (by omega)) (.cons (ldRd (j := k * 3 + 2) (by kernel_rfl) (rdE hx hr) (by omega) (flat_get encStep_len l default k 2 (by omega) rfl)) (.cons (fun hg8 => by replace hg8 := of_decide_eq_false hg8; exact (.cons (ixRd (e := 31) (by kernel_rfl) (by kernel_rfl) (rdE hx hr) (by omega)) (.cons (ldRd (j := k * 3) (by kernel_rfl) (rdE hx hr) (by omega) (flat_get0 encStep_len l default k (by omega) rfl)) .nil))) (.cons (fun hg16 => by simp only [Bool.not_eq_true', Bool.not_eq_false', Bool.and_eq_true, Bool.or_eq_true, Bool.and_eq_false_iff, Bool.or_eq_false_iff, decide_eq_true_eq, decide_eq_false_iff_not, Bool.not_eq_true, Decidable.not_not] at hg16; exact (.cons (ixRd (e := 31) (by kernel_rfl) (by kernel_rfl) (rdE hx hr) (by omega)) (.cons (ldRd (j := k * 3 + 1) (by kernel_rfl) (rdE hx hr) (by omega) (flat_get encStep_len l default k 1 (by omega) rfl)) .nil))) .nil)))) ?_
      clear ha a; intro a ha
      refine tn ?_
      refine wif ha rfl (fun h47 => ?_) (fun h47 => ?_)
      · simp only [Bool.not_eq_true', Bool.not_eq_false', Bool.and_eq_true, Bool.or_eq_true, Bool.and_eq_false_iff, Bool.or_eq_false_iff, decide_eq_true_eq, decide_eq_false_iff_not, Bool.not_eq_true, Decidable.not_not] at h47
        refine wseq ?_
        refine reg hmix (ρ' := [(4, .bool true)]) (C := [CallOk Try.prog w3 8 #[] (.bool true)]) ha [(0, .val (.bool true))] (by kernel_rfl) (.cons (fun w _ => knows5_ok w) .nil) ?_
        clear ha a; intro a w4 ha he
        replace hx := hx.tr he
        clear he
        refine tn ?_
        refine wret ?_
        refine (br (tr (tr (br (tr ?_)))))
        refine fin ha (.tmp rfl .nil) ?_
        exact ⟨congrArg Value.bool (by simp), hx⟩
      · simp only [Bool.not_eq_true', Bool.not_eq_false', Bool.and_eq_true, Bool.or_eq_true, Bool.and_eq_false_iff, Bool.or_eq_false_iff, decide_eq_true_eq, decide_eq_false_iff_not, Bool.not_eq_true, Decidable.not_not] at h47
        refine wskip ?_
        refine bn ?_
        refine tn ?_
        refine regp (ρ' := [(0, .slice A l.length c), (1, .int .i64 m), (5, .int .i64 ((k + 1 : Nat) : Int))]) (C := [InR .i64 ((k + 1 : Nat) : Int)]) ha [] (by kernel_rfl) (.cons (by unfold InR; omega) .nil) ?_
        clear ha a; intro a ha
        exact tn ⟨l.length - ((k + 1)), by omega, (k + 1), rfl, ha.sub (ρ' := [(0, .slice A l.length c), (1, .int .i64 m), (5, .int .i64 (((k + 1) : Nat) : Int))]) (by kernel_rfl), hx, by omega, fun i hi => (Nat.lt_or_ge i k).elim (hs i) (fun h => (show i = k by omega) ▸ ⟨by omega, by omega, by omega⟩)⟩
    · replace h22 := of_decide_eq_false h22
      obtain rfl : k = l.length := by omega
      have hsm := hs
      have hlen : (stepsOf l).length ≤ 1 + l.length * 1000020 := by have := stepsTo_len l l.length (Nat.le_refl _) fun i hi => (hsm i hi).1; rw [stepsTo, List.take_length] at this; exact this
      refine wexit ?_
      refine (te (te (be ?_)))
      refine tn ?_
      refine wseq ?_
      refine reg hmix (ρ' := [(1, .int .i64 m), (6, .string (S (stepsOf l)))]) (C := [CallOk Try.prog w3 11 #[.slice A l.length c] (.string (S (stepsOf l)))]) ha [(1, .val (.string (S (stepsOf l))))] (by kernel_rfl) (.cons (fun w2 he => steps_ok _ _ _ w2 (rdE he (rdE hx hr)) (by omega) hsm) .nil) ?_
      clear ha a; intro a w5 ha he
      replace hx := hx.tr he
      clear he
      refine tn ?_
      refine wseq ?_
      refine reg hmix (ρ' := [(1, .int .i64 m), (6, .string (S (stepsOf l))), (7, .string (S ((lzUnpack (stepsOf l) m).1))), (8, .int .i64 (((lzUnpack (stepsOf l) m).2 : Nat) : Int))]) (C := [CallOk Try.prog w5 9 #[.string (S (stepsOf l)), .int .i64 m] (.tuple #[.string (S ((lzUnpack (stepsOf l) m).1)), .int .i64 (((lzUnpack (stepsOf l) m).2 : Nat) : Int)])]) ha [(2, .val (.tuple #[.string (S ((lzUnpack (stepsOf l) m).1)), .int .i64 (((lzUnpack (stepsOf l) m).2 : Nat) : Int)]))] (by kernel_rfl) (.cons (fun w _ => unpack_ok _ _ w (by first | omega | decide) (by omega)) .nil) ?_
      clear ha a; intro a w6 ha he
      replace hx := hx.tr he
      clear he
      refine tn ?_
      refine wseq ?_
      refine reg hmix (ρ' := [(7, .string (S ((lzUnpack (stepsOf l) m).1))), (8, .int .i64 (((lzUnpack (stepsOf l) m).2 : Nat) : Int)), (9, .string (S ((lzUnpack (stepsOf l) m).1))), (10, .int .i64 (((lzUnpack (stepsOf l) m).2 : Nat) : Int))]) (C := [CallOk Try.prog w6 10 #[.string (S (stepsOf l)), .int .i64 m] (.tuple #[.string (S ((lzUnpack (stepsOf l) m).1)), .int .i64 (((lzUnpack (stepsOf l) m).2 : Nat) : Int)])]) ha [(2, .val (.tuple #[.string (S ((lzUnpack (stepsOf l) m).1)), .int .i64 (((lzUnpack (stepsOf l) m).2 : Nat) : Int)]))] (by kernel_rfl) (.cons (fun w _ => runpack_ok _ _ w (by first | omega | decide) (by omega)) .nil) ?_
      clear ha a; intro a w7 ha he
      replace hx := hx.tr he
      clear he
      refine tn ?_
      refine wseq ?_
      refine reg hmix (ρ' := [(4, .bool ((true && (decide (((lzUnpack (stepsOf l) m).1 : List UInt8) = ((lzUnpack (stepsOf l) m).1 : List UInt8)))) && (decide ((((lzUnpack (stepsOf l) m).2 : Nat) : Int) = (((lzUnpack (stepsOf l) m).2 : Nat) : Int)))))]) (C := [CallOk Try.prog w7 8 #[] (.bool true)]) ha [(0, .val (.bool true))] (by kernel_rfl) (.cons (fun w _ => knows5_ok w) .nil) ?_
      clear ha a; intro a w8 ha he
      replace hx := hx.tr he
      clear he
      refine tn ?_
      refine wret ?_
      refine fin ha (.tmp rfl .nil) ?_
      exact ⟨congrArg Value.bool (by simp), hx⟩
end Go.Kn
