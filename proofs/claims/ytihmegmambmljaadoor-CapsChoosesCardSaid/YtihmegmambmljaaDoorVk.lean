import Derived.Test.YtihmegmambmljaaDoorCc
import Derived.Test.YtihmegmambmljaaDoorVj
set_option linter.unusedSimpArgs false
set_option linter.unusedVariables false
set_option maxRecDepth 100000
namespace Go.Kn
open Go.Proofs
theorem rd_known {w : World} {kb T : Nat} {f : Nat × Nat} (h : w.heap[kb]? = some (.cells #[.string (S [97, 116, 111, 109, 105, 99]), .string (S [98, 97, 110, 100]), .string (S [100, 101, 101, 112, 101, 110]), .string (S [111, 102, 115]), .string (S [116, 104, 105, 110])] T f)) : Rd w 1 (some ⟨kb, 0, none⟩) 5 (known5.flatMap encS) := rd_blk h rfl
theorem word_ok (s : List UInt8) (w : World) (hs : s.length ≤ 1000000) :
    Fn Tryd.prog 46 #[.string (S s)] w (fun v w' => v = .bool (cWord s) ∧ Ext w w') := by
  have hx : Ext w w := Ext.rfl' w
  refine enter (N := 15) (args := [.string (S s)]) Tryd.func46 rfl rfl rfl ?_
  intro a ha
  simp only [argEnv, Nat.zero_add, Nat.reduceAdd] at ha
  refine wseq ?_
  refine regp (ρ' := [(0, .string (S s))]) (C := []) ha [] (by kernel_rfl) .nil ?_
  clear ha a; intro a ha
  refine tn ?_
  refine wseq ?_
  refine reg hmix (ρ' := [(2, .bool (((!decide ((s : List UInt8) = ([] : List UInt8))) && (decide (((s.length : Nat) : Int) ≤ 20))) && (decide (((Go.Lib.idxFunc strP true (S s)) : Int) < 0))))]) (C := [((!decide ((s : List UInt8) = ([] : List UInt8))) && (decide (((s.length : Nat) : Int) ≤ 20))) = true → All [CallOk Tryd.prog w 71 #[.string (S s), .func (.func 72) #[] #[]] (.int .i64 (Go.Lib.idxFunc strP true (S s)))]]) ha [(9, .val (.int .i64 (Go.Lib.idxFunc strP true (S s))))] (by kernel_rfl) (.cons (fun hg8 => by simp only [Bool.not_eq_true', Bool.not_eq_false', Bool.and_eq_true, Bool.or_eq_true, Bool.and_eq_false_iff, Bool.or_eq_false_iff, decide_eq_true_eq, decide_eq_false_iff_not, Bool.not_eq_true, Decidable.not_not] at hg8; exact (.cons (fun w _ => sidx_ok _ w) .nil)) .nil) ?_
  clear ha a; intro a w1 ha he
  replace hx := hx.tr he
  clear he
  refine tn ?_
  refine wret ?_
  refine fin ha (.tmp rfl .nil) ?_
  exact ⟨congrArg Value.bool (word_eq s), hx⟩
theorem rword_ok (s : List UInt8) (w : World) (hs : s.length ≤ 1000000) :
    Fn Tryd.prog 47 #[.string (S s)] w (fun v w' => v = .bool (cWord s) ∧ Ext w w') := by
  have hx : Ext w w := Ext.rfl' w
  refine enter (N := 40) (args := [.string (S s)]) Tryd.func47 rfl rfl rfl ?_
  intro a ha
  simp only [argEnv, Nat.zero_add, Nat.reduceAdd] at ha
  refine wseq ?_
  refine regp (ρ' := [(0, .string (S s))]) (C := []) ha [] (by kernel_rfl) .nil ?_
  clear ha a; intro a ha
  refine tn ?_
  refine wseq ?_
  refine wseq ?_
  refine regp (ρ' := [(0, .string (S s)), (3, .int .i64 0)]) (C := []) ha [] (by kernel_rfl) .nil ?_
  clear ha a; intro a ha
  refine tn ?_
  refine wblk ?_
  refine wloop (fun zz a w1 => ∃ (i : Nat), zz = s.length - i ∧ On 40 [(0, .string (S s)), (3, .int .i64 ((i : Nat) : Int))] a ∧ Ext w w1 ∧ (i ≤ s.length) ∧ (∀ j, j < i → strP (s.getD j 0).toNat = false)) _ ⟨0, rfl, ha.sub (ρ' := [(0, .string (S s)), (3, .int .i64 ((0 : Nat) : Int))]) (by kernel_rfl), hx, by omega, fun j hj => absurd hj (by omega)⟩ ?_
  clear ha hx
  rintro zz a w2 ⟨i, hzz, ha, hx, hi, hk⟩
  refine wseq ?_
  refine wseq ?_
  refine regp (ρ' := [(0, .string (S s)), (3, .int .i64 ((i : Nat) : Int)), (8, .bool (decide (((i : Nat) : Int) < ((s.length : Nat) : Int))))]) (C := []) ha [] (by kernel_rfl) .nil ?_
  clear ha a; intro a ha
  refine tn ?_
  refine wif ha rfl (fun h8 => ?_) (fun h8 => ?_)
  · replace h8 := of_decide_eq_true h8
    refine wskip ?_
    refine tn ?_
    refine wseq ?_
    refine wblk ?_
    refine wseq ?_
    refine regp (ρ' := [(0, .string (S s)), (3, .int .i64 ((i : Nat) : Int)), (4, .int .u8 (((s.getD i 0).toNat : Nat) : Int))]) (C := [0 ≤ ((i : Nat) : Int) ∧ ((i : Nat) : Int) < (s.length : Int)]) ha [] (by kernel_rfl) (.cons ⟨by omega, by omega⟩ .nil) ?_
    clear ha a; intro a ha
    refine tn ?_
    refine wseq ?_
    refine wseq ?_
    refine regp (ρ' := [(0, .string (S s)), (3, .int .i64 ((i : Nat) : Int)), (31, .bool (((decide ((((s.getD i 0).toNat : Nat) : Int) = 45)) || ((decide ((48 : Int) ≤ (((s.getD i 0).toNat : Nat) : Int))) && (decide ((((s.getD i 0).toNat : Nat) : Int) ≤ 57)))) || ((decide ((97 : Int) ≤ (((s.getD i 0).toNat : Nat) : Int))) && (decide ((((s.getD i 0).toNat : Nat) : Int) ≤ 122)))))]) (C := []) ha [] (by kernel_rfl) .nil ?_
    clear ha a; intro a ha
    refine tn ?_
    refine wif ha rfl (fun h31 => ?_) (fun h31 => ?_)
    · simp only [Bool.not_eq_true', Bool.not_eq_false', Bool.and_eq_true, Bool.or_eq_true, Bool.and_eq_false_iff, Bool.or_eq_false_iff, decide_eq_true_eq, decide_eq_false_iff_not, Bool.not_eq_true, Decidable.not_not] at h31
      refine wexit ?_
      refine (te (be ?_))
      refine tn ?_
      refine regp (ρ' := [(0, .string (S s)), (3, .int .i64 ((i + 1 : Nat) : Int))]) (C := [InR .i64 ((i + 1 : Nat) : Int)]) ha [] (by kernel_rfl) (.cons (by unfold InR; omega) .nil) ?_
      clear ha a; intro a ha
      exact tn ⟨s.length - ((i + 1)), by omega, (i + 1), rfl, ha.sub (ρ' := [(0, .string (S s)), (3, .int .i64 (((i + 1) : Nat) : Int))]) (by kernel_rfl), hx, by omega, fun j hj => (Nat.lt_or_ge j i).elim (hk j) (fun h => (show j = i by omega) ▸ strP_ok (by omega))⟩
    · simp only [Bool.not_eq_true', Bool.not_eq_false', Bool.and_eq_true, Bool.or_eq_true, Bool.and_eq_false_iff, Bool.or_eq_false_iff, decide_eq_true_eq, decide_eq_false_iff_not, Bool.not_eq_true, Decidable.not_not] at h31
      have hres := cWord_bad (s := s) (i := i) (by omega) (strP_bad (by omega))
      refine wskip ?_
      refine tn ?_
      refine wseq ?_
      refine regp (ρ' := [(2, .bool false)]) (C := []) ha [] (by kernel_rfl) .nil ?_
      clear ha a; intro a ha
      refine tn ?_
      refine wret ?_
      refine (br (tr (tr (br (tr ?_)))))
      refine fin ha (.tmp rfl .nil) ?_
      exact ⟨congrArg Value.bool (by rw [hres] <;> (congr 1 <;> exact decide_eq_decide.2 (by omega))), hx⟩
  · replace h8 := of_decide_eq_false h8
    obtain rfl : i = s.length := by omega
    have hres := cWord_len hk
    refine wexit ?_
    refine (te (te (be ?_)))
    refine tn ?_
    refine wseq ?_
    refine regp (ρ' := [(2, .bool ((decide ((1 : Int) ≤ ((s.length : Nat) : Int))) && (decide (((s.length : Nat) : Int) ≤ 20))))]) (C := []) ha [] (by kernel_rfl) .nil ?_
    clear ha a; intro a ha
    refine tn ?_
    refine wret ?_
    refine fin ha (.tmp rfl .nil) ?_
    exact ⟨congrArg Value.bool (by rw [hres] <;> (congr 1 <;> exact decide_eq_decide.2 (by omega))), hx⟩
theorem fine_ok (A : Option Addr) (c : Nat) (l : List (List UInt8)) (w : World) (hr : Rd w 1 A l.length (l.flatMap encS)) (hl : l.length ≤ 1000000) (hs100 : ∀ i, i < l.length → (l.getD i default).length ≤ 1000000) :
    Fn Tryd.prog 23 #[.slice A l.length c] w (fun v w' => v = .bool (cFine l) ∧ Ext w w') := by
  have hx : Ext w w := Ext.rfl' w
  refine enter (N := 32) (args := [.slice A l.length c]) Tryd.func23 rfl rfl rfl ?_
  intro a ha
  simp only [argEnv, Nat.zero_add, Nat.reduceAdd] at ha
  refine wseq ?_
  refine regp (ρ' := [(0, .slice A l.length c)]) (C := []) ha [] (by kernel_rfl) .nil ?_
  clear ha a; intro a ha
  refine tn ?_
  refine wseq ?_
  refine wseq ?_
  refine regp (ρ' := [(0, .slice A l.length c), (5, .slice A l.length c), (6, .int .i64 ((l.length : Nat) : Int)), (7, .int .i64 0)]) (C := []) ha [] (by kernel_rfl) .nil ?_
  clear ha a; intro a ha
  refine tn ?_
  refine wblk ?_
  refine wloop (fun zz a w1 => ∃ (i : Nat), zz = l.length - i ∧ On 32 [(0, .slice A l.length c), (5, .slice A l.length c), (6, .int .i64 ((l.length : Nat) : Int)), (7, .int .i64 ((i : Nat) : Int))] a ∧ Ext w w1 ∧ (i ≤ l.length) ∧ (∀ j, j < i → fineAt l j = true)) _ ⟨0, rfl, ha.sub (ρ' := [(0, .slice A l.length c), (5, .slice A l.length c), (6, .int .i64 ((l.length : Nat) : Int)), (7, .int .i64 ((0 : Nat) : Int))]) (by kernel_rfl), hx, by omega, fun j hj => absurd hj (by omega)⟩ ?_
  clear ha hx
  rintro zz a w2 ⟨i, hzz, ha, hx, hi, hk⟩
  refine wseq ?_
  refine regp (ρ' := [(0, .slice A l.length c), (5, .slice A l.length c), (6, .int .i64 ((l.length : Nat) : Int)), (7, .int .i64 ((i : Nat) : Int)), (8, .bool (decide (((i : Nat) : Int) < ((l.length : Nat) : Int))))]) (C := []) ha [] (by kernel_rfl) .nil ?_
  clear ha a; intro a ha
  refine tn ?_
  refine wseq ?_
  refine wif ha rfl (fun h8 => ?_) (fun h8 => ?_)
  · replace h8 := of_decide_eq_true h8
    have hw := hs100 i (by omega)
    refine wskip ?_
    refine tn ?_
    refine wseq ?_
    refine wblk ?_
    refine wseq ?_
    refine regp (ρ' := [(0, .slice A l.length c), (3, .int .i64 ((i : Nat) : Int)), (4, .string (S (l.getD i default))), (5, .slice A l.length c), (6, .int .i64 ((l.length : Nat) : Int)), (7, .int .i64 ((i : Nat) : Int))]) (C := [RunOk Tryd.prog w2 (Instr.indexAt 29 (.slice A l.length c) (.int .i64 ((i : Nat) : Int))) (.pointer (some ⟨ab A, ao A + i * 1, none⟩)), RunOk Tryd.prog w2 (Instr.loadAt 9 (.pointer (some ⟨ab A, ao A + i * 1, none⟩))) (.string (S (l.getD i default)))]) ha [(1, .val (.pointer (some ⟨ab A, ao A + i * 1, none⟩))), (2, .val (.string (S (l.getD i default))))] (by kernel_rfl) (.cons (ixRd (e := 9) (by kernel_rfl) (by kernel_rfl) (rdE hx hr) (by omega)) (.cons (ldRd (j := i * 1) (by kernel_rfl) (rdE hx hr) (by omega) (flat_get0 encS_len l default i (by omega) rfl)) .nil)) ?_
    clear ha a; intro a ha
    refine tn ?_
    refine wseq ?_
    refine reg hmix (ρ' := [(0, .slice A l.length c), (5, .slice A l.length c), (6, .int .i64 ((l.length : Nat) : Int)), (7, .int .i64 ((i : Nat) : Int)), (27, .bool ((!(cWord (l.getD i default))) || ((decide ((0 : Int) < ((i : Nat) : Int))) && (!Op.bytesLess ((l.getD (((((i : Nat) : Int) - 1) : Int).toNat) default) : List UInt8) ((l.getD i default) : List UInt8)))))]) (C := [CallOk Tryd.prog w2 46 #[.string (S (l.getD i default))] (.bool (cWord (l.getD i default))), (!(cWord (l.getD i default))) = false → All [(decide ((0 : Int) < ((i : Nat) : Int))) = true → All [InR .i64 (((i : Nat) : Int) - 1), RunOk Tryd.prog w2 (Instr.indexAt 29 (.slice A l.length c) (.int .i64 (((i : Nat) : Int) - 1))) (.pointer (some ⟨ab A, ao A + ((((i : Nat) : Int) - 1) : Int).toNat * 1, none⟩)), RunOk Tryd.prog w2 (Instr.loadAt 9 (.pointer (some ⟨ab A, ao A + ((((i : Nat) : Int) - 1) : Int).toNat * 1, none⟩))) (.string (S (l.getD (((((i : Nat) : Int) - 1) : Int).toNat) default)))]]]) ha [(1, .val (.bool (cWord (l.getD i default)))), (10, .val (.pointer (some ⟨ab A, ao A + ((((i : Nat) : Int) - 1) : Int).toNat * 1, none⟩))), (11, .val (.string (S (l.getD (((((i : Nat) : Int) - 1) : Int).toNat) default))))] (by kernel_rfl) (.cons (fun w _ => word_ok _ w (by omega)) (.cons (fun hg4 => by simp only [Bool.not_eq_true', Bool.not_eq_false', Bool.and_eq_true, Bool.or_eq_true, Bool.and_eq_false_iff, Bool.or_eq_false_iff, decide_eq_true_eq, decide_eq_false_iff_not, Bool.not_eq_true, Decidable.not_not] at hg4; exact (.cons (fun hg7 => by replace hg7 := of_decide_eq_true hg7; exact (.cons (by unfold InR; omega) (.cons (ixRdI (e := 9) (by kernel_rfl) (by kernel_rfl) (rdE hx hr) ⟨by omega, by omega⟩) (.cons (ldRd (j := ((((i : Nat) : Int) - 1) : Int).toNat * 1) (by kernel_rfl) (rdE hx hr) (by omega) (flat_get0 encS_len l default (((((i : Nat) : Int) - 1) : Int).toNat) (by omega) rfl)) .nil)))) .nil)) .nil)) ?_
    clear ha a; intro a w3 ha he
    replace hx := hx.tr he
    clear he
    refine tn ?_
    refine wif ha rfl (fun h27 => ?_) (fun h27 => ?_)
    · simp only [Bool.not_eq_true', Bool.not_eq_false', Bool.and_eq_true, Bool.or_eq_true, Bool.and_eq_false_iff, Bool.or_eq_false_iff, decide_eq_true_eq, decide_eq_false_iff_not, Bool.not_eq_true, Decidable.not_not] at h27
      try rw [show (((i : Nat) : Int) - 1).toNat = i - 1 by omega] at h27
      have hres := cFine_bad (l := l) (i := i) (by omega) (by unfold fineAt; rcases h27 with h | ⟨h0, h⟩; (rw [h]; rfl); (rw [h]; simp; omega))
      refine wseq ?_
      refine regp (ρ' := [(2, .bool false)]) (C := []) ha [] (by kernel_rfl) .nil ?_
      clear ha a; intro a ha
      refine tn ?_
      refine wret ?_
      refine (br (tr (tr (br (tr ?_)))))
      refine fin ha (.tmp rfl .nil) ?_
      exact ⟨congrArg Value.bool (by rw [hres] <;> exact decide_eq_decide.2 (by omega)), hx⟩
    · simp only [Bool.not_eq_true', Bool.not_eq_false', Bool.and_eq_true, Bool.or_eq_true, Bool.and_eq_false_iff, Bool.or_eq_false_iff, decide_eq_true_eq, decide_eq_false_iff_not, Bool.not_eq_true, Decidable.not_not] at h27
      try rw [show (((i : Nat) : Int) - 1).toNat = i - 1 by omega] at h27
      have hfi : fineAt l i = true := by
        unfold fineAt
        rw [h27.1]
        rcases h27.2 with h | h
        · simp; left; omega
        · rw [h]; simp
      refine wskip ?_
      refine bn ?_
      refine tn ?_
      refine regp (ρ' := [(0, .slice A l.length c), (5, .slice A l.length c), (6, .int .i64 ((l.length : Nat) : Int)), (7, .int .i64 ((i + 1 : Nat) : Int))]) (C := [InR .i64 ((i + 1 : Nat) : Int)]) ha [] (by kernel_rfl) (.cons (by unfold InR; omega) .nil) ?_
      clear ha a; intro a ha
      exact tn ⟨l.length - ((i + 1)), by omega, (i + 1), rfl, ha.sub (ρ' := [(0, .slice A l.length c), (5, .slice A l.length c), (6, .int .i64 ((l.length : Nat) : Int)), (7, .int .i64 (((i + 1) : Nat) : Int))]) (by kernel_rfl), hx, by omega, fun j hj => (Nat.lt_or_ge j i).elim (hk j) (fun h => (show j = i by omega) ▸ hfi)⟩
  · replace h8 := of_decide_eq_false h8
    obtain rfl : i = l.length := by omega
    have hres := cFine_len hk
    refine wexit ?_
    refine (te (te (be ?_)))
    refine tn ?_
    refine wseq ?_
    refine regp (ρ' := [(2, .bool (decide (((l.length : Nat) : Int) ≤ 20)))]) (C := []) ha [] (by kernel_rfl) .nil ?_
    clear ha a; intro a ha
    refine tn ?_
    refine wret ?_
    refine fin ha (.tmp rfl .nil) ?_
    exact ⟨congrArg Value.bool (by rw [hres] <;> exact decide_eq_decide.2 (by omega)), hx⟩
theorem rfine_ok (A : Option Addr) (c : Nat) (l : List (List UInt8)) (w : World) (hr : Rd w 1 A l.length (l.flatMap encS)) (hl : l.length ≤ 1000000) (hs100 : ∀ i, i < l.length → (l.getD i default).length ≤ 1000000) :
    Fn Tryd.prog 24 #[.slice A l.length c] w (fun v w' => v = .bool (cFine l) ∧ Ext w w') := by
  have hx : Ext w w := Ext.rfl' w
  refine enter (N := 35) (args := [.slice A l.length c]) Tryd.func24 rfl rfl rfl ?_
  intro a ha
  simp only [argEnv, Nat.zero_add, Nat.reduceAdd] at ha
  refine wseq ?_
  refine regp (ρ' := [(0, .slice A l.length c)]) (C := []) ha [] (by kernel_rfl) .nil ?_
  clear ha a; intro a ha
  refine tn ?_
  refine wseq ?_
  refine wseq ?_
  refine regp (ρ' := [(0, .slice A l.length c), (3, .int .i64 0)]) (C := []) ha [] (by kernel_rfl) .nil ?_
  clear ha a; intro a ha
  refine tn ?_
  refine wblk ?_
  refine wloop (fun zz a w1 => ∃ (i : Nat), zz = l.length - i ∧ On 35 [(0, .slice A l.length c), (3, .int .i64 ((i : Nat) : Int))] a ∧ Ext w w1 ∧ (i ≤ l.length) ∧ (∀ j, j < i → fineAt l j = true)) _ ⟨0, rfl, ha.sub (ρ' := [(0, .slice A l.length c), (3, .int .i64 ((0 : Nat) : Int))]) (by kernel_rfl), hx, by omega, fun j hj => absurd hj (by omega)⟩ ?_
  clear ha hx
  rintro zz a w2 ⟨i, hzz, ha, hx, hi, hk⟩
  refine wseq ?_
  refine wseq ?_
  refine regp (ρ' := [(0, .slice A l.length c), (3, .int .i64 ((i : Nat) : Int)), (8, .bool (decide (((i : Nat) : Int) < ((l.length : Nat) : Int))))]) (C := []) ha [] (by kernel_rfl) .nil ?_
  clear ha a; intro a ha
  refine tn ?_
  refine wif ha rfl (fun h8 => ?_) (fun h8 => ?_)
  · replace h8 := of_decide_eq_true h8
    have hw := hs100 i (by omega)
    refine wskip ?_
    refine tn ?_
    refine wseq ?_
    refine wblk ?_
    refine wseq ?_
    refine reg hmix (ρ' := [(0, .slice A l.length c), (3, .int .i64 ((i : Nat) : Int)), (4, .bool (cWord (l.getD i default)))]) (C := [RunOk Tryd.prog w2 (Instr.indexAt 29 (.slice A l.length c) (.int .i64 ((i : Nat) : Int))) (.pointer (some ⟨ab A, ao A + i * 1, none⟩)), RunOk Tryd.prog w2 (Instr.loadAt 9 (.pointer (some ⟨ab A, ao A + i * 1, none⟩))) (.string (S (l.getD i default))), CallOk Tryd.prog w2 47 #[.string (S (l.getD i default))] (.bool (cWord (l.getD i default)))]) ha [(2, .val (.pointer (some ⟨ab A, ao A + i * 1, none⟩))), (3, .val (.string (S (l.getD i default)))), (4, .val (.bool (cWord (l.getD i default))))] (by kernel_rfl) (.cons (ixRd (e := 9) (by kernel_rfl) (by kernel_rfl) (rdE hx hr) (by omega)) (.cons (ldRd (j := i * 1) (by kernel_rfl) (rdE hx hr) (by omega) (flat_get0 encS_len l default i (by omega) rfl)) (.cons (fun w _ => rword_ok _ w (by omega)) .nil))) ?_
    clear ha a; intro a w3 ha he
    replace hx := hx.tr he
    clear he
    refine tn ?_
    refine wseq ?_
    refine wseq ?_
    refine regp (ρ' := [(0, .slice A l.length c), (3, .int .i64 ((i : Nat) : Int)), (17, .bool (!(cWord (l.getD i default))))]) (C := []) ha [] (by kernel_rfl) .nil ?_
    clear ha a; intro a ha
    refine tn ?_
    refine wif ha rfl (fun h17 => ?_) (fun h17 => ?_)
    · simp only [Bool.not_eq_true', Bool.not_eq_false', Bool.and_eq_true, Bool.or_eq_true, Bool.and_eq_false_iff, Bool.or_eq_false_iff, decide_eq_true_eq, decide_eq_false_iff_not, Bool.not_eq_true, Decidable.not_not] at h17
      have hres := cFine_bad (l := l) (i := i) (by omega) (by unfold fineAt; rw [show cWord (l.getD i default) = false by simpa using h17]; rfl)
      refine wseq ?_
      refine regp (ρ' := [(2, .bool false)]) (C := []) ha [] (by kernel_rfl) .nil ?_
      clear ha a; intro a ha
      refine tn ?_
      refine wret ?_
      refine (tr (br (tr (tr (br (tr ?_))))))
      refine fin ha (.tmp rfl .nil) ?_
      exact ⟨congrArg Value.bool (by rw [hres] <;> exact decide_eq_decide.2 (by omega)), hx⟩
    · simp only [Bool.not_eq_true', Bool.not_eq_false', Bool.and_eq_true, Bool.or_eq_true, Bool.and_eq_false_iff, Bool.or_eq_false_iff, decide_eq_true_eq, decide_eq_false_iff_not, Bool.not_eq_true, Decidable.not_not] at h17
      have hwd : cWord (l.getD i default) = true := by simpa using h17
      refine wskip ?_
      refine tn ?_
      refine wseq ?_
      refine reg hmix (ρ' := [(0, .slice A l.length c), (3, .int .i64 ((i : Nat) : Int)), (31, .bool ((decide ((0 : Int) < ((i : Nat) : Int))) && (Op.bytesLess ((l.getD i default) : List UInt8) ((l.getD (((((i : Nat) : Int) - 1) : Int).toNat) default) : List UInt8) || decide (((l.getD i default) : List UInt8) = ((l.getD (((((i : Nat) : Int) - 1) : Int).toNat) default) : List UInt8)))))]) (C := [(decide ((0 : Int) < ((i : Nat) : Int))) = true → All [RunOk Tryd.prog w3 (Instr.indexAt 29 (.slice A l.length c) (.int .i64 ((i : Nat) : Int))) (.pointer (some ⟨ab A, ao A + i * 1, none⟩)), RunOk Tryd.prog w3 (Instr.loadAt 9 (.pointer (some ⟨ab A, ao A + i * 1, none⟩))) (.string (S (l.getD i default))), InR .i64 (((i : Nat) : Int) - 1), RunOk Tryd.prog w3 (Instr.indexAt 29 (.slice A l.length c) (.int .i64 (((i : Nat) : Int) - 1))) (.pointer (some ⟨ab A, ao A + ((((i : Nat) : Int) - 1) : Int).toNat * 1, none⟩)), RunOk Tryd.prog w3 (Instr.loadAt 9 (.pointer (some ⟨ab A, ao A + ((((i : Nat) : Int) - 1) : Int).toNat * 1, none⟩))) (.string (S (l.getD (((((i : Nat) : Int) - 1) : Int).toNat) default)))]]) ha [(5, .val (.pointer (some ⟨ab A, ao A + i * 1, none⟩))), (6, .val (.string (S (l.getD i default)))), (10, .val (.pointer (some ⟨ab A, ao A + ((((i : Nat) : Int) - 1) : Int).toNat * 1, none⟩))), (11, .val (.string (S (l.getD (((((i : Nat) : Int) - 1) : Int).toNat) default))))] (by kernel_rfl) (.cons (fun hg3 => by replace hg3 := of_decide_eq_true hg3; exact (.cons (ixRd (e := 9) (by kernel_rfl) (by kernel_rfl) (rdE hx hr) (by omega)) (.cons (ldRd (j := i * 1) (by kernel_rfl) (rdE hx hr) (by omega) (flat_get0 encS_len l default i (by omega) rfl)) (.cons (by unfold InR; omega) (.cons (ixRdI (e := 9) (by kernel_rfl) (by kernel_rfl) (rdE hx hr) ⟨by omega, by omega⟩) (.cons (ldRd (j := ((((i : Nat) : Int) - 1) : Int).toNat * 1) (by kernel_rfl) (rdE hx hr) (by omega) (flat_get0 encS_len l default (((((i : Nat) : Int) - 1) : Int).toNat) (by omega) rfl)) .nil)))))) .nil) ?_
      clear ha a; intro a w4 ha he
      replace hx := hx.tr he
      clear he
      refine tn ?_
      refine wif ha rfl (fun h31 => ?_) (fun h31 => ?_)
      · simp only [Bool.not_eq_true', Bool.not_eq_false', Bool.and_eq_true, Bool.or_eq_true, Bool.and_eq_false_iff, Bool.or_eq_false_iff, decide_eq_true_eq, decide_eq_false_iff_not, Bool.not_eq_true, Decidable.not_not] at h31
        try rw [show (((i : Nat) : Int) - 1).toNat = i - 1 by omega] at h31
        have hres := cFine_bad (l := l) (i := i) (by omega) (by
          have e : (Op.bytesLess (l.getD i default) (l.getD (i - 1) default) || decide ((l.getD i default) = (l.getD (i - 1) default))) = true := by simpa using h31.2
          rw [bl_total] at e
          have e2 : Op.bytesLess (l.getD (i - 1) default) (l.getD i default) = false := by cases hb : Op.bytesLess (l.getD (i - 1) default) (l.getD i default) with | true => (rw [hb] at e; cases e) | false => rfl
          unfold fineAt
          rw [hwd, e2]
          have := h31.1
          simp; omega)
        refine wseq ?_
        refine regp (ρ' := [(2, .bool false)]) (C := []) ha [] (by kernel_rfl) .nil ?_
        clear ha a; intro a ha
        refine tn ?_
        refine wret ?_
        refine (br (tr (tr (br (tr ?_)))))
        refine fin ha (.tmp rfl .nil) ?_
        exact ⟨congrArg Value.bool (by rw [hres] <;> exact decide_eq_decide.2 (by omega)), hx⟩
      · simp only [Bool.not_eq_true', Bool.not_eq_false', Bool.and_eq_true, Bool.or_eq_true, Bool.and_eq_false_iff, Bool.or_eq_false_iff, decide_eq_true_eq, decide_eq_false_iff_not, Bool.not_eq_true, Decidable.not_not] at h31
        try rw [show (((i : Nat) : Int) - 1).toNat = i - 1 by omega] at h31
        have hfi : fineAt l i = true := by
          unfold fineAt
          rw [hwd]
          rcases h31 with h | h
          · simp; left; omega
          · have e : (Op.bytesLess (l.getD i default) (l.getD (i - 1) default) || decide ((l.getD i default) = (l.getD (i - 1) default))) = false := by simpa using h
            rw [bl_total] at e
            have e2 : Op.bytesLess (l.getD (i - 1) default) (l.getD i default) = true := by cases hb : Op.bytesLess (l.getD (i - 1) default) (l.getD i default) with | true => rfl | false => (rw [hb] at e; cases e)
            rw [e2]; simp
        refine wskip ?_
        refine bn ?_
        refine tn ?_
        refine regp (ρ' := [(0, .slice A l.length c), (3, .int .i64 ((i + 1 : Nat) : Int))]) (C := [InR .i64 ((i + 1 : Nat) : Int)]) ha [] (by kernel_rfl) (.cons (by unfold InR; omega) .nil) ?_
        clear ha a; intro a ha
        exact tn ⟨l.length - ((i + 1)), by omega, (i + 1), rfl, ha.sub (ρ' := [(0, .slice A l.length c), (3, .int .i64 (((i + 1) : Nat) : Int))]) (by kernel_rfl), hx, by omega, fun j hj => (Nat.lt_or_ge j i).elim (hk j) (fun h => (show j = i by omega) ▸ hfi)⟩
  · replace h8 := of_decide_eq_false h8
    obtain rfl : i = l.length := by omega
    have hres := cFine_len hk
    refine wexit ?_
    refine (te (te (be ?_)))
    refine tn ?_
    refine wseq ?_
    refine regp (ρ' := [(2, .bool (decide (((l.length : Nat) : Int) ≤ 20)))]) (C := []) ha [] (by kernel_rfl) .nil ?_
    clear ha a; intro a ha
    refine tn ?_
    refine wret ?_
    refine fin ha (.tmp rfl .nil) ?_
    exact ⟨congrArg Value.bool (by rw [hres] <;> exact decide_eq_decide.2 (by omega)), hx⟩
theorem same10_ok (A1 A2 : Option Addr) (c1 c2 : Nat) (l1 l2 : List (List UInt8)) (w : World) (hr1 : Rd w 1 A1 l1.length (l1.flatMap encS)) (hr2 : Rd w 1 A2 l2.length (l2.flatMap encS)) (hl1 : l1.length ≤ 1000000) (hl2 : l2.length ≤ 1000000) :
    Fn Tryd.prog 21 #[.slice A1 l1.length c1, .slice A2 l2.length c2] w (fun v w' => v = .bool (decide (l1 = l2)) ∧ Ext w w') := by
  have hx : Ext w w := Ext.rfl' w
  refine enter (N := 26) (args := [.slice A1 l1.length c1, .slice A2 l2.length c2]) Tryd.func21 rfl rfl rfl ?_
  intro a ha
  simp only [argEnv, Nat.zero_add, Nat.reduceAdd] at ha
  refine wseq ?_
  refine regp (ρ' := [(0, .slice A1 l1.length c1), (1, .slice A2 l2.length c2)]) (C := []) ha [] (by kernel_rfl) .nil ?_
  clear ha a; intro a ha
  refine tn ?_
  refine wseq ?_
  refine wseq ?_
  refine regp (ρ' := [(0, .slice A1 l1.length c1), (1, .slice A2 l2.length c2), (10, .bool (!decide (((l1.length : Nat) : Int) = ((l2.length : Nat) : Int))))]) (C := []) ha [] (by kernel_rfl) .nil ?_
  clear ha a; intro a ha
  refine tn ?_
  refine wif ha rfl (fun h10 => ?_) (fun h10 => ?_)
  · simp only [Bool.not_eq_true', Bool.not_eq_false', Bool.and_eq_true, Bool.or_eq_true, Bool.and_eq_false_iff, Bool.or_eq_false_iff, decide_eq_true_eq, decide_eq_false_iff_not, Bool.not_eq_true, Decidable.not_not] at h10
    have hres : decide (l1 = l2) = false := decide_eq_false (fun e => by rw [e] at h10; omega)
    refine wseq ?_
    refine regp (ρ' := [(4, .bool false)]) (C := []) ha [] (by kernel_rfl) .nil ?_
    clear ha a; intro a ha
    refine tn ?_
    refine wret ?_
    refine (tr ?_)
    refine fin ha (.tmp rfl .nil) ?_
    exact ⟨congrArg Value.bool hres.symm, hx⟩
  · simp only [Bool.not_eq_true', Bool.not_eq_false', Bool.and_eq_true, Bool.or_eq_true, Bool.and_eq_false_iff, Bool.or_eq_false_iff, decide_eq_true_eq, decide_eq_false_iff_not, Bool.not_eq_true, Decidable.not_not] at h10
    refine wskip ?_
    refine tn ?_
    refine wseq ?_
    refine wseq ?_
    refine regp (ρ' := [(0, .slice A1 l1.length c1), (1, .slice A2 l2.length c2), (5, .int .i64 0)]) (C := []) ha [] (by kernel_rfl) .nil ?_
    clear ha a; intro a ha
    refine tn ?_
    refine wblk ?_
    refine wloop (fun zz a w1 => ∃ (i : Nat), zz = l1.length - i ∧ On 26 [(0, .slice A1 l1.length c1), (1, .slice A2 l2.length c2), (5, .int .i64 ((i : Nat) : Int))] a ∧ Ext w w1 ∧ (i ≤ l1.length) ∧ (l1.take i = l2.take i)) _ ⟨0, rfl, ha.sub (ρ' := [(0, .slice A1 l1.length c1), (1, .slice A2 l2.length c2), (5, .int .i64 ((0 : Nat) : Int))]) (by kernel_rfl), hx, by omega, rfl⟩ ?_
    clear ha hx
    rintro zz a w2 ⟨i, hzz, ha, hx, hi, hk⟩
    refine wseq ?_
    refine wseq ?_
    refine regp (ρ' := [(0, .slice A1 l1.length c1), (1, .slice A2 l2.length c2), (5, .int .i64 ((i : Nat) : Int)), (14, .bool (decide (((i : Nat) : Int) < ((l1.length : Nat) : Int))))]) (C := []) ha [] (by kernel_rfl) .nil ?_
    clear ha a; intro a ha
    refine tn ?_
    refine wif ha rfl (fun h14 => ?_) (fun h14 => ?_)
    · replace h14 := of_decide_eq_true h14
      refine wskip ?_
      refine tn ?_
      refine wseq ?_
      refine wblk ?_
      refine wseq ?_
      refine reg hmix (ρ' := [(0, .slice A1 l1.length c1), (1, .slice A2 l2.length c2), (5, .int .i64 ((i : Nat) : Int)), (25, .bool (!decide (((l1.getD i default) : List UInt8) = ((l2.getD i default) : List UInt8))))]) (C := [RunOk Tryd.prog w2 (Instr.indexAt 29 (.slice A1 l1.length c1) (.int .i64 ((i : Nat) : Int))) (.pointer (some ⟨ab A1, ao A1 + i * 1, none⟩)), RunOk Tryd.prog w2 (Instr.loadAt 9 (.pointer (some ⟨ab A1, ao A1 + i * 1, none⟩))) (.string (S (l1.getD i default))), RunOk Tryd.prog w2 (Instr.indexAt 29 (.slice A2 l2.length c2) (.int .i64 ((i : Nat) : Int))) (.pointer (some ⟨ab A2, ao A2 + i * 1, none⟩)), RunOk Tryd.prog w2 (Instr.loadAt 9 (.pointer (some ⟨ab A2, ao A2 + i * 1, none⟩))) (.string (S (l2.getD i default)))]) ha [(2, .val (.pointer (some ⟨ab A1, ao A1 + i * 1, none⟩))), (3, .val (.string (S (l1.getD i default)))), (6, .val (.pointer (some ⟨ab A2, ao A2 + i * 1, none⟩))), (7, .val (.string (S (l2.getD i default))))] (by kernel_rfl) (.cons (ixRd (e := 9) (by kernel_rfl) (by kernel_rfl) (rdE hx hr1) (by omega)) (.cons (ldRd (j := i * 1) (by kernel_rfl) (rdE hx hr1) (by omega) (flat_get0 encS_len l1 default i (by omega) rfl)) (.cons (ixRd (e := 9) (by kernel_rfl) (by kernel_rfl) (rdE hx hr2) (by omega)) (.cons (ldRd (j := i * 1) (by kernel_rfl) (rdE hx hr2) (by omega) (flat_get0 encS_len l2 default i (by omega) rfl)) .nil)))) ?_
      clear ha a; intro a w3 ha he
      replace hx := hx.tr he
      clear he
      refine tn ?_
      refine wif ha rfl (fun h25 => ?_) (fun h25 => ?_)
      · simp only [Bool.not_eq_true', Bool.not_eq_false', Bool.and_eq_true, Bool.or_eq_true, Bool.and_eq_false_iff, Bool.or_eq_false_iff, decide_eq_true_eq, decide_eq_false_iff_not, Bool.not_eq_true, Decidable.not_not] at h25
        have hres : decide (l1 = l2) = false := decide_eq_false (fun e => h25 (by rw [e]))
        refine wseq ?_
        refine regp (ρ' := [(4, .bool false)]) (C := []) ha [] (by kernel_rfl) .nil ?_
        clear ha a; intro a ha
        refine tn ?_
        refine wret ?_
        refine (br (tr (tr (br (tr ?_)))))
        refine fin ha (.tmp rfl .nil) ?_
        exact ⟨congrArg Value.bool hres.symm, hx⟩
      · simp only [Bool.not_eq_true', Bool.not_eq_false', Bool.and_eq_true, Bool.or_eq_true, Bool.and_eq_false_iff, Bool.or_eq_false_iff, decide_eq_true_eq, decide_eq_false_iff_not, Bool.not_eq_true, Decidable.not_not] at h25
        refine wskip ?_
        refine bn ?_
        refine tn ?_
        refine regp (ρ' := [(0, .slice A1 l1.length c1), (1, .slice A2 l2.length c2), (5, .int .i64 ((i + 1 : Nat) : Int))]) (C := [InR .i64 ((i + 1 : Nat) : Int)]) ha [] (by kernel_rfl) (.cons (by unfold InR; omega) .nil) ?_
        clear ha a; intro a ha
        exact tn ⟨l1.length - ((i + 1)), by omega, (i + 1), rfl, ha.sub (ρ' := [(0, .slice A1 l1.length c1), (1, .slice A2 l2.length c2), (5, .int .i64 (((i + 1) : Nat) : Int))]) (by kernel_rfl), hx, by omega, by rw [take_snocS _ i (by omega), take_snocS _ i (by omega), hk, h25]⟩
    · replace h14 := of_decide_eq_false h14
      have hres : decide (l1 = l2) = true := decide_eq_true (by rw [List.take_of_length_le (by omega), List.take_of_length_le (by omega)] at hk; exact hk)
      refine wexit ?_
      refine (te (te (be ?_)))
      refine tn ?_
      refine wseq ?_
      refine regp (ρ' := [(4, .bool true)]) (C := []) ha [] (by kernel_rfl) .nil ?_
      clear ha a; intro a ha
      refine tn ?_
      refine wret ?_
      refine fin ha (.tmp rfl .nil) ?_
      exact ⟨congrArg Value.bool hres.symm, hx⟩
theorem rchoose_ok (A1 A2 : Option Addr) (c1 c2 : Nat) (l1 l2 : List (List UInt8)) (w : World) (hr1 : Rd w 1 A1 l1.length (l1.flatMap encS)) (hr2 : Rd w 1 A2 l2.length (l2.flatMap encS)) (hl1 : l1.length ≤ 1000000) (hl2 : l2.length ≤ 1000000) :
    Fn Tryd.prog 22 #[.slice A1 l1.length c1, .slice A2 l2.length c2] w (fun v w' => ∃ A c, v = .slice A (cChosen l1 l2).length c ∧ Rd w' 1 A (cChosen l1 l2).length ((cChosen l1 l2).flatMap encS) ∧ Ext w w') := by
  have hx : Ext w w := Ext.rfl' w
  refine enter (N := 41) (args := [.slice A1 l1.length c1, .slice A2 l2.length c2]) Tryd.func22 rfl rfl rfl ?_
  intro a ha
  simp only [argEnv, Nat.zero_add, Nat.reduceAdd] at ha
  refine wseq ?_
  refine regp (ρ' := [(0, .slice A1 l1.length c1), (1, .slice A2 l2.length c2)]) (C := []) ha [] (by kernel_rfl) .nil ?_
  clear ha a; intro a ha
  refine tn ?_
  refine wseq ?_
  refine reg_list ?_
  refine lnewS ha rfl (by kernel_rfl) #[.string (S [97, 116, 111, 109, 105, 99]), .string (S [98, 97, 110, 100]), .string (S [100, 101, 101, 112, 101, 110]), .string (S [111, 102, 115]), .string (S [116, 104, 105, 110])] 9 5 (by kernel_rfl) ?_
  clear ha a; intro kb w1 he hb_kb hB_kb a ha
  replace hb_kb := Nat.le_trans hx.size hb_kb
  replace hx := hx.tr he
  clear he
  refine segp (ρ' := [(0, .slice A1 l1.length c1), (1, .slice A2 l2.length c2), (5, .slice (some ⟨kb, 0, none⟩) 5 5)]) (C := []) ha 1 [] rfl (by kernel_rfl) .nil ?_
  clear ha a; intro a ha
  refine lnil ?_
  replace ha := ha.sub (ρ' := [(0, .slice A1 l1.length c1), (1, .slice A2 l2.length c2), (5, .slice (some ⟨kb, 0, none⟩) 5 5)]) (by kernel_rfl)
  have hk5 : known5.length = 5 := rfl
  refine tn ?_
  refine wseq ?_
  refine regp (ρ' := [(0, .slice A1 l1.length c1), (1, .slice A2 l2.length c2), (5, .slice (some ⟨kb, 0, none⟩) 5 5), (6, .slice none 0 0)]) (C := []) ha [] (by kernel_rfl) .nil ?_
  clear ha a; intro a ha
  refine tn ?_
  refine wseq ?_
  refine wseq ?_
  refine regp (ρ' := [(0, .slice A1 l1.length c1), (1, .slice A2 l2.length c2), (5, .slice (some ⟨kb, 0, none⟩) 5 5), (6, .slice none 0 0), (7, .int .i64 0)]) (C := []) ha [] (by kernel_rfl) .nil ?_
  clear ha a; intro a ha
  refine tn ?_
  refine wblk ?_
  refine wloop (fun zz a w2 => ∃ (i : Nat) (out : List (List UInt8)) (A : Option Addr) (c : Nat), zz = 5 - i ∧ On 41 [(0, .slice A1 l1.length c1), (1, .slice A2 l2.length c2), (5, .slice (some ⟨kb, 0, none⟩) 5 5), (6, .slice A out.length c), (7, .int .i64 ((i : Nat) : Int))] a ∧ Ext w w2 ∧ w2.heap[kb]? = some (.cells #[.string (S [97, 116, 111, 109, 105, 99]), .string (S [98, 97, 110, 100]), .string (S [100, 101, 101, 112, 101, 110]), .string (S [111, 102, 115]), .string (S [116, 104, 105, 110])] 9 (0, 0)) ∧ Own w2 (kb + 1) 9 1 A out.length c (out.flatMap encS) ∧ (i ≤ 5) ∧ (out = (known5.take i).filter fun t => decide (t ∈ l1) && decide (t ∈ l2)) ∧ (out.length ≤ i)) _ ⟨0, [], none, 0, rfl, ha.sub (ρ' := [(0, .slice A1 l1.length c1), (1, .slice A2 l2.length c2), (5, .slice (some ⟨kb, 0, none⟩) 5 5), (6, .slice none ([].length) 0), (7, .int .i64 ((0 : Nat) : Int))]) (by kernel_rfl), hx, hB_kb, own_nil _ _ _ _, by omega, rfl, Nat.le_refl _⟩ ?_
  clear ha hx hB_kb
  rintro zz a w3 ⟨i, out, A, c, hzz, ha, hx, hB_kb, ho, hi, hinv, hN⟩
  refine wseq ?_
  refine wseq ?_
  refine regp (ρ' := [(0, .slice A1 l1.length c1), (1, .slice A2 l2.length c2), (5, .slice (some ⟨kb, 0, none⟩) 5 5), (6, .slice A out.length c), (7, .int .i64 ((i : Nat) : Int)), (14, .bool (decide (((i : Nat) : Int) < ((5 : Nat) : Int))))]) (C := []) ha [] (by kernel_rfl) .nil ?_
  clear ha a; intro a ha
  refine tn ?_
  refine wif ha rfl (fun h14 => ?_) (fun h14 => ?_)
  · replace h14 := of_decide_eq_true h14
    refine wskip ?_
    refine tn ?_
    refine wseq ?_
    refine wblk ?_
    refine wseq ?_
    refine reg hmix (ρ' := [(0, .slice A1 l1.length c1), (1, .slice A2 l2.length c2), (5, .slice (some ⟨kb, 0, none⟩) 5 5), (6, .slice A out.length c), (7, .int .i64 ((i : Nat) : Int)), (8, .bool (decide ((known5.getD i default) ∈ l1)))]) (C := [RunOk Tryd.prog w3 (Instr.indexAt 29 (.slice (some ⟨kb, 0, none⟩) 5 5) (.int .i64 ((i : Nat) : Int))) (.pointer (some ⟨ab (some ⟨kb, 0, none⟩), ao (some ⟨kb, 0, none⟩) + i * 1, none⟩)), RunOk Tryd.prog w3 (Instr.loadAt 9 (.pointer (some ⟨ab (some ⟨kb, 0, none⟩), ao (some ⟨kb, 0, none⟩) + i * 1, none⟩))) (.string (S (known5.getD i default))), CallOk Tryd.prog w3 30 #[.slice A1 l1.length c1, .string (S (known5.getD i default))] (.bool (decide ((known5.getD i default) ∈ l1)))]) ha [(3, .val (.pointer (some ⟨ab (some ⟨kb, 0, none⟩), ao (some ⟨kb, 0, none⟩) + i * 1, none⟩))), (4, .val (.string (S (known5.getD i default)))), (5, .val (.bool (decide ((known5.getD i default) ∈ l1))))] (by kernel_rfl) (.cons (ixRd (e := 9) (by kernel_rfl) (by kernel_rfl) (rd_known hB_kb) (by omega)) (.cons (ldRd (j := i * 1) (by kernel_rfl) (rd_known hB_kb) (by omega) (flat_get0 encS_len known5 default i (by omega) rfl)) (.cons (fun w2 h2 => rhas_ok _ _ _ _ w2 (rdE h2 (rdE hx hr1)) (by omega)) .nil))) ?_
    clear ha a; intro a w4 ha he
    replace hx := hx.tr he
    replace hB_kb := keepB he hB_kb
    replace ho := ownE he ho
    clear he
    refine tn ?_
    refine wseq ?_
    refine reg hmix (ρ' := [(0, .slice A1 l1.length c1), (1, .slice A2 l2.length c2), (5, .slice (some ⟨kb, 0, none⟩) 5 5), (6, .slice A out.length c), (7, .int .i64 ((i : Nat) : Int)), (8, .bool (decide ((known5.getD i default) ∈ l1))), (9, .bool (decide ((known5.getD i default) ∈ l2)))]) (C := [RunOk Tryd.prog w4 (Instr.indexAt 29 (.slice (some ⟨kb, 0, none⟩) 5 5) (.int .i64 ((i : Nat) : Int))) (.pointer (some ⟨ab (some ⟨kb, 0, none⟩), ao (some ⟨kb, 0, none⟩) + i * 1, none⟩)), RunOk Tryd.prog w4 (Instr.loadAt 9 (.pointer (some ⟨ab (some ⟨kb, 0, none⟩), ao (some ⟨kb, 0, none⟩) + i * 1, none⟩))) (.string (S (known5.getD i default))), CallOk Tryd.prog w4 30 #[.slice A2 l2.length c2, .string (S (known5.getD i default))] (.bool (decide ((known5.getD i default) ∈ l2)))]) ha [(3, .val (.pointer (some ⟨ab (some ⟨kb, 0, none⟩), ao (some ⟨kb, 0, none⟩) + i * 1, none⟩))), (4, .val (.string (S (known5.getD i default)))), (5, .val (.bool (decide ((known5.getD i default) ∈ l2))))] (by kernel_rfl) (.cons (ixRd (e := 9) (by kernel_rfl) (by kernel_rfl) (rd_known hB_kb) (by omega)) (.cons (ldRd (j := i * 1) (by kernel_rfl) (rd_known hB_kb) (by omega) (flat_get0 encS_len known5 default i (by omega) rfl)) (.cons (fun w2 h2 => rhas_ok _ _ _ _ w2 (rdE h2 (rdE hx hr2)) (by omega)) .nil))) ?_
    clear ha a; intro a w5 ha he
    replace hx := hx.tr he
    replace hB_kb := keepB he hB_kb
    replace ho := ownE he ho
    clear he
    refine tn ?_
    refine wseq ?_
    refine regp (ρ' := [(0, .slice A1 l1.length c1), (1, .slice A2 l2.length c2), (5, .slice (some ⟨kb, 0, none⟩) 5 5), (6, .slice A out.length c), (7, .int .i64 ((i : Nat) : Int)), (32, .bool ((decide ((known5.getD i default) ∈ l1)) && (decide ((known5.getD i default) ∈ l2))))]) (C := []) ha [] (by kernel_rfl) .nil ?_
    clear ha a; intro a ha
    refine tn ?_
    refine wif ha rfl (fun h32 => ?_) (fun h32 => ?_)
    · simp only [Bool.not_eq_true', Bool.not_eq_false', Bool.and_eq_true, Bool.or_eq_true, Bool.and_eq_false_iff, Bool.or_eq_false_iff, decide_eq_true_eq, decide_eq_false_iff_not, Bool.not_eq_true, Decidable.not_not] at h32
      have hno_ho_kb := own_nb ho
      refine reg_list ?_
      refine segp (ρ' := [(0, .slice A1 l1.length c1), (1, .slice A2 l2.length c2), (5, .slice (some ⟨kb, 0, none⟩) 5 5), (7, .int .i64 ((i : Nat) : Int)), (33, .slice A out.length c), (37, .string (S (known5.getD i default)))]) (C := [RunOk Tryd.prog w5 (Instr.indexAt 29 (.slice (some ⟨kb, 0, none⟩) 5 5) (.int .i64 ((i : Nat) : Int))) (.pointer (some ⟨ab (some ⟨kb, 0, none⟩), ao (some ⟨kb, 0, none⟩) + i * 1, none⟩)), RunOk Tryd.prog w5 (Instr.loadAt 9 (.pointer (some ⟨ab (some ⟨kb, 0, none⟩), ao (some ⟨kb, 0, none⟩) + i * 1, none⟩))) (.string (S (known5.getD i default)))]) ha 5 [(3, .val (.pointer (some ⟨ab (some ⟨kb, 0, none⟩), ao (some ⟨kb, 0, none⟩) + i * 1, none⟩))), (4, .val (.string (S (known5.getD i default))))] rfl (by kernel_rfl) (.cons (ixRd (e := 9) (by kernel_rfl) (by kernel_rfl) (rd_known hB_kb) (by omega)) (.cons (ldRd (j := i * 1) (by kernel_rfl) (rd_known hB_kb) (by omega) (flat_get0 encS_len known5 default i (by omega) rfl)) .nil)) ?_
      clear ha a; intro a ha
      refine lnewS ha rfl (by kernel_rfl) #[.string (S (known5.getD i default))] 9 1 (by kernel_rfl) ?_
      clear ha a; intro b6 w7 he hb_b6 hB_b6 a ha
      have hne_kb_b6 : kb ≠ b6 := ne_new hB_kb hb_b6
      have hno_ho_b6 : (Value.slice A out.length c).ownBlock ≠ some b6 := own_ne ho hb_b6
      replace hB_kb := keepB he hB_kb
      replace ho := ownE he ho
      replace hb_b6 := Nat.le_trans hx.size hb_b6
      replace hx := hx.tr he
      clear he
      refine lapp (by_ := 16) ha rfl (by kernel_rfl) rfl (by kernel_rfl) rfl ho rfl [.string (S (known5.getD i default))] rfl (news_blk hB_b6) rfl (by omega) (by omega) (lt_of_at hB_kb) ?_
      clear ha a; intro A8 c9 w10 ho2 hg a ha
      clear hB_b6 hb_b6
      replace hB_kb := keepGo hg hno_ho_kb hB_kb
      replace hx := extG hx hg ho (Nat.le_succ_of_le hb_kb)
      clear hg ho
      refine segp (ρ' := [(0, .slice A1 l1.length c1), (1, .slice A2 l2.length c2), (5, .slice (some ⟨kb, 0, none⟩) 5 5), (6, .slice A8 (out.length + 1) c9), (7, .int .i64 ((i : Nat) : Int))]) (C := []) ha 1 [] rfl (by kernel_rfl) .nil ?_
      clear ha a; intro a ha
      refine lnil ?_
      replace ha := ha.sub (ρ' := [(0, .slice A1 l1.length c1), (1, .slice A2 l2.length c2), (5, .slice (some ⟨kb, 0, none⟩) 5 5), (6, .slice A8 (out.length + 1) c9), (7, .int .i64 ((i : Nat) : Int))]) (by kernel_rfl)
      rw [show (((out.flatMap encS) ++ [.string (S (known5.getD i default))]) : List Value) = ((out ++ [(known5.getD i default)]).flatMap encS) from by simp [encS]] at ho2
      rw [show ((out.length + 1) : Nat) = (out ++ [(known5.getD i default)]).length from by simp] at ha ho2
      refine bn ?_
      refine tn ?_
      refine regp (ρ' := [(0, .slice A1 l1.length c1), (1, .slice A2 l2.length c2), (5, .slice (some ⟨kb, 0, none⟩) 5 5), (6, .slice A8 ((out ++ [(known5.getD i default)]).length) c9), (7, .int .i64 ((i + 1 : Nat) : Int))]) (C := [InR .i64 ((i + 1 : Nat) : Int)]) ha [] (by kernel_rfl) (.cons (by unfold InR; omega) .nil) ?_
      clear ha a; intro a ha
      exact tn ⟨5 - ((i + 1)), by omega, (i + 1), (out ++ [(known5.getD i default)]), A8, c9, rfl, ha.sub (ρ' := [(0, .slice A1 l1.length c1), (1, .slice A2 l2.length c2), (5, .slice (some ⟨kb, 0, none⟩) 5 5), (6, .slice A8 ((out ++ [(known5.getD i default)]).length) c9), (7, .int .i64 (((i + 1) : Nat) : Int))]) (by kernel_rfl), hx, hB_kb, ho2, by omega, by rw [filt_snoc _ _ _ (by omega), ← hinv, if_pos (by simp; exact h32)], by simp; omega⟩
    · simp only [Bool.not_eq_true', Bool.not_eq_false', Bool.and_eq_true, Bool.or_eq_true, Bool.and_eq_false_iff, Bool.or_eq_false_iff, decide_eq_true_eq, decide_eq_false_iff_not, Bool.not_eq_true, Decidable.not_not] at h32
      refine wskip ?_
      refine bn ?_
      refine tn ?_
      refine regp (ρ' := [(0, .slice A1 l1.length c1), (1, .slice A2 l2.length c2), (5, .slice (some ⟨kb, 0, none⟩) 5 5), (6, .slice A out.length c), (7, .int .i64 ((i + 1 : Nat) : Int))]) (C := [InR .i64 ((i + 1 : Nat) : Int)]) ha [] (by kernel_rfl) (.cons (by unfold InR; omega) .nil) ?_
      clear ha a; intro a ha
      exact tn ⟨5 - ((i + 1)), by omega, (i + 1), out, A, c, rfl, ha.sub (ρ' := [(0, .slice A1 l1.length c1), (1, .slice A2 l2.length c2), (5, .slice (some ⟨kb, 0, none⟩) 5 5), (6, .slice A out.length c), (7, .int .i64 (((i + 1) : Nat) : Int))]) (by kernel_rfl), hx, hB_kb, ho, by omega, by rw [filt_snoc _ _ _ (by omega), ← hinv, if_neg (by intro e; simp only [Bool.and_eq_true, decide_eq_true_eq] at e; rcases h32 with h | h; exact h e.1; exact h e.2)]; simp, by omega⟩
  · replace h14 := of_decide_eq_false h14
    obtain rfl : i = 5 := by omega
    have hres : cChosen l1 l2 = out := by rw [hinv]; rfl
    refine wexit ?_
    refine (te (te (be ?_)))
    refine tn ?_
    refine wseq ?_
    refine regp (ρ' := [(4, .slice A out.length c)]) (C := []) ha [] (by kernel_rfl) .nil ?_
    clear ha a; intro a ha
    refine tn ?_
    refine wret ?_
    refine fin ha (.tmp rfl .nil) ?_
    exact ⟨_, _, by rw [hres]; rfl, by rw [hres]; exact own_rd ho, hx⟩
end Go.Kn
