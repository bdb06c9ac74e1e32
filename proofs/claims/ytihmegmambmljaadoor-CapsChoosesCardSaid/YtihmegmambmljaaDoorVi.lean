import Derived.Test.YtihmegmambmljaaDoorPlainS
import Derived.Test.YtihmegmambmljaaDoorVc
set_option linter.unusedSimpArgs false
set_option linter.unusedVariables false
set_option maxRecDepth 100000
namespace Go.Kn
open Go.Proofs
theorem sindex_ok (A : Option Addr) (c : Nat) (l : List (List UInt8)) (x : List UInt8) (w : World) (hr : Rd w 1 A l.length (l.flatMap encS)) (hl : l.length ≤ 9223372036854775807) :
    Fn Tryd.prog 74 #[.slice A l.length c, .string (S x)] w (fun v w' => v = .int .i64 (sIdx l x) ∧ Ext w w') := by
  have hx : Ext w w := Ext.rfl' w
  refine enter (N := 19) (args := [.slice A l.length c, .string (S x)]) Tryd.func74 rfl rfl rfl ?_
  intro a ha
  simp only [argEnv, Nat.zero_add, Nat.reduceAdd] at ha
  refine wseq ?_
  refine regp (ρ' := [(0, .slice A l.length c), (1, .string (S x))]) (C := []) ha [] (by kernel_rfl) .nil ?_
  clear ha a; intro a ha
  refine tn ?_
  refine wseq ?_
  refine wseq ?_
  refine regp (ρ' := [(0, .slice A l.length c), (1, .string (S x)), (7, .int .i64 ((l.length : Nat) : Int)), (8, .int .i64 0)]) (C := []) ha [] (by kernel_rfl) .nil ?_
  clear ha a; intro a ha
  refine tn ?_
  refine wblk ?_
  refine wloop (fun zz a w1 => ∃ (i : Nat), zz = l.length - i ∧ On 19 [(0, .slice A l.length c), (1, .string (S x)), (7, .int .i64 ((l.length : Nat) : Int)), (8, .int .i64 ((i : Nat) : Int))] a ∧ Ext w w1 ∧ (i ≤ l.length) ∧ (∀ j, j < i → l.getD j default ≠ x)) _ ⟨0, rfl, ha.sub (ρ' := [(0, .slice A l.length c), (1, .string (S x)), (7, .int .i64 ((l.length : Nat) : Int)), (8, .int .i64 ((0 : Nat) : Int))]) (by kernel_rfl), hx, by omega, fun j hj => absurd hj (by omega)⟩ ?_
  clear ha hx
  rintro zz a w2 ⟨i, hzz, ha, hx, hi, hn⟩
  refine wseq ?_
  refine regp (ρ' := [(0, .slice A l.length c), (1, .string (S x)), (7, .int .i64 ((l.length : Nat) : Int)), (8, .int .i64 ((i : Nat) : Int)), (9, .bool (decide (((i : Nat) : Int) < ((l.length : Nat) : Int))))]) (C := []) ha [] (by kernel_rfl) .nil ?_
  clear ha a; intro a ha
  refine tn ?_
  refine wseq ?_
  refine wif ha rfl (fun h9 => ?_) (fun h9 => ?_)
  · replace h9 := of_decide_eq_true h9
    refine wskip ?_
    refine tn ?_
    refine wseq ?_
    refine wblk ?_
    refine wseq ?_
    refine regp (ρ' := [(0, .slice A l.length c), (1, .string (S x)), (5, .int .i64 ((i : Nat) : Int)), (7, .int .i64 ((l.length : Nat) : Int)), (8, .int .i64 ((i : Nat) : Int))]) (C := []) ha [] (by kernel_rfl) .nil ?_
    clear ha a; intro a ha
    refine tn ?_
    refine wseq ?_
    refine regp (ρ' := [(0, .slice A l.length c), (1, .string (S x)), (5, .int .i64 ((i : Nat) : Int)), (7, .int .i64 ((l.length : Nat) : Int)), (8, .int .i64 ((i : Nat) : Int)), (16, .bool (decide ((x : List UInt8) = ((l.getD i default) : List UInt8))))]) (C := [RunOk Tryd.prog w2 (Instr.indexAt 29 (.slice A l.length c) (.int .i64 ((i : Nat) : Int))) (.pointer (some ⟨ab A, ao A + i * 1, none⟩)), RunOk Tryd.prog w2 (Instr.loadAt 9 (.pointer (some ⟨ab A, ao A + i * 1, none⟩))) (.string (S (l.getD i default)))]) ha [(3, .val (.pointer (some ⟨ab A, ao A + i * 1, none⟩))), (4, .val (.string (S (l.getD i default))))] (by kernel_rfl) (.cons (ixRd (e := 9) (by kernel_rfl) (by kernel_rfl) (rdE hx hr) (by omega)) (.cons (ldRd (j := i * 1) (by kernel_rfl) (rdE hx hr) (by omega) (flat_get0 encS_len l default i (by omega) rfl)) .nil)) ?_
    clear ha a; intro a ha
    refine tn ?_
    refine wif ha rfl (fun h16 => ?_) (fun h16 => ?_)
    · replace h16 := of_decide_eq_true h16
      have hres := sIdx_at hn (by omega) h16.symm
      refine wseq ?_
      refine regp (ρ' := [(4, .int .i64 ((i : Nat) : Int))]) (C := []) ha [] (by kernel_rfl) .nil ?_
      clear ha a; intro a ha
      refine tn ?_
      refine wret ?_
      refine (br (tr (tr (br (tr ?_)))))
      refine fin ha (.tmp rfl .nil) ?_
      exact ⟨by rw [hres]; rfl, hx⟩
    · replace h16 := of_decide_eq_false h16
      refine wskip ?_
      refine bn ?_
      refine tn ?_
      refine regp (ρ' := [(0, .slice A l.length c), (1, .string (S x)), (7, .int .i64 ((l.length : Nat) : Int)), (8, .int .i64 ((i + 1 : Nat) : Int))]) (C := [InR .i64 ((i + 1 : Nat) : Int)]) ha [] (by kernel_rfl) (.cons (by unfold InR; omega) .nil) ?_
      clear ha a; intro a ha
      exact tn ⟨l.length - ((i + 1)), by omega, (i + 1), rfl, ha.sub (ρ' := [(0, .slice A l.length c), (1, .string (S x)), (7, .int .i64 ((l.length : Nat) : Int)), (8, .int .i64 (((i + 1) : Nat) : Int))]) (by kernel_rfl), hx, by omega, fun j hj => (Nat.lt_or_ge j i).elim (hn j) (fun h => (show j = i by omega) ▸ (by first | assumption | exact fun e => h16 e.symm))⟩
  · replace h9 := of_decide_eq_false h9
    obtain rfl : i = l.length := by omega
    have hres := sIdx_no hn
    refine wexit ?_
    refine (te (te (be ?_)))
    refine tn ?_
    refine wseq ?_
    refine regp (ρ' := [(4, .int .i64 (-1))]) (C := []) ha [] (by kernel_rfl) .nil ?_
    clear ha a; intro a ha
    refine tn ?_
    refine wret ?_
    refine fin ha (.tmp rfl .nil) ?_
    exact ⟨by rw [hres]; rfl, hx⟩
theorem scontains_ok (A : Option Addr) (c : Nat) (l : List (List UInt8)) (x : List UInt8) (w : World) (hr : Rd w 1 A l.length (l.flatMap encS)) (hl : l.length ≤ 9223372036854775807) :
    Fn Tryd.prog 49 #[.slice A l.length c, .string (S x)] w (fun v w' => v = .bool (decide (x ∈ l)) ∧ Ext w w') := by
  have hx : Ext w w := Ext.rfl' w
  refine enter (N := 9) (args := [.slice A l.length c, .string (S x)]) Tryd.func49 rfl rfl rfl ?_
  intro a ha
  simp only [argEnv, Nat.zero_add, Nat.reduceAdd] at ha
  refine wseq ?_
  refine regp (ρ' := [(0, .slice A l.length c), (1, .string (S x))]) (C := []) ha [] (by kernel_rfl) .nil ?_
  clear ha a; intro a ha
  refine tn ?_
  refine wseq ?_
  refine reg hmix (ρ' := [(4, .bool (decide ((0 : Int) ≤ (sIdx l x))))]) (C := [CallOk Tryd.prog w 74 #[.slice A l.length c, .string (S x)] (.int .i64 (sIdx l x))]) ha [(2, .val (.int .i64 (sIdx l x)))] (by kernel_rfl) (.cons (fun w2 h2 => sindex_ok _ _ _ _ w2 (rdE h2 (rdE hx hr)) (by omega)) .nil) ?_
  clear ha a; intro a w1 ha he
  replace hx := hx.tr he
  clear he
  refine tn ?_
  refine wret ?_
  refine fin ha (.tmp rfl .nil) ?_
  exact ⟨congrArg Value.bool (sIdx_in l x), hx⟩
theorem chas_ok (A : Option Addr) (c : Nat) (l : List (List UInt8)) (x : List UInt8) (w : World) (hr : Rd w 1 A l.length (l.flatMap encS)) (hl : l.length ≤ 9223372036854775807) :
    Fn Tryd.prog 29 #[.slice A l.length c, .string (S x)] w (fun v w' => v = .bool (decide (x ∈ l)) ∧ Ext w w') := by
  have hx : Ext w w := Ext.rfl' w
  refine enter (N := 8) (args := [.slice A l.length c, .string (S x)]) Tryd.func29 rfl rfl rfl ?_
  intro a ha
  simp only [argEnv, Nat.zero_add, Nat.reduceAdd] at ha
  refine wseq ?_
  refine regp (ρ' := [(0, .slice A l.length c), (1, .string (S x))]) (C := []) ha [] (by kernel_rfl) .nil ?_
  clear ha a; intro a ha
  refine tn ?_
  refine wseq ?_
  refine reg hmix (ρ' := [(4, .bool (decide (x ∈ l)))]) (C := [CallOk Tryd.prog w 49 #[.slice A l.length c, .string (S x)] (.bool (decide (x ∈ l)))]) ha [(2, .val (.bool (decide (x ∈ l))))] (by kernel_rfl) (.cons (fun w2 h2 => scontains_ok _ _ _ _ w2 (rdE h2 (rdE hx hr)) (by omega)) .nil) ?_
  clear ha a; intro a w1 ha he
  replace hx := hx.tr he
  clear he
  refine tn ?_
  refine wret ?_
  refine fin ha (.tmp rfl .nil) ?_
  exact ⟨rfl, hx⟩
theorem rhas_ok (A : Option Addr) (c : Nat) (l : List (List UInt8)) (x : List UInt8) (w : World) (hr : Rd w 1 A l.length (l.flatMap encS)) (hl : l.length ≤ 9223372036854775807) :
    Fn Tryd.prog 30 #[.slice A l.length c, .string (S x)] w (fun v w' => v = .bool (decide (x ∈ l)) ∧ Ext w w') := by
  have hx : Ext w w := Ext.rfl' w
  refine enter (N := 18) (args := [.slice A l.length c, .string (S x)]) Tryd.func30 rfl rfl rfl ?_
  intro a ha
  simp only [argEnv, Nat.zero_add, Nat.reduceAdd] at ha
  refine wseq ?_
  refine regp (ρ' := [(0, .slice A l.length c), (1, .string (S x))]) (C := []) ha [] (by kernel_rfl) .nil ?_
  clear ha a; intro a ha
  refine tn ?_
  refine wseq ?_
  refine wseq ?_
  refine regp (ρ' := [(0, .slice A l.length c), (1, .string (S x)), (5, .int .i64 0)]) (C := []) ha [] (by kernel_rfl) .nil ?_
  clear ha a; intro a ha
  refine tn ?_
  refine wblk ?_
  refine wloop (fun zz a w1 => ∃ (i : Nat), zz = l.length - i ∧ On 18 [(0, .slice A l.length c), (1, .string (S x)), (5, .int .i64 ((i : Nat) : Int))] a ∧ Ext w w1 ∧ (i ≤ l.length) ∧ (∀ j, j < i → l.getD j default ≠ x)) _ ⟨0, rfl, ha.sub (ρ' := [(0, .slice A l.length c), (1, .string (S x)), (5, .int .i64 ((0 : Nat) : Int))]) (by kernel_rfl), hx, by omega, fun j hj => absurd hj (by omega)⟩ ?_
  clear ha hx
  rintro zz a w2 ⟨i, hzz, ha, hx, hi, hn⟩
  refine wseq ?_
  refine wseq ?_
  refine regp (ρ' := [(0, .slice A l.length c), (1, .string (S x)), (5, .int .i64 ((i : Nat) : Int)), (9, .bool (decide (((i : Nat) : Int) < ((l.length : Nat) : Int))))]) (C := []) ha [] (by kernel_rfl) .nil ?_
  clear ha a; intro a ha
  refine tn ?_
  refine wif ha rfl (fun h9 => ?_) (fun h9 => ?_)
  · replace h9 := of_decide_eq_true h9
    refine wskip ?_
    refine tn ?_
    refine wseq ?_
    refine wblk ?_
    refine wseq ?_
    refine regp (ρ' := [(0, .slice A l.length c), (1, .string (S x)), (5, .int .i64 ((i : Nat) : Int)), (17, .bool (decide (((l.getD i default) : List UInt8) = (x : List UInt8))))]) (C := [RunOk Tryd.prog w2 (Instr.indexAt 29 (.slice A l.length c) (.int .i64 ((i : Nat) : Int))) (.pointer (some ⟨ab A, ao A + i * 1, none⟩)), RunOk Tryd.prog w2 (Instr.loadAt 9 (.pointer (some ⟨ab A, ao A + i * 1, none⟩))) (.string (S (l.getD i default)))]) ha [(2, .val (.pointer (some ⟨ab A, ao A + i * 1, none⟩))), (3, .val (.string (S (l.getD i default))))] (by kernel_rfl) (.cons (ixRd (e := 9) (by kernel_rfl) (by kernel_rfl) (rdE hx hr) (by omega)) (.cons (ldRd (j := i * 1) (by kernel_rfl) (rdE hx hr) (by omega) (flat_get0 encS_len l default i (by omega) rfl)) .nil)) ?_
    clear ha a; intro a ha
    refine tn ?_
    refine wif ha rfl (fun h17 => ?_) (fun h17 => ?_)
    · replace h17 := of_decide_eq_true h17
      have hres : decide (x ∈ l) = true := decide_eq_true (mem_at (by omega) h17)
      refine wseq ?_
      refine regp (ρ' := [(4, .bool true)]) (C := []) ha [] (by kernel_rfl) .nil ?_
      clear ha a; intro a ha
      refine tn ?_
      refine wret ?_
      refine (br (tr (tr (br (tr ?_)))))
      refine fin ha (.tmp rfl .nil) ?_
      exact ⟨congrArg Value.bool hres.symm, hx⟩
    · replace h17 := of_decide_eq_false h17
      refine wskip ?_
      refine bn ?_
      refine tn ?_
      refine regp (ρ' := [(0, .slice A l.length c), (1, .string (S x)), (5, .int .i64 ((i + 1 : Nat) : Int))]) (C := [InR .i64 ((i + 1 : Nat) : Int)]) ha [] (by kernel_rfl) (.cons (by unfold InR; omega) .nil) ?_
      clear ha a; intro a ha
      exact tn ⟨l.length - ((i + 1)), by omega, (i + 1), rfl, ha.sub (ρ' := [(0, .slice A l.length c), (1, .string (S x)), (5, .int .i64 (((i + 1) : Nat) : Int))]) (by kernel_rfl), hx, by omega, fun j hj => (Nat.lt_or_ge j i).elim (hn j) (fun h => (show j = i by omega) ▸ (by first | assumption | exact fun e => h16 e.symm))⟩
  · replace h9 := of_decide_eq_false h9
    obtain rfl : i = l.length := by omega
    have hres : decide (x ∈ l) = false := decide_eq_false (mem_no hn)
    refine wexit ?_
    refine (te (te (be ?_)))
    refine tn ?_
    refine wseq ?_
    refine regp (ρ' := [(4, .bool false)]) (C := []) ha [] (by kernel_rfl) .nil ?_
    clear ha a; intro a ha
    refine tn ?_
    refine wret ?_
    refine fin ha (.tmp rfl .nil) ?_
    exact ⟨congrArg Value.bool hres.symm, hx⟩
theorem few10_ok (A : Option Addr) (c : Nat) (l : List (List UInt8)) (w : World) (hr : Rd w 1 A l.length (l.flatMap encS)) (hl : l.length ≤ 9223372036854775807) (hs : ∀ i, i < l.length → (l.getD i default).length ≤ 9223372036854775807) :
    Fn Tryd.prog 18 #[.slice A l.length c] w (fun v w' => v = .bool (cFew l) ∧ Ext w w') := by
  have hx : Ext w w := Ext.rfl' w
  refine enter (N := 23) (args := [.slice A l.length c]) Tryd.func18 rfl rfl rfl ?_
  intro a ha
  simp only [argEnv, Nat.zero_add, Nat.reduceAdd] at ha
  refine wseq ?_
  refine regp (ρ' := [(0, .slice A l.length c)]) (C := []) ha [] (by kernel_rfl) .nil ?_
  clear ha a; intro a ha
  refine tn ?_
  refine wseq ?_
  refine wseq ?_
  refine regp (ρ' := [(0, .slice A l.length c), (3, .int .i64 0)]) (C := []) ha [] (by kernel_rfl) .nil ?_
  clear ha a; intro a ha
  refine tn ?_
  refine wblk ?_
  refine wloop (fun zz a w1 => ∃ (i : Nat), zz = l.length - i ∧ On 23 [(0, .slice A l.length c), (3, .int .i64 ((i : Nat) : Int))] a ∧ Ext w w1 ∧ (i ≤ l.length) ∧ (∀ j, j < i → (l.getD j default).length ≤ 100)) _ ⟨0, rfl, ha.sub (ρ' := [(0, .slice A l.length c), (3, .int .i64 ((0 : Nat) : Int))]) (by kernel_rfl), hx, by omega, fun j hj => absurd hj (by omega)⟩ ?_
  clear ha hx
  rintro zz a w2 ⟨i, hzz, ha, hx, hi, hn⟩
  refine wseq ?_
  refine wseq ?_
  refine regp (ρ' := [(0, .slice A l.length c), (3, .int .i64 ((i : Nat) : Int)), (11, .bool ((decide (((i : Nat) : Int) < ((l.length : Nat) : Int))) && (decide (((i : Nat) : Int) < 30))))]) (C := []) ha [] (by kernel_rfl) .nil ?_
  clear ha a; intro a ha
  refine tn ?_
  refine wif ha rfl (fun h11 => ?_) (fun h11 => ?_)
  · simp only [Bool.not_eq_true', Bool.not_eq_false', Bool.and_eq_true, Bool.or_eq_true, Bool.and_eq_false_iff, Bool.or_eq_false_iff, decide_eq_true_eq, decide_eq_false_iff_not, Bool.not_eq_true, Decidable.not_not] at h11
    refine wskip ?_
    refine tn ?_
    refine wseq ?_
    refine wblk ?_
    refine wseq ?_
    refine regp (ρ' := [(0, .slice A l.length c), (3, .int .i64 ((i : Nat) : Int)), (19, .bool (decide ((100 : Int) < (((l.getD i default).length : Nat) : Int))))]) (C := [RunOk Tryd.prog w2 (Instr.indexAt 29 (.slice A l.length c) (.int .i64 ((i : Nat) : Int))) (.pointer (some ⟨ab A, ao A + i * 1, none⟩)), RunOk Tryd.prog w2 (Instr.loadAt 9 (.pointer (some ⟨ab A, ao A + i * 1, none⟩))) (.string (S (l.getD i default)))]) ha [(2, .val (.pointer (some ⟨ab A, ao A + i * 1, none⟩))), (3, .val (.string (S (l.getD i default))))] (by kernel_rfl) (.cons (ixRd (e := 9) (by kernel_rfl) (by kernel_rfl) (rdE hx hr) (by omega)) (.cons (ldRd (j := i * 1) (by kernel_rfl) (rdE hx hr) (by omega) (flat_get0 encS_len l default i (by omega) rfl)) .nil)) ?_
    clear ha a; intro a ha
    refine tn ?_
    refine wif ha rfl (fun h19 => ?_) (fun h19 => ?_)
    · replace h19 := of_decide_eq_true h19
      have hres : cFew l = false := cFew_bad (i := i) (by omega) (by omega)
      refine wseq ?_
      refine regp (ρ' := [(2, .bool false)]) (C := []) ha [] (by kernel_rfl) .nil ?_
      clear ha a; intro a ha
      refine tn ?_
      refine wret ?_
      refine (br (tr (tr (br (tr ?_)))))
      refine fin ha (.tmp rfl .nil) ?_
      exact ⟨congrArg Value.bool (by rw [hres] <;> (apply decide_eq_decide.2; omega)), hx⟩
    · replace h19 := of_decide_eq_false h19
      refine wskip ?_
      refine bn ?_
      refine tn ?_
      refine regp (ρ' := [(0, .slice A l.length c), (3, .int .i64 ((i + 1 : Nat) : Int))]) (C := [InR .i64 ((i + 1 : Nat) : Int)]) ha [] (by kernel_rfl) (.cons (by unfold InR; omega) .nil) ?_
      clear ha a; intro a ha
      exact tn ⟨l.length - ((i + 1)), by omega, (i + 1), rfl, ha.sub (ρ' := [(0, .slice A l.length c), (3, .int .i64 (((i + 1) : Nat) : Int))]) (by kernel_rfl), hx, by omega, fun j hj => (Nat.lt_or_ge j i).elim (hn j) (fun h => (show j = i by omega) ▸ (by omega))⟩
  · simp only [Bool.not_eq_true', Bool.not_eq_false', Bool.and_eq_true, Bool.or_eq_true, Bool.and_eq_false_iff, Bool.or_eq_false_iff, decide_eq_true_eq, decide_eq_false_iff_not, Bool.not_eq_true, Decidable.not_not] at h11
    have hres : cFew l = decide (l.length ≤ 30) := cFew_len hn (by omega)
    refine wexit ?_
    refine (te (te (be ?_)))
    refine tn ?_
    refine wseq ?_
    refine regp (ρ' := [(2, .bool (decide (((l.length : Nat) : Int) ≤ 30)))]) (C := []) ha [] (by kernel_rfl) .nil ?_
    clear ha a; intro a ha
    refine tn ?_
    refine wret ?_
    refine fin ha (.tmp rfl .nil) ?_
    exact ⟨congrArg Value.bool (by rw [hres] <;> (apply decide_eq_decide.2; omega)), hx⟩
end Go.Kn
