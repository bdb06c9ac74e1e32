import Derived.Test.YtihmegmambmljaaDoorCd
set_option linter.unusedSimpArgs false
set_option linter.unusedVariables false
set_option maxRecDepth 100000
namespace Go.Kn
open Go.Proofs
theorem capsChooses_walk (A1 A2 : Option Addr) (c1 c2 : Nat) (l1 l2 : List (List UInt8)) (w : World) (hr1 : Rd w 1 A1 l1.length (l1.flatMap encS)) (hr2 : Rd w 1 A2 l2.length (l2.flatMap encS)) (hll1 : l1.length ≤ 9223372036854775807) (hll2 : l2.length ≤ 9223372036854775807) (hsl1 : ∀ i, i < l1.length → (l1.getD i default).length ≤ 9223372036854775807) (hsl2 : ∀ i, i < l2.length → (l2.getD i default).length ≤ 9223372036854775807) (hkn : ∀ w2, Ext w w2 → FnV Tryd.prog 19 #[] w2 (.bool true)) :
    Fn Tryd.prog 6 #[.slice A1 l1.length c1, .slice A2 l2.length c2] w (fun x w' => x = .bool true ∧ Ext w w') := by
  have hx : Ext w w := Ext.rfl' w
  refine enter (N := 63) (args := [.slice A1 l1.length c1, .slice A2 l2.length c2]) Tryd.func6 rfl rfl rfl ?_
  intro a ha
  simp only [argEnv, Nat.zero_add, Nat.reduceAdd] at ha
  refine wseq ?_
  refine regp (ρ' := [(0, .slice A1 l1.length c1), (1, .slice A2 l2.length c2)]) (C := []) ha [] (by kernel_rfl) .nil ?_
  clear ha a; intro a ha
  refine tn ?_
  refine wseq ?_
  refine reg hmix (ρ' := [(0, .slice A1 l1.length c1), (1, .slice A2 l2.length c2), (5, .bool (cFew l1))]) (C := [CallOk Tryd.prog w 18 #[.slice A1 l1.length c1] (.bool (cFew l1))]) ha [(1, .val (.bool (cFew l1)))] (by kernel_rfl) (.cons (fun w2 h2 => few10_ok _ _ l1 w2 (rdE h2 (rdE hx hr1)) hll1 hsl1) .nil) ?_
  clear ha a; intro a w1 ha he
  replace hx := hx.tr he
  clear he
  refine tn ?_
  refine wseq ?_
  refine reg hmix (ρ' := [(0, .slice A1 l1.length c1), (1, .slice A2 l2.length c2), (5, .bool (cFew l1)), (6, .bool (cFew l2))]) (C := [CallOk Tryd.prog w1 18 #[.slice A2 l2.length c2] (.bool (cFew l2))]) ha [(1, .val (.bool (cFew l2)))] (by kernel_rfl) (.cons (fun w2 h2 => few10_ok _ _ l2 w2 (rdE h2 (rdE hx hr2)) hll2 hsl2) .nil) ?_
  clear ha a; intro a w2 ha he
  replace hx := hx.tr he
  clear he
  refine tn ?_
  refine wseq ?_
  refine wseq ?_
  refine regp (ρ' := [(0, .slice A1 l1.length c1), (1, .slice A2 l2.length c2), (21, .bool ((!(cFew l1)) || (!(cFew l2))))]) (C := []) ha [] (by kernel_rfl) .nil ?_
  clear ha a; intro a ha
  refine tn ?_
  refine wif ha rfl (fun h21 => ?_) (fun h21 => ?_)
  · simp only [Bool.not_eq_true', Bool.not_eq_false', Bool.and_eq_true, Bool.or_eq_true, Bool.and_eq_false_iff, Bool.or_eq_false_iff, decide_eq_true_eq, decide_eq_false_iff_not, Bool.not_eq_true, Decidable.not_not] at h21
    refine wseq ?_
    refine reg hmix (ρ' := [(4, .bool true)]) (C := [CallOk Tryd.prog w2 19 #[] (.bool true)]) ha [(0, .val (.bool true))] (by kernel_rfl) (.cons (fun w2 h2 => hkn w2 (hx.tr h2)) .nil) ?_
    clear ha a; intro a w3 ha he
    replace hx := hx.tr he
    clear he
    refine tn ?_
    refine wret ?_
    refine (tr ?_)
    refine fin ha (.tmp rfl .nil) ?_
    exact ⟨rfl, hx⟩
  · simp only [Bool.not_eq_true', Bool.not_eq_false', Bool.and_eq_true, Bool.or_eq_true, Bool.and_eq_false_iff, Bool.or_eq_false_iff, decide_eq_true_eq, decide_eq_false_iff_not, Bool.not_eq_true, Decidable.not_not] at h21
    have hf1 := (cFew_spec (l := l1) (by simpa using h21.1)).1
    have hf2 := (cFew_spec (l := l2) (by simpa using h21.2)).1
    refine wskip ?_
    refine tn ?_
    refine wseq ?_
    refine reg_list ?_
    refine segp (ρ' := [(0, .slice A1 l1.length c1), (1, .slice A2 l2.length c2), (23, .slice A1 l1.length c1), (24, .slice A2 l2.length c2)]) (C := []) ha 2 [] rfl (by kernel_rfl) .nil ?_
    clear ha a; intro a ha
    have hcl := cChosen_len l1 l2
    refine lcall (vs := #[.slice A1 l1.length c1, .slice A2 l2.length c2]) ha rfl (by kernel_rfl) rfl rfl (by kernel_rfl) (by kernel_rfl) (choose_ok _ _ _ _ _ _ w2 (rdE hx hr1) (rdE hx hr2) (by omega) (by omega)) ?_
    clear ha a; rintro _ w7 ⟨A4, c5, rfl, hrk6, he⟩ a ha
    replace hx := hx.tr he
    clear he
    refine segp (ρ' := [(0, .slice A1 l1.length c1), (1, .slice A2 l2.length c2), (7, .slice A4 ((cChosen l1 l2).length) c5)]) (C := []) ha 1 [] rfl (by kernel_rfl) .nil ?_
    clear ha a; intro a ha
    refine lnil ?_
    replace ha := ha.sub (ρ' := [(0, .slice A1 l1.length c1), (1, .slice A2 l2.length c2), (7, .slice A4 ((cChosen l1 l2).length) c5)]) (by kernel_rfl)
    refine tn ?_
    refine wseq ?_
    refine reg_list ?_
    refine segp (ρ' := [(0, .slice A1 l1.length c1), (1, .slice A2 l2.length c2), (7, .slice A4 ((cChosen l1 l2).length) c5), (26, .slice A4 ((cChosen l1 l2).length) c5), (27, .slice A1 l1.length c1), (28, .slice A2 l2.length c2)]) (C := []) ha 3 [] rfl (by kernel_rfl) .nil ?_
    clear ha a; intro a ha
    have hcl := cChosen_len l1 l2
    refine lcall (vs := #[.slice A1 l1.length c1, .slice A2 l2.length c2]) ha rfl (by kernel_rfl) rfl rfl (by kernel_rfl) (by kernel_rfl) (rchoose_ok _ _ _ _ _ _ w7 (rdE hx hr1) (rdE hx hr2) (by omega) (by omega)) ?_
    clear ha a; rintro _ w11 ⟨A8, c9, rfl, hrk10, he⟩ a ha
    replace hrk6 := rdE he hrk6
    replace hx := hx.tr he
    clear he
    refine seg (ρ' := [(0, .slice A1 l1.length c1), (1, .slice A2 l2.length c2), (7, .slice A4 ((cChosen l1 l2).length) c5), (8, .bool (decide ((cChosen l1 l2) = (cChosen l1 l2))))]) (C := [CallOk Tryd.prog w11 21 #[.slice A4 ((cChosen l1 l2).length) c5, .slice A8 ((cChosen l1 l2).length) c9] (.bool (decide ((cChosen l1 l2) = (cChosen l1 l2))))]) ha 2 [(0, .val (.bool (decide ((cChosen l1 l2) = (cChosen l1 l2)))))] (by kernel_rfl) (.cons (fun w2 h2 => same10_ok _ _ _ _ (cChosen l1 l2) (cChosen l1 l2) w2 (rdE h2 hrk6) (rdE h2 hrk10) (by omega) (by omega)) .nil) ?_
    clear ha a; intro a w12 ha he
    replace hx := hx.tr he
    replace hrk6 := rdE he hrk6
    replace hrk10 := rdE he hrk10
    clear he
    refine lnil ?_
    replace ha := ha.sub (ρ' := [(0, .slice A1 l1.length c1), (1, .slice A2 l2.length c2), (7, .slice A4 ((cChosen l1 l2).length) c5), (8, .bool (decide ((cChosen l1 l2) = (cChosen l1 l2))))]) (by kernel_rfl)
    refine tn ?_
    refine wseq ?_
    refine reg_list ?_
    refine segp (ρ' := [(0, .slice A1 l1.length c1), (1, .slice A2 l2.length c2), (7, .slice A4 ((cChosen l1 l2).length) c5), (8, .bool (decide ((cChosen l1 l2) = (cChosen l1 l2)))), (31, .slice A4 ((cChosen l1 l2).length) c5), (32, .slice A2 l2.length c2), (33, .slice A1 l1.length c1)]) (C := []) ha 3 [] rfl (by kernel_rfl) .nil ?_
    clear ha a; intro a ha
    have hcl := cChosen_len l2 l1
    refine lcall (vs := #[.slice A2 l2.length c2, .slice A1 l1.length c1]) ha rfl (by kernel_rfl) rfl rfl (by kernel_rfl) (by kernel_rfl) (choose_ok _ _ _ _ _ _ w12 (rdE hx hr2) (rdE hx hr1) (by omega) (by omega)) ?_
    clear ha a; rintro _ w16 ⟨A13, c14, rfl, hrk15, he⟩ a ha
    replace hrk6 := rdE he hrk6
    replace hrk10 := rdE he hrk10
    replace hx := hx.tr he
    clear he
    refine seg (ρ' := [(0, .slice A1 l1.length c1), (1, .slice A2 l2.length c2), (7, .slice A4 ((cChosen l1 l2).length) c5), (8, .bool (decide ((cChosen l1 l2) = (cChosen l1 l2)))), (9, .bool (decide ((cChosen l1 l2) = (cChosen l2 l1))))]) (C := [CallOk Tryd.prog w16 21 #[.slice A4 ((cChosen l1 l2).length) c5, .slice A13 ((cChosen l2 l1).length) c14] (.bool (decide ((cChosen l1 l2) = (cChosen l2 l1))))]) ha 2 [(0, .val (.bool (decide ((cChosen l1 l2) = (cChosen l2 l1)))))] (by kernel_rfl) (.cons (fun w2 h2 => same10_ok _ _ _ _ (cChosen l1 l2) (cChosen l2 l1) w2 (rdE h2 hrk6) (rdE h2 hrk15) (by omega) (by omega)) .nil) ?_
    clear ha a; intro a w17 ha he
    replace hx := hx.tr he
    replace hrk6 := rdE he hrk6
    replace hrk10 := rdE he hrk10
    replace hrk15 := rdE he hrk15
    clear he
    refine lnil ?_
    replace ha := ha.sub (ρ' := [(0, .slice A1 l1.length c1), (1, .slice A2 l2.length c2), (7, .slice A4 ((cChosen l1 l2).length) c5), (8, .bool (decide ((cChosen l1 l2) = (cChosen l1 l2)))), (9, .bool (decide ((cChosen l1 l2) = (cChosen l2 l1))))]) (by kernel_rfl)
    refine tn ?_
    refine wseq ?_
    refine reg_list ?_
    refine segp (ρ' := [(1, .slice A2 l2.length c2), (7, .slice A4 ((cChosen l1 l2).length) c5), (8, .bool (decide ((cChosen l1 l2) = (cChosen l1 l2)))), (9, .bool (decide ((cChosen l1 l2) = (cChosen l2 l1)))), (36, .slice A4 ((cChosen l1 l2).length) c5), (37, .slice A4 ((cChosen l1 l2).length) c5), (38, .slice A1 l1.length c1)]) (C := []) ha 3 [] rfl (by kernel_rfl) .nil ?_
    clear ha a; intro a ha
    have hcl := cChosen_len (cChosen l1 l2) l1
    refine lcall (vs := #[.slice A4 ((cChosen l1 l2).length) c5, .slice A1 l1.length c1]) ha rfl (by kernel_rfl) rfl rfl (by kernel_rfl) (by kernel_rfl) (choose_ok _ _ _ _ _ _ w17 hrk6 (rdE hx hr1) (by omega) (by omega)) ?_
    clear ha a; rintro _ w21 ⟨A18, c19, rfl, hrk20, he⟩ a ha
    replace hrk6 := rdE he hrk6
    replace hrk10 := rdE he hrk10
    replace hrk15 := rdE he hrk15
    replace hx := hx.tr he
    clear he
    refine seg (ρ' := [(1, .slice A2 l2.length c2), (7, .slice A4 ((cChosen l1 l2).length) c5), (8, .bool (decide ((cChosen l1 l2) = (cChosen l1 l2)))), (9, .bool (decide ((cChosen l1 l2) = (cChosen l2 l1)))), (10, .bool (decide ((cChosen l1 l2) = (cChosen (cChosen l1 l2) l1))))]) (C := [CallOk Tryd.prog w21 21 #[.slice A4 ((cChosen l1 l2).length) c5, .slice A18 ((cChosen (cChosen l1 l2) l1).length) c19] (.bool (decide ((cChosen l1 l2) = (cChosen (cChosen l1 l2) l1))))]) ha 2 [(0, .val (.bool (decide ((cChosen l1 l2) = (cChosen (cChosen l1 l2) l1)))))] (by kernel_rfl) (.cons (fun w2 h2 => same10_ok _ _ _ _ (cChosen l1 l2) (cChosen (cChosen l1 l2) l1) w2 (rdE h2 hrk6) (rdE h2 hrk20) (by omega) (by omega)) .nil) ?_
    clear ha a; intro a w22 ha he
    replace hx := hx.tr he
    replace hrk6 := rdE he hrk6
    replace hrk10 := rdE he hrk10
    replace hrk15 := rdE he hrk15
    replace hrk20 := rdE he hrk20
    clear he
    refine lnil ?_
    replace ha := ha.sub (ρ' := [(1, .slice A2 l2.length c2), (7, .slice A4 ((cChosen l1 l2).length) c5), (8, .bool (decide ((cChosen l1 l2) = (cChosen l1 l2)))), (9, .bool (decide ((cChosen l1 l2) = (cChosen l2 l1)))), (10, .bool (decide ((cChosen l1 l2) = (cChosen (cChosen l1 l2) l1))))]) (by kernel_rfl)
    refine tn ?_
    refine wseq ?_
    refine reg_list ?_
    refine segp (ρ' := [(7, .slice A4 ((cChosen l1 l2).length) c5), (8, .bool (decide ((cChosen l1 l2) = (cChosen l1 l2)))), (9, .bool (decide ((cChosen l1 l2) = (cChosen l2 l1)))), (10, .bool (decide ((cChosen l1 l2) = (cChosen (cChosen l1 l2) l1)))), (41, .slice A4 ((cChosen l1 l2).length) c5), (42, .slice A2 l2.length c2), (43, .slice A4 ((cChosen l1 l2).length) c5)]) (C := []) ha 3 [] rfl (by kernel_rfl) .nil ?_
    clear ha a; intro a ha
    have hcl := cChosen_len l2 (cChosen l1 l2)
    refine lcall (vs := #[.slice A2 l2.length c2, .slice A4 ((cChosen l1 l2).length) c5]) ha rfl (by kernel_rfl) rfl rfl (by kernel_rfl) (by kernel_rfl) (choose_ok _ _ _ _ _ _ w22 (rdE hx hr2) hrk6 (by omega) (by omega)) ?_
    clear ha a; rintro _ w26 ⟨A23, c24, rfl, hrk25, he⟩ a ha
    replace hrk6 := rdE he hrk6
    replace hrk10 := rdE he hrk10
    replace hrk15 := rdE he hrk15
    replace hrk20 := rdE he hrk20
    replace hx := hx.tr he
    clear he
    refine seg (ρ' := [(7, .slice A4 ((cChosen l1 l2).length) c5), (8, .bool (decide ((cChosen l1 l2) = (cChosen l1 l2)))), (9, .bool (decide ((cChosen l1 l2) = (cChosen l2 l1)))), (10, .bool (decide ((cChosen l1 l2) = (cChosen (cChosen l1 l2) l1)))), (11, .bool (decide ((cChosen l1 l2) = (cChosen l2 (cChosen l1 l2)))))]) (C := [CallOk Tryd.prog w26 21 #[.slice A4 ((cChosen l1 l2).length) c5, .slice A23 ((cChosen l2 (cChosen l1 l2)).length) c24] (.bool (decide ((cChosen l1 l2) = (cChosen l2 (cChosen l1 l2)))))]) ha 2 [(0, .val (.bool (decide ((cChosen l1 l2) = (cChosen l2 (cChosen l1 l2))))))] (by kernel_rfl) (.cons (fun w2 h2 => same10_ok _ _ _ _ (cChosen l1 l2) (cChosen l2 (cChosen l1 l2)) w2 (rdE h2 hrk6) (rdE h2 hrk25) (by omega) (by omega)) .nil) ?_
    clear ha a; intro a w27 ha he
    replace hx := hx.tr he
    replace hrk6 := rdE he hrk6
    replace hrk10 := rdE he hrk10
    replace hrk15 := rdE he hrk15
    replace hrk20 := rdE he hrk20
    replace hrk25 := rdE he hrk25
    clear he
    refine lnil ?_
    replace ha := ha.sub (ρ' := [(7, .slice A4 ((cChosen l1 l2).length) c5), (8, .bool (decide ((cChosen l1 l2) = (cChosen l1 l2)))), (9, .bool (decide ((cChosen l1 l2) = (cChosen l2 l1)))), (10, .bool (decide ((cChosen l1 l2) = (cChosen (cChosen l1 l2) l1)))), (11, .bool (decide ((cChosen l1 l2) = (cChosen l2 (cChosen l1 l2)))))]) (by kernel_rfl)
    refine tn ?_
    refine wseq ?_
    refine reg hmix (ρ' := [(4, .bool (((((true && (decide ((cChosen l1 l2) = (cChosen l1 l2)))) && (decide ((cChosen l1 l2) = (cChosen l2 l1)))) && (decide ((cChosen l1 l2) = (cChosen (cChosen l1 l2) l1)))) && (decide ((cChosen l1 l2) = (cChosen l2 (cChosen l1 l2))))) && (cFine (cChosen l1 l2))))]) (C := [CallOk Tryd.prog w27 19 #[] (.bool true), ((((true && (decide ((cChosen l1 l2) = (cChosen l1 l2)))) && (decide ((cChosen l1 l2) = (cChosen l2 l1)))) && (decide ((cChosen l1 l2) = (cChosen (cChosen l1 l2) l1)))) && (decide ((cChosen l1 l2) = (cChosen l2 (cChosen l1 l2))))) = true → All [CallOk Tryd.prog w27 23 #[.slice A4 ((cChosen l1 l2).length) c5] (.bool (cFine (cChosen l1 l2)))]]) ha [(0, .val (.bool true)), (15, .val (.bool (cFine (cChosen l1 l2))))] (by kernel_rfl) (.cons (fun w2 h2 => hkn w2 (hx.tr h2)) (.cons (fun hg14 => by simp only [Bool.not_eq_true', Bool.not_eq_false', Bool.and_eq_true, Bool.or_eq_true, Bool.and_eq_false_iff, Bool.or_eq_false_iff, decide_eq_true_eq, decide_eq_false_iff_not, Bool.not_eq_true, Decidable.not_not] at hg14; exact (.cons (fun w2 h2 => fine_ok _ _ (cChosen l1 l2) w2 (rdE h2 hrk6) (by omega) (cChosen_small _ _)) .nil)) .nil)) ?_
    clear ha a; intro a w28 ha he
    replace hx := hx.tr he
    replace hrk6 := rdE he hrk6
    replace hrk10 := rdE he hrk10
    replace hrk15 := rdE he hrk15
    replace hrk20 := rdE he hrk20
    replace hrk25 := rdE he hrk25
    clear he
    refine tn ?_
    refine wret ?_
    refine fin ha (.tmp rfl .nil) ?_
    exact ⟨congrArg Value.bool (by rw [cChosen_comm l1 l2, cChosen_again, cChosen_once, cChosen_fine]; simp), hx⟩
end Go.Kn
