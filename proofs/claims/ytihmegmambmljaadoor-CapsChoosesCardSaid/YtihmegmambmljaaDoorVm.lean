import Derived.Test.YtihmegmambmljaaDoorCe
import Derived.Test.YtihmegmambmljaaDoorVl
set_option linter.unusedSimpArgs false
set_option linter.unusedVariables false
set_option maxRecDepth 100000
namespace Go.Kn
open Go.Proofs
theorem getbt_ok (m : Int) (w : World) (hm : w.cell? ⟨1, 0, none⟩ = some (.int .i64 m)) :
    Fn Tryd.prog 27 #[.string (S [98, 97, 110, 100, 32, 116, 104, 105, 110])] w (fun v w' => ∃ A c, v = .tuple #[.slice A 2 c, .int .i64 0] ∧ Ext w w') := by
  have hsp : cSplit [98, 97, 110, 100, 32, 116, 104, 105, 110] = ([[98, 97, 110, 100], [116, 104, 105, 110]] : List (List UInt8)) := by decide +kernel
  have hfi : cFine ([[98, 97, 110, 100], [116, 104, 105, 110]] : List (List UInt8)) = true := by decide +kernel
  have hx : Ext w w := Ext.rfl' w
  refine enter (N := 13) (args := [.string (S [98, 97, 110, 100, 32, 116, 104, 105, 110])]) Tryd.func27 rfl rfl rfl ?_
  intro a ha
  simp only [argEnv, Nat.zero_add, Nat.reduceAdd] at ha
  refine wseq ?_
  refine regp (ρ' := [(0, .string (S [98, 97, 110, 100, 32, 116, 104, 105, 110]))]) (C := []) ha [] (by kernel_rfl) .nil ?_
  clear ha a; intro a ha
  refine tn ?_
  refine wseq ?_
  refine wseq ?_
  refine regp (ρ' := [(0, .string (S [98, 97, 110, 100, 32, 116, 104, 105, 110])), (6, .bool (decide (([98, 97, 110, 100, 32, 116, 104, 105, 110] : List UInt8) = ([] : List UInt8))))]) (C := []) ha [] (by kernel_rfl) .nil ?_
  clear ha a; intro a ha
  refine tn ?_
  refine wif ha rfl (fun h6 => ?_) (fun h6 => ?_)
  · replace h6 := of_decide_eq_true h6
    refine wseq ?_
    refine regp (ρ' := [(2, .slice none 0 0), (3, .int .i64 0)]) (C := []) ha [] (by kernel_rfl) .nil ?_
    clear ha a; intro a ha
    refine tn ?_
    refine wret ?_
    refine (tr ?_)
    refine fin ha (.tmp rfl (.tmp rfl .nil)) ?_
    first | exact ⟨_, _, rfl, hx⟩ | (exfalso; rw [hfi] at *; simp at *)
  · replace h6 := of_decide_eq_false h6
    refine wskip ?_
    refine tn ?_
    refine wseq ?_
    refine reg_list ?_
    refine segp (ρ' := [(7, .string (S [98, 97, 110, 100, 32, 116, 104, 105, 110]))]) (C := []) ha 1 [] rfl (by kernel_rfl) .nil ?_
    clear ha a; intro a ha
    refine lcall (vs := #[.string (S [98, 97, 110, 100, 32, 116, 104, 105, 110]), .string (S [32])]) ha rfl (by kernel_rfl) rfl rfl (by kernel_rfl) (by kernel_rfl) (split_ok _ m w (by simp) (cellE hx hm)) ?_
    clear ha a; rintro _ w1 ⟨A, c, rfl, hrk, he⟩ a ha
    rw [hsp] at ha hrk
    replace hx := hx.tr he
    clear he
    refine segp (ρ' := [(4, .slice A (([[98, 97, 110, 100], [116, 104, 105, 110]] : List (List UInt8)).length) c)]) (C := []) ha 1 [] rfl (by kernel_rfl) .nil ?_
    clear ha a; intro a ha
    refine lnil ?_
    replace ha := ha.sub (ρ' := [(4, .slice A (([[98, 97, 110, 100], [116, 104, 105, 110]] : List (List UInt8)).length) c)]) (by kernel_rfl)
    refine tn ?_
    refine wseq ?_
    refine wseq ?_
    refine reg hmix (ρ' := [(4, .slice A (([[98, 97, 110, 100], [116, 104, 105, 110]] : List (List UInt8)).length) c), (11, .bool (!(cFine ([[98, 97, 110, 100], [116, 104, 105, 110]] : List (List UInt8)))))]) (C := [CallOk Tryd.prog w1 23 #[.slice A (([[98, 97, 110, 100], [116, 104, 105, 110]] : List (List UInt8)).length) c] (.bool (cFine ([[98, 97, 110, 100], [116, 104, 105, 110]] : List (List UInt8))))]) ha [(1, .val (.bool (cFine ([[98, 97, 110, 100], [116, 104, 105, 110]] : List (List UInt8)))))] (by kernel_rfl) (.cons (fun w2 h2 => fine_ok _ _ ([[98, 97, 110, 100], [116, 104, 105, 110]] : List (List UInt8)) w2 (rdE h2 hrk) (by decide) (by decide)) .nil) ?_
    clear ha a; intro a w2 ha he
    replace hx := hx.tr he
    replace hrk := rdE he hrk
    clear he
    refine tn ?_
    refine wif ha rfl (fun h11 => ?_) (fun h11 => ?_)
    · simp only [Bool.not_eq_true', Bool.not_eq_false', Bool.and_eq_true, Bool.or_eq_true, Bool.and_eq_false_iff, Bool.or_eq_false_iff, decide_eq_true_eq, decide_eq_false_iff_not, Bool.not_eq_true, Decidable.not_not] at h11
      refine wseq ?_
      refine regp (ρ' := [(2, .slice none 0 0), (3, .int .i64 2)]) (C := []) ha [] (by kernel_rfl) .nil ?_
      clear ha a; intro a ha
      refine tn ?_
      refine wret ?_
      refine (tr ?_)
      refine fin ha (.tmp rfl (.tmp rfl .nil)) ?_
      first | exact ⟨_, _, rfl, hx⟩ | (exfalso; rw [hfi] at *; simp at *)
    · simp only [Bool.not_eq_true', Bool.not_eq_false', Bool.and_eq_true, Bool.or_eq_true, Bool.and_eq_false_iff, Bool.or_eq_false_iff, decide_eq_true_eq, decide_eq_false_iff_not, Bool.not_eq_true, Decidable.not_not] at h11
      refine wskip ?_
      refine tn ?_
      refine wseq ?_
      refine regp (ρ' := [(2, .slice A (([[98, 97, 110, 100], [116, 104, 105, 110]] : List (List UInt8)).length) c), (3, .int .i64 0)]) (C := []) ha [] (by kernel_rfl) .nil ?_
      clear ha a; intro a ha
      refine tn ?_
      refine wret ?_
      refine fin ha (.tmp rfl (.tmp rfl .nil)) ?_
      first | exact ⟨_, _, rfl, hx⟩ | (exfalso; rw [hfi] at *; simp at *)
theorem knows10_ok (m : Int) (w : World) (hm : w.cell? ⟨1, 0, none⟩ = some (.int .i64 m)) :
    Fn Tryd.prog 19 #[] w (fun v w' => v = .bool true ∧ Ext w w') := by
  have hch : cChosen ([[98, 97, 110, 100], [110, 101, 119], [116, 104, 105, 110]] : List (List UInt8)) ([[110, 101, 119], [111, 102, 115], [116, 104, 105, 110]] : List (List UInt8)) = ([[116, 104, 105, 110]] : List (List UInt8)) := by decide +kernel
  have hx : Ext w w := Ext.rfl' w
  refine enter (N := 46) (args := []) Tryd.func19 rfl rfl rfl ?_
  intro a ha
  simp only [argEnv, Nat.zero_add, Nat.reduceAdd] at ha
  refine wseq ?_
  refine regp (ρ' := []) (C := []) ha [] (by kernel_rfl) .nil ?_
  clear ha a; intro a ha
  refine tn ?_
  refine wseq ?_
  refine reg_list ?_
  refine lcall (vs := #[.string (S [98, 97, 110, 100, 32, 116, 104, 105, 110])]) ha rfl (by kernel_rfl) rfl rfl (by kernel_rfl) (by kernel_rfl) (getbt_ok m w (cellE hx hm)) ?_
  clear ha a; rintro _ w1 ⟨Ag, cg, rfl, he⟩ a ha
  replace hx := hx.tr he
  clear he
  refine segp (ρ' := [(1, .slice Ag 2 cg), (2, .int .i64 0)]) (C := []) ha 5 [] rfl (by kernel_rfl) .nil ?_
  clear ha a; intro a ha
  refine lnil ?_
  replace ha := ha.sub (ρ' := [(1, .slice Ag 2 cg), (2, .int .i64 0)]) (by kernel_rfl)
  refine tn ?_
  refine wseq ?_
  refine reg_list ?_
  refine lnewS ha rfl (by kernel_rfl) #[.string (S [98, 97, 110, 100]), .string (S [110, 101, 119]), .string (S [116, 104, 105, 110])] 9 3 (by kernel_rfl) ?_
  clear ha a; intro b2 w3 he hb_b2 hB_b2 a ha
  replace hb_b2 := Nat.le_trans hx.size hb_b2
  replace hx := hx.tr he
  clear he
  refine lnewS ha rfl (by kernel_rfl) #[.string (S [110, 101, 119]), .string (S [111, 102, 115]), .string (S [116, 104, 105, 110])] 9 3 (by kernel_rfl) ?_
  clear ha a; intro b4 w5 he hb_b4 hB_b4 a ha
  have hne_b2_b4 : b2 ≠ b4 := ne_new hB_b2 hb_b4
  replace hB_b2 := keepB he hB_b2
  replace hb_b4 := Nat.le_trans hx.size hb_b4
  replace hx := hx.tr he
  clear he
  refine lcall (vs := #[.slice (some ⟨b2, 0, none⟩) 3 3, .slice (some ⟨b4, 0, none⟩) 3 3]) ha rfl (by kernel_rfl) rfl rfl (by kernel_rfl) (by kernel_rfl) (choose_ok _ _ _ _ ([[98, 97, 110, 100], [110, 101, 119], [116, 104, 105, 110]] : List (List UInt8)) ([[110, 101, 119], [111, 102, 115], [116, 104, 105, 110]] : List (List UInt8)) w5 (rd_blk hB_b2 rfl) (rd_blk hB_b4 rfl) (by decide) (by decide)) ?_
  clear ha a; rintro _ w6 ⟨Ac, cc, rfl, hrk, he⟩ a ha
  rw [hch] at ha hrk
  replace hB_b2 := keepB he hB_b2
  replace hB_b4 := keepB he hB_b4
  replace hx := hx.tr he
  clear he
  refine segp (ρ' := [(1, .slice Ag 2 cg), (2, .int .i64 0), (3, .slice Ac (([[116, 104, 105, 110]] : List (List UInt8)).length) cc)]) (C := []) ha 1 [] rfl (by kernel_rfl) .nil ?_
  clear ha a; intro a ha
  refine lnil ?_
  replace ha := ha.sub (ρ' := [(1, .slice Ag 2 cg), (2, .int .i64 0), (3, .slice Ac (([[116, 104, 105, 110]] : List (List UInt8)).length) cc)]) (by kernel_rfl)
  refine tn ?_
  refine wseq ?_
  refine reg_list ?_
  refine lcall (vs := #[]) ha rfl (by kernel_rfl) rfl rfl (by kernel_rfl) (by kernel_rfl) (known_ok _) ?_
  clear ha a; rintro _ w7 ⟨kb, rfl, hb_kb, hB_kb, he⟩ a ha
  replace hB_b2 := keepB he hB_b2
  replace hB_b4 := keepB he hB_b4
  replace hrk := rdE he hrk
  replace hx := hx.tr he
  clear he
  have hrK := rd_blk (sz := 1) (m := 5) hB_kb rfl
  refine segp (ρ' := [(1, .slice Ag 2 cg), (2, .int .i64 0), (3, .slice Ac (([[116, 104, 105, 110]] : List (List UInt8)).length) cc), (4, .slice (some ⟨kb, 0, none⟩) 5 5)]) (C := []) ha 1 [] rfl (by kernel_rfl) .nil ?_
  clear ha a; intro a ha
  refine lnil ?_
  replace ha := ha.sub (ρ' := [(1, .slice Ag 2 cg), (2, .int .i64 0), (3, .slice Ac (([[116, 104, 105, 110]] : List (List UInt8)).length) cc), (4, .slice (some ⟨kb, 0, none⟩) 5 5)]) (by kernel_rfl)
  refine tn ?_
  refine wseq ?_
  have hk5 : known5.length = 5 := rfl
  refine regp (ρ' := [(0, .bool ((((((decide (((2 : Nat) : Int) = 2)) && (decide ((0 : Int) = 0))) && (decide (((([[116, 104, 105, 110]] : List (List UInt8)).length : Nat) : Int) = 1))) && (decide (((([[116, 104, 105, 110]] : List (List UInt8)).getD 0 default) : List UInt8) = ([116, 104, 105, 110] : List UInt8)))) && (decide (((5 : Nat) : Int) = 5))) && (decide (((known5.getD 0 default) : List UInt8) = ([97, 116, 111, 109, 105, 99] : List UInt8)))))]) (C := [(((decide (((2 : Nat) : Int) = 2)) && (decide ((0 : Int) = 0))) && (decide (((([[116, 104, 105, 110]] : List (List UInt8)).length : Nat) : Int) = 1))) = true → All [RunOk Tryd.prog w7 (Instr.indexAt 29 (.slice Ac (([[116, 104, 105, 110]] : List (List UInt8)).length) cc) (.int .i64 0)) (.pointer (some ⟨ab Ac, ao Ac + 0 * 1, none⟩)), RunOk Tryd.prog w7 (Instr.loadAt 9 (.pointer (some ⟨ab Ac, ao Ac + 0 * 1, none⟩))) (.string (S (([[116, 104, 105, 110]] : List (List UInt8)).getD 0 default)))], (((((decide (((2 : Nat) : Int) = 2)) && (decide ((0 : Int) = 0))) && (decide (((([[116, 104, 105, 110]] : List (List UInt8)).length : Nat) : Int) = 1))) && (decide (((([[116, 104, 105, 110]] : List (List UInt8)).getD 0 default) : List UInt8) = ([116, 104, 105, 110] : List UInt8)))) && (decide (((5 : Nat) : Int) = 5))) = true → All [RunOk Tryd.prog w7 (Instr.indexAt 29 (.slice (some ⟨kb, 0, none⟩) 5 5) (.int .i64 0)) (.pointer (some ⟨ab (some ⟨kb, 0, none⟩), ao (some ⟨kb, 0, none⟩) + 0 * 1, none⟩)), RunOk Tryd.prog w7 (Instr.loadAt 9 (.pointer (some ⟨ab (some ⟨kb, 0, none⟩), ao (some ⟨kb, 0, none⟩) + 0 * 1, none⟩))) (.string (S (known5.getD 0 default)))]]) ha [(14, .val (.pointer (some ⟨ab Ac, ao Ac + 0 * 1, none⟩))), (15, .val (.string (S (([[116, 104, 105, 110]] : List (List UInt8)).getD 0 default)))), (25, .val (.pointer (some ⟨ab (some ⟨kb, 0, none⟩), ao (some ⟨kb, 0, none⟩) + 0 * 1, none⟩))), (26, .val (.string (S (known5.getD 0 default))))] (by kernel_rfl) (.cons (fun hg13 => by simp only [Bool.not_eq_true', Bool.not_eq_false', Bool.and_eq_true, Bool.or_eq_true, Bool.and_eq_false_iff, Bool.or_eq_false_iff, decide_eq_true_eq, decide_eq_false_iff_not, Bool.not_eq_true, Decidable.not_not] at hg13; exact (.cons (ixRd (e := 9) (i := 0) (by kernel_rfl) (by kernel_rfl) hrk (by omega)) (.cons (ldRd (j := 0 * 1) (by kernel_rfl) hrk (by omega) (flat_get0 encS_len ([[116, 104, 105, 110]] : List (List UInt8)) default 0 (by omega) rfl)) .nil))) (.cons (fun hg24 => by simp only [Bool.not_eq_true', Bool.not_eq_false', Bool.and_eq_true, Bool.or_eq_true, Bool.and_eq_false_iff, Bool.or_eq_false_iff, decide_eq_true_eq, decide_eq_false_iff_not, Bool.not_eq_true, Decidable.not_not] at hg24; exact (.cons (ixRd (e := 9) (i := 0) (by kernel_rfl) (by kernel_rfl) hrK (by omega)) (.cons (ldRd (j := 0 * 1) (by kernel_rfl) hrK (by omega) (flat_get0 encS_len known5 default 0 (by omega) rfl)) .nil))) .nil)) ?_
  clear ha a; intro a ha
  refine tn ?_
  refine wret ?_
  refine fin ha (.tmp rfl .nil) ?_
  exact ⟨rfl, hx⟩
end Go.Kn
