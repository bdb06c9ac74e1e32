import Derived.Test.YtihmegmambmljaaPlainI
import Derived.Test.YtihmegmambmljaaWp
set_option linter.unusedSimpArgs false
set_option linter.unusedVariables false
set_option maxRecDepth 100000
namespace Go.Kn
open Go.Proofs
theorem odec_ok (s : List UInt8) (w : World) (hs : s.length ≤ 9223372036854775807) :
    Fn Try.prog 16 #[.string (S s)] w (fun x w' => ∃ Ae ce Ap cp, x = .tuple #[.agg ⟨objC (oDec s).1 Ae ce Ap cp⟩, .int .i64 (oDec s).2] ∧ Own w' w.heap.size 70 34 Ae (oDec s).1.Entries.length ce ((oDec s).1.Entries.flatMap encEnt) ∧ Own w' w.heap.size 40 32 Ap (oDec s).1.Parents.length cp ((oDec s).1.Parents.flatMap idc) ∧ Ext w w') := by
  have hx : Ext w w := Ext.rfl' w
  refine enter (N := 68) (args := [.string (S s)]) Try.func16 rfl rfl rfl ?_
  intro a ha
  simp only [argEnv, Nat.zero_add, Nat.reduceAdd] at ha
  refine wseq ?_
  refine reg_list ?_
  refine lnew ha rfl (by kernel_rfl) ⟨.int .i64 0 :: (.string (S []) :: (.slice none 0 0 :: ((idc idZ) ++ (.slice none 0 0 :: (.int .u32 0 :: (.string (S []) :: ((idc idZ) ++ (.int .i64 0 :: ([.string (S [])])))))))))⟩ 44 (by kernel_rfl) ?_
  clear ha a; intro bz w1 he hb_bz hB_bz a ha
  replace hb_bz := Nat.le_trans hx.size hb_bz
  replace hx := hx.tr he
  clear he
  refine segp (ρ' := [(0, .string (S s)), (2, .pointer (some ⟨bz, 0, none⟩))]) (C := []) ha 1 [] rfl (by kernel_rfl) .nil ?_
  clear ha a; intro a ha
  refine lnil ?_
  replace ha := ha.sub (ρ' := [(0, .string (S s)), (2, .pointer (some ⟨bz, 0, none⟩))]) (by kernel_rfl)
  refine tn ?_
  refine wseq ?_
  refine wseq ?_
  refine regp (ρ' := [(0, .string (S s)), (2, .pointer (some ⟨bz, 0, none⟩)), (16, .bool ((decide ((s : List UInt8) = ([] : List UInt8))) || (decide ((4096 : Int) < ((s.length : Nat) : Int)))))]) (C := []) ha [] (by kernel_rfl) .nil ?_
  clear ha a; intro a ha
  refine tn ?_
  refine wif ha rfl (fun h16 => ?_) (fun h16 => ?_)
  · simp only [Bool.not_eq_true', Bool.not_eq_false', Bool.and_eq_true, Bool.or_eq_true, Bool.and_eq_false_iff, Bool.or_eq_false_iff, decide_eq_true_eq, decide_eq_false_iff_not, Bool.not_eq_true, Decidable.not_not] at h16
    have hres : oDec s = (obj0, 2) := by unfold oDec; rw [if_pos (by rcases h16 with h | h; exact .inl h; exact .inr (by omega))]
    refine wseq ?_
    refine reg_list ?_
    refine segp (ρ' := [(2, .pointer (some ⟨bz, 0, none⟩)), (17, .agg ⟨.int .i64 0 :: (.string (S []) :: (.slice none 0 0 :: ((idc idZ) ++ (.slice none 0 0 :: (.int .u32 0 :: (.string (S []) :: ((idc idZ) ++ (.int .i64 0 :: ([.string (S [])])))))))))⟩)]) (C := []) ha 1 [] rfl (by kernel_rfl) .nil ?_
    clear ha a; intro a ha
    refine lstore (off := 0) ha rfl rfl (by kernel_rfl) hB_bz ⟨.int .i64 0 :: (.string (S []) :: (.slice none 0 0 :: ((idc idZ) ++ (.slice none 0 0 :: (.int .u32 0 :: (.string (S []) :: ((idc idZ) ++ (.int .i64 0 :: ([.string (S [])])))))))))⟩ rfl (by kernel_rfl) (by kernel_rfl) ?_
    clear ha a; intro w2 hc a ha
    replace hx := hc.ext hx hb_bz
    replace hB_bz := hc.at_; clear hc
    refine segp (ρ' := [(2, .pointer (some ⟨bz, 0, none⟩)), (3, .int .i64 2)]) (C := []) ha 1 [] rfl (by kernel_rfl) .nil ?_
    clear ha a; intro a ha
    refine lnil ?_
    replace ha := ha.sub (ρ' := [(2, .pointer (some ⟨bz, 0, none⟩)), (3, .int .i64 2)]) (by kernel_rfl)
    refine tn ?_
    refine wret ?_
    refine (tr ?_)
    refine fin ha (.cell rfl (ldVN (n := 72) (vs := ⟨.int .i64 0 :: (.string (S []) :: (.slice none 0 0 :: ((idc idZ) ++ (.slice none 0 0 :: (.int .u32 0 :: (.string (S []) :: ((idc idZ) ++ (.int .i64 0 :: ([.string (S [])])))))))))⟩) hB_bz (by kernel_rfl) (by kernel_rfl) ⟨Nat.le_of_ble_eq_true (by kernel_rfl), (by kernel_rfl)⟩) (.tmp rfl .nil)) ?_
    exact ⟨none, 0, none, 0, by rw [hres]; rfl, by rw [hres]; exact own_nil _ _ _ _, by rw [hres]; exact own_nil _ _ _ _, hx⟩
  · simp only [Bool.not_eq_true', Bool.not_eq_false', Bool.and_eq_true, Bool.or_eq_true, Bool.and_eq_false_iff, Bool.or_eq_false_iff, decide_eq_true_eq, decide_eq_false_iff_not, Bool.not_eq_true, Decidable.not_not] at h16
    have hc1 : ¬ (s = [] ∨ 4096 < s.length) := by simp only [not_or]; exact ⟨h16.1, by omega⟩
    have hs0 : 0 < s.length := List.length_pos_iff.2 h16.1
    have htl := (vtake_len (s.drop 1)).1
    rw [List.length_drop] at htl
    have hcb := UInt8.toNat_lt (s.getD 0 0)
    have hk256 : 0 ≤ ((s.getD 0 0).toNat : Int) ∧ ((s.getD 0 0).toNat : Int) < 256 := by omega
    refine wskip ?_
    refine tn ?_
    refine wseq ?_
    refine reg hmix (ρ' := [(0, .string (S s)), (2, .pointer (some ⟨bz, 0, none⟩)), (4, .string (S ((vtake (s.drop 1)).1))), (5, .string (S ((vtake (s.drop 1)).2.1))), (6, .int .i64 (((vtake (s.drop 1)).2.2 : Nat) : Int))]) (C := [0 ≤ (1 : Int) ∧ 1 ≤ (s.length : Int), CallOk Try.prog w1 34 #[.string (S (s.drop 1))] (.tuple #[.string (S ((vtake (s.drop 1)).1)), .string (S ((vtake (s.drop 1)).2.1)), .int .i64 (((vtake (s.drop 1)).2.2 : Nat) : Int)])]) ha [(2, .val (.tuple #[.string (S ((vtake (s.drop 1)).1)), .string (S ((vtake (s.drop 1)).2.1)), .int .i64 (((vtake (s.drop 1)).2.2 : Nat) : Int)]))] (by kernel_rfl) (.cons ⟨by omega, by omega⟩ (.cons (fun w _ => take_ok _ w (by first | omega | (simp only [List.length_drop]; omega))) .nil)) ?_
    clear ha a; intro a w3 ha he
    replace hx := hx.tr he
    replace hB_bz := keepB he hB_bz
    clear he
    refine tn ?_
    refine wseq ?_
    refine wseq ?_
    refine regp (ρ' := [(0, .string (S s)), (2, .pointer (some ⟨bz, 0, none⟩)), (4, .string (S ((vtake (s.drop 1)).1))), (30, .bool ((!decide ((((vtake (s.drop 1)).2.2 : Nat) : Int) = 0)) || (!decide (((vtake (s.drop 1)).2.1 : List UInt8) = ([] : List UInt8)))))]) (C := []) ha [] (by kernel_rfl) .nil ?_
    clear ha a; intro a ha
    refine tn ?_
    refine wif ha rfl (fun h30 => ?_) (fun h30 => ?_)
    · simp only [Bool.not_eq_true', Bool.not_eq_false', Bool.and_eq_true, Bool.or_eq_true, Bool.and_eq_false_iff, Bool.or_eq_false_iff, decide_eq_true_eq, decide_eq_false_iff_not, Bool.not_eq_true, Decidable.not_not] at h30
      have hres : oDec s = (obj0, 2) := by unfold oDec; rw [if_neg hc1, if_pos (by rcases h30 with h | h; exact .inl (by omega); exact .inr h)]
      refine wseq ?_
      refine reg_list ?_
      refine segp (ρ' := [(2, .pointer (some ⟨bz, 0, none⟩)), (31, .agg ⟨.int .i64 0 :: (.string (S []) :: (.slice none 0 0 :: ((idc idZ) ++ (.slice none 0 0 :: (.int .u32 0 :: (.string (S []) :: ((idc idZ) ++ (.int .i64 0 :: ([.string (S [])])))))))))⟩)]) (C := []) ha 1 [] rfl (by kernel_rfl) .nil ?_
      clear ha a; intro a ha
      refine lstore (off := 0) ha rfl rfl (by kernel_rfl) hB_bz ⟨.int .i64 0 :: (.string (S []) :: (.slice none 0 0 :: ((idc idZ) ++ (.slice none 0 0 :: (.int .u32 0 :: (.string (S []) :: ((idc idZ) ++ (.int .i64 0 :: ([.string (S [])])))))))))⟩ rfl (by kernel_rfl) (by kernel_rfl) ?_
      clear ha a; intro w4 hc a ha
      replace hx := hc.ext hx hb_bz
      replace hB_bz := hc.at_; clear hc
      refine segp (ρ' := [(2, .pointer (some ⟨bz, 0, none⟩)), (3, .int .i64 2)]) (C := []) ha 1 [] rfl (by kernel_rfl) .nil ?_
      clear ha a; intro a ha
      refine lnil ?_
      replace ha := ha.sub (ρ' := [(2, .pointer (some ⟨bz, 0, none⟩)), (3, .int .i64 2)]) (by kernel_rfl)
      refine tn ?_
      refine wret ?_
      refine (tr ?_)
      refine fin ha (.cell rfl (ldVN (n := 72) (vs := ⟨.int .i64 0 :: (.string (S []) :: (.slice none 0 0 :: ((idc idZ) ++ (.slice none 0 0 :: (.int .u32 0 :: (.string (S []) :: ((idc idZ) ++ (.int .i64 0 :: ([.string (S [])])))))))))⟩) hB_bz (by kernel_rfl) (by kernel_rfl) ⟨Nat.le_of_ble_eq_true (by kernel_rfl), (by kernel_rfl)⟩) (.tmp rfl .nil)) ?_
      exact ⟨none, 0, none, 0, by rw [hres]; rfl, by rw [hres]; exact own_nil _ _ _ _, by rw [hres]; exact own_nil _ _ _ _, hx⟩
    · simp only [Bool.not_eq_true', Bool.not_eq_false', Bool.and_eq_true, Bool.or_eq_true, Bool.and_eq_false_iff, Bool.or_eq_false_iff, decide_eq_true_eq, decide_eq_false_iff_not, Bool.not_eq_true, Decidable.not_not] at h30
      have hc2 : ¬ ((vtake (s.drop 1)).2.2 ≠ 0 ∨ (vtake (s.drop 1)).2.1 ≠ []) := by simp only [not_or]; exact ⟨fun h => h (by omega), fun h => h h30.2⟩
      refine wskip ?_
      refine tn ?_
      refine wseq ?_
      refine reg_list ?_
      refine segp (ρ' := [(2, .pointer (some ⟨bz, 0, none⟩)), (4, .string (S ((vtake (s.drop 1)).1))), (35, .agg ⟨.int .i64 (((s.getD 0 0).toNat : Nat) : Int) :: (.string (S []) :: (.slice none 0 0 :: ((idc idZ) ++ (.slice none 0 0 :: (.int .u32 0 :: (.string (S []) :: ((idc idZ) ++ (.int .i64 0 :: ([.string (S [])])))))))))⟩)]) (C := [0 ≤ (0 : Int) ∧ 0 < (s.length : Int), InR .i64 (((s.getD 0 0).toNat : Nat) : Int)]) ha 4 [] rfl (by kernel_rfl) (.cons ⟨by omega, by omega⟩ (.cons (by unfold InR; omega) .nil)) ?_
      clear ha a; intro a ha
      refine lnew ha rfl (by kernel_rfl) ⟨.int .i64 0 :: (.string (S []) :: (.slice none 0 0 :: ((idc idZ) ++ (.slice none 0 0 :: (.int .u32 0 :: (.string (S []) :: ((idc idZ) ++ (.int .i64 0 :: ([.string (S [])])))))))))⟩ 44 (by kernel_rfl) ?_
      clear ha a; intro ob w5 he hb_ob hB_ob a ha
      have hne_bz_ob : bz ≠ ob := ne_new hB_bz hb_ob
      replace hB_bz := keepB he hB_bz
      replace hb_ob := Nat.le_trans hx.size hb_ob
      replace hx := hx.tr he
      clear he
      refine lstore (off := 0) ha rfl rfl (by kernel_rfl) hB_ob ⟨.int .i64 (((s.getD 0 0).toNat : Nat) : Int) :: (.string (S []) :: (.slice none 0 0 :: ((idc idZ) ++ (.slice none 0 0 :: (.int .u32 0 :: (.string (S []) :: ((idc idZ) ++ (.int .i64 0 :: ([.string (S [])])))))))))⟩ rfl (by kernel_rfl) (by kernel_rfl) ?_
      clear ha a; intro w6 hc a ha
      replace hB_bz := hc.keep hB_bz (by first | assumption | exact Ne.symm (by assumption))
      replace hx := hc.ext hx hb_ob
      replace hB_ob := hc.at_; clear hc
      refine lnil ?_
      replace ha := ha.sub (ρ' := [(2, .pointer (some ⟨bz, 0, none⟩)), (4, .string (S ((vtake (s.drop 1)).1))), (7, .pointer (some ⟨ob, 0, none⟩))]) (by kernel_rfl)
      refine tn ?_
      refine wseq ?_
      refine reg_list ?_
      refine segp (ρ' := [(2, .pointer (some ⟨bz, 0, none⟩)), (7, .pointer (some ⟨ob, 0, none⟩)), (37, .agg #[.string (S ((vtake (s.drop 1)).1)), .bool false])]) (C := []) ha 2 [] rfl (by kernel_rfl) .nil ?_
      clear ha a; intro a ha
      refine lnew ha rfl (by kernel_rfl) #[.string (S ((vtake (s.drop 1)).1)), .bool false] 76 (by kernel_rfl) ?_
      clear ha a; intro r w7 he hb_r hB_r a ha
      have hne_bz_r : bz ≠ r := ne_new hB_bz hb_r
      have hne_ob_r : ob ≠ r := ne_new hB_ob hb_r
      replace hB_bz := keepB he hB_bz
      replace hB_ob := keepB he hB_ob
      replace hb_r := Nat.le_trans hx.size hb_r
      replace hx := hx.tr he
      clear he
      refine segp (ρ' := [(2, .pointer (some ⟨bz, 0, none⟩)), (7, .pointer (some ⟨ob, 0, none⟩)), (8, .pointer (some ⟨r, 0, none⟩))]) (C := []) ha 1 [] rfl (by kernel_rfl) .nil ?_
      clear ha a; intro a ha
      refine lnil ?_
      replace ha := ha.sub (ρ' := [(2, .pointer (some ⟨bz, 0, none⟩)), (7, .pointer (some ⟨ob, 0, none⟩)), (8, .pointer (some ⟨r, 0, none⟩))]) (by kernel_rfl)
      refine tn ?_
      refine wseq ?_
      refine regp (ρ' := [(2, .pointer (some ⟨bz, 0, none⟩)), (7, .pointer (some ⟨ob, 0, none⟩)), (8, .pointer (some ⟨r, 0, none⟩)), (9, .func (.func 35) #[] #[])]) (C := []) ha [] (by kernel_rfl) .nil ?_
      clear ha a; intro a ha
      refine tn ?_
      refine wseq ?_
      refine wseq ?_
      refine regp (ρ' := [(2, .pointer (some ⟨bz, 0, none⟩)), (7, .pointer (some ⟨ob, 0, none⟩)), (8, .pointer (some ⟨r, 0, none⟩)), (9, .func (.func 35) #[] #[]), (40, .int .i64 (((s.getD 0 0).toNat : Nat) : Int))]) (C := [RunOk Try.prog w7 (Instr.loadAt 3 (.pointer (some ⟨ob, 0, none⟩))) (.int .i64 (((s.getD 0 0).toNat : Nat) : Int))]) ha [(1, .val (.int .i64 (((s.getD 0 0).toNat : Nat) : Int)))] (by kernel_rfl) (.cons (ld1 hB_ob (by kernel_rfl) (by kernel_rfl)) .nil) ?_
      clear ha a; intro a ha
      refine tn ?_
      refine wblk ?_
      refine wseq ?_
      refine regp (ρ' := [(2, .pointer (some ⟨bz, 0, none⟩)), (7, .pointer (some ⟨ob, 0, none⟩)), (8, .pointer (some ⟨r, 0, none⟩)), (9, .func (.func 35) #[] #[]), (40, .int .i64 (((s.getD 0 0).toNat : Nat) : Int)), (41, .bool (decide ((((s.getD 0 0).toNat : Nat) : Int) = 2)))]) (C := []) ha [] (by kernel_rfl) .nil ?_
      clear ha a; intro a ha
      refine tn ?_
      refine wif ha rfl (fun h41 => ?_) (fun h41 => ?_)
      · replace h41 := of_decide_eq_true h41
        have hk := h41
        refine regp (ρ' := [(2, .pointer (some ⟨bz, 0, none⟩)), (7, .pointer (some ⟨ob, 0, none⟩)), (8, .pointer (some ⟨r, 0, none⟩)), (9, .func (.func 36) #[] #[])]) (C := []) ha [] (by kernel_rfl) .nil ?_
        clear ha a; intro a ha
        refine bn ?_
        refine tn ?_
        refine wseq ?_
        refine reg_list ?_
        refine segp (ρ' := [(2, .pointer (some ⟨bz, 0, none⟩)), (7, .pointer (some ⟨ob, 0, none⟩)), (8, .pointer (some ⟨r, 0, none⟩)), (47, .func (.func 36) #[] #[]), (48, .pointer (some ⟨r, 0, none⟩))]) (C := []) ha 2 [] rfl (by kernel_rfl) .nil ?_
        clear ha a; intro a ha
        refine lcall (vs := #[.pointer (some ⟨r, 0, none⟩), .pointer (some ⟨ob, 0, none⟩)]) ha rfl (by kernel_rfl) rfl rfl (by kernel_rfl) (by kernel_rfl) (rtree_ok r ob ((s.getD 0 0).toNat : Int) (vtake (s.drop 1)).1 false w7 (by first | assumption | exact Ne.symm (by assumption)) hB_r hB_ob (by omega)) ?_
        clear ha a; rintro _ w8 ⟨A, c, rfl, hfr, hB_r', hB_ob', ho⟩ a ha
        have hB_r2 : w8.heap[r]? = some (.cells #[.string (S (rdBody ((s.getD 0 0).toNat : Int) (vtake (s.drop 1)).1).2.1), .bool (rdBody ((s.getD 0 0).toNat : Int) (vtake (s.drop 1)).1).2.2] 76 (0, 0)) := by rw [rdBody, if_pos hk]; exact hB_r'
        have hB_ob2 : w8.heap[ob]? = some (.cells ⟨objC (rdBody ((s.getD 0 0).toNat : Int) (vtake (s.drop 1)).1).1 A c none 0⟩ 44 (0, 0)) := by rw [rdBody, if_pos hk]; exact hB_ob'
        have hoe : Own w8 w.heap.size 70 34 A (rdBody ((s.getD 0 0).toNat : Int) (vtake (s.drop 1)).1).1.Entries.length c ((rdBody ((s.getD 0 0).toNat : Int) (vtake (s.drop 1)).1).1.Entries.flatMap encEnt) := by rw [rdBody, if_pos hk]; exact own_base hx.size ho
        have hop : Own w8 w.heap.size 40 32 none (rdBody ((s.getD 0 0).toNat : Int) (vtake (s.drop 1)).1).1.Parents.length 0 ((rdBody ((s.getD 0 0).toNat : Int) (vtake (s.drop 1)).1).1.Parents.flatMap idc) := by rw [rdBody, if_pos hk]; exact own_nil _ _ _ _
        have hB_bz2 := hfr.keep hB_bz (by intro x hx; simp only [List.mem_cons, List.not_mem_nil, or_false] at hx; rcases hx with rfl | rfl <;> first | assumption | exact Ne.symm (by assumption))
        replace hx := hfr.toExt hx (by intro x hx; simp only [List.mem_cons, List.not_mem_nil, or_false] at hx; rcases hx with rfl | rfl <;> assumption)
        clear hfr hB_r' hB_ob' hB_r hB_ob hB_bz ho
        have hB_r := hB_r2; have hB_ob := hB_ob2; have hB_bz := hB_bz2; clear hB_r2 hB_ob2 hB_bz2
        have hok := rdBody_ok ((s.getD 0 0).toNat : Int) hk256 (vtake (s.drop 1)).1 (by omega)
        refine lnil ?_
        replace ha := ha.sub (ρ' := [(2, .pointer (some ⟨bz, 0, none⟩)), (7, .pointer (some ⟨ob, 0, none⟩)), (8, .pointer (some ⟨r, 0, none⟩))]) (by kernel_rfl)
        refine tn ?_
        refine wseq ?_
        refine wseq ?_
        refine reg hmix (ρ' := [(2, .pointer (some ⟨bz, 0, none⟩)), (7, .pointer (some ⟨ob, 0, none⟩)), (65, .bool ((((rdBody ((s.getD 0 0).toNat : Int) (vtake (s.drop 1)).1).2.2) || (!decide (((rdBody ((s.getD 0 0).toNat : Int) (vtake (s.drop 1)).1).2.1 : List UInt8) = ([] : List UInt8)))) || (!(oMay (rdBody ((s.getD 0 0).toNat : Int) (vtake (s.drop 1)).1).1))))]) (C := [RunOk Try.prog w8 (Instr.loadAt 4 (.pointer (some ⟨r, 1, none⟩))) (.bool ((rdBody ((s.getD 0 0).toNat : Int) (vtake (s.drop 1)).1).2.2)), ((rdBody ((s.getD 0 0).toNat : Int) (vtake (s.drop 1)).1).2.2) = false → All [RunOk Try.prog w8 (Instr.loadAt 9 (.pointer (some ⟨r, 0, none⟩))) (.string (S ((rdBody ((s.getD 0 0).toNat : Int) (vtake (s.drop 1)).1).2.1)))], (((rdBody ((s.getD 0 0).toNat : Int) (vtake (s.drop 1)).1).2.2) || (!decide (((rdBody ((s.getD 0 0).toNat : Int) (vtake (s.drop 1)).1).2.1 : List UInt8) = ([] : List UInt8)))) = false → All [RunOk Try.prog w8 (Instr.loadAt 44 (.pointer (some ⟨ob, 0, none⟩))) (.agg ⟨objC ((rdBody ((s.getD 0 0).toNat : Int) (vtake (s.drop 1)).1).1) A c none 0⟩), CallOk Try.prog w8 31 #[.agg ⟨objC ((rdBody ((s.getD 0 0).toNat : Int) (vtake (s.drop 1)).1).1) A c none 0⟩] (.bool (oMay (rdBody ((s.getD 0 0).toNat : Int) (vtake (s.drop 1)).1).1))]]) ha [(3, .val (.bool ((rdBody ((s.getD 0 0).toNat : Int) (vtake (s.drop 1)).1).2.2))), (8, .val (.string (S ((rdBody ((s.getD 0 0).toNat : Int) (vtake (s.drop 1)).1).2.1)))), (12, .val (.agg ⟨objC ((rdBody ((s.getD 0 0).toNat : Int) (vtake (s.drop 1)).1).1) A c none 0⟩)), (13, .val (.bool (oMay (rdBody ((s.getD 0 0).toNat : Int) (vtake (s.drop 1)).1).1)))] (by kernel_rfl) (.cons (ld1 hB_r (by kernel_rfl) rfl) (.cons (fun hg5 => by exact (.cons (ld1 hB_r (by kernel_rfl) rfl) .nil)) (.cons (fun hg12 => by simp only [Bool.not_eq_true', Bool.not_eq_false', Bool.and_eq_true, Bool.or_eq_true, Bool.and_eq_false_iff, Bool.or_eq_false_iff, decide_eq_true_eq, decide_eq_false_iff_not, Bool.not_eq_true, Decidable.not_not] at hg12; exact (.cons (ldN (n := 72) hB_ob (by kernel_rfl) (by kernel_rfl) ⟨Nat.le_of_ble_eq_true (by kernel_rfl), (by kernel_rfl)⟩) (.cons (fun w2 h2 => may_ok (rdBody ((s.getD 0 0).toNat : Int) (vtake (s.drop 1)).1).1 _ _ _ _ w2 (rdE h2 (own_rd hoe)) (rdE h2 (own_rd hop)) hok) .nil))) .nil))) ?_
        clear ha a; intro a w9 ha he
        replace hx := hx.tr he
        replace hB_bz := keepB he hB_bz
        replace hB_ob := keepB he hB_ob
        replace hB_r := keepB he hB_r
        replace hoe := ownE he hoe
        replace hop := ownE he hop
        clear he
        refine tn ?_
        refine wif ha rfl (fun h65 => ?_) (fun h65 => ?_)
        · simp only [Bool.not_eq_true', Bool.not_eq_false', Bool.and_eq_true, Bool.or_eq_true, Bool.and_eq_false_iff, Bool.or_eq_false_iff, decide_eq_true_eq, decide_eq_false_iff_not, Bool.not_eq_true, Decidable.not_not] at h65
          have hres : oDec s = (obj0, 2) := by
            unfold oDec
            rw [if_neg hc1, if_neg hc2]
            simp only
            rw [if_pos]
            rcases h65 with (h | h) | h
            · exact .inl h
            · exact .inr (.inl h)
            · exact .inr (.inr h)
          refine wseq ?_
          refine reg_list ?_
          refine segp (ρ' := [(2, .pointer (some ⟨bz, 0, none⟩)), (66, .agg ⟨.int .i64 0 :: (.string (S []) :: (.slice none 0 0 :: ((idc idZ) ++ (.slice none 0 0 :: (.int .u32 0 :: (.string (S []) :: ((idc idZ) ++ (.int .i64 0 :: ([.string (S [])])))))))))⟩)]) (C := []) ha 1 [] rfl (by kernel_rfl) .nil ?_
          clear ha a; intro a ha
          refine lstore (off := 0) ha rfl rfl (by kernel_rfl) hB_bz ⟨.int .i64 0 :: (.string (S []) :: (.slice none 0 0 :: ((idc idZ) ++ (.slice none 0 0 :: (.int .u32 0 :: (.string (S []) :: ((idc idZ) ++ (.int .i64 0 :: ([.string (S [])])))))))))⟩ rfl (by kernel_rfl) (by kernel_rfl) ?_
          clear ha a; intro w10 hc a ha
          replace hB_ob := hc.keep hB_ob (by first | assumption | exact Ne.symm (by assumption))
          replace hB_r := hc.keep hB_r (by first | assumption | exact Ne.symm (by assumption))
          replace hoe := ownC hc hB_bz rfl hoe
          replace hop := ownC hc hB_bz rfl hop
          replace hx := hc.ext hx hb_bz
          replace hB_bz := hc.at_; clear hc
          refine segp (ρ' := [(2, .pointer (some ⟨bz, 0, none⟩)), (3, .int .i64 2)]) (C := []) ha 1 [] rfl (by kernel_rfl) .nil ?_
          clear ha a; intro a ha
          refine lnil ?_
          replace ha := ha.sub (ρ' := [(2, .pointer (some ⟨bz, 0, none⟩)), (3, .int .i64 2)]) (by kernel_rfl)
          refine tn ?_
          refine wret ?_
          refine (tr ?_)
          refine fin ha (.cell rfl (ldVN (n := 72) (vs := ⟨.int .i64 0 :: (.string (S []) :: (.slice none 0 0 :: ((idc idZ) ++ (.slice none 0 0 :: (.int .u32 0 :: (.string (S []) :: ((idc idZ) ++ (.int .i64 0 :: ([.string (S [])])))))))))⟩) hB_bz (by kernel_rfl) (by kernel_rfl) ⟨Nat.le_of_ble_eq_true (by kernel_rfl), (by kernel_rfl)⟩) (.tmp rfl .nil)) ?_
          exact ⟨none, 0, none, 0, by rw [hres]; rfl, by rw [hres]; exact own_nil _ _ _ _, by rw [hres]; exact own_nil _ _ _ _, hx⟩
        · simp only [Bool.not_eq_true', Bool.not_eq_false', Bool.and_eq_true, Bool.or_eq_true, Bool.and_eq_false_iff, Bool.or_eq_false_iff, decide_eq_true_eq, decide_eq_false_iff_not, Bool.not_eq_true, Decidable.not_not] at h65
          have hres : oDec s = ((rdBody ((s.getD 0 0).toNat : Int) (vtake (s.drop 1)).1).1, 0) := by
            unfold oDec
            rw [if_neg hc1, if_neg hc2]
            simp only
            rw [if_neg]
            rintro (h | h | h)
            · rw [h65.1.1] at h; cases h
            · exact h h65.1.2
            · rw [h65.2] at h; cases h
          refine wskip ?_
          refine tn ?_
          refine wseq ?_
          refine reg_list ?_
          refine segp (ρ' := [(2, .pointer (some ⟨bz, 0, none⟩)), (67, .agg ⟨objC ((rdBody ((s.getD 0 0).toNat : Int) (vtake (s.drop 1)).1).1) A c none 0⟩)]) (C := [RunOk Try.prog w9 (Instr.loadAt 44 (.pointer (some ⟨ob, 0, none⟩))) (.agg ⟨objC ((rdBody ((s.getD 0 0).toNat : Int) (vtake (s.drop 1)).1).1) A c none 0⟩)]) ha 1 [(0, .val (.agg ⟨objC ((rdBody ((s.getD 0 0).toNat : Int) (vtake (s.drop 1)).1).1) A c none 0⟩))] rfl (by kernel_rfl) (.cons (ldN (n := 72) hB_ob (by kernel_rfl) (by kernel_rfl) ⟨Nat.le_of_ble_eq_true (by kernel_rfl), (by kernel_rfl)⟩) .nil) ?_
          clear ha a; intro a ha
          refine lstore (off := 0) ha rfl rfl (by kernel_rfl) hB_bz ⟨objC ((rdBody ((s.getD 0 0).toNat : Int) (vtake (s.drop 1)).1).1) A c none 0⟩ rfl (by kernel_rfl) (by kernel_rfl) ?_
          clear ha a; intro w11 hc a ha
          replace hB_ob := hc.keep hB_ob (by first | assumption | exact Ne.symm (by assumption))
          replace hB_r := hc.keep hB_r (by first | assumption | exact Ne.symm (by assumption))
          replace hoe := ownC hc hB_bz rfl hoe
          replace hop := ownC hc hB_bz rfl hop
          replace hx := hc.ext hx hb_bz
          replace hB_bz := hc.at_; clear hc
          refine segp (ρ' := [(2, .pointer (some ⟨bz, 0, none⟩)), (3, .int .i64 0)]) (C := []) ha 1 [] rfl (by kernel_rfl) .nil ?_
          clear ha a; intro a ha
          refine lnil ?_
          replace ha := ha.sub (ρ' := [(2, .pointer (some ⟨bz, 0, none⟩)), (3, .int .i64 0)]) (by kernel_rfl)
          refine tn ?_
          refine wret ?_
          refine fin ha (.cell rfl (ldVN (n := 72) (vs := ⟨objC ((rdBody ((s.getD 0 0).toNat : Int) (vtake (s.drop 1)).1).1) A c none 0⟩) hB_bz (by kernel_rfl) (by kernel_rfl) ⟨Nat.le_of_ble_eq_true (by kernel_rfl), (by kernel_rfl)⟩) (.tmp rfl .nil)) ?_
          exact ⟨_, _, _, _, by rw [hres]; rfl, by rw [hres]; exact hoe, by rw [hres]; exact hop, hx⟩
      · replace h41 := of_decide_eq_false h41
        have hk2 := h41
        refine wseq ?_
        refine regp (ρ' := [(2, .pointer (some ⟨bz, 0, none⟩)), (7, .pointer (some ⟨ob, 0, none⟩)), (8, .pointer (some ⟨r, 0, none⟩)), (9, .func (.func 35) #[] #[]), (40, .int .i64 (((s.getD 0 0).toNat : Nat) : Int)), (43, .bool (decide ((((s.getD 0 0).toNat : Nat) : Int) = 3)))]) (C := []) ha [] (by kernel_rfl) .nil ?_
        clear ha a; intro a ha
        refine tn ?_
        refine wif ha rfl (fun h43 => ?_) (fun h43 => ?_)
        · replace h43 := of_decide_eq_true h43
          have hk := h43
          refine regp (ρ' := [(2, .pointer (some ⟨bz, 0, none⟩)), (7, .pointer (some ⟨ob, 0, none⟩)), (8, .pointer (some ⟨r, 0, none⟩)), (9, .func (.func 37) #[] #[])]) (C := []) ha [] (by kernel_rfl) .nil ?_
          clear ha a; intro a ha
          refine bn ?_
          refine tn ?_
          refine wseq ?_
          refine reg_list ?_
          refine segp (ρ' := [(2, .pointer (some ⟨bz, 0, none⟩)), (7, .pointer (some ⟨ob, 0, none⟩)), (8, .pointer (some ⟨r, 0, none⟩)), (47, .func (.func 37) #[] #[]), (48, .pointer (some ⟨r, 0, none⟩))]) (C := []) ha 2 [] rfl (by kernel_rfl) .nil ?_
          clear ha a; intro a ha
          refine lcall (vs := #[.pointer (some ⟨r, 0, none⟩), .pointer (some ⟨ob, 0, none⟩)]) ha rfl (by kernel_rfl) rfl rfl (by kernel_rfl) (by kernel_rfl) (rcommit_ok r ob ((s.getD 0 0).toNat : Int) (vtake (s.drop 1)).1 false w7 (by first | assumption | exact Ne.symm (by assumption)) hB_r hB_ob (by omega)) ?_
          clear ha a; rintro _ w12 ⟨A, c, rfl, hfr, hB_r', hB_ob', ho⟩ a ha
          have hB_r2 : w12.heap[r]? = some (.cells #[.string (S (rdBody ((s.getD 0 0).toNat : Int) (vtake (s.drop 1)).1).2.1), .bool (rdBody ((s.getD 0 0).toNat : Int) (vtake (s.drop 1)).1).2.2] 76 (0, 0)) := by rw [rdBody, if_neg hk2, if_pos hk]; exact hB_r'
          have hB_ob2 : w12.heap[ob]? = some (.cells ⟨objC (rdBody ((s.getD 0 0).toNat : Int) (vtake (s.drop 1)).1).1 none 0 A c⟩ 44 (0, 0)) := by rw [rdBody, if_neg hk2, if_pos hk]; exact hB_ob'
          have hoe : Own w12 w.heap.size 70 34 none (rdBody ((s.getD 0 0).toNat : Int) (vtake (s.drop 1)).1).1.Entries.length 0 ((rdBody ((s.getD 0 0).toNat : Int) (vtake (s.drop 1)).1).1.Entries.flatMap encEnt) := by rw [rdBody, if_neg hk2, if_pos hk]; exact own_nil _ _ _ _
          have hop : Own w12 w.heap.size 40 32 A (rdBody ((s.getD 0 0).toNat : Int) (vtake (s.drop 1)).1).1.Parents.length c ((rdBody ((s.getD 0 0).toNat : Int) (vtake (s.drop 1)).1).1.Parents.flatMap idc) := by rw [rdBody, if_neg hk2, if_pos hk]; exact own_base hx.size ho
          have hB_bz2 := hfr.keep hB_bz (by intro x hx; simp only [List.mem_cons, List.not_mem_nil, or_false] at hx; rcases hx with rfl | rfl <;> first | assumption | exact Ne.symm (by assumption))
          replace hx := hfr.toExt hx (by intro x hx; simp only [List.mem_cons, List.not_mem_nil, or_false] at hx; rcases hx with rfl | rfl <;> assumption)
          clear hfr hB_r' hB_ob' hB_r hB_ob hB_bz ho
          have hB_r := hB_r2; have hB_ob := hB_ob2; have hB_bz := hB_bz2; clear hB_r2 hB_ob2 hB_bz2
          have hok := rdBody_ok ((s.getD 0 0).toNat : Int) hk256 (vtake (s.drop 1)).1 (by omega)
          refine lnil ?_
          replace ha := ha.sub (ρ' := [(2, .pointer (some ⟨bz, 0, none⟩)), (7, .pointer (some ⟨ob, 0, none⟩)), (8, .pointer (some ⟨r, 0, none⟩))]) (by kernel_rfl)
          refine tn ?_
          refine wseq ?_
          refine wseq ?_
          refine reg hmix (ρ' := [(2, .pointer (some ⟨bz, 0, none⟩)), (7, .pointer (some ⟨ob, 0, none⟩)), (65, .bool ((((rdBody ((s.getD 0 0).toNat : Int) (vtake (s.drop 1)).1).2.2) || (!decide (((rdBody ((s.getD 0 0).toNat : Int) (vtake (s.drop 1)).1).2.1 : List UInt8) = ([] : List UInt8)))) || (!(oMay (rdBody ((s.getD 0 0).toNat : Int) (vtake (s.drop 1)).1).1))))]) (C := [RunOk Try.prog w12 (Instr.loadAt 4 (.pointer (some ⟨r, 1, none⟩))) (.bool ((rdBody ((s.getD 0 0).toNat : Int) (vtake (s.drop 1)).1).2.2)), ((rdBody ((s.getD 0 0).toNat : Int) (vtake (s.drop 1)).1).2.2) = false → All [RunOk Try.prog w12 (Instr.loadAt 9 (.pointer (some ⟨r, 0, none⟩))) (.string (S ((rdBody ((s.getD 0 0).toNat : Int) (vtake (s.drop 1)).1).2.1)))], (((rdBody ((s.getD 0 0).toNat : Int) (vtake (s.drop 1)).1).2.2) || (!decide (((rdBody ((s.getD 0 0).toNat : Int) (vtake (s.drop 1)).1).2.1 : List UInt8) = ([] : List UInt8)))) = false → All [RunOk Try.prog w12 (Instr.loadAt 44 (.pointer (some ⟨ob, 0, none⟩))) (.agg ⟨objC ((rdBody ((s.getD 0 0).toNat : Int) (vtake (s.drop 1)).1).1) none 0 A c⟩), CallOk Try.prog w12 31 #[.agg ⟨objC ((rdBody ((s.getD 0 0).toNat : Int) (vtake (s.drop 1)).1).1) none 0 A c⟩] (.bool (oMay (rdBody ((s.getD 0 0).toNat : Int) (vtake (s.drop 1)).1).1))]]) ha [(3, .val (.bool ((rdBody ((s.getD 0 0).toNat : Int) (vtake (s.drop 1)).1).2.2))), (8, .val (.string (S ((rdBody ((s.getD 0 0).toNat : Int) (vtake (s.drop 1)).1).2.1)))), (12, .val (.agg ⟨objC ((rdBody ((s.getD 0 0).toNat : Int) (vtake (s.drop 1)).1).1) none 0 A c⟩)), (13, .val (.bool (oMay (rdBody ((s.getD 0 0).toNat : Int) (vtake (s.drop 1)).1).1)))] (by kernel_rfl) (.cons (ld1 hB_r (by kernel_rfl) rfl) (.cons (fun hg5 => by exact (.cons (ld1 hB_r (by kernel_rfl) rfl) .nil)) (.cons (fun hg12 => by simp only [Bool.not_eq_true', Bool.not_eq_false', Bool.and_eq_true, Bool.or_eq_true, Bool.and_eq_false_iff, Bool.or_eq_false_iff, decide_eq_true_eq, decide_eq_false_iff_not, Bool.not_eq_true, Decidable.not_not] at hg12; exact (.cons (ldN (n := 72) hB_ob (by kernel_rfl) (by kernel_rfl) ⟨Nat.le_of_ble_eq_true (by kernel_rfl), (by kernel_rfl)⟩) (.cons (fun w2 h2 => may_ok (rdBody ((s.getD 0 0).toNat : Int) (vtake (s.drop 1)).1).1 _ _ _ _ w2 (rdE h2 (own_rd hoe)) (rdE h2 (own_rd hop)) hok) .nil))) .nil))) ?_
          clear ha a; intro a w13 ha he
          replace hx := hx.tr he
          replace hB_bz := keepB he hB_bz
          replace hB_ob := keepB he hB_ob
          replace hB_r := keepB he hB_r
          replace hoe := ownE he hoe
          replace hop := ownE he hop
          clear he
          refine tn ?_
          refine wif ha rfl (fun h65 => ?_) (fun h65 => ?_)
          · simp only [Bool.not_eq_true', Bool.not_eq_false', Bool.and_eq_true, Bool.or_eq_true, Bool.and_eq_false_iff, Bool.or_eq_false_iff, decide_eq_true_eq, decide_eq_false_iff_not, Bool.not_eq_true, Decidable.not_not] at h65
            have hres : oDec s = (obj0, 2) := by
              unfold oDec
              rw [if_neg hc1, if_neg hc2]
              simp only
              rw [if_pos]
              rcases h65 with (h | h) | h
              · exact .inl h
              · exact .inr (.inl h)
              · exact .inr (.inr h)
            refine wseq ?_
            refine reg_list ?_
            refine segp (ρ' := [(2, .pointer (some ⟨bz, 0, none⟩)), (66, .agg ⟨.int .i64 0 :: (.string (S []) :: (.slice none 0 0 :: ((idc idZ) ++ (.slice none 0 0 :: (.int .u32 0 :: (.string (S []) :: ((idc idZ) ++ (.int .i64 0 :: ([.string (S [])])))))))))⟩)]) (C := []) ha 1 [] rfl (by kernel_rfl) .nil ?_
            clear ha a; intro a ha
            refine lstore (off := 0) ha rfl rfl (by kernel_rfl) hB_bz ⟨.int .i64 0 :: (.string (S []) :: (.slice none 0 0 :: ((idc idZ) ++ (.slice none 0 0 :: (.int .u32 0 :: (.string (S []) :: ((idc idZ) ++ (.int .i64 0 :: ([.string (S [])])))))))))⟩ rfl (by kernel_rfl) (by kernel_rfl) ?_
            clear ha a; intro w14 hc a ha
            replace hB_ob := hc.keep hB_ob (by first | assumption | exact Ne.symm (by assumption))
            replace hB_r := hc.keep hB_r (by first | assumption | exact Ne.symm (by assumption))
            replace hoe := ownC hc hB_bz rfl hoe
            replace hop := ownC hc hB_bz rfl hop
            replace hx := hc.ext hx hb_bz
            replace hB_bz := hc.at_; clear hc
            refine segp (ρ' := [(2, .pointer (some ⟨bz, 0, none⟩)), (3, .int .i64 2)]) (C := []) ha 1 [] rfl (by kernel_rfl) .nil ?_
            clear ha a; intro a ha
            refine lnil ?_
            replace ha := ha.sub (ρ' := [(2, .pointer (some ⟨bz, 0, none⟩)), (3, .int .i64 2)]) (by kernel_rfl)
            refine tn ?_
            refine wret ?_
            refine (tr ?_)
            refine fin ha (.cell rfl (ldVN (n := 72) (vs := ⟨.int .i64 0 :: (.string (S []) :: (.slice none 0 0 :: ((idc idZ) ++ (.slice none 0 0 :: (.int .u32 0 :: (.string (S []) :: ((idc idZ) ++ (.int .i64 0 :: ([.string (S [])])))))))))⟩) hB_bz (by kernel_rfl) (by kernel_rfl) ⟨Nat.le_of_ble_eq_true (by kernel_rfl), (by kernel_rfl)⟩) (.tmp rfl .nil)) ?_
            exact ⟨none, 0, none, 0, by rw [hres]; rfl, by rw [hres]; exact own_nil _ _ _ _, by rw [hres]; exact own_nil _ _ _ _, hx⟩
          · simp only [Bool.not_eq_true', Bool.not_eq_false', Bool.and_eq_true, Bool.or_eq_true, Bool.and_eq_false_iff, Bool.or_eq_false_iff, decide_eq_true_eq, decide_eq_false_iff_not, Bool.not_eq_true, Decidable.not_not] at h65
            have hres : oDec s = ((rdBody ((s.getD 0 0).toNat : Int) (vtake (s.drop 1)).1).1, 0) := by
              unfold oDec
              rw [if_neg hc1, if_neg hc2]
              simp only
              rw [if_neg]
              rintro (h | h | h)
              · rw [h65.1.1] at h; cases h
              · exact h h65.1.2
              · rw [h65.2] at h; cases h
            refine wskip ?_
            refine tn ?_
            refine wseq ?_
            refine reg_list ?_
            refine segp (ρ' := [(2, .pointer (some ⟨bz, 0, none⟩)), (67, .agg ⟨objC ((rdBody ((s.getD 0 0).toNat : Int) (vtake (s.drop 1)).1).1) none 0 A c⟩)]) (C := [RunOk Try.prog w13 (Instr.loadAt 44 (.pointer (some ⟨ob, 0, none⟩))) (.agg ⟨objC ((rdBody ((s.getD 0 0).toNat : Int) (vtake (s.drop 1)).1).1) none 0 A c⟩)]) ha 1 [(0, .val (.agg ⟨objC ((rdBody ((s.getD 0 0).toNat : Int) (vtake (s.drop 1)).1).1) none 0 A c⟩))] rfl (by kernel_rfl) (.cons (ldN (n := 72) hB_ob (by kernel_rfl) (by kernel_rfl) ⟨Nat.le_of_ble_eq_true (by kernel_rfl), (by kernel_rfl)⟩) .nil) ?_
            clear ha a; intro a ha
            refine lstore (off := 0) ha rfl rfl (by kernel_rfl) hB_bz ⟨objC ((rdBody ((s.getD 0 0).toNat : Int) (vtake (s.drop 1)).1).1) none 0 A c⟩ rfl (by kernel_rfl) (by kernel_rfl) ?_
            clear ha a; intro w15 hc a ha
            replace hB_ob := hc.keep hB_ob (by first | assumption | exact Ne.symm (by assumption))
            replace hB_r := hc.keep hB_r (by first | assumption | exact Ne.symm (by assumption))
            replace hoe := ownC hc hB_bz rfl hoe
            replace hop := ownC hc hB_bz rfl hop
            replace hx := hc.ext hx hb_bz
            replace hB_bz := hc.at_; clear hc
            refine segp (ρ' := [(2, .pointer (some ⟨bz, 0, none⟩)), (3, .int .i64 0)]) (C := []) ha 1 [] rfl (by kernel_rfl) .nil ?_
            clear ha a; intro a ha
            refine lnil ?_
            replace ha := ha.sub (ρ' := [(2, .pointer (some ⟨bz, 0, none⟩)), (3, .int .i64 0)]) (by kernel_rfl)
            refine tn ?_
            refine wret ?_
            refine fin ha (.cell rfl (ldVN (n := 72) (vs := ⟨objC ((rdBody ((s.getD 0 0).toNat : Int) (vtake (s.drop 1)).1).1) none 0 A c⟩) hB_bz (by kernel_rfl) (by kernel_rfl) ⟨Nat.le_of_ble_eq_true (by kernel_rfl), (by kernel_rfl)⟩) (.tmp rfl .nil)) ?_
            exact ⟨_, _, _, _, by rw [hres]; rfl, by rw [hres]; exact hoe, by rw [hres]; exact hop, hx⟩
        · replace h43 := of_decide_eq_false h43
          have hk3 := h43
          refine wseq ?_
          refine regp (ρ' := [(2, .pointer (some ⟨bz, 0, none⟩)), (7, .pointer (some ⟨ob, 0, none⟩)), (8, .pointer (some ⟨r, 0, none⟩)), (9, .func (.func 35) #[] #[]), (45, .bool (decide ((((s.getD 0 0).toNat : Nat) : Int) = 4)))]) (C := []) ha [] (by kernel_rfl) .nil ?_
          clear ha a; intro a ha
          refine tn ?_
          refine wif ha rfl (fun h45 => ?_) (fun h45 => ?_)
          · replace h45 := of_decide_eq_true h45
            have hk := h45
            refine regp (ρ' := [(2, .pointer (some ⟨bz, 0, none⟩)), (7, .pointer (some ⟨ob, 0, none⟩)), (8, .pointer (some ⟨r, 0, none⟩)), (9, .func (.func 38) #[] #[])]) (C := []) ha [] (by kernel_rfl) .nil ?_
            clear ha a; intro a ha
            refine bn ?_
            refine tn ?_
            refine wseq ?_
            refine reg_list ?_
            refine segp (ρ' := [(2, .pointer (some ⟨bz, 0, none⟩)), (7, .pointer (some ⟨ob, 0, none⟩)), (8, .pointer (some ⟨r, 0, none⟩)), (47, .func (.func 38) #[] #[]), (48, .pointer (some ⟨r, 0, none⟩))]) (C := []) ha 2 [] rfl (by kernel_rfl) .nil ?_
            clear ha a; intro a ha
            refine lcall (vs := #[.pointer (some ⟨r, 0, none⟩), .pointer (some ⟨ob, 0, none⟩)]) ha rfl (by kernel_rfl) rfl rfl (by kernel_rfl) (by kernel_rfl) (rtag_ok r ob ((s.getD 0 0).toNat : Int) (vtake (s.drop 1)).1 false w7 (by first | assumption | exact Ne.symm (by assumption)) hB_r hB_ob (by omega)) ?_
            clear ha a; rintro _ w16 ⟨rfl, hfr, hB_r', hB_ob'⟩ a ha
            have hB_r2 : w16.heap[r]? = some (.cells #[.string (S (rdBody ((s.getD 0 0).toNat : Int) (vtake (s.drop 1)).1).2.1), .bool (rdBody ((s.getD 0 0).toNat : Int) (vtake (s.drop 1)).1).2.2] 76 (0, 0)) := by rw [rdBody, if_neg hk2, if_neg hk3, if_pos hk]; exact hB_r'
            have hB_ob2 : w16.heap[ob]? = some (.cells ⟨objC (rdBody ((s.getD 0 0).toNat : Int) (vtake (s.drop 1)).1).1 none 0 none 0⟩ 44 (0, 0)) := by rw [rdBody, if_neg hk2, if_neg hk3, if_pos hk]; exact hB_ob'
            have hoe : Own w16 w.heap.size 70 34 none (rdBody ((s.getD 0 0).toNat : Int) (vtake (s.drop 1)).1).1.Entries.length 0 ((rdBody ((s.getD 0 0).toNat : Int) (vtake (s.drop 1)).1).1.Entries.flatMap encEnt) := by rw [rdBody, if_neg hk2, if_neg hk3, if_pos hk]; exact own_nil _ _ _ _
            have hop : Own w16 w.heap.size 40 32 none (rdBody ((s.getD 0 0).toNat : Int) (vtake (s.drop 1)).1).1.Parents.length 0 ((rdBody ((s.getD 0 0).toNat : Int) (vtake (s.drop 1)).1).1.Parents.flatMap idc) := by rw [rdBody, if_neg hk2, if_neg hk3, if_pos hk]; exact own_nil _ _ _ _
            have hB_bz2 := hfr.keep hB_bz (by intro x hx; simp only [List.mem_cons, List.not_mem_nil, or_false] at hx; rcases hx with rfl | rfl <;> first | assumption | exact Ne.symm (by assumption))
            replace hx := hfr.toExt hx (by intro x hx; simp only [List.mem_cons, List.not_mem_nil, or_false] at hx; rcases hx with rfl | rfl <;> assumption)
            clear hfr hB_r' hB_ob' hB_r hB_ob hB_bz
            have hB_r := hB_r2; have hB_ob := hB_ob2; have hB_bz := hB_bz2; clear hB_r2 hB_ob2 hB_bz2
            have hok := rdBody_ok ((s.getD 0 0).toNat : Int) hk256 (vtake (s.drop 1)).1 (by omega)
            refine lnil ?_
            replace ha := ha.sub (ρ' := [(2, .pointer (some ⟨bz, 0, none⟩)), (7, .pointer (some ⟨ob, 0, none⟩)), (8, .pointer (some ⟨r, 0, none⟩))]) (by kernel_rfl)
            refine tn ?_
            refine wseq ?_
            refine wseq ?_
            refine reg hmix (ρ' := [(2, .pointer (some ⟨bz, 0, none⟩)), (7, .pointer (some ⟨ob, 0, none⟩)), (65, .bool ((((rdBody ((s.getD 0 0).toNat : Int) (vtake (s.drop 1)).1).2.2) || (!decide (((rdBody ((s.getD 0 0).toNat : Int) (vtake (s.drop 1)).1).2.1 : List UInt8) = ([] : List UInt8)))) || (!(oMay (rdBody ((s.getD 0 0).toNat : Int) (vtake (s.drop 1)).1).1))))]) (C := [RunOk Try.prog w16 (Instr.loadAt 4 (.pointer (some ⟨r, 1, none⟩))) (.bool ((rdBody ((s.getD 0 0).toNat : Int) (vtake (s.drop 1)).1).2.2)), ((rdBody ((s.getD 0 0).toNat : Int) (vtake (s.drop 1)).1).2.2) = false → All [RunOk Try.prog w16 (Instr.loadAt 9 (.pointer (some ⟨r, 0, none⟩))) (.string (S ((rdBody ((s.getD 0 0).toNat : Int) (vtake (s.drop 1)).1).2.1)))], (((rdBody ((s.getD 0 0).toNat : Int) (vtake (s.drop 1)).1).2.2) || (!decide (((rdBody ((s.getD 0 0).toNat : Int) (vtake (s.drop 1)).1).2.1 : List UInt8) = ([] : List UInt8)))) = false → All [RunOk Try.prog w16 (Instr.loadAt 44 (.pointer (some ⟨ob, 0, none⟩))) (.agg ⟨objC ((rdBody ((s.getD 0 0).toNat : Int) (vtake (s.drop 1)).1).1) none 0 none 0⟩), CallOk Try.prog w16 31 #[.agg ⟨objC ((rdBody ((s.getD 0 0).toNat : Int) (vtake (s.drop 1)).1).1) none 0 none 0⟩] (.bool (oMay (rdBody ((s.getD 0 0).toNat : Int) (vtake (s.drop 1)).1).1))]]) ha [(3, .val (.bool ((rdBody ((s.getD 0 0).toNat : Int) (vtake (s.drop 1)).1).2.2))), (8, .val (.string (S ((rdBody ((s.getD 0 0).toNat : Int) (vtake (s.drop 1)).1).2.1)))), (12, .val (.agg ⟨objC ((rdBody ((s.getD 0 0).toNat : Int) (vtake (s.drop 1)).1).1) none 0 none 0⟩)), (13, .val (.bool (oMay (rdBody ((s.getD 0 0).toNat : Int) (vtake (s.drop 1)).1).1)))] (by kernel_rfl) (.cons (ld1 hB_r (by kernel_rfl) rfl) (.cons (fun hg5 => by exact (.cons (ld1 hB_r (by kernel_rfl) rfl) .nil)) (.cons (fun hg12 => by simp only [Bool.not_eq_true', Bool.not_eq_false', Bool.and_eq_true, Bool.or_eq_true, Bool.and_eq_false_iff, Bool.or_eq_false_iff, decide_eq_true_eq, decide_eq_false_iff_not, Bool.not_eq_true, Decidable.not_not] at hg12; exact (.cons (ldN (n := 72) hB_ob (by kernel_rfl) (by kernel_rfl) ⟨Nat.le_of_ble_eq_true (by kernel_rfl), (by kernel_rfl)⟩) (.cons (fun w2 h2 => may_ok (rdBody ((s.getD 0 0).toNat : Int) (vtake (s.drop 1)).1).1 _ _ _ _ w2 (rdE h2 (own_rd hoe)) (rdE h2 (own_rd hop)) hok) .nil))) .nil))) ?_
            clear ha a; intro a w17 ha he
            replace hx := hx.tr he
            replace hB_bz := keepB he hB_bz
            replace hB_ob := keepB he hB_ob
            replace hB_r := keepB he hB_r
            replace hoe := ownE he hoe
            replace hop := ownE he hop
            clear he
            refine tn ?_
            refine wif ha rfl (fun h65 => ?_) (fun h65 => ?_)
            · simp only [Bool.not_eq_true', Bool.not_eq_false', Bool.and_eq_true, Bool.or_eq_true, Bool.and_eq_false_iff, Bool.or_eq_false_iff, decide_eq_true_eq, decide_eq_false_iff_not, Bool.not_eq_true, Decidable.not_not] at h65
              have hres : oDec s = (obj0, 2) := by
                unfold oDec
                rw [if_neg hc1, if_neg hc2]
                simp only
                rw [if_pos]
                rcases h65 with (h | h) | h
                · exact .inl h
                · exact .inr (.inl h)
                · exact .inr (.inr h)
              refine wseq ?_
              refine reg_list ?_
              refine segp (ρ' := [(2, .pointer (some ⟨bz, 0, none⟩)), (66, .agg ⟨.int .i64 0 :: (.string (S []) :: (.slice none 0 0 :: ((idc idZ) ++ (.slice none 0 0 :: (.int .u32 0 :: (.string (S []) :: ((idc idZ) ++ (.int .i64 0 :: ([.string (S [])])))))))))⟩)]) (C := []) ha 1 [] rfl (by kernel_rfl) .nil ?_
              clear ha a; intro a ha
              refine lstore (off := 0) ha rfl rfl (by kernel_rfl) hB_bz ⟨.int .i64 0 :: (.string (S []) :: (.slice none 0 0 :: ((idc idZ) ++ (.slice none 0 0 :: (.int .u32 0 :: (.string (S []) :: ((idc idZ) ++ (.int .i64 0 :: ([.string (S [])])))))))))⟩ rfl (by kernel_rfl) (by kernel_rfl) ?_
              clear ha a; intro w18 hc a ha
              replace hB_ob := hc.keep hB_ob (by first | assumption | exact Ne.symm (by assumption))
              replace hB_r := hc.keep hB_r (by first | assumption | exact Ne.symm (by assumption))
              replace hoe := ownC hc hB_bz rfl hoe
              replace hop := ownC hc hB_bz rfl hop
              replace hx := hc.ext hx hb_bz
              replace hB_bz := hc.at_; clear hc
              refine segp (ρ' := [(2, .pointer (some ⟨bz, 0, none⟩)), (3, .int .i64 2)]) (C := []) ha 1 [] rfl (by kernel_rfl) .nil ?_
              clear ha a; intro a ha
              refine lnil ?_
              replace ha := ha.sub (ρ' := [(2, .pointer (some ⟨bz, 0, none⟩)), (3, .int .i64 2)]) (by kernel_rfl)
              refine tn ?_
              refine wret ?_
              refine (tr ?_)
              refine fin ha (.cell rfl (ldVN (n := 72) (vs := ⟨.int .i64 0 :: (.string (S []) :: (.slice none 0 0 :: ((idc idZ) ++ (.slice none 0 0 :: (.int .u32 0 :: (.string (S []) :: ((idc idZ) ++ (.int .i64 0 :: ([.string (S [])])))))))))⟩) hB_bz (by kernel_rfl) (by kernel_rfl) ⟨Nat.le_of_ble_eq_true (by kernel_rfl), (by kernel_rfl)⟩) (.tmp rfl .nil)) ?_
              exact ⟨none, 0, none, 0, by rw [hres]; rfl, by rw [hres]; exact own_nil _ _ _ _, by rw [hres]; exact own_nil _ _ _ _, hx⟩
            · simp only [Bool.not_eq_true', Bool.not_eq_false', Bool.and_eq_true, Bool.or_eq_true, Bool.and_eq_false_iff, Bool.or_eq_false_iff, decide_eq_true_eq, decide_eq_false_iff_not, Bool.not_eq_true, Decidable.not_not] at h65
              have hres : oDec s = ((rdBody ((s.getD 0 0).toNat : Int) (vtake (s.drop 1)).1).1, 0) := by
                unfold oDec
                rw [if_neg hc1, if_neg hc2]
                simp only
                rw [if_neg]
                rintro (h | h | h)
                · rw [h65.1.1] at h; cases h
                · exact h h65.1.2
                · rw [h65.2] at h; cases h
              refine wskip ?_
              refine tn ?_
              refine wseq ?_
              refine reg_list ?_
              refine segp (ρ' := [(2, .pointer (some ⟨bz, 0, none⟩)), (67, .agg ⟨objC ((rdBody ((s.getD 0 0).toNat : Int) (vtake (s.drop 1)).1).1) none 0 none 0⟩)]) (C := [RunOk Try.prog w17 (Instr.loadAt 44 (.pointer (some ⟨ob, 0, none⟩))) (.agg ⟨objC ((rdBody ((s.getD 0 0).toNat : Int) (vtake (s.drop 1)).1).1) none 0 none 0⟩)]) ha 1 [(0, .val (.agg ⟨objC ((rdBody ((s.getD 0 0).toNat : Int) (vtake (s.drop 1)).1).1) none 0 none 0⟩))] rfl (by kernel_rfl) (.cons (ldN (n := 72) hB_ob (by kernel_rfl) (by kernel_rfl) ⟨Nat.le_of_ble_eq_true (by kernel_rfl), (by kernel_rfl)⟩) .nil) ?_
              clear ha a; intro a ha
              refine lstore (off := 0) ha rfl rfl (by kernel_rfl) hB_bz ⟨objC ((rdBody ((s.getD 0 0).toNat : Int) (vtake (s.drop 1)).1).1) none 0 none 0⟩ rfl (by kernel_rfl) (by kernel_rfl) ?_
              clear ha a; intro w19 hc a ha
              replace hB_ob := hc.keep hB_ob (by first | assumption | exact Ne.symm (by assumption))
              replace hB_r := hc.keep hB_r (by first | assumption | exact Ne.symm (by assumption))
              replace hoe := ownC hc hB_bz rfl hoe
              replace hop := ownC hc hB_bz rfl hop
              replace hx := hc.ext hx hb_bz
              replace hB_bz := hc.at_; clear hc
              refine segp (ρ' := [(2, .pointer (some ⟨bz, 0, none⟩)), (3, .int .i64 0)]) (C := []) ha 1 [] rfl (by kernel_rfl) .nil ?_
              clear ha a; intro a ha
              refine lnil ?_
              replace ha := ha.sub (ρ' := [(2, .pointer (some ⟨bz, 0, none⟩)), (3, .int .i64 0)]) (by kernel_rfl)
              refine tn ?_
              refine wret ?_
              refine fin ha (.cell rfl (ldVN (n := 72) (vs := ⟨objC ((rdBody ((s.getD 0 0).toNat : Int) (vtake (s.drop 1)).1).1) none 0 none 0⟩) hB_bz (by kernel_rfl) (by kernel_rfl) ⟨Nat.le_of_ble_eq_true (by kernel_rfl), (by kernel_rfl)⟩) (.tmp rfl .nil)) ?_
              exact ⟨_, _, _, _, by rw [hres]; rfl, by rw [hres]; exact hoe, by rw [hres]; exact hop, hx⟩
          · replace h45 := of_decide_eq_false h45
            have hk4 := h45
            refine wskip ?_
            refine bn ?_
            refine tn ?_
            refine wseq ?_
            refine reg_list ?_
            refine segp (ρ' := [(2, .pointer (some ⟨bz, 0, none⟩)), (7, .pointer (some ⟨ob, 0, none⟩)), (8, .pointer (some ⟨r, 0, none⟩)), (47, .func (.func 35) #[] #[]), (48, .pointer (some ⟨r, 0, none⟩))]) (C := []) ha 2 [] rfl (by kernel_rfl) .nil ?_
            clear ha a; intro a ha
            refine lcall (vs := #[.pointer (some ⟨r, 0, none⟩), .pointer (some ⟨ob, 0, none⟩)]) ha rfl (by kernel_rfl) rfl rfl (by kernel_rfl) (by kernel_rfl) (rblob_ok r ob ((s.getD 0 0).toNat : Int) (vtake (s.drop 1)).1 false w7 (by first | assumption | exact Ne.symm (by assumption)) hB_r hB_ob (by omega)) ?_
            clear ha a; rintro _ w20 ⟨rfl, hfr, hB_r', hB_ob'⟩ a ha
            have hB_r2 : w20.heap[r]? = some (.cells #[.string (S (rdBody ((s.getD 0 0).toNat : Int) (vtake (s.drop 1)).1).2.1), .bool (rdBody ((s.getD 0 0).toNat : Int) (vtake (s.drop 1)).1).2.2] 76 (0, 0)) := by rw [rdBody, if_neg hk2, if_neg hk3, if_neg hk4]; exact hB_r'
            have hB_ob2 : w20.heap[ob]? = some (.cells ⟨objC (rdBody ((s.getD 0 0).toNat : Int) (vtake (s.drop 1)).1).1 none 0 none 0⟩ 44 (0, 0)) := by rw [rdBody, if_neg hk2, if_neg hk3, if_neg hk4]; exact hB_ob'
            have hoe : Own w20 w.heap.size 70 34 none (rdBody ((s.getD 0 0).toNat : Int) (vtake (s.drop 1)).1).1.Entries.length 0 ((rdBody ((s.getD 0 0).toNat : Int) (vtake (s.drop 1)).1).1.Entries.flatMap encEnt) := by rw [rdBody, if_neg hk2, if_neg hk3, if_neg hk4]; exact own_nil _ _ _ _
            have hop : Own w20 w.heap.size 40 32 none (rdBody ((s.getD 0 0).toNat : Int) (vtake (s.drop 1)).1).1.Parents.length 0 ((rdBody ((s.getD 0 0).toNat : Int) (vtake (s.drop 1)).1).1.Parents.flatMap idc) := by rw [rdBody, if_neg hk2, if_neg hk3, if_neg hk4]; exact own_nil _ _ _ _
            have hB_bz2 := hfr.keep hB_bz (by intro x hx; simp only [List.mem_cons, List.not_mem_nil, or_false] at hx; rcases hx with rfl | rfl <;> first | assumption | exact Ne.symm (by assumption))
            replace hx := hfr.toExt hx (by intro x hx; simp only [List.mem_cons, List.not_mem_nil, or_false] at hx; rcases hx with rfl | rfl <;> assumption)
            clear hfr hB_r' hB_ob' hB_r hB_ob hB_bz
            have hB_r := hB_r2; have hB_ob := hB_ob2; have hB_bz := hB_bz2; clear hB_r2 hB_ob2 hB_bz2
            have hok := rdBody_ok ((s.getD 0 0).toNat : Int) hk256 (vtake (s.drop 1)).1 (by omega)
            refine lnil ?_
            replace ha := ha.sub (ρ' := [(2, .pointer (some ⟨bz, 0, none⟩)), (7, .pointer (some ⟨ob, 0, none⟩)), (8, .pointer (some ⟨r, 0, none⟩))]) (by kernel_rfl)
            refine tn ?_
            refine wseq ?_
            refine wseq ?_
            refine reg hmix (ρ' := [(2, .pointer (some ⟨bz, 0, none⟩)), (7, .pointer (some ⟨ob, 0, none⟩)), (65, .bool ((((rdBody ((s.getD 0 0).toNat : Int) (vtake (s.drop 1)).1).2.2) || (!decide (((rdBody ((s.getD 0 0).toNat : Int) (vtake (s.drop 1)).1).2.1 : List UInt8) = ([] : List UInt8)))) || (!(oMay (rdBody ((s.getD 0 0).toNat : Int) (vtake (s.drop 1)).1).1))))]) (C := [RunOk Try.prog w20 (Instr.loadAt 4 (.pointer (some ⟨r, 1, none⟩))) (.bool ((rdBody ((s.getD 0 0).toNat : Int) (vtake (s.drop 1)).1).2.2)), ((rdBody ((s.getD 0 0).toNat : Int) (vtake (s.drop 1)).1).2.2) = false → All [RunOk Try.prog w20 (Instr.loadAt 9 (.pointer (some ⟨r, 0, none⟩))) (.string (S ((rdBody ((s.getD 0 0).toNat : Int) (vtake (s.drop 1)).1).2.1)))], (((rdBody ((s.getD 0 0).toNat : Int) (vtake (s.drop 1)).1).2.2) || (!decide (((rdBody ((s.getD 0 0).toNat : Int) (vtake (s.drop 1)).1).2.1 : List UInt8) = ([] : List UInt8)))) = false → All [RunOk Try.prog w20 (Instr.loadAt 44 (.pointer (some ⟨ob, 0, none⟩))) (.agg ⟨objC ((rdBody ((s.getD 0 0).toNat : Int) (vtake (s.drop 1)).1).1) none 0 none 0⟩), CallOk Try.prog w20 31 #[.agg ⟨objC ((rdBody ((s.getD 0 0).toNat : Int) (vtake (s.drop 1)).1).1) none 0 none 0⟩] (.bool (oMay (rdBody ((s.getD 0 0).toNat : Int) (vtake (s.drop 1)).1).1))]]) ha [(3, .val (.bool ((rdBody ((s.getD 0 0).toNat : Int) (vtake (s.drop 1)).1).2.2))), (8, .val (.string (S ((rdBody ((s.getD 0 0).toNat : Int) (vtake (s.drop 1)).1).2.1)))), (12, .val (.agg ⟨objC ((rdBody ((s.getD 0 0).toNat : Int) (vtake (s.drop 1)).1).1) none 0 none 0⟩)), (13, .val (.bool (oMay (rdBody ((s.getD 0 0).toNat : Int) (vtake (s.drop 1)).1).1)))] (by kernel_rfl) (.cons (ld1 hB_r (by kernel_rfl) rfl) (.cons (fun hg5 => by exact (.cons (ld1 hB_r (by kernel_rfl) rfl) .nil)) (.cons (fun hg12 => by simp only [Bool.not_eq_true', Bool.not_eq_false', Bool.and_eq_true, Bool.or_eq_true, Bool.and_eq_false_iff, Bool.or_eq_false_iff, decide_eq_true_eq, decide_eq_false_iff_not, Bool.not_eq_true, Decidable.not_not] at hg12; exact (.cons (ldN (n := 72) hB_ob (by kernel_rfl) (by kernel_rfl) ⟨Nat.le_of_ble_eq_true (by kernel_rfl), (by kernel_rfl)⟩) (.cons (fun w2 h2 => may_ok (rdBody ((s.getD 0 0).toNat : Int) (vtake (s.drop 1)).1).1 _ _ _ _ w2 (rdE h2 (own_rd hoe)) (rdE h2 (own_rd hop)) hok) .nil))) .nil))) ?_
            clear ha a; intro a w21 ha he
            replace hx := hx.tr he
            replace hB_bz := keepB he hB_bz
            replace hB_ob := keepB he hB_ob
            replace hB_r := keepB he hB_r
            replace hoe := ownE he hoe
            replace hop := ownE he hop
            clear he
            refine tn ?_
            refine wif ha rfl (fun h65 => ?_) (fun h65 => ?_)
            · simp only [Bool.not_eq_true', Bool.not_eq_false', Bool.and_eq_true, Bool.or_eq_true, Bool.and_eq_false_iff, Bool.or_eq_false_iff, decide_eq_true_eq, decide_eq_false_iff_not, Bool.not_eq_true, Decidable.not_not] at h65
              have hres : oDec s = (obj0, 2) := by
                unfold oDec
                rw [if_neg hc1, if_neg hc2]
                simp only
                rw [if_pos]
                rcases h65 with (h | h) | h
                · exact .inl h
                · exact .inr (.inl h)
                · exact .inr (.inr h)
              refine wseq ?_
              refine reg_list ?_
              refine segp (ρ' := [(2, .pointer (some ⟨bz, 0, none⟩)), (66, .agg ⟨.int .i64 0 :: (.string (S []) :: (.slice none 0 0 :: ((idc idZ) ++ (.slice none 0 0 :: (.int .u32 0 :: (.string (S []) :: ((idc idZ) ++ (.int .i64 0 :: ([.string (S [])])))))))))⟩)]) (C := []) ha 1 [] rfl (by kernel_rfl) .nil ?_
              clear ha a; intro a ha
              refine lstore (off := 0) ha rfl rfl (by kernel_rfl) hB_bz ⟨.int .i64 0 :: (.string (S []) :: (.slice none 0 0 :: ((idc idZ) ++ (.slice none 0 0 :: (.int .u32 0 :: (.string (S []) :: ((idc idZ) ++ (.int .i64 0 :: ([.string (S [])])))))))))⟩ rfl (by kernel_rfl) (by kernel_rfl) ?_
              clear ha a; intro w22 hc a ha
              replace hB_ob := hc.keep hB_ob (by first | assumption | exact Ne.symm (by assumption))
              replace hB_r := hc.keep hB_r (by first | assumption | exact Ne.symm (by assumption))
              replace hoe := ownC hc hB_bz rfl hoe
              replace hop := ownC hc hB_bz rfl hop
              replace hx := hc.ext hx hb_bz
              replace hB_bz := hc.at_; clear hc
              refine segp (ρ' := [(2, .pointer (some ⟨bz, 0, none⟩)), (3, .int .i64 2)]) (C := []) ha 1 [] rfl (by kernel_rfl) .nil ?_
              clear ha a; intro a ha
              refine lnil ?_
              replace ha := ha.sub (ρ' := [(2, .pointer (some ⟨bz, 0, none⟩)), (3, .int .i64 2)]) (by kernel_rfl)
              refine tn ?_
              refine wret ?_
              refine (tr ?_)
              refine fin ha (.cell rfl (ldVN (n := 72) (vs := ⟨.int .i64 0 :: (.string (S []) :: (.slice none 0 0 :: ((idc idZ) ++ (.slice none 0 0 :: (.int .u32 0 :: (.string (S []) :: ((idc idZ) ++ (.int .i64 0 :: ([.string (S [])])))))))))⟩) hB_bz (by kernel_rfl) (by kernel_rfl) ⟨Nat.le_of_ble_eq_true (by kernel_rfl), (by kernel_rfl)⟩) (.tmp rfl .nil)) ?_
              exact ⟨none, 0, none, 0, by rw [hres]; rfl, by rw [hres]; exact own_nil _ _ _ _, by rw [hres]; exact own_nil _ _ _ _, hx⟩
            · simp only [Bool.not_eq_true', Bool.not_eq_false', Bool.and_eq_true, Bool.or_eq_true, Bool.and_eq_false_iff, Bool.or_eq_false_iff, decide_eq_true_eq, decide_eq_false_iff_not, Bool.not_eq_true, Decidable.not_not] at h65
              have hres : oDec s = ((rdBody ((s.getD 0 0).toNat : Int) (vtake (s.drop 1)).1).1, 0) := by
                unfold oDec
                rw [if_neg hc1, if_neg hc2]
                simp only
                rw [if_neg]
                rintro (h | h | h)
                · rw [h65.1.1] at h; cases h
                · exact h h65.1.2
                · rw [h65.2] at h; cases h
              refine wskip ?_
              refine tn ?_
              refine wseq ?_
              refine reg_list ?_
              refine segp (ρ' := [(2, .pointer (some ⟨bz, 0, none⟩)), (67, .agg ⟨objC ((rdBody ((s.getD 0 0).toNat : Int) (vtake (s.drop 1)).1).1) none 0 none 0⟩)]) (C := [RunOk Try.prog w21 (Instr.loadAt 44 (.pointer (some ⟨ob, 0, none⟩))) (.agg ⟨objC ((rdBody ((s.getD 0 0).toNat : Int) (vtake (s.drop 1)).1).1) none 0 none 0⟩)]) ha 1 [(0, .val (.agg ⟨objC ((rdBody ((s.getD 0 0).toNat : Int) (vtake (s.drop 1)).1).1) none 0 none 0⟩))] rfl (by kernel_rfl) (.cons (ldN (n := 72) hB_ob (by kernel_rfl) (by kernel_rfl) ⟨Nat.le_of_ble_eq_true (by kernel_rfl), (by kernel_rfl)⟩) .nil) ?_
              clear ha a; intro a ha
              refine lstore (off := 0) ha rfl rfl (by kernel_rfl) hB_bz ⟨objC ((rdBody ((s.getD 0 0).toNat : Int) (vtake (s.drop 1)).1).1) none 0 none 0⟩ rfl (by kernel_rfl) (by kernel_rfl) ?_
              clear ha a; intro w23 hc a ha
              replace hB_ob := hc.keep hB_ob (by first | assumption | exact Ne.symm (by assumption))
              replace hB_r := hc.keep hB_r (by first | assumption | exact Ne.symm (by assumption))
              replace hoe := ownC hc hB_bz rfl hoe
              replace hop := ownC hc hB_bz rfl hop
              replace hx := hc.ext hx hb_bz
              replace hB_bz := hc.at_; clear hc
              refine segp (ρ' := [(2, .pointer (some ⟨bz, 0, none⟩)), (3, .int .i64 0)]) (C := []) ha 1 [] rfl (by kernel_rfl) .nil ?_
              clear ha a; intro a ha
              refine lnil ?_
              replace ha := ha.sub (ρ' := [(2, .pointer (some ⟨bz, 0, none⟩)), (3, .int .i64 0)]) (by kernel_rfl)
              refine tn ?_
              refine wret ?_
              refine fin ha (.cell rfl (ldVN (n := 72) (vs := ⟨objC ((rdBody ((s.getD 0 0).toNat : Int) (vtake (s.drop 1)).1).1) none 0 none 0⟩) hB_bz (by kernel_rfl) (by kernel_rfl) ⟨Nat.le_of_ble_eq_true (by kernel_rfl), (by kernel_rfl)⟩) (.tmp rfl .nil)) ?_
              exact ⟨_, _, _, _, by rw [hres]; rfl, by rw [hres]; exact hoe, by rw [hres]; exact hop, hx⟩
end Go.Kn
