import Derived.Test.YtihmegmambmljaaPlainJ
import Derived.Test.YtihmegmambmljaaWs
set_option linter.unusedSimpArgs false
set_option linter.unusedVariables false
set_option maxRecDepth 100000
namespace Go.Kn
open Go.Proofs
theorem oEnc_len (o : ObjL) : (oEnc o).1.length ≤ 4096 := by
  unfold oEnc
  split
  · simp
  split
  · simp
  · simp only; omega
theorem objectBack_walk (o : ObjL) (Ae Ap : Option Addr) (ce cp : Nat) (s : List UInt8) (w : World) (hoe : Rd w 34 Ae o.Entries.length (o.Entries.flatMap encEnt)) (hop : Rd w 32 Ap o.Parents.length (o.Parents.flatMap idc)) (hok : ObjOk o) (hs : s.length ≤ 9223372036854775807) :
    Fn Try.prog 6 #[.agg ⟨objC o Ae ce Ap cp⟩, .string (S s)] w (fun x w' => x = .bool true ∧ Ext w w') := by
  have hx : Ext w w := Ext.rfl' w
  refine enter (N := 75) (args := [.agg ⟨objC o Ae ce Ap cp⟩, .string (S s)]) Try.func6 rfl rfl rfl ?_
  intro a ha
  simp only [argEnv, Nat.zero_add, Nat.reduceAdd] at ha
  refine wseq ?_
  refine reg_list ?_
  refine lnew ha rfl (by kernel_rfl) ⟨objC o Ae ce Ap cp⟩ 44 (by kernel_rfl) ?_
  clear ha a; intro bo w1 he hb_bo hB_bo a ha
  replace hb_bo := Nat.le_trans hx.size hb_bo
  replace hx := hx.tr he
  clear he
  refine segp (ρ' := [(1, .string (S s)), (2, .pointer (some ⟨bo, 0, none⟩))]) (C := []) ha 1 [] rfl (by kernel_rfl) .nil ?_
  clear ha a; intro a ha
  refine lnil ?_
  replace ha := ha.sub (ρ' := [(1, .string (S s)), (2, .pointer (some ⟨bo, 0, none⟩))]) (by kernel_rfl)
  refine tn ?_
  refine wseq ?_
  refine reg hmix (ρ' := [(1, .string (S s)), (2, .pointer (some ⟨bo, 0, none⟩)), (5, .bool (oFew o))]) (C := [RunOk Try.prog w1 (Instr.loadAt 44 (.pointer (some ⟨bo, 0, none⟩))) (.agg ⟨objC o Ae ce Ap cp⟩), CallOk Try.prog w1 13 #[.agg ⟨objC o Ae ce Ap cp⟩] (.bool (oFew o))]) ha [(0, .val (.agg ⟨objC o Ae ce Ap cp⟩)), (1, .val (.bool (oFew o)))] (by kernel_rfl) (.cons (ldN (n := 72) hB_bo (by kernel_rfl) (by kernel_rfl) ⟨Nat.le_of_ble_eq_true (by kernel_rfl), (by kernel_rfl)⟩) (.cons (fun w2 h2 => few_ok o _ _ _ _ w2 (rdE h2 (rdE hx hoe)) (rdE h2 (rdE hx hop)) hok) .nil)) ?_
  clear ha a; intro a w2 ha he
  replace hx := hx.tr he
  replace hB_bo := keepB he hB_bo
  clear he
  refine tn ?_
  refine wseq ?_
  refine wseq ?_
  refine regp (ρ' := [(1, .string (S s)), (2, .pointer (some ⟨bo, 0, none⟩)), (23, .bool ((!(oFew o)) || (decide ((5000 : Int) < ((s.length : Nat) : Int)))))]) (C := []) ha [] (by kernel_rfl) .nil ?_
  clear ha a; intro a ha
  refine tn ?_
  refine wif ha rfl (fun h23 => ?_) (fun h23 => ?_)
  · simp only [Bool.not_eq_true', Bool.not_eq_false', Bool.and_eq_true, Bool.or_eq_true, Bool.and_eq_false_iff, Bool.or_eq_false_iff, decide_eq_true_eq, decide_eq_false_iff_not, Bool.not_eq_true, Decidable.not_not] at h23
    refine wseq ?_
    refine reg hmix (ρ' := [(4, .bool true)]) (C := [CallOk Try.prog w2 14 #[] (.bool true)]) ha [(0, .val (.bool true))] (by kernel_rfl) (.cons (fun w _ => knows4_ok w) .nil) ?_
    clear ha a; intro a w3 ha he
    replace hx := hx.tr he
    replace hB_bo := keepB he hB_bo
    clear he
    refine tn ?_
    refine wret ?_
    refine (tr ?_)
    refine fin ha (.tmp rfl .nil) ?_
    refine ⟨congrArg Value.bool ?_, hx⟩
    rfl
  · simp only [Bool.not_eq_true', Bool.not_eq_false', Bool.and_eq_true, Bool.or_eq_true, Bool.and_eq_false_iff, Bool.or_eq_false_iff, decide_eq_true_eq, decide_eq_false_iff_not, Bool.not_eq_true, Decidable.not_not] at h23
    have hfw := few_spec h23.1
    have hel := oEnc_len o
    refine wskip ?_
    refine tn ?_
    refine wseq ?_
    refine reg hmix (ρ' := [(1, .string (S s)), (2, .pointer (some ⟨bo, 0, none⟩)), (6, .string (S ((oEnc o).1))), (7, .int .i64 ((oEnc o).2))]) (C := [RunOk Try.prog w2 (Instr.loadAt 44 (.pointer (some ⟨bo, 0, none⟩))) (.agg ⟨objC o Ae ce Ap cp⟩), CallOk Try.prog w2 15 #[.agg ⟨objC o Ae ce Ap cp⟩] (.tuple #[.string (S ((oEnc o).1)), .int .i64 ((oEnc o).2)])]) ha [(0, .val (.agg ⟨objC o Ae ce Ap cp⟩)), (1, .val (.tuple #[.string (S ((oEnc o).1)), .int .i64 ((oEnc o).2)]))] (by kernel_rfl) (.cons (ldN (n := 72) hB_bo (by kernel_rfl) (by kernel_rfl) ⟨Nat.le_of_ble_eq_true (by kernel_rfl), (by kernel_rfl)⟩) (.cons (fun w2 h2 => oenc_ok o _ _ _ _ w2 (rdE h2 (rdE hx hoe)) (rdE h2 (rdE hx hop)) (by first | assumption | exact oDec_ok _) (by first | assumption | exact oDec_few _)) .nil)) ?_
    clear ha a; intro a w4 ha he
    replace hx := hx.tr he
    replace hB_bo := keepB he hB_bo
    clear he
    refine tn ?_
    refine wseq ?_
    refine wseq ?_
    refine regp (ρ' := [(1, .string (S s)), (2, .pointer (some ⟨bo, 0, none⟩)), (6, .string (S ((oEnc o).1))), (31, .bool (decide (((oEnc o).2 : Int) = 0)))]) (C := []) ha [] (by kernel_rfl) .nil ?_
    clear ha a; intro a ha
    refine tn ?_
    refine wif ha rfl (fun h31 => ?_) (fun h31 => ?_)
    · replace h31 := of_decide_eq_true h31
      have hde := dec_enc hok.time h31
      refine wseq ?_
      refine reg_list ?_
      refine segp (ρ' := [(1, .string (S s)), (2, .pointer (some ⟨bo, 0, none⟩)), (6, .string (S ((oEnc o).1))), (33, .string (S ((oEnc o).1)))]) (C := []) ha 1 [] rfl (by kernel_rfl) .nil ?_
      clear ha a; intro a ha
      refine lcall (vs := #[.string (S ((oEnc o).1))]) ha rfl (by kernel_rfl) rfl rfl (by kernel_rfl) (by kernel_rfl) (odec_ok _ _ (by first | omega | (simp; done) | (simp; omega))) ?_
      clear ha a; rintro _ w11 ⟨Ae5, ce6, Ap7, cp8, rfl, hoe9, hop10, he⟩ a ha
      replace hoe9 := own_base hx.size hoe9
      replace hop10 := own_base hx.size hop10
      replace hB_bo := keepB he hB_bo
      replace hx := hx.tr he
      clear he
      refine segp (ρ' := [(1, .string (S s)), (2, .pointer (some ⟨bo, 0, none⟩)), (6, .string (S ((oEnc o).1))), (35, .agg ⟨objC ((oDec ((oEnc o).1)).1) Ae5 ce6 Ap7 cp8⟩), (36, .int .i64 ((oDec ((oEnc o).1)).2))]) (C := []) ha 3 [] rfl (by kernel_rfl) .nil ?_
      clear ha a; intro a ha
      refine lnew ha rfl (by kernel_rfl) ⟨.int .i64 0 :: (.string (S []) :: (.slice none 0 0 :: ((idc idZ) ++ (.slice none 0 0 :: (.int .u32 0 :: (.string (S []) :: ((idc idZ) ++ (.int .i64 0 :: ([.string (S [])])))))))))⟩ 44 (by kernel_rfl) ?_
      clear ha a; intro bp w12 he hb_bp hB_bp a ha
      have hne_bo_bp : bo ≠ bp := ne_new hB_bo hb_bp
      replace hB_bo := keepB he hB_bo
      replace hoe9 := ownE he hoe9
      replace hop10 := ownE he hop10
      replace hb_bp := Nat.le_trans hx.size hb_bp
      replace hx := hx.tr he
      clear he
      refine lstore (off := 0) ha rfl rfl (by kernel_rfl) hB_bp ⟨objC ((oDec ((oEnc o).1)).1) Ae5 ce6 Ap7 cp8⟩ rfl (by kernel_rfl) (by kernel_rfl) ?_
      clear ha a; intro w13 hc a ha
      replace hB_bo := hc.keep hB_bo (by first | assumption | exact Ne.symm (by assumption))
      replace hoe9 := ownC hc hB_bp rfl hoe9
      replace hop10 := ownC hc hB_bp rfl hop10
      replace hx := hc.ext hx hb_bp
      replace hB_bp := hc.at_; clear hc
      refine segp (ρ' := [(1, .string (S s)), (2, .pointer (some ⟨bo, 0, none⟩)), (6, .string (S ((oEnc o).1))), (8, .pointer (some ⟨bp, 0, none⟩)), (9, .int .i64 ((oDec ((oEnc o).1)).2))]) (C := []) ha 1 [] rfl (by kernel_rfl) .nil ?_
      clear ha a; intro a ha
      refine lnil ?_
      replace ha := ha.sub (ρ' := [(1, .string (S s)), (2, .pointer (some ⟨bo, 0, none⟩)), (6, .string (S ((oEnc o).1))), (8, .pointer (some ⟨bp, 0, none⟩)), (9, .int .i64 ((oDec ((oEnc o).1)).2))]) (by kernel_rfl)
      refine tn ?_
      refine wseq ?_
      refine reg hmix (ρ' := [(1, .string (S s)), (6, .string (S ((oEnc o).1))), (9, .int .i64 ((oDec ((oEnc o).1)).2)), (10, .bool (decide (o = (oDec ((oEnc o).1)).1)))]) (C := [RunOk Try.prog w13 (Instr.loadAt 44 (.pointer (some ⟨bo, 0, none⟩))) (.agg ⟨objC o Ae ce Ap cp⟩), RunOk Try.prog w13 (Instr.loadAt 44 (.pointer (some ⟨bp, 0, none⟩))) (.agg ⟨objC ((oDec ((oEnc o).1)).1) Ae5 ce6 Ap7 cp8⟩), CallOk Try.prog w13 17 #[.agg ⟨objC o Ae ce Ap cp⟩, .agg ⟨objC ((oDec ((oEnc o).1)).1) Ae5 ce6 Ap7 cp8⟩] (.bool (decide (o = (oDec ((oEnc o).1)).1)))]) ha [(0, .val (.agg ⟨objC o Ae ce Ap cp⟩)), (1, .val (.agg ⟨objC ((oDec ((oEnc o).1)).1) Ae5 ce6 Ap7 cp8⟩)), (2, .val (.bool (decide (o = (oDec ((oEnc o).1)).1))))] (by kernel_rfl) (.cons (ldN (n := 72) hB_bo (by kernel_rfl) (by kernel_rfl) ⟨Nat.le_of_ble_eq_true (by kernel_rfl), (by kernel_rfl)⟩) (.cons (ldN (n := 72) hB_bp (by kernel_rfl) (by kernel_rfl) ⟨Nat.le_of_ble_eq_true (by kernel_rfl), (by kernel_rfl)⟩) (.cons (fun w2 h2 => same_ok o ((oDec ((oEnc o).1)).1) _ _ _ _ _ _ _ _ w2 (rdE h2 (rdE hx hoe)) (rdE h2 (rdE hx hop)) (rdE h2 (own_rd hoe9)) (rdE h2 (own_rd hop10)) (by first | assumption | exact oDec_ok _) (by first | assumption | exact oDec_ok _)) .nil))) ?_
      clear ha a; intro a w14 ha he
      replace hx := hx.tr he
      replace hB_bo := keepB he hB_bo
      replace hB_bp := keepB he hB_bp
      replace hoe9 := ownE he hoe9
      replace hop10 := ownE he hop10
      clear he
      refine tn ?_
      refine wseq ?_
      refine regp (ρ' := [(1, .string (S s)), (50, .bool (((!(decide (o = (oDec ((oEnc o).1)).1))) || (!decide (((oDec ((oEnc o).1)).2 : Int) = 0))) || (decide ((4096 : Int) < ((((oEnc o).1).length : Nat) : Int)))))]) (C := []) ha [] (by kernel_rfl) .nil ?_
      clear ha a; intro a ha
      refine tn ?_
      refine wif ha rfl (fun h50 => ?_) (fun h50 => ?_)
      · simp only [Bool.not_eq_true', Bool.not_eq_false', Bool.and_eq_true, Bool.or_eq_true, Bool.and_eq_false_iff, Bool.or_eq_false_iff, decide_eq_true_eq, decide_eq_false_iff_not, Bool.not_eq_true, Decidable.not_not] at h50
        exfalso; rw [hde.1] at h50; simp at h50; omega
      · simp only [Bool.not_eq_true', Bool.not_eq_false', Bool.and_eq_true, Bool.or_eq_true, Bool.and_eq_false_iff, Bool.or_eq_false_iff, decide_eq_true_eq, decide_eq_false_iff_not, Bool.not_eq_true, Decidable.not_not] at h50
        refine wskip ?_
        refine tn ?_
        refine wseq ?_
        refine reg_list ?_
        refine segp (ρ' := [(1, .string (S s)), (52, .string (S s))]) (C := []) ha 1 [] rfl (by kernel_rfl) .nil ?_
        clear ha a; intro a ha
        refine lcall (vs := #[.string (S s)]) ha rfl (by kernel_rfl) rfl rfl (by kernel_rfl) (by kernel_rfl) (odec_ok _ _ (by first | omega | (simp; done) | (simp; omega))) ?_
        clear ha a; rintro _ w21 ⟨Ae15, ce16, Ap17, cp18, rfl, hoe19, hop20, he⟩ a ha
        replace hoe19 := own_base hx.size hoe19
        replace hop20 := own_base hx.size hop20
        replace hB_bo := keepB he hB_bo
        replace hB_bp := keepB he hB_bp
        replace hoe9 := ownE he hoe9
        replace hop10 := ownE he hop10
        replace hx := hx.tr he
        clear he
        refine segp (ρ' := [(1, .string (S s)), (54, .agg ⟨objC ((oDec s).1) Ae15 ce16 Ap17 cp18⟩), (55, .int .i64 ((oDec s).2))]) (C := []) ha 3 [] rfl (by kernel_rfl) .nil ?_
        clear ha a; intro a ha
        refine lnew ha rfl (by kernel_rfl) ⟨.int .i64 0 :: (.string (S []) :: (.slice none 0 0 :: ((idc idZ) ++ (.slice none 0 0 :: (.int .u32 0 :: (.string (S []) :: ((idc idZ) ++ (.int .i64 0 :: ([.string (S [])])))))))))⟩ 44 (by kernel_rfl) ?_
        clear ha a; intro bq w22 he hb_bq hB_bq a ha
        have hne_bo_bq : bo ≠ bq := ne_new hB_bo hb_bq
        have hne_bp_bq : bp ≠ bq := ne_new hB_bp hb_bq
        replace hB_bo := keepB he hB_bo
        replace hB_bp := keepB he hB_bp
        replace hoe9 := ownE he hoe9
        replace hop10 := ownE he hop10
        replace hoe19 := ownE he hoe19
        replace hop20 := ownE he hop20
        replace hb_bq := Nat.le_trans hx.size hb_bq
        replace hx := hx.tr he
        clear he
        refine lstore (off := 0) ha rfl rfl (by kernel_rfl) hB_bq ⟨objC ((oDec s).1) Ae15 ce16 Ap17 cp18⟩ rfl (by kernel_rfl) (by kernel_rfl) ?_
        clear ha a; intro w23 hc a ha
        replace hB_bo := hc.keep hB_bo (by first | assumption | exact Ne.symm (by assumption))
        replace hB_bp := hc.keep hB_bp (by first | assumption | exact Ne.symm (by assumption))
        replace hoe9 := ownC hc hB_bq rfl hoe9
        replace hop10 := ownC hc hB_bq rfl hop10
        replace hoe19 := ownC hc hB_bq rfl hoe19
        replace hop20 := ownC hc hB_bq rfl hop20
        replace hx := hc.ext hx hb_bq
        replace hB_bq := hc.at_; clear hc
        refine segp (ρ' := [(1, .string (S s)), (11, .pointer (some ⟨bq, 0, none⟩)), (12, .int .i64 ((oDec s).2))]) (C := []) ha 1 [] rfl (by kernel_rfl) .nil ?_
        clear ha a; intro a ha
        refine lnil ?_
        replace ha := ha.sub (ρ' := [(1, .string (S s)), (11, .pointer (some ⟨bq, 0, none⟩)), (12, .int .i64 ((oDec s).2))]) (by kernel_rfl)
        refine tn ?_
        refine wseq ?_
        refine reg hmix (ρ' := [(1, .string (S s)), (12, .int .i64 ((oDec s).2)), (13, .string (S ((oEnc ((oDec s).1)).1))), (14, .int .i64 ((oEnc ((oDec s).1)).2))]) (C := [RunOk Try.prog w23 (Instr.loadAt 44 (.pointer (some ⟨bq, 0, none⟩))) (.agg ⟨objC ((oDec s).1) Ae15 ce16 Ap17 cp18⟩), CallOk Try.prog w23 15 #[.agg ⟨objC ((oDec s).1) Ae15 ce16 Ap17 cp18⟩] (.tuple #[.string (S ((oEnc ((oDec s).1)).1)), .int .i64 ((oEnc ((oDec s).1)).2)])]) ha [(0, .val (.agg ⟨objC ((oDec s).1) Ae15 ce16 Ap17 cp18⟩)), (1, .val (.tuple #[.string (S ((oEnc ((oDec s).1)).1)), .int .i64 ((oEnc ((oDec s).1)).2)]))] (by kernel_rfl) (.cons (ldN (n := 72) hB_bq (by kernel_rfl) (by kernel_rfl) ⟨Nat.le_of_ble_eq_true (by kernel_rfl), (by kernel_rfl)⟩) (.cons (fun w2 h2 => oenc_ok ((oDec s).1) _ _ _ _ w2 (rdE h2 (own_rd hoe19)) (rdE h2 (own_rd hop20)) (by first | assumption | exact oDec_ok _) (by first | assumption | exact oDec_few _)) .nil)) ?_
        clear ha a; intro a w24 ha he
        replace hx := hx.tr he
        replace hB_bo := keepB he hB_bo
        replace hB_bp := keepB he hB_bp
        replace hB_bq := keepB he hB_bq
        replace hoe9 := ownE he hoe9
        replace hop10 := ownE he hop10
        replace hoe19 := ownE he hoe19
        replace hop20 := ownE he hop20
        clear he
        refine tn ?_
        refine wseq ?_
        refine reg hmix (ρ' := [(4, .bool (true && ((!decide (((oDec s).2 : Int) = 0)) || ((decide (((oEnc ((oDec s).1)).2 : Int) = 0)) && (decide (((oEnc ((oDec s).1)).1 : List UInt8) = (s : List UInt8)))))))]) (C := [CallOk Try.prog w24 14 #[] (.bool true)]) ha [(0, .val (.bool true))] (by kernel_rfl) (.cons (fun w _ => knows4_ok w) .nil) ?_
        clear ha a; intro a w25 ha he
        replace hx := hx.tr he
        replace hB_bo := keepB he hB_bo
        replace hB_bp := keepB he hB_bp
        replace hB_bq := keepB he hB_bq
        replace hoe9 := ownE he hoe9
        replace hop10 := ownE he hop10
        replace hoe19 := ownE he hoe19
        replace hop20 := ownE he hop20
        clear he
        refine tn ?_
        refine wret ?_
        refine fin ha (.tmp rfl .nil) ?_
        refine ⟨congrArg Value.bool ?_, hx⟩
        by_cases hz : (oDec s).2 = 0
        · simp [hz, enc_dec hz]
        · simp [hz]
    · replace h31 := of_decide_eq_false h31
      refine wskip ?_
      refine tn ?_
      refine wseq ?_
      refine reg_list ?_
      refine segp (ρ' := [(1, .string (S s)), (52, .string (S s))]) (C := []) ha 1 [] rfl (by kernel_rfl) .nil ?_
      clear ha a; intro a ha
      refine lcall (vs := #[.string (S s)]) ha rfl (by kernel_rfl) rfl rfl (by kernel_rfl) (by kernel_rfl) (odec_ok _ _ (by first | omega | (simp; done) | (simp; omega))) ?_
      clear ha a; rintro _ w32 ⟨Ae26, ce27, Ap28, cp29, rfl, hoe30, hop31, he⟩ a ha
      replace hoe30 := own_base hx.size hoe30
      replace hop31 := own_base hx.size hop31
      replace hB_bo := keepB he hB_bo
      replace hx := hx.tr he
      clear he
      refine segp (ρ' := [(1, .string (S s)), (54, .agg ⟨objC ((oDec s).1) Ae26 ce27 Ap28 cp29⟩), (55, .int .i64 ((oDec s).2))]) (C := []) ha 3 [] rfl (by kernel_rfl) .nil ?_
      clear ha a; intro a ha
      refine lnew ha rfl (by kernel_rfl) ⟨.int .i64 0 :: (.string (S []) :: (.slice none 0 0 :: ((idc idZ) ++ (.slice none 0 0 :: (.int .u32 0 :: (.string (S []) :: ((idc idZ) ++ (.int .i64 0 :: ([.string (S [])])))))))))⟩ 44 (by kernel_rfl) ?_
      clear ha a; intro bq w33 he hb_bq hB_bq a ha
      have hne_bo_bq : bo ≠ bq := ne_new hB_bo hb_bq
      replace hB_bo := keepB he hB_bo
      replace hoe30 := ownE he hoe30
      replace hop31 := ownE he hop31
      replace hb_bq := Nat.le_trans hx.size hb_bq
      replace hx := hx.tr he
      clear he
      refine lstore (off := 0) ha rfl rfl (by kernel_rfl) hB_bq ⟨objC ((oDec s).1) Ae26 ce27 Ap28 cp29⟩ rfl (by kernel_rfl) (by kernel_rfl) ?_
      clear ha a; intro w34 hc a ha
      replace hB_bo := hc.keep hB_bo (by first | assumption | exact Ne.symm (by assumption))
      replace hoe30 := ownC hc hB_bq rfl hoe30
      replace hop31 := ownC hc hB_bq rfl hop31
      replace hx := hc.ext hx hb_bq
      replace hB_bq := hc.at_; clear hc
      refine segp (ρ' := [(1, .string (S s)), (11, .pointer (some ⟨bq, 0, none⟩)), (12, .int .i64 ((oDec s).2))]) (C := []) ha 1 [] rfl (by kernel_rfl) .nil ?_
      clear ha a; intro a ha
      refine lnil ?_
      replace ha := ha.sub (ρ' := [(1, .string (S s)), (11, .pointer (some ⟨bq, 0, none⟩)), (12, .int .i64 ((oDec s).2))]) (by kernel_rfl)
      refine tn ?_
      refine wseq ?_
      refine reg hmix (ρ' := [(1, .string (S s)), (12, .int .i64 ((oDec s).2)), (13, .string (S ((oEnc ((oDec s).1)).1))), (14, .int .i64 ((oEnc ((oDec s).1)).2))]) (C := [RunOk Try.prog w34 (Instr.loadAt 44 (.pointer (some ⟨bq, 0, none⟩))) (.agg ⟨objC ((oDec s).1) Ae26 ce27 Ap28 cp29⟩), CallOk Try.prog w34 15 #[.agg ⟨objC ((oDec s).1) Ae26 ce27 Ap28 cp29⟩] (.tuple #[.string (S ((oEnc ((oDec s).1)).1)), .int .i64 ((oEnc ((oDec s).1)).2)])]) ha [(0, .val (.agg ⟨objC ((oDec s).1) Ae26 ce27 Ap28 cp29⟩)), (1, .val (.tuple #[.string (S ((oEnc ((oDec s).1)).1)), .int .i64 ((oEnc ((oDec s).1)).2)]))] (by kernel_rfl) (.cons (ldN (n := 72) hB_bq (by kernel_rfl) (by kernel_rfl) ⟨Nat.le_of_ble_eq_true (by kernel_rfl), (by kernel_rfl)⟩) (.cons (fun w2 h2 => oenc_ok ((oDec s).1) _ _ _ _ w2 (rdE h2 (own_rd hoe30)) (rdE h2 (own_rd hop31)) (by first | assumption | exact oDec_ok _) (by first | assumption | exact oDec_few _)) .nil)) ?_
      clear ha a; intro a w35 ha he
      replace hx := hx.tr he
      replace hB_bo := keepB he hB_bo
      replace hB_bq := keepB he hB_bq
      replace hoe30 := ownE he hoe30
      replace hop31 := ownE he hop31
      clear he
      refine tn ?_
      refine wseq ?_
      refine reg hmix (ρ' := [(4, .bool (true && ((!decide (((oDec s).2 : Int) = 0)) || ((decide (((oEnc ((oDec s).1)).2 : Int) = 0)) && (decide (((oEnc ((oDec s).1)).1 : List UInt8) = (s : List UInt8)))))))]) (C := [CallOk Try.prog w35 14 #[] (.bool true)]) ha [(0, .val (.bool true))] (by kernel_rfl) (.cons (fun w _ => knows4_ok w) .nil) ?_
      clear ha a; intro a w36 ha he
      replace hx := hx.tr he
      replace hB_bo := keepB he hB_bo
      replace hB_bq := keepB he hB_bq
      replace hoe30 := ownE he hoe30
      replace hop31 := ownE he hop31
      clear he
      refine tn ?_
      refine wret ?_
      refine fin ha (.tmp rfl .nil) ?_
      refine ⟨congrArg Value.bool ?_, hx⟩
      by_cases hz : (oDec s).2 = 0
      · simp [hz, enc_dec hz]
      · simp [hz]
end Go.Kn
