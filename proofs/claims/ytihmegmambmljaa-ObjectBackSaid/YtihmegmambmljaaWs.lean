import Derived.Test.YtihmegmambmljaaPlainI
import Derived.Test.YtihmegmambmljaaEngQ
import Derived.Test.YtihmegmambmljaaWr
set_option linter.unusedSimpArgs false
set_option linter.unusedVariables false
set_option maxRecDepth 100000
namespace Go.Kn
open Go.Proofs
section
variable {H : Type} {enc : TypeId × Value → H} {w : World} {base : Nat} {spare : Nat → Bool} {held : Bool}
theorem opn_entry : Opn enc Try.prog w base spare held 70 fun cs => ∃ a : EntR, cs = encEnt a ∧ (a.Name.length ≤ 9223372036854775807 ∧ InR .i64 a.Kind) := by
  intro n cs x hx
  have h := opn_struct (P := Try.prog) (t := 70) (n := 34) (l := [(9, 0, 1), (3, 1, 1), (40, 2, 32)]) (by kernel_rfl) [(9, 1, _), (3, 1, _), (40, 32, _)] (by kernel_rfl) (by kernel_rfl) ⟨opn_str (by kernel_rfl), opn_int (k := .i64) (by kernel_rfl), opn_id (by kernel_rfl), trivial⟩ n cs x hx
  obtain ⟨_, r0, rfl, ⟨nm, rfl, hn⟩, q1⟩ := opAll_cons h
  obtain ⟨_, r1, rfl, ⟨k, rfl, hk⟩, q2⟩ := opAll_cons q1
  obtain ⟨_, r2, rfl, ⟨i, rfl⟩, q3⟩ := opAll_cons q2
  obtain rfl : r2 = [] := q3
  exact ⟨⟨nm, k, i⟩, by simp [encEnt], hn, hk⟩
theorem opn_obj : Opn enc Try.prog w base spare held 44 fun cs => ∃ (o : ObjL) (Ae : Option Addr) (ce : Nat) (Ap : Option Addr) (cp : Nat), cs = objC o Ae ce Ap cp ∧ Rd w 34 Ae o.Entries.length (o.Entries.flatMap encEnt) ∧ Rd w 32 Ap o.Parents.length (o.Parents.flatMap idc) ∧ ObjOk o := by
  intro n cs x hx
  have h := opn_struct (P := Try.prog) (t := 44) (n := 72) (l := [(3, 0, 1), (9, 1, 1), (38, 2, 1), (40, 3, 32), (41, 35, 1), (42, 36, 1), (9, 37, 1), (40, 38, 32), (3, 70, 1), (9, 71, 1)]) (by kernel_rfl)
    [(3, 1, _), (9, 1, _), (38, 1, _), (40, 32, _), (41, 1, _), (42, 1, _), (9, 1, _), (40, 32, _), (3, 1, _), (9, 1, _)] (by kernel_rfl) (by kernel_rfl)
    ⟨opn_int (k := .i64) (by kernel_rfl), opn_str (by kernel_rfl), opn_list (e := 70) (sz := 34) (by kernel_rfl) (by kernel_rfl) (by decide) encEnt_len opn_entry, opn_id (by kernel_rfl), opn_list (Q := fun _ => True) (e := 40) (sz := 32) (by kernel_rfl) (by kernel_rfl) (by decide) idc_len (fun n cs x hx => by obtain ⟨i, hi⟩ := opn_id (by kernel_rfl) n cs x hx; exact ⟨i, hi, trivial⟩), opn_nat (k := .u32) rfl (by kernel_rfl), opn_str (by kernel_rfl), opn_id (by kernel_rfl), opn_int (k := .i64) (by kernel_rfl), opn_str (by kernel_rfl), trivial⟩ n cs x hx
  obtain ⟨_, r0, rfl, ⟨k, rfl, hk⟩, q1⟩ := opAll_cons h
  obtain ⟨_, r1, rfl, ⟨da, rfl, hd⟩, q2⟩ := opAll_cons q1
  obtain ⟨_, r2, rfl, ⟨Ae, ce, le, rfl, he1, he2, he3⟩, q3⟩ := opAll_cons q2
  obtain ⟨_, r3, rfl, ⟨tr, rfl⟩, q4⟩ := opAll_cons q3
  obtain ⟨_, r4, rfl, ⟨Ap, cp, lp, rfl, hp1, hp2, hp3⟩, q5⟩ := opAll_cons q4
  obtain ⟨_, r5, rfl, ⟨ti, rfl, ht⟩, q6⟩ := opAll_cons q5
  obtain ⟨_, r6, rfl, ⟨tx, rfl, hx6⟩, q7⟩ := opAll_cons q6
  obtain ⟨_, r7, rfl, ⟨ta, rfl⟩, q8⟩ := opAll_cons q7
  obtain ⟨_, r8, rfl, ⟨of, rfl, ho⟩, q9⟩ := opAll_cons q8
  obtain ⟨_, r9, rfl, ⟨nm, rfl, hn⟩, q10⟩ := opAll_cons q9
  obtain rfl : r9 = [] := q10
  refine ⟨⟨k, da, le, tr, lp, ti, tx, ta, of, nm⟩, Ae, ce, Ap, cp, by simp [objC], he1, hp1, ⟨hk, ho, by unfold InR at ht; simp only; omega, he2, fun i hi => (he3 _ (getD_mem hi)).1, fun i hi => (he3 _ (getD_mem hi)).2, hp2, hd, hx6, hn⟩⟩
end
theorem objectEncodes_walk (o : ObjL) (Ae Ap : Option Addr) (ce cp : Nat) (name : List UInt8) (w : World) (hoe : Rd w 34 Ae o.Entries.length (o.Entries.flatMap encEnt)) (hop : Rd w 32 Ap o.Parents.length (o.Parents.flatMap idc)) (hok : ObjOk o) (hnm : name.length ≤ 9223372036854775807) :
    Fn Try.prog 7 #[.agg ⟨objC o Ae ce Ap cp⟩, .string (S name)] w (fun x w' => x = .bool true ∧ Ext w w') := by
  have hx : Ext w w := Ext.rfl' w
  refine enter (N := 68) (args := [.agg ⟨objC o Ae ce Ap cp⟩, .string (S name)]) Try.func7 rfl rfl rfl ?_
  intro a ha
  simp only [argEnv, Nat.zero_add, Nat.reduceAdd] at ha
  refine wseq ?_
  refine reg_list ?_
  refine lnew ha rfl (by kernel_rfl) ⟨objC o Ae ce Ap cp⟩ 44 (by kernel_rfl) ?_
  clear ha a; intro bo w1 he hb_bo hB_bo a ha
  replace hb_bo := Nat.le_trans hx.size hb_bo
  replace hx := hx.tr he
  clear he
  refine segp (ρ' := [(1, .string (S name)), (2, .pointer (some ⟨bo, 0, none⟩))]) (C := []) ha 1 [] rfl (by kernel_rfl) .nil ?_
  clear ha a; intro a ha
  refine lnil ?_
  replace ha := ha.sub (ρ' := [(1, .string (S name)), (2, .pointer (some ⟨bo, 0, none⟩))]) (by kernel_rfl)
  refine tn ?_
  refine wseq ?_
  refine reg hmix (ρ' := [(1, .string (S name)), (2, .pointer (some ⟨bo, 0, none⟩)), (5, .bool (oFew o))]) (C := [RunOk Try.prog w1 (Instr.loadAt 44 (.pointer (some ⟨bo, 0, none⟩))) (.agg ⟨objC o Ae ce Ap cp⟩), CallOk Try.prog w1 13 #[.agg ⟨objC o Ae ce Ap cp⟩] (.bool (oFew o))]) ha [(0, .val (.agg ⟨objC o Ae ce Ap cp⟩)), (1, .val (.bool (oFew o)))] (by kernel_rfl) (.cons (ldN (n := 72) hB_bo (by kernel_rfl) (by kernel_rfl) ⟨Nat.le_of_ble_eq_true (by kernel_rfl), (by kernel_rfl)⟩) (.cons (fun w2 h2 => few_ok o _ _ _ _ w2 (rdE h2 (rdE hx hoe)) (rdE h2 (rdE hx hop)) hok) .nil)) ?_
  clear ha a; intro a w2 ha he
  replace hx := hx.tr he
  replace hB_bo := keepB he hB_bo
  clear he
  refine tn ?_
  refine wseq ?_
  refine wseq ?_
  refine regp (ρ' := [(1, .string (S name)), (2, .pointer (some ⟨bo, 0, none⟩)), (21, .bool ((!(oFew o)) || (decide ((100 : Int) < ((name.length : Nat) : Int)))))]) (C := []) ha [] (by kernel_rfl) .nil ?_
  clear ha a; intro a ha
  refine tn ?_
  refine wif ha rfl (fun h21 => ?_) (fun h21 => ?_)
  · simp only [Bool.not_eq_true', Bool.not_eq_false', Bool.and_eq_true, Bool.or_eq_true, Bool.and_eq_false_iff, Bool.or_eq_false_iff, decide_eq_true_eq, decide_eq_false_iff_not, Bool.not_eq_true, Decidable.not_not] at h21
    refine wseq ?_
    refine reg hmix (ρ' := [(4, .bool true)]) (C := [CallOk Try.prog w2 14 #[] (.bool true)]) ha [(0, .val (.bool true))] (by kernel_rfl) (.cons (fun w _ => knows4_ok w) .nil) ?_
    clear ha a; intro a w3 ha he
    replace hx := hx.tr he
    replace hB_bo := keepB he hB_bo
    clear he
    refine tn ?_
    refine wret ?_
    refine (tr ?_)
    refine fin ha (.tmp rfl .nil) ?_
    refine ⟨congrArg Value.bool ?_, hx⟩
    rfl
  · simp only [Bool.not_eq_true', Bool.not_eq_false', Bool.and_eq_true, Bool.or_eq_true, Bool.and_eq_false_iff, Bool.or_eq_false_iff, decide_eq_true_eq, decide_eq_false_iff_not, Bool.not_eq_true, Decidable.not_not] at h21
    have hfw := few_spec h21.1
    have hlk := oLinks_ok hok
    have hln := oLinks_len hfw
    refine wskip ?_
    refine tn ?_
    refine wseq ?_
    refine reg hmix (ρ' := [(1, .string (S name)), (2, .pointer (some ⟨bo, 0, none⟩)), (6, .string (S ((oEnc o).1))), (7, .int .i64 ((oEnc o).2))]) (C := [RunOk Try.prog w2 (Instr.loadAt 44 (.pointer (some ⟨bo, 0, none⟩))) (.agg ⟨objC o Ae ce Ap cp⟩), CallOk Try.prog w2 15 #[.agg ⟨objC o Ae ce Ap cp⟩] (.tuple #[.string (S ((oEnc o).1)), .int .i64 ((oEnc o).2)])]) ha [(0, .val (.agg ⟨objC o Ae ce Ap cp⟩)), (1, .val (.tuple #[.string (S ((oEnc o).1)), .int .i64 ((oEnc o).2)]))] (by kernel_rfl) (.cons (ldN (n := 72) hB_bo (by kernel_rfl) (by kernel_rfl) ⟨Nat.le_of_ble_eq_true (by kernel_rfl), (by kernel_rfl)⟩) (.cons (fun w2 h2 => oenc_ok o _ _ _ _ w2 (rdE h2 (rdE hx hoe)) (rdE h2 (rdE hx hop)) hok hfw) .nil)) ?_
    clear ha a; intro a w4 ha he
    replace hx := hx.tr he
    replace hB_bo := keepB he hB_bo
    clear he
    refine tn ?_
    refine wseq ?_
    refine reg hmix (ρ' := [(1, .string (S name)), (2, .pointer (some ⟨bo, 0, none⟩)), (6, .string (S ((oEnc o).1))), (7, .int .i64 ((oEnc o).2)), (8, .string (S ((rEnc o).1))), (9, .bool ((rEnc o).2))]) (C := [RunOk Try.prog w4 (Instr.loadAt 44 (.pointer (some ⟨bo, 0, none⟩))) (.agg ⟨objC o Ae ce Ap cp⟩), CallOk Try.prog w4 18 #[.agg ⟨objC o Ae ce Ap cp⟩] (.tuple #[.string (S ((rEnc o).1)), .bool ((rEnc o).2)])]) ha [(0, .val (.agg ⟨objC o Ae ce Ap cp⟩)), (1, .val (.tuple #[.string (S ((rEnc o).1)), .bool ((rEnc o).2)]))] (by kernel_rfl) (.cons (ldN (n := 72) hB_bo (by kernel_rfl) (by kernel_rfl) ⟨Nat.le_of_ble_eq_true (by kernel_rfl), (by kernel_rfl)⟩) (.cons (fun w2 h2 => renc_ok o _ _ _ _ w2 (rdE h2 (rdE hx hoe)) (rdE h2 (rdE hx hop)) hok hfw) .nil)) ?_
    clear ha a; intro a w5 ha he
    replace hx := hx.tr he
    replace hB_bo := keepB he hB_bo
    clear he
    refine tn ?_
    refine wseq ?_
    refine wseq ?_
    refine regp (ρ' := [(1, .string (S name)), (2, .pointer (some ⟨bo, 0, none⟩)), (49, .bool (((!decide (((oEnc o).1 : List UInt8) = ((rEnc o).1 : List UInt8))) || (!((decide (((oEnc o).2 : Int) = 0)) == ((rEnc o).2)))) || ((!decide (((oEnc o).2 : Int) = 0)) && (!decide (((oEnc o).2 : Int) = 1)))))]) (C := []) ha [] (by kernel_rfl) .nil ?_
    clear ha a; intro a ha
    refine tn ?_
    refine wif ha rfl (fun h49 => ?_) (fun h49 => ?_)
    · simp only [Bool.not_eq_true', Bool.not_eq_false', Bool.and_eq_true, Bool.or_eq_true, Bool.and_eq_false_iff, Bool.or_eq_false_iff, decide_eq_true_eq, decide_eq_false_iff_not, Bool.not_eq_true, Decidable.not_not] at h49
      exfalso; rw [enc_same] at h49; rcases oEnc_err o with h | h <;> simp [h] at h49
    · simp only [Bool.not_eq_true', Bool.not_eq_false', Bool.and_eq_true, Bool.or_eq_true, Bool.and_eq_false_iff, Bool.or_eq_false_iff, decide_eq_true_eq, decide_eq_false_iff_not, Bool.not_eq_true, Decidable.not_not] at h49
      refine wskip ?_
      refine tn ?_
      refine wseq ?_
      refine reg_list ?_
      refine segp (ρ' := [(1, .string (S name)), (2, .pointer (some ⟨bo, 0, none⟩)), (50, .agg ⟨objC o Ae ce Ap cp⟩)]) (C := [RunOk Try.prog w5 (Instr.loadAt 44 (.pointer (some ⟨bo, 0, none⟩))) (.agg ⟨objC o Ae ce Ap cp⟩)]) ha 1 [(0, .val (.agg ⟨objC o Ae ce Ap cp⟩))] rfl (by kernel_rfl) (.cons (ldN (n := 72) hB_bo (by kernel_rfl) (by kernel_rfl) ⟨Nat.le_of_ble_eq_true (by kernel_rfl), (by kernel_rfl)⟩) .nil) ?_
      clear ha a; intro a ha
      refine lcall (vs := #[.agg ⟨objC o Ae ce Ap cp⟩]) ha rfl (by kernel_rfl) rfl rfl (by kernel_rfl) (by kernel_rfl) (links_ok o _ _ _ _ _ (rdE hx hoe) (rdE hx hop) hok hfw) ?_
      clear ha a; rintro _ w9 ⟨A7, c8, rfl, ho6, he⟩ a ha
      replace ho6 := own_base hx.size ho6
      replace hB_bo := keepB he hB_bo
      replace hx := hx.tr he
      clear he
      refine segp (ρ' := [(1, .string (S name)), (2, .pointer (some ⟨bo, 0, none⟩)), (10, .slice A7 ((oLinks o).length) c8)]) (C := []) ha 1 [] rfl (by kernel_rfl) .nil ?_
      clear ha a; intro a ha
      refine lnil ?_
      replace ha := ha.sub (ρ' := [(1, .string (S name)), (2, .pointer (some ⟨bo, 0, none⟩)), (10, .slice A7 ((oLinks o).length) c8)]) (by kernel_rfl)
      refine tn ?_
      refine wseq ?_
      refine reg_list ?_
      refine segp (ρ' := [(1, .string (S name)), (10, .slice A7 ((oLinks o).length) c8), (52, .agg ⟨objC o Ae ce Ap cp⟩)]) (C := [RunOk Try.prog w9 (Instr.loadAt 44 (.pointer (some ⟨bo, 0, none⟩))) (.agg ⟨objC o Ae ce Ap cp⟩)]) ha 1 [(0, .val (.agg ⟨objC o Ae ce Ap cp⟩))] rfl (by kernel_rfl) (.cons (ldN (n := 72) hB_bo (by kernel_rfl) (by kernel_rfl) ⟨Nat.le_of_ble_eq_true (by kernel_rfl), (by kernel_rfl)⟩) .nil) ?_
      clear ha a; intro a ha
      refine lcall (vs := #[.agg ⟨objC o Ae ce Ap cp⟩]) ha rfl (by kernel_rfl) rfl rfl (by kernel_rfl) (by kernel_rfl) (rlinks_ok o _ _ _ _ _ (rdE hx hoe) (rdE hx hop) hok hfw) ?_
      clear ha a; rintro _ w13 ⟨A11, c12, rfl, ho10, he⟩ a ha
      replace ho10 := own_base hx.size ho10
      replace hB_bo := keepB he hB_bo
      replace ho6 := ownE he ho6
      replace hx := hx.tr he
      clear he
      refine segp (ρ' := [(1, .string (S name)), (10, .slice A7 ((oLinks o).length) c8), (11, .slice A11 ((oLinks o).length) c12)]) (C := []) ha 1 [] rfl (by kernel_rfl) .nil ?_
      clear ha a; intro a ha
      refine lnil ?_
      replace ha := ha.sub (ρ' := [(1, .string (S name)), (10, .slice A7 ((oLinks o).length) c8), (11, .slice A11 ((oLinks o).length) c12)]) (by kernel_rfl)
      refine tn ?_
      refine wseq ?_
      refine reg hmix (ρ' := [(1, .string (S name)), (12, .bool (decide ((oLinks o) = (oLinks o))))]) (C := [CallOk Try.prog w13 21 #[.slice A7 ((oLinks o).length) c8, .slice A11 ((oLinks o).length) c12] (.bool (decide ((oLinks o) = (oLinks o))))]) ha [(2, .val (.bool (decide ((oLinks o) = (oLinks o)))))] (by kernel_rfl) (.cons (fun w2 h2 => samelinks_ok _ _ _ _ _ _ w2 (rdE h2 (own_rd ho6)) (rdE h2 (own_rd ho10)) (by omega) hlk hlk) .nil) ?_
      clear ha a; intro a w14 ha he
      replace hx := hx.tr he
      replace hB_bo := keepB he hB_bo
      replace ho6 := ownE he ho6
      replace ho10 := ownE he ho10
      clear he
      refine tn ?_
      refine wseq ?_
      refine reg hmix (ρ' := [(4, .bool ((true && (decide ((oLinks o) = (oLinks o)))) && ((oName name) == (oName name))))]) (C := [CallOk Try.prog w14 14 #[] (.bool true), (true && (decide ((oLinks o) = (oLinks o)))) = true → All [CallOk Try.prog w14 22 #[.string (S name)] (.bool (oName name)), CallOk Try.prog w14 23 #[.string (S name)] (.bool (oName name))]]) ha [(0, .val (.bool true)), (6, .val (.bool (oName name))), (8, .val (.bool (oName name)))] (by kernel_rfl) (.cons (fun w _ => knows4_ok w) (.cons (fun hg5 => by simp only [Bool.not_eq_true', Bool.not_eq_false', Bool.and_eq_true, Bool.or_eq_true, Bool.and_eq_false_iff, Bool.or_eq_false_iff, decide_eq_true_eq, decide_eq_false_iff_not, Bool.not_eq_true, Decidable.not_not] at hg5; exact (.cons (fun w _ => name_ok _ w (by first | omega | (simp; done))) (.cons (fun w _ => rname_ok _ w (by first | omega | (simp; done))) .nil))) .nil)) ?_
      clear ha a; intro a w15 ha he
      replace hx := hx.tr he
      replace hB_bo := keepB he hB_bo
      replace ho6 := ownE he ho6
      replace ho10 := ownE he ho10
      clear he
      refine tn ?_
      refine wret ?_
      refine fin ha (.tmp rfl .nil) ?_
      refine ⟨congrArg Value.bool ?_, hx⟩
      simp
end Go.Kn
