import Derived.Test.YtihmegmambmljaaWh
set_option linter.unusedSimpArgs false
set_option linter.unusedVariables false
set_option maxRecDepth 100000
namespace Go.Kn
open Go.Proofs
theorem rbody_ok (o : ObjL) (Ae Ap : Option Addr) (ce cp : Nat) (w : World) (hoe : Rd w 34 Ae o.Entries.length (o.Entries.flatMap encEnt)) (hop : Rd w 32 Ap o.Parents.length (o.Parents.flatMap idc)) (hok : ObjOk o) (hfw : FewOk o) :
    Fn Try.prog 42 #[.agg ⟨objC o Ae ce Ap cp⟩] w (fun x w' => x = .string (S (rBody o)) ∧ Ext w w') := by
  have hx : Ext w w := Ext.rfl' w
  refine enter (N := 96) (args := [.agg ⟨objC o Ae ce Ap cp⟩]) Try.func42 rfl rfl rfl ?_
  intro a ha
  simp only [argEnv, Nat.zero_add, Nat.reduceAdd] at ha
  refine wseq ?_
  refine reg_list ?_
  refine lnew ha rfl (by kernel_rfl) ⟨objC o Ae ce Ap cp⟩ 44 (by kernel_rfl) ?_
  clear ha a; intro b1 w2 he hb_b1 hB_b1 a ha
  replace hb_b1 := Nat.le_trans hx.size hb_b1
  replace hx := hx.tr he
  clear he
  refine segp (ρ' := [(1, .pointer (some ⟨b1, 0, none⟩))]) (C := []) ha 1 [] rfl (by kernel_rfl) .nil ?_
  clear ha a; intro a ha
  refine lnil ?_
  replace ha := ha.sub (ρ' := [(1, .pointer (some ⟨b1, 0, none⟩))]) (by kernel_rfl)
  refine tn ?_
  refine wseq ?_
  refine regp (ρ' := [(1, .pointer (some ⟨b1, 0, none⟩)), (3, .string (S o.Data))]) (C := [RunOk Try.prog w2 (Instr.loadAt 9 (.pointer (some ⟨b1, 1, none⟩))) (.string (S o.Data))]) ha [(1, .val (.string (S o.Data)))] (by kernel_rfl) (.cons (ld1 hB_b1 (by kernel_rfl) (by kernel_rfl)) .nil) ?_
  clear ha a; intro a ha
  rw [show (o.Data : List UInt8) = (rEnts o 0) from by simp [rEnts]] at ha
  have fe := hfw.e
  have fp := hfw.p
  refine tn ?_
  refine wseq ?_
  refine wseq ?_
  refine regp (ρ' := [(1, .pointer (some ⟨b1, 0, none⟩)), (3, .string (S (rEnts o 0))), (4, .int .i64 0)]) (C := []) ha [] (by kernel_rfl) .nil ?_
  clear ha a; intro a ha
  refine tn ?_
  refine wblk ?_
  refine wloop (fun zz a w3 => ∃ (i : Nat), zz = o.Entries.length - i ∧ On 96 [(1, .pointer (some ⟨b1, 0, none⟩)), (3, .string (S (rEnts o i))), (4, .int .i64 ((i : Nat) : Int))] a ∧ Ext w w3 ∧ w3.heap[b1]? = some (.cells ⟨objC o Ae ce Ap cp⟩ 44 (0, 0)) ∧ (i ≤ o.Entries.length)) _ ⟨0, rfl, ha.sub (ρ' := [(1, .pointer (some ⟨b1, 0, none⟩)), (3, .string (S (rEnts o 0))), (4, .int .i64 ((0 : Nat) : Int))]) (by kernel_rfl), hx, hB_b1, by omega⟩ ?_
  clear ha hx hB_b1
  rintro zz a w4 ⟨i, hzz, ha, hx, hB_b1, hi⟩
  refine wseq ?_
  refine wseq ?_
  refine regp (ρ' := [(1, .pointer (some ⟨b1, 0, none⟩)), (3, .string (S (rEnts o i))), (4, .int .i64 ((i : Nat) : Int)), (12, .bool (decide (((i : Nat) : Int) < ((o.Entries.length : Nat) : Int))))]) (C := [RunOk Try.prog w4 (Instr.loadAt 38 (.pointer (some ⟨b1, 2, none⟩))) (.slice Ae o.Entries.length ce)]) ha [(2, .val (.slice Ae o.Entries.length ce))] (by kernel_rfl) (.cons (ld1 hB_b1 (by kernel_rfl) (by kernel_rfl)) .nil) ?_
  clear ha a; intro a ha
  refine tn ?_
  refine wif ha rfl (fun h12 => ?_) (fun h12 => ?_)
  · replace h12 := of_decide_eq_true h12
    have hil : i < o.Entries.length := by omega
    have hl1 := rEnts_len hfw i hi
    have hl2 := hfw.en i hil
    have hl3 := vtext_len (o.Entries.getD i default).Name
    have hl4 := (o.Entries.getD i default).I.h
    have hl5 : (oneB8 (o.Entries.getD i default).Kind).length = 1 := rfl
    refine wskip ?_
    refine tn ?_
    refine wseq ?_
    refine wblk ?_
    refine reg hmix (ρ' := [(1, .pointer (some ⟨b1, 0, none⟩)), (3, .string (S ((((rEnts o i) ++ (oneB8 ((o.Entries.getD i default).Kind))) ++ (vtext ((o.Entries.getD i default).Name))) ++ (((o.Entries.getD i default).I).l)))), (4, .int .i64 ((i : Nat) : Int))]) (C := [RunOk Try.prog w4 (Instr.loadAt 38 (.pointer (some ⟨b1, 2, none⟩))) (.slice Ae o.Entries.length ce), RunOk Try.prog w4 (Instr.indexAt 38 (.slice Ae o.Entries.length ce) (.int .i64 ((i : Nat) : Int))) (.pointer (some ⟨ab Ae, ao Ae + i * 34, none⟩)), RunOk Try.prog w4 (Instr.loadAt 3 (.pointer (some ⟨ab Ae, ao Ae + i * 34 + 1, none⟩))) (.int .i64 ((o.Entries.getD i default).Kind)), CallOk Try.prog w4 40 #[.int .i64 ((o.Entries.getD i default).Kind)] (.string (S (oneB8 ((o.Entries.getD i default).Kind)))), ((rEnts o i) : List UInt8).length + ((oneB8 ((o.Entries.getD i default).Kind)) : List UInt8).length ≤ 9223372036854775807, RunOk Try.prog w4 (Instr.loadAt 38 (.pointer (some ⟨b1, 2, none⟩))) (.slice Ae o.Entries.length ce), RunOk Try.prog w4 (Instr.indexAt 38 (.slice Ae o.Entries.length ce) (.int .i64 ((i : Nat) : Int))) (.pointer (some ⟨ab Ae, ao Ae + i * 34, none⟩)), RunOk Try.prog w4 (Instr.loadAt 9 (.pointer (some ⟨ab Ae, ao Ae + i * 34, none⟩))) (.string (S ((o.Entries.getD i default).Name))), CallOk Try.prog w4 41 #[.string (S ((o.Entries.getD i default).Name))] (.string (S (vtext ((o.Entries.getD i default).Name)))), (((rEnts o i) ++ (oneB8 ((o.Entries.getD i default).Kind))) : List UInt8).length + ((vtext ((o.Entries.getD i default).Name)) : List UInt8).length ≤ 9223372036854775807, RunOk Try.prog w4 (Instr.loadAt 38 (.pointer (some ⟨b1, 2, none⟩))) (.slice Ae o.Entries.length ce), RunOk Try.prog w4 (Instr.indexAt 38 (.slice Ae o.Entries.length ce) (.int .i64 ((i : Nat) : Int))) (.pointer (some ⟨ab Ae, ao Ae + i * 34, none⟩)), RunOk Try.prog w4 (Instr.loadAt 40 (.pointer (some ⟨ab Ae, ao Ae + i * 34 + 2, none⟩))) (.agg ⟨idc ((o.Entries.getD i default).I)⟩), CallOk Try.prog w4 57 #[.agg ⟨idc ((o.Entries.getD i default).I)⟩] (.string (S (((o.Entries.getD i default).I).l))), ((((rEnts o i) ++ (oneB8 ((o.Entries.getD i default).Kind))) ++ (vtext ((o.Entries.getD i default).Name))) : List UInt8).length + (((o.Entries.getD i default).I).l : List UInt8).length ≤ 9223372036854775807]) ha [(2, .val (.slice Ae o.Entries.length ce)), (4, .val (.pointer (some ⟨ab Ae, ao Ae + i * 34, none⟩))), (6, .val (.int .i64 ((o.Entries.getD i default).Kind))), (7, .val (.string (S (oneB8 ((o.Entries.getD i default).Kind))))), (10, .val (.slice Ae o.Entries.length ce)), (12, .val (.pointer (some ⟨ab Ae, ao Ae + i * 34, none⟩))), (14, .val (.string (S ((o.Entries.getD i default).Name)))), (15, .val (.string (S (vtext ((o.Entries.getD i default).Name))))), (18, .val (.slice Ae o.Entries.length ce)), (20, .val (.pointer (some ⟨ab Ae, ao Ae + i * 34, none⟩))), (22, .val (.agg ⟨idc ((o.Entries.getD i default).I)⟩)), (23, .val (.string (S (((o.Entries.getD i default).I).l))))] (by kernel_rfl) (.cons (ld1 hB_b1 (by kernel_rfl) (by kernel_rfl)) (.cons (ixRd (e := 70) (by kernel_rfl) (by kernel_rfl) (rdE hx hoe) (by omega)) (.cons (ldRd (j := i * 34 + 1) (by kernel_rfl) (rdE hx hoe) (by omega) (flat_get encEnt_len o.Entries default i 1 (by omega) rfl)) (.cons (fun w _ => one_ok _ w) (.cons (by first | omega | (simp only [List.length_cons, List.length_nil, List.length_append, List.length_take, List.length_drop]; omega)) (.cons (ld1 hB_b1 (by kernel_rfl) (by kernel_rfl)) (.cons (ixRd (e := 70) (by kernel_rfl) (by kernel_rfl) (rdE hx hoe) (by omega)) (.cons (ldRd (j := i * 34) (by kernel_rfl) (rdE hx hoe) (by omega) (flat_get0 encEnt_len o.Entries default i (by omega) rfl)) (.cons (fun w _ => rtext_ok _ w (by omega)) (.cons (by first | omega | (simp only [List.length_cons, List.length_nil, List.length_append, List.length_take, List.length_drop]; omega)) (.cons (ld1 hB_b1 (by kernel_rfl) (by kernel_rfl)) (.cons (ixRd (e := 70) (by kernel_rfl) (by kernel_rfl) (rdE hx hoe) (by omega)) (.cons (ldRdN (vs := (idc ((o.Entries.getD i default).I))) (j := i * 34 + 2) (by kernel_rfl) (by kernel_rfl) (rdE hx hoe) (by omega) (flat_part encEnt_len o.Entries default i 2 32 (by omega) (by kernel_rfl) (by decide))) (.cons (fun w _ => idbytes_ok _ w) (.cons (by first | omega | (simp only [List.length_cons, List.length_nil, List.length_append, List.length_take, List.length_drop]; omega)) .nil))))))))))))))) ?_
    clear ha a; intro a w5 ha he
    replace hx := hx.tr he
    replace hB_b1 := keepB he hB_b1
    clear he
    rw [show (((((rEnts o i) ++ (oneB8 ((o.Entries.getD i default).Kind))) ++ (vtext ((o.Entries.getD i default).Name))) ++ (((o.Entries.getD i default).I).l)) : List UInt8) = (rEnts o (i + 1)) from by rw [rEnts_succ o i hil]] at ha
    refine bn ?_
    refine tn ?_
    refine regp (ρ' := [(1, .pointer (some ⟨b1, 0, none⟩)), (3, .string (S (rEnts o (i + 1)))), (4, .int .i64 ((i + 1 : Nat) : Int))]) (C := [InR .i64 ((i + 1 : Nat) : Int)]) ha [] (by kernel_rfl) (.cons (by unfold InR; omega) .nil) ?_
    clear ha a; intro a ha
    exact tn ⟨o.Entries.length - ((i + 1)), by omega, (i + 1), rfl, ha.sub (ρ' := [(1, .pointer (some ⟨b1, 0, none⟩)), (3, .string (S (rEnts o (i + 1)))), (4, .int .i64 (((i + 1) : Nat) : Int))]) (by kernel_rfl), hx, hB_b1, by omega⟩
  · replace h12 := of_decide_eq_false h12
    rw [show ((rEnts o i) : List UInt8) = (rEnts o o.Entries.length) from by rw [show i = o.Entries.length by omega]] at ha
    have hl1 := rEnts_len hfw _ (Nat.le_refl _)
    have hl4 := o.Tree.h
    have hl6 := o.Target.h
    have hv1 := vput_len o.Parents.length
    have hv2 := vput_len o.Time
    have hv3 := vtext_len o.Text
    have hv4 := vtext_len o.Name
    have ft := hfw.t
    have fn := hfw.n
    have hl5 : (oneB8 o.Of).length = 1 := rfl
    have htm := hok.time
    refine wexit ?_
    refine (te (te (be ?_)))
    refine tn ?_
    refine wcut (fun a w6 => On 96 [(1, .pointer (some ⟨b1, 0, none⟩)), (3, .string (S (rCom o)))] a ∧ Ext w w6 ∧ w6.heap[b1]? = some (.cells ⟨objC o Ae ce Ap cp⟩ 44 (0, 0)) ∧ ((rCom o).length ≤ 40000)) ?_ ?_
    ·
      refine wseq ?_
      refine regp (ρ' := [(1, .pointer (some ⟨b1, 0, none⟩)), (3, .string (S (rEnts o o.Entries.length))), (42, .bool (decide ((o.Kind : Int) = 3)))]) (C := [RunOk Try.prog w4 (Instr.loadAt 3 (.pointer (some ⟨b1, 0, none⟩))) (.int .i64 o.Kind)]) ha [(1, .val (.int .i64 o.Kind))] (by kernel_rfl) (.cons (ld1 hB_b1 (by kernel_rfl) (by kernel_rfl)) .nil) ?_
      clear ha a; intro a ha
      refine tn ?_
      refine wif ha rfl (fun h42 => ?_) (fun h42 => ?_)
      · replace h42 := of_decide_eq_true h42
        refine wseq ?_
        refine reg hmix (ρ' := [(1, .pointer (some ⟨b1, 0, none⟩)), (3, .string (S (((rEnts o o.Entries.length) ++ o.Tree.l) ++ (vput o.Parents.length))))]) (C := [RunOk Try.prog w4 (Instr.loadAt 40 (.pointer (some ⟨b1, 3, none⟩))) (.agg ⟨idc o.Tree⟩), CallOk Try.prog w4 57 #[.agg ⟨idc o.Tree⟩] (.string (S o.Tree.l)), ((rEnts o o.Entries.length) : List UInt8).length + (o.Tree.l : List UInt8).length ≤ 9223372036854775807, RunOk Try.prog w4 (Instr.loadAt 41 (.pointer (some ⟨b1, 35, none⟩))) (.slice Ap o.Parents.length cp), InR .u64 ((o.Parents.length : Nat) : Int), CallOk Try.prog w4 26 #[.int .u64 ((o.Parents.length : Nat) : Int)] (.string (S (vput o.Parents.length))), (((rEnts o o.Entries.length) ++ o.Tree.l) : List UInt8).length + ((vput o.Parents.length) : List UInt8).length ≤ 9223372036854775807]) ha [(2, .val (.agg ⟨idc o.Tree⟩)), (3, .val (.string (S o.Tree.l))), (6, .val (.slice Ap o.Parents.length cp)), (9, .val (.string (S (vput o.Parents.length))))] (by kernel_rfl) (.cons (ldN (n := 32) hB_b1 (by kernel_rfl) (by kernel_rfl) ⟨Nat.le_of_ble_eq_true (by kernel_rfl), (by kernel_rfl)⟩) (.cons (fun w _ => idbytes_ok _ w) (.cons (by first | omega | (simp only [List.length_cons, List.length_nil, List.length_append, List.length_take, List.length_drop]; omega)) (.cons (ld1 hB_b1 (by kernel_rfl) (by kernel_rfl)) (.cons (by unfold InR; omega) (.cons (fun w _ => rput_ok _ w (by first | omega | (have := vget_lt; omega))) (.cons (by first | omega | (simp only [List.length_cons, List.length_nil, List.length_append, List.length_take, List.length_drop]; omega)) .nil))))))) ?_
        clear ha a; intro a w7 ha he
        replace hx := hx.tr he
        replace hB_b1 := keepB he hB_b1
        clear he
        rw [show ((((rEnts o o.Entries.length) ++ o.Tree.l) ++ (vput o.Parents.length)) : List UInt8) = (rPars o 0) from by simp [rPars]] at ha
        refine tn ?_
        refine wseq ?_
        refine wseq ?_
        refine regp (ρ' := [(1, .pointer (some ⟨b1, 0, none⟩)), (3, .string (S (rPars o 0))), (5, .int .i64 0)]) (C := []) ha [] (by kernel_rfl) .nil ?_
        clear ha a; intro a ha
        refine tn ?_
        refine wblk ?_
        refine wloop (fun zz a w8 => ∃ (i : Nat), zz = o.Parents.length - i ∧ On 96 [(1, .pointer (some ⟨b1, 0, none⟩)), (3, .string (S (rPars o i))), (5, .int .i64 ((i : Nat) : Int))] a ∧ Ext w w8 ∧ w8.heap[b1]? = some (.cells ⟨objC o Ae ce Ap cp⟩ 44 (0, 0)) ∧ (i ≤ o.Parents.length)) _ ⟨0, rfl, ha.sub (ρ' := [(1, .pointer (some ⟨b1, 0, none⟩)), (3, .string (S (rPars o 0))), (5, .int .i64 ((0 : Nat) : Int))]) (by kernel_rfl), hx, hB_b1, by omega⟩ ?_
        clear ha hx hB_b1
        rintro zz a w9 ⟨i, hzz, ha, hx, hB_b1, hi2⟩
        have hp1 := rPars_len hfw i hi2
        refine wseq ?_
        refine wseq ?_
        refine regp (ρ' := [(1, .pointer (some ⟨b1, 0, none⟩)), (3, .string (S (rPars o i))), (5, .int .i64 ((i : Nat) : Int)), (58, .bool (decide (((i : Nat) : Int) < ((o.Parents.length : Nat) : Int))))]) (C := [RunOk Try.prog w9 (Instr.loadAt 41 (.pointer (some ⟨b1, 35, none⟩))) (.slice Ap o.Parents.length cp)]) ha [(2, .val (.slice Ap o.Parents.length cp))] (by kernel_rfl) (.cons (ld1 hB_b1 (by kernel_rfl) (by kernel_rfl)) .nil) ?_
        clear ha a; intro a ha
        refine tn ?_
        refine wif ha rfl (fun h58 => ?_) (fun h58 => ?_)
        · replace h58 := of_decide_eq_true h58
          have hil : i < o.Parents.length := by omega
          have hl7 := (o.Parents.getD i default).h
          refine wskip ?_
          refine tn ?_
          refine wseq ?_
          refine wblk ?_
          refine reg hmix (ρ' := [(1, .pointer (some ⟨b1, 0, none⟩)), (3, .string (S ((rPars o i) ++ ((o.Parents.getD i default).l)))), (5, .int .i64 ((i : Nat) : Int))]) (C := [RunOk Try.prog w9 (Instr.loadAt 41 (.pointer (some ⟨b1, 35, none⟩))) (.slice Ap o.Parents.length cp), RunOk Try.prog w9 (Instr.indexAt 41 (.slice Ap o.Parents.length cp) (.int .i64 ((i : Nat) : Int))) (.pointer (some ⟨ab Ap, ao Ap + i * 32, none⟩)), RunOk Try.prog w9 (Instr.loadAt 40 (.pointer (some ⟨ab Ap, ao Ap + i * 32, none⟩))) (.agg ⟨idc (o.Parents.getD i default)⟩), CallOk Try.prog w9 57 #[.agg ⟨idc (o.Parents.getD i default)⟩] (.string (S ((o.Parents.getD i default).l))), ((rPars o i) : List UInt8).length + ((o.Parents.getD i default).l : List UInt8).length ≤ 9223372036854775807]) ha [(2, .val (.slice Ap o.Parents.length cp)), (4, .val (.pointer (some ⟨ab Ap, ao Ap + i * 32, none⟩))), (5, .val (.agg ⟨idc (o.Parents.getD i default)⟩)), (6, .val (.string (S ((o.Parents.getD i default).l))))] (by kernel_rfl) (.cons (ld1 hB_b1 (by kernel_rfl) (by kernel_rfl)) (.cons (ixRd (e := 40) (by kernel_rfl) (by kernel_rfl) (rdE hx hop) (by omega)) (.cons (ldRdN (vs := idc (o.Parents.getD i default)) (j := i * 32) (by kernel_rfl) (by kernel_rfl) (rdE hx hop) (by omega) (flat_seg idc_len o.Parents default i (by omega))) (.cons (fun w _ => idbytes_ok _ w) (.cons (by first | omega | (simp only [List.length_cons, List.length_nil, List.length_append, List.length_take, List.length_drop]; omega)) .nil))))) ?_
          clear ha a; intro a w10 ha he
          replace hx := hx.tr he
          replace hB_b1 := keepB he hB_b1
          clear he
          rw [show (((rPars o i) ++ ((o.Parents.getD i default).l)) : List UInt8) = (rPars o (i + 1)) from by rw [rPars_succ o i hil]] at ha
          refine bn ?_
          refine tn ?_
          refine regp (ρ' := [(1, .pointer (some ⟨b1, 0, none⟩)), (3, .string (S (rPars o (i + 1)))), (5, .int .i64 ((i + 1 : Nat) : Int))]) (C := [InR .i64 ((i + 1 : Nat) : Int)]) ha [] (by kernel_rfl) (.cons (by unfold InR; omega) .nil) ?_
          clear ha a; intro a ha
          exact tn ⟨o.Parents.length - ((i + 1)), by omega, (i + 1), rfl, ha.sub (ρ' := [(1, .pointer (some ⟨b1, 0, none⟩)), (3, .string (S (rPars o (i + 1)))), (5, .int .i64 (((i + 1) : Nat) : Int))]) (by kernel_rfl), hx, hB_b1, by omega⟩
        · replace h58 := of_decide_eq_false h58
          rw [show ((rPars o i) : List UInt8) = (rPars o o.Parents.length) from by rw [show i = o.Parents.length by omega]] at ha
          have hp2 := rPars_len hfw _ (Nat.le_refl _)
          refine wexit ?_
          refine (te (te (be ?_)))
          refine tn ?_
          refine reg hmix (ρ' := [(1, .pointer (some ⟨b1, 0, none⟩)), (3, .string (S (((rPars o o.Parents.length) ++ (vput o.Time)) ++ (vtext o.Text))))]) (C := [RunOk Try.prog w9 (Instr.loadAt 42 (.pointer (some ⟨b1, 36, none⟩))) (.int .u32 ((o.Time : Nat) : Int)), InR .u64 ((o.Time : Nat) : Int), CallOk Try.prog w9 26 #[.int .u64 ((o.Time : Nat) : Int)] (.string (S (vput o.Time))), ((rPars o o.Parents.length) : List UInt8).length + ((vput o.Time) : List UInt8).length ≤ 9223372036854775807, RunOk Try.prog w9 (Instr.loadAt 9 (.pointer (some ⟨b1, 37, none⟩))) (.string (S o.Text)), CallOk Try.prog w9 41 #[.string (S o.Text)] (.string (S (vtext o.Text))), (((rPars o o.Parents.length) ++ (vput o.Time)) : List UInt8).length + ((vtext o.Text) : List UInt8).length ≤ 9223372036854775807]) ha [(2, .val (.int .u32 ((o.Time : Nat) : Int))), (4, .val (.string (S (vput o.Time)))), (7, .val (.string (S o.Text))), (8, .val (.string (S (vtext o.Text))))] (by kernel_rfl) (.cons (ld1 hB_b1 (by kernel_rfl) (by kernel_rfl)) (.cons (by unfold InR; omega) (.cons (fun w _ => rput_ok _ w (by first | omega | (have := vget_lt; omega))) (.cons (by first | omega | (simp only [List.length_cons, List.length_nil, List.length_append, List.length_take, List.length_drop]; omega)) (.cons (ld1 hB_b1 (by kernel_rfl) (by kernel_rfl)) (.cons (fun w _ => rtext_ok _ w (by omega)) (.cons (by first | omega | (simp only [List.length_cons, List.length_nil, List.length_append, List.length_take, List.length_drop]; omega)) .nil))))))) ?_
          clear ha a; intro a w11 ha he
          replace hx := hx.tr he
          replace hB_b1 := keepB he hB_b1
          clear he
          rw [show ((((rPars o o.Parents.length) ++ (vput o.Time)) ++ (vtext o.Text)) : List UInt8) = (rCom o) from by rw [rCom, if_pos h42]] at ha
          have hcl : (rCom o).length ≤ 40000 := by rw [rCom, if_pos h42]; simp only [List.length_append]; omega
          exact tn ⟨ha.sub (ρ' := [(1, .pointer (some ⟨b1, 0, none⟩)), (3, .string (S (rCom o)))]) (by kernel_rfl), hx, hB_b1, hcl⟩
      · replace h42 := of_decide_eq_false h42
        rw [show ((rEnts o o.Entries.length) : List UInt8) = (rCom o) from by rw [rCom, if_neg h42]] at ha
        have hcl : (rCom o).length ≤ 40000 := by rw [rCom, if_neg h42]; omega
        refine wskip ?_
        exact tn ⟨ha.sub (ρ' := [(1, .pointer (some ⟨b1, 0, none⟩)), (3, .string (S (rCom o)))]) (by kernel_rfl), hx, hB_b1, hcl⟩
    clear ha hx hB_b1
    rintro a w12 ⟨ha, hx, hB_b1, hcl⟩
    refine wseq ?_
    refine wseq ?_
    refine regp (ρ' := [(1, .pointer (some ⟨b1, 0, none⟩)), (3, .string (S (rCom o))), (81, .bool (decide ((o.Kind : Int) = 4)))]) (C := [RunOk Try.prog w12 (Instr.loadAt 3 (.pointer (some ⟨b1, 0, none⟩))) (.int .i64 o.Kind)]) ha [(1, .val (.int .i64 o.Kind))] (by kernel_rfl) (.cons (ld1 hB_b1 (by kernel_rfl) (by kernel_rfl)) .nil) ?_
    clear ha a; intro a ha
    refine tn ?_
    refine wif ha rfl (fun h81 => ?_) (fun h81 => ?_)
    · replace h81 := of_decide_eq_true h81
      refine reg hmix (ρ' := [(3, .string (S ((((rCom o) ++ (oneB8 o.Of)) ++ o.Target.l) ++ (vtext o.Name))))]) (C := [RunOk Try.prog w12 (Instr.loadAt 3 (.pointer (some ⟨b1, 70, none⟩))) (.int .i64 o.Of), CallOk Try.prog w12 40 #[.int .i64 o.Of] (.string (S (oneB8 o.Of))), ((rCom o) : List UInt8).length + ((oneB8 o.Of) : List UInt8).length ≤ 9223372036854775807, RunOk Try.prog w12 (Instr.loadAt 40 (.pointer (some ⟨b1, 38, none⟩))) (.agg ⟨idc o.Target⟩), CallOk Try.prog w12 57 #[.agg ⟨idc o.Target⟩] (.string (S o.Target.l)), (((rCom o) ++ (oneB8 o.Of)) : List UInt8).length + (o.Target.l : List UInt8).length ≤ 9223372036854775807, RunOk Try.prog w12 (Instr.loadAt 9 (.pointer (some ⟨b1, 71, none⟩))) (.string (S o.Name)), CallOk Try.prog w12 41 #[.string (S o.Name)] (.string (S (vtext o.Name))), ((((rCom o) ++ (oneB8 o.Of)) ++ o.Target.l) : List UInt8).length + ((vtext o.Name) : List UInt8).length ≤ 9223372036854775807]) ha [(2, .val (.int .i64 o.Of)), (3, .val (.string (S (oneB8 o.Of)))), (6, .val (.agg ⟨idc o.Target⟩)), (7, .val (.string (S o.Target.l))), (10, .val (.string (S o.Name))), (11, .val (.string (S (vtext o.Name))))] (by kernel_rfl) (.cons (ld1 hB_b1 (by kernel_rfl) (by kernel_rfl)) (.cons (fun w _ => one_ok _ w) (.cons (by first | omega | (simp only [List.length_cons, List.length_nil, List.length_append, List.length_take, List.length_drop]; omega)) (.cons (ldN (n := 32) hB_b1 (by kernel_rfl) (by kernel_rfl) ⟨Nat.le_of_ble_eq_true (by kernel_rfl), (by kernel_rfl)⟩) (.cons (fun w _ => idbytes_ok _ w) (.cons (by first | omega | (simp only [List.length_cons, List.length_nil, List.length_append, List.length_take, List.length_drop]; omega)) (.cons (ld1 hB_b1 (by kernel_rfl) (by kernel_rfl)) (.cons (fun w _ => rtext_ok _ w (by omega)) (.cons (by first | omega | (simp only [List.length_cons, List.length_nil, List.length_append, List.length_take, List.length_drop]; omega)) .nil))))))))) ?_
      clear ha a; intro a w13 ha he
      replace hx := hx.tr he
      replace hB_b1 := keepB he hB_b1
      clear he
      rw [show (((((rCom o) ++ (oneB8 o.Of)) ++ o.Target.l) ++ (vtext o.Name)) : List UInt8) = (rBody o) from by rw [rBody, if_pos h81]] at ha
      refine tn ?_
      refine wseq ?_
      refine regp (ρ' := [(2, .string (S (rBody o)))]) (C := []) ha [] (by kernel_rfl) .nil ?_
      clear ha a; intro a ha
      refine tn ?_
      refine wret ?_
      refine fin ha (.tmp rfl .nil) ?_
      exact ⟨rfl, hx⟩
    · replace h81 := of_decide_eq_false h81
      rw [show ((rCom o) : List UInt8) = (rBody o) from by rw [rBody, if_neg h81]] at ha
      refine wskip ?_
      refine tn ?_
      refine wseq ?_
      refine regp (ρ' := [(2, .string (S (rBody o)))]) (C := []) ha [] (by kernel_rfl) .nil ?_
      clear ha a; intro a ha
      refine tn ?_
      refine wret ?_
      refine fin ha (.tmp rfl .nil) ?_
      exact ⟨rfl, hx⟩
theorem renc_ok (o : ObjL) (Ae Ap : Option Addr) (ce cp : Nat) (w : World) (hoe : Rd w 34 Ae o.Entries.length (o.Entries.flatMap encEnt)) (hop : Rd w 32 Ap o.Parents.length (o.Parents.flatMap idc)) (hok : ObjOk o) (hfw : FewOk o) :
    Fn Try.prog 18 #[.agg ⟨objC o Ae ce Ap cp⟩] w (fun x w' => x = .tuple #[.string (S (rEnc o).1), .bool (rEnc o).2] ∧ Ext w w') := by
  have hx : Ext w w := Ext.rfl' w
  refine enter (N := 21) (args := [.agg ⟨objC o Ae ce Ap cp⟩]) Try.func18 rfl rfl rfl ?_
  intro a ha
  simp only [argEnv, Nat.zero_add, Nat.reduceAdd] at ha
  refine wseq ?_
  refine reg_list ?_
  refine lnew ha rfl (by kernel_rfl) ⟨objC o Ae ce Ap cp⟩ 44 (by kernel_rfl) ?_
  clear ha a; intro b1 w2 he hb_b1 hB_b1 a ha
  replace hb_b1 := Nat.le_trans hx.size hb_b1
  replace hx := hx.tr he
  clear he
  refine segp (ρ' := [(1, .pointer (some ⟨b1, 0, none⟩))]) (C := []) ha 2 [] rfl (by kernel_rfl) .nil ?_
  clear ha a; intro a ha
  refine lnil ?_
  replace ha := ha.sub (ρ' := [(1, .pointer (some ⟨b1, 0, none⟩))]) (by kernel_rfl)
  refine tn ?_
  refine wseq ?_
  refine reg hmix (ρ' := [(1, .pointer (some ⟨b1, 0, none⟩)), (4, .bool (oMay o))]) (C := [RunOk Try.prog w2 (Instr.loadAt 44 (.pointer (some ⟨b1, 0, none⟩))) (.agg ⟨objC o Ae ce Ap cp⟩), CallOk Try.prog w2 39 #[.agg ⟨objC o Ae ce Ap cp⟩] (.bool (oMay o))]) ha [(0, .val (.agg ⟨objC o Ae ce Ap cp⟩)), (1, .val (.bool (oMay o)))] (by kernel_rfl) (.cons (ldN (n := 72) hB_b1 (by kernel_rfl) (by kernel_rfl) ⟨Nat.le_of_ble_eq_true (by kernel_rfl), (by kernel_rfl)⟩) (.cons (fun w2 h2 => rmay_ok o _ _ _ _ w2 (rdE h2 (rdE hx hoe)) (rdE h2 (rdE hx hop)) hok) .nil)) ?_
  clear ha a; intro a w3 ha he
  replace hx := hx.tr he
  replace hB_b1 := keepB he hB_b1
  clear he
  refine tn ?_
  refine wseq ?_
  refine wseq ?_
  refine regp (ρ' := [(1, .pointer (some ⟨b1, 0, none⟩)), (9, .bool (!(oMay o)))]) (C := []) ha [] (by kernel_rfl) .nil ?_
  clear ha a; intro a ha
  refine tn ?_
  refine wif ha rfl (fun h9 => ?_) (fun h9 => ?_)
  · simp only [Bool.not_eq_true', Bool.not_eq_false', Bool.and_eq_true, Bool.or_eq_true, Bool.and_eq_false_iff, Bool.or_eq_false_iff, decide_eq_true_eq, decide_eq_false_iff_not, Bool.not_eq_true, Decidable.not_not] at h9
    have hres : rEnc o = ([], false) := by unfold rEnc; rw [if_neg (by simp [h9])]
    refine wseq ?_
    refine regp (ρ' := [(2, .string (S [])), (3, .bool false)]) (C := []) ha [] (by kernel_rfl) .nil ?_
    clear ha a; intro a ha
    refine tn ?_
    refine wret ?_
    refine (tr ?_)
    refine fin ha (.tmp rfl (.tmp rfl .nil)) ?_
    exact ⟨by rw [hres]; rfl, hx⟩
  · simp only [Bool.not_eq_true', Bool.not_eq_false', Bool.and_eq_true, Bool.or_eq_true, Bool.and_eq_false_iff, Bool.or_eq_false_iff, decide_eq_true_eq, decide_eq_false_iff_not, Bool.not_eq_true, Decidable.not_not] at h9
    have hbl := rBody_len hfw
    have htl := vtext_len (rBody o)
    have hl5 : (oneB8 o.Kind).length = 1 := rfl
    refine wskip ?_
    refine tn ?_
    refine wseq ?_
    refine reg hmix (ρ' := [(5, .string (S ((oneB8 o.Kind) ++ (vtext (rBody o)))))]) (C := [RunOk Try.prog w3 (Instr.loadAt 3 (.pointer (some ⟨b1, 0, none⟩))) (.int .i64 o.Kind), CallOk Try.prog w3 40 #[.int .i64 o.Kind] (.string (S (oneB8 o.Kind))), RunOk Try.prog w3 (Instr.loadAt 44 (.pointer (some ⟨b1, 0, none⟩))) (.agg ⟨objC o Ae ce Ap cp⟩), CallOk Try.prog w3 42 #[.agg ⟨objC o Ae ce Ap cp⟩] (.string (S (rBody o))), CallOk Try.prog w3 41 #[.string (S (rBody o))] (.string (S (vtext (rBody o)))), ((oneB8 o.Kind) : List UInt8).length + ((vtext (rBody o)) : List UInt8).length ≤ 9223372036854775807]) ha [(1, .val (.int .i64 o.Kind)), (2, .val (.string (S (oneB8 o.Kind)))), (3, .val (.agg ⟨objC o Ae ce Ap cp⟩)), (4, .val (.string (S (rBody o)))), (5, .val (.string (S (vtext (rBody o)))))] (by kernel_rfl) (.cons (ld1 hB_b1 (by kernel_rfl) (by kernel_rfl)) (.cons (fun w _ => one_ok _ w) (.cons (ldN (n := 72) hB_b1 (by kernel_rfl) (by kernel_rfl) ⟨Nat.le_of_ble_eq_true (by kernel_rfl), (by kernel_rfl)⟩) (.cons (fun w2 h2 => rbody_ok o _ _ _ _ w2 (rdE h2 (rdE hx hoe)) (rdE h2 (rdE hx hop)) hok hfw) (.cons (fun w _ => rtext_ok _ w (by omega)) (.cons (by first | omega | (simp only [List.length_cons, List.length_nil, List.length_append, List.length_take, List.length_drop]; omega)) .nil)))))) ?_
    clear ha a; intro a w4 ha he
    replace hx := hx.tr he
    replace hB_b1 := keepB he hB_b1
    clear he
    refine tn ?_
    refine wseq ?_
    refine wseq ?_
    refine regp (ρ' := [(5, .string (S ((oneB8 o.Kind) ++ (vtext (rBody o))))), (19, .bool (decide ((4096 : Int) < ((((oneB8 o.Kind) ++ (vtext (rBody o))).length : Nat) : Int))))]) (C := []) ha [] (by kernel_rfl) .nil ?_
    clear ha a; intro a ha
    refine tn ?_
    refine wif ha rfl (fun h19 => ?_) (fun h19 => ?_)
    · replace h19 := of_decide_eq_true h19
      have hres : rEnc o = ([], false) := by unfold rEnc; rw [if_pos (by simpa using h9), if_pos (by omega)]
      refine wseq ?_
      refine regp (ρ' := [(2, .string (S [])), (3, .bool false)]) (C := []) ha [] (by kernel_rfl) .nil ?_
      clear ha a; intro a ha
      refine tn ?_
      refine wret ?_
      refine (tr ?_)
      refine fin ha (.tmp rfl (.tmp rfl .nil)) ?_
      exact ⟨by rw [hres]; rfl, hx⟩
    · replace h19 := of_decide_eq_false h19
      have hres : rEnc o = (oneB8 o.Kind ++ vtext (rBody o), true) := by unfold rEnc; rw [if_pos (by simpa using h9), if_neg (by omega)]
      refine wskip ?_
      refine tn ?_
      refine wseq ?_
      refine regp (ρ' := [(2, .string (S ((oneB8 o.Kind) ++ (vtext (rBody o))))), (3, .bool true)]) (C := []) ha [] (by kernel_rfl) .nil ?_
      clear ha a; intro a ha
      refine tn ?_
      refine wret ?_
      refine fin ha (.tmp rfl (.tmp rfl .nil)) ?_
      exact ⟨by rw [hres]; rfl, hx⟩
end Go.Kn
