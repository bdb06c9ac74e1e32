import Derived.Test.YtihmegmambmljaaDoorOd04
import Derived.Test.YtihmegmambmljaaDoorOd02
import Derived.Shelf.Strings.Builder1
import Derived.Test.YtihmegmambmljaaDoorChecked
import Derived.Test.YtihmegmambmljaaDoorOd03
section
set_option linter.unusedSimpArgs false
set_option linter.unusedVariables false
set_option maxRecDepth 100000
namespace Go.Kn
open Go.Proofs
theorem rbody_ok (o : ObjL) (Ae Ap : Option Addr) (ce cp : Nat) (w : World) (hoe : Rd w 34 Ae o.Entries.length (o.Entries.flatMap encEnt)) (hop : Rd w 32 Ap o.Parents.length (o.Parents.flatMap idc)) (hok : ObjOk o) (hfw : FewOk o) :
    Fn Tryd.prog 93 #[.agg ⟨objC o Ae ce Ap cp⟩] w (fun x w' => x = .string (S (rBody o)) ∧ Ext w w') := by
  have hx : Ext w w := Ext.rfl' w
  refine enter (N := 96) (args := [.agg ⟨objC o Ae ce Ap cp⟩]) Tryd.func93 rfl rfl rfl ?_
  intro a ha
  simp only [argEnv, Nat.zero_add, Nat.reduceAdd] at ha
  refine wseq ?_
  refine reg_list ?_
  refine lnew ha rfl (by kernel_rfl) ⟨objC o Ae ce Ap cp⟩ 54 (by kernel_rfl) ?_
  clear ha a; intro b1 w2 he hb_b1 hB_b1 a ha
  replace hb_b1 := Nat.le_trans hx.size hb_b1
  replace hx := hx.tr he
  clear he
  refine segp (ρ' := [(1, .pointer (some ⟨b1, 0, none⟩))]) (C := []) ha 1 [] rfl (by kernel_rfl) .nil ?_
  clear ha a; intro a ha
  refine lnil ?_
  replace ha := ha.sub (ρ' := [(1, .pointer (some ⟨b1, 0, none⟩))]) (by kernel_rfl)
  refine tn ?_
  refine wseq ?_
  refine regp (ρ' := [(1, .pointer (some ⟨b1, 0, none⟩)), (3, .string (S o.Data))]) (C := [RunOk Tryd.prog w2 (Instr.loadAt 9 (.pointer (some ⟨b1, 1, none⟩))) (.string (S o.Data))]) ha [(1, .val (.string (S o.Data)))] (by kernel_rfl) (.cons (ld1 hB_b1 (by kernel_rfl) (by kernel_rfl)) .nil) ?_
  clear ha a; intro a ha
  rw [show (o.Data : List UInt8) = (rEnts o 0) from by simp [rEnts]] at ha
  have fe := hfw.e
  have fp := hfw.p
  refine tn ?_
  refine wseq ?_
  refine wseq ?_
  refine regp (ρ' := [(1, .pointer (some ⟨b1, 0, none⟩)), (3, .string (S (rEnts o 0))), (4, .int .i64 0)]) (C := []) ha [] (by kernel_rfl) .nil ?_
  clear ha a; intro a ha
  refine tn ?_
  refine wblk ?_
  refine wloop (fun zz a w3 => ∃ (i : Nat), zz = o.Entries.length - i ∧ On 96 [(1, .pointer (some ⟨b1, 0, none⟩)), (3, .string (S (rEnts o i))), (4, .int .i64 ((i : Nat) : Int))] a ∧ Ext w w3 ∧ w3.heap[b1]? = some (.cells ⟨objC o Ae ce Ap cp⟩ 54 (0, 0)) ∧ (i ≤ o.Entries.length)) _ ⟨0, rfl, ha.sub (ρ' := [(1, .pointer (some ⟨b1, 0, none⟩)), (3, .string (S (rEnts o 0))), (4, .int .i64 ((0 : Nat) : Int))]) (by kernel_rfl), hx, hB_b1, by omega⟩ ?_
  clear ha hx hB_b1
  rintro zz a w4 ⟨i, hzz, ha, hx, hB_b1, hi⟩
  refine wseq ?_
  refine wseq ?_
  refine regp (ρ' := [(1, .pointer (some ⟨b1, 0, none⟩)), (3, .string (S (rEnts o i))), (4, .int .i64 ((i : Nat) : Int)), (12, .bool (decide (((i : Nat) : Int) < ((o.Entries.length : Nat) : Int))))]) (C := [RunOk Tryd.prog w4 (Instr.loadAt 50 (.pointer (some ⟨b1, 2, none⟩))) (.slice Ae o.Entries.length ce)]) ha [(2, .val (.slice Ae o.Entries.length ce))] (by kernel_rfl) (.cons (ld1 hB_b1 (by kernel_rfl) (by kernel_rfl)) .nil) ?_
  clear ha a; intro a ha
  refine tn ?_
  refine wif ha rfl (fun h12 => ?_) (fun h12 => ?_)
  · replace h12 := of_decide_eq_true h12
    have hil : i < o.Entries.length := by omega
    have hl1 := rEnts_len hfw i hi
    have hl2 := hfw.en i hil
    have hl3 := vtext_len (o.Entries.getD i default).Name
    have hl4 := (o.Entries.getD i default).I.h
    have hl5 : (oneB8 (o.Entries.getD i default).Kind).length = 1 := rfl
    refine wskip ?_
    refine tn ?_
    refine wseq ?_
    refine wblk ?_
    refine reg hmix (ρ' := [(1, .pointer (some ⟨b1, 0, none⟩)), (3, .string (S ((((rEnts o i) ++ (oneB8 ((o.Entries.getD i default).Kind))) ++ (vtext ((o.Entries.getD i default).Name))) ++ (((o.Entries.getD i default).I).l)))), (4, .int .i64 ((i : Nat) : Int))]) (C := [RunOk Tryd.prog w4 (Instr.loadAt 50 (.pointer (some ⟨b1, 2, none⟩))) (.slice Ae o.Entries.length ce), RunOk Tryd.prog w4 (Instr.indexAt 50 (.slice Ae o.Entries.length ce) (.int .i64 ((i : Nat) : Int))) (.pointer (some ⟨ab Ae, ao Ae + i * 34, none⟩)), RunOk Tryd.prog w4 (Instr.loadAt 3 (.pointer (some ⟨ab Ae, ao Ae + i * 34 + 1, none⟩))) (.int .i64 ((o.Entries.getD i default).Kind)), CallOk Tryd.prog w4 91 #[.int .i64 ((o.Entries.getD i default).Kind)] (.string (S (oneB8 ((o.Entries.getD i default).Kind)))), ((rEnts o i) : List UInt8).length + ((oneB8 ((o.Entries.getD i default).Kind)) : List UInt8).length ≤ 9223372036854775807, RunOk Tryd.prog w4 (Instr.loadAt 50 (.pointer (some ⟨b1, 2, none⟩))) (.slice Ae o.Entries.length ce), RunOk Tryd.prog w4 (Instr.indexAt 50 (.slice Ae o.Entries.length ce) (.int .i64 ((i : Nat) : Int))) (.pointer (some ⟨ab Ae, ao Ae + i * 34, none⟩)), RunOk Tryd.prog w4 (Instr.loadAt 9 (.pointer (some ⟨ab Ae, ao Ae + i * 34, none⟩))) (.string (S ((o.Entries.getD i default).Name))), CallOk Tryd.prog w4 92 #[.string (S ((o.Entries.getD i default).Name))] (.string (S (vtext ((o.Entries.getD i default).Name)))), (((rEnts o i) ++ (oneB8 ((o.Entries.getD i default).Kind))) : List UInt8).length + ((vtext ((o.Entries.getD i default).Name)) : List UInt8).length ≤ 9223372036854775807, RunOk Tryd.prog w4 (Instr.loadAt 50 (.pointer (some ⟨b1, 2, none⟩))) (.slice Ae o.Entries.length ce), RunOk Tryd.prog w4 (Instr.indexAt 50 (.slice Ae o.Entries.length ce) (.int .i64 ((i : Nat) : Int))) (.pointer (some ⟨ab Ae, ao Ae + i * 34, none⟩)), RunOk Tryd.prog w4 (Instr.loadAt 24 (.pointer (some ⟨ab Ae, ao Ae + i * 34 + 2, none⟩))) (.agg ⟨idc ((o.Entries.getD i default).I)⟩), CallOk Tryd.prog w4 109 #[.agg ⟨idc ((o.Entries.getD i default).I)⟩] (.string (S (((o.Entries.getD i default).I).l))), ((((rEnts o i) ++ (oneB8 ((o.Entries.getD i default).Kind))) ++ (vtext ((o.Entries.getD i default).Name))) : List UInt8).length + (((o.Entries.getD i default).I).l : List UInt8).length ≤ 9223372036854775807]) ha [(2, .val (.slice Ae o.Entries.length ce)), (4, .val (.pointer (some ⟨ab Ae, ao Ae + i * 34, none⟩))), (6, .val (.int .i64 ((o.Entries.getD i default).Kind))), (7, .val (.string (S (oneB8 ((o.Entries.getD i default).Kind))))), (10, .val (.slice Ae o.Entries.length ce)), (12, .val (.pointer (some ⟨ab Ae, ao Ae + i * 34, none⟩))), (14, .val (.string (S ((o.Entries.getD i default).Name)))), (15, .val (.string (S (vtext ((o.Entries.getD i default).Name))))), (18, .val (.slice Ae o.Entries.length ce)), (20, .val (.pointer (some ⟨ab Ae, ao Ae + i * 34, none⟩))), (22, .val (.agg ⟨idc ((o.Entries.getD i default).I)⟩)), (23, .val (.string (S (((o.Entries.getD i default).I).l))))] (by kernel_rfl) (.cons (ld1 hB_b1 (by kernel_rfl) (by kernel_rfl)) (.cons (ixRd (e := 89) (by kernel_rfl) (by kernel_rfl) (rdE hx hoe) (by omega)) (.cons (ldRd (j := i * 34 + 1) (by kernel_rfl) (rdE hx hoe) (by omega) (flat_get encEnt_len o.Entries default i 1 (by omega) rfl)) (.cons (fun w _ => one_ok _ w) (.cons (by first | omega | (simp only [List.length_cons, List.length_nil, List.length_append, List.length_take, List.length_drop]; omega)) (.cons (ld1 hB_b1 (by kernel_rfl) (by kernel_rfl)) (.cons (ixRd (e := 89) (by kernel_rfl) (by kernel_rfl) (rdE hx hoe) (by omega)) (.cons (ldRd (j := i * 34) (by kernel_rfl) (rdE hx hoe) (by omega) (flat_get0 encEnt_len o.Entries default i (by omega) rfl)) (.cons (fun w _ => rtext_ok _ w (by omega)) (.cons (by first | omega | (simp only [List.length_cons, List.length_nil, List.length_append, List.length_take, List.length_drop]; omega)) (.cons (ld1 hB_b1 (by kernel_rfl) (by kernel_rfl)) (.cons (ixRd (e := 89) (by kernel_rfl) (by kernel_rfl) (rdE hx hoe) (by omega)) (.cons (ldRdN (vs := (idc ((o.Entries.getD i default).I))) (j := i * 34 + 2) (by kernel_rfl) (by kernel_rfl) (rdE hx hoe) (by omega) (flat_part encEnt_len o.Entries default i 2 32 (by omega) (by kernel_rfl) (by decide))) (.cons (fun w _ => idbytes_ok _ w) (.cons (by first | omega | (simp only [List.length_cons, List.length_nil, List.length_append, List.length_take, List.length_drop]; omega)) .nil))))))))))))))) ?_
    clear ha a; intro a w5 ha he
    replace hx := hx.tr he
    replace hB_b1 := keepB he hB_b1
    clear he
    rw [show (((((rEnts o i) ++ (oneB8 ((o.Entries.getD i default).Kind))) ++ (vtext ((o.Entries.getD i default).Name))) ++ (((o.Entries.getD i default).I).l)) : List UInt8) = (rEnts o (i + 1)) from by rw [rEnts_succ o i hil]] at ha
    refine bn ?_
    refine tn ?_
    refine regp (ρ' := [(1, .pointer (some ⟨b1, 0, none⟩)), (3, .string (S (rEnts o (i + 1)))), (4, .int .i64 ((i + 1 : Nat) : Int))]) (C := [InR .i64 ((i + 1 : Nat) : Int)]) ha [] (by kernel_rfl) (.cons (by unfold InR; omega) .nil) ?_
    clear ha a; intro a ha
    exact tn ⟨o.Entries.length - ((i + 1)), by omega, (i + 1), rfl, ha.sub (ρ' := [(1, .pointer (some ⟨b1, 0, none⟩)), (3, .string (S (rEnts o (i + 1)))), (4, .int .i64 (((i + 1) : Nat) : Int))]) (by kernel_rfl), hx, hB_b1, by omega⟩
  · replace h12 := of_decide_eq_false h12
    rw [show ((rEnts o i) : List UInt8) = (rEnts o o.Entries.length) from by rw [show i = o.Entries.length by omega]] at ha
    have hl1 := rEnts_len hfw _ (Nat.le_refl _)
    have hl4 := o.Tree.h
    have hl6 := o.Target.h
    have hv1 := vput_len o.Parents.length
    have hv2 := vput_len o.Time
    have hv3 := vtext_len o.Text
    have hv4 := vtext_len o.Name
    have ft := hfw.t
    have fn := hfw.n
    have hl5 : (oneB8 o.Of).length = 1 := rfl
    have htm := hok.time
    refine wexit ?_
    refine (te (te (be ?_)))
    refine tn ?_
    refine wcut (fun a w6 => On 96 [(1, .pointer (some ⟨b1, 0, none⟩)), (3, .string (S (rCom o)))] a ∧ Ext w w6 ∧ w6.heap[b1]? = some (.cells ⟨objC o Ae ce Ap cp⟩ 54 (0, 0)) ∧ ((rCom o).length ≤ 40000)) ?_ ?_
    ·
      refine wseq ?_
      refine regp (ρ' := [(1, .pointer (some ⟨b1, 0, none⟩)), (3, .string (S (rEnts o o.Entries.length))), (42, .bool (decide ((o.Kind : Int) = 3)))]) (C := [RunOk Tryd.prog w4 (Instr.loadAt 3 (.pointer (some ⟨b1, 0, none⟩))) (.int .i64 o.Kind)]) ha [(1, .val (.int .i64 o.Kind))] (by kernel_rfl) (.cons (ld1 hB_b1 (by kernel_rfl) (by kernel_rfl)) .nil) ?_
      clear ha a; intro a ha
      refine tn ?_
      refine wif ha rfl (fun h42 => ?_) (fun h42 => ?_)
      · replace h42 := of_decide_eq_true h42
        refine wseq ?_
        refine reg hmix (ρ' := [(1, .pointer (some ⟨b1, 0, none⟩)), (3, .string (S (((rEnts o o.Entries.length) ++ o.Tree.l) ++ (vput o.Parents.length))))]) (C := [RunOk Tryd.prog w4 (Instr.loadAt 24 (.pointer (some ⟨b1, 3, none⟩))) (.agg ⟨idc o.Tree⟩), CallOk Tryd.prog w4 109 #[.agg ⟨idc o.Tree⟩] (.string (S o.Tree.l)), ((rEnts o o.Entries.length) : List UInt8).length + (o.Tree.l : List UInt8).length ≤ 9223372036854775807, RunOk Tryd.prog w4 (Instr.loadAt 51 (.pointer (some ⟨b1, 35, none⟩))) (.slice Ap o.Parents.length cp), InR .u64 ((o.Parents.length : Nat) : Int), CallOk Tryd.prog w4 108 #[.int .u64 ((o.Parents.length : Nat) : Int)] (.string (S (vput o.Parents.length))), (((rEnts o o.Entries.length) ++ o.Tree.l) : List UInt8).length + ((vput o.Parents.length) : List UInt8).length ≤ 9223372036854775807]) ha [(2, .val (.agg ⟨idc o.Tree⟩)), (3, .val (.string (S o.Tree.l))), (6, .val (.slice Ap o.Parents.length cp)), (9, .val (.string (S (vput o.Parents.length))))] (by kernel_rfl) (.cons (ldN (n := 32) hB_b1 (by kernel_rfl) (by kernel_rfl) ⟨Nat.le_of_ble_eq_true (by kernel_rfl), (by kernel_rfl)⟩) (.cons (fun w _ => idbytes_ok _ w) (.cons (by first | omega | (simp only [List.length_cons, List.length_nil, List.length_append, List.length_take, List.length_drop]; omega)) (.cons (ld1 hB_b1 (by kernel_rfl) (by kernel_rfl)) (.cons (by unfold InR; omega) (.cons (fun w _ => rput_ok _ w (by first | omega | (have := vget_lt; omega))) (.cons (by first | omega | (simp only [List.length_cons, List.length_nil, List.length_append, List.length_take, List.length_drop]; omega)) .nil))))))) ?_
        clear ha a; intro a w7 ha he
        replace hx := hx.tr he
        replace hB_b1 := keepB he hB_b1
        clear he
        rw [show ((((rEnts o o.Entries.length) ++ o.Tree.l) ++ (vput o.Parents.length)) : List UInt8) = (rPars o 0) from by simp [rPars]] at ha
        refine tn ?_
        refine wseq ?_
        refine wseq ?_
        refine regp (ρ' := [(1, .pointer (some ⟨b1, 0, none⟩)), (3, .string (S (rPars o 0))), (5, .int .i64 0)]) (C := []) ha [] (by kernel_rfl) .nil ?_
        clear ha a; intro a ha
        refine tn ?_
        refine wblk ?_
        refine wloop (fun zz a w8 => ∃ (i : Nat), zz = o.Parents.length - i ∧ On 96 [(1, .pointer (some ⟨b1, 0, none⟩)), (3, .string (S (rPars o i))), (5, .int .i64 ((i : Nat) : Int))] a ∧ Ext w w8 ∧ w8.heap[b1]? = some (.cells ⟨objC o Ae ce Ap cp⟩ 54 (0, 0)) ∧ (i ≤ o.Parents.length)) _ ⟨0, rfl, ha.sub (ρ' := [(1, .pointer (some ⟨b1, 0, none⟩)), (3, .string (S (rPars o 0))), (5, .int .i64 ((0 : Nat) : Int))]) (by kernel_rfl), hx, hB_b1, by omega⟩ ?_
        clear ha hx hB_b1
        rintro zz a w9 ⟨i, hzz, ha, hx, hB_b1, hi2⟩
        have hp1 := rPars_len hfw i hi2
        refine wseq ?_
        refine wseq ?_
        refine regp (ρ' := [(1, .pointer (some ⟨b1, 0, none⟩)), (3, .string (S (rPars o i))), (5, .int .i64 ((i : Nat) : Int)), (58, .bool (decide (((i : Nat) : Int) < ((o.Parents.length : Nat) : Int))))]) (C := [RunOk Tryd.prog w9 (Instr.loadAt 51 (.pointer (some ⟨b1, 35, none⟩))) (.slice Ap o.Parents.length cp)]) ha [(2, .val (.slice Ap o.Parents.length cp))] (by kernel_rfl) (.cons (ld1 hB_b1 (by kernel_rfl) (by kernel_rfl)) .nil) ?_
        clear ha a; intro a ha
        refine tn ?_
        refine wif ha rfl (fun h58 => ?_) (fun h58 => ?_)
        · replace h58 := of_decide_eq_true h58
          have hil : i < o.Parents.length := by omega
          have hl7 := (o.Parents.getD i default).h
          refine wskip ?_
          refine tn ?_
          refine wseq ?_
          refine wblk ?_
          refine reg hmix (ρ' := [(1, .pointer (some ⟨b1, 0, none⟩)), (3, .string (S ((rPars o i) ++ ((o.Parents.getD i default).l)))), (5, .int .i64 ((i : Nat) : Int))]) (C := [RunOk Tryd.prog w9 (Instr.loadAt 51 (.pointer (some ⟨b1, 35, none⟩))) (.slice Ap o.Parents.length cp), RunOk Tryd.prog w9 (Instr.indexAt 51 (.slice Ap o.Parents.length cp) (.int .i64 ((i : Nat) : Int))) (.pointer (some ⟨ab Ap, ao Ap + i * 32, none⟩)), RunOk Tryd.prog w9 (Instr.loadAt 24 (.pointer (some ⟨ab Ap, ao Ap + i * 32, none⟩))) (.agg ⟨idc (o.Parents.getD i default)⟩), CallOk Tryd.prog w9 109 #[.agg ⟨idc (o.Parents.getD i default)⟩] (.string (S ((o.Parents.getD i default).l))), ((rPars o i) : List UInt8).length + ((o.Parents.getD i default).l : List UInt8).length ≤ 9223372036854775807]) ha [(2, .val (.slice Ap o.Parents.length cp)), (4, .val (.pointer (some ⟨ab Ap, ao Ap + i * 32, none⟩))), (5, .val (.agg ⟨idc (o.Parents.getD i default)⟩)), (6, .val (.string (S ((o.Parents.getD i default).l))))] (by kernel_rfl) (.cons (ld1 hB_b1 (by kernel_rfl) (by kernel_rfl)) (.cons (ixRd (e := 24) (by kernel_rfl) (by kernel_rfl) (rdE hx hop) (by omega)) (.cons (ldRdN (vs := idc (o.Parents.getD i default)) (j := i * 32) (by kernel_rfl) (by kernel_rfl) (rdE hx hop) (by omega) (flat_seg idc_len o.Parents default i (by omega))) (.cons (fun w _ => idbytes_ok _ w) (.cons (by first | omega | (simp only [List.length_cons, List.length_nil, List.length_append, List.length_take, List.length_drop]; omega)) .nil))))) ?_
          clear ha a; intro a w10 ha he
          replace hx := hx.tr he
          replace hB_b1 := keepB he hB_b1
          clear he
          rw [show (((rPars o i) ++ ((o.Parents.getD i default).l)) : List UInt8) = (rPars o (i + 1)) from by rw [rPars_succ o i hil]] at ha
          refine bn ?_
          refine tn ?_
          refine regp (ρ' := [(1, .pointer (some ⟨b1, 0, none⟩)), (3, .string (S (rPars o (i + 1)))), (5, .int .i64 ((i + 1 : Nat) : Int))]) (C := [InR .i64 ((i + 1 : Nat) : Int)]) ha [] (by kernel_rfl) (.cons (by unfold InR; omega) .nil) ?_
          clear ha a; intro a ha
          exact tn ⟨o.Parents.length - ((i + 1)), by omega, (i + 1), rfl, ha.sub (ρ' := [(1, .pointer (some ⟨b1, 0, none⟩)), (3, .string (S (rPars o (i + 1)))), (5, .int .i64 (((i + 1) : Nat) : Int))]) (by kernel_rfl), hx, hB_b1, by omega⟩
        · replace h58 := of_decide_eq_false h58
          rw [show ((rPars o i) : List UInt8) = (rPars o o.Parents.length) from by rw [show i = o.Parents.length by omega]] at ha
          have hp2 := rPars_len hfw _ (Nat.le_refl _)
          refine wexit ?_
          refine (te (te (be ?_)))
          refine tn ?_
          refine reg hmix (ρ' := [(1, .pointer (some ⟨b1, 0, none⟩)), (3, .string (S (((rPars o o.Parents.length) ++ (vput o.Time)) ++ (vtext o.Text))))]) (C := [RunOk Tryd.prog w9 (Instr.loadAt 52 (.pointer (some ⟨b1, 36, none⟩))) (.int .u32 ((o.Time : Nat) : Int)), InR .u64 ((o.Time : Nat) : Int), CallOk Tryd.prog w9 108 #[.int .u64 ((o.Time : Nat) : Int)] (.string (S (vput o.Time))), ((rPars o o.Parents.length) : List UInt8).length + ((vput o.Time) : List UInt8).length ≤ 9223372036854775807, RunOk Tryd.prog w9 (Instr.loadAt 9 (.pointer (some ⟨b1, 37, none⟩))) (.string (S o.Text)), CallOk Tryd.prog w9 92 #[.string (S o.Text)] (.string (S (vtext o.Text))), (((rPars o o.Parents.length) ++ (vput o.Time)) : List UInt8).length + ((vtext o.Text) : List UInt8).length ≤ 9223372036854775807]) ha [(2, .val (.int .u32 ((o.Time : Nat) : Int))), (4, .val (.string (S (vput o.Time)))), (7, .val (.string (S o.Text))), (8, .val (.string (S (vtext o.Text))))] (by kernel_rfl) (.cons (ld1 hB_b1 (by kernel_rfl) (by kernel_rfl)) (.cons (by unfold InR; omega) (.cons (fun w _ => rput_ok _ w (by first | omega | (have := vget_lt; omega))) (.cons (by first | omega | (simp only [List.length_cons, List.length_nil, List.length_append, List.length_take, List.length_drop]; omega)) (.cons (ld1 hB_b1 (by kernel_rfl) (by kernel_rfl)) (.cons (fun w _ => rtext_ok _ w (by omega)) (.cons (by first | omega | (simp only [List.length_cons, List.length_nil, List.length_append, List.length_take, List.length_drop]; omega)) .nil))))))) ?_
          clear ha a; intro a w11 ha he
          replace hx := hx.tr he
          replace hB_b1 := keepB he hB_b1
          clear he
          rw [show ((((rPars o o.Parents.length) ++ (vput o.Time)) ++ (vtext o.Text)) : List UInt8) = (rCom o) from by rw [rCom, if_pos h42]] at ha
          have hcl : (rCom o).length ≤ 40000 := by rw [rCom, if_pos h42]; simp only [List.length_append]; omega
          exact tn ⟨ha.sub (ρ' := [(1, .pointer (some ⟨b1, 0, none⟩)), (3, .string (S (rCom o)))]) (by kernel_rfl), hx, hB_b1, hcl⟩
      · replace h42 := of_decide_eq_false h42
        rw [show ((rEnts o o.Entries.length) : List UInt8) = (rCom o) from by rw [rCom, if_neg h42]] at ha
        have hcl : (rCom o).length ≤ 40000 := by rw [rCom, if_neg h42]; omega
        refine wskip ?_
        exact tn ⟨ha.sub (ρ' := [(1, .pointer (some ⟨b1, 0, none⟩)), (3, .string (S (rCom o)))]) (by kernel_rfl), hx, hB_b1, hcl⟩
    clear ha hx hB_b1
    rintro a w12 ⟨ha, hx, hB_b1, hcl⟩
    refine wseq ?_
    refine wseq ?_
    refine regp (ρ' := [(1, .pointer (some ⟨b1, 0, none⟩)), (3, .string (S (rCom o))), (81, .bool (decide ((o.Kind : Int) = 4)))]) (C := [RunOk Tryd.prog w12 (Instr.loadAt 3 (.pointer (some ⟨b1, 0, none⟩))) (.int .i64 o.Kind)]) ha [(1, .val (.int .i64 o.Kind))] (by kernel_rfl) (.cons (ld1 hB_b1 (by kernel_rfl) (by kernel_rfl)) .nil) ?_
    clear ha a; intro a ha
    refine tn ?_
    refine wif ha rfl (fun h81 => ?_) (fun h81 => ?_)
    · replace h81 := of_decide_eq_true h81
      refine reg hmix (ρ' := [(3, .string (S ((((rCom o) ++ (oneB8 o.Of)) ++ o.Target.l) ++ (vtext o.Name))))]) (C := [RunOk Tryd.prog w12 (Instr.loadAt 3 (.pointer (some ⟨b1, 70, none⟩))) (.int .i64 o.Of), CallOk Tryd.prog w12 91 #[.int .i64 o.Of] (.string (S (oneB8 o.Of))), ((rCom o) : List UInt8).length + ((oneB8 o.Of) : List UInt8).length ≤ 9223372036854775807, RunOk Tryd.prog w12 (Instr.loadAt 24 (.pointer (some ⟨b1, 38, none⟩))) (.agg ⟨idc o.Target⟩), CallOk Tryd.prog w12 109 #[.agg ⟨idc o.Target⟩] (.string (S o.Target.l)), (((rCom o) ++ (oneB8 o.Of)) : List UInt8).length + (o.Target.l : List UInt8).length ≤ 9223372036854775807, RunOk Tryd.prog w12 (Instr.loadAt 9 (.pointer (some ⟨b1, 71, none⟩))) (.string (S o.Name)), CallOk Tryd.prog w12 92 #[.string (S o.Name)] (.string (S (vtext o.Name))), ((((rCom o) ++ (oneB8 o.Of)) ++ o.Target.l) : List UInt8).length + ((vtext o.Name) : List UInt8).length ≤ 9223372036854775807]) ha [(2, .val (.int .i64 o.Of)), (3, .val (.string (S (oneB8 o.Of)))), (6, .val (.agg ⟨idc o.Target⟩)), (7, .val (.string (S o.Target.l))), (10, .val (.string (S o.Name))), (11, .val (.string (S (vtext o.Name))))] (by kernel_rfl) (.cons (ld1 hB_b1 (by kernel_rfl) (by kernel_rfl)) (.cons (fun w _ => one_ok _ w) (.cons (by first | omega | (simp only [List.length_cons, List.length_nil, List.length_append, List.length_take, List.length_drop]; omega)) (.cons (ldN (n := 32) hB_b1 (by kernel_rfl) (by kernel_rfl) ⟨Nat.le_of_ble_eq_true (by kernel_rfl), (by kernel_rfl)⟩) (.cons (fun w _ => idbytes_ok _ w) (.cons (by first | omega | (simp only [List.length_cons, List.length_nil, List.length_append, List.length_take, List.length_drop]; omega)) (.cons (ld1 hB_b1 (by kernel_rfl) (by kernel_rfl)) (.cons (fun w _ => rtext_ok _ w (by omega)) (.cons (by first | omega | (simp only [List.length_cons, List.length_nil, List.length_append, List.length_take, List.length_drop]; omega)) .nil))))))))) ?_
      clear ha a; intro a w13 ha he
      replace hx := hx.tr he
      replace hB_b1 := keepB he hB_b1
      clear he
      rw [show (((((rCom o) ++ (oneB8 o.Of)) ++ o.Target.l) ++ (vtext o.Name)) : List UInt8) = (rBody o) from by rw [rBody, if_pos h81]] at ha
      refine tn ?_
      refine wseq ?_
      refine regp (ρ' := [(2, .string (S (rBody o)))]) (C := []) ha [] (by kernel_rfl) .nil ?_
      clear ha a; intro a ha
      refine tn ?_
      refine wret ?_
      refine fin ha (.tmp rfl .nil) ?_
      exact ⟨rfl, hx⟩
    · replace h81 := of_decide_eq_false h81
      rw [show ((rCom o) : List UInt8) = (rBody o) from by rw [rBody, if_neg h81]] at ha
      refine wskip ?_
      refine tn ?_
      refine wseq ?_
      refine regp (ρ' := [(2, .string (S (rBody o)))]) (C := []) ha [] (by kernel_rfl) .nil ?_
      clear ha a; intro a ha
      refine tn ?_
      refine wret ?_
      refine fin ha (.tmp rfl .nil) ?_
      exact ⟨rfl, hx⟩
theorem renc_ok (o : ObjL) (Ae Ap : Option Addr) (ce cp : Nat) (w : World) (hoe : Rd w 34 Ae o.Entries.length (o.Entries.flatMap encEnt)) (hop : Rd w 32 Ap o.Parents.length (o.Parents.flatMap idc)) (hok : ObjOk o) (hfw : FewOk o) :
    Fn Tryd.prog 59 #[.agg ⟨objC o Ae ce Ap cp⟩] w (fun x w' => x = .tuple #[.string (S (rEnc o).1), .bool (rEnc o).2] ∧ Ext w w') := by
  have hx : Ext w w := Ext.rfl' w
  refine enter (N := 21) (args := [.agg ⟨objC o Ae ce Ap cp⟩]) Tryd.func59 rfl rfl rfl ?_
  intro a ha
  simp only [argEnv, Nat.zero_add, Nat.reduceAdd] at ha
  refine wseq ?_
  refine reg_list ?_
  refine lnew ha rfl (by kernel_rfl) ⟨objC o Ae ce Ap cp⟩ 54 (by kernel_rfl) ?_
  clear ha a; intro b1 w2 he hb_b1 hB_b1 a ha
  replace hb_b1 := Nat.le_trans hx.size hb_b1
  replace hx := hx.tr he
  clear he
  refine segp (ρ' := [(1, .pointer (some ⟨b1, 0, none⟩))]) (C := []) ha 2 [] rfl (by kernel_rfl) .nil ?_
  clear ha a; intro a ha
  refine lnil ?_
  replace ha := ha.sub (ρ' := [(1, .pointer (some ⟨b1, 0, none⟩))]) (by kernel_rfl)
  refine tn ?_
  refine wseq ?_
  refine reg hmix (ρ' := [(1, .pointer (some ⟨b1, 0, none⟩)), (4, .bool (oMay o))]) (C := [RunOk Tryd.prog w2 (Instr.loadAt 54 (.pointer (some ⟨b1, 0, none⟩))) (.agg ⟨objC o Ae ce Ap cp⟩), CallOk Tryd.prog w2 90 #[.agg ⟨objC o Ae ce Ap cp⟩] (.bool (oMay o))]) ha [(0, .val (.agg ⟨objC o Ae ce Ap cp⟩)), (1, .val (.bool (oMay o)))] (by kernel_rfl) (.cons (ldN (n := 72) hB_b1 (by kernel_rfl) (by kernel_rfl) ⟨Nat.le_of_ble_eq_true (by kernel_rfl), (by kernel_rfl)⟩) (.cons (fun w2 h2 => rmay_ok o _ _ _ _ w2 (rdE h2 (rdE hx hoe)) (rdE h2 (rdE hx hop)) hok) .nil)) ?_
  clear ha a; intro a w3 ha he
  replace hx := hx.tr he
  replace hB_b1 := keepB he hB_b1
  clear he
  refine tn ?_
  refine wseq ?_
  refine wseq ?_
  refine regp (ρ' := [(1, .pointer (some ⟨b1, 0, none⟩)), (9, .bool (!(oMay o)))]) (C := []) ha [] (by kernel_rfl) .nil ?_
  clear ha a; intro a ha
  refine tn ?_
  refine wif ha rfl (fun h9 => ?_) (fun h9 => ?_)
  · simp only [Bool.not_eq_true', Bool.not_eq_false', Bool.and_eq_true, Bool.or_eq_true, Bool.and_eq_false_iff, Bool.or_eq_false_iff, decide_eq_true_eq, decide_eq_false_iff_not, Bool.not_eq_true, Decidable.not_not] at h9
    have hres : rEnc o = ([], false) := by unfold rEnc; rw [if_neg (by simp [h9])]
    refine wseq ?_
    refine regp (ρ' := [(2, .string (S [])), (3, .bool false)]) (C := []) ha [] (by kernel_rfl) .nil ?_
    clear ha a; intro a ha
    refine tn ?_
    refine wret ?_
    refine (tr ?_)
    refine fin ha (.tmp rfl (.tmp rfl .nil)) ?_
    exact ⟨by rw [hres]; rfl, hx⟩
  · simp only [Bool.not_eq_true', Bool.not_eq_false', Bool.and_eq_true, Bool.or_eq_true, Bool.and_eq_false_iff, Bool.or_eq_false_iff, decide_eq_true_eq, decide_eq_false_iff_not, Bool.not_eq_true, Decidable.not_not] at h9
    have hbl := rBody_len hfw
    have htl := vtext_len (rBody o)
    have hl5 : (oneB8 o.Kind).length = 1 := rfl
    refine wskip ?_
    refine tn ?_
    refine wseq ?_
    refine reg hmix (ρ' := [(5, .string (S ((oneB8 o.Kind) ++ (vtext (rBody o)))))]) (C := [RunOk Tryd.prog w3 (Instr.loadAt 3 (.pointer (some ⟨b1, 0, none⟩))) (.int .i64 o.Kind), CallOk Tryd.prog w3 91 #[.int .i64 o.Kind] (.string (S (oneB8 o.Kind))), RunOk Tryd.prog w3 (Instr.loadAt 54 (.pointer (some ⟨b1, 0, none⟩))) (.agg ⟨objC o Ae ce Ap cp⟩), CallOk Tryd.prog w3 93 #[.agg ⟨objC o Ae ce Ap cp⟩] (.string (S (rBody o))), CallOk Tryd.prog w3 92 #[.string (S (rBody o))] (.string (S (vtext (rBody o)))), ((oneB8 o.Kind) : List UInt8).length + ((vtext (rBody o)) : List UInt8).length ≤ 9223372036854775807]) ha [(1, .val (.int .i64 o.Kind)), (2, .val (.string (S (oneB8 o.Kind)))), (3, .val (.agg ⟨objC o Ae ce Ap cp⟩)), (4, .val (.string (S (rBody o)))), (5, .val (.string (S (vtext (rBody o)))))] (by kernel_rfl) (.cons (ld1 hB_b1 (by kernel_rfl) (by kernel_rfl)) (.cons (fun w _ => one_ok _ w) (.cons (ldN (n := 72) hB_b1 (by kernel_rfl) (by kernel_rfl) ⟨Nat.le_of_ble_eq_true (by kernel_rfl), (by kernel_rfl)⟩) (.cons (fun w2 h2 => rbody_ok o _ _ _ _ w2 (rdE h2 (rdE hx hoe)) (rdE h2 (rdE hx hop)) hok hfw) (.cons (fun w _ => rtext_ok _ w (by omega)) (.cons (by first | omega | (simp only [List.length_cons, List.length_nil, List.length_append, List.length_take, List.length_drop]; omega)) .nil)))))) ?_
    clear ha a; intro a w4 ha he
    replace hx := hx.tr he
    replace hB_b1 := keepB he hB_b1
    clear he
    refine tn ?_
    refine wseq ?_
    refine wseq ?_
    refine regp (ρ' := [(5, .string (S ((oneB8 o.Kind) ++ (vtext (rBody o))))), (19, .bool (decide ((4096 : Int) < ((((oneB8 o.Kind) ++ (vtext (rBody o))).length : Nat) : Int))))]) (C := []) ha [] (by kernel_rfl) .nil ?_
    clear ha a; intro a ha
    refine tn ?_
    refine wif ha rfl (fun h19 => ?_) (fun h19 => ?_)
    · replace h19 := of_decide_eq_true h19
      have hres : rEnc o = ([], false) := by unfold rEnc; rw [if_pos (by simpa using h9), if_pos (by omega)]
      refine wseq ?_
      refine regp (ρ' := [(2, .string (S [])), (3, .bool false)]) (C := []) ha [] (by kernel_rfl) .nil ?_
      clear ha a; intro a ha
      refine tn ?_
      refine wret ?_
      refine (tr ?_)
      refine fin ha (.tmp rfl (.tmp rfl .nil)) ?_
      exact ⟨by rw [hres]; rfl, hx⟩
    · replace h19 := of_decide_eq_false h19
      have hres : rEnc o = (oneB8 o.Kind ++ vtext (rBody o), true) := by unfold rEnc; rw [if_pos (by simpa using h9), if_neg (by omega)]
      refine wskip ?_
      refine tn ?_
      refine wseq ?_
      refine regp (ρ' := [(2, .string (S ((oneB8 o.Kind) ++ (vtext (rBody o))))), (3, .bool true)]) (C := []) ha [] (by kernel_rfl) .nil ?_
      clear ha a; intro a ha
      refine tn ?_
      refine wret ?_
      refine fin ha (.tmp rfl (.tmp rfl .nil)) ?_
      exact ⟨by rw [hres]; rfl, hx⟩
end Go.Kn
end
section
set_option linter.unusedSimpArgs false
set_option linter.unusedVariables false
set_option maxRecDepth 100000
namespace Go.Kn
open Go.Proofs
theorem cc_new (b : Nat) (v : Value) (w : World) (hv : oneB v = true) (hB_b : w.heap[b]? = some (.cells #[.pointer none, v] 92 (0, 0))) :
    Fn Tryd.prog 94 #[.pointer (some ⟨b, 0, none⟩)] w (fun x w' => x = .tuple #[] ∧ Fr [b] w w' ∧ w'.heap[b]? = some (.cells #[.pointer (some ⟨b, 0, none⟩), v] 92 (0, 0))) := by
  have hx : Fr [b] w w := Fr.rfl' _ w
  refine enter (N := 20) (args := [.pointer (some ⟨b, 0, none⟩)]) Tryd.func94 rfl rfl rfl ?_
  intro a ha
  simp only [argEnv, Nat.zero_add, Nat.reduceAdd] at ha
  refine wseq ?_
  refine regp (ρ' := [(0, .pointer (some ⟨b, 0, none⟩)), (6, .bool true)]) (C := [RunOk Tryd.prog w (Instr.loadAt 90 (.pointer (some ⟨b, 0, none⟩))) (.pointer none)]) ha [(3, .val (.pointer none)), (4, .raw)] (by kernel_rfl) (.cons (ld1 hB_b (by kernel_rfl) rfl) .nil) ?_
  clear ha a; intro a ha
  refine tn ?_
  refine wif ha rfl (fun h6 => ?_) (fun h6 => ?_)
  ·
    refine reg_list ?_
    refine seg (ρ' := [(11, .pointer (some ⟨b, 0, none⟩)), (13, .pointer (some ⟨b, 0, none⟩))]) (C := [RunOk Tryd.prog w (convert 90 135 (.pointer (some ⟨b, 0, none⟩))) (.pointer (some ⟨b, 0, none⟩)), RunOk Tryd.prog w (convert 135 90 (.pointer (some ⟨b, 0, none⟩))) (.pointer (some ⟨b, 0, none⟩))]) ha 7 [(2, .val (.pointer (some ⟨b, 0, none⟩))), (3, .raw), (4, .val (.pointer (some ⟨b, 0, none⟩)))] (by kernel_rfl) (.cons (toUnsafe (t := 92) hB_b (by kernel_rfl) (by kernel_rfl) (by kernel_rfl) (by simp)) (.cons (fromUnsafe (u := 92) hB_b (by kernel_rfl) (by kernel_rfl) (by kernel_rfl) (by kernel_rfl)) .nil)) ?_
    clear ha a; intro a w1 ha he
    replace hx := hx.ext he
    replace hB_b := keepB he hB_b
    clear he
    refine lstore (off := 0) ha rfl rfl (by kernel_rfl) hB_b #[.pointer (some ⟨b, 0, none⟩), v] rfl (by kernel_rfl) (by kernel_rfl) ?_
    clear ha a; intro w2 hc a ha
    replace hx := hx.chg hc (.inl (by simp))
    replace hB_b := hc.at_; clear hc
    refine lnil ?_
    replace ha := ha.sub (ρ' := []) (by kernel_rfl)
    refine finN ha .nil ?_
    exact ⟨rfl, hx, hB_b⟩
  · cases h6
theorem cc_used (b : Nat) (v : Value) (w : World) (hB_b : w.heap[b]? = some (.cells #[.pointer (some ⟨b, 0, none⟩), v] 92 (0, 0))) :
    Fn Tryd.prog 94 #[.pointer (some ⟨b, 0, none⟩)] w (fun x w' => x = .tuple #[] ∧ Fr [b] w w' ∧ w'.heap[b]? = some (.cells #[.pointer (some ⟨b, 0, none⟩), v] 92 (0, 0))) := by
  have hx : Fr [b] w w := Fr.rfl' _ w
  refine enter (N := 20) (args := [.pointer (some ⟨b, 0, none⟩)]) Tryd.func94 rfl rfl rfl ?_
  intro a ha
  simp only [argEnv, Nat.zero_add, Nat.reduceAdd] at ha
  refine wseq ?_
  refine regp (ρ' := [(0, .pointer (some ⟨b, 0, none⟩)), (6, .bool false)]) (C := [RunOk Tryd.prog w (Instr.loadAt 90 (.pointer (some ⟨b, 0, none⟩))) (.pointer (some ⟨b, 0, none⟩))]) ha [(3, .val (.pointer (some ⟨b, 0, none⟩))), (4, .raw)] (by kernel_rfl) (.cons (ld1 hB_b (by kernel_rfl) rfl) .nil) ?_
  clear ha a; intro a ha
  refine tn ?_
  refine wif ha rfl (fun h6 => ?_) (fun h6 => ?_)
  · cases h6
  ·
    refine wseq ?_
    refine regp (ρ' := [(19, .bool false)]) (C := [RunOk Tryd.prog w (Instr.loadAt 90 (.pointer (some ⟨b, 0, none⟩))) (.pointer (some ⟨b, 0, none⟩)), BinOk Tryd.prog .neq 90 (.pointer (some ⟨b, 0, none⟩)) (.pointer (some ⟨b, 0, none⟩)) (.bool false)]) ha [(3, .val (.pointer (some ⟨b, 0, none⟩))), (5, .val (.bool false))] (by kernel_rfl) (.cons (ld1 hB_b (by kernel_rfl) rfl) (.cons (neqPtr (te := 92) _ (by kernel_rfl) (by kernel_rfl)) .nil)) ?_
    clear ha a; intro a ha
    refine tn ?_
    refine wif ha rfl (fun h19 => ?_) (fun h19 => ?_)
    · cases h19
    ·
      refine wskip ?_
      refine finN ha .nil ?_
      exact ⟨rfl, hx, hB_b⟩
end Go.Kn
end
section
set_option linter.unusedSimpArgs false
set_option linter.unusedVariables false
set_option maxRecDepth 100000
namespace Go.Kn
open Go.Proofs
theorem wb_new (B b : Nat) (l : List UInt8) (A : Option Addr) (c : Nat) (k : Nat) (hk : k < 256) (w : World) (hB0 : B ≤ w.heap.size) (hBb : B ≤ b) (hl : l.length + 1 ≤ 140737488355328) (hB_b : w.heap[b]? = some (.cells #[.pointer none, .slice A l.length c] 92 (0, 0))) (ho : Own w B 5 1 A l.length c (bys l)) :
    Fn Tryd.prog 105 #[.pointer (some ⟨b, 0, none⟩), .int .u8 ((k : Nat) : Int)] w (fun x w' => x = .nilIface ∧ Bd 92 w' B b (l ++ [UInt8.ofNat k]) ∧ Oth B b w w') := by
  have hx : Oth B b w w := Oth.rfl' _ _ w
  refine enter (N := 17) (args := [.pointer (some ⟨b, 0, none⟩), .int .u8 ((k : Nat) : Int)]) Tryd.func105 rfl rfl rfl ?_
  intro a ha
  simp only [argEnv, Nat.zero_add, Nat.reduceAdd] at ha
  refine wseq ?_
  refine regp (ρ' := [(0, .pointer (some ⟨b, 0, none⟩)), (1, .int .u8 ((k : Nat) : Int))]) (C := []) ha [] (by kernel_rfl) .nil ?_
  clear ha a; intro a ha
  refine tn ?_
  refine wseq ?_
  refine reg_list ?_
  refine segp (ρ' := [(0, .pointer (some ⟨b, 0, none⟩)), (1, .int .u8 ((k : Nat) : Int)), (5, .pointer (some ⟨b, 0, none⟩))]) (C := []) ha 1 [] rfl (by kernel_rfl) .nil ?_
  clear ha a; intro a ha
  refine lcall (vs := #[.pointer (some ⟨b, 0, none⟩)]) ha rfl (by kernel_rfl) rfl rfl (by kernel_rfl) (by kernel_rfl) (cc_new b _ w rfl hB_b) ?_
  clear ha a; rintro _ w1 ⟨rfl, hfr, hB'⟩ a ha
  replace ho := ownFr1 hfr hB_b rfl ho
  replace hx := hx.fr hfr hBb (Nat.le_trans hB0 hx.below.size)
  replace hB_b := hB'; clear hB' hfr
  refine lnil ?_
  replace ha := ha.sub (ρ' := [(0, .pointer (some ⟨b, 0, none⟩)), (1, .int .u8 ((k : Nat) : Int))]) (by kernel_rfl)
  refine tn ?_
  refine wseq ?_
  refine reg_list ?_
  refine segp (ρ' := [(7, .pointer (some ⟨b, 0, none⟩)), (11, .slice A l.length c), (12, .int .u8 ((k : Nat) : Int))]) (C := [RunOk Tryd.prog w1 (Instr.loadAt 63 (.pointer (some ⟨b, 1, none⟩))) (.slice A l.length c)]) ha 6 [(4, .val (.slice A l.length c))] rfl (by kernel_rfl) (.cons (ld1 hB_b (by kernel_rfl) rfl) .nil) ?_
  clear ha a; intro a ha
  refine lnewS ha rfl (by kernel_rfl) #[.int .u8 ((k : Nat) : Int)] 5 1 (by kernel_rfl) ?_
  clear ha a; intro b2 w3 he hb_b2 hB_b2 a ha
  have hne_b_b2 : b ≠ b2 := ne_new hB_b hb_b2
  have hno_ho_b2 : (Value.slice A l.length c).ownBlock ≠ some b2 := own_ne ho hb_b2
  replace hB_b := keepB he hB_b
  replace ho := ownE he ho
  replace hb_b2 := Nat.le_trans hx.below.size hb_b2
  replace hx := hx.ext he (Nat.le_trans hB0 hx.below.size)
  clear he
  refine lapp (by_ := 1) ha rfl (by kernel_rfl) rfl (by kernel_rfl) rfl ho rfl [.int .u8 ((k : Nat) : Int)] rfl (news_blk hB_b2) rfl (by omega) (by omega) (Nat.le_trans hB0 hx.below.size) ?_
  clear ha a; intro A4 c5 w6 ho2 hg a ha
  clear hB_b2 hb_b2
  replace hB_b := keepG hg ho rfl hB_b
  replace hx := hx.grown hg ho (Nat.le_trans hB0 hx.below.size)
  clear hg ho
  rw [show ((bys l ++ [.int .u8 ((k : Nat) : Int)]) : List Value) = bys (l ++ [UInt8.ofNat k]) from by first | exact bys_pushN _ _ hk | simp] at ho2
  rw [show ((l.length + 1) : Nat) = (l ++ [UInt8.ofNat k]).length from by simp] at ha ho2
  refine segp (ρ' := [(14, .slice A4 ((l ++ [UInt8.ofNat k]).length) c5), (16, .pointer (some ⟨b, 1, none⟩))]) (C := []) ha 2 [] rfl (by kernel_rfl) .nil ?_
  clear ha a; intro a ha
  refine lstore (off := 1) ha rfl rfl (by kernel_rfl) hB_b #[.pointer (some ⟨b, 0, none⟩), .slice A4 ((l ++ [UInt8.ofNat k]).length) c5] rfl (by kernel_rfl) (by kernel_rfl) ?_
  clear ha a; intro w7 hc a ha
  replace ho2 := ownC hc hB_b rfl ho2
  replace hx := hx.chg hc hBb (Nat.le_trans hB0 hx.below.size)
  replace hB_b := hc.at_; clear hc
  refine lnil ?_
  replace ha := ha.sub (ρ' := []) (by kernel_rfl)
  refine tn ?_
  refine wseq ?_
  refine regp (ρ' := [(4, .nilIface)]) (C := []) ha [] (by kernel_rfl) .nil ?_
  clear ha a; intro a ha
  refine tn ?_
  refine wret ?_
  refine fin ha (.tmp rfl .nil) ?_
  exact ⟨rfl, ⟨_, _, _, .inr rfl, hBb, hB_b, ho2⟩, hx⟩
theorem wb_used (B b : Nat) (l : List UInt8) (A : Option Addr) (c : Nat) (k : Nat) (hk : k < 256) (w : World) (hB0 : B ≤ w.heap.size) (hBb : B ≤ b) (hl : l.length + 1 ≤ 140737488355328) (hB_b : w.heap[b]? = some (.cells #[.pointer (some ⟨b, 0, none⟩), .slice A l.length c] 92 (0, 0))) (ho : Own w B 5 1 A l.length c (bys l)) :
    Fn Tryd.prog 105 #[.pointer (some ⟨b, 0, none⟩), .int .u8 ((k : Nat) : Int)] w (fun x w' => x = .nilIface ∧ Bd 92 w' B b (l ++ [UInt8.ofNat k]) ∧ Oth B b w w') := by
  have hx : Oth B b w w := Oth.rfl' _ _ w
  refine enter (N := 17) (args := [.pointer (some ⟨b, 0, none⟩), .int .u8 ((k : Nat) : Int)]) Tryd.func105 rfl rfl rfl ?_
  intro a ha
  simp only [argEnv, Nat.zero_add, Nat.reduceAdd] at ha
  refine wseq ?_
  refine regp (ρ' := [(0, .pointer (some ⟨b, 0, none⟩)), (1, .int .u8 ((k : Nat) : Int))]) (C := []) ha [] (by kernel_rfl) .nil ?_
  clear ha a; intro a ha
  refine tn ?_
  refine wseq ?_
  refine reg_list ?_
  refine segp (ρ' := [(0, .pointer (some ⟨b, 0, none⟩)), (1, .int .u8 ((k : Nat) : Int)), (5, .pointer (some ⟨b, 0, none⟩))]) (C := []) ha 1 [] rfl (by kernel_rfl) .nil ?_
  clear ha a; intro a ha
  refine lcall (vs := #[.pointer (some ⟨b, 0, none⟩)]) ha rfl (by kernel_rfl) rfl rfl (by kernel_rfl) (by kernel_rfl) (cc_used b _ w hB_b) ?_
  clear ha a; rintro _ w1 ⟨rfl, hfr, hB'⟩ a ha
  replace ho := ownFr1 hfr hB_b rfl ho
  replace hx := hx.fr hfr hBb (Nat.le_trans hB0 hx.below.size)
  replace hB_b := hB'; clear hB' hfr
  refine lnil ?_
  replace ha := ha.sub (ρ' := [(0, .pointer (some ⟨b, 0, none⟩)), (1, .int .u8 ((k : Nat) : Int))]) (by kernel_rfl)
  refine tn ?_
  refine wseq ?_
  refine reg_list ?_
  refine segp (ρ' := [(7, .pointer (some ⟨b, 0, none⟩)), (11, .slice A l.length c), (12, .int .u8 ((k : Nat) : Int))]) (C := [RunOk Tryd.prog w1 (Instr.loadAt 63 (.pointer (some ⟨b, 1, none⟩))) (.slice A l.length c)]) ha 6 [(4, .val (.slice A l.length c))] rfl (by kernel_rfl) (.cons (ld1 hB_b (by kernel_rfl) rfl) .nil) ?_
  clear ha a; intro a ha
  refine lnewS ha rfl (by kernel_rfl) #[.int .u8 ((k : Nat) : Int)] 5 1 (by kernel_rfl) ?_
  clear ha a; intro b2 w3 he hb_b2 hB_b2 a ha
  have hne_b_b2 : b ≠ b2 := ne_new hB_b hb_b2
  have hno_ho_b2 : (Value.slice A l.length c).ownBlock ≠ some b2 := own_ne ho hb_b2
  replace hB_b := keepB he hB_b
  replace ho := ownE he ho
  replace hb_b2 := Nat.le_trans hx.below.size hb_b2
  replace hx := hx.ext he (Nat.le_trans hB0 hx.below.size)
  clear he
  refine lapp (by_ := 1) ha rfl (by kernel_rfl) rfl (by kernel_rfl) rfl ho rfl [.int .u8 ((k : Nat) : Int)] rfl (news_blk hB_b2) rfl (by omega) (by omega) (Nat.le_trans hB0 hx.below.size) ?_
  clear ha a; intro A4 c5 w6 ho2 hg a ha
  clear hB_b2 hb_b2
  replace hB_b := keepG hg ho rfl hB_b
  replace hx := hx.grown hg ho (Nat.le_trans hB0 hx.below.size)
  clear hg ho
  rw [show ((bys l ++ [.int .u8 ((k : Nat) : Int)]) : List Value) = bys (l ++ [UInt8.ofNat k]) from by first | exact bys_pushN _ _ hk | simp] at ho2
  rw [show ((l.length + 1) : Nat) = (l ++ [UInt8.ofNat k]).length from by simp] at ha ho2
  refine segp (ρ' := [(14, .slice A4 ((l ++ [UInt8.ofNat k]).length) c5), (16, .pointer (some ⟨b, 1, none⟩))]) (C := []) ha 2 [] rfl (by kernel_rfl) .nil ?_
  clear ha a; intro a ha
  refine lstore (off := 1) ha rfl rfl (by kernel_rfl) hB_b #[.pointer (some ⟨b, 0, none⟩), .slice A4 ((l ++ [UInt8.ofNat k]).length) c5] rfl (by kernel_rfl) (by kernel_rfl) ?_
  clear ha a; intro w7 hc a ha
  replace ho2 := ownC hc hB_b rfl ho2
  replace hx := hx.chg hc hBb (Nat.le_trans hB0 hx.below.size)
  replace hB_b := hc.at_; clear hc
  refine lnil ?_
  replace ha := ha.sub (ρ' := []) (by kernel_rfl)
  refine tn ?_
  refine wseq ?_
  refine regp (ρ' := [(4, .nilIface)]) (C := []) ha [] (by kernel_rfl) .nil ?_
  clear ha a; intro a ha
  refine tn ?_
  refine wret ?_
  refine fin ha (.tmp rfl .nil) ?_
  exact ⟨rfl, ⟨_, _, _, .inr rfl, hBb, hB_b, ho2⟩, hx⟩
theorem ws_new (B b : Nat) (l : List UInt8) (A : Option Addr) (c : Nat) (q : List UInt8) (hq : l.length + q.length ≤ 140737488355328) (w : World) (hB0 : B ≤ w.heap.size) (hBb : B ≤ b) (hl : l.length + 1 ≤ 140737488355328) (hB_b : w.heap[b]? = some (.cells #[.pointer none, .slice A l.length c] 92 (0, 0))) (ho : Own w B 5 1 A l.length c (bys l)) :
    Fn Tryd.prog 61 #[.pointer (some ⟨b, 0, none⟩), .string (S q)] w (fun x w' => x = .tuple #[.int .i64 ((q.length : Nat) : Int), .nilIface] ∧ Bd 92 w' B b (l ++ q) ∧ Oth B b w w') := by
  have hx : Oth B b w w := Oth.rfl' _ _ w
  refine enter (N := 19) (args := [.pointer (some ⟨b, 0, none⟩), .string (S q)]) Tryd.func61 rfl rfl rfl ?_
  intro a ha
  simp only [argEnv, Nat.zero_add, Nat.reduceAdd] at ha
  refine wseq ?_
  refine regp (ρ' := [(0, .pointer (some ⟨b, 0, none⟩)), (1, .string (S q))]) (C := []) ha [] (by kernel_rfl) .nil ?_
  clear ha a; intro a ha
  refine tn ?_
  refine wseq ?_
  refine reg_list ?_
  refine segp (ρ' := [(0, .pointer (some ⟨b, 0, none⟩)), (1, .string (S q)), (6, .pointer (some ⟨b, 0, none⟩))]) (C := []) ha 1 [] rfl (by kernel_rfl) .nil ?_
  clear ha a; intro a ha
  refine lcall (vs := #[.pointer (some ⟨b, 0, none⟩)]) ha rfl (by kernel_rfl) rfl rfl (by kernel_rfl) (by kernel_rfl) (cc_new b _ w rfl hB_b) ?_
  clear ha a; rintro _ w1 ⟨rfl, hfr, hB'⟩ a ha
  replace ho := ownFr1 hfr hB_b rfl ho
  replace hx := hx.fr hfr hBb (Nat.le_trans hB0 hx.below.size)
  replace hB_b := hB'; clear hB' hfr
  refine lnil ?_
  replace ha := ha.sub (ρ' := [(0, .pointer (some ⟨b, 0, none⟩)), (1, .string (S q))]) (by kernel_rfl)
  refine tn ?_
  refine wseq ?_
  refine reg_list ?_
  refine segp (ρ' := [(1, .string (S q)), (8, .pointer (some ⟨b, 0, none⟩)), (12, .slice A l.length c), (13, .string (S q))]) (C := [RunOk Tryd.prog w1 (Instr.loadAt 63 (.pointer (some ⟨b, 1, none⟩))) (.slice A l.length c)]) ha 6 [(4, .val (.slice A l.length c))] rfl (by kernel_rfl) (.cons (ld1 hB_b (by kernel_rfl) rfl) .nil) ?_
  clear ha a; intro a ha
  refine lappS (q := q) ha rfl (by kernel_rfl) rfl (by kernel_rfl) (by kernel_rfl) (by kernel_rfl) rfl ho rfl (by omega) (Nat.le_trans hB0 hx.below.size) ?_
  clear ha a; intro A2 c3 w4 ho2 hg a ha
  replace hB_b := keepG hg ho rfl hB_b
  replace hx := hx.grown hg ho (Nat.le_trans hB0 hx.below.size)
  clear hg ho
  rw [show ((bys l ++ bys q) : List Value) = bys (l ++ q) from by first | exact bys_pushN _ _ hk | simp] at ho2
  rw [show ((l.length + q.length) : Nat) = (l ++ q).length from by simp] at ha ho2
  refine segp (ρ' := [(1, .string (S q)), (14, .slice A2 ((l ++ q).length) c3), (16, .pointer (some ⟨b, 1, none⟩))]) (C := []) ha 2 [] rfl (by kernel_rfl) .nil ?_
  clear ha a; intro a ha
  refine lstore (off := 1) ha rfl rfl (by kernel_rfl) hB_b #[.pointer (some ⟨b, 0, none⟩), .slice A2 ((l ++ q).length) c3] rfl (by kernel_rfl) (by kernel_rfl) ?_
  clear ha a; intro w5 hc a ha
  replace ho2 := ownC hc hB_b rfl ho2
  replace hx := hx.chg hc hBb (Nat.le_trans hB0 hx.below.size)
  replace hB_b := hc.at_; clear hc
  refine lnil ?_
  replace ha := ha.sub (ρ' := [(1, .string (S q))]) (by kernel_rfl)
  refine tn ?_
  refine wseq ?_
  refine regp (ρ' := [(4, .int .i64 ((q.length : Nat) : Int)), (5, .nilIface)]) (C := []) ha [] (by kernel_rfl) .nil ?_
  clear ha a; intro a ha
  refine tn ?_
  refine wret ?_
  refine fin ha (.tmp rfl (.tmp rfl .nil)) ?_
  exact ⟨rfl, ⟨_, _, _, .inr rfl, hBb, hB_b, ho2⟩, hx⟩
theorem ws_used (B b : Nat) (l : List UInt8) (A : Option Addr) (c : Nat) (q : List UInt8) (hq : l.length + q.length ≤ 140737488355328) (w : World) (hB0 : B ≤ w.heap.size) (hBb : B ≤ b) (hl : l.length + 1 ≤ 140737488355328) (hB_b : w.heap[b]? = some (.cells #[.pointer (some ⟨b, 0, none⟩), .slice A l.length c] 92 (0, 0))) (ho : Own w B 5 1 A l.length c (bys l)) :
    Fn Tryd.prog 61 #[.pointer (some ⟨b, 0, none⟩), .string (S q)] w (fun x w' => x = .tuple #[.int .i64 ((q.length : Nat) : Int), .nilIface] ∧ Bd 92 w' B b (l ++ q) ∧ Oth B b w w') := by
  have hx : Oth B b w w := Oth.rfl' _ _ w
  refine enter (N := 19) (args := [.pointer (some ⟨b, 0, none⟩), .string (S q)]) Tryd.func61 rfl rfl rfl ?_
  intro a ha
  simp only [argEnv, Nat.zero_add, Nat.reduceAdd] at ha
  refine wseq ?_
  refine regp (ρ' := [(0, .pointer (some ⟨b, 0, none⟩)), (1, .string (S q))]) (C := []) ha [] (by kernel_rfl) .nil ?_
  clear ha a; intro a ha
  refine tn ?_
  refine wseq ?_
  refine reg_list ?_
  refine segp (ρ' := [(0, .pointer (some ⟨b, 0, none⟩)), (1, .string (S q)), (6, .pointer (some ⟨b, 0, none⟩))]) (C := []) ha 1 [] rfl (by kernel_rfl) .nil ?_
  clear ha a; intro a ha
  refine lcall (vs := #[.pointer (some ⟨b, 0, none⟩)]) ha rfl (by kernel_rfl) rfl rfl (by kernel_rfl) (by kernel_rfl) (cc_used b _ w hB_b) ?_
  clear ha a; rintro _ w1 ⟨rfl, hfr, hB'⟩ a ha
  replace ho := ownFr1 hfr hB_b rfl ho
  replace hx := hx.fr hfr hBb (Nat.le_trans hB0 hx.below.size)
  replace hB_b := hB'; clear hB' hfr
  refine lnil ?_
  replace ha := ha.sub (ρ' := [(0, .pointer (some ⟨b, 0, none⟩)), (1, .string (S q))]) (by kernel_rfl)
  refine tn ?_
  refine wseq ?_
  refine reg_list ?_
  refine segp (ρ' := [(1, .string (S q)), (8, .pointer (some ⟨b, 0, none⟩)), (12, .slice A l.length c), (13, .string (S q))]) (C := [RunOk Tryd.prog w1 (Instr.loadAt 63 (.pointer (some ⟨b, 1, none⟩))) (.slice A l.length c)]) ha 6 [(4, .val (.slice A l.length c))] rfl (by kernel_rfl) (.cons (ld1 hB_b (by kernel_rfl) rfl) .nil) ?_
  clear ha a; intro a ha
  refine lappS (q := q) ha rfl (by kernel_rfl) rfl (by kernel_rfl) (by kernel_rfl) (by kernel_rfl) rfl ho rfl (by omega) (Nat.le_trans hB0 hx.below.size) ?_
  clear ha a; intro A2 c3 w4 ho2 hg a ha
  replace hB_b := keepG hg ho rfl hB_b
  replace hx := hx.grown hg ho (Nat.le_trans hB0 hx.below.size)
  clear hg ho
  rw [show ((bys l ++ bys q) : List Value) = bys (l ++ q) from by first | exact bys_pushN _ _ hk | simp] at ho2
  rw [show ((l.length + q.length) : Nat) = (l ++ q).length from by simp] at ha ho2
  refine segp (ρ' := [(1, .string (S q)), (14, .slice A2 ((l ++ q).length) c3), (16, .pointer (some ⟨b, 1, none⟩))]) (C := []) ha 2 [] rfl (by kernel_rfl) .nil ?_
  clear ha a; intro a ha
  refine lstore (off := 1) ha rfl rfl (by kernel_rfl) hB_b #[.pointer (some ⟨b, 0, none⟩), .slice A2 ((l ++ q).length) c3] rfl (by kernel_rfl) (by kernel_rfl) ?_
  clear ha a; intro w5 hc a ha
  replace ho2 := ownC hc hB_b rfl ho2
  replace hx := hx.chg hc hBb (Nat.le_trans hB0 hx.below.size)
  replace hB_b := hc.at_; clear hc
  refine lnil ?_
  replace ha := ha.sub (ρ' := [(1, .string (S q))]) (by kernel_rfl)
  refine tn ?_
  refine wseq ?_
  refine regp (ρ' := [(4, .int .i64 ((q.length : Nat) : Int)), (5, .nilIface)]) (C := []) ha [] (by kernel_rfl) .nil ?_
  clear ha a; intro a ha
  refine tn ?_
  refine wret ?_
  refine fin ha (.tmp rfl (.tmp rfl .nil)) ?_
  exact ⟨rfl, ⟨_, _, _, .inr rfl, hBb, hB_b, ho2⟩, hx⟩
theorem wr_new (B b : Nat) (l : List UInt8) (A : Option Addr) (c g off c2 T : Nat) (cs : Array Value) (fz : Nat × Nat) (q : List UInt8) (hq : l.length + q.length ≤ 140737488355328) (w : World) (hBg : w.heap[g]? = some (.cells cs T fz)) (hgb : g ≠ b) (hT : Nat.beq T 5 = false) (hcs : (cs.toList.drop off).take q.length = bys q) (hB0 : B ≤ w.heap.size) (hBb : B ≤ b) (hB_b : w.heap[b]? = some (.cells #[.pointer none, .slice A l.length c] 92 (0, 0))) (ho : Own w B 5 1 A l.length c (bys l)) :
    Fn Tryd.prog 106 #[.pointer (some ⟨b, 0, none⟩), .slice (some ⟨g, off, none⟩) q.length c2] w (fun x w' => x = .tuple #[.int .i64 ((q.length : Nat) : Int), .nilIface] ∧ Bd 92 w' B b (l ++ q) ∧ Oth B b w w') := by
  have hx : Oth B b w w := Oth.rfl' _ _ w
  refine enter (N := 19) (args := [.pointer (some ⟨b, 0, none⟩), .slice (some ⟨g, off, none⟩) q.length c2]) Tryd.func106 rfl rfl rfl ?_
  intro a ha
  simp only [argEnv, Nat.zero_add, Nat.reduceAdd] at ha
  refine wseq ?_
  refine regp (ρ' := [(0, .pointer (some ⟨b, 0, none⟩)), (1, .slice (some ⟨g, off, none⟩) q.length c2)]) (C := []) ha [] (by kernel_rfl) .nil ?_
  clear ha a; intro a ha
  refine tn ?_
  refine wseq ?_
  refine reg_list ?_
  refine segp (ρ' := [(0, .pointer (some ⟨b, 0, none⟩)), (1, .slice (some ⟨g, off, none⟩) q.length c2), (6, .pointer (some ⟨b, 0, none⟩))]) (C := []) ha 1 [] rfl (by kernel_rfl) .nil ?_
  clear ha a; intro a ha
  refine lcall (vs := #[.pointer (some ⟨b, 0, none⟩)]) ha rfl (by kernel_rfl) rfl rfl (by kernel_rfl) (by kernel_rfl) (cc_new b _ w rfl hB_b) ?_
  clear ha a; rintro _ w1 ⟨rfl, hfr, hB'⟩ a ha
  replace ho := ownFr1 hfr hB_b rfl ho
  replace hx := hx.fr hfr hBb (Nat.le_trans hB0 hx.below.size)
  replace hB_b := hB'; clear hB' hfr
  refine lnil ?_
  replace ha := ha.sub (ρ' := [(0, .pointer (some ⟨b, 0, none⟩)), (1, .slice (some ⟨g, off, none⟩) q.length c2)]) (by kernel_rfl)
  refine tn ?_
  refine wseq ?_
  refine reg_list ?_
  refine segp (ρ' := [(1, .slice (some ⟨g, off, none⟩) q.length c2), (8, .pointer (some ⟨b, 0, none⟩)), (12, .slice A l.length c), (13, .slice (some ⟨g, off, none⟩) q.length c2)]) (C := [RunOk Tryd.prog w1 (Instr.loadAt 63 (.pointer (some ⟨b, 1, none⟩))) (.slice A l.length c)]) ha 6 [(4, .val (.slice A l.length c))] rfl (by kernel_rfl) (.cons (ld1 hB_b (by kernel_rfl) rfl) .nil) ?_
  clear ha a; intro a ha
  refine lapp (by_ := 1) ha rfl (by kernel_rfl) rfl (by kernel_rfl) rfl ho rfl (bys q) (by simp) (news_rd (rd_bytes (hx.cells hBg hgb hT) hcs)) (bys_one _) (by omega) (by omega) (Nat.le_trans hB0 hx.below.size) ?_
  clear ha a; intro A2 c3 w4 ho2 hg a ha
  replace hB_b := keepG hg ho rfl hB_b
  replace hx := hx.grown hg ho (Nat.le_trans hB0 hx.below.size)
  clear hg ho
  rw [show ((bys l ++ bys q) : List Value) = bys (l ++ q) from by simp] at ho2
  rw [show ((l.length + q.length) : Nat) = (l ++ q).length from by simp] at ha ho2
  refine segp (ρ' := [(1, .slice (some ⟨g, off, none⟩) q.length c2), (14, .slice A2 ((l ++ q).length) c3), (16, .pointer (some ⟨b, 1, none⟩))]) (C := []) ha 2 [] rfl (by kernel_rfl) .nil ?_
  clear ha a; intro a ha
  refine lstore (off := 1) ha rfl rfl (by kernel_rfl) hB_b #[.pointer (some ⟨b, 0, none⟩), .slice A2 ((l ++ q).length) c3] rfl (by kernel_rfl) (by kernel_rfl) ?_
  clear ha a; intro w5 hc a ha
  replace ho2 := ownC hc hB_b rfl ho2
  replace hx := hx.chg hc hBb (Nat.le_trans hB0 hx.below.size)
  replace hB_b := hc.at_; clear hc
  refine lnil ?_
  replace ha := ha.sub (ρ' := [(1, .slice (some ⟨g, off, none⟩) q.length c2)]) (by kernel_rfl)
  refine tn ?_
  refine wseq ?_
  refine regp (ρ' := [(4, .int .i64 ((q.length : Nat) : Int)), (5, .nilIface)]) (C := []) ha [] (by kernel_rfl) .nil ?_
  clear ha a; intro a ha
  refine tn ?_
  refine wret ?_
  refine fin ha (.tmp rfl (.tmp rfl .nil)) ?_
  exact ⟨rfl, ⟨_, _, _, .inr rfl, hBb, hB_b, ho2⟩, hx⟩
theorem wr_used (B b : Nat) (l : List UInt8) (A : Option Addr) (c g off c2 T : Nat) (cs : Array Value) (fz : Nat × Nat) (q : List UInt8) (hq : l.length + q.length ≤ 140737488355328) (w : World) (hBg : w.heap[g]? = some (.cells cs T fz)) (hgb : g ≠ b) (hT : Nat.beq T 5 = false) (hcs : (cs.toList.drop off).take q.length = bys q) (hB0 : B ≤ w.heap.size) (hBb : B ≤ b) (hB_b : w.heap[b]? = some (.cells #[.pointer (some ⟨b, 0, none⟩), .slice A l.length c] 92 (0, 0))) (ho : Own w B 5 1 A l.length c (bys l)) :
    Fn Tryd.prog 106 #[.pointer (some ⟨b, 0, none⟩), .slice (some ⟨g, off, none⟩) q.length c2] w (fun x w' => x = .tuple #[.int .i64 ((q.length : Nat) : Int), .nilIface] ∧ Bd 92 w' B b (l ++ q) ∧ Oth B b w w') := by
  have hx : Oth B b w w := Oth.rfl' _ _ w
  refine enter (N := 19) (args := [.pointer (some ⟨b, 0, none⟩), .slice (some ⟨g, off, none⟩) q.length c2]) Tryd.func106 rfl rfl rfl ?_
  intro a ha
  simp only [argEnv, Nat.zero_add, Nat.reduceAdd] at ha
  refine wseq ?_
  refine regp (ρ' := [(0, .pointer (some ⟨b, 0, none⟩)), (1, .slice (some ⟨g, off, none⟩) q.length c2)]) (C := []) ha [] (by kernel_rfl) .nil ?_
  clear ha a; intro a ha
  refine tn ?_
  refine wseq ?_
  refine reg_list ?_
  refine segp (ρ' := [(0, .pointer (some ⟨b, 0, none⟩)), (1, .slice (some ⟨g, off, none⟩) q.length c2), (6, .pointer (some ⟨b, 0, none⟩))]) (C := []) ha 1 [] rfl (by kernel_rfl) .nil ?_
  clear ha a; intro a ha
  refine lcall (vs := #[.pointer (some ⟨b, 0, none⟩)]) ha rfl (by kernel_rfl) rfl rfl (by kernel_rfl) (by kernel_rfl) (cc_used b _ w hB_b) ?_
  clear ha a; rintro _ w1 ⟨rfl, hfr, hB'⟩ a ha
  replace ho := ownFr1 hfr hB_b rfl ho
  replace hx := hx.fr hfr hBb (Nat.le_trans hB0 hx.below.size)
  replace hB_b := hB'; clear hB' hfr
  refine lnil ?_
  replace ha := ha.sub (ρ' := [(0, .pointer (some ⟨b, 0, none⟩)), (1, .slice (some ⟨g, off, none⟩) q.length c2)]) (by kernel_rfl)
  refine tn ?_
  refine wseq ?_
  refine reg_list ?_
  refine segp (ρ' := [(1, .slice (some ⟨g, off, none⟩) q.length c2), (8, .pointer (some ⟨b, 0, none⟩)), (12, .slice A l.length c), (13, .slice (some ⟨g, off, none⟩) q.length c2)]) (C := [RunOk Tryd.prog w1 (Instr.loadAt 63 (.pointer (some ⟨b, 1, none⟩))) (.slice A l.length c)]) ha 6 [(4, .val (.slice A l.length c))] rfl (by kernel_rfl) (.cons (ld1 hB_b (by kernel_rfl) rfl) .nil) ?_
  clear ha a; intro a ha
  refine lapp (by_ := 1) ha rfl (by kernel_rfl) rfl (by kernel_rfl) rfl ho rfl (bys q) (by simp) (news_rd (rd_bytes (hx.cells hBg hgb hT) hcs)) (bys_one _) (by omega) (by omega) (Nat.le_trans hB0 hx.below.size) ?_
  clear ha a; intro A2 c3 w4 ho2 hg a ha
  replace hB_b := keepG hg ho rfl hB_b
  replace hx := hx.grown hg ho (Nat.le_trans hB0 hx.below.size)
  clear hg ho
  rw [show ((bys l ++ bys q) : List Value) = bys (l ++ q) from by simp] at ho2
  rw [show ((l.length + q.length) : Nat) = (l ++ q).length from by simp] at ha ho2
  refine segp (ρ' := [(1, .slice (some ⟨g, off, none⟩) q.length c2), (14, .slice A2 ((l ++ q).length) c3), (16, .pointer (some ⟨b, 1, none⟩))]) (C := []) ha 2 [] rfl (by kernel_rfl) .nil ?_
  clear ha a; intro a ha
  refine lstore (off := 1) ha rfl rfl (by kernel_rfl) hB_b #[.pointer (some ⟨b, 0, none⟩), .slice A2 ((l ++ q).length) c3] rfl (by kernel_rfl) (by kernel_rfl) ?_
  clear ha a; intro w5 hc a ha
  replace ho2 := ownC hc hB_b rfl ho2
  replace hx := hx.chg hc hBb (Nat.le_trans hB0 hx.below.size)
  replace hB_b := hc.at_; clear hc
  refine lnil ?_
  replace ha := ha.sub (ρ' := [(1, .slice (some ⟨g, off, none⟩) q.length c2)]) (by kernel_rfl)
  refine tn ?_
  refine wseq ?_
  refine regp (ρ' := [(4, .int .i64 ((q.length : Nat) : Int)), (5, .nilIface)]) (C := []) ha [] (by kernel_rfl) .nil ?_
  clear ha a; intro a ha
  refine tn ?_
  refine wret ?_
  refine fin ha (.tmp rfl (.tmp rfl .nil)) ?_
  exact ⟨rfl, ⟨_, _, _, .inr rfl, hBb, hB_b, ho2⟩, hx⟩
theorem wb_ok (B b : Nat) (l : List UInt8) (k : Nat) (hk : k < 256) (w : World) (hB0 : B ≤ w.heap.size) (hl : l.length + 1 ≤ 140737488355328) (h : Bd 92 w B b l) :
    Fn Tryd.prog 105 #[.pointer (some ⟨b, 0, none⟩), .int .u8 ((k : Nat) : Int)] w (fun x w' => x = .nilIface ∧ Bd 92 w' B b (l ++ [UInt8.ofNat k]) ∧ Oth B b w w') := by
  obtain ⟨p, A, c, hp, hBb, hB, ho⟩ := h
  rcases hp with rfl | rfl
  · exact wb_new B b l A c k hk w hB0 hBb hl hB ho
  · exact wb_used B b l A c k hk w hB0 hBb hl hB ho
theorem ws_ok (B b : Nat) (l : List UInt8) (q : List UInt8) (hq : l.length + q.length ≤ 140737488355328) (w : World) (hB0 : B ≤ w.heap.size) (hl : l.length + 1 ≤ 140737488355328) (h : Bd 92 w B b l) :
    Fn Tryd.prog 61 #[.pointer (some ⟨b, 0, none⟩), .string (S q)] w (fun x w' => x = .tuple #[.int .i64 ((q.length : Nat) : Int), .nilIface] ∧ Bd 92 w' B b (l ++ q) ∧ Oth B b w w') := by
  obtain ⟨p, A, c, hp, hBb, hB, ho⟩ := h
  rcases hp with rfl | rfl
  · exact ws_new B b l A c q hq w hB0 hBb hl hB ho
  · exact ws_used B b l A c q hq w hB0 hBb hl hB ho
theorem wr_ok (B b : Nat) (l : List UInt8) (g off c2 T : Nat) (cs : Array Value) (fz : Nat × Nat) (q : List UInt8) (hq : l.length + q.length ≤ 140737488355328) (w : World) (hBg : w.heap[g]? = some (.cells cs T fz)) (hgb : g ≠ b) (hT : Nat.beq T 5 = false) (hcs : (cs.toList.drop off).take q.length = bys q) (hB0 : B ≤ w.heap.size) (h : Bd 92 w B b l) :
    Fn Tryd.prog 106 #[.pointer (some ⟨b, 0, none⟩), .slice (some ⟨g, off, none⟩) q.length c2] w (fun x w' => x = .tuple #[.int .i64 ((q.length : Nat) : Int), .nilIface] ∧ Bd 92 w' B b (l ++ q) ∧ Oth B b w w') := by
  obtain ⟨p, A, c, hp, hBb, hB, ho⟩ := h
  rcases hp with rfl | rfl
  · exact wr_new B b l A c g off c2 T cs fz q hq w hBg hgb hT hcs hB0 hBb hB ho
  · exact wr_used B b l A c g off c2 T cs fz q hq w hBg hgb hT hcs hB0 hBb hB ho
theorem wbI_ok (B b : Nat) (l : List UInt8) (n : Int) (h0 : 0 ≤ n) (h1 : n < 256) (w : World) (hB0 : B ≤ w.heap.size) (hl : l.length + 1 ≤ 140737488355328) (h : Bd 92 w B b l) :
    Fn Tryd.prog 105 #[.pointer (some ⟨b, 0, none⟩), .int .u8 n] w (fun x w' => x = .nilIface ∧ Bd 92 w' B b (l ++ [UInt8.ofNat n.toNat]) ∧ Oth B b w w') := by
  have := wb_ok B b l n.toNat (by omega) w hB0 hl h
  rwa [Int.toNat_of_nonneg h0] at this
theorem wrId_ok (B b : Nat) (l : List UInt8) (g off c2 T : Nat) (cs : Array Value) (fz : Nat × Nat) (x : Id) (hq : l.length + 32 ≤ 140737488355328) (w : World) (hBg : w.heap[g]? = some (.cells cs T fz)) (hgb : g ≠ b) (hT : Nat.beq T 5 = false) (hcs : (cs.toList.drop off).take 32 = idc x) (hB0 : B ≤ w.heap.size) (h : Bd 92 w B b l) :
    Fn Tryd.prog 106 #[.pointer (some ⟨b, 0, none⟩), .slice (some ⟨g, off, none⟩) 32 c2] w (fun v w' => v = .tuple #[.int .i64 32, .nilIface] ∧ Bd 92 w' B b (l ++ x.l) ∧ Oth B b w w') := by
  have := wr_ok B b l g off c2 T cs fz x.l (by rw [x.h]; exact hq) w hBg hgb hT (by rw [x.h, hcs, idc_eq]) hB0 h
  rw [x.h] at this
  exact this
end Go.Kn
end
section
set_option linter.unusedVariables false
namespace Go.Kn
open Go.Proofs Go.Shelf
def ren169 : Ren := ⟨fun | 169 => 62 | n => n, fun | 70 => 90 | 72 => 92 | 37 => 63 | 127 => 124 | n => n, fun n => n⟩
theorem lays169 : Lays.n169 Tryd.prog ren169 := {
  mixed := by kernel_rfl,
  f169 := by kernel_rfl,
  t0 := by kernel_rfl,
  a0 := fun w => by kernel_rfl,
  z0 := fun w => by kernel_rfl,
  v0 := fun w => by kernel_rfl,
  t3 := by kernel_rfl,
  a3 := fun w => by kernel_rfl,
  z3 := fun w => by kernel_rfl,
  v3 := fun w => by kernel_rfl,
  t9 := by kernel_rfl,
  a9 := fun w => by kernel_rfl,
  z9 := fun w => by kernel_rfl,
  v9 := fun w => by kernel_rfl,
  t37 := by kernel_rfl,
  a37 := fun w => by kernel_rfl,
  z37 := fun w => by kernel_rfl,
  v37 := fun w => by kernel_rfl,
  t70 := by kernel_rfl,
  a70 := fun w => by kernel_rfl,
  z70 := fun w => by kernel_rfl,
  v70 := fun w => by kernel_rfl,
  t72 := by kernel_rfl,
  a72 := fun w => by kernel_rfl,
  z72 := fun w => by kernel_rfl,
  v72 := fun w => by kernel_rfl,
  t127 := by kernel_rfl,
  a127 := fun w => by kernel_rfl,
  z127 := fun w => by kernel_rfl,
  v127 := fun w => by kernel_rfl }
theorem x72_169 : Builder.X72 Tryd.prog ren169 := {
  sizeBuilder := by kernel_rfl,
  liesBuilder := by kernel_rfl }
theorem extra169 : Builder.Extra Tryd.prog ren169 := {
  toX72 := x72_169, t5 := by kernel_rfl, a5 := fun w => by kernel_rfl, z5 := fun w => by kernel_rfl, v5 := fun w => by kernel_rfl, infoByte := by kernel_rfl, cellsByte := by kernel_rfl, sizeByte := by kernel_rfl, neB5 := by decide }
theorem bd_is {T B b : Nat} {w : World} {l : List UInt8} (hT : Nat.beq T 5 = false) (h : Bd T w B b l) : Lib.IsBuilder T 5 B b (Lib.byteCells l) w := by
  obtain ⟨p, A, c, hp, hBb, hB, ho⟩ := h
  have hat : Lib.BuilderAt T 5 B b (.pointer p) (Lib.byteCells l) w := by
    refine ⟨hBb, .slice A l.length c, hB, ?_, ?_⟩
    · have : (Lib.byteCells l).length = l.length := by simp [Lib.byteCells]
      rw [this]; exact ho
    · intro e
      rcases ho.2 with ⟨h0, h1⟩ | ⟨g, cap, cur, hv, _, hg, _⟩
      · rw [h0] at e; simp [Value.ownBlock] at e
      · rw [hv] at e
        simp only [Value.ownBlock, Option.some.injEq] at e
        subst e
        rw [hB] at hg
        cases hg
        exact beqN_ne hT rfl
  rcases hp with rfl | rfl
  · exact .inl hat
  · exact .inr hat
theorem bstr_ok (B b : Nat) (l : List UInt8) (w : World) (hB0 : B ≤ w.heap.size) (h : Bd 92 w B b l) : Fn Tryd.prog 62 #[.pointer (some ⟨b, 0, none⟩)] w (fun x w' => x = .string (S l) ∧ Go.RowKit.Below B w w') :=
  Calls.mono (Any.Builder_String_any lays169 extra169 B b l w (bd_is (T := 92) rfl h) hB0) fun e w' ⟨h1, h2⟩ => ⟨_, h1, rfl, h2⟩
end Go.Kn
end
section
set_option linter.unusedSimpArgs false
set_option linter.unusedVariables false
set_option maxRecDepth 100000
namespace Go.Kn
open Go.Proofs
theorem obody_ok (o : ObjL) (Ae Ap : Option Addr) (ce cp : Nat) (w : World) (hoe : Rd w 34 Ae o.Entries.length (o.Entries.flatMap encEnt)) (hop : Rd w 32 Ap o.Parents.length (o.Parents.flatMap idc)) (hok : ObjOk o) (hfw : FewOk o) :
    Fn Tryd.prog 76 #[.agg ⟨objC o Ae ce Ap cp⟩] w (fun x w' => x = .string (S (oBody o)) ∧ Ext w w') := by
  have hx : Ext w w := Ext.rfl' w
  refine enter (N := 79) (args := [.agg ⟨objC o Ae ce Ap cp⟩]) Tryd.func76 rfl rfl rfl ?_
  intro a ha
  simp only [argEnv, Nat.zero_add, Nat.reduceAdd] at ha
  refine wseq ?_
  refine reg_list ?_
  refine lnew ha rfl (by kernel_rfl) ⟨objC o Ae ce Ap cp⟩ 54 (by kernel_rfl) ?_
  clear ha a; intro bo w1 he hb_bo hB_bo a ha
  replace hb_bo := Nat.le_trans hx.size hb_bo
  replace hx := hx.tr he
  clear he
  refine segp (ρ' := [(1, .pointer (some ⟨bo, 0, none⟩))]) (C := []) ha 1 [] rfl (by kernel_rfl) .nil ?_
  clear ha a; intro a ha
  refine lnil ?_
  replace ha := ha.sub (ρ' := [(1, .pointer (some ⟨bo, 0, none⟩))]) (by kernel_rfl)
  refine tn ?_
  refine wseq ?_
  refine reg_list ?_
  refine lnew ha rfl (by kernel_rfl) #[.pointer none, .slice none 0 0] 92 (by kernel_rfl) ?_
  clear ha a; intro bb w2 he hb_bb hB_bb a ha
  have hne_bo_bb : bo ≠ bb := ne_new hB_bo hb_bb
  replace hB_bo := keepB he hB_bo
  replace hb_bb := Nat.le_trans hx.size hb_bb
  replace hx := hx.tr he
  clear he
  refine lnil ?_
  replace ha := ha.sub (ρ' := [(1, .pointer (some ⟨bo, 0, none⟩)), (3, .pointer (some ⟨bb, 0, none⟩))]) (by kernel_rfl)
  have hbd : Bd 92 w2 w.heap.size bb [] := bd_new (fz := (0, 0)) hb_bb hB_bb
  clear hB_bb
  refine tn ?_
  refine wseq ?_
  refine wseq ?_
  refine regp (ρ' := [(1, .pointer (some ⟨bo, 0, none⟩)), (3, .pointer (some ⟨bb, 0, none⟩)), (9, .int .i64 o.Kind)]) (C := [RunOk Tryd.prog w2 (Instr.loadAt 3 (.pointer (some ⟨bo, 0, none⟩))) (.int .i64 o.Kind)]) ha [(1, .val (.int .i64 o.Kind))] (by kernel_rfl) (.cons (ld1 hB_bo (by kernel_rfl) (by kernel_rfl)) .nil) ?_
  clear ha a; intro a ha
  have fe := hfw.e
  have fp := hfw.p
  have ft := hfw.t
  have fn := hfw.n
  have htm := hok.time
  refine tn ?_
  refine wblk ?_
  refine wseq ?_
  refine regp (ρ' := [(1, .pointer (some ⟨bo, 0, none⟩)), (3, .pointer (some ⟨bb, 0, none⟩)), (9, .int .i64 o.Kind), (10, .bool (decide ((o.Kind : Int) = 1)))]) (C := []) ha [] (by kernel_rfl) .nil ?_
  clear ha a; intro a ha
  refine tn ?_
  refine wif ha rfl (fun h10 => ?_) (fun h10 => ?_)
  · replace h10 := of_decide_eq_true h10
    refine wseq ?_
    refine regp (ρ' := [(2, .string (S o.Data))]) (C := [RunOk Tryd.prog w2 (Instr.loadAt 9 (.pointer (some ⟨bo, 1, none⟩))) (.string (S o.Data))]) ha [(1, .val (.string (S o.Data)))] (by kernel_rfl) (.cons (ld1 hB_bo (by kernel_rfl) (by kernel_rfl)) .nil) ?_
    clear ha a; intro a ha
    refine tn ?_
    refine wret ?_
    refine (br (tr ?_))
    refine fin ha (.tmp rfl .nil) ?_
    refine ⟨congrArg (fun q => Value.string (S q)) ?_, hx⟩
    first | (unfold oBody; simp [*]; done) | (obtain rfl : i = o.Entries.length := (by omega); unfold oBody; simp [*]; done) | (obtain rfl : i = o.Parents.length := (by omega); unfold oBody; simp [*]; done)
  · replace h10 := of_decide_eq_false h10
    refine wseq ?_
    refine regp (ρ' := [(1, .pointer (some ⟨bo, 0, none⟩)), (3, .pointer (some ⟨bb, 0, none⟩)), (9, .int .i64 o.Kind), (14, .bool (decide ((o.Kind : Int) = 2)))]) (C := []) ha [] (by kernel_rfl) .nil ?_
    clear ha a; intro a ha
    refine tn ?_
    refine wif ha rfl (fun h14 => ?_) (fun h14 => ?_)
    · replace h14 := of_decide_eq_true h14
      refine wseq ?_
      refine regp (ρ' := [(3, .pointer (some ⟨bb, 0, none⟩)), (17, .slice Ae o.Entries.length ce), (18, .int .i64 ((o.Entries.length : Nat) : Int)), (19, .int .i64 0)]) (C := [RunOk Tryd.prog w2 (Instr.loadAt 50 (.pointer (some ⟨bo, 2, none⟩))) (.slice Ae o.Entries.length ce)]) ha [(1, .val (.slice Ae o.Entries.length ce))] (by kernel_rfl) (.cons (ld1 hB_bo (by kernel_rfl) (by kernel_rfl)) .nil) ?_
      clear ha a; intro a ha
      refine tn ?_
      refine wblk ?_
      refine wloop (fun zz a w3 => ∃ (i : Nat), zz = o.Entries.length - i ∧ On 79 [(3, .pointer (some ⟨bb, 0, none⟩)), (17, .slice Ae o.Entries.length ce), (18, .int .i64 ((o.Entries.length : Nat) : Int)), (19, .int .i64 ((i : Nat) : Int))] a ∧ Ext w w3 ∧ w3.heap[bo]? = some (.cells ⟨objC o Ae ce Ap cp⟩ 54 (0, 0)) ∧ Bd 92 w3 w.heap.size bb (oEnts o i) ∧ (i ≤ o.Entries.length)) _ ⟨0, rfl, ha.sub (ρ' := [(3, .pointer (some ⟨bb, 0, none⟩)), (17, .slice Ae o.Entries.length ce), (18, .int .i64 ((o.Entries.length : Nat) : Int)), (19, .int .i64 ((0 : Nat) : Int))]) (by kernel_rfl), hx, hB_bo, hbd, by omega⟩ ?_
      clear ha hx hB_bo hbd
      rintro zz a w4 ⟨i, hzz, ha, hx, hB_bo, hbd, hi⟩
      refine wseq ?_
      refine regp (ρ' := [(3, .pointer (some ⟨bb, 0, none⟩)), (17, .slice Ae o.Entries.length ce), (18, .int .i64 ((o.Entries.length : Nat) : Int)), (19, .int .i64 ((i : Nat) : Int)), (20, .bool (decide (((i : Nat) : Int) < ((o.Entries.length : Nat) : Int))))]) (C := []) ha [] (by kernel_rfl) .nil ?_
      clear ha a; intro a ha
      refine tn ?_
      refine wseq ?_
      refine wif ha rfl (fun h20 => ?_) (fun h20 => ?_)
      · replace h20 := of_decide_eq_true h20
        have hil : i < o.Entries.length := by omega
        have hl1 := oEnts_len hfw i hi
        have hl2 := hfw.en i hil
        have hl3 := vtext_len (o.Entries.getD i default).Name
        have hl5 : (oneB8 (o.Entries.getD i default).Kind).length = 1 := rfl
        refine wskip ?_
        refine tn ?_
        refine wseq ?_
        refine wblk ?_
        refine wseq ?_
        refine reg_list ?_
        refine segp (ρ' := [(3, .pointer (some ⟨bb, 0, none⟩)), (17, .slice Ae o.Entries.length ce), (18, .int .i64 ((o.Entries.length : Nat) : Int)), (19, .int .i64 ((i : Nat) : Int)), (22, .agg ⟨encEnt (o.Entries.getD i default)⟩)]) (C := [RunOk Tryd.prog w4 (Instr.indexAt 50 (.slice Ae o.Entries.length ce) (.int .i64 ((i : Nat) : Int))) (.pointer (some ⟨ab Ae, ao Ae + i * 34, none⟩)), RunOk Tryd.prog w4 (Instr.loadAt 89 (.pointer (some ⟨ab Ae, ao Ae + i * 34, none⟩))) (.agg ⟨encEnt (o.Entries.getD i default)⟩)]) ha 2 [(0, .val (.pointer (some ⟨ab Ae, ao Ae + i * 34, none⟩))), (1, .val (.agg ⟨encEnt (o.Entries.getD i default)⟩))] rfl (by kernel_rfl) (.cons (ixRd (e := 89) (by kernel_rfl) (by kernel_rfl) (rdE hx hoe) (by omega)) (.cons (ldRdN (vs := encEnt (o.Entries.getD i default)) (j := i * 34) (by kernel_rfl) (by kernel_rfl) (rdE hx hoe) (by omega) (flat_seg encEnt_len o.Entries default i (by omega))) .nil)) ?_
        clear ha a; intro a ha
        refine lnew ha rfl (by kernel_rfl) ⟨.string (S []) :: (.int .i64 0 :: (idc idZ))⟩ 89 (by kernel_rfl) ?_
        clear ha a; intro be w5 he hb_be hB_be a ha
        have hne_bo_be : bo ≠ be := ne_new hB_bo hb_be
        have hne_be_bb : be ≠ bb := bd_ne hbd hb_be
        replace hB_bo := keepB he hB_bo
        replace hbd := bdE he hbd
        replace hb_be := Nat.le_trans hx.size hb_be
        replace hx := hx.tr he
        clear he
        refine lstore (off := 0) ha rfl rfl (by kernel_rfl) hB_be ⟨encEnt (o.Entries.getD i default)⟩ rfl (by kernel_rfl) (by kernel_rfl) ?_
        clear ha a; intro w6 hc a ha
        replace hB_bo := hc.keep hB_bo (by first | assumption | exact Ne.symm (by assumption))
        replace hbd := bdC hc hB_be rfl rfl hbd
        replace hx := hc.ext hx hb_be
        replace hB_be := hc.at_; clear hc
        refine lnil ?_
        replace ha := ha.sub (ρ' := [(3, .pointer (some ⟨bb, 0, none⟩)), (5, .pointer (some ⟨be, 0, none⟩)), (17, .slice Ae o.Entries.length ce), (18, .int .i64 ((o.Entries.length : Nat) : Int)), (19, .int .i64 ((i : Nat) : Int))]) (by kernel_rfl)
        refine tn ?_
        refine wseq ?_
        refine reg_list ?_
        refine segp (ρ' := [(3, .pointer (some ⟨bb, 0, none⟩)), (5, .pointer (some ⟨be, 0, none⟩)), (17, .slice Ae o.Entries.length ce), (18, .int .i64 ((o.Entries.length : Nat) : Int)), (19, .int .i64 ((i : Nat) : Int)), (25, .int .u8 (((o.Entries.getD i default).Kind) % 256))]) (C := [RunOk Tryd.prog w6 (Instr.loadAt 3 (.pointer (some ⟨be, 1, none⟩))) (.int .i64 ((o.Entries.getD i default).Kind))]) ha 3 [(1, .val (.int .i64 ((o.Entries.getD i default).Kind))), (2, .mod)] rfl (by kernel_rfl) (.cons (ld1 hB_be (by kernel_rfl) (by kernel_rfl)) .nil) ?_
        clear ha a; intro a ha
        refine lcall (vs := #[.pointer (some ⟨bb, 0, none⟩), .int .u8 (((o.Entries.getD i default).Kind) % 256)]) ha rfl (by kernel_rfl) rfl rfl (by kernel_rfl) (by kernel_rfl) (wbI_ok _ _ (oEnts o i) (((o.Entries.getD i default).Kind) % 256) (by omega) (by omega) _ hx.size (by first | omega | (simp only [List.length_append, List.length_nil]; omega)) hbd) ?_
        clear ha a; rintro _ w7 ⟨rfl, hbd', hoth⟩ a ha
        replace hB_bo := hoth.cells hB_bo (by first | assumption | exact Ne.symm (by assumption)) rfl
        replace hB_be := hoth.cells hB_be (by first | assumption | exact Ne.symm (by assumption)) rfl
        replace hx := hoth.toExt hx (Nat.le_refl _)
        replace hbd := hbd'; clear hbd' hoth
        refine lnil ?_
        replace ha := ha.sub (ρ' := [(3, .pointer (some ⟨bb, 0, none⟩)), (5, .pointer (some ⟨be, 0, none⟩)), (17, .slice Ae o.Entries.length ce), (18, .int .i64 ((o.Entries.length : Nat) : Int)), (19, .int .i64 ((i : Nat) : Int))]) (by kernel_rfl)
        refine tn ?_
        refine wseq ?_
        refine reg_list ?_
        refine seg (ρ' := [(3, .pointer (some ⟨bb, 0, none⟩)), (5, .pointer (some ⟨be, 0, none⟩)), (17, .slice Ae o.Entries.length ce), (18, .int .i64 ((o.Entries.length : Nat) : Int)), (19, .int .i64 ((i : Nat) : Int)), (29, .string (S (vtext ((o.Entries.getD i default).Name))))]) (C := [RunOk Tryd.prog w7 (Instr.loadAt 9 (.pointer (some ⟨be, 0, none⟩))) (.string (S ((o.Entries.getD i default).Name))), CallOk Tryd.prog w7 75 #[.string (S ((o.Entries.getD i default).Name))] (.string (S (vtext ((o.Entries.getD i default).Name))))]) ha 3 [(1, .val (.string (S ((o.Entries.getD i default).Name)))), (2, .val (.string (S (vtext ((o.Entries.getD i default).Name)))))] (by kernel_rfl) (.cons (ld1 hB_be (by kernel_rfl) (by kernel_rfl)) (.cons (fun w _ => text_ok _ w (by omega)) .nil)) ?_
        clear ha a; intro a w8 ha he
        replace hx := hx.tr he
        replace hB_bo := keepB he hB_bo
        replace hB_be := keepB he hB_be
        replace hbd := bdE he hbd
        clear he
        refine lcall (vs := #[.pointer (some ⟨bb, 0, none⟩), .string (S (vtext ((o.Entries.getD i default).Name)))]) ha rfl (by kernel_rfl) rfl rfl (by kernel_rfl) (by kernel_rfl) (ws_ok _ _ ((oEnts o i) ++ oneB8 ((o.Entries.getD i default).Kind)) (vtext ((o.Entries.getD i default).Name)) (by first | omega | (simp only [List.length_append, List.length_nil]; omega)) _ hx.size (by first | omega | (simp only [List.length_append, List.length_nil]; omega)) hbd) ?_
        clear ha a; rintro _ w9 ⟨rfl, hbd', hoth⟩ a ha
        replace hB_bo := hoth.cells hB_bo (by first | assumption | exact Ne.symm (by assumption)) rfl
        replace hB_be := hoth.cells hB_be (by first | assumption | exact Ne.symm (by assumption)) rfl
        replace hx := hoth.toExt hx (Nat.le_refl _)
        replace hbd := hbd'; clear hbd' hoth
        refine lnil ?_
        replace ha := ha.sub (ρ' := [(3, .pointer (some ⟨bb, 0, none⟩)), (5, .pointer (some ⟨be, 0, none⟩)), (17, .slice Ae o.Entries.length ce), (18, .int .i64 ((o.Entries.length : Nat) : Int)), (19, .int .i64 ((i : Nat) : Int))]) (by kernel_rfl)
        refine tn ?_
        refine reg_list ?_
        refine segp (ρ' := [(3, .pointer (some ⟨bb, 0, none⟩)), (17, .slice Ae o.Entries.length ce), (18, .int .i64 ((o.Entries.length : Nat) : Int)), (19, .int .i64 ((i : Nat) : Int)), (32, .slice (some ⟨be, 2, none⟩) 32 32)]) (C := []) ha 2 [(1, .raw)] rfl (by kernel_rfl) .nil ?_
        clear ha a; intro a ha
        refine lcall (vs := #[.pointer (some ⟨bb, 0, none⟩), .slice (some ⟨be, 2, none⟩) 32 32]) ha rfl (by kernel_rfl) rfl rfl (by kernel_rfl) (by kernel_rfl) (wrId_ok _ _ (((oEnts o i) ++ oneB8 ((o.Entries.getD i default).Kind)) ++ (vtext ((o.Entries.getD i default).Name))) _ 2 32 _ _ _ ((o.Entries.getD i default).I) (by first | omega | (simp only [List.length_append, List.length_nil]; omega)) _ hB_be (by first | assumption | exact Ne.symm (by assumption)) rfl (by kernel_rfl) hx.size hbd) ?_
        clear ha a; rintro _ w10 ⟨rfl, hbd', hoth⟩ a ha
        replace hB_bo := hoth.cells hB_bo (by first | assumption | exact Ne.symm (by assumption)) rfl
        replace hB_be := hoth.cells hB_be (by first | assumption | exact Ne.symm (by assumption)) rfl
        replace hx := hoth.toExt hx (Nat.le_refl _)
        replace hbd := hbd'; clear hbd' hoth
        refine lnil ?_
        replace ha := ha.sub (ρ' := [(3, .pointer (some ⟨bb, 0, none⟩)), (17, .slice Ae o.Entries.length ce), (18, .int .i64 ((o.Entries.length : Nat) : Int)), (19, .int .i64 ((i : Nat) : Int))]) (by kernel_rfl)
        refine bn ?_
        refine tn ?_
        refine regp (ρ' := [(3, .pointer (some ⟨bb, 0, none⟩)), (17, .slice Ae o.Entries.length ce), (18, .int .i64 ((o.Entries.length : Nat) : Int)), (19, .int .i64 ((i + 1 : Nat) : Int))]) (C := [InR .i64 ((i + 1 : Nat) : Int)]) ha [] (by kernel_rfl) (.cons (by unfold InR; omega) .nil) ?_
        clear ha a; intro a ha
        exact tn ⟨o.Entries.length - ((i + 1)), by omega, (i + 1), rfl, ha.sub (ρ' := [(3, .pointer (some ⟨bb, 0, none⟩)), (17, .slice Ae o.Entries.length ce), (18, .int .i64 ((o.Entries.length : Nat) : Int)), (19, .int .i64 (((i + 1) : Nat) : Int))]) (by kernel_rfl), hx, hB_bo, (by rw [oEnts_succ o i hil]; exact hbd), by omega⟩
      · replace h20 := of_decide_eq_false h20
        refine wexit ?_
        refine (te (te (be ?_)))
        refine bn ?_
        refine tn ?_
        refine wseq ?_
        refine reg_list ?_
        refine lcall (vs := #[.pointer (some ⟨bb, 0, none⟩)]) ha rfl (by kernel_rfl) rfl rfl (by kernel_rfl) (by kernel_rfl) (bstr_ok _ _ _ _ hx.size hbd) ?_
        clear ha a; rintro _ w11 ⟨rfl, hbl⟩ a ha
        replace hx : Ext w w11 := Ext.below hx hbl
        clear hbl hbd hB_bo
        refine segp (ρ' := [(2, .string (S (oEnts o i)))]) (C := []) ha 1 [] rfl (by kernel_rfl) .nil ?_
        clear ha a; intro a ha
        refine lnil ?_
        replace ha := ha.sub (ρ' := [(2, .string (S (oEnts o i)))]) (by kernel_rfl)
        refine tn ?_
        refine wret ?_
        refine fin ha (.tmp rfl .nil) ?_
        refine ⟨congrArg (fun q => Value.string (S q)) ?_, hx⟩
        first | (unfold oBody; simp [*]; done) | (obtain rfl : i = o.Entries.length := (by omega); unfold oBody; simp [*]; done) | (obtain rfl : i = o.Parents.length := (by omega); unfold oBody; simp [*]; done)
    · replace h14 := of_decide_eq_false h14
      refine wseq ?_
      refine regp (ρ' := [(1, .pointer (some ⟨bo, 0, none⟩)), (3, .pointer (some ⟨bb, 0, none⟩)), (9, .int .i64 o.Kind), (35, .bool (decide ((o.Kind : Int) = 3)))]) (C := []) ha [] (by kernel_rfl) .nil ?_
      clear ha a; intro a ha
      refine tn ?_
      refine wif ha rfl (fun h35 => ?_) (fun h35 => ?_)
      · replace h35 := of_decide_eq_true h35
        refine wseq ?_
        have hl4 := o.Tree.h
        have hv1 := vput_len o.Parents.length
        refine reg_list ?_
        refine segp (ρ' := [(1, .pointer (some ⟨bo, 0, none⟩)), (3, .pointer (some ⟨bb, 0, none⟩)), (38, .slice (some ⟨bo, 3, none⟩) 32 32)]) (C := []) ha 2 [(1, .raw)] rfl (by kernel_rfl) .nil ?_
        clear ha a; intro a ha
        refine lcall (vs := #[.pointer (some ⟨bb, 0, none⟩), .slice (some ⟨bo, 3, none⟩) 32 32]) ha rfl (by kernel_rfl) rfl rfl (by kernel_rfl) (by kernel_rfl) (wrId_ok _ _ [] _ 3 32 _ _ _ o.Tree (by first | omega | (simp only [List.length_append, List.length_nil]; omega)) _ hB_bo (by first | assumption | exact Ne.symm (by assumption)) rfl (by kernel_rfl) hx.size hbd) ?_
        clear ha a; rintro _ w12 ⟨rfl, hbd', hoth⟩ a ha
        replace hB_bo := hoth.cells hB_bo (by first | assumption | exact Ne.symm (by assumption)) rfl
        replace hx := hoth.toExt hx (Nat.le_refl _)
        replace hbd := hbd'; clear hbd' hoth
        refine lnil ?_
        replace ha := ha.sub (ρ' := [(1, .pointer (some ⟨bo, 0, none⟩)), (3, .pointer (some ⟨bb, 0, none⟩))]) (by kernel_rfl)
        refine tn ?_
        refine wseq ?_
        refine reg_list ?_
        refine seg (ρ' := [(1, .pointer (some ⟨bo, 0, none⟩)), (3, .pointer (some ⟨bb, 0, none⟩)), (44, .string (S (vput o.Parents.length)))]) (C := [RunOk Tryd.prog w12 (Instr.loadAt 51 (.pointer (some ⟨bo, 35, none⟩))) (.slice Ap o.Parents.length cp), InR .u64 ((o.Parents.length : Nat) : Int), CallOk Tryd.prog w12 104 #[.int .u64 ((o.Parents.length : Nat) : Int)] (.string (S (vput o.Parents.length)))]) ha 5 [(1, .val (.slice Ap o.Parents.length cp)), (4, .val (.string (S (vput o.Parents.length))))] (by kernel_rfl) (.cons (ld1 hB_bo (by kernel_rfl) (by kernel_rfl)) (.cons (by unfold InR; omega) (.cons (fun w _ => put_ok _ w (by first | omega | (have := vget_lt; omega))) .nil))) ?_
        clear ha a; intro a w13 ha he
        replace hx := hx.tr he
        replace hB_bo := keepB he hB_bo
        replace hbd := bdE he hbd
        clear he
        refine lcall (vs := #[.pointer (some ⟨bb, 0, none⟩), .string (S (vput o.Parents.length))]) ha rfl (by kernel_rfl) rfl rfl (by kernel_rfl) (by kernel_rfl) (ws_ok _ _ ([] ++ o.Tree.l) (vput o.Parents.length) (by first | omega | (simp only [List.length_append, List.length_nil]; omega)) _ hx.size (by first | omega | (simp only [List.length_append, List.length_nil]; omega)) hbd) ?_
        clear ha a; rintro _ w14 ⟨rfl, hbd', hoth⟩ a ha
        replace hB_bo := hoth.cells hB_bo (by first | assumption | exact Ne.symm (by assumption)) rfl
        replace hx := hoth.toExt hx (Nat.le_refl _)
        replace hbd := hbd'; clear hbd' hoth
        refine lnil ?_
        replace ha := ha.sub (ρ' := [(1, .pointer (some ⟨bo, 0, none⟩)), (3, .pointer (some ⟨bb, 0, none⟩))]) (by kernel_rfl)
        refine tn ?_
        refine wseq ?_
        refine wseq ?_
        refine regp (ρ' := [(1, .pointer (some ⟨bo, 0, none⟩)), (3, .pointer (some ⟨bb, 0, none⟩)), (47, .slice Ap o.Parents.length cp), (48, .int .i64 ((o.Parents.length : Nat) : Int)), (49, .int .i64 0)]) (C := [RunOk Tryd.prog w14 (Instr.loadAt 51 (.pointer (some ⟨bo, 35, none⟩))) (.slice Ap o.Parents.length cp)]) ha [(1, .val (.slice Ap o.Parents.length cp))] (by kernel_rfl) (.cons (ld1 hB_bo (by kernel_rfl) (by kernel_rfl)) .nil) ?_
        clear ha a; intro a ha
        refine tn ?_
        refine wblk ?_
        refine wloop (fun zz a w15 => ∃ (i : Nat), zz = o.Parents.length - i ∧ On 79 [(1, .pointer (some ⟨bo, 0, none⟩)), (3, .pointer (some ⟨bb, 0, none⟩)), (47, .slice Ap o.Parents.length cp), (48, .int .i64 ((o.Parents.length : Nat) : Int)), (49, .int .i64 ((i : Nat) : Int))] a ∧ Ext w w15 ∧ w15.heap[bo]? = some (.cells ⟨objC o Ae ce Ap cp⟩ 54 (0, 0)) ∧ Bd 92 w15 w.heap.size bb (oPars o i) ∧ (i ≤ o.Parents.length)) _ ⟨0, rfl, ha.sub (ρ' := [(1, .pointer (some ⟨bo, 0, none⟩)), (3, .pointer (some ⟨bb, 0, none⟩)), (47, .slice Ap o.Parents.length cp), (48, .int .i64 ((o.Parents.length : Nat) : Int)), (49, .int .i64 ((0 : Nat) : Int))]) (by kernel_rfl), hx, hB_bo, (by simpa [oPars] using hbd), by omega⟩ ?_
        clear ha hx hB_bo hbd
        rintro zz a w16 ⟨i, hzz, ha, hx, hB_bo, hbd, hi2⟩
        refine wseq ?_
        refine regp (ρ' := [(1, .pointer (some ⟨bo, 0, none⟩)), (3, .pointer (some ⟨bb, 0, none⟩)), (47, .slice Ap o.Parents.length cp), (48, .int .i64 ((o.Parents.length : Nat) : Int)), (49, .int .i64 ((i : Nat) : Int)), (50, .bool (decide (((i : Nat) : Int) < ((o.Parents.length : Nat) : Int))))]) (C := []) ha [] (by kernel_rfl) .nil ?_
        clear ha a; intro a ha
        refine tn ?_
        refine wseq ?_
        refine wif ha rfl (fun h50 => ?_) (fun h50 => ?_)
        · replace h50 := of_decide_eq_true h50
          have hil : i < o.Parents.length := by omega
          have hp1 := oPars_len hfw i hi2
          have hl7 := (o.Parents.getD i default).h
          refine wskip ?_
          refine tn ?_
          refine wseq ?_
          refine wblk ?_
          refine wseq ?_
          refine reg_list ?_
          refine segp (ρ' := [(1, .pointer (some ⟨bo, 0, none⟩)), (3, .pointer (some ⟨bb, 0, none⟩)), (47, .slice Ap o.Parents.length cp), (48, .int .i64 ((o.Parents.length : Nat) : Int)), (49, .int .i64 ((i : Nat) : Int)), (52, .agg ⟨idc (o.Parents.getD i default)⟩)]) (C := [RunOk Tryd.prog w16 (Instr.indexAt 51 (.slice Ap o.Parents.length cp) (.int .i64 ((i : Nat) : Int))) (.pointer (some ⟨ab Ap, ao Ap + i * 32, none⟩)), RunOk Tryd.prog w16 (Instr.loadAt 24 (.pointer (some ⟨ab Ap, ao Ap + i * 32, none⟩))) (.agg ⟨idc (o.Parents.getD i default)⟩)]) ha 2 [(0, .val (.pointer (some ⟨ab Ap, ao Ap + i * 32, none⟩))), (1, .val (.agg ⟨idc (o.Parents.getD i default)⟩))] rfl (by kernel_rfl) (.cons (ixRd (e := 24) (by kernel_rfl) (by kernel_rfl) (rdE hx hop) (by omega)) (.cons (ldRdN (vs := idc (o.Parents.getD i default)) (j := i * 32) (by kernel_rfl) (by kernel_rfl) (rdE hx hop) (by omega) (flat_seg idc_len o.Parents default i (by omega))) .nil)) ?_
          clear ha a; intro a ha
          refine lnew ha rfl (by kernel_rfl) ⟨idc idZ⟩ 24 (by kernel_rfl) ?_
          clear ha a; intro bi w17 he hb_bi hB_bi a ha
          have hne_bo_bi : bo ≠ bi := ne_new hB_bo hb_bi
          have hne_bi_bb : bi ≠ bb := bd_ne hbd hb_bi
          replace hB_bo := keepB he hB_bo
          replace hbd := bdE he hbd
          replace hb_bi := Nat.le_trans hx.size hb_bi
          replace hx := hx.tr he
          clear he
          refine lstore (off := 0) ha rfl rfl (by kernel_rfl) hB_bi ⟨idc (o.Parents.getD i default)⟩ rfl (by kernel_rfl) (by kernel_rfl) ?_
          clear ha a; intro w18 hc a ha
          replace hB_bo := hc.keep hB_bo (by first | assumption | exact Ne.symm (by assumption))
          replace hbd := bdC hc hB_bi rfl rfl hbd
          replace hx := hc.ext hx hb_bi
          replace hB_bi := hc.at_; clear hc
          refine lnil ?_
          replace ha := ha.sub (ρ' := [(1, .pointer (some ⟨bo, 0, none⟩)), (3, .pointer (some ⟨bb, 0, none⟩)), (7, .pointer (some ⟨bi, 0, none⟩)), (47, .slice Ap o.Parents.length cp), (48, .int .i64 ((o.Parents.length : Nat) : Int)), (49, .int .i64 ((i : Nat) : Int))]) (by kernel_rfl)
          refine tn ?_
          refine reg_list ?_
          refine segp (ρ' := [(1, .pointer (some ⟨bo, 0, none⟩)), (3, .pointer (some ⟨bb, 0, none⟩)), (47, .slice Ap o.Parents.length cp), (48, .int .i64 ((o.Parents.length : Nat) : Int)), (49, .int .i64 ((i : Nat) : Int)), (53, .slice (some ⟨bi, 0, none⟩) 32 32)]) (C := []) ha 1 [(0, .raw)] rfl (by kernel_rfl) .nil ?_
          clear ha a; intro a ha
          refine lcall (vs := #[.pointer (some ⟨bb, 0, none⟩), .slice (some ⟨bi, 0, none⟩) 32 32]) ha rfl (by kernel_rfl) rfl rfl (by kernel_rfl) (by kernel_rfl) (wrId_ok _ _ (oPars o i) _ 0 32 _ _ _ (o.Parents.getD i default) (by first | omega | (simp only [List.length_append, List.length_nil]; omega)) _ hB_bi (by first | assumption | exact Ne.symm (by assumption)) rfl (by kernel_rfl) hx.size hbd) ?_
          clear ha a; rintro _ w19 ⟨rfl, hbd', hoth⟩ a ha
          replace hB_bo := hoth.cells hB_bo (by first | assumption | exact Ne.symm (by assumption)) rfl
          replace hB_bi := hoth.cells hB_bi (by first | assumption | exact Ne.symm (by assumption)) rfl
          replace hx := hoth.toExt hx (Nat.le_refl _)
          replace hbd := hbd'; clear hbd' hoth
          refine lnil ?_
          replace ha := ha.sub (ρ' := [(1, .pointer (some ⟨bo, 0, none⟩)), (3, .pointer (some ⟨bb, 0, none⟩)), (47, .slice Ap o.Parents.length cp), (48, .int .i64 ((o.Parents.length : Nat) : Int)), (49, .int .i64 ((i : Nat) : Int))]) (by kernel_rfl)
          refine bn ?_
          refine tn ?_
          refine regp (ρ' := [(1, .pointer (some ⟨bo, 0, none⟩)), (3, .pointer (some ⟨bb, 0, none⟩)), (47, .slice Ap o.Parents.length cp), (48, .int .i64 ((o.Parents.length : Nat) : Int)), (49, .int .i64 ((i + 1 : Nat) : Int))]) (C := [InR .i64 ((i + 1 : Nat) : Int)]) ha [] (by kernel_rfl) (.cons (by unfold InR; omega) .nil) ?_
          clear ha a; intro a ha
          exact tn ⟨o.Parents.length - ((i + 1)), by omega, (i + 1), rfl, ha.sub (ρ' := [(1, .pointer (some ⟨bo, 0, none⟩)), (3, .pointer (some ⟨bb, 0, none⟩)), (47, .slice Ap o.Parents.length cp), (48, .int .i64 ((o.Parents.length : Nat) : Int)), (49, .int .i64 (((i + 1) : Nat) : Int))]) (by kernel_rfl), hx, hB_bo, (by rw [oPars_succ o i hil]; exact hbd), by omega⟩
        · replace h50 := of_decide_eq_false h50
          have hp2 := oPars_len hfw i hi2
          have hv2 := vput_len o.Time
          have hv3 := vtext_len o.Text
          refine wexit ?_
          refine (te (te (be ?_)))
          refine tn ?_
          refine wseq ?_
          refine reg_list ?_
          refine seg (ρ' := [(1, .pointer (some ⟨bo, 0, none⟩)), (3, .pointer (some ⟨bb, 0, none⟩)), (59, .string (S (vput o.Time)))]) (C := [RunOk Tryd.prog w16 (Instr.loadAt 52 (.pointer (some ⟨bo, 36, none⟩))) (.int .u32 ((o.Time : Nat) : Int)), InR .u64 ((o.Time : Nat) : Int), CallOk Tryd.prog w16 104 #[.int .u64 ((o.Time : Nat) : Int)] (.string (S (vput o.Time)))]) ha 4 [(1, .val (.int .u32 ((o.Time : Nat) : Int))), (3, .val (.string (S (vput o.Time))))] (by kernel_rfl) (.cons (ld1 hB_bo (by kernel_rfl) (by kernel_rfl)) (.cons (by unfold InR; omega) (.cons (fun w _ => put_ok _ w (by first | omega | (have := vget_lt; omega))) .nil))) ?_
          clear ha a; intro a w20 ha he
          replace hx := hx.tr he
          replace hB_bo := keepB he hB_bo
          replace hbd := bdE he hbd
          clear he
          refine lcall (vs := #[.pointer (some ⟨bb, 0, none⟩), .string (S (vput o.Time))]) ha rfl (by kernel_rfl) rfl rfl (by kernel_rfl) (by kernel_rfl) (ws_ok _ _ (oPars o i) (vput o.Time) (by first | omega | (simp only [List.length_append, List.length_nil]; omega)) _ hx.size (by first | omega | (simp only [List.length_append, List.length_nil]; omega)) hbd) ?_
          clear ha a; rintro _ w21 ⟨rfl, hbd', hoth⟩ a ha
          replace hB_bo := hoth.cells hB_bo (by first | assumption | exact Ne.symm (by assumption)) rfl
          replace hx := hoth.toExt hx (Nat.le_refl _)
          replace hbd := hbd'; clear hbd' hoth
          refine lnil ?_
          replace ha := ha.sub (ρ' := [(1, .pointer (some ⟨bo, 0, none⟩)), (3, .pointer (some ⟨bb, 0, none⟩))]) (by kernel_rfl)
          refine tn ?_
          refine reg_list ?_
          refine seg (ρ' := [(3, .pointer (some ⟨bb, 0, none⟩)), (63, .string (S (vtext o.Text)))]) (C := [RunOk Tryd.prog w21 (Instr.loadAt 9 (.pointer (some ⟨bo, 37, none⟩))) (.string (S o.Text)), CallOk Tryd.prog w21 75 #[.string (S o.Text)] (.string (S (vtext o.Text)))]) ha 3 [(1, .val (.string (S o.Text))), (2, .val (.string (S (vtext o.Text))))] (by kernel_rfl) (.cons (ld1 hB_bo (by kernel_rfl) (by kernel_rfl)) (.cons (fun w _ => text_ok _ w (by omega)) .nil)) ?_
          clear ha a; intro a w22 ha he
          replace hx := hx.tr he
          replace hB_bo := keepB he hB_bo
          replace hbd := bdE he hbd
          clear he
          refine lcall (vs := #[.pointer (some ⟨bb, 0, none⟩), .string (S (vtext o.Text))]) ha rfl (by kernel_rfl) rfl rfl (by kernel_rfl) (by kernel_rfl) (ws_ok _ _ ((oPars o i) ++ (vput o.Time)) (vtext o.Text) (by first | omega | (simp only [List.length_append, List.length_nil]; omega)) _ hx.size (by first | omega | (simp only [List.length_append, List.length_nil]; omega)) hbd) ?_
          clear ha a; rintro _ w23 ⟨rfl, hbd', hoth⟩ a ha
          replace hB_bo := hoth.cells hB_bo (by first | assumption | exact Ne.symm (by assumption)) rfl
          replace hx := hoth.toExt hx (Nat.le_refl _)
          replace hbd := hbd'; clear hbd' hoth
          refine lnil ?_
          replace ha := ha.sub (ρ' := [(3, .pointer (some ⟨bb, 0, none⟩))]) (by kernel_rfl)
          refine bn ?_
          refine tn ?_
          refine wseq ?_
          refine reg_list ?_
          refine lcall (vs := #[.pointer (some ⟨bb, 0, none⟩)]) ha rfl (by kernel_rfl) rfl rfl (by kernel_rfl) (by kernel_rfl) (bstr_ok _ _ _ _ hx.size hbd) ?_
          clear ha a; rintro _ w24 ⟨rfl, hbl⟩ a ha
          replace hx : Ext w w24 := Ext.below hx hbl
          clear hbl hbd hB_bo
          refine segp (ρ' := [(2, .string (S (((oPars o i) ++ (vput o.Time)) ++ (vtext o.Text))))]) (C := []) ha 1 [] rfl (by kernel_rfl) .nil ?_
          clear ha a; intro a ha
          refine lnil ?_
          replace ha := ha.sub (ρ' := [(2, .string (S (((oPars o i) ++ (vput o.Time)) ++ (vtext o.Text))))]) (by kernel_rfl)
          refine tn ?_
          refine wret ?_
          refine fin ha (.tmp rfl .nil) ?_
          refine ⟨congrArg (fun q => Value.string (S q)) ?_, hx⟩
          first | (unfold oBody; simp [*]; done) | (obtain rfl : i = o.Entries.length := (by omega); unfold oBody; simp [*]; done) | (obtain rfl : i = o.Parents.length := (by omega); unfold oBody; simp [*]; done)
      · replace h35 := of_decide_eq_false h35
        refine wseq ?_
        refine regp (ρ' := [(1, .pointer (some ⟨bo, 0, none⟩)), (3, .pointer (some ⟨bb, 0, none⟩)), (65, .bool (decide ((o.Kind : Int) = 4)))]) (C := []) ha [] (by kernel_rfl) .nil ?_
        clear ha a; intro a ha
        refine tn ?_
        refine wif ha rfl (fun h65 => ?_) (fun h65 => ?_)
        · replace h65 := of_decide_eq_true h65
          refine wseq ?_
          have hl6 := o.Target.h
          have hv4 := vtext_len o.Name
          have hl5 : (oneB8 o.Of).length = 1 := rfl
          refine reg_list ?_
          refine segp (ρ' := [(1, .pointer (some ⟨bo, 0, none⟩)), (3, .pointer (some ⟨bb, 0, none⟩)), (69, .int .u8 (o.Of % 256))]) (C := [RunOk Tryd.prog w2 (Instr.loadAt 3 (.pointer (some ⟨bo, 70, none⟩))) (.int .i64 o.Of)]) ha 3 [(1, .val (.int .i64 o.Of)), (2, .mod)] rfl (by kernel_rfl) (.cons (ld1 hB_bo (by kernel_rfl) (by kernel_rfl)) .nil) ?_
          clear ha a; intro a ha
          refine lcall (vs := #[.pointer (some ⟨bb, 0, none⟩), .int .u8 (o.Of % 256)]) ha rfl (by kernel_rfl) rfl rfl (by kernel_rfl) (by kernel_rfl) (wbI_ok _ _ [] (o.Of % 256) (by omega) (by omega) _ hx.size (by first | omega | (simp only [List.length_append, List.length_nil]; omega)) hbd) ?_
          clear ha a; rintro _ w25 ⟨rfl, hbd', hoth⟩ a ha
          replace hB_bo := hoth.cells hB_bo (by first | assumption | exact Ne.symm (by assumption)) rfl
          replace hx := hoth.toExt hx (Nat.le_refl _)
          replace hbd := hbd'; clear hbd' hoth
          refine lnil ?_
          replace ha := ha.sub (ρ' := [(1, .pointer (some ⟨bo, 0, none⟩)), (3, .pointer (some ⟨bb, 0, none⟩))]) (by kernel_rfl)
          refine tn ?_
          refine wseq ?_
          refine reg_list ?_
          refine segp (ρ' := [(1, .pointer (some ⟨bo, 0, none⟩)), (3, .pointer (some ⟨bb, 0, none⟩)), (72, .slice (some ⟨bo, 38, none⟩) 32 32)]) (C := []) ha 2 [(1, .raw)] rfl (by kernel_rfl) .nil ?_
          clear ha a; intro a ha
          refine lcall (vs := #[.pointer (some ⟨bb, 0, none⟩), .slice (some ⟨bo, 38, none⟩) 32 32]) ha rfl (by kernel_rfl) rfl rfl (by kernel_rfl) (by kernel_rfl) (wrId_ok _ _ ([] ++ oneB8 o.Of) _ 38 32 _ _ _ o.Target (by first | omega | (simp only [List.length_append, List.length_nil]; omega)) _ hB_bo (by first | assumption | exact Ne.symm (by assumption)) rfl (by kernel_rfl) hx.size hbd) ?_
          clear ha a; rintro _ w26 ⟨rfl, hbd', hoth⟩ a ha
          replace hB_bo := hoth.cells hB_bo (by first | assumption | exact Ne.symm (by assumption)) rfl
          replace hx := hoth.toExt hx (Nat.le_refl _)
          replace hbd := hbd'; clear hbd' hoth
          refine lnil ?_
          replace ha := ha.sub (ρ' := [(1, .pointer (some ⟨bo, 0, none⟩)), (3, .pointer (some ⟨bb, 0, none⟩))]) (by kernel_rfl)
          refine tn ?_
          refine reg_list ?_
          refine seg (ρ' := [(3, .pointer (some ⟨bb, 0, none⟩)), (76, .string (S (vtext o.Name)))]) (C := [RunOk Tryd.prog w26 (Instr.loadAt 9 (.pointer (some ⟨bo, 71, none⟩))) (.string (S o.Name)), CallOk Tryd.prog w26 75 #[.string (S o.Name)] (.string (S (vtext o.Name)))]) ha 3 [(1, .val (.string (S o.Name))), (2, .val (.string (S (vtext o.Name))))] (by kernel_rfl) (.cons (ld1 hB_bo (by kernel_rfl) (by kernel_rfl)) (.cons (fun w _ => text_ok _ w (by omega)) .nil)) ?_
          clear ha a; intro a w27 ha he
          replace hx := hx.tr he
          replace hB_bo := keepB he hB_bo
          replace hbd := bdE he hbd
          clear he
          refine lcall (vs := #[.pointer (some ⟨bb, 0, none⟩), .string (S (vtext o.Name))]) ha rfl (by kernel_rfl) rfl rfl (by kernel_rfl) (by kernel_rfl) (ws_ok _ _ (([] ++ oneB8 o.Of) ++ o.Target.l) (vtext o.Name) (by first | omega | (simp only [List.length_append, List.length_nil]; omega)) _ hx.size (by first | omega | (simp only [List.length_append, List.length_nil]; omega)) hbd) ?_
          clear ha a; rintro _ w28 ⟨rfl, hbd', hoth⟩ a ha
          replace hB_bo := hoth.cells hB_bo (by first | assumption | exact Ne.symm (by assumption)) rfl
          replace hx := hoth.toExt hx (Nat.le_refl _)
          replace hbd := hbd'; clear hbd' hoth
          refine lnil ?_
          replace ha := ha.sub (ρ' := [(3, .pointer (some ⟨bb, 0, none⟩))]) (by kernel_rfl)
          refine bn ?_
          refine tn ?_
          refine wseq ?_
          refine reg_list ?_
          refine lcall (vs := #[.pointer (some ⟨bb, 0, none⟩)]) ha rfl (by kernel_rfl) rfl rfl (by kernel_rfl) (by kernel_rfl) (bstr_ok _ _ _ _ hx.size hbd) ?_
          clear ha a; rintro _ w29 ⟨rfl, hbl⟩ a ha
          replace hx : Ext w w29 := Ext.below hx hbl
          clear hbl hbd hB_bo
          refine segp (ρ' := [(2, .string (S ((([] ++ oneB8 o.Of) ++ o.Target.l) ++ (vtext o.Name))))]) (C := []) ha 1 [] rfl (by kernel_rfl) .nil ?_
          clear ha a; intro a ha
          refine lnil ?_
          replace ha := ha.sub (ρ' := [(2, .string (S ((([] ++ oneB8 o.Of) ++ o.Target.l) ++ (vtext o.Name))))]) (by kernel_rfl)
          refine tn ?_
          refine wret ?_
          refine fin ha (.tmp rfl .nil) ?_
          refine ⟨congrArg (fun q => Value.string (S q)) ?_, hx⟩
          first | (unfold oBody; simp [*]; done) | (obtain rfl : i = o.Entries.length := (by omega); unfold oBody; simp [*]; done) | (obtain rfl : i = o.Parents.length := (by omega); unfold oBody; simp [*]; done)
        · replace h65 := of_decide_eq_false h65
          refine wskip ?_
          refine bn ?_
          refine tn ?_
          refine wseq ?_
          refine reg_list ?_
          refine lcall (vs := #[.pointer (some ⟨bb, 0, none⟩)]) ha rfl (by kernel_rfl) rfl rfl (by kernel_rfl) (by kernel_rfl) (bstr_ok _ _ _ _ hx.size hbd) ?_
          clear ha a; rintro _ w30 ⟨rfl, hbl⟩ a ha
          replace hx : Ext w w30 := Ext.below hx hbl
          clear hbl hbd hB_bo
          refine segp (ρ' := [(2, .string (S []))]) (C := []) ha 1 [] rfl (by kernel_rfl) .nil ?_
          clear ha a; intro a ha
          refine lnil ?_
          replace ha := ha.sub (ρ' := [(2, .string (S []))]) (by kernel_rfl)
          refine tn ?_
          refine wret ?_
          refine fin ha (.tmp rfl .nil) ?_
          refine ⟨congrArg (fun q => Value.string (S q)) ?_, hx⟩
          first | (unfold oBody; simp [*]; done) | (obtain rfl : i = o.Entries.length := (by omega); unfold oBody; simp [*]; done) | (obtain rfl : i = o.Parents.length := (by omega); unfold oBody; simp [*]; done)
end Go.Kn
end
section
set_option linter.unusedSimpArgs false
set_option linter.unusedVariables false
set_option maxRecDepth 100000
namespace Go.Kn
open Go.Proofs
theorem oenc_ok (o : ObjL) (Ae Ap : Option Addr) (ce cp : Nat) (w : World) (hoe : Rd w 34 Ae o.Entries.length (o.Entries.flatMap encEnt)) (hop : Rd w 32 Ap o.Parents.length (o.Parents.flatMap idc)) (hok : ObjOk o) (hfw : FewOk o) :
    Fn Tryd.prog 50 #[.agg ⟨objC o Ae ce Ap cp⟩] w (fun x w' => x = .tuple #[.string (S (oEnc o).1), .int .i64 (oEnc o).2] ∧ Ext w w') := by
  have hx : Ext w w := Ext.rfl' w
  refine enter (N := 33) (args := [.agg ⟨objC o Ae ce Ap cp⟩]) Tryd.func50 rfl rfl rfl ?_
  intro a ha
  simp only [argEnv, Nat.zero_add, Nat.reduceAdd] at ha
  refine wseq ?_
  refine reg_list ?_
  refine lnew ha rfl (by kernel_rfl) ⟨objC o Ae ce Ap cp⟩ 54 (by kernel_rfl) ?_
  clear ha a; intro bo w1 he hb_bo hB_bo a ha
  replace hb_bo := Nat.le_trans hx.size hb_bo
  replace hx := hx.tr he
  clear he
  refine segp (ρ' := [(1, .pointer (some ⟨bo, 0, none⟩))]) (C := []) ha 2 [] rfl (by kernel_rfl) .nil ?_
  clear ha a; intro a ha
  refine lnil ?_
  replace ha := ha.sub (ρ' := [(1, .pointer (some ⟨bo, 0, none⟩))]) (by kernel_rfl)
  refine tn ?_
  refine wseq ?_
  refine wseq ?_
  refine reg hmix (ρ' := [(1, .pointer (some ⟨bo, 0, none⟩)), (19, .bool (((decide ((4096 : Int) < ((o.Data.length : Nat) : Int))) || (decide ((4096 : Int) < ((o.Text.length : Nat) : Int)))) || (!(oMay o))))]) (C := [RunOk Tryd.prog w1 (Instr.loadAt 9 (.pointer (some ⟨bo, 1, none⟩))) (.string (S o.Data)), (decide ((4096 : Int) < ((o.Data.length : Nat) : Int))) = false → All [RunOk Tryd.prog w1 (Instr.loadAt 9 (.pointer (some ⟨bo, 37, none⟩))) (.string (S o.Text))], ((decide ((4096 : Int) < ((o.Data.length : Nat) : Int))) || (decide ((4096 : Int) < ((o.Text.length : Nat) : Int)))) = false → All [RunOk Tryd.prog w1 (Instr.loadAt 54 (.pointer (some ⟨bo, 0, none⟩))) (.agg ⟨objC o Ae ce Ap cp⟩), CallOk Tryd.prog w1 57 #[.agg ⟨objC o Ae ce Ap cp⟩] (.bool (oMay o))]]) ha [(1, .val (.string (S o.Data))), (6, .val (.string (S o.Text))), (11, .val (.agg ⟨objC o Ae ce Ap cp⟩)), (12, .val (.bool (oMay o)))] (by kernel_rfl) (.cons (ld1 hB_bo (by kernel_rfl) (by kernel_rfl)) (.cons (fun hg5 => by replace hg5 := of_decide_eq_false hg5; exact (.cons (ld1 hB_bo (by kernel_rfl) (by kernel_rfl)) .nil)) (.cons (fun hg11 => by simp only [Bool.not_eq_true', Bool.not_eq_false', Bool.and_eq_true, Bool.or_eq_true, Bool.and_eq_false_iff, Bool.or_eq_false_iff, decide_eq_true_eq, decide_eq_false_iff_not, Bool.not_eq_true, Decidable.not_not] at hg11; exact (.cons (ldN (n := 72) hB_bo (by kernel_rfl) (by kernel_rfl) ⟨Nat.le_of_ble_eq_true (by kernel_rfl), (by kernel_rfl)⟩) (.cons (fun w2 h2 => may_ok o _ _ _ _ w2 (rdE h2 (rdE hx hoe)) (rdE h2 (rdE hx hop)) hok) .nil))) .nil))) ?_
  clear ha a; intro a w2 ha he
  replace hx := hx.tr he
  replace hB_bo := keepB he hB_bo
  clear he
  refine tn ?_
  refine wif ha rfl (fun h19 => ?_) (fun h19 => ?_)
  · simp only [Bool.not_eq_true', Bool.not_eq_false', Bool.and_eq_true, Bool.or_eq_true, Bool.and_eq_false_iff, Bool.or_eq_false_iff, decide_eq_true_eq, decide_eq_false_iff_not, Bool.not_eq_true, Decidable.not_not] at h19
    have hres : oEnc o = ([], 1) := by unfold oEnc; rw [if_pos (by rcases h19 with (h | h) | h; exact .inl (by omega); exact .inr (.inl (by omega)); exact .inr (.inr h))]
    refine wseq ?_
    refine regp (ρ' := [(2, .string (S [])), (3, .int .i64 1)]) (C := []) ha [] (by kernel_rfl) .nil ?_
    clear ha a; intro a ha
    refine tn ?_
    refine wret ?_
    refine (tr ?_)
    refine fin ha (.tmp rfl (.tmp rfl .nil)) ?_
    exact ⟨by rw [hres]; rfl, hx⟩
  · simp only [Bool.not_eq_true', Bool.not_eq_false', Bool.and_eq_true, Bool.or_eq_true, Bool.and_eq_false_iff, Bool.or_eq_false_iff, decide_eq_true_eq, decide_eq_false_iff_not, Bool.not_eq_true, Decidable.not_not] at h19
    have hbl := oBody_len hfw
    have htl := vtext_len (oBody o)
    have hl5 : (oneB8 o.Kind).length = 1 := rfl
    have hce : ¬ (4096 < o.Data.length ∨ 4096 < o.Text.length ∨ oMay o = false) := by rintro (h | h | h); exact absurd h19.1.1 (by omega); exact absurd h19.1.2 (by omega); exact absurd h19.2 (by simp [h])
    refine wskip ?_
    refine tn ?_
    refine wseq ?_
    refine regM hmix ha [(1, .val (.int .i64 o.Kind)), (2, .mod), (5, .val (.agg ⟨objC o Ae ce Ap cp⟩)), (6, .val (.string (S (oBody o)))), (7, .val (.string (S (vtext (oBody o)))))] [⟨3, .des, [0], []⟩, ⟨4, .val (.string (S [UInt8.ofNat ((o.Kind % 256) : Int).toNat])), [0], [(23, 3)]⟩] [] [] (ρ' := [(4, .string (S ([UInt8.ofNat ((o.Kind % 256) : Int).toNat] ++ (vtext (oBody o)))))]) [(3, fun u w' => ∃ (b3 : Nat), u = .slice (some ⟨b3, 0, none⟩) 1 1 ∧ w2.heap.size ≤ b3 ∧ w'.heap[b3]? = some (.cells #[.int .u8 (o.Kind % 256)] 5 (0, 0)))] [fun w' => Ext w2 w'] [(1, [0], fun w' => [RunOk Tryd.prog w' (Instr.loadAt 3 (.pointer (some ⟨bo, 0, none⟩))) (.int .i64 o.Kind)]), (5, [0], fun w' => [RunOk Tryd.prog w' (Instr.loadAt 54 (.pointer (some ⟨bo, 0, none⟩))) (.agg ⟨objC o Ae ce Ap cp⟩)]), (6, [0], fun w' => [CallOk Tryd.prog w' 76 #[.agg ⟨objC o Ae ce Ap cp⟩] (.string (S (oBody o)))]), (7, [0], fun w' => [CallOk Tryd.prog w' 75 #[.string (S (oBody o))] (.string (S (vtext (oBody o))))]), (8, [0], fun w' => [([UInt8.ofNat ((o.Kind % 256) : Int).toNat] : List UInt8).length + ((vtext (oBody o)) : List UInt8).length ≤ 9223372036854775807])] (by kernel_rfl) (fun w' => by kernel_rfl) (fun w' => by kernel_rfl) (by kernel_rfl) (fun w' h => h) ?_ ?_ ?_ ?_ ?_ ?_
    · exact ⟨fun w1 w2 h e => Ext.tr h e, trivial⟩
    · refine ⟨?_, trivial⟩
      · rintro _ w1 w2 ⟨b3, rfl, hb_b3, hB_b3⟩ he
        exact ⟨b3, rfl, hb_b3, keepB he hB_b3⟩
    · refine ⟨⟨?_, trivial⟩, ⟨?_, trivial⟩, ⟨?_, trivial⟩, ⟨?_, trivial⟩, ⟨?_, trivial⟩, trivial⟩
      · intro w' hJ
        have he : Ext w2 w' := hJ
        have hsz := he.size
        replace hx := hx.tr he
        replace hB_bo := keepB he hB_bo
        clear he
        exact (.cons (ld1 hB_bo (by kernel_rfl) (by kernel_rfl)) .nil)
      · intro w' hJ
        have he : Ext w2 w' := hJ
        have hsz := he.size
        replace hx := hx.tr he
        replace hB_bo := keepB he hB_bo
        clear he
        exact (.cons (ldN (n := 72) hB_bo (by kernel_rfl) (by kernel_rfl) ⟨Nat.le_of_ble_eq_true (by kernel_rfl), (by kernel_rfl)⟩) .nil)
      · intro w' hJ
        have he : Ext w2 w' := hJ
        have hsz := he.size
        replace hx := hx.tr he
        replace hB_bo := keepB he hB_bo
        clear he
        exact (.cons (fun w2 h2 => obody_ok o _ _ _ _ w2 (rdE h2 (rdE hx hoe)) (rdE h2 (rdE hx hop)) hok hfw) .nil)
      · intro w' hJ
        have he : Ext w2 w' := hJ
        have hsz := he.size
        replace hx := hx.tr he
        replace hB_bo := keepB he hB_bo
        clear he
        exact (.cons (fun w _ => text_ok _ w (by omega)) .nil)
      · intro w' hJ
        have he : Ext w2 w' := hJ
        have hsz := he.size
        replace hx := hx.tr he
        replace hB_bo := keepB he hB_bo
        clear he
        exact (.cons (by first | omega | (simp only [List.length_cons, List.length_nil, List.length_append, List.length_take, List.length_drop]; omega)) .nil)
    · refine ⟨⟨?_, trivial⟩, ⟨?_, trivial⟩, trivial⟩
      · intro w' hJ
        have he : Ext w2 w' := hJ
        have hsz := he.size
        replace hx := hx.tr he
        replace hB_bo := keepB he hB_bo
        clear he
        refine onewS #[.int .u8 (o.Kind % 256)] 5 1 (by kernel_rfl) ?_
        intro b3 w'' he hb_b3 hB_b3
        exact ⟨⟨b3, rfl, Nat.le_trans hsz hb_b3, hB_b3⟩, he⟩
      · intro w' hJ u0 hu0
        obtain ⟨b3, rfl, hb_b3, hB_b3⟩ := hu0
        have he : Ext w2 w' := hJ
        have hsz := he.size
        replace hx := hx.tr he
        replace hB_bo := keepB he hB_bo
        clear he
        refine ox (m := (some (.val (.string (S [UInt8.ofNat ((o.Kind % 256) : Int).toNat]))))) (v := .string (S [UInt8.ofNat ((o.Kind % 256) : Int).toNat])) (C := [RunOk Tryd.prog w' (convert 63 9 (.slice (some ⟨b3, 0, none⟩) 1 1)) (.string (S [UInt8.ofNat ((o.Kind % 256) : Int).toNat]))]) (by kernel_rfl) (.cons (cvBlk (e := 5) (zs := [((o.Kind % 256) : Int)]) (by kernel_rfl) (by kernel_rfl) (by kernel_rfl) hB_b3 rfl rfl) .nil) ?_
        intro w'' he
        exact ⟨rfl, he⟩
    · trivial
    · clear ha a; intro a w4 hJ ha
      have he : Ext w2 w4 := hJ
      have hsz := he.size
      replace hx := hx.tr he
      replace hB_bo := keepB he hB_bo
      clear he
      clear hsz
      rw [show (([UInt8.ofNat ((o.Kind % 256) : Int).toNat] ++ (vtext (oBody o))) : List UInt8) = (oEncS o) from rfl] at ha
      refine tn ?_
      refine wseq ?_
      refine wseq ?_
      refine regp (ρ' := [(4, .string (S (oEncS o))), (31, .bool (decide ((4096 : Int) < (((oEncS o).length : Nat) : Int))))]) (C := []) ha [] (by kernel_rfl) .nil ?_
      clear ha a; intro a ha
      refine tn ?_
      refine wif ha rfl (fun h31 => ?_) (fun h31 => ?_)
      · replace h31 := of_decide_eq_true h31
        have hres : oEnc o = ([], 1) := by unfold oEnc; rw [if_neg hce, if_pos (by omega)]
        refine wseq ?_
        refine regp (ρ' := [(2, .string (S [])), (3, .int .i64 1)]) (C := []) ha [] (by kernel_rfl) .nil ?_
        clear ha a; intro a ha
        refine tn ?_
        refine wret ?_
        refine (tr ?_)
        refine fin ha (.tmp rfl (.tmp rfl .nil)) ?_
        exact ⟨by rw [hres]; rfl, hx⟩
      · replace h31 := of_decide_eq_false h31
        have hres : oEnc o = (oEncS o, 0) := by unfold oEnc; rw [if_neg hce, if_neg (by omega)]
        refine wskip ?_
        refine tn ?_
        refine wseq ?_
        refine regp (ρ' := [(2, .string (S (oEncS o))), (3, .int .i64 0)]) (C := []) ha [] (by kernel_rfl) .nil ?_
        clear ha a; intro a ha
        refine tn ?_
        refine wret ?_
        refine fin ha (.tmp rfl (.tmp rfl .nil)) ?_
        exact ⟨by rw [hres]; rfl, hx⟩
end Go.Kn
end
section
set_option linter.unusedSimpArgs false
set_option linter.unusedVariables false
set_option maxRecDepth 100000
namespace Go.Kn
open Go.Proofs
theorem take_snoc {α : Type} [Inhabited α] (l : List α) (i : Nat) (h : i < l.length) : l.take (i + 1) = l.take i ++ [l.getD i default] := by
  have := map_take_succ id l i h
  simpa using this
theorem take_ok (l : List UInt8) (w : World) (hl : l.length ≤ 9223372036854775807) :
    Fn Tryd.prog 52 #[.string (S l)] w (fun x w' => x = .tuple #[.string (S (vtake l).1), .string (S (vtake l).2.1), .int .i64 (((vtake l).2.2 : Nat) : Int)] ∧ Ext w w') := by
  have hx : Ext w w := Ext.rfl' w
  refine enter (N := 29) (args := [.string (S l)]) Tryd.func52 rfl rfl rfl ?_
  intro a ha
  simp only [argEnv, Nat.zero_add, Nat.reduceAdd] at ha
  refine wseq ?_
  refine regp (ρ' := [(0, .string (S l))]) (C := []) ha [] (by kernel_rfl) .nil ?_
  clear ha a; intro a ha
  refine tn ?_
  refine wseq ?_
  refine reg hmix (ρ' := [(5, .int .u64 (((vget l).1 : Nat) : Int)), (6, .string (S ((vget l).2.1))), (7, .int .i64 (((vget l).2.2 : Nat) : Int))]) (C := [CallOk Tryd.prog w 77 #[.string (S l)] (.tuple #[.int .u64 (((vget l).1 : Nat) : Int), .string (S ((vget l).2.1)), .int .i64 (((vget l).2.2 : Nat) : Int)])]) ha [(1, .val (.tuple #[.int .u64 (((vget l).1 : Nat) : Int), .string (S ((vget l).2.1)), .int .i64 (((vget l).2.2 : Nat) : Int)]))] (by kernel_rfl) (.cons (fun w _ => get_ok _ w (by omega)) .nil) ?_
  clear ha a; intro a w1 ha he
  replace hx := hx.tr he
  clear he
  have hgl := vget_len l
  have hg64 := vget_lt l
  refine tn ?_
  refine wseq ?_
  refine wseq ?_
  refine regp (ρ' := [(5, .int .u64 (((vget l).1 : Nat) : Int)), (6, .string (S ((vget l).2.1))), (22, .bool ((!decide ((((vget l).2.2 : Nat) : Int) = 0)) || (decide (((((vget l).2.1).length : Nat) : Int) < (((vget l).1 : Nat) : Int)))))]) (C := [(!decide ((((vget l).2.2 : Nat) : Int) = 0)) = false → All [InR .u64 ((((vget l).2.1).length : Nat) : Int)]]) ha [] (by kernel_rfl) (.cons (fun hg3 => by simp only [Bool.not_eq_true', Bool.not_eq_false', Bool.and_eq_true, Bool.or_eq_true, Bool.and_eq_false_iff, Bool.or_eq_false_iff, decide_eq_true_eq, decide_eq_false_iff_not, Bool.not_eq_true, Decidable.not_not] at hg3; exact (.cons (by unfold InR; omega) .nil)) .nil) ?_
  clear ha a; intro a ha
  refine tn ?_
  refine wif ha rfl (fun h22 => ?_) (fun h22 => ?_)
  · simp only [Bool.not_eq_true', Bool.not_eq_false', Bool.and_eq_true, Bool.or_eq_true, Bool.and_eq_false_iff, Bool.or_eq_false_iff, decide_eq_true_eq, decide_eq_false_iff_not, Bool.not_eq_true, Decidable.not_not] at h22
    have hres : vtake l = ([], [], 2) := by unfold vtake; rw [if_pos (by omega)]
    refine wseq ?_
    refine regp (ρ' := [(2, .string (S [])), (3, .string (S [])), (4, .int .i64 2)]) (C := []) ha [] (by kernel_rfl) .nil ?_
    clear ha a; intro a ha
    refine tn ?_
    refine wret ?_
    refine (tr ?_)
    refine fin ha (.tmp rfl (.tmp rfl (.tmp rfl .nil))) ?_
    exact ⟨by rw [hres]; rfl, hx⟩
  · simp only [Bool.not_eq_true', Bool.not_eq_false', Bool.and_eq_true, Bool.or_eq_true, Bool.and_eq_false_iff, Bool.or_eq_false_iff, decide_eq_true_eq, decide_eq_false_iff_not, Bool.not_eq_true, Decidable.not_not] at h22
    have hres : vtake l = ((vget l).2.1.take (vget l).1, (vget l).2.1.drop (vget l).1, 0) := by unfold vtake; rw [if_neg (by omega)]
    refine wskip ?_
    refine tn ?_
    refine wseq ?_
    refine reg hmix (ρ' := [(2, .string (S (((vget l).2.1).take ((vget l).1)))), (3, .string (S (((vget l).2.1).drop ((vget l).1)))), (4, .int .i64 0)]) (C := [0 ≤ (((vget l).1 : Nat) : Int) ∧ (((vget l).1 : Nat) : Int) ≤ (((vget l).2.1).length : Int), 0 ≤ (((vget l).1 : Nat) : Int) ∧ (((vget l).1 : Nat) : Int) ≤ (((vget l).2.1).length : Int)]) ha [] (by kernel_rfl) (.cons ⟨by omega, by omega⟩ (.cons ⟨by omega, by omega⟩ .nil)) ?_
    clear ha a; intro a w2 ha he
    replace hx := hx.tr he
    clear he
    refine tn ?_
    refine wret ?_
    refine fin ha (.tmp rfl (.tmp rfl (.tmp rfl .nil))) ?_
    exact ⟨by rw [hres]; rfl, hx⟩
end Go.Kn
end
section
set_option linter.unusedSimpArgs false
set_option linter.unusedVariables false
set_option maxRecDepth 100000
namespace Go.Kn
open Go.Proofs
theorem rbytes_ok (r : Nat) (s : List UInt8) (bad : Bool) (n : Nat) (w : World) (hB_r : w.heap[r]? = some (.cells #[.string (S s), .bool bad] 80 (0, 0))) (hs : s.length ≤ 9223372036854775807) :
    Fn Tryd.prog 78 #[.pointer (some ⟨r, 0, none⟩), .int .i64 ((n : Nat) : Int)] w (fun x w' => x = .string (S (rdB s bad n).1) ∧ Fr [r] w w' ∧ w'.heap[r]? = some (.cells #[.string (S (rdB s bad n).2.1), .bool (rdB s bad n).2.2] 80 (0, 0))) := by
  have hx : Fr [r] w w := Fr.rfl' _ w
  refine enter (N := 38) (args := [.pointer (some ⟨r, 0, none⟩), .int .i64 ((n : Nat) : Int)]) Tryd.func78 rfl rfl rfl ?_
  intro a ha
  simp only [argEnv, Nat.zero_add, Nat.reduceAdd] at ha
  refine wseq ?_
  refine regp (ρ' := [(0, .pointer (some ⟨r, 0, none⟩)), (1, .int .i64 ((n : Nat) : Int))]) (C := []) ha [] (by kernel_rfl) .nil ?_
  clear ha a; intro a ha
  refine tn ?_
  refine wseq ?_
  refine wseq ?_
  refine regp (ρ' := [(0, .pointer (some ⟨r, 0, none⟩)), (1, .int .i64 ((n : Nat) : Int)), (18, .bool (bad || (decide (((s.length : Nat) : Int) < ((n : Nat) : Int)))))]) (C := [RunOk Tryd.prog w (Instr.loadAt 4 (.pointer (some ⟨r, 1, none⟩))) (.bool bad), bad = false → All [RunOk Tryd.prog w (Instr.loadAt 9 (.pointer (some ⟨r, 0, none⟩))) (.string (S s))]]) ha [(3, .val (.bool bad)), (9, .val (.string (S s)))] (by kernel_rfl) (.cons (ld1 hB_r (by kernel_rfl) rfl) (.cons (fun hg5 => by exact (.cons (ld1 hB_r (by kernel_rfl) rfl) .nil)) .nil)) ?_
  clear ha a; intro a ha
  refine tn ?_
  refine wif ha rfl (fun h18 => ?_) (fun h18 => ?_)
  · simp only [Bool.not_eq_true', Bool.not_eq_false', Bool.and_eq_true, Bool.or_eq_true, Bool.and_eq_false_iff, Bool.or_eq_false_iff, decide_eq_true_eq, decide_eq_false_iff_not, Bool.not_eq_true, Decidable.not_not] at h18
    have hres : rdB s bad n = ([], s, true) := by unfold rdB; rw [if_pos (by simpa using h18)]
    refine wseq ?_
    refine reg_list ?_
    refine segp (ρ' := [(21, .pointer (some ⟨r, 1, none⟩))]) (C := []) ha 3 [] rfl (by kernel_rfl) .nil ?_
    clear ha a; intro a ha
    refine lstore (off := 1) ha rfl rfl (by kernel_rfl) hB_r #[.string (S s), .bool true] rfl (by kernel_rfl) (by kernel_rfl) ?_
    clear ha a; intro w1 hc a ha
    replace hx := hx.chg hc (.inl (by simp))
    replace hB_r := hc.at_; clear hc
    refine lnil ?_
    replace ha := ha.sub (ρ' := []) (by kernel_rfl)
    refine tn ?_
    refine wseq ?_
    refine regp (ρ' := [(4, .string (S []))]) (C := []) ha [] (by kernel_rfl) .nil ?_
    clear ha a; intro a ha
    refine tn ?_
    refine wret ?_
    refine (tr ?_)
    refine fin ha (.tmp rfl .nil) ?_
    refine ⟨by rw [hres]; rfl, hx, ?_⟩
    rw [hres]
    first | exact hB_r | simpa [h18.1] using hB_r
  · simp only [Bool.not_eq_true', Bool.not_eq_false', Bool.and_eq_true, Bool.or_eq_true, Bool.and_eq_false_iff, Bool.or_eq_false_iff, decide_eq_true_eq, decide_eq_false_iff_not, Bool.not_eq_true, Decidable.not_not] at h18
    skip
    have hres : rdB s bad n = (s.take n, s.drop n, false) := by unfold rdB; rw [if_neg (by simp only [not_or]; exact ⟨by simp [h18.1], by omega⟩)]
    refine wskip ?_
    refine tn ?_
    refine wseq ?_
    refine regp (ρ' := [(0, .pointer (some ⟨r, 0, none⟩)), (1, .int .i64 ((n : Nat) : Int)), (5, .string (S (s.take n)))]) (C := [RunOk Tryd.prog w (Instr.loadAt 9 (.pointer (some ⟨r, 0, none⟩))) (.string (S s)), 0 ≤ ((n : Nat) : Int) ∧ ((n : Nat) : Int) ≤ (s.length : Int)]) ha [(3, .val (.string (S s)))] (by kernel_rfl) (.cons (ld1 hB_r (by kernel_rfl) rfl) (.cons ⟨by omega, by omega⟩ .nil)) ?_
    clear ha a; intro a ha
    refine tn ?_
    refine wseq ?_
    refine reg_list ?_
    refine segp (ρ' := [(5, .string (S (s.take n))), (34, .string (S (s.drop n))), (36, .pointer (some ⟨r, 0, none⟩))]) (C := [RunOk Tryd.prog w (Instr.loadAt 9 (.pointer (some ⟨r, 0, none⟩))) (.string (S s)), 0 ≤ ((n : Nat) : Int) ∧ ((n : Nat) : Int) ≤ (s.length : Int)]) ha 9 [(4, .val (.string (S s)))] rfl (by kernel_rfl) (.cons (ld1 hB_r (by kernel_rfl) rfl) (.cons ⟨by omega, by omega⟩ .nil)) ?_
    clear ha a; intro a ha
    refine lstore (off := 0) ha rfl rfl (by kernel_rfl) hB_r #[.string (S (s.drop n)), .bool bad] rfl (by kernel_rfl) (by kernel_rfl) ?_
    clear ha a; intro w2 hc a ha
    replace hx := hx.chg hc (.inl (by simp))
    replace hB_r := hc.at_; clear hc
    refine lnil ?_
    replace ha := ha.sub (ρ' := [(5, .string (S (s.take n)))]) (by kernel_rfl)
    refine tn ?_
    refine wseq ?_
    refine regp (ρ' := [(4, .string (S (s.take n)))]) (C := []) ha [] (by kernel_rfl) .nil ?_
    clear ha a; intro a ha
    refine tn ?_
    refine wret ?_
    refine fin ha (.tmp rfl .nil) ?_
    refine ⟨by rw [hres]; rfl, hx, ?_⟩
    rw [hres]
    first | exact hB_r | simpa [h18.1] using hB_r
theorem rnum_ok (r : Nat) (s : List UInt8) (bad : Bool) (w : World) (hB_r : w.heap[r]? = some (.cells #[.string (S s), .bool bad] 80 (0, 0))) (hs : s.length ≤ 9223372036854775807) :
    Fn Tryd.prog 82 #[.pointer (some ⟨r, 0, none⟩)] w (fun x w' => x = .int .u64 (((rdN s bad).1 : Nat) : Int) ∧ Fr [r] w w' ∧ w'.heap[r]? = some (.cells #[.string (S (rdN s bad).2.1), .bool (rdN s bad).2.2] 80 (0, 0))) := by
  have hx : Fr [r] w w := Fr.rfl' _ w
  refine enter (N := 31) (args := [.pointer (some ⟨r, 0, none⟩)]) Tryd.func82 rfl rfl rfl ?_
  intro a ha
  simp only [argEnv, Nat.zero_add, Nat.reduceAdd] at ha
  refine wseq ?_
  refine regp (ρ' := [(0, .pointer (some ⟨r, 0, none⟩))]) (C := []) ha [] (by kernel_rfl) .nil ?_
  clear ha a; intro a ha
  refine tn ?_
  refine wseq ?_
  refine reg hmix (ρ' := [(0, .pointer (some ⟨r, 0, none⟩)), (3, .int .u64 (((vget s).1 : Nat) : Int)), (4, .string (S ((vget s).2.1))), (5, .int .i64 (((vget s).2.2 : Nat) : Int))]) (C := [RunOk Tryd.prog w (Instr.loadAt 9 (.pointer (some ⟨r, 0, none⟩))) (.string (S s)), CallOk Tryd.prog w 77 #[.string (S s)] (.tuple #[.int .u64 (((vget s).1 : Nat) : Int), .string (S ((vget s).2.1)), .int .i64 (((vget s).2.2 : Nat) : Int)])]) ha [(3, .val (.string (S s))), (4, .val (.tuple #[.int .u64 (((vget s).1 : Nat) : Int), .string (S ((vget s).2.1)), .int .i64 (((vget s).2.2 : Nat) : Int)]))] (by kernel_rfl) (.cons (ld1 hB_r (by kernel_rfl) rfl) (.cons (fun w _ => get_ok _ w (by omega)) .nil)) ?_
  clear ha a; intro a w1 ha he
  replace hx := hx.ext he
  replace hB_r := keepB he hB_r
  clear he
  refine tn ?_
  refine wseq ?_
  refine wseq ?_
  refine regp (ρ' := [(0, .pointer (some ⟨r, 0, none⟩)), (3, .int .u64 (((vget s).1 : Nat) : Int)), (4, .string (S ((vget s).2.1))), (22, .bool (bad || (!decide ((((vget s).2.2 : Nat) : Int) = 0))))]) (C := [RunOk Tryd.prog w1 (Instr.loadAt 4 (.pointer (some ⟨r, 1, none⟩))) (.bool bad)]) ha [(3, .val (.bool bad))] (by kernel_rfl) (.cons (ld1 hB_r (by kernel_rfl) rfl) .nil) ?_
  clear ha a; intro a ha
  refine tn ?_
  refine wif ha rfl (fun h22 => ?_) (fun h22 => ?_)
  · simp only [Bool.not_eq_true', Bool.not_eq_false', Bool.and_eq_true, Bool.or_eq_true, Bool.and_eq_false_iff, Bool.or_eq_false_iff, decide_eq_true_eq, decide_eq_false_iff_not, Bool.not_eq_true, Decidable.not_not] at h22
    have hres : rdN s bad = (0, s, true) := by unfold rdN; rw [if_pos (by rcases h22 with h | h; exact .inl h; exact .inr (by omega))]
    refine wseq ?_
    refine reg_list ?_
    refine segp (ρ' := [(25, .pointer (some ⟨r, 1, none⟩))]) (C := []) ha 3 [] rfl (by kernel_rfl) .nil ?_
    clear ha a; intro a ha
    refine lstore (off := 1) ha rfl rfl (by kernel_rfl) hB_r #[.string (S s), .bool true] rfl (by kernel_rfl) (by kernel_rfl) ?_
    clear ha a; intro w2 hc a ha
    replace hx := hx.chg hc (.inl (by simp))
    replace hB_r := hc.at_; clear hc
    refine lnil ?_
    replace ha := ha.sub (ρ' := []) (by kernel_rfl)
    refine tn ?_
    refine wseq ?_
    refine regp (ρ' := [(2, .int .u64 0)]) (C := []) ha [] (by kernel_rfl) .nil ?_
    clear ha a; intro a ha
    refine tn ?_
    refine wret ?_
    refine (tr ?_)
    refine fin ha (.tmp rfl .nil) ?_
    refine ⟨by rw [hres]; rfl, hx, ?_⟩
    rw [hres]
    first | exact hB_r | simpa [h22.1] using hB_r
  · simp only [Bool.not_eq_true', Bool.not_eq_false', Bool.and_eq_true, Bool.or_eq_true, Bool.and_eq_false_iff, Bool.or_eq_false_iff, decide_eq_true_eq, decide_eq_false_iff_not, Bool.not_eq_true, Decidable.not_not] at h22
    have hres : rdN s bad = ((vget s).1, (vget s).2.1, false) := by unfold rdN; rw [if_neg (by simp only [not_or]; exact ⟨by simp [h22.1], by omega⟩)]
    refine wskip ?_
    refine tn ?_
    refine wseq ?_
    refine reg_list ?_
    refine segp (ρ' := [(3, .int .u64 (((vget s).1 : Nat) : Int)), (27, .string (S ((vget s).2.1))), (29, .pointer (some ⟨r, 0, none⟩))]) (C := []) ha 4 [] rfl (by kernel_rfl) .nil ?_
    clear ha a; intro a ha
    refine lstore (off := 0) ha rfl rfl (by kernel_rfl) hB_r #[.string (S ((vget s).2.1)), .bool bad] rfl (by kernel_rfl) (by kernel_rfl) ?_
    clear ha a; intro w3 hc a ha
    replace hx := hx.chg hc (.inl (by simp))
    replace hB_r := hc.at_; clear hc
    refine lnil ?_
    replace ha := ha.sub (ρ' := [(3, .int .u64 (((vget s).1 : Nat) : Int))]) (by kernel_rfl)
    refine tn ?_
    refine wseq ?_
    refine regp (ρ' := [(2, .int .u64 (((vget s).1 : Nat) : Int))]) (C := []) ha [] (by kernel_rfl) .nil ?_
    clear ha a; intro a ha
    refine tn ?_
    refine wret ?_
    refine fin ha (.tmp rfl .nil) ?_
    refine ⟨by rw [hres]; rfl, hx, ?_⟩
    rw [hres]
    first | exact hB_r | simpa [h22.1] using hB_r
theorem rtx_ok (r : Nat) (s : List UInt8) (bad : Bool) (w : World) (hB_r : w.heap[r]? = some (.cells #[.string (S s), .bool bad] 80 (0, 0))) (hs : s.length ≤ 9223372036854775807) :
    Fn Tryd.prog 80 #[.pointer (some ⟨r, 0, none⟩)] w (fun x w' => x = .string (S (rdT s bad).1) ∧ Fr [r] w w' ∧ w'.heap[r]? = some (.cells #[.string (S (rdT s bad).2.1), .bool (rdT s bad).2.2] 80 (0, 0))) := by
  have hx : Fr [r] w w := Fr.rfl' _ w
  refine enter (N := 31) (args := [.pointer (some ⟨r, 0, none⟩)]) Tryd.func80 rfl rfl rfl ?_
  intro a ha
  simp only [argEnv, Nat.zero_add, Nat.reduceAdd] at ha
  refine wseq ?_
  refine regp (ρ' := [(0, .pointer (some ⟨r, 0, none⟩))]) (C := []) ha [] (by kernel_rfl) .nil ?_
  clear ha a; intro a ha
  refine tn ?_
  refine wseq ?_
  refine reg hmix (ρ' := [(0, .pointer (some ⟨r, 0, none⟩)), (3, .string (S ((vtake s).1))), (4, .string (S ((vtake s).2.1))), (5, .int .i64 (((vtake s).2.2 : Nat) : Int))]) (C := [RunOk Tryd.prog w (Instr.loadAt 9 (.pointer (some ⟨r, 0, none⟩))) (.string (S s)), CallOk Tryd.prog w 52 #[.string (S s)] (.tuple #[.string (S ((vtake s).1)), .string (S ((vtake s).2.1)), .int .i64 (((vtake s).2.2 : Nat) : Int)])]) ha [(3, .val (.string (S s))), (4, .val (.tuple #[.string (S ((vtake s).1)), .string (S ((vtake s).2.1)), .int .i64 (((vtake s).2.2 : Nat) : Int)]))] (by kernel_rfl) (.cons (ld1 hB_r (by kernel_rfl) rfl) (.cons (fun w _ => take_ok _ w (by first | omega | (simp only [List.length_drop]; omega))) .nil)) ?_
  clear ha a; intro a w1 ha he
  replace hx := hx.ext he
  replace hB_r := keepB he hB_r
  clear he
  refine tn ?_
  refine wseq ?_
  refine wseq ?_
  refine regp (ρ' := [(0, .pointer (some ⟨r, 0, none⟩)), (3, .string (S ((vtake s).1))), (4, .string (S ((vtake s).2.1))), (22, .bool (bad || (!decide ((((vtake s).2.2 : Nat) : Int) = 0))))]) (C := [RunOk Tryd.prog w1 (Instr.loadAt 4 (.pointer (some ⟨r, 1, none⟩))) (.bool bad)]) ha [(3, .val (.bool bad))] (by kernel_rfl) (.cons (ld1 hB_r (by kernel_rfl) rfl) .nil) ?_
  clear ha a; intro a ha
  refine tn ?_
  refine wif ha rfl (fun h22 => ?_) (fun h22 => ?_)
  · simp only [Bool.not_eq_true', Bool.not_eq_false', Bool.and_eq_true, Bool.or_eq_true, Bool.and_eq_false_iff, Bool.or_eq_false_iff, decide_eq_true_eq, decide_eq_false_iff_not, Bool.not_eq_true, Decidable.not_not] at h22
    have hres : rdT s bad = ([], s, true) := by unfold rdT; rw [if_pos (by rcases h22 with h | h; exact .inl h; exact .inr (by omega))]
    refine wseq ?_
    refine reg_list ?_
    refine segp (ρ' := [(25, .pointer (some ⟨r, 1, none⟩))]) (C := []) ha 3 [] rfl (by kernel_rfl) .nil ?_
    clear ha a; intro a ha
    refine lstore (off := 1) ha rfl rfl (by kernel_rfl) hB_r #[.string (S s), .bool true] rfl (by kernel_rfl) (by kernel_rfl) ?_
    clear ha a; intro w2 hc a ha
    replace hx := hx.chg hc (.inl (by simp))
    replace hB_r := hc.at_; clear hc
    refine lnil ?_
    replace ha := ha.sub (ρ' := []) (by kernel_rfl)
    refine tn ?_
    refine wseq ?_
    refine regp (ρ' := [(2, .string (S []))]) (C := []) ha [] (by kernel_rfl) .nil ?_
    clear ha a; intro a ha
    refine tn ?_
    refine wret ?_
    refine (tr ?_)
    refine fin ha (.tmp rfl .nil) ?_
    refine ⟨by rw [hres]; rfl, hx, ?_⟩
    rw [hres]
    first | exact hB_r | simpa [h22.1] using hB_r
  · simp only [Bool.not_eq_true', Bool.not_eq_false', Bool.and_eq_true, Bool.or_eq_true, Bool.and_eq_false_iff, Bool.or_eq_false_iff, decide_eq_true_eq, decide_eq_false_iff_not, Bool.not_eq_true, Decidable.not_not] at h22
    have hres : rdT s bad = ((vtake s).1, (vtake s).2.1, false) := by unfold rdT; rw [if_neg (by simp only [not_or]; exact ⟨by simp [h22.1], by omega⟩)]
    refine wskip ?_
    refine tn ?_
    refine wseq ?_
    refine reg_list ?_
    refine segp (ρ' := [(3, .string (S ((vtake s).1))), (27, .string (S ((vtake s).2.1))), (29, .pointer (some ⟨r, 0, none⟩))]) (C := []) ha 4 [] rfl (by kernel_rfl) .nil ?_
    clear ha a; intro a ha
    refine lstore (off := 0) ha rfl rfl (by kernel_rfl) hB_r #[.string (S ((vtake s).2.1)), .bool bad] rfl (by kernel_rfl) (by kernel_rfl) ?_
    clear ha a; intro w3 hc a ha
    replace hx := hx.chg hc (.inl (by simp))
    replace hB_r := hc.at_; clear hc
    refine lnil ?_
    replace ha := ha.sub (ρ' := [(3, .string (S ((vtake s).1)))]) (by kernel_rfl)
    refine tn ?_
    refine wseq ?_
    refine regp (ρ' := [(2, .string (S ((vtake s).1)))]) (C := []) ha [] (by kernel_rfl) .nil ?_
    clear ha a; intro a ha
    refine tn ?_
    refine wret ?_
    refine fin ha (.tmp rfl .nil) ?_
    refine ⟨by rw [hres]; rfl, hx, ?_⟩
    rw [hres]
    first | exact hB_r | simpa [h22.1] using hB_r
theorem rkind_ok (r : Nat) (s : List UInt8) (bad : Bool) (w : World) (hB_r : w.heap[r]? = some (.cells #[.string (S s), .bool bad] 80 (0, 0))) (hs : s.length ≤ 9223372036854775807) :
    Fn Tryd.prog 79 #[.pointer (some ⟨r, 0, none⟩)] w (fun x w' => x = .int .i64 (rdK s bad).1 ∧ Fr [r] w w' ∧ w'.heap[r]? = some (.cells #[.string (S (rdK s bad).2.1), .bool (rdK s bad).2.2] 80 (0, 0))) := by
  have hx : Fr [r] w w := Fr.rfl' _ w
  refine enter (N := 13) (args := [.pointer (some ⟨r, 0, none⟩)]) Tryd.func79 rfl rfl rfl ?_
  intro a ha
  simp only [argEnv, Nat.zero_add, Nat.reduceAdd] at ha
  refine wseq ?_
  refine regp (ρ' := [(0, .pointer (some ⟨r, 0, none⟩))]) (C := []) ha [] (by kernel_rfl) .nil ?_
  clear ha a; intro a ha
  refine tn ?_
  refine wseq ?_
  refine reg_list ?_
  refine segp (ρ' := [(0, .pointer (some ⟨r, 0, none⟩)), (4, .pointer (some ⟨r, 0, none⟩))]) (C := []) ha 1 [] rfl (by kernel_rfl) .nil ?_
  clear ha a; intro a ha
  refine lcall (vs := #[.pointer (some ⟨r, 0, none⟩), .int .i64 1]) ha rfl (by kernel_rfl) rfl rfl (by kernel_rfl) (by kernel_rfl) (rbytes_ok r s bad 1 w hB_r (by omega)) ?_
  clear ha a; rintro _ w1 ⟨rfl, hfr, hB'⟩ a ha
  replace hx := hx.tr hfr (by simp)
  replace hB_r := hB'; clear hB' hfr
  refine segp (ρ' := [(0, .pointer (some ⟨r, 0, none⟩)), (3, .string (S ((rdB s bad 1).1)))]) (C := []) ha 1 [] rfl (by kernel_rfl) .nil ?_
  clear ha a; intro a ha
  refine lnil ?_
  replace ha := ha.sub (ρ' := [(0, .pointer (some ⟨r, 0, none⟩)), (3, .string (S ((rdB s bad 1).1)))]) (by kernel_rfl)
  refine tn ?_
  refine wseq ?_
  refine wseq ?_
  refine regp (ρ' := [(3, .string (S ((rdB s bad 1).1))), (9, .bool ((rdB s bad 1).2.2))]) (C := [RunOk Tryd.prog w1 (Instr.loadAt 4 (.pointer (some ⟨r, 1, none⟩))) (.bool ((rdB s bad 1).2.2))]) ha [(3, .val (.bool ((rdB s bad 1).2.2)))] (by kernel_rfl) (.cons (ld1 hB_r (by kernel_rfl) rfl) .nil) ?_
  clear ha a; intro a ha
  refine tn ?_
  refine wif ha rfl (fun h9 => ?_) (fun h9 => ?_)
  · skip
    have hres : (rdK s bad).1 = 0 := by unfold rdK; simp [h9]
    refine wseq ?_
    refine regp (ρ' := [(2, .int .i64 0)]) (C := []) ha [] (by kernel_rfl) .nil ?_
    clear ha a; intro a ha
    refine tn ?_
    refine wret ?_
    refine (tr ?_)
    refine fin ha (.tmp rfl .nil) ?_
    exact ⟨by rw [hres]; rfl, hx, hB_r⟩
  · skip
    have hb1 : (rdB s bad 1).1.length = 1 := by unfold rdB at h9 ⊢; split at h9; cases h9; rename_i hq; rw [if_neg hq]; simp only [not_or] at hq; simp; omega
    have hres : (rdK s bad).1 = (((rdB s bad 1).1.getD 0 0).toNat : Int) := by unfold rdK; simp [h9]
    refine wskip ?_
    refine tn ?_
    refine wseq ?_
    have hcb := UInt8.toNat_lt ((rdB s bad 1).1.getD 0 0)
    refine regp (ρ' := [(2, .int .i64 (((((rdB s bad 1).1).getD 0 0).toNat : Nat) : Int))]) (C := [0 ≤ (0 : Int) ∧ 0 < (((rdB s bad 1).1).length : Int), InR .i64 (((((rdB s bad 1).1).getD 0 0).toNat : Nat) : Int)]) ha [] (by kernel_rfl) (.cons ⟨by omega, by omega⟩ (.cons (by unfold InR; omega) .nil)) ?_
    clear ha a; intro a ha
    refine tn ?_
    refine wret ?_
    refine fin ha (.tmp rfl .nil) ?_
    exact ⟨by rw [hres]; rfl, hx, hB_r⟩
theorem rid_ok (r : Nat) (s : List UInt8) (bad : Bool) (w : World) (hB_r : w.heap[r]? = some (.cells #[.string (S s), .bool bad] 80 (0, 0))) (hs : s.length ≤ 9223372036854775807) :
    Fn Tryd.prog 81 #[.pointer (some ⟨r, 0, none⟩)] w (fun x w' => x = .agg ⟨idc (rdI s bad).1⟩ ∧ Fr [r] w w' ∧ w'.heap[r]? = some (.cells #[.string (S (rdI s bad).2.1), .bool (rdI s bad).2.2] 80 (0, 0))) := by
  have hx : Fr [r] w w := Fr.rfl' _ w
  refine enter (N := 9) (args := [.pointer (some ⟨r, 0, none⟩)]) Tryd.func81 rfl rfl rfl ?_
  intro a ha
  simp only [argEnv, Nat.zero_add, Nat.reduceAdd] at ha
  refine wseq ?_
  refine reg_list ?_
  refine lnew ha rfl (by kernel_rfl) ⟨idc idZ⟩ 24 (by kernel_rfl) ?_
  clear ha a; intro bo w1 he hb_bo hB_bo a ha
  have hne_r_bo : r ≠ bo := ne_new hB_r hb_bo
  replace hB_r := keepB he hB_r
  replace hb_bo := Nat.le_trans hx.size hb_bo
  replace hx := hx.ext he
  clear he
  refine lnil ?_
  replace ha := ha.sub (ρ' := [(0, .pointer (some ⟨r, 0, none⟩)), (2, .pointer (some ⟨bo, 0, none⟩))]) (by kernel_rfl)
  refine tn ?_
  refine wseq ?_
  refine reg_list ?_
  refine lnew ha rfl (by kernel_rfl) ⟨idc idZ⟩ 24 (by kernel_rfl) ?_
  clear ha a; intro bi w2 he hb_bi hB_bi a ha
  have hne_r_bi : r ≠ bi := ne_new hB_r hb_bi
  have hne_bo_bi : bo ≠ bi := ne_new hB_bo hb_bi
  replace hB_r := keepB he hB_r
  replace hB_bo := keepB he hB_bo
  replace hb_bi := Nat.le_trans hx.size hb_bi
  replace hx := hx.ext he
  clear he
  refine lnil ?_
  replace ha := ha.sub (ρ' := [(0, .pointer (some ⟨r, 0, none⟩)), (2, .pointer (some ⟨bo, 0, none⟩)), (3, .pointer (some ⟨bi, 0, none⟩))]) (by kernel_rfl)
  have hl32 := rdB_le s bad 32
  refine tn ?_
  refine wseq ?_
  refine regM hmix ha [(0, .raw)] [] [⟨2, .val (.string (S ((rdB s bad 32).1))), [], []⟩, ⟨3, .val (.int .i64 ((((rdB s bad 32).1).length : Nat) : Int)), [], []⟩] [] (ρ' := [(2, .pointer (some ⟨bo, 0, none⟩)), (3, .pointer (some ⟨bi, 0, none⟩))]) [] [fun w' => Ext w2 w', fun w' => w2.heap.size ≤ w'.heap.size ∧ Fr [r] w w' ∧ w'.heap[r]? = some (.cells #[.string (S ((rdB s bad 32).2.1)), .bool ((rdB s bad 32).2.2)] 80 (0, 0)) ∧ w'.heap[bo]? = some (.cells ⟨idc idZ⟩ 24 (0, 0)) ∧ w'.heap[bi]? = some (.cells ⟨idc idZ⟩ 24 (0, 0)), fun w' => w2.heap.size ≤ w'.heap.size ∧ Fr [r] w w' ∧ w'.heap[r]? = some (.cells #[.string (S ((rdB s bad 32).2.1)), .bool ((rdB s bad 32).2.2)] 80 (0, 0)) ∧ w'.heap[bo]? = some (.cells ⟨idc idZ⟩ 24 (0, 0)) ∧ w'.heap[bi]? = some (.cells ⟨idc (cpId idZ ((rdB s bad 32).1))⟩ 24 (0, 0))] [] (by kernel_rfl) (fun w' => by kernel_rfl) (fun w' => by kernel_rfl) (by kernel_rfl) (fun w' h => h) ?_ ?_ ?_ ?_ ?_ ?_
  · refine ⟨fun w1 w2 h e => Ext.tr h e, ?_, ?_, trivial⟩
    · rintro w1 w2 ⟨hsz, hx, hB_r, hB_bo, hB_bi⟩ he
      exact ⟨Nat.le_trans hsz he.size, hx.ext he, keepB he hB_r, keepB he hB_bo, keepB he hB_bi⟩
    · rintro w1 w2 ⟨hsz, hx, hB_r, hB_bo, hB_bi⟩ he
      exact ⟨Nat.le_trans hsz he.size, hx.ext he, keepB he hB_r, keepB he hB_bo, keepB he hB_bi⟩
  · trivial
  · trivial
  · trivial
  · refine ⟨?_, ?_, trivial⟩
    · intro w' hJ
      have hB_rS := hB_r
      have hB_boS := hB_bo
      have hB_biS := hB_bi
      have he : Ext w2 w' := hJ
      have hsz := he.size
      replace hx := hx.ext he
      replace hB_r := keepB he hB_r
      replace hB_bo := keepB he hB_bo
      replace hB_bi := keepB he hB_bi
      clear he
      refine ocall (f := .func 78) (args := #[.tmp 5, (.const (.int .i64 32))]) (ts := #[78, 3]) (g := 78) (first := #[]) (caps := #[]) (vs := #[.pointer (some ⟨r, 0, none⟩), .int .i64 32]) (by kernel_rfl) (by kernel_rfl) (by kernel_rfl) (by kernel_rfl) (rbytes_ok r s bad 32 w' hB_r (by omega)) ?_
      rintro _ w'' ⟨rfl, hfr, hB'⟩
      exact ⟨rfl, ⟨Nat.le_trans hsz hfr.size, hx.tr hfr (by simp), hB', hfr.keep hB_bo (fun x hx => by simp only [List.mem_singleton] at hx; subst hx; exact (by first | assumption | exact Ne.symm (by assumption))), hfr.keep hB_bi (fun x hx => by simp only [List.mem_singleton] at hx; subst hx; exact (by first | assumption | exact Ne.symm (by assumption)))⟩, trivial⟩
    · intro w' hJ
      have hB_rS := hB_r
      have hB_boS := hB_bo
      have hB_biS := hB_bi
      obtain ⟨hsz, hx, hB_r, hB_bo, hB_bi⟩ := hJ
      refine ocopyId (s := .tmp 4) (q := .tmp 6) (dT := 63) (sT := 9) (x := idZ) (l := (rdB s bad 32).1) (c := 32) (by kernel_rfl) (by kernel_rfl) (by kernel_rfl) (by kernel_rfl) hB_bi (by omega) ?_
      intro w'' hc
      exact ⟨rfl, ⟨Nat.le_trans hsz hc.size, hx.chg hc (.inr hb_bi), hc.keep hB_r (by first | assumption | exact Ne.symm (by assumption)), hc.keep hB_bo (by first | assumption | exact Ne.symm (by assumption)), hc.at_⟩, trivial⟩
  · clear ha a; intro a w3 hJ ha
    clear hx hB_r hB_bo hB_bi
    obtain ⟨hsz, hx, hB_r, hB_bo, hB_bi⟩ := hJ
    clear hsz
    rw [cp_rdB] at hB_bi
    refine tn ?_
    refine wseq ?_
    refine reg_list ?_
    refine segp (ρ' := [(2, .pointer (some ⟨bo, 0, none⟩)), (8, .agg ⟨idc ((rdI s bad).1)⟩)]) (C := [RunOk Tryd.prog w3 (Instr.loadAt 24 (.pointer (some ⟨bi, 0, none⟩))) (.agg ⟨idc ((rdI s bad).1)⟩)]) ha 1 [(0, .val (.agg ⟨idc ((rdI s bad).1)⟩))] rfl (by kernel_rfl) (.cons (ldN (n := 32) hB_bi (by kernel_rfl) (by kernel_rfl) ⟨Nat.le_of_ble_eq_true (by kernel_rfl), (by kernel_rfl)⟩) .nil) ?_
    clear ha a; intro a ha
    refine lstore (off := 0) ha rfl rfl (by kernel_rfl) hB_bo ⟨idc ((rdI s bad).1)⟩ rfl (by kernel_rfl) (by kernel_rfl) ?_
    clear ha a; intro w4 hc a ha
    replace hB_r := hc.keep hB_r (by first | assumption | exact Ne.symm (by assumption))
    replace hB_bi := hc.keep hB_bi (by first | assumption | exact Ne.symm (by assumption))
    replace hx := hx.chg hc (.inr hb_bo)
    replace hB_bo := hc.at_; clear hc
    refine lnil ?_
    replace ha := ha.sub (ρ' := [(2, .pointer (some ⟨bo, 0, none⟩))]) (by kernel_rfl)
    refine tn ?_
    refine wret ?_
    refine fin ha (.cell rfl (ldVN (n := 32) (vs := ⟨idc ((rdI s bad).1)⟩) hB_bo (by kernel_rfl) (by kernel_rfl) ⟨Nat.le_of_ble_eq_true (by kernel_rfl), (by kernel_rfl)⟩) .nil) ?_
    exact ⟨rfl, hx, hB_r⟩
end Go.Kn
end
