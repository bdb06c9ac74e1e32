import Derived.Test.YtihmegmambmljaaPlainH
import Derived.Test.YtihmegmambmljaaSh
set_option linter.unusedSimpArgs false
set_option linter.unusedVariables false
set_option maxRecDepth 100000
namespace Go.Kn
open Go.Proofs
theorem obody_ok (o : ObjL) (Ae Ap : Option Addr) (ce cp : Nat) (w : World) (hoe : Rd w 34 Ae o.Entries.length (o.Entries.flatMap encEnt)) (hop : Rd w 32 Ap o.Parents.length (o.Parents.flatMap idc)) (hok : ObjOk o) (hfw : FewOk o) :
    Fn Try.prog 33 #[.agg ⟨objC o Ae ce Ap cp⟩] w (fun x w' => x = .string (S (oBody o)) ∧ Ext w w') := by
  have hx : Ext w w := Ext.rfl' w
  refine enter (N := 79) (args := [.agg ⟨objC o Ae ce Ap cp⟩]) Try.func33 rfl rfl rfl ?_
  intro a ha
  simp only [argEnv, Nat.zero_add, Nat.reduceAdd] at ha
  refine wseq ?_
  refine reg_list ?_
  refine lnew ha rfl (by kernel_rfl) ⟨objC o Ae ce Ap cp⟩ 44 (by kernel_rfl) ?_
  clear ha a; intro bo w1 he hb_bo hB_bo a ha
  replace hb_bo := Nat.le_trans hx.size hb_bo
  replace hx := hx.tr he
  clear he
  refine segp (ρ' := [(1, .pointer (some ⟨bo, 0, none⟩))]) (C := []) ha 1 [] rfl (by kernel_rfl) .nil ?_
  clear ha a; intro a ha
  refine lnil ?_
  replace ha := ha.sub (ρ' := [(1, .pointer (some ⟨bo, 0, none⟩))]) (by kernel_rfl)
  refine tn ?_
  refine wseq ?_
  refine reg_list ?_
  refine lnew ha rfl (by kernel_rfl) #[.pointer none, .slice none 0 0] 91 (by kernel_rfl) ?_
  clear ha a; intro bb w2 he hb_bb hB_bb a ha
  have hne_bo_bb : bo ≠ bb := ne_new hB_bo hb_bb
  replace hB_bo := keepB he hB_bo
  replace hb_bb := Nat.le_trans hx.size hb_bb
  replace hx := hx.tr he
  clear he
  refine lnil ?_
  replace ha := ha.sub (ρ' := [(1, .pointer (some ⟨bo, 0, none⟩)), (3, .pointer (some ⟨bb, 0, none⟩))]) (by kernel_rfl)
  have hbd : Bd 91 w2 w.heap.size bb [] := bd_new (fz := (0, 0)) hb_bb hB_bb
  clear hB_bb
  refine tn ?_
  refine wseq ?_
  refine wseq ?_
  refine regp (ρ' := [(1, .pointer (some ⟨bo, 0, none⟩)), (3, .pointer (some ⟨bb, 0, none⟩)), (9, .int .i64 o.Kind)]) (C := [RunOk Try.prog w2 (Instr.loadAt 3 (.pointer (some ⟨bo, 0, none⟩))) (.int .i64 o.Kind)]) ha [(1, .val (.int .i64 o.Kind))] (by kernel_rfl) (.cons (ld1 hB_bo (by kernel_rfl) (by kernel_rfl)) .nil) ?_
  clear ha a; intro a ha
  have fe := hfw.e
  have fp := hfw.p
  have ft := hfw.t
  have fn := hfw.n
  have htm := hok.time
  refine tn ?_
  refine wblk ?_
  refine wseq ?_
  refine regp (ρ' := [(1, .pointer (some ⟨bo, 0, none⟩)), (3, .pointer (some ⟨bb, 0, none⟩)), (9, .int .i64 o.Kind), (10, .bool (decide ((o.Kind : Int) = 1)))]) (C := []) ha [] (by kernel_rfl) .nil ?_
  clear ha a; intro a ha
  refine tn ?_
  refine wif ha rfl (fun h10 => ?_) (fun h10 => ?_)
  · replace h10 := of_decide_eq_true h10
    refine wseq ?_
    refine regp (ρ' := [(2, .string (S o.Data))]) (C := [RunOk Try.prog w2 (Instr.loadAt 9 (.pointer (some ⟨bo, 1, none⟩))) (.string (S o.Data))]) ha [(1, .val (.string (S o.Data)))] (by kernel_rfl) (.cons (ld1 hB_bo (by kernel_rfl) (by kernel_rfl)) .nil) ?_
    clear ha a; intro a ha
    refine tn ?_
    refine wret ?_
    refine (br (tr ?_))
    refine fin ha (.tmp rfl .nil) ?_
    refine ⟨congrArg (fun q => Value.string (S q)) ?_, hx⟩
    first | (unfold oBody; simp [*]; done) | (obtain rfl : i = o.Entries.length := (by omega); unfold oBody; simp [*]; done) | (obtain rfl : i = o.Parents.length := (by omega); unfold oBody; simp [*]; done)
  · replace h10 := of_decide_eq_false h10
    refine wseq ?_
    refine regp (ρ' := [(1, .pointer (some ⟨bo, 0, none⟩)), (3, .pointer (some ⟨bb, 0, none⟩)), (9, .int .i64 o.Kind), (14, .bool (decide ((o.Kind : Int) = 2)))]) (C := []) ha [] (by kernel_rfl) .nil ?_
    clear ha a; intro a ha
    refine tn ?_
    refine wif ha rfl (fun h14 => ?_) (fun h14 => ?_)
    · replace h14 := of_decide_eq_true h14
      refine wseq ?_
      refine regp (ρ' := [(3, .pointer (some ⟨bb, 0, none⟩)), (17, .slice Ae o.Entries.length ce), (18, .int .i64 ((o.Entries.length : Nat) : Int)), (19, .int .i64 0)]) (C := [RunOk Try.prog w2 (Instr.loadAt 38 (.pointer (some ⟨bo, 2, none⟩))) (.slice Ae o.Entries.length ce)]) ha [(1, .val (.slice Ae o.Entries.length ce))] (by kernel_rfl) (.cons (ld1 hB_bo (by kernel_rfl) (by kernel_rfl)) .nil) ?_
      clear ha a; intro a ha
      refine tn ?_
      refine wblk ?_
      refine wloop (fun zz a w3 => ∃ (i : Nat), zz = o.Entries.length - i ∧ On 79 [(3, .pointer (some ⟨bb, 0, none⟩)), (17, .slice Ae o.Entries.length ce), (18, .int .i64 ((o.Entries.length : Nat) : Int)), (19, .int .i64 ((i : Nat) : Int))] a ∧ Ext w w3 ∧ w3.heap[bo]? = some (.cells ⟨objC o Ae ce Ap cp⟩ 44 (0, 0)) ∧ Bd 91 w3 w.heap.size bb (oEnts o i) ∧ (i ≤ o.Entries.length)) _ ⟨0, rfl, ha.sub (ρ' := [(3, .pointer (some ⟨bb, 0, none⟩)), (17, .slice Ae o.Entries.length ce), (18, .int .i64 ((o.Entries.length : Nat) : Int)), (19, .int .i64 ((0 : Nat) : Int))]) (by kernel_rfl), hx, hB_bo, hbd, by omega⟩ ?_
      clear ha hx hB_bo hbd
      rintro zz a w4 ⟨i, hzz, ha, hx, hB_bo, hbd, hi⟩
      refine wseq ?_
      refine regp (ρ' := [(3, .pointer (some ⟨bb, 0, none⟩)), (17, .slice Ae o.Entries.length ce), (18, .int .i64 ((o.Entries.length : Nat) : Int)), (19, .int .i64 ((i : Nat) : Int)), (20, .bool (decide (((i : Nat) : Int) < ((o.Entries.length : Nat) : Int))))]) (C := []) ha [] (by kernel_rfl) .nil ?_
      clear ha a; intro a ha
      refine tn ?_
      refine wseq ?_
      refine wif ha rfl (fun h20 => ?_) (fun h20 => ?_)
      · replace h20 := of_decide_eq_true h20
        have hil : i < o.Entries.length := by omega
        have hl1 := oEnts_len hfw i hi
        have hl2 := hfw.en i hil
        have hl3 := vtext_len (o.Entries.getD i default).Name
        have hl5 : (oneB8 (o.Entries.getD i default).Kind).length = 1 := rfl
        refine wskip ?_
        refine tn ?_
        refine wseq ?_
        refine wblk ?_
        refine wseq ?_
        refine reg_list ?_
        refine segp (ρ' := [(3, .pointer (some ⟨bb, 0, none⟩)), (17, .slice Ae o.Entries.length ce), (18, .int .i64 ((o.Entries.length : Nat) : Int)), (19, .int .i64 ((i : Nat) : Int)), (22, .agg ⟨encEnt (o.Entries.getD i default)⟩)]) (C := [RunOk Try.prog w4 (Instr.indexAt 38 (.slice Ae o.Entries.length ce) (.int .i64 ((i : Nat) : Int))) (.pointer (some ⟨ab Ae, ao Ae + i * 34, none⟩)), RunOk Try.prog w4 (Instr.loadAt 70 (.pointer (some ⟨ab Ae, ao Ae + i * 34, none⟩))) (.agg ⟨encEnt (o.Entries.getD i default)⟩)]) ha 2 [(0, .val (.pointer (some ⟨ab Ae, ao Ae + i * 34, none⟩))), (1, .val (.agg ⟨encEnt (o.Entries.getD i default)⟩))] rfl (by kernel_rfl) (.cons (ixRd (e := 70) (by kernel_rfl) (by kernel_rfl) (rdE hx hoe) (by omega)) (.cons (ldRdN (vs := encEnt (o.Entries.getD i default)) (j := i * 34) (by kernel_rfl) (by kernel_rfl) (rdE hx hoe) (by omega) (flat_seg encEnt_len o.Entries default i (by omega))) .nil)) ?_
        clear ha a; intro a ha
        refine lnew ha rfl (by kernel_rfl) ⟨.string (S []) :: (.int .i64 0 :: (idc idZ))⟩ 70 (by kernel_rfl) ?_
        clear ha a; intro be w5 he hb_be hB_be a ha
        have hne_bo_be : bo ≠ be := ne_new hB_bo hb_be
        have hne_be_bb : be ≠ bb := bd_ne hbd hb_be
        replace hB_bo := keepB he hB_bo
        replace hbd := bdE he hbd
        replace hb_be := Nat.le_trans hx.size hb_be
        replace hx := hx.tr he
        clear he
        refine lstore (off := 0) ha rfl rfl (by kernel_rfl) hB_be ⟨encEnt (o.Entries.getD i default)⟩ rfl (by kernel_rfl) (by kernel_rfl) ?_
        clear ha a; intro w6 hc a ha
        replace hB_bo := hc.keep hB_bo (by first | assumption | exact Ne.symm (by assumption))
        replace hbd := bdC hc hB_be rfl rfl hbd
        replace hx := hc.ext hx hb_be
        replace hB_be := hc.at_; clear hc
        refine lnil ?_
        replace ha := ha.sub (ρ' := [(3, .pointer (some ⟨bb, 0, none⟩)), (5, .pointer (some ⟨be, 0, none⟩)), (17, .slice Ae o.Entries.length ce), (18, .int .i64 ((o.Entries.length : Nat) : Int)), (19, .int .i64 ((i : Nat) : Int))]) (by kernel_rfl)
        refine tn ?_
        refine wseq ?_
        refine reg_list ?_
        refine segp (ρ' := [(3, .pointer (some ⟨bb, 0, none⟩)), (5, .pointer (some ⟨be, 0, none⟩)), (17, .slice Ae o.Entries.length ce), (18, .int .i64 ((o.Entries.length : Nat) : Int)), (19, .int .i64 ((i : Nat) : Int)), (25, .int .u8 (((o.Entries.getD i default).Kind) % 256))]) (C := [RunOk Try.prog w6 (Instr.loadAt 3 (.pointer (some ⟨be, 1, none⟩))) (.int .i64 ((o.Entries.getD i default).Kind))]) ha 3 [(1, .val (.int .i64 ((o.Entries.getD i default).Kind))), (2, .mod)] rfl (by kernel_rfl) (.cons (ld1 hB_be (by kernel_rfl) (by kernel_rfl)) .nil) ?_
        clear ha a; intro a ha
        refine lcall (vs := #[.pointer (some ⟨bb, 0, none⟩), .int .u8 (((o.Entries.getD i default).Kind) % 256)]) ha rfl (by kernel_rfl) rfl rfl (by kernel_rfl) (by kernel_rfl) (wbI_ok _ _ (oEnts o i) (((o.Entries.getD i default).Kind) % 256) (by omega) (by omega) _ hx.size (by first | omega | (simp only [List.length_append, List.length_nil]; omega)) hbd) ?_
        clear ha a; rintro _ w7 ⟨rfl, hbd', hoth⟩ a ha
        replace hB_bo := hoth.cells hB_bo (by first | assumption | exact Ne.symm (by assumption)) rfl
        replace hB_be := hoth.cells hB_be (by first | assumption | exact Ne.symm (by assumption)) rfl
        replace hx := hoth.toExt hx (Nat.le_refl _)
        replace hbd := hbd'; clear hbd' hoth
        refine lnil ?_
        replace ha := ha.sub (ρ' := [(3, .pointer (some ⟨bb, 0, none⟩)), (5, .pointer (some ⟨be, 0, none⟩)), (17, .slice Ae o.Entries.length ce), (18, .int .i64 ((o.Entries.length : Nat) : Int)), (19, .int .i64 ((i : Nat) : Int))]) (by kernel_rfl)
        refine tn ?_
        refine wseq ?_
        refine reg_list ?_
        refine seg (ρ' := [(3, .pointer (some ⟨bb, 0, none⟩)), (5, .pointer (some ⟨be, 0, none⟩)), (17, .slice Ae o.Entries.length ce), (18, .int .i64 ((o.Entries.length : Nat) : Int)), (19, .int .i64 ((i : Nat) : Int)), (29, .string (S (vtext ((o.Entries.getD i default).Name))))]) (C := [RunOk Try.prog w7 (Instr.loadAt 9 (.pointer (some ⟨be, 0, none⟩))) (.string (S ((o.Entries.getD i default).Name))), CallOk Try.prog w7 32 #[.string (S ((o.Entries.getD i default).Name))] (.string (S (vtext ((o.Entries.getD i default).Name))))]) ha 3 [(1, .val (.string (S ((o.Entries.getD i default).Name)))), (2, .val (.string (S (vtext ((o.Entries.getD i default).Name)))))] (by kernel_rfl) (.cons (ld1 hB_be (by kernel_rfl) (by kernel_rfl)) (.cons (fun w _ => text_ok _ w (by omega)) .nil)) ?_
        clear ha a; intro a w8 ha he
        replace hx := hx.tr he
        replace hB_bo := keepB he hB_bo
        replace hB_be := keepB he hB_be
        replace hbd := bdE he hbd
        clear he
        refine lcall (vs := #[.pointer (some ⟨bb, 0, none⟩), .string (S (vtext ((o.Entries.getD i default).Name)))]) ha rfl (by kernel_rfl) rfl rfl (by kernel_rfl) (by kernel_rfl) (ws_ok _ _ ((oEnts o i) ++ oneB8 ((o.Entries.getD i default).Kind)) (vtext ((o.Entries.getD i default).Name)) (by first | omega | (simp only [List.length_append, List.length_nil]; omega)) _ hx.size (by first | omega | (simp only [List.length_append, List.length_nil]; omega)) hbd) ?_
        clear ha a; rintro _ w9 ⟨rfl, hbd', hoth⟩ a ha
        replace hB_bo := hoth.cells hB_bo (by first | assumption | exact Ne.symm (by assumption)) rfl
        replace hB_be := hoth.cells hB_be (by first | assumption | exact Ne.symm (by assumption)) rfl
        replace hx := hoth.toExt hx (Nat.le_refl _)
        replace hbd := hbd'; clear hbd' hoth
        refine lnil ?_
        replace ha := ha.sub (ρ' := [(3, .pointer (some ⟨bb, 0, none⟩)), (5, .pointer (some ⟨be, 0, none⟩)), (17, .slice Ae o.Entries.length ce), (18, .int .i64 ((o.Entries.length : Nat) : Int)), (19, .int .i64 ((i : Nat) : Int))]) (by kernel_rfl)
        refine tn ?_
        refine reg_list ?_
        refine segp (ρ' := [(3, .pointer (some ⟨bb, 0, none⟩)), (17, .slice Ae o.Entries.length ce), (18, .int .i64 ((o.Entries.length : Nat) : Int)), (19, .int .i64 ((i : Nat) : Int)), (32, .slice (some ⟨be, 2, none⟩) 32 32)]) (C := []) ha 2 [(1, .raw)] rfl (by kernel_rfl) .nil ?_
        clear ha a; intro a ha
        refine lcall (vs := #[.pointer (some ⟨bb, 0, none⟩), .slice (some ⟨be, 2, none⟩) 32 32]) ha rfl (by kernel_rfl) rfl rfl (by kernel_rfl) (by kernel_rfl) (wrId_ok _ _ (((oEnts o i) ++ oneB8 ((o.Entries.getD i default).Kind)) ++ (vtext ((o.Entries.getD i default).Name))) _ 2 32 _ _ _ ((o.Entries.getD i default).I) (by first | omega | (simp only [List.length_append, List.length_nil]; omega)) _ hB_be (by first | assumption | exact Ne.symm (by assumption)) rfl (by kernel_rfl) hx.size hbd) ?_
        clear ha a; rintro _ w10 ⟨rfl, hbd', hoth⟩ a ha
        replace hB_bo := hoth.cells hB_bo (by first | assumption | exact Ne.symm (by assumption)) rfl
        replace hB_be := hoth.cells hB_be (by first | assumption | exact Ne.symm (by assumption)) rfl
        replace hx := hoth.toExt hx (Nat.le_refl _)
        replace hbd := hbd'; clear hbd' hoth
        refine lnil ?_
        replace ha := ha.sub (ρ' := [(3, .pointer (some ⟨bb, 0, none⟩)), (17, .slice Ae o.Entries.length ce), (18, .int .i64 ((o.Entries.length : Nat) : Int)), (19, .int .i64 ((i : Nat) : Int))]) (by kernel_rfl)
        refine bn ?_
        refine tn ?_
        refine regp (ρ' := [(3, .pointer (some ⟨bb, 0, none⟩)), (17, .slice Ae o.Entries.length ce), (18, .int .i64 ((o.Entries.length : Nat) : Int)), (19, .int .i64 ((i + 1 : Nat) : Int))]) (C := [InR .i64 ((i + 1 : Nat) : Int)]) ha [] (by kernel_rfl) (.cons (by unfold InR; omega) .nil) ?_
        clear ha a; intro a ha
        exact tn ⟨o.Entries.length - ((i + 1)), by omega, (i + 1), rfl, ha.sub (ρ' := [(3, .pointer (some ⟨bb, 0, none⟩)), (17, .slice Ae o.Entries.length ce), (18, .int .i64 ((o.Entries.length : Nat) : Int)), (19, .int .i64 (((i + 1) : Nat) : Int))]) (by kernel_rfl), hx, hB_bo, (by rw [oEnts_succ o i hil]; exact hbd), by omega⟩
      · replace h20 := of_decide_eq_false h20
        refine wexit ?_
        refine (te (te (be ?_)))
        refine bn ?_
        refine tn ?_
        refine wseq ?_
        refine reg_list ?_
        refine lcall (vs := #[.pointer (some ⟨bb, 0, none⟩)]) ha rfl (by kernel_rfl) rfl rfl (by kernel_rfl) (by kernel_rfl) (bstr_ok _ _ _ _ hx.size hbd) ?_
        clear ha a; rintro _ w11 ⟨rfl, hbl⟩ a ha
        replace hx : Ext w w11 := Ext.below hx hbl
        clear hbl hbd hB_bo
        refine segp (ρ' := [(2, .string (S (oEnts o i)))]) (C := []) ha 1 [] rfl (by kernel_rfl) .nil ?_
        clear ha a; intro a ha
        refine lnil ?_
        replace ha := ha.sub (ρ' := [(2, .string (S (oEnts o i)))]) (by kernel_rfl)
        refine tn ?_
        refine wret ?_
        refine fin ha (.tmp rfl .nil) ?_
        refine ⟨congrArg (fun q => Value.string (S q)) ?_, hx⟩
        first | (unfold oBody; simp [*]; done) | (obtain rfl : i = o.Entries.length := (by omega); unfold oBody; simp [*]; done) | (obtain rfl : i = o.Parents.length := (by omega); unfold oBody; simp [*]; done)
    · replace h14 := of_decide_eq_false h14
      refine wseq ?_
      refine regp (ρ' := [(1, .pointer (some ⟨bo, 0, none⟩)), (3, .pointer (some ⟨bb, 0, none⟩)), (9, .int .i64 o.Kind), (35, .bool (decide ((o.Kind : Int) = 3)))]) (C := []) ha [] (by kernel_rfl) .nil ?_
      clear ha a; intro a ha
      refine tn ?_
      refine wif ha rfl (fun h35 => ?_) (fun h35 => ?_)
      · replace h35 := of_decide_eq_true h35
        refine wseq ?_
        have hl4 := o.Tree.h
        have hv1 := vput_len o.Parents.length
        refine reg_list ?_
        refine segp (ρ' := [(1, .pointer (some ⟨bo, 0, none⟩)), (3, .pointer (some ⟨bb, 0, none⟩)), (38, .slice (some ⟨bo, 3, none⟩) 32 32)]) (C := []) ha 2 [(1, .raw)] rfl (by kernel_rfl) .nil ?_
        clear ha a; intro a ha
        refine lcall (vs := #[.pointer (some ⟨bb, 0, none⟩), .slice (some ⟨bo, 3, none⟩) 32 32]) ha rfl (by kernel_rfl) rfl rfl (by kernel_rfl) (by kernel_rfl) (wrId_ok _ _ [] _ 3 32 _ _ _ o.Tree (by first | omega | (simp only [List.length_append, List.length_nil]; omega)) _ hB_bo (by first | assumption | exact Ne.symm (by assumption)) rfl (by kernel_rfl) hx.size hbd) ?_
        clear ha a; rintro _ w12 ⟨rfl, hbd', hoth⟩ a ha
        replace hB_bo := hoth.cells hB_bo (by first | assumption | exact Ne.symm (by assumption)) rfl
        replace hx := hoth.toExt hx (Nat.le_refl _)
        replace hbd := hbd'; clear hbd' hoth
        refine lnil ?_
        replace ha := ha.sub (ρ' := [(1, .pointer (some ⟨bo, 0, none⟩)), (3, .pointer (some ⟨bb, 0, none⟩))]) (by kernel_rfl)
        refine tn ?_
        refine wseq ?_
        refine reg_list ?_
        refine seg (ρ' := [(1, .pointer (some ⟨bo, 0, none⟩)), (3, .pointer (some ⟨bb, 0, none⟩)), (44, .string (S (vput o.Parents.length)))]) (C := [RunOk Try.prog w12 (Instr.loadAt 41 (.pointer (some ⟨bo, 35, none⟩))) (.slice Ap o.Parents.length cp), InR .u64 ((o.Parents.length : Nat) : Int), CallOk Try.prog w12 30 #[.int .u64 ((o.Parents.length : Nat) : Int)] (.string (S (vput o.Parents.length)))]) ha 5 [(1, .val (.slice Ap o.Parents.length cp)), (4, .val (.string (S (vput o.Parents.length))))] (by kernel_rfl) (.cons (ld1 hB_bo (by kernel_rfl) (by kernel_rfl)) (.cons (by unfold InR; omega) (.cons (fun w _ => put_ok _ w (by first | omega | (have := vget_lt; omega))) .nil))) ?_
        clear ha a; intro a w13 ha he
        replace hx := hx.tr he
        replace hB_bo := keepB he hB_bo
        replace hbd := bdE he hbd
        clear he
        refine lcall (vs := #[.pointer (some ⟨bb, 0, none⟩), .string (S (vput o.Parents.length))]) ha rfl (by kernel_rfl) rfl rfl (by kernel_rfl) (by kernel_rfl) (ws_ok _ _ ([] ++ o.Tree.l) (vput o.Parents.length) (by first | omega | (simp only [List.length_append, List.length_nil]; omega)) _ hx.size (by first | omega | (simp only [List.length_append, List.length_nil]; omega)) hbd) ?_
        clear ha a; rintro _ w14 ⟨rfl, hbd', hoth⟩ a ha
        replace hB_bo := hoth.cells hB_bo (by first | assumption | exact Ne.symm (by assumption)) rfl
        replace hx := hoth.toExt hx (Nat.le_refl _)
        replace hbd := hbd'; clear hbd' hoth
        refine lnil ?_
        replace ha := ha.sub (ρ' := [(1, .pointer (some ⟨bo, 0, none⟩)), (3, .pointer (some ⟨bb, 0, none⟩))]) (by kernel_rfl)
        refine tn ?_
        refine wseq ?_
        refine wseq ?_
        refine regp (ρ' := [(1, .pointer (some ⟨bo, 0, none⟩)), (3, .pointer (some ⟨bb, 0, none⟩)), (47, .slice Ap o.Parents.length cp), (48, .int .i64 ((o.Parents.length : Nat) : Int)), (49, .int .i64 0)]) (C := [RunOk Try.prog w14 (Instr.loadAt 41 (.pointer (some ⟨bo, 35, none⟩))) (.slice Ap o.Parents.length cp)]) ha [(1, .val (.slice Ap o.Parents.length cp))] (by kernel_rfl) (.cons (ld1 hB_bo (by kernel_rfl) (by kernel_rfl)) .nil) ?_
        clear ha a; intro a ha
        refine tn ?_
        refine wblk ?_
        refine wloop (fun zz a w15 => ∃ (i : Nat), zz = o.Parents.length - i ∧ On 79 [(1, .pointer (some ⟨bo, 0, none⟩)), (3, .pointer (some ⟨bb, 0, none⟩)), (47, .slice Ap o.Parents.length cp), (48, .int .i64 ((o.Parents.length : Nat) : Int)), (49, .int .i64 ((i : Nat) : Int))] a ∧ Ext w w15 ∧ w15.heap[bo]? = some (.cells ⟨objC o Ae ce Ap cp⟩ 44 (0, 0)) ∧ Bd 91 w15 w.heap.size bb (oPars o i) ∧ (i ≤ o.Parents.length)) _ ⟨0, rfl, ha.sub (ρ' := [(1, .pointer (some ⟨bo, 0, none⟩)), (3, .pointer (some ⟨bb, 0, none⟩)), (47, .slice Ap o.Parents.length cp), (48, .int .i64 ((o.Parents.length : Nat) : Int)), (49, .int .i64 ((0 : Nat) : Int))]) (by kernel_rfl), hx, hB_bo, (by simpa [oPars] using hbd), by omega⟩ ?_
        clear ha hx hB_bo hbd
        rintro zz a w16 ⟨i, hzz, ha, hx, hB_bo, hbd, hi2⟩
        refine wseq ?_
        refine regp (ρ' := [(1, .pointer (some ⟨bo, 0, none⟩)), (3, .pointer (some ⟨bb, 0, none⟩)), (47, .slice Ap o.Parents.length cp), (48, .int .i64 ((o.Parents.length : Nat) : Int)), (49, .int .i64 ((i : Nat) : Int)), (50, .bool (decide (((i : Nat) : Int) < ((o.Parents.length : Nat) : Int))))]) (C := []) ha [] (by kernel_rfl) .nil ?_
        clear ha a; intro a ha
        refine tn ?_
        refine wseq ?_
        refine wif ha rfl (fun h50 => ?_) (fun h50 => ?_)
        · replace h50 := of_decide_eq_true h50
          have hil : i < o.Parents.length := by omega
          have hp1 := oPars_len hfw i hi2
          have hl7 := (o.Parents.getD i default).h
          refine wskip ?_
          refine tn ?_
          refine wseq ?_
          refine wblk ?_
          refine wseq ?_
          refine reg_list ?_
          refine segp (ρ' := [(1, .pointer (some ⟨bo, 0, none⟩)), (3, .pointer (some ⟨bb, 0, none⟩)), (47, .slice Ap o.Parents.length cp), (48, .int .i64 ((o.Parents.length : Nat) : Int)), (49, .int .i64 ((i : Nat) : Int)), (52, .agg ⟨idc (o.Parents.getD i default)⟩)]) (C := [RunOk Try.prog w16 (Instr.indexAt 41 (.slice Ap o.Parents.length cp) (.int .i64 ((i : Nat) : Int))) (.pointer (some ⟨ab Ap, ao Ap + i * 32, none⟩)), RunOk Try.prog w16 (Instr.loadAt 40 (.pointer (some ⟨ab Ap, ao Ap + i * 32, none⟩))) (.agg ⟨idc (o.Parents.getD i default)⟩)]) ha 2 [(0, .val (.pointer (some ⟨ab Ap, ao Ap + i * 32, none⟩))), (1, .val (.agg ⟨idc (o.Parents.getD i default)⟩))] rfl (by kernel_rfl) (.cons (ixRd (e := 40) (by kernel_rfl) (by kernel_rfl) (rdE hx hop) (by omega)) (.cons (ldRdN (vs := idc (o.Parents.getD i default)) (j := i * 32) (by kernel_rfl) (by kernel_rfl) (rdE hx hop) (by omega) (flat_seg idc_len o.Parents default i (by omega))) .nil)) ?_
          clear ha a; intro a ha
          refine lnew ha rfl (by kernel_rfl) ⟨idc idZ⟩ 40 (by kernel_rfl) ?_
          clear ha a; intro bi w17 he hb_bi hB_bi a ha
          have hne_bo_bi : bo ≠ bi := ne_new hB_bo hb_bi
          have hne_bi_bb : bi ≠ bb := bd_ne hbd hb_bi
          replace hB_bo := keepB he hB_bo
          replace hbd := bdE he hbd
          replace hb_bi := Nat.le_trans hx.size hb_bi
          replace hx := hx.tr he
          clear he
          refine lstore (off := 0) ha rfl rfl (by kernel_rfl) hB_bi ⟨idc (o.Parents.getD i default)⟩ rfl (by kernel_rfl) (by kernel_rfl) ?_
          clear ha a; intro w18 hc a ha
          replace hB_bo := hc.keep hB_bo (by first | assumption | exact Ne.symm (by assumption))
          replace hbd := bdC hc hB_bi rfl rfl hbd
          replace hx := hc.ext hx hb_bi
          replace hB_bi := hc.at_; clear hc
          refine lnil ?_
          replace ha := ha.sub (ρ' := [(1, .pointer (some ⟨bo, 0, none⟩)), (3, .pointer (some ⟨bb, 0, none⟩)), (7, .pointer (some ⟨bi, 0, none⟩)), (47, .slice Ap o.Parents.length cp), (48, .int .i64 ((o.Parents.length : Nat) : Int)), (49, .int .i64 ((i : Nat) : Int))]) (by kernel_rfl)
          refine tn ?_
          refine reg_list ?_
          refine segp (ρ' := [(1, .pointer (some ⟨bo, 0, none⟩)), (3, .pointer (some ⟨bb, 0, none⟩)), (47, .slice Ap o.Parents.length cp), (48, .int .i64 ((o.Parents.length : Nat) : Int)), (49, .int .i64 ((i : Nat) : Int)), (53, .slice (some ⟨bi, 0, none⟩) 32 32)]) (C := []) ha 1 [(0, .raw)] rfl (by kernel_rfl) .nil ?_
          clear ha a; intro a ha
          refine lcall (vs := #[.pointer (some ⟨bb, 0, none⟩), .slice (some ⟨bi, 0, none⟩) 32 32]) ha rfl (by kernel_rfl) rfl rfl (by kernel_rfl) (by kernel_rfl) (wrId_ok _ _ (oPars o i) _ 0 32 _ _ _ (o.Parents.getD i default) (by first | omega | (simp only [List.length_append, List.length_nil]; omega)) _ hB_bi (by first | assumption | exact Ne.symm (by assumption)) rfl (by kernel_rfl) hx.size hbd) ?_
          clear ha a; rintro _ w19 ⟨rfl, hbd', hoth⟩ a ha
          replace hB_bo := hoth.cells hB_bo (by first | assumption | exact Ne.symm (by assumption)) rfl
          replace hB_bi := hoth.cells hB_bi (by first | assumption | exact Ne.symm (by assumption)) rfl
          replace hx := hoth.toExt hx (Nat.le_refl _)
          replace hbd := hbd'; clear hbd' hoth
          refine lnil ?_
          replace ha := ha.sub (ρ' := [(1, .pointer (some ⟨bo, 0, none⟩)), (3, .pointer (some ⟨bb, 0, none⟩)), (47, .slice Ap o.Parents.length cp), (48, .int .i64 ((o.Parents.length : Nat) : Int)), (49, .int .i64 ((i : Nat) : Int))]) (by kernel_rfl)
          refine bn ?_
          refine tn ?_
          refine regp (ρ' := [(1, .pointer (some ⟨bo, 0, none⟩)), (3, .pointer (some ⟨bb, 0, none⟩)), (47, .slice Ap o.Parents.length cp), (48, .int .i64 ((o.Parents.length : Nat) : Int)), (49, .int .i64 ((i + 1 : Nat) : Int))]) (C := [InR .i64 ((i + 1 : Nat) : Int)]) ha [] (by kernel_rfl) (.cons (by unfold InR; omega) .nil) ?_
          clear ha a; intro a ha
          exact tn ⟨o.Parents.length - ((i + 1)), by omega, (i + 1), rfl, ha.sub (ρ' := [(1, .pointer (some ⟨bo, 0, none⟩)), (3, .pointer (some ⟨bb, 0, none⟩)), (47, .slice Ap o.Parents.length cp), (48, .int .i64 ((o.Parents.length : Nat) : Int)), (49, .int .i64 (((i + 1) : Nat) : Int))]) (by kernel_rfl), hx, hB_bo, (by rw [oPars_succ o i hil]; exact hbd), by omega⟩
        · replace h50 := of_decide_eq_false h50
          have hp2 := oPars_len hfw i hi2
          have hv2 := vput_len o.Time
          have hv3 := vtext_len o.Text
          refine wexit ?_
          refine (te (te (be ?_)))
          refine tn ?_
          refine wseq ?_
          refine reg_list ?_
          refine seg (ρ' := [(1, .pointer (some ⟨bo, 0, none⟩)), (3, .pointer (some ⟨bb, 0, none⟩)), (59, .string (S (vput o.Time)))]) (C := [RunOk Try.prog w16 (Instr.loadAt 42 (.pointer (some ⟨bo, 36, none⟩))) (.int .u32 ((o.Time : Nat) : Int)), InR .u64 ((o.Time : Nat) : Int), CallOk Try.prog w16 30 #[.int .u64 ((o.Time : Nat) : Int)] (.string (S (vput o.Time)))]) ha 4 [(1, .val (.int .u32 ((o.Time : Nat) : Int))), (3, .val (.string (S (vput o.Time))))] (by kernel_rfl) (.cons (ld1 hB_bo (by kernel_rfl) (by kernel_rfl)) (.cons (by unfold InR; omega) (.cons (fun w _ => put_ok _ w (by first | omega | (have := vget_lt; omega))) .nil))) ?_
          clear ha a; intro a w20 ha he
          replace hx := hx.tr he
          replace hB_bo := keepB he hB_bo
          replace hbd := bdE he hbd
          clear he
          refine lcall (vs := #[.pointer (some ⟨bb, 0, none⟩), .string (S (vput o.Time))]) ha rfl (by kernel_rfl) rfl rfl (by kernel_rfl) (by kernel_rfl) (ws_ok _ _ (oPars o i) (vput o.Time) (by first | omega | (simp only [List.length_append, List.length_nil]; omega)) _ hx.size (by first | omega | (simp only [List.length_append, List.length_nil]; omega)) hbd) ?_
          clear ha a; rintro _ w21 ⟨rfl, hbd', hoth⟩ a ha
          replace hB_bo := hoth.cells hB_bo (by first | assumption | exact Ne.symm (by assumption)) rfl
          replace hx := hoth.toExt hx (Nat.le_refl _)
          replace hbd := hbd'; clear hbd' hoth
          refine lnil ?_
          replace ha := ha.sub (ρ' := [(1, .pointer (some ⟨bo, 0, none⟩)), (3, .pointer (some ⟨bb, 0, none⟩))]) (by kernel_rfl)
          refine tn ?_
          refine reg_list ?_
          refine seg (ρ' := [(3, .pointer (some ⟨bb, 0, none⟩)), (63, .string (S (vtext o.Text)))]) (C := [RunOk Try.prog w21 (Instr.loadAt 9 (.pointer (some ⟨bo, 37, none⟩))) (.string (S o.Text)), CallOk Try.prog w21 32 #[.string (S o.Text)] (.string (S (vtext o.Text)))]) ha 3 [(1, .val (.string (S o.Text))), (2, .val (.string (S (vtext o.Text))))] (by kernel_rfl) (.cons (ld1 hB_bo (by kernel_rfl) (by kernel_rfl)) (.cons (fun w _ => text_ok _ w (by omega)) .nil)) ?_
          clear ha a; intro a w22 ha he
          replace hx := hx.tr he
          replace hB_bo := keepB he hB_bo
          replace hbd := bdE he hbd
          clear he
          refine lcall (vs := #[.pointer (some ⟨bb, 0, none⟩), .string (S (vtext o.Text))]) ha rfl (by kernel_rfl) rfl rfl (by kernel_rfl) (by kernel_rfl) (ws_ok _ _ ((oPars o i) ++ (vput o.Time)) (vtext o.Text) (by first | omega | (simp only [List.length_append, List.length_nil]; omega)) _ hx.size (by first | omega | (simp only [List.length_append, List.length_nil]; omega)) hbd) ?_
          clear ha a; rintro _ w23 ⟨rfl, hbd', hoth⟩ a ha
          replace hB_bo := hoth.cells hB_bo (by first | assumption | exact Ne.symm (by assumption)) rfl
          replace hx := hoth.toExt hx (Nat.le_refl _)
          replace hbd := hbd'; clear hbd' hoth
          refine lnil ?_
          replace ha := ha.sub (ρ' := [(3, .pointer (some ⟨bb, 0, none⟩))]) (by kernel_rfl)
          refine bn ?_
          refine tn ?_
          refine wseq ?_
          refine reg_list ?_
          refine lcall (vs := #[.pointer (some ⟨bb, 0, none⟩)]) ha rfl (by kernel_rfl) rfl rfl (by kernel_rfl) (by kernel_rfl) (bstr_ok _ _ _ _ hx.size hbd) ?_
          clear ha a; rintro _ w24 ⟨rfl, hbl⟩ a ha
          replace hx : Ext w w24 := Ext.below hx hbl
          clear hbl hbd hB_bo
          refine segp (ρ' := [(2, .string (S (((oPars o i) ++ (vput o.Time)) ++ (vtext o.Text))))]) (C := []) ha 1 [] rfl (by kernel_rfl) .nil ?_
          clear ha a; intro a ha
          refine lnil ?_
          replace ha := ha.sub (ρ' := [(2, .string (S (((oPars o i) ++ (vput o.Time)) ++ (vtext o.Text))))]) (by kernel_rfl)
          refine tn ?_
          refine wret ?_
          refine fin ha (.tmp rfl .nil) ?_
          refine ⟨congrArg (fun q => Value.string (S q)) ?_, hx⟩
          first | (unfold oBody; simp [*]; done) | (obtain rfl : i = o.Entries.length := (by omega); unfold oBody; simp [*]; done) | (obtain rfl : i = o.Parents.length := (by omega); unfold oBody; simp [*]; done)
      · replace h35 := of_decide_eq_false h35
        refine wseq ?_
        refine regp (ρ' := [(1, .pointer (some ⟨bo, 0, none⟩)), (3, .pointer (some ⟨bb, 0, none⟩)), (65, .bool (decide ((o.Kind : Int) = 4)))]) (C := []) ha [] (by kernel_rfl) .nil ?_
        clear ha a; intro a ha
        refine tn ?_
        refine wif ha rfl (fun h65 => ?_) (fun h65 => ?_)
        · replace h65 := of_decide_eq_true h65
          refine wseq ?_
          have hl6 := o.Target.h
          have hv4 := vtext_len o.Name
          have hl5 : (oneB8 o.Of).length = 1 := rfl
          refine reg_list ?_
          refine segp (ρ' := [(1, .pointer (some ⟨bo, 0, none⟩)), (3, .pointer (some ⟨bb, 0, none⟩)), (69, .int .u8 (o.Of % 256))]) (C := [RunOk Try.prog w2 (Instr.loadAt 3 (.pointer (some ⟨bo, 70, none⟩))) (.int .i64 o.Of)]) ha 3 [(1, .val (.int .i64 o.Of)), (2, .mod)] rfl (by kernel_rfl) (.cons (ld1 hB_bo (by kernel_rfl) (by kernel_rfl)) .nil) ?_
          clear ha a; intro a ha
          refine lcall (vs := #[.pointer (some ⟨bb, 0, none⟩), .int .u8 (o.Of % 256)]) ha rfl (by kernel_rfl) rfl rfl (by kernel_rfl) (by kernel_rfl) (wbI_ok _ _ [] (o.Of % 256) (by omega) (by omega) _ hx.size (by first | omega | (simp only [List.length_append, List.length_nil]; omega)) hbd) ?_
          clear ha a; rintro _ w25 ⟨rfl, hbd', hoth⟩ a ha
          replace hB_bo := hoth.cells hB_bo (by first | assumption | exact Ne.symm (by assumption)) rfl
          replace hx := hoth.toExt hx (Nat.le_refl _)
          replace hbd := hbd'; clear hbd' hoth
          refine lnil ?_
          replace ha := ha.sub (ρ' := [(1, .pointer (some ⟨bo, 0, none⟩)), (3, .pointer (some ⟨bb, 0, none⟩))]) (by kernel_rfl)
          refine tn ?_
          refine wseq ?_
          refine reg_list ?_
          refine segp (ρ' := [(1, .pointer (some ⟨bo, 0, none⟩)), (3, .pointer (some ⟨bb, 0, none⟩)), (72, .slice (some ⟨bo, 38, none⟩) 32 32)]) (C := []) ha 2 [(1, .raw)] rfl (by kernel_rfl) .nil ?_
          clear ha a; intro a ha
          refine lcall (vs := #[.pointer (some ⟨bb, 0, none⟩), .slice (some ⟨bo, 38, none⟩) 32 32]) ha rfl (by kernel_rfl) rfl rfl (by kernel_rfl) (by kernel_rfl) (wrId_ok _ _ ([] ++ oneB8 o.Of) _ 38 32 _ _ _ o.Target (by first | omega | (simp only [List.length_append, List.length_nil]; omega)) _ hB_bo (by first | assumption | exact Ne.symm (by assumption)) rfl (by kernel_rfl) hx.size hbd) ?_
          clear ha a; rintro _ w26 ⟨rfl, hbd', hoth⟩ a ha
          replace hB_bo := hoth.cells hB_bo (by first | assumption | exact Ne.symm (by assumption)) rfl
          replace hx := hoth.toExt hx (Nat.le_refl _)
          replace hbd := hbd'; clear hbd' hoth
          refine lnil ?_
          replace ha := ha.sub (ρ' := [(1, .pointer (some ⟨bo, 0, none⟩)), (3, .pointer (some ⟨bb, 0, none⟩))]) (by kernel_rfl)
          refine tn ?_
          refine reg_list ?_
          refine seg (ρ' := [(3, .pointer (some ⟨bb, 0, none⟩)), (76, .string (S (vtext o.Name)))]) (C := [RunOk Try.prog w26 (Instr.loadAt 9 (.pointer (some ⟨bo, 71, none⟩))) (.string (S o.Name)), CallOk Try.prog w26 32 #[.string (S o.Name)] (.string (S (vtext o.Name)))]) ha 3 [(1, .val (.string (S o.Name))), (2, .val (.string (S (vtext o.Name))))] (by kernel_rfl) (.cons (ld1 hB_bo (by kernel_rfl) (by kernel_rfl)) (.cons (fun w _ => text_ok _ w (by omega)) .nil)) ?_
          clear ha a; intro a w27 ha he
          replace hx := hx.tr he
          replace hB_bo := keepB he hB_bo
          replace hbd := bdE he hbd
          clear he
          refine lcall (vs := #[.pointer (some ⟨bb, 0, none⟩), .string (S (vtext o.Name))]) ha rfl (by kernel_rfl) rfl rfl (by kernel_rfl) (by kernel_rfl) (ws_ok _ _ (([] ++ oneB8 o.Of) ++ o.Target.l) (vtext o.Name) (by first | omega | (simp only [List.length_append, List.length_nil]; omega)) _ hx.size (by first | omega | (simp only [List.length_append, List.length_nil]; omega)) hbd) ?_
          clear ha a; rintro _ w28 ⟨rfl, hbd', hoth⟩ a ha
          replace hB_bo := hoth.cells hB_bo (by first | assumption | exact Ne.symm (by assumption)) rfl
          replace hx := hoth.toExt hx (Nat.le_refl _)
          replace hbd := hbd'; clear hbd' hoth
          refine lnil ?_
          replace ha := ha.sub (ρ' := [(3, .pointer (some ⟨bb, 0, none⟩))]) (by kernel_rfl)
          refine bn ?_
          refine tn ?_
          refine wseq ?_
          refine reg_list ?_
          refine lcall (vs := #[.pointer (some ⟨bb, 0, none⟩)]) ha rfl (by kernel_rfl) rfl rfl (by kernel_rfl) (by kernel_rfl) (bstr_ok _ _ _ _ hx.size hbd) ?_
          clear ha a; rintro _ w29 ⟨rfl, hbl⟩ a ha
          replace hx : Ext w w29 := Ext.below hx hbl
          clear hbl hbd hB_bo
          refine segp (ρ' := [(2, .string (S ((([] ++ oneB8 o.Of) ++ o.Target.l) ++ (vtext o.Name))))]) (C := []) ha 1 [] rfl (by kernel_rfl) .nil ?_
          clear ha a; intro a ha
          refine lnil ?_
          replace ha := ha.sub (ρ' := [(2, .string (S ((([] ++ oneB8 o.Of) ++ o.Target.l) ++ (vtext o.Name))))]) (by kernel_rfl)
          refine tn ?_
          refine wret ?_
          refine fin ha (.tmp rfl .nil) ?_
          refine ⟨congrArg (fun q => Value.string (S q)) ?_, hx⟩
          first | (unfold oBody; simp [*]; done) | (obtain rfl : i = o.Entries.length := (by omega); unfold oBody; simp [*]; done) | (obtain rfl : i = o.Parents.length := (by omega); unfold oBody; simp [*]; done)
        · replace h65 := of_decide_eq_false h65
          refine wskip ?_
          refine bn ?_
          refine tn ?_
          refine wseq ?_
          refine reg_list ?_
          refine lcall (vs := #[.pointer (some ⟨bb, 0, none⟩)]) ha rfl (by kernel_rfl) rfl rfl (by kernel_rfl) (by kernel_rfl) (bstr_ok _ _ _ _ hx.size hbd) ?_
          clear ha a; rintro _ w30 ⟨rfl, hbl⟩ a ha
          replace hx : Ext w w30 := Ext.below hx hbl
          clear hbl hbd hB_bo
          refine segp (ρ' := [(2, .string (S []))]) (C := []) ha 1 [] rfl (by kernel_rfl) .nil ?_
          clear ha a; intro a ha
          refine lnil ?_
          replace ha := ha.sub (ρ' := [(2, .string (S []))]) (by kernel_rfl)
          refine tn ?_
          refine wret ?_
          refine fin ha (.tmp rfl .nil) ?_
          refine ⟨congrArg (fun q => Value.string (S q)) ?_, hx⟩
          first | (unfold oBody; simp [*]; done) | (obtain rfl : i = o.Entries.length := (by omega); unfold oBody; simp [*]; done) | (obtain rfl : i = o.Parents.length := (by omega); unfold oBody; simp [*]; done)
end Go.Kn
