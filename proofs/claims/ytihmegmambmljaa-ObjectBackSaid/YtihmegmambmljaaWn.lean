import Derived.Test.YtihmegmambmljaaPlainI
import Derived.Test.YtihmegmambmljaaWm
import Derived.Test.YtihmegmambmljaaEngP
set_option linter.unusedSimpArgs false
set_option linter.unusedVariables false
set_option maxRecDepth 100000
namespace Go.Kn
open Go.Proofs
theorem eqLink_eql {x y : LinkR} (hx : InR .i64 x.Kind) (hy : InR .i64 y.Kind) : BinOk Try.prog .eql 82 (.agg ⟨encLink x⟩) (.agg ⟨encLink y⟩) (.bool (decide (x = y))) := by
  have hl : ∀ z : LinkR, InR .i64 z.Kind → Try.prog.keyLits 3 82 (encLink z) = some [lits z.I.l, [.int .i64 z.Kind]].flatten := fun z hz =>
    keyLits_fs (n := 33) (l := [(40, 0, 32), (3, 32, 1)]) (by kernel_rfl) (by kernel_rfl) rfl (.cons (keyLits_id z.I (by kernel_rfl)) (.cons (keyLits_i64 (by kernel_rfl) hz) .nil))
  refine eqAgg (op := .eql) (b := decide (x = y)) (.inl rfl) (by kernel_rfl) (by kernel_rfl) (by kernel_rfl) (by kernel_rfl) (hl x hx) (hl y hy) ?_
  rw [decide_eq_true_iff]
  refine ⟨fun h => by rw [h], fun h => ?_⟩
  simp only [List.flatten_cons, List.flatten_nil, List.append_nil] at h
  obtain ⟨h1, h2⟩ := List.append_inj h (by rw [lits_len, lits_len, x.I.h, y.I.h])
  cases x; cases y
  simp only [List.cons.injEq, Lit.int.injEq, true_and, and_true] at h2
  rw [LinkR.mk.injEq]
  exact ⟨Id.ext (lits_inj h1), h2⟩
theorem eqLink_neq {x y : LinkR} (hx : InR .i64 x.Kind) (hy : InR .i64 y.Kind) : BinOk Try.prog .neq 82 (.agg ⟨encLink x⟩) (.agg ⟨encLink y⟩) (.bool (!decide (x = y))) := by
  have hl : ∀ z : LinkR, InR .i64 z.Kind → Try.prog.keyLits 3 82 (encLink z) = some [lits z.I.l, [.int .i64 z.Kind]].flatten := fun z hz =>
    keyLits_fs (n := 33) (l := [(40, 0, 32), (3, 32, 1)]) (by kernel_rfl) (by kernel_rfl) rfl (.cons (keyLits_id z.I (by kernel_rfl)) (.cons (keyLits_i64 (by kernel_rfl) hz) .nil))
  refine eqAgg (op := .neq) (b := decide (x = y)) (.inr rfl) (by kernel_rfl) (by kernel_rfl) (by kernel_rfl) (by kernel_rfl) (hl x hx) (hl y hy) ?_
  rw [decide_eq_true_iff]
  refine ⟨fun h => by rw [h], fun h => ?_⟩
  simp only [List.flatten_cons, List.flatten_nil, List.append_nil] at h
  obtain ⟨h1, h2⟩ := List.append_inj h (by rw [lits_len, lits_len, x.I.h, y.I.h])
  cases x; cases y
  simp only [List.cons.injEq, Lit.int.injEq, true_and, and_true] at h2
  rw [LinkR.mk.injEq]
  exact ⟨Id.ext (lits_inj h1), h2⟩
theorem take_snoc {α : Type} [Inhabited α] (l : List α) (i : Nat) (h : i < l.length) : l.take (i + 1) = l.take i ++ [l.getD i default] := by
  have := map_take_succ id l i h
  simpa using this
theorem links_ok (o : ObjL) (Ae Ap : Option Addr) (ce cp : Nat) (w : World) (hoe : Rd w 34 Ae o.Entries.length (o.Entries.flatMap encEnt)) (hop : Rd w 32 Ap o.Parents.length (o.Parents.flatMap idc)) (hok : ObjOk o) (hfw : FewOk o) :
    Fn Try.prog 19 #[.agg ⟨objC o Ae ce Ap cp⟩] w (fun x w' => ∃ A c, x = .slice A (oLinks o).length c ∧ Own w' w.heap.size 82 33 A (oLinks o).length c ((oLinks o).flatMap encLink) ∧ Ext w w') := by
  have hx : Ext w w := Ext.rfl' w
  refine enter (N := 60) (args := [.agg ⟨objC o Ae ce Ap cp⟩]) Try.func19 rfl rfl rfl ?_
  intro a ha
  simp only [argEnv, Nat.zero_add, Nat.reduceAdd] at ha
  refine wseq ?_
  refine reg_list ?_
  refine lnew ha rfl (by kernel_rfl) ⟨objC o Ae ce Ap cp⟩ 44 (by kernel_rfl) ?_
  clear ha a; intro bo w1 he hb_bo hB_bo a ha
  replace hb_bo := Nat.le_trans hx.size hb_bo
  replace hx := hx.tr he
  clear he
  refine segp (ρ' := [(1, .pointer (some ⟨bo, 0, none⟩))]) (C := []) ha 1 [] rfl (by kernel_rfl) .nil ?_
  clear ha a; intro a ha
  refine lnil ?_
  replace ha := ha.sub (ρ' := [(1, .pointer (some ⟨bo, 0, none⟩))]) (by kernel_rfl)
  have fe := hfw.e
  have fp := hfw.p
  refine tn ?_
  refine wseq ?_
  refine regp (ρ' := [(1, .pointer (some ⟨bo, 0, none⟩)), (3, .slice none 0 0)]) (C := []) ha [] (by kernel_rfl) .nil ?_
  clear ha a; intro a ha
  refine tn ?_
  refine wseq ?_
  refine wseq ?_
  refine regp (ρ' := [(1, .pointer (some ⟨bo, 0, none⟩)), (3, .slice none 0 0), (9, .int .i64 o.Kind)]) (C := [RunOk Try.prog w1 (Instr.loadAt 3 (.pointer (some ⟨bo, 0, none⟩))) (.int .i64 o.Kind)]) ha [(1, .val (.int .i64 o.Kind))] (by kernel_rfl) (.cons (ld1 hB_bo (by kernel_rfl) (by kernel_rfl)) .nil) ?_
  clear ha a; intro a ha
  refine tn ?_
  refine wblk ?_
  refine wseq ?_
  refine regp (ρ' := [(1, .pointer (some ⟨bo, 0, none⟩)), (3, .slice none 0 0), (9, .int .i64 o.Kind), (10, .bool (decide ((o.Kind : Int) = 2)))]) (C := []) ha [] (by kernel_rfl) .nil ?_
  clear ha a; intro a ha
  refine tn ?_
  refine wif ha rfl (fun h10 => ?_) (fun h10 => ?_)
  · replace h10 := of_decide_eq_true h10
    refine wseq ?_
    refine regp (ρ' := [(3, .slice none 0 0), (13, .slice Ae o.Entries.length ce), (14, .int .i64 ((o.Entries.length : Nat) : Int)), (15, .int .i64 0)]) (C := [RunOk Try.prog w1 (Instr.loadAt 38 (.pointer (some ⟨bo, 2, none⟩))) (.slice Ae o.Entries.length ce)]) ha [(1, .val (.slice Ae o.Entries.length ce))] (by kernel_rfl) (.cons (ld1 hB_bo (by kernel_rfl) (by kernel_rfl)) .nil) ?_
    clear ha a; intro a ha
    refine tn ?_
    refine wblk ?_
    refine wloop (fun zz a w2 => ∃ (i : Nat) (A : Option Addr) (c : Nat), zz = o.Entries.length - i ∧ On 60 [(3, .slice A ((lkE o i).length) c), (13, .slice Ae o.Entries.length ce), (14, .int .i64 ((o.Entries.length : Nat) : Int)), (15, .int .i64 ((i : Nat) : Int))] a ∧ Ext w w2 ∧ w2.heap[bo]? = some (.cells ⟨objC o Ae ce Ap cp⟩ 44 (0, 0)) ∧ Own w2 w.heap.size 82 33 A ((lkE o i).length) c ((lkE o i).flatMap encLink) ∧ (i ≤ o.Entries.length)) _ ⟨0, none, 0, rfl, ha.sub (ρ' := [(3, .slice none ((lkE o 0).length) 0), (13, .slice Ae o.Entries.length ce), (14, .int .i64 ((o.Entries.length : Nat) : Int)), (15, .int .i64 ((0 : Nat) : Int))]) (by kernel_rfl), hx, hB_bo, own_nil _ _ _ _, by omega⟩ ?_
    clear ha hx hB_bo
    rintro zz a w3 ⟨i, A, c, hzz, ha, hx, hB_bo, hl, hi⟩
    refine wseq ?_
    refine regp (ρ' := [(3, .slice A ((lkE o i).length) c), (13, .slice Ae o.Entries.length ce), (14, .int .i64 ((o.Entries.length : Nat) : Int)), (15, .int .i64 ((i : Nat) : Int)), (16, .bool (decide (((i : Nat) : Int) < ((o.Entries.length : Nat) : Int))))]) (C := []) ha [] (by kernel_rfl) .nil ?_
    clear ha a; intro a ha
    refine tn ?_
    refine wseq ?_
    refine wif ha rfl (fun h16 => ?_) (fun h16 => ?_)
    · replace h16 := of_decide_eq_true h16
      have hil : i < o.Entries.length := by omega
      have hll := lkE_len o i hi
      refine wskip ?_
      refine tn ?_
      refine wseq ?_
      refine wblk ?_
      refine wseq ?_
      refine reg_list ?_
      refine segp (ρ' := [(3, .slice A ((lkE o i).length) c), (13, .slice Ae o.Entries.length ce), (14, .int .i64 ((o.Entries.length : Nat) : Int)), (15, .int .i64 ((i : Nat) : Int)), (18, .agg ⟨encEnt (o.Entries.getD i default)⟩)]) (C := [RunOk Try.prog w3 (Instr.indexAt 38 (.slice Ae o.Entries.length ce) (.int .i64 ((i : Nat) : Int))) (.pointer (some ⟨ab Ae, ao Ae + i * 34, none⟩)), RunOk Try.prog w3 (Instr.loadAt 70 (.pointer (some ⟨ab Ae, ao Ae + i * 34, none⟩))) (.agg ⟨encEnt (o.Entries.getD i default)⟩)]) ha 2 [(0, .val (.pointer (some ⟨ab Ae, ao Ae + i * 34, none⟩))), (1, .val (.agg ⟨encEnt (o.Entries.getD i default)⟩))] rfl (by kernel_rfl) (.cons (ixRd (e := 70) (by kernel_rfl) (by kernel_rfl) (rdE hx hoe) (by omega)) (.cons (ldRdN (vs := encEnt (o.Entries.getD i default)) (j := i * 34) (by kernel_rfl) (by kernel_rfl) (rdE hx hoe) (by omega) (flat_seg encEnt_len o.Entries default i (by omega))) .nil)) ?_
      clear ha a; intro a ha
      refine lnew ha rfl (by kernel_rfl) ⟨.string (S []) :: (.int .i64 0 :: (idc idZ))⟩ 70 (by kernel_rfl) ?_
      clear ha a; intro be w4 he hb_be hB_be a ha
      have hne_bo_be : bo ≠ be := ne_new hB_bo hb_be
      replace hB_bo := keepB he hB_bo
      replace hl := ownE he hl
      replace hb_be := Nat.le_trans hx.size hb_be
      replace hx := hx.tr he
      clear he
      refine lstore (off := 0) ha rfl rfl (by kernel_rfl) hB_be ⟨encEnt (o.Entries.getD i default)⟩ rfl (by kernel_rfl) (by kernel_rfl) ?_
      clear ha a; intro w5 hc a ha
      replace hB_bo := hc.keep hB_bo (by first | assumption | exact Ne.symm (by assumption))
      replace hl := ownC hc hB_be rfl hl
      replace hx := hc.ext hx hb_be
      replace hB_be := hc.at_; clear hc
      refine lnil ?_
      replace ha := ha.sub (ρ' := [(3, .slice A ((lkE o i).length) c), (5, .pointer (some ⟨be, 0, none⟩)), (13, .slice Ae o.Entries.length ce), (14, .int .i64 ((o.Entries.length : Nat) : Int)), (15, .int .i64 ((i : Nat) : Int))]) (by kernel_rfl)
      refine tn ?_
      refine reg_list ?_
      refine segp (ρ' := [(13, .slice Ae o.Entries.length ce), (14, .int .i64 ((o.Entries.length : Nat) : Int)), (15, .int .i64 ((i : Nat) : Int)), (19, .slice A ((lkE o i).length) c), (24, .agg ⟨(idc ((o.Entries.getD i default).I)) ++ ([.int .i64 ((o.Entries.getD i default).Kind)])⟩)]) (C := [RunOk Try.prog w5 (Instr.loadAt 40 (.pointer (some ⟨be, 2, none⟩))) (.agg ⟨idc ((o.Entries.getD i default).I)⟩), RunOk Try.prog w5 (Instr.loadAt 3 (.pointer (some ⟨be, 1, none⟩))) (.int .i64 ((o.Entries.getD i default).Kind))]) ha 6 [(2, .val (.agg ⟨idc ((o.Entries.getD i default).I)⟩)), (4, .val (.int .i64 ((o.Entries.getD i default).Kind)))] rfl (by kernel_rfl) (.cons (ldN (n := 32) hB_be (by kernel_rfl) (by kernel_rfl) ⟨Nat.le_of_ble_eq_true (by kernel_rfl), (by kernel_rfl)⟩) (.cons (ld1 hB_be (by kernel_rfl) (by kernel_rfl)) .nil)) ?_
      clear ha a; intro a ha
      refine lnewS ha rfl (by kernel_rfl) ⟨(idc ((o.Entries.getD i default).I)) ++ ([.int .i64 ((o.Entries.getD i default).Kind)])⟩ 82 1 (by kernel_rfl) ?_
      clear ha a; intro b6 w7 he hb_b6 hB_b6 a ha
      have hne_bo_b6 : bo ≠ b6 := ne_new hB_bo hb_b6
      have hne_be_b6 : be ≠ b6 := ne_new hB_be hb_b6
      have hno_hl_b6 : (Value.slice A ((lkE o i).length) c).ownBlock ≠ some b6 := own_ne hl hb_b6
      replace hB_bo := keepB he hB_bo
      replace hB_be := keepB he hB_be
      replace hl := ownE he hl
      replace hb_b6 := Nat.le_trans hx.size hb_b6
      replace hx := hx.tr he
      clear he
      refine lapp (by_ := 40) ha rfl (by kernel_rfl) rfl (by kernel_rfl) rfl hl rfl ((idc ((o.Entries.getD i default).I)) ++ ([.int .i64 ((o.Entries.getD i default).Kind)])) rfl (news_blk hB_b6) rfl (by omega) (by omega) hx.size ?_
      clear ha a; intro A8 c9 w10 hl' hg a ha
      clear hB_b6 hb_b6
      replace hB_bo := keepG hg hl rfl hB_bo
      replace hB_be := keepG hg hl rfl hB_be
      replace hx := extG hx hg hl (Nat.le_refl _)
      clear hg hl
      rename_i _; have hl := hl'; clear hl'
      rw [show ((((lkE o i).flatMap encLink) ++ ((idc ((o.Entries.getD i default).I)) ++ ([.int .i64 ((o.Entries.getD i default).Kind)]))) : List Value) = ((lkE o (i + 1)).flatMap encLink) from by rw [lkE_succ o i hil]; simp [encLink]] at hl
      rw [show (((lkE o i).length + 1) : Nat) = (lkE o (i + 1)).length from by rw [lkE_succ o i hil]; simp] at ha hl
      refine segp (ρ' := [(3, .slice A8 ((lkE o (i + 1)).length) c9), (13, .slice Ae o.Entries.length ce), (14, .int .i64 ((o.Entries.length : Nat) : Int)), (15, .int .i64 ((i : Nat) : Int))]) (C := []) ha 1 [] rfl (by kernel_rfl) .nil ?_
      clear ha a; intro a ha
      refine lnil ?_
      replace ha := ha.sub (ρ' := [(3, .slice A8 ((lkE o (i + 1)).length) c9), (13, .slice Ae o.Entries.length ce), (14, .int .i64 ((o.Entries.length : Nat) : Int)), (15, .int .i64 ((i : Nat) : Int))]) (by kernel_rfl)
      refine bn ?_
      refine tn ?_
      refine regp (ρ' := [(3, .slice A8 ((lkE o (i + 1)).length) c9), (13, .slice Ae o.Entries.length ce), (14, .int .i64 ((o.Entries.length : Nat) : Int)), (15, .int .i64 ((i + 1 : Nat) : Int))]) (C := [InR .i64 ((i + 1 : Nat) : Int)]) ha [] (by kernel_rfl) (.cons (by unfold InR; omega) .nil) ?_
      clear ha a; intro a ha
      exact tn ⟨o.Entries.length - ((i + 1)), by omega, (i + 1), A8, c9, rfl, ha.sub (ρ' := [(3, .slice A8 ((lkE o (i + 1)).length) c9), (13, .slice Ae o.Entries.length ce), (14, .int .i64 ((o.Entries.length : Nat) : Int)), (15, .int .i64 (((i + 1) : Nat) : Int))]) (by kernel_rfl), hx, hB_bo, hl, by omega⟩
    · replace h16 := of_decide_eq_false h16
      obtain rfl : i = o.Entries.length := by omega
      refine wexit ?_
      refine (te (te (be ?_)))
      refine bn ?_
      refine tn ?_
      refine wseq ?_
      refine regp (ρ' := [(2, .slice A ((lkE o o.Entries.length).length) c)]) (C := []) ha [] (by kernel_rfl) .nil ?_
      clear ha a; intro a ha
      refine tn ?_
      refine wret ?_
      refine fin ha (.tmp rfl .nil) ?_
      exact ⟨_, _, by simp [oLinks, lkE, lkP, *] <;> rfl, by simpa [oLinks, lkE, lkP, *] using hl, hx⟩
  · replace h10 := of_decide_eq_false h10
    refine wseq ?_
    refine regp (ρ' := [(1, .pointer (some ⟨bo, 0, none⟩)), (3, .slice none 0 0), (9, .int .i64 o.Kind), (28, .bool (decide ((o.Kind : Int) = 3)))]) (C := []) ha [] (by kernel_rfl) .nil ?_
    clear ha a; intro a ha
    refine tn ?_
    refine wif ha rfl (fun h28 => ?_) (fun h28 => ?_)
    · replace h28 := of_decide_eq_true h28
      refine wseq ?_
      refine reg_list ?_
      refine segp (ρ' := [(1, .pointer (some ⟨bo, 0, none⟩)), (30, .slice none 0 0), (33, .agg ⟨(idc o.Tree) ++ ([.int .i64 2])⟩)]) (C := [RunOk Try.prog w1 (Instr.loadAt 40 (.pointer (some ⟨bo, 3, none⟩))) (.agg ⟨idc o.Tree⟩)]) ha 4 [(2, .val (.agg ⟨idc o.Tree⟩))] rfl (by kernel_rfl) (.cons (ldN (n := 32) hB_bo (by kernel_rfl) (by kernel_rfl) ⟨Nat.le_of_ble_eq_true (by kernel_rfl), (by kernel_rfl)⟩) .nil) ?_
      clear ha a; intro a ha
      refine lnewS ha rfl (by kernel_rfl) ⟨(idc o.Tree) ++ ([.int .i64 2])⟩ 82 1 (by kernel_rfl) ?_
      clear ha a; intro b11 w12 he hb_b11 hB_b11 a ha
      have hne_bo_b11 : bo ≠ b11 := ne_new hB_bo hb_b11
      replace hB_bo := keepB he hB_bo
      replace hb_b11 := Nat.le_trans hx.size hb_b11
      replace hx := hx.tr he
      clear he
      refine lapp (by_ := 40) ha rfl (by kernel_rfl) rfl (by kernel_rfl) rfl (own_nil w12 w.heap.size 82 33) rfl ((idc o.Tree) ++ ([.int .i64 2])) rfl (news_blk hB_b11) rfl (by omega) (by omega) hx.size ?_
      clear ha a; intro A13 c14 w15 hl hg a ha
      clear hB_b11 hb_b11
      have heg : Ext w12 w15 := ⟨hg.os, hg.tape, hg.output, hg.size, fun k hk => hg.block k hk (by simp [Value.ownBlock])⟩
      clear hg
      have he := heg; clear heg
      replace hB_bo := keepB he hB_bo
      replace hx := hx.tr he
      clear he
      rw [show (([] ++ ((idc o.Tree) ++ ([.int .i64 2]))) : List Value) = ((lkP o 0).flatMap encLink) from by simp [lkP, encLink]] at hl
      rw [show ((0 + 1) : Nat) = (lkP o 0).length from by simp [lkP]] at ha hl
      refine segp (ρ' := [(1, .pointer (some ⟨bo, 0, none⟩)), (3, .slice A13 ((lkP o 0).length) c14)]) (C := []) ha 1 [] rfl (by kernel_rfl) .nil ?_
      clear ha a; intro a ha
      refine lnil ?_
      replace ha := ha.sub (ρ' := [(1, .pointer (some ⟨bo, 0, none⟩)), (3, .slice A13 ((lkP o 0).length) c14)]) (by kernel_rfl)
      refine tn ?_
      refine wseq ?_
      refine regp (ρ' := [(3, .slice A13 ((lkP o 0).length) c14), (37, .slice Ap o.Parents.length cp), (38, .int .i64 ((o.Parents.length : Nat) : Int)), (39, .int .i64 0)]) (C := [RunOk Try.prog w15 (Instr.loadAt 41 (.pointer (some ⟨bo, 35, none⟩))) (.slice Ap o.Parents.length cp)]) ha [(1, .val (.slice Ap o.Parents.length cp))] (by kernel_rfl) (.cons (ld1 hB_bo (by kernel_rfl) (by kernel_rfl)) .nil) ?_
      clear ha a; intro a ha
      refine tn ?_
      refine wblk ?_
      refine wloop (fun zz a w16 => ∃ (i : Nat) (A : Option Addr) (c : Nat), zz = o.Parents.length - i ∧ On 60 [(3, .slice A ((lkP o i).length) c), (37, .slice Ap o.Parents.length cp), (38, .int .i64 ((o.Parents.length : Nat) : Int)), (39, .int .i64 ((i : Nat) : Int))] a ∧ Ext w w16 ∧ w16.heap[bo]? = some (.cells ⟨objC o Ae ce Ap cp⟩ 44 (0, 0)) ∧ Own w16 w.heap.size 82 33 A ((lkP o i).length) c ((lkP o i).flatMap encLink) ∧ (i ≤ o.Parents.length)) _ ⟨0, A13, c14, rfl, ha.sub (ρ' := [(3, .slice A13 ((lkP o 0).length) c14), (37, .slice Ap o.Parents.length cp), (38, .int .i64 ((o.Parents.length : Nat) : Int)), (39, .int .i64 ((0 : Nat) : Int))]) (by kernel_rfl), hx, hB_bo, hl, by omega⟩ ?_
      clear ha hx hB_bo hl
      rintro zz a w17 ⟨i, A, c, hzz, ha, hx, hB_bo, hl, hi⟩
      refine wseq ?_
      refine regp (ρ' := [(3, .slice A ((lkP o i).length) c), (37, .slice Ap o.Parents.length cp), (38, .int .i64 ((o.Parents.length : Nat) : Int)), (39, .int .i64 ((i : Nat) : Int)), (40, .bool (decide (((i : Nat) : Int) < ((o.Parents.length : Nat) : Int))))]) (C := []) ha [] (by kernel_rfl) .nil ?_
      clear ha a; intro a ha
      refine tn ?_
      refine wseq ?_
      refine wif ha rfl (fun h40 => ?_) (fun h40 => ?_)
      · replace h40 := of_decide_eq_true h40
        have hil : i < o.Parents.length := by omega
        have hll := lkP_len o i hi
        refine wskip ?_
        refine tn ?_
        refine wseq ?_
        refine wblk ?_
        refine wseq ?_
        refine reg_list ?_
        refine segp (ρ' := [(3, .slice A ((lkP o i).length) c), (37, .slice Ap o.Parents.length cp), (38, .int .i64 ((o.Parents.length : Nat) : Int)), (39, .int .i64 ((i : Nat) : Int)), (42, .agg ⟨idc (o.Parents.getD i default)⟩)]) (C := [RunOk Try.prog w17 (Instr.indexAt 41 (.slice Ap o.Parents.length cp) (.int .i64 ((i : Nat) : Int))) (.pointer (some ⟨ab Ap, ao Ap + i * 32, none⟩)), RunOk Try.prog w17 (Instr.loadAt 40 (.pointer (some ⟨ab Ap, ao Ap + i * 32, none⟩))) (.agg ⟨idc (o.Parents.getD i default)⟩)]) ha 2 [(0, .val (.pointer (some ⟨ab Ap, ao Ap + i * 32, none⟩))), (1, .val (.agg ⟨idc (o.Parents.getD i default)⟩))] rfl (by kernel_rfl) (.cons (ixRd (e := 40) (by kernel_rfl) (by kernel_rfl) (rdE hx hop) (by omega)) (.cons (ldRdN (vs := idc (o.Parents.getD i default)) (j := i * 32) (by kernel_rfl) (by kernel_rfl) (rdE hx hop) (by omega) (flat_seg idc_len o.Parents default i (by omega))) .nil)) ?_
        clear ha a; intro a ha
        refine lnew ha rfl (by kernel_rfl) ⟨idc idZ⟩ 40 (by kernel_rfl) ?_
        clear ha a; intro bi w18 he hb_bi hB_bi a ha
        have hne_bo_bi : bo ≠ bi := ne_new hB_bo hb_bi
        replace hB_bo := keepB he hB_bo
        replace hl := ownE he hl
        replace hb_bi := Nat.le_trans hx.size hb_bi
        replace hx := hx.tr he
        clear he
        refine lstore (off := 0) ha rfl rfl (by kernel_rfl) hB_bi ⟨idc (o.Parents.getD i default)⟩ rfl (by kernel_rfl) (by kernel_rfl) ?_
        clear ha a; intro w19 hc a ha
        replace hB_bo := hc.keep hB_bo (by first | assumption | exact Ne.symm (by assumption))
        replace hl := ownC hc hB_bi rfl hl
        replace hx := hc.ext hx hb_bi
        replace hB_bi := hc.at_; clear hc
        refine lnil ?_
        replace ha := ha.sub (ρ' := [(3, .slice A ((lkP o i).length) c), (7, .pointer (some ⟨bi, 0, none⟩)), (37, .slice Ap o.Parents.length cp), (38, .int .i64 ((o.Parents.length : Nat) : Int)), (39, .int .i64 ((i : Nat) : Int))]) (by kernel_rfl)
        refine tn ?_
        refine reg_list ?_
        refine segp (ρ' := [(37, .slice Ap o.Parents.length cp), (38, .int .i64 ((o.Parents.length : Nat) : Int)), (39, .int .i64 ((i : Nat) : Int)), (43, .slice A ((lkP o i).length) c), (45, .agg ⟨(idc (o.Parents.getD i default)) ++ ([.int .i64 3])⟩)]) (C := [RunOk Try.prog w19 (Instr.loadAt 40 (.pointer (some ⟨bi, 0, none⟩))) (.agg ⟨idc (o.Parents.getD i default)⟩)]) ha 3 [(1, .val (.agg ⟨idc (o.Parents.getD i default)⟩))] rfl (by kernel_rfl) (.cons (ldN (n := 32) hB_bi (by kernel_rfl) (by kernel_rfl) ⟨Nat.le_of_ble_eq_true (by kernel_rfl), (by kernel_rfl)⟩) .nil) ?_
        clear ha a; intro a ha
        refine lnewS ha rfl (by kernel_rfl) ⟨(idc (o.Parents.getD i default)) ++ ([.int .i64 3])⟩ 82 1 (by kernel_rfl) ?_
        clear ha a; intro b20 w21 he hb_b20 hB_b20 a ha
        have hne_bo_b20 : bo ≠ b20 := ne_new hB_bo hb_b20
        have hne_bi_b20 : bi ≠ b20 := ne_new hB_bi hb_b20
        have hno_hl_b20 : (Value.slice A ((lkP o i).length) c).ownBlock ≠ some b20 := own_ne hl hb_b20
        replace hB_bo := keepB he hB_bo
        replace hB_bi := keepB he hB_bi
        replace hl := ownE he hl
        replace hb_b20 := Nat.le_trans hx.size hb_b20
        replace hx := hx.tr he
        clear he
        refine lapp (by_ := 40) ha rfl (by kernel_rfl) rfl (by kernel_rfl) rfl hl rfl ((idc (o.Parents.getD i default)) ++ ([.int .i64 3])) rfl (news_blk hB_b20) rfl (by omega) (by omega) hx.size ?_
        clear ha a; intro A22 c23 w24 hl' hg a ha
        clear hB_b20 hb_b20
        replace hB_bo := keepG hg hl rfl hB_bo
        replace hB_bi := keepG hg hl rfl hB_bi
        replace hx := extG hx hg hl (Nat.le_refl _)
        clear hg hl
        rename_i _; have hl := hl'; clear hl'
        rw [show ((((lkP o i).flatMap encLink) ++ ((idc (o.Parents.getD i default)) ++ ([.int .i64 3]))) : List Value) = ((lkP o (i + 1)).flatMap encLink) from by rw [lkP_succ o i hil]; simp [encLink]] at hl
        rw [show (((lkP o i).length + 1) : Nat) = (lkP o (i + 1)).length from by rw [lkP_succ o i hil]; simp] at ha hl
        refine segp (ρ' := [(3, .slice A22 ((lkP o (i + 1)).length) c23), (37, .slice Ap o.Parents.length cp), (38, .int .i64 ((o.Parents.length : Nat) : Int)), (39, .int .i64 ((i : Nat) : Int))]) (C := []) ha 1 [] rfl (by kernel_rfl) .nil ?_
        clear ha a; intro a ha
        refine lnil ?_
        replace ha := ha.sub (ρ' := [(3, .slice A22 ((lkP o (i + 1)).length) c23), (37, .slice Ap o.Parents.length cp), (38, .int .i64 ((o.Parents.length : Nat) : Int)), (39, .int .i64 ((i : Nat) : Int))]) (by kernel_rfl)
        refine bn ?_
        refine tn ?_
        refine regp (ρ' := [(3, .slice A22 ((lkP o (i + 1)).length) c23), (37, .slice Ap o.Parents.length cp), (38, .int .i64 ((o.Parents.length : Nat) : Int)), (39, .int .i64 ((i + 1 : Nat) : Int))]) (C := [InR .i64 ((i + 1 : Nat) : Int)]) ha [] (by kernel_rfl) (.cons (by unfold InR; omega) .nil) ?_
        clear ha a; intro a ha
        exact tn ⟨o.Parents.length - ((i + 1)), by omega, (i + 1), A22, c23, rfl, ha.sub (ρ' := [(3, .slice A22 ((lkP o (i + 1)).length) c23), (37, .slice Ap o.Parents.length cp), (38, .int .i64 ((o.Parents.length : Nat) : Int)), (39, .int .i64 (((i + 1) : Nat) : Int))]) (by kernel_rfl), hx, hB_bo, hl, by omega⟩
      · replace h40 := of_decide_eq_false h40
        obtain rfl : i = o.Parents.length := by omega
        refine wexit ?_
        refine (te (te (be ?_)))
        refine bn ?_
        refine tn ?_
        refine wseq ?_
        refine regp (ρ' := [(2, .slice A ((lkP o o.Parents.length).length) c)]) (C := []) ha [] (by kernel_rfl) .nil ?_
        clear ha a; intro a ha
        refine tn ?_
        refine wret ?_
        refine fin ha (.tmp rfl .nil) ?_
        exact ⟨_, _, by simp [oLinks, lkE, lkP, *] <;> rfl, by simpa [oLinks, lkE, lkP, *] using hl, hx⟩
    · replace h28 := of_decide_eq_false h28
      refine wseq ?_
      refine regp (ρ' := [(1, .pointer (some ⟨bo, 0, none⟩)), (3, .slice none 0 0), (49, .bool (decide ((o.Kind : Int) = 4)))]) (C := []) ha [] (by kernel_rfl) .nil ?_
      clear ha a; intro a ha
      refine tn ?_
      refine wif ha rfl (fun h49 => ?_) (fun h49 => ?_)
      · replace h49 := of_decide_eq_true h49
        refine reg_list ?_
        refine segp (ρ' := [(51, .slice none 0 0), (56, .agg ⟨(idc o.Target) ++ ([.int .i64 o.Of])⟩)]) (C := [RunOk Try.prog w1 (Instr.loadAt 40 (.pointer (some ⟨bo, 38, none⟩))) (.agg ⟨idc o.Target⟩), RunOk Try.prog w1 (Instr.loadAt 3 (.pointer (some ⟨bo, 70, none⟩))) (.int .i64 o.Of)]) ha 6 [(2, .val (.agg ⟨idc o.Target⟩)), (4, .val (.int .i64 o.Of))] rfl (by kernel_rfl) (.cons (ldN (n := 32) hB_bo (by kernel_rfl) (by kernel_rfl) ⟨Nat.le_of_ble_eq_true (by kernel_rfl), (by kernel_rfl)⟩) (.cons (ld1 hB_bo (by kernel_rfl) (by kernel_rfl)) .nil)) ?_
        clear ha a; intro a ha
        refine lnewS ha rfl (by kernel_rfl) ⟨(idc o.Target) ++ ([.int .i64 o.Of])⟩ 82 1 (by kernel_rfl) ?_
        clear ha a; intro b25 w26 he hb_b25 hB_b25 a ha
        have hne_bo_b25 : bo ≠ b25 := ne_new hB_bo hb_b25
        replace hB_bo := keepB he hB_bo
        replace hb_b25 := Nat.le_trans hx.size hb_b25
        replace hx := hx.tr he
        clear he
        refine lapp (by_ := 40) ha rfl (by kernel_rfl) rfl (by kernel_rfl) rfl (own_nil w26 w.heap.size 82 33) rfl ((idc o.Target) ++ ([.int .i64 o.Of])) rfl (news_blk hB_b25) rfl (by omega) (by omega) hx.size ?_
        clear ha a; intro A27 c28 w29 hl hg a ha
        clear hB_b25 hb_b25
        have heg : Ext w26 w29 := ⟨hg.os, hg.tape, hg.output, hg.size, fun k hk => hg.block k hk (by simp [Value.ownBlock])⟩
        clear hg
        have he := heg; clear heg
        replace hB_bo := keepB he hB_bo
        replace hx := hx.tr he
        clear he
        rw [show (([] ++ ((idc o.Target) ++ ([.int .i64 o.Of]))) : List Value) = (([⟨o.Target, o.Of⟩] : List LinkR).flatMap encLink) from by simp [encLink]] at hl
        rw [show ((0 + 1) : Nat) = ([⟨o.Target, o.Of⟩] : List LinkR).length from rfl] at ha hl
        refine segp (ρ' := [(3, .slice A27 (([⟨o.Target, o.Of⟩] : List LinkR).length) c28)]) (C := []) ha 1 [] rfl (by kernel_rfl) .nil ?_
        clear ha a; intro a ha
        refine lnil ?_
        replace ha := ha.sub (ρ' := [(3, .slice A27 (([⟨o.Target, o.Of⟩] : List LinkR).length) c28)]) (by kernel_rfl)
        refine bn ?_
        refine tn ?_
        refine wseq ?_
        refine regp (ρ' := [(2, .slice A27 (([⟨o.Target, o.Of⟩] : List LinkR).length) c28)]) (C := []) ha [] (by kernel_rfl) .nil ?_
        clear ha a; intro a ha
        refine tn ?_
        refine wret ?_
        refine fin ha (.tmp rfl .nil) ?_
        exact ⟨_, _, by simp [oLinks, lkE, lkP, *] <;> rfl, by simpa [oLinks, lkE, lkP, *] using hl, hx⟩
      · replace h49 := of_decide_eq_false h49
        refine wskip ?_
        refine bn ?_
        refine tn ?_
        refine wseq ?_
        refine regp (ρ' := [(2, .slice none 0 0)]) (C := []) ha [] (by kernel_rfl) .nil ?_
        clear ha a; intro a ha
        refine tn ?_
        refine wret ?_
        refine fin ha (.tmp rfl .nil) ?_
        have hz : oLinks o = [] := by simp [oLinks, *]
        exact ⟨none, 0, by rw [hz]; rfl, by rw [hz]; exact own_nil _ _ _ _, hx⟩
theorem rlinks_ok (o : ObjL) (Ae Ap : Option Addr) (ce cp : Nat) (w : World) (hoe : Rd w 34 Ae o.Entries.length (o.Entries.flatMap encEnt)) (hop : Rd w 32 Ap o.Parents.length (o.Parents.flatMap idc)) (hok : ObjOk o) (hfw : FewOk o) :
    Fn Try.prog 20 #[.agg ⟨objC o Ae ce Ap cp⟩] w (fun x w' => ∃ A c, x = .slice A (oLinks o).length c ∧ Own w' w.heap.size 82 33 A (oLinks o).length c ((oLinks o).flatMap encLink) ∧ Ext w w') := by
  have hx : Ext w w := Ext.rfl' w
  refine enter (N := 69) (args := [.agg ⟨objC o Ae ce Ap cp⟩]) Try.func20 rfl rfl rfl ?_
  intro a ha
  simp only [argEnv, Nat.zero_add, Nat.reduceAdd] at ha
  refine wseq ?_
  refine reg_list ?_
  refine lnew ha rfl (by kernel_rfl) ⟨objC o Ae ce Ap cp⟩ 44 (by kernel_rfl) ?_
  clear ha a; intro bo w1 he hb_bo hB_bo a ha
  replace hb_bo := Nat.le_trans hx.size hb_bo
  replace hx := hx.tr he
  clear he
  refine segp (ρ' := [(1, .pointer (some ⟨bo, 0, none⟩))]) (C := []) ha 1 [] rfl (by kernel_rfl) .nil ?_
  clear ha a; intro a ha
  refine lnil ?_
  replace ha := ha.sub (ρ' := [(1, .pointer (some ⟨bo, 0, none⟩))]) (by kernel_rfl)
  have fe := hfw.e
  have fp := hfw.p
  refine tn ?_
  refine wseq ?_
  refine regp (ρ' := [(1, .pointer (some ⟨bo, 0, none⟩)), (3, .slice none 0 0)]) (C := []) ha [] (by kernel_rfl) .nil ?_
  clear ha a; intro a ha
  refine tn ?_
  refine wseq ?_
  refine wseq ?_
  refine regp (ρ' := [(1, .pointer (some ⟨bo, 0, none⟩)), (3, .slice none 0 0), (8, .bool (decide ((o.Kind : Int) = 2)))]) (C := [RunOk Try.prog w1 (Instr.loadAt 3 (.pointer (some ⟨bo, 0, none⟩))) (.int .i64 o.Kind)]) ha [(1, .val (.int .i64 o.Kind))] (by kernel_rfl) (.cons (ld1 hB_bo (by kernel_rfl) (by kernel_rfl)) .nil) ?_
  clear ha a; intro a ha
  refine tn ?_
  refine wif ha rfl (fun h8 => ?_) (fun h8 => ?_)
  · replace h8 := of_decide_eq_true h8
    refine wseq ?_
    refine regp (ρ' := [(1, .pointer (some ⟨bo, 0, none⟩)), (3, .slice none 0 0), (4, .int .i64 0)]) (C := []) ha [] (by kernel_rfl) .nil ?_
    clear ha a; intro a ha
    refine tn ?_
    refine wblk ?_
    refine wloop (fun zz a w2 => ∃ (i : Nat) (A : Option Addr) (c : Nat), zz = o.Entries.length - i ∧ On 69 [(1, .pointer (some ⟨bo, 0, none⟩)), (3, .slice A ((lkE o i).length) c), (4, .int .i64 ((i : Nat) : Int))] a ∧ Ext w w2 ∧ w2.heap[bo]? = some (.cells ⟨objC o Ae ce Ap cp⟩ 44 (0, 0)) ∧ Own w2 w.heap.size 82 33 A ((lkE o i).length) c ((lkE o i).flatMap encLink) ∧ (i ≤ o.Entries.length)) _ ⟨0, none, 0, rfl, ha.sub (ρ' := [(1, .pointer (some ⟨bo, 0, none⟩)), (3, .slice none ((lkE o 0).length) 0), (4, .int .i64 ((0 : Nat) : Int))]) (by kernel_rfl), hx, hB_bo, own_nil _ _ _ _, by omega⟩ ?_
    clear ha hx hB_bo
    rintro zz a w3 ⟨i, A, c, hzz, ha, hx, hB_bo, hl, hi⟩
    refine wseq ?_
    refine wseq ?_
    refine regp (ρ' := [(1, .pointer (some ⟨bo, 0, none⟩)), (3, .slice A ((lkE o i).length) c), (4, .int .i64 ((i : Nat) : Int)), (13, .bool (decide (((i : Nat) : Int) < ((o.Entries.length : Nat) : Int))))]) (C := [RunOk Try.prog w3 (Instr.loadAt 38 (.pointer (some ⟨bo, 2, none⟩))) (.slice Ae o.Entries.length ce)]) ha [(2, .val (.slice Ae o.Entries.length ce))] (by kernel_rfl) (.cons (ld1 hB_bo (by kernel_rfl) (by kernel_rfl)) .nil) ?_
    clear ha a; intro a ha
    refine tn ?_
    refine wif ha rfl (fun h13 => ?_) (fun h13 => ?_)
    · replace h13 := of_decide_eq_true h13
      have hil : i < o.Entries.length := by omega
      have hll := lkE_len o i hi
      refine wskip ?_
      refine tn ?_
      refine wseq ?_
      refine wblk ?_
      refine regM hmix ha [(2, .val (.slice Ae o.Entries.length ce)), (4, .val (.pointer (some ⟨ab Ae, ao Ae + i * 34, none⟩))), (6, .val (.agg ⟨idc ((o.Entries.getD i default).I)⟩)), (8, .val (.slice Ae o.Entries.length ce)), (10, .val (.pointer (some ⟨ab Ae, ao Ae + i * 34, none⟩))), (12, .val (.int .i64 ((o.Entries.getD i default).Kind)))] [⟨14, .des, [0], []⟩, ⟨16, .des, [1], [(31, 15)]⟩] [⟨15, .des, [14], [(30, 14)]⟩] [(3, 16)] (ρ' := [(1, .pointer (some ⟨bo, 0, none⟩)), (4, .int .i64 ((i : Nat) : Int))]) [(14, fun u w' => ∃ (b4 : Nat), u = .slice (some ⟨b4, 0, none⟩) 1 1 ∧ w3.heap.size ≤ b4 ∧ w'.heap[b4]? = some (.cells ⟨(idc ((o.Entries.getD i default).I)) ++ ([.int .i64 ((o.Entries.getD i default).Kind)])⟩ 82 (0, 0))), (16, fun u w' => ∃ (A5 : Option Addr) (c6 : Nat), u = .slice A5 ((lkE o (i + 1)).length) c6 ∧ Own w' w.heap.size 82 33 A5 ((lkE o (i + 1)).length) c6 ((lkE o (i + 1)).flatMap encLink)), (15, fun u w' => ∃ (A5 : Option Addr) (c6 : Nat), u = .slice A5 ((lkE o (i + 1)).length) c6 ∧ Own w' w.heap.size 82 33 A5 ((lkE o (i + 1)).length) c6 ((lkE o (i + 1)).flatMap encLink))] [fun w' => Ext w3 w', fun w' => w3.heap.size ≤ w'.heap.size ∧ Ext w w' ∧ w'.heap[bo]? = some (.cells ⟨objC o Ae ce Ap cp⟩ 44 (0, 0))] [(2, [0], fun w' => [RunOk Try.prog w' (Instr.loadAt 38 (.pointer (some ⟨bo, 2, none⟩))) (.slice Ae o.Entries.length ce)]), (4, [0], fun w' => [RunOk Try.prog w' (Instr.indexAt 38 (.slice Ae o.Entries.length ce) (.int .i64 ((i : Nat) : Int))) (.pointer (some ⟨ab Ae, ao Ae + i * 34, none⟩))]), (6, [0], fun w' => [RunOk Try.prog w' (Instr.loadAt 40 (.pointer (some ⟨ab Ae, ao Ae + i * 34 + 2, none⟩))) (.agg ⟨idc ((o.Entries.getD i default).I)⟩)]), (8, [0], fun w' => [RunOk Try.prog w' (Instr.loadAt 38 (.pointer (some ⟨bo, 2, none⟩))) (.slice Ae o.Entries.length ce)]), (10, [0], fun w' => [RunOk Try.prog w' (Instr.indexAt 38 (.slice Ae o.Entries.length ce) (.int .i64 ((i : Nat) : Int))) (.pointer (some ⟨ab Ae, ao Ae + i * 34, none⟩))]), (12, [0], fun w' => [RunOk Try.prog w' (Instr.loadAt 3 (.pointer (some ⟨ab Ae, ao Ae + i * 34 + 1, none⟩))) (.int .i64 ((o.Entries.getD i default).Kind))])] (by kernel_rfl) (fun w' => by kernel_rfl) (fun w' => by kernel_rfl) (by kernel_rfl) (fun w' h => h) ?_ ?_ ?_ ?_ ?_ ?_
      · refine ⟨fun w1 w2 h e => Ext.tr h e, ?_, trivial⟩
        · rintro w1 w2 ⟨hsz, hx, hB_bo⟩ he
          exact ⟨Nat.le_trans hsz he.size, hx.tr he, keepB he hB_bo⟩
      · refine ⟨?_, ?_, ?_, trivial⟩
        · rintro _ w1 w2 ⟨b4, rfl, hb_b4, hB_b4⟩ he
          exact ⟨b4, rfl, hb_b4, keepB he hB_b4⟩
        · rintro _ w1 w2 ⟨A5, c6, rfl, hl2⟩ he
          exact ⟨A5, c6, rfl, ownE he hl2⟩
        · rintro _ w1 w2 ⟨A5, c6, rfl, hl2⟩ he
          exact ⟨A5, c6, rfl, ownE he hl2⟩
      · refine ⟨⟨?_, trivial⟩, ⟨?_, trivial⟩, ⟨?_, trivial⟩, ⟨?_, trivial⟩, ⟨?_, trivial⟩, ⟨?_, trivial⟩, trivial⟩
        · intro w' hJ
          have he : Ext w3 w' := hJ
          have hsz := he.size
          replace hx := hx.tr he
          replace hB_bo := keepB he hB_bo
          replace hl := ownE he hl
          clear he
          exact (.cons (ld1 hB_bo (by kernel_rfl) (by kernel_rfl)) .nil)
        · intro w' hJ
          have he : Ext w3 w' := hJ
          have hsz := he.size
          replace hx := hx.tr he
          replace hB_bo := keepB he hB_bo
          replace hl := ownE he hl
          clear he
          exact (.cons (ixRd (e := 70) (by kernel_rfl) (by kernel_rfl) (rdE hx hoe) (by omega)) .nil)
        · intro w' hJ
          have he : Ext w3 w' := hJ
          have hsz := he.size
          replace hx := hx.tr he
          replace hB_bo := keepB he hB_bo
          replace hl := ownE he hl
          clear he
          exact (.cons (ldRdN (vs := (idc ((o.Entries.getD i default).I))) (j := i * 34 + 2) (by kernel_rfl) (by kernel_rfl) (rdE hx hoe) (by omega) (flat_part encEnt_len o.Entries default i 2 32 (by omega) (by kernel_rfl) (by decide))) .nil)
        · intro w' hJ
          have he : Ext w3 w' := hJ
          have hsz := he.size
          replace hx := hx.tr he
          replace hB_bo := keepB he hB_bo
          replace hl := ownE he hl
          clear he
          exact (.cons (ld1 hB_bo (by kernel_rfl) (by kernel_rfl)) .nil)
        · intro w' hJ
          have he : Ext w3 w' := hJ
          have hsz := he.size
          replace hx := hx.tr he
          replace hB_bo := keepB he hB_bo
          replace hl := ownE he hl
          clear he
          exact (.cons (ixRd (e := 70) (by kernel_rfl) (by kernel_rfl) (rdE hx hoe) (by omega)) .nil)
        · intro w' hJ
          have he : Ext w3 w' := hJ
          have hsz := he.size
          replace hx := hx.tr he
          replace hB_bo := keepB he hB_bo
          replace hl := ownE he hl
          clear he
          exact (.cons (ldRd (j := i * 34 + 1) (by kernel_rfl) (rdE hx hoe) (by omega) (flat_get encEnt_len o.Entries default i 1 (by omega) rfl)) .nil)
      · refine ⟨⟨?_, trivial⟩, ⟨?_, trivial⟩, trivial⟩
        · intro w' hJ
          have he : Ext w3 w' := hJ
          have hsz := he.size
          replace hx := hx.tr he
          replace hB_bo := keepB he hB_bo
          replace hl := ownE he hl
          clear he
          refine onewS ⟨(idc ((o.Entries.getD i default).I)) ++ ([.int .i64 ((o.Entries.getD i default).Kind)])⟩ 82 1 (by kernel_rfl) ?_
          intro b4 w'' he hb_b4 hB_b4
          exact ⟨⟨b4, rfl, Nat.le_trans hsz hb_b4, hB_b4⟩, he⟩
        · intro w' hJ u0 hu0
          obtain ⟨A5, c6, rfl, hl2⟩ := hu0
          obtain ⟨hsz, hx, hB_bo⟩ := hJ
          refine ox (m := none) (v := .slice A5 ((lkE o (i + 1)).length) c6) (C := []) (by kernel_rfl) .nil ?_
          intro w'' he
          exact ⟨⟨A5, c6, rfl, ownE he hl2⟩, he⟩
      · refine ⟨?_, trivial⟩
        · intro w' hJ u0 hu0
          obtain ⟨b4, rfl, hb_b4, hB_b4⟩ := hu0
          have hB_boS := hB_bo
          have hlS := hl
          have he : Ext w3 w' := hJ
          have hsz := he.size
          replace hx := hx.tr he
          replace hB_bo := keepB he hB_bo
          replace hl := ownE he hl
          clear he
          refine oapp (m := 1) (c' := 1) (ad := ⟨b4, 0, none⟩) (s := .tmp 16) (x := .tmp 30) (t := 53) (by_ := 40) (by kernel_rfl) (by kernel_rfl) (by kernel_rfl) hl (by kernel_rfl) ((idc ((o.Entries.getD i default).I)) ++ ([.int .i64 ((o.Entries.getD i default).Kind)])) rfl (news_blk hB_b4) rfl (by omega) (by omega) hx.size ?_
          intro A5 c6 w'' hl2' hg
          have h1 : (((lkE o i).flatMap encLink) ++ ((idc ((o.Entries.getD i default).I)) ++ ([.int .i64 ((o.Entries.getD i default).Kind)])) : List Value) = ((lkE o (i + 1)).flatMap encLink) := by rw [lkE_succ o i hil]; simp [encLink]
          have h2 : ((lkE o i).length + 1 : Nat) = (lkE o (i + 1)).length := by rw [lkE_succ o i hil]; simp
          rw [h1, h2] at hl2'
          rw [h2]
          exact ⟨⟨A5, c6, rfl, hl2'⟩, ⟨Nat.le_trans hsz hg.size, extG hx hg hl (Nat.le_refl _), keepG hg hl rfl hB_bo⟩, ⟨fun u hu => by obtain ⟨b4, rfl, hb_b4, hB_b4⟩ := hu; exact ⟨b4, rfl, hb_b4, keepGn hg hlS hb_b4 hB_b4⟩, trivial⟩⟩
      · clear ha a; intro a w7 hJ u0 hu0 ha
        obtain ⟨A5, c6, rfl, hl2⟩ := hu0
        clear hx hB_bo hl
        obtain ⟨hsz, hx, hB_bo⟩ := hJ
        clear hsz
        refine bn ?_
        refine tn ?_
        refine regp (ρ' := [(1, .pointer (some ⟨bo, 0, none⟩)), (3, .slice A5 ((lkE o (i + 1)).length) c6), (4, .int .i64 ((i + 1 : Nat) : Int))]) (C := [InR .i64 ((i + 1 : Nat) : Int)]) ha [] (by kernel_rfl) (.cons (by unfold InR; omega) .nil) ?_
        clear ha a; intro a ha
        exact tn ⟨o.Entries.length - ((i + 1)), by omega, (i + 1), A5, c6, rfl, ha.sub (ρ' := [(1, .pointer (some ⟨bo, 0, none⟩)), (3, .slice A5 ((lkE o (i + 1)).length) c6), (4, .int .i64 (((i + 1) : Nat) : Int))]) (by kernel_rfl), hx, hB_bo, hl2, by omega⟩
    · replace h13 := of_decide_eq_false h13
      obtain rfl : i = o.Entries.length := by omega
      refine wexit ?_
      refine (te (te (be ?_)))
      refine tn ?_
      refine wseq ?_
      refine wseq ?_
      refine regp (ρ' := [(1, .pointer (some ⟨bo, 0, none⟩)), (3, .slice A ((lkE o o.Entries.length).length) c), (34, .bool (decide ((o.Kind : Int) = 3)))]) (C := [RunOk Try.prog w3 (Instr.loadAt 3 (.pointer (some ⟨bo, 0, none⟩))) (.int .i64 o.Kind)]) ha [(1, .val (.int .i64 o.Kind))] (by kernel_rfl) (.cons (ld1 hB_bo (by kernel_rfl) (by kernel_rfl)) .nil) ?_
      clear ha a; intro a ha
      refine tn ?_
      refine wif ha rfl (fun h34 => ?_) (fun h34 => ?_)
      · replace h34 := of_decide_eq_true h34
        omega
      · replace h34 := of_decide_eq_false h34
        refine wskip ?_
        refine tn ?_
        refine wseq ?_
        refine wseq ?_
        refine regp (ρ' := [(1, .pointer (some ⟨bo, 0, none⟩)), (3, .slice A ((lkE o o.Entries.length).length) c), (59, .bool (decide ((o.Kind : Int) = 4)))]) (C := [RunOk Try.prog w3 (Instr.loadAt 3 (.pointer (some ⟨bo, 0, none⟩))) (.int .i64 o.Kind)]) ha [(1, .val (.int .i64 o.Kind))] (by kernel_rfl) (.cons (ld1 hB_bo (by kernel_rfl) (by kernel_rfl)) .nil) ?_
        clear ha a; intro a ha
        refine tn ?_
        refine wif ha rfl (fun h59 => ?_) (fun h59 => ?_)
        · replace h59 := of_decide_eq_true h59
          omega
        · replace h59 := of_decide_eq_false h59
          refine wskip ?_
          refine tn ?_
          refine wseq ?_
          refine regp (ρ' := [(2, .slice A ((lkE o o.Entries.length).length) c)]) (C := []) ha [] (by kernel_rfl) .nil ?_
          clear ha a; intro a ha
          refine tn ?_
          refine wret ?_
          refine fin ha (.tmp rfl .nil) ?_
          exact ⟨_, _, by simp [oLinks, lkE, lkP, *] <;> rfl, by simpa [oLinks, lkE, lkP, *] using hl, hx⟩
  · replace h8 := of_decide_eq_false h8
    have hn2 : ¬ o.Kind = 2 := h8
    refine wskip ?_
    refine tn ?_
    refine wseq ?_
    refine wseq ?_
    refine regp (ρ' := [(1, .pointer (some ⟨bo, 0, none⟩)), (3, .slice none 0 0), (34, .bool (decide ((o.Kind : Int) = 3)))]) (C := [RunOk Try.prog w1 (Instr.loadAt 3 (.pointer (some ⟨bo, 0, none⟩))) (.int .i64 o.Kind)]) ha [(1, .val (.int .i64 o.Kind))] (by kernel_rfl) (.cons (ld1 hB_bo (by kernel_rfl) (by kernel_rfl)) .nil) ?_
    clear ha a; intro a ha
    refine tn ?_
    refine wif ha rfl (fun h34 => ?_) (fun h34 => ?_)
    · replace h34 := of_decide_eq_true h34
      refine wseq ?_
      refine reg_list ?_
      refine segp (ρ' := [(1, .pointer (some ⟨bo, 0, none⟩)), (35, .slice none 0 0), (38, .agg ⟨(idc o.Tree) ++ ([.int .i64 2])⟩)]) (C := [RunOk Try.prog w1 (Instr.loadAt 40 (.pointer (some ⟨bo, 3, none⟩))) (.agg ⟨idc o.Tree⟩)]) ha 4 [(2, .val (.agg ⟨idc o.Tree⟩))] rfl (by kernel_rfl) (.cons (ldN (n := 32) hB_bo (by kernel_rfl) (by kernel_rfl) ⟨Nat.le_of_ble_eq_true (by kernel_rfl), (by kernel_rfl)⟩) .nil) ?_
      clear ha a; intro a ha
      refine lnewS ha rfl (by kernel_rfl) ⟨(idc o.Tree) ++ ([.int .i64 2])⟩ 82 1 (by kernel_rfl) ?_
      clear ha a; intro b8 w9 he hb_b8 hB_b8 a ha
      have hne_bo_b8 : bo ≠ b8 := ne_new hB_bo hb_b8
      replace hB_bo := keepB he hB_bo
      replace hb_b8 := Nat.le_trans hx.size hb_b8
      replace hx := hx.tr he
      clear he
      refine lapp (by_ := 40) ha rfl (by kernel_rfl) rfl (by kernel_rfl) rfl (own_nil w9 w.heap.size 82 33) rfl ((idc o.Tree) ++ ([.int .i64 2])) rfl (news_blk hB_b8) rfl (by omega) (by omega) hx.size ?_
      clear ha a; intro A10 c11 w12 hl hg a ha
      clear hB_b8 hb_b8
      have heg : Ext w9 w12 := ⟨hg.os, hg.tape, hg.output, hg.size, fun k hk => hg.block k hk (by simp [Value.ownBlock])⟩
      clear hg
      have he := heg; clear heg
      replace hB_bo := keepB he hB_bo
      replace hx := hx.tr he
      clear he
      rw [show (([] ++ ((idc o.Tree) ++ ([.int .i64 2]))) : List Value) = ((lkP o 0).flatMap encLink) from by simp [lkP, encLink]] at hl
      rw [show ((0 + 1) : Nat) = (lkP o 0).length from by simp [lkP]] at ha hl
      refine segp (ρ' := [(1, .pointer (some ⟨bo, 0, none⟩)), (3, .slice A10 ((lkP o 0).length) c11)]) (C := []) ha 1 [] rfl (by kernel_rfl) .nil ?_
      clear ha a; intro a ha
      refine lnil ?_
      replace ha := ha.sub (ρ' := [(1, .pointer (some ⟨bo, 0, none⟩)), (3, .slice A10 ((lkP o 0).length) c11)]) (by kernel_rfl)
      refine tn ?_
      refine wseq ?_
      refine regp (ρ' := [(1, .pointer (some ⟨bo, 0, none⟩)), (3, .slice A10 ((lkP o 0).length) c11), (5, .int .i64 0)]) (C := []) ha [] (by kernel_rfl) .nil ?_
      clear ha a; intro a ha
      refine tn ?_
      refine wblk ?_
      refine wloop (fun zz a w13 => ∃ (i : Nat) (A : Option Addr) (c : Nat), zz = o.Parents.length - i ∧ On 69 [(1, .pointer (some ⟨bo, 0, none⟩)), (3, .slice A ((lkP o i).length) c), (5, .int .i64 ((i : Nat) : Int))] a ∧ Ext w w13 ∧ w13.heap[bo]? = some (.cells ⟨objC o Ae ce Ap cp⟩ 44 (0, 0)) ∧ Own w13 w.heap.size 82 33 A ((lkP o i).length) c ((lkP o i).flatMap encLink) ∧ (i ≤ o.Parents.length)) _ ⟨0, A10, c11, rfl, ha.sub (ρ' := [(1, .pointer (some ⟨bo, 0, none⟩)), (3, .slice A10 ((lkP o 0).length) c11), (5, .int .i64 ((0 : Nat) : Int))]) (by kernel_rfl), hx, hB_bo, hl, by omega⟩ ?_
      clear ha hx hB_bo hl
      rintro zz a w14 ⟨i, A, c, hzz, ha, hx, hB_bo, hl, hi⟩
      refine wseq ?_
      refine wseq ?_
      refine regp (ρ' := [(1, .pointer (some ⟨bo, 0, none⟩)), (3, .slice A ((lkP o i).length) c), (5, .int .i64 ((i : Nat) : Int)), (45, .bool (decide (((i : Nat) : Int) < ((o.Parents.length : Nat) : Int))))]) (C := [RunOk Try.prog w14 (Instr.loadAt 41 (.pointer (some ⟨bo, 35, none⟩))) (.slice Ap o.Parents.length cp)]) ha [(2, .val (.slice Ap o.Parents.length cp))] (by kernel_rfl) (.cons (ld1 hB_bo (by kernel_rfl) (by kernel_rfl)) .nil) ?_
      clear ha a; intro a ha
      refine tn ?_
      refine wif ha rfl (fun h45 => ?_) (fun h45 => ?_)
      · replace h45 := of_decide_eq_true h45
        have hil : i < o.Parents.length := by omega
        have hll := lkP_len o i hi
        refine wskip ?_
        refine tn ?_
        refine wseq ?_
        refine wblk ?_
        refine reg_list ?_
        refine segp (ρ' := [(1, .pointer (some ⟨bo, 0, none⟩)), (5, .int .i64 ((i : Nat) : Int)), (48, .slice A ((lkP o i).length) c), (54, .agg ⟨(idc (o.Parents.getD i default)) ++ ([.int .i64 3])⟩)]) (C := [RunOk Try.prog w14 (Instr.loadAt 41 (.pointer (some ⟨bo, 35, none⟩))) (.slice Ap o.Parents.length cp), RunOk Try.prog w14 (Instr.indexAt 41 (.slice Ap o.Parents.length cp) (.int .i64 ((i : Nat) : Int))) (.pointer (some ⟨ab Ap, ao Ap + i * 32, none⟩)), RunOk Try.prog w14 (Instr.loadAt 40 (.pointer (some ⟨ab Ap, ao Ap + i * 32, none⟩))) (.agg ⟨idc (o.Parents.getD i default)⟩)]) ha 7 [(2, .val (.slice Ap o.Parents.length cp)), (4, .val (.pointer (some ⟨ab Ap, ao Ap + i * 32, none⟩))), (5, .val (.agg ⟨idc (o.Parents.getD i default)⟩))] rfl (by kernel_rfl) (.cons (ld1 hB_bo (by kernel_rfl) (by kernel_rfl)) (.cons (ixRd (e := 40) (by kernel_rfl) (by kernel_rfl) (rdE hx hop) (by omega)) (.cons (ldRdN (vs := idc (o.Parents.getD i default)) (j := i * 32) (by kernel_rfl) (by kernel_rfl) (rdE hx hop) (by omega) (flat_seg idc_len o.Parents default i (by omega))) .nil))) ?_
        clear ha a; intro a ha
        refine lnewS ha rfl (by kernel_rfl) ⟨(idc (o.Parents.getD i default)) ++ ([.int .i64 3])⟩ 82 1 (by kernel_rfl) ?_
        clear ha a; intro b15 w16 he hb_b15 hB_b15 a ha
        have hne_bo_b15 : bo ≠ b15 := ne_new hB_bo hb_b15
        have hno_hl_b15 : (Value.slice A ((lkP o i).length) c).ownBlock ≠ some b15 := own_ne hl hb_b15
        replace hB_bo := keepB he hB_bo
        replace hl := ownE he hl
        replace hb_b15 := Nat.le_trans hx.size hb_b15
        replace hx := hx.tr he
        clear he
        refine lapp (by_ := 40) ha rfl (by kernel_rfl) rfl (by kernel_rfl) rfl hl rfl ((idc (o.Parents.getD i default)) ++ ([.int .i64 3])) rfl (news_blk hB_b15) rfl (by omega) (by omega) hx.size ?_
        clear ha a; intro A17 c18 w19 hl' hg a ha
        clear hB_b15 hb_b15
        replace hB_bo := keepG hg hl rfl hB_bo
        replace hx := extG hx hg hl (Nat.le_refl _)
        clear hg hl
        rename_i _; have hl := hl'; clear hl'
        rw [show ((((lkP o i).flatMap encLink) ++ ((idc (o.Parents.getD i default)) ++ ([.int .i64 3]))) : List Value) = ((lkP o (i + 1)).flatMap encLink) from by rw [lkP_succ o i hil]; simp [encLink]] at hl
        rw [show (((lkP o i).length + 1) : Nat) = (lkP o (i + 1)).length from by rw [lkP_succ o i hil]; simp] at ha hl
        refine segp (ρ' := [(1, .pointer (some ⟨bo, 0, none⟩)), (3, .slice A17 ((lkP o (i + 1)).length) c18), (5, .int .i64 ((i : Nat) : Int))]) (C := []) ha 1 [] rfl (by kernel_rfl) .nil ?_
        clear ha a; intro a ha
        refine lnil ?_
        replace ha := ha.sub (ρ' := [(1, .pointer (some ⟨bo, 0, none⟩)), (3, .slice A17 ((lkP o (i + 1)).length) c18), (5, .int .i64 ((i : Nat) : Int))]) (by kernel_rfl)
        refine bn ?_
        refine tn ?_
        refine regp (ρ' := [(1, .pointer (some ⟨bo, 0, none⟩)), (3, .slice A17 ((lkP o (i + 1)).length) c18), (5, .int .i64 ((i + 1 : Nat) : Int))]) (C := [InR .i64 ((i + 1 : Nat) : Int)]) ha [] (by kernel_rfl) (.cons (by unfold InR; omega) .nil) ?_
        clear ha a; intro a ha
        exact tn ⟨o.Parents.length - ((i + 1)), by omega, (i + 1), A17, c18, rfl, ha.sub (ρ' := [(1, .pointer (some ⟨bo, 0, none⟩)), (3, .slice A17 ((lkP o (i + 1)).length) c18), (5, .int .i64 (((i + 1) : Nat) : Int))]) (by kernel_rfl), hx, hB_bo, hl, by omega⟩
      · replace h45 := of_decide_eq_false h45
        obtain rfl : i = o.Parents.length := by omega
        refine wexit ?_
        refine (te (te (be ?_)))
        refine tn ?_
        refine wseq ?_
        refine wseq ?_
        refine regp (ρ' := [(1, .pointer (some ⟨bo, 0, none⟩)), (3, .slice A ((lkP o o.Parents.length).length) c), (59, .bool (decide ((o.Kind : Int) = 4)))]) (C := [RunOk Try.prog w14 (Instr.loadAt 3 (.pointer (some ⟨bo, 0, none⟩))) (.int .i64 o.Kind)]) ha [(1, .val (.int .i64 o.Kind))] (by kernel_rfl) (.cons (ld1 hB_bo (by kernel_rfl) (by kernel_rfl)) .nil) ?_
        clear ha a; intro a ha
        refine tn ?_
        refine wif ha rfl (fun h59 => ?_) (fun h59 => ?_)
        · replace h59 := of_decide_eq_true h59
          omega
        · replace h59 := of_decide_eq_false h59
          refine wskip ?_
          refine tn ?_
          refine wseq ?_
          refine regp (ρ' := [(2, .slice A ((lkP o o.Parents.length).length) c)]) (C := []) ha [] (by kernel_rfl) .nil ?_
          clear ha a; intro a ha
          refine tn ?_
          refine wret ?_
          refine fin ha (.tmp rfl .nil) ?_
          exact ⟨_, _, by simp [oLinks, lkE, lkP, *] <;> rfl, by simpa [oLinks, lkE, lkP, *] using hl, hx⟩
    · replace h34 := of_decide_eq_false h34
      refine wskip ?_
      refine tn ?_
      refine wseq ?_
      refine wseq ?_
      refine regp (ρ' := [(1, .pointer (some ⟨bo, 0, none⟩)), (3, .slice none 0 0), (59, .bool (decide ((o.Kind : Int) = 4)))]) (C := [RunOk Try.prog w1 (Instr.loadAt 3 (.pointer (some ⟨bo, 0, none⟩))) (.int .i64 o.Kind)]) ha [(1, .val (.int .i64 o.Kind))] (by kernel_rfl) (.cons (ld1 hB_bo (by kernel_rfl) (by kernel_rfl)) .nil) ?_
      clear ha a; intro a ha
      refine tn ?_
      refine wif ha rfl (fun h59 => ?_) (fun h59 => ?_)
      · replace h59 := of_decide_eq_true h59
        refine reg_list ?_
        refine segp (ρ' := [(60, .slice none 0 0), (65, .agg ⟨(idc o.Target) ++ ([.int .i64 o.Of])⟩)]) (C := [RunOk Try.prog w1 (Instr.loadAt 40 (.pointer (some ⟨bo, 38, none⟩))) (.agg ⟨idc o.Target⟩), RunOk Try.prog w1 (Instr.loadAt 3 (.pointer (some ⟨bo, 70, none⟩))) (.int .i64 o.Of)]) ha 6 [(2, .val (.agg ⟨idc o.Target⟩)), (4, .val (.int .i64 o.Of))] rfl (by kernel_rfl) (.cons (ldN (n := 32) hB_bo (by kernel_rfl) (by kernel_rfl) ⟨Nat.le_of_ble_eq_true (by kernel_rfl), (by kernel_rfl)⟩) (.cons (ld1 hB_bo (by kernel_rfl) (by kernel_rfl)) .nil)) ?_
        clear ha a; intro a ha
        refine lnewS ha rfl (by kernel_rfl) ⟨(idc o.Target) ++ ([.int .i64 o.Of])⟩ 82 1 (by kernel_rfl) ?_
        clear ha a; intro b20 w21 he hb_b20 hB_b20 a ha
        have hne_bo_b20 : bo ≠ b20 := ne_new hB_bo hb_b20
        replace hB_bo := keepB he hB_bo
        replace hb_b20 := Nat.le_trans hx.size hb_b20
        replace hx := hx.tr he
        clear he
        refine lapp (by_ := 40) ha rfl (by kernel_rfl) rfl (by kernel_rfl) rfl (own_nil w21 w.heap.size 82 33) rfl ((idc o.Target) ++ ([.int .i64 o.Of])) rfl (news_blk hB_b20) rfl (by omega) (by omega) hx.size ?_
        clear ha a; intro A22 c23 w24 hl hg a ha
        clear hB_b20 hb_b20
        have heg : Ext w21 w24 := ⟨hg.os, hg.tape, hg.output, hg.size, fun k hk => hg.block k hk (by simp [Value.ownBlock])⟩
        clear hg
        have he := heg; clear heg
        replace hB_bo := keepB he hB_bo
        replace hx := hx.tr he
        clear he
        rw [show (([] ++ ((idc o.Target) ++ ([.int .i64 o.Of]))) : List Value) = (([⟨o.Target, o.Of⟩] : List LinkR).flatMap encLink) from by simp [encLink]] at hl
        rw [show ((0 + 1) : Nat) = ([⟨o.Target, o.Of⟩] : List LinkR).length from rfl] at ha hl
        refine segp (ρ' := [(3, .slice A22 (([⟨o.Target, o.Of⟩] : List LinkR).length) c23)]) (C := []) ha 1 [] rfl (by kernel_rfl) .nil ?_
        clear ha a; intro a ha
        refine lnil ?_
        replace ha := ha.sub (ρ' := [(3, .slice A22 (([⟨o.Target, o.Of⟩] : List LinkR).length) c23)]) (by kernel_rfl)
        refine tn ?_
        refine wseq ?_
        refine regp (ρ' := [(2, .slice A22 (([⟨o.Target, o.Of⟩] : List LinkR).length) c23)]) (C := []) ha [] (by kernel_rfl) .nil ?_
        clear ha a; intro a ha
        refine tn ?_
        refine wret ?_
        refine fin ha (.tmp rfl .nil) ?_
        exact ⟨_, _, by simp [oLinks, lkE, lkP, *] <;> rfl, by simpa [oLinks, lkE, lkP, *] using hl, hx⟩
      · replace h59 := of_decide_eq_false h59
        refine wskip ?_
        refine tn ?_
        refine wseq ?_
        refine regp (ρ' := [(2, .slice none 0 0)]) (C := []) ha [] (by kernel_rfl) .nil ?_
        clear ha a; intro a ha
        refine tn ?_
        refine wret ?_
        refine fin ha (.tmp rfl .nil) ?_
        have hz : oLinks o = [] := by simp [oLinks, *]
        exact ⟨none, 0, by rw [hz]; rfl, by rw [hz]; exact own_nil _ _ _ _, hx⟩
theorem samelinks_ok (Al Am : Option Addr) (cl cm : Nat) (l m : List LinkR) (w : World) (hrl : Rd w 33 Al l.length (l.flatMap encLink)) (hrm : Rd w 33 Am m.length (m.flatMap encLink)) (hll : l.length ≤ 9223372036854775807) (hkl : ∀ i < l.length, InR .i64 (l.getD i default).Kind) (hkm : ∀ i < m.length, InR .i64 (m.getD i default).Kind) :
    Fn Try.prog 21 #[.slice Al l.length cl, .slice Am m.length cm] w (fun x w' => x = .bool (decide (l = m)) ∧ Ext w w') := by
  have hx : Ext w w := Ext.rfl' w
  refine enter (N := 26) (args := [.slice Al l.length cl, .slice Am m.length cm]) Try.func21 rfl rfl rfl ?_
  intro a ha
  simp only [argEnv, Nat.zero_add, Nat.reduceAdd] at ha
  refine wseq ?_
  refine regp (ρ' := [(0, .slice Al l.length cl), (1, .slice Am m.length cm)]) (C := []) ha [] (by kernel_rfl) .nil ?_
  clear ha a; intro a ha
  refine tn ?_
  refine wseq ?_
  refine wseq ?_
  refine regp (ρ' := [(0, .slice Al l.length cl), (1, .slice Am m.length cm), (10, .bool (!decide (((l.length : Nat) : Int) = ((m.length : Nat) : Int))))]) (C := []) ha [] (by kernel_rfl) .nil ?_
  clear ha a; intro a ha
  refine tn ?_
  refine wif ha rfl (fun h10 => ?_) (fun h10 => ?_)
  · simp only [Bool.not_eq_true', Bool.not_eq_false', Bool.and_eq_true, Bool.or_eq_true, Bool.and_eq_false_iff, Bool.or_eq_false_iff, decide_eq_true_eq, decide_eq_false_iff_not, Bool.not_eq_true, Decidable.not_not] at h10
    have hres : decide (l = m) = false := decide_eq_false (fun e => h10 (by rw [e]))
    refine wseq ?_
    refine regp (ρ' := [(4, .bool false)]) (C := []) ha [] (by kernel_rfl) .nil ?_
    clear ha a; intro a ha
    refine tn ?_
    refine wret ?_
    refine (tr ?_)
    refine fin ha (.tmp rfl .nil) ?_
    exact ⟨congrArg Value.bool hres.symm, hx⟩
  · simp only [Bool.not_eq_true', Bool.not_eq_false', Bool.and_eq_true, Bool.or_eq_true, Bool.and_eq_false_iff, Bool.or_eq_false_iff, decide_eq_true_eq, decide_eq_false_iff_not, Bool.not_eq_true, Decidable.not_not] at h10
    refine wskip ?_
    refine tn ?_
    refine wseq ?_
    refine wseq ?_
    refine regp (ρ' := [(0, .slice Al l.length cl), (1, .slice Am m.length cm), (5, .int .i64 0)]) (C := []) ha [] (by kernel_rfl) .nil ?_
    clear ha a; intro a ha
    refine tn ?_
    refine wblk ?_
    refine wloop (fun zz a w1 => ∃ (i : Nat), zz = l.length - i ∧ On 26 [(0, .slice Al l.length cl), (1, .slice Am m.length cm), (5, .int .i64 ((i : Nat) : Int))] a ∧ Ext w w1 ∧ (i ≤ l.length) ∧ (l.take i = m.take i)) _ ⟨0, rfl, ha.sub (ρ' := [(0, .slice Al l.length cl), (1, .slice Am m.length cm), (5, .int .i64 ((0 : Nat) : Int))]) (by kernel_rfl), hx, by omega, rfl⟩ ?_
    clear ha hx
    rintro zz a w2 ⟨i, hzz, ha, hx, hi, hs⟩
    refine wseq ?_
    refine wseq ?_
    refine regp (ρ' := [(0, .slice Al l.length cl), (1, .slice Am m.length cm), (5, .int .i64 ((i : Nat) : Int)), (14, .bool (decide (((i : Nat) : Int) < ((l.length : Nat) : Int))))]) (C := []) ha [] (by kernel_rfl) .nil ?_
    clear ha a; intro a ha
    refine tn ?_
    refine wif ha rfl (fun h14 => ?_) (fun h14 => ?_)
    · replace h14 := of_decide_eq_true h14
      have hil : i < l.length := by omega
      have hk1 := hkl i hil
      have hk2 := hkm i (by omega)
      refine wskip ?_
      refine tn ?_
      refine wseq ?_
      refine wblk ?_
      refine wseq ?_
      refine reg hmix (ρ' := [(0, .slice Al l.length cl), (1, .slice Am m.length cm), (5, .int .i64 ((i : Nat) : Int)), (25, .bool (!decide ((l.getD i default) = (m.getD i default))))]) (C := [RunOk Try.prog w2 (Instr.indexAt 53 (.slice Al l.length cl) (.int .i64 ((i : Nat) : Int))) (.pointer (some ⟨ab Al, ao Al + i * 33, none⟩)), RunOk Try.prog w2 (Instr.loadAt 82 (.pointer (some ⟨ab Al, ao Al + i * 33, none⟩))) (.agg ⟨encLink (l.getD i default)⟩), RunOk Try.prog w2 (Instr.indexAt 53 (.slice Am m.length cm) (.int .i64 ((i : Nat) : Int))) (.pointer (some ⟨ab Am, ao Am + i * 33, none⟩)), RunOk Try.prog w2 (Instr.loadAt 82 (.pointer (some ⟨ab Am, ao Am + i * 33, none⟩))) (.agg ⟨encLink (m.getD i default)⟩), BinOk Try.prog .neq 82 (.agg ⟨encLink (l.getD i default)⟩) (.agg ⟨encLink (m.getD i default)⟩) (.bool (!decide ((l.getD i default) = (m.getD i default))))]) ha [(2, .val (.pointer (some ⟨ab Al, ao Al + i * 33, none⟩))), (3, .val (.agg ⟨encLink (l.getD i default)⟩)), (6, .val (.pointer (some ⟨ab Am, ao Am + i * 33, none⟩))), (7, .val (.agg ⟨encLink (m.getD i default)⟩)), (8, .val (.bool (!decide ((l.getD i default) = (m.getD i default)))))] (by kernel_rfl) (.cons (ixRd (e := 82) (by kernel_rfl) (by kernel_rfl) (rdE hx hrl) (by omega)) (.cons (ldRdK (k := 33) (vs := encLink (l.getD i default)) (j := i * 33) (by kernel_rfl) (encLink_len _) (by kernel_rfl) (rdE hx hrl) (by omega) (flat_seg encLink_len l default i (by omega))) (.cons (ixRd (e := 82) (by kernel_rfl) (by kernel_rfl) (rdE hx hrm) (by omega)) (.cons (ldRdK (k := 33) (vs := encLink (m.getD i default)) (j := i * 33) (by kernel_rfl) (encLink_len _) (by kernel_rfl) (rdE hx hrm) (by omega) (flat_seg encLink_len m default i (by omega))) (.cons (eqLink_neq (x := (l.getD i default)) (y := (m.getD i default)) (by assumption) (by assumption)) .nil))))) ?_
      clear ha a; intro a w3 ha he
      replace hx := hx.tr he
      clear he
      refine tn ?_
      refine wif ha rfl (fun h25 => ?_) (fun h25 => ?_)
      · simp only [Bool.not_eq_true', Bool.not_eq_false', Bool.and_eq_true, Bool.or_eq_true, Bool.and_eq_false_iff, Bool.or_eq_false_iff, decide_eq_true_eq, decide_eq_false_iff_not, Bool.not_eq_true, Decidable.not_not] at h25
        have hres : decide (l = m) = false := decide_eq_false (fun e => h25 (by rw [e]))
        refine wseq ?_
        refine regp (ρ' := [(4, .bool false)]) (C := []) ha [] (by kernel_rfl) .nil ?_
        clear ha a; intro a ha
        refine tn ?_
        refine wret ?_
        refine (br (tr (tr (br (tr ?_)))))
        refine fin ha (.tmp rfl .nil) ?_
        exact ⟨congrArg Value.bool hres.symm, hx⟩
      · simp only [Bool.not_eq_true', Bool.not_eq_false', Bool.and_eq_true, Bool.or_eq_true, Bool.and_eq_false_iff, Bool.or_eq_false_iff, decide_eq_true_eq, decide_eq_false_iff_not, Bool.not_eq_true, Decidable.not_not] at h25
        refine wskip ?_
        refine bn ?_
        refine tn ?_
        refine regp (ρ' := [(0, .slice Al l.length cl), (1, .slice Am m.length cm), (5, .int .i64 ((i + 1 : Nat) : Int))]) (C := [InR .i64 ((i + 1 : Nat) : Int)]) ha [] (by kernel_rfl) (.cons (by unfold InR; omega) .nil) ?_
        clear ha a; intro a ha
        exact tn ⟨l.length - ((i + 1)), by omega, (i + 1), rfl, ha.sub (ρ' := [(0, .slice Al l.length cl), (1, .slice Am m.length cm), (5, .int .i64 (((i + 1) : Nat) : Int))]) (by kernel_rfl), hx, by omega, by rw [take_snoc l i hil, take_snoc m i (by omega), hs, h25]⟩
    · replace h14 := of_decide_eq_false h14
      have hres : decide (l = m) = true := decide_eq_true (by rw [List.take_of_length_le (by omega), List.take_of_length_le (by omega)] at hs; exact hs)
      refine wexit ?_
      refine (te (te (be ?_)))
      refine tn ?_
      refine wseq ?_
      refine regp (ρ' := [(4, .bool true)]) (C := []) ha [] (by kernel_rfl) .nil ?_
      clear ha a; intro a ha
      refine tn ?_
      refine wret ?_
      refine fin ha (.tmp rfl .nil) ?_
      exact ⟨congrArg Value.bool hres.symm, hx⟩
theorem take_ok (l : List UInt8) (w : World) (hl : l.length ≤ 9223372036854775807) :
    Fn Try.prog 34 #[.string (S l)] w (fun x w' => x = .tuple #[.string (S (vtake l).1), .string (S (vtake l).2.1), .int .i64 (((vtake l).2.2 : Nat) : Int)] ∧ Ext w w') := by
  have hx : Ext w w := Ext.rfl' w
  refine enter (N := 29) (args := [.string (S l)]) Try.func34 rfl rfl rfl ?_
  intro a ha
  simp only [argEnv, Nat.zero_add, Nat.reduceAdd] at ha
  refine wseq ?_
  refine regp (ρ' := [(0, .string (S l))]) (C := []) ha [] (by kernel_rfl) .nil ?_
  clear ha a; intro a ha
  refine tn ?_
  refine wseq ?_
  refine reg hmix (ρ' := [(5, .int .u64 (((vget l).1 : Nat) : Int)), (6, .string (S ((vget l).2.1))), (7, .int .i64 (((vget l).2.2 : Nat) : Int))]) (C := [CallOk Try.prog w 44 #[.string (S l)] (.tuple #[.int .u64 (((vget l).1 : Nat) : Int), .string (S ((vget l).2.1)), .int .i64 (((vget l).2.2 : Nat) : Int)])]) ha [(1, .val (.tuple #[.int .u64 (((vget l).1 : Nat) : Int), .string (S ((vget l).2.1)), .int .i64 (((vget l).2.2 : Nat) : Int)]))] (by kernel_rfl) (.cons (fun w _ => get_ok _ w (by omega)) .nil) ?_
  clear ha a; intro a w1 ha he
  replace hx := hx.tr he
  clear he
  have hgl := vget_len l
  have hg64 := vget_lt l
  refine tn ?_
  refine wseq ?_
  refine wseq ?_
  refine regp (ρ' := [(5, .int .u64 (((vget l).1 : Nat) : Int)), (6, .string (S ((vget l).2.1))), (22, .bool ((!decide ((((vget l).2.2 : Nat) : Int) = 0)) || (decide (((((vget l).2.1).length : Nat) : Int) < (((vget l).1 : Nat) : Int)))))]) (C := [(!decide ((((vget l).2.2 : Nat) : Int) = 0)) = false → All [InR .u64 ((((vget l).2.1).length : Nat) : Int)]]) ha [] (by kernel_rfl) (.cons (fun hg3 => by simp only [Bool.not_eq_true', Bool.not_eq_false', Bool.and_eq_true, Bool.or_eq_true, Bool.and_eq_false_iff, Bool.or_eq_false_iff, decide_eq_true_eq, decide_eq_false_iff_not, Bool.not_eq_true, Decidable.not_not] at hg3; exact (.cons (by unfold InR; omega) .nil)) .nil) ?_
  clear ha a; intro a ha
  refine tn ?_
  refine wif ha rfl (fun h22 => ?_) (fun h22 => ?_)
  · simp only [Bool.not_eq_true', Bool.not_eq_false', Bool.and_eq_true, Bool.or_eq_true, Bool.and_eq_false_iff, Bool.or_eq_false_iff, decide_eq_true_eq, decide_eq_false_iff_not, Bool.not_eq_true, Decidable.not_not] at h22
    have hres : vtake l = ([], [], 2) := by unfold vtake; rw [if_pos (by omega)]
    refine wseq ?_
    refine regp (ρ' := [(2, .string (S [])), (3, .string (S [])), (4, .int .i64 2)]) (C := []) ha [] (by kernel_rfl) .nil ?_
    clear ha a; intro a ha
    refine tn ?_
    refine wret ?_
    refine (tr ?_)
    refine fin ha (.tmp rfl (.tmp rfl (.tmp rfl .nil))) ?_
    exact ⟨by rw [hres]; rfl, hx⟩
  · simp only [Bool.not_eq_true', Bool.not_eq_false', Bool.and_eq_true, Bool.or_eq_true, Bool.and_eq_false_iff, Bool.or_eq_false_iff, decide_eq_true_eq, decide_eq_false_iff_not, Bool.not_eq_true, Decidable.not_not] at h22
    have hres : vtake l = ((vget l).2.1.take (vget l).1, (vget l).2.1.drop (vget l).1, 0) := by unfold vtake; rw [if_neg (by omega)]
    refine wskip ?_
    refine tn ?_
    refine wseq ?_
    refine reg hmix (ρ' := [(2, .string (S (((vget l).2.1).take ((vget l).1)))), (3, .string (S (((vget l).2.1).drop ((vget l).1)))), (4, .int .i64 0)]) (C := [0 ≤ (((vget l).1 : Nat) : Int) ∧ (((vget l).1 : Nat) : Int) ≤ (((vget l).2.1).length : Int), 0 ≤ (((vget l).1 : Nat) : Int) ∧ (((vget l).1 : Nat) : Int) ≤ (((vget l).2.1).length : Int)]) ha [] (by kernel_rfl) (.cons ⟨by omega, by omega⟩ (.cons ⟨by omega, by omega⟩ .nil)) ?_
    clear ha a; intro a w2 ha he
    replace hx := hx.tr he
    clear he
    refine tn ?_
    refine wret ?_
    refine fin ha (.tmp rfl (.tmp rfl (.tmp rfl .nil))) ?_
    exact ⟨by rw [hres]; rfl, hx⟩
end Go.Kn
