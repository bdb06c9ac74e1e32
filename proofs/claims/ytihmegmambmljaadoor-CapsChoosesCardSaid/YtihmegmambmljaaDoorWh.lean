import Derived.Test.YtihmegmambmljaaDoorPlainG
import Derived.Test.YtihmegmambmljaaDoorWg
set_option linter.unusedSimpArgs false
set_option linter.unusedVariables false
set_option maxRecDepth 100000
namespace Go.Kn
open Go.Proofs
theorem ixb_ok (l : List UInt8) (c : Int) (w : World) :
    Fn Tryd.prog 69 #[.string (S l), .int .u8 c] w (fun x w' => x = .int .i64 (Go.Lib.indexByte l c.toNat.toUInt8) ∧ Ext w w') := by
  have hx : Ext w w := Ext.rfl' w
  refine enter (N := 8) (args := [.string (S l), .int .u8 c]) Tryd.func69 rfl rfl rfl ?_
  intro a ha
  simp only [argEnv, Nat.zero_add, Nat.reduceAdd] at ha
  refine wseq ?_
  refine regp (ρ' := [(0, .string (S l)), (1, .int .u8 c)]) (C := []) ha [] (by kernel_rfl) .nil ?_
  clear ha a; intro a ha
  refine tn ?_
  refine wseq ?_
  refine reg_list ?_
  refine segp (ρ' := [(5, .string (S l)), (6, .int .u8 c)]) (C := []) ha 2 [] rfl (by kernel_rfl) .nil ?_
  clear ha a; intro a ha
  refine lext (e := Extern.BytealgIndexByte.indexByte) (vs := #[.string (S l), .int .u8 c]) (v := .int .i64 (Go.Lib.indexByte l (c : Int).toNat.toUInt8)) ha rfl (by kernel_rfl) rfl rfl (by kernel_rfl) Tryd.func99 (by kernel_rfl) (by kernel_rfl) (by kernel_rfl) (by kernel_rfl) (Go.Lib.run_indexByteString _ _ _) ?_
  clear ha a; intro a ha
  refine segp (ρ' := [(4, .int .i64 (Go.Lib.indexByte l (c : Int).toNat.toUInt8))]) (C := []) ha 1 [] rfl (by kernel_rfl) .nil ?_
  clear ha a; intro a ha
  refine lnil ?_
  replace ha := ha.sub (ρ' := [(4, .int .i64 (Go.Lib.indexByte l (c : Int).toNat.toUInt8))]) (by kernel_rfl)
  refine tn ?_
  refine wret ?_
  refine fin ha (.tmp rfl .nil) ?_
  exact ⟨rfl, hx⟩
theorem sixb_ok (l : List UInt8) (c : Int) (w : World) :
    Fn Tryd.prog 41 #[.string (S l), .int .u8 c] w (fun x w' => x = .int .i64 (Go.Lib.indexByte l c.toNat.toUInt8) ∧ Ext w w') := by
  have hx : Ext w w := Ext.rfl' w
  refine enter (N := 8) (args := [.string (S l), .int .u8 c]) Tryd.func41 rfl rfl rfl ?_
  intro a ha
  simp only [argEnv, Nat.zero_add, Nat.reduceAdd] at ha
  refine wseq ?_
  refine regp (ρ' := [(0, .string (S l)), (1, .int .u8 c)]) (C := []) ha [] (by kernel_rfl) .nil ?_
  clear ha a; intro a ha
  refine tn ?_
  refine wseq ?_
  refine reg hmix (ρ' := [(4, .int .i64 (Go.Lib.indexByte l (c : Int).toNat.toUInt8))]) (C := [CallOk Tryd.prog w 69 #[.string (S l), .int .u8 c] (.int .i64 (Go.Lib.indexByte l (c : Int).toNat.toUInt8))]) ha [(2, .val (.int .i64 (Go.Lib.indexByte l (c : Int).toNat.toUInt8)))] (by kernel_rfl) (.cons (fun w _ => ixb_ok _ _ w) .nil) ?_
  clear ha a; intro a w1 ha he
  replace hx := hx.tr he
  clear he
  refine tn ?_
  refine wret ?_
  refine fin ha (.tmp rfl .nil) ?_
  exact ⟨rfl, hx⟩
theorem name_ok (l : List UInt8) (w : World) (hl : l.length ≤ 9223372036854775807) :
    Fn Tryd.prog 51 #[.string (S l)] w (fun x w' => x = .bool (oName l) ∧ Ext w w') := by
  have hx : Ext w w := Ext.rfl' w
  refine enter (N := 20) (args := [.string (S l)]) Tryd.func51 rfl rfl rfl ?_
  intro a ha
  simp only [argEnv, Nat.zero_add, Nat.reduceAdd] at ha
  refine wseq ?_
  refine regp (ρ' := [(0, .string (S l))]) (C := []) ha [] (by kernel_rfl) .nil ?_
  clear ha a; intro a ha
  refine tn ?_
  refine wseq ?_
  refine reg hmix (ρ' := [(2, .bool ((((!decide ((l : List UInt8) = ([] : List UInt8))) && (decide (((l.length : Nat) : Int) ≤ 40))) && (decide (((Go.Lib.indexByte l (0 : Int).toNat.toUInt8) : Int) < 0))) && (decide (((Go.Lib.indexByte l (47 : Int).toNat.toUInt8) : Int) < 0))))]) (C := [((!decide ((l : List UInt8) = ([] : List UInt8))) && (decide (((l.length : Nat) : Int) ≤ 40))) = true → All [CallOk Tryd.prog w 41 #[.string (S l), .int .u8 0] (.int .i64 (Go.Lib.indexByte l (0 : Int).toNat.toUInt8))], (((!decide ((l : List UInt8) = ([] : List UInt8))) && (decide (((l.length : Nat) : Int) ≤ 40))) && (decide (((Go.Lib.indexByte l (0 : Int).toNat.toUInt8) : Int) < 0))) = true → All [CallOk Tryd.prog w 41 #[.string (S l), .int .u8 47] (.int .i64 (Go.Lib.indexByte l (47 : Int).toNat.toUInt8))]]) ha [(9, .val (.int .i64 (Go.Lib.indexByte l (0 : Int).toNat.toUInt8))), (14, .val (.int .i64 (Go.Lib.indexByte l (47 : Int).toNat.toUInt8)))] (by kernel_rfl) (.cons (fun hg8 => by simp only [Bool.not_eq_true', Bool.not_eq_false', Bool.and_eq_true, Bool.or_eq_true, Bool.and_eq_false_iff, Bool.or_eq_false_iff, decide_eq_true_eq, decide_eq_false_iff_not, Bool.not_eq_true, Decidable.not_not] at hg8; exact (.cons (fun w _ => sixb_ok _ _ w) .nil)) (.cons (fun hg13 => by simp only [Bool.not_eq_true', Bool.not_eq_false', Bool.and_eq_true, Bool.or_eq_true, Bool.and_eq_false_iff, Bool.or_eq_false_iff, decide_eq_true_eq, decide_eq_false_iff_not, Bool.not_eq_true, Decidable.not_not] at hg13; exact (.cons (fun w _ => sixb_ok _ _ w) .nil)) .nil)) ?_
  clear ha a; intro a w1 ha he
  replace hx := hx.tr he
  clear he
  refine tn ?_
  refine wret ?_
  refine fin ha (.tmp rfl .nil) ?_
  refine ⟨congrArg Value.bool ?_, hx⟩
  have h0 := indexByte_lt l 0
  have h1 := indexByte_lt l 47
  have e0 : ((0 : Int).toNat.toUInt8) = 0 := rfl
  have e1 : ((47 : Int).toNat.toUInt8) = 47 := rfl
  rw [e0, e1]
  unfold oName
  rw [Bool.eq_iff_iff]
  simp only [Bool.and_eq_true, Bool.not_eq_true', decide_eq_true_eq, decide_eq_false_iff_not, h0, h1, and_assoc]
  constructor
  · intro ⟨a1, a2, a3, a4⟩; exact ⟨a1, by omega, a3, a4⟩
  · intro ⟨a1, a2, a3, a4⟩; exact ⟨a1, by omega, a3, a4⟩
theorem kind_ok (n : Int) (w : World) :
    Fn Tryd.prog 85 #[.int .i64 n] w (fun x w' => x = .bool (decide (1 ≤ n ∧ n ≤ 4)) ∧ Ext w w') := by
  have hx : Ext w w := Ext.rfl' w
  refine enter (N := 9) (args := [.int .i64 n]) Tryd.func85 rfl rfl rfl ?_
  intro a ha
  simp only [argEnv, Nat.zero_add, Nat.reduceAdd] at ha
  refine wseq ?_
  refine regp (ρ' := [(0, .int .i64 n)]) (C := []) ha [] (by kernel_rfl) .nil ?_
  clear ha a; intro a ha
  refine tn ?_
  refine wseq ?_
  refine regp (ρ' := [(2, .bool ((decide ((1 : Int) ≤ n)) && (decide ((n : Int) ≤ 4))))]) (C := []) ha [] (by kernel_rfl) .nil ?_
  clear ha a; intro a ha
  refine tn ?_
  refine wret ?_
  refine fin ha (.tmp rfl .nil) ?_
  refine ⟨congrArg Value.bool ?_, hx⟩
  rw [Bool.eq_iff_iff]; simp
theorem alone_ok (o : ObjL) (Ae Ap : Option Addr) (ce cp : Nat) (w : World) (hoe : Rd w 34 Ae o.Entries.length (o.Entries.flatMap encEnt)) (hop : Rd w 32 Ap o.Parents.length (o.Parents.flatMap idc)) :
    Fn Tryd.prog 83 #[.agg ⟨objC o Ae ce Ap cp⟩] w (fun x w' => x = .bool (oAlone o) ∧ Ext w w') := by
  have hx : Ext w w := Ext.rfl' w
  refine enter (N := 84) (args := [.agg ⟨objC o Ae ce Ap cp⟩]) Tryd.func83 rfl rfl rfl ?_
  intro a ha
  simp only [argEnv, Nat.zero_add, Nat.reduceAdd] at ha
  refine wseq ?_
  refine reg_list ?_
  refine lnew ha rfl (by kernel_rfl) ⟨objC o Ae ce Ap cp⟩ 54 (by kernel_rfl) ?_
  clear ha a; intro b1 w2 he hb_b1 hB_b1 a ha
  replace hb_b1 := Nat.le_trans hx.size hb_b1
  replace hx := hx.tr he
  clear he
  refine segp (ρ' := [(1, .pointer (some ⟨b1, 0, none⟩))]) (C := []) ha 1 [] rfl (by kernel_rfl) .nil ?_
  clear ha a; intro a ha
  refine lnil ?_
  replace ha := ha.sub (ρ' := [(1, .pointer (some ⟨b1, 0, none⟩))]) (by kernel_rfl)
  refine tn ?_
  refine wseq ?_
  refine regp (ρ' := [(1, .pointer (some ⟨b1, 0, none⟩)), (3, .bool (decide ((o.Data : List UInt8) = ([] : List UInt8))))]) (C := [RunOk Tryd.prog w2 (Instr.loadAt 9 (.pointer (some ⟨b1, 1, none⟩))) (.string (S o.Data))]) ha [(1, .val (.string (S o.Data)))] (by kernel_rfl) (.cons (ld1 hB_b1 (by kernel_rfl) (by kernel_rfl)) .nil) ?_
  clear ha a; intro a ha
  refine tn ?_
  refine wseq ?_
  refine regp (ρ' := [(1, .pointer (some ⟨b1, 0, none⟩)), (3, .bool (decide ((o.Data : List UInt8) = ([] : List UInt8)))), (4, .bool (decide (((o.Entries.length : Nat) : Int) = 0)))]) (C := [RunOk Tryd.prog w2 (Instr.loadAt 50 (.pointer (some ⟨b1, 2, none⟩))) (.slice Ae o.Entries.length ce)]) ha [(1, .val (.slice Ae o.Entries.length ce))] (by kernel_rfl) (.cons (ld1 hB_b1 (by kernel_rfl) (by kernel_rfl)) .nil) ?_
  clear ha a; intro a ha
  refine tn ?_
  refine wseq ?_
  refine regp (ρ' := [(1, .pointer (some ⟨b1, 0, none⟩)), (3, .bool (decide ((o.Data : List UInt8) = ([] : List UInt8)))), (4, .bool (decide (((o.Entries.length : Nat) : Int) = 0))), (5, .bool ((((decide (o.Tree = idZ)) && (decide (((o.Parents.length : Nat) : Int) = 0))) && (decide (((o.Time : Nat) : Int) = 0))) && (decide ((o.Text : List UInt8) = ([] : List UInt8)))))]) (C := [RunOk Tryd.prog w2 (Instr.loadAt 24 (.pointer (some ⟨b1, 3, none⟩))) (.agg ⟨idc o.Tree⟩), BinOk Tryd.prog .eql 24 (.agg ⟨idc o.Tree⟩) (.agg ⟨idc idZ⟩) (.bool (decide (o.Tree = idZ))), (decide (o.Tree = idZ)) = true → All [RunOk Tryd.prog w2 (Instr.loadAt 51 (.pointer (some ⟨b1, 35, none⟩))) (.slice Ap o.Parents.length cp)], ((decide (o.Tree = idZ)) && (decide (((o.Parents.length : Nat) : Int) = 0))) = true → All [RunOk Tryd.prog w2 (Instr.loadAt 52 (.pointer (some ⟨b1, 36, none⟩))) (.int .u32 ((o.Time : Nat) : Int))], (((decide (o.Tree = idZ)) && (decide (((o.Parents.length : Nat) : Int) = 0))) && (decide (((o.Time : Nat) : Int) = 0))) = true → All [RunOk Tryd.prog w2 (Instr.loadAt 9 (.pointer (some ⟨b1, 37, none⟩))) (.string (S o.Text))]]) ha [(1, .val (.agg ⟨idc o.Tree⟩)), (3, .val (.bool (decide (o.Tree = idZ)))), (6, .val (.slice Ap o.Parents.length cp)), (12, .val (.int .u32 ((o.Time : Nat) : Int))), (17, .val (.string (S o.Text)))] (by kernel_rfl) (.cons (ldN (n := 32) hB_b1 (by kernel_rfl) (by kernel_rfl) ⟨Nat.le_of_ble_eq_true (by kernel_rfl), (by kernel_rfl)⟩) (.cons (eqIdE (x := o.Tree) (y := idZ) (by kernel_rfl)) (.cons (fun hg5 => by replace hg5 := of_decide_eq_true hg5; exact (.cons (ld1 hB_b1 (by kernel_rfl) (by kernel_rfl)) .nil)) (.cons (fun hg11 => by simp only [Bool.not_eq_true', Bool.not_eq_false', Bool.and_eq_true, Bool.or_eq_true, Bool.and_eq_false_iff, Bool.or_eq_false_iff, decide_eq_true_eq, decide_eq_false_iff_not, Bool.not_eq_true, Decidable.not_not] at hg11; exact (.cons (ld1 hB_b1 (by kernel_rfl) (by kernel_rfl)) .nil)) (.cons (fun hg16 => by simp only [Bool.not_eq_true', Bool.not_eq_false', Bool.and_eq_true, Bool.or_eq_true, Bool.and_eq_false_iff, Bool.or_eq_false_iff, decide_eq_true_eq, decide_eq_false_iff_not, Bool.not_eq_true, Decidable.not_not] at hg16; exact (.cons (ld1 hB_b1 (by kernel_rfl) (by kernel_rfl)) .nil)) .nil))))) ?_
  clear ha a; intro a ha
  refine tn ?_
  refine wseq ?_
  refine regp (ρ' := [(1, .pointer (some ⟨b1, 0, none⟩)), (3, .bool (decide ((o.Data : List UInt8) = ([] : List UInt8)))), (4, .bool (decide (((o.Entries.length : Nat) : Int) = 0))), (5, .bool ((((decide (o.Tree = idZ)) && (decide (((o.Parents.length : Nat) : Int) = 0))) && (decide (((o.Time : Nat) : Int) = 0))) && (decide ((o.Text : List UInt8) = ([] : List UInt8))))), (6, .bool (((decide (o.Target = idZ)) && (decide ((o.Of : Int) = 0))) && (decide ((o.Name : List UInt8) = ([] : List UInt8)))))]) (C := [RunOk Tryd.prog w2 (Instr.loadAt 24 (.pointer (some ⟨b1, 38, none⟩))) (.agg ⟨idc o.Target⟩), BinOk Tryd.prog .eql 24 (.agg ⟨idc o.Target⟩) (.agg ⟨idc idZ⟩) (.bool (decide (o.Target = idZ))), (decide (o.Target = idZ)) = true → All [RunOk Tryd.prog w2 (Instr.loadAt 3 (.pointer (some ⟨b1, 70, none⟩))) (.int .i64 o.Of)], ((decide (o.Target = idZ)) && (decide ((o.Of : Int) = 0))) = true → All [RunOk Tryd.prog w2 (Instr.loadAt 9 (.pointer (some ⟨b1, 71, none⟩))) (.string (S o.Name))]]) ha [(1, .val (.agg ⟨idc o.Target⟩)), (3, .val (.bool (decide (o.Target = idZ)))), (6, .val (.int .i64 o.Of)), (11, .val (.string (S o.Name)))] (by kernel_rfl) (.cons (ldN (n := 32) hB_b1 (by kernel_rfl) (by kernel_rfl) ⟨Nat.le_of_ble_eq_true (by kernel_rfl), (by kernel_rfl)⟩) (.cons (eqIdE (x := o.Target) (y := idZ) (by kernel_rfl)) (.cons (fun hg5 => by replace hg5 := of_decide_eq_true hg5; exact (.cons (ld1 hB_b1 (by kernel_rfl) (by kernel_rfl)) .nil)) (.cons (fun hg10 => by simp only [Bool.not_eq_true', Bool.not_eq_false', Bool.and_eq_true, Bool.or_eq_true, Bool.and_eq_false_iff, Bool.or_eq_false_iff, decide_eq_true_eq, decide_eq_false_iff_not, Bool.not_eq_true, Decidable.not_not] at hg10; exact (.cons (ld1 hB_b1 (by kernel_rfl) (by kernel_rfl)) .nil)) .nil)))) ?_
  clear ha a; intro a ha
  refine tn ?_
  refine wseq ?_
  refine wseq ?_
  refine regp (ρ' := [(3, .bool (decide ((o.Data : List UInt8) = ([] : List UInt8)))), (4, .bool (decide (((o.Entries.length : Nat) : Int) = 0))), (5, .bool ((((decide (o.Tree = idZ)) && (decide (((o.Parents.length : Nat) : Int) = 0))) && (decide (((o.Time : Nat) : Int) = 0))) && (decide ((o.Text : List UInt8) = ([] : List UInt8))))), (6, .bool (((decide (o.Target = idZ)) && (decide ((o.Of : Int) = 0))) && (decide ((o.Name : List UInt8) = ([] : List UInt8))))), (49, .int .i64 o.Kind)]) (C := [RunOk Tryd.prog w2 (Instr.loadAt 3 (.pointer (some ⟨b1, 0, none⟩))) (.int .i64 o.Kind)]) ha [(1, .val (.int .i64 o.Kind))] (by kernel_rfl) (.cons (ld1 hB_b1 (by kernel_rfl) (by kernel_rfl)) .nil) ?_
  clear ha a; intro a ha
  refine tn ?_
  refine wblk ?_
  refine wseq ?_
  refine regp (ρ' := [(3, .bool (decide ((o.Data : List UInt8) = ([] : List UInt8)))), (4, .bool (decide (((o.Entries.length : Nat) : Int) = 0))), (5, .bool ((((decide (o.Tree = idZ)) && (decide (((o.Parents.length : Nat) : Int) = 0))) && (decide (((o.Time : Nat) : Int) = 0))) && (decide ((o.Text : List UInt8) = ([] : List UInt8))))), (6, .bool (((decide (o.Target = idZ)) && (decide ((o.Of : Int) = 0))) && (decide ((o.Name : List UInt8) = ([] : List UInt8))))), (49, .int .i64 o.Kind), (50, .bool (decide ((o.Kind : Int) = 1)))]) (C := []) ha [] (by kernel_rfl) .nil ?_
  clear ha a; intro a ha
  refine tn ?_
  refine wif ha rfl (fun h50 => ?_) (fun h50 => ?_)
  · replace h50 := of_decide_eq_true h50
    refine wseq ?_
    refine regp (ρ' := [(2, .bool (((decide (((o.Entries.length : Nat) : Int) = 0)) && ((((decide (o.Tree = idZ)) && (decide (((o.Parents.length : Nat) : Int) = 0))) && (decide (((o.Time : Nat) : Int) = 0))) && (decide ((o.Text : List UInt8) = ([] : List UInt8))))) && (((decide (o.Target = idZ)) && (decide ((o.Of : Int) = 0))) && (decide ((o.Name : List UInt8) = ([] : List UInt8))))))]) (C := []) ha [] (by kernel_rfl) .nil ?_
    clear ha a; intro a ha
    refine tn ?_
    refine wret ?_
    refine (br (tr ?_))
    refine fin ha (.tmp rfl .nil) ?_
    refine ⟨congrArg Value.bool ?_, hx⟩
    unfold oAlone oTree oCommit oTag oBlob
    simp [*, Bool.and_assoc]
  · replace h50 := of_decide_eq_false h50
    refine wseq ?_
    refine regp (ρ' := [(3, .bool (decide ((o.Data : List UInt8) = ([] : List UInt8)))), (4, .bool (decide (((o.Entries.length : Nat) : Int) = 0))), (5, .bool ((((decide (o.Tree = idZ)) && (decide (((o.Parents.length : Nat) : Int) = 0))) && (decide (((o.Time : Nat) : Int) = 0))) && (decide ((o.Text : List UInt8) = ([] : List UInt8))))), (6, .bool (((decide (o.Target = idZ)) && (decide ((o.Of : Int) = 0))) && (decide ((o.Name : List UInt8) = ([] : List UInt8))))), (49, .int .i64 o.Kind), (59, .bool (decide ((o.Kind : Int) = 2)))]) (C := []) ha [] (by kernel_rfl) .nil ?_
    clear ha a; intro a ha
    refine tn ?_
    refine wif ha rfl (fun h59 => ?_) (fun h59 => ?_)
    · replace h59 := of_decide_eq_true h59
      refine wseq ?_
      refine regp (ρ' := [(2, .bool (((decide ((o.Data : List UInt8) = ([] : List UInt8))) && ((((decide (o.Tree = idZ)) && (decide (((o.Parents.length : Nat) : Int) = 0))) && (decide (((o.Time : Nat) : Int) = 0))) && (decide ((o.Text : List UInt8) = ([] : List UInt8))))) && (((decide (o.Target = idZ)) && (decide ((o.Of : Int) = 0))) && (decide ((o.Name : List UInt8) = ([] : List UInt8))))))]) (C := []) ha [] (by kernel_rfl) .nil ?_
      clear ha a; intro a ha
      refine tn ?_
      refine wret ?_
      refine (br (tr ?_))
      refine fin ha (.tmp rfl .nil) ?_
      refine ⟨congrArg Value.bool ?_, hx⟩
      unfold oAlone oTree oCommit oTag oBlob
      simp [*, Bool.and_assoc]
    · replace h59 := of_decide_eq_false h59
      refine wseq ?_
      refine regp (ρ' := [(3, .bool (decide ((o.Data : List UInt8) = ([] : List UInt8)))), (4, .bool (decide (((o.Entries.length : Nat) : Int) = 0))), (5, .bool ((((decide (o.Tree = idZ)) && (decide (((o.Parents.length : Nat) : Int) = 0))) && (decide (((o.Time : Nat) : Int) = 0))) && (decide ((o.Text : List UInt8) = ([] : List UInt8))))), (6, .bool (((decide (o.Target = idZ)) && (decide ((o.Of : Int) = 0))) && (decide ((o.Name : List UInt8) = ([] : List UInt8))))), (68, .bool (decide ((o.Kind : Int) = 3)))]) (C := []) ha [] (by kernel_rfl) .nil ?_
      clear ha a; intro a ha
      refine tn ?_
      refine wif ha rfl (fun h68 => ?_) (fun h68 => ?_)
      · replace h68 := of_decide_eq_true h68
        refine wseq ?_
        refine regp (ρ' := [(2, .bool (((decide ((o.Data : List UInt8) = ([] : List UInt8))) && (decide (((o.Entries.length : Nat) : Int) = 0))) && (((decide (o.Target = idZ)) && (decide ((o.Of : Int) = 0))) && (decide ((o.Name : List UInt8) = ([] : List UInt8))))))]) (C := []) ha [] (by kernel_rfl) .nil ?_
        clear ha a; intro a ha
        refine tn ?_
        refine wret ?_
        refine (br (tr ?_))
        refine fin ha (.tmp rfl .nil) ?_
        refine ⟨congrArg Value.bool ?_, hx⟩
        unfold oAlone oTree oCommit oTag oBlob
        simp [*, Bool.and_assoc]
      · replace h68 := of_decide_eq_false h68
        refine wskip ?_
        refine bn ?_
        refine tn ?_
        refine wseq ?_
        refine regp (ρ' := [(2, .bool (((decide ((o.Data : List UInt8) = ([] : List UInt8))) && (decide (((o.Entries.length : Nat) : Int) = 0))) && ((((decide (o.Tree = idZ)) && (decide (((o.Parents.length : Nat) : Int) = 0))) && (decide (((o.Time : Nat) : Int) = 0))) && (decide ((o.Text : List UInt8) = ([] : List UInt8))))))]) (C := []) ha [] (by kernel_rfl) .nil ?_
        clear ha a; intro a ha
        refine tn ?_
        refine wret ?_
        refine fin ha (.tmp rfl .nil) ?_
        refine ⟨congrArg Value.bool ?_, hx⟩
        unfold oAlone oTree oCommit oTag oBlob
        simp [*, Bool.and_assoc]
theorem entries_ok (A : Option Addr) (c : Nat) (l : List EntR) (w : World) (hr : Rd w 34 A l.length (l.flatMap encEnt)) (hl : l.length ≤ 9223372036854775807) (hn : ∀ i < l.length, (l.getD i default).Name.length ≤ 9223372036854775807) :
    Fn Tryd.prog 84 #[.slice A l.length c] w (fun x w' => x = .bool (oEntries l) ∧ Ext w w') := by
  have hx : Ext w w := Ext.rfl' w
  refine enter (N := 45) (args := [.slice A l.length c]) Tryd.func84 rfl rfl rfl ?_
  intro a ha
  simp only [argEnv, Nat.zero_add, Nat.reduceAdd] at ha
  refine wseq ?_
  refine regp (ρ' := [(0, .slice A l.length c)]) (C := []) ha [] (by kernel_rfl) .nil ?_
  clear ha a; intro a ha
  refine tn ?_
  refine wseq ?_
  refine wseq ?_
  refine regp (ρ' := [(0, .slice A l.length c), (5, .slice A l.length c), (6, .int .i64 ((l.length : Nat) : Int)), (7, .int .i64 0)]) (C := []) ha [] (by kernel_rfl) .nil ?_
  clear ha a; intro a ha
  refine tn ?_
  refine wblk ?_
  refine wloop (fun zz a w1 => ∃ (i : Nat), zz = l.length - i ∧ On 45 [(0, .slice A l.length c), (5, .slice A l.length c), (6, .int .i64 ((l.length : Nat) : Int)), (7, .int .i64 ((i : Nat) : Int))] a ∧ Ext w w1 ∧ (i ≤ l.length) ∧ (entsTo l i = true)) _ ⟨0, rfl, ha.sub (ρ' := [(0, .slice A l.length c), (5, .slice A l.length c), (6, .int .i64 ((l.length : Nat) : Int)), (7, .int .i64 ((0 : Nat) : Int))]) (by kernel_rfl), hx, by omega, rfl⟩ ?_
  clear ha hx
  rintro zz a w2 ⟨i, hzz, ha, hx, hi, hok⟩
  refine wseq ?_
  refine regp (ρ' := [(0, .slice A l.length c), (5, .slice A l.length c), (6, .int .i64 ((l.length : Nat) : Int)), (7, .int .i64 ((i : Nat) : Int)), (8, .bool (decide (((i : Nat) : Int) < ((l.length : Nat) : Int))))]) (C := []) ha [] (by kernel_rfl) .nil ?_
  clear ha a; intro a ha
  refine tn ?_
  refine wseq ?_
  refine wif ha rfl (fun h8 => ?_) (fun h8 => ?_)
  · replace h8 := of_decide_eq_true h8
    have hil : i < l.length := by omega
    refine wskip ?_
    refine tn ?_
    refine wseq ?_
    refine wblk ?_
    refine wseq ?_
    refine reg_list ?_
    refine segp (ρ' := [(0, .slice A l.length c), (5, .slice A l.length c), (6, .int .i64 ((l.length : Nat) : Int)), (7, .int .i64 ((i : Nat) : Int)), (9, .int .i64 ((i : Nat) : Int)), (11, .agg ⟨encEnt (l.getD i default)⟩)]) (C := [RunOk Tryd.prog w2 (Instr.indexAt 50 (.slice A l.length c) (.int .i64 ((i : Nat) : Int))) (.pointer (some ⟨ab A, ao A + i * 34, none⟩)), RunOk Tryd.prog w2 (Instr.loadAt 89 (.pointer (some ⟨ab A, ao A + i * 34, none⟩))) (.agg ⟨encEnt (l.getD i default)⟩)]) ha 3 [(1, .val (.pointer (some ⟨ab A, ao A + i * 34, none⟩))), (2, .val (.agg ⟨encEnt (l.getD i default)⟩))] rfl (by kernel_rfl) (.cons (ixRd (e := 89) (by kernel_rfl) (by kernel_rfl) (rdE hx hr) (by omega)) (.cons (ldRdN (vs := encEnt (l.getD i default)) (j := i * 34) (by kernel_rfl) (by kernel_rfl) (rdE hx hr) (by omega) (flat_seg encEnt_len l default i (by omega))) .nil)) ?_
    clear ha a; intro a ha
    refine lnew ha rfl (by kernel_rfl) ⟨.string (S []) :: (.int .i64 0 :: (idc idZ))⟩ 89 (by kernel_rfl) ?_
    clear ha a; intro b3 w4 he hb_b3 hB_b3 a ha
    replace hb_b3 := Nat.le_trans hx.size hb_b3
    replace hx := hx.tr he
    clear he
    refine segp (ρ' := [(0, .slice A l.length c), (3, .int .i64 ((i : Nat) : Int)), (4, .pointer (some ⟨b3, 0, none⟩)), (5, .slice A l.length c), (6, .int .i64 ((l.length : Nat) : Int)), (7, .int .i64 ((i : Nat) : Int)), (11, .agg ⟨encEnt (l.getD i default)⟩)]) (C := []) ha 1 [] rfl (by kernel_rfl) .nil ?_
    clear ha a; intro a ha
    refine lstore (off := 0) ha rfl rfl (by kernel_rfl) hB_b3 ⟨encEnt (l.getD i default)⟩ rfl (by kernel_rfl) (by kernel_rfl) ?_
    clear ha a; intro w5 hc a ha
    replace hx := hc.ext hx hb_b3
    replace hB_b3 := hc.at_; clear hc
    refine lnil ?_
    replace ha := ha.sub (ρ' := [(0, .slice A l.length c), (3, .int .i64 ((i : Nat) : Int)), (4, .pointer (some ⟨b3, 0, none⟩)), (5, .slice A l.length c), (6, .int .i64 ((l.length : Nat) : Int)), (7, .int .i64 ((i : Nat) : Int))]) (by kernel_rfl)
    refine tn ?_
    refine wseq ?_
    have hnl := hn i hil
    refine reg hmix (ρ' := [(0, .slice A l.length c), (5, .slice A l.length c), (6, .int .i64 ((l.length : Nat) : Int)), (7, .int .i64 ((i : Nat) : Int)), (40, .bool (((!(oName ((l.getD i default).Name))) || ((!decide (((l.getD i default).Kind : Int) = 1)) && (!decide (((l.getD i default).Kind : Int) = 2)))) || ((decide ((0 : Int) < ((i : Nat) : Int))) && (!Op.bytesLess ((l.getD (((((i : Nat) : Int) - 1) : Int).toNat) default).Name : List UInt8) ((l.getD i default).Name : List UInt8)))))]) (C := [RunOk Tryd.prog w5 (Instr.loadAt 9 (.pointer (some ⟨b3, 0, none⟩))) (.string (S ((l.getD i default).Name))), CallOk Tryd.prog w5 51 #[.string (S ((l.getD i default).Name))] (.bool (oName ((l.getD i default).Name))), (!(oName ((l.getD i default).Name))) = false → All [RunOk Tryd.prog w5 (Instr.loadAt 3 (.pointer (some ⟨b3, 1, none⟩))) (.int .i64 ((l.getD i default).Kind)), (!decide (((l.getD i default).Kind : Int) = 1)) = true → All [RunOk Tryd.prog w5 (Instr.loadAt 3 (.pointer (some ⟨b3, 1, none⟩))) (.int .i64 ((l.getD i default).Kind))]], ((!(oName ((l.getD i default).Name))) || ((!decide (((l.getD i default).Kind : Int) = 1)) && (!decide (((l.getD i default).Kind : Int) = 2)))) = false → All [(decide ((0 : Int) < ((i : Nat) : Int))) = true → All [InR .i64 (((i : Nat) : Int) - 1), RunOk Tryd.prog w5 (Instr.indexAt 50 (.slice A l.length c) (.int .i64 (((i : Nat) : Int) - 1))) (.pointer (some ⟨ab A, ao A + ((((i : Nat) : Int) - 1) : Int).toNat * 34, none⟩)), RunOk Tryd.prog w5 (Instr.loadAt 9 (.pointer (some ⟨ab A, ao A + ((((i : Nat) : Int) - 1) : Int).toNat * 34, none⟩))) (.string (S ((l.getD (((((i : Nat) : Int) - 1) : Int).toNat) default).Name))), RunOk Tryd.prog w5 (Instr.loadAt 9 (.pointer (some ⟨b3, 0, none⟩))) (.string (S ((l.getD i default).Name)))]]]) ha [(1, .val (.string (S ((l.getD i default).Name)))), (2, .val (.bool (oName ((l.getD i default).Name)))), (6, .val (.int .i64 ((l.getD i default).Kind))), (10, .val (.int .i64 ((l.getD i default).Kind))), (21, .val (.pointer (some ⟨ab A, ao A + ((((i : Nat) : Int) - 1) : Int).toNat * 34, none⟩))), (23, .val (.string (S ((l.getD (((((i : Nat) : Int) - 1) : Int).toNat) default).Name)))), (25, .val (.string (S ((l.getD i default).Name))))] (by kernel_rfl) (.cons (ld1 hB_b3 (by kernel_rfl) (by kernel_rfl)) (.cons (fun w _ => name_ok _ w (by first | omega | (simp; done))) (.cons (fun hg5 => by simp only [Bool.not_eq_true', Bool.not_eq_false', Bool.and_eq_true, Bool.or_eq_true, Bool.and_eq_false_iff, Bool.or_eq_false_iff, decide_eq_true_eq, decide_eq_false_iff_not, Bool.not_eq_true, Decidable.not_not] at hg5; exact (.cons (ld1 hB_b3 (by kernel_rfl) (by kernel_rfl)) (.cons (fun hg9 => by simp only [Bool.not_eq_true', Bool.not_eq_false', Bool.and_eq_true, Bool.or_eq_true, Bool.and_eq_false_iff, Bool.or_eq_false_iff, decide_eq_true_eq, decide_eq_false_iff_not, Bool.not_eq_true, Decidable.not_not] at hg9; exact (.cons (ld1 hB_b3 (by kernel_rfl) (by kernel_rfl)) .nil)) .nil))) (.cons (fun hg15 => by simp only [Bool.not_eq_true', Bool.not_eq_false', Bool.and_eq_true, Bool.or_eq_true, Bool.and_eq_false_iff, Bool.or_eq_false_iff, decide_eq_true_eq, decide_eq_false_iff_not, Bool.not_eq_true, Decidable.not_not] at hg15; exact (.cons (fun hg18 => by replace hg18 := of_decide_eq_true hg18; exact (.cons (by unfold InR; omega) (.cons (ixRdI (e := 89) (by kernel_rfl) (by kernel_rfl) (rdE hx hr) ⟨by omega, by omega⟩) (.cons (ldRd (j := ((((i : Nat) : Int) - 1) : Int).toNat * 34) (by kernel_rfl) (rdE hx hr) (by omega) (flat_get0 encEnt_len l default (((((i : Nat) : Int) - 1) : Int).toNat) (by omega) rfl)) (.cons (ld1 hB_b3 (by kernel_rfl) (by kernel_rfl)) .nil))))) .nil)) .nil)))) ?_
    clear ha a; intro a w6 ha he
    replace hx := hx.tr he
    replace hB_b3 := keepB he hB_b3
    clear he
    refine tn ?_
    refine wif ha rfl (fun h40 => ?_) (fun h40 => ?_)
    · simp only [Bool.not_eq_true', Bool.not_eq_false', Bool.and_eq_true, Bool.or_eq_true, Bool.and_eq_false_iff, Bool.or_eq_false_iff, decide_eq_true_eq, decide_eq_false_iff_not, Bool.not_eq_true, Decidable.not_not] at h40
      have hent : entOk l i = false := by unfold entOk; rw [← Bool.not_eq_true]; intro hc; simp at hc; rcases h40 with (h40 | h40) | h40 <;> simp_all <;> omega
      have hres : oEntries l = false := by unfold oEntries; rw [entsTo_false (n := i + 1) (by omega) (by rw [entsTo_succ, hent]; simp)]; rfl
      refine wseq ?_
      refine regp (ρ' := [(2, .bool false)]) (C := []) ha [] (by kernel_rfl) .nil ?_
      clear ha a; intro a ha
      refine tn ?_
      refine wret ?_
      refine (br (tr (tr (br (tr ?_)))))
      refine fin ha (.tmp rfl .nil) ?_
      exact ⟨congrArg Value.bool hres.symm, hx⟩
    · simp only [Bool.not_eq_true', Bool.not_eq_false', Bool.and_eq_true, Bool.or_eq_true, Bool.and_eq_false_iff, Bool.or_eq_false_iff, decide_eq_true_eq, decide_eq_false_iff_not, Bool.not_eq_true, Decidable.not_not] at h40
      have hent : entOk l i = true := by unfold entOk; simp at h40 ⊢; simp [h40] <;> omega
      refine wskip ?_
      refine bn ?_
      refine tn ?_
      refine regp (ρ' := [(0, .slice A l.length c), (5, .slice A l.length c), (6, .int .i64 ((l.length : Nat) : Int)), (7, .int .i64 ((i + 1 : Nat) : Int))]) (C := [InR .i64 ((i + 1 : Nat) : Int)]) ha [] (by kernel_rfl) (.cons (by unfold InR; omega) .nil) ?_
      clear ha a; intro a ha
      exact tn ⟨l.length - ((i + 1)), by omega, (i + 1), rfl, ha.sub (ρ' := [(0, .slice A l.length c), (5, .slice A l.length c), (6, .int .i64 ((l.length : Nat) : Int)), (7, .int .i64 (((i + 1) : Nat) : Int))]) (by kernel_rfl), hx, by omega, by rw [entsTo_succ, hok, hent]; rfl⟩
  · replace h8 := of_decide_eq_false h8
    obtain rfl : i = l.length := by omega
    refine wexit ?_
    refine (te (te (be ?_)))
    refine tn ?_
    refine wseq ?_
    refine regp (ρ' := [(2, .bool (decide (((l.length : Nat) : Int) ≤ 64)))]) (C := []) ha [] (by kernel_rfl) .nil ?_
    clear ha a; intro a ha
    refine tn ?_
    refine wret ?_
    refine fin ha (.tmp rfl .nil) ?_
    refine ⟨congrArg Value.bool ?_, hx⟩
    unfold oEntries; rw [hok]; simp; omega
theorem may_ok (o : ObjL) (Ae Ap : Option Addr) (ce cp : Nat) (w : World) (hoe : Rd w 34 Ae o.Entries.length (o.Entries.flatMap encEnt)) (hop : Rd w 32 Ap o.Parents.length (o.Parents.flatMap idc)) (hok : ObjOk o) :
    Fn Tryd.prog 57 #[.agg ⟨objC o Ae ce Ap cp⟩] w (fun x w' => x = .bool (oMay o) ∧ Ext w w') := by
  have hx : Ext w w := Ext.rfl' w
  refine enter (N := 45) (args := [.agg ⟨objC o Ae ce Ap cp⟩]) Tryd.func57 rfl rfl rfl ?_
  intro a ha
  simp only [argEnv, Nat.zero_add, Nat.reduceAdd] at ha
  refine wseq ?_
  refine reg_list ?_
  refine lnew ha rfl (by kernel_rfl) ⟨objC o Ae ce Ap cp⟩ 54 (by kernel_rfl) ?_
  clear ha a; intro b1 w2 he hb_b1 hB_b1 a ha
  replace hb_b1 := Nat.le_trans hx.size hb_b1
  replace hx := hx.tr he
  clear he
  refine segp (ρ' := [(1, .pointer (some ⟨b1, 0, none⟩))]) (C := []) ha 1 [] rfl (by kernel_rfl) .nil ?_
  clear ha a; intro a ha
  refine lnil ?_
  replace ha := ha.sub (ρ' := [(1, .pointer (some ⟨b1, 0, none⟩))]) (by kernel_rfl)
  refine tn ?_
  refine wseq ?_
  refine wseq ?_
  refine regp (ρ' := [(1, .pointer (some ⟨b1, 0, none⟩)), (4, .int .i64 o.Kind)]) (C := [RunOk Tryd.prog w2 (Instr.loadAt 3 (.pointer (some ⟨b1, 0, none⟩))) (.int .i64 o.Kind)]) ha [(1, .val (.int .i64 o.Kind))] (by kernel_rfl) (.cons (ld1 hB_b1 (by kernel_rfl) (by kernel_rfl)) .nil) ?_
  clear ha a; intro a ha
  refine tn ?_
  refine wblk ?_
  refine wseq ?_
  refine regp (ρ' := [(1, .pointer (some ⟨b1, 0, none⟩)), (4, .int .i64 o.Kind), (5, .bool (decide ((o.Kind : Int) = 2)))]) (C := []) ha [] (by kernel_rfl) .nil ?_
  clear ha a; intro a ha
  refine tn ?_
  refine wif ha rfl (fun h5 => ?_) (fun h5 => ?_)
  · replace h5 := of_decide_eq_true h5
    refine wseq ?_
    refine reg hmix (ρ' := [(2, .bool ((oAlone o) && (oEntries o.Entries)))]) (C := [RunOk Tryd.prog w2 (Instr.loadAt 54 (.pointer (some ⟨b1, 0, none⟩))) (.agg ⟨objC o Ae ce Ap cp⟩), CallOk Tryd.prog w2 83 #[.agg ⟨objC o Ae ce Ap cp⟩] (.bool (oAlone o)), (oAlone o) = true → All [RunOk Tryd.prog w2 (Instr.loadAt 50 (.pointer (some ⟨b1, 2, none⟩))) (.slice Ae o.Entries.length ce), CallOk Tryd.prog w2 84 #[.slice Ae o.Entries.length ce] (.bool (oEntries o.Entries))]]) ha [(0, .val (.agg ⟨objC o Ae ce Ap cp⟩)), (1, .val (.bool (oAlone o))), (4, .val (.slice Ae o.Entries.length ce)), (5, .val (.bool (oEntries o.Entries)))] (by kernel_rfl) (.cons (ldN (n := 72) hB_b1 (by kernel_rfl) (by kernel_rfl) ⟨Nat.le_of_ble_eq_true (by kernel_rfl), (by kernel_rfl)⟩) (.cons (fun w2 h2 => alone_ok o _ _ _ _ w2 (rdE h2 (rdE hx hoe)) (rdE h2 (rdE hx hop))) (.cons (fun hg3 => by exact (.cons (ld1 hB_b1 (by kernel_rfl) (by kernel_rfl)) (.cons (fun w2 h2 => entries_ok _ _ _ w2 (rdE h2 (rdE hx hoe)) hok.el hok.en) .nil))) .nil))) ?_
    clear ha a; intro a w3 ha he
    replace hx := hx.tr he
    replace hB_b1 := keepB he hB_b1
    clear he
    refine tn ?_
    refine wret ?_
    refine (br (tr ?_))
    refine fin ha (.tmp rfl .nil) ?_
    refine ⟨congrArg Value.bool ?_, hx⟩
    unfold oMay; simp [*] <;> (congr 1; exact decide_eq_decide.2 (by omega))
  · replace h5 := of_decide_eq_false h5
    refine wseq ?_
    refine regp (ρ' := [(1, .pointer (some ⟨b1, 0, none⟩)), (4, .int .i64 o.Kind), (14, .bool (decide ((o.Kind : Int) = 3)))]) (C := []) ha [] (by kernel_rfl) .nil ?_
    clear ha a; intro a ha
    refine tn ?_
    refine wif ha rfl (fun h14 => ?_) (fun h14 => ?_)
    · replace h14 := of_decide_eq_true h14
      refine wseq ?_
      refine reg hmix (ρ' := [(2, .bool ((oAlone o) && (decide (((o.Parents.length : Nat) : Int) ≤ 8))))]) (C := [RunOk Tryd.prog w2 (Instr.loadAt 54 (.pointer (some ⟨b1, 0, none⟩))) (.agg ⟨objC o Ae ce Ap cp⟩), CallOk Tryd.prog w2 83 #[.agg ⟨objC o Ae ce Ap cp⟩] (.bool (oAlone o)), (oAlone o) = true → All [RunOk Tryd.prog w2 (Instr.loadAt 51 (.pointer (some ⟨b1, 35, none⟩))) (.slice Ap o.Parents.length cp)]]) ha [(0, .val (.agg ⟨objC o Ae ce Ap cp⟩)), (1, .val (.bool (oAlone o))), (4, .val (.slice Ap o.Parents.length cp))] (by kernel_rfl) (.cons (ldN (n := 72) hB_b1 (by kernel_rfl) (by kernel_rfl) ⟨Nat.le_of_ble_eq_true (by kernel_rfl), (by kernel_rfl)⟩) (.cons (fun w2 h2 => alone_ok o _ _ _ _ w2 (rdE h2 (rdE hx hoe)) (rdE h2 (rdE hx hop))) (.cons (fun hg3 => by exact (.cons (ld1 hB_b1 (by kernel_rfl) (by kernel_rfl)) .nil)) .nil))) ?_
      clear ha a; intro a w4 ha he
      replace hx := hx.tr he
      replace hB_b1 := keepB he hB_b1
      clear he
      refine tn ?_
      refine wret ?_
      refine (br (tr ?_))
      refine fin ha (.tmp rfl .nil) ?_
      refine ⟨congrArg Value.bool ?_, hx⟩
      unfold oMay; simp [*] <;> (congr 1; exact decide_eq_decide.2 (by omega))
    · replace h14 := of_decide_eq_false h14
      refine wseq ?_
      refine regp (ρ' := [(1, .pointer (some ⟨b1, 0, none⟩)), (24, .bool (decide ((o.Kind : Int) = 4)))]) (C := []) ha [] (by kernel_rfl) .nil ?_
      clear ha a; intro a ha
      refine tn ?_
      refine wif ha rfl (fun h24 => ?_) (fun h24 => ?_)
      · replace h24 := of_decide_eq_true h24
        refine wseq ?_
        have hnl := hok.nl
        refine reg hmix (ρ' := [(2, .bool (((oAlone o) && (decide (1 ≤ o.Of ∧ o.Of ≤ 4))) && (oName o.Name)))]) (C := [RunOk Tryd.prog w2 (Instr.loadAt 54 (.pointer (some ⟨b1, 0, none⟩))) (.agg ⟨objC o Ae ce Ap cp⟩), CallOk Tryd.prog w2 83 #[.agg ⟨objC o Ae ce Ap cp⟩] (.bool (oAlone o)), (oAlone o) = true → All [RunOk Tryd.prog w2 (Instr.loadAt 3 (.pointer (some ⟨b1, 70, none⟩))) (.int .i64 o.Of), CallOk Tryd.prog w2 85 #[.int .i64 o.Of] (.bool (decide (1 ≤ o.Of ∧ o.Of ≤ 4)))], ((oAlone o) && (decide (1 ≤ o.Of ∧ o.Of ≤ 4))) = true → All [RunOk Tryd.prog w2 (Instr.loadAt 9 (.pointer (some ⟨b1, 71, none⟩))) (.string (S o.Name)), CallOk Tryd.prog w2 51 #[.string (S o.Name)] (.bool (oName o.Name))]]) ha [(0, .val (.agg ⟨objC o Ae ce Ap cp⟩)), (1, .val (.bool (oAlone o))), (4, .val (.int .i64 o.Of)), (5, .val (.bool (decide (1 ≤ o.Of ∧ o.Of ≤ 4)))), (9, .val (.string (S o.Name))), (10, .val (.bool (oName o.Name)))] (by kernel_rfl) (.cons (ldN (n := 72) hB_b1 (by kernel_rfl) (by kernel_rfl) ⟨Nat.le_of_ble_eq_true (by kernel_rfl), (by kernel_rfl)⟩) (.cons (fun w2 h2 => alone_ok o _ _ _ _ w2 (rdE h2 (rdE hx hoe)) (rdE h2 (rdE hx hop))) (.cons (fun hg3 => by exact (.cons (ld1 hB_b1 (by kernel_rfl) (by kernel_rfl)) (.cons (fun w _ => kind_ok _ w) .nil))) (.cons (fun hg8 => by simp only [Bool.not_eq_true', Bool.not_eq_false', Bool.and_eq_true, Bool.or_eq_true, Bool.and_eq_false_iff, Bool.or_eq_false_iff, decide_eq_true_eq, decide_eq_false_iff_not, Bool.not_eq_true, Decidable.not_not] at hg8; exact (.cons (ld1 hB_b1 (by kernel_rfl) (by kernel_rfl)) (.cons (fun w _ => name_ok _ w (by first | omega | (simp; done))) .nil))) .nil)))) ?_
        clear ha a; intro a w5 ha he
        replace hx := hx.tr he
        replace hB_b1 := keepB he hB_b1
        clear he
        refine tn ?_
        refine wret ?_
        refine (br (tr ?_))
        refine fin ha (.tmp rfl .nil) ?_
        refine ⟨congrArg Value.bool ?_, hx⟩
        unfold oMay; simp [*] <;> (congr 1; exact decide_eq_decide.2 (by omega))
      · replace h24 := of_decide_eq_false h24
        refine wskip ?_
        refine bn ?_
        refine tn ?_
        refine wseq ?_
        refine reg hmix (ρ' := [(2, .bool ((decide ((o.Kind : Int) = 1)) && (oAlone o)))]) (C := [RunOk Tryd.prog w2 (Instr.loadAt 3 (.pointer (some ⟨b1, 0, none⟩))) (.int .i64 o.Kind), (decide ((o.Kind : Int) = 1)) = true → All [RunOk Tryd.prog w2 (Instr.loadAt 54 (.pointer (some ⟨b1, 0, none⟩))) (.agg ⟨objC o Ae ce Ap cp⟩), CallOk Tryd.prog w2 83 #[.agg ⟨objC o Ae ce Ap cp⟩] (.bool (oAlone o))]]) ha [(1, .val (.int .i64 o.Kind)), (4, .val (.agg ⟨objC o Ae ce Ap cp⟩)), (5, .val (.bool (oAlone o)))] (by kernel_rfl) (.cons (ld1 hB_b1 (by kernel_rfl) (by kernel_rfl)) (.cons (fun hg4 => by replace hg4 := of_decide_eq_true hg4; exact (.cons (ldN (n := 72) hB_b1 (by kernel_rfl) (by kernel_rfl) ⟨Nat.le_of_ble_eq_true (by kernel_rfl), (by kernel_rfl)⟩) (.cons (fun w2 h2 => alone_ok o _ _ _ _ w2 (rdE h2 (rdE hx hoe)) (rdE h2 (rdE hx hop))) .nil))) .nil)) ?_
        clear ha a; intro a w6 ha he
        replace hx := hx.tr he
        replace hB_b1 := keepB he hB_b1
        clear he
        refine tn ?_
        refine wret ?_
        refine fin ha (.tmp rfl .nil) ?_
        refine ⟨congrArg Value.bool ?_, hx⟩
        unfold oMay; simp [*] <;> (congr 1; exact decide_eq_decide.2 (by omega))
theorem rname_ok (l : List UInt8) (w : World) (hl : l.length ≤ 9223372036854775807) :
    Fn Tryd.prog 107 #[.string (S l)] w (fun x w' => x = .bool (oName l) ∧ Ext w w') := by
  have hx : Ext w w := Ext.rfl' w
  refine enter (N := 28) (args := [.string (S l)]) Tryd.func107 rfl rfl rfl ?_
  intro a ha
  simp only [argEnv, Nat.zero_add, Nat.reduceAdd] at ha
  refine wseq ?_
  refine regp (ρ' := [(0, .string (S l))]) (C := []) ha [] (by kernel_rfl) .nil ?_
  clear ha a; intro a ha
  refine tn ?_
  refine wseq ?_
  refine wseq ?_
  refine regp (ρ' := [(0, .string (S l)), (3, .int .i64 0)]) (C := []) ha [] (by kernel_rfl) .nil ?_
  clear ha a; intro a ha
  refine tn ?_
  refine wblk ?_
  refine wloop (fun zz a w1 => ∃ (i : Nat), zz = l.length - i ∧ On 28 [(0, .string (S l)), (3, .int .i64 ((i : Nat) : Int))] a ∧ Ext w w1 ∧ (i ≤ l.length) ∧ (oNameTo l i = true)) _ ⟨0, rfl, ha.sub (ρ' := [(0, .string (S l)), (3, .int .i64 ((0 : Nat) : Int))]) (by kernel_rfl), hx, by omega, rfl⟩ ?_
  clear ha hx
  rintro zz a w2 ⟨i, hzz, ha, hx, hi, hf⟩
  refine wseq ?_
  refine wseq ?_
  refine regp (ρ' := [(0, .string (S l)), (3, .int .i64 ((i : Nat) : Int)), (7, .bool (decide (((i : Nat) : Int) < ((l.length : Nat) : Int))))]) (C := []) ha [] (by kernel_rfl) .nil ?_
  clear ha a; intro a ha
  refine tn ?_
  refine wif ha rfl (fun h7 => ?_) (fun h7 => ?_)
  · replace h7 := of_decide_eq_true h7
    have hil : i < l.length := by omega
    refine wskip ?_
    refine tn ?_
    refine wseq ?_
    refine wblk ?_
    refine wseq ?_
    refine regp (ρ' := [(0, .string (S l)), (3, .int .i64 ((i : Nat) : Int)), (19, .bool ((decide ((((l.getD i 0).toNat : Nat) : Int) = 0)) || (decide ((((l.getD i 0).toNat : Nat) : Int) = 47))))]) (C := [0 ≤ ((i : Nat) : Int) ∧ ((i : Nat) : Int) < (l.length : Int), (decide ((((l.getD i 0).toNat : Nat) : Int) = 0)) = false → All [0 ≤ ((i : Nat) : Int) ∧ ((i : Nat) : Int) < (l.length : Int)]]) ha [] (by kernel_rfl) (.cons ⟨by omega, by omega⟩ (.cons (fun hg5 => by replace hg5 := of_decide_eq_false hg5; exact (.cons ⟨by omega, by omega⟩ .nil)) .nil)) ?_
    clear ha a; intro a ha
    refine tn ?_
    refine wif ha rfl (fun h19 => ?_) (fun h19 => ?_)
    · simp only [Bool.not_eq_true', Bool.not_eq_false', Bool.and_eq_true, Bool.or_eq_true, Bool.and_eq_false_iff, Bool.or_eq_false_iff, decide_eq_true_eq, decide_eq_false_iff_not, Bool.not_eq_true, Decidable.not_not] at h19
      have hres : oName l = false := oNameTo_false hil (by rw [oNameTo_succ l i hil, hf, decide_eq_false (fun h => h19.elim (fun e => h.1 (u8_zero.1 e)) (fun e => h.2 (u8_slash.1 e)))]; rfl)
      refine wseq ?_
      refine regp (ρ' := [(2, .bool false)]) (C := []) ha [] (by kernel_rfl) .nil ?_
      clear ha a; intro a ha
      refine tn ?_
      refine wret ?_
      refine (br (tr (tr (br (tr ?_)))))
      refine fin ha (.tmp rfl .nil) ?_
      exact ⟨congrArg Value.bool hres.symm, hx⟩
    · simp only [Bool.not_eq_true', Bool.not_eq_false', Bool.and_eq_true, Bool.or_eq_true, Bool.and_eq_false_iff, Bool.or_eq_false_iff, decide_eq_true_eq, decide_eq_false_iff_not, Bool.not_eq_true, Decidable.not_not] at h19
      refine wskip ?_
      refine bn ?_
      refine tn ?_
      refine regp (ρ' := [(0, .string (S l)), (3, .int .i64 ((i + 1 : Nat) : Int))]) (C := [InR .i64 ((i + 1 : Nat) : Int)]) ha [] (by kernel_rfl) (.cons (by unfold InR; omega) .nil) ?_
      clear ha a; intro a ha
      exact tn ⟨l.length - ((i + 1)), by omega, (i + 1), rfl, ha.sub (ρ' := [(0, .string (S l)), (3, .int .i64 (((i + 1) : Nat) : Int))]) (by kernel_rfl), hx, by omega, by rw [oNameTo_succ l i hil, hf, decide_eq_true ⟨fun h => h19.1 (u8_zero.2 h), fun h => h19.2 (u8_slash.2 h)⟩]; rfl⟩
  · replace h7 := of_decide_eq_false h7
    obtain rfl : i = l.length := by omega
    have hres : oName l = decide (1 ≤ l.length ∧ l.length ≤ 40) := by rw [oName_all, hf]; simp
    refine wexit ?_
    refine (te (te (be ?_)))
    refine tn ?_
    refine wseq ?_
    refine regp (ρ' := [(2, .bool ((decide ((1 : Int) ≤ ((l.length : Nat) : Int))) && (decide (((l.length : Nat) : Int) ≤ 40))))]) (C := []) ha [] (by kernel_rfl) .nil ?_
    clear ha a; intro a ha
    refine tn ?_
    refine wret ?_
    refine fin ha (.tmp rfl .nil) ?_
    refine ⟨congrArg Value.bool ?_, hx⟩
    rw [hres, Bool.eq_iff_iff]; simp; omega
theorem one_ok (n : Int) (w : World) :
    Fn Tryd.prog 91 #[.int .i64 n] w (fun x w' => x = .string (S [UInt8.ofNat (n % 256).toNat]) ∧ Ext w w') := by
  have hx : Ext w w := Ext.rfl' w
  refine enter (N := 7) (args := [.int .i64 n]) Tryd.func91 rfl rfl rfl ?_
  intro a ha
  simp only [argEnv, Nat.zero_add, Nat.reduceAdd] at ha
  refine wseq ?_
  refine regp (ρ' := [(0, .int .i64 n)]) (C := []) ha [] (by kernel_rfl) .nil ?_
  clear ha a; intro a ha
  refine tn ?_
  refine wseq ?_
  refine reg_list ?_
  refine segp (ρ' := [(4, .int .u8 (n % 256))]) (C := []) ha 2 [(1, .mod)] rfl (by kernel_rfl) .nil ?_
  clear ha a; intro a ha
  refine lnewS ha rfl (by kernel_rfl) #[.int .u8 (n % 256)] 5 1 (by kernel_rfl) ?_
  clear ha a; intro b1 w2 he hb_b1 hB_b1 a ha
  replace hb_b1 := Nat.le_trans hx.size hb_b1
  replace hx := hx.tr he
  clear he
  refine segp (ρ' := [(2, .string (S [UInt8.ofNat ((n % 256) : Int).toNat]))]) (C := [RunOk Tryd.prog w2 (convert 63 9 (.slice (some ⟨b1, 0, none⟩) 1 1)) (.string (S [UInt8.ofNat ((n % 256) : Int).toNat]))]) ha 2 [(0, .val (.string (S [UInt8.ofNat ((n % 256) : Int).toNat])))] rfl (by kernel_rfl) (.cons (cvBlk (e := 5) (zs := [((n % 256) : Int)]) (by kernel_rfl) (by kernel_rfl) (by kernel_rfl) hB_b1 rfl rfl) .nil) ?_
  clear ha a; intro a ha
  refine lnil ?_
  replace ha := ha.sub (ρ' := [(2, .string (S [UInt8.ofNat ((n % 256) : Int).toNat]))]) (by kernel_rfl)
  refine tn ?_
  refine wret ?_
  refine fin ha (.tmp rfl .nil) ?_
  exact ⟨rfl, hx⟩
theorem idbytes_ok (x : Id) (w : World) :
    Fn Tryd.prog 109 #[.agg ⟨idc x⟩] w (fun v w' => v = .string (S x.l) ∧ Ext w w') := by
  have hx : Ext w w := Ext.rfl' w
  refine enter (N := 5) (args := [.agg ⟨idc x⟩]) Tryd.func109 rfl rfl rfl ?_
  intro a ha
  simp only [argEnv, Nat.zero_add, Nat.reduceAdd] at ha
  refine wseq ?_
  refine reg_list ?_
  refine lnew ha rfl (by kernel_rfl) ⟨idc x⟩ 24 (by kernel_rfl) ?_
  clear ha a; intro b1 w2 he hb_b1 hB_b1 a ha
  replace hb_b1 := Nat.le_trans hx.size hb_b1
  replace hx := hx.tr he
  clear he
  refine segp (ρ' := [(1, .pointer (some ⟨b1, 0, none⟩))]) (C := []) ha 1 [] rfl (by kernel_rfl) .nil ?_
  clear ha a; intro a ha
  refine lnil ?_
  replace ha := ha.sub (ρ' := [(1, .pointer (some ⟨b1, 0, none⟩))]) (by kernel_rfl)
  refine tn ?_
  refine wseq ?_
  refine regp (ρ' := [(2, .string (S x.l))]) (C := [RunOk Tryd.prog w2 (convert 63 9 (.slice (some ⟨b1, 0, none⟩) 32 32)) (.string (S x.l))]) ha [(0, .raw), (1, .val (.string (S x.l)))] (by kernel_rfl) (.cons (cvId (e := 5) (x := x) (by kernel_rfl) (by kernel_rfl) (by kernel_rfl) hB_b1 (by kernel_rfl)) .nil) ?_
  clear ha a; intro a ha
  refine tn ?_
  refine wret ?_
  refine fin ha (.tmp rfl .nil) ?_
  exact ⟨rfl, hx⟩
theorem rmay_ok (o : ObjL) (Ae Ap : Option Addr) (ce cp : Nat) (w : World) (hoe : Rd w 34 Ae o.Entries.length (o.Entries.flatMap encEnt)) (hop : Rd w 32 Ap o.Parents.length (o.Parents.flatMap idc)) (hok : ObjOk o) :
    Fn Tryd.prog 90 #[.agg ⟨objC o Ae ce Ap cp⟩] w (fun x w' => x = .bool (oMay o) ∧ Ext w w') := by
  have hx : Ext w w := Ext.rfl' w
  refine enter (N := 144) (args := [.agg ⟨objC o Ae ce Ap cp⟩]) Tryd.func90 rfl rfl rfl ?_
  intro a ha
  simp only [argEnv, Nat.zero_add, Nat.reduceAdd] at ha
  refine wseq ?_
  refine reg_list ?_
  refine lnew ha rfl (by kernel_rfl) ⟨objC o Ae ce Ap cp⟩ 54 (by kernel_rfl) ?_
  clear ha a; intro b1 w2 he hb_b1 hB_b1 a ha
  replace hb_b1 := Nat.le_trans hx.size hb_b1
  replace hx := hx.tr he
  clear he
  refine segp (ρ' := [(1, .pointer (some ⟨b1, 0, none⟩))]) (C := []) ha 1 [] rfl (by kernel_rfl) .nil ?_
  clear ha a; intro a ha
  refine lnil ?_
  replace ha := ha.sub (ρ' := [(1, .pointer (some ⟨b1, 0, none⟩))]) (by kernel_rfl)
  refine tn ?_
  refine wseq ?_
  refine wseq ?_
  refine regp (ρ' := [(1, .pointer (some ⟨b1, 0, none⟩)), (15, .bool ((decide ((o.Kind : Int) < 1)) || (decide ((4 : Int) < o.Kind))))]) (C := [RunOk Tryd.prog w2 (Instr.loadAt 3 (.pointer (some ⟨b1, 0, none⟩))) (.int .i64 o.Kind), (decide ((o.Kind : Int) < 1)) = false → All [RunOk Tryd.prog w2 (Instr.loadAt 3 (.pointer (some ⟨b1, 0, none⟩))) (.int .i64 o.Kind)]]) ha [(1, .val (.int .i64 o.Kind)), (5, .val (.int .i64 o.Kind))] (by kernel_rfl) (.cons (ld1 hB_b1 (by kernel_rfl) (by kernel_rfl)) (.cons (fun hg4 => by replace hg4 := of_decide_eq_false hg4; exact (.cons (ld1 hB_b1 (by kernel_rfl) (by kernel_rfl)) .nil)) .nil)) ?_
  clear ha a; intro a ha
  refine tn ?_
  refine wif ha rfl (fun h15 => ?_) (fun h15 => ?_)
  · simp only [Bool.not_eq_true', Bool.not_eq_false', Bool.and_eq_true, Bool.or_eq_true, Bool.and_eq_false_iff, Bool.or_eq_false_iff, decide_eq_true_eq, decide_eq_false_iff_not, Bool.not_eq_true, Decidable.not_not] at h15
    have hres : oMay o = false := by rw [← Bool.not_eq_true, oMay_iff]; rintro ⟨k1, k2, k3, k4, k5, k6, k7, k8, k9⟩; omega
    refine wseq ?_
    refine regp (ρ' := [(2, .bool false)]) (C := []) ha [] (by kernel_rfl) .nil ?_
    clear ha a; intro a ha
    refine tn ?_
    refine wret ?_
    refine (tr ?_)
    refine fin ha (.tmp rfl .nil) ?_
    exact ⟨congrArg Value.bool hres.symm, hx⟩
  · simp only [Bool.not_eq_true', Bool.not_eq_false', Bool.and_eq_true, Bool.or_eq_true, Bool.and_eq_false_iff, Bool.or_eq_false_iff, decide_eq_true_eq, decide_eq_false_iff_not, Bool.not_eq_true, Decidable.not_not] at h15
    refine wskip ?_
    refine tn ?_
    refine wseq ?_
    refine reg_list ?_
    refine segp (ρ' := [(1, .pointer (some ⟨b1, 0, none⟩)), (16, .agg ⟨idc idZ⟩)]) (C := []) ha 1 [] rfl (by kernel_rfl) .nil ?_
    clear ha a; intro a ha
    refine lnew ha rfl (by kernel_rfl) ⟨idc idZ⟩ 24 (by kernel_rfl) ?_
    clear ha a; intro b3 w4 he hb_b3 hB_b3 a ha
    have hne_b1_b3 : b1 ≠ b3 := ne_new hB_b1 hb_b3
    replace hB_b1 := keepB he hB_b1
    replace hb_b3 := Nat.le_trans hx.size hb_b3
    replace hx := hx.tr he
    clear he
    refine lstore (off := 0) ha rfl rfl (by kernel_rfl) hB_b3 ⟨idc idZ⟩ rfl (by kernel_rfl) (by kernel_rfl) ?_
    clear ha a; intro w5 hc a ha
    replace hB_b1 := hc.keep hB_b1 (by first | assumption | exact Ne.symm (by assumption))
    replace hx := hc.ext hx hb_b3
    replace hB_b3 := hc.at_; clear hc
    refine lnil ?_
    replace ha := ha.sub (ρ' := [(1, .pointer (some ⟨b1, 0, none⟩)), (3, .pointer (some ⟨b3, 0, none⟩))]) (by kernel_rfl)
    refine tn ?_
    refine wseq ?_
    refine wseq ?_
    refine regp (ρ' := [(1, .pointer (some ⟨b1, 0, none⟩)), (3, .pointer (some ⟨b3, 0, none⟩)), (35, .bool (((!decide ((o.Kind : Int) = 1)) && (!decide ((o.Data : List UInt8) = ([] : List UInt8)))) || ((!decide ((o.Kind : Int) = 2)) && (decide ((0 : Int) < ((o.Entries.length : Nat) : Int))))))]) (C := [RunOk Tryd.prog w5 (Instr.loadAt 3 (.pointer (some ⟨b1, 0, none⟩))) (.int .i64 o.Kind), (!decide ((o.Kind : Int) = 1)) = true → All [RunOk Tryd.prog w5 (Instr.loadAt 9 (.pointer (some ⟨b1, 1, none⟩))) (.string (S o.Data))], ((!decide ((o.Kind : Int) = 1)) && (!decide ((o.Data : List UInt8) = ([] : List UInt8)))) = false → All [RunOk Tryd.prog w5 (Instr.loadAt 3 (.pointer (some ⟨b1, 0, none⟩))) (.int .i64 o.Kind), (!decide ((o.Kind : Int) = 2)) = true → All [RunOk Tryd.prog w5 (Instr.loadAt 50 (.pointer (some ⟨b1, 2, none⟩))) (.slice Ae o.Entries.length ce)]]]) ha [(1, .val (.int .i64 o.Kind)), (5, .val (.string (S o.Data))), (10, .val (.int .i64 o.Kind)), (14, .val (.slice Ae o.Entries.length ce))] (by kernel_rfl) (.cons (ld1 hB_b1 (by kernel_rfl) (by kernel_rfl)) (.cons (fun hg4 => by simp only [Bool.not_eq_true', Bool.not_eq_false', Bool.and_eq_true, Bool.or_eq_true, Bool.and_eq_false_iff, Bool.or_eq_false_iff, decide_eq_true_eq, decide_eq_false_iff_not, Bool.not_eq_true, Decidable.not_not] at hg4; exact (.cons (ld1 hB_b1 (by kernel_rfl) (by kernel_rfl)) .nil)) (.cons (fun hg9 => by simp only [Bool.not_eq_true', Bool.not_eq_false', Bool.and_eq_true, Bool.or_eq_true, Bool.and_eq_false_iff, Bool.or_eq_false_iff, decide_eq_true_eq, decide_eq_false_iff_not, Bool.not_eq_true, Decidable.not_not] at hg9; exact (.cons (ld1 hB_b1 (by kernel_rfl) (by kernel_rfl)) (.cons (fun hg13 => by simp only [Bool.not_eq_true', Bool.not_eq_false', Bool.and_eq_true, Bool.or_eq_true, Bool.and_eq_false_iff, Bool.or_eq_false_iff, decide_eq_true_eq, decide_eq_false_iff_not, Bool.not_eq_true, Decidable.not_not] at hg13; exact (.cons (ld1 hB_b1 (by kernel_rfl) (by kernel_rfl)) .nil)) .nil))) .nil))) ?_
    clear ha a; intro a ha
    refine tn ?_
    refine wif ha rfl (fun h35 => ?_) (fun h35 => ?_)
    · simp only [Bool.not_eq_true', Bool.not_eq_false', Bool.and_eq_true, Bool.or_eq_true, Bool.and_eq_false_iff, Bool.or_eq_false_iff, decide_eq_true_eq, decide_eq_false_iff_not, Bool.not_eq_true, Decidable.not_not] at h35
      have hres : oMay o = false := by rw [← Bool.not_eq_true, oMay_iff]; rintro ⟨k1, k2, k3, k4, k5, k6, k7, k8, k9⟩; rcases h35 with ⟨h1, h2⟩ | ⟨h1, h2⟩; exact h2 (k2 h1); rw [k3 h1] at h2; simp at h2
      refine wseq ?_
      refine regp (ρ' := [(2, .bool false)]) (C := []) ha [] (by kernel_rfl) .nil ?_
      clear ha a; intro a ha
      refine tn ?_
      refine wret ?_
      refine (tr ?_)
      refine fin ha (.tmp rfl .nil) ?_
      exact ⟨congrArg Value.bool hres.symm, hx⟩
    · simp only [Bool.not_eq_true', Bool.not_eq_false', Bool.and_eq_true, Bool.or_eq_true, Bool.and_eq_false_iff, Bool.or_eq_false_iff, decide_eq_true_eq, decide_eq_false_iff_not, Bool.not_eq_true, Decidable.not_not] at h35
      have f35 : (o.Kind ≠ 1 → o.Data = []) ∧ (o.Kind ≠ 2 → o.Entries = []) := ⟨fun h => by rcases h35.1 with h1 | h1; exact absurd h1 h; exact h1, fun h => by rcases h35.2 with h1 | h1; exact absurd h1 h; exact List.eq_nil_of_length_eq_zero (by omega)⟩
      refine wskip ?_
      refine tn ?_
      refine wseq ?_
      refine wseq ?_
      refine regp (ρ' := [(1, .pointer (some ⟨b1, 0, none⟩)), (3, .pointer (some ⟨b3, 0, none⟩)), (60, .bool ((!decide ((o.Kind : Int) = 3)) && ((((!decide (o.Tree = idZ)) || (decide ((0 : Int) < ((o.Parents.length : Nat) : Int)))) || (!decide (((o.Time : Nat) : Int) = 0))) || (!decide ((o.Text : List UInt8) = ([] : List UInt8))))))]) (C := [RunOk Tryd.prog w5 (Instr.loadAt 3 (.pointer (some ⟨b1, 0, none⟩))) (.int .i64 o.Kind), (!decide ((o.Kind : Int) = 3)) = true → All [RunOk Tryd.prog w5 (Instr.loadAt 24 (.pointer (some ⟨b1, 3, none⟩))) (.agg ⟨idc o.Tree⟩), RunOk Tryd.prog w5 (Instr.loadAt 24 (.pointer (some ⟨b3, 0, none⟩))) (.agg ⟨idc idZ⟩), BinOk Tryd.prog .neq 24 (.agg ⟨idc o.Tree⟩) (.agg ⟨idc idZ⟩) (.bool (!decide (o.Tree = idZ))), (!decide (o.Tree = idZ)) = false → All [RunOk Tryd.prog w5 (Instr.loadAt 51 (.pointer (some ⟨b1, 35, none⟩))) (.slice Ap o.Parents.length cp)], ((!decide (o.Tree = idZ)) || (decide ((0 : Int) < ((o.Parents.length : Nat) : Int)))) = false → All [RunOk Tryd.prog w5 (Instr.loadAt 52 (.pointer (some ⟨b1, 36, none⟩))) (.int .u32 ((o.Time : Nat) : Int))], (((!decide (o.Tree = idZ)) || (decide ((0 : Int) < ((o.Parents.length : Nat) : Int)))) || (!decide (((o.Time : Nat) : Int) = 0))) = false → All [RunOk Tryd.prog w5 (Instr.loadAt 9 (.pointer (some ⟨b1, 37, none⟩))) (.string (S o.Text))]]]) ha [(1, .val (.int .i64 o.Kind)), (5, .val (.agg ⟨idc o.Tree⟩)), (6, .val (.agg ⟨idc idZ⟩)), (7, .val (.bool (!decide (o.Tree = idZ)))), (10, .val (.slice Ap o.Parents.length cp)), (16, .val (.int .u32 ((o.Time : Nat) : Int))), (21, .val (.string (S o.Text)))] (by kernel_rfl) (.cons (ld1 hB_b1 (by kernel_rfl) (by kernel_rfl)) (.cons (fun hg4 => by simp only [Bool.not_eq_true', Bool.not_eq_false', Bool.and_eq_true, Bool.or_eq_true, Bool.and_eq_false_iff, Bool.or_eq_false_iff, decide_eq_true_eq, decide_eq_false_iff_not, Bool.not_eq_true, Decidable.not_not] at hg4; exact (.cons (ldN (n := 32) hB_b1 (by kernel_rfl) (by kernel_rfl) ⟨Nat.le_of_ble_eq_true (by kernel_rfl), (by kernel_rfl)⟩) (.cons (ldN (n := 32) hB_b3 (by kernel_rfl) (by kernel_rfl) ⟨Nat.le_of_ble_eq_true (by kernel_rfl), (by kernel_rfl)⟩) (.cons (eqIdN (x := o.Tree) (y := idZ) (by kernel_rfl)) (.cons (fun hg9 => by simp only [Bool.not_eq_true', Bool.not_eq_false', Bool.and_eq_true, Bool.or_eq_true, Bool.and_eq_false_iff, Bool.or_eq_false_iff, decide_eq_true_eq, decide_eq_false_iff_not, Bool.not_eq_true, Decidable.not_not] at hg9; exact (.cons (ld1 hB_b1 (by kernel_rfl) (by kernel_rfl)) .nil)) (.cons (fun hg15 => by simp only [Bool.not_eq_true', Bool.not_eq_false', Bool.and_eq_true, Bool.or_eq_true, Bool.and_eq_false_iff, Bool.or_eq_false_iff, decide_eq_true_eq, decide_eq_false_iff_not, Bool.not_eq_true, Decidable.not_not] at hg15; exact (.cons (ld1 hB_b1 (by kernel_rfl) (by kernel_rfl)) .nil)) (.cons (fun hg20 => by simp only [Bool.not_eq_true', Bool.not_eq_false', Bool.and_eq_true, Bool.or_eq_true, Bool.and_eq_false_iff, Bool.or_eq_false_iff, decide_eq_true_eq, decide_eq_false_iff_not, Bool.not_eq_true, Decidable.not_not] at hg20; exact (.cons (ld1 hB_b1 (by kernel_rfl) (by kernel_rfl)) .nil)) .nil))))))) .nil)) ?_
      clear ha a; intro a ha
      refine tn ?_
      refine wif ha rfl (fun h60 => ?_) (fun h60 => ?_)
      · simp only [Bool.not_eq_true', Bool.not_eq_false', Bool.and_eq_true, Bool.or_eq_true, Bool.and_eq_false_iff, Bool.or_eq_false_iff, decide_eq_true_eq, decide_eq_false_iff_not, Bool.not_eq_true, Decidable.not_not] at h60
        have hres : oMay o = false := by rw [← Bool.not_eq_true, oMay_iff]; rintro ⟨k1, k2, k3, k4, k5, k6, k7, k8, k9⟩; obtain ⟨h1, h2⟩ := h60; obtain ⟨q1, q2, q3, q4⟩ := k4 h1; simp [q1, q2, q3, q4] at h2
        refine wseq ?_
        refine regp (ρ' := [(2, .bool false)]) (C := []) ha [] (by kernel_rfl) .nil ?_
        clear ha a; intro a ha
        refine tn ?_
        refine wret ?_
        refine (tr ?_)
        refine fin ha (.tmp rfl .nil) ?_
        exact ⟨congrArg Value.bool hres.symm, hx⟩
      · simp only [Bool.not_eq_true', Bool.not_eq_false', Bool.and_eq_true, Bool.or_eq_true, Bool.and_eq_false_iff, Bool.or_eq_false_iff, decide_eq_true_eq, decide_eq_false_iff_not, Bool.not_eq_true, Decidable.not_not] at h60
        have f60 : o.Kind ≠ 3 → o.Tree = idZ ∧ o.Parents = [] ∧ o.Time = 0 ∧ o.Text = [] := fun h => by rcases h60 with h1 | ⟨⟨⟨h1, h2⟩, h3⟩, h4⟩; exact absurd h1 h; exact ⟨h1, List.eq_nil_of_length_eq_zero (by omega), by omega, h4⟩
        refine wskip ?_
        refine tn ?_
        refine wcut (fun a w6 => On 144 [(1, .pointer (some ⟨b1, 0, none⟩))] a ∧ Ext w w6 ∧ w6.heap[b1]? = some (.cells ⟨objC o Ae ce Ap cp⟩ 54 (0, 0)) ∧ w6.heap[b3]? = some (.cells ⟨idc idZ⟩ 24 (0, 0)) ∧ ((o.Kind ≠ 4 → o.Target = idZ ∧ o.Of = 0 ∧ o.Name = []) ∧ (o.Kind = 4 → (1 ≤ o.Of ∧ o.Of ≤ 4) ∧ oName o.Name = true))) ?_ ?_
        ·
          refine wseq ?_
          refine regp (ρ' := [(1, .pointer (some ⟨b1, 0, none⟩)), (3, .pointer (some ⟨b3, 0, none⟩)), (63, .bool (!decide ((o.Kind : Int) = 4)))]) (C := [RunOk Tryd.prog w5 (Instr.loadAt 3 (.pointer (some ⟨b1, 0, none⟩))) (.int .i64 o.Kind)]) ha [(1, .val (.int .i64 o.Kind))] (by kernel_rfl) (.cons (ld1 hB_b1 (by kernel_rfl) (by kernel_rfl)) .nil) ?_
          clear ha a; intro a ha
          refine tn ?_
          refine wif ha rfl (fun h63 => ?_) (fun h63 => ?_)
          · simp only [Bool.not_eq_true', Bool.not_eq_false', Bool.and_eq_true, Bool.or_eq_true, Bool.and_eq_false_iff, Bool.or_eq_false_iff, decide_eq_true_eq, decide_eq_false_iff_not, Bool.not_eq_true, Decidable.not_not] at h63
            refine wseq ?_
            refine regp (ρ' := [(1, .pointer (some ⟨b1, 0, none⟩)), (77, .bool (((!decide (o.Target = idZ)) || (!decide ((o.Of : Int) = 0))) || (!decide ((o.Name : List UInt8) = ([] : List UInt8)))))]) (C := [RunOk Tryd.prog w5 (Instr.loadAt 24 (.pointer (some ⟨b1, 38, none⟩))) (.agg ⟨idc o.Target⟩), RunOk Tryd.prog w5 (Instr.loadAt 24 (.pointer (some ⟨b3, 0, none⟩))) (.agg ⟨idc idZ⟩), BinOk Tryd.prog .neq 24 (.agg ⟨idc o.Target⟩) (.agg ⟨idc idZ⟩) (.bool (!decide (o.Target = idZ))), (!decide (o.Target = idZ)) = false → All [RunOk Tryd.prog w5 (Instr.loadAt 3 (.pointer (some ⟨b1, 70, none⟩))) (.int .i64 o.Of)], ((!decide (o.Target = idZ)) || (!decide ((o.Of : Int) = 0))) = false → All [RunOk Tryd.prog w5 (Instr.loadAt 9 (.pointer (some ⟨b1, 71, none⟩))) (.string (S o.Name))]]) ha [(1, .val (.agg ⟨idc o.Target⟩)), (2, .val (.agg ⟨idc idZ⟩)), (3, .val (.bool (!decide (o.Target = idZ)))), (6, .val (.int .i64 o.Of)), (11, .val (.string (S o.Name)))] (by kernel_rfl) (.cons (ldN (n := 32) hB_b1 (by kernel_rfl) (by kernel_rfl) ⟨Nat.le_of_ble_eq_true (by kernel_rfl), (by kernel_rfl)⟩) (.cons (ldN (n := 32) hB_b3 (by kernel_rfl) (by kernel_rfl) ⟨Nat.le_of_ble_eq_true (by kernel_rfl), (by kernel_rfl)⟩) (.cons (eqIdN (x := o.Target) (y := idZ) (by kernel_rfl)) (.cons (fun hg5 => by simp only [Bool.not_eq_true', Bool.not_eq_false', Bool.and_eq_true, Bool.or_eq_true, Bool.and_eq_false_iff, Bool.or_eq_false_iff, decide_eq_true_eq, decide_eq_false_iff_not, Bool.not_eq_true, Decidable.not_not] at hg5; exact (.cons (ld1 hB_b1 (by kernel_rfl) (by kernel_rfl)) .nil)) (.cons (fun hg10 => by simp only [Bool.not_eq_true', Bool.not_eq_false', Bool.and_eq_true, Bool.or_eq_true, Bool.and_eq_false_iff, Bool.or_eq_false_iff, decide_eq_true_eq, decide_eq_false_iff_not, Bool.not_eq_true, Decidable.not_not] at hg10; exact (.cons (ld1 hB_b1 (by kernel_rfl) (by kernel_rfl)) .nil)) .nil))))) ?_
            clear ha a; intro a ha
            refine tn ?_
            refine wif ha rfl (fun h77 => ?_) (fun h77 => ?_)
            · simp only [Bool.not_eq_true', Bool.not_eq_false', Bool.and_eq_true, Bool.or_eq_true, Bool.and_eq_false_iff, Bool.or_eq_false_iff, decide_eq_true_eq, decide_eq_false_iff_not, Bool.not_eq_true, Decidable.not_not] at h77
              have hres : oMay o = false := by rw [← Bool.not_eq_true, oMay_iff]; rintro ⟨k1, k2, k3, k4, k5, k6, k7, k8, k9⟩; obtain ⟨q1, q2, q3⟩ := k5 h63; simp [q1, q2, q3] at h77
              refine wseq ?_
              refine regp (ρ' := [(2, .bool false)]) (C := []) ha [] (by kernel_rfl) .nil ?_
              clear ha a; intro a ha
              refine tn ?_
              refine wret ?_
              refine (tr ?_)
              refine fin ha (.tmp rfl .nil) ?_
              exact ⟨congrArg Value.bool hres.symm, hx⟩
            · simp only [Bool.not_eq_true', Bool.not_eq_false', Bool.and_eq_true, Bool.or_eq_true, Bool.and_eq_false_iff, Bool.or_eq_false_iff, decide_eq_true_eq, decide_eq_false_iff_not, Bool.not_eq_true, Decidable.not_not] at h77
              refine wskip ?_
              exact tn ⟨ha.sub (ρ' := [(1, .pointer (some ⟨b1, 0, none⟩))]) (by kernel_rfl), hx, hB_b1, hB_b3, ⟨fun h => ⟨h77.1.1, h77.1.2, h77.2⟩, fun h => absurd h h63⟩⟩
          · simp only [Bool.not_eq_true', Bool.not_eq_false', Bool.and_eq_true, Bool.or_eq_true, Bool.and_eq_false_iff, Bool.or_eq_false_iff, decide_eq_true_eq, decide_eq_false_iff_not, Bool.not_eq_true, Decidable.not_not] at h63
            refine wseq ?_
            have hnl := hok.nl
            refine reg hmix (ρ' := [(1, .pointer (some ⟨b1, 0, none⟩)), (4, .bool (oName o.Name))]) (C := [RunOk Tryd.prog w5 (Instr.loadAt 9 (.pointer (some ⟨b1, 71, none⟩))) (.string (S o.Name)), CallOk Tryd.prog w5 107 #[.string (S o.Name)] (.bool (oName o.Name))]) ha [(1, .val (.string (S o.Name))), (2, .val (.bool (oName o.Name)))] (by kernel_rfl) (.cons (ld1 hB_b1 (by kernel_rfl) (by kernel_rfl)) (.cons (fun w _ => rname_ok _ w (by first | omega | (simp; done))) .nil)) ?_
            clear ha a; intro a w7 ha he
            replace hx := hx.tr he
            replace hB_b1 := keepB he hB_b1
            replace hB_b3 := keepB he hB_b3
            clear he
            refine tn ?_
            refine wseq ?_
            refine regp (ρ' := [(1, .pointer (some ⟨b1, 0, none⟩)), (92, .bool (((decide ((o.Of : Int) < 1)) || (decide ((4 : Int) < o.Of))) || (!(oName o.Name))))]) (C := [RunOk Tryd.prog w7 (Instr.loadAt 3 (.pointer (some ⟨b1, 70, none⟩))) (.int .i64 o.Of), (decide ((o.Of : Int) < 1)) = false → All [RunOk Tryd.prog w7 (Instr.loadAt 3 (.pointer (some ⟨b1, 70, none⟩))) (.int .i64 o.Of)]]) ha [(1, .val (.int .i64 o.Of)), (5, .val (.int .i64 o.Of))] (by kernel_rfl) (.cons (ld1 hB_b1 (by kernel_rfl) (by kernel_rfl)) (.cons (fun hg4 => by replace hg4 := of_decide_eq_false hg4; exact (.cons (ld1 hB_b1 (by kernel_rfl) (by kernel_rfl)) .nil)) .nil)) ?_
            clear ha a; intro a ha
            refine tn ?_
            refine wif ha rfl (fun h92 => ?_) (fun h92 => ?_)
            · simp only [Bool.not_eq_true', Bool.not_eq_false', Bool.and_eq_true, Bool.or_eq_true, Bool.and_eq_false_iff, Bool.or_eq_false_iff, decide_eq_true_eq, decide_eq_false_iff_not, Bool.not_eq_true, Decidable.not_not] at h92
              have hres : oMay o = false := by rw [← Bool.not_eq_true, oMay_iff]; rintro ⟨k1, k2, k3, k4, k5, k6, k7, k8, k9⟩; have q := k6 h63; rw [q.2] at h92; simp at h92; omega
              refine wseq ?_
              refine regp (ρ' := [(2, .bool false)]) (C := []) ha [] (by kernel_rfl) .nil ?_
              clear ha a; intro a ha
              refine tn ?_
              refine wret ?_
              refine (tr ?_)
              refine fin ha (.tmp rfl .nil) ?_
              exact ⟨congrArg Value.bool hres.symm, hx⟩
            · simp only [Bool.not_eq_true', Bool.not_eq_false', Bool.and_eq_true, Bool.or_eq_true, Bool.and_eq_false_iff, Bool.or_eq_false_iff, decide_eq_true_eq, decide_eq_false_iff_not, Bool.not_eq_true, Decidable.not_not] at h92
              refine wskip ?_
              exact tn ⟨ha.sub (ρ' := [(1, .pointer (some ⟨b1, 0, none⟩))]) (by kernel_rfl), hx, hB_b1, hB_b3, ⟨fun h => absurd h63 h, fun h => ⟨by omega, h92.2⟩⟩⟩
        clear ha hx hB_b1 hB_b3
        rintro a w8 ⟨ha, hx, hB_b1, hB_b3, hj⟩
        refine wseq ?_
        refine wseq ?_
        refine regp (ρ' := [(1, .pointer (some ⟨b1, 0, none⟩)), (102, .bool ((decide ((64 : Int) < ((o.Entries.length : Nat) : Int))) || (decide ((8 : Int) < ((o.Parents.length : Nat) : Int)))))]) (C := [RunOk Tryd.prog w8 (Instr.loadAt 50 (.pointer (some ⟨b1, 2, none⟩))) (.slice Ae o.Entries.length ce), (decide ((64 : Int) < ((o.Entries.length : Nat) : Int))) = false → All [RunOk Tryd.prog w8 (Instr.loadAt 51 (.pointer (some ⟨b1, 35, none⟩))) (.slice Ap o.Parents.length cp)]]) ha [(1, .val (.slice Ae o.Entries.length ce)), (6, .val (.slice Ap o.Parents.length cp))] (by kernel_rfl) (.cons (ld1 hB_b1 (by kernel_rfl) (by kernel_rfl)) (.cons (fun hg5 => by replace hg5 := of_decide_eq_false hg5; exact (.cons (ld1 hB_b1 (by kernel_rfl) (by kernel_rfl)) .nil)) .nil)) ?_
        clear ha a; intro a ha
        refine tn ?_
        refine wif ha rfl (fun h102 => ?_) (fun h102 => ?_)
        · simp only [Bool.not_eq_true', Bool.not_eq_false', Bool.and_eq_true, Bool.or_eq_true, Bool.and_eq_false_iff, Bool.or_eq_false_iff, decide_eq_true_eq, decide_eq_false_iff_not, Bool.not_eq_true, Decidable.not_not] at h102
          have hres : oMay o = false := by rw [← Bool.not_eq_true, oMay_iff]; rintro ⟨k1, k2, k3, k4, k5, k6, k7, k8, k9⟩; omega
          refine wseq ?_
          refine regp (ρ' := [(2, .bool false)]) (C := []) ha [] (by kernel_rfl) .nil ?_
          clear ha a; intro a ha
          refine tn ?_
          refine wret ?_
          refine (tr ?_)
          refine fin ha (.tmp rfl .nil) ?_
          exact ⟨congrArg Value.bool hres.symm, hx⟩
        · simp only [Bool.not_eq_true', Bool.not_eq_false', Bool.and_eq_true, Bool.or_eq_true, Bool.and_eq_false_iff, Bool.or_eq_false_iff, decide_eq_true_eq, decide_eq_false_iff_not, Bool.not_eq_true, Decidable.not_not] at h102
          refine wskip ?_
          refine tn ?_
          refine wseq ?_
          refine wseq ?_
          refine regp (ρ' := [(1, .pointer (some ⟨b1, 0, none⟩)), (5, .int .i64 0)]) (C := []) ha [] (by kernel_rfl) .nil ?_
          clear ha a; intro a ha
          refine tn ?_
          refine wblk ?_
          refine wloop (fun zz a w9 => ∃ (i : Nat), zz = o.Entries.length - i ∧ On 144 [(1, .pointer (some ⟨b1, 0, none⟩)), (5, .int .i64 ((i : Nat) : Int))] a ∧ Ext w w9 ∧ w9.heap[b1]? = some (.cells ⟨objC o Ae ce Ap cp⟩ 54 (0, 0)) ∧ w9.heap[b3]? = some (.cells ⟨idc idZ⟩ 24 (0, 0)) ∧ (i ≤ o.Entries.length) ∧ (entsTo o.Entries i = true)) _ ⟨0, rfl, ha.sub (ρ' := [(1, .pointer (some ⟨b1, 0, none⟩)), (5, .int .i64 ((0 : Nat) : Int))]) (by kernel_rfl), hx, hB_b1, hB_b3, by omega, rfl⟩ ?_
          clear ha hx hB_b1 hB_b3
          rintro zz a w10 ⟨i, hzz, ha, hx, hB_b1, hB_b3, hi, hf⟩
          have hel := hok.el
          refine wseq ?_
          refine wseq ?_
          refine regp (ρ' := [(1, .pointer (some ⟨b1, 0, none⟩)), (5, .int .i64 ((i : Nat) : Int)), (107, .bool (decide (((i : Nat) : Int) < ((o.Entries.length : Nat) : Int))))]) (C := [RunOk Tryd.prog w10 (Instr.loadAt 50 (.pointer (some ⟨b1, 2, none⟩))) (.slice Ae o.Entries.length ce)]) ha [(2, .val (.slice Ae o.Entries.length ce))] (by kernel_rfl) (.cons (ld1 hB_b1 (by kernel_rfl) (by kernel_rfl)) .nil) ?_
          clear ha a; intro a ha
          refine tn ?_
          refine wif ha rfl (fun h107 => ?_) (fun h107 => ?_)
          · replace h107 := of_decide_eq_true h107
            have hil : i < o.Entries.length := by omega
            have hnl := hok.en i hil
            refine wskip ?_
            refine tn ?_
            refine wseq ?_
            refine wblk ?_
            refine wseq ?_
            refine reg_list ?_
            refine segp (ρ' := [(1, .pointer (some ⟨b1, 0, none⟩)), (5, .int .i64 ((i : Nat) : Int)), (114, .agg ⟨encEnt (o.Entries.getD i default)⟩)]) (C := [RunOk Tryd.prog w10 (Instr.loadAt 50 (.pointer (some ⟨b1, 2, none⟩))) (.slice Ae o.Entries.length ce), RunOk Tryd.prog w10 (Instr.indexAt 50 (.slice Ae o.Entries.length ce) (.int .i64 ((i : Nat) : Int))) (.pointer (some ⟨ab Ae, ao Ae + i * 34, none⟩)), RunOk Tryd.prog w10 (Instr.loadAt 89 (.pointer (some ⟨ab Ae, ao Ae + i * 34, none⟩))) (.agg ⟨encEnt (o.Entries.getD i default)⟩)]) ha 5 [(1, .val (.slice Ae o.Entries.length ce)), (3, .val (.pointer (some ⟨ab Ae, ao Ae + i * 34, none⟩))), (4, .val (.agg ⟨encEnt (o.Entries.getD i default)⟩))] rfl (by kernel_rfl) (.cons (ld1 hB_b1 (by kernel_rfl) (by kernel_rfl)) (.cons (ixRd (e := 89) (by kernel_rfl) (by kernel_rfl) (rdE hx hoe) (by omega)) (.cons (ldRdN (vs := encEnt (o.Entries.getD i default)) (j := i * 34) (by kernel_rfl) (by kernel_rfl) (rdE hx hoe) (by omega) (flat_seg encEnt_len o.Entries default i (by omega))) .nil))) ?_
            clear ha a; intro a ha
            refine lnew ha rfl (by kernel_rfl) ⟨.string (S []) :: (.int .i64 0 :: (idc idZ))⟩ 89 (by kernel_rfl) ?_
            clear ha a; intro b11 w12 he hb_b11 hB_b11 a ha
            have hne_b1_b11 : b1 ≠ b11 := ne_new hB_b1 hb_b11
            have hne_b3_b11 : b3 ≠ b11 := ne_new hB_b3 hb_b11
            replace hB_b1 := keepB he hB_b1
            replace hB_b3 := keepB he hB_b3
            replace hb_b11 := Nat.le_trans hx.size hb_b11
            replace hx := hx.tr he
            clear he
            refine lstore (off := 0) ha rfl rfl (by kernel_rfl) hB_b11 ⟨encEnt (o.Entries.getD i default)⟩ rfl (by kernel_rfl) (by kernel_rfl) ?_
            clear ha a; intro w13 hc a ha
            replace hB_b1 := hc.keep hB_b1 (by first | assumption | exact Ne.symm (by assumption))
            replace hB_b3 := hc.keep hB_b3 (by first | assumption | exact Ne.symm (by assumption))
            replace hx := hc.ext hx hb_b11
            replace hB_b11 := hc.at_; clear hc
            refine lnil ?_
            replace ha := ha.sub (ρ' := [(1, .pointer (some ⟨b1, 0, none⟩)), (5, .int .i64 ((i : Nat) : Int)), (6, .pointer (some ⟨b11, 0, none⟩))]) (by kernel_rfl)
            refine tn ?_
            refine wseq ?_
            refine reg hmix (ρ' := [(1, .pointer (some ⟨b1, 0, none⟩)), (5, .int .i64 ((i : Nat) : Int)), (6, .pointer (some ⟨b11, 0, none⟩)), (7, .bool (oName ((o.Entries.getD i default).Name)))]) (C := [RunOk Tryd.prog w13 (Instr.loadAt 9 (.pointer (some ⟨b11, 0, none⟩))) (.string (S ((o.Entries.getD i default).Name))), CallOk Tryd.prog w13 107 #[.string (S ((o.Entries.getD i default).Name))] (.bool (oName ((o.Entries.getD i default).Name)))]) ha [(1, .val (.string (S ((o.Entries.getD i default).Name)))), (2, .val (.bool (oName ((o.Entries.getD i default).Name))))] (by kernel_rfl) (.cons (ld1 hB_b11 (by kernel_rfl) (by kernel_rfl)) (.cons (fun w _ => rname_ok _ w (by first | omega | (simp; done))) .nil)) ?_
            clear ha a; intro a w14 ha he
            replace hx := hx.tr he
            replace hB_b1 := keepB he hB_b1
            replace hB_b3 := keepB he hB_b3
            replace hB_b11 := keepB he hB_b11
            clear he
            refine tn ?_
            refine wseq ?_
            refine wseq ?_
            refine regp (ρ' := [(1, .pointer (some ⟨b1, 0, none⟩)), (5, .int .i64 ((i : Nat) : Int)), (6, .pointer (some ⟨b11, 0, none⟩)), (129, .bool (((!(oName ((o.Entries.getD i default).Name))) || (decide (((o.Entries.getD i default).Kind : Int) < 1))) || (decide ((2 : Int) < (o.Entries.getD i default).Kind))))]) (C := [(!(oName ((o.Entries.getD i default).Name))) = false → All [RunOk Tryd.prog w14 (Instr.loadAt 3 (.pointer (some ⟨b11, 1, none⟩))) (.int .i64 ((o.Entries.getD i default).Kind))], ((!(oName ((o.Entries.getD i default).Name))) || (decide (((o.Entries.getD i default).Kind : Int) < 1))) = false → All [RunOk Tryd.prog w14 (Instr.loadAt 3 (.pointer (some ⟨b11, 1, none⟩))) (.int .i64 ((o.Entries.getD i default).Kind))]]) ha [(4, .val (.int .i64 ((o.Entries.getD i default).Kind))), (9, .val (.int .i64 ((o.Entries.getD i default).Kind)))] (by kernel_rfl) (.cons (fun hg3 => by simp only [Bool.not_eq_true', Bool.not_eq_false', Bool.and_eq_true, Bool.or_eq_true, Bool.and_eq_false_iff, Bool.or_eq_false_iff, decide_eq_true_eq, decide_eq_false_iff_not, Bool.not_eq_true, Decidable.not_not] at hg3; exact (.cons (ld1 hB_b11 (by kernel_rfl) (by kernel_rfl)) .nil)) (.cons (fun hg8 => by simp only [Bool.not_eq_true', Bool.not_eq_false', Bool.and_eq_true, Bool.or_eq_true, Bool.and_eq_false_iff, Bool.or_eq_false_iff, decide_eq_true_eq, decide_eq_false_iff_not, Bool.not_eq_true, Decidable.not_not] at hg8; exact (.cons (ld1 hB_b11 (by kernel_rfl) (by kernel_rfl)) .nil)) .nil)) ?_
            clear ha a; intro a ha
            refine tn ?_
            refine wif ha rfl (fun h129 => ?_) (fun h129 => ?_)
            · simp only [Bool.not_eq_true', Bool.not_eq_false', Bool.and_eq_true, Bool.or_eq_true, Bool.and_eq_false_iff, Bool.or_eq_false_iff, decide_eq_true_eq, decide_eq_false_iff_not, Bool.not_eq_true, Decidable.not_not] at h129
              have hent : entOk o.Entries i = false := by unfold entOk; rw [← Bool.not_eq_true]; intro hc; simp at hc h129; rcases h129 with (h129 | h129) | h129 <;> simp_all <;> omega
              have hres : oMay o = false := by rw [← Bool.not_eq_true, oMay_iff]; rintro ⟨k1, k2, k3, k4, k5, k6, k7, k8, k9⟩; rw [entsTo_false (n := i + 1) (by omega) (by rw [entsTo_succ, hent]; simp)] at k9; cases k9
              refine wseq ?_
              refine regp (ρ' := [(2, .bool false)]) (C := []) ha [] (by kernel_rfl) .nil ?_
              clear ha a; intro a ha
              refine tn ?_
              refine wret ?_
              refine (tr (br (tr (tr (br (tr ?_))))))
              refine fin ha (.tmp rfl .nil) ?_
              exact ⟨congrArg Value.bool hres.symm, hx⟩
            · simp only [Bool.not_eq_true', Bool.not_eq_false', Bool.and_eq_true, Bool.or_eq_true, Bool.and_eq_false_iff, Bool.or_eq_false_iff, decide_eq_true_eq, decide_eq_false_iff_not, Bool.not_eq_true, Decidable.not_not] at h129
              refine wskip ?_
              refine tn ?_
              refine wseq ?_
              refine reg hmix (ρ' := [(1, .pointer (some ⟨b1, 0, none⟩)), (5, .int .i64 ((i : Nat) : Int)), (143, .bool ((decide ((0 : Int) < ((i : Nat) : Int))) && (!Op.bytesLess ((o.Entries.getD (((((i : Nat) : Int) - 1) : Int).toNat) default).Name : List UInt8) ((o.Entries.getD i default).Name : List UInt8))))]) (C := [(decide ((0 : Int) < ((i : Nat) : Int))) = true → All [RunOk Tryd.prog w14 (Instr.loadAt 50 (.pointer (some ⟨b1, 2, none⟩))) (.slice Ae o.Entries.length ce), InR .i64 (((i : Nat) : Int) - 1), RunOk Tryd.prog w14 (Instr.indexAt 50 (.slice Ae o.Entries.length ce) (.int .i64 (((i : Nat) : Int) - 1))) (.pointer (some ⟨ab Ae, ao Ae + ((((i : Nat) : Int) - 1) : Int).toNat * 34, none⟩)), RunOk Tryd.prog w14 (Instr.loadAt 9 (.pointer (some ⟨ab Ae, ao Ae + ((((i : Nat) : Int) - 1) : Int).toNat * 34, none⟩))) (.string (S ((o.Entries.getD (((((i : Nat) : Int) - 1) : Int).toNat) default).Name))), RunOk Tryd.prog w14 (Instr.loadAt 9 (.pointer (some ⟨b11, 0, none⟩))) (.string (S ((o.Entries.getD i default).Name)))]]) ha [(4, .val (.slice Ae o.Entries.length ce)), (7, .val (.pointer (some ⟨ab Ae, ao Ae + ((((i : Nat) : Int) - 1) : Int).toNat * 34, none⟩))), (9, .val (.string (S ((o.Entries.getD (((((i : Nat) : Int) - 1) : Int).toNat) default).Name)))), (11, .val (.string (S ((o.Entries.getD i default).Name))))] (by kernel_rfl) (.cons (fun hg3 => by replace hg3 := of_decide_eq_true hg3; exact (.cons (ld1 hB_b1 (by kernel_rfl) (by kernel_rfl)) (.cons (by unfold InR; omega) (.cons (ixRdI (e := 89) (by kernel_rfl) (by kernel_rfl) (rdE hx hoe) ⟨by omega, by omega⟩) (.cons (ldRd (j := ((((i : Nat) : Int) - 1) : Int).toNat * 34) (by kernel_rfl) (rdE hx hoe) (by omega) (flat_get0 encEnt_len o.Entries default (((((i : Nat) : Int) - 1) : Int).toNat) (by omega) rfl)) (.cons (ld1 hB_b11 (by kernel_rfl) (by kernel_rfl)) .nil)))))) .nil) ?_
              clear ha a; intro a w15 ha he
              replace hx := hx.tr he
              replace hB_b1 := keepB he hB_b1
              replace hB_b3 := keepB he hB_b3
              replace hB_b11 := keepB he hB_b11
              clear he
              refine tn ?_
              refine wif ha rfl (fun h143 => ?_) (fun h143 => ?_)
              · simp only [Bool.not_eq_true', Bool.not_eq_false', Bool.and_eq_true, Bool.or_eq_true, Bool.and_eq_false_iff, Bool.or_eq_false_iff, decide_eq_true_eq, decide_eq_false_iff_not, Bool.not_eq_true, Decidable.not_not] at h143
                have hent : entOk o.Entries i = false := by unfold entOk; rw [← Bool.not_eq_true]; intro hc; simp at hc h143; simp_all <;> omega
                have hres : oMay o = false := by rw [← Bool.not_eq_true, oMay_iff]; rintro ⟨k1, k2, k3, k4, k5, k6, k7, k8, k9⟩; rw [entsTo_false (n := i + 1) (by omega) (by rw [entsTo_succ, hent]; simp)] at k9; cases k9
                refine wseq ?_
                refine regp (ρ' := [(2, .bool false)]) (C := []) ha [] (by kernel_rfl) .nil ?_
                clear ha a; intro a ha
                refine tn ?_
                refine wret ?_
                refine (br (tr (tr (br (tr ?_)))))
                refine fin ha (.tmp rfl .nil) ?_
                exact ⟨congrArg Value.bool hres.symm, hx⟩
              · simp only [Bool.not_eq_true', Bool.not_eq_false', Bool.and_eq_true, Bool.or_eq_true, Bool.and_eq_false_iff, Bool.or_eq_false_iff, decide_eq_true_eq, decide_eq_false_iff_not, Bool.not_eq_true, Decidable.not_not] at h143
                have hent : entOk o.Entries i = true := by unfold entOk; simp at h129 h143 ⊢; exact ⟨⟨h129.1.1, by omega⟩, h143.elim (fun h => .inl (by omega)) .inr⟩
                refine wskip ?_
                refine bn ?_
                refine tn ?_
                refine regp (ρ' := [(1, .pointer (some ⟨b1, 0, none⟩)), (5, .int .i64 ((i + 1 : Nat) : Int))]) (C := [InR .i64 ((i + 1 : Nat) : Int)]) ha [] (by kernel_rfl) (.cons (by unfold InR; omega) .nil) ?_
                clear ha a; intro a ha
                exact tn ⟨o.Entries.length - ((i + 1)), by omega, (i + 1), rfl, ha.sub (ρ' := [(1, .pointer (some ⟨b1, 0, none⟩)), (5, .int .i64 (((i + 1) : Nat) : Int))]) (by kernel_rfl), hx, hB_b1, hB_b3, by omega, by rw [entsTo_succ, hf, hent]; rfl⟩
          · replace h107 := of_decide_eq_false h107
            obtain rfl : i = o.Entries.length := by omega
            have hres : oMay o = true := (oMay_iff o).2 ⟨by omega, f35.1, f35.2, f60, hj.1, hj.2, by omega, by omega, hf⟩
            refine wexit ?_
            refine (te (te (be ?_)))
            refine tn ?_
            refine wseq ?_
            refine regp (ρ' := [(2, .bool true)]) (C := []) ha [] (by kernel_rfl) .nil ?_
            clear ha a; intro a ha
            refine tn ?_
            refine wret ?_
            refine fin ha (.tmp rfl .nil) ?_
            exact ⟨congrArg Value.bool hres.symm, hx⟩
end Go.Kn
