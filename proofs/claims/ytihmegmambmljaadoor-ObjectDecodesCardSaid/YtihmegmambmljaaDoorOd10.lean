import Derived.Test.YtihmegmambmljaaDoorOd03
import Derived.Test.YtihmegmambmljaaDoorOd09
import Derived.Test.YtihmegmambmljaaDoorOd07
section
set_option linter.unusedSimpArgs false
set_option linter.unusedVariables false
set_option maxRecDepth 100000
namespace Go.Kn
open Go.Proofs
theorem unhex_ok_ (s : List UInt8) (w : World) (hs : s.length ≤ 1000000) :
    Fn Tryd.prog 12 #[.string (S s)] w (fun x w' => x = .tuple #[.agg ⟨idc (unhex s).1⟩, .bool (unhex s).2] ∧ Ext w w') := by
  have hx : Ext w w := Ext.rfl' w
  refine enter (N := 36) (args := [.string (S s)]) Tryd.func12 rfl rfl rfl ?_
  intro a ha
  simp only [argEnv, Nat.zero_add, Nat.reduceAdd] at ha
  refine wseq ?_
  refine reg_list ?_
  refine lnew ha rfl (by kernel_rfl) ⟨idc idZ⟩ 24 (by kernel_rfl) ?_
  clear ha a; intro bz w1 he hb_bz hB_bz a ha
  replace hb_bz := Nat.le_trans hx.size hb_bz
  replace hx := hx.tr he
  clear he
  refine segp (ρ' := [(0, .string (S s)), (2, .pointer (some ⟨bz, 0, none⟩))]) (C := []) ha 1 [] rfl (by kernel_rfl) .nil ?_
  clear ha a; intro a ha
  refine lnil ?_
  replace ha := ha.sub (ρ' := [(0, .string (S s)), (2, .pointer (some ⟨bz, 0, none⟩))]) (by kernel_rfl)
  refine tn ?_
  refine wseq ?_
  refine reg_list ?_
  refine lnew ha rfl (by kernel_rfl) ⟨idc idZ⟩ 24 (by kernel_rfl) ?_
  clear ha a; intro bx w2 he hb_bx hB_bx a ha
  have hne_bz_bx : bz ≠ bx := ne_new hB_bz hb_bx
  replace hB_bz := keepB he hB_bz
  replace hb_bx := Nat.le_trans hx.size hb_bx
  replace hx := hx.tr he
  clear he
  refine lnil ?_
  replace ha := ha.sub (ρ' := [(0, .string (S s)), (2, .pointer (some ⟨bz, 0, none⟩)), (4, .pointer (some ⟨bx, 0, none⟩))]) (by kernel_rfl)
  refine tn ?_
  refine wseq ?_
  refine wseq ?_
  refine regp (ρ' := [(0, .string (S s)), (2, .pointer (some ⟨bz, 0, none⟩)), (4, .pointer (some ⟨bx, 0, none⟩)), (9, .bool (!decide (((s.length : Nat) : Int) = 64)))]) (C := []) ha [] (by kernel_rfl) .nil ?_
  clear ha a; intro a ha
  refine tn ?_
  refine wif ha rfl (fun h9 => ?_) (fun h9 => ?_)
  · simp only [Bool.not_eq_true', Bool.not_eq_false', Bool.and_eq_true, Bool.or_eq_true, Bool.and_eq_false_iff, Bool.or_eq_false_iff, decide_eq_true_eq, decide_eq_false_iff_not, Bool.not_eq_true, Decidable.not_not] at h9
    refine wseq ?_
    refine reg_list ?_
    refine segp (ρ' := [(2, .pointer (some ⟨bz, 0, none⟩)), (10, .agg ⟨idc idZ⟩)]) (C := [RunOk Tryd.prog w2 (Instr.loadAt 24 (.pointer (some ⟨bx, 0, none⟩))) (.agg ⟨idc idZ⟩)]) ha 1 [(0, .val (.agg ⟨idc idZ⟩))] rfl (by kernel_rfl) (.cons (ldN (n := 32) hB_bx (by kernel_rfl) (by kernel_rfl) ⟨Nat.le_of_ble_eq_true (by kernel_rfl), (by kernel_rfl)⟩) .nil) ?_
    clear ha a; intro a ha
    refine lstore (off := 0) ha rfl rfl (by kernel_rfl) hB_bz ⟨idc idZ⟩ rfl (by kernel_rfl) (by kernel_rfl) ?_
    clear ha a; intro w3 hc a ha
    replace hB_bx := hc.keep hB_bx (by first | assumption | exact Ne.symm (by assumption))
    replace hx := hc.ext hx hb_bz
    replace hB_bz := hc.at_; clear hc
    refine segp (ρ' := [(2, .pointer (some ⟨bz, 0, none⟩)), (3, .bool false)]) (C := []) ha 1 [] rfl (by kernel_rfl) .nil ?_
    clear ha a; intro a ha
    refine lnil ?_
    replace ha := ha.sub (ρ' := [(2, .pointer (some ⟨bz, 0, none⟩)), (3, .bool false)]) (by kernel_rfl)
    refine tn ?_
    refine wret ?_
    refine (tr ?_)
    refine fin ha (.cell rfl (ldVN (n := 32) (vs := ⟨idc idZ⟩) hB_bz (by kernel_rfl) (by kernel_rfl) ⟨Nat.le_of_ble_eq_true (by kernel_rfl), (by kernel_rfl)⟩) (.tmp rfl .nil)) ?_
    exact ⟨by first | (rw [unhex_len (by omega)]; rfl) | (rw [unhex_bad (i := i) (by omega) (by omega)]; rfl), hx⟩
  · simp only [Bool.not_eq_true', Bool.not_eq_false', Bool.and_eq_true, Bool.or_eq_true, Bool.and_eq_false_iff, Bool.or_eq_false_iff, decide_eq_true_eq, decide_eq_false_iff_not, Bool.not_eq_true, Decidable.not_not] at h9
    refine wskip ?_
    refine tn ?_
    refine wseq ?_
    refine wseq ?_
    refine regp (ρ' := [(0, .string (S s)), (2, .pointer (some ⟨bz, 0, none⟩)), (4, .pointer (some ⟨bx, 0, none⟩)), (12, .int .i64 ((s.length : Nat) : Int)), (13, .int .i64 0)]) (C := []) ha [] (by kernel_rfl) .nil ?_
    clear ha a; intro a ha
    refine tn ?_
    refine wblk ?_
    refine wloop (fun zz a w4 => ∃ (i : Nat), zz = 64 - i ∧ On 36 [(0, .string (S s)), (2, .pointer (some ⟨bz, 0, none⟩)), (4, .pointer (some ⟨bx, 0, none⟩)), (12, .int .i64 ((s.length : Nat) : Int)), (13, .int .i64 ((i : Nat) : Int))] a ∧ Ext w w4 ∧ w4.heap[bz]? = some (.cells ⟨idc idZ⟩ 24 (0, 0)) ∧ w4.heap[bx]? = some (.cells ⟨idc (unTo s i)⟩ 24 (0, 0)) ∧ (i ≤ 64) ∧ (∀ j, j < i → 0 ≤ dgi (s.getD j 0))) _ ⟨0, rfl, ha.sub (ρ' := [(0, .string (S s)), (2, .pointer (some ⟨bz, 0, none⟩)), (4, .pointer (some ⟨bx, 0, none⟩)), (12, .int .i64 ((s.length : Nat) : Int)), (13, .int .i64 ((0 : Nat) : Int))]) (by kernel_rfl), hx, hB_bz, hB_bx, by omega, fun j hj => absurd hj (by omega)⟩ ?_
    clear ha hx hB_bz hB_bx
    rintro zz a w5 ⟨i, hzz, ha, hx, hB_bz, hB_bx, hi, hk⟩
    refine wseq ?_
    refine regp (ρ' := [(0, .string (S s)), (2, .pointer (some ⟨bz, 0, none⟩)), (4, .pointer (some ⟨bx, 0, none⟩)), (12, .int .i64 ((s.length : Nat) : Int)), (13, .int .i64 ((i : Nat) : Int)), (14, .bool (decide (((i : Nat) : Int) < ((s.length : Nat) : Int))))]) (C := []) ha [] (by kernel_rfl) .nil ?_
    clear ha a; intro a ha
    refine tn ?_
    refine wseq ?_
    refine wif ha rfl (fun h14 => ?_) (fun h14 => ?_)
    · replace h14 := of_decide_eq_true h14
      refine wskip ?_
      refine tn ?_
      refine wseq ?_
      refine wblk ?_
      refine wseq ?_
      refine regp (ρ' := [(0, .string (S s)), (2, .pointer (some ⟨bz, 0, none⟩)), (4, .pointer (some ⟨bx, 0, none⟩)), (5, .int .i64 ((i : Nat) : Int)), (12, .int .i64 ((s.length : Nat) : Int)), (13, .int .i64 ((i : Nat) : Int))]) (C := []) ha [] (by kernel_rfl) .nil ?_
      clear ha a; intro a ha
      refine tn ?_
      refine wseq ?_
      refine reg hmix (ρ' := [(0, .string (S s)), (2, .pointer (some ⟨bz, 0, none⟩)), (4, .pointer (some ⟨bx, 0, none⟩)), (5, .int .i64 ((i : Nat) : Int)), (6, .int .i64 (Go.Lib.indexByte [48, 49, 50, 51, 52, 53, 54, 55, 56, 57, 97, 98, 99, 100, 101, 102] ((((s.getD i 0).toNat : Nat) : Int) : Int).toNat.toUInt8)), (12, .int .i64 ((s.length : Nat) : Int)), (13, .int .i64 ((i : Nat) : Int))]) (C := [0 ≤ ((i : Nat) : Int) ∧ ((i : Nat) : Int) < (s.length : Int), CallOk Tryd.prog w5 41 #[.string (S [48, 49, 50, 51, 52, 53, 54, 55, 56, 57, 97, 98, 99, 100, 101, 102]), .int .u8 (((s.getD i 0).toNat : Nat) : Int)] (.int .i64 (Go.Lib.indexByte [48, 49, 50, 51, 52, 53, 54, 55, 56, 57, 97, 98, 99, 100, 101, 102] ((((s.getD i 0).toNat : Nat) : Int) : Int).toNat.toUInt8))]) ha [(3, .val (.int .i64 (Go.Lib.indexByte [48, 49, 50, 51, 52, 53, 54, 55, 56, 57, 97, 98, 99, 100, 101, 102] ((((s.getD i 0).toNat : Nat) : Int) : Int).toNat.toUInt8)))] (by kernel_rfl) (.cons ⟨by omega, by omega⟩ (.cons (fun w _ => sixb_ok _ _ w) .nil)) ?_
      clear ha a; intro a w6 ha he
      replace hx := hx.tr he
      replace hB_bz := keepB he hB_bz
      replace hB_bx := keepB he hB_bx
      clear he
      rw [show ((Go.Lib.indexByte [48, 49, 50, 51, 52, 53, 54, 55, 56, 57, 97, 98, 99, 100, 101, 102] ((((s.getD i 0).toNat : Nat) : Int) : Int).toNat.toUInt8) : Int) = (dgi (s.getD i 0)) from by simp [dgi, digs]] at ha
      refine tn ?_
      refine wseq ?_
      refine wseq ?_
      refine regp (ρ' := [(0, .string (S s)), (2, .pointer (some ⟨bz, 0, none⟩)), (4, .pointer (some ⟨bx, 0, none⟩)), (5, .int .i64 ((i : Nat) : Int)), (6, .int .i64 (dgi (s.getD i 0))), (12, .int .i64 ((s.length : Nat) : Int)), (13, .int .i64 ((i : Nat) : Int)), (21, .bool (decide (((dgi (s.getD i 0)) : Int) < 0)))]) (C := []) ha [] (by kernel_rfl) .nil ?_
      clear ha a; intro a ha
      refine tn ?_
      refine wif ha rfl (fun h21 => ?_) (fun h21 => ?_)
      · replace h21 := of_decide_eq_true h21
        refine wseq ?_
        refine reg_list ?_
        refine segp (ρ' := [(2, .pointer (some ⟨bz, 0, none⟩)), (22, .agg ⟨idc idZ⟩)]) (C := []) ha 1 [] rfl (by kernel_rfl) .nil ?_
        clear ha a; intro a ha
        refine lstore (off := 0) ha rfl rfl (by kernel_rfl) hB_bz ⟨idc idZ⟩ rfl (by kernel_rfl) (by kernel_rfl) ?_
        clear ha a; intro w7 hc a ha
        replace hB_bx := hc.keep hB_bx (by first | assumption | exact Ne.symm (by assumption))
        replace hx := hc.ext hx hb_bz
        replace hB_bz := hc.at_; clear hc
        refine segp (ρ' := [(2, .pointer (some ⟨bz, 0, none⟩)), (3, .bool false)]) (C := []) ha 1 [] rfl (by kernel_rfl) .nil ?_
        clear ha a; intro a ha
        refine lnil ?_
        replace ha := ha.sub (ρ' := [(2, .pointer (some ⟨bz, 0, none⟩)), (3, .bool false)]) (by kernel_rfl)
        refine tn ?_
        refine wret ?_
        refine (tr (br (tr (tr (br (tr ?_))))))
        refine fin ha (.cell rfl (ldVN (n := 32) (vs := ⟨idc idZ⟩) hB_bz (by kernel_rfl) (by kernel_rfl) ⟨Nat.le_of_ble_eq_true (by kernel_rfl), (by kernel_rfl)⟩) (.tmp rfl .nil)) ?_
        exact ⟨by first | (rw [unhex_len (by omega)]; rfl) | (rw [unhex_bad (i := i) (by omega) (by omega)]; rfl), hx⟩
      · replace h21 := of_decide_eq_false h21
        rw [show ((dgi (s.getD i 0)) : Int) = ((dg (s.getD i 0) : Nat) : Int) from dg_eq _ (by omega)] at ha
        have hus := un_small s i (by omega)
        have hdl := dg_lt (s.getD i 0)
        have hor : ((unTo s i).l.getD (i / 2) 0).toNat * 16 ||| dg (s.getD i 0) < 256 := by rw [or_add _ _ hdl]; omega
        refine wskip ?_
        refine tn ?_
        refine reg_list ?_
        refine segp (ρ' := [(0, .string (S s)), (2, .pointer (some ⟨bz, 0, none⟩)), (4, .pointer (some ⟨bx, 0, none⟩)), (12, .int .i64 ((s.length : Nat) : Int)), (13, .int .i64 ((i : Nat) : Int)), (32, .int .u8 ((((((unTo s i).l.getD (i / 2) 0).toNat) * 16) ||| (dg (s.getD i 0)) : Nat) : Int)), (33, .pointer (some ⟨bx, (i / 2), none⟩))]) (C := [0 ≤ ((i : Nat) : Int), 0 < (2 : Int), InR .i64 ((i / 2 : Nat) : Int), 0 ≤ ((i : Nat) : Int), 0 < (2 : Int), InR .i64 ((i / 2 : Nat) : Int), RunOk Tryd.prog w6 (Instr.indexAt 24 (.pointer (some ⟨bx, 0, none⟩)) (.int .i64 ((i / 2 : Nat) : Int))) (.pointer (some ⟨bx, (i / 2), none⟩)), RunOk Tryd.prog w6 (Instr.loadAt 5 (.pointer (some ⟨bx, (i / 2), none⟩))) (.int .u8 ((((unTo s i).l.getD (i / 2) 0).toNat : Nat) : Int)), 0 ≤ (4 : Int), InR .u8 (((((unTo s i).l.getD (i / 2) 0).toNat) * 16 : Nat) : Int), InR .u8 ((dg (s.getD i 0) : Nat) : Int), NN .u8 (((((unTo s i).l.getD (i / 2) 0).toNat) * 16 : Nat) : Int), NN .u8 ((dg (s.getD i 0) : Nat) : Int), RunOk Tryd.prog w6 (Instr.indexAt 24 (.pointer (some ⟨bx, 0, none⟩)) (.int .i64 ((i / 2 : Nat) : Int))) (.pointer (some ⟨bx, (i / 2), none⟩))]) ha 11 [(4, .val (.pointer (some ⟨bx, (i / 2), none⟩))), (5, .val (.int .u8 ((((unTo s i).l.getD (i / 2) 0).toNat : Nat) : Int))), (10, .val (.pointer (some ⟨bx, (i / 2), none⟩)))] rfl (by kernel_rfl) (.cons (by omega) (.cons (by omega) (.cons (by unfold InR; omega) (.cons (by omega) (.cons (by omega) (.cons (by unfold InR; omega) (.cons (ixA (n := 32) (i := (i / 2)) (by kernel_rfl) (by omega)) (.cons (ld1 hB_bx (by kernel_rfl) (idc_at (i := (i / 2)) (by omega))) (.cons (by omega) (.cons (by unfold InR; omega) (.cons (by unfold InR; omega) (.cons (by unfold NN InR; omega) (.cons (by unfold NN InR; omega) (.cons (ixA (n := 32) (i := (i / 2)) (by kernel_rfl) (by omega)) .nil)))))))))))))) ?_
        clear ha a; intro a ha
        refine lstoreL (off := (i / 2)) (vs := [.int .u8 ((((((unTo s i).l.getD (i / 2) 0).toNat) * 16) ||| (dg (s.getD i 0)) : Nat) : Int)]) (cs' := idc ((unTo s i).set (i / 2) (((((unTo s i).l.getD (i / 2) 0).toNat) * 16) ||| (dg (s.getD i 0))))) ha rfl rfl (by kernel_rfl) rfl rfl hB_bx (by kernel_rfl) (by kernel_rfl) (by kernel_rfl) (by rw [idc_len _]; show (i / 2) + 1 ≤ 32; omega) (by rw [put_one (by rw [idc_len _]; omega)]; exact idc_set _ _ _ (by omega)) ?_
        clear ha a; intro w8 hc a ha
        replace hB_bz := hc.keep hB_bz (by first | assumption | exact Ne.symm (by assumption))
        replace hx := hc.ext hx hb_bx
        replace hB_bx := hc.at_; clear hc
        refine lnil ?_
        replace ha := ha.sub (ρ' := [(0, .string (S s)), (2, .pointer (some ⟨bz, 0, none⟩)), (4, .pointer (some ⟨bx, 0, none⟩)), (12, .int .i64 ((s.length : Nat) : Int)), (13, .int .i64 ((i : Nat) : Int))]) (by kernel_rfl)
        rw [un_next] at hB_bx
        refine bn ?_
        refine tn ?_
        refine regp (ρ' := [(0, .string (S s)), (2, .pointer (some ⟨bz, 0, none⟩)), (4, .pointer (some ⟨bx, 0, none⟩)), (12, .int .i64 ((s.length : Nat) : Int)), (13, .int .i64 ((i + 1 : Nat) : Int))]) (C := [InR .i64 ((i + 1 : Nat) : Int)]) ha [] (by kernel_rfl) (.cons (by unfold InR; omega) .nil) ?_
        clear ha a; intro a ha
        exact tn ⟨64 - ((i + 1)), by omega, (i + 1), rfl, ha.sub (ρ' := [(0, .string (S s)), (2, .pointer (some ⟨bz, 0, none⟩)), (4, .pointer (some ⟨bx, 0, none⟩)), (12, .int .i64 ((s.length : Nat) : Int)), (13, .int .i64 (((i + 1) : Nat) : Int))]) (by kernel_rfl), hx, hB_bz, hB_bx, by omega, fun j hj => (Nat.lt_or_ge j i).elim (hk j) (fun h => (show j = i by omega) ▸ by omega)⟩
    · replace h14 := of_decide_eq_false h14
      refine wexit ?_
      refine (te (te (be ?_)))
      refine tn ?_
      refine wseq ?_
      refine reg_list ?_
      refine segp (ρ' := [(2, .pointer (some ⟨bz, 0, none⟩)), (35, .agg ⟨idc (unTo s i)⟩)]) (C := [RunOk Tryd.prog w5 (Instr.loadAt 24 (.pointer (some ⟨bx, 0, none⟩))) (.agg ⟨idc (unTo s i)⟩)]) ha 1 [(0, .val (.agg ⟨idc (unTo s i)⟩))] rfl (by kernel_rfl) (.cons (ldN (n := 32) hB_bx (by kernel_rfl) (by kernel_rfl) ⟨Nat.le_of_ble_eq_true (by kernel_rfl), (by kernel_rfl)⟩) .nil) ?_
      clear ha a; intro a ha
      refine lstore (off := 0) ha rfl rfl (by kernel_rfl) hB_bz ⟨idc (unTo s i)⟩ rfl (by kernel_rfl) (by kernel_rfl) ?_
      clear ha a; intro w9 hc a ha
      replace hB_bx := hc.keep hB_bx (by first | assumption | exact Ne.symm (by assumption))
      replace hx := hc.ext hx hb_bz
      replace hB_bz := hc.at_; clear hc
      refine segp (ρ' := [(2, .pointer (some ⟨bz, 0, none⟩)), (3, .bool true)]) (C := []) ha 1 [] rfl (by kernel_rfl) .nil ?_
      clear ha a; intro a ha
      refine lnil ?_
      replace ha := ha.sub (ρ' := [(2, .pointer (some ⟨bz, 0, none⟩)), (3, .bool true)]) (by kernel_rfl)
      refine tn ?_
      refine wret ?_
      refine fin ha (.cell rfl (ldVN (n := 32) (vs := ⟨idc (unTo s i)⟩) hB_bz (by kernel_rfl) (by kernel_rfl) ⟨Nat.le_of_ble_eq_true (by kernel_rfl), (by kernel_rfl)⟩) (.tmp rfl .nil)) ?_
      obtain rfl : i = 64 := by omega
      exact ⟨by rw [unhex_ok (by omega) hk]; rfl, hx⟩
theorem rless_ok (x y : Id) (w : World) :
    Fn Tryd.prog 17 #[.agg ⟨idc x⟩, .agg ⟨idc y⟩] w (fun v w' => v = .bool (Op.bytesLess x.l y.l) ∧ Ext w w') := by
  have hx : Ext w w := Ext.rfl' w
  refine enter (N := 24) (args := [.agg ⟨idc x⟩, .agg ⟨idc y⟩]) Tryd.func17 rfl rfl rfl ?_
  intro a ha
  simp only [argEnv, Nat.zero_add, Nat.reduceAdd] at ha
  refine wseq ?_
  refine reg_list ?_
  refine lnew ha rfl (by kernel_rfl) ⟨idc x⟩ 24 (by kernel_rfl) ?_
  clear ha a; intro bx w1 he hb_bx hB_bx a ha
  replace hb_bx := Nat.le_trans hx.size hb_bx
  replace hx := hx.tr he
  clear he
  refine lnew ha rfl (by kernel_rfl) ⟨idc y⟩ 24 (by kernel_rfl) ?_
  clear ha a; intro by_ w2 he hb_by_ hB_by_ a ha
  have hne_bx_by_ : bx ≠ by_ := ne_new hB_bx hb_by_
  replace hB_bx := keepB he hB_bx
  replace hb_by_ := Nat.le_trans hx.size hb_by_
  replace hx := hx.tr he
  clear he
  refine segp (ρ' := [(2, .pointer (some ⟨bx, 0, none⟩)), (3, .pointer (some ⟨by_, 0, none⟩))]) (C := []) ha 1 [] rfl (by kernel_rfl) .nil ?_
  clear ha a; intro a ha
  refine lnil ?_
  replace ha := ha.sub (ρ' := [(2, .pointer (some ⟨bx, 0, none⟩)), (3, .pointer (some ⟨by_, 0, none⟩))]) (by kernel_rfl)
  refine tn ?_
  refine wseq ?_
  refine wseq ?_
  refine regp (ρ' := [(2, .pointer (some ⟨bx, 0, none⟩)), (3, .pointer (some ⟨by_, 0, none⟩)), (5, .int .i64 0)]) (C := []) ha [] (by kernel_rfl) .nil ?_
  clear ha a; intro a ha
  refine tn ?_
  refine wblk ?_
  refine wloop (fun zz a w3 => ∃ (i : Nat), zz = 32 - i ∧ On 24 [(2, .pointer (some ⟨bx, 0, none⟩)), (3, .pointer (some ⟨by_, 0, none⟩)), (5, .int .i64 ((i : Nat) : Int))] a ∧ Ext w w3 ∧ w3.heap[bx]? = some (.cells ⟨idc x⟩ 24 (0, 0)) ∧ w3.heap[by_]? = some (.cells ⟨idc y⟩ 24 (0, 0)) ∧ (i ≤ 32) ∧ (x.l.take i = y.l.take i)) _ ⟨0, rfl, ha.sub (ρ' := [(2, .pointer (some ⟨bx, 0, none⟩)), (3, .pointer (some ⟨by_, 0, none⟩)), (5, .int .i64 ((0 : Nat) : Int))]) (by kernel_rfl), hx, hB_bx, hB_by_, by omega, rfl⟩ ?_
  clear ha hx hB_bx hB_by_
  rintro zz a w4 ⟨i, hzz, ha, hx, hB_bx, hB_by_, hi, hp⟩
  refine wseq ?_
  refine wseq ?_
  refine regp (ρ' := [(2, .pointer (some ⟨bx, 0, none⟩)), (3, .pointer (some ⟨by_, 0, none⟩)), (5, .int .i64 ((i : Nat) : Int)), (7, .bool (decide (((i : Nat) : Int) < 32)))]) (C := []) ha [] (by kernel_rfl) .nil ?_
  clear ha a; intro a ha
  refine tn ?_
  refine wif ha rfl (fun h7 => ?_) (fun h7 => ?_)
  · replace h7 := of_decide_eq_true h7
    refine wskip ?_
    refine tn ?_
    refine wseq ?_
    refine wblk ?_
    refine wseq ?_
    refine reg hmix (ρ' := [(2, .pointer (some ⟨bx, 0, none⟩)), (3, .pointer (some ⟨by_, 0, none⟩)), (5, .int .i64 ((i : Nat) : Int)), (16, .bool (!decide ((((x.l.getD i 0).toNat : Nat) : Int) = (((y.l.getD i 0).toNat : Nat) : Int))))]) (C := [RunOk Tryd.prog w4 (Instr.indexAt 24 (.pointer (some ⟨bx, 0, none⟩)) (.int .i64 ((i : Nat) : Int))) (.pointer (some ⟨bx, i, none⟩)), RunOk Tryd.prog w4 (Instr.loadAt 5 (.pointer (some ⟨bx, i, none⟩))) (.int .u8 (((x.l.getD i 0).toNat : Nat) : Int)), RunOk Tryd.prog w4 (Instr.indexAt 24 (.pointer (some ⟨by_, 0, none⟩)) (.int .i64 ((i : Nat) : Int))) (.pointer (some ⟨by_, i, none⟩)), RunOk Tryd.prog w4 (Instr.loadAt 5 (.pointer (some ⟨by_, i, none⟩))) (.int .u8 (((y.l.getD i 0).toNat : Nat) : Int))]) ha [(1, .val (.pointer (some ⟨bx, i, none⟩))), (2, .val (.int .u8 (((x.l.getD i 0).toNat : Nat) : Int))), (4, .val (.pointer (some ⟨by_, i, none⟩))), (5, .val (.int .u8 (((y.l.getD i 0).toNat : Nat) : Int)))] (by kernel_rfl) (.cons (ixA (n := 32) (i := i) (by kernel_rfl) (by omega)) (.cons (ld1 hB_bx (by kernel_rfl) (idc_at (i := i) (by omega))) (.cons (ixA (n := 32) (i := i) (by kernel_rfl) (by omega)) (.cons (ld1 hB_by_ (by kernel_rfl) (idc_at (i := i) (by omega))) .nil)))) ?_
    clear ha a; intro a w5 ha he
    replace hx := hx.tr he
    replace hB_bx := keepB he hB_bx
    replace hB_by_ := keepB he hB_by_
    clear he
    refine tn ?_
    refine wif ha rfl (fun h16 => ?_) (fun h16 => ?_)
    · simp only [Bool.not_eq_true', Bool.not_eq_false', Bool.and_eq_true, Bool.or_eq_true, Bool.and_eq_false_iff, Bool.or_eq_false_iff, decide_eq_true_eq, decide_eq_false_iff_not, Bool.not_eq_true, Decidable.not_not] at h16
      refine wseq ?_
      refine reg hmix (ρ' := [(4, .bool (decide ((((x.l.getD i 0).toNat : Nat) : Int) < (((y.l.getD i 0).toNat : Nat) : Int))))]) (C := [RunOk Tryd.prog w5 (Instr.indexAt 24 (.pointer (some ⟨bx, 0, none⟩)) (.int .i64 ((i : Nat) : Int))) (.pointer (some ⟨bx, i, none⟩)), RunOk Tryd.prog w5 (Instr.loadAt 5 (.pointer (some ⟨bx, i, none⟩))) (.int .u8 (((x.l.getD i 0).toNat : Nat) : Int)), RunOk Tryd.prog w5 (Instr.indexAt 24 (.pointer (some ⟨by_, 0, none⟩)) (.int .i64 ((i : Nat) : Int))) (.pointer (some ⟨by_, i, none⟩)), RunOk Tryd.prog w5 (Instr.loadAt 5 (.pointer (some ⟨by_, i, none⟩))) (.int .u8 (((y.l.getD i 0).toNat : Nat) : Int))]) ha [(1, .val (.pointer (some ⟨bx, i, none⟩))), (2, .val (.int .u8 (((x.l.getD i 0).toNat : Nat) : Int))), (4, .val (.pointer (some ⟨by_, i, none⟩))), (5, .val (.int .u8 (((y.l.getD i 0).toNat : Nat) : Int)))] (by kernel_rfl) (.cons (ixA (n := 32) (i := i) (by kernel_rfl) (by omega)) (.cons (ld1 hB_bx (by kernel_rfl) (idc_at (i := i) (by omega))) (.cons (ixA (n := 32) (i := i) (by kernel_rfl) (by omega)) (.cons (ld1 hB_by_ (by kernel_rfl) (idc_at (i := i) (by omega))) .nil)))) ?_
      clear ha a; intro a w6 ha he
      replace hx := hx.tr he
      replace hB_bx := keepB he hB_bx
      replace hB_by_ := keepB he hB_by_
      clear he
      refine tn ?_
      refine wret ?_
      refine (br (tr (tr (br (tr ?_)))))
      refine fin ha (.tmp rfl .nil) ?_
      exact ⟨congrArg Value.bool (by first | (rw [less_at x y i (by omega) hp (by omega)]; simp; done) | (obtain rfl : i = 32 := (by omega); rw [less_end x y hp])), hx⟩
    · simp only [Bool.not_eq_true', Bool.not_eq_false', Bool.and_eq_true, Bool.or_eq_true, Bool.and_eq_false_iff, Bool.or_eq_false_iff, decide_eq_true_eq, decide_eq_false_iff_not, Bool.not_eq_true, Decidable.not_not] at h16
      refine wskip ?_
      refine bn ?_
      refine tn ?_
      refine regp (ρ' := [(2, .pointer (some ⟨bx, 0, none⟩)), (3, .pointer (some ⟨by_, 0, none⟩)), (5, .int .i64 ((i + 1 : Nat) : Int))]) (C := [InR .i64 ((i + 1 : Nat) : Int)]) ha [] (by kernel_rfl) (.cons (by unfold InR; omega) .nil) ?_
      clear ha a; intro a ha
      exact tn ⟨32 - ((i + 1)), by omega, (i + 1), rfl, ha.sub (ρ' := [(2, .pointer (some ⟨bx, 0, none⟩)), (3, .pointer (some ⟨by_, 0, none⟩)), (5, .int .i64 (((i + 1) : Nat) : Int))]) (by kernel_rfl), hx, hB_bx, hB_by_, by omega, less_go x y i (by omega) hp (by omega)⟩
  · replace h7 := of_decide_eq_false h7
    refine wexit ?_
    refine (te (te (be ?_)))
    refine tn ?_
    refine wseq ?_
    refine regp (ρ' := [(4, .bool false)]) (C := []) ha [] (by kernel_rfl) .nil ?_
    clear ha a; intro a ha
    refine tn ?_
    refine wret ?_
    refine fin ha (.tmp rfl .nil) ?_
    exact ⟨congrArg Value.bool (by first | (rw [less_at x y i (by omega) hp (by omega)]; simp; done) | (obtain rfl : i = 32 := (by omega); rw [less_end x y hp])), hx⟩
theorem digit_ok (k : Nat) (w : World) (hk : k < 16) :
    Fn Tryd.prog 42 #[.int .i64 ((k : Nat) : Int)] w (fun v w' => v = .string (S [digs.getD k 0]) ∧ Ext w w') := by
  have hx : Ext w w := Ext.rfl' w
  refine enter (N := 15) (args := [.int .i64 ((k : Nat) : Int)]) Tryd.func42 rfl rfl rfl ?_
  intro a ha
  simp only [argEnv, Nat.zero_add, Nat.reduceAdd] at ha
  refine wseq ?_
  refine regp (ρ' := [(0, .int .i64 ((k : Nat) : Int))]) (C := []) ha [] (by kernel_rfl) .nil ?_
  clear ha a; intro a ha
  refine tn ?_
  refine wseq ?_
  refine wseq ?_
  refine regp (ρ' := [(0, .int .i64 ((k : Nat) : Int)), (4, .bool (decide (((k : Nat) : Int) < 10)))]) (C := []) ha [] (by kernel_rfl) .nil ?_
  clear ha a; intro a ha
  refine tn ?_
  refine wif ha rfl (fun h4 => ?_) (fun h4 => ?_)
  · replace h4 := of_decide_eq_true h4
    refine wseq ?_
    refine reg_list ?_
    refine segp (ρ' := [(7, .int .u8 ((48 + k : Nat) : Int))]) (C := [InR .i64 ((48 + k : Nat) : Int), InR .u8 ((48 + k : Nat) : Int)]) ha 3 [] rfl (by kernel_rfl) (.cons (by unfold InR; omega) (.cons (by unfold InR; omega) .nil)) ?_
    clear ha a; intro a ha
    refine lnewS ha rfl (by kernel_rfl) #[.int .u8 ((48 + k : Nat) : Int)] 5 1 (by kernel_rfl) ?_
    clear ha a; intro b1 w2 he hb_b1 hB_b1 a ha
    replace hb_b1 := Nat.le_trans hx.size hb_b1
    replace hx := hx.tr he
    clear he
    refine segp (ρ' := [(2, .string (S [UInt8.ofNat (48 + k)]))]) (C := [RunOk Tryd.prog w2 (convert 63 9 (.slice (some ⟨b1, 0, none⟩) 1 1)) (.string (S [UInt8.ofNat (48 + k)]))]) ha 2 [(0, .val (.string (S [UInt8.ofNat (48 + k)])))] rfl (by kernel_rfl) (.cons (cvBlk (e := 5) (zs := [((48 + k : Nat) : Int)]) (by kernel_rfl) (by kernel_rfl) (by kernel_rfl) hB_b1 rfl rfl) .nil) ?_
    clear ha a; intro a ha
    refine lnil ?_
    replace ha := ha.sub (ρ' := [(2, .string (S [UInt8.ofNat (48 + k)]))]) (by kernel_rfl)
    refine tn ?_
    refine wret ?_
    refine (tr ?_)
    refine fin ha (.tmp rfl .nil) ?_
    exact ⟨congrArg (fun z => Value.string (S [z])) (by first | exact dig_lo k (by omega) | exact dig_hi k (by omega) hk), hx⟩
  · replace h4 := of_decide_eq_false h4
    refine wskip ?_
    refine tn ?_
    refine wseq ?_
    refine reg_list ?_
    refine segp (ρ' := [(12, .int .u8 ((87 + k : Nat) : Int))]) (C := [InR .i64 ((87 + k : Nat) : Int), InR .u8 ((87 + k : Nat) : Int)]) ha 3 [] rfl (by kernel_rfl) (.cons (by unfold InR; omega) (.cons (by unfold InR; omega) .nil)) ?_
    clear ha a; intro a ha
    refine lnewS ha rfl (by kernel_rfl) #[.int .u8 ((87 + k : Nat) : Int)] 5 1 (by kernel_rfl) ?_
    clear ha a; intro b3 w4 he hb_b3 hB_b3 a ha
    replace hb_b3 := Nat.le_trans hx.size hb_b3
    replace hx := hx.tr he
    clear he
    refine segp (ρ' := [(2, .string (S [UInt8.ofNat (87 + k)]))]) (C := [RunOk Tryd.prog w4 (convert 63 9 (.slice (some ⟨b3, 0, none⟩) 1 1)) (.string (S [UInt8.ofNat (87 + k)]))]) ha 2 [(0, .val (.string (S [UInt8.ofNat (87 + k)])))] rfl (by kernel_rfl) (.cons (cvBlk (e := 5) (zs := [((87 + k : Nat) : Int)]) (by kernel_rfl) (by kernel_rfl) (by kernel_rfl) hB_b3 rfl rfl) .nil) ?_
    clear ha a; intro a ha
    refine lnil ?_
    replace ha := ha.sub (ρ' := [(2, .string (S [UInt8.ofNat (87 + k)]))]) (by kernel_rfl)
    refine tn ?_
    refine wret ?_
    refine fin ha (.tmp rfl .nil) ?_
    exact ⟨congrArg (fun z => Value.string (S [z])) (by first | exact dig_lo k (by omega) | exact dig_hi k (by omega) hk), hx⟩
theorem rhex_ok (x : Id) (w : World) :
    Fn Tryd.prog 15 #[.agg ⟨idc x⟩] w (fun v w' => v = .string (S (hexTo x 32)) ∧ Ext w w') := by
  have hx : Ext w w := Ext.rfl' w
  refine enter (N := 25) (args := [.agg ⟨idc x⟩]) Tryd.func15 rfl rfl rfl ?_
  intro a ha
  simp only [argEnv, Nat.zero_add, Nat.reduceAdd] at ha
  refine wseq ?_
  refine reg_list ?_
  refine lnew ha rfl (by kernel_rfl) ⟨idc x⟩ 24 (by kernel_rfl) ?_
  clear ha a; intro bx w1 he hb_bx hB_bx a ha
  replace hb_bx := Nat.le_trans hx.size hb_bx
  replace hx := hx.tr he
  clear he
  refine segp (ρ' := [(1, .pointer (some ⟨bx, 0, none⟩))]) (C := []) ha 1 [] rfl (by kernel_rfl) .nil ?_
  clear ha a; intro a ha
  refine lnil ?_
  replace ha := ha.sub (ρ' := [(1, .pointer (some ⟨bx, 0, none⟩))]) (by kernel_rfl)
  refine tn ?_
  refine wseq ?_
  refine regp (ρ' := [(1, .pointer (some ⟨bx, 0, none⟩)), (3, .string (S []))]) (C := []) ha [] (by kernel_rfl) .nil ?_
  clear ha a; intro a ha
  refine tn ?_
  refine wseq ?_
  refine wseq ?_
  refine regp (ρ' := [(1, .pointer (some ⟨bx, 0, none⟩)), (3, .string (S [])), (4, .int .i64 0)]) (C := []) ha [] (by kernel_rfl) .nil ?_
  clear ha a; intro a ha
  refine tn ?_
  refine wblk ?_
  refine wloop (fun zz a w2 => ∃ (i : Nat), zz = 32 - i ∧ On 25 [(1, .pointer (some ⟨bx, 0, none⟩)), (3, .string (S (hexTo x i))), (4, .int .i64 ((i : Nat) : Int))] a ∧ Ext w w2 ∧ w2.heap[bx]? = some (.cells ⟨idc x⟩ 24 (0, 0)) ∧ (i ≤ 32)) _ ⟨0, rfl, ha.sub (ρ' := [(1, .pointer (some ⟨bx, 0, none⟩)), (3, .string (S (hexTo x 0))), (4, .int .i64 ((0 : Nat) : Int))]) (by kernel_rfl), hx, hB_bx, by omega⟩ ?_
  clear ha hx hB_bx
  rintro zz a w3 ⟨i, hzz, ha, hx, hB_bx, hi⟩
  refine wseq ?_
  refine wseq ?_
  refine regp (ρ' := [(1, .pointer (some ⟨bx, 0, none⟩)), (3, .string (S (hexTo x i))), (4, .int .i64 ((i : Nat) : Int)), (6, .bool (decide (((i : Nat) : Int) < 32)))]) (C := []) ha [] (by kernel_rfl) .nil ?_
  clear ha a; intro a ha
  refine tn ?_
  refine wif ha rfl (fun h6 => ?_) (fun h6 => ?_)
  · replace h6 := of_decide_eq_true h6
    have hbl := Id.at_lt x i
    have hhl := hexTo_len x i hi
    refine wskip ?_
    refine tn ?_
    refine wseq ?_
    refine wblk ?_
    refine reg hmix (ρ' := [(1, .pointer (some ⟨bx, 0, none⟩)), (3, .string (S (((hexTo x i) ++ [digs.getD (((x.l.getD i 0).toNat) / 16) 0]) ++ [digs.getD (((x.l.getD i 0).toNat) % 16) 0]))), (4, .int .i64 ((i : Nat) : Int))]) (C := [RunOk Tryd.prog w3 (Instr.indexAt 24 (.pointer (some ⟨bx, 0, none⟩)) (.int .i64 ((i : Nat) : Int))) (.pointer (some ⟨bx, i, none⟩)), RunOk Tryd.prog w3 (Instr.loadAt 5 (.pointer (some ⟨bx, i, none⟩))) (.int .u8 (((x.l.getD i 0).toNat : Nat) : Int)), InR .i64 (((x.l.getD i 0).toNat : Nat) : Int), 0 ≤ (((x.l.getD i 0).toNat : Nat) : Int), 0 < (16 : Int), InR .i64 ((((x.l.getD i 0).toNat) / 16 : Nat) : Int), CallOk Tryd.prog w3 42 #[.int .i64 ((((x.l.getD i 0).toNat) / 16 : Nat) : Int)] (.string (S [digs.getD (((x.l.getD i 0).toNat) / 16) 0])), ((hexTo x i) : List UInt8).length + ([digs.getD (((x.l.getD i 0).toNat) / 16) 0] : List UInt8).length ≤ 9223372036854775807, RunOk Tryd.prog w3 (Instr.indexAt 24 (.pointer (some ⟨bx, 0, none⟩)) (.int .i64 ((i : Nat) : Int))) (.pointer (some ⟨bx, i, none⟩)), RunOk Tryd.prog w3 (Instr.loadAt 5 (.pointer (some ⟨bx, i, none⟩))) (.int .u8 (((x.l.getD i 0).toNat : Nat) : Int)), InR .i64 (((x.l.getD i 0).toNat : Nat) : Int), 0 ≤ (((x.l.getD i 0).toNat : Nat) : Int), 0 < (16 : Int), CallOk Tryd.prog w3 42 #[.int .i64 ((((x.l.getD i 0).toNat) % 16 : Nat) : Int)] (.string (S [digs.getD (((x.l.getD i 0).toNat) % 16) 0])), (((hexTo x i) ++ [digs.getD (((x.l.getD i 0).toNat) / 16) 0]) : List UInt8).length + ([digs.getD (((x.l.getD i 0).toNat) % 16) 0] : List UInt8).length ≤ 9223372036854775807]) ha [(2, .val (.pointer (some ⟨bx, i, none⟩))), (3, .val (.int .u8 (((x.l.getD i 0).toNat : Nat) : Int))), (6, .val (.string (S [digs.getD (((x.l.getD i 0).toNat) / 16) 0]))), (9, .val (.pointer (some ⟨bx, i, none⟩))), (10, .val (.int .u8 (((x.l.getD i 0).toNat : Nat) : Int))), (13, .val (.string (S [digs.getD (((x.l.getD i 0).toNat) % 16) 0])))] (by kernel_rfl) (.cons (ixA (n := 32) (i := i) (by kernel_rfl) (by omega)) (.cons (ld1 hB_bx (by kernel_rfl) (idc_at (i := i) (by omega))) (.cons (by unfold InR; omega) (.cons (by omega) (.cons (by omega) (.cons (by unfold InR; omega) (.cons (fun w _ => digit_ok (((x.l.getD i 0).toNat) / 16) w (by omega)) (.cons (by first | omega | (simp only [List.length_cons, List.length_nil, List.length_append, List.length_take, List.length_drop]; omega)) (.cons (ixA (n := 32) (i := i) (by kernel_rfl) (by omega)) (.cons (ld1 hB_bx (by kernel_rfl) (idc_at (i := i) (by omega))) (.cons (by unfold InR; omega) (.cons (by omega) (.cons (by omega) (.cons (fun w _ => digit_ok (((x.l.getD i 0).toNat) % 16) w (by omega)) (.cons (by first | omega | (simp only [List.length_cons, List.length_nil, List.length_append, List.length_take, List.length_drop]; omega)) .nil))))))))))))))) ?_
    clear ha a; intro a w4 ha he
    replace hx := hx.tr he
    replace hB_bx := keepB he hB_bx
    clear he
    rw [show ((((hexTo x i) ++ [digs.getD (((x.l.getD i 0).toNat) / 16) 0]) ++ [digs.getD (((x.l.getD i 0).toNat) % 16) 0]) : List UInt8) = (hexTo x (i + 1)) from by rw [hexTo_succ x i (by omega)]; simp [hexD]] at ha
    refine bn ?_
    refine tn ?_
    refine regp (ρ' := [(1, .pointer (some ⟨bx, 0, none⟩)), (3, .string (S (hexTo x (i + 1)))), (4, .int .i64 ((i + 1 : Nat) : Int))]) (C := [InR .i64 ((i + 1 : Nat) : Int)]) ha [] (by kernel_rfl) (.cons (by unfold InR; omega) .nil) ?_
    clear ha a; intro a ha
    exact tn ⟨32 - ((i + 1)), by omega, (i + 1), rfl, ha.sub (ρ' := [(1, .pointer (some ⟨bx, 0, none⟩)), (3, .string (S (hexTo x (i + 1)))), (4, .int .i64 (((i + 1) : Nat) : Int))]) (by kernel_rfl), hx, hB_bx, by omega⟩
  · replace h6 := of_decide_eq_false h6
    obtain rfl : i = 32 := by omega
    refine wexit ?_
    refine (te (te (be ?_)))
    refine tn ?_
    refine wseq ?_
    refine regp (ρ' := [(2, .string (S (hexTo x 32)))]) (C := []) ha [] (by kernel_rfl) .nil ?_
    clear ha a; intro a ha
    refine tn ?_
    refine wret ?_
    refine fin ha (.tmp rfl .nil) ?_
    exact ⟨rfl, hx⟩
theorem runhex_ok (s : List UInt8) (w : World) (hs : s.length ≤ 1000000) :
    Fn Tryd.prog 13 #[.string (S s)] w (fun x w' => x = .tuple #[.agg ⟨idc (unhex s).1⟩, .bool (unhex s).2] ∧ Ext w w') := by
  have hx : Ext w w := Ext.rfl' w
  refine enter (N := 47) (args := [.string (S s)]) Tryd.func13 rfl rfl rfl ?_
  intro a ha
  simp only [argEnv, Nat.zero_add, Nat.reduceAdd] at ha
  refine wseq ?_
  refine reg_list ?_
  refine lnew ha rfl (by kernel_rfl) ⟨idc idZ⟩ 24 (by kernel_rfl) ?_
  clear ha a; intro bz w1 he hb_bz hB_bz a ha
  replace hb_bz := Nat.le_trans hx.size hb_bz
  replace hx := hx.tr he
  clear he
  refine segp (ρ' := [(0, .string (S s)), (2, .pointer (some ⟨bz, 0, none⟩))]) (C := []) ha 1 [] rfl (by kernel_rfl) .nil ?_
  clear ha a; intro a ha
  refine lnil ?_
  replace ha := ha.sub (ρ' := [(0, .string (S s)), (2, .pointer (some ⟨bz, 0, none⟩))]) (by kernel_rfl)
  refine tn ?_
  refine wseq ?_
  refine reg_list ?_
  refine segp (ρ' := [(0, .string (S s)), (2, .pointer (some ⟨bz, 0, none⟩)), (8, .agg ⟨idc idZ⟩)]) (C := []) ha 1 [] rfl (by kernel_rfl) .nil ?_
  clear ha a; intro a ha
  refine lnew ha rfl (by kernel_rfl) ⟨idc idZ⟩ 24 (by kernel_rfl) ?_
  clear ha a; intro bx w2 he hb_bx hB_bx a ha
  have hne_bz_bx : bz ≠ bx := ne_new hB_bz hb_bx
  replace hB_bz := keepB he hB_bz
  replace hb_bx := Nat.le_trans hx.size hb_bx
  replace hx := hx.tr he
  clear he
  refine lstore (off := 0) ha rfl rfl (by kernel_rfl) hB_bx ⟨idc idZ⟩ rfl (by kernel_rfl) (by kernel_rfl) ?_
  clear ha a; intro w3 hc a ha
  replace hB_bz := hc.keep hB_bz (by first | assumption | exact Ne.symm (by assumption))
  replace hx := hc.ext hx hb_bx
  replace hB_bx := hc.at_; clear hc
  refine lnil ?_
  replace ha := ha.sub (ρ' := [(0, .string (S s)), (2, .pointer (some ⟨bz, 0, none⟩)), (4, .pointer (some ⟨bx, 0, none⟩))]) (by kernel_rfl)
  refine tn ?_
  refine wseq ?_
  refine wseq ?_
  refine regp (ρ' := [(0, .string (S s)), (2, .pointer (some ⟨bz, 0, none⟩)), (4, .pointer (some ⟨bx, 0, none⟩)), (11, .bool (!decide (((s.length : Nat) : Int) = 64)))]) (C := []) ha [] (by kernel_rfl) .nil ?_
  clear ha a; intro a ha
  refine tn ?_
  refine wif ha rfl (fun h11 => ?_) (fun h11 => ?_)
  · simp only [Bool.not_eq_true', Bool.not_eq_false', Bool.and_eq_true, Bool.or_eq_true, Bool.and_eq_false_iff, Bool.or_eq_false_iff, decide_eq_true_eq, decide_eq_false_iff_not, Bool.not_eq_true, Decidable.not_not] at h11
    refine wseq ?_
    refine reg_list ?_
    refine segp (ρ' := [(2, .pointer (some ⟨bz, 0, none⟩)), (12, .agg ⟨idc idZ⟩)]) (C := [RunOk Tryd.prog w3 (Instr.loadAt 24 (.pointer (some ⟨bx, 0, none⟩))) (.agg ⟨idc idZ⟩)]) ha 1 [(0, .val (.agg ⟨idc idZ⟩))] rfl (by kernel_rfl) (.cons (ldN (n := 32) hB_bx (by kernel_rfl) (by kernel_rfl) ⟨Nat.le_of_ble_eq_true (by kernel_rfl), (by kernel_rfl)⟩) .nil) ?_
    clear ha a; intro a ha
    refine lstore (off := 0) ha rfl rfl (by kernel_rfl) hB_bz ⟨idc idZ⟩ rfl (by kernel_rfl) (by kernel_rfl) ?_
    clear ha a; intro w4 hc a ha
    replace hB_bx := hc.keep hB_bx (by first | assumption | exact Ne.symm (by assumption))
    replace hx := hc.ext hx hb_bz
    replace hB_bz := hc.at_; clear hc
    refine segp (ρ' := [(2, .pointer (some ⟨bz, 0, none⟩)), (3, .bool false)]) (C := []) ha 1 [] rfl (by kernel_rfl) .nil ?_
    clear ha a; intro a ha
    refine lnil ?_
    replace ha := ha.sub (ρ' := [(2, .pointer (some ⟨bz, 0, none⟩)), (3, .bool false)]) (by kernel_rfl)
    refine tn ?_
    refine wret ?_
    refine (tr ?_)
    refine fin ha (.cell rfl (ldVN (n := 32) (vs := ⟨idc idZ⟩) hB_bz (by kernel_rfl) (by kernel_rfl) ⟨Nat.le_of_ble_eq_true (by kernel_rfl), (by kernel_rfl)⟩) (.tmp rfl .nil)) ?_
    exact ⟨by first | (rw [unhex_len (by omega)]; rfl) | (rw [unhex_bad (i := i) (by omega) (by omega)]; rfl), hx⟩
  · simp only [Bool.not_eq_true', Bool.not_eq_false', Bool.and_eq_true, Bool.or_eq_true, Bool.and_eq_false_iff, Bool.or_eq_false_iff, decide_eq_true_eq, decide_eq_false_iff_not, Bool.not_eq_true, Decidable.not_not] at h11
    refine wskip ?_
    refine tn ?_
    refine wseq ?_
    refine wseq ?_
    refine regp (ρ' := [(0, .string (S s)), (2, .pointer (some ⟨bz, 0, none⟩)), (4, .pointer (some ⟨bx, 0, none⟩)), (5, .int .i64 0)]) (C := []) ha [] (by kernel_rfl) .nil ?_
    clear ha a; intro a ha
    refine tn ?_
    refine wblk ?_
    refine wloop (fun zz a w5 => ∃ (i : Nat), zz = 64 - i ∧ On 47 [(0, .string (S s)), (2, .pointer (some ⟨bz, 0, none⟩)), (4, .pointer (some ⟨bx, 0, none⟩)), (5, .int .i64 ((i : Nat) : Int))] a ∧ Ext w w5 ∧ w5.heap[bz]? = some (.cells ⟨idc idZ⟩ 24 (0, 0)) ∧ w5.heap[bx]? = some (.cells ⟨idc (unTo s i)⟩ 24 (0, 0)) ∧ (i ≤ 64) ∧ (∀ j, j < i → 0 ≤ dgi (s.getD j 0))) _ ⟨0, rfl, ha.sub (ρ' := [(0, .string (S s)), (2, .pointer (some ⟨bz, 0, none⟩)), (4, .pointer (some ⟨bx, 0, none⟩)), (5, .int .i64 ((0 : Nat) : Int))]) (by kernel_rfl), hx, hB_bz, hB_bx, by omega, fun j hj => absurd hj (by omega)⟩ ?_
    clear ha hx hB_bz hB_bx
    rintro zz a w6 ⟨i, hzz, ha, hx, hB_bz, hB_bx, hi, hk⟩
    refine wseq ?_
    refine wseq ?_
    refine regp (ρ' := [(0, .string (S s)), (2, .pointer (some ⟨bz, 0, none⟩)), (4, .pointer (some ⟨bx, 0, none⟩)), (5, .int .i64 ((i : Nat) : Int)), (14, .bool (decide (((i : Nat) : Int) < 64)))]) (C := []) ha [] (by kernel_rfl) .nil ?_
    clear ha a; intro a ha
    refine tn ?_
    refine wif ha rfl (fun h14 => ?_) (fun h14 => ?_)
    · replace h14 := of_decide_eq_true h14
      refine wskip ?_
      refine tn ?_
      refine wseq ?_
      refine wblk ?_
      refine wseq ?_
      refine regp (ρ' := [(0, .string (S s)), (2, .pointer (some ⟨bz, 0, none⟩)), (4, .pointer (some ⟨bx, 0, none⟩)), (5, .int .i64 ((i : Nat) : Int)), (6, .int .i64 (-1))]) (C := []) ha [] (by kernel_rfl) .nil ?_
      clear ha a; intro a ha
      refine tn ?_
      refine wseq ?_
      refine wseq ?_
      refine regp (ρ' := [(0, .string (S s)), (2, .pointer (some ⟨bz, 0, none⟩)), (4, .pointer (some ⟨bx, 0, none⟩)), (5, .int .i64 ((i : Nat) : Int)), (6, .int .i64 (-1)), (7, .int .i64 0)]) (C := []) ha [] (by kernel_rfl) .nil ?_
      clear ha a; intro a ha
      refine tn ?_
      refine wblk ?_
      refine wloop (fun zz a w7 => ∃ (j : Nat) (v : Int), zz = 16 - j ∧ On 47 [(0, .string (S s)), (2, .pointer (some ⟨bz, 0, none⟩)), (4, .pointer (some ⟨bx, 0, none⟩)), (5, .int .i64 ((i : Nat) : Int)), (6, .int .i64 v), (7, .int .i64 ((j : Nat) : Int))] a ∧ Ext w w7 ∧ w7.heap[bz]? = some (.cells ⟨idc idZ⟩ 24 (0, 0)) ∧ w7.heap[bx]? = some (.cells ⟨idc (unTo s i)⟩ 24 (0, 0)) ∧ (j ≤ 16) ∧ (v = if dgi (s.getD i 0) < ((j : Nat) : Int) then dgi (s.getD i 0) else -1)) _ ⟨0, (-1), rfl, ha.sub (ρ' := [(0, .string (S s)), (2, .pointer (some ⟨bz, 0, none⟩)), (4, .pointer (some ⟨bx, 0, none⟩)), (5, .int .i64 ((i : Nat) : Int)), (6, .int .i64 (-1)), (7, .int .i64 ((0 : Nat) : Int))]) (by kernel_rfl), hx, hB_bz, hB_bx, by omega, by have := dgi_lt (s.getD i 0); split <;> omega⟩ ?_
      clear ha hx hB_bz hB_bx
      rintro zz a w8 ⟨j, v, hzz, ha, hx, hB_bz, hB_bx, hj, hv⟩
      refine wseq ?_
      refine wseq ?_
      refine regp (ρ' := [(0, .string (S s)), (2, .pointer (some ⟨bz, 0, none⟩)), (4, .pointer (some ⟨bx, 0, none⟩)), (5, .int .i64 ((i : Nat) : Int)), (6, .int .i64 v), (7, .int .i64 ((j : Nat) : Int)), (18, .bool (decide (((j : Nat) : Int) < 16)))]) (C := []) ha [] (by kernel_rfl) .nil ?_
      clear ha a; intro a ha
      refine tn ?_
      refine wif ha rfl (fun h18 => ?_) (fun h18 => ?_)
      · replace h18 := of_decide_eq_true h18
        have hdd := dgi_iff (s.getD i 0) j (by omega)
        have hsl := slice1 s i (by omega)
        refine wskip ?_
        refine tn ?_
        refine wseq ?_
        refine wblk ?_
        refine wseq ?_
        refine reg hmix (ρ' := [(0, .string (S s)), (2, .pointer (some ⟨bz, 0, none⟩)), (4, .pointer (some ⟨bx, 0, none⟩)), (5, .int .i64 ((i : Nat) : Int)), (6, .int .i64 v), (7, .int .i64 ((j : Nat) : Int)), (28, .bool (decide ((((s.drop i).take ((i + 1) - i)) : List UInt8) = ([digs.getD j 0] : List UInt8))))]) (C := [InR .i64 ((i + 1 : Nat) : Int), 0 ≤ ((i : Nat) : Int) ∧ ((i : Nat) : Int) ≤ ((i + 1 : Nat) : Int) ∧ ((i + 1 : Nat) : Int) ≤ (s.length : Int), CallOk Tryd.prog w8 42 #[.int .i64 ((j : Nat) : Int)] (.string (S [digs.getD j 0]))]) ha [(6, .val (.string (S [digs.getD j 0])))] (by kernel_rfl) (.cons (by unfold InR; omega) (.cons ⟨by omega, by omega, by omega⟩ (.cons (fun w _ => digit_ok j w (by omega)) .nil))) ?_
        clear ha a; intro a w9 ha he
        replace hx := hx.tr he
        replace hB_bz := keepB he hB_bz
        replace hB_bx := keepB he hB_bx
        clear he
        refine tn ?_
        refine wif ha rfl (fun h28 => ?_) (fun h28 => ?_)
        · replace h28 := of_decide_eq_true h28
          have hdj : dgi (s.getD i 0) = ((j : Nat) : Int) := hdd.2 (by rw [hsl] at h28; simpa using h28)
          refine regp (ρ' := [(0, .string (S s)), (2, .pointer (some ⟨bz, 0, none⟩)), (4, .pointer (some ⟨bx, 0, none⟩)), (5, .int .i64 ((i : Nat) : Int)), (6, .int .i64 ((j : Nat) : Int)), (7, .int .i64 ((j : Nat) : Int))]) (C := []) ha [] (by kernel_rfl) .nil ?_
          clear ha a; intro a ha
          refine bn ?_
          refine tn ?_
          refine regp (ρ' := [(0, .string (S s)), (2, .pointer (some ⟨bz, 0, none⟩)), (4, .pointer (some ⟨bx, 0, none⟩)), (5, .int .i64 ((i : Nat) : Int)), (6, .int .i64 ((j : Nat) : Int)), (7, .int .i64 ((j + 1 : Nat) : Int))]) (C := [InR .i64 ((j + 1 : Nat) : Int)]) ha [] (by kernel_rfl) (.cons (by unfold InR; omega) .nil) ?_
          clear ha a; intro a ha
          exact tn ⟨16 - ((j + 1)), by omega, (j + 1), ((j : Nat) : Int), rfl, ha.sub (ρ' := [(0, .string (S s)), (2, .pointer (some ⟨bz, 0, none⟩)), (4, .pointer (some ⟨bx, 0, none⟩)), (5, .int .i64 ((i : Nat) : Int)), (6, .int .i64 ((j : Nat) : Int)), (7, .int .i64 (((j + 1) : Nat) : Int))]) (by kernel_rfl), hx, hB_bz, hB_bx, by omega, by first | (split <;> omega) | (rw [hv]; split <;> split <;> omega)⟩
        · replace h28 := of_decide_eq_false h28
          have hdj : dgi (s.getD i 0) ≠ ((j : Nat) : Int) := fun e => h28 (by rw [hsl, hdd.1 e])
          refine wskip ?_
          refine bn ?_
          refine tn ?_
          refine regp (ρ' := [(0, .string (S s)), (2, .pointer (some ⟨bz, 0, none⟩)), (4, .pointer (some ⟨bx, 0, none⟩)), (5, .int .i64 ((i : Nat) : Int)), (6, .int .i64 v), (7, .int .i64 ((j + 1 : Nat) : Int))]) (C := [InR .i64 ((j + 1 : Nat) : Int)]) ha [] (by kernel_rfl) (.cons (by unfold InR; omega) .nil) ?_
          clear ha a; intro a ha
          exact tn ⟨16 - ((j + 1)), by omega, (j + 1), v, rfl, ha.sub (ρ' := [(0, .string (S s)), (2, .pointer (some ⟨bz, 0, none⟩)), (4, .pointer (some ⟨bx, 0, none⟩)), (5, .int .i64 ((i : Nat) : Int)), (6, .int .i64 v), (7, .int .i64 (((j + 1) : Nat) : Int))]) (by kernel_rfl), hx, hB_bz, hB_bx, by omega, by first | (split <;> omega) | (rw [hv]; split <;> split <;> omega)⟩
      · replace h18 := of_decide_eq_false h18
        obtain rfl : j = 16 := by omega
        have hvd : v = dgi (s.getD i 0) := by have := dgi_lt (s.getD i 0); rw [hv]; split <;> omega
        rw [hvd] at ha
        refine wexit ?_
        refine (te (te (be ?_)))
        refine tn ?_
        refine wseq ?_
        refine wseq ?_
        refine regp (ρ' := [(0, .string (S s)), (2, .pointer (some ⟨bz, 0, none⟩)), (4, .pointer (some ⟨bx, 0, none⟩)), (5, .int .i64 ((i : Nat) : Int)), (6, .int .i64 (dgi (s.getD i 0))), (31, .bool (decide (((dgi (s.getD i 0)) : Int) < 0)))]) (C := []) ha [] (by kernel_rfl) .nil ?_
        clear ha a; intro a ha
        refine tn ?_
        refine wif ha rfl (fun h31 => ?_) (fun h31 => ?_)
        · replace h31 := of_decide_eq_true h31
          refine wseq ?_
          refine reg_list ?_
          refine segp (ρ' := [(2, .pointer (some ⟨bz, 0, none⟩)), (32, .agg ⟨idc idZ⟩)]) (C := []) ha 1 [] rfl (by kernel_rfl) .nil ?_
          clear ha a; intro a ha
          refine lstore (off := 0) ha rfl rfl (by kernel_rfl) hB_bz ⟨idc idZ⟩ rfl (by kernel_rfl) (by kernel_rfl) ?_
          clear ha a; intro w10 hc a ha
          replace hB_bx := hc.keep hB_bx (by first | assumption | exact Ne.symm (by assumption))
          replace hx := hc.ext hx hb_bz
          replace hB_bz := hc.at_; clear hc
          refine segp (ρ' := [(2, .pointer (some ⟨bz, 0, none⟩)), (3, .bool false)]) (C := []) ha 1 [] rfl (by kernel_rfl) .nil ?_
          clear ha a; intro a ha
          refine lnil ?_
          replace ha := ha.sub (ρ' := [(2, .pointer (some ⟨bz, 0, none⟩)), (3, .bool false)]) (by kernel_rfl)
          refine tn ?_
          refine wret ?_
          refine (tr (br (tr (tr (br (tr ?_))))))
          refine fin ha (.cell rfl (ldVN (n := 32) (vs := ⟨idc idZ⟩) hB_bz (by kernel_rfl) (by kernel_rfl) ⟨Nat.le_of_ble_eq_true (by kernel_rfl), (by kernel_rfl)⟩) (.tmp rfl .nil)) ?_
          exact ⟨by first | (rw [unhex_len (by omega)]; rfl) | (rw [unhex_bad (i := i) (by omega) (by omega)]; rfl), hx⟩
        · replace h31 := of_decide_eq_false h31
          rw [show ((dgi (s.getD i 0)) : Int) = ((dg (s.getD i 0) : Nat) : Int) from dg_eq _ (by omega)] at ha
          have hus := un_small s i (by omega)
          have hdl := dg_lt (s.getD i 0)
          refine wskip ?_
          refine tn ?_
          refine reg_list ?_
          refine segp (ρ' := [(0, .string (S s)), (2, .pointer (some ⟨bz, 0, none⟩)), (4, .pointer (some ⟨bx, 0, none⟩)), (5, .int .i64 ((i : Nat) : Int)), (44, .int .u8 (((16 * ((((unTo s i).l.getD (i / 2) 0).toNat) % 16)) + (dg (s.getD i 0)) : Nat) : Int)), (45, .pointer (some ⟨bx, (i / 2), none⟩))]) (C := [0 ≤ ((i : Nat) : Int), 0 < (2 : Int), InR .i64 ((i / 2 : Nat) : Int), 0 ≤ ((i : Nat) : Int), 0 < (2 : Int), InR .i64 ((i / 2 : Nat) : Int), RunOk Tryd.prog w8 (Instr.indexAt 24 (.pointer (some ⟨bx, 0, none⟩)) (.int .i64 ((i / 2 : Nat) : Int))) (.pointer (some ⟨bx, (i / 2), none⟩)), RunOk Tryd.prog w8 (Instr.loadAt 5 (.pointer (some ⟨bx, (i / 2), none⟩))) (.int .u8 ((((unTo s i).l.getD (i / 2) 0).toNat : Nat) : Int)), InR .i64 ((((unTo s i).l.getD (i / 2) 0).toNat : Nat) : Int), 0 ≤ ((((unTo s i).l.getD (i / 2) 0).toNat : Nat) : Int), 0 < (16 : Int), InR .i64 ((16 * ((((unTo s i).l.getD (i / 2) 0).toNat) % 16) : Nat) : Int), InR .i64 (((16 * ((((unTo s i).l.getD (i / 2) 0).toNat) % 16)) + (dg (s.getD i 0)) : Nat) : Int), InR .u8 (((16 * ((((unTo s i).l.getD (i / 2) 0).toNat) % 16)) + (dg (s.getD i 0)) : Nat) : Int), RunOk Tryd.prog w8 (Instr.indexAt 24 (.pointer (some ⟨bx, 0, none⟩)) (.int .i64 ((i / 2 : Nat) : Int))) (.pointer (some ⟨bx, (i / 2), none⟩))]) ha 13 [(4, .val (.pointer (some ⟨bx, (i / 2), none⟩))), (5, .val (.int .u8 ((((unTo s i).l.getD (i / 2) 0).toNat : Nat) : Int))), (12, .val (.pointer (some ⟨bx, (i / 2), none⟩)))] rfl (by kernel_rfl) (.cons (by omega) (.cons (by omega) (.cons (by unfold InR; omega) (.cons (by omega) (.cons (by omega) (.cons (by unfold InR; omega) (.cons (ixA (n := 32) (i := (i / 2)) (by kernel_rfl) (by omega)) (.cons (ld1 hB_bx (by kernel_rfl) (idc_at (i := (i / 2)) (by omega))) (.cons (by unfold InR; omega) (.cons (by omega) (.cons (by omega) (.cons (by unfold InR; omega) (.cons (by unfold InR; omega) (.cons (by unfold InR; omega) (.cons (ixA (n := 32) (i := (i / 2)) (by kernel_rfl) (by omega)) .nil))))))))))))))) ?_
          clear ha a; intro a ha
          refine lstoreL (off := (i / 2)) (vs := [.int .u8 (((16 * ((((unTo s i).l.getD (i / 2) 0).toNat) % 16)) + (dg (s.getD i 0)) : Nat) : Int)]) (cs' := idc ((unTo s i).set (i / 2) ((16 * ((((unTo s i).l.getD (i / 2) 0).toNat) % 16)) + (dg (s.getD i 0))))) ha rfl rfl (by kernel_rfl) rfl rfl hB_bx (by kernel_rfl) (by kernel_rfl) (by kernel_rfl) (by rw [idc_len _]; show (i / 2) + 1 ≤ 32; omega) (by rw [put_one (by rw [idc_len _]; omega)]; exact idc_set _ _ _ (by omega)) ?_
          clear ha a; intro w11 hc a ha
          replace hB_bz := hc.keep hB_bz (by first | assumption | exact Ne.symm (by assumption))
          replace hx := hc.ext hx hb_bx
          replace hB_bx := hc.at_; clear hc
          refine lnil ?_
          replace ha := ha.sub (ρ' := [(0, .string (S s)), (2, .pointer (some ⟨bz, 0, none⟩)), (4, .pointer (some ⟨bx, 0, none⟩)), (5, .int .i64 ((i : Nat) : Int))]) (by kernel_rfl)
          rw [un_next2 s i (by omega)] at hB_bx
          refine bn ?_
          refine tn ?_
          refine regp (ρ' := [(0, .string (S s)), (2, .pointer (some ⟨bz, 0, none⟩)), (4, .pointer (some ⟨bx, 0, none⟩)), (5, .int .i64 ((i + 1 : Nat) : Int))]) (C := [InR .i64 ((i + 1 : Nat) : Int)]) ha [] (by kernel_rfl) (.cons (by unfold InR; omega) .nil) ?_
          clear ha a; intro a ha
          exact tn ⟨64 - ((i + 1)), by omega, (i + 1), rfl, ha.sub (ρ' := [(0, .string (S s)), (2, .pointer (some ⟨bz, 0, none⟩)), (4, .pointer (some ⟨bx, 0, none⟩)), (5, .int .i64 (((i + 1) : Nat) : Int))]) (by kernel_rfl), hx, hB_bz, hB_bx, by omega, fun j hj => (Nat.lt_or_ge j i).elim (hk j) (fun h => (show j = i by omega) ▸ by omega)⟩
    · replace h14 := of_decide_eq_false h14
      refine wexit ?_
      refine (te (te (be ?_)))
      refine tn ?_
      refine wseq ?_
      refine reg_list ?_
      refine segp (ρ' := [(2, .pointer (some ⟨bz, 0, none⟩)), (46, .agg ⟨idc (unTo s i)⟩)]) (C := [RunOk Tryd.prog w6 (Instr.loadAt 24 (.pointer (some ⟨bx, 0, none⟩))) (.agg ⟨idc (unTo s i)⟩)]) ha 1 [(0, .val (.agg ⟨idc (unTo s i)⟩))] rfl (by kernel_rfl) (.cons (ldN (n := 32) hB_bx (by kernel_rfl) (by kernel_rfl) ⟨Nat.le_of_ble_eq_true (by kernel_rfl), (by kernel_rfl)⟩) .nil) ?_
      clear ha a; intro a ha
      refine lstore (off := 0) ha rfl rfl (by kernel_rfl) hB_bz ⟨idc (unTo s i)⟩ rfl (by kernel_rfl) (by kernel_rfl) ?_
      clear ha a; intro w12 hc a ha
      replace hB_bx := hc.keep hB_bx (by first | assumption | exact Ne.symm (by assumption))
      replace hx := hc.ext hx hb_bz
      replace hB_bz := hc.at_; clear hc
      refine segp (ρ' := [(2, .pointer (some ⟨bz, 0, none⟩)), (3, .bool true)]) (C := []) ha 1 [] rfl (by kernel_rfl) .nil ?_
      clear ha a; intro a ha
      refine lnil ?_
      replace ha := ha.sub (ρ' := [(2, .pointer (some ⟨bz, 0, none⟩)), (3, .bool true)]) (by kernel_rfl)
      refine tn ?_
      refine wret ?_
      refine fin ha (.cell rfl (ldVN (n := 32) (vs := ⟨idc (unTo s i)⟩) hB_bz (by kernel_rfl) (by kernel_rfl) ⟨Nat.le_of_ble_eq_true (by kernel_rfl), (by kernel_rfl)⟩) (.tmp rfl .nil)) ?_
      obtain rfl : i = 64 := by omega
      exact ⟨by rw [unhex_ok (by omega) hk]; rfl, hx⟩
theorem sha256Writes_walk (x y : Id) (s : List UInt8) (w : World) (hs : s.length ≤ 9223372036854775807) {T0 : Nat} {f0 : Nat × Nat} (hB_0 : w.heap[0]? = some (.cells ⟨wc shaK⟩ T0 f0)) :
    Fn Tryd.prog 5 #[.agg ⟨idc x⟩, .agg ⟨idc y⟩, .string (S s)] w (fun x w' => x = .bool true ∧ Ext w w') := by
  have hG_0 := hB_0
  have hx : Ext w w := Ext.rfl' w
  refine enter (N := 68) (args := [.agg ⟨idc x⟩, .agg ⟨idc y⟩, .string (S s)]) Tryd.func5 rfl rfl rfl ?_
  intro a ha
  simp only [argEnv, Nat.zero_add, Nat.reduceAdd] at ha
  refine wseq ?_
  refine reg_list ?_
  refine lnew ha rfl (by kernel_rfl) ⟨idc x⟩ 24 (by kernel_rfl) ?_
  clear ha a; intro b1 w2 he hb_b1 hB_b1 a ha
  have hne_0_b1 : 0 ≠ b1 := ne_new hB_0 hb_b1
  replace hB_0 := keepB he hB_0
  replace hb_b1 := Nat.le_trans hx.size hb_b1
  replace hx := hx.tr he
  clear he
  refine lnew ha rfl (by kernel_rfl) ⟨idc y⟩ 24 (by kernel_rfl) ?_
  clear ha a; intro b3 w4 he hb_b3 hB_b3 a ha
  have hne_0_b3 : 0 ≠ b3 := ne_new hB_0 hb_b3
  have hne_b1_b3 : b1 ≠ b3 := ne_new hB_b1 hb_b3
  replace hB_0 := keepB he hB_0
  replace hB_b1 := keepB he hB_b1
  replace hb_b3 := Nat.le_trans hx.size hb_b3
  replace hx := hx.tr he
  clear he
  refine segp (ρ' := [(2, .string (S s)), (3, .pointer (some ⟨b1, 0, none⟩)), (4, .pointer (some ⟨b3, 0, none⟩))]) (C := []) ha 1 [] rfl (by kernel_rfl) .nil ?_
  clear ha a; intro a ha
  refine lnil ?_
  replace ha := ha.sub (ρ' := [(2, .string (S s)), (3, .pointer (some ⟨b1, 0, none⟩)), (4, .pointer (some ⟨b3, 0, none⟩))]) (by kernel_rfl)
  refine tn ?_
  refine wseq ?_
  refine wseq ?_
  refine regp (ρ' := [(2, .string (S s)), (3, .pointer (some ⟨b1, 0, none⟩)), (4, .pointer (some ⟨b3, 0, none⟩)), (15, .bool (decide ((200 : Int) < ((s.length : Nat) : Int))))]) (C := []) ha [] (by kernel_rfl) .nil ?_
  clear ha a; intro a ha
  refine tn ?_
  refine wif ha rfl (fun h15 => ?_) (fun h15 => ?_)
  · replace h15 := of_decide_eq_true h15
    refine wseq ?_
    refine reg hmix (ρ' := [(6, .bool true)]) (C := [CallOk Tryd.prog w4 9 #[] (.bool true)]) ha [(0, .val (.bool true))] (by kernel_rfl) (.cons (fun w2 h2 => knows2_ok w2 (keepB h2 hB_0)) .nil) ?_
    clear ha a; intro a w5 ha he
    replace hx := hx.tr he
    replace hB_0 := keepB he hB_0
    replace hB_b1 := keepB he hB_b1
    replace hB_b3 := keepB he hB_b3
    clear he
    refine tn ?_
    refine wret ?_
    refine (tr ?_)
    refine fin ha (.tmp rfl .nil) ?_
    exact ⟨rfl, hx⟩
  · replace h15 := of_decide_eq_false h15
    refine wskip ?_
    refine tn ?_
    refine wseq ?_
    refine reg_list ?_
    refine seg (ρ' := [(2, .string (S s)), (3, .pointer (some ⟨b1, 0, none⟩)), (4, .pointer (some ⟨b3, 0, none⟩)), (20, .agg ⟨idc ((unhex s).1)⟩), (21, .bool ((unhex s).2))]) (C := [CallOk Tryd.prog w4 12 #[.string (S s)] (.tuple #[.agg ⟨idc ((unhex s).1)⟩, .bool ((unhex s).2)])]) ha 5 [(1, .val (.tuple #[.agg ⟨idc ((unhex s).1)⟩, .bool ((unhex s).2)]))] (by kernel_rfl) (.cons (fun w _ => unhex_ok_ s w (by omega)) .nil) ?_
    clear ha a; intro a w6 ha he
    replace hx := hx.tr he
    replace hB_0 := keepB he hB_0
    replace hB_b1 := keepB he hB_b1
    replace hB_b3 := keepB he hB_b3
    clear he
    refine lnew ha rfl (by kernel_rfl) ⟨idc idZ⟩ 24 (by kernel_rfl) ?_
    clear ha a; intro b7 w8 he hb_b7 hB_b7 a ha
    have hne_0_b7 : 0 ≠ b7 := ne_new hB_0 hb_b7
    have hne_b1_b7 : b1 ≠ b7 := ne_new hB_b1 hb_b7
    have hne_b3_b7 : b3 ≠ b7 := ne_new hB_b3 hb_b7
    replace hB_0 := keepB he hB_0
    replace hB_b1 := keepB he hB_b1
    replace hB_b3 := keepB he hB_b3
    replace hb_b7 := Nat.le_trans hx.size hb_b7
    replace hx := hx.tr he
    clear he
    refine lstore (off := 0) ha rfl rfl (by kernel_rfl) hB_b7 ⟨idc ((unhex s).1)⟩ rfl (by kernel_rfl) (by kernel_rfl) ?_
    clear ha a; intro w9 hc a ha
    replace hB_0 := hc.keep hB_0 (by first | assumption | exact Ne.symm (by assumption))
    replace hB_b1 := hc.keep hB_b1 (by first | assumption | exact Ne.symm (by assumption))
    replace hB_b3 := hc.keep hB_b3 (by first | assumption | exact Ne.symm (by assumption))
    replace hx := hc.ext hx hb_b7
    replace hB_b7 := hc.at_; clear hc
    refine segp (ρ' := [(2, .string (S s)), (3, .pointer (some ⟨b1, 0, none⟩)), (4, .pointer (some ⟨b3, 0, none⟩)), (7, .pointer (some ⟨b7, 0, none⟩)), (8, .bool ((unhex s).2))]) (C := []) ha 1 [] rfl (by kernel_rfl) .nil ?_
    clear ha a; intro a ha
    refine lnil ?_
    replace ha := ha.sub (ρ' := [(2, .string (S s)), (3, .pointer (some ⟨b1, 0, none⟩)), (4, .pointer (some ⟨b3, 0, none⟩)), (7, .pointer (some ⟨b7, 0, none⟩)), (8, .bool ((unhex s).2))]) (by kernel_rfl)
    refine tn ?_
    refine wseq ?_
    refine reg_list ?_
    refine seg (ρ' := [(3, .pointer (some ⟨b1, 0, none⟩)), (4, .pointer (some ⟨b3, 0, none⟩)), (7, .pointer (some ⟨b7, 0, none⟩)), (8, .bool ((unhex s).2)), (25, .agg ⟨idc ((unhex s).1)⟩), (26, .bool ((unhex s).2))]) (C := [CallOk Tryd.prog w9 13 #[.string (S s)] (.tuple #[.agg ⟨idc ((unhex s).1)⟩, .bool ((unhex s).2)])]) ha 5 [(1, .val (.tuple #[.agg ⟨idc ((unhex s).1)⟩, .bool ((unhex s).2)]))] (by kernel_rfl) (.cons (fun w _ => runhex_ok s w (by omega)) .nil) ?_
    clear ha a; intro a w10 ha he
    replace hx := hx.tr he
    replace hB_0 := keepB he hB_0
    replace hB_b1 := keepB he hB_b1
    replace hB_b3 := keepB he hB_b3
    replace hB_b7 := keepB he hB_b7
    clear he
    refine lnew ha rfl (by kernel_rfl) ⟨idc idZ⟩ 24 (by kernel_rfl) ?_
    clear ha a; intro b11 w12 he hb_b11 hB_b11 a ha
    have hne_0_b11 : 0 ≠ b11 := ne_new hB_0 hb_b11
    have hne_b1_b11 : b1 ≠ b11 := ne_new hB_b1 hb_b11
    have hne_b3_b11 : b3 ≠ b11 := ne_new hB_b3 hb_b11
    have hne_b7_b11 : b7 ≠ b11 := ne_new hB_b7 hb_b11
    replace hB_0 := keepB he hB_0
    replace hB_b1 := keepB he hB_b1
    replace hB_b3 := keepB he hB_b3
    replace hB_b7 := keepB he hB_b7
    replace hb_b11 := Nat.le_trans hx.size hb_b11
    replace hx := hx.tr he
    clear he
    refine lstore (off := 0) ha rfl rfl (by kernel_rfl) hB_b11 ⟨idc ((unhex s).1)⟩ rfl (by kernel_rfl) (by kernel_rfl) ?_
    clear ha a; intro w13 hc a ha
    replace hB_0 := hc.keep hB_0 (by first | assumption | exact Ne.symm (by assumption))
    replace hB_b1 := hc.keep hB_b1 (by first | assumption | exact Ne.symm (by assumption))
    replace hB_b3 := hc.keep hB_b3 (by first | assumption | exact Ne.symm (by assumption))
    replace hB_b7 := hc.keep hB_b7 (by first | assumption | exact Ne.symm (by assumption))
    replace hx := hc.ext hx hb_b11
    replace hB_b11 := hc.at_; clear hc
    refine segp (ρ' := [(3, .pointer (some ⟨b1, 0, none⟩)), (4, .pointer (some ⟨b3, 0, none⟩)), (7, .pointer (some ⟨b7, 0, none⟩)), (8, .bool ((unhex s).2)), (9, .pointer (some ⟨b11, 0, none⟩)), (10, .bool ((unhex s).2))]) (C := []) ha 1 [] rfl (by kernel_rfl) .nil ?_
    clear ha a; intro a ha
    refine lnil ?_
    replace ha := ha.sub (ρ' := [(3, .pointer (some ⟨b1, 0, none⟩)), (4, .pointer (some ⟨b3, 0, none⟩)), (7, .pointer (some ⟨b7, 0, none⟩)), (8, .bool ((unhex s).2)), (9, .pointer (some ⟨b11, 0, none⟩)), (10, .bool ((unhex s).2))]) (by kernel_rfl)
    refine tn ?_
    refine wseq ?_
    have hhl := hexTo_len x 32 (by omega)
    refine reg_list ?_
    refine seg (ρ' := [(3, .pointer (some ⟨b1, 0, none⟩)), (4, .pointer (some ⟨b3, 0, none⟩)), (7, .pointer (some ⟨b7, 0, none⟩)), (8, .bool ((unhex s).2)), (9, .pointer (some ⟨b11, 0, none⟩)), (10, .bool ((unhex s).2)), (31, .agg ⟨idc ((unhex (hexTo x 32)).1)⟩), (32, .bool ((unhex (hexTo x 32)).2))]) (C := [RunOk Tryd.prog w13 (Instr.loadAt 24 (.pointer (some ⟨b1, 0, none⟩))) (.agg ⟨idc x⟩), CallOk Tryd.prog w13 14 #[.agg ⟨idc x⟩] (.string (S (hexTo x 32))), CallOk Tryd.prog w13 12 #[.string (S (hexTo x 32))] (.tuple #[.agg ⟨idc ((unhex (hexTo x 32)).1)⟩, .bool ((unhex (hexTo x 32)).2)])]) ha 6 [(0, .val (.agg ⟨idc x⟩)), (1, .val (.string (S (hexTo x 32)))), (2, .val (.tuple #[.agg ⟨idc ((unhex (hexTo x 32)).1)⟩, .bool ((unhex (hexTo x 32)).2)]))] (by kernel_rfl) (.cons (ldN (n := 32) hB_b1 (by kernel_rfl) (by kernel_rfl) ⟨Nat.le_of_ble_eq_true (by kernel_rfl), (by kernel_rfl)⟩) (.cons (fun w _ => hex_ok _ w) (.cons (fun w _ => unhex_ok_ (hexTo x 32) w (by omega)) .nil))) ?_
    clear ha a; intro a w14 ha he
    replace hx := hx.tr he
    replace hB_0 := keepB he hB_0
    replace hB_b1 := keepB he hB_b1
    replace hB_b3 := keepB he hB_b3
    replace hB_b7 := keepB he hB_b7
    replace hB_b11 := keepB he hB_b11
    clear he
    refine lnew ha rfl (by kernel_rfl) ⟨idc idZ⟩ 24 (by kernel_rfl) ?_
    clear ha a; intro b15 w16 he hb_b15 hB_b15 a ha
    have hne_0_b15 : 0 ≠ b15 := ne_new hB_0 hb_b15
    have hne_b1_b15 : b1 ≠ b15 := ne_new hB_b1 hb_b15
    have hne_b3_b15 : b3 ≠ b15 := ne_new hB_b3 hb_b15
    have hne_b7_b15 : b7 ≠ b15 := ne_new hB_b7 hb_b15
    have hne_b11_b15 : b11 ≠ b15 := ne_new hB_b11 hb_b15
    replace hB_0 := keepB he hB_0
    replace hB_b1 := keepB he hB_b1
    replace hB_b3 := keepB he hB_b3
    replace hB_b7 := keepB he hB_b7
    replace hB_b11 := keepB he hB_b11
    replace hb_b15 := Nat.le_trans hx.size hb_b15
    replace hx := hx.tr he
    clear he
    refine lstore (off := 0) ha rfl rfl (by kernel_rfl) hB_b15 ⟨idc ((unhex (hexTo x 32)).1)⟩ rfl (by kernel_rfl) (by kernel_rfl) ?_
    clear ha a; intro w17 hc a ha
    replace hB_0 := hc.keep hB_0 (by first | assumption | exact Ne.symm (by assumption))
    replace hB_b1 := hc.keep hB_b1 (by first | assumption | exact Ne.symm (by assumption))
    replace hB_b3 := hc.keep hB_b3 (by first | assumption | exact Ne.symm (by assumption))
    replace hB_b7 := hc.keep hB_b7 (by first | assumption | exact Ne.symm (by assumption))
    replace hB_b11 := hc.keep hB_b11 (by first | assumption | exact Ne.symm (by assumption))
    replace hx := hc.ext hx hb_b15
    replace hB_b15 := hc.at_; clear hc
    refine segp (ρ' := [(3, .pointer (some ⟨b1, 0, none⟩)), (4, .pointer (some ⟨b3, 0, none⟩)), (7, .pointer (some ⟨b7, 0, none⟩)), (8, .bool ((unhex s).2)), (9, .pointer (some ⟨b11, 0, none⟩)), (10, .bool ((unhex s).2)), (11, .pointer (some ⟨b15, 0, none⟩)), (12, .bool ((unhex (hexTo x 32)).2))]) (C := []) ha 1 [] rfl (by kernel_rfl) .nil ?_
    clear ha a; intro a ha
    refine lnil ?_
    replace ha := ha.sub (ρ' := [(3, .pointer (some ⟨b1, 0, none⟩)), (4, .pointer (some ⟨b3, 0, none⟩)), (7, .pointer (some ⟨b7, 0, none⟩)), (8, .bool ((unhex s).2)), (9, .pointer (some ⟨b11, 0, none⟩)), (10, .bool ((unhex s).2)), (11, .pointer (some ⟨b15, 0, none⟩)), (12, .bool ((unhex (hexTo x 32)).2))]) (by kernel_rfl)
    refine tn ?_
    refine wseq ?_
    refine reg hmix (ρ' := [(6, .bool ((((((true && (decide (((hexTo x 32) : List UInt8) = ((hexTo x 32) : List UInt8)))) && (decide ((unhex s).1 = (unhex s).1))) && (((unhex s).2) == ((unhex s).2))) && (decide ((unhex (hexTo x 32)).1 = x))) && ((unhex (hexTo x 32)).2)) && ((Op.bytesLess x.l y.l) == (Op.bytesLess x.l y.l))))]) (C := [CallOk Tryd.prog w17 9 #[] (.bool true), true = true → All [RunOk Tryd.prog w17 (Instr.loadAt 24 (.pointer (some ⟨b1, 0, none⟩))) (.agg ⟨idc x⟩), CallOk Tryd.prog w17 14 #[.agg ⟨idc x⟩] (.string (S (hexTo x 32))), RunOk Tryd.prog w17 (Instr.loadAt 24 (.pointer (some ⟨b1, 0, none⟩))) (.agg ⟨idc x⟩), CallOk Tryd.prog w17 15 #[.agg ⟨idc x⟩] (.string (S (hexTo x 32)))], (true && (decide (((hexTo x 32) : List UInt8) = ((hexTo x 32) : List UInt8)))) = true → All [RunOk Tryd.prog w17 (Instr.loadAt 24 (.pointer (some ⟨b7, 0, none⟩))) (.agg ⟨idc ((unhex s).1)⟩), RunOk Tryd.prog w17 (Instr.loadAt 24 (.pointer (some ⟨b11, 0, none⟩))) (.agg ⟨idc ((unhex s).1)⟩), BinOk Tryd.prog .eql 24 (.agg ⟨idc ((unhex s).1)⟩) (.agg ⟨idc ((unhex s).1)⟩) (.bool (decide ((unhex s).1 = (unhex s).1)))], (((true && (decide (((hexTo x 32) : List UInt8) = ((hexTo x 32) : List UInt8)))) && (decide ((unhex s).1 = (unhex s).1))) && (((unhex s).2) == ((unhex s).2))) = true → All [RunOk Tryd.prog w17 (Instr.loadAt 24 (.pointer (some ⟨b15, 0, none⟩))) (.agg ⟨idc ((unhex (hexTo x 32)).1)⟩), RunOk Tryd.prog w17 (Instr.loadAt 24 (.pointer (some ⟨b1, 0, none⟩))) (.agg ⟨idc x⟩), BinOk Tryd.prog .eql 24 (.agg ⟨idc ((unhex (hexTo x 32)).1)⟩) (.agg ⟨idc x⟩) (.bool (decide ((unhex (hexTo x 32)).1 = x)))], (((((true && (decide (((hexTo x 32) : List UInt8) = ((hexTo x 32) : List UInt8)))) && (decide ((unhex s).1 = (unhex s).1))) && (((unhex s).2) == ((unhex s).2))) && (decide ((unhex (hexTo x 32)).1 = x))) && ((unhex (hexTo x 32)).2)) = true → All [RunOk Tryd.prog w17 (Instr.loadAt 24 (.pointer (some ⟨b1, 0, none⟩))) (.agg ⟨idc x⟩), RunOk Tryd.prog w17 (Instr.loadAt 24 (.pointer (some ⟨b3, 0, none⟩))) (.agg ⟨idc y⟩), CallOk Tryd.prog w17 16 #[.agg ⟨idc x⟩, .agg ⟨idc y⟩] (.bool (Op.bytesLess x.l y.l)), RunOk Tryd.prog w17 (Instr.loadAt 24 (.pointer (some ⟨b1, 0, none⟩))) (.agg ⟨idc x⟩), RunOk Tryd.prog w17 (Instr.loadAt 24 (.pointer (some ⟨b3, 0, none⟩))) (.agg ⟨idc y⟩), CallOk Tryd.prog w17 17 #[.agg ⟨idc x⟩, .agg ⟨idc y⟩] (.bool (Op.bytesLess x.l y.l))]]) ha [(0, .val (.bool true)), (2, .val (.agg ⟨idc x⟩)), (3, .val (.string (S (hexTo x 32)))), (4, .val (.agg ⟨idc x⟩)), (5, .val (.string (S (hexTo x 32)))), (9, .val (.agg ⟨idc ((unhex s).1)⟩)), (10, .val (.agg ⟨idc ((unhex s).1)⟩)), (11, .val (.bool (decide ((unhex s).1 = (unhex s).1)))), (19, .val (.agg ⟨idc ((unhex (hexTo x 32)).1)⟩)), (20, .val (.agg ⟨idc x⟩)), (21, .val (.bool (decide ((unhex (hexTo x 32)).1 = x)))), (27, .val (.agg ⟨idc x⟩)), (28, .val (.agg ⟨idc y⟩)), (29, .val (.bool (Op.bytesLess x.l y.l))), (30, .val (.agg ⟨idc x⟩)), (31, .val (.agg ⟨idc y⟩)), (32, .val (.bool (Op.bytesLess x.l y.l)))] (by kernel_rfl) (.cons (fun w2 h2 => knows2_ok w2 (keepB h2 hB_0)) (.cons (fun hg2 => by exact (.cons (ldN (n := 32) hB_b1 (by kernel_rfl) (by kernel_rfl) ⟨Nat.le_of_ble_eq_true (by kernel_rfl), (by kernel_rfl)⟩) (.cons (fun w _ => hex_ok _ w) (.cons (ldN (n := 32) hB_b1 (by kernel_rfl) (by kernel_rfl) ⟨Nat.le_of_ble_eq_true (by kernel_rfl), (by kernel_rfl)⟩) (.cons (fun w _ => rhex_ok _ w) .nil))))) (.cons (fun hg9 => by simp only [Bool.not_eq_true', Bool.not_eq_false', Bool.and_eq_true, Bool.or_eq_true, Bool.and_eq_false_iff, Bool.or_eq_false_iff, decide_eq_true_eq, decide_eq_false_iff_not, Bool.not_eq_true, Decidable.not_not] at hg9; exact (.cons (ldN (n := 32) hB_b7 (by kernel_rfl) (by kernel_rfl) ⟨Nat.le_of_ble_eq_true (by kernel_rfl), (by kernel_rfl)⟩) (.cons (ldN (n := 32) hB_b11 (by kernel_rfl) (by kernel_rfl) ⟨Nat.le_of_ble_eq_true (by kernel_rfl), (by kernel_rfl)⟩) (.cons (eqIdE (x := (unhex s).1) (y := (unhex s).1) (by kernel_rfl)) .nil)))) (.cons (fun hg19 => by simp only [Bool.not_eq_true', Bool.not_eq_false', Bool.and_eq_true, Bool.or_eq_true, Bool.and_eq_false_iff, Bool.or_eq_false_iff, decide_eq_true_eq, decide_eq_false_iff_not, Bool.not_eq_true, Decidable.not_not] at hg19; exact (.cons (ldN (n := 32) hB_b15 (by kernel_rfl) (by kernel_rfl) ⟨Nat.le_of_ble_eq_true (by kernel_rfl), (by kernel_rfl)⟩) (.cons (ldN (n := 32) hB_b1 (by kernel_rfl) (by kernel_rfl) ⟨Nat.le_of_ble_eq_true (by kernel_rfl), (by kernel_rfl)⟩) (.cons (eqIdE (x := (unhex (hexTo x 32)).1) (y := x) (by kernel_rfl)) .nil)))) (.cons (fun hg27 => by simp only [Bool.not_eq_true', Bool.not_eq_false', Bool.and_eq_true, Bool.or_eq_true, Bool.and_eq_false_iff, Bool.or_eq_false_iff, decide_eq_true_eq, decide_eq_false_iff_not, Bool.not_eq_true, Decidable.not_not] at hg27; exact (.cons (ldN (n := 32) hB_b1 (by kernel_rfl) (by kernel_rfl) ⟨Nat.le_of_ble_eq_true (by kernel_rfl), (by kernel_rfl)⟩) (.cons (ldN (n := 32) hB_b3 (by kernel_rfl) (by kernel_rfl) ⟨Nat.le_of_ble_eq_true (by kernel_rfl), (by kernel_rfl)⟩) (.cons (fun w _ => less_ok _ _ w) (.cons (ldN (n := 32) hB_b1 (by kernel_rfl) (by kernel_rfl) ⟨Nat.le_of_ble_eq_true (by kernel_rfl), (by kernel_rfl)⟩) (.cons (ldN (n := 32) hB_b3 (by kernel_rfl) (by kernel_rfl) ⟨Nat.le_of_ble_eq_true (by kernel_rfl), (by kernel_rfl)⟩) (.cons (fun w _ => rless_ok _ _ w) .nil))))))) .nil))))) ?_
    clear ha a; intro a w18 ha he
    replace hx := hx.tr he
    replace hB_0 := keepB he hB_0
    replace hB_b1 := keepB he hB_b1
    replace hB_b3 := keepB he hB_b3
    replace hB_b7 := keepB he hB_b7
    replace hB_b11 := keepB he hB_b11
    replace hB_b15 := keepB he hB_b15
    clear he
    refine tn ?_
    refine wret ?_
    refine fin ha (.tmp rfl .nil) ?_
    exact ⟨congrArg Value.bool (by rw [unhex_hex]; simp), hx⟩
end Go.Kn
end
section
set_option linter.unusedSimpArgs false
set_option linter.unusedVariables false
set_option maxRecDepth 100000
namespace Go.Kn
open Go.Proofs
theorem r1get_ok (s : List UInt8) (w : World) (hs : s.length ≤ 1000000) :
    Fn Tryd.prog 89 #[.string (S s)] w (fun x w' => x = .tuple #[.int .u64 (((rGet s).1 : Nat) : Int), .int .i64 (((rGet s).2 : Nat) : Int)] ∧ Ext w w') := by
  have hx : Ext w w := Ext.rfl' w
  refine enter (N := 64) (args := [.string (S s)]) Tryd.func89 rfl rfl rfl ?_
  intro a ha
  simp only [argEnv, Nat.zero_add, Nat.reduceAdd] at ha
  refine wseq ?_
  refine regp (ρ' := [(0, .string (S s))]) (C := []) ha [] (by kernel_rfl) .nil ?_
  clear ha a; intro a ha
  refine tn ?_
  refine wseq ?_
  refine regp (ρ' := [(0, .string (S s)), (4, .int .i64 0)]) (C := []) ha [] (by kernel_rfl) .nil ?_
  clear ha a; intro a ha
  refine tn ?_
  refine wseq ?_
  refine wblk ?_
  refine wloop (fun zz a w1 => ∃ (e : Nat), zz = 10 - e ∧ On 64 [(0, .string (S s)), (4, .int .i64 ((e : Nat) : Int))] a ∧ Ext w w1 ∧ (e ≤ s.length) ∧ (e ≤ 10) ∧ (∀ j, j < e → 128 ≤ (s.getD j 0).toNat)) _ ⟨0, rfl, ha.sub (ρ' := [(0, .string (S s)), (4, .int .i64 ((0 : Nat) : Int))]) (by kernel_rfl), hx, by omega, by omega, fun j hj => absurd hj (by omega)⟩ ?_
  clear ha hx
  rintro zz a w2 ⟨e, hzz, ha, hx, he, he10, hk⟩
  refine wseq ?_
  refine wseq ?_
  refine regp (ρ' := [(0, .string (S s)), (4, .int .i64 ((e : Nat) : Int)), (20, .bool (((decide (((e : Nat) : Int) < ((s.length : Nat) : Int))) && (decide (((e : Nat) : Int) < 10))) && (decide ((128 : Int) ≤ (((s.getD e 0).toNat : Nat) : Int)))))]) (C := [((decide (((e : Nat) : Int) < ((s.length : Nat) : Int))) && (decide (((e : Nat) : Int) < 10))) = true → All [0 ≤ ((e : Nat) : Int) ∧ ((e : Nat) : Int) < (s.length : Int)]]) ha [] (by kernel_rfl) (.cons (fun hg9 => by simp only [Bool.not_eq_true', Bool.not_eq_false', Bool.and_eq_true, Bool.or_eq_true, Bool.and_eq_false_iff, Bool.or_eq_false_iff, decide_eq_true_eq, decide_eq_false_iff_not, Bool.not_eq_true, Decidable.not_not] at hg9; exact (.cons ⟨by omega, by omega⟩ .nil)) .nil) ?_
  clear ha a; intro a ha
  refine tn ?_
  refine wif ha rfl (fun h20 => ?_) (fun h20 => ?_)
  · simp only [Bool.not_eq_true', Bool.not_eq_false', Bool.and_eq_true, Bool.or_eq_true, Bool.and_eq_false_iff, Bool.or_eq_false_iff, decide_eq_true_eq, decide_eq_false_iff_not, Bool.not_eq_true, Decidable.not_not] at h20
    refine wskip ?_
    refine tn ?_
    refine wblk ?_
    refine regp (ρ' := [(0, .string (S s)), (4, .int .i64 ((e + 1 : Nat) : Int))]) (C := [InR .i64 ((e + 1 : Nat) : Int)]) ha [] (by kernel_rfl) (.cons (by unfold InR; omega) .nil) ?_
    clear ha a; intro a ha
    refine bn ?_
    exact tn ⟨10 - ((e + 1)), by omega, (e + 1), rfl, ha.sub (ρ' := [(0, .string (S s)), (4, .int .i64 (((e + 1) : Nat) : Int))]) (by kernel_rfl), hx, by omega, by omega, fun j hj => (Nat.lt_or_ge j e).elim (hk j) (fun h => (show j = e by omega) ▸ by omega)⟩
  · simp only [Bool.not_eq_true', Bool.not_eq_false', Bool.and_eq_true, Bool.or_eq_true, Bool.and_eq_false_iff, Bool.or_eq_false_iff, decide_eq_true_eq, decide_eq_false_iff_not, Bool.not_eq_true, Decidable.not_not] at h20
    refine wexit ?_
    refine (te (te (be ?_)))
    refine tn ?_
    refine wseq ?_
    refine wseq ?_
    refine regp (ρ' := [(0, .string (S s)), (4, .int .i64 ((e : Nat) : Int)), (30, .bool ((decide (((s.length : Nat) : Int) ≤ ((e : Nat) : Int))) || (decide ((10 : Int) ≤ ((e : Nat) : Int)))))]) (C := []) ha [] (by kernel_rfl) .nil ?_
    clear ha a; intro a ha
    refine tn ?_
    refine wif ha rfl (fun h30 => ?_) (fun h30 => ?_)
    · simp only [Bool.not_eq_true', Bool.not_eq_false', Bool.and_eq_true, Bool.or_eq_true, Bool.and_eq_false_iff, Bool.or_eq_false_iff, decide_eq_true_eq, decide_eq_false_iff_not, Bool.not_eq_true, Decidable.not_not] at h30
      have hres := rget_end he he10 hk (by omega)
      refine wseq ?_
      refine regp (ρ' := [(2, .int .u64 0), (3, .int .i64 0)]) (C := []) ha [] (by kernel_rfl) .nil ?_
      clear ha a; intro a ha
      refine tn ?_
      refine wret ?_
      refine (tr ?_)
      refine fin ha (.tmp rfl (.tmp rfl .nil)) ?_
      exact ⟨by rw [hres]; first | rfl | (rw [hnv]; rfl), hx⟩
    · simp only [Bool.not_eq_true', Bool.not_eq_false', Bool.and_eq_true, Bool.or_eq_true, Bool.and_eq_false_iff, Bool.or_eq_false_iff, decide_eq_true_eq, decide_eq_false_iff_not, Bool.not_eq_true, Decidable.not_not] at h30
      have hcl : (s.getD e 0).toNat < 128 := by omega
      refine wskip ?_
      refine tn ?_
      refine wseq ?_
      refine wseq ?_
      refine regp (ρ' := [(0, .string (S s)), (4, .int .i64 ((e : Nat) : Int)), (47, .bool (((decide (((e : Nat) : Int) = 9)) && (decide ((1 : Int) < (((s.getD 9 0).toNat : Nat) : Int)))) || ((decide ((0 : Int) < ((e : Nat) : Int))) && (decide ((((s.getD e 0).toNat : Nat) : Int) = 0)))))]) (C := [(decide (((e : Nat) : Int) = 9)) = true → All [0 ≤ (9 : Int) ∧ 9 < (s.length : Int)], ((decide (((e : Nat) : Int) = 9)) && (decide ((1 : Int) < (((s.getD 9 0).toNat : Nat) : Int)))) = false → All [(decide ((0 : Int) < ((e : Nat) : Int))) = true → All [0 ≤ ((e : Nat) : Int) ∧ ((e : Nat) : Int) < (s.length : Int)]]]) ha [] (by kernel_rfl) (.cons (fun hg3 => by replace hg3 := of_decide_eq_true hg3; exact (.cons ⟨by omega, by omega⟩ .nil)) (.cons (fun hg8 => by simp only [Bool.not_eq_true', Bool.not_eq_false', Bool.and_eq_true, Bool.or_eq_true, Bool.and_eq_false_iff, Bool.or_eq_false_iff, decide_eq_true_eq, decide_eq_false_iff_not, Bool.not_eq_true, Decidable.not_not] at hg8; exact (.cons (fun hg11 => by replace hg11 := of_decide_eq_true hg11; exact (.cons ⟨by omega, by omega⟩ .nil)) .nil)) .nil)) ?_
      clear ha a; intro a ha
      have h99 : e = 9 → (s.getD e 0).toNat = (s.getD 9 0).toNat := fun h => by rw [h]
      refine tn ?_
      refine wif ha rfl (fun h47 => ?_) (fun h47 => ?_)
      · simp only [Bool.not_eq_true', Bool.not_eq_false', Bool.and_eq_true, Bool.or_eq_true, Bool.and_eq_false_iff, Bool.or_eq_false_iff, decide_eq_true_eq, decide_eq_false_iff_not, Bool.not_eq_true, Decidable.not_not] at h47
        have hres := rget_bad (s := s) (e := e) (by omega) (by omega) hk hcl (by omega)
        refine wseq ?_
        refine regp (ρ' := [(2, .int .u64 0), (3, .int .i64 0)]) (C := []) ha [] (by kernel_rfl) .nil ?_
        clear ha a; intro a ha
        refine tn ?_
        refine wret ?_
        refine (tr ?_)
        refine fin ha (.tmp rfl (.tmp rfl .nil)) ?_
        exact ⟨by rw [hres]; first | rfl | (rw [hnv]; rfl), hx⟩
      · simp only [Bool.not_eq_true', Bool.not_eq_false', Bool.and_eq_true, Bool.or_eq_true, Bool.and_eq_false_iff, Bool.or_eq_false_iff, decide_eq_true_eq, decide_eq_false_iff_not, Bool.not_eq_true, Decidable.not_not] at h47
        have hres := rget_fine (s := s) (e := e) (by omega) (by omega) hk hcl (by omega)
        have h64 := gsum_64 (s := s) (e := e) (by omega) (by omega)
        refine wskip ?_
        refine tn ?_
        refine wseq ?_
        refine regp (ρ' := [(0, .string (S s)), (4, .int .i64 ((e : Nat) : Int)), (5, .int .u64 0)]) (C := []) ha [] (by kernel_rfl) .nil ?_
        clear ha a; intro a ha
        refine tn ?_
        refine wseq ?_
        refine wseq ?_
        refine regp (ρ' := [(0, .string (S s)), (4, .int .i64 ((e : Nat) : Int)), (5, .int .u64 0), (6, .int .i64 ((e : Nat) : Int))]) (C := []) ha [] (by kernel_rfl) .nil ?_
        clear ha a; intro a ha
        refine tn ?_
        refine wblk ?_
        refine wloop (fun zz a w3 => ∃ (n m : Nat) (z : Int), zz = m ∧ On 64 [(0, .string (S s)), (4, .int .i64 ((e : Nat) : Int)), (5, .int .u64 ((n : Nat) : Int)), (6, .int .i64 z)] a ∧ Ext w w3 ∧ (m ≤ e + 1) ∧ (z = ((m : Nat) : Int) - 1) ∧ (n * 2 ^ (7 * m) + gsum s m = gsum s (e + 1))) _ ⟨0, (e + 1), ((e : Nat) : Int), rfl, ha.sub (ρ' := [(0, .string (S s)), (4, .int .i64 ((e : Nat) : Int)), (5, .int .u64 ((0 : Nat) : Int)), (6, .int .i64 ((e : Nat) : Int))]) (by kernel_rfl), hx, by omega, by omega, by simp⟩ ?_
        clear ha hx
        rintro zz a w4 ⟨n, m, z, hzz, ha, hx, hm, hz, hn⟩
        refine wseq ?_
        refine wseq ?_
        refine regp (ρ' := [(0, .string (S s)), (4, .int .i64 ((e : Nat) : Int)), (5, .int .u64 ((n : Nat) : Int)), (6, .int .i64 z), (50, .bool (decide ((0 : Int) ≤ z)))]) (C := []) ha [] (by kernel_rfl) .nil ?_
        clear ha a; intro a ha
        refine tn ?_
        refine wif ha rfl (fun h50 => ?_) (fun h50 => ?_)
        · replace h50 := of_decide_eq_true h50
          rw [show (z : Int) = ((m - 1 : Nat) : Int) from by omega] at ha
          have hn2 : (128 * n + (s.getD (m - 1) 0).toNat % 128) * 2 ^ (7 * (m - 1)) + gsum s (m - 1) = gsum s (e + 1) := rget_step (by rw [show m - 1 + 1 = m by omega]; exact hn)
          have hnl := rget_le hn2
          refine wskip ?_
          refine tn ?_
          refine wseq ?_
          refine wblk ?_
          refine regp (ρ' := [(0, .string (S s)), (4, .int .i64 ((e : Nat) : Int)), (5, .int .u64 (((128 * n) + (((s.getD (m - 1) 0).toNat) % 128) : Nat) : Int)), (6, .int .i64 ((m - 1 : Nat) : Int))]) (C := [InR .u64 ((128 * n : Nat) : Int), 0 ≤ ((m - 1 : Nat) : Int) ∧ ((m - 1 : Nat) : Int) < (s.length : Int), 0 ≤ (((s.getD (m - 1) 0).toNat : Nat) : Int), 0 < (128 : Int), InR .u64 ((((s.getD (m - 1) 0).toNat) % 128 : Nat) : Int), InR .u64 (((128 * n) + (((s.getD (m - 1) 0).toNat) % 128) : Nat) : Int)]) ha [] (by kernel_rfl) (.cons (by unfold InR; omega) (.cons ⟨by omega, by omega⟩ (.cons (by omega) (.cons (by omega) (.cons (by unfold InR; omega) (.cons (by unfold InR; omega) .nil)))))) ?_
          clear ha a; intro a ha
          refine bn ?_
          refine tn ?_
          refine regp (ρ' := [(0, .string (S s)), (4, .int .i64 ((e : Nat) : Int)), (5, .int .u64 (((128 * n) + (((s.getD (m - 1) 0).toNat) % 128) : Nat) : Int)), (6, .int .i64 (((m - 1 : Nat) : Int) - 1))]) (C := [InR .i64 (((m - 1 : Nat) : Int) - 1)]) ha [] (by kernel_rfl) (.cons (by unfold InR; omega) .nil) ?_
          clear ha a; intro a ha
          exact tn ⟨((m - 1)), by omega, (128 * n + (s.getD (m - 1) 0).toNat % 128), (m - 1), (((m - 1 : Nat) : Int) - 1), rfl, ha.sub (ρ' := [(0, .string (S s)), (4, .int .i64 ((e : Nat) : Int)), (5, .int .u64 (((128 * n + (s.getD (m - 1) 0).toNat % 128) : Nat) : Int)), (6, .int .i64 (((m - 1 : Nat) : Int) - 1))]) (by kernel_rfl), hx, by omega, by omega, hn2⟩
        · replace h50 := of_decide_eq_false h50
          obtain rfl : m = 0 := by omega
          have hnv : n = gsum s (e + 1) := by simpa [gsum] using hn
          refine wexit ?_
          refine (te (te (be ?_)))
          refine tn ?_
          refine wseq ?_
          refine regp (ρ' := [(2, .int .u64 ((n : Nat) : Int)), (3, .int .i64 ((e + 1 : Nat) : Int))]) (C := [InR .i64 ((e + 1 : Nat) : Int)]) ha [] (by kernel_rfl) (.cons (by unfold InR; omega) .nil) ?_
          clear ha a; intro a ha
          refine tn ?_
          refine wret ?_
          refine fin ha (.tmp rfl (.tmp rfl .nil)) ?_
          exact ⟨by rw [hres]; first | rfl | (rw [hnv]; rfl), hx⟩
theorem rtake_ok (s : List UInt8) (w : World) (hs : s.length ≤ 1000000) :
    Fn Tryd.prog 86 #[.string (S s)] w (fun x w' => x = .tuple #[.string (S (rTake s).1), .int .i64 (((rTake s).2 : Nat) : Int)] ∧ Ext w w') := by
  have hx : Ext w w := Ext.rfl' w
  refine enter (N := 33) (args := [.string (S s)]) Tryd.func86 rfl rfl rfl ?_
  intro a ha
  simp only [argEnv, Nat.zero_add, Nat.reduceAdd] at ha
  refine wseq ?_
  refine regp (ρ' := [(0, .string (S s))]) (C := []) ha [] (by kernel_rfl) .nil ?_
  clear ha a; intro a ha
  refine tn ?_
  refine wseq ?_
  refine reg hmix (ρ' := [(0, .string (S s)), (4, .int .u64 (((rGet s).1 : Nat) : Int)), (5, .int .i64 (((rGet s).2 : Nat) : Int))]) (C := [CallOk Tryd.prog w 89 #[.string (S s)] (.tuple #[.int .u64 (((rGet s).1 : Nat) : Int), .int .i64 (((rGet s).2 : Nat) : Int)])]) ha [(1, .val (.tuple #[.int .u64 (((rGet s).1 : Nat) : Int), .int .i64 (((rGet s).2 : Nat) : Int)]))] (by kernel_rfl) (.cons (fun w _ => r1get_ok _ w (by first | omega | (simp only [List.length_drop, List.length_take]; omega))) .nil) ?_
  clear ha a; intro a w1 ha he
  replace hx := hx.tr he
  clear he
  have hgl := rGet_le s
  refine tn ?_
  refine wseq ?_
  refine wseq ?_
  refine regp (ρ' := [(0, .string (S s)), (4, .int .u64 (((rGet s).1 : Nat) : Int)), (5, .int .i64 (((rGet s).2 : Nat) : Int)), (21, .bool ((decide ((((rGet s).2 : Nat) : Int) = 0)) || (decide (((s.length - ((rGet s).2) : Nat) : Int) < (((rGet s).1 : Nat) : Int)))))]) (C := [(decide ((((rGet s).2 : Nat) : Int) = 0)) = false → All [BinOk Tryd.prog .sub 3 (.int .i64 ((s.length : Nat) : Int)) (.int .i64 (((rGet s).2 : Nat) : Int)) (.int .i64 ((s.length - ((rGet s).2) : Nat) : Int)), InR .u64 ((s.length - ((rGet s).2) : Nat) : Int)]]) ha [(7, .val (.int .i64 ((s.length - ((rGet s).2) : Nat) : Int)))] (by kernel_rfl) (.cons (fun hg3 => by replace hg3 := of_decide_eq_false hg3; exact (.cons (subN (a := s.length) (n := ((rGet s).2)) (by omega) (by unfold InR; omega)) (.cons (by unfold InR; omega) .nil))) .nil) ?_
  clear ha a; intro a ha
  refine tn ?_
  refine wif ha rfl (fun h21 => ?_) (fun h21 => ?_)
  · simp only [Bool.not_eq_true', Bool.not_eq_false', Bool.and_eq_true, Bool.or_eq_true, Bool.and_eq_false_iff, Bool.or_eq_false_iff, decide_eq_true_eq, decide_eq_false_iff_not, Bool.not_eq_true, Decidable.not_not] at h21
    have hres : rTake s = ([], 0) := by unfold rTake; rw [if_pos (by omega)]
    refine wseq ?_
    refine regp (ρ' := [(2, .string (S [])), (3, .int .i64 0)]) (C := []) ha [] (by kernel_rfl) .nil ?_
    clear ha a; intro a ha
    refine tn ?_
    refine wret ?_
    refine (tr ?_)
    refine fin ha (.tmp rfl (.tmp rfl .nil)) ?_
    exact ⟨by rw [hres]; first | rfl | (rw [show (rGet s).2 + (rGet s).1 - (rGet s).2 = (rGet s).1 by omega]; rfl), hx⟩
  · simp only [Bool.not_eq_true', Bool.not_eq_false', Bool.and_eq_true, Bool.or_eq_true, Bool.and_eq_false_iff, Bool.or_eq_false_iff, decide_eq_true_eq, decide_eq_false_iff_not, Bool.not_eq_true, Decidable.not_not] at h21
    have hres : rTake s = ((s.drop (rGet s).2).take (rGet s).1, (rGet s).2 + (rGet s).1) := by unfold rTake; rw [if_neg (by omega)]
    refine wskip ?_
    refine tn ?_
    refine wseq ?_
    refine regp (ρ' := [(2, .string (S ((s.drop ((rGet s).2)).take ((((rGet s).2) + ((rGet s).1)) - ((rGet s).2))))), (3, .int .i64 ((((rGet s).2) + ((rGet s).1) : Nat) : Int))]) (C := [InR .i64 (((rGet s).1 : Nat) : Int), InR .i64 ((((rGet s).2) + ((rGet s).1) : Nat) : Int), 0 ≤ (((rGet s).2 : Nat) : Int) ∧ (((rGet s).2 : Nat) : Int) ≤ ((((rGet s).2) + ((rGet s).1) : Nat) : Int) ∧ ((((rGet s).2) + ((rGet s).1) : Nat) : Int) ≤ (s.length : Int), InR .i64 (((rGet s).1 : Nat) : Int), InR .i64 ((((rGet s).2) + ((rGet s).1) : Nat) : Int)]) ha [] (by kernel_rfl) (.cons (by unfold InR; omega) (.cons (by unfold InR; omega) (.cons ⟨by omega, by omega, by omega⟩ (.cons (by unfold InR; omega) (.cons (by unfold InR; omega) .nil))))) ?_
    clear ha a; intro a ha
    refine tn ?_
    refine wret ?_
    refine fin ha (.tmp rfl (.tmp rfl .nil)) ?_
    exact ⟨by rw [hres]; first | rfl | (rw [show (rGet s).2 + (rGet s).1 - (rGet s).2 = (rGet s).1 by omega]; rfl), hx⟩
theorem idof_ok (s : List UInt8) (w : World) :
    Fn Tryd.prog 88 #[.string (S s)] w (fun x w' => x = .agg ⟨idc (idOf s)⟩ ∧ Ext w w') := by
  have hx : Ext w w := Ext.rfl' w
  refine enter (N := 22) (args := [.string (S s)]) Tryd.func88 rfl rfl rfl ?_
  intro a ha
  simp only [argEnv, Nat.zero_add, Nat.reduceAdd] at ha
  refine wseq ?_
  refine reg_list ?_
  refine lnew ha rfl (by kernel_rfl) ⟨idc idZ⟩ 24 (by kernel_rfl) ?_
  clear ha a; intro bz w1 he hb_bz hB_bz a ha
  replace hb_bz := Nat.le_trans hx.size hb_bz
  replace hx := hx.tr he
  clear he
  refine lnil ?_
  replace ha := ha.sub (ρ' := [(0, .string (S s)), (2, .pointer (some ⟨bz, 0, none⟩))]) (by kernel_rfl)
  refine tn ?_
  refine wseq ?_
  refine reg_list ?_
  refine segp (ρ' := [(0, .string (S s)), (2, .pointer (some ⟨bz, 0, none⟩)), (5, .agg ⟨idc idZ⟩)]) (C := []) ha 1 [] rfl (by kernel_rfl) .nil ?_
  clear ha a; intro a ha
  refine lnew ha rfl (by kernel_rfl) ⟨idc idZ⟩ 24 (by kernel_rfl) ?_
  clear ha a; intro bx w2 he hb_bx hB_bx a ha
  have hne_bz_bx : bz ≠ bx := ne_new hB_bz hb_bx
  replace hB_bz := keepB he hB_bz
  replace hb_bx := Nat.le_trans hx.size hb_bx
  replace hx := hx.tr he
  clear he
  refine lstore (off := 0) ha rfl rfl (by kernel_rfl) hB_bx ⟨idc idZ⟩ rfl (by kernel_rfl) (by kernel_rfl) ?_
  clear ha a; intro w3 hc a ha
  replace hB_bz := hc.keep hB_bz (by first | assumption | exact Ne.symm (by assumption))
  replace hx := hc.ext hx hb_bx
  replace hB_bx := hc.at_; clear hc
  refine lnil ?_
  replace ha := ha.sub (ρ' := [(0, .string (S s)), (2, .pointer (some ⟨bz, 0, none⟩)), (3, .pointer (some ⟨bx, 0, none⟩))]) (by kernel_rfl)
  refine tn ?_
  refine wseq ?_
  refine wseq ?_
  refine regp (ρ' := [(0, .string (S s)), (2, .pointer (some ⟨bz, 0, none⟩)), (3, .pointer (some ⟨bx, 0, none⟩)), (4, .int .i64 0)]) (C := []) ha [] (by kernel_rfl) .nil ?_
  clear ha a; intro a ha
  refine tn ?_
  refine wblk ?_
  refine wloop (fun zz a w4 => ∃ (i : Nat), zz = 32 - i ∧ On 22 [(0, .string (S s)), (2, .pointer (some ⟨bz, 0, none⟩)), (3, .pointer (some ⟨bx, 0, none⟩)), (4, .int .i64 ((i : Nat) : Int))] a ∧ Ext w w4 ∧ w4.heap[bz]? = some (.cells ⟨idc idZ⟩ 24 (0, 0)) ∧ w4.heap[bx]? = some (.cells ⟨idc (idTo s i)⟩ 24 (0, 0)) ∧ (i ≤ 32) ∧ (i ≤ s.length)) _ ⟨0, rfl, ha.sub (ρ' := [(0, .string (S s)), (2, .pointer (some ⟨bz, 0, none⟩)), (3, .pointer (some ⟨bx, 0, none⟩)), (4, .int .i64 ((0 : Nat) : Int))]) (by kernel_rfl), hx, hB_bz, hB_bx, by omega, by omega⟩ ?_
  clear ha hx hB_bz hB_bx
  rintro zz a w5 ⟨i, hzz, ha, hx, hB_bz, hB_bx, hi, hil⟩
  refine wseq ?_
  refine wseq ?_
  refine regp (ρ' := [(0, .string (S s)), (2, .pointer (some ⟨bz, 0, none⟩)), (3, .pointer (some ⟨bx, 0, none⟩)), (4, .int .i64 ((i : Nat) : Int)), (13, .bool ((decide (((i : Nat) : Int) < 32)) && (decide (((i : Nat) : Int) < ((s.length : Nat) : Int)))))]) (C := []) ha [] (by kernel_rfl) .nil ?_
  clear ha a; intro a ha
  refine tn ?_
  refine wif ha rfl (fun h13 => ?_) (fun h13 => ?_)
  · simp only [Bool.not_eq_true', Bool.not_eq_false', Bool.and_eq_true, Bool.or_eq_true, Bool.and_eq_false_iff, Bool.or_eq_false_iff, decide_eq_true_eq, decide_eq_false_iff_not, Bool.not_eq_true, Decidable.not_not] at h13
    have hcb := UInt8.toNat_lt (s.getD i 0)
    refine wskip ?_
    refine tn ?_
    refine wseq ?_
    refine wblk ?_
    refine reg_list ?_
    refine segp (ρ' := [(0, .string (S s)), (2, .pointer (some ⟨bz, 0, none⟩)), (3, .pointer (some ⟨bx, 0, none⟩)), (4, .int .i64 ((i : Nat) : Int)), (19, .int .u8 (((s.getD i 0).toNat : Nat) : Int)), (20, .pointer (some ⟨bx, i, none⟩))]) (C := [0 ≤ ((i : Nat) : Int) ∧ ((i : Nat) : Int) < (s.length : Int), RunOk Tryd.prog w5 (Instr.indexAt 24 (.pointer (some ⟨bx, 0, none⟩)) (.int .i64 ((i : Nat) : Int))) (.pointer (some ⟨bx, i, none⟩))]) ha 5 [(4, .val (.pointer (some ⟨bx, i, none⟩)))] rfl (by kernel_rfl) (.cons ⟨by omega, by omega⟩ (.cons (ixA (n := 32) (i := i) (by kernel_rfl) (by omega)) .nil)) ?_
    clear ha a; intro a ha
    refine lstoreL (off := i) (vs := [.int .u8 (((s.getD i 0).toNat : Nat) : Int)]) (cs' := idc ((idTo s i).set i ((s.getD i 0).toNat))) ha rfl rfl (by kernel_rfl) rfl rfl hB_bx (by kernel_rfl) (by kernel_rfl) (by kernel_rfl) (by rw [idc_len _]; show i + 1 ≤ 32; omega) (by rw [put_one (by rw [idc_len _]; omega)]; exact idc_set _ _ _ (by omega)) ?_
    clear ha a; intro w6 hc a ha
    replace hB_bz := hc.keep hB_bz (by first | assumption | exact Ne.symm (by assumption))
    replace hx := hc.ext hx hb_bx
    replace hB_bx := hc.at_; clear hc
    refine lnil ?_
    replace ha := ha.sub (ρ' := [(0, .string (S s)), (2, .pointer (some ⟨bz, 0, none⟩)), (3, .pointer (some ⟨bx, 0, none⟩)), (4, .int .i64 ((i : Nat) : Int))]) (by kernel_rfl)
    refine bn ?_
    refine tn ?_
    refine regp (ρ' := [(0, .string (S s)), (2, .pointer (some ⟨bz, 0, none⟩)), (3, .pointer (some ⟨bx, 0, none⟩)), (4, .int .i64 ((i + 1 : Nat) : Int))]) (C := [InR .i64 ((i + 1 : Nat) : Int)]) ha [] (by kernel_rfl) (.cons (by unfold InR; omega) .nil) ?_
    clear ha a; intro a ha
    exact tn ⟨32 - ((i + 1)), by omega, (i + 1), rfl, ha.sub (ρ' := [(0, .string (S s)), (2, .pointer (some ⟨bz, 0, none⟩)), (3, .pointer (some ⟨bx, 0, none⟩)), (4, .int .i64 (((i + 1) : Nat) : Int))]) (by kernel_rfl), hx, hB_bz, hB_bx, by omega, by omega⟩
  · simp only [Bool.not_eq_true', Bool.not_eq_false', Bool.and_eq_true, Bool.or_eq_true, Bool.and_eq_false_iff, Bool.or_eq_false_iff, decide_eq_true_eq, decide_eq_false_iff_not, Bool.not_eq_true, Decidable.not_not] at h13
    have hie : i = min 32 s.length := by omega
    refine wexit ?_
    refine (te (te (be ?_)))
    refine tn ?_
    refine wseq ?_
    refine reg_list ?_
    refine segp (ρ' := [(2, .pointer (some ⟨bz, 0, none⟩)), (21, .agg ⟨idc (idTo s i)⟩)]) (C := [RunOk Tryd.prog w5 (Instr.loadAt 24 (.pointer (some ⟨bx, 0, none⟩))) (.agg ⟨idc (idTo s i)⟩)]) ha 1 [(0, .val (.agg ⟨idc (idTo s i)⟩))] rfl (by kernel_rfl) (.cons (ldN (n := 32) hB_bx (by kernel_rfl) (by kernel_rfl) ⟨Nat.le_of_ble_eq_true (by kernel_rfl), (by kernel_rfl)⟩) .nil) ?_
    clear ha a; intro a ha
    refine lstore (off := 0) ha rfl rfl (by kernel_rfl) hB_bz ⟨idc (idTo s i)⟩ rfl (by kernel_rfl) (by kernel_rfl) ?_
    clear ha a; intro w7 hc a ha
    replace hB_bx := hc.keep hB_bx (by first | assumption | exact Ne.symm (by assumption))
    replace hx := hc.ext hx hb_bz
    replace hB_bz := hc.at_; clear hc
    refine lnil ?_
    replace ha := ha.sub (ρ' := [(2, .pointer (some ⟨bz, 0, none⟩))]) (by kernel_rfl)
    refine tn ?_
    refine wret ?_
    refine fin ha (.cell rfl (ldVN (n := 32) (vs := ⟨idc (idTo s i)⟩) hB_bz (by kernel_rfl) (by kernel_rfl) ⟨Nat.le_of_ble_eq_true (by kernel_rfl), (by kernel_rfl)⟩) .nil) ?_
    exact ⟨by rw [idOf, ← hie]; rfl, hx⟩
theorem behind_ok (s : List UInt8) (n : Nat) (w : World) :
    Fn Tryd.prog 87 #[.string (S s), .int .i64 ((n : Nat) : Int)] w (fun x w' => x = .string (S (s.drop n)) ∧ Ext w w') := by
  have hx : Ext w w := Ext.rfl' w
  refine enter (N := 12) (args := [.string (S s), .int .i64 ((n : Nat) : Int)]) Tryd.func87 rfl rfl rfl ?_
  intro a ha
  simp only [argEnv, Nat.zero_add, Nat.reduceAdd] at ha
  refine wseq ?_
  refine regp (ρ' := [(0, .string (S s)), (1, .int .i64 ((n : Nat) : Int))]) (C := []) ha [] (by kernel_rfl) .nil ?_
  clear ha a; intro a ha
  refine tn ?_
  refine wseq ?_
  refine wseq ?_
  refine regp (ρ' := [(0, .string (S s)), (1, .int .i64 ((n : Nat) : Int)), (8, .bool (decide (((s.length : Nat) : Int) ≤ ((n : Nat) : Int))))]) (C := []) ha [] (by kernel_rfl) .nil ?_
  clear ha a; intro a ha
  refine tn ?_
  refine wif ha rfl (fun h8 => ?_) (fun h8 => ?_)
  · replace h8 := of_decide_eq_true h8
    refine wseq ?_
    refine regp (ρ' := [(4, .string (S []))]) (C := []) ha [] (by kernel_rfl) .nil ?_
    clear ha a; intro a ha
    refine tn ?_
    refine wret ?_
    refine (tr ?_)
    refine fin ha (.tmp rfl .nil) ?_
    exact ⟨by first | rfl | (rw [List.drop_eq_nil_of_le (by omega)]; rfl), hx⟩
  · replace h8 := of_decide_eq_false h8
    refine wskip ?_
    refine tn ?_
    refine wseq ?_
    refine regp (ρ' := [(4, .string (S (s.drop n)))]) (C := [0 ≤ ((n : Nat) : Int) ∧ ((n : Nat) : Int) ≤ (s.length : Int)]) ha [] (by kernel_rfl) (.cons ⟨by omega, by omega⟩ .nil) ?_
    clear ha a; intro a ha
    refine tn ?_
    refine wret ?_
    refine fin ha (.tmp rfl .nil) ?_
    exact ⟨by first | rfl | (rw [List.drop_eq_nil_of_le (by omega)]; rfl), hx⟩
theorem oid_ok (s : List UInt8) (w : World) (hs : s.length ≤ 1000000) {T0 : Nat} {f0 : Nat × Nat} (hB_0 : w.heap[0]? = some (.cells ⟨wc shaK⟩ T0 f0)) :
    Fn Tryd.prog 35 #[.string (S s)] w (fun x w' => x = .agg ⟨idc (shaSum s)⟩ ∧ Ext w w') := by
  have hG_0 := hB_0
  have hx : Ext w w := Ext.rfl' w
  refine enter (N := 6) (args := [.string (S s)]) Tryd.func35 rfl rfl rfl ?_
  intro a ha
  simp only [argEnv, Nat.zero_add, Nat.reduceAdd] at ha
  refine wseq ?_
  refine reg_list ?_
  refine lnew ha rfl (by kernel_rfl) ⟨idc idZ⟩ 24 (by kernel_rfl) ?_
  clear ha a; intro b1 w2 he hb_b1 hB_b1 a ha
  have hne_0_b1 : 0 ≠ b1 := ne_new hB_0 hb_b1
  replace hB_0 := keepB he hB_0
  replace hb_b1 := Nat.le_trans hx.size hb_b1
  replace hx := hx.tr he
  clear he
  refine lnil ?_
  replace ha := ha.sub (ρ' := [(0, .string (S s)), (2, .pointer (some ⟨b1, 0, none⟩))]) (by kernel_rfl)
  refine tn ?_
  refine wseq ?_
  refine reg_list ?_
  refine segp (ρ' := [(2, .pointer (some ⟨b1, 0, none⟩)), (3, .string (S s))]) (C := []) ha 1 [] rfl (by kernel_rfl) .nil ?_
  clear ha a; intro a ha
  refine lnewS ha rfl (by kernel_rfl) #[.string (S s)] 9 1 (by kernel_rfl) ?_
  clear ha a; intro b3 w4 he hb_b3 hB_b3 a ha
  have hne_0_b3 : 0 ≠ b3 := ne_new hB_0 hb_b3
  have hne_b1_b3 : b1 ≠ b3 := ne_new hB_b1 hb_b3
  replace hB_0 := keepB he hB_0
  replace hB_b1 := keepB he hB_b1
  replace hb_b3 := Nat.le_trans hx.size hb_b3
  replace hx := hx.tr he
  clear he
  refine seg (ρ' := [(2, .pointer (some ⟨b1, 0, none⟩)), (5, .agg ⟨idc (shaSum s)⟩)]) (C := [CallOk Tryd.prog w4 10 #[.slice (some ⟨b3, 0, none⟩) 1 1] (.agg ⟨idc (shaSum s)⟩)]) ha 1 [(0, .val (.agg ⟨idc (shaSum s)⟩))] (by kernel_rfl) (.cons (fun w2 h2 => sum1_ok s _ w2 (by first | omega | (simp; done)) (keepB h2 hB_b3) (keepB h2 hB_0)) .nil) ?_
  clear ha a; intro a w5 ha he
  replace hx := hx.tr he
  replace hB_0 := keepB he hB_0
  replace hB_b1 := keepB he hB_b1
  replace hB_b3 := keepB he hB_b3
  clear he
  refine lstore (off := 0) ha rfl rfl (by kernel_rfl) hB_b1 ⟨idc (shaSum s)⟩ rfl (by kernel_rfl) (by kernel_rfl) ?_
  clear ha a; intro w6 hc a ha
  replace hB_0 := hc.keep hB_0 (by first | assumption | exact Ne.symm (by assumption))
  replace hB_b3 := hc.keep hB_b3 (by first | assumption | exact Ne.symm (by assumption))
  replace hx := hc.ext hx hb_b1
  replace hB_b1 := hc.at_; clear hc
  refine lnil ?_
  replace ha := ha.sub (ρ' := [(2, .pointer (some ⟨b1, 0, none⟩))]) (by kernel_rfl)
  refine tn ?_
  refine wret ?_
  refine fin ha (.cell rfl (ldVN (n := 32) (vs := ⟨idc (shaSum s)⟩) hB_b1 (by kernel_rfl) (by kernel_rfl) ⟨Nat.le_of_ble_eq_true (by kernel_rfl), (by kernel_rfl)⟩) .nil) ?_
  exact ⟨rfl, hx⟩
end Go.Kn
end
