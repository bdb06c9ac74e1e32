import Derived.Test.YtihmegmambmljaaDoorPlainD
import Derived.Test.YtihmegmambmljaaDoorWc
set_option linter.unusedSimpArgs false
set_option linter.unusedVariables false
set_option maxRecDepth 100000
namespace Go.Kn
open Go.Proofs
theorem rput_ok (n : Nat) (w : World) (hn : n < 18446744073709551616) :
    Fn Tryd.prog 108 #[.int .u64 ((n : Nat) : Int)] w (fun x w' => x = .string (S (vput n)) ∧ Ext w w') := by
  have hx : Ext w w := Ext.rfl' w
  refine enter (N := 22) (args := [.int .u64 ((n : Nat) : Int)]) Tryd.func108 rfl rfl rfl ?_
  intro a ha
  simp only [argEnv, Nat.zero_add, Nat.reduceAdd] at ha
  refine wseq ?_
  refine regp (ρ' := [(0, .int .u64 ((n : Nat) : Int))]) (C := []) ha [] (by kernel_rfl) .nil ?_
  clear ha a; intro a ha
  refine tn ?_
  refine wseq ?_
  refine regp (ρ' := [(0, .int .u64 ((n : Nat) : Int)), (3, .string (S []))]) (C := []) ha [] (by kernel_rfl) .nil ?_
  clear ha a; intro a ha
  refine tn ?_
  refine wseq ?_
  refine wblk ?_
  refine wloop (fun zz a w1 => ∃ (f m : Nat) (out : List UInt8), zz = f ∧ On 22 [(0, .int .u64 ((m : Nat) : Int)), (3, .string (S out))] a ∧ Ext w w1 ∧ (m < 2 ^ (1 + 7 * f)) ∧ (vput n = out ++ vputf f m) ∧ (out.length + f ≤ 9)) _ ⟨9, n, ([] : List UInt8), rfl, ha.sub (ρ' := [(0, .int .u64 ((n : Nat) : Int)), (3, .string (S ([] : List UInt8)))]) (by kernel_rfl), hx, by omega, rfl, by simp⟩ ?_
  clear ha hx
  rintro zz a w2 ⟨f, m, out, hzz, ha, hx, hf, hv, ho10⟩
  refine wseq ?_
  refine wseq ?_
  refine regp (ρ' := [(0, .int .u64 ((m : Nat) : Int)), (3, .string (S out)), (5, .bool (decide ((128 : Int) ≤ ((m : Nat) : Int))))]) (C := []) ha [] (by kernel_rfl) .nil ?_
  clear ha a; intro a ha
  refine tn ?_
  refine wif ha rfl (fun h5 => ?_) (fun h5 => ?_)
  · replace h5 := of_decide_eq_true h5
    have hf0 : 0 < f := Nat.pos_of_ne_zero (fun h => by subst h; simp at hf; omega)
    obtain ⟨f, rfl⟩ : ∃ f', f = f' + 1 := ⟨f - 1, by omega⟩
    have hm64 : m < 18446744073709551616 := Nat.lt_of_lt_of_le hf (Nat.pow_le_pow_right (n := 2) (by omega) (by omega : 1 + 7 * (f + 1) ≤ 64))
    refine wskip ?_
    refine tn ?_
    refine wblk ?_
    refine wseq ?_
    refine reg_list ?_
    refine segp (ρ' := [(0, .int .u64 ((m : Nat) : Int)), (6, .string (S out)), (10, .int .u8 ((128 + (m % 128) : Nat) : Int))]) (C := [0 ≤ ((m : Nat) : Int), 0 < (128 : Int), InR .u64 ((128 + (m % 128) : Nat) : Int), InR .u8 ((128 + (m % 128) : Nat) : Int)]) ha 5 [] rfl (by kernel_rfl) (.cons (by omega) (.cons (by omega) (.cons (by unfold InR; omega) (.cons (by unfold InR; omega) .nil)))) ?_
    clear ha a; intro a ha
    refine lnewS ha rfl (by kernel_rfl) #[.int .u8 ((128 + (m % 128) : Nat) : Int)] 5 1 (by kernel_rfl) ?_
    clear ha a; intro b3 w4 he hb_b3 hB_b3 a ha
    replace hb_b3 := Nat.le_trans hx.size hb_b3
    replace hx := hx.tr he
    clear he
    refine segp (ρ' := [(0, .int .u64 ((m : Nat) : Int)), (3, .string (S (out ++ [UInt8.ofNat (128 + (m % 128))])))]) (C := [RunOk Tryd.prog w4 (convert 63 9 (.slice (some ⟨b3, 0, none⟩) 1 1)) (.string (S [UInt8.ofNat (128 + (m % 128))])), (out : List UInt8).length + ([UInt8.ofNat (128 + (m % 128))] : List UInt8).length ≤ 9223372036854775807]) ha 3 [(0, .val (.string (S [UInt8.ofNat (128 + (m % 128))])))] rfl (by kernel_rfl) (.cons (cvBlk (e := 5) (zs := [((128 + (m % 128) : Nat) : Int)]) (by kernel_rfl) (by kernel_rfl) (by kernel_rfl) hB_b3 rfl rfl) (.cons (by first | omega | (simp only [List.length_cons, List.length_nil, List.length_append, List.length_take, List.length_drop]; omega)) .nil)) ?_
    clear ha a; intro a ha
    refine lnil ?_
    replace ha := ha.sub (ρ' := [(0, .int .u64 ((m : Nat) : Int)), (3, .string (S (out ++ [UInt8.ofNat (128 + (m % 128))])))]) (by kernel_rfl)
    refine tn ?_
    refine regp (ρ' := [(0, .int .u64 ((m / 128 : Nat) : Int)), (3, .string (S (out ++ [UInt8.ofNat (128 + (m % 128))])))]) (C := [0 ≤ ((m : Nat) : Int), 0 < (128 : Int), InR .u64 ((m / 128 : Nat) : Int)]) ha [] (by kernel_rfl) (.cons (by omega) (.cons (by omega) (.cons (by unfold InR; omega) .nil))) ?_
    clear ha a; intro a ha
    refine bn ?_
    exact tn ⟨f, by omega, f, (m / 128), (out ++ [UInt8.ofNat (128 + m % 128)]), rfl, ha.sub (ρ' := [(0, .int .u64 (((m / 128) : Nat) : Int)), (3, .string (S (out ++ [UInt8.ofNat (128 + m % 128)])))]) (by kernel_rfl), hx, vdiv_lt hf, by rw [hv, vputf, if_neg (by omega), List.append_assoc]; rfl, by simp; omega⟩
  · replace h5 := of_decide_eq_false h5
    have hlast : vputf f m = [UInt8.ofNat m] := by cases f with | zero => rfl | succ f => rw [vputf, if_pos (by omega)]
    rw [hlast] at hv
    refine wexit ?_
    refine (te (te (be ?_)))
    refine tn ?_
    refine wseq ?_
    refine reg_list ?_
    refine segp (ρ' := [(16, .string (S out)), (18, .int .u8 ((m : Nat) : Int))]) (C := [InR .u8 ((m : Nat) : Int)]) ha 3 [] rfl (by kernel_rfl) (.cons (by unfold InR; omega) .nil) ?_
    clear ha a; intro a ha
    refine lnewS ha rfl (by kernel_rfl) #[.int .u8 ((m : Nat) : Int)] 5 1 (by kernel_rfl) ?_
    clear ha a; intro b5 w6 he hb_b5 hB_b5 a ha
    replace hb_b5 := Nat.le_trans hx.size hb_b5
    replace hx := hx.tr he
    clear he
    refine segp (ρ' := [(2, .string (S (out ++ [UInt8.ofNat m])))]) (C := [RunOk Tryd.prog w6 (convert 63 9 (.slice (some ⟨b5, 0, none⟩) 1 1)) (.string (S [UInt8.ofNat m])), (out : List UInt8).length + ([UInt8.ofNat m] : List UInt8).length ≤ 9223372036854775807]) ha 3 [(0, .val (.string (S [UInt8.ofNat m])))] rfl (by kernel_rfl) (.cons (cvBlk (e := 5) (zs := [((m : Nat) : Int)]) (by kernel_rfl) (by kernel_rfl) (by kernel_rfl) hB_b5 rfl rfl) (.cons (by first | omega | (simp only [List.length_cons, List.length_nil, List.length_append, List.length_take, List.length_drop]; omega)) .nil)) ?_
    clear ha a; intro a ha
    refine lnil ?_
    replace ha := ha.sub (ρ' := [(2, .string (S (out ++ [UInt8.ofNat m])))]) (by kernel_rfl)
    refine tn ?_
    refine wret ?_
    refine fin ha (.tmp rfl .nil) ?_
    exact ⟨by rw [hv]; rfl, hx⟩
theorem put_ok (n : Nat) (w : World) (hn : n < 18446744073709551616) :
    Fn Tryd.prog 104 #[.int .u64 ((n : Nat) : Int)] w (fun x w' => x = .string (S (vput n)) ∧ Ext w w') := by
  have hx : Ext w w := Ext.rfl' w
  refine enter (N := 20) (args := [.int .u64 ((n : Nat) : Int)]) Tryd.func104 rfl rfl rfl ?_
  intro a ha
  simp only [argEnv, Nat.zero_add, Nat.reduceAdd] at ha
  refine wseq ?_
  refine regp (ρ' := [(0, .int .u64 ((n : Nat) : Int))]) (C := []) ha [] (by kernel_rfl) .nil ?_
  clear ha a; intro a ha
  refine tn ?_
  refine wseq ?_
  refine regp (ρ' := [(0, .int .u64 ((n : Nat) : Int)), (3, .slice none 0 0)]) (C := []) ha [] (by kernel_rfl) .nil ?_
  clear ha a; intro a ha
  refine tn ?_
  refine wseq ?_
  refine wblk ?_
  refine wloop (fun zz a w1 => ∃ (f m : Nat) (out : List UInt8) (A : Option Addr) (c : Nat), zz = f ∧ On 20 [(0, .int .u64 ((m : Nat) : Int)), (3, .slice A out.length c)] a ∧ Ext w w1 ∧ Own w1 w.heap.size 5 1 A out.length c (bys out) ∧ (m < 2 ^ (1 + 7 * f)) ∧ (vput n = out ++ vputf f m) ∧ (out.length + f ≤ 9)) _ ⟨9, n, ([] : List UInt8), none, 0, rfl, ha.sub (ρ' := [(0, .int .u64 ((n : Nat) : Int)), (3, .slice none (([] : List UInt8).length) 0)]) (by kernel_rfl), hx, own_nil _ _ _ _, by omega, rfl, by simp⟩ ?_
  clear ha hx
  rintro zz a w2 ⟨f, m, out, A, c, hzz, ha, hx, ho, hf, hv, ho10⟩
  refine wseq ?_
  refine wseq ?_
  refine regp (ρ' := [(0, .int .u64 ((m : Nat) : Int)), (3, .slice A out.length c), (5, .bool (decide ((128 : Int) ≤ ((m : Nat) : Int))))]) (C := []) ha [] (by kernel_rfl) .nil ?_
  clear ha a; intro a ha
  refine tn ?_
  refine wif ha rfl (fun h5 => ?_) (fun h5 => ?_)
  · replace h5 := of_decide_eq_true h5
    have hf0 : 0 < f := Nat.pos_of_ne_zero (fun h => by subst h; simp at hf; omega)
    obtain ⟨f, rfl⟩ : ∃ f', f = f' + 1 := ⟨f - 1, by omega⟩
    have hm64 : m < 18446744073709551616 := Nat.lt_of_lt_of_le hf (Nat.pow_le_pow_right (n := 2) (by omega) (by omega : 1 + 7 * (f + 1) ≤ 64))
    refine wskip ?_
    refine tn ?_
    refine wblk ?_
    refine wseq ?_
    refine reg_list ?_
    refine segp (ρ' := [(0, .int .u64 ((m : Nat) : Int)), (6, .slice A out.length c), (9, .int .u8 (((m % 256) ||| 128 : Nat) : Int))]) (C := [NN .u8 ((m % 256 : Nat) : Int), NN .u8 128]) ha 4 [(2, .mod)] rfl (by kernel_rfl) (.cons (by unfold NN InR; omega) (.cons (by unfold NN InR; omega) .nil)) ?_
    clear ha a; intro a ha
    refine lnewS ha rfl (by kernel_rfl) #[.int .u8 (((m % 256) ||| 128 : Nat) : Int)] 5 1 (by kernel_rfl) ?_
    clear ha a; intro b3 w4 he hb_b3 hB_b3 a ha
    have hno_ho_b3 : (Value.slice A out.length c).ownBlock ≠ some b3 := own_ne ho hb_b3
    replace ho := ownE he ho
    replace hb_b3 := Nat.le_trans hx.size hb_b3
    replace hx := hx.tr he
    clear he
    refine lapp (by_ := 1) ha rfl (by kernel_rfl) rfl (by kernel_rfl) rfl ho rfl [.int .u8 (((m % 256) ||| 128 : Nat) : Int)] rfl (news_blk hB_b3) rfl (by omega) (by omega) hx.size ?_
    clear ha a; intro A5 c6 w7 ho2 hg a ha
    clear hB_b3 hb_b3
    replace hx := extG hx hg ho (Nat.le_refl _)
    clear hg ho
    refine segp (ρ' := [(0, .int .u64 ((m : Nat) : Int)), (3, .slice A5 (out.length + 1) c6)]) (C := []) ha 1 [] rfl (by kernel_rfl) .nil ?_
    clear ha a; intro a ha
    refine lnil ?_
    replace ha := ha.sub (ρ' := [(0, .int .u64 ((m : Nat) : Int)), (3, .slice A5 (out.length + 1) c6)]) (by kernel_rfl)
    rw [show ((bys out ++ [.int .u8 (((m % 256) ||| 128 : Nat) : Int)]) : List Value) = bys (out ++ [UInt8.ofNat (128 + m % 128)]) from by rw [or128]; exact bys_pushN _ _ (by omega)] at ho2
    rw [show ((out.length + 1) : Nat) = (out ++ [UInt8.ofNat (128 + m % 128)]).length from by simp] at ha ho2
    refine tn ?_
    refine regp (ρ' := [(0, .int .u64 ((m / 128 : Nat) : Int)), (3, .slice A5 ((out ++ [UInt8.ofNat (128 + m % 128)]).length) c6)]) (C := [0 ≤ (7 : Int)]) ha [] (by kernel_rfl) (.cons (by omega) .nil) ?_
    clear ha a; intro a ha
    refine bn ?_
    exact tn ⟨f, by omega, f, (m / 128), (out ++ [UInt8.ofNat (128 + m % 128)]), A5, c6, rfl, ha.sub (ρ' := [(0, .int .u64 (((m / 128) : Nat) : Int)), (3, .slice A5 ((out ++ [UInt8.ofNat (128 + m % 128)]).length) c6)]) (by kernel_rfl), hx, ho2, vdiv_lt hf, by rw [hv, vputf, if_neg (by omega), List.append_assoc]; rfl, by simp; omega⟩
  · replace h5 := of_decide_eq_false h5
    have hlast : vputf f m = [UInt8.ofNat m] := by cases f with | zero => rfl | succ f => rw [vputf, if_pos (by omega)]
    rw [hlast] at hv
    refine wexit ?_
    refine (te (te (be ?_)))
    refine tn ?_
    refine wseq ?_
    refine reg_list ?_
    refine segp (ρ' := [(14, .slice A out.length c), (16, .int .u8 ((m % 256 : Nat) : Int))]) (C := []) ha 3 [(2, .mod)] rfl (by kernel_rfl) .nil ?_
    clear ha a; intro a ha
    refine lnewS ha rfl (by kernel_rfl) #[.int .u8 ((m % 256 : Nat) : Int)] 5 1 (by kernel_rfl) ?_
    clear ha a; intro b8 w9 he hb_b8 hB_b8 a ha
    have hno_ho_b8 : (Value.slice A out.length c).ownBlock ≠ some b8 := own_ne ho hb_b8
    replace ho := ownE he ho
    replace hb_b8 := Nat.le_trans hx.size hb_b8
    replace hx := hx.tr he
    clear he
    refine lapp (by_ := 1) ha rfl (by kernel_rfl) rfl (by kernel_rfl) rfl ho rfl [.int .u8 ((m % 256 : Nat) : Int)] rfl (news_blk hB_b8) rfl (by omega) (by omega) hx.size ?_
    clear ha a; intro A10 c11 w12 ho2 hg a ha
    clear hB_b8 hb_b8
    replace hx := extG hx hg ho (Nat.le_refl _)
    clear hg ho
    rw [show ((bys out ++ [.int .u8 ((m % 256 : Nat) : Int)]) : List Value) = bys (out ++ [UInt8.ofNat m]) from by rw [bys_pushN _ _ (by omega), ofNat_mod]] at ho2
    rw [show ((out.length + 1) : Nat) = (out ++ [UInt8.ofNat m]).length from by simp] at ha ho2
    refine segp (ρ' := [(2, .string (S (out ++ [UInt8.ofNat m])))]) (C := [RunOk Tryd.prog w12 (convert 63 9 (.slice A10 ((out ++ [UInt8.ofNat m]).length) c11)) (.string (S (out ++ [UInt8.ofNat m])))]) ha 2 [(0, .val (.string (S (out ++ [UInt8.ofNat m]))))] rfl (by kernel_rfl) (.cons (cvOwn (by kernel_rfl) (by kernel_rfl) (by kernel_rfl) ho2) .nil) ?_
    clear ha a; intro a ha
    refine lnil ?_
    replace ha := ha.sub (ρ' := [(2, .string (S (out ++ [UInt8.ofNat m])))]) (by kernel_rfl)
    refine tn ?_
    refine wret ?_
    refine fin ha (.tmp rfl .nil) ?_
    exact ⟨by rw [hv]; rfl, hx⟩
theorem put_okI (n : Int) (w : World) (h0 : 0 ≤ n) (hn : n < 18446744073709551616) : FnV Tryd.prog 104 (#[.int .u64 n]) w (.string (S (vput n.toNat))) := by
  have := put_ok n.toNat w (by omega)
  rwa [Int.toNat_of_nonneg h0] at this
theorem rput_okI (n : Int) (w : World) (h0 : 0 ≤ n) (hn : n < 18446744073709551616) : FnV Tryd.prog 108 (#[.int .u64 n]) w (.string (S (vput n.toNat))) := by
  have := rput_ok n.toNat w (by omega)
  rwa [Int.toNat_of_nonneg h0] at this
theorem text_ok (l : List UInt8) (w : World) (hl : l.length ≤ 140737488355328) :
    Fn Tryd.prog 75 #[.string (S l)] w (fun x w' => x = .string (S (vtext l)) ∧ Ext w w') := by
  have hx : Ext w w := Ext.rfl' w
  refine enter (N := 9) (args := [.string (S l)]) Tryd.func75 rfl rfl rfl ?_
  intro a ha
  simp only [argEnv, Nat.zero_add, Nat.reduceAdd] at ha
  refine wseq ?_
  refine regp (ρ' := [(0, .string (S l))]) (C := []) ha [] (by kernel_rfl) .nil ?_
  clear ha a; intro a ha
  refine tn ?_
  refine wseq ?_
  have hv := (vput_len l.length).1
  refine reg hmix (ρ' := [(2, .string (S ((vput l.length) ++ l)))]) (C := [InR .u64 ((l.length : Nat) : Int), CallOk Tryd.prog w 104 #[.int .u64 ((l.length : Nat) : Int)] (.string (S (vput l.length))), ((vput l.length) : List UInt8).length + (l : List UInt8).length ≤ 9223372036854775807]) ha [(3, .val (.string (S (vput l.length))))] (by kernel_rfl) (.cons (by unfold InR; omega) (.cons (fun w _ => put_ok _ w (by first | omega | (have := vget_lt; omega))) (.cons (by first | omega | (simp only [List.length_cons, List.length_nil, List.length_append, List.length_take, List.length_drop]; omega)) .nil))) ?_
  clear ha a; intro a w1 ha he
  replace hx := hx.tr he
  clear he
  refine tn ?_
  refine wret ?_
  refine fin ha (.tmp rfl .nil) ?_
  exact ⟨rfl, hx⟩
theorem rtext_ok (l : List UInt8) (w : World) (hl : l.length ≤ 140737488355328) :
    Fn Tryd.prog 92 #[.string (S l)] w (fun x w' => x = .string (S (vtext l)) ∧ Ext w w') := by
  have hx : Ext w w := Ext.rfl' w
  refine enter (N := 9) (args := [.string (S l)]) Tryd.func92 rfl rfl rfl ?_
  intro a ha
  simp only [argEnv, Nat.zero_add, Nat.reduceAdd] at ha
  refine wseq ?_
  refine regp (ρ' := [(0, .string (S l))]) (C := []) ha [] (by kernel_rfl) .nil ?_
  clear ha a; intro a ha
  refine tn ?_
  refine wseq ?_
  have hv := (vput_len l.length).1
  refine reg hmix (ρ' := [(2, .string (S ((vput l.length) ++ l)))]) (C := [InR .u64 ((l.length : Nat) : Int), CallOk Tryd.prog w 108 #[.int .u64 ((l.length : Nat) : Int)] (.string (S (vput l.length))), ((vput l.length) : List UInt8).length + (l : List UInt8).length ≤ 9223372036854775807]) ha [(3, .val (.string (S (vput l.length))))] (by kernel_rfl) (.cons (by unfold InR; omega) (.cons (fun w _ => rput_ok _ w (by first | omega | (have := vget_lt; omega))) (.cons (by first | omega | (simp only [List.length_cons, List.length_nil, List.length_append, List.length_take, List.length_drop]; omega)) .nil))) ?_
  clear ha a; intro a w1 ha he
  replace hx := hx.tr he
  clear he
  refine tn ?_
  refine wret ?_
  refine fin ha (.tmp rfl .nil) ?_
  exact ⟨rfl, hx⟩
end Go.Kn
