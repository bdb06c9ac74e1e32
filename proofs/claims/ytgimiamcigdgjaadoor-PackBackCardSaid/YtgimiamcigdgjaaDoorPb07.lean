import Derived.Test.YtgimiamcigdgjaaDoorPb06
import Derived.Test.YtgimiamcigdgjaaDoorPb02
import Derived.Lib.FrozenHead
import Derived.Shelf.Strings.BuilderK
section
set_option linter.unusedSimpArgs false
set_option linter.unusedVariables false
set_option maxRecDepth 100000
namespace Go.Kn
open Go.Proofs
theorem rtk_ok (s : List UInt8) (w : World) (hs : s.length ≤ 1000000000) :
    Fn Tryd.prog 62 #[.string (S s)] w (fun v w' => v = .tuple #[.string (S (vtake s).1), .int .i64 ((tk s : Nat) : Int)] ∧ Ext w w') := by
  have hx : Ext w w := Ext.rfl' w
  refine enter (N := 33) (args := [.string (S s)]) Tryd.func62 rfl rfl rfl ?_
  intro a ha
  simp only [argEnv, Nat.zero_add, Nat.reduceAdd] at ha
  refine wseq ?_
  refine regp (ρ' := [(0, .string (S s))]) (C := []) ha [] (by kernel_rfl) .nil ?_
  clear ha a; intro a ha
  refine tn ?_
  refine wseq ?_
  refine reg hmix (ρ' := [(0, .string (S s)), (4, .int .u64 (((vget s).1 : Nat) : Int)), (5, .int .i64 ((vk s : Nat) : Int))]) (C := [CallOk Tryd.prog w 41 #[.string (S s)] (.tuple #[.int .u64 (((vget s).1 : Nat) : Int), .int .i64 ((vk s : Nat) : Int)])]) ha [(1, .val (.tuple #[.int .u64 (((vget s).1 : Nat) : Int), .int .i64 ((vk s : Nat) : Int)]))] (by kernel_rfl) (.cons (fun w _ => rget_ok _ w (by first | omega | (simp only [List.length_take, List.length_drop, List.length_append]; omega))) .nil) ?_
  clear ha a; intro a w1 ha he
  replace hx := hx.tr he
  clear he
  have hvl := vk_le s
  have hgl := vget_lt s
  refine tn ?_
  refine wseq ?_
  refine wseq ?_
  refine regp (ρ' := [(0, .string (S s)), (4, .int .u64 (((vget s).1 : Nat) : Int)), (5, .int .i64 ((vk s : Nat) : Int)), (21, .bool ((decide (((vk s : Nat) : Int) = 0)) || (decide (((s.length - (vk s) : Nat) : Int) < (((vget s).1 : Nat) : Int)))))]) (C := [(decide (((vk s : Nat) : Int) = 0)) = false → All [BinOk Tryd.prog .sub 3 (.int .i64 ((s.length : Nat) : Int)) (.int .i64 ((vk s : Nat) : Int)) (.int .i64 ((s.length - (vk s) : Nat) : Int)), InR .u64 ((s.length - (vk s) : Nat) : Int)]]) ha [(7, .val (.int .i64 ((s.length - (vk s) : Nat) : Int)))] (by kernel_rfl) (.cons (fun hg3 => by replace hg3 := of_decide_eq_false hg3; exact (.cons (subN (a := s.length) (n := (vk s)) (by omega) (by unfold InR; omega)) (.cons (by unfold InR; omega) .nil))) .nil) ?_
  clear ha a; intro a ha
  refine tn ?_
  refine wif ha rfl (fun h21 => ?_) (fun h21 => ?_)
  · simp only [Bool.not_eq_true', Bool.not_eq_false', Bool.and_eq_true, Bool.or_eq_true, Bool.and_eq_false_iff, Bool.or_eq_false_iff, decide_eq_true_eq, decide_eq_false_iff_not, Bool.not_eq_true, Decidable.not_not] at h21
    obtain ⟨e1, e2⟩ := tk_bad (s := s) (by omega)
    refine wseq ?_
    refine regp (ρ' := [(2, .string (S [])), (3, .int .i64 0)]) (C := []) ha [] (by kernel_rfl) .nil ?_
    clear ha a; intro a ha
    refine tn ?_
    refine wret ?_
    refine (tr ?_)
    refine fin ha (.tmp rfl (.tmp rfl .nil)) ?_
    exact ⟨by rw [e1, e2]; first | rfl | (rw [show vk s + (vget s).1 - vk s = (vget s).1 by omega]; rfl), hx⟩
  · simp only [Bool.not_eq_true', Bool.not_eq_false', Bool.and_eq_true, Bool.or_eq_true, Bool.and_eq_false_iff, Bool.or_eq_false_iff, decide_eq_true_eq, decide_eq_false_iff_not, Bool.not_eq_true, Decidable.not_not] at h21
    obtain ⟨e1, e2⟩ := tk_good (s := s) (by omega)
    refine wskip ?_
    refine tn ?_
    refine wseq ?_
    refine regp (ρ' := [(2, .string (S ((s.drop (vk s)).take (((vk s) + ((vget s).1)) - (vk s))))), (3, .int .i64 (((vk s) + ((vget s).1) : Nat) : Int))]) (C := [InR .i64 (((vget s).1 : Nat) : Int), InR .i64 (((vk s) + ((vget s).1) : Nat) : Int), 0 ≤ ((vk s : Nat) : Int) ∧ ((vk s : Nat) : Int) ≤ (((vk s) + ((vget s).1) : Nat) : Int) ∧ (((vk s) + ((vget s).1) : Nat) : Int) ≤ (s.length : Int), InR .i64 (((vget s).1 : Nat) : Int), InR .i64 (((vk s) + ((vget s).1) : Nat) : Int)]) ha [] (by kernel_rfl) (.cons (by unfold InR; omega) (.cons (by unfold InR; omega) (.cons ⟨by omega, by omega, by omega⟩ (.cons (by unfold InR; omega) (.cons (by unfold InR; omega) .nil))))) ?_
    clear ha a; intro a ha
    refine tn ?_
    refine wret ?_
    refine fin ha (.tmp rfl (.tmp rfl .nil)) ?_
    exact ⟨by rw [e1, e2]; first | rfl | (rw [show vk s + (vget s).1 - vk s = (vget s).1 by omega]; rfl), hx⟩
theorem sealed_ok (s : List UInt8) (w : World) (hs : s.length ≤ 1000000) :
    Fn Tryd.prog 39 #[.string (S s)] w (fun v w' => v = .string (S (psealed s)) ∧ Ext w w') := by
  have hsh := (shaSum s).h
  have hx : Ext w w := Ext.rfl' w
  refine enter (N := 10) (args := [.string (S s)]) Tryd.func39 rfl rfl rfl ?_
  intro a ha
  simp only [argEnv, Nat.zero_add, Nat.reduceAdd] at ha
  refine wseq ?_
  refine regp (ρ' := [(0, .string (S s))]) (C := []) ha [] (by kernel_rfl) .nil ?_
  clear ha a; intro a ha
  refine tn ?_
  refine wseq ?_
  refine reg_list ?_
  refine seg (ρ' := [(0, .string (S s)), (5, .agg ⟨idc (shaSum s)⟩)]) (C := [CallOk Tryd.prog w 25 #[.string (S s)] (.agg ⟨idc (shaSum s)⟩)]) ha 2 [(1, .val (.agg ⟨idc (shaSum s)⟩))] (by kernel_rfl) (.cons (fun w _ => rsum_ok _ w (by first | omega | (simp only [List.length_take, List.length_drop, List.length_append]; omega))) .nil) ?_
  clear ha a; intro a w1 ha he
  replace hx := hx.tr he
  clear he
  refine lnew ha rfl (by kernel_rfl) ⟨idc idZ⟩ 48 (by kernel_rfl) ?_
  clear ha a; intro bs w2 he hb_bs hB_bs a ha
  replace hb_bs := Nat.le_trans hx.size hb_bs
  replace hx := hx.tr he
  clear he
  refine lstore (off := 0) ha rfl rfl (by kernel_rfl) hB_bs ⟨idc (shaSum s)⟩ rfl (by kernel_rfl) (by kernel_rfl) ?_
  clear ha a; intro w3 hc a ha
  replace hx := hc.ext hx hb_bs
  replace hB_bs := hc.at_; clear hc
  refine lnil ?_
  replace ha := ha.sub (ρ' := [(0, .string (S s)), (3, .pointer (some ⟨bs, 0, none⟩))]) (by kernel_rfl)
  refine tn ?_
  refine wseq ?_
  refine regp (ρ' := [(2, .string (S (s ++ ((shaSum s).l))))]) (C := [RunOk Tryd.prog w3 (convert 50 9 (.slice (some ⟨bs, 0, none⟩) 32 32)) (.string (S ((shaSum s).l))), (s : List UInt8).length + ((shaSum s).l : List UInt8).length ≤ 9223372036854775807]) ha [(1, .raw), (2, .val (.string (S ((shaSum s).l))))] (by kernel_rfl) (.cons (cvId (e := 5) (x := (shaSum s)) (by kernel_rfl) (by kernel_rfl) (by kernel_rfl) hB_bs (by kernel_rfl)) (.cons (by first | omega | (simp only [List.length_cons, List.length_nil, List.length_append, List.length_take, List.length_drop]; omega)) .nil)) ?_
  clear ha a; intro a ha
  refine tn ?_
  refine wret ?_
  refine fin ha (.tmp rfl .nil) ?_
  exact ⟨rfl, hx⟩
theorem rone_ok (t : List UInt8) (p h : Nat) (w : World) (ht : t.length ≤ 1000000) (hp : p ≤ 1000000) (hh : h ≤ 1000000) :
    Fn Tryd.prog 42 #[.string (S t), .int .i64 ((p : Nat) : Int), .int .i64 ((h : Nat) : Int)] w (fun v w' => v = .tuple #[.agg ⟨encRItem (rone t p h).1⟩, .int .i64 (rone t p h).2] ∧ Ext w w') := by
  have hx : Ext w w := Ext.rfl' w
  refine enter (N := 115) (args := [.string (S t), .int .i64 ((p : Nat) : Int), .int .i64 ((h : Nat) : Int)]) Tryd.func42 rfl rfl rfl ?_
  intro a ha
  simp only [argEnv, Nat.zero_add, Nat.reduceAdd] at ha
  refine wseq ?_
  refine reg_list ?_
  refine lnew ha rfl (by kernel_rfl) ⟨.int .i64 0 :: (.int .i64 0 :: ((idc idZ) ++ (.string (S []) :: (.int .i64 0 :: ([.int .i64 0])))))⟩ 57 (by kernel_rfl) ?_
  clear ha a; intro bo w1 he hb_bo hB_bo a ha
  replace hb_bo := Nat.le_trans hx.size hb_bo
  replace hx := hx.tr he
  clear he
  refine segp (ρ' := [(0, .string (S t)), (1, .int .i64 ((p : Nat) : Int)), (2, .int .i64 ((h : Nat) : Int)), (6, .pointer (some ⟨bo, 0, none⟩))]) (C := []) ha 1 [] rfl (by kernel_rfl) .nil ?_
  clear ha a; intro a ha
  refine lnil ?_
  replace ha := ha.sub (ρ' := [(0, .string (S t)), (1, .int .i64 ((p : Nat) : Int)), (2, .int .i64 ((h : Nat) : Int)), (6, .pointer (some ⟨bo, 0, none⟩))]) (by kernel_rfl)
  refine tn ?_
  refine wseq ?_
  refine wseq ?_
  refine regp (ρ' := [(0, .string (S t)), (1, .int .i64 ((p : Nat) : Int)), (2, .int .i64 ((h : Nat) : Int)), (6, .pointer (some ⟨bo, 0, none⟩)), (20, .bool (decide (((t.length : Nat) : Int) ≤ ((p : Nat) : Int))))]) (C := []) ha [] (by kernel_rfl) .nil ?_
  clear ha a; intro a ha
  refine tn ?_
  refine wif ha rfl (fun h20 => ?_) (fun h20 => ?_)
  · replace h20 := of_decide_eq_true h20
    have hres : rone t p h = (rZ, 2) := rone_bad (by rw [List.drop_of_length_le (by omega)]; rfl) (by decide)
    refine wseq ?_
    refine reg_list ?_
    refine segp (ρ' := [(6, .pointer (some ⟨bo, 0, none⟩)), (21, .agg ⟨.int .i64 0 :: (.int .i64 0 :: ((idc idZ) ++ (.string (S []) :: (.int .i64 0 :: ([.int .i64 0])))))⟩)]) (C := []) ha 1 [] rfl (by kernel_rfl) .nil ?_
    clear ha a; intro a ha
    refine lstore (off := 0) ha rfl rfl (by kernel_rfl) hB_bo ⟨.int .i64 0 :: (.int .i64 0 :: ((idc idZ) ++ (.string (S []) :: (.int .i64 0 :: ([.int .i64 0])))))⟩ rfl (by kernel_rfl) (by kernel_rfl) ?_
    clear ha a; intro w2 hc a ha
    replace hx := hc.ext hx hb_bo
    replace hB_bo := hc.at_; clear hc
    refine segp (ρ' := [(6, .pointer (some ⟨bo, 0, none⟩)), (7, .int .i64 2)]) (C := []) ha 1 [] rfl (by kernel_rfl) .nil ?_
    clear ha a; intro a ha
    refine lnil ?_
    replace ha := ha.sub (ρ' := [(6, .pointer (some ⟨bo, 0, none⟩)), (7, .int .i64 2)]) (by kernel_rfl)
    refine tn ?_
    refine wret ?_
    refine (tr ?_)
    refine fin ha (.cell rfl (ldVN (n := 37) (vs := ⟨.int .i64 0 :: (.int .i64 0 :: ((idc idZ) ++ (.string (S []) :: (.int .i64 0 :: ([.int .i64 0])))))⟩) hB_bo (by kernel_rfl) (by kernel_rfl) ⟨Nat.le_of_ble_eq_true (by kernel_rfl), (by kernel_rfl)⟩) (.tmp rfl .nil)) ?_
    exact ⟨by rw [hres]; rfl, hx⟩
  · replace h20 := of_decide_eq_false h20
    have hne : ¬ t.drop p = [] := fun e => by have := congrArg List.length e; rw [List.length_drop] at this; simp at this; omega
    have hd1 : (t.drop p).drop 1 = t.drop (p + 1) := by rw [List.drop_drop]
    have hcb := getD_toNat_lt t p
    have hvl := vk_le (t.drop (p + 1))
    rw [List.length_drop] at hvl
    refine wskip ?_
    refine tn ?_
    refine wseq ?_
    refine reg_list ?_
    refine segp (ρ' := [(0, .string (S t)), (1, .int .i64 ((p : Nat) : Int)), (2, .int .i64 ((h : Nat) : Int)), (6, .pointer (some ⟨bo, 0, none⟩)), (27, .agg ⟨.int .i64 (((t.getD p 0).toNat : Nat) : Int) :: (.int .i64 0 :: ((idc idZ) ++ (.string (S []) :: (.int .i64 ((p : Nat) : Int) :: ([.int .i64 0])))))⟩)]) (C := [0 ≤ ((p : Nat) : Int) ∧ ((p : Nat) : Int) < (t.length : Int), InR .i64 (((t.getD p 0).toNat : Nat) : Int)]) ha 6 [] rfl (by kernel_rfl) (.cons ⟨by omega, by omega⟩ (.cons (by unfold InR; omega) .nil)) ?_
    clear ha a; intro a ha
    refine lnew ha rfl (by kernel_rfl) ⟨.int .i64 0 :: (.int .i64 0 :: ((idc idZ) ++ (.string (S []) :: (.int .i64 0 :: ([.int .i64 0])))))⟩ 57 (by kernel_rfl) ?_
    clear ha a; intro bx w3 he hb_bx hB_bx a ha
    have hne_bo_bx : bo ≠ bx := ne_new hB_bo hb_bx
    replace hB_bo := keepB he hB_bo
    replace hb_bx := Nat.le_trans hx.size hb_bx
    replace hx := hx.tr he
    clear he
    refine lstore (off := 0) ha rfl rfl (by kernel_rfl) hB_bx ⟨.int .i64 (((t.getD p 0).toNat : Nat) : Int) :: (.int .i64 0 :: ((idc idZ) ++ (.string (S []) :: (.int .i64 ((p : Nat) : Int) :: ([.int .i64 0])))))⟩ rfl (by kernel_rfl) (by kernel_rfl) ?_
    clear ha a; intro w4 hc a ha
    replace hB_bo := hc.keep hB_bo (by first | assumption | exact Ne.symm (by assumption))
    replace hx := hc.ext hx hb_bx
    replace hB_bx := hc.at_; clear hc
    refine lnil ?_
    replace ha := ha.sub (ρ' := [(0, .string (S t)), (1, .int .i64 ((p : Nat) : Int)), (2, .int .i64 ((h : Nat) : Int)), (6, .pointer (some ⟨bo, 0, none⟩)), (8, .pointer (some ⟨bx, 0, none⟩))]) (by kernel_rfl)
    refine tn ?_
    refine wseq ?_
    refine regp (ρ' := [(0, .string (S t)), (1, .int .i64 ((p : Nat) : Int)), (2, .int .i64 ((h : Nat) : Int)), (6, .pointer (some ⟨bo, 0, none⟩)), (8, .pointer (some ⟨bx, 0, none⟩)), (9, .int .i64 ((p + 1 : Nat) : Int))]) (C := [InR .i64 ((p + 1 : Nat) : Int)]) ha [] (by kernel_rfl) (.cons (by unfold InR; omega) .nil) ?_
    clear ha a; intro a ha
    refine tn ?_
    refine wcut (fun a w5 => ∃ (k2 : Nat), On 115 [(0, .string (S t)), (1, .int .i64 ((p : Nat) : Int)), (6, .pointer (some ⟨bo, 0, none⟩)), (8, .pointer (some ⟨bx, 0, none⟩)), (9, .int .i64 ((k2 : Nat) : Int))] a ∧ Ext w w5 ∧ w5.heap[bo]? = some (.cells ⟨.int .i64 0 :: (.int .i64 0 :: ((idc idZ) ++ (.string (S []) :: (.int .i64 0 :: ([.int .i64 0])))))⟩ 57 (0, 0)) ∧ w5.heap[bx]? = some (.cells ⟨.int .i64 ((pbase (t.getD p 0).toNat (t.drop (p + 1)) h).1.Kind) :: (.int .i64 ((pbase (t.getD p 0).toNat (t.drop (p + 1)) h).1.Back) :: ((idc ((pbase (t.getD p 0).toNat (t.drop (p + 1)) h).1.Base)) ++ (.string (S ((pbase (t.getD p 0).toNat (t.drop (p + 1)) h).1.Data)) :: (.int .i64 ((p : Nat) : Int) :: ([.int .i64 0])))))⟩ 57 (0, 0)) ∧ ((pbase (t.getD p 0).toNat (t.drop (p + 1)) h).2.2 = true) ∧ ((pbase (t.getD p 0).toNat (t.drop (p + 1)) h).2.1 = t.drop k2) ∧ (k2 ≤ t.length) ∧ (p < k2)) ?_ ?_
    ·
      refine wseq ?_
      refine regp (ρ' := [(0, .string (S t)), (1, .int .i64 ((p : Nat) : Int)), (2, .int .i64 ((h : Nat) : Int)), (6, .pointer (some ⟨bo, 0, none⟩)), (8, .pointer (some ⟨bx, 0, none⟩)), (9, .int .i64 ((p + 1 : Nat) : Int)), (31, .int .i64 (((t.getD p 0).toNat : Nat) : Int))]) (C := [RunOk Tryd.prog w4 (Instr.loadAt 3 (.pointer (some ⟨bx, 0, none⟩))) (.int .i64 (((t.getD p 0).toNat : Nat) : Int))]) ha [(1, .val (.int .i64 (((t.getD p 0).toNat : Nat) : Int)))] (by kernel_rfl) (.cons (ld1 hB_bx (by kernel_rfl) (by kernel_rfl)) .nil) ?_
      clear ha a; intro a ha
      refine tn ?_
      refine wblk ?_
      refine wseq ?_
      refine regp (ρ' := [(0, .string (S t)), (1, .int .i64 ((p : Nat) : Int)), (2, .int .i64 ((h : Nat) : Int)), (6, .pointer (some ⟨bo, 0, none⟩)), (8, .pointer (some ⟨bx, 0, none⟩)), (9, .int .i64 ((p + 1 : Nat) : Int)), (31, .int .i64 (((t.getD p 0).toNat : Nat) : Int)), (33, .bool (decide ((((t.getD p 0).toNat : Nat) : Int) = 0)))]) (C := []) ha [] (by kernel_rfl) .nil ?_
      clear ha a; intro a ha
      refine tn ?_
      refine wif ha rfl (fun h33 => ?_) (fun h33 => ?_)
      · replace h33 := of_decide_eq_true h33
        refine wskip ?_
        refine bn ?_
        have hQ : (pbase (t.getD p 0).toNat (t.drop (p + 1)) h) = (⟨(((t.getD p 0).toNat : Nat) : Int), 0, idZ, []⟩, t.drop (p + 1), true) := by unfold pbase; rw [if_pos (by omega)]
        have hB2 : w4.heap[bx]? = some (.cells ⟨.int .i64 ((pbase (t.getD p 0).toNat (t.drop (p + 1)) h).1.Kind) :: (.int .i64 ((pbase (t.getD p 0).toNat (t.drop (p + 1)) h).1.Back) :: ((idc ((pbase (t.getD p 0).toNat (t.drop (p + 1)) h).1.Base)) ++ (.string (S ((pbase (t.getD p 0).toNat (t.drop (p + 1)) h).1.Data)) :: (.int .i64 ((p : Nat) : Int) :: ([.int .i64 0])))))⟩ 57 (0, 0)) := by rw [hQ]; exact hB_bx
        clear hB_bx; have hB_bx := hB2; clear hB2
        exact tn ⟨(p + 1), ha.sub (ρ' := [(0, .string (S t)), (1, .int .i64 ((p : Nat) : Int)), (6, .pointer (some ⟨bo, 0, none⟩)), (8, .pointer (some ⟨bx, 0, none⟩)), (9, .int .i64 (((p + 1) : Nat) : Int))]) (by kernel_rfl), hx, hB_bo, hB_bx, by rw [hQ], by rw [hQ], by omega, by omega⟩
      · replace h33 := of_decide_eq_false h33
        refine wseq ?_
        refine regp (ρ' := [(0, .string (S t)), (1, .int .i64 ((p : Nat) : Int)), (2, .int .i64 ((h : Nat) : Int)), (6, .pointer (some ⟨bo, 0, none⟩)), (8, .pointer (some ⟨bx, 0, none⟩)), (9, .int .i64 ((p + 1 : Nat) : Int)), (31, .int .i64 (((t.getD p 0).toNat : Nat) : Int)), (35, .bool (decide ((((t.getD p 0).toNat : Nat) : Int) = 1)))]) (C := []) ha [] (by kernel_rfl) .nil ?_
        clear ha a; intro a ha
        refine tn ?_
        refine wif ha rfl (fun h35 => ?_) (fun h35 => ?_)
        · replace h35 := of_decide_eq_true h35
          refine wseq ?_
          refine reg hmix (ρ' := [(0, .string (S t)), (1, .int .i64 ((p : Nat) : Int)), (2, .int .i64 ((h : Nat) : Int)), (6, .pointer (some ⟨bo, 0, none⟩)), (8, .pointer (some ⟨bx, 0, none⟩)), (9, .int .i64 ((p + 1 : Nat) : Int)), (10, .int .u64 (((vget (t.drop (p + 1))).1 : Nat) : Int)), (11, .int .i64 ((vk (t.drop (p + 1)) : Nat) : Int))]) (C := [0 ≤ ((p + 1 : Nat) : Int) ∧ ((p + 1 : Nat) : Int) ≤ (t.length : Int), CallOk Tryd.prog w4 41 #[.string (S (t.drop (p + 1)))] (.tuple #[.int .u64 (((vget (t.drop (p + 1))).1 : Nat) : Int), .int .i64 ((vk (t.drop (p + 1)) : Nat) : Int)])]) ha [(3, .val (.tuple #[.int .u64 (((vget (t.drop (p + 1))).1 : Nat) : Int), .int .i64 ((vk (t.drop (p + 1)) : Nat) : Int)]))] (by kernel_rfl) (.cons ⟨by omega, by omega⟩ (.cons (fun w _ => rget_ok _ w (by first | omega | (simp only [List.length_take, List.length_drop, List.length_append]; omega))) .nil)) ?_
          clear ha a; intro a w6 ha he
          replace hx := hx.tr he
          replace hB_bo := keepB he hB_bo
          replace hB_bx := keepB he hB_bx
          clear he
          have hgl := vget_lt (t.drop (p + 1))
          refine tn ?_
          refine wseq ?_
          refine wseq ?_
          refine regp (ρ' := [(0, .string (S t)), (1, .int .i64 ((p : Nat) : Int)), (6, .pointer (some ⟨bo, 0, none⟩)), (8, .pointer (some ⟨bx, 0, none⟩)), (9, .int .i64 ((p + 1 : Nat) : Int)), (10, .int .u64 (((vget (t.drop (p + 1))).1 : Nat) : Int)), (11, .int .i64 ((vk (t.drop (p + 1)) : Nat) : Int)), (55, .bool (((decide (((vk (t.drop (p + 1)) : Nat) : Int) = 0)) || (decide ((((vget (t.drop (p + 1))).1 : Nat) : Int) < 1))) || (decide (((h : Nat) : Int) < (((vget (t.drop (p + 1))).1 : Nat) : Int)))))]) (C := [((decide (((vk (t.drop (p + 1)) : Nat) : Int) = 0)) || (decide ((((vget (t.drop (p + 1))).1 : Nat) : Int) < 1))) = false → All [InR .u64 ((h : Nat) : Int)]]) ha [] (by kernel_rfl) (.cons (fun hg7 => by simp only [Bool.not_eq_true', Bool.not_eq_false', Bool.and_eq_true, Bool.or_eq_true, Bool.and_eq_false_iff, Bool.or_eq_false_iff, decide_eq_true_eq, decide_eq_false_iff_not, Bool.not_eq_true, Decidable.not_not] at hg7; exact (.cons (by unfold InR; omega) .nil)) .nil) ?_
          clear ha a; intro a ha
          refine tn ?_
          refine wif ha rfl (fun h55 => ?_) (fun h55 => ?_)
          · simp only [Bool.not_eq_true', Bool.not_eq_false', Bool.and_eq_true, Bool.or_eq_true, Bool.and_eq_false_iff, Bool.or_eq_false_iff, decide_eq_true_eq, decide_eq_false_iff_not, Bool.not_eq_true, Decidable.not_not] at h55
            have hres : rone t p h = (rZ, 2) := rone_bad (by unfold pitem; rw [drop_get, hd1, if_neg hne, if_pos (by unfold pbase; rw [if_neg (by omega), if_pos (by omega), if_pos (by have := vk_zero (t.drop (p + 1)); omega)])]) (by decide)
            refine wseq ?_
            refine reg_list ?_
            refine segp (ρ' := [(6, .pointer (some ⟨bo, 0, none⟩)), (56, .agg ⟨.int .i64 0 :: (.int .i64 0 :: ((idc idZ) ++ (.string (S []) :: (.int .i64 0 :: ([.int .i64 0])))))⟩)]) (C := []) ha 1 [] rfl (by kernel_rfl) .nil ?_
            clear ha a; intro a ha
            refine lstore (off := 0) ha rfl rfl (by kernel_rfl) hB_bo ⟨.int .i64 0 :: (.int .i64 0 :: ((idc idZ) ++ (.string (S []) :: (.int .i64 0 :: ([.int .i64 0])))))⟩ rfl (by kernel_rfl) (by kernel_rfl) ?_
            clear ha a; intro w7 hc a ha
            replace hB_bx := hc.keep hB_bx (by first | assumption | exact Ne.symm (by assumption))
            replace hx := hc.ext hx hb_bo
            replace hB_bo := hc.at_; clear hc
            refine segp (ρ' := [(6, .pointer (some ⟨bo, 0, none⟩)), (7, .int .i64 2)]) (C := []) ha 1 [] rfl (by kernel_rfl) .nil ?_
            clear ha a; intro a ha
            refine lnil ?_
            replace ha := ha.sub (ρ' := [(6, .pointer (some ⟨bo, 0, none⟩)), (7, .int .i64 2)]) (by kernel_rfl)
            refine tn ?_
            refine wret ?_
            refine (tr (br (tr ?_)))
            refine fin ha (.cell rfl (ldVN (n := 37) (vs := ⟨.int .i64 0 :: (.int .i64 0 :: ((idc idZ) ++ (.string (S []) :: (.int .i64 0 :: ([.int .i64 0])))))⟩) hB_bo (by kernel_rfl) (by kernel_rfl) ⟨Nat.le_of_ble_eq_true (by kernel_rfl), (by kernel_rfl)⟩) (.tmp rfl .nil)) ?_
            exact ⟨by rw [hres]; rfl, hx⟩
          · simp only [Bool.not_eq_true', Bool.not_eq_false', Bool.and_eq_true, Bool.or_eq_true, Bool.and_eq_false_iff, Bool.or_eq_false_iff, decide_eq_true_eq, decide_eq_false_iff_not, Bool.not_eq_true, Decidable.not_not] at h55
            refine wskip ?_
            refine tn ?_
            refine wseq ?_
            refine reg_list ?_
            refine segp (ρ' := [(0, .string (S t)), (1, .int .i64 ((p : Nat) : Int)), (6, .pointer (some ⟨bo, 0, none⟩)), (8, .pointer (some ⟨bx, 0, none⟩)), (9, .int .i64 ((p + 1 : Nat) : Int)), (11, .int .i64 ((vk (t.drop (p + 1)) : Nat) : Int)), (58, .int .i64 (((vget (t.drop (p + 1))).1 : Nat) : Int)), (59, .pointer (some ⟨bx, 1, none⟩))]) (C := [InR .i64 (((vget (t.drop (p + 1))).1 : Nat) : Int)]) ha 3 [] rfl (by kernel_rfl) (.cons (by unfold InR; omega) .nil) ?_
            clear ha a; intro a ha
            refine lstore (off := 1) ha rfl rfl (by kernel_rfl) hB_bx ⟨.int .i64 (((t.getD p 0).toNat : Nat) : Int) :: (.int .i64 (((vget (t.drop (p + 1))).1 : Nat) : Int) :: ((idc idZ) ++ (.string (S []) :: (.int .i64 ((p : Nat) : Int) :: ([.int .i64 0])))))⟩ rfl (by kernel_rfl) (by kernel_rfl) ?_
            clear ha a; intro w8 hc a ha
            replace hB_bo := hc.keep hB_bo (by first | assumption | exact Ne.symm (by assumption))
            replace hx := hc.ext hx hb_bx
            replace hB_bx := hc.at_; clear hc
            refine lnil ?_
            replace ha := ha.sub (ρ' := [(0, .string (S t)), (1, .int .i64 ((p : Nat) : Int)), (6, .pointer (some ⟨bo, 0, none⟩)), (8, .pointer (some ⟨bx, 0, none⟩)), (9, .int .i64 ((p + 1 : Nat) : Int)), (11, .int .i64 ((vk (t.drop (p + 1)) : Nat) : Int))]) (by kernel_rfl)
            refine tn ?_
            refine regp (ρ' := [(0, .string (S t)), (1, .int .i64 ((p : Nat) : Int)), (6, .pointer (some ⟨bo, 0, none⟩)), (8, .pointer (some ⟨bx, 0, none⟩)), (9, .int .i64 (((p + 1) + (vk (t.drop (p + 1))) : Nat) : Int))]) (C := [InR .i64 (((p + 1) + (vk (t.drop (p + 1))) : Nat) : Int)]) ha [] (by kernel_rfl) (.cons (by unfold InR; omega) .nil) ?_
            clear ha a; intro a ha
            refine bn ?_
            obtain ⟨g1, g2, g3⟩ := vget_drop (t.drop (p + 1)) (by have := vk_zero (t.drop (p + 1)); omega)
            rw [List.length_drop] at g3
            have hQ : (pbase (t.getD p 0).toNat (t.drop (p + 1)) h) = (⟨(((t.getD p 0).toNat : Nat) : Int), (((vget (t.drop (p + 1))).1 : Nat) : Int), idZ, []⟩, t.drop (p + 1 + vk (t.drop (p + 1))), true) := by unfold pbase; rw [if_neg (by omega), if_pos (by omega), if_neg (by have := vk_zero (t.drop (p + 1)); omega), g1, List.drop_drop]
            have hB2 : w8.heap[bx]? = some (.cells ⟨.int .i64 ((pbase (t.getD p 0).toNat (t.drop (p + 1)) h).1.Kind) :: (.int .i64 ((pbase (t.getD p 0).toNat (t.drop (p + 1)) h).1.Back) :: ((idc ((pbase (t.getD p 0).toNat (t.drop (p + 1)) h).1.Base)) ++ (.string (S ((pbase (t.getD p 0).toNat (t.drop (p + 1)) h).1.Data)) :: (.int .i64 ((p : Nat) : Int) :: ([.int .i64 0])))))⟩ 57 (0, 0)) := by rw [hQ]; exact hB_bx
            clear hB_bx; have hB_bx := hB2; clear hB2
            exact tn ⟨(p + 1 + vk (t.drop (p + 1))), ha.sub (ρ' := [(0, .string (S t)), (1, .int .i64 ((p : Nat) : Int)), (6, .pointer (some ⟨bo, 0, none⟩)), (8, .pointer (some ⟨bx, 0, none⟩)), (9, .int .i64 (((p + 1 + vk (t.drop (p + 1))) : Nat) : Int))]) (by kernel_rfl), hx, hB_bo, hB_bx, by rw [hQ], by rw [hQ], by omega, by omega⟩
        · replace h35 := of_decide_eq_false h35
          refine wseq ?_
          refine regp (ρ' := [(0, .string (S t)), (1, .int .i64 ((p : Nat) : Int)), (6, .pointer (some ⟨bo, 0, none⟩)), (8, .pointer (some ⟨bx, 0, none⟩)), (9, .int .i64 ((p + 1 : Nat) : Int)), (63, .bool (decide ((((t.getD p 0).toNat : Nat) : Int) = 2)))]) (C := []) ha [] (by kernel_rfl) .nil ?_
          clear ha a; intro a ha
          refine tn ?_
          refine wif ha rfl (fun h63 => ?_) (fun h63 => ?_)
          · replace h63 := of_decide_eq_true h63
            refine wseq ?_
            refine wseq ?_
            refine regp (ρ' := [(0, .string (S t)), (1, .int .i64 ((p : Nat) : Int)), (6, .pointer (some ⟨bo, 0, none⟩)), (8, .pointer (some ⟨bx, 0, none⟩)), (9, .int .i64 ((p + 1 : Nat) : Int)), (69, .bool (decide (((t.length - (p + 1) : Nat) : Int) < 32)))]) (C := [BinOk Tryd.prog .sub 3 (.int .i64 ((t.length : Nat) : Int)) (.int .i64 ((p + 1 : Nat) : Int)) (.int .i64 ((t.length - (p + 1) : Nat) : Int))]) ha [(3, .val (.int .i64 ((t.length - (p + 1) : Nat) : Int)))] (by kernel_rfl) (.cons (subN (a := t.length) (n := (p + 1)) (by omega) (by unfold InR; omega)) .nil) ?_
            clear ha a; intro a ha
            refine tn ?_
            refine wif ha rfl (fun h69 => ?_) (fun h69 => ?_)
            · replace h69 := of_decide_eq_true h69
              have hres : rone t p h = (rZ, 2) := rone_bad (by unfold pitem; rw [drop_get, hd1, if_neg hne, if_pos (by unfold pbase; rw [if_neg (by omega), if_neg (by omega), if_pos (by omega), if_pos (by rw [List.length_drop]; omega)])]) (by decide)
              refine wseq ?_
              refine reg_list ?_
              refine segp (ρ' := [(6, .pointer (some ⟨bo, 0, none⟩)), (70, .agg ⟨.int .i64 0 :: (.int .i64 0 :: ((idc idZ) ++ (.string (S []) :: (.int .i64 0 :: ([.int .i64 0])))))⟩)]) (C := []) ha 1 [] rfl (by kernel_rfl) .nil ?_
              clear ha a; intro a ha
              refine lstore (off := 0) ha rfl rfl (by kernel_rfl) hB_bo ⟨.int .i64 0 :: (.int .i64 0 :: ((idc idZ) ++ (.string (S []) :: (.int .i64 0 :: ([.int .i64 0])))))⟩ rfl (by kernel_rfl) (by kernel_rfl) ?_
              clear ha a; intro w9 hc a ha
              replace hB_bx := hc.keep hB_bx (by first | assumption | exact Ne.symm (by assumption))
              replace hx := hc.ext hx hb_bo
              replace hB_bo := hc.at_; clear hc
              refine segp (ρ' := [(6, .pointer (some ⟨bo, 0, none⟩)), (7, .int .i64 2)]) (C := []) ha 1 [] rfl (by kernel_rfl) .nil ?_
              clear ha a; intro a ha
              refine lnil ?_
              replace ha := ha.sub (ρ' := [(6, .pointer (some ⟨bo, 0, none⟩)), (7, .int .i64 2)]) (by kernel_rfl)
              refine tn ?_
              refine wret ?_
              refine (tr (br (tr ?_)))
              refine fin ha (.cell rfl (ldVN (n := 37) (vs := ⟨.int .i64 0 :: (.int .i64 0 :: ((idc idZ) ++ (.string (S []) :: (.int .i64 0 :: ([.int .i64 0])))))⟩) hB_bo (by kernel_rfl) (by kernel_rfl) ⟨Nat.le_of_ble_eq_true (by kernel_rfl), (by kernel_rfl)⟩) (.tmp rfl .nil)) ?_
              exact ⟨by rw [hres]; rfl, hx⟩
            · replace h69 := of_decide_eq_false h69
              refine wskip ?_
              refine tn ?_
              refine wseq ?_
              refine wseq ?_
              refine regp (ρ' := [(0, .string (S t)), (1, .int .i64 ((p : Nat) : Int)), (6, .pointer (some ⟨bo, 0, none⟩)), (8, .pointer (some ⟨bx, 0, none⟩)), (9, .int .i64 ((p + 1 : Nat) : Int)), (12, .int .i64 0)]) (C := []) ha [] (by kernel_rfl) .nil ?_
              clear ha a; intro a ha
              refine tn ?_
              refine wblk ?_
              refine wloop (fun zz a w10 => ∃ (i : Nat), zz = 32 - i ∧ On 115 [(0, .string (S t)), (1, .int .i64 ((p : Nat) : Int)), (6, .pointer (some ⟨bo, 0, none⟩)), (8, .pointer (some ⟨bx, 0, none⟩)), (9, .int .i64 ((p + 1 : Nat) : Int)), (12, .int .i64 ((i : Nat) : Int))] a ∧ Ext w w10 ∧ w10.heap[bo]? = some (.cells ⟨.int .i64 0 :: (.int .i64 0 :: ((idc idZ) ++ (.string (S []) :: (.int .i64 0 :: ([.int .i64 0])))))⟩ 57 (0, 0)) ∧ w10.heap[bx]? = some (.cells ⟨.int .i64 (((t.getD p 0).toNat : Nat) : Int) :: (.int .i64 0 :: ((idc (idT (t.drop (p + 1)) i)) ++ (.string (S []) :: (.int .i64 ((p : Nat) : Int) :: ([.int .i64 0])))))⟩ 57 (0, 0)) ∧ (i ≤ 32)) _ ⟨0, rfl, ha.sub (ρ' := [(0, .string (S t)), (1, .int .i64 ((p : Nat) : Int)), (6, .pointer (some ⟨bo, 0, none⟩)), (8, .pointer (some ⟨bx, 0, none⟩)), (9, .int .i64 ((p + 1 : Nat) : Int)), (12, .int .i64 ((0 : Nat) : Int))]) (by kernel_rfl), hx, hB_bo, hB_bx, by omega⟩ ?_
              clear ha hx hB_bo hB_bx
              rintro zz a w11 ⟨i, hzz, ha, hx, hB_bo, hB_bx, hi⟩
              refine wseq ?_
              refine wseq ?_
              refine regp (ρ' := [(0, .string (S t)), (1, .int .i64 ((p : Nat) : Int)), (6, .pointer (some ⟨bo, 0, none⟩)), (8, .pointer (some ⟨bx, 0, none⟩)), (9, .int .i64 ((p + 1 : Nat) : Int)), (12, .int .i64 ((i : Nat) : Int)), (72, .bool (decide (((i : Nat) : Int) < 32)))]) (C := []) ha [] (by kernel_rfl) .nil ?_
              clear ha a; intro a ha
              refine tn ?_
              refine wif ha rfl (fun h72 => ?_) (fun h72 => ?_)
              · replace h72 := of_decide_eq_true h72
                have hcc := getD_toNat_lt t (p + 1 + i)
                refine wskip ?_
                refine tn ?_
                refine wseq ?_
                refine wblk ?_
                refine reg_list ?_
                refine segp (ρ' := [(0, .string (S t)), (1, .int .i64 ((p : Nat) : Int)), (6, .pointer (some ⟨bo, 0, none⟩)), (8, .pointer (some ⟨bx, 0, none⟩)), (9, .int .i64 ((p + 1 : Nat) : Int)), (12, .int .i64 ((i : Nat) : Int)), (80, .int .u8 (((t.getD ((p + 1) + i) 0).toNat : Nat) : Int)), (82, .pointer (some ⟨bx, 2 + i, none⟩))]) (C := [InR .i64 (((p + 1) + i : Nat) : Int), 0 ≤ (((p + 1) + i : Nat) : Int) ∧ (((p + 1) + i : Nat) : Int) < (t.length : Int), RunOk Tryd.prog w11 (Instr.indexAt 48 (.pointer (some ⟨bx, 2, none⟩)) (.int .i64 ((i : Nat) : Int))) (.pointer (some ⟨bx, 2 + i, none⟩))]) ha 8 [(7, .val (.pointer (some ⟨bx, 2 + i, none⟩)))] rfl (by kernel_rfl) (.cons (by unfold InR; omega) (.cons ⟨by omega, by omega⟩ (.cons (ixAo (n := 32) (i := i) (by kernel_rfl) (by omega)) .nil))) ?_
                clear ha a; intro a ha
                refine lstoreL (off := 2 + i) (vs := [.int .u8 (((t.getD ((p + 1) + i) 0).toNat : Nat) : Int)]) (cs' := (.int .i64 (((t.getD p 0).toNat : Nat) : Int) :: (.int .i64 0 :: ((idc ((idT (t.drop (p + 1)) i).set i ((t.getD ((p + 1) + i) 0).toNat))) ++ (.string (S []) :: (.int .i64 ((p : Nat) : Int) :: ([.int .i64 0]))))))) ha rfl rfl (by kernel_rfl) rfl rfl hB_bx (by kernel_rfl) (by kernel_rfl) (by kernel_rfl) (Nat.le_trans (show 2 + i + 1 ≤ 37 by omega) (Nat.le_of_eq (by kernel_rfl))) (put_in (pre := [.int .i64 (((t.getD p 0).toNat : Nat) : Int), .int .i64 0]) (cs := idc (idT (t.drop (p + 1)) i)) (post := [.string (S []), .int .i64 ((p : Nat) : Int), .int .i64 0]) (by rw [idc_len _]; omega) (idc_set _ _ _ (by omega))) ?_
                clear ha a; intro w12 hc a ha
                replace hB_bo := hc.keep hB_bo (by first | assumption | exact Ne.symm (by assumption))
                replace hx := hc.ext hx hb_bx
                replace hB_bx := hc.at_; clear hc
                refine lnil ?_
                replace ha := ha.sub (ρ' := [(0, .string (S t)), (1, .int .i64 ((p : Nat) : Int)), (6, .pointer (some ⟨bo, 0, none⟩)), (8, .pointer (some ⟨bx, 0, none⟩)), (9, .int .i64 ((p + 1 : Nat) : Int)), (12, .int .i64 ((i : Nat) : Int))]) (by kernel_rfl)
                refine bn ?_
                refine tn ?_
                refine regp (ρ' := [(0, .string (S t)), (1, .int .i64 ((p : Nat) : Int)), (6, .pointer (some ⟨bo, 0, none⟩)), (8, .pointer (some ⟨bx, 0, none⟩)), (9, .int .i64 ((p + 1 : Nat) : Int)), (12, .int .i64 ((i + 1 : Nat) : Int))]) (C := [InR .i64 ((i + 1 : Nat) : Int)]) ha [] (by kernel_rfl) (.cons (by unfold InR; omega) .nil) ?_
                clear ha a; intro a ha
                have hg : (t.drop (p + 1)).getD i 0 = t.getD (p + 1 + i) 0 := by simp [List.getD_eq_getElem?_getD]
                rw [show (idT (t.drop (p + 1)) i).set i (t.getD (p + 1 + i) 0).toNat = idT (t.drop (p + 1)) (i + 1) by rw [idT, hg]] at hB_bx
                exact tn ⟨32 - ((i + 1)), by omega, (i + 1), rfl, ha.sub (ρ' := [(0, .string (S t)), (1, .int .i64 ((p : Nat) : Int)), (6, .pointer (some ⟨bo, 0, none⟩)), (8, .pointer (some ⟨bx, 0, none⟩)), (9, .int .i64 ((p + 1 : Nat) : Int)), (12, .int .i64 (((i + 1) : Nat) : Int))]) (by kernel_rfl), hx, hB_bo, hB_bx, by omega⟩
              · replace h72 := of_decide_eq_false h72
                obtain rfl : i = 32 := by omega
                refine wexit ?_
                refine (te (te (be ?_)))
                refine tn ?_
                refine regp (ρ' := [(0, .string (S t)), (1, .int .i64 ((p : Nat) : Int)), (6, .pointer (some ⟨bo, 0, none⟩)), (8, .pointer (some ⟨bx, 0, none⟩)), (9, .int .i64 (((p + 1) + 32 : Nat) : Int))]) (C := [InR .i64 (((p + 1) + 32 : Nat) : Int)]) ha [] (by kernel_rfl) (.cons (by unfold InR; omega) .nil) ?_
                clear ha a; intro a ha
                refine bn ?_
                have hQ : (pbase (t.getD p 0).toNat (t.drop (p + 1)) h) = (⟨(((t.getD p 0).toNat : Nat) : Int), 0, mkId ((t.drop (p + 1)).take 32), []⟩, t.drop (p + 1 + 32), true) := by unfold pbase; rw [if_neg (by omega), if_neg (by omega), if_pos (by omega), if_neg (by rw [List.length_drop]; omega), List.drop_drop]
                rw [idT_all _ (by rw [List.length_drop]; omega)] at hB_bx
                have hB2 : w11.heap[bx]? = some (.cells ⟨.int .i64 ((pbase (t.getD p 0).toNat (t.drop (p + 1)) h).1.Kind) :: (.int .i64 ((pbase (t.getD p 0).toNat (t.drop (p + 1)) h).1.Back) :: ((idc ((pbase (t.getD p 0).toNat (t.drop (p + 1)) h).1.Base)) ++ (.string (S ((pbase (t.getD p 0).toNat (t.drop (p + 1)) h).1.Data)) :: (.int .i64 ((p : Nat) : Int) :: ([.int .i64 0])))))⟩ 57 (0, 0)) := by rw [hQ]; exact hB_bx
                clear hB_bx; have hB_bx := hB2; clear hB2
                exact tn ⟨(p + 1 + 32), ha.sub (ρ' := [(0, .string (S t)), (1, .int .i64 ((p : Nat) : Int)), (6, .pointer (some ⟨bo, 0, none⟩)), (8, .pointer (some ⟨bx, 0, none⟩)), (9, .int .i64 (((p + 1 + 32) : Nat) : Int))]) (by kernel_rfl), hx, hB_bo, hB_bx, by rw [hQ], by rw [hQ], by omega, by omega⟩
          · replace h63 := of_decide_eq_false h63
            have hres : rone t p h = (rZ, 2) := rone_bad (by unfold pitem; rw [drop_get, hd1, if_neg hne, if_pos (by unfold pbase; rw [if_neg (by omega), if_neg (by omega), if_neg (by omega)])]) (by decide)
            refine wseq ?_
            refine reg_list ?_
            refine segp (ρ' := [(6, .pointer (some ⟨bo, 0, none⟩)), (32, .agg ⟨.int .i64 0 :: (.int .i64 0 :: ((idc idZ) ++ (.string (S []) :: (.int .i64 0 :: ([.int .i64 0])))))⟩)]) (C := []) ha 1 [] rfl (by kernel_rfl) .nil ?_
            clear ha a; intro a ha
            refine lstore (off := 0) ha rfl rfl (by kernel_rfl) hB_bo ⟨.int .i64 0 :: (.int .i64 0 :: ((idc idZ) ++ (.string (S []) :: (.int .i64 0 :: ([.int .i64 0])))))⟩ rfl (by kernel_rfl) (by kernel_rfl) ?_
            clear ha a; intro w13 hc a ha
            replace hB_bx := hc.keep hB_bx (by first | assumption | exact Ne.symm (by assumption))
            replace hx := hc.ext hx hb_bo
            replace hB_bo := hc.at_; clear hc
            refine segp (ρ' := [(6, .pointer (some ⟨bo, 0, none⟩)), (7, .int .i64 2)]) (C := []) ha 1 [] rfl (by kernel_rfl) .nil ?_
            clear ha a; intro a ha
            refine lnil ?_
            replace ha := ha.sub (ρ' := [(6, .pointer (some ⟨bo, 0, none⟩)), (7, .int .i64 2)]) (by kernel_rfl)
            refine tn ?_
            refine wret ?_
            refine (br (tr ?_))
            refine fin ha (.cell rfl (ldVN (n := 37) (vs := ⟨.int .i64 0 :: (.int .i64 0 :: ((idc idZ) ++ (.string (S []) :: (.int .i64 0 :: ([.int .i64 0])))))⟩) hB_bo (by kernel_rfl) (by kernel_rfl) ⟨Nat.le_of_ble_eq_true (by kernel_rfl), (by kernel_rfl)⟩) (.tmp rfl .nil)) ?_
            exact ⟨by rw [hres]; rfl, hx⟩
    clear ha hx hB_bo hB_bx
    rintro a w14 ⟨k2, ha, hx, hB_bo, hB_bx, hq1, hq2, hk2, hkp⟩
    have htl := tk_le (t.drop k2)
    rw [List.length_drop] at htl
    have hb0 : ¬ (pbase (t.getD p 0).toNat (t.drop (p + 1)) h).2.2 = false := fun e => by rw [hq1] at e; cases e
    have hvt := vtake_len (t.drop k2)
    rw [List.length_drop] at hvt
    refine wseq ?_
    refine reg hmix (ρ' := [(1, .int .i64 ((p : Nat) : Int)), (6, .pointer (some ⟨bo, 0, none⟩)), (8, .pointer (some ⟨bx, 0, none⟩)), (9, .int .i64 ((k2 : Nat) : Int)), (13, .string (S ((vtake (t.drop k2)).1))), (14, .int .i64 ((tk (t.drop k2) : Nat) : Int))]) (C := [0 ≤ ((k2 : Nat) : Int) ∧ ((k2 : Nat) : Int) ≤ (t.length : Int), CallOk Tryd.prog w14 62 #[.string (S (t.drop k2))] (.tuple #[.string (S ((vtake (t.drop k2)).1)), .int .i64 ((tk (t.drop k2) : Nat) : Int)])]) ha [(3, .val (.tuple #[.string (S ((vtake (t.drop k2)).1)), .int .i64 ((tk (t.drop k2) : Nat) : Int)]))] (by kernel_rfl) (.cons ⟨by omega, by omega⟩ (.cons (fun w _ => rtk_ok _ w (by first | omega | (simp only [List.length_take, List.length_drop, List.length_append]; omega))) .nil)) ?_
    clear ha a; intro a w15 ha he
    replace hx := hx.tr he
    replace hB_bo := keepB he hB_bo
    replace hB_bx := keepB he hB_bx
    clear he
    refine tn ?_
    refine wseq ?_
    refine wseq ?_
    refine regp (ρ' := [(1, .int .i64 ((p : Nat) : Int)), (6, .pointer (some ⟨bo, 0, none⟩)), (8, .pointer (some ⟨bx, 0, none⟩)), (9, .int .i64 ((k2 : Nat) : Int)), (13, .string (S ((vtake (t.drop k2)).1))), (14, .int .i64 ((tk (t.drop k2) : Nat) : Int)), (93, .bool (decide (((tk (t.drop k2) : Nat) : Int) = 0)))]) (C := []) ha [] (by kernel_rfl) .nil ?_
    clear ha a; intro a ha
    refine tn ?_
    refine wif ha rfl (fun h93 => ?_) (fun h93 => ?_)
    · replace h93 := of_decide_eq_true h93
      have hres : rone t p h = (rZ, 2) := rone_bad (by unfold pitem; rw [drop_get, hd1, if_neg hne, if_neg hb0, hq2, if_pos ((tk_err _).1 (by omega))]) (by decide)
      refine wseq ?_
      refine reg_list ?_
      refine segp (ρ' := [(6, .pointer (some ⟨bo, 0, none⟩)), (94, .agg ⟨.int .i64 0 :: (.int .i64 0 :: ((idc idZ) ++ (.string (S []) :: (.int .i64 0 :: ([.int .i64 0])))))⟩)]) (C := []) ha 1 [] rfl (by kernel_rfl) .nil ?_
      clear ha a; intro a ha
      refine lstore (off := 0) ha rfl rfl (by kernel_rfl) hB_bo ⟨.int .i64 0 :: (.int .i64 0 :: ((idc idZ) ++ (.string (S []) :: (.int .i64 0 :: ([.int .i64 0])))))⟩ rfl (by kernel_rfl) (by kernel_rfl) ?_
      clear ha a; intro w16 hc a ha
      replace hB_bx := hc.keep hB_bx (by first | assumption | exact Ne.symm (by assumption))
      replace hx := hc.ext hx hb_bo
      replace hB_bo := hc.at_; clear hc
      refine segp (ρ' := [(6, .pointer (some ⟨bo, 0, none⟩)), (7, .int .i64 2)]) (C := []) ha 1 [] rfl (by kernel_rfl) .nil ?_
      clear ha a; intro a ha
      refine lnil ?_
      replace ha := ha.sub (ρ' := [(6, .pointer (some ⟨bo, 0, none⟩)), (7, .int .i64 2)]) (by kernel_rfl)
      refine tn ?_
      refine wret ?_
      refine (tr ?_)
      refine fin ha (.cell rfl (ldVN (n := 37) (vs := ⟨.int .i64 0 :: (.int .i64 0 :: ((idc idZ) ++ (.string (S []) :: (.int .i64 0 :: ([.int .i64 0])))))⟩) hB_bo (by kernel_rfl) (by kernel_rfl) ⟨Nat.le_of_ble_eq_true (by kernel_rfl), (by kernel_rfl)⟩) (.tmp rfl .nil)) ?_
      exact ⟨by rw [hres]; rfl, hx⟩
    · replace h93 := of_decide_eq_false h93
      have hv0 : ¬ (vtake (t.drop k2)).2.2 ≠ 0 := fun e => by have := (tk_err (t.drop k2)).2 e; omega
      have hvd := (tk_drop (t.drop k2) (by omega)).1
      refine wskip ?_
      refine tn ?_
      refine wseq ?_
      refine reg hmix (ρ' := [(1, .int .i64 ((p : Nat) : Int)), (6, .pointer (some ⟨bo, 0, none⟩)), (8, .pointer (some ⟨bx, 0, none⟩)), (9, .int .i64 ((k2 : Nat) : Int)), (14, .int .i64 ((tk (t.drop k2) : Nat) : Int)), (15, .string (S ((lzUnpack ((vtake (t.drop k2)).1) 4096).1))), (16, .int .i64 (((lzUnpack ((vtake (t.drop k2)).1) 4096).2 : Nat) : Int))]) (C := [CallOk Tryd.prog w15 63 #[.string (S ((vtake (t.drop k2)).1)), .int .i64 4096] (.tuple #[.string (S ((lzUnpack ((vtake (t.drop k2)).1) 4096).1)), .int .i64 (((lzUnpack ((vtake (t.drop k2)).1) 4096).2 : Nat) : Int)])]) ha [(1, .val (.tuple #[.string (S ((lzUnpack ((vtake (t.drop k2)).1) 4096).1)), .int .i64 (((lzUnpack ((vtake (t.drop k2)).1) 4096).2 : Nat) : Int)]))] (by kernel_rfl) (.cons (fun w _ => runpack_ok _ _ w (by first | omega | decide) (by omega)) .nil) ?_
      clear ha a; intro a w17 ha he
      replace hx := hx.tr he
      replace hB_bo := keepB he hB_bo
      replace hB_bx := keepB he hB_bx
      clear he
      refine tn ?_
      refine wseq ?_
      refine wseq ?_
      refine regp (ρ' := [(1, .int .i64 ((p : Nat) : Int)), (6, .pointer (some ⟨bo, 0, none⟩)), (8, .pointer (some ⟨bx, 0, none⟩)), (9, .int .i64 ((k2 : Nat) : Int)), (14, .int .i64 ((tk (t.drop k2) : Nat) : Int)), (15, .string (S ((lzUnpack ((vtake (t.drop k2)).1) 4096).1))), (16, .int .i64 (((lzUnpack ((vtake (t.drop k2)).1) 4096).2 : Nat) : Int)), (101, .bool (decide ((((lzUnpack ((vtake (t.drop k2)).1) 4096).2 : Nat) : Int) = 3)))]) (C := []) ha [] (by kernel_rfl) .nil ?_
      clear ha a; intro a ha
      refine tn ?_
      refine wif ha rfl (fun h101 => ?_) (fun h101 => ?_)
      · replace h101 := of_decide_eq_true h101
        have hpd : (pdata (vtake (t.drop k2)).1).2 = 3 := by unfold pdata; rw [if_pos (by omega)]; show (((lzUnpack _ _).2 : Nat) : Int) = 3; omega
        have hres : rone t p h = (rZ, 3) := rone_bad (by unfold pitem; rw [drop_get, hd1, if_neg hne, if_neg hb0, hq2, if_neg hv0, if_pos (by rw [hpd]; decide), hpd]) (by decide)
        refine wseq ?_
        refine reg_list ?_
        refine segp (ρ' := [(6, .pointer (some ⟨bo, 0, none⟩)), (102, .agg ⟨.int .i64 0 :: (.int .i64 0 :: ((idc idZ) ++ (.string (S []) :: (.int .i64 0 :: ([.int .i64 0])))))⟩)]) (C := []) ha 1 [] rfl (by kernel_rfl) .nil ?_
        clear ha a; intro a ha
        refine lstore (off := 0) ha rfl rfl (by kernel_rfl) hB_bo ⟨.int .i64 0 :: (.int .i64 0 :: ((idc idZ) ++ (.string (S []) :: (.int .i64 0 :: ([.int .i64 0])))))⟩ rfl (by kernel_rfl) (by kernel_rfl) ?_
        clear ha a; intro w18 hc a ha
        replace hB_bx := hc.keep hB_bx (by first | assumption | exact Ne.symm (by assumption))
        replace hx := hc.ext hx hb_bo
        replace hB_bo := hc.at_; clear hc
        refine segp (ρ' := [(6, .pointer (some ⟨bo, 0, none⟩)), (7, .int .i64 3)]) (C := []) ha 1 [] rfl (by kernel_rfl) .nil ?_
        clear ha a; intro a ha
        refine lnil ?_
        replace ha := ha.sub (ρ' := [(6, .pointer (some ⟨bo, 0, none⟩)), (7, .int .i64 3)]) (by kernel_rfl)
        refine tn ?_
        refine wret ?_
        refine (tr ?_)
        refine fin ha (.cell rfl (ldVN (n := 37) (vs := ⟨.int .i64 0 :: (.int .i64 0 :: ((idc idZ) ++ (.string (S []) :: (.int .i64 0 :: ([.int .i64 0])))))⟩) hB_bo (by kernel_rfl) (by kernel_rfl) ⟨Nat.le_of_ble_eq_true (by kernel_rfl), (by kernel_rfl)⟩) (.tmp rfl .nil)) ?_
        exact ⟨by rw [hres]; rfl, hx⟩
      · replace h101 := of_decide_eq_false h101
        refine wskip ?_
        refine tn ?_
        refine wseq ?_
        refine wseq ?_
        refine regp (ρ' := [(1, .int .i64 ((p : Nat) : Int)), (6, .pointer (some ⟨bo, 0, none⟩)), (8, .pointer (some ⟨bx, 0, none⟩)), (9, .int .i64 ((k2 : Nat) : Int)), (14, .int .i64 ((tk (t.drop k2) : Nat) : Int)), (15, .string (S ((lzUnpack ((vtake (t.drop k2)).1) 4096).1))), (104, .bool (!decide ((((lzUnpack ((vtake (t.drop k2)).1) 4096).2 : Nat) : Int) = 0)))]) (C := []) ha [] (by kernel_rfl) .nil ?_
        clear ha a; intro a ha
        refine tn ?_
        refine wif ha rfl (fun h104 => ?_) (fun h104 => ?_)
        · simp only [Bool.not_eq_true', Bool.not_eq_false', Bool.and_eq_true, Bool.or_eq_true, Bool.and_eq_false_iff, Bool.or_eq_false_iff, decide_eq_true_eq, decide_eq_false_iff_not, Bool.not_eq_true, Decidable.not_not] at h104
          have hpd : (pdata (vtake (t.drop k2)).1).2 = 2 := by unfold pdata; rw [if_neg (by omega)]
          have hres : rone t p h = (rZ, 2) := rone_bad (by unfold pitem; rw [drop_get, hd1, if_neg hne, if_neg hb0, hq2, if_neg hv0, if_pos (by rw [hpd]; decide), hpd]) (by decide)
          refine wseq ?_
          refine reg_list ?_
          refine segp (ρ' := [(6, .pointer (some ⟨bo, 0, none⟩)), (105, .agg ⟨.int .i64 0 :: (.int .i64 0 :: ((idc idZ) ++ (.string (S []) :: (.int .i64 0 :: ([.int .i64 0])))))⟩)]) (C := []) ha 1 [] rfl (by kernel_rfl) .nil ?_
          clear ha a; intro a ha
          refine lstore (off := 0) ha rfl rfl (by kernel_rfl) hB_bo ⟨.int .i64 0 :: (.int .i64 0 :: ((idc idZ) ++ (.string (S []) :: (.int .i64 0 :: ([.int .i64 0])))))⟩ rfl (by kernel_rfl) (by kernel_rfl) ?_
          clear ha a; intro w19 hc a ha
          replace hB_bx := hc.keep hB_bx (by first | assumption | exact Ne.symm (by assumption))
          replace hx := hc.ext hx hb_bo
          replace hB_bo := hc.at_; clear hc
          refine segp (ρ' := [(6, .pointer (some ⟨bo, 0, none⟩)), (7, .int .i64 2)]) (C := []) ha 1 [] rfl (by kernel_rfl) .nil ?_
          clear ha a; intro a ha
          refine lnil ?_
          replace ha := ha.sub (ρ' := [(6, .pointer (some ⟨bo, 0, none⟩)), (7, .int .i64 2)]) (by kernel_rfl)
          refine tn ?_
          refine wret ?_
          refine (tr ?_)
          refine fin ha (.cell rfl (ldVN (n := 37) (vs := ⟨.int .i64 0 :: (.int .i64 0 :: ((idc idZ) ++ (.string (S []) :: (.int .i64 0 :: ([.int .i64 0])))))⟩) hB_bo (by kernel_rfl) (by kernel_rfl) ⟨Nat.le_of_ble_eq_true (by kernel_rfl), (by kernel_rfl)⟩) (.tmp rfl .nil)) ?_
          exact ⟨by rw [hres]; rfl, hx⟩
        · simp only [Bool.not_eq_true', Bool.not_eq_false', Bool.and_eq_true, Bool.or_eq_true, Bool.and_eq_false_iff, Bool.or_eq_false_iff, decide_eq_true_eq, decide_eq_false_iff_not, Bool.not_eq_true, Decidable.not_not] at h104
          have hpd : pdata (vtake (t.drop k2)).1 = ((lzUnpack (vtake (t.drop k2)).1 4096).1, 0) := by unfold pdata; rw [if_pos (by omega), show (lzUnpack (vtake (t.drop k2)).1 4096).2 = 0 by omega]; rfl
          have hlen : (t.drop p).length - (vtake (t.drop k2)).2.1.length = k2 + tk (t.drop k2) - p := by rw [hvd, List.length_drop, List.length_drop, List.length_drop]; omega
          have hres : rone t p h = (⟨⟨(pbase (t.getD p 0).toNat (t.drop (p + 1)) h).1.Kind, (pbase (t.getD p 0).toNat (t.drop (p + 1)) h).1.Back, (pbase (t.getD p 0).toNat (t.drop (p + 1)) h).1.Base, (lzUnpack (vtake (t.drop k2)).1 4096).1⟩, ((p : Nat) : Int), ((k2 + tk (t.drop k2) - p : Nat) : Int)⟩, 0) := by
            rw [← hlen]
            exact rone_good (by unfold pitem; rw [drop_get, hd1, if_neg hne, if_neg hb0, hq2, if_neg hv0, hpd, if_neg (fun h => h rfl)])
          refine wskip ?_
          refine tn ?_
          refine wseq ?_
          refine reg_list ?_
          refine segp (ρ' := [(1, .int .i64 ((p : Nat) : Int)), (6, .pointer (some ⟨bo, 0, none⟩)), (8, .pointer (some ⟨bx, 0, none⟩)), (9, .int .i64 ((k2 : Nat) : Int)), (14, .int .i64 ((tk (t.drop k2) : Nat) : Int)), (106, .string (S ((lzUnpack ((vtake (t.drop k2)).1) 4096).1))), (107, .pointer (some ⟨bx, 34, none⟩))]) (C := []) ha 2 [] rfl (by kernel_rfl) .nil ?_
          clear ha a; intro a ha
          refine lstore (off := 34) ha rfl rfl (by kernel_rfl) hB_bx ⟨.int .i64 ((pbase (t.getD p 0).toNat (t.drop (p + 1)) h).1.Kind) :: (.int .i64 ((pbase (t.getD p 0).toNat (t.drop (p + 1)) h).1.Back) :: ((idc ((pbase (t.getD p 0).toNat (t.drop (p + 1)) h).1.Base)) ++ (.string (S ((lzUnpack ((vtake (t.drop k2)).1) 4096).1)) :: (.int .i64 ((p : Nat) : Int) :: ([.int .i64 0])))))⟩ rfl (by kernel_rfl) (by kernel_rfl) ?_
          clear ha a; intro w20 hc a ha
          replace hB_bo := hc.keep hB_bo (by first | assumption | exact Ne.symm (by assumption))
          replace hx := hc.ext hx hb_bx
          replace hB_bx := hc.at_; clear hc
          refine lnil ?_
          replace ha := ha.sub (ρ' := [(1, .int .i64 ((p : Nat) : Int)), (6, .pointer (some ⟨bo, 0, none⟩)), (8, .pointer (some ⟨bx, 0, none⟩)), (9, .int .i64 ((k2 : Nat) : Int)), (14, .int .i64 ((tk (t.drop k2) : Nat) : Int))]) (by kernel_rfl)
          refine tn ?_
          refine wseq ?_
          refine reg_list ?_
          refine segp (ρ' := [(6, .pointer (some ⟨bo, 0, none⟩)), (8, .pointer (some ⟨bx, 0, none⟩)), (112, .int .i64 (((k2 + (tk (t.drop k2))) - p : Nat) : Int)), (113, .pointer (some ⟨bx, 36, none⟩))]) (C := [InR .i64 ((k2 + (tk (t.drop k2)) : Nat) : Int), BinOk Tryd.prog .sub 3 (.int .i64 ((k2 + (tk (t.drop k2)) : Nat) : Int)) (.int .i64 ((p : Nat) : Int)) (.int .i64 (((k2 + (tk (t.drop k2))) - p : Nat) : Int))]) ha 6 [(4, .val (.int .i64 (((k2 + (tk (t.drop k2))) - p : Nat) : Int)))] rfl (by kernel_rfl) (.cons (by unfold InR; omega) (.cons (subN (a := (k2 + (tk (t.drop k2)))) (n := p) (by omega) (by unfold InR; omega)) .nil)) ?_
          clear ha a; intro a ha
          refine lstore (off := 36) ha rfl rfl (by kernel_rfl) hB_bx ⟨.int .i64 ((pbase (t.getD p 0).toNat (t.drop (p + 1)) h).1.Kind) :: (.int .i64 ((pbase (t.getD p 0).toNat (t.drop (p + 1)) h).1.Back) :: ((idc ((pbase (t.getD p 0).toNat (t.drop (p + 1)) h).1.Base)) ++ (.string (S ((lzUnpack ((vtake (t.drop k2)).1) 4096).1)) :: (.int .i64 ((p : Nat) : Int) :: ([.int .i64 (((k2 + (tk (t.drop k2))) - p : Nat) : Int)])))))⟩ rfl (by kernel_rfl) (by kernel_rfl) ?_
          clear ha a; intro w21 hc a ha
          replace hB_bo := hc.keep hB_bo (by first | assumption | exact Ne.symm (by assumption))
          replace hx := hc.ext hx hb_bx
          replace hB_bx := hc.at_; clear hc
          refine lnil ?_
          replace ha := ha.sub (ρ' := [(6, .pointer (some ⟨bo, 0, none⟩)), (8, .pointer (some ⟨bx, 0, none⟩))]) (by kernel_rfl)
          refine tn ?_
          refine wseq ?_
          refine reg_list ?_
          refine segp (ρ' := [(6, .pointer (some ⟨bo, 0, none⟩)), (114, .agg ⟨.int .i64 ((pbase (t.getD p 0).toNat (t.drop (p + 1)) h).1.Kind) :: (.int .i64 ((pbase (t.getD p 0).toNat (t.drop (p + 1)) h).1.Back) :: ((idc ((pbase (t.getD p 0).toNat (t.drop (p + 1)) h).1.Base)) ++ (.string (S ((lzUnpack ((vtake (t.drop k2)).1) 4096).1)) :: (.int .i64 ((p : Nat) : Int) :: ([.int .i64 (((k2 + (tk (t.drop k2))) - p : Nat) : Int)])))))⟩)]) (C := [RunOk Tryd.prog w21 (Instr.loadAt 57 (.pointer (some ⟨bx, 0, none⟩))) (.agg ⟨.int .i64 ((pbase (t.getD p 0).toNat (t.drop (p + 1)) h).1.Kind) :: (.int .i64 ((pbase (t.getD p 0).toNat (t.drop (p + 1)) h).1.Back) :: ((idc ((pbase (t.getD p 0).toNat (t.drop (p + 1)) h).1.Base)) ++ (.string (S ((lzUnpack ((vtake (t.drop k2)).1) 4096).1)) :: (.int .i64 ((p : Nat) : Int) :: ([.int .i64 (((k2 + (tk (t.drop k2))) - p : Nat) : Int)])))))⟩)]) ha 1 [(0, .val (.agg ⟨.int .i64 ((pbase (t.getD p 0).toNat (t.drop (p + 1)) h).1.Kind) :: (.int .i64 ((pbase (t.getD p 0).toNat (t.drop (p + 1)) h).1.Back) :: ((idc ((pbase (t.getD p 0).toNat (t.drop (p + 1)) h).1.Base)) ++ (.string (S ((lzUnpack ((vtake (t.drop k2)).1) 4096).1)) :: (.int .i64 ((p : Nat) : Int) :: ([.int .i64 (((k2 + (tk (t.drop k2))) - p : Nat) : Int)])))))⟩))] rfl (by kernel_rfl) (.cons (ldN (n := 37) hB_bx (by kernel_rfl) (by kernel_rfl) ⟨Nat.le_of_ble_eq_true (by kernel_rfl), (by kernel_rfl)⟩) .nil) ?_
          clear ha a; intro a ha
          refine lstore (off := 0) ha rfl rfl (by kernel_rfl) hB_bo ⟨.int .i64 ((pbase (t.getD p 0).toNat (t.drop (p + 1)) h).1.Kind) :: (.int .i64 ((pbase (t.getD p 0).toNat (t.drop (p + 1)) h).1.Back) :: ((idc ((pbase (t.getD p 0).toNat (t.drop (p + 1)) h).1.Base)) ++ (.string (S ((lzUnpack ((vtake (t.drop k2)).1) 4096).1)) :: (.int .i64 ((p : Nat) : Int) :: ([.int .i64 (((k2 + (tk (t.drop k2))) - p : Nat) : Int)])))))⟩ rfl (by kernel_rfl) (by kernel_rfl) ?_
          clear ha a; intro w22 hc a ha
          replace hB_bx := hc.keep hB_bx (by first | assumption | exact Ne.symm (by assumption))
          replace hx := hc.ext hx hb_bo
          replace hB_bo := hc.at_; clear hc
          refine segp (ρ' := [(6, .pointer (some ⟨bo, 0, none⟩)), (7, .int .i64 0)]) (C := []) ha 1 [] rfl (by kernel_rfl) .nil ?_
          clear ha a; intro a ha
          refine lnil ?_
          replace ha := ha.sub (ρ' := [(6, .pointer (some ⟨bo, 0, none⟩)), (7, .int .i64 0)]) (by kernel_rfl)
          refine tn ?_
          refine wret ?_
          refine fin ha (.cell rfl (ldVN (n := 37) (vs := ⟨.int .i64 ((pbase (t.getD p 0).toNat (t.drop (p + 1)) h).1.Kind) :: (.int .i64 ((pbase (t.getD p 0).toNat (t.drop (p + 1)) h).1.Back) :: ((idc ((pbase (t.getD p 0).toNat (t.drop (p + 1)) h).1.Base)) ++ (.string (S ((lzUnpack ((vtake (t.drop k2)).1) 4096).1)) :: (.int .i64 ((p : Nat) : Int) :: ([.int .i64 (((k2 + (tk (t.drop k2))) - p : Nat) : Int)])))))⟩) hB_bo (by kernel_rfl) (by kernel_rfl) ⟨Nat.le_of_ble_eq_true (by kernel_rfl), (by kernel_rfl)⟩) (.tmp rfl .nil)) ?_
          exact ⟨by rw [hres]; rfl, hx⟩
theorem rpkdec_ok0 (s : List UInt8) (w : World) (hs : s.length ≤ 9223372036854775807) :
    Fn Tryd.prog 23 #[.string (S s)] w (fun v w' => ∃ A c, v = .tuple #[.slice A (pkDec s).1.length c, .int .i64 (pkDec s).2] ∧ Own w' w.heap.size 57 37 A (pkDec s).1.length c ((pkDec s).1.flatMap encRItem) ∧ Ext w w') := by
  have hx : Ext w w := Ext.rfl' w
  refine enter (N := 74) (args := [.string (S s)]) Tryd.func23 rfl rfl rfl ?_
  intro a ha
  simp only [argEnv, Nat.zero_add, Nat.reduceAdd] at ha
  refine wseq ?_
  refine regp (ρ' := [(0, .string (S s))]) (C := []) ha [] (by kernel_rfl) .nil ?_
  clear ha a; intro a ha
  refine tn ?_
  refine wseq ?_
  refine wseq ?_
  refine regp (ρ' := [(0, .string (S s)), (14, .bool (decide ((262144 : Int) < ((s.length : Nat) : Int))))]) (C := []) ha [] (by kernel_rfl) .nil ?_
  clear ha a; intro a ha
  refine tn ?_
  refine wif ha rfl (fun h14 => ?_) (fun h14 => ?_)
  · replace h14 := of_decide_eq_true h14
    have hop : popen s = (0, [], 3) := by unfold popen; rw [if_pos (by omega)]
    have hres := pkDec_bad hop (by decide)
    refine wseq ?_
    refine regp (ρ' := [(2, .slice none 0 0), (3, .int .i64 3)]) (C := []) ha [] (by kernel_rfl) .nil ?_
    clear ha a; intro a ha
    refine tn ?_
    refine wret ?_
    refine (tr ?_)
    refine fin ha (.tmp rfl (.tmp rfl .nil)) ?_
    rw [hres]; exact ⟨none, 0, rfl, own_nil _ _ _ _, hx⟩
  · replace h14 := of_decide_eq_false h14
    refine wskip ?_
    refine tn ?_
    refine wseq ?_
    refine wseq ?_
    refine regp (ρ' := [(0, .string (S s)), (17, .bool (decide (((s.length : Nat) : Int) < 37)))]) (C := []) ha [] (by kernel_rfl) .nil ?_
    clear ha a; intro a ha
    refine tn ?_
    refine wif ha rfl (fun h17 => ?_) (fun h17 => ?_)
    · replace h17 := of_decide_eq_true h17
      have hop : popen s = (0, [], 2) := by unfold popen; rw [if_neg (by omega), if_pos (.inr (by omega))]
      have hres := pkDec_bad hop (by decide)
      refine wseq ?_
      refine regp (ρ' := [(2, .slice none 0 0), (3, .int .i64 2)]) (C := []) ha [] (by kernel_rfl) .nil ?_
      clear ha a; intro a ha
      refine tn ?_
      refine wret ?_
      refine (tr ?_)
      refine fin ha (.tmp rfl (.tmp rfl .nil)) ?_
      rw [hres]; exact ⟨none, 0, rfl, own_nil _ _ _ _, hx⟩
    · replace h17 := of_decide_eq_false h17
      refine wskip ?_
      refine tn ?_
      refine wseq ?_
      refine wseq ?_
      refine regM hmix ha [] [⟨2, .des, [0], []⟩, ⟨3, .val (.string (S [UInt8.ofNat 1])), [0], [(20, 2)]⟩] [] [] (ρ' := [(0, .string (S s)), (23, .bool (!decide (((s.take 5) : List UInt8) = (([75, 78, 65, 80] ++ [UInt8.ofNat 1]) : List UInt8))))]) [(2, fun u w' => ∃ (b1 : Nat), u = .slice (some ⟨b1, 0, none⟩) 1 1 ∧ w.heap.size ≤ b1 ∧ w'.heap[b1]? = some (.cells #[.int .u8 1] 5 (0, 0)))] [fun w' => Ext w w'] [(1, [0], fun w' => [0 ≤ (5 : Int) ∧ 5 ≤ (s.length : Int)]), (4, [0], fun w' => [([75, 78, 65, 80] : List UInt8).length + ([UInt8.ofNat 1] : List UInt8).length ≤ 9223372036854775807])] (by kernel_rfl) (fun w' => by kernel_rfl) (fun w' => by kernel_rfl) (by kernel_rfl) (fun w' h => h) ?_ ?_ ?_ ?_ ?_ ?_
      · exact ⟨fun w1 w2 h e => Ext.tr h e, trivial⟩
      · refine ⟨?_, trivial⟩
        · rintro _ w1 w2 ⟨b1, rfl, hb_b1, hB_b1⟩ he
          exact ⟨b1, rfl, hb_b1, keepB he hB_b1⟩
      · refine ⟨⟨?_, trivial⟩, ⟨?_, trivial⟩, trivial⟩
        · intro w' hJ
          have he : Ext w w' := hJ
          have hsz := he.size
          replace hx := hx.tr he
          clear he
          exact (.cons ⟨by omega, by omega⟩ .nil)
        · intro w' hJ
          have he : Ext w w' := hJ
          have hsz := he.size
          replace hx := hx.tr he
          clear he
          exact (.cons (by first | omega | (simp only [List.length_cons, List.length_nil, List.length_append, List.length_take, List.length_drop]; omega)) .nil)
      · refine ⟨⟨?_, trivial⟩, ⟨?_, trivial⟩, trivial⟩
        · intro w' hJ
          have he : Ext w w' := hJ
          have hsz := he.size
          replace hx := hx.tr he
          clear he
          refine onewS #[.int .u8 1] 5 1 (by kernel_rfl) ?_
          intro b1 w'' he hb_b1 hB_b1
          exact ⟨⟨b1, rfl, Nat.le_trans hsz hb_b1, hB_b1⟩, he⟩
        · intro w' hJ u0 hu0
          obtain ⟨b1, rfl, hb_b1, hB_b1⟩ := hu0
          have he : Ext w w' := hJ
          have hsz := he.size
          replace hx := hx.tr he
          clear he
          refine ox (m := (some (.val (.string (S [UInt8.ofNat 1]))))) (v := .string (S [UInt8.ofNat 1])) (C := [RunOk Tryd.prog w' (convert 50 9 (.slice (some ⟨b1, 0, none⟩) 1 1)) (.string (S [UInt8.ofNat 1]))]) (by kernel_rfl) (.cons (cvBlk (e := 5) (zs := [(1 : Int)]) (by kernel_rfl) (by kernel_rfl) (by kernel_rfl) hB_b1 rfl rfl) .nil) ?_
          intro w'' he
          exact ⟨rfl, he⟩
      · trivial
      · clear ha a; intro a w2 hJ ha
        have he : Ext w w2 := hJ
        have hsz := he.size
        replace hx := hx.tr he
        clear he
        clear hsz
        refine tn ?_
        refine wif ha rfl (fun h23 => ?_) (fun h23 => ?_)
        · simp only [Bool.not_eq_true', Bool.not_eq_false', Bool.and_eq_true, Bool.or_eq_true, Bool.and_eq_false_iff, Bool.or_eq_false_iff, decide_eq_true_eq, decide_eq_false_iff_not, Bool.not_eq_true, Decidable.not_not] at h23
          have hop : popen s = (0, [], 2) := by unfold popen; rw [if_neg (by omega), if_pos (.inl h23)]
          have hres := pkDec_bad hop (by decide)
          refine wseq ?_
          refine regp (ρ' := [(2, .slice none 0 0), (3, .int .i64 2)]) (C := []) ha [] (by kernel_rfl) .nil ?_
          clear ha a; intro a ha
          refine tn ?_
          refine wret ?_
          refine (tr ?_)
          refine fin ha (.tmp rfl (.tmp rfl .nil)) ?_
          rw [hres]; exact ⟨none, 0, rfl, own_nil _ _ _ _, hx⟩
        · simp only [Bool.not_eq_true', Bool.not_eq_false', Bool.and_eq_true, Bool.or_eq_true, Bool.and_eq_false_iff, Bool.or_eq_false_iff, decide_eq_true_eq, decide_eq_false_iff_not, Bool.not_eq_true, Decidable.not_not] at h23
          replace h23 : s.take 5 = phead := h23
          have hpe := psealed_eq (s := s) (by omega)
          have htl : (s.take (s.length - 32)).length = s.length - 32 := by rw [List.length_take]; omega
          have hdt : (s.drop 5).take (s.length - 32 - 5) = (s.take (s.length - 32)).drop 5 := by rw [List.drop_take]
          refine wskip ?_
          refine tn ?_
          refine wseq ?_
          refine regp (ρ' := [(0, .string (S s)), (4, .string (S (s.take (s.length - 32))))]) (C := [BinOk Tryd.prog .sub 3 (.int .i64 ((s.length : Nat) : Int)) (.int .i64 32) (.int .i64 ((s.length - 32 : Nat) : Int)), 0 ≤ ((s.length - 32 : Nat) : Int) ∧ ((s.length - 32 : Nat) : Int) ≤ (s.length : Int)]) ha [(3, .val (.int .i64 ((s.length - 32 : Nat) : Int)))] (by kernel_rfl) (.cons (subN (a := s.length) (n := 32) (by omega) (by unfold InR; omega)) (.cons ⟨by omega, by omega⟩ .nil)) ?_
          clear ha a; intro a ha
          refine tn ?_
          refine wseq ?_
          refine wseq ?_
          refine reg hmix (ρ' := [(4, .string (S (s.take (s.length - 32)))), (32, .bool (!decide (((psealed (s.take (s.length - 32))) : List UInt8) = (s : List UInt8))))]) (C := [CallOk Tryd.prog w2 39 #[.string (S (s.take (s.length - 32)))] (.string (S (psealed (s.take (s.length - 32)))))]) ha [(1, .val (.string (S (psealed (s.take (s.length - 32))))))] (by kernel_rfl) (.cons (fun w _ => sealed_ok _ w (by first | omega | (simp only [List.length_take, List.length_drop, List.length_append]; omega))) .nil) ?_
          clear ha a; intro a w3 ha he
          replace hx := hx.tr he
          clear he
          refine tn ?_
          refine wif ha rfl (fun h32 => ?_) (fun h32 => ?_)
          · simp only [Bool.not_eq_true', Bool.not_eq_false', Bool.and_eq_true, Bool.or_eq_true, Bool.and_eq_false_iff, Bool.or_eq_false_iff, decide_eq_true_eq, decide_eq_false_iff_not, Bool.not_eq_true, Decidable.not_not] at h32
            have hop : popen s = (0, [], 5) := by unfold popen; rw [if_neg (by omega), if_neg (by rintro (h | h); exact h h23; omega), if_pos (fun h => h32 (hpe.2 h))]
            have hres := pkDec_bad hop (by decide)
            refine wseq ?_
            refine regp (ρ' := [(2, .slice none 0 0), (3, .int .i64 5)]) (C := []) ha [] (by kernel_rfl) .nil ?_
            clear ha a; intro a ha
            refine tn ?_
            refine wret ?_
            refine (tr ?_)
            refine fin ha (.tmp rfl (.tmp rfl .nil)) ?_
            rw [hres]; exact ⟨none, 0, rfl, own_nil _ _ _ _, hx⟩
          · simp only [Bool.not_eq_true', Bool.not_eq_false', Bool.and_eq_true, Bool.or_eq_true, Bool.and_eq_false_iff, Bool.or_eq_false_iff, decide_eq_true_eq, decide_eq_false_iff_not, Bool.not_eq_true, Decidable.not_not] at h32
            replace h32 := hpe.1 h32
            have hvl := vk_le ((s.take (s.length - 32)).drop 5)
            rw [List.length_drop] at hvl
            refine wskip ?_
            refine tn ?_
            refine wseq ?_
            refine reg hmix (ρ' := [(4, .string (S (s.take (s.length - 32)))), (5, .int .u64 (((vget ((s.take (s.length - 32)).drop 5)).1 : Nat) : Int)), (6, .int .i64 ((vk ((s.take (s.length - 32)).drop 5) : Nat) : Int))]) (C := [0 ≤ (5 : Int) ∧ 5 ≤ ((s.take (s.length - 32)).length : Int), CallOk Tryd.prog w3 41 #[.string (S ((s.take (s.length - 32)).drop 5))] (.tuple #[.int .u64 (((vget ((s.take (s.length - 32)).drop 5)).1 : Nat) : Int), .int .i64 ((vk ((s.take (s.length - 32)).drop 5) : Nat) : Int)])]) ha [(2, .val (.tuple #[.int .u64 (((vget ((s.take (s.length - 32)).drop 5)).1 : Nat) : Int), .int .i64 ((vk ((s.take (s.length - 32)).drop 5) : Nat) : Int)]))] (by kernel_rfl) (.cons ⟨by omega, by omega⟩ (.cons (fun w _ => rget_ok _ w (by first | omega | (simp only [List.length_take, List.length_drop, List.length_append]; omega))) .nil)) ?_
            clear ha a; intro a w4 ha he
            replace hx := hx.tr he
            clear he
            have hgl := vget_lt ((s.take (s.length - 32)).drop 5)
            refine tn ?_
            refine wseq ?_
            refine wseq ?_
            refine regp (ρ' := [(4, .string (S (s.take (s.length - 32)))), (5, .int .u64 (((vget ((s.take (s.length - 32)).drop 5)).1 : Nat) : Int)), (6, .int .i64 ((vk ((s.take (s.length - 32)).drop 5) : Nat) : Int)), (40, .bool (decide (((vk ((s.take (s.length - 32)).drop 5) : Nat) : Int) = 0)))]) (C := []) ha [] (by kernel_rfl) .nil ?_
            clear ha a; intro a ha
            refine tn ?_
            refine wif ha rfl (fun h40 => ?_) (fun h40 => ?_)
            · replace h40 := of_decide_eq_true h40
              have hop : popen s = (0, [], 2) := by unfold popen; rw [if_neg (by omega), if_neg (by rintro (h | h); exact h h23; omega), if_neg (fun hh => hh h32), hdt, if_pos ((vk_zero _).1 (by omega))]
              have hres := pkDec_bad hop (by decide)
              refine wseq ?_
              refine regp (ρ' := [(2, .slice none 0 0), (3, .int .i64 2)]) (C := []) ha [] (by kernel_rfl) .nil ?_
              clear ha a; intro a ha
              refine tn ?_
              refine wret ?_
              refine (tr ?_)
              refine fin ha (.tmp rfl (.tmp rfl .nil)) ?_
              rw [hres]; exact ⟨none, 0, rfl, own_nil _ _ _ _, hx⟩
            · replace h40 := of_decide_eq_false h40
              have hv0 : ¬ (vget ((s.take (s.length - 32)).drop 5)).2.2 ≠ 0 := fun e => by have := (vk_zero ((s.take (s.length - 32)).drop 5)).2 e; omega
              refine wskip ?_
              refine tn ?_
              refine wseq ?_
              refine wseq ?_
              refine regp (ρ' := [(4, .string (S (s.take (s.length - 32)))), (5, .int .u64 (((vget ((s.take (s.length - 32)).drop 5)).1 : Nat) : Int)), (6, .int .i64 ((vk ((s.take (s.length - 32)).drop 5) : Nat) : Int)), (42, .bool (decide ((400 : Int) < (((vget ((s.take (s.length - 32)).drop 5)).1 : Nat) : Int))))]) (C := []) ha [] (by kernel_rfl) .nil ?_
              clear ha a; intro a ha
              refine tn ?_
              refine wif ha rfl (fun h42 => ?_) (fun h42 => ?_)
              · replace h42 := of_decide_eq_true h42
                have hop : popen s = (0, [], 3) := by unfold popen; rw [if_neg (by omega), if_neg (by rintro (h | h); exact h h23; omega), if_neg (fun hh => hh h32), hdt, if_neg hv0, if_pos (by omega)]
                have hres := pkDec_bad hop (by decide)
                refine wseq ?_
                refine regp (ρ' := [(2, .slice none 0 0), (3, .int .i64 3)]) (C := []) ha [] (by kernel_rfl) .nil ?_
                clear ha a; intro a ha
                refine tn ?_
                refine wret ?_
                refine (tr ?_)
                refine fin ha (.tmp rfl (.tmp rfl .nil)) ?_
                rw [hres]; exact ⟨none, 0, rfl, own_nil _ _ _ _, hx⟩
              · replace h42 := of_decide_eq_false h42
                have hop : popen s = ((vget ((s.take (s.length - 32)).drop 5)).1, (vget ((s.take (s.length - 32)).drop 5)).2.1, 0) := by unfold popen; rw [if_neg (by omega), if_neg (by rintro (h | h); exact h h23; omega), if_neg (fun hh => hh h32), hdt, if_neg hv0, if_neg (by omega)]
                have hgo0 : pkDec s = pgo (s.length - 32) (vget ((s.take (s.length - 32)).drop 5)).1 0 (vget ((s.take (s.length - 32)).drop 5)).2.1 [] := by unfold pkDec; rw [hop, if_neg (fun h => h rfl)]
                rw [(vget_drop ((s.take (s.length - 32)).drop 5) (by omega)).1, List.drop_drop] at hgo0
                refine wskip ?_
                refine tn ?_
                refine wseq ?_
                refine regp (ρ' := [(4, .string (S (s.take (s.length - 32)))), (5, .int .u64 (((vget ((s.take (s.length - 32)).drop 5)).1 : Nat) : Int)), (6, .int .i64 ((vk ((s.take (s.length - 32)).drop 5) : Nat) : Int)), (7, .slice none 0 0)]) (C := []) ha [] (by kernel_rfl) .nil ?_
                clear ha a; intro a ha
                refine tn ?_
                refine wseq ?_
                refine regp (ρ' := [(4, .string (S (s.take (s.length - 32)))), (5, .int .u64 (((vget ((s.take (s.length - 32)).drop 5)).1 : Nat) : Int)), (7, .slice none 0 0), (8, .int .i64 ((5 + (vk ((s.take (s.length - 32)).drop 5)) : Nat) : Int))]) (C := [InR .i64 ((5 + (vk ((s.take (s.length - 32)).drop 5)) : Nat) : Int)]) ha [] (by kernel_rfl) (.cons (by unfold InR; omega) .nil) ?_
                clear ha a; intro a ha
                refine tn ?_
                refine wseq ?_
                refine wseq ?_
                refine regp (ρ' := [(4, .string (S (s.take (s.length - 32)))), (5, .int .u64 (((vget ((s.take (s.length - 32)).drop 5)).1 : Nat) : Int)), (7, .slice none 0 0), (8, .int .i64 ((5 + (vk ((s.take (s.length - 32)).drop 5)) : Nat) : Int)), (9, .int .i64 0)]) (C := []) ha [] (by kernel_rfl) .nil ?_
                clear ha a; intro a ha
                refine tn ?_
                refine wblk ?_
                refine wloop (fun zz a w5 => ∃ (i p : Nat) (out : List RItemR) (A : Option Addr) (c : Nat), zz = (vget ((s.take (s.length - 32)).drop 5)).1 - i ∧ On 74 [(4, .string (S (s.take (s.length - 32)))), (5, .int .u64 (((vget ((s.take (s.length - 32)).drop 5)).1 : Nat) : Int)), (7, .slice A out.length c), (8, .int .i64 ((p : Nat) : Int)), (9, .int .i64 ((i : Nat) : Int))] a ∧ Ext w w5 ∧ Own w5 w.heap.size 57 37 A out.length c (out.flatMap encRItem) ∧ (i ≤ (vget ((s.take (s.length - 32)).drop 5)).1) ∧ (p ≤ (s.take (s.length - 32)).length) ∧ (out.length = i) ∧ (pkDec s = pgo (s.length - 32) ((vget ((s.take (s.length - 32)).drop 5)).1 - i) i ((s.take (s.length - 32)).drop p) out)) _ ⟨0, (5 + vk ((s.take (s.length - 32)).drop 5)), [], none, 0, rfl, ha.sub (ρ' := [(4, .string (S (s.take (s.length - 32)))), (5, .int .u64 (((vget ((s.take (s.length - 32)).drop 5)).1 : Nat) : Int)), (7, .slice none ([].length) 0), (8, .int .i64 (((5 + vk ((s.take (s.length - 32)).drop 5)) : Nat) : Int)), (9, .int .i64 ((0 : Nat) : Int))]) (by kernel_rfl), hx, own_nil _ _ _ _, by omega, by omega, rfl, hgo0⟩ ?_
                clear ha hx
                rintro zz a w6 ⟨i, p, out, A, c, hzz, ha, hx, h1, hi, hp, hol, hgo⟩
                refine wseq ?_
                refine wseq ?_
                refine regp (ρ' := [(4, .string (S (s.take (s.length - 32)))), (5, .int .u64 (((vget ((s.take (s.length - 32)).drop 5)).1 : Nat) : Int)), (7, .slice A out.length c), (8, .int .i64 ((p : Nat) : Int)), (9, .int .i64 ((i : Nat) : Int)), (48, .bool (decide (((i : Nat) : Int) < (((vget ((s.take (s.length - 32)).drop 5)).1 : Nat) : Int))))]) (C := [InR .i64 (((vget ((s.take (s.length - 32)).drop 5)).1 : Nat) : Int)]) ha [] (by kernel_rfl) (.cons (by unfold InR; omega) .nil) ?_
                clear ha a; intro a ha
                refine tn ?_
                refine wif ha rfl (fun h48 => ?_) (fun h48 => ?_)
                · replace h48 := of_decide_eq_true h48
                  refine wskip ?_
                  refine tn ?_
                  refine wseq ?_
                  refine wblk ?_
                  refine wseq ?_
                  refine reg_list ?_
                  refine seg (ρ' := [(4, .string (S (s.take (s.length - 32)))), (5, .int .u64 (((vget ((s.take (s.length - 32)).drop 5)).1 : Nat) : Int)), (7, .slice A out.length c), (8, .int .i64 ((p : Nat) : Int)), (9, .int .i64 ((i : Nat) : Int)), (56, .agg ⟨encRItem (rone (s.take (s.length - 32)) p i).1⟩), (57, .int .i64 ((rone (s.take (s.length - 32)) p i).2))]) (C := [CallOk Tryd.prog w6 42 #[.string (S (s.take (s.length - 32))), .int .i64 ((p : Nat) : Int), .int .i64 ((i : Nat) : Int)] (.tuple #[.agg ⟨encRItem (rone (s.take (s.length - 32)) p i).1⟩, .int .i64 ((rone (s.take (s.length - 32)) p i).2)])]) ha 7 [(3, .val (.tuple #[.agg ⟨encRItem (rone (s.take (s.length - 32)) p i).1⟩, .int .i64 ((rone (s.take (s.length - 32)) p i).2)]))] (by kernel_rfl) (.cons (fun w _ => rone_ok _ _ _ w (by first | omega | (simp only [List.length_take, List.length_drop, List.length_append]; omega)) (by omega) (by omega)) .nil) ?_
                  clear ha a; intro a w7 ha he
                  replace hx := hx.tr he
                  replace h1 := ownE he h1
                  clear he
                  refine lnew ha rfl (by kernel_rfl) ⟨.int .i64 0 :: (.int .i64 0 :: ((idc idZ) ++ (.string (S []) :: (.int .i64 0 :: ([.int .i64 0])))))⟩ 57 (by kernel_rfl) ?_
                  clear ha a; intro bx w8 he hb_bx hB_bx a ha
                  have hno_h1_bx : (Value.slice A out.length c).ownBlock ≠ some bx := own_ne h1 hb_bx
                  replace h1 := ownE he h1
                  replace hb_bx := Nat.le_trans hx.size hb_bx
                  replace hx := hx.tr he
                  clear he
                  refine lstore (off := 0) ha rfl rfl (by kernel_rfl) hB_bx ⟨encRItem (rone (s.take (s.length - 32)) p i).1⟩ rfl (by kernel_rfl) (by kernel_rfl) ?_
                  clear ha a; intro w9 hc a ha
                  replace h1 := ownCn hc hno_h1_bx h1
                  replace hx := hc.ext hx hb_bx
                  replace hB_bx := hc.at_; clear hc
                  refine segp (ρ' := [(4, .string (S (s.take (s.length - 32)))), (5, .int .u64 (((vget ((s.take (s.length - 32)).drop 5)).1 : Nat) : Int)), (7, .slice A out.length c), (8, .int .i64 ((p : Nat) : Int)), (9, .int .i64 ((i : Nat) : Int)), (10, .pointer (some ⟨bx, 0, none⟩)), (11, .int .i64 ((rone (s.take (s.length - 32)) p i).2))]) (C := []) ha 1 [] rfl (by kernel_rfl) .nil ?_
                  clear ha a; intro a ha
                  refine lnil ?_
                  replace ha := ha.sub (ρ' := [(4, .string (S (s.take (s.length - 32)))), (5, .int .u64 (((vget ((s.take (s.length - 32)).drop 5)).1 : Nat) : Int)), (7, .slice A out.length c), (8, .int .i64 ((p : Nat) : Int)), (9, .int .i64 ((i : Nat) : Int)), (10, .pointer (some ⟨bx, 0, none⟩)), (11, .int .i64 ((rone (s.take (s.length - 32)) p i).2))]) (by kernel_rfl)
                  have hra := rone_at (s.take (s.length - 32)) p i
                  refine tn ?_
                  refine wseq ?_
                  refine wseq ?_
                  refine regp (ρ' := [(4, .string (S (s.take (s.length - 32)))), (5, .int .u64 (((vget ((s.take (s.length - 32)).drop 5)).1 : Nat) : Int)), (7, .slice A out.length c), (8, .int .i64 ((p : Nat) : Int)), (9, .int .i64 ((i : Nat) : Int)), (10, .pointer (some ⟨bx, 0, none⟩)), (11, .int .i64 ((rone (s.take (s.length - 32)) p i).2)), (59, .bool (!decide (((rone (s.take (s.length - 32)) p i).2 : Int) = 0)))]) (C := []) ha [] (by kernel_rfl) .nil ?_
                  clear ha a; intro a ha
                  refine tn ?_
                  refine wif ha rfl (fun h59 => ?_) (fun h59 => ?_)
                  · simp only [Bool.not_eq_true', Bool.not_eq_false', Bool.and_eq_true, Bool.or_eq_true, Bool.and_eq_false_iff, Bool.or_eq_false_iff, decide_eq_true_eq, decide_eq_false_iff_not, Bool.not_eq_true, Decidable.not_not] at h59
                    have hres : pkDec s = ([], (rone (s.take (s.length - 32)) p i).2) := by rw [hgo, hra]; exact pgo_bad (by omega) (by omega)
                    refine wseq ?_
                    refine regp (ρ' := [(2, .slice none 0 0), (3, .int .i64 ((rone (s.take (s.length - 32)) p i).2))]) (C := []) ha [] (by kernel_rfl) .nil ?_
                    clear ha a; intro a ha
                    refine tn ?_
                    refine wret ?_
                    refine (tr (br (tr (tr (br (tr ?_))))))
                    refine fin ha (.tmp rfl (.tmp rfl .nil)) ?_
                    rw [hres]; exact ⟨none, 0, rfl, own_nil _ _ _ _, hx⟩
                  · simp only [Bool.not_eq_true', Bool.not_eq_false', Bool.and_eq_true, Bool.or_eq_true, Bool.and_eq_false_iff, Bool.or_eq_false_iff, decide_eq_true_eq, decide_eq_false_iff_not, Bool.not_eq_true, Decidable.not_not] at h59
                    have hpz : ¬ (pitem ((s.take (s.length - 32)).drop p) i).2.2 ≠ 0 := by omega
                    have hrest := pitem_rest (s.take (s.length - 32)) p i hp
                    have hpl := pitem_len ((s.take (s.length - 32)).drop p) i
                    rw [List.length_drop] at hpl
                    have hY : (⟨(pitem ((s.take (s.length - 32)).drop p) i).1, ((s.length - 32 - ((s.take (s.length - 32)).drop p).length : Nat) : Int), ((((s.take (s.length - 32)).drop p).length - (pitem ((s.take (s.length - 32)).drop p) i).2.1.length : Nat) : Int)⟩ : RItemR) = (rone (s.take (s.length - 32)) p i).1 := by
                      unfold rone
                      rw [if_pos (by omega), show s.length - 32 - ((s.take (s.length - 32)).drop p).length = p by rw [List.length_drop]; omega]
                    have hYL : (rone (s.take (s.length - 32)) p i).1.Len = ((((s.take (s.length - 32)).drop p).length - (pitem ((s.take (s.length - 32)).drop p) i).2.1.length : Nat) : Int) := by rw [← hY]
                    have hdl : ((s.take (s.length - 32)).drop p).length = (s.take (s.length - 32)).length - p := by rw [List.length_drop]
                    refine wskip ?_
                    refine tn ?_
                    refine wseq ?_
                    refine reg_list ?_
                    refine segp (ρ' := [(4, .string (S (s.take (s.length - 32)))), (5, .int .u64 (((vget ((s.take (s.length - 32)).drop 5)).1 : Nat) : Int)), (8, .int .i64 ((p : Nat) : Int)), (9, .int .i64 ((i : Nat) : Int)), (10, .pointer (some ⟨bx, 0, none⟩)), (61, .slice A out.length c), (62, .agg ⟨encRItem (rone (s.take (s.length - 32)) p i).1⟩)]) (C := [RunOk Tryd.prog w9 (Instr.loadAt 57 (.pointer (some ⟨bx, 0, none⟩))) (.agg ⟨encRItem (rone (s.take (s.length - 32)) p i).1⟩)]) ha 2 [(1, .val (.agg ⟨encRItem (rone (s.take (s.length - 32)) p i).1⟩))] rfl (by kernel_rfl) (.cons (ldN (n := 37) hB_bx (by kernel_rfl) (by kernel_rfl) ⟨Nat.le_of_ble_eq_true (by kernel_rfl), (by kernel_rfl)⟩) .nil) ?_
                    clear ha a; intro a ha
                    refine lnewS ha rfl (by kernel_rfl) ⟨encRItem (rone (s.take (s.length - 32)) p i).1⟩ 57 1 (by kernel_rfl) ?_
                    clear ha a; intro b10 w11 he hb_b10 hB_b10 a ha
                    have hne_bx_b10 : bx ≠ b10 := ne_new hB_bx hb_b10
                    have hno_h1_b10 : (Value.slice A out.length c).ownBlock ≠ some b10 := own_ne h1 hb_b10
                    replace hB_bx := keepB he hB_bx
                    replace h1 := ownE he h1
                    replace hb_b10 := Nat.le_trans hx.size hb_b10
                    replace hx := hx.tr he
                    clear he
                    refine lapp (by_ := 80) ha rfl (by kernel_rfl) rfl (by kernel_rfl) rfl h1 rfl (encRItem (rone (s.take (s.length - 32)) p i).1) rfl (news_blk hB_b10) rfl (by omega) (by omega) hx.size ?_
                    clear ha a; intro A12 c13 w14 h1b hg a ha
                    clear hB_b10 hb_b10
                    replace hB_bx := keepGo hg hno_h1_bx hB_bx
                    replace hx := extG hx hg h1 (Nat.le_refl _)
                    clear hg h1
                    rw [show (((out.flatMap encRItem) ++ (encRItem (rone (s.take (s.length - 32)) p i).1)) : List Value) = ((out ++ [(rone (s.take (s.length - 32)) p i).1]).flatMap encRItem) from by simp] at h1b
                    rw [show ((out.length + 1) : Nat) = (out ++ [(rone (s.take (s.length - 32)) p i).1]).length from by simp] at ha h1b
                    refine segp (ρ' := [(4, .string (S (s.take (s.length - 32)))), (5, .int .u64 (((vget ((s.take (s.length - 32)).drop 5)).1 : Nat) : Int)), (7, .slice A12 ((out ++ [(rone (s.take (s.length - 32)) p i).1]).length) c13), (8, .int .i64 ((p : Nat) : Int)), (9, .int .i64 ((i : Nat) : Int)), (10, .pointer (some ⟨bx, 0, none⟩))]) (C := []) ha 1 [] rfl (by kernel_rfl) .nil ?_
                    clear ha a; intro a ha
                    refine lnil ?_
                    replace ha := ha.sub (ρ' := [(4, .string (S (s.take (s.length - 32)))), (5, .int .u64 (((vget ((s.take (s.length - 32)).drop 5)).1 : Nat) : Int)), (7, .slice A12 ((out ++ [(rone (s.take (s.length - 32)) p i).1]).length) c13), (8, .int .i64 ((p : Nat) : Int)), (9, .int .i64 ((i : Nat) : Int)), (10, .pointer (some ⟨bx, 0, none⟩))]) (by kernel_rfl)
                    refine tn ?_
                    refine regp (ρ' := [(4, .string (S (s.take (s.length - 32)))), (5, .int .u64 (((vget ((s.take (s.length - 32)).drop 5)).1 : Nat) : Int)), (7, .slice A12 ((out ++ [(rone (s.take (s.length - 32)) p i).1]).length) c13), (8, .int .i64 (((p : Nat) : Int) + ((rone (s.take (s.length - 32)) p i).1.Len))), (9, .int .i64 ((i : Nat) : Int))]) (C := [RunOk Tryd.prog w14 (Instr.loadAt 3 (.pointer (some ⟨bx, 36, none⟩))) (.int .i64 ((rone (s.take (s.length - 32)) p i).1.Len)), InR .i64 (((p : Nat) : Int) + ((rone (s.take (s.length - 32)) p i).1.Len))]) ha [(2, .val (.int .i64 ((rone (s.take (s.length - 32)) p i).1.Len)))] (by kernel_rfl) (.cons (ld1 hB_bx (by kernel_rfl) (by kernel_rfl)) (.cons (by unfold InR; omega) .nil)) ?_
                    clear ha a; intro a ha
                    rw [show ((((p : Nat) : Int) + ((rone (s.take (s.length - 32)) p i).1.Len)) : Int) = (((p + (((s.take (s.length - 32)).drop p).length - (pitem ((s.take (s.length - 32)).drop p) i).2.1.length)) : Nat) : Int) from by omega] at ha
                    refine bn ?_
                    refine tn ?_
                    refine regp (ρ' := [(4, .string (S (s.take (s.length - 32)))), (5, .int .u64 (((vget ((s.take (s.length - 32)).drop 5)).1 : Nat) : Int)), (7, .slice A12 ((out ++ [(rone (s.take (s.length - 32)) p i).1]).length) c13), (8, .int .i64 (((p + (((s.take (s.length - 32)).drop p).length - (pitem ((s.take (s.length - 32)).drop p) i).2.1.length)) : Nat) : Int)), (9, .int .i64 ((i + 1 : Nat) : Int))]) (C := [InR .i64 ((i + 1 : Nat) : Int)]) ha [] (by kernel_rfl) (.cons (by unfold InR; omega) .nil) ?_
                    clear ha a; intro a ha
                    exact tn ⟨(vget ((s.take (s.length - 32)).drop 5)).1 - ((i + 1)), by omega, (i + 1), (p + (((s.take (s.length - 32)).drop p).length - (pitem ((s.take (s.length - 32)).drop p) i).2.1.length)), (out ++ [(rone (s.take (s.length - 32)) p i).1]), A12, c13, rfl, ha.sub (ρ' := [(4, .string (S (s.take (s.length - 32)))), (5, .int .u64 (((vget ((s.take (s.length - 32)).drop 5)).1 : Nat) : Int)), (7, .slice A12 ((out ++ [(rone (s.take (s.length - 32)) p i).1]).length) c13), (8, .int .i64 (((p + (((s.take (s.length - 32)).drop p).length - (pitem ((s.take (s.length - 32)).drop p) i).2.1.length)) : Nat) : Int)), (9, .int .i64 (((i + 1) : Nat) : Int))]) (by kernel_rfl), hx, h1b, by omega, by omega, by simp; omega, by rw [hgo, pgo_step (by omega) hpz, ← hrest, hY]⟩
                · replace h48 := of_decide_eq_false h48
                  obtain rfl : i = (vget ((s.take (s.length - 32)).drop 5)).1 := by omega
                  rw [Nat.sub_self, pgo] at hgo
                  refine wexit ?_
                  refine (te (te (be ?_)))
                  refine tn ?_
                  refine wseq ?_
                  refine wseq ?_
                  refine regp (ρ' := [(7, .slice A out.length c), (72, .bool (!decide (((p : Nat) : Int) = (((s.take (s.length - 32)).length : Nat) : Int))))]) (C := []) ha [] (by kernel_rfl) .nil ?_
                  clear ha a; intro a ha
                  refine tn ?_
                  refine wif ha rfl (fun h72 => ?_) (fun h72 => ?_)
                  · simp only [Bool.not_eq_true', Bool.not_eq_false', Bool.and_eq_true, Bool.or_eq_true, Bool.and_eq_false_iff, Bool.or_eq_false_iff, decide_eq_true_eq, decide_eq_false_iff_not, Bool.not_eq_true, Decidable.not_not] at h72
                    have hres : pkDec s = ([], 2) := by rw [hgo, if_neg (fun e => by have := congrArg List.length e; rw [List.length_drop] at this; simp only [List.length_nil] at this; omega)]
                    refine wseq ?_
                    refine regp (ρ' := [(2, .slice none 0 0), (3, .int .i64 2)]) (C := []) ha [] (by kernel_rfl) .nil ?_
                    clear ha a; intro a ha
                    refine tn ?_
                    refine wret ?_
                    refine (tr ?_)
                    refine fin ha (.tmp rfl (.tmp rfl .nil)) ?_
                    rw [hres]; exact ⟨none, 0, rfl, own_nil _ _ _ _, hx⟩
                  · simp only [Bool.not_eq_true', Bool.not_eq_false', Bool.and_eq_true, Bool.or_eq_true, Bool.and_eq_false_iff, Bool.or_eq_false_iff, decide_eq_true_eq, decide_eq_false_iff_not, Bool.not_eq_true, Decidable.not_not] at h72
                    have hres : pkDec s = (out, 0) := by rw [hgo, if_pos (List.drop_of_length_le (by omega))]
                    refine wskip ?_
                    refine tn ?_
                    refine wseq ?_
                    refine regp (ρ' := [(2, .slice A out.length c), (3, .int .i64 0)]) (C := []) ha [] (by kernel_rfl) .nil ?_
                    clear ha a; intro a ha
                    refine tn ?_
                    refine wret ?_
                    refine fin ha (.tmp rfl (.tmp rfl .nil)) ?_
                    rw [hres]; exact ⟨_, _, rfl, h1, hx⟩
end Go.Kn
end
section
set_option linter.unusedSimpArgs false
set_option linter.unusedVariables false
set_option maxRecDepth 100000
namespace Go.Kn
open Go.Proofs
theorem same15_ok (A1 A2 : Option Addr) (c1 c2 : Nat) (l1 l2 : List RItemR) (w : World) (hr1 : Rd w 37 A1 l1.length (l1.flatMap encRItem)) (hr2 : Rd w 37 A2 l2.length (l2.flatMap encRItem)) (hl1 : l1.length ≤ 1000000) (hl2 : l2.length ≤ 1000000) :
    Fn Tryd.prog 24 #[.slice A1 l1.length c1, .slice A2 l2.length c2] w (fun v w' => v = .bool (decide (l1.map RItemR.X = l2.map RItemR.X)) ∧ Ext w w') := by
  have hx : Ext w w := Ext.rfl' w
  refine enter (N := 67) (args := [.slice A1 l1.length c1, .slice A2 l2.length c2]) Tryd.func24 rfl rfl rfl ?_
  intro a ha
  simp only [argEnv, Nat.zero_add, Nat.reduceAdd] at ha
  refine wseq ?_
  refine regp (ρ' := [(0, .slice A1 l1.length c1), (1, .slice A2 l2.length c2)]) (C := []) ha [] (by kernel_rfl) .nil ?_
  clear ha a; intro a ha
  refine tn ?_
  refine wseq ?_
  refine wseq ?_
  refine regp (ρ' := [(0, .slice A1 l1.length c1), (1, .slice A2 l2.length c2), (10, .bool (!decide (((l1.length : Nat) : Int) = ((l2.length : Nat) : Int))))]) (C := []) ha [] (by kernel_rfl) .nil ?_
  clear ha a; intro a ha
  refine tn ?_
  refine wif ha rfl (fun h10 => ?_) (fun h10 => ?_)
  · simp only [Bool.not_eq_true', Bool.not_eq_false', Bool.and_eq_true, Bool.or_eq_true, Bool.and_eq_false_iff, Bool.or_eq_false_iff, decide_eq_true_eq, decide_eq_false_iff_not, Bool.not_eq_true, Decidable.not_not] at h10
    have hres : decide (l1.map RItemR.X = l2.map RItemR.X) = false := decide_eq_false (fun e => by have := congrArg List.length e; simp only [List.length_map] at this; omega)
    refine wseq ?_
    refine regp (ρ' := [(4, .bool false)]) (C := []) ha [] (by kernel_rfl) .nil ?_
    clear ha a; intro a ha
    refine tn ?_
    refine wret ?_
    refine (tr ?_)
    refine fin ha (.tmp rfl .nil) ?_
    exact ⟨congrArg Value.bool hres.symm, hx⟩
  · simp only [Bool.not_eq_true', Bool.not_eq_false', Bool.and_eq_true, Bool.or_eq_true, Bool.and_eq_false_iff, Bool.or_eq_false_iff, decide_eq_true_eq, decide_eq_false_iff_not, Bool.not_eq_true, Decidable.not_not] at h10
    refine wskip ?_
    refine tn ?_
    refine wseq ?_
    refine wseq ?_
    refine regp (ρ' := [(0, .slice A1 l1.length c1), (1, .slice A2 l2.length c2), (5, .int .i64 0)]) (C := []) ha [] (by kernel_rfl) .nil ?_
    clear ha a; intro a ha
    refine tn ?_
    refine wblk ?_
    refine wloop (fun zz a w1 => ∃ (i : Nat), zz = l1.length - i ∧ On 67 [(0, .slice A1 l1.length c1), (1, .slice A2 l2.length c2), (5, .int .i64 ((i : Nat) : Int))] a ∧ Ext w w1 ∧ (i ≤ l1.length) ∧ ((l1.map RItemR.X).take i = (l2.map RItemR.X).take i)) _ ⟨0, rfl, ha.sub (ρ' := [(0, .slice A1 l1.length c1), (1, .slice A2 l2.length c2), (5, .int .i64 ((0 : Nat) : Int))]) (by kernel_rfl), hx, by omega, rfl⟩ ?_
    clear ha hx
    rintro zz a w2 ⟨i, hzz, ha, hx, hi, hk⟩
    refine wseq ?_
    refine wseq ?_
    refine regp (ρ' := [(0, .slice A1 l1.length c1), (1, .slice A2 l2.length c2), (5, .int .i64 ((i : Nat) : Int)), (14, .bool (decide (((i : Nat) : Int) < ((l1.length : Nat) : Int))))]) (C := []) ha [] (by kernel_rfl) .nil ?_
    clear ha a; intro a ha
    refine tn ?_
    refine wif ha rfl (fun h14 => ?_) (fun h14 => ?_)
    · replace h14 := of_decide_eq_true h14
      refine wskip ?_
      refine tn ?_
      refine wseq ?_
      refine wblk ?_
      refine wseq ?_
      refine reg hmix (ρ' := [(0, .slice A1 l1.length c1), (1, .slice A2 l2.length c2), (5, .int .i64 ((i : Nat) : Int)), (66, .bool ((((!decide (((l1.getD i default).X.Kind : Int) = (l2.getD i default).X.Kind)) || (!decide (((l1.getD i default).X.Back : Int) = (l2.getD i default).X.Back))) || (!decide ((l1.getD i default).X.Base = (l2.getD i default).X.Base))) || (!decide (((l1.getD i default).X.Data : List UInt8) = ((l2.getD i default).X.Data : List UInt8)))))]) (C := [RunOk Tryd.prog w2 (Instr.indexAt 39 (.slice A1 l1.length c1) (.int .i64 ((i : Nat) : Int))) (.pointer (some ⟨ab A1, ao A1 + i * 37, none⟩)), RunOk Tryd.prog w2 (Instr.loadAt 3 (.pointer (some ⟨ab A1, ao A1 + i * 37, none⟩))) (.int .i64 ((l1.getD i default).X.Kind)), RunOk Tryd.prog w2 (Instr.indexAt 39 (.slice A2 l2.length c2) (.int .i64 ((i : Nat) : Int))) (.pointer (some ⟨ab A2, ao A2 + i * 37, none⟩)), RunOk Tryd.prog w2 (Instr.loadAt 3 (.pointer (some ⟨ab A2, ao A2 + i * 37, none⟩))) (.int .i64 ((l2.getD i default).X.Kind)), (!decide (((l1.getD i default).X.Kind : Int) = (l2.getD i default).X.Kind)) = false → All [RunOk Tryd.prog w2 (Instr.indexAt 39 (.slice A1 l1.length c1) (.int .i64 ((i : Nat) : Int))) (.pointer (some ⟨ab A1, ao A1 + i * 37, none⟩)), RunOk Tryd.prog w2 (Instr.loadAt 3 (.pointer (some ⟨ab A1, ao A1 + i * 37 + 1, none⟩))) (.int .i64 ((l1.getD i default).X.Back)), RunOk Tryd.prog w2 (Instr.indexAt 39 (.slice A2 l2.length c2) (.int .i64 ((i : Nat) : Int))) (.pointer (some ⟨ab A2, ao A2 + i * 37, none⟩)), RunOk Tryd.prog w2 (Instr.loadAt 3 (.pointer (some ⟨ab A2, ao A2 + i * 37 + 1, none⟩))) (.int .i64 ((l2.getD i default).X.Back))], ((!decide (((l1.getD i default).X.Kind : Int) = (l2.getD i default).X.Kind)) || (!decide (((l1.getD i default).X.Back : Int) = (l2.getD i default).X.Back))) = false → All [RunOk Tryd.prog w2 (Instr.indexAt 39 (.slice A1 l1.length c1) (.int .i64 ((i : Nat) : Int))) (.pointer (some ⟨ab A1, ao A1 + i * 37, none⟩)), RunOk Tryd.prog w2 (Instr.loadAt 48 (.pointer (some ⟨ab A1, ao A1 + i * 37 + 2, none⟩))) (.agg ⟨idc ((l1.getD i default).X.Base)⟩), RunOk Tryd.prog w2 (Instr.indexAt 39 (.slice A2 l2.length c2) (.int .i64 ((i : Nat) : Int))) (.pointer (some ⟨ab A2, ao A2 + i * 37, none⟩)), RunOk Tryd.prog w2 (Instr.loadAt 48 (.pointer (some ⟨ab A2, ao A2 + i * 37 + 2, none⟩))) (.agg ⟨idc ((l2.getD i default).X.Base)⟩), BinOk Tryd.prog .neq 48 (.agg ⟨idc ((l1.getD i default).X.Base)⟩) (.agg ⟨idc ((l2.getD i default).X.Base)⟩) (.bool (!decide ((l1.getD i default).X.Base = (l2.getD i default).X.Base)))], (((!decide (((l1.getD i default).X.Kind : Int) = (l2.getD i default).X.Kind)) || (!decide (((l1.getD i default).X.Back : Int) = (l2.getD i default).X.Back))) || (!decide ((l1.getD i default).X.Base = (l2.getD i default).X.Base))) = false → All [RunOk Tryd.prog w2 (Instr.indexAt 39 (.slice A1 l1.length c1) (.int .i64 ((i : Nat) : Int))) (.pointer (some ⟨ab A1, ao A1 + i * 37, none⟩)), RunOk Tryd.prog w2 (Instr.loadAt 9 (.pointer (some ⟨ab A1, ao A1 + i * 37 + 34, none⟩))) (.string (S ((l1.getD i default).X.Data))), RunOk Tryd.prog w2 (Instr.indexAt 39 (.slice A2 l2.length c2) (.int .i64 ((i : Nat) : Int))) (.pointer (some ⟨ab A2, ao A2 + i * 37, none⟩)), RunOk Tryd.prog w2 (Instr.loadAt 9 (.pointer (some ⟨ab A2, ao A2 + i * 37 + 34, none⟩))) (.string (S ((l2.getD i default).X.Data)))]]) ha [(2, .val (.pointer (some ⟨ab A1, ao A1 + i * 37, none⟩))), (4, .val (.int .i64 ((l1.getD i default).X.Kind))), (7, .val (.pointer (some ⟨ab A2, ao A2 + i * 37, none⟩))), (9, .val (.int .i64 ((l2.getD i default).X.Kind))), (14, .val (.pointer (some ⟨ab A1, ao A1 + i * 37, none⟩))), (16, .val (.int .i64 ((l1.getD i default).X.Back))), (19, .val (.pointer (some ⟨ab A2, ao A2 + i * 37, none⟩))), (21, .val (.int .i64 ((l2.getD i default).X.Back))), (27, .val (.pointer (some ⟨ab A1, ao A1 + i * 37, none⟩))), (29, .val (.agg ⟨idc ((l1.getD i default).X.Base)⟩)), (32, .val (.pointer (some ⟨ab A2, ao A2 + i * 37, none⟩))), (34, .val (.agg ⟨idc ((l2.getD i default).X.Base)⟩)), (35, .val (.bool (!decide ((l1.getD i default).X.Base = (l2.getD i default).X.Base)))), (40, .val (.pointer (some ⟨ab A1, ao A1 + i * 37, none⟩))), (42, .val (.string (S ((l1.getD i default).X.Data)))), (45, .val (.pointer (some ⟨ab A2, ao A2 + i * 37, none⟩))), (47, .val (.string (S ((l2.getD i default).X.Data))))] (by kernel_rfl) (.cons (ixRd (e := 57) (by kernel_rfl) (by kernel_rfl) (rdE hx hr1) (by omega)) (.cons (ldRd (j := i * 37) (by kernel_rfl) (rdE hx hr1) (by omega) (flat_get0 encRItem_len l1 default i (by omega) rfl)) (.cons (ixRd (e := 57) (by kernel_rfl) (by kernel_rfl) (rdE hx hr2) (by omega)) (.cons (ldRd (j := i * 37) (by kernel_rfl) (rdE hx hr2) (by omega) (flat_get0 encRItem_len l2 default i (by omega) rfl)) (.cons (fun hg12 => by simp only [Bool.not_eq_true', Bool.not_eq_false', Bool.and_eq_true, Bool.or_eq_true, Bool.and_eq_false_iff, Bool.or_eq_false_iff, decide_eq_true_eq, decide_eq_false_iff_not, Bool.not_eq_true, Decidable.not_not] at hg12; exact (.cons (ixRd (e := 57) (by kernel_rfl) (by kernel_rfl) (rdE hx hr1) (by omega)) (.cons (ldRd (j := i * 37 + 1) (by kernel_rfl) (rdE hx hr1) (by omega) (flat_get encRItem_len l1 default i 1 (by omega) rfl)) (.cons (ixRd (e := 57) (by kernel_rfl) (by kernel_rfl) (rdE hx hr2) (by omega)) (.cons (ldRd (j := i * 37 + 1) (by kernel_rfl) (rdE hx hr2) (by omega) (flat_get encRItem_len l2 default i 1 (by omega) rfl)) .nil))))) (.cons (fun hg25 => by simp only [Bool.not_eq_true', Bool.not_eq_false', Bool.and_eq_true, Bool.or_eq_true, Bool.and_eq_false_iff, Bool.or_eq_false_iff, decide_eq_true_eq, decide_eq_false_iff_not, Bool.not_eq_true, Decidable.not_not] at hg25; exact (.cons (ixRd (e := 57) (by kernel_rfl) (by kernel_rfl) (rdE hx hr1) (by omega)) (.cons (ldRdN (vs := (idc ((l1.getD i default).X.Base))) (j := i * 37 + 2) (by kernel_rfl) (by kernel_rfl) (rdE hx hr1) (by omega) (flat_part encRItem_len l1 default i 2 32 (by omega) (by kernel_rfl) (by decide))) (.cons (ixRd (e := 57) (by kernel_rfl) (by kernel_rfl) (rdE hx hr2) (by omega)) (.cons (ldRdN (vs := (idc ((l2.getD i default).X.Base))) (j := i * 37 + 2) (by kernel_rfl) (by kernel_rfl) (rdE hx hr2) (by omega) (flat_part encRItem_len l2 default i 2 32 (by omega) (by kernel_rfl) (by decide))) (.cons (eqIdN (x := (l1.getD i default).X.Base) (y := (l2.getD i default).X.Base) (by kernel_rfl)) .nil)))))) (.cons (fun hg38 => by simp only [Bool.not_eq_true', Bool.not_eq_false', Bool.and_eq_true, Bool.or_eq_true, Bool.and_eq_false_iff, Bool.or_eq_false_iff, decide_eq_true_eq, decide_eq_false_iff_not, Bool.not_eq_true, Decidable.not_not] at hg38; exact (.cons (ixRd (e := 57) (by kernel_rfl) (by kernel_rfl) (rdE hx hr1) (by omega)) (.cons (ldRd (j := i * 37 + 34) (by kernel_rfl) (rdE hx hr1) (by omega) (flat_get encRItem_len l1 default i 34 (by omega) rfl)) (.cons (ixRd (e := 57) (by kernel_rfl) (by kernel_rfl) (rdE hx hr2) (by omega)) (.cons (ldRd (j := i * 37 + 34) (by kernel_rfl) (rdE hx hr2) (by omega) (flat_get encRItem_len l2 default i 34 (by omega) rfl)) .nil))))) .nil))))))) ?_
      clear ha a; intro a w3 ha he
      replace hx := hx.tr he
      clear he
      refine tn ?_
      refine wif ha rfl (fun h66 => ?_) (fun h66 => ?_)
      · simp only [Bool.not_eq_true', Bool.not_eq_false', Bool.and_eq_true, Bool.or_eq_true, Bool.and_eq_false_iff, Bool.or_eq_false_iff, decide_eq_true_eq, decide_eq_false_iff_not, Bool.not_eq_true, Decidable.not_not] at h66
        have hres : decide (l1.map RItemR.X = l2.map RItemR.X) = false := decide_eq_false (fun e => by
          have hg : (l1.getD i default).X = (l2.getD i default).X := by rw [← mapX_get _ _ (by omega), ← mapX_get _ _ (by omega), e]
          rw [hg] at h66; simp at h66)
        refine wseq ?_
        refine regp (ρ' := [(4, .bool false)]) (C := []) ha [] (by kernel_rfl) .nil ?_
        clear ha a; intro a ha
        refine tn ?_
        refine wret ?_
        refine (br (tr (tr (br (tr ?_)))))
        refine fin ha (.tmp rfl .nil) ?_
        exact ⟨congrArg Value.bool hres.symm, hx⟩
      · simp only [Bool.not_eq_true', Bool.not_eq_false', Bool.and_eq_true, Bool.or_eq_true, Bool.and_eq_false_iff, Bool.or_eq_false_iff, decide_eq_true_eq, decide_eq_false_iff_not, Bool.not_eq_true, Decidable.not_not] at h66
        refine wskip ?_
        refine bn ?_
        refine tn ?_
        refine regp (ρ' := [(0, .slice A1 l1.length c1), (1, .slice A2 l2.length c2), (5, .int .i64 ((i + 1 : Nat) : Int))]) (C := [InR .i64 ((i + 1 : Nat) : Int)]) ha [] (by kernel_rfl) (.cons (by unfold InR; omega) .nil) ?_
        clear ha a; intro a ha
        exact tn ⟨l1.length - ((i + 1)), by omega, (i + 1), rfl, ha.sub (ρ' := [(0, .slice A1 l1.length c1), (1, .slice A2 l2.length c2), (5, .int .i64 (((i + 1) : Nat) : Int))]) (by kernel_rfl), hx, by omega, by rw [take_succD _ i (by rw [List.length_map]; omega), take_succD _ i (by rw [List.length_map]; omega), hk, mapX_get _ _ (by omega), mapX_get _ _ (by omega), itemR_eq h66.1.1.1 h66.1.1.2 h66.1.2 h66.2]⟩
    · replace h14 := of_decide_eq_false h14
      have hres : decide (l1.map RItemR.X = l2.map RItemR.X) = true := decide_eq_true (by rw [List.take_of_length_le (by rw [List.length_map]; omega), List.take_of_length_le (by rw [List.length_map]; omega)] at hk; exact hk)
      refine wexit ?_
      refine (te (te (be ?_)))
      refine tn ?_
      refine wseq ?_
      refine regp (ρ' := [(4, .bool true)]) (C := []) ha [] (by kernel_rfl) .nil ?_
      clear ha a; intro a ha
      refine tn ?_
      refine wret ?_
      refine fin ha (.tmp rfl .nil) ?_
      exact ⟨congrArg Value.bool hres.symm, hx⟩
theorem as_ok (A0 : Option Addr) (c0 : Nat) (l : List ItemR) (w : World) (hr : Rd w 35 A0 l.length (l.flatMap encItem)) (hl : l.length ≤ 1000000) :
    Fn Tryd.prog 21 #[.slice A0 l.length c0] w (fun v w' => ∃ A c, v = .slice A l.length c ∧ Own w' w.heap.size 57 37 A l.length c ((l.map asR).flatMap encRItem) ∧ Ext w w') := by
  have hx : Ext w w := Ext.rfl' w
  refine enter (N := 36) (args := [.slice A0 l.length c0]) Tryd.func21 rfl rfl rfl ?_
  intro a ha
  simp only [argEnv, Nat.zero_add, Nat.reduceAdd] at ha
  refine wseq ?_
  refine regp (ρ' := [(0, .slice A0 l.length c0)]) (C := []) ha [] (by kernel_rfl) .nil ?_
  clear ha a; intro a ha
  refine tn ?_
  refine wseq ?_
  refine regp (ρ' := [(0, .slice A0 l.length c0), (3, .slice none 0 0)]) (C := []) ha [] (by kernel_rfl) .nil ?_
  clear ha a; intro a ha
  refine tn ?_
  refine wseq ?_
  refine wseq ?_
  refine regp (ρ' := [(0, .slice A0 l.length c0), (3, .slice none 0 0), (4, .int .i64 0)]) (C := []) ha [] (by kernel_rfl) .nil ?_
  clear ha a; intro a ha
  refine tn ?_
  refine wblk ?_
  refine wloop (fun zz a w1 => ∃ (i : Nat) (A : Option Addr) (c : Nat), zz = l.length - i ∧ On 36 [(0, .slice A0 l.length c0), (3, .slice A (((l.take i).map asR).length) c), (4, .int .i64 ((i : Nat) : Int))] a ∧ Ext w w1 ∧ Own w1 w.heap.size 57 37 A (((l.take i).map asR).length) c (((l.take i).map asR).flatMap encRItem) ∧ (i ≤ l.length)) _ ⟨0, none, 0, rfl, ha.sub (ρ' := [(0, .slice A0 l.length c0), (3, .slice none (((l.take 0).map asR).length) 0), (4, .int .i64 ((0 : Nat) : Int))]) (by kernel_rfl), hx, own_nil _ _ _ _, by omega⟩ ?_
  clear ha hx
  rintro zz a w2 ⟨i, A, c, hzz, ha, hx, hw1, hi⟩
  refine wseq ?_
  refine wseq ?_
  refine regp (ρ' := [(0, .slice A0 l.length c0), (3, .slice A (((l.take i).map asR).length) c), (4, .int .i64 ((i : Nat) : Int)), (8, .bool (decide (((i : Nat) : Int) < ((l.length : Nat) : Int))))]) (C := []) ha [] (by kernel_rfl) .nil ?_
  clear ha a; intro a ha
  refine tn ?_
  refine wif ha rfl (fun h8 => ?_) (fun h8 => ?_)
  · replace h8 := of_decide_eq_true h8
    have hal : ((l.take i).map asR).length = i := by rw [List.length_map, List.length_take]; omega
    refine wskip ?_
    refine tn ?_
    refine wseq ?_
    refine wblk ?_
    refine regM hmix ha [(3, .val (.pointer (some ⟨ab A0, ao A0 + i * 35, none⟩))), (5, .val (.int .i64 ((l.getD i default).Kind))), (8, .val (.pointer (some ⟨ab A0, ao A0 + i * 35, none⟩))), (10, .val (.int .i64 ((l.getD i default).Back))), (13, .val (.pointer (some ⟨ab A0, ao A0 + i * 35, none⟩))), (15, .val (.agg ⟨idc ((l.getD i default).Base)⟩)), (18, .val (.pointer (some ⟨ab A0, ao A0 + i * 35, none⟩))), (20, .val (.string (S ((l.getD i default).Data))))] [⟨22, .des, [0], []⟩, ⟨24, .des, [1], [(34, 23)]⟩] [⟨23, .des, [22], [(33, 22)]⟩] [(3, 24)] (ρ' := [(0, .slice A0 l.length c0), (4, .int .i64 ((i : Nat) : Int))]) [(22, fun u w' => ∃ (b3 : Nat), u = .slice (some ⟨b3, 0, none⟩) 1 1 ∧ w2.heap.size ≤ b3 ∧ w'.heap[b3]? = some (.cells ⟨.int .i64 ((l.getD i default).Kind) :: (.int .i64 ((l.getD i default).Back) :: ((idc ((l.getD i default).Base)) ++ (.string (S ((l.getD i default).Data)) :: (.int .i64 0 :: ([.int .i64 0])))))⟩ 57 (0, 0))), (24, fun u w' => ∃ (A4 : Option Addr) (c5 : Nat), u = .slice A4 (((l.take (i + 1)).map asR).length) c5 ∧ Own w' w.heap.size 57 37 A4 (((l.take (i + 1)).map asR).length) c5 (((l.take (i + 1)).map asR).flatMap encRItem)), (23, fun u w' => ∃ (A4 : Option Addr) (c5 : Nat), u = .slice A4 (((l.take (i + 1)).map asR).length) c5 ∧ Own w' w.heap.size 57 37 A4 (((l.take (i + 1)).map asR).length) c5 (((l.take (i + 1)).map asR).flatMap encRItem))] [fun w' => Ext w2 w', fun w' => w2.heap.size ≤ w'.heap.size ∧ Ext w w'] [(3, [0], fun w' => [RunOk Tryd.prog w' (Instr.indexAt 36 (.slice A0 l.length c0) (.int .i64 ((i : Nat) : Int))) (.pointer (some ⟨ab A0, ao A0 + i * 35, none⟩))]), (5, [0], fun w' => [RunOk Tryd.prog w' (Instr.loadAt 3 (.pointer (some ⟨ab A0, ao A0 + i * 35, none⟩))) (.int .i64 ((l.getD i default).Kind))]), (8, [0], fun w' => [RunOk Tryd.prog w' (Instr.indexAt 36 (.slice A0 l.length c0) (.int .i64 ((i : Nat) : Int))) (.pointer (some ⟨ab A0, ao A0 + i * 35, none⟩))]), (10, [0], fun w' => [RunOk Tryd.prog w' (Instr.loadAt 3 (.pointer (some ⟨ab A0, ao A0 + i * 35 + 1, none⟩))) (.int .i64 ((l.getD i default).Back))]), (13, [0], fun w' => [RunOk Tryd.prog w' (Instr.indexAt 36 (.slice A0 l.length c0) (.int .i64 ((i : Nat) : Int))) (.pointer (some ⟨ab A0, ao A0 + i * 35, none⟩))]), (15, [0], fun w' => [RunOk Tryd.prog w' (Instr.loadAt 48 (.pointer (some ⟨ab A0, ao A0 + i * 35 + 2, none⟩))) (.agg ⟨idc ((l.getD i default).Base)⟩)]), (18, [0], fun w' => [RunOk Tryd.prog w' (Instr.indexAt 36 (.slice A0 l.length c0) (.int .i64 ((i : Nat) : Int))) (.pointer (some ⟨ab A0, ao A0 + i * 35, none⟩))]), (20, [0], fun w' => [RunOk Tryd.prog w' (Instr.loadAt 9 (.pointer (some ⟨ab A0, ao A0 + i * 35 + 34, none⟩))) (.string (S ((l.getD i default).Data)))])] (by kernel_rfl) (fun w' => by kernel_rfl) (fun w' => by kernel_rfl) (by kernel_rfl) (fun w' h => h) ?_ ?_ ?_ ?_ ?_ ?_
    · refine ⟨fun w1 w2 h e => Ext.tr h e, ?_, trivial⟩
      · rintro w1 w2 ⟨hsz, hx⟩ he
        exact ⟨Nat.le_trans hsz he.size, hx.tr he⟩
    · refine ⟨?_, ?_, ?_, trivial⟩
      · rintro _ w1 w2 ⟨b3, rfl, hb_b3, hB_b3⟩ he
        exact ⟨b3, rfl, hb_b3, keepB he hB_b3⟩
      · rintro _ w1 w2 ⟨A4, c5, rfl, hw1b⟩ he
        exact ⟨A4, c5, rfl, ownE he hw1b⟩
      · rintro _ w1 w2 ⟨A4, c5, rfl, hw1b⟩ he
        exact ⟨A4, c5, rfl, ownE he hw1b⟩
    · refine ⟨⟨?_, trivial⟩, ⟨?_, trivial⟩, ⟨?_, trivial⟩, ⟨?_, trivial⟩, ⟨?_, trivial⟩, ⟨?_, trivial⟩, ⟨?_, trivial⟩, ⟨?_, trivial⟩, trivial⟩
      · intro w' hJ
        have he : Ext w2 w' := hJ
        have hsz := he.size
        replace hx := hx.tr he
        replace hw1 := ownE he hw1
        clear he
        exact (.cons (ixRd (e := 70) (by kernel_rfl) (by kernel_rfl) (rdE hx hr) (by omega)) .nil)
      · intro w' hJ
        have he : Ext w2 w' := hJ
        have hsz := he.size
        replace hx := hx.tr he
        replace hw1 := ownE he hw1
        clear he
        exact (.cons (ldRd (j := i * 35) (by kernel_rfl) (rdE hx hr) (by omega) (flat_get0 encItem_len l default i (by omega) rfl)) .nil)
      · intro w' hJ
        have he : Ext w2 w' := hJ
        have hsz := he.size
        replace hx := hx.tr he
        replace hw1 := ownE he hw1
        clear he
        exact (.cons (ixRd (e := 70) (by kernel_rfl) (by kernel_rfl) (rdE hx hr) (by omega)) .nil)
      · intro w' hJ
        have he : Ext w2 w' := hJ
        have hsz := he.size
        replace hx := hx.tr he
        replace hw1 := ownE he hw1
        clear he
        exact (.cons (ldRd (j := i * 35 + 1) (by kernel_rfl) (rdE hx hr) (by omega) (flat_get encItem_len l default i 1 (by omega) rfl)) .nil)
      · intro w' hJ
        have he : Ext w2 w' := hJ
        have hsz := he.size
        replace hx := hx.tr he
        replace hw1 := ownE he hw1
        clear he
        exact (.cons (ixRd (e := 70) (by kernel_rfl) (by kernel_rfl) (rdE hx hr) (by omega)) .nil)
      · intro w' hJ
        have he : Ext w2 w' := hJ
        have hsz := he.size
        replace hx := hx.tr he
        replace hw1 := ownE he hw1
        clear he
        exact (.cons (ldRdN (vs := (idc ((l.getD i default).Base))) (j := i * 35 + 2) (by kernel_rfl) (by kernel_rfl) (rdE hx hr) (by omega) (flat_part encItem_len l default i 2 32 (by omega) (by kernel_rfl) (by decide))) .nil)
      · intro w' hJ
        have he : Ext w2 w' := hJ
        have hsz := he.size
        replace hx := hx.tr he
        replace hw1 := ownE he hw1
        clear he
        exact (.cons (ixRd (e := 70) (by kernel_rfl) (by kernel_rfl) (rdE hx hr) (by omega)) .nil)
      · intro w' hJ
        have he : Ext w2 w' := hJ
        have hsz := he.size
        replace hx := hx.tr he
        replace hw1 := ownE he hw1
        clear he
        exact (.cons (ldRd (j := i * 35 + 34) (by kernel_rfl) (rdE hx hr) (by omega) (flat_get encItem_len l default i 34 (by omega) rfl)) .nil)
    · refine ⟨⟨?_, trivial⟩, ⟨?_, trivial⟩, trivial⟩
      · intro w' hJ
        have he : Ext w2 w' := hJ
        have hsz := he.size
        replace hx := hx.tr he
        replace hw1 := ownE he hw1
        clear he
        refine onewS ⟨.int .i64 ((l.getD i default).Kind) :: (.int .i64 ((l.getD i default).Back) :: ((idc ((l.getD i default).Base)) ++ (.string (S ((l.getD i default).Data)) :: (.int .i64 0 :: ([.int .i64 0])))))⟩ 57 1 (by kernel_rfl) ?_
        intro b3 w'' he hb_b3 hB_b3
        exact ⟨⟨b3, rfl, Nat.le_trans hsz hb_b3, hB_b3⟩, he⟩
      · intro w' hJ u0 hu0
        obtain ⟨A4, c5, rfl, hw1b⟩ := hu0
        obtain ⟨hsz, hx⟩ := hJ
        refine ox (m := none) (v := .slice A4 (((l.take (i + 1)).map asR).length) c5) (C := []) (by kernel_rfl) .nil ?_
        intro w'' he
        exact ⟨⟨A4, c5, rfl, ownE he hw1b⟩, he⟩
    · refine ⟨?_, trivial⟩
      · intro w' hJ u0 hu0
        obtain ⟨b3, rfl, hb_b3, hB_b3⟩ := hu0
        have hw1S := hw1
        have he : Ext w2 w' := hJ
        have hsz := he.size
        replace hx := hx.tr he
        replace hw1 := ownE he hw1
        clear he
        refine oapp (m := 1) (c' := 1) (ad := ⟨b3, 0, none⟩) (s := .tmp 11) (x := .tmp 33) (t := 39) (by_ := 80) (by kernel_rfl) (by kernel_rfl) (by kernel_rfl) hw1 (by kernel_rfl) (.int .i64 ((l.getD i default).Kind) :: (.int .i64 ((l.getD i default).Back) :: ((idc ((l.getD i default).Base)) ++ (.string (S ((l.getD i default).Data)) :: (.int .i64 0 :: ([.int .i64 0])))))) rfl (news_blk hB_b3) rfl (by omega) (by omega) hx.size ?_
        intro A4 c5 w'' hw1b' hg
        have h1 : ((((l.take i).map asR).flatMap encRItem) ++ (.int .i64 ((l.getD i default).Kind) :: (.int .i64 ((l.getD i default).Back) :: ((idc ((l.getD i default).Base)) ++ (.string (S ((l.getD i default).Data)) :: (.int .i64 0 :: ([.int .i64 0])))))) : List Value) = (((l.take (i + 1)).map asR).flatMap encRItem) := by rw [take_succD l i (by omega)]; simp [encRItem, asR]
        have h2 : (((l.take i).map asR).length + 1 : Nat) = ((l.take (i + 1)).map asR).length := by rw [take_succD l i (by omega)]; simp
        rw [h1, h2] at hw1b'
        rw [h2]
        exact ⟨⟨A4, c5, rfl, hw1b'⟩, ⟨Nat.le_trans hsz hg.size, extG hx hg hw1 (Nat.le_refl _)⟩, ⟨fun u hu => by obtain ⟨b3, rfl, hb_b3, hB_b3⟩ := hu; exact ⟨b3, rfl, hb_b3, keepGn hg hw1S hb_b3 hB_b3⟩, trivial⟩⟩
    · clear ha a; intro a w6 hJ u0 hu0 ha
      obtain ⟨A4, c5, rfl, hw1b⟩ := hu0
      clear hx hw1
      obtain ⟨hsz, hx⟩ := hJ
      clear hsz
      refine bn ?_
      refine tn ?_
      refine regp (ρ' := [(0, .slice A0 l.length c0), (3, .slice A4 (((l.take (i + 1)).map asR).length) c5), (4, .int .i64 ((i + 1 : Nat) : Int))]) (C := [InR .i64 ((i + 1 : Nat) : Int)]) ha [] (by kernel_rfl) (.cons (by unfold InR; omega) .nil) ?_
      clear ha a; intro a ha
      exact tn ⟨l.length - ((i + 1)), by omega, (i + 1), A4, c5, rfl, ha.sub (ρ' := [(0, .slice A0 l.length c0), (3, .slice A4 (((l.take (i + 1)).map asR).length) c5), (4, .int .i64 (((i + 1) : Nat) : Int))]) (by kernel_rfl), hx, hw1b, by omega⟩
  · replace h8 := of_decide_eq_false h8
    obtain rfl : i = l.length := by omega
    rw [List.take_length] at ha hw1
    refine wexit ?_
    refine (te (te (be ?_)))
    refine tn ?_
    refine wseq ?_
    refine regp (ρ' := [(2, .slice A ((l.map asR).length) c)]) (C := []) ha [] (by kernel_rfl) .nil ?_
    clear ha a; intro a ha
    refine tn ?_
    refine wret ?_
    refine fin ha (.tmp rfl .nil) ?_
    exact ⟨_, _, by rw [List.length_map]; rfl, by rw [List.length_map] at hw1; exact hw1, hx⟩
theorem few15_ok (A : Option Addr) (c : Nat) (l : List ItemR) (w : World) (hr : Rd w 35 A l.length (l.flatMap encItem)) (hl : l.length ≤ 9223372036854775807) :
    Fn Tryd.prog 18 #[.slice A l.length c] w (fun v w' => v = .bool (pFew l) ∧ Ext w w') := by
  have hx : Ext w w := Ext.rfl' w
  refine enter (N := 24) (args := [.slice A l.length c]) Tryd.func18 rfl rfl rfl ?_
  intro a ha
  simp only [argEnv, Nat.zero_add, Nat.reduceAdd] at ha
  refine wseq ?_
  refine regp (ρ' := [(0, .slice A l.length c)]) (C := []) ha [] (by kernel_rfl) .nil ?_
  clear ha a; intro a ha
  refine tn ?_
  refine wseq ?_
  refine wseq ?_
  refine regp (ρ' := [(0, .slice A l.length c), (3, .int .i64 0)]) (C := []) ha [] (by kernel_rfl) .nil ?_
  clear ha a; intro a ha
  refine tn ?_
  refine wblk ?_
  refine wloop (fun zz a w1 => ∃ (i : Nat), zz = l.length - i ∧ On 24 [(0, .slice A l.length c), (3, .int .i64 ((i : Nat) : Int))] a ∧ Ext w w1 ∧ (i ≤ l.length) ∧ (∀ j, j < i → (l.getD j default).Data.length ≤ 5000)) _ ⟨0, rfl, ha.sub (ρ' := [(0, .slice A l.length c), (3, .int .i64 ((0 : Nat) : Int))]) (by kernel_rfl), hx, by omega, fun j hj => absurd hj (by omega)⟩ ?_
  clear ha hx
  rintro zz a w2 ⟨i, hzz, ha, hx, hi, hn⟩
  refine wseq ?_
  refine wseq ?_
  refine regp (ρ' := [(0, .slice A l.length c), (3, .int .i64 ((i : Nat) : Int)), (11, .bool ((decide (((i : Nat) : Int) < ((l.length : Nat) : Int))) && (decide (((i : Nat) : Int) < 20))))]) (C := []) ha [] (by kernel_rfl) .nil ?_
  clear ha a; intro a ha
  refine tn ?_
  refine wif ha rfl (fun h11 => ?_) (fun h11 => ?_)
  · simp only [Bool.not_eq_true', Bool.not_eq_false', Bool.and_eq_true, Bool.or_eq_true, Bool.and_eq_false_iff, Bool.or_eq_false_iff, decide_eq_true_eq, decide_eq_false_iff_not, Bool.not_eq_true, Decidable.not_not] at h11
    refine wskip ?_
    refine tn ?_
    refine wseq ?_
    refine wblk ?_
    refine wseq ?_
    refine regp (ρ' := [(0, .slice A l.length c), (3, .int .i64 ((i : Nat) : Int)), (20, .bool (decide ((5000 : Int) < ((((l.getD i default).Data).length : Nat) : Int))))]) (C := [RunOk Tryd.prog w2 (Instr.indexAt 36 (.slice A l.length c) (.int .i64 ((i : Nat) : Int))) (.pointer (some ⟨ab A, ao A + i * 35, none⟩)), RunOk Tryd.prog w2 (Instr.loadAt 9 (.pointer (some ⟨ab A, ao A + i * 35 + 34, none⟩))) (.string (S ((l.getD i default).Data)))]) ha [(2, .val (.pointer (some ⟨ab A, ao A + i * 35, none⟩))), (4, .val (.string (S ((l.getD i default).Data))))] (by kernel_rfl) (.cons (ixRd (e := 70) (by kernel_rfl) (by kernel_rfl) (rdE hx hr) (by omega)) (.cons (ldRd (j := i * 35 + 34) (by kernel_rfl) (rdE hx hr) (by omega) (flat_get encItem_len l default i 34 (by omega) rfl)) .nil)) ?_
    clear ha a; intro a ha
    refine tn ?_
    refine wif ha rfl (fun h20 => ?_) (fun h20 => ?_)
    · replace h20 := of_decide_eq_true h20
      have hres : pFew l = false := pFew_bad (i := i) (by omega) (by omega)
      refine wseq ?_
      refine regp (ρ' := [(2, .bool false)]) (C := []) ha [] (by kernel_rfl) .nil ?_
      clear ha a; intro a ha
      refine tn ?_
      refine wret ?_
      refine (br (tr (tr (br (tr ?_)))))
      refine fin ha (.tmp rfl .nil) ?_
      exact ⟨congrArg Value.bool (by rw [hres] <;> (apply decide_eq_decide.2; omega)), hx⟩
    · replace h20 := of_decide_eq_false h20
      refine wskip ?_
      refine bn ?_
      refine tn ?_
      refine regp (ρ' := [(0, .slice A l.length c), (3, .int .i64 ((i + 1 : Nat) : Int))]) (C := [InR .i64 ((i + 1 : Nat) : Int)]) ha [] (by kernel_rfl) (.cons (by unfold InR; omega) .nil) ?_
      clear ha a; intro a ha
      exact tn ⟨l.length - ((i + 1)), by omega, (i + 1), rfl, ha.sub (ρ' := [(0, .slice A l.length c), (3, .int .i64 (((i + 1) : Nat) : Int))]) (by kernel_rfl), hx, by omega, fun j hj => (Nat.lt_or_ge j i).elim (hn j) (fun h => (show j = i by omega) ▸ (by omega))⟩
  · simp only [Bool.not_eq_true', Bool.not_eq_false', Bool.and_eq_true, Bool.or_eq_true, Bool.and_eq_false_iff, Bool.or_eq_false_iff, decide_eq_true_eq, decide_eq_false_iff_not, Bool.not_eq_true, Decidable.not_not] at h11
    have hres : pFew l = decide (l.length ≤ 20) := pFew_len hn (by omega)
    refine wexit ?_
    refine (te (te (be ?_)))
    refine tn ?_
    refine wseq ?_
    refine regp (ρ' := [(2, .bool (decide (((l.length : Nat) : Int) ≤ 20)))]) (C := []) ha [] (by kernel_rfl) .nil ?_
    clear ha a; intro a ha
    refine tn ?_
    refine wret ?_
    refine fin ha (.tmp rfl .nil) ?_
    exact ⟨congrArg Value.bool (by rw [hres] <;> (apply decide_eq_decide.2; omega)), hx⟩
theorem stored_ok (A : Option Addr) (c : Nat) (l : List RItemR) (n : Nat) (b : List UInt8) (w : World) (hr : Rd w 37 A l.length (l.flatMap encRItem)) (hl : l.length ≤ 20) (hs : ∀ i, i < l.length → (l.getD i default).X.Data.length ≤ 5000) (hn : n ≤ 1000000) (hb : b.length ≤ 1000) :
    Fn Tryd.prog 20 #[.slice A l.length c, .int .i64 ((n : Nat) : Int), .string (S b)] w (fun v w' => v = .string (S (rStored l n b)) ∧ Ext w w') := by
  have hx : Ext w w := Ext.rfl' w
  refine enter (N := 76) (args := [.slice A l.length c, .int .i64 ((n : Nat) : Int), .string (S b)]) Tryd.func20 rfl rfl rfl ?_
  intro a ha
  simp only [argEnv, Nat.zero_add, Nat.reduceAdd] at ha
  refine wseq ?_
  refine regp (ρ' := [(0, .slice A l.length c), (1, .int .i64 ((n : Nat) : Int)), (2, .string (S b))]) (C := []) ha [] (by kernel_rfl) .nil ?_
  clear ha a; intro a ha
  refine tn ?_
  refine wseq ?_
  have hv0 := (vput_len n).1
  refine regM hmix ha [(5, .val (.string (S (vput n))))] [⟨0, .des, [0], []⟩, ⟨1, .val (.string (S [UInt8.ofNat 1])), [0], [(9, 0)]⟩] [] [] (ρ' := [(0, .slice A l.length c), (2, .string (S b)), (7, .string (S (([75, 78, 65, 80] ++ [UInt8.ofNat 1]) ++ (vput n))))]) [(0, fun u w' => ∃ (b1 : Nat), u = .slice (some ⟨b1, 0, none⟩) 1 1 ∧ w.heap.size ≤ b1 ∧ w'.heap[b1]? = some (.cells #[.int .u8 1] 5 (0, 0)))] [fun w' => Ext w w'] [(2, [0], fun w' => [([75, 78, 65, 80] : List UInt8).length + ([UInt8.ofNat 1] : List UInt8).length ≤ 9223372036854775807]), (4, [0], fun w' => [InR .u64 ((n : Nat) : Int)]), (5, [0], fun w' => [CallOk Tryd.prog w' 37 #[.int .u64 ((n : Nat) : Int)] (.string (S (vput n)))]), (6, [0], fun w' => [(([75, 78, 65, 80] ++ [UInt8.ofNat 1]) : List UInt8).length + ((vput n) : List UInt8).length ≤ 9223372036854775807])] (by kernel_rfl) (fun w' => by kernel_rfl) (fun w' => by kernel_rfl) (by kernel_rfl) (fun w' h => h) ?_ ?_ ?_ ?_ ?_ ?_
  · exact ⟨fun w1 w2 h e => Ext.tr h e, trivial⟩
  · refine ⟨?_, trivial⟩
    · rintro _ w1 w2 ⟨b1, rfl, hb_b1, hB_b1⟩ he
      exact ⟨b1, rfl, hb_b1, keepB he hB_b1⟩
  · refine ⟨⟨?_, trivial⟩, ⟨?_, trivial⟩, ⟨?_, trivial⟩, ⟨?_, trivial⟩, trivial⟩
    · intro w' hJ
      have he : Ext w w' := hJ
      have hsz := he.size
      replace hx := hx.tr he
      clear he
      exact (.cons (by first | omega | (simp only [List.length_cons, List.length_nil, List.length_append, List.length_take, List.length_drop]; omega)) .nil)
    · intro w' hJ
      have he : Ext w w' := hJ
      have hsz := he.size
      replace hx := hx.tr he
      clear he
      exact (.cons (by unfold InR; omega) .nil)
    · intro w' hJ
      have he : Ext w w' := hJ
      have hsz := he.size
      replace hx := hx.tr he
      clear he
      exact (.cons (fun w _ => rput_ok _ w (by omega)) .nil)
    · intro w' hJ
      have he : Ext w w' := hJ
      have hsz := he.size
      replace hx := hx.tr he
      clear he
      exact (.cons (by first | omega | (simp only [List.length_cons, List.length_nil, List.length_append, List.length_take, List.length_drop]; omega)) .nil)
  · refine ⟨⟨?_, trivial⟩, ⟨?_, trivial⟩, trivial⟩
    · intro w' hJ
      have he : Ext w w' := hJ
      have hsz := he.size
      replace hx := hx.tr he
      clear he
      refine onewS #[.int .u8 1] 5 1 (by kernel_rfl) ?_
      intro b1 w'' he hb_b1 hB_b1
      exact ⟨⟨b1, rfl, Nat.le_trans hsz hb_b1, hB_b1⟩, he⟩
    · intro w' hJ u0 hu0
      obtain ⟨b1, rfl, hb_b1, hB_b1⟩ := hu0
      have he : Ext w w' := hJ
      have hsz := he.size
      replace hx := hx.tr he
      clear he
      refine ox (m := (some (.val (.string (S [UInt8.ofNat 1]))))) (v := .string (S [UInt8.ofNat 1])) (C := [RunOk Tryd.prog w' (convert 50 9 (.slice (some ⟨b1, 0, none⟩) 1 1)) (.string (S [UInt8.ofNat 1]))]) (by kernel_rfl) (.cons (cvBlk (e := 5) (zs := [(1 : Int)]) (by kernel_rfl) (by kernel_rfl) (by kernel_rfl) hB_b1 rfl rfl) .nil) ?_
      intro w'' he
      exact ⟨rfl, he⟩
  · trivial
  · clear ha a; intro a w2 hJ ha
    have he : Ext w w2 := hJ
    have hsz := he.size
    replace hx := hx.tr he
    clear he
    clear hsz
    rw [show ((([75, 78, 65, 80] ++ [UInt8.ofNat 1]) ++ (vput n)) : List UInt8) = (rTo l n 0) from by unfold rTo; simp [phead]] at ha
    refine tn ?_
    refine wseq ?_
    refine wseq ?_
    refine regp (ρ' := [(0, .slice A l.length c), (2, .string (S b)), (7, .string (S (rTo l n 0))), (8, .int .i64 0)]) (C := []) ha [] (by kernel_rfl) .nil ?_
    clear ha a; intro a ha
    refine tn ?_
    refine wblk ?_
    refine wloop (fun zz a w3 => ∃ (i : Nat), zz = l.length - i ∧ On 76 [(0, .slice A l.length c), (2, .string (S b)), (7, .string (S (rTo l n i))), (8, .int .i64 ((i : Nat) : Int))] a ∧ Ext w w3 ∧ (i ≤ l.length)) _ ⟨0, rfl, ha.sub (ρ' := [(0, .slice A l.length c), (2, .string (S b)), (7, .string (S (rTo l n 0))), (8, .int .i64 ((0 : Nat) : Int))]) (by kernel_rfl), hx, by omega⟩ ?_
    clear ha hx
    rintro zz a w4 ⟨i, hzz, ha, hx, hi⟩
    refine wseq ?_
    refine wseq ?_
    refine regp (ρ' := [(0, .slice A l.length c), (2, .string (S b)), (7, .string (S (rTo l n i))), (8, .int .i64 ((i : Nat) : Int)), (19, .bool (decide (((i : Nat) : Int) < ((l.length : Nat) : Int))))]) (C := []) ha [] (by kernel_rfl) .nil ?_
    clear ha a; intro a ha
    refine tn ?_
    refine wif ha rfl (fun h19 => ?_) (fun h19 => ?_)
    · replace h19 := of_decide_eq_true h19
      have hrl := rTo_len (n := n) hs i hi
      have hd := hs i (by omega)
      have hrs := rTo_succ l n i (by omega)
      have hv1 := (vput_len ((l.getD i default).X.Back % 18446744073709551616).toNat).1
      have hv2 := vtext_len ([UInt8.ofNat 0] ++ (l.getD i default).X.Data)
      simp only [List.length_append, List.length_cons, List.length_nil] at hv2
      have hbl := (l.getD i default).X.Base.h
      refine wskip ?_
      refine tn ?_
      refine wseq ?_
      refine wblk ?_
      refine wseq ?_
      refine reg_list ?_
      refine segp (ρ' := [(0, .slice A l.length c), (2, .string (S b)), (8, .int .i64 ((i : Nat) : Int)), (22, .string (S (rTo l n i))), (28, .int .u8 (((l.getD i default).X.Kind) % 256))]) (C := [RunOk Tryd.prog w4 (Instr.indexAt 39 (.slice A l.length c) (.int .i64 ((i : Nat) : Int))) (.pointer (some ⟨ab A, ao A + i * 37, none⟩)), RunOk Tryd.prog w4 (Instr.loadAt 3 (.pointer (some ⟨ab A, ao A + i * 37, none⟩))) (.int .i64 ((l.getD i default).X.Kind))]) ha 7 [(3, .val (.pointer (some ⟨ab A, ao A + i * 37, none⟩))), (5, .val (.int .i64 ((l.getD i default).X.Kind))), (6, .mod)] rfl (by kernel_rfl) (.cons (ixRd (e := 57) (by kernel_rfl) (by kernel_rfl) (rdE hx hr) (by omega)) (.cons (ldRd (j := i * 37) (by kernel_rfl) (rdE hx hr) (by omega) (flat_get0 encRItem_len l default i (by omega) rfl)) .nil)) ?_
      clear ha a; intro a ha
      refine lnewS ha rfl (by kernel_rfl) #[.int .u8 (((l.getD i default).X.Kind) % 256)] 5 1 (by kernel_rfl) ?_
      clear ha a; intro b5 w6 he hb_b5 hB_b5 a ha
      replace hb_b5 := Nat.le_trans hx.size hb_b5
      replace hx := hx.tr he
      clear he
      refine segp (ρ' := [(0, .slice A l.length c), (2, .string (S b)), (7, .string (S ((rTo l n i) ++ [UInt8.ofNat ((((l.getD i default).X.Kind) % 256) : Int).toNat]))), (8, .int .i64 ((i : Nat) : Int))]) (C := [RunOk Tryd.prog w6 (convert 50 9 (.slice (some ⟨b5, 0, none⟩) 1 1)) (.string (S [UInt8.ofNat ((((l.getD i default).X.Kind) % 256) : Int).toNat])), ((rTo l n i) : List UInt8).length + ([UInt8.ofNat ((((l.getD i default).X.Kind) % 256) : Int).toNat] : List UInt8).length ≤ 9223372036854775807]) ha 3 [(0, .val (.string (S [UInt8.ofNat ((((l.getD i default).X.Kind) % 256) : Int).toNat])))] rfl (by kernel_rfl) (.cons (cvBlk (e := 5) (zs := [((((l.getD i default).X.Kind) % 256) : Int)]) (by kernel_rfl) (by kernel_rfl) (by kernel_rfl) hB_b5 rfl rfl) (.cons (by first | omega | (simp only [List.length_cons, List.length_nil, List.length_append, List.length_take, List.length_drop]; omega)) .nil)) ?_
      clear ha a; intro a ha
      refine lnil ?_
      replace ha := ha.sub (ρ' := [(0, .slice A l.length c), (2, .string (S b)), (7, .string (S ((rTo l n i) ++ [UInt8.ofNat ((((l.getD i default).X.Kind) % 256) : Int).toNat]))), (8, .int .i64 ((i : Nat) : Int))]) (by kernel_rfl)
      rw [show (((rTo l n i) ++ [UInt8.ofNat ((((l.getD i default).X.Kind) % 256) : Int).toNat]) : List UInt8) = (rTo l n i ++ oneB8 (l.getD i default).X.Kind) from rfl] at ha
      have hob : (oneB8 (l.getD i default).X.Kind).length = 1 := rfl
      refine tn ?_
      refine wseq ?_
      refine wseq ?_
      refine regp (ρ' := [(0, .slice A l.length c), (2, .string (S b)), (7, .string (S (rTo l n i ++ oneB8 (l.getD i default).X.Kind))), (8, .int .i64 ((i : Nat) : Int)), (37, .bool (decide (((l.getD i default).X.Kind : Int) = 1)))]) (C := [RunOk Tryd.prog w6 (Instr.indexAt 39 (.slice A l.length c) (.int .i64 ((i : Nat) : Int))) (.pointer (some ⟨ab A, ao A + i * 37, none⟩)), RunOk Tryd.prog w6 (Instr.loadAt 3 (.pointer (some ⟨ab A, ao A + i * 37, none⟩))) (.int .i64 ((l.getD i default).X.Kind))]) ha [(2, .val (.pointer (some ⟨ab A, ao A + i * 37, none⟩))), (4, .val (.int .i64 ((l.getD i default).X.Kind)))] (by kernel_rfl) (.cons (ixRd (e := 57) (by kernel_rfl) (by kernel_rfl) (rdE hx hr) (by omega)) (.cons (ldRd (j := i * 37) (by kernel_rfl) (rdE hx hr) (by omega) (flat_get0 encRItem_len l default i (by omega) rfl)) .nil)) ?_
      clear ha a; intro a ha
      refine tn ?_
      refine wif ha rfl (fun h37 => ?_) (fun h37 => ?_)
      · replace h37 := of_decide_eq_true h37
        refine reg hmix (ρ' := [(0, .slice A l.length c), (2, .string (S b)), (7, .string (S ((rTo l n i ++ oneB8 (l.getD i default).X.Kind) ++ (vput (((((l.getD i default).X.Back) % 18446744073709551616) : Int).toNat))))), (8, .int .i64 ((i : Nat) : Int))]) (C := [RunOk Tryd.prog w6 (Instr.indexAt 39 (.slice A l.length c) (.int .i64 ((i : Nat) : Int))) (.pointer (some ⟨ab A, ao A + i * 37, none⟩)), RunOk Tryd.prog w6 (Instr.loadAt 3 (.pointer (some ⟨ab A, ao A + i * 37 + 1, none⟩))) (.int .i64 ((l.getD i default).X.Back)), CallOk Tryd.prog w6 37 #[.int .u64 (((l.getD i default).X.Back) % 18446744073709551616)] (.string (S (vput (((((l.getD i default).X.Back) % 18446744073709551616) : Int).toNat)))), ((rTo l n i ++ oneB8 (l.getD i default).X.Kind) : List UInt8).length + ((vput (((((l.getD i default).X.Back) % 18446744073709551616) : Int).toNat)) : List UInt8).length ≤ 9223372036854775807]) ha [(3, .val (.pointer (some ⟨ab A, ao A + i * 37, none⟩))), (5, .val (.int .i64 ((l.getD i default).X.Back))), (6, .mod), (7, .val (.string (S (vput (((((l.getD i default).X.Back) % 18446744073709551616) : Int).toNat)))))] (by kernel_rfl) (.cons (ixRd (e := 57) (by kernel_rfl) (by kernel_rfl) (rdE hx hr) (by omega)) (.cons (ldRd (j := i * 37 + 1) (by kernel_rfl) (rdE hx hr) (by omega) (flat_get encRItem_len l default i 1 (by omega) rfl)) (.cons (fun w _ => rput_okI _ w (by omega) (by omega)) (.cons (by first | omega | (simp only [List.length_cons, List.length_nil, List.length_append, List.length_take, List.length_drop]; omega)) .nil)))) ?_
        clear ha a; intro a w7 ha he
        replace hx := hx.tr he
        replace hB_b5 := keepB he hB_b5
        clear he
        refine tn ?_
        refine wseq ?_
        refine wseq ?_
        refine regp (ρ' := [(0, .slice A l.length c), (2, .string (S b)), (7, .string (S ((rTo l n i ++ oneB8 (l.getD i default).X.Kind) ++ (vput (((((l.getD i default).X.Back) % 18446744073709551616) : Int).toNat))))), (8, .int .i64 ((i : Nat) : Int)), (52, .bool (decide (((l.getD i default).X.Kind : Int) = 2)))]) (C := [RunOk Tryd.prog w7 (Instr.indexAt 39 (.slice A l.length c) (.int .i64 ((i : Nat) : Int))) (.pointer (some ⟨ab A, ao A + i * 37, none⟩)), RunOk Tryd.prog w7 (Instr.loadAt 3 (.pointer (some ⟨ab A, ao A + i * 37, none⟩))) (.int .i64 ((l.getD i default).X.Kind))]) ha [(2, .val (.pointer (some ⟨ab A, ao A + i * 37, none⟩))), (4, .val (.int .i64 ((l.getD i default).X.Kind)))] (by kernel_rfl) (.cons (ixRd (e := 57) (by kernel_rfl) (by kernel_rfl) (rdE hx hr) (by omega)) (.cons (ldRd (j := i * 37) (by kernel_rfl) (rdE hx hr) (by omega) (flat_get0 encRItem_len l default i (by omega) rfl)) .nil)) ?_
        clear ha a; intro a ha
        refine tn ?_
        refine wif ha rfl (fun h52 => ?_) (fun h52 => ?_)
        · replace h52 := of_decide_eq_true h52
          exfalso; omega
        · replace h52 := of_decide_eq_false h52
          refine wskip ?_
          refine tn ?_
          refine regM hmix ha [(5, .val (.pointer (some ⟨ab A, ao A + i * 37, none⟩))), (7, .val (.string (S ((l.getD i default).X.Data)))), (9, .val (.string (S (vtext ([UInt8.ofNat 0] ++ ((l.getD i default).X.Data))))))] [⟨1, .des, [0], []⟩, ⟨2, .val (.string (S [UInt8.ofNat 0])), [0], [(62, 1)]⟩] [] [] (ρ' := [(0, .slice A l.length c), (2, .string (S b)), (7, .string (S (((rTo l n i ++ oneB8 (l.getD i default).X.Kind) ++ (vput (((((l.getD i default).X.Back) % 18446744073709551616) : Int).toNat))) ++ (vtext ([UInt8.ofNat 0] ++ ((l.getD i default).X.Data)))))), (8, .int .i64 ((i : Nat) : Int))]) [(1, fun u w' => ∃ (b8 : Nat), u = .slice (some ⟨b8, 0, none⟩) 1 1 ∧ w7.heap.size ≤ b8 ∧ w'.heap[b8]? = some (.cells #[.int .u8 0] 5 (0, 0)))] [fun w' => Ext w7 w'] [(5, [0], fun w' => [RunOk Tryd.prog w' (Instr.indexAt 39 (.slice A l.length c) (.int .i64 ((i : Nat) : Int))) (.pointer (some ⟨ab A, ao A + i * 37, none⟩))]), (7, [0], fun w' => [RunOk Tryd.prog w' (Instr.loadAt 9 (.pointer (some ⟨ab A, ao A + i * 37 + 34, none⟩))) (.string (S ((l.getD i default).X.Data)))]), (8, [0], fun w' => [([UInt8.ofNat 0] : List UInt8).length + ((l.getD i default).X.Data : List UInt8).length ≤ 9223372036854775807]), (9, [0], fun w' => [CallOk Tryd.prog w' 38 #[.string (S ([UInt8.ofNat 0] ++ ((l.getD i default).X.Data)))] (.string (S (vtext ([UInt8.ofNat 0] ++ ((l.getD i default).X.Data)))))]), (10, [0], fun w' => [(((rTo l n i ++ oneB8 (l.getD i default).X.Kind) ++ (vput (((((l.getD i default).X.Back) % 18446744073709551616) : Int).toNat))) : List UInt8).length + ((vtext ([UInt8.ofNat 0] ++ ((l.getD i default).X.Data))) : List UInt8).length ≤ 9223372036854775807])] (by kernel_rfl) (fun w' => by kernel_rfl) (fun w' => by kernel_rfl) (by kernel_rfl) (fun w' h => h) ?_ ?_ ?_ ?_ ?_ ?_
          · exact ⟨fun w1 w2 h e => Ext.tr h e, trivial⟩
          · refine ⟨?_, trivial⟩
            · rintro _ w1 w2 ⟨b8, rfl, hb_b8, hB_b8⟩ he
              exact ⟨b8, rfl, hb_b8, keepB he hB_b8⟩
          · refine ⟨⟨?_, trivial⟩, ⟨?_, trivial⟩, ⟨?_, trivial⟩, ⟨?_, trivial⟩, ⟨?_, trivial⟩, trivial⟩
            · intro w' hJ
              have he : Ext w7 w' := hJ
              have hsz := he.size
              replace hx := hx.tr he
              replace hB_b5 := keepB he hB_b5
              clear he
              exact (.cons (ixRd (e := 57) (by kernel_rfl) (by kernel_rfl) (rdE hx hr) (by omega)) .nil)
            · intro w' hJ
              have he : Ext w7 w' := hJ
              have hsz := he.size
              replace hx := hx.tr he
              replace hB_b5 := keepB he hB_b5
              clear he
              exact (.cons (ldRd (j := i * 37 + 34) (by kernel_rfl) (rdE hx hr) (by omega) (flat_get encRItem_len l default i 34 (by omega) rfl)) .nil)
            · intro w' hJ
              have he : Ext w7 w' := hJ
              have hsz := he.size
              replace hx := hx.tr he
              replace hB_b5 := keepB he hB_b5
              clear he
              exact (.cons (by first | omega | (simp only [List.length_cons, List.length_nil, List.length_append, List.length_take, List.length_drop]; omega)) .nil)
            · intro w' hJ
              have he : Ext w7 w' := hJ
              have hsz := he.size
              replace hx := hx.tr he
              replace hB_b5 := keepB he hB_b5
              clear he
              exact (.cons (fun w _ => rtext_ok _ w (by first | omega | (simp only [List.length_cons, List.length_append, List.length_nil]; omega))) .nil)
            · intro w' hJ
              have he : Ext w7 w' := hJ
              have hsz := he.size
              replace hx := hx.tr he
              replace hB_b5 := keepB he hB_b5
              clear he
              exact (.cons (by first | omega | (simp only [List.length_cons, List.length_nil, List.length_append, List.length_take, List.length_drop]; omega)) .nil)
          · refine ⟨⟨?_, trivial⟩, ⟨?_, trivial⟩, trivial⟩
            · intro w' hJ
              have he : Ext w7 w' := hJ
              have hsz := he.size
              replace hx := hx.tr he
              replace hB_b5 := keepB he hB_b5
              clear he
              refine onewS #[.int .u8 0] 5 1 (by kernel_rfl) ?_
              intro b8 w'' he hb_b8 hB_b8
              exact ⟨⟨b8, rfl, Nat.le_trans hsz hb_b8, hB_b8⟩, he⟩
            · intro w' hJ u0 hu0
              obtain ⟨b8, rfl, hb_b8, hB_b8⟩ := hu0
              have he : Ext w7 w' := hJ
              have hsz := he.size
              replace hx := hx.tr he
              replace hB_b5 := keepB he hB_b5
              clear he
              refine ox (m := (some (.val (.string (S [UInt8.ofNat 0]))))) (v := .string (S [UInt8.ofNat 0])) (C := [RunOk Tryd.prog w' (convert 50 9 (.slice (some ⟨b8, 0, none⟩) 1 1)) (.string (S [UInt8.ofNat 0]))]) (by kernel_rfl) (.cons (cvBlk (e := 5) (zs := [(0 : Int)]) (by kernel_rfl) (by kernel_rfl) (by kernel_rfl) hB_b8 rfl rfl) .nil) ?_
              intro w'' he
              exact ⟨rfl, he⟩
          · trivial
          · clear ha a; intro a w9 hJ ha
            have he : Ext w7 w9 := hJ
            have hsz := he.size
            replace hx := hx.tr he
            replace hB_b5 := keepB he hB_b5
            clear he
            clear hsz
            rw [show ((((rTo l n i ++ oneB8 (l.getD i default).X.Kind) ++ (vput (((((l.getD i default).X.Back) % 18446744073709551616) : Int).toNat))) ++ (vtext ([UInt8.ofNat 0] ++ ((l.getD i default).X.Data)))) : List UInt8) = (rTo l n (i + 1)) from by rw [hrs]; unfold rbytes; (first | rw [if_pos (by assumption), if_neg (by omega)] | rw [if_neg (by assumption), if_pos (by assumption)] | rw [if_neg (by assumption), if_neg (by assumption)]); simp] at ha
            refine bn ?_
            refine tn ?_
            refine regp (ρ' := [(0, .slice A l.length c), (2, .string (S b)), (7, .string (S (rTo l n (i + 1)))), (8, .int .i64 ((i + 1 : Nat) : Int))]) (C := [InR .i64 ((i + 1 : Nat) : Int)]) ha [] (by kernel_rfl) (.cons (by unfold InR; omega) .nil) ?_
            clear ha a; intro a ha
            exact tn ⟨l.length - ((i + 1)), by omega, (i + 1), rfl, ha.sub (ρ' := [(0, .slice A l.length c), (2, .string (S b)), (7, .string (S (rTo l n (i + 1)))), (8, .int .i64 (((i + 1) : Nat) : Int))]) (by kernel_rfl), hx, by omega⟩
      · replace h37 := of_decide_eq_false h37
        refine wskip ?_
        refine tn ?_
        refine wseq ?_
        refine wseq ?_
        refine regp (ρ' := [(0, .slice A l.length c), (2, .string (S b)), (7, .string (S (rTo l n i ++ oneB8 (l.getD i default).X.Kind))), (8, .int .i64 ((i : Nat) : Int)), (52, .bool (decide (((l.getD i default).X.Kind : Int) = 2)))]) (C := [RunOk Tryd.prog w6 (Instr.indexAt 39 (.slice A l.length c) (.int .i64 ((i : Nat) : Int))) (.pointer (some ⟨ab A, ao A + i * 37, none⟩)), RunOk Tryd.prog w6 (Instr.loadAt 3 (.pointer (some ⟨ab A, ao A + i * 37, none⟩))) (.int .i64 ((l.getD i default).X.Kind))]) ha [(2, .val (.pointer (some ⟨ab A, ao A + i * 37, none⟩))), (4, .val (.int .i64 ((l.getD i default).X.Kind)))] (by kernel_rfl) (.cons (ixRd (e := 57) (by kernel_rfl) (by kernel_rfl) (rdE hx hr) (by omega)) (.cons (ldRd (j := i * 37) (by kernel_rfl) (rdE hx hr) (by omega) (flat_get0 encRItem_len l default i (by omega) rfl)) .nil)) ?_
        clear ha a; intro a ha
        refine tn ?_
        refine wif ha rfl (fun h52 => ?_) (fun h52 => ?_)
        · replace h52 := of_decide_eq_true h52
          refine regp (ρ' := [(0, .slice A l.length c), (2, .string (S b)), (7, .string (S ((rTo l n i ++ oneB8 (l.getD i default).X.Kind) ++ (((l.getD i default).X.Base).l)))), (8, .int .i64 ((i : Nat) : Int))]) (C := [RunOk Tryd.prog w6 (Instr.indexAt 39 (.slice A l.length c) (.int .i64 ((i : Nat) : Int))) (.pointer (some ⟨ab A, ao A + i * 37, none⟩)), RunOk Tryd.prog w6 (convert 50 9 (.slice (some ⟨ab A, ao A + i * 37 + 2, none⟩) 32 32)) (.string (S (((l.getD i default).X.Base).l))), ((rTo l n i ++ oneB8 (l.getD i default).X.Kind) : List UInt8).length + (((l.getD i default).X.Base).l : List UInt8).length ≤ 9223372036854775807]) ha [(3, .val (.pointer (some ⟨ab A, ao A + i * 37, none⟩))), (5, .raw), (6, .val (.string (S (((l.getD i default).X.Base).l))))] (by kernel_rfl) (.cons (ixRd (e := 57) (by kernel_rfl) (by kernel_rfl) (rdE hx hr) (by omega)) (.cons (cvRdI (e := 5) (x := (l.getD i default).X.Base) (j := i * 37 + 2) (by kernel_rfl) (by kernel_rfl) (by kernel_rfl) (rdE hx hr) (by omega) (flat_part encRItem_len l default i 2 32 (by omega) (by kernel_rfl) (by decide))) (.cons (by first | omega | (simp only [List.length_cons, List.length_nil, List.length_append, List.length_take, List.length_drop]; omega)) .nil))) ?_
          clear ha a; intro a ha
          refine tn ?_
          refine regM hmix ha [(5, .val (.pointer (some ⟨ab A, ao A + i * 37, none⟩))), (7, .val (.string (S ((l.getD i default).X.Data)))), (9, .val (.string (S (vtext ([UInt8.ofNat 0] ++ ((l.getD i default).X.Data))))))] [⟨1, .des, [0], []⟩, ⟨2, .val (.string (S [UInt8.ofNat 0])), [0], [(62, 1)]⟩] [] [] (ρ' := [(0, .slice A l.length c), (2, .string (S b)), (7, .string (S (((rTo l n i ++ oneB8 (l.getD i default).X.Kind) ++ (((l.getD i default).X.Base).l)) ++ (vtext ([UInt8.ofNat 0] ++ ((l.getD i default).X.Data)))))), (8, .int .i64 ((i : Nat) : Int))]) [(1, fun u w' => ∃ (b10 : Nat), u = .slice (some ⟨b10, 0, none⟩) 1 1 ∧ w6.heap.size ≤ b10 ∧ w'.heap[b10]? = some (.cells #[.int .u8 0] 5 (0, 0)))] [fun w' => Ext w6 w'] [(5, [0], fun w' => [RunOk Tryd.prog w' (Instr.indexAt 39 (.slice A l.length c) (.int .i64 ((i : Nat) : Int))) (.pointer (some ⟨ab A, ao A + i * 37, none⟩))]), (7, [0], fun w' => [RunOk Tryd.prog w' (Instr.loadAt 9 (.pointer (some ⟨ab A, ao A + i * 37 + 34, none⟩))) (.string (S ((l.getD i default).X.Data)))]), (8, [0], fun w' => [([UInt8.ofNat 0] : List UInt8).length + ((l.getD i default).X.Data : List UInt8).length ≤ 9223372036854775807]), (9, [0], fun w' => [CallOk Tryd.prog w' 38 #[.string (S ([UInt8.ofNat 0] ++ ((l.getD i default).X.Data)))] (.string (S (vtext ([UInt8.ofNat 0] ++ ((l.getD i default).X.Data)))))]), (10, [0], fun w' => [(((rTo l n i ++ oneB8 (l.getD i default).X.Kind) ++ (((l.getD i default).X.Base).l)) : List UInt8).length + ((vtext ([UInt8.ofNat 0] ++ ((l.getD i default).X.Data))) : List UInt8).length ≤ 9223372036854775807])] (by kernel_rfl) (fun w' => by kernel_rfl) (fun w' => by kernel_rfl) (by kernel_rfl) (fun w' h => h) ?_ ?_ ?_ ?_ ?_ ?_
          · exact ⟨fun w1 w2 h e => Ext.tr h e, trivial⟩
          · refine ⟨?_, trivial⟩
            · rintro _ w1 w2 ⟨b10, rfl, hb_b10, hB_b10⟩ he
              exact ⟨b10, rfl, hb_b10, keepB he hB_b10⟩
          · refine ⟨⟨?_, trivial⟩, ⟨?_, trivial⟩, ⟨?_, trivial⟩, ⟨?_, trivial⟩, ⟨?_, trivial⟩, trivial⟩
            · intro w' hJ
              have he : Ext w6 w' := hJ
              have hsz := he.size
              replace hx := hx.tr he
              replace hB_b5 := keepB he hB_b5
              clear he
              exact (.cons (ixRd (e := 57) (by kernel_rfl) (by kernel_rfl) (rdE hx hr) (by omega)) .nil)
            · intro w' hJ
              have he : Ext w6 w' := hJ
              have hsz := he.size
              replace hx := hx.tr he
              replace hB_b5 := keepB he hB_b5
              clear he
              exact (.cons (ldRd (j := i * 37 + 34) (by kernel_rfl) (rdE hx hr) (by omega) (flat_get encRItem_len l default i 34 (by omega) rfl)) .nil)
            · intro w' hJ
              have he : Ext w6 w' := hJ
              have hsz := he.size
              replace hx := hx.tr he
              replace hB_b5 := keepB he hB_b5
              clear he
              exact (.cons (by first | omega | (simp only [List.length_cons, List.length_nil, List.length_append, List.length_take, List.length_drop]; omega)) .nil)
            · intro w' hJ
              have he : Ext w6 w' := hJ
              have hsz := he.size
              replace hx := hx.tr he
              replace hB_b5 := keepB he hB_b5
              clear he
              exact (.cons (fun w _ => rtext_ok _ w (by first | omega | (simp only [List.length_cons, List.length_append, List.length_nil]; omega))) .nil)
            · intro w' hJ
              have he : Ext w6 w' := hJ
              have hsz := he.size
              replace hx := hx.tr he
              replace hB_b5 := keepB he hB_b5
              clear he
              exact (.cons (by first | omega | (simp only [List.length_cons, List.length_nil, List.length_append, List.length_take, List.length_drop]; omega)) .nil)
          · refine ⟨⟨?_, trivial⟩, ⟨?_, trivial⟩, trivial⟩
            · intro w' hJ
              have he : Ext w6 w' := hJ
              have hsz := he.size
              replace hx := hx.tr he
              replace hB_b5 := keepB he hB_b5
              clear he
              refine onewS #[.int .u8 0] 5 1 (by kernel_rfl) ?_
              intro b10 w'' he hb_b10 hB_b10
              exact ⟨⟨b10, rfl, Nat.le_trans hsz hb_b10, hB_b10⟩, he⟩
            · intro w' hJ u0 hu0
              obtain ⟨b10, rfl, hb_b10, hB_b10⟩ := hu0
              have he : Ext w6 w' := hJ
              have hsz := he.size
              replace hx := hx.tr he
              replace hB_b5 := keepB he hB_b5
              clear he
              refine ox (m := (some (.val (.string (S [UInt8.ofNat 0]))))) (v := .string (S [UInt8.ofNat 0])) (C := [RunOk Tryd.prog w' (convert 50 9 (.slice (some ⟨b10, 0, none⟩) 1 1)) (.string (S [UInt8.ofNat 0]))]) (by kernel_rfl) (.cons (cvBlk (e := 5) (zs := [(0 : Int)]) (by kernel_rfl) (by kernel_rfl) (by kernel_rfl) hB_b10 rfl rfl) .nil) ?_
              intro w'' he
              exact ⟨rfl, he⟩
          · trivial
          · clear ha a; intro a w11 hJ ha
            have he : Ext w6 w11 := hJ
            have hsz := he.size
            replace hx := hx.tr he
            replace hB_b5 := keepB he hB_b5
            clear he
            clear hsz
            rw [show ((((rTo l n i ++ oneB8 (l.getD i default).X.Kind) ++ (((l.getD i default).X.Base).l)) ++ (vtext ([UInt8.ofNat 0] ++ ((l.getD i default).X.Data)))) : List UInt8) = (rTo l n (i + 1)) from by rw [hrs]; unfold rbytes; (first | rw [if_pos (by assumption), if_neg (by omega)] | rw [if_neg (by assumption), if_pos (by assumption)] | rw [if_neg (by assumption), if_neg (by assumption)]); simp] at ha
            refine bn ?_
            refine tn ?_
            refine regp (ρ' := [(0, .slice A l.length c), (2, .string (S b)), (7, .string (S (rTo l n (i + 1)))), (8, .int .i64 ((i + 1 : Nat) : Int))]) (C := [InR .i64 ((i + 1 : Nat) : Int)]) ha [] (by kernel_rfl) (.cons (by unfold InR; omega) .nil) ?_
            clear ha a; intro a ha
            exact tn ⟨l.length - ((i + 1)), by omega, (i + 1), rfl, ha.sub (ρ' := [(0, .slice A l.length c), (2, .string (S b)), (7, .string (S (rTo l n (i + 1)))), (8, .int .i64 (((i + 1) : Nat) : Int))]) (by kernel_rfl), hx, by omega⟩
        · replace h52 := of_decide_eq_false h52
          refine wskip ?_
          refine tn ?_
          refine regM hmix ha [(5, .val (.pointer (some ⟨ab A, ao A + i * 37, none⟩))), (7, .val (.string (S ((l.getD i default).X.Data)))), (9, .val (.string (S (vtext ([UInt8.ofNat 0] ++ ((l.getD i default).X.Data))))))] [⟨1, .des, [0], []⟩, ⟨2, .val (.string (S [UInt8.ofNat 0])), [0], [(62, 1)]⟩] [] [] (ρ' := [(0, .slice A l.length c), (2, .string (S b)), (7, .string (S ((rTo l n i ++ oneB8 (l.getD i default).X.Kind) ++ (vtext ([UInt8.ofNat 0] ++ ((l.getD i default).X.Data)))))), (8, .int .i64 ((i : Nat) : Int))]) [(1, fun u w' => ∃ (b12 : Nat), u = .slice (some ⟨b12, 0, none⟩) 1 1 ∧ w6.heap.size ≤ b12 ∧ w'.heap[b12]? = some (.cells #[.int .u8 0] 5 (0, 0)))] [fun w' => Ext w6 w'] [(5, [0], fun w' => [RunOk Tryd.prog w' (Instr.indexAt 39 (.slice A l.length c) (.int .i64 ((i : Nat) : Int))) (.pointer (some ⟨ab A, ao A + i * 37, none⟩))]), (7, [0], fun w' => [RunOk Tryd.prog w' (Instr.loadAt 9 (.pointer (some ⟨ab A, ao A + i * 37 + 34, none⟩))) (.string (S ((l.getD i default).X.Data)))]), (8, [0], fun w' => [([UInt8.ofNat 0] : List UInt8).length + ((l.getD i default).X.Data : List UInt8).length ≤ 9223372036854775807]), (9, [0], fun w' => [CallOk Tryd.prog w' 38 #[.string (S ([UInt8.ofNat 0] ++ ((l.getD i default).X.Data)))] (.string (S (vtext ([UInt8.ofNat 0] ++ ((l.getD i default).X.Data)))))]), (10, [0], fun w' => [((rTo l n i ++ oneB8 (l.getD i default).X.Kind) : List UInt8).length + ((vtext ([UInt8.ofNat 0] ++ ((l.getD i default).X.Data))) : List UInt8).length ≤ 9223372036854775807])] (by kernel_rfl) (fun w' => by kernel_rfl) (fun w' => by kernel_rfl) (by kernel_rfl) (fun w' h => h) ?_ ?_ ?_ ?_ ?_ ?_
          · exact ⟨fun w1 w2 h e => Ext.tr h e, trivial⟩
          · refine ⟨?_, trivial⟩
            · rintro _ w1 w2 ⟨b12, rfl, hb_b12, hB_b12⟩ he
              exact ⟨b12, rfl, hb_b12, keepB he hB_b12⟩
          · refine ⟨⟨?_, trivial⟩, ⟨?_, trivial⟩, ⟨?_, trivial⟩, ⟨?_, trivial⟩, ⟨?_, trivial⟩, trivial⟩
            · intro w' hJ
              have he : Ext w6 w' := hJ
              have hsz := he.size
              replace hx := hx.tr he
              replace hB_b5 := keepB he hB_b5
              clear he
              exact (.cons (ixRd (e := 57) (by kernel_rfl) (by kernel_rfl) (rdE hx hr) (by omega)) .nil)
            · intro w' hJ
              have he : Ext w6 w' := hJ
              have hsz := he.size
              replace hx := hx.tr he
              replace hB_b5 := keepB he hB_b5
              clear he
              exact (.cons (ldRd (j := i * 37 + 34) (by kernel_rfl) (rdE hx hr) (by omega) (flat_get encRItem_len l default i 34 (by omega) rfl)) .nil)
            · intro w' hJ
              have he : Ext w6 w' := hJ
              have hsz := he.size
              replace hx := hx.tr he
              replace hB_b5 := keepB he hB_b5
              clear he
              exact (.cons (by first | omega | (simp only [List.length_cons, List.length_nil, List.length_append, List.length_take, List.length_drop]; omega)) .nil)
            · intro w' hJ
              have he : Ext w6 w' := hJ
              have hsz := he.size
              replace hx := hx.tr he
              replace hB_b5 := keepB he hB_b5
              clear he
              exact (.cons (fun w _ => rtext_ok _ w (by first | omega | (simp only [List.length_cons, List.length_append, List.length_nil]; omega))) .nil)
            · intro w' hJ
              have he : Ext w6 w' := hJ
              have hsz := he.size
              replace hx := hx.tr he
              replace hB_b5 := keepB he hB_b5
              clear he
              exact (.cons (by first | omega | (simp only [List.length_cons, List.length_nil, List.length_append, List.length_take, List.length_drop]; omega)) .nil)
          · refine ⟨⟨?_, trivial⟩, ⟨?_, trivial⟩, trivial⟩
            · intro w' hJ
              have he : Ext w6 w' := hJ
              have hsz := he.size
              replace hx := hx.tr he
              replace hB_b5 := keepB he hB_b5
              clear he
              refine onewS #[.int .u8 0] 5 1 (by kernel_rfl) ?_
              intro b12 w'' he hb_b12 hB_b12
              exact ⟨⟨b12, rfl, Nat.le_trans hsz hb_b12, hB_b12⟩, he⟩
            · intro w' hJ u0 hu0
              obtain ⟨b12, rfl, hb_b12, hB_b12⟩ := hu0
              have he : Ext w6 w' := hJ
              have hsz := he.size
              replace hx := hx.tr he
              replace hB_b5 := keepB he hB_b5
              clear he
              refine ox (m := (some (.val (.string (S [UInt8.ofNat 0]))))) (v := .string (S [UInt8.ofNat 0])) (C := [RunOk Tryd.prog w' (convert 50 9 (.slice (some ⟨b12, 0, none⟩) 1 1)) (.string (S [UInt8.ofNat 0]))]) (by kernel_rfl) (.cons (cvBlk (e := 5) (zs := [(0 : Int)]) (by kernel_rfl) (by kernel_rfl) (by kernel_rfl) hB_b12 rfl rfl) .nil) ?_
              intro w'' he
              exact ⟨rfl, he⟩
          · trivial
          · clear ha a; intro a w13 hJ ha
            have he : Ext w6 w13 := hJ
            have hsz := he.size
            replace hx := hx.tr he
            replace hB_b5 := keepB he hB_b5
            clear he
            clear hsz
            rw [show (((rTo l n i ++ oneB8 (l.getD i default).X.Kind) ++ (vtext ([UInt8.ofNat 0] ++ ((l.getD i default).X.Data)))) : List UInt8) = (rTo l n (i + 1)) from by rw [hrs]; unfold rbytes; (first | rw [if_pos (by assumption), if_neg (by omega)] | rw [if_neg (by assumption), if_pos (by assumption)] | rw [if_neg (by assumption), if_neg (by assumption)]); simp] at ha
            refine bn ?_
            refine tn ?_
            refine regp (ρ' := [(0, .slice A l.length c), (2, .string (S b)), (7, .string (S (rTo l n (i + 1)))), (8, .int .i64 ((i + 1 : Nat) : Int))]) (C := [InR .i64 ((i + 1 : Nat) : Int)]) ha [] (by kernel_rfl) (.cons (by unfold InR; omega) .nil) ?_
            clear ha a; intro a ha
            exact tn ⟨l.length - ((i + 1)), by omega, (i + 1), rfl, ha.sub (ρ' := [(0, .slice A l.length c), (2, .string (S b)), (7, .string (S (rTo l n (i + 1)))), (8, .int .i64 (((i + 1) : Nat) : Int))]) (by kernel_rfl), hx, by omega⟩
    · replace h19 := of_decide_eq_false h19
      obtain rfl : i = l.length := by omega
      have hrl := rTo_len (n := n) hs l.length (Nat.le_refl _)
      refine wexit ?_
      refine (te (te (be ?_)))
      refine tn ?_
      refine wseq ?_
      refine reg hmix (ρ' := [(6, .string (S (psealed ((rTo l n l.length) ++ b))))]) (C := [((rTo l n l.length) : List UInt8).length + (b : List UInt8).length ≤ 9223372036854775807, CallOk Tryd.prog w4 39 #[.string (S ((rTo l n l.length) ++ b))] (.string (S (psealed ((rTo l n l.length) ++ b))))]) ha [(3, .val (.string (S (psealed ((rTo l n l.length) ++ b)))))] (by kernel_rfl) (.cons (by first | omega | (simp only [List.length_cons, List.length_nil, List.length_append, List.length_take, List.length_drop]; omega)) (.cons (fun w _ => sealed_ok _ w (by first | omega | (simp only [List.length_take, List.length_drop, List.length_append]; omega))) .nil)) ?_
      clear ha a; intro a w14 ha he
      replace hx := hx.tr he
      clear he
      refine tn ?_
      refine wret ?_
      refine fin ha (.tmp rfl .nil) ?_
      exact ⟨rfl, hx⟩
theorem clash_ok (u b s : List UInt8) (w : World) (hu0 : u.length ≤ 1000000) (hb : b.length ≤ s.length ∧ s.length ≤ 1000000) :
    Fn Tryd.prog 29 #[.string (S u), .string (S b), .string (S s)] w (fun v w' => v = .bool (decide ((shaSum u).l = s.drop b.length)) ∧ Ext w w') := by
  have hx : Ext w w := Ext.rfl' w
  refine enter (N := 17) (args := [.string (S u), .string (S b), .string (S s)]) Tryd.func29 rfl rfl rfl ?_
  intro a ha
  simp only [argEnv, Nat.zero_add, Nat.reduceAdd] at ha
  refine wseq ?_
  refine regp (ρ' := [(0, .string (S u)), (1, .string (S b)), (2, .string (S s))]) (C := []) ha [] (by kernel_rfl) .nil ?_
  clear ha a; intro a ha
  refine tn ?_
  refine wseq ?_
  refine reg_list ?_
  refine seg (ρ' := [(1, .string (S b)), (2, .string (S s)), (9, .agg ⟨idc (shaSum u)⟩)]) (C := [CallOk Tryd.prog w 25 #[.string (S u)] (.agg ⟨idc (shaSum u)⟩)]) ha 2 [(1, .val (.agg ⟨idc (shaSum u)⟩))] (by kernel_rfl) (.cons (fun w _ => rsum_ok _ w (by first | omega | (simp only [List.length_take, List.length_drop, List.length_append]; omega))) .nil) ?_
  clear ha a; intro a w1 ha he
  replace hx := hx.tr he
  clear he
  refine lnew ha rfl (by kernel_rfl) ⟨idc idZ⟩ 48 (by kernel_rfl) ?_
  clear ha a; intro bs w2 he hb_bs hB_bs a ha
  replace hb_bs := Nat.le_trans hx.size hb_bs
  replace hx := hx.tr he
  clear he
  refine lstore (off := 0) ha rfl rfl (by kernel_rfl) hB_bs ⟨idc (shaSum u)⟩ rfl (by kernel_rfl) (by kernel_rfl) ?_
  clear ha a; intro w3 hc a ha
  replace hx := hc.ext hx hb_bs
  replace hB_bs := hc.at_; clear hc
  refine lnil ?_
  replace ha := ha.sub (ρ' := [(1, .string (S b)), (2, .string (S s)), (7, .pointer (some ⟨bs, 0, none⟩))]) (by kernel_rfl)
  refine tn ?_
  refine wseq ?_
  refine reg hmix (ρ' := [(6, .bool (decide (((shaSum u).l : List UInt8) = ((s.drop b.length) : List UInt8))))]) (C := [RunOk Tryd.prog w3 (convert 50 9 (.slice (some ⟨bs, 0, none⟩) 32 32)) (.string (S ((shaSum u).l))), 0 ≤ ((b.length : Nat) : Int) ∧ ((b.length : Nat) : Int) ≤ (s.length : Int)]) ha [(0, .raw), (1, .val (.string (S ((shaSum u).l))))] (by kernel_rfl) (.cons (cvId (e := 5) (x := (shaSum u)) (by kernel_rfl) (by kernel_rfl) (by kernel_rfl) hB_bs (by kernel_rfl)) (.cons ⟨by omega, by omega⟩ .nil)) ?_
  clear ha a; intro a w4 ha he
  replace hx := hx.tr he
  replace hB_bs := keepB he hB_bs
  clear he
  refine tn ?_
  refine wret ?_
  refine fin ha (.tmp rfl .nil) ?_
  exact ⟨rfl, hx⟩
theorem rfine15_ok (A : Option Addr) (c : Nat) (l : List RItemR) (w : World) (hr : Rd w 37 A l.length (l.flatMap encRItem)) (hl : l.length ≤ 1000000) :
    Fn Tryd.prog 28 #[.slice A l.length c] w (fun v w' => v = .bool (rFineA l) ∧ Ext w w') := by
  have hx : Ext w w := Ext.rfl' w
  refine enter (N := 65) (args := [.slice A l.length c]) Tryd.func28 rfl rfl rfl ?_
  intro a ha
  simp only [argEnv, Nat.zero_add, Nat.reduceAdd] at ha
  refine wseq ?_
  refine regp (ρ' := [(0, .slice A l.length c)]) (C := []) ha [] (by kernel_rfl) .nil ?_
  clear ha a; intro a ha
  refine tn ?_
  refine wseq ?_
  refine wseq ?_
  refine regp (ρ' := [(0, .slice A l.length c), (3, .int .i64 0)]) (C := []) ha [] (by kernel_rfl) .nil ?_
  clear ha a; intro a ha
  refine tn ?_
  refine wblk ?_
  refine wloop (fun zz a w1 => ∃ (i : Nat), zz = l.length - i ∧ On 65 [(0, .slice A l.length c), (3, .int .i64 ((i : Nat) : Int))] a ∧ Ext w w1 ∧ (i ≤ l.length) ∧ (∀ j, j < i → pfine (l.getD j default).X j = true)) _ ⟨0, rfl, ha.sub (ρ' := [(0, .slice A l.length c), (3, .int .i64 ((0 : Nat) : Int))]) (by kernel_rfl), hx, by omega, fun j hj => absurd hj (by omega)⟩ ?_
  clear ha hx
  rintro zz a w2 ⟨i, hzz, ha, hx, hi, hk⟩
  refine wseq ?_
  refine wseq ?_
  refine regp (ρ' := [(0, .slice A l.length c), (3, .int .i64 ((i : Nat) : Int)), (8, .bool (decide (((i : Nat) : Int) < ((l.length : Nat) : Int))))]) (C := []) ha [] (by kernel_rfl) .nil ?_
  clear ha a; intro a ha
  refine tn ?_
  refine wif ha rfl (fun h8 => ?_) (fun h8 => ?_)
  · replace h8 := of_decide_eq_true h8
    refine wskip ?_
    refine tn ?_
    refine wseq ?_
    refine wblk ?_
    refine wseq ?_
    refine reg_list ?_
    refine segp (ρ' := [(0, .slice A l.length c), (3, .int .i64 ((i : Nat) : Int)), (14, .agg ⟨encRItem (l.getD i default)⟩)]) (C := [RunOk Tryd.prog w2 (Instr.indexAt 39 (.slice A l.length c) (.int .i64 ((i : Nat) : Int))) (.pointer (some ⟨ab A, ao A + i * 37, none⟩)), RunOk Tryd.prog w2 (Instr.loadAt 57 (.pointer (some ⟨ab A, ao A + i * 37, none⟩))) (.agg ⟨encRItem (l.getD i default)⟩)]) ha 4 [(2, .val (.pointer (some ⟨ab A, ao A + i * 37, none⟩))), (3, .val (.agg ⟨encRItem (l.getD i default)⟩))] rfl (by kernel_rfl) (.cons (ixRd (e := 57) (by kernel_rfl) (by kernel_rfl) (rdE hx hr) (by omega)) (.cons (ldRdK (k := 37) (vs := encRItem (l.getD i default)) (j := i * 37) (by kernel_rfl) (encRItem_len _) (by kernel_rfl) (rdE hx hr) (by omega) (flat_seg encRItem_len l default i (by omega))) .nil)) ?_
    clear ha a; intro a ha
    refine lnew ha rfl (by kernel_rfl) ⟨.int .i64 0 :: (.int .i64 0 :: ((idc idZ) ++ (.string (S []) :: (.int .i64 0 :: ([.int .i64 0])))))⟩ 57 (by kernel_rfl) ?_
    clear ha a; intro bx w3 he hb_bx hB_bx a ha
    replace hb_bx := Nat.le_trans hx.size hb_bx
    replace hx := hx.tr he
    clear he
    refine lstore (off := 0) ha rfl rfl (by kernel_rfl) hB_bx ⟨encRItem (l.getD i default)⟩ rfl (by kernel_rfl) (by kernel_rfl) ?_
    clear ha a; intro w4 hc a ha
    replace hx := hc.ext hx hb_bx
    replace hB_bx := hc.at_; clear hc
    refine lnil ?_
    replace ha := ha.sub (ρ' := [(0, .slice A l.length c), (3, .int .i64 ((i : Nat) : Int)), (4, .pointer (some ⟨bx, 0, none⟩))]) (by kernel_rfl)
    refine tn ?_
    refine wseq ?_
    refine wseq ?_
    refine regp (ρ' := [(0, .slice A l.length c), (3, .int .i64 ((i : Nat) : Int)), (4, .pointer (some ⟨bx, 0, none⟩)), (28, .bool (((decide (((l.getD i default).X.Kind : Int) < 0)) || (decide ((2 : Int) < (l.getD i default).X.Kind))) || (decide ((4096 : Int) < ((((l.getD i default).X.Data).length : Nat) : Int)))))]) (C := [RunOk Tryd.prog w4 (Instr.loadAt 3 (.pointer (some ⟨bx, 0, none⟩))) (.int .i64 ((l.getD i default).X.Kind)), (decide (((l.getD i default).X.Kind : Int) < 0)) = false → All [RunOk Tryd.prog w4 (Instr.loadAt 3 (.pointer (some ⟨bx, 0, none⟩))) (.int .i64 ((l.getD i default).X.Kind))], ((decide (((l.getD i default).X.Kind : Int) < 0)) || (decide ((2 : Int) < (l.getD i default).X.Kind))) = false → All [RunOk Tryd.prog w4 (Instr.loadAt 9 (.pointer (some ⟨bx, 34, none⟩))) (.string (S ((l.getD i default).X.Data)))]]) ha [(1, .val (.int .i64 ((l.getD i default).X.Kind))), (5, .val (.int .i64 ((l.getD i default).X.Kind))), (10, .val (.string (S ((l.getD i default).X.Data))))] (by kernel_rfl) (.cons (ld1 hB_bx (by kernel_rfl) (by kernel_rfl)) (.cons (fun hg4 => by replace hg4 := of_decide_eq_false hg4; exact (.cons (ld1 hB_bx (by kernel_rfl) (by kernel_rfl)) .nil)) (.cons (fun hg9 => by simp only [Bool.not_eq_true', Bool.not_eq_false', Bool.and_eq_true, Bool.or_eq_true, Bool.and_eq_false_iff, Bool.or_eq_false_iff, decide_eq_true_eq, decide_eq_false_iff_not, Bool.not_eq_true, Decidable.not_not] at hg9; exact (.cons (ld1 hB_bx (by kernel_rfl) (by kernel_rfl)) .nil)) .nil))) ?_
    clear ha a; intro a ha
    refine tn ?_
    refine wif ha rfl (fun h28 => ?_) (fun h28 => ?_)
    · simp only [Bool.not_eq_true', Bool.not_eq_false', Bool.and_eq_true, Bool.or_eq_true, Bool.and_eq_false_iff, Bool.or_eq_false_iff, decide_eq_true_eq, decide_eq_false_iff_not, Bool.not_eq_true, Decidable.not_not] at h28
      have hpn := pfine_no (x := (l.getD i default).X) (i := i) (by omega)
      have hres := rFineA_bad (l := l) (i := i) (by omega) hpn
      refine wseq ?_
      refine regp (ρ' := [(2, .bool false)]) (C := []) ha [] (by kernel_rfl) .nil ?_
      clear ha a; intro a ha
      refine tn ?_
      refine wret ?_
      refine (tr (br (tr (tr (br (tr ?_))))))
      refine fin ha (.tmp rfl .nil) ?_
      exact ⟨congrArg Value.bool (by rw [hres] <;> exact decide_eq_decide.2 (by omega)), hx⟩
    · simp only [Bool.not_eq_true', Bool.not_eq_false', Bool.and_eq_true, Bool.or_eq_true, Bool.and_eq_false_iff, Bool.or_eq_false_iff, decide_eq_true_eq, decide_eq_false_iff_not, Bool.not_eq_true, Decidable.not_not] at h28
      refine wskip ?_
      refine tn ?_
      refine wseq ?_
      refine wseq ?_
      refine regp (ρ' := [(0, .slice A l.length c), (3, .int .i64 ((i : Nat) : Int)), (4, .pointer (some ⟨bx, 0, none⟩)), (47, .bool (((!decide (((l.getD i default).X.Kind : Int) = 2)) && (!decide ((l.getD i default).X.Base = idZ))) || ((!decide (((l.getD i default).X.Kind : Int) = 1)) && (!decide (((l.getD i default).X.Back : Int) = 0)))))]) (C := [RunOk Tryd.prog w4 (Instr.loadAt 3 (.pointer (some ⟨bx, 0, none⟩))) (.int .i64 ((l.getD i default).X.Kind)), (!decide (((l.getD i default).X.Kind : Int) = 2)) = true → All [RunOk Tryd.prog w4 (Instr.loadAt 48 (.pointer (some ⟨bx, 2, none⟩))) (.agg ⟨idc ((l.getD i default).X.Base)⟩), BinOk Tryd.prog .neq 48 (.agg ⟨idc ((l.getD i default).X.Base)⟩) (.agg ⟨idc idZ⟩) (.bool (!decide ((l.getD i default).X.Base = idZ)))], ((!decide (((l.getD i default).X.Kind : Int) = 2)) && (!decide ((l.getD i default).X.Base = idZ))) = false → All [RunOk Tryd.prog w4 (Instr.loadAt 3 (.pointer (some ⟨bx, 0, none⟩))) (.int .i64 ((l.getD i default).X.Kind)), (!decide (((l.getD i default).X.Kind : Int) = 1)) = true → All [RunOk Tryd.prog w4 (Instr.loadAt 3 (.pointer (some ⟨bx, 1, none⟩))) (.int .i64 ((l.getD i default).X.Back))]]]) ha [(1, .val (.int .i64 ((l.getD i default).X.Kind))), (5, .val (.agg ⟨idc ((l.getD i default).X.Base)⟩)), (7, .val (.bool (!decide ((l.getD i default).X.Base = idZ)))), (11, .val (.int .i64 ((l.getD i default).X.Kind))), (15, .val (.int .i64 ((l.getD i default).X.Back)))] (by kernel_rfl) (.cons (ld1 hB_bx (by kernel_rfl) (by kernel_rfl)) (.cons (fun hg4 => by simp only [Bool.not_eq_true', Bool.not_eq_false', Bool.and_eq_true, Bool.or_eq_true, Bool.and_eq_false_iff, Bool.or_eq_false_iff, decide_eq_true_eq, decide_eq_false_iff_not, Bool.not_eq_true, Decidable.not_not] at hg4; exact (.cons (ldN (n := 32) hB_bx (by kernel_rfl) (by kernel_rfl) ⟨Nat.le_of_ble_eq_true (by kernel_rfl), (by kernel_rfl)⟩) (.cons (eqIdN (x := (l.getD i default).X.Base) (y := idZ) (by kernel_rfl)) .nil))) (.cons (fun hg10 => by simp only [Bool.not_eq_true', Bool.not_eq_false', Bool.and_eq_true, Bool.or_eq_true, Bool.and_eq_false_iff, Bool.or_eq_false_iff, decide_eq_true_eq, decide_eq_false_iff_not, Bool.not_eq_true, Decidable.not_not] at hg10; exact (.cons (ld1 hB_bx (by kernel_rfl) (by kernel_rfl)) (.cons (fun hg14 => by simp only [Bool.not_eq_true', Bool.not_eq_false', Bool.and_eq_true, Bool.or_eq_true, Bool.and_eq_false_iff, Bool.or_eq_false_iff, decide_eq_true_eq, decide_eq_false_iff_not, Bool.not_eq_true, Decidable.not_not] at hg14; exact (.cons (ld1 hB_bx (by kernel_rfl) (by kernel_rfl)) .nil)) .nil))) .nil))) ?_
      clear ha a; intro a ha
      refine tn ?_
      refine wif ha rfl (fun h47 => ?_) (fun h47 => ?_)
      · simp only [Bool.not_eq_true', Bool.not_eq_false', Bool.and_eq_true, Bool.or_eq_true, Bool.and_eq_false_iff, Bool.or_eq_false_iff, decide_eq_true_eq, decide_eq_false_iff_not, Bool.not_eq_true, Decidable.not_not] at h47
        have hpn := pfine_no (x := (l.getD i default).X) (i := i) (by rintro ⟨_, ⟨g1, g2, g3⟩ | ⟨g1, g2, g3⟩ | ⟨g1, g2⟩⟩ <;> rcases h47 with ⟨e1, e2⟩ | ⟨e1, e2⟩ <;> first | exact e2 g2 | omega)
        have hres := rFineA_bad (l := l) (i := i) (by omega) hpn
        refine wseq ?_
        refine regp (ρ' := [(2, .bool false)]) (C := []) ha [] (by kernel_rfl) .nil ?_
        clear ha a; intro a ha
        refine tn ?_
        refine wret ?_
        refine (tr (br (tr (tr (br (tr ?_))))))
        refine fin ha (.tmp rfl .nil) ?_
        exact ⟨congrArg Value.bool (by rw [hres] <;> exact decide_eq_decide.2 (by omega)), hx⟩
      · simp only [Bool.not_eq_true', Bool.not_eq_false', Bool.and_eq_true, Bool.or_eq_true, Bool.and_eq_false_iff, Bool.or_eq_false_iff, decide_eq_true_eq, decide_eq_false_iff_not, Bool.not_eq_true, Decidable.not_not] at h47
        refine wskip ?_
        refine tn ?_
        refine wseq ?_
        refine regp (ρ' := [(0, .slice A l.length c), (3, .int .i64 ((i : Nat) : Int)), (61, .bool ((decide (((l.getD i default).X.Kind : Int) = 1)) && ((decide (((l.getD i default).X.Back : Int) < 1)) || (decide (((i : Nat) : Int) < (l.getD i default).X.Back)))))]) (C := [RunOk Tryd.prog w4 (Instr.loadAt 3 (.pointer (some ⟨bx, 0, none⟩))) (.int .i64 ((l.getD i default).X.Kind)), (decide (((l.getD i default).X.Kind : Int) = 1)) = true → All [RunOk Tryd.prog w4 (Instr.loadAt 3 (.pointer (some ⟨bx, 1, none⟩))) (.int .i64 ((l.getD i default).X.Back)), (decide (((l.getD i default).X.Back : Int) < 1)) = false → All [RunOk Tryd.prog w4 (Instr.loadAt 3 (.pointer (some ⟨bx, 1, none⟩))) (.int .i64 ((l.getD i default).X.Back))]]]) ha [(1, .val (.int .i64 ((l.getD i default).X.Kind))), (5, .val (.int .i64 ((l.getD i default).X.Back))), (9, .val (.int .i64 ((l.getD i default).X.Back)))] (by kernel_rfl) (.cons (ld1 hB_bx (by kernel_rfl) (by kernel_rfl)) (.cons (fun hg4 => by replace hg4 := of_decide_eq_true hg4; exact (.cons (ld1 hB_bx (by kernel_rfl) (by kernel_rfl)) (.cons (fun hg8 => by replace hg8 := of_decide_eq_false hg8; exact (.cons (ld1 hB_bx (by kernel_rfl) (by kernel_rfl)) .nil)) .nil))) .nil)) ?_
        clear ha a; intro a ha
        refine tn ?_
        refine wif ha rfl (fun h61 => ?_) (fun h61 => ?_)
        · simp only [Bool.not_eq_true', Bool.not_eq_false', Bool.and_eq_true, Bool.or_eq_true, Bool.and_eq_false_iff, Bool.or_eq_false_iff, decide_eq_true_eq, decide_eq_false_iff_not, Bool.not_eq_true, Decidable.not_not] at h61
          have hpn := pfine_no (x := (l.getD i default).X) (i := i) (by omega)
          have hres := rFineA_bad (l := l) (i := i) (by omega) hpn
          refine wseq ?_
          refine regp (ρ' := [(2, .bool false)]) (C := []) ha [] (by kernel_rfl) .nil ?_
          clear ha a; intro a ha
          refine tn ?_
          refine wret ?_
          refine (br (tr (tr (br (tr ?_)))))
          refine fin ha (.tmp rfl .nil) ?_
          exact ⟨congrArg Value.bool (by rw [hres] <;> exact decide_eq_decide.2 (by omega)), hx⟩
        · simp only [Bool.not_eq_true', Bool.not_eq_false', Bool.and_eq_true, Bool.or_eq_true, Bool.and_eq_false_iff, Bool.or_eq_false_iff, decide_eq_true_eq, decide_eq_false_iff_not, Bool.not_eq_true, Decidable.not_not] at h61
          have hpf : pfine (l.getD i default).X i = true := pfine_iff.2 ⟨by omega, by
            have hb0 : (l.getD i default).X.Kind ≠ 2 → (l.getD i default).X.Base = idZ := fun hh => h47.1.resolve_left hh
            by_cases k0 : (l.getD i default).X.Kind = 0
            · exact .inl ⟨k0, hb0 (by omega), by omega⟩
            · by_cases k1 : (l.getD i default).X.Kind = 1
              · exact .inr (.inl ⟨k1, hb0 (by omega), by omega, by omega⟩)
              · exact .inr (.inr ⟨by omega, by omega⟩)⟩
          refine wskip ?_
          refine bn ?_
          refine tn ?_
          refine regp (ρ' := [(0, .slice A l.length c), (3, .int .i64 ((i + 1 : Nat) : Int))]) (C := [InR .i64 ((i + 1 : Nat) : Int)]) ha [] (by kernel_rfl) (.cons (by unfold InR; omega) .nil) ?_
          clear ha a; intro a ha
          exact tn ⟨l.length - ((i + 1)), by omega, (i + 1), rfl, ha.sub (ρ' := [(0, .slice A l.length c), (3, .int .i64 (((i + 1) : Nat) : Int))]) (by kernel_rfl), hx, by omega, fun j hj => (Nat.lt_or_ge j i).elim (hk j) (fun h => (show j = i by omega) ▸ hpf)⟩
  · replace h8 := of_decide_eq_false h8
    obtain rfl : i = l.length := by omega
    have hres := rFineA_len hk
    refine wexit ?_
    refine (te (te (be ?_)))
    refine tn ?_
    refine wseq ?_
    refine regp (ρ' := [(2, .bool (decide (((l.length : Nat) : Int) ≤ 400)))]) (C := []) ha [] (by kernel_rfl) .nil ?_
    clear ha a; intro a ha
    refine tn ?_
    refine wret ?_
    refine fin ha (.tmp rfl .nil) ?_
    exact ⟨congrArg Value.bool (by rw [hres] <;> exact decide_eq_decide.2 (by omega)), hx⟩
theorem pfine_ok (x : ItemR) (i : Nat) (w : World) (hi : i ≤ 1000000) :
    Fn Tryd.prog 47 #[.agg ⟨encItem x⟩, .int .i64 ((i : Nat) : Int)] w (fun v w' => v = .bool (pfine x i) ∧ Ext w w') := by
  have hx : Ext w w := Ext.rfl' w
  refine enter (N := 49) (args := [.agg ⟨encItem x⟩, .int .i64 ((i : Nat) : Int)]) Tryd.func47 rfl rfl rfl ?_
  intro a ha
  simp only [argEnv, Nat.zero_add, Nat.reduceAdd] at ha
  refine wseq ?_
  refine reg_list ?_
  refine lnew ha rfl (by kernel_rfl) ⟨encItem x⟩ 70 (by kernel_rfl) ?_
  clear ha a; intro bx w1 he hb_bx hB_bx a ha
  replace hb_bx := Nat.le_trans hx.size hb_bx
  replace hx := hx.tr he
  clear he
  refine segp (ρ' := [(1, .int .i64 ((i : Nat) : Int)), (2, .pointer (some ⟨bx, 0, none⟩))]) (C := []) ha 1 [] rfl (by kernel_rfl) .nil ?_
  clear ha a; intro a ha
  refine lnil ?_
  replace ha := ha.sub (ρ' := [(1, .int .i64 ((i : Nat) : Int)), (2, .pointer (some ⟨bx, 0, none⟩))]) (by kernel_rfl)
  refine tn ?_
  refine wseq ?_
  refine regp (ρ' := [(1, .int .i64 ((i : Nat) : Int)), (2, .pointer (some ⟨bx, 0, none⟩)), (5, .bool (decide (x.Base = idZ)))]) (C := [RunOk Tryd.prog w1 (Instr.loadAt 48 (.pointer (some ⟨bx, 2, none⟩))) (.agg ⟨idc x.Base⟩), BinOk Tryd.prog .eql 48 (.agg ⟨idc x.Base⟩) (.agg ⟨idc idZ⟩) (.bool (decide (x.Base = idZ)))]) ha [(1, .val (.agg ⟨idc x.Base⟩)), (3, .val (.bool (decide (x.Base = idZ))))] (by kernel_rfl) (.cons (ldN (n := 32) hB_bx (by kernel_rfl) (by kernel_rfl) ⟨Nat.le_of_ble_eq_true (by kernel_rfl), (by kernel_rfl)⟩) (.cons (eqIdE (x := x.Base) (y := idZ) (by kernel_rfl)) .nil)) ?_
  clear ha a; intro a ha
  refine tn ?_
  refine wseq ?_
  refine wblk ?_
  refine wseq ?_
  refine regp (ρ' := [(1, .int .i64 ((i : Nat) : Int)), (2, .pointer (some ⟨bx, 0, none⟩)), (5, .bool (decide (x.Base = idZ))), (10, .bool (decide ((4096 : Int) < ((x.Data.length : Nat) : Int))))]) (C := [RunOk Tryd.prog w1 (Instr.loadAt 9 (.pointer (some ⟨bx, 34, none⟩))) (.string (S x.Data))]) ha [(1, .val (.string (S x.Data)))] (by kernel_rfl) (.cons (ld1 hB_bx (by kernel_rfl) (by kernel_rfl)) .nil) ?_
  clear ha a; intro a ha
  refine tn ?_
  refine wif ha rfl (fun h10 => ?_) (fun h10 => ?_)
  · replace h10 := of_decide_eq_true h10
    refine wseq ?_
    refine regp (ρ' := [(4, .bool false)]) (C := []) ha [] (by kernel_rfl) .nil ?_
    clear ha a; intro a ha
    refine tn ?_
    refine wret ?_
    refine (br (tr ?_))
    refine fin ha (.tmp rfl .nil) ?_
    refine ⟨congrArg Value.bool ?_, hx⟩
    unfold pfine
    rw [Bool.eq_iff_iff]
    simp only [Bool.and_eq_true, decide_eq_true_eq, Bool.false_eq_true, false_iff]
    by_cases hbz : x.Base = idZ <;> simp [hbz] <;> omega
  · replace h10 := of_decide_eq_false h10
    refine wseq ?_
    refine regp (ρ' := [(1, .int .i64 ((i : Nat) : Int)), (2, .pointer (some ⟨bx, 0, none⟩)), (5, .bool (decide (x.Base = idZ))), (15, .bool (decide ((x.Kind : Int) = 0)))]) (C := [RunOk Tryd.prog w1 (Instr.loadAt 3 (.pointer (some ⟨bx, 0, none⟩))) (.int .i64 x.Kind)]) ha [(1, .val (.int .i64 x.Kind))] (by kernel_rfl) (.cons (ld1 hB_bx (by kernel_rfl) (by kernel_rfl)) .nil) ?_
    clear ha a; intro a ha
    refine tn ?_
    refine wif ha rfl (fun h15 => ?_) (fun h15 => ?_)
    · replace h15 := of_decide_eq_true h15
      refine wseq ?_
      refine regp (ρ' := [(4, .bool ((decide (x.Base = idZ)) && (decide ((x.Back : Int) = 0))))]) (C := [(decide (x.Base = idZ)) = true → All [RunOk Tryd.prog w1 (Instr.loadAt 3 (.pointer (some ⟨bx, 1, none⟩))) (.int .i64 x.Back)]]) ha [(3, .val (.int .i64 x.Back))] (by kernel_rfl) (.cons (fun hg2 => by replace hg2 := of_decide_eq_true hg2; exact (.cons (ld1 hB_bx (by kernel_rfl) (by kernel_rfl)) .nil)) .nil) ?_
      clear ha a; intro a ha
      refine tn ?_
      refine wret ?_
      refine (br (tr ?_))
      refine fin ha (.tmp rfl .nil) ?_
      refine ⟨congrArg Value.bool ?_, hx⟩
      unfold pfine
      rw [Bool.eq_iff_iff]
      simp only [Bool.and_eq_true, decide_eq_true_eq, Bool.false_eq_true, false_iff]
      by_cases hbz : x.Base = idZ <;> simp [hbz] <;> omega
    · replace h15 := of_decide_eq_false h15
      refine wseq ?_
      refine regp (ρ' := [(1, .int .i64 ((i : Nat) : Int)), (2, .pointer (some ⟨bx, 0, none⟩)), (5, .bool (decide (x.Base = idZ))), (25, .bool (decide ((x.Kind : Int) = 1)))]) (C := [RunOk Tryd.prog w1 (Instr.loadAt 3 (.pointer (some ⟨bx, 0, none⟩))) (.int .i64 x.Kind)]) ha [(1, .val (.int .i64 x.Kind))] (by kernel_rfl) (.cons (ld1 hB_bx (by kernel_rfl) (by kernel_rfl)) .nil) ?_
      clear ha a; intro a ha
      refine tn ?_
      refine wif ha rfl (fun h25 => ?_) (fun h25 => ?_)
      · replace h25 := of_decide_eq_true h25
        refine wseq ?_
        refine regp (ρ' := [(4, .bool (((decide (x.Base = idZ)) && (decide ((1 : Int) ≤ x.Back))) && (decide ((x.Back : Int) ≤ ((i : Nat) : Int)))))]) (C := [(decide (x.Base = idZ)) = true → All [RunOk Tryd.prog w1 (Instr.loadAt 3 (.pointer (some ⟨bx, 1, none⟩))) (.int .i64 x.Back)], ((decide (x.Base = idZ)) && (decide ((1 : Int) ≤ x.Back))) = true → All [RunOk Tryd.prog w1 (Instr.loadAt 3 (.pointer (some ⟨bx, 1, none⟩))) (.int .i64 x.Back)]]) ha [(3, .val (.int .i64 x.Back)), (8, .val (.int .i64 x.Back))] (by kernel_rfl) (.cons (fun hg2 => by replace hg2 := of_decide_eq_true hg2; exact (.cons (ld1 hB_bx (by kernel_rfl) (by kernel_rfl)) .nil)) (.cons (fun hg7 => by simp only [Bool.not_eq_true', Bool.not_eq_false', Bool.and_eq_true, Bool.or_eq_true, Bool.and_eq_false_iff, Bool.or_eq_false_iff, decide_eq_true_eq, decide_eq_false_iff_not, Bool.not_eq_true, Decidable.not_not] at hg7; exact (.cons (ld1 hB_bx (by kernel_rfl) (by kernel_rfl)) .nil)) .nil)) ?_
        clear ha a; intro a ha
        refine tn ?_
        refine wret ?_
        refine (br (tr ?_))
        refine fin ha (.tmp rfl .nil) ?_
        refine ⟨congrArg Value.bool ?_, hx⟩
        unfold pfine
        rw [Bool.eq_iff_iff]
        simp only [Bool.and_eq_true, decide_eq_true_eq, Bool.false_eq_true, false_iff]
        by_cases hbz : x.Base = idZ <;> simp [hbz] <;> omega
      · replace h25 := of_decide_eq_false h25
        refine wskip ?_
        refine bn ?_
        refine tn ?_
        refine wseq ?_
        refine regp (ρ' := [(4, .bool ((decide ((x.Kind : Int) = 2)) && (decide ((x.Back : Int) = 0))))]) (C := [RunOk Tryd.prog w1 (Instr.loadAt 3 (.pointer (some ⟨bx, 0, none⟩))) (.int .i64 x.Kind), (decide ((x.Kind : Int) = 2)) = true → All [RunOk Tryd.prog w1 (Instr.loadAt 3 (.pointer (some ⟨bx, 1, none⟩))) (.int .i64 x.Back)]]) ha [(1, .val (.int .i64 x.Kind)), (5, .val (.int .i64 x.Back))] (by kernel_rfl) (.cons (ld1 hB_bx (by kernel_rfl) (by kernel_rfl)) (.cons (fun hg4 => by replace hg4 := of_decide_eq_true hg4; exact (.cons (ld1 hB_bx (by kernel_rfl) (by kernel_rfl)) .nil)) .nil)) ?_
        clear ha a; intro a ha
        refine tn ?_
        refine wret ?_
        refine fin ha (.tmp rfl .nil) ?_
        refine ⟨congrArg Value.bool ?_, hx⟩
        unfold pfine
        rw [Bool.eq_iff_iff]
        simp only [Bool.and_eq_true, decide_eq_true_eq, Bool.false_eq_true, false_iff]
        by_cases hbz : x.Base = idZ <;> simp [hbz] <;> omega
theorem pbytes_ok (x : ItemR) (i : Nat) (w : World) (hpf : pfine x i = true) (hi : i ≤ 1000000) (hd : x.Data.length ≤ 5000) :
    Fn Tryd.prog 48 #[.agg ⟨encItem x⟩] w (fun v w' => v = .string (S (pbytes x)) ∧ Ext w w') := by
  have hx : Ext w w := Ext.rfl' w
  refine enter (N := 32) (args := [.agg ⟨encItem x⟩]) Tryd.func48 rfl rfl rfl ?_
  intro a ha
  simp only [argEnv, Nat.zero_add, Nat.reduceAdd] at ha
  refine wseq ?_
  refine reg_list ?_
  refine lnew ha rfl (by kernel_rfl) ⟨encItem x⟩ 70 (by kernel_rfl) ?_
  clear ha a; intro bx w1 he hb_bx hB_bx a ha
  replace hb_bx := Nat.le_trans hx.size hb_bx
  replace hx := hx.tr he
  clear he
  refine segp (ρ' := [(1, .pointer (some ⟨bx, 0, none⟩))]) (C := []) ha 1 [] rfl (by kernel_rfl) .nil ?_
  clear ha a; intro a ha
  refine lnil ?_
  replace ha := ha.sub (ρ' := [(1, .pointer (some ⟨bx, 0, none⟩))]) (by kernel_rfl)
  have hpq := pfine_iff.1 hpf
  have hpl := lzPack_len x.Data
  have hvt := vtext_len (lzPack x.Data)
  have hv1 := (vput_len x.Back.toNat).1
  have hbl := x.Base.h
  refine tn ?_
  refine wseq ?_
  refine reg_list ?_
  refine segp (ρ' := [(1, .pointer (some ⟨bx, 0, none⟩)), (6, .int .u8 (x.Kind % 256))]) (C := [RunOk Tryd.prog w1 (Instr.loadAt 3 (.pointer (some ⟨bx, 0, none⟩))) (.int .i64 x.Kind)]) ha 3 [(1, .val (.int .i64 x.Kind)), (2, .mod)] rfl (by kernel_rfl) (.cons (ld1 hB_bx (by kernel_rfl) (by kernel_rfl)) .nil) ?_
  clear ha a; intro a ha
  refine lnewS ha rfl (by kernel_rfl) #[.int .u8 (x.Kind % 256)] 5 1 (by kernel_rfl) ?_
  clear ha a; intro bk w2 he hb_bk hB_bk a ha
  have hne_bx_bk : bx ≠ bk := ne_new hB_bx hb_bk
  replace hB_bx := keepB he hB_bx
  replace hb_bk := Nat.le_trans hx.size hb_bk
  replace hx := hx.tr he
  clear he
  refine segp (ρ' := [(1, .pointer (some ⟨bx, 0, none⟩)), (3, .string (S [UInt8.ofNat ((x.Kind % 256) : Int).toNat]))]) (C := [RunOk Tryd.prog w2 (convert 50 9 (.slice (some ⟨bk, 0, none⟩) 1 1)) (.string (S [UInt8.ofNat ((x.Kind % 256) : Int).toNat]))]) ha 2 [(0, .val (.string (S [UInt8.ofNat ((x.Kind % 256) : Int).toNat])))] rfl (by kernel_rfl) (.cons (cvBlk (e := 5) (zs := [((x.Kind % 256) : Int)]) (by kernel_rfl) (by kernel_rfl) (by kernel_rfl) hB_bk rfl rfl) .nil) ?_
  clear ha a; intro a ha
  refine lnil ?_
  replace ha := ha.sub (ρ' := [(1, .pointer (some ⟨bx, 0, none⟩)), (3, .string (S [UInt8.ofNat ((x.Kind % 256) : Int).toNat]))]) (by kernel_rfl)
  rw [show ([UInt8.ofNat ((x.Kind % 256) : Int).toNat] : List UInt8) = (oneB8 x.Kind) from rfl] at ha
  have hob : (oneB8 x.Kind).length = 1 := rfl
  refine tn ?_
  refine wseq ?_
  refine wseq ?_
  refine regp (ρ' := [(1, .pointer (some ⟨bx, 0, none⟩)), (3, .string (S (oneB8 x.Kind))), (10, .int .i64 x.Kind)]) (C := [RunOk Tryd.prog w2 (Instr.loadAt 3 (.pointer (some ⟨bx, 0, none⟩))) (.int .i64 x.Kind)]) ha [(1, .val (.int .i64 x.Kind))] (by kernel_rfl) (.cons (ld1 hB_bx (by kernel_rfl) (by kernel_rfl)) .nil) ?_
  clear ha a; intro a ha
  refine tn ?_
  refine wblk ?_
  refine wseq ?_
  refine regp (ρ' := [(1, .pointer (some ⟨bx, 0, none⟩)), (3, .string (S (oneB8 x.Kind))), (10, .int .i64 x.Kind), (11, .bool (decide ((x.Kind : Int) = 1)))]) (C := []) ha [] (by kernel_rfl) .nil ?_
  clear ha a; intro a ha
  refine tn ?_
  refine wif ha rfl (fun h11 => ?_) (fun h11 => ?_)
  · replace h11 := of_decide_eq_true h11
    refine reg hmix (ρ' := [(1, .pointer (some ⟨bx, 0, none⟩)), (3, .string (S ((oneB8 x.Kind) ++ (vput ((x.Back : Int).toNat)))))]) (C := [RunOk Tryd.prog w2 (Instr.loadAt 3 (.pointer (some ⟨bx, 1, none⟩))) (.int .i64 x.Back), InR .u64 x.Back, CallOk Tryd.prog w2 46 #[.int .u64 x.Back] (.string (S (vput ((x.Back : Int).toNat)))), ((oneB8 x.Kind) : List UInt8).length + ((vput ((x.Back : Int).toNat)) : List UInt8).length ≤ 9223372036854775807]) ha [(2, .val (.int .i64 x.Back)), (4, .val (.string (S (vput ((x.Back : Int).toNat)))))] (by kernel_rfl) (.cons (ld1 hB_bx (by kernel_rfl) (by kernel_rfl)) (.cons (by unfold InR; omega) (.cons (fun w _ => put_okI _ w (by omega) (by omega)) (.cons (by first | omega | (simp only [List.length_cons, List.length_nil, List.length_append, List.length_take, List.length_drop]; omega)) .nil)))) ?_
    clear ha a; intro a w3 ha he
    replace hx := hx.tr he
    replace hB_bx := keepB he hB_bx
    replace hB_bk := keepB he hB_bk
    clear he
    refine bn ?_
    refine tn ?_
    refine wseq ?_
    refine reg hmix (ρ' := [(2, .string (S (((oneB8 x.Kind) ++ (vput ((x.Back : Int).toNat))) ++ (vtext (lzPack x.Data)))))]) (C := [RunOk Tryd.prog w3 (Instr.loadAt 9 (.pointer (some ⟨bx, 34, none⟩))) (.string (S x.Data)), CallOk Tryd.prog w3 67 #[.string (S x.Data)] (.string (S (lzPack x.Data))), CallOk Tryd.prog w3 66 #[.string (S (lzPack x.Data))] (.string (S (vtext (lzPack x.Data)))), (((oneB8 x.Kind) ++ (vput ((x.Back : Int).toNat))) : List UInt8).length + ((vtext (lzPack x.Data)) : List UInt8).length ≤ 9223372036854775807]) ha [(2, .val (.string (S x.Data))), (3, .val (.string (S (lzPack x.Data)))), (4, .val (.string (S (vtext (lzPack x.Data)))))] (by kernel_rfl) (.cons (ld1 hB_bx (by kernel_rfl) (by kernel_rfl)) (.cons (fun w _ => pack_ok _ w (by omega)) (.cons (fun w _ => text_ok _ w (by omega)) (.cons (by first | omega | (simp only [List.length_cons, List.length_nil, List.length_append, List.length_take, List.length_drop]; omega)) .nil)))) ?_
    clear ha a; intro a w4 ha he
    replace hx := hx.tr he
    replace hB_bx := keepB he hB_bx
    replace hB_bk := keepB he hB_bk
    clear he
    refine tn ?_
    refine wret ?_
    refine fin ha (.tmp rfl .nil) ?_
    refine ⟨congrArg (fun q => Value.string (S q)) ?_, hx⟩
    unfold pbytes pmid
    first | (rw [if_pos (by omega)]; done) | (rw [if_neg (by omega), if_pos (by omega)]; done) | (rw [if_neg (by omega), if_neg (by omega)]; simp)
  · replace h11 := of_decide_eq_false h11
    refine wseq ?_
    refine regp (ρ' := [(1, .pointer (some ⟨bx, 0, none⟩)), (3, .string (S (oneB8 x.Kind))), (19, .bool (decide ((x.Kind : Int) = 2)))]) (C := []) ha [] (by kernel_rfl) .nil ?_
    clear ha a; intro a ha
    refine tn ?_
    refine wif ha rfl (fun h19 => ?_) (fun h19 => ?_)
    · replace h19 := of_decide_eq_true h19
      refine regp (ρ' := [(1, .pointer (some ⟨bx, 0, none⟩)), (3, .string (S ((oneB8 x.Kind) ++ x.Base.l)))]) (C := [RunOk Tryd.prog w2 (convert 50 9 (.slice (some ⟨bx, 2, none⟩) 32 32)) (.string (S x.Base.l)), ((oneB8 x.Kind) : List UInt8).length + (x.Base.l : List UInt8).length ≤ 9223372036854775807]) ha [(2, .raw), (3, .val (.string (S x.Base.l)))] (by kernel_rfl) (.cons (cvId (e := 5) (x := x.Base) (by kernel_rfl) (by kernel_rfl) (by kernel_rfl) hB_bx (by kernel_rfl)) (.cons (by first | omega | (simp only [List.length_cons, List.length_nil, List.length_append, List.length_take, List.length_drop]; omega)) .nil)) ?_
      clear ha a; intro a ha
      refine bn ?_
      refine tn ?_
      refine wseq ?_
      refine reg hmix (ρ' := [(2, .string (S (((oneB8 x.Kind) ++ x.Base.l) ++ (vtext (lzPack x.Data)))))]) (C := [RunOk Tryd.prog w2 (Instr.loadAt 9 (.pointer (some ⟨bx, 34, none⟩))) (.string (S x.Data)), CallOk Tryd.prog w2 67 #[.string (S x.Data)] (.string (S (lzPack x.Data))), CallOk Tryd.prog w2 66 #[.string (S (lzPack x.Data))] (.string (S (vtext (lzPack x.Data)))), (((oneB8 x.Kind) ++ x.Base.l) : List UInt8).length + ((vtext (lzPack x.Data)) : List UInt8).length ≤ 9223372036854775807]) ha [(2, .val (.string (S x.Data))), (3, .val (.string (S (lzPack x.Data)))), (4, .val (.string (S (vtext (lzPack x.Data)))))] (by kernel_rfl) (.cons (ld1 hB_bx (by kernel_rfl) (by kernel_rfl)) (.cons (fun w _ => pack_ok _ w (by omega)) (.cons (fun w _ => text_ok _ w (by omega)) (.cons (by first | omega | (simp only [List.length_cons, List.length_nil, List.length_append, List.length_take, List.length_drop]; omega)) .nil)))) ?_
      clear ha a; intro a w5 ha he
      replace hx := hx.tr he
      replace hB_bx := keepB he hB_bx
      replace hB_bk := keepB he hB_bk
      clear he
      refine tn ?_
      refine wret ?_
      refine fin ha (.tmp rfl .nil) ?_
      refine ⟨congrArg (fun q => Value.string (S q)) ?_, hx⟩
      unfold pbytes pmid
      first | (rw [if_pos (by omega)]; done) | (rw [if_neg (by omega), if_pos (by omega)]; done) | (rw [if_neg (by omega), if_neg (by omega)]; simp)
    · replace h19 := of_decide_eq_false h19
      refine wskip ?_
      refine bn ?_
      refine tn ?_
      refine wseq ?_
      refine reg hmix (ρ' := [(2, .string (S ((oneB8 x.Kind) ++ (vtext (lzPack x.Data)))))]) (C := [RunOk Tryd.prog w2 (Instr.loadAt 9 (.pointer (some ⟨bx, 34, none⟩))) (.string (S x.Data)), CallOk Tryd.prog w2 67 #[.string (S x.Data)] (.string (S (lzPack x.Data))), CallOk Tryd.prog w2 66 #[.string (S (lzPack x.Data))] (.string (S (vtext (lzPack x.Data)))), ((oneB8 x.Kind) : List UInt8).length + ((vtext (lzPack x.Data)) : List UInt8).length ≤ 9223372036854775807]) ha [(2, .val (.string (S x.Data))), (3, .val (.string (S (lzPack x.Data)))), (4, .val (.string (S (vtext (lzPack x.Data)))))] (by kernel_rfl) (.cons (ld1 hB_bx (by kernel_rfl) (by kernel_rfl)) (.cons (fun w _ => pack_ok _ w (by omega)) (.cons (fun w _ => text_ok _ w (by omega)) (.cons (by first | omega | (simp only [List.length_cons, List.length_nil, List.length_append, List.length_take, List.length_drop]; omega)) .nil)))) ?_
      clear ha a; intro a w6 ha he
      replace hx := hx.tr he
      replace hB_bx := keepB he hB_bx
      replace hB_bk := keepB he hB_bk
      clear he
      refine tn ?_
      refine wret ?_
      refine fin ha (.tmp rfl .nil) ?_
      refine ⟨congrArg (fun q => Value.string (S q)) ?_, hx⟩
      unfold pbytes pmid
      first | (rw [if_pos (by omega)]; done) | (rw [if_neg (by omega), if_pos (by omega)]; done) | (rw [if_neg (by omega), if_neg (by omega)]; simp)
end Go.Kn
end
section
/- The engine: builders that were read by String() and are written on. -/
set_option linter.unusedSimpArgs false
set_option linter.unusedVariables false
set_option linter.unusedSectionVars false
namespace Go.Kn
open Go.RowKit (Below)
abbrev OwnF (w : World) (B : Nat) (e : TypeId) (sz : Nat) (A : Option Addr) (n c : Nat) (xs : List Value) : Prop := w.ownsRowF B e sz (.slice A n c) n xs
section
variable {w w' : World} {B e sz n c b : Nat} {A : Option Addr} {xs : List Value} {o : Obj}
theorem ownFE (he : Ext w w') (h : OwnF w B e sz A n c xs) : OwnF w' B e sz A n c xs := by
  refine ⟨h.1, ?_⟩
  rcases h.2 with h0 | ⟨g, cap, cur, fz, hv, hb, hg, hr⟩
  · exact .inl h0
  · exact .inr ⟨g, cap, cur, fz, hv, hb, keepB he hg, hr⟩
theorem ownFC {cs : Array Value} {T : TypeId} {fz : Nat × Nat} (hc : Chg w w' b o) (hB : w.heap[b]? = some (.cells cs T fz)) (hne : Nat.beq T e = false) (h : OwnF w B e sz A n c xs) : OwnF w' B e sz A n c xs := by
  refine ⟨h.1, ?_⟩
  rcases h.2 with h0 | ⟨g, cap, cur, fz', hv, hb, hg, hr⟩
  · exact .inl h0
  · refine .inr ⟨g, cap, cur, fz', hv, hb, hc.keep hg ?_, hr⟩
    rintro rfl
    rw [hB] at hg; cases hg
    exact beqN_ne hne rfl
theorem ownFFr1 {T : Nat} {cs : Array Value} {fz : Nat × Nat} (hf : Fr [b] w w') (hB : w.heap[b]? = some (.cells cs T fz)) (hne : Nat.beq T e = false) (h : OwnF w B e sz A n c xs) : OwnF w' B e sz A n c xs := by
  refine ⟨h.1, ?_⟩
  rcases h.2 with h0 | ⟨g, cap, cur, fz', hv, hb, hg, hr⟩
  · exact .inl h0
  · refine .inr ⟨g, cap, cur, fz', hv, hb, hf.keep hg ?_, hr⟩
    intro x hx
    simp only [List.mem_singleton] at hx
    subst hx
    rintro rfl
    rw [hB] at hg; cases hg
    exact beqN_ne hne rfl
theorem ownF_shape {v : Value} (h : w.ownsRowF B e sz v n xs) : ∃ A c, v = .slice A n c := by
  rcases h.2 with ⟨h1, h2⟩ | ⟨g, cap, cur, fz, hv, _⟩
  · exact ⟨none, 0, by rw [h1, h2]⟩
  · exact ⟨_, _, hv⟩
theorem ownF_ne {T : Nat} {cs : Array Value} {fz : Nat × Nat} (h : OwnF w B e sz A n c xs) (hB : w.heap[b]? = some (.cells cs T fz)) (hT : Nat.beq T e = false) : (Value.slice A n c).ownBlock ≠ some b := by
  intro he
  rcases h.2 with ⟨h1, _⟩ | ⟨g, cap, cur, fz', hv, _, hg, _⟩
  · rw [h1] at he; simp [Value.ownBlock] at he
  · rw [hv] at he
    simp only [Value.ownBlock, Option.some.injEq] at he
    subst he
    rw [hB] at hg; cases hg
    exact beqN_ne hT rfl
variable {P : Program}
theorem run_append_roomF (t ty e : TypeId) (i : TypeInfo) (ht : P.underlying t = some (.slice e)) (hi : P.info? e = some i)
    (g sLen sCap : Nat) (cur : Array Value) (fz : Nat × Nat) (hg : w.heap[g]? = some (.cells cur e fz)) (hfz : fz.2 ≤ sLen * i.size)
    (a : Addr) (m c : Nat) (news : List Value) (hl : news.length = m * i.size) (hnews : ∀ j u, news[j]? = some u → w.cell? (a.add j) = some u) (h1 : ∀ u ∈ news, u.oneCell' = true)
    (hroom : sLen + m ≤ sCap) (hfit : sLen * i.size + news.length ≤ cur.size) :
    (Builtin.append_ #[t, t] ty #[.slice (some ⟨g, 0, none⟩) sLen sCap, .slice (some a) m c]).run P w =
      .ok (.slice (some ⟨g, 0, none⟩) (sLen + m) sCap) (w.setRow g (cur.toList.take (sLen * i.size) ++ news ++ cur.toList.drop (sLen * i.size + news.length)).toArray) := by
  have hf := run_firstCells_some (P := P) w i.size m a m c news hl hnews
  have hst := run_storeCells_atF P g (sLen * i.size) e fz news 0 cur w hg (by simpa using hfz) (by simpa using hfit) h1
  simp only [Nat.add_zero] at hst
  simp [Builtin.append_, run_underlying ht, sizeOf, typeInfo, hi, Builtin.lenOf, hroom, hf, Addr.add_lit, hst]
theorem run_append_ownF (base : Nat) (t ty e : TypeId) (i : TypeInfo) (z : Value) (ht : P.underlying t = some (.slice e)) (hi : P.info? e = some i) (hz : i.zero = some z) (hzs : z.cells.size = i.size) (hsz : 0 < i.size)
    (n c0 : Nat) (A : Option Addr) (xs : List Value) (hown : OwnF w base e i.size A n c0 xs)
    (a : Addr) (m c : Nat) (news : List Value) (hl : news.length = m * i.size) (hnews : ∀ j u, news[j]? = some u → w.cell? (a.add j) = some u) (h1 : ∀ u ∈ news, u.oneCell' = true)
    (h63 : n + m ≤ maxLen) (hbytes : (n + m) * i.bytes ≤ 140737488355328) (hbase : base ≤ w.heap.size) :
    ∃ v' w', (Builtin.append_ #[t, t] ty #[.slice A n c0, .slice (some a) m c]).run P w = .ok v' w' ∧ w'.ownsRowF base e i.size v' (n + m) (xs ++ news) ∧ w.grownBy w' (Value.slice A n c0).ownBlock := by
  have hlen : (xs ++ news).length = (n + m) * i.size := by rw [List.length_append, hown.1, hl, Nat.add_mul]
  rcases hown.2 with ⟨hv, h0⟩ | ⟨g, cap, cur, fz, hv, hbg, hg, hfz, hnc, hcm, hcs, htake⟩
  · obtain ⟨v', w', r1, r2, r3, _⟩ := run_append_own (P := P) w base t ty e i z i.size i.bytes ht hi hz rfl rfl hzs hsz (.slice A n c0) n xs ⟨hown.1, .inl ⟨hv, h0⟩⟩ a m c news hl hnews h1 h63 hbytes hbase
    exact ⟨v', w', r1, World.ownsRowF_of r2, r3⟩
  · injection hv with e1 e2 e3
    subst e1; subst e3
    have hsmall : n + m ≤ 9223372036854775807 := by simp only [maxLen] at h63; omega
    by_cases hroom : n + m ≤ c0
    · have hfit : n * i.size + news.length ≤ cur.size := by rw [hl, hcs, ← Nat.add_mul]; exact Nat.mul_le_mul_right _ hroom
      have hr := run_append_roomF (P := P) t ty e i ht hi g n c0 cur fz hg hfz a m c news hl hnews h1 hroom hfit
      refine ⟨_, _, hr, ⟨hlen, .inr ⟨g, c0, _, fz, rfl, hbg, setRow_heap w g cur _ e _ hg, ?_, hroom, hcm, ?_, ?_⟩⟩, ⟨rfl, rfl, rfl, by simp, fun k _ hk => setRow_other w g k _ (fun e => hk (by simp [Value.ownBlock, e]))⟩⟩
      · exact Nat.le_trans hfz (Nat.mul_le_mul_right _ (by omega))
      · simp only [List.size_toArray, List.length_append, List.length_take, List.length_drop, Array.length_toList]
        omega
      · rw [htake, ← hlen]
        exact List.take_left
    · have holds : ∀ j u, xs[j]? = some u → w.cell? ((⟨g, 0, none⟩ : Addr).add j) = some u := World.ownsRowF.cells hown (g := g) rfl
      have hr := run_append_grow (P := P) w t ty e i z ht hi hz ⟨g, 0, none⟩ n c0 xs hown.1 holds a m c news hl hnews (by omega) (by omega) (growslice_fits (by omega) hbytes)
      have hge := grownCap_ge w (n + m) c0 e
      have hcm2 := grownCap_le_maxLen w (n + m) c0 e h63
      refine ⟨_, _, hr, ⟨hlen, .inr ⟨w.heap.size, _, _, (0, 0), rfl, hbase, heap_alloc_new w.drew _, Nat.zero_le _, hge, hcm2, ?_, ?_⟩⟩, ⟨rfl, rfl, rfl, by simp, fun k hk _ => by first | exact heap_alloc_old w.drew _ hk | exact heap_alloc_old w.drew _ k hk⟩⟩
      · simp only [Array.size_append, List.size_toArray, size_zeroCells, hzs, hown.1, hl, ← Nat.add_mul]
        congr 1
        omega
      · simp only [Array.toList_append, List.append_assoc]
        rw [← List.append_assoc, ← hlen]
        exact List.take_left
variable {Q : Exit → Act → World → Prop} {a : Act} {N : Nat} {ρ : Env}
theorem lappF {ops : Array Oper} {o : Oper} {l : List Oper} {s x : Operand} {t by_ m c' : Nat} {ad : Addr} (ha : On N ρ a) (hg : o.guard = none) (hok : okOp N ρ o = true)
    (ho : o.op = .call { callee := .builtin .append, args := #[s, x], argTypes := #[t, t] }) (ht : appB P t = some (e, sz, by_)) (hs : ρ.ev s = .slice A n c) (hown : OwnF w B e sz A n c xs)
    (hx : ρ.ev x = .slice (some ad) m c') (news : List Value) (hl : news.length = m * sz) (hnews : ∀ j u, news[j]? = some u → w.cell? (ad.add j) = some u) (h1 : news.all oneB = true)
    (hbytes : (n + m) * by_ ≤ 140737488355328) (hn : n + m ≤ 140737488355328) (hbase : B ≤ w.heap.size)
    (k : ∀ A' cap w', OwnF w' B e sz A' (n + m) cap (xs ++ news) → w.grownBy w' (Value.slice A n c).ownBlock → ∀ a', On N (ρ.set o.dst (.slice A' (n + m) cap)) a' → wpList P ops Q l a' w') : wpList P ops Q (o :: l) a w := by
  obtain ⟨i, z, hu, hi, hz, hsz, hby, hzs, hpos⟩ := appB_spec ht
  subst hsz; subst hby
  obtain ⟨v', w', hrun, h2, h3⟩ := run_append_ownF (P := P) B t o.type e i z hu hi hz hzs hpos n c A xs hown ad m c' news hl hnews
    (fun u hu => one_of (List.all_eq_true.1 h1 u hu)) (by unfold maxLen; omega) hbytes hbase
  obtain ⟨A', cap, rfl⟩ := ownF_shape h2
  refine lrun ha hg hok (v := .slice A' (n + m) cap) (w' := w') ?_ fun a' ha' => k A' cap w' h2 h3 a' ha'
  have hargs : (#[s, x] : Array Operand).map ρ.ev = #[.slice A n c, .slice (some ad) m c'] := by simp [hs, hx]
  simp only [execOp, ho, resolve, hargs, Sem.run_bind, Sem.run_pure, Result.andThen_ok, invoke, builtin, hrun]
/-- b is a builder that holds l; String() may have read it -/
def BdF (T : Nat) (w : World) (B b : Nat) (l : List UInt8) : Prop :=
  ∃ p A c, (p = none ∨ p = some (⟨b, 0, none⟩ : Addr)) ∧ B ≤ b ∧ w.heap[b]? = some (.cells #[.pointer p, .slice A l.length c] T (0, 0)) ∧ OwnF w B 5 1 A l.length c (bys l)
theorem bdF_of {T : Nat} {l : List UInt8} (h : Bd T w B b l) : BdF T w B b l := by
  obtain ⟨p, A, c, h1, h2, h3, h4⟩ := h
  exact ⟨p, A, c, h1, h2, h3, World.ownsRowF_of h4⟩
theorem bdFE {T : Nat} {l : List UInt8} (he : Ext w w') (h : BdF T w B b l) : BdF T w' B b l := by
  obtain ⟨p, A, c, h1, h2, h3, h4⟩ := h
  exact ⟨p, A, c, h1, h2, keepB he h3, ownFE he h4⟩
theorem bdFC {T T2 k : Nat} {l : List UInt8} {cs : Array Value} {fz : Nat × Nat} (hc : Chg w w' k o) (hB : w.heap[k]? = some (.cells cs T2 fz)) (h1 : Nat.beq T2 T = false) (h2 : Nat.beq T2 5 = false) (h : BdF T w B b l) : BdF T w' B b l := by
  obtain ⟨p, A, c, g1, g2, g3, g4⟩ := h
  refine ⟨p, A, c, g1, g2, hc.keep g3 ?_, ownFC hc hB h2 g4⟩
  rintro rfl
  rw [hB] at g3; cases g3
  exact beqN_ne h1 rfl
theorem bdF_ne {T k : Nat} {l : List UInt8} (h : BdF T w B b l) (hk : w.heap.size ≤ k) : k ≠ b := by
  obtain ⟨p, A, c, _, _, h3, _⟩ := h
  have := lt_of_at h3
  omega
theorem bdF_is {T : Nat} {l : List UInt8} (hT : Nat.beq T 5 = false) (h : BdF T w B b l) : Lib.IsBuilderF T 5 B b (Lib.byteCells l) w := by
  obtain ⟨p, A, c, hp, hBb, hB, ho⟩ := h
  have hat : Lib.BuilderAtF T 5 B b (.pointer p) (Lib.byteCells l) w := by
    refine ⟨hBb, .slice A l.length c, hB, ?_, ownF_ne ho hB hT⟩
    have : (Lib.byteCells l).length = l.length := by simp [Lib.byteCells]
    rw [this]; exact ho
  rcases hp with rfl | rfl
  · exact .inl hat
  · exact .inr hat
theorem is_bdF {T : Nat} {l : List UInt8} (h : Lib.IsBuilderF T 5 B b (Lib.byteCells l) w) : BdF T w B b l := by
  have key : ∀ p, (p = none ∨ p = some (⟨b, 0, none⟩ : Addr)) → Lib.BuilderAtF T 5 B b (.pointer p) (Lib.byteCells l) w → BdF T w B b l := by
    rintro p hp ⟨h1, v, h2, h3, _⟩
    have hl : (Lib.byteCells l).length = l.length := by simp [Lib.byteCells]
    rw [hl] at h3
    obtain ⟨A, c, rfl⟩ := ownF_shape h3
    exact ⟨p, A, c, hp, h1, h2, h3⟩
  rcases h with h | h
  · exact key _ (.inl rfl) h
  · exact key _ (.inr rfl) h
theorem Oth.grownF {B' d n' c' : Nat} {A' : Option Addr} {xs' : List Value} {w0 : World} (h : Oth B' d w0 w) (hg : w.grownBy w' (Value.slice A' n' c').ownBlock) (hv : OwnF w B' 5 1 A' n' c' xs') (hs : B' ≤ w.heap.size) : Oth B' d w0 w' := by
  refine ⟨Below.trans h.below ⟨hg.os, hg.tape, hg.output, hg.size, fun k hk => hg.block k (by omega) fun he => ?_⟩, fun k o hk hne ho => ?_⟩
  · have := (World.ownsRowF.lt hv k he.symm).1; omega
  · have h1 := h.others k o hk hne ho
    rw [hg.block k (lt_of_at h1) fun he => ?_]; exact h1
    rcases hv.2 with ⟨e1, _⟩ | ⟨g, cap, cur, fz, e1, _, hgg, _⟩
    · rw [e1] at he; simp [Value.ownBlock] at he
    · rw [e1] at he
      simp only [Value.ownBlock, Option.some.injEq] at he
      subst he
      rw [h1] at hgg
      cases hgg
      exact ho _ _ rfl
end
end Go.Kn
end
