import Derived.Test.YtihmegmambmljaaPlainF
import Derived.Test.YtihmegmambmljaaWe
set_option linter.unusedSimpArgs false
set_option linter.unusedVariables false
set_option maxRecDepth 100000
namespace Go.Kn
open Go.Proofs
theorem mkRes1 (v : Value) : mkRes [v] = v := rfl
theorem keyU32 : KeyOk (fun n : Nat => Value.int .u32 (n : Int)) (.int .u32) := ⟨fun x => by simp [Go.MapKept.IsKey], fun x y h => by injection h with _ h; omega⟩
theorem key_ok (l : List UInt8) (w : World) (hl : 4 ≤ l.length) :
    Fn Try.prog 27 #[.string (S l)] w (fun x w' => x = .int .u32 ((lkey l : Nat) : Int) ∧ Ext w w') := by
  have hx : Ext w w := Ext.rfl' w
  refine enter (N := 21) (args := [.string (S l)]) Try.func27 rfl rfl rfl ?_
  intro a ha
  simp only [argEnv, Nat.zero_add, Nat.reduceAdd] at ha
  refine wseq ?_
  refine regp (ρ' := [(0, .string (S l))]) (C := []) ha [] (by kernel_rfl) .nil ?_
  clear ha a; intro a ha
  refine tn ?_
  refine wseq ?_
  have g0 := getD_toNat_lt l 0
  have g1 := getD_toNat_lt l 1
  have g2 := getD_toNat_lt l 2
  have g3 := getD_toNat_lt l 3
  have o1 := or8 (l.getD 1 0).toNat g0
  have o2 := or16i (l.getD 2 0).toNat (show ((l.getD 0 0).toNat ||| (l.getD 1 0).toNat * 256) < 65536 by omega)
  have o3 := or24i (l.getD 3 0).toNat (show ((l.getD 0 0).toNat ||| (l.getD 1 0).toNat * 256 ||| ((((l.getD 2 0).toNat : Nat) : Int) * 2 ^ 16).toNat) < 16777216 by omega)
  have p2 := sh16 (l.getD 2 0).toNat g2
  have p3 := sh24 (l.getD 3 0).toNat g3
  refine reg hmix (ρ' := [(2, .int .u32 ((((((l.getD 0 0).toNat) ||| (((l.getD 1 0).toNat) * 256)) ||| (((((l.getD 2 0).toNat : Nat) : Int) * 2 ^ 16) : Int).toNat) ||| (((((l.getD 3 0).toNat : Nat) : Int) * 2 ^ 24) : Int).toNat : Nat) : Int))]) (C := [0 ≤ (0 : Int) ∧ 0 < (l.length : Int), InR .u32 (((l.getD 0 0).toNat : Nat) : Int), 0 ≤ (1 : Int) ∧ 1 < (l.length : Int), InR .u32 (((l.getD 1 0).toNat : Nat) : Int), 0 ≤ (8 : Int), InR .u32 ((((l.getD 1 0).toNat) * 256 : Nat) : Int), NN .u32 (((l.getD 0 0).toNat : Nat) : Int), NN .u32 ((((l.getD 1 0).toNat) * 256 : Nat) : Int), 0 ≤ (2 : Int) ∧ 2 < (l.length : Int), InR .u32 (((l.getD 2 0).toNat : Nat) : Int), 0 ≤ (16 : Int), InR .u32 ((((l.getD 2 0).toNat : Nat) : Int) * 2 ^ 16), NN .u32 ((((l.getD 0 0).toNat) ||| (((l.getD 1 0).toNat) * 256) : Nat) : Int), NN .u32 ((((l.getD 2 0).toNat : Nat) : Int) * 2 ^ 16), 0 ≤ (3 : Int) ∧ 3 < (l.length : Int), InR .u32 (((l.getD 3 0).toNat : Nat) : Int), 0 ≤ (24 : Int), InR .u32 ((((l.getD 3 0).toNat : Nat) : Int) * 2 ^ 24), NN .u32 (((((l.getD 0 0).toNat) ||| (((l.getD 1 0).toNat) * 256)) ||| (((((l.getD 2 0).toNat : Nat) : Int) * 2 ^ 16) : Int).toNat : Nat) : Int), NN .u32 ((((l.getD 3 0).toNat : Nat) : Int) * 2 ^ 24)]) ha [] (by kernel_rfl) (.cons ⟨by omega, by omega⟩ (.cons (by unfold InR; omega) (.cons ⟨by omega, by omega⟩ (.cons (by unfold InR; omega) (.cons (by omega) (.cons (by unfold InR; omega) (.cons (by unfold NN InR; omega) (.cons (by unfold NN InR; omega) (.cons ⟨by omega, by omega⟩ (.cons (by unfold InR; omega) (.cons (by omega) (.cons (by unfold InR; omega) (.cons (by unfold NN InR; omega) (.cons (by unfold NN InR; omega) (.cons ⟨by omega, by omega⟩ (.cons (by unfold InR; omega) (.cons (by omega) (.cons (by unfold InR; omega) (.cons (by unfold NN InR; omega) (.cons (by unfold NN InR; omega) .nil)))))))))))))))))))) ?_
  clear ha a; intro a w1 ha he
  replace hx := hx.tr he
  clear he
  refine tn ?_
  refine wret ?_
  refine fin ha (.tmp rfl .nil) ?_
  exact ⟨by rw [o3, o2, o1]; unfold lkey; exact mkRes1 _, hx⟩
theorem alike_ok (s : List UInt8) (p q : Nat) (w : World) (hab : p < q) (hb : q ≤ s.length) (hs : s.length ≤ 1000000) :
    Fn Try.prog 28 #[.string (S s), .int .i64 ((p : Nat) : Int), .int .i64 ((q : Nat) : Int)] w (fun x w' => x = .int .i64 ((lpre (s.drop p) (s.drop q) : Nat) : Int) ∧ Ext w w') := by
  have hx : Ext w w := Ext.rfl' w
  refine enter (N := 30) (args := [.string (S s), .int .i64 ((p : Nat) : Int), .int .i64 ((q : Nat) : Int)]) Try.func28 rfl rfl rfl ?_
  intro a ha
  simp only [argEnv, Nat.zero_add, Nat.reduceAdd] at ha
  refine wseq ?_
  refine regp (ρ' := [(0, .string (S s)), (1, .int .i64 ((p : Nat) : Int)), (2, .int .i64 ((q : Nat) : Int))]) (C := []) ha [] (by kernel_rfl) .nil ?_
  clear ha a; intro a ha
  refine tn ?_
  refine wseq ?_
  refine regp (ρ' := [(0, .string (S s)), (1, .int .i64 ((p : Nat) : Int)), (2, .int .i64 ((q : Nat) : Int)), (7, .int .i64 0)]) (C := []) ha [] (by kernel_rfl) .nil ?_
  clear ha a; intro a ha
  refine tn ?_
  refine wseq ?_
  refine wblk ?_
  refine wloop (fun zz a w1 => ∃ (n : Nat), zz = s.length - n ∧ On 30 [(0, .string (S s)), (1, .int .i64 ((p : Nat) : Int)), (2, .int .i64 ((q : Nat) : Int)), (7, .int .i64 ((n : Nat) : Int))] a ∧ Ext w w1 ∧ (q + n ≤ s.length) ∧ (lpre (s.drop p) (s.drop q) = n + lpre (s.drop (p + n)) (s.drop (q + n)))) _ ⟨0, rfl, ha.sub (ρ' := [(0, .string (S s)), (1, .int .i64 ((p : Nat) : Int)), (2, .int .i64 ((q : Nat) : Int)), (7, .int .i64 ((0 : Nat) : Int))]) (by kernel_rfl), hx, by omega, by simp⟩ ?_
  clear ha hx
  rintro zz a w2 ⟨n, hzz, ha, hx, hn, hp⟩
  refine wseq ?_
  refine wseq ?_
  refine reg hmix (ρ' := [(0, .string (S s)), (1, .int .i64 ((p : Nat) : Int)), (2, .int .i64 ((q : Nat) : Int)), (7, .int .i64 ((n : Nat) : Int)), (26, .bool ((decide (((q + n : Nat) : Int) < ((s.length : Nat) : Int))) && (decide ((((s.getD (p + n) 0).toNat : Nat) : Int) = (((s.getD (q + n) 0).toNat : Nat) : Int)))))]) (C := [InR .i64 ((q + n : Nat) : Int), (decide (((q + n : Nat) : Int) < ((s.length : Nat) : Int))) = true → All [InR .i64 ((p + n : Nat) : Int), 0 ≤ ((p + n : Nat) : Int) ∧ ((p + n : Nat) : Int) < (s.length : Int), InR .i64 ((q + n : Nat) : Int), 0 ≤ ((q + n : Nat) : Int) ∧ ((q + n : Nat) : Int) < (s.length : Int)]]) ha [] (by kernel_rfl) (.cons (by unfold InR; omega) (.cons (fun hg7 => by replace hg7 := of_decide_eq_true hg7; exact (.cons (by unfold InR; omega) (.cons ⟨by omega, by omega⟩ (.cons (by unfold InR; omega) (.cons ⟨by omega, by omega⟩ .nil))))) .nil)) ?_
  clear ha a; intro a w3 ha he
  replace hx := hx.tr he
  clear he
  refine tn ?_
  refine wif ha rfl (fun h26 => ?_) (fun h26 => ?_)
  · simp only [Bool.not_eq_true', Bool.not_eq_false', Bool.and_eq_true, Bool.or_eq_true, Bool.and_eq_false_iff, Bool.or_eq_false_iff, decide_eq_true_eq, decide_eq_false_iff_not, Bool.not_eq_true, Decidable.not_not] at h26
    refine wskip ?_
    refine tn ?_
    refine wblk ?_
    refine regp (ρ' := [(0, .string (S s)), (1, .int .i64 ((p : Nat) : Int)), (2, .int .i64 ((q : Nat) : Int)), (7, .int .i64 ((n + 1 : Nat) : Int))]) (C := [InR .i64 ((n + 1 : Nat) : Int)]) ha [] (by kernel_rfl) (.cons (by unfold InR; omega) .nil) ?_
    clear ha a; intro a ha
    refine bn ?_
    exact tn ⟨s.length - ((n + 1)), by omega, (n + 1), rfl, ha.sub (ρ' := [(0, .string (S s)), (1, .int .i64 ((p : Nat) : Int)), (2, .int .i64 ((q : Nat) : Int)), (7, .int .i64 (((n + 1) : Nat) : Int))]) (by kernel_rfl), hx, by omega, by rw [hp, lpre_go (by omega) (by omega) (u8_eq h26.2), Nat.add_assoc n, Nat.add_comm 1]; rfl⟩
  · simp only [Bool.not_eq_true', Bool.not_eq_false', Bool.and_eq_true, Bool.or_eq_true, Bool.and_eq_false_iff, Bool.or_eq_false_iff, decide_eq_true_eq, decide_eq_false_iff_not, Bool.not_eq_true, Decidable.not_not] at h26
    have hz : lpre (s.drop (p + n)) (s.drop (q + n)) = 0 := lpre_stop (h26.elim (fun h => .inl (by omega)) (fun h => .inr (u8_ne h)))
    refine wexit ?_
    refine (te (te (be ?_)))
    refine tn ?_
    refine wseq ?_
    refine regp (ρ' := [(6, .int .i64 ((n : Nat) : Int))]) (C := []) ha [] (by kernel_rfl) .nil ?_
    clear ha a; intro a ha
    refine tn ?_
    refine wret ?_
    refine fin ha (.tmp rfl .nil) ?_
    exact ⟨by rw [hp, hz]; rfl, hx⟩
theorem plain_ok (l : List UInt8) (w : World) (hl : l.length ≤ 1000000) :
    Fn Try.prog 29 #[.string (S l)] w (fun x w' => x = .string (S (lpl l)) ∧ Ext w w') := by
  have hx : Ext w w := Ext.rfl' w
  refine enter (N := 12) (args := [.string (S l)]) Try.func29 rfl rfl rfl ?_
  intro a ha
  simp only [argEnv, Nat.zero_add, Nat.reduceAdd] at ha
  refine wseq ?_
  refine regp (ρ' := [(0, .string (S l))]) (C := []) ha [] (by kernel_rfl) .nil ?_
  clear ha a; intro a ha
  refine tn ?_
  refine wseq ?_
  refine wseq ?_
  refine regp (ρ' := [(0, .string (S l)), (4, .bool (decide ((l : List UInt8) = ([] : List UInt8))))]) (C := []) ha [] (by kernel_rfl) .nil ?_
  clear ha a; intro a ha
  refine tn ?_
  refine wif ha rfl (fun h4 => ?_) (fun h4 => ?_)
  · replace h4 := of_decide_eq_true h4
    have hres : lpl l = [] := by unfold lpl; rw [if_pos h4]
    refine wseq ?_
    refine regp (ρ' := [(2, .string (S []))]) (C := []) ha [] (by kernel_rfl) .nil ?_
    clear ha a; intro a ha
    refine tn ?_
    refine wret ?_
    refine (tr ?_)
    refine fin ha (.tmp rfl .nil) ?_
    exact ⟨by rw [hres]; rfl, hx⟩
  · replace h4 := of_decide_eq_false h4
    have hres : lpl l = vput (2 * l.length) ++ l := by unfold lpl; rw [if_neg h4]
    have hv := vput_len (2 * l.length)
    refine wskip ?_
    refine tn ?_
    refine wseq ?_
    refine reg hmix (ρ' := [(2, .string (S ((vput (2 * l.length)) ++ l)))]) (C := [InR .i64 ((2 * l.length : Nat) : Int), InR .u64 ((2 * l.length : Nat) : Int), CallOk Try.prog w 30 #[.int .u64 ((2 * l.length : Nat) : Int)] (.string (S (vput (2 * l.length)))), ((vput (2 * l.length)) : List UInt8).length + (l : List UInt8).length ≤ 9223372036854775807]) ha [(4, .val (.string (S (vput (2 * l.length)))))] (by kernel_rfl) (.cons (by unfold InR; omega) (.cons (by unfold InR; omega) (.cons (fun w _ => put_ok _ w (by first | omega | (have := vget_lt; omega))) (.cons (by first | omega | (simp only [List.length_cons, List.length_nil, List.length_append, List.length_take, List.length_drop]; omega)) .nil)))) ?_
    clear ha a; intro a w1 ha he
    replace hx := hx.tr he
    clear he
    refine tn ?_
    refine wret ?_
    refine fin ha (.tmp rfl .nil) ?_
    exact ⟨by rw [hres]; rfl, hx⟩
theorem pack_ok (s : List UInt8) (w : World) (hs : s.length ≤ 100000) :
    Fn Try.prog 12 #[.string (S s)] w (fun x w' => x = .string (S (lzPack s)) ∧ Ext w w') := by
  have hx : Ext w w := Ext.rfl' w
  refine enter (N := 85) (args := [.string (S s)]) Try.func12 rfl rfl rfl ?_
  intro a ha
  simp only [argEnv, Nat.zero_add, Nat.reduceAdd] at ha
  refine wseq ?_
  refine regp (ρ' := [(0, .string (S s))]) (C := []) ha [] (by kernel_rfl) .nil ?_
  clear ha a; intro a ha
  refine tn ?_
  refine wseq ?_
  refine reg_list ?_
  refine lnewM (fun n : Nat => .int .u32 (n : Int)) (fun n : Nat => .int .i64 (n : Int)) ha rfl (by kernel_rfl) rfl ?_
  clear ha a; intro m w1 he hb_m hM_m a ha
  replace hb_m := Nat.le_trans hx.size hb_m
  replace hx := hx.tr he
  clear he
  refine segp (ρ' := [(0, .string (S s)), (3, .map (some m))]) (C := []) ha 1 [] rfl (by kernel_rfl) .nil ?_
  clear ha a; intro a ha
  refine lnil ?_
  replace ha := ha.sub (ρ' := [(0, .string (S s)), (3, .map (some m))]) (by kernel_rfl)
  refine tn ?_
  refine wseq ?_
  refine reg_list ?_
  refine lnewS ha rfl (by kernel_rfl) #[.int .u8 1] 5 1 (by kernel_rfl) ?_
  clear ha a; intro b2 w3 he hb_b2 hB_b2 a ha
  replace hM_m := mapE he hM_m
  replace hb_b2 := Nat.le_trans hx.size hb_b2
  replace hx := hx.tr he
  clear he
  refine segp (ρ' := [(0, .string (S s)), (3, .map (some m)), (4, .string (S [UInt8.ofNat 1]))]) (C := [RunOk Try.prog w3 (convert 36 9 (.slice (some ⟨b2, 0, none⟩) 1 1)) (.string (S [UInt8.ofNat 1]))]) ha 2 [(0, .val (.string (S [UInt8.ofNat 1])))] rfl (by kernel_rfl) (.cons (cvBlk (e := 5) (zs := [(1 : Int)]) (by kernel_rfl) (by kernel_rfl) (by kernel_rfl) hB_b2 rfl rfl) .nil) ?_
  clear ha a; intro a ha
  refine lnil ?_
  replace ha := ha.sub (ρ' := [(0, .string (S s)), (3, .map (some m)), (4, .string (S [UInt8.ofNat 1]))]) (by kernel_rfl)
  rw [show ([UInt8.ofNat 1] : List UInt8) = (1 :: ([] : List Tok).flatMap tenc) from rfl] at ha
  refine tn ?_
  refine wseq ?_
  refine regp (ρ' := [(0, .string (S s)), (3, .map (some m)), (4, .string (S (1 :: ([] : List Tok).flatMap tenc))), (5, .int .i64 0)]) (C := []) ha [] (by kernel_rfl) .nil ?_
  clear ha a; intro a ha
  refine tn ?_
  refine wseq ?_
  refine wseq ?_
  refine regp (ρ' := [(0, .string (S s)), (3, .map (some m)), (4, .string (S (1 :: ([] : List Tok).flatMap tenc))), (5, .int .i64 0), (6, .int .i64 0)]) (C := []) ha [] (by kernel_rfl) .nil ?_
  clear ha a; intro a ha
  refine tn ?_
  refine wblk ?_
  refine wloop (fun zz a w4 => ∃ (f i fr : Nat) (M : List (Nat × Nat)) (ts : List Tok), zz = f ∧ On 85 [(0, .string (S s)), (3, .map (some m)), (4, .string (S (1 :: ts.flatMap tenc))), (5, .int .i64 ((fr : Nat) : Int)), (6, .int .i64 ((i : Nat) : Int))] a ∧ Ext w w4 ∧ w4.heap[b2]? = some (.cells #[.int .u8 1] 5 (0, 0)) ∧ MapR (fun n : Nat => .int .u32 (n : Int)) (fun n : Nat => .int .i64 (n : Int)) w4 m M ∧ (s.length - i < f) ∧ (PkInv s M i fr ts) ∧ (lzSteps s = pkgo s f M i fr ts)) _ ⟨(s.length + 1), 0, 0, [], [], rfl, ha.sub (ρ' := [(0, .string (S s)), (3, .map (some m)), (4, .string (S (1 :: [].flatMap tenc))), (5, .int .i64 ((0 : Nat) : Int)), (6, .int .i64 ((0 : Nat) : Int))]) (by kernel_rfl), hx, hB_b2, hM_m, by omega, pk_init s, rfl⟩ ?_
  clear ha hx hB_b2 hM_m
  rintro zz a w5 ⟨f, i, fr, M, ts, hzz, ha, hx, hB_b2, hM_m, hf, inv, hgo⟩
  obtain ⟨f, rfl⟩ : ∃ f', f = f' + 1 := ⟨f - 1, by omega⟩
  have hfr := inv.fr_le
  have hile := inv.i_le
  have hlen := inv.len
  have hat := pk_at inv (lkey (s.drop i))
  refine wseq ?_
  refine wseq ?_
  refine regp (ρ' := [(0, .string (S s)), (3, .map (some m)), (4, .string (S (1 :: ts.flatMap tenc))), (5, .int .i64 ((fr : Nat) : Int)), (6, .int .i64 ((i : Nat) : Int)), (18, .bool (decide (((i + 4 : Nat) : Int) ≤ ((s.length : Nat) : Int))))]) (C := [InR .i64 ((i + 4 : Nat) : Int)]) ha [] (by kernel_rfl) (.cons (by unfold InR; omega) .nil) ?_
  clear ha a; intro a ha
  refine tn ?_
  refine wif ha rfl (fun h18 => ?_) (fun h18 => ?_)
  · replace h18 := of_decide_eq_true h18
    have h18n : i + 4 ≤ s.length := by omega
    refine wskip ?_
    refine tn ?_
    refine wblk ?_
    refine wseq ?_
    refine reg hmix (ρ' := [(0, .string (S s)), (3, .map (some m)), (4, .string (S (1 :: ts.flatMap tenc))), (5, .int .i64 ((fr : Nat) : Int)), (6, .int .i64 ((i : Nat) : Int)), (7, .int .u32 ((lkey (s.drop i) : Nat) : Int))]) (C := [0 ≤ ((i : Nat) : Int) ∧ ((i : Nat) : Int) ≤ (s.length : Int), CallOk Try.prog w5 27 #[.string (S (s.drop i))] (.int .u32 ((lkey (s.drop i) : Nat) : Int))]) ha [(3, .val (.int .u32 ((lkey (s.drop i) : Nat) : Int)))] (by kernel_rfl) (.cons ⟨by omega, by omega⟩ (.cons (fun w _ => key_ok _ w (by simp only [List.length_drop]; omega)) .nil)) ?_
    clear ha a; intro a w6 ha he
    replace hx := hx.tr he
    replace hB_b2 := keepB he hB_b2
    replace hM_m := mapE he hM_m
    clear he
    refine tn ?_
    refine wseq ?_
    refine regp (ρ' := [(0, .string (S s)), (3, .map (some m)), (4, .string (S (1 :: ts.flatMap tenc))), (5, .int .i64 ((fr : Nat) : Int)), (6, .int .i64 ((i : Nat) : Int)), (7, .int .u32 ((lkey (s.drop i) : Nat) : Int)), (8, .int .i64 ((((mget M (lkey (s.drop i))).getD 0) : Nat) : Int)), (9, .bool ((mget M (lkey (s.drop i))).isSome))]) (C := [RunOk Try.prog w6 (Instr.lookup 65 (.map (some m)) (.int .u32 ((lkey (s.drop i) : Nat) : Int)) true) (.tuple #[.int .i64 ((((mget M (lkey (s.drop i))).getD 0) : Nat) : Int), .bool ((mget M (lkey (s.drop i))).isSome)])]) ha [(2, .val (.tuple #[.int .i64 ((((mget M (lkey (s.drop i))).getD 0) : Nat) : Int), .bool ((mget M (lkey (s.drop i))).isSome)]))] (by kernel_rfl) (.cons (lkM (ek := fun n : Nat => .int .u32 (n : Int)) (ev := fun n : Nat => .int .i64 (n : Int)) (k := (lkey (s.drop i))) (z := 0) (show Try.prog.underlying 65 = some (.map 42 3) by kernel_rfl) (show Try.prog.underlying 42 = some (.int .u32) by kernel_rfl) keyU32 (show zeroB Try.prog 3 = some ((fun n : Nat => .int .i64 (n : Int)) 0) by kernel_rfl) hM_m) .nil) ?_
    clear ha a; intro a ha
    refine tn ?_
    refine wseq ?_
    refine reg_list ?_
    refine segp (ρ' := [(0, .string (S s)), (3, .map (some m)), (4, .string (S (1 :: ts.flatMap tenc))), (5, .int .i64 ((fr : Nat) : Int)), (6, .int .i64 ((i : Nat) : Int)), (8, .int .i64 ((((mget M (lkey (s.drop i))).getD 0) : Nat) : Int)), (9, .bool ((mget M (lkey (s.drop i))).isSome)), (29, .map (some m)), (30, .int .u32 ((lkey (s.drop i) : Nat) : Int)), (31, .int .i64 ((i : Nat) : Int))]) (C := []) ha 3 [] rfl (by kernel_rfl) .nil ?_
    clear ha a; intro a ha
    refine lmset (ek := fun n : Nat => .int .u32 (n : Int)) (ev := fun n : Nat => .int .i64 (n : Int)) (k := (lkey (s.drop i))) (v := i) ha rfl rfl (by kernel_rfl) rfl (show Try.prog.underlying 65 = some (.map 42 3) by kernel_rfl) (show Try.prog.underlying 42 = some (.int .u32) by kernel_rfl) keyU32 hM_m rfl rfl rfl ?_
    clear ha a; intro w7 ob8 hc hm' a ha
    replace hB_b2 := chgM_keep (o' := ob8) hM_m hc hB_b2
    replace hx := hc.ext hx hb_m
    clear hc; replace hM_m := hm'; clear hm'
    refine lnil ?_
    replace ha := ha.sub (ρ' := [(0, .string (S s)), (3, .map (some m)), (4, .string (S (1 :: ts.flatMap tenc))), (5, .int .i64 ((fr : Nat) : Int)), (6, .int .i64 ((i : Nat) : Int)), (8, .int .i64 ((((mget M (lkey (s.drop i))).getD 0) : Nat) : Int)), (9, .bool ((mget M (lkey (s.drop i))).isSome))]) (by kernel_rfl)
    refine tn ?_
    refine wseq ?_
    refine wseq ?_
    refine regp (ρ' := [(0, .string (S s)), (3, .map (some m)), (4, .string (S (1 :: ts.flatMap tenc))), (5, .int .i64 ((fr : Nat) : Int)), (6, .int .i64 ((i : Nat) : Int)), (8, .int .i64 ((((mget M (lkey (s.drop i))).getD 0) : Nat) : Int)), (39, .bool ((!((mget M (lkey (s.drop i))).isSome)) || (decide ((65535 : Int) < (((i : Nat) : Int) - ((((mget M (lkey (s.drop i))).getD 0) : Nat) : Int))))))]) (C := [(!((mget M (lkey (s.drop i))).isSome)) = false → All [InR .i64 (((i : Nat) : Int) - ((((mget M (lkey (s.drop i))).getD 0) : Nat) : Int))]]) ha [] (by kernel_rfl) (.cons (fun hg3 => by simp only [Bool.not_eq_true', Bool.not_eq_false', Bool.and_eq_true, Bool.or_eq_true, Bool.and_eq_false_iff, Bool.or_eq_false_iff, decide_eq_true_eq, decide_eq_false_iff_not, Bool.not_eq_true, Decidable.not_not] at hg3; exact (.cons (by unfold InR; omega) .nil)) .nil) ?_
    clear ha a; intro a ha
    refine tn ?_
    refine wif ha rfl (fun h39 => ?_) (fun h39 => ?_)
    · simp only [Bool.not_eq_true', Bool.not_eq_false', Bool.and_eq_true, Bool.or_eq_true, Bool.and_eq_false_iff, Bool.or_eq_false_iff, decide_eq_true_eq, decide_eq_false_iff_not, Bool.not_eq_true, Decidable.not_not] at h39
      refine wseq ?_
      refine regp (ρ' := [(0, .string (S s)), (3, .map (some m)), (4, .string (S (1 :: ts.flatMap tenc))), (5, .int .i64 ((fr : Nat) : Int)), (6, .int .i64 ((i + 1 : Nat) : Int))]) (C := [InR .i64 ((i + 1 : Nat) : Int)]) ha [] (by kernel_rfl) (.cons (by unfold InR; omega) .nil) ?_
      clear ha a; intro a ha
      refine tn ?_
      refine wexit ?_
      refine (te (be ?_))
      exact tn ⟨f, by omega, f, (i + 1), fr, (mset M (lkey (s.drop i)) i), ts, rfl, ha.sub (ρ' := [(0, .string (S s)), (3, .map (some m)), (4, .string (S (1 :: ts.flatMap tenc))), (5, .int .i64 ((fr : Nat) : Int)), (6, .int .i64 (((i + 1) : Nat) : Int))]) (by kernel_rfl), hx, hB_b2, hM_m, by omega, pk_step inv h18n, by rw [hgo]; exact pk_next h18n h39⟩
    · simp only [Bool.not_eq_true', Bool.not_eq_false', Bool.and_eq_true, Bool.or_eq_true, Bool.and_eq_false_iff, Bool.or_eq_false_iff, decide_eq_true_eq, decide_eq_false_iff_not, Bool.not_eq_true, Decidable.not_not] at h39
      obtain ⟨p, hp⟩ := Option.isSome_iff_exists.1 h39.1
      rw [show (((((mget M (lkey (s.drop i))).getD 0) : Nat) : Int) : Int) = ((p : Nat) : Int) from by rw [hp]; rfl] at ha h39
      obtain ⟨hp1, hp2, hp3⟩ := pk_pre inv h18n hp
      refine wskip ?_
      refine tn ?_
      refine wseq ?_
      refine reg hmix (ρ' := [(0, .string (S s)), (3, .map (some m)), (4, .string (S (1 :: ts.flatMap tenc))), (5, .int .i64 ((fr : Nat) : Int)), (6, .int .i64 ((i : Nat) : Int)), (8, .int .i64 ((p : Nat) : Int)), (10, .int .i64 ((lpre (s.drop p) (s.drop i) : Nat) : Int))]) (C := [CallOk Try.prog w7 28 #[.string (S s), .int .i64 ((p : Nat) : Int), .int .i64 ((i : Nat) : Int)] (.int .i64 ((lpre (s.drop p) (s.drop i) : Nat) : Int))]) ha [(3, .val (.int .i64 ((lpre (s.drop p) (s.drop i) : Nat) : Int)))] (by kernel_rfl) (.cons (fun w _ => alike_ok _ _ _ w (by omega) (by omega) (by omega)) .nil) ?_
      clear ha a; intro a w9 ha he
      replace hx := hx.tr he
      replace hB_b2 := keepB he hB_b2
      replace hM_m := mapE he hM_m
      clear he
      refine tn ?_
      refine wseq ?_
      have hq := lpl_len ((s.drop fr).take (i - fr))
      simp only [List.length_take, List.length_drop] at hq
      have hv1 := vput_len (2 * lpre (s.drop p) (s.drop i) + 1)
      have hv2 := vput_len ((i : Int) - (p : Int)).toNat
      refine reg hmix (ρ' := [(0, .string (S s)), (3, .map (some m)), (4, .string (S ((1 :: ts.flatMap tenc) ++ (((lpl ((s.drop fr).take (i - fr))) ++ (vput ((2 * (lpre (s.drop p) (s.drop i))) + 1))) ++ (vput (((((i : Nat) : Int) - ((p : Nat) : Int)) : Int).toNat)))))), (6, .int .i64 ((i : Nat) : Int)), (10, .int .i64 ((lpre (s.drop p) (s.drop i) : Nat) : Int))]) (C := [0 ≤ ((fr : Nat) : Int) ∧ ((fr : Nat) : Int) ≤ ((i : Nat) : Int) ∧ ((i : Nat) : Int) ≤ (s.length : Int), CallOk Try.prog w9 29 #[.string (S ((s.drop fr).take (i - fr)))] (.string (S (lpl ((s.drop fr).take (i - fr))))), InR .i64 ((2 * (lpre (s.drop p) (s.drop i)) : Nat) : Int), InR .i64 (((2 * (lpre (s.drop p) (s.drop i))) + 1 : Nat) : Int), InR .u64 (((2 * (lpre (s.drop p) (s.drop i))) + 1 : Nat) : Int), CallOk Try.prog w9 30 #[.int .u64 (((2 * (lpre (s.drop p) (s.drop i))) + 1 : Nat) : Int)] (.string (S (vput ((2 * (lpre (s.drop p) (s.drop i))) + 1)))), (lpl ((s.drop fr).take (i - fr)) : List UInt8).length + ((vput ((2 * (lpre (s.drop p) (s.drop i))) + 1)) : List UInt8).length ≤ 9223372036854775807, InR .i64 (((i : Nat) : Int) - ((p : Nat) : Int)), InR .u64 (((i : Nat) : Int) - ((p : Nat) : Int)), CallOk Try.prog w9 30 #[.int .u64 (((i : Nat) : Int) - ((p : Nat) : Int))] (.string (S (vput (((((i : Nat) : Int) - ((p : Nat) : Int)) : Int).toNat)))), (((lpl ((s.drop fr).take (i - fr))) ++ (vput ((2 * (lpre (s.drop p) (s.drop i))) + 1))) : List UInt8).length + ((vput (((((i : Nat) : Int) - ((p : Nat) : Int)) : Int).toNat)) : List UInt8).length ≤ 9223372036854775807, ((1 :: ts.flatMap tenc) : List UInt8).length + ((((lpl ((s.drop fr).take (i - fr))) ++ (vput ((2 * (lpre (s.drop p) (s.drop i))) + 1))) ++ (vput (((((i : Nat) : Int) - ((p : Nat) : Int)) : Int).toNat))) : List UInt8).length ≤ 9223372036854775807]) ha [(5, .val (.string (S (lpl ((s.drop fr).take (i - fr)))))), (10, .val (.string (S (vput ((2 * (lpre (s.drop p) (s.drop i))) + 1))))), (16, .val (.string (S (vput (((((i : Nat) : Int) - ((p : Nat) : Int)) : Int).toNat)))))] (by kernel_rfl) (.cons ⟨by omega, by omega, by omega⟩ (.cons (fun w _ => plain_ok _ w (by simp only [List.length_take, List.length_drop]; omega)) (.cons (by unfold InR; omega) (.cons (by unfold InR; omega) (.cons (by unfold InR; omega) (.cons (fun w _ => put_ok _ w (by first | omega | (have := vget_lt; omega))) (.cons (by first | omega | (simp only [List.length_cons, List.length_nil, List.length_append, List.length_take, List.length_drop]; omega)) (.cons (by unfold InR; omega) (.cons (by unfold InR; omega) (.cons (fun w _ => put_okI _ w (by omega) (by omega)) (.cons (by first | omega | (simp only [List.length_cons, List.length_nil, List.length_append, List.length_take, List.length_drop]; omega)) (.cons (by first | omega | (simp only [List.length_cons, List.length_nil, List.length_append, List.length_take, List.length_drop]; omega)) .nil)))))))))))) ?_
      clear ha a; intro a w10 ha he
      replace hx := hx.tr he
      replace hB_b2 := keepB he hB_b2
      replace hM_m := mapE he hM_m
      clear he
      rw [show (((1 :: ts.flatMap tenc) ++ (((lpl ((s.drop fr).take (i - fr))) ++ (vput ((2 * (lpre (s.drop p) (s.drop i))) + 1))) ++ (vput (((((i : Nat) : Int) - ((p : Nat) : Int)) : Int).toNat)))) : List UInt8) = (1 :: (ts ++ ltok ((s.drop fr).take (i - fr)) ++ [Tok.cp (lpre (s.drop p) (s.drop i)) (i - p)]).flatMap tenc) from pk_out ts _ _ i p] at ha
      refine tn ?_
      refine wseq ?_
      refine regp (ρ' := [(0, .string (S s)), (3, .map (some m)), (4, .string (S (1 :: (ts ++ ltok ((s.drop fr).take (i - fr)) ++ [Tok.cp (lpre (s.drop p) (s.drop i)) (i - p)]).flatMap tenc))), (6, .int .i64 ((i + (lpre (s.drop p) (s.drop i)) : Nat) : Int))]) (C := [InR .i64 ((i + (lpre (s.drop p) (s.drop i)) : Nat) : Int)]) ha [] (by kernel_rfl) (.cons (by unfold InR; omega) .nil) ?_
      clear ha a; intro a ha
      refine tn ?_
      refine regp (ρ' := [(0, .string (S s)), (3, .map (some m)), (4, .string (S (1 :: (ts ++ ltok ((s.drop fr).take (i - fr)) ++ [Tok.cp (lpre (s.drop p) (s.drop i)) (i - p)]).flatMap tenc))), (5, .int .i64 ((i + (lpre (s.drop p) (s.drop i)) : Nat) : Int)), (6, .int .i64 ((i + (lpre (s.drop p) (s.drop i)) : Nat) : Int))]) (C := []) ha [] (by kernel_rfl) .nil ?_
      clear ha a; intro a ha
      refine bn ?_
      exact tn ⟨f, by omega, f, (i + lpre (s.drop p) (s.drop i)), (i + lpre (s.drop p) (s.drop i)), (mset M (lkey (s.drop i)) i), (ts ++ ltok ((s.drop fr).take (i - fr)) ++ [Tok.cp (lpre (s.drop p) (s.drop i)) (i - p)]), rfl, ha.sub (ρ' := [(0, .string (S s)), (3, .map (some m)), (4, .string (S (1 :: (ts ++ ltok ((s.drop fr).take (i - fr)) ++ [Tok.cp (lpre (s.drop p) (s.drop i)) (i - p)]).flatMap tenc))), (5, .int .i64 (((i + lpre (s.drop p) (s.drop i)) : Nat) : Int)), (6, .int .i64 (((i + lpre (s.drop p) (s.drop i)) : Nat) : Int))]) (by kernel_rfl), hx, hB_b2, hM_m, by omega, pk_copy inv (by omega) h18n hp (by omega), by rw [hgo]; exact pkgo_hit h18n hp (by omega)⟩
  · replace h18 := of_decide_eq_false h18
    have hend : lzSteps s = ts ++ ltok (s.drop fr) := by rw [hgo]; exact pkgo_end (by omega)
    have hq := lpl_len (s.drop fr)
    simp only [List.length_drop] at hq
    refine wexit ?_
    refine (te (te (be ?_)))
    refine tn ?_
    refine wseq ?_
    refine reg hmix (ρ' := [(0, .string (S s)), (4, .string (S ((1 :: ts.flatMap tenc) ++ (lpl (s.drop fr)))))]) (C := [0 ≤ ((fr : Nat) : Int) ∧ ((fr : Nat) : Int) ≤ (s.length : Int), CallOk Try.prog w5 29 #[.string (S (s.drop fr))] (.string (S (lpl (s.drop fr)))), ((1 :: ts.flatMap tenc) : List UInt8).length + (lpl (s.drop fr) : List UInt8).length ≤ 9223372036854775807]) ha [(4, .val (.string (S (lpl (s.drop fr)))))] (by kernel_rfl) (.cons ⟨by omega, by omega⟩ (.cons (fun w _ => plain_ok _ w (by simp only [List.length_take, List.length_drop]; omega)) (.cons (by first | omega | (simp only [List.length_cons, List.length_nil, List.length_append, List.length_take, List.length_drop]; omega)) .nil))) ?_
    clear ha a; intro a w11 ha he
    replace hx := hx.tr he
    replace hB_b2 := keepB he hB_b2
    replace hM_m := mapE he hM_m
    clear he
    rw [show (((1 :: ts.flatMap tenc) ++ (lpl (s.drop fr))) : List UInt8) = (lzBody s) from by rw [lzBody, hend]; exact pk_outE ts _] at ha
    have hbl : (lzBody s).length ≤ 1 + fr * 31 + s.length + 10 := by rw [lzBody, hend, ← pk_outE, List.length_append, List.length_cons]; omega
    refine tn ?_
    refine wseq ?_
    refine wseq ?_
    refine regp (ρ' := [(0, .string (S s)), (4, .string (S (lzBody s))), (79, .bool (decide (((s.length : Nat) : Int) < (((lzBody s).length : Nat) : Int))))]) (C := []) ha [] (by kernel_rfl) .nil ?_
    clear ha a; intro a ha
    refine tn ?_
    refine wif ha rfl (fun h79 => ?_) (fun h79 => ?_)
    · replace h79 := of_decide_eq_true h79
      have hres : lzPack s = 0 :: s := by unfold lzPack; rw [if_pos (by omega)]
      refine wseq ?_
      refine reg_list ?_
      refine lnewS ha rfl (by kernel_rfl) #[.int .u8 0] 5 1 (by kernel_rfl) ?_
      clear ha a; intro b12 w13 he hb_b12 hB_b12 a ha
      have hne_b2_b12 : b2 ≠ b12 := ne_new hB_b2 hb_b12
      replace hB_b2 := keepB he hB_b2
      replace hM_m := mapE he hM_m
      replace hb_b12 := Nat.le_trans hx.size hb_b12
      replace hx := hx.tr he
      clear he
      refine segp (ρ' := [(2, .string (S ([UInt8.ofNat 0] ++ s)))]) (C := [RunOk Try.prog w13 (convert 36 9 (.slice (some ⟨b12, 0, none⟩) 1 1)) (.string (S [UInt8.ofNat 0])), ([UInt8.ofNat 0] : List UInt8).length + (s : List UInt8).length ≤ 9223372036854775807]) ha 4 [(0, .val (.string (S [UInt8.ofNat 0])))] rfl (by kernel_rfl) (.cons (cvBlk (e := 5) (zs := [(0 : Int)]) (by kernel_rfl) (by kernel_rfl) (by kernel_rfl) hB_b12 rfl rfl) (.cons (by first | omega | (simp only [List.length_cons, List.length_nil, List.length_append, List.length_take, List.length_drop]; omega)) .nil)) ?_
      clear ha a; intro a ha
      refine lnil ?_
      replace ha := ha.sub (ρ' := [(2, .string (S ([UInt8.ofNat 0] ++ s)))]) (by kernel_rfl)
      refine tn ?_
      refine wret ?_
      refine (tr ?_)
      refine fin ha (.tmp rfl .nil) ?_
      exact ⟨by rw [hres]; rfl, hx⟩
    · replace h79 := of_decide_eq_false h79
      have hres : lzPack s = lzBody s := by unfold lzPack; rw [if_neg (by omega)]
      refine wskip ?_
      refine tn ?_
      refine wseq ?_
      refine regp (ρ' := [(2, .string (S (lzBody s)))]) (C := []) ha [] (by kernel_rfl) .nil ?_
      clear ha a; intro a ha
      refine tn ?_
      refine wret ?_
      refine fin ha (.tmp rfl .nil) ?_
      exact ⟨by rw [hres]; rfl, hx⟩
end Go.Kn
