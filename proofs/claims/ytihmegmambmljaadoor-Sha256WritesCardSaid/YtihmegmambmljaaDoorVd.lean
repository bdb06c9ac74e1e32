import Derived.Test.YtihmegmambmljaaDoorPlainN
import Derived.Test.YtihmegmambmljaaDoorVc
set_option linter.unusedSimpArgs false
set_option linter.unusedVariables false
set_option maxRecDepth 100000
namespace Go.Kn
open Go.Proofs
theorem sha256Parts_walk (s : List UInt8) (A0 : Option Addr) (c0 : Nat) (l : List UInt16) (w : World) (hr0 : Rd w 1 A0 l.length (l.flatMap encU16)) (hs : s.length ≤ 9223372036854775807) {T0 : Nat} {f0 : Nat × Nat} (hB_0 : w.heap[0]? = some (.cells ⟨wc shaK⟩ T0 f0)) :
    Fn Tryd.prog 4 #[.string (S s), .slice A0 l.length c0] w (fun x w' => x = .bool true ∧ Ext w w') := by
  have hG_0 := hB_0
  have hx : Ext w w := Ext.rfl' w
  refine enter (N := 56) (args := [.string (S s), .slice A0 l.length c0]) Tryd.func4 rfl rfl rfl ?_
  intro a ha
  simp only [argEnv, Nat.zero_add, Nat.reduceAdd] at ha
  refine wseq ?_
  refine regp (ρ' := [(0, .string (S s)), (1, .slice A0 l.length c0)]) (C := []) ha [] (by kernel_rfl) .nil ?_
  clear ha a; intro a ha
  refine tn ?_
  refine wseq ?_
  refine wseq ?_
  refine regp (ρ' := [(0, .string (S s)), (1, .slice A0 l.length c0), (16, .bool ((decide ((400 : Int) < ((s.length : Nat) : Int))) || (decide ((20 : Int) < ((l.length : Nat) : Int)))))]) (C := []) ha [] (by kernel_rfl) .nil ?_
  clear ha a; intro a ha
  refine tn ?_
  refine wif ha rfl (fun h16 => ?_) (fun h16 => ?_)
  · simp only [Bool.not_eq_true', Bool.not_eq_false', Bool.and_eq_true, Bool.or_eq_true, Bool.and_eq_false_iff, Bool.or_eq_false_iff, decide_eq_true_eq, decide_eq_false_iff_not, Bool.not_eq_true, Decidable.not_not] at h16
    refine wseq ?_
    refine reg hmix (ρ' := [(4, .bool true)]) (C := [CallOk Tryd.prog w 9 #[] (.bool true)]) ha [(0, .val (.bool true))] (by kernel_rfl) (.cons (fun w2 h2 => knows2_ok w2 (keepB h2 hB_0)) .nil) ?_
    clear ha a; intro a w1 ha he
    replace hx := hx.tr he
    replace hB_0 := keepB he hB_0
    clear he
    refine tn ?_
    refine wret ?_
    refine (tr ?_)
    refine fin ha (.tmp rfl .nil) ?_
    exact ⟨rfl, hx⟩
  · simp only [Bool.not_eq_true', Bool.not_eq_false', Bool.and_eq_true, Bool.or_eq_true, Bool.and_eq_false_iff, Bool.or_eq_false_iff, decide_eq_true_eq, decide_eq_false_iff_not, Bool.not_eq_true, Decidable.not_not] at h16
    refine wskip ?_
    refine tn ?_
    refine wseq ?_
    refine regp (ρ' := [(0, .string (S s)), (1, .slice A0 l.length c0), (5, .slice none 0 0)]) (C := []) ha [] (by kernel_rfl) .nil ?_
    clear ha a; intro a ha
    refine tn ?_
    refine wseq ?_
    refine regp (ρ' := [(0, .string (S s)), (1, .slice A0 l.length c0), (5, .slice none 0 0), (6, .string (S s))]) (C := []) ha [] (by kernel_rfl) .nil ?_
    clear ha a; intro a ha
    refine tn ?_
    refine wseq ?_
    refine wseq ?_
    refine regp (ρ' := [(0, .string (S s)), (1, .slice A0 l.length c0), (5, .slice none 0 0), (6, .string (S s)), (7, .int .i64 0)]) (C := []) ha [] (by kernel_rfl) .nil ?_
    clear ha a; intro a ha
    refine tn ?_
    refine wblk ?_
    refine wloop (fun zz a w2 => ∃ (i : Nat) (ls : List (List UInt8)) (t : List UInt8) (A : Option Addr) (c : Nat), zz = l.length - i ∧ On 56 [(0, .string (S s)), (1, .slice A0 l.length c0), (5, .slice A ls.length c), (6, .string (S t)), (7, .int .i64 ((i : Nat) : Int))] a ∧ Ext w w2 ∧ w2.heap[0]? = some (.cells ⟨wc shaK⟩ T0 f0) ∧ Own w2 w.heap.size 9 1 A ls.length c (ls.flatMap encS) ∧ (i ≤ l.length) ∧ (ls.flatten ++ t = s) ∧ (ls.length ≤ i)) _ ⟨0, [], s, none, 0, rfl, ha.sub (ρ' := [(0, .string (S s)), (1, .slice A0 l.length c0), (5, .slice none ([].length) 0), (6, .string (S s)), (7, .int .i64 ((0 : Nat) : Int))]) (by kernel_rfl), hx, hB_0, own_nil _ _ _ _, by omega, rfl, Nat.le_refl _⟩ ?_
    clear ha hx hB_0
    rintro zz a w3 ⟨i, ls, t, A, c, hzz, ha, hx, hB_0, hl, hi, hfl, hN⟩
    refine wseq ?_
    refine wseq ?_
    refine regp (ρ' := [(0, .string (S s)), (1, .slice A0 l.length c0), (5, .slice A ls.length c), (6, .string (S t)), (7, .int .i64 ((i : Nat) : Int)), (22, .bool (decide (((i : Nat) : Int) < ((l.length : Nat) : Int))))]) (C := []) ha [] (by kernel_rfl) .nil ?_
    clear ha a; intro a ha
    refine tn ?_
    refine wif ha rfl (fun h22 => ?_) (fun h22 => ?_)
    · replace h22 := of_decide_eq_true h22
      have h16 := u16_lt (l.getD i 0)
      have hts : t.length ≤ s.length := by rw [← hfl]; simp
      have hmod := Nat.mod_lt ((l.getD i 0).toNat) (show 0 < t.length + 1 by omega)
      refine wskip ?_
      refine tn ?_
      refine wseq ?_
      refine wblk ?_
      refine wseq ?_
      refine regp (ρ' := [(0, .string (S s)), (1, .slice A0 l.length c0), (5, .slice A ls.length c), (6, .string (S t)), (7, .int .i64 ((i : Nat) : Int)), (8, .int .i64 ((((l.getD i 0).toNat) % (t.length + 1) : Nat) : Int))]) (C := [RunOk Tryd.prog w3 (Instr.indexAt 28 (.slice A0 l.length c0) (.int .i64 ((i : Nat) : Int))) (.pointer (some ⟨ab A0, ao A0 + i * 1, none⟩)), RunOk Tryd.prog w3 (Instr.loadAt 30 (.pointer (some ⟨ab A0, ao A0 + i * 1, none⟩))) (.int .u16 (((l.getD i 0).toNat : Nat) : Int)), InR .i64 (((l.getD i 0).toNat : Nat) : Int), InR .i64 ((t.length + 1 : Nat) : Int), 0 ≤ (((l.getD i 0).toNat : Nat) : Int), 0 < ((t.length + 1 : Nat) : Int)]) ha [(2, .val (.pointer (some ⟨ab A0, ao A0 + i * 1, none⟩))), (3, .val (.int .u16 (((l.getD i 0).toNat : Nat) : Int)))] (by kernel_rfl) (.cons (ixRd (e := 30) (by kernel_rfl) (by kernel_rfl) (rdE hx hr0) (by omega)) (.cons (ldRd (j := i * 1) (by kernel_rfl) (rdE hx hr0) (by omega) (flat_get0 encU16_len l 0 i (by omega) rfl)) (.cons (by unfold InR; omega) (.cons (by unfold InR; omega) (.cons (by omega) (.cons (by omega) .nil)))))) ?_
      clear ha a; intro a ha
      refine tn ?_
      refine wseq ?_
      refine reg_list ?_
      refine segp (ρ' := [(0, .string (S s)), (1, .slice A0 l.length c0), (6, .string (S t)), (7, .int .i64 ((i : Nat) : Int)), (8, .int .i64 ((((l.getD i 0).toNat) % (t.length + 1) : Nat) : Int)), (34, .slice A ls.length c), (37, .string (S (t.take (((l.getD i 0).toNat) % (t.length + 1)))))]) (C := [0 ≤ ((((l.getD i 0).toNat) % (t.length + 1) : Nat) : Int) ∧ ((((l.getD i 0).toNat) % (t.length + 1) : Nat) : Int) ≤ (t.length : Int)]) ha 4 [] rfl (by kernel_rfl) (.cons ⟨by omega, by omega⟩ .nil) ?_
      clear ha a; intro a ha
      refine lnewS ha rfl (by kernel_rfl) #[.string (S (t.take (((l.getD i 0).toNat) % (t.length + 1))))] 9 1 (by kernel_rfl) ?_
      clear ha a; intro b4 w5 he hb_b4 hB_b4 a ha
      have hne_0_b4 : 0 ≠ b4 := ne_new hB_0 hb_b4
      have hno_hl_b4 : (Value.slice A ls.length c).ownBlock ≠ some b4 := own_ne hl hb_b4
      replace hB_0 := keepB he hB_0
      replace hl := ownE he hl
      replace hb_b4 := Nat.le_trans hx.size hb_b4
      replace hx := hx.tr he
      clear he
      refine lapp (by_ := 16) ha rfl (by kernel_rfl) rfl (by kernel_rfl) rfl hl rfl [.string (S (t.take (((l.getD i 0).toNat) % (t.length + 1))))] rfl (news_blk hB_b4) rfl (by omega) (by omega) hx.size ?_
      clear ha a; intro A6 c7 w8 hl2 hg a ha
      clear hB_b4 hb_b4
      replace hx := extG hx hg hl (Nat.le_refl _)
      replace hB_0 := keepB hx hG_0
      clear hg hl
      refine segp (ρ' := [(0, .string (S s)), (1, .slice A0 l.length c0), (5, .slice A6 (ls.length + 1) c7), (6, .string (S t)), (7, .int .i64 ((i : Nat) : Int)), (8, .int .i64 ((((l.getD i 0).toNat) % (t.length + 1) : Nat) : Int))]) (C := []) ha 1 [] rfl (by kernel_rfl) .nil ?_
      clear ha a; intro a ha
      refine lnil ?_
      replace ha := ha.sub (ρ' := [(0, .string (S s)), (1, .slice A0 l.length c0), (5, .slice A6 (ls.length + 1) c7), (6, .string (S t)), (7, .int .i64 ((i : Nat) : Int)), (8, .int .i64 ((((l.getD i 0).toNat) % (t.length + 1) : Nat) : Int))]) (by kernel_rfl)
      rw [show (((ls.flatMap encS) ++ [.string (S (t.take (((l.getD i 0).toNat) % (t.length + 1))))]) : List Value) = ((ls ++ [t.take ((l.getD i 0).toNat % (t.length + 1))]).flatMap encS) from by simp [encS]] at hl2
      rw [show ((ls.length + 1) : Nat) = (ls ++ [t.take ((l.getD i 0).toNat % (t.length + 1))]).length from by simp] at ha hl2
      refine tn ?_
      refine regp (ρ' := [(0, .string (S s)), (1, .slice A0 l.length c0), (5, .slice A6 ((ls ++ [t.take ((l.getD i 0).toNat % (t.length + 1))]).length) c7), (6, .string (S (t.drop (((l.getD i 0).toNat) % (t.length + 1))))), (7, .int .i64 ((i : Nat) : Int))]) (C := [0 ≤ ((((l.getD i 0).toNat) % (t.length + 1) : Nat) : Int) ∧ ((((l.getD i 0).toNat) % (t.length + 1) : Nat) : Int) ≤ (t.length : Int)]) ha [] (by kernel_rfl) (.cons ⟨by omega, by omega⟩ .nil) ?_
      clear ha a; intro a ha
      refine bn ?_
      refine tn ?_
      refine regp (ρ' := [(0, .string (S s)), (1, .slice A0 l.length c0), (5, .slice A6 ((ls ++ [t.take ((l.getD i 0).toNat % (t.length + 1))]).length) c7), (6, .string (S (t.drop (((l.getD i 0).toNat) % (t.length + 1))))), (7, .int .i64 ((i + 1 : Nat) : Int))]) (C := [InR .i64 ((i + 1 : Nat) : Int)]) ha [] (by kernel_rfl) (.cons (by unfold InR; omega) .nil) ?_
      clear ha a; intro a ha
      exact tn ⟨l.length - ((i + 1)), by omega, (i + 1), (ls ++ [t.take ((l.getD i 0).toNat % (t.length + 1))]), (t.drop ((l.getD i 0).toNat % (t.length + 1))), A6, c7, rfl, ha.sub (ρ' := [(0, .string (S s)), (1, .slice A0 l.length c0), (5, .slice A6 ((ls ++ [t.take ((l.getD i 0).toNat % (t.length + 1))]).length) c7), (6, .string (S (t.drop ((l.getD i 0).toNat % (t.length + 1))))), (7, .int .i64 (((i + 1) : Nat) : Int))]) (by kernel_rfl), hx, hB_0, hl2, by omega, by simpa using hfl, by simp; omega⟩
    · replace h22 := of_decide_eq_false h22
      refine wexit ?_
      refine (te (te (be ?_)))
      refine tn ?_
      refine wseq ?_
      refine reg_list ?_
      refine segp (ρ' := [(0, .string (S s)), (43, .slice A ls.length c), (44, .string (S t))]) (C := []) ha 2 [] rfl (by kernel_rfl) .nil ?_
      clear ha a; intro a ha
      refine lnewS ha rfl (by kernel_rfl) #[.string (S t)] 9 1 (by kernel_rfl) ?_
      clear ha a; intro b9 w10 he hb_b9 hB_b9 a ha
      have hne_0_b9 : 0 ≠ b9 := ne_new hB_0 hb_b9
      have hno_hl_b9 : (Value.slice A ls.length c).ownBlock ≠ some b9 := own_ne hl hb_b9
      replace hB_0 := keepB he hB_0
      replace hl := ownE he hl
      replace hb_b9 := Nat.le_trans hx.size hb_b9
      replace hx := hx.tr he
      clear he
      refine lapp (by_ := 16) ha rfl (by kernel_rfl) rfl (by kernel_rfl) rfl hl rfl [.string (S t)] rfl (news_blk hB_b9) rfl (by omega) (by omega) hx.size ?_
      clear ha a; intro A11 c12 w13 hl3 hg a ha
      clear hB_b9 hb_b9
      replace hx := extG hx hg hl (Nat.le_refl _)
      replace hB_0 := keepB hx hG_0
      clear hg hl
      refine segp (ρ' := [(0, .string (S s)), (5, .slice A11 (ls.length + 1) c12)]) (C := []) ha 1 [] rfl (by kernel_rfl) .nil ?_
      clear ha a; intro a ha
      refine lnil ?_
      replace ha := ha.sub (ρ' := [(0, .string (S s)), (5, .slice A11 (ls.length + 1) c12)]) (by kernel_rfl)
      rw [show (((ls.flatMap encS) ++ [.string (S t)]) : List Value) = ((ls ++ [t]).flatMap encS) from by simp [encS]] at hl3
      rw [show ((ls.length + 1) : Nat) = (ls ++ [t]).length from by simp] at ha hl3
      refine tn ?_
      refine wseq ?_
      have hlne : (ls ++ [t]) ≠ [] := by simp
      have hfe : (ls ++ [t]).flatten = s := by simpa using hfl
      have hln : (ls ++ [t]).length = ls.length + 1 := by simp
      have hfn : (ls ++ [t]).flatten.length = s.length := by rw [hfe]
      refine reg_list ?_
      refine seg (ρ' := [(0, .string (S s)), (5, .slice A11 ((ls ++ [t]).length) c12), (48, .bool true)]) (C := [CallOk Tryd.prog w13 9 #[] (.bool true)]) ha 2 [(0, .val (.bool true))] (by kernel_rfl) (.cons (fun w2 h2 => knows2_ok w2 (keepB h2 hB_0)) .nil) ?_
      clear ha a; intro a w14 ha he
      replace hx := hx.tr he
      replace hB_0 := keepB he hB_0
      replace hl3 := ownE he hl3
      clear he
      refine lunguard 1 48 true ha (by kernel_rfl) (by kernel_rfl) (by kernel_rfl) ?_
      refine seg (ρ' := [(48, .bool true), (50, .agg ⟨idc (shaSum (ls ++ [t]).flatten)⟩), (51, .string (S s))]) (C := [CallOk Tryd.prog w14 10 #[.slice A11 ((ls ++ [t]).length) c12] (.agg ⟨idc (shaSum (ls ++ [t]).flatten)⟩)]) ha 3 [(1, .val (.agg ⟨idc (shaSum (ls ++ [t]).flatten)⟩))] (by kernel_rfl) (.cons (fun w2 h2 => sumO_ok (ls ++ [t]) _ _ _ w2 (ownE h2 hl3) hlne (by omega) (by omega) (keepB h2 hB_0)) .nil) ?_
      clear ha a; intro a w15 ha he
      replace hx := hx.tr he
      replace hB_0 := keepB he hB_0
      replace hl3 := ownE he hl3
      clear he
      refine lnewS ha rfl (by kernel_rfl) #[.string (S s)] 9 1 (by kernel_rfl) ?_
      clear ha a; intro b16 w17 he hb_b16 hB_b16 a ha
      have hne_0_b16 : 0 ≠ b16 := ne_new hB_0 hb_b16
      have hno_hl3_b16 : (Value.slice A11 ((ls ++ [t]).length) c12).ownBlock ≠ some b16 := own_ne hl3 hb_b16
      replace hB_0 := keepB he hB_0
      replace hl3 := ownE he hl3
      replace hb_b16 := Nat.le_trans hx.size hb_b16
      replace hx := hx.tr he
      clear he
      refine seg (ρ' := [(4, .bool (decide ((shaSum (ls ++ [t]).flatten) = (shaSum s))))]) (C := [CallOk Tryd.prog w17 10 #[.slice (some ⟨b16, 0, none⟩) 1 1] (.agg ⟨idc (shaSum s)⟩), BinOk Tryd.prog .eql 24 (.agg ⟨idc (shaSum (ls ++ [t]).flatten)⟩) (.agg ⟨idc (shaSum s)⟩) (.bool (decide ((shaSum (ls ++ [t]).flatten) = (shaSum s))))]) ha 4 [(0, .val (.agg ⟨idc (shaSum s)⟩)), (1, .val (.bool (decide ((shaSum (ls ++ [t]).flatten) = (shaSum s))))), (2, .raw)] (by kernel_rfl) (.cons (fun w2 h2 => sum1_ok s _ w2 (by first | omega | (simp; done)) (keepB h2 hB_b16) (keepB h2 hB_0)) (.cons (eqIdE (x := (shaSum (ls ++ [t]).flatten)) (y := (shaSum s)) (by kernel_rfl)) .nil)) ?_
      clear ha a; intro a w18 ha he
      replace hx := hx.tr he
      replace hB_0 := keepB he hB_0
      replace hB_b16 := keepB he hB_b16
      replace hl3 := ownE he hl3
      clear he
      refine lnil ?_
      replace ha := ha.sub (ρ' := [(4, .bool (decide ((shaSum (ls ++ [t]).flatten) = (shaSum s))))]) (by kernel_rfl)
      refine tn ?_
      refine wret ?_
      refine fin ha (.tmp rfl .nil) ?_
      exact ⟨congrArg Value.bool (by rw [hfe]; simp), hx⟩
-- UNUSED LABEL frz
end Go.Kn
