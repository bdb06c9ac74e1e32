import Derived.Test.YtihmegmambmljaaWf
set_option linter.unusedSimpArgs false
set_option linter.unusedVariables false
set_option maxRecDepth 100000
namespace Go.Kn
open Go.Proofs
theorem lzBack_walk (s : List UInt8) (b n : Nat) (w : World) (hb : b < 256) (hn : n < 65536) :
    Fn Try.prog 5 #[.string (S s), .int .u8 ((b : Nat) : Int), .int .u16 ((n : Nat) : Int)] w (fun x w' => x = .bool true ∧ Ext w w') := by
  have hx : Ext w w := Ext.rfl' w
  refine enter (N := 126) (args := [.string (S s), .int .u8 ((b : Nat) : Int), .int .u16 ((n : Nat) : Int)]) Try.func5 rfl rfl rfl ?_
  intro a ha
  simp only [argEnv, Nat.zero_add, Nat.reduceAdd] at ha
  refine wseq ?_
  refine regp (ρ' := [(0, .string (S s)), (1, .int .u8 ((b : Nat) : Int)), (2, .int .u16 ((n : Nat) : Int))]) (C := []) ha [] (by kernel_rfl) .nil ?_
  clear ha a; intro a ha
  refine tn ?_
  refine wseq ?_
  refine wseq ?_
  refine regp (ρ' := [(0, .string (S s)), (1, .int .u8 ((b : Nat) : Int)), (2, .int .u16 ((n : Nat) : Int)), (21, .bool (decide ((1500 : Int) < ((s.length : Nat) : Int))))]) (C := []) ha [] (by kernel_rfl) .nil ?_
  clear ha a; intro a ha
  refine tn ?_
  refine wif ha rfl (fun h21 => ?_) (fun h21 => ?_)
  · replace h21 := of_decide_eq_true h21
    refine wseq ?_
    refine reg hmix (ρ' := [(6, .bool true)]) (C := [CallOk Try.prog w 8 #[] (.bool true)]) ha [(0, .val (.bool true))] (by kernel_rfl) (.cons (fun w _ => knows5_ok w) .nil) ?_
    clear ha a; intro a w1 ha he
    replace hx := hx.tr he
    clear he
    refine tn ?_
    refine wret ?_
    refine (tr ?_)
    refine fin ha (.tmp rfl .nil) ?_
    exact ⟨congrArg Value.bool (by rfl), hx⟩
  · replace h21 := of_decide_eq_false h21
    refine wskip ?_
    refine tn ?_
    refine wseq ?_
    refine reg hmix (ρ' := [(0, .string (S s)), (1, .int .u8 ((b : Nat) : Int)), (2, .int .u16 ((n : Nat) : Int)), (7, .string (S (lzPack s)))]) (C := [CallOk Try.prog w 12 #[.string (S s)] (.string (S (lzPack s)))]) ha [(1, .val (.string (S (lzPack s))))] (by kernel_rfl) (.cons (fun w _ => pack_ok _ w (by omega)) .nil) ?_
    clear ha a; intro a w2 ha he
    replace hx := hx.tr he
    clear he
    have hU := lzPack_back s (by omega)
    have hV := lzPack_less s (by omega)
    have hpl := lzPack_len s
    refine tn ?_
    refine wseq ?_
    refine reg hmix (ρ' := [(0, .string (S s)), (1, .int .u8 ((b : Nat) : Int)), (2, .int .u16 ((n : Nat) : Int)), (7, .string (S (lzPack s))), (8, .string (S ((lzUnpack (lzPack s) ((s.length : Nat) : Int)).1))), (9, .int .i64 (((lzUnpack (lzPack s) ((s.length : Nat) : Int)).2 : Nat) : Int))]) (C := [CallOk Try.prog w2 9 #[.string (S (lzPack s)), .int .i64 ((s.length : Nat) : Int)] (.tuple #[.string (S ((lzUnpack (lzPack s) ((s.length : Nat) : Int)).1)), .int .i64 (((lzUnpack (lzPack s) ((s.length : Nat) : Int)).2 : Nat) : Int)])]) ha [(3, .val (.tuple #[.string (S ((lzUnpack (lzPack s) ((s.length : Nat) : Int)).1)), .int .i64 (((lzUnpack (lzPack s) ((s.length : Nat) : Int)).2 : Nat) : Int)]))] (by kernel_rfl) (.cons (fun w _ => unpack_ok _ _ w (by first | omega | decide) (by omega)) .nil) ?_
    clear ha a; intro a w3 ha he
    replace hx := hx.tr he
    clear he
    rw [show ((lzUnpack (lzPack s) ((s.length : Nat) : Int)).1 : List UInt8) = s from by rw [hU]] at ha
    rw [show ((((lzUnpack (lzPack s) ((s.length : Nat) : Int)).2 : Nat) : Int) : Int) = 0 from by rw [hU]; rfl] at ha
    refine tn ?_
    refine wseq ?_
    refine reg hmix (ρ' := [(0, .string (S s)), (1, .int .u8 ((b : Nat) : Int)), (2, .int .u16 ((n : Nat) : Int)), (7, .string (S (lzPack s))), (8, .string (S s)), (9, .int .i64 0), (10, .string (S ((lzUnpack (lzPack s) ((s.length : Nat) : Int)).1))), (11, .int .i64 (((lzUnpack (lzPack s) ((s.length : Nat) : Int)).2 : Nat) : Int))]) (C := [CallOk Try.prog w3 10 #[.string (S (lzPack s)), .int .i64 ((s.length : Nat) : Int)] (.tuple #[.string (S ((lzUnpack (lzPack s) ((s.length : Nat) : Int)).1)), .int .i64 (((lzUnpack (lzPack s) ((s.length : Nat) : Int)).2 : Nat) : Int)])]) ha [(3, .val (.tuple #[.string (S ((lzUnpack (lzPack s) ((s.length : Nat) : Int)).1)), .int .i64 (((lzUnpack (lzPack s) ((s.length : Nat) : Int)).2 : Nat) : Int)]))] (by kernel_rfl) (.cons (fun w _ => runpack_ok _ _ w (by first | omega | decide) (by omega)) .nil) ?_
    clear ha a; intro a w4 ha he
    replace hx := hx.tr he
    clear he
    rw [show ((lzUnpack (lzPack s) ((s.length : Nat) : Int)).1 : List UInt8) = s from by rw [hU]] at ha
    rw [show ((((lzUnpack (lzPack s) ((s.length : Nat) : Int)).2 : Nat) : Int) : Int) = 0 from by rw [hU]; rfl] at ha
    refine tn ?_
    refine wseq ?_
    refine wseq ?_
    refine regp (ρ' := [(0, .string (S s)), (1, .int .u8 ((b : Nat) : Int)), (2, .int .u16 ((n : Nat) : Int)), (7, .string (S (lzPack s))), (62, .bool (((((!decide ((s : List UInt8) = (s : List UInt8))) || (!decide ((0 : Int) = 0))) || (!decide ((s : List UInt8) = (s : List UInt8)))) || (!decide ((0 : Int) = 0))) || (decide (((s.length + 1 : Nat) : Int) < (((lzPack s).length : Nat) : Int)))))]) (C := [((((!decide ((s : List UInt8) = (s : List UInt8))) || (!decide ((0 : Int) = 0))) || (!decide ((s : List UInt8) = (s : List UInt8)))) || (!decide ((0 : Int) = 0))) = false → All [InR .i64 ((s.length + 1 : Nat) : Int)]]) ha [] (by kernel_rfl) (.cons (fun hg17 => by simp only [Bool.not_eq_true', Bool.not_eq_false', Bool.and_eq_true, Bool.or_eq_true, Bool.and_eq_false_iff, Bool.or_eq_false_iff, decide_eq_true_eq, decide_eq_false_iff_not, Bool.not_eq_true, Decidable.not_not] at hg17; exact (.cons (by unfold InR; omega) .nil)) .nil) ?_
    clear ha a; intro a ha
    refine tn ?_
    refine wif ha rfl (fun h62 => ?_) (fun h62 => ?_)
    · simp only [Bool.not_eq_true', Bool.not_eq_false', Bool.and_eq_true, Bool.or_eq_true, Bool.and_eq_false_iff, Bool.or_eq_false_iff, decide_eq_true_eq, decide_eq_false_iff_not, Bool.not_eq_true, Decidable.not_not] at h62
      exfalso; simp at h62; omega
    · simp only [Bool.not_eq_true', Bool.not_eq_false', Bool.and_eq_true, Bool.or_eq_true, Bool.and_eq_false_iff, Bool.or_eq_false_iff, decide_eq_true_eq, decide_eq_false_iff_not, Bool.not_eq_true, Decidable.not_not] at h62
      refine wskip ?_
      refine tn ?_
      refine wseq ?_
      refine reg hmix (ρ' := [(0, .string (S s)), (1, .int .u8 ((b : Nat) : Int)), (2, .int .u16 ((n : Nat) : Int)), (12, .string (S ((lzUnpack (lzPack s) (((s.length : Nat) : Int) - 1)).1))), (13, .int .i64 (((lzUnpack (lzPack s) (((s.length : Nat) : Int) - 1)).2 : Nat) : Int))]) (C := [InR .i64 (((s.length : Nat) : Int) - 1), CallOk Try.prog w4 9 #[.string (S (lzPack s)), .int .i64 (((s.length : Nat) : Int) - 1)] (.tuple #[.string (S ((lzUnpack (lzPack s) (((s.length : Nat) : Int) - 1)).1)), .int .i64 (((lzUnpack (lzPack s) (((s.length : Nat) : Int) - 1)).2 : Nat) : Int)])]) ha [(4, .val (.tuple #[.string (S ((lzUnpack (lzPack s) (((s.length : Nat) : Int) - 1)).1)), .int .i64 (((lzUnpack (lzPack s) (((s.length : Nat) : Int) - 1)).2 : Nat) : Int)]))] (by kernel_rfl) (.cons (by unfold InR; omega) (.cons (fun w _ => unpack_ok _ _ w (by first | omega | decide) (by omega)) .nil)) ?_
      clear ha a; intro a w5 ha he
      replace hx := hx.tr he
      clear he
      rw [show ((lzUnpack (lzPack s) (((s.length : Nat) : Int) - 1)).1 : List UInt8) = ([] : List UInt8) from by rw [hV]] at ha
      rw [show ((((lzUnpack (lzPack s) (((s.length : Nat) : Int) - 1)).2 : Nat) : Int) : Int) = ((if s = [] then 1 else 3 : Nat) : Int) from by rw [hV]] at ha
      refine tn ?_
      refine wseq ?_
      refine wseq ?_
      refine regp (ρ' := [(1, .int .u8 ((b : Nat) : Int)), (2, .int .u16 ((n : Nat) : Int)), (88, .bool (((!decide ((([] : List UInt8) : List UInt8) = ([] : List UInt8))) || ((!decide ((s : List UInt8) = ([] : List UInt8))) && (!decide (((if s = [] then 1 else 3 : Nat) : Int) = 3)))) || ((decide ((s : List UInt8) = ([] : List UInt8))) && (!decide (((if s = [] then 1 else 3 : Nat) : Int) = 1)))))]) (C := []) ha [] (by kernel_rfl) .nil ?_
      clear ha a; intro a ha
      refine tn ?_
      refine wif ha rfl (fun h88 => ?_) (fun h88 => ?_)
      · simp only [Bool.not_eq_true', Bool.not_eq_false', Bool.and_eq_true, Bool.or_eq_true, Bool.and_eq_false_iff, Bool.or_eq_false_iff, decide_eq_true_eq, decide_eq_false_iff_not, Bool.not_eq_true, Decidable.not_not] at h88
        exfalso; by_cases hs0 : s = [] <;> simp [hs0] at h88
      · simp only [Bool.not_eq_true', Bool.not_eq_false', Bool.and_eq_true, Bool.or_eq_true, Bool.and_eq_false_iff, Bool.or_eq_false_iff, decide_eq_true_eq, decide_eq_false_iff_not, Bool.not_eq_true, Decidable.not_not] at h88
        refine wskip ?_
        refine tn ?_
        refine wseq ?_
        refine regp (ρ' := [(1, .int .u8 ((b : Nat) : Int)), (2, .int .u16 ((n : Nat) : Int)), (14, .slice none 0 0)]) (C := []) ha [] (by kernel_rfl) .nil ?_
        clear ha a; intro a ha
        refine tn ?_
        refine wseq ?_
        refine wseq ?_
        refine regp (ρ' := [(1, .int .u8 ((b : Nat) : Int)), (2, .int .u16 ((n : Nat) : Int)), (14, .slice none 0 0), (15, .int .i64 0)]) (C := []) ha [] (by kernel_rfl) .nil ?_
        clear ha a; intro a ha
        refine tn ?_
        refine wblk ?_
        refine wloop (fun zz a w6 => ∃ (k : Nat) (o : List UInt8) (A : Option Addr) (c : Nat), zz = 4097 - k ∧ On 126 [(1, .int .u8 ((b : Nat) : Int)), (2, .int .u16 ((n : Nat) : Int)), (14, .slice A o.length c), (15, .int .i64 ((k : Nat) : Int))] a ∧ Ext w w6 ∧ Own w6 w.heap.size 5 1 A o.length c (bys o) ∧ (k ≤ n % 4097) ∧ (o = List.replicate k (UInt8.ofNat b))) _ ⟨0, ([] : List UInt8), none, 0, rfl, ha.sub (ρ' := [(1, .int .u8 ((b : Nat) : Int)), (2, .int .u16 ((n : Nat) : Int)), (14, .slice none (([] : List UInt8).length) 0), (15, .int .i64 ((0 : Nat) : Int))]) (by kernel_rfl), hx, own_nil _ _ _ _, by omega, rfl⟩ ?_
        clear ha hx
        rintro zz a w7 ⟨k, o, A, c, hzz, ha, hx, ho, hk, hor⟩
        have hol : o.length = k := by rw [hor]; simp
        refine wseq ?_
        refine wseq ?_
        refine regp (ρ' := [(1, .int .u8 ((b : Nat) : Int)), (2, .int .u16 ((n : Nat) : Int)), (14, .slice A o.length c), (15, .int .i64 ((k : Nat) : Int)), (93, .bool (decide (((k : Nat) : Int) < ((n % 4097 : Nat) : Int))))]) (C := [InR .i64 ((n : Nat) : Int), 0 ≤ ((n : Nat) : Int), 0 < (4097 : Int)]) ha [] (by kernel_rfl) (.cons (by unfold InR; omega) (.cons (by omega) (.cons (by omega) .nil))) ?_
        clear ha a; intro a ha
        refine tn ?_
        refine wif ha rfl (fun h93 => ?_) (fun h93 => ?_)
        · replace h93 := of_decide_eq_true h93
          refine wskip ?_
          refine tn ?_
          refine wseq ?_
          refine wblk ?_
          refine reg_list ?_
          refine segp (ρ' := [(1, .int .u8 ((b : Nat) : Int)), (2, .int .u16 ((n : Nat) : Int)), (15, .int .i64 ((k : Nat) : Int)), (96, .slice A o.length c), (97, .int .u8 ((b : Nat) : Int))]) (C := []) ha 2 [] rfl (by kernel_rfl) .nil ?_
          clear ha a; intro a ha
          refine lnewS ha rfl (by kernel_rfl) #[.int .u8 ((b : Nat) : Int)] 5 1 (by kernel_rfl) ?_
          clear ha a; intro b8 w9 he hb_b8 hB_b8 a ha
          have hno_ho_b8 : (Value.slice A o.length c).ownBlock ≠ some b8 := own_ne ho hb_b8
          replace ho := ownE he ho
          replace hb_b8 := Nat.le_trans hx.size hb_b8
          replace hx := hx.tr he
          clear he
          refine lapp (by_ := 1) ha rfl (by kernel_rfl) rfl (by kernel_rfl) rfl ho rfl [.int .u8 ((b : Nat) : Int)] rfl (news_blk hB_b8) rfl (by omega) (by omega) hx.size ?_
          clear ha a; intro A10 c11 w12 ho2 hg a ha
          clear hB_b8 hb_b8
          replace hx := extG hx hg ho (Nat.le_refl _)
          clear hg ho
          refine segp (ρ' := [(1, .int .u8 ((b : Nat) : Int)), (2, .int .u16 ((n : Nat) : Int)), (14, .slice A10 (o.length + 1) c11), (15, .int .i64 ((k : Nat) : Int))]) (C := []) ha 1 [] rfl (by kernel_rfl) .nil ?_
          clear ha a; intro a ha
          refine lnil ?_
          replace ha := ha.sub (ρ' := [(1, .int .u8 ((b : Nat) : Int)), (2, .int .u16 ((n : Nat) : Int)), (14, .slice A10 (o.length + 1) c11), (15, .int .i64 ((k : Nat) : Int))]) (by kernel_rfl)
          rw [show ((bys o ++ [.int .u8 ((b : Nat) : Int)]) : List Value) = bys (o ++ [UInt8.ofNat b]) from by exact bys_pushN _ _ (by omega)] at ho2
          rw [show ((o.length + 1) : Nat) = (o ++ [UInt8.ofNat b]).length from by simp] at ha ho2
          refine bn ?_
          refine tn ?_
          refine regp (ρ' := [(1, .int .u8 ((b : Nat) : Int)), (2, .int .u16 ((n : Nat) : Int)), (14, .slice A10 ((o ++ [UInt8.ofNat b]).length) c11), (15, .int .i64 ((k + 1 : Nat) : Int))]) (C := [InR .i64 ((k + 1 : Nat) : Int)]) ha [] (by kernel_rfl) (.cons (by unfold InR; omega) .nil) ?_
          clear ha a; intro a ha
          exact tn ⟨4097 - ((k + 1)), by omega, (k + 1), (o ++ [UInt8.ofNat b]), A10, c11, rfl, ha.sub (ρ' := [(1, .int .u8 ((b : Nat) : Int)), (2, .int .u16 ((n : Nat) : Int)), (14, .slice A10 ((o ++ [UInt8.ofNat b]).length) c11), (15, .int .i64 (((k + 1) : Nat) : Int))]) (by kernel_rfl), hx, ho2, by omega, by rw [hor]; exact List.replicate_succ'.symm⟩
        · replace h93 := of_decide_eq_false h93
          have hpo := lzPack_len o
          have hrun : (lzPack o).length ≤ 8 := by rw [hor]; exact lzPack_run _ k (by omega)
          have hUo := lzPack_back o (by omega)
          refine wexit ?_
          refine (te (te (be ?_)))
          refine tn ?_
          refine wseq ?_
          refine reg hmix (ρ' := [(14, .slice A o.length c), (16, .string (S (lzPack o)))]) (C := [RunOk Try.prog w7 (convert 36 9 (.slice A o.length c)) (.string (S o)), CallOk Try.prog w7 12 #[.string (S o)] (.string (S (lzPack o)))]) ha [(1, .val (.string (S o))), (2, .val (.string (S (lzPack o))))] (by kernel_rfl) (.cons (cvOwn (by kernel_rfl) (by kernel_rfl) (by kernel_rfl) ho) (.cons (fun w _ => pack_ok _ w (by omega)) .nil)) ?_
          clear ha a; intro a w13 ha he
          replace hx := hx.tr he
          replace ho := ownE he ho
          clear he
          refine tn ?_
          refine wseq ?_
          refine reg hmix (ρ' := [(14, .slice A o.length c), (16, .string (S (lzPack o))), (17, .string (S ((lzUnpack (lzPack o) ((o.length : Nat) : Int)).1))), (18, .int .i64 (((lzUnpack (lzPack o) ((o.length : Nat) : Int)).2 : Nat) : Int))]) (C := [CallOk Try.prog w13 9 #[.string (S (lzPack o)), .int .i64 ((o.length : Nat) : Int)] (.tuple #[.string (S ((lzUnpack (lzPack o) ((o.length : Nat) : Int)).1)), .int .i64 (((lzUnpack (lzPack o) ((o.length : Nat) : Int)).2 : Nat) : Int)])]) ha [(3, .val (.tuple #[.string (S ((lzUnpack (lzPack o) ((o.length : Nat) : Int)).1)), .int .i64 (((lzUnpack (lzPack o) ((o.length : Nat) : Int)).2 : Nat) : Int)]))] (by kernel_rfl) (.cons (fun w _ => unpack_ok _ _ w (by first | omega | decide) (by omega)) .nil) ?_
          clear ha a; intro a w14 ha he
          replace hx := hx.tr he
          replace ho := ownE he ho
          clear he
          rw [show ((lzUnpack (lzPack o) ((o.length : Nat) : Int)).1 : List UInt8) = o from by rw [hUo]] at ha
          rw [show ((((lzUnpack (lzPack o) ((o.length : Nat) : Int)).2 : Nat) : Int) : Int) = 0 from by rw [hUo]; rfl] at ha
          refine tn ?_
          refine wseq ?_
          refine reg hmix (ρ' := [(6, .bool (((true && (decide ((((lzPack o).length : Nat) : Int) ≤ 8))) && (decide ((o : List UInt8) = (o : List UInt8)))) && (decide ((0 : Int) = 0))))]) (C := [CallOk Try.prog w14 8 #[] (.bool true), (true && (decide ((((lzPack o).length : Nat) : Int) ≤ 8))) = true → All [RunOk Try.prog w14 (convert 36 9 (.slice A o.length c)) (.string (S o))]]) ha [(0, .val (.bool true)), (9, .val (.string (S o)))] (by kernel_rfl) (.cons (fun w _ => knows5_ok w) (.cons (fun hg7 => by simp only [Bool.not_eq_true', Bool.not_eq_false', Bool.and_eq_true, Bool.or_eq_true, Bool.and_eq_false_iff, Bool.or_eq_false_iff, decide_eq_true_eq, decide_eq_false_iff_not, Bool.not_eq_true, Decidable.not_not] at hg7; exact (.cons (cvOwn (by kernel_rfl) (by kernel_rfl) (by kernel_rfl) ho) .nil)) .nil)) ?_
          clear ha a; intro a w15 ha he
          replace hx := hx.tr he
          replace ho := ownE he ho
          clear he
          refine tn ?_
          refine wret ?_
          refine fin ha (.tmp rfl .nil) ?_
          exact ⟨congrArg Value.bool (by simp; omega), hx⟩
theorem lzBack_walkI (s : List UInt8) (b n : Int) (w : World) (hb : InR .u8 b) (hn : InR .u16 n) : FnV Try.prog 5 #[.string (S s), .int .u8 b, .int .u16 n] w (.bool true) := by
  obtain ⟨h1, h2⟩ := hb
  obtain ⟨h3, h4⟩ := hn
  have := lzBack_walk s b.toNat n.toNat w (by omega) (by omega)
  rwa [Int.toNat_of_nonneg h1, Int.toNat_of_nonneg h3] at this
end Go.Kn
