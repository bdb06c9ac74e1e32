import Derived.Test.YtihmegmambmljaaPlainB
import Derived.Test.YtihmegmambmljaaWa
set_option linter.unusedSimpArgs false
set_option linter.unusedVariables false
set_option maxRecDepth 100000
namespace Go.Kn
open Go.Proofs
theorem read_ok (l : List UInt8) (h : Nat) (w : World) (hl : l.length ≤ 9223372036854775807) (hh : h ≤ 9223372036854775807) :
    Fn Try.prog 24 #[.string (S l), .int .i64 ((h : Nat) : Int)] w (fun x w' => x = .tuple #[.agg #[.int .u64 (((lzread l h).1 : Nat) : Int), .int .u64 (((lzread l h).2.1 : Nat) : Int)], .string (S ((lzread l h).2.2.1)), .int .i64 (((lzread l h).2.2.2 : Nat) : Int)] ∧ Ext w w') := by
  have hx : Ext w w := Ext.rfl' w
  refine enter (N := 72) (args := [.string (S l), .int .i64 ((h : Nat) : Int)]) Try.func24 rfl rfl rfl ?_
  intro a ha
  simp only [argEnv, Nat.zero_add, Nat.reduceAdd] at ha
  refine wseq ?_
  refine reg_list ?_
  refine lnew ha rfl (by kernel_rfl) #[.int .u64 0, .int .u64 0] 59 (by kernel_rfl) ?_
  clear ha a; intro b1 w2 he hb_b1 hB_b1 a ha
  replace hb_b1 := Nat.le_trans hx.size hb_b1
  replace hx := hx.tr he
  clear he
  refine segp (ρ' := [(0, .string (S l)), (1, .int .i64 ((h : Nat) : Int)), (4, .pointer (some ⟨b1, 0, none⟩))]) (C := []) ha 2 [] rfl (by kernel_rfl) .nil ?_
  clear ha a; intro a ha
  refine lnil ?_
  replace ha := ha.sub (ρ' := [(0, .string (S l)), (1, .int .i64 ((h : Nat) : Int)), (4, .pointer (some ⟨b1, 0, none⟩))]) (by kernel_rfl)
  refine tn ?_
  refine wseq ?_
  refine reg hmix (ρ' := [(1, .int .i64 ((h : Nat) : Int)), (4, .pointer (some ⟨b1, 0, none⟩)), (7, .int .u64 (((vget l).1 : Nat) : Int)), (8, .string (S ((vget l).2.1))), (9, .int .i64 (((vget l).2.2 : Nat) : Int))]) (C := [CallOk Try.prog w2 44 #[.string (S l)] (.tuple #[.int .u64 (((vget l).1 : Nat) : Int), .string (S ((vget l).2.1)), .int .i64 (((vget l).2.2 : Nat) : Int)])]) ha [(1, .val (.tuple #[.int .u64 (((vget l).1 : Nat) : Int), .string (S ((vget l).2.1)), .int .i64 (((vget l).2.2 : Nat) : Int)]))] (by kernel_rfl) (.cons (fun w _ => get_ok _ w (by omega)) .nil) ?_
  clear ha a; intro a w3 ha he
  replace hx := hx.tr he
  replace hB_b1 := keepB he hB_b1
  clear he
  have hg1 := vget_lt l
  have hg2 := vget_len l
  refine tn ?_
  refine wseq ?_
  refine wseq ?_
  refine regp (ρ' := [(1, .int .i64 ((h : Nat) : Int)), (4, .pointer (some ⟨b1, 0, none⟩)), (7, .int .u64 (((vget l).1 : Nat) : Int)), (8, .string (S ((vget l).2.1))), (19, .bool (!decide ((((vget l).2.2 : Nat) : Int) = 0)))]) (C := []) ha [] (by kernel_rfl) .nil ?_
  clear ha a; intro a ha
  refine tn ?_
  refine wif ha rfl (fun h19 => ?_) (fun h19 => ?_)
  · simp only [Bool.not_eq_true', Bool.not_eq_false', Bool.and_eq_true, Bool.or_eq_true, Bool.and_eq_false_iff, Bool.or_eq_false_iff, decide_eq_true_eq, decide_eq_false_iff_not, Bool.not_eq_true, Decidable.not_not] at h19
    refine wseq ?_
    refine reg_list ?_
    refine segp (ρ' := [(4, .pointer (some ⟨b1, 0, none⟩)), (20, .agg #[.int .u64 0, .int .u64 0])]) (C := []) ha 1 [] rfl (by kernel_rfl) .nil ?_
    clear ha a; intro a ha
    refine lstore (off := 0) ha rfl rfl (by kernel_rfl) hB_b1 #[.int .u64 0, .int .u64 0] rfl (by kernel_rfl) (by kernel_rfl) ?_
    clear ha a; intro w4 hc a ha
    replace hx := hc.ext hx hb_b1
    replace hB_b1 := hc.at_; clear hc
    refine segp (ρ' := [(4, .pointer (some ⟨b1, 0, none⟩)), (5, .string (S [])), (6, .int .i64 2)]) (C := []) ha 2 [] rfl (by kernel_rfl) .nil ?_
    clear ha a; intro a ha
    refine lnil ?_
    replace ha := ha.sub (ρ' := [(4, .pointer (some ⟨b1, 0, none⟩)), (5, .string (S [])), (6, .int .i64 2)]) (by kernel_rfl)
    refine tn ?_
    refine wret ?_
    refine (tr ?_)
    refine fin ha (.cell rfl (ldVN (n := 2) (vs := #[.int .u64 0, .int .u64 0]) hB_b1 (by kernel_rfl) (by kernel_rfl) ⟨Nat.le_of_ble_eq_true (by kernel_rfl), (by kernel_rfl)⟩) (.tmp rfl (.tmp rfl .nil))) ?_
    refine ⟨?_, hx⟩
    unfold lzread
    (repeat' split) <;> first | rfl | (exfalso; omega)
  · simp only [Bool.not_eq_true', Bool.not_eq_false', Bool.and_eq_true, Bool.or_eq_true, Bool.and_eq_false_iff, Bool.or_eq_false_iff, decide_eq_true_eq, decide_eq_false_iff_not, Bool.not_eq_true, Decidable.not_not] at h19
    refine wskip ?_
    refine tn ?_
    refine wseq ?_
    refine wseq ?_
    refine regp (ρ' := [(1, .int .i64 ((h : Nat) : Int)), (4, .pointer (some ⟨b1, 0, none⟩)), (7, .int .u64 (((vget l).1 : Nat) : Int)), (8, .string (S ((vget l).2.1))), (23, .bool (decide (((((vget l).1) % 2 : Nat) : Int) = 0)))]) (C := [0 ≤ (((vget l).1 : Nat) : Int), 0 < (2 : Int)]) ha [] (by kernel_rfl) (.cons (by omega) (.cons (by omega) .nil)) ?_
    clear ha a; intro a ha
    refine tn ?_
    refine wif ha rfl (fun h23 => ?_) (fun h23 => ?_)
    · replace h23 := of_decide_eq_true h23
      refine wseq ?_
      refine wseq ?_
      refine regp (ρ' := [(4, .pointer (some ⟨b1, 0, none⟩)), (7, .int .u64 (((vget l).1 : Nat) : Int)), (8, .string (S ((vget l).2.1))), (33, .bool ((decide ((((vget l).1 : Nat) : Int) = 0)) || (decide (((((vget l).2.1).length : Nat) : Int) < ((((vget l).1) / 2 : Nat) : Int)))))]) (C := [(decide ((((vget l).1 : Nat) : Int) = 0)) = false → All [0 ≤ (((vget l).1 : Nat) : Int), 0 < (2 : Int), InR .u64 ((((vget l).1) / 2 : Nat) : Int), InR .u64 ((((vget l).2.1).length : Nat) : Int)]]) ha [] (by kernel_rfl) (.cons (fun hg3 => by replace hg3 := of_decide_eq_false hg3; exact (.cons (by omega) (.cons (by omega) (.cons (by unfold InR; omega) (.cons (by unfold InR; omega) .nil))))) .nil) ?_
      clear ha a; intro a ha
      refine tn ?_
      refine wif ha rfl (fun h33 => ?_) (fun h33 => ?_)
      · simp only [Bool.not_eq_true', Bool.not_eq_false', Bool.and_eq_true, Bool.or_eq_true, Bool.and_eq_false_iff, Bool.or_eq_false_iff, decide_eq_true_eq, decide_eq_false_iff_not, Bool.not_eq_true, Decidable.not_not] at h33
        refine wseq ?_
        refine reg_list ?_
        refine segp (ρ' := [(4, .pointer (some ⟨b1, 0, none⟩)), (34, .agg #[.int .u64 0, .int .u64 0])]) (C := []) ha 1 [] rfl (by kernel_rfl) .nil ?_
        clear ha a; intro a ha
        refine lstore (off := 0) ha rfl rfl (by kernel_rfl) hB_b1 #[.int .u64 0, .int .u64 0] rfl (by kernel_rfl) (by kernel_rfl) ?_
        clear ha a; intro w5 hc a ha
        replace hx := hc.ext hx hb_b1
        replace hB_b1 := hc.at_; clear hc
        refine segp (ρ' := [(4, .pointer (some ⟨b1, 0, none⟩)), (5, .string (S [])), (6, .int .i64 2)]) (C := []) ha 2 [] rfl (by kernel_rfl) .nil ?_
        clear ha a; intro a ha
        refine lnil ?_
        replace ha := ha.sub (ρ' := [(4, .pointer (some ⟨b1, 0, none⟩)), (5, .string (S [])), (6, .int .i64 2)]) (by kernel_rfl)
        refine tn ?_
        refine wret ?_
        refine (tr (tr ?_))
        refine fin ha (.cell rfl (ldVN (n := 2) (vs := #[.int .u64 0, .int .u64 0]) hB_b1 (by kernel_rfl) (by kernel_rfl) ⟨Nat.le_of_ble_eq_true (by kernel_rfl), (by kernel_rfl)⟩) (.tmp rfl (.tmp rfl .nil))) ?_
        refine ⟨?_, hx⟩
        unfold lzread
        (repeat' split) <;> first | rfl | (exfalso; omega)
      · simp only [Bool.not_eq_true', Bool.not_eq_false', Bool.and_eq_true, Bool.or_eq_true, Bool.and_eq_false_iff, Bool.or_eq_false_iff, decide_eq_true_eq, decide_eq_false_iff_not, Bool.not_eq_true, Decidable.not_not] at h33
        refine wskip ?_
        refine tn ?_
        refine wseq ?_
        refine reg_list ?_
        refine segp (ρ' := [(4, .pointer (some ⟨b1, 0, none⟩)), (37, .agg #[.int .u64 ((((vget l).1) / 2 : Nat) : Int), .int .u64 0]), (38, .string (S ((vget l).2.1)))]) (C := [0 ≤ (((vget l).1 : Nat) : Int), 0 < (2 : Int), InR .u64 ((((vget l).1) / 2 : Nat) : Int)]) ha 4 [] rfl (by kernel_rfl) (.cons (by omega) (.cons (by omega) (.cons (by unfold InR; omega) .nil))) ?_
        clear ha a; intro a ha
        refine lstore (off := 0) ha rfl rfl (by kernel_rfl) hB_b1 #[.int .u64 ((((vget l).1) / 2 : Nat) : Int), .int .u64 0] rfl (by kernel_rfl) (by kernel_rfl) ?_
        clear ha a; intro w6 hc a ha
        replace hx := hc.ext hx hb_b1
        replace hB_b1 := hc.at_; clear hc
        refine segp (ρ' := [(4, .pointer (some ⟨b1, 0, none⟩)), (5, .string (S ((vget l).2.1))), (6, .int .i64 0)]) (C := []) ha 2 [] rfl (by kernel_rfl) .nil ?_
        clear ha a; intro a ha
        refine lnil ?_
        replace ha := ha.sub (ρ' := [(4, .pointer (some ⟨b1, 0, none⟩)), (5, .string (S ((vget l).2.1))), (6, .int .i64 0)]) (by kernel_rfl)
        refine tn ?_
        refine wret ?_
        refine (tr ?_)
        refine fin ha (.cell rfl (ldVN (n := 2) (vs := #[.int .u64 ((((vget l).1) / 2 : Nat) : Int), .int .u64 0]) hB_b1 (by kernel_rfl) (by kernel_rfl) ⟨Nat.le_of_ble_eq_true (by kernel_rfl), (by kernel_rfl)⟩) (.tmp rfl (.tmp rfl .nil))) ?_
        refine ⟨?_, hx⟩
        unfold lzread
        (repeat' split) <;> first | rfl | (exfalso; omega)
    · replace h23 := of_decide_eq_false h23
      refine wskip ?_
      refine tn ?_
      refine wseq ?_
      refine reg hmix (ρ' := [(1, .int .i64 ((h : Nat) : Int)), (4, .pointer (some ⟨b1, 0, none⟩)), (7, .int .u64 (((vget l).1 : Nat) : Int)), (9, .int .i64 (((vget ((vget l).2.1)).2.2 : Nat) : Int)), (10, .int .u64 (((vget ((vget l).2.1)).1 : Nat) : Int)), (11, .string (S ((vget ((vget l).2.1)).2.1)))]) (C := [CallOk Try.prog w3 44 #[.string (S ((vget l).2.1))] (.tuple #[.int .u64 (((vget ((vget l).2.1)).1 : Nat) : Int), .string (S ((vget ((vget l).2.1)).2.1)), .int .i64 (((vget ((vget l).2.1)).2.2 : Nat) : Int)])]) ha [(1, .val (.tuple #[.int .u64 (((vget ((vget l).2.1)).1 : Nat) : Int), .string (S ((vget ((vget l).2.1)).2.1)), .int .i64 (((vget ((vget l).2.1)).2.2 : Nat) : Int)]))] (by kernel_rfl) (.cons (fun w _ => get_ok _ w (by omega)) .nil) ?_
      clear ha a; intro a w7 ha he
      replace hx := hx.tr he
      replace hB_b1 := keepB he hB_b1
      clear he
      have hg3 := vget_lt (vget l).2.1
      refine tn ?_
      refine wseq ?_
      refine wseq ?_
      refine regp (ρ' := [(4, .pointer (some ⟨b1, 0, none⟩)), (7, .int .u64 (((vget l).1 : Nat) : Int)), (10, .int .u64 (((vget ((vget l).2.1)).1 : Nat) : Int)), (11, .string (S ((vget ((vget l).2.1)).2.1))), (65, .bool (((((!decide ((((vget ((vget l).2.1)).2.2 : Nat) : Int) = 0)) || (decide (((((vget l).1) / 2 : Nat) : Int) < 4))) || (decide ((((vget ((vget l).2.1)).1 : Nat) : Int) < 1))) || (decide ((65535 : Int) < (((vget ((vget l).2.1)).1 : Nat) : Int)))) || (decide (((h : Nat) : Int) < (((vget ((vget l).2.1)).1 : Nat) : Int)))))]) (C := [(!decide ((((vget ((vget l).2.1)).2.2 : Nat) : Int) = 0)) = false → All [0 ≤ (((vget l).1 : Nat) : Int), 0 < (2 : Int), InR .u64 ((((vget l).1) / 2 : Nat) : Int)], ((((!decide ((((vget ((vget l).2.1)).2.2 : Nat) : Int) = 0)) || (decide (((((vget l).1) / 2 : Nat) : Int) < 4))) || (decide ((((vget ((vget l).2.1)).1 : Nat) : Int) < 1))) || (decide ((65535 : Int) < (((vget ((vget l).2.1)).1 : Nat) : Int)))) = false → All [InR .u64 ((h : Nat) : Int)]]) ha [] (by kernel_rfl) (.cons (fun hg3 => by simp only [Bool.not_eq_true', Bool.not_eq_false', Bool.and_eq_true, Bool.or_eq_true, Bool.and_eq_false_iff, Bool.or_eq_false_iff, decide_eq_true_eq, decide_eq_false_iff_not, Bool.not_eq_true, Decidable.not_not] at hg3; exact (.cons (by omega) (.cons (by omega) (.cons (by unfold InR; omega) .nil)))) (.cons (fun hg16 => by simp only [Bool.not_eq_true', Bool.not_eq_false', Bool.and_eq_true, Bool.or_eq_true, Bool.and_eq_false_iff, Bool.or_eq_false_iff, decide_eq_true_eq, decide_eq_false_iff_not, Bool.not_eq_true, Decidable.not_not] at hg16; exact (.cons (by unfold InR; omega) .nil)) .nil)) ?_
      clear ha a; intro a ha
      refine tn ?_
      refine wif ha rfl (fun h65 => ?_) (fun h65 => ?_)
      · simp only [Bool.not_eq_true', Bool.not_eq_false', Bool.and_eq_true, Bool.or_eq_true, Bool.and_eq_false_iff, Bool.or_eq_false_iff, decide_eq_true_eq, decide_eq_false_iff_not, Bool.not_eq_true, Decidable.not_not] at h65
        refine wseq ?_
        refine reg_list ?_
        refine segp (ρ' := [(4, .pointer (some ⟨b1, 0, none⟩)), (66, .agg #[.int .u64 0, .int .u64 0])]) (C := []) ha 1 [] rfl (by kernel_rfl) .nil ?_
        clear ha a; intro a ha
        refine lstore (off := 0) ha rfl rfl (by kernel_rfl) hB_b1 #[.int .u64 0, .int .u64 0] rfl (by kernel_rfl) (by kernel_rfl) ?_
        clear ha a; intro w8 hc a ha
        replace hx := hc.ext hx hb_b1
        replace hB_b1 := hc.at_; clear hc
        refine segp (ρ' := [(4, .pointer (some ⟨b1, 0, none⟩)), (5, .string (S [])), (6, .int .i64 2)]) (C := []) ha 2 [] rfl (by kernel_rfl) .nil ?_
        clear ha a; intro a ha
        refine lnil ?_
        replace ha := ha.sub (ρ' := [(4, .pointer (some ⟨b1, 0, none⟩)), (5, .string (S [])), (6, .int .i64 2)]) (by kernel_rfl)
        refine tn ?_
        refine wret ?_
        refine (tr ?_)
        refine fin ha (.cell rfl (ldVN (n := 2) (vs := #[.int .u64 0, .int .u64 0]) hB_b1 (by kernel_rfl) (by kernel_rfl) ⟨Nat.le_of_ble_eq_true (by kernel_rfl), (by kernel_rfl)⟩) (.tmp rfl (.tmp rfl .nil))) ?_
        refine ⟨?_, hx⟩
        unfold lzread
        (repeat' split) <;> first | rfl | (exfalso; omega)
      · simp only [Bool.not_eq_true', Bool.not_eq_false', Bool.and_eq_true, Bool.or_eq_true, Bool.and_eq_false_iff, Bool.or_eq_false_iff, decide_eq_true_eq, decide_eq_false_iff_not, Bool.not_eq_true, Decidable.not_not] at h65
        refine wskip ?_
        refine tn ?_
        refine wseq ?_
        refine reg_list ?_
        refine segp (ρ' := [(4, .pointer (some ⟨b1, 0, none⟩)), (70, .agg #[.int .u64 ((((vget l).1) / 2 : Nat) : Int), .int .u64 (((vget ((vget l).2.1)).1 : Nat) : Int)]), (71, .string (S ((vget ((vget l).2.1)).2.1)))]) (C := [0 ≤ (((vget l).1 : Nat) : Int), 0 < (2 : Int), InR .u64 ((((vget l).1) / 2 : Nat) : Int)]) ha 5 [] rfl (by kernel_rfl) (.cons (by omega) (.cons (by omega) (.cons (by unfold InR; omega) .nil))) ?_
        clear ha a; intro a ha
        refine lstore (off := 0) ha rfl rfl (by kernel_rfl) hB_b1 #[.int .u64 ((((vget l).1) / 2 : Nat) : Int), .int .u64 (((vget ((vget l).2.1)).1 : Nat) : Int)] rfl (by kernel_rfl) (by kernel_rfl) ?_
        clear ha a; intro w9 hc a ha
        replace hx := hc.ext hx hb_b1
        replace hB_b1 := hc.at_; clear hc
        refine segp (ρ' := [(4, .pointer (some ⟨b1, 0, none⟩)), (5, .string (S ((vget ((vget l).2.1)).2.1))), (6, .int .i64 0)]) (C := []) ha 2 [] rfl (by kernel_rfl) .nil ?_
        clear ha a; intro a ha
        refine lnil ?_
        replace ha := ha.sub (ρ' := [(4, .pointer (some ⟨b1, 0, none⟩)), (5, .string (S ((vget ((vget l).2.1)).2.1))), (6, .int .i64 0)]) (by kernel_rfl)
        refine tn ?_
        refine wret ?_
        refine fin ha (.cell rfl (ldVN (n := 2) (vs := #[.int .u64 ((((vget l).1) / 2 : Nat) : Int), .int .u64 (((vget ((vget l).2.1)).1 : Nat) : Int)]) hB_b1 (by kernel_rfl) (by kernel_rfl) ⟨Nat.le_of_ble_eq_true (by kernel_rfl), (by kernel_rfl)⟩) (.tmp rfl (.tmp rfl .nil))) ?_
        refine ⟨?_, hx⟩
        unfold lzread
        (repeat' split) <;> first | rfl | (exfalso; omega)
theorem unpack_ok (s : List UInt8) (m : Int) (w : World) (hs : s.length ≤ 9223372036854775807) (hm : m ≤ 1000000000) :
    Fn Try.prog 9 #[.string (S s), .int .i64 m] w (fun x w' => x = .tuple #[.string (S ((lzUnpack s m).1)), .int .i64 (((lzUnpack s m).2 : Nat) : Int)] ∧ Ext w w') := by
  have hx : Ext w w := Ext.rfl' w
  refine enter (N := 96) (args := [.string (S s), .int .i64 m]) Try.func9 rfl rfl rfl ?_
  intro a ha
  simp only [argEnv, Nat.zero_add, Nat.reduceAdd] at ha
  refine wseq ?_
  refine regp (ρ' := [(0, .string (S s)), (1, .int .i64 m)]) (C := []) ha [] (by kernel_rfl) .nil ?_
  clear ha a; intro a ha
  refine tn ?_
  refine wseq ?_
  refine wblk ?_
  refine wseq ?_
  refine regp (ρ' := [(0, .string (S s)), (1, .int .i64 m), (11, .bool (decide ((m : Int) < 0)))]) (C := []) ha [] (by kernel_rfl) .nil ?_
  clear ha a; intro a ha
  refine tn ?_
  refine wif ha rfl (fun h11 => ?_) (fun h11 => ?_)
  · replace h11 := of_decide_eq_true h11
    have hres : lzUnpack s m = ([], 1) := by unfold lzUnpack; rw [if_pos h11]
    refine wseq ?_
    refine regp (ρ' := [(4, .string (S [])), (5, .int .i64 1)]) (C := []) ha [] (by kernel_rfl) .nil ?_
    clear ha a; intro a ha
    refine tn ?_
    refine wret ?_
    refine (br (tr ?_))
    refine fin ha (.tmp rfl (.tmp rfl .nil)) ?_
    exact ⟨by rw [hres]; rfl, hx⟩
  · replace h11 := of_decide_eq_false h11
    obtain ⟨M, rfl⟩ := Int.eq_ofNat_of_zero_le (by omega : 0 ≤ m)
    refine wseq ?_
    refine regp (ρ' := [(0, .string (S s)), (1, .int .i64 ((M : Nat) : Int)), (14, .bool ((decide ((s : List UInt8) = ([] : List UInt8))) || (decide ((1 : Int) < (((s.getD 0 0).toNat : Nat) : Int)))))]) (C := [(decide ((s : List UInt8) = ([] : List UInt8))) = false → All [0 ≤ (0 : Int) ∧ 0 < (s.length : Int)]]) ha [] (by kernel_rfl) (.cons (fun hg => by have hs0 : 0 < s.length := List.length_pos_iff.2 (of_decide_eq_false hg); exact .cons ⟨by omega, by omega⟩ .nil) .nil) ?_
    clear ha a; intro a ha
    refine tn ?_
    refine wif ha rfl (fun h14 => ?_) (fun h14 => ?_)
    · simp only [Bool.not_eq_true', Bool.not_eq_false', Bool.and_eq_true, Bool.or_eq_true, Bool.and_eq_false_iff, Bool.or_eq_false_iff, decide_eq_true_eq, decide_eq_false_iff_not, Bool.not_eq_true, Decidable.not_not] at h14
      have hres : lzUnpack s (M : Int) = ([], 2) := by unfold lzUnpack; rw [if_neg (by omega), if_pos (h14.elim (fun h => .inl h) (fun h => .inr (by omega)))]
      refine wseq ?_
      refine regp (ρ' := [(4, .string (S [])), (5, .int .i64 2)]) (C := []) ha [] (by kernel_rfl) .nil ?_
      clear ha a; intro a ha
      refine tn ?_
      refine wret ?_
      refine (br (tr ?_))
      refine fin ha (.tmp rfl (.tmp rfl .nil)) ?_
      exact ⟨by rw [hres]; rfl, hx⟩
    · simp only [Bool.not_eq_true', Bool.not_eq_false', Bool.and_eq_true, Bool.or_eq_true, Bool.and_eq_false_iff, Bool.or_eq_false_iff, decide_eq_true_eq, decide_eq_false_iff_not, Bool.not_eq_true, Decidable.not_not] at h14
      have hs0 : 0 < s.length := List.length_pos_iff.2 h14.1
      have hne : ¬ (s = [] ∨ 1 < (s.getD 0 0).toNat) := fun h => h.elim (fun h => h14.1 h) (fun h => h14.2 (by omega))
      refine wseq ?_
      refine regp (ρ' := [(0, .string (S s)), (1, .int .i64 ((M : Nat) : Int)), (22, .bool ((decide ((((s.getD 0 0).toNat : Nat) : Int) = 0)) && (decide (((M : Nat) : Int) < (((s.length : Nat) : Int) - 1)))))]) (C := [0 ≤ (0 : Int) ∧ 0 < (s.length : Int), (decide ((((s.getD 0 0).toNat : Nat) : Int) = 0)) = true → All [InR .i64 (((s.length : Nat) : Int) - 1)]]) ha [] (by kernel_rfl) (.cons ⟨by omega, by omega⟩ (.cons (fun hg4 => by replace hg4 := of_decide_eq_true hg4; exact (.cons (by unfold InR; omega) .nil)) .nil)) ?_
      clear ha a; intro a ha
      refine tn ?_
      refine wif ha rfl (fun h22 => ?_) (fun h22 => ?_)
      · simp only [Bool.not_eq_true', Bool.not_eq_false', Bool.and_eq_true, Bool.or_eq_true, Bool.and_eq_false_iff, Bool.or_eq_false_iff, decide_eq_true_eq, decide_eq_false_iff_not, Bool.not_eq_true, Decidable.not_not] at h22
        have hres : lzUnpack s (M : Int) = ([], 3) := by unfold lzUnpack; rw [if_neg (by omega), if_neg hne, if_pos (by omega), if_pos (by omega)]
        refine wseq ?_
        refine regp (ρ' := [(4, .string (S [])), (5, .int .i64 3)]) (C := []) ha [] (by kernel_rfl) .nil ?_
        clear ha a; intro a ha
        refine tn ?_
        refine wret ?_
        refine (br (tr ?_))
        refine fin ha (.tmp rfl (.tmp rfl .nil)) ?_
        exact ⟨by rw [hres]; rfl, hx⟩
      · simp only [Bool.not_eq_true', Bool.not_eq_false', Bool.and_eq_true, Bool.or_eq_true, Bool.and_eq_false_iff, Bool.or_eq_false_iff, decide_eq_true_eq, decide_eq_false_iff_not, Bool.not_eq_true, Decidable.not_not] at h22
        refine wseq ?_
        refine regp (ρ' := [(0, .string (S s)), (1, .int .i64 ((M : Nat) : Int)), (33, .bool (decide ((((s.getD 0 0).toNat : Nat) : Int) = 0)))]) (C := [0 ≤ (0 : Int) ∧ 0 < (s.length : Int)]) ha [] (by kernel_rfl) (.cons ⟨by omega, by omega⟩ .nil) ?_
        clear ha a; intro a ha
        refine tn ?_
        refine wif ha rfl (fun h33 => ?_) (fun h33 => ?_)
        · replace h33 := of_decide_eq_true h33
          have hres : lzUnpack s (M : Int) = (s.drop 1, 0) := by unfold lzUnpack; rw [if_neg (by omega), if_neg hne, if_pos (by omega), if_neg (by omega)]
          refine wseq ?_
          refine regp (ρ' := [(4, .string (S (s.drop 1))), (5, .int .i64 0)]) (C := [0 ≤ (1 : Int) ∧ 1 ≤ (s.length : Int)]) ha [] (by kernel_rfl) (.cons ⟨by omega, by omega⟩ .nil) ?_
          clear ha a; intro a ha
          refine tn ?_
          refine wret ?_
          refine (br (tr ?_))
          refine fin ha (.tmp rfl (.tmp rfl .nil)) ?_
          exact ⟨by rw [hres]; rfl, hx⟩
        · replace h33 := of_decide_eq_false h33
          have hgo : lzUnpack s (M : Int) = lzun M (s.length + 1) (s.drop 1) [] := by unfold lzUnpack; rw [if_neg (by omega), if_neg hne, if_neg (by omega)]; rfl
          refine wskip ?_
          refine bn ?_
          refine tn ?_
          refine wseq ?_
          refine regp (ρ' := [(0, .string (S s)), (1, .int .i64 ((M : Nat) : Int)), (6, .slice none 0 0)]) (C := []) ha [] (by kernel_rfl) .nil ?_
          clear ha a; intro a ha
          refine tn ?_
          refine wseq ?_
          refine wseq ?_
          refine regp (ρ' := [(0, .string (S (s.drop 1))), (1, .int .i64 ((M : Nat) : Int)), (6, .slice none 0 0)]) (C := [0 ≤ (1 : Int) ∧ 1 ≤ (s.length : Int)]) ha [] (by kernel_rfl) (.cons ⟨by omega, by omega⟩ .nil) ?_
          clear ha a; intro a ha
          refine tn ?_
          refine wblk ?_
          refine wloop (fun zz a w1 => ∃ (f : Nat) (r out : List UInt8) (A : Option Addr) (c : Nat), zz = f ∧ On 96 [(0, .string (S r)), (1, .int .i64 ((M : Nat) : Int)), (6, .slice A out.length c)] a ∧ Ext w w1 ∧ Own w1 w.heap.size 5 1 A out.length c (bys out) ∧ (r.length < f) ∧ (out.length ≤ M) ∧ (r.length ≤ s.length) ∧ (lzUnpack s (M : Int) = lzun M f r out)) _ ⟨(s.length + 1), (s.drop 1), ([] : List UInt8), none, 0, rfl, ha.sub (ρ' := [(0, .string (S (s.drop 1))), (1, .int .i64 ((M : Nat) : Int)), (6, .slice none (([] : List UInt8).length) 0)]) (by kernel_rfl), hx, own_nil _ _ _ _, by simp; omega, by simp, by simp, hgo⟩ ?_
          clear ha hx
          rintro zz a w2 ⟨f, r, out, A, c, hzz, ha, hx, ho, hf, hlen, hrl, hgo⟩
          have hsp := lzread_spec r out.length
          obtain ⟨f, rfl⟩ : ∃ f', f = f' + 1 := ⟨f - 1, by omega⟩
          refine wseq ?_
          refine wseq ?_
          refine regp (ρ' := [(0, .string (S r)), (1, .int .i64 ((M : Nat) : Int)), (6, .slice A out.length c), (42, .bool (!decide ((r : List UInt8) = ([] : List UInt8))))]) (C := []) ha [] (by kernel_rfl) .nil ?_
          clear ha a; intro a ha
          refine tn ?_
          refine wif ha rfl (fun h42 => ?_) (fun h42 => ?_)
          · simp only [Bool.not_eq_true', Bool.not_eq_false', Bool.and_eq_true, Bool.or_eq_true, Bool.and_eq_false_iff, Bool.or_eq_false_iff, decide_eq_true_eq, decide_eq_false_iff_not, Bool.not_eq_true, Decidable.not_not] at h42
            unfold lzun at hgo; rw [if_neg h42] at hgo
            refine wskip ?_
            refine tn ?_
            refine wblk ?_
            refine wseq ?_
            refine reg_list ?_
            refine seg (ρ' := [(1, .int .i64 ((M : Nat) : Int)), (6, .slice A out.length c), (48, .agg #[.int .u64 (((lzread r out.length).1 : Nat) : Int), .int .u64 (((lzread r out.length).2.1 : Nat) : Int)]), (49, .string (S ((lzread r out.length).2.2.1))), (50, .int .i64 (((lzread r out.length).2.2.2 : Nat) : Int))]) (C := [CallOk Try.prog w2 24 #[.string (S r), .int .i64 ((out.length : Nat) : Int)] (.tuple #[.agg #[.int .u64 (((lzread r out.length).1 : Nat) : Int), .int .u64 (((lzread r out.length).2.1 : Nat) : Int)], .string (S ((lzread r out.length).2.2.1)), .int .i64 (((lzread r out.length).2.2.2 : Nat) : Int)])]) ha 8 [(3, .val (.tuple #[.agg #[.int .u64 (((lzread r out.length).1 : Nat) : Int), .int .u64 (((lzread r out.length).2.1 : Nat) : Int)], .string (S ((lzread r out.length).2.2.1)), .int .i64 (((lzread r out.length).2.2.2 : Nat) : Int)]))] (by kernel_rfl) (.cons (fun w _ => read_ok _ _ w (by omega) (by omega)) .nil) ?_
            clear ha a; intro a w3 ha he
            replace hx := hx.tr he
            replace ho := ownE he ho
            clear he
            refine lnew ha rfl (by kernel_rfl) #[.int .u64 0, .int .u64 0] 59 (by kernel_rfl) ?_
            clear ha a; intro b4 w5 he hb_b4 hB_b4 a ha
            replace ho := ownE he ho
            replace hb_b4 := Nat.le_trans hx.size hb_b4
            replace hx := hx.tr he
            clear he
            refine lstore (off := 0) ha rfl rfl (by kernel_rfl) hB_b4 #[.int .u64 (((lzread r out.length).1 : Nat) : Int), .int .u64 (((lzread r out.length).2.1 : Nat) : Int)] rfl (by kernel_rfl) (by kernel_rfl) ?_
            clear ha a; intro w6 hc a ha
            replace ho := ownC hc hB_b4 rfl ho
            replace hx := hc.ext hx hb_b4
            replace hB_b4 := hc.at_; clear hc
            refine segp (ρ' := [(1, .int .i64 ((M : Nat) : Int)), (6, .slice A out.length c), (7, .pointer (some ⟨b4, 0, none⟩)), (8, .string (S ((lzread r out.length).2.2.1))), (9, .int .i64 (((lzread r out.length).2.2.2 : Nat) : Int))]) (C := []) ha 2 [] rfl (by kernel_rfl) .nil ?_
            clear ha a; intro a ha
            refine lnil ?_
            replace ha := ha.sub (ρ' := [(1, .int .i64 ((M : Nat) : Int)), (6, .slice A out.length c), (7, .pointer (some ⟨b4, 0, none⟩)), (8, .string (S ((lzread r out.length).2.2.1))), (9, .int .i64 (((lzread r out.length).2.2.2 : Nat) : Int))]) (by kernel_rfl)
            refine tn ?_
            refine wseq ?_
            refine wseq ?_
            refine regp (ρ' := [(1, .int .i64 ((M : Nat) : Int)), (6, .slice A out.length c), (7, .pointer (some ⟨b4, 0, none⟩)), (8, .string (S ((lzread r out.length).2.2.1))), (9, .int .i64 (((lzread r out.length).2.2.2 : Nat) : Int)), (52, .bool (!decide ((((lzread r out.length).2.2.2 : Nat) : Int) = 0)))]) (C := []) ha [] (by kernel_rfl) .nil ?_
            clear ha a; intro a ha
            refine tn ?_
            refine wif ha rfl (fun h52 => ?_) (fun h52 => ?_)
            · simp only [Bool.not_eq_true', Bool.not_eq_false', Bool.and_eq_true, Bool.or_eq_true, Bool.and_eq_false_iff, Bool.or_eq_false_iff, decide_eq_true_eq, decide_eq_false_iff_not, Bool.not_eq_true, Decidable.not_not] at h52
              have hres : lzUnpack s (M : Int) = ([], (lzread r out.length).2.2.2) := by rw [hgo, if_pos (by omega)]
              refine wseq ?_
              refine regp (ρ' := [(4, .string (S [])), (5, .int .i64 (((lzread r out.length).2.2.2 : Nat) : Int))]) (C := []) ha [] (by kernel_rfl) .nil ?_
              clear ha a; intro a ha
              refine tn ?_
              refine wret ?_
              refine (tr (br (tr (br (tr ?_)))))
              refine fin ha (.tmp rfl (.tmp rfl .nil)) ?_
              exact ⟨by rw [hres]; rfl, hx⟩
            · simp only [Bool.not_eq_true', Bool.not_eq_false', Bool.and_eq_true, Bool.or_eq_true, Bool.and_eq_false_iff, Bool.or_eq_false_iff, decide_eq_true_eq, decide_eq_false_iff_not, Bool.not_eq_true, Decidable.not_not] at h52
              rw [if_neg (by omega)] at hgo
              have hsp6 := hsp.2.2.2.2.2 (by omega)
              refine wskip ?_
              refine tn ?_
              refine wseq ?_
              refine wseq ?_
              refine regp (ρ' := [(1, .int .i64 ((M : Nat) : Int)), (6, .slice A out.length c), (7, .pointer (some ⟨b4, 0, none⟩)), (8, .string (S ((lzread r out.length).2.2.1))), (61, .bool (decide ((((M : Nat) : Int) - ((out.length : Nat) : Int)) < (((lzread r out.length).1 : Nat) : Int))))]) (C := [RunOk Try.prog w6 (Instr.loadAt 57 (.pointer (some ⟨b4, 0, none⟩))) (.int .u64 (((lzread r out.length).1 : Nat) : Int)), InR .i64 (((M : Nat) : Int) - ((out.length : Nat) : Int)), InR .u64 (((M : Nat) : Int) - ((out.length : Nat) : Int))]) ha [(1, .val (.int .u64 (((lzread r out.length).1 : Nat) : Int)))] (by kernel_rfl) (.cons (ld1 hB_b4 (by kernel_rfl) rfl) (.cons (by unfold InR; omega) (.cons (by unfold InR; omega) .nil))) ?_
              clear ha a; intro a ha
              refine tn ?_
              refine wif ha rfl (fun h61 => ?_) (fun h61 => ?_)
              · replace h61 := of_decide_eq_true h61
                have hres : lzUnpack s (M : Int) = ([], 3) := by rw [hgo, if_pos (by omega)]
                refine wseq ?_
                refine regp (ρ' := [(4, .string (S [])), (5, .int .i64 3)]) (C := []) ha [] (by kernel_rfl) .nil ?_
                clear ha a; intro a ha
                refine tn ?_
                refine wret ?_
                refine (tr (br (tr (br (tr ?_)))))
                refine fin ha (.tmp rfl (.tmp rfl .nil)) ?_
                exact ⟨by rw [hres]; rfl, hx⟩
              · replace h61 := of_decide_eq_false h61
                rw [if_neg (by omega)] at hgo
                refine wskip ?_
                refine tn ?_
                refine wseq ?_
                refine regp (ρ' := [(0, .string (S ((lzread r out.length).2.2.1))), (1, .int .i64 ((M : Nat) : Int)), (6, .slice A out.length c), (7, .pointer (some ⟨b4, 0, none⟩)), (8, .string (S ((lzread r out.length).2.2.1)))]) (C := []) ha [] (by kernel_rfl) .nil ?_
                clear ha a; intro a ha
                refine tn ?_
                refine wseq ?_
                refine wseq ?_
                refine regp (ρ' := [(0, .string (S ((lzread r out.length).2.2.1))), (1, .int .i64 ((M : Nat) : Int)), (6, .slice A out.length c), (7, .pointer (some ⟨b4, 0, none⟩)), (8, .string (S ((lzread r out.length).2.2.1))), (65, .bool (decide ((((lzread r out.length).2.1 : Nat) : Int) = 0)))]) (C := [RunOk Try.prog w6 (Instr.loadAt 57 (.pointer (some ⟨b4, 1, none⟩))) (.int .u64 (((lzread r out.length).2.1 : Nat) : Int))]) ha [(1, .val (.int .u64 (((lzread r out.length).2.1 : Nat) : Int)))] (by kernel_rfl) (.cons (ld1 hB_b4 (by kernel_rfl) rfl) .nil) ?_
                clear ha a; intro a ha
                refine tn ?_
                refine wif ha rfl (fun h65 => ?_) (fun h65 => ?_)
                · replace h65 := of_decide_eq_true h65
                  rw [if_pos (by omega)] at hgo
                  have hsp7 := hsp6.2 (by omega)
                  refine wseq ?_
                  refine reg_list ?_
                  refine segp (ρ' := [(1, .int .i64 ((M : Nat) : Int)), (7, .pointer (some ⟨b4, 0, none⟩)), (8, .string (S ((lzread r out.length).2.2.1))), (66, .slice A out.length c), (70, .string (S (((lzread r out.length).2.2.1).take ((lzread r out.length).1))))]) (C := [RunOk Try.prog w6 (Instr.loadAt 57 (.pointer (some ⟨b4, 0, none⟩))) (.int .u64 (((lzread r out.length).1 : Nat) : Int)), 0 ≤ (((lzread r out.length).1 : Nat) : Int) ∧ (((lzread r out.length).1 : Nat) : Int) ≤ (((lzread r out.length).2.2.1).length : Int)]) ha 5 [(3, .val (.int .u64 (((lzread r out.length).1 : Nat) : Int)))] rfl (by kernel_rfl) (.cons (ld1 hB_b4 (by kernel_rfl) rfl) (.cons ⟨by omega, by omega⟩ .nil)) ?_
                  clear ha a; intro a ha
                  refine lappS (q := (((lzread r out.length).2.2.1).take ((lzread r out.length).1))) ha rfl (by kernel_rfl) rfl (by kernel_rfl) (by kernel_rfl) (by kernel_rfl) rfl ho rfl (by rw [List.length_take]; omega) hx.size ?_
                  clear ha a; intro A7 c8 w9 ho2 hg a ha
                  replace hB_b4 := keepG hg ho rfl hB_b4
                  replace hx := extG hx hg ho (Nat.le_refl _)
                  clear hg ho
                  refine segp (ρ' := [(1, .int .i64 ((M : Nat) : Int)), (6, .slice A7 (out.length + (((lzread r out.length).2.2.1).take ((lzread r out.length).1)).length) c8), (7, .pointer (some ⟨b4, 0, none⟩)), (8, .string (S ((lzread r out.length).2.2.1)))]) (C := []) ha 1 [] rfl (by kernel_rfl) .nil ?_
                  clear ha a; intro a ha
                  refine lnil ?_
                  replace ha := ha.sub (ρ' := [(1, .int .i64 ((M : Nat) : Int)), (6, .slice A7 (out.length + (((lzread r out.length).2.2.1).take ((lzread r out.length).1)).length) c8), (7, .pointer (some ⟨b4, 0, none⟩)), (8, .string (S ((lzread r out.length).2.2.1)))]) (by kernel_rfl)
                  rw [show ((bys out ++ bys (((lzread r out.length).2.2.1).take ((lzread r out.length).1))) : List Value) = bys (out ++ (lzread r out.length).2.2.1.take (lzread r out.length).1) from by simp] at ho2
                  rw [show ((out.length + (((lzread r out.length).2.2.1).take ((lzread r out.length).1)).length) : Nat) = (out ++ (lzread r out.length).2.2.1.take (lzread r out.length).1).length from by simp] at ha ho2
                  refine tn ?_
                  refine wseq ?_
                  refine regp (ρ' := [(0, .string (S (((lzread r out.length).2.2.1).drop ((lzread r out.length).1)))), (1, .int .i64 ((M : Nat) : Int)), (6, .slice A7 ((out ++ (lzread r out.length).2.2.1.take (lzread r out.length).1).length) c8)]) (C := [RunOk Try.prog w9 (Instr.loadAt 57 (.pointer (some ⟨b4, 0, none⟩))) (.int .u64 (((lzread r out.length).1 : Nat) : Int)), 0 ≤ (((lzread r out.length).1 : Nat) : Int) ∧ (((lzread r out.length).1 : Nat) : Int) ≤ (((lzread r out.length).2.2.1).length : Int)]) ha [(2, .val (.int .u64 (((lzread r out.length).1 : Nat) : Int)))] (by kernel_rfl) (.cons (ld1 hB_b4 (by kernel_rfl) rfl) (.cons ⟨by omega, by omega⟩ .nil)) ?_
                  clear ha a; intro a ha
                  refine tn ?_
                  refine wexit ?_
                  refine (te (be ?_))
                  exact tn ⟨f, by omega, f, ((((lzread r out.length).2.2.1).drop ((lzread r out.length).1))), (out ++ (lzread r out.length).2.2.1.take (lzread r out.length).1), A7, c8, rfl, ha.sub (ρ' := [(0, .string (S ((((lzread r out.length).2.2.1).drop ((lzread r out.length).1))))), (1, .int .i64 ((M : Nat) : Int)), (6, .slice A7 ((out ++ (lzread r out.length).2.2.1.take (lzread r out.length).1).length) c8)]) (by kernel_rfl), hx, ho2, by first | omega | (simp only [List.length_drop]; omega), by simp; omega, by first | omega | (simp only [List.length_drop]; omega), hgo⟩
                · replace h65 := of_decide_eq_false h65
                  rw [if_neg (by omega)] at hgo
                  refine wskip ?_
                  refine tn ?_
                  refine wseq ?_
                  refine regp (ρ' := [(0, .string (S ((lzread r out.length).2.2.1))), (1, .int .i64 ((M : Nat) : Int)), (6, .slice A out.length c), (7, .pointer (some ⟨b4, 0, none⟩)), (77, .int .u64 (((lzread r out.length).1 : Nat) : Int)), (78, .int .u64 0)]) (C := [RunOk Try.prog w6 (Instr.loadAt 57 (.pointer (some ⟨b4, 0, none⟩))) (.int .u64 (((lzread r out.length).1 : Nat) : Int))]) ha [(1, .val (.int .u64 (((lzread r out.length).1 : Nat) : Int)))] (by kernel_rfl) (.cons (ld1 hB_b4 (by kernel_rfl) rfl) .nil) ?_
                  clear ha a; intro a ha
                  refine tn ?_
                  refine wblk ?_
                  refine wloop (fun zz a w10 => ∃ (k : Nat) (o2 : List UInt8) (A : Option Addr) (c : Nat), zz = (lzread r out.length).1 - k ∧ On 96 [(0, .string (S ((lzread r out.length).2.2.1))), (1, .int .i64 ((M : Nat) : Int)), (6, .slice A o2.length c), (7, .pointer (some ⟨b4, 0, none⟩)), (77, .int .u64 (((lzread r out.length).1 : Nat) : Int)), (78, .int .u64 ((k : Nat) : Int))] a ∧ Ext w w10 ∧ w10.heap[b4]? = some (.cells #[.int .u64 (((lzread r out.length).1 : Nat) : Int), .int .u64 (((lzread r out.length).2.1 : Nat) : Int)] 59 (0, 0)) ∧ Own w10 w.heap.size 5 1 A o2.length c (bys o2) ∧ (k ≤ (lzread r out.length).1) ∧ (o2.length = out.length + k) ∧ (cpy (lzread r out.length).2.1 ((lzread r out.length).1 - k) o2 = cpy (lzread r out.length).2.1 (lzread r out.length).1 out)) _ ⟨0, out, A, c, rfl, ha.sub (ρ' := [(0, .string (S ((lzread r out.length).2.2.1))), (1, .int .i64 ((M : Nat) : Int)), (6, .slice A out.length c), (7, .pointer (some ⟨b4, 0, none⟩)), (77, .int .u64 (((lzread r out.length).1 : Nat) : Int)), (78, .int .u64 ((0 : Nat) : Int))]) (by kernel_rfl), hx, hB_b4, ho, by omega, by omega, rfl⟩ ?_
                  clear ha hx hB_b4 ho
                  rintro zz a w11 ⟨k, o2, A, c, hzz, ha, hx, hB_b4, ho, hk, ho2, hcp⟩
                  refine wseq ?_
                  refine regp (ρ' := [(0, .string (S ((lzread r out.length).2.2.1))), (1, .int .i64 ((M : Nat) : Int)), (6, .slice A o2.length c), (7, .pointer (some ⟨b4, 0, none⟩)), (77, .int .u64 (((lzread r out.length).1 : Nat) : Int)), (78, .int .u64 ((k : Nat) : Int)), (79, .bool (decide (((k : Nat) : Int) < (((lzread r out.length).1 : Nat) : Int))))]) (C := []) ha [] (by kernel_rfl) .nil ?_
                  clear ha a; intro a ha
                  refine tn ?_
                  refine wseq ?_
                  refine wif ha rfl (fun h79 => ?_) (fun h79 => ?_)
                  · replace h79 := of_decide_eq_true h79
                    obtain ⟨g, rfl⟩ := own_some ho (by omega)
                    have hfar : (lzread r out.length).2.1 ≤ o2.length := by omega
                    refine wskip ?_
                    refine tn ?_
                    refine wseq ?_
                    refine wblk ?_
                    refine wseq ?_
                    refine regp (ρ' := [(0, .string (S ((lzread r out.length).2.2.1))), (1, .int .i64 ((M : Nat) : Int)), (6, .slice (some ⟨g, 0, none⟩) o2.length c), (7, .pointer (some ⟨b4, 0, none⟩)), (10, .int .u8 (((o2.getD (((((o2.length : Nat) : Int) - (((lzread r out.length).2.1 : Nat) : Int)) : Int).toNat) 0).toNat : Nat) : Int)), (77, .int .u64 (((lzread r out.length).1 : Nat) : Int)), (78, .int .u64 ((k : Nat) : Int))]) (C := [RunOk Try.prog w11 (Instr.loadAt 57 (.pointer (some ⟨b4, 1, none⟩))) (.int .u64 (((lzread r out.length).2.1 : Nat) : Int)), InR .i64 (((lzread r out.length).2.1 : Nat) : Int), InR .i64 (((o2.length : Nat) : Int) - (((lzread r out.length).2.1 : Nat) : Int)), RunOk Try.prog w11 (Instr.indexAt 36 (.slice (some ⟨g, 0, none⟩) o2.length c) (.int .i64 (((o2.length : Nat) : Int) - (((lzread r out.length).2.1 : Nat) : Int)))) (.pointer (some ⟨g, ((((o2.length : Nat) : Int) - (((lzread r out.length).2.1 : Nat) : Int)) : Int).toNat * 1, none⟩)), RunOk Try.prog w11 (Instr.loadAt 5 (.pointer (some ⟨g, ((((o2.length : Nat) : Int) - (((lzread r out.length).2.1 : Nat) : Int)) : Int).toNat * 1, none⟩))) (.int .u8 (((o2.getD (((((o2.length : Nat) : Int) - (((lzread r out.length).2.1 : Nat) : Int)) : Int).toNat) 0).toNat : Nat) : Int))]) ha [(4, .val (.int .u64 (((lzread r out.length).2.1 : Nat) : Int))), (7, .val (.pointer (some ⟨g, ((((o2.length : Nat) : Int) - (((lzread r out.length).2.1 : Nat) : Int)) : Int).toNat * 1, none⟩))), (8, .val (.int .u8 (((o2.getD (((((o2.length : Nat) : Int) - (((lzread r out.length).2.1 : Nat) : Int)) : Int).toNat) 0).toNat : Nat) : Int)))] (by kernel_rfl) (.cons (ld1 hB_b4 (by kernel_rfl) rfl) (.cons (by unfold InR; omega) (.cons (by unfold InR; omega) (.cons (idxOwnI (e := 5) (by kernel_rfl) (by kernel_rfl) ⟨by omega, by omega⟩) (.cons (ldOwn (by kernel_rfl) ho (bys_get _ _ (by omega))) .nil))))) ?_
                    clear ha a; intro a ha
                    rw [show ((((o2.getD (((((o2.length : Nat) : Int) - (((lzread r out.length).2.1 : Nat) : Int)) : Int).toNat) 0).toNat : Nat) : Int) : Int) = (((o2.getD (o2.length - (lzread r out.length).2.1) 0).toNat : Nat) : Int) from by rw [Int.toNat_sub]] at ha
                    refine tn ?_
                    refine reg_list ?_
                    refine segp (ρ' := [(0, .string (S ((lzread r out.length).2.2.1))), (1, .int .i64 ((M : Nat) : Int)), (7, .pointer (some ⟨b4, 0, none⟩)), (77, .int .u64 (((lzread r out.length).1 : Nat) : Int)), (78, .int .u64 ((k : Nat) : Int)), (89, .slice (some ⟨g, 0, none⟩) o2.length c), (90, .int .u8 (((o2.getD (o2.length - (lzread r out.length).2.1) 0).toNat : Nat) : Int))]) (C := []) ha 2 [] rfl (by kernel_rfl) .nil ?_
                    clear ha a; intro a ha
                    refine lnewS ha rfl (by kernel_rfl) #[.int .u8 (((o2.getD (o2.length - (lzread r out.length).2.1) 0).toNat : Nat) : Int)] 5 1 (by kernel_rfl) ?_
                    clear ha a; intro b12 w13 he hb_b12 hB_b12 a ha
                    have hne_b4_b12 : b4 ≠ b12 := ne_new hB_b4 hb_b12
                    have hno_ho_b12 : (Value.slice (some ⟨g, 0, none⟩) o2.length c).ownBlock ≠ some b12 := own_ne ho hb_b12
                    replace hB_b4 := keepB he hB_b4
                    replace ho := ownE he ho
                    replace hb_b12 := Nat.le_trans hx.size hb_b12
                    replace hx := hx.tr he
                    clear he
                    refine lapp (by_ := 1) ha rfl (by kernel_rfl) rfl (by kernel_rfl) rfl ho rfl [.int .u8 (((o2.getD (o2.length - (lzread r out.length).2.1) 0).toNat : Nat) : Int)] rfl (news_blk hB_b12) rfl (by omega) (by omega) hx.size ?_
                    clear ha a; intro A14 c15 w16 ho3 hg a ha
                    clear hB_b12 hb_b12
                    replace hB_b4 := keepG hg ho rfl hB_b4
                    replace hx := extG hx hg ho (Nat.le_refl _)
                    clear hg ho
                    refine segp (ρ' := [(0, .string (S ((lzread r out.length).2.2.1))), (1, .int .i64 ((M : Nat) : Int)), (6, .slice A14 (o2.length + 1) c15), (7, .pointer (some ⟨b4, 0, none⟩)), (77, .int .u64 (((lzread r out.length).1 : Nat) : Int)), (78, .int .u64 ((k : Nat) : Int))]) (C := []) ha 1 [] rfl (by kernel_rfl) .nil ?_
                    clear ha a; intro a ha
                    refine lnil ?_
                    replace ha := ha.sub (ρ' := [(0, .string (S ((lzread r out.length).2.2.1))), (1, .int .i64 ((M : Nat) : Int)), (6, .slice A14 (o2.length + 1) c15), (7, .pointer (some ⟨b4, 0, none⟩)), (77, .int .u64 (((lzread r out.length).1 : Nat) : Int)), (78, .int .u64 ((k : Nat) : Int))]) (by kernel_rfl)
                    rw [show ((bys o2 ++ [.int .u8 (((o2.getD (o2.length - (lzread r out.length).2.1) 0).toNat : Nat) : Int)]) : List Value) = bys (o2 ++ [o2.getD (o2.length - (lzread r out.length).2.1) 0]) from bys_push _ _] at ho3
                    rw [show ((o2.length + 1) : Nat) = (o2 ++ [o2.getD (o2.length - (lzread r out.length).2.1) 0]).length from by simp] at ha ho3
                    refine bn ?_
                    refine tn ?_
                    refine regp (ρ' := [(0, .string (S ((lzread r out.length).2.2.1))), (1, .int .i64 ((M : Nat) : Int)), (6, .slice A14 ((o2 ++ [o2.getD (o2.length - (lzread r out.length).2.1) 0]).length) c15), (7, .pointer (some ⟨b4, 0, none⟩)), (77, .int .u64 (((lzread r out.length).1 : Nat) : Int)), (78, .int .u64 ((k + 1 : Nat) : Int))]) (C := [InR .u64 ((k + 1 : Nat) : Int)]) ha [] (by kernel_rfl) (.cons (by unfold InR; omega) .nil) ?_
                    clear ha a; intro a ha
                    exact tn ⟨(lzread r out.length).1 - ((k + 1)), by omega, (k + 1), (o2 ++ [o2.getD (o2.length - (lzread r out.length).2.1) 0]), A14, c15, rfl, ha.sub (ρ' := [(0, .string (S ((lzread r out.length).2.2.1))), (1, .int .i64 ((M : Nat) : Int)), (6, .slice A14 ((o2 ++ [o2.getD (o2.length - (lzread r out.length).2.1) 0]).length) c15), (7, .pointer (some ⟨b4, 0, none⟩)), (77, .int .u64 (((lzread r out.length).1 : Nat) : Int)), (78, .int .u64 (((k + 1) : Nat) : Int))]) (by kernel_rfl), hx, hB_b4, ho3, by omega, by simp; omega, by rw [← hcp, show (lzread r out.length).1 - k = ((lzread r out.length).1 - (k + 1)) + 1 by omega, cpy]⟩
                  · replace h79 := of_decide_eq_false h79
                    obtain rfl : k = (lzread r out.length).1 := by omega
                    simp only [Nat.sub_self, cpy] at hcp
                    rw [← hcp] at hgo
                    refine wexit ?_
                    refine (te (te (be ?_)))
                    refine bn ?_
                    exact tn ⟨f, by omega, f, ((lzread r out.length).2.2.1), o2, A, c, rfl, ha.sub (ρ' := [(0, .string (S ((lzread r out.length).2.2.1))), (1, .int .i64 ((M : Nat) : Int)), (6, .slice A o2.length c)]) (by kernel_rfl), hx, ho, by first | omega | (simp only [List.length_drop]; omega), by omega, by first | omega | (simp only [List.length_drop]; omega), hgo⟩
          · simp only [Bool.not_eq_true', Bool.not_eq_false', Bool.and_eq_true, Bool.or_eq_true, Bool.and_eq_false_iff, Bool.or_eq_false_iff, decide_eq_true_eq, decide_eq_false_iff_not, Bool.not_eq_true, Decidable.not_not] at h42
            have hres : lzUnpack s (M : Int) = (out, 0) := by rw [hgo, lzun, if_pos h42]
            refine wexit ?_
            refine (te (te (be ?_)))
            refine tn ?_
            refine wseq ?_
            refine regp (ρ' := [(4, .string (S out)), (5, .int .i64 0)]) (C := [RunOk Try.prog w2 (convert 36 9 (.slice A out.length c)) (.string (S out))]) ha [(1, .val (.string (S out)))] (by kernel_rfl) (.cons (cvOwn (by kernel_rfl) (by kernel_rfl) (by kernel_rfl) ho) .nil) ?_
            clear ha a; intro a ha
            refine tn ?_
            refine wret ?_
            refine fin ha (.tmp rfl (.tmp rfl .nil)) ?_
            exact ⟨by rw [hres]; rfl, hx⟩
end Go.Kn
