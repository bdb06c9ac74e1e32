import Derived.Test.YtihmegmambmljaaDoorOd04
import Derived.Test.YtihmegmambmljaaDoorOd10
import Derived.Test.YtihmegmambmljaaDoorRows
import Derived.Test.YtihmegmambmljaaDoorChecked
import Derived.Test.YtihmegmambmljaaDoorOd01
import Derived.Test.YtihmegmambmljaaDoorOd03
import Derived.Test.YtihmegmambmljaaDoorOd02
import Derived.ProofKit
import Derived.LaidMore
import Derived.OpenShut
import Derived.Stop.Joined
import Derived.WalkKit
import Derived.ShutString
import Derived.ChangeOld
import Derived.Below
import Derived.SizedLaws
import Derived.Test.YtihmegmambmljaaDoorTie
import Derived.Test.YtihmegmambmljaaDoorCards
import Derived.SevenTiedAt
section
set_option linter.unusedSimpArgs false
set_option linter.unusedVariables false
set_option maxRecDepth 100000
namespace Go.Kn
open Go.Proofs
theorem rguess_ok (s : List UInt8) (w : World) (h0 : 0 < s.length) (hs : s.length ≤ 1000000) :
    Fn Tryd.prog 58 #[.string (S s)] w (fun x w' => ∃ Ae ce Ap cp, x = .agg ⟨objC (gGuess s) Ae ce Ap cp⟩ ∧ Own w' w.heap.size 89 34 Ae (gGuess s).Entries.length ce ((gGuess s).Entries.flatMap encEnt) ∧ Own w' w.heap.size 24 32 Ap (gGuess s).Parents.length cp ((gGuess s).Parents.flatMap idc) ∧ Ext w w') := by
  have hx : Ext w w := Ext.rfl' w
  refine enter (N := 139) (args := [.string (S s)]) Tryd.func58 rfl rfl rfl ?_
  intro a ha
  simp only [argEnv, Nat.zero_add, Nat.reduceAdd] at ha
  refine wseq ?_
  refine reg_list ?_
  refine lnew ha rfl (by kernel_rfl) ⟨.int .i64 0 :: (.string (S []) :: (.slice none 0 0 :: ((idc idZ) ++ (.slice none 0 0 :: (.int .u32 0 :: (.string (S []) :: ((idc idZ) ++ (.int .i64 0 :: ([.string (S [])])))))))))⟩ 54 (by kernel_rfl) ?_
  clear ha a; intro bz w1 he hb_bz hB_bz a ha
  replace hb_bz := Nat.le_trans hx.size hb_bz
  replace hx := hx.tr he
  clear he
  refine lnil ?_
  replace ha := ha.sub (ρ' := [(0, .string (S s)), (2, .pointer (some ⟨bz, 0, none⟩))]) (by kernel_rfl)
  have hsd : (s.drop 1).length = s.length - 1 := List.length_drop
  have hcb := UInt8.toNat_lt (s.getD 0 0)
  refine tn ?_
  refine wseq ?_
  refine reg_list ?_
  refine segp (ρ' := [(0, .string (S s)), (2, .pointer (some ⟨bz, 0, none⟩)), (18, .agg ⟨.int .i64 (((s.getD 0 0).toNat : Nat) : Int) :: (.string (S []) :: (.slice none 0 0 :: ((idc idZ) ++ (.slice none 0 0 :: (.int .u32 0 :: (.string (S []) :: ((idc idZ) ++ (.int .i64 0 :: ([.string (S [])])))))))))⟩)]) (C := [0 ≤ (0 : Int) ∧ 0 < (s.length : Int), InR .i64 (((s.getD 0 0).toNat : Nat) : Int)]) ha 4 [] rfl (by kernel_rfl) (.cons ⟨by omega, by omega⟩ (.cons (by unfold InR; omega) .nil)) ?_
  clear ha a; intro a ha
  refine lnew ha rfl (by kernel_rfl) ⟨.int .i64 0 :: (.string (S []) :: (.slice none 0 0 :: ((idc idZ) ++ (.slice none 0 0 :: (.int .u32 0 :: (.string (S []) :: ((idc idZ) ++ (.int .i64 0 :: ([.string (S [])])))))))))⟩ 54 (by kernel_rfl) ?_
  clear ha a; intro bo w2 he hb_bo hB_bo a ha
  have hne_bz_bo : bz ≠ bo := ne_new hB_bz hb_bo
  replace hB_bz := keepB he hB_bz
  replace hb_bo := Nat.le_trans hx.size hb_bo
  replace hx := hx.tr he
  clear he
  refine lstore (off := 0) ha rfl rfl (by kernel_rfl) hB_bo ⟨.int .i64 (((s.getD 0 0).toNat : Nat) : Int) :: (.string (S []) :: (.slice none 0 0 :: ((idc idZ) ++ (.slice none 0 0 :: (.int .u32 0 :: (.string (S []) :: ((idc idZ) ++ (.int .i64 0 :: ([.string (S [])])))))))))⟩ rfl (by kernel_rfl) (by kernel_rfl) ?_
  clear ha a; intro w3 hc a ha
  replace hB_bz := hc.keep hB_bz (by first | assumption | exact Ne.symm (by assumption))
  replace hx := hc.ext hx hb_bo
  replace hB_bo := hc.at_; clear hc
  refine lnil ?_
  replace ha := ha.sub (ρ' := [(0, .string (S s)), (2, .pointer (some ⟨bz, 0, none⟩)), (3, .pointer (some ⟨bo, 0, none⟩))]) (by kernel_rfl)
  refine tn ?_
  refine wseq ?_
  refine reg hmix (ρ' := [(2, .pointer (some ⟨bz, 0, none⟩)), (3, .pointer (some ⟨bo, 0, none⟩)), (4, .string (S ((rTake (s.drop 1)).1))), (5, .int .i64 (((rTake (s.drop 1)).2 : Nat) : Int))]) (C := [0 ≤ (1 : Int) ∧ 1 ≤ (s.length : Int), CallOk Tryd.prog w3 86 #[.string (S (s.drop 1))] (.tuple #[.string (S ((rTake (s.drop 1)).1)), .int .i64 (((rTake (s.drop 1)).2 : Nat) : Int)])]) ha [(2, .val (.tuple #[.string (S ((rTake (s.drop 1)).1)), .int .i64 (((rTake (s.drop 1)).2 : Nat) : Int)]))] (by kernel_rfl) (.cons ⟨by omega, by omega⟩ (.cons (fun w _ => rtake_ok _ w (by first | omega | (simp only [List.length_drop, List.length_take]; omega))) .nil)) ?_
  clear ha a; intro a w4 ha he
  replace hx := hx.tr he
  replace hB_bz := keepB he hB_bz
  replace hB_bo := keepB he hB_bo
  clear he
  have htk := rTake_le (s.drop 1)
  refine tn ?_
  refine wseq ?_
  refine wseq ?_
  refine regp (ρ' := [(2, .pointer (some ⟨bz, 0, none⟩)), (3, .pointer (some ⟨bo, 0, none⟩)), (4, .string (S ((rTake (s.drop 1)).1))), (26, .bool (decide ((((rTake (s.drop 1)).2 : Nat) : Int) = 0)))]) (C := []) ha [] (by kernel_rfl) .nil ?_
  clear ha a; intro a ha
  refine tn ?_
  refine wif ha rfl (fun h26 => ?_) (fun h26 => ?_)
  · replace h26 := of_decide_eq_true h26
    have hg : gGuess s = obj0 := by unfold gGuess; rw [if_pos (by omega)]
    refine wseq ?_
    refine reg_list ?_
    refine segp (ρ' := [(2, .pointer (some ⟨bz, 0, none⟩)), (27, .agg ⟨.int .i64 0 :: (.string (S []) :: (.slice none 0 0 :: ((idc idZ) ++ (.slice none 0 0 :: (.int .u32 0 :: (.string (S []) :: ((idc idZ) ++ (.int .i64 0 :: ([.string (S [])])))))))))⟩)]) (C := []) ha 1 [] rfl (by kernel_rfl) .nil ?_
    clear ha a; intro a ha
    refine lstore (off := 0) ha rfl rfl (by kernel_rfl) hB_bz ⟨.int .i64 0 :: (.string (S []) :: (.slice none 0 0 :: ((idc idZ) ++ (.slice none 0 0 :: (.int .u32 0 :: (.string (S []) :: ((idc idZ) ++ (.int .i64 0 :: ([.string (S [])])))))))))⟩ rfl (by kernel_rfl) (by kernel_rfl) ?_
    clear ha a; intro w5 hc a ha
    replace hB_bo := hc.keep hB_bo (by first | assumption | exact Ne.symm (by assumption))
    replace hx := hc.ext hx hb_bz
    replace hB_bz := hc.at_; clear hc
    refine lnil ?_
    replace ha := ha.sub (ρ' := [(2, .pointer (some ⟨bz, 0, none⟩))]) (by kernel_rfl)
    refine tn ?_
    refine wret ?_
    refine (tr ?_)
    refine fin ha (.cell rfl (ldVN (n := 72) (vs := ⟨.int .i64 0 :: (.string (S []) :: (.slice none 0 0 :: ((idc idZ) ++ (.slice none 0 0 :: (.int .u32 0 :: (.string (S []) :: ((idc idZ) ++ (.int .i64 0 :: ([.string (S [])])))))))))⟩) hB_bz (by kernel_rfl) (by kernel_rfl) ⟨Nat.le_of_ble_eq_true (by kernel_rfl), (by kernel_rfl)⟩) .nil) ?_
    exact ⟨none, 0, none, 0, by rw [hg]; rfl, by rw [hg]; exact own_nil _ _ _ _, by rw [hg]; exact own_nil _ _ _ _, hx⟩
  · replace h26 := of_decide_eq_false h26
    have hq : ¬ (rTake (s.drop 1)).2 = 0 := by omega
    refine wskip ?_
    refine tn ?_
    refine wseq ?_
    refine wseq ?_
    refine regp (ρ' := [(2, .pointer (some ⟨bz, 0, none⟩)), (3, .pointer (some ⟨bo, 0, none⟩)), (4, .string (S ((rTake (s.drop 1)).1))), (29, .int .i64 (((s.getD 0 0).toNat : Nat) : Int))]) (C := [RunOk Tryd.prog w4 (Instr.loadAt 3 (.pointer (some ⟨bo, 0, none⟩))) (.int .i64 (((s.getD 0 0).toNat : Nat) : Int))]) ha [(1, .val (.int .i64 (((s.getD 0 0).toNat : Nat) : Int)))] (by kernel_rfl) (.cons (ld1 hB_bo (by kernel_rfl) (by kernel_rfl)) .nil) ?_
    clear ha a; intro a ha
    refine tn ?_
    refine wblk ?_
    refine wseq ?_
    refine regp (ρ' := [(2, .pointer (some ⟨bz, 0, none⟩)), (3, .pointer (some ⟨bo, 0, none⟩)), (4, .string (S ((rTake (s.drop 1)).1))), (29, .int .i64 (((s.getD 0 0).toNat : Nat) : Int)), (30, .bool (decide ((((s.getD 0 0).toNat : Nat) : Int) = 1)))]) (C := []) ha [] (by kernel_rfl) .nil ?_
    clear ha a; intro a ha
    refine tn ?_
    refine wif ha rfl (fun h30 => ?_) (fun h30 => ?_)
    · replace h30 := of_decide_eq_true h30
      have hg : gGuess s = ⟨((s.getD 0 0).toNat : Int), (rTake (s.drop 1)).1, [], idZ, [], 0, [], idZ, 0, []⟩ := by unfold gGuess gBody; rw [if_neg hq, if_pos h30]
      refine reg_list ?_
      refine segp (ρ' := [(2, .pointer (some ⟨bz, 0, none⟩)), (3, .pointer (some ⟨bo, 0, none⟩)), (32, .string (S ((rTake (s.drop 1)).1))), (33, .pointer (some ⟨bo, 1, none⟩))]) (C := []) ha 2 [] rfl (by kernel_rfl) .nil ?_
      clear ha a; intro a ha
      refine lstore (off := 1) ha rfl rfl (by kernel_rfl) hB_bo ⟨.int .i64 (((s.getD 0 0).toNat : Nat) : Int) :: (.string (S ((rTake (s.drop 1)).1)) :: (.slice none 0 0 :: ((idc idZ) ++ (.slice none 0 0 :: (.int .u32 0 :: (.string (S []) :: ((idc idZ) ++ (.int .i64 0 :: ([.string (S [])])))))))))⟩ rfl (by kernel_rfl) (by kernel_rfl) ?_
      clear ha a; intro w6 hc a ha
      replace hB_bz := hc.keep hB_bz (by first | assumption | exact Ne.symm (by assumption))
      replace hx := hc.ext hx hb_bo
      replace hB_bo := hc.at_; clear hc
      refine lnil ?_
      replace ha := ha.sub (ρ' := [(2, .pointer (some ⟨bz, 0, none⟩)), (3, .pointer (some ⟨bo, 0, none⟩))]) (by kernel_rfl)
      refine bn ?_
      refine tn ?_
      refine wseq ?_
      refine reg_list ?_
      refine segp (ρ' := [(2, .pointer (some ⟨bz, 0, none⟩)), (138, .agg ⟨.int .i64 (((s.getD 0 0).toNat : Nat) : Int) :: (.string (S ((rTake (s.drop 1)).1)) :: (.slice none 0 0 :: ((idc idZ) ++ (.slice none 0 0 :: (.int .u32 0 :: (.string (S []) :: ((idc idZ) ++ (.int .i64 0 :: ([.string (S [])])))))))))⟩)]) (C := [RunOk Tryd.prog w6 (Instr.loadAt 54 (.pointer (some ⟨bo, 0, none⟩))) (.agg ⟨.int .i64 (((s.getD 0 0).toNat : Nat) : Int) :: (.string (S ((rTake (s.drop 1)).1)) :: (.slice none 0 0 :: ((idc idZ) ++ (.slice none 0 0 :: (.int .u32 0 :: (.string (S []) :: ((idc idZ) ++ (.int .i64 0 :: ([.string (S [])])))))))))⟩)]) ha 1 [(0, .val (.agg ⟨.int .i64 (((s.getD 0 0).toNat : Nat) : Int) :: (.string (S ((rTake (s.drop 1)).1)) :: (.slice none 0 0 :: ((idc idZ) ++ (.slice none 0 0 :: (.int .u32 0 :: (.string (S []) :: ((idc idZ) ++ (.int .i64 0 :: ([.string (S [])])))))))))⟩))] rfl (by kernel_rfl) (.cons (ldN (n := 72) hB_bo (by kernel_rfl) (by kernel_rfl) ⟨Nat.le_of_ble_eq_true (by kernel_rfl), (by kernel_rfl)⟩) .nil) ?_
      clear ha a; intro a ha
      refine lstore (off := 0) ha rfl rfl (by kernel_rfl) hB_bz ⟨.int .i64 (((s.getD 0 0).toNat : Nat) : Int) :: (.string (S ((rTake (s.drop 1)).1)) :: (.slice none 0 0 :: ((idc idZ) ++ (.slice none 0 0 :: (.int .u32 0 :: (.string (S []) :: ((idc idZ) ++ (.int .i64 0 :: ([.string (S [])])))))))))⟩ rfl (by kernel_rfl) (by kernel_rfl) ?_
      clear ha a; intro w7 hc a ha
      replace hB_bo := hc.keep hB_bo (by first | assumption | exact Ne.symm (by assumption))
      replace hx := hc.ext hx hb_bz
      replace hB_bz := hc.at_; clear hc
      refine lnil ?_
      replace ha := ha.sub (ρ' := [(2, .pointer (some ⟨bz, 0, none⟩))]) (by kernel_rfl)
      refine tn ?_
      refine wret ?_
      refine fin ha (.cell rfl (ldVN (n := 72) (vs := ⟨.int .i64 (((s.getD 0 0).toNat : Nat) : Int) :: (.string (S ((rTake (s.drop 1)).1)) :: (.slice none 0 0 :: ((idc idZ) ++ (.slice none 0 0 :: (.int .u32 0 :: (.string (S []) :: ((idc idZ) ++ (.int .i64 0 :: ([.string (S [])])))))))))⟩) hB_bz (by kernel_rfl) (by kernel_rfl) ⟨Nat.le_of_ble_eq_true (by kernel_rfl), (by kernel_rfl)⟩) .nil) ?_
      exact ⟨none, 0, none, 0, by rw [hg]; rfl, by rw [hg]; exact own_nil _ _ _ _, by rw [hg]; exact own_nil _ _ _ _, hx⟩
    · replace h30 := of_decide_eq_false h30
      refine wseq ?_
      refine regp (ρ' := [(2, .pointer (some ⟨bz, 0, none⟩)), (3, .pointer (some ⟨bo, 0, none⟩)), (4, .string (S ((rTake (s.drop 1)).1))), (29, .int .i64 (((s.getD 0 0).toNat : Nat) : Int)), (34, .bool (decide ((((s.getD 0 0).toNat : Nat) : Int) = 2)))]) (C := []) ha [] (by kernel_rfl) .nil ?_
      clear ha a; intro a ha
      refine tn ?_
      refine wif ha rfl (fun h34 => ?_) (fun h34 => ?_)
      · replace h34 := of_decide_eq_true h34
        have hg : gGuess s = ⟨((s.getD 0 0).toNat : Int), [], gEnts 65 (rTake (s.drop 1)).1, idZ, [], 0, [], idZ, 0, []⟩ := by unfold gGuess gBody; rw [if_neg hq, if_neg h30, if_pos h34]
        refine wseq ?_
        refine regp (ρ' := [(2, .pointer (some ⟨bz, 0, none⟩)), (3, .pointer (some ⟨bo, 0, none⟩)), (4, .string (S ((rTake (s.drop 1)).1))), (6, .int .i64 0)]) (C := []) ha [] (by kernel_rfl) .nil ?_
        clear ha a; intro a ha
        refine tn ?_
        refine wblk ?_
        refine wloop (fun zz a w8 => ∃ (n : Nat) (t : List UInt8) (l : List EntR) (A : Option Addr) (c : Nat), zz = 65 - n ∧ On 139 [(2, .pointer (some ⟨bz, 0, none⟩)), (3, .pointer (some ⟨bo, 0, none⟩)), (4, .string (S t)), (6, .int .i64 ((n : Nat) : Int))] a ∧ Ext w w8 ∧ w8.heap[bz]? = some (.cells ⟨.int .i64 0 :: (.string (S []) :: (.slice none 0 0 :: ((idc idZ) ++ (.slice none 0 0 :: (.int .u32 0 :: (.string (S []) :: ((idc idZ) ++ (.int .i64 0 :: ([.string (S [])])))))))))⟩ 54 (0, 0)) ∧ w8.heap[bo]? = some (.cells ⟨.int .i64 ((s.getD 0 0).toNat : Int) :: (.string (S []) :: (.slice A l.length c :: ((idc idZ) ++ (.slice none 0 0 :: (.int .u32 0 :: (.string (S []) :: ((idc idZ) ++ (.int .i64 0 :: ([.string (S [])])))))))))⟩ 54 (0, 0)) ∧ Own w8 w.heap.size 89 34 A l.length c (l.flatMap encEnt) ∧ (n ≤ 65) ∧ (gEnts 65 (rTake (s.drop 1)).1 = l ++ gEnts (65 - n) t) ∧ (t.length ≤ 1000000) ∧ (l.length ≤ n)) _ ⟨0, (rTake (s.drop 1)).1, ([] : List EntR), none, 0, rfl, ha.sub (ρ' := [(2, .pointer (some ⟨bz, 0, none⟩)), (3, .pointer (some ⟨bo, 0, none⟩)), (4, .string (S ((rTake (s.drop 1)).1))), (6, .int .i64 ((0 : Nat) : Int))]) (by kernel_rfl), hx, hB_bz, hB_bo, own_nil _ _ _ _, by omega, rfl, by omega, Nat.le_refl _⟩ ?_
        clear ha hx hB_bz hB_bo
        rintro zz a w9 ⟨n, t, l, A, c, hzz, ha, hx, hB_bz, hB_bo, ho, hn, hinv, htl, hll⟩
        refine wseq ?_
        refine wseq ?_
        refine regp (ρ' := [(2, .pointer (some ⟨bz, 0, none⟩)), (3, .pointer (some ⟨bo, 0, none⟩)), (4, .string (S t)), (6, .int .i64 ((n : Nat) : Int)), (41, .bool ((decide (((n : Nat) : Int) < 65)) && (!decide ((t : List UInt8) = ([] : List UInt8)))))]) (C := []) ha [] (by kernel_rfl) .nil ?_
        clear ha a; intro a ha
        refine tn ?_
        refine wif ha rfl (fun h41 => ?_) (fun h41 => ?_)
        · simp only [Bool.not_eq_true', Bool.not_eq_false', Bool.and_eq_true, Bool.or_eq_true, Bool.and_eq_false_iff, Bool.or_eq_false_iff, decide_eq_true_eq, decide_eq_false_iff_not, Bool.not_eq_true, Decidable.not_not] at h41
          have ht0 : 0 < t.length := List.length_pos_iff.2 h41.2
          have htt := rTake_le (t.drop 1)
          rw [List.length_drop] at htt
          have hcb2 := UInt8.toNat_lt (t.getD 0 0)
          have hinv2 : gEnts 65 (rTake (s.drop 1)).1 = (l ++ [(gEnt t).1]) ++ gEnts (65 - (n + 1)) (gEnt t).2 := by
            rw [hinv]
            obtain ⟨g, hg2⟩ : ∃ g, 65 - n = g + 1 := ⟨65 - (n + 1), by omega⟩
            rw [hg2, show 65 - (n + 1) = g by omega, gEnts, if_neg h41.2]
            simp
          refine wskip ?_
          refine tn ?_
          refine wseq ?_
          refine wblk ?_
          refine wseq ?_
          refine reg hmix (ρ' := [(2, .pointer (some ⟨bz, 0, none⟩)), (3, .pointer (some ⟨bo, 0, none⟩)), (4, .string (S t)), (6, .int .i64 ((n : Nat) : Int)), (7, .string (S ((rTake (t.drop 1)).1))), (8, .int .i64 (((rTake (t.drop 1)).2 : Nat) : Int))]) (C := [0 ≤ (1 : Int) ∧ 1 ≤ (t.length : Int), CallOk Tryd.prog w9 86 #[.string (S (t.drop 1))] (.tuple #[.string (S ((rTake (t.drop 1)).1)), .int .i64 (((rTake (t.drop 1)).2 : Nat) : Int)])]) ha [(2, .val (.tuple #[.string (S ((rTake (t.drop 1)).1)), .int .i64 (((rTake (t.drop 1)).2 : Nat) : Int)]))] (by kernel_rfl) (.cons ⟨by omega, by omega⟩ (.cons (fun w _ => rtake_ok _ w (by first | omega | (simp only [List.length_drop, List.length_take]; omega))) .nil)) ?_
          clear ha a; intro a w10 ha he
          replace hx := hx.tr he
          replace hB_bz := keepB he hB_bz
          replace hB_bo := keepB he hB_bo
          replace ho := ownE he ho
          clear he
          refine tn ?_
          refine wseq ?_
          refine reg hmix (ρ' := [(2, .pointer (some ⟨bz, 0, none⟩)), (3, .pointer (some ⟨bo, 0, none⟩)), (4, .string (S t)), (6, .int .i64 ((n : Nat) : Int)), (7, .string (S ((rTake (t.drop 1)).1))), (9, .string (S (t.drop (1 + ((rTake (t.drop 1)).2)))))]) (C := [InR .i64 ((1 + ((rTake (t.drop 1)).2) : Nat) : Int), CallOk Tryd.prog w10 87 #[.string (S t), .int .i64 ((1 + ((rTake (t.drop 1)).2) : Nat) : Int)] (.string (S (t.drop (1 + ((rTake (t.drop 1)).2)))))]) ha [(3, .val (.string (S (t.drop (1 + ((rTake (t.drop 1)).2))))))] (by kernel_rfl) (.cons (by unfold InR; omega) (.cons (fun w _ => behind_ok _ (1 + ((rTake (t.drop 1)).2)) w) .nil)) ?_
          clear ha a; intro a w11 ha he
          replace hx := hx.tr he
          replace hB_bz := keepB he hB_bz
          replace hB_bo := keepB he hB_bo
          replace ho := ownE he ho
          clear he
          refine tn ?_
          refine wseq ?_
          refine regM hmix ha [(1, .val (.slice A l.length c)), (7, .val (.agg ⟨idc (idOf (t.drop (1 + ((rTake (t.drop 1)).2))))⟩))] [⟨9, .des, [0], []⟩] [⟨10, .des, [9], [(63, 9)]⟩, ⟨12, .des, [9, 10], [(64, 10)]⟩] [] (ρ' := [(2, .pointer (some ⟨bz, 0, none⟩)), (3, .pointer (some ⟨bo, 0, none⟩)), (6, .int .i64 ((n : Nat) : Int)), (9, .string (S (t.drop (1 + ((rTake (t.drop 1)).2)))))]) [(9, fun u w' => ∃ (be : Nat), u = .slice (some ⟨be, 0, none⟩) 1 1 ∧ w11.heap.size ≤ be ∧ w'.heap[be]? = some (.cells ⟨.string (S ((rTake (t.drop 1)).1)) :: (.int .i64 (((t.getD 0 0).toNat : Nat) : Int) :: (idc (idOf (t.drop (1 + ((rTake (t.drop 1)).2))))))⟩ 89 (0, 0))), (10, fun u w' => ∃ (A12 : Option Addr) (c13 : Nat), u = .slice A12 ((l ++ [(gEnt t).1]).length) c13 ∧ Own w' w.heap.size 89 34 A12 ((l ++ [(gEnt t).1]).length) c13 ((l ++ [(gEnt t).1]).flatMap encEnt))] [fun w' => Ext w11 w', fun w' => w11.heap.size ≤ w'.heap.size ∧ Ext w w' ∧ w'.heap[bz]? = some (.cells ⟨.int .i64 0 :: (.string (S []) :: (.slice none 0 0 :: ((idc idZ) ++ (.slice none 0 0 :: (.int .u32 0 :: (.string (S []) :: ((idc idZ) ++ (.int .i64 0 :: ([.string (S [])])))))))))⟩ 54 (0, 0)) ∧ w'.heap[bo]? = some (.cells ⟨.int .i64 ((s.getD 0 0).toNat : Int) :: (.string (S []) :: (.slice A l.length c :: ((idc idZ) ++ (.slice none 0 0 :: (.int .u32 0 :: (.string (S []) :: ((idc idZ) ++ (.int .i64 0 :: ([.string (S [])])))))))))⟩ 54 (0, 0)), fun w' => ∃ (A12 : Option Addr) (c13 : Nat), w11.heap.size ≤ w'.heap.size ∧ Ext w w' ∧ Own w' w.heap.size 89 34 A12 ((l ++ [(gEnt t).1]).length) c13 ((l ++ [(gEnt t).1]).flatMap encEnt) ∧ w'.heap[bz]? = some (.cells ⟨.int .i64 0 :: (.string (S []) :: (.slice none 0 0 :: ((idc idZ) ++ (.slice none 0 0 :: (.int .u32 0 :: (.string (S []) :: ((idc idZ) ++ (.int .i64 0 :: ([.string (S [])])))))))))⟩ 54 (0, 0)) ∧ w'.heap[bo]? = some (.cells ⟨.int .i64 ((s.getD 0 0).toNat : Int) :: (.string (S []) :: (.slice A12 ((l ++ [(gEnt t).1]).length) c13 :: ((idc idZ) ++ (.slice none 0 0 :: (.int .u32 0 :: (.string (S []) :: ((idc idZ) ++ (.int .i64 0 :: ([.string (S [])])))))))))⟩ 54 (0, 0))] [(1, [0], fun w' => [RunOk Tryd.prog w' (Instr.loadAt 50 (.pointer (some ⟨bo, 2, none⟩))) (.slice A l.length c)]), (3, [0], fun w' => [0 ≤ (0 : Int) ∧ 0 < (t.length : Int)]), (4, [0], fun w' => [InR .i64 (((t.getD 0 0).toNat : Nat) : Int)]), (7, [0], fun w' => [CallOk Tryd.prog w' 88 #[.string (S (t.drop (1 + ((rTake (t.drop 1)).2))))] (.agg ⟨idc (idOf (t.drop (1 + ((rTake (t.drop 1)).2))))⟩)])] (by kernel_rfl) (fun w' => by kernel_rfl) (fun w' => by kernel_rfl) (by kernel_rfl) (fun w' h => h) ?_ ?_ ?_ ?_ ?_ ?_
          · refine ⟨fun w1 w2 h e => Ext.tr h e, ?_, ?_, trivial⟩
            · rintro w1 w2 ⟨hsz, hx, hB_bz, hB_bo⟩ he
              exact ⟨Nat.le_trans hsz he.size, hx.tr he, keepB he hB_bz, keepB he hB_bo⟩
            · rintro w1 w2 ⟨A12, c13, hsz, hx, ho2, hB_bz, hB_bo⟩ he
              exact ⟨A12, c13, Nat.le_trans hsz he.size, hx.tr he, ownE he ho2, keepB he hB_bz, keepB he hB_bo⟩
          · refine ⟨?_, ?_, trivial⟩
            · rintro _ w1 w2 ⟨be, rfl, hb_be, hB_be⟩ he
              exact ⟨be, rfl, hb_be, keepB he hB_be⟩
            · rintro _ w1 w2 ⟨A12, c13, rfl, ho2⟩ he
              exact ⟨A12, c13, rfl, ownE he ho2⟩
          · refine ⟨⟨?_, trivial⟩, ⟨?_, trivial⟩, ⟨?_, trivial⟩, ⟨?_, trivial⟩, trivial⟩
            · intro w' hJ
              have he : Ext w11 w' := hJ
              have hsz := he.size
              replace hx := hx.tr he
              replace hB_bz := keepB he hB_bz
              replace hB_bo := keepB he hB_bo
              replace ho := ownE he ho
              clear he
              exact (.cons (ld1 hB_bo (by kernel_rfl) (by kernel_rfl)) .nil)
            · intro w' hJ
              have he : Ext w11 w' := hJ
              have hsz := he.size
              replace hx := hx.tr he
              replace hB_bz := keepB he hB_bz
              replace hB_bo := keepB he hB_bo
              replace ho := ownE he ho
              clear he
              exact (.cons ⟨by omega, by omega⟩ .nil)
            · intro w' hJ
              have he : Ext w11 w' := hJ
              have hsz := he.size
              replace hx := hx.tr he
              replace hB_bz := keepB he hB_bz
              replace hB_bo := keepB he hB_bo
              replace ho := ownE he ho
              clear he
              exact (.cons (by unfold InR; omega) .nil)
            · intro w' hJ
              have he : Ext w11 w' := hJ
              have hsz := he.size
              replace hx := hx.tr he
              replace hB_bz := keepB he hB_bz
              replace hB_bo := keepB he hB_bo
              replace ho := ownE he ho
              clear he
              exact (.cons (fun w _ => idof_ok _ w) .nil)
          · refine ⟨⟨?_, trivial⟩, trivial⟩
            · intro w' hJ
              have he : Ext w11 w' := hJ
              have hsz := he.size
              replace hx := hx.tr he
              replace hB_bz := keepB he hB_bz
              replace hB_bo := keepB he hB_bo
              replace ho := ownE he ho
              clear he
              refine onewS ⟨.string (S ((rTake (t.drop 1)).1)) :: (.int .i64 (((t.getD 0 0).toNat : Nat) : Int) :: (idc (idOf (t.drop (1 + ((rTake (t.drop 1)).2))))))⟩ 89 1 (by kernel_rfl) ?_
              intro be w'' he hb_be hB_be
              exact ⟨⟨be, rfl, Nat.le_trans hsz hb_be, hB_be⟩, he⟩
          · refine ⟨?_, ?_, trivial⟩
            · intro w' hJ u0 hu0
              obtain ⟨be, rfl, hb_be, hB_be⟩ := hu0
              have hB_bzS := hB_bz
              have hB_boS := hB_bo
              have hoS := ho
              have he : Ext w11 w' := hJ
              have hsz := he.size
              replace hx := hx.tr he
              replace hB_bz := keepB he hB_bz
              replace hB_bo := keepB he hB_bo
              replace ho := ownE he ho
              clear he
              refine oapp (m := 1) (c' := 1) (ad := ⟨be, 0, none⟩) (s := .tmp 55) (x := .tmp 63) (t := 50) (by_ := 56) (by kernel_rfl) (by kernel_rfl) (by kernel_rfl) ho (by kernel_rfl) (.string (S ((rTake (t.drop 1)).1)) :: (.int .i64 (((t.getD 0 0).toNat : Nat) : Int) :: (idc (idOf (t.drop (1 + ((rTake (t.drop 1)).2))))))) rfl (news_blk hB_be) rfl (by omega) (by omega) hx.size ?_
              intro A12 c13 w'' ho2' hg
              have h1 : ((l.flatMap encEnt) ++ (.string (S ((rTake (t.drop 1)).1)) :: (.int .i64 (((t.getD 0 0).toNat : Nat) : Int) :: (idc (idOf (t.drop (1 + ((rTake (t.drop 1)).2))))))) : List Value) = ((l ++ [(gEnt t).1]).flatMap encEnt) := by rw [← flat_snoc]; rfl
              have h2 : (l.length + 1 : Nat) = (l ++ [(gEnt t).1]).length := by simp
              rw [h1, h2] at ho2'
              rw [h2]
              exact ⟨⟨A12, c13, rfl, ho2'⟩, ⟨Nat.le_trans hsz hg.size, extG hx hg ho (Nat.le_refl _), keepG hg ho rfl hB_bz, keepG hg ho rfl hB_bo⟩, ⟨fun u hu => by obtain ⟨be, rfl, hb_be, hB_be⟩ := hu; exact ⟨be, rfl, hb_be, keepGn hg hoS hb_be hB_be⟩, trivial⟩⟩
            · intro w' hJ u0 hu0
              obtain ⟨A12, c13, rfl, ho2⟩ := hu0
              have hB_bzS := hB_bz
              have hB_boS := hB_bo
              have hoS := ho
              obtain ⟨hsz, hx, hB_bz, hB_bo⟩ := hJ
              refine ostore (off := 2) (x := .tmp 65) (y := .tmp 64) (t := 50) hB_bo ⟨.int .i64 ((s.getD 0 0).toNat : Int) :: (.string (S []) :: (.slice A12 ((l ++ [(gEnt t).1]).length) c13 :: ((idc idZ) ++ (.slice none 0 0 :: (.int .u32 0 :: (.string (S []) :: ((idc idZ) ++ (.int .i64 0 :: ([.string (S [])])))))))))⟩ (by kernel_rfl) (by kernel_rfl) (by kernel_rfl) ?_
              intro w'' hc
              exact ⟨trivial, ⟨A12, c13, Nat.le_trans hsz hc.size, hc.ext hx hb_bo, ownC hc hB_bo rfl ho2, hc.keep hB_bz (by first | assumption | exact Ne.symm (by assumption)), hc.at_⟩, ⟨fun u hu => by obtain ⟨be, rfl, hb_be, hB_be⟩ := hu; exact ⟨be, rfl, hb_be, hc.keep hB_be (ne_new hB_boS hb_be).symm⟩, fun u hu => by obtain ⟨A12, c13, rfl, ho2⟩ := hu; exact ⟨A12, c13, rfl, ownC hc hB_bo rfl ho2⟩, trivial⟩⟩
          · clear ha a; intro a w14 hJ ha
            clear hx hB_bz hB_bo ho
            obtain ⟨A12, c13, hsz, hx, ho2, hB_bz, hB_bo⟩ := hJ
            clear hsz
            refine tn ?_
            refine reg hmix (ρ' := [(2, .pointer (some ⟨bz, 0, none⟩)), (3, .pointer (some ⟨bo, 0, none⟩)), (4, .string (S ((t.drop (1 + ((rTake (t.drop 1)).2))).drop 32))), (6, .int .i64 ((n : Nat) : Int))]) (C := [CallOk Tryd.prog w14 87 #[.string (S (t.drop (1 + ((rTake (t.drop 1)).2)))), .int .i64 32] (.string (S ((t.drop (1 + ((rTake (t.drop 1)).2))).drop 32)))]) ha [(1, .val (.string (S ((t.drop (1 + ((rTake (t.drop 1)).2))).drop 32))))] (by kernel_rfl) (.cons (fun w _ => behind_ok _ 32 w) .nil) ?_
            clear ha a; intro a w15 ha he
            replace hx := hx.tr he
            replace hB_bz := keepB he hB_bz
            replace hB_bo := keepB he hB_bo
            replace ho2 := ownE he ho2
            clear he
            refine bn ?_
            refine tn ?_
            refine regp (ρ' := [(2, .pointer (some ⟨bz, 0, none⟩)), (3, .pointer (some ⟨bo, 0, none⟩)), (4, .string (S ((t.drop (1 + ((rTake (t.drop 1)).2))).drop 32))), (6, .int .i64 ((n + 1 : Nat) : Int))]) (C := [InR .i64 ((n + 1 : Nat) : Int)]) ha [] (by kernel_rfl) (.cons (by unfold InR; omega) .nil) ?_
            clear ha a; intro a ha
            exact tn ⟨65 - ((n + 1)), by omega, (n + 1), ((t.drop (1 + ((rTake (t.drop 1)).2))).drop 32), (l ++ [(gEnt t).1]), A12, c13, rfl, ha.sub (ρ' := [(2, .pointer (some ⟨bz, 0, none⟩)), (3, .pointer (some ⟨bo, 0, none⟩)), (4, .string (S ((t.drop (1 + ((rTake (t.drop 1)).2))).drop 32))), (6, .int .i64 (((n + 1) : Nat) : Int))]) (by kernel_rfl), hx, hB_bz, hB_bo, ho2, by omega, hinv2, by simp only [List.length_drop]; omega, by rw [List.length_append]; show l.length + 1 ≤ _; omega⟩
        · simp only [Bool.not_eq_true', Bool.not_eq_false', Bool.and_eq_true, Bool.or_eq_true, Bool.and_eq_false_iff, Bool.or_eq_false_iff, decide_eq_true_eq, decide_eq_false_iff_not, Bool.not_eq_true, Decidable.not_not] at h41
          have hres : gEnts 65 (rTake (s.drop 1)).1 = l := by
            rw [hinv]
            have : gEnts (65 - n) t = [] := by
              rcases h41 with h | h
              · rw [show 65 - n = 0 by omega]; rfl
              · cases 65 - n with
                | zero => rfl
                | succ g => rw [gEnts, if_pos (by simpa using h)]
            rw [this]; simp
          refine wexit ?_
          refine (te (te (be ?_)))
          refine bn ?_
          refine tn ?_
          refine wseq ?_
          refine reg_list ?_
          refine segp (ρ' := [(2, .pointer (some ⟨bz, 0, none⟩)), (138, .agg ⟨.int .i64 ((s.getD 0 0).toNat : Int) :: (.string (S []) :: (.slice A l.length c :: ((idc idZ) ++ (.slice none 0 0 :: (.int .u32 0 :: (.string (S []) :: ((idc idZ) ++ (.int .i64 0 :: ([.string (S [])])))))))))⟩)]) (C := [RunOk Tryd.prog w9 (Instr.loadAt 54 (.pointer (some ⟨bo, 0, none⟩))) (.agg ⟨.int .i64 ((s.getD 0 0).toNat : Int) :: (.string (S []) :: (.slice A l.length c :: ((idc idZ) ++ (.slice none 0 0 :: (.int .u32 0 :: (.string (S []) :: ((idc idZ) ++ (.int .i64 0 :: ([.string (S [])])))))))))⟩)]) ha 1 [(0, .val (.agg ⟨.int .i64 ((s.getD 0 0).toNat : Int) :: (.string (S []) :: (.slice A l.length c :: ((idc idZ) ++ (.slice none 0 0 :: (.int .u32 0 :: (.string (S []) :: ((idc idZ) ++ (.int .i64 0 :: ([.string (S [])])))))))))⟩))] rfl (by kernel_rfl) (.cons (ldN (n := 72) hB_bo (by kernel_rfl) (by kernel_rfl) ⟨Nat.le_of_ble_eq_true (by kernel_rfl), (by kernel_rfl)⟩) .nil) ?_
          clear ha a; intro a ha
          refine lstore (off := 0) ha rfl rfl (by kernel_rfl) hB_bz ⟨.int .i64 ((s.getD 0 0).toNat : Int) :: (.string (S []) :: (.slice A l.length c :: ((idc idZ) ++ (.slice none 0 0 :: (.int .u32 0 :: (.string (S []) :: ((idc idZ) ++ (.int .i64 0 :: ([.string (S [])])))))))))⟩ rfl (by kernel_rfl) (by kernel_rfl) ?_
          clear ha a; intro w16 hc a ha
          replace hB_bo := hc.keep hB_bo (by first | assumption | exact Ne.symm (by assumption))
          replace ho := ownC hc hB_bz rfl ho
          replace hx := hc.ext hx hb_bz
          replace hB_bz := hc.at_; clear hc
          refine lnil ?_
          replace ha := ha.sub (ρ' := [(2, .pointer (some ⟨bz, 0, none⟩))]) (by kernel_rfl)
          refine tn ?_
          refine wret ?_
          refine fin ha (.cell rfl (ldVN (n := 72) (vs := ⟨.int .i64 ((s.getD 0 0).toNat : Int) :: (.string (S []) :: (.slice A l.length c :: ((idc idZ) ++ (.slice none 0 0 :: (.int .u32 0 :: (.string (S []) :: ((idc idZ) ++ (.int .i64 0 :: ([.string (S [])])))))))))⟩) hB_bz (by kernel_rfl) (by kernel_rfl) ⟨Nat.le_of_ble_eq_true (by kernel_rfl), (by kernel_rfl)⟩) .nil) ?_
          exact ⟨A, c, none, 0, by rw [hg, hres]; rfl, by rw [hg, hres]; exact ho, by rw [hg]; exact own_nil _ _ _ _, hx⟩
      · replace h34 := of_decide_eq_false h34
        refine wseq ?_
        refine regp (ρ' := [(2, .pointer (some ⟨bz, 0, none⟩)), (3, .pointer (some ⟨bo, 0, none⟩)), (4, .string (S ((rTake (s.drop 1)).1))), (29, .int .i64 (((s.getD 0 0).toNat : Nat) : Int)), (68, .bool (decide ((((s.getD 0 0).toNat : Nat) : Int) = 3)))]) (C := []) ha [] (by kernel_rfl) .nil ?_
        clear ha a; intro a ha
        refine tn ?_
        refine wif ha rfl (fun h68 => ?_) (fun h68 => ?_)
        · replace h68 := of_decide_eq_true h68
          have hg : gGuess s = ⟨((s.getD 0 0).toNat : Int), [], [], (gCom (rTake (s.drop 1)).1).Tree, (gCom (rTake (s.drop 1)).1).Parents, (gCom (rTake (s.drop 1)).1).Time, (gCom (rTake (s.drop 1)).1).Text, idZ, 0, []⟩ := by unfold gGuess gBody; rw [if_neg hq, if_neg h30, if_neg h34, if_pos h68]
          refine wseq ?_
          refine reg_list ?_
          refine seg (ρ' := [(2, .pointer (some ⟨bz, 0, none⟩)), (3, .pointer (some ⟨bo, 0, none⟩)), (4, .string (S ((rTake (s.drop 1)).1))), (71, .agg ⟨idc (idOf ((rTake (s.drop 1)).1))⟩), (72, .pointer (some ⟨bo, 3, none⟩))]) (C := [CallOk Tryd.prog w4 88 #[.string (S ((rTake (s.drop 1)).1))] (.agg ⟨idc (idOf ((rTake (s.drop 1)).1))⟩)]) ha 3 [(1, .val (.agg ⟨idc (idOf ((rTake (s.drop 1)).1))⟩))] (by kernel_rfl) (.cons (fun w _ => idof_ok _ w) .nil) ?_
          clear ha a; intro a w17 ha he
          replace hx := hx.tr he
          replace hB_bz := keepB he hB_bz
          replace hB_bo := keepB he hB_bo
          clear he
          refine lstore (off := 3) ha rfl rfl (by kernel_rfl) hB_bo ⟨.int .i64 (((s.getD 0 0).toNat : Nat) : Int) :: (.string (S []) :: (.slice none 0 0 :: ((idc (idOf ((rTake (s.drop 1)).1))) ++ (.slice none 0 0 :: (.int .u32 0 :: (.string (S []) :: ((idc idZ) ++ (.int .i64 0 :: ([.string (S [])])))))))))⟩ rfl (by kernel_rfl) (by kernel_rfl) ?_
          clear ha a; intro w18 hc a ha
          replace hB_bz := hc.keep hB_bz (by first | assumption | exact Ne.symm (by assumption))
          replace hx := hc.ext hx hb_bo
          replace hB_bo := hc.at_; clear hc
          refine lnil ?_
          replace ha := ha.sub (ρ' := [(2, .pointer (some ⟨bz, 0, none⟩)), (3, .pointer (some ⟨bo, 0, none⟩)), (4, .string (S ((rTake (s.drop 1)).1)))]) (by kernel_rfl)
          refine tn ?_
          refine wseq ?_
          refine reg hmix (ρ' := [(2, .pointer (some ⟨bz, 0, none⟩)), (3, .pointer (some ⟨bo, 0, none⟩)), (4, .string (S (((rTake (s.drop 1)).1).drop 32)))]) (C := [CallOk Tryd.prog w18 87 #[.string (S ((rTake (s.drop 1)).1)), .int .i64 32] (.string (S (((rTake (s.drop 1)).1).drop 32)))]) ha [(1, .val (.string (S (((rTake (s.drop 1)).1).drop 32))))] (by kernel_rfl) (.cons (fun w _ => behind_ok _ 32 w) .nil) ?_
          clear ha a; intro a w19 ha he
          replace hx := hx.tr he
          replace hB_bz := keepB he hB_bz
          replace hB_bo := keepB he hB_bo
          clear he
          refine tn ?_
          refine wseq ?_
          refine reg hmix (ρ' := [(2, .pointer (some ⟨bz, 0, none⟩)), (3, .pointer (some ⟨bo, 0, none⟩)), (4, .string (S (((rTake (s.drop 1)).1).drop 32))), (10, .int .u64 (((rGet (((rTake (s.drop 1)).1).drop 32)).1 : Nat) : Int)), (11, .int .i64 (((rGet (((rTake (s.drop 1)).1).drop 32)).2 : Nat) : Int))]) (C := [CallOk Tryd.prog w19 89 #[.string (S (((rTake (s.drop 1)).1).drop 32))] (.tuple #[.int .u64 (((rGet (((rTake (s.drop 1)).1).drop 32)).1 : Nat) : Int), .int .i64 (((rGet (((rTake (s.drop 1)).1).drop 32)).2 : Nat) : Int)])]) ha [(1, .val (.tuple #[.int .u64 (((rGet (((rTake (s.drop 1)).1).drop 32)).1 : Nat) : Int), .int .i64 (((rGet (((rTake (s.drop 1)).1).drop 32)).2 : Nat) : Int)]))] (by kernel_rfl) (.cons (fun w _ => r1get_ok _ w (by first | omega | (simp only [List.length_drop, List.length_take]; omega))) .nil) ?_
          clear ha a; intro a w20 ha he
          replace hx := hx.tr he
          replace hB_bz := keepB he hB_bz
          replace hB_bo := keepB he hB_bo
          clear he
          have hgl := rGet_le ((rTake (s.drop 1)).1.drop 32)
          refine tn ?_
          refine wseq ?_
          refine reg hmix (ρ' := [(2, .pointer (some ⟨bz, 0, none⟩)), (3, .pointer (some ⟨bo, 0, none⟩)), (4, .string (S ((((rTake (s.drop 1)).1).drop 32).drop ((rGet (((rTake (s.drop 1)).1).drop 32)).2)))), (10, .int .u64 (((rGet (((rTake (s.drop 1)).1).drop 32)).1 : Nat) : Int))]) (C := [CallOk Tryd.prog w20 87 #[.string (S (((rTake (s.drop 1)).1).drop 32)), .int .i64 (((rGet (((rTake (s.drop 1)).1).drop 32)).2 : Nat) : Int)] (.string (S ((((rTake (s.drop 1)).1).drop 32).drop ((rGet (((rTake (s.drop 1)).1).drop 32)).2))))]) ha [(2, .val (.string (S ((((rTake (s.drop 1)).1).drop 32).drop ((rGet (((rTake (s.drop 1)).1).drop 32)).2)))))] (by kernel_rfl) (.cons (fun w _ => behind_ok _ ((rGet (((rTake (s.drop 1)).1).drop 32)).2) w) .nil) ?_
          clear ha a; intro a w21 ha he
          replace hx := hx.tr he
          replace hB_bz := keepB he hB_bz
          replace hB_bo := keepB he hB_bo
          clear he
          refine tn ?_
          refine wseq ?_
          refine wseq ?_
          refine regp (ρ' := [(2, .pointer (some ⟨bz, 0, none⟩)), (3, .pointer (some ⟨bo, 0, none⟩)), (4, .string (S ((((rTake (s.drop 1)).1).drop 32).drop ((rGet (((rTake (s.drop 1)).1).drop 32)).2)))), (10, .int .u64 (((rGet (((rTake (s.drop 1)).1).drop 32)).1 : Nat) : Int)), (12, .int .u64 0)]) (C := []) ha [] (by kernel_rfl) .nil ?_
          clear ha a; intro a ha
          refine tn ?_
          refine wblk ?_
          refine wloop (fun zz a w22 => ∃ (i : Nat) (t : List UInt8) (l : List Id) (A : Option Addr) (c : Nat), zz = (rGet ((rTake (s.drop 1)).1.drop 32)).1 - i ∧ On 139 [(2, .pointer (some ⟨bz, 0, none⟩)), (3, .pointer (some ⟨bo, 0, none⟩)), (4, .string (S t)), (10, .int .u64 (((rGet (((rTake (s.drop 1)).1).drop 32)).1 : Nat) : Int)), (12, .int .u64 ((i : Nat) : Int))] a ∧ Ext w w22 ∧ w22.heap[bz]? = some (.cells ⟨.int .i64 0 :: (.string (S []) :: (.slice none 0 0 :: ((idc idZ) ++ (.slice none 0 0 :: (.int .u32 0 :: (.string (S []) :: ((idc idZ) ++ (.int .i64 0 :: ([.string (S [])])))))))))⟩ 54 (0, 0)) ∧ w22.heap[bo]? = some (.cells ⟨.int .i64 ((s.getD 0 0).toNat : Int) :: (.string (S []) :: (.slice none 0 0 :: ((idc (idOf (rTake (s.drop 1)).1)) ++ (.slice A l.length c :: (.int .u32 0 :: (.string (S []) :: ((idc idZ) ++ (.int .i64 0 :: ([.string (S [])])))))))))⟩ 54 (0, 0)) ∧ Own w22 w.heap.size 24 32 A l.length c (l.flatMap idc) ∧ (i ≤ 9) ∧ (i ≤ (rGet ((rTake (s.drop 1)).1.drop 32)).1) ∧ ((gIds (min (rGet ((rTake (s.drop 1)).1.drop 32)).1 9) (((rTake (s.drop 1)).1.drop 32).drop (rGet ((rTake (s.drop 1)).1.drop 32)).2)) = (l ++ (gIds (min (rGet ((rTake (s.drop 1)).1.drop 32)).1 9 - i) t).1, (gIds (min (rGet ((rTake (s.drop 1)).1.drop 32)).1 9 - i) t).2)) ∧ (t.length ≤ 1000000) ∧ (l.length ≤ i)) _ ⟨0, (((rTake (s.drop 1)).1.drop 32).drop (rGet ((rTake (s.drop 1)).1.drop 32)).2), ([] : List Id), none, 0, rfl, ha.sub (ρ' := [(2, .pointer (some ⟨bz, 0, none⟩)), (3, .pointer (some ⟨bo, 0, none⟩)), (4, .string (S (((rTake (s.drop 1)).1.drop 32).drop (rGet ((rTake (s.drop 1)).1.drop 32)).2))), (10, .int .u64 (((rGet (((rTake (s.drop 1)).1).drop 32)).1 : Nat) : Int)), (12, .int .u64 ((0 : Nat) : Int))]) (by kernel_rfl), hx, hB_bz, hB_bo, own_nil _ _ _ _, by omega, by omega, rfl, by simp only [List.length_drop]; omega, Nat.le_refl _⟩ ?_
          clear ha hx hB_bz hB_bo
          rintro zz a w23 ⟨i, t, l, A, c, hzz, ha, hx, hB_bz, hB_bo, ho, hi9, hin, hinv, htl, hll⟩
          refine wseq ?_
          refine wseq ?_
          refine regp (ρ' := [(2, .pointer (some ⟨bz, 0, none⟩)), (3, .pointer (some ⟨bo, 0, none⟩)), (4, .string (S t)), (10, .int .u64 (((rGet (((rTake (s.drop 1)).1).drop 32)).1 : Nat) : Int)), (12, .int .u64 ((i : Nat) : Int)), (89, .bool ((decide (((i : Nat) : Int) < (((rGet (((rTake (s.drop 1)).1).drop 32)).1 : Nat) : Int))) && (decide (((i : Nat) : Int) < 9))))]) (C := []) ha [] (by kernel_rfl) .nil ?_
          clear ha a; intro a ha
          refine tn ?_
          refine wif ha rfl (fun h89 => ?_) (fun h89 => ?_)
          · simp only [Bool.not_eq_true', Bool.not_eq_false', Bool.and_eq_true, Bool.or_eq_true, Bool.and_eq_false_iff, Bool.or_eq_false_iff, decide_eq_true_eq, decide_eq_false_iff_not, Bool.not_eq_true, Decidable.not_not] at h89
            have hinv2 : (gIds (min (rGet ((rTake (s.drop 1)).1.drop 32)).1 9) (((rTake (s.drop 1)).1.drop 32).drop (rGet ((rTake (s.drop 1)).1.drop 32)).2)) = ((l ++ [idOf t]) ++ (gIds (min (rGet ((rTake (s.drop 1)).1.drop 32)).1 9 - (i + 1)) (t.drop 32)).1, (gIds (min (rGet ((rTake (s.drop 1)).1.drop 32)).1 9 - (i + 1)) (t.drop 32)).2) := by
              rw [hinv]
              obtain ⟨g, hg2⟩ : ∃ g, min (rGet ((rTake (s.drop 1)).1.drop 32)).1 9 - i = g + 1 := ⟨min (rGet ((rTake (s.drop 1)).1.drop 32)).1 9 - (i + 1), by omega⟩
              rw [hg2, show min (rGet ((rTake (s.drop 1)).1.drop 32)).1 9 - (i + 1) = g by omega, gIds]
              simp
            refine wskip ?_
            refine tn ?_
            refine wseq ?_
            refine wblk ?_
            refine wseq ?_
            refine regM hmix ha [(1, .val (.slice A l.length c)), (3, .val (.agg ⟨idc (idOf t)⟩))] [⟨4, .des, [0], []⟩] [⟨5, .des, [4], [(96, 4)]⟩, ⟨7, .des, [4, 5], [(97, 5)]⟩] [] (ρ' := [(2, .pointer (some ⟨bz, 0, none⟩)), (3, .pointer (some ⟨bo, 0, none⟩)), (4, .string (S t)), (10, .int .u64 (((rGet (((rTake (s.drop 1)).1).drop 32)).1 : Nat) : Int)), (12, .int .u64 ((i : Nat) : Int))]) [(4, fun u w' => ∃ (be : Nat), u = .slice (some ⟨be, 0, none⟩) 1 1 ∧ w23.heap.size ≤ be ∧ w'.heap[be]? = some (.cells ⟨idc (idOf t)⟩ 24 (0, 0))), (5, fun u w' => ∃ (A24 : Option Addr) (c25 : Nat), u = .slice A24 ((l ++ [idOf t]).length) c25 ∧ Own w' w.heap.size 24 32 A24 ((l ++ [idOf t]).length) c25 ((l ++ [idOf t]).flatMap idc))] [fun w' => Ext w23 w', fun w' => w23.heap.size ≤ w'.heap.size ∧ Ext w w' ∧ w'.heap[bz]? = some (.cells ⟨.int .i64 0 :: (.string (S []) :: (.slice none 0 0 :: ((idc idZ) ++ (.slice none 0 0 :: (.int .u32 0 :: (.string (S []) :: ((idc idZ) ++ (.int .i64 0 :: ([.string (S [])])))))))))⟩ 54 (0, 0)) ∧ w'.heap[bo]? = some (.cells ⟨.int .i64 ((s.getD 0 0).toNat : Int) :: (.string (S []) :: (.slice none 0 0 :: ((idc (idOf (rTake (s.drop 1)).1)) ++ (.slice A l.length c :: (.int .u32 0 :: (.string (S []) :: ((idc idZ) ++ (.int .i64 0 :: ([.string (S [])])))))))))⟩ 54 (0, 0)), fun w' => ∃ (A24 : Option Addr) (c25 : Nat), w23.heap.size ≤ w'.heap.size ∧ Ext w w' ∧ Own w' w.heap.size 24 32 A24 ((l ++ [idOf t]).length) c25 ((l ++ [idOf t]).flatMap idc) ∧ w'.heap[bz]? = some (.cells ⟨.int .i64 0 :: (.string (S []) :: (.slice none 0 0 :: ((idc idZ) ++ (.slice none 0 0 :: (.int .u32 0 :: (.string (S []) :: ((idc idZ) ++ (.int .i64 0 :: ([.string (S [])])))))))))⟩ 54 (0, 0)) ∧ w'.heap[bo]? = some (.cells ⟨.int .i64 ((s.getD 0 0).toNat : Int) :: (.string (S []) :: (.slice none 0 0 :: ((idc (idOf (rTake (s.drop 1)).1)) ++ (.slice A24 ((l ++ [idOf t]).length) c25 :: (.int .u32 0 :: (.string (S []) :: ((idc idZ) ++ (.int .i64 0 :: ([.string (S [])])))))))))⟩ 54 (0, 0))] [(1, [0], fun w' => [RunOk Tryd.prog w' (Instr.loadAt 51 (.pointer (some ⟨bo, 35, none⟩))) (.slice A l.length c)]), (3, [0], fun w' => [CallOk Tryd.prog w' 88 #[.string (S t)] (.agg ⟨idc (idOf t)⟩)])] (by kernel_rfl) (fun w' => by kernel_rfl) (fun w' => by kernel_rfl) (by kernel_rfl) (fun w' h => h) ?_ ?_ ?_ ?_ ?_ ?_
            · refine ⟨fun w1 w2 h e => Ext.tr h e, ?_, ?_, trivial⟩
              · rintro w1 w2 ⟨hsz, hx, hB_bz, hB_bo⟩ he
                exact ⟨Nat.le_trans hsz he.size, hx.tr he, keepB he hB_bz, keepB he hB_bo⟩
              · rintro w1 w2 ⟨A24, c25, hsz, hx, ho2, hB_bz, hB_bo⟩ he
                exact ⟨A24, c25, Nat.le_trans hsz he.size, hx.tr he, ownE he ho2, keepB he hB_bz, keepB he hB_bo⟩
            · refine ⟨?_, ?_, trivial⟩
              · rintro _ w1 w2 ⟨be, rfl, hb_be, hB_be⟩ he
                exact ⟨be, rfl, hb_be, keepB he hB_be⟩
              · rintro _ w1 w2 ⟨A24, c25, rfl, ho2⟩ he
                exact ⟨A24, c25, rfl, ownE he ho2⟩
            · refine ⟨⟨?_, trivial⟩, ⟨?_, trivial⟩, trivial⟩
              · intro w' hJ
                have he : Ext w23 w' := hJ
                have hsz := he.size
                replace hx := hx.tr he
                replace hB_bz := keepB he hB_bz
                replace hB_bo := keepB he hB_bo
                replace ho := ownE he ho
                clear he
                exact (.cons (ld1 hB_bo (by kernel_rfl) (by kernel_rfl)) .nil)
              · intro w' hJ
                have he : Ext w23 w' := hJ
                have hsz := he.size
                replace hx := hx.tr he
                replace hB_bz := keepB he hB_bz
                replace hB_bo := keepB he hB_bo
                replace ho := ownE he ho
                clear he
                exact (.cons (fun w _ => idof_ok _ w) .nil)
            · refine ⟨⟨?_, trivial⟩, trivial⟩
              · intro w' hJ
                have he : Ext w23 w' := hJ
                have hsz := he.size
                replace hx := hx.tr he
                replace hB_bz := keepB he hB_bz
                replace hB_bo := keepB he hB_bo
                replace ho := ownE he ho
                clear he
                refine onewS ⟨idc (idOf t)⟩ 24 1 (by kernel_rfl) ?_
                intro be w'' he hb_be hB_be
                exact ⟨⟨be, rfl, Nat.le_trans hsz hb_be, hB_be⟩, he⟩
            · refine ⟨?_, ?_, trivial⟩
              · intro w' hJ u0 hu0
                obtain ⟨be, rfl, hb_be, hB_be⟩ := hu0
                have hB_bzS := hB_bz
                have hB_boS := hB_bo
                have hoS := ho
                have he : Ext w23 w' := hJ
                have hsz := he.size
                replace hx := hx.tr he
                replace hB_bz := keepB he hB_bz
                replace hB_bo := keepB he hB_bo
                replace ho := ownE he ho
                clear he
                refine oapp (m := 1) (c' := 1) (ad := ⟨be, 0, none⟩) (s := .tmp 93) (x := .tmp 96) (t := 51) (by_ := 32) (by kernel_rfl) (by kernel_rfl) (by kernel_rfl) ho (by kernel_rfl) (idc (idOf t)) rfl (news_blk hB_be) rfl (by omega) (by omega) hx.size ?_
                intro A24 c25 w'' ho2' hg
                have h1 : ((l.flatMap idc) ++ (idc (idOf t)) : List Value) = ((l ++ [idOf t]).flatMap idc) := by rw [← flat_snoc]
                have h2 : (l.length + 1 : Nat) = (l ++ [idOf t]).length := by simp
                rw [h1, h2] at ho2'
                rw [h2]
                exact ⟨⟨A24, c25, rfl, ho2'⟩, ⟨Nat.le_trans hsz hg.size, extG hx hg ho (Nat.le_refl _), keepG hg ho rfl hB_bz, keepG hg ho rfl hB_bo⟩, ⟨fun u hu => by obtain ⟨be, rfl, hb_be, hB_be⟩ := hu; exact ⟨be, rfl, hb_be, keepGn hg hoS hb_be hB_be⟩, trivial⟩⟩
              · intro w' hJ u0 hu0
                obtain ⟨A24, c25, rfl, ho2⟩ := hu0
                have hB_bzS := hB_bz
                have hB_boS := hB_bo
                have hoS := ho
                obtain ⟨hsz, hx, hB_bz, hB_bo⟩ := hJ
                refine ostore (off := 35) (x := .tmp 98) (y := .tmp 97) (t := 51) hB_bo ⟨.int .i64 ((s.getD 0 0).toNat : Int) :: (.string (S []) :: (.slice none 0 0 :: ((idc (idOf (rTake (s.drop 1)).1)) ++ (.slice A24 ((l ++ [idOf t]).length) c25 :: (.int .u32 0 :: (.string (S []) :: ((idc idZ) ++ (.int .i64 0 :: ([.string (S [])])))))))))⟩ (by kernel_rfl) (by kernel_rfl) (by kernel_rfl) ?_
                intro w'' hc
                exact ⟨trivial, ⟨A24, c25, Nat.le_trans hsz hc.size, hc.ext hx hb_bo, ownC hc hB_bo rfl ho2, hc.keep hB_bz (by first | assumption | exact Ne.symm (by assumption)), hc.at_⟩, ⟨fun u hu => by obtain ⟨be, rfl, hb_be, hB_be⟩ := hu; exact ⟨be, rfl, hb_be, hc.keep hB_be (ne_new hB_boS hb_be).symm⟩, fun u hu => by obtain ⟨A24, c25, rfl, ho2⟩ := hu; exact ⟨A24, c25, rfl, ownC hc hB_bo rfl ho2⟩, trivial⟩⟩
            · clear ha a; intro a w26 hJ ha
              clear hx hB_bz hB_bo ho
              obtain ⟨A24, c25, hsz, hx, ho2, hB_bz, hB_bo⟩ := hJ
              clear hsz
              refine tn ?_
              refine reg hmix (ρ' := [(2, .pointer (some ⟨bz, 0, none⟩)), (3, .pointer (some ⟨bo, 0, none⟩)), (4, .string (S (t.drop 32))), (10, .int .u64 (((rGet (((rTake (s.drop 1)).1).drop 32)).1 : Nat) : Int)), (12, .int .u64 ((i : Nat) : Int))]) (C := [CallOk Tryd.prog w26 87 #[.string (S t), .int .i64 32] (.string (S (t.drop 32)))]) ha [(1, .val (.string (S (t.drop 32))))] (by kernel_rfl) (.cons (fun w _ => behind_ok _ 32 w) .nil) ?_
              clear ha a; intro a w27 ha he
              replace hx := hx.tr he
              replace hB_bz := keepB he hB_bz
              replace hB_bo := keepB he hB_bo
              replace ho2 := ownE he ho2
              clear he
              refine bn ?_
              refine tn ?_
              refine regp (ρ' := [(2, .pointer (some ⟨bz, 0, none⟩)), (3, .pointer (some ⟨bo, 0, none⟩)), (4, .string (S (t.drop 32))), (10, .int .u64 (((rGet (((rTake (s.drop 1)).1).drop 32)).1 : Nat) : Int)), (12, .int .u64 ((i + 1 : Nat) : Int))]) (C := [InR .u64 ((i + 1 : Nat) : Int)]) ha [] (by kernel_rfl) (.cons (by unfold InR; omega) .nil) ?_
              clear ha a; intro a ha
              exact tn ⟨(rGet ((rTake (s.drop 1)).1.drop 32)).1 - ((i + 1)), by omega, (i + 1), (t.drop 32), (l ++ [idOf t]), A24, c25, rfl, ha.sub (ρ' := [(2, .pointer (some ⟨bz, 0, none⟩)), (3, .pointer (some ⟨bo, 0, none⟩)), (4, .string (S (t.drop 32))), (10, .int .u64 (((rGet (((rTake (s.drop 1)).1).drop 32)).1 : Nat) : Int)), (12, .int .u64 (((i + 1) : Nat) : Int))]) (by kernel_rfl), hx, hB_bz, hB_bo, ho2, by omega, by omega, hinv2, by simp only [List.length_drop]; omega, by rw [List.length_append]; show l.length + 1 ≤ _; omega⟩
          · simp only [Bool.not_eq_true', Bool.not_eq_false', Bool.and_eq_true, Bool.or_eq_true, Bool.and_eq_false_iff, Bool.or_eq_false_iff, decide_eq_true_eq, decide_eq_false_iff_not, Bool.not_eq_true, Decidable.not_not] at h89
            have hres2 : (gIds (min (rGet ((rTake (s.drop 1)).1.drop 32)).1 9) (((rTake (s.drop 1)).1.drop 32).drop (rGet ((rTake (s.drop 1)).1.drop 32)).2)) = (l, t) := by
              rw [hinv, show min (rGet ((rTake (s.drop 1)).1.drop 32)).1 9 - i = 0 by omega]
              simp [gIds]
            have el : l = (gIds (min (rGet ((rTake (s.drop 1)).1.drop 32)).1 9) (((rTake (s.drop 1)).1.drop 32).drop (rGet ((rTake (s.drop 1)).1.drop 32)).2)).1 := by rw [hres2]
            have et : t = (gIds (min (rGet ((rTake (s.drop 1)).1.drop 32)).1 9) (((rTake (s.drop 1)).1.drop 32).drop (rGet ((rTake (s.drop 1)).1.drop 32)).2)).2 := by rw [hres2]
            have hcm : gCom (rTake (s.drop 1)).1 = ⟨idOf (rTake (s.drop 1)).1, l, (rGet t).1 % 4294967296, (rTake (t.drop (rGet t).2)).1⟩ := by rw [el, et]; unfold gCom; rfl
            clear hinv hres2 el et
            refine wexit ?_
            refine (te (te (be ?_)))
            refine tn ?_
            refine wseq ?_
            refine reg hmix (ρ' := [(2, .pointer (some ⟨bz, 0, none⟩)), (3, .pointer (some ⟨bo, 0, none⟩)), (4, .string (S t)), (13, .int .u64 (((rGet t).1 : Nat) : Int)), (14, .int .i64 (((rGet t).2 : Nat) : Int))]) (C := [CallOk Tryd.prog w23 89 #[.string (S t)] (.tuple #[.int .u64 (((rGet t).1 : Nat) : Int), .int .i64 (((rGet t).2 : Nat) : Int)])]) ha [(1, .val (.tuple #[.int .u64 (((rGet t).1 : Nat) : Int), .int .i64 (((rGet t).2 : Nat) : Int)]))] (by kernel_rfl) (.cons (fun w _ => r1get_ok _ w (by first | omega | (simp only [List.length_drop, List.length_take]; omega))) .nil) ?_
            clear ha a; intro a w28 ha he
            replace hx := hx.tr he
            replace hB_bz := keepB he hB_bz
            replace hB_bo := keepB he hB_bo
            replace ho := ownE he ho
            clear he
            have hgl2 := rGet_le t
            refine tn ?_
            refine wseq ?_
            refine reg_list ?_
            refine segp (ρ' := [(2, .pointer (some ⟨bz, 0, none⟩)), (3, .pointer (some ⟨bo, 0, none⟩)), (4, .string (S t)), (14, .int .i64 (((rGet t).2 : Nat) : Int)), (108, .int .u32 ((((rGet t).1) % 4294967296 : Nat) : Int)), (109, .pointer (some ⟨bo, 36, none⟩))]) (C := [0 ≤ (((rGet t).1 : Nat) : Int), 0 < (4294967296 : Int), InR .u32 ((((rGet t).1) % 4294967296 : Nat) : Int)]) ha 4 [] rfl (by kernel_rfl) (.cons (by omega) (.cons (by omega) (.cons (by unfold InR; omega) .nil))) ?_
            clear ha a; intro a ha
            refine lstore (off := 36) ha rfl rfl (by kernel_rfl) hB_bo ⟨.int .i64 ((s.getD 0 0).toNat : Int) :: (.string (S []) :: (.slice none 0 0 :: ((idc (idOf (rTake (s.drop 1)).1)) ++ (.slice A l.length c :: (.int .u32 ((((rGet t).1) % 4294967296 : Nat) : Int) :: (.string (S []) :: ((idc idZ) ++ (.int .i64 0 :: ([.string (S [])])))))))))⟩ rfl (by kernel_rfl) (by kernel_rfl) ?_
            clear ha a; intro w29 hc a ha
            replace hB_bz := hc.keep hB_bz (by first | assumption | exact Ne.symm (by assumption))
            replace ho := ownC hc hB_bo rfl ho
            replace hx := hc.ext hx hb_bo
            replace hB_bo := hc.at_; clear hc
            refine lnil ?_
            replace ha := ha.sub (ρ' := [(2, .pointer (some ⟨bz, 0, none⟩)), (3, .pointer (some ⟨bo, 0, none⟩)), (4, .string (S t)), (14, .int .i64 (((rGet t).2 : Nat) : Int))]) (by kernel_rfl)
            refine tn ?_
            refine reg_list ?_
            refine seg (ρ' := [(2, .pointer (some ⟨bz, 0, none⟩)), (3, .pointer (some ⟨bo, 0, none⟩)), (115, .string (S ((rTake (t.drop ((rGet t).2))).1))), (117, .pointer (some ⟨bo, 37, none⟩))]) (C := [CallOk Tryd.prog w29 87 #[.string (S t), .int .i64 (((rGet t).2 : Nat) : Int)] (.string (S (t.drop ((rGet t).2)))), CallOk Tryd.prog w29 86 #[.string (S (t.drop ((rGet t).2)))] (.tuple #[.string (S ((rTake (t.drop ((rGet t).2))).1)), .int .i64 (((rTake (t.drop ((rGet t).2))).2 : Nat) : Int)])]) ha 8 [(2, .val (.string (S (t.drop ((rGet t).2))))), (3, .val (.tuple #[.string (S ((rTake (t.drop ((rGet t).2))).1)), .int .i64 (((rTake (t.drop ((rGet t).2))).2 : Nat) : Int)]))] (by kernel_rfl) (.cons (fun w _ => behind_ok _ ((rGet t).2) w) (.cons (fun w _ => rtake_ok _ w (by first | omega | (simp only [List.length_drop, List.length_take]; omega))) .nil)) ?_
            clear ha a; intro a w30 ha he
            replace hx := hx.tr he
            replace hB_bz := keepB he hB_bz
            replace hB_bo := keepB he hB_bo
            replace ho := ownE he ho
            clear he
            refine lstore (off := 37) ha rfl rfl (by kernel_rfl) hB_bo ⟨.int .i64 ((s.getD 0 0).toNat : Int) :: (.string (S []) :: (.slice none 0 0 :: ((idc (idOf (rTake (s.drop 1)).1)) ++ (.slice A l.length c :: (.int .u32 ((((rGet t).1) % 4294967296 : Nat) : Int) :: (.string (S ((rTake (t.drop ((rGet t).2))).1)) :: ((idc idZ) ++ (.int .i64 0 :: ([.string (S [])])))))))))⟩ rfl (by kernel_rfl) (by kernel_rfl) ?_
            clear ha a; intro w31 hc a ha
            replace hB_bz := hc.keep hB_bz (by first | assumption | exact Ne.symm (by assumption))
            replace ho := ownC hc hB_bo rfl ho
            replace hx := hc.ext hx hb_bo
            replace hB_bo := hc.at_; clear hc
            refine lnil ?_
            replace ha := ha.sub (ρ' := [(2, .pointer (some ⟨bz, 0, none⟩)), (3, .pointer (some ⟨bo, 0, none⟩))]) (by kernel_rfl)
            refine bn ?_
            refine tn ?_
            refine wseq ?_
            refine reg_list ?_
            refine segp (ρ' := [(2, .pointer (some ⟨bz, 0, none⟩)), (138, .agg ⟨.int .i64 ((s.getD 0 0).toNat : Int) :: (.string (S []) :: (.slice none 0 0 :: ((idc (idOf (rTake (s.drop 1)).1)) ++ (.slice A l.length c :: (.int .u32 ((((rGet t).1) % 4294967296 : Nat) : Int) :: (.string (S ((rTake (t.drop ((rGet t).2))).1)) :: ((idc idZ) ++ (.int .i64 0 :: ([.string (S [])])))))))))⟩)]) (C := [RunOk Tryd.prog w31 (Instr.loadAt 54 (.pointer (some ⟨bo, 0, none⟩))) (.agg ⟨.int .i64 ((s.getD 0 0).toNat : Int) :: (.string (S []) :: (.slice none 0 0 :: ((idc (idOf (rTake (s.drop 1)).1)) ++ (.slice A l.length c :: (.int .u32 ((((rGet t).1) % 4294967296 : Nat) : Int) :: (.string (S ((rTake (t.drop ((rGet t).2))).1)) :: ((idc idZ) ++ (.int .i64 0 :: ([.string (S [])])))))))))⟩)]) ha 1 [(0, .val (.agg ⟨.int .i64 ((s.getD 0 0).toNat : Int) :: (.string (S []) :: (.slice none 0 0 :: ((idc (idOf (rTake (s.drop 1)).1)) ++ (.slice A l.length c :: (.int .u32 ((((rGet t).1) % 4294967296 : Nat) : Int) :: (.string (S ((rTake (t.drop ((rGet t).2))).1)) :: ((idc idZ) ++ (.int .i64 0 :: ([.string (S [])])))))))))⟩))] rfl (by kernel_rfl) (.cons (ldN (n := 72) hB_bo (by kernel_rfl) (by kernel_rfl) ⟨Nat.le_of_ble_eq_true (by kernel_rfl), (by kernel_rfl)⟩) .nil) ?_
            clear ha a; intro a ha
            refine lstore (off := 0) ha rfl rfl (by kernel_rfl) hB_bz ⟨.int .i64 ((s.getD 0 0).toNat : Int) :: (.string (S []) :: (.slice none 0 0 :: ((idc (idOf (rTake (s.drop 1)).1)) ++ (.slice A l.length c :: (.int .u32 ((((rGet t).1) % 4294967296 : Nat) : Int) :: (.string (S ((rTake (t.drop ((rGet t).2))).1)) :: ((idc idZ) ++ (.int .i64 0 :: ([.string (S [])])))))))))⟩ rfl (by kernel_rfl) (by kernel_rfl) ?_
            clear ha a; intro w32 hc a ha
            replace hB_bo := hc.keep hB_bo (by first | assumption | exact Ne.symm (by assumption))
            replace ho := ownC hc hB_bz rfl ho
            replace hx := hc.ext hx hb_bz
            replace hB_bz := hc.at_; clear hc
            refine lnil ?_
            replace ha := ha.sub (ρ' := [(2, .pointer (some ⟨bz, 0, none⟩))]) (by kernel_rfl)
            refine tn ?_
            refine wret ?_
            refine fin ha (.cell rfl (ldVN (n := 72) (vs := ⟨.int .i64 ((s.getD 0 0).toNat : Int) :: (.string (S []) :: (.slice none 0 0 :: ((idc (idOf (rTake (s.drop 1)).1)) ++ (.slice A l.length c :: (.int .u32 ((((rGet t).1) % 4294967296 : Nat) : Int) :: (.string (S ((rTake (t.drop ((rGet t).2))).1)) :: ((idc idZ) ++ (.int .i64 0 :: ([.string (S [])])))))))))⟩) hB_bz (by kernel_rfl) (by kernel_rfl) ⟨Nat.le_of_ble_eq_true (by kernel_rfl), (by kernel_rfl)⟩) .nil) ?_
            have hg2 : gGuess s = ⟨((s.getD 0 0).toNat : Int), [], [], idOf (rTake (s.drop 1)).1, l, (rGet t).1 % 4294967296, (rTake (t.drop (rGet t).2)).1, idZ, 0, []⟩ := by rw [hg, hcm]
            exact ⟨none, 0, A, c, by rw [hg2]; rfl, by rw [hg2]; exact own_nil _ _ _ _, by rw [hg2]; exact ho, hx⟩
        · replace h68 := of_decide_eq_false h68
          refine wseq ?_
          refine regp (ρ' := [(2, .pointer (some ⟨bz, 0, none⟩)), (3, .pointer (some ⟨bo, 0, none⟩)), (4, .string (S ((rTake (s.drop 1)).1))), (118, .bool (decide ((((s.getD 0 0).toNat : Nat) : Int) = 4)))]) (C := []) ha [] (by kernel_rfl) .nil ?_
          clear ha a; intro a ha
          refine tn ?_
          refine wif ha rfl (fun h118 => ?_) (fun h118 => ?_)
          · replace h118 := of_decide_eq_true h118
            have hg : gGuess s = ⟨((s.getD 0 0).toNat : Int), [], [], idZ, [], 0, [], idOf ((rTake (s.drop 1)).1.drop 1), gOf (rTake (s.drop 1)).1, (rTake (((rTake (s.drop 1)).1.drop 1).drop 32)).1⟩ := by unfold gGuess gBody; rw [if_neg hq, if_neg h30, if_neg h34, if_neg h68, if_pos h118]
            refine wseq ?_
            refine wseq ?_
            refine regp (ρ' := [(2, .pointer (some ⟨bz, 0, none⟩)), (3, .pointer (some ⟨bo, 0, none⟩)), (4, .string (S ((rTake (s.drop 1)).1))), (121, .bool (!decide (((rTake (s.drop 1)).1 : List UInt8) = ([] : List UInt8))))]) (C := []) ha [] (by kernel_rfl) .nil ?_
            clear ha a; intro a ha
            refine tn ?_
            refine wif ha rfl (fun h121 => ?_) (fun h121 => ?_)
            · simp only [Bool.not_eq_true', Bool.not_eq_false', Bool.and_eq_true, Bool.or_eq_true, Bool.and_eq_false_iff, Bool.or_eq_false_iff, decide_eq_true_eq, decide_eq_false_iff_not, Bool.not_eq_true, Decidable.not_not] at h121
              have hT0 : 0 < (rTake (s.drop 1)).1.length := List.length_pos_iff.2 h121
              have hcb3 := UInt8.toNat_lt ((rTake (s.drop 1)).1.getD 0 0)
              have hof : gOf (rTake (s.drop 1)).1 = (((rTake (s.drop 1)).1.getD 0 0).toNat : Int) := by unfold gOf; rw [if_neg h121]
              rw [hof] at hg
              refine reg_list ?_
              refine segp (ρ' := [(2, .pointer (some ⟨bz, 0, none⟩)), (3, .pointer (some ⟨bo, 0, none⟩)), (4, .string (S ((rTake (s.drop 1)).1))), (124, .int .i64 (((((rTake (s.drop 1)).1).getD 0 0).toNat : Nat) : Int)), (125, .pointer (some ⟨bo, 70, none⟩))]) (C := [0 ≤ (0 : Int) ∧ 0 < (((rTake (s.drop 1)).1).length : Int), InR .i64 (((((rTake (s.drop 1)).1).getD 0 0).toNat : Nat) : Int)]) ha 4 [] rfl (by kernel_rfl) (.cons ⟨by omega, by omega⟩ (.cons (by unfold InR; omega) .nil)) ?_
              clear ha a; intro a ha
              refine lstore (off := 70) ha rfl rfl (by kernel_rfl) hB_bo ⟨.int .i64 (((s.getD 0 0).toNat : Nat) : Int) :: (.string (S []) :: (.slice none 0 0 :: ((idc idZ) ++ (.slice none 0 0 :: (.int .u32 0 :: (.string (S []) :: ((idc idZ) ++ (.int .i64 (((((rTake (s.drop 1)).1).getD 0 0).toNat : Nat) : Int) :: ([.string (S [])])))))))))⟩ rfl (by kernel_rfl) (by kernel_rfl) ?_
              clear ha a; intro w33 hc a ha
              replace hB_bz := hc.keep hB_bz (by first | assumption | exact Ne.symm (by assumption))
              replace hx := hc.ext hx hb_bo
              replace hB_bo := hc.at_; clear hc
              refine lnil ?_
              replace ha := ha.sub (ρ' := [(2, .pointer (some ⟨bz, 0, none⟩)), (3, .pointer (some ⟨bo, 0, none⟩)), (4, .string (S ((rTake (s.drop 1)).1)))]) (by kernel_rfl)
              refine tn ?_
              refine wseq ?_
              refine reg hmix (ρ' := [(2, .pointer (some ⟨bz, 0, none⟩)), (3, .pointer (some ⟨bo, 0, none⟩)), (4, .string (S (((rTake (s.drop 1)).1).drop 1)))]) (C := [CallOk Tryd.prog w33 87 #[.string (S ((rTake (s.drop 1)).1)), .int .i64 1] (.string (S (((rTake (s.drop 1)).1).drop 1)))]) ha [(1, .val (.string (S (((rTake (s.drop 1)).1).drop 1))))] (by kernel_rfl) (.cons (fun w _ => behind_ok _ 1 w) .nil) ?_
              clear ha a; intro a w34 ha he
              replace hx := hx.tr he
              replace hB_bz := keepB he hB_bz
              replace hB_bo := keepB he hB_bo
              clear he
              refine tn ?_
              refine wseq ?_
              refine reg_list ?_
              refine seg (ρ' := [(2, .pointer (some ⟨bz, 0, none⟩)), (3, .pointer (some ⟨bo, 0, none⟩)), (4, .string (S (((rTake (s.drop 1)).1).drop 1))), (129, .agg ⟨idc (idOf (((rTake (s.drop 1)).1).drop 1))⟩), (130, .pointer (some ⟨bo, 38, none⟩))]) (C := [CallOk Tryd.prog w34 88 #[.string (S (((rTake (s.drop 1)).1).drop 1))] (.agg ⟨idc (idOf (((rTake (s.drop 1)).1).drop 1))⟩)]) ha 3 [(1, .val (.agg ⟨idc (idOf (((rTake (s.drop 1)).1).drop 1))⟩))] (by kernel_rfl) (.cons (fun w _ => idof_ok _ w) .nil) ?_
              clear ha a; intro a w35 ha he
              replace hx := hx.tr he
              replace hB_bz := keepB he hB_bz
              replace hB_bo := keepB he hB_bo
              clear he
              refine lstore (off := 38) ha rfl rfl (by kernel_rfl) hB_bo ⟨.int .i64 (((s.getD 0 0).toNat : Nat) : Int) :: (.string (S []) :: (.slice none 0 0 :: ((idc idZ) ++ (.slice none 0 0 :: (.int .u32 0 :: (.string (S []) :: ((idc (idOf (((rTake (s.drop 1)).1).drop 1))) ++ (.int .i64 (((((rTake (s.drop 1)).1).getD 0 0).toNat : Nat) : Int) :: ([.string (S [])])))))))))⟩ rfl (by kernel_rfl) (by kernel_rfl) ?_
              clear ha a; intro w36 hc a ha
              replace hB_bz := hc.keep hB_bz (by first | assumption | exact Ne.symm (by assumption))
              replace hx := hc.ext hx hb_bo
              replace hB_bo := hc.at_; clear hc
              refine lnil ?_
              replace ha := ha.sub (ρ' := [(2, .pointer (some ⟨bz, 0, none⟩)), (3, .pointer (some ⟨bo, 0, none⟩)), (4, .string (S (((rTake (s.drop 1)).1).drop 1)))]) (by kernel_rfl)
              refine tn ?_
              refine reg_list ?_
              refine seg (ρ' := [(2, .pointer (some ⟨bz, 0, none⟩)), (3, .pointer (some ⟨bo, 0, none⟩)), (135, .string (S ((rTake ((((rTake (s.drop 1)).1).drop 1).drop 32)).1))), (137, .pointer (some ⟨bo, 71, none⟩))]) (C := [CallOk Tryd.prog w36 87 #[.string (S (((rTake (s.drop 1)).1).drop 1)), .int .i64 32] (.string (S ((((rTake (s.drop 1)).1).drop 1).drop 32))), CallOk Tryd.prog w36 86 #[.string (S ((((rTake (s.drop 1)).1).drop 1).drop 32))] (.tuple #[.string (S ((rTake ((((rTake (s.drop 1)).1).drop 1).drop 32)).1)), .int .i64 (((rTake ((((rTake (s.drop 1)).1).drop 1).drop 32)).2 : Nat) : Int)])]) ha 7 [(1, .val (.string (S ((((rTake (s.drop 1)).1).drop 1).drop 32)))), (2, .val (.tuple #[.string (S ((rTake ((((rTake (s.drop 1)).1).drop 1).drop 32)).1)), .int .i64 (((rTake ((((rTake (s.drop 1)).1).drop 1).drop 32)).2 : Nat) : Int)]))] (by kernel_rfl) (.cons (fun w _ => behind_ok _ 32 w) (.cons (fun w _ => rtake_ok _ w (by first | omega | (simp only [List.length_drop, List.length_take]; omega))) .nil)) ?_
              clear ha a; intro a w37 ha he
              replace hx := hx.tr he
              replace hB_bz := keepB he hB_bz
              replace hB_bo := keepB he hB_bo
              clear he
              refine lstore (off := 71) ha rfl rfl (by kernel_rfl) hB_bo ⟨.int .i64 (((s.getD 0 0).toNat : Nat) : Int) :: (.string (S []) :: (.slice none 0 0 :: ((idc idZ) ++ (.slice none 0 0 :: (.int .u32 0 :: (.string (S []) :: ((idc (idOf (((rTake (s.drop 1)).1).drop 1))) ++ (.int .i64 (((((rTake (s.drop 1)).1).getD 0 0).toNat : Nat) : Int) :: ([.string (S ((rTake ((((rTake (s.drop 1)).1).drop 1).drop 32)).1))])))))))))⟩ rfl (by kernel_rfl) (by kernel_rfl) ?_
              clear ha a; intro w38 hc a ha
              replace hB_bz := hc.keep hB_bz (by first | assumption | exact Ne.symm (by assumption))
              replace hx := hc.ext hx hb_bo
              replace hB_bo := hc.at_; clear hc
              refine lnil ?_
              replace ha := ha.sub (ρ' := [(2, .pointer (some ⟨bz, 0, none⟩)), (3, .pointer (some ⟨bo, 0, none⟩))]) (by kernel_rfl)
              refine bn ?_
              refine tn ?_
              refine wseq ?_
              refine reg_list ?_
              refine segp (ρ' := [(2, .pointer (some ⟨bz, 0, none⟩)), (138, .agg ⟨.int .i64 (((s.getD 0 0).toNat : Nat) : Int) :: (.string (S []) :: (.slice none 0 0 :: ((idc idZ) ++ (.slice none 0 0 :: (.int .u32 0 :: (.string (S []) :: ((idc (idOf (((rTake (s.drop 1)).1).drop 1))) ++ (.int .i64 (((((rTake (s.drop 1)).1).getD 0 0).toNat : Nat) : Int) :: ([.string (S ((rTake ((((rTake (s.drop 1)).1).drop 1).drop 32)).1))])))))))))⟩)]) (C := [RunOk Tryd.prog w38 (Instr.loadAt 54 (.pointer (some ⟨bo, 0, none⟩))) (.agg ⟨.int .i64 (((s.getD 0 0).toNat : Nat) : Int) :: (.string (S []) :: (.slice none 0 0 :: ((idc idZ) ++ (.slice none 0 0 :: (.int .u32 0 :: (.string (S []) :: ((idc (idOf (((rTake (s.drop 1)).1).drop 1))) ++ (.int .i64 (((((rTake (s.drop 1)).1).getD 0 0).toNat : Nat) : Int) :: ([.string (S ((rTake ((((rTake (s.drop 1)).1).drop 1).drop 32)).1))])))))))))⟩)]) ha 1 [(0, .val (.agg ⟨.int .i64 (((s.getD 0 0).toNat : Nat) : Int) :: (.string (S []) :: (.slice none 0 0 :: ((idc idZ) ++ (.slice none 0 0 :: (.int .u32 0 :: (.string (S []) :: ((idc (idOf (((rTake (s.drop 1)).1).drop 1))) ++ (.int .i64 (((((rTake (s.drop 1)).1).getD 0 0).toNat : Nat) : Int) :: ([.string (S ((rTake ((((rTake (s.drop 1)).1).drop 1).drop 32)).1))])))))))))⟩))] rfl (by kernel_rfl) (.cons (ldN (n := 72) hB_bo (by kernel_rfl) (by kernel_rfl) ⟨Nat.le_of_ble_eq_true (by kernel_rfl), (by kernel_rfl)⟩) .nil) ?_
              clear ha a; intro a ha
              refine lstore (off := 0) ha rfl rfl (by kernel_rfl) hB_bz ⟨.int .i64 (((s.getD 0 0).toNat : Nat) : Int) :: (.string (S []) :: (.slice none 0 0 :: ((idc idZ) ++ (.slice none 0 0 :: (.int .u32 0 :: (.string (S []) :: ((idc (idOf (((rTake (s.drop 1)).1).drop 1))) ++ (.int .i64 (((((rTake (s.drop 1)).1).getD 0 0).toNat : Nat) : Int) :: ([.string (S ((rTake ((((rTake (s.drop 1)).1).drop 1).drop 32)).1))])))))))))⟩ rfl (by kernel_rfl) (by kernel_rfl) ?_
              clear ha a; intro w39 hc a ha
              replace hB_bo := hc.keep hB_bo (by first | assumption | exact Ne.symm (by assumption))
              replace hx := hc.ext hx hb_bz
              replace hB_bz := hc.at_; clear hc
              refine lnil ?_
              replace ha := ha.sub (ρ' := [(2, .pointer (some ⟨bz, 0, none⟩))]) (by kernel_rfl)
              refine tn ?_
              refine wret ?_
              refine fin ha (.cell rfl (ldVN (n := 72) (vs := ⟨.int .i64 (((s.getD 0 0).toNat : Nat) : Int) :: (.string (S []) :: (.slice none 0 0 :: ((idc idZ) ++ (.slice none 0 0 :: (.int .u32 0 :: (.string (S []) :: ((idc (idOf (((rTake (s.drop 1)).1).drop 1))) ++ (.int .i64 (((((rTake (s.drop 1)).1).getD 0 0).toNat : Nat) : Int) :: ([.string (S ((rTake ((((rTake (s.drop 1)).1).drop 1).drop 32)).1))])))))))))⟩) hB_bz (by kernel_rfl) (by kernel_rfl) ⟨Nat.le_of_ble_eq_true (by kernel_rfl), (by kernel_rfl)⟩) .nil) ?_
              exact ⟨none, 0, none, 0, by rw [hg]; rfl, by rw [hg]; exact own_nil _ _ _ _, by rw [hg]; exact own_nil _ _ _ _, hx⟩
            · simp only [Bool.not_eq_true', Bool.not_eq_false', Bool.and_eq_true, Bool.or_eq_true, Bool.and_eq_false_iff, Bool.or_eq_false_iff, decide_eq_true_eq, decide_eq_false_iff_not, Bool.not_eq_true, Decidable.not_not] at h121
              have hof : gOf (rTake (s.drop 1)).1 = 0 := by unfold gOf; rw [if_pos (by simpa using h121)]
              rw [hof] at hg
              refine wskip ?_
              refine tn ?_
              refine wseq ?_
              refine reg hmix (ρ' := [(2, .pointer (some ⟨bz, 0, none⟩)), (3, .pointer (some ⟨bo, 0, none⟩)), (4, .string (S (((rTake (s.drop 1)).1).drop 1)))]) (C := [CallOk Tryd.prog w4 87 #[.string (S ((rTake (s.drop 1)).1)), .int .i64 1] (.string (S (((rTake (s.drop 1)).1).drop 1)))]) ha [(1, .val (.string (S (((rTake (s.drop 1)).1).drop 1))))] (by kernel_rfl) (.cons (fun w _ => behind_ok _ 1 w) .nil) ?_
              clear ha a; intro a w40 ha he
              replace hx := hx.tr he
              replace hB_bz := keepB he hB_bz
              replace hB_bo := keepB he hB_bo
              clear he
              refine tn ?_
              refine wseq ?_
              refine reg_list ?_
              refine seg (ρ' := [(2, .pointer (some ⟨bz, 0, none⟩)), (3, .pointer (some ⟨bo, 0, none⟩)), (4, .string (S (((rTake (s.drop 1)).1).drop 1))), (129, .agg ⟨idc (idOf (((rTake (s.drop 1)).1).drop 1))⟩), (130, .pointer (some ⟨bo, 38, none⟩))]) (C := [CallOk Tryd.prog w40 88 #[.string (S (((rTake (s.drop 1)).1).drop 1))] (.agg ⟨idc (idOf (((rTake (s.drop 1)).1).drop 1))⟩)]) ha 3 [(1, .val (.agg ⟨idc (idOf (((rTake (s.drop 1)).1).drop 1))⟩))] (by kernel_rfl) (.cons (fun w _ => idof_ok _ w) .nil) ?_
              clear ha a; intro a w41 ha he
              replace hx := hx.tr he
              replace hB_bz := keepB he hB_bz
              replace hB_bo := keepB he hB_bo
              clear he
              refine lstore (off := 38) ha rfl rfl (by kernel_rfl) hB_bo ⟨.int .i64 (((s.getD 0 0).toNat : Nat) : Int) :: (.string (S []) :: (.slice none 0 0 :: ((idc idZ) ++ (.slice none 0 0 :: (.int .u32 0 :: (.string (S []) :: ((idc (idOf (((rTake (s.drop 1)).1).drop 1))) ++ (.int .i64 0 :: ([.string (S [])])))))))))⟩ rfl (by kernel_rfl) (by kernel_rfl) ?_
              clear ha a; intro w42 hc a ha
              replace hB_bz := hc.keep hB_bz (by first | assumption | exact Ne.symm (by assumption))
              replace hx := hc.ext hx hb_bo
              replace hB_bo := hc.at_; clear hc
              refine lnil ?_
              replace ha := ha.sub (ρ' := [(2, .pointer (some ⟨bz, 0, none⟩)), (3, .pointer (some ⟨bo, 0, none⟩)), (4, .string (S (((rTake (s.drop 1)).1).drop 1)))]) (by kernel_rfl)
              refine tn ?_
              refine reg_list ?_
              refine seg (ρ' := [(2, .pointer (some ⟨bz, 0, none⟩)), (3, .pointer (some ⟨bo, 0, none⟩)), (135, .string (S ((rTake ((((rTake (s.drop 1)).1).drop 1).drop 32)).1))), (137, .pointer (some ⟨bo, 71, none⟩))]) (C := [CallOk Tryd.prog w42 87 #[.string (S (((rTake (s.drop 1)).1).drop 1)), .int .i64 32] (.string (S ((((rTake (s.drop 1)).1).drop 1).drop 32))), CallOk Tryd.prog w42 86 #[.string (S ((((rTake (s.drop 1)).1).drop 1).drop 32))] (.tuple #[.string (S ((rTake ((((rTake (s.drop 1)).1).drop 1).drop 32)).1)), .int .i64 (((rTake ((((rTake (s.drop 1)).1).drop 1).drop 32)).2 : Nat) : Int)])]) ha 7 [(1, .val (.string (S ((((rTake (s.drop 1)).1).drop 1).drop 32)))), (2, .val (.tuple #[.string (S ((rTake ((((rTake (s.drop 1)).1).drop 1).drop 32)).1)), .int .i64 (((rTake ((((rTake (s.drop 1)).1).drop 1).drop 32)).2 : Nat) : Int)]))] (by kernel_rfl) (.cons (fun w _ => behind_ok _ 32 w) (.cons (fun w _ => rtake_ok _ w (by first | omega | (simp only [List.length_drop, List.length_take]; omega))) .nil)) ?_
              clear ha a; intro a w43 ha he
              replace hx := hx.tr he
              replace hB_bz := keepB he hB_bz
              replace hB_bo := keepB he hB_bo
              clear he
              refine lstore (off := 71) ha rfl rfl (by kernel_rfl) hB_bo ⟨.int .i64 (((s.getD 0 0).toNat : Nat) : Int) :: (.string (S []) :: (.slice none 0 0 :: ((idc idZ) ++ (.slice none 0 0 :: (.int .u32 0 :: (.string (S []) :: ((idc (idOf (((rTake (s.drop 1)).1).drop 1))) ++ (.int .i64 0 :: ([.string (S ((rTake ((((rTake (s.drop 1)).1).drop 1).drop 32)).1))])))))))))⟩ rfl (by kernel_rfl) (by kernel_rfl) ?_
              clear ha a; intro w44 hc a ha
              replace hB_bz := hc.keep hB_bz (by first | assumption | exact Ne.symm (by assumption))
              replace hx := hc.ext hx hb_bo
              replace hB_bo := hc.at_; clear hc
              refine lnil ?_
              replace ha := ha.sub (ρ' := [(2, .pointer (some ⟨bz, 0, none⟩)), (3, .pointer (some ⟨bo, 0, none⟩))]) (by kernel_rfl)
              refine bn ?_
              refine tn ?_
              refine wseq ?_
              refine reg_list ?_
              refine segp (ρ' := [(2, .pointer (some ⟨bz, 0, none⟩)), (138, .agg ⟨.int .i64 (((s.getD 0 0).toNat : Nat) : Int) :: (.string (S []) :: (.slice none 0 0 :: ((idc idZ) ++ (.slice none 0 0 :: (.int .u32 0 :: (.string (S []) :: ((idc (idOf (((rTake (s.drop 1)).1).drop 1))) ++ (.int .i64 0 :: ([.string (S ((rTake ((((rTake (s.drop 1)).1).drop 1).drop 32)).1))])))))))))⟩)]) (C := [RunOk Tryd.prog w44 (Instr.loadAt 54 (.pointer (some ⟨bo, 0, none⟩))) (.agg ⟨.int .i64 (((s.getD 0 0).toNat : Nat) : Int) :: (.string (S []) :: (.slice none 0 0 :: ((idc idZ) ++ (.slice none 0 0 :: (.int .u32 0 :: (.string (S []) :: ((idc (idOf (((rTake (s.drop 1)).1).drop 1))) ++ (.int .i64 0 :: ([.string (S ((rTake ((((rTake (s.drop 1)).1).drop 1).drop 32)).1))])))))))))⟩)]) ha 1 [(0, .val (.agg ⟨.int .i64 (((s.getD 0 0).toNat : Nat) : Int) :: (.string (S []) :: (.slice none 0 0 :: ((idc idZ) ++ (.slice none 0 0 :: (.int .u32 0 :: (.string (S []) :: ((idc (idOf (((rTake (s.drop 1)).1).drop 1))) ++ (.int .i64 0 :: ([.string (S ((rTake ((((rTake (s.drop 1)).1).drop 1).drop 32)).1))])))))))))⟩))] rfl (by kernel_rfl) (.cons (ldN (n := 72) hB_bo (by kernel_rfl) (by kernel_rfl) ⟨Nat.le_of_ble_eq_true (by kernel_rfl), (by kernel_rfl)⟩) .nil) ?_
              clear ha a; intro a ha
              refine lstore (off := 0) ha rfl rfl (by kernel_rfl) hB_bz ⟨.int .i64 (((s.getD 0 0).toNat : Nat) : Int) :: (.string (S []) :: (.slice none 0 0 :: ((idc idZ) ++ (.slice none 0 0 :: (.int .u32 0 :: (.string (S []) :: ((idc (idOf (((rTake (s.drop 1)).1).drop 1))) ++ (.int .i64 0 :: ([.string (S ((rTake ((((rTake (s.drop 1)).1).drop 1).drop 32)).1))])))))))))⟩ rfl (by kernel_rfl) (by kernel_rfl) ?_
              clear ha a; intro w45 hc a ha
              replace hB_bo := hc.keep hB_bo (by first | assumption | exact Ne.symm (by assumption))
              replace hx := hc.ext hx hb_bz
              replace hB_bz := hc.at_; clear hc
              refine lnil ?_
              replace ha := ha.sub (ρ' := [(2, .pointer (some ⟨bz, 0, none⟩))]) (by kernel_rfl)
              refine tn ?_
              refine wret ?_
              refine fin ha (.cell rfl (ldVN (n := 72) (vs := ⟨.int .i64 (((s.getD 0 0).toNat : Nat) : Int) :: (.string (S []) :: (.slice none 0 0 :: ((idc idZ) ++ (.slice none 0 0 :: (.int .u32 0 :: (.string (S []) :: ((idc (idOf (((rTake (s.drop 1)).1).drop 1))) ++ (.int .i64 0 :: ([.string (S ((rTake ((((rTake (s.drop 1)).1).drop 1).drop 32)).1))])))))))))⟩) hB_bz (by kernel_rfl) (by kernel_rfl) ⟨Nat.le_of_ble_eq_true (by kernel_rfl), (by kernel_rfl)⟩) .nil) ?_
              exact ⟨none, 0, none, 0, by rw [hg]; rfl, by rw [hg]; exact own_nil _ _ _ _, by rw [hg]; exact own_nil _ _ _ _, hx⟩
          · replace h118 := of_decide_eq_false h118
            have hg : gGuess s = ⟨((s.getD 0 0).toNat : Int), [], [], idZ, [], 0, [], idZ, 0, []⟩ := by unfold gGuess gBody; rw [if_neg hq, if_neg h30, if_neg h34, if_neg h68, if_neg h118]
            refine wskip ?_
            refine bn ?_
            refine tn ?_
            refine wseq ?_
            refine reg_list ?_
            refine segp (ρ' := [(2, .pointer (some ⟨bz, 0, none⟩)), (138, .agg ⟨.int .i64 (((s.getD 0 0).toNat : Nat) : Int) :: (.string (S []) :: (.slice none 0 0 :: ((idc idZ) ++ (.slice none 0 0 :: (.int .u32 0 :: (.string (S []) :: ((idc idZ) ++ (.int .i64 0 :: ([.string (S [])])))))))))⟩)]) (C := [RunOk Tryd.prog w4 (Instr.loadAt 54 (.pointer (some ⟨bo, 0, none⟩))) (.agg ⟨.int .i64 (((s.getD 0 0).toNat : Nat) : Int) :: (.string (S []) :: (.slice none 0 0 :: ((idc idZ) ++ (.slice none 0 0 :: (.int .u32 0 :: (.string (S []) :: ((idc idZ) ++ (.int .i64 0 :: ([.string (S [])])))))))))⟩)]) ha 1 [(0, .val (.agg ⟨.int .i64 (((s.getD 0 0).toNat : Nat) : Int) :: (.string (S []) :: (.slice none 0 0 :: ((idc idZ) ++ (.slice none 0 0 :: (.int .u32 0 :: (.string (S []) :: ((idc idZ) ++ (.int .i64 0 :: ([.string (S [])])))))))))⟩))] rfl (by kernel_rfl) (.cons (ldN (n := 72) hB_bo (by kernel_rfl) (by kernel_rfl) ⟨Nat.le_of_ble_eq_true (by kernel_rfl), (by kernel_rfl)⟩) .nil) ?_
            clear ha a; intro a ha
            refine lstore (off := 0) ha rfl rfl (by kernel_rfl) hB_bz ⟨.int .i64 (((s.getD 0 0).toNat : Nat) : Int) :: (.string (S []) :: (.slice none 0 0 :: ((idc idZ) ++ (.slice none 0 0 :: (.int .u32 0 :: (.string (S []) :: ((idc idZ) ++ (.int .i64 0 :: ([.string (S [])])))))))))⟩ rfl (by kernel_rfl) (by kernel_rfl) ?_
            clear ha a; intro w46 hc a ha
            replace hB_bo := hc.keep hB_bo (by first | assumption | exact Ne.symm (by assumption))
            replace hx := hc.ext hx hb_bz
            replace hB_bz := hc.at_; clear hc
            refine lnil ?_
            replace ha := ha.sub (ρ' := [(2, .pointer (some ⟨bz, 0, none⟩))]) (by kernel_rfl)
            refine tn ?_
            refine wret ?_
            refine fin ha (.cell rfl (ldVN (n := 72) (vs := ⟨.int .i64 (((s.getD 0 0).toNat : Nat) : Int) :: (.string (S []) :: (.slice none 0 0 :: ((idc idZ) ++ (.slice none 0 0 :: (.int .u32 0 :: (.string (S []) :: ((idc idZ) ++ (.int .i64 0 :: ([.string (S [])])))))))))⟩) hB_bz (by kernel_rfl) (by kernel_rfl) ⟨Nat.le_of_ble_eq_true (by kernel_rfl), (by kernel_rfl)⟩) .nil) ?_
            exact ⟨none, 0, none, 0, by rw [hg]; rfl, by rw [hg]; exact own_nil _ _ _ _, by rw [hg]; exact own_nil _ _ _ _, hx⟩
end Go.Kn
end
section
set_option linter.unusedSimpArgs false
set_option linter.unusedVariables false
set_option maxRecDepth 100000
namespace Go.Kn
open Go.Proofs
theorem oDec_err2 (s : List UInt8) : (oDec s).2 = 0 ∨ (oDec s).2 = 2 := by
  by_cases h : (oDec s).2 = 0
  · exact .inl h
  · rw [oDec_bad h]; exact .inr rfl
theorem renc2_ok (o : ObjL) (Ae Ap : Option Addr) (ce cp : Nat) (w : World) (hoe : Rd w 34 Ae o.Entries.length (o.Entries.flatMap encEnt)) (hop : Rd w 32 Ap o.Parents.length (o.Parents.flatMap idc)) (hok : ObjOk o) (hfw0 : oMay o = true → FewOk o) :
    Fn Tryd.prog 59 #[.agg ⟨objC o Ae ce Ap cp⟩] w (fun x w' => x = .tuple #[.string (S (rEnc o).1), .bool (rEnc o).2] ∧ Ext w w') := by
  have hx : Ext w w := Ext.rfl' w
  refine enter (N := 21) (args := [.agg ⟨objC o Ae ce Ap cp⟩]) Tryd.func59 rfl rfl rfl ?_
  intro a ha
  simp only [argEnv, Nat.zero_add, Nat.reduceAdd] at ha
  refine wseq ?_
  refine reg_list ?_
  refine lnew ha rfl (by kernel_rfl) ⟨objC o Ae ce Ap cp⟩ 54 (by kernel_rfl) ?_
  clear ha a; intro b1 w2 he hb_b1 hB_b1 a ha
  replace hb_b1 := Nat.le_trans hx.size hb_b1
  replace hx := hx.tr he
  clear he
  refine segp (ρ' := [(1, .pointer (some ⟨b1, 0, none⟩))]) (C := []) ha 2 [] rfl (by kernel_rfl) .nil ?_
  clear ha a; intro a ha
  refine lnil ?_
  replace ha := ha.sub (ρ' := [(1, .pointer (some ⟨b1, 0, none⟩))]) (by kernel_rfl)
  refine tn ?_
  refine wseq ?_
  refine reg hmix (ρ' := [(1, .pointer (some ⟨b1, 0, none⟩)), (4, .bool (oMay o))]) (C := [RunOk Tryd.prog w2 (Instr.loadAt 54 (.pointer (some ⟨b1, 0, none⟩))) (.agg ⟨objC o Ae ce Ap cp⟩), CallOk Tryd.prog w2 90 #[.agg ⟨objC o Ae ce Ap cp⟩] (.bool (oMay o))]) ha [(0, .val (.agg ⟨objC o Ae ce Ap cp⟩)), (1, .val (.bool (oMay o)))] (by kernel_rfl) (.cons (ldN (n := 72) hB_b1 (by kernel_rfl) (by kernel_rfl) ⟨Nat.le_of_ble_eq_true (by kernel_rfl), (by kernel_rfl)⟩) (.cons (fun w2 h2 => rmay_ok o _ _ _ _ w2 (rdE h2 (rdE hx hoe)) (rdE h2 (rdE hx hop)) hok) .nil)) ?_
  clear ha a; intro a w3 ha he
  replace hx := hx.tr he
  replace hB_b1 := keepB he hB_b1
  clear he
  refine tn ?_
  refine wseq ?_
  refine wseq ?_
  refine regp (ρ' := [(1, .pointer (some ⟨b1, 0, none⟩)), (9, .bool (!(oMay o)))]) (C := []) ha [] (by kernel_rfl) .nil ?_
  clear ha a; intro a ha
  refine tn ?_
  refine wif ha rfl (fun h9 => ?_) (fun h9 => ?_)
  · simp only [Bool.not_eq_true', Bool.not_eq_false', Bool.and_eq_true, Bool.or_eq_true, Bool.and_eq_false_iff, Bool.or_eq_false_iff, decide_eq_true_eq, decide_eq_false_iff_not, Bool.not_eq_true, Decidable.not_not] at h9
    have hres : rEnc o = ([], false) := by unfold rEnc; rw [if_neg (by simp [h9])]
    refine wseq ?_
    refine regp (ρ' := [(2, .string (S [])), (3, .bool false)]) (C := []) ha [] (by kernel_rfl) .nil ?_
    clear ha a; intro a ha
    refine tn ?_
    refine wret ?_
    refine (tr ?_)
    refine fin ha (.tmp rfl (.tmp rfl .nil)) ?_
    exact ⟨by rw [hres]; rfl, hx⟩
  · simp only [Bool.not_eq_true', Bool.not_eq_false', Bool.and_eq_true, Bool.or_eq_true, Bool.and_eq_false_iff, Bool.or_eq_false_iff, decide_eq_true_eq, decide_eq_false_iff_not, Bool.not_eq_true, Decidable.not_not] at h9
    have hfw := hfw0 (by simpa using h9)
    have hbl := rBody_len hfw
    have htl := vtext_len (rBody o)
    have hl5 : (oneB8 o.Kind).length = 1 := rfl
    refine wskip ?_
    refine tn ?_
    refine wseq ?_
    refine reg hmix (ρ' := [(5, .string (S ((oneB8 o.Kind) ++ (vtext (rBody o)))))]) (C := [RunOk Tryd.prog w3 (Instr.loadAt 3 (.pointer (some ⟨b1, 0, none⟩))) (.int .i64 o.Kind), CallOk Tryd.prog w3 91 #[.int .i64 o.Kind] (.string (S (oneB8 o.Kind))), RunOk Tryd.prog w3 (Instr.loadAt 54 (.pointer (some ⟨b1, 0, none⟩))) (.agg ⟨objC o Ae ce Ap cp⟩), CallOk Tryd.prog w3 93 #[.agg ⟨objC o Ae ce Ap cp⟩] (.string (S (rBody o))), CallOk Tryd.prog w3 92 #[.string (S (rBody o))] (.string (S (vtext (rBody o)))), ((oneB8 o.Kind) : List UInt8).length + ((vtext (rBody o)) : List UInt8).length ≤ 9223372036854775807]) ha [(1, .val (.int .i64 o.Kind)), (2, .val (.string (S (oneB8 o.Kind)))), (3, .val (.agg ⟨objC o Ae ce Ap cp⟩)), (4, .val (.string (S (rBody o)))), (5, .val (.string (S (vtext (rBody o)))))] (by kernel_rfl) (.cons (ld1 hB_b1 (by kernel_rfl) (by kernel_rfl)) (.cons (fun w _ => one_ok _ w) (.cons (ldN (n := 72) hB_b1 (by kernel_rfl) (by kernel_rfl) ⟨Nat.le_of_ble_eq_true (by kernel_rfl), (by kernel_rfl)⟩) (.cons (fun w2 h2 => rbody_ok o _ _ _ _ w2 (rdE h2 (rdE hx hoe)) (rdE h2 (rdE hx hop)) hok hfw) (.cons (fun w _ => rtext_ok _ w (by omega)) (.cons (by first | omega | (simp only [List.length_cons, List.length_nil, List.length_append, List.length_take, List.length_drop]; omega)) .nil)))))) ?_
    clear ha a; intro a w4 ha he
    replace hx := hx.tr he
    replace hB_b1 := keepB he hB_b1
    clear he
    refine tn ?_
    refine wseq ?_
    refine wseq ?_
    refine regp (ρ' := [(5, .string (S ((oneB8 o.Kind) ++ (vtext (rBody o))))), (19, .bool (decide ((4096 : Int) < ((((oneB8 o.Kind) ++ (vtext (rBody o))).length : Nat) : Int))))]) (C := []) ha [] (by kernel_rfl) .nil ?_
    clear ha a; intro a ha
    refine tn ?_
    refine wif ha rfl (fun h19 => ?_) (fun h19 => ?_)
    · replace h19 := of_decide_eq_true h19
      have hres : rEnc o = ([], false) := by unfold rEnc; rw [if_pos (by simpa using h9), if_pos (by omega)]
      refine wseq ?_
      refine regp (ρ' := [(2, .string (S [])), (3, .bool false)]) (C := []) ha [] (by kernel_rfl) .nil ?_
      clear ha a; intro a ha
      refine tn ?_
      refine wret ?_
      refine (tr ?_)
      refine fin ha (.tmp rfl (.tmp rfl .nil)) ?_
      exact ⟨by rw [hres]; rfl, hx⟩
    · replace h19 := of_decide_eq_false h19
      have hres : rEnc o = (oneB8 o.Kind ++ vtext (rBody o), true) := by unfold rEnc; rw [if_pos (by simpa using h9), if_neg (by omega)]
      refine wskip ?_
      refine tn ?_
      refine wseq ?_
      refine regp (ρ' := [(2, .string (S ((oneB8 o.Kind) ++ (vtext (rBody o))))), (3, .bool true)]) (C := []) ha [] (by kernel_rfl) .nil ?_
      clear ha a; intro a ha
      refine tn ?_
      refine wret ?_
      refine fin ha (.tmp rfl (.tmp rfl .nil)) ?_
      exact ⟨by rw [hres]; rfl, hx⟩
theorem rdec_ok (s : List UInt8) (w : World) (hs : s.length ≤ 5000) :
    Fn Tryd.prog 33 #[.string (S s)] w (fun x w' => ∃ Ae ce Ap cp, x = .tuple #[.agg ⟨objC (oDec s).1 Ae ce Ap cp⟩, .bool (decide ((oDec s).2 = 0))] ∧ Own w' w.heap.size 89 34 Ae (oDec s).1.Entries.length ce ((oDec s).1.Entries.flatMap encEnt) ∧ Own w' w.heap.size 24 32 Ap (oDec s).1.Parents.length cp ((oDec s).1.Parents.flatMap idc) ∧ Ext w w') := by
  have hx : Ext w w := Ext.rfl' w
  refine enter (N := 26) (args := [.string (S s)]) Tryd.func33 rfl rfl rfl ?_
  intro a ha
  simp only [argEnv, Nat.zero_add, Nat.reduceAdd] at ha
  refine wseq ?_
  refine reg_list ?_
  refine lnew ha rfl (by kernel_rfl) ⟨.int .i64 0 :: (.string (S []) :: (.slice none 0 0 :: ((idc idZ) ++ (.slice none 0 0 :: (.int .u32 0 :: (.string (S []) :: ((idc idZ) ++ (.int .i64 0 :: ([.string (S [])])))))))))⟩ 54 (by kernel_rfl) ?_
  clear ha a; intro bz w1 he hb_bz hB_bz a ha
  replace hb_bz := Nat.le_trans hx.size hb_bz
  replace hx := hx.tr he
  clear he
  refine segp (ρ' := [(0, .string (S s)), (2, .pointer (some ⟨bz, 0, none⟩))]) (C := []) ha 1 [] rfl (by kernel_rfl) .nil ?_
  clear ha a; intro a ha
  refine lnil ?_
  replace ha := ha.sub (ρ' := [(0, .string (S s)), (2, .pointer (some ⟨bz, 0, none⟩))]) (by kernel_rfl)
  refine tn ?_
  refine wseq ?_
  refine wseq ?_
  refine regp (ρ' := [(0, .string (S s)), (2, .pointer (some ⟨bz, 0, none⟩)), (8, .bool (decide ((s : List UInt8) = ([] : List UInt8))))]) (C := []) ha [] (by kernel_rfl) .nil ?_
  clear ha a; intro a ha
  refine tn ?_
  refine wif ha rfl (fun h8 => ?_) (fun h8 => ?_)
  · replace h8 := of_decide_eq_true h8
    have hres : oDec s = (obj0, 2) := by rw [show s = [] by simpa using h8]; exact rdec_nil
    refine wseq ?_
    refine reg_list ?_
    refine segp (ρ' := [(2, .pointer (some ⟨bz, 0, none⟩)), (9, .agg ⟨.int .i64 0 :: (.string (S []) :: (.slice none 0 0 :: ((idc idZ) ++ (.slice none 0 0 :: (.int .u32 0 :: (.string (S []) :: ((idc idZ) ++ (.int .i64 0 :: ([.string (S [])])))))))))⟩)]) (C := []) ha 1 [] rfl (by kernel_rfl) .nil ?_
    clear ha a; intro a ha
    refine lstore (off := 0) ha rfl rfl (by kernel_rfl) hB_bz ⟨.int .i64 0 :: (.string (S []) :: (.slice none 0 0 :: ((idc idZ) ++ (.slice none 0 0 :: (.int .u32 0 :: (.string (S []) :: ((idc idZ) ++ (.int .i64 0 :: ([.string (S [])])))))))))⟩ rfl (by kernel_rfl) (by kernel_rfl) ?_
    clear ha a; intro w2 hc a ha
    replace hx := hc.ext hx hb_bz
    replace hB_bz := hc.at_; clear hc
    refine segp (ρ' := [(2, .pointer (some ⟨bz, 0, none⟩)), (3, .bool false)]) (C := []) ha 1 [] rfl (by kernel_rfl) .nil ?_
    clear ha a; intro a ha
    refine lnil ?_
    replace ha := ha.sub (ρ' := [(2, .pointer (some ⟨bz, 0, none⟩)), (3, .bool false)]) (by kernel_rfl)
    refine tn ?_
    refine wret ?_
    refine (tr ?_)
    refine fin ha (.cell rfl (ldVN (n := 72) (vs := ⟨.int .i64 0 :: (.string (S []) :: (.slice none 0 0 :: ((idc idZ) ++ (.slice none 0 0 :: (.int .u32 0 :: (.string (S []) :: ((idc idZ) ++ (.int .i64 0 :: ([.string (S [])])))))))))⟩) hB_bz (by kernel_rfl) (by kernel_rfl) ⟨Nat.le_of_ble_eq_true (by kernel_rfl), (by kernel_rfl)⟩) (.tmp rfl .nil)) ?_
    exact ⟨none, 0, none, 0, by rw [hres]; rfl, by rw [hres]; exact own_nil _ _ _ _, by rw [hres]; exact own_nil _ _ _ _, hx⟩
  · replace h8 := of_decide_eq_false h8
    have hs0 : 0 < s.length := List.length_pos_iff.2 (by simpa using h8)
    refine wskip ?_
    refine tn ?_
    refine wseq ?_
    refine reg_list ?_
    refine segp (ρ' := [(0, .string (S s)), (2, .pointer (some ⟨bz, 0, none⟩)), (10, .string (S s))]) (C := []) ha 1 [] rfl (by kernel_rfl) .nil ?_
    clear ha a; intro a ha
    refine lcall (vs := #[.string (S s)]) ha rfl (by kernel_rfl) rfl rfl (by kernel_rfl) (by kernel_rfl) (rguess_ok _ _ (by omega) (by omega)) ?_
    clear ha a; rintro _ w9 ⟨Ae3, ce4, Ap5, cp6, rfl, hoe7, hop8, he⟩ a ha
    replace hoe7 := own_base hx.size hoe7
    replace hop8 := own_base hx.size hop8
    replace hB_bz := keepB he hB_bz
    replace hx := hx.tr he
    clear he
    refine lnew ha rfl (by kernel_rfl) ⟨.int .i64 0 :: (.string (S []) :: (.slice none 0 0 :: ((idc idZ) ++ (.slice none 0 0 :: (.int .u32 0 :: (.string (S []) :: ((idc idZ) ++ (.int .i64 0 :: ([.string (S [])])))))))))⟩ 54 (by kernel_rfl) ?_
    clear ha a; intro bo w10 he hb_bo hB_bo a ha
    have hne_bz_bo : bz ≠ bo := ne_new hB_bz hb_bo
    replace hB_bz := keepB he hB_bz
    replace hoe7 := ownE he hoe7
    replace hop8 := ownE he hop8
    replace hb_bo := Nat.le_trans hx.size hb_bo
    replace hx := hx.tr he
    clear he
    refine lstore (off := 0) ha rfl rfl (by kernel_rfl) hB_bo ⟨objC (gGuess s) Ae3 ce4 Ap5 cp6⟩ rfl (by kernel_rfl) (by kernel_rfl) ?_
    clear ha a; intro w11 hc a ha
    replace hB_bz := hc.keep hB_bz (by first | assumption | exact Ne.symm (by assumption))
    replace hoe7 := ownC hc hB_bo rfl hoe7
    replace hop8 := ownC hc hB_bo rfl hop8
    replace hx := hc.ext hx hb_bo
    replace hB_bo := hc.at_; clear hc
    refine lnil ?_
    replace ha := ha.sub (ρ' := [(0, .string (S s)), (2, .pointer (some ⟨bz, 0, none⟩)), (4, .pointer (some ⟨bo, 0, none⟩))]) (by kernel_rfl)
    refine tn ?_
    refine wseq ?_
    refine reg hmix (ρ' := [(0, .string (S s)), (2, .pointer (some ⟨bz, 0, none⟩)), (4, .pointer (some ⟨bo, 0, none⟩)), (5, .string (S ((rEnc (gGuess s)).1))), (6, .bool ((rEnc (gGuess s)).2))]) (C := [RunOk Tryd.prog w11 (Instr.loadAt 54 (.pointer (some ⟨bo, 0, none⟩))) (.agg ⟨objC (gGuess s) Ae3 ce4 Ap5 cp6⟩), CallOk Tryd.prog w11 59 #[.agg ⟨objC (gGuess s) Ae3 ce4 Ap5 cp6⟩] (.tuple #[.string (S ((rEnc (gGuess s)).1)), .bool ((rEnc (gGuess s)).2)])]) ha [(0, .val (.agg ⟨objC (gGuess s) Ae3 ce4 Ap5 cp6⟩)), (1, .val (.tuple #[.string (S ((rEnc (gGuess s)).1)), .bool ((rEnc (gGuess s)).2)]))] (by kernel_rfl) (.cons (ldN (n := 72) hB_bo (by kernel_rfl) (by kernel_rfl) ⟨Nat.le_of_ble_eq_true (by kernel_rfl), (by kernel_rfl)⟩) (.cons (fun w2 h2 => renc2_ok (gGuess s) _ _ _ _ w2 (rdE h2 (own_rd hoe7)) (rdE h2 (own_rd hop8)) (gGuess_ok (by omega)) (fun hm => gGuess_few (by omega) hm)) .nil)) ?_
    clear ha a; intro a w12 ha he
    replace hx := hx.tr he
    replace hB_bz := keepB he hB_bz
    replace hB_bo := keepB he hB_bo
    replace hoe7 := ownE he hoe7
    replace hop8 := ownE he hop8
    clear he
    refine tn ?_
    refine wseq ?_
    refine wseq ?_
    refine regp (ρ' := [(2, .pointer (some ⟨bz, 0, none⟩)), (4, .pointer (some ⟨bo, 0, none⟩)), (23, .bool ((!((rEnc (gGuess s)).2)) || (!decide (((rEnc (gGuess s)).1 : List UInt8) = (s : List UInt8)))))]) (C := []) ha [] (by kernel_rfl) .nil ?_
    clear ha a; intro a ha
    refine tn ?_
    refine wif ha rfl (fun h23 => ?_) (fun h23 => ?_)
    · simp only [Bool.not_eq_true', Bool.not_eq_false', Bool.and_eq_true, Bool.or_eq_true, Bool.and_eq_false_iff, Bool.or_eq_false_iff, decide_eq_true_eq, decide_eq_false_iff_not, Bool.not_eq_true, Decidable.not_not] at h23
      have hres := rdec_no (s := s) (by simpa using h23)
      refine wseq ?_
      refine reg_list ?_
      refine segp (ρ' := [(2, .pointer (some ⟨bz, 0, none⟩)), (24, .agg ⟨.int .i64 0 :: (.string (S []) :: (.slice none 0 0 :: ((idc idZ) ++ (.slice none 0 0 :: (.int .u32 0 :: (.string (S []) :: ((idc idZ) ++ (.int .i64 0 :: ([.string (S [])])))))))))⟩)]) (C := []) ha 1 [] rfl (by kernel_rfl) .nil ?_
      clear ha a; intro a ha
      refine lstore (off := 0) ha rfl rfl (by kernel_rfl) hB_bz ⟨.int .i64 0 :: (.string (S []) :: (.slice none 0 0 :: ((idc idZ) ++ (.slice none 0 0 :: (.int .u32 0 :: (.string (S []) :: ((idc idZ) ++ (.int .i64 0 :: ([.string (S [])])))))))))⟩ rfl (by kernel_rfl) (by kernel_rfl) ?_
      clear ha a; intro w13 hc a ha
      replace hB_bo := hc.keep hB_bo (by first | assumption | exact Ne.symm (by assumption))
      replace hoe7 := ownC hc hB_bz rfl hoe7
      replace hop8 := ownC hc hB_bz rfl hop8
      replace hx := hc.ext hx hb_bz
      replace hB_bz := hc.at_; clear hc
      refine segp (ρ' := [(2, .pointer (some ⟨bz, 0, none⟩)), (3, .bool false)]) (C := []) ha 1 [] rfl (by kernel_rfl) .nil ?_
      clear ha a; intro a ha
      refine lnil ?_
      replace ha := ha.sub (ρ' := [(2, .pointer (some ⟨bz, 0, none⟩)), (3, .bool false)]) (by kernel_rfl)
      refine tn ?_
      refine wret ?_
      refine (tr ?_)
      refine fin ha (.cell rfl (ldVN (n := 72) (vs := ⟨.int .i64 0 :: (.string (S []) :: (.slice none 0 0 :: ((idc idZ) ++ (.slice none 0 0 :: (.int .u32 0 :: (.string (S []) :: ((idc idZ) ++ (.int .i64 0 :: ([.string (S [])])))))))))⟩) hB_bz (by kernel_rfl) (by kernel_rfl) ⟨Nat.le_of_ble_eq_true (by kernel_rfl), (by kernel_rfl)⟩) (.tmp rfl .nil)) ?_
      exact ⟨none, 0, none, 0, by rw [hres]; rfl, by rw [hres]; exact own_nil _ _ _ _, by rw [hres]; exact own_nil _ _ _ _, hx⟩
    · simp only [Bool.not_eq_true', Bool.not_eq_false', Bool.and_eq_true, Bool.or_eq_true, Bool.and_eq_false_iff, Bool.or_eq_false_iff, decide_eq_true_eq, decide_eq_false_iff_not, Bool.not_eq_true, Decidable.not_not] at h23
      have hres := rdec_yes (s := s) (by have := h23.1; simpa using this) (by have := h23.2; simpa using this)
      refine wskip ?_
      refine tn ?_
      refine wseq ?_
      refine reg_list ?_
      refine segp (ρ' := [(2, .pointer (some ⟨bz, 0, none⟩)), (25, .agg ⟨objC (gGuess s) Ae3 ce4 Ap5 cp6⟩)]) (C := [RunOk Tryd.prog w12 (Instr.loadAt 54 (.pointer (some ⟨bo, 0, none⟩))) (.agg ⟨objC (gGuess s) Ae3 ce4 Ap5 cp6⟩)]) ha 1 [(0, .val (.agg ⟨objC (gGuess s) Ae3 ce4 Ap5 cp6⟩))] rfl (by kernel_rfl) (.cons (ldN (n := 72) hB_bo (by kernel_rfl) (by kernel_rfl) ⟨Nat.le_of_ble_eq_true (by kernel_rfl), (by kernel_rfl)⟩) .nil) ?_
      clear ha a; intro a ha
      refine lstore (off := 0) ha rfl rfl (by kernel_rfl) hB_bz ⟨objC (gGuess s) Ae3 ce4 Ap5 cp6⟩ rfl (by kernel_rfl) (by kernel_rfl) ?_
      clear ha a; intro w14 hc a ha
      replace hB_bo := hc.keep hB_bo (by first | assumption | exact Ne.symm (by assumption))
      replace hoe7 := ownC hc hB_bz rfl hoe7
      replace hop8 := ownC hc hB_bz rfl hop8
      replace hx := hc.ext hx hb_bz
      replace hB_bz := hc.at_; clear hc
      refine segp (ρ' := [(2, .pointer (some ⟨bz, 0, none⟩)), (3, .bool true)]) (C := []) ha 1 [] rfl (by kernel_rfl) .nil ?_
      clear ha a; intro a ha
      refine lnil ?_
      replace ha := ha.sub (ρ' := [(2, .pointer (some ⟨bz, 0, none⟩)), (3, .bool true)]) (by kernel_rfl)
      refine tn ?_
      refine wret ?_
      refine fin ha (.cell rfl (ldVN (n := 72) (vs := ⟨objC (gGuess s) Ae3 ce4 Ap5 cp6⟩) hB_bz (by kernel_rfl) (by kernel_rfl) ⟨Nat.le_of_ble_eq_true (by kernel_rfl), (by kernel_rfl)⟩) (.tmp rfl .nil)) ?_
      exact ⟨_, _, _, _, by rw [hres]; rfl, by rw [hres]; exact hoe7, by rw [hres]; exact hop8, hx⟩
theorem objectDecodes_walk (s : List UInt8) (w : World) (hs : s.length ≤ 9223372036854775807) {T0 : Nat} {f0 : Nat × Nat} (hB_0 : w.heap[0]? = some (.cells ⟨wc shaK⟩ T0 f0)) :
    Fn Tryd.prog 8 #[.string (S s)] w (fun x w' => x = .bool true ∧ Ext w w') := by
  have hG_0 := hB_0
  have hx : Ext w w := Ext.rfl' w
  refine enter (N := 49) (args := [.string (S s)]) Tryd.func8 rfl rfl rfl ?_
  intro a ha
  simp only [argEnv, Nat.zero_add, Nat.reduceAdd] at ha
  refine wseq ?_
  refine regp (ρ' := [(0, .string (S s))]) (C := []) ha [] (by kernel_rfl) .nil ?_
  clear ha a; intro a ha
  refine tn ?_
  refine wseq ?_
  refine wseq ?_
  refine regp (ρ' := [(0, .string (S s)), (10, .bool (decide ((600 : Int) < ((s.length : Nat) : Int))))]) (C := []) ha [] (by kernel_rfl) .nil ?_
  clear ha a; intro a ha
  refine tn ?_
  refine wif ha rfl (fun h10 => ?_) (fun h10 => ?_)
  · replace h10 := of_decide_eq_true h10
    refine wseq ?_
    refine reg hmix (ρ' := [(2, .bool true)]) (C := [CallOk Tryd.prog w 31 #[] (.bool true)]) ha [(0, .val (.bool true))] (by kernel_rfl) (.cons (fun w _ => knows4_ok w) .nil) ?_
    clear ha a; intro a w1 ha he
    replace hx := hx.tr he
    replace hB_0 := keepB he hB_0
    clear he
    refine tn ?_
    refine wret ?_
    refine (tr ?_)
    refine fin ha (.tmp rfl .nil) ?_
    exact ⟨rfl, hx⟩
  · replace h10 := of_decide_eq_false h10
    refine wskip ?_
    refine tn ?_
    refine wseq ?_
    refine reg_list ?_
    refine segp (ρ' := [(0, .string (S s)), (13, .string (S s))]) (C := []) ha 1 [] rfl (by kernel_rfl) .nil ?_
    clear ha a; intro a ha
    refine lcall (vs := #[.string (S s)]) ha rfl (by kernel_rfl) rfl rfl (by kernel_rfl) (by kernel_rfl) (odec_ok _ _ (by first | omega | (simp; done) | (simp; omega))) ?_
    clear ha a; rintro _ w8 ⟨Ae2, ce3, Ap4, cp5, rfl, hoe6, hop7, he⟩ a ha
    replace hoe6 := own_base hx.size hoe6
    replace hop7 := own_base hx.size hop7
    replace hB_0 := keepB he hB_0
    replace hx := hx.tr he
    clear he
    refine segp (ρ' := [(0, .string (S s)), (15, .agg ⟨objC ((oDec s).1) Ae2 ce3 Ap4 cp5⟩), (16, .int .i64 ((oDec s).2))]) (C := []) ha 3 [] rfl (by kernel_rfl) .nil ?_
    clear ha a; intro a ha
    refine lnew ha rfl (by kernel_rfl) ⟨.int .i64 0 :: (.string (S []) :: (.slice none 0 0 :: ((idc idZ) ++ (.slice none 0 0 :: (.int .u32 0 :: (.string (S []) :: ((idc idZ) ++ (.int .i64 0 :: ([.string (S [])])))))))))⟩ 54 (by kernel_rfl) ?_
    clear ha a; intro bp w9 he hb_bp hB_bp a ha
    have hne_0_bp : 0 ≠ bp := ne_new hB_0 hb_bp
    replace hB_0 := keepB he hB_0
    replace hoe6 := ownE he hoe6
    replace hop7 := ownE he hop7
    replace hb_bp := Nat.le_trans hx.size hb_bp
    replace hx := hx.tr he
    clear he
    refine lstore (off := 0) ha rfl rfl (by kernel_rfl) hB_bp ⟨objC ((oDec s).1) Ae2 ce3 Ap4 cp5⟩ rfl (by kernel_rfl) (by kernel_rfl) ?_
    clear ha a; intro w10 hc a ha
    replace hB_0 := hc.keep hB_0 (by first | assumption | exact Ne.symm (by assumption))
    replace hoe6 := ownC hc hB_bp rfl hoe6
    replace hop7 := ownC hc hB_bp rfl hop7
    replace hx := hc.ext hx hb_bp
    replace hB_bp := hc.at_; clear hc
    refine segp (ρ' := [(0, .string (S s)), (3, .pointer (some ⟨bp, 0, none⟩)), (4, .int .i64 ((oDec s).2))]) (C := []) ha 1 [] rfl (by kernel_rfl) .nil ?_
    clear ha a; intro a ha
    refine lnil ?_
    replace ha := ha.sub (ρ' := [(0, .string (S s)), (3, .pointer (some ⟨bp, 0, none⟩)), (4, .int .i64 ((oDec s).2))]) (by kernel_rfl)
    refine tn ?_
    refine wseq ?_
    refine reg_list ?_
    refine segp (ρ' := [(0, .string (S s)), (3, .pointer (some ⟨bp, 0, none⟩)), (4, .int .i64 ((oDec s).2)), (18, .string (S s))]) (C := []) ha 1 [] rfl (by kernel_rfl) .nil ?_
    clear ha a; intro a ha
    refine lcall (vs := #[.string (S s)]) ha rfl (by kernel_rfl) rfl rfl (by kernel_rfl) (by kernel_rfl) (rdec_ok _ _ (by omega)) ?_
    clear ha a; rintro _ w17 ⟨Ae11, ce12, Ap13, cp14, rfl, hoe15, hop16, he⟩ a ha
    replace hoe15 := own_base hx.size hoe15
    replace hop16 := own_base hx.size hop16
    replace hB_0 := keepB he hB_0
    replace hB_bp := keepB he hB_bp
    replace hoe6 := ownE he hoe6
    replace hop7 := ownE he hop7
    replace hx := hx.tr he
    clear he
    refine segp (ρ' := [(0, .string (S s)), (3, .pointer (some ⟨bp, 0, none⟩)), (4, .int .i64 ((oDec s).2)), (20, .agg ⟨objC ((oDec s).1) Ae11 ce12 Ap13 cp14⟩), (21, .bool (decide ((oDec s).2 = 0)))]) (C := []) ha 3 [] rfl (by kernel_rfl) .nil ?_
    clear ha a; intro a ha
    refine lnew ha rfl (by kernel_rfl) ⟨.int .i64 0 :: (.string (S []) :: (.slice none 0 0 :: ((idc idZ) ++ (.slice none 0 0 :: (.int .u32 0 :: (.string (S []) :: ((idc idZ) ++ (.int .i64 0 :: ([.string (S [])])))))))))⟩ 54 (by kernel_rfl) ?_
    clear ha a; intro bq w18 he hb_bq hB_bq a ha
    have hne_0_bq : 0 ≠ bq := ne_new hB_0 hb_bq
    have hne_bp_bq : bp ≠ bq := ne_new hB_bp hb_bq
    replace hB_0 := keepB he hB_0
    replace hB_bp := keepB he hB_bp
    replace hoe6 := ownE he hoe6
    replace hop7 := ownE he hop7
    replace hoe15 := ownE he hoe15
    replace hop16 := ownE he hop16
    replace hb_bq := Nat.le_trans hx.size hb_bq
    replace hx := hx.tr he
    clear he
    refine lstore (off := 0) ha rfl rfl (by kernel_rfl) hB_bq ⟨objC ((oDec s).1) Ae11 ce12 Ap13 cp14⟩ rfl (by kernel_rfl) (by kernel_rfl) ?_
    clear ha a; intro w19 hc a ha
    replace hB_0 := hc.keep hB_0 (by first | assumption | exact Ne.symm (by assumption))
    replace hB_bp := hc.keep hB_bp (by first | assumption | exact Ne.symm (by assumption))
    replace hoe6 := ownC hc hB_bq rfl hoe6
    replace hop7 := ownC hc hB_bq rfl hop7
    replace hoe15 := ownC hc hB_bq rfl hoe15
    replace hop16 := ownC hc hB_bq rfl hop16
    replace hx := hc.ext hx hb_bq
    replace hB_bq := hc.at_; clear hc
    refine segp (ρ' := [(0, .string (S s)), (3, .pointer (some ⟨bp, 0, none⟩)), (4, .int .i64 ((oDec s).2)), (5, .pointer (some ⟨bq, 0, none⟩)), (6, .bool (decide ((oDec s).2 = 0)))]) (C := []) ha 1 [] rfl (by kernel_rfl) .nil ?_
    clear ha a; intro a ha
    refine lnil ?_
    replace ha := ha.sub (ρ' := [(0, .string (S s)), (3, .pointer (some ⟨bp, 0, none⟩)), (4, .int .i64 ((oDec s).2)), (5, .pointer (some ⟨bq, 0, none⟩)), (6, .bool (decide ((oDec s).2 = 0)))]) (by kernel_rfl)
    refine tn ?_
    refine wseq ?_
    refine reg hmix (ρ' := [(0, .string (S s)), (4, .int .i64 ((oDec s).2)), (6, .bool (decide ((oDec s).2 = 0))), (7, .bool (decide ((oDec s).1 = (oDec s).1)))]) (C := [RunOk Tryd.prog w19 (Instr.loadAt 54 (.pointer (some ⟨bp, 0, none⟩))) (.agg ⟨objC ((oDec s).1) Ae2 ce3 Ap4 cp5⟩), RunOk Tryd.prog w19 (Instr.loadAt 54 (.pointer (some ⟨bq, 0, none⟩))) (.agg ⟨objC ((oDec s).1) Ae11 ce12 Ap13 cp14⟩), CallOk Tryd.prog w19 34 #[.agg ⟨objC ((oDec s).1) Ae2 ce3 Ap4 cp5⟩, .agg ⟨objC ((oDec s).1) Ae11 ce12 Ap13 cp14⟩] (.bool (decide ((oDec s).1 = (oDec s).1)))]) ha [(0, .val (.agg ⟨objC ((oDec s).1) Ae2 ce3 Ap4 cp5⟩)), (1, .val (.agg ⟨objC ((oDec s).1) Ae11 ce12 Ap13 cp14⟩)), (2, .val (.bool (decide ((oDec s).1 = (oDec s).1))))] (by kernel_rfl) (.cons (ldN (n := 72) hB_bp (by kernel_rfl) (by kernel_rfl) ⟨Nat.le_of_ble_eq_true (by kernel_rfl), (by kernel_rfl)⟩) (.cons (ldN (n := 72) hB_bq (by kernel_rfl) (by kernel_rfl) ⟨Nat.le_of_ble_eq_true (by kernel_rfl), (by kernel_rfl)⟩) (.cons (fun w2 h2 => same_ok ((oDec s).1) ((oDec s).1) _ _ _ _ _ _ _ _ w2 (rdE h2 (own_rd hoe6)) (rdE h2 (own_rd hop7)) (rdE h2 (own_rd hoe15)) (rdE h2 (own_rd hop16)) (by first | assumption | exact oDec_ok _) (by first | assumption | exact oDec_ok _)) .nil))) ?_
    clear ha a; intro a w20 ha he
    replace hx := hx.tr he
    replace hB_0 := keepB he hB_0
    replace hB_bp := keepB he hB_bp
    replace hB_bq := keepB he hB_bq
    replace hoe6 := ownE he hoe6
    replace hop7 := ownE he hop7
    replace hoe15 := ownE he hoe15
    replace hop16 := ownE he hop16
    clear he
    refine tn ?_
    refine wseq ?_
    refine reg hmix (ρ' := [(2, .bool ((((true && (decide ((oDec s).1 = (oDec s).1))) && ((decide (((oDec s).2 : Int) = 0)) == (decide ((oDec s).2 = 0)))) && ((decide ((oDec s).2 = 0)) || (decide (((oDec s).2 : Int) = 2)))) && (decide ((shaSum s) = (shaSum s)))))]) (C := [CallOk Tryd.prog w20 31 #[] (.bool true), (((true && (decide ((oDec s).1 = (oDec s).1))) && ((decide (((oDec s).2 : Int) = 0)) == (decide ((oDec s).2 = 0)))) && ((decide ((oDec s).2 = 0)) || (decide (((oDec s).2 : Int) = 2)))) = true → All [CallOk Tryd.prog w20 35 #[.string (S s)] (.agg ⟨idc (shaSum s)⟩), CallOk Tryd.prog w20 11 #[.string (S s)] (.agg ⟨idc (shaSum s)⟩), BinOk Tryd.prog .eql 24 (.agg ⟨idc (shaSum s)⟩) (.agg ⟨idc (shaSum s)⟩) (.bool (decide ((shaSum s) = (shaSum s))))]]) ha [(0, .val (.bool true)), (19, .val (.agg ⟨idc (shaSum s)⟩)), (21, .val (.agg ⟨idc (shaSum s)⟩)), (22, .val (.bool (decide ((shaSum s) = (shaSum s)))))] (by kernel_rfl) (.cons (fun w _ => knows4_ok w) (.cons (fun hg18 => by simp only [Bool.not_eq_true', Bool.not_eq_false', Bool.and_eq_true, Bool.or_eq_true, Bool.and_eq_false_iff, Bool.or_eq_false_iff, decide_eq_true_eq, decide_eq_false_iff_not, Bool.not_eq_true, Decidable.not_not] at hg18; exact (.cons (fun w2 h2 => oid_ok _ w2 (by omega) (keepB h2 hB_0)) (.cons (fun w _ => rsum_ok _ w (by omega)) (.cons (eqIdE (x := (shaSum s)) (y := (shaSum s)) (by kernel_rfl)) .nil)))) .nil)) ?_
    clear ha a; intro a w21 ha he
    replace hx := hx.tr he
    replace hB_0 := keepB he hB_0
    replace hB_bp := keepB he hB_bp
    replace hB_bq := keepB he hB_bq
    replace hoe6 := ownE he hoe6
    replace hop7 := ownE he hop7
    replace hoe15 := ownE he hoe15
    replace hop16 := ownE he hop16
    clear he
    refine tn ?_
    refine wret ?_
    refine fin ha (.tmp rfl .nil) ?_
    exact ⟨congrArg Value.bool (by rcases oDec_err2 s with h | h <;> simp [h]), hx⟩
end Go.Kn
end
section
/- The table of the sums' constants: the door's run lays it; what the condition gives the walks. -/
namespace Go.Kn
open Go.Proofs
set_option maxRecDepth 100000
open Go.ChangeShapes Go.WideShapes Go.ChangeAt Go.RowKit
set_option linter.unusedVariables false
abbrev LAIDK : List (String × DataW Unit) := [("knapsack/sha256.constants", Go.Proofs.YtihmegmambmljaaDoor.Rows.laid_knapsack_sha256_constants)]
theorem gK : Tryd.prog.globalNamed "knapsack/sha256.constants" = some 0 := by kernel_rfl
theorem tK : (Tryd.prog.globals[0]?).map (·.type) = some 67 := by kernel_rfl
theorem door_met (os : Os) (args : Array Value) : laidMetH Tryd.prog LAIDK ((World.doorLaid Tryd.prog 400 os).forCall (fun _ _ => 0) ⟨#[], args, []⟩).memory :=
  laidMetH_of_parts3 (fuel := 8) (laidMet_of_run' 8 (by kernel_rfl) (by kernel_rfl)) (by kernel_rfl) (by kernel_rfl)
theorem kdata : (Go.Proofs.YtihmegmambmljaaDoor.Rows.laid_knapsack_sha256_constants : DataW Unit) = .agg (shaKl.map fun v => .lit (.int .u32 ((v : Nat) : Int))) := rfl
theorem cells_u32 {P : Program} {enc : TypeId × Value → Unit} {w : World} {e : TypeId} {m : Nat} {sp : Nat → Bool} (he : P.underlying e = some (.int .u32)) (hc : P.cellsOf e = 1) :
    ∀ (l : List Nat) (cs : List Value) (xs : List (DataW Unit × List MemPlace)), cs.length = l.length → xs.map (·.1) = l.map (fun v => DataW.lit (.int .u32 ((v : Nat) : Int))) →
      (∀ i, i < l.length → DataW.trod enc P w 0 sp false m e ((cs.drop (i * P.cellsOf e)).take (P.cellsOf e)) = xs[i]?) → cs = l.map wcv := by
  intro l
  induction l with
  | nil => intro cs xs hl _ _; simpa using hl
  | cons v l ih =>
    intro cs xs hl hx hel
    cases cs with
    | nil => simp at hl
    | cons c cs =>
      cases xs with
      | nil => simp at hx
      | cons x xs =>
        simp only [List.map_cons, List.cons.injEq] at hx
        have h0 := hel 0 (by simp)
        rw [hc] at h0
        simp only [Nat.zero_mul, List.drop_zero, List.take_succ_cons, List.take_zero, List.getElem?_cons_zero] at h0
        obtain ⟨k, e1, e2, _⟩ := DataW.trod_int he h0
        have hk : k = ((v : Nat) : Int) := by rw [e2] at hx; simpa using hx.1
        have hc0 : c = wcv v := by
          simp only [List.cons.injEq, and_true] at e1
          rw [e1, hk]; rfl
        rw [hc0, List.map_cons, ih cs xs (by simpa using hl) hx.2 (fun i hi => by
          have h := hel (i + 1) (by simpa using hi)
          rw [hc] at h ⊢
          simpa using h)]
theorem of_laid {W : World} (h : laidMetH Tryd.prog LAIDK W) : ∃ T0 f0, W.heap[0]? = some (.cells ⟨wc shaK⟩ T0 f0) := by
  rw [MakeChecks.laidMetH_plain _ _ _ (by kernel_rfl)] at h
  obtain ⟨ps, ⟨g0, t0, cs0, f0, p0, q0, hg0, ht0, hv0, hd0, _, _⟩, _, _⟩ := h
  obtain rfl := Option.some.inj (gK.symm.trans hg0)
  obtain rfl := Option.some.inj (tK.symm.trans ht0)
  have hu : Tryd.prog.underlying 67 = some (.array 64 52) := by kernel_rfl
  have hc1 : Tryd.prog.cellsOf 52 = 1 := by kernel_rfl
  have hc2 : Tryd.prog.cellsOf 67 = 64 := by kernel_rfl
  obtain ⟨xs, m1, rfl, hx1, hlen, hn3, hel⟩ := DataW.trod_array hu hd0
  simp only [Prod.mk.injEq] at hx1
  have hx2 := hx1.1
  rw [kdata, DataW.agg.injEq] at hx2
  have hsl : shaKl.length = 64 := rfl
  have hcs : cs0.toList = shaKl.map wcv := cells_u32 (show Tryd.prog.underlying 52 = some (.int .u32) by kernel_rfl) hc1 shaKl cs0.toList xs (by rw [hlen, hc2, hsl]) hx2.symm (fun i hi => hel i (by rw [hsl] at hi; exact hi))
  have hcs' : cs0 = ⟨wc shaK⟩ := by
    apply Array.ext'
    rw [hcs]; rfl
  subst hcs'
  simp only [World.var?, gK, Option.bind_some] at hv0
  split at hv0
  · rename_i cs T f hh
    obtain rfl := Option.some.inj hv0
    exact ⟨T, f, hh⟩
  · cases hv0
end Go.Kn
end
section
/- ObjectDecodes: for every input the law returns true, and each argument reads behind the call as it read before. -/
namespace Go.Proofs.YtihmegmambmljaaDoor.rowObjectDecodes
open Go.ChangeShapes Go.WideShapes Go.ChangeAt Go.RowKit
open Go.ChangeMaps (open_string shut_string)
set_option linter.unusedVariables false
set_option linter.unusedSimpArgs false
theorem own : ownKnob Tryd.prog.godebug = none := by kernel_rfl
set_option maxRecDepth 100000 in
theorem lifted (os : Os) (started : os.Started) (H : Type) (enc : TypeId × Value → H) :
    ReturnsInHanded {} Tryd.checked os 8 .any (fun w args => (Rows.objectDecodesSpec.pre enc Tryd.prog Tryd.f8 [] false w args ∧ laidMetH Tryd.prog Go.Kn.LAIDK w) ∧ sizedMet enc Tryd.prog Tryd.f8 (OpenSpec.ofChange Rows.objectDecodesSpec) false w args) (Rows.objectDecodesSpec.post enc Tryd.prog Tryd.f8 false true false false) := by
  refine returnsInHanded_of_change_and (C := Tryd.checked) (X := fun w _ => laidMetH Tryd.prog Go.Kn.LAIDK w) (fun _ _ _ hh h => h.of_heap hh) own started (by kernel_rfl) Tryd.func8
    (ChangeSpec.witness_shaped (enc := enc) (C := Tryd.checked) (os := os) (X := fun w _ => laidMetH Tryd.prog Go.Kn.LAIDK w) false (World.doorLaid Tryd.prog 400 os) #[.string ByteArray.empty] 8 rfl (World.shaped_of_RefB (by kernel_rfl) (by kernel_rfl)) (by kernel_rfl) (by kernel_rfl) (by kernel_rfl) (Go.Kn.door_met os _)) ?_
  intro W base args ds gs before hval0 hW hcnd hsz0 hL _
  have hsz : (DataW.weightsEach Tryd.prog (Tryd.f8.params.toList ++ Rows.objectDecodesSpec.plain.varTypes Tryd.prog) (ds ++ gs)).all (· ≤ reachBytes) = true := hsz0
  have hval : ∀ (j : Nat) t v, Tryd.f8.params[j]? = some t → args[j]? = some v → Value.okWide Tryd.prog W .any base t v := hval0
  have hW' := hW
  obtain ⟨p, q, hA0, hV, rfl, hfz, hnd⟩ := hW
  have hA : DataW.TrodAll enc Tryd.prog W 0 (fun _ => true) true Tryd.f8.params.toList args.toList ds p := hA0
  rw [Tryd.params8] at hA hval hsz
  obtain ⟨v0, vs0, d0, ds0, p0, q0, hargs, rfl, rfl, h0, r0⟩ := trodAll_cons hA
  obtain ⟨rfl, rfl, rfl⟩ := trodAll_nil r0
  obtain rfl : args = #[v0] := by cases args; simp_all
  obtain ⟨rfl, rfl⟩ := trodVars_none hV
  obtain ⟨a0, rfl, rfl, rfl, y0⟩ := open_string Tryd.underlying9 (hval 0 9 v0 rfl rfl) h0
  have w0 : a0.size ≤ 140737488351232 := by
    have z := sized_string hsz (j := 0) (t := 9) rfl rfl
    rw [Array.length_toList] at z
    exact z
  obtain ⟨T0, f0, hK⟩ := Go.Kn.of_laid hL
  clear hA0 hval0 hsz0 hsz hL
  refine Calls.mono (Go.Kn.objectDecodes_walk a0.data.toList W (by rw [Array.length_toList]; exact Nat.le_trans w0 (by decide)) hK) fun e W' hh => ?_
  obtain ⟨_, rfl, rfl, bel⟩ := hh
  exact ⟨_, rfl, _, _, _, [], _, [], hW', trodAll_mk1 (shut_bool Tryd.underlying4 _), (trodAll_cons_mk (shut_string Tryd.underlying9 y0) trodAll_mk0), rfl, bel.frame _, fun h => by cases h⟩
theorem over : Rows.objectDecodesRow.holds Tryd.pinned (OpenSpec.ofChange Rows.objectDecodesSpec) :=
  OpenClaim.holds_of_wide 8 Tryd.f8 rfl rfl rfl rfl rfl rfl rfl ⟨rfl, rfl, rfl, rfl, rfl⟩ rfl rfl rfl rfl rfl (by kernel_rfl) Tryd.func8 (by kernel_rfl)
    (of_decide_eq_true (by kernel_rfl)) (by unfold Func.isWrapper; first | (rw [if_pos (by decide +kernel)]; kernel_rfl) | (rw [if_neg (by decide +kernel)]; exact ⟨rfl, rfl⟩))
    (fun os started H enc _ => lifted os started H enc)
end Go.Proofs.YtihmegmambmljaaDoor.rowObjectDecodes
namespace Go.Proofs.YtihmegmambmljaaDoor
theorem objectDecodes_holds : Rows.ObjectDecodesSaid := rowObjectDecodes.over
#print axioms objectDecodes_holds
end Go.Proofs.YtihmegmambmljaaDoor
end
section
/- THE TIED CARD of ObjectDecodes. -/
namespace Go.Proofs.YtihmegmambmljaaDoor
open Go
theorem objectDecodesCard_holds : Rows.ObjectDecodesCardSaid :=
  Claim7.holds_tied_plain_at .later [] [.data] true (true, "0bb6c30f3a65a2f62b616826e91b103e6f663ada85b863a26f561da48cbf1432") false
    objectDecodes_holds (fun _ h => by cases h) (by kernel_rfl) (fun _ h => by cases h) objectDecodes_row_tie rfl ⟨rfl, rfl⟩ (by kernel_rfl) rfl
    (fun f fn hf hfn => by
      obtain rfl : f = 8 := Option.some.inj ((show Tryd.prog.funcNamed "knapsack/knapsacklaw04.ObjectDecodes" = some 8 by kernel_rfl).symm.trans hf) |>.symm
      obtain rfl : fn = Tryd.f8 := (Option.some.inj (Tryd.func8.symm.trans hfn)).symm
      exact ⟨by kernel_rfl, fun j t ht => by
        rw [Tryd.params8] at ht
        have hm : t ∈ [9] := by simpa using Array.mem_of_getElem? ht
        have hall : ([9].all fun u => !Tryd.prog.wantsStandIn u) = true := by kernel_rfl
        exact (show Tryd.prog.wantsStandIn t = false by simpa using List.all_eq_true.1 hall t hm)⟩)
    (by kernel_rfl)
#print axioms objectDecodesCard_holds
end Go.Proofs.YtihmegmambmljaaDoor
end
