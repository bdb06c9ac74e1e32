import Derived.Test.YtgimiamcigdgjaaDoorPb02
import Derived.Test.YtgimiamcigdgjaaDoorPb03
section
set_option linter.unusedSimpArgs false
set_option linter.unusedVariables false
set_option maxRecDepth 100000
namespace Go.Kn
open Go.Proofs
theorem rot_amt {n : Nat} (hn : 1 ≤ n ∧ n ≤ 31) : (((-(n : Int)) % 18446744073709551616).toNat &&& 31 : Nat) = 32 - n := by
  have : ((-(n : Int)) % 18446744073709551616).toNat = 18446744073709551616 - n := by omega
  rw [this, show (31 : Nat) = 2 ^ 5 - 1 from rfl, Nat.and_two_pow_sub_one_eq_mod]
  omega
theorem rotl_ok (x n : Nat) (w : World) (hx32 : x < 4294967296) (hn : 1 ≤ n ∧ n ≤ 31) :
    Fn Tryd.prog 86 #[.int .u32 ((x : Nat) : Int), .int .i64 (-(n : Int))] w (fun v w' => v = .int .u32 ((rotr x n : Nat) : Int) ∧ Ext w w') := by
  have hx : Ext w w := Ext.rfl' w
  refine enter (N := 17) (args := [.int .u32 ((x : Nat) : Int), .int .i64 (-(n : Int))]) Tryd.func86 rfl rfl rfl ?_
  intro a ha
  simp only [argEnv, Nat.zero_add, Nat.reduceAdd] at ha
  refine wseq ?_
  refine regp (ρ' := [(0, .int .u32 ((x : Nat) : Int)), (1, .int .i64 (-(n : Int)))]) (C := []) ha [] (by kernel_rfl) .nil ?_
  clear ha a; intro a ha
  refine tn ?_
  refine wseq ?_
  refine regp (ρ' := [(0, .int .u32 ((x : Nat) : Int)), (5, .int .u64 (((((-(n : Int)) % 18446744073709551616) : Int).toNat &&& 31 : Nat) : Int))]) (C := [NN .u64 ((-(n : Int)) % 18446744073709551616), NN .u64 31]) ha [(1, .mod)] (by kernel_rfl) (.cons (by unfold NN InR; omega) (.cons (by unfold NN InR; omega) .nil)) ?_
  clear ha a; intro a ha
  rw [show ((((((-(n : Int)) % 18446744073709551616) : Int).toNat &&& 31 : Nat) : Int) : Int) = ((32 - n : Nat) : Int) from congrArg (fun q : Nat => (q : Int)) (rot_amt hn)] at ha
  refine tn ?_
  refine wseq ?_
  refine regp (ρ' := [(4, .int .u32 (((x * 2 ^ (32 - n) % 4294967296) ||| (x / 2 ^ (32 - (32 - n))) : Nat) : Int))]) (C := [BinOk Tryd.prog .shl 59 (.int .u32 ((x : Nat) : Int)) (.int .u64 ((32 - n : Nat) : Int)) (.int .u32 ((x * 2 ^ (32 - n) % 4294967296 : Nat) : Int)), BinOk Tryd.prog .sub 80 (.int .u64 32) (.int .u64 ((32 - n : Nat) : Int)) (.int .u64 ((32 - (32 - n) : Nat) : Int)), BinOk Tryd.prog .shr 59 (.int .u32 ((x : Nat) : Int)) (.int .u64 ((32 - (32 - n) : Nat) : Int)) (.int .u32 ((x / 2 ^ (32 - (32 - n)) : Nat) : Int)), BinOk Tryd.prog .or 59 (.int .u32 ((x * 2 ^ (32 - n) % 4294967296 : Nat) : Int)) (.int .u32 ((x / 2 ^ (32 - (32 - n)) : Nat) : Int)) (.int .u32 (((x * 2 ^ (32 - n) % 4294967296) ||| (x / 2 ^ (32 - (32 - n))) : Nat) : Int))]) ha [(2, .val (.int .u32 ((x * 2 ^ (32 - n) % 4294967296 : Nat) : Int))), (5, .val (.int .u64 ((32 - (32 - n) : Nat) : Int))), (6, .val (.int .u32 ((x / 2 ^ (32 - (32 - n)) : Nat) : Int))), (7, .val (.int .u32 (((x * 2 ^ (32 - n) % 4294967296) ||| (x / 2 ^ (32 - (32 - n))) : Nat) : Int)))] (by kernel_rfl) (.cons (shl32 (a := x) (n := (32 - n)) (by omega)) (.cons (subC (m := 32) (n := (32 - n)) (by rfl) (by omega) (by unfold InR; omega)) (.cons (shrN (a := x) (n := (32 - (32 - n))) (by show _ ≤ 32; omega)) (.cons (orW_u32 (a := (x * 2 ^ (32 - n) % 4294967296)) (n := (x / 2 ^ (32 - (32 - n)))) (by first | ((repeat' (first | exact Wn.at_lt _ _ | exact rotr_lt _ _ | apply xor32 | apply and32 | exact mod32 _ | apply div32 | assumption | omega)); done) | omega) (by first | ((repeat' (first | exact Wn.at_lt _ _ | exact rotr_lt _ _ | apply xor32 | apply and32 | exact mod32 _ | apply div32 | assumption | omega)); done) | omega)) .nil)))) ?_
  clear ha a; intro a ha
  refine tn ?_
  refine wret ?_
  refine fin ha (.tmp rfl .nil) ?_
  refine ⟨?_, hx⟩
  show Value.int _ _ = Value.int _ _
  congr 2
  have e : 32 - (32 - n) = n := by omega
  rw [e]
  exact rot_or hx32 (by omega)
-- UNUSED LABEL wrap
theorem turn_ok (x n : Nat) (w : World) (hx32 : x < 4294967296) (hn : 1 ≤ n ∧ n ≤ 31) :
    Fn Tryd.prog 64 #[.int .u32 ((x : Nat) : Int), .int .u64 ((n : Nat) : Int)] w (fun v w' => v = .int .u32 ((rotr x n : Nat) : Int) ∧ Ext w w') := by
  have hx : Ext w w := Ext.rfl' w
  refine enter (N := 13) (args := [.int .u32 ((x : Nat) : Int), .int .u64 ((n : Nat) : Int)]) Tryd.func64 rfl rfl rfl ?_
  intro a ha
  simp only [argEnv, Nat.zero_add, Nat.reduceAdd] at ha
  refine wseq ?_
  refine regp (ρ' := [(0, .int .u32 ((x : Nat) : Int)), (1, .int .u64 ((n : Nat) : Int))]) (C := []) ha [] (by kernel_rfl) .nil ?_
  clear ha a; intro a ha
  refine tn ?_
  refine wseq ?_
  refine regp (ρ' := [(4, .int .u32 ((((x / 2 ^ n) + (x * 2 ^ (32 - n) % 4294967296)) % 4294967296 : Nat) : Int))]) (C := [BinOk Tryd.prog .shr 59 (.int .u32 ((x : Nat) : Int)) (.int .u64 ((n : Nat) : Int)) (.int .u32 ((x / 2 ^ n : Nat) : Int)), BinOk Tryd.prog .sub 80 (.int .u64 32) (.int .u64 ((n : Nat) : Int)) (.int .u64 ((32 - n : Nat) : Int)), BinOk Tryd.prog .shl 59 (.int .u32 ((x : Nat) : Int)) (.int .u64 ((32 - n : Nat) : Int)) (.int .u32 ((x * 2 ^ (32 - n) % 4294967296 : Nat) : Int)), BinOk Tryd.prog .add 59 (.int .u32 ((x / 2 ^ n : Nat) : Int)) (.int .u32 ((x * 2 ^ (32 - n) % 4294967296 : Nat) : Int)) (.int .u32 ((((x / 2 ^ n) + (x * 2 ^ (32 - n) % 4294967296)) % 4294967296 : Nat) : Int))]) ha [(2, .val (.int .u32 ((x / 2 ^ n : Nat) : Int))), (5, .val (.int .u64 ((32 - n : Nat) : Int))), (6, .val (.int .u32 ((x * 2 ^ (32 - n) % 4294967296 : Nat) : Int))), (7, .val (.int .u32 ((((x / 2 ^ n) + (x * 2 ^ (32 - n) % 4294967296)) % 4294967296 : Nat) : Int)))] (by kernel_rfl) (.cons (shrN (a := x) (n := n) (by show _ ≤ 32; omega)) (.cons (subC (m := 32) (n := n) (by rfl) (by omega) (by unfold InR; omega)) (.cons (shl32 (a := x) (n := (32 - n)) (by omega)) (.cons (addW_u32 (a := (x / 2 ^ n)) (n := (x * 2 ^ (32 - n) % 4294967296))) .nil)))) ?_
  clear ha a; intro a ha
  refine tn ?_
  refine wret ?_
  refine fin ha (.tmp rfl .nil) ?_
  exact ⟨rfl, hx⟩
-- UNUSED LABEL wrap
theorem words_ok (b : List UInt8) (w : World) (hb : b.length = 64) :
    Fn Tryd.prog 87 #[.string (S b)] w (fun x w' => x = .agg ⟨wc (shaW b)⟩ ∧ Ext w w') := by
  have hx : Ext w w := Ext.rfl' w
  refine enter (N := 72) (args := [.string (S b)]) Tryd.func87 rfl rfl rfl ?_
  intro a ha
  simp only [argEnv, Nat.zero_add, Nat.reduceAdd] at ha
  refine wseq ?_
  refine reg_list ?_
  refine lnew ha rfl (by kernel_rfl) ⟨wc (wz 64)⟩ 82 (by kernel_rfl) ?_
  clear ha a; intro bo w1 he hb_bo hB_bo a ha
  replace hb_bo := Nat.le_trans hx.size hb_bo
  replace hx := hx.tr he
  clear he
  refine lnil ?_
  replace ha := ha.sub (ρ' := [(0, .string (S b)), (2, .pointer (some ⟨bo, 0, none⟩))]) (by kernel_rfl)
  refine tn ?_
  refine wseq ?_
  refine reg_list ?_
  refine lnew ha rfl (by kernel_rfl) ⟨wc (wz 64)⟩ 82 (by kernel_rfl) ?_
  clear ha a; intro bw w2 he hb_bw hB_bw a ha
  have hne_bo_bw : bo ≠ bw := ne_new hB_bo hb_bw
  replace hB_bo := keepB he hB_bo
  replace hb_bw := Nat.le_trans hx.size hb_bw
  replace hx := hx.tr he
  clear he
  refine lnil ?_
  replace ha := ha.sub (ρ' := [(0, .string (S b)), (2, .pointer (some ⟨bo, 0, none⟩)), (3, .pointer (some ⟨bw, 0, none⟩))]) (by kernel_rfl)
  refine tn ?_
  refine wseq ?_
  refine wseq ?_
  refine regp (ρ' := [(0, .string (S b)), (2, .pointer (some ⟨bo, 0, none⟩)), (3, .pointer (some ⟨bw, 0, none⟩)), (9, .int .i64 0)]) (C := []) ha [] (by kernel_rfl) .nil ?_
  clear ha a; intro a ha
  refine tn ?_
  refine wblk ?_
  refine wloop (fun zz a w3 => ∃ (i : Nat), zz = 64 - i ∧ On 72 [(0, .string (S b)), (2, .pointer (some ⟨bo, 0, none⟩)), (3, .pointer (some ⟨bw, 0, none⟩)), (9, .int .i64 ((i : Nat) : Int))] a ∧ Ext w w3 ∧ w3.heap[bo]? = some (.cells ⟨wc (wz 64)⟩ 82 (0, 0)) ∧ w3.heap[bw]? = some (.cells ⟨wc (wordsTo b i)⟩ 82 (0, 0)) ∧ (i ≤ 64)) _ ⟨0, rfl, ha.sub (ρ' := [(0, .string (S b)), (2, .pointer (some ⟨bo, 0, none⟩)), (3, .pointer (some ⟨bw, 0, none⟩)), (9, .int .i64 ((0 : Nat) : Int))]) (by kernel_rfl), hx, hB_bo, hB_bw, by omega⟩ ?_
  clear ha hx hB_bo hB_bw
  rintro zz a w4 ⟨i, hzz, ha, hx, hB_bo, hB_bw, hi⟩
  refine wseq ?_
  refine regp (ρ' := [(0, .string (S b)), (2, .pointer (some ⟨bo, 0, none⟩)), (3, .pointer (some ⟨bw, 0, none⟩)), (9, .int .i64 ((i : Nat) : Int)), (10, .bool (decide (((i : Nat) : Int) < 64)))]) (C := []) ha [] (by kernel_rfl) .nil ?_
  clear ha a; intro a ha
  refine tn ?_
  refine wseq ?_
  refine wif ha rfl (fun h10 => ?_) (fun h10 => ?_)
  · replace h10 := of_decide_eq_true h10
    have hbi := bat_lt b i
    have hol : (wordsTo b i).at_ (i / 4) * 256 % 4294967296 ||| bat b i < 4294967296 := Nat.or_lt_two_pow (n := 32) (Nat.mod_lt _ (by omega)) (by omega)
    unfold bat at hbi hol
    refine wskip ?_
    refine tn ?_
    refine wseq ?_
    refine wblk ?_
    refine wseq ?_
    refine regp (ρ' := [(0, .string (S b)), (2, .pointer (some ⟨bo, 0, none⟩)), (3, .pointer (some ⟨bw, 0, none⟩)), (4, .int .i64 ((i : Nat) : Int)), (9, .int .i64 ((i : Nat) : Int))]) (C := []) ha [] (by kernel_rfl) .nil ?_
    clear ha a; intro a ha
    refine tn ?_
    refine regM hmix ha [(4, .val (.pointer (some ⟨bw, (i / 4), none⟩))), (5, .val (.int .u32 (((wordsTo b i).at_ (i / 4) : Nat) : Int))), (6, .val (.int .u32 ((((wordsTo b i).at_ (i / 4)) * 256 % 4294967296 : Nat) : Int))), (11, .val (.int .u32 (((((wordsTo b i).at_ (i / 4)) * 256 % 4294967296) ||| ((b.getD i 0).toNat) : Nat) : Int))), (12, .val (.pointer (some ⟨bw, (i / 4), none⟩)))] [] [⟨13, .des, [], []⟩] [] (ρ' := [(0, .string (S b)), (2, .pointer (some ⟨bo, 0, none⟩)), (3, .pointer (some ⟨bw, 0, none⟩)), (9, .int .i64 ((i : Nat) : Int))]) [] [fun w' => Ext w4 w', fun w' => w4.heap.size ≤ w'.heap.size ∧ Ext w w' ∧ w'.heap[bo]? = some (.cells ⟨wc (wz 64)⟩ 82 (0, 0)) ∧ w'.heap[bw]? = some (.cells ⟨wc ((wordsTo b i).set (i / 4) ((((wordsTo b i).at_ (i / 4)) * 256 % 4294967296) ||| ((b.getD i 0).toNat)))⟩ 82 (0, 0))] [(1, [0], fun w' => [0 ≤ ((i : Nat) : Int), 0 < (4 : Int), InR .i64 ((i / 4 : Nat) : Int)]), (3, [0], fun w' => [0 ≤ ((i : Nat) : Int), 0 < (4 : Int), InR .i64 ((i / 4 : Nat) : Int)]), (4, [0], fun w' => [RunOk Tryd.prog w' (Instr.indexAt 82 (.pointer (some ⟨bw, 0, none⟩)) (.int .i64 ((i / 4 : Nat) : Int))) (.pointer (some ⟨bw, (i / 4), none⟩))]), (5, [0], fun w' => [RunOk Tryd.prog w' (Instr.loadAt 59 (.pointer (some ⟨bw, (i / 4), none⟩))) (.int .u32 (((wordsTo b i).at_ (i / 4) : Nat) : Int))]), (6, [0], fun w' => [BinOk Tryd.prog .shl 59 (.int .u32 (((wordsTo b i).at_ (i / 4) : Nat) : Int)) (.int .u64 8) (.int .u32 ((((wordsTo b i).at_ (i / 4)) * 256 % 4294967296 : Nat) : Int))]), (9, [0], fun w' => [0 ≤ ((i : Nat) : Int) ∧ ((i : Nat) : Int) < (b.length : Int)]), (10, [0], fun w' => [InR .u32 (((b.getD i 0).toNat : Nat) : Int)]), (11, [0], fun w' => [BinOk Tryd.prog .or 59 (.int .u32 ((((wordsTo b i).at_ (i / 4)) * 256 % 4294967296 : Nat) : Int)) (.int .u32 (((b.getD i 0).toNat : Nat) : Int)) (.int .u32 (((((wordsTo b i).at_ (i / 4)) * 256 % 4294967296) ||| ((b.getD i 0).toNat) : Nat) : Int))]), (12, [0], fun w' => [RunOk Tryd.prog w' (Instr.indexAt 82 (.pointer (some ⟨bw, 0, none⟩)) (.int .i64 ((i / 4 : Nat) : Int))) (.pointer (some ⟨bw, (i / 4), none⟩))])] (by kernel_rfl) (fun w' => by kernel_rfl) (fun w' => by kernel_rfl) (by kernel_rfl) (fun w' h => h) ?_ ?_ ?_ ?_ ?_ ?_
    · refine ⟨fun w1 w2 h e => Ext.tr h e, ?_, trivial⟩
      · rintro w1 w2 ⟨hsz, hx, hB_bo, hB_bw⟩ he
        exact ⟨Nat.le_trans hsz he.size, hx.tr he, keepB he hB_bo, keepB he hB_bw⟩
    · trivial
    · refine ⟨⟨?_, trivial⟩, ⟨?_, trivial⟩, ⟨?_, trivial⟩, ⟨?_, trivial⟩, ⟨?_, trivial⟩, ⟨?_, trivial⟩, ⟨?_, trivial⟩, ⟨?_, trivial⟩, ⟨?_, trivial⟩, trivial⟩
      · intro w' hJ
        have he : Ext w4 w' := hJ
        have hsz := he.size
        replace hx := hx.tr he
        replace hB_bo := keepB he hB_bo
        replace hB_bw := keepB he hB_bw
        clear he
        exact (.cons (by omega) (.cons (by omega) (.cons (by unfold InR; omega) .nil)))
      · intro w' hJ
        have he : Ext w4 w' := hJ
        have hsz := he.size
        replace hx := hx.tr he
        replace hB_bo := keepB he hB_bo
        replace hB_bw := keepB he hB_bw
        clear he
        exact (.cons (by omega) (.cons (by omega) (.cons (by unfold InR; omega) .nil)))
      · intro w' hJ
        have he : Ext w4 w' := hJ
        have hsz := he.size
        replace hx := hx.tr he
        replace hB_bo := keepB he hB_bo
        replace hB_bw := keepB he hB_bw
        clear he
        exact (.cons (ixA (n := 64) (i := (i / 4)) (by kernel_rfl) (by omega)) .nil)
      · intro w' hJ
        have he : Ext w4 w' := hJ
        have hsz := he.size
        replace hx := hx.tr he
        replace hB_bo := keepB he hB_bo
        replace hB_bw := keepB he hB_bw
        clear he
        exact (.cons (ld1 hB_bw (by kernel_rfl) (wc_at (i := (i / 4)) (by omega))) .nil)
      · intro w' hJ
        have he : Ext w4 w' := hJ
        have hsz := he.size
        replace hx := hx.tr he
        replace hB_bo := keepB he hB_bo
        replace hB_bw := keepB he hB_bw
        clear he
        exact (.cons (shl32c (a := ((wordsTo b i).at_ (i / 4))) (n := 8) (p := 256) (by omega) (by decide)) .nil)
      · intro w' hJ
        have he : Ext w4 w' := hJ
        have hsz := he.size
        replace hx := hx.tr he
        replace hB_bo := keepB he hB_bo
        replace hB_bw := keepB he hB_bw
        clear he
        exact (.cons ⟨by omega, by omega⟩ .nil)
      · intro w' hJ
        have he : Ext w4 w' := hJ
        have hsz := he.size
        replace hx := hx.tr he
        replace hB_bo := keepB he hB_bo
        replace hB_bw := keepB he hB_bw
        clear he
        exact (.cons (by unfold InR; omega) .nil)
      · intro w' hJ
        have he : Ext w4 w' := hJ
        have hsz := he.size
        replace hx := hx.tr he
        replace hB_bo := keepB he hB_bo
        replace hB_bw := keepB he hB_bw
        clear he
        exact (.cons (orW_u32 (a := (((wordsTo b i).at_ (i / 4)) * 256 % 4294967296)) (n := ((b.getD i 0).toNat)) (by first | ((repeat' (first | exact Wn.at_lt _ _ | exact rotr_lt _ _ | apply xor32 | apply and32 | exact mod32 _ | apply div32 | assumption | omega)); done) | omega) (by first | ((repeat' (first | exact Wn.at_lt _ _ | exact rotr_lt _ _ | apply xor32 | apply and32 | exact mod32 _ | apply div32 | assumption | omega)); done) | omega)) .nil)
      · intro w' hJ
        have he : Ext w4 w' := hJ
        have hsz := he.size
        replace hx := hx.tr he
        replace hB_bo := keepB he hB_bo
        replace hB_bw := keepB he hB_bw
        clear he
        exact (.cons (ixA (n := 64) (i := (i / 4)) (by kernel_rfl) (by omega)) .nil)
    · trivial
    · refine ⟨?_, trivial⟩
      · intro w' hJ
        have hB_boS := hB_bo
        have hB_bwS := hB_bw
        have he : Ext w4 w' := hJ
        have hsz := he.size
        replace hx := hx.tr he
        replace hB_bo := keepB he hB_bo
        replace hB_bw := keepB he hB_bw
        clear he
        refine ostoreL (off := (i / 4)) (vs := [.int .u32 (((((wordsTo b i).at_ (i / 4)) * 256 % 4294967296) ||| ((b.getD i 0).toNat) : Nat) : Int)]) (cs' := wc ((wordsTo b i).set (i / 4) ((((wordsTo b i).at_ (i / 4)) * 256 % 4294967296) ||| ((b.getD i 0).toNat)))) (t := 59) (x := .tmp 24) (y := .tmp 23) (by kernel_rfl) (by kernel_rfl) hB_bw (by kernel_rfl) (by kernel_rfl) (by kernel_rfl) (by rw [wc_len _]; show (i / 4) + 1 ≤ 64; omega) (by rw [put_one (by rw [wc_len _]; omega)]; exact wc_set _ _ _ (by omega)) ?_
        intro w'' hc
        exact ⟨trivial, ⟨Nat.le_trans hsz hc.size, hc.ext hx hb_bw, hc.keep hB_bo (by first | assumption | exact Ne.symm (by assumption)), hc.at_⟩, trivial⟩
    · clear ha a; intro a w5 hJ ha
      clear hx hB_bo hB_bw
      obtain ⟨hsz, hx, hB_bo, hB_bw⟩ := hJ
      clear hsz
      refine bn ?_
      refine tn ?_
      refine regp (ρ' := [(0, .string (S b)), (2, .pointer (some ⟨bo, 0, none⟩)), (3, .pointer (some ⟨bw, 0, none⟩)), (9, .int .i64 ((i + 1 : Nat) : Int))]) (C := [InR .i64 ((i + 1 : Nat) : Int)]) ha [] (by kernel_rfl) (.cons (by unfold InR; omega) .nil) ?_
      clear ha a; intro a ha
      exact tn ⟨64 - ((i + 1)), by omega, (i + 1), rfl, ha.sub (ρ' := [(0, .string (S b)), (2, .pointer (some ⟨bo, 0, none⟩)), (3, .pointer (some ⟨bw, 0, none⟩)), (9, .int .i64 (((i + 1) : Nat) : Int))]) (by kernel_rfl), hx, hB_bo, hB_bw, by omega⟩
  · replace h10 := of_decide_eq_false h10
    obtain rfl : i = 64 := by omega
    rw [words_same] at hB_bw
    have hB_bw : _ = some (Obj.cells ⟨wc (extTo (words0 b 16) 0)⟩ 82 (0, 0)) := hB_bw
    refine wexit ?_
    refine (te (te (be ?_)))
    refine tn ?_
    refine wseq ?_
    refine regp (ρ' := [(2, .pointer (some ⟨bo, 0, none⟩)), (3, .pointer (some ⟨bw, 0, none⟩)), (5, .func (.func 86) #[] #[])]) (C := []) ha [] (by kernel_rfl) .nil ?_
    clear ha a; intro a ha
    refine tn ?_
    refine wseq ?_
    refine wseq ?_
    refine regp (ρ' := [(2, .pointer (some ⟨bo, 0, none⟩)), (3, .pointer (some ⟨bw, 0, none⟩)), (5, .func (.func 86) #[] #[]), (6, .int .i64 16)]) (C := []) ha [] (by kernel_rfl) .nil ?_
    clear ha a; intro a ha
    refine tn ?_
    refine wblk ?_
    refine wloop (fun zz a w6 => ∃ (k : Nat), zz = 48 - k ∧ On 72 [(2, .pointer (some ⟨bo, 0, none⟩)), (3, .pointer (some ⟨bw, 0, none⟩)), (5, .func (.func 86) #[] #[]), (6, .int .i64 ((16 + k : Nat) : Int))] a ∧ Ext w w6 ∧ w6.heap[bo]? = some (.cells ⟨wc (wz 64)⟩ 82 (0, 0)) ∧ w6.heap[bw]? = some (.cells ⟨wc (extTo (words0 b 16) k)⟩ 82 (0, 0)) ∧ (k ≤ 48)) _ ⟨0, rfl, ha.sub (ρ' := [(2, .pointer (some ⟨bo, 0, none⟩)), (3, .pointer (some ⟨bw, 0, none⟩)), (5, .func (.func 86) #[] #[]), (6, .int .i64 ((16 + 0 : Nat) : Int))]) (by kernel_rfl), hx, hB_bo, hB_bw, by omega⟩ ?_
    clear ha hx hB_bo hB_bw
    rintro zz a w7 ⟨k, hzz, ha, hx, hB_bo, hB_bw, hk⟩
    refine wseq ?_
    refine wseq ?_
    refine regp (ρ' := [(2, .pointer (some ⟨bo, 0, none⟩)), (3, .pointer (some ⟨bw, 0, none⟩)), (5, .func (.func 86) #[] #[]), (6, .int .i64 ((16 + k : Nat) : Int)), (27, .bool (decide (((16 + k : Nat) : Int) < 64)))]) (C := []) ha [] (by kernel_rfl) .nil ?_
    clear ha a; intro a ha
    refine tn ?_
    refine wif ha rfl (fun h27 => ?_) (fun h27 => ?_)
    · replace h27 := of_decide_eq_true h27
      have ha15 := (extTo (words0 b 16) k).at_lt (16 + k - 15)
      have ha2 := (extTo (words0 b 16) k).at_lt (16 + k - 2)
      have ha16 := (extTo (words0 b 16) k).at_lt (16 + k - 16)
      have ha7 := (extTo (words0 b 16) k).at_lt (16 + k - 7)
      refine wskip ?_
      refine tn ?_
      refine wseq ?_
      refine wblk ?_
      refine wseq ?_
      refine reg hmix (ρ' := [(2, .pointer (some ⟨bo, 0, none⟩)), (3, .pointer (some ⟨bw, 0, none⟩)), (5, .func (.func 86) #[] #[]), (6, .int .i64 ((16 + k : Nat) : Int)), (7, .int .u32 (((extTo (words0 b 16) k).at_ ((16 + k) - 15) : Nat) : Int)), (8, .int .u32 (((extTo (words0 b 16) k).at_ ((16 + k) - 2) : Nat) : Int))]) (C := [BinOk Tryd.prog .sub 3 (.int .i64 ((16 + k : Nat) : Int)) (.int .i64 15) (.int .i64 (((16 + k) - 15 : Nat) : Int)), RunOk Tryd.prog w7 (Instr.indexAt 82 (.pointer (some ⟨bw, 0, none⟩)) (.int .i64 (((16 + k) - 15 : Nat) : Int))) (.pointer (some ⟨bw, ((16 + k) - 15), none⟩)), RunOk Tryd.prog w7 (Instr.loadAt 59 (.pointer (some ⟨bw, ((16 + k) - 15), none⟩))) (.int .u32 (((extTo (words0 b 16) k).at_ ((16 + k) - 15) : Nat) : Int)), BinOk Tryd.prog .sub 3 (.int .i64 ((16 + k : Nat) : Int)) (.int .i64 2) (.int .i64 (((16 + k) - 2 : Nat) : Int)), RunOk Tryd.prog w7 (Instr.indexAt 82 (.pointer (some ⟨bw, 0, none⟩)) (.int .i64 (((16 + k) - 2 : Nat) : Int))) (.pointer (some ⟨bw, ((16 + k) - 2), none⟩)), RunOk Tryd.prog w7 (Instr.loadAt 59 (.pointer (some ⟨bw, ((16 + k) - 2), none⟩))) (.int .u32 (((extTo (words0 b 16) k).at_ ((16 + k) - 2) : Nat) : Int))]) ha [(1, .val (.int .i64 (((16 + k) - 15 : Nat) : Int))), (2, .val (.pointer (some ⟨bw, ((16 + k) - 15), none⟩))), (3, .val (.int .u32 (((extTo (words0 b 16) k).at_ ((16 + k) - 15) : Nat) : Int))), (5, .val (.int .i64 (((16 + k) - 2 : Nat) : Int))), (6, .val (.pointer (some ⟨bw, ((16 + k) - 2), none⟩))), (7, .val (.int .u32 (((extTo (words0 b 16) k).at_ ((16 + k) - 2) : Nat) : Int)))] (by kernel_rfl) (.cons (subN (a := (16 + k)) (n := 15) (by omega) (by unfold InR; omega)) (.cons (ixA (n := 64) (i := ((16 + k) - 15)) (by kernel_rfl) (by omega)) (.cons (ld1 hB_bw (by kernel_rfl) (wc_at (i := ((16 + k) - 15)) (by omega))) (.cons (subN (a := (16 + k)) (n := 2) (by omega) (by unfold InR; omega)) (.cons (ixA (n := 64) (i := ((16 + k) - 2)) (by kernel_rfl) (by omega)) (.cons (ld1 hB_bw (by kernel_rfl) (wc_at (i := ((16 + k) - 2)) (by omega))) .nil)))))) ?_
      clear ha a; intro a w8 ha he
      replace hx := hx.tr he
      replace hB_bo := keepB he hB_bo
      replace hB_bw := keepB he hB_bw
      clear he
      refine tn ?_
      refine regM hmix ha [(2, .val (.int .i64 (((16 + k) - 16 : Nat) : Int))), (3, .val (.pointer (some ⟨bw, ((16 + k) - 16), none⟩))), (4, .val (.int .u32 (((extTo (words0 b 16) k).at_ ((16 + k) - 16) : Nat) : Int))), (6, .val (.int .i64 (((16 + k) - 7 : Nat) : Int))), (7, .val (.pointer (some ⟨bw, ((16 + k) - 7), none⟩))), (8, .val (.int .u32 (((extTo (words0 b 16) k).at_ ((16 + k) - 7) : Nat) : Int))), (9, .val (.int .u32 (((((extTo (words0 b 16) k).at_ ((16 + k) - 16)) + ((extTo (words0 b 16) k).at_ ((16 + k) - 7))) % 4294967296 : Nat) : Int))), (12, .val (.int .u32 ((rotr ((extTo (words0 b 16) k).at_ ((16 + k) - 15)) 7 : Nat) : Int))), (15, .val (.int .u32 ((rotr ((extTo (words0 b 16) k).at_ ((16 + k) - 15)) 18 : Nat) : Int))), (16, .val (.int .u32 (((rotr ((extTo (words0 b 16) k).at_ ((16 + k) - 15)) 7) ^^^ (rotr ((extTo (words0 b 16) k).at_ ((16 + k) - 15)) 18) : Nat) : Int))), (18, .val (.int .u32 ((((extTo (words0 b 16) k).at_ ((16 + k) - 15)) / 8 : Nat) : Int))), (19, .val (.int .u32 ((((rotr ((extTo (words0 b 16) k).at_ ((16 + k) - 15)) 7) ^^^ (rotr ((extTo (words0 b 16) k).at_ ((16 + k) - 15)) 18)) ^^^ (((extTo (words0 b 16) k).at_ ((16 + k) - 15)) / 8) : Nat) : Int))), (20, .val (.int .u32 (((((((extTo (words0 b 16) k).at_ ((16 + k) - 16)) + ((extTo (words0 b 16) k).at_ ((16 + k) - 7))) % 4294967296) + (((rotr ((extTo (words0 b 16) k).at_ ((16 + k) - 15)) 7) ^^^ (rotr ((extTo (words0 b 16) k).at_ ((16 + k) - 15)) 18)) ^^^ (((extTo (words0 b 16) k).at_ ((16 + k) - 15)) / 8))) % 4294967296 : Nat) : Int))), (23, .val (.int .u32 ((rotr ((extTo (words0 b 16) k).at_ ((16 + k) - 2)) 17 : Nat) : Int))), (26, .val (.int .u32 ((rotr ((extTo (words0 b 16) k).at_ ((16 + k) - 2)) 19 : Nat) : Int))), (27, .val (.int .u32 (((rotr ((extTo (words0 b 16) k).at_ ((16 + k) - 2)) 17) ^^^ (rotr ((extTo (words0 b 16) k).at_ ((16 + k) - 2)) 19) : Nat) : Int))), (29, .val (.int .u32 ((((extTo (words0 b 16) k).at_ ((16 + k) - 2)) / 1024 : Nat) : Int))), (30, .val (.int .u32 ((((rotr ((extTo (words0 b 16) k).at_ ((16 + k) - 2)) 17) ^^^ (rotr ((extTo (words0 b 16) k).at_ ((16 + k) - 2)) 19)) ^^^ (((extTo (words0 b 16) k).at_ ((16 + k) - 2)) / 1024) : Nat) : Int))), (31, .val (.int .u32 (((((((((extTo (words0 b 16) k).at_ ((16 + k) - 16)) + ((extTo (words0 b 16) k).at_ ((16 + k) - 7))) % 4294967296) + (((rotr ((extTo (words0 b 16) k).at_ ((16 + k) - 15)) 7) ^^^ (rotr ((extTo (words0 b 16) k).at_ ((16 + k) - 15)) 18)) ^^^ (((extTo (words0 b 16) k).at_ ((16 + k) - 15)) / 8))) % 4294967296) + (((rotr ((extTo (words0 b 16) k).at_ ((16 + k) - 2)) 17) ^^^ (rotr ((extTo (words0 b 16) k).at_ ((16 + k) - 2)) 19)) ^^^ (((extTo (words0 b 16) k).at_ ((16 + k) - 2)) / 1024))) % 4294967296 : Nat) : Int))), (32, .val (.pointer (some ⟨bw, (16 + k), none⟩)))] [] [⟨33, .des, [], []⟩] [] (ρ' := [(2, .pointer (some ⟨bo, 0, none⟩)), (3, .pointer (some ⟨bw, 0, none⟩)), (5, .func (.func 86) #[] #[]), (6, .int .i64 ((16 + k : Nat) : Int))]) [] [fun w' => Ext w8 w', fun w' => w8.heap.size ≤ w'.heap.size ∧ Ext w w' ∧ w'.heap[bo]? = some (.cells ⟨wc (wz 64)⟩ 82 (0, 0)) ∧ w'.heap[bw]? = some (.cells ⟨wc ((extTo (words0 b 16) k).set (16 + k) ((((((((extTo (words0 b 16) k).at_ ((16 + k) - 16)) + ((extTo (words0 b 16) k).at_ ((16 + k) - 7))) % 4294967296) + (((rotr ((extTo (words0 b 16) k).at_ ((16 + k) - 15)) 7) ^^^ (rotr ((extTo (words0 b 16) k).at_ ((16 + k) - 15)) 18)) ^^^ (((extTo (words0 b 16) k).at_ ((16 + k) - 15)) / 8))) % 4294967296) + (((rotr ((extTo (words0 b 16) k).at_ ((16 + k) - 2)) 17) ^^^ (rotr ((extTo (words0 b 16) k).at_ ((16 + k) - 2)) 19)) ^^^ (((extTo (words0 b 16) k).at_ ((16 + k) - 2)) / 1024))) % 4294967296))⟩ 82 (0, 0))] [(2, [0], fun w' => [BinOk Tryd.prog .sub 3 (.int .i64 ((16 + k : Nat) : Int)) (.int .i64 16) (.int .i64 (((16 + k) - 16 : Nat) : Int))]), (3, [0], fun w' => [RunOk Tryd.prog w' (Instr.indexAt 82 (.pointer (some ⟨bw, 0, none⟩)) (.int .i64 (((16 + k) - 16 : Nat) : Int))) (.pointer (some ⟨bw, ((16 + k) - 16), none⟩))]), (4, [0], fun w' => [RunOk Tryd.prog w' (Instr.loadAt 59 (.pointer (some ⟨bw, ((16 + k) - 16), none⟩))) (.int .u32 (((extTo (words0 b 16) k).at_ ((16 + k) - 16) : Nat) : Int))]), (6, [0], fun w' => [BinOk Tryd.prog .sub 3 (.int .i64 ((16 + k : Nat) : Int)) (.int .i64 7) (.int .i64 (((16 + k) - 7 : Nat) : Int))]), (7, [0], fun w' => [RunOk Tryd.prog w' (Instr.indexAt 82 (.pointer (some ⟨bw, 0, none⟩)) (.int .i64 (((16 + k) - 7 : Nat) : Int))) (.pointer (some ⟨bw, ((16 + k) - 7), none⟩))]), (8, [0], fun w' => [RunOk Tryd.prog w' (Instr.loadAt 59 (.pointer (some ⟨bw, ((16 + k) - 7), none⟩))) (.int .u32 (((extTo (words0 b 16) k).at_ ((16 + k) - 7) : Nat) : Int))]), (9, [0], fun w' => [BinOk Tryd.prog .add 59 (.int .u32 (((extTo (words0 b 16) k).at_ ((16 + k) - 16) : Nat) : Int)) (.int .u32 (((extTo (words0 b 16) k).at_ ((16 + k) - 7) : Nat) : Int)) (.int .u32 (((((extTo (words0 b 16) k).at_ ((16 + k) - 16)) + ((extTo (words0 b 16) k).at_ ((16 + k) - 7))) % 4294967296 : Nat) : Int))]), (12, [0], fun w' => [CallOk Tryd.prog w' 86 #[.int .u32 (((extTo (words0 b 16) k).at_ ((16 + k) - 15) : Nat) : Int), .int .i64 (-7)] (.int .u32 ((rotr ((extTo (words0 b 16) k).at_ ((16 + k) - 15)) 7 : Nat) : Int))]), (15, [0], fun w' => [CallOk Tryd.prog w' 86 #[.int .u32 (((extTo (words0 b 16) k).at_ ((16 + k) - 15) : Nat) : Int), .int .i64 (-18)] (.int .u32 ((rotr ((extTo (words0 b 16) k).at_ ((16 + k) - 15)) 18 : Nat) : Int))]), (16, [0], fun w' => [BinOk Tryd.prog .xor 59 (.int .u32 ((rotr ((extTo (words0 b 16) k).at_ ((16 + k) - 15)) 7 : Nat) : Int)) (.int .u32 ((rotr ((extTo (words0 b 16) k).at_ ((16 + k) - 15)) 18 : Nat) : Int)) (.int .u32 (((rotr ((extTo (words0 b 16) k).at_ ((16 + k) - 15)) 7) ^^^ (rotr ((extTo (words0 b 16) k).at_ ((16 + k) - 15)) 18) : Nat) : Int))]), (18, [0], fun w' => [BinOk Tryd.prog .shr 59 (.int .u32 (((extTo (words0 b 16) k).at_ ((16 + k) - 15) : Nat) : Int)) (.int .u64 3) (.int .u32 ((((extTo (words0 b 16) k).at_ ((16 + k) - 15)) / 8 : Nat) : Int))]), (19, [0], fun w' => [BinOk Tryd.prog .xor 59 (.int .u32 (((rotr ((extTo (words0 b 16) k).at_ ((16 + k) - 15)) 7) ^^^ (rotr ((extTo (words0 b 16) k).at_ ((16 + k) - 15)) 18) : Nat) : Int)) (.int .u32 ((((extTo (words0 b 16) k).at_ ((16 + k) - 15)) / 8 : Nat) : Int)) (.int .u32 ((((rotr ((extTo (words0 b 16) k).at_ ((16 + k) - 15)) 7) ^^^ (rotr ((extTo (words0 b 16) k).at_ ((16 + k) - 15)) 18)) ^^^ (((extTo (words0 b 16) k).at_ ((16 + k) - 15)) / 8) : Nat) : Int))]), (20, [0], fun w' => [BinOk Tryd.prog .add 59 (.int .u32 (((((extTo (words0 b 16) k).at_ ((16 + k) - 16)) + ((extTo (words0 b 16) k).at_ ((16 + k) - 7))) % 4294967296 : Nat) : Int)) (.int .u32 ((((rotr ((extTo (words0 b 16) k).at_ ((16 + k) - 15)) 7) ^^^ (rotr ((extTo (words0 b 16) k).at_ ((16 + k) - 15)) 18)) ^^^ (((extTo (words0 b 16) k).at_ ((16 + k) - 15)) / 8) : Nat) : Int)) (.int .u32 (((((((extTo (words0 b 16) k).at_ ((16 + k) - 16)) + ((extTo (words0 b 16) k).at_ ((16 + k) - 7))) % 4294967296) + (((rotr ((extTo (words0 b 16) k).at_ ((16 + k) - 15)) 7) ^^^ (rotr ((extTo (words0 b 16) k).at_ ((16 + k) - 15)) 18)) ^^^ (((extTo (words0 b 16) k).at_ ((16 + k) - 15)) / 8))) % 4294967296 : Nat) : Int))]), (23, [0], fun w' => [CallOk Tryd.prog w' 86 #[.int .u32 (((extTo (words0 b 16) k).at_ ((16 + k) - 2) : Nat) : Int), .int .i64 (-17)] (.int .u32 ((rotr ((extTo (words0 b 16) k).at_ ((16 + k) - 2)) 17 : Nat) : Int))]), (26, [0], fun w' => [CallOk Tryd.prog w' 86 #[.int .u32 (((extTo (words0 b 16) k).at_ ((16 + k) - 2) : Nat) : Int), .int .i64 (-19)] (.int .u32 ((rotr ((extTo (words0 b 16) k).at_ ((16 + k) - 2)) 19 : Nat) : Int))]), (27, [0], fun w' => [BinOk Tryd.prog .xor 59 (.int .u32 ((rotr ((extTo (words0 b 16) k).at_ ((16 + k) - 2)) 17 : Nat) : Int)) (.int .u32 ((rotr ((extTo (words0 b 16) k).at_ ((16 + k) - 2)) 19 : Nat) : Int)) (.int .u32 (((rotr ((extTo (words0 b 16) k).at_ ((16 + k) - 2)) 17) ^^^ (rotr ((extTo (words0 b 16) k).at_ ((16 + k) - 2)) 19) : Nat) : Int))]), (29, [0], fun w' => [BinOk Tryd.prog .shr 59 (.int .u32 (((extTo (words0 b 16) k).at_ ((16 + k) - 2) : Nat) : Int)) (.int .u64 10) (.int .u32 ((((extTo (words0 b 16) k).at_ ((16 + k) - 2)) / 1024 : Nat) : Int))]), (30, [0], fun w' => [BinOk Tryd.prog .xor 59 (.int .u32 (((rotr ((extTo (words0 b 16) k).at_ ((16 + k) - 2)) 17) ^^^ (rotr ((extTo (words0 b 16) k).at_ ((16 + k) - 2)) 19) : Nat) : Int)) (.int .u32 ((((extTo (words0 b 16) k).at_ ((16 + k) - 2)) / 1024 : Nat) : Int)) (.int .u32 ((((rotr ((extTo (words0 b 16) k).at_ ((16 + k) - 2)) 17) ^^^ (rotr ((extTo (words0 b 16) k).at_ ((16 + k) - 2)) 19)) ^^^ (((extTo (words0 b 16) k).at_ ((16 + k) - 2)) / 1024) : Nat) : Int))]), (31, [0], fun w' => [BinOk Tryd.prog .add 59 (.int .u32 (((((((extTo (words0 b 16) k).at_ ((16 + k) - 16)) + ((extTo (words0 b 16) k).at_ ((16 + k) - 7))) % 4294967296) + (((rotr ((extTo (words0 b 16) k).at_ ((16 + k) - 15)) 7) ^^^ (rotr ((extTo (words0 b 16) k).at_ ((16 + k) - 15)) 18)) ^^^ (((extTo (words0 b 16) k).at_ ((16 + k) - 15)) / 8))) % 4294967296 : Nat) : Int)) (.int .u32 ((((rotr ((extTo (words0 b 16) k).at_ ((16 + k) - 2)) 17) ^^^ (rotr ((extTo (words0 b 16) k).at_ ((16 + k) - 2)) 19)) ^^^ (((extTo (words0 b 16) k).at_ ((16 + k) - 2)) / 1024) : Nat) : Int)) (.int .u32 (((((((((extTo (words0 b 16) k).at_ ((16 + k) - 16)) + ((extTo (words0 b 16) k).at_ ((16 + k) - 7))) % 4294967296) + (((rotr ((extTo (words0 b 16) k).at_ ((16 + k) - 15)) 7) ^^^ (rotr ((extTo (words0 b 16) k).at_ ((16 + k) - 15)) 18)) ^^^ (((extTo (words0 b 16) k).at_ ((16 + k) - 15)) / 8))) % 4294967296) + (((rotr ((extTo (words0 b 16) k).at_ ((16 + k) - 2)) 17) ^^^ (rotr ((extTo (words0 b 16) k).at_ ((16 + k) - 2)) 19)) ^^^ (((extTo (words0 b 16) k).at_ ((16 + k) - 2)) / 1024))) % 4294967296 : Nat) : Int))]), (32, [0], fun w' => [RunOk Tryd.prog w' (Instr.indexAt 82 (.pointer (some ⟨bw, 0, none⟩)) (.int .i64 ((16 + k : Nat) : Int))) (.pointer (some ⟨bw, (16 + k), none⟩))])] (by kernel_rfl) (fun w' => by kernel_rfl) (fun w' => by kernel_rfl) (by kernel_rfl) (fun w' h => h) ?_ ?_ ?_ ?_ ?_ ?_
      · refine ⟨fun w1 w2 h e => Ext.tr h e, ?_, trivial⟩
        · rintro w1 w2 ⟨hsz, hx, hB_bo, hB_bw⟩ he
          exact ⟨Nat.le_trans hsz he.size, hx.tr he, keepB he hB_bo, keepB he hB_bw⟩
      · trivial
      · refine ⟨⟨?_, trivial⟩, ⟨?_, trivial⟩, ⟨?_, trivial⟩, ⟨?_, trivial⟩, ⟨?_, trivial⟩, ⟨?_, trivial⟩, ⟨?_, trivial⟩, ⟨?_, trivial⟩, ⟨?_, trivial⟩, ⟨?_, trivial⟩, ⟨?_, trivial⟩, ⟨?_, trivial⟩, ⟨?_, trivial⟩, ⟨?_, trivial⟩, ⟨?_, trivial⟩, ⟨?_, trivial⟩, ⟨?_, trivial⟩, ⟨?_, trivial⟩, ⟨?_, trivial⟩, ⟨?_, trivial⟩, trivial⟩
        · intro w' hJ
          have he : Ext w8 w' := hJ
          have hsz := he.size
          replace hx := hx.tr he
          replace hB_bo := keepB he hB_bo
          replace hB_bw := keepB he hB_bw
          clear he
          exact (.cons (subN (a := (16 + k)) (n := 16) (by omega) (by unfold InR; omega)) .nil)
        · intro w' hJ
          have he : Ext w8 w' := hJ
          have hsz := he.size
          replace hx := hx.tr he
          replace hB_bo := keepB he hB_bo
          replace hB_bw := keepB he hB_bw
          clear he
          exact (.cons (ixA (n := 64) (i := ((16 + k) - 16)) (by kernel_rfl) (by omega)) .nil)
        · intro w' hJ
          have he : Ext w8 w' := hJ
          have hsz := he.size
          replace hx := hx.tr he
          replace hB_bo := keepB he hB_bo
          replace hB_bw := keepB he hB_bw
          clear he
          exact (.cons (ld1 hB_bw (by kernel_rfl) (wc_at (i := ((16 + k) - 16)) (by omega))) .nil)
        · intro w' hJ
          have he : Ext w8 w' := hJ
          have hsz := he.size
          replace hx := hx.tr he
          replace hB_bo := keepB he hB_bo
          replace hB_bw := keepB he hB_bw
          clear he
          exact (.cons (subN (a := (16 + k)) (n := 7) (by omega) (by unfold InR; omega)) .nil)
        · intro w' hJ
          have he : Ext w8 w' := hJ
          have hsz := he.size
          replace hx := hx.tr he
          replace hB_bo := keepB he hB_bo
          replace hB_bw := keepB he hB_bw
          clear he
          exact (.cons (ixA (n := 64) (i := ((16 + k) - 7)) (by kernel_rfl) (by omega)) .nil)
        · intro w' hJ
          have he : Ext w8 w' := hJ
          have hsz := he.size
          replace hx := hx.tr he
          replace hB_bo := keepB he hB_bo
          replace hB_bw := keepB he hB_bw
          clear he
          exact (.cons (ld1 hB_bw (by kernel_rfl) (wc_at (i := ((16 + k) - 7)) (by omega))) .nil)
        · intro w' hJ
          have he : Ext w8 w' := hJ
          have hsz := he.size
          replace hx := hx.tr he
          replace hB_bo := keepB he hB_bo
          replace hB_bw := keepB he hB_bw
          clear he
          exact (.cons (addW_u32 (a := ((extTo (words0 b 16) k).at_ ((16 + k) - 16))) (n := ((extTo (words0 b 16) k).at_ ((16 + k) - 7)))) .nil)
        · intro w' hJ
          have he : Ext w8 w' := hJ
          have hsz := he.size
          replace hx := hx.tr he
          replace hB_bo := keepB he hB_bo
          replace hB_bw := keepB he hB_bw
          clear he
          exact (.cons (fun w _ => rotl_ok _ 7 w (by first | ((repeat' (first | exact Wn.at_lt _ _ | exact rotr_lt _ _ | apply xor32 | apply and32 | exact mod32 _ | apply div32 | assumption | omega)); done) | omega) (by omega)) .nil)
        · intro w' hJ
          have he : Ext w8 w' := hJ
          have hsz := he.size
          replace hx := hx.tr he
          replace hB_bo := keepB he hB_bo
          replace hB_bw := keepB he hB_bw
          clear he
          exact (.cons (fun w _ => rotl_ok _ 18 w (by first | ((repeat' (first | exact Wn.at_lt _ _ | exact rotr_lt _ _ | apply xor32 | apply and32 | exact mod32 _ | apply div32 | assumption | omega)); done) | omega) (by omega)) .nil)
        · intro w' hJ
          have he : Ext w8 w' := hJ
          have hsz := he.size
          replace hx := hx.tr he
          replace hB_bo := keepB he hB_bo
          replace hB_bw := keepB he hB_bw
          clear he
          exact (.cons (xorW_u32 (a := (rotr ((extTo (words0 b 16) k).at_ ((16 + k) - 15)) 7)) (n := (rotr ((extTo (words0 b 16) k).at_ ((16 + k) - 15)) 18)) (by first | ((repeat' (first | exact Wn.at_lt _ _ | exact rotr_lt _ _ | apply xor32 | apply and32 | exact mod32 _ | apply div32 | assumption | omega)); done) | omega) (by first | ((repeat' (first | exact Wn.at_lt _ _ | exact rotr_lt _ _ | apply xor32 | apply and32 | exact mod32 _ | apply div32 | assumption | omega)); done) | omega)) .nil)
        · intro w' hJ
          have he : Ext w8 w' := hJ
          have hsz := he.size
          replace hx := hx.tr he
          replace hB_bo := keepB he hB_bo
          replace hB_bw := keepB he hB_bw
          clear he
          exact (.cons (shrC (a := ((extTo (words0 b 16) k).at_ ((16 + k) - 15))) (n := 3) (p := 8) (by show _ ≤ 32; omega) (by decide)) .nil)
        · intro w' hJ
          have he : Ext w8 w' := hJ
          have hsz := he.size
          replace hx := hx.tr he
          replace hB_bo := keepB he hB_bo
          replace hB_bw := keepB he hB_bw
          clear he
          exact (.cons (xorW_u32 (a := ((rotr ((extTo (words0 b 16) k).at_ ((16 + k) - 15)) 7) ^^^ (rotr ((extTo (words0 b 16) k).at_ ((16 + k) - 15)) 18))) (n := (((extTo (words0 b 16) k).at_ ((16 + k) - 15)) / 8)) (by first | ((repeat' (first | exact Wn.at_lt _ _ | exact rotr_lt _ _ | apply xor32 | apply and32 | exact mod32 _ | apply div32 | assumption | omega)); done) | omega) (by first | ((repeat' (first | exact Wn.at_lt _ _ | exact rotr_lt _ _ | apply xor32 | apply and32 | exact mod32 _ | apply div32 | assumption | omega)); done) | omega)) .nil)
        · intro w' hJ
          have he : Ext w8 w' := hJ
          have hsz := he.size
          replace hx := hx.tr he
          replace hB_bo := keepB he hB_bo
          replace hB_bw := keepB he hB_bw
          clear he
          exact (.cons (addW_u32 (a := ((((extTo (words0 b 16) k).at_ ((16 + k) - 16)) + ((extTo (words0 b 16) k).at_ ((16 + k) - 7))) % 4294967296)) (n := (((rotr ((extTo (words0 b 16) k).at_ ((16 + k) - 15)) 7) ^^^ (rotr ((extTo (words0 b 16) k).at_ ((16 + k) - 15)) 18)) ^^^ (((extTo (words0 b 16) k).at_ ((16 + k) - 15)) / 8)))) .nil)
        · intro w' hJ
          have he : Ext w8 w' := hJ
          have hsz := he.size
          replace hx := hx.tr he
          replace hB_bo := keepB he hB_bo
          replace hB_bw := keepB he hB_bw
          clear he
          exact (.cons (fun w _ => rotl_ok _ 17 w (by first | ((repeat' (first | exact Wn.at_lt _ _ | exact rotr_lt _ _ | apply xor32 | apply and32 | exact mod32 _ | apply div32 | assumption | omega)); done) | omega) (by omega)) .nil)
        · intro w' hJ
          have he : Ext w8 w' := hJ
          have hsz := he.size
          replace hx := hx.tr he
          replace hB_bo := keepB he hB_bo
          replace hB_bw := keepB he hB_bw
          clear he
          exact (.cons (fun w _ => rotl_ok _ 19 w (by first | ((repeat' (first | exact Wn.at_lt _ _ | exact rotr_lt _ _ | apply xor32 | apply and32 | exact mod32 _ | apply div32 | assumption | omega)); done) | omega) (by omega)) .nil)
        · intro w' hJ
          have he : Ext w8 w' := hJ
          have hsz := he.size
          replace hx := hx.tr he
          replace hB_bo := keepB he hB_bo
          replace hB_bw := keepB he hB_bw
          clear he
          exact (.cons (xorW_u32 (a := (rotr ((extTo (words0 b 16) k).at_ ((16 + k) - 2)) 17)) (n := (rotr ((extTo (words0 b 16) k).at_ ((16 + k) - 2)) 19)) (by first | ((repeat' (first | exact Wn.at_lt _ _ | exact rotr_lt _ _ | apply xor32 | apply and32 | exact mod32 _ | apply div32 | assumption | omega)); done) | omega) (by first | ((repeat' (first | exact Wn.at_lt _ _ | exact rotr_lt _ _ | apply xor32 | apply and32 | exact mod32 _ | apply div32 | assumption | omega)); done) | omega)) .nil)
        · intro w' hJ
          have he : Ext w8 w' := hJ
          have hsz := he.size
          replace hx := hx.tr he
          replace hB_bo := keepB he hB_bo
          replace hB_bw := keepB he hB_bw
          clear he
          exact (.cons (shrC (a := ((extTo (words0 b 16) k).at_ ((16 + k) - 2))) (n := 10) (p := 1024) (by show _ ≤ 32; omega) (by decide)) .nil)
        · intro w' hJ
          have he : Ext w8 w' := hJ
          have hsz := he.size
          replace hx := hx.tr he
          replace hB_bo := keepB he hB_bo
          replace hB_bw := keepB he hB_bw
          clear he
          exact (.cons (xorW_u32 (a := ((rotr ((extTo (words0 b 16) k).at_ ((16 + k) - 2)) 17) ^^^ (rotr ((extTo (words0 b 16) k).at_ ((16 + k) - 2)) 19))) (n := (((extTo (words0 b 16) k).at_ ((16 + k) - 2)) / 1024)) (by first | ((repeat' (first | exact Wn.at_lt _ _ | exact rotr_lt _ _ | apply xor32 | apply and32 | exact mod32 _ | apply div32 | assumption | omega)); done) | omega) (by first | ((repeat' (first | exact Wn.at_lt _ _ | exact rotr_lt _ _ | apply xor32 | apply and32 | exact mod32 _ | apply div32 | assumption | omega)); done) | omega)) .nil)
        · intro w' hJ
          have he : Ext w8 w' := hJ
          have hsz := he.size
          replace hx := hx.tr he
          replace hB_bo := keepB he hB_bo
          replace hB_bw := keepB he hB_bw
          clear he
          exact (.cons (addW_u32 (a := ((((((extTo (words0 b 16) k).at_ ((16 + k) - 16)) + ((extTo (words0 b 16) k).at_ ((16 + k) - 7))) % 4294967296) + (((rotr ((extTo (words0 b 16) k).at_ ((16 + k) - 15)) 7) ^^^ (rotr ((extTo (words0 b 16) k).at_ ((16 + k) - 15)) 18)) ^^^ (((extTo (words0 b 16) k).at_ ((16 + k) - 15)) / 8))) % 4294967296)) (n := (((rotr ((extTo (words0 b 16) k).at_ ((16 + k) - 2)) 17) ^^^ (rotr ((extTo (words0 b 16) k).at_ ((16 + k) - 2)) 19)) ^^^ (((extTo (words0 b 16) k).at_ ((16 + k) - 2)) / 1024)))) .nil)
        · intro w' hJ
          have he : Ext w8 w' := hJ
          have hsz := he.size
          replace hx := hx.tr he
          replace hB_bo := keepB he hB_bo
          replace hB_bw := keepB he hB_bw
          clear he
          exact (.cons (ixA (n := 64) (i := (16 + k)) (by kernel_rfl) (by omega)) .nil)
      · trivial
      · refine ⟨?_, trivial⟩
        · intro w' hJ
          have hB_boS := hB_bo
          have hB_bwS := hB_bw
          have he : Ext w8 w' := hJ
          have hsz := he.size
          replace hx := hx.tr he
          replace hB_bo := keepB he hB_bo
          replace hB_bw := keepB he hB_bw
          clear he
          refine ostoreL (off := (16 + k)) (vs := [.int .u32 (((((((((extTo (words0 b 16) k).at_ ((16 + k) - 16)) + ((extTo (words0 b 16) k).at_ ((16 + k) - 7))) % 4294967296) + (((rotr ((extTo (words0 b 16) k).at_ ((16 + k) - 15)) 7) ^^^ (rotr ((extTo (words0 b 16) k).at_ ((16 + k) - 15)) 18)) ^^^ (((extTo (words0 b 16) k).at_ ((16 + k) - 15)) / 8))) % 4294967296) + (((rotr ((extTo (words0 b 16) k).at_ ((16 + k) - 2)) 17) ^^^ (rotr ((extTo (words0 b 16) k).at_ ((16 + k) - 2)) 19)) ^^^ (((extTo (words0 b 16) k).at_ ((16 + k) - 2)) / 1024))) % 4294967296 : Nat) : Int)]) (cs' := wc ((extTo (words0 b 16) k).set (16 + k) ((((((((extTo (words0 b 16) k).at_ ((16 + k) - 16)) + ((extTo (words0 b 16) k).at_ ((16 + k) - 7))) % 4294967296) + (((rotr ((extTo (words0 b 16) k).at_ ((16 + k) - 15)) 7) ^^^ (rotr ((extTo (words0 b 16) k).at_ ((16 + k) - 15)) 18)) ^^^ (((extTo (words0 b 16) k).at_ ((16 + k) - 15)) / 8))) % 4294967296) + (((rotr ((extTo (words0 b 16) k).at_ ((16 + k) - 2)) 17) ^^^ (rotr ((extTo (words0 b 16) k).at_ ((16 + k) - 2)) 19)) ^^^ (((extTo (words0 b 16) k).at_ ((16 + k) - 2)) / 1024))) % 4294967296))) (t := 59) (x := .tmp 70) (y := .tmp 69) (by kernel_rfl) (by kernel_rfl) hB_bw (by kernel_rfl) (by kernel_rfl) (by kernel_rfl) (by rw [wc_len _]; show (16 + k) + 1 ≤ 64; omega) (by rw [put_one (by rw [wc_len _]; omega)]; exact wc_set _ _ _ (by omega)) ?_
          intro w'' hc
          exact ⟨trivial, ⟨Nat.le_trans hsz hc.size, hc.ext hx hb_bw, hc.keep hB_bo (by first | assumption | exact Ne.symm (by assumption)), hc.at_⟩, trivial⟩
      · clear ha a; intro a w9 hJ ha
        clear hx hB_bo hB_bw
        obtain ⟨hsz, hx, hB_bo, hB_bw⟩ := hJ
        clear hsz
        rw [extTo_step] at hB_bw
        refine bn ?_
        refine tn ?_
        refine regp (ρ' := [(2, .pointer (some ⟨bo, 0, none⟩)), (3, .pointer (some ⟨bw, 0, none⟩)), (5, .func (.func 86) #[] #[]), (6, .int .i64 (((16 + k) + 1 : Nat) : Int))]) (C := [InR .i64 (((16 + k) + 1 : Nat) : Int)]) ha [] (by kernel_rfl) (.cons (by unfold InR; omega) .nil) ?_
        clear ha a; intro a ha
        exact tn ⟨48 - ((k + 1)), by omega, (k + 1), rfl, ha.sub (ρ' := [(2, .pointer (some ⟨bo, 0, none⟩)), (3, .pointer (some ⟨bw, 0, none⟩)), (5, .func (.func 86) #[] #[]), (6, .int .i64 ((16 + (k + 1) : Nat) : Int))]) (by kernel_rfl), hx, hB_bo, hB_bw, by omega⟩
    · replace h27 := of_decide_eq_false h27
      obtain rfl : k = 48 := by omega
      refine wexit ?_
      refine (te (te (be ?_)))
      refine tn ?_
      refine wseq ?_
      refine reg_list ?_
      refine segp (ρ' := [(2, .pointer (some ⟨bo, 0, none⟩)), (71, .agg ⟨wc (extTo (words0 b 16) 48)⟩)]) (C := [RunOk Tryd.prog w7 (Instr.loadAt 82 (.pointer (some ⟨bw, 0, none⟩))) (.agg ⟨wc (extTo (words0 b 16) 48)⟩)]) ha 1 [(0, .val (.agg ⟨wc (extTo (words0 b 16) 48)⟩))] rfl (by kernel_rfl) (.cons (ldAll (n := 64) hB_bw (by kernel_rfl) (by kernel_rfl) (wc_len _)) .nil) ?_
      clear ha a; intro a ha
      refine lstoreL (off := 0) (vs := wc (extTo (words0 b 16) 48)) (cs' := wc (extTo (words0 b 16) 48)) ha rfl rfl (by kernel_rfl) rfl rfl hB_bo (by rw [wc_len _]; kernel_rfl) (by kernel_rfl) (wc_one _) (by first | (rw [wc_len _, wc_len _]; omega; done) | simp [wc_len]) (put_all (by first | (rw [wc_len _, wc_len _]; done) | simp [wc_len])) ?_
      clear ha a; intro w10 hc a ha
      replace hB_bw := hc.keep hB_bw (by first | assumption | exact Ne.symm (by assumption))
      replace hx := hc.ext hx hb_bo
      replace hB_bo := hc.at_; clear hc
      refine lnil ?_
      replace ha := ha.sub (ρ' := [(2, .pointer (some ⟨bo, 0, none⟩))]) (by kernel_rfl)
      refine tn ?_
      refine wret ?_
      refine fin ha (.cell rfl (ldVAll (n := 64) hB_bo (by kernel_rfl) (by kernel_rfl) (wc_len _)) .nil) ?_
      exact ⟨rfl, hx⟩
-- UNUSED LABEL wrap
theorem sblock_ok (c : Wn 64) (s : Wn 8) (b : List UInt8) (w : World) (hb : b.length = 64) {T0 : Nat} {f0 : Nat × Nat} (hB_0 : w.heap[0]? = some (.cells ⟨wc c⟩ T0 f0)) :
    Fn Tryd.prog 69 #[.agg ⟨wc s⟩, .string (S b)] w (fun x w' => x = .agg ⟨wc (shaBlk c s b)⟩ ∧ Ext w w') := by
  have hG_0 := hB_0
  have hx : Ext w w := Ext.rfl' w
  refine enter (N := 109) (args := [.agg ⟨wc s⟩, .string (S b)]) Tryd.func69 rfl rfl rfl ?_
  intro a ha
  simp only [argEnv, Nat.zero_add, Nat.reduceAdd] at ha
  refine wseq ?_
  refine reg_list ?_
  refine lnew ha rfl (by kernel_rfl) ⟨wc s⟩ 81 (by kernel_rfl) ?_
  clear ha a; intro bs w1 he hb_bs hB_bs a ha
  have hne_0_bs : 0 ≠ bs := ne_new hB_0 hb_bs
  replace hB_0 := keepB he hB_0
  replace hb_bs := Nat.le_trans hx.size hb_bs
  replace hx := hx.tr he
  clear he
  refine lnew ha rfl (by kernel_rfl) ⟨wc (wz 8)⟩ 81 (by kernel_rfl) ?_
  clear ha a; intro bo w2 he hb_bo hB_bo a ha
  have hne_0_bo : 0 ≠ bo := ne_new hB_0 hb_bo
  have hne_bs_bo : bs ≠ bo := ne_new hB_bs hb_bo
  replace hB_0 := keepB he hB_0
  replace hB_bs := keepB he hB_bs
  replace hb_bo := Nat.le_trans hx.size hb_bo
  replace hx := hx.tr he
  clear he
  refine lnil ?_
  replace ha := ha.sub (ρ' := [(1, .string (S b)), (2, .pointer (some ⟨bs, 0, none⟩)), (4, .pointer (some ⟨bo, 0, none⟩))]) (by kernel_rfl)
  refine tn ?_
  refine wseq ?_
  refine regp (ρ' := [(1, .string (S b)), (2, .pointer (some ⟨bs, 0, none⟩)), (4, .pointer (some ⟨bo, 0, none⟩)), (5, .func (.func 86) #[] #[])]) (C := []) ha [] (by kernel_rfl) .nil ?_
  clear ha a; intro a ha
  refine tn ?_
  refine wseq ?_
  refine reg_list ?_
  refine segp (ρ' := [(1, .string (S b)), (2, .pointer (some ⟨bs, 0, none⟩)), (4, .pointer (some ⟨bo, 0, none⟩)), (5, .func (.func 86) #[] #[]), (14, .agg ⟨wc s⟩)]) (C := [RunOk Tryd.prog w2 (Instr.loadAt 81 (.pointer (some ⟨bs, 0, none⟩))) (.agg ⟨wc s⟩)]) ha 1 [(0, .val (.agg ⟨wc s⟩))] rfl (by kernel_rfl) (.cons (ldAll (n := 8) hB_bs (by kernel_rfl) (by kernel_rfl) (wc_len _)) .nil) ?_
  clear ha a; intro a ha
  refine lnew ha rfl (by kernel_rfl) ⟨wc (wz 8)⟩ 81 (by kernel_rfl) ?_
  clear ha a; intro bv w3 he hb_bv hB_bv a ha
  have hne_0_bv : 0 ≠ bv := ne_new hB_0 hb_bv
  have hne_bs_bv : bs ≠ bv := ne_new hB_bs hb_bv
  have hne_bo_bv : bo ≠ bv := ne_new hB_bo hb_bv
  replace hB_0 := keepB he hB_0
  replace hB_bs := keepB he hB_bs
  replace hB_bo := keepB he hB_bo
  replace hb_bv := Nat.le_trans hx.size hb_bv
  replace hx := hx.tr he
  clear he
  refine lstoreL (off := 0) (vs := wc s) (cs' := wc s) ha rfl rfl (by kernel_rfl) rfl rfl hB_bv (by rw [wc_len _]; kernel_rfl) (by kernel_rfl) (wc_one _) (by first | (rw [wc_len _, wc_len _]; omega; done) | simp [wc_len]) (put_all (by first | (rw [wc_len _, wc_len _]; done) | simp [wc_len])) ?_
  clear ha a; intro w4 hc a ha
  replace hB_0 := hc.keep hB_0 (by first | assumption | exact Ne.symm (by assumption))
  replace hB_bs := hc.keep hB_bs (by first | assumption | exact Ne.symm (by assumption))
  replace hB_bo := hc.keep hB_bo (by first | assumption | exact Ne.symm (by assumption))
  replace hx := hc.ext hx hb_bv
  replace hB_bv := hc.at_; clear hc
  refine lnil ?_
  replace ha := ha.sub (ρ' := [(1, .string (S b)), (2, .pointer (some ⟨bs, 0, none⟩)), (4, .pointer (some ⟨bo, 0, none⟩)), (5, .func (.func 86) #[] #[]), (6, .pointer (some ⟨bv, 0, none⟩))]) (by kernel_rfl)
  refine tn ?_
  refine wseq ?_
  refine wseq ?_
  refine reg hmix (ρ' := [(2, .pointer (some ⟨bs, 0, none⟩)), (4, .pointer (some ⟨bo, 0, none⟩)), (5, .func (.func 86) #[] #[]), (6, .pointer (some ⟨bv, 0, none⟩)), (16, .agg ⟨wc (shaW b)⟩), (17, .int .i64 0)]) (C := [CallOk Tryd.prog w4 87 #[.string (S b)] (.agg ⟨wc (shaW b)⟩)]) ha [(1, .val (.agg ⟨wc (shaW b)⟩))] (by kernel_rfl) (.cons (fun w _ => words_ok _ w (by omega)) .nil) ?_
  clear ha a; intro a w5 ha he
  replace hx := hx.tr he
  replace hB_0 := keepB he hB_0
  replace hB_bs := keepB he hB_bs
  replace hB_bo := keepB he hB_bo
  replace hB_bv := keepB he hB_bv
  clear he
  refine tn ?_
  refine wblk ?_
  refine wloop (fun zz a w6 => ∃ (t : Nat), zz = 64 - t ∧ On 109 [(2, .pointer (some ⟨bs, 0, none⟩)), (4, .pointer (some ⟨bo, 0, none⟩)), (5, .func (.func 86) #[] #[]), (6, .pointer (some ⟨bv, 0, none⟩)), (16, .agg ⟨wc (shaW b)⟩), (17, .int .i64 ((t : Nat) : Int))] a ∧ Ext w w6 ∧ w6.heap[0]? = some (.cells ⟨wc c⟩ T0 f0) ∧ w6.heap[bs]? = some (.cells ⟨wc s⟩ 81 (0, 0)) ∧ w6.heap[bo]? = some (.cells ⟨wc (wz 8)⟩ 81 (0, 0)) ∧ w6.heap[bv]? = some (.cells ⟨wc (rounds c (shaW b) s t)⟩ 81 (0, 0)) ∧ (t ≤ 64)) _ ⟨0, rfl, ha.sub (ρ' := [(2, .pointer (some ⟨bs, 0, none⟩)), (4, .pointer (some ⟨bo, 0, none⟩)), (5, .func (.func 86) #[] #[]), (6, .pointer (some ⟨bv, 0, none⟩)), (16, .agg ⟨wc (shaW b)⟩), (17, .int .i64 ((0 : Nat) : Int))]) (by kernel_rfl), hx, hB_0, hB_bs, hB_bo, hB_bv, by omega⟩ ?_
  clear ha hx hB_0 hB_bs hB_bo hB_bv
  rintro zz a w7 ⟨t, hzz, ha, hx, hB_0, hB_bs, hB_bo, hB_bv, ht⟩
  refine wseq ?_
  refine regp (ρ' := [(2, .pointer (some ⟨bs, 0, none⟩)), (4, .pointer (some ⟨bo, 0, none⟩)), (5, .func (.func 86) #[] #[]), (6, .pointer (some ⟨bv, 0, none⟩)), (16, .agg ⟨wc (shaW b)⟩), (17, .int .i64 ((t : Nat) : Int)), (18, .bool (decide (((t : Nat) : Int) < 64)))]) (C := []) ha [] (by kernel_rfl) .nil ?_
  clear ha a; intro a ha
  refine tn ?_
  refine wseq ?_
  refine wif ha rfl (fun h18 => ?_) (fun h18 => ?_)
  · replace h18 := of_decide_eq_true h18
    refine wskip ?_
    refine tn ?_
    refine wseq ?_
    refine wblk ?_
    refine wseq ?_
    refine regp (ρ' := [(2, .pointer (some ⟨bs, 0, none⟩)), (4, .pointer (some ⟨bo, 0, none⟩)), (5, .func (.func 86) #[] #[]), (6, .pointer (some ⟨bv, 0, none⟩)), (7, .int .i64 ((t : Nat) : Int)), (8, .int .u32 (((shaW b).at_ t : Nat) : Int)), (16, .agg ⟨wc (shaW b)⟩), (17, .int .i64 ((t : Nat) : Int))]) (C := [RunOk Tryd.prog w7 (Instr.index 82 (.agg ⟨wc (shaW b)⟩) (.int .i64 ((t : Nat) : Int))) (.int .u32 (((shaW b).at_ t : Nat) : Int))]) ha [(1, .val (.int .u32 (((shaW b).at_ t : Nat) : Int)))] (by kernel_rfl) (.cons (ixV (n := 64) (i := t) (by kernel_rfl) (by kernel_rfl) (by omega) (wc_at (i := t) (by omega))) .nil) ?_
    clear ha a; intro a ha
    refine tn ?_
    refine wseq ?_
    refine reg hmix (ρ' := [(2, .pointer (some ⟨bs, 0, none⟩)), (4, .pointer (some ⟨bo, 0, none⟩)), (5, .func (.func 86) #[] #[]), (6, .pointer (some ⟨bv, 0, none⟩)), (7, .int .i64 ((t : Nat) : Int)), (8, .int .u32 (((shaW b).at_ t : Nat) : Int)), (9, .int .u32 (((rounds c (shaW b) s t).at_ 0 : Nat) : Int)), (10, .int .u32 (((rounds c (shaW b) s t).at_ 4 : Nat) : Int)), (16, .agg ⟨wc (shaW b)⟩), (17, .int .i64 ((t : Nat) : Int))]) (C := [RunOk Tryd.prog w7 (Instr.indexAt 81 (.pointer (some ⟨bv, 0, none⟩)) (.int .i64 0)) (.pointer (some ⟨bv, 0, none⟩)), RunOk Tryd.prog w7 (Instr.loadAt 59 (.pointer (some ⟨bv, 0, none⟩))) (.int .u32 (((rounds c (shaW b) s t).at_ 0 : Nat) : Int)), RunOk Tryd.prog w7 (Instr.indexAt 81 (.pointer (some ⟨bv, 0, none⟩)) (.int .i64 4)) (.pointer (some ⟨bv, 4, none⟩)), RunOk Tryd.prog w7 (Instr.loadAt 59 (.pointer (some ⟨bv, 4, none⟩))) (.int .u32 (((rounds c (shaW b) s t).at_ 4 : Nat) : Int))]) ha [(0, .val (.pointer (some ⟨bv, 0, none⟩))), (1, .val (.int .u32 (((rounds c (shaW b) s t).at_ 0 : Nat) : Int))), (2, .val (.pointer (some ⟨bv, 4, none⟩))), (3, .val (.int .u32 (((rounds c (shaW b) s t).at_ 4 : Nat) : Int)))] (by kernel_rfl) (.cons (ixA (n := 8) (i := 0) (by kernel_rfl) (by omega)) (.cons (ld1 hB_bv (by kernel_rfl) (wc_at (i := 0) (by omega))) (.cons (ixA (n := 8) (i := 4) (by kernel_rfl) (by omega)) (.cons (ld1 hB_bv (by kernel_rfl) (wc_at (i := 4) (by omega))) .nil)))) ?_
    clear ha a; intro a w8 ha he
    replace hx := hx.tr he
    replace hB_0 := keepB he hB_0
    replace hB_bs := keepB he hB_bs
    replace hB_bo := keepB he hB_bo
    replace hB_bv := keepB he hB_bv
    clear he
    refine tn ?_
    refine wseq ?_
    refine reg hmix (ρ' := [(2, .pointer (some ⟨bs, 0, none⟩)), (4, .pointer (some ⟨bo, 0, none⟩)), (5, .func (.func 86) #[] #[]), (6, .pointer (some ⟨bv, 0, none⟩)), (9, .int .u32 (((rounds c (shaW b) s t).at_ 0 : Nat) : Int)), (11, .int .u32 (((((((((((rounds c (shaW b) s t).at_ 7) + (((rotr ((rounds c (shaW b) s t).at_ 4) 6) ^^^ (rotr ((rounds c (shaW b) s t).at_ 4) 11)) ^^^ (rotr ((rounds c (shaW b) s t).at_ 4) 25))) % 4294967296) + ((((rounds c (shaW b) s t).at_ 4) &&& ((rounds c (shaW b) s t).at_ 5)) ^^^ ((4294967295 ^^^ ((rounds c (shaW b) s t).at_ 4)) &&& ((rounds c (shaW b) s t).at_ 6)))) % 4294967296) + (c.at_ t)) % 4294967296) + ((shaW b).at_ t)) % 4294967296 : Nat) : Int)), (16, .agg ⟨wc (shaW b)⟩), (17, .int .i64 ((t : Nat) : Int))]) (C := [RunOk Tryd.prog w8 (Instr.indexAt 81 (.pointer (some ⟨bv, 0, none⟩)) (.int .i64 7)) (.pointer (some ⟨bv, 7, none⟩)), RunOk Tryd.prog w8 (Instr.loadAt 59 (.pointer (some ⟨bv, 7, none⟩))) (.int .u32 (((rounds c (shaW b) s t).at_ 7 : Nat) : Int)), CallOk Tryd.prog w8 86 #[.int .u32 (((rounds c (shaW b) s t).at_ 4 : Nat) : Int), .int .i64 (-6)] (.int .u32 ((rotr ((rounds c (shaW b) s t).at_ 4) 6 : Nat) : Int)), CallOk Tryd.prog w8 86 #[.int .u32 (((rounds c (shaW b) s t).at_ 4 : Nat) : Int), .int .i64 (-11)] (.int .u32 ((rotr ((rounds c (shaW b) s t).at_ 4) 11 : Nat) : Int)), BinOk Tryd.prog .xor 59 (.int .u32 ((rotr ((rounds c (shaW b) s t).at_ 4) 6 : Nat) : Int)) (.int .u32 ((rotr ((rounds c (shaW b) s t).at_ 4) 11 : Nat) : Int)) (.int .u32 (((rotr ((rounds c (shaW b) s t).at_ 4) 6) ^^^ (rotr ((rounds c (shaW b) s t).at_ 4) 11) : Nat) : Int)), CallOk Tryd.prog w8 86 #[.int .u32 (((rounds c (shaW b) s t).at_ 4 : Nat) : Int), .int .i64 (-25)] (.int .u32 ((rotr ((rounds c (shaW b) s t).at_ 4) 25 : Nat) : Int)), BinOk Tryd.prog .xor 59 (.int .u32 (((rotr ((rounds c (shaW b) s t).at_ 4) 6) ^^^ (rotr ((rounds c (shaW b) s t).at_ 4) 11) : Nat) : Int)) (.int .u32 ((rotr ((rounds c (shaW b) s t).at_ 4) 25 : Nat) : Int)) (.int .u32 ((((rotr ((rounds c (shaW b) s t).at_ 4) 6) ^^^ (rotr ((rounds c (shaW b) s t).at_ 4) 11)) ^^^ (rotr ((rounds c (shaW b) s t).at_ 4) 25) : Nat) : Int)), BinOk Tryd.prog .add 59 (.int .u32 (((rounds c (shaW b) s t).at_ 7 : Nat) : Int)) (.int .u32 ((((rotr ((rounds c (shaW b) s t).at_ 4) 6) ^^^ (rotr ((rounds c (shaW b) s t).at_ 4) 11)) ^^^ (rotr ((rounds c (shaW b) s t).at_ 4) 25) : Nat) : Int)) (.int .u32 (((((rounds c (shaW b) s t).at_ 7) + (((rotr ((rounds c (shaW b) s t).at_ 4) 6) ^^^ (rotr ((rounds c (shaW b) s t).at_ 4) 11)) ^^^ (rotr ((rounds c (shaW b) s t).at_ 4) 25))) % 4294967296 : Nat) : Int)), RunOk Tryd.prog w8 (Instr.indexAt 81 (.pointer (some ⟨bv, 0, none⟩)) (.int .i64 5)) (.pointer (some ⟨bv, 5, none⟩)), RunOk Tryd.prog w8 (Instr.loadAt 59 (.pointer (some ⟨bv, 5, none⟩))) (.int .u32 (((rounds c (shaW b) s t).at_ 5 : Nat) : Int)), BinOk Tryd.prog .and 59 (.int .u32 (((rounds c (shaW b) s t).at_ 4 : Nat) : Int)) (.int .u32 (((rounds c (shaW b) s t).at_ 5 : Nat) : Int)) (.int .u32 ((((rounds c (shaW b) s t).at_ 4) &&& ((rounds c (shaW b) s t).at_ 5) : Nat) : Int)), NN .u32 (((rounds c (shaW b) s t).at_ 4 : Nat) : Int), RunOk Tryd.prog w8 (Instr.indexAt 81 (.pointer (some ⟨bv, 0, none⟩)) (.int .i64 6)) (.pointer (some ⟨bv, 6, none⟩)), RunOk Tryd.prog w8 (Instr.loadAt 59 (.pointer (some ⟨bv, 6, none⟩))) (.int .u32 (((rounds c (shaW b) s t).at_ 6 : Nat) : Int)), BinOk Tryd.prog .and 59 (.int .u32 ((4294967295 ^^^ ((rounds c (shaW b) s t).at_ 4) : Nat) : Int)) (.int .u32 (((rounds c (shaW b) s t).at_ 6 : Nat) : Int)) (.int .u32 (((4294967295 ^^^ ((rounds c (shaW b) s t).at_ 4)) &&& ((rounds c (shaW b) s t).at_ 6) : Nat) : Int)), BinOk Tryd.prog .xor 59 (.int .u32 ((((rounds c (shaW b) s t).at_ 4) &&& ((rounds c (shaW b) s t).at_ 5) : Nat) : Int)) (.int .u32 (((4294967295 ^^^ ((rounds c (shaW b) s t).at_ 4)) &&& ((rounds c (shaW b) s t).at_ 6) : Nat) : Int)) (.int .u32 (((((rounds c (shaW b) s t).at_ 4) &&& ((rounds c (shaW b) s t).at_ 5)) ^^^ ((4294967295 ^^^ ((rounds c (shaW b) s t).at_ 4)) &&& ((rounds c (shaW b) s t).at_ 6)) : Nat) : Int)), BinOk Tryd.prog .add 59 (.int .u32 (((((rounds c (shaW b) s t).at_ 7) + (((rotr ((rounds c (shaW b) s t).at_ 4) 6) ^^^ (rotr ((rounds c (shaW b) s t).at_ 4) 11)) ^^^ (rotr ((rounds c (shaW b) s t).at_ 4) 25))) % 4294967296 : Nat) : Int)) (.int .u32 (((((rounds c (shaW b) s t).at_ 4) &&& ((rounds c (shaW b) s t).at_ 5)) ^^^ ((4294967295 ^^^ ((rounds c (shaW b) s t).at_ 4)) &&& ((rounds c (shaW b) s t).at_ 6)) : Nat) : Int)) (.int .u32 (((((((rounds c (shaW b) s t).at_ 7) + (((rotr ((rounds c (shaW b) s t).at_ 4) 6) ^^^ (rotr ((rounds c (shaW b) s t).at_ 4) 11)) ^^^ (rotr ((rounds c (shaW b) s t).at_ 4) 25))) % 4294967296) + ((((rounds c (shaW b) s t).at_ 4) &&& ((rounds c (shaW b) s t).at_ 5)) ^^^ ((4294967295 ^^^ ((rounds c (shaW b) s t).at_ 4)) &&& ((rounds c (shaW b) s t).at_ 6)))) % 4294967296 : Nat) : Int)), RunOk Tryd.prog w8 (Instr.indexAt 82 (.pointer (some ⟨0, 0, none⟩)) (.int .i64 ((t : Nat) : Int))) (.pointer (some ⟨0, t, none⟩)), RunOk Tryd.prog w8 (Instr.loadAt 59 (.pointer (some ⟨0, t, none⟩))) (.int .u32 ((c.at_ t : Nat) : Int)), BinOk Tryd.prog .add 59 (.int .u32 (((((((rounds c (shaW b) s t).at_ 7) + (((rotr ((rounds c (shaW b) s t).at_ 4) 6) ^^^ (rotr ((rounds c (shaW b) s t).at_ 4) 11)) ^^^ (rotr ((rounds c (shaW b) s t).at_ 4) 25))) % 4294967296) + ((((rounds c (shaW b) s t).at_ 4) &&& ((rounds c (shaW b) s t).at_ 5)) ^^^ ((4294967295 ^^^ ((rounds c (shaW b) s t).at_ 4)) &&& ((rounds c (shaW b) s t).at_ 6)))) % 4294967296 : Nat) : Int)) (.int .u32 ((c.at_ t : Nat) : Int)) (.int .u32 (((((((((rounds c (shaW b) s t).at_ 7) + (((rotr ((rounds c (shaW b) s t).at_ 4) 6) ^^^ (rotr ((rounds c (shaW b) s t).at_ 4) 11)) ^^^ (rotr ((rounds c (shaW b) s t).at_ 4) 25))) % 4294967296) + ((((rounds c (shaW b) s t).at_ 4) &&& ((rounds c (shaW b) s t).at_ 5)) ^^^ ((4294967295 ^^^ ((rounds c (shaW b) s t).at_ 4)) &&& ((rounds c (shaW b) s t).at_ 6)))) % 4294967296) + (c.at_ t)) % 4294967296 : Nat) : Int)), BinOk Tryd.prog .add 59 (.int .u32 (((((((((rounds c (shaW b) s t).at_ 7) + (((rotr ((rounds c (shaW b) s t).at_ 4) 6) ^^^ (rotr ((rounds c (shaW b) s t).at_ 4) 11)) ^^^ (rotr ((rounds c (shaW b) s t).at_ 4) 25))) % 4294967296) + ((((rounds c (shaW b) s t).at_ 4) &&& ((rounds c (shaW b) s t).at_ 5)) ^^^ ((4294967295 ^^^ ((rounds c (shaW b) s t).at_ 4)) &&& ((rounds c (shaW b) s t).at_ 6)))) % 4294967296) + (c.at_ t)) % 4294967296 : Nat) : Int)) (.int .u32 (((shaW b).at_ t : Nat) : Int)) (.int .u32 (((((((((((rounds c (shaW b) s t).at_ 7) + (((rotr ((rounds c (shaW b) s t).at_ 4) 6) ^^^ (rotr ((rounds c (shaW b) s t).at_ 4) 11)) ^^^ (rotr ((rounds c (shaW b) s t).at_ 4) 25))) % 4294967296) + ((((rounds c (shaW b) s t).at_ 4) &&& ((rounds c (shaW b) s t).at_ 5)) ^^^ ((4294967295 ^^^ ((rounds c (shaW b) s t).at_ 4)) &&& ((rounds c (shaW b) s t).at_ 6)))) % 4294967296) + (c.at_ t)) % 4294967296) + ((shaW b).at_ t)) % 4294967296 : Nat) : Int))]) ha [(0, .val (.pointer (some ⟨bv, 7, none⟩))), (1, .val (.int .u32 (((rounds c (shaW b) s t).at_ 7 : Nat) : Int))), (4, .val (.int .u32 ((rotr ((rounds c (shaW b) s t).at_ 4) 6 : Nat) : Int))), (7, .val (.int .u32 ((rotr ((rounds c (shaW b) s t).at_ 4) 11 : Nat) : Int))), (8, .val (.int .u32 (((rotr ((rounds c (shaW b) s t).at_ 4) 6) ^^^ (rotr ((rounds c (shaW b) s t).at_ 4) 11) : Nat) : Int))), (11, .val (.int .u32 ((rotr ((rounds c (shaW b) s t).at_ 4) 25 : Nat) : Int))), (12, .val (.int .u32 ((((rotr ((rounds c (shaW b) s t).at_ 4) 6) ^^^ (rotr ((rounds c (shaW b) s t).at_ 4) 11)) ^^^ (rotr ((rounds c (shaW b) s t).at_ 4) 25) : Nat) : Int))), (13, .val (.int .u32 (((((rounds c (shaW b) s t).at_ 7) + (((rotr ((rounds c (shaW b) s t).at_ 4) 6) ^^^ (rotr ((rounds c (shaW b) s t).at_ 4) 11)) ^^^ (rotr ((rounds c (shaW b) s t).at_ 4) 25))) % 4294967296 : Nat) : Int))), (15, .val (.pointer (some ⟨bv, 5, none⟩))), (16, .val (.int .u32 (((rounds c (shaW b) s t).at_ 5 : Nat) : Int))), (17, .val (.int .u32 ((((rounds c (shaW b) s t).at_ 4) &&& ((rounds c (shaW b) s t).at_ 5) : Nat) : Int))), (20, .val (.pointer (some ⟨bv, 6, none⟩))), (21, .val (.int .u32 (((rounds c (shaW b) s t).at_ 6 : Nat) : Int))), (22, .val (.int .u32 (((4294967295 ^^^ ((rounds c (shaW b) s t).at_ 4)) &&& ((rounds c (shaW b) s t).at_ 6) : Nat) : Int))), (23, .val (.int .u32 (((((rounds c (shaW b) s t).at_ 4) &&& ((rounds c (shaW b) s t).at_ 5)) ^^^ ((4294967295 ^^^ ((rounds c (shaW b) s t).at_ 4)) &&& ((rounds c (shaW b) s t).at_ 6)) : Nat) : Int))), (24, .val (.int .u32 (((((((rounds c (shaW b) s t).at_ 7) + (((rotr ((rounds c (shaW b) s t).at_ 4) 6) ^^^ (rotr ((rounds c (shaW b) s t).at_ 4) 11)) ^^^ (rotr ((rounds c (shaW b) s t).at_ 4) 25))) % 4294967296) + ((((rounds c (shaW b) s t).at_ 4) &&& ((rounds c (shaW b) s t).at_ 5)) ^^^ ((4294967295 ^^^ ((rounds c (shaW b) s t).at_ 4)) &&& ((rounds c (shaW b) s t).at_ 6)))) % 4294967296 : Nat) : Int))), (26, .val (.pointer (some ⟨0, t, none⟩))), (27, .val (.int .u32 ((c.at_ t : Nat) : Int))), (28, .val (.int .u32 (((((((((rounds c (shaW b) s t).at_ 7) + (((rotr ((rounds c (shaW b) s t).at_ 4) 6) ^^^ (rotr ((rounds c (shaW b) s t).at_ 4) 11)) ^^^ (rotr ((rounds c (shaW b) s t).at_ 4) 25))) % 4294967296) + ((((rounds c (shaW b) s t).at_ 4) &&& ((rounds c (shaW b) s t).at_ 5)) ^^^ ((4294967295 ^^^ ((rounds c (shaW b) s t).at_ 4)) &&& ((rounds c (shaW b) s t).at_ 6)))) % 4294967296) + (c.at_ t)) % 4294967296 : Nat) : Int))), (30, .val (.int .u32 (((((((((((rounds c (shaW b) s t).at_ 7) + (((rotr ((rounds c (shaW b) s t).at_ 4) 6) ^^^ (rotr ((rounds c (shaW b) s t).at_ 4) 11)) ^^^ (rotr ((rounds c (shaW b) s t).at_ 4) 25))) % 4294967296) + ((((rounds c (shaW b) s t).at_ 4) &&& ((rounds c (shaW b) s t).at_ 5)) ^^^ ((4294967295 ^^^ ((rounds c (shaW b) s t).at_ 4)) &&& ((rounds c (shaW b) s t).at_ 6)))) % 4294967296) + (c.at_ t)) % 4294967296) + ((shaW b).at_ t)) % 4294967296 : Nat) : Int)))] (by kernel_rfl) (.cons (ixA (n := 8) (i := 7) (by kernel_rfl) (by omega)) (.cons (ld1 hB_bv (by kernel_rfl) (wc_at (i := 7) (by omega))) (.cons (fun w _ => rotl_ok _ 6 w (by first | ((repeat' (first | exact Wn.at_lt _ _ | exact rotr_lt _ _ | apply xor32 | apply and32 | exact mod32 _ | apply div32 | assumption | omega)); done) | omega) (by omega)) (.cons (fun w _ => rotl_ok _ 11 w (by first | ((repeat' (first | exact Wn.at_lt _ _ | exact rotr_lt _ _ | apply xor32 | apply and32 | exact mod32 _ | apply div32 | assumption | omega)); done) | omega) (by omega)) (.cons (xorW_u32 (a := (rotr ((rounds c (shaW b) s t).at_ 4) 6)) (n := (rotr ((rounds c (shaW b) s t).at_ 4) 11)) (by first | ((repeat' (first | exact Wn.at_lt _ _ | exact rotr_lt _ _ | apply xor32 | apply and32 | exact mod32 _ | apply div32 | assumption | omega)); done) | omega) (by first | ((repeat' (first | exact Wn.at_lt _ _ | exact rotr_lt _ _ | apply xor32 | apply and32 | exact mod32 _ | apply div32 | assumption | omega)); done) | omega)) (.cons (fun w _ => rotl_ok _ 25 w (by first | ((repeat' (first | exact Wn.at_lt _ _ | exact rotr_lt _ _ | apply xor32 | apply and32 | exact mod32 _ | apply div32 | assumption | omega)); done) | omega) (by omega)) (.cons (xorW_u32 (a := ((rotr ((rounds c (shaW b) s t).at_ 4) 6) ^^^ (rotr ((rounds c (shaW b) s t).at_ 4) 11))) (n := (rotr ((rounds c (shaW b) s t).at_ 4) 25)) (by first | ((repeat' (first | exact Wn.at_lt _ _ | exact rotr_lt _ _ | apply xor32 | apply and32 | exact mod32 _ | apply div32 | assumption | omega)); done) | omega) (by first | ((repeat' (first | exact Wn.at_lt _ _ | exact rotr_lt _ _ | apply xor32 | apply and32 | exact mod32 _ | apply div32 | assumption | omega)); done) | omega)) (.cons (addW_u32 (a := ((rounds c (shaW b) s t).at_ 7)) (n := (((rotr ((rounds c (shaW b) s t).at_ 4) 6) ^^^ (rotr ((rounds c (shaW b) s t).at_ 4) 11)) ^^^ (rotr ((rounds c (shaW b) s t).at_ 4) 25)))) (.cons (ixA (n := 8) (i := 5) (by kernel_rfl) (by omega)) (.cons (ld1 hB_bv (by kernel_rfl) (wc_at (i := 5) (by omega))) (.cons (andW_u32 (a := ((rounds c (shaW b) s t).at_ 4)) (n := ((rounds c (shaW b) s t).at_ 5)) (by first | ((repeat' (first | exact Wn.at_lt _ _ | exact rotr_lt _ _ | apply xor32 | apply and32 | exact mod32 _ | apply div32 | assumption | omega)); done) | omega) (by first | ((repeat' (first | exact Wn.at_lt _ _ | exact rotr_lt _ _ | apply xor32 | apply and32 | exact mod32 _ | apply div32 | assumption | omega)); done) | omega)) (.cons (by first | (refine nn32 ?_; (repeat' (first | exact Wn.at_lt _ _ | exact rotr_lt _ _ | apply xor32 | apply and32 | exact mod32 _ | apply div32 | assumption | omega)); done) | (unfold NN InR; omega)) (.cons (ixA (n := 8) (i := 6) (by kernel_rfl) (by omega)) (.cons (ld1 hB_bv (by kernel_rfl) (wc_at (i := 6) (by omega))) (.cons (andW_u32 (a := (4294967295 ^^^ ((rounds c (shaW b) s t).at_ 4))) (n := ((rounds c (shaW b) s t).at_ 6)) (by first | ((repeat' (first | exact Wn.at_lt _ _ | exact rotr_lt _ _ | apply xor32 | apply and32 | exact mod32 _ | apply div32 | assumption | omega)); done) | omega) (by first | ((repeat' (first | exact Wn.at_lt _ _ | exact rotr_lt _ _ | apply xor32 | apply and32 | exact mod32 _ | apply div32 | assumption | omega)); done) | omega)) (.cons (xorW_u32 (a := (((rounds c (shaW b) s t).at_ 4) &&& ((rounds c (shaW b) s t).at_ 5))) (n := ((4294967295 ^^^ ((rounds c (shaW b) s t).at_ 4)) &&& ((rounds c (shaW b) s t).at_ 6))) (by first | ((repeat' (first | exact Wn.at_lt _ _ | exact rotr_lt _ _ | apply xor32 | apply and32 | exact mod32 _ | apply div32 | assumption | omega)); done) | omega) (by first | ((repeat' (first | exact Wn.at_lt _ _ | exact rotr_lt _ _ | apply xor32 | apply and32 | exact mod32 _ | apply div32 | assumption | omega)); done) | omega)) (.cons (addW_u32 (a := ((((rounds c (shaW b) s t).at_ 7) + (((rotr ((rounds c (shaW b) s t).at_ 4) 6) ^^^ (rotr ((rounds c (shaW b) s t).at_ 4) 11)) ^^^ (rotr ((rounds c (shaW b) s t).at_ 4) 25))) % 4294967296)) (n := ((((rounds c (shaW b) s t).at_ 4) &&& ((rounds c (shaW b) s t).at_ 5)) ^^^ ((4294967295 ^^^ ((rounds c (shaW b) s t).at_ 4)) &&& ((rounds c (shaW b) s t).at_ 6))))) (.cons (ixA (n := 64) (i := t) (by kernel_rfl) (by omega)) (.cons (ld1 hB_0 (by kernel_rfl) (wc_at (i := t) (by omega))) (.cons (addW_u32 (a := ((((((rounds c (shaW b) s t).at_ 7) + (((rotr ((rounds c (shaW b) s t).at_ 4) 6) ^^^ (rotr ((rounds c (shaW b) s t).at_ 4) 11)) ^^^ (rotr ((rounds c (shaW b) s t).at_ 4) 25))) % 4294967296) + ((((rounds c (shaW b) s t).at_ 4) &&& ((rounds c (shaW b) s t).at_ 5)) ^^^ ((4294967295 ^^^ ((rounds c (shaW b) s t).at_ 4)) &&& ((rounds c (shaW b) s t).at_ 6)))) % 4294967296)) (n := (c.at_ t))) (.cons (addW_u32 (a := ((((((((rounds c (shaW b) s t).at_ 7) + (((rotr ((rounds c (shaW b) s t).at_ 4) 6) ^^^ (rotr ((rounds c (shaW b) s t).at_ 4) 11)) ^^^ (rotr ((rounds c (shaW b) s t).at_ 4) 25))) % 4294967296) + ((((rounds c (shaW b) s t).at_ 4) &&& ((rounds c (shaW b) s t).at_ 5)) ^^^ ((4294967295 ^^^ ((rounds c (shaW b) s t).at_ 4)) &&& ((rounds c (shaW b) s t).at_ 6)))) % 4294967296) + (c.at_ t)) % 4294967296)) (n := ((shaW b).at_ t))) .nil))))))))))))))))))))) ?_
    clear ha a; intro a w9 ha he
    replace hx := hx.tr he
    replace hB_0 := keepB he hB_0
    replace hB_bs := keepB he hB_bs
    replace hB_bo := keepB he hB_bo
    replace hB_bv := keepB he hB_bv
    clear he
    rw [show ((((((((((((rounds c (shaW b) s t).at_ 7) + (((rotr ((rounds c (shaW b) s t).at_ 4) 6) ^^^ (rotr ((rounds c (shaW b) s t).at_ 4) 11)) ^^^ (rotr ((rounds c (shaW b) s t).at_ 4) 25))) % 4294967296) + ((((rounds c (shaW b) s t).at_ 4) &&& ((rounds c (shaW b) s t).at_ 5)) ^^^ ((4294967295 ^^^ ((rounds c (shaW b) s t).at_ 4)) &&& ((rounds c (shaW b) s t).at_ 6)))) % 4294967296) + (c.at_ t)) % 4294967296) + ((shaW b).at_ t)) % 4294967296 : Nat) : Int) : Int) = ((rX (rounds c (shaW b) s t) (c.at_ t) ((shaW b).at_ t) : Nat) : Int) from congrArg (fun q : Nat => (q : Int)) (rX_eq _ _ _)] at ha
    refine tn ?_
    refine wseq ?_
    refine reg hmix (ρ' := [(2, .pointer (some ⟨bs, 0, none⟩)), (4, .pointer (some ⟨bo, 0, none⟩)), (5, .func (.func 86) #[] #[]), (6, .pointer (some ⟨bv, 0, none⟩)), (11, .int .u32 ((rX (rounds c (shaW b) s t) (c.at_ t) ((shaW b).at_ t) : Nat) : Int)), (12, .int .u32 ((((((rotr ((rounds c (shaW b) s t).at_ 0) 2) ^^^ (rotr ((rounds c (shaW b) s t).at_ 0) 13)) ^^^ (rotr ((rounds c (shaW b) s t).at_ 0) 22)) + (((((rounds c (shaW b) s t).at_ 0) &&& ((rounds c (shaW b) s t).at_ 1)) ^^^ (((rounds c (shaW b) s t).at_ 0) &&& ((rounds c (shaW b) s t).at_ 2))) ^^^ (((rounds c (shaW b) s t).at_ 1) &&& ((rounds c (shaW b) s t).at_ 2)))) % 4294967296 : Nat) : Int)), (16, .agg ⟨wc (shaW b)⟩), (17, .int .i64 ((t : Nat) : Int))]) (C := [CallOk Tryd.prog w9 86 #[.int .u32 (((rounds c (shaW b) s t).at_ 0 : Nat) : Int), .int .i64 (-2)] (.int .u32 ((rotr ((rounds c (shaW b) s t).at_ 0) 2 : Nat) : Int)), CallOk Tryd.prog w9 86 #[.int .u32 (((rounds c (shaW b) s t).at_ 0 : Nat) : Int), .int .i64 (-13)] (.int .u32 ((rotr ((rounds c (shaW b) s t).at_ 0) 13 : Nat) : Int)), BinOk Tryd.prog .xor 59 (.int .u32 ((rotr ((rounds c (shaW b) s t).at_ 0) 2 : Nat) : Int)) (.int .u32 ((rotr ((rounds c (shaW b) s t).at_ 0) 13 : Nat) : Int)) (.int .u32 (((rotr ((rounds c (shaW b) s t).at_ 0) 2) ^^^ (rotr ((rounds c (shaW b) s t).at_ 0) 13) : Nat) : Int)), CallOk Tryd.prog w9 86 #[.int .u32 (((rounds c (shaW b) s t).at_ 0 : Nat) : Int), .int .i64 (-22)] (.int .u32 ((rotr ((rounds c (shaW b) s t).at_ 0) 22 : Nat) : Int)), BinOk Tryd.prog .xor 59 (.int .u32 (((rotr ((rounds c (shaW b) s t).at_ 0) 2) ^^^ (rotr ((rounds c (shaW b) s t).at_ 0) 13) : Nat) : Int)) (.int .u32 ((rotr ((rounds c (shaW b) s t).at_ 0) 22 : Nat) : Int)) (.int .u32 ((((rotr ((rounds c (shaW b) s t).at_ 0) 2) ^^^ (rotr ((rounds c (shaW b) s t).at_ 0) 13)) ^^^ (rotr ((rounds c (shaW b) s t).at_ 0) 22) : Nat) : Int)), RunOk Tryd.prog w9 (Instr.indexAt 81 (.pointer (some ⟨bv, 0, none⟩)) (.int .i64 1)) (.pointer (some ⟨bv, 1, none⟩)), RunOk Tryd.prog w9 (Instr.loadAt 59 (.pointer (some ⟨bv, 1, none⟩))) (.int .u32 (((rounds c (shaW b) s t).at_ 1 : Nat) : Int)), BinOk Tryd.prog .and 59 (.int .u32 (((rounds c (shaW b) s t).at_ 0 : Nat) : Int)) (.int .u32 (((rounds c (shaW b) s t).at_ 1 : Nat) : Int)) (.int .u32 ((((rounds c (shaW b) s t).at_ 0) &&& ((rounds c (shaW b) s t).at_ 1) : Nat) : Int)), RunOk Tryd.prog w9 (Instr.indexAt 81 (.pointer (some ⟨bv, 0, none⟩)) (.int .i64 2)) (.pointer (some ⟨bv, 2, none⟩)), RunOk Tryd.prog w9 (Instr.loadAt 59 (.pointer (some ⟨bv, 2, none⟩))) (.int .u32 (((rounds c (shaW b) s t).at_ 2 : Nat) : Int)), BinOk Tryd.prog .and 59 (.int .u32 (((rounds c (shaW b) s t).at_ 0 : Nat) : Int)) (.int .u32 (((rounds c (shaW b) s t).at_ 2 : Nat) : Int)) (.int .u32 ((((rounds c (shaW b) s t).at_ 0) &&& ((rounds c (shaW b) s t).at_ 2) : Nat) : Int)), BinOk Tryd.prog .xor 59 (.int .u32 ((((rounds c (shaW b) s t).at_ 0) &&& ((rounds c (shaW b) s t).at_ 1) : Nat) : Int)) (.int .u32 ((((rounds c (shaW b) s t).at_ 0) &&& ((rounds c (shaW b) s t).at_ 2) : Nat) : Int)) (.int .u32 (((((rounds c (shaW b) s t).at_ 0) &&& ((rounds c (shaW b) s t).at_ 1)) ^^^ (((rounds c (shaW b) s t).at_ 0) &&& ((rounds c (shaW b) s t).at_ 2)) : Nat) : Int)), RunOk Tryd.prog w9 (Instr.indexAt 81 (.pointer (some ⟨bv, 0, none⟩)) (.int .i64 1)) (.pointer (some ⟨bv, 1, none⟩)), RunOk Tryd.prog w9 (Instr.loadAt 59 (.pointer (some ⟨bv, 1, none⟩))) (.int .u32 (((rounds c (shaW b) s t).at_ 1 : Nat) : Int)), RunOk Tryd.prog w9 (Instr.indexAt 81 (.pointer (some ⟨bv, 0, none⟩)) (.int .i64 2)) (.pointer (some ⟨bv, 2, none⟩)), RunOk Tryd.prog w9 (Instr.loadAt 59 (.pointer (some ⟨bv, 2, none⟩))) (.int .u32 (((rounds c (shaW b) s t).at_ 2 : Nat) : Int)), BinOk Tryd.prog .and 59 (.int .u32 (((rounds c (shaW b) s t).at_ 1 : Nat) : Int)) (.int .u32 (((rounds c (shaW b) s t).at_ 2 : Nat) : Int)) (.int .u32 ((((rounds c (shaW b) s t).at_ 1) &&& ((rounds c (shaW b) s t).at_ 2) : Nat) : Int)), BinOk Tryd.prog .xor 59 (.int .u32 (((((rounds c (shaW b) s t).at_ 0) &&& ((rounds c (shaW b) s t).at_ 1)) ^^^ (((rounds c (shaW b) s t).at_ 0) &&& ((rounds c (shaW b) s t).at_ 2)) : Nat) : Int)) (.int .u32 ((((rounds c (shaW b) s t).at_ 1) &&& ((rounds c (shaW b) s t).at_ 2) : Nat) : Int)) (.int .u32 ((((((rounds c (shaW b) s t).at_ 0) &&& ((rounds c (shaW b) s t).at_ 1)) ^^^ (((rounds c (shaW b) s t).at_ 0) &&& ((rounds c (shaW b) s t).at_ 2))) ^^^ (((rounds c (shaW b) s t).at_ 1) &&& ((rounds c (shaW b) s t).at_ 2)) : Nat) : Int)), BinOk Tryd.prog .add 59 (.int .u32 ((((rotr ((rounds c (shaW b) s t).at_ 0) 2) ^^^ (rotr ((rounds c (shaW b) s t).at_ 0) 13)) ^^^ (rotr ((rounds c (shaW b) s t).at_ 0) 22) : Nat) : Int)) (.int .u32 ((((((rounds c (shaW b) s t).at_ 0) &&& ((rounds c (shaW b) s t).at_ 1)) ^^^ (((rounds c (shaW b) s t).at_ 0) &&& ((rounds c (shaW b) s t).at_ 2))) ^^^ (((rounds c (shaW b) s t).at_ 1) &&& ((rounds c (shaW b) s t).at_ 2)) : Nat) : Int)) (.int .u32 ((((((rotr ((rounds c (shaW b) s t).at_ 0) 2) ^^^ (rotr ((rounds c (shaW b) s t).at_ 0) 13)) ^^^ (rotr ((rounds c (shaW b) s t).at_ 0) 22)) + (((((rounds c (shaW b) s t).at_ 0) &&& ((rounds c (shaW b) s t).at_ 1)) ^^^ (((rounds c (shaW b) s t).at_ 0) &&& ((rounds c (shaW b) s t).at_ 2))) ^^^ (((rounds c (shaW b) s t).at_ 1) &&& ((rounds c (shaW b) s t).at_ 2)))) % 4294967296 : Nat) : Int))]) ha [(2, .val (.int .u32 ((rotr ((rounds c (shaW b) s t).at_ 0) 2 : Nat) : Int))), (5, .val (.int .u32 ((rotr ((rounds c (shaW b) s t).at_ 0) 13 : Nat) : Int))), (6, .val (.int .u32 (((rotr ((rounds c (shaW b) s t).at_ 0) 2) ^^^ (rotr ((rounds c (shaW b) s t).at_ 0) 13) : Nat) : Int))), (9, .val (.int .u32 ((rotr ((rounds c (shaW b) s t).at_ 0) 22 : Nat) : Int))), (10, .val (.int .u32 ((((rotr ((rounds c (shaW b) s t).at_ 0) 2) ^^^ (rotr ((rounds c (shaW b) s t).at_ 0) 13)) ^^^ (rotr ((rounds c (shaW b) s t).at_ 0) 22) : Nat) : Int))), (12, .val (.pointer (some ⟨bv, 1, none⟩))), (13, .val (.int .u32 (((rounds c (shaW b) s t).at_ 1 : Nat) : Int))), (14, .val (.int .u32 ((((rounds c (shaW b) s t).at_ 0) &&& ((rounds c (shaW b) s t).at_ 1) : Nat) : Int))), (16, .val (.pointer (some ⟨bv, 2, none⟩))), (17, .val (.int .u32 (((rounds c (shaW b) s t).at_ 2 : Nat) : Int))), (18, .val (.int .u32 ((((rounds c (shaW b) s t).at_ 0) &&& ((rounds c (shaW b) s t).at_ 2) : Nat) : Int))), (19, .val (.int .u32 (((((rounds c (shaW b) s t).at_ 0) &&& ((rounds c (shaW b) s t).at_ 1)) ^^^ (((rounds c (shaW b) s t).at_ 0) &&& ((rounds c (shaW b) s t).at_ 2)) : Nat) : Int))), (20, .val (.pointer (some ⟨bv, 1, none⟩))), (21, .val (.int .u32 (((rounds c (shaW b) s t).at_ 1 : Nat) : Int))), (22, .val (.pointer (some ⟨bv, 2, none⟩))), (23, .val (.int .u32 (((rounds c (shaW b) s t).at_ 2 : Nat) : Int))), (24, .val (.int .u32 ((((rounds c (shaW b) s t).at_ 1) &&& ((rounds c (shaW b) s t).at_ 2) : Nat) : Int))), (25, .val (.int .u32 ((((((rounds c (shaW b) s t).at_ 0) &&& ((rounds c (shaW b) s t).at_ 1)) ^^^ (((rounds c (shaW b) s t).at_ 0) &&& ((rounds c (shaW b) s t).at_ 2))) ^^^ (((rounds c (shaW b) s t).at_ 1) &&& ((rounds c (shaW b) s t).at_ 2)) : Nat) : Int))), (26, .val (.int .u32 ((((((rotr ((rounds c (shaW b) s t).at_ 0) 2) ^^^ (rotr ((rounds c (shaW b) s t).at_ 0) 13)) ^^^ (rotr ((rounds c (shaW b) s t).at_ 0) 22)) + (((((rounds c (shaW b) s t).at_ 0) &&& ((rounds c (shaW b) s t).at_ 1)) ^^^ (((rounds c (shaW b) s t).at_ 0) &&& ((rounds c (shaW b) s t).at_ 2))) ^^^ (((rounds c (shaW b) s t).at_ 1) &&& ((rounds c (shaW b) s t).at_ 2)))) % 4294967296 : Nat) : Int)))] (by kernel_rfl) (.cons (fun w _ => rotl_ok _ 2 w (by first | ((repeat' (first | exact Wn.at_lt _ _ | exact rotr_lt _ _ | apply xor32 | apply and32 | exact mod32 _ | apply div32 | assumption | omega)); done) | omega) (by omega)) (.cons (fun w _ => rotl_ok _ 13 w (by first | ((repeat' (first | exact Wn.at_lt _ _ | exact rotr_lt _ _ | apply xor32 | apply and32 | exact mod32 _ | apply div32 | assumption | omega)); done) | omega) (by omega)) (.cons (xorW_u32 (a := (rotr ((rounds c (shaW b) s t).at_ 0) 2)) (n := (rotr ((rounds c (shaW b) s t).at_ 0) 13)) (by first | ((repeat' (first | exact Wn.at_lt _ _ | exact rotr_lt _ _ | apply xor32 | apply and32 | exact mod32 _ | apply div32 | assumption | omega)); done) | omega) (by first | ((repeat' (first | exact Wn.at_lt _ _ | exact rotr_lt _ _ | apply xor32 | apply and32 | exact mod32 _ | apply div32 | assumption | omega)); done) | omega)) (.cons (fun w _ => rotl_ok _ 22 w (by first | ((repeat' (first | exact Wn.at_lt _ _ | exact rotr_lt _ _ | apply xor32 | apply and32 | exact mod32 _ | apply div32 | assumption | omega)); done) | omega) (by omega)) (.cons (xorW_u32 (a := ((rotr ((rounds c (shaW b) s t).at_ 0) 2) ^^^ (rotr ((rounds c (shaW b) s t).at_ 0) 13))) (n := (rotr ((rounds c (shaW b) s t).at_ 0) 22)) (by first | ((repeat' (first | exact Wn.at_lt _ _ | exact rotr_lt _ _ | apply xor32 | apply and32 | exact mod32 _ | apply div32 | assumption | omega)); done) | omega) (by first | ((repeat' (first | exact Wn.at_lt _ _ | exact rotr_lt _ _ | apply xor32 | apply and32 | exact mod32 _ | apply div32 | assumption | omega)); done) | omega)) (.cons (ixA (n := 8) (i := 1) (by kernel_rfl) (by omega)) (.cons (ld1 hB_bv (by kernel_rfl) (wc_at (i := 1) (by omega))) (.cons (andW_u32 (a := ((rounds c (shaW b) s t).at_ 0)) (n := ((rounds c (shaW b) s t).at_ 1)) (by first | ((repeat' (first | exact Wn.at_lt _ _ | exact rotr_lt _ _ | apply xor32 | apply and32 | exact mod32 _ | apply div32 | assumption | omega)); done) | omega) (by first | ((repeat' (first | exact Wn.at_lt _ _ | exact rotr_lt _ _ | apply xor32 | apply and32 | exact mod32 _ | apply div32 | assumption | omega)); done) | omega)) (.cons (ixA (n := 8) (i := 2) (by kernel_rfl) (by omega)) (.cons (ld1 hB_bv (by kernel_rfl) (wc_at (i := 2) (by omega))) (.cons (andW_u32 (a := ((rounds c (shaW b) s t).at_ 0)) (n := ((rounds c (shaW b) s t).at_ 2)) (by first | ((repeat' (first | exact Wn.at_lt _ _ | exact rotr_lt _ _ | apply xor32 | apply and32 | exact mod32 _ | apply div32 | assumption | omega)); done) | omega) (by first | ((repeat' (first | exact Wn.at_lt _ _ | exact rotr_lt _ _ | apply xor32 | apply and32 | exact mod32 _ | apply div32 | assumption | omega)); done) | omega)) (.cons (xorW_u32 (a := (((rounds c (shaW b) s t).at_ 0) &&& ((rounds c (shaW b) s t).at_ 1))) (n := (((rounds c (shaW b) s t).at_ 0) &&& ((rounds c (shaW b) s t).at_ 2))) (by first | ((repeat' (first | exact Wn.at_lt _ _ | exact rotr_lt _ _ | apply xor32 | apply and32 | exact mod32 _ | apply div32 | assumption | omega)); done) | omega) (by first | ((repeat' (first | exact Wn.at_lt _ _ | exact rotr_lt _ _ | apply xor32 | apply and32 | exact mod32 _ | apply div32 | assumption | omega)); done) | omega)) (.cons (ixA (n := 8) (i := 1) (by kernel_rfl) (by omega)) (.cons (ld1 hB_bv (by kernel_rfl) (wc_at (i := 1) (by omega))) (.cons (ixA (n := 8) (i := 2) (by kernel_rfl) (by omega)) (.cons (ld1 hB_bv (by kernel_rfl) (wc_at (i := 2) (by omega))) (.cons (andW_u32 (a := ((rounds c (shaW b) s t).at_ 1)) (n := ((rounds c (shaW b) s t).at_ 2)) (by first | ((repeat' (first | exact Wn.at_lt _ _ | exact rotr_lt _ _ | apply xor32 | apply and32 | exact mod32 _ | apply div32 | assumption | omega)); done) | omega) (by first | ((repeat' (first | exact Wn.at_lt _ _ | exact rotr_lt _ _ | apply xor32 | apply and32 | exact mod32 _ | apply div32 | assumption | omega)); done) | omega)) (.cons (xorW_u32 (a := ((((rounds c (shaW b) s t).at_ 0) &&& ((rounds c (shaW b) s t).at_ 1)) ^^^ (((rounds c (shaW b) s t).at_ 0) &&& ((rounds c (shaW b) s t).at_ 2)))) (n := (((rounds c (shaW b) s t).at_ 1) &&& ((rounds c (shaW b) s t).at_ 2))) (by first | ((repeat' (first | exact Wn.at_lt _ _ | exact rotr_lt _ _ | apply xor32 | apply and32 | exact mod32 _ | apply div32 | assumption | omega)); done) | omega) (by first | ((repeat' (first | exact Wn.at_lt _ _ | exact rotr_lt _ _ | apply xor32 | apply and32 | exact mod32 _ | apply div32 | assumption | omega)); done) | omega)) (.cons (addW_u32 (a := (((rotr ((rounds c (shaW b) s t).at_ 0) 2) ^^^ (rotr ((rounds c (shaW b) s t).at_ 0) 13)) ^^^ (rotr ((rounds c (shaW b) s t).at_ 0) 22))) (n := (((((rounds c (shaW b) s t).at_ 0) &&& ((rounds c (shaW b) s t).at_ 1)) ^^^ (((rounds c (shaW b) s t).at_ 0) &&& ((rounds c (shaW b) s t).at_ 2))) ^^^ (((rounds c (shaW b) s t).at_ 1) &&& ((rounds c (shaW b) s t).at_ 2))))) .nil))))))))))))))))))) ?_
    clear ha a; intro a w10 ha he
    replace hx := hx.tr he
    replace hB_0 := keepB he hB_0
    replace hB_bs := keepB he hB_bs
    replace hB_bo := keepB he hB_bo
    replace hB_bv := keepB he hB_bv
    clear he
    rw [show (((((((rotr ((rounds c (shaW b) s t).at_ 0) 2) ^^^ (rotr ((rounds c (shaW b) s t).at_ 0) 13)) ^^^ (rotr ((rounds c (shaW b) s t).at_ 0) 22)) + (((((rounds c (shaW b) s t).at_ 0) &&& ((rounds c (shaW b) s t).at_ 1)) ^^^ (((rounds c (shaW b) s t).at_ 0) &&& ((rounds c (shaW b) s t).at_ 2))) ^^^ (((rounds c (shaW b) s t).at_ 1) &&& ((rounds c (shaW b) s t).at_ 2)))) % 4294967296 : Nat) : Int) : Int) = ((rY (rounds c (shaW b) s t) : Nat) : Int) from congrArg (fun q : Nat => (q : Int)) (rY_eq _)] at ha
    refine tn ?_
    refine wseq ?_
    refine regM hmix ha [(0, .raw), (1, .raw)] [] [⟨2, .val (.int .i64 ((7 : Nat) : Int)), [], []⟩] [] (ρ' := [(2, .pointer (some ⟨bs, 0, none⟩)), (4, .pointer (some ⟨bo, 0, none⟩)), (5, .func (.func 86) #[] #[]), (6, .pointer (some ⟨bv, 0, none⟩)), (11, .int .u32 ((rX (rounds c (shaW b) s t) (c.at_ t) ((shaW b).at_ t) : Nat) : Int)), (12, .int .u32 ((rY (rounds c (shaW b) s t) : Nat) : Int)), (16, .agg ⟨wc (shaW b)⟩), (17, .int .i64 ((t : Nat) : Int))]) [] [fun w' => Ext w10 w', fun w' => w10.heap.size ≤ w'.heap.size ∧ Ext w w' ∧ w'.heap[0]? = some (.cells ⟨wc c⟩ T0 f0) ∧ w'.heap[bs]? = some (.cells ⟨wc s⟩ 81 (0, 0)) ∧ w'.heap[bo]? = some (.cells ⟨wc (wz 8)⟩ 81 (0, 0)) ∧ w'.heap[bv]? = some (.cells ⟨wc (shiftW (rounds c (shaW b) s t))⟩ 81 (0, 0))] [] (by kernel_rfl) (fun w' => by kernel_rfl) (fun w' => by kernel_rfl) (by kernel_rfl) (fun w' h => h) ?_ ?_ ?_ ?_ ?_ ?_
    · refine ⟨fun w1 w2 h e => Ext.tr h e, ?_, trivial⟩
      · rintro w1 w2 ⟨hsz, hx, hB_0, hB_bs, hB_bo, hB_bv⟩ he
        exact ⟨Nat.le_trans hsz he.size, hx.tr he, keepB he hB_0, keepB he hB_bs, keepB he hB_bo, keepB he hB_bv⟩
    · trivial
    · trivial
    · trivial
    · refine ⟨?_, trivial⟩
      · intro w' hJ
        have hB_0S := hB_0
        have hB_bsS := hB_bs
        have hB_boS := hB_bo
        have hB_bvS := hB_bv
        have he : Ext w10 w' := hJ
        have hsz := he.size
        replace hx := hx.tr he
        replace hB_0 := keepB he hB_0
        replace hB_bs := keepB he hB_bs
        replace hB_bo := keepB he hB_bo
        replace hB_bv := keepB he hB_bv
        clear he
        refine ocopyRow (s := .tmp 83) (q := .tmp 84) (dT := 137) (sT := 137) (of_ := 1) (n := 7) (c := 7) (sc := 8) (ad := ⟨bv, 0, none⟩) (cs := (wc (rounds c (shaW b) s t)).take 7) (cs' := wc (shiftW (rounds c (shaW b) s t))) (by kernel_rfl) (by kernel_rfl) (by kernel_rfl) (by kernel_rfl) hB_bv (by rw [List.length_take, wc_len]; rfl) (shiftW_src hB_bv) (by rw [wc_len]; decide) (by rw [List.all_eq_true]; intro v hv; exact List.all_eq_true.1 (wc_one _) v (List.mem_of_mem_take hv)) (shiftW_wc _) ?_
        intro w'' hc
        exact ⟨rfl, ⟨Nat.le_trans hsz hc.size, hc.ext hx hb_bv, hc.keep hB_0 (by first | assumption | exact Ne.symm (by assumption)), hc.keep hB_bs (by first | assumption | exact Ne.symm (by assumption)), hc.keep hB_bo (by first | assumption | exact Ne.symm (by assumption)), hc.at_⟩, trivial⟩
    · clear ha a; intro a w11 hJ ha
      clear hx hB_0 hB_bs hB_bo hB_bv
      obtain ⟨hsz, hx, hB_0, hB_bs, hB_bo, hB_bv⟩ := hJ
      clear hsz
      refine tn ?_
      refine wseq ?_
      refine reg_list ?_
      refine segp (ρ' := [(2, .pointer (some ⟨bs, 0, none⟩)), (4, .pointer (some ⟨bo, 0, none⟩)), (5, .func (.func 86) #[] #[]), (6, .pointer (some ⟨bv, 0, none⟩)), (11, .int .u32 ((rX (rounds c (shaW b) s t) (c.at_ t) ((shaW b).at_ t) : Nat) : Int)), (12, .int .u32 ((rY (rounds c (shaW b) s t) : Nat) : Int)), (16, .agg ⟨wc (shaW b)⟩), (17, .int .i64 ((t : Nat) : Int)), (89, .int .u32 (((((shiftW (rounds c (shaW b) s t)).at_ 4) + (rX (rounds c (shaW b) s t) (c.at_ t) ((shaW b).at_ t))) % 4294967296 : Nat) : Int)), (90, .pointer (some ⟨bv, 4, none⟩))]) (C := [RunOk Tryd.prog w11 (Instr.indexAt 81 (.pointer (some ⟨bv, 0, none⟩)) (.int .i64 4)) (.pointer (some ⟨bv, 4, none⟩)), RunOk Tryd.prog w11 (Instr.loadAt 59 (.pointer (some ⟨bv, 4, none⟩))) (.int .u32 (((shiftW (rounds c (shaW b) s t)).at_ 4 : Nat) : Int)), BinOk Tryd.prog .add 59 (.int .u32 (((shiftW (rounds c (shaW b) s t)).at_ 4 : Nat) : Int)) (.int .u32 ((rX (rounds c (shaW b) s t) (c.at_ t) ((shaW b).at_ t) : Nat) : Int)) (.int .u32 (((((shiftW (rounds c (shaW b) s t)).at_ 4) + (rX (rounds c (shaW b) s t) (c.at_ t) ((shaW b).at_ t))) % 4294967296 : Nat) : Int)), RunOk Tryd.prog w11 (Instr.indexAt 81 (.pointer (some ⟨bv, 0, none⟩)) (.int .i64 4)) (.pointer (some ⟨bv, 4, none⟩))]) ha 5 [(0, .val (.pointer (some ⟨bv, 4, none⟩))), (1, .val (.int .u32 (((shiftW (rounds c (shaW b) s t)).at_ 4 : Nat) : Int))), (3, .val (.int .u32 (((((shiftW (rounds c (shaW b) s t)).at_ 4) + (rX (rounds c (shaW b) s t) (c.at_ t) ((shaW b).at_ t))) % 4294967296 : Nat) : Int))), (4, .val (.pointer (some ⟨bv, 4, none⟩)))] rfl (by kernel_rfl) (.cons (ixA (n := 8) (i := 4) (by kernel_rfl) (by omega)) (.cons (ld1 hB_bv (by kernel_rfl) (wc_at (i := 4) (by omega))) (.cons (addW_u32 (a := ((shiftW (rounds c (shaW b) s t)).at_ 4)) (n := (rX (rounds c (shaW b) s t) (c.at_ t) ((shaW b).at_ t)))) (.cons (ixA (n := 8) (i := 4) (by kernel_rfl) (by omega)) .nil)))) ?_
      clear ha a; intro a ha
      refine lstoreL (off := 4) (vs := [.int .u32 (((((shiftW (rounds c (shaW b) s t)).at_ 4) + (rX (rounds c (shaW b) s t) (c.at_ t) ((shaW b).at_ t))) % 4294967296 : Nat) : Int)]) (cs' := wc ((shiftW (rounds c (shaW b) s t)).set 4 ((((shiftW (rounds c (shaW b) s t)).at_ 4) + (rX (rounds c (shaW b) s t) (c.at_ t) ((shaW b).at_ t))) % 4294967296))) ha rfl rfl (by kernel_rfl) rfl rfl hB_bv (by kernel_rfl) (by kernel_rfl) (by kernel_rfl) (by rw [wc_len _]; show 4 + 1 ≤ 8; omega) (by rw [put_one (by rw [wc_len _]; omega)]; exact wc_set _ _ _ (by omega)) ?_
      clear ha a; intro w12 hc a ha
      replace hB_0 := hc.keep hB_0 (by first | assumption | exact Ne.symm (by assumption))
      replace hB_bs := hc.keep hB_bs (by first | assumption | exact Ne.symm (by assumption))
      replace hB_bo := hc.keep hB_bo (by first | assumption | exact Ne.symm (by assumption))
      replace hx := hc.ext hx hb_bv
      replace hB_bv := hc.at_; clear hc
      refine lnil ?_
      replace ha := ha.sub (ρ' := [(2, .pointer (some ⟨bs, 0, none⟩)), (4, .pointer (some ⟨bo, 0, none⟩)), (5, .func (.func 86) #[] #[]), (6, .pointer (some ⟨bv, 0, none⟩)), (11, .int .u32 ((rX (rounds c (shaW b) s t) (c.at_ t) ((shaW b).at_ t) : Nat) : Int)), (12, .int .u32 ((rY (rounds c (shaW b) s t) : Nat) : Int)), (16, .agg ⟨wc (shaW b)⟩), (17, .int .i64 ((t : Nat) : Int))]) (by kernel_rfl)
      refine tn ?_
      refine reg_list ?_
      refine segp (ρ' := [(2, .pointer (some ⟨bs, 0, none⟩)), (4, .pointer (some ⟨bo, 0, none⟩)), (5, .func (.func 86) #[] #[]), (6, .pointer (some ⟨bv, 0, none⟩)), (16, .agg ⟨wc (shaW b)⟩), (17, .int .i64 ((t : Nat) : Int)), (93, .int .u32 ((((rX (rounds c (shaW b) s t) (c.at_ t) ((shaW b).at_ t)) + (rY (rounds c (shaW b) s t))) % 4294967296 : Nat) : Int)), (94, .pointer (some ⟨bv, 0, none⟩))]) (C := [BinOk Tryd.prog .add 59 (.int .u32 ((rX (rounds c (shaW b) s t) (c.at_ t) ((shaW b).at_ t) : Nat) : Int)) (.int .u32 ((rY (rounds c (shaW b) s t) : Nat) : Int)) (.int .u32 ((((rX (rounds c (shaW b) s t) (c.at_ t) ((shaW b).at_ t)) + (rY (rounds c (shaW b) s t))) % 4294967296 : Nat) : Int)), RunOk Tryd.prog w12 (Instr.indexAt 81 (.pointer (some ⟨bv, 0, none⟩)) (.int .i64 0)) (.pointer (some ⟨bv, 0, none⟩))]) ha 4 [(2, .val (.int .u32 ((((rX (rounds c (shaW b) s t) (c.at_ t) ((shaW b).at_ t)) + (rY (rounds c (shaW b) s t))) % 4294967296 : Nat) : Int))), (3, .val (.pointer (some ⟨bv, 0, none⟩)))] rfl (by kernel_rfl) (.cons (addW_u32 (a := (rX (rounds c (shaW b) s t) (c.at_ t) ((shaW b).at_ t))) (n := (rY (rounds c (shaW b) s t)))) (.cons (ixA (n := 8) (i := 0) (by kernel_rfl) (by omega)) .nil)) ?_
      clear ha a; intro a ha
      refine lstoreL (off := 0) (vs := [.int .u32 ((((rX (rounds c (shaW b) s t) (c.at_ t) ((shaW b).at_ t)) + (rY (rounds c (shaW b) s t))) % 4294967296 : Nat) : Int)]) (cs' := wc (((shiftW (rounds c (shaW b) s t)).set 4 ((((shiftW (rounds c (shaW b) s t)).at_ 4) + (rX (rounds c (shaW b) s t) (c.at_ t) ((shaW b).at_ t))) % 4294967296)).set 0 (((rX (rounds c (shaW b) s t) (c.at_ t) ((shaW b).at_ t)) + (rY (rounds c (shaW b) s t))) % 4294967296))) ha rfl rfl (by kernel_rfl) rfl rfl hB_bv (by kernel_rfl) (by kernel_rfl) (by kernel_rfl) (by rw [wc_len _]; show 0 + 1 ≤ 8; omega) (by rw [put_one (by rw [wc_len _]; omega)]; exact wc_set _ _ _ (by omega)) ?_
      clear ha a; intro w13 hc a ha
      replace hB_0 := hc.keep hB_0 (by first | assumption | exact Ne.symm (by assumption))
      replace hB_bs := hc.keep hB_bs (by first | assumption | exact Ne.symm (by assumption))
      replace hB_bo := hc.keep hB_bo (by first | assumption | exact Ne.symm (by assumption))
      replace hx := hc.ext hx hb_bv
      replace hB_bv := hc.at_; clear hc
      refine lnil ?_
      replace ha := ha.sub (ρ' := [(2, .pointer (some ⟨bs, 0, none⟩)), (4, .pointer (some ⟨bo, 0, none⟩)), (5, .func (.func 86) #[] #[]), (6, .pointer (some ⟨bv, 0, none⟩)), (16, .agg ⟨wc (shaW b)⟩), (17, .int .i64 ((t : Nat) : Int))]) (by kernel_rfl)
      rw [rnd_step] at hB_bv
      refine bn ?_
      refine tn ?_
      refine regp (ρ' := [(2, .pointer (some ⟨bs, 0, none⟩)), (4, .pointer (some ⟨bo, 0, none⟩)), (5, .func (.func 86) #[] #[]), (6, .pointer (some ⟨bv, 0, none⟩)), (16, .agg ⟨wc (shaW b)⟩), (17, .int .i64 ((t + 1 : Nat) : Int))]) (C := [InR .i64 ((t + 1 : Nat) : Int)]) ha [] (by kernel_rfl) (.cons (by unfold InR; omega) .nil) ?_
      clear ha a; intro a ha
      exact tn ⟨64 - ((t + 1)), by omega, (t + 1), rfl, ha.sub (ρ' := [(2, .pointer (some ⟨bs, 0, none⟩)), (4, .pointer (some ⟨bo, 0, none⟩)), (5, .func (.func 86) #[] #[]), (6, .pointer (some ⟨bv, 0, none⟩)), (16, .agg ⟨wc (shaW b)⟩), (17, .int .i64 (((t + 1) : Nat) : Int))]) (by kernel_rfl), hx, hB_0, hB_bs, hB_bo, hB_bv, by omega⟩
  · replace h18 := of_decide_eq_false h18
    obtain rfl : t = 64 := by omega
    refine wexit ?_
    refine (te (te (be ?_)))
    refine tn ?_
    refine wseq ?_
    refine wseq ?_
    refine regp (ρ' := [(2, .pointer (some ⟨bs, 0, none⟩)), (4, .pointer (some ⟨bo, 0, none⟩)), (6, .pointer (some ⟨bv, 0, none⟩)), (96, .int .i64 0)]) (C := []) ha [] (by kernel_rfl) .nil ?_
    clear ha a; intro a ha
    refine tn ?_
    refine wblk ?_
    refine wloop (fun zz a w14 => ∃ (i : Nat), zz = 8 - i ∧ On 109 [(2, .pointer (some ⟨bs, 0, none⟩)), (4, .pointer (some ⟨bo, 0, none⟩)), (6, .pointer (some ⟨bv, 0, none⟩)), (96, .int .i64 ((i : Nat) : Int))] a ∧ Ext w w14 ∧ w14.heap[0]? = some (.cells ⟨wc c⟩ T0 f0) ∧ w14.heap[bs]? = some (.cells ⟨wc s⟩ 81 (0, 0)) ∧ w14.heap[bo]? = some (.cells ⟨wc (wz 8)⟩ 81 (0, 0)) ∧ w14.heap[bv]? = some (.cells ⟨wc (addTo (rounds c (shaW b) s 64) s i)⟩ 81 (0, 0)) ∧ (i ≤ 8)) _ ⟨0, rfl, ha.sub (ρ' := [(2, .pointer (some ⟨bs, 0, none⟩)), (4, .pointer (some ⟨bo, 0, none⟩)), (6, .pointer (some ⟨bv, 0, none⟩)), (96, .int .i64 ((0 : Nat) : Int))]) (by kernel_rfl), hx, hB_0, hB_bs, hB_bo, hB_bv, by omega⟩ ?_
    clear ha hx hB_0 hB_bs hB_bo hB_bv
    rintro zz a w15 ⟨i, hzz, ha, hx, hB_0, hB_bs, hB_bo, hB_bv, hi⟩
    refine wseq ?_
    refine regp (ρ' := [(2, .pointer (some ⟨bs, 0, none⟩)), (4, .pointer (some ⟨bo, 0, none⟩)), (6, .pointer (some ⟨bv, 0, none⟩)), (96, .int .i64 ((i : Nat) : Int)), (97, .bool (decide (((i : Nat) : Int) < 8)))]) (C := []) ha [] (by kernel_rfl) .nil ?_
    clear ha a; intro a ha
    refine tn ?_
    refine wseq ?_
    refine wif ha rfl (fun h97 => ?_) (fun h97 => ?_)
    · replace h97 := of_decide_eq_true h97
      refine wskip ?_
      refine tn ?_
      refine wseq ?_
      refine wblk ?_
      refine wseq ?_
      refine regp (ρ' := [(2, .pointer (some ⟨bs, 0, none⟩)), (4, .pointer (some ⟨bo, 0, none⟩)), (6, .pointer (some ⟨bv, 0, none⟩)), (13, .int .i64 ((i : Nat) : Int)), (96, .int .i64 ((i : Nat) : Int))]) (C := []) ha [] (by kernel_rfl) .nil ?_
      clear ha a; intro a ha
      refine tn ?_
      refine regM hmix ha [(1, .val (.pointer (some ⟨bv, i, none⟩))), (2, .val (.int .u32 (((addTo (rounds c (shaW b) s 64) s i).at_ i : Nat) : Int))), (4, .val (.pointer (some ⟨bs, i, none⟩))), (5, .val (.int .u32 ((s.at_ i : Nat) : Int))), (6, .val (.int .u32 (((((addTo (rounds c (shaW b) s 64) s i).at_ i) + (s.at_ i)) % 4294967296 : Nat) : Int))), (7, .val (.pointer (some ⟨bv, i, none⟩)))] [] [⟨8, .des, [], []⟩] [] (ρ' := [(2, .pointer (some ⟨bs, 0, none⟩)), (4, .pointer (some ⟨bo, 0, none⟩)), (6, .pointer (some ⟨bv, 0, none⟩)), (96, .int .i64 ((i : Nat) : Int))]) [] [fun w' => Ext w15 w', fun w' => w15.heap.size ≤ w'.heap.size ∧ Ext w w' ∧ w'.heap[0]? = some (.cells ⟨wc c⟩ T0 f0) ∧ w'.heap[bs]? = some (.cells ⟨wc s⟩ 81 (0, 0)) ∧ w'.heap[bo]? = some (.cells ⟨wc (wz 8)⟩ 81 (0, 0)) ∧ w'.heap[bv]? = some (.cells ⟨wc ((addTo (rounds c (shaW b) s 64) s i).set i ((((addTo (rounds c (shaW b) s 64) s i).at_ i) + (s.at_ i)) % 4294967296))⟩ 81 (0, 0))] [(1, [0], fun w' => [RunOk Tryd.prog w' (Instr.indexAt 81 (.pointer (some ⟨bv, 0, none⟩)) (.int .i64 ((i : Nat) : Int))) (.pointer (some ⟨bv, i, none⟩))]), (2, [0], fun w' => [RunOk Tryd.prog w' (Instr.loadAt 59 (.pointer (some ⟨bv, i, none⟩))) (.int .u32 (((addTo (rounds c (shaW b) s 64) s i).at_ i : Nat) : Int))]), (4, [0], fun w' => [RunOk Tryd.prog w' (Instr.indexAt 81 (.pointer (some ⟨bs, 0, none⟩)) (.int .i64 ((i : Nat) : Int))) (.pointer (some ⟨bs, i, none⟩))]), (5, [0], fun w' => [RunOk Tryd.prog w' (Instr.loadAt 59 (.pointer (some ⟨bs, i, none⟩))) (.int .u32 ((s.at_ i : Nat) : Int))]), (6, [0], fun w' => [BinOk Tryd.prog .add 59 (.int .u32 (((addTo (rounds c (shaW b) s 64) s i).at_ i : Nat) : Int)) (.int .u32 ((s.at_ i : Nat) : Int)) (.int .u32 (((((addTo (rounds c (shaW b) s 64) s i).at_ i) + (s.at_ i)) % 4294967296 : Nat) : Int))]), (7, [0], fun w' => [RunOk Tryd.prog w' (Instr.indexAt 81 (.pointer (some ⟨bv, 0, none⟩)) (.int .i64 ((i : Nat) : Int))) (.pointer (some ⟨bv, i, none⟩))])] (by kernel_rfl) (fun w' => by kernel_rfl) (fun w' => by kernel_rfl) (by kernel_rfl) (fun w' h => h) ?_ ?_ ?_ ?_ ?_ ?_
      · refine ⟨fun w1 w2 h e => Ext.tr h e, ?_, trivial⟩
        · rintro w1 w2 ⟨hsz, hx, hB_0, hB_bs, hB_bo, hB_bv⟩ he
          exact ⟨Nat.le_trans hsz he.size, hx.tr he, keepB he hB_0, keepB he hB_bs, keepB he hB_bo, keepB he hB_bv⟩
      · trivial
      · refine ⟨⟨?_, trivial⟩, ⟨?_, trivial⟩, ⟨?_, trivial⟩, ⟨?_, trivial⟩, ⟨?_, trivial⟩, ⟨?_, trivial⟩, trivial⟩
        · intro w' hJ
          have he : Ext w15 w' := hJ
          have hsz := he.size
          replace hx := hx.tr he
          replace hB_0 := keepB he hB_0
          replace hB_bs := keepB he hB_bs
          replace hB_bo := keepB he hB_bo
          replace hB_bv := keepB he hB_bv
          clear he
          exact (.cons (ixA (n := 8) (i := i) (by kernel_rfl) (by omega)) .nil)
        · intro w' hJ
          have he : Ext w15 w' := hJ
          have hsz := he.size
          replace hx := hx.tr he
          replace hB_0 := keepB he hB_0
          replace hB_bs := keepB he hB_bs
          replace hB_bo := keepB he hB_bo
          replace hB_bv := keepB he hB_bv
          clear he
          exact (.cons (ld1 hB_bv (by kernel_rfl) (wc_at (i := i) (by omega))) .nil)
        · intro w' hJ
          have he : Ext w15 w' := hJ
          have hsz := he.size
          replace hx := hx.tr he
          replace hB_0 := keepB he hB_0
          replace hB_bs := keepB he hB_bs
          replace hB_bo := keepB he hB_bo
          replace hB_bv := keepB he hB_bv
          clear he
          exact (.cons (ixA (n := 8) (i := i) (by kernel_rfl) (by omega)) .nil)
        · intro w' hJ
          have he : Ext w15 w' := hJ
          have hsz := he.size
          replace hx := hx.tr he
          replace hB_0 := keepB he hB_0
          replace hB_bs := keepB he hB_bs
          replace hB_bo := keepB he hB_bo
          replace hB_bv := keepB he hB_bv
          clear he
          exact (.cons (ld1 hB_bs (by kernel_rfl) (wc_at (i := i) (by omega))) .nil)
        · intro w' hJ
          have he : Ext w15 w' := hJ
          have hsz := he.size
          replace hx := hx.tr he
          replace hB_0 := keepB he hB_0
          replace hB_bs := keepB he hB_bs
          replace hB_bo := keepB he hB_bo
          replace hB_bv := keepB he hB_bv
          clear he
          exact (.cons (addW_u32 (a := ((addTo (rounds c (shaW b) s 64) s i).at_ i)) (n := (s.at_ i))) .nil)
        · intro w' hJ
          have he : Ext w15 w' := hJ
          have hsz := he.size
          replace hx := hx.tr he
          replace hB_0 := keepB he hB_0
          replace hB_bs := keepB he hB_bs
          replace hB_bo := keepB he hB_bo
          replace hB_bv := keepB he hB_bv
          clear he
          exact (.cons (ixA (n := 8) (i := i) (by kernel_rfl) (by omega)) .nil)
      · trivial
      · refine ⟨?_, trivial⟩
        · intro w' hJ
          have hB_0S := hB_0
          have hB_bsS := hB_bs
          have hB_boS := hB_bo
          have hB_bvS := hB_bv
          have he : Ext w15 w' := hJ
          have hsz := he.size
          replace hx := hx.tr he
          replace hB_0 := keepB he hB_0
          replace hB_bs := keepB he hB_bs
          replace hB_bo := keepB he hB_bo
          replace hB_bv := keepB he hB_bv
          clear he
          refine ostoreL (off := i) (vs := [.int .u32 (((((addTo (rounds c (shaW b) s 64) s i).at_ i) + (s.at_ i)) % 4294967296 : Nat) : Int)]) (cs' := wc ((addTo (rounds c (shaW b) s 64) s i).set i ((((addTo (rounds c (shaW b) s 64) s i).at_ i) + (s.at_ i)) % 4294967296))) (t := 59) (x := .tmp 106) (y := .tmp 105) (by kernel_rfl) (by kernel_rfl) hB_bv (by kernel_rfl) (by kernel_rfl) (by kernel_rfl) (by rw [wc_len _]; show i + 1 ≤ 8; omega) (by rw [put_one (by rw [wc_len _]; omega)]; exact wc_set _ _ _ (by omega)) ?_
          intro w'' hc
          exact ⟨trivial, ⟨Nat.le_trans hsz hc.size, hc.ext hx hb_bv, hc.keep hB_0 (by first | assumption | exact Ne.symm (by assumption)), hc.keep hB_bs (by first | assumption | exact Ne.symm (by assumption)), hc.keep hB_bo (by first | assumption | exact Ne.symm (by assumption)), hc.at_⟩, trivial⟩
      · clear ha a; intro a w16 hJ ha
        clear hx hB_0 hB_bs hB_bo hB_bv
        obtain ⟨hsz, hx, hB_0, hB_bs, hB_bo, hB_bv⟩ := hJ
        clear hsz
        refine bn ?_
        refine tn ?_
        refine regp (ρ' := [(2, .pointer (some ⟨bs, 0, none⟩)), (4, .pointer (some ⟨bo, 0, none⟩)), (6, .pointer (some ⟨bv, 0, none⟩)), (96, .int .i64 ((i + 1 : Nat) : Int))]) (C := [InR .i64 ((i + 1 : Nat) : Int)]) ha [] (by kernel_rfl) (.cons (by unfold InR; omega) .nil) ?_
        clear ha a; intro a ha
        exact tn ⟨8 - ((i + 1)), by omega, (i + 1), rfl, ha.sub (ρ' := [(2, .pointer (some ⟨bs, 0, none⟩)), (4, .pointer (some ⟨bo, 0, none⟩)), (6, .pointer (some ⟨bv, 0, none⟩)), (96, .int .i64 (((i + 1) : Nat) : Int))]) (by kernel_rfl), hx, hB_0, hB_bs, hB_bo, hB_bv, by omega⟩
    · replace h97 := of_decide_eq_false h97
      obtain rfl : i = 8 := by omega
      refine wexit ?_
      refine (te (te (be ?_)))
      refine tn ?_
      refine wseq ?_
      refine reg_list ?_
      refine segp (ρ' := [(4, .pointer (some ⟨bo, 0, none⟩)), (108, .agg ⟨wc (addTo (rounds c (shaW b) s 64) s 8)⟩)]) (C := [RunOk Tryd.prog w15 (Instr.loadAt 81 (.pointer (some ⟨bv, 0, none⟩))) (.agg ⟨wc (addTo (rounds c (shaW b) s 64) s 8)⟩)]) ha 1 [(0, .val (.agg ⟨wc (addTo (rounds c (shaW b) s 64) s 8)⟩))] rfl (by kernel_rfl) (.cons (ldAll (n := 8) hB_bv (by kernel_rfl) (by kernel_rfl) (wc_len _)) .nil) ?_
      clear ha a; intro a ha
      refine lstoreL (off := 0) (vs := wc (addTo (rounds c (shaW b) s 64) s 8)) (cs' := wc (addTo (rounds c (shaW b) s 64) s 8)) ha rfl rfl (by kernel_rfl) rfl rfl hB_bo (by rw [wc_len _]; kernel_rfl) (by kernel_rfl) (wc_one _) (by first | (rw [wc_len _, wc_len _]; omega; done) | simp [wc_len]) (put_all (by first | (rw [wc_len _, wc_len _]; done) | simp [wc_len])) ?_
      clear ha a; intro w17 hc a ha
      replace hB_0 := hc.keep hB_0 (by first | assumption | exact Ne.symm (by assumption))
      replace hB_bs := hc.keep hB_bs (by first | assumption | exact Ne.symm (by assumption))
      replace hB_bv := hc.keep hB_bv (by first | assumption | exact Ne.symm (by assumption))
      replace hx := hc.ext hx hb_bo
      replace hB_bo := hc.at_; clear hc
      refine lnil ?_
      replace ha := ha.sub (ρ' := [(4, .pointer (some ⟨bo, 0, none⟩))]) (by kernel_rfl)
      refine tn ?_
      refine wret ?_
      refine fin ha (.cell rfl (ldVAll (n := 8) hB_bo (by kernel_rfl) (by kernel_rfl) (wc_len _)) .nil) ?_
      exact ⟨rfl, hx⟩
-- UNUSED LABEL wrap
theorem rk_ok (w : World) :
    Fn Tryd.prog 43 #[] w (fun x w' => x = .agg ⟨wc shaK⟩ ∧ Ext w w') := by
  have hx : Ext w w := Ext.rfl' w
  refine enter (N := 2) (args := []) Tryd.func43 rfl rfl rfl ?_
  intro a ha
  simp only [argEnv, Nat.zero_add, Nat.reduceAdd] at ha
  refine wseq ?_
  refine reg_list ?_
  refine lnew ha rfl (by kernel_rfl) ⟨wc (wz 64)⟩ 82 (by kernel_rfl) ?_
  clear ha a; intro bo w1 he hb_bo hB_bo a ha
  replace hb_bo := Nat.le_trans hx.size hb_bo
  replace hx := hx.tr he
  clear he
  refine lnil ?_
  replace ha := ha.sub (ρ' := [(0, .pointer (some ⟨bo, 0, none⟩))]) (by kernel_rfl)
  refine tn ?_
  refine wseq ?_
  refine reg_list ?_
  refine segp (ρ' := [(0, .pointer (some ⟨bo, 0, none⟩)), (1, .agg #[.int .u32 1116352408, .int .u32 1899447441, .int .u32 3049323471, .int .u32 3921009573, .int .u32 961987163, .int .u32 1508970993, .int .u32 2453635748, .int .u32 2870763221, .int .u32 3624381080, .int .u32 310598401, .int .u32 607225278, .int .u32 1426881987, .int .u32 1925078388, .int .u32 2162078206, .int .u32 2614888103, .int .u32 3248222580, .int .u32 3835390401, .int .u32 4022224774, .int .u32 264347078, .int .u32 604807628, .int .u32 770255983, .int .u32 1249150122, .int .u32 1555081692, .int .u32 1996064986, .int .u32 2554220882, .int .u32 2821834349, .int .u32 2952996808, .int .u32 3210313671, .int .u32 3336571891, .int .u32 3584528711, .int .u32 113926993, .int .u32 338241895, .int .u32 666307205, .int .u32 773529912, .int .u32 1294757372, .int .u32 1396182291, .int .u32 1695183700, .int .u32 1986661051, .int .u32 2177026350, .int .u32 2456956037, .int .u32 2730485921, .int .u32 2820302411, .int .u32 3259730800, .int .u32 3345764771, .int .u32 3516065817, .int .u32 3600352804, .int .u32 4094571909, .int .u32 275423344, .int .u32 430227734, .int .u32 506948616, .int .u32 659060556, .int .u32 883997877, .int .u32 958139571, .int .u32 1322822218, .int .u32 1537002063, .int .u32 1747873779, .int .u32 1955562222, .int .u32 2024104815, .int .u32 2227730452, .int .u32 2361852424, .int .u32 2428436474, .int .u32 2756734187, .int .u32 3204031479, .int .u32 3329325298])]) (C := []) ha 1 [] rfl (by kernel_rfl) .nil ?_
  clear ha a; intro a ha
  refine lstoreL (off := 0) (vs := [.int .u32 1116352408, .int .u32 1899447441, .int .u32 3049323471, .int .u32 3921009573, .int .u32 961987163, .int .u32 1508970993, .int .u32 2453635748, .int .u32 2870763221, .int .u32 3624381080, .int .u32 310598401, .int .u32 607225278, .int .u32 1426881987, .int .u32 1925078388, .int .u32 2162078206, .int .u32 2614888103, .int .u32 3248222580, .int .u32 3835390401, .int .u32 4022224774, .int .u32 264347078, .int .u32 604807628, .int .u32 770255983, .int .u32 1249150122, .int .u32 1555081692, .int .u32 1996064986, .int .u32 2554220882, .int .u32 2821834349, .int .u32 2952996808, .int .u32 3210313671, .int .u32 3336571891, .int .u32 3584528711, .int .u32 113926993, .int .u32 338241895, .int .u32 666307205, .int .u32 773529912, .int .u32 1294757372, .int .u32 1396182291, .int .u32 1695183700, .int .u32 1986661051, .int .u32 2177026350, .int .u32 2456956037, .int .u32 2730485921, .int .u32 2820302411, .int .u32 3259730800, .int .u32 3345764771, .int .u32 3516065817, .int .u32 3600352804, .int .u32 4094571909, .int .u32 275423344, .int .u32 430227734, .int .u32 506948616, .int .u32 659060556, .int .u32 883997877, .int .u32 958139571, .int .u32 1322822218, .int .u32 1537002063, .int .u32 1747873779, .int .u32 1955562222, .int .u32 2024104815, .int .u32 2227730452, .int .u32 2361852424, .int .u32 2428436474, .int .u32 2756734187, .int .u32 3204031479, .int .u32 3329325298]) (cs' := [.int .u32 1116352408, .int .u32 1899447441, .int .u32 3049323471, .int .u32 3921009573, .int .u32 961987163, .int .u32 1508970993, .int .u32 2453635748, .int .u32 2870763221, .int .u32 3624381080, .int .u32 310598401, .int .u32 607225278, .int .u32 1426881987, .int .u32 1925078388, .int .u32 2162078206, .int .u32 2614888103, .int .u32 3248222580, .int .u32 3835390401, .int .u32 4022224774, .int .u32 264347078, .int .u32 604807628, .int .u32 770255983, .int .u32 1249150122, .int .u32 1555081692, .int .u32 1996064986, .int .u32 2554220882, .int .u32 2821834349, .int .u32 2952996808, .int .u32 3210313671, .int .u32 3336571891, .int .u32 3584528711, .int .u32 113926993, .int .u32 338241895, .int .u32 666307205, .int .u32 773529912, .int .u32 1294757372, .int .u32 1396182291, .int .u32 1695183700, .int .u32 1986661051, .int .u32 2177026350, .int .u32 2456956037, .int .u32 2730485921, .int .u32 2820302411, .int .u32 3259730800, .int .u32 3345764771, .int .u32 3516065817, .int .u32 3600352804, .int .u32 4094571909, .int .u32 275423344, .int .u32 430227734, .int .u32 506948616, .int .u32 659060556, .int .u32 883997877, .int .u32 958139571, .int .u32 1322822218, .int .u32 1537002063, .int .u32 1747873779, .int .u32 1955562222, .int .u32 2024104815, .int .u32 2227730452, .int .u32 2361852424, .int .u32 2428436474, .int .u32 2756734187, .int .u32 3204031479, .int .u32 3329325298]) ha rfl rfl (by kernel_rfl) rfl rfl hB_bo (by kernel_rfl) (by kernel_rfl) (by kernel_rfl) (by rw [wc_len _]; simp) (put_all (by rw [wc_len _]; rfl)) ?_
  clear ha a; intro w2 hc a ha
  replace hx := hc.ext hx hb_bo
  replace hB_bo := hc.at_; clear hc
  refine lnil ?_
  replace ha := ha.sub (ρ' := [(0, .pointer (some ⟨bo, 0, none⟩))]) (by kernel_rfl)
  have hB_bo : _ = some (Obj.cells ⟨wc shaK⟩ 82 (0, 0)) := hB_bo
  refine tn ?_
  refine wret ?_
  refine fin ha (.cell rfl (ldVAll (n := 64) hB_bo (by kernel_rfl) (by kernel_rfl) (wc_len _)) .nil) ?_
  exact ⟨rfl, hx⟩
theorem rblock_ok (c : Wn 64) (s : Wn 8) (b : List UInt8) (w : World) (hb : b.length = 64) :
    Fn Tryd.prog 44 #[.agg ⟨wc s⟩, .string (S b), .agg ⟨wc c⟩] w (fun x w' => x = .agg ⟨wc (shaBlk c s b)⟩ ∧ Ext w w') := by
  have hx : Ext w w := Ext.rfl' w
  refine enter (N := 209) (args := [.agg ⟨wc s⟩, .string (S b), .agg ⟨wc c⟩]) Tryd.func44 rfl rfl rfl ?_
  intro a ha
  simp only [argEnv, Nat.zero_add, Nat.reduceAdd] at ha
  refine wseq ?_
  refine reg_list ?_
  refine lnew ha rfl (by kernel_rfl) ⟨wc s⟩ 81 (by kernel_rfl) ?_
  clear ha a; intro bs w1 he hb_bs hB_bs a ha
  replace hb_bs := Nat.le_trans hx.size hb_bs
  replace hx := hx.tr he
  clear he
  refine lnew ha rfl (by kernel_rfl) ⟨wc c⟩ 82 (by kernel_rfl) ?_
  clear ha a; intro bc w2 he hb_bc hB_bc a ha
  have hne_bs_bc : bs ≠ bc := ne_new hB_bs hb_bc
  replace hB_bs := keepB he hB_bs
  replace hb_bc := Nat.le_trans hx.size hb_bc
  replace hx := hx.tr he
  clear he
  refine lnew ha rfl (by kernel_rfl) ⟨wc (wz 8)⟩ 81 (by kernel_rfl) ?_
  clear ha a; intro bo w3 he hb_bo hB_bo a ha
  have hne_bs_bo : bs ≠ bo := ne_new hB_bs hb_bo
  have hne_bc_bo : bc ≠ bo := ne_new hB_bc hb_bo
  replace hB_bs := keepB he hB_bs
  replace hB_bc := keepB he hB_bc
  replace hb_bo := Nat.le_trans hx.size hb_bo
  replace hx := hx.tr he
  clear he
  refine lnil ?_
  replace ha := ha.sub (ρ' := [(1, .string (S b)), (3, .pointer (some ⟨bs, 0, none⟩)), (5, .pointer (some ⟨bc, 0, none⟩)), (6, .pointer (some ⟨bo, 0, none⟩))]) (by kernel_rfl)
  refine tn ?_
  refine wseq ?_
  refine reg_list ?_
  refine segp (ρ' := [(1, .string (S b)), (3, .pointer (some ⟨bs, 0, none⟩)), (5, .pointer (some ⟨bc, 0, none⟩)), (6, .pointer (some ⟨bo, 0, none⟩)), (17, .agg ⟨wc (wz 64)⟩)]) (C := []) ha 1 [] rfl (by kernel_rfl) .nil ?_
  clear ha a; intro a ha
  refine lnew ha rfl (by kernel_rfl) ⟨wc (wz 64)⟩ 82 (by kernel_rfl) ?_
  clear ha a; intro bw w4 he hb_bw hB_bw a ha
  have hne_bs_bw : bs ≠ bw := ne_new hB_bs hb_bw
  have hne_bc_bw : bc ≠ bw := ne_new hB_bc hb_bw
  have hne_bo_bw : bo ≠ bw := ne_new hB_bo hb_bw
  replace hB_bs := keepB he hB_bs
  replace hB_bc := keepB he hB_bc
  replace hB_bo := keepB he hB_bo
  replace hb_bw := Nat.le_trans hx.size hb_bw
  replace hx := hx.tr he
  clear he
  refine lstoreL (off := 0) (vs := wc (wz 64)) (cs' := wc (wz 64)) ha rfl rfl (by kernel_rfl) rfl rfl hB_bw (by rw [wc_len _]; kernel_rfl) (by kernel_rfl) (wc_one _) (by first | (rw [wc_len _, wc_len _]; omega; done) | simp [wc_len]) (put_all (by first | (rw [wc_len _, wc_len _]; done) | simp [wc_len])) ?_
  clear ha a; intro w5 hc a ha
  replace hB_bs := hc.keep hB_bs (by first | assumption | exact Ne.symm (by assumption))
  replace hB_bc := hc.keep hB_bc (by first | assumption | exact Ne.symm (by assumption))
  replace hB_bo := hc.keep hB_bo (by first | assumption | exact Ne.symm (by assumption))
  replace hx := hc.ext hx hb_bw
  replace hB_bw := hc.at_; clear hc
  refine lnil ?_
  replace ha := ha.sub (ρ' := [(1, .string (S b)), (3, .pointer (some ⟨bs, 0, none⟩)), (5, .pointer (some ⟨bc, 0, none⟩)), (6, .pointer (some ⟨bo, 0, none⟩)), (7, .pointer (some ⟨bw, 0, none⟩))]) (by kernel_rfl)
  refine tn ?_
  refine wseq ?_
  refine wseq ?_
  refine regp (ρ' := [(1, .string (S b)), (3, .pointer (some ⟨bs, 0, none⟩)), (5, .pointer (some ⟨bc, 0, none⟩)), (6, .pointer (some ⟨bo, 0, none⟩)), (7, .pointer (some ⟨bw, 0, none⟩)), (8, .int .i64 0)]) (C := []) ha [] (by kernel_rfl) .nil ?_
  clear ha a; intro a ha
  refine tn ?_
  refine wblk ?_
  refine wloop (fun zz a w6 => ∃ (i : Nat), zz = 16 - i ∧ On 209 [(1, .string (S b)), (3, .pointer (some ⟨bs, 0, none⟩)), (5, .pointer (some ⟨bc, 0, none⟩)), (6, .pointer (some ⟨bo, 0, none⟩)), (7, .pointer (some ⟨bw, 0, none⟩)), (8, .int .i64 ((i : Nat) : Int))] a ∧ Ext w w6 ∧ w6.heap[bs]? = some (.cells ⟨wc s⟩ 81 (0, 0)) ∧ w6.heap[bc]? = some (.cells ⟨wc c⟩ 82 (0, 0)) ∧ w6.heap[bo]? = some (.cells ⟨wc (wz 8)⟩ 81 (0, 0)) ∧ w6.heap[bw]? = some (.cells ⟨wc (words0 b i)⟩ 82 (0, 0)) ∧ (i ≤ 16)) _ ⟨0, rfl, ha.sub (ρ' := [(1, .string (S b)), (3, .pointer (some ⟨bs, 0, none⟩)), (5, .pointer (some ⟨bc, 0, none⟩)), (6, .pointer (some ⟨bo, 0, none⟩)), (7, .pointer (some ⟨bw, 0, none⟩)), (8, .int .i64 ((0 : Nat) : Int))]) (by kernel_rfl), hx, hB_bs, hB_bc, hB_bo, hB_bw, by omega⟩ ?_
  clear ha hx hB_bs hB_bc hB_bo hB_bw
  rintro zz a w7 ⟨i, hzz, ha, hx, hB_bs, hB_bc, hB_bo, hB_bw, hi⟩
  refine wseq ?_
  refine wseq ?_
  refine regp (ρ' := [(1, .string (S b)), (3, .pointer (some ⟨bs, 0, none⟩)), (5, .pointer (some ⟨bc, 0, none⟩)), (6, .pointer (some ⟨bo, 0, none⟩)), (7, .pointer (some ⟨bw, 0, none⟩)), (8, .int .i64 ((i : Nat) : Int)), (19, .bool (decide (((i : Nat) : Int) < 16)))]) (C := []) ha [] (by kernel_rfl) .nil ?_
  clear ha a; intro a ha
  refine tn ?_
  refine wif ha rfl (fun h19 => ?_) (fun h19 => ?_)
  · replace h19 := of_decide_eq_true h19
    have hb0 := bat_lt b (4 * i)
    have hb1 := bat_lt b (4 * i + 1)
    have hb2 := bat_lt b (4 * i + 2)
    have hb3 := bat_lt b (4 * i + 3)
    unfold bat at hb0 hb1 hb2 hb3
    refine wskip ?_
    refine tn ?_
    refine wseq ?_
    refine wblk ?_
    refine regM hmix ha [(6, .val (.int .u32 (((((b.getD (4 * i) 0).toNat) * 16777216) % 4294967296 : Nat) : Int))), (13, .val (.int .u32 (((((b.getD ((4 * i) + 1) 0).toNat) * 65536) % 4294967296 : Nat) : Int))), (14, .val (.int .u32 (((((((b.getD (4 * i) 0).toNat) * 16777216) % 4294967296) + ((((b.getD ((4 * i) + 1) 0).toNat) * 65536) % 4294967296)) % 4294967296 : Nat) : Int))), (21, .val (.int .u32 (((((b.getD ((4 * i) + 2) 0).toNat) * 256) % 4294967296 : Nat) : Int))), (22, .val (.int .u32 (((((((((b.getD (4 * i) 0).toNat) * 16777216) % 4294967296) + ((((b.getD ((4 * i) + 1) 0).toNat) * 65536) % 4294967296)) % 4294967296) + ((((b.getD ((4 * i) + 2) 0).toNat) * 256) % 4294967296)) % 4294967296 : Nat) : Int))), (29, .val (.int .u32 (((((((((((b.getD (4 * i) 0).toNat) * 16777216) % 4294967296) + ((((b.getD ((4 * i) + 1) 0).toNat) * 65536) % 4294967296)) % 4294967296) + ((((b.getD ((4 * i) + 2) 0).toNat) * 256) % 4294967296)) % 4294967296) + ((b.getD ((4 * i) + 3) 0).toNat)) % 4294967296 : Nat) : Int))), (30, .val (.pointer (some ⟨bw, i, none⟩)))] [] [⟨31, .des, [], []⟩] [] (ρ' := [(1, .string (S b)), (3, .pointer (some ⟨bs, 0, none⟩)), (5, .pointer (some ⟨bc, 0, none⟩)), (6, .pointer (some ⟨bo, 0, none⟩)), (7, .pointer (some ⟨bw, 0, none⟩)), (8, .int .i64 ((i : Nat) : Int))]) [] [fun w' => Ext w7 w', fun w' => w7.heap.size ≤ w'.heap.size ∧ Ext w w' ∧ w'.heap[bs]? = some (.cells ⟨wc s⟩ 81 (0, 0)) ∧ w'.heap[bc]? = some (.cells ⟨wc c⟩ 82 (0, 0)) ∧ w'.heap[bo]? = some (.cells ⟨wc (wz 8)⟩ 81 (0, 0)) ∧ w'.heap[bw]? = some (.cells ⟨wc ((words0 b i).set i ((((((((((b.getD (4 * i) 0).toNat) * 16777216) % 4294967296) + ((((b.getD ((4 * i) + 1) 0).toNat) * 65536) % 4294967296)) % 4294967296) + ((((b.getD ((4 * i) + 2) 0).toNat) * 256) % 4294967296)) % 4294967296) + ((b.getD ((4 * i) + 3) 0).toNat)) % 4294967296))⟩ 82 (0, 0))] [(3, [0], fun w' => [InR .i64 ((4 * i : Nat) : Int)]), (4, [0], fun w' => [0 ≤ ((4 * i : Nat) : Int) ∧ ((4 * i : Nat) : Int) < (b.length : Int)]), (5, [0], fun w' => [InR .u32 (((b.getD (4 * i) 0).toNat : Nat) : Int)]), (6, [0], fun w' => [BinOk Tryd.prog .mul 59 (.int .u32 (((b.getD (4 * i) 0).toNat : Nat) : Int)) (.int .u32 16777216) (.int .u32 (((((b.getD (4 * i) 0).toNat) * 16777216) % 4294967296 : Nat) : Int))]), (9, [0], fun w' => [InR .i64 ((4 * i : Nat) : Int)]), (10, [0], fun w' => [InR .i64 (((4 * i) + 1 : Nat) : Int)]), (11, [0], fun w' => [0 ≤ (((4 * i) + 1 : Nat) : Int) ∧ (((4 * i) + 1 : Nat) : Int) < (b.length : Int)]), (12, [0], fun w' => [InR .u32 (((b.getD ((4 * i) + 1) 0).toNat : Nat) : Int)]), (13, [0], fun w' => [BinOk Tryd.prog .mul 59 (.int .u32 (((b.getD ((4 * i) + 1) 0).toNat : Nat) : Int)) (.int .u32 65536) (.int .u32 (((((b.getD ((4 * i) + 1) 0).toNat) * 65536) % 4294967296 : Nat) : Int))]), (14, [0], fun w' => [BinOk Tryd.prog .add 59 (.int .u32 (((((b.getD (4 * i) 0).toNat) * 16777216) % 4294967296 : Nat) : Int)) (.int .u32 (((((b.getD ((4 * i) + 1) 0).toNat) * 65536) % 4294967296 : Nat) : Int)) (.int .u32 (((((((b.getD (4 * i) 0).toNat) * 16777216) % 4294967296) + ((((b.getD ((4 * i) + 1) 0).toNat) * 65536) % 4294967296)) % 4294967296 : Nat) : Int))]), (17, [0], fun w' => [InR .i64 ((4 * i : Nat) : Int)]), (18, [0], fun w' => [InR .i64 (((4 * i) + 2 : Nat) : Int)]), (19, [0], fun w' => [0 ≤ (((4 * i) + 2 : Nat) : Int) ∧ (((4 * i) + 2 : Nat) : Int) < (b.length : Int)]), (20, [0], fun w' => [InR .u32 (((b.getD ((4 * i) + 2) 0).toNat : Nat) : Int)]), (21, [0], fun w' => [BinOk Tryd.prog .mul 59 (.int .u32 (((b.getD ((4 * i) + 2) 0).toNat : Nat) : Int)) (.int .u32 256) (.int .u32 (((((b.getD ((4 * i) + 2) 0).toNat) * 256) % 4294967296 : Nat) : Int))]), (22, [0], fun w' => [BinOk Tryd.prog .add 59 (.int .u32 (((((((b.getD (4 * i) 0).toNat) * 16777216) % 4294967296) + ((((b.getD ((4 * i) + 1) 0).toNat) * 65536) % 4294967296)) % 4294967296 : Nat) : Int)) (.int .u32 (((((b.getD ((4 * i) + 2) 0).toNat) * 256) % 4294967296 : Nat) : Int)) (.int .u32 (((((((((b.getD (4 * i) 0).toNat) * 16777216) % 4294967296) + ((((b.getD ((4 * i) + 1) 0).toNat) * 65536) % 4294967296)) % 4294967296) + ((((b.getD ((4 * i) + 2) 0).toNat) * 256) % 4294967296)) % 4294967296 : Nat) : Int))]), (25, [0], fun w' => [InR .i64 ((4 * i : Nat) : Int)]), (26, [0], fun w' => [InR .i64 (((4 * i) + 3 : Nat) : Int)]), (27, [0], fun w' => [0 ≤ (((4 * i) + 3 : Nat) : Int) ∧ (((4 * i) + 3 : Nat) : Int) < (b.length : Int)]), (28, [0], fun w' => [InR .u32 (((b.getD ((4 * i) + 3) 0).toNat : Nat) : Int)]), (29, [0], fun w' => [BinOk Tryd.prog .add 59 (.int .u32 (((((((((b.getD (4 * i) 0).toNat) * 16777216) % 4294967296) + ((((b.getD ((4 * i) + 1) 0).toNat) * 65536) % 4294967296)) % 4294967296) + ((((b.getD ((4 * i) + 2) 0).toNat) * 256) % 4294967296)) % 4294967296 : Nat) : Int)) (.int .u32 (((b.getD ((4 * i) + 3) 0).toNat : Nat) : Int)) (.int .u32 (((((((((((b.getD (4 * i) 0).toNat) * 16777216) % 4294967296) + ((((b.getD ((4 * i) + 1) 0).toNat) * 65536) % 4294967296)) % 4294967296) + ((((b.getD ((4 * i) + 2) 0).toNat) * 256) % 4294967296)) % 4294967296) + ((b.getD ((4 * i) + 3) 0).toNat)) % 4294967296 : Nat) : Int))]), (30, [0], fun w' => [RunOk Tryd.prog w' (Instr.indexAt 82 (.pointer (some ⟨bw, 0, none⟩)) (.int .i64 ((i : Nat) : Int))) (.pointer (some ⟨bw, i, none⟩))])] (by kernel_rfl) (fun w' => by kernel_rfl) (fun w' => by kernel_rfl) (by kernel_rfl) (fun w' h => h) ?_ ?_ ?_ ?_ ?_ ?_
    · refine ⟨fun w1 w2 h e => Ext.tr h e, ?_, trivial⟩
      · rintro w1 w2 ⟨hsz, hx, hB_bs, hB_bc, hB_bo, hB_bw⟩ he
        exact ⟨Nat.le_trans hsz he.size, hx.tr he, keepB he hB_bs, keepB he hB_bc, keepB he hB_bo, keepB he hB_bw⟩
    · trivial
    · refine ⟨⟨?_, trivial⟩, ⟨?_, trivial⟩, ⟨?_, trivial⟩, ⟨?_, trivial⟩, ⟨?_, trivial⟩, ⟨?_, trivial⟩, ⟨?_, trivial⟩, ⟨?_, trivial⟩, ⟨?_, trivial⟩, ⟨?_, trivial⟩, ⟨?_, trivial⟩, ⟨?_, trivial⟩, ⟨?_, trivial⟩, ⟨?_, trivial⟩, ⟨?_, trivial⟩, ⟨?_, trivial⟩, ⟨?_, trivial⟩, ⟨?_, trivial⟩, ⟨?_, trivial⟩, ⟨?_, trivial⟩, ⟨?_, trivial⟩, ⟨?_, trivial⟩, trivial⟩
      · intro w' hJ
        have he : Ext w7 w' := hJ
        have hsz := he.size
        replace hx := hx.tr he
        replace hB_bs := keepB he hB_bs
        replace hB_bc := keepB he hB_bc
        replace hB_bo := keepB he hB_bo
        replace hB_bw := keepB he hB_bw
        clear he
        exact (.cons (by unfold InR; omega) .nil)
      · intro w' hJ
        have he : Ext w7 w' := hJ
        have hsz := he.size
        replace hx := hx.tr he
        replace hB_bs := keepB he hB_bs
        replace hB_bc := keepB he hB_bc
        replace hB_bo := keepB he hB_bo
        replace hB_bw := keepB he hB_bw
        clear he
        exact (.cons ⟨by omega, by omega⟩ .nil)
      · intro w' hJ
        have he : Ext w7 w' := hJ
        have hsz := he.size
        replace hx := hx.tr he
        replace hB_bs := keepB he hB_bs
        replace hB_bc := keepB he hB_bc
        replace hB_bo := keepB he hB_bo
        replace hB_bw := keepB he hB_bw
        clear he
        exact (.cons (by unfold InR; omega) .nil)
      · intro w' hJ
        have he : Ext w7 w' := hJ
        have hsz := he.size
        replace hx := hx.tr he
        replace hB_bs := keepB he hB_bs
        replace hB_bc := keepB he hB_bc
        replace hB_bo := keepB he hB_bo
        replace hB_bw := keepB he hB_bw
        clear he
        exact (.cons (mulW_u32 (a := ((b.getD (4 * i) 0).toNat)) (n := 16777216)) .nil)
      · intro w' hJ
        have he : Ext w7 w' := hJ
        have hsz := he.size
        replace hx := hx.tr he
        replace hB_bs := keepB he hB_bs
        replace hB_bc := keepB he hB_bc
        replace hB_bo := keepB he hB_bo
        replace hB_bw := keepB he hB_bw
        clear he
        exact (.cons (by unfold InR; omega) .nil)
      · intro w' hJ
        have he : Ext w7 w' := hJ
        have hsz := he.size
        replace hx := hx.tr he
        replace hB_bs := keepB he hB_bs
        replace hB_bc := keepB he hB_bc
        replace hB_bo := keepB he hB_bo
        replace hB_bw := keepB he hB_bw
        clear he
        exact (.cons (by unfold InR; omega) .nil)
      · intro w' hJ
        have he : Ext w7 w' := hJ
        have hsz := he.size
        replace hx := hx.tr he
        replace hB_bs := keepB he hB_bs
        replace hB_bc := keepB he hB_bc
        replace hB_bo := keepB he hB_bo
        replace hB_bw := keepB he hB_bw
        clear he
        exact (.cons ⟨by omega, by omega⟩ .nil)
      · intro w' hJ
        have he : Ext w7 w' := hJ
        have hsz := he.size
        replace hx := hx.tr he
        replace hB_bs := keepB he hB_bs
        replace hB_bc := keepB he hB_bc
        replace hB_bo := keepB he hB_bo
        replace hB_bw := keepB he hB_bw
        clear he
        exact (.cons (by unfold InR; omega) .nil)
      · intro w' hJ
        have he : Ext w7 w' := hJ
        have hsz := he.size
        replace hx := hx.tr he
        replace hB_bs := keepB he hB_bs
        replace hB_bc := keepB he hB_bc
        replace hB_bo := keepB he hB_bo
        replace hB_bw := keepB he hB_bw
        clear he
        exact (.cons (mulW_u32 (a := ((b.getD ((4 * i) + 1) 0).toNat)) (n := 65536)) .nil)
      · intro w' hJ
        have he : Ext w7 w' := hJ
        have hsz := he.size
        replace hx := hx.tr he
        replace hB_bs := keepB he hB_bs
        replace hB_bc := keepB he hB_bc
        replace hB_bo := keepB he hB_bo
        replace hB_bw := keepB he hB_bw
        clear he
        exact (.cons (addW_u32 (a := ((((b.getD (4 * i) 0).toNat) * 16777216) % 4294967296)) (n := ((((b.getD ((4 * i) + 1) 0).toNat) * 65536) % 4294967296))) .nil)
      · intro w' hJ
        have he : Ext w7 w' := hJ
        have hsz := he.size
        replace hx := hx.tr he
        replace hB_bs := keepB he hB_bs
        replace hB_bc := keepB he hB_bc
        replace hB_bo := keepB he hB_bo
        replace hB_bw := keepB he hB_bw
        clear he
        exact (.cons (by unfold InR; omega) .nil)
      · intro w' hJ
        have he : Ext w7 w' := hJ
        have hsz := he.size
        replace hx := hx.tr he
        replace hB_bs := keepB he hB_bs
        replace hB_bc := keepB he hB_bc
        replace hB_bo := keepB he hB_bo
        replace hB_bw := keepB he hB_bw
        clear he
        exact (.cons (by unfold InR; omega) .nil)
      · intro w' hJ
        have he : Ext w7 w' := hJ
        have hsz := he.size
        replace hx := hx.tr he
        replace hB_bs := keepB he hB_bs
        replace hB_bc := keepB he hB_bc
        replace hB_bo := keepB he hB_bo
        replace hB_bw := keepB he hB_bw
        clear he
        exact (.cons ⟨by omega, by omega⟩ .nil)
      · intro w' hJ
        have he : Ext w7 w' := hJ
        have hsz := he.size
        replace hx := hx.tr he
        replace hB_bs := keepB he hB_bs
        replace hB_bc := keepB he hB_bc
        replace hB_bo := keepB he hB_bo
        replace hB_bw := keepB he hB_bw
        clear he
        exact (.cons (by unfold InR; omega) .nil)
      · intro w' hJ
        have he : Ext w7 w' := hJ
        have hsz := he.size
        replace hx := hx.tr he
        replace hB_bs := keepB he hB_bs
        replace hB_bc := keepB he hB_bc
        replace hB_bo := keepB he hB_bo
        replace hB_bw := keepB he hB_bw
        clear he
        exact (.cons (mulW_u32 (a := ((b.getD ((4 * i) + 2) 0).toNat)) (n := 256)) .nil)
      · intro w' hJ
        have he : Ext w7 w' := hJ
        have hsz := he.size
        replace hx := hx.tr he
        replace hB_bs := keepB he hB_bs
        replace hB_bc := keepB he hB_bc
        replace hB_bo := keepB he hB_bo
        replace hB_bw := keepB he hB_bw
        clear he
        exact (.cons (addW_u32 (a := ((((((b.getD (4 * i) 0).toNat) * 16777216) % 4294967296) + ((((b.getD ((4 * i) + 1) 0).toNat) * 65536) % 4294967296)) % 4294967296)) (n := ((((b.getD ((4 * i) + 2) 0).toNat) * 256) % 4294967296))) .nil)
      · intro w' hJ
        have he : Ext w7 w' := hJ
        have hsz := he.size
        replace hx := hx.tr he
        replace hB_bs := keepB he hB_bs
        replace hB_bc := keepB he hB_bc
        replace hB_bo := keepB he hB_bo
        replace hB_bw := keepB he hB_bw
        clear he
        exact (.cons (by unfold InR; omega) .nil)
      · intro w' hJ
        have he : Ext w7 w' := hJ
        have hsz := he.size
        replace hx := hx.tr he
        replace hB_bs := keepB he hB_bs
        replace hB_bc := keepB he hB_bc
        replace hB_bo := keepB he hB_bo
        replace hB_bw := keepB he hB_bw
        clear he
        exact (.cons (by unfold InR; omega) .nil)
      · intro w' hJ
        have he : Ext w7 w' := hJ
        have hsz := he.size
        replace hx := hx.tr he
        replace hB_bs := keepB he hB_bs
        replace hB_bc := keepB he hB_bc
        replace hB_bo := keepB he hB_bo
        replace hB_bw := keepB he hB_bw
        clear he
        exact (.cons ⟨by omega, by omega⟩ .nil)
      · intro w' hJ
        have he : Ext w7 w' := hJ
        have hsz := he.size
        replace hx := hx.tr he
        replace hB_bs := keepB he hB_bs
        replace hB_bc := keepB he hB_bc
        replace hB_bo := keepB he hB_bo
        replace hB_bw := keepB he hB_bw
        clear he
        exact (.cons (by unfold InR; omega) .nil)
      · intro w' hJ
        have he : Ext w7 w' := hJ
        have hsz := he.size
        replace hx := hx.tr he
        replace hB_bs := keepB he hB_bs
        replace hB_bc := keepB he hB_bc
        replace hB_bo := keepB he hB_bo
        replace hB_bw := keepB he hB_bw
        clear he
        exact (.cons (addW_u32 (a := ((((((((b.getD (4 * i) 0).toNat) * 16777216) % 4294967296) + ((((b.getD ((4 * i) + 1) 0).toNat) * 65536) % 4294967296)) % 4294967296) + ((((b.getD ((4 * i) + 2) 0).toNat) * 256) % 4294967296)) % 4294967296)) (n := ((b.getD ((4 * i) + 3) 0).toNat))) .nil)
      · intro w' hJ
        have he : Ext w7 w' := hJ
        have hsz := he.size
        replace hx := hx.tr he
        replace hB_bs := keepB he hB_bs
        replace hB_bc := keepB he hB_bc
        replace hB_bo := keepB he hB_bo
        replace hB_bw := keepB he hB_bw
        clear he
        exact (.cons (ixA (n := 64) (i := i) (by kernel_rfl) (by omega)) .nil)
    · trivial
    · refine ⟨?_, trivial⟩
      · intro w' hJ
        have hB_bsS := hB_bs
        have hB_bcS := hB_bc
        have hB_boS := hB_bo
        have hB_bwS := hB_bw
        have he : Ext w7 w' := hJ
        have hsz := he.size
        replace hx := hx.tr he
        replace hB_bs := keepB he hB_bs
        replace hB_bc := keepB he hB_bc
        replace hB_bo := keepB he hB_bo
        replace hB_bw := keepB he hB_bw
        clear he
        refine ostoreL (off := i) (vs := [.int .u32 (((((((((((b.getD (4 * i) 0).toNat) * 16777216) % 4294967296) + ((((b.getD ((4 * i) + 1) 0).toNat) * 65536) % 4294967296)) % 4294967296) + ((((b.getD ((4 * i) + 2) 0).toNat) * 256) % 4294967296)) % 4294967296) + ((b.getD ((4 * i) + 3) 0).toNat)) % 4294967296 : Nat) : Int)]) (cs' := wc ((words0 b i).set i ((((((((((b.getD (4 * i) 0).toNat) * 16777216) % 4294967296) + ((((b.getD ((4 * i) + 1) 0).toNat) * 65536) % 4294967296)) % 4294967296) + ((((b.getD ((4 * i) + 2) 0).toNat) * 256) % 4294967296)) % 4294967296) + ((b.getD ((4 * i) + 3) 0).toNat)) % 4294967296))) (t := 59) (x := .tmp 52) (y := .tmp 51) (by kernel_rfl) (by kernel_rfl) hB_bw (by kernel_rfl) (by kernel_rfl) (by kernel_rfl) (by rw [wc_len _]; show i + 1 ≤ 64; omega) (by rw [put_one (by rw [wc_len _]; omega)]; exact wc_set _ _ _ (by omega)) ?_
        intro w'' hc
        exact ⟨trivial, ⟨Nat.le_trans hsz hc.size, hc.ext hx hb_bw, hc.keep hB_bs (by first | assumption | exact Ne.symm (by assumption)), hc.keep hB_bc (by first | assumption | exact Ne.symm (by assumption)), hc.keep hB_bo (by first | assumption | exact Ne.symm (by assumption)), hc.at_⟩, trivial⟩
    · clear ha a; intro a w8 hJ ha
      clear hx hB_bs hB_bc hB_bo hB_bw
      obtain ⟨hsz, hx, hB_bs, hB_bc, hB_bo, hB_bw⟩ := hJ
      clear hsz
      rw [words0_step] at hB_bw
      refine bn ?_
      refine tn ?_
      refine regp (ρ' := [(1, .string (S b)), (3, .pointer (some ⟨bs, 0, none⟩)), (5, .pointer (some ⟨bc, 0, none⟩)), (6, .pointer (some ⟨bo, 0, none⟩)), (7, .pointer (some ⟨bw, 0, none⟩)), (8, .int .i64 ((i + 1 : Nat) : Int))]) (C := [InR .i64 ((i + 1 : Nat) : Int)]) ha [] (by kernel_rfl) (.cons (by unfold InR; omega) .nil) ?_
      clear ha a; intro a ha
      exact tn ⟨16 - ((i + 1)), by omega, (i + 1), rfl, ha.sub (ρ' := [(1, .string (S b)), (3, .pointer (some ⟨bs, 0, none⟩)), (5, .pointer (some ⟨bc, 0, none⟩)), (6, .pointer (some ⟨bo, 0, none⟩)), (7, .pointer (some ⟨bw, 0, none⟩)), (8, .int .i64 (((i + 1) : Nat) : Int))]) (by kernel_rfl), hx, hB_bs, hB_bc, hB_bo, hB_bw, by omega⟩
  · replace h19 := of_decide_eq_false h19
    obtain rfl : i = 16 := by omega
    have hB_bw : _ = some (Obj.cells ⟨wc (extTo (words0 b 16) 0)⟩ 82 (0, 0)) := hB_bw
    refine wexit ?_
    refine (te (te (be ?_)))
    refine tn ?_
    refine wseq ?_
    refine wseq ?_
    refine regp (ρ' := [(3, .pointer (some ⟨bs, 0, none⟩)), (5, .pointer (some ⟨bc, 0, none⟩)), (6, .pointer (some ⟨bo, 0, none⟩)), (7, .pointer (some ⟨bw, 0, none⟩)), (9, .int .i64 16)]) (C := []) ha [] (by kernel_rfl) .nil ?_
    clear ha a; intro a ha
    refine tn ?_
    refine wblk ?_
    refine wloop (fun zz a w9 => ∃ (k : Nat), zz = 48 - k ∧ On 209 [(3, .pointer (some ⟨bs, 0, none⟩)), (5, .pointer (some ⟨bc, 0, none⟩)), (6, .pointer (some ⟨bo, 0, none⟩)), (7, .pointer (some ⟨bw, 0, none⟩)), (9, .int .i64 ((16 + k : Nat) : Int))] a ∧ Ext w w9 ∧ w9.heap[bs]? = some (.cells ⟨wc s⟩ 81 (0, 0)) ∧ w9.heap[bc]? = some (.cells ⟨wc c⟩ 82 (0, 0)) ∧ w9.heap[bo]? = some (.cells ⟨wc (wz 8)⟩ 81 (0, 0)) ∧ w9.heap[bw]? = some (.cells ⟨wc (extTo (words0 b 16) k)⟩ 82 (0, 0)) ∧ (k ≤ 48)) _ ⟨0, rfl, ha.sub (ρ' := [(3, .pointer (some ⟨bs, 0, none⟩)), (5, .pointer (some ⟨bc, 0, none⟩)), (6, .pointer (some ⟨bo, 0, none⟩)), (7, .pointer (some ⟨bw, 0, none⟩)), (9, .int .i64 ((16 + 0 : Nat) : Int))]) (by kernel_rfl), hx, hB_bs, hB_bc, hB_bo, hB_bw, by omega⟩ ?_
    clear ha hx hB_bs hB_bc hB_bo hB_bw
    rintro zz a w10 ⟨k, hzz, ha, hx, hB_bs, hB_bc, hB_bo, hB_bw, hk⟩
    refine wseq ?_
    refine wseq ?_
    refine regp (ρ' := [(3, .pointer (some ⟨bs, 0, none⟩)), (5, .pointer (some ⟨bc, 0, none⟩)), (6, .pointer (some ⟨bo, 0, none⟩)), (7, .pointer (some ⟨bw, 0, none⟩)), (9, .int .i64 ((16 + k : Nat) : Int)), (54, .bool (decide (((16 + k : Nat) : Int) < 64)))]) (C := []) ha [] (by kernel_rfl) .nil ?_
    clear ha a; intro a ha
    refine tn ?_
    refine wif ha rfl (fun h54 => ?_) (fun h54 => ?_)
    · replace h54 := of_decide_eq_true h54
      refine wskip ?_
      refine tn ?_
      refine wseq ?_
      refine wblk ?_
      refine wseq ?_
      refine reg hmix (ρ' := [(3, .pointer (some ⟨bs, 0, none⟩)), (5, .pointer (some ⟨bc, 0, none⟩)), (6, .pointer (some ⟨bo, 0, none⟩)), (7, .pointer (some ⟨bw, 0, none⟩)), (9, .int .i64 ((16 + k : Nat) : Int)), (10, .int .u32 ((((rotr ((extTo (words0 b 16) k).at_ ((16 + k) - 15)) 7) ^^^ (rotr ((extTo (words0 b 16) k).at_ ((16 + k) - 15)) 18)) ^^^ (((extTo (words0 b 16) k).at_ ((16 + k) - 15)) / 8) : Nat) : Int))]) (C := [BinOk Tryd.prog .sub 3 (.int .i64 ((16 + k : Nat) : Int)) (.int .i64 15) (.int .i64 (((16 + k) - 15 : Nat) : Int)), RunOk Tryd.prog w10 (Instr.indexAt 82 (.pointer (some ⟨bw, 0, none⟩)) (.int .i64 (((16 + k) - 15 : Nat) : Int))) (.pointer (some ⟨bw, ((16 + k) - 15), none⟩)), RunOk Tryd.prog w10 (Instr.loadAt 59 (.pointer (some ⟨bw, ((16 + k) - 15), none⟩))) (.int .u32 (((extTo (words0 b 16) k).at_ ((16 + k) - 15) : Nat) : Int)), CallOk Tryd.prog w10 64 #[.int .u32 (((extTo (words0 b 16) k).at_ ((16 + k) - 15) : Nat) : Int), .int .u64 7] (.int .u32 ((rotr ((extTo (words0 b 16) k).at_ ((16 + k) - 15)) 7 : Nat) : Int)), BinOk Tryd.prog .sub 3 (.int .i64 ((16 + k : Nat) : Int)) (.int .i64 15) (.int .i64 (((16 + k) - 15 : Nat) : Int)), RunOk Tryd.prog w10 (Instr.indexAt 82 (.pointer (some ⟨bw, 0, none⟩)) (.int .i64 (((16 + k) - 15 : Nat) : Int))) (.pointer (some ⟨bw, ((16 + k) - 15), none⟩)), RunOk Tryd.prog w10 (Instr.loadAt 59 (.pointer (some ⟨bw, ((16 + k) - 15), none⟩))) (.int .u32 (((extTo (words0 b 16) k).at_ ((16 + k) - 15) : Nat) : Int)), CallOk Tryd.prog w10 64 #[.int .u32 (((extTo (words0 b 16) k).at_ ((16 + k) - 15) : Nat) : Int), .int .u64 18] (.int .u32 ((rotr ((extTo (words0 b 16) k).at_ ((16 + k) - 15)) 18 : Nat) : Int)), BinOk Tryd.prog .xor 59 (.int .u32 ((rotr ((extTo (words0 b 16) k).at_ ((16 + k) - 15)) 7 : Nat) : Int)) (.int .u32 ((rotr ((extTo (words0 b 16) k).at_ ((16 + k) - 15)) 18 : Nat) : Int)) (.int .u32 (((rotr ((extTo (words0 b 16) k).at_ ((16 + k) - 15)) 7) ^^^ (rotr ((extTo (words0 b 16) k).at_ ((16 + k) - 15)) 18) : Nat) : Int)), BinOk Tryd.prog .sub 3 (.int .i64 ((16 + k : Nat) : Int)) (.int .i64 15) (.int .i64 (((16 + k) - 15 : Nat) : Int)), RunOk Tryd.prog w10 (Instr.indexAt 82 (.pointer (some ⟨bw, 0, none⟩)) (.int .i64 (((16 + k) - 15 : Nat) : Int))) (.pointer (some ⟨bw, ((16 + k) - 15), none⟩)), RunOk Tryd.prog w10 (Instr.loadAt 59 (.pointer (some ⟨bw, ((16 + k) - 15), none⟩))) (.int .u32 (((extTo (words0 b 16) k).at_ ((16 + k) - 15) : Nat) : Int)), BinOk Tryd.prog .shr 59 (.int .u32 (((extTo (words0 b 16) k).at_ ((16 + k) - 15) : Nat) : Int)) (.int .u64 3) (.int .u32 ((((extTo (words0 b 16) k).at_ ((16 + k) - 15)) / 8 : Nat) : Int)), BinOk Tryd.prog .xor 59 (.int .u32 (((rotr ((extTo (words0 b 16) k).at_ ((16 + k) - 15)) 7) ^^^ (rotr ((extTo (words0 b 16) k).at_ ((16 + k) - 15)) 18) : Nat) : Int)) (.int .u32 ((((extTo (words0 b 16) k).at_ ((16 + k) - 15)) / 8 : Nat) : Int)) (.int .u32 ((((rotr ((extTo (words0 b 16) k).at_ ((16 + k) - 15)) 7) ^^^ (rotr ((extTo (words0 b 16) k).at_ ((16 + k) - 15)) 18)) ^^^ (((extTo (words0 b 16) k).at_ ((16 + k) - 15)) / 8) : Nat) : Int))]) ha [(1, .val (.int .i64 (((16 + k) - 15 : Nat) : Int))), (2, .val (.pointer (some ⟨bw, ((16 + k) - 15), none⟩))), (3, .val (.int .u32 (((extTo (words0 b 16) k).at_ ((16 + k) - 15) : Nat) : Int))), (4, .val (.int .u32 ((rotr ((extTo (words0 b 16) k).at_ ((16 + k) - 15)) 7 : Nat) : Int))), (6, .val (.int .i64 (((16 + k) - 15 : Nat) : Int))), (7, .val (.pointer (some ⟨bw, ((16 + k) - 15), none⟩))), (8, .val (.int .u32 (((extTo (words0 b 16) k).at_ ((16 + k) - 15) : Nat) : Int))), (9, .val (.int .u32 ((rotr ((extTo (words0 b 16) k).at_ ((16 + k) - 15)) 18 : Nat) : Int))), (10, .val (.int .u32 (((rotr ((extTo (words0 b 16) k).at_ ((16 + k) - 15)) 7) ^^^ (rotr ((extTo (words0 b 16) k).at_ ((16 + k) - 15)) 18) : Nat) : Int))), (12, .val (.int .i64 (((16 + k) - 15 : Nat) : Int))), (13, .val (.pointer (some ⟨bw, ((16 + k) - 15), none⟩))), (14, .val (.int .u32 (((extTo (words0 b 16) k).at_ ((16 + k) - 15) : Nat) : Int))), (15, .val (.int .u32 ((((extTo (words0 b 16) k).at_ ((16 + k) - 15)) / 8 : Nat) : Int))), (16, .val (.int .u32 ((((rotr ((extTo (words0 b 16) k).at_ ((16 + k) - 15)) 7) ^^^ (rotr ((extTo (words0 b 16) k).at_ ((16 + k) - 15)) 18)) ^^^ (((extTo (words0 b 16) k).at_ ((16 + k) - 15)) / 8) : Nat) : Int)))] (by kernel_rfl) (.cons (subN (a := (16 + k)) (n := 15) (by omega) (by unfold InR; omega)) (.cons (ixA (n := 64) (i := ((16 + k) - 15)) (by kernel_rfl) (by omega)) (.cons (ld1 hB_bw (by kernel_rfl) (wc_at (i := ((16 + k) - 15)) (by omega))) (.cons (fun w _ => turn_ok _ 7 w (by first | ((repeat' (first | exact Wn.at_lt _ _ | exact rotr_lt _ _ | apply xor32 | apply and32 | exact mod32 _ | apply div32 | assumption | omega)); done) | omega) (by omega)) (.cons (subN (a := (16 + k)) (n := 15) (by omega) (by unfold InR; omega)) (.cons (ixA (n := 64) (i := ((16 + k) - 15)) (by kernel_rfl) (by omega)) (.cons (ld1 hB_bw (by kernel_rfl) (wc_at (i := ((16 + k) - 15)) (by omega))) (.cons (fun w _ => turn_ok _ 18 w (by first | ((repeat' (first | exact Wn.at_lt _ _ | exact rotr_lt _ _ | apply xor32 | apply and32 | exact mod32 _ | apply div32 | assumption | omega)); done) | omega) (by omega)) (.cons (xorW_u32 (a := (rotr ((extTo (words0 b 16) k).at_ ((16 + k) - 15)) 7)) (n := (rotr ((extTo (words0 b 16) k).at_ ((16 + k) - 15)) 18)) (by first | ((repeat' (first | exact Wn.at_lt _ _ | exact rotr_lt _ _ | apply xor32 | apply and32 | exact mod32 _ | apply div32 | assumption | omega)); done) | omega) (by first | ((repeat' (first | exact Wn.at_lt _ _ | exact rotr_lt _ _ | apply xor32 | apply and32 | exact mod32 _ | apply div32 | assumption | omega)); done) | omega)) (.cons (subN (a := (16 + k)) (n := 15) (by omega) (by unfold InR; omega)) (.cons (ixA (n := 64) (i := ((16 + k) - 15)) (by kernel_rfl) (by omega)) (.cons (ld1 hB_bw (by kernel_rfl) (wc_at (i := ((16 + k) - 15)) (by omega))) (.cons (shrC (a := ((extTo (words0 b 16) k).at_ ((16 + k) - 15))) (n := 3) (p := 8) (by show _ ≤ 32; omega) (by decide)) (.cons (xorW_u32 (a := ((rotr ((extTo (words0 b 16) k).at_ ((16 + k) - 15)) 7) ^^^ (rotr ((extTo (words0 b 16) k).at_ ((16 + k) - 15)) 18))) (n := (((extTo (words0 b 16) k).at_ ((16 + k) - 15)) / 8)) (by first | ((repeat' (first | exact Wn.at_lt _ _ | exact rotr_lt _ _ | apply xor32 | apply and32 | exact mod32 _ | apply div32 | assumption | omega)); done) | omega) (by first | ((repeat' (first | exact Wn.at_lt _ _ | exact rotr_lt _ _ | apply xor32 | apply and32 | exact mod32 _ | apply div32 | assumption | omega)); done) | omega)) .nil)))))))))))))) ?_
      clear ha a; intro a w11 ha he
      replace hx := hx.tr he
      replace hB_bs := keepB he hB_bs
      replace hB_bc := keepB he hB_bc
      replace hB_bo := keepB he hB_bo
      replace hB_bw := keepB he hB_bw
      clear he
      refine tn ?_
      refine wseq ?_
      refine reg hmix (ρ' := [(3, .pointer (some ⟨bs, 0, none⟩)), (5, .pointer (some ⟨bc, 0, none⟩)), (6, .pointer (some ⟨bo, 0, none⟩)), (7, .pointer (some ⟨bw, 0, none⟩)), (9, .int .i64 ((16 + k : Nat) : Int)), (10, .int .u32 ((((rotr ((extTo (words0 b 16) k).at_ ((16 + k) - 15)) 7) ^^^ (rotr ((extTo (words0 b 16) k).at_ ((16 + k) - 15)) 18)) ^^^ (((extTo (words0 b 16) k).at_ ((16 + k) - 15)) / 8) : Nat) : Int)), (11, .int .u32 ((((rotr ((extTo (words0 b 16) k).at_ ((16 + k) - 2)) 17) ^^^ (rotr ((extTo (words0 b 16) k).at_ ((16 + k) - 2)) 19)) ^^^ (((extTo (words0 b 16) k).at_ ((16 + k) - 2)) / 1024) : Nat) : Int))]) (C := [BinOk Tryd.prog .sub 3 (.int .i64 ((16 + k : Nat) : Int)) (.int .i64 2) (.int .i64 (((16 + k) - 2 : Nat) : Int)), RunOk Tryd.prog w11 (Instr.indexAt 82 (.pointer (some ⟨bw, 0, none⟩)) (.int .i64 (((16 + k) - 2 : Nat) : Int))) (.pointer (some ⟨bw, ((16 + k) - 2), none⟩)), RunOk Tryd.prog w11 (Instr.loadAt 59 (.pointer (some ⟨bw, ((16 + k) - 2), none⟩))) (.int .u32 (((extTo (words0 b 16) k).at_ ((16 + k) - 2) : Nat) : Int)), CallOk Tryd.prog w11 64 #[.int .u32 (((extTo (words0 b 16) k).at_ ((16 + k) - 2) : Nat) : Int), .int .u64 17] (.int .u32 ((rotr ((extTo (words0 b 16) k).at_ ((16 + k) - 2)) 17 : Nat) : Int)), BinOk Tryd.prog .sub 3 (.int .i64 ((16 + k : Nat) : Int)) (.int .i64 2) (.int .i64 (((16 + k) - 2 : Nat) : Int)), RunOk Tryd.prog w11 (Instr.indexAt 82 (.pointer (some ⟨bw, 0, none⟩)) (.int .i64 (((16 + k) - 2 : Nat) : Int))) (.pointer (some ⟨bw, ((16 + k) - 2), none⟩)), RunOk Tryd.prog w11 (Instr.loadAt 59 (.pointer (some ⟨bw, ((16 + k) - 2), none⟩))) (.int .u32 (((extTo (words0 b 16) k).at_ ((16 + k) - 2) : Nat) : Int)), CallOk Tryd.prog w11 64 #[.int .u32 (((extTo (words0 b 16) k).at_ ((16 + k) - 2) : Nat) : Int), .int .u64 19] (.int .u32 ((rotr ((extTo (words0 b 16) k).at_ ((16 + k) - 2)) 19 : Nat) : Int)), BinOk Tryd.prog .xor 59 (.int .u32 ((rotr ((extTo (words0 b 16) k).at_ ((16 + k) - 2)) 17 : Nat) : Int)) (.int .u32 ((rotr ((extTo (words0 b 16) k).at_ ((16 + k) - 2)) 19 : Nat) : Int)) (.int .u32 (((rotr ((extTo (words0 b 16) k).at_ ((16 + k) - 2)) 17) ^^^ (rotr ((extTo (words0 b 16) k).at_ ((16 + k) - 2)) 19) : Nat) : Int)), BinOk Tryd.prog .sub 3 (.int .i64 ((16 + k : Nat) : Int)) (.int .i64 2) (.int .i64 (((16 + k) - 2 : Nat) : Int)), RunOk Tryd.prog w11 (Instr.indexAt 82 (.pointer (some ⟨bw, 0, none⟩)) (.int .i64 (((16 + k) - 2 : Nat) : Int))) (.pointer (some ⟨bw, ((16 + k) - 2), none⟩)), RunOk Tryd.prog w11 (Instr.loadAt 59 (.pointer (some ⟨bw, ((16 + k) - 2), none⟩))) (.int .u32 (((extTo (words0 b 16) k).at_ ((16 + k) - 2) : Nat) : Int)), BinOk Tryd.prog .shr 59 (.int .u32 (((extTo (words0 b 16) k).at_ ((16 + k) - 2) : Nat) : Int)) (.int .u64 10) (.int .u32 ((((extTo (words0 b 16) k).at_ ((16 + k) - 2)) / 1024 : Nat) : Int)), BinOk Tryd.prog .xor 59 (.int .u32 (((rotr ((extTo (words0 b 16) k).at_ ((16 + k) - 2)) 17) ^^^ (rotr ((extTo (words0 b 16) k).at_ ((16 + k) - 2)) 19) : Nat) : Int)) (.int .u32 ((((extTo (words0 b 16) k).at_ ((16 + k) - 2)) / 1024 : Nat) : Int)) (.int .u32 ((((rotr ((extTo (words0 b 16) k).at_ ((16 + k) - 2)) 17) ^^^ (rotr ((extTo (words0 b 16) k).at_ ((16 + k) - 2)) 19)) ^^^ (((extTo (words0 b 16) k).at_ ((16 + k) - 2)) / 1024) : Nat) : Int))]) ha [(1, .val (.int .i64 (((16 + k) - 2 : Nat) : Int))), (2, .val (.pointer (some ⟨bw, ((16 + k) - 2), none⟩))), (3, .val (.int .u32 (((extTo (words0 b 16) k).at_ ((16 + k) - 2) : Nat) : Int))), (4, .val (.int .u32 ((rotr ((extTo (words0 b 16) k).at_ ((16 + k) - 2)) 17 : Nat) : Int))), (6, .val (.int .i64 (((16 + k) - 2 : Nat) : Int))), (7, .val (.pointer (some ⟨bw, ((16 + k) - 2), none⟩))), (8, .val (.int .u32 (((extTo (words0 b 16) k).at_ ((16 + k) - 2) : Nat) : Int))), (9, .val (.int .u32 ((rotr ((extTo (words0 b 16) k).at_ ((16 + k) - 2)) 19 : Nat) : Int))), (10, .val (.int .u32 (((rotr ((extTo (words0 b 16) k).at_ ((16 + k) - 2)) 17) ^^^ (rotr ((extTo (words0 b 16) k).at_ ((16 + k) - 2)) 19) : Nat) : Int))), (12, .val (.int .i64 (((16 + k) - 2 : Nat) : Int))), (13, .val (.pointer (some ⟨bw, ((16 + k) - 2), none⟩))), (14, .val (.int .u32 (((extTo (words0 b 16) k).at_ ((16 + k) - 2) : Nat) : Int))), (15, .val (.int .u32 ((((extTo (words0 b 16) k).at_ ((16 + k) - 2)) / 1024 : Nat) : Int))), (16, .val (.int .u32 ((((rotr ((extTo (words0 b 16) k).at_ ((16 + k) - 2)) 17) ^^^ (rotr ((extTo (words0 b 16) k).at_ ((16 + k) - 2)) 19)) ^^^ (((extTo (words0 b 16) k).at_ ((16 + k) - 2)) / 1024) : Nat) : Int)))] (by kernel_rfl) (.cons (subN (a := (16 + k)) (n := 2) (by omega) (by unfold InR; omega)) (.cons (ixA (n := 64) (i := ((16 + k) - 2)) (by kernel_rfl) (by omega)) (.cons (ld1 hB_bw (by kernel_rfl) (wc_at (i := ((16 + k) - 2)) (by omega))) (.cons (fun w _ => turn_ok _ 17 w (by first | ((repeat' (first | exact Wn.at_lt _ _ | exact rotr_lt _ _ | apply xor32 | apply and32 | exact mod32 _ | apply div32 | assumption | omega)); done) | omega) (by omega)) (.cons (subN (a := (16 + k)) (n := 2) (by omega) (by unfold InR; omega)) (.cons (ixA (n := 64) (i := ((16 + k) - 2)) (by kernel_rfl) (by omega)) (.cons (ld1 hB_bw (by kernel_rfl) (wc_at (i := ((16 + k) - 2)) (by omega))) (.cons (fun w _ => turn_ok _ 19 w (by first | ((repeat' (first | exact Wn.at_lt _ _ | exact rotr_lt _ _ | apply xor32 | apply and32 | exact mod32 _ | apply div32 | assumption | omega)); done) | omega) (by omega)) (.cons (xorW_u32 (a := (rotr ((extTo (words0 b 16) k).at_ ((16 + k) - 2)) 17)) (n := (rotr ((extTo (words0 b 16) k).at_ ((16 + k) - 2)) 19)) (by first | ((repeat' (first | exact Wn.at_lt _ _ | exact rotr_lt _ _ | apply xor32 | apply and32 | exact mod32 _ | apply div32 | assumption | omega)); done) | omega) (by first | ((repeat' (first | exact Wn.at_lt _ _ | exact rotr_lt _ _ | apply xor32 | apply and32 | exact mod32 _ | apply div32 | assumption | omega)); done) | omega)) (.cons (subN (a := (16 + k)) (n := 2) (by omega) (by unfold InR; omega)) (.cons (ixA (n := 64) (i := ((16 + k) - 2)) (by kernel_rfl) (by omega)) (.cons (ld1 hB_bw (by kernel_rfl) (wc_at (i := ((16 + k) - 2)) (by omega))) (.cons (shrC (a := ((extTo (words0 b 16) k).at_ ((16 + k) - 2))) (n := 10) (p := 1024) (by show _ ≤ 32; omega) (by decide)) (.cons (xorW_u32 (a := ((rotr ((extTo (words0 b 16) k).at_ ((16 + k) - 2)) 17) ^^^ (rotr ((extTo (words0 b 16) k).at_ ((16 + k) - 2)) 19))) (n := (((extTo (words0 b 16) k).at_ ((16 + k) - 2)) / 1024)) (by first | ((repeat' (first | exact Wn.at_lt _ _ | exact rotr_lt _ _ | apply xor32 | apply and32 | exact mod32 _ | apply div32 | assumption | omega)); done) | omega) (by first | ((repeat' (first | exact Wn.at_lt _ _ | exact rotr_lt _ _ | apply xor32 | apply and32 | exact mod32 _ | apply div32 | assumption | omega)); done) | omega)) .nil)))))))))))))) ?_
      clear ha a; intro a w12 ha he
      replace hx := hx.tr he
      replace hB_bs := keepB he hB_bs
      replace hB_bc := keepB he hB_bc
      replace hB_bo := keepB he hB_bo
      replace hB_bw := keepB he hB_bw
      clear he
      refine tn ?_
      refine regM hmix ha [(2, .val (.int .i64 (((16 + k) - 16 : Nat) : Int))), (3, .val (.pointer (some ⟨bw, ((16 + k) - 16), none⟩))), (4, .val (.int .u32 (((extTo (words0 b 16) k).at_ ((16 + k) - 16) : Nat) : Int))), (6, .val (.int .u32 (((((extTo (words0 b 16) k).at_ ((16 + k) - 16)) + (((rotr ((extTo (words0 b 16) k).at_ ((16 + k) - 15)) 7) ^^^ (rotr ((extTo (words0 b 16) k).at_ ((16 + k) - 15)) 18)) ^^^ (((extTo (words0 b 16) k).at_ ((16 + k) - 15)) / 8))) % 4294967296 : Nat) : Int))), (8, .val (.int .i64 (((16 + k) - 7 : Nat) : Int))), (9, .val (.pointer (some ⟨bw, ((16 + k) - 7), none⟩))), (10, .val (.int .u32 (((extTo (words0 b 16) k).at_ ((16 + k) - 7) : Nat) : Int))), (11, .val (.int .u32 (((((((extTo (words0 b 16) k).at_ ((16 + k) - 16)) + (((rotr ((extTo (words0 b 16) k).at_ ((16 + k) - 15)) 7) ^^^ (rotr ((extTo (words0 b 16) k).at_ ((16 + k) - 15)) 18)) ^^^ (((extTo (words0 b 16) k).at_ ((16 + k) - 15)) / 8))) % 4294967296) + ((extTo (words0 b 16) k).at_ ((16 + k) - 7))) % 4294967296 : Nat) : Int))), (13, .val (.int .u32 (((((((((extTo (words0 b 16) k).at_ ((16 + k) - 16)) + (((rotr ((extTo (words0 b 16) k).at_ ((16 + k) - 15)) 7) ^^^ (rotr ((extTo (words0 b 16) k).at_ ((16 + k) - 15)) 18)) ^^^ (((extTo (words0 b 16) k).at_ ((16 + k) - 15)) / 8))) % 4294967296) + ((extTo (words0 b 16) k).at_ ((16 + k) - 7))) % 4294967296) + (((rotr ((extTo (words0 b 16) k).at_ ((16 + k) - 2)) 17) ^^^ (rotr ((extTo (words0 b 16) k).at_ ((16 + k) - 2)) 19)) ^^^ (((extTo (words0 b 16) k).at_ ((16 + k) - 2)) / 1024))) % 4294967296 : Nat) : Int))), (14, .val (.pointer (some ⟨bw, (16 + k), none⟩)))] [] [⟨15, .des, [], []⟩] [] (ρ' := [(3, .pointer (some ⟨bs, 0, none⟩)), (5, .pointer (some ⟨bc, 0, none⟩)), (6, .pointer (some ⟨bo, 0, none⟩)), (7, .pointer (some ⟨bw, 0, none⟩)), (9, .int .i64 ((16 + k : Nat) : Int))]) [] [fun w' => Ext w12 w', fun w' => w12.heap.size ≤ w'.heap.size ∧ Ext w w' ∧ w'.heap[bs]? = some (.cells ⟨wc s⟩ 81 (0, 0)) ∧ w'.heap[bc]? = some (.cells ⟨wc c⟩ 82 (0, 0)) ∧ w'.heap[bo]? = some (.cells ⟨wc (wz 8)⟩ 81 (0, 0)) ∧ w'.heap[bw]? = some (.cells ⟨wc ((extTo (words0 b 16) k).set (16 + k) ((((((((extTo (words0 b 16) k).at_ ((16 + k) - 16)) + (((rotr ((extTo (words0 b 16) k).at_ ((16 + k) - 15)) 7) ^^^ (rotr ((extTo (words0 b 16) k).at_ ((16 + k) - 15)) 18)) ^^^ (((extTo (words0 b 16) k).at_ ((16 + k) - 15)) / 8))) % 4294967296) + ((extTo (words0 b 16) k).at_ ((16 + k) - 7))) % 4294967296) + (((rotr ((extTo (words0 b 16) k).at_ ((16 + k) - 2)) 17) ^^^ (rotr ((extTo (words0 b 16) k).at_ ((16 + k) - 2)) 19)) ^^^ (((extTo (words0 b 16) k).at_ ((16 + k) - 2)) / 1024))) % 4294967296))⟩ 82 (0, 0))] [(2, [0], fun w' => [BinOk Tryd.prog .sub 3 (.int .i64 ((16 + k : Nat) : Int)) (.int .i64 16) (.int .i64 (((16 + k) - 16 : Nat) : Int))]), (3, [0], fun w' => [RunOk Tryd.prog w' (Instr.indexAt 82 (.pointer (some ⟨bw, 0, none⟩)) (.int .i64 (((16 + k) - 16 : Nat) : Int))) (.pointer (some ⟨bw, ((16 + k) - 16), none⟩))]), (4, [0], fun w' => [RunOk Tryd.prog w' (Instr.loadAt 59 (.pointer (some ⟨bw, ((16 + k) - 16), none⟩))) (.int .u32 (((extTo (words0 b 16) k).at_ ((16 + k) - 16) : Nat) : Int))]), (6, [0], fun w' => [BinOk Tryd.prog .add 59 (.int .u32 (((extTo (words0 b 16) k).at_ ((16 + k) - 16) : Nat) : Int)) (.int .u32 ((((rotr ((extTo (words0 b 16) k).at_ ((16 + k) - 15)) 7) ^^^ (rotr ((extTo (words0 b 16) k).at_ ((16 + k) - 15)) 18)) ^^^ (((extTo (words0 b 16) k).at_ ((16 + k) - 15)) / 8) : Nat) : Int)) (.int .u32 (((((extTo (words0 b 16) k).at_ ((16 + k) - 16)) + (((rotr ((extTo (words0 b 16) k).at_ ((16 + k) - 15)) 7) ^^^ (rotr ((extTo (words0 b 16) k).at_ ((16 + k) - 15)) 18)) ^^^ (((extTo (words0 b 16) k).at_ ((16 + k) - 15)) / 8))) % 4294967296 : Nat) : Int))]), (8, [0], fun w' => [BinOk Tryd.prog .sub 3 (.int .i64 ((16 + k : Nat) : Int)) (.int .i64 7) (.int .i64 (((16 + k) - 7 : Nat) : Int))]), (9, [0], fun w' => [RunOk Tryd.prog w' (Instr.indexAt 82 (.pointer (some ⟨bw, 0, none⟩)) (.int .i64 (((16 + k) - 7 : Nat) : Int))) (.pointer (some ⟨bw, ((16 + k) - 7), none⟩))]), (10, [0], fun w' => [RunOk Tryd.prog w' (Instr.loadAt 59 (.pointer (some ⟨bw, ((16 + k) - 7), none⟩))) (.int .u32 (((extTo (words0 b 16) k).at_ ((16 + k) - 7) : Nat) : Int))]), (11, [0], fun w' => [BinOk Tryd.prog .add 59 (.int .u32 (((((extTo (words0 b 16) k).at_ ((16 + k) - 16)) + (((rotr ((extTo (words0 b 16) k).at_ ((16 + k) - 15)) 7) ^^^ (rotr ((extTo (words0 b 16) k).at_ ((16 + k) - 15)) 18)) ^^^ (((extTo (words0 b 16) k).at_ ((16 + k) - 15)) / 8))) % 4294967296 : Nat) : Int)) (.int .u32 (((extTo (words0 b 16) k).at_ ((16 + k) - 7) : Nat) : Int)) (.int .u32 (((((((extTo (words0 b 16) k).at_ ((16 + k) - 16)) + (((rotr ((extTo (words0 b 16) k).at_ ((16 + k) - 15)) 7) ^^^ (rotr ((extTo (words0 b 16) k).at_ ((16 + k) - 15)) 18)) ^^^ (((extTo (words0 b 16) k).at_ ((16 + k) - 15)) / 8))) % 4294967296) + ((extTo (words0 b 16) k).at_ ((16 + k) - 7))) % 4294967296 : Nat) : Int))]), (13, [0], fun w' => [BinOk Tryd.prog .add 59 (.int .u32 (((((((extTo (words0 b 16) k).at_ ((16 + k) - 16)) + (((rotr ((extTo (words0 b 16) k).at_ ((16 + k) - 15)) 7) ^^^ (rotr ((extTo (words0 b 16) k).at_ ((16 + k) - 15)) 18)) ^^^ (((extTo (words0 b 16) k).at_ ((16 + k) - 15)) / 8))) % 4294967296) + ((extTo (words0 b 16) k).at_ ((16 + k) - 7))) % 4294967296 : Nat) : Int)) (.int .u32 ((((rotr ((extTo (words0 b 16) k).at_ ((16 + k) - 2)) 17) ^^^ (rotr ((extTo (words0 b 16) k).at_ ((16 + k) - 2)) 19)) ^^^ (((extTo (words0 b 16) k).at_ ((16 + k) - 2)) / 1024) : Nat) : Int)) (.int .u32 (((((((((extTo (words0 b 16) k).at_ ((16 + k) - 16)) + (((rotr ((extTo (words0 b 16) k).at_ ((16 + k) - 15)) 7) ^^^ (rotr ((extTo (words0 b 16) k).at_ ((16 + k) - 15)) 18)) ^^^ (((extTo (words0 b 16) k).at_ ((16 + k) - 15)) / 8))) % 4294967296) + ((extTo (words0 b 16) k).at_ ((16 + k) - 7))) % 4294967296) + (((rotr ((extTo (words0 b 16) k).at_ ((16 + k) - 2)) 17) ^^^ (rotr ((extTo (words0 b 16) k).at_ ((16 + k) - 2)) 19)) ^^^ (((extTo (words0 b 16) k).at_ ((16 + k) - 2)) / 1024))) % 4294967296 : Nat) : Int))]), (14, [0], fun w' => [RunOk Tryd.prog w' (Instr.indexAt 82 (.pointer (some ⟨bw, 0, none⟩)) (.int .i64 ((16 + k : Nat) : Int))) (.pointer (some ⟨bw, (16 + k), none⟩))])] (by kernel_rfl) (fun w' => by kernel_rfl) (fun w' => by kernel_rfl) (by kernel_rfl) (fun w' h => h) ?_ ?_ ?_ ?_ ?_ ?_
      · refine ⟨fun w1 w2 h e => Ext.tr h e, ?_, trivial⟩
        · rintro w1 w2 ⟨hsz, hx, hB_bs, hB_bc, hB_bo, hB_bw⟩ he
          exact ⟨Nat.le_trans hsz he.size, hx.tr he, keepB he hB_bs, keepB he hB_bc, keepB he hB_bo, keepB he hB_bw⟩
      · trivial
      · refine ⟨⟨?_, trivial⟩, ⟨?_, trivial⟩, ⟨?_, trivial⟩, ⟨?_, trivial⟩, ⟨?_, trivial⟩, ⟨?_, trivial⟩, ⟨?_, trivial⟩, ⟨?_, trivial⟩, ⟨?_, trivial⟩, ⟨?_, trivial⟩, trivial⟩
        · intro w' hJ
          have he : Ext w12 w' := hJ
          have hsz := he.size
          replace hx := hx.tr he
          replace hB_bs := keepB he hB_bs
          replace hB_bc := keepB he hB_bc
          replace hB_bo := keepB he hB_bo
          replace hB_bw := keepB he hB_bw
          clear he
          exact (.cons (subN (a := (16 + k)) (n := 16) (by omega) (by unfold InR; omega)) .nil)
        · intro w' hJ
          have he : Ext w12 w' := hJ
          have hsz := he.size
          replace hx := hx.tr he
          replace hB_bs := keepB he hB_bs
          replace hB_bc := keepB he hB_bc
          replace hB_bo := keepB he hB_bo
          replace hB_bw := keepB he hB_bw
          clear he
          exact (.cons (ixA (n := 64) (i := ((16 + k) - 16)) (by kernel_rfl) (by omega)) .nil)
        · intro w' hJ
          have he : Ext w12 w' := hJ
          have hsz := he.size
          replace hx := hx.tr he
          replace hB_bs := keepB he hB_bs
          replace hB_bc := keepB he hB_bc
          replace hB_bo := keepB he hB_bo
          replace hB_bw := keepB he hB_bw
          clear he
          exact (.cons (ld1 hB_bw (by kernel_rfl) (wc_at (i := ((16 + k) - 16)) (by omega))) .nil)
        · intro w' hJ
          have he : Ext w12 w' := hJ
          have hsz := he.size
          replace hx := hx.tr he
          replace hB_bs := keepB he hB_bs
          replace hB_bc := keepB he hB_bc
          replace hB_bo := keepB he hB_bo
          replace hB_bw := keepB he hB_bw
          clear he
          exact (.cons (addW_u32 (a := ((extTo (words0 b 16) k).at_ ((16 + k) - 16))) (n := (((rotr ((extTo (words0 b 16) k).at_ ((16 + k) - 15)) 7) ^^^ (rotr ((extTo (words0 b 16) k).at_ ((16 + k) - 15)) 18)) ^^^ (((extTo (words0 b 16) k).at_ ((16 + k) - 15)) / 8)))) .nil)
        · intro w' hJ
          have he : Ext w12 w' := hJ
          have hsz := he.size
          replace hx := hx.tr he
          replace hB_bs := keepB he hB_bs
          replace hB_bc := keepB he hB_bc
          replace hB_bo := keepB he hB_bo
          replace hB_bw := keepB he hB_bw
          clear he
          exact (.cons (subN (a := (16 + k)) (n := 7) (by omega) (by unfold InR; omega)) .nil)
        · intro w' hJ
          have he : Ext w12 w' := hJ
          have hsz := he.size
          replace hx := hx.tr he
          replace hB_bs := keepB he hB_bs
          replace hB_bc := keepB he hB_bc
          replace hB_bo := keepB he hB_bo
          replace hB_bw := keepB he hB_bw
          clear he
          exact (.cons (ixA (n := 64) (i := ((16 + k) - 7)) (by kernel_rfl) (by omega)) .nil)
        · intro w' hJ
          have he : Ext w12 w' := hJ
          have hsz := he.size
          replace hx := hx.tr he
          replace hB_bs := keepB he hB_bs
          replace hB_bc := keepB he hB_bc
          replace hB_bo := keepB he hB_bo
          replace hB_bw := keepB he hB_bw
          clear he
          exact (.cons (ld1 hB_bw (by kernel_rfl) (wc_at (i := ((16 + k) - 7)) (by omega))) .nil)
        · intro w' hJ
          have he : Ext w12 w' := hJ
          have hsz := he.size
          replace hx := hx.tr he
          replace hB_bs := keepB he hB_bs
          replace hB_bc := keepB he hB_bc
          replace hB_bo := keepB he hB_bo
          replace hB_bw := keepB he hB_bw
          clear he
          exact (.cons (addW_u32 (a := ((((extTo (words0 b 16) k).at_ ((16 + k) - 16)) + (((rotr ((extTo (words0 b 16) k).at_ ((16 + k) - 15)) 7) ^^^ (rotr ((extTo (words0 b 16) k).at_ ((16 + k) - 15)) 18)) ^^^ (((extTo (words0 b 16) k).at_ ((16 + k) - 15)) / 8))) % 4294967296)) (n := ((extTo (words0 b 16) k).at_ ((16 + k) - 7)))) .nil)
        · intro w' hJ
          have he : Ext w12 w' := hJ
          have hsz := he.size
          replace hx := hx.tr he
          replace hB_bs := keepB he hB_bs
          replace hB_bc := keepB he hB_bc
          replace hB_bo := keepB he hB_bo
          replace hB_bw := keepB he hB_bw
          clear he
          exact (.cons (addW_u32 (a := ((((((extTo (words0 b 16) k).at_ ((16 + k) - 16)) + (((rotr ((extTo (words0 b 16) k).at_ ((16 + k) - 15)) 7) ^^^ (rotr ((extTo (words0 b 16) k).at_ ((16 + k) - 15)) 18)) ^^^ (((extTo (words0 b 16) k).at_ ((16 + k) - 15)) / 8))) % 4294967296) + ((extTo (words0 b 16) k).at_ ((16 + k) - 7))) % 4294967296)) (n := (((rotr ((extTo (words0 b 16) k).at_ ((16 + k) - 2)) 17) ^^^ (rotr ((extTo (words0 b 16) k).at_ ((16 + k) - 2)) 19)) ^^^ (((extTo (words0 b 16) k).at_ ((16 + k) - 2)) / 1024)))) .nil)
        · intro w' hJ
          have he : Ext w12 w' := hJ
          have hsz := he.size
          replace hx := hx.tr he
          replace hB_bs := keepB he hB_bs
          replace hB_bc := keepB he hB_bc
          replace hB_bo := keepB he hB_bo
          replace hB_bw := keepB he hB_bw
          clear he
          exact (.cons (ixA (n := 64) (i := (16 + k)) (by kernel_rfl) (by omega)) .nil)
      · trivial
      · refine ⟨?_, trivial⟩
        · intro w' hJ
          have hB_bsS := hB_bs
          have hB_bcS := hB_bc
          have hB_boS := hB_bo
          have hB_bwS := hB_bw
          have he : Ext w12 w' := hJ
          have hsz := he.size
          replace hx := hx.tr he
          replace hB_bs := keepB he hB_bs
          replace hB_bc := keepB he hB_bc
          replace hB_bo := keepB he hB_bo
          replace hB_bw := keepB he hB_bw
          clear he
          refine ostoreL (off := (16 + k)) (vs := [.int .u32 (((((((((extTo (words0 b 16) k).at_ ((16 + k) - 16)) + (((rotr ((extTo (words0 b 16) k).at_ ((16 + k) - 15)) 7) ^^^ (rotr ((extTo (words0 b 16) k).at_ ((16 + k) - 15)) 18)) ^^^ (((extTo (words0 b 16) k).at_ ((16 + k) - 15)) / 8))) % 4294967296) + ((extTo (words0 b 16) k).at_ ((16 + k) - 7))) % 4294967296) + (((rotr ((extTo (words0 b 16) k).at_ ((16 + k) - 2)) 17) ^^^ (rotr ((extTo (words0 b 16) k).at_ ((16 + k) - 2)) 19)) ^^^ (((extTo (words0 b 16) k).at_ ((16 + k) - 2)) / 1024))) % 4294967296 : Nat) : Int)]) (cs' := wc ((extTo (words0 b 16) k).set (16 + k) ((((((((extTo (words0 b 16) k).at_ ((16 + k) - 16)) + (((rotr ((extTo (words0 b 16) k).at_ ((16 + k) - 15)) 7) ^^^ (rotr ((extTo (words0 b 16) k).at_ ((16 + k) - 15)) 18)) ^^^ (((extTo (words0 b 16) k).at_ ((16 + k) - 15)) / 8))) % 4294967296) + ((extTo (words0 b 16) k).at_ ((16 + k) - 7))) % 4294967296) + (((rotr ((extTo (words0 b 16) k).at_ ((16 + k) - 2)) 17) ^^^ (rotr ((extTo (words0 b 16) k).at_ ((16 + k) - 2)) 19)) ^^^ (((extTo (words0 b 16) k).at_ ((16 + k) - 2)) / 1024))) % 4294967296))) (t := 59) (x := .tmp 105) (y := .tmp 104) (by kernel_rfl) (by kernel_rfl) hB_bw (by kernel_rfl) (by kernel_rfl) (by kernel_rfl) (by rw [wc_len _]; show (16 + k) + 1 ≤ 64; omega) (by rw [put_one (by rw [wc_len _]; omega)]; exact wc_set _ _ _ (by omega)) ?_
          intro w'' hc
          exact ⟨trivial, ⟨Nat.le_trans hsz hc.size, hc.ext hx hb_bw, hc.keep hB_bs (by first | assumption | exact Ne.symm (by assumption)), hc.keep hB_bc (by first | assumption | exact Ne.symm (by assumption)), hc.keep hB_bo (by first | assumption | exact Ne.symm (by assumption)), hc.at_⟩, trivial⟩
      · clear ha a; intro a w13 hJ ha
        clear hx hB_bs hB_bc hB_bo hB_bw
        obtain ⟨hsz, hx, hB_bs, hB_bc, hB_bo, hB_bw⟩ := hJ
        clear hsz
        rw [extTo_step2 _ _ _ _ (by unfold sg0; rfl) (by unfold sg1; rfl)] at hB_bw
        refine bn ?_
        refine tn ?_
        refine regp (ρ' := [(3, .pointer (some ⟨bs, 0, none⟩)), (5, .pointer (some ⟨bc, 0, none⟩)), (6, .pointer (some ⟨bo, 0, none⟩)), (7, .pointer (some ⟨bw, 0, none⟩)), (9, .int .i64 (((16 + k) + 1 : Nat) : Int))]) (C := [InR .i64 (((16 + k) + 1 : Nat) : Int)]) ha [] (by kernel_rfl) (.cons (by unfold InR; omega) .nil) ?_
        clear ha a; intro a ha
        exact tn ⟨48 - ((k + 1)), by omega, (k + 1), rfl, ha.sub (ρ' := [(3, .pointer (some ⟨bs, 0, none⟩)), (5, .pointer (some ⟨bc, 0, none⟩)), (6, .pointer (some ⟨bo, 0, none⟩)), (7, .pointer (some ⟨bw, 0, none⟩)), (9, .int .i64 ((16 + (k + 1) : Nat) : Int))]) (by kernel_rfl), hx, hB_bs, hB_bc, hB_bo, hB_bw, by omega⟩
    · replace h54 := of_decide_eq_false h54
      obtain rfl : k = 48 := by omega
      have hB_bw : _ = some (Obj.cells ⟨wc (shaW b)⟩ 82 (0, 0)) := hB_bw
      refine wexit ?_
      refine (te (te (be ?_)))
      refine tn ?_
      refine wseq ?_
      refine reg_list ?_
      refine segp (ρ' := [(3, .pointer (some ⟨bs, 0, none⟩)), (5, .pointer (some ⟨bc, 0, none⟩)), (6, .pointer (some ⟨bo, 0, none⟩)), (7, .pointer (some ⟨bw, 0, none⟩)), (106, .agg ⟨wc s⟩)]) (C := [RunOk Tryd.prog w10 (Instr.loadAt 81 (.pointer (some ⟨bs, 0, none⟩))) (.agg ⟨wc s⟩)]) ha 1 [(0, .val (.agg ⟨wc s⟩))] rfl (by kernel_rfl) (.cons (ldAll (n := 8) hB_bs (by kernel_rfl) (by kernel_rfl) (wc_len _)) .nil) ?_
      clear ha a; intro a ha
      refine lnew ha rfl (by kernel_rfl) ⟨wc (wz 8)⟩ 81 (by kernel_rfl) ?_
      clear ha a; intro bv w14 he hb_bv hB_bv a ha
      have hne_bs_bv : bs ≠ bv := ne_new hB_bs hb_bv
      have hne_bc_bv : bc ≠ bv := ne_new hB_bc hb_bv
      have hne_bo_bv : bo ≠ bv := ne_new hB_bo hb_bv
      have hne_bw_bv : bw ≠ bv := ne_new hB_bw hb_bv
      replace hB_bs := keepB he hB_bs
      replace hB_bc := keepB he hB_bc
      replace hB_bo := keepB he hB_bo
      replace hB_bw := keepB he hB_bw
      replace hb_bv := Nat.le_trans hx.size hb_bv
      replace hx := hx.tr he
      clear he
      refine lstoreL (off := 0) (vs := wc s) (cs' := wc s) ha rfl rfl (by kernel_rfl) rfl rfl hB_bv (by rw [wc_len _]; kernel_rfl) (by kernel_rfl) (wc_one _) (by first | (rw [wc_len _, wc_len _]; omega; done) | simp [wc_len]) (put_all (by first | (rw [wc_len _, wc_len _]; done) | simp [wc_len])) ?_
      clear ha a; intro w15 hc a ha
      replace hB_bs := hc.keep hB_bs (by first | assumption | exact Ne.symm (by assumption))
      replace hB_bc := hc.keep hB_bc (by first | assumption | exact Ne.symm (by assumption))
      replace hB_bo := hc.keep hB_bo (by first | assumption | exact Ne.symm (by assumption))
      replace hB_bw := hc.keep hB_bw (by first | assumption | exact Ne.symm (by assumption))
      replace hx := hc.ext hx hb_bv
      replace hB_bv := hc.at_; clear hc
      refine lnil ?_
      replace ha := ha.sub (ρ' := [(3, .pointer (some ⟨bs, 0, none⟩)), (5, .pointer (some ⟨bc, 0, none⟩)), (6, .pointer (some ⟨bo, 0, none⟩)), (7, .pointer (some ⟨bw, 0, none⟩)), (12, .pointer (some ⟨bv, 0, none⟩))]) (by kernel_rfl)
      refine tn ?_
      refine wseq ?_
      refine wseq ?_
      refine regp (ρ' := [(3, .pointer (some ⟨bs, 0, none⟩)), (5, .pointer (some ⟨bc, 0, none⟩)), (6, .pointer (some ⟨bo, 0, none⟩)), (7, .pointer (some ⟨bw, 0, none⟩)), (12, .pointer (some ⟨bv, 0, none⟩)), (13, .int .i64 0)]) (C := []) ha [] (by kernel_rfl) .nil ?_
      clear ha a; intro a ha
      refine tn ?_
      refine wblk ?_
      refine wloop (fun zz a w16 => ∃ (t : Nat), zz = 64 - t ∧ On 209 [(3, .pointer (some ⟨bs, 0, none⟩)), (5, .pointer (some ⟨bc, 0, none⟩)), (6, .pointer (some ⟨bo, 0, none⟩)), (7, .pointer (some ⟨bw, 0, none⟩)), (12, .pointer (some ⟨bv, 0, none⟩)), (13, .int .i64 ((t : Nat) : Int))] a ∧ Ext w w16 ∧ w16.heap[bs]? = some (.cells ⟨wc s⟩ 81 (0, 0)) ∧ w16.heap[bc]? = some (.cells ⟨wc c⟩ 82 (0, 0)) ∧ w16.heap[bo]? = some (.cells ⟨wc (wz 8)⟩ 81 (0, 0)) ∧ w16.heap[bw]? = some (.cells ⟨wc (shaW b)⟩ 82 (0, 0)) ∧ w16.heap[bv]? = some (.cells ⟨wc (rounds c (shaW b) s t)⟩ 81 (0, 0)) ∧ (t ≤ 64)) _ ⟨0, rfl, ha.sub (ρ' := [(3, .pointer (some ⟨bs, 0, none⟩)), (5, .pointer (some ⟨bc, 0, none⟩)), (6, .pointer (some ⟨bo, 0, none⟩)), (7, .pointer (some ⟨bw, 0, none⟩)), (12, .pointer (some ⟨bv, 0, none⟩)), (13, .int .i64 ((0 : Nat) : Int))]) (by kernel_rfl), hx, hB_bs, hB_bc, hB_bo, hB_bw, hB_bv, by omega⟩ ?_
      clear ha hx hB_bs hB_bc hB_bo hB_bw hB_bv
      rintro zz a w17 ⟨t, hzz, ha, hx, hB_bs, hB_bc, hB_bo, hB_bw, hB_bv, ht⟩
      refine wseq ?_
      refine wseq ?_
      refine regp (ρ' := [(3, .pointer (some ⟨bs, 0, none⟩)), (5, .pointer (some ⟨bc, 0, none⟩)), (6, .pointer (some ⟨bo, 0, none⟩)), (7, .pointer (some ⟨bw, 0, none⟩)), (12, .pointer (some ⟨bv, 0, none⟩)), (13, .int .i64 ((t : Nat) : Int)), (108, .bool (decide (((t : Nat) : Int) < 64)))]) (C := []) ha [] (by kernel_rfl) .nil ?_
      clear ha a; intro a ha
      refine tn ?_
      refine wif ha rfl (fun h108 => ?_) (fun h108 => ?_)
      · replace h108 := of_decide_eq_true h108
        refine wskip ?_
        refine tn ?_
        refine wseq ?_
        refine wblk ?_
        refine wseq ?_
        refine reg hmix (ρ' := [(3, .pointer (some ⟨bs, 0, none⟩)), (5, .pointer (some ⟨bc, 0, none⟩)), (6, .pointer (some ⟨bo, 0, none⟩)), (7, .pointer (some ⟨bw, 0, none⟩)), (12, .pointer (some ⟨bv, 0, none⟩)), (13, .int .i64 ((t : Nat) : Int)), (14, .int .u32 (((((((((((rounds c (shaW b) s t).at_ 7) + (((rotr ((rounds c (shaW b) s t).at_ 4) 6) ^^^ (rotr ((rounds c (shaW b) s t).at_ 4) 11)) ^^^ (rotr ((rounds c (shaW b) s t).at_ 4) 25))) % 4294967296) + ((((rounds c (shaW b) s t).at_ 4) &&& ((rounds c (shaW b) s t).at_ 5)) ^^^ ((4294967295 ^^^ ((rounds c (shaW b) s t).at_ 4)) &&& ((rounds c (shaW b) s t).at_ 6)))) % 4294967296) + (c.at_ t)) % 4294967296) + ((shaW b).at_ t)) % 4294967296 : Nat) : Int))]) (C := [RunOk Tryd.prog w17 (Instr.indexAt 81 (.pointer (some ⟨bv, 0, none⟩)) (.int .i64 7)) (.pointer (some ⟨bv, 7, none⟩)), RunOk Tryd.prog w17 (Instr.loadAt 59 (.pointer (some ⟨bv, 7, none⟩))) (.int .u32 (((rounds c (shaW b) s t).at_ 7 : Nat) : Int)), RunOk Tryd.prog w17 (Instr.indexAt 81 (.pointer (some ⟨bv, 0, none⟩)) (.int .i64 4)) (.pointer (some ⟨bv, 4, none⟩)), RunOk Tryd.prog w17 (Instr.loadAt 59 (.pointer (some ⟨bv, 4, none⟩))) (.int .u32 (((rounds c (shaW b) s t).at_ 4 : Nat) : Int)), CallOk Tryd.prog w17 64 #[.int .u32 (((rounds c (shaW b) s t).at_ 4 : Nat) : Int), .int .u64 6] (.int .u32 ((rotr ((rounds c (shaW b) s t).at_ 4) 6 : Nat) : Int)), RunOk Tryd.prog w17 (Instr.indexAt 81 (.pointer (some ⟨bv, 0, none⟩)) (.int .i64 4)) (.pointer (some ⟨bv, 4, none⟩)), RunOk Tryd.prog w17 (Instr.loadAt 59 (.pointer (some ⟨bv, 4, none⟩))) (.int .u32 (((rounds c (shaW b) s t).at_ 4 : Nat) : Int)), CallOk Tryd.prog w17 64 #[.int .u32 (((rounds c (shaW b) s t).at_ 4 : Nat) : Int), .int .u64 11] (.int .u32 ((rotr ((rounds c (shaW b) s t).at_ 4) 11 : Nat) : Int)), BinOk Tryd.prog .xor 59 (.int .u32 ((rotr ((rounds c (shaW b) s t).at_ 4) 6 : Nat) : Int)) (.int .u32 ((rotr ((rounds c (shaW b) s t).at_ 4) 11 : Nat) : Int)) (.int .u32 (((rotr ((rounds c (shaW b) s t).at_ 4) 6) ^^^ (rotr ((rounds c (shaW b) s t).at_ 4) 11) : Nat) : Int)), RunOk Tryd.prog w17 (Instr.indexAt 81 (.pointer (some ⟨bv, 0, none⟩)) (.int .i64 4)) (.pointer (some ⟨bv, 4, none⟩)), RunOk Tryd.prog w17 (Instr.loadAt 59 (.pointer (some ⟨bv, 4, none⟩))) (.int .u32 (((rounds c (shaW b) s t).at_ 4 : Nat) : Int)), CallOk Tryd.prog w17 64 #[.int .u32 (((rounds c (shaW b) s t).at_ 4 : Nat) : Int), .int .u64 25] (.int .u32 ((rotr ((rounds c (shaW b) s t).at_ 4) 25 : Nat) : Int)), BinOk Tryd.prog .xor 59 (.int .u32 (((rotr ((rounds c (shaW b) s t).at_ 4) 6) ^^^ (rotr ((rounds c (shaW b) s t).at_ 4) 11) : Nat) : Int)) (.int .u32 ((rotr ((rounds c (shaW b) s t).at_ 4) 25 : Nat) : Int)) (.int .u32 ((((rotr ((rounds c (shaW b) s t).at_ 4) 6) ^^^ (rotr ((rounds c (shaW b) s t).at_ 4) 11)) ^^^ (rotr ((rounds c (shaW b) s t).at_ 4) 25) : Nat) : Int)), BinOk Tryd.prog .add 59 (.int .u32 (((rounds c (shaW b) s t).at_ 7 : Nat) : Int)) (.int .u32 ((((rotr ((rounds c (shaW b) s t).at_ 4) 6) ^^^ (rotr ((rounds c (shaW b) s t).at_ 4) 11)) ^^^ (rotr ((rounds c (shaW b) s t).at_ 4) 25) : Nat) : Int)) (.int .u32 (((((rounds c (shaW b) s t).at_ 7) + (((rotr ((rounds c (shaW b) s t).at_ 4) 6) ^^^ (rotr ((rounds c (shaW b) s t).at_ 4) 11)) ^^^ (rotr ((rounds c (shaW b) s t).at_ 4) 25))) % 4294967296 : Nat) : Int)), RunOk Tryd.prog w17 (Instr.indexAt 81 (.pointer (some ⟨bv, 0, none⟩)) (.int .i64 4)) (.pointer (some ⟨bv, 4, none⟩)), RunOk Tryd.prog w17 (Instr.loadAt 59 (.pointer (some ⟨bv, 4, none⟩))) (.int .u32 (((rounds c (shaW b) s t).at_ 4 : Nat) : Int)), RunOk Tryd.prog w17 (Instr.indexAt 81 (.pointer (some ⟨bv, 0, none⟩)) (.int .i64 5)) (.pointer (some ⟨bv, 5, none⟩)), RunOk Tryd.prog w17 (Instr.loadAt 59 (.pointer (some ⟨bv, 5, none⟩))) (.int .u32 (((rounds c (shaW b) s t).at_ 5 : Nat) : Int)), BinOk Tryd.prog .and 59 (.int .u32 (((rounds c (shaW b) s t).at_ 4 : Nat) : Int)) (.int .u32 (((rounds c (shaW b) s t).at_ 5 : Nat) : Int)) (.int .u32 ((((rounds c (shaW b) s t).at_ 4) &&& ((rounds c (shaW b) s t).at_ 5) : Nat) : Int)), RunOk Tryd.prog w17 (Instr.indexAt 81 (.pointer (some ⟨bv, 0, none⟩)) (.int .i64 4)) (.pointer (some ⟨bv, 4, none⟩)), RunOk Tryd.prog w17 (Instr.loadAt 59 (.pointer (some ⟨bv, 4, none⟩))) (.int .u32 (((rounds c (shaW b) s t).at_ 4 : Nat) : Int)), NN .u32 (((rounds c (shaW b) s t).at_ 4 : Nat) : Int), RunOk Tryd.prog w17 (Instr.indexAt 81 (.pointer (some ⟨bv, 0, none⟩)) (.int .i64 6)) (.pointer (some ⟨bv, 6, none⟩)), RunOk Tryd.prog w17 (Instr.loadAt 59 (.pointer (some ⟨bv, 6, none⟩))) (.int .u32 (((rounds c (shaW b) s t).at_ 6 : Nat) : Int)), BinOk Tryd.prog .and 59 (.int .u32 ((4294967295 ^^^ ((rounds c (shaW b) s t).at_ 4) : Nat) : Int)) (.int .u32 (((rounds c (shaW b) s t).at_ 6 : Nat) : Int)) (.int .u32 (((4294967295 ^^^ ((rounds c (shaW b) s t).at_ 4)) &&& ((rounds c (shaW b) s t).at_ 6) : Nat) : Int)), BinOk Tryd.prog .xor 59 (.int .u32 ((((rounds c (shaW b) s t).at_ 4) &&& ((rounds c (shaW b) s t).at_ 5) : Nat) : Int)) (.int .u32 (((4294967295 ^^^ ((rounds c (shaW b) s t).at_ 4)) &&& ((rounds c (shaW b) s t).at_ 6) : Nat) : Int)) (.int .u32 (((((rounds c (shaW b) s t).at_ 4) &&& ((rounds c (shaW b) s t).at_ 5)) ^^^ ((4294967295 ^^^ ((rounds c (shaW b) s t).at_ 4)) &&& ((rounds c (shaW b) s t).at_ 6)) : Nat) : Int)), BinOk Tryd.prog .add 59 (.int .u32 (((((rounds c (shaW b) s t).at_ 7) + (((rotr ((rounds c (shaW b) s t).at_ 4) 6) ^^^ (rotr ((rounds c (shaW b) s t).at_ 4) 11)) ^^^ (rotr ((rounds c (shaW b) s t).at_ 4) 25))) % 4294967296 : Nat) : Int)) (.int .u32 (((((rounds c (shaW b) s t).at_ 4) &&& ((rounds c (shaW b) s t).at_ 5)) ^^^ ((4294967295 ^^^ ((rounds c (shaW b) s t).at_ 4)) &&& ((rounds c (shaW b) s t).at_ 6)) : Nat) : Int)) (.int .u32 (((((((rounds c (shaW b) s t).at_ 7) + (((rotr ((rounds c (shaW b) s t).at_ 4) 6) ^^^ (rotr ((rounds c (shaW b) s t).at_ 4) 11)) ^^^ (rotr ((rounds c (shaW b) s t).at_ 4) 25))) % 4294967296) + ((((rounds c (shaW b) s t).at_ 4) &&& ((rounds c (shaW b) s t).at_ 5)) ^^^ ((4294967295 ^^^ ((rounds c (shaW b) s t).at_ 4)) &&& ((rounds c (shaW b) s t).at_ 6)))) % 4294967296 : Nat) : Int)), RunOk Tryd.prog w17 (Instr.indexAt 82 (.pointer (some ⟨bc, 0, none⟩)) (.int .i64 ((t : Nat) : Int))) (.pointer (some ⟨bc, t, none⟩)), RunOk Tryd.prog w17 (Instr.loadAt 59 (.pointer (some ⟨bc, t, none⟩))) (.int .u32 ((c.at_ t : Nat) : Int)), BinOk Tryd.prog .add 59 (.int .u32 (((((((rounds c (shaW b) s t).at_ 7) + (((rotr ((rounds c (shaW b) s t).at_ 4) 6) ^^^ (rotr ((rounds c (shaW b) s t).at_ 4) 11)) ^^^ (rotr ((rounds c (shaW b) s t).at_ 4) 25))) % 4294967296) + ((((rounds c (shaW b) s t).at_ 4) &&& ((rounds c (shaW b) s t).at_ 5)) ^^^ ((4294967295 ^^^ ((rounds c (shaW b) s t).at_ 4)) &&& ((rounds c (shaW b) s t).at_ 6)))) % 4294967296 : Nat) : Int)) (.int .u32 ((c.at_ t : Nat) : Int)) (.int .u32 (((((((((rounds c (shaW b) s t).at_ 7) + (((rotr ((rounds c (shaW b) s t).at_ 4) 6) ^^^ (rotr ((rounds c (shaW b) s t).at_ 4) 11)) ^^^ (rotr ((rounds c (shaW b) s t).at_ 4) 25))) % 4294967296) + ((((rounds c (shaW b) s t).at_ 4) &&& ((rounds c (shaW b) s t).at_ 5)) ^^^ ((4294967295 ^^^ ((rounds c (shaW b) s t).at_ 4)) &&& ((rounds c (shaW b) s t).at_ 6)))) % 4294967296) + (c.at_ t)) % 4294967296 : Nat) : Int)), RunOk Tryd.prog w17 (Instr.indexAt 82 (.pointer (some ⟨bw, 0, none⟩)) (.int .i64 ((t : Nat) : Int))) (.pointer (some ⟨bw, t, none⟩)), RunOk Tryd.prog w17 (Instr.loadAt 59 (.pointer (some ⟨bw, t, none⟩))) (.int .u32 (((shaW b).at_ t : Nat) : Int)), BinOk Tryd.prog .add 59 (.int .u32 (((((((((rounds c (shaW b) s t).at_ 7) + (((rotr ((rounds c (shaW b) s t).at_ 4) 6) ^^^ (rotr ((rounds c (shaW b) s t).at_ 4) 11)) ^^^ (rotr ((rounds c (shaW b) s t).at_ 4) 25))) % 4294967296) + ((((rounds c (shaW b) s t).at_ 4) &&& ((rounds c (shaW b) s t).at_ 5)) ^^^ ((4294967295 ^^^ ((rounds c (shaW b) s t).at_ 4)) &&& ((rounds c (shaW b) s t).at_ 6)))) % 4294967296) + (c.at_ t)) % 4294967296 : Nat) : Int)) (.int .u32 (((shaW b).at_ t : Nat) : Int)) (.int .u32 (((((((((((rounds c (shaW b) s t).at_ 7) + (((rotr ((rounds c (shaW b) s t).at_ 4) 6) ^^^ (rotr ((rounds c (shaW b) s t).at_ 4) 11)) ^^^ (rotr ((rounds c (shaW b) s t).at_ 4) 25))) % 4294967296) + ((((rounds c (shaW b) s t).at_ 4) &&& ((rounds c (shaW b) s t).at_ 5)) ^^^ ((4294967295 ^^^ ((rounds c (shaW b) s t).at_ 4)) &&& ((rounds c (shaW b) s t).at_ 6)))) % 4294967296) + (c.at_ t)) % 4294967296) + ((shaW b).at_ t)) % 4294967296 : Nat) : Int))]) ha [(0, .val (.pointer (some ⟨bv, 7, none⟩))), (1, .val (.int .u32 (((rounds c (shaW b) s t).at_ 7 : Nat) : Int))), (2, .val (.pointer (some ⟨bv, 4, none⟩))), (3, .val (.int .u32 (((rounds c (shaW b) s t).at_ 4 : Nat) : Int))), (4, .val (.int .u32 ((rotr ((rounds c (shaW b) s t).at_ 4) 6 : Nat) : Int))), (5, .val (.pointer (some ⟨bv, 4, none⟩))), (6, .val (.int .u32 (((rounds c (shaW b) s t).at_ 4 : Nat) : Int))), (7, .val (.int .u32 ((rotr ((rounds c (shaW b) s t).at_ 4) 11 : Nat) : Int))), (8, .val (.int .u32 (((rotr ((rounds c (shaW b) s t).at_ 4) 6) ^^^ (rotr ((rounds c (shaW b) s t).at_ 4) 11) : Nat) : Int))), (9, .val (.pointer (some ⟨bv, 4, none⟩))), (10, .val (.int .u32 (((rounds c (shaW b) s t).at_ 4 : Nat) : Int))), (11, .val (.int .u32 ((rotr ((rounds c (shaW b) s t).at_ 4) 25 : Nat) : Int))), (12, .val (.int .u32 ((((rotr ((rounds c (shaW b) s t).at_ 4) 6) ^^^ (rotr ((rounds c (shaW b) s t).at_ 4) 11)) ^^^ (rotr ((rounds c (shaW b) s t).at_ 4) 25) : Nat) : Int))), (13, .val (.int .u32 (((((rounds c (shaW b) s t).at_ 7) + (((rotr ((rounds c (shaW b) s t).at_ 4) 6) ^^^ (rotr ((rounds c (shaW b) s t).at_ 4) 11)) ^^^ (rotr ((rounds c (shaW b) s t).at_ 4) 25))) % 4294967296 : Nat) : Int))), (14, .val (.pointer (some ⟨bv, 4, none⟩))), (15, .val (.int .u32 (((rounds c (shaW b) s t).at_ 4 : Nat) : Int))), (16, .val (.pointer (some ⟨bv, 5, none⟩))), (17, .val (.int .u32 (((rounds c (shaW b) s t).at_ 5 : Nat) : Int))), (18, .val (.int .u32 ((((rounds c (shaW b) s t).at_ 4) &&& ((rounds c (shaW b) s t).at_ 5) : Nat) : Int))), (19, .val (.pointer (some ⟨bv, 4, none⟩))), (20, .val (.int .u32 (((rounds c (shaW b) s t).at_ 4 : Nat) : Int))), (22, .val (.pointer (some ⟨bv, 6, none⟩))), (23, .val (.int .u32 (((rounds c (shaW b) s t).at_ 6 : Nat) : Int))), (24, .val (.int .u32 (((4294967295 ^^^ ((rounds c (shaW b) s t).at_ 4)) &&& ((rounds c (shaW b) s t).at_ 6) : Nat) : Int))), (25, .val (.int .u32 (((((rounds c (shaW b) s t).at_ 4) &&& ((rounds c (shaW b) s t).at_ 5)) ^^^ ((4294967295 ^^^ ((rounds c (shaW b) s t).at_ 4)) &&& ((rounds c (shaW b) s t).at_ 6)) : Nat) : Int))), (26, .val (.int .u32 (((((((rounds c (shaW b) s t).at_ 7) + (((rotr ((rounds c (shaW b) s t).at_ 4) 6) ^^^ (rotr ((rounds c (shaW b) s t).at_ 4) 11)) ^^^ (rotr ((rounds c (shaW b) s t).at_ 4) 25))) % 4294967296) + ((((rounds c (shaW b) s t).at_ 4) &&& ((rounds c (shaW b) s t).at_ 5)) ^^^ ((4294967295 ^^^ ((rounds c (shaW b) s t).at_ 4)) &&& ((rounds c (shaW b) s t).at_ 6)))) % 4294967296 : Nat) : Int))), (28, .val (.pointer (some ⟨bc, t, none⟩))), (29, .val (.int .u32 ((c.at_ t : Nat) : Int))), (30, .val (.int .u32 (((((((((rounds c (shaW b) s t).at_ 7) + (((rotr ((rounds c (shaW b) s t).at_ 4) 6) ^^^ (rotr ((rounds c (shaW b) s t).at_ 4) 11)) ^^^ (rotr ((rounds c (shaW b) s t).at_ 4) 25))) % 4294967296) + ((((rounds c (shaW b) s t).at_ 4) &&& ((rounds c (shaW b) s t).at_ 5)) ^^^ ((4294967295 ^^^ ((rounds c (shaW b) s t).at_ 4)) &&& ((rounds c (shaW b) s t).at_ 6)))) % 4294967296) + (c.at_ t)) % 4294967296 : Nat) : Int))), (32, .val (.pointer (some ⟨bw, t, none⟩))), (33, .val (.int .u32 (((shaW b).at_ t : Nat) : Int))), (34, .val (.int .u32 (((((((((((rounds c (shaW b) s t).at_ 7) + (((rotr ((rounds c (shaW b) s t).at_ 4) 6) ^^^ (rotr ((rounds c (shaW b) s t).at_ 4) 11)) ^^^ (rotr ((rounds c (shaW b) s t).at_ 4) 25))) % 4294967296) + ((((rounds c (shaW b) s t).at_ 4) &&& ((rounds c (shaW b) s t).at_ 5)) ^^^ ((4294967295 ^^^ ((rounds c (shaW b) s t).at_ 4)) &&& ((rounds c (shaW b) s t).at_ 6)))) % 4294967296) + (c.at_ t)) % 4294967296) + ((shaW b).at_ t)) % 4294967296 : Nat) : Int)))] (by kernel_rfl) (.cons (ixA (n := 8) (i := 7) (by kernel_rfl) (by omega)) (.cons (ld1 hB_bv (by kernel_rfl) (wc_at (i := 7) (by omega))) (.cons (ixA (n := 8) (i := 4) (by kernel_rfl) (by omega)) (.cons (ld1 hB_bv (by kernel_rfl) (wc_at (i := 4) (by omega))) (.cons (fun w _ => turn_ok _ 6 w (by first | ((repeat' (first | exact Wn.at_lt _ _ | exact rotr_lt _ _ | apply xor32 | apply and32 | exact mod32 _ | apply div32 | assumption | omega)); done) | omega) (by omega)) (.cons (ixA (n := 8) (i := 4) (by kernel_rfl) (by omega)) (.cons (ld1 hB_bv (by kernel_rfl) (wc_at (i := 4) (by omega))) (.cons (fun w _ => turn_ok _ 11 w (by first | ((repeat' (first | exact Wn.at_lt _ _ | exact rotr_lt _ _ | apply xor32 | apply and32 | exact mod32 _ | apply div32 | assumption | omega)); done) | omega) (by omega)) (.cons (xorW_u32 (a := (rotr ((rounds c (shaW b) s t).at_ 4) 6)) (n := (rotr ((rounds c (shaW b) s t).at_ 4) 11)) (by first | ((repeat' (first | exact Wn.at_lt _ _ | exact rotr_lt _ _ | apply xor32 | apply and32 | exact mod32 _ | apply div32 | assumption | omega)); done) | omega) (by first | ((repeat' (first | exact Wn.at_lt _ _ | exact rotr_lt _ _ | apply xor32 | apply and32 | exact mod32 _ | apply div32 | assumption | omega)); done) | omega)) (.cons (ixA (n := 8) (i := 4) (by kernel_rfl) (by omega)) (.cons (ld1 hB_bv (by kernel_rfl) (wc_at (i := 4) (by omega))) (.cons (fun w _ => turn_ok _ 25 w (by first | ((repeat' (first | exact Wn.at_lt _ _ | exact rotr_lt _ _ | apply xor32 | apply and32 | exact mod32 _ | apply div32 | assumption | omega)); done) | omega) (by omega)) (.cons (xorW_u32 (a := ((rotr ((rounds c (shaW b) s t).at_ 4) 6) ^^^ (rotr ((rounds c (shaW b) s t).at_ 4) 11))) (n := (rotr ((rounds c (shaW b) s t).at_ 4) 25)) (by first | ((repeat' (first | exact Wn.at_lt _ _ | exact rotr_lt _ _ | apply xor32 | apply and32 | exact mod32 _ | apply div32 | assumption | omega)); done) | omega) (by first | ((repeat' (first | exact Wn.at_lt _ _ | exact rotr_lt _ _ | apply xor32 | apply and32 | exact mod32 _ | apply div32 | assumption | omega)); done) | omega)) (.cons (addW_u32 (a := ((rounds c (shaW b) s t).at_ 7)) (n := (((rotr ((rounds c (shaW b) s t).at_ 4) 6) ^^^ (rotr ((rounds c (shaW b) s t).at_ 4) 11)) ^^^ (rotr ((rounds c (shaW b) s t).at_ 4) 25)))) (.cons (ixA (n := 8) (i := 4) (by kernel_rfl) (by omega)) (.cons (ld1 hB_bv (by kernel_rfl) (wc_at (i := 4) (by omega))) (.cons (ixA (n := 8) (i := 5) (by kernel_rfl) (by omega)) (.cons (ld1 hB_bv (by kernel_rfl) (wc_at (i := 5) (by omega))) (.cons (andW_u32 (a := ((rounds c (shaW b) s t).at_ 4)) (n := ((rounds c (shaW b) s t).at_ 5)) (by first | ((repeat' (first | exact Wn.at_lt _ _ | exact rotr_lt _ _ | apply xor32 | apply and32 | exact mod32 _ | apply div32 | assumption | omega)); done) | omega) (by first | ((repeat' (first | exact Wn.at_lt _ _ | exact rotr_lt _ _ | apply xor32 | apply and32 | exact mod32 _ | apply div32 | assumption | omega)); done) | omega)) (.cons (ixA (n := 8) (i := 4) (by kernel_rfl) (by omega)) (.cons (ld1 hB_bv (by kernel_rfl) (wc_at (i := 4) (by omega))) (.cons (by first | (refine nn32 ?_; (repeat' (first | exact Wn.at_lt _ _ | exact rotr_lt _ _ | apply xor32 | apply and32 | exact mod32 _ | apply div32 | assumption | omega)); done) | (unfold NN InR; omega)) (.cons (ixA (n := 8) (i := 6) (by kernel_rfl) (by omega)) (.cons (ld1 hB_bv (by kernel_rfl) (wc_at (i := 6) (by omega))) (.cons (andW_u32 (a := (4294967295 ^^^ ((rounds c (shaW b) s t).at_ 4))) (n := ((rounds c (shaW b) s t).at_ 6)) (by first | ((repeat' (first | exact Wn.at_lt _ _ | exact rotr_lt _ _ | apply xor32 | apply and32 | exact mod32 _ | apply div32 | assumption | omega)); done) | omega) (by first | ((repeat' (first | exact Wn.at_lt _ _ | exact rotr_lt _ _ | apply xor32 | apply and32 | exact mod32 _ | apply div32 | assumption | omega)); done) | omega)) (.cons (xorW_u32 (a := (((rounds c (shaW b) s t).at_ 4) &&& ((rounds c (shaW b) s t).at_ 5))) (n := ((4294967295 ^^^ ((rounds c (shaW b) s t).at_ 4)) &&& ((rounds c (shaW b) s t).at_ 6))) (by first | ((repeat' (first | exact Wn.at_lt _ _ | exact rotr_lt _ _ | apply xor32 | apply and32 | exact mod32 _ | apply div32 | assumption | omega)); done) | omega) (by first | ((repeat' (first | exact Wn.at_lt _ _ | exact rotr_lt _ _ | apply xor32 | apply and32 | exact mod32 _ | apply div32 | assumption | omega)); done) | omega)) (.cons (addW_u32 (a := ((((rounds c (shaW b) s t).at_ 7) + (((rotr ((rounds c (shaW b) s t).at_ 4) 6) ^^^ (rotr ((rounds c (shaW b) s t).at_ 4) 11)) ^^^ (rotr ((rounds c (shaW b) s t).at_ 4) 25))) % 4294967296)) (n := ((((rounds c (shaW b) s t).at_ 4) &&& ((rounds c (shaW b) s t).at_ 5)) ^^^ ((4294967295 ^^^ ((rounds c (shaW b) s t).at_ 4)) &&& ((rounds c (shaW b) s t).at_ 6))))) (.cons (ixA (n := 64) (i := t) (by kernel_rfl) (by omega)) (.cons (ld1 hB_bc (by kernel_rfl) (wc_at (i := t) (by omega))) (.cons (addW_u32 (a := ((((((rounds c (shaW b) s t).at_ 7) + (((rotr ((rounds c (shaW b) s t).at_ 4) 6) ^^^ (rotr ((rounds c (shaW b) s t).at_ 4) 11)) ^^^ (rotr ((rounds c (shaW b) s t).at_ 4) 25))) % 4294967296) + ((((rounds c (shaW b) s t).at_ 4) &&& ((rounds c (shaW b) s t).at_ 5)) ^^^ ((4294967295 ^^^ ((rounds c (shaW b) s t).at_ 4)) &&& ((rounds c (shaW b) s t).at_ 6)))) % 4294967296)) (n := (c.at_ t))) (.cons (ixA (n := 64) (i := t) (by kernel_rfl) (by omega)) (.cons (ld1 hB_bw (by kernel_rfl) (wc_at (i := t) (by omega))) (.cons (addW_u32 (a := ((((((((rounds c (shaW b) s t).at_ 7) + (((rotr ((rounds c (shaW b) s t).at_ 4) 6) ^^^ (rotr ((rounds c (shaW b) s t).at_ 4) 11)) ^^^ (rotr ((rounds c (shaW b) s t).at_ 4) 25))) % 4294967296) + ((((rounds c (shaW b) s t).at_ 4) &&& ((rounds c (shaW b) s t).at_ 5)) ^^^ ((4294967295 ^^^ ((rounds c (shaW b) s t).at_ 4)) &&& ((rounds c (shaW b) s t).at_ 6)))) % 4294967296) + (c.at_ t)) % 4294967296)) (n := ((shaW b).at_ t))) .nil))))))))))))))))))))))))))))))))) ?_
        clear ha a; intro a w18 ha he
        replace hx := hx.tr he
        replace hB_bs := keepB he hB_bs
        replace hB_bc := keepB he hB_bc
        replace hB_bo := keepB he hB_bo
        replace hB_bw := keepB he hB_bw
        replace hB_bv := keepB he hB_bv
        clear he
        rw [show ((((((((((((rounds c (shaW b) s t).at_ 7) + (((rotr ((rounds c (shaW b) s t).at_ 4) 6) ^^^ (rotr ((rounds c (shaW b) s t).at_ 4) 11)) ^^^ (rotr ((rounds c (shaW b) s t).at_ 4) 25))) % 4294967296) + ((((rounds c (shaW b) s t).at_ 4) &&& ((rounds c (shaW b) s t).at_ 5)) ^^^ ((4294967295 ^^^ ((rounds c (shaW b) s t).at_ 4)) &&& ((rounds c (shaW b) s t).at_ 6)))) % 4294967296) + (c.at_ t)) % 4294967296) + ((shaW b).at_ t)) % 4294967296 : Nat) : Int) : Int) = ((rX (rounds c (shaW b) s t) (c.at_ t) ((shaW b).at_ t) : Nat) : Int) from congrArg (fun q : Nat => (q : Int)) (rX_eq _ _ _)] at ha
        refine tn ?_
        refine wseq ?_
        refine reg hmix (ρ' := [(3, .pointer (some ⟨bs, 0, none⟩)), (5, .pointer (some ⟨bc, 0, none⟩)), (6, .pointer (some ⟨bo, 0, none⟩)), (7, .pointer (some ⟨bw, 0, none⟩)), (12, .pointer (some ⟨bv, 0, none⟩)), (13, .int .i64 ((t : Nat) : Int)), (14, .int .u32 ((rX (rounds c (shaW b) s t) (c.at_ t) ((shaW b).at_ t) : Nat) : Int)), (15, .int .u32 ((((((rotr ((rounds c (shaW b) s t).at_ 0) 2) ^^^ (rotr ((rounds c (shaW b) s t).at_ 0) 13)) ^^^ (rotr ((rounds c (shaW b) s t).at_ 0) 22)) + (((((rounds c (shaW b) s t).at_ 0) &&& ((rounds c (shaW b) s t).at_ 1)) ^^^ (((rounds c (shaW b) s t).at_ 0) &&& ((rounds c (shaW b) s t).at_ 2))) ^^^ (((rounds c (shaW b) s t).at_ 1) &&& ((rounds c (shaW b) s t).at_ 2)))) % 4294967296 : Nat) : Int))]) (C := [RunOk Tryd.prog w18 (Instr.indexAt 81 (.pointer (some ⟨bv, 0, none⟩)) (.int .i64 0)) (.pointer (some ⟨bv, 0, none⟩)), RunOk Tryd.prog w18 (Instr.loadAt 59 (.pointer (some ⟨bv, 0, none⟩))) (.int .u32 (((rounds c (shaW b) s t).at_ 0 : Nat) : Int)), CallOk Tryd.prog w18 64 #[.int .u32 (((rounds c (shaW b) s t).at_ 0 : Nat) : Int), .int .u64 2] (.int .u32 ((rotr ((rounds c (shaW b) s t).at_ 0) 2 : Nat) : Int)), RunOk Tryd.prog w18 (Instr.indexAt 81 (.pointer (some ⟨bv, 0, none⟩)) (.int .i64 0)) (.pointer (some ⟨bv, 0, none⟩)), RunOk Tryd.prog w18 (Instr.loadAt 59 (.pointer (some ⟨bv, 0, none⟩))) (.int .u32 (((rounds c (shaW b) s t).at_ 0 : Nat) : Int)), CallOk Tryd.prog w18 64 #[.int .u32 (((rounds c (shaW b) s t).at_ 0 : Nat) : Int), .int .u64 13] (.int .u32 ((rotr ((rounds c (shaW b) s t).at_ 0) 13 : Nat) : Int)), BinOk Tryd.prog .xor 59 (.int .u32 ((rotr ((rounds c (shaW b) s t).at_ 0) 2 : Nat) : Int)) (.int .u32 ((rotr ((rounds c (shaW b) s t).at_ 0) 13 : Nat) : Int)) (.int .u32 (((rotr ((rounds c (shaW b) s t).at_ 0) 2) ^^^ (rotr ((rounds c (shaW b) s t).at_ 0) 13) : Nat) : Int)), RunOk Tryd.prog w18 (Instr.indexAt 81 (.pointer (some ⟨bv, 0, none⟩)) (.int .i64 0)) (.pointer (some ⟨bv, 0, none⟩)), RunOk Tryd.prog w18 (Instr.loadAt 59 (.pointer (some ⟨bv, 0, none⟩))) (.int .u32 (((rounds c (shaW b) s t).at_ 0 : Nat) : Int)), CallOk Tryd.prog w18 64 #[.int .u32 (((rounds c (shaW b) s t).at_ 0 : Nat) : Int), .int .u64 22] (.int .u32 ((rotr ((rounds c (shaW b) s t).at_ 0) 22 : Nat) : Int)), BinOk Tryd.prog .xor 59 (.int .u32 (((rotr ((rounds c (shaW b) s t).at_ 0) 2) ^^^ (rotr ((rounds c (shaW b) s t).at_ 0) 13) : Nat) : Int)) (.int .u32 ((rotr ((rounds c (shaW b) s t).at_ 0) 22 : Nat) : Int)) (.int .u32 ((((rotr ((rounds c (shaW b) s t).at_ 0) 2) ^^^ (rotr ((rounds c (shaW b) s t).at_ 0) 13)) ^^^ (rotr ((rounds c (shaW b) s t).at_ 0) 22) : Nat) : Int)), RunOk Tryd.prog w18 (Instr.indexAt 81 (.pointer (some ⟨bv, 0, none⟩)) (.int .i64 0)) (.pointer (some ⟨bv, 0, none⟩)), RunOk Tryd.prog w18 (Instr.loadAt 59 (.pointer (some ⟨bv, 0, none⟩))) (.int .u32 (((rounds c (shaW b) s t).at_ 0 : Nat) : Int)), RunOk Tryd.prog w18 (Instr.indexAt 81 (.pointer (some ⟨bv, 0, none⟩)) (.int .i64 1)) (.pointer (some ⟨bv, 1, none⟩)), RunOk Tryd.prog w18 (Instr.loadAt 59 (.pointer (some ⟨bv, 1, none⟩))) (.int .u32 (((rounds c (shaW b) s t).at_ 1 : Nat) : Int)), BinOk Tryd.prog .and 59 (.int .u32 (((rounds c (shaW b) s t).at_ 0 : Nat) : Int)) (.int .u32 (((rounds c (shaW b) s t).at_ 1 : Nat) : Int)) (.int .u32 ((((rounds c (shaW b) s t).at_ 0) &&& ((rounds c (shaW b) s t).at_ 1) : Nat) : Int)), RunOk Tryd.prog w18 (Instr.indexAt 81 (.pointer (some ⟨bv, 0, none⟩)) (.int .i64 0)) (.pointer (some ⟨bv, 0, none⟩)), RunOk Tryd.prog w18 (Instr.loadAt 59 (.pointer (some ⟨bv, 0, none⟩))) (.int .u32 (((rounds c (shaW b) s t).at_ 0 : Nat) : Int)), RunOk Tryd.prog w18 (Instr.indexAt 81 (.pointer (some ⟨bv, 0, none⟩)) (.int .i64 2)) (.pointer (some ⟨bv, 2, none⟩)), RunOk Tryd.prog w18 (Instr.loadAt 59 (.pointer (some ⟨bv, 2, none⟩))) (.int .u32 (((rounds c (shaW b) s t).at_ 2 : Nat) : Int)), BinOk Tryd.prog .and 59 (.int .u32 (((rounds c (shaW b) s t).at_ 0 : Nat) : Int)) (.int .u32 (((rounds c (shaW b) s t).at_ 2 : Nat) : Int)) (.int .u32 ((((rounds c (shaW b) s t).at_ 0) &&& ((rounds c (shaW b) s t).at_ 2) : Nat) : Int)), BinOk Tryd.prog .xor 59 (.int .u32 ((((rounds c (shaW b) s t).at_ 0) &&& ((rounds c (shaW b) s t).at_ 1) : Nat) : Int)) (.int .u32 ((((rounds c (shaW b) s t).at_ 0) &&& ((rounds c (shaW b) s t).at_ 2) : Nat) : Int)) (.int .u32 (((((rounds c (shaW b) s t).at_ 0) &&& ((rounds c (shaW b) s t).at_ 1)) ^^^ (((rounds c (shaW b) s t).at_ 0) &&& ((rounds c (shaW b) s t).at_ 2)) : Nat) : Int)), RunOk Tryd.prog w18 (Instr.indexAt 81 (.pointer (some ⟨bv, 0, none⟩)) (.int .i64 1)) (.pointer (some ⟨bv, 1, none⟩)), RunOk Tryd.prog w18 (Instr.loadAt 59 (.pointer (some ⟨bv, 1, none⟩))) (.int .u32 (((rounds c (shaW b) s t).at_ 1 : Nat) : Int)), RunOk Tryd.prog w18 (Instr.indexAt 81 (.pointer (some ⟨bv, 0, none⟩)) (.int .i64 2)) (.pointer (some ⟨bv, 2, none⟩)), RunOk Tryd.prog w18 (Instr.loadAt 59 (.pointer (some ⟨bv, 2, none⟩))) (.int .u32 (((rounds c (shaW b) s t).at_ 2 : Nat) : Int)), BinOk Tryd.prog .and 59 (.int .u32 (((rounds c (shaW b) s t).at_ 1 : Nat) : Int)) (.int .u32 (((rounds c (shaW b) s t).at_ 2 : Nat) : Int)) (.int .u32 ((((rounds c (shaW b) s t).at_ 1) &&& ((rounds c (shaW b) s t).at_ 2) : Nat) : Int)), BinOk Tryd.prog .xor 59 (.int .u32 (((((rounds c (shaW b) s t).at_ 0) &&& ((rounds c (shaW b) s t).at_ 1)) ^^^ (((rounds c (shaW b) s t).at_ 0) &&& ((rounds c (shaW b) s t).at_ 2)) : Nat) : Int)) (.int .u32 ((((rounds c (shaW b) s t).at_ 1) &&& ((rounds c (shaW b) s t).at_ 2) : Nat) : Int)) (.int .u32 ((((((rounds c (shaW b) s t).at_ 0) &&& ((rounds c (shaW b) s t).at_ 1)) ^^^ (((rounds c (shaW b) s t).at_ 0) &&& ((rounds c (shaW b) s t).at_ 2))) ^^^ (((rounds c (shaW b) s t).at_ 1) &&& ((rounds c (shaW b) s t).at_ 2)) : Nat) : Int)), BinOk Tryd.prog .add 59 (.int .u32 ((((rotr ((rounds c (shaW b) s t).at_ 0) 2) ^^^ (rotr ((rounds c (shaW b) s t).at_ 0) 13)) ^^^ (rotr ((rounds c (shaW b) s t).at_ 0) 22) : Nat) : Int)) (.int .u32 ((((((rounds c (shaW b) s t).at_ 0) &&& ((rounds c (shaW b) s t).at_ 1)) ^^^ (((rounds c (shaW b) s t).at_ 0) &&& ((rounds c (shaW b) s t).at_ 2))) ^^^ (((rounds c (shaW b) s t).at_ 1) &&& ((rounds c (shaW b) s t).at_ 2)) : Nat) : Int)) (.int .u32 ((((((rotr ((rounds c (shaW b) s t).at_ 0) 2) ^^^ (rotr ((rounds c (shaW b) s t).at_ 0) 13)) ^^^ (rotr ((rounds c (shaW b) s t).at_ 0) 22)) + (((((rounds c (shaW b) s t).at_ 0) &&& ((rounds c (shaW b) s t).at_ 1)) ^^^ (((rounds c (shaW b) s t).at_ 0) &&& ((rounds c (shaW b) s t).at_ 2))) ^^^ (((rounds c (shaW b) s t).at_ 1) &&& ((rounds c (shaW b) s t).at_ 2)))) % 4294967296 : Nat) : Int))]) ha [(0, .val (.pointer (some ⟨bv, 0, none⟩))), (1, .val (.int .u32 (((rounds c (shaW b) s t).at_ 0 : Nat) : Int))), (2, .val (.int .u32 ((rotr ((rounds c (shaW b) s t).at_ 0) 2 : Nat) : Int))), (3, .val (.pointer (some ⟨bv, 0, none⟩))), (4, .val (.int .u32 (((rounds c (shaW b) s t).at_ 0 : Nat) : Int))), (5, .val (.int .u32 ((rotr ((rounds c (shaW b) s t).at_ 0) 13 : Nat) : Int))), (6, .val (.int .u32 (((rotr ((rounds c (shaW b) s t).at_ 0) 2) ^^^ (rotr ((rounds c (shaW b) s t).at_ 0) 13) : Nat) : Int))), (7, .val (.pointer (some ⟨bv, 0, none⟩))), (8, .val (.int .u32 (((rounds c (shaW b) s t).at_ 0 : Nat) : Int))), (9, .val (.int .u32 ((rotr ((rounds c (shaW b) s t).at_ 0) 22 : Nat) : Int))), (10, .val (.int .u32 ((((rotr ((rounds c (shaW b) s t).at_ 0) 2) ^^^ (rotr ((rounds c (shaW b) s t).at_ 0) 13)) ^^^ (rotr ((rounds c (shaW b) s t).at_ 0) 22) : Nat) : Int))), (11, .val (.pointer (some ⟨bv, 0, none⟩))), (12, .val (.int .u32 (((rounds c (shaW b) s t).at_ 0 : Nat) : Int))), (13, .val (.pointer (some ⟨bv, 1, none⟩))), (14, .val (.int .u32 (((rounds c (shaW b) s t).at_ 1 : Nat) : Int))), (15, .val (.int .u32 ((((rounds c (shaW b) s t).at_ 0) &&& ((rounds c (shaW b) s t).at_ 1) : Nat) : Int))), (16, .val (.pointer (some ⟨bv, 0, none⟩))), (17, .val (.int .u32 (((rounds c (shaW b) s t).at_ 0 : Nat) : Int))), (18, .val (.pointer (some ⟨bv, 2, none⟩))), (19, .val (.int .u32 (((rounds c (shaW b) s t).at_ 2 : Nat) : Int))), (20, .val (.int .u32 ((((rounds c (shaW b) s t).at_ 0) &&& ((rounds c (shaW b) s t).at_ 2) : Nat) : Int))), (21, .val (.int .u32 (((((rounds c (shaW b) s t).at_ 0) &&& ((rounds c (shaW b) s t).at_ 1)) ^^^ (((rounds c (shaW b) s t).at_ 0) &&& ((rounds c (shaW b) s t).at_ 2)) : Nat) : Int))), (22, .val (.pointer (some ⟨bv, 1, none⟩))), (23, .val (.int .u32 (((rounds c (shaW b) s t).at_ 1 : Nat) : Int))), (24, .val (.pointer (some ⟨bv, 2, none⟩))), (25, .val (.int .u32 (((rounds c (shaW b) s t).at_ 2 : Nat) : Int))), (26, .val (.int .u32 ((((rounds c (shaW b) s t).at_ 1) &&& ((rounds c (shaW b) s t).at_ 2) : Nat) : Int))), (27, .val (.int .u32 ((((((rounds c (shaW b) s t).at_ 0) &&& ((rounds c (shaW b) s t).at_ 1)) ^^^ (((rounds c (shaW b) s t).at_ 0) &&& ((rounds c (shaW b) s t).at_ 2))) ^^^ (((rounds c (shaW b) s t).at_ 1) &&& ((rounds c (shaW b) s t).at_ 2)) : Nat) : Int))), (28, .val (.int .u32 ((((((rotr ((rounds c (shaW b) s t).at_ 0) 2) ^^^ (rotr ((rounds c (shaW b) s t).at_ 0) 13)) ^^^ (rotr ((rounds c (shaW b) s t).at_ 0) 22)) + (((((rounds c (shaW b) s t).at_ 0) &&& ((rounds c (shaW b) s t).at_ 1)) ^^^ (((rounds c (shaW b) s t).at_ 0) &&& ((rounds c (shaW b) s t).at_ 2))) ^^^ (((rounds c (shaW b) s t).at_ 1) &&& ((rounds c (shaW b) s t).at_ 2)))) % 4294967296 : Nat) : Int)))] (by kernel_rfl) (.cons (ixA (n := 8) (i := 0) (by kernel_rfl) (by omega)) (.cons (ld1 hB_bv (by kernel_rfl) (wc_at (i := 0) (by omega))) (.cons (fun w _ => turn_ok _ 2 w (by first | ((repeat' (first | exact Wn.at_lt _ _ | exact rotr_lt _ _ | apply xor32 | apply and32 | exact mod32 _ | apply div32 | assumption | omega)); done) | omega) (by omega)) (.cons (ixA (n := 8) (i := 0) (by kernel_rfl) (by omega)) (.cons (ld1 hB_bv (by kernel_rfl) (wc_at (i := 0) (by omega))) (.cons (fun w _ => turn_ok _ 13 w (by first | ((repeat' (first | exact Wn.at_lt _ _ | exact rotr_lt _ _ | apply xor32 | apply and32 | exact mod32 _ | apply div32 | assumption | omega)); done) | omega) (by omega)) (.cons (xorW_u32 (a := (rotr ((rounds c (shaW b) s t).at_ 0) 2)) (n := (rotr ((rounds c (shaW b) s t).at_ 0) 13)) (by first | ((repeat' (first | exact Wn.at_lt _ _ | exact rotr_lt _ _ | apply xor32 | apply and32 | exact mod32 _ | apply div32 | assumption | omega)); done) | omega) (by first | ((repeat' (first | exact Wn.at_lt _ _ | exact rotr_lt _ _ | apply xor32 | apply and32 | exact mod32 _ | apply div32 | assumption | omega)); done) | omega)) (.cons (ixA (n := 8) (i := 0) (by kernel_rfl) (by omega)) (.cons (ld1 hB_bv (by kernel_rfl) (wc_at (i := 0) (by omega))) (.cons (fun w _ => turn_ok _ 22 w (by first | ((repeat' (first | exact Wn.at_lt _ _ | exact rotr_lt _ _ | apply xor32 | apply and32 | exact mod32 _ | apply div32 | assumption | omega)); done) | omega) (by omega)) (.cons (xorW_u32 (a := ((rotr ((rounds c (shaW b) s t).at_ 0) 2) ^^^ (rotr ((rounds c (shaW b) s t).at_ 0) 13))) (n := (rotr ((rounds c (shaW b) s t).at_ 0) 22)) (by first | ((repeat' (first | exact Wn.at_lt _ _ | exact rotr_lt _ _ | apply xor32 | apply and32 | exact mod32 _ | apply div32 | assumption | omega)); done) | omega) (by first | ((repeat' (first | exact Wn.at_lt _ _ | exact rotr_lt _ _ | apply xor32 | apply and32 | exact mod32 _ | apply div32 | assumption | omega)); done) | omega)) (.cons (ixA (n := 8) (i := 0) (by kernel_rfl) (by omega)) (.cons (ld1 hB_bv (by kernel_rfl) (wc_at (i := 0) (by omega))) (.cons (ixA (n := 8) (i := 1) (by kernel_rfl) (by omega)) (.cons (ld1 hB_bv (by kernel_rfl) (wc_at (i := 1) (by omega))) (.cons (andW_u32 (a := ((rounds c (shaW b) s t).at_ 0)) (n := ((rounds c (shaW b) s t).at_ 1)) (by first | ((repeat' (first | exact Wn.at_lt _ _ | exact rotr_lt _ _ | apply xor32 | apply and32 | exact mod32 _ | apply div32 | assumption | omega)); done) | omega) (by first | ((repeat' (first | exact Wn.at_lt _ _ | exact rotr_lt _ _ | apply xor32 | apply and32 | exact mod32 _ | apply div32 | assumption | omega)); done) | omega)) (.cons (ixA (n := 8) (i := 0) (by kernel_rfl) (by omega)) (.cons (ld1 hB_bv (by kernel_rfl) (wc_at (i := 0) (by omega))) (.cons (ixA (n := 8) (i := 2) (by kernel_rfl) (by omega)) (.cons (ld1 hB_bv (by kernel_rfl) (wc_at (i := 2) (by omega))) (.cons (andW_u32 (a := ((rounds c (shaW b) s t).at_ 0)) (n := ((rounds c (shaW b) s t).at_ 2)) (by first | ((repeat' (first | exact Wn.at_lt _ _ | exact rotr_lt _ _ | apply xor32 | apply and32 | exact mod32 _ | apply div32 | assumption | omega)); done) | omega) (by first | ((repeat' (first | exact Wn.at_lt _ _ | exact rotr_lt _ _ | apply xor32 | apply and32 | exact mod32 _ | apply div32 | assumption | omega)); done) | omega)) (.cons (xorW_u32 (a := (((rounds c (shaW b) s t).at_ 0) &&& ((rounds c (shaW b) s t).at_ 1))) (n := (((rounds c (shaW b) s t).at_ 0) &&& ((rounds c (shaW b) s t).at_ 2))) (by first | ((repeat' (first | exact Wn.at_lt _ _ | exact rotr_lt _ _ | apply xor32 | apply and32 | exact mod32 _ | apply div32 | assumption | omega)); done) | omega) (by first | ((repeat' (first | exact Wn.at_lt _ _ | exact rotr_lt _ _ | apply xor32 | apply and32 | exact mod32 _ | apply div32 | assumption | omega)); done) | omega)) (.cons (ixA (n := 8) (i := 1) (by kernel_rfl) (by omega)) (.cons (ld1 hB_bv (by kernel_rfl) (wc_at (i := 1) (by omega))) (.cons (ixA (n := 8) (i := 2) (by kernel_rfl) (by omega)) (.cons (ld1 hB_bv (by kernel_rfl) (wc_at (i := 2) (by omega))) (.cons (andW_u32 (a := ((rounds c (shaW b) s t).at_ 1)) (n := ((rounds c (shaW b) s t).at_ 2)) (by first | ((repeat' (first | exact Wn.at_lt _ _ | exact rotr_lt _ _ | apply xor32 | apply and32 | exact mod32 _ | apply div32 | assumption | omega)); done) | omega) (by first | ((repeat' (first | exact Wn.at_lt _ _ | exact rotr_lt _ _ | apply xor32 | apply and32 | exact mod32 _ | apply div32 | assumption | omega)); done) | omega)) (.cons (xorW_u32 (a := ((((rounds c (shaW b) s t).at_ 0) &&& ((rounds c (shaW b) s t).at_ 1)) ^^^ (((rounds c (shaW b) s t).at_ 0) &&& ((rounds c (shaW b) s t).at_ 2)))) (n := (((rounds c (shaW b) s t).at_ 1) &&& ((rounds c (shaW b) s t).at_ 2))) (by first | ((repeat' (first | exact Wn.at_lt _ _ | exact rotr_lt _ _ | apply xor32 | apply and32 | exact mod32 _ | apply div32 | assumption | omega)); done) | omega) (by first | ((repeat' (first | exact Wn.at_lt _ _ | exact rotr_lt _ _ | apply xor32 | apply and32 | exact mod32 _ | apply div32 | assumption | omega)); done) | omega)) (.cons (addW_u32 (a := (((rotr ((rounds c (shaW b) s t).at_ 0) 2) ^^^ (rotr ((rounds c (shaW b) s t).at_ 0) 13)) ^^^ (rotr ((rounds c (shaW b) s t).at_ 0) 22))) (n := (((((rounds c (shaW b) s t).at_ 0) &&& ((rounds c (shaW b) s t).at_ 1)) ^^^ (((rounds c (shaW b) s t).at_ 0) &&& ((rounds c (shaW b) s t).at_ 2))) ^^^ (((rounds c (shaW b) s t).at_ 1) &&& ((rounds c (shaW b) s t).at_ 2))))) .nil))))))))))))))))))))))))))))) ?_
        clear ha a; intro a w19 ha he
        replace hx := hx.tr he
        replace hB_bs := keepB he hB_bs
        replace hB_bc := keepB he hB_bc
        replace hB_bo := keepB he hB_bo
        replace hB_bw := keepB he hB_bw
        replace hB_bv := keepB he hB_bv
        clear he
        rw [show (((((((rotr ((rounds c (shaW b) s t).at_ 0) 2) ^^^ (rotr ((rounds c (shaW b) s t).at_ 0) 13)) ^^^ (rotr ((rounds c (shaW b) s t).at_ 0) 22)) + (((((rounds c (shaW b) s t).at_ 0) &&& ((rounds c (shaW b) s t).at_ 1)) ^^^ (((rounds c (shaW b) s t).at_ 0) &&& ((rounds c (shaW b) s t).at_ 2))) ^^^ (((rounds c (shaW b) s t).at_ 1) &&& ((rounds c (shaW b) s t).at_ 2)))) % 4294967296 : Nat) : Int) : Int) = ((rY (rounds c (shaW b) s t) : Nat) : Int) from congrArg (fun q : Nat => (q : Int)) (rY_eq _)] at ha
        refine tn ?_
        refine reg_list ?_
        refine segp (ρ' := [(3, .pointer (some ⟨bs, 0, none⟩)), (5, .pointer (some ⟨bc, 0, none⟩)), (6, .pointer (some ⟨bo, 0, none⟩)), (7, .pointer (some ⟨bw, 0, none⟩)), (12, .pointer (some ⟨bv, 0, none⟩)), (13, .int .i64 ((t : Nat) : Int)), (194, .agg #[.int .u32 ((((rX (rounds c (shaW b) s t) (c.at_ t) ((shaW b).at_ t)) + (rY (rounds c (shaW b) s t))) % 4294967296 : Nat) : Int), .int .u32 (((rounds c (shaW b) s t).at_ 0 : Nat) : Int), .int .u32 (((rounds c (shaW b) s t).at_ 1 : Nat) : Int), .int .u32 (((rounds c (shaW b) s t).at_ 2 : Nat) : Int), .int .u32 (((((rounds c (shaW b) s t).at_ 3) + (rX (rounds c (shaW b) s t) (c.at_ t) ((shaW b).at_ t))) % 4294967296 : Nat) : Int), .int .u32 (((rounds c (shaW b) s t).at_ 4 : Nat) : Int), .int .u32 (((rounds c (shaW b) s t).at_ 5 : Nat) : Int), .int .u32 (((rounds c (shaW b) s t).at_ 6 : Nat) : Int)])]) (C := [BinOk Tryd.prog .add 59 (.int .u32 ((rX (rounds c (shaW b) s t) (c.at_ t) ((shaW b).at_ t) : Nat) : Int)) (.int .u32 ((rY (rounds c (shaW b) s t) : Nat) : Int)) (.int .u32 ((((rX (rounds c (shaW b) s t) (c.at_ t) ((shaW b).at_ t)) + (rY (rounds c (shaW b) s t))) % 4294967296 : Nat) : Int)), RunOk Tryd.prog w19 (Instr.indexAt 81 (.pointer (some ⟨bv, 0, none⟩)) (.int .i64 0)) (.pointer (some ⟨bv, 0, none⟩)), RunOk Tryd.prog w19 (Instr.loadAt 59 (.pointer (some ⟨bv, 0, none⟩))) (.int .u32 (((rounds c (shaW b) s t).at_ 0 : Nat) : Int)), RunOk Tryd.prog w19 (Instr.indexAt 81 (.pointer (some ⟨bv, 0, none⟩)) (.int .i64 1)) (.pointer (some ⟨bv, 1, none⟩)), RunOk Tryd.prog w19 (Instr.loadAt 59 (.pointer (some ⟨bv, 1, none⟩))) (.int .u32 (((rounds c (shaW b) s t).at_ 1 : Nat) : Int)), RunOk Tryd.prog w19 (Instr.indexAt 81 (.pointer (some ⟨bv, 0, none⟩)) (.int .i64 2)) (.pointer (some ⟨bv, 2, none⟩)), RunOk Tryd.prog w19 (Instr.loadAt 59 (.pointer (some ⟨bv, 2, none⟩))) (.int .u32 (((rounds c (shaW b) s t).at_ 2 : Nat) : Int)), RunOk Tryd.prog w19 (Instr.indexAt 81 (.pointer (some ⟨bv, 0, none⟩)) (.int .i64 3)) (.pointer (some ⟨bv, 3, none⟩)), RunOk Tryd.prog w19 (Instr.loadAt 59 (.pointer (some ⟨bv, 3, none⟩))) (.int .u32 (((rounds c (shaW b) s t).at_ 3 : Nat) : Int)), BinOk Tryd.prog .add 59 (.int .u32 (((rounds c (shaW b) s t).at_ 3 : Nat) : Int)) (.int .u32 ((rX (rounds c (shaW b) s t) (c.at_ t) ((shaW b).at_ t) : Nat) : Int)) (.int .u32 (((((rounds c (shaW b) s t).at_ 3) + (rX (rounds c (shaW b) s t) (c.at_ t) ((shaW b).at_ t))) % 4294967296 : Nat) : Int)), RunOk Tryd.prog w19 (Instr.indexAt 81 (.pointer (some ⟨bv, 0, none⟩)) (.int .i64 4)) (.pointer (some ⟨bv, 4, none⟩)), RunOk Tryd.prog w19 (Instr.loadAt 59 (.pointer (some ⟨bv, 4, none⟩))) (.int .u32 (((rounds c (shaW b) s t).at_ 4 : Nat) : Int)), RunOk Tryd.prog w19 (Instr.indexAt 81 (.pointer (some ⟨bv, 0, none⟩)) (.int .i64 5)) (.pointer (some ⟨bv, 5, none⟩)), RunOk Tryd.prog w19 (Instr.loadAt 59 (.pointer (some ⟨bv, 5, none⟩))) (.int .u32 (((rounds c (shaW b) s t).at_ 5 : Nat) : Int)), RunOk Tryd.prog w19 (Instr.indexAt 81 (.pointer (some ⟨bv, 0, none⟩)) (.int .i64 6)) (.pointer (some ⟨bv, 6, none⟩)), RunOk Tryd.prog w19 (Instr.loadAt 59 (.pointer (some ⟨bv, 6, none⟩))) (.int .u32 (((rounds c (shaW b) s t).at_ 6 : Nat) : Int))]) ha 20 [(2, .val (.int .u32 ((((rX (rounds c (shaW b) s t) (c.at_ t) ((shaW b).at_ t)) + (rY (rounds c (shaW b) s t))) % 4294967296 : Nat) : Int))), (3, .val (.pointer (some ⟨bv, 0, none⟩))), (4, .val (.int .u32 (((rounds c (shaW b) s t).at_ 0 : Nat) : Int))), (5, .val (.pointer (some ⟨bv, 1, none⟩))), (6, .val (.int .u32 (((rounds c (shaW b) s t).at_ 1 : Nat) : Int))), (7, .val (.pointer (some ⟨bv, 2, none⟩))), (8, .val (.int .u32 (((rounds c (shaW b) s t).at_ 2 : Nat) : Int))), (9, .val (.pointer (some ⟨bv, 3, none⟩))), (10, .val (.int .u32 (((rounds c (shaW b) s t).at_ 3 : Nat) : Int))), (12, .val (.int .u32 (((((rounds c (shaW b) s t).at_ 3) + (rX (rounds c (shaW b) s t) (c.at_ t) ((shaW b).at_ t))) % 4294967296 : Nat) : Int))), (13, .val (.pointer (some ⟨bv, 4, none⟩))), (14, .val (.int .u32 (((rounds c (shaW b) s t).at_ 4 : Nat) : Int))), (15, .val (.pointer (some ⟨bv, 5, none⟩))), (16, .val (.int .u32 (((rounds c (shaW b) s t).at_ 5 : Nat) : Int))), (17, .val (.pointer (some ⟨bv, 6, none⟩))), (18, .val (.int .u32 (((rounds c (shaW b) s t).at_ 6 : Nat) : Int)))] rfl (by kernel_rfl) (.cons (addW_u32 (a := (rX (rounds c (shaW b) s t) (c.at_ t) ((shaW b).at_ t))) (n := (rY (rounds c (shaW b) s t)))) (.cons (ixA (n := 8) (i := 0) (by kernel_rfl) (by omega)) (.cons (ld1 hB_bv (by kernel_rfl) (wc_at (i := 0) (by omega))) (.cons (ixA (n := 8) (i := 1) (by kernel_rfl) (by omega)) (.cons (ld1 hB_bv (by kernel_rfl) (wc_at (i := 1) (by omega))) (.cons (ixA (n := 8) (i := 2) (by kernel_rfl) (by omega)) (.cons (ld1 hB_bv (by kernel_rfl) (wc_at (i := 2) (by omega))) (.cons (ixA (n := 8) (i := 3) (by kernel_rfl) (by omega)) (.cons (ld1 hB_bv (by kernel_rfl) (wc_at (i := 3) (by omega))) (.cons (addW_u32 (a := ((rounds c (shaW b) s t).at_ 3)) (n := (rX (rounds c (shaW b) s t) (c.at_ t) ((shaW b).at_ t)))) (.cons (ixA (n := 8) (i := 4) (by kernel_rfl) (by omega)) (.cons (ld1 hB_bv (by kernel_rfl) (wc_at (i := 4) (by omega))) (.cons (ixA (n := 8) (i := 5) (by kernel_rfl) (by omega)) (.cons (ld1 hB_bv (by kernel_rfl) (wc_at (i := 5) (by omega))) (.cons (ixA (n := 8) (i := 6) (by kernel_rfl) (by omega)) (.cons (ld1 hB_bv (by kernel_rfl) (wc_at (i := 6) (by omega))) .nil)))))))))))))))) ?_
        clear ha a; intro a ha
        refine lstoreL (off := 0) (vs := [.int .u32 ((((rX (rounds c (shaW b) s t) (c.at_ t) ((shaW b).at_ t)) + (rY (rounds c (shaW b) s t))) % 4294967296 : Nat) : Int), .int .u32 (((rounds c (shaW b) s t).at_ 0 : Nat) : Int), .int .u32 (((rounds c (shaW b) s t).at_ 1 : Nat) : Int), .int .u32 (((rounds c (shaW b) s t).at_ 2 : Nat) : Int), .int .u32 (((((rounds c (shaW b) s t).at_ 3) + (rX (rounds c (shaW b) s t) (c.at_ t) ((shaW b).at_ t))) % 4294967296 : Nat) : Int), .int .u32 (((rounds c (shaW b) s t).at_ 4 : Nat) : Int), .int .u32 (((rounds c (shaW b) s t).at_ 5 : Nat) : Int), .int .u32 (((rounds c (shaW b) s t).at_ 6 : Nat) : Int)]) (cs' := [.int .u32 ((((rX (rounds c (shaW b) s t) (c.at_ t) ((shaW b).at_ t)) + (rY (rounds c (shaW b) s t))) % 4294967296 : Nat) : Int), .int .u32 (((rounds c (shaW b) s t).at_ 0 : Nat) : Int), .int .u32 (((rounds c (shaW b) s t).at_ 1 : Nat) : Int), .int .u32 (((rounds c (shaW b) s t).at_ 2 : Nat) : Int), .int .u32 (((((rounds c (shaW b) s t).at_ 3) + (rX (rounds c (shaW b) s t) (c.at_ t) ((shaW b).at_ t))) % 4294967296 : Nat) : Int), .int .u32 (((rounds c (shaW b) s t).at_ 4 : Nat) : Int), .int .u32 (((rounds c (shaW b) s t).at_ 5 : Nat) : Int), .int .u32 (((rounds c (shaW b) s t).at_ 6 : Nat) : Int)]) ha rfl rfl (by kernel_rfl) rfl rfl hB_bv (by kernel_rfl) (by kernel_rfl) (by kernel_rfl) (by rw [wc_len _]; simp) (put_all (by rw [wc_len _]; rfl)) ?_
        clear ha a; intro w20 hc a ha
        replace hB_bs := hc.keep hB_bs (by first | assumption | exact Ne.symm (by assumption))
        replace hB_bc := hc.keep hB_bc (by first | assumption | exact Ne.symm (by assumption))
        replace hB_bo := hc.keep hB_bo (by first | assumption | exact Ne.symm (by assumption))
        replace hB_bw := hc.keep hB_bw (by first | assumption | exact Ne.symm (by assumption))
        replace hx := hc.ext hx hb_bv
        replace hB_bv := hc.at_; clear hc
        refine lnil ?_
        replace ha := ha.sub (ρ' := [(3, .pointer (some ⟨bs, 0, none⟩)), (5, .pointer (some ⟨bc, 0, none⟩)), (6, .pointer (some ⟨bo, 0, none⟩)), (7, .pointer (some ⟨bw, 0, none⟩)), (12, .pointer (some ⟨bv, 0, none⟩)), (13, .int .i64 ((t : Nat) : Int))]) (by kernel_rfl)
        rw [rnd_cells] at hB_bv
        refine bn ?_
        refine tn ?_
        refine regp (ρ' := [(3, .pointer (some ⟨bs, 0, none⟩)), (5, .pointer (some ⟨bc, 0, none⟩)), (6, .pointer (some ⟨bo, 0, none⟩)), (7, .pointer (some ⟨bw, 0, none⟩)), (12, .pointer (some ⟨bv, 0, none⟩)), (13, .int .i64 ((t + 1 : Nat) : Int))]) (C := [InR .i64 ((t + 1 : Nat) : Int)]) ha [] (by kernel_rfl) (.cons (by unfold InR; omega) .nil) ?_
        clear ha a; intro a ha
        exact tn ⟨64 - ((t + 1)), by omega, (t + 1), rfl, ha.sub (ρ' := [(3, .pointer (some ⟨bs, 0, none⟩)), (5, .pointer (some ⟨bc, 0, none⟩)), (6, .pointer (some ⟨bo, 0, none⟩)), (7, .pointer (some ⟨bw, 0, none⟩)), (12, .pointer (some ⟨bv, 0, none⟩)), (13, .int .i64 (((t + 1) : Nat) : Int))]) (by kernel_rfl), hx, hB_bs, hB_bc, hB_bo, hB_bw, hB_bv, by omega⟩
      · replace h108 := of_decide_eq_false h108
        obtain rfl : t = 64 := by omega
        refine wexit ?_
        refine (te (te (be ?_)))
        refine tn ?_
        refine wseq ?_
        refine wseq ?_
        refine regp (ρ' := [(3, .pointer (some ⟨bs, 0, none⟩)), (6, .pointer (some ⟨bo, 0, none⟩)), (12, .pointer (some ⟨bv, 0, none⟩)), (16, .int .i64 0)]) (C := []) ha [] (by kernel_rfl) .nil ?_
        clear ha a; intro a ha
        refine tn ?_
        refine wblk ?_
        refine wloop (fun zz a w21 => ∃ (i : Nat), zz = 8 - i ∧ On 209 [(3, .pointer (some ⟨bs, 0, none⟩)), (6, .pointer (some ⟨bo, 0, none⟩)), (12, .pointer (some ⟨bv, 0, none⟩)), (16, .int .i64 ((i : Nat) : Int))] a ∧ Ext w w21 ∧ w21.heap[bs]? = some (.cells ⟨wc s⟩ 81 (0, 0)) ∧ w21.heap[bc]? = some (.cells ⟨wc c⟩ 82 (0, 0)) ∧ w21.heap[bo]? = some (.cells ⟨wc (wz 8)⟩ 81 (0, 0)) ∧ w21.heap[bw]? = some (.cells ⟨wc (shaW b)⟩ 82 (0, 0)) ∧ w21.heap[bv]? = some (.cells ⟨wc (addTo (rounds c (shaW b) s 64) s i)⟩ 81 (0, 0)) ∧ (i ≤ 8)) _ ⟨0, rfl, ha.sub (ρ' := [(3, .pointer (some ⟨bs, 0, none⟩)), (6, .pointer (some ⟨bo, 0, none⟩)), (12, .pointer (some ⟨bv, 0, none⟩)), (16, .int .i64 ((0 : Nat) : Int))]) (by kernel_rfl), hx, hB_bs, hB_bc, hB_bo, hB_bw, hB_bv, by omega⟩ ?_
        clear ha hx hB_bs hB_bc hB_bo hB_bw hB_bv
        rintro zz a w22 ⟨i, hzz, ha, hx, hB_bs, hB_bc, hB_bo, hB_bw, hB_bv, hi⟩
        refine wseq ?_
        refine wseq ?_
        refine regp (ρ' := [(3, .pointer (some ⟨bs, 0, none⟩)), (6, .pointer (some ⟨bo, 0, none⟩)), (12, .pointer (some ⟨bv, 0, none⟩)), (16, .int .i64 ((i : Nat) : Int)), (196, .bool (decide (((i : Nat) : Int) < 8)))]) (C := []) ha [] (by kernel_rfl) .nil ?_
        clear ha a; intro a ha
        refine tn ?_
        refine wif ha rfl (fun h196 => ?_) (fun h196 => ?_)
        · replace h196 := of_decide_eq_true h196
          refine wskip ?_
          refine tn ?_
          refine wseq ?_
          refine wblk ?_
          refine regM hmix ha [(2, .val (.pointer (some ⟨bv, i, none⟩))), (3, .val (.int .u32 (((addTo (rounds c (shaW b) s 64) s i).at_ i : Nat) : Int))), (5, .val (.pointer (some ⟨bs, i, none⟩))), (6, .val (.int .u32 ((s.at_ i : Nat) : Int))), (7, .val (.int .u32 (((((addTo (rounds c (shaW b) s 64) s i).at_ i) + (s.at_ i)) % 4294967296 : Nat) : Int))), (8, .val (.pointer (some ⟨bv, i, none⟩)))] [] [⟨9, .des, [], []⟩] [] (ρ' := [(3, .pointer (some ⟨bs, 0, none⟩)), (6, .pointer (some ⟨bo, 0, none⟩)), (12, .pointer (some ⟨bv, 0, none⟩)), (16, .int .i64 ((i : Nat) : Int))]) [] [fun w' => Ext w22 w', fun w' => w22.heap.size ≤ w'.heap.size ∧ Ext w w' ∧ w'.heap[bs]? = some (.cells ⟨wc s⟩ 81 (0, 0)) ∧ w'.heap[bc]? = some (.cells ⟨wc c⟩ 82 (0, 0)) ∧ w'.heap[bo]? = some (.cells ⟨wc (wz 8)⟩ 81 (0, 0)) ∧ w'.heap[bw]? = some (.cells ⟨wc (shaW b)⟩ 82 (0, 0)) ∧ w'.heap[bv]? = some (.cells ⟨wc ((addTo (rounds c (shaW b) s 64) s i).set i ((((addTo (rounds c (shaW b) s 64) s i).at_ i) + (s.at_ i)) % 4294967296))⟩ 81 (0, 0))] [(2, [0], fun w' => [RunOk Tryd.prog w' (Instr.indexAt 81 (.pointer (some ⟨bv, 0, none⟩)) (.int .i64 ((i : Nat) : Int))) (.pointer (some ⟨bv, i, none⟩))]), (3, [0], fun w' => [RunOk Tryd.prog w' (Instr.loadAt 59 (.pointer (some ⟨bv, i, none⟩))) (.int .u32 (((addTo (rounds c (shaW b) s 64) s i).at_ i : Nat) : Int))]), (5, [0], fun w' => [RunOk Tryd.prog w' (Instr.indexAt 81 (.pointer (some ⟨bs, 0, none⟩)) (.int .i64 ((i : Nat) : Int))) (.pointer (some ⟨bs, i, none⟩))]), (6, [0], fun w' => [RunOk Tryd.prog w' (Instr.loadAt 59 (.pointer (some ⟨bs, i, none⟩))) (.int .u32 ((s.at_ i : Nat) : Int))]), (7, [0], fun w' => [BinOk Tryd.prog .add 59 (.int .u32 (((addTo (rounds c (shaW b) s 64) s i).at_ i : Nat) : Int)) (.int .u32 ((s.at_ i : Nat) : Int)) (.int .u32 (((((addTo (rounds c (shaW b) s 64) s i).at_ i) + (s.at_ i)) % 4294967296 : Nat) : Int))]), (8, [0], fun w' => [RunOk Tryd.prog w' (Instr.indexAt 81 (.pointer (some ⟨bv, 0, none⟩)) (.int .i64 ((i : Nat) : Int))) (.pointer (some ⟨bv, i, none⟩))])] (by kernel_rfl) (fun w' => by kernel_rfl) (fun w' => by kernel_rfl) (by kernel_rfl) (fun w' h => h) ?_ ?_ ?_ ?_ ?_ ?_
          · refine ⟨fun w1 w2 h e => Ext.tr h e, ?_, trivial⟩
            · rintro w1 w2 ⟨hsz, hx, hB_bs, hB_bc, hB_bo, hB_bw, hB_bv⟩ he
              exact ⟨Nat.le_trans hsz he.size, hx.tr he, keepB he hB_bs, keepB he hB_bc, keepB he hB_bo, keepB he hB_bw, keepB he hB_bv⟩
          · trivial
          · refine ⟨⟨?_, trivial⟩, ⟨?_, trivial⟩, ⟨?_, trivial⟩, ⟨?_, trivial⟩, ⟨?_, trivial⟩, ⟨?_, trivial⟩, trivial⟩
            · intro w' hJ
              have he : Ext w22 w' := hJ
              have hsz := he.size
              replace hx := hx.tr he
              replace hB_bs := keepB he hB_bs
              replace hB_bc := keepB he hB_bc
              replace hB_bo := keepB he hB_bo
              replace hB_bw := keepB he hB_bw
              replace hB_bv := keepB he hB_bv
              clear he
              exact (.cons (ixA (n := 8) (i := i) (by kernel_rfl) (by omega)) .nil)
            · intro w' hJ
              have he : Ext w22 w' := hJ
              have hsz := he.size
              replace hx := hx.tr he
              replace hB_bs := keepB he hB_bs
              replace hB_bc := keepB he hB_bc
              replace hB_bo := keepB he hB_bo
              replace hB_bw := keepB he hB_bw
              replace hB_bv := keepB he hB_bv
              clear he
              exact (.cons (ld1 hB_bv (by kernel_rfl) (wc_at (i := i) (by omega))) .nil)
            · intro w' hJ
              have he : Ext w22 w' := hJ
              have hsz := he.size
              replace hx := hx.tr he
              replace hB_bs := keepB he hB_bs
              replace hB_bc := keepB he hB_bc
              replace hB_bo := keepB he hB_bo
              replace hB_bw := keepB he hB_bw
              replace hB_bv := keepB he hB_bv
              clear he
              exact (.cons (ixA (n := 8) (i := i) (by kernel_rfl) (by omega)) .nil)
            · intro w' hJ
              have he : Ext w22 w' := hJ
              have hsz := he.size
              replace hx := hx.tr he
              replace hB_bs := keepB he hB_bs
              replace hB_bc := keepB he hB_bc
              replace hB_bo := keepB he hB_bo
              replace hB_bw := keepB he hB_bw
              replace hB_bv := keepB he hB_bv
              clear he
              exact (.cons (ld1 hB_bs (by kernel_rfl) (wc_at (i := i) (by omega))) .nil)
            · intro w' hJ
              have he : Ext w22 w' := hJ
              have hsz := he.size
              replace hx := hx.tr he
              replace hB_bs := keepB he hB_bs
              replace hB_bc := keepB he hB_bc
              replace hB_bo := keepB he hB_bo
              replace hB_bw := keepB he hB_bw
              replace hB_bv := keepB he hB_bv
              clear he
              exact (.cons (addW_u32 (a := ((addTo (rounds c (shaW b) s 64) s i).at_ i)) (n := (s.at_ i))) .nil)
            · intro w' hJ
              have he : Ext w22 w' := hJ
              have hsz := he.size
              replace hx := hx.tr he
              replace hB_bs := keepB he hB_bs
              replace hB_bc := keepB he hB_bc
              replace hB_bo := keepB he hB_bo
              replace hB_bw := keepB he hB_bw
              replace hB_bv := keepB he hB_bv
              clear he
              exact (.cons (ixA (n := 8) (i := i) (by kernel_rfl) (by omega)) .nil)
          · trivial
          · refine ⟨?_, trivial⟩
            · intro w' hJ
              have hB_bsS := hB_bs
              have hB_bcS := hB_bc
              have hB_boS := hB_bo
              have hB_bwS := hB_bw
              have hB_bvS := hB_bv
              have he : Ext w22 w' := hJ
              have hsz := he.size
              replace hx := hx.tr he
              replace hB_bs := keepB he hB_bs
              replace hB_bc := keepB he hB_bc
              replace hB_bo := keepB he hB_bo
              replace hB_bw := keepB he hB_bw
              replace hB_bv := keepB he hB_bv
              clear he
              refine ostoreL (off := i) (vs := [.int .u32 (((((addTo (rounds c (shaW b) s 64) s i).at_ i) + (s.at_ i)) % 4294967296 : Nat) : Int)]) (cs' := wc ((addTo (rounds c (shaW b) s 64) s i).set i ((((addTo (rounds c (shaW b) s 64) s i).at_ i) + (s.at_ i)) % 4294967296))) (t := 59) (x := .tmp 207) (y := .tmp 206) (by kernel_rfl) (by kernel_rfl) hB_bv (by kernel_rfl) (by kernel_rfl) (by kernel_rfl) (by rw [wc_len _]; show i + 1 ≤ 8; omega) (by rw [put_one (by rw [wc_len _]; omega)]; exact wc_set _ _ _ (by omega)) ?_
              intro w'' hc
              exact ⟨trivial, ⟨Nat.le_trans hsz hc.size, hc.ext hx hb_bv, hc.keep hB_bs (by first | assumption | exact Ne.symm (by assumption)), hc.keep hB_bc (by first | assumption | exact Ne.symm (by assumption)), hc.keep hB_bo (by first | assumption | exact Ne.symm (by assumption)), hc.keep hB_bw (by first | assumption | exact Ne.symm (by assumption)), hc.at_⟩, trivial⟩
          · clear ha a; intro a w23 hJ ha
            clear hx hB_bs hB_bc hB_bo hB_bw hB_bv
            obtain ⟨hsz, hx, hB_bs, hB_bc, hB_bo, hB_bw, hB_bv⟩ := hJ
            clear hsz
            refine bn ?_
            refine tn ?_
            refine regp (ρ' := [(3, .pointer (some ⟨bs, 0, none⟩)), (6, .pointer (some ⟨bo, 0, none⟩)), (12, .pointer (some ⟨bv, 0, none⟩)), (16, .int .i64 ((i + 1 : Nat) : Int))]) (C := [InR .i64 ((i + 1 : Nat) : Int)]) ha [] (by kernel_rfl) (.cons (by unfold InR; omega) .nil) ?_
            clear ha a; intro a ha
            exact tn ⟨8 - ((i + 1)), by omega, (i + 1), rfl, ha.sub (ρ' := [(3, .pointer (some ⟨bs, 0, none⟩)), (6, .pointer (some ⟨bo, 0, none⟩)), (12, .pointer (some ⟨bv, 0, none⟩)), (16, .int .i64 (((i + 1) : Nat) : Int))]) (by kernel_rfl), hx, hB_bs, hB_bc, hB_bo, hB_bw, hB_bv, by omega⟩
        · replace h196 := of_decide_eq_false h196
          obtain rfl : i = 8 := by omega
          refine wexit ?_
          refine (te (te (be ?_)))
          refine tn ?_
          refine wseq ?_
          refine reg_list ?_
          refine segp (ρ' := [(6, .pointer (some ⟨bo, 0, none⟩)), (208, .agg ⟨wc (addTo (rounds c (shaW b) s 64) s 8)⟩)]) (C := [RunOk Tryd.prog w22 (Instr.loadAt 81 (.pointer (some ⟨bv, 0, none⟩))) (.agg ⟨wc (addTo (rounds c (shaW b) s 64) s 8)⟩)]) ha 1 [(0, .val (.agg ⟨wc (addTo (rounds c (shaW b) s 64) s 8)⟩))] rfl (by kernel_rfl) (.cons (ldAll (n := 8) hB_bv (by kernel_rfl) (by kernel_rfl) (wc_len _)) .nil) ?_
          clear ha a; intro a ha
          refine lstoreL (off := 0) (vs := wc (addTo (rounds c (shaW b) s 64) s 8)) (cs' := wc (addTo (rounds c (shaW b) s 64) s 8)) ha rfl rfl (by kernel_rfl) rfl rfl hB_bo (by rw [wc_len _]; kernel_rfl) (by kernel_rfl) (wc_one _) (by first | (rw [wc_len _, wc_len _]; omega; done) | simp [wc_len]) (put_all (by first | (rw [wc_len _, wc_len _]; done) | simp [wc_len])) ?_
          clear ha a; intro w24 hc a ha
          replace hB_bs := hc.keep hB_bs (by first | assumption | exact Ne.symm (by assumption))
          replace hB_bc := hc.keep hB_bc (by first | assumption | exact Ne.symm (by assumption))
          replace hB_bw := hc.keep hB_bw (by first | assumption | exact Ne.symm (by assumption))
          replace hB_bv := hc.keep hB_bv (by first | assumption | exact Ne.symm (by assumption))
          replace hx := hc.ext hx hb_bo
          replace hB_bo := hc.at_; clear hc
          refine lnil ?_
          replace ha := ha.sub (ρ' := [(6, .pointer (some ⟨bo, 0, none⟩))]) (by kernel_rfl)
          refine tn ?_
          refine wret ?_
          refine fin ha (.cell rfl (ldVAll (n := 8) hB_bo (by kernel_rfl) (by kernel_rfl) (wc_len _)) .nil) ?_
          exact ⟨rfl, hx⟩
-- UNUSED LABEL wrap
end Go.Kn
end
