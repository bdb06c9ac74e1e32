import Derived.Test.YtihmegmambmljaaDoorPlainM
import Derived.Test.YtihmegmambmljaaDoorVb
import Derived.Test.YtihmegmambmljaaDoorWh
set_option linter.unusedSimpArgs false
set_option linter.unusedVariables false
set_option maxRecDepth 100000
namespace Go.Kn
open Go.Proofs
theorem hex_ok (x : Id) (w : World) :
    Fn Tryd.prog 14 #[.agg ⟨idc x⟩] w (fun v w' => v = .string (S (hexTo x 32)) ∧ Ext w w') := by
  have hx : Ext w w := Ext.rfl' w
  refine enter (N := 22) (args := [.agg ⟨idc x⟩]) Tryd.func14 rfl rfl rfl ?_
  intro a ha
  simp only [argEnv, Nat.zero_add, Nat.reduceAdd] at ha
  refine wseq ?_
  refine reg_list ?_
  refine lnew ha rfl (by kernel_rfl) ⟨idc x⟩ 24 (by kernel_rfl) ?_
  clear ha a; intro bx w1 he hb_bx hB_bx a ha
  replace hb_bx := Nat.le_trans hx.size hb_bx
  replace hx := hx.tr he
  clear he
  refine segp (ρ' := [(1, .pointer (some ⟨bx, 0, none⟩))]) (C := []) ha 1 [] rfl (by kernel_rfl) .nil ?_
  clear ha a; intro a ha
  refine lnil ?_
  replace ha := ha.sub (ρ' := [(1, .pointer (some ⟨bx, 0, none⟩))]) (by kernel_rfl)
  have hd16 : ([48, 49, 50, 51, 52, 53, 54, 55, 56, 57, 97, 98, 99, 100, 101, 102] : List UInt8).length = 16 := rfl
  refine tn ?_
  refine wseq ?_
  refine regp (ρ' := [(1, .pointer (some ⟨bx, 0, none⟩)), (3, .slice none 0 0)]) (C := []) ha [] (by kernel_rfl) .nil ?_
  clear ha a; intro a ha
  refine tn ?_
  refine wseq ?_
  refine wseq ?_
  refine regp (ρ' := [(3, .slice none 0 0), (6, .agg ⟨idc x⟩), (7, .int .i64 0)]) (C := [RunOk Tryd.prog w1 (Instr.loadAt 24 (.pointer (some ⟨bx, 0, none⟩))) (.agg ⟨idc x⟩)]) ha [(0, .val (.agg ⟨idc x⟩))] (by kernel_rfl) (.cons (ldN (n := 32) hB_bx (by kernel_rfl) (by kernel_rfl) ⟨Nat.le_of_ble_eq_true (by kernel_rfl), (by kernel_rfl)⟩) .nil) ?_
  clear ha a; intro a ha
  refine tn ?_
  refine wblk ?_
  refine wloop (fun zz a w2 => ∃ (i : Nat) (A : Option Addr) (c : Nat), zz = 32 - i ∧ On 22 [(3, .slice A ((hexTo x i).length) c), (6, .agg ⟨idc x⟩), (7, .int .i64 ((i : Nat) : Int))] a ∧ Ext w w2 ∧ w2.heap[bx]? = some (.cells ⟨idc x⟩ 24 (0, 0)) ∧ Own w2 w.heap.size 5 1 A ((hexTo x i).length) c (bys (hexTo x i)) ∧ (i ≤ 32)) _ ⟨0, none, 0, rfl, ha.sub (ρ' := [(3, .slice none ((hexTo x 0).length) 0), (6, .agg ⟨idc x⟩), (7, .int .i64 ((0 : Nat) : Int))]) (by kernel_rfl), hx, hB_bx, own_nil _ _ _ _, by omega⟩ ?_
  clear ha hx hB_bx
  rintro zz a w3 ⟨i, A, c, hzz, ha, hx, hB_bx, ho, hi⟩
  refine wseq ?_
  refine regp (ρ' := [(3, .slice A ((hexTo x i).length) c), (6, .agg ⟨idc x⟩), (7, .int .i64 ((i : Nat) : Int)), (8, .bool (decide (((i : Nat) : Int) < 32)))]) (C := []) ha [] (by kernel_rfl) .nil ?_
  clear ha a; intro a ha
  refine tn ?_
  refine wseq ?_
  refine wif ha rfl (fun h8 => ?_) (fun h8 => ?_)
  · replace h8 := of_decide_eq_true h8
    have hcb := Id.at_lt x i
    have hhl := hexTo_len x i hi
    have ha15 : (x.l.getD i 0).toNat &&& 15 < 16 := by rw [and15]; omega
    refine wskip ?_
    refine tn ?_
    refine wseq ?_
    refine wblk ?_
    refine wseq ?_
    refine regp (ρ' := [(3, .slice A ((hexTo x i).length) c), (5, .int .u8 (((x.l.getD i 0).toNat : Nat) : Int)), (6, .agg ⟨idc x⟩), (7, .int .i64 ((i : Nat) : Int))]) (C := [RunOk Tryd.prog w3 (Instr.index 24 (.agg ⟨idc x⟩) (.int .i64 ((i : Nat) : Int))) (.int .u8 (((x.l.getD i 0).toNat : Nat) : Int))]) ha [(0, .val (.int .u8 (((x.l.getD i 0).toNat : Nat) : Int)))] (by kernel_rfl) (.cons (ixV (n := 32) (i := i) (by kernel_rfl) (by kernel_rfl) (by omega) (idc_at (i := i) (by omega))) .nil) ?_
    clear ha a; intro a ha
    refine tn ?_
    refine regM hmix ha [(2, .val (.int .u8 ((((x.l.getD i 0).toNat) / 16 : Nat) : Int)))] [⟨7, .des, [0], []⟩, ⟨9, .des, [1], [(18, 8)]⟩] [⟨8, .des, [7], [(17, 7)]⟩] [(3, 9)] (ρ' := [(6, .agg ⟨idc x⟩), (7, .int .i64 ((i : Nat) : Int))]) [(7, fun u w' => ∃ (b4 : Nat), u = .slice (some ⟨b4, 0, none⟩) 2 2 ∧ w3.heap.size ≤ b4 ∧ w'.heap[b4]? = some (.cells #[.int .u8 (((([48, 49, 50, 51, 52, 53, 54, 55, 56, 57, 97, 98, 99, 100, 101, 102] : List UInt8).getD (((x.l.getD i 0).toNat) / 16) 0).toNat : Nat) : Int), .int .u8 (((([48, 49, 50, 51, 52, 53, 54, 55, 56, 57, 97, 98, 99, 100, 101, 102] : List UInt8).getD (((x.l.getD i 0).toNat) &&& 15) 0).toNat : Nat) : Int)] 5 (0, 0))), (9, fun u w' => ∃ (A5 : Option Addr) (c6 : Nat), u = .slice A5 ((hexTo x (i + 1)).length) c6 ∧ Own w' w.heap.size 5 1 A5 ((hexTo x (i + 1)).length) c6 (bys (hexTo x (i + 1)))), (8, fun u w' => ∃ (A5 : Option Addr) (c6 : Nat), u = .slice A5 ((hexTo x (i + 1)).length) c6 ∧ Own w' w.heap.size 5 1 A5 ((hexTo x (i + 1)).length) c6 (bys (hexTo x (i + 1))))] [fun w' => Ext w3 w', fun w' => w3.heap.size ≤ w'.heap.size ∧ Ext w w' ∧ w'.heap[bx]? = some (.cells ⟨idc x⟩ 24 (0, 0))] [(2, [0], fun w' => [BinOk Tryd.prog .shr 5 (.int .u8 (((x.l.getD i 0).toNat : Nat) : Int)) (.int .u64 4) (.int .u8 ((((x.l.getD i 0).toNat) / 16 : Nat) : Int))]), (3, [0], fun w' => [0 ≤ ((((x.l.getD i 0).toNat) / 16 : Nat) : Int) ∧ ((((x.l.getD i 0).toNat) / 16 : Nat) : Int) < (([48, 49, 50, 51, 52, 53, 54, 55, 56, 57, 97, 98, 99, 100, 101, 102] : List UInt8).length : Int)]), (5, [0], fun w' => [NN .u8 (((x.l.getD i 0).toNat : Nat) : Int), NN .u8 15]), (6, [0], fun w' => [0 ≤ ((((x.l.getD i 0).toNat) &&& 15 : Nat) : Int) ∧ ((((x.l.getD i 0).toNat) &&& 15 : Nat) : Int) < (([48, 49, 50, 51, 52, 53, 54, 55, 56, 57, 97, 98, 99, 100, 101, 102] : List UInt8).length : Int)])] (by kernel_rfl) (fun w' => by kernel_rfl) (fun w' => by kernel_rfl) (by kernel_rfl) (fun w' h => h) ?_ ?_ ?_ ?_ ?_ ?_
    · refine ⟨fun w1 w2 h e => Ext.tr h e, ?_, trivial⟩
      · rintro w1 w2 ⟨hsz, hx, hB_bx⟩ he
        exact ⟨Nat.le_trans hsz he.size, hx.tr he, keepB he hB_bx⟩
    · refine ⟨?_, ?_, ?_, trivial⟩
      · rintro _ w1 w2 ⟨b4, rfl, hb_b4, hB_b4⟩ he
        exact ⟨b4, rfl, hb_b4, keepB he hB_b4⟩
      · rintro _ w1 w2 ⟨A5, c6, rfl, ho2⟩ he
        exact ⟨A5, c6, rfl, ownE he ho2⟩
      · rintro _ w1 w2 ⟨A5, c6, rfl, ho2⟩ he
        exact ⟨A5, c6, rfl, ownE he ho2⟩
    · refine ⟨⟨?_, trivial⟩, ⟨?_, trivial⟩, ⟨?_, trivial⟩, ⟨?_, trivial⟩, trivial⟩
      · intro w' hJ
        have he : Ext w3 w' := hJ
        have hsz := he.size
        replace hx := hx.tr he
        replace hB_bx := keepB he hB_bx
        replace ho := ownE he ho
        clear he
        exact (.cons (shrC (a := ((x.l.getD i 0).toNat)) (n := 4) (p := 16) (by show _ ≤ 8; omega) (by decide)) .nil)
      · intro w' hJ
        have he : Ext w3 w' := hJ
        have hsz := he.size
        replace hx := hx.tr he
        replace hB_bx := keepB he hB_bx
        replace ho := ownE he ho
        clear he
        exact (.cons ⟨by omega, by omega⟩ .nil)
      · intro w' hJ
        have he : Ext w3 w' := hJ
        have hsz := he.size
        replace hx := hx.tr he
        replace hB_bx := keepB he hB_bx
        replace ho := ownE he ho
        clear he
        exact (.cons (by unfold NN InR; omega) (.cons (by unfold NN InR; omega) .nil))
      · intro w' hJ
        have he : Ext w3 w' := hJ
        have hsz := he.size
        replace hx := hx.tr he
        replace hB_bx := keepB he hB_bx
        replace ho := ownE he ho
        clear he
        exact (.cons ⟨by omega, by omega⟩ .nil)
    · refine ⟨⟨?_, trivial⟩, ⟨?_, trivial⟩, trivial⟩
      · intro w' hJ
        have he : Ext w3 w' := hJ
        have hsz := he.size
        replace hx := hx.tr he
        replace hB_bx := keepB he hB_bx
        replace ho := ownE he ho
        clear he
        refine onewS #[.int .u8 (((([48, 49, 50, 51, 52, 53, 54, 55, 56, 57, 97, 98, 99, 100, 101, 102] : List UInt8).getD (((x.l.getD i 0).toNat) / 16) 0).toNat : Nat) : Int), .int .u8 (((([48, 49, 50, 51, 52, 53, 54, 55, 56, 57, 97, 98, 99, 100, 101, 102] : List UInt8).getD (((x.l.getD i 0).toNat) &&& 15) 0).toNat : Nat) : Int)] 5 2 (by kernel_rfl) ?_
        intro b4 w'' he hb_b4 hB_b4
        exact ⟨⟨b4, rfl, Nat.le_trans hsz hb_b4, hB_b4⟩, he⟩
      · intro w' hJ u0 hu0
        obtain ⟨A5, c6, rfl, ho2⟩ := hu0
        obtain ⟨hsz, hx, hB_bx⟩ := hJ
        refine ox (m := none) (v := .slice A5 ((hexTo x (i + 1)).length) c6) (C := []) (by kernel_rfl) .nil ?_
        intro w'' he
        exact ⟨⟨A5, c6, rfl, ownE he ho2⟩, he⟩
    · refine ⟨?_, trivial⟩
      · intro w' hJ u0 hu0
        obtain ⟨b4, rfl, hb_b4, hB_b4⟩ := hu0
        have hB_bxS := hB_bx
        have hoS := ho
        have he : Ext w3 w' := hJ
        have hsz := he.size
        replace hx := hx.tr he
        replace hB_bx := keepB he hB_bx
        replace ho := ownE he ho
        clear he
        refine oapp (m := 2) (c' := 2) (ad := ⟨b4, 0, none⟩) (s := .tmp 10) (x := .tmp 17) (t := 63) (by_ := 1) (by kernel_rfl) (by kernel_rfl) (by kernel_rfl) ho (by kernel_rfl) [.int .u8 (((([48, 49, 50, 51, 52, 53, 54, 55, 56, 57, 97, 98, 99, 100, 101, 102] : List UInt8).getD (((x.l.getD i 0).toNat) / 16) 0).toNat : Nat) : Int), .int .u8 (((([48, 49, 50, 51, 52, 53, 54, 55, 56, 57, 97, 98, 99, 100, 101, 102] : List UInt8).getD (((x.l.getD i 0).toNat) &&& 15) 0).toNat : Nat) : Int)] rfl (news_blk hB_b4) rfl (by omega) (by omega) hx.size ?_
        intro A5 c6 w'' ho2' hg
        have h1 : (bys (hexTo x i) ++ [.int .u8 (((([48, 49, 50, 51, 52, 53, 54, 55, 56, 57, 97, 98, 99, 100, 101, 102] : List UInt8).getD (((x.l.getD i 0).toNat) / 16) 0).toNat : Nat) : Int), .int .u8 (((([48, 49, 50, 51, 52, 53, 54, 55, 56, 57, 97, 98, 99, 100, 101, 102] : List UInt8).getD (((x.l.getD i 0).toNat) &&& 15) 0).toNat : Nat) : Int)] : List Value) = bys (hexTo x (i + 1)) := hex_push x i (by omega)
        have h2 : ((hexTo x i).length + 2 : Nat) = (hexTo x (i + 1)).length := by rw [hexTo_len x i (by omega), hexTo_len x (i + 1) (by omega)]; omega
        rw [h1, h2] at ho2'
        rw [h2]
        exact ⟨⟨A5, c6, rfl, ho2'⟩, ⟨Nat.le_trans hsz hg.size, extG hx hg ho (Nat.le_refl _), keepG hg ho rfl hB_bx⟩, ⟨fun u hu => by obtain ⟨b4, rfl, hb_b4, hB_b4⟩ := hu; exact ⟨b4, rfl, hb_b4, keepGn hg hoS hb_b4 hB_b4⟩, trivial⟩⟩
    · clear ha a; intro a w7 hJ u0 hu0 ha
      obtain ⟨A5, c6, rfl, ho2⟩ := hu0
      clear hx hB_bx ho
      obtain ⟨hsz, hx, hB_bx⟩ := hJ
      clear hsz
      refine bn ?_
      refine tn ?_
      refine regp (ρ' := [(3, .slice A5 ((hexTo x (i + 1)).length) c6), (6, .agg ⟨idc x⟩), (7, .int .i64 ((i + 1 : Nat) : Int))]) (C := [InR .i64 ((i + 1 : Nat) : Int)]) ha [] (by kernel_rfl) (.cons (by unfold InR; omega) .nil) ?_
      clear ha a; intro a ha
      exact tn ⟨32 - ((i + 1)), by omega, (i + 1), A5, c6, rfl, ha.sub (ρ' := [(3, .slice A5 ((hexTo x (i + 1)).length) c6), (6, .agg ⟨idc x⟩), (7, .int .i64 (((i + 1) : Nat) : Int))]) (by kernel_rfl), hx, hB_bx, ho2, by omega⟩
  · replace h8 := of_decide_eq_false h8
    obtain rfl : i = 32 := by omega
    refine wexit ?_
    refine (te (te (be ?_)))
    refine tn ?_
    refine wseq ?_
    refine regp (ρ' := [(2, .string (S (hexTo x 32)))]) (C := [RunOk Tryd.prog w3 (convert 63 9 (.slice A ((hexTo x 32).length) c)) (.string (S (hexTo x 32)))]) ha [(1, .val (.string (S (hexTo x 32))))] (by kernel_rfl) (.cons (cvOwn (by kernel_rfl) (by kernel_rfl) (by kernel_rfl) ho) .nil) ?_
    clear ha a; intro a ha
    refine tn ?_
    refine wret ?_
    refine fin ha (.tmp rfl .nil) ?_
    exact ⟨rfl, hx⟩
-- UNUSED LABEL wrap
theorem less_ok (x y : Id) (w : World) :
    Fn Tryd.prog 16 #[.agg ⟨idc x⟩, .agg ⟨idc y⟩] w (fun v w' => v = .bool (Op.bytesLess x.l y.l) ∧ Ext w w') := by
  have hx : Ext w w := Ext.rfl' w
  refine enter (N := 10) (args := [.agg ⟨idc x⟩, .agg ⟨idc y⟩]) Tryd.func16 rfl rfl rfl ?_
  intro a ha
  simp only [argEnv, Nat.zero_add, Nat.reduceAdd] at ha
  refine wseq ?_
  refine reg_list ?_
  refine lnew ha rfl (by kernel_rfl) ⟨idc x⟩ 24 (by kernel_rfl) ?_
  clear ha a; intro bx w1 he hb_bx hB_bx a ha
  replace hb_bx := Nat.le_trans hx.size hb_bx
  replace hx := hx.tr he
  clear he
  refine lnew ha rfl (by kernel_rfl) ⟨idc y⟩ 24 (by kernel_rfl) ?_
  clear ha a; intro by_ w2 he hb_by_ hB_by_ a ha
  have hne_bx_by_ : bx ≠ by_ := ne_new hB_bx hb_by_
  replace hB_bx := keepB he hB_bx
  replace hb_by_ := Nat.le_trans hx.size hb_by_
  replace hx := hx.tr he
  clear he
  refine segp (ρ' := [(2, .pointer (some ⟨bx, 0, none⟩)), (3, .pointer (some ⟨by_, 0, none⟩))]) (C := []) ha 1 [] rfl (by kernel_rfl) .nil ?_
  clear ha a; intro a ha
  refine lnil ?_
  replace ha := ha.sub (ρ' := [(2, .pointer (some ⟨bx, 0, none⟩)), (3, .pointer (some ⟨by_, 0, none⟩))]) (by kernel_rfl)
  refine tn ?_
  refine wseq ?_
  refine reg hmix (ρ' := [(4, .bool (Op.bytesLess (x.l : List UInt8) (y.l : List UInt8)))]) (C := [RunOk Tryd.prog w2 (convert 63 9 (.slice (some ⟨bx, 0, none⟩) 32 32)) (.string (S x.l)), RunOk Tryd.prog w2 (convert 63 9 (.slice (some ⟨by_, 0, none⟩) 32 32)) (.string (S y.l))]) ha [(0, .raw), (1, .val (.string (S x.l))), (2, .raw), (3, .val (.string (S y.l)))] (by kernel_rfl) (.cons (cvId (e := 5) (x := x) (by kernel_rfl) (by kernel_rfl) (by kernel_rfl) hB_bx (by kernel_rfl)) (.cons (cvId (e := 5) (x := y) (by kernel_rfl) (by kernel_rfl) (by kernel_rfl) hB_by_ (by kernel_rfl)) .nil)) ?_
  clear ha a; intro a w3 ha he
  replace hx := hx.tr he
  replace hB_bx := keepB he hB_bx
  replace hB_by_ := keepB he hB_by_
  clear he
  refine tn ?_
  refine wret ?_
  refine fin ha (.tmp rfl .nil) ?_
  exact ⟨rfl, hx⟩
theorem sum1_ok (t : List UInt8) (b : Nat) (w : World) (ht : t.length ≤ 1000000000) (hB : w.heap[b]? = some (.cells #[.string (S t)] 9 (0, 0))) {T0 : Nat} {f0 : Nat × Nat} (hB_0 : w.heap[0]? = some (.cells ⟨wc shaK⟩ T0 f0)) : FnV Tryd.prog 10 #[.slice (some ⟨b, 0, none⟩) 1 1] w (.agg ⟨idc (shaSum t)⟩) := by
  have h := sum_ok shaK b 0 1 [t] w (rd_block (cs := [.string (S t)]) hB rfl) (by simp) (by simp) (by simp) (by simpa using ht) hB_0
  have e : [t].flatten = t := by simp
  rw [e] at h; exact h
theorem sumO_ok (l : List (List UInt8)) (A : Option Addr) (c B : Nat) (w : World) (h : Own w B 9 1 A l.length c (l.flatMap encS)) (hne : l ≠ []) (hN : l.length ≤ 100000) (hlen : l.flatten.length ≤ 1000000000) {T0 : Nat} {f0 : Nat × Nat} (hB_0 : w.heap[0]? = some (.cells ⟨wc shaK⟩ T0 f0)) : FnV Tryd.prog 10 #[.slice A l.length c] w (.agg ⟨idc (shaSum l.flatten)⟩) := by
  obtain ⟨g, rfl, hc⟩ := own_at0 h (List.length_pos_iff.2 hne)
  exact sum_ok shaK g 0 c l w (own_rd h) hne hc hN hlen hB_0
theorem less0_ok (w : World) : FnV Tryd.prog 16 #[.agg #[.int .u8 1, .int .u8 0, .int .u8 0, .int .u8 0, .int .u8 0, .int .u8 0, .int .u8 0, .int .u8 0, .int .u8 0, .int .u8 0, .int .u8 0, .int .u8 0, .int .u8 0, .int .u8 0, .int .u8 0, .int .u8 0, .int .u8 0, .int .u8 0, .int .u8 0, .int .u8 0, .int .u8 0, .int .u8 0, .int .u8 0, .int .u8 0, .int .u8 0, .int .u8 0, .int .u8 0, .int .u8 0, .int .u8 0, .int .u8 0, .int .u8 0, .int .u8 0], .agg #[.int .u8 2, .int .u8 0, .int .u8 0, .int .u8 0, .int .u8 0, .int .u8 0, .int .u8 0, .int .u8 0, .int .u8 0, .int .u8 0, .int .u8 0, .int .u8 0, .int .u8 0, .int .u8 0, .int .u8 0, .int .u8 0, .int .u8 0, .int .u8 0, .int .u8 0, .int .u8 0, .int .u8 0, .int .u8 0, .int .u8 0, .int .u8 0, .int .u8 0, .int .u8 0, .int .u8 0, .int .u8 0, .int .u8 0, .int .u8 0, .int .u8 0, .int .u8 0]] w (.bool true) := by
  have e1 : (#[.agg #[.int .u8 1, .int .u8 0, .int .u8 0, .int .u8 0, .int .u8 0, .int .u8 0, .int .u8 0, .int .u8 0, .int .u8 0, .int .u8 0, .int .u8 0, .int .u8 0, .int .u8 0, .int .u8 0, .int .u8 0, .int .u8 0, .int .u8 0, .int .u8 0, .int .u8 0, .int .u8 0, .int .u8 0, .int .u8 0, .int .u8 0, .int .u8 0, .int .u8 0, .int .u8 0, .int .u8 0, .int .u8 0, .int .u8 0, .int .u8 0, .int .u8 0, .int .u8 0], .agg #[.int .u8 2, .int .u8 0, .int .u8 0, .int .u8 0, .int .u8 0, .int .u8 0, .int .u8 0, .int .u8 0, .int .u8 0, .int .u8 0, .int .u8 0, .int .u8 0, .int .u8 0, .int .u8 0, .int .u8 0, .int .u8 0, .int .u8 0, .int .u8 0, .int .u8 0, .int .u8 0, .int .u8 0, .int .u8 0, .int .u8 0, .int .u8 0, .int .u8 0, .int .u8 0, .int .u8 0, .int .u8 0, .int .u8 0, .int .u8 0, .int .u8 0, .int .u8 0]] : Array Value) = #[.agg ⟨idc (mkId (1 :: List.replicate 31 0))⟩, .agg ⟨idc (mkId (2 :: List.replicate 31 0))⟩] := by kernel_rfl
  rw [e1]
  have h := less_ok (mkId (1 :: List.replicate 31 0)) (mkId (2 :: List.replicate 31 0)) w
  have e2 : Op.bytesLess (mkId (1 :: List.replicate 31 0)).l (mkId (2 :: List.replicate 31 0)).l = true := by decide +kernel
  rw [e2] at h; exact h
theorem knows2_ok (w : World) {T0 : Nat} {f0 : Nat × Nat} (hB_0 : w.heap[0]? = some (.cells ⟨wc shaK⟩ T0 f0)) :
    Fn Tryd.prog 9 #[] w (fun x w' => x = .bool true ∧ Ext w w') := by
  obtain ⟨q, hq⟩ : ∃ q, q = shaSum [97, 98, 99] := ⟨_, rfl⟩
  have hG_0 := hB_0
  have hx : Ext w w := Ext.rfl' w
  refine enter (N := 33) (args := []) Tryd.func9 rfl rfl rfl ?_
  intro a ha
  simp only [argEnv, Nat.zero_add, Nat.reduceAdd] at ha
  refine wseq ?_
  refine regp (ρ' := []) (C := []) ha [] (by kernel_rfl) .nil ?_
  clear ha a; intro a ha
  refine tn ?_
  refine wseq ?_
  refine reg_list ?_
  refine lnewS ha rfl (by kernel_rfl) #[.string (S [97, 98, 99])] 9 1 (by kernel_rfl) ?_
  clear ha a; intro b1 w2 he hb_b1 hB_b1 a ha
  have hne_0_b1 : 0 ≠ b1 := ne_new hB_0 hb_b1
  replace hB_0 := keepB he hB_0
  replace hb_b1 := Nat.le_trans hx.size hb_b1
  replace hx := hx.tr he
  clear he
  refine seg (ρ' := [(3, .agg ⟨idc q⟩)]) (C := [CallOk Tryd.prog w2 10 #[.slice (some ⟨b1, 0, none⟩) 1 1] (.agg ⟨idc q⟩)]) ha 1 [(0, .val (.agg ⟨idc q⟩))] (by kernel_rfl) (.cons (fun w2 h2 => by rw [hq]; exact sum1_ok [97, 98, 99] _ w2 (by simp) (keepB h2 hB_b1) (keepB h2 hB_0)) .nil) ?_
  clear ha a; intro a w3 ha he
  replace hx := hx.tr he
  replace hB_0 := keepB he hB_0
  replace hB_b1 := keepB he hB_b1
  clear he
  refine lnew ha rfl (by kernel_rfl) ⟨idc idZ⟩ 24 (by kernel_rfl) ?_
  clear ha a; intro bd w4 he hb_bd hB_bd a ha
  have hne_0_bd : 0 ≠ bd := ne_new hB_0 hb_bd
  have hne_b1_bd : b1 ≠ bd := ne_new hB_b1 hb_bd
  replace hB_0 := keepB he hB_0
  replace hB_b1 := keepB he hB_b1
  replace hb_bd := Nat.le_trans hx.size hb_bd
  replace hx := hx.tr he
  clear he
  refine lstore (off := 0) ha rfl rfl (by kernel_rfl) hB_bd ⟨idc q⟩ rfl (by kernel_rfl) (by kernel_rfl) ?_
  clear ha a; intro w5 hc a ha
  replace hB_0 := hc.keep hB_0 (by first | assumption | exact Ne.symm (by assumption))
  replace hB_b1 := hc.keep hB_b1 (by first | assumption | exact Ne.symm (by assumption))
  replace hx := hc.ext hx hb_bd
  replace hB_bd := hc.at_; clear hc
  refine lnil ?_
  replace ha := ha.sub (ρ' := [(1, .pointer (some ⟨bd, 0, none⟩))]) (by kernel_rfl)
  refine tn ?_
  refine wseq ?_
  have hhl := hexTo_len q 32 (by omega)
  refine reg hmix (ρ' := [(0, .bool ((((((decide ((((q.l.getD 0 0).toNat : Nat) : Int) = 186)) && (decide ((((q.l.getD 1 0).toNat : Nat) : Int) = 120))) && (decide ((((q.l.getD 2 0).toNat : Nat) : Int) = 22))) && (decide ((((q.l.getD 3 0).toNat : Nat) : Int) = 191))) && (decide ((((hexTo q 32).take 8) : List UInt8) = ([98, 97, 55, 56, 49, 54, 98, 102] : List UInt8)))) && true))]) (C := [RunOk Tryd.prog w5 (Instr.indexAt 24 (.pointer (some ⟨bd, 0, none⟩)) (.int .i64 0)) (.pointer (some ⟨bd, 0, none⟩)), RunOk Tryd.prog w5 (Instr.loadAt 5 (.pointer (some ⟨bd, 0, none⟩))) (.int .u8 (((q.l.getD 0 0).toNat : Nat) : Int)), (decide ((((q.l.getD 0 0).toNat : Nat) : Int) = 186)) = true → All [RunOk Tryd.prog w5 (Instr.indexAt 24 (.pointer (some ⟨bd, 0, none⟩)) (.int .i64 1)) (.pointer (some ⟨bd, 1, none⟩)), RunOk Tryd.prog w5 (Instr.loadAt 5 (.pointer (some ⟨bd, 1, none⟩))) (.int .u8 (((q.l.getD 1 0).toNat : Nat) : Int))], ((decide ((((q.l.getD 0 0).toNat : Nat) : Int) = 186)) && (decide ((((q.l.getD 1 0).toNat : Nat) : Int) = 120))) = true → All [RunOk Tryd.prog w5 (Instr.indexAt 24 (.pointer (some ⟨bd, 0, none⟩)) (.int .i64 2)) (.pointer (some ⟨bd, 2, none⟩)), RunOk Tryd.prog w5 (Instr.loadAt 5 (.pointer (some ⟨bd, 2, none⟩))) (.int .u8 (((q.l.getD 2 0).toNat : Nat) : Int))], (((decide ((((q.l.getD 0 0).toNat : Nat) : Int) = 186)) && (decide ((((q.l.getD 1 0).toNat : Nat) : Int) = 120))) && (decide ((((q.l.getD 2 0).toNat : Nat) : Int) = 22))) = true → All [RunOk Tryd.prog w5 (Instr.indexAt 24 (.pointer (some ⟨bd, 0, none⟩)) (.int .i64 3)) (.pointer (some ⟨bd, 3, none⟩)), RunOk Tryd.prog w5 (Instr.loadAt 5 (.pointer (some ⟨bd, 3, none⟩))) (.int .u8 (((q.l.getD 3 0).toNat : Nat) : Int))], ((((decide ((((q.l.getD 0 0).toNat : Nat) : Int) = 186)) && (decide ((((q.l.getD 1 0).toNat : Nat) : Int) = 120))) && (decide ((((q.l.getD 2 0).toNat : Nat) : Int) = 22))) && (decide ((((q.l.getD 3 0).toNat : Nat) : Int) = 191))) = true → All [RunOk Tryd.prog w5 (Instr.loadAt 24 (.pointer (some ⟨bd, 0, none⟩))) (.agg ⟨idc q⟩), CallOk Tryd.prog w5 14 #[.agg ⟨idc q⟩] (.string (S (hexTo q 32))), 0 ≤ (8 : Int) ∧ 8 ≤ ((hexTo q 32).length : Int)], (((((decide ((((q.l.getD 0 0).toNat : Nat) : Int) = 186)) && (decide ((((q.l.getD 1 0).toNat : Nat) : Int) = 120))) && (decide ((((q.l.getD 2 0).toNat : Nat) : Int) = 22))) && (decide ((((q.l.getD 3 0).toNat : Nat) : Int) = 191))) && (decide ((((hexTo q 32).take 8) : List UInt8) = ([98, 97, 55, 56, 49, 54, 98, 102] : List UInt8)))) = true → All [CallOk Tryd.prog w5 16 #[.agg #[.int .u8 1, .int .u8 0, .int .u8 0, .int .u8 0, .int .u8 0, .int .u8 0, .int .u8 0, .int .u8 0, .int .u8 0, .int .u8 0, .int .u8 0, .int .u8 0, .int .u8 0, .int .u8 0, .int .u8 0, .int .u8 0, .int .u8 0, .int .u8 0, .int .u8 0, .int .u8 0, .int .u8 0, .int .u8 0, .int .u8 0, .int .u8 0, .int .u8 0, .int .u8 0, .int .u8 0, .int .u8 0, .int .u8 0, .int .u8 0, .int .u8 0, .int .u8 0], .agg #[.int .u8 2, .int .u8 0, .int .u8 0, .int .u8 0, .int .u8 0, .int .u8 0, .int .u8 0, .int .u8 0, .int .u8 0, .int .u8 0, .int .u8 0, .int .u8 0, .int .u8 0, .int .u8 0, .int .u8 0, .int .u8 0, .int .u8 0, .int .u8 0, .int .u8 0, .int .u8 0, .int .u8 0, .int .u8 0, .int .u8 0, .int .u8 0, .int .u8 0, .int .u8 0, .int .u8 0, .int .u8 0, .int .u8 0, .int .u8 0, .int .u8 0, .int .u8 0]] (.bool true)]]) ha [(0, .val (.pointer (some ⟨bd, 0, none⟩))), (1, .val (.int .u8 (((q.l.getD 0 0).toNat : Nat) : Int))), (4, .val (.pointer (some ⟨bd, 1, none⟩))), (5, .val (.int .u8 (((q.l.getD 1 0).toNat : Nat) : Int))), (9, .val (.pointer (some ⟨bd, 2, none⟩))), (10, .val (.int .u8 (((q.l.getD 2 0).toNat : Nat) : Int))), (14, .val (.pointer (some ⟨bd, 3, none⟩))), (15, .val (.int .u8 (((q.l.getD 3 0).toNat : Nat) : Int))), (19, .val (.agg ⟨idc q⟩)), (20, .val (.string (S (hexTo q 32)))), (27, .val (.bool true))] (by kernel_rfl) (.cons (ixA (n := 32) (i := 0) (by kernel_rfl) (by omega)) (.cons (ld1 hB_bd (by kernel_rfl) (idc_at (i := 0) (by omega))) (.cons (fun hg4 => by replace hg4 := of_decide_eq_true hg4; exact (.cons (ixA (n := 32) (i := 1) (by kernel_rfl) (by omega)) (.cons (ld1 hB_bd (by kernel_rfl) (idc_at (i := 1) (by omega))) .nil))) (.cons (fun hg9 => by simp only [Bool.not_eq_true', Bool.not_eq_false', Bool.and_eq_true, Bool.or_eq_true, Bool.and_eq_false_iff, Bool.or_eq_false_iff, decide_eq_true_eq, decide_eq_false_iff_not, Bool.not_eq_true, Decidable.not_not] at hg9; exact (.cons (ixA (n := 32) (i := 2) (by kernel_rfl) (by omega)) (.cons (ld1 hB_bd (by kernel_rfl) (idc_at (i := 2) (by omega))) .nil))) (.cons (fun hg14 => by simp only [Bool.not_eq_true', Bool.not_eq_false', Bool.and_eq_true, Bool.or_eq_true, Bool.and_eq_false_iff, Bool.or_eq_false_iff, decide_eq_true_eq, decide_eq_false_iff_not, Bool.not_eq_true, Decidable.not_not] at hg14; exact (.cons (ixA (n := 32) (i := 3) (by kernel_rfl) (by omega)) (.cons (ld1 hB_bd (by kernel_rfl) (idc_at (i := 3) (by omega))) .nil))) (.cons (fun hg19 => by simp only [Bool.not_eq_true', Bool.not_eq_false', Bool.and_eq_true, Bool.or_eq_true, Bool.and_eq_false_iff, Bool.or_eq_false_iff, decide_eq_true_eq, decide_eq_false_iff_not, Bool.not_eq_true, Decidable.not_not] at hg19; exact (.cons (ldN (n := 32) hB_bd (by kernel_rfl) (by kernel_rfl) ⟨Nat.le_of_ble_eq_true (by kernel_rfl), (by kernel_rfl)⟩) (.cons (fun w _ => hex_ok _ w) (.cons ⟨by omega, by omega⟩ .nil)))) (.cons (fun hg25 => by simp only [Bool.not_eq_true', Bool.not_eq_false', Bool.and_eq_true, Bool.or_eq_true, Bool.and_eq_false_iff, Bool.or_eq_false_iff, decide_eq_true_eq, decide_eq_false_iff_not, Bool.not_eq_true, Decidable.not_not] at hg25; exact (.cons (fun w _ => less0_ok w) .nil)) .nil))))))) ?_
  clear ha a; intro a w6 ha he
  replace hx := hx.tr he
  replace hB_0 := keepB he hB_0
  replace hB_b1 := keepB he hB_b1
  replace hB_bd := keepB he hB_bd
  clear he
  refine tn ?_
  refine wret ?_
  refine fin ha (.tmp rfl .nil) ?_
  refine ⟨congrArg Value.bool ?_, hx⟩
  rw [hq]
  decide +kernel
theorem sha256Tells_walk (s : List UInt8) (w : World) (hs : s.length ≤ 9223372036854775807) {T0 : Nat} {f0 : Nat × Nat} (hB_0 : w.heap[0]? = some (.cells ⟨wc shaK⟩ T0 f0)) :
    Fn Tryd.prog 3 #[.string (S s)] w (fun x w' => x = .bool true ∧ Ext w w') := by
  have hG_0 := hB_0
  have hx : Ext w w := Ext.rfl' w
  refine enter (N := 16) (args := [.string (S s)]) Tryd.func3 rfl rfl rfl ?_
  intro a ha
  simp only [argEnv, Nat.zero_add, Nat.reduceAdd] at ha
  refine wseq ?_
  refine regp (ρ' := [(0, .string (S s))]) (C := []) ha [] (by kernel_rfl) .nil ?_
  clear ha a; intro a ha
  refine tn ?_
  refine wseq ?_
  refine wseq ?_
  refine regp (ρ' := [(0, .string (S s)), (5, .bool (decide ((400 : Int) < ((s.length : Nat) : Int))))]) (C := []) ha [] (by kernel_rfl) .nil ?_
  clear ha a; intro a ha
  refine tn ?_
  refine wif ha rfl (fun h5 => ?_) (fun h5 => ?_)
  · replace h5 := of_decide_eq_true h5
    refine wseq ?_
    refine reg hmix (ρ' := [(2, .bool true)]) (C := [CallOk Tryd.prog w 9 #[] (.bool true)]) ha [(0, .val (.bool true))] (by kernel_rfl) (.cons (fun w2 h2 => knows2_ok w2 (keepB h2 hB_0)) .nil) ?_
    clear ha a; intro a w1 ha he
    replace hx := hx.tr he
    replace hB_0 := keepB he hB_0
    clear he
    refine tn ?_
    refine wret ?_
    refine (tr ?_)
    refine fin ha (.tmp rfl .nil) ?_
    exact ⟨rfl, hx⟩
  · replace h5 := of_decide_eq_false h5
    refine wskip ?_
    refine tn ?_
    refine wseq ?_
    refine reg_list ?_
    refine seg (ρ' := [(0, .string (S s)), (8, .bool true)]) (C := [CallOk Tryd.prog w 9 #[] (.bool true)]) ha 2 [(0, .val (.bool true))] (by kernel_rfl) (.cons (fun w2 h2 => knows2_ok w2 (keepB h2 hB_0)) .nil) ?_
    clear ha a; intro a w2 ha he
    replace hx := hx.tr he
    replace hB_0 := keepB he hB_0
    clear he
    refine lunguard 1 8 true ha (by kernel_rfl) (by kernel_rfl) (by kernel_rfl) ?_
    refine segp (ρ' := [(0, .string (S s)), (8, .bool true), (9, .string (S s))]) (C := []) ha 1 [] rfl (by kernel_rfl) .nil ?_
    clear ha a; intro a ha
    refine lnewS ha rfl (by kernel_rfl) #[.string (S s)] 9 1 (by kernel_rfl) ?_
    clear ha a; intro b3 w4 he hb_b3 hB_b3 a ha
    have hne_0_b3 : 0 ≠ b3 := ne_new hB_0 hb_b3
    replace hB_0 := keepB he hB_0
    replace hb_b3 := Nat.le_trans hx.size hb_b3
    replace hx := hx.tr he
    clear he
    refine seg (ρ' := [(2, .bool (decide ((shaSum s) = (shaSum s))))]) (C := [CallOk Tryd.prog w4 10 #[.slice (some ⟨b3, 0, none⟩) 1 1] (.agg ⟨idc (shaSum s)⟩), CallOk Tryd.prog w4 11 #[.string (S s)] (.agg ⟨idc (shaSum s)⟩), BinOk Tryd.prog .eql 24 (.agg ⟨idc (shaSum s)⟩) (.agg ⟨idc (shaSum s)⟩) (.bool (decide ((shaSum s) = (shaSum s))))]) ha 6 [(0, .val (.agg ⟨idc (shaSum s)⟩)), (2, .val (.agg ⟨idc (shaSum s)⟩)), (3, .val (.bool (decide ((shaSum s) = (shaSum s))))), (4, .raw)] (by kernel_rfl) (.cons (fun w2 h2 => sum1_ok s _ w2 (by first | omega | (simp; done)) (keepB h2 hB_b3) (keepB h2 hB_0)) (.cons (fun w _ => rsum_ok _ w (by omega)) (.cons (eqIdE (x := (shaSum s)) (y := (shaSum s)) (by kernel_rfl)) .nil))) ?_
    clear ha a; intro a w5 ha he
    replace hx := hx.tr he
    replace hB_0 := keepB he hB_0
    replace hB_b3 := keepB he hB_b3
    clear he
    refine lnil ?_
    replace ha := ha.sub (ρ' := [(2, .bool (decide ((shaSum s) = (shaSum s))))]) (by kernel_rfl)
    refine tn ?_
    refine wret ?_
    refine fin ha (.tmp rfl .nil) ?_
    exact ⟨congrArg Value.bool (by simp), hx⟩
end Go.Kn
