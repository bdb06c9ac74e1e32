import Derived.Test.YtihmegmambmljaaDoorPlainL
import Derived.Test.YtihmegmambmljaaDoorVa
import Derived.Shelf.Strings.OnBuilder
import Derived.Shelf.Strings.Repeat
set_option linter.unusedSimpArgs false
set_option linter.unusedVariables false
set_option maxRecDepth 100000
namespace Go.Kn
open Go.Proofs Go.Shelf
def ren105 : Ren := ⟨fun | 105 => 37 | 212 => 63 | 99 => 64 | 165 => 60 | 166 => 61 | 170 => 65 | 169 => 62 | 263 => 96 | 264 => 97 | 206 => 98 | 240 => 94 | 241 => 95 | 276 => 110 | 277 => 111 | n => n, fun | 46 => 66 | 109 => 99 | 72 => 92 | 76 => 96 | 51 => 52 | 146 => 125 | 53 => 61 | 148 => 127 | 70 => 90 | 37 => 63 | 75 => 95 | 127 => 124 | 164 => 135 | 80 => 98 | n => n, fun n => n⟩
theorem lays105 : Lays.n105 Tryd.prog ren105 := {
  mixed := by kernel_rfl,
  f99 := by kernel_rfl,
  f105 := by kernel_rfl,
  f165 := by kernel_rfl,
  f166 := by kernel_rfl,
  f169 := by kernel_rfl,
  f170 := by kernel_rfl,
  f206 := by kernel_rfl,
  f212 := by kernel_rfl,
  f240 := by kernel_rfl,
  f241 := by kernel_rfl,
  f263 := by kernel_rfl,
  f264 := by kernel_rfl,
  f276 := by kernel_rfl,
  f277 := by kernel_rfl,
  t0 := by kernel_rfl,
  a0 := fun w => by kernel_rfl,
  z0 := fun w => by kernel_rfl,
  v0 := fun w => by kernel_rfl,
  t3 := by kernel_rfl,
  a3 := fun w => by kernel_rfl,
  z3 := fun w => by kernel_rfl,
  v3 := fun w => by kernel_rfl,
  t4 := by kernel_rfl,
  a4 := fun w => by kernel_rfl,
  z4 := fun w => by kernel_rfl,
  v4 := fun w => by kernel_rfl,
  t5 := by kernel_rfl,
  a5 := fun w => by kernel_rfl,
  z5 := fun w => by kernel_rfl,
  v5 := fun w => by kernel_rfl,
  t9 := by kernel_rfl,
  a9 := fun w => by kernel_rfl,
  z9 := fun w => by kernel_rfl,
  v9 := fun w => by kernel_rfl,
  t20 := by kernel_rfl,
  a20 := fun w => by kernel_rfl,
  z20 := fun w => by kernel_rfl,
  v20 := fun w => by kernel_rfl,
  t37 := by kernel_rfl,
  a37 := fun w => by kernel_rfl,
  z37 := fun w => by kernel_rfl,
  v37 := fun w => by kernel_rfl,
  t46 := by kernel_rfl,
  a46 := fun w => by kernel_rfl,
  z46 := fun w => by kernel_rfl,
  v46 := fun w => by kernel_rfl,
  t51 := by kernel_rfl,
  a51 := fun w => by kernel_rfl,
  z51 := fun w => by kernel_rfl,
  v51 := fun w => by kernel_rfl,
  t53 := by kernel_rfl,
  a53 := fun w => by kernel_rfl,
  z53 := fun w => by kernel_rfl,
  v53 := fun w => by kernel_rfl,
  t70 := by kernel_rfl,
  a70 := fun w => by kernel_rfl,
  z70 := fun w => by kernel_rfl,
  v70 := fun w => by kernel_rfl,
  t72 := by kernel_rfl,
  a72 := fun w => by kernel_rfl,
  z72 := fun w => by kernel_rfl,
  v72 := fun w => by kernel_rfl,
  t75 := by kernel_rfl,
  a75 := fun w => by kernel_rfl,
  z75 := fun w => by kernel_rfl,
  v75 := fun w => by kernel_rfl,
  t76 := by kernel_rfl,
  a76 := fun w => by kernel_rfl,
  z76 := fun w => by kernel_rfl,
  v76 := fun w => by kernel_rfl,
  t109 := by kernel_rfl,
  a109 := fun w => by kernel_rfl,
  z109 := fun w => by kernel_rfl,
  v109 := fun w => by kernel_rfl,
  t127 := by kernel_rfl,
  a127 := fun w => by kernel_rfl,
  z127 := fun w => by kernel_rfl,
  v127 := fun w => by kernel_rfl,
  t146 := by kernel_rfl,
  a146 := fun w => by kernel_rfl,
  z146 := fun w => by kernel_rfl,
  v146 := fun w => by kernel_rfl,
  t148 := by kernel_rfl,
  a148 := fun w => by kernel_rfl,
  z148 := fun w => by kernel_rfl,
  v148 := fun w => by kernel_rfl,
  t164 := by kernel_rfl,
  a164 := fun w => by kernel_rfl,
  z164 := fun w => by kernel_rfl,
  v164 := fun w => by kernel_rfl }
def ren156 : Ren := ⟨fun | 156 => 36 | 165 => 60 | 166 => 61 | 169 => 62 | 240 => 94 | 241 => 95 | 276 => 110 | 277 => 111 | n => n, fun | 31 => 29 | 72 => 92 | 76 => 96 | 70 => 90 | 37 => 63 | 75 => 95 | 127 => 124 | 164 => 135 | 80 => 98 | n => n, fun n => n⟩
theorem lays156 : Lays.n156 Tryd.prog ren156 := {
  mixed := by kernel_rfl,
  f156 := by kernel_rfl,
  f165 := by kernel_rfl,
  f166 := by kernel_rfl,
  f169 := by kernel_rfl,
  f240 := by kernel_rfl,
  f241 := by kernel_rfl,
  f276 := by kernel_rfl,
  f277 := by kernel_rfl,
  t0 := by kernel_rfl,
  a0 := fun w => by kernel_rfl,
  z0 := fun w => by kernel_rfl,
  v0 := fun w => by kernel_rfl,
  t3 := by kernel_rfl,
  a3 := fun w => by kernel_rfl,
  z3 := fun w => by kernel_rfl,
  v3 := fun w => by kernel_rfl,
  t4 := by kernel_rfl,
  a4 := fun w => by kernel_rfl,
  z4 := fun w => by kernel_rfl,
  v4 := fun w => by kernel_rfl,
  t9 := by kernel_rfl,
  a9 := fun w => by kernel_rfl,
  z9 := fun w => by kernel_rfl,
  v9 := fun w => by kernel_rfl,
  t20 := by kernel_rfl,
  a20 := fun w => by kernel_rfl,
  z20 := fun w => by kernel_rfl,
  v20 := fun w => by kernel_rfl,
  t31 := by kernel_rfl,
  a31 := fun w => by kernel_rfl,
  z31 := fun w => by kernel_rfl,
  v31 := fun w => by kernel_rfl,
  t37 := by kernel_rfl,
  a37 := fun w => by kernel_rfl,
  z37 := fun w => by kernel_rfl,
  v37 := fun w => by kernel_rfl,
  t70 := by kernel_rfl,
  a70 := fun w => by kernel_rfl,
  z70 := fun w => by kernel_rfl,
  v70 := fun w => by kernel_rfl,
  t72 := by kernel_rfl,
  a72 := fun w => by kernel_rfl,
  z72 := fun w => by kernel_rfl,
  v72 := fun w => by kernel_rfl,
  t75 := by kernel_rfl,
  a75 := fun w => by kernel_rfl,
  z75 := fun w => by kernel_rfl,
  v75 := fun w => by kernel_rfl,
  t76 := by kernel_rfl,
  a76 := fun w => by kernel_rfl,
  z76 := fun w => by kernel_rfl,
  v76 := fun w => by kernel_rfl,
  t127 := by kernel_rfl,
  a127 := fun w => by kernel_rfl,
  z127 := fun w => by kernel_rfl,
  v127 := fun w => by kernel_rfl,
  t164 := by kernel_rfl,
  a164 := fun w => by kernel_rfl,
  z164 := fun w => by kernel_rfl,
  v164 := fun w => by kernel_rfl }
theorem x72_105 : Builder.X72 Tryd.prog ren105 := {
  sizeBuilder := by kernel_rfl,
  liesBuilder := by kernel_rfl }
theorem extra105 : Builder.Extra Tryd.prog ren105 := {
  toX72 := x72_105, t5 := by kernel_rfl, a5 := fun w => by kernel_rfl, z5 := fun w => by kernel_rfl, v5 := fun w => by kernel_rfl, infoByte := by kernel_rfl, cellsByte := by kernel_rfl, sizeByte := by kernel_rfl, neB5 := by decide }
theorem x72_156 : Builder.X72 Tryd.prog ren156 := {
  sizeBuilder := by kernel_rfl,
  liesBuilder := by kernel_rfl }
theorem extra156 : Builder.Extra Tryd.prog ren156 := {
  toX72 := x72_156, t5 := by kernel_rfl, a5 := fun w => by kernel_rfl, z5 := fun w => by kernel_rfl, v5 := fun w => by kernel_rfl, infoByte := by kernel_rfl, cellsByte := by kernel_rfl, sizeByte := by kernel_rfl, neB5 := by decide }
theorem S_list (l : List UInt8) : (S l).data.toList = l := by simp [S]
theorem repeat_ok (l : List UInt8) (c : Nat) (w : World) (hc : c ≤ 9223372036854775807) (hlen : l.length * c ≤ 140737488355328) : FnV Tryd.prog 37 #[.string (S l), .int .i64 ((c : Nat) : Int)] w (.string (S (Go.Lib.repeatL l c))) := by
  have h := Any.strings_Repeat lays105 extra105 (S l) c w hc (by rw [S_size]; exact hlen)
  rw [S_list] at h
  exact Calls.mono h fun e w' ⟨h1, h2⟩ => ⟨_, h1, rfl, h2⟩
theorem rep0_ok (c : Nat) (w : World) (hc : c ≤ 1000) : FnV Tryd.prog 37 #[.string (S [0]), .int .i64 ((c : Nat) : Int)] w (.string (S (List.replicate c 0))) := by
  have := repeat_ok [0] c w (by omega) (by simp; omega)
  rwa [repeat_rep] at this
theorem join_ok (bk o c : Nat) (l : List (List UInt8)) (sep : List UInt8) (w : World) (hr : Rd w 1 (some ⟨bk, o, none⟩) l.length (l.flatMap encS)) (hne : l ≠ []) (hcap : l.length ≤ c) (hN : l.length ≤ 140737488355328) (hlen : (Go.Lib.join l sep).length ≤ 140737488355328) :
    FnV Tryd.prog 36 #[.slice (some ⟨bk, o, none⟩) l.length c, .string (S sep)] w (.string (S (Go.Lib.join l sep))) := by
  have e1 : (l.map S).map (·.data.toList) = l := by rw [List.map_map]; conv => rhs; rw [← List.map_id l]
                                                    exact List.map_congr_left fun x _ => S_list x
  have hc : ∀ (j : Nat) x, (l.map S)[j]? = some x → w.cell? ⟨bk, o + j, none⟩ = some (.string x) := by
    intro j x hx
    rw [List.getElem?_map] at hx
    obtain ⟨y, hy, rfl⟩ := Option.map_eq_some_iff.1 hx
    refine hr.cell j _ ?_
    rw [encS_flat, List.getElem?_map, hy]; rfl
  have hlt : bk < w.heap.size := by
    have h0 : 0 < l.length := List.length_pos_iff.2 hne
    have := hc 0 (S l[0]) (by simp [h0])
    exact blk_lt this
  have h := Any.strings_Join lays156 extra156 bk o c (l.map S) (S sep) w hc hlt (by rw [List.length_map]; exact hN) (by rw [List.length_map]; exact hcap) (by rw [e1, S_list]; exact hlen)
  rw [e1, S_list, List.length_map] at h
  exact Calls.mono h fun e w' ⟨h1, h2⟩ => ⟨_, h1, rfl, h2⟩
theorem sum_ok (c : Wn 64) (bk o cc : Nat) (l : List (List UInt8)) (w : World) (hr : Rd w 1 (some ⟨bk, o, none⟩) l.length (l.flatMap encS)) (hne : l ≠ []) (hcap : l.length ≤ cc) (hN : l.length ≤ 100000) (hlen : l.flatten.length ≤ 1000000000) {T0 : Nat} {f0 : Nat × Nat} (hB_0 : w.heap[0]? = some (.cells ⟨wc c⟩ T0 f0)) :
    Fn Tryd.prog 10 #[.slice (some ⟨bk, o, none⟩) l.length cc] w (fun x w' => x = .agg ⟨idc (shaSumC c l.flatten)⟩ ∧ Ext w w') := by
  have hG_0 := hB_0
  have hx : Ext w w := Ext.rfl' w
  refine enter (N := 65) (args := [.slice (some ⟨bk, o, none⟩) l.length cc]) Tryd.func10 rfl rfl rfl ?_
  intro a ha
  simp only [argEnv, Nat.zero_add, Nat.reduceAdd] at ha
  refine wseq ?_
  refine reg_list ?_
  refine lnew ha rfl (by kernel_rfl) ⟨idc idZ⟩ 24 (by kernel_rfl) ?_
  clear ha a; intro bo w1 he hb_bo hB_bo a ha
  have hne_0_bo : 0 ≠ bo := ne_new hB_0 hb_bo
  replace hB_0 := keepB he hB_0
  replace hb_bo := Nat.le_trans hx.size hb_bo
  replace hx := hx.tr he
  clear he
  refine lnil ?_
  replace ha := ha.sub (ρ' := [(0, .slice (some ⟨bk, o, none⟩) l.length cc), (2, .pointer (some ⟨bo, 0, none⟩))]) (by kernel_rfl)
  refine tn ?_
  refine wseq ?_
  refine reg hmix (ρ' := [(2, .pointer (some ⟨bo, 0, none⟩)), (3, .string (S l.flatten))]) (C := [CallOk Tryd.prog w1 36 #[.slice (some ⟨bk, o, none⟩) l.length cc, .string (S [])] (.string (S l.flatten))]) ha [(1, .val (.string (S l.flatten)))] (by kernel_rfl) (.cons (fun w2 h2 => by have := join_ok bk o cc l [] w2 (rdE (hx.tr h2) hr) hne hcap (by omega) (by rw [join_flat]; omega); rwa [join_flat] at this) .nil) ?_
  clear ha a; intro a w2 ha he
  replace hx := hx.tr he
  replace hB_0 := keepB he hB_0
  replace hB_bo := keepB he hB_bo
  clear he
  refine tn ?_
  refine wseq ?_
  refine regp (ρ' := [(2, .pointer (some ⟨bo, 0, none⟩)), (3, .string (S l.flatten)), (4, .int .u64 (((l.flatten.length * 8) % 18446744073709551616 : Nat) : Int))]) (C := [InR .u64 ((l.flatten.length : Nat) : Int), BinOk Tryd.prog .mul 61 (.int .u64 ((l.flatten.length : Nat) : Int)) (.int .u64 8) (.int .u64 (((l.flatten.length * 8) % 18446744073709551616 : Nat) : Int))]) ha [(3, .val (.int .u64 (((l.flatten.length * 8) % 18446744073709551616 : Nat) : Int)))] (by kernel_rfl) (.cons (by unfold InR; omega) (.cons (mulW_u64 (a := l.flatten.length) (n := 8)) .nil)) ?_
  clear ha a; intro a ha
  rw [show ((((l.flatten.length * 8) % 18446744073709551616 : Nat) : Int) : Int) = ((8 * l.flatten.length : Nat) : Int) from by omega] at ha
  refine tn ?_
  refine wseq ?_
  refine regp (ρ' := [(2, .pointer (some ⟨bo, 0, none⟩)), (3, .string (S (l.flatten ++ [128]))), (4, .int .u64 ((8 * l.flatten.length : Nat) : Int))]) (C := [(l.flatten : List UInt8).length + ([128] : List UInt8).length ≤ 9223372036854775807]) ha [] (by kernel_rfl) (.cons (by first | omega | (simp only [List.length_cons, List.length_nil, List.length_append, List.length_take, List.length_drop]; omega)) .nil) ?_
  clear ha a; intro a ha
  obtain ⟨t1, ht1⟩ : ∃ t, t = l.flatten ++ [128] := ⟨_, rfl⟩
  rw [← ht1] at ha
  have e1 : t1.length = l.flatten.length + 1 := by rw [ht1]; simp
  have hP := shaP0_len l.flatten
  refine tn ?_
  refine wseq ?_
  refine reg hmix (ρ' := [(2, .pointer (some ⟨bo, 0, none⟩)), (3, .string (S (t1 ++ (List.replicate ((120 - (t1.length % 64)) % 64) 0)))), (4, .int .u64 ((8 * l.flatten.length : Nat) : Int))]) (C := [0 ≤ ((t1.length : Nat) : Int), 0 < (64 : Int), BinOk Tryd.prog .sub 3 (.int .i64 120) (.int .i64 ((t1.length % 64 : Nat) : Int)) (.int .i64 ((120 - (t1.length % 64) : Nat) : Int)), 0 ≤ ((120 - (t1.length % 64) : Nat) : Int), 0 < (64 : Int), CallOk Tryd.prog w2 37 #[.string (S [0]), .int .i64 (((120 - (t1.length % 64)) % 64 : Nat) : Int)] (.string (S (List.replicate ((120 - (t1.length % 64)) % 64) 0))), (t1 : List UInt8).length + ((List.replicate ((120 - (t1.length % 64)) % 64) 0) : List UInt8).length ≤ 9223372036854775807]) ha [(4, .val (.int .i64 ((120 - (t1.length % 64) : Nat) : Int))), (6, .val (.string (S (List.replicate ((120 - (t1.length % 64)) % 64) 0))))] (by kernel_rfl) (.cons (by omega) (.cons (by omega) (.cons (subC (m := 120) (n := (t1.length % 64)) (by rfl) (by omega) (by unfold InR; omega)) (.cons (by omega) (.cons (by omega) (.cons (fun w _ => rep0_ok ((120 - (t1.length % 64)) % 64) w (by omega)) (.cons (by rw [List.length_replicate, e1]; omega) .nil))))))) ?_
  clear ha a; intro a w3 ha he
  replace hx := hx.tr he
  replace hB_0 := keepB he hB_0
  replace hB_bo := keepB he hB_bo
  clear he
  rw [show ((t1 ++ (List.replicate ((120 - (t1.length % 64)) % 64) 0)) : List UInt8) = (shaP0 l.flatten ++ be8 (8 * l.flatten.length) 0) from by rw [e1, ht1]; simp [shaP0, be8]] at ha
  refine tn ?_
  refine wseq ?_
  refine wseq ?_
  refine regp (ρ' := [(2, .pointer (some ⟨bo, 0, none⟩)), (3, .string (S (shaP0 l.flatten ++ be8 (8 * l.flatten.length) 0))), (4, .int .u64 ((8 * l.flatten.length : Nat) : Int)), (25, .int .i64 0)]) (C := []) ha [] (by kernel_rfl) .nil ?_
  clear ha a; intro a ha
  refine tn ?_
  refine wblk ?_
  refine wloop (fun zz a w4 => ∃ (i : Nat), zz = 8 - i ∧ On 65 [(2, .pointer (some ⟨bo, 0, none⟩)), (3, .string (S (shaP0 l.flatten ++ be8 (8 * l.flatten.length) i))), (4, .int .u64 ((8 * l.flatten.length : Nat) : Int)), (25, .int .i64 ((i : Nat) : Int))] a ∧ Ext w w4 ∧ w4.heap[0]? = some (.cells ⟨wc c⟩ T0 f0) ∧ w4.heap[bo]? = some (.cells ⟨idc idZ⟩ 24 (0, 0)) ∧ (i ≤ 8)) _ ⟨0, rfl, ha.sub (ρ' := [(2, .pointer (some ⟨bo, 0, none⟩)), (3, .string (S (shaP0 l.flatten ++ be8 (8 * l.flatten.length) 0))), (4, .int .u64 ((8 * l.flatten.length : Nat) : Int)), (25, .int .i64 ((0 : Nat) : Int))]) (by kernel_rfl), hx, hB_0, hB_bo, by omega⟩ ?_
  clear ha hx hB_0 hB_bo
  rintro zz a w5 ⟨i, hzz, ha, hx, hB_0, hB_bo, hi⟩
  refine wseq ?_
  refine regp (ρ' := [(2, .pointer (some ⟨bo, 0, none⟩)), (3, .string (S (shaP0 l.flatten ++ be8 (8 * l.flatten.length) i))), (4, .int .u64 ((8 * l.flatten.length : Nat) : Int)), (25, .int .i64 ((i : Nat) : Int)), (26, .bool (decide (((i : Nat) : Int) < 8)))]) (C := []) ha [] (by kernel_rfl) .nil ?_
  clear ha a; intro a ha
  refine tn ?_
  refine wseq ?_
  refine wif ha rfl (fun h26 => ?_) (fun h26 => ?_)
  · replace h26 := of_decide_eq_true h26
    have hbl := be8_len (8 * l.flatten.length) i
    refine wskip ?_
    refine tn ?_
    refine wseq ?_
    refine wblk ?_
    refine wseq ?_
    refine regp (ρ' := [(2, .pointer (some ⟨bo, 0, none⟩)), (3, .string (S (shaP0 l.flatten ++ be8 (8 * l.flatten.length) i))), (4, .int .u64 ((8 * l.flatten.length : Nat) : Int)), (5, .int .i64 ((i : Nat) : Int)), (25, .int .i64 ((i : Nat) : Int))]) (C := []) ha [] (by kernel_rfl) .nil ?_
    clear ha a; intro a ha
    refine tn ?_
    refine reg_list ?_
    refine segp (ρ' := [(2, .pointer (some ⟨bo, 0, none⟩)), (4, .int .u64 ((8 * l.flatten.length : Nat) : Int)), (25, .int .i64 ((i : Nat) : Int)), (28, .string (S (shaP0 l.flatten ++ be8 (8 * l.flatten.length) i))), (34, .int .u8 ((((8 * l.flatten.length) / 2 ^ (56 - (8 * i))) % 256 : Nat) : Int))]) (C := [InR .i64 ((8 * i : Nat) : Int), BinOk Tryd.prog .sub 3 (.int .i64 56) (.int .i64 ((8 * i : Nat) : Int)) (.int .i64 ((56 - (8 * i) : Nat) : Int)), BinOk Tryd.prog .shr 61 (.int .u64 ((8 * l.flatten.length : Nat) : Int)) (.int .i64 ((56 - (8 * i) : Nat) : Int)) (.int .u64 (((8 * l.flatten.length) / 2 ^ (56 - (8 * i)) : Nat) : Int))]) ha 7 [(4, .val (.int .i64 ((56 - (8 * i) : Nat) : Int))), (5, .val (.int .u64 (((8 * l.flatten.length) / 2 ^ (56 - (8 * i)) : Nat) : Int))), (6, .mod)] rfl (by kernel_rfl) (.cons (by unfold InR; omega) (.cons (subC (m := 56) (n := (8 * i)) (by rfl) (by omega) (by unfold InR; omega)) (.cons (shrN (a := (8 * l.flatten.length)) (n := (56 - (8 * i))) (by show _ ≤ 64; omega)) .nil))) ?_
    clear ha a; intro a ha
    refine lnewS ha rfl (by kernel_rfl) #[.int .u8 ((((8 * l.flatten.length) / 2 ^ (56 - (8 * i))) % 256 : Nat) : Int)] 5 1 (by kernel_rfl) ?_
    clear ha a; intro b6 w7 he hb_b6 hB_b6 a ha
    have hne_0_b6 : 0 ≠ b6 := ne_new hB_0 hb_b6
    have hne_bo_b6 : bo ≠ b6 := ne_new hB_bo hb_b6
    replace hB_0 := keepB he hB_0
    replace hB_bo := keepB he hB_bo
    replace hb_b6 := Nat.le_trans hx.size hb_b6
    replace hx := hx.tr he
    clear he
    refine segp (ρ' := [(2, .pointer (some ⟨bo, 0, none⟩)), (3, .string (S ((shaP0 l.flatten ++ be8 (8 * l.flatten.length) i) ++ [UInt8.ofNat (((8 * l.flatten.length) / 2 ^ (56 - (8 * i))) % 256)]))), (4, .int .u64 ((8 * l.flatten.length : Nat) : Int)), (25, .int .i64 ((i : Nat) : Int))]) (C := [RunOk Tryd.prog w7 (convert 63 9 (.slice (some ⟨b6, 0, none⟩) 1 1)) (.string (S [UInt8.ofNat (((8 * l.flatten.length) / 2 ^ (56 - (8 * i))) % 256)])), ((shaP0 l.flatten ++ be8 (8 * l.flatten.length) i) : List UInt8).length + ([UInt8.ofNat (((8 * l.flatten.length) / 2 ^ (56 - (8 * i))) % 256)] : List UInt8).length ≤ 9223372036854775807]) ha 3 [(0, .val (.string (S [UInt8.ofNat (((8 * l.flatten.length) / 2 ^ (56 - (8 * i))) % 256)])))] rfl (by kernel_rfl) (.cons (cvBlk (e := 5) (zs := [((((8 * l.flatten.length) / 2 ^ (56 - (8 * i))) % 256 : Nat) : Int)]) (by kernel_rfl) (by kernel_rfl) (by kernel_rfl) hB_b6 rfl rfl) (.cons (by first | omega | (simp only [List.length_cons, List.length_nil, List.length_append, List.length_take, List.length_drop]; omega)) .nil)) ?_
    clear ha a; intro a ha
    refine lnil ?_
    replace ha := ha.sub (ρ' := [(2, .pointer (some ⟨bo, 0, none⟩)), (3, .string (S ((shaP0 l.flatten ++ be8 (8 * l.flatten.length) i) ++ [UInt8.ofNat (((8 * l.flatten.length) / 2 ^ (56 - (8 * i))) % 256)]))), (4, .int .u64 ((8 * l.flatten.length : Nat) : Int)), (25, .int .i64 ((i : Nat) : Int))]) (by kernel_rfl)
    rw [show (((shaP0 l.flatten ++ be8 (8 * l.flatten.length) i) ++ [UInt8.ofNat (((8 * l.flatten.length) / 2 ^ (56 - (8 * i))) % 256)]) : List UInt8) = (shaP0 l.flatten ++ be8 (8 * l.flatten.length) (i + 1)) from by rw [be8_succ, List.append_assoc]] at ha
    refine bn ?_
    refine tn ?_
    refine regp (ρ' := [(2, .pointer (some ⟨bo, 0, none⟩)), (3, .string (S (shaP0 l.flatten ++ be8 (8 * l.flatten.length) (i + 1)))), (4, .int .u64 ((8 * l.flatten.length : Nat) : Int)), (25, .int .i64 ((i + 1 : Nat) : Int))]) (C := [InR .i64 ((i + 1 : Nat) : Int)]) ha [] (by kernel_rfl) (.cons (by unfold InR; omega) .nil) ?_
    clear ha a; intro a ha
    exact tn ⟨8 - ((i + 1)), by omega, (i + 1), rfl, ha.sub (ρ' := [(2, .pointer (some ⟨bo, 0, none⟩)), (3, .string (S (shaP0 l.flatten ++ be8 (8 * l.flatten.length) (i + 1)))), (4, .int .u64 ((8 * l.flatten.length : Nat) : Int)), (25, .int .i64 (((i + 1) : Nat) : Int))]) (by kernel_rfl), hx, hB_0, hB_bo, by omega⟩
  · replace h26 := of_decide_eq_false h26
    obtain rfl : i = 8 := by omega
    rw [← shaPad_eq] at ha
    have hPl := shaPad_le l.flatten
    have hPm := shaPad_len l.flatten
    refine wexit ?_
    refine (te (te (be ?_)))
    refine tn ?_
    refine wseq ?_
    refine reg_list ?_
    refine segp (ρ' := [(2, .pointer (some ⟨bo, 0, none⟩)), (3, .string (S (shaPad l.flatten))), (39, .agg #[.int .u32 1779033703, .int .u32 3144134277, .int .u32 1013904242, .int .u32 2773480762, .int .u32 1359893119, .int .u32 2600822924, .int .u32 528734635, .int .u32 1541459225])]) (C := []) ha 1 [] rfl (by kernel_rfl) .nil ?_
    clear ha a; intro a ha
    refine lnew ha rfl (by kernel_rfl) ⟨wc (wz 8)⟩ 64 (by kernel_rfl) ?_
    clear ha a; intro bs w8 he hb_bs hB_bs a ha
    have hne_0_bs : 0 ≠ bs := ne_new hB_0 hb_bs
    have hne_bo_bs : bo ≠ bs := ne_new hB_bo hb_bs
    replace hB_0 := keepB he hB_0
    replace hB_bo := keepB he hB_bo
    replace hb_bs := Nat.le_trans hx.size hb_bs
    replace hx := hx.tr he
    clear he
    refine lstoreL (off := 0) (vs := [.int .u32 1779033703, .int .u32 3144134277, .int .u32 1013904242, .int .u32 2773480762, .int .u32 1359893119, .int .u32 2600822924, .int .u32 528734635, .int .u32 1541459225]) (cs' := [.int .u32 1779033703, .int .u32 3144134277, .int .u32 1013904242, .int .u32 2773480762, .int .u32 1359893119, .int .u32 2600822924, .int .u32 528734635, .int .u32 1541459225]) ha rfl rfl (by kernel_rfl) rfl rfl hB_bs (by kernel_rfl) (by kernel_rfl) (by kernel_rfl) (by rw [wc_len _]; simp) (put_all (by rw [wc_len _]; rfl)) ?_
    clear ha a; intro w9 hc a ha
    replace hB_0 := hc.keep hB_0 (by first | assumption | exact Ne.symm (by assumption))
    replace hB_bo := hc.keep hB_bo (by first | assumption | exact Ne.symm (by assumption))
    replace hx := hc.ext hx hb_bs
    replace hB_bs := hc.at_; clear hc
    refine lnil ?_
    replace ha := ha.sub (ρ' := [(2, .pointer (some ⟨bo, 0, none⟩)), (3, .string (S (shaPad l.flatten))), (6, .pointer (some ⟨bs, 0, none⟩))]) (by kernel_rfl)
    rw [iv_cells] at hB_bs
    refine tn ?_
    refine wseq ?_
    refine wblk ?_
    refine wloop (fun zz a w10 => ∃ (s : Wn 8) (t : List UInt8) (f : Nat), zz = t.length ∧ On 65 [(2, .pointer (some ⟨bo, 0, none⟩)), (3, .string (S t)), (6, .pointer (some ⟨bs, 0, none⟩))] a ∧ Ext w w10 ∧ w10.heap[0]? = some (.cells ⟨wc c⟩ T0 f0) ∧ w10.heap[bo]? = some (.cells ⟨idc idZ⟩ 24 (0, 0)) ∧ w10.heap[bs]? = some (.cells ⟨wc s⟩ 64 (0, 0)) ∧ (shaGo c (shaPad l.flatten).length shaIv (shaPad l.flatten) = shaGo c f s t) ∧ (t.length % 64 = 0) ∧ (t.length ≤ f) ∧ (t.length ≤ 10000000000)) _ ⟨shaIv, (shaPad l.flatten), (shaPad l.flatten).length, rfl, ha.sub (ρ' := [(2, .pointer (some ⟨bo, 0, none⟩)), (3, .string (S (shaPad l.flatten))), (6, .pointer (some ⟨bs, 0, none⟩))]) (by kernel_rfl), hx, hB_0, hB_bo, hB_bs, rfl, by omega, Nat.le_refl _, by omega⟩ ?_
    clear ha hx hB_0 hB_bo hB_bs
    rintro zz a w11 ⟨s, t, f, hzz, ha, hx, hB_0, hB_bo, hB_bs, hinv, hm, hf, htl⟩
    refine wseq ?_
    refine wseq ?_
    refine regp (ρ' := [(2, .pointer (some ⟨bo, 0, none⟩)), (3, .string (S t)), (6, .pointer (some ⟨bs, 0, none⟩)), (41, .bool (!decide ((t : List UInt8) = ([] : List UInt8))))]) (C := []) ha [] (by kernel_rfl) .nil ?_
    clear ha a; intro a ha
    refine tn ?_
    refine wif ha rfl (fun h41 => ?_) (fun h41 => ?_)
    · simp only [Bool.not_eq_true', Bool.not_eq_false', Bool.and_eq_true, Bool.or_eq_true, Bool.and_eq_false_iff, Bool.or_eq_false_iff, decide_eq_true_eq, decide_eq_false_iff_not, Bool.not_eq_true, Decidable.not_not] at h41
      have h0 : 0 < t.length := List.length_pos_iff.2 h41
      have h64 : 64 ≤ t.length := by omega
      refine wskip ?_
      refine tn ?_
      refine wseq ?_
      refine wblk ?_
      refine regM hmix ha [(0, .val (.agg ⟨wc s⟩)), (3, .val (.agg ⟨wc (shaBlk c s (t.take 64))⟩))] [] [⟨4, .des, [], []⟩] [] (ρ' := [(2, .pointer (some ⟨bo, 0, none⟩)), (3, .string (S t)), (6, .pointer (some ⟨bs, 0, none⟩))]) [] [fun w' => Ext w11 w', fun w' => w11.heap.size ≤ w'.heap.size ∧ Ext w w' ∧ w'.heap[0]? = some (.cells ⟨wc c⟩ T0 f0) ∧ w'.heap[bo]? = some (.cells ⟨idc idZ⟩ 24 (0, 0)) ∧ w'.heap[bs]? = some (.cells ⟨wc (shaBlk c s (t.take 64))⟩ 64 (0, 0))] [(0, [0], fun w' => [RunOk Tryd.prog w' (Instr.loadAt 64 (.pointer (some ⟨bs, 0, none⟩))) (.agg ⟨wc s⟩)]), (2, [0], fun w' => [0 ≤ (64 : Int) ∧ 64 ≤ (t.length : Int)]), (3, [0], fun w' => [CallOk Tryd.prog w' 38 #[.agg ⟨wc s⟩, .string (S (t.take 64))] (.agg ⟨wc (shaBlk c s (t.take 64))⟩)])] (by kernel_rfl) (fun w' => by kernel_rfl) (fun w' => by kernel_rfl) (by kernel_rfl) (fun w' h => h) ?_ ?_ ?_ ?_ ?_ ?_
      · refine ⟨fun w1 w2 h e => Ext.tr h e, ?_, trivial⟩
        · rintro w1 w2 ⟨hsz, hx, hB_0, hB_bo, hB_bs⟩ he
          exact ⟨Nat.le_trans hsz he.size, hx.tr he, keepB he hB_0, keepB he hB_bo, keepB he hB_bs⟩
      · trivial
      · refine ⟨⟨?_, trivial⟩, ⟨?_, trivial⟩, ⟨?_, trivial⟩, trivial⟩
        · intro w' hJ
          have he : Ext w11 w' := hJ
          have hsz := he.size
          replace hx := hx.tr he
          replace hB_0 := keepB he hB_0
          replace hB_bo := keepB he hB_bo
          replace hB_bs := keepB he hB_bs
          clear he
          exact (.cons (ldAll (n := 8) hB_bs (by kernel_rfl) (by kernel_rfl) (wc_len _)) .nil)
        · intro w' hJ
          have he : Ext w11 w' := hJ
          have hsz := he.size
          replace hx := hx.tr he
          replace hB_0 := keepB he hB_0
          replace hB_bo := keepB he hB_bo
          replace hB_bs := keepB he hB_bs
          clear he
          exact (.cons ⟨by omega, by omega⟩ .nil)
        · intro w' hJ
          have he : Ext w11 w' := hJ
          have hsz := he.size
          replace hx := hx.tr he
          replace hB_0 := keepB he hB_0
          replace hB_bo := keepB he hB_bo
          replace hB_bs := keepB he hB_bs
          clear he
          exact (.cons (fun w2 h2 => sblock_ok c _ _ w2 (by first | omega | (simp only [List.length_take, List.length_drop]; omega)) (keepB h2 hB_0)) .nil)
      · trivial
      · refine ⟨?_, trivial⟩
        · intro w' hJ
          have hB_0S := hB_0
          have hB_boS := hB_bo
          have hB_bsS := hB_bs
          have he : Ext w11 w' := hJ
          have hsz := he.size
          replace hx := hx.tr he
          replace hB_0 := keepB he hB_0
          replace hB_bo := keepB he hB_bo
          replace hB_bs := keepB he hB_bs
          clear he
          refine ostoreL (off := 0) (vs := wc (shaBlk c s (t.take 64))) (cs' := wc (shaBlk c s (t.take 64))) (t := 64) (x := .tmp 6) (y := .tmp 47) (by kernel_rfl) (by kernel_rfl) hB_bs (by rw [wc_len _]; kernel_rfl) (by kernel_rfl) (wc_one _) (by first | (rw [wc_len _, wc_len _]; omega; done) | simp [wc_len]) (put_all (by first | (rw [wc_len _, wc_len _]; done) | simp [wc_len])) ?_
          intro w'' hc
          exact ⟨trivial, ⟨Nat.le_trans hsz hc.size, hc.ext hx hb_bs, hc.keep hB_0 (by first | assumption | exact Ne.symm (by assumption)), hc.keep hB_bo (by first | assumption | exact Ne.symm (by assumption)), hc.at_⟩, trivial⟩
      · clear ha a; intro a w12 hJ ha
        clear hx hB_0 hB_bo hB_bs
        obtain ⟨hsz, hx, hB_0, hB_bo, hB_bs⟩ := hJ
        clear hsz
        refine bn ?_
        refine tn ?_
        refine regp (ρ' := [(2, .pointer (some ⟨bo, 0, none⟩)), (3, .string (S (t.drop 64))), (6, .pointer (some ⟨bs, 0, none⟩))]) (C := [0 ≤ (64 : Int) ∧ 64 ≤ (t.length : Int)]) ha [] (by kernel_rfl) (.cons ⟨by omega, by omega⟩ .nil) ?_
        clear ha a; intro a ha
        exact tn ⟨((t.drop 64)).length, by rw [List.length_drop]; omega, (shaBlk c s (t.take 64)), (t.drop 64), (f - 1), rfl, ha.sub (ρ' := [(2, .pointer (some ⟨bo, 0, none⟩)), (3, .string (S (t.drop 64))), (6, .pointer (some ⟨bs, 0, none⟩))]) (by kernel_rfl), hx, hB_0, hB_bo, hB_bs, by rw [hinv]; exact shaGo_step h64 hf, by rw [List.length_drop]; omega, by rw [List.length_drop]; omega, by rw [List.length_drop]; omega⟩
    · simp only [Bool.not_eq_true', Bool.not_eq_false', Bool.and_eq_true, Bool.or_eq_true, Bool.and_eq_false_iff, Bool.or_eq_false_iff, decide_eq_true_eq, decide_eq_false_iff_not, Bool.not_eq_true, Decidable.not_not] at h41
      have hres : shaGo c (shaPad l.flatten).length shaIv (shaPad l.flatten) = s := by rw [hinv, h41]; exact shaGo_stop _ _ _ _ (by simp)
      refine wexit ?_
      refine (te (te (be ?_)))
      refine tn ?_
      refine wseq ?_
      refine reg_list ?_
      refine lnew ha rfl (by kernel_rfl) ⟨idc idZ⟩ 24 (by kernel_rfl) ?_
      clear ha a; intro bi w13 he hb_bi hB_bi a ha
      have hne_0_bi : 0 ≠ bi := ne_new hB_0 hb_bi
      have hne_bo_bi : bo ≠ bi := ne_new hB_bo hb_bi
      have hne_bs_bi : bs ≠ bi := ne_new hB_bs hb_bi
      replace hB_0 := keepB he hB_0
      replace hB_bo := keepB he hB_bo
      replace hB_bs := keepB he hB_bs
      replace hb_bi := Nat.le_trans hx.size hb_bi
      replace hx := hx.tr he
      clear he
      refine lnil ?_
      replace ha := ha.sub (ρ' := [(2, .pointer (some ⟨bo, 0, none⟩)), (6, .pointer (some ⟨bs, 0, none⟩)), (7, .pointer (some ⟨bi, 0, none⟩))]) (by kernel_rfl)
      refine tn ?_
      refine wseq ?_
      refine wseq ?_
      refine regp (ρ' := [(2, .pointer (some ⟨bo, 0, none⟩)), (6, .pointer (some ⟨bs, 0, none⟩)), (7, .pointer (some ⟨bi, 0, none⟩)), (48, .int .i64 0)]) (C := []) ha [] (by kernel_rfl) .nil ?_
      clear ha a; intro a ha
      refine tn ?_
      refine wblk ?_
      refine wloop (fun zz a w14 => ∃ (i : Nat), zz = 32 - i ∧ On 65 [(2, .pointer (some ⟨bo, 0, none⟩)), (6, .pointer (some ⟨bs, 0, none⟩)), (7, .pointer (some ⟨bi, 0, none⟩)), (48, .int .i64 ((i : Nat) : Int))] a ∧ Ext w w14 ∧ w14.heap[0]? = some (.cells ⟨wc c⟩ T0 f0) ∧ w14.heap[bo]? = some (.cells ⟨idc idZ⟩ 24 (0, 0)) ∧ w14.heap[bs]? = some (.cells ⟨wc s⟩ 64 (0, 0)) ∧ w14.heap[bi]? = some (.cells ⟨idc (sumTo s i)⟩ 24 (0, 0)) ∧ (i ≤ 32)) _ ⟨0, rfl, ha.sub (ρ' := [(2, .pointer (some ⟨bo, 0, none⟩)), (6, .pointer (some ⟨bs, 0, none⟩)), (7, .pointer (some ⟨bi, 0, none⟩)), (48, .int .i64 ((0 : Nat) : Int))]) (by kernel_rfl), hx, hB_0, hB_bo, hB_bs, hB_bi, by omega⟩ ?_
      clear ha hx hB_0 hB_bo hB_bs hB_bi
      rintro zz a w15 ⟨i, hzz, ha, hx, hB_0, hB_bo, hB_bs, hB_bi, hi32⟩
      refine wseq ?_
      refine regp (ρ' := [(2, .pointer (some ⟨bo, 0, none⟩)), (6, .pointer (some ⟨bs, 0, none⟩)), (7, .pointer (some ⟨bi, 0, none⟩)), (48, .int .i64 ((i : Nat) : Int)), (49, .bool (decide (((i : Nat) : Int) < 32)))]) (C := []) ha [] (by kernel_rfl) .nil ?_
      clear ha a; intro a ha
      refine tn ?_
      refine wseq ?_
      refine wif ha rfl (fun h49 => ?_) (fun h49 => ?_)
      · replace h49 := of_decide_eq_true h49
        refine wskip ?_
        refine tn ?_
        refine wseq ?_
        refine wblk ?_
        refine wseq ?_
        refine regp (ρ' := [(2, .pointer (some ⟨bo, 0, none⟩)), (6, .pointer (some ⟨bs, 0, none⟩)), (7, .pointer (some ⟨bi, 0, none⟩)), (8, .int .i64 ((i : Nat) : Int)), (48, .int .i64 ((i : Nat) : Int))]) (C := []) ha [] (by kernel_rfl) .nil ?_
        clear ha a; intro a ha
        refine tn ?_
        refine reg_list ?_
        refine segp (ρ' := [(2, .pointer (some ⟨bo, 0, none⟩)), (6, .pointer (some ⟨bs, 0, none⟩)), (7, .pointer (some ⟨bi, 0, none⟩)), (48, .int .i64 ((i : Nat) : Int)), (61, .int .u8 ((((s.at_ (i / 4)) / 2 ^ (24 - (8 * (i % 4)))) % 256 : Nat) : Int)), (62, .pointer (some ⟨bi, i, none⟩))]) (C := [0 ≤ ((i : Nat) : Int), 0 < (4 : Int), InR .i64 ((i / 4 : Nat) : Int), RunOk Tryd.prog w15 (Instr.indexAt 64 (.pointer (some ⟨bs, 0, none⟩)) (.int .i64 ((i / 4 : Nat) : Int))) (.pointer (some ⟨bs, (i / 4), none⟩)), RunOk Tryd.prog w15 (Instr.loadAt 52 (.pointer (some ⟨bs, (i / 4), none⟩))) (.int .u32 ((s.at_ (i / 4) : Nat) : Int)), 0 ≤ ((i : Nat) : Int), 0 < (4 : Int), InR .i64 ((8 * (i % 4) : Nat) : Int), BinOk Tryd.prog .sub 3 (.int .i64 24) (.int .i64 ((8 * (i % 4) : Nat) : Int)) (.int .i64 ((24 - (8 * (i % 4)) : Nat) : Int)), BinOk Tryd.prog .shr 52 (.int .u32 ((s.at_ (i / 4) : Nat) : Int)) (.int .i64 ((24 - (8 * (i % 4)) : Nat) : Int)) (.int .u32 (((s.at_ (i / 4)) / 2 ^ (24 - (8 * (i % 4))) : Nat) : Int)), RunOk Tryd.prog w15 (Instr.indexAt 24 (.pointer (some ⟨bi, 0, none⟩)) (.int .i64 ((i : Nat) : Int))) (.pointer (some ⟨bi, i, none⟩))]) ha 12 [(3, .val (.pointer (some ⟨bs, (i / 4), none⟩))), (4, .val (.int .u32 ((s.at_ (i / 4) : Nat) : Int))), (8, .val (.int .i64 ((24 - (8 * (i % 4)) : Nat) : Int))), (9, .val (.int .u32 (((s.at_ (i / 4)) / 2 ^ (24 - (8 * (i % 4))) : Nat) : Int))), (10, .mod), (11, .val (.pointer (some ⟨bi, i, none⟩)))] rfl (by kernel_rfl) (.cons (by omega) (.cons (by omega) (.cons (by unfold InR; omega) (.cons (ixA (n := 8) (i := (i / 4)) (by kernel_rfl) (by omega)) (.cons (ld1 hB_bs (by kernel_rfl) (wc_at (i := (i / 4)) (by omega))) (.cons (by omega) (.cons (by omega) (.cons (by unfold InR; omega) (.cons (subC (m := 24) (n := (8 * (i % 4))) (by rfl) (by omega) (by unfold InR; omega)) (.cons (shrN (a := (s.at_ (i / 4))) (n := (24 - (8 * (i % 4)))) (by show _ ≤ 32; omega)) (.cons (ixA (n := 32) (i := i) (by kernel_rfl) (by omega)) .nil))))))))))) ?_
        clear ha a; intro a ha
        refine lstoreL (off := i) (vs := [.int .u8 ((((s.at_ (i / 4)) / 2 ^ (24 - (8 * (i % 4)))) % 256 : Nat) : Int)]) (cs' := idc ((sumTo s i).set i (((s.at_ (i / 4)) / 2 ^ (24 - (8 * (i % 4)))) % 256))) ha rfl rfl (by kernel_rfl) rfl rfl hB_bi (by kernel_rfl) (by kernel_rfl) (by kernel_rfl) (by rw [idc_len _]; show i + 1 ≤ 32; omega) (by rw [put_one (by rw [idc_len _]; omega)]; exact idc_set _ _ _ (by omega)) ?_
        clear ha a; intro w16 hc a ha
        replace hB_0 := hc.keep hB_0 (by first | assumption | exact Ne.symm (by assumption))
        replace hB_bo := hc.keep hB_bo (by first | assumption | exact Ne.symm (by assumption))
        replace hB_bs := hc.keep hB_bs (by first | assumption | exact Ne.symm (by assumption))
        replace hx := hc.ext hx hb_bi
        replace hB_bi := hc.at_; clear hc
        refine lnil ?_
        replace ha := ha.sub (ρ' := [(2, .pointer (some ⟨bo, 0, none⟩)), (6, .pointer (some ⟨bs, 0, none⟩)), (7, .pointer (some ⟨bi, 0, none⟩)), (48, .int .i64 ((i : Nat) : Int))]) (by kernel_rfl)
        refine bn ?_
        refine tn ?_
        refine regp (ρ' := [(2, .pointer (some ⟨bo, 0, none⟩)), (6, .pointer (some ⟨bs, 0, none⟩)), (7, .pointer (some ⟨bi, 0, none⟩)), (48, .int .i64 ((i + 1 : Nat) : Int))]) (C := [InR .i64 ((i + 1 : Nat) : Int)]) ha [] (by kernel_rfl) (.cons (by unfold InR; omega) .nil) ?_
        clear ha a; intro a ha
        exact tn ⟨32 - ((i + 1)), by omega, (i + 1), rfl, ha.sub (ρ' := [(2, .pointer (some ⟨bo, 0, none⟩)), (6, .pointer (some ⟨bs, 0, none⟩)), (7, .pointer (some ⟨bi, 0, none⟩)), (48, .int .i64 (((i + 1) : Nat) : Int))]) (by kernel_rfl), hx, hB_0, hB_bo, hB_bs, hB_bi, by omega⟩
      · replace h49 := of_decide_eq_false h49
        obtain rfl : i = 32 := by omega
        refine wexit ?_
        refine (te (te (be ?_)))
        refine tn ?_
        refine wseq ?_
        refine reg_list ?_
        refine segp (ρ' := [(2, .pointer (some ⟨bo, 0, none⟩)), (64, .agg ⟨idc (sumTo s 32)⟩)]) (C := [RunOk Tryd.prog w15 (Instr.loadAt 24 (.pointer (some ⟨bi, 0, none⟩))) (.agg ⟨idc (sumTo s 32)⟩)]) ha 1 [(0, .val (.agg ⟨idc (sumTo s 32)⟩))] rfl (by kernel_rfl) (.cons (ldN (n := 32) hB_bi (by kernel_rfl) (by kernel_rfl) ⟨Nat.le_of_ble_eq_true (by kernel_rfl), (by kernel_rfl)⟩) .nil) ?_
        clear ha a; intro a ha
        refine lstore (off := 0) ha rfl rfl (by kernel_rfl) hB_bo ⟨idc (sumTo s 32)⟩ rfl (by kernel_rfl) (by kernel_rfl) ?_
        clear ha a; intro w17 hc a ha
        replace hB_0 := hc.keep hB_0 (by first | assumption | exact Ne.symm (by assumption))
        replace hB_bs := hc.keep hB_bs (by first | assumption | exact Ne.symm (by assumption))
        replace hB_bi := hc.keep hB_bi (by first | assumption | exact Ne.symm (by assumption))
        replace hx := hc.ext hx hb_bo
        replace hB_bo := hc.at_; clear hc
        refine lnil ?_
        replace ha := ha.sub (ρ' := [(2, .pointer (some ⟨bo, 0, none⟩))]) (by kernel_rfl)
        refine tn ?_
        refine wret ?_
        refine fin ha (.cell rfl (ldVN (n := 32) (vs := ⟨idc (sumTo s 32)⟩) hB_bo (by kernel_rfl) (by kernel_rfl) ⟨Nat.le_of_ble_eq_true (by kernel_rfl), (by kernel_rfl)⟩) .nil) ?_
        refine ⟨?_, hx⟩
        show Value.agg _ = _
        unfold shaSumC
        rw [hres]
-- UNUSED LABEL wrap
theorem rsum_ok (l : List UInt8) (w : World) (hl : l.length ≤ 1000000000) :
    Fn Tryd.prog 11 #[.string (S l)] w (fun x w' => x = .agg ⟨idc (shaSum l)⟩ ∧ Ext w w') := by
  have hx : Ext w w := Ext.rfl' w
  refine enter (N := 77) (args := [.string (S l)]) Tryd.func11 rfl rfl rfl ?_
  intro a ha
  simp only [argEnv, Nat.zero_add, Nat.reduceAdd] at ha
  refine wseq ?_
  refine reg_list ?_
  refine lnew ha rfl (by kernel_rfl) ⟨idc idZ⟩ 24 (by kernel_rfl) ?_
  clear ha a; intro bo w1 he hb_bo hB_bo a ha
  replace hb_bo := Nat.le_trans hx.size hb_bo
  replace hx := hx.tr he
  clear he
  refine lnil ?_
  replace ha := ha.sub (ρ' := [(0, .string (S l)), (2, .pointer (some ⟨bo, 0, none⟩))]) (by kernel_rfl)
  refine tn ?_
  refine wseq ?_
  refine regp (ρ' := [(0, .string (S l)), (2, .pointer (some ⟨bo, 0, none⟩)), (3, .int .u64 (((l.length * 8) % 18446744073709551616 : Nat) : Int))]) (C := [InR .u64 ((l.length : Nat) : Int), BinOk Tryd.prog .mul 61 (.int .u64 ((l.length : Nat) : Int)) (.int .u64 8) (.int .u64 (((l.length * 8) % 18446744073709551616 : Nat) : Int))]) ha [(3, .val (.int .u64 (((l.length * 8) % 18446744073709551616 : Nat) : Int)))] (by kernel_rfl) (.cons (by unfold InR; omega) (.cons (mulW_u64 (a := l.length) (n := 8)) .nil)) ?_
  clear ha a; intro a ha
  rw [show ((((l.length * 8) % 18446744073709551616 : Nat) : Int) : Int) = ((8 * l.length : Nat) : Int) from by omega] at ha
  refine tn ?_
  refine wseq ?_
  refine reg_list ?_
  refine segp (ρ' := [(2, .pointer (some ⟨bo, 0, none⟩)), (3, .int .u64 ((8 * l.length : Nat) : Int)), (15, .string (S l))]) (C := []) ha 1 [] rfl (by kernel_rfl) .nil ?_
  clear ha a; intro a ha
  refine lnewS ha rfl (by kernel_rfl) #[.int .u8 128] 5 1 (by kernel_rfl) ?_
  clear ha a; intro b2 w3 he hb_b2 hB_b2 a ha
  have hne_bo_b2 : bo ≠ b2 := ne_new hB_bo hb_b2
  replace hB_bo := keepB he hB_bo
  replace hb_b2 := Nat.le_trans hx.size hb_b2
  replace hx := hx.tr he
  clear he
  refine segp (ρ' := [(2, .pointer (some ⟨bo, 0, none⟩)), (3, .int .u64 ((8 * l.length : Nat) : Int)), (4, .string (S (l ++ [UInt8.ofNat 128])))]) (C := [RunOk Tryd.prog w3 (convert 63 9 (.slice (some ⟨b2, 0, none⟩) 1 1)) (.string (S [UInt8.ofNat 128])), (l : List UInt8).length + ([UInt8.ofNat 128] : List UInt8).length ≤ 9223372036854775807]) ha 3 [(0, .val (.string (S [UInt8.ofNat 128])))] rfl (by kernel_rfl) (.cons (cvBlk (e := 5) (zs := [(128 : Int)]) (by kernel_rfl) (by kernel_rfl) (by kernel_rfl) hB_b2 rfl rfl) (.cons (by first | omega | (simp only [List.length_cons, List.length_nil, List.length_append, List.length_take, List.length_drop]; omega)) .nil)) ?_
  clear ha a; intro a ha
  refine lnil ?_
  replace ha := ha.sub (ρ' := [(2, .pointer (some ⟨bo, 0, none⟩)), (3, .int .u64 ((8 * l.length : Nat) : Int)), (4, .string (S (l ++ [UInt8.ofNat 128])))]) (by kernel_rfl)
  rw [show ((l ++ [UInt8.ofNat 128]) : List UInt8) = (shaZ l 0) from by simp [shaZ]] at ha
  refine tn ?_
  refine wseq ?_
  refine wblk ?_
  refine wloop (fun zz a w4 => ∃ (k : Nat), zz = ((120 - (l.length + 1) % 64) % 64) - k ∧ On 77 [(2, .pointer (some ⟨bo, 0, none⟩)), (3, .int .u64 ((8 * l.length : Nat) : Int)), (4, .string (S (shaZ l k)))] a ∧ Ext w w4 ∧ w4.heap[bo]? = some (.cells ⟨idc idZ⟩ 24 (0, 0)) ∧ w4.heap[b2]? = some (.cells #[.int .u8 128] 5 (0, 0)) ∧ (k ≤ ((120 - (l.length + 1) % 64) % 64))) _ ⟨0, rfl, ha.sub (ρ' := [(2, .pointer (some ⟨bo, 0, none⟩)), (3, .int .u64 ((8 * l.length : Nat) : Int)), (4, .string (S (shaZ l 0)))]) (by kernel_rfl), hx, hB_bo, hB_b2, by omega⟩ ?_
  clear ha hx hB_bo hB_b2
  rintro zz a w5 ⟨k, hzz, ha, hx, hB_bo, hB_b2, hk⟩
  have hz := shaZ_len l k
  refine wseq ?_
  refine wseq ?_
  refine regp (ρ' := [(2, .pointer (some ⟨bo, 0, none⟩)), (3, .int .u64 ((8 * l.length : Nat) : Int)), (4, .string (S (shaZ l k))), (22, .bool (!decide (((((shaZ l k).length) % 64 : Nat) : Int) = 56)))]) (C := [0 ≤ (((shaZ l k).length : Nat) : Int), 0 < (64 : Int)]) ha [] (by kernel_rfl) (.cons (by omega) (.cons (by omega) .nil)) ?_
  clear ha a; intro a ha
  refine tn ?_
  refine wif ha rfl (fun h22 => ?_) (fun h22 => ?_)
  · simp only [Bool.not_eq_true', Bool.not_eq_false', Bool.and_eq_true, Bool.or_eq_true, Bool.and_eq_false_iff, Bool.or_eq_false_iff, decide_eq_true_eq, decide_eq_false_iff_not, Bool.not_eq_true, Decidable.not_not] at h22
    refine wskip ?_
    refine tn ?_
    refine wblk ?_
    refine reg_list ?_
    refine segp (ρ' := [(2, .pointer (some ⟨bo, 0, none⟩)), (3, .int .u64 ((8 * l.length : Nat) : Int)), (23, .string (S (shaZ l k)))]) (C := []) ha 1 [] rfl (by kernel_rfl) .nil ?_
    clear ha a; intro a ha
    refine lnewS ha rfl (by kernel_rfl) #[.int .u8 0] 5 1 (by kernel_rfl) ?_
    clear ha a; intro b6 w7 he hb_b6 hB_b6 a ha
    have hne_bo_b6 : bo ≠ b6 := ne_new hB_bo hb_b6
    have hne_b2_b6 : b2 ≠ b6 := ne_new hB_b2 hb_b6
    replace hB_bo := keepB he hB_bo
    replace hB_b2 := keepB he hB_b2
    replace hb_b6 := Nat.le_trans hx.size hb_b6
    replace hx := hx.tr he
    clear he
    refine segp (ρ' := [(2, .pointer (some ⟨bo, 0, none⟩)), (3, .int .u64 ((8 * l.length : Nat) : Int)), (4, .string (S ((shaZ l k) ++ [UInt8.ofNat 0])))]) (C := [RunOk Tryd.prog w7 (convert 63 9 (.slice (some ⟨b6, 0, none⟩) 1 1)) (.string (S [UInt8.ofNat 0])), ((shaZ l k) : List UInt8).length + ([UInt8.ofNat 0] : List UInt8).length ≤ 9223372036854775807]) ha 3 [(0, .val (.string (S [UInt8.ofNat 0])))] rfl (by kernel_rfl) (.cons (cvBlk (e := 5) (zs := [(0 : Int)]) (by kernel_rfl) (by kernel_rfl) (by kernel_rfl) hB_b6 rfl rfl) (.cons (by first | omega | (simp only [List.length_cons, List.length_nil, List.length_append, List.length_take, List.length_drop]; omega)) .nil)) ?_
    clear ha a; intro a ha
    refine lnil ?_
    replace ha := ha.sub (ρ' := [(2, .pointer (some ⟨bo, 0, none⟩)), (3, .int .u64 ((8 * l.length : Nat) : Int)), (4, .string (S ((shaZ l k) ++ [UInt8.ofNat 0])))]) (by kernel_rfl)
    rw [show (((shaZ l k) ++ [UInt8.ofNat 0]) : List UInt8) = (shaZ l (k + 1)) from shaZ_succ l k] at ha
    refine bn ?_
    exact tn ⟨((120 - (l.length + 1) % 64) % 64) - ((k + 1)), by omega, (k + 1), rfl, ha.sub (ρ' := [(2, .pointer (some ⟨bo, 0, none⟩)), (3, .int .u64 ((8 * l.length : Nat) : Int)), (4, .string (S (shaZ l (k + 1))))]) (by kernel_rfl), hx, hB_bo, hB_b2, by omega⟩
  · simp only [Bool.not_eq_true', Bool.not_eq_false', Bool.and_eq_true, Bool.or_eq_true, Bool.and_eq_false_iff, Bool.or_eq_false_iff, decide_eq_true_eq, decide_eq_false_iff_not, Bool.not_eq_true, Decidable.not_not] at h22
    obtain rfl : k = ((120 - (l.length + 1) % 64) % 64) := by omega
    have hP := shaP0_len l
    have hPad := shaPad_le l
    have hPm := shaPad_len l
    rw [show shaZ l ((120 - (l.length + 1) % 64) % 64) = shaP0 l ++ be8 (8 * l.length) 0 by simp [shaZ, shaP0, be8]] at ha
    refine wexit ?_
    refine (te (te (be ?_)))
    refine tn ?_
    refine wseq ?_
    refine wseq ?_
    refine regp (ρ' := [(2, .pointer (some ⟨bo, 0, none⟩)), (3, .int .u64 ((8 * l.length : Nat) : Int)), (4, .string (S (shaP0 l ++ be8 (8 * l.length) 0))), (5, .int .i64 7)]) (C := []) ha [] (by kernel_rfl) .nil ?_
    clear ha a; intro a ha
    rw [show (7 : Int) = (7 - ((0 : Nat) : Int)) from by omega] at ha
    refine tn ?_
    refine wblk ?_
    refine wloop (fun zz a w8 => ∃ (k : Nat), zz = 8 - k ∧ On 77 [(2, .pointer (some ⟨bo, 0, none⟩)), (3, .int .u64 ((8 * l.length : Nat) : Int)), (4, .string (S (shaP0 l ++ be8 (8 * l.length) k))), (5, .int .i64 (7 - ((k : Nat) : Int)))] a ∧ Ext w w8 ∧ w8.heap[bo]? = some (.cells ⟨idc idZ⟩ 24 (0, 0)) ∧ w8.heap[b2]? = some (.cells #[.int .u8 128] 5 (0, 0)) ∧ (k ≤ 8)) _ ⟨0, rfl, ha.sub (ρ' := [(2, .pointer (some ⟨bo, 0, none⟩)), (3, .int .u64 ((8 * l.length : Nat) : Int)), (4, .string (S (shaP0 l ++ be8 (8 * l.length) 0))), (5, .int .i64 (7 - ((0 : Nat) : Int)))]) (by kernel_rfl), hx, hB_bo, hB_b2, by omega⟩ ?_
    clear ha hx hB_bo hB_b2
    rintro zz a w9 ⟨k, hzz, ha, hx, hB_bo, hB_b2, hk8⟩
    refine wseq ?_
    refine wseq ?_
    refine regp (ρ' := [(2, .pointer (some ⟨bo, 0, none⟩)), (3, .int .u64 ((8 * l.length : Nat) : Int)), (4, .string (S (shaP0 l ++ be8 (8 * l.length) k))), (5, .int .i64 (7 - ((k : Nat) : Int))), (28, .bool (decide ((0 : Int) ≤ (7 - ((k : Nat) : Int)))))]) (C := []) ha [] (by kernel_rfl) .nil ?_
    clear ha a; intro a ha
    refine tn ?_
    refine wif ha rfl (fun h28 => ?_) (fun h28 => ?_)
    · replace h28 := of_decide_eq_true h28
      rw [show ((7 - ((k : Nat) : Int)) : Int) = ((7 - k : Nat) : Int) from by omega] at ha
      have hbl := be8_len (8 * l.length) k
      refine wskip ?_
      refine tn ?_
      refine wseq ?_
      refine wblk ?_
      refine reg_list ?_
      refine segp (ρ' := [(2, .pointer (some ⟨bo, 0, none⟩)), (3, .int .u64 ((8 * l.length : Nat) : Int)), (5, .int .i64 ((7 - k : Nat) : Int)), (31, .string (S (shaP0 l ++ be8 (8 * l.length) k))), (37, .int .u8 ((((8 * l.length) / 2 ^ (8 * (7 - k))) % 256 : Nat) : Int))]) (C := [InR .i64 ((8 * (7 - k) : Nat) : Int), InR .u64 ((8 * (7 - k) : Nat) : Int), BinOk Tryd.prog .shr 61 (.int .u64 ((8 * l.length : Nat) : Int)) (.int .u64 ((8 * (7 - k) : Nat) : Int)) (.int .u64 (((8 * l.length) / 2 ^ (8 * (7 - k)) : Nat) : Int))]) ha 7 [(5, .val (.int .u64 (((8 * l.length) / 2 ^ (8 * (7 - k)) : Nat) : Int))), (6, .mod)] rfl (by kernel_rfl) (.cons (by unfold InR; omega) (.cons (by unfold InR; omega) (.cons (shrN (a := (8 * l.length)) (n := (8 * (7 - k))) (by show _ ≤ 64; omega)) .nil))) ?_
      clear ha a; intro a ha
      refine lnewS ha rfl (by kernel_rfl) #[.int .u8 ((((8 * l.length) / 2 ^ (8 * (7 - k))) % 256 : Nat) : Int)] 5 1 (by kernel_rfl) ?_
      clear ha a; intro b10 w11 he hb_b10 hB_b10 a ha
      have hne_bo_b10 : bo ≠ b10 := ne_new hB_bo hb_b10
      have hne_b2_b10 : b2 ≠ b10 := ne_new hB_b2 hb_b10
      replace hB_bo := keepB he hB_bo
      replace hB_b2 := keepB he hB_b2
      replace hb_b10 := Nat.le_trans hx.size hb_b10
      replace hx := hx.tr he
      clear he
      refine segp (ρ' := [(2, .pointer (some ⟨bo, 0, none⟩)), (3, .int .u64 ((8 * l.length : Nat) : Int)), (4, .string (S ((shaP0 l ++ be8 (8 * l.length) k) ++ [UInt8.ofNat (((8 * l.length) / 2 ^ (8 * (7 - k))) % 256)]))), (5, .int .i64 ((7 - k : Nat) : Int))]) (C := [RunOk Tryd.prog w11 (convert 63 9 (.slice (some ⟨b10, 0, none⟩) 1 1)) (.string (S [UInt8.ofNat (((8 * l.length) / 2 ^ (8 * (7 - k))) % 256)])), ((shaP0 l ++ be8 (8 * l.length) k) : List UInt8).length + ([UInt8.ofNat (((8 * l.length) / 2 ^ (8 * (7 - k))) % 256)] : List UInt8).length ≤ 9223372036854775807]) ha 3 [(0, .val (.string (S [UInt8.ofNat (((8 * l.length) / 2 ^ (8 * (7 - k))) % 256)])))] rfl (by kernel_rfl) (.cons (cvBlk (e := 5) (zs := [((((8 * l.length) / 2 ^ (8 * (7 - k))) % 256 : Nat) : Int)]) (by kernel_rfl) (by kernel_rfl) (by kernel_rfl) hB_b10 rfl rfl) (.cons (by first | omega | (simp only [List.length_cons, List.length_nil, List.length_append, List.length_take, List.length_drop]; omega)) .nil)) ?_
      clear ha a; intro a ha
      refine lnil ?_
      replace ha := ha.sub (ρ' := [(2, .pointer (some ⟨bo, 0, none⟩)), (3, .int .u64 ((8 * l.length : Nat) : Int)), (4, .string (S ((shaP0 l ++ be8 (8 * l.length) k) ++ [UInt8.ofNat (((8 * l.length) / 2 ^ (8 * (7 - k))) % 256)]))), (5, .int .i64 ((7 - k : Nat) : Int))]) (by kernel_rfl)
      rw [show (((shaP0 l ++ be8 (8 * l.length) k) ++ [UInt8.ofNat (((8 * l.length) / 2 ^ (8 * (7 - k))) % 256)]) : List UInt8) = (shaP0 l ++ be8 (8 * l.length) (k + 1)) from by rw [List.append_assoc, be8_back _ _ (by omega)]] at ha
      refine bn ?_
      refine tn ?_
      refine regp (ρ' := [(2, .pointer (some ⟨bo, 0, none⟩)), (3, .int .u64 ((8 * l.length : Nat) : Int)), (4, .string (S (shaP0 l ++ be8 (8 * l.length) (k + 1)))), (5, .int .i64 (((7 - k : Nat) : Int) - 1))]) (C := [InR .i64 (((7 - k : Nat) : Int) - 1)]) ha [] (by kernel_rfl) (.cons (by unfold InR; omega) .nil) ?_
      clear ha a; intro a ha
      rw [show ((((7 - k : Nat) : Int) - 1) : Int) = (7 - ((k + 1 : Nat) : Int)) from by omega] at ha
      exact tn ⟨8 - ((k + 1)), by omega, (k + 1), rfl, ha.sub (ρ' := [(2, .pointer (some ⟨bo, 0, none⟩)), (3, .int .u64 ((8 * l.length : Nat) : Int)), (4, .string (S (shaP0 l ++ be8 (8 * l.length) (k + 1)))), (5, .int .i64 (7 - (((k + 1) : Nat) : Int)))]) (by kernel_rfl), hx, hB_bo, hB_b2, by omega⟩
    · replace h28 := of_decide_eq_false h28
      obtain rfl : k = 8 := by omega
      rw [← shaPad_eq] at ha
      refine wexit ?_
      refine (te (te (be ?_)))
      refine tn ?_
      refine wseq ?_
      refine reg_list ?_
      refine segp (ρ' := [(2, .pointer (some ⟨bo, 0, none⟩)), (4, .string (S (shaPad l))), (41, .agg #[.int .u32 1779033703, .int .u32 3144134277, .int .u32 1013904242, .int .u32 2773480762, .int .u32 1359893119, .int .u32 2600822924, .int .u32 528734635, .int .u32 1541459225])]) (C := []) ha 1 [] rfl (by kernel_rfl) .nil ?_
      clear ha a; intro a ha
      refine lnew ha rfl (by kernel_rfl) ⟨wc (wz 8)⟩ 64 (by kernel_rfl) ?_
      clear ha a; intro bs w12 he hb_bs hB_bs a ha
      have hne_bo_bs : bo ≠ bs := ne_new hB_bo hb_bs
      have hne_b2_bs : b2 ≠ bs := ne_new hB_b2 hb_bs
      replace hB_bo := keepB he hB_bo
      replace hB_b2 := keepB he hB_b2
      replace hb_bs := Nat.le_trans hx.size hb_bs
      replace hx := hx.tr he
      clear he
      refine lstoreL (off := 0) (vs := [.int .u32 1779033703, .int .u32 3144134277, .int .u32 1013904242, .int .u32 2773480762, .int .u32 1359893119, .int .u32 2600822924, .int .u32 528734635, .int .u32 1541459225]) (cs' := [.int .u32 1779033703, .int .u32 3144134277, .int .u32 1013904242, .int .u32 2773480762, .int .u32 1359893119, .int .u32 2600822924, .int .u32 528734635, .int .u32 1541459225]) ha rfl rfl (by kernel_rfl) rfl rfl hB_bs (by kernel_rfl) (by kernel_rfl) (by kernel_rfl) (by rw [wc_len _]; simp) (put_all (by rw [wc_len _]; rfl)) ?_
      clear ha a; intro w13 hc a ha
      replace hB_bo := hc.keep hB_bo (by first | assumption | exact Ne.symm (by assumption))
      replace hB_b2 := hc.keep hB_b2 (by first | assumption | exact Ne.symm (by assumption))
      replace hx := hc.ext hx hb_bs
      replace hB_bs := hc.at_; clear hc
      refine lnil ?_
      replace ha := ha.sub (ρ' := [(2, .pointer (some ⟨bo, 0, none⟩)), (4, .string (S (shaPad l))), (6, .pointer (some ⟨bs, 0, none⟩))]) (by kernel_rfl)
      rw [iv_cells] at hB_bs
      refine tn ?_
      refine wseq ?_
      refine reg_list ?_
      refine seg (ρ' := [(2, .pointer (some ⟨bo, 0, none⟩)), (4, .string (S (shaPad l))), (6, .pointer (some ⟨bs, 0, none⟩)), (42, .agg ⟨wc shaK⟩)]) (C := [CallOk Tryd.prog w13 39 #[] (.agg ⟨wc shaK⟩)]) ha 1 [(0, .val (.agg ⟨wc shaK⟩))] (by kernel_rfl) (.cons (fun w _ => rk_ok w) .nil) ?_
      clear ha a; intro a w14 ha he
      replace hx := hx.tr he
      replace hB_bo := keepB he hB_bo
      replace hB_b2 := keepB he hB_b2
      replace hB_bs := keepB he hB_bs
      clear he
      refine lnew ha rfl (by kernel_rfl) ⟨wc (wz 64)⟩ 67 (by kernel_rfl) ?_
      clear ha a; intro bk_ w15 he hb_bk_ hB_bk_ a ha
      have hne_bo_bk_ : bo ≠ bk_ := ne_new hB_bo hb_bk_
      have hne_b2_bk_ : b2 ≠ bk_ := ne_new hB_b2 hb_bk_
      have hne_bs_bk_ : bs ≠ bk_ := ne_new hB_bs hb_bk_
      replace hB_bo := keepB he hB_bo
      replace hB_b2 := keepB he hB_b2
      replace hB_bs := keepB he hB_bs
      replace hb_bk_ := Nat.le_trans hx.size hb_bk_
      replace hx := hx.tr he
      clear he
      refine lstoreL (off := 0) (vs := wc shaK) (cs' := wc shaK) ha rfl rfl (by kernel_rfl) rfl rfl hB_bk_ (by rw [wc_len _]; kernel_rfl) (by kernel_rfl) (wc_one _) (by first | (rw [wc_len _, wc_len _]; omega; done) | simp [wc_len]) (put_all (by first | (rw [wc_len _, wc_len _]; done) | simp [wc_len])) ?_
      clear ha a; intro w16 hc a ha
      replace hB_bo := hc.keep hB_bo (by first | assumption | exact Ne.symm (by assumption))
      replace hB_b2 := hc.keep hB_b2 (by first | assumption | exact Ne.symm (by assumption))
      replace hB_bs := hc.keep hB_bs (by first | assumption | exact Ne.symm (by assumption))
      replace hx := hc.ext hx hb_bk_
      replace hB_bk_ := hc.at_; clear hc
      refine lnil ?_
      replace ha := ha.sub (ρ' := [(2, .pointer (some ⟨bo, 0, none⟩)), (4, .string (S (shaPad l))), (6, .pointer (some ⟨bs, 0, none⟩)), (7, .pointer (some ⟨bk_, 0, none⟩))]) (by kernel_rfl)
      refine tn ?_
      refine wseq ?_
      refine wseq ?_
      refine regp (ρ' := [(2, .pointer (some ⟨bo, 0, none⟩)), (4, .string (S (shaPad l))), (6, .pointer (some ⟨bs, 0, none⟩)), (7, .pointer (some ⟨bk_, 0, none⟩)), (8, .int .i64 0)]) (C := []) ha [] (by kernel_rfl) .nil ?_
      clear ha a; intro a ha
      refine tn ?_
      refine wblk ?_
      refine wloop (fun zz a w17 => ∃ (s : Wn 8) (i f : Nat), zz = (shaPad l).length - i ∧ On 77 [(2, .pointer (some ⟨bo, 0, none⟩)), (4, .string (S (shaPad l))), (6, .pointer (some ⟨bs, 0, none⟩)), (7, .pointer (some ⟨bk_, 0, none⟩)), (8, .int .i64 ((i : Nat) : Int))] a ∧ Ext w w17 ∧ w17.heap[bo]? = some (.cells ⟨idc idZ⟩ 24 (0, 0)) ∧ w17.heap[b2]? = some (.cells #[.int .u8 128] 5 (0, 0)) ∧ w17.heap[bs]? = some (.cells ⟨wc s⟩ 64 (0, 0)) ∧ w17.heap[bk_]? = some (.cells ⟨wc shaK⟩ 67 (0, 0)) ∧ (shaGo shaK (shaPad l).length shaIv (shaPad l) = shaGo shaK f s ((shaPad l).drop i)) ∧ (i % 64 = 0) ∧ (i ≤ (shaPad l).length) ∧ ((shaPad l).length - i ≤ f)) _ ⟨shaIv, 0, (shaPad l).length, rfl, ha.sub (ρ' := [(2, .pointer (some ⟨bo, 0, none⟩)), (4, .string (S (shaPad l))), (6, .pointer (some ⟨bs, 0, none⟩)), (7, .pointer (some ⟨bk_, 0, none⟩)), (8, .int .i64 ((0 : Nat) : Int))]) (by kernel_rfl), hx, hB_bo, hB_b2, hB_bs, hB_bk_, rfl, by omega, by omega, by omega⟩ ?_
      clear ha hx hB_bo hB_b2 hB_bs hB_bk_
      rintro zz a w18 ⟨s, i, f, hzz, ha, hx, hB_bo, hB_b2, hB_bs, hB_bk_, hinv, hi64, hil, hf⟩
      refine wseq ?_
      refine wseq ?_
      refine regp (ρ' := [(2, .pointer (some ⟨bo, 0, none⟩)), (4, .string (S (shaPad l))), (6, .pointer (some ⟨bs, 0, none⟩)), (7, .pointer (some ⟨bk_, 0, none⟩)), (8, .int .i64 ((i : Nat) : Int)), (47, .bool (decide (((i + 64 : Nat) : Int) ≤ (((shaPad l).length : Nat) : Int))))]) (C := [InR .i64 ((i + 64 : Nat) : Int)]) ha [] (by kernel_rfl) (.cons (by unfold InR; omega) .nil) ?_
      clear ha a; intro a ha
      refine tn ?_
      refine wif ha rfl (fun h47 => ?_) (fun h47 => ?_)
      · replace h47 := of_decide_eq_true h47
        refine wskip ?_
        refine tn ?_
        refine wseq ?_
        refine wblk ?_
        refine regM hmix ha [(0, .val (.agg ⟨wc s⟩)), (6, .val (.agg ⟨wc shaK⟩)), (7, .val (.agg ⟨wc (shaBlk shaK s (((shaPad l).drop i).take ((i + 64) - i)))⟩))] [] [⟨8, .des, [], []⟩] [] (ρ' := [(2, .pointer (some ⟨bo, 0, none⟩)), (4, .string (S (shaPad l))), (6, .pointer (some ⟨bs, 0, none⟩)), (7, .pointer (some ⟨bk_, 0, none⟩)), (8, .int .i64 ((i : Nat) : Int))]) [] [fun w' => Ext w18 w', fun w' => w18.heap.size ≤ w'.heap.size ∧ Ext w w' ∧ w'.heap[bo]? = some (.cells ⟨idc idZ⟩ 24 (0, 0)) ∧ w'.heap[b2]? = some (.cells #[.int .u8 128] 5 (0, 0)) ∧ w'.heap[bs]? = some (.cells ⟨wc (shaBlk shaK s (((shaPad l).drop i).take ((i + 64) - i)))⟩ 64 (0, 0)) ∧ w'.heap[bk_]? = some (.cells ⟨wc shaK⟩ 67 (0, 0))] [(0, [0], fun w' => [RunOk Tryd.prog w' (Instr.loadAt 64 (.pointer (some ⟨bs, 0, none⟩))) (.agg ⟨wc s⟩)]), (4, [0], fun w' => [InR .i64 ((i + 64 : Nat) : Int)]), (5, [0], fun w' => [0 ≤ ((i : Nat) : Int) ∧ ((i : Nat) : Int) ≤ ((i + 64 : Nat) : Int) ∧ ((i + 64 : Nat) : Int) ≤ ((shaPad l).length : Int)]), (6, [0], fun w' => [RunOk Tryd.prog w' (Instr.loadAt 67 (.pointer (some ⟨bk_, 0, none⟩))) (.agg ⟨wc shaK⟩)]), (7, [0], fun w' => [CallOk Tryd.prog w' 40 #[.agg ⟨wc s⟩, .string (S (((shaPad l).drop i).take ((i + 64) - i))), .agg ⟨wc shaK⟩] (.agg ⟨wc (shaBlk shaK s (((shaPad l).drop i).take ((i + 64) - i)))⟩)])] (by kernel_rfl) (fun w' => by kernel_rfl) (fun w' => by kernel_rfl) (by kernel_rfl) (fun w' h => h) ?_ ?_ ?_ ?_ ?_ ?_
        · refine ⟨fun w1 w2 h e => Ext.tr h e, ?_, trivial⟩
          · rintro w1 w2 ⟨hsz, hx, hB_bo, hB_b2, hB_bs, hB_bk_⟩ he
            exact ⟨Nat.le_trans hsz he.size, hx.tr he, keepB he hB_bo, keepB he hB_b2, keepB he hB_bs, keepB he hB_bk_⟩
        · trivial
        · refine ⟨⟨?_, trivial⟩, ⟨?_, trivial⟩, ⟨?_, trivial⟩, ⟨?_, trivial⟩, ⟨?_, trivial⟩, trivial⟩
          · intro w' hJ
            have he : Ext w18 w' := hJ
            have hsz := he.size
            replace hx := hx.tr he
            replace hB_bo := keepB he hB_bo
            replace hB_b2 := keepB he hB_b2
            replace hB_bs := keepB he hB_bs
            replace hB_bk_ := keepB he hB_bk_
            clear he
            exact (.cons (ldAll (n := 8) hB_bs (by kernel_rfl) (by kernel_rfl) (wc_len _)) .nil)
          · intro w' hJ
            have he : Ext w18 w' := hJ
            have hsz := he.size
            replace hx := hx.tr he
            replace hB_bo := keepB he hB_bo
            replace hB_b2 := keepB he hB_b2
            replace hB_bs := keepB he hB_bs
            replace hB_bk_ := keepB he hB_bk_
            clear he
            exact (.cons (by unfold InR; omega) .nil)
          · intro w' hJ
            have he : Ext w18 w' := hJ
            have hsz := he.size
            replace hx := hx.tr he
            replace hB_bo := keepB he hB_bo
            replace hB_b2 := keepB he hB_b2
            replace hB_bs := keepB he hB_bs
            replace hB_bk_ := keepB he hB_bk_
            clear he
            exact (.cons ⟨by omega, by omega, by omega⟩ .nil)
          · intro w' hJ
            have he : Ext w18 w' := hJ
            have hsz := he.size
            replace hx := hx.tr he
            replace hB_bo := keepB he hB_bo
            replace hB_b2 := keepB he hB_b2
            replace hB_bs := keepB he hB_bs
            replace hB_bk_ := keepB he hB_bk_
            clear he
            exact (.cons (ldAll (n := 64) hB_bk_ (by kernel_rfl) (by kernel_rfl) (wc_len _)) .nil)
          · intro w' hJ
            have he : Ext w18 w' := hJ
            have hsz := he.size
            replace hx := hx.tr he
            replace hB_bo := keepB he hB_bo
            replace hB_b2 := keepB he hB_b2
            replace hB_bs := keepB he hB_bs
            replace hB_bk_ := keepB he hB_bk_
            clear he
            exact (.cons (fun w _ => rblock_ok _ _ _ w (by first | omega | (simp only [List.length_take, List.length_drop]; omega))) .nil)
        · trivial
        · refine ⟨?_, trivial⟩
          · intro w' hJ
            have hB_boS := hB_bo
            have hB_b2S := hB_b2
            have hB_bsS := hB_bs
            have hB_bk_S := hB_bk_
            have he : Ext w18 w' := hJ
            have hsz := he.size
            replace hx := hx.tr he
            replace hB_bo := keepB he hB_bo
            replace hB_b2 := keepB he hB_b2
            replace hB_bs := keepB he hB_bs
            replace hB_bk_ := keepB he hB_bk_
            clear he
            refine ostoreL (off := 0) (vs := wc (shaBlk shaK s (((shaPad l).drop i).take ((i + 64) - i)))) (cs' := wc (shaBlk shaK s (((shaPad l).drop i).take ((i + 64) - i)))) (t := 64) (x := .tmp 6) (y := .tmp 57) (by kernel_rfl) (by kernel_rfl) hB_bs (by rw [wc_len _]; kernel_rfl) (by kernel_rfl) (wc_one _) (by first | (rw [wc_len _, wc_len _]; omega; done) | simp [wc_len]) (put_all (by first | (rw [wc_len _, wc_len _]; done) | simp [wc_len])) ?_
            intro w'' hc
            exact ⟨trivial, ⟨Nat.le_trans hsz hc.size, hc.ext hx hb_bs, hc.keep hB_bo (by first | assumption | exact Ne.symm (by assumption)), hc.keep hB_b2 (by first | assumption | exact Ne.symm (by assumption)), hc.at_, hc.keep hB_bk_ (by first | assumption | exact Ne.symm (by assumption))⟩, trivial⟩
        · clear ha a; intro a w19 hJ ha
          clear hx hB_bo hB_b2 hB_bs hB_bk_
          obtain ⟨hsz, hx, hB_bo, hB_b2, hB_bs, hB_bk_⟩ := hJ
          clear hsz
          refine bn ?_
          refine tn ?_
          refine regp (ρ' := [(2, .pointer (some ⟨bo, 0, none⟩)), (4, .string (S (shaPad l))), (6, .pointer (some ⟨bs, 0, none⟩)), (7, .pointer (some ⟨bk_, 0, none⟩)), (8, .int .i64 ((i + 64 : Nat) : Int))]) (C := [InR .i64 ((i + 64 : Nat) : Int)]) ha [] (by kernel_rfl) (.cons (by unfold InR; omega) .nil) ?_
          clear ha a; intro a ha
          exact tn ⟨(shaPad l).length - ((i + 64)), by omega, (shaBlk shaK s (((shaPad l).drop i).take (i + 64 - i))), (i + 64), (f - 1), rfl, ha.sub (ρ' := [(2, .pointer (some ⟨bo, 0, none⟩)), (4, .string (S (shaPad l))), (6, .pointer (some ⟨bs, 0, none⟩)), (7, .pointer (some ⟨bk_, 0, none⟩)), (8, .int .i64 (((i + 64) : Nat) : Int))]) (by kernel_rfl), hx, hB_bo, hB_b2, hB_bs, hB_bk_, by rw [hinv, shaGo_step (by rw [List.length_drop]; omega) (by rw [List.length_drop]; exact hf), List.drop_drop, show i + 64 - i = 64 by omega], by omega, by omega, by omega⟩
      · replace h47 := of_decide_eq_false h47
        have hres : shaGo shaK (shaPad l).length shaIv (shaPad l) = s := by rw [hinv]; exact shaGo_stop _ _ _ _ (by rw [List.length_drop]; omega)
        refine wexit ?_
        refine (te (te (be ?_)))
        refine tn ?_
        refine wseq ?_
        refine reg_list ?_
        refine segp (ρ' := [(2, .pointer (some ⟨bo, 0, none⟩)), (6, .pointer (some ⟨bs, 0, none⟩)), (58, .agg ⟨idc idZ⟩)]) (C := []) ha 1 [] rfl (by kernel_rfl) .nil ?_
        clear ha a; intro a ha
        refine lnew ha rfl (by kernel_rfl) ⟨idc idZ⟩ 24 (by kernel_rfl) ?_
        clear ha a; intro bi w20 he hb_bi hB_bi a ha
        have hne_bo_bi : bo ≠ bi := ne_new hB_bo hb_bi
        have hne_b2_bi : b2 ≠ bi := ne_new hB_b2 hb_bi
        have hne_bs_bi : bs ≠ bi := ne_new hB_bs hb_bi
        have hne_bk__bi : bk_ ≠ bi := ne_new hB_bk_ hb_bi
        replace hB_bo := keepB he hB_bo
        replace hB_b2 := keepB he hB_b2
        replace hB_bs := keepB he hB_bs
        replace hB_bk_ := keepB he hB_bk_
        replace hb_bi := Nat.le_trans hx.size hb_bi
        replace hx := hx.tr he
        clear he
        refine lstore (off := 0) ha rfl rfl (by kernel_rfl) hB_bi ⟨idc idZ⟩ rfl (by kernel_rfl) (by kernel_rfl) ?_
        clear ha a; intro w21 hc a ha
        replace hB_bo := hc.keep hB_bo (by first | assumption | exact Ne.symm (by assumption))
        replace hB_b2 := hc.keep hB_b2 (by first | assumption | exact Ne.symm (by assumption))
        replace hB_bs := hc.keep hB_bs (by first | assumption | exact Ne.symm (by assumption))
        replace hB_bk_ := hc.keep hB_bk_ (by first | assumption | exact Ne.symm (by assumption))
        replace hx := hc.ext hx hb_bi
        replace hB_bi := hc.at_; clear hc
        refine lnil ?_
        replace ha := ha.sub (ρ' := [(2, .pointer (some ⟨bo, 0, none⟩)), (6, .pointer (some ⟨bs, 0, none⟩)), (9, .pointer (some ⟨bi, 0, none⟩))]) (by kernel_rfl)
        refine tn ?_
        refine wseq ?_
        refine wseq ?_
        refine regp (ρ' := [(2, .pointer (some ⟨bo, 0, none⟩)), (6, .pointer (some ⟨bs, 0, none⟩)), (9, .pointer (some ⟨bi, 0, none⟩)), (10, .int .i64 0)]) (C := []) ha [] (by kernel_rfl) .nil ?_
        clear ha a; intro a ha
        refine tn ?_
        refine wblk ?_
        refine wloop (fun zz a w22 => ∃ (i : Nat), zz = 32 - i ∧ On 77 [(2, .pointer (some ⟨bo, 0, none⟩)), (6, .pointer (some ⟨bs, 0, none⟩)), (9, .pointer (some ⟨bi, 0, none⟩)), (10, .int .i64 ((i : Nat) : Int))] a ∧ Ext w w22 ∧ w22.heap[bo]? = some (.cells ⟨idc idZ⟩ 24 (0, 0)) ∧ w22.heap[b2]? = some (.cells #[.int .u8 128] 5 (0, 0)) ∧ w22.heap[bs]? = some (.cells ⟨wc s⟩ 64 (0, 0)) ∧ w22.heap[bk_]? = some (.cells ⟨wc shaK⟩ 67 (0, 0)) ∧ w22.heap[bi]? = some (.cells ⟨idc (sumTo s i)⟩ 24 (0, 0)) ∧ (i ≤ 32)) _ ⟨0, rfl, ha.sub (ρ' := [(2, .pointer (some ⟨bo, 0, none⟩)), (6, .pointer (some ⟨bs, 0, none⟩)), (9, .pointer (some ⟨bi, 0, none⟩)), (10, .int .i64 ((0 : Nat) : Int))]) (by kernel_rfl), hx, hB_bo, hB_b2, hB_bs, hB_bk_, hB_bi, by omega⟩ ?_
        clear ha hx hB_bo hB_b2 hB_bs hB_bk_ hB_bi
        rintro zz a w23 ⟨i, hzz, ha, hx, hB_bo, hB_b2, hB_bs, hB_bk_, hB_bi, hi32⟩
        refine wseq ?_
        refine wseq ?_
        refine regp (ρ' := [(2, .pointer (some ⟨bo, 0, none⟩)), (6, .pointer (some ⟨bs, 0, none⟩)), (9, .pointer (some ⟨bi, 0, none⟩)), (10, .int .i64 ((i : Nat) : Int)), (60, .bool (decide (((i : Nat) : Int) < 32)))]) (C := []) ha [] (by kernel_rfl) .nil ?_
        clear ha a; intro a ha
        refine tn ?_
        refine wif ha rfl (fun h60 => ?_) (fun h60 => ?_)
        · replace h60 := of_decide_eq_true h60
          refine wskip ?_
          refine tn ?_
          refine wseq ?_
          refine wblk ?_
          refine reg_list ?_
          refine segp (ρ' := [(2, .pointer (some ⟨bo, 0, none⟩)), (6, .pointer (some ⟨bs, 0, none⟩)), (9, .pointer (some ⟨bi, 0, none⟩)), (10, .int .i64 ((i : Nat) : Int)), (74, .int .u8 ((((s.at_ (i / 4)) / 2 ^ (24 - (8 * (i % 4)))) % 256 : Nat) : Int)), (75, .pointer (some ⟨bi, i, none⟩))]) (C := [0 ≤ ((i : Nat) : Int), 0 < (4 : Int), InR .i64 ((i / 4 : Nat) : Int), RunOk Tryd.prog w23 (Instr.indexAt 64 (.pointer (some ⟨bs, 0, none⟩)) (.int .i64 ((i / 4 : Nat) : Int))) (.pointer (some ⟨bs, (i / 4), none⟩)), RunOk Tryd.prog w23 (Instr.loadAt 52 (.pointer (some ⟨bs, (i / 4), none⟩))) (.int .u32 ((s.at_ (i / 4) : Nat) : Int)), 0 ≤ ((i : Nat) : Int), 0 < (4 : Int), InR .i64 ((8 * (i % 4) : Nat) : Int), BinOk Tryd.prog .sub 3 (.int .i64 24) (.int .i64 ((8 * (i % 4) : Nat) : Int)) (.int .i64 ((24 - (8 * (i % 4)) : Nat) : Int)), InR .u64 ((24 - (8 * (i % 4)) : Nat) : Int), BinOk Tryd.prog .shr 52 (.int .u32 ((s.at_ (i / 4) : Nat) : Int)) (.int .u64 ((24 - (8 * (i % 4)) : Nat) : Int)) (.int .u32 (((s.at_ (i / 4)) / 2 ^ (24 - (8 * (i % 4))) : Nat) : Int)), RunOk Tryd.prog w23 (Instr.indexAt 24 (.pointer (some ⟨bi, 0, none⟩)) (.int .i64 ((i : Nat) : Int))) (.pointer (some ⟨bi, i, none⟩))]) ha 13 [(3, .val (.pointer (some ⟨bs, (i / 4), none⟩))), (4, .val (.int .u32 ((s.at_ (i / 4) : Nat) : Int))), (8, .val (.int .i64 ((24 - (8 * (i % 4)) : Nat) : Int))), (10, .val (.int .u32 (((s.at_ (i / 4)) / 2 ^ (24 - (8 * (i % 4))) : Nat) : Int))), (11, .mod), (12, .val (.pointer (some ⟨bi, i, none⟩)))] rfl (by kernel_rfl) (.cons (by omega) (.cons (by omega) (.cons (by unfold InR; omega) (.cons (ixA (n := 8) (i := (i / 4)) (by kernel_rfl) (by omega)) (.cons (ld1 hB_bs (by kernel_rfl) (wc_at (i := (i / 4)) (by omega))) (.cons (by omega) (.cons (by omega) (.cons (by unfold InR; omega) (.cons (subC (m := 24) (n := (8 * (i % 4))) (by rfl) (by omega) (by unfold InR; omega)) (.cons (by unfold InR; omega) (.cons (shrN (a := (s.at_ (i / 4))) (n := (24 - (8 * (i % 4)))) (by show _ ≤ 32; omega)) (.cons (ixA (n := 32) (i := i) (by kernel_rfl) (by omega)) .nil)))))))))))) ?_
          clear ha a; intro a ha
          refine lstoreL (off := i) (vs := [.int .u8 ((((s.at_ (i / 4)) / 2 ^ (24 - (8 * (i % 4)))) % 256 : Nat) : Int)]) (cs' := idc ((sumTo s i).set i (((s.at_ (i / 4)) / 2 ^ (24 - (8 * (i % 4)))) % 256))) ha rfl rfl (by kernel_rfl) rfl rfl hB_bi (by kernel_rfl) (by kernel_rfl) (by kernel_rfl) (by rw [idc_len _]; show i + 1 ≤ 32; omega) (by rw [put_one (by rw [idc_len _]; omega)]; exact idc_set _ _ _ (by omega)) ?_
          clear ha a; intro w24 hc a ha
          replace hB_bo := hc.keep hB_bo (by first | assumption | exact Ne.symm (by assumption))
          replace hB_b2 := hc.keep hB_b2 (by first | assumption | exact Ne.symm (by assumption))
          replace hB_bs := hc.keep hB_bs (by first | assumption | exact Ne.symm (by assumption))
          replace hB_bk_ := hc.keep hB_bk_ (by first | assumption | exact Ne.symm (by assumption))
          replace hx := hc.ext hx hb_bi
          replace hB_bi := hc.at_; clear hc
          refine lnil ?_
          replace ha := ha.sub (ρ' := [(2, .pointer (some ⟨bo, 0, none⟩)), (6, .pointer (some ⟨bs, 0, none⟩)), (9, .pointer (some ⟨bi, 0, none⟩)), (10, .int .i64 ((i : Nat) : Int))]) (by kernel_rfl)
          refine bn ?_
          refine tn ?_
          refine regp (ρ' := [(2, .pointer (some ⟨bo, 0, none⟩)), (6, .pointer (some ⟨bs, 0, none⟩)), (9, .pointer (some ⟨bi, 0, none⟩)), (10, .int .i64 ((i + 1 : Nat) : Int))]) (C := [InR .i64 ((i + 1 : Nat) : Int)]) ha [] (by kernel_rfl) (.cons (by unfold InR; omega) .nil) ?_
          clear ha a; intro a ha
          exact tn ⟨32 - ((i + 1)), by omega, (i + 1), rfl, ha.sub (ρ' := [(2, .pointer (some ⟨bo, 0, none⟩)), (6, .pointer (some ⟨bs, 0, none⟩)), (9, .pointer (some ⟨bi, 0, none⟩)), (10, .int .i64 (((i + 1) : Nat) : Int))]) (by kernel_rfl), hx, hB_bo, hB_b2, hB_bs, hB_bk_, hB_bi, by omega⟩
        · replace h60 := of_decide_eq_false h60
          obtain rfl : i = 32 := by omega
          refine wexit ?_
          refine (te (te (be ?_)))
          refine tn ?_
          refine wseq ?_
          refine reg_list ?_
          refine segp (ρ' := [(2, .pointer (some ⟨bo, 0, none⟩)), (76, .agg ⟨idc (sumTo s 32)⟩)]) (C := [RunOk Tryd.prog w23 (Instr.loadAt 24 (.pointer (some ⟨bi, 0, none⟩))) (.agg ⟨idc (sumTo s 32)⟩)]) ha 1 [(0, .val (.agg ⟨idc (sumTo s 32)⟩))] rfl (by kernel_rfl) (.cons (ldN (n := 32) hB_bi (by kernel_rfl) (by kernel_rfl) ⟨Nat.le_of_ble_eq_true (by kernel_rfl), (by kernel_rfl)⟩) .nil) ?_
          clear ha a; intro a ha
          refine lstore (off := 0) ha rfl rfl (by kernel_rfl) hB_bo ⟨idc (sumTo s 32)⟩ rfl (by kernel_rfl) (by kernel_rfl) ?_
          clear ha a; intro w25 hc a ha
          replace hB_b2 := hc.keep hB_b2 (by first | assumption | exact Ne.symm (by assumption))
          replace hB_bs := hc.keep hB_bs (by first | assumption | exact Ne.symm (by assumption))
          replace hB_bk_ := hc.keep hB_bk_ (by first | assumption | exact Ne.symm (by assumption))
          replace hB_bi := hc.keep hB_bi (by first | assumption | exact Ne.symm (by assumption))
          replace hx := hc.ext hx hb_bo
          replace hB_bo := hc.at_; clear hc
          refine lnil ?_
          replace ha := ha.sub (ρ' := [(2, .pointer (some ⟨bo, 0, none⟩))]) (by kernel_rfl)
          refine tn ?_
          refine wret ?_
          refine fin ha (.cell rfl (ldVN (n := 32) (vs := ⟨idc (sumTo s 32)⟩) hB_bo (by kernel_rfl) (by kernel_rfl) ⟨Nat.le_of_ble_eq_true (by kernel_rfl), (by kernel_rfl)⟩) .nil) ?_
          refine ⟨?_, hx⟩
          show Value.agg _ = _
          unfold shaSum shaSumC
          rw [hres]
-- UNUSED LABEL wrap
end Go.Kn
