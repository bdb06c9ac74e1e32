import Derived.Test.YtgimiamcigdgjaaDoorCt02
import Derived.Test.YtgimiamcigdgjaaDoorCt03
import Derived.Shelf.Strings.OnBuilder
import Derived.Shelf.Strings.Repeat
import Derived.Test.YtgimiamcigdgjaaDoorCt01
section
set_option linter.unusedSimpArgs false
set_option linter.unusedVariables false
set_option maxRecDepth 100000
namespace Go.Kn
open Go.Proofs Go.Shelf
def ren105 : Ren := ⟨fun | 105 => 68 | 212 => 85 | 99 => 76 | 165 => 55 | 166 => 45 | 170 => 52 | 169 => 50 | 263 => 95 | 264 => 96 | 206 => 93 | 240 => 65 | 241 => 71 | 276 => 81 | 277 => 88 | n => n, fun | 46 => 80 | 109 => 133 | 72 => 87 | 76 => 90 | 51 => 59 | 146 => 144 | 53 => 72 | 148 => 146 | 70 => 85 | 37 => 50 | 75 => 89 | 127 => 114 | 164 => 127 | 80 => 95 | n => n, fun n => n⟩
theorem lays105 : Lays.n105 Tryd.prog ren105 := {
  mixed := by kernel_rfl,
  f99 := by kernel_rfl,
  f105 := by kernel_rfl,
  f165 := by kernel_rfl,
  f166 := by kernel_rfl,
  f169 := by kernel_rfl,
  f170 := by kernel_rfl,
  f206 := by kernel_rfl,
  f212 := by kernel_rfl,
  f240 := by kernel_rfl,
  f241 := by kernel_rfl,
  f263 := by kernel_rfl,
  f264 := by kernel_rfl,
  f276 := by kernel_rfl,
  f277 := by kernel_rfl,
  t0 := by kernel_rfl,
  a0 := fun w => by kernel_rfl,
  z0 := fun w => by kernel_rfl,
  v0 := fun w => by kernel_rfl,
  t3 := by kernel_rfl,
  a3 := fun w => by kernel_rfl,
  z3 := fun w => by kernel_rfl,
  v3 := fun w => by kernel_rfl,
  t4 := by kernel_rfl,
  a4 := fun w => by kernel_rfl,
  z4 := fun w => by kernel_rfl,
  v4 := fun w => by kernel_rfl,
  t5 := by kernel_rfl,
  a5 := fun w => by kernel_rfl,
  z5 := fun w => by kernel_rfl,
  v5 := fun w => by kernel_rfl,
  t9 := by kernel_rfl,
  a9 := fun w => by kernel_rfl,
  z9 := fun w => by kernel_rfl,
  v9 := fun w => by kernel_rfl,
  t20 := by kernel_rfl,
  a20 := fun w => by kernel_rfl,
  z20 := fun w => by kernel_rfl,
  v20 := fun w => by kernel_rfl,
  t37 := by kernel_rfl,
  a37 := fun w => by kernel_rfl,
  z37 := fun w => by kernel_rfl,
  v37 := fun w => by kernel_rfl,
  t46 := by kernel_rfl,
  a46 := fun w => by kernel_rfl,
  z46 := fun w => by kernel_rfl,
  v46 := fun w => by kernel_rfl,
  t51 := by kernel_rfl,
  a51 := fun w => by kernel_rfl,
  z51 := fun w => by kernel_rfl,
  v51 := fun w => by kernel_rfl,
  t53 := by kernel_rfl,
  a53 := fun w => by kernel_rfl,
  z53 := fun w => by kernel_rfl,
  v53 := fun w => by kernel_rfl,
  t70 := by kernel_rfl,
  a70 := fun w => by kernel_rfl,
  z70 := fun w => by kernel_rfl,
  v70 := fun w => by kernel_rfl,
  t72 := by kernel_rfl,
  a72 := fun w => by kernel_rfl,
  z72 := fun w => by kernel_rfl,
  v72 := fun w => by kernel_rfl,
  t75 := by kernel_rfl,
  a75 := fun w => by kernel_rfl,
  z75 := fun w => by kernel_rfl,
  v75 := fun w => by kernel_rfl,
  t76 := by kernel_rfl,
  a76 := fun w => by kernel_rfl,
  z76 := fun w => by kernel_rfl,
  v76 := fun w => by kernel_rfl,
  t109 := by kernel_rfl,
  a109 := fun w => by kernel_rfl,
  z109 := fun w => by kernel_rfl,
  v109 := fun w => by kernel_rfl,
  t127 := by kernel_rfl,
  a127 := fun w => by kernel_rfl,
  z127 := fun w => by kernel_rfl,
  v127 := fun w => by kernel_rfl,
  t146 := by kernel_rfl,
  a146 := fun w => by kernel_rfl,
  z146 := fun w => by kernel_rfl,
  v146 := fun w => by kernel_rfl,
  t148 := by kernel_rfl,
  a148 := fun w => by kernel_rfl,
  z148 := fun w => by kernel_rfl,
  v148 := fun w => by kernel_rfl,
  t164 := by kernel_rfl,
  a164 := fun w => by kernel_rfl,
  z164 := fun w => by kernel_rfl,
  v164 := fun w => by kernel_rfl }
def ren156 : Ren := ⟨fun | 156 => 33 | 165 => 55 | 166 => 45 | 169 => 50 | 240 => 65 | 241 => 71 | 276 => 81 | 277 => 88 | n => n, fun | 31 => 22 | 72 => 87 | 76 => 90 | 70 => 85 | 37 => 50 | 75 => 89 | 127 => 114 | 164 => 127 | 80 => 95 | n => n, fun n => n⟩
theorem lays156 : Lays.n156 Tryd.prog ren156 := {
  mixed := by kernel_rfl,
  f156 := by kernel_rfl,
  f165 := by kernel_rfl,
  f166 := by kernel_rfl,
  f169 := by kernel_rfl,
  f240 := by kernel_rfl,
  f241 := by kernel_rfl,
  f276 := by kernel_rfl,
  f277 := by kernel_rfl,
  t0 := by kernel_rfl,
  a0 := fun w => by kernel_rfl,
  z0 := fun w => by kernel_rfl,
  v0 := fun w => by kernel_rfl,
  t3 := by kernel_rfl,
  a3 := fun w => by kernel_rfl,
  z3 := fun w => by kernel_rfl,
  v3 := fun w => by kernel_rfl,
  t4 := by kernel_rfl,
  a4 := fun w => by kernel_rfl,
  z4 := fun w => by kernel_rfl,
  v4 := fun w => by kernel_rfl,
  t9 := by kernel_rfl,
  a9 := fun w => by kernel_rfl,
  z9 := fun w => by kernel_rfl,
  v9 := fun w => by kernel_rfl,
  t20 := by kernel_rfl,
  a20 := fun w => by kernel_rfl,
  z20 := fun w => by kernel_rfl,
  v20 := fun w => by kernel_rfl,
  t31 := by kernel_rfl,
  a31 := fun w => by kernel_rfl,
  z31 := fun w => by kernel_rfl,
  v31 := fun w => by kernel_rfl,
  t37 := by kernel_rfl,
  a37 := fun w => by kernel_rfl,
  z37 := fun w => by kernel_rfl,
  v37 := fun w => by kernel_rfl,
  t70 := by kernel_rfl,
  a70 := fun w => by kernel_rfl,
  z70 := fun w => by kernel_rfl,
  v70 := fun w => by kernel_rfl,
  t72 := by kernel_rfl,
  a72 := fun w => by kernel_rfl,
  z72 := fun w => by kernel_rfl,
  v72 := fun w => by kernel_rfl,
  t75 := by kernel_rfl,
  a75 := fun w => by kernel_rfl,
  z75 := fun w => by kernel_rfl,
  v75 := fun w => by kernel_rfl,
  t76 := by kernel_rfl,
  a76 := fun w => by kernel_rfl,
  z76 := fun w => by kernel_rfl,
  v76 := fun w => by kernel_rfl,
  t127 := by kernel_rfl,
  a127 := fun w => by kernel_rfl,
  z127 := fun w => by kernel_rfl,
  v127 := fun w => by kernel_rfl,
  t164 := by kernel_rfl,
  a164 := fun w => by kernel_rfl,
  z164 := fun w => by kernel_rfl,
  v164 := fun w => by kernel_rfl }
theorem x72_105 : Builder.X72 Tryd.prog ren105 := {
  sizeBuilder := by kernel_rfl,
  liesBuilder := by kernel_rfl }
theorem extra105 : Builder.Extra Tryd.prog ren105 := {
  toX72 := x72_105, t5 := by kernel_rfl, a5 := fun w => by kernel_rfl, z5 := fun w => by kernel_rfl, v5 := fun w => by kernel_rfl, infoByte := by kernel_rfl, cellsByte := by kernel_rfl, sizeByte := by kernel_rfl, neB5 := by decide }
theorem x72_156 : Builder.X72 Tryd.prog ren156 := {
  sizeBuilder := by kernel_rfl,
  liesBuilder := by kernel_rfl }
theorem extra156 : Builder.Extra Tryd.prog ren156 := {
  toX72 := x72_156, t5 := by kernel_rfl, a5 := fun w => by kernel_rfl, z5 := fun w => by kernel_rfl, v5 := fun w => by kernel_rfl, infoByte := by kernel_rfl, cellsByte := by kernel_rfl, sizeByte := by kernel_rfl, neB5 := by decide }
theorem S_list (l : List UInt8) : (S l).data.toList = l := by simp [S]
theorem repeat_ok (l : List UInt8) (c : Nat) (w : World) (hc : c ≤ 9223372036854775807) (hlen : l.length * c ≤ 140737488355328) : FnV Tryd.prog 68 #[.string (S l), .int .i64 ((c : Nat) : Int)] w (.string (S (Go.Lib.repeatL l c))) := by
  have h := Any.strings_Repeat lays105 extra105 (S l) c w hc (by rw [S_size]; exact hlen)
  rw [S_list] at h
  exact Calls.mono h fun e w' ⟨h1, h2⟩ => ⟨_, h1, rfl, h2⟩
theorem rep0_ok (c : Nat) (w : World) (hc : c ≤ 1000) : FnV Tryd.prog 68 #[.string (S [0]), .int .i64 ((c : Nat) : Int)] w (.string (S (List.replicate c 0))) := by
  have := repeat_ok [0] c w (by omega) (by simp; omega)
  rwa [repeat_rep] at this
theorem join_ok (bk o c : Nat) (l : List (List UInt8)) (sep : List UInt8) (w : World) (hr : Rd w 1 (some ⟨bk, o, none⟩) l.length (l.flatMap encS)) (hne : l ≠ []) (hcap : l.length ≤ c) (hN : l.length ≤ 140737488355328) (hlen : (Go.Lib.join l sep).length ≤ 140737488355328) :
    FnV Tryd.prog 33 #[.slice (some ⟨bk, o, none⟩) l.length c, .string (S sep)] w (.string (S (Go.Lib.join l sep))) := by
  have e1 : (l.map S).map (·.data.toList) = l := by rw [List.map_map]; conv => rhs; rw [← List.map_id l]
                                                    exact List.map_congr_left fun x _ => S_list x
  have hc : ∀ (j : Nat) x, (l.map S)[j]? = some x → w.cell? ⟨bk, o + j, none⟩ = some (.string x) := by
    intro j x hx
    rw [List.getElem?_map] at hx
    obtain ⟨y, hy, rfl⟩ := Option.map_eq_some_iff.1 hx
    refine hr.cell j _ ?_
    rw [encS_flat, List.getElem?_map, hy]; rfl
  have hlt : bk < w.heap.size := by
    have h0 : 0 < l.length := List.length_pos_iff.2 hne
    have := hc 0 (S l[0]) (by simp [h0])
    exact blk_lt this
  have h := Any.strings_Join lays156 extra156 bk o c (l.map S) (S sep) w hc hlt (by rw [List.length_map]; exact hN) (by rw [List.length_map]; exact hcap) (by rw [e1, S_list]; exact hlen)
  rw [e1, S_list, List.length_map] at h
  exact Calls.mono h fun e w' ⟨h1, h2⟩ => ⟨_, h1, rfl, h2⟩
theorem sum_ok (c : Wn 64) (bk o cc : Nat) (l : List (List UInt8)) (w : World) (hr : Rd w 1 (some ⟨bk, o, none⟩) l.length (l.flatMap encS)) (hne : l ≠ []) (hcap : l.length ≤ cc) (hN : l.length ≤ 100000) (hlen : l.flatten.length ≤ 1000000000) {T0 : Nat} {f0 : Nat × Nat} (hB_0 : w.heap[0]? = some (.cells ⟨wc c⟩ T0 f0)) :
    Fn Tryd.prog 49 #[.slice (some ⟨bk, o, none⟩) l.length cc] w (fun x w' => x = .agg ⟨idc (shaSumC c l.flatten)⟩ ∧ Ext w w') := by
  have hG_0 := hB_0
  have hx : Ext w w := Ext.rfl' w
  refine enter (N := 65) (args := [.slice (some ⟨bk, o, none⟩) l.length cc]) Tryd.func49 rfl rfl rfl ?_
  intro a ha
  simp only [argEnv, Nat.zero_add, Nat.reduceAdd] at ha
  refine wseq ?_
  refine reg_list ?_
  refine lnew ha rfl (by kernel_rfl) ⟨idc idZ⟩ 48 (by kernel_rfl) ?_
  clear ha a; intro bo w1 he hb_bo hB_bo a ha
  have hne_0_bo : 0 ≠ bo := ne_new hB_0 hb_bo
  replace hB_0 := keepB he hB_0
  replace hb_bo := Nat.le_trans hx.size hb_bo
  replace hx := hx.tr he
  clear he
  refine lnil ?_
  replace ha := ha.sub (ρ' := [(0, .slice (some ⟨bk, o, none⟩) l.length cc), (2, .pointer (some ⟨bo, 0, none⟩))]) (by kernel_rfl)
  refine tn ?_
  refine wseq ?_
  refine reg hmix (ρ' := [(2, .pointer (some ⟨bo, 0, none⟩)), (3, .string (S l.flatten))]) (C := [CallOk Tryd.prog w1 33 #[.slice (some ⟨bk, o, none⟩) l.length cc, .string (S [])] (.string (S l.flatten))]) ha [(1, .val (.string (S l.flatten)))] (by kernel_rfl) (.cons (fun w2 h2 => by have := join_ok bk o cc l [] w2 (rdE (hx.tr h2) hr) hne hcap (by omega) (by rw [join_flat]; omega); rwa [join_flat] at this) .nil) ?_
  clear ha a; intro a w2 ha he
  replace hx := hx.tr he
  replace hB_0 := keepB he hB_0
  replace hB_bo := keepB he hB_bo
  clear he
  refine tn ?_
  refine wseq ?_
  refine regp (ρ' := [(2, .pointer (some ⟨bo, 0, none⟩)), (3, .string (S l.flatten)), (4, .int .u64 (((l.flatten.length * 8) % 18446744073709551616 : Nat) : Int))]) (C := [InR .u64 ((l.flatten.length : Nat) : Int), BinOk Tryd.prog .mul 72 (.int .u64 ((l.flatten.length : Nat) : Int)) (.int .u64 8) (.int .u64 (((l.flatten.length * 8) % 18446744073709551616 : Nat) : Int))]) ha [(3, .val (.int .u64 (((l.flatten.length * 8) % 18446744073709551616 : Nat) : Int)))] (by kernel_rfl) (.cons (by unfold InR; omega) (.cons (mulW_u64 (a := l.flatten.length) (n := 8)) .nil)) ?_
  clear ha a; intro a ha
  rw [show ((((l.flatten.length * 8) % 18446744073709551616 : Nat) : Int) : Int) = ((8 * l.flatten.length : Nat) : Int) from by omega] at ha
  refine tn ?_
  refine wseq ?_
  refine regp (ρ' := [(2, .pointer (some ⟨bo, 0, none⟩)), (3, .string (S (l.flatten ++ [128]))), (4, .int .u64 ((8 * l.flatten.length : Nat) : Int))]) (C := [(l.flatten : List UInt8).length + ([128] : List UInt8).length ≤ 9223372036854775807]) ha [] (by kernel_rfl) (.cons (by first | omega | (simp only [List.length_cons, List.length_nil, List.length_append, List.length_take, List.length_drop]; omega)) .nil) ?_
  clear ha a; intro a ha
  obtain ⟨t1, ht1⟩ : ∃ t, t = l.flatten ++ [128] := ⟨_, rfl⟩
  rw [← ht1] at ha
  have e1 : t1.length = l.flatten.length + 1 := by rw [ht1]; simp
  have hP := shaP0_len l.flatten
  refine tn ?_
  refine wseq ?_
  refine reg hmix (ρ' := [(2, .pointer (some ⟨bo, 0, none⟩)), (3, .string (S (t1 ++ (List.replicate ((120 - (t1.length % 64)) % 64) 0)))), (4, .int .u64 ((8 * l.flatten.length : Nat) : Int))]) (C := [0 ≤ ((t1.length : Nat) : Int), 0 < (64 : Int), BinOk Tryd.prog .sub 3 (.int .i64 120) (.int .i64 ((t1.length % 64 : Nat) : Int)) (.int .i64 ((120 - (t1.length % 64) : Nat) : Int)), 0 ≤ ((120 - (t1.length % 64) : Nat) : Int), 0 < (64 : Int), CallOk Tryd.prog w2 68 #[.string (S [0]), .int .i64 (((120 - (t1.length % 64)) % 64 : Nat) : Int)] (.string (S (List.replicate ((120 - (t1.length % 64)) % 64) 0))), (t1 : List UInt8).length + ((List.replicate ((120 - (t1.length % 64)) % 64) 0) : List UInt8).length ≤ 9223372036854775807]) ha [(4, .val (.int .i64 ((120 - (t1.length % 64) : Nat) : Int))), (6, .val (.string (S (List.replicate ((120 - (t1.length % 64)) % 64) 0))))] (by kernel_rfl) (.cons (by omega) (.cons (by omega) (.cons (subC (m := 120) (n := (t1.length % 64)) (by rfl) (by omega) (by unfold InR; omega)) (.cons (by omega) (.cons (by omega) (.cons (fun w _ => rep0_ok ((120 - (t1.length % 64)) % 64) w (by omega)) (.cons (by rw [List.length_replicate, e1]; omega) .nil))))))) ?_
  clear ha a; intro a w3 ha he
  replace hx := hx.tr he
  replace hB_0 := keepB he hB_0
  replace hB_bo := keepB he hB_bo
  clear he
  rw [show ((t1 ++ (List.replicate ((120 - (t1.length % 64)) % 64) 0)) : List UInt8) = (shaP0 l.flatten ++ be8 (8 * l.flatten.length) 0) from by rw [e1, ht1]; simp [shaP0, be8]] at ha
  refine tn ?_
  refine wseq ?_
  refine wseq ?_
  refine regp (ρ' := [(2, .pointer (some ⟨bo, 0, none⟩)), (3, .string (S (shaP0 l.flatten ++ be8 (8 * l.flatten.length) 0))), (4, .int .u64 ((8 * l.flatten.length : Nat) : Int)), (25, .int .i64 0)]) (C := []) ha [] (by kernel_rfl) .nil ?_
  clear ha a; intro a ha
  refine tn ?_
  refine wblk ?_
  refine wloop (fun zz a w4 => ∃ (i : Nat), zz = 8 - i ∧ On 65 [(2, .pointer (some ⟨bo, 0, none⟩)), (3, .string (S (shaP0 l.flatten ++ be8 (8 * l.flatten.length) i))), (4, .int .u64 ((8 * l.flatten.length : Nat) : Int)), (25, .int .i64 ((i : Nat) : Int))] a ∧ Ext w w4 ∧ w4.heap[0]? = some (.cells ⟨wc c⟩ T0 f0) ∧ w4.heap[bo]? = some (.cells ⟨idc idZ⟩ 48 (0, 0)) ∧ (i ≤ 8)) _ ⟨0, rfl, ha.sub (ρ' := [(2, .pointer (some ⟨bo, 0, none⟩)), (3, .string (S (shaP0 l.flatten ++ be8 (8 * l.flatten.length) 0))), (4, .int .u64 ((8 * l.flatten.length : Nat) : Int)), (25, .int .i64 ((0 : Nat) : Int))]) (by kernel_rfl), hx, hB_0, hB_bo, by omega⟩ ?_
  clear ha hx hB_0 hB_bo
  rintro zz a w5 ⟨i, hzz, ha, hx, hB_0, hB_bo, hi⟩
  refine wseq ?_
  refine regp (ρ' := [(2, .pointer (some ⟨bo, 0, none⟩)), (3, .string (S (shaP0 l.flatten ++ be8 (8 * l.flatten.length) i))), (4, .int .u64 ((8 * l.flatten.length : Nat) : Int)), (25, .int .i64 ((i : Nat) : Int)), (26, .bool (decide (((i : Nat) : Int) < 8)))]) (C := []) ha [] (by kernel_rfl) .nil ?_
  clear ha a; intro a ha
  refine tn ?_
  refine wseq ?_
  refine wif ha rfl (fun h26 => ?_) (fun h26 => ?_)
  · replace h26 := of_decide_eq_true h26
    have hbl := be8_len (8 * l.flatten.length) i
    refine wskip ?_
    refine tn ?_
    refine wseq ?_
    refine wblk ?_
    refine wseq ?_
    refine regp (ρ' := [(2, .pointer (some ⟨bo, 0, none⟩)), (3, .string (S (shaP0 l.flatten ++ be8 (8 * l.flatten.length) i))), (4, .int .u64 ((8 * l.flatten.length : Nat) : Int)), (5, .int .i64 ((i : Nat) : Int)), (25, .int .i64 ((i : Nat) : Int))]) (C := []) ha [] (by kernel_rfl) .nil ?_
    clear ha a; intro a ha
    refine tn ?_
    refine reg_list ?_
    refine segp (ρ' := [(2, .pointer (some ⟨bo, 0, none⟩)), (4, .int .u64 ((8 * l.flatten.length : Nat) : Int)), (25, .int .i64 ((i : Nat) : Int)), (28, .string (S (shaP0 l.flatten ++ be8 (8 * l.flatten.length) i))), (34, .int .u8 ((((8 * l.flatten.length) / 2 ^ (56 - (8 * i))) % 256 : Nat) : Int))]) (C := [InR .i64 ((8 * i : Nat) : Int), BinOk Tryd.prog .sub 3 (.int .i64 56) (.int .i64 ((8 * i : Nat) : Int)) (.int .i64 ((56 - (8 * i) : Nat) : Int)), BinOk Tryd.prog .shr 72 (.int .u64 ((8 * l.flatten.length : Nat) : Int)) (.int .i64 ((56 - (8 * i) : Nat) : Int)) (.int .u64 (((8 * l.flatten.length) / 2 ^ (56 - (8 * i)) : Nat) : Int))]) ha 7 [(4, .val (.int .i64 ((56 - (8 * i) : Nat) : Int))), (5, .val (.int .u64 (((8 * l.flatten.length) / 2 ^ (56 - (8 * i)) : Nat) : Int))), (6, .mod)] rfl (by kernel_rfl) (.cons (by unfold InR; omega) (.cons (subC (m := 56) (n := (8 * i)) (by rfl) (by omega) (by unfold InR; omega)) (.cons (shrN (a := (8 * l.flatten.length)) (n := (56 - (8 * i))) (by show _ ≤ 64; omega)) .nil))) ?_
    clear ha a; intro a ha
    refine lnewS ha rfl (by kernel_rfl) #[.int .u8 ((((8 * l.flatten.length) / 2 ^ (56 - (8 * i))) % 256 : Nat) : Int)] 5 1 (by kernel_rfl) ?_
    clear ha a; intro b6 w7 he hb_b6 hB_b6 a ha
    have hne_0_b6 : 0 ≠ b6 := ne_new hB_0 hb_b6
    have hne_bo_b6 : bo ≠ b6 := ne_new hB_bo hb_b6
    replace hB_0 := keepB he hB_0
    replace hB_bo := keepB he hB_bo
    replace hb_b6 := Nat.le_trans hx.size hb_b6
    replace hx := hx.tr he
    clear he
    refine segp (ρ' := [(2, .pointer (some ⟨bo, 0, none⟩)), (3, .string (S ((shaP0 l.flatten ++ be8 (8 * l.flatten.length) i) ++ [UInt8.ofNat (((8 * l.flatten.length) / 2 ^ (56 - (8 * i))) % 256)]))), (4, .int .u64 ((8 * l.flatten.length : Nat) : Int)), (25, .int .i64 ((i : Nat) : Int))]) (C := [RunOk Tryd.prog w7 (convert 50 9 (.slice (some ⟨b6, 0, none⟩) 1 1)) (.string (S [UInt8.ofNat (((8 * l.flatten.length) / 2 ^ (56 - (8 * i))) % 256)])), ((shaP0 l.flatten ++ be8 (8 * l.flatten.length) i) : List UInt8).length + ([UInt8.ofNat (((8 * l.flatten.length) / 2 ^ (56 - (8 * i))) % 256)] : List UInt8).length ≤ 9223372036854775807]) ha 3 [(0, .val (.string (S [UInt8.ofNat (((8 * l.flatten.length) / 2 ^ (56 - (8 * i))) % 256)])))] rfl (by kernel_rfl) (.cons (cvBlk (e := 5) (zs := [((((8 * l.flatten.length) / 2 ^ (56 - (8 * i))) % 256 : Nat) : Int)]) (by kernel_rfl) (by kernel_rfl) (by kernel_rfl) hB_b6 rfl rfl) (.cons (by first | omega | (simp only [List.length_cons, List.length_nil, List.length_append, List.length_take, List.length_drop]; omega)) .nil)) ?_
    clear ha a; intro a ha
    refine lnil ?_
    replace ha := ha.sub (ρ' := [(2, .pointer (some ⟨bo, 0, none⟩)), (3, .string (S ((shaP0 l.flatten ++ be8 (8 * l.flatten.length) i) ++ [UInt8.ofNat (((8 * l.flatten.length) / 2 ^ (56 - (8 * i))) % 256)]))), (4, .int .u64 ((8 * l.flatten.length : Nat) : Int)), (25, .int .i64 ((i : Nat) : Int))]) (by kernel_rfl)
    rw [show (((shaP0 l.flatten ++ be8 (8 * l.flatten.length) i) ++ [UInt8.ofNat (((8 * l.flatten.length) / 2 ^ (56 - (8 * i))) % 256)]) : List UInt8) = (shaP0 l.flatten ++ be8 (8 * l.flatten.length) (i + 1)) from by rw [be8_succ, List.append_assoc]] at ha
    refine bn ?_
    refine tn ?_
    refine regp (ρ' := [(2, .pointer (some ⟨bo, 0, none⟩)), (3, .string (S (shaP0 l.flatten ++ be8 (8 * l.flatten.length) (i + 1)))), (4, .int .u64 ((8 * l.flatten.length : Nat) : Int)), (25, .int .i64 ((i + 1 : Nat) : Int))]) (C := [InR .i64 ((i + 1 : Nat) : Int)]) ha [] (by kernel_rfl) (.cons (by unfold InR; omega) .nil) ?_
    clear ha a; intro a ha
    exact tn ⟨8 - ((i + 1)), by omega, (i + 1), rfl, ha.sub (ρ' := [(2, .pointer (some ⟨bo, 0, none⟩)), (3, .string (S (shaP0 l.flatten ++ be8 (8 * l.flatten.length) (i + 1)))), (4, .int .u64 ((8 * l.flatten.length : Nat) : Int)), (25, .int .i64 (((i + 1) : Nat) : Int))]) (by kernel_rfl), hx, hB_0, hB_bo, by omega⟩
  · replace h26 := of_decide_eq_false h26
    obtain rfl : i = 8 := by omega
    rw [← shaPad_eq] at ha
    have hPl := shaPad_le l.flatten
    have hPm := shaPad_len l.flatten
    refine wexit ?_
    refine (te (te (be ?_)))
    refine tn ?_
    refine wseq ?_
    refine reg_list ?_
    refine segp (ρ' := [(2, .pointer (some ⟨bo, 0, none⟩)), (3, .string (S (shaPad l.flatten))), (39, .agg #[.int .u32 1779033703, .int .u32 3144134277, .int .u32 1013904242, .int .u32 2773480762, .int .u32 1359893119, .int .u32 2600822924, .int .u32 528734635, .int .u32 1541459225])]) (C := []) ha 1 [] rfl (by kernel_rfl) .nil ?_
    clear ha a; intro a ha
    refine lnew ha rfl (by kernel_rfl) ⟨wc (wz 8)⟩ 81 (by kernel_rfl) ?_
    clear ha a; intro bs w8 he hb_bs hB_bs a ha
    have hne_0_bs : 0 ≠ bs := ne_new hB_0 hb_bs
    have hne_bo_bs : bo ≠ bs := ne_new hB_bo hb_bs
    replace hB_0 := keepB he hB_0
    replace hB_bo := keepB he hB_bo
    replace hb_bs := Nat.le_trans hx.size hb_bs
    replace hx := hx.tr he
    clear he
    refine lstoreL (off := 0) (vs := [.int .u32 1779033703, .int .u32 3144134277, .int .u32 1013904242, .int .u32 2773480762, .int .u32 1359893119, .int .u32 2600822924, .int .u32 528734635, .int .u32 1541459225]) (cs' := [.int .u32 1779033703, .int .u32 3144134277, .int .u32 1013904242, .int .u32 2773480762, .int .u32 1359893119, .int .u32 2600822924, .int .u32 528734635, .int .u32 1541459225]) ha rfl rfl (by kernel_rfl) rfl rfl hB_bs (by kernel_rfl) (by kernel_rfl) (by kernel_rfl) (by rw [wc_len _]; simp) (put_all (by rw [wc_len _]; rfl)) ?_
    clear ha a; intro w9 hc a ha
    replace hB_0 := hc.keep hB_0 (by first | assumption | exact Ne.symm (by assumption))
    replace hB_bo := hc.keep hB_bo (by first | assumption | exact Ne.symm (by assumption))
    replace hx := hc.ext hx hb_bs
    replace hB_bs := hc.at_; clear hc
    refine lnil ?_
    replace ha := ha.sub (ρ' := [(2, .pointer (some ⟨bo, 0, none⟩)), (3, .string (S (shaPad l.flatten))), (6, .pointer (some ⟨bs, 0, none⟩))]) (by kernel_rfl)
    rw [iv_cells] at hB_bs
    refine tn ?_
    refine wseq ?_
    refine wblk ?_
    refine wloop (fun zz a w10 => ∃ (s : Wn 8) (t : List UInt8) (f : Nat), zz = t.length ∧ On 65 [(2, .pointer (some ⟨bo, 0, none⟩)), (3, .string (S t)), (6, .pointer (some ⟨bs, 0, none⟩))] a ∧ Ext w w10 ∧ w10.heap[0]? = some (.cells ⟨wc c⟩ T0 f0) ∧ w10.heap[bo]? = some (.cells ⟨idc idZ⟩ 48 (0, 0)) ∧ w10.heap[bs]? = some (.cells ⟨wc s⟩ 81 (0, 0)) ∧ (shaGo c (shaPad l.flatten).length shaIv (shaPad l.flatten) = shaGo c f s t) ∧ (t.length % 64 = 0) ∧ (t.length ≤ f) ∧ (t.length ≤ 10000000000)) _ ⟨shaIv, (shaPad l.flatten), (shaPad l.flatten).length, rfl, ha.sub (ρ' := [(2, .pointer (some ⟨bo, 0, none⟩)), (3, .string (S (shaPad l.flatten))), (6, .pointer (some ⟨bs, 0, none⟩))]) (by kernel_rfl), hx, hB_0, hB_bo, hB_bs, rfl, by omega, Nat.le_refl _, by omega⟩ ?_
    clear ha hx hB_0 hB_bo hB_bs
    rintro zz a w11 ⟨s, t, f, hzz, ha, hx, hB_0, hB_bo, hB_bs, hinv, hm, hf, htl⟩
    refine wseq ?_
    refine wseq ?_
    refine regp (ρ' := [(2, .pointer (some ⟨bo, 0, none⟩)), (3, .string (S t)), (6, .pointer (some ⟨bs, 0, none⟩)), (41, .bool (!decide ((t : List UInt8) = ([] : List UInt8))))]) (C := []) ha [] (by kernel_rfl) .nil ?_
    clear ha a; intro a ha
    refine tn ?_
    refine wif ha rfl (fun h41 => ?_) (fun h41 => ?_)
    · simp only [Bool.not_eq_true', Bool.not_eq_false', Bool.and_eq_true, Bool.or_eq_true, Bool.and_eq_false_iff, Bool.or_eq_false_iff, decide_eq_true_eq, decide_eq_false_iff_not, Bool.not_eq_true, Decidable.not_not] at h41
      have h0 : 0 < t.length := List.length_pos_iff.2 h41
      have h64 : 64 ≤ t.length := by omega
      refine wskip ?_
      refine tn ?_
      refine wseq ?_
      refine wblk ?_
      refine regM hmix ha [(0, .val (.agg ⟨wc s⟩)), (3, .val (.agg ⟨wc (shaBlk c s (t.take 64))⟩))] [] [⟨4, .des, [], []⟩] [] (ρ' := [(2, .pointer (some ⟨bo, 0, none⟩)), (3, .string (S t)), (6, .pointer (some ⟨bs, 0, none⟩))]) [] [fun w' => Ext w11 w', fun w' => w11.heap.size ≤ w'.heap.size ∧ Ext w w' ∧ w'.heap[0]? = some (.cells ⟨wc c⟩ T0 f0) ∧ w'.heap[bo]? = some (.cells ⟨idc idZ⟩ 48 (0, 0)) ∧ w'.heap[bs]? = some (.cells ⟨wc (shaBlk c s (t.take 64))⟩ 81 (0, 0))] [(0, [0], fun w' => [RunOk Tryd.prog w' (Instr.loadAt 81 (.pointer (some ⟨bs, 0, none⟩))) (.agg ⟨wc s⟩)]), (2, [0], fun w' => [0 ≤ (64 : Int) ∧ 64 ≤ (t.length : Int)]), (3, [0], fun w' => [CallOk Tryd.prog w' 69 #[.agg ⟨wc s⟩, .string (S (t.take 64))] (.agg ⟨wc (shaBlk c s (t.take 64))⟩)])] (by kernel_rfl) (fun w' => by kernel_rfl) (fun w' => by kernel_rfl) (by kernel_rfl) (fun w' h => h) ?_ ?_ ?_ ?_ ?_ ?_
      · refine ⟨fun w1 w2 h e => Ext.tr h e, ?_, trivial⟩
        · rintro w1 w2 ⟨hsz, hx, hB_0, hB_bo, hB_bs⟩ he
          exact ⟨Nat.le_trans hsz he.size, hx.tr he, keepB he hB_0, keepB he hB_bo, keepB he hB_bs⟩
      · trivial
      · refine ⟨⟨?_, trivial⟩, ⟨?_, trivial⟩, ⟨?_, trivial⟩, trivial⟩
        · intro w' hJ
          have he : Ext w11 w' := hJ
          have hsz := he.size
          replace hx := hx.tr he
          replace hB_0 := keepB he hB_0
          replace hB_bo := keepB he hB_bo
          replace hB_bs := keepB he hB_bs
          clear he
          exact (.cons (ldAll (n := 8) hB_bs (by kernel_rfl) (by kernel_rfl) (wc_len _)) .nil)
        · intro w' hJ
          have he : Ext w11 w' := hJ
          have hsz := he.size
          replace hx := hx.tr he
          replace hB_0 := keepB he hB_0
          replace hB_bo := keepB he hB_bo
          replace hB_bs := keepB he hB_bs
          clear he
          exact (.cons ⟨by omega, by omega⟩ .nil)
        · intro w' hJ
          have he : Ext w11 w' := hJ
          have hsz := he.size
          replace hx := hx.tr he
          replace hB_0 := keepB he hB_0
          replace hB_bo := keepB he hB_bo
          replace hB_bs := keepB he hB_bs
          clear he
          exact (.cons (fun w2 h2 => sblock_ok c _ _ w2 (by first | omega | (simp only [List.length_take, List.length_drop]; omega)) (keepB h2 hB_0)) .nil)
      · trivial
      · refine ⟨?_, trivial⟩
        · intro w' hJ
          have hB_0S := hB_0
          have hB_boS := hB_bo
          have hB_bsS := hB_bs
          have he : Ext w11 w' := hJ
          have hsz := he.size
          replace hx := hx.tr he
          replace hB_0 := keepB he hB_0
          replace hB_bo := keepB he hB_bo
          replace hB_bs := keepB he hB_bs
          clear he
          refine ostoreL (off := 0) (vs := wc (shaBlk c s (t.take 64))) (cs' := wc (shaBlk c s (t.take 64))) (t := 81) (x := .tmp 6) (y := .tmp 47) (by kernel_rfl) (by kernel_rfl) hB_bs (by rw [wc_len _]; kernel_rfl) (by kernel_rfl) (wc_one _) (by first | (rw [wc_len _, wc_len _]; omega; done) | simp [wc_len]) (put_all (by first | (rw [wc_len _, wc_len _]; done) | simp [wc_len])) ?_
          intro w'' hc
          exact ⟨trivial, ⟨Nat.le_trans hsz hc.size, hc.ext hx hb_bs, hc.keep hB_0 (by first | assumption | exact Ne.symm (by assumption)), hc.keep hB_bo (by first | assumption | exact Ne.symm (by assumption)), hc.at_⟩, trivial⟩
      · clear ha a; intro a w12 hJ ha
        clear hx hB_0 hB_bo hB_bs
        obtain ⟨hsz, hx, hB_0, hB_bo, hB_bs⟩ := hJ
        clear hsz
        refine bn ?_
        refine tn ?_
        refine regp (ρ' := [(2, .pointer (some ⟨bo, 0, none⟩)), (3, .string (S (t.drop 64))), (6, .pointer (some ⟨bs, 0, none⟩))]) (C := [0 ≤ (64 : Int) ∧ 64 ≤ (t.length : Int)]) ha [] (by kernel_rfl) (.cons ⟨by omega, by omega⟩ .nil) ?_
        clear ha a; intro a ha
        exact tn ⟨((t.drop 64)).length, by rw [List.length_drop]; omega, (shaBlk c s (t.take 64)), (t.drop 64), (f - 1), rfl, ha.sub (ρ' := [(2, .pointer (some ⟨bo, 0, none⟩)), (3, .string (S (t.drop 64))), (6, .pointer (some ⟨bs, 0, none⟩))]) (by kernel_rfl), hx, hB_0, hB_bo, hB_bs, by rw [hinv]; exact shaGo_step h64 hf, by rw [List.length_drop]; omega, by rw [List.length_drop]; omega, by rw [List.length_drop]; omega⟩
    · simp only [Bool.not_eq_true', Bool.not_eq_false', Bool.and_eq_true, Bool.or_eq_true, Bool.and_eq_false_iff, Bool.or_eq_false_iff, decide_eq_true_eq, decide_eq_false_iff_not, Bool.not_eq_true, Decidable.not_not] at h41
      have hres : shaGo c (shaPad l.flatten).length shaIv (shaPad l.flatten) = s := by rw [hinv, h41]; exact shaGo_stop _ _ _ _ (by simp)
      refine wexit ?_
      refine (te (te (be ?_)))
      refine tn ?_
      refine wseq ?_
      refine reg_list ?_
      refine lnew ha rfl (by kernel_rfl) ⟨idc idZ⟩ 48 (by kernel_rfl) ?_
      clear ha a; intro bi w13 he hb_bi hB_bi a ha
      have hne_0_bi : 0 ≠ bi := ne_new hB_0 hb_bi
      have hne_bo_bi : bo ≠ bi := ne_new hB_bo hb_bi
      have hne_bs_bi : bs ≠ bi := ne_new hB_bs hb_bi
      replace hB_0 := keepB he hB_0
      replace hB_bo := keepB he hB_bo
      replace hB_bs := keepB he hB_bs
      replace hb_bi := Nat.le_trans hx.size hb_bi
      replace hx := hx.tr he
      clear he
      refine lnil ?_
      replace ha := ha.sub (ρ' := [(2, .pointer (some ⟨bo, 0, none⟩)), (6, .pointer (some ⟨bs, 0, none⟩)), (7, .pointer (some ⟨bi, 0, none⟩))]) (by kernel_rfl)
      refine tn ?_
      refine wseq ?_
      refine wseq ?_
      refine regp (ρ' := [(2, .pointer (some ⟨bo, 0, none⟩)), (6, .pointer (some ⟨bs, 0, none⟩)), (7, .pointer (some ⟨bi, 0, none⟩)), (48, .int .i64 0)]) (C := []) ha [] (by kernel_rfl) .nil ?_
      clear ha a; intro a ha
      refine tn ?_
      refine wblk ?_
      refine wloop (fun zz a w14 => ∃ (i : Nat), zz = 32 - i ∧ On 65 [(2, .pointer (some ⟨bo, 0, none⟩)), (6, .pointer (some ⟨bs, 0, none⟩)), (7, .pointer (some ⟨bi, 0, none⟩)), (48, .int .i64 ((i : Nat) : Int))] a ∧ Ext w w14 ∧ w14.heap[0]? = some (.cells ⟨wc c⟩ T0 f0) ∧ w14.heap[bo]? = some (.cells ⟨idc idZ⟩ 48 (0, 0)) ∧ w14.heap[bs]? = some (.cells ⟨wc s⟩ 81 (0, 0)) ∧ w14.heap[bi]? = some (.cells ⟨idc (sumTo s i)⟩ 48 (0, 0)) ∧ (i ≤ 32)) _ ⟨0, rfl, ha.sub (ρ' := [(2, .pointer (some ⟨bo, 0, none⟩)), (6, .pointer (some ⟨bs, 0, none⟩)), (7, .pointer (some ⟨bi, 0, none⟩)), (48, .int .i64 ((0 : Nat) : Int))]) (by kernel_rfl), hx, hB_0, hB_bo, hB_bs, hB_bi, by omega⟩ ?_
      clear ha hx hB_0 hB_bo hB_bs hB_bi
      rintro zz a w15 ⟨i, hzz, ha, hx, hB_0, hB_bo, hB_bs, hB_bi, hi32⟩
      refine wseq ?_
      refine regp (ρ' := [(2, .pointer (some ⟨bo, 0, none⟩)), (6, .pointer (some ⟨bs, 0, none⟩)), (7, .pointer (some ⟨bi, 0, none⟩)), (48, .int .i64 ((i : Nat) : Int)), (49, .bool (decide (((i : Nat) : Int) < 32)))]) (C := []) ha [] (by kernel_rfl) .nil ?_
      clear ha a; intro a ha
      refine tn ?_
      refine wseq ?_
      refine wif ha rfl (fun h49 => ?_) (fun h49 => ?_)
      · replace h49 := of_decide_eq_true h49
        refine wskip ?_
        refine tn ?_
        refine wseq ?_
        refine wblk ?_
        refine wseq ?_
        refine regp (ρ' := [(2, .pointer (some ⟨bo, 0, none⟩)), (6, .pointer (some ⟨bs, 0, none⟩)), (7, .pointer (some ⟨bi, 0, none⟩)), (8, .int .i64 ((i : Nat) : Int)), (48, .int .i64 ((i : Nat) : Int))]) (C := []) ha [] (by kernel_rfl) .nil ?_
        clear ha a; intro a ha
        refine tn ?_
        refine reg_list ?_
        refine segp (ρ' := [(2, .pointer (some ⟨bo, 0, none⟩)), (6, .pointer (some ⟨bs, 0, none⟩)), (7, .pointer (some ⟨bi, 0, none⟩)), (48, .int .i64 ((i : Nat) : Int)), (61, .int .u8 ((((s.at_ (i / 4)) / 2 ^ (24 - (8 * (i % 4)))) % 256 : Nat) : Int)), (62, .pointer (some ⟨bi, i, none⟩))]) (C := [0 ≤ ((i : Nat) : Int), 0 < (4 : Int), InR .i64 ((i / 4 : Nat) : Int), RunOk Tryd.prog w15 (Instr.indexAt 81 (.pointer (some ⟨bs, 0, none⟩)) (.int .i64 ((i / 4 : Nat) : Int))) (.pointer (some ⟨bs, (i / 4), none⟩)), RunOk Tryd.prog w15 (Instr.loadAt 59 (.pointer (some ⟨bs, (i / 4), none⟩))) (.int .u32 ((s.at_ (i / 4) : Nat) : Int)), 0 ≤ ((i : Nat) : Int), 0 < (4 : Int), InR .i64 ((8 * (i % 4) : Nat) : Int), BinOk Tryd.prog .sub 3 (.int .i64 24) (.int .i64 ((8 * (i % 4) : Nat) : Int)) (.int .i64 ((24 - (8 * (i % 4)) : Nat) : Int)), BinOk Tryd.prog .shr 59 (.int .u32 ((s.at_ (i / 4) : Nat) : Int)) (.int .i64 ((24 - (8 * (i % 4)) : Nat) : Int)) (.int .u32 (((s.at_ (i / 4)) / 2 ^ (24 - (8 * (i % 4))) : Nat) : Int)), RunOk Tryd.prog w15 (Instr.indexAt 48 (.pointer (some ⟨bi, 0, none⟩)) (.int .i64 ((i : Nat) : Int))) (.pointer (some ⟨bi, i, none⟩))]) ha 12 [(3, .val (.pointer (some ⟨bs, (i / 4), none⟩))), (4, .val (.int .u32 ((s.at_ (i / 4) : Nat) : Int))), (8, .val (.int .i64 ((24 - (8 * (i % 4)) : Nat) : Int))), (9, .val (.int .u32 (((s.at_ (i / 4)) / 2 ^ (24 - (8 * (i % 4))) : Nat) : Int))), (10, .mod), (11, .val (.pointer (some ⟨bi, i, none⟩)))] rfl (by kernel_rfl) (.cons (by omega) (.cons (by omega) (.cons (by unfold InR; omega) (.cons (ixA (n := 8) (i := (i / 4)) (by kernel_rfl) (by omega)) (.cons (ld1 hB_bs (by kernel_rfl) (wc_at (i := (i / 4)) (by omega))) (.cons (by omega) (.cons (by omega) (.cons (by unfold InR; omega) (.cons (subC (m := 24) (n := (8 * (i % 4))) (by rfl) (by omega) (by unfold InR; omega)) (.cons (shrN (a := (s.at_ (i / 4))) (n := (24 - (8 * (i % 4)))) (by show _ ≤ 32; omega)) (.cons (ixA (n := 32) (i := i) (by kernel_rfl) (by omega)) .nil))))))))))) ?_
        clear ha a; intro a ha
        refine lstoreL (off := i) (vs := [.int .u8 ((((s.at_ (i / 4)) / 2 ^ (24 - (8 * (i % 4)))) % 256 : Nat) : Int)]) (cs' := idc ((sumTo s i).set i (((s.at_ (i / 4)) / 2 ^ (24 - (8 * (i % 4)))) % 256))) ha rfl rfl (by kernel_rfl) rfl rfl hB_bi (by kernel_rfl) (by kernel_rfl) (by kernel_rfl) (by rw [idc_len _]; show i + 1 ≤ 32; omega) (by rw [put_one (by rw [idc_len _]; omega)]; exact idc_set _ _ _ (by omega)) ?_
        clear ha a; intro w16 hc a ha
        replace hB_0 := hc.keep hB_0 (by first | assumption | exact Ne.symm (by assumption))
        replace hB_bo := hc.keep hB_bo (by first | assumption | exact Ne.symm (by assumption))
        replace hB_bs := hc.keep hB_bs (by first | assumption | exact Ne.symm (by assumption))
        replace hx := hc.ext hx hb_bi
        replace hB_bi := hc.at_; clear hc
        refine lnil ?_
        replace ha := ha.sub (ρ' := [(2, .pointer (some ⟨bo, 0, none⟩)), (6, .pointer (some ⟨bs, 0, none⟩)), (7, .pointer (some ⟨bi, 0, none⟩)), (48, .int .i64 ((i : Nat) : Int))]) (by kernel_rfl)
        refine bn ?_
        refine tn ?_
        refine regp (ρ' := [(2, .pointer (some ⟨bo, 0, none⟩)), (6, .pointer (some ⟨bs, 0, none⟩)), (7, .pointer (some ⟨bi, 0, none⟩)), (48, .int .i64 ((i + 1 : Nat) : Int))]) (C := [InR .i64 ((i + 1 : Nat) : Int)]) ha [] (by kernel_rfl) (.cons (by unfold InR; omega) .nil) ?_
        clear ha a; intro a ha
        exact tn ⟨32 - ((i + 1)), by omega, (i + 1), rfl, ha.sub (ρ' := [(2, .pointer (some ⟨bo, 0, none⟩)), (6, .pointer (some ⟨bs, 0, none⟩)), (7, .pointer (some ⟨bi, 0, none⟩)), (48, .int .i64 (((i + 1) : Nat) : Int))]) (by kernel_rfl), hx, hB_0, hB_bo, hB_bs, hB_bi, by omega⟩
      · replace h49 := of_decide_eq_false h49
        obtain rfl : i = 32 := by omega
        refine wexit ?_
        refine (te (te (be ?_)))
        refine tn ?_
        refine wseq ?_
        refine reg_list ?_
        refine segp (ρ' := [(2, .pointer (some ⟨bo, 0, none⟩)), (64, .agg ⟨idc (sumTo s 32)⟩)]) (C := [RunOk Tryd.prog w15 (Instr.loadAt 48 (.pointer (some ⟨bi, 0, none⟩))) (.agg ⟨idc (sumTo s 32)⟩)]) ha 1 [(0, .val (.agg ⟨idc (sumTo s 32)⟩))] rfl (by kernel_rfl) (.cons (ldN (n := 32) hB_bi (by kernel_rfl) (by kernel_rfl) ⟨Nat.le_of_ble_eq_true (by kernel_rfl), (by kernel_rfl)⟩) .nil) ?_
        clear ha a; intro a ha
        refine lstore (off := 0) ha rfl rfl (by kernel_rfl) hB_bo ⟨idc (sumTo s 32)⟩ rfl (by kernel_rfl) (by kernel_rfl) ?_
        clear ha a; intro w17 hc a ha
        replace hB_0 := hc.keep hB_0 (by first | assumption | exact Ne.symm (by assumption))
        replace hB_bs := hc.keep hB_bs (by first | assumption | exact Ne.symm (by assumption))
        replace hB_bi := hc.keep hB_bi (by first | assumption | exact Ne.symm (by assumption))
        replace hx := hc.ext hx hb_bo
        replace hB_bo := hc.at_; clear hc
        refine lnil ?_
        replace ha := ha.sub (ρ' := [(2, .pointer (some ⟨bo, 0, none⟩))]) (by kernel_rfl)
        refine tn ?_
        refine wret ?_
        refine fin ha (.cell rfl (ldVN (n := 32) (vs := ⟨idc (sumTo s 32)⟩) hB_bo (by kernel_rfl) (by kernel_rfl) ⟨Nat.le_of_ble_eq_true (by kernel_rfl), (by kernel_rfl)⟩) .nil) ?_
        refine ⟨?_, hx⟩
        show Value.agg _ = _
        unfold shaSumC
        rw [hres]
-- UNUSED LABEL wrap
theorem rsum_ok (l : List UInt8) (w : World) (hl : l.length ≤ 1000000000) :
    Fn Tryd.prog 25 #[.string (S l)] w (fun x w' => x = .agg ⟨idc (shaSum l)⟩ ∧ Ext w w') := by
  have hx : Ext w w := Ext.rfl' w
  refine enter (N := 77) (args := [.string (S l)]) Tryd.func25 rfl rfl rfl ?_
  intro a ha
  simp only [argEnv, Nat.zero_add, Nat.reduceAdd] at ha
  refine wseq ?_
  refine reg_list ?_
  refine lnew ha rfl (by kernel_rfl) ⟨idc idZ⟩ 48 (by kernel_rfl) ?_
  clear ha a; intro bo w1 he hb_bo hB_bo a ha
  replace hb_bo := Nat.le_trans hx.size hb_bo
  replace hx := hx.tr he
  clear he
  refine lnil ?_
  replace ha := ha.sub (ρ' := [(0, .string (S l)), (2, .pointer (some ⟨bo, 0, none⟩))]) (by kernel_rfl)
  refine tn ?_
  refine wseq ?_
  refine regp (ρ' := [(0, .string (S l)), (2, .pointer (some ⟨bo, 0, none⟩)), (3, .int .u64 (((l.length * 8) % 18446744073709551616 : Nat) : Int))]) (C := [InR .u64 ((l.length : Nat) : Int), BinOk Tryd.prog .mul 72 (.int .u64 ((l.length : Nat) : Int)) (.int .u64 8) (.int .u64 (((l.length * 8) % 18446744073709551616 : Nat) : Int))]) ha [(3, .val (.int .u64 (((l.length * 8) % 18446744073709551616 : Nat) : Int)))] (by kernel_rfl) (.cons (by unfold InR; omega) (.cons (mulW_u64 (a := l.length) (n := 8)) .nil)) ?_
  clear ha a; intro a ha
  rw [show ((((l.length * 8) % 18446744073709551616 : Nat) : Int) : Int) = ((8 * l.length : Nat) : Int) from by omega] at ha
  refine tn ?_
  refine wseq ?_
  refine reg_list ?_
  refine segp (ρ' := [(2, .pointer (some ⟨bo, 0, none⟩)), (3, .int .u64 ((8 * l.length : Nat) : Int)), (15, .string (S l))]) (C := []) ha 1 [] rfl (by kernel_rfl) .nil ?_
  clear ha a; intro a ha
  refine lnewS ha rfl (by kernel_rfl) #[.int .u8 128] 5 1 (by kernel_rfl) ?_
  clear ha a; intro b2 w3 he hb_b2 hB_b2 a ha
  have hne_bo_b2 : bo ≠ b2 := ne_new hB_bo hb_b2
  replace hB_bo := keepB he hB_bo
  replace hb_b2 := Nat.le_trans hx.size hb_b2
  replace hx := hx.tr he
  clear he
  refine segp (ρ' := [(2, .pointer (some ⟨bo, 0, none⟩)), (3, .int .u64 ((8 * l.length : Nat) : Int)), (4, .string (S (l ++ [UInt8.ofNat 128])))]) (C := [RunOk Tryd.prog w3 (convert 50 9 (.slice (some ⟨b2, 0, none⟩) 1 1)) (.string (S [UInt8.ofNat 128])), (l : List UInt8).length + ([UInt8.ofNat 128] : List UInt8).length ≤ 9223372036854775807]) ha 3 [(0, .val (.string (S [UInt8.ofNat 128])))] rfl (by kernel_rfl) (.cons (cvBlk (e := 5) (zs := [(128 : Int)]) (by kernel_rfl) (by kernel_rfl) (by kernel_rfl) hB_b2 rfl rfl) (.cons (by first | omega | (simp only [List.length_cons, List.length_nil, List.length_append, List.length_take, List.length_drop]; omega)) .nil)) ?_
  clear ha a; intro a ha
  refine lnil ?_
  replace ha := ha.sub (ρ' := [(2, .pointer (some ⟨bo, 0, none⟩)), (3, .int .u64 ((8 * l.length : Nat) : Int)), (4, .string (S (l ++ [UInt8.ofNat 128])))]) (by kernel_rfl)
  rw [show ((l ++ [UInt8.ofNat 128]) : List UInt8) = (shaZ l 0) from by simp [shaZ]] at ha
  refine tn ?_
  refine wseq ?_
  refine wblk ?_
  refine wloop (fun zz a w4 => ∃ (k : Nat), zz = ((120 - (l.length + 1) % 64) % 64) - k ∧ On 77 [(2, .pointer (some ⟨bo, 0, none⟩)), (3, .int .u64 ((8 * l.length : Nat) : Int)), (4, .string (S (shaZ l k)))] a ∧ Ext w w4 ∧ w4.heap[bo]? = some (.cells ⟨idc idZ⟩ 48 (0, 0)) ∧ w4.heap[b2]? = some (.cells #[.int .u8 128] 5 (0, 0)) ∧ (k ≤ ((120 - (l.length + 1) % 64) % 64))) _ ⟨0, rfl, ha.sub (ρ' := [(2, .pointer (some ⟨bo, 0, none⟩)), (3, .int .u64 ((8 * l.length : Nat) : Int)), (4, .string (S (shaZ l 0)))]) (by kernel_rfl), hx, hB_bo, hB_b2, by omega⟩ ?_
  clear ha hx hB_bo hB_b2
  rintro zz a w5 ⟨k, hzz, ha, hx, hB_bo, hB_b2, hk⟩
  have hz := shaZ_len l k
  refine wseq ?_
  refine wseq ?_
  refine regp (ρ' := [(2, .pointer (some ⟨bo, 0, none⟩)), (3, .int .u64 ((8 * l.length : Nat) : Int)), (4, .string (S (shaZ l k))), (22, .bool (!decide (((((shaZ l k).length) % 64 : Nat) : Int) = 56)))]) (C := [0 ≤ (((shaZ l k).length : Nat) : Int), 0 < (64 : Int)]) ha [] (by kernel_rfl) (.cons (by omega) (.cons (by omega) .nil)) ?_
  clear ha a; intro a ha
  refine tn ?_
  refine wif ha rfl (fun h22 => ?_) (fun h22 => ?_)
  · simp only [Bool.not_eq_true', Bool.not_eq_false', Bool.and_eq_true, Bool.or_eq_true, Bool.and_eq_false_iff, Bool.or_eq_false_iff, decide_eq_true_eq, decide_eq_false_iff_not, Bool.not_eq_true, Decidable.not_not] at h22
    refine wskip ?_
    refine tn ?_
    refine wblk ?_
    refine reg_list ?_
    refine segp (ρ' := [(2, .pointer (some ⟨bo, 0, none⟩)), (3, .int .u64 ((8 * l.length : Nat) : Int)), (23, .string (S (shaZ l k)))]) (C := []) ha 1 [] rfl (by kernel_rfl) .nil ?_
    clear ha a; intro a ha
    refine lnewS ha rfl (by kernel_rfl) #[.int .u8 0] 5 1 (by kernel_rfl) ?_
    clear ha a; intro b6 w7 he hb_b6 hB_b6 a ha
    have hne_bo_b6 : bo ≠ b6 := ne_new hB_bo hb_b6
    have hne_b2_b6 : b2 ≠ b6 := ne_new hB_b2 hb_b6
    replace hB_bo := keepB he hB_bo
    replace hB_b2 := keepB he hB_b2
    replace hb_b6 := Nat.le_trans hx.size hb_b6
    replace hx := hx.tr he
    clear he
    refine segp (ρ' := [(2, .pointer (some ⟨bo, 0, none⟩)), (3, .int .u64 ((8 * l.length : Nat) : Int)), (4, .string (S ((shaZ l k) ++ [UInt8.ofNat 0])))]) (C := [RunOk Tryd.prog w7 (convert 50 9 (.slice (some ⟨b6, 0, none⟩) 1 1)) (.string (S [UInt8.ofNat 0])), ((shaZ l k) : List UInt8).length + ([UInt8.ofNat 0] : List UInt8).length ≤ 9223372036854775807]) ha 3 [(0, .val (.string (S [UInt8.ofNat 0])))] rfl (by kernel_rfl) (.cons (cvBlk (e := 5) (zs := [(0 : Int)]) (by kernel_rfl) (by kernel_rfl) (by kernel_rfl) hB_b6 rfl rfl) (.cons (by first | omega | (simp only [List.length_cons, List.length_nil, List.length_append, List.length_take, List.length_drop]; omega)) .nil)) ?_
    clear ha a; intro a ha
    refine lnil ?_
    replace ha := ha.sub (ρ' := [(2, .pointer (some ⟨bo, 0, none⟩)), (3, .int .u64 ((8 * l.length : Nat) : Int)), (4, .string (S ((shaZ l k) ++ [UInt8.ofNat 0])))]) (by kernel_rfl)
    rw [show (((shaZ l k) ++ [UInt8.ofNat 0]) : List UInt8) = (shaZ l (k + 1)) from shaZ_succ l k] at ha
    refine bn ?_
    exact tn ⟨((120 - (l.length + 1) % 64) % 64) - ((k + 1)), by omega, (k + 1), rfl, ha.sub (ρ' := [(2, .pointer (some ⟨bo, 0, none⟩)), (3, .int .u64 ((8 * l.length : Nat) : Int)), (4, .string (S (shaZ l (k + 1))))]) (by kernel_rfl), hx, hB_bo, hB_b2, by omega⟩
  · simp only [Bool.not_eq_true', Bool.not_eq_false', Bool.and_eq_true, Bool.or_eq_true, Bool.and_eq_false_iff, Bool.or_eq_false_iff, decide_eq_true_eq, decide_eq_false_iff_not, Bool.not_eq_true, Decidable.not_not] at h22
    obtain rfl : k = ((120 - (l.length + 1) % 64) % 64) := by omega
    have hP := shaP0_len l
    have hPad := shaPad_le l
    have hPm := shaPad_len l
    rw [show shaZ l ((120 - (l.length + 1) % 64) % 64) = shaP0 l ++ be8 (8 * l.length) 0 by simp [shaZ, shaP0, be8]] at ha
    refine wexit ?_
    refine (te (te (be ?_)))
    refine tn ?_
    refine wseq ?_
    refine wseq ?_
    refine regp (ρ' := [(2, .pointer (some ⟨bo, 0, none⟩)), (3, .int .u64 ((8 * l.length : Nat) : Int)), (4, .string (S (shaP0 l ++ be8 (8 * l.length) 0))), (5, .int .i64 7)]) (C := []) ha [] (by kernel_rfl) .nil ?_
    clear ha a; intro a ha
    rw [show (7 : Int) = (7 - ((0 : Nat) : Int)) from by omega] at ha
    refine tn ?_
    refine wblk ?_
    refine wloop (fun zz a w8 => ∃ (k : Nat), zz = 8 - k ∧ On 77 [(2, .pointer (some ⟨bo, 0, none⟩)), (3, .int .u64 ((8 * l.length : Nat) : Int)), (4, .string (S (shaP0 l ++ be8 (8 * l.length) k))), (5, .int .i64 (7 - ((k : Nat) : Int)))] a ∧ Ext w w8 ∧ w8.heap[bo]? = some (.cells ⟨idc idZ⟩ 48 (0, 0)) ∧ w8.heap[b2]? = some (.cells #[.int .u8 128] 5 (0, 0)) ∧ (k ≤ 8)) _ ⟨0, rfl, ha.sub (ρ' := [(2, .pointer (some ⟨bo, 0, none⟩)), (3, .int .u64 ((8 * l.length : Nat) : Int)), (4, .string (S (shaP0 l ++ be8 (8 * l.length) 0))), (5, .int .i64 (7 - ((0 : Nat) : Int)))]) (by kernel_rfl), hx, hB_bo, hB_b2, by omega⟩ ?_
    clear ha hx hB_bo hB_b2
    rintro zz a w9 ⟨k, hzz, ha, hx, hB_bo, hB_b2, hk8⟩
    refine wseq ?_
    refine wseq ?_
    refine regp (ρ' := [(2, .pointer (some ⟨bo, 0, none⟩)), (3, .int .u64 ((8 * l.length : Nat) : Int)), (4, .string (S (shaP0 l ++ be8 (8 * l.length) k))), (5, .int .i64 (7 - ((k : Nat) : Int))), (28, .bool (decide ((0 : Int) ≤ (7 - ((k : Nat) : Int)))))]) (C := []) ha [] (by kernel_rfl) .nil ?_
    clear ha a; intro a ha
    refine tn ?_
    refine wif ha rfl (fun h28 => ?_) (fun h28 => ?_)
    · replace h28 := of_decide_eq_true h28
      rw [show ((7 - ((k : Nat) : Int)) : Int) = ((7 - k : Nat) : Int) from by omega] at ha
      have hbl := be8_len (8 * l.length) k
      refine wskip ?_
      refine tn ?_
      refine wseq ?_
      refine wblk ?_
      refine reg_list ?_
      refine segp (ρ' := [(2, .pointer (some ⟨bo, 0, none⟩)), (3, .int .u64 ((8 * l.length : Nat) : Int)), (5, .int .i64 ((7 - k : Nat) : Int)), (31, .string (S (shaP0 l ++ be8 (8 * l.length) k))), (37, .int .u8 ((((8 * l.length) / 2 ^ (8 * (7 - k))) % 256 : Nat) : Int))]) (C := [InR .i64 ((8 * (7 - k) : Nat) : Int), InR .u64 ((8 * (7 - k) : Nat) : Int), BinOk Tryd.prog .shr 72 (.int .u64 ((8 * l.length : Nat) : Int)) (.int .u64 ((8 * (7 - k) : Nat) : Int)) (.int .u64 (((8 * l.length) / 2 ^ (8 * (7 - k)) : Nat) : Int))]) ha 7 [(5, .val (.int .u64 (((8 * l.length) / 2 ^ (8 * (7 - k)) : Nat) : Int))), (6, .mod)] rfl (by kernel_rfl) (.cons (by unfold InR; omega) (.cons (by unfold InR; omega) (.cons (shrN (a := (8 * l.length)) (n := (8 * (7 - k))) (by show _ ≤ 64; omega)) .nil))) ?_
      clear ha a; intro a ha
      refine lnewS ha rfl (by kernel_rfl) #[.int .u8 ((((8 * l.length) / 2 ^ (8 * (7 - k))) % 256 : Nat) : Int)] 5 1 (by kernel_rfl) ?_
      clear ha a; intro b10 w11 he hb_b10 hB_b10 a ha
      have hne_bo_b10 : bo ≠ b10 := ne_new hB_bo hb_b10
      have hne_b2_b10 : b2 ≠ b10 := ne_new hB_b2 hb_b10
      replace hB_bo := keepB he hB_bo
      replace hB_b2 := keepB he hB_b2
      replace hb_b10 := Nat.le_trans hx.size hb_b10
      replace hx := hx.tr he
      clear he
      refine segp (ρ' := [(2, .pointer (some ⟨bo, 0, none⟩)), (3, .int .u64 ((8 * l.length : Nat) : Int)), (4, .string (S ((shaP0 l ++ be8 (8 * l.length) k) ++ [UInt8.ofNat (((8 * l.length) / 2 ^ (8 * (7 - k))) % 256)]))), (5, .int .i64 ((7 - k : Nat) : Int))]) (C := [RunOk Tryd.prog w11 (convert 50 9 (.slice (some ⟨b10, 0, none⟩) 1 1)) (.string (S [UInt8.ofNat (((8 * l.length) / 2 ^ (8 * (7 - k))) % 256)])), ((shaP0 l ++ be8 (8 * l.length) k) : List UInt8).length + ([UInt8.ofNat (((8 * l.length) / 2 ^ (8 * (7 - k))) % 256)] : List UInt8).length ≤ 9223372036854775807]) ha 3 [(0, .val (.string (S [UInt8.ofNat (((8 * l.length) / 2 ^ (8 * (7 - k))) % 256)])))] rfl (by kernel_rfl) (.cons (cvBlk (e := 5) (zs := [((((8 * l.length) / 2 ^ (8 * (7 - k))) % 256 : Nat) : Int)]) (by kernel_rfl) (by kernel_rfl) (by kernel_rfl) hB_b10 rfl rfl) (.cons (by first | omega | (simp only [List.length_cons, List.length_nil, List.length_append, List.length_take, List.length_drop]; omega)) .nil)) ?_
      clear ha a; intro a ha
      refine lnil ?_
      replace ha := ha.sub (ρ' := [(2, .pointer (some ⟨bo, 0, none⟩)), (3, .int .u64 ((8 * l.length : Nat) : Int)), (4, .string (S ((shaP0 l ++ be8 (8 * l.length) k) ++ [UInt8.ofNat (((8 * l.length) / 2 ^ (8 * (7 - k))) % 256)]))), (5, .int .i64 ((7 - k : Nat) : Int))]) (by kernel_rfl)
      rw [show (((shaP0 l ++ be8 (8 * l.length) k) ++ [UInt8.ofNat (((8 * l.length) / 2 ^ (8 * (7 - k))) % 256)]) : List UInt8) = (shaP0 l ++ be8 (8 * l.length) (k + 1)) from by rw [List.append_assoc, be8_back _ _ (by omega)]] at ha
      refine bn ?_
      refine tn ?_
      refine regp (ρ' := [(2, .pointer (some ⟨bo, 0, none⟩)), (3, .int .u64 ((8 * l.length : Nat) : Int)), (4, .string (S (shaP0 l ++ be8 (8 * l.length) (k + 1)))), (5, .int .i64 (((7 - k : Nat) : Int) - 1))]) (C := [InR .i64 (((7 - k : Nat) : Int) - 1)]) ha [] (by kernel_rfl) (.cons (by unfold InR; omega) .nil) ?_
      clear ha a; intro a ha
      rw [show ((((7 - k : Nat) : Int) - 1) : Int) = (7 - ((k + 1 : Nat) : Int)) from by omega] at ha
      exact tn ⟨8 - ((k + 1)), by omega, (k + 1), rfl, ha.sub (ρ' := [(2, .pointer (some ⟨bo, 0, none⟩)), (3, .int .u64 ((8 * l.length : Nat) : Int)), (4, .string (S (shaP0 l ++ be8 (8 * l.length) (k + 1)))), (5, .int .i64 (7 - (((k + 1) : Nat) : Int)))]) (by kernel_rfl), hx, hB_bo, hB_b2, by omega⟩
    · replace h28 := of_decide_eq_false h28
      obtain rfl : k = 8 := by omega
      rw [← shaPad_eq] at ha
      refine wexit ?_
      refine (te (te (be ?_)))
      refine tn ?_
      refine wseq ?_
      refine reg_list ?_
      refine segp (ρ' := [(2, .pointer (some ⟨bo, 0, none⟩)), (4, .string (S (shaPad l))), (41, .agg #[.int .u32 1779033703, .int .u32 3144134277, .int .u32 1013904242, .int .u32 2773480762, .int .u32 1359893119, .int .u32 2600822924, .int .u32 528734635, .int .u32 1541459225])]) (C := []) ha 1 [] rfl (by kernel_rfl) .nil ?_
      clear ha a; intro a ha
      refine lnew ha rfl (by kernel_rfl) ⟨wc (wz 8)⟩ 81 (by kernel_rfl) ?_
      clear ha a; intro bs w12 he hb_bs hB_bs a ha
      have hne_bo_bs : bo ≠ bs := ne_new hB_bo hb_bs
      have hne_b2_bs : b2 ≠ bs := ne_new hB_b2 hb_bs
      replace hB_bo := keepB he hB_bo
      replace hB_b2 := keepB he hB_b2
      replace hb_bs := Nat.le_trans hx.size hb_bs
      replace hx := hx.tr he
      clear he
      refine lstoreL (off := 0) (vs := [.int .u32 1779033703, .int .u32 3144134277, .int .u32 1013904242, .int .u32 2773480762, .int .u32 1359893119, .int .u32 2600822924, .int .u32 528734635, .int .u32 1541459225]) (cs' := [.int .u32 1779033703, .int .u32 3144134277, .int .u32 1013904242, .int .u32 2773480762, .int .u32 1359893119, .int .u32 2600822924, .int .u32 528734635, .int .u32 1541459225]) ha rfl rfl (by kernel_rfl) rfl rfl hB_bs (by kernel_rfl) (by kernel_rfl) (by kernel_rfl) (by rw [wc_len _]; simp) (put_all (by rw [wc_len _]; rfl)) ?_
      clear ha a; intro w13 hc a ha
      replace hB_bo := hc.keep hB_bo (by first | assumption | exact Ne.symm (by assumption))
      replace hB_b2 := hc.keep hB_b2 (by first | assumption | exact Ne.symm (by assumption))
      replace hx := hc.ext hx hb_bs
      replace hB_bs := hc.at_; clear hc
      refine lnil ?_
      replace ha := ha.sub (ρ' := [(2, .pointer (some ⟨bo, 0, none⟩)), (4, .string (S (shaPad l))), (6, .pointer (some ⟨bs, 0, none⟩))]) (by kernel_rfl)
      rw [iv_cells] at hB_bs
      refine tn ?_
      refine wseq ?_
      refine reg_list ?_
      refine seg (ρ' := [(2, .pointer (some ⟨bo, 0, none⟩)), (4, .string (S (shaPad l))), (6, .pointer (some ⟨bs, 0, none⟩)), (42, .agg ⟨wc shaK⟩)]) (C := [CallOk Tryd.prog w13 43 #[] (.agg ⟨wc shaK⟩)]) ha 1 [(0, .val (.agg ⟨wc shaK⟩))] (by kernel_rfl) (.cons (fun w _ => rk_ok w) .nil) ?_
      clear ha a; intro a w14 ha he
      replace hx := hx.tr he
      replace hB_bo := keepB he hB_bo
      replace hB_b2 := keepB he hB_b2
      replace hB_bs := keepB he hB_bs
      clear he
      refine lnew ha rfl (by kernel_rfl) ⟨wc (wz 64)⟩ 82 (by kernel_rfl) ?_
      clear ha a; intro bk_ w15 he hb_bk_ hB_bk_ a ha
      have hne_bo_bk_ : bo ≠ bk_ := ne_new hB_bo hb_bk_
      have hne_b2_bk_ : b2 ≠ bk_ := ne_new hB_b2 hb_bk_
      have hne_bs_bk_ : bs ≠ bk_ := ne_new hB_bs hb_bk_
      replace hB_bo := keepB he hB_bo
      replace hB_b2 := keepB he hB_b2
      replace hB_bs := keepB he hB_bs
      replace hb_bk_ := Nat.le_trans hx.size hb_bk_
      replace hx := hx.tr he
      clear he
      refine lstoreL (off := 0) (vs := wc shaK) (cs' := wc shaK) ha rfl rfl (by kernel_rfl) rfl rfl hB_bk_ (by rw [wc_len _]; kernel_rfl) (by kernel_rfl) (wc_one _) (by first | (rw [wc_len _, wc_len _]; omega; done) | simp [wc_len]) (put_all (by first | (rw [wc_len _, wc_len _]; done) | simp [wc_len])) ?_
      clear ha a; intro w16 hc a ha
      replace hB_bo := hc.keep hB_bo (by first | assumption | exact Ne.symm (by assumption))
      replace hB_b2 := hc.keep hB_b2 (by first | assumption | exact Ne.symm (by assumption))
      replace hB_bs := hc.keep hB_bs (by first | assumption | exact Ne.symm (by assumption))
      replace hx := hc.ext hx hb_bk_
      replace hB_bk_ := hc.at_; clear hc
      refine lnil ?_
      replace ha := ha.sub (ρ' := [(2, .pointer (some ⟨bo, 0, none⟩)), (4, .string (S (shaPad l))), (6, .pointer (some ⟨bs, 0, none⟩)), (7, .pointer (some ⟨bk_, 0, none⟩))]) (by kernel_rfl)
      refine tn ?_
      refine wseq ?_
      refine wseq ?_
      refine regp (ρ' := [(2, .pointer (some ⟨bo, 0, none⟩)), (4, .string (S (shaPad l))), (6, .pointer (some ⟨bs, 0, none⟩)), (7, .pointer (some ⟨bk_, 0, none⟩)), (8, .int .i64 0)]) (C := []) ha [] (by kernel_rfl) .nil ?_
      clear ha a; intro a ha
      refine tn ?_
      refine wblk ?_
      refine wloop (fun zz a w17 => ∃ (s : Wn 8) (i f : Nat), zz = (shaPad l).length - i ∧ On 77 [(2, .pointer (some ⟨bo, 0, none⟩)), (4, .string (S (shaPad l))), (6, .pointer (some ⟨bs, 0, none⟩)), (7, .pointer (some ⟨bk_, 0, none⟩)), (8, .int .i64 ((i : Nat) : Int))] a ∧ Ext w w17 ∧ w17.heap[bo]? = some (.cells ⟨idc idZ⟩ 48 (0, 0)) ∧ w17.heap[b2]? = some (.cells #[.int .u8 128] 5 (0, 0)) ∧ w17.heap[bs]? = some (.cells ⟨wc s⟩ 81 (0, 0)) ∧ w17.heap[bk_]? = some (.cells ⟨wc shaK⟩ 82 (0, 0)) ∧ (shaGo shaK (shaPad l).length shaIv (shaPad l) = shaGo shaK f s ((shaPad l).drop i)) ∧ (i % 64 = 0) ∧ (i ≤ (shaPad l).length) ∧ ((shaPad l).length - i ≤ f)) _ ⟨shaIv, 0, (shaPad l).length, rfl, ha.sub (ρ' := [(2, .pointer (some ⟨bo, 0, none⟩)), (4, .string (S (shaPad l))), (6, .pointer (some ⟨bs, 0, none⟩)), (7, .pointer (some ⟨bk_, 0, none⟩)), (8, .int .i64 ((0 : Nat) : Int))]) (by kernel_rfl), hx, hB_bo, hB_b2, hB_bs, hB_bk_, rfl, by omega, by omega, by omega⟩ ?_
      clear ha hx hB_bo hB_b2 hB_bs hB_bk_
      rintro zz a w18 ⟨s, i, f, hzz, ha, hx, hB_bo, hB_b2, hB_bs, hB_bk_, hinv, hi64, hil, hf⟩
      refine wseq ?_
      refine wseq ?_
      refine regp (ρ' := [(2, .pointer (some ⟨bo, 0, none⟩)), (4, .string (S (shaPad l))), (6, .pointer (some ⟨bs, 0, none⟩)), (7, .pointer (some ⟨bk_, 0, none⟩)), (8, .int .i64 ((i : Nat) : Int)), (47, .bool (decide (((i + 64 : Nat) : Int) ≤ (((shaPad l).length : Nat) : Int))))]) (C := [InR .i64 ((i + 64 : Nat) : Int)]) ha [] (by kernel_rfl) (.cons (by unfold InR; omega) .nil) ?_
      clear ha a; intro a ha
      refine tn ?_
      refine wif ha rfl (fun h47 => ?_) (fun h47 => ?_)
      · replace h47 := of_decide_eq_true h47
        refine wskip ?_
        refine tn ?_
        refine wseq ?_
        refine wblk ?_
        refine regM hmix ha [(0, .val (.agg ⟨wc s⟩)), (6, .val (.agg ⟨wc shaK⟩)), (7, .val (.agg ⟨wc (shaBlk shaK s (((shaPad l).drop i).take ((i + 64) - i)))⟩))] [] [⟨8, .des, [], []⟩] [] (ρ' := [(2, .pointer (some ⟨bo, 0, none⟩)), (4, .string (S (shaPad l))), (6, .pointer (some ⟨bs, 0, none⟩)), (7, .pointer (some ⟨bk_, 0, none⟩)), (8, .int .i64 ((i : Nat) : Int))]) [] [fun w' => Ext w18 w', fun w' => w18.heap.size ≤ w'.heap.size ∧ Ext w w' ∧ w'.heap[bo]? = some (.cells ⟨idc idZ⟩ 48 (0, 0)) ∧ w'.heap[b2]? = some (.cells #[.int .u8 128] 5 (0, 0)) ∧ w'.heap[bs]? = some (.cells ⟨wc (shaBlk shaK s (((shaPad l).drop i).take ((i + 64) - i)))⟩ 81 (0, 0)) ∧ w'.heap[bk_]? = some (.cells ⟨wc shaK⟩ 82 (0, 0))] [(0, [0], fun w' => [RunOk Tryd.prog w' (Instr.loadAt 81 (.pointer (some ⟨bs, 0, none⟩))) (.agg ⟨wc s⟩)]), (4, [0], fun w' => [InR .i64 ((i + 64 : Nat) : Int)]), (5, [0], fun w' => [0 ≤ ((i : Nat) : Int) ∧ ((i : Nat) : Int) ≤ ((i + 64 : Nat) : Int) ∧ ((i + 64 : Nat) : Int) ≤ ((shaPad l).length : Int)]), (6, [0], fun w' => [RunOk Tryd.prog w' (Instr.loadAt 82 (.pointer (some ⟨bk_, 0, none⟩))) (.agg ⟨wc shaK⟩)]), (7, [0], fun w' => [CallOk Tryd.prog w' 44 #[.agg ⟨wc s⟩, .string (S (((shaPad l).drop i).take ((i + 64) - i))), .agg ⟨wc shaK⟩] (.agg ⟨wc (shaBlk shaK s (((shaPad l).drop i).take ((i + 64) - i)))⟩)])] (by kernel_rfl) (fun w' => by kernel_rfl) (fun w' => by kernel_rfl) (by kernel_rfl) (fun w' h => h) ?_ ?_ ?_ ?_ ?_ ?_
        · refine ⟨fun w1 w2 h e => Ext.tr h e, ?_, trivial⟩
          · rintro w1 w2 ⟨hsz, hx, hB_bo, hB_b2, hB_bs, hB_bk_⟩ he
            exact ⟨Nat.le_trans hsz he.size, hx.tr he, keepB he hB_bo, keepB he hB_b2, keepB he hB_bs, keepB he hB_bk_⟩
        · trivial
        · refine ⟨⟨?_, trivial⟩, ⟨?_, trivial⟩, ⟨?_, trivial⟩, ⟨?_, trivial⟩, ⟨?_, trivial⟩, trivial⟩
          · intro w' hJ
            have he : Ext w18 w' := hJ
            have hsz := he.size
            replace hx := hx.tr he
            replace hB_bo := keepB he hB_bo
            replace hB_b2 := keepB he hB_b2
            replace hB_bs := keepB he hB_bs
            replace hB_bk_ := keepB he hB_bk_
            clear he
            exact (.cons (ldAll (n := 8) hB_bs (by kernel_rfl) (by kernel_rfl) (wc_len _)) .nil)
          · intro w' hJ
            have he : Ext w18 w' := hJ
            have hsz := he.size
            replace hx := hx.tr he
            replace hB_bo := keepB he hB_bo
            replace hB_b2 := keepB he hB_b2
            replace hB_bs := keepB he hB_bs
            replace hB_bk_ := keepB he hB_bk_
            clear he
            exact (.cons (by unfold InR; omega) .nil)
          · intro w' hJ
            have he : Ext w18 w' := hJ
            have hsz := he.size
            replace hx := hx.tr he
            replace hB_bo := keepB he hB_bo
            replace hB_b2 := keepB he hB_b2
            replace hB_bs := keepB he hB_bs
            replace hB_bk_ := keepB he hB_bk_
            clear he
            exact (.cons ⟨by omega, by omega, by omega⟩ .nil)
          · intro w' hJ
            have he : Ext w18 w' := hJ
            have hsz := he.size
            replace hx := hx.tr he
            replace hB_bo := keepB he hB_bo
            replace hB_b2 := keepB he hB_b2
            replace hB_bs := keepB he hB_bs
            replace hB_bk_ := keepB he hB_bk_
            clear he
            exact (.cons (ldAll (n := 64) hB_bk_ (by kernel_rfl) (by kernel_rfl) (wc_len _)) .nil)
          · intro w' hJ
            have he : Ext w18 w' := hJ
            have hsz := he.size
            replace hx := hx.tr he
            replace hB_bo := keepB he hB_bo
            replace hB_b2 := keepB he hB_b2
            replace hB_bs := keepB he hB_bs
            replace hB_bk_ := keepB he hB_bk_
            clear he
            exact (.cons (fun w _ => rblock_ok _ _ _ w (by first | omega | (simp only [List.length_take, List.length_drop]; omega))) .nil)
        · trivial
        · refine ⟨?_, trivial⟩
          · intro w' hJ
            have hB_boS := hB_bo
            have hB_b2S := hB_b2
            have hB_bsS := hB_bs
            have hB_bk_S := hB_bk_
            have he : Ext w18 w' := hJ
            have hsz := he.size
            replace hx := hx.tr he
            replace hB_bo := keepB he hB_bo
            replace hB_b2 := keepB he hB_b2
            replace hB_bs := keepB he hB_bs
            replace hB_bk_ := keepB he hB_bk_
            clear he
            refine ostoreL (off := 0) (vs := wc (shaBlk shaK s (((shaPad l).drop i).take ((i + 64) - i)))) (cs' := wc (shaBlk shaK s (((shaPad l).drop i).take ((i + 64) - i)))) (t := 81) (x := .tmp 6) (y := .tmp 57) (by kernel_rfl) (by kernel_rfl) hB_bs (by rw [wc_len _]; kernel_rfl) (by kernel_rfl) (wc_one _) (by first | (rw [wc_len _, wc_len _]; omega; done) | simp [wc_len]) (put_all (by first | (rw [wc_len _, wc_len _]; done) | simp [wc_len])) ?_
            intro w'' hc
            exact ⟨trivial, ⟨Nat.le_trans hsz hc.size, hc.ext hx hb_bs, hc.keep hB_bo (by first | assumption | exact Ne.symm (by assumption)), hc.keep hB_b2 (by first | assumption | exact Ne.symm (by assumption)), hc.at_, hc.keep hB_bk_ (by first | assumption | exact Ne.symm (by assumption))⟩, trivial⟩
        · clear ha a; intro a w19 hJ ha
          clear hx hB_bo hB_b2 hB_bs hB_bk_
          obtain ⟨hsz, hx, hB_bo, hB_b2, hB_bs, hB_bk_⟩ := hJ
          clear hsz
          refine bn ?_
          refine tn ?_
          refine regp (ρ' := [(2, .pointer (some ⟨bo, 0, none⟩)), (4, .string (S (shaPad l))), (6, .pointer (some ⟨bs, 0, none⟩)), (7, .pointer (some ⟨bk_, 0, none⟩)), (8, .int .i64 ((i + 64 : Nat) : Int))]) (C := [InR .i64 ((i + 64 : Nat) : Int)]) ha [] (by kernel_rfl) (.cons (by unfold InR; omega) .nil) ?_
          clear ha a; intro a ha
          exact tn ⟨(shaPad l).length - ((i + 64)), by omega, (shaBlk shaK s (((shaPad l).drop i).take (i + 64 - i))), (i + 64), (f - 1), rfl, ha.sub (ρ' := [(2, .pointer (some ⟨bo, 0, none⟩)), (4, .string (S (shaPad l))), (6, .pointer (some ⟨bs, 0, none⟩)), (7, .pointer (some ⟨bk_, 0, none⟩)), (8, .int .i64 (((i + 64) : Nat) : Int))]) (by kernel_rfl), hx, hB_bo, hB_b2, hB_bs, hB_bk_, by rw [hinv, shaGo_step (by rw [List.length_drop]; omega) (by rw [List.length_drop]; exact hf), List.drop_drop, show i + 64 - i = 64 by omega], by omega, by omega, by omega⟩
      · replace h47 := of_decide_eq_false h47
        have hres : shaGo shaK (shaPad l).length shaIv (shaPad l) = s := by rw [hinv]; exact shaGo_stop _ _ _ _ (by rw [List.length_drop]; omega)
        refine wexit ?_
        refine (te (te (be ?_)))
        refine tn ?_
        refine wseq ?_
        refine reg_list ?_
        refine segp (ρ' := [(2, .pointer (some ⟨bo, 0, none⟩)), (6, .pointer (some ⟨bs, 0, none⟩)), (58, .agg ⟨idc idZ⟩)]) (C := []) ha 1 [] rfl (by kernel_rfl) .nil ?_
        clear ha a; intro a ha
        refine lnew ha rfl (by kernel_rfl) ⟨idc idZ⟩ 48 (by kernel_rfl) ?_
        clear ha a; intro bi w20 he hb_bi hB_bi a ha
        have hne_bo_bi : bo ≠ bi := ne_new hB_bo hb_bi
        have hne_b2_bi : b2 ≠ bi := ne_new hB_b2 hb_bi
        have hne_bs_bi : bs ≠ bi := ne_new hB_bs hb_bi
        have hne_bk__bi : bk_ ≠ bi := ne_new hB_bk_ hb_bi
        replace hB_bo := keepB he hB_bo
        replace hB_b2 := keepB he hB_b2
        replace hB_bs := keepB he hB_bs
        replace hB_bk_ := keepB he hB_bk_
        replace hb_bi := Nat.le_trans hx.size hb_bi
        replace hx := hx.tr he
        clear he
        refine lstore (off := 0) ha rfl rfl (by kernel_rfl) hB_bi ⟨idc idZ⟩ rfl (by kernel_rfl) (by kernel_rfl) ?_
        clear ha a; intro w21 hc a ha
        replace hB_bo := hc.keep hB_bo (by first | assumption | exact Ne.symm (by assumption))
        replace hB_b2 := hc.keep hB_b2 (by first | assumption | exact Ne.symm (by assumption))
        replace hB_bs := hc.keep hB_bs (by first | assumption | exact Ne.symm (by assumption))
        replace hB_bk_ := hc.keep hB_bk_ (by first | assumption | exact Ne.symm (by assumption))
        replace hx := hc.ext hx hb_bi
        replace hB_bi := hc.at_; clear hc
        refine lnil ?_
        replace ha := ha.sub (ρ' := [(2, .pointer (some ⟨bo, 0, none⟩)), (6, .pointer (some ⟨bs, 0, none⟩)), (9, .pointer (some ⟨bi, 0, none⟩))]) (by kernel_rfl)
        refine tn ?_
        refine wseq ?_
        refine wseq ?_
        refine regp (ρ' := [(2, .pointer (some ⟨bo, 0, none⟩)), (6, .pointer (some ⟨bs, 0, none⟩)), (9, .pointer (some ⟨bi, 0, none⟩)), (10, .int .i64 0)]) (C := []) ha [] (by kernel_rfl) .nil ?_
        clear ha a; intro a ha
        refine tn ?_
        refine wblk ?_
        refine wloop (fun zz a w22 => ∃ (i : Nat), zz = 32 - i ∧ On 77 [(2, .pointer (some ⟨bo, 0, none⟩)), (6, .pointer (some ⟨bs, 0, none⟩)), (9, .pointer (some ⟨bi, 0, none⟩)), (10, .int .i64 ((i : Nat) : Int))] a ∧ Ext w w22 ∧ w22.heap[bo]? = some (.cells ⟨idc idZ⟩ 48 (0, 0)) ∧ w22.heap[b2]? = some (.cells #[.int .u8 128] 5 (0, 0)) ∧ w22.heap[bs]? = some (.cells ⟨wc s⟩ 81 (0, 0)) ∧ w22.heap[bk_]? = some (.cells ⟨wc shaK⟩ 82 (0, 0)) ∧ w22.heap[bi]? = some (.cells ⟨idc (sumTo s i)⟩ 48 (0, 0)) ∧ (i ≤ 32)) _ ⟨0, rfl, ha.sub (ρ' := [(2, .pointer (some ⟨bo, 0, none⟩)), (6, .pointer (some ⟨bs, 0, none⟩)), (9, .pointer (some ⟨bi, 0, none⟩)), (10, .int .i64 ((0 : Nat) : Int))]) (by kernel_rfl), hx, hB_bo, hB_b2, hB_bs, hB_bk_, hB_bi, by omega⟩ ?_
        clear ha hx hB_bo hB_b2 hB_bs hB_bk_ hB_bi
        rintro zz a w23 ⟨i, hzz, ha, hx, hB_bo, hB_b2, hB_bs, hB_bk_, hB_bi, hi32⟩
        refine wseq ?_
        refine wseq ?_
        refine regp (ρ' := [(2, .pointer (some ⟨bo, 0, none⟩)), (6, .pointer (some ⟨bs, 0, none⟩)), (9, .pointer (some ⟨bi, 0, none⟩)), (10, .int .i64 ((i : Nat) : Int)), (60, .bool (decide (((i : Nat) : Int) < 32)))]) (C := []) ha [] (by kernel_rfl) .nil ?_
        clear ha a; intro a ha
        refine tn ?_
        refine wif ha rfl (fun h60 => ?_) (fun h60 => ?_)
        · replace h60 := of_decide_eq_true h60
          refine wskip ?_
          refine tn ?_
          refine wseq ?_
          refine wblk ?_
          refine reg_list ?_
          refine segp (ρ' := [(2, .pointer (some ⟨bo, 0, none⟩)), (6, .pointer (some ⟨bs, 0, none⟩)), (9, .pointer (some ⟨bi, 0, none⟩)), (10, .int .i64 ((i : Nat) : Int)), (74, .int .u8 ((((s.at_ (i / 4)) / 2 ^ (24 - (8 * (i % 4)))) % 256 : Nat) : Int)), (75, .pointer (some ⟨bi, i, none⟩))]) (C := [0 ≤ ((i : Nat) : Int), 0 < (4 : Int), InR .i64 ((i / 4 : Nat) : Int), RunOk Tryd.prog w23 (Instr.indexAt 81 (.pointer (some ⟨bs, 0, none⟩)) (.int .i64 ((i / 4 : Nat) : Int))) (.pointer (some ⟨bs, (i / 4), none⟩)), RunOk Tryd.prog w23 (Instr.loadAt 59 (.pointer (some ⟨bs, (i / 4), none⟩))) (.int .u32 ((s.at_ (i / 4) : Nat) : Int)), 0 ≤ ((i : Nat) : Int), 0 < (4 : Int), InR .i64 ((8 * (i % 4) : Nat) : Int), BinOk Tryd.prog .sub 3 (.int .i64 24) (.int .i64 ((8 * (i % 4) : Nat) : Int)) (.int .i64 ((24 - (8 * (i % 4)) : Nat) : Int)), InR .u64 ((24 - (8 * (i % 4)) : Nat) : Int), BinOk Tryd.prog .shr 59 (.int .u32 ((s.at_ (i / 4) : Nat) : Int)) (.int .u64 ((24 - (8 * (i % 4)) : Nat) : Int)) (.int .u32 (((s.at_ (i / 4)) / 2 ^ (24 - (8 * (i % 4))) : Nat) : Int)), RunOk Tryd.prog w23 (Instr.indexAt 48 (.pointer (some ⟨bi, 0, none⟩)) (.int .i64 ((i : Nat) : Int))) (.pointer (some ⟨bi, i, none⟩))]) ha 13 [(3, .val (.pointer (some ⟨bs, (i / 4), none⟩))), (4, .val (.int .u32 ((s.at_ (i / 4) : Nat) : Int))), (8, .val (.int .i64 ((24 - (8 * (i % 4)) : Nat) : Int))), (10, .val (.int .u32 (((s.at_ (i / 4)) / 2 ^ (24 - (8 * (i % 4))) : Nat) : Int))), (11, .mod), (12, .val (.pointer (some ⟨bi, i, none⟩)))] rfl (by kernel_rfl) (.cons (by omega) (.cons (by omega) (.cons (by unfold InR; omega) (.cons (ixA (n := 8) (i := (i / 4)) (by kernel_rfl) (by omega)) (.cons (ld1 hB_bs (by kernel_rfl) (wc_at (i := (i / 4)) (by omega))) (.cons (by omega) (.cons (by omega) (.cons (by unfold InR; omega) (.cons (subC (m := 24) (n := (8 * (i % 4))) (by rfl) (by omega) (by unfold InR; omega)) (.cons (by unfold InR; omega) (.cons (shrN (a := (s.at_ (i / 4))) (n := (24 - (8 * (i % 4)))) (by show _ ≤ 32; omega)) (.cons (ixA (n := 32) (i := i) (by kernel_rfl) (by omega)) .nil)))))))))))) ?_
          clear ha a; intro a ha
          refine lstoreL (off := i) (vs := [.int .u8 ((((s.at_ (i / 4)) / 2 ^ (24 - (8 * (i % 4)))) % 256 : Nat) : Int)]) (cs' := idc ((sumTo s i).set i (((s.at_ (i / 4)) / 2 ^ (24 - (8 * (i % 4)))) % 256))) ha rfl rfl (by kernel_rfl) rfl rfl hB_bi (by kernel_rfl) (by kernel_rfl) (by kernel_rfl) (by rw [idc_len _]; show i + 1 ≤ 32; omega) (by rw [put_one (by rw [idc_len _]; omega)]; exact idc_set _ _ _ (by omega)) ?_
          clear ha a; intro w24 hc a ha
          replace hB_bo := hc.keep hB_bo (by first | assumption | exact Ne.symm (by assumption))
          replace hB_b2 := hc.keep hB_b2 (by first | assumption | exact Ne.symm (by assumption))
          replace hB_bs := hc.keep hB_bs (by first | assumption | exact Ne.symm (by assumption))
          replace hB_bk_ := hc.keep hB_bk_ (by first | assumption | exact Ne.symm (by assumption))
          replace hx := hc.ext hx hb_bi
          replace hB_bi := hc.at_; clear hc
          refine lnil ?_
          replace ha := ha.sub (ρ' := [(2, .pointer (some ⟨bo, 0, none⟩)), (6, .pointer (some ⟨bs, 0, none⟩)), (9, .pointer (some ⟨bi, 0, none⟩)), (10, .int .i64 ((i : Nat) : Int))]) (by kernel_rfl)
          refine bn ?_
          refine tn ?_
          refine regp (ρ' := [(2, .pointer (some ⟨bo, 0, none⟩)), (6, .pointer (some ⟨bs, 0, none⟩)), (9, .pointer (some ⟨bi, 0, none⟩)), (10, .int .i64 ((i + 1 : Nat) : Int))]) (C := [InR .i64 ((i + 1 : Nat) : Int)]) ha [] (by kernel_rfl) (.cons (by unfold InR; omega) .nil) ?_
          clear ha a; intro a ha
          exact tn ⟨32 - ((i + 1)), by omega, (i + 1), rfl, ha.sub (ρ' := [(2, .pointer (some ⟨bo, 0, none⟩)), (6, .pointer (some ⟨bs, 0, none⟩)), (9, .pointer (some ⟨bi, 0, none⟩)), (10, .int .i64 (((i + 1) : Nat) : Int))]) (by kernel_rfl), hx, hB_bo, hB_b2, hB_bs, hB_bk_, hB_bi, by omega⟩
        · replace h60 := of_decide_eq_false h60
          obtain rfl : i = 32 := by omega
          refine wexit ?_
          refine (te (te (be ?_)))
          refine tn ?_
          refine wseq ?_
          refine reg_list ?_
          refine segp (ρ' := [(2, .pointer (some ⟨bo, 0, none⟩)), (76, .agg ⟨idc (sumTo s 32)⟩)]) (C := [RunOk Tryd.prog w23 (Instr.loadAt 48 (.pointer (some ⟨bi, 0, none⟩))) (.agg ⟨idc (sumTo s 32)⟩)]) ha 1 [(0, .val (.agg ⟨idc (sumTo s 32)⟩))] rfl (by kernel_rfl) (.cons (ldN (n := 32) hB_bi (by kernel_rfl) (by kernel_rfl) ⟨Nat.le_of_ble_eq_true (by kernel_rfl), (by kernel_rfl)⟩) .nil) ?_
          clear ha a; intro a ha
          refine lstore (off := 0) ha rfl rfl (by kernel_rfl) hB_bo ⟨idc (sumTo s 32)⟩ rfl (by kernel_rfl) (by kernel_rfl) ?_
          clear ha a; intro w25 hc a ha
          replace hB_b2 := hc.keep hB_b2 (by first | assumption | exact Ne.symm (by assumption))
          replace hB_bs := hc.keep hB_bs (by first | assumption | exact Ne.symm (by assumption))
          replace hB_bk_ := hc.keep hB_bk_ (by first | assumption | exact Ne.symm (by assumption))
          replace hB_bi := hc.keep hB_bi (by first | assumption | exact Ne.symm (by assumption))
          replace hx := hc.ext hx hb_bo
          replace hB_bo := hc.at_; clear hc
          refine lnil ?_
          replace ha := ha.sub (ρ' := [(2, .pointer (some ⟨bo, 0, none⟩))]) (by kernel_rfl)
          refine tn ?_
          refine wret ?_
          refine fin ha (.cell rfl (ldVN (n := 32) (vs := ⟨idc (sumTo s 32)⟩) hB_bo (by kernel_rfl) (by kernel_rfl) ⟨Nat.le_of_ble_eq_true (by kernel_rfl), (by kernel_rfl)⟩) .nil) ?_
          refine ⟨?_, hx⟩
          show Value.agg _ = _
          unfold shaSum shaSumC
          rw [hres]
-- UNUSED LABEL wrap
end Go.Kn
end
section
/- Plain functions: packed texts (layer 5). -/
namespace Go.Kn

theorem vgo_lt_len : ∀ (l : List UInt8) (i n : Nat), n < 2 ^ (7 * i) → i ≤ 10 → (vgo l i n).1 < 2 ^ 64 ∧ (vgo l i n).2.1.length ≤ l.length ∧ ((vgo l i n).2.2 = 0 → (vgo l i n).2.1.length < l.length) := by
  intro l
  induction l with
  | nil => intro i n _ _; simp [vgo]
  | cons c r ih =>
    intro i n hn hi
    have hc : c.toNat < 256 := UInt8.toNat_lt _
    unfold vgo
    split
    · simp
    · split
      · simp
      · split
        · obtain ⟨h1, h2, h3⟩ := ih (i + 1) _ (vgo_lt (c := c.toNat) hn) (by omega)
          exact ⟨h1, by simp only [List.length_cons]; omega, fun h => by have := h3 h; simp only [List.length_cons]; omega⟩
        · split
          · simp
          · refine ⟨?_, by simp, fun _ => by simp⟩
            rename_i h10 h9 h128 h0
            have := vshl_nat (c := c.toNat) (k := i) (by omega) h9
            have h2 := vgo_lt (c := c.toNat) hn
            rcases Nat.lt_or_ge i 9 with h | h
            · have : 2 ^ (7 * (i + 1)) ≤ 2 ^ 63 := pow7_le (by omega)
              simp only; omega
            · have : i = 9 := by omega
              subst this
              have h3 : c.toNat % 128 ≤ 1 := by omega
              have h4 : c.toNat % 128 * 2 ^ (7 * 9) ≤ 1 * 2 ^ (7 * 9) := Nat.mul_le_mul h3 (Nat.le_refl _)
              simp only; omega
theorem vget_lt (l : List UInt8) : (vget l).1 < 18446744073709551616 := (vgo_lt_len l 0 0 (by decide) (by omega)).1
theorem vget_len (l : List UInt8) : (vget l).2.1.length ≤ l.length := (vgo_lt_len l 0 0 (by decide) (by omega)).2.1
theorem vget_less (l : List UInt8) (h : (vget l).2.2 = 0) : (vget l).2.1.length < l.length := (vgo_lt_len l 0 0 (by decide) (by omega)).2.2 h

/-- lz.read: how many, how far back, what stands behind, the error. -/
def lzread (l : List UInt8) (h : Nat) : Nat × Nat × List UInt8 × Nat :=
  if (vget l).2.2 ≠ 0 then (0, 0, [], 2)
  else if (vget l).1 % 2 = 0 then
    if (vget l).1 = 0 ∨ (vget l).2.1.length < (vget l).1 / 2 then (0, 0, [], 2) else ((vget l).1 / 2, 0, (vget l).2.1, 0)
  else if (vget (vget l).2.1).2.2 ≠ 0 ∨ (vget l).1 / 2 < 4 ∨ (vget (vget l).2.1).1 < 1 ∨ 65535 < (vget (vget l).2.1).1 ∨ h < (vget (vget l).2.1).1 then (0, 0, [], 2)
  else ((vget l).1 / 2, (vget (vget l).2.1).1, (vget (vget l).2.1).2.1, 0)
theorem lzread_spec (l : List UInt8) (h : Nat) : (lzread l h).2.2.1.length ≤ l.length ∧ (lzread l h).1 < 18446744073709551616 ∧ (lzread l h).2.1 ≤ 65535 ∧ (lzread l h).2.1 ≤ h ∧ (lzread l h).2.2.2 ≤ 2 ∧
    ((lzread l h).2.2.2 = 0 → (lzread l h).2.2.1.length < l.length ∧ ((lzread l h).2.1 = 0 → (lzread l h).1 ≤ (lzread l h).2.2.1.length)) := by
  have h1 := vget_lt l
  have h2 := vget_len l
  have h3 := vget_len (vget l).2.1
  have h4 := vget_less l
  unfold lzread
  split
  · simp
  · rename_i he
    have h4 := h4 (by omega)
    split
    · split
      · simp
      · refine ⟨h2, by simp only; omega, by simp, by simp, by simp, fun _ => ⟨h4, fun _ => by simp only; omega⟩⟩
    · split
      · simp
      · rename_i hh
        simp only
        refine ⟨by omega, by omega, by omega, by omega, by omega, fun _ => ⟨by omega, fun hz => by omega⟩⟩
/-- so many bytes, each from so far back -/
def cpy (far : Nat) : Nat → List UInt8 → List UInt8
  | 0, out => out
  | n + 1, out => cpy far n (out ++ [out.getD (out.length - far) 0])
theorem cpy_len (far : Nat) : ∀ n out, (cpy far n out).length = out.length + n := by
  intro n
  induction n with
  | zero => intro out; rfl
  | succ n ih => intro out; rw [cpy, ih]; simp; omega
def lzun (most : Nat) : Nat → List UInt8 → List UInt8 → List UInt8 × Nat
  | 0, _, _ => ([], 2)
  | f + 1, s, out =>
    if s = [] then (out, 0)
    else if (lzread s out.length).2.2.2 ≠ 0 then ([], (lzread s out.length).2.2.2)
    else if most - out.length < (lzread s out.length).1 then ([], 3)
    else if (lzread s out.length).2.1 = 0 then
      lzun most f ((lzread s out.length).2.2.1.drop (lzread s out.length).1) (out ++ (lzread s out.length).2.2.1.take (lzread s out.length).1)
    else lzun most f (lzread s out.length).2.2.1 (cpy (lzread s out.length).2.1 (lzread s out.length).1 out)
/-- lz.Unpack -/
def lzUnpack (s : List UInt8) (m : Int) : List UInt8 × Nat :=
  if m < 0 then ([], 1)
  else if s = [] ∨ 1 < (s.getD 0 0).toNat then ([], 2)
  else if (s.getD 0 0).toNat = 0 then (if m < (s.length : Int) - 1 then ([], 3) else (s.drop 1, 0))
  else lzun m.toNat (s.length + 1) (s.drop 1) []
theorem getD_toNat_lt (l : List UInt8) (k : Nat) : (l.getD k 0).toNat < 256 := UInt8.toNat_lt _
theorem bys_app (a b : List UInt8) : bys a ++ bys b = bys (a ++ b) := by simp
theorem bys_push (a : List UInt8) (c : UInt8) : bys a ++ [.int .u8 ((c.toNat : Nat) : Int)] = bys (a ++ [c]) := by simp
theorem bys_get (l : List UInt8) (i : Nat) (h : i < l.length) : (bys l)[i]? = some (.int .u8 (((l.getD i 0).toNat : Nat) : Int)) := by
  simp [List.getD_eq_getElem?_getD, h]
end Go.Kn
end
section
/- Plain functions: the document's reader of numbers. -/
namespace Go.Kn

/-- how many bytes the number has; 0: there is none -/
def vk (l : List UInt8) : Nat := if (vget l).2.2 = 0 then l.length - (vget l).2.1.length else 0
theorem vgo_suffix : ∀ (l : List UInt8) (i n : Nat), (vgo l i n).2.2 = 0 → ∃ k, 0 < k ∧ k ≤ l.length ∧ (vgo l i n).2.1 = l.drop k := by
  intro l
  induction l with
  | nil => intro i n h; simp [vgo] at h
  | cons c r ih =>
    intro i n h
    unfold vgo at h ⊢
    split
    · rename_i h1; simp [h1] at h
    · rename_i h1
      rw [if_neg h1] at h
      split
      · rename_i h2; simp [h2] at h
      · rename_i h2
        rw [if_neg h2] at h
        split
        · rename_i h3
          rw [if_pos h3] at h
          obtain ⟨k, hk, hl, he⟩ := ih _ _ h
          exact ⟨k + 1, by omega, by simp only [List.length_cons]; omega, by rw [he, List.drop_succ_cons]⟩
        · rename_i h3
          rw [if_neg h3] at h
          split
          · rename_i h4; simp [h4] at h
          · exact ⟨1, by omega, by simp, rfl⟩
theorem vget_drop (l : List UInt8) (h : (vget l).2.2 = 0) : (vget l).2.1 = l.drop (vk l) ∧ 0 < vk l ∧ vk l ≤ l.length := by
  obtain ⟨k, hk, hl, he⟩ := vgo_suffix l 0 0 h
  have he' : (vget l).2.1 = l.drop k := he
  have : vk l = k := by unfold vk; rw [if_pos h, he', List.length_drop]; omega
  rw [this]; exact ⟨he', hk, hl⟩
theorem vk_zero (l : List UInt8) : vk l = 0 ↔ (vget l).2.2 ≠ 0 := by
  constructor
  · intro h he
    have := (vget_drop l he).2.1
    omega
  · intro h
    unfold vk; rw [if_neg h]
theorem vk_le (l : List UInt8) : vk l ≤ l.length := by unfold vk; split <;> omega
def sumv (l : List UInt8) : Nat → Nat
  | 0 => 0
  | k + 1 => sumv l k + (l.getD k 0).toNat % 128 * 2 ^ (7 * k)
theorem vgo_ten (r : List UInt8) (n : Nat) : vgo r 10 n = (0, [], 2) := by
  cases r with
  | nil => rfl
  | cons c r => rw [vgo, if_pos (by omega)]
theorem vstep {l : List UInt8} {k n : Nat} (h : k < l.length) (h10 : k < 10) (hc : 128 ≤ (l.getD k 0).toNat) : vgo (l.drop k) k n = vgo (l.drop (k + 1)) (k + 1) (n + (l.getD k 0).toNat % 128 * 2 ^ (7 * k)) := by
  rw [drop_cons l k h, vgo, if_neg (by omega)]
  by_cases h9 : k = 9
  · subst h9
    rw [if_pos ⟨rfl, by omega⟩, vgo_ten]
  · rw [if_neg (by omega), if_pos hc]
theorem vstop {l : List UInt8} {k n : Nat} (h : l.length ≤ k ∨ 10 ≤ k) : vgo (l.drop k) k n = (0, [], 2) := by
  rcases Nat.lt_or_ge k l.length with hk | hk
  · rw [drop_cons l k hk, vgo, if_pos (by omega)]
  · rw [List.drop_of_length_le hk]; rfl
theorem vend {l : List UInt8} {k n : Nat} (h : k < l.length) (h10 : k < 10) (hc : (l.getD k 0).toNat < 128) :
    vgo (l.drop k) k n = if (k = 9 ∧ 1 < (l.getD k 0).toNat) ∨ (0 < k ∧ (l.getD k 0).toNat = 0) then (0, [], 2) else (n + (l.getD k 0).toNat % 128 * 2 ^ (7 * k), l.drop (k + 1), 0) := by
  rw [drop_cons l k h, vgo, if_neg (by omega)]
  by_cases h9 : k = 9 ∧ 1 < (l.getD k 0).toNat
  · rw [if_pos h9, if_pos (.inl h9)]
  · rw [if_neg h9, if_neg (by omega)]
    by_cases h0 : (l.getD k 0).toNat = 0 ∧ 0 < k
    · rw [if_pos h0, if_pos (by omega)]
    · rw [if_neg h0, if_neg (by omega)]
theorem sum_step (l : List UInt8) (n j : Nat) : n * 2 ^ (7 * (j + 1)) + sumv l (j + 1) = (128 * n + (l.getD j 0).toNat % 128) * 2 ^ (7 * j) + sumv l j := by
  have h1 : 2 ^ (7 * (j + 1)) = 128 * 2 ^ (7 * j) := by rw [show 7 * (j + 1) = 7 * j + 7 by omega, Nat.pow_add]; omega
  rw [h1, sumv, Nat.add_mul, Nat.mul_assoc, Nat.mul_left_comm n 128]
  omega
theorem sum_le {l : List UInt8} {t n j : Nat} (h : t = n * 2 ^ (7 * j) + sumv l j) : n ≤ t := by
  have : n * 1 ≤ n * 2 ^ (7 * j) := Nat.mul_le_mul (Nat.le_refl _) (Nat.one_le_two_pow)
  omega
theorem take_drop_snoc (s : List UInt8) (q i : Nat) (h : q + i < s.length) : (s.drop q).take i ++ [s.getD (q + i) 0] = (s.drop q).take (i + 1) := by
  rw [List.take_succ_eq_append_getElem (by simp; omega)]
  congr 1
  simp [List.getD_eq_getElem?_getD, h]
end Go.Kn
end
section
/- Plain functions: numbers written (layer 1); steps (layer 5). -/
namespace Go.Kn

def vputf : Nat → Nat → List UInt8
  | 0, n => [UInt8.ofNat n]
  | f + 1, n => if n < 128 then [UInt8.ofNat n] else UInt8.ofNat (128 + n % 128) :: vputf f (n / 128)
def vput (n : Nat) : List UInt8 := vputf 9 n
theorem vputf_len : ∀ f n, (vputf f n).length ≤ f + 1 ∧ 0 < (vputf f n).length := by
  intro f
  induction f with
  | zero => intro n; simp [vputf]
  | succ f ih =>
    intro n
    have := ih (n / 128)
    unfold vputf
    split
    · simp
    · simp only [List.length_cons]; omega
theorem vput_len (n : Nat) : (vput n).length ≤ 10 ∧ 0 < (vput n).length := vputf_len 9 n
theorem vdiv_lt {n f : Nat} (h : n < 2 ^ (1 + 7 * (f + 1))) : n / 128 < 2 ^ (1 + 7 * f) := by
  rw [show 1 + 7 * (f + 1) = (1 + 7 * f) + 7 by omega, Nat.pow_add] at h
  omega
theorem or128 (n : Nat) : n % 256 ||| 128 = 128 + n % 128 := by
  have key : ∀ m : Fin 256, m.val ||| 128 = 128 + m.val % 128 := by decide +kernel
  have := key ⟨n % 256, Nat.mod_lt _ (by omega)⟩
  simp only at this
  rw [this]; omega
theorem ofNat_mod (n : Nat) : UInt8.ofNat (n % 256) = UInt8.ofNat n := by
  apply UInt8.toNat_inj.1
  simp
theorem bys_pushN (a : List UInt8) (x : Nat) (h : x < 256) : bys a ++ [.int .u8 ((x : Nat) : Int)] = bys (a ++ [UInt8.ofNat x]) := by
  have e : (UInt8.ofNat x).toNat = x := by simp [Nat.mod_eq_of_lt h]
  have := bys_push a (UInt8.ofNat x)
  rwa [e] at this
def vtext (l : List UInt8) : List UInt8 := vput l.length ++ l

/-- a step: so many bytes from so far back; 0: this text, as it stands -/
structure StepR where
  N : Int
  Far : Int
  Text : List UInt8
deriving Inhabited
def encStep (x : StepR) : List Value := [.int .i64 x.N, .int .i64 x.Far, .string (S x.Text)]
theorem encStep_len : ∀ x, (encStep x).length = 3 := fun _ => rfl
def stepOne (x : StepR) : List UInt8 := if x.Far = 0 then vput (2 * x.Text.length) ++ x.Text else vput (2 * (x.N % 4096) + 1).toNat ++ vput (x.Far % 70000).toNat
def stepsOf (l : List StepR) : List UInt8 := 1 :: l.flatMap stepOne
def stepsTo (l : List StepR) (k : Nat) : List UInt8 := 1 :: (l.take k).flatMap stepOne
theorem stepsTo_succ (l : List StepR) (k : Nat) (h : k < l.length) : stepsTo l (k + 1) = stepsTo l k ++ stepOne (l.getD k default) := by
  unfold stepsTo
  rw [List.take_succ_eq_append_getElem h, List.flatMap_append]
  simp [List.getD_eq_getElem?_getD, h]
theorem stepsTo_len (l : List StepR) (k : Nat) (hk : k ≤ l.length) (h : ∀ i < l.length, (l.getD i default).Text.length ≤ 1000000) : (stepsTo l k).length ≤ 1 + k * 1000020 := by
  induction k with
  | zero => simp [stepsTo]
  | succ k ih =>
    rw [stepsTo_succ l k (by omega), List.length_append]
    have h1 := ih (by omega)
    have h2 := h k (by omega)
    have : (stepOne (l.getD k default)).length ≤ 1000020 := by
      unfold stepOne
      split
      · rw [List.length_append]
        have := vput_len (2 * (l.getD k default).Text.length)
        omega
      · rw [List.length_append]
        have := vput_len (2 * ((l.getD k default).N % 4096) + 1).toNat
        have := vput_len ((l.getD k default).Far % 70000).toNat
        omega
    omega
end Go.Kn
end
section
/- Plain functions: packing (layer 5): what is packed unpacks; how long it is. -/
set_option linter.unusedVariables false
namespace Go.Kn

/-! numbers: written, read again -/
theorem u8_ofNat {n : Nat} (h : n < 256) : (UInt8.ofNat n).toNat = n := by simp [Nat.mod_eq_of_lt h]
theorem vgo_put (r : List UInt8) : ∀ (f i m n0 : Nat), f + i = 9 → m < 2 ^ (1 + 7 * f) → (0 < m ∨ i = 0) → vgo (vputf f m ++ r) i n0 = (n0 + m * 2 ^ (7 * i), r, 0) := by
  intro f
  induction f with
  | zero =>
    intro i m n0 hi hm h0
    have hm2 : m < 2 := by simpa using hm
    simp only [vputf, List.singleton_append, vgo, u8_ofNat (show m < 256 by omega)]
    rw [if_neg (by omega), if_neg (by omega), if_neg (by omega), if_neg (by omega), Nat.mod_eq_of_lt (by omega)]
  | succ f ih =>
    intro i m n0 hi hm h0
    unfold vputf
    by_cases h : m < 128
    · rw [if_pos h]
      simp only [List.singleton_append, vgo, u8_ofNat (show m < 256 by omega)]
      rw [if_neg (by omega), if_neg (by omega), if_neg (by omega), if_neg (by omega), Nat.mod_eq_of_lt h]
    · rw [if_neg h]
      simp only [List.cons_append, vgo, u8_ofNat (show 128 + m % 128 < 256 by omega)]
      rw [if_neg (by omega), if_neg (by omega), if_pos (by omega), ih (i + 1) (m / 128) _ (by omega) (vdiv_lt hm) (.inl (by omega))]
      have e : (128 + m % 128) % 128 * 2 ^ (7 * i) + m / 128 * 2 ^ (7 * (i + 1)) = m * 2 ^ (7 * i) := by
        rw [show 7 * (i + 1) = 7 * i + 7 by omega, Nat.pow_add, ← Nat.mul_assoc, Nat.mul_right_comm, ← Nat.add_mul]
        congr 1; omega
      rw [Nat.add_assoc, e]
theorem vget_put {n : Nat} (h : n < 18446744073709551616) (r : List UInt8) : vget (vput n ++ r) = (n, r, 0) := by
  have := vgo_put r 9 0 n 0 (by omega) (by omega) (.inr rfl)
  simpa [vget, vput] using this
theorem vputf_len2 (f n : Nat) (hn : n < 16384) : (vputf (f + 1) n).length ≤ 2 := by
  unfold vputf
  split
  · simp
  · cases f with
    | zero => simp [vputf]
    | succ f => unfold vputf; rw [if_pos (by omega)]; simp
theorem vputf_len1 (f n : Nat) (hn : n < 128) : (vputf (f + 1) n).length = 1 := by
  unfold vputf
  rw [if_pos hn]; rfl

/-! steps -/
inductive Tok where
  | lit (t : List UInt8)
  | cp (n far : Nat)
def lpl (t : List UInt8) : List UInt8 := if t = [] then [] else vput (2 * t.length) ++ t
def tenc : Tok → List UInt8
  | .lit t => lpl t
  | .cp n far => vput (2 * n + 1) ++ vput far
def tapp (out : List UInt8) : Tok → List UInt8
  | .lit t => out ++ t
  | .cp n far => cpy far n out
def tokOk (out : List UInt8) : Tok → Prop
  | .lit t => t ≠ [] ∧ t.length < 4611686018427387904
  | .cp n far => 4 ≤ n ∧ n < 4611686018427387904 ∧ 1 ≤ far ∧ far ≤ 65535 ∧ far ≤ out.length
def toksOk : List UInt8 → List Tok → Prop
  | _, [] => True
  | out, t :: ts => tokOk out t ∧ toksOk (tapp out t) ts
theorem tapp_len (out : List UInt8) (t : Tok) : out.length ≤ (tapp out t).length := by
  cases t with
  | lit t => simp [tapp]
  | cp n far => simp [tapp, cpy_len]
theorem foldl_len (ts : List Tok) : ∀ out : List UInt8, out.length ≤ (ts.foldl tapp out).length := by
  induction ts with
  | nil => intro out; simp
  | cons t ts ih => intro out; exact Nat.le_trans (tapp_len out t) (ih _)
theorem toksOk_app : ∀ (a b : List Tok) (out : List UInt8), toksOk out a → toksOk (a.foldl tapp out) b → toksOk out (a ++ b) := by
  intro a
  induction a with
  | nil => intro b out _ h; exact h
  | cons t a ih => intro b out h1 h2; exact ⟨h1.1, ih b _ h1.2 h2⟩
theorem lzread_lit {t : List UInt8} (h : t ≠ []) (hl : t.length < 4611686018427387904) (r : List UInt8) (q : Nat) : lzread (lpl t ++ r) q = (t.length, 0, t ++ r, 0) := by
  have h0 : 0 < t.length := List.length_pos_iff.2 h
  unfold lzread
  rw [lpl, if_neg h, List.append_assoc, vget_put (by omega)]
  simp only [ne_eq, not_true_eq_false, if_false]
  rw [if_pos (by omega), if_neg (by simp only [List.length_append]; omega), show 2 * t.length / 2 = t.length by omega]
theorem lzread_cp {n far : Nat} (h4 : 4 ≤ n) (hn : n < 4611686018427387904) (h1 : 1 ≤ far) (h2 : far ≤ 65535) (r : List UInt8) {q : Nat} (hq : far ≤ q) : lzread (tenc (.cp n far) ++ r) q = (n, far, r, 0) := by
  unfold lzread
  rw [tenc, List.append_assoc, vget_put (by omega)]
  simp only [ne_eq, not_true_eq_false, if_false]
  rw [if_neg (by omega), vget_put (by omega)]
  dsimp only
  rw [if_neg (fun h => by rcases h with h | h | h | h | h <;> first | exact h rfl | omega), show (2 * n + 1) / 2 = n by omega]
theorem tenc_pos {out : List UInt8} {t : Tok} (h : tokOk out t) : 0 < (tenc t).length := by
  cases t with
  | lit t =>
    simp only [tenc, lpl, if_neg h.1, List.length_append]
    have := vput_len (2 * t.length); omega
  | cp n far =>
    simp only [tenc, List.length_append]
    have := vput_len (2 * n + 1); omega
theorem lzun_toks (M : Nat) : ∀ (ts : List Tok) (f : Nat) (out : List UInt8), toksOk out ts → (ts.flatMap tenc).length < f → out.length ≤ M →
    lzun M f (ts.flatMap tenc) out = if (ts.foldl tapp out).length ≤ M then (ts.foldl tapp out, 0) else ([], 3) := by
  intro ts
  induction ts with
  | nil =>
    intro f out _ hf ho
    obtain ⟨f, rfl⟩ : ∃ g, f = g + 1 := ⟨f - 1, by omega⟩
    simp [lzun, ho]
  | cons t ts ih =>
    intro f out hok hf ho
    obtain ⟨f, rfl⟩ : ∃ g, f = g + 1 := ⟨f - 1, by omega⟩
    have hp := tenc_pos hok.1
    simp only [List.flatMap_cons, List.length_append] at hf
    have hne : (t :: ts).flatMap tenc ≠ [] := by
      intro h
      have := congrArg List.length h
      simp only [List.flatMap_cons, List.length_append, List.length_nil] at this
      omega
    rw [lzun, if_neg hne, List.flatMap_cons, List.foldl_cons]
    cases t with
    | lit t =>
      obtain ⟨h1, h2⟩ := hok.1
      rw [show tenc (.lit t) = lpl t from rfl, lzread_lit h1 h2]
      simp only [ne_eq, not_true_eq_false, if_false, if_true, List.drop_left, List.take_left]
      by_cases hM : M - out.length < t.length
      · rw [if_pos hM, if_neg]
        have := foldl_len ts (tapp out (.lit t))
        simp only [tapp, List.length_append] at this ⊢
        omega
      · rw [if_neg hM]; exact ih f (tapp out (.lit t)) hok.2 (by omega) (by simp only [tapp, List.length_append]; omega)
    | cp n far =>
      obtain ⟨h4, hn, h1, h2, h3⟩ := hok.1
      rw [lzread_cp h4 hn h1 h2 _ h3]
      simp only [ne_eq, not_true_eq_false, if_false]
      by_cases hM : M - out.length < n
      · rw [if_pos hM, if_neg]
        have := foldl_len ts (tapp out (.cp n far))
        simp only [tapp, cpy_len] at this ⊢
        omega
      · rw [if_neg hM, if_neg (by omega)]; exact ih f (tapp out (.cp n far)) hok.2 (by omega) (by simp only [tapp, cpy_len]; omega)

/-! the packer -/
def lkey (l : List UInt8) : Nat := (l.getD 0 0).toNat + (l.getD 1 0).toNat * 256 + (l.getD 2 0).toNat * 65536 + (l.getD 3 0).toNat * 16777216
theorem lkey_inj {a b : List UInt8} (h : lkey a = lkey b) : ∀ j < 4, a.getD j 0 = b.getD j 0 := by
  have f := fun (l : List UInt8) j => getD_toNat_lt l j
  have a0 := f a 0; have a1 := f a 1; have a2 := f a 2; have a3 := f a 3
  have b0 := f b 0; have b1 := f b 1; have b2 := f b 2; have b3 := f b 3
  unfold lkey at h
  intro j hj
  apply UInt8.toNat_inj.1
  match j, hj with
  | 0, _ => omega
  | 1, _ => omega
  | 2, _ => omega
  | 3, _ => omega
def lpre : List UInt8 → List UInt8 → Nat
  | x :: l, y :: m => if x = y then lpre l m + 1 else 0
  | _, _ => 0
theorem lpre_spec : ∀ (l m : List UInt8), lpre l m ≤ l.length ∧ lpre l m ≤ m.length ∧ ∀ j < lpre l m, l.getD j 0 = m.getD j 0 := by
  intro l
  induction l with
  | nil => intro m; simp [lpre]
  | cons x l ih =>
    intro m
    cases m with
    | nil => simp [lpre]
    | cons y m =>
      unfold lpre
      by_cases h : x = y
      · rw [if_pos h]
        obtain ⟨h1, h2, h3⟩ := ih m
        refine ⟨by simpa using h1, by simpa using h2, fun j hj => ?_⟩
        cases j with
        | zero => simpa using h
        | succ j => simpa using h3 j (by omega)
      · rw [if_neg h]; simp
theorem lpre_ge : ∀ (n : Nat) (l m : List UInt8), n ≤ l.length → n ≤ m.length → (∀ j < n, l.getD j 0 = m.getD j 0) → n ≤ lpre l m := by
  intro n
  induction n with
  | zero => intros; omega
  | succ n ih =>
    intro l m hl hm h
    match l, m, hl, hm with
    | x :: l, y :: m, hl, hm =>
      unfold lpre
      rw [if_pos (by simpa using h 0 (by omega))]
      have := ih l m (by simpa using hl) (by simpa using hm) fun j hj => by simpa using h (j + 1) (by omega)
      omega
def ltok (t : List UInt8) : List Tok := if t = [] then [] else [.lit t]
theorem ltok_enc (t : List UInt8) : (ltok t).flatMap tenc = lpl t := by
  unfold ltok lpl
  split <;> simp [tenc, lpl, *]
def pkgo (s : List UInt8) : Nat → List (Nat × Nat) → Nat → Nat → List Tok → List Tok
  | 0, _, _, fr, ts => ts ++ ltok (s.drop fr)
  | f + 1, M, i, fr, ts =>
    if i + 4 ≤ s.length then
      match mget M (lkey (s.drop i)) with
      | some at_ =>
        if i - at_ ≤ 65535 then
          pkgo s f (mset M (lkey (s.drop i)) i) (i + lpre (s.drop at_) (s.drop i)) (i + lpre (s.drop at_) (s.drop i)) (ts ++ ltok ((s.drop fr).take (i - fr)) ++ [.cp (lpre (s.drop at_) (s.drop i)) (i - at_)])
        else pkgo s f (mset M (lkey (s.drop i)) i) (i + 1) fr ts
      | none => pkgo s f (mset M (lkey (s.drop i)) i) (i + 1) fr ts
    else ts ++ ltok (s.drop fr)
def lzSteps (s : List UInt8) : List Tok := pkgo s (s.length + 1) [] 0 0 []
def lzBody (s : List UInt8) : List UInt8 := 1 :: (lzSteps s).flatMap tenc
def lzPack (s : List UInt8) : List UInt8 := if s.length < (lzBody s).length then 0 :: s else lzBody s

/-- what holds ahead of every round -/
structure PkInv (s : List UInt8) (M : List (Nat × Nat)) (i fr : Nat) (ts : List Tok) : Prop where
  fr_le : fr ≤ i
  i_le : i ≤ s.length
  map : ∀ k a, mget M k = some a → a < i ∧ lkey (s.drop a) = k
  ok : toksOk [] ts
  app : ts.foldl tapp [] = s.take fr
  len : (ts.flatMap tenc).length ≤ fr * 31
theorem pk_step {s : List UInt8} {M : List (Nat × Nat)} {i fr : Nat} {ts : List Tok} (h : PkInv s M i fr ts) (hi : i + 4 ≤ s.length) : PkInv s (mset M (lkey (s.drop i)) i) (i + 1) fr ts := by
  refine ⟨by have := h.fr_le; omega, by omega, fun k a hk => ?_, h.ok, h.app, h.len⟩
  rw [mget_mset] at hk
  split at hk
  · cases hk; subst_vars; exact ⟨by omega, rfl⟩
  · have := h.map k a hk; exact ⟨by omega, this.2⟩
theorem cpy_take (s : List UInt8) (far : Nat) : ∀ (n i : Nat), far ≤ i → 1 ≤ far → i + n ≤ s.length → (∀ j < n, s.getD (i - far + j) 0 = s.getD (i + j) 0) → cpy far n (s.take i) = s.take (i + n) := by
  intro n
  induction n with
  | zero => intros; rfl
  | succ n ih =>
    intro i h1 h2 h3 h4
    have e : s.take i ++ [(s.take i).getD ((s.take i).length - far) 0] = s.take (i + 1) := by
      have hl : (s.take i).length = i := by rw [List.length_take]; omega
      rw [hl]
      have h0 := h4 0 (by omega)
      simp only [Nat.add_zero] at h0
      have : (s.take i).getD (i - far) 0 = s.getD i 0 := by
        rw [← h0, List.getD_eq_getElem?_getD, List.getElem?_take, if_pos (by omega), List.getD_eq_getElem?_getD]
      rw [this, List.take_succ_eq_append_getElem (by omega), List.getD_eq_getElem?_getD, List.getElem?_eq_getElem (by omega)]; rfl
    rw [cpy, e, ih (i + 1) (by omega) h2 (by omega) (fun j hj => by
      have := h4 (j + 1) (by omega)
      rw [show i + 1 - far + j = i - far + (j + 1) by omega, show i + 1 + j = i + (j + 1) by omega]; exact this)]
    congr 1; omega
theorem getD_drop (s : List UInt8) (a j : Nat) : (s.drop a).getD j 0 = s.getD (a + j) 0 := by
  simp [List.getD_eq_getElem?_getD, List.getElem?_drop]
theorem foldl_lit (out t : List UInt8) : (ltok t).foldl tapp out = out ++ t := by
  unfold ltok
  split
  · simp [*]
  · simp [tapp]
theorem ltok_ok (out t : List UInt8) (h : t.length < 4611686018427387904) : toksOk out (ltok t) := by
  unfold ltok
  split
  · trivial
  · exact ⟨⟨‹_›, h⟩, trivial⟩
theorem lpl_len (t : List UInt8) : (lpl t).length ≤ t.length + 10 ∧ (t = [] → (lpl t).length = 0) ∧ (lpl t).length ≤ t.length * 11 := by
  unfold lpl
  split
  · subst_vars; simp
  · rename_i h
    have := List.length_pos_iff.2 h
    have := vput_len (2 * t.length)
    simp only [List.length_append]
    refine ⟨by omega, fun h' => absurd h' h, by omega⟩
theorem pk_pre {s : List UInt8} {M : List (Nat × Nat)} {i fr a : Nat} {ts : List Tok} (h : PkInv s M i fr ts) (hi : i + 4 ≤ s.length) (ha : mget M (lkey (s.drop i)) = some a) :
    a < i ∧ 4 ≤ lpre (s.drop a) (s.drop i) ∧ i + lpre (s.drop a) (s.drop i) ≤ s.length := by
  obtain ⟨h1, h2⟩ := h.map _ _ ha
  have h3 := lkey_inj h2
  have h4 := lpre_ge 4 (s.drop a) (s.drop i) (by simp; omega) (by simp; omega) h3
  have h5 := (lpre_spec (s.drop a) (s.drop i)).2.1
  simp only [List.length_drop] at h5
  exact ⟨h1, h4, by omega⟩
theorem pk_copy {s : List UInt8} {M : List (Nat × Nat)} {i fr a : Nat} {ts : List Tok} (h : PkInv s M i fr ts) (hs : s.length < 4611686018427387904) (hi : i + 4 ≤ s.length) (ha : mget M (lkey (s.drop i)) = some a) (hf : i - a ≤ 65535) :
    PkInv s (mset M (lkey (s.drop i)) i) (i + lpre (s.drop a) (s.drop i)) (i + lpre (s.drop a) (s.drop i)) (ts ++ ltok ((s.drop fr).take (i - fr)) ++ [.cp (lpre (s.drop a) (s.drop i)) (i - a)]) := by
  obtain ⟨h1, h4, h5⟩ := pk_pre h hi ha
  have hfr := h.fr_le
  have hmid : (s.take fr) ++ (s.drop fr).take (i - fr) = s.take i := by
    rw [← List.take_add]; congr 1; omega
  have hl : (s.take i).length = i := by rw [List.length_take]; omega
  refine ⟨Nat.le_refl _, h5, fun k a' hk => ?_, ?_, ?_, ?_⟩
  · rw [mget_mset] at hk
    split at hk
    · cases hk; subst_vars; exact ⟨by omega, rfl⟩
    · have := h.map k a' hk; exact ⟨by omega, this.2⟩
  · refine toksOk_app _ _ _ (toksOk_app _ _ _ h.ok ?_) ?_
    · exact ltok_ok _ _ (by rw [List.length_take, List.length_drop]; omega)
    · rw [List.foldl_append, h.app, foldl_lit, hmid]
      exact ⟨⟨h4, by omega, by omega, hf, by rw [hl]; omega⟩, trivial⟩
  · rw [List.foldl_append, List.foldl_append, h.app, foldl_lit, hmid]
    show cpy (i - a) _ (s.take i) = _
    refine cpy_take s (i - a) _ i (by omega) (by omega) h5 fun j hj => ?_
    have := (lpre_spec (s.drop a) (s.drop i)).2.2 j hj
    rw [getD_drop, getD_drop] at this
    rw [show i - (i - a) = a by omega]; exact this
  · have hlen := h.len
    have hq := lpl_len ((s.drop fr).take (i - fr))
    have hv1 := vput_len (2 * lpre (s.drop a) (s.drop i) + 1)
    have hv2 := vput_len (i - a)
    simp only [List.flatMap_append, List.length_append, ltok_enc, List.flatMap_cons, List.flatMap_nil, List.append_nil, tenc]
    have hq1 : ((s.drop fr).take (i - fr)).length = i - fr := by rw [List.length_take, List.length_drop]; omega
    rw [hq1] at hq
    omega
theorem pk_end {s : List UInt8} {M : List (Nat × Nat)} {i fr : Nat} {ts : List Tok} (h : PkInv s M i fr ts) (hs : s.length < 4611686018427387904) : toksOk [] (ts ++ ltok (s.drop fr)) ∧ (ts ++ ltok (s.drop fr)).foldl tapp [] = s := by
  refine ⟨toksOk_app _ _ _ h.ok (ltok_ok _ _ (by rw [List.length_drop]; omega)), ?_⟩
  rw [List.foldl_append, h.app, foldl_lit, List.take_append_drop]
theorem pkgo_ok (s : List UInt8) (hs : s.length < 4611686018427387904) : ∀ (f : Nat) (M : List (Nat × Nat)) (i fr : Nat) (ts : List Tok), PkInv s M i fr ts → toksOk [] (pkgo s f M i fr ts) ∧ (pkgo s f M i fr ts).foldl tapp [] = s := by
  intro f
  induction f with
  | zero => intro M i fr ts h; exact pk_end h hs
  | succ f ih =>
    intro M i fr ts h
    unfold pkgo
    by_cases hi : i + 4 ≤ s.length
    · rw [if_pos hi]
      cases ha : mget M (lkey (s.drop i)) with
      | none => exact ih _ _ _ _ (pk_step h hi)
      | some a =>
        simp only
        by_cases hf : i - a ≤ 65535
        · rw [if_pos hf]; exact ih _ _ _ _ (pk_copy h hs hi ha hf)
        · rw [if_neg hf]; exact ih _ _ _ _ (pk_step h hi)
    · rw [if_neg hi]; exact pk_end h hs
theorem pk_init (s : List UInt8) : PkInv s [] 0 0 [] := ⟨by omega, by omega, fun k a h => by simp [mget] at h, trivial, rfl, by simp⟩
theorem lzPack_len (s : List UInt8) : (lzPack s).length ≤ s.length + 1 := by
  unfold lzPack
  split
  · simp
  · omega
theorem lzPack_unpack (s : List UInt8) (hs : s.length < 4611686018427387904) (m : Nat) : lzUnpack (lzPack s) (m : Int) = if s.length ≤ m then (s, 0) else ([], 3) := by
  unfold lzPack
  split
  · unfold lzUnpack
    rw [if_neg (by omega), if_neg (by simp)]
    simp only [List.getD_cons_zero, UInt8.toNat_ofNat, Nat.zero_mod, List.length_cons, List.drop_succ_cons, List.drop_zero, if_true]
    by_cases h : s.length ≤ m
    · rw [if_neg (by omega), if_pos h]
    · rw [if_pos (by omega), if_neg h]
  · obtain ⟨h1, h2⟩ := pkgo_ok s hs (s.length + 1) [] 0 0 [] (pk_init s)
    unfold lzUnpack lzBody
    rw [if_neg (by omega), if_neg (by simp), if_neg (by simp)]
    simp only [List.drop_succ_cons, List.drop_zero, List.length_cons, Int.toNat_natCast]
    rw [lzun_toks m (lzSteps s) _ _ h1 (by omega) (by simp)]
    show (if ((lzSteps s).foldl tapp []).length ≤ m then ((lzSteps s).foldl tapp [], 0) else ([], 3)) = _
    rw [show (lzSteps s).foldl tapp [] = s from h2]
theorem rep_getD (c : UInt8) (n j : Nat) (h : j < n) : (List.replicate n c).getD j 0 = c := by
  rw [List.getD_eq_getElem?_getD, List.getElem?_replicate, if_pos h]; rfl
theorem lkey_rep (c : UInt8) (n : Nat) (h : 4 ≤ n) : lkey (List.replicate n c) = c.toNat + c.toNat * 256 + c.toNat * 65536 + c.toNat * 16777216 := by
  unfold lkey
  rw [rep_getD c n 0 (by omega), rep_getD c n 1 (by omega), rep_getD c n 2 (by omega), rep_getD c n 3 (by omega)]
theorem lpre_rep (c : UInt8) : ∀ n, lpre (List.replicate (n + 1) c) (List.replicate n c) = n := by
  intro n
  induction n with
  | zero => simp [lpre]
  | succ n ih => show lpre (c :: List.replicate (n + 1) c) (c :: List.replicate n c) = n + 1; rw [lpre, if_pos rfl, ih]
theorem pkgo_done (s : List UInt8) (f : Nat) (M : List (Nat × Nat)) (i : Nat) (ts : List Tok) (hi : s.length ≤ i) : pkgo s f M i i ts = ts := by
  cases f with
  | zero => rw [pkgo, List.drop_of_length_le hi]; simp [ltok]
  | succ f => rw [pkgo, if_neg (by omega), List.drop_of_length_le hi]; simp [ltok]
theorem pkgo_miss {s : List UInt8} {f : Nat} {M : List (Nat × Nat)} {i fr : Nat} {ts : List Tok} (hi : i + 4 ≤ s.length) (h : mget M (lkey (s.drop i)) = none) : pkgo s (f + 1) M i fr ts = pkgo s f (mset M (lkey (s.drop i)) i) (i + 1) fr ts := by
  rw [pkgo, if_pos hi, h]
theorem pkgo_hit {s : List UInt8} {f : Nat} {M : List (Nat × Nat)} {i fr a : Nat} {ts : List Tok} (hi : i + 4 ≤ s.length) (h : mget M (lkey (s.drop i)) = some a) (hf : i - a ≤ 65535) :
    pkgo s (f + 1) M i fr ts = pkgo s f (mset M (lkey (s.drop i)) i) (i + lpre (s.drop a) (s.drop i)) (i + lpre (s.drop a) (s.drop i)) (ts ++ ltok ((s.drop fr).take (i - fr)) ++ [.cp (lpre (s.drop a) (s.drop i)) (i - a)]) := by
  rw [pkgo, if_pos hi, h]
  simp only
  rw [if_pos hf]
theorem pkgo_far {s : List UInt8} {f : Nat} {M : List (Nat × Nat)} {i fr a : Nat} {ts : List Tok} (hi : i + 4 ≤ s.length) (h : mget M (lkey (s.drop i)) = some a) (hf : ¬ i - a ≤ 65535) :
    pkgo s (f + 1) M i fr ts = pkgo s f (mset M (lkey (s.drop i)) i) (i + 1) fr ts := by
  rw [pkgo, if_pos hi, h]
  simp only
  rw [if_neg hf]
theorem pkgo_run (c : UInt8) (q : Nat) (hq : 7 ≤ q) : pkgo (List.replicate (q + 1) c) (q + 1 + 1) [] 0 0 [] = [.lit [c], .cp q 1] := by
  have hl : (List.replicate (q + 1) c).length = q + 1 := List.length_replicate
  have hk : lkey ((List.replicate (q + 1) c).drop 1) = lkey ((List.replicate (q + 1) c).drop 0) := by
    rw [List.drop_replicate, List.drop_replicate, lkey_rep _ _ (by omega), lkey_rep _ _ (by omega)]
  rw [pkgo_miss (by omega) rfl, Nat.zero_add]
  rw [pkgo_hit (a := 0) (by omega) (by rw [hk]; simp [mset, mget]) (by omega)]
  have hp : lpre ((List.replicate (q + 1) c).drop 0) ((List.replicate (q + 1) c).drop 1) = q := by
    rw [List.drop_replicate, List.drop_replicate]; exact lpre_rep c q
  rw [hp, pkgo_done _ _ _ _ _ (by omega)]
  simp [ltok]
/-- a run of one byte -/
theorem lzPack_run (c : UInt8) (m : Nat) (hm : m ≤ 4096) : (lzPack (List.replicate m c)).length ≤ 8 := by
  rcases Nat.lt_or_ge m 8 with h | h
  · have := lzPack_len (List.replicate m c)
    rw [List.length_replicate] at this
    omega
  · obtain ⟨q, rfl⟩ : ∃ q, m = q + 1 := ⟨m - 1, by omega⟩
    have hl : (List.replicate (q + 1) c).length = q + 1 := List.length_replicate
    have hb : (lzBody (List.replicate (q + 1) c)).length ≤ 8 := by
      have h1 : (vputf 9 (2 * q + 1)).length ≤ 2 := vputf_len2 8 _ (by omega)
      have h2 : (vputf 9 1).length = 1 := vputf_len1 8 _ (by omega)
      have h3 : (vputf 9 2).length = 1 := vputf_len1 8 _ (by omega)
      rw [lzBody, lzSteps, hl, pkgo_run c q (by omega)]
      simp only [List.flatMap_cons, List.flatMap_nil, tenc, lpl, vput, List.length_cons, List.length_append, List.append_nil, List.length_nil, Nat.zero_add, Nat.mul_one]
      rw [if_neg (by simp)]
      simp only [List.length_append, List.length_cons, List.length_nil]
      omega
    unfold lzPack
    split
    · rename_i h2
      rw [hl] at h2
      rw [List.length_cons, hl]; omega
    · exact hb
end Go.Kn
namespace Go.Kn
theorem or_shl {a k : Nat} (b : Nat) (h : a < 2 ^ k) : a ||| b * 2 ^ k = a + b * 2 ^ k := by
  have := Nat.two_pow_add_eq_or_of_lt h b
  rw [Nat.or_comm, Nat.mul_comm b, ← this, Nat.add_comm]
theorem or8 {a : Nat} (b : Nat) (h : a < 256) : a ||| b * 256 = a + b * 256 := or_shl (k := 8) b h
theorem or16 {a : Nat} (b : Nat) (h : a < 65536) : a ||| b * 65536 = a + b * 65536 := or_shl (k := 16) b h
theorem or24 {a : Nat} (b : Nat) (h : a < 16777216) : a ||| b * 16777216 = a + b * 16777216 := or_shl (k := 24) b h
theorem lpre_stop {s : List UInt8} {a b : Nat} (h : s.length ≤ b ∨ s.getD a 0 ≠ s.getD b 0) : lpre (s.drop a) (s.drop b) = 0 := by
  rcases Nat.lt_or_ge b s.length with hb | hb
  · rcases Nat.lt_or_ge a s.length with ha | ha
    · rw [drop_cons s a ha, drop_cons s b hb, lpre, if_neg (by rcases h with h | h; omega; exact h)]
    · rw [List.drop_of_length_le ha]; simp [lpre]
  · rw [List.drop_of_length_le hb]; cases s.drop a <;> simp [lpre]
theorem lpre_go {s : List UInt8} {a b : Nat} (ha : a < s.length) (hb : b < s.length) (h : s.getD a 0 = s.getD b 0) : lpre (s.drop a) (s.drop b) = lpre (s.drop (a + 1)) (s.drop (b + 1)) + 1 := by
  rw [drop_cons s a ha, drop_cons s b hb, lpre, if_pos h]
theorem u8_eq {a b : UInt8} (h : ((a.toNat : Nat) : Int) = b.toNat) : a = b := UInt8.toNat_inj.1 (by omega)
theorem u8_ne {a b : UInt8} (h : ¬ ((a.toNat : Nat) : Int) = b.toNat) : a ≠ b := fun e => h (by rw [e])
end Go.Kn
namespace Go.Kn
theorem sh16e (b : Nat) : ((b : Int) * 2 ^ 16) = ((b * 65536 : Nat) : Int) := by rw [Int.natCast_mul]; congr 1
theorem sh24e (b : Nat) : ((b : Int) * 2 ^ 24) = ((b * 16777216 : Nat) : Int) := by rw [Int.natCast_mul]; congr 1
theorem or16i {a : Nat} (b : Nat) (h : a < 65536) : a ||| ((b : Int) * 2 ^ 16).toNat = a + b * 65536 := by rw [sh16e, Int.toNat_natCast]; exact or16 b h
theorem or24i {a : Nat} (b : Nat) (h : a < 16777216) : a ||| ((b : Int) * 2 ^ 24).toNat = a + b * 16777216 := by rw [sh24e, Int.toNat_natCast]; exact or24 b h
theorem sh16 (b : Nat) (h : b < 256) : 0 ≤ ((b : Int) * 2 ^ 16) ∧ ((b : Int) * 2 ^ 16) ≤ 16711680 := by rw [sh16e]; omega
theorem sh24 (b : Nat) (h : b < 256) : 0 ≤ ((b : Int) * 2 ^ 24) ∧ ((b : Int) * 2 ^ 24) ≤ 4278190080 := by rw [sh24e]; omega
end Go.Kn
namespace Go.Kn
theorem pkgo_end {s : List UInt8} {f : Nat} {M : List (Nat × Nat)} {i fr : Nat} {ts : List Tok} (hi : ¬ i + 4 ≤ s.length) : pkgo s f M i fr ts = ts ++ ltok (s.drop fr) := by
  cases f with
  | zero => rw [pkgo]
  | succ f => rw [pkgo, if_neg hi]
theorem pk_at {s : List UInt8} {M : List (Nat × Nat)} {i fr : Nat} {ts : List Tok} (h : PkInv s M i fr ts) (k : Nat) : (mget M k).getD 0 ≤ i := by
  cases hm : mget M k with
  | none => simp
  | some a => have := (h.map k a hm).1; simp; omega
theorem pk_next {s : List UInt8} {f : Nat} {M : List (Nat × Nat)} {i fr : Nat} {ts : List Tok} (hi : i + 4 ≤ s.length) (h : (mget M (lkey (s.drop i))).isSome = false ∨ 65535 < (i : Int) - (((mget M (lkey (s.drop i))).getD 0 : Nat) : Int)) :
    pkgo s (f + 1) M i fr ts = pkgo s f (mset M (lkey (s.drop i)) i) (i + 1) fr ts := by
  cases hm : mget M (lkey (s.drop i)) with
  | none => exact pkgo_miss hi hm
  | some a =>
    rw [hm] at h
    exact pkgo_far hi hm (by simp at h; omega)
theorem pk_out (ts : List Tok) (t : List UInt8) (n i a : Nat) : (1 :: ts.flatMap tenc) ++ ((lpl t ++ vput (2 * n + 1)) ++ vput ((i : Int) - (a : Int)).toNat) = 1 :: (ts ++ ltok t ++ [Tok.cp n (i - a)]).flatMap tenc := by
  rw [Int.toNat_sub, List.flatMap_append, List.flatMap_append, ltok_enc]
  simp [tenc]
theorem pk_outE (ts : List Tok) (t : List UInt8) : (1 :: ts.flatMap tenc) ++ lpl t = 1 :: (ts ++ ltok t).flatMap tenc := by
  rw [List.flatMap_append, ltok_enc]; rfl
end Go.Kn
namespace Go.Kn
theorem lzPack_less (s : List UInt8) (hs : s.length < 4611686018427387904) : lzUnpack (lzPack s) (((s.length : Nat) : Int) - 1) = ([], if s = [] then 1 else 3) := by
  by_cases h : s = []
  · subst h; unfold lzUnpack; rw [if_pos (by simp)]; rfl
  · have h0 := List.length_pos_iff.2 h
    have := lzPack_unpack s hs (s.length - 1)
    rw [show ((s.length - 1 : Nat) : Int) = ((s.length : Nat) : Int) - 1 by omega, if_neg (by omega)] at this
    rw [this, if_neg h]
theorem lzPack_back (s : List UInt8) (hs : s.length < 4611686018427387904) : lzUnpack (lzPack s) ((s.length : Nat) : Int) = (s, 0) := by
  rw [lzPack_unpack s hs, if_pos (Nat.le_refl _)]
end Go.Kn
end
section
/- Objects (layer 4), plain. -/
set_option linter.unusedVariables false
namespace Go.Kn
structure EntR where
  Name : List UInt8
  Kind : Int
  I : Id
deriving Inhabited, DecidableEq
def encEnt (x : EntR) : List Value := .string (S x.Name) :: .int .i64 x.Kind :: idc x.I
theorem encEnt_len (x : EntR) : (encEnt x).length = 34 := rfl
structure ObjL where
  Kind : Int
  Data : List UInt8
  Entries : List EntR
  Tree : Id
  Parents : List Id
  Time : Nat
  Text : List UInt8
  Target : Id
  Of : Int
  Name : List UInt8
deriving Inhabited, DecidableEq
structure LinkR where
  I : Id
  Kind : Int
deriving Inhabited, DecidableEq
def encLink (x : LinkR) : List Value := idc x.I ++ [.int .i64 x.Kind]
theorem encLink_len (x : LinkR) : (encLink x).length = 33 := rfl

/-- may a name be? -/
def oName (s : List UInt8) : Bool := decide (s ≠ [] ∧ s.length ≤ 40 ∧ (0 : UInt8) ∉ s ∧ (47 : UInt8) ∉ s)
/-- are the fields of other kinds empty? -/
def oBlob (o : ObjL) : Bool := decide (o.Data = [])
def oTree (o : ObjL) : Bool := decide (o.Entries = [])
def oCommit (o : ObjL) : Bool := decide (o.Tree = idZ ∧ o.Parents = [] ∧ o.Time = 0 ∧ o.Text = [])
def oTag (o : ObjL) : Bool := decide (o.Target = idZ ∧ o.Of = 0 ∧ o.Name = [])
def oAlone (o : ObjL) : Bool :=
  if o.Kind = 1 then oTree o && oCommit o && oTag o
  else if o.Kind = 2 then oBlob o && oCommit o && oTag o
  else if o.Kind = 3 then oBlob o && oTree o && oTag o
  else oBlob o && oTree o && oCommit o
/-- does entry i fit? -/
def entOk (l : List EntR) (i : Nat) : Bool :=
  oName (l.getD i default).Name && decide ((l.getD i default).Kind = 1 ∨ (l.getD i default).Kind = 2) && (decide (i = 0) || Go.Op.bytesLess (l.getD (i - 1) default).Name (l.getD i default).Name)
def entsTo (l : List EntR) (n : Nat) : Bool := (List.range n).all (entOk l)
def oEntries (l : List EntR) : Bool := entsTo l l.length && decide (l.length ≤ 64)
def oMay (o : ObjL) : Bool :=
  if o.Kind = 2 then oAlone o && oEntries o.Entries
  else if o.Kind = 3 then oAlone o && decide (o.Parents.length ≤ 8)
  else if o.Kind = 4 then oAlone o && decide (1 ≤ o.Of ∧ o.Of ≤ 4) && oName o.Name
  else decide (o.Kind = 1) && oAlone o
theorem entsTo_succ (l : List EntR) (n : Nat) : entsTo l (n + 1) = (entsTo l n && entOk l n) := by
  simp [entsTo, List.range_succ]
theorem entsTo_false {l : List EntR} {n m : Nat} (h : n ≤ m) (hf : entsTo l n = false) : entsTo l m = false := by
  induction m with
  | zero => obtain rfl : n = 0 := by omega
            exact hf
  | succ m ih =>
    rcases Nat.lt_or_ge m n with h1 | h1
    · obtain rfl : n = m + 1 := by omega
      exact hf
    · rw [entsTo_succ, ih h1]; rfl
end Go.Kn
namespace Go.Kn
/-- an object's 72 cells -/
def objC (o : ObjL) (Ae : Option Addr) (ce : Nat) (Ap : Option Addr) (cp : Nat) : List Value :=
  .int .i64 o.Kind :: .string (S o.Data) :: .slice Ae o.Entries.length ce :: (idc o.Tree ++ (.slice Ap o.Parents.length cp :: .int .u32 ((o.Time : Nat) : Int) :: .string (S o.Text) :: (idc o.Target ++ [.int .i64 o.Of, .string (S o.Name)])))
end Go.Kn
namespace Go.Kn
/-- the bounds that any Go value keeps -/
structure ObjOk (o : ObjL) : Prop where
  kind : InR .i64 o.Kind
  of : InR .i64 o.Of
  time : o.Time < 4294967296
  el : o.Entries.length ≤ 9223372036854775807
  en : ∀ i < o.Entries.length, (o.Entries.getD i default).Name.length ≤ 9223372036854775807
  ek : ∀ i < o.Entries.length, InR .i64 (o.Entries.getD i default).Kind
  pl : o.Parents.length ≤ 9223372036854775807
  dl : o.Data.length ≤ 9223372036854775807
  tl : o.Text.length ≤ 9223372036854775807
  nl : o.Name.length ≤ 9223372036854775807
def oFewTo (o : ObjL) (n : Nat) : Bool := (List.range n).all fun i => decide ((o.Entries.getD i default).Name.length ≤ 100)
def oFew (o : ObjL) : Bool := decide (o.Entries.length ≤ 70 ∧ o.Parents.length ≤ 20 ∧ o.Data.length ≤ 5000 ∧ o.Text.length ≤ 5000 ∧ o.Name.length ≤ 100) && oFewTo o o.Entries.length
theorem oFewTo_succ (o : ObjL) (n : Nat) : oFewTo o (n + 1) = (oFewTo o n && decide ((o.Entries.getD n default).Name.length ≤ 100)) := by
  simp [oFewTo, List.range_succ]
theorem oFewTo_false {o : ObjL} {n m : Nat} (h : n ≤ m) (hf : oFewTo o n = false) : oFewTo o m = false := by
  induction m with
  | zero => obtain rfl : n = 0 := by omega
            exact hf
  | succ m ih =>
    rcases Nat.lt_or_ge m n with h1 | h1
    · obtain rfl : n = m + 1 := by omega
      exact hf
    · rw [oFewTo_succ, ih h1]; rfl
def oNameTo (s : List UInt8) (n : Nat) : Bool := (s.take n).all fun c => decide (c ≠ 0 ∧ c ≠ 47)
theorem oNameTo_succ (s : List UInt8) (n : Nat) (h : n < s.length) : oNameTo s (n + 1) = (oNameTo s n && decide (s.getD n 0 ≠ 0 ∧ s.getD n 0 ≠ 47)) := by
  unfold oNameTo
  rw [List.take_succ_eq_append_getElem h, List.all_append, List.getD_eq_getElem?_getD, List.getElem?_eq_getElem h]
  simp
theorem oName_all (s : List UInt8) : oName s = (decide (1 ≤ s.length ∧ s.length ≤ 40) && oNameTo s s.length) := by
  unfold oName oNameTo
  rw [List.take_length, Bool.eq_iff_iff]
  simp only [decide_eq_true_eq, Bool.and_eq_true, List.all_eq_true]
  constructor
  · intro ⟨h1, h2, h3, h4⟩
    exact ⟨⟨List.length_pos_iff.2 h1, h2⟩, fun c hc => ⟨fun e => h3 (e ▸ hc), fun e => h4 (e ▸ hc)⟩⟩
  · intro ⟨⟨h1, h2⟩, h3⟩
    exact ⟨List.length_pos_iff.1 h1, h2, fun h => (h3 _ h).1 rfl, fun h => (h3 _ h).2 rfl⟩
theorem oNameTo_false {s : List UInt8} {n : Nat} (h : n < s.length) (hf : oNameTo s (n + 1) = false) : oName s = false := by
  rw [oName_all]
  have : oNameTo s s.length = false := by
    unfold oNameTo at hf ⊢
    rw [← Bool.not_eq_true, List.all_eq_true] at hf ⊢
    intro hc
    exact hf fun c hm => hc c (by rw [List.take_length]; exact List.mem_of_mem_take hm)
  rw [this]; simp
theorem u8_zero {c : UInt8} : (((c.toNat : Nat) : Int) = 0) ↔ c = 0 := by
  constructor
  · intro h; exact UInt8.toNat_inj.1 (by simpa using h)
  · intro h; subst h; rfl
theorem u8_slash {c : UInt8} : (((c.toNat : Nat) : Int) = 47) ↔ c = 47 := by
  constructor
  · intro h; exact UInt8.toNat_inj.1 (by have : (47 : UInt8).toNat = 47 := rfl; omega)
  · intro h; subst h; rfl
end Go.Kn
namespace Go.Kn
theorem oMay_iff (o : ObjL) : oMay o = true ↔ (1 ≤ o.Kind ∧ o.Kind ≤ 4) ∧ (o.Kind ≠ 1 → o.Data = []) ∧ (o.Kind ≠ 2 → o.Entries = []) ∧ (o.Kind ≠ 3 → o.Tree = idZ ∧ o.Parents = [] ∧ o.Time = 0 ∧ o.Text = []) ∧
    (o.Kind ≠ 4 → o.Target = idZ ∧ o.Of = 0 ∧ o.Name = []) ∧ (o.Kind = 4 → (1 ≤ o.Of ∧ o.Of ≤ 4) ∧ oName o.Name = true) ∧ o.Entries.length ≤ 64 ∧ o.Parents.length ≤ 8 ∧ entsTo o.Entries o.Entries.length = true := by
  have e0 : o.Entries = [] → o.Entries.length ≤ 64 ∧ entsTo o.Entries o.Entries.length = true := fun h => by rw [h]; exact ⟨by simp, rfl⟩
  have p0 : o.Parents = [] → o.Parents.length ≤ 8 := fun h => by rw [h]; simp
  unfold oMay oAlone oEntries oBlob oTree oCommit oTag
  by_cases h2 : o.Kind = 2
  · simp only [h2, if_pos]
    simp
    constructor
    · rintro ⟨⟨⟨a1, a2⟩, a3⟩, a4, a5⟩
      exact ⟨a1, a2, a3, a5, p0 a2.2.1, a4⟩
    · rintro ⟨a1, a2, a3, a4, a5, a6⟩
      exact ⟨⟨⟨a1, a2⟩, a3⟩, a6, a4⟩
  · by_cases h3 : o.Kind = 3
    · simp only [h3]
      simp
      constructor
      · rintro ⟨⟨⟨a1, a2⟩, a3⟩, a4⟩
        exact ⟨a1, a2, a3, (e0 a2).1, a4, (e0 a2).2⟩
      · rintro ⟨a1, a2, a3, a4, a5, a6⟩
        exact ⟨⟨⟨a1, a2⟩, a3⟩, a5⟩
    · by_cases h4 : o.Kind = 4
      · simp only [h4]
        simp
        constructor
        · rintro ⟨⟨⟨⟨a1, a2⟩, a3⟩, a4⟩, a5⟩
          exact ⟨a1, a2, a3, ⟨a4, a5⟩, (e0 a2).1, p0 a3.2.1, (e0 a2).2⟩
        · rintro ⟨a1, a2, a3, a4, a5, a6, a7⟩
          exact ⟨⟨⟨⟨a1, a2⟩, a3⟩, a4.1⟩, a4.2⟩
      · rw [if_neg h2, if_neg h3, if_neg h4]
        by_cases h1 : o.Kind = 1
        · simp only [h1]
          simp
          constructor
          · rintro ⟨⟨a1, a2⟩, a3⟩
            exact ⟨a1, a2, a3, (e0 a1).1, p0 a2.2.1, (e0 a1).2⟩
          · rintro ⟨a1, a2, a3, a4, a5, a6⟩
            exact ⟨⟨a1, a2⟩, a3⟩
        · simp only [h1, decide_false, Bool.false_and, Bool.false_eq_true, false_iff]
          rintro ⟨a1, _⟩
          omega
end Go.Kn
namespace Go.Kn
def oneB8 (n : Int) : List UInt8 := [UInt8.ofNat (n % 256).toNat]
def entEnc (e : EntR) : List UInt8 := oneB8 e.Kind ++ vtext e.Name ++ e.I.l
def rEnts (o : ObjL) (n : Nat) : List UInt8 := o.Data ++ (o.Entries.take n).flatMap entEnc
def rPars (o : ObjL) (n : Nat) : List UInt8 := rEnts o o.Entries.length ++ o.Tree.l ++ vput o.Parents.length ++ (o.Parents.take n).flatMap Id.l
def rCom (o : ObjL) : List UInt8 := if o.Kind = 3 then rPars o o.Parents.length ++ vput o.Time ++ vtext o.Text else rEnts o o.Entries.length
def rBody (o : ObjL) : List UInt8 := if o.Kind = 4 then rCom o ++ oneB8 o.Of ++ o.Target.l ++ vtext o.Name else rCom o
def rEnc (o : ObjL) : List UInt8 × Bool := if oMay o then (if 4096 < (oneB8 o.Kind ++ vtext (rBody o)).length then ([], false) else (oneB8 o.Kind ++ vtext (rBody o), true)) else ([], false)
theorem flat_take_succ {α β : Type} [Inhabited α] (f : α → List β) (l : List α) (n : Nat) (h : n < l.length) : (l.take (n + 1)).flatMap f = (l.take n).flatMap f ++ f (l.getD n default) := by
  rw [List.take_succ_eq_append_getElem h, List.flatMap_append, List.getD_eq_getElem?_getD, List.getElem?_eq_getElem h]
  simp
theorem rEnts_succ (o : ObjL) (n : Nat) (h : n < o.Entries.length) : rEnts o (n + 1) = ((rEnts o n ++ oneB8 (o.Entries.getD n default).Kind) ++ vtext (o.Entries.getD n default).Name) ++ (o.Entries.getD n default).I.l := by
  rw [rEnts, flat_take_succ _ _ _ h, rEnts]; simp [entEnc]
theorem rPars_succ (o : ObjL) (n : Nat) (h : n < o.Parents.length) : rPars o (n + 1) = rPars o n ++ (o.Parents.getD n default).l := by
  rw [rPars, flat_take_succ _ _ _ h, rPars]; simp
theorem vtext_len (l : List UInt8) : (vtext l).length ≤ l.length + 10 := by
  have := vput_len l.length
  unfold vtext; rw [List.length_append]; omega
structure FewOk (o : ObjL) : Prop where
  e : o.Entries.length ≤ 70
  p : o.Parents.length ≤ 20
  d : o.Data.length ≤ 5000
  t : o.Text.length ≤ 5000
  n : o.Name.length ≤ 100
  en : ∀ i < o.Entries.length, (o.Entries.getD i default).Name.length ≤ 100
theorem few_spec {o : ObjL} (h : oFew o = true) : FewOk o := by
  unfold oFew at h
  simp only [Bool.and_eq_true, decide_eq_true_eq] at h
  obtain ⟨⟨h1, h2, h3, h4, h5⟩, h6⟩ := h
  refine ⟨h1, h2, h3, h4, h5, fun i hi => ?_⟩
  have := List.all_eq_true.1 h6 i (List.mem_range.2 hi)
  simpa using this
theorem rEnts_len {o : ObjL} (h : FewOk o) (n : Nat) (hn : n ≤ o.Entries.length) : (rEnts o n).length ≤ 5000 + n * 143 := by
  induction n with
  | zero => have := h.d; simp [rEnts]; omega
  | succ n ih =>
    have h1 := ih (by omega)
    have h2 := h.en n (by omega)
    have h3 := vtext_len (o.Entries.getD n default).Name
    have h4 := (o.Entries.getD n default).I.h
    rw [rEnts_succ o n (by omega)]
    simp only [List.length_append, oneB8, List.length_cons, List.length_nil]
    omega
theorem rPars_len {o : ObjL} (h : FewOk o) (n : Nat) (hn : n ≤ o.Parents.length) : (rPars o n).length ≤ 16000 + n * 32 := by
  induction n with
  | zero =>
    have h1 := rEnts_len h _ (Nat.le_refl _)
    have h2 := h.e
    have h3 := o.Tree.h
    have h4 := vput_len o.Parents.length
    simp only [rPars, List.take_zero, List.flatMap_nil, List.length_append, List.length_nil]
    omega
  | succ n ih =>
    have h1 := ih (by omega)
    have h4 := (o.Parents.getD n default).h
    rw [rPars_succ o n (by omega), List.length_append]
    omega
end Go.Kn
namespace Go.Kn
theorem rBody_len {o : ObjL} (h : FewOk o) : (rBody o).length ≤ 50000 := by
  have h1 := rEnts_len h _ (Nat.le_refl _)
  have h2 := rPars_len h _ (Nat.le_refl _)
  have h3 := vput_len o.Time
  have h4 := vtext_len o.Text
  have h5 := vtext_len o.Name
  have h6 := o.Target.h
  have := h.e; have := h.p; have := h.t; have := h.n
  have hl5 : (oneB8 o.Of).length = 1 := rfl
  have hc : (rCom o).length ≤ 40000 := by
    unfold rCom
    split
    · simp only [List.length_append]; omega
    · omega
  unfold rBody
  split
  · simp only [List.length_append]; omega
  · omega
end Go.Kn
end
section
set_option linter.unusedSimpArgs false
set_option linter.unusedVariables false
set_option maxRecDepth 100000
namespace Go.Kn
open Go.Proofs
theorem read_ok (l : List UInt8) (h : Nat) (w : World) (hl : l.length ≤ 9223372036854775807) (hh : h ≤ 9223372036854775807) :
    Fn Tryd.prog 102 #[.string (S l), .int .i64 ((h : Nat) : Int)] w (fun x w' => x = .tuple #[.agg #[.int .u64 (((lzread l h).1 : Nat) : Int), .int .u64 (((lzread l h).2.1 : Nat) : Int)], .string (S ((lzread l h).2.2.1)), .int .i64 (((lzread l h).2.2.2 : Nat) : Int)] ∧ Ext w w') := by
  have hx : Ext w w := Ext.rfl' w
  refine enter (N := 72) (args := [.string (S l), .int .i64 ((h : Nat) : Int)]) Tryd.func102 rfl rfl rfl ?_
  intro a ha
  simp only [argEnv, Nat.zero_add, Nat.reduceAdd] at ha
  refine wseq ?_
  refine reg_list ?_
  refine lnew ha rfl (by kernel_rfl) #[.int .u64 0, .int .u64 0] 150 (by kernel_rfl) ?_
  clear ha a; intro b1 w2 he hb_b1 hB_b1 a ha
  replace hb_b1 := Nat.le_trans hx.size hb_b1
  replace hx := hx.tr he
  clear he
  refine segp (ρ' := [(0, .string (S l)), (1, .int .i64 ((h : Nat) : Int)), (4, .pointer (some ⟨b1, 0, none⟩))]) (C := []) ha 2 [] rfl (by kernel_rfl) .nil ?_
  clear ha a; intro a ha
  refine lnil ?_
  replace ha := ha.sub (ρ' := [(0, .string (S l)), (1, .int .i64 ((h : Nat) : Int)), (4, .pointer (some ⟨b1, 0, none⟩))]) (by kernel_rfl)
  refine tn ?_
  refine wseq ?_
  refine reg hmix (ρ' := [(1, .int .i64 ((h : Nat) : Int)), (4, .pointer (some ⟨b1, 0, none⟩)), (7, .int .u64 (((vget l).1 : Nat) : Int)), (8, .string (S ((vget l).2.1))), (9, .int .i64 (((vget l).2.2 : Nat) : Int))]) (C := [CallOk Tryd.prog w2 77 #[.string (S l)] (.tuple #[.int .u64 (((vget l).1 : Nat) : Int), .string (S ((vget l).2.1)), .int .i64 (((vget l).2.2 : Nat) : Int)])]) ha [(1, .val (.tuple #[.int .u64 (((vget l).1 : Nat) : Int), .string (S ((vget l).2.1)), .int .i64 (((vget l).2.2 : Nat) : Int)]))] (by kernel_rfl) (.cons (fun w _ => get_ok _ w (by omega)) .nil) ?_
  clear ha a; intro a w3 ha he
  replace hx := hx.tr he
  replace hB_b1 := keepB he hB_b1
  clear he
  have hg1 := vget_lt l
  have hg2 := vget_len l
  refine tn ?_
  refine wseq ?_
  refine wseq ?_
  refine regp (ρ' := [(1, .int .i64 ((h : Nat) : Int)), (4, .pointer (some ⟨b1, 0, none⟩)), (7, .int .u64 (((vget l).1 : Nat) : Int)), (8, .string (S ((vget l).2.1))), (19, .bool (!decide ((((vget l).2.2 : Nat) : Int) = 0)))]) (C := []) ha [] (by kernel_rfl) .nil ?_
  clear ha a; intro a ha
  refine tn ?_
  refine wif ha rfl (fun h19 => ?_) (fun h19 => ?_)
  · simp only [Bool.not_eq_true', Bool.not_eq_false', Bool.and_eq_true, Bool.or_eq_true, Bool.and_eq_false_iff, Bool.or_eq_false_iff, decide_eq_true_eq, decide_eq_false_iff_not, Bool.not_eq_true, Decidable.not_not] at h19
    refine wseq ?_
    refine reg_list ?_
    refine segp (ρ' := [(4, .pointer (some ⟨b1, 0, none⟩)), (20, .agg #[.int .u64 0, .int .u64 0])]) (C := []) ha 1 [] rfl (by kernel_rfl) .nil ?_
    clear ha a; intro a ha
    refine lstore (off := 0) ha rfl rfl (by kernel_rfl) hB_b1 #[.int .u64 0, .int .u64 0] rfl (by kernel_rfl) (by kernel_rfl) ?_
    clear ha a; intro w4 hc a ha
    replace hx := hc.ext hx hb_b1
    replace hB_b1 := hc.at_; clear hc
    refine segp (ρ' := [(4, .pointer (some ⟨b1, 0, none⟩)), (5, .string (S [])), (6, .int .i64 2)]) (C := []) ha 2 [] rfl (by kernel_rfl) .nil ?_
    clear ha a; intro a ha
    refine lnil ?_
    replace ha := ha.sub (ρ' := [(4, .pointer (some ⟨b1, 0, none⟩)), (5, .string (S [])), (6, .int .i64 2)]) (by kernel_rfl)
    refine tn ?_
    refine wret ?_
    refine (tr ?_)
    refine fin ha (.cell rfl (ldVN (n := 2) (vs := #[.int .u64 0, .int .u64 0]) hB_b1 (by kernel_rfl) (by kernel_rfl) ⟨Nat.le_of_ble_eq_true (by kernel_rfl), (by kernel_rfl)⟩) (.tmp rfl (.tmp rfl .nil))) ?_
    refine ⟨?_, hx⟩
    unfold lzread
    (repeat' split) <;> first | rfl | (exfalso; omega)
  · simp only [Bool.not_eq_true', Bool.not_eq_false', Bool.and_eq_true, Bool.or_eq_true, Bool.and_eq_false_iff, Bool.or_eq_false_iff, decide_eq_true_eq, decide_eq_false_iff_not, Bool.not_eq_true, Decidable.not_not] at h19
    refine wskip ?_
    refine tn ?_
    refine wseq ?_
    refine wseq ?_
    refine regp (ρ' := [(1, .int .i64 ((h : Nat) : Int)), (4, .pointer (some ⟨b1, 0, none⟩)), (7, .int .u64 (((vget l).1 : Nat) : Int)), (8, .string (S ((vget l).2.1))), (23, .bool (decide (((((vget l).1) % 2 : Nat) : Int) = 0)))]) (C := [0 ≤ (((vget l).1 : Nat) : Int), 0 < (2 : Int)]) ha [] (by kernel_rfl) (.cons (by omega) (.cons (by omega) .nil)) ?_
    clear ha a; intro a ha
    refine tn ?_
    refine wif ha rfl (fun h23 => ?_) (fun h23 => ?_)
    · replace h23 := of_decide_eq_true h23
      refine wseq ?_
      refine wseq ?_
      refine regp (ρ' := [(4, .pointer (some ⟨b1, 0, none⟩)), (7, .int .u64 (((vget l).1 : Nat) : Int)), (8, .string (S ((vget l).2.1))), (33, .bool ((decide ((((vget l).1 : Nat) : Int) = 0)) || (decide (((((vget l).2.1).length : Nat) : Int) < ((((vget l).1) / 2 : Nat) : Int)))))]) (C := [(decide ((((vget l).1 : Nat) : Int) = 0)) = false → All [0 ≤ (((vget l).1 : Nat) : Int), 0 < (2 : Int), InR .u64 ((((vget l).1) / 2 : Nat) : Int), InR .u64 ((((vget l).2.1).length : Nat) : Int)]]) ha [] (by kernel_rfl) (.cons (fun hg3 => by replace hg3 := of_decide_eq_false hg3; exact (.cons (by omega) (.cons (by omega) (.cons (by unfold InR; omega) (.cons (by unfold InR; omega) .nil))))) .nil) ?_
      clear ha a; intro a ha
      refine tn ?_
      refine wif ha rfl (fun h33 => ?_) (fun h33 => ?_)
      · simp only [Bool.not_eq_true', Bool.not_eq_false', Bool.and_eq_true, Bool.or_eq_true, Bool.and_eq_false_iff, Bool.or_eq_false_iff, decide_eq_true_eq, decide_eq_false_iff_not, Bool.not_eq_true, Decidable.not_not] at h33
        refine wseq ?_
        refine reg_list ?_
        refine segp (ρ' := [(4, .pointer (some ⟨b1, 0, none⟩)), (34, .agg #[.int .u64 0, .int .u64 0])]) (C := []) ha 1 [] rfl (by kernel_rfl) .nil ?_
        clear ha a; intro a ha
        refine lstore (off := 0) ha rfl rfl (by kernel_rfl) hB_b1 #[.int .u64 0, .int .u64 0] rfl (by kernel_rfl) (by kernel_rfl) ?_
        clear ha a; intro w5 hc a ha
        replace hx := hc.ext hx hb_b1
        replace hB_b1 := hc.at_; clear hc
        refine segp (ρ' := [(4, .pointer (some ⟨b1, 0, none⟩)), (5, .string (S [])), (6, .int .i64 2)]) (C := []) ha 2 [] rfl (by kernel_rfl) .nil ?_
        clear ha a; intro a ha
        refine lnil ?_
        replace ha := ha.sub (ρ' := [(4, .pointer (some ⟨b1, 0, none⟩)), (5, .string (S [])), (6, .int .i64 2)]) (by kernel_rfl)
        refine tn ?_
        refine wret ?_
        refine (tr (tr ?_))
        refine fin ha (.cell rfl (ldVN (n := 2) (vs := #[.int .u64 0, .int .u64 0]) hB_b1 (by kernel_rfl) (by kernel_rfl) ⟨Nat.le_of_ble_eq_true (by kernel_rfl), (by kernel_rfl)⟩) (.tmp rfl (.tmp rfl .nil))) ?_
        refine ⟨?_, hx⟩
        unfold lzread
        (repeat' split) <;> first | rfl | (exfalso; omega)
      · simp only [Bool.not_eq_true', Bool.not_eq_false', Bool.and_eq_true, Bool.or_eq_true, Bool.and_eq_false_iff, Bool.or_eq_false_iff, decide_eq_true_eq, decide_eq_false_iff_not, Bool.not_eq_true, Decidable.not_not] at h33
        refine wskip ?_
        refine tn ?_
        refine wseq ?_
        refine reg_list ?_
        refine segp (ρ' := [(4, .pointer (some ⟨b1, 0, none⟩)), (37, .agg #[.int .u64 ((((vget l).1) / 2 : Nat) : Int), .int .u64 0]), (38, .string (S ((vget l).2.1)))]) (C := [0 ≤ (((vget l).1 : Nat) : Int), 0 < (2 : Int), InR .u64 ((((vget l).1) / 2 : Nat) : Int)]) ha 4 [] rfl (by kernel_rfl) (.cons (by omega) (.cons (by omega) (.cons (by unfold InR; omega) .nil))) ?_
        clear ha a; intro a ha
        refine lstore (off := 0) ha rfl rfl (by kernel_rfl) hB_b1 #[.int .u64 ((((vget l).1) / 2 : Nat) : Int), .int .u64 0] rfl (by kernel_rfl) (by kernel_rfl) ?_
        clear ha a; intro w6 hc a ha
        replace hx := hc.ext hx hb_b1
        replace hB_b1 := hc.at_; clear hc
        refine segp (ρ' := [(4, .pointer (some ⟨b1, 0, none⟩)), (5, .string (S ((vget l).2.1))), (6, .int .i64 0)]) (C := []) ha 2 [] rfl (by kernel_rfl) .nil ?_
        clear ha a; intro a ha
        refine lnil ?_
        replace ha := ha.sub (ρ' := [(4, .pointer (some ⟨b1, 0, none⟩)), (5, .string (S ((vget l).2.1))), (6, .int .i64 0)]) (by kernel_rfl)
        refine tn ?_
        refine wret ?_
        refine (tr ?_)
        refine fin ha (.cell rfl (ldVN (n := 2) (vs := #[.int .u64 ((((vget l).1) / 2 : Nat) : Int), .int .u64 0]) hB_b1 (by kernel_rfl) (by kernel_rfl) ⟨Nat.le_of_ble_eq_true (by kernel_rfl), (by kernel_rfl)⟩) (.tmp rfl (.tmp rfl .nil))) ?_
        refine ⟨?_, hx⟩
        unfold lzread
        (repeat' split) <;> first | rfl | (exfalso; omega)
    · replace h23 := of_decide_eq_false h23
      refine wskip ?_
      refine tn ?_
      refine wseq ?_
      refine reg hmix (ρ' := [(1, .int .i64 ((h : Nat) : Int)), (4, .pointer (some ⟨b1, 0, none⟩)), (7, .int .u64 (((vget l).1 : Nat) : Int)), (9, .int .i64 (((vget ((vget l).2.1)).2.2 : Nat) : Int)), (10, .int .u64 (((vget ((vget l).2.1)).1 : Nat) : Int)), (11, .string (S ((vget ((vget l).2.1)).2.1)))]) (C := [CallOk Tryd.prog w3 77 #[.string (S ((vget l).2.1))] (.tuple #[.int .u64 (((vget ((vget l).2.1)).1 : Nat) : Int), .string (S ((vget ((vget l).2.1)).2.1)), .int .i64 (((vget ((vget l).2.1)).2.2 : Nat) : Int)])]) ha [(1, .val (.tuple #[.int .u64 (((vget ((vget l).2.1)).1 : Nat) : Int), .string (S ((vget ((vget l).2.1)).2.1)), .int .i64 (((vget ((vget l).2.1)).2.2 : Nat) : Int)]))] (by kernel_rfl) (.cons (fun w _ => get_ok _ w (by omega)) .nil) ?_
      clear ha a; intro a w7 ha he
      replace hx := hx.tr he
      replace hB_b1 := keepB he hB_b1
      clear he
      have hg3 := vget_lt (vget l).2.1
      refine tn ?_
      refine wseq ?_
      refine wseq ?_
      refine regp (ρ' := [(4, .pointer (some ⟨b1, 0, none⟩)), (7, .int .u64 (((vget l).1 : Nat) : Int)), (10, .int .u64 (((vget ((vget l).2.1)).1 : Nat) : Int)), (11, .string (S ((vget ((vget l).2.1)).2.1))), (65, .bool (((((!decide ((((vget ((vget l).2.1)).2.2 : Nat) : Int) = 0)) || (decide (((((vget l).1) / 2 : Nat) : Int) < 4))) || (decide ((((vget ((vget l).2.1)).1 : Nat) : Int) < 1))) || (decide ((65535 : Int) < (((vget ((vget l).2.1)).1 : Nat) : Int)))) || (decide (((h : Nat) : Int) < (((vget ((vget l).2.1)).1 : Nat) : Int)))))]) (C := [(!decide ((((vget ((vget l).2.1)).2.2 : Nat) : Int) = 0)) = false → All [0 ≤ (((vget l).1 : Nat) : Int), 0 < (2 : Int), InR .u64 ((((vget l).1) / 2 : Nat) : Int)], ((((!decide ((((vget ((vget l).2.1)).2.2 : Nat) : Int) = 0)) || (decide (((((vget l).1) / 2 : Nat) : Int) < 4))) || (decide ((((vget ((vget l).2.1)).1 : Nat) : Int) < 1))) || (decide ((65535 : Int) < (((vget ((vget l).2.1)).1 : Nat) : Int)))) = false → All [InR .u64 ((h : Nat) : Int)]]) ha [] (by kernel_rfl) (.cons (fun hg3 => by simp only [Bool.not_eq_true', Bool.not_eq_false', Bool.and_eq_true, Bool.or_eq_true, Bool.and_eq_false_iff, Bool.or_eq_false_iff, decide_eq_true_eq, decide_eq_false_iff_not, Bool.not_eq_true, Decidable.not_not] at hg3; exact (.cons (by omega) (.cons (by omega) (.cons (by unfold InR; omega) .nil)))) (.cons (fun hg16 => by simp only [Bool.not_eq_true', Bool.not_eq_false', Bool.and_eq_true, Bool.or_eq_true, Bool.and_eq_false_iff, Bool.or_eq_false_iff, decide_eq_true_eq, decide_eq_false_iff_not, Bool.not_eq_true, Decidable.not_not] at hg16; exact (.cons (by unfold InR; omega) .nil)) .nil)) ?_
      clear ha a; intro a ha
      refine tn ?_
      refine wif ha rfl (fun h65 => ?_) (fun h65 => ?_)
      · simp only [Bool.not_eq_true', Bool.not_eq_false', Bool.and_eq_true, Bool.or_eq_true, Bool.and_eq_false_iff, Bool.or_eq_false_iff, decide_eq_true_eq, decide_eq_false_iff_not, Bool.not_eq_true, Decidable.not_not] at h65
        refine wseq ?_
        refine reg_list ?_
        refine segp (ρ' := [(4, .pointer (some ⟨b1, 0, none⟩)), (66, .agg #[.int .u64 0, .int .u64 0])]) (C := []) ha 1 [] rfl (by kernel_rfl) .nil ?_
        clear ha a; intro a ha
        refine lstore (off := 0) ha rfl rfl (by kernel_rfl) hB_b1 #[.int .u64 0, .int .u64 0] rfl (by kernel_rfl) (by kernel_rfl) ?_
        clear ha a; intro w8 hc a ha
        replace hx := hc.ext hx hb_b1
        replace hB_b1 := hc.at_; clear hc
        refine segp (ρ' := [(4, .pointer (some ⟨b1, 0, none⟩)), (5, .string (S [])), (6, .int .i64 2)]) (C := []) ha 2 [] rfl (by kernel_rfl) .nil ?_
        clear ha a; intro a ha
        refine lnil ?_
        replace ha := ha.sub (ρ' := [(4, .pointer (some ⟨b1, 0, none⟩)), (5, .string (S [])), (6, .int .i64 2)]) (by kernel_rfl)
        refine tn ?_
        refine wret ?_
        refine (tr ?_)
        refine fin ha (.cell rfl (ldVN (n := 2) (vs := #[.int .u64 0, .int .u64 0]) hB_b1 (by kernel_rfl) (by kernel_rfl) ⟨Nat.le_of_ble_eq_true (by kernel_rfl), (by kernel_rfl)⟩) (.tmp rfl (.tmp rfl .nil))) ?_
        refine ⟨?_, hx⟩
        unfold lzread
        (repeat' split) <;> first | rfl | (exfalso; omega)
      · simp only [Bool.not_eq_true', Bool.not_eq_false', Bool.and_eq_true, Bool.or_eq_true, Bool.and_eq_false_iff, Bool.or_eq_false_iff, decide_eq_true_eq, decide_eq_false_iff_not, Bool.not_eq_true, Decidable.not_not] at h65
        refine wskip ?_
        refine tn ?_
        refine wseq ?_
        refine reg_list ?_
        refine segp (ρ' := [(4, .pointer (some ⟨b1, 0, none⟩)), (70, .agg #[.int .u64 ((((vget l).1) / 2 : Nat) : Int), .int .u64 (((vget ((vget l).2.1)).1 : Nat) : Int)]), (71, .string (S ((vget ((vget l).2.1)).2.1)))]) (C := [0 ≤ (((vget l).1 : Nat) : Int), 0 < (2 : Int), InR .u64 ((((vget l).1) / 2 : Nat) : Int)]) ha 5 [] rfl (by kernel_rfl) (.cons (by omega) (.cons (by omega) (.cons (by unfold InR; omega) .nil))) ?_
        clear ha a; intro a ha
        refine lstore (off := 0) ha rfl rfl (by kernel_rfl) hB_b1 #[.int .u64 ((((vget l).1) / 2 : Nat) : Int), .int .u64 (((vget ((vget l).2.1)).1 : Nat) : Int)] rfl (by kernel_rfl) (by kernel_rfl) ?_
        clear ha a; intro w9 hc a ha
        replace hx := hc.ext hx hb_b1
        replace hB_b1 := hc.at_; clear hc
        refine segp (ρ' := [(4, .pointer (some ⟨b1, 0, none⟩)), (5, .string (S ((vget ((vget l).2.1)).2.1))), (6, .int .i64 0)]) (C := []) ha 2 [] rfl (by kernel_rfl) .nil ?_
        clear ha a; intro a ha
        refine lnil ?_
        replace ha := ha.sub (ρ' := [(4, .pointer (some ⟨b1, 0, none⟩)), (5, .string (S ((vget ((vget l).2.1)).2.1))), (6, .int .i64 0)]) (by kernel_rfl)
        refine tn ?_
        refine wret ?_
        refine fin ha (.cell rfl (ldVN (n := 2) (vs := #[.int .u64 ((((vget l).1) / 2 : Nat) : Int), .int .u64 (((vget ((vget l).2.1)).1 : Nat) : Int)]) hB_b1 (by kernel_rfl) (by kernel_rfl) ⟨Nat.le_of_ble_eq_true (by kernel_rfl), (by kernel_rfl)⟩) (.tmp rfl (.tmp rfl .nil))) ?_
        refine ⟨?_, hx⟩
        unfold lzread
        (repeat' split) <;> first | rfl | (exfalso; omega)
theorem unpack_ok (s : List UInt8) (m : Int) (w : World) (hs : s.length ≤ 9223372036854775807) (hm : m ≤ 1000000000) :
    Fn Tryd.prog 94 #[.string (S s), .int .i64 m] w (fun x w' => x = .tuple #[.string (S ((lzUnpack s m).1)), .int .i64 (((lzUnpack s m).2 : Nat) : Int)] ∧ Ext w w') := by
  have hx : Ext w w := Ext.rfl' w
  refine enter (N := 96) (args := [.string (S s), .int .i64 m]) Tryd.func94 rfl rfl rfl ?_
  intro a ha
  simp only [argEnv, Nat.zero_add, Nat.reduceAdd] at ha
  refine wseq ?_
  refine regp (ρ' := [(0, .string (S s)), (1, .int .i64 m)]) (C := []) ha [] (by kernel_rfl) .nil ?_
  clear ha a; intro a ha
  refine tn ?_
  refine wseq ?_
  refine wblk ?_
  refine wseq ?_
  refine regp (ρ' := [(0, .string (S s)), (1, .int .i64 m), (11, .bool (decide ((m : Int) < 0)))]) (C := []) ha [] (by kernel_rfl) .nil ?_
  clear ha a; intro a ha
  refine tn ?_
  refine wif ha rfl (fun h11 => ?_) (fun h11 => ?_)
  · replace h11 := of_decide_eq_true h11
    have hres : lzUnpack s m = ([], 1) := by unfold lzUnpack; rw [if_pos h11]
    refine wseq ?_
    refine regp (ρ' := [(4, .string (S [])), (5, .int .i64 1)]) (C := []) ha [] (by kernel_rfl) .nil ?_
    clear ha a; intro a ha
    refine tn ?_
    refine wret ?_
    refine (br (tr ?_))
    refine fin ha (.tmp rfl (.tmp rfl .nil)) ?_
    exact ⟨by rw [hres]; rfl, hx⟩
  · replace h11 := of_decide_eq_false h11
    obtain ⟨M, rfl⟩ := Int.eq_ofNat_of_zero_le (by omega : 0 ≤ m)
    refine wseq ?_
    refine regp (ρ' := [(0, .string (S s)), (1, .int .i64 ((M : Nat) : Int)), (14, .bool ((decide ((s : List UInt8) = ([] : List UInt8))) || (decide ((1 : Int) < (((s.getD 0 0).toNat : Nat) : Int)))))]) (C := [(decide ((s : List UInt8) = ([] : List UInt8))) = false → All [0 ≤ (0 : Int) ∧ 0 < (s.length : Int)]]) ha [] (by kernel_rfl) (.cons (fun hg => by have hs0 : 0 < s.length := List.length_pos_iff.2 (of_decide_eq_false hg); exact .cons ⟨by omega, by omega⟩ .nil) .nil) ?_
    clear ha a; intro a ha
    refine tn ?_
    refine wif ha rfl (fun h14 => ?_) (fun h14 => ?_)
    · simp only [Bool.not_eq_true', Bool.not_eq_false', Bool.and_eq_true, Bool.or_eq_true, Bool.and_eq_false_iff, Bool.or_eq_false_iff, decide_eq_true_eq, decide_eq_false_iff_not, Bool.not_eq_true, Decidable.not_not] at h14
      have hres : lzUnpack s (M : Int) = ([], 2) := by unfold lzUnpack; rw [if_neg (by omega), if_pos (h14.elim (fun h => .inl h) (fun h => .inr (by omega)))]
      refine wseq ?_
      refine regp (ρ' := [(4, .string (S [])), (5, .int .i64 2)]) (C := []) ha [] (by kernel_rfl) .nil ?_
      clear ha a; intro a ha
      refine tn ?_
      refine wret ?_
      refine (br (tr ?_))
      refine fin ha (.tmp rfl (.tmp rfl .nil)) ?_
      exact ⟨by rw [hres]; rfl, hx⟩
    · simp only [Bool.not_eq_true', Bool.not_eq_false', Bool.and_eq_true, Bool.or_eq_true, Bool.and_eq_false_iff, Bool.or_eq_false_iff, decide_eq_true_eq, decide_eq_false_iff_not, Bool.not_eq_true, Decidable.not_not] at h14
      have hs0 : 0 < s.length := List.length_pos_iff.2 h14.1
      have hne : ¬ (s = [] ∨ 1 < (s.getD 0 0).toNat) := fun h => h.elim (fun h => h14.1 h) (fun h => h14.2 (by omega))
      refine wseq ?_
      refine regp (ρ' := [(0, .string (S s)), (1, .int .i64 ((M : Nat) : Int)), (22, .bool ((decide ((((s.getD 0 0).toNat : Nat) : Int) = 0)) && (decide (((M : Nat) : Int) < (((s.length : Nat) : Int) - 1)))))]) (C := [0 ≤ (0 : Int) ∧ 0 < (s.length : Int), (decide ((((s.getD 0 0).toNat : Nat) : Int) = 0)) = true → All [InR .i64 (((s.length : Nat) : Int) - 1)]]) ha [] (by kernel_rfl) (.cons ⟨by omega, by omega⟩ (.cons (fun hg4 => by replace hg4 := of_decide_eq_true hg4; exact (.cons (by unfold InR; omega) .nil)) .nil)) ?_
      clear ha a; intro a ha
      refine tn ?_
      refine wif ha rfl (fun h22 => ?_) (fun h22 => ?_)
      · simp only [Bool.not_eq_true', Bool.not_eq_false', Bool.and_eq_true, Bool.or_eq_true, Bool.and_eq_false_iff, Bool.or_eq_false_iff, decide_eq_true_eq, decide_eq_false_iff_not, Bool.not_eq_true, Decidable.not_not] at h22
        have hres : lzUnpack s (M : Int) = ([], 3) := by unfold lzUnpack; rw [if_neg (by omega), if_neg hne, if_pos (by omega), if_pos (by omega)]
        refine wseq ?_
        refine regp (ρ' := [(4, .string (S [])), (5, .int .i64 3)]) (C := []) ha [] (by kernel_rfl) .nil ?_
        clear ha a; intro a ha
        refine tn ?_
        refine wret ?_
        refine (br (tr ?_))
        refine fin ha (.tmp rfl (.tmp rfl .nil)) ?_
        exact ⟨by rw [hres]; rfl, hx⟩
      · simp only [Bool.not_eq_true', Bool.not_eq_false', Bool.and_eq_true, Bool.or_eq_true, Bool.and_eq_false_iff, Bool.or_eq_false_iff, decide_eq_true_eq, decide_eq_false_iff_not, Bool.not_eq_true, Decidable.not_not] at h22
        refine wseq ?_
        refine regp (ρ' := [(0, .string (S s)), (1, .int .i64 ((M : Nat) : Int)), (33, .bool (decide ((((s.getD 0 0).toNat : Nat) : Int) = 0)))]) (C := [0 ≤ (0 : Int) ∧ 0 < (s.length : Int)]) ha [] (by kernel_rfl) (.cons ⟨by omega, by omega⟩ .nil) ?_
        clear ha a; intro a ha
        refine tn ?_
        refine wif ha rfl (fun h33 => ?_) (fun h33 => ?_)
        · replace h33 := of_decide_eq_true h33
          have hres : lzUnpack s (M : Int) = (s.drop 1, 0) := by unfold lzUnpack; rw [if_neg (by omega), if_neg hne, if_pos (by omega), if_neg (by omega)]
          refine wseq ?_
          refine regp (ρ' := [(4, .string (S (s.drop 1))), (5, .int .i64 0)]) (C := [0 ≤ (1 : Int) ∧ 1 ≤ (s.length : Int)]) ha [] (by kernel_rfl) (.cons ⟨by omega, by omega⟩ .nil) ?_
          clear ha a; intro a ha
          refine tn ?_
          refine wret ?_
          refine (br (tr ?_))
          refine fin ha (.tmp rfl (.tmp rfl .nil)) ?_
          exact ⟨by rw [hres]; rfl, hx⟩
        · replace h33 := of_decide_eq_false h33
          have hgo : lzUnpack s (M : Int) = lzun M (s.length + 1) (s.drop 1) [] := by unfold lzUnpack; rw [if_neg (by omega), if_neg hne, if_neg (by omega)]; rfl
          refine wskip ?_
          refine bn ?_
          refine tn ?_
          refine wseq ?_
          refine regp (ρ' := [(0, .string (S s)), (1, .int .i64 ((M : Nat) : Int)), (6, .slice none 0 0)]) (C := []) ha [] (by kernel_rfl) .nil ?_
          clear ha a; intro a ha
          refine tn ?_
          refine wseq ?_
          refine wseq ?_
          refine regp (ρ' := [(0, .string (S (s.drop 1))), (1, .int .i64 ((M : Nat) : Int)), (6, .slice none 0 0)]) (C := [0 ≤ (1 : Int) ∧ 1 ≤ (s.length : Int)]) ha [] (by kernel_rfl) (.cons ⟨by omega, by omega⟩ .nil) ?_
          clear ha a; intro a ha
          refine tn ?_
          refine wblk ?_
          refine wloop (fun zz a w1 => ∃ (f : Nat) (r out : List UInt8) (A : Option Addr) (c : Nat), zz = f ∧ On 96 [(0, .string (S r)), (1, .int .i64 ((M : Nat) : Int)), (6, .slice A out.length c)] a ∧ Ext w w1 ∧ Own w1 w.heap.size 5 1 A out.length c (bys out) ∧ (r.length < f) ∧ (out.length ≤ M) ∧ (r.length ≤ s.length) ∧ (lzUnpack s (M : Int) = lzun M f r out)) _ ⟨(s.length + 1), (s.drop 1), ([] : List UInt8), none, 0, rfl, ha.sub (ρ' := [(0, .string (S (s.drop 1))), (1, .int .i64 ((M : Nat) : Int)), (6, .slice none (([] : List UInt8).length) 0)]) (by kernel_rfl), hx, own_nil _ _ _ _, by simp; omega, by simp, by simp, hgo⟩ ?_
          clear ha hx
          rintro zz a w2 ⟨f, r, out, A, c, hzz, ha, hx, ho, hf, hlen, hrl, hgo⟩
          have hsp := lzread_spec r out.length
          obtain ⟨f, rfl⟩ : ∃ f', f = f' + 1 := ⟨f - 1, by omega⟩
          refine wseq ?_
          refine wseq ?_
          refine regp (ρ' := [(0, .string (S r)), (1, .int .i64 ((M : Nat) : Int)), (6, .slice A out.length c), (42, .bool (!decide ((r : List UInt8) = ([] : List UInt8))))]) (C := []) ha [] (by kernel_rfl) .nil ?_
          clear ha a; intro a ha
          refine tn ?_
          refine wif ha rfl (fun h42 => ?_) (fun h42 => ?_)
          · simp only [Bool.not_eq_true', Bool.not_eq_false', Bool.and_eq_true, Bool.or_eq_true, Bool.and_eq_false_iff, Bool.or_eq_false_iff, decide_eq_true_eq, decide_eq_false_iff_not, Bool.not_eq_true, Decidable.not_not] at h42
            unfold lzun at hgo; rw [if_neg h42] at hgo
            refine wskip ?_
            refine tn ?_
            refine wblk ?_
            refine wseq ?_
            refine reg_list ?_
            refine seg (ρ' := [(1, .int .i64 ((M : Nat) : Int)), (6, .slice A out.length c), (48, .agg #[.int .u64 (((lzread r out.length).1 : Nat) : Int), .int .u64 (((lzread r out.length).2.1 : Nat) : Int)]), (49, .string (S ((lzread r out.length).2.2.1))), (50, .int .i64 (((lzread r out.length).2.2.2 : Nat) : Int))]) (C := [CallOk Tryd.prog w2 102 #[.string (S r), .int .i64 ((out.length : Nat) : Int)] (.tuple #[.agg #[.int .u64 (((lzread r out.length).1 : Nat) : Int), .int .u64 (((lzread r out.length).2.1 : Nat) : Int)], .string (S ((lzread r out.length).2.2.1)), .int .i64 (((lzread r out.length).2.2.2 : Nat) : Int)])]) ha 8 [(3, .val (.tuple #[.agg #[.int .u64 (((lzread r out.length).1 : Nat) : Int), .int .u64 (((lzread r out.length).2.1 : Nat) : Int)], .string (S ((lzread r out.length).2.2.1)), .int .i64 (((lzread r out.length).2.2.2 : Nat) : Int)]))] (by kernel_rfl) (.cons (fun w _ => read_ok _ _ w (by omega) (by omega)) .nil) ?_
            clear ha a; intro a w3 ha he
            replace hx := hx.tr he
            replace ho := ownE he ho
            clear he
            refine lnew ha rfl (by kernel_rfl) #[.int .u64 0, .int .u64 0] 150 (by kernel_rfl) ?_
            clear ha a; intro b4 w5 he hb_b4 hB_b4 a ha
            replace ho := ownE he ho
            replace hb_b4 := Nat.le_trans hx.size hb_b4
            replace hx := hx.tr he
            clear he
            refine lstore (off := 0) ha rfl rfl (by kernel_rfl) hB_b4 #[.int .u64 (((lzread r out.length).1 : Nat) : Int), .int .u64 (((lzread r out.length).2.1 : Nat) : Int)] rfl (by kernel_rfl) (by kernel_rfl) ?_
            clear ha a; intro w6 hc a ha
            replace ho := ownC hc hB_b4 rfl ho
            replace hx := hc.ext hx hb_b4
            replace hB_b4 := hc.at_; clear hc
            refine segp (ρ' := [(1, .int .i64 ((M : Nat) : Int)), (6, .slice A out.length c), (7, .pointer (some ⟨b4, 0, none⟩)), (8, .string (S ((lzread r out.length).2.2.1))), (9, .int .i64 (((lzread r out.length).2.2.2 : Nat) : Int))]) (C := []) ha 2 [] rfl (by kernel_rfl) .nil ?_
            clear ha a; intro a ha
            refine lnil ?_
            replace ha := ha.sub (ρ' := [(1, .int .i64 ((M : Nat) : Int)), (6, .slice A out.length c), (7, .pointer (some ⟨b4, 0, none⟩)), (8, .string (S ((lzread r out.length).2.2.1))), (9, .int .i64 (((lzread r out.length).2.2.2 : Nat) : Int))]) (by kernel_rfl)
            refine tn ?_
            refine wseq ?_
            refine wseq ?_
            refine regp (ρ' := [(1, .int .i64 ((M : Nat) : Int)), (6, .slice A out.length c), (7, .pointer (some ⟨b4, 0, none⟩)), (8, .string (S ((lzread r out.length).2.2.1))), (9, .int .i64 (((lzread r out.length).2.2.2 : Nat) : Int)), (52, .bool (!decide ((((lzread r out.length).2.2.2 : Nat) : Int) = 0)))]) (C := []) ha [] (by kernel_rfl) .nil ?_
            clear ha a; intro a ha
            refine tn ?_
            refine wif ha rfl (fun h52 => ?_) (fun h52 => ?_)
            · simp only [Bool.not_eq_true', Bool.not_eq_false', Bool.and_eq_true, Bool.or_eq_true, Bool.and_eq_false_iff, Bool.or_eq_false_iff, decide_eq_true_eq, decide_eq_false_iff_not, Bool.not_eq_true, Decidable.not_not] at h52
              have hres : lzUnpack s (M : Int) = ([], (lzread r out.length).2.2.2) := by rw [hgo, if_pos (by omega)]
              refine wseq ?_
              refine regp (ρ' := [(4, .string (S [])), (5, .int .i64 (((lzread r out.length).2.2.2 : Nat) : Int))]) (C := []) ha [] (by kernel_rfl) .nil ?_
              clear ha a; intro a ha
              refine tn ?_
              refine wret ?_
              refine (tr (br (tr (br (tr ?_)))))
              refine fin ha (.tmp rfl (.tmp rfl .nil)) ?_
              exact ⟨by rw [hres]; rfl, hx⟩
            · simp only [Bool.not_eq_true', Bool.not_eq_false', Bool.and_eq_true, Bool.or_eq_true, Bool.and_eq_false_iff, Bool.or_eq_false_iff, decide_eq_true_eq, decide_eq_false_iff_not, Bool.not_eq_true, Decidable.not_not] at h52
              rw [if_neg (by omega)] at hgo
              have hsp6 := hsp.2.2.2.2.2 (by omega)
              refine wskip ?_
              refine tn ?_
              refine wseq ?_
              refine wseq ?_
              refine regp (ρ' := [(1, .int .i64 ((M : Nat) : Int)), (6, .slice A out.length c), (7, .pointer (some ⟨b4, 0, none⟩)), (8, .string (S ((lzread r out.length).2.2.1))), (61, .bool (decide ((((M : Nat) : Int) - ((out.length : Nat) : Int)) < (((lzread r out.length).1 : Nat) : Int))))]) (C := [RunOk Tryd.prog w6 (Instr.loadAt 72 (.pointer (some ⟨b4, 0, none⟩))) (.int .u64 (((lzread r out.length).1 : Nat) : Int)), InR .i64 (((M : Nat) : Int) - ((out.length : Nat) : Int)), InR .u64 (((M : Nat) : Int) - ((out.length : Nat) : Int))]) ha [(1, .val (.int .u64 (((lzread r out.length).1 : Nat) : Int)))] (by kernel_rfl) (.cons (ld1 hB_b4 (by kernel_rfl) rfl) (.cons (by unfold InR; omega) (.cons (by unfold InR; omega) .nil))) ?_
              clear ha a; intro a ha
              refine tn ?_
              refine wif ha rfl (fun h61 => ?_) (fun h61 => ?_)
              · replace h61 := of_decide_eq_true h61
                have hres : lzUnpack s (M : Int) = ([], 3) := by rw [hgo, if_pos (by omega)]
                refine wseq ?_
                refine regp (ρ' := [(4, .string (S [])), (5, .int .i64 3)]) (C := []) ha [] (by kernel_rfl) .nil ?_
                clear ha a; intro a ha
                refine tn ?_
                refine wret ?_
                refine (tr (br (tr (br (tr ?_)))))
                refine fin ha (.tmp rfl (.tmp rfl .nil)) ?_
                exact ⟨by rw [hres]; rfl, hx⟩
              · replace h61 := of_decide_eq_false h61
                rw [if_neg (by omega)] at hgo
                refine wskip ?_
                refine tn ?_
                refine wseq ?_
                refine regp (ρ' := [(0, .string (S ((lzread r out.length).2.2.1))), (1, .int .i64 ((M : Nat) : Int)), (6, .slice A out.length c), (7, .pointer (some ⟨b4, 0, none⟩)), (8, .string (S ((lzread r out.length).2.2.1)))]) (C := []) ha [] (by kernel_rfl) .nil ?_
                clear ha a; intro a ha
                refine tn ?_
                refine wseq ?_
                refine wseq ?_
                refine regp (ρ' := [(0, .string (S ((lzread r out.length).2.2.1))), (1, .int .i64 ((M : Nat) : Int)), (6, .slice A out.length c), (7, .pointer (some ⟨b4, 0, none⟩)), (8, .string (S ((lzread r out.length).2.2.1))), (65, .bool (decide ((((lzread r out.length).2.1 : Nat) : Int) = 0)))]) (C := [RunOk Tryd.prog w6 (Instr.loadAt 72 (.pointer (some ⟨b4, 1, none⟩))) (.int .u64 (((lzread r out.length).2.1 : Nat) : Int))]) ha [(1, .val (.int .u64 (((lzread r out.length).2.1 : Nat) : Int)))] (by kernel_rfl) (.cons (ld1 hB_b4 (by kernel_rfl) rfl) .nil) ?_
                clear ha a; intro a ha
                refine tn ?_
                refine wif ha rfl (fun h65 => ?_) (fun h65 => ?_)
                · replace h65 := of_decide_eq_true h65
                  rw [if_pos (by omega)] at hgo
                  have hsp7 := hsp6.2 (by omega)
                  refine wseq ?_
                  refine reg_list ?_
                  refine segp (ρ' := [(1, .int .i64 ((M : Nat) : Int)), (7, .pointer (some ⟨b4, 0, none⟩)), (8, .string (S ((lzread r out.length).2.2.1))), (66, .slice A out.length c), (70, .string (S (((lzread r out.length).2.2.1).take ((lzread r out.length).1))))]) (C := [RunOk Tryd.prog w6 (Instr.loadAt 72 (.pointer (some ⟨b4, 0, none⟩))) (.int .u64 (((lzread r out.length).1 : Nat) : Int)), 0 ≤ (((lzread r out.length).1 : Nat) : Int) ∧ (((lzread r out.length).1 : Nat) : Int) ≤ (((lzread r out.length).2.2.1).length : Int)]) ha 5 [(3, .val (.int .u64 (((lzread r out.length).1 : Nat) : Int)))] rfl (by kernel_rfl) (.cons (ld1 hB_b4 (by kernel_rfl) rfl) (.cons ⟨by omega, by omega⟩ .nil)) ?_
                  clear ha a; intro a ha
                  refine lappS (q := (((lzread r out.length).2.2.1).take ((lzread r out.length).1))) ha rfl (by kernel_rfl) rfl (by kernel_rfl) (by kernel_rfl) (by kernel_rfl) rfl ho rfl (by rw [List.length_take]; omega) hx.size ?_
                  clear ha a; intro A7 c8 w9 ho2 hg a ha
                  replace hB_b4 := keepG hg ho rfl hB_b4
                  replace hx := extG hx hg ho (Nat.le_refl _)
                  clear hg ho
                  refine segp (ρ' := [(1, .int .i64 ((M : Nat) : Int)), (6, .slice A7 (out.length + (((lzread r out.length).2.2.1).take ((lzread r out.length).1)).length) c8), (7, .pointer (some ⟨b4, 0, none⟩)), (8, .string (S ((lzread r out.length).2.2.1)))]) (C := []) ha 1 [] rfl (by kernel_rfl) .nil ?_
                  clear ha a; intro a ha
                  refine lnil ?_
                  replace ha := ha.sub (ρ' := [(1, .int .i64 ((M : Nat) : Int)), (6, .slice A7 (out.length + (((lzread r out.length).2.2.1).take ((lzread r out.length).1)).length) c8), (7, .pointer (some ⟨b4, 0, none⟩)), (8, .string (S ((lzread r out.length).2.2.1)))]) (by kernel_rfl)
                  rw [show ((bys out ++ bys (((lzread r out.length).2.2.1).take ((lzread r out.length).1))) : List Value) = bys (out ++ (lzread r out.length).2.2.1.take (lzread r out.length).1) from by simp] at ho2
                  rw [show ((out.length + (((lzread r out.length).2.2.1).take ((lzread r out.length).1)).length) : Nat) = (out ++ (lzread r out.length).2.2.1.take (lzread r out.length).1).length from by simp] at ha ho2
                  refine tn ?_
                  refine wseq ?_
                  refine regp (ρ' := [(0, .string (S (((lzread r out.length).2.2.1).drop ((lzread r out.length).1)))), (1, .int .i64 ((M : Nat) : Int)), (6, .slice A7 ((out ++ (lzread r out.length).2.2.1.take (lzread r out.length).1).length) c8)]) (C := [RunOk Tryd.prog w9 (Instr.loadAt 72 (.pointer (some ⟨b4, 0, none⟩))) (.int .u64 (((lzread r out.length).1 : Nat) : Int)), 0 ≤ (((lzread r out.length).1 : Nat) : Int) ∧ (((lzread r out.length).1 : Nat) : Int) ≤ (((lzread r out.length).2.2.1).length : Int)]) ha [(2, .val (.int .u64 (((lzread r out.length).1 : Nat) : Int)))] (by kernel_rfl) (.cons (ld1 hB_b4 (by kernel_rfl) rfl) (.cons ⟨by omega, by omega⟩ .nil)) ?_
                  clear ha a; intro a ha
                  refine tn ?_
                  refine wexit ?_
                  refine (te (be ?_))
                  exact tn ⟨f, by omega, f, ((((lzread r out.length).2.2.1).drop ((lzread r out.length).1))), (out ++ (lzread r out.length).2.2.1.take (lzread r out.length).1), A7, c8, rfl, ha.sub (ρ' := [(0, .string (S ((((lzread r out.length).2.2.1).drop ((lzread r out.length).1))))), (1, .int .i64 ((M : Nat) : Int)), (6, .slice A7 ((out ++ (lzread r out.length).2.2.1.take (lzread r out.length).1).length) c8)]) (by kernel_rfl), hx, ho2, by first | omega | (simp only [List.length_drop]; omega), by simp; omega, by first | omega | (simp only [List.length_drop]; omega), hgo⟩
                · replace h65 := of_decide_eq_false h65
                  rw [if_neg (by omega)] at hgo
                  refine wskip ?_
                  refine tn ?_
                  refine wseq ?_
                  refine regp (ρ' := [(0, .string (S ((lzread r out.length).2.2.1))), (1, .int .i64 ((M : Nat) : Int)), (6, .slice A out.length c), (7, .pointer (some ⟨b4, 0, none⟩)), (77, .int .u64 (((lzread r out.length).1 : Nat) : Int)), (78, .int .u64 0)]) (C := [RunOk Tryd.prog w6 (Instr.loadAt 72 (.pointer (some ⟨b4, 0, none⟩))) (.int .u64 (((lzread r out.length).1 : Nat) : Int))]) ha [(1, .val (.int .u64 (((lzread r out.length).1 : Nat) : Int)))] (by kernel_rfl) (.cons (ld1 hB_b4 (by kernel_rfl) rfl) .nil) ?_
                  clear ha a; intro a ha
                  refine tn ?_
                  refine wblk ?_
                  refine wloop (fun zz a w10 => ∃ (k : Nat) (o2 : List UInt8) (A : Option Addr) (c : Nat), zz = (lzread r out.length).1 - k ∧ On 96 [(0, .string (S ((lzread r out.length).2.2.1))), (1, .int .i64 ((M : Nat) : Int)), (6, .slice A o2.length c), (7, .pointer (some ⟨b4, 0, none⟩)), (77, .int .u64 (((lzread r out.length).1 : Nat) : Int)), (78, .int .u64 ((k : Nat) : Int))] a ∧ Ext w w10 ∧ w10.heap[b4]? = some (.cells #[.int .u64 (((lzread r out.length).1 : Nat) : Int), .int .u64 (((lzread r out.length).2.1 : Nat) : Int)] 150 (0, 0)) ∧ Own w10 w.heap.size 5 1 A o2.length c (bys o2) ∧ (k ≤ (lzread r out.length).1) ∧ (o2.length = out.length + k) ∧ (cpy (lzread r out.length).2.1 ((lzread r out.length).1 - k) o2 = cpy (lzread r out.length).2.1 (lzread r out.length).1 out)) _ ⟨0, out, A, c, rfl, ha.sub (ρ' := [(0, .string (S ((lzread r out.length).2.2.1))), (1, .int .i64 ((M : Nat) : Int)), (6, .slice A out.length c), (7, .pointer (some ⟨b4, 0, none⟩)), (77, .int .u64 (((lzread r out.length).1 : Nat) : Int)), (78, .int .u64 ((0 : Nat) : Int))]) (by kernel_rfl), hx, hB_b4, ho, by omega, by omega, rfl⟩ ?_
                  clear ha hx hB_b4 ho
                  rintro zz a w11 ⟨k, o2, A, c, hzz, ha, hx, hB_b4, ho, hk, ho2, hcp⟩
                  refine wseq ?_
                  refine regp (ρ' := [(0, .string (S ((lzread r out.length).2.2.1))), (1, .int .i64 ((M : Nat) : Int)), (6, .slice A o2.length c), (7, .pointer (some ⟨b4, 0, none⟩)), (77, .int .u64 (((lzread r out.length).1 : Nat) : Int)), (78, .int .u64 ((k : Nat) : Int)), (79, .bool (decide (((k : Nat) : Int) < (((lzread r out.length).1 : Nat) : Int))))]) (C := []) ha [] (by kernel_rfl) .nil ?_
                  clear ha a; intro a ha
                  refine tn ?_
                  refine wseq ?_
                  refine wif ha rfl (fun h79 => ?_) (fun h79 => ?_)
                  · replace h79 := of_decide_eq_true h79
                    obtain ⟨g, rfl⟩ := own_some ho (by omega)
                    have hfar : (lzread r out.length).2.1 ≤ o2.length := by omega
                    refine wskip ?_
                    refine tn ?_
                    refine wseq ?_
                    refine wblk ?_
                    refine wseq ?_
                    refine regp (ρ' := [(0, .string (S ((lzread r out.length).2.2.1))), (1, .int .i64 ((M : Nat) : Int)), (6, .slice (some ⟨g, 0, none⟩) o2.length c), (7, .pointer (some ⟨b4, 0, none⟩)), (10, .int .u8 (((o2.getD (((((o2.length : Nat) : Int) - (((lzread r out.length).2.1 : Nat) : Int)) : Int).toNat) 0).toNat : Nat) : Int)), (77, .int .u64 (((lzread r out.length).1 : Nat) : Int)), (78, .int .u64 ((k : Nat) : Int))]) (C := [RunOk Tryd.prog w11 (Instr.loadAt 72 (.pointer (some ⟨b4, 1, none⟩))) (.int .u64 (((lzread r out.length).2.1 : Nat) : Int)), InR .i64 (((lzread r out.length).2.1 : Nat) : Int), InR .i64 (((o2.length : Nat) : Int) - (((lzread r out.length).2.1 : Nat) : Int)), RunOk Tryd.prog w11 (Instr.indexAt 50 (.slice (some ⟨g, 0, none⟩) o2.length c) (.int .i64 (((o2.length : Nat) : Int) - (((lzread r out.length).2.1 : Nat) : Int)))) (.pointer (some ⟨g, ((((o2.length : Nat) : Int) - (((lzread r out.length).2.1 : Nat) : Int)) : Int).toNat * 1, none⟩)), RunOk Tryd.prog w11 (Instr.loadAt 5 (.pointer (some ⟨g, ((((o2.length : Nat) : Int) - (((lzread r out.length).2.1 : Nat) : Int)) : Int).toNat * 1, none⟩))) (.int .u8 (((o2.getD (((((o2.length : Nat) : Int) - (((lzread r out.length).2.1 : Nat) : Int)) : Int).toNat) 0).toNat : Nat) : Int))]) ha [(4, .val (.int .u64 (((lzread r out.length).2.1 : Nat) : Int))), (7, .val (.pointer (some ⟨g, ((((o2.length : Nat) : Int) - (((lzread r out.length).2.1 : Nat) : Int)) : Int).toNat * 1, none⟩))), (8, .val (.int .u8 (((o2.getD (((((o2.length : Nat) : Int) - (((lzread r out.length).2.1 : Nat) : Int)) : Int).toNat) 0).toNat : Nat) : Int)))] (by kernel_rfl) (.cons (ld1 hB_b4 (by kernel_rfl) rfl) (.cons (by unfold InR; omega) (.cons (by unfold InR; omega) (.cons (idxOwnI (e := 5) (by kernel_rfl) (by kernel_rfl) ⟨by omega, by omega⟩) (.cons (ldOwn (by kernel_rfl) ho (bys_get _ _ (by omega))) .nil))))) ?_
                    clear ha a; intro a ha
                    rw [show ((((o2.getD (((((o2.length : Nat) : Int) - (((lzread r out.length).2.1 : Nat) : Int)) : Int).toNat) 0).toNat : Nat) : Int) : Int) = (((o2.getD (o2.length - (lzread r out.length).2.1) 0).toNat : Nat) : Int) from by rw [Int.toNat_sub]] at ha
                    refine tn ?_
                    refine reg_list ?_
                    refine segp (ρ' := [(0, .string (S ((lzread r out.length).2.2.1))), (1, .int .i64 ((M : Nat) : Int)), (7, .pointer (some ⟨b4, 0, none⟩)), (77, .int .u64 (((lzread r out.length).1 : Nat) : Int)), (78, .int .u64 ((k : Nat) : Int)), (89, .slice (some ⟨g, 0, none⟩) o2.length c), (90, .int .u8 (((o2.getD (o2.length - (lzread r out.length).2.1) 0).toNat : Nat) : Int))]) (C := []) ha 2 [] rfl (by kernel_rfl) .nil ?_
                    clear ha a; intro a ha
                    refine lnewS ha rfl (by kernel_rfl) #[.int .u8 (((o2.getD (o2.length - (lzread r out.length).2.1) 0).toNat : Nat) : Int)] 5 1 (by kernel_rfl) ?_
                    clear ha a; intro b12 w13 he hb_b12 hB_b12 a ha
                    have hne_b4_b12 : b4 ≠ b12 := ne_new hB_b4 hb_b12
                    have hno_ho_b12 : (Value.slice (some ⟨g, 0, none⟩) o2.length c).ownBlock ≠ some b12 := own_ne ho hb_b12
                    replace hB_b4 := keepB he hB_b4
                    replace ho := ownE he ho
                    replace hb_b12 := Nat.le_trans hx.size hb_b12
                    replace hx := hx.tr he
                    clear he
                    refine lapp (by_ := 1) ha rfl (by kernel_rfl) rfl (by kernel_rfl) rfl ho rfl [.int .u8 (((o2.getD (o2.length - (lzread r out.length).2.1) 0).toNat : Nat) : Int)] rfl (news_blk hB_b12) rfl (by omega) (by omega) hx.size ?_
                    clear ha a; intro A14 c15 w16 ho3 hg a ha
                    clear hB_b12 hb_b12
                    replace hB_b4 := keepG hg ho rfl hB_b4
                    replace hx := extG hx hg ho (Nat.le_refl _)
                    clear hg ho
                    refine segp (ρ' := [(0, .string (S ((lzread r out.length).2.2.1))), (1, .int .i64 ((M : Nat) : Int)), (6, .slice A14 (o2.length + 1) c15), (7, .pointer (some ⟨b4, 0, none⟩)), (77, .int .u64 (((lzread r out.length).1 : Nat) : Int)), (78, .int .u64 ((k : Nat) : Int))]) (C := []) ha 1 [] rfl (by kernel_rfl) .nil ?_
                    clear ha a; intro a ha
                    refine lnil ?_
                    replace ha := ha.sub (ρ' := [(0, .string (S ((lzread r out.length).2.2.1))), (1, .int .i64 ((M : Nat) : Int)), (6, .slice A14 (o2.length + 1) c15), (7, .pointer (some ⟨b4, 0, none⟩)), (77, .int .u64 (((lzread r out.length).1 : Nat) : Int)), (78, .int .u64 ((k : Nat) : Int))]) (by kernel_rfl)
                    rw [show ((bys o2 ++ [.int .u8 (((o2.getD (o2.length - (lzread r out.length).2.1) 0).toNat : Nat) : Int)]) : List Value) = bys (o2 ++ [o2.getD (o2.length - (lzread r out.length).2.1) 0]) from bys_push _ _] at ho3
                    rw [show ((o2.length + 1) : Nat) = (o2 ++ [o2.getD (o2.length - (lzread r out.length).2.1) 0]).length from by simp] at ha ho3
                    refine bn ?_
                    refine tn ?_
                    refine regp (ρ' := [(0, .string (S ((lzread r out.length).2.2.1))), (1, .int .i64 ((M : Nat) : Int)), (6, .slice A14 ((o2 ++ [o2.getD (o2.length - (lzread r out.length).2.1) 0]).length) c15), (7, .pointer (some ⟨b4, 0, none⟩)), (77, .int .u64 (((lzread r out.length).1 : Nat) : Int)), (78, .int .u64 ((k + 1 : Nat) : Int))]) (C := [InR .u64 ((k + 1 : Nat) : Int)]) ha [] (by kernel_rfl) (.cons (by unfold InR; omega) .nil) ?_
                    clear ha a; intro a ha
                    exact tn ⟨(lzread r out.length).1 - ((k + 1)), by omega, (k + 1), (o2 ++ [o2.getD (o2.length - (lzread r out.length).2.1) 0]), A14, c15, rfl, ha.sub (ρ' := [(0, .string (S ((lzread r out.length).2.2.1))), (1, .int .i64 ((M : Nat) : Int)), (6, .slice A14 ((o2 ++ [o2.getD (o2.length - (lzread r out.length).2.1) 0]).length) c15), (7, .pointer (some ⟨b4, 0, none⟩)), (77, .int .u64 (((lzread r out.length).1 : Nat) : Int)), (78, .int .u64 (((k + 1) : Nat) : Int))]) (by kernel_rfl), hx, hB_b4, ho3, by omega, by simp; omega, by rw [← hcp, show (lzread r out.length).1 - k = ((lzread r out.length).1 - (k + 1)) + 1 by omega, cpy]⟩
                  · replace h79 := of_decide_eq_false h79
                    obtain rfl : k = (lzread r out.length).1 := by omega
                    simp only [Nat.sub_self, cpy] at hcp
                    rw [← hcp] at hgo
                    refine wexit ?_
                    refine (te (te (be ?_)))
                    refine bn ?_
                    exact tn ⟨f, by omega, f, ((lzread r out.length).2.2.1), o2, A, c, rfl, ha.sub (ρ' := [(0, .string (S ((lzread r out.length).2.2.1))), (1, .int .i64 ((M : Nat) : Int)), (6, .slice A o2.length c)]) (by kernel_rfl), hx, ho, by first | omega | (simp only [List.length_drop]; omega), by omega, by first | omega | (simp only [List.length_drop]; omega), hgo⟩
          · simp only [Bool.not_eq_true', Bool.not_eq_false', Bool.and_eq_true, Bool.or_eq_true, Bool.and_eq_false_iff, Bool.or_eq_false_iff, decide_eq_true_eq, decide_eq_false_iff_not, Bool.not_eq_true, Decidable.not_not] at h42
            have hres : lzUnpack s (M : Int) = (out, 0) := by rw [hgo, lzun, if_pos h42]
            refine wexit ?_
            refine (te (te (be ?_)))
            refine tn ?_
            refine wseq ?_
            refine regp (ρ' := [(4, .string (S out)), (5, .int .i64 0)]) (C := [RunOk Tryd.prog w2 (convert 50 9 (.slice A out.length c)) (.string (S out))]) ha [(1, .val (.string (S out)))] (by kernel_rfl) (.cons (cvOwn (by kernel_rfl) (by kernel_rfl) (by kernel_rfl) ho) .nil) ?_
            clear ha a; intro a ha
            refine tn ?_
            refine wret ?_
            refine fin ha (.tmp rfl (.tmp rfl .nil)) ?_
            exact ⟨by rw [hres]; rfl, hx⟩
end Go.Kn
end
