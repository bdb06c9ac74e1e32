import Derived.Test.YtgimiamcigdgjaaDoorPb02
import Derived.Test.YtgimiamcigdgjaaDoorPb04
import Derived.Shelf.Strings.OnBuilder
import Derived.Shelf.Strings.Repeat
import Derived.Test.YtgimiamcigdgjaaDoorPb01
import Derived.Test.YtgimiamcigdgjaaDoorPb03
section
set_option linter.unusedSimpArgs false
set_option linter.unusedVariables false
set_option maxRecDepth 100000
namespace Go.Kn
open Go.Proofs Go.Shelf
def ren105 : Ren := ⟨fun | 105 => 68 | 212 => 85 | 99 => 76 | 165 => 55 | 166 => 45 | 170 => 52 | 169 => 50 | 263 => 95 | 264 => 96 | 206 => 93 | 240 => 65 | 241 => 71 | 276 => 81 | 277 => 88 | n => n, fun | 46 => 80 | 109 => 133 | 72 => 87 | 76 => 90 | 51 => 59 | 146 => 144 | 53 => 72 | 148 => 146 | 70 => 85 | 37 => 50 | 75 => 89 | 127 => 114 | 164 => 127 | 80 => 95 | n => n, fun n => n⟩
theorem lays105 : Lays.n105 Tryd.prog ren105 := {
  mixed := by kernel_rfl,
  f99 := by kernel_rfl,
  f105 := by kernel_rfl,
  f165 := by kernel_rfl,
  f166 := by kernel_rfl,
  f169 := by kernel_rfl,
  f170 := by kernel_rfl,
  f206 := by kernel_rfl,
  f212 := by kernel_rfl,
  f240 := by kernel_rfl,
  f241 := by kernel_rfl,
  f263 := by kernel_rfl,
  f264 := by kernel_rfl,
  f276 := by kernel_rfl,
  f277 := by kernel_rfl,
  t0 := by kernel_rfl,
  a0 := fun w => by kernel_rfl,
  z0 := fun w => by kernel_rfl,
  v0 := fun w => by kernel_rfl,
  t3 := by kernel_rfl,
  a3 := fun w => by kernel_rfl,
  z3 := fun w => by kernel_rfl,
  v3 := fun w => by kernel_rfl,
  t4 := by kernel_rfl,
  a4 := fun w => by kernel_rfl,
  z4 := fun w => by kernel_rfl,
  v4 := fun w => by kernel_rfl,
  t5 := by kernel_rfl,
  a5 := fun w => by kernel_rfl,
  z5 := fun w => by kernel_rfl,
  v5 := fun w => by kernel_rfl,
  t9 := by kernel_rfl,
  a9 := fun w => by kernel_rfl,
  z9 := fun w => by kernel_rfl,
  v9 := fun w => by kernel_rfl,
  t20 := by kernel_rfl,
  a20 := fun w => by kernel_rfl,
  z20 := fun w => by kernel_rfl,
  v20 := fun w => by kernel_rfl,
  t37 := by kernel_rfl,
  a37 := fun w => by kernel_rfl,
  z37 := fun w => by kernel_rfl,
  v37 := fun w => by kernel_rfl,
  t46 := by kernel_rfl,
  a46 := fun w => by kernel_rfl,
  z46 := fun w => by kernel_rfl,
  v46 := fun w => by kernel_rfl,
  t51 := by kernel_rfl,
  a51 := fun w => by kernel_rfl,
  z51 := fun w => by kernel_rfl,
  v51 := fun w => by kernel_rfl,
  t53 := by kernel_rfl,
  a53 := fun w => by kernel_rfl,
  z53 := fun w => by kernel_rfl,
  v53 := fun w => by kernel_rfl,
  t70 := by kernel_rfl,
  a70 := fun w => by kernel_rfl,
  z70 := fun w => by kernel_rfl,
  v70 := fun w => by kernel_rfl,
  t72 := by kernel_rfl,
  a72 := fun w => by kernel_rfl,
  z72 := fun w => by kernel_rfl,
  v72 := fun w => by kernel_rfl,
  t75 := by kernel_rfl,
  a75 := fun w => by kernel_rfl,
  z75 := fun w => by kernel_rfl,
  v75 := fun w => by kernel_rfl,
  t76 := by kernel_rfl,
  a76 := fun w => by kernel_rfl,
  z76 := fun w => by kernel_rfl,
  v76 := fun w => by kernel_rfl,
  t109 := by kernel_rfl,
  a109 := fun w => by kernel_rfl,
  z109 := fun w => by kernel_rfl,
  v109 := fun w => by kernel_rfl,
  t127 := by kernel_rfl,
  a127 := fun w => by kernel_rfl,
  z127 := fun w => by kernel_rfl,
  v127 := fun w => by kernel_rfl,
  t146 := by kernel_rfl,
  a146 := fun w => by kernel_rfl,
  z146 := fun w => by kernel_rfl,
  v146 := fun w => by kernel_rfl,
  t148 := by kernel_rfl,
  a148 := fun w => by kernel_rfl,
  z148 := fun w => by kernel_rfl,
  v148 := fun w => by kernel_rfl,
  t164 := by kernel_rfl,
  a164 := fun w => by kernel_rfl,
  z164 := fun w => by kernel_rfl,
  v164 := fun w => by kernel_rfl }
def ren156 : Ren := ⟨fun | 156 => 33 | 165 => 55 | 166 => 45 | 169 => 50 | 240 => 65 | 241 => 71 | 276 => 81 | 277 => 88 | n => n, fun | 31 => 22 | 72 => 87 | 76 => 90 | 70 => 85 | 37 => 50 | 75 => 89 | 127 => 114 | 164 => 127 | 80 => 95 | n => n, fun n => n⟩
theorem lays156 : Lays.n156 Tryd.prog ren156 := {
  mixed := by kernel_rfl,
  f156 := by kernel_rfl,
  f165 := by kernel_rfl,
  f166 := by kernel_rfl,
  f169 := by kernel_rfl,
  f240 := by kernel_rfl,
  f241 := by kernel_rfl,
  f276 := by kernel_rfl,
  f277 := by kernel_rfl,
  t0 := by kernel_rfl,
  a0 := fun w => by kernel_rfl,
  z0 := fun w => by kernel_rfl,
  v0 := fun w => by kernel_rfl,
  t3 := by kernel_rfl,
  a3 := fun w => by kernel_rfl,
  z3 := fun w => by kernel_rfl,
  v3 := fun w => by kernel_rfl,
  t4 := by kernel_rfl,
  a4 := fun w => by kernel_rfl,
  z4 := fun w => by kernel_rfl,
  v4 := fun w => by kernel_rfl,
  t9 := by kernel_rfl,
  a9 := fun w => by kernel_rfl,
  z9 := fun w => by kernel_rfl,
  v9 := fun w => by kernel_rfl,
  t20 := by kernel_rfl,
  a20 := fun w => by kernel_rfl,
  z20 := fun w => by kernel_rfl,
  v20 := fun w => by kernel_rfl,
  t31 := by kernel_rfl,
  a31 := fun w => by kernel_rfl,
  z31 := fun w => by kernel_rfl,
  v31 := fun w => by kernel_rfl,
  t37 := by kernel_rfl,
  a37 := fun w => by kernel_rfl,
  z37 := fun w => by kernel_rfl,
  v37 := fun w => by kernel_rfl,
  t70 := by kernel_rfl,
  a70 := fun w => by kernel_rfl,
  z70 := fun w => by kernel_rfl,
  v70 := fun w => by kernel_rfl,
  t72 := by kernel_rfl,
  a72 := fun w => by kernel_rfl,
  z72 := fun w => by kernel_rfl,
  v72 := fun w => by kernel_rfl,
  t75 := by kernel_rfl,
  a75 := fun w => by kernel_rfl,
  z75 := fun w => by kernel_rfl,
  v75 := fun w => by kernel_rfl,
  t76 := by kernel_rfl,
  a76 := fun w => by kernel_rfl,
  z76 := fun w => by kernel_rfl,
  v76 := fun w => by kernel_rfl,
  t127 := by kernel_rfl,
  a127 := fun w => by kernel_rfl,
  z127 := fun w => by kernel_rfl,
  v127 := fun w => by kernel_rfl,
  t164 := by kernel_rfl,
  a164 := fun w => by kernel_rfl,
  z164 := fun w => by kernel_rfl,
  v164 := fun w => by kernel_rfl }
theorem x72_105 : Builder.X72 Tryd.prog ren105 := {
  sizeBuilder := by kernel_rfl,
  liesBuilder := by kernel_rfl }
theorem extra105 : Builder.Extra Tryd.prog ren105 := {
  toX72 := x72_105, t5 := by kernel_rfl, a5 := fun w => by kernel_rfl, z5 := fun w => by kernel_rfl, v5 := fun w => by kernel_rfl, infoByte := by kernel_rfl, cellsByte := by kernel_rfl, sizeByte := by kernel_rfl, neB5 := by decide }
theorem x72_156 : Builder.X72 Tryd.prog ren156 := {
  sizeBuilder := by kernel_rfl,
  liesBuilder := by kernel_rfl }
theorem extra156 : Builder.Extra Tryd.prog ren156 := {
  toX72 := x72_156, t5 := by kernel_rfl, a5 := fun w => by kernel_rfl, z5 := fun w => by kernel_rfl, v5 := fun w => by kernel_rfl, infoByte := by kernel_rfl, cellsByte := by kernel_rfl, sizeByte := by kernel_rfl, neB5 := by decide }
theorem S_list (l : List UInt8) : (S l).data.toList = l := by simp [S]
theorem repeat_ok (l : List UInt8) (c : Nat) (w : World) (hc : c ≤ 9223372036854775807) (hlen : l.length * c ≤ 140737488355328) : FnV Tryd.prog 68 #[.string (S l), .int .i64 ((c : Nat) : Int)] w (.string (S (Go.Lib.repeatL l c))) := by
  have h := Any.strings_Repeat lays105 extra105 (S l) c w hc (by rw [S_size]; exact hlen)
  rw [S_list] at h
  exact Calls.mono h fun e w' ⟨h1, h2⟩ => ⟨_, h1, rfl, h2⟩
theorem rep0_ok (c : Nat) (w : World) (hc : c ≤ 1000) : FnV Tryd.prog 68 #[.string (S [0]), .int .i64 ((c : Nat) : Int)] w (.string (S (List.replicate c 0))) := by
  have := repeat_ok [0] c w (by omega) (by simp; omega)
  rwa [repeat_rep] at this
theorem join_ok (bk o c : Nat) (l : List (List UInt8)) (sep : List UInt8) (w : World) (hr : Rd w 1 (some ⟨bk, o, none⟩) l.length (l.flatMap encS)) (hne : l ≠ []) (hcap : l.length ≤ c) (hN : l.length ≤ 140737488355328) (hlen : (Go.Lib.join l sep).length ≤ 140737488355328) :
    FnV Tryd.prog 33 #[.slice (some ⟨bk, o, none⟩) l.length c, .string (S sep)] w (.string (S (Go.Lib.join l sep))) := by
  have e1 : (l.map S).map (·.data.toList) = l := by rw [List.map_map]; conv => rhs; rw [← List.map_id l]
                                                    exact List.map_congr_left fun x _ => S_list x
  have hc : ∀ (j : Nat) x, (l.map S)[j]? = some x → w.cell? ⟨bk, o + j, none⟩ = some (.string x) := by
    intro j x hx
    rw [List.getElem?_map] at hx
    obtain ⟨y, hy, rfl⟩ := Option.map_eq_some_iff.1 hx
    refine hr.cell j _ ?_
    rw [encS_flat, List.getElem?_map, hy]; rfl
  have hlt : bk < w.heap.size := by
    have h0 : 0 < l.length := List.length_pos_iff.2 hne
    have := hc 0 (S l[0]) (by simp [h0])
    exact blk_lt this
  have h := Any.strings_Join lays156 extra156 bk o c (l.map S) (S sep) w hc hlt (by rw [List.length_map]; exact hN) (by rw [List.length_map]; exact hcap) (by rw [e1, S_list]; exact hlen)
  rw [e1, S_list, List.length_map] at h
  exact Calls.mono h fun e w' ⟨h1, h2⟩ => ⟨_, h1, rfl, h2⟩
theorem sum_ok (c : Wn 64) (bk o cc : Nat) (l : List (List UInt8)) (w : World) (hr : Rd w 1 (some ⟨bk, o, none⟩) l.length (l.flatMap encS)) (hne : l ≠ []) (hcap : l.length ≤ cc) (hN : l.length ≤ 100000) (hlen : l.flatten.length ≤ 1000000000) {T0 : Nat} {f0 : Nat × Nat} (hB_0 : w.heap[0]? = some (.cells ⟨wc c⟩ T0 f0)) :
    Fn Tryd.prog 49 #[.slice (some ⟨bk, o, none⟩) l.length cc] w (fun x w' => x = .agg ⟨idc (shaSumC c l.flatten)⟩ ∧ Ext w w') := by
  have hG_0 := hB_0
  have hx : Ext w w := Ext.rfl' w
  refine enter (N := 65) (args := [.slice (some ⟨bk, o, none⟩) l.length cc]) Tryd.func49 rfl rfl rfl ?_
  intro a ha
  simp only [argEnv, Nat.zero_add, Nat.reduceAdd] at ha
  refine wseq ?_
  refine reg_list ?_
  refine lnew ha rfl (by kernel_rfl) ⟨idc idZ⟩ 48 (by kernel_rfl) ?_
  clear ha a; intro bo w1 he hb_bo hB_bo a ha
  have hne_0_bo : 0 ≠ bo := ne_new hB_0 hb_bo
  replace hB_0 := keepB he hB_0
  replace hb_bo := Nat.le_trans hx.size hb_bo
  replace hx := hx.tr he
  clear he
  refine lnil ?_
  replace ha := ha.sub (ρ' := [(0, .slice (some ⟨bk, o, none⟩) l.length cc), (2, .pointer (some ⟨bo, 0, none⟩))]) (by kernel_rfl)
  refine tn ?_
  refine wseq ?_
  refine reg hmix (ρ' := [(2, .pointer (some ⟨bo, 0, none⟩)), (3, .string (S l.flatten))]) (C := [CallOk Tryd.prog w1 33 #[.slice (some ⟨bk, o, none⟩) l.length cc, .string (S [])] (.string (S l.flatten))]) ha [(1, .val (.string (S l.flatten)))] (by kernel_rfl) (.cons (fun w2 h2 => by have := join_ok bk o cc l [] w2 (rdE (hx.tr h2) hr) hne hcap (by omega) (by rw [join_flat]; omega); rwa [join_flat] at this) .nil) ?_
  clear ha a; intro a w2 ha he
  replace hx := hx.tr he
  replace hB_0 := keepB he hB_0
  replace hB_bo := keepB he hB_bo
  clear he
  refine tn ?_
  refine wseq ?_
  refine regp (ρ' := [(2, .pointer (some ⟨bo, 0, none⟩)), (3, .string (S l.flatten)), (4, .int .u64 (((l.flatten.length * 8) % 18446744073709551616 : Nat) : Int))]) (C := [InR .u64 ((l.flatten.length : Nat) : Int), BinOk Tryd.prog .mul 72 (.int .u64 ((l.flatten.length : Nat) : Int)) (.int .u64 8) (.int .u64 (((l.flatten.length * 8) % 18446744073709551616 : Nat) : Int))]) ha [(3, .val (.int .u64 (((l.flatten.length * 8) % 18446744073709551616 : Nat) : Int)))] (by kernel_rfl) (.cons (by unfold InR; omega) (.cons (mulW_u64 (a := l.flatten.length) (n := 8)) .nil)) ?_
  clear ha a; intro a ha
  rw [show ((((l.flatten.length * 8) % 18446744073709551616 : Nat) : Int) : Int) = ((8 * l.flatten.length : Nat) : Int) from by omega] at ha
  refine tn ?_
  refine wseq ?_
  refine regp (ρ' := [(2, .pointer (some ⟨bo, 0, none⟩)), (3, .string (S (l.flatten ++ [128]))), (4, .int .u64 ((8 * l.flatten.length : Nat) : Int))]) (C := [(l.flatten : List UInt8).length + ([128] : List UInt8).length ≤ 9223372036854775807]) ha [] (by kernel_rfl) (.cons (by first | omega | (simp only [List.length_cons, List.length_nil, List.length_append, List.length_take, List.length_drop]; omega)) .nil) ?_
  clear ha a; intro a ha
  obtain ⟨t1, ht1⟩ : ∃ t, t = l.flatten ++ [128] := ⟨_, rfl⟩
  rw [← ht1] at ha
  have e1 : t1.length = l.flatten.length + 1 := by rw [ht1]; simp
  have hP := shaP0_len l.flatten
  refine tn ?_
  refine wseq ?_
  refine reg hmix (ρ' := [(2, .pointer (some ⟨bo, 0, none⟩)), (3, .string (S (t1 ++ (List.replicate ((120 - (t1.length % 64)) % 64) 0)))), (4, .int .u64 ((8 * l.flatten.length : Nat) : Int))]) (C := [0 ≤ ((t1.length : Nat) : Int), 0 < (64 : Int), BinOk Tryd.prog .sub 3 (.int .i64 120) (.int .i64 ((t1.length % 64 : Nat) : Int)) (.int .i64 ((120 - (t1.length % 64) : Nat) : Int)), 0 ≤ ((120 - (t1.length % 64) : Nat) : Int), 0 < (64 : Int), CallOk Tryd.prog w2 68 #[.string (S [0]), .int .i64 (((120 - (t1.length % 64)) % 64 : Nat) : Int)] (.string (S (List.replicate ((120 - (t1.length % 64)) % 64) 0))), (t1 : List UInt8).length + ((List.replicate ((120 - (t1.length % 64)) % 64) 0) : List UInt8).length ≤ 9223372036854775807]) ha [(4, .val (.int .i64 ((120 - (t1.length % 64) : Nat) : Int))), (6, .val (.string (S (List.replicate ((120 - (t1.length % 64)) % 64) 0))))] (by kernel_rfl) (.cons (by omega) (.cons (by omega) (.cons (subC (m := 120) (n := (t1.length % 64)) (by rfl) (by omega) (by unfold InR; omega)) (.cons (by omega) (.cons (by omega) (.cons (fun w _ => rep0_ok ((120 - (t1.length % 64)) % 64) w (by omega)) (.cons (by rw [List.length_replicate, e1]; omega) .nil))))))) ?_
  clear ha a; intro a w3 ha he
  replace hx := hx.tr he
  replace hB_0 := keepB he hB_0
  replace hB_bo := keepB he hB_bo
  clear he
  rw [show ((t1 ++ (List.replicate ((120 - (t1.length % 64)) % 64) 0)) : List UInt8) = (shaP0 l.flatten ++ be8 (8 * l.flatten.length) 0) from by rw [e1, ht1]; simp [shaP0, be8]] at ha
  refine tn ?_
  refine wseq ?_
  refine wseq ?_
  refine regp (ρ' := [(2, .pointer (some ⟨bo, 0, none⟩)), (3, .string (S (shaP0 l.flatten ++ be8 (8 * l.flatten.length) 0))), (4, .int .u64 ((8 * l.flatten.length : Nat) : Int)), (25, .int .i64 0)]) (C := []) ha [] (by kernel_rfl) .nil ?_
  clear ha a; intro a ha
  refine tn ?_
  refine wblk ?_
  refine wloop (fun zz a w4 => ∃ (i : Nat), zz = 8 - i ∧ On 65 [(2, .pointer (some ⟨bo, 0, none⟩)), (3, .string (S (shaP0 l.flatten ++ be8 (8 * l.flatten.length) i))), (4, .int .u64 ((8 * l.flatten.length : Nat) : Int)), (25, .int .i64 ((i : Nat) : Int))] a ∧ Ext w w4 ∧ w4.heap[0]? = some (.cells ⟨wc c⟩ T0 f0) ∧ w4.heap[bo]? = some (.cells ⟨idc idZ⟩ 48 (0, 0)) ∧ (i ≤ 8)) _ ⟨0, rfl, ha.sub (ρ' := [(2, .pointer (some ⟨bo, 0, none⟩)), (3, .string (S (shaP0 l.flatten ++ be8 (8 * l.flatten.length) 0))), (4, .int .u64 ((8 * l.flatten.length : Nat) : Int)), (25, .int .i64 ((0 : Nat) : Int))]) (by kernel_rfl), hx, hB_0, hB_bo, by omega⟩ ?_
  clear ha hx hB_0 hB_bo
  rintro zz a w5 ⟨i, hzz, ha, hx, hB_0, hB_bo, hi⟩
  refine wseq ?_
  refine regp (ρ' := [(2, .pointer (some ⟨bo, 0, none⟩)), (3, .string (S (shaP0 l.flatten ++ be8 (8 * l.flatten.length) i))), (4, .int .u64 ((8 * l.flatten.length : Nat) : Int)), (25, .int .i64 ((i : Nat) : Int)), (26, .bool (decide (((i : Nat) : Int) < 8)))]) (C := []) ha [] (by kernel_rfl) .nil ?_
  clear ha a; intro a ha
  refine tn ?_
  refine wseq ?_
  refine wif ha rfl (fun h26 => ?_) (fun h26 => ?_)
  · replace h26 := of_decide_eq_true h26
    have hbl := be8_len (8 * l.flatten.length) i
    refine wskip ?_
    refine tn ?_
    refine wseq ?_
    refine wblk ?_
    refine wseq ?_
    refine regp (ρ' := [(2, .pointer (some ⟨bo, 0, none⟩)), (3, .string (S (shaP0 l.flatten ++ be8 (8 * l.flatten.length) i))), (4, .int .u64 ((8 * l.flatten.length : Nat) : Int)), (5, .int .i64 ((i : Nat) : Int)), (25, .int .i64 ((i : Nat) : Int))]) (C := []) ha [] (by kernel_rfl) .nil ?_
    clear ha a; intro a ha
    refine tn ?_
    refine reg_list ?_
    refine segp (ρ' := [(2, .pointer (some ⟨bo, 0, none⟩)), (4, .int .u64 ((8 * l.flatten.length : Nat) : Int)), (25, .int .i64 ((i : Nat) : Int)), (28, .string (S (shaP0 l.flatten ++ be8 (8 * l.flatten.length) i))), (34, .int .u8 ((((8 * l.flatten.length) / 2 ^ (56 - (8 * i))) % 256 : Nat) : Int))]) (C := [InR .i64 ((8 * i : Nat) : Int), BinOk Tryd.prog .sub 3 (.int .i64 56) (.int .i64 ((8 * i : Nat) : Int)) (.int .i64 ((56 - (8 * i) : Nat) : Int)), BinOk Tryd.prog .shr 72 (.int .u64 ((8 * l.flatten.length : Nat) : Int)) (.int .i64 ((56 - (8 * i) : Nat) : Int)) (.int .u64 (((8 * l.flatten.length) / 2 ^ (56 - (8 * i)) : Nat) : Int))]) ha 7 [(4, .val (.int .i64 ((56 - (8 * i) : Nat) : Int))), (5, .val (.int .u64 (((8 * l.flatten.length) / 2 ^ (56 - (8 * i)) : Nat) : Int))), (6, .mod)] rfl (by kernel_rfl) (.cons (by unfold InR; omega) (.cons (subC (m := 56) (n := (8 * i)) (by rfl) (by omega) (by unfold InR; omega)) (.cons (shrN (a := (8 * l.flatten.length)) (n := (56 - (8 * i))) (by show _ ≤ 64; omega)) .nil))) ?_
    clear ha a; intro a ha
    refine lnewS ha rfl (by kernel_rfl) #[.int .u8 ((((8 * l.flatten.length) / 2 ^ (56 - (8 * i))) % 256 : Nat) : Int)] 5 1 (by kernel_rfl) ?_
    clear ha a; intro b6 w7 he hb_b6 hB_b6 a ha
    have hne_0_b6 : 0 ≠ b6 := ne_new hB_0 hb_b6
    have hne_bo_b6 : bo ≠ b6 := ne_new hB_bo hb_b6
    replace hB_0 := keepB he hB_0
    replace hB_bo := keepB he hB_bo
    replace hb_b6 := Nat.le_trans hx.size hb_b6
    replace hx := hx.tr he
    clear he
    refine segp (ρ' := [(2, .pointer (some ⟨bo, 0, none⟩)), (3, .string (S ((shaP0 l.flatten ++ be8 (8 * l.flatten.length) i) ++ [UInt8.ofNat (((8 * l.flatten.length) / 2 ^ (56 - (8 * i))) % 256)]))), (4, .int .u64 ((8 * l.flatten.length : Nat) : Int)), (25, .int .i64 ((i : Nat) : Int))]) (C := [RunOk Tryd.prog w7 (convert 50 9 (.slice (some ⟨b6, 0, none⟩) 1 1)) (.string (S [UInt8.ofNat (((8 * l.flatten.length) / 2 ^ (56 - (8 * i))) % 256)])), ((shaP0 l.flatten ++ be8 (8 * l.flatten.length) i) : List UInt8).length + ([UInt8.ofNat (((8 * l.flatten.length) / 2 ^ (56 - (8 * i))) % 256)] : List UInt8).length ≤ 9223372036854775807]) ha 3 [(0, .val (.string (S [UInt8.ofNat (((8 * l.flatten.length) / 2 ^ (56 - (8 * i))) % 256)])))] rfl (by kernel_rfl) (.cons (cvBlk (e := 5) (zs := [((((8 * l.flatten.length) / 2 ^ (56 - (8 * i))) % 256 : Nat) : Int)]) (by kernel_rfl) (by kernel_rfl) (by kernel_rfl) hB_b6 rfl rfl) (.cons (by first | omega | (simp only [List.length_cons, List.length_nil, List.length_append, List.length_take, List.length_drop]; omega)) .nil)) ?_
    clear ha a; intro a ha
    refine lnil ?_
    replace ha := ha.sub (ρ' := [(2, .pointer (some ⟨bo, 0, none⟩)), (3, .string (S ((shaP0 l.flatten ++ be8 (8 * l.flatten.length) i) ++ [UInt8.ofNat (((8 * l.flatten.length) / 2 ^ (56 - (8 * i))) % 256)]))), (4, .int .u64 ((8 * l.flatten.length : Nat) : Int)), (25, .int .i64 ((i : Nat) : Int))]) (by kernel_rfl)
    rw [show (((shaP0 l.flatten ++ be8 (8 * l.flatten.length) i) ++ [UInt8.ofNat (((8 * l.flatten.length) / 2 ^ (56 - (8 * i))) % 256)]) : List UInt8) = (shaP0 l.flatten ++ be8 (8 * l.flatten.length) (i + 1)) from by rw [be8_succ, List.append_assoc]] at ha
    refine bn ?_
    refine tn ?_
    refine regp (ρ' := [(2, .pointer (some ⟨bo, 0, none⟩)), (3, .string (S (shaP0 l.flatten ++ be8 (8 * l.flatten.length) (i + 1)))), (4, .int .u64 ((8 * l.flatten.length : Nat) : Int)), (25, .int .i64 ((i + 1 : Nat) : Int))]) (C := [InR .i64 ((i + 1 : Nat) : Int)]) ha [] (by kernel_rfl) (.cons (by unfold InR; omega) .nil) ?_
    clear ha a; intro a ha
    exact tn ⟨8 - ((i + 1)), by omega, (i + 1), rfl, ha.sub (ρ' := [(2, .pointer (some ⟨bo, 0, none⟩)), (3, .string (S (shaP0 l.flatten ++ be8 (8 * l.flatten.length) (i + 1)))), (4, .int .u64 ((8 * l.flatten.length : Nat) : Int)), (25, .int .i64 (((i + 1) : Nat) : Int))]) (by kernel_rfl), hx, hB_0, hB_bo, by omega⟩
  · replace h26 := of_decide_eq_false h26
    obtain rfl : i = 8 := by omega
    rw [← shaPad_eq] at ha
    have hPl := shaPad_le l.flatten
    have hPm := shaPad_len l.flatten
    refine wexit ?_
    refine (te (te (be ?_)))
    refine tn ?_
    refine wseq ?_
    refine reg_list ?_
    refine segp (ρ' := [(2, .pointer (some ⟨bo, 0, none⟩)), (3, .string (S (shaPad l.flatten))), (39, .agg #[.int .u32 1779033703, .int .u32 3144134277, .int .u32 1013904242, .int .u32 2773480762, .int .u32 1359893119, .int .u32 2600822924, .int .u32 528734635, .int .u32 1541459225])]) (C := []) ha 1 [] rfl (by kernel_rfl) .nil ?_
    clear ha a; intro a ha
    refine lnew ha rfl (by kernel_rfl) ⟨wc (wz 8)⟩ 81 (by kernel_rfl) ?_
    clear ha a; intro bs w8 he hb_bs hB_bs a ha
    have hne_0_bs : 0 ≠ bs := ne_new hB_0 hb_bs
    have hne_bo_bs : bo ≠ bs := ne_new hB_bo hb_bs
    replace hB_0 := keepB he hB_0
    replace hB_bo := keepB he hB_bo
    replace hb_bs := Nat.le_trans hx.size hb_bs
    replace hx := hx.tr he
    clear he
    refine lstoreL (off := 0) (vs := [.int .u32 1779033703, .int .u32 3144134277, .int .u32 1013904242, .int .u32 2773480762, .int .u32 1359893119, .int .u32 2600822924, .int .u32 528734635, .int .u32 1541459225]) (cs' := [.int .u32 1779033703, .int .u32 3144134277, .int .u32 1013904242, .int .u32 2773480762, .int .u32 1359893119, .int .u32 2600822924, .int .u32 528734635, .int .u32 1541459225]) ha rfl rfl (by kernel_rfl) rfl rfl hB_bs (by kernel_rfl) (by kernel_rfl) (by kernel_rfl) (by rw [wc_len _]; simp) (put_all (by rw [wc_len _]; rfl)) ?_
    clear ha a; intro w9 hc a ha
    replace hB_0 := hc.keep hB_0 (by first | assumption | exact Ne.symm (by assumption))
    replace hB_bo := hc.keep hB_bo (by first | assumption | exact Ne.symm (by assumption))
    replace hx := hc.ext hx hb_bs
    replace hB_bs := hc.at_; clear hc
    refine lnil ?_
    replace ha := ha.sub (ρ' := [(2, .pointer (some ⟨bo, 0, none⟩)), (3, .string (S (shaPad l.flatten))), (6, .pointer (some ⟨bs, 0, none⟩))]) (by kernel_rfl)
    rw [iv_cells] at hB_bs
    refine tn ?_
    refine wseq ?_
    refine wblk ?_
    refine wloop (fun zz a w10 => ∃ (s : Wn 8) (t : List UInt8) (f : Nat), zz = t.length ∧ On 65 [(2, .pointer (some ⟨bo, 0, none⟩)), (3, .string (S t)), (6, .pointer (some ⟨bs, 0, none⟩))] a ∧ Ext w w10 ∧ w10.heap[0]? = some (.cells ⟨wc c⟩ T0 f0) ∧ w10.heap[bo]? = some (.cells ⟨idc idZ⟩ 48 (0, 0)) ∧ w10.heap[bs]? = some (.cells ⟨wc s⟩ 81 (0, 0)) ∧ (shaGo c (shaPad l.flatten).length shaIv (shaPad l.flatten) = shaGo c f s t) ∧ (t.length % 64 = 0) ∧ (t.length ≤ f) ∧ (t.length ≤ 10000000000)) _ ⟨shaIv, (shaPad l.flatten), (shaPad l.flatten).length, rfl, ha.sub (ρ' := [(2, .pointer (some ⟨bo, 0, none⟩)), (3, .string (S (shaPad l.flatten))), (6, .pointer (some ⟨bs, 0, none⟩))]) (by kernel_rfl), hx, hB_0, hB_bo, hB_bs, rfl, by omega, Nat.le_refl _, by omega⟩ ?_
    clear ha hx hB_0 hB_bo hB_bs
    rintro zz a w11 ⟨s, t, f, hzz, ha, hx, hB_0, hB_bo, hB_bs, hinv, hm, hf, htl⟩
    refine wseq ?_
    refine wseq ?_
    refine regp (ρ' := [(2, .pointer (some ⟨bo, 0, none⟩)), (3, .string (S t)), (6, .pointer (some ⟨bs, 0, none⟩)), (41, .bool (!decide ((t : List UInt8) = ([] : List UInt8))))]) (C := []) ha [] (by kernel_rfl) .nil ?_
    clear ha a; intro a ha
    refine tn ?_
    refine wif ha rfl (fun h41 => ?_) (fun h41 => ?_)
    · simp only [Bool.not_eq_true', Bool.not_eq_false', Bool.and_eq_true, Bool.or_eq_true, Bool.and_eq_false_iff, Bool.or_eq_false_iff, decide_eq_true_eq, decide_eq_false_iff_not, Bool.not_eq_true, Decidable.not_not] at h41
      have h0 : 0 < t.length := List.length_pos_iff.2 h41
      have h64 : 64 ≤ t.length := by omega
      refine wskip ?_
      refine tn ?_
      refine wseq ?_
      refine wblk ?_
      refine regM hmix ha [(0, .val (.agg ⟨wc s⟩)), (3, .val (.agg ⟨wc (shaBlk c s (t.take 64))⟩))] [] [⟨4, .des, [], []⟩] [] (ρ' := [(2, .pointer (some ⟨bo, 0, none⟩)), (3, .string (S t)), (6, .pointer (some ⟨bs, 0, none⟩))]) [] [fun w' => Ext w11 w', fun w' => w11.heap.size ≤ w'.heap.size ∧ Ext w w' ∧ w'.heap[0]? = some (.cells ⟨wc c⟩ T0 f0) ∧ w'.heap[bo]? = some (.cells ⟨idc idZ⟩ 48 (0, 0)) ∧ w'.heap[bs]? = some (.cells ⟨wc (shaBlk c s (t.take 64))⟩ 81 (0, 0))] [(0, [0], fun w' => [RunOk Tryd.prog w' (Instr.loadAt 81 (.pointer (some ⟨bs, 0, none⟩))) (.agg ⟨wc s⟩)]), (2, [0], fun w' => [0 ≤ (64 : Int) ∧ 64 ≤ (t.length : Int)]), (3, [0], fun w' => [CallOk Tryd.prog w' 69 #[.agg ⟨wc s⟩, .string (S (t.take 64))] (.agg ⟨wc (shaBlk c s (t.take 64))⟩)])] (by kernel_rfl) (fun w' => by kernel_rfl) (fun w' => by kernel_rfl) (by kernel_rfl) (fun w' h => h) ?_ ?_ ?_ ?_ ?_ ?_
      · refine ⟨fun w1 w2 h e => Ext.tr h e, ?_, trivial⟩
        · rintro w1 w2 ⟨hsz, hx, hB_0, hB_bo, hB_bs⟩ he
          exact ⟨Nat.le_trans hsz he.size, hx.tr he, keepB he hB_0, keepB he hB_bo, keepB he hB_bs⟩
      · trivial
      · refine ⟨⟨?_, trivial⟩, ⟨?_, trivial⟩, ⟨?_, trivial⟩, trivial⟩
        · intro w' hJ
          have he : Ext w11 w' := hJ
          have hsz := he.size
          replace hx := hx.tr he
          replace hB_0 := keepB he hB_0
          replace hB_bo := keepB he hB_bo
          replace hB_bs := keepB he hB_bs
          clear he
          exact (.cons (ldAll (n := 8) hB_bs (by kernel_rfl) (by kernel_rfl) (wc_len _)) .nil)
        · intro w' hJ
          have he : Ext w11 w' := hJ
          have hsz := he.size
          replace hx := hx.tr he
          replace hB_0 := keepB he hB_0
          replace hB_bo := keepB he hB_bo
          replace hB_bs := keepB he hB_bs
          clear he
          exact (.cons ⟨by omega, by omega⟩ .nil)
        · intro w' hJ
          have he : Ext w11 w' := hJ
          have hsz := he.size
          replace hx := hx.tr he
          replace hB_0 := keepB he hB_0
          replace hB_bo := keepB he hB_bo
          replace hB_bs := keepB he hB_bs
          clear he
          exact (.cons (fun w2 h2 => sblock_ok c _ _ w2 (by first | omega | (simp only [List.length_take, List.length_drop]; omega)) (keepB h2 hB_0)) .nil)
      · trivial
      · refine ⟨?_, trivial⟩
        · intro w' hJ
          have hB_0S := hB_0
          have hB_boS := hB_bo
          have hB_bsS := hB_bs
          have he : Ext w11 w' := hJ
          have hsz := he.size
          replace hx := hx.tr he
          replace hB_0 := keepB he hB_0
          replace hB_bo := keepB he hB_bo
          replace hB_bs := keepB he hB_bs
          clear he
          refine ostoreL (off := 0) (vs := wc (shaBlk c s (t.take 64))) (cs' := wc (shaBlk c s (t.take 64))) (t := 81) (x := .tmp 6) (y := .tmp 47) (by kernel_rfl) (by kernel_rfl) hB_bs (by rw [wc_len _]; kernel_rfl) (by kernel_rfl) (wc_one _) (by first | (rw [wc_len _, wc_len _]; omega; done) | simp [wc_len]) (put_all (by first | (rw [wc_len _, wc_len _]; done) | simp [wc_len])) ?_
          intro w'' hc
          exact ⟨trivial, ⟨Nat.le_trans hsz hc.size, hc.ext hx hb_bs, hc.keep hB_0 (by first | assumption | exact Ne.symm (by assumption)), hc.keep hB_bo (by first | assumption | exact Ne.symm (by assumption)), hc.at_⟩, trivial⟩
      · clear ha a; intro a w12 hJ ha
        clear hx hB_0 hB_bo hB_bs
        obtain ⟨hsz, hx, hB_0, hB_bo, hB_bs⟩ := hJ
        clear hsz
        refine bn ?_
        refine tn ?_
        refine regp (ρ' := [(2, .pointer (some ⟨bo, 0, none⟩)), (3, .string (S (t.drop 64))), (6, .pointer (some ⟨bs, 0, none⟩))]) (C := [0 ≤ (64 : Int) ∧ 64 ≤ (t.length : Int)]) ha [] (by kernel_rfl) (.cons ⟨by omega, by omega⟩ .nil) ?_
        clear ha a; intro a ha
        exact tn ⟨((t.drop 64)).length, by rw [List.length_drop]; omega, (shaBlk c s (t.take 64)), (t.drop 64), (f - 1), rfl, ha.sub (ρ' := [(2, .pointer (some ⟨bo, 0, none⟩)), (3, .string (S (t.drop 64))), (6, .pointer (some ⟨bs, 0, none⟩))]) (by kernel_rfl), hx, hB_0, hB_bo, hB_bs, by rw [hinv]; exact shaGo_step h64 hf, by rw [List.length_drop]; omega, by rw [List.length_drop]; omega, by rw [List.length_drop]; omega⟩
    · simp only [Bool.not_eq_true', Bool.not_eq_false', Bool.and_eq_true, Bool.or_eq_true, Bool.and_eq_false_iff, Bool.or_eq_false_iff, decide_eq_true_eq, decide_eq_false_iff_not, Bool.not_eq_true, Decidable.not_not] at h41
      have hres : shaGo c (shaPad l.flatten).length shaIv (shaPad l.flatten) = s := by rw [hinv, h41]; exact shaGo_stop _ _ _ _ (by simp)
      refine wexit ?_
      refine (te (te (be ?_)))
      refine tn ?_
      refine wseq ?_
      refine reg_list ?_
      refine lnew ha rfl (by kernel_rfl) ⟨idc idZ⟩ 48 (by kernel_rfl) ?_
      clear ha a; intro bi w13 he hb_bi hB_bi a ha
      have hne_0_bi : 0 ≠ bi := ne_new hB_0 hb_bi
      have hne_bo_bi : bo ≠ bi := ne_new hB_bo hb_bi
      have hne_bs_bi : bs ≠ bi := ne_new hB_bs hb_bi
      replace hB_0 := keepB he hB_0
      replace hB_bo := keepB he hB_bo
      replace hB_bs := keepB he hB_bs
      replace hb_bi := Nat.le_trans hx.size hb_bi
      replace hx := hx.tr he
      clear he
      refine lnil ?_
      replace ha := ha.sub (ρ' := [(2, .pointer (some ⟨bo, 0, none⟩)), (6, .pointer (some ⟨bs, 0, none⟩)), (7, .pointer (some ⟨bi, 0, none⟩))]) (by kernel_rfl)
      refine tn ?_
      refine wseq ?_
      refine wseq ?_
      refine regp (ρ' := [(2, .pointer (some ⟨bo, 0, none⟩)), (6, .pointer (some ⟨bs, 0, none⟩)), (7, .pointer (some ⟨bi, 0, none⟩)), (48, .int .i64 0)]) (C := []) ha [] (by kernel_rfl) .nil ?_
      clear ha a; intro a ha
      refine tn ?_
      refine wblk ?_
      refine wloop (fun zz a w14 => ∃ (i : Nat), zz = 32 - i ∧ On 65 [(2, .pointer (some ⟨bo, 0, none⟩)), (6, .pointer (some ⟨bs, 0, none⟩)), (7, .pointer (some ⟨bi, 0, none⟩)), (48, .int .i64 ((i : Nat) : Int))] a ∧ Ext w w14 ∧ w14.heap[0]? = some (.cells ⟨wc c⟩ T0 f0) ∧ w14.heap[bo]? = some (.cells ⟨idc idZ⟩ 48 (0, 0)) ∧ w14.heap[bs]? = some (.cells ⟨wc s⟩ 81 (0, 0)) ∧ w14.heap[bi]? = some (.cells ⟨idc (sumTo s i)⟩ 48 (0, 0)) ∧ (i ≤ 32)) _ ⟨0, rfl, ha.sub (ρ' := [(2, .pointer (some ⟨bo, 0, none⟩)), (6, .pointer (some ⟨bs, 0, none⟩)), (7, .pointer (some ⟨bi, 0, none⟩)), (48, .int .i64 ((0 : Nat) : Int))]) (by kernel_rfl), hx, hB_0, hB_bo, hB_bs, hB_bi, by omega⟩ ?_
      clear ha hx hB_0 hB_bo hB_bs hB_bi
      rintro zz a w15 ⟨i, hzz, ha, hx, hB_0, hB_bo, hB_bs, hB_bi, hi32⟩
      refine wseq ?_
      refine regp (ρ' := [(2, .pointer (some ⟨bo, 0, none⟩)), (6, .pointer (some ⟨bs, 0, none⟩)), (7, .pointer (some ⟨bi, 0, none⟩)), (48, .int .i64 ((i : Nat) : Int)), (49, .bool (decide (((i : Nat) : Int) < 32)))]) (C := []) ha [] (by kernel_rfl) .nil ?_
      clear ha a; intro a ha
      refine tn ?_
      refine wseq ?_
      refine wif ha rfl (fun h49 => ?_) (fun h49 => ?_)
      · replace h49 := of_decide_eq_true h49
        refine wskip ?_
        refine tn ?_
        refine wseq ?_
        refine wblk ?_
        refine wseq ?_
        refine regp (ρ' := [(2, .pointer (some ⟨bo, 0, none⟩)), (6, .pointer (some ⟨bs, 0, none⟩)), (7, .pointer (some ⟨bi, 0, none⟩)), (8, .int .i64 ((i : Nat) : Int)), (48, .int .i64 ((i : Nat) : Int))]) (C := []) ha [] (by kernel_rfl) .nil ?_
        clear ha a; intro a ha
        refine tn ?_
        refine reg_list ?_
        refine segp (ρ' := [(2, .pointer (some ⟨bo, 0, none⟩)), (6, .pointer (some ⟨bs, 0, none⟩)), (7, .pointer (some ⟨bi, 0, none⟩)), (48, .int .i64 ((i : Nat) : Int)), (61, .int .u8 ((((s.at_ (i / 4)) / 2 ^ (24 - (8 * (i % 4)))) % 256 : Nat) : Int)), (62, .pointer (some ⟨bi, i, none⟩))]) (C := [0 ≤ ((i : Nat) : Int), 0 < (4 : Int), InR .i64 ((i / 4 : Nat) : Int), RunOk Tryd.prog w15 (Instr.indexAt 81 (.pointer (some ⟨bs, 0, none⟩)) (.int .i64 ((i / 4 : Nat) : Int))) (.pointer (some ⟨bs, (i / 4), none⟩)), RunOk Tryd.prog w15 (Instr.loadAt 59 (.pointer (some ⟨bs, (i / 4), none⟩))) (.int .u32 ((s.at_ (i / 4) : Nat) : Int)), 0 ≤ ((i : Nat) : Int), 0 < (4 : Int), InR .i64 ((8 * (i % 4) : Nat) : Int), BinOk Tryd.prog .sub 3 (.int .i64 24) (.int .i64 ((8 * (i % 4) : Nat) : Int)) (.int .i64 ((24 - (8 * (i % 4)) : Nat) : Int)), BinOk Tryd.prog .shr 59 (.int .u32 ((s.at_ (i / 4) : Nat) : Int)) (.int .i64 ((24 - (8 * (i % 4)) : Nat) : Int)) (.int .u32 (((s.at_ (i / 4)) / 2 ^ (24 - (8 * (i % 4))) : Nat) : Int)), RunOk Tryd.prog w15 (Instr.indexAt 48 (.pointer (some ⟨bi, 0, none⟩)) (.int .i64 ((i : Nat) : Int))) (.pointer (some ⟨bi, i, none⟩))]) ha 12 [(3, .val (.pointer (some ⟨bs, (i / 4), none⟩))), (4, .val (.int .u32 ((s.at_ (i / 4) : Nat) : Int))), (8, .val (.int .i64 ((24 - (8 * (i % 4)) : Nat) : Int))), (9, .val (.int .u32 (((s.at_ (i / 4)) / 2 ^ (24 - (8 * (i % 4))) : Nat) : Int))), (10, .mod), (11, .val (.pointer (some ⟨bi, i, none⟩)))] rfl (by kernel_rfl) (.cons (by omega) (.cons (by omega) (.cons (by unfold InR; omega) (.cons (ixA (n := 8) (i := (i / 4)) (by kernel_rfl) (by omega)) (.cons (ld1 hB_bs (by kernel_rfl) (wc_at (i := (i / 4)) (by omega))) (.cons (by omega) (.cons (by omega) (.cons (by unfold InR; omega) (.cons (subC (m := 24) (n := (8 * (i % 4))) (by rfl) (by omega) (by unfold InR; omega)) (.cons (shrN (a := (s.at_ (i / 4))) (n := (24 - (8 * (i % 4)))) (by show _ ≤ 32; omega)) (.cons (ixA (n := 32) (i := i) (by kernel_rfl) (by omega)) .nil))))))))))) ?_
        clear ha a; intro a ha
        refine lstoreL (off := i) (vs := [.int .u8 ((((s.at_ (i / 4)) / 2 ^ (24 - (8 * (i % 4)))) % 256 : Nat) : Int)]) (cs' := idc ((sumTo s i).set i (((s.at_ (i / 4)) / 2 ^ (24 - (8 * (i % 4)))) % 256))) ha rfl rfl (by kernel_rfl) rfl rfl hB_bi (by kernel_rfl) (by kernel_rfl) (by kernel_rfl) (by rw [idc_len _]; show i + 1 ≤ 32; omega) (by rw [put_one (by rw [idc_len _]; omega)]; exact idc_set _ _ _ (by omega)) ?_
        clear ha a; intro w16 hc a ha
        replace hB_0 := hc.keep hB_0 (by first | assumption | exact Ne.symm (by assumption))
        replace hB_bo := hc.keep hB_bo (by first | assumption | exact Ne.symm (by assumption))
        replace hB_bs := hc.keep hB_bs (by first | assumption | exact Ne.symm (by assumption))
        replace hx := hc.ext hx hb_bi
        replace hB_bi := hc.at_; clear hc
        refine lnil ?_
        replace ha := ha.sub (ρ' := [(2, .pointer (some ⟨bo, 0, none⟩)), (6, .pointer (some ⟨bs, 0, none⟩)), (7, .pointer (some ⟨bi, 0, none⟩)), (48, .int .i64 ((i : Nat) : Int))]) (by kernel_rfl)
        refine bn ?_
        refine tn ?_
        refine regp (ρ' := [(2, .pointer (some ⟨bo, 0, none⟩)), (6, .pointer (some ⟨bs, 0, none⟩)), (7, .pointer (some ⟨bi, 0, none⟩)), (48, .int .i64 ((i + 1 : Nat) : Int))]) (C := [InR .i64 ((i + 1 : Nat) : Int)]) ha [] (by kernel_rfl) (.cons (by unfold InR; omega) .nil) ?_
        clear ha a; intro a ha
        exact tn ⟨32 - ((i + 1)), by omega, (i + 1), rfl, ha.sub (ρ' := [(2, .pointer (some ⟨bo, 0, none⟩)), (6, .pointer (some ⟨bs, 0, none⟩)), (7, .pointer (some ⟨bi, 0, none⟩)), (48, .int .i64 (((i + 1) : Nat) : Int))]) (by kernel_rfl), hx, hB_0, hB_bo, hB_bs, hB_bi, by omega⟩
      · replace h49 := of_decide_eq_false h49
        obtain rfl : i = 32 := by omega
        refine wexit ?_
        refine (te (te (be ?_)))
        refine tn ?_
        refine wseq ?_
        refine reg_list ?_
        refine segp (ρ' := [(2, .pointer (some ⟨bo, 0, none⟩)), (64, .agg ⟨idc (sumTo s 32)⟩)]) (C := [RunOk Tryd.prog w15 (Instr.loadAt 48 (.pointer (some ⟨bi, 0, none⟩))) (.agg ⟨idc (sumTo s 32)⟩)]) ha 1 [(0, .val (.agg ⟨idc (sumTo s 32)⟩))] rfl (by kernel_rfl) (.cons (ldN (n := 32) hB_bi (by kernel_rfl) (by kernel_rfl) ⟨Nat.le_of_ble_eq_true (by kernel_rfl), (by kernel_rfl)⟩) .nil) ?_
        clear ha a; intro a ha
        refine lstore (off := 0) ha rfl rfl (by kernel_rfl) hB_bo ⟨idc (sumTo s 32)⟩ rfl (by kernel_rfl) (by kernel_rfl) ?_
        clear ha a; intro w17 hc a ha
        replace hB_0 := hc.keep hB_0 (by first | assumption | exact Ne.symm (by assumption))
        replace hB_bs := hc.keep hB_bs (by first | assumption | exact Ne.symm (by assumption))
        replace hB_bi := hc.keep hB_bi (by first | assumption | exact Ne.symm (by assumption))
        replace hx := hc.ext hx hb_bo
        replace hB_bo := hc.at_; clear hc
        refine lnil ?_
        replace ha := ha.sub (ρ' := [(2, .pointer (some ⟨bo, 0, none⟩))]) (by kernel_rfl)
        refine tn ?_
        refine wret ?_
        refine fin ha (.cell rfl (ldVN (n := 32) (vs := ⟨idc (sumTo s 32)⟩) hB_bo (by kernel_rfl) (by kernel_rfl) ⟨Nat.le_of_ble_eq_true (by kernel_rfl), (by kernel_rfl)⟩) .nil) ?_
        refine ⟨?_, hx⟩
        show Value.agg _ = _
        unfold shaSumC
        rw [hres]
-- UNUSED LABEL wrap
theorem rsum_ok (l : List UInt8) (w : World) (hl : l.length ≤ 1000000000) :
    Fn Tryd.prog 25 #[.string (S l)] w (fun x w' => x = .agg ⟨idc (shaSum l)⟩ ∧ Ext w w') := by
  have hx : Ext w w := Ext.rfl' w
  refine enter (N := 77) (args := [.string (S l)]) Tryd.func25 rfl rfl rfl ?_
  intro a ha
  simp only [argEnv, Nat.zero_add, Nat.reduceAdd] at ha
  refine wseq ?_
  refine reg_list ?_
  refine lnew ha rfl (by kernel_rfl) ⟨idc idZ⟩ 48 (by kernel_rfl) ?_
  clear ha a; intro bo w1 he hb_bo hB_bo a ha
  replace hb_bo := Nat.le_trans hx.size hb_bo
  replace hx := hx.tr he
  clear he
  refine lnil ?_
  replace ha := ha.sub (ρ' := [(0, .string (S l)), (2, .pointer (some ⟨bo, 0, none⟩))]) (by kernel_rfl)
  refine tn ?_
  refine wseq ?_
  refine regp (ρ' := [(0, .string (S l)), (2, .pointer (some ⟨bo, 0, none⟩)), (3, .int .u64 (((l.length * 8) % 18446744073709551616 : Nat) : Int))]) (C := [InR .u64 ((l.length : Nat) : Int), BinOk Tryd.prog .mul 72 (.int .u64 ((l.length : Nat) : Int)) (.int .u64 8) (.int .u64 (((l.length * 8) % 18446744073709551616 : Nat) : Int))]) ha [(3, .val (.int .u64 (((l.length * 8) % 18446744073709551616 : Nat) : Int)))] (by kernel_rfl) (.cons (by unfold InR; omega) (.cons (mulW_u64 (a := l.length) (n := 8)) .nil)) ?_
  clear ha a; intro a ha
  rw [show ((((l.length * 8) % 18446744073709551616 : Nat) : Int) : Int) = ((8 * l.length : Nat) : Int) from by omega] at ha
  refine tn ?_
  refine wseq ?_
  refine reg_list ?_
  refine segp (ρ' := [(2, .pointer (some ⟨bo, 0, none⟩)), (3, .int .u64 ((8 * l.length : Nat) : Int)), (15, .string (S l))]) (C := []) ha 1 [] rfl (by kernel_rfl) .nil ?_
  clear ha a; intro a ha
  refine lnewS ha rfl (by kernel_rfl) #[.int .u8 128] 5 1 (by kernel_rfl) ?_
  clear ha a; intro b2 w3 he hb_b2 hB_b2 a ha
  have hne_bo_b2 : bo ≠ b2 := ne_new hB_bo hb_b2
  replace hB_bo := keepB he hB_bo
  replace hb_b2 := Nat.le_trans hx.size hb_b2
  replace hx := hx.tr he
  clear he
  refine segp (ρ' := [(2, .pointer (some ⟨bo, 0, none⟩)), (3, .int .u64 ((8 * l.length : Nat) : Int)), (4, .string (S (l ++ [UInt8.ofNat 128])))]) (C := [RunOk Tryd.prog w3 (convert 50 9 (.slice (some ⟨b2, 0, none⟩) 1 1)) (.string (S [UInt8.ofNat 128])), (l : List UInt8).length + ([UInt8.ofNat 128] : List UInt8).length ≤ 9223372036854775807]) ha 3 [(0, .val (.string (S [UInt8.ofNat 128])))] rfl (by kernel_rfl) (.cons (cvBlk (e := 5) (zs := [(128 : Int)]) (by kernel_rfl) (by kernel_rfl) (by kernel_rfl) hB_b2 rfl rfl) (.cons (by first | omega | (simp only [List.length_cons, List.length_nil, List.length_append, List.length_take, List.length_drop]; omega)) .nil)) ?_
  clear ha a; intro a ha
  refine lnil ?_
  replace ha := ha.sub (ρ' := [(2, .pointer (some ⟨bo, 0, none⟩)), (3, .int .u64 ((8 * l.length : Nat) : Int)), (4, .string (S (l ++ [UInt8.ofNat 128])))]) (by kernel_rfl)
  rw [show ((l ++ [UInt8.ofNat 128]) : List UInt8) = (shaZ l 0) from by simp [shaZ]] at ha
  refine tn ?_
  refine wseq ?_
  refine wblk ?_
  refine wloop (fun zz a w4 => ∃ (k : Nat), zz = ((120 - (l.length + 1) % 64) % 64) - k ∧ On 77 [(2, .pointer (some ⟨bo, 0, none⟩)), (3, .int .u64 ((8 * l.length : Nat) : Int)), (4, .string (S (shaZ l k)))] a ∧ Ext w w4 ∧ w4.heap[bo]? = some (.cells ⟨idc idZ⟩ 48 (0, 0)) ∧ w4.heap[b2]? = some (.cells #[.int .u8 128] 5 (0, 0)) ∧ (k ≤ ((120 - (l.length + 1) % 64) % 64))) _ ⟨0, rfl, ha.sub (ρ' := [(2, .pointer (some ⟨bo, 0, none⟩)), (3, .int .u64 ((8 * l.length : Nat) : Int)), (4, .string (S (shaZ l 0)))]) (by kernel_rfl), hx, hB_bo, hB_b2, by omega⟩ ?_
  clear ha hx hB_bo hB_b2
  rintro zz a w5 ⟨k, hzz, ha, hx, hB_bo, hB_b2, hk⟩
  have hz := shaZ_len l k
  refine wseq ?_
  refine wseq ?_
  refine regp (ρ' := [(2, .pointer (some ⟨bo, 0, none⟩)), (3, .int .u64 ((8 * l.length : Nat) : Int)), (4, .string (S (shaZ l k))), (22, .bool (!decide (((((shaZ l k).length) % 64 : Nat) : Int) = 56)))]) (C := [0 ≤ (((shaZ l k).length : Nat) : Int), 0 < (64 : Int)]) ha [] (by kernel_rfl) (.cons (by omega) (.cons (by omega) .nil)) ?_
  clear ha a; intro a ha
  refine tn ?_
  refine wif ha rfl (fun h22 => ?_) (fun h22 => ?_)
  · simp only [Bool.not_eq_true', Bool.not_eq_false', Bool.and_eq_true, Bool.or_eq_true, Bool.and_eq_false_iff, Bool.or_eq_false_iff, decide_eq_true_eq, decide_eq_false_iff_not, Bool.not_eq_true, Decidable.not_not] at h22
    refine wskip ?_
    refine tn ?_
    refine wblk ?_
    refine reg_list ?_
    refine segp (ρ' := [(2, .pointer (some ⟨bo, 0, none⟩)), (3, .int .u64 ((8 * l.length : Nat) : Int)), (23, .string (S (shaZ l k)))]) (C := []) ha 1 [] rfl (by kernel_rfl) .nil ?_
    clear ha a; intro a ha
    refine lnewS ha rfl (by kernel_rfl) #[.int .u8 0] 5 1 (by kernel_rfl) ?_
    clear ha a; intro b6 w7 he hb_b6 hB_b6 a ha
    have hne_bo_b6 : bo ≠ b6 := ne_new hB_bo hb_b6
    have hne_b2_b6 : b2 ≠ b6 := ne_new hB_b2 hb_b6
    replace hB_bo := keepB he hB_bo
    replace hB_b2 := keepB he hB_b2
    replace hb_b6 := Nat.le_trans hx.size hb_b6
    replace hx := hx.tr he
    clear he
    refine segp (ρ' := [(2, .pointer (some ⟨bo, 0, none⟩)), (3, .int .u64 ((8 * l.length : Nat) : Int)), (4, .string (S ((shaZ l k) ++ [UInt8.ofNat 0])))]) (C := [RunOk Tryd.prog w7 (convert 50 9 (.slice (some ⟨b6, 0, none⟩) 1 1)) (.string (S [UInt8.ofNat 0])), ((shaZ l k) : List UInt8).length + ([UInt8.ofNat 0] : List UInt8).length ≤ 9223372036854775807]) ha 3 [(0, .val (.string (S [UInt8.ofNat 0])))] rfl (by kernel_rfl) (.cons (cvBlk (e := 5) (zs := [(0 : Int)]) (by kernel_rfl) (by kernel_rfl) (by kernel_rfl) hB_b6 rfl rfl) (.cons (by first | omega | (simp only [List.length_cons, List.length_nil, List.length_append, List.length_take, List.length_drop]; omega)) .nil)) ?_
    clear ha a; intro a ha
    refine lnil ?_
    replace ha := ha.sub (ρ' := [(2, .pointer (some ⟨bo, 0, none⟩)), (3, .int .u64 ((8 * l.length : Nat) : Int)), (4, .string (S ((shaZ l k) ++ [UInt8.ofNat 0])))]) (by kernel_rfl)
    rw [show (((shaZ l k) ++ [UInt8.ofNat 0]) : List UInt8) = (shaZ l (k + 1)) from shaZ_succ l k] at ha
    refine bn ?_
    exact tn ⟨((120 - (l.length + 1) % 64) % 64) - ((k + 1)), by omega, (k + 1), rfl, ha.sub (ρ' := [(2, .pointer (some ⟨bo, 0, none⟩)), (3, .int .u64 ((8 * l.length : Nat) : Int)), (4, .string (S (shaZ l (k + 1))))]) (by kernel_rfl), hx, hB_bo, hB_b2, by omega⟩
  · simp only [Bool.not_eq_true', Bool.not_eq_false', Bool.and_eq_true, Bool.or_eq_true, Bool.and_eq_false_iff, Bool.or_eq_false_iff, decide_eq_true_eq, decide_eq_false_iff_not, Bool.not_eq_true, Decidable.not_not] at h22
    obtain rfl : k = ((120 - (l.length + 1) % 64) % 64) := by omega
    have hP := shaP0_len l
    have hPad := shaPad_le l
    have hPm := shaPad_len l
    rw [show shaZ l ((120 - (l.length + 1) % 64) % 64) = shaP0 l ++ be8 (8 * l.length) 0 by simp [shaZ, shaP0, be8]] at ha
    refine wexit ?_
    refine (te (te (be ?_)))
    refine tn ?_
    refine wseq ?_
    refine wseq ?_
    refine regp (ρ' := [(2, .pointer (some ⟨bo, 0, none⟩)), (3, .int .u64 ((8 * l.length : Nat) : Int)), (4, .string (S (shaP0 l ++ be8 (8 * l.length) 0))), (5, .int .i64 7)]) (C := []) ha [] (by kernel_rfl) .nil ?_
    clear ha a; intro a ha
    rw [show (7 : Int) = (7 - ((0 : Nat) : Int)) from by omega] at ha
    refine tn ?_
    refine wblk ?_
    refine wloop (fun zz a w8 => ∃ (k : Nat), zz = 8 - k ∧ On 77 [(2, .pointer (some ⟨bo, 0, none⟩)), (3, .int .u64 ((8 * l.length : Nat) : Int)), (4, .string (S (shaP0 l ++ be8 (8 * l.length) k))), (5, .int .i64 (7 - ((k : Nat) : Int)))] a ∧ Ext w w8 ∧ w8.heap[bo]? = some (.cells ⟨idc idZ⟩ 48 (0, 0)) ∧ w8.heap[b2]? = some (.cells #[.int .u8 128] 5 (0, 0)) ∧ (k ≤ 8)) _ ⟨0, rfl, ha.sub (ρ' := [(2, .pointer (some ⟨bo, 0, none⟩)), (3, .int .u64 ((8 * l.length : Nat) : Int)), (4, .string (S (shaP0 l ++ be8 (8 * l.length) 0))), (5, .int .i64 (7 - ((0 : Nat) : Int)))]) (by kernel_rfl), hx, hB_bo, hB_b2, by omega⟩ ?_
    clear ha hx hB_bo hB_b2
    rintro zz a w9 ⟨k, hzz, ha, hx, hB_bo, hB_b2, hk8⟩
    refine wseq ?_
    refine wseq ?_
    refine regp (ρ' := [(2, .pointer (some ⟨bo, 0, none⟩)), (3, .int .u64 ((8 * l.length : Nat) : Int)), (4, .string (S (shaP0 l ++ be8 (8 * l.length) k))), (5, .int .i64 (7 - ((k : Nat) : Int))), (28, .bool (decide ((0 : Int) ≤ (7 - ((k : Nat) : Int)))))]) (C := []) ha [] (by kernel_rfl) .nil ?_
    clear ha a; intro a ha
    refine tn ?_
    refine wif ha rfl (fun h28 => ?_) (fun h28 => ?_)
    · replace h28 := of_decide_eq_true h28
      rw [show ((7 - ((k : Nat) : Int)) : Int) = ((7 - k : Nat) : Int) from by omega] at ha
      have hbl := be8_len (8 * l.length) k
      refine wskip ?_
      refine tn ?_
      refine wseq ?_
      refine wblk ?_
      refine reg_list ?_
      refine segp (ρ' := [(2, .pointer (some ⟨bo, 0, none⟩)), (3, .int .u64 ((8 * l.length : Nat) : Int)), (5, .int .i64 ((7 - k : Nat) : Int)), (31, .string (S (shaP0 l ++ be8 (8 * l.length) k))), (37, .int .u8 ((((8 * l.length) / 2 ^ (8 * (7 - k))) % 256 : Nat) : Int))]) (C := [InR .i64 ((8 * (7 - k) : Nat) : Int), InR .u64 ((8 * (7 - k) : Nat) : Int), BinOk Tryd.prog .shr 72 (.int .u64 ((8 * l.length : Nat) : Int)) (.int .u64 ((8 * (7 - k) : Nat) : Int)) (.int .u64 (((8 * l.length) / 2 ^ (8 * (7 - k)) : Nat) : Int))]) ha 7 [(5, .val (.int .u64 (((8 * l.length) / 2 ^ (8 * (7 - k)) : Nat) : Int))), (6, .mod)] rfl (by kernel_rfl) (.cons (by unfold InR; omega) (.cons (by unfold InR; omega) (.cons (shrN (a := (8 * l.length)) (n := (8 * (7 - k))) (by show _ ≤ 64; omega)) .nil))) ?_
      clear ha a; intro a ha
      refine lnewS ha rfl (by kernel_rfl) #[.int .u8 ((((8 * l.length) / 2 ^ (8 * (7 - k))) % 256 : Nat) : Int)] 5 1 (by kernel_rfl) ?_
      clear ha a; intro b10 w11 he hb_b10 hB_b10 a ha
      have hne_bo_b10 : bo ≠ b10 := ne_new hB_bo hb_b10
      have hne_b2_b10 : b2 ≠ b10 := ne_new hB_b2 hb_b10
      replace hB_bo := keepB he hB_bo
      replace hB_b2 := keepB he hB_b2
      replace hb_b10 := Nat.le_trans hx.size hb_b10
      replace hx := hx.tr he
      clear he
      refine segp (ρ' := [(2, .pointer (some ⟨bo, 0, none⟩)), (3, .int .u64 ((8 * l.length : Nat) : Int)), (4, .string (S ((shaP0 l ++ be8 (8 * l.length) k) ++ [UInt8.ofNat (((8 * l.length) / 2 ^ (8 * (7 - k))) % 256)]))), (5, .int .i64 ((7 - k : Nat) : Int))]) (C := [RunOk Tryd.prog w11 (convert 50 9 (.slice (some ⟨b10, 0, none⟩) 1 1)) (.string (S [UInt8.ofNat (((8 * l.length) / 2 ^ (8 * (7 - k))) % 256)])), ((shaP0 l ++ be8 (8 * l.length) k) : List UInt8).length + ([UInt8.ofNat (((8 * l.length) / 2 ^ (8 * (7 - k))) % 256)] : List UInt8).length ≤ 9223372036854775807]) ha 3 [(0, .val (.string (S [UInt8.ofNat (((8 * l.length) / 2 ^ (8 * (7 - k))) % 256)])))] rfl (by kernel_rfl) (.cons (cvBlk (e := 5) (zs := [((((8 * l.length) / 2 ^ (8 * (7 - k))) % 256 : Nat) : Int)]) (by kernel_rfl) (by kernel_rfl) (by kernel_rfl) hB_b10 rfl rfl) (.cons (by first | omega | (simp only [List.length_cons, List.length_nil, List.length_append, List.length_take, List.length_drop]; omega)) .nil)) ?_
      clear ha a; intro a ha
      refine lnil ?_
      replace ha := ha.sub (ρ' := [(2, .pointer (some ⟨bo, 0, none⟩)), (3, .int .u64 ((8 * l.length : Nat) : Int)), (4, .string (S ((shaP0 l ++ be8 (8 * l.length) k) ++ [UInt8.ofNat (((8 * l.length) / 2 ^ (8 * (7 - k))) % 256)]))), (5, .int .i64 ((7 - k : Nat) : Int))]) (by kernel_rfl)
      rw [show (((shaP0 l ++ be8 (8 * l.length) k) ++ [UInt8.ofNat (((8 * l.length) / 2 ^ (8 * (7 - k))) % 256)]) : List UInt8) = (shaP0 l ++ be8 (8 * l.length) (k + 1)) from by rw [List.append_assoc, be8_back _ _ (by omega)]] at ha
      refine bn ?_
      refine tn ?_
      refine regp (ρ' := [(2, .pointer (some ⟨bo, 0, none⟩)), (3, .int .u64 ((8 * l.length : Nat) : Int)), (4, .string (S (shaP0 l ++ be8 (8 * l.length) (k + 1)))), (5, .int .i64 (((7 - k : Nat) : Int) - 1))]) (C := [InR .i64 (((7 - k : Nat) : Int) - 1)]) ha [] (by kernel_rfl) (.cons (by unfold InR; omega) .nil) ?_
      clear ha a; intro a ha
      rw [show ((((7 - k : Nat) : Int) - 1) : Int) = (7 - ((k + 1 : Nat) : Int)) from by omega] at ha
      exact tn ⟨8 - ((k + 1)), by omega, (k + 1), rfl, ha.sub (ρ' := [(2, .pointer (some ⟨bo, 0, none⟩)), (3, .int .u64 ((8 * l.length : Nat) : Int)), (4, .string (S (shaP0 l ++ be8 (8 * l.length) (k + 1)))), (5, .int .i64 (7 - (((k + 1) : Nat) : Int)))]) (by kernel_rfl), hx, hB_bo, hB_b2, by omega⟩
    · replace h28 := of_decide_eq_false h28
      obtain rfl : k = 8 := by omega
      rw [← shaPad_eq] at ha
      refine wexit ?_
      refine (te (te (be ?_)))
      refine tn ?_
      refine wseq ?_
      refine reg_list ?_
      refine segp (ρ' := [(2, .pointer (some ⟨bo, 0, none⟩)), (4, .string (S (shaPad l))), (41, .agg #[.int .u32 1779033703, .int .u32 3144134277, .int .u32 1013904242, .int .u32 2773480762, .int .u32 1359893119, .int .u32 2600822924, .int .u32 528734635, .int .u32 1541459225])]) (C := []) ha 1 [] rfl (by kernel_rfl) .nil ?_
      clear ha a; intro a ha
      refine lnew ha rfl (by kernel_rfl) ⟨wc (wz 8)⟩ 81 (by kernel_rfl) ?_
      clear ha a; intro bs w12 he hb_bs hB_bs a ha
      have hne_bo_bs : bo ≠ bs := ne_new hB_bo hb_bs
      have hne_b2_bs : b2 ≠ bs := ne_new hB_b2 hb_bs
      replace hB_bo := keepB he hB_bo
      replace hB_b2 := keepB he hB_b2
      replace hb_bs := Nat.le_trans hx.size hb_bs
      replace hx := hx.tr he
      clear he
      refine lstoreL (off := 0) (vs := [.int .u32 1779033703, .int .u32 3144134277, .int .u32 1013904242, .int .u32 2773480762, .int .u32 1359893119, .int .u32 2600822924, .int .u32 528734635, .int .u32 1541459225]) (cs' := [.int .u32 1779033703, .int .u32 3144134277, .int .u32 1013904242, .int .u32 2773480762, .int .u32 1359893119, .int .u32 2600822924, .int .u32 528734635, .int .u32 1541459225]) ha rfl rfl (by kernel_rfl) rfl rfl hB_bs (by kernel_rfl) (by kernel_rfl) (by kernel_rfl) (by rw [wc_len _]; simp) (put_all (by rw [wc_len _]; rfl)) ?_
      clear ha a; intro w13 hc a ha
      replace hB_bo := hc.keep hB_bo (by first | assumption | exact Ne.symm (by assumption))
      replace hB_b2 := hc.keep hB_b2 (by first | assumption | exact Ne.symm (by assumption))
      replace hx := hc.ext hx hb_bs
      replace hB_bs := hc.at_; clear hc
      refine lnil ?_
      replace ha := ha.sub (ρ' := [(2, .pointer (some ⟨bo, 0, none⟩)), (4, .string (S (shaPad l))), (6, .pointer (some ⟨bs, 0, none⟩))]) (by kernel_rfl)
      rw [iv_cells] at hB_bs
      refine tn ?_
      refine wseq ?_
      refine reg_list ?_
      refine seg (ρ' := [(2, .pointer (some ⟨bo, 0, none⟩)), (4, .string (S (shaPad l))), (6, .pointer (some ⟨bs, 0, none⟩)), (42, .agg ⟨wc shaK⟩)]) (C := [CallOk Tryd.prog w13 43 #[] (.agg ⟨wc shaK⟩)]) ha 1 [(0, .val (.agg ⟨wc shaK⟩))] (by kernel_rfl) (.cons (fun w _ => rk_ok w) .nil) ?_
      clear ha a; intro a w14 ha he
      replace hx := hx.tr he
      replace hB_bo := keepB he hB_bo
      replace hB_b2 := keepB he hB_b2
      replace hB_bs := keepB he hB_bs
      clear he
      refine lnew ha rfl (by kernel_rfl) ⟨wc (wz 64)⟩ 82 (by kernel_rfl) ?_
      clear ha a; intro bk_ w15 he hb_bk_ hB_bk_ a ha
      have hne_bo_bk_ : bo ≠ bk_ := ne_new hB_bo hb_bk_
      have hne_b2_bk_ : b2 ≠ bk_ := ne_new hB_b2 hb_bk_
      have hne_bs_bk_ : bs ≠ bk_ := ne_new hB_bs hb_bk_
      replace hB_bo := keepB he hB_bo
      replace hB_b2 := keepB he hB_b2
      replace hB_bs := keepB he hB_bs
      replace hb_bk_ := Nat.le_trans hx.size hb_bk_
      replace hx := hx.tr he
      clear he
      refine lstoreL (off := 0) (vs := wc shaK) (cs' := wc shaK) ha rfl rfl (by kernel_rfl) rfl rfl hB_bk_ (by rw [wc_len _]; kernel_rfl) (by kernel_rfl) (wc_one _) (by first | (rw [wc_len _, wc_len _]; omega; done) | simp [wc_len]) (put_all (by first | (rw [wc_len _, wc_len _]; done) | simp [wc_len])) ?_
      clear ha a; intro w16 hc a ha
      replace hB_bo := hc.keep hB_bo (by first | assumption | exact Ne.symm (by assumption))
      replace hB_b2 := hc.keep hB_b2 (by first | assumption | exact Ne.symm (by assumption))
      replace hB_bs := hc.keep hB_bs (by first | assumption | exact Ne.symm (by assumption))
      replace hx := hc.ext hx hb_bk_
      replace hB_bk_ := hc.at_; clear hc
      refine lnil ?_
      replace ha := ha.sub (ρ' := [(2, .pointer (some ⟨bo, 0, none⟩)), (4, .string (S (shaPad l))), (6, .pointer (some ⟨bs, 0, none⟩)), (7, .pointer (some ⟨bk_, 0, none⟩))]) (by kernel_rfl)
      refine tn ?_
      refine wseq ?_
      refine wseq ?_
      refine regp (ρ' := [(2, .pointer (some ⟨bo, 0, none⟩)), (4, .string (S (shaPad l))), (6, .pointer (some ⟨bs, 0, none⟩)), (7, .pointer (some ⟨bk_, 0, none⟩)), (8, .int .i64 0)]) (C := []) ha [] (by kernel_rfl) .nil ?_
      clear ha a; intro a ha
      refine tn ?_
      refine wblk ?_
      refine wloop (fun zz a w17 => ∃ (s : Wn 8) (i f : Nat), zz = (shaPad l).length - i ∧ On 77 [(2, .pointer (some ⟨bo, 0, none⟩)), (4, .string (S (shaPad l))), (6, .pointer (some ⟨bs, 0, none⟩)), (7, .pointer (some ⟨bk_, 0, none⟩)), (8, .int .i64 ((i : Nat) : Int))] a ∧ Ext w w17 ∧ w17.heap[bo]? = some (.cells ⟨idc idZ⟩ 48 (0, 0)) ∧ w17.heap[b2]? = some (.cells #[.int .u8 128] 5 (0, 0)) ∧ w17.heap[bs]? = some (.cells ⟨wc s⟩ 81 (0, 0)) ∧ w17.heap[bk_]? = some (.cells ⟨wc shaK⟩ 82 (0, 0)) ∧ (shaGo shaK (shaPad l).length shaIv (shaPad l) = shaGo shaK f s ((shaPad l).drop i)) ∧ (i % 64 = 0) ∧ (i ≤ (shaPad l).length) ∧ ((shaPad l).length - i ≤ f)) _ ⟨shaIv, 0, (shaPad l).length, rfl, ha.sub (ρ' := [(2, .pointer (some ⟨bo, 0, none⟩)), (4, .string (S (shaPad l))), (6, .pointer (some ⟨bs, 0, none⟩)), (7, .pointer (some ⟨bk_, 0, none⟩)), (8, .int .i64 ((0 : Nat) : Int))]) (by kernel_rfl), hx, hB_bo, hB_b2, hB_bs, hB_bk_, rfl, by omega, by omega, by omega⟩ ?_
      clear ha hx hB_bo hB_b2 hB_bs hB_bk_
      rintro zz a w18 ⟨s, i, f, hzz, ha, hx, hB_bo, hB_b2, hB_bs, hB_bk_, hinv, hi64, hil, hf⟩
      refine wseq ?_
      refine wseq ?_
      refine regp (ρ' := [(2, .pointer (some ⟨bo, 0, none⟩)), (4, .string (S (shaPad l))), (6, .pointer (some ⟨bs, 0, none⟩)), (7, .pointer (some ⟨bk_, 0, none⟩)), (8, .int .i64 ((i : Nat) : Int)), (47, .bool (decide (((i + 64 : Nat) : Int) ≤ (((shaPad l).length : Nat) : Int))))]) (C := [InR .i64 ((i + 64 : Nat) : Int)]) ha [] (by kernel_rfl) (.cons (by unfold InR; omega) .nil) ?_
      clear ha a; intro a ha
      refine tn ?_
      refine wif ha rfl (fun h47 => ?_) (fun h47 => ?_)
      · replace h47 := of_decide_eq_true h47
        refine wskip ?_
        refine tn ?_
        refine wseq ?_
        refine wblk ?_
        refine regM hmix ha [(0, .val (.agg ⟨wc s⟩)), (6, .val (.agg ⟨wc shaK⟩)), (7, .val (.agg ⟨wc (shaBlk shaK s (((shaPad l).drop i).take ((i + 64) - i)))⟩))] [] [⟨8, .des, [], []⟩] [] (ρ' := [(2, .pointer (some ⟨bo, 0, none⟩)), (4, .string (S (shaPad l))), (6, .pointer (some ⟨bs, 0, none⟩)), (7, .pointer (some ⟨bk_, 0, none⟩)), (8, .int .i64 ((i : Nat) : Int))]) [] [fun w' => Ext w18 w', fun w' => w18.heap.size ≤ w'.heap.size ∧ Ext w w' ∧ w'.heap[bo]? = some (.cells ⟨idc idZ⟩ 48 (0, 0)) ∧ w'.heap[b2]? = some (.cells #[.int .u8 128] 5 (0, 0)) ∧ w'.heap[bs]? = some (.cells ⟨wc (shaBlk shaK s (((shaPad l).drop i).take ((i + 64) - i)))⟩ 81 (0, 0)) ∧ w'.heap[bk_]? = some (.cells ⟨wc shaK⟩ 82 (0, 0))] [(0, [0], fun w' => [RunOk Tryd.prog w' (Instr.loadAt 81 (.pointer (some ⟨bs, 0, none⟩))) (.agg ⟨wc s⟩)]), (4, [0], fun w' => [InR .i64 ((i + 64 : Nat) : Int)]), (5, [0], fun w' => [0 ≤ ((i : Nat) : Int) ∧ ((i : Nat) : Int) ≤ ((i + 64 : Nat) : Int) ∧ ((i + 64 : Nat) : Int) ≤ ((shaPad l).length : Int)]), (6, [0], fun w' => [RunOk Tryd.prog w' (Instr.loadAt 82 (.pointer (some ⟨bk_, 0, none⟩))) (.agg ⟨wc shaK⟩)]), (7, [0], fun w' => [CallOk Tryd.prog w' 44 #[.agg ⟨wc s⟩, .string (S (((shaPad l).drop i).take ((i + 64) - i))), .agg ⟨wc shaK⟩] (.agg ⟨wc (shaBlk shaK s (((shaPad l).drop i).take ((i + 64) - i)))⟩)])] (by kernel_rfl) (fun w' => by kernel_rfl) (fun w' => by kernel_rfl) (by kernel_rfl) (fun w' h => h) ?_ ?_ ?_ ?_ ?_ ?_
        · refine ⟨fun w1 w2 h e => Ext.tr h e, ?_, trivial⟩
          · rintro w1 w2 ⟨hsz, hx, hB_bo, hB_b2, hB_bs, hB_bk_⟩ he
            exact ⟨Nat.le_trans hsz he.size, hx.tr he, keepB he hB_bo, keepB he hB_b2, keepB he hB_bs, keepB he hB_bk_⟩
        · trivial
        · refine ⟨⟨?_, trivial⟩, ⟨?_, trivial⟩, ⟨?_, trivial⟩, ⟨?_, trivial⟩, ⟨?_, trivial⟩, trivial⟩
          · intro w' hJ
            have he : Ext w18 w' := hJ
            have hsz := he.size
            replace hx := hx.tr he
            replace hB_bo := keepB he hB_bo
            replace hB_b2 := keepB he hB_b2
            replace hB_bs := keepB he hB_bs
            replace hB_bk_ := keepB he hB_bk_
            clear he
            exact (.cons (ldAll (n := 8) hB_bs (by kernel_rfl) (by kernel_rfl) (wc_len _)) .nil)
          · intro w' hJ
            have he : Ext w18 w' := hJ
            have hsz := he.size
            replace hx := hx.tr he
            replace hB_bo := keepB he hB_bo
            replace hB_b2 := keepB he hB_b2
            replace hB_bs := keepB he hB_bs
            replace hB_bk_ := keepB he hB_bk_
            clear he
            exact (.cons (by unfold InR; omega) .nil)
          · intro w' hJ
            have he : Ext w18 w' := hJ
            have hsz := he.size
            replace hx := hx.tr he
            replace hB_bo := keepB he hB_bo
            replace hB_b2 := keepB he hB_b2
            replace hB_bs := keepB he hB_bs
            replace hB_bk_ := keepB he hB_bk_
            clear he
            exact (.cons ⟨by omega, by omega, by omega⟩ .nil)
          · intro w' hJ
            have he : Ext w18 w' := hJ
            have hsz := he.size
            replace hx := hx.tr he
            replace hB_bo := keepB he hB_bo
            replace hB_b2 := keepB he hB_b2
            replace hB_bs := keepB he hB_bs
            replace hB_bk_ := keepB he hB_bk_
            clear he
            exact (.cons (ldAll (n := 64) hB_bk_ (by kernel_rfl) (by kernel_rfl) (wc_len _)) .nil)
          · intro w' hJ
            have he : Ext w18 w' := hJ
            have hsz := he.size
            replace hx := hx.tr he
            replace hB_bo := keepB he hB_bo
            replace hB_b2 := keepB he hB_b2
            replace hB_bs := keepB he hB_bs
            replace hB_bk_ := keepB he hB_bk_
            clear he
            exact (.cons (fun w _ => rblock_ok _ _ _ w (by first | omega | (simp only [List.length_take, List.length_drop]; omega))) .nil)
        · trivial
        · refine ⟨?_, trivial⟩
          · intro w' hJ
            have hB_boS := hB_bo
            have hB_b2S := hB_b2
            have hB_bsS := hB_bs
            have hB_bk_S := hB_bk_
            have he : Ext w18 w' := hJ
            have hsz := he.size
            replace hx := hx.tr he
            replace hB_bo := keepB he hB_bo
            replace hB_b2 := keepB he hB_b2
            replace hB_bs := keepB he hB_bs
            replace hB_bk_ := keepB he hB_bk_
            clear he
            refine ostoreL (off := 0) (vs := wc (shaBlk shaK s (((shaPad l).drop i).take ((i + 64) - i)))) (cs' := wc (shaBlk shaK s (((shaPad l).drop i).take ((i + 64) - i)))) (t := 81) (x := .tmp 6) (y := .tmp 57) (by kernel_rfl) (by kernel_rfl) hB_bs (by rw [wc_len _]; kernel_rfl) (by kernel_rfl) (wc_one _) (by first | (rw [wc_len _, wc_len _]; omega; done) | simp [wc_len]) (put_all (by first | (rw [wc_len _, wc_len _]; done) | simp [wc_len])) ?_
            intro w'' hc
            exact ⟨trivial, ⟨Nat.le_trans hsz hc.size, hc.ext hx hb_bs, hc.keep hB_bo (by first | assumption | exact Ne.symm (by assumption)), hc.keep hB_b2 (by first | assumption | exact Ne.symm (by assumption)), hc.at_, hc.keep hB_bk_ (by first | assumption | exact Ne.symm (by assumption))⟩, trivial⟩
        · clear ha a; intro a w19 hJ ha
          clear hx hB_bo hB_b2 hB_bs hB_bk_
          obtain ⟨hsz, hx, hB_bo, hB_b2, hB_bs, hB_bk_⟩ := hJ
          clear hsz
          refine bn ?_
          refine tn ?_
          refine regp (ρ' := [(2, .pointer (some ⟨bo, 0, none⟩)), (4, .string (S (shaPad l))), (6, .pointer (some ⟨bs, 0, none⟩)), (7, .pointer (some ⟨bk_, 0, none⟩)), (8, .int .i64 ((i + 64 : Nat) : Int))]) (C := [InR .i64 ((i + 64 : Nat) : Int)]) ha [] (by kernel_rfl) (.cons (by unfold InR; omega) .nil) ?_
          clear ha a; intro a ha
          exact tn ⟨(shaPad l).length - ((i + 64)), by omega, (shaBlk shaK s (((shaPad l).drop i).take (i + 64 - i))), (i + 64), (f - 1), rfl, ha.sub (ρ' := [(2, .pointer (some ⟨bo, 0, none⟩)), (4, .string (S (shaPad l))), (6, .pointer (some ⟨bs, 0, none⟩)), (7, .pointer (some ⟨bk_, 0, none⟩)), (8, .int .i64 (((i + 64) : Nat) : Int))]) (by kernel_rfl), hx, hB_bo, hB_b2, hB_bs, hB_bk_, by rw [hinv, shaGo_step (by rw [List.length_drop]; omega) (by rw [List.length_drop]; exact hf), List.drop_drop, show i + 64 - i = 64 by omega], by omega, by omega, by omega⟩
      · replace h47 := of_decide_eq_false h47
        have hres : shaGo shaK (shaPad l).length shaIv (shaPad l) = s := by rw [hinv]; exact shaGo_stop _ _ _ _ (by rw [List.length_drop]; omega)
        refine wexit ?_
        refine (te (te (be ?_)))
        refine tn ?_
        refine wseq ?_
        refine reg_list ?_
        refine segp (ρ' := [(2, .pointer (some ⟨bo, 0, none⟩)), (6, .pointer (some ⟨bs, 0, none⟩)), (58, .agg ⟨idc idZ⟩)]) (C := []) ha 1 [] rfl (by kernel_rfl) .nil ?_
        clear ha a; intro a ha
        refine lnew ha rfl (by kernel_rfl) ⟨idc idZ⟩ 48 (by kernel_rfl) ?_
        clear ha a; intro bi w20 he hb_bi hB_bi a ha
        have hne_bo_bi : bo ≠ bi := ne_new hB_bo hb_bi
        have hne_b2_bi : b2 ≠ bi := ne_new hB_b2 hb_bi
        have hne_bs_bi : bs ≠ bi := ne_new hB_bs hb_bi
        have hne_bk__bi : bk_ ≠ bi := ne_new hB_bk_ hb_bi
        replace hB_bo := keepB he hB_bo
        replace hB_b2 := keepB he hB_b2
        replace hB_bs := keepB he hB_bs
        replace hB_bk_ := keepB he hB_bk_
        replace hb_bi := Nat.le_trans hx.size hb_bi
        replace hx := hx.tr he
        clear he
        refine lstore (off := 0) ha rfl rfl (by kernel_rfl) hB_bi ⟨idc idZ⟩ rfl (by kernel_rfl) (by kernel_rfl) ?_
        clear ha a; intro w21 hc a ha
        replace hB_bo := hc.keep hB_bo (by first | assumption | exact Ne.symm (by assumption))
        replace hB_b2 := hc.keep hB_b2 (by first | assumption | exact Ne.symm (by assumption))
        replace hB_bs := hc.keep hB_bs (by first | assumption | exact Ne.symm (by assumption))
        replace hB_bk_ := hc.keep hB_bk_ (by first | assumption | exact Ne.symm (by assumption))
        replace hx := hc.ext hx hb_bi
        replace hB_bi := hc.at_; clear hc
        refine lnil ?_
        replace ha := ha.sub (ρ' := [(2, .pointer (some ⟨bo, 0, none⟩)), (6, .pointer (some ⟨bs, 0, none⟩)), (9, .pointer (some ⟨bi, 0, none⟩))]) (by kernel_rfl)
        refine tn ?_
        refine wseq ?_
        refine wseq ?_
        refine regp (ρ' := [(2, .pointer (some ⟨bo, 0, none⟩)), (6, .pointer (some ⟨bs, 0, none⟩)), (9, .pointer (some ⟨bi, 0, none⟩)), (10, .int .i64 0)]) (C := []) ha [] (by kernel_rfl) .nil ?_
        clear ha a; intro a ha
        refine tn ?_
        refine wblk ?_
        refine wloop (fun zz a w22 => ∃ (i : Nat), zz = 32 - i ∧ On 77 [(2, .pointer (some ⟨bo, 0, none⟩)), (6, .pointer (some ⟨bs, 0, none⟩)), (9, .pointer (some ⟨bi, 0, none⟩)), (10, .int .i64 ((i : Nat) : Int))] a ∧ Ext w w22 ∧ w22.heap[bo]? = some (.cells ⟨idc idZ⟩ 48 (0, 0)) ∧ w22.heap[b2]? = some (.cells #[.int .u8 128] 5 (0, 0)) ∧ w22.heap[bs]? = some (.cells ⟨wc s⟩ 81 (0, 0)) ∧ w22.heap[bk_]? = some (.cells ⟨wc shaK⟩ 82 (0, 0)) ∧ w22.heap[bi]? = some (.cells ⟨idc (sumTo s i)⟩ 48 (0, 0)) ∧ (i ≤ 32)) _ ⟨0, rfl, ha.sub (ρ' := [(2, .pointer (some ⟨bo, 0, none⟩)), (6, .pointer (some ⟨bs, 0, none⟩)), (9, .pointer (some ⟨bi, 0, none⟩)), (10, .int .i64 ((0 : Nat) : Int))]) (by kernel_rfl), hx, hB_bo, hB_b2, hB_bs, hB_bk_, hB_bi, by omega⟩ ?_
        clear ha hx hB_bo hB_b2 hB_bs hB_bk_ hB_bi
        rintro zz a w23 ⟨i, hzz, ha, hx, hB_bo, hB_b2, hB_bs, hB_bk_, hB_bi, hi32⟩
        refine wseq ?_
        refine wseq ?_
        refine regp (ρ' := [(2, .pointer (some ⟨bo, 0, none⟩)), (6, .pointer (some ⟨bs, 0, none⟩)), (9, .pointer (some ⟨bi, 0, none⟩)), (10, .int .i64 ((i : Nat) : Int)), (60, .bool (decide (((i : Nat) : Int) < 32)))]) (C := []) ha [] (by kernel_rfl) .nil ?_
        clear ha a; intro a ha
        refine tn ?_
        refine wif ha rfl (fun h60 => ?_) (fun h60 => ?_)
        · replace h60 := of_decide_eq_true h60
          refine wskip ?_
          refine tn ?_
          refine wseq ?_
          refine wblk ?_
          refine reg_list ?_
          refine segp (ρ' := [(2, .pointer (some ⟨bo, 0, none⟩)), (6, .pointer (some ⟨bs, 0, none⟩)), (9, .pointer (some ⟨bi, 0, none⟩)), (10, .int .i64 ((i : Nat) : Int)), (74, .int .u8 ((((s.at_ (i / 4)) / 2 ^ (24 - (8 * (i % 4)))) % 256 : Nat) : Int)), (75, .pointer (some ⟨bi, i, none⟩))]) (C := [0 ≤ ((i : Nat) : Int), 0 < (4 : Int), InR .i64 ((i / 4 : Nat) : Int), RunOk Tryd.prog w23 (Instr.indexAt 81 (.pointer (some ⟨bs, 0, none⟩)) (.int .i64 ((i / 4 : Nat) : Int))) (.pointer (some ⟨bs, (i / 4), none⟩)), RunOk Tryd.prog w23 (Instr.loadAt 59 (.pointer (some ⟨bs, (i / 4), none⟩))) (.int .u32 ((s.at_ (i / 4) : Nat) : Int)), 0 ≤ ((i : Nat) : Int), 0 < (4 : Int), InR .i64 ((8 * (i % 4) : Nat) : Int), BinOk Tryd.prog .sub 3 (.int .i64 24) (.int .i64 ((8 * (i % 4) : Nat) : Int)) (.int .i64 ((24 - (8 * (i % 4)) : Nat) : Int)), InR .u64 ((24 - (8 * (i % 4)) : Nat) : Int), BinOk Tryd.prog .shr 59 (.int .u32 ((s.at_ (i / 4) : Nat) : Int)) (.int .u64 ((24 - (8 * (i % 4)) : Nat) : Int)) (.int .u32 (((s.at_ (i / 4)) / 2 ^ (24 - (8 * (i % 4))) : Nat) : Int)), RunOk Tryd.prog w23 (Instr.indexAt 48 (.pointer (some ⟨bi, 0, none⟩)) (.int .i64 ((i : Nat) : Int))) (.pointer (some ⟨bi, i, none⟩))]) ha 13 [(3, .val (.pointer (some ⟨bs, (i / 4), none⟩))), (4, .val (.int .u32 ((s.at_ (i / 4) : Nat) : Int))), (8, .val (.int .i64 ((24 - (8 * (i % 4)) : Nat) : Int))), (10, .val (.int .u32 (((s.at_ (i / 4)) / 2 ^ (24 - (8 * (i % 4))) : Nat) : Int))), (11, .mod), (12, .val (.pointer (some ⟨bi, i, none⟩)))] rfl (by kernel_rfl) (.cons (by omega) (.cons (by omega) (.cons (by unfold InR; omega) (.cons (ixA (n := 8) (i := (i / 4)) (by kernel_rfl) (by omega)) (.cons (ld1 hB_bs (by kernel_rfl) (wc_at (i := (i / 4)) (by omega))) (.cons (by omega) (.cons (by omega) (.cons (by unfold InR; omega) (.cons (subC (m := 24) (n := (8 * (i % 4))) (by rfl) (by omega) (by unfold InR; omega)) (.cons (by unfold InR; omega) (.cons (shrN (a := (s.at_ (i / 4))) (n := (24 - (8 * (i % 4)))) (by show _ ≤ 32; omega)) (.cons (ixA (n := 32) (i := i) (by kernel_rfl) (by omega)) .nil)))))))))))) ?_
          clear ha a; intro a ha
          refine lstoreL (off := i) (vs := [.int .u8 ((((s.at_ (i / 4)) / 2 ^ (24 - (8 * (i % 4)))) % 256 : Nat) : Int)]) (cs' := idc ((sumTo s i).set i (((s.at_ (i / 4)) / 2 ^ (24 - (8 * (i % 4)))) % 256))) ha rfl rfl (by kernel_rfl) rfl rfl hB_bi (by kernel_rfl) (by kernel_rfl) (by kernel_rfl) (by rw [idc_len _]; show i + 1 ≤ 32; omega) (by rw [put_one (by rw [idc_len _]; omega)]; exact idc_set _ _ _ (by omega)) ?_
          clear ha a; intro w24 hc a ha
          replace hB_bo := hc.keep hB_bo (by first | assumption | exact Ne.symm (by assumption))
          replace hB_b2 := hc.keep hB_b2 (by first | assumption | exact Ne.symm (by assumption))
          replace hB_bs := hc.keep hB_bs (by first | assumption | exact Ne.symm (by assumption))
          replace hB_bk_ := hc.keep hB_bk_ (by first | assumption | exact Ne.symm (by assumption))
          replace hx := hc.ext hx hb_bi
          replace hB_bi := hc.at_; clear hc
          refine lnil ?_
          replace ha := ha.sub (ρ' := [(2, .pointer (some ⟨bo, 0, none⟩)), (6, .pointer (some ⟨bs, 0, none⟩)), (9, .pointer (some ⟨bi, 0, none⟩)), (10, .int .i64 ((i : Nat) : Int))]) (by kernel_rfl)
          refine bn ?_
          refine tn ?_
          refine regp (ρ' := [(2, .pointer (some ⟨bo, 0, none⟩)), (6, .pointer (some ⟨bs, 0, none⟩)), (9, .pointer (some ⟨bi, 0, none⟩)), (10, .int .i64 ((i + 1 : Nat) : Int))]) (C := [InR .i64 ((i + 1 : Nat) : Int)]) ha [] (by kernel_rfl) (.cons (by unfold InR; omega) .nil) ?_
          clear ha a; intro a ha
          exact tn ⟨32 - ((i + 1)), by omega, (i + 1), rfl, ha.sub (ρ' := [(2, .pointer (some ⟨bo, 0, none⟩)), (6, .pointer (some ⟨bs, 0, none⟩)), (9, .pointer (some ⟨bi, 0, none⟩)), (10, .int .i64 (((i + 1) : Nat) : Int))]) (by kernel_rfl), hx, hB_bo, hB_b2, hB_bs, hB_bk_, hB_bi, by omega⟩
        · replace h60 := of_decide_eq_false h60
          obtain rfl : i = 32 := by omega
          refine wexit ?_
          refine (te (te (be ?_)))
          refine tn ?_
          refine wseq ?_
          refine reg_list ?_
          refine segp (ρ' := [(2, .pointer (some ⟨bo, 0, none⟩)), (76, .agg ⟨idc (sumTo s 32)⟩)]) (C := [RunOk Tryd.prog w23 (Instr.loadAt 48 (.pointer (some ⟨bi, 0, none⟩))) (.agg ⟨idc (sumTo s 32)⟩)]) ha 1 [(0, .val (.agg ⟨idc (sumTo s 32)⟩))] rfl (by kernel_rfl) (.cons (ldN (n := 32) hB_bi (by kernel_rfl) (by kernel_rfl) ⟨Nat.le_of_ble_eq_true (by kernel_rfl), (by kernel_rfl)⟩) .nil) ?_
          clear ha a; intro a ha
          refine lstore (off := 0) ha rfl rfl (by kernel_rfl) hB_bo ⟨idc (sumTo s 32)⟩ rfl (by kernel_rfl) (by kernel_rfl) ?_
          clear ha a; intro w25 hc a ha
          replace hB_b2 := hc.keep hB_b2 (by first | assumption | exact Ne.symm (by assumption))
          replace hB_bs := hc.keep hB_bs (by first | assumption | exact Ne.symm (by assumption))
          replace hB_bk_ := hc.keep hB_bk_ (by first | assumption | exact Ne.symm (by assumption))
          replace hB_bi := hc.keep hB_bi (by first | assumption | exact Ne.symm (by assumption))
          replace hx := hc.ext hx hb_bo
          replace hB_bo := hc.at_; clear hc
          refine lnil ?_
          replace ha := ha.sub (ρ' := [(2, .pointer (some ⟨bo, 0, none⟩))]) (by kernel_rfl)
          refine tn ?_
          refine wret ?_
          refine fin ha (.cell rfl (ldVN (n := 32) (vs := ⟨idc (sumTo s 32)⟩) hB_bo (by kernel_rfl) (by kernel_rfl) ⟨Nat.le_of_ble_eq_true (by kernel_rfl), (by kernel_rfl)⟩) .nil) ?_
          refine ⟨?_, hx⟩
          show Value.agg _ = _
          unfold shaSum shaSumC
          rw [hres]
-- UNUSED LABEL wrap
end Go.Kn
end
section
set_option linter.unusedSimpArgs false
set_option linter.unusedVariables false
set_option maxRecDepth 100000
namespace Go.Kn
open Go.Proofs
theorem read_ok (l : List UInt8) (h : Nat) (w : World) (hl : l.length ≤ 9223372036854775807) (hh : h ≤ 9223372036854775807) :
    Fn Tryd.prog 102 #[.string (S l), .int .i64 ((h : Nat) : Int)] w (fun x w' => x = .tuple #[.agg #[.int .u64 (((lzread l h).1 : Nat) : Int), .int .u64 (((lzread l h).2.1 : Nat) : Int)], .string (S ((lzread l h).2.2.1)), .int .i64 (((lzread l h).2.2.2 : Nat) : Int)] ∧ Ext w w') := by
  have hx : Ext w w := Ext.rfl' w
  refine enter (N := 72) (args := [.string (S l), .int .i64 ((h : Nat) : Int)]) Tryd.func102 rfl rfl rfl ?_
  intro a ha
  simp only [argEnv, Nat.zero_add, Nat.reduceAdd] at ha
  refine wseq ?_
  refine reg_list ?_
  refine lnew ha rfl (by kernel_rfl) #[.int .u64 0, .int .u64 0] 150 (by kernel_rfl) ?_
  clear ha a; intro b1 w2 he hb_b1 hB_b1 a ha
  replace hb_b1 := Nat.le_trans hx.size hb_b1
  replace hx := hx.tr he
  clear he
  refine segp (ρ' := [(0, .string (S l)), (1, .int .i64 ((h : Nat) : Int)), (4, .pointer (some ⟨b1, 0, none⟩))]) (C := []) ha 2 [] rfl (by kernel_rfl) .nil ?_
  clear ha a; intro a ha
  refine lnil ?_
  replace ha := ha.sub (ρ' := [(0, .string (S l)), (1, .int .i64 ((h : Nat) : Int)), (4, .pointer (some ⟨b1, 0, none⟩))]) (by kernel_rfl)
  refine tn ?_
  refine wseq ?_
  refine reg hmix (ρ' := [(1, .int .i64 ((h : Nat) : Int)), (4, .pointer (some ⟨b1, 0, none⟩)), (7, .int .u64 (((vget l).1 : Nat) : Int)), (8, .string (S ((vget l).2.1))), (9, .int .i64 (((vget l).2.2 : Nat) : Int))]) (C := [CallOk Tryd.prog w2 77 #[.string (S l)] (.tuple #[.int .u64 (((vget l).1 : Nat) : Int), .string (S ((vget l).2.1)), .int .i64 (((vget l).2.2 : Nat) : Int)])]) ha [(1, .val (.tuple #[.int .u64 (((vget l).1 : Nat) : Int), .string (S ((vget l).2.1)), .int .i64 (((vget l).2.2 : Nat) : Int)]))] (by kernel_rfl) (.cons (fun w _ => get_ok _ w (by omega)) .nil) ?_
  clear ha a; intro a w3 ha he
  replace hx := hx.tr he
  replace hB_b1 := keepB he hB_b1
  clear he
  have hg1 := vget_lt l
  have hg2 := vget_len l
  refine tn ?_
  refine wseq ?_
  refine wseq ?_
  refine regp (ρ' := [(1, .int .i64 ((h : Nat) : Int)), (4, .pointer (some ⟨b1, 0, none⟩)), (7, .int .u64 (((vget l).1 : Nat) : Int)), (8, .string (S ((vget l).2.1))), (19, .bool (!decide ((((vget l).2.2 : Nat) : Int) = 0)))]) (C := []) ha [] (by kernel_rfl) .nil ?_
  clear ha a; intro a ha
  refine tn ?_
  refine wif ha rfl (fun h19 => ?_) (fun h19 => ?_)
  · simp only [Bool.not_eq_true', Bool.not_eq_false', Bool.and_eq_true, Bool.or_eq_true, Bool.and_eq_false_iff, Bool.or_eq_false_iff, decide_eq_true_eq, decide_eq_false_iff_not, Bool.not_eq_true, Decidable.not_not] at h19
    refine wseq ?_
    refine reg_list ?_
    refine segp (ρ' := [(4, .pointer (some ⟨b1, 0, none⟩)), (20, .agg #[.int .u64 0, .int .u64 0])]) (C := []) ha 1 [] rfl (by kernel_rfl) .nil ?_
    clear ha a; intro a ha
    refine lstore (off := 0) ha rfl rfl (by kernel_rfl) hB_b1 #[.int .u64 0, .int .u64 0] rfl (by kernel_rfl) (by kernel_rfl) ?_
    clear ha a; intro w4 hc a ha
    replace hx := hc.ext hx hb_b1
    replace hB_b1 := hc.at_; clear hc
    refine segp (ρ' := [(4, .pointer (some ⟨b1, 0, none⟩)), (5, .string (S [])), (6, .int .i64 2)]) (C := []) ha 2 [] rfl (by kernel_rfl) .nil ?_
    clear ha a; intro a ha
    refine lnil ?_
    replace ha := ha.sub (ρ' := [(4, .pointer (some ⟨b1, 0, none⟩)), (5, .string (S [])), (6, .int .i64 2)]) (by kernel_rfl)
    refine tn ?_
    refine wret ?_
    refine (tr ?_)
    refine fin ha (.cell rfl (ldVN (n := 2) (vs := #[.int .u64 0, .int .u64 0]) hB_b1 (by kernel_rfl) (by kernel_rfl) ⟨Nat.le_of_ble_eq_true (by kernel_rfl), (by kernel_rfl)⟩) (.tmp rfl (.tmp rfl .nil))) ?_
    refine ⟨?_, hx⟩
    unfold lzread
    (repeat' split) <;> first | rfl | (exfalso; omega)
  · simp only [Bool.not_eq_true', Bool.not_eq_false', Bool.and_eq_true, Bool.or_eq_true, Bool.and_eq_false_iff, Bool.or_eq_false_iff, decide_eq_true_eq, decide_eq_false_iff_not, Bool.not_eq_true, Decidable.not_not] at h19
    refine wskip ?_
    refine tn ?_
    refine wseq ?_
    refine wseq ?_
    refine regp (ρ' := [(1, .int .i64 ((h : Nat) : Int)), (4, .pointer (some ⟨b1, 0, none⟩)), (7, .int .u64 (((vget l).1 : Nat) : Int)), (8, .string (S ((vget l).2.1))), (23, .bool (decide (((((vget l).1) % 2 : Nat) : Int) = 0)))]) (C := [0 ≤ (((vget l).1 : Nat) : Int), 0 < (2 : Int)]) ha [] (by kernel_rfl) (.cons (by omega) (.cons (by omega) .nil)) ?_
    clear ha a; intro a ha
    refine tn ?_
    refine wif ha rfl (fun h23 => ?_) (fun h23 => ?_)
    · replace h23 := of_decide_eq_true h23
      refine wseq ?_
      refine wseq ?_
      refine regp (ρ' := [(4, .pointer (some ⟨b1, 0, none⟩)), (7, .int .u64 (((vget l).1 : Nat) : Int)), (8, .string (S ((vget l).2.1))), (33, .bool ((decide ((((vget l).1 : Nat) : Int) = 0)) || (decide (((((vget l).2.1).length : Nat) : Int) < ((((vget l).1) / 2 : Nat) : Int)))))]) (C := [(decide ((((vget l).1 : Nat) : Int) = 0)) = false → All [0 ≤ (((vget l).1 : Nat) : Int), 0 < (2 : Int), InR .u64 ((((vget l).1) / 2 : Nat) : Int), InR .u64 ((((vget l).2.1).length : Nat) : Int)]]) ha [] (by kernel_rfl) (.cons (fun hg3 => by replace hg3 := of_decide_eq_false hg3; exact (.cons (by omega) (.cons (by omega) (.cons (by unfold InR; omega) (.cons (by unfold InR; omega) .nil))))) .nil) ?_
      clear ha a; intro a ha
      refine tn ?_
      refine wif ha rfl (fun h33 => ?_) (fun h33 => ?_)
      · simp only [Bool.not_eq_true', Bool.not_eq_false', Bool.and_eq_true, Bool.or_eq_true, Bool.and_eq_false_iff, Bool.or_eq_false_iff, decide_eq_true_eq, decide_eq_false_iff_not, Bool.not_eq_true, Decidable.not_not] at h33
        refine wseq ?_
        refine reg_list ?_
        refine segp (ρ' := [(4, .pointer (some ⟨b1, 0, none⟩)), (34, .agg #[.int .u64 0, .int .u64 0])]) (C := []) ha 1 [] rfl (by kernel_rfl) .nil ?_
        clear ha a; intro a ha
        refine lstore (off := 0) ha rfl rfl (by kernel_rfl) hB_b1 #[.int .u64 0, .int .u64 0] rfl (by kernel_rfl) (by kernel_rfl) ?_
        clear ha a; intro w5 hc a ha
        replace hx := hc.ext hx hb_b1
        replace hB_b1 := hc.at_; clear hc
        refine segp (ρ' := [(4, .pointer (some ⟨b1, 0, none⟩)), (5, .string (S [])), (6, .int .i64 2)]) (C := []) ha 2 [] rfl (by kernel_rfl) .nil ?_
        clear ha a; intro a ha
        refine lnil ?_
        replace ha := ha.sub (ρ' := [(4, .pointer (some ⟨b1, 0, none⟩)), (5, .string (S [])), (6, .int .i64 2)]) (by kernel_rfl)
        refine tn ?_
        refine wret ?_
        refine (tr (tr ?_))
        refine fin ha (.cell rfl (ldVN (n := 2) (vs := #[.int .u64 0, .int .u64 0]) hB_b1 (by kernel_rfl) (by kernel_rfl) ⟨Nat.le_of_ble_eq_true (by kernel_rfl), (by kernel_rfl)⟩) (.tmp rfl (.tmp rfl .nil))) ?_
        refine ⟨?_, hx⟩
        unfold lzread
        (repeat' split) <;> first | rfl | (exfalso; omega)
      · simp only [Bool.not_eq_true', Bool.not_eq_false', Bool.and_eq_true, Bool.or_eq_true, Bool.and_eq_false_iff, Bool.or_eq_false_iff, decide_eq_true_eq, decide_eq_false_iff_not, Bool.not_eq_true, Decidable.not_not] at h33
        refine wskip ?_
        refine tn ?_
        refine wseq ?_
        refine reg_list ?_
        refine segp (ρ' := [(4, .pointer (some ⟨b1, 0, none⟩)), (37, .agg #[.int .u64 ((((vget l).1) / 2 : Nat) : Int), .int .u64 0]), (38, .string (S ((vget l).2.1)))]) (C := [0 ≤ (((vget l).1 : Nat) : Int), 0 < (2 : Int), InR .u64 ((((vget l).1) / 2 : Nat) : Int)]) ha 4 [] rfl (by kernel_rfl) (.cons (by omega) (.cons (by omega) (.cons (by unfold InR; omega) .nil))) ?_
        clear ha a; intro a ha
        refine lstore (off := 0) ha rfl rfl (by kernel_rfl) hB_b1 #[.int .u64 ((((vget l).1) / 2 : Nat) : Int), .int .u64 0] rfl (by kernel_rfl) (by kernel_rfl) ?_
        clear ha a; intro w6 hc a ha
        replace hx := hc.ext hx hb_b1
        replace hB_b1 := hc.at_; clear hc
        refine segp (ρ' := [(4, .pointer (some ⟨b1, 0, none⟩)), (5, .string (S ((vget l).2.1))), (6, .int .i64 0)]) (C := []) ha 2 [] rfl (by kernel_rfl) .nil ?_
        clear ha a; intro a ha
        refine lnil ?_
        replace ha := ha.sub (ρ' := [(4, .pointer (some ⟨b1, 0, none⟩)), (5, .string (S ((vget l).2.1))), (6, .int .i64 0)]) (by kernel_rfl)
        refine tn ?_
        refine wret ?_
        refine (tr ?_)
        refine fin ha (.cell rfl (ldVN (n := 2) (vs := #[.int .u64 ((((vget l).1) / 2 : Nat) : Int), .int .u64 0]) hB_b1 (by kernel_rfl) (by kernel_rfl) ⟨Nat.le_of_ble_eq_true (by kernel_rfl), (by kernel_rfl)⟩) (.tmp rfl (.tmp rfl .nil))) ?_
        refine ⟨?_, hx⟩
        unfold lzread
        (repeat' split) <;> first | rfl | (exfalso; omega)
    · replace h23 := of_decide_eq_false h23
      refine wskip ?_
      refine tn ?_
      refine wseq ?_
      refine reg hmix (ρ' := [(1, .int .i64 ((h : Nat) : Int)), (4, .pointer (some ⟨b1, 0, none⟩)), (7, .int .u64 (((vget l).1 : Nat) : Int)), (9, .int .i64 (((vget ((vget l).2.1)).2.2 : Nat) : Int)), (10, .int .u64 (((vget ((vget l).2.1)).1 : Nat) : Int)), (11, .string (S ((vget ((vget l).2.1)).2.1)))]) (C := [CallOk Tryd.prog w3 77 #[.string (S ((vget l).2.1))] (.tuple #[.int .u64 (((vget ((vget l).2.1)).1 : Nat) : Int), .string (S ((vget ((vget l).2.1)).2.1)), .int .i64 (((vget ((vget l).2.1)).2.2 : Nat) : Int)])]) ha [(1, .val (.tuple #[.int .u64 (((vget ((vget l).2.1)).1 : Nat) : Int), .string (S ((vget ((vget l).2.1)).2.1)), .int .i64 (((vget ((vget l).2.1)).2.2 : Nat) : Int)]))] (by kernel_rfl) (.cons (fun w _ => get_ok _ w (by omega)) .nil) ?_
      clear ha a; intro a w7 ha he
      replace hx := hx.tr he
      replace hB_b1 := keepB he hB_b1
      clear he
      have hg3 := vget_lt (vget l).2.1
      refine tn ?_
      refine wseq ?_
      refine wseq ?_
      refine regp (ρ' := [(4, .pointer (some ⟨b1, 0, none⟩)), (7, .int .u64 (((vget l).1 : Nat) : Int)), (10, .int .u64 (((vget ((vget l).2.1)).1 : Nat) : Int)), (11, .string (S ((vget ((vget l).2.1)).2.1))), (65, .bool (((((!decide ((((vget ((vget l).2.1)).2.2 : Nat) : Int) = 0)) || (decide (((((vget l).1) / 2 : Nat) : Int) < 4))) || (decide ((((vget ((vget l).2.1)).1 : Nat) : Int) < 1))) || (decide ((65535 : Int) < (((vget ((vget l).2.1)).1 : Nat) : Int)))) || (decide (((h : Nat) : Int) < (((vget ((vget l).2.1)).1 : Nat) : Int)))))]) (C := [(!decide ((((vget ((vget l).2.1)).2.2 : Nat) : Int) = 0)) = false → All [0 ≤ (((vget l).1 : Nat) : Int), 0 < (2 : Int), InR .u64 ((((vget l).1) / 2 : Nat) : Int)], ((((!decide ((((vget ((vget l).2.1)).2.2 : Nat) : Int) = 0)) || (decide (((((vget l).1) / 2 : Nat) : Int) < 4))) || (decide ((((vget ((vget l).2.1)).1 : Nat) : Int) < 1))) || (decide ((65535 : Int) < (((vget ((vget l).2.1)).1 : Nat) : Int)))) = false → All [InR .u64 ((h : Nat) : Int)]]) ha [] (by kernel_rfl) (.cons (fun hg3 => by simp only [Bool.not_eq_true', Bool.not_eq_false', Bool.and_eq_true, Bool.or_eq_true, Bool.and_eq_false_iff, Bool.or_eq_false_iff, decide_eq_true_eq, decide_eq_false_iff_not, Bool.not_eq_true, Decidable.not_not] at hg3; exact (.cons (by omega) (.cons (by omega) (.cons (by unfold InR; omega) .nil)))) (.cons (fun hg16 => by simp only [Bool.not_eq_true', Bool.not_eq_false', Bool.and_eq_true, Bool.or_eq_true, Bool.and_eq_false_iff, Bool.or_eq_false_iff, decide_eq_true_eq, decide_eq_false_iff_not, Bool.not_eq_true, Decidable.not_not] at hg16; exact (.cons (by unfold InR; omega) .nil)) .nil)) ?_
      clear ha a; intro a ha
      refine tn ?_
      refine wif ha rfl (fun h65 => ?_) (fun h65 => ?_)
      · simp only [Bool.not_eq_true', Bool.not_eq_false', Bool.and_eq_true, Bool.or_eq_true, Bool.and_eq_false_iff, Bool.or_eq_false_iff, decide_eq_true_eq, decide_eq_false_iff_not, Bool.not_eq_true, Decidable.not_not] at h65
        refine wseq ?_
        refine reg_list ?_
        refine segp (ρ' := [(4, .pointer (some ⟨b1, 0, none⟩)), (66, .agg #[.int .u64 0, .int .u64 0])]) (C := []) ha 1 [] rfl (by kernel_rfl) .nil ?_
        clear ha a; intro a ha
        refine lstore (off := 0) ha rfl rfl (by kernel_rfl) hB_b1 #[.int .u64 0, .int .u64 0] rfl (by kernel_rfl) (by kernel_rfl) ?_
        clear ha a; intro w8 hc a ha
        replace hx := hc.ext hx hb_b1
        replace hB_b1 := hc.at_; clear hc
        refine segp (ρ' := [(4, .pointer (some ⟨b1, 0, none⟩)), (5, .string (S [])), (6, .int .i64 2)]) (C := []) ha 2 [] rfl (by kernel_rfl) .nil ?_
        clear ha a; intro a ha
        refine lnil ?_
        replace ha := ha.sub (ρ' := [(4, .pointer (some ⟨b1, 0, none⟩)), (5, .string (S [])), (6, .int .i64 2)]) (by kernel_rfl)
        refine tn ?_
        refine wret ?_
        refine (tr ?_)
        refine fin ha (.cell rfl (ldVN (n := 2) (vs := #[.int .u64 0, .int .u64 0]) hB_b1 (by kernel_rfl) (by kernel_rfl) ⟨Nat.le_of_ble_eq_true (by kernel_rfl), (by kernel_rfl)⟩) (.tmp rfl (.tmp rfl .nil))) ?_
        refine ⟨?_, hx⟩
        unfold lzread
        (repeat' split) <;> first | rfl | (exfalso; omega)
      · simp only [Bool.not_eq_true', Bool.not_eq_false', Bool.and_eq_true, Bool.or_eq_true, Bool.and_eq_false_iff, Bool.or_eq_false_iff, decide_eq_true_eq, decide_eq_false_iff_not, Bool.not_eq_true, Decidable.not_not] at h65
        refine wskip ?_
        refine tn ?_
        refine wseq ?_
        refine reg_list ?_
        refine segp (ρ' := [(4, .pointer (some ⟨b1, 0, none⟩)), (70, .agg #[.int .u64 ((((vget l).1) / 2 : Nat) : Int), .int .u64 (((vget ((vget l).2.1)).1 : Nat) : Int)]), (71, .string (S ((vget ((vget l).2.1)).2.1)))]) (C := [0 ≤ (((vget l).1 : Nat) : Int), 0 < (2 : Int), InR .u64 ((((vget l).1) / 2 : Nat) : Int)]) ha 5 [] rfl (by kernel_rfl) (.cons (by omega) (.cons (by omega) (.cons (by unfold InR; omega) .nil))) ?_
        clear ha a; intro a ha
        refine lstore (off := 0) ha rfl rfl (by kernel_rfl) hB_b1 #[.int .u64 ((((vget l).1) / 2 : Nat) : Int), .int .u64 (((vget ((vget l).2.1)).1 : Nat) : Int)] rfl (by kernel_rfl) (by kernel_rfl) ?_
        clear ha a; intro w9 hc a ha
        replace hx := hc.ext hx hb_b1
        replace hB_b1 := hc.at_; clear hc
        refine segp (ρ' := [(4, .pointer (some ⟨b1, 0, none⟩)), (5, .string (S ((vget ((vget l).2.1)).2.1))), (6, .int .i64 0)]) (C := []) ha 2 [] rfl (by kernel_rfl) .nil ?_
        clear ha a; intro a ha
        refine lnil ?_
        replace ha := ha.sub (ρ' := [(4, .pointer (some ⟨b1, 0, none⟩)), (5, .string (S ((vget ((vget l).2.1)).2.1))), (6, .int .i64 0)]) (by kernel_rfl)
        refine tn ?_
        refine wret ?_
        refine fin ha (.cell rfl (ldVN (n := 2) (vs := #[.int .u64 ((((vget l).1) / 2 : Nat) : Int), .int .u64 (((vget ((vget l).2.1)).1 : Nat) : Int)]) hB_b1 (by kernel_rfl) (by kernel_rfl) ⟨Nat.le_of_ble_eq_true (by kernel_rfl), (by kernel_rfl)⟩) (.tmp rfl (.tmp rfl .nil))) ?_
        refine ⟨?_, hx⟩
        unfold lzread
        (repeat' split) <;> first | rfl | (exfalso; omega)
theorem unpack_ok (s : List UInt8) (m : Int) (w : World) (hs : s.length ≤ 9223372036854775807) (hm : m ≤ 1000000000) :
    Fn Tryd.prog 94 #[.string (S s), .int .i64 m] w (fun x w' => x = .tuple #[.string (S ((lzUnpack s m).1)), .int .i64 (((lzUnpack s m).2 : Nat) : Int)] ∧ Ext w w') := by
  have hx : Ext w w := Ext.rfl' w
  refine enter (N := 96) (args := [.string (S s), .int .i64 m]) Tryd.func94 rfl rfl rfl ?_
  intro a ha
  simp only [argEnv, Nat.zero_add, Nat.reduceAdd] at ha
  refine wseq ?_
  refine regp (ρ' := [(0, .string (S s)), (1, .int .i64 m)]) (C := []) ha [] (by kernel_rfl) .nil ?_
  clear ha a; intro a ha
  refine tn ?_
  refine wseq ?_
  refine wblk ?_
  refine wseq ?_
  refine regp (ρ' := [(0, .string (S s)), (1, .int .i64 m), (11, .bool (decide ((m : Int) < 0)))]) (C := []) ha [] (by kernel_rfl) .nil ?_
  clear ha a; intro a ha
  refine tn ?_
  refine wif ha rfl (fun h11 => ?_) (fun h11 => ?_)
  · replace h11 := of_decide_eq_true h11
    have hres : lzUnpack s m = ([], 1) := by unfold lzUnpack; rw [if_pos h11]
    refine wseq ?_
    refine regp (ρ' := [(4, .string (S [])), (5, .int .i64 1)]) (C := []) ha [] (by kernel_rfl) .nil ?_
    clear ha a; intro a ha
    refine tn ?_
    refine wret ?_
    refine (br (tr ?_))
    refine fin ha (.tmp rfl (.tmp rfl .nil)) ?_
    exact ⟨by rw [hres]; rfl, hx⟩
  · replace h11 := of_decide_eq_false h11
    obtain ⟨M, rfl⟩ := Int.eq_ofNat_of_zero_le (by omega : 0 ≤ m)
    refine wseq ?_
    refine regp (ρ' := [(0, .string (S s)), (1, .int .i64 ((M : Nat) : Int)), (14, .bool ((decide ((s : List UInt8) = ([] : List UInt8))) || (decide ((1 : Int) < (((s.getD 0 0).toNat : Nat) : Int)))))]) (C := [(decide ((s : List UInt8) = ([] : List UInt8))) = false → All [0 ≤ (0 : Int) ∧ 0 < (s.length : Int)]]) ha [] (by kernel_rfl) (.cons (fun hg => by have hs0 : 0 < s.length := List.length_pos_iff.2 (of_decide_eq_false hg); exact .cons ⟨by omega, by omega⟩ .nil) .nil) ?_
    clear ha a; intro a ha
    refine tn ?_
    refine wif ha rfl (fun h14 => ?_) (fun h14 => ?_)
    · simp only [Bool.not_eq_true', Bool.not_eq_false', Bool.and_eq_true, Bool.or_eq_true, Bool.and_eq_false_iff, Bool.or_eq_false_iff, decide_eq_true_eq, decide_eq_false_iff_not, Bool.not_eq_true, Decidable.not_not] at h14
      have hres : lzUnpack s (M : Int) = ([], 2) := by unfold lzUnpack; rw [if_neg (by omega), if_pos (h14.elim (fun h => .inl h) (fun h => .inr (by omega)))]
      refine wseq ?_
      refine regp (ρ' := [(4, .string (S [])), (5, .int .i64 2)]) (C := []) ha [] (by kernel_rfl) .nil ?_
      clear ha a; intro a ha
      refine tn ?_
      refine wret ?_
      refine (br (tr ?_))
      refine fin ha (.tmp rfl (.tmp rfl .nil)) ?_
      exact ⟨by rw [hres]; rfl, hx⟩
    · simp only [Bool.not_eq_true', Bool.not_eq_false', Bool.and_eq_true, Bool.or_eq_true, Bool.and_eq_false_iff, Bool.or_eq_false_iff, decide_eq_true_eq, decide_eq_false_iff_not, Bool.not_eq_true, Decidable.not_not] at h14
      have hs0 : 0 < s.length := List.length_pos_iff.2 h14.1
      have hne : ¬ (s = [] ∨ 1 < (s.getD 0 0).toNat) := fun h => h.elim (fun h => h14.1 h) (fun h => h14.2 (by omega))
      refine wseq ?_
      refine regp (ρ' := [(0, .string (S s)), (1, .int .i64 ((M : Nat) : Int)), (22, .bool ((decide ((((s.getD 0 0).toNat : Nat) : Int) = 0)) && (decide (((M : Nat) : Int) < (((s.length : Nat) : Int) - 1)))))]) (C := [0 ≤ (0 : Int) ∧ 0 < (s.length : Int), (decide ((((s.getD 0 0).toNat : Nat) : Int) = 0)) = true → All [InR .i64 (((s.length : Nat) : Int) - 1)]]) ha [] (by kernel_rfl) (.cons ⟨by omega, by omega⟩ (.cons (fun hg4 => by replace hg4 := of_decide_eq_true hg4; exact (.cons (by unfold InR; omega) .nil)) .nil)) ?_
      clear ha a; intro a ha
      refine tn ?_
      refine wif ha rfl (fun h22 => ?_) (fun h22 => ?_)
      · simp only [Bool.not_eq_true', Bool.not_eq_false', Bool.and_eq_true, Bool.or_eq_true, Bool.and_eq_false_iff, Bool.or_eq_false_iff, decide_eq_true_eq, decide_eq_false_iff_not, Bool.not_eq_true, Decidable.not_not] at h22
        have hres : lzUnpack s (M : Int) = ([], 3) := by unfold lzUnpack; rw [if_neg (by omega), if_neg hne, if_pos (by omega), if_pos (by omega)]
        refine wseq ?_
        refine regp (ρ' := [(4, .string (S [])), (5, .int .i64 3)]) (C := []) ha [] (by kernel_rfl) .nil ?_
        clear ha a; intro a ha
        refine tn ?_
        refine wret ?_
        refine (br (tr ?_))
        refine fin ha (.tmp rfl (.tmp rfl .nil)) ?_
        exact ⟨by rw [hres]; rfl, hx⟩
      · simp only [Bool.not_eq_true', Bool.not_eq_false', Bool.and_eq_true, Bool.or_eq_true, Bool.and_eq_false_iff, Bool.or_eq_false_iff, decide_eq_true_eq, decide_eq_false_iff_not, Bool.not_eq_true, Decidable.not_not] at h22
        refine wseq ?_
        refine regp (ρ' := [(0, .string (S s)), (1, .int .i64 ((M : Nat) : Int)), (33, .bool (decide ((((s.getD 0 0).toNat : Nat) : Int) = 0)))]) (C := [0 ≤ (0 : Int) ∧ 0 < (s.length : Int)]) ha [] (by kernel_rfl) (.cons ⟨by omega, by omega⟩ .nil) ?_
        clear ha a; intro a ha
        refine tn ?_
        refine wif ha rfl (fun h33 => ?_) (fun h33 => ?_)
        · replace h33 := of_decide_eq_true h33
          have hres : lzUnpack s (M : Int) = (s.drop 1, 0) := by unfold lzUnpack; rw [if_neg (by omega), if_neg hne, if_pos (by omega), if_neg (by omega)]
          refine wseq ?_
          refine regp (ρ' := [(4, .string (S (s.drop 1))), (5, .int .i64 0)]) (C := [0 ≤ (1 : Int) ∧ 1 ≤ (s.length : Int)]) ha [] (by kernel_rfl) (.cons ⟨by omega, by omega⟩ .nil) ?_
          clear ha a; intro a ha
          refine tn ?_
          refine wret ?_
          refine (br (tr ?_))
          refine fin ha (.tmp rfl (.tmp rfl .nil)) ?_
          exact ⟨by rw [hres]; rfl, hx⟩
        · replace h33 := of_decide_eq_false h33
          have hgo : lzUnpack s (M : Int) = lzun M (s.length + 1) (s.drop 1) [] := by unfold lzUnpack; rw [if_neg (by omega), if_neg hne, if_neg (by omega)]; rfl
          refine wskip ?_
          refine bn ?_
          refine tn ?_
          refine wseq ?_
          refine regp (ρ' := [(0, .string (S s)), (1, .int .i64 ((M : Nat) : Int)), (6, .slice none 0 0)]) (C := []) ha [] (by kernel_rfl) .nil ?_
          clear ha a; intro a ha
          refine tn ?_
          refine wseq ?_
          refine wseq ?_
          refine regp (ρ' := [(0, .string (S (s.drop 1))), (1, .int .i64 ((M : Nat) : Int)), (6, .slice none 0 0)]) (C := [0 ≤ (1 : Int) ∧ 1 ≤ (s.length : Int)]) ha [] (by kernel_rfl) (.cons ⟨by omega, by omega⟩ .nil) ?_
          clear ha a; intro a ha
          refine tn ?_
          refine wblk ?_
          refine wloop (fun zz a w1 => ∃ (f : Nat) (r out : List UInt8) (A : Option Addr) (c : Nat), zz = f ∧ On 96 [(0, .string (S r)), (1, .int .i64 ((M : Nat) : Int)), (6, .slice A out.length c)] a ∧ Ext w w1 ∧ Own w1 w.heap.size 5 1 A out.length c (bys out) ∧ (r.length < f) ∧ (out.length ≤ M) ∧ (r.length ≤ s.length) ∧ (lzUnpack s (M : Int) = lzun M f r out)) _ ⟨(s.length + 1), (s.drop 1), ([] : List UInt8), none, 0, rfl, ha.sub (ρ' := [(0, .string (S (s.drop 1))), (1, .int .i64 ((M : Nat) : Int)), (6, .slice none (([] : List UInt8).length) 0)]) (by kernel_rfl), hx, own_nil _ _ _ _, by simp; omega, by simp, by simp, hgo⟩ ?_
          clear ha hx
          rintro zz a w2 ⟨f, r, out, A, c, hzz, ha, hx, ho, hf, hlen, hrl, hgo⟩
          have hsp := lzread_spec r out.length
          obtain ⟨f, rfl⟩ : ∃ f', f = f' + 1 := ⟨f - 1, by omega⟩
          refine wseq ?_
          refine wseq ?_
          refine regp (ρ' := [(0, .string (S r)), (1, .int .i64 ((M : Nat) : Int)), (6, .slice A out.length c), (42, .bool (!decide ((r : List UInt8) = ([] : List UInt8))))]) (C := []) ha [] (by kernel_rfl) .nil ?_
          clear ha a; intro a ha
          refine tn ?_
          refine wif ha rfl (fun h42 => ?_) (fun h42 => ?_)
          · simp only [Bool.not_eq_true', Bool.not_eq_false', Bool.and_eq_true, Bool.or_eq_true, Bool.and_eq_false_iff, Bool.or_eq_false_iff, decide_eq_true_eq, decide_eq_false_iff_not, Bool.not_eq_true, Decidable.not_not] at h42
            unfold lzun at hgo; rw [if_neg h42] at hgo
            refine wskip ?_
            refine tn ?_
            refine wblk ?_
            refine wseq ?_
            refine reg_list ?_
            refine seg (ρ' := [(1, .int .i64 ((M : Nat) : Int)), (6, .slice A out.length c), (48, .agg #[.int .u64 (((lzread r out.length).1 : Nat) : Int), .int .u64 (((lzread r out.length).2.1 : Nat) : Int)]), (49, .string (S ((lzread r out.length).2.2.1))), (50, .int .i64 (((lzread r out.length).2.2.2 : Nat) : Int))]) (C := [CallOk Tryd.prog w2 102 #[.string (S r), .int .i64 ((out.length : Nat) : Int)] (.tuple #[.agg #[.int .u64 (((lzread r out.length).1 : Nat) : Int), .int .u64 (((lzread r out.length).2.1 : Nat) : Int)], .string (S ((lzread r out.length).2.2.1)), .int .i64 (((lzread r out.length).2.2.2 : Nat) : Int)])]) ha 8 [(3, .val (.tuple #[.agg #[.int .u64 (((lzread r out.length).1 : Nat) : Int), .int .u64 (((lzread r out.length).2.1 : Nat) : Int)], .string (S ((lzread r out.length).2.2.1)), .int .i64 (((lzread r out.length).2.2.2 : Nat) : Int)]))] (by kernel_rfl) (.cons (fun w _ => read_ok _ _ w (by omega) (by omega)) .nil) ?_
            clear ha a; intro a w3 ha he
            replace hx := hx.tr he
            replace ho := ownE he ho
            clear he
            refine lnew ha rfl (by kernel_rfl) #[.int .u64 0, .int .u64 0] 150 (by kernel_rfl) ?_
            clear ha a; intro b4 w5 he hb_b4 hB_b4 a ha
            replace ho := ownE he ho
            replace hb_b4 := Nat.le_trans hx.size hb_b4
            replace hx := hx.tr he
            clear he
            refine lstore (off := 0) ha rfl rfl (by kernel_rfl) hB_b4 #[.int .u64 (((lzread r out.length).1 : Nat) : Int), .int .u64 (((lzread r out.length).2.1 : Nat) : Int)] rfl (by kernel_rfl) (by kernel_rfl) ?_
            clear ha a; intro w6 hc a ha
            replace ho := ownC hc hB_b4 rfl ho
            replace hx := hc.ext hx hb_b4
            replace hB_b4 := hc.at_; clear hc
            refine segp (ρ' := [(1, .int .i64 ((M : Nat) : Int)), (6, .slice A out.length c), (7, .pointer (some ⟨b4, 0, none⟩)), (8, .string (S ((lzread r out.length).2.2.1))), (9, .int .i64 (((lzread r out.length).2.2.2 : Nat) : Int))]) (C := []) ha 2 [] rfl (by kernel_rfl) .nil ?_
            clear ha a; intro a ha
            refine lnil ?_
            replace ha := ha.sub (ρ' := [(1, .int .i64 ((M : Nat) : Int)), (6, .slice A out.length c), (7, .pointer (some ⟨b4, 0, none⟩)), (8, .string (S ((lzread r out.length).2.2.1))), (9, .int .i64 (((lzread r out.length).2.2.2 : Nat) : Int))]) (by kernel_rfl)
            refine tn ?_
            refine wseq ?_
            refine wseq ?_
            refine regp (ρ' := [(1, .int .i64 ((M : Nat) : Int)), (6, .slice A out.length c), (7, .pointer (some ⟨b4, 0, none⟩)), (8, .string (S ((lzread r out.length).2.2.1))), (9, .int .i64 (((lzread r out.length).2.2.2 : Nat) : Int)), (52, .bool (!decide ((((lzread r out.length).2.2.2 : Nat) : Int) = 0)))]) (C := []) ha [] (by kernel_rfl) .nil ?_
            clear ha a; intro a ha
            refine tn ?_
            refine wif ha rfl (fun h52 => ?_) (fun h52 => ?_)
            · simp only [Bool.not_eq_true', Bool.not_eq_false', Bool.and_eq_true, Bool.or_eq_true, Bool.and_eq_false_iff, Bool.or_eq_false_iff, decide_eq_true_eq, decide_eq_false_iff_not, Bool.not_eq_true, Decidable.not_not] at h52
              have hres : lzUnpack s (M : Int) = ([], (lzread r out.length).2.2.2) := by rw [hgo, if_pos (by omega)]
              refine wseq ?_
              refine regp (ρ' := [(4, .string (S [])), (5, .int .i64 (((lzread r out.length).2.2.2 : Nat) : Int))]) (C := []) ha [] (by kernel_rfl) .nil ?_
              clear ha a; intro a ha
              refine tn ?_
              refine wret ?_
              refine (tr (br (tr (br (tr ?_)))))
              refine fin ha (.tmp rfl (.tmp rfl .nil)) ?_
              exact ⟨by rw [hres]; rfl, hx⟩
            · simp only [Bool.not_eq_true', Bool.not_eq_false', Bool.and_eq_true, Bool.or_eq_true, Bool.and_eq_false_iff, Bool.or_eq_false_iff, decide_eq_true_eq, decide_eq_false_iff_not, Bool.not_eq_true, Decidable.not_not] at h52
              rw [if_neg (by omega)] at hgo
              have hsp6 := hsp.2.2.2.2.2 (by omega)
              refine wskip ?_
              refine tn ?_
              refine wseq ?_
              refine wseq ?_
              refine regp (ρ' := [(1, .int .i64 ((M : Nat) : Int)), (6, .slice A out.length c), (7, .pointer (some ⟨b4, 0, none⟩)), (8, .string (S ((lzread r out.length).2.2.1))), (61, .bool (decide ((((M : Nat) : Int) - ((out.length : Nat) : Int)) < (((lzread r out.length).1 : Nat) : Int))))]) (C := [RunOk Tryd.prog w6 (Instr.loadAt 72 (.pointer (some ⟨b4, 0, none⟩))) (.int .u64 (((lzread r out.length).1 : Nat) : Int)), InR .i64 (((M : Nat) : Int) - ((out.length : Nat) : Int)), InR .u64 (((M : Nat) : Int) - ((out.length : Nat) : Int))]) ha [(1, .val (.int .u64 (((lzread r out.length).1 : Nat) : Int)))] (by kernel_rfl) (.cons (ld1 hB_b4 (by kernel_rfl) rfl) (.cons (by unfold InR; omega) (.cons (by unfold InR; omega) .nil))) ?_
              clear ha a; intro a ha
              refine tn ?_
              refine wif ha rfl (fun h61 => ?_) (fun h61 => ?_)
              · replace h61 := of_decide_eq_true h61
                have hres : lzUnpack s (M : Int) = ([], 3) := by rw [hgo, if_pos (by omega)]
                refine wseq ?_
                refine regp (ρ' := [(4, .string (S [])), (5, .int .i64 3)]) (C := []) ha [] (by kernel_rfl) .nil ?_
                clear ha a; intro a ha
                refine tn ?_
                refine wret ?_
                refine (tr (br (tr (br (tr ?_)))))
                refine fin ha (.tmp rfl (.tmp rfl .nil)) ?_
                exact ⟨by rw [hres]; rfl, hx⟩
              · replace h61 := of_decide_eq_false h61
                rw [if_neg (by omega)] at hgo
                refine wskip ?_
                refine tn ?_
                refine wseq ?_
                refine regp (ρ' := [(0, .string (S ((lzread r out.length).2.2.1))), (1, .int .i64 ((M : Nat) : Int)), (6, .slice A out.length c), (7, .pointer (some ⟨b4, 0, none⟩)), (8, .string (S ((lzread r out.length).2.2.1)))]) (C := []) ha [] (by kernel_rfl) .nil ?_
                clear ha a; intro a ha
                refine tn ?_
                refine wseq ?_
                refine wseq ?_
                refine regp (ρ' := [(0, .string (S ((lzread r out.length).2.2.1))), (1, .int .i64 ((M : Nat) : Int)), (6, .slice A out.length c), (7, .pointer (some ⟨b4, 0, none⟩)), (8, .string (S ((lzread r out.length).2.2.1))), (65, .bool (decide ((((lzread r out.length).2.1 : Nat) : Int) = 0)))]) (C := [RunOk Tryd.prog w6 (Instr.loadAt 72 (.pointer (some ⟨b4, 1, none⟩))) (.int .u64 (((lzread r out.length).2.1 : Nat) : Int))]) ha [(1, .val (.int .u64 (((lzread r out.length).2.1 : Nat) : Int)))] (by kernel_rfl) (.cons (ld1 hB_b4 (by kernel_rfl) rfl) .nil) ?_
                clear ha a; intro a ha
                refine tn ?_
                refine wif ha rfl (fun h65 => ?_) (fun h65 => ?_)
                · replace h65 := of_decide_eq_true h65
                  rw [if_pos (by omega)] at hgo
                  have hsp7 := hsp6.2 (by omega)
                  refine wseq ?_
                  refine reg_list ?_
                  refine segp (ρ' := [(1, .int .i64 ((M : Nat) : Int)), (7, .pointer (some ⟨b4, 0, none⟩)), (8, .string (S ((lzread r out.length).2.2.1))), (66, .slice A out.length c), (70, .string (S (((lzread r out.length).2.2.1).take ((lzread r out.length).1))))]) (C := [RunOk Tryd.prog w6 (Instr.loadAt 72 (.pointer (some ⟨b4, 0, none⟩))) (.int .u64 (((lzread r out.length).1 : Nat) : Int)), 0 ≤ (((lzread r out.length).1 : Nat) : Int) ∧ (((lzread r out.length).1 : Nat) : Int) ≤ (((lzread r out.length).2.2.1).length : Int)]) ha 5 [(3, .val (.int .u64 (((lzread r out.length).1 : Nat) : Int)))] rfl (by kernel_rfl) (.cons (ld1 hB_b4 (by kernel_rfl) rfl) (.cons ⟨by omega, by omega⟩ .nil)) ?_
                  clear ha a; intro a ha
                  refine lappS (q := (((lzread r out.length).2.2.1).take ((lzread r out.length).1))) ha rfl (by kernel_rfl) rfl (by kernel_rfl) (by kernel_rfl) (by kernel_rfl) rfl ho rfl (by rw [List.length_take]; omega) hx.size ?_
                  clear ha a; intro A7 c8 w9 ho2 hg a ha
                  replace hB_b4 := keepG hg ho rfl hB_b4
                  replace hx := extG hx hg ho (Nat.le_refl _)
                  clear hg ho
                  refine segp (ρ' := [(1, .int .i64 ((M : Nat) : Int)), (6, .slice A7 (out.length + (((lzread r out.length).2.2.1).take ((lzread r out.length).1)).length) c8), (7, .pointer (some ⟨b4, 0, none⟩)), (8, .string (S ((lzread r out.length).2.2.1)))]) (C := []) ha 1 [] rfl (by kernel_rfl) .nil ?_
                  clear ha a; intro a ha
                  refine lnil ?_
                  replace ha := ha.sub (ρ' := [(1, .int .i64 ((M : Nat) : Int)), (6, .slice A7 (out.length + (((lzread r out.length).2.2.1).take ((lzread r out.length).1)).length) c8), (7, .pointer (some ⟨b4, 0, none⟩)), (8, .string (S ((lzread r out.length).2.2.1)))]) (by kernel_rfl)
                  rw [show ((bys out ++ bys (((lzread r out.length).2.2.1).take ((lzread r out.length).1))) : List Value) = bys (out ++ (lzread r out.length).2.2.1.take (lzread r out.length).1) from by simp] at ho2
                  rw [show ((out.length + (((lzread r out.length).2.2.1).take ((lzread r out.length).1)).length) : Nat) = (out ++ (lzread r out.length).2.2.1.take (lzread r out.length).1).length from by simp] at ha ho2
                  refine tn ?_
                  refine wseq ?_
                  refine regp (ρ' := [(0, .string (S (((lzread r out.length).2.2.1).drop ((lzread r out.length).1)))), (1, .int .i64 ((M : Nat) : Int)), (6, .slice A7 ((out ++ (lzread r out.length).2.2.1.take (lzread r out.length).1).length) c8)]) (C := [RunOk Tryd.prog w9 (Instr.loadAt 72 (.pointer (some ⟨b4, 0, none⟩))) (.int .u64 (((lzread r out.length).1 : Nat) : Int)), 0 ≤ (((lzread r out.length).1 : Nat) : Int) ∧ (((lzread r out.length).1 : Nat) : Int) ≤ (((lzread r out.length).2.2.1).length : Int)]) ha [(2, .val (.int .u64 (((lzread r out.length).1 : Nat) : Int)))] (by kernel_rfl) (.cons (ld1 hB_b4 (by kernel_rfl) rfl) (.cons ⟨by omega, by omega⟩ .nil)) ?_
                  clear ha a; intro a ha
                  refine tn ?_
                  refine wexit ?_
                  refine (te (be ?_))
                  exact tn ⟨f, by omega, f, ((((lzread r out.length).2.2.1).drop ((lzread r out.length).1))), (out ++ (lzread r out.length).2.2.1.take (lzread r out.length).1), A7, c8, rfl, ha.sub (ρ' := [(0, .string (S ((((lzread r out.length).2.2.1).drop ((lzread r out.length).1))))), (1, .int .i64 ((M : Nat) : Int)), (6, .slice A7 ((out ++ (lzread r out.length).2.2.1.take (lzread r out.length).1).length) c8)]) (by kernel_rfl), hx, ho2, by first | omega | (simp only [List.length_drop]; omega), by simp; omega, by first | omega | (simp only [List.length_drop]; omega), hgo⟩
                · replace h65 := of_decide_eq_false h65
                  rw [if_neg (by omega)] at hgo
                  refine wskip ?_
                  refine tn ?_
                  refine wseq ?_
                  refine regp (ρ' := [(0, .string (S ((lzread r out.length).2.2.1))), (1, .int .i64 ((M : Nat) : Int)), (6, .slice A out.length c), (7, .pointer (some ⟨b4, 0, none⟩)), (77, .int .u64 (((lzread r out.length).1 : Nat) : Int)), (78, .int .u64 0)]) (C := [RunOk Tryd.prog w6 (Instr.loadAt 72 (.pointer (some ⟨b4, 0, none⟩))) (.int .u64 (((lzread r out.length).1 : Nat) : Int))]) ha [(1, .val (.int .u64 (((lzread r out.length).1 : Nat) : Int)))] (by kernel_rfl) (.cons (ld1 hB_b4 (by kernel_rfl) rfl) .nil) ?_
                  clear ha a; intro a ha
                  refine tn ?_
                  refine wblk ?_
                  refine wloop (fun zz a w10 => ∃ (k : Nat) (o2 : List UInt8) (A : Option Addr) (c : Nat), zz = (lzread r out.length).1 - k ∧ On 96 [(0, .string (S ((lzread r out.length).2.2.1))), (1, .int .i64 ((M : Nat) : Int)), (6, .slice A o2.length c), (7, .pointer (some ⟨b4, 0, none⟩)), (77, .int .u64 (((lzread r out.length).1 : Nat) : Int)), (78, .int .u64 ((k : Nat) : Int))] a ∧ Ext w w10 ∧ w10.heap[b4]? = some (.cells #[.int .u64 (((lzread r out.length).1 : Nat) : Int), .int .u64 (((lzread r out.length).2.1 : Nat) : Int)] 150 (0, 0)) ∧ Own w10 w.heap.size 5 1 A o2.length c (bys o2) ∧ (k ≤ (lzread r out.length).1) ∧ (o2.length = out.length + k) ∧ (cpy (lzread r out.length).2.1 ((lzread r out.length).1 - k) o2 = cpy (lzread r out.length).2.1 (lzread r out.length).1 out)) _ ⟨0, out, A, c, rfl, ha.sub (ρ' := [(0, .string (S ((lzread r out.length).2.2.1))), (1, .int .i64 ((M : Nat) : Int)), (6, .slice A out.length c), (7, .pointer (some ⟨b4, 0, none⟩)), (77, .int .u64 (((lzread r out.length).1 : Nat) : Int)), (78, .int .u64 ((0 : Nat) : Int))]) (by kernel_rfl), hx, hB_b4, ho, by omega, by omega, rfl⟩ ?_
                  clear ha hx hB_b4 ho
                  rintro zz a w11 ⟨k, o2, A, c, hzz, ha, hx, hB_b4, ho, hk, ho2, hcp⟩
                  refine wseq ?_
                  refine regp (ρ' := [(0, .string (S ((lzread r out.length).2.2.1))), (1, .int .i64 ((M : Nat) : Int)), (6, .slice A o2.length c), (7, .pointer (some ⟨b4, 0, none⟩)), (77, .int .u64 (((lzread r out.length).1 : Nat) : Int)), (78, .int .u64 ((k : Nat) : Int)), (79, .bool (decide (((k : Nat) : Int) < (((lzread r out.length).1 : Nat) : Int))))]) (C := []) ha [] (by kernel_rfl) .nil ?_
                  clear ha a; intro a ha
                  refine tn ?_
                  refine wseq ?_
                  refine wif ha rfl (fun h79 => ?_) (fun h79 => ?_)
                  · replace h79 := of_decide_eq_true h79
                    obtain ⟨g, rfl⟩ := own_some ho (by omega)
                    have hfar : (lzread r out.length).2.1 ≤ o2.length := by omega
                    refine wskip ?_
                    refine tn ?_
                    refine wseq ?_
                    refine wblk ?_
                    refine wseq ?_
                    refine regp (ρ' := [(0, .string (S ((lzread r out.length).2.2.1))), (1, .int .i64 ((M : Nat) : Int)), (6, .slice (some ⟨g, 0, none⟩) o2.length c), (7, .pointer (some ⟨b4, 0, none⟩)), (10, .int .u8 (((o2.getD (((((o2.length : Nat) : Int) - (((lzread r out.length).2.1 : Nat) : Int)) : Int).toNat) 0).toNat : Nat) : Int)), (77, .int .u64 (((lzread r out.length).1 : Nat) : Int)), (78, .int .u64 ((k : Nat) : Int))]) (C := [RunOk Tryd.prog w11 (Instr.loadAt 72 (.pointer (some ⟨b4, 1, none⟩))) (.int .u64 (((lzread r out.length).2.1 : Nat) : Int)), InR .i64 (((lzread r out.length).2.1 : Nat) : Int), InR .i64 (((o2.length : Nat) : Int) - (((lzread r out.length).2.1 : Nat) : Int)), RunOk Tryd.prog w11 (Instr.indexAt 50 (.slice (some ⟨g, 0, none⟩) o2.length c) (.int .i64 (((o2.length : Nat) : Int) - (((lzread r out.length).2.1 : Nat) : Int)))) (.pointer (some ⟨g, ((((o2.length : Nat) : Int) - (((lzread r out.length).2.1 : Nat) : Int)) : Int).toNat * 1, none⟩)), RunOk Tryd.prog w11 (Instr.loadAt 5 (.pointer (some ⟨g, ((((o2.length : Nat) : Int) - (((lzread r out.length).2.1 : Nat) : Int)) : Int).toNat * 1, none⟩))) (.int .u8 (((o2.getD (((((o2.length : Nat) : Int) - (((lzread r out.length).2.1 : Nat) : Int)) : Int).toNat) 0).toNat : Nat) : Int))]) ha [(4, .val (.int .u64 (((lzread r out.length).2.1 : Nat) : Int))), (7, .val (.pointer (some ⟨g, ((((o2.length : Nat) : Int) - (((lzread r out.length).2.1 : Nat) : Int)) : Int).toNat * 1, none⟩))), (8, .val (.int .u8 (((o2.getD (((((o2.length : Nat) : Int) - (((lzread r out.length).2.1 : Nat) : Int)) : Int).toNat) 0).toNat : Nat) : Int)))] (by kernel_rfl) (.cons (ld1 hB_b4 (by kernel_rfl) rfl) (.cons (by unfold InR; omega) (.cons (by unfold InR; omega) (.cons (idxOwnI (e := 5) (by kernel_rfl) (by kernel_rfl) ⟨by omega, by omega⟩) (.cons (ldOwn (by kernel_rfl) ho (bys_get _ _ (by omega))) .nil))))) ?_
                    clear ha a; intro a ha
                    rw [show ((((o2.getD (((((o2.length : Nat) : Int) - (((lzread r out.length).2.1 : Nat) : Int)) : Int).toNat) 0).toNat : Nat) : Int) : Int) = (((o2.getD (o2.length - (lzread r out.length).2.1) 0).toNat : Nat) : Int) from by rw [Int.toNat_sub]] at ha
                    refine tn ?_
                    refine reg_list ?_
                    refine segp (ρ' := [(0, .string (S ((lzread r out.length).2.2.1))), (1, .int .i64 ((M : Nat) : Int)), (7, .pointer (some ⟨b4, 0, none⟩)), (77, .int .u64 (((lzread r out.length).1 : Nat) : Int)), (78, .int .u64 ((k : Nat) : Int)), (89, .slice (some ⟨g, 0, none⟩) o2.length c), (90, .int .u8 (((o2.getD (o2.length - (lzread r out.length).2.1) 0).toNat : Nat) : Int))]) (C := []) ha 2 [] rfl (by kernel_rfl) .nil ?_
                    clear ha a; intro a ha
                    refine lnewS ha rfl (by kernel_rfl) #[.int .u8 (((o2.getD (o2.length - (lzread r out.length).2.1) 0).toNat : Nat) : Int)] 5 1 (by kernel_rfl) ?_
                    clear ha a; intro b12 w13 he hb_b12 hB_b12 a ha
                    have hne_b4_b12 : b4 ≠ b12 := ne_new hB_b4 hb_b12
                    have hno_ho_b12 : (Value.slice (some ⟨g, 0, none⟩) o2.length c).ownBlock ≠ some b12 := own_ne ho hb_b12
                    replace hB_b4 := keepB he hB_b4
                    replace ho := ownE he ho
                    replace hb_b12 := Nat.le_trans hx.size hb_b12
                    replace hx := hx.tr he
                    clear he
                    refine lapp (by_ := 1) ha rfl (by kernel_rfl) rfl (by kernel_rfl) rfl ho rfl [.int .u8 (((o2.getD (o2.length - (lzread r out.length).2.1) 0).toNat : Nat) : Int)] rfl (news_blk hB_b12) rfl (by omega) (by omega) hx.size ?_
                    clear ha a; intro A14 c15 w16 ho3 hg a ha
                    clear hB_b12 hb_b12
                    replace hB_b4 := keepG hg ho rfl hB_b4
                    replace hx := extG hx hg ho (Nat.le_refl _)
                    clear hg ho
                    refine segp (ρ' := [(0, .string (S ((lzread r out.length).2.2.1))), (1, .int .i64 ((M : Nat) : Int)), (6, .slice A14 (o2.length + 1) c15), (7, .pointer (some ⟨b4, 0, none⟩)), (77, .int .u64 (((lzread r out.length).1 : Nat) : Int)), (78, .int .u64 ((k : Nat) : Int))]) (C := []) ha 1 [] rfl (by kernel_rfl) .nil ?_
                    clear ha a; intro a ha
                    refine lnil ?_
                    replace ha := ha.sub (ρ' := [(0, .string (S ((lzread r out.length).2.2.1))), (1, .int .i64 ((M : Nat) : Int)), (6, .slice A14 (o2.length + 1) c15), (7, .pointer (some ⟨b4, 0, none⟩)), (77, .int .u64 (((lzread r out.length).1 : Nat) : Int)), (78, .int .u64 ((k : Nat) : Int))]) (by kernel_rfl)
                    rw [show ((bys o2 ++ [.int .u8 (((o2.getD (o2.length - (lzread r out.length).2.1) 0).toNat : Nat) : Int)]) : List Value) = bys (o2 ++ [o2.getD (o2.length - (lzread r out.length).2.1) 0]) from bys_push _ _] at ho3
                    rw [show ((o2.length + 1) : Nat) = (o2 ++ [o2.getD (o2.length - (lzread r out.length).2.1) 0]).length from by simp] at ha ho3
                    refine bn ?_
                    refine tn ?_
                    refine regp (ρ' := [(0, .string (S ((lzread r out.length).2.2.1))), (1, .int .i64 ((M : Nat) : Int)), (6, .slice A14 ((o2 ++ [o2.getD (o2.length - (lzread r out.length).2.1) 0]).length) c15), (7, .pointer (some ⟨b4, 0, none⟩)), (77, .int .u64 (((lzread r out.length).1 : Nat) : Int)), (78, .int .u64 ((k + 1 : Nat) : Int))]) (C := [InR .u64 ((k + 1 : Nat) : Int)]) ha [] (by kernel_rfl) (.cons (by unfold InR; omega) .nil) ?_
                    clear ha a; intro a ha
                    exact tn ⟨(lzread r out.length).1 - ((k + 1)), by omega, (k + 1), (o2 ++ [o2.getD (o2.length - (lzread r out.length).2.1) 0]), A14, c15, rfl, ha.sub (ρ' := [(0, .string (S ((lzread r out.length).2.2.1))), (1, .int .i64 ((M : Nat) : Int)), (6, .slice A14 ((o2 ++ [o2.getD (o2.length - (lzread r out.length).2.1) 0]).length) c15), (7, .pointer (some ⟨b4, 0, none⟩)), (77, .int .u64 (((lzread r out.length).1 : Nat) : Int)), (78, .int .u64 (((k + 1) : Nat) : Int))]) (by kernel_rfl), hx, hB_b4, ho3, by omega, by simp; omega, by rw [← hcp, show (lzread r out.length).1 - k = ((lzread r out.length).1 - (k + 1)) + 1 by omega, cpy]⟩
                  · replace h79 := of_decide_eq_false h79
                    obtain rfl : k = (lzread r out.length).1 := by omega
                    simp only [Nat.sub_self, cpy] at hcp
                    rw [← hcp] at hgo
                    refine wexit ?_
                    refine (te (te (be ?_)))
                    refine bn ?_
                    exact tn ⟨f, by omega, f, ((lzread r out.length).2.2.1), o2, A, c, rfl, ha.sub (ρ' := [(0, .string (S ((lzread r out.length).2.2.1))), (1, .int .i64 ((M : Nat) : Int)), (6, .slice A o2.length c)]) (by kernel_rfl), hx, ho, by first | omega | (simp only [List.length_drop]; omega), by omega, by first | omega | (simp only [List.length_drop]; omega), hgo⟩
          · simp only [Bool.not_eq_true', Bool.not_eq_false', Bool.and_eq_true, Bool.or_eq_true, Bool.and_eq_false_iff, Bool.or_eq_false_iff, decide_eq_true_eq, decide_eq_false_iff_not, Bool.not_eq_true, Decidable.not_not] at h42
            have hres : lzUnpack s (M : Int) = (out, 0) := by rw [hgo, lzun, if_pos h42]
            refine wexit ?_
            refine (te (te (be ?_)))
            refine tn ?_
            refine wseq ?_
            refine regp (ρ' := [(4, .string (S out)), (5, .int .i64 0)]) (C := [RunOk Tryd.prog w2 (convert 50 9 (.slice A out.length c)) (.string (S out))]) ha [(1, .val (.string (S out)))] (by kernel_rfl) (.cons (cvOwn (by kernel_rfl) (by kernel_rfl) (by kernel_rfl) ho) .nil) ?_
            clear ha a; intro a ha
            refine tn ?_
            refine wret ?_
            refine fin ha (.tmp rfl (.tmp rfl .nil)) ?_
            exact ⟨by rw [hres]; rfl, hx⟩
end Go.Kn
end
section
set_option linter.unusedSimpArgs false
set_option linter.unusedVariables false
set_option maxRecDepth 100000
namespace Go.Kn
open Go.Proofs
theorem rget_ok (l : List UInt8) (w : World) (hl : l.length ≤ 9223372036854775807) :
    Fn Tryd.prog 41 #[.string (S l)] w (fun x w' => x = .tuple #[.int .u64 (((vget l).1 : Nat) : Int), .int .i64 ((vk l : Nat) : Int)] ∧ Ext w w') := by
  have hx : Ext w w := Ext.rfl' w
  refine enter (N := 64) (args := [.string (S l)]) Tryd.func41 rfl rfl rfl ?_
  intro a ha
  simp only [argEnv, Nat.zero_add, Nat.reduceAdd] at ha
  refine wseq ?_
  refine regp (ρ' := [(0, .string (S l))]) (C := []) ha [] (by kernel_rfl) .nil ?_
  clear ha a; intro a ha
  refine tn ?_
  refine wseq ?_
  refine regp (ρ' := [(0, .string (S l)), (4, .int .i64 0)]) (C := []) ha [] (by kernel_rfl) .nil ?_
  clear ha a; intro a ha
  refine tn ?_
  refine wseq ?_
  refine wblk ?_
  refine wloop (fun zz a w1 => ∃ (k : Nat), zz = 10 - k ∧ On 64 [(0, .string (S l)), (4, .int .i64 ((k : Nat) : Int))] a ∧ Ext w w1 ∧ (k ≤ l.length) ∧ (k ≤ 10) ∧ (vget l = vgo (l.drop k) k (sumv l k))) _ ⟨0, rfl, ha.sub (ρ' := [(0, .string (S l)), (4, .int .i64 ((0 : Nat) : Int))]) (by kernel_rfl), hx, by omega, by omega, rfl⟩ ?_
  clear ha hx
  rintro zz a w2 ⟨k, hzz, ha, hx, hk, hk10, hv⟩
  refine wseq ?_
  refine wseq ?_
  refine regp (ρ' := [(0, .string (S l)), (4, .int .i64 ((k : Nat) : Int)), (20, .bool (((decide (((k : Nat) : Int) < ((l.length : Nat) : Int))) && (decide (((k : Nat) : Int) < 10))) && (decide ((128 : Int) ≤ (((l.getD k 0).toNat : Nat) : Int)))))]) (C := [((decide (((k : Nat) : Int) < ((l.length : Nat) : Int))) && (decide (((k : Nat) : Int) < 10))) = true → All [0 ≤ ((k : Nat) : Int) ∧ ((k : Nat) : Int) < (l.length : Int)]]) ha [] (by kernel_rfl) (.cons (fun hg9 => by simp only [Bool.not_eq_true', Bool.not_eq_false', Bool.and_eq_true, Bool.or_eq_true, Bool.and_eq_false_iff, Bool.or_eq_false_iff, decide_eq_true_eq, decide_eq_false_iff_not, Bool.not_eq_true, Decidable.not_not] at hg9; exact (.cons ⟨by omega, by omega⟩ .nil)) .nil) ?_
  clear ha a; intro a ha
  refine tn ?_
  refine wif ha rfl (fun h20 => ?_) (fun h20 => ?_)
  · simp only [Bool.not_eq_true', Bool.not_eq_false', Bool.and_eq_true, Bool.or_eq_true, Bool.and_eq_false_iff, Bool.or_eq_false_iff, decide_eq_true_eq, decide_eq_false_iff_not, Bool.not_eq_true, Decidable.not_not] at h20
    refine wskip ?_
    refine tn ?_
    refine wblk ?_
    refine regp (ρ' := [(0, .string (S l)), (4, .int .i64 ((k + 1 : Nat) : Int))]) (C := [InR .i64 ((k + 1 : Nat) : Int)]) ha [] (by kernel_rfl) (.cons (by unfold InR; omega) .nil) ?_
    clear ha a; intro a ha
    refine bn ?_
    exact tn ⟨10 - ((k + 1)), by omega, (k + 1), rfl, ha.sub (ρ' := [(0, .string (S l)), (4, .int .i64 (((k + 1) : Nat) : Int))]) (by kernel_rfl), hx, by omega, by omega, by rw [hv, vstep (by omega) (by omega) (by omega)]; rfl⟩
  · simp only [Bool.not_eq_true', Bool.not_eq_false', Bool.and_eq_true, Bool.or_eq_true, Bool.and_eq_false_iff, Bool.or_eq_false_iff, decide_eq_true_eq, decide_eq_false_iff_not, Bool.not_eq_true, Decidable.not_not] at h20
    refine wexit ?_
    refine (te (te (be ?_)))
    refine tn ?_
    refine wseq ?_
    refine wseq ?_
    refine regp (ρ' := [(0, .string (S l)), (4, .int .i64 ((k : Nat) : Int)), (30, .bool ((decide (((l.length : Nat) : Int) ≤ ((k : Nat) : Int))) || (decide ((10 : Int) ≤ ((k : Nat) : Int)))))]) (C := []) ha [] (by kernel_rfl) .nil ?_
    clear ha a; intro a ha
    refine tn ?_
    refine wif ha rfl (fun h30 => ?_) (fun h30 => ?_)
    · simp only [Bool.not_eq_true', Bool.not_eq_false', Bool.and_eq_true, Bool.or_eq_true, Bool.and_eq_false_iff, Bool.or_eq_false_iff, decide_eq_true_eq, decide_eq_false_iff_not, Bool.not_eq_true, Decidable.not_not] at h30
      have hz : vget l = (0, [], 2) := by rw [hv, vstop (by omega)]
      refine wseq ?_
      refine regp (ρ' := [(2, .int .u64 0), (3, .int .i64 0)]) (C := []) ha [] (by kernel_rfl) .nil ?_
      clear ha a; intro a ha
      refine tn ?_
      refine wret ?_
      refine (tr ?_)
      refine fin ha (.tmp rfl (.tmp rfl .nil)) ?_
      exact ⟨by rw [hz, show vk l = 0 from (vk_zero l).2 (by rw [hz]; decide)]; rfl, hx⟩
    · simp only [Bool.not_eq_true', Bool.not_eq_false', Bool.and_eq_true, Bool.or_eq_true, Bool.and_eq_false_iff, Bool.or_eq_false_iff, decide_eq_true_eq, decide_eq_false_iff_not, Bool.not_eq_true, Decidable.not_not] at h30
      have h9 : k ≠ 9 ∨ (l.getD 9 0).toNat = (l.getD k 0).toNat := (Decidable.em (k = 9)).elim (fun h => .inr (by rw [h])) .inl
      have h128 : (l.getD k 0).toNat < 128 := by omega
      rw [vend (by omega) (by omega) h128] at hv
      refine wskip ?_
      refine tn ?_
      refine wseq ?_
      refine wseq ?_
      refine regp (ρ' := [(0, .string (S l)), (4, .int .i64 ((k : Nat) : Int)), (47, .bool (((decide (((k : Nat) : Int) = 9)) && (decide ((1 : Int) < (((l.getD 9 0).toNat : Nat) : Int)))) || ((decide ((0 : Int) < ((k : Nat) : Int))) && (decide ((((l.getD k 0).toNat : Nat) : Int) = 0)))))]) (C := [(decide (((k : Nat) : Int) = 9)) = true → All [0 ≤ (9 : Int) ∧ 9 < (l.length : Int)], ((decide (((k : Nat) : Int) = 9)) && (decide ((1 : Int) < (((l.getD 9 0).toNat : Nat) : Int)))) = false → All [(decide ((0 : Int) < ((k : Nat) : Int))) = true → All [0 ≤ ((k : Nat) : Int) ∧ ((k : Nat) : Int) < (l.length : Int)]]]) ha [] (by kernel_rfl) (.cons (fun hg3 => by replace hg3 := of_decide_eq_true hg3; exact (.cons ⟨by omega, by omega⟩ .nil)) (.cons (fun hg8 => by simp only [Bool.not_eq_true', Bool.not_eq_false', Bool.and_eq_true, Bool.or_eq_true, Bool.and_eq_false_iff, Bool.or_eq_false_iff, decide_eq_true_eq, decide_eq_false_iff_not, Bool.not_eq_true, Decidable.not_not] at hg8; exact (.cons (fun hg11 => by replace hg11 := of_decide_eq_true hg11; exact (.cons ⟨by omega, by omega⟩ .nil)) .nil)) .nil)) ?_
      clear ha a; intro a ha
      refine tn ?_
      refine wif ha rfl (fun h47 => ?_) (fun h47 => ?_)
      · simp only [Bool.not_eq_true', Bool.not_eq_false', Bool.and_eq_true, Bool.or_eq_true, Bool.and_eq_false_iff, Bool.or_eq_false_iff, decide_eq_true_eq, decide_eq_false_iff_not, Bool.not_eq_true, Decidable.not_not] at h47
        have hz : vget l = (0, [], 2) := by rw [hv, if_pos (by omega)]
        refine wseq ?_
        refine regp (ρ' := [(2, .int .u64 0), (3, .int .i64 0)]) (C := []) ha [] (by kernel_rfl) .nil ?_
        clear ha a; intro a ha
        refine tn ?_
        refine wret ?_
        refine (tr ?_)
        refine fin ha (.tmp rfl (.tmp rfl .nil)) ?_
        exact ⟨by rw [hz, show vk l = 0 from (vk_zero l).2 (by rw [hz]; decide)]; rfl, hx⟩
      · simp only [Bool.not_eq_true', Bool.not_eq_false', Bool.and_eq_true, Bool.or_eq_true, Bool.and_eq_false_iff, Bool.or_eq_false_iff, decide_eq_true_eq, decide_eq_false_iff_not, Bool.not_eq_true, Decidable.not_not] at h47
        have hv2 : vget l = (sumv l (k + 1), l.drop (k + 1), 0) := by rw [hv, if_neg (by omega)]; rfl
        have hlt : sumv l (k + 1) < 18446744073709551616 := by have := vget_lt l; rw [hv2] at this; exact this
        clear hv
        refine wskip ?_
        refine tn ?_
        refine wseq ?_
        refine regp (ρ' := [(0, .string (S l)), (4, .int .i64 ((k : Nat) : Int)), (5, .int .u64 0)]) (C := []) ha [] (by kernel_rfl) .nil ?_
        clear ha a; intro a ha
        refine tn ?_
        refine wseq ?_
        refine wseq ?_
        refine regp (ρ' := [(0, .string (S l)), (4, .int .i64 ((k : Nat) : Int)), (5, .int .u64 0), (6, .int .i64 ((k : Nat) : Int))]) (C := []) ha [] (by kernel_rfl) .nil ?_
        clear ha a; intro a ha
        refine tn ?_
        refine wblk ?_
        refine wloop (fun zz a w3 => ∃ (i n : Nat) (z : Int), zz = i ∧ On 64 [(0, .string (S l)), (4, .int .i64 ((k : Nat) : Int)), (5, .int .u64 ((n : Nat) : Int)), (6, .int .i64 z)] a ∧ Ext w w3 ∧ (z = (i : Int) - 1) ∧ (i ≤ k + 1) ∧ (sumv l (k + 1) = n * 2 ^ (7 * i) + sumv l i)) _ ⟨(k + 1), 0, ((k : Nat) : Int), rfl, ha.sub (ρ' := [(0, .string (S l)), (4, .int .i64 ((k : Nat) : Int)), (5, .int .u64 ((0 : Nat) : Int)), (6, .int .i64 ((k : Nat) : Int))]) (by kernel_rfl), hx, by omega, by omega, by simp⟩ ?_
        clear ha hx
        rintro zz a w4 ⟨i, n, z, hzz, ha, hx, hzi, hkq, hsum⟩
        refine wseq ?_
        refine wseq ?_
        refine regp (ρ' := [(0, .string (S l)), (4, .int .i64 ((k : Nat) : Int)), (5, .int .u64 ((n : Nat) : Int)), (6, .int .i64 z), (50, .bool (decide ((0 : Int) ≤ z)))]) (C := []) ha [] (by kernel_rfl) .nil ?_
        clear ha a; intro a ha
        refine tn ?_
        refine wif ha rfl (fun h50 => ?_) (fun h50 => ?_)
        · replace h50 := of_decide_eq_true h50
          obtain ⟨j, rfl⟩ : ∃ j, i = j + 1 := ⟨i - 1, by omega⟩
          obtain rfl : z = ((j : Nat) : Int) := by omega
          rw [sum_step] at hsum
          have hcb := getD_toNat_lt l j
          have hle := sum_le hsum
          refine wskip ?_
          refine tn ?_
          refine wseq ?_
          refine wblk ?_
          refine regp (ρ' := [(0, .string (S l)), (4, .int .i64 ((k : Nat) : Int)), (5, .int .u64 (((128 * n) + (((l.getD j 0).toNat) % 128) : Nat) : Int)), (6, .int .i64 ((j : Nat) : Int))]) (C := [InR .u64 ((128 * n : Nat) : Int), 0 ≤ ((j : Nat) : Int) ∧ ((j : Nat) : Int) < (l.length : Int), 0 ≤ (((l.getD j 0).toNat : Nat) : Int), 0 < (128 : Int), InR .u64 ((((l.getD j 0).toNat) % 128 : Nat) : Int), InR .u64 (((128 * n) + (((l.getD j 0).toNat) % 128) : Nat) : Int)]) ha [] (by kernel_rfl) (.cons (by unfold InR; omega) (.cons ⟨by omega, by omega⟩ (.cons (by omega) (.cons (by omega) (.cons (by unfold InR; omega) (.cons (by unfold InR; omega) .nil)))))) ?_
          clear ha a; intro a ha
          refine bn ?_
          refine tn ?_
          refine regp (ρ' := [(0, .string (S l)), (4, .int .i64 ((k : Nat) : Int)), (5, .int .u64 (((128 * n) + (((l.getD j 0).toNat) % 128) : Nat) : Int)), (6, .int .i64 (((j : Nat) : Int) - 1))]) (C := [InR .i64 (((j : Nat) : Int) - 1)]) ha [] (by kernel_rfl) (.cons (by unfold InR; omega) .nil) ?_
          clear ha a; intro a ha
          exact tn ⟨(j), by omega, j, (128 * n + (l.getD j 0).toNat % 128), (((j : Nat) : Int) - 1), rfl, ha.sub (ρ' := [(0, .string (S l)), (4, .int .i64 ((k : Nat) : Int)), (5, .int .u64 (((128 * n + (l.getD j 0).toNat % 128) : Nat) : Int)), (6, .int .i64 (((j : Nat) : Int) - 1))]) (by kernel_rfl), hx, by omega, by omega, hsum⟩
        · replace h50 := of_decide_eq_false h50
          obtain rfl : i = 0 := by omega
          simp only [Nat.mul_zero, Nat.pow_zero, Nat.mul_one, sumv, Nat.add_zero] at hsum
          refine wexit ?_
          refine (te (te (be ?_)))
          refine tn ?_
          refine wseq ?_
          refine regp (ρ' := [(2, .int .u64 ((n : Nat) : Int)), (3, .int .i64 ((k + 1 : Nat) : Int))]) (C := [InR .i64 ((k + 1 : Nat) : Int)]) ha [] (by kernel_rfl) (.cons (by unfold InR; omega) .nil) ?_
          clear ha a; intro a ha
          refine tn ?_
          refine wret ?_
          refine fin ha (.tmp rfl (.tmp rfl .nil)) ?_
          refine ⟨?_, hx⟩
          rw [hv2, ← hsum, show vk l = k + 1 from by unfold vk; rw [hv2]; simp; omega]; rfl
set_option maxHeartbeats 1000000 in
theorem runpack_ok (s : List UInt8) (m : Int) (w : World) (hs : s.length ≤ 9223372036854775807) (hm : m ≤ 1000000000) :
    Fn Tryd.prog 63 #[.string (S s), .int .i64 m] w (fun x w' => x = .tuple #[.string (S ((lzUnpack s m).1)), .int .i64 (((lzUnpack s m).2 : Nat) : Int)] ∧ Ext w w') := by
  have hx : Ext w w := Ext.rfl' w
  refine enter (N := 140) (args := [.string (S s), .int .i64 m]) Tryd.func63 rfl rfl rfl ?_
  intro a ha
  simp only [argEnv, Nat.zero_add, Nat.reduceAdd] at ha
  refine wseq ?_
  refine regp (ρ' := [(0, .string (S s)), (1, .int .i64 m)]) (C := []) ha [] (by kernel_rfl) .nil ?_
  clear ha a; intro a ha
  refine tn ?_
  refine wseq ?_
  refine wseq ?_
  refine regp (ρ' := [(0, .string (S s)), (1, .int .i64 m), (17, .bool (decide ((m : Int) < 0)))]) (C := []) ha [] (by kernel_rfl) .nil ?_
  clear ha a; intro a ha
  refine tn ?_
  refine wif ha rfl (fun h17 => ?_) (fun h17 => ?_)
  · replace h17 := of_decide_eq_true h17
    have hres : lzUnpack s m = ([], 1) := by unfold lzUnpack; rw [if_pos h17]
    refine wseq ?_
    refine regp (ρ' := [(4, .string (S [])), (5, .int .i64 1)]) (C := []) ha [] (by kernel_rfl) .nil ?_
    clear ha a; intro a ha
    refine tn ?_
    refine wret ?_
    refine (tr ?_)
    refine fin ha (.tmp rfl (.tmp rfl .nil)) ?_
    exact ⟨by rw [hres]; rfl, hx⟩
  · replace h17 := of_decide_eq_false h17
    obtain ⟨M, rfl⟩ := Int.eq_ofNat_of_zero_le (by omega : 0 ≤ m)
    refine wskip ?_
    refine tn ?_
    refine wseq ?_
    refine wseq ?_
    refine regp (ρ' := [(0, .string (S s)), (1, .int .i64 ((M : Nat) : Int)), (19, .bool (decide ((s : List UInt8) = ([] : List UInt8))))]) (C := []) ha [] (by kernel_rfl) .nil ?_
    clear ha a; intro a ha
    refine tn ?_
    refine wif ha rfl (fun h19 => ?_) (fun h19 => ?_)
    · replace h19 := of_decide_eq_true h19
      have hres : lzUnpack s (M : Int) = ([], 2) := by unfold lzUnpack; rw [if_neg (by omega), if_pos (.inl h19)]
      refine wseq ?_
      refine regp (ρ' := [(4, .string (S [])), (5, .int .i64 2)]) (C := []) ha [] (by kernel_rfl) .nil ?_
      clear ha a; intro a ha
      refine tn ?_
      refine wret ?_
      refine (tr ?_)
      refine fin ha (.tmp rfl (.tmp rfl .nil)) ?_
      exact ⟨by rw [hres]; rfl, hx⟩
    · replace h19 := of_decide_eq_false h19
      have hs0 : 0 < s.length := List.length_pos_iff.2 h19
      refine wskip ?_
      refine tn ?_
      refine wseq ?_
      refine wseq ?_
      refine regp (ρ' := [(0, .string (S s)), (1, .int .i64 ((M : Nat) : Int)), (22, .bool (decide ((1 : Int) < (((s.getD 0 0).toNat : Nat) : Int))))]) (C := [0 ≤ (0 : Int) ∧ 0 < (s.length : Int)]) ha [] (by kernel_rfl) (.cons ⟨by omega, by omega⟩ .nil) ?_
      clear ha a; intro a ha
      refine tn ?_
      refine wif ha rfl (fun h22 => ?_) (fun h22 => ?_)
      · replace h22 := of_decide_eq_true h22
        have hres : lzUnpack s (M : Int) = ([], 2) := by unfold lzUnpack; rw [if_neg (by omega), if_pos (.inr (by omega))]
        refine wseq ?_
        refine regp (ρ' := [(4, .string (S [])), (5, .int .i64 2)]) (C := []) ha [] (by kernel_rfl) .nil ?_
        clear ha a; intro a ha
        refine tn ?_
        refine wret ?_
        refine (tr ?_)
        refine fin ha (.tmp rfl (.tmp rfl .nil)) ?_
        exact ⟨by rw [hres]; rfl, hx⟩
      · replace h22 := of_decide_eq_false h22
        have hne : ¬ (s = [] ∨ 1 < (s.getD 0 0).toNat) := fun h => h.elim (fun h => h19 h) (fun h => h22 (by omega))
        refine wskip ?_
        refine tn ?_
        refine wseq ?_
        refine wseq ?_
        refine regp (ρ' := [(0, .string (S s)), (1, .int .i64 ((M : Nat) : Int)), (25, .bool (decide ((((s.getD 0 0).toNat : Nat) : Int) = 0)))]) (C := [0 ≤ (0 : Int) ∧ 0 < (s.length : Int)]) ha [] (by kernel_rfl) (.cons ⟨by omega, by omega⟩ .nil) ?_
        clear ha a; intro a ha
        refine tn ?_
        refine wif ha rfl (fun h25 => ?_) (fun h25 => ?_)
        · replace h25 := of_decide_eq_true h25
          refine wseq ?_
          refine wseq ?_
          refine regp (ρ' := [(0, .string (S s)), (30, .bool (decide (((M : Nat) : Int) < (((s.length : Nat) : Int) - 1))))]) (C := [InR .i64 (((s.length : Nat) : Int) - 1)]) ha [] (by kernel_rfl) (.cons (by unfold InR; omega) .nil) ?_
          clear ha a; intro a ha
          refine tn ?_
          refine wif ha rfl (fun h30 => ?_) (fun h30 => ?_)
          · replace h30 := of_decide_eq_true h30
            have hres : lzUnpack s (M : Int) = ([], 3) := by unfold lzUnpack; rw [if_neg (by omega), if_neg hne, if_pos (by omega), if_pos (by omega)]
            refine wseq ?_
            refine regp (ρ' := [(4, .string (S [])), (5, .int .i64 3)]) (C := []) ha [] (by kernel_rfl) .nil ?_
            clear ha a; intro a ha
            refine tn ?_
            refine wret ?_
            refine (tr (tr ?_))
            refine fin ha (.tmp rfl (.tmp rfl .nil)) ?_
            exact ⟨by rw [hres]; rfl, hx⟩
          · replace h30 := of_decide_eq_false h30
            have hres : lzUnpack s (M : Int) = (s.drop 1, 0) := by unfold lzUnpack; rw [if_neg (by omega), if_neg hne, if_pos (by omega), if_neg (by omega)]
            refine wskip ?_
            refine tn ?_
            refine wseq ?_
            refine regp (ρ' := [(4, .string (S (s.drop 1))), (5, .int .i64 0)]) (C := [0 ≤ (1 : Int) ∧ 1 ≤ (s.length : Int)]) ha [] (by kernel_rfl) (.cons ⟨by omega, by omega⟩ .nil) ?_
            clear ha a; intro a ha
            refine tn ?_
            refine wret ?_
            refine (tr ?_)
            refine fin ha (.tmp rfl (.tmp rfl .nil)) ?_
            exact ⟨by rw [hres]; rfl, hx⟩
        · replace h25 := of_decide_eq_false h25
          have hgo : lzUnpack s (M : Int) = lzun M (s.length + 1) (s.drop 1) [] := by unfold lzUnpack; rw [if_neg (by omega), if_neg hne, if_neg (by omega)]; rfl
          refine wskip ?_
          refine tn ?_
          refine wseq ?_
          refine regp (ρ' := [(0, .string (S s)), (1, .int .i64 ((M : Nat) : Int)), (6, .slice none 0 0)]) (C := []) ha [] (by kernel_rfl) .nil ?_
          clear ha a; intro a ha
          refine tn ?_
          refine wseq ?_
          refine regp (ρ' := [(0, .string (S s)), (1, .int .i64 ((M : Nat) : Int)), (6, .slice none 0 0), (7, .int .i64 1)]) (C := []) ha [] (by kernel_rfl) .nil ?_
          clear ha a; intro a ha
          refine tn ?_
          refine wseq ?_
          refine wblk ?_
          refine wloop (fun zz a w1 => ∃ (f p : Nat) (out : List UInt8) (A : Option Addr) (c : Nat), zz = f ∧ On 140 [(0, .string (S s)), (1, .int .i64 ((M : Nat) : Int)), (6, .slice A out.length c), (7, .int .i64 ((p : Nat) : Int))] a ∧ Ext w w1 ∧ Own w1 w.heap.size 5 1 A out.length c (bys out) ∧ (s.length - p < f) ∧ (p ≤ s.length) ∧ (out.length ≤ M) ∧ (lzUnpack s (M : Int) = lzun M f (s.drop p) out)) _ ⟨(s.length + 1), 1, ([] : List UInt8), none, 0, rfl, ha.sub (ρ' := [(0, .string (S s)), (1, .int .i64 ((M : Nat) : Int)), (6, .slice none (([] : List UInt8).length) 0), (7, .int .i64 ((1 : Nat) : Int))]) (by kernel_rfl), hx, own_nil _ _ _ _, by omega, by omega, by simp, hgo⟩ ?_
          clear ha hx
          rintro zz a w2 ⟨f, p, out, A, c, hzz, ha, hx, ho, hf, hp, hlen, hgo⟩
          obtain ⟨f, rfl⟩ : ∃ f', f = f' + 1 := ⟨f - 1, by omega⟩
          refine wseq ?_
          refine wseq ?_
          refine regp (ρ' := [(0, .string (S s)), (1, .int .i64 ((M : Nat) : Int)), (6, .slice A out.length c), (7, .int .i64 ((p : Nat) : Int)), (36, .bool (decide (((p : Nat) : Int) < ((s.length : Nat) : Int))))]) (C := []) ha [] (by kernel_rfl) .nil ?_
          clear ha a; intro a ha
          refine tn ?_
          refine wif ha rfl (fun h36 => ?_) (fun h36 => ?_)
          · replace h36 := of_decide_eq_true h36
            have hne2 : s.drop p ≠ [] := fun h => by have := congrArg List.length h; simp at this; omega
            rw [lzun, if_neg hne2] at hgo
            have hvl := vk_le (s.drop p)
            simp only [List.length_drop] at hvl
            have hg1 := vget_lt (s.drop p)
            refine wskip ?_
            refine tn ?_
            refine wblk ?_
            refine wseq ?_
            refine reg hmix (ρ' := [(0, .string (S s)), (1, .int .i64 ((M : Nat) : Int)), (6, .slice A out.length c), (7, .int .i64 ((p : Nat) : Int)), (8, .int .u64 (((vget (s.drop p)).1 : Nat) : Int)), (9, .int .i64 ((vk (s.drop p) : Nat) : Int))]) (C := [0 ≤ ((p : Nat) : Int) ∧ ((p : Nat) : Int) ≤ (s.length : Int), CallOk Tryd.prog w2 41 #[.string (S (s.drop p))] (.tuple #[.int .u64 (((vget (s.drop p)).1 : Nat) : Int), .int .i64 ((vk (s.drop p) : Nat) : Int)])]) ha [(3, .val (.tuple #[.int .u64 (((vget (s.drop p)).1 : Nat) : Int), .int .i64 ((vk (s.drop p) : Nat) : Int)]))] (by kernel_rfl) (.cons ⟨by omega, by omega⟩ (.cons (fun w _ => rget_ok _ w (by first | omega | (simp only [List.length_drop]; omega))) .nil)) ?_
            clear ha a; intro a w3 ha he
            replace hx := hx.tr he
            replace ho := ownE he ho
            clear he
            refine tn ?_
            refine wseq ?_
            refine wseq ?_
            refine regp (ρ' := [(0, .string (S s)), (1, .int .i64 ((M : Nat) : Int)), (6, .slice A out.length c), (7, .int .i64 ((p : Nat) : Int)), (8, .int .u64 (((vget (s.drop p)).1 : Nat) : Int)), (9, .int .i64 ((vk (s.drop p) : Nat) : Int)), (45, .bool (decide (((vk (s.drop p) : Nat) : Int) = 0)))]) (C := []) ha [] (by kernel_rfl) .nil ?_
            clear ha a; intro a ha
            refine tn ?_
            refine wif ha rfl (fun h45 => ?_) (fun h45 => ?_)
            · replace h45 := of_decide_eq_true h45
              have hres : lzUnpack s (M : Int) = ([], 2) := by rw [hgo, show (lzread (s.drop p) out.length) = (0, 0, [], 2) from by unfold lzread; rw [if_pos ((vk_zero _).1 (by omega))]]; rfl
              refine wseq ?_
              refine regp (ρ' := [(4, .string (S [])), (5, .int .i64 2)]) (C := []) ha [] (by kernel_rfl) .nil ?_
              clear ha a; intro a ha
              refine tn ?_
              refine wret ?_
              refine (tr (br (tr (br (tr ?_)))))
              refine fin ha (.tmp rfl (.tmp rfl .nil)) ?_
              exact ⟨by rw [hres]; rfl, hx⟩
            · replace h45 := of_decide_eq_false h45
              have he : (vget (s.drop p)).2.2 = 0 := Decidable.of_not_not fun h => h45 (by rw [(vk_zero _).2 h]; rfl)
              have hvd := vget_drop _ he
              have hdd : s.drop (p + vk (s.drop p)) = (vget (s.drop p)).2.1 := by rw [hvd.1, List.drop_drop]
              refine wskip ?_
              refine tn ?_
              refine wseq ?_
              refine regp (ρ' := [(0, .string (S s)), (1, .int .i64 ((M : Nat) : Int)), (6, .slice A out.length c), (7, .int .i64 ((p + (vk (s.drop p)) : Nat) : Int)), (8, .int .u64 (((vget (s.drop p)).1 : Nat) : Int))]) (C := [InR .i64 ((p + (vk (s.drop p)) : Nat) : Int)]) ha [] (by kernel_rfl) (.cons (by unfold InR; omega) .nil) ?_
              clear ha a; intro a ha
              refine tn ?_
              refine wseq ?_
              refine regp (ρ' := [(0, .string (S s)), (1, .int .i64 ((M : Nat) : Int)), (6, .slice A out.length c), (7, .int .i64 ((p + (vk (s.drop p)) : Nat) : Int)), (8, .int .u64 (((vget (s.drop p)).1 : Nat) : Int)), (10, .int .u64 ((((vget (s.drop p)).1) / 2 : Nat) : Int))]) (C := [0 ≤ (((vget (s.drop p)).1 : Nat) : Int), 0 < (2 : Int), InR .u64 ((((vget (s.drop p)).1) / 2 : Nat) : Int)]) ha [] (by kernel_rfl) (.cons (by omega) (.cons (by omega) (.cons (by unfold InR; omega) .nil))) ?_
              clear ha a; intro a ha
              refine tn ?_
              refine wseq ?_
              refine regp (ρ' := [(0, .string (S s)), (1, .int .i64 ((M : Nat) : Int)), (6, .slice A out.length c), (7, .int .i64 ((p + (vk (s.drop p)) : Nat) : Int)), (8, .int .u64 (((vget (s.drop p)).1 : Nat) : Int)), (10, .int .u64 ((((vget (s.drop p)).1) / 2 : Nat) : Int)), (11, .int .u64 0)]) (C := []) ha [] (by kernel_rfl) .nil ?_
              clear ha a; intro a ha
              refine tn ?_
              refine wcut (fun a w4 => ∃ (q far many : Nat), On 140 [(0, .string (S s)), (1, .int .i64 ((M : Nat) : Int)), (6, .slice A out.length c), (7, .int .i64 ((q : Nat) : Int)), (10, .int .u64 ((many : Nat) : Int)), (11, .int .u64 ((far : Nat) : Int))] a ∧ Ext w w4 ∧ Own w4 w.heap.size 5 1 A out.length c (bys out) ∧ (lzread (s.drop p) out.length = (many, far, s.drop q, 0)) ∧ (p < q ∧ q ≤ s.length) ∧ (many < 18446744073709551616 ∧ far ≤ out.length ∧ (far = 0 → many ≤ s.length - q))) ?_ ?_
              ·
                refine wseq ?_
                refine regp (ρ' := [(0, .string (S s)), (1, .int .i64 ((M : Nat) : Int)), (6, .slice A out.length c), (7, .int .i64 ((p + (vk (s.drop p)) : Nat) : Int)), (10, .int .u64 ((((vget (s.drop p)).1) / 2 : Nat) : Int)), (11, .int .u64 0), (53, .bool (decide (((((vget (s.drop p)).1) % 2 : Nat) : Int) = 1)))]) (C := [0 ≤ (((vget (s.drop p)).1 : Nat) : Int), 0 < (2 : Int)]) ha [] (by kernel_rfl) (.cons (by omega) (.cons (by omega) .nil)) ?_
                clear ha a; intro a ha
                refine tn ?_
                refine wif ha rfl (fun h53 => ?_) (fun h53 => ?_)
                · replace h53 := of_decide_eq_true h53
                  have hvl2 := vk_le (s.drop (p + vk (s.drop p)))
                  simp only [List.length_drop] at hvl2
                  have hg2 := vget_lt (s.drop (p + vk (s.drop p)))
                  refine wseq ?_
                  refine reg hmix (ρ' := [(0, .string (S s)), (1, .int .i64 ((M : Nat) : Int)), (6, .slice A out.length c), (7, .int .i64 ((p + (vk (s.drop p)) : Nat) : Int)), (10, .int .u64 ((((vget (s.drop p)).1) / 2 : Nat) : Int)), (12, .int .u64 (((vget (s.drop (p + (vk (s.drop p))))).1 : Nat) : Int)), (13, .int .i64 ((vk (s.drop (p + (vk (s.drop p)))) : Nat) : Int))]) (C := [0 ≤ ((p + (vk (s.drop p)) : Nat) : Int) ∧ ((p + (vk (s.drop p)) : Nat) : Int) ≤ (s.length : Int), CallOk Tryd.prog w3 41 #[.string (S (s.drop (p + (vk (s.drop p)))))] (.tuple #[.int .u64 (((vget (s.drop (p + (vk (s.drop p))))).1 : Nat) : Int), .int .i64 ((vk (s.drop (p + (vk (s.drop p)))) : Nat) : Int)])]) ha [(3, .val (.tuple #[.int .u64 (((vget (s.drop (p + (vk (s.drop p))))).1 : Nat) : Int), .int .i64 ((vk (s.drop (p + (vk (s.drop p)))) : Nat) : Int)]))] (by kernel_rfl) (.cons ⟨by omega, by omega⟩ (.cons (fun w _ => rget_ok _ w (by first | omega | (simp only [List.length_drop]; omega))) .nil)) ?_
                  clear ha a; intro a w5 ha he
                  replace hx := hx.tr he
                  replace ho := ownE he ho
                  clear he
                  refine tn ?_
                  refine wseq ?_
                  refine wseq ?_
                  refine regp (ρ' := [(0, .string (S s)), (1, .int .i64 ((M : Nat) : Int)), (6, .slice A out.length c), (7, .int .i64 ((p + (vk (s.drop p)) : Nat) : Int)), (10, .int .u64 ((((vget (s.drop p)).1) / 2 : Nat) : Int)), (12, .int .u64 (((vget (s.drop (p + (vk (s.drop p))))).1 : Nat) : Int)), (13, .int .i64 ((vk (s.drop (p + (vk (s.drop p)))) : Nat) : Int)), (81, .bool (((((decide (((vk (s.drop (p + (vk (s.drop p)))) : Nat) : Int) = 0)) || (decide (((((vget (s.drop p)).1) / 2 : Nat) : Int) < 4))) || (decide ((((vget (s.drop (p + (vk (s.drop p))))).1 : Nat) : Int) < 1))) || (decide ((65535 : Int) < (((vget (s.drop (p + (vk (s.drop p))))).1 : Nat) : Int)))) || (decide (((out.length : Nat) : Int) < (((vget (s.drop (p + (vk (s.drop p))))).1 : Nat) : Int)))))]) (C := [((((decide (((vk (s.drop (p + (vk (s.drop p)))) : Nat) : Int) = 0)) || (decide (((((vget (s.drop p)).1) / 2 : Nat) : Int) < 4))) || (decide ((((vget (s.drop (p + (vk (s.drop p))))).1 : Nat) : Int) < 1))) || (decide ((65535 : Int) < (((vget (s.drop (p + (vk (s.drop p))))).1 : Nat) : Int)))) = false → All [InR .u64 ((out.length : Nat) : Int)]]) ha [] (by kernel_rfl) (.cons (fun hg15 => by simp only [Bool.not_eq_true', Bool.not_eq_false', Bool.and_eq_true, Bool.or_eq_true, Bool.and_eq_false_iff, Bool.or_eq_false_iff, decide_eq_true_eq, decide_eq_false_iff_not, Bool.not_eq_true, Decidable.not_not] at hg15; exact (.cons (by unfold InR; omega) .nil)) .nil) ?_
                  clear ha a; intro a ha
                  refine tn ?_
                  refine wif ha rfl (fun h81 => ?_) (fun h81 => ?_)
                  · simp only [Bool.not_eq_true', Bool.not_eq_false', Bool.and_eq_true, Bool.or_eq_true, Bool.and_eq_false_iff, Bool.or_eq_false_iff, decide_eq_true_eq, decide_eq_false_iff_not, Bool.not_eq_true, Decidable.not_not] at h81
                    have hz2 := vk_zero (s.drop (p + vk (s.drop p)))
                    have hres : lzUnpack s (M : Int) = ([], 2) := by rw [hgo, show (lzread (s.drop p) out.length) = (0, 0, [], 2) from by unfold lzread; rw [if_neg (by omega), if_neg (by omega), ← hdd, if_pos (by omega)]]; rfl
                    refine wseq ?_
                    refine regp (ρ' := [(4, .string (S [])), (5, .int .i64 2)]) (C := []) ha [] (by kernel_rfl) .nil ?_
                    clear ha a; intro a ha
                    refine tn ?_
                    refine wret ?_
                    refine (tr (tr (br (tr (br (tr ?_))))))
                    refine fin ha (.tmp rfl (.tmp rfl .nil)) ?_
                    exact ⟨by rw [hres]; rfl, hx⟩
                  · simp only [Bool.not_eq_true', Bool.not_eq_false', Bool.and_eq_true, Bool.or_eq_true, Bool.and_eq_false_iff, Bool.or_eq_false_iff, decide_eq_true_eq, decide_eq_false_iff_not, Bool.not_eq_true, Decidable.not_not] at h81
                    have hz2 := vk_zero (s.drop (p + vk (s.drop p)))
                    have he2 : (vget (s.drop (p + vk (s.drop p)))).2.2 = 0 := by omega
                    have hvd2 := vget_drop _ he2
                    refine wskip ?_
                    refine tn ?_
                    refine wseq ?_
                    refine regp (ρ' := [(0, .string (S s)), (1, .int .i64 ((M : Nat) : Int)), (6, .slice A out.length c), (7, .int .i64 ((p + (vk (s.drop p)) : Nat) : Int)), (10, .int .u64 ((((vget (s.drop p)).1) / 2 : Nat) : Int)), (11, .int .u64 (((vget (s.drop (p + (vk (s.drop p))))).1 : Nat) : Int)), (13, .int .i64 ((vk (s.drop (p + (vk (s.drop p)))) : Nat) : Int))]) (C := []) ha [] (by kernel_rfl) .nil ?_
                    clear ha a; intro a ha
                    refine tn ?_
                    refine regp (ρ' := [(0, .string (S s)), (1, .int .i64 ((M : Nat) : Int)), (6, .slice A out.length c), (7, .int .i64 (((p + (vk (s.drop p))) + (vk (s.drop (p + (vk (s.drop p))))) : Nat) : Int)), (10, .int .u64 ((((vget (s.drop p)).1) / 2 : Nat) : Int)), (11, .int .u64 (((vget (s.drop (p + (vk (s.drop p))))).1 : Nat) : Int))]) (C := [InR .i64 (((p + (vk (s.drop p))) + (vk (s.drop (p + (vk (s.drop p))))) : Nat) : Int)]) ha [] (by kernel_rfl) (.cons (by unfold InR; omega) .nil) ?_
                    clear ha a; intro a ha
                    exact tn ⟨((p + (vk (s.drop p))) + (vk (s.drop (p + (vk (s.drop p)))))), ((vget (s.drop (p + (vk (s.drop p))))).1), (((vget (s.drop p)).1) / 2), ha.sub (ρ' := [(0, .string (S s)), (1, .int .i64 ((M : Nat) : Int)), (6, .slice A out.length c), (7, .int .i64 ((((p + (vk (s.drop p))) + (vk (s.drop (p + (vk (s.drop p)))))) : Nat) : Int)), (10, .int .u64 (((((vget (s.drop p)).1) / 2) : Nat) : Int)), (11, .int .u64 ((((vget (s.drop (p + (vk (s.drop p))))).1) : Nat) : Int))]) (by kernel_rfl), hx, ho, by unfold lzread; rw [if_neg (by omega), if_neg (by omega), ← hdd, if_neg (by omega), hvd2.1, List.drop_drop], ⟨by omega, by omega⟩, ⟨by omega, by omega, by omega⟩⟩
                · replace h53 := of_decide_eq_false h53
                  refine wseq ?_
                  refine regp (ρ' := [(0, .string (S s)), (1, .int .i64 ((M : Nat) : Int)), (6, .slice A out.length c), (7, .int .i64 ((p + (vk (s.drop p)) : Nat) : Int)), (10, .int .u64 ((((vget (s.drop p)).1) / 2 : Nat) : Int)), (11, .int .u64 0), (96, .bool ((decide (((((vget (s.drop p)).1) / 2 : Nat) : Int) < 1)) || (decide ((((s.length : Nat) : Int) - ((p + (vk (s.drop p)) : Nat) : Int)) < ((((vget (s.drop p)).1) / 2 : Nat) : Int)))))]) (C := [(decide (((((vget (s.drop p)).1) / 2 : Nat) : Int) < 1)) = false → All [InR .i64 (((s.length : Nat) : Int) - ((p + (vk (s.drop p)) : Nat) : Int)), InR .u64 (((s.length : Nat) : Int) - ((p + (vk (s.drop p)) : Nat) : Int))]]) ha [] (by kernel_rfl) (.cons (fun hg3 => by replace hg3 := of_decide_eq_false hg3; exact (.cons (by unfold InR; omega) (.cons (by unfold InR; omega) .nil))) .nil) ?_
                  clear ha a; intro a ha
                  refine tn ?_
                  refine wif ha rfl (fun h96 => ?_) (fun h96 => ?_)
                  · simp only [Bool.not_eq_true', Bool.not_eq_false', Bool.and_eq_true, Bool.or_eq_true, Bool.and_eq_false_iff, Bool.or_eq_false_iff, decide_eq_true_eq, decide_eq_false_iff_not, Bool.not_eq_true, Decidable.not_not] at h96
                    have hres : lzUnpack s (M : Int) = ([], 2) := by rw [hgo, show (lzread (s.drop p) out.length) = (0, 0, [], 2) from by unfold lzread; rw [if_neg (by omega), if_pos (by omega), ← hdd, List.length_drop, if_pos (by omega)]]; rfl
                    refine wseq ?_
                    refine regp (ρ' := [(4, .string (S [])), (5, .int .i64 2)]) (C := []) ha [] (by kernel_rfl) .nil ?_
                    clear ha a; intro a ha
                    refine tn ?_
                    refine wret ?_
                    refine (tr (br (tr (br (tr ?_)))))
                    refine fin ha (.tmp rfl (.tmp rfl .nil)) ?_
                    exact ⟨by rw [hres]; rfl, hx⟩
                  · simp only [Bool.not_eq_true', Bool.not_eq_false', Bool.and_eq_true, Bool.or_eq_true, Bool.and_eq_false_iff, Bool.or_eq_false_iff, decide_eq_true_eq, decide_eq_false_iff_not, Bool.not_eq_true, Decidable.not_not] at h96
                    refine wskip ?_
                    exact tn ⟨(p + (vk (s.drop p))), 0, (((vget (s.drop p)).1) / 2), ha.sub (ρ' := [(0, .string (S s)), (1, .int .i64 ((M : Nat) : Int)), (6, .slice A out.length c), (7, .int .i64 (((p + (vk (s.drop p))) : Nat) : Int)), (10, .int .u64 (((((vget (s.drop p)).1) / 2) : Nat) : Int)), (11, .int .u64 ((0 : Nat) : Int))]) (by kernel_rfl), hx, ho, by unfold lzread; rw [if_neg (by omega), if_pos (by omega), ← hdd, List.length_drop, if_neg (by omega)], ⟨by omega, by omega⟩, ⟨by omega, by omega, by omega⟩⟩
              clear ha hx ho
              rintro a w6 ⟨q, far, many, ha, hx, ho, hrd, hq, hmf⟩
              rw [hrd] at hgo
              dsimp only at hgo
              rw [if_neg (by decide)] at hgo
              refine wseq ?_
              refine wseq ?_
              refine regp (ρ' := [(0, .string (S s)), (1, .int .i64 ((M : Nat) : Int)), (6, .slice A out.length c), (7, .int .i64 ((q : Nat) : Int)), (10, .int .u64 ((many : Nat) : Int)), (11, .int .u64 ((far : Nat) : Int)), (109, .bool ((decide (((M : Nat) : Int) < ((many : Nat) : Int))) || (decide ((((M : Nat) : Int) - ((many : Nat) : Int)) < ((out.length : Nat) : Int)))))]) (C := [InR .u64 ((M : Nat) : Int), (decide (((M : Nat) : Int) < ((many : Nat) : Int))) = false → All [InR .i64 ((many : Nat) : Int), InR .i64 (((M : Nat) : Int) - ((many : Nat) : Int))]]) ha [] (by kernel_rfl) (.cons (by unfold InR; omega) (.cons (fun hg5 => by replace hg5 := of_decide_eq_false hg5; exact (.cons (by unfold InR; omega) (.cons (by unfold InR; omega) .nil))) .nil)) ?_
              clear ha a; intro a ha
              refine tn ?_
              refine wif ha rfl (fun h109 => ?_) (fun h109 => ?_)
              · simp only [Bool.not_eq_true', Bool.not_eq_false', Bool.and_eq_true, Bool.or_eq_true, Bool.and_eq_false_iff, Bool.or_eq_false_iff, decide_eq_true_eq, decide_eq_false_iff_not, Bool.not_eq_true, Decidable.not_not] at h109
                have hres : lzUnpack s (M : Int) = ([], 3) := by rw [hgo, if_pos (by omega)]
                refine wseq ?_
                refine regp (ρ' := [(4, .string (S [])), (5, .int .i64 3)]) (C := []) ha [] (by kernel_rfl) .nil ?_
                clear ha a; intro a ha
                refine tn ?_
                refine wret ?_
                refine (tr (br (tr (br (tr ?_)))))
                refine fin ha (.tmp rfl (.tmp rfl .nil)) ?_
                exact ⟨by rw [hres]; rfl, hx⟩
              · simp only [Bool.not_eq_true', Bool.not_eq_false', Bool.and_eq_true, Bool.or_eq_true, Bool.and_eq_false_iff, Bool.or_eq_false_iff, decide_eq_true_eq, decide_eq_false_iff_not, Bool.not_eq_true, Decidable.not_not] at h109
                rw [if_neg (by omega)] at hgo
                refine wskip ?_
                refine tn ?_
                refine wseq ?_
                refine regp (ρ' := [(0, .string (S s)), (1, .int .i64 ((M : Nat) : Int)), (6, .slice A out.length c), (7, .int .i64 ((q : Nat) : Int)), (10, .int .u64 ((many : Nat) : Int)), (11, .int .u64 ((far : Nat) : Int)), (14, .int .i64 0)]) (C := []) ha [] (by kernel_rfl) .nil ?_
                clear ha a; intro a ha
                refine tn ?_
                refine wblk ?_
                refine wloop (fun zz a w7 => ∃ (i p2 : Nat) (o2 : List UInt8) (A : Option Addr) (c : Nat), zz = many - i ∧ On 140 [(0, .string (S s)), (1, .int .i64 ((M : Nat) : Int)), (6, .slice A o2.length c), (7, .int .i64 ((p2 : Nat) : Int)), (10, .int .u64 ((many : Nat) : Int)), (11, .int .u64 ((far : Nat) : Int)), (14, .int .i64 ((i : Nat) : Int))] a ∧ Ext w w7 ∧ Own w7 w.heap.size 5 1 A o2.length c (bys o2) ∧ (i ≤ many) ∧ (o2.length = out.length + i) ∧ ((far = 0 ∧ p2 = q + i ∧ o2 = out ++ (s.drop q).take i) ∨ (far ≠ 0 ∧ p2 = q ∧ cpy far (many - i) o2 = cpy far many out))) _ ⟨0, q, out, A, c, rfl, ha.sub (ρ' := [(0, .string (S s)), (1, .int .i64 ((M : Nat) : Int)), (6, .slice A out.length c), (7, .int .i64 ((q : Nat) : Int)), (10, .int .u64 ((many : Nat) : Int)), (11, .int .u64 ((far : Nat) : Int)), (14, .int .i64 ((0 : Nat) : Int))]) (by kernel_rfl), hx, ho, by omega, rfl, (Decidable.em (far = 0)).elim (fun h => .inl ⟨h, rfl, by simp⟩) (fun h => .inr ⟨h, rfl, rfl⟩)⟩ ?_
                clear ha hx ho
                rintro zz a w8 ⟨i, p2, o2, A, c, hzz, ha, hx, ho, hi, hlen2, hcase⟩
                have hp2 : far = 0 ∧ p2 = q + i ∨ far ≠ 0 ∧ p2 = q := hcase.elim (fun h => .inl ⟨h.1, h.2.1⟩) (fun h => .inr ⟨h.1, h.2.1⟩)
                refine wseq ?_
                refine wseq ?_
                refine regp (ρ' := [(0, .string (S s)), (1, .int .i64 ((M : Nat) : Int)), (6, .slice A o2.length c), (7, .int .i64 ((p2 : Nat) : Int)), (10, .int .u64 ((many : Nat) : Int)), (11, .int .u64 ((far : Nat) : Int)), (14, .int .i64 ((i : Nat) : Int)), (113, .bool (decide (((i : Nat) : Int) < ((many : Nat) : Int))))]) (C := [InR .i64 ((many : Nat) : Int)]) ha [] (by kernel_rfl) (.cons (by unfold InR; omega) .nil) ?_
                clear ha a; intro a ha
                refine tn ?_
                refine wif ha rfl (fun h113 => ?_) (fun h113 => ?_)
                · replace h113 := of_decide_eq_true h113
                  refine wskip ?_
                  refine tn ?_
                  refine wseq ?_
                  refine wblk ?_
                  refine wseq ?_
                  refine regp (ρ' := [(0, .string (S s)), (1, .int .i64 ((M : Nat) : Int)), (6, .slice A o2.length c), (7, .int .i64 ((p2 : Nat) : Int)), (10, .int .u64 ((many : Nat) : Int)), (11, .int .u64 ((far : Nat) : Int)), (14, .int .i64 ((i : Nat) : Int)), (117, .bool (decide (((far : Nat) : Int) = 0)))]) (C := []) ha [] (by kernel_rfl) .nil ?_
                  clear ha a; intro a ha
                  refine tn ?_
                  refine wif ha rfl (fun h117 => ?_) (fun h117 => ?_)
                  · replace h117 := of_decide_eq_true h117
                    refine wseq ?_
                    refine reg_list ?_
                    refine segp (ρ' := [(0, .string (S s)), (1, .int .i64 ((M : Nat) : Int)), (7, .int .i64 ((p2 : Nat) : Int)), (10, .int .u64 ((many : Nat) : Int)), (11, .int .u64 ((far : Nat) : Int)), (14, .int .i64 ((i : Nat) : Int)), (118, .slice A o2.length c), (121, .int .u8 (((s.getD p2 0).toNat : Nat) : Int))]) (C := [0 ≤ ((p2 : Nat) : Int) ∧ ((p2 : Nat) : Int) < (s.length : Int)]) ha 4 [] rfl (by kernel_rfl) (.cons ⟨by omega, by omega⟩ .nil) ?_
                    clear ha a; intro a ha
                    refine lnewS ha rfl (by kernel_rfl) #[.int .u8 (((s.getD p2 0).toNat : Nat) : Int)] 5 1 (by kernel_rfl) ?_
                    clear ha a; intro b9 w10 he hb_b9 hB_b9 a ha
                    have hno_ho_b9 : (Value.slice A o2.length c).ownBlock ≠ some b9 := own_ne ho hb_b9
                    replace ho := ownE he ho
                    replace hb_b9 := Nat.le_trans hx.size hb_b9
                    replace hx := hx.tr he
                    clear he
                    refine lapp (by_ := 1) ha rfl (by kernel_rfl) rfl (by kernel_rfl) rfl ho rfl [.int .u8 (((s.getD p2 0).toNat : Nat) : Int)] rfl (news_blk hB_b9) rfl (by omega) (by omega) hx.size ?_
                    clear ha a; intro A11 c12 w13 ho2 hg a ha
                    clear hB_b9 hb_b9
                    replace hx := extG hx hg ho (Nat.le_refl _)
                    clear hg ho
                    refine segp (ρ' := [(0, .string (S s)), (1, .int .i64 ((M : Nat) : Int)), (6, .slice A11 (o2.length + 1) c12), (7, .int .i64 ((p2 : Nat) : Int)), (10, .int .u64 ((many : Nat) : Int)), (11, .int .u64 ((far : Nat) : Int)), (14, .int .i64 ((i : Nat) : Int))]) (C := []) ha 1 [] rfl (by kernel_rfl) .nil ?_
                    clear ha a; intro a ha
                    refine lnil ?_
                    replace ha := ha.sub (ρ' := [(0, .string (S s)), (1, .int .i64 ((M : Nat) : Int)), (6, .slice A11 (o2.length + 1) c12), (7, .int .i64 ((p2 : Nat) : Int)), (10, .int .u64 ((many : Nat) : Int)), (11, .int .u64 ((far : Nat) : Int)), (14, .int .i64 ((i : Nat) : Int))]) (by kernel_rfl)
                    rw [show ((bys o2 ++ [.int .u8 (((s.getD p2 0).toNat : Nat) : Int)]) : List Value) = bys (o2 ++ [s.getD p2 0]) from bys_push _ _] at ho2
                    rw [show ((o2.length + 1) : Nat) = (o2 ++ [s.getD p2 0]).length from by simp] at ha ho2
                    refine tn ?_
                    refine regp (ρ' := [(0, .string (S s)), (1, .int .i64 ((M : Nat) : Int)), (6, .slice A11 ((o2 ++ [s.getD p2 0]).length) c12), (7, .int .i64 ((p2 + 1 : Nat) : Int)), (10, .int .u64 ((many : Nat) : Int)), (11, .int .u64 ((far : Nat) : Int)), (14, .int .i64 ((i : Nat) : Int))]) (C := [InR .i64 ((p2 + 1 : Nat) : Int)]) ha [] (by kernel_rfl) (.cons (by unfold InR; omega) .nil) ?_
                    clear ha a; intro a ha
                    refine bn ?_
                    refine tn ?_
                    refine regp (ρ' := [(0, .string (S s)), (1, .int .i64 ((M : Nat) : Int)), (6, .slice A11 ((o2 ++ [s.getD p2 0]).length) c12), (7, .int .i64 ((p2 + 1 : Nat) : Int)), (10, .int .u64 ((many : Nat) : Int)), (11, .int .u64 ((far : Nat) : Int)), (14, .int .i64 ((i + 1 : Nat) : Int))]) (C := [InR .i64 ((i + 1 : Nat) : Int)]) ha [] (by kernel_rfl) (.cons (by unfold InR; omega) .nil) ?_
                    clear ha a; intro a ha
                    exact tn ⟨many - ((i + 1)), by omega, (i + 1), (p2 + 1), (o2 ++ [s.getD p2 0]), A11, c12, rfl, ha.sub (ρ' := [(0, .string (S s)), (1, .int .i64 ((M : Nat) : Int)), (6, .slice A11 ((o2 ++ [s.getD p2 0]).length) c12), (7, .int .i64 (((p2 + 1) : Nat) : Int)), (10, .int .u64 ((many : Nat) : Int)), (11, .int .u64 ((far : Nat) : Int)), (14, .int .i64 (((i + 1) : Nat) : Int))]) (by kernel_rfl), hx, ho2, by omega, by simp; omega, hcase.elim (fun ⟨h1, h2, h3⟩ => .inl ⟨h1, by omega, by rw [h3, List.append_assoc, h2, take_drop_snoc _ _ _ (by omega)]⟩) (fun ⟨h1, h2, h3⟩ => absurd (by omega) h1)⟩
                  · replace h117 := of_decide_eq_false h117
                    obtain ⟨g, rfl⟩ := own_some ho (by omega)
                    refine wseq ?_
                    refine regp (ρ' := [(0, .string (S s)), (1, .int .i64 ((M : Nat) : Int)), (6, .slice (some ⟨g, 0, none⟩) o2.length c), (7, .int .i64 ((p2 : Nat) : Int)), (10, .int .u64 ((many : Nat) : Int)), (11, .int .u64 ((far : Nat) : Int)), (14, .int .i64 ((i : Nat) : Int)), (15, .int .u8 (((o2.getD (((((o2.length : Nat) : Int) - ((far : Nat) : Int)) : Int).toNat) 0).toNat : Nat) : Int))]) (C := [InR .i64 ((far : Nat) : Int), InR .i64 (((o2.length : Nat) : Int) - ((far : Nat) : Int)), RunOk Tryd.prog w8 (Instr.indexAt 50 (.slice (some ⟨g, 0, none⟩) o2.length c) (.int .i64 (((o2.length : Nat) : Int) - ((far : Nat) : Int)))) (.pointer (some ⟨g, ((((o2.length : Nat) : Int) - ((far : Nat) : Int)) : Int).toNat * 1, none⟩)), RunOk Tryd.prog w8 (Instr.loadAt 5 (.pointer (some ⟨g, ((((o2.length : Nat) : Int) - ((far : Nat) : Int)) : Int).toNat * 1, none⟩))) (.int .u8 (((o2.getD (((((o2.length : Nat) : Int) - ((far : Nat) : Int)) : Int).toNat) 0).toNat : Nat) : Int))]) ha [(6, .val (.pointer (some ⟨g, ((((o2.length : Nat) : Int) - ((far : Nat) : Int)) : Int).toNat * 1, none⟩))), (7, .val (.int .u8 (((o2.getD (((((o2.length : Nat) : Int) - ((far : Nat) : Int)) : Int).toNat) 0).toNat : Nat) : Int)))] (by kernel_rfl) (.cons (by unfold InR; omega) (.cons (by unfold InR; omega) (.cons (idxOwnI (e := 5) (by kernel_rfl) (by kernel_rfl) ⟨by omega, by omega⟩) (.cons (ldOwn (by kernel_rfl) ho (bys_get _ _ (by omega))) .nil)))) ?_
                    clear ha a; intro a ha
                    rw [show ((((o2.getD (((((o2.length : Nat) : Int) - ((far : Nat) : Int)) : Int).toNat) 0).toNat : Nat) : Int) : Int) = (((o2.getD (o2.length - far) 0).toNat : Nat) : Int) from by rw [Int.toNat_sub]] at ha
                    refine tn ?_
                    refine reg_list ?_
                    refine segp (ρ' := [(0, .string (S s)), (1, .int .i64 ((M : Nat) : Int)), (7, .int .i64 ((p2 : Nat) : Int)), (10, .int .u64 ((many : Nat) : Int)), (11, .int .u64 ((far : Nat) : Int)), (14, .int .i64 ((i : Nat) : Int)), (134, .slice (some ⟨g, 0, none⟩) o2.length c), (135, .int .u8 (((o2.getD (o2.length - far) 0).toNat : Nat) : Int))]) (C := []) ha 2 [] rfl (by kernel_rfl) .nil ?_
                    clear ha a; intro a ha
                    refine lnewS ha rfl (by kernel_rfl) #[.int .u8 (((o2.getD (o2.length - far) 0).toNat : Nat) : Int)] 5 1 (by kernel_rfl) ?_
                    clear ha a; intro b14 w15 he hb_b14 hB_b14 a ha
                    have hno_ho_b14 : (Value.slice (some ⟨g, 0, none⟩) o2.length c).ownBlock ≠ some b14 := own_ne ho hb_b14
                    replace ho := ownE he ho
                    replace hb_b14 := Nat.le_trans hx.size hb_b14
                    replace hx := hx.tr he
                    clear he
                    refine lapp (by_ := 1) ha rfl (by kernel_rfl) rfl (by kernel_rfl) rfl ho rfl [.int .u8 (((o2.getD (o2.length - far) 0).toNat : Nat) : Int)] rfl (news_blk hB_b14) rfl (by omega) (by omega) hx.size ?_
                    clear ha a; intro A16 c17 w18 ho3 hg a ha
                    clear hB_b14 hb_b14
                    replace hx := extG hx hg ho (Nat.le_refl _)
                    clear hg ho
                    refine segp (ρ' := [(0, .string (S s)), (1, .int .i64 ((M : Nat) : Int)), (6, .slice A16 (o2.length + 1) c17), (7, .int .i64 ((p2 : Nat) : Int)), (10, .int .u64 ((many : Nat) : Int)), (11, .int .u64 ((far : Nat) : Int)), (14, .int .i64 ((i : Nat) : Int))]) (C := []) ha 1 [] rfl (by kernel_rfl) .nil ?_
                    clear ha a; intro a ha
                    refine lnil ?_
                    replace ha := ha.sub (ρ' := [(0, .string (S s)), (1, .int .i64 ((M : Nat) : Int)), (6, .slice A16 (o2.length + 1) c17), (7, .int .i64 ((p2 : Nat) : Int)), (10, .int .u64 ((many : Nat) : Int)), (11, .int .u64 ((far : Nat) : Int)), (14, .int .i64 ((i : Nat) : Int))]) (by kernel_rfl)
                    rw [show ((bys o2 ++ [.int .u8 (((o2.getD (o2.length - far) 0).toNat : Nat) : Int)]) : List Value) = bys (o2 ++ [o2.getD (o2.length - far) 0]) from bys_push _ _] at ho3
                    rw [show ((o2.length + 1) : Nat) = (o2 ++ [o2.getD (o2.length - far) 0]).length from by simp] at ha ho3
                    refine bn ?_
                    refine tn ?_
                    refine regp (ρ' := [(0, .string (S s)), (1, .int .i64 ((M : Nat) : Int)), (6, .slice A16 ((o2 ++ [o2.getD (o2.length - far) 0]).length) c17), (7, .int .i64 ((p2 : Nat) : Int)), (10, .int .u64 ((many : Nat) : Int)), (11, .int .u64 ((far : Nat) : Int)), (14, .int .i64 ((i + 1 : Nat) : Int))]) (C := [InR .i64 ((i + 1 : Nat) : Int)]) ha [] (by kernel_rfl) (.cons (by unfold InR; omega) .nil) ?_
                    clear ha a; intro a ha
                    exact tn ⟨many - ((i + 1)), by omega, (i + 1), p2, (o2 ++ [o2.getD (o2.length - far) 0]), A16, c17, rfl, ha.sub (ρ' := [(0, .string (S s)), (1, .int .i64 ((M : Nat) : Int)), (6, .slice A16 ((o2 ++ [o2.getD (o2.length - far) 0]).length) c17), (7, .int .i64 ((p2 : Nat) : Int)), (10, .int .u64 ((many : Nat) : Int)), (11, .int .u64 ((far : Nat) : Int)), (14, .int .i64 (((i + 1) : Nat) : Int))]) (by kernel_rfl), hx, ho3, by omega, by simp; omega, hcase.elim (fun ⟨h1, h2, h3⟩ => absurd h1 (by omega)) (fun ⟨h1, h2, h3⟩ => .inr ⟨h1, h2, by rw [← h3, show many - i = (many - (i + 1)) + 1 by omega, cpy]⟩)⟩
                · replace h113 := of_decide_eq_false h113
                  have him : i = many := by omega
                  have hend : s.length - p2 < f ∧ p2 ≤ s.length := ⟨by omega, by omega⟩
                  rw [him] at hcase
                  have hgo2 : lzUnpack s (M : Int) = lzun M f (s.drop p2) o2 := hcase.elim (fun ⟨h1, h2, h3⟩ => by rw [hgo, if_pos h1, h2, h3, List.drop_drop]) (fun ⟨h1, h2, h3⟩ => by rw [hgo, if_neg h1, h2, ← h3, Nat.sub_self, cpy])
                  refine wexit ?_
                  refine (te (te (be ?_)))
                  refine bn ?_
                  exact tn ⟨f, by omega, f, p2, o2, A, c, rfl, ha.sub (ρ' := [(0, .string (S s)), (1, .int .i64 ((M : Nat) : Int)), (6, .slice A o2.length c), (7, .int .i64 ((p2 : Nat) : Int))]) (by kernel_rfl), hx, ho, hend.1, hend.2, by omega, hgo2⟩
          · replace h36 := of_decide_eq_false h36
            have hres : lzUnpack s (M : Int) = (out, 0) := by rw [hgo, lzun, if_pos (List.drop_of_length_le (by omega))]
            refine wexit ?_
            refine (te (te (be ?_)))
            refine tn ?_
            refine wseq ?_
            refine regp (ρ' := [(4, .string (S out)), (5, .int .i64 0)]) (C := [RunOk Tryd.prog w2 (convert 50 9 (.slice A out.length c)) (.string (S out))]) ha [(1, .val (.string (S out)))] (by kernel_rfl) (.cons (cvOwn (by kernel_rfl) (by kernel_rfl) (by kernel_rfl) ho) .nil) ?_
            clear ha a; intro a ha
            refine tn ?_
            refine wret ?_
            refine fin ha (.tmp rfl (.tmp rfl .nil)) ?_
            exact ⟨by rw [hres]; rfl, hx⟩
end Go.Kn
end
section
set_option linter.unusedSimpArgs false
set_option linter.unusedVariables false
set_option maxRecDepth 100000
namespace Go.Kn
open Go.Proofs
theorem rput_ok (n : Nat) (w : World) (hn : n < 18446744073709551616) :
    Fn Tryd.prog 37 #[.int .u64 ((n : Nat) : Int)] w (fun x w' => x = .string (S (vput n)) ∧ Ext w w') := by
  have hx : Ext w w := Ext.rfl' w
  refine enter (N := 22) (args := [.int .u64 ((n : Nat) : Int)]) Tryd.func37 rfl rfl rfl ?_
  intro a ha
  simp only [argEnv, Nat.zero_add, Nat.reduceAdd] at ha
  refine wseq ?_
  refine regp (ρ' := [(0, .int .u64 ((n : Nat) : Int))]) (C := []) ha [] (by kernel_rfl) .nil ?_
  clear ha a; intro a ha
  refine tn ?_
  refine wseq ?_
  refine regp (ρ' := [(0, .int .u64 ((n : Nat) : Int)), (3, .string (S []))]) (C := []) ha [] (by kernel_rfl) .nil ?_
  clear ha a; intro a ha
  refine tn ?_
  refine wseq ?_
  refine wblk ?_
  refine wloop (fun zz a w1 => ∃ (f m : Nat) (out : List UInt8), zz = f ∧ On 22 [(0, .int .u64 ((m : Nat) : Int)), (3, .string (S out))] a ∧ Ext w w1 ∧ (m < 2 ^ (1 + 7 * f)) ∧ (vput n = out ++ vputf f m) ∧ (out.length + f ≤ 9)) _ ⟨9, n, ([] : List UInt8), rfl, ha.sub (ρ' := [(0, .int .u64 ((n : Nat) : Int)), (3, .string (S ([] : List UInt8)))]) (by kernel_rfl), hx, by omega, rfl, by simp⟩ ?_
  clear ha hx
  rintro zz a w2 ⟨f, m, out, hzz, ha, hx, hf, hv, ho10⟩
  refine wseq ?_
  refine wseq ?_
  refine regp (ρ' := [(0, .int .u64 ((m : Nat) : Int)), (3, .string (S out)), (5, .bool (decide ((128 : Int) ≤ ((m : Nat) : Int))))]) (C := []) ha [] (by kernel_rfl) .nil ?_
  clear ha a; intro a ha
  refine tn ?_
  refine wif ha rfl (fun h5 => ?_) (fun h5 => ?_)
  · replace h5 := of_decide_eq_true h5
    have hf0 : 0 < f := Nat.pos_of_ne_zero (fun h => by subst h; simp at hf; omega)
    obtain ⟨f, rfl⟩ : ∃ f', f = f' + 1 := ⟨f - 1, by omega⟩
    have hm64 : m < 18446744073709551616 := Nat.lt_of_lt_of_le hf (Nat.pow_le_pow_right (n := 2) (by omega) (by omega : 1 + 7 * (f + 1) ≤ 64))
    refine wskip ?_
    refine tn ?_
    refine wblk ?_
    refine wseq ?_
    refine reg_list ?_
    refine segp (ρ' := [(0, .int .u64 ((m : Nat) : Int)), (6, .string (S out)), (10, .int .u8 ((128 + (m % 128) : Nat) : Int))]) (C := [0 ≤ ((m : Nat) : Int), 0 < (128 : Int), InR .u64 ((128 + (m % 128) : Nat) : Int), InR .u8 ((128 + (m % 128) : Nat) : Int)]) ha 5 [] rfl (by kernel_rfl) (.cons (by omega) (.cons (by omega) (.cons (by unfold InR; omega) (.cons (by unfold InR; omega) .nil)))) ?_
    clear ha a; intro a ha
    refine lnewS ha rfl (by kernel_rfl) #[.int .u8 ((128 + (m % 128) : Nat) : Int)] 5 1 (by kernel_rfl) ?_
    clear ha a; intro b3 w4 he hb_b3 hB_b3 a ha
    replace hb_b3 := Nat.le_trans hx.size hb_b3
    replace hx := hx.tr he
    clear he
    refine segp (ρ' := [(0, .int .u64 ((m : Nat) : Int)), (3, .string (S (out ++ [UInt8.ofNat (128 + (m % 128))])))]) (C := [RunOk Tryd.prog w4 (convert 50 9 (.slice (some ⟨b3, 0, none⟩) 1 1)) (.string (S [UInt8.ofNat (128 + (m % 128))])), (out : List UInt8).length + ([UInt8.ofNat (128 + (m % 128))] : List UInt8).length ≤ 9223372036854775807]) ha 3 [(0, .val (.string (S [UInt8.ofNat (128 + (m % 128))])))] rfl (by kernel_rfl) (.cons (cvBlk (e := 5) (zs := [((128 + (m % 128) : Nat) : Int)]) (by kernel_rfl) (by kernel_rfl) (by kernel_rfl) hB_b3 rfl rfl) (.cons (by first | omega | (simp only [List.length_cons, List.length_nil, List.length_append, List.length_take, List.length_drop]; omega)) .nil)) ?_
    clear ha a; intro a ha
    refine lnil ?_
    replace ha := ha.sub (ρ' := [(0, .int .u64 ((m : Nat) : Int)), (3, .string (S (out ++ [UInt8.ofNat (128 + (m % 128))])))]) (by kernel_rfl)
    refine tn ?_
    refine regp (ρ' := [(0, .int .u64 ((m / 128 : Nat) : Int)), (3, .string (S (out ++ [UInt8.ofNat (128 + (m % 128))])))]) (C := [0 ≤ ((m : Nat) : Int), 0 < (128 : Int), InR .u64 ((m / 128 : Nat) : Int)]) ha [] (by kernel_rfl) (.cons (by omega) (.cons (by omega) (.cons (by unfold InR; omega) .nil))) ?_
    clear ha a; intro a ha
    refine bn ?_
    exact tn ⟨f, by omega, f, (m / 128), (out ++ [UInt8.ofNat (128 + m % 128)]), rfl, ha.sub (ρ' := [(0, .int .u64 (((m / 128) : Nat) : Int)), (3, .string (S (out ++ [UInt8.ofNat (128 + m % 128)])))]) (by kernel_rfl), hx, vdiv_lt hf, by rw [hv, vputf, if_neg (by omega), List.append_assoc]; rfl, by simp; omega⟩
  · replace h5 := of_decide_eq_false h5
    have hlast : vputf f m = [UInt8.ofNat m] := by cases f with | zero => rfl | succ f => rw [vputf, if_pos (by omega)]
    rw [hlast] at hv
    refine wexit ?_
    refine (te (te (be ?_)))
    refine tn ?_
    refine wseq ?_
    refine reg_list ?_
    refine segp (ρ' := [(16, .string (S out)), (18, .int .u8 ((m : Nat) : Int))]) (C := [InR .u8 ((m : Nat) : Int)]) ha 3 [] rfl (by kernel_rfl) (.cons (by unfold InR; omega) .nil) ?_
    clear ha a; intro a ha
    refine lnewS ha rfl (by kernel_rfl) #[.int .u8 ((m : Nat) : Int)] 5 1 (by kernel_rfl) ?_
    clear ha a; intro b5 w6 he hb_b5 hB_b5 a ha
    replace hb_b5 := Nat.le_trans hx.size hb_b5
    replace hx := hx.tr he
    clear he
    refine segp (ρ' := [(2, .string (S (out ++ [UInt8.ofNat m])))]) (C := [RunOk Tryd.prog w6 (convert 50 9 (.slice (some ⟨b5, 0, none⟩) 1 1)) (.string (S [UInt8.ofNat m])), (out : List UInt8).length + ([UInt8.ofNat m] : List UInt8).length ≤ 9223372036854775807]) ha 3 [(0, .val (.string (S [UInt8.ofNat m])))] rfl (by kernel_rfl) (.cons (cvBlk (e := 5) (zs := [((m : Nat) : Int)]) (by kernel_rfl) (by kernel_rfl) (by kernel_rfl) hB_b5 rfl rfl) (.cons (by first | omega | (simp only [List.length_cons, List.length_nil, List.length_append, List.length_take, List.length_drop]; omega)) .nil)) ?_
    clear ha a; intro a ha
    refine lnil ?_
    replace ha := ha.sub (ρ' := [(2, .string (S (out ++ [UInt8.ofNat m])))]) (by kernel_rfl)
    refine tn ?_
    refine wret ?_
    refine fin ha (.tmp rfl .nil) ?_
    exact ⟨by rw [hv]; rfl, hx⟩
theorem put_ok (n : Nat) (w : World) (hn : n < 18446744073709551616) :
    Fn Tryd.prog 46 #[.int .u64 ((n : Nat) : Int)] w (fun x w' => x = .string (S (vput n)) ∧ Ext w w') := by
  have hx : Ext w w := Ext.rfl' w
  refine enter (N := 20) (args := [.int .u64 ((n : Nat) : Int)]) Tryd.func46 rfl rfl rfl ?_
  intro a ha
  simp only [argEnv, Nat.zero_add, Nat.reduceAdd] at ha
  refine wseq ?_
  refine regp (ρ' := [(0, .int .u64 ((n : Nat) : Int))]) (C := []) ha [] (by kernel_rfl) .nil ?_
  clear ha a; intro a ha
  refine tn ?_
  refine wseq ?_
  refine regp (ρ' := [(0, .int .u64 ((n : Nat) : Int)), (3, .slice none 0 0)]) (C := []) ha [] (by kernel_rfl) .nil ?_
  clear ha a; intro a ha
  refine tn ?_
  refine wseq ?_
  refine wblk ?_
  refine wloop (fun zz a w1 => ∃ (f m : Nat) (out : List UInt8) (A : Option Addr) (c : Nat), zz = f ∧ On 20 [(0, .int .u64 ((m : Nat) : Int)), (3, .slice A out.length c)] a ∧ Ext w w1 ∧ Own w1 w.heap.size 5 1 A out.length c (bys out) ∧ (m < 2 ^ (1 + 7 * f)) ∧ (vput n = out ++ vputf f m) ∧ (out.length + f ≤ 9)) _ ⟨9, n, ([] : List UInt8), none, 0, rfl, ha.sub (ρ' := [(0, .int .u64 ((n : Nat) : Int)), (3, .slice none (([] : List UInt8).length) 0)]) (by kernel_rfl), hx, own_nil _ _ _ _, by omega, rfl, by simp⟩ ?_
  clear ha hx
  rintro zz a w2 ⟨f, m, out, A, c, hzz, ha, hx, ho, hf, hv, ho10⟩
  refine wseq ?_
  refine wseq ?_
  refine regp (ρ' := [(0, .int .u64 ((m : Nat) : Int)), (3, .slice A out.length c), (5, .bool (decide ((128 : Int) ≤ ((m : Nat) : Int))))]) (C := []) ha [] (by kernel_rfl) .nil ?_
  clear ha a; intro a ha
  refine tn ?_
  refine wif ha rfl (fun h5 => ?_) (fun h5 => ?_)
  · replace h5 := of_decide_eq_true h5
    have hf0 : 0 < f := Nat.pos_of_ne_zero (fun h => by subst h; simp at hf; omega)
    obtain ⟨f, rfl⟩ : ∃ f', f = f' + 1 := ⟨f - 1, by omega⟩
    have hm64 : m < 18446744073709551616 := Nat.lt_of_lt_of_le hf (Nat.pow_le_pow_right (n := 2) (by omega) (by omega : 1 + 7 * (f + 1) ≤ 64))
    refine wskip ?_
    refine tn ?_
    refine wblk ?_
    refine wseq ?_
    refine reg_list ?_
    refine segp (ρ' := [(0, .int .u64 ((m : Nat) : Int)), (6, .slice A out.length c), (9, .int .u8 (((m % 256) ||| 128 : Nat) : Int))]) (C := [NN .u8 ((m % 256 : Nat) : Int), NN .u8 128]) ha 4 [(2, .mod)] rfl (by kernel_rfl) (.cons (by unfold NN InR; omega) (.cons (by unfold NN InR; omega) .nil)) ?_
    clear ha a; intro a ha
    refine lnewS ha rfl (by kernel_rfl) #[.int .u8 (((m % 256) ||| 128 : Nat) : Int)] 5 1 (by kernel_rfl) ?_
    clear ha a; intro b3 w4 he hb_b3 hB_b3 a ha
    have hno_ho_b3 : (Value.slice A out.length c).ownBlock ≠ some b3 := own_ne ho hb_b3
    replace ho := ownE he ho
    replace hb_b3 := Nat.le_trans hx.size hb_b3
    replace hx := hx.tr he
    clear he
    refine lapp (by_ := 1) ha rfl (by kernel_rfl) rfl (by kernel_rfl) rfl ho rfl [.int .u8 (((m % 256) ||| 128 : Nat) : Int)] rfl (news_blk hB_b3) rfl (by omega) (by omega) hx.size ?_
    clear ha a; intro A5 c6 w7 ho2 hg a ha
    clear hB_b3 hb_b3
    replace hx := extG hx hg ho (Nat.le_refl _)
    clear hg ho
    refine segp (ρ' := [(0, .int .u64 ((m : Nat) : Int)), (3, .slice A5 (out.length + 1) c6)]) (C := []) ha 1 [] rfl (by kernel_rfl) .nil ?_
    clear ha a; intro a ha
    refine lnil ?_
    replace ha := ha.sub (ρ' := [(0, .int .u64 ((m : Nat) : Int)), (3, .slice A5 (out.length + 1) c6)]) (by kernel_rfl)
    rw [show ((bys out ++ [.int .u8 (((m % 256) ||| 128 : Nat) : Int)]) : List Value) = bys (out ++ [UInt8.ofNat (128 + m % 128)]) from by rw [or128]; exact bys_pushN _ _ (by omega)] at ho2
    rw [show ((out.length + 1) : Nat) = (out ++ [UInt8.ofNat (128 + m % 128)]).length from by simp] at ha ho2
    refine tn ?_
    refine regp (ρ' := [(0, .int .u64 ((m / 128 : Nat) : Int)), (3, .slice A5 ((out ++ [UInt8.ofNat (128 + m % 128)]).length) c6)]) (C := [0 ≤ (7 : Int)]) ha [] (by kernel_rfl) (.cons (by omega) .nil) ?_
    clear ha a; intro a ha
    refine bn ?_
    exact tn ⟨f, by omega, f, (m / 128), (out ++ [UInt8.ofNat (128 + m % 128)]), A5, c6, rfl, ha.sub (ρ' := [(0, .int .u64 (((m / 128) : Nat) : Int)), (3, .slice A5 ((out ++ [UInt8.ofNat (128 + m % 128)]).length) c6)]) (by kernel_rfl), hx, ho2, vdiv_lt hf, by rw [hv, vputf, if_neg (by omega), List.append_assoc]; rfl, by simp; omega⟩
  · replace h5 := of_decide_eq_false h5
    have hlast : vputf f m = [UInt8.ofNat m] := by cases f with | zero => rfl | succ f => rw [vputf, if_pos (by omega)]
    rw [hlast] at hv
    refine wexit ?_
    refine (te (te (be ?_)))
    refine tn ?_
    refine wseq ?_
    refine reg_list ?_
    refine segp (ρ' := [(14, .slice A out.length c), (16, .int .u8 ((m % 256 : Nat) : Int))]) (C := []) ha 3 [(2, .mod)] rfl (by kernel_rfl) .nil ?_
    clear ha a; intro a ha
    refine lnewS ha rfl (by kernel_rfl) #[.int .u8 ((m % 256 : Nat) : Int)] 5 1 (by kernel_rfl) ?_
    clear ha a; intro b8 w9 he hb_b8 hB_b8 a ha
    have hno_ho_b8 : (Value.slice A out.length c).ownBlock ≠ some b8 := own_ne ho hb_b8
    replace ho := ownE he ho
    replace hb_b8 := Nat.le_trans hx.size hb_b8
    replace hx := hx.tr he
    clear he
    refine lapp (by_ := 1) ha rfl (by kernel_rfl) rfl (by kernel_rfl) rfl ho rfl [.int .u8 ((m % 256 : Nat) : Int)] rfl (news_blk hB_b8) rfl (by omega) (by omega) hx.size ?_
    clear ha a; intro A10 c11 w12 ho2 hg a ha
    clear hB_b8 hb_b8
    replace hx := extG hx hg ho (Nat.le_refl _)
    clear hg ho
    rw [show ((bys out ++ [.int .u8 ((m % 256 : Nat) : Int)]) : List Value) = bys (out ++ [UInt8.ofNat m]) from by rw [bys_pushN _ _ (by omega), ofNat_mod]] at ho2
    rw [show ((out.length + 1) : Nat) = (out ++ [UInt8.ofNat m]).length from by simp] at ha ho2
    refine segp (ρ' := [(2, .string (S (out ++ [UInt8.ofNat m])))]) (C := [RunOk Tryd.prog w12 (convert 50 9 (.slice A10 ((out ++ [UInt8.ofNat m]).length) c11)) (.string (S (out ++ [UInt8.ofNat m])))]) ha 2 [(0, .val (.string (S (out ++ [UInt8.ofNat m]))))] rfl (by kernel_rfl) (.cons (cvOwn (by kernel_rfl) (by kernel_rfl) (by kernel_rfl) ho2) .nil) ?_
    clear ha a; intro a ha
    refine lnil ?_
    replace ha := ha.sub (ρ' := [(2, .string (S (out ++ [UInt8.ofNat m])))]) (by kernel_rfl)
    refine tn ?_
    refine wret ?_
    refine fin ha (.tmp rfl .nil) ?_
    exact ⟨by rw [hv]; rfl, hx⟩
theorem put_okI (n : Int) (w : World) (h0 : 0 ≤ n) (hn : n < 18446744073709551616) : FnV Tryd.prog 46 (#[.int .u64 n]) w (.string (S (vput n.toNat))) := by
  have := put_ok n.toNat w (by omega)
  rwa [Int.toNat_of_nonneg h0] at this
theorem rput_okI (n : Int) (w : World) (h0 : 0 ≤ n) (hn : n < 18446744073709551616) : FnV Tryd.prog 37 (#[.int .u64 n]) w (.string (S (vput n.toNat))) := by
  have := rput_ok n.toNat w (by omega)
  rwa [Int.toNat_of_nonneg h0] at this
theorem text_ok (l : List UInt8) (w : World) (hl : l.length ≤ 140737488355328) :
    Fn Tryd.prog 66 #[.string (S l)] w (fun x w' => x = .string (S (vtext l)) ∧ Ext w w') := by
  have hx : Ext w w := Ext.rfl' w
  refine enter (N := 9) (args := [.string (S l)]) Tryd.func66 rfl rfl rfl ?_
  intro a ha
  simp only [argEnv, Nat.zero_add, Nat.reduceAdd] at ha
  refine wseq ?_
  refine regp (ρ' := [(0, .string (S l))]) (C := []) ha [] (by kernel_rfl) .nil ?_
  clear ha a; intro a ha
  refine tn ?_
  refine wseq ?_
  have hv := (vput_len l.length).1
  refine reg hmix (ρ' := [(2, .string (S ((vput l.length) ++ l)))]) (C := [InR .u64 ((l.length : Nat) : Int), CallOk Tryd.prog w 46 #[.int .u64 ((l.length : Nat) : Int)] (.string (S (vput l.length))), ((vput l.length) : List UInt8).length + (l : List UInt8).length ≤ 9223372036854775807]) ha [(3, .val (.string (S (vput l.length))))] (by kernel_rfl) (.cons (by unfold InR; omega) (.cons (fun w _ => put_ok _ w (by first | omega | (have := vget_lt; omega))) (.cons (by first | omega | (simp only [List.length_cons, List.length_nil, List.length_append, List.length_take, List.length_drop]; omega)) .nil))) ?_
  clear ha a; intro a w1 ha he
  replace hx := hx.tr he
  clear he
  refine tn ?_
  refine wret ?_
  refine fin ha (.tmp rfl .nil) ?_
  exact ⟨rfl, hx⟩
theorem rtext_ok (l : List UInt8) (w : World) (hl : l.length ≤ 140737488355328) :
    Fn Tryd.prog 38 #[.string (S l)] w (fun x w' => x = .string (S (vtext l)) ∧ Ext w w') := by
  have hx : Ext w w := Ext.rfl' w
  refine enter (N := 9) (args := [.string (S l)]) Tryd.func38 rfl rfl rfl ?_
  intro a ha
  simp only [argEnv, Nat.zero_add, Nat.reduceAdd] at ha
  refine wseq ?_
  refine regp (ρ' := [(0, .string (S l))]) (C := []) ha [] (by kernel_rfl) .nil ?_
  clear ha a; intro a ha
  refine tn ?_
  refine wseq ?_
  have hv := (vput_len l.length).1
  refine reg hmix (ρ' := [(2, .string (S ((vput l.length) ++ l)))]) (C := [InR .u64 ((l.length : Nat) : Int), CallOk Tryd.prog w 37 #[.int .u64 ((l.length : Nat) : Int)] (.string (S (vput l.length))), ((vput l.length) : List UInt8).length + (l : List UInt8).length ≤ 9223372036854775807]) ha [(3, .val (.string (S (vput l.length))))] (by kernel_rfl) (.cons (by unfold InR; omega) (.cons (fun w _ => rput_ok _ w (by first | omega | (have := vget_lt; omega))) (.cons (by first | omega | (simp only [List.length_cons, List.length_nil, List.length_append, List.length_take, List.length_drop]; omega)) .nil))) ?_
  clear ha a; intro a w1 ha he
  replace hx := hx.tr he
  clear he
  refine tn ?_
  refine wret ?_
  refine fin ha (.tmp rfl .nil) ?_
  exact ⟨rfl, hx⟩
end Go.Kn
end
section
set_option linter.unusedSimpArgs false
set_option linter.unusedVariables false
set_option maxRecDepth 100000
namespace Go.Kn
open Go.Proofs
end Go.Kn
end
section
set_option linter.unusedSimpArgs false
set_option linter.unusedVariables false
set_option maxRecDepth 100000
namespace Go.Kn
open Go.Proofs
theorem mkRes1 (v : Value) : mkRes [v] = v := rfl
theorem keyU32 : KeyOk (fun n : Nat => Value.int .u32 (n : Int)) (.int .u32) := ⟨fun x => by simp [Go.MapKept.IsKey], fun x y h => by injection h with _ h; omega⟩
theorem key_ok (l : List UInt8) (w : World) (hl : 4 ≤ l.length) :
    Fn Tryd.prog 82 #[.string (S l)] w (fun x w' => x = .int .u32 ((lkey l : Nat) : Int) ∧ Ext w w') := by
  have hx : Ext w w := Ext.rfl' w
  refine enter (N := 21) (args := [.string (S l)]) Tryd.func82 rfl rfl rfl ?_
  intro a ha
  simp only [argEnv, Nat.zero_add, Nat.reduceAdd] at ha
  refine wseq ?_
  refine regp (ρ' := [(0, .string (S l))]) (C := []) ha [] (by kernel_rfl) .nil ?_
  clear ha a; intro a ha
  refine tn ?_
  refine wseq ?_
  have g0 := getD_toNat_lt l 0
  have g1 := getD_toNat_lt l 1
  have g2 := getD_toNat_lt l 2
  have g3 := getD_toNat_lt l 3
  have o1 := or8 (l.getD 1 0).toNat g0
  have o2 := or16i (l.getD 2 0).toNat (show ((l.getD 0 0).toNat ||| (l.getD 1 0).toNat * 256) < 65536 by omega)
  have o3 := or24i (l.getD 3 0).toNat (show ((l.getD 0 0).toNat ||| (l.getD 1 0).toNat * 256 ||| ((((l.getD 2 0).toNat : Nat) : Int) * 2 ^ 16).toNat) < 16777216 by omega)
  have p2 := sh16 (l.getD 2 0).toNat g2
  have p3 := sh24 (l.getD 3 0).toNat g3
  refine reg hmix (ρ' := [(2, .int .u32 ((((((l.getD 0 0).toNat) ||| (((l.getD 1 0).toNat) * 256)) ||| (((((l.getD 2 0).toNat : Nat) : Int) * 2 ^ 16) : Int).toNat) ||| (((((l.getD 3 0).toNat : Nat) : Int) * 2 ^ 24) : Int).toNat : Nat) : Int))]) (C := [0 ≤ (0 : Int) ∧ 0 < (l.length : Int), InR .u32 (((l.getD 0 0).toNat : Nat) : Int), 0 ≤ (1 : Int) ∧ 1 < (l.length : Int), InR .u32 (((l.getD 1 0).toNat : Nat) : Int), 0 ≤ (8 : Int), InR .u32 ((((l.getD 1 0).toNat) * 256 : Nat) : Int), NN .u32 (((l.getD 0 0).toNat : Nat) : Int), NN .u32 ((((l.getD 1 0).toNat) * 256 : Nat) : Int), 0 ≤ (2 : Int) ∧ 2 < (l.length : Int), InR .u32 (((l.getD 2 0).toNat : Nat) : Int), 0 ≤ (16 : Int), InR .u32 ((((l.getD 2 0).toNat : Nat) : Int) * 2 ^ 16), NN .u32 ((((l.getD 0 0).toNat) ||| (((l.getD 1 0).toNat) * 256) : Nat) : Int), NN .u32 ((((l.getD 2 0).toNat : Nat) : Int) * 2 ^ 16), 0 ≤ (3 : Int) ∧ 3 < (l.length : Int), InR .u32 (((l.getD 3 0).toNat : Nat) : Int), 0 ≤ (24 : Int), InR .u32 ((((l.getD 3 0).toNat : Nat) : Int) * 2 ^ 24), NN .u32 (((((l.getD 0 0).toNat) ||| (((l.getD 1 0).toNat) * 256)) ||| (((((l.getD 2 0).toNat : Nat) : Int) * 2 ^ 16) : Int).toNat : Nat) : Int), NN .u32 ((((l.getD 3 0).toNat : Nat) : Int) * 2 ^ 24)]) ha [] (by kernel_rfl) (.cons ⟨by omega, by omega⟩ (.cons (by unfold InR; omega) (.cons ⟨by omega, by omega⟩ (.cons (by unfold InR; omega) (.cons (by omega) (.cons (by unfold InR; omega) (.cons (by first | (refine nn32 ?_; (repeat' (first | exact Wn.at_lt _ _ | exact rotr_lt _ _ | apply xor32 | apply and32 | exact mod32 _ | apply div32 | assumption | omega)); done) | (unfold NN InR; omega)) (.cons (by first | (refine nn32 ?_; (repeat' (first | exact Wn.at_lt _ _ | exact rotr_lt _ _ | apply xor32 | apply and32 | exact mod32 _ | apply div32 | assumption | omega)); done) | (unfold NN InR; omega)) (.cons ⟨by omega, by omega⟩ (.cons (by unfold InR; omega) (.cons (by omega) (.cons (by unfold InR; omega) (.cons (by first | (refine nn32 ?_; (repeat' (first | exact Wn.at_lt _ _ | exact rotr_lt _ _ | apply xor32 | apply and32 | exact mod32 _ | apply div32 | assumption | omega)); done) | (unfold NN InR; omega)) (.cons (by first | (refine nn32 ?_; (repeat' (first | exact Wn.at_lt _ _ | exact rotr_lt _ _ | apply xor32 | apply and32 | exact mod32 _ | apply div32 | assumption | omega)); done) | (unfold NN InR; omega)) (.cons ⟨by omega, by omega⟩ (.cons (by unfold InR; omega) (.cons (by omega) (.cons (by unfold InR; omega) (.cons (by first | (refine nn32 ?_; (repeat' (first | exact Wn.at_lt _ _ | exact rotr_lt _ _ | apply xor32 | apply and32 | exact mod32 _ | apply div32 | assumption | omega)); done) | (unfold NN InR; omega)) (.cons (by first | (refine nn32 ?_; (repeat' (first | exact Wn.at_lt _ _ | exact rotr_lt _ _ | apply xor32 | apply and32 | exact mod32 _ | apply div32 | assumption | omega)); done) | (unfold NN InR; omega)) .nil)))))))))))))))))))) ?_
  clear ha a; intro a w1 ha he
  replace hx := hx.tr he
  clear he
  refine tn ?_
  refine wret ?_
  refine fin ha (.tmp rfl .nil) ?_
  exact ⟨by rw [o3, o2, o1]; unfold lkey; exact mkRes1 _, hx⟩
theorem alike_ok (s : List UInt8) (p q : Nat) (w : World) (hab : p < q) (hb : q ≤ s.length) (hs : s.length ≤ 1000000) :
    Fn Tryd.prog 83 #[.string (S s), .int .i64 ((p : Nat) : Int), .int .i64 ((q : Nat) : Int)] w (fun x w' => x = .int .i64 ((lpre (s.drop p) (s.drop q) : Nat) : Int) ∧ Ext w w') := by
  have hx : Ext w w := Ext.rfl' w
  refine enter (N := 30) (args := [.string (S s), .int .i64 ((p : Nat) : Int), .int .i64 ((q : Nat) : Int)]) Tryd.func83 rfl rfl rfl ?_
  intro a ha
  simp only [argEnv, Nat.zero_add, Nat.reduceAdd] at ha
  refine wseq ?_
  refine regp (ρ' := [(0, .string (S s)), (1, .int .i64 ((p : Nat) : Int)), (2, .int .i64 ((q : Nat) : Int))]) (C := []) ha [] (by kernel_rfl) .nil ?_
  clear ha a; intro a ha
  refine tn ?_
  refine wseq ?_
  refine regp (ρ' := [(0, .string (S s)), (1, .int .i64 ((p : Nat) : Int)), (2, .int .i64 ((q : Nat) : Int)), (7, .int .i64 0)]) (C := []) ha [] (by kernel_rfl) .nil ?_
  clear ha a; intro a ha
  refine tn ?_
  refine wseq ?_
  refine wblk ?_
  refine wloop (fun zz a w1 => ∃ (n : Nat), zz = s.length - n ∧ On 30 [(0, .string (S s)), (1, .int .i64 ((p : Nat) : Int)), (2, .int .i64 ((q : Nat) : Int)), (7, .int .i64 ((n : Nat) : Int))] a ∧ Ext w w1 ∧ (q + n ≤ s.length) ∧ (lpre (s.drop p) (s.drop q) = n + lpre (s.drop (p + n)) (s.drop (q + n)))) _ ⟨0, rfl, ha.sub (ρ' := [(0, .string (S s)), (1, .int .i64 ((p : Nat) : Int)), (2, .int .i64 ((q : Nat) : Int)), (7, .int .i64 ((0 : Nat) : Int))]) (by kernel_rfl), hx, by omega, by simp⟩ ?_
  clear ha hx
  rintro zz a w2 ⟨n, hzz, ha, hx, hn, hp⟩
  refine wseq ?_
  refine wseq ?_
  refine reg hmix (ρ' := [(0, .string (S s)), (1, .int .i64 ((p : Nat) : Int)), (2, .int .i64 ((q : Nat) : Int)), (7, .int .i64 ((n : Nat) : Int)), (26, .bool ((decide (((q + n : Nat) : Int) < ((s.length : Nat) : Int))) && (decide ((((s.getD (p + n) 0).toNat : Nat) : Int) = (((s.getD (q + n) 0).toNat : Nat) : Int)))))]) (C := [InR .i64 ((q + n : Nat) : Int), (decide (((q + n : Nat) : Int) < ((s.length : Nat) : Int))) = true → All [InR .i64 ((p + n : Nat) : Int), 0 ≤ ((p + n : Nat) : Int) ∧ ((p + n : Nat) : Int) < (s.length : Int), InR .i64 ((q + n : Nat) : Int), 0 ≤ ((q + n : Nat) : Int) ∧ ((q + n : Nat) : Int) < (s.length : Int)]]) ha [] (by kernel_rfl) (.cons (by unfold InR; omega) (.cons (fun hg7 => by replace hg7 := of_decide_eq_true hg7; exact (.cons (by unfold InR; omega) (.cons ⟨by omega, by omega⟩ (.cons (by unfold InR; omega) (.cons ⟨by omega, by omega⟩ .nil))))) .nil)) ?_
  clear ha a; intro a w3 ha he
  replace hx := hx.tr he
  clear he
  refine tn ?_
  refine wif ha rfl (fun h26 => ?_) (fun h26 => ?_)
  · simp only [Bool.not_eq_true', Bool.not_eq_false', Bool.and_eq_true, Bool.or_eq_true, Bool.and_eq_false_iff, Bool.or_eq_false_iff, decide_eq_true_eq, decide_eq_false_iff_not, Bool.not_eq_true, Decidable.not_not] at h26
    refine wskip ?_
    refine tn ?_
    refine wblk ?_
    refine regp (ρ' := [(0, .string (S s)), (1, .int .i64 ((p : Nat) : Int)), (2, .int .i64 ((q : Nat) : Int)), (7, .int .i64 ((n + 1 : Nat) : Int))]) (C := [InR .i64 ((n + 1 : Nat) : Int)]) ha [] (by kernel_rfl) (.cons (by unfold InR; omega) .nil) ?_
    clear ha a; intro a ha
    refine bn ?_
    exact tn ⟨s.length - ((n + 1)), by omega, (n + 1), rfl, ha.sub (ρ' := [(0, .string (S s)), (1, .int .i64 ((p : Nat) : Int)), (2, .int .i64 ((q : Nat) : Int)), (7, .int .i64 (((n + 1) : Nat) : Int))]) (by kernel_rfl), hx, by omega, by rw [hp, lpre_go (by omega) (by omega) (u8_eq h26.2), Nat.add_assoc n, Nat.add_comm 1]; rfl⟩
  · simp only [Bool.not_eq_true', Bool.not_eq_false', Bool.and_eq_true, Bool.or_eq_true, Bool.and_eq_false_iff, Bool.or_eq_false_iff, decide_eq_true_eq, decide_eq_false_iff_not, Bool.not_eq_true, Decidable.not_not] at h26
    have hz : lpre (s.drop (p + n)) (s.drop (q + n)) = 0 := lpre_stop (h26.elim (fun h => .inl (by omega)) (fun h => .inr (u8_ne h)))
    refine wexit ?_
    refine (te (te (be ?_)))
    refine tn ?_
    refine wseq ?_
    refine regp (ρ' := [(6, .int .i64 ((n : Nat) : Int))]) (C := []) ha [] (by kernel_rfl) .nil ?_
    clear ha a; intro a ha
    refine tn ?_
    refine wret ?_
    refine fin ha (.tmp rfl .nil) ?_
    exact ⟨by rw [hp, hz]; rfl, hx⟩
theorem plain_ok (l : List UInt8) (w : World) (hl : l.length ≤ 1000000) :
    Fn Tryd.prog 84 #[.string (S l)] w (fun x w' => x = .string (S (lpl l)) ∧ Ext w w') := by
  have hx : Ext w w := Ext.rfl' w
  refine enter (N := 12) (args := [.string (S l)]) Tryd.func84 rfl rfl rfl ?_
  intro a ha
  simp only [argEnv, Nat.zero_add, Nat.reduceAdd] at ha
  refine wseq ?_
  refine regp (ρ' := [(0, .string (S l))]) (C := []) ha [] (by kernel_rfl) .nil ?_
  clear ha a; intro a ha
  refine tn ?_
  refine wseq ?_
  refine wseq ?_
  refine regp (ρ' := [(0, .string (S l)), (4, .bool (decide ((l : List UInt8) = ([] : List UInt8))))]) (C := []) ha [] (by kernel_rfl) .nil ?_
  clear ha a; intro a ha
  refine tn ?_
  refine wif ha rfl (fun h4 => ?_) (fun h4 => ?_)
  · replace h4 := of_decide_eq_true h4
    have hres : lpl l = [] := by unfold lpl; rw [if_pos h4]
    refine wseq ?_
    refine regp (ρ' := [(2, .string (S []))]) (C := []) ha [] (by kernel_rfl) .nil ?_
    clear ha a; intro a ha
    refine tn ?_
    refine wret ?_
    refine (tr ?_)
    refine fin ha (.tmp rfl .nil) ?_
    exact ⟨by rw [hres]; rfl, hx⟩
  · replace h4 := of_decide_eq_false h4
    have hres : lpl l = vput (2 * l.length) ++ l := by unfold lpl; rw [if_neg h4]
    have hv := vput_len (2 * l.length)
    refine wskip ?_
    refine tn ?_
    refine wseq ?_
    refine reg hmix (ρ' := [(2, .string (S ((vput (2 * l.length)) ++ l)))]) (C := [InR .i64 ((2 * l.length : Nat) : Int), InR .u64 ((2 * l.length : Nat) : Int), CallOk Tryd.prog w 46 #[.int .u64 ((2 * l.length : Nat) : Int)] (.string (S (vput (2 * l.length)))), ((vput (2 * l.length)) : List UInt8).length + (l : List UInt8).length ≤ 9223372036854775807]) ha [(4, .val (.string (S (vput (2 * l.length)))))] (by kernel_rfl) (.cons (by unfold InR; omega) (.cons (by unfold InR; omega) (.cons (fun w _ => put_ok _ w (by first | omega | (have := vget_lt; omega))) (.cons (by first | omega | (simp only [List.length_cons, List.length_nil, List.length_append, List.length_take, List.length_drop]; omega)) .nil)))) ?_
    clear ha a; intro a w1 ha he
    replace hx := hx.tr he
    clear he
    refine tn ?_
    refine wret ?_
    refine fin ha (.tmp rfl .nil) ?_
    exact ⟨by rw [hres]; rfl, hx⟩
theorem pack_ok (s : List UInt8) (w : World) (hs : s.length ≤ 100000) :
    Fn Tryd.prog 67 #[.string (S s)] w (fun x w' => x = .string (S (lzPack s)) ∧ Ext w w') := by
  have hx : Ext w w := Ext.rfl' w
  refine enter (N := 85) (args := [.string (S s)]) Tryd.func67 rfl rfl rfl ?_
  intro a ha
  simp only [argEnv, Nat.zero_add, Nat.reduceAdd] at ha
  refine wseq ?_
  refine regp (ρ' := [(0, .string (S s))]) (C := []) ha [] (by kernel_rfl) .nil ?_
  clear ha a; intro a ha
  refine tn ?_
  refine wseq ?_
  refine reg_list ?_
  refine lnewM (fun n : Nat => .int .u32 (n : Int)) (fun n : Nat => .int .i64 (n : Int)) ha rfl (by kernel_rfl) rfl ?_
  clear ha a; intro m w1 he hb_m hM_m a ha
  replace hb_m := Nat.le_trans hx.size hb_m
  replace hx := hx.tr he
  clear he
  refine segp (ρ' := [(0, .string (S s)), (3, .map (some m))]) (C := []) ha 1 [] rfl (by kernel_rfl) .nil ?_
  clear ha a; intro a ha
  refine lnil ?_
  replace ha := ha.sub (ρ' := [(0, .string (S s)), (3, .map (some m))]) (by kernel_rfl)
  refine tn ?_
  refine wseq ?_
  refine reg_list ?_
  refine lnewS ha rfl (by kernel_rfl) #[.int .u8 1] 5 1 (by kernel_rfl) ?_
  clear ha a; intro b2 w3 he hb_b2 hB_b2 a ha
  replace hM_m := mapE he hM_m
  replace hb_b2 := Nat.le_trans hx.size hb_b2
  replace hx := hx.tr he
  clear he
  refine segp (ρ' := [(0, .string (S s)), (3, .map (some m)), (4, .string (S [UInt8.ofNat 1]))]) (C := [RunOk Tryd.prog w3 (convert 50 9 (.slice (some ⟨b2, 0, none⟩) 1 1)) (.string (S [UInt8.ofNat 1]))]) ha 2 [(0, .val (.string (S [UInt8.ofNat 1])))] rfl (by kernel_rfl) (.cons (cvBlk (e := 5) (zs := [(1 : Int)]) (by kernel_rfl) (by kernel_rfl) (by kernel_rfl) hB_b2 rfl rfl) .nil) ?_
  clear ha a; intro a ha
  refine lnil ?_
  replace ha := ha.sub (ρ' := [(0, .string (S s)), (3, .map (some m)), (4, .string (S [UInt8.ofNat 1]))]) (by kernel_rfl)
  rw [show ([UInt8.ofNat 1] : List UInt8) = (1 :: ([] : List Tok).flatMap tenc) from rfl] at ha
  refine tn ?_
  refine wseq ?_
  refine regp (ρ' := [(0, .string (S s)), (3, .map (some m)), (4, .string (S (1 :: ([] : List Tok).flatMap tenc))), (5, .int .i64 0)]) (C := []) ha [] (by kernel_rfl) .nil ?_
  clear ha a; intro a ha
  refine tn ?_
  refine wseq ?_
  refine wseq ?_
  refine regp (ρ' := [(0, .string (S s)), (3, .map (some m)), (4, .string (S (1 :: ([] : List Tok).flatMap tenc))), (5, .int .i64 0), (6, .int .i64 0)]) (C := []) ha [] (by kernel_rfl) .nil ?_
  clear ha a; intro a ha
  refine tn ?_
  refine wblk ?_
  refine wloop (fun zz a w4 => ∃ (f i fr : Nat) (M : List (Nat × Nat)) (ts : List Tok), zz = f ∧ On 85 [(0, .string (S s)), (3, .map (some m)), (4, .string (S (1 :: ts.flatMap tenc))), (5, .int .i64 ((fr : Nat) : Int)), (6, .int .i64 ((i : Nat) : Int))] a ∧ Ext w w4 ∧ w4.heap[b2]? = some (.cells #[.int .u8 1] 5 (0, 0)) ∧ MapR (fun n : Nat => .int .u32 (n : Int)) (fun n : Nat => .int .i64 (n : Int)) w4 m M ∧ (s.length - i < f) ∧ (PkInv s M i fr ts) ∧ (lzSteps s = pkgo s f M i fr ts)) _ ⟨(s.length + 1), 0, 0, [], [], rfl, ha.sub (ρ' := [(0, .string (S s)), (3, .map (some m)), (4, .string (S (1 :: [].flatMap tenc))), (5, .int .i64 ((0 : Nat) : Int)), (6, .int .i64 ((0 : Nat) : Int))]) (by kernel_rfl), hx, hB_b2, hM_m, by omega, pk_init s, rfl⟩ ?_
  clear ha hx hB_b2 hM_m
  rintro zz a w5 ⟨f, i, fr, M, ts, hzz, ha, hx, hB_b2, hM_m, hf, inv, hgo⟩
  obtain ⟨f, rfl⟩ : ∃ f', f = f' + 1 := ⟨f - 1, by omega⟩
  have hfr := inv.fr_le
  have hile := inv.i_le
  have hlen := inv.len
  have hat := pk_at inv (lkey (s.drop i))
  refine wseq ?_
  refine wseq ?_
  refine regp (ρ' := [(0, .string (S s)), (3, .map (some m)), (4, .string (S (1 :: ts.flatMap tenc))), (5, .int .i64 ((fr : Nat) : Int)), (6, .int .i64 ((i : Nat) : Int)), (18, .bool (decide (((i + 4 : Nat) : Int) ≤ ((s.length : Nat) : Int))))]) (C := [InR .i64 ((i + 4 : Nat) : Int)]) ha [] (by kernel_rfl) (.cons (by unfold InR; omega) .nil) ?_
  clear ha a; intro a ha
  refine tn ?_
  refine wif ha rfl (fun h18 => ?_) (fun h18 => ?_)
  · replace h18 := of_decide_eq_true h18
    have h18n : i + 4 ≤ s.length := by omega
    refine wskip ?_
    refine tn ?_
    refine wblk ?_
    refine wseq ?_
    refine reg hmix (ρ' := [(0, .string (S s)), (3, .map (some m)), (4, .string (S (1 :: ts.flatMap tenc))), (5, .int .i64 ((fr : Nat) : Int)), (6, .int .i64 ((i : Nat) : Int)), (7, .int .u32 ((lkey (s.drop i) : Nat) : Int))]) (C := [0 ≤ ((i : Nat) : Int) ∧ ((i : Nat) : Int) ≤ (s.length : Int), CallOk Tryd.prog w5 82 #[.string (S (s.drop i))] (.int .u32 ((lkey (s.drop i) : Nat) : Int))]) ha [(3, .val (.int .u32 ((lkey (s.drop i) : Nat) : Int)))] (by kernel_rfl) (.cons ⟨by omega, by omega⟩ (.cons (fun w _ => key_ok _ w (by simp only [List.length_drop]; omega)) .nil)) ?_
    clear ha a; intro a w6 ha he
    replace hx := hx.tr he
    replace hB_b2 := keepB he hB_b2
    replace hM_m := mapE he hM_m
    clear he
    refine tn ?_
    refine wseq ?_
    refine regp (ρ' := [(0, .string (S s)), (3, .map (some m)), (4, .string (S (1 :: ts.flatMap tenc))), (5, .int .i64 ((fr : Nat) : Int)), (6, .int .i64 ((i : Nat) : Int)), (7, .int .u32 ((lkey (s.drop i) : Nat) : Int)), (8, .int .i64 ((((mget M (lkey (s.drop i))).getD 0) : Nat) : Int)), (9, .bool ((mget M (lkey (s.drop i))).isSome))]) (C := [RunOk Tryd.prog w6 (Instr.lookup 129 (.map (some m)) (.int .u32 ((lkey (s.drop i) : Nat) : Int)) true) (.tuple #[.int .i64 ((((mget M (lkey (s.drop i))).getD 0) : Nat) : Int), .bool ((mget M (lkey (s.drop i))).isSome)])]) ha [(2, .val (.tuple #[.int .i64 ((((mget M (lkey (s.drop i))).getD 0) : Nat) : Int), .bool ((mget M (lkey (s.drop i))).isSome)]))] (by kernel_rfl) (.cons (lkM (ek := fun n : Nat => .int .u32 (n : Int)) (ev := fun n : Nat => .int .i64 (n : Int)) (k := (lkey (s.drop i))) (z := 0) (show Tryd.prog.underlying 129 = some (.map 59 3) by kernel_rfl) (show Tryd.prog.underlying 59 = some (.int .u32) by kernel_rfl) keyU32 (show zeroB Tryd.prog 3 = some ((fun n : Nat => .int .i64 (n : Int)) 0) by kernel_rfl) hM_m) .nil) ?_
    clear ha a; intro a ha
    refine tn ?_
    refine wseq ?_
    refine reg_list ?_
    refine segp (ρ' := [(0, .string (S s)), (3, .map (some m)), (4, .string (S (1 :: ts.flatMap tenc))), (5, .int .i64 ((fr : Nat) : Int)), (6, .int .i64 ((i : Nat) : Int)), (8, .int .i64 ((((mget M (lkey (s.drop i))).getD 0) : Nat) : Int)), (9, .bool ((mget M (lkey (s.drop i))).isSome)), (29, .map (some m)), (30, .int .u32 ((lkey (s.drop i) : Nat) : Int)), (31, .int .i64 ((i : Nat) : Int))]) (C := []) ha 3 [] rfl (by kernel_rfl) .nil ?_
    clear ha a; intro a ha
    refine lmset (ek := fun n : Nat => .int .u32 (n : Int)) (ev := fun n : Nat => .int .i64 (n : Int)) (k := (lkey (s.drop i))) (v := i) ha rfl rfl (by kernel_rfl) rfl (show Tryd.prog.underlying 129 = some (.map 59 3) by kernel_rfl) (show Tryd.prog.underlying 59 = some (.int .u32) by kernel_rfl) keyU32 hM_m rfl rfl rfl ?_
    clear ha a; intro w7 ob8 hc hm' a ha
    replace hB_b2 := chgM_keep (o' := ob8) hM_m hc hB_b2
    replace hx := hc.ext hx hb_m
    clear hc; replace hM_m := hm'; clear hm'
    refine lnil ?_
    replace ha := ha.sub (ρ' := [(0, .string (S s)), (3, .map (some m)), (4, .string (S (1 :: ts.flatMap tenc))), (5, .int .i64 ((fr : Nat) : Int)), (6, .int .i64 ((i : Nat) : Int)), (8, .int .i64 ((((mget M (lkey (s.drop i))).getD 0) : Nat) : Int)), (9, .bool ((mget M (lkey (s.drop i))).isSome))]) (by kernel_rfl)
    refine tn ?_
    refine wseq ?_
    refine wseq ?_
    refine regp (ρ' := [(0, .string (S s)), (3, .map (some m)), (4, .string (S (1 :: ts.flatMap tenc))), (5, .int .i64 ((fr : Nat) : Int)), (6, .int .i64 ((i : Nat) : Int)), (8, .int .i64 ((((mget M (lkey (s.drop i))).getD 0) : Nat) : Int)), (39, .bool ((!((mget M (lkey (s.drop i))).isSome)) || (decide ((65535 : Int) < (((i : Nat) : Int) - ((((mget M (lkey (s.drop i))).getD 0) : Nat) : Int))))))]) (C := [(!((mget M (lkey (s.drop i))).isSome)) = false → All [InR .i64 (((i : Nat) : Int) - ((((mget M (lkey (s.drop i))).getD 0) : Nat) : Int))]]) ha [] (by kernel_rfl) (.cons (fun hg3 => by simp only [Bool.not_eq_true', Bool.not_eq_false', Bool.and_eq_true, Bool.or_eq_true, Bool.and_eq_false_iff, Bool.or_eq_false_iff, decide_eq_true_eq, decide_eq_false_iff_not, Bool.not_eq_true, Decidable.not_not] at hg3; exact (.cons (by unfold InR; omega) .nil)) .nil) ?_
    clear ha a; intro a ha
    refine tn ?_
    refine wif ha rfl (fun h39 => ?_) (fun h39 => ?_)
    · simp only [Bool.not_eq_true', Bool.not_eq_false', Bool.and_eq_true, Bool.or_eq_true, Bool.and_eq_false_iff, Bool.or_eq_false_iff, decide_eq_true_eq, decide_eq_false_iff_not, Bool.not_eq_true, Decidable.not_not] at h39
      refine wseq ?_
      refine regp (ρ' := [(0, .string (S s)), (3, .map (some m)), (4, .string (S (1 :: ts.flatMap tenc))), (5, .int .i64 ((fr : Nat) : Int)), (6, .int .i64 ((i + 1 : Nat) : Int))]) (C := [InR .i64 ((i + 1 : Nat) : Int)]) ha [] (by kernel_rfl) (.cons (by unfold InR; omega) .nil) ?_
      clear ha a; intro a ha
      refine tn ?_
      refine wexit ?_
      refine (te (be ?_))
      exact tn ⟨f, by omega, f, (i + 1), fr, (mset M (lkey (s.drop i)) i), ts, rfl, ha.sub (ρ' := [(0, .string (S s)), (3, .map (some m)), (4, .string (S (1 :: ts.flatMap tenc))), (5, .int .i64 ((fr : Nat) : Int)), (6, .int .i64 (((i + 1) : Nat) : Int))]) (by kernel_rfl), hx, hB_b2, hM_m, by omega, pk_step inv h18n, by rw [hgo]; exact pk_next h18n h39⟩
    · simp only [Bool.not_eq_true', Bool.not_eq_false', Bool.and_eq_true, Bool.or_eq_true, Bool.and_eq_false_iff, Bool.or_eq_false_iff, decide_eq_true_eq, decide_eq_false_iff_not, Bool.not_eq_true, Decidable.not_not] at h39
      obtain ⟨p, hp⟩ := Option.isSome_iff_exists.1 h39.1
      rw [show (((((mget M (lkey (s.drop i))).getD 0) : Nat) : Int) : Int) = ((p : Nat) : Int) from by rw [hp]; rfl] at ha h39
      obtain ⟨hp1, hp2, hp3⟩ := pk_pre inv h18n hp
      refine wskip ?_
      refine tn ?_
      refine wseq ?_
      refine reg hmix (ρ' := [(0, .string (S s)), (3, .map (some m)), (4, .string (S (1 :: ts.flatMap tenc))), (5, .int .i64 ((fr : Nat) : Int)), (6, .int .i64 ((i : Nat) : Int)), (8, .int .i64 ((p : Nat) : Int)), (10, .int .i64 ((lpre (s.drop p) (s.drop i) : Nat) : Int))]) (C := [CallOk Tryd.prog w7 83 #[.string (S s), .int .i64 ((p : Nat) : Int), .int .i64 ((i : Nat) : Int)] (.int .i64 ((lpre (s.drop p) (s.drop i) : Nat) : Int))]) ha [(3, .val (.int .i64 ((lpre (s.drop p) (s.drop i) : Nat) : Int)))] (by kernel_rfl) (.cons (fun w _ => alike_ok _ _ _ w (by omega) (by omega) (by omega)) .nil) ?_
      clear ha a; intro a w9 ha he
      replace hx := hx.tr he
      replace hB_b2 := keepB he hB_b2
      replace hM_m := mapE he hM_m
      clear he
      refine tn ?_
      refine wseq ?_
      have hq := lpl_len ((s.drop fr).take (i - fr))
      simp only [List.length_take, List.length_drop] at hq
      have hv1 := vput_len (2 * lpre (s.drop p) (s.drop i) + 1)
      have hv2 := vput_len ((i : Int) - (p : Int)).toNat
      refine reg hmix (ρ' := [(0, .string (S s)), (3, .map (some m)), (4, .string (S ((1 :: ts.flatMap tenc) ++ (((lpl ((s.drop fr).take (i - fr))) ++ (vput ((2 * (lpre (s.drop p) (s.drop i))) + 1))) ++ (vput (((((i : Nat) : Int) - ((p : Nat) : Int)) : Int).toNat)))))), (6, .int .i64 ((i : Nat) : Int)), (10, .int .i64 ((lpre (s.drop p) (s.drop i) : Nat) : Int))]) (C := [0 ≤ ((fr : Nat) : Int) ∧ ((fr : Nat) : Int) ≤ ((i : Nat) : Int) ∧ ((i : Nat) : Int) ≤ (s.length : Int), CallOk Tryd.prog w9 84 #[.string (S ((s.drop fr).take (i - fr)))] (.string (S (lpl ((s.drop fr).take (i - fr))))), InR .i64 ((2 * (lpre (s.drop p) (s.drop i)) : Nat) : Int), InR .i64 (((2 * (lpre (s.drop p) (s.drop i))) + 1 : Nat) : Int), InR .u64 (((2 * (lpre (s.drop p) (s.drop i))) + 1 : Nat) : Int), CallOk Tryd.prog w9 46 #[.int .u64 (((2 * (lpre (s.drop p) (s.drop i))) + 1 : Nat) : Int)] (.string (S (vput ((2 * (lpre (s.drop p) (s.drop i))) + 1)))), (lpl ((s.drop fr).take (i - fr)) : List UInt8).length + ((vput ((2 * (lpre (s.drop p) (s.drop i))) + 1)) : List UInt8).length ≤ 9223372036854775807, InR .i64 (((i : Nat) : Int) - ((p : Nat) : Int)), InR .u64 (((i : Nat) : Int) - ((p : Nat) : Int)), CallOk Tryd.prog w9 46 #[.int .u64 (((i : Nat) : Int) - ((p : Nat) : Int))] (.string (S (vput (((((i : Nat) : Int) - ((p : Nat) : Int)) : Int).toNat)))), (((lpl ((s.drop fr).take (i - fr))) ++ (vput ((2 * (lpre (s.drop p) (s.drop i))) + 1))) : List UInt8).length + ((vput (((((i : Nat) : Int) - ((p : Nat) : Int)) : Int).toNat)) : List UInt8).length ≤ 9223372036854775807, ((1 :: ts.flatMap tenc) : List UInt8).length + ((((lpl ((s.drop fr).take (i - fr))) ++ (vput ((2 * (lpre (s.drop p) (s.drop i))) + 1))) ++ (vput (((((i : Nat) : Int) - ((p : Nat) : Int)) : Int).toNat))) : List UInt8).length ≤ 9223372036854775807]) ha [(5, .val (.string (S (lpl ((s.drop fr).take (i - fr)))))), (10, .val (.string (S (vput ((2 * (lpre (s.drop p) (s.drop i))) + 1))))), (16, .val (.string (S (vput (((((i : Nat) : Int) - ((p : Nat) : Int)) : Int).toNat)))))] (by kernel_rfl) (.cons ⟨by omega, by omega, by omega⟩ (.cons (fun w _ => plain_ok _ w (by simp only [List.length_take, List.length_drop]; omega)) (.cons (by unfold InR; omega) (.cons (by unfold InR; omega) (.cons (by unfold InR; omega) (.cons (fun w _ => put_ok _ w (by first | omega | (have := vget_lt; omega))) (.cons (by first | omega | (simp only [List.length_cons, List.length_nil, List.length_append, List.length_take, List.length_drop]; omega)) (.cons (by unfold InR; omega) (.cons (by unfold InR; omega) (.cons (fun w _ => put_okI _ w (by omega) (by omega)) (.cons (by first | omega | (simp only [List.length_cons, List.length_nil, List.length_append, List.length_take, List.length_drop]; omega)) (.cons (by first | omega | (simp only [List.length_cons, List.length_nil, List.length_append, List.length_take, List.length_drop]; omega)) .nil)))))))))))) ?_
      clear ha a; intro a w10 ha he
      replace hx := hx.tr he
      replace hB_b2 := keepB he hB_b2
      replace hM_m := mapE he hM_m
      clear he
      rw [show (((1 :: ts.flatMap tenc) ++ (((lpl ((s.drop fr).take (i - fr))) ++ (vput ((2 * (lpre (s.drop p) (s.drop i))) + 1))) ++ (vput (((((i : Nat) : Int) - ((p : Nat) : Int)) : Int).toNat)))) : List UInt8) = (1 :: (ts ++ ltok ((s.drop fr).take (i - fr)) ++ [Tok.cp (lpre (s.drop p) (s.drop i)) (i - p)]).flatMap tenc) from pk_out ts _ _ i p] at ha
      refine tn ?_
      refine wseq ?_
      refine regp (ρ' := [(0, .string (S s)), (3, .map (some m)), (4, .string (S (1 :: (ts ++ ltok ((s.drop fr).take (i - fr)) ++ [Tok.cp (lpre (s.drop p) (s.drop i)) (i - p)]).flatMap tenc))), (6, .int .i64 ((i + (lpre (s.drop p) (s.drop i)) : Nat) : Int))]) (C := [InR .i64 ((i + (lpre (s.drop p) (s.drop i)) : Nat) : Int)]) ha [] (by kernel_rfl) (.cons (by unfold InR; omega) .nil) ?_
      clear ha a; intro a ha
      refine tn ?_
      refine regp (ρ' := [(0, .string (S s)), (3, .map (some m)), (4, .string (S (1 :: (ts ++ ltok ((s.drop fr).take (i - fr)) ++ [Tok.cp (lpre (s.drop p) (s.drop i)) (i - p)]).flatMap tenc))), (5, .int .i64 ((i + (lpre (s.drop p) (s.drop i)) : Nat) : Int)), (6, .int .i64 ((i + (lpre (s.drop p) (s.drop i)) : Nat) : Int))]) (C := []) ha [] (by kernel_rfl) .nil ?_
      clear ha a; intro a ha
      refine bn ?_
      exact tn ⟨f, by omega, f, (i + lpre (s.drop p) (s.drop i)), (i + lpre (s.drop p) (s.drop i)), (mset M (lkey (s.drop i)) i), (ts ++ ltok ((s.drop fr).take (i - fr)) ++ [Tok.cp (lpre (s.drop p) (s.drop i)) (i - p)]), rfl, ha.sub (ρ' := [(0, .string (S s)), (3, .map (some m)), (4, .string (S (1 :: (ts ++ ltok ((s.drop fr).take (i - fr)) ++ [Tok.cp (lpre (s.drop p) (s.drop i)) (i - p)]).flatMap tenc))), (5, .int .i64 (((i + lpre (s.drop p) (s.drop i)) : Nat) : Int)), (6, .int .i64 (((i + lpre (s.drop p) (s.drop i)) : Nat) : Int))]) (by kernel_rfl), hx, hB_b2, hM_m, by omega, pk_copy inv (by omega) h18n hp (by omega), by rw [hgo]; exact pkgo_hit h18n hp (by omega)⟩
  · replace h18 := of_decide_eq_false h18
    have hend : lzSteps s = ts ++ ltok (s.drop fr) := by rw [hgo]; exact pkgo_end (by omega)
    have hq := lpl_len (s.drop fr)
    simp only [List.length_drop] at hq
    refine wexit ?_
    refine (te (te (be ?_)))
    refine tn ?_
    refine wseq ?_
    refine reg hmix (ρ' := [(0, .string (S s)), (4, .string (S ((1 :: ts.flatMap tenc) ++ (lpl (s.drop fr)))))]) (C := [0 ≤ ((fr : Nat) : Int) ∧ ((fr : Nat) : Int) ≤ (s.length : Int), CallOk Tryd.prog w5 84 #[.string (S (s.drop fr))] (.string (S (lpl (s.drop fr)))), ((1 :: ts.flatMap tenc) : List UInt8).length + (lpl (s.drop fr) : List UInt8).length ≤ 9223372036854775807]) ha [(4, .val (.string (S (lpl (s.drop fr)))))] (by kernel_rfl) (.cons ⟨by omega, by omega⟩ (.cons (fun w _ => plain_ok _ w (by simp only [List.length_take, List.length_drop]; omega)) (.cons (by first | omega | (simp only [List.length_cons, List.length_nil, List.length_append, List.length_take, List.length_drop]; omega)) .nil))) ?_
    clear ha a; intro a w11 ha he
    replace hx := hx.tr he
    replace hB_b2 := keepB he hB_b2
    replace hM_m := mapE he hM_m
    clear he
    rw [show (((1 :: ts.flatMap tenc) ++ (lpl (s.drop fr))) : List UInt8) = (lzBody s) from by rw [lzBody, hend]; exact pk_outE ts _] at ha
    have hbl : (lzBody s).length ≤ 1 + fr * 31 + s.length + 10 := by rw [lzBody, hend, ← pk_outE, List.length_append, List.length_cons]; omega
    refine tn ?_
    refine wseq ?_
    refine wseq ?_
    refine regp (ρ' := [(0, .string (S s)), (4, .string (S (lzBody s))), (79, .bool (decide (((s.length : Nat) : Int) < (((lzBody s).length : Nat) : Int))))]) (C := []) ha [] (by kernel_rfl) .nil ?_
    clear ha a; intro a ha
    refine tn ?_
    refine wif ha rfl (fun h79 => ?_) (fun h79 => ?_)
    · replace h79 := of_decide_eq_true h79
      have hres : lzPack s = 0 :: s := by unfold lzPack; rw [if_pos (by omega)]
      refine wseq ?_
      refine reg_list ?_
      refine lnewS ha rfl (by kernel_rfl) #[.int .u8 0] 5 1 (by kernel_rfl) ?_
      clear ha a; intro b12 w13 he hb_b12 hB_b12 a ha
      have hne_b2_b12 : b2 ≠ b12 := ne_new hB_b2 hb_b12
      replace hB_b2 := keepB he hB_b2
      replace hM_m := mapE he hM_m
      replace hb_b12 := Nat.le_trans hx.size hb_b12
      replace hx := hx.tr he
      clear he
      refine segp (ρ' := [(2, .string (S ([UInt8.ofNat 0] ++ s)))]) (C := [RunOk Tryd.prog w13 (convert 50 9 (.slice (some ⟨b12, 0, none⟩) 1 1)) (.string (S [UInt8.ofNat 0])), ([UInt8.ofNat 0] : List UInt8).length + (s : List UInt8).length ≤ 9223372036854775807]) ha 4 [(0, .val (.string (S [UInt8.ofNat 0])))] rfl (by kernel_rfl) (.cons (cvBlk (e := 5) (zs := [(0 : Int)]) (by kernel_rfl) (by kernel_rfl) (by kernel_rfl) hB_b12 rfl rfl) (.cons (by first | omega | (simp only [List.length_cons, List.length_nil, List.length_append, List.length_take, List.length_drop]; omega)) .nil)) ?_
      clear ha a; intro a ha
      refine lnil ?_
      replace ha := ha.sub (ρ' := [(2, .string (S ([UInt8.ofNat 0] ++ s)))]) (by kernel_rfl)
      refine tn ?_
      refine wret ?_
      refine (tr ?_)
      refine fin ha (.tmp rfl .nil) ?_
      exact ⟨by rw [hres]; rfl, hx⟩
    · replace h79 := of_decide_eq_false h79
      have hres : lzPack s = lzBody s := by unfold lzPack; rw [if_neg (by omega)]
      refine wskip ?_
      refine tn ?_
      refine wseq ?_
      refine regp (ρ' := [(2, .string (S (lzBody s)))]) (C := []) ha [] (by kernel_rfl) .nil ?_
      clear ha a; intro a ha
      refine tn ?_
      refine wret ?_
      refine fin ha (.tmp rfl .nil) ?_
      exact ⟨by rw [hres]; rfl, hx⟩
end Go.Kn
end
section
set_option linter.unusedSimpArgs false
set_option linter.unusedVariables false
set_option maxRecDepth 100000
namespace Go.Kn
open Go.Proofs
end Go.Kn
end
section
set_option linter.unusedSimpArgs false
set_option linter.unusedVariables false
set_option maxRecDepth 100000
namespace Go.Kn
open Go.Proofs
theorem ixb_ok (l : List UInt8) (c : Int) (w : World) :
    Fn Tryd.prog 98 #[.string (S l), .int .u8 c] w (fun x w' => x = .int .i64 (Go.Lib.indexByte l c.toNat.toUInt8) ∧ Ext w w') := by
  have hx : Ext w w := Ext.rfl' w
  refine enter (N := 8) (args := [.string (S l), .int .u8 c]) Tryd.func98 rfl rfl rfl ?_
  intro a ha
  simp only [argEnv, Nat.zero_add, Nat.reduceAdd] at ha
  refine wseq ?_
  refine regp (ρ' := [(0, .string (S l)), (1, .int .u8 c)]) (C := []) ha [] (by kernel_rfl) .nil ?_
  clear ha a; intro a ha
  refine tn ?_
  refine wseq ?_
  refine reg_list ?_
  refine segp (ρ' := [(5, .string (S l)), (6, .int .u8 c)]) (C := []) ha 2 [] rfl (by kernel_rfl) .nil ?_
  clear ha a; intro a ha
  refine lext (e := Extern.BytealgIndexByte.indexByte) (vs := #[.string (S l), .int .u8 c]) (v := .int .i64 (Go.Lib.indexByte l (c : Int).toNat.toUInt8)) ha rfl (by kernel_rfl) rfl rfl (by kernel_rfl) Tryd.func103 (by kernel_rfl) (by kernel_rfl) (by kernel_rfl) (by kernel_rfl) (Go.Lib.run_indexByteString _ _ _) ?_
  clear ha a; intro a ha
  refine segp (ρ' := [(4, .int .i64 (Go.Lib.indexByte l (c : Int).toNat.toUInt8))]) (C := []) ha 1 [] rfl (by kernel_rfl) .nil ?_
  clear ha a; intro a ha
  refine lnil ?_
  replace ha := ha.sub (ρ' := [(4, .int .i64 (Go.Lib.indexByte l (c : Int).toNat.toUInt8))]) (by kernel_rfl)
  refine tn ?_
  refine wret ?_
  refine fin ha (.tmp rfl .nil) ?_
  exact ⟨rfl, hx⟩
end Go.Kn
end
section
set_option linter.unusedSimpArgs false
set_option linter.unusedVariables false
set_option maxRecDepth 100000
namespace Go.Kn
open Go.Proofs
theorem sum1_ok (t : List UInt8) (b : Nat) (w : World) (ht : t.length ≤ 1000000000) (hB : w.heap[b]? = some (.cells #[.string (S t)] 9 (0, 0))) {T0 : Nat} {f0 : Nat × Nat} (hB_0 : w.heap[0]? = some (.cells ⟨wc shaK⟩ T0 f0)) : FnV Tryd.prog 49 #[.slice (some ⟨b, 0, none⟩) 1 1] w (.agg ⟨idc (shaSum t)⟩) := by
  have h := sum_ok shaK b 0 1 [t] w (rd_block (cs := [.string (S t)]) hB rfl) (by simp) (by simp) (by simp) (by simpa using ht) hB_0
  have e : [t].flatten = t := by simp
  rw [e] at h; exact h
theorem sumO_ok (l : List (List UInt8)) (A : Option Addr) (c B : Nat) (w : World) (h : Own w B 9 1 A l.length c (l.flatMap encS)) (hne : l ≠ []) (hN : l.length ≤ 100000) (hlen : l.flatten.length ≤ 1000000000) {T0 : Nat} {f0 : Nat × Nat} (hB_0 : w.heap[0]? = some (.cells ⟨wc shaK⟩ T0 f0)) : FnV Tryd.prog 49 #[.slice A l.length c] w (.agg ⟨idc (shaSum l.flatten)⟩) := by
  obtain ⟨g, rfl, hc⟩ := own_at0 h (List.length_pos_iff.2 hne)
  exact sum_ok shaK g 0 c l w (own_rd h) hne hc hN hlen hB_0
end Go.Kn
end
section
set_option linter.unusedSimpArgs false
set_option linter.unusedVariables false
set_option maxRecDepth 100000
namespace Go.Kn
open Go.Proofs
end Go.Kn
end
