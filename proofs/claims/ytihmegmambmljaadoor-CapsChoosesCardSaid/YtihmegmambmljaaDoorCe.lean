import Derived.Test.YtihmegmambmljaaDoorCd
import Derived.Shelf.Strings.Split
import Derived.Lib.SplitLaws
set_option linter.unusedSimpArgs false
set_option linter.unusedVariables false
set_option maxRecDepth 100000
namespace Go.Kn
open Go.Proofs Go.Shelf Go.RowKit Go.Lib
def ren146 : Ren := ⟨fun | 146 => 48 | 221 => 73 | 268 => 101 | 138 => 102 | 143 => 103 | 195 => 112 | 197 => 113 | 218 => 114 | 219 => 115 | 260 => 116 | 217 => 69 | 225 => 117 | 224 => 118 | 267 => 119 | 266 => 99 | 314 => 120 | n => n, fun | 31 => 29 | 105 => 139 | 46 => 66 | 119 => 142 | 139 => 145 | 138 => 144 | 146 => 125 | 51 => 52 | n => n, fun | 3 => 2 | 4 => 3 | n => n⟩
theorem lays146 : Lays.n146 Tryd.prog ren146 := {
  mixed := by kernel_rfl,
  f138 := by kernel_rfl,
  f143 := by kernel_rfl,
  f146 := by kernel_rfl,
  f195 := by kernel_rfl,
  f197 := by kernel_rfl,
  f217 := by kernel_rfl,
  f218 := by kernel_rfl,
  f219 := by kernel_rfl,
  f221 := by kernel_rfl,
  f224 := by kernel_rfl,
  f225 := by kernel_rfl,
  f260 := by kernel_rfl,
  f266 := by kernel_rfl,
  f267 := by kernel_rfl,
  f268 := by kernel_rfl,
  f314 := by kernel_rfl,
  t0 := by kernel_rfl,
  a0 := fun w => by kernel_rfl,
  z0 := fun w => by kernel_rfl,
  v0 := fun w => by kernel_rfl,
  t3 := by kernel_rfl,
  a3 := fun w => by kernel_rfl,
  z3 := fun w => by kernel_rfl,
  v3 := fun w => by kernel_rfl,
  t4 := by kernel_rfl,
  a4 := fun w => by kernel_rfl,
  z4 := fun w => by kernel_rfl,
  v4 := fun w => by kernel_rfl,
  t5 := by kernel_rfl,
  a5 := fun w => by kernel_rfl,
  z5 := fun w => by kernel_rfl,
  v5 := fun w => by kernel_rfl,
  t9 := by kernel_rfl,
  a9 := fun w => by kernel_rfl,
  z9 := fun w => by kernel_rfl,
  v9 := fun w => by kernel_rfl,
  t21 := by kernel_rfl,
  a21 := fun w => by kernel_rfl,
  z21 := fun w => by kernel_rfl,
  v21 := fun w => by kernel_rfl,
  t31 := by kernel_rfl,
  a31 := fun w => by kernel_rfl,
  z31 := fun w => by kernel_rfl,
  v31 := fun w => by kernel_rfl,
  t46 := by kernel_rfl,
  a46 := fun w => by kernel_rfl,
  z46 := fun w => by kernel_rfl,
  v46 := fun w => by kernel_rfl,
  t51 := by kernel_rfl,
  a51 := fun w => by kernel_rfl,
  z51 := fun w => by kernel_rfl,
  v51 := fun w => by kernel_rfl,
  t105 := by kernel_rfl,
  a105 := fun w => by kernel_rfl,
  z105 := fun w => by kernel_rfl,
  v105 := fun w => by kernel_rfl,
  t119 := by kernel_rfl,
  a119 := fun w => by kernel_rfl,
  z119 := fun w => by kernel_rfl,
  t138 := by kernel_rfl,
  a138 := fun w => by kernel_rfl,
  z138 := fun w => by kernel_rfl,
  v138 := fun w => by kernel_rfl,
  t139 := by kernel_rfl,
  a139 := fun w => by kernel_rfl,
  z139 := fun w => by kernel_rfl,
  v139 := fun w => by kernel_rfl,
  t146 := by kernel_rfl,
  a146 := fun w => by kernel_rfl,
  z146 := fun w => by kernel_rfl,
  v146 := fun w => by kernel_rfl,
  g1 := by kernel_rfl,
  g3 := by kernel_rfl,
  g4 := by kernel_rfl }
def cSplit (s : List UInt8) : List (List UInt8) := (Lib.splitB (S [32]) 0 (Lib.countB (S s) (S [32])) (S s)).map (·.data.toList)
theorem split_ok (s : List UInt8) (m : Int) (w : World) (hs : s.length < 4294967281) (hm : w.cell? ⟨ren146.g 1, 0, none⟩ = some (.int .i64 m)) :
    Fn Tryd.prog 48 #[.string (S s), .string (S [32])] w fun v w' => ∃ A c, v = .slice A (cSplit s).length c ∧ Rd w' 1 A (cSplit s).length ((cSplit s).flatMap encS) ∧ Ext w w' := by
  have h := Any.strings_Split lays146 (by kernel_rfl) (S s) (S [32]) m w (by rw [S_size]; exact hs) hm (by decide)
  refine Calls.mono h ?_
  rintro e w' ⟨rfl, rfl⟩
  have hl : (cSplit s).length = Lib.countB (S s) (S [32]) + 1 := by unfold cSplit; rw [List.length_map]; exact Lib.splitB_all (S [32]) (by decide) 0 _ _ rfl
  refine ⟨_, rfl, _, _, by rw [hl], ?_, Below.alloc (Below.refl _ w) (Nat.le_refl _) _⟩
  have e1 : ((cSplit s).flatMap encS) = (Lib.splitB (S [32]) 0 (Lib.countB (S s) (S [32])) (S s)).map Value.string := by
    rw [encS_flat]; unfold cSplit; rw [List.map_map]
    refine List.map_congr_left fun x _ => ?_
    simp [Function.comp, S_self]
  rw [e1]
  have hsz : ((Lib.splitB (S [32]) 0 (Lib.countB (S s) (S [32])) (S s)).map Value.string).toArray.size = (cSplit s).length * 1 := by unfold cSplit; simp
  generalize ((Lib.splitB (S [32]) 0 (Lib.countB (S s) (S [32])) (S s)).map Value.string) = L at *
  have hB : (w.alloc (.cells L.toArray (ren146.t 9))).heap[w.heap.size]? = some (.cells L.toArray (ren146.t 9) (0, 0)) := by show (w.heap.push _)[w.heap.size]? = _; exact Array.getElem?_push_size
  have := rd_blk (sz := 1) hB hsz
  simpa using this
end Go.Kn
