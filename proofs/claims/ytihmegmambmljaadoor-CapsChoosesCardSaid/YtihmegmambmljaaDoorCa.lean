import Derived.Test.YtihmegmambmljaaDoorPlainS
import Derived.Test.YtihmegmambmljaaDoorVi
import Derived.Shelf.Slices.Turned
import Derived.Shelf.GgClosure.StringsRunes
import Derived.Shelf.SlicesE.DeleteFunc
set_option linter.unusedSimpArgs false
set_option linter.unusedVariables false
set_option maxRecDepth 100000
namespace Go.Kn
open Go.Proofs Go.Shelf Go.RowKit Go.Lib Go.Sort
def ren110 : Ren := ⟨fun | 110 => 49 | 109 => 74 | n => n, fun | 31 => 29 | n => n, fun n => n⟩
theorem lays110 : Lays.n110 Tryd.prog ren110 := {
  mixed := by kernel_rfl,
  f109 := by kernel_rfl,
  f110 := by kernel_rfl,
  t0 := by kernel_rfl,
  a0 := fun w => by kernel_rfl,
  z0 := fun w => by kernel_rfl,
  v0 := fun w => by kernel_rfl,
  t3 := by kernel_rfl,
  a3 := fun w => by kernel_rfl,
  z3 := fun w => by kernel_rfl,
  v3 := fun w => by kernel_rfl,
  t4 := by kernel_rfl,
  a4 := fun w => by kernel_rfl,
  z4 := fun w => by kernel_rfl,
  v4 := fun w => by kernel_rfl,
  t9 := by kernel_rfl,
  a9 := fun w => by kernel_rfl,
  z9 := fun w => by kernel_rfl,
  v9 := fun w => by kernel_rfl,
  t31 := by kernel_rfl,
  a31 := fun w => by kernel_rfl,
  z31 := fun w => by kernel_rfl,
  v31 := fun w => by kernel_rfl }
def renGw15 : Ren := ⟨fun | 15 => 71 | 20 => 100 | n => n, fun | 23 => 109 | n => n, fun n => n⟩
theorem laysGw15 : LaysGw.n15 Tryd.prog renGw15 := {
  mixed := by kernel_rfl,
  f15 := by kernel_rfl,
  f20 := by kernel_rfl,
  t0 := by kernel_rfl,
  a0 := fun w => by kernel_rfl,
  z0 := fun w => by kernel_rfl,
  v0 := fun w => by kernel_rfl,
  i0 := by kernel_rfl,
  t3 := by kernel_rfl,
  a3 := fun w => by kernel_rfl,
  z3 := fun w => by kernel_rfl,
  v3 := fun w => by kernel_rfl,
  i3 := by kernel_rfl,
  t4 := by kernel_rfl,
  a4 := fun w => by kernel_rfl,
  z4 := fun w => by kernel_rfl,
  v4 := fun w => by kernel_rfl,
  i4 := by kernel_rfl,
  t9 := by kernel_rfl,
  a9 := fun w => by kernel_rfl,
  z9 := fun w => by kernel_rfl,
  v9 := fun w => by kernel_rfl,
  i9 := by kernel_rfl,
  t21 := by kernel_rfl,
  a21 := fun w => by kernel_rfl,
  z21 := fun w => by kernel_rfl,
  v21 := fun w => by kernel_rfl,
  i21 := by kernel_rfl,
  t23 := by kernel_rfl,
  a23 := fun w => by kernel_rfl,
  z23 := fun w => by kernel_rfl,
  v23 := fun w => by kernel_rfl,
  i23 := by kernel_rfl }
def renHd : Ren := ⟨fun | 10 => 44 | 6 => 70 | n => n, fun | 22 => 29 | 23 => 9 | 25 => 27 | n => n, fun n => n⟩
theorem laysHd : SlLaysH.n10 Tryd.prog renHd := {
  mixed := by kernel_rfl,
  f6 := ⟨"slices.IndexFunc[[]string,string]", by kernel_rfl, by kernel_rfl⟩,
  f10 := ⟨"slices.DeleteFunc[[]string,string]", by kernel_rfl, by kernel_rfl⟩,
  t0 := by kernel_rfl,
  a0 := fun w => by kernel_rfl,
  z0 := fun w => by kernel_rfl,
  v0 := fun w => by kernel_rfl,
  t3 := by kernel_rfl,
  a3 := fun w => by kernel_rfl,
  z3 := fun w => by kernel_rfl,
  v3 := fun w => by kernel_rfl,
  t4 := by kernel_rfl,
  a4 := fun w => by kernel_rfl,
  z4 := fun w => by kernel_rfl,
  v4 := fun w => by kernel_rfl,
  t22 := by kernel_rfl,
  a22 := fun w => by kernel_rfl,
  z22 := fun w => by kernel_rfl,
  v22 := fun w => by kernel_rfl,
  a23 := fun w => by kernel_rfl,
  z23 := fun w => by kernel_rfl,
  t25 := by kernel_rfl,
  a25 := fun w => by kernel_rfl,
  z25 := fun w => by kernel_rfl,
  v25 := fun w => by kernel_rfl }
theorem strange_ok (r : Nat) (W : World) (hr : r ≤ 1114111) : FnGives Tryd.prog 72 #[] #[encR r] (.bool (decide (r ≠ 45) && (decide (r < 48) || decide (57 < r)) && (decide (r < 97) || decide (122 < r)))) W := by
  unfold FnGives
  by_cases h1 : r = 45 <;> by_cases h2 : r < 48 <;> by_cases h3 : 57 < r <;> by_cases h4 : r < 97 <;> by_cases h5 : 122 < r
  all_goals first | (exfalso; omega) | skip
  all_goals
    have z1 : (r : Int) = 45 ↔ r = 45 := by omega
    have z2 : (r : Int) < 48 ↔ r < 48 := by omega
    have z3 : (57 : Int) < (r : Int) ↔ 57 < r := by omega
    have z4 : (r : Int) < 97 ↔ r < 97 := by omega
    have z5 : (122 : Int) < (r : Int) ↔ 122 < r := by omega
    go_enter Tryd.func72, Tryd.ntmps72
    go_wp2
    all_goals first | (exfalso; omega) | (go_ret; exact ⟨by simp [h1, h2, h3, h4, h5] <;> omega, 0, rfl⟩)
theorem has_exact (b off n c : Nat) (zs : List ByteArray) (x : ByteArray) (w : World) (hz : n ≤ zs.length) (hbig : n ≤ 9223372036854775807) (hc : ∀ j, j < zs.length → w.cell? ⟨b, off + j, none⟩ = some (.string (zs.getD j ByteArray.empty))) :
    Calls Tryd.prog 29 #[.slice (some ⟨b, off, none⟩) n c, .string x] w fun e w' => e = .returned (.bool (Lib.containsS (zs.take n) x)) ∧ w' = w := by
  have hcon := Any.slices_Contains_string lays110 b off n c zs x w hz hbig hc
  change Calls Tryd.prog 49 _ _ _ at hcon
  generalize Lib.containsS (zs.take n) x = r at hcon ⊢
  go_enter Tryd.func29, Tryd.ntmps29
  go_wp2_with (go_at_call 49; refine hcon.mono ?_; rintro e w' ⟨rfl, rfl⟩)
  go_ret
  exact ⟨rfl, rfl⟩
theorem has_empty (A : Option Addr) (c : Nat) (x : ByteArray) (w : World) :
    Calls Tryd.prog 29 #[.slice A 0 c, .string x] w fun e w' => e = .returned (.bool false) ∧ w' = w := by
  have hcon := Any.slices_Contains_string_empty lays110 A c x w
  change Calls Tryd.prog 49 _ _ _ at hcon
  go_enter Tryd.func29, Tryd.ntmps29
  go_wp2_with (go_at_call 49; refine hcon.mono ?_; rintro e w' ⟨rfl, rfl⟩)
  go_ret
  exact ⟨rfl, rfl⟩
theorem S_self (x : ByteArray) : S x.data.toList = x := by
  cases x; simp [S]
theorem mem_S (l : List (List UInt8)) (x : List UInt8) : S x ∈ l.map S ↔ x ∈ l := by
  constructor
  · intro h
    obtain ⟨y, hy, e⟩ := List.mem_map.1 h
    have := congrArg (fun z => z.data.toList) e
    simp only [S_list] at this
    rw [← this]; exact hy
  · intro h; exact List.mem_map.2 ⟨x, h, rfl⟩
theorem has_rd (A : Option Addr) (c : Nat) (l : List (List UInt8)) (x : ByteArray) (w : World) (hr : Rd w 1 A l.length (l.flatMap encS)) (hl : l.length ≤ 9223372036854775807) :
    Calls Tryd.prog 29 #[.slice A l.length c, .string x] w fun e w' => e = .returned (.bool (decide (x.data.toList ∈ l))) ∧ w' = w := by
  by_cases h0 : 0 < l.length
  · have ha := hr.addr h0
    have key := has_exact (ab A) (ao A) l.length c (l.map S) x w (by simp) hl (fun j hj => by
      rw [List.length_map] at hj
      refine hr.cell j _ ?_
      rw [encS_flat, List.getElem?_map, List.getElem?_eq_getElem hj]
      simp [List.getD_eq_getElem?_getD, List.getElem?_map, List.getElem?_eq_getElem hj])
    have e : Lib.containsS ((l.map S).take l.length) x = decide (x.data.toList ∈ l) := by
      rw [List.take_of_length_le (by simp)]
      apply Bool.eq_iff_iff.2
      rw [Lib.containsS_iff, decide_eq_true_eq, ← mem_S, S_self]
    rw [e, ← ha] at key
    exact key
  · obtain rfl : l = [] := List.eq_nil_of_length_eq_zero (by omega)
    exact has_empty A c x w
theorem choose1_ok (l1 l2 : List (List UInt8)) (A1 A2 : Option Addr) (c1 c2 b2 b3 : Nat) (x : ByteArray) (W : World) (h2 : W.cell? ⟨b2, 0, none⟩ = some (.slice A1 l1.length c1)) (h3 : W.cell? ⟨b3, 0, none⟩ = some (.slice A2 l2.length c2))
    (r1 : Rd W 1 A1 l1.length (l1.flatMap encS)) (r2 : Rd W 1 A2 l2.length (l2.flatMap encS)) (hl1 : l1.length ≤ 9223372036854775807) (hl2 : l2.length ≤ 9223372036854775807) :
    FnGives Tryd.prog 45 #[.pointer (some ⟨b2, 0, none⟩), .pointer (some ⟨b3, 0, none⟩)] #[.string x] (.bool (!decide (x.data.toList ∈ l1) || !decide (x.data.toList ∈ l2))) W := by
  show Calls Tryd.prog 45 #[.string x, .pointer (some ⟨b2, 0, none⟩), .pointer (some ⟨b3, 0, none⟩)] W _
  have hc1 := has_rd A1 c1 l1 x W r1 hl1
  have hc2 := has_rd A2 c2 l2 x W r2 hl2
  clear r1 r2
  generalize decide (x.data.toList ∈ l1) = d1 at *
  generalize decide (x.data.toList ∈ l2) = d2 at *
  generalize l1.length = n1 at *
  generalize l2.length = n2 at *
  cases d1 <;> cases d2
  all_goals
    go_enter Tryd.func45, Tryd.ntmps45
    go_wp2_with (go_at_call 29; first | (refine hc1.mono ?_; rintro e w' ⟨rfl, rfl⟩) | (refine hc2.mono ?_; rintro e w' ⟨rfl, rfl⟩))
    all_goals (go_ret; exact ⟨rfl, 0, rfl⟩)
end Go.Kn
