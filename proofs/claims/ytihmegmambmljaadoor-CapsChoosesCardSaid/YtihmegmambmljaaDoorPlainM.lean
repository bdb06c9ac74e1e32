/- Ids in figures (layer 2), plain. -/
import Derived.Test.YtihmegmambmljaaDoorPlainL
set_option linter.unusedVariables false
namespace Go.Kn
def digs : List UInt8 := [48, 49, 50, 51, 52, 53, 54, 55, 56, 57, 97, 98, 99, 100, 101, 102]
def hexD (c : Nat) : List UInt8 := [digs.getD (c / 16) 0, digs.getD (c % 16) 0]
def hexTo (x : Id) (i : Nat) : List UInt8 := (x.l.take i).flatMap fun c => hexD c.toNat
theorem hexTo_succ (x : Id) (i : Nat) (h : i < 32) : hexTo x (i + 1) = hexTo x i ++ hexD (x.l.getD i 0).toNat := by
  have hx := x.h
  unfold hexTo
  rw [List.take_succ_eq_append_getElem (by omega), List.flatMap_append, List.getD_eq_getElem?_getD, List.getElem?_eq_getElem (by omega)]
  simp
theorem hexTo_len (x : Id) (i : Nat) (h : i ≤ 32) : (hexTo x i).length = 2 * i := by
  induction i with
  | zero => simp [hexTo]
  | succ i ih => rw [hexTo_succ x i (by omega), List.length_append, ih (by omega)]; simp [hexD]; omega
theorem and15 (n : Nat) : n &&& 15 = n % 16 := Nat.and_two_pow_sub_one_eq_mod n 4
theorem hex_push (x : Id) (i : Nat) (h : i < 32) : bys (hexTo x i) ++ [Value.int .u8 (((([48, 49, 50, 51, 52, 53, 54, 55, 56, 57, 97, 98, 99, 100, 101, 102] : List UInt8).getD ((x.l.getD i 0).toNat / 16) 0).toNat : Nat) : Int), .int .u8 (((([48, 49, 50, 51, 52, 53, 54, 55, 56, 57, 97, 98, 99, 100, 101, 102] : List UInt8).getD ((x.l.getD i 0).toNat &&& 15) 0).toNat : Nat) : Int)] = bys (hexTo x (i + 1)) := by
  rw [hexTo_succ x i h, and15]
  unfold bys hexD digs
  rw [List.map_append]; rfl
section
variable {w : World}
theorem rd_block {b T n sz : Nat} {cs : List Value} {fz : Nat × Nat} (hB : w.heap[b]? = some (.cells ⟨cs⟩ T fz)) (hn : cs.length = n * sz) : Rd w sz (some ⟨b, 0, none⟩) n cs :=
  ⟨hn, fun _ => rfl, fun j v hj => by
    show w.cell? ⟨b, 0 + j, none⟩ = some v
    rw [cell_at hB, Nat.zero_add]
    show cs.toArray[j]? = some v
    rw [List.getElem?_toArray]; exact hj⟩
theorem own_at0 {B e sz n c : Nat} {A : Option Addr} {xs : List Value} (h : Own w B e sz A n c xs) (hn : 0 < n) : ∃ g, A = some ⟨g, 0, none⟩ ∧ n ≤ c := by
  rcases h.2 with ⟨h0, h1⟩ | ⟨g, cap, cur, hv, _, _, hle, _⟩
  · omega
  · injection hv with h1 h2 h3
    subst h3
    exact ⟨g, h1, hle⟩
end
end Go.Kn
