/- Ids out of figures and back, which id is ahead: plain. -/
import Derived.Test.YtihmegmambmljaaDoorPlainN
import Derived.Lib.Bytealg
set_option linter.unusedVariables false
set_option linter.unusedSimpArgs false
namespace Go.Kn
theorem bl_same : ∀ (l : List UInt8), Op.bytesLess l l = false
  | [] => rfl
  | a :: l => by simp [Op.bytesLess, bl_same l]
theorem bl_split {x y : UInt8} {a b : List UInt8} (h : x ≠ y) : ∀ (p : List UInt8), Op.bytesLess (p ++ x :: a) (p ++ y :: b) = decide (x < y)
  | [] => by simp [Op.bytesLess, h]
  | c :: p => by simp [Op.bytesLess, bl_split h p]
theorem id_split (x : Id) (i : Nat) (h : i < 32) : x.l = x.l.take i ++ x.l.getD i 0 :: x.l.drop (i + 1) := by
  have hx := x.h
  rw [List.getD_eq_getElem?_getD, List.getElem?_eq_getElem (by omega), Option.getD_some]
  simp
theorem less_at (x y : Id) (i : Nat) (h : i < 32) (hp : x.l.take i = y.l.take i) (hne : (x.l.getD i 0).toNat ≠ (y.l.getD i 0).toNat) : Op.bytesLess x.l y.l = decide ((x.l.getD i 0).toNat < (y.l.getD i 0).toNat) := by
  have e := bl_split (x := x.l.getD i 0) (y := y.l.getD i 0) (a := x.l.drop (i + 1)) (b := y.l.drop (i + 1)) (fun e => hne (congrArg UInt8.toNat e)) (x.l.take i)
  rw [← id_split x i h, hp, ← id_split y i h] at e
  rw [e]
  simp only [UInt8.lt_iff_toNat_lt]
theorem less_go (x y : Id) (i : Nat) (h : i < 32) (hp : x.l.take i = y.l.take i) (he : (x.l.getD i 0).toNat = (y.l.getD i 0).toNat) : x.l.take (i + 1) = y.l.take (i + 1) := by
  have hx := x.h; have hy := y.h
  have he' := UInt8.toNat.inj he
  rw [List.getD_eq_getElem?_getD, List.getElem?_eq_getElem (by omega), Option.getD_some, List.getD_eq_getElem?_getD, List.getElem?_eq_getElem (by omega), Option.getD_some] at he'
  rw [List.take_succ_eq_append_getElem (by omega), List.take_succ_eq_append_getElem (by omega), hp, he']
theorem less_end (x y : Id) (hp : x.l.take 32 = y.l.take 32) : Op.bytesLess x.l y.l = false := by
  have hx := x.h; have hy := y.h
  rw [List.take_of_length_le (by omega), List.take_of_length_le (by omega)] at hp
  rw [hp, bl_same]
/-- a figure's place: -1 if it is none -/
abbrev dgi (c : UInt8) : Int := Go.Lib.indexByte digs c
def dg (c : UInt8) : Nat := (dgi c).toNat
theorem dgi_lt (c : UInt8) : -1 ≤ dgi c ∧ dgi c < 16 := by
  refine ⟨Go.Lib.indexByte_ge _ _, ?_⟩
  have key : ∀ n, n < 256 → dgi (UInt8.ofNat n) < 16 := by decide +kernel
  have := key c.toNat c.toNat_lt
  rwa [UInt8.ofNat_toNat] at this
theorem dg_lt (c : UInt8) : dg c < 16 := by
  have := dgi_lt c
  unfold dg; omega
theorem dg_eq (c : UInt8) (h : 0 ≤ dgi c) : dgi c = ((dg c : Nat) : Int) := by unfold dg; omega
theorem dgi_digs : ∀ k, k < 16 → dgi (digs.getD k 0) = ((k : Nat) : Int) := by decide +kernel
theorem dg_digs (k : Nat) (h : k < 16) : dg (digs.getD k 0) = k := by unfold dg; rw [dgi_digs k h]; rfl
theorem dig_lo (k : Nat) (h : k < 10) : UInt8.ofNat (48 + k) = digs.getD k 0 := by
  have key : ∀ k, k < 10 → UInt8.ofNat (48 + k) = digs.getD k 0 := by decide +kernel
  exact key k h
theorem dig_hi (k : Nat) (h : 10 ≤ k) (h2 : k < 16) : UInt8.ofNat (87 + k) = digs.getD k 0 := by
  have key : ∀ k, k < 16 → 10 ≤ k → UInt8.ofNat (87 + k) = digs.getD k 0 := by decide +kernel
  exact key k h2 h
theorem slice1 (s : List UInt8) (i : Nat) (h : i < s.length) : (s.drop i).take (i + 1 - i) = [s.getD i 0] := by
  rw [show i + 1 - i = 1 by omega, List.drop_eq_getElem_cons h, List.getD_eq_getElem?_getD, List.getElem?_eq_getElem h]; rfl
/-- the places, as the other reader seeks them -/
theorem dgi_iff : ∀ (c : UInt8) (k : Nat), k < 16 → (dgi c = ((k : Nat) : Int) ↔ c = digs.getD k 0) := by
  intro c k hk
  constructor
  · intro h
    have key : ∀ n, n < 256 → 0 ≤ dgi (UInt8.ofNat n) → UInt8.ofNat n = digs.getD (dgi (UInt8.ofNat n)).toNat 0 := by decide +kernel
    have := key c.toNat c.toNat_lt
    rw [UInt8.ofNat_toNat] at this
    rw [this (by omega), h]; rfl
  · intro h; rw [h]; exact dgi_digs k hk
def unTo (s : List UInt8) : Nat → Id
  | 0 => idZ
  | i + 1 => (unTo s i).set (i / 2) (((unTo s i).l.getD (i / 2) 0).toNat * 16 + dg (s.getD i 0))
def unV (s : List UInt8) (i j : Nat) : Nat := if 2 * j + 1 < i then dg (s.getD (2 * j) 0) * 16 + dg (s.getD (2 * j + 1) 0) else if 2 * j < i then dg (s.getD (2 * j) 0) else 0
theorem set_get (x : Id) (i v j : Nat) (hi : i < 32) (hv : v < 256) : ((x.set i v).l.getD j 0).toNat = if i = j then v else (x.l.getD j 0).toNat := by
  have hx := x.h
  show ((x.l.set i (UInt8.ofNat v)).getD j 0).toNat = _
  rw [List.getD_eq_getElem?_getD, List.getElem?_set]
  by_cases h : i = j
  · subst h
    rw [if_pos rfl, if_pos (by omega), if_pos rfl, Option.getD_some, UInt8.toNat_ofNat_of_lt' hv]
  · rw [if_neg h, if_neg h, ← List.getD_eq_getElem?_getD]
theorem un_at (s : List UInt8) : ∀ (i : Nat), i ≤ 64 → ∀ j, j < 32 → ((unTo s i).l.getD j 0).toNat = unV s i j := by
  intro i
  induction i with
  | zero =>
    intro _ j hj
    unfold unTo idZ unV
    rw [if_neg (by omega), if_neg (by omega)]
    rw [List.getD_eq_getElem?_getD, List.getElem?_replicate, if_pos hj]; rfl
  | succ i ih =>
    intro hi j hj
    have h1 := dg_lt (s.getD i 0)
    have h2 := ih (by omega) (i / 2) (by omega)
    have h3 : ((unTo s i).l.getD (i / 2) 0).toNat < 16 := by
      rw [h2]; unfold unV
      rw [if_neg (by omega)]
      split
      · exact dg_lt _
      · omega
    rw [unTo, set_get _ _ _ _ (by omega) (by omega)]
    by_cases h : i / 2 = j
    · rw [if_pos h, h2]
      unfold unV
      by_cases hp : i % 2 = 0
      · have e : i = 2 * j := by omega
        rw [if_neg (by omega), if_neg (by omega), if_neg (by omega), if_pos (by omega), e]; omega
      · have e : i = 2 * j + 1 := by omega
        rw [if_neg (by omega), if_pos (by omega), if_pos (by omega), h, ← e]
    · rw [if_neg h, ih (by omega) j hj]
      unfold unV
      by_cases hp : 2 * j + 1 < i
      · rw [if_pos hp, if_pos (by omega)]
      · rw [if_neg hp, if_neg (by omega), if_neg (by omega), if_neg (by omega)]
theorem un_small (s : List UInt8) (i : Nat) (h : i < 64) : ((unTo s i).l.getD (i / 2) 0).toNat < 16 := by
  rw [un_at s i (by omega) _ (by omega)]; unfold unV
  rw [if_neg (by omega)]
  split
  · exact dg_lt _
  · omega
theorem or_add (a b : Nat) (h : b < 16) : a * 16 ||| b = a * 16 + b := by
  have := Nat.two_pow_add_eq_or_of_lt (i := 4) (b := b) (by omega) a
  rw [show 2 ^ 4 = 16 from rfl, Nat.mul_comm 16 a] at this
  exact this.symm
theorem un_next (s : List UInt8) (i : Nat) : (unTo s i).set (i / 2) (((unTo s i).l.getD (i / 2) 0).toNat * 16 ||| dg (s.getD i 0)) = unTo s (i + 1) := by
  rw [or_add _ _ (dg_lt _)]; rfl
theorem un_next2 (s : List UInt8) (i : Nat) (h : i < 64) : (unTo s i).set (i / 2) (16 * (((unTo s i).l.getD (i / 2) 0).toNat % 16) + dg (s.getD i 0)) = unTo s (i + 1) := by
  rw [Nat.mod_eq_of_lt (un_small s i h), Nat.mul_comm]; rfl
open Classical in
noncomputable def unhex (s : List UInt8) : Id × Bool := if s.length = 64 ∧ ∀ j, j < 64 → 0 ≤ dgi (s.getD j 0) then (unTo s 64, true) else (idZ, false)
theorem unhex_len {s : List UInt8} (h : s.length ≠ 64) : unhex s = (idZ, false) := if_neg fun e => h e.1
theorem unhex_bad {s : List UInt8} {i : Nat} (hi : i < 64) (h : dgi (s.getD i 0) < 0) : unhex s = (idZ, false) := if_neg fun e => by have := e.2 i hi; omega
theorem unhex_ok {s : List UInt8} (h : s.length = 64) (hk : ∀ j, j < 64 → 0 ≤ dgi (s.getD j 0)) : unhex s = (unTo s 64, true) := if_pos ⟨h, hk⟩
theorem pair_get : ∀ (l : List UInt8) (j : Nat), j < l.length → (l.flatMap fun c => hexD c.toNat).getD (2 * j) 0 = digs.getD ((l.getD j 0).toNat / 16) 0 ∧ (l.flatMap fun c => hexD c.toNat).getD (2 * j + 1) 0 = digs.getD ((l.getD j 0).toNat % 16) 0
  | [], j, h => by simp at h
  | c :: l, 0, _ => by simp [hexD]
  | c :: l, j + 1, h => by
    have ih := pair_get l j (by simpa using h)
    have e : 2 * (j + 1) = 2 * j + 2 := by omega
    rw [e]
    simpa [hexD] using ih
theorem un_hex (x : Id) : ((∀ n, n = 64 → unTo (hexTo x 32) n = x) ∧ ∀ j, j < 64 → 0 ≤ dgi ((hexTo x 32).getD j 0)) := by
  have hx := x.h
  have e : hexTo x 32 = x.l.flatMap fun c => hexD c.toNat := by unfold hexTo; rw [List.take_of_length_le (by omega)]
  have g : ∀ j, j < 32 → (hexTo x 32).getD (2 * j) 0 = digs.getD ((x.l.getD j 0).toNat / 16) 0 ∧ (hexTo x 32).getD (2 * j + 1) 0 = digs.getD ((x.l.getD j 0).toNat % 16) 0 := fun j hj => by
    rw [e]; exact pair_get x.l j (by omega)
  have lt : ∀ j, (x.l.getD j 0).toNat < 256 := fun j => UInt8.toNat_lt _
  constructor
  · intro n hn
    apply Id.ext
    have hl := (unTo (hexTo x 32) n).h
    apply List.ext_getElem (by omega)
    intro j h1 h2
    have := un_at (hexTo x 32) n (by omega) j (by omega)
    unfold unV at this
    have hlt := lt j
    rw [if_pos (by omega), (g j (by omega)).1, (g j (by omega)).2, dg_digs _ (by omega), dg_digs _ (by omega)] at this
    rw [List.getD_eq_getElem?_getD, List.getElem?_eq_getElem h1, Option.getD_some, List.getD_eq_getElem?_getD, List.getElem?_eq_getElem h2, Option.getD_some] at this
    exact UInt8.toNat.inj (by omega)
  · intro j hj
    have hlt := lt (j / 2)
    have h := g (j / 2) (by omega)
    by_cases hp : j % 2 = 0
    · rw [show j = 2 * (j / 2) by omega, h.1, dgi_digs _ (by omega)]; omega
    · rw [show j = 2 * (j / 2) + 1 by omega, h.2, dgi_digs _ (by omega)]; omega
theorem unhex_hex (x : Id) : unhex (hexTo x 32) = (x, true) := by
  rw [unhex_ok (hexTo_len x 32 (Nat.le_refl 32)) (un_hex x).2, (un_hex x).1 64 rfl]
section
open Go Go.ChangeShapes Go.WideShapes Go.RowKit
variable {H : Type} {enc : TypeId × Value → H} {P : Program} {w : World} {base : Nat} {spare : Nat → Bool} {held : Bool}
theorem open_id {r : Reach} {b0 : Nat} {t : TypeId} {v : Value} {d : DataW H} {ps : List MemPlace} (hu : idB P t = true) (hval : Value.okWide P w r b0 t v) (hd : DataW.Trod enc P w base spare held t v d ps) : ∃ x : Id, v = .agg ⟨idc x⟩ := by
  obtain ⟨e, h1, _⟩ := idB_spec hu
  simp only [Value.okWide, h1] at hval
  obtain ⟨cs, rfl, _⟩ := hval
  obtain ⟨fuel, hf⟩ := hd
  obtain ⟨x, hx⟩ := opn_id hu _ _ _ hf
  exact ⟨x, by cases cs; exact congrArg (fun l => Value.agg ⟨l⟩) hx⟩
end
end Go.Kn
