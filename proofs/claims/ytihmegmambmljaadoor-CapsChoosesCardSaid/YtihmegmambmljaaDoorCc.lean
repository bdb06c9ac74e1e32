/- Words that may be: the library's search over runes, plain. -/
import Derived.Test.YtihmegmambmljaaDoorCa
import Derived.Laws.RangeAny
import Derived.Laws.RangeString
set_option linter.unusedSimpArgs false
set_option linter.unusedVariables false
set_option maxRecDepth 100000
namespace Go.Kn
open Go.Proofs Go.Shelf Go.RowKit Go.Lib
/-- a rune that no word has -/
def strP (r : Nat) : Bool := decide (r ≠ 45) && (decide (r < 48) || decide (57 < r)) && (decide (r < 97) || decide (122 < r))
theorem strP_high {r : Nat} (h : 128 ≤ r) : strP r = true := by
  unfold strP; simp; omega
/-- a word that may be -/
def cWord (l : List UInt8) : Bool := decide ((1 ≤ l.length ∧ l.length ≤ 20) ∧ ∀ i, i < l.length → strP (l.getD i 0).toNat = false)
theorem idxFrom_neg (s : ByteArray) : ∀ (f pos : Nat), s.size ≤ pos + f → (idxFuncFrom strP true s f pos < 0 ↔ ∀ i (h : i < s.size), pos ≤ i → strP (s[i]'h).toNat = false)
  | 0, pos, hf => by
    unfold idxFuncFrom
    exact ⟨fun _ i h hp => absurd h (by omega), fun _ => by omega⟩
  | f + 1, pos, hf => by
    unfold idxFuncFrom
    by_cases hp : pos < s.size
    · rw [if_pos hp]
      by_cases ha : (s[pos]'hp).toNat < 128
      · rw [Go.decode_ascii s pos hp ha]
        simp only
        by_cases hs : strP (s[pos]'hp).toNat = true
        · rw [if_pos hs]
          exact ⟨fun h => absurd h (by omega), fun h => absurd (h pos hp (Nat.le_refl _)) (by rw [hs]; decide)⟩
        · rw [if_neg hs, idxFrom_neg s f (pos + 1) (by omega)]
          refine ⟨fun h i hi hpi => ?_, fun h i hi hpi => h i hi (by omega)⟩
          rcases Nat.lt_or_ge pos i with hlt | hge
          · exact h i hi hlt
          · obtain rfl : i = pos := by omega
            simpa using hs
      · have hh := Go.decode_high s pos hp (by omega)
        rw [if_pos (strP_high hh.1)]
        exact ⟨fun h => absurd h (by omega), fun h => absurd (h pos hp (Nat.le_refl _)) (by rw [strP_high (by omega)]; decide)⟩
    · rw [if_neg hp]
      exact ⟨fun _ i h hpi => absurd h (by omega), fun _ => by omega⟩
theorem idx_neg (l : List UInt8) : idxFunc strP true (S l) < 0 ↔ ∀ i, i < l.length → strP (l.getD i 0).toNat = false := by
  unfold idxFunc
  rw [idxFrom_neg (S l) _ 0 (by omega)]
  have hs : (S l).size = l.length := S_size l
  constructor
  · intro h i hi
    have := h i (by rw [hs]; exact hi) (Nat.zero_le _)
    rw [List.getD_eq_getElem?_getD, List.getElem?_eq_getElem hi]
    exact this
  · intro h i hi _
    have hi' : i < l.length := by rw [hs] at hi; exact hi
    have := h i hi'
    rw [List.getD_eq_getElem?_getD, List.getElem?_eq_getElem hi'] at this
    exact this
theorem sidx_ok (l : List UInt8) (w : World) : FnV Tryd.prog 71 #[.string (S l), .func (.func 72) #[] #[]] w (.int .i64 (idxFunc strP true (S l))) := by
  have eg : ∀ args w, (callFunc 72 args).run Tryd.prog w = .ok (.enter 72 args) w := enters_of Tryd.func72 (by kernel_rfl) rfl
  have h := Any.strings_IndexFunc_runes laysGw15 72 #[] eg strP (S l) w (fun W x hx _ => strange_ok x W hx)
  exact Calls.mono h fun e w' ⟨h1, h2⟩ => ⟨_, h1, rfl, h2⟩
theorem strP_ok {c : Nat} (h : c = 45 ∨ (48 ≤ c ∧ c ≤ 57) ∨ (97 ≤ c ∧ c ≤ 122)) : strP c = false := by
  unfold strP
  rcases h with h | h | h <;> simp <;> omega
theorem strP_bad {c : Nat} (h : ¬ (c = 45 ∨ (48 ≤ c ∧ c ≤ 57) ∨ (97 ≤ c ∧ c ≤ 122))) : strP c = true := by
  unfold strP; simp; omega
theorem cWord_bad {s : List UInt8} {i : Nat} (h : i < s.length) (hb : strP (s.getD i 0).toNat = true) : cWord s = false :=
  decide_eq_false fun e => by have := e.2 i h; rw [hb] at this; cases this
theorem cWord_len {s : List UInt8} (h : ∀ i, i < s.length → strP (s.getD i 0).toNat = false) : cWord s = (decide (1 ≤ s.length) && decide (s.length ≤ 20)) := by
  unfold cWord
  rw [← Bool.decide_and]
  exact decide_eq_decide.2 ⟨fun e => e.1, fun e => ⟨e, h⟩⟩
theorem word_eq (s : List UInt8) : (!decide (s = []) && decide ((s.length : Int) ≤ 20) && decide (Go.Lib.idxFunc strP true (S s) < 0)) = cWord s := by
  unfold cWord
  rw [decide_eq_decide.2 (idx_neg s), ← decide_not, ← Bool.decide_and, ← Bool.decide_and]
  refine decide_eq_decide.2 ⟨fun e => ⟨⟨List.length_pos_iff.2 e.1.1, by omega⟩, e.2⟩, fun e => ⟨⟨List.length_pos_iff.1 (by omega), by omega⟩, e.2⟩⟩
def fineAt (l : List (List UInt8)) (i : Nat) : Bool := cWord (l.getD i default) && (decide (i = 0) || Op.bytesLess (l.getD (i - 1) default) (l.getD i default))
/-- may words be -/
def cFine (l : List (List UInt8)) : Bool := decide (l.length ≤ 20 ∧ ∀ i, i < l.length → fineAt l i = true)
theorem cFine_bad {l : List (List UInt8)} {i : Nat} (h : i < l.length) (hb : fineAt l i = false) : cFine l = false :=
  decide_eq_false fun e => by have := e.2 i h; rw [hb] at this; cases this
theorem cFine_len {l : List (List UInt8)} (h : ∀ i, i < l.length → fineAt l i = true) : cFine l = decide (l.length ≤ 20) :=
  decide_eq_decide.2 ⟨fun e => e.1, fun e => ⟨e, h⟩⟩
theorem bl_total : ∀ (a b : List UInt8), (Op.bytesLess a b || decide (a = b)) = !Op.bytesLess b a
  | [], [] => rfl
  | [], b :: y => by simp [Op.bytesLess]
  | a :: x, [] => by simp [Op.bytesLess]
  | a :: x, b :: y => by
    have ih := bl_total x y
    simp only [Op.bytesLess]
    by_cases h1 : a < b
    · have h2 : ¬ b < a := by rw [UInt8.lt_iff_toNat_lt] at *; omega
      have h3 : ¬ b = a := fun e => by subst e; exact h2 h1
      simp [h1, h2, h3]
    · by_cases h2 : b < a
      · have h3 : ¬ a = b := fun e => by subst e; exact h1 h2
        simp [h1, h2, h3]
      · have h3 : a = b := by
          apply UInt8.toNat.inj
          rw [UInt8.lt_iff_toNat_lt] at h1 h2; omega
        subst h3
        simp only [h1, decide_false, Bool.false_or, beq_self_eq_true, Bool.true_and]
        rw [← ih]
        congr 1
        exact decide_eq_decide.2 ⟨fun e => by injection e, fun e => by rw [e]⟩
theorem take_snocS (l : List (List UInt8)) (i : Nat) (h : i < l.length) : l.take (i + 1) = l.take i ++ [l.getD i default] := by
  rw [List.take_succ_eq_append_getElem h, List.getD_eq_getElem?_getD, List.getElem?_eq_getElem h]; rfl
theorem filt_snoc (p : List UInt8 → Bool) (l : List (List UInt8)) (i : Nat) (h : i < l.length) : (l.take (i + 1)).filter p = (l.take i).filter p ++ (if p (l.getD i default) = true then [l.getD i default] else []) := by
  rw [take_snocS l i h, List.filter_append]
  congr 1
  rw [List.filter_cons]; rfl
theorem own_nb {w : World} {b e sz n c : Nat} {A : Option Addr} {xs : List Value} (h : Own w (b + 1) e sz A n c xs) : (Value.slice A n c).ownBlock ≠ some b := fun he => by
  have h1 := (World.ownsRow.lt h b he).1
  omega
end Go.Kn
