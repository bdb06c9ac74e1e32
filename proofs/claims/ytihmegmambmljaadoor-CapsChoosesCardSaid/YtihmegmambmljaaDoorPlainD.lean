/- Plain functions: numbers written (layer 1); steps (layer 5). -/
import Derived.Test.YtihmegmambmljaaDoorPlainC
import Derived.Test.YtihmegmambmljaaDoorEngG
namespace Go.Kn

def vputf : Nat → Nat → List UInt8
  | 0, n => [UInt8.ofNat n]
  | f + 1, n => if n < 128 then [UInt8.ofNat n] else UInt8.ofNat (128 + n % 128) :: vputf f (n / 128)
def vput (n : Nat) : List UInt8 := vputf 9 n
theorem vputf_len : ∀ f n, (vputf f n).length ≤ f + 1 ∧ 0 < (vputf f n).length := by
  intro f
  induction f with
  | zero => intro n; simp [vputf]
  | succ f ih =>
    intro n
    have := ih (n / 128)
    unfold vputf
    split
    · simp
    · simp only [List.length_cons]; omega
theorem vput_len (n : Nat) : (vput n).length ≤ 10 ∧ 0 < (vput n).length := vputf_len 9 n
theorem vdiv_lt {n f : Nat} (h : n < 2 ^ (1 + 7 * (f + 1))) : n / 128 < 2 ^ (1 + 7 * f) := by
  rw [show 1 + 7 * (f + 1) = (1 + 7 * f) + 7 by omega, Nat.pow_add] at h
  omega
theorem or128 (n : Nat) : n % 256 ||| 128 = 128 + n % 128 := by
  have key : ∀ m : Fin 256, m.val ||| 128 = 128 + m.val % 128 := by decide +kernel
  have := key ⟨n % 256, Nat.mod_lt _ (by omega)⟩
  simp only at this
  rw [this]; omega
theorem ofNat_mod (n : Nat) : UInt8.ofNat (n % 256) = UInt8.ofNat n := by
  apply UInt8.toNat_inj.1
  simp
theorem bys_pushN (a : List UInt8) (x : Nat) (h : x < 256) : bys a ++ [.int .u8 ((x : Nat) : Int)] = bys (a ++ [UInt8.ofNat x]) := by
  have e : (UInt8.ofNat x).toNat = x := by simp [Nat.mod_eq_of_lt h]
  have := bys_push a (UInt8.ofNat x)
  rwa [e] at this
def vtext (l : List UInt8) : List UInt8 := vput l.length ++ l

/-- a step: so many bytes from so far back; 0: this text, as it stands -/
structure StepR where
  N : Int
  Far : Int
  Text : List UInt8
deriving Inhabited
def encStep (x : StepR) : List Value := [.int .i64 x.N, .int .i64 x.Far, .string (S x.Text)]
theorem encStep_len : ∀ x, (encStep x).length = 3 := fun _ => rfl
def stepOne (x : StepR) : List UInt8 := if x.Far = 0 then vput (2 * x.Text.length) ++ x.Text else vput (2 * (x.N % 4096) + 1).toNat ++ vput (x.Far % 70000).toNat
def stepsOf (l : List StepR) : List UInt8 := 1 :: l.flatMap stepOne
def stepsTo (l : List StepR) (k : Nat) : List UInt8 := 1 :: (l.take k).flatMap stepOne
theorem stepsTo_succ (l : List StepR) (k : Nat) (h : k < l.length) : stepsTo l (k + 1) = stepsTo l k ++ stepOne (l.getD k default) := by
  unfold stepsTo
  rw [List.take_succ_eq_append_getElem h, List.flatMap_append]
  simp [List.getD_eq_getElem?_getD, h]
theorem stepsTo_len (l : List StepR) (k : Nat) (hk : k ≤ l.length) (h : ∀ i < l.length, (l.getD i default).Text.length ≤ 1000000) : (stepsTo l k).length ≤ 1 + k * 1000020 := by
  induction k with
  | zero => simp [stepsTo]
  | succ k ih =>
    rw [stepsTo_succ l k (by omega), List.length_append]
    have h1 := ih (by omega)
    have h2 := h k (by omega)
    have : (stepOne (l.getD k default)).length ≤ 1000020 := by
      unfold stepOne
      split
      · rw [List.length_append]
        have := vput_len (2 * (l.getD k default).Text.length)
        omega
      · rw [List.length_append]
        have := vput_len (2 * ((l.getD k default).N % 4096) + 1).toNat
        have := vput_len ((l.getD k default).Far % 70000).toNat
        omega
    omega
end Go.Kn
