/- Lists of u16 numbers. -/
import Derived.Test.YtihmegmambmljaaDoorPlainM
import Derived.Test.YtihmegmambmljaaDoorEngR
import Derived.Test.YtihmegmambmljaaDoorEngQ
namespace Go.Kn
def encU16 (v : UInt16) : List Value := [.int .u16 ((v.toNat : Nat) : Int)]
theorem encU16_len (v : UInt16) : (encU16 v).length = 1 := rfl
theorem u16_lt (v : UInt16) : v.toNat < 65536 := v.toNat_lt
section
variable {H : Type} {enc : TypeId × Value → H} {P : Program} {w : World} {base : Nat} {spare : Nat → Bool} {held : Bool}
theorem opn_u16 {t : TypeId} (h : P.underlying t = some (.int .u16)) : Opn enc P w base spare held t fun cs => ∃ a : UInt16, cs = encU16 a ∧ True := by
  intro n cs x hx
  obtain ⟨k, e, hk⟩ := opn_nat (k := .u16) rfl h n cs x hx
  obtain ⟨-, hk⟩ := hk
  have hk' : k < 65536 := by
    have : IntKind.max .u16 = 65535 := rfl
    omega
  refine ⟨UInt16.ofNat k, ?_, trivial⟩
  rw [e, encU16, UInt16.toNat_ofNat_of_lt' hk']
end
end Go.Kn
