import Derived.Test.YtihmegmambmljaaDoorPlainF
import Derived.Test.YtihmegmambmljaaDoorWe
set_option linter.unusedSimpArgs false
set_option linter.unusedVariables false
set_option maxRecDepth 100000
namespace Go.Kn
open Go.Proofs
theorem mkRes1 (v : Value) : mkRes [v] = v := rfl
theorem keyU32 : KeyOk (fun n : Nat => Value.int .u32 (n : Int)) (.int .u32) := ⟨fun x => by simp [Go.MapKept.IsKey], fun x y h => by injection h with _ h; omega⟩
end Go.Kn
