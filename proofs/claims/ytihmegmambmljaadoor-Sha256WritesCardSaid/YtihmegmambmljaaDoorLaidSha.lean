/- The table of the sums' constants: the door's run lays it; what the condition gives the walks. -/
import Derived.Test.YtihmegmambmljaaDoorRows
import Derived.Test.YtihmegmambmljaaDoorChecked
import Derived.Test.YtihmegmambmljaaDoorEng
import Derived.Test.YtihmegmambmljaaDoorPlainK
import Derived.Test.YtihmegmambmljaaDoorEngR
import Derived.ProofKit
import Derived.LaidMore
import Derived.OpenShut
import Derived.Stop.Joined
namespace Go.Kn
open Go.Proofs
set_option maxRecDepth 100000
open Go.ChangeShapes Go.WideShapes Go.ChangeAt Go.RowKit
set_option linter.unusedVariables false
abbrev LAIDK : List (String × DataW Unit) := [("knapsack/sha256.constants", Go.Proofs.YtihmegmambmljaaDoor.Rows.laid_knapsack_sha256_constants)]
theorem gK : Tryd.prog.globalNamed "knapsack/sha256.constants" = some 0 := by kernel_rfl
theorem tK : (Tryd.prog.globals[0]?).map (·.type) = some 67 := by kernel_rfl
theorem door_met (os : Os) (args : Array Value) : laidMetH Tryd.prog LAIDK ((World.doorLaid Tryd.prog 400 os).forCall (fun _ _ => 0) ⟨#[], args, []⟩).memory :=
  laidMetH_of_parts3 (fuel := 8) (laidMet_of_run' 8 (by kernel_rfl) (by kernel_rfl)) (by kernel_rfl) (by kernel_rfl)
theorem kdata : (Go.Proofs.YtihmegmambmljaaDoor.Rows.laid_knapsack_sha256_constants : DataW Unit) = .agg (shaKl.map fun v => .lit (.int .u32 ((v : Nat) : Int))) := rfl
theorem cells_u32 {P : Program} {enc : TypeId × Value → Unit} {w : World} {e : TypeId} {m : Nat} {sp : Nat → Bool} (he : P.underlying e = some (.int .u32)) (hc : P.cellsOf e = 1) :
    ∀ (l : List Nat) (cs : List Value) (xs : List (DataW Unit × List MemPlace)), cs.length = l.length → xs.map (·.1) = l.map (fun v => DataW.lit (.int .u32 ((v : Nat) : Int))) →
      (∀ i, i < l.length → DataW.trod enc P w 0 sp false m e ((cs.drop (i * P.cellsOf e)).take (P.cellsOf e)) = xs[i]?) → cs = l.map wcv := by
  intro l
  induction l with
  | nil => intro cs xs hl _ _; simpa using hl
  | cons v l ih =>
    intro cs xs hl hx hel
    cases cs with
    | nil => simp at hl
    | cons c cs =>
      cases xs with
      | nil => simp at hx
      | cons x xs =>
        simp only [List.map_cons, List.cons.injEq] at hx
        have h0 := hel 0 (by simp)
        rw [hc] at h0
        simp only [Nat.zero_mul, List.drop_zero, List.take_succ_cons, List.take_zero, List.getElem?_cons_zero] at h0
        obtain ⟨k, e1, e2, _⟩ := DataW.trod_int he h0
        have hk : k = ((v : Nat) : Int) := by rw [e2] at hx; simpa using hx.1
        have hc0 : c = wcv v := by
          simp only [List.cons.injEq, and_true] at e1
          rw [e1, hk]; rfl
        rw [hc0, List.map_cons, ih cs xs (by simpa using hl) hx.2 (fun i hi => by
          have h := hel (i + 1) (by simpa using hi)
          rw [hc] at h ⊢
          simpa using h)]
theorem of_laid {W : World} (h : laidMetH Tryd.prog LAIDK W) : ∃ T0 f0, W.heap[0]? = some (.cells ⟨wc shaK⟩ T0 f0) := by
  rw [MakeChecks.laidMetH_plain _ _ _ (by kernel_rfl)] at h
  obtain ⟨ps, ⟨g0, t0, cs0, f0, p0, q0, hg0, ht0, hv0, hd0, _, _⟩, _, _⟩ := h
  obtain rfl := Option.some.inj (gK.symm.trans hg0)
  obtain rfl := Option.some.inj (tK.symm.trans ht0)
  have hu : Tryd.prog.underlying 67 = some (.array 64 52) := by kernel_rfl
  have hc1 : Tryd.prog.cellsOf 52 = 1 := by kernel_rfl
  have hc2 : Tryd.prog.cellsOf 67 = 64 := by kernel_rfl
  obtain ⟨xs, m1, rfl, hx1, hlen, hn3, hel⟩ := DataW.trod_array hu hd0
  simp only [Prod.mk.injEq] at hx1
  have hx2 := hx1.1
  rw [kdata, DataW.agg.injEq] at hx2
  have hsl : shaKl.length = 64 := rfl
  have hcs : cs0.toList = shaKl.map wcv := cells_u32 (show Tryd.prog.underlying 52 = some (.int .u32) by kernel_rfl) hc1 shaKl cs0.toList xs (by rw [hlen, hc2, hsl]) hx2.symm (fun i hi => hel i (by rw [hsl] at hi; exact hi))
  have hcs' : cs0 = ⟨wc shaK⟩ := by
    apply Array.ext'
    rw [hcs]; rfl
  subst hcs'
  simp only [World.var?, gK, Option.bind_some] at hv0
  split at hv0
  · rename_i cs T f hh
    obtain rfl := Option.some.inj hv0
    exact ⟨T, f, hh⟩
  · cases hv0
end Go.Kn
