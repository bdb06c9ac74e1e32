/- LzSteps: for every input the law returns true, and each argument reads behind the call as it read before. -/
import Derived.Test.YtihmegmambmljaaRows
import Derived.Test.YtihmegmambmljaaWe
import Derived.Test.YtihmegmambmljaaPlainE
import Derived.WalkKit
import Derived.ProofKit
import Derived.OpenShut
import Derived.ShutString
import Derived.ChangeOld
import Derived.Below
import Derived.SizedLaws
namespace Go.Proofs.Ytihmegmambmljaa.rowLzSteps
open Go.ChangeShapes Go.WideShapes Go.ChangeAt Go.RowKit
open Go.ChangeMaps (open_string shut_string)
set_option linter.unusedVariables false
set_option linter.unusedSimpArgs false
theorem own : ownKnob Try.prog.godebug = none := by kernel_rfl
set_option maxRecDepth 100000 in
theorem lifted (os : Os) (started : os.Started) (H : Type) (enc : TypeId × Value → H) :
    ReturnsInHanded {} Try.checked os 4 .any (Rows.lzStepsSpec.pre6 enc Try.prog Try.f4 Rows.lzStepsRow.domain false) (Rows.lzStepsSpec.post enc Try.prog Try.f4 false true false false) := by
  refine returnsInHanded_of_change_sized (C := Try.checked) own started (by kernel_rfl) Try.func4
    (ChangeSpec.witness6 (enc := enc) (C := Try.checked) false ⟨#[], #[.slice none 0 0, .int .i64 0], []⟩ 8 (by kernel_rfl) (by kernel_rfl) (by kernel_rfl) (by kernel_rfl)) ?_
  intro W base args ds gs before hval0 hW hcnd hsz0 _
  have hsz : (DataW.weightsEach Try.prog (Try.f4.params.toList ++ Rows.lzStepsSpec.plain.varTypes Try.prog) (ds ++ gs)).all (· ≤ reachBytes) = true := hsz0
  have hval : ∀ (j : Nat) t v, Try.f4.params[j]? = some t → args[j]? = some v → Value.okWide Try.prog W .any base t v := hval0
  have hW' := hW
  obtain ⟨p, q, hA0, hV, rfl, hfz, hnd⟩ := hW
  have hA : DataW.TrodAll enc Try.prog W 0 (fun _ => true) true Try.f4.params.toList args.toList ds p := hA0
  rw [Try.params4] at hA hval hsz
  obtain ⟨v0, vs0, d0, ds0, p0, q0, hargs, rfl, rfl, h0, r0⟩ := trodAll_cons hA
  obtain ⟨v1, vs1, d1, ds1, p1, q1, rfl, rfl, rfl, h1, r1⟩ := trodAll_cons r0
  obtain ⟨rfl, rfl, rfl⟩ := trodAll_nil r1
  obtain rfl : args = #[v0, v1] := by cases args; simp_all
  obtain ⟨rfl, rfl⟩ := trodVars_none hV
  have k0 := h0
  have u0 : ∀ x ∈ p0, x.block < W.heap.size := fun x hx => hW'.lt x (by simp [hx])
  obtain ⟨A0, c0, l0, rfl, rd0, ln0, y0⟩ := Go.Kn.open_list (en := Go.Kn.encStep) (Q := fun a => Go.Kn.InR .i64 a.N ∧ Go.Kn.InR .i64 a.Far) (show Try.prog.underlying 29 = some (.slice 31) by kernel_rfl) (show Try.prog.cellsOf 31 = 3 by kernel_rfl) (by decide) Go.Kn.encStep_len (fun n cs x hx => Go.Kn.open_step (show Try.prog.underlying 31 = some (.struct #[⟨"N", 3, 0, false, "", "", 0⟩, ⟨"Far", 3, 1, false, "", "", 8⟩, ⟨"Text", 9, 2, false, "", "", 16⟩]) by kernel_rfl) (show Try.prog.underlying 3 = _ by kernel_rfl) (show Try.prog.underlying 3 = _ by kernel_rfl) (show Try.prog.underlying 9 = _ by kernel_rfl) rfl rfl rfl (by kernel_rfl) (by kernel_rfl) (by kernel_rfl) (by kernel_rfl) hx) (hval 0 29 v0 rfl rfl) h0
  obtain ⟨a1, rfl, rfl, rfl, y1⟩ := open_int Try.underlying3 (hval 1 3 v1 rfl rfl) h1
  clear hA0 hval0 hsz0 hsz
  refine Calls.mono (Go.Kn.lzSteps_walk A0 c0 l0 a1 W rd0 (Go.Kn.inr_wf y1)) fun e W' hh => ?_
  obtain ⟨_, rfl, rfl, bel⟩ := hh
  exact ⟨_, rfl, _, _, _, [], _, [], hW', trodAll_mk1 (shut_bool Try.underlying4 _), (trodAll_cons_mk (Below.trod (by kernel_rfl) (by kernel_rfl) (of_decide_eq_true (by kernel_rfl)) k0 bel u0) (trodAll_cons_mk (shut_int Try.underlying3 y1) trodAll_mk0)), rfl, bel.frame _, fun h => by cases h⟩
theorem over : Rows.lzStepsRow.holds Try.pinned (OpenSpec.ofChange Rows.lzStepsSpec) :=
  OpenClaim.holds_of_wide 4 Try.f4 rfl rfl rfl rfl rfl rfl rfl ⟨rfl, rfl, rfl, rfl, rfl⟩ rfl rfl rfl rfl rfl (by kernel_rfl) Try.func4 (by kernel_rfl)
    (of_decide_eq_true (by kernel_rfl)) (by unfold Func.isWrapper; first | (rw [if_pos (by decide +kernel)]; kernel_rfl) | (rw [if_neg (by decide +kernel)]; exact ⟨rfl, rfl⟩))
    (fun os started H enc _ => lifted os started H enc)
end Go.Proofs.Ytihmegmambmljaa.rowLzSteps
namespace Go.Proofs.Ytihmegmambmljaa
theorem lzSteps_holds : Rows.LzStepsSaid := rowLzSteps.over
#print axioms lzSteps_holds
end Go.Proofs.Ytihmegmambmljaa
