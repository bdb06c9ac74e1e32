/- CapsChooses: for every input the law returns true, and each argument reads behind the call as it read before. -/
import Derived.Test.YtihmegmambmljaaDoorRows
import Derived.Test.YtihmegmambmljaaDoorVm
import Derived.Test.YtihmegmambmljaaDoorEngQ
import Derived.WalkKit
import Derived.ProofKit
import Derived.OpenShut
import Derived.ShutString
import Derived.ChangeOld
import Derived.Below
import Derived.SizedLaws
import Derived.LaidMore
import Derived.Stop.Joined
import Derived.Deep.DeepHandedRow
import Derived.Lay
import Derived.Shelf.Vars
namespace Go.Proofs.YtihmegmambmljaaDoor.rowCapsChooses
open Go.ChangeShapes Go.WideShapes Go.ChangeAt Go.RowKit
open Go.ChangeMaps (open_string shut_string)
set_option linter.unusedVariables false
set_option linter.unusedSimpArgs false
abbrev LAIDU : List (String × DataW Unit) := [("unicode/utf8.acceptRanges", Rows.laid_unicode_utf8_acceptRanges), ("unicode/utf8.first", Rows.laid_unicode_utf8_first)]
theorem own : ownKnob Tryd.prog.godebug = none := by kernel_rfl
set_option maxRecDepth 100000 in
theorem lifted (FF : Stop.Interp) (os : Os) (started : os.Started) (H : Type) (enc : TypeId × Value → H) :
    ReturnsInHanded {} Tryd.checked os 6 .any (fun w args => (Rows.capsChoosesSpec.pre enc Tryd.prog Tryd.f6 [] false w args ∧ laidMetH Tryd.prog LAIDU w) ∧ sizedMet enc Tryd.prog Tryd.f6 (OpenSpec.ofChange Rows.capsChoosesSpec) false w args) (Rows.capsChoosesSpec.post enc Tryd.prog Tryd.f6 false true false false) := by
  refine returnsInHanded_of_row (s := OpenSpec.ofChange Rows.capsChoosesSpec) (F := FF) (C := Tryd.checked) own started (by kernel_rfl) Tryd.func6
    (ChangeSpec.witness_shaped (s := Rows.capsChoosesSpec) (enc := enc) (C := Tryd.checked) (os := os) (X := fun w _ => laidMetH Tryd.prog LAIDU w) false (World.laidAll Tryd.prog os LAIDU) #[.slice none 0 0, .slice none 0 0] 8 (World.laidAll_os _ _ _)
      (World.shaped_of_ZipB (by kernel_rfl) (by kernel_rfl)) (by kernel_rfl) (by kernel_rfl) (by kernel_rfl) (by rw [MakeChecks.laidMetH_plain _ _ _ (by kernel_rfl)]; exact laidMet_laidAll _ (by kernel_rfl) (by kernel_rfl))) ?_
  intro W base args ds gs before hval0 hW hcnd hcond0 hsz0 hL hsh _
  obtain ⟨m, hm⟩ := Go.Proofs.cell_of_shapedOpen_int (P := Tryd.prog) (g := 1) (zero := #[.int .i64 0]) (t := 3) hsh (of_decide_eq_true (by kernel_rfl)) (by kernel_rfl) rfl (by kernel_rfl) (by kernel_rfl) Tryd.underlying3
  clear hsh hL hcond0
  have hsz : (DataW.weightsEach Tryd.prog (Tryd.f6.params.toList ++ Rows.capsChoosesSpec.plain.varTypes Tryd.prog) (ds ++ gs)).all (· ≤ reachBytes) = true := hsz0
  have hval : ∀ (j : Nat) t v, Tryd.f6.params[j]? = some t → args[j]? = some v → Value.okWide Tryd.prog W .any base t v := hval0
  have hW' := hW
  obtain ⟨p, q, hA0, hV, rfl, hfz, hnd⟩ := hW
  have hA : DataW.TrodAll enc Tryd.prog W 0 (fun _ => true) true Tryd.f6.params.toList args.toList ds p := hA0
  rw [Tryd.params6] at hA hval hsz
  obtain ⟨v0, vs0, d0, ds0, p0, q0, hargs, rfl, rfl, h0, r0⟩ := trodAll_cons hA
  obtain ⟨v1, vs1, d1, ds1, p1, q1, rfl, rfl, rfl, h1, r1⟩ := trodAll_cons r0
  obtain ⟨rfl, rfl, rfl⟩ := trodAll_nil r1
  obtain rfl : args = #[v0, v1] := by cases args; simp_all
  obtain ⟨rfl, rfl⟩ := trodVars_none hV
  have k0 := h0
  have u0 : ∀ x ∈ p0, x.block < W.heap.size := fun x hx => hW'.lt x (by simp [hx])
  obtain ⟨A0, c0, l0, rfl, rd0, ln0, y0⟩ := Go.Kn.open_list (en := Go.Kn.encS) (Q := fun a => a.length ≤ 9223372036854775807) (show Tryd.prog.underlying 29 = some (.slice 9) by kernel_rfl) (show Tryd.prog.cellsOf 9 = 1 by kernel_rfl) (by decide) Go.Kn.encS_len (fun n cs x hx => Go.Kn.opn_str (show Tryd.prog.underlying 9 = some .string by kernel_rfl) n cs x hx) (hval 0 29 v0 rfl rfl) h0
  have k1 := h1
  have u1 : ∀ x ∈ p1, x.block < W.heap.size := fun x hx => hW'.lt x (by simp [hx])
  obtain ⟨A1, c1, l1, rfl, rd1, ln1, y1⟩ := Go.Kn.open_list (en := Go.Kn.encS) (Q := fun a => a.length ≤ 9223372036854775807) (show Tryd.prog.underlying 29 = some (.slice 9) by kernel_rfl) (show Tryd.prog.cellsOf 9 = 1 by kernel_rfl) (by decide) Go.Kn.encS_len (fun n cs x hx => Go.Kn.opn_str (show Tryd.prog.underlying 9 = some .string by kernel_rfl) n cs x hx) (hval 1 29 v1 rfl rfl) h1
  clear hA0 hval0 hsz0 hsz
  refine Calls.mono (Go.Kn.capsChooses_walk A0 A1 c0 c1 l0 l1 W rd0 rd1 ln0 ln1 (fun i hi => by rw [List.getD_eq_getElem?_getD, List.getElem?_eq_getElem hi]; exact y0 _ (List.getElem_mem hi)) (fun i hi => by rw [List.getD_eq_getElem?_getD, List.getElem?_eq_getElem hi]; exact y1 _ (List.getElem_mem hi)) (fun w2 h2 => Go.Kn.knows10_ok m w2 (Go.Kn.cellE h2 hm))) fun e W' hh => ?_
  obtain ⟨_, rfl, rfl, bel⟩ := hh
  exact ⟨_, rfl, _, _, _, [], _, [], hW', trodAll_mk1 (shut_bool Tryd.underlying4 _), (trodAll_cons_mk (Below.trod (by kernel_rfl) (by kernel_rfl) (of_decide_eq_true (by kernel_rfl)) k0 bel u0) (trodAll_cons_mk (Below.trod (by kernel_rfl) (by kernel_rfl) (of_decide_eq_true (by kernel_rfl)) k1 bel u1) trodAll_mk0)), rfl, bel.frame _, fun h => by cases h⟩
theorem over : Rows.capsChoosesRow.holds Tryd.pinned (OpenSpec.ofChange Rows.capsChoosesSpec) :=
  OpenClaim.holds_of_wide 6 Tryd.f6 rfl rfl rfl rfl rfl rfl rfl ⟨rfl, rfl, rfl, rfl, rfl⟩ rfl rfl rfl rfl rfl (by kernel_rfl) Tryd.func6 (by kernel_rfl)
    (of_decide_eq_true (by kernel_rfl)) (by unfold Func.isWrapper; first | (rw [if_pos (by decide +kernel)]; kernel_rfl) | (rw [if_neg (by decide +kernel)]; exact ⟨rfl, rfl⟩))
    (fun os started H enc _ => lifted default os started H enc)
end Go.Proofs.YtihmegmambmljaaDoor.rowCapsChooses
namespace Go.Proofs.YtihmegmambmljaaDoor
theorem capsChooses_holds : Rows.CapsChoosesSaid := rowCapsChooses.over
#print axioms capsChooses_holds
end Go.Proofs.YtihmegmambmljaaDoor
