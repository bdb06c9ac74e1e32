/- THE TIED CARD of CapsChooses. -/
import Derived.Test.YtihmegmambmljaaDoorRowCapsChooses
import Derived.Test.YtihmegmambmljaaDoorTie
import Derived.Test.YtihmegmambmljaaDoorCards
import Derived.SevenTiedAt
namespace Go.Proofs.YtihmegmambmljaaDoor
open Go
theorem capsChoosesCard_holds : Rows.CapsChoosesCardSaid :=
  Claim7.holds_tied_plain_at .later [] [.data, .pinned] true (true, "0bb6c30f3a65a2f62b616826e91b103e6f663ada85b863a26f561da48cbf1432") false
    capsChooses_holds (fun _ h => by cases h) (by kernel_rfl) (fun _ h => by cases h) capsChooses_row_tie rfl ⟨rfl, rfl⟩ (by kernel_rfl) rfl
    (fun f fn hf hfn => by
      obtain rfl : f = 6 := Option.some.inj ((show Tryd.prog.funcNamed "knapsack/knapsacklaw10.CapsChooses" = some 6 by kernel_rfl).symm.trans hf) |>.symm
      obtain rfl : fn = Tryd.f6 := (Option.some.inj (Tryd.func6.symm.trans hfn)).symm
      exact ⟨by kernel_rfl, fun j t ht => by
        rw [Tryd.params6] at ht
        have hm : t ∈ [29] := by simpa using Array.mem_of_getElem? ht
        have hall : ([29].all fun u => !Tryd.prog.wantsStandIn u) = true := by kernel_rfl
        exact (show Tryd.prog.wantsStandIn t = false by simpa using List.all_eq_true.1 hall t hm)⟩)
    (by kernel_rfl)
#print axioms capsChoosesCard_holds
end Go.Proofs.YtihmegmambmljaaDoor
