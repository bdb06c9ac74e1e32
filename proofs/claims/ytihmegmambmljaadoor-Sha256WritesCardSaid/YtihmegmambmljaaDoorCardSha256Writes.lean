/- THE TIED CARD of Sha256Writes. -/
import Derived.Test.YtihmegmambmljaaDoorRowSha256Writes
import Derived.Test.YtihmegmambmljaaDoorTie
import Derived.Test.YtihmegmambmljaaDoorCards
import Derived.SevenTiedAt
namespace Go.Proofs.YtihmegmambmljaaDoor
open Go
theorem sha256WritesCard_holds : Rows.Sha256WritesCardSaid :=
  Claim7.holds_tied_plain_at .later [] [.data] true (true, "0bb6c30f3a65a2f62b616826e91b103e6f663ada85b863a26f561da48cbf1432") false
    sha256Writes_holds (fun _ h => by cases h) (by kernel_rfl) (fun _ h => by cases h) sha256Writes_row_tie rfl ⟨rfl, rfl⟩ (by kernel_rfl) rfl
    (fun f fn hf hfn => by
      obtain rfl : f = 5 := Option.some.inj ((show Tryd.prog.funcNamed "knapsack/knapsacklaw02.Sha256Writes" = some 5 by kernel_rfl).symm.trans hf) |>.symm
      obtain rfl : fn = Tryd.f5 := (Option.some.inj (Tryd.func5.symm.trans hfn)).symm
      exact ⟨by kernel_rfl, fun j t ht => by
        rw [Tryd.params5] at ht
        have hm : t ∈ [24, 9] := by simpa using Array.mem_of_getElem? ht
        have hall : ([24, 9].all fun u => !Tryd.prog.wantsStandIn u) = true := by kernel_rfl
        exact (show Tryd.prog.wantsStandIn t = false by simpa using List.all_eq_true.1 hall t hm)⟩)
    (by kernel_rfl)
#print axioms sha256WritesCard_holds
end Go.Proofs.YtihmegmambmljaaDoor
