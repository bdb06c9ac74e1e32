/-
  DERIVED. GIVEN WITH THE SEED: THE CARDS: each row of YtihmegmambmljaaDoorRows.lean that lists a variable, with what it lists TIED to the program's text (the seventh form; the later family's looks); each row that meets fmt, with fmt's text TOLD by the authors' own Lean function (tested against real Go, not proved from fmt's source: count such statements apart). THE CARD IS WHAT COUNTS. Prove the row's statement (the work); the ties are given (YtihmegmambmljaaDoorTie.lean); close each card by the builder's one call (the guide's Derived/Test/ToyasCard.lean, 'card_holds'). Laid BY PROGRAM, IN A SANDBOX (cutbox-door.mjs). By AI agents, Wed Nov 11 2026. No macro, syntax, notation, axiom, sorry.
-/
import Derived.Test.YtihmegmambmljaaDoorRows
import GoSem.ClaimSeven
namespace Go.Proofs.YtihmegmambmljaaDoor
namespace Rows

/-- THE TIED CARD OF 'knapsacklaw02.Sha256Tells'. -/
def sha256TellsCard : Claim7 := { stood := { row := sha256TellsRow, standIns := [], harness := (true, "0bb6c30f3a65a2f62b616826e91b103e6f663ada85b863a26f561da48cbf1432"), looks := false }, kinds := [], alts := [], laidByText := true, laidKinds := [.data], laidTests := true, laidLooks := .later }
def Sha256TellsCardSaid : Prop := Claim7.holds Tryd.pinned (.plain (OpenSpec.ofChange sha256TellsSpec)) sha256TellsCard

/-- THE TIED CARD OF 'knapsacklaw02.Sha256Parts'. -/
def sha256PartsCard : Claim7 := { stood := { row := sha256PartsRow, standIns := [], harness := (true, "0bb6c30f3a65a2f62b616826e91b103e6f663ada85b863a26f561da48cbf1432"), looks := false }, kinds := [], alts := [], laidByText := true, laidKinds := [.data], laidTests := true, laidLooks := .later }
def Sha256PartsCardSaid : Prop := Claim7.holds Tryd.pinned (.plain (OpenSpec.ofChange sha256PartsSpec)) sha256PartsCard

/-- THE TIED CARD OF 'knapsacklaw02.Sha256Writes'. -/
def sha256WritesCard : Claim7 := { stood := { row := sha256WritesRow, standIns := [], harness := (true, "0bb6c30f3a65a2f62b616826e91b103e6f663ada85b863a26f561da48cbf1432"), looks := false }, kinds := [], alts := [], laidByText := true, laidKinds := [.data], laidTests := true, laidLooks := .later }
def Sha256WritesCardSaid : Prop := Claim7.holds Tryd.pinned (.plain (OpenSpec.ofChange sha256WritesSpec)) sha256WritesCard

/-- THE TIED CARD OF 'knapsacklaw10.CapsChooses'. -/
def capsChoosesCard : Claim7 := { stood := { row := capsChoosesRow, standIns := [], harness := (true, "0bb6c30f3a65a2f62b616826e91b103e6f663ada85b863a26f561da48cbf1432"), looks := false }, kinds := [], alts := [], laidByText := true, laidKinds := [.data, .pinned], laidTests := true, laidLooks := .later }
def CapsChoosesCardSaid : Prop := Claim7.holds Tryd.pinned (.plain (OpenSpec.ofChange capsChoosesSpec)) capsChoosesCard

/-- THE TIED CARD OF 'knapsacklaw10.CapsTells'. -/
def capsTellsCard : Claim7 := { stood := { row := capsTellsRow, standIns := [], harness := (true, "0bb6c30f3a65a2f62b616826e91b103e6f663ada85b863a26f561da48cbf1432"), looks := false }, kinds := [], alts := [], laidByText := true, laidKinds := [.data, .pinned], laidTests := true, laidLooks := .later }
def CapsTellsCardSaid : Prop := Claim7.holds Tryd.pinned (.plain (OpenSpec.ofChange capsTellsSpec)) capsTellsCard

/-- THE TIED CARD OF 'knapsacklaw04.ObjectDecodes'. -/
def objectDecodesCard : Claim7 := { stood := { row := objectDecodesRow, standIns := [], harness := (true, "0bb6c30f3a65a2f62b616826e91b103e6f663ada85b863a26f561da48cbf1432"), looks := false }, kinds := [], alts := [], laidByText := true, laidKinds := [.data], laidTests := true, laidLooks := .later }
def ObjectDecodesCardSaid : Prop := Claim7.holds Tryd.pinned (.plain (OpenSpec.ofChange objectDecodesSpec)) objectDecodesCard

/-- THE SECOND FORM's CARD OF 'knapsacklaw02.Sha256Tells'. -/
def sha256TellsUptoCard : Claim7 := { stood := { row := sha256TellsUptoRow, standIns := [], harness := (true, "0bb6c30f3a65a2f62b616826e91b103e6f663ada85b863a26f561da48cbf1432"), looks := false }, kinds := [], alts := [], laidByText := true, laidKinds := [.data], laidTests := true, laidLooks := .later }
def Sha256TellsUptoCardSaid : Prop := Claim7.holds Tryd.pinned (.plain (OpenSpec.upto sha256TellsSpec)) sha256TellsUptoCard

/-- THE SECOND FORM's CARD OF 'knapsacklaw02.Sha256Parts'. -/
def sha256PartsUptoCard : Claim7 := { stood := { row := sha256PartsUptoRow, standIns := [], harness := (true, "0bb6c30f3a65a2f62b616826e91b103e6f663ada85b863a26f561da48cbf1432"), looks := false }, kinds := [], alts := [], laidByText := true, laidKinds := [.data], laidTests := true, laidLooks := .later }
def Sha256PartsUptoCardSaid : Prop := Claim7.holds Tryd.pinned (.plain (OpenSpec.upto sha256PartsSpec)) sha256PartsUptoCard

/-- THE SECOND FORM's CARD OF 'knapsacklaw02.Sha256Writes'. -/
def sha256WritesUptoCard : Claim7 := { stood := { row := sha256WritesUptoRow, standIns := [], harness := (true, "0bb6c30f3a65a2f62b616826e91b103e6f663ada85b863a26f561da48cbf1432"), looks := false }, kinds := [], alts := [], laidByText := true, laidKinds := [.data], laidTests := true, laidLooks := .later }
def Sha256WritesUptoCardSaid : Prop := Claim7.holds Tryd.pinned (.plain (OpenSpec.upto sha256WritesSpec)) sha256WritesUptoCard

/-- THE SECOND FORM's CARD OF 'knapsacklaw10.CapsChooses'. -/
def capsChoosesUptoCard : Claim7 := { stood := { row := capsChoosesUptoRow, standIns := [], harness := (true, "0bb6c30f3a65a2f62b616826e91b103e6f663ada85b863a26f561da48cbf1432"), looks := false }, kinds := [], alts := [], laidByText := true, laidKinds := [.data, .pinned], laidTests := true, laidLooks := .later }
def CapsChoosesUptoCardSaid : Prop := Claim7.holds Tryd.pinned (.plain (OpenSpec.upto capsChoosesSpec)) capsChoosesUptoCard

/-- THE SECOND FORM's CARD OF 'knapsacklaw10.CapsTells'. -/
def capsTellsUptoCard : Claim7 := { stood := { row := capsTellsUptoRow, standIns := [], harness := (true, "0bb6c30f3a65a2f62b616826e91b103e6f663ada85b863a26f561da48cbf1432"), looks := false }, kinds := [], alts := [], laidByText := true, laidKinds := [.data, .pinned], laidTests := true, laidLooks := .later }
def CapsTellsUptoCardSaid : Prop := Claim7.holds Tryd.pinned (.plain (OpenSpec.upto capsTellsSpec)) capsTellsUptoCard

/-- THE SECOND FORM's CARD OF 'knapsacklaw04.ObjectDecodes'. -/
def objectDecodesUptoCard : Claim7 := { stood := { row := objectDecodesUptoRow, standIns := [], harness := (true, "0bb6c30f3a65a2f62b616826e91b103e6f663ada85b863a26f561da48cbf1432"), looks := false }, kinds := [], alts := [], laidByText := true, laidKinds := [.data], laidTests := true, laidLooks := .later }
def ObjectDecodesUptoCardSaid : Prop := Claim7.holds Tryd.pinned (.plain (OpenSpec.upto objectDecodesSpec)) objectDecodesUptoCard
end Rows
end Go.Proofs.YtihmegmambmljaaDoor
