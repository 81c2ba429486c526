/-
  DERIVED. GIVEN WITH THE SEED: THE CARDS: each row of YtlcfkdglknkbdaaDoorRows.lean that lists a variable, with what it lists TIED to the program's text (the seventh form; the later family's looks); each row that meets fmt, with fmt's text TOLD by the authors' own Lean function (tested against real Go, not proved from fmt's source: count such statements apart). THE CARD IS WHAT COUNTS. Prove the row's statement (the work); the ties are given (YtlcfkdglknkbdaaDoorTie.lean); close each card by the builder's one call (the guide's Derived/Test/ToyasCard.lean, 'card_holds'). Laid BY PROGRAM, IN A SANDBOX (cutbox-door.mjs). By AI agents, Wed Nov 11 2026. No macro, syntax, notation, axiom, sorry.
-/
import Derived.Test.YtlcfkdglknkbdaaDoorRows
import GoSem.ClaimSeven
namespace Go.Proofs.YtlcfkdglknkbdaaDoor
namespace Rows

/-- THE TIED CARD OF 'sextonlaw19.LotsMore'. -/
def lotsMoreCard : Claim7 := { stood := { row := lotsMoreRow, standIns := [], harness := (true, "98b8ea3207767fda6c3fc32ea1348cf9ace0c1d23ac590e65dfcca15303bc410"), looks := true }, kinds := [], alts := [], laidByText := true, laidKinds := [.sentinel], laidTests := true, laidLooks := .later }
def LotsMoreCardSaid : Prop := Claim7.holds Tryd.pinned (.plain (OpenSpec.ofChange lotsMoreSpec)) lotsMoreCard

/-- THE TIED CARD OF 'sextonlaw19.LotsBytes'. -/
def lotsBytesCard : Claim7 := { stood := { row := lotsBytesRow, standIns := [], harness := (true, "98b8ea3207767fda6c3fc32ea1348cf9ace0c1d23ac590e65dfcca15303bc410"), looks := true }, kinds := [], alts := [], laidByText := true, laidKinds := [.sentinel], laidTests := true, laidLooks := .later }
def LotsBytesCardSaid : Prop := Claim7.holds Tryd.pinned (.plain (OpenSpec.ofChange lotsBytesSpec)) lotsBytesCard

/-- THE TIED CARD OF 'sextonlaw19.LotsRuns'. -/
def lotsRunsCard : Claim7 := { stood := { row := lotsRunsRow, standIns := [], harness := (true, "98b8ea3207767fda6c3fc32ea1348cf9ace0c1d23ac590e65dfcca15303bc410"), looks := true }, kinds := [], alts := [], laidByText := true, laidKinds := [.sentinel], laidTests := true, laidLooks := .later }
def LotsRunsCardSaid : Prop := Claim7.holds Tryd.pinned (.plain (OpenSpec.ofChange lotsRunsSpec)) lotsRunsCard

/-- THE TIED CARD OF 'sextonlaw19.LotsBack'. -/
def lotsBackCard : Claim7 := { stood := { row := lotsBackRow, standIns := [], harness := (true, "98b8ea3207767fda6c3fc32ea1348cf9ace0c1d23ac590e65dfcca15303bc410"), looks := true }, kinds := [], alts := [], laidByText := true, laidKinds := [.sentinel], laidTests := true, laidLooks := .later }
def LotsBackCardSaid : Prop := Claim7.holds Tryd.pinned (.plain (OpenSpec.ofChange lotsBackSpec)) lotsBackCard

/-- THE TIED CARD OF 'sextonlaw19.LotsWrites'. -/
def lotsWritesCard : Claim7 := { stood := { row := lotsWritesRow, standIns := [], harness := (true, "98b8ea3207767fda6c3fc32ea1348cf9ace0c1d23ac590e65dfcca15303bc410"), looks := true }, kinds := [], alts := [], laidByText := true, laidKinds := [.sentinel], laidTests := true, laidLooks := .later }
def LotsWritesCardSaid : Prop := Claim7.holds Tryd.pinned (.plain (OpenSpec.ofChange lotsWritesSpec)) lotsWritesCard

/-- THE SECOND FORM's CARD OF 'sextonlaw19.LotsMore'. -/
def lotsMoreUptoCard : Claim7 := { stood := { row := lotsMoreUptoRow, standIns := [], harness := (true, "98b8ea3207767fda6c3fc32ea1348cf9ace0c1d23ac590e65dfcca15303bc410"), looks := true }, kinds := [], alts := [], laidByText := true, laidKinds := [.sentinel], laidTests := true, laidLooks := .later }
def LotsMoreUptoCardSaid : Prop := Claim7.holds Tryd.pinned (.plain (OpenSpec.upto lotsMoreSpec)) lotsMoreUptoCard

/-- THE SECOND FORM's CARD OF 'sextonlaw19.LotsBytes'. -/
def lotsBytesUptoCard : Claim7 := { stood := { row := lotsBytesUptoRow, standIns := [], harness := (true, "98b8ea3207767fda6c3fc32ea1348cf9ace0c1d23ac590e65dfcca15303bc410"), looks := true }, kinds := [], alts := [], laidByText := true, laidKinds := [.sentinel], laidTests := true, laidLooks := .later }
def LotsBytesUptoCardSaid : Prop := Claim7.holds Tryd.pinned (.plain (OpenSpec.upto lotsBytesSpec)) lotsBytesUptoCard

/-- THE SECOND FORM's CARD OF 'sextonlaw19.LotsRuns'. -/
def lotsRunsUptoCard : Claim7 := { stood := { row := lotsRunsUptoRow, standIns := [], harness := (true, "98b8ea3207767fda6c3fc32ea1348cf9ace0c1d23ac590e65dfcca15303bc410"), looks := true }, kinds := [], alts := [], laidByText := true, laidKinds := [.sentinel], laidTests := true, laidLooks := .later }
def LotsRunsUptoCardSaid : Prop := Claim7.holds Tryd.pinned (.plain (OpenSpec.upto lotsRunsSpec)) lotsRunsUptoCard

/-- THE SECOND FORM's CARD OF 'sextonlaw19.LotsBack'. -/
def lotsBackUptoCard : Claim7 := { stood := { row := lotsBackUptoRow, standIns := [], harness := (true, "98b8ea3207767fda6c3fc32ea1348cf9ace0c1d23ac590e65dfcca15303bc410"), looks := true }, kinds := [], alts := [], laidByText := true, laidKinds := [.sentinel], laidTests := true, laidLooks := .later }
def LotsBackUptoCardSaid : Prop := Claim7.holds Tryd.pinned (.plain (OpenSpec.upto lotsBackSpec)) lotsBackUptoCard

/-- THE SECOND FORM's CARD OF 'sextonlaw19.LotsWrites'. -/
def lotsWritesUptoCard : Claim7 := { stood := { row := lotsWritesUptoRow, standIns := [], harness := (true, "98b8ea3207767fda6c3fc32ea1348cf9ace0c1d23ac590e65dfcca15303bc410"), looks := true }, kinds := [], alts := [], laidByText := true, laidKinds := [.sentinel], laidTests := true, laidLooks := .later }
def LotsWritesUptoCardSaid : Prop := Claim7.holds Tryd.pinned (.plain (OpenSpec.upto lotsWritesSpec)) lotsWritesUptoCard
end Rows
end Go.Proofs.YtlcfkdglknkbdaaDoor
