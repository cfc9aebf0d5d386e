/-
  DERIVED. GIVEN WITH THE SEED: THE CARDS: each row of YtghiionknnpajaaGreatDoorRows.lean that lists a variable, with what it lists TIED to the program's text (the seventh form; the later family's looks); each row that meets fmt, with fmt's text TOLD by the authors' own Lean function (tested against real Go, not proved from fmt's source: count such statements apart). THE CARD IS WHAT COUNTS. Prove the row's statement (the work); the ties are given (YtghiionknnpajaaGreatDoorTie.lean); close each card by the builder's one call (the guide's Derived/Test/ToyasCard.lean, 'card_holds'). Laid BY PROGRAM, IN A SANDBOX (cutbox-door.mjs). By AI agents, Wed Nov 11 2026. No macro, syntax, notation, axiom, sorry.
-/
import Derived.Test.YtghiionknnpajaaGreatDoorRows
import GoSem.ClaimSeven
namespace Go.Proofs.YtghiionknnpajaaGreatDoor
namespace Rows

/-- THE TIED CARD OF 'joistlaw16.PlanGoes'. -/
def planGoesCard : Claim7 := { stood := { row := planGoesRow, standIns := [], harness := (true, "326a0b8dbaf169116dbf8dfca34b218dccf37d5f0e4d6a2647a20162e48f8129"), looks := false }, kinds := [], alts := [], laidByText := true, laidKinds := [.data, .pinned], laidTests := true, laidLooks := .later }
def PlanGoesCardSaid : Prop := Claim7.holds Tryz.pinned (.plain (OpenSpec.ofChange planGoesSpec)) planGoesCard

/-- THE TIED CARD OF 'joistlaw16.PlanCells'. -/
def planCellsCard : Claim7 := { stood := { row := planCellsRow, standIns := [], harness := (true, "326a0b8dbaf169116dbf8dfca34b218dccf37d5f0e4d6a2647a20162e48f8129"), looks := false }, kinds := [], alts := [], laidByText := true, laidKinds := [.data, .pinned], laidTests := true, laidLooks := .later }
def PlanCellsCardSaid : Prop := Claim7.holds Tryz.pinned (.plain (OpenSpec.ofChange planCellsSpec)) planCellsCard

/-- THE TIED CARD OF 'joistlaw16.PlanSeen'. -/
def planSeenCard : Claim7 := { stood := { row := planSeenRow, standIns := [], harness := (true, "326a0b8dbaf169116dbf8dfca34b218dccf37d5f0e4d6a2647a20162e48f8129"), looks := false }, kinds := [], alts := [], laidByText := true, laidKinds := [.data, .pinned], laidTests := true, laidLooks := .later }
def PlanSeenCardSaid : Prop := Claim7.holds Tryz.pinned (.plain (OpenSpec.ofChange planSeenSpec)) planSeenCard

/-- THE TIED CARD OF 'joistlaw16.PlanSees'. -/
def planSeesCard : Claim7 := { stood := { row := planSeesRow, standIns := [], harness := (true, "326a0b8dbaf169116dbf8dfca34b218dccf37d5f0e4d6a2647a20162e48f8129"), looks := false }, kinds := [], alts := [], laidByText := true, laidKinds := [.data, .pinned], laidTests := true, laidLooks := .later }
def PlanSeesCardSaid : Prop := Claim7.holds Tryz.pinned (.plain (OpenSpec.ofChange planSeesSpec)) planSeesCard

/-- THE TIED CARD OF 'joistlaw16.PlanWhere'. -/
def planWhereCard : Claim7 := { stood := { row := planWhereRow, standIns := [], harness := (true, "326a0b8dbaf169116dbf8dfca34b218dccf37d5f0e4d6a2647a20162e48f8129"), looks := false }, kinds := [], alts := [], laidByText := true, laidKinds := [.data, .pinned], laidTests := true, laidLooks := .later }
def PlanWhereCardSaid : Prop := Claim7.holds Tryz.pinned (.plain (OpenSpec.ofChange planWhereSpec)) planWhereCard

/-- THE TIED CARD OF 'joistlaw16.PlanChecks'. -/
def planChecksCard : Claim7 := { stood := { row := planChecksRow, standIns := [], harness := (true, "326a0b8dbaf169116dbf8dfca34b218dccf37d5f0e4d6a2647a20162e48f8129"), looks := false }, kinds := [], alts := [], laidByText := true, laidKinds := [.data, .pinned], laidTests := true, laidLooks := .later }
def PlanChecksCardSaid : Prop := Claim7.holds Tryz.pinned (.plain (OpenSpec.ofChange planChecksSpec)) planChecksCard

/-- THE SECOND FORM's CARD OF 'joistlaw16.PlanGoes'. -/
def planGoesUptoCard : Claim7 := { stood := { row := planGoesUptoRow, standIns := [], harness := (true, "326a0b8dbaf169116dbf8dfca34b218dccf37d5f0e4d6a2647a20162e48f8129"), looks := false }, kinds := [], alts := [], laidByText := true, laidKinds := [.data, .pinned], laidTests := true, laidLooks := .later }
def PlanGoesUptoCardSaid : Prop := Claim7.holds Tryz.pinned (.plain (OpenSpec.upto planGoesSpec)) planGoesUptoCard

/-- THE SECOND FORM's CARD OF 'joistlaw16.PlanCells'. -/
def planCellsUptoCard : Claim7 := { stood := { row := planCellsUptoRow, standIns := [], harness := (true, "326a0b8dbaf169116dbf8dfca34b218dccf37d5f0e4d6a2647a20162e48f8129"), looks := false }, kinds := [], alts := [], laidByText := true, laidKinds := [.data, .pinned], laidTests := true, laidLooks := .later }
def PlanCellsUptoCardSaid : Prop := Claim7.holds Tryz.pinned (.plain (OpenSpec.upto planCellsSpec)) planCellsUptoCard

/-- THE SECOND FORM's CARD OF 'joistlaw16.PlanSeen'. -/
def planSeenUptoCard : Claim7 := { stood := { row := planSeenUptoRow, standIns := [], harness := (true, "326a0b8dbaf169116dbf8dfca34b218dccf37d5f0e4d6a2647a20162e48f8129"), looks := false }, kinds := [], alts := [], laidByText := true, laidKinds := [.data, .pinned], laidTests := true, laidLooks := .later }
def PlanSeenUptoCardSaid : Prop := Claim7.holds Tryz.pinned (.plain (OpenSpec.upto planSeenSpec)) planSeenUptoCard

/-- THE SECOND FORM's CARD OF 'joistlaw16.PlanSees'. -/
def planSeesUptoCard : Claim7 := { stood := { row := planSeesUptoRow, standIns := [], harness := (true, "326a0b8dbaf169116dbf8dfca34b218dccf37d5f0e4d6a2647a20162e48f8129"), looks := false }, kinds := [], alts := [], laidByText := true, laidKinds := [.data, .pinned], laidTests := true, laidLooks := .later }
def PlanSeesUptoCardSaid : Prop := Claim7.holds Tryz.pinned (.plain (OpenSpec.upto planSeesSpec)) planSeesUptoCard

/-- THE SECOND FORM's CARD OF 'joistlaw16.PlanWhere'. -/
def planWhereUptoCard : Claim7 := { stood := { row := planWhereUptoRow, standIns := [], harness := (true, "326a0b8dbaf169116dbf8dfca34b218dccf37d5f0e4d6a2647a20162e48f8129"), looks := false }, kinds := [], alts := [], laidByText := true, laidKinds := [.data, .pinned], laidTests := true, laidLooks := .later }
def PlanWhereUptoCardSaid : Prop := Claim7.holds Tryz.pinned (.plain (OpenSpec.upto planWhereSpec)) planWhereUptoCard

/-- THE SECOND FORM's CARD OF 'joistlaw16.PlanChecks'. -/
def planChecksUptoCard : Claim7 := { stood := { row := planChecksUptoRow, standIns := [], harness := (true, "326a0b8dbaf169116dbf8dfca34b218dccf37d5f0e4d6a2647a20162e48f8129"), looks := false }, kinds := [], alts := [], laidByText := true, laidKinds := [.data, .pinned], laidTests := true, laidLooks := .later }
def PlanChecksUptoCardSaid : Prop := Claim7.holds Tryz.pinned (.plain (OpenSpec.upto planChecksSpec)) planChecksUptoCard
end Rows
end Go.Proofs.YtghiionknnpajaaGreatDoor
