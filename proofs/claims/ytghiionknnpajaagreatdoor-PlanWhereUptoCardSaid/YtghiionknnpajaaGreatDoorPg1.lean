/- joistlaw16.PlanGoes, the second form: the row, the card. -/
import Derived.Test.YtghiionknnpajaaGreatDoorBr3
import Derived.Test.YtghiionknnpajaaGreatDoorC21
import Derived.Test.YtghiionknnpajaaGreatDoorCards
import Derived.Test.YtghiionknnpajaaGreatDoorTie
import Derived.WalkKit
set_option linter.unusedVariables false
set_option linter.unusedSimpArgs false
namespace Go.Proofs.YtghiionknnpajaaGreatDoor
open Go.Ab.S2 Go.Ab Go.ChangeShapes Go.WideShapes Go.ChangeAt Go.RowKit
set_option maxRecDepth 100000

theorem own : ownKnob Tryz.prog.godebug = none := by kernel_rfl

/-- A world for the witness: the settled one, the two variables holding what their initialisers lay. -/
noncomputable def laidWorld (os : Os) : World :=
  let w0 := World.holding Tryz.prog os ⟨#[], #[], []⟩
  let put (h : Array Obj) (g : Nat) (cs : Array Go.Value) : Array Obj := h.modify g fun
    | .cells _ t frozen => .cells cs t frozen
    | o => o
  let h1 := put w0.heap 0 (Lib.firstTab.map fun z => Go.Value.int .u8 z).toArray
  let h2 := put h1 1 ((List.range 16).flatMap fun i => [Go.Value.int .u8 (Lib.accLo i), Go.Value.int .u8 (Lib.accHi i)]).toArray
  { w0 with heap := h2 }

theorem accept_eq : (Rows.laid_unicode_utf8_acceptRanges : DataW Unit) = Lib.acceptData := by kernel_rfl
theorem first_eq : Rows.laid_unicode_utf8_first = Lib.firstData := by kernel_rfl

def laidTwo : List (String × DataW Unit) := [("unicode/utf8.acceptRanges", Rows.laid_unicode_utf8_acceptRanges), ("unicode/utf8.first", Rows.laid_unicode_utf8_first)]

theorem tabs {W : World} (hL : laidMetH Tryz.prog laidTwo W) : Lib.Utf8Tabs 0 1 W :=
  utf8Tabs_of_readsT (U8Types.of196 lays196) ⟨by kernel_rfl, by kernel_rfl, by kernel_rfl, by kernel_rfl, by kernel_rfl, by kernel_rfl, by kernel_rfl⟩
    (by rw [← first_eq]; exact Lib.laidMet.reads hL (.tail _ (.head _))) (by rw [← accept_eq]; exact Lib.laidMet.reads hL (.head _))

theorem laid_met (os : Os) (args : Array Go.Value) : laidMet Tryz.prog laidTwo ((laidWorld os).forCall (fun _ _ => 0) ⟨#[], args, []⟩).memory :=
  (LaidIn.of_run (l := laidTwo) [1, 0] 8 (by kernel_rfl) (by kernel_rfl) (by kernel_rfl) (by kernel_rfl)).met
end Go.Proofs.YtghiionknnpajaaGreatDoor
