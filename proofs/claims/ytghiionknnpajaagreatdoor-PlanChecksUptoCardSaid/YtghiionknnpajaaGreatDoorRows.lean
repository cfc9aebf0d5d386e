/-
  NARROWER THAN 'FOR EVERY INPUT', by the rows' own cells (each row's printed sentence says how): PlanGoes: laid · PlanCells: laid · PlanSeen: laid · PlanSees: laid · PlanWhere: laid · PlanChecks: laid.
  DERIVED. THE GIVEN ROWS OF THIS SEAT. 6 by the template 'for every input the law returns true; each argument reads behind the call as it read before'; 0 by the template 'total and deterministic' (their statements: YtghiionknnpajaaGreatDoorTotals.lean).
  GIVEN WITH THE SEED: the statements are not yours to turn. If you find one false, say at which input.
  Laid BY PROGRAM, IN A SANDBOX (cutbox-rows.mjs): the forced cells as the released guide's own fill.sh prints them over the translation ac1a069485fc785c… (all of the seat's roots in one cut). By AI agents, Wed Nov 11 2026. No macro, syntax, notation, axiom, sorry.
-/
import Derived.Test.YtghiionknnpajaaGreatDoorChecked
import GoSem.PinnedTables
import GoSem.Claim
import GoSem.ClaimJoined
import GoSem.ClaimMapViews
import Derived.JoinedTies
import Derived.KernelRfl
namespace Go.Proofs.YtghiionknnpajaaGreatDoor
/- THE CELL 'sum', in the pinned program and in every row, IS THE sha256 OF THE DUMP (.gsa) THAT YtghiionknnpajaaGreatDoorProg.lean LOADS. Nothing in Lean hashes anything: it is a label: what it is worth is what the hold of that sum in a sandbox is worth. -/
noncomputable def Tryz.pinned : Pinned := { name := "ytghiionknnpajaagreatdoor", sum := "ac1a069485fc785cb4b48523b0bd6b59e49b2d6ca08ac10aed93e0363945fa0f", checked := Tryz.checked }
namespace Rows
def none {H : Type} : Left H := { results := [], args := [] }

/- WHAT THE LISTED PACKAGE-LEVEL VARIABLES READ AS WHEN THE CALL BEGINS. Each datum BY PROGRAM (the guide's laid-datum.mjs) off the statement by which the dump's own 'gosem.cut.vars' lays the variable. In a bare row this is a premise. The card (YtghiionknnpajaaGreatDoorCards.lean) ties it to the program's text. -/
def laid_unicode_utf8_acceptRanges {H : Type} : DataW H := .agg [.agg [.lit (.int .u8 128), .lit (.int .u8 191)], .agg [.lit (.int .u8 160), .lit (.int .u8 191)], .agg [.lit (.int .u8 128), .lit (.int .u8 159)], .agg [.lit (.int .u8 144), .lit (.int .u8 191)], .agg [.lit (.int .u8 128), .lit (.int .u8 143)], .agg [.lit (.int .u8 0), .lit (.int .u8 0)], .agg [.lit (.int .u8 0), .lit (.int .u8 0)], .agg [.lit (.int .u8 0), .lit (.int .u8 0)], .agg [.lit (.int .u8 0), .lit (.int .u8 0)], .agg [.lit (.int .u8 0), .lit (.int .u8 0)], .agg [.lit (.int .u8 0), .lit (.int .u8 0)], .agg [.lit (.int .u8 0), .lit (.int .u8 0)], .agg [.lit (.int .u8 0), .lit (.int .u8 0)], .agg [.lit (.int .u8 0), .lit (.int .u8 0)], .agg [.lit (.int .u8 0), .lit (.int .u8 0)], .agg [.lit (.int .u8 0), .lit (.int .u8 0)]]
/-- One of Go's own tables, pinned by name: the form's constant. -/
def laid_unicode_utf8_first : DataW Unit := Go.Pinned.utf8First

/-- 'joistlaw16.PlanGoes': WHATEVER THE INPUT: true; the input reads as it did. -/
def planGoesSpec : ChangeSpec := { name := "planGoes", fn := fun _ => fun
  | [d1, d2, d3] => { results := [.lit (.bool true)], args := [d1, d2, d3] }
  | _ => none }
def planGoesRow : OpenClaim := { program := "ytghiionknnpajaagreatdoor", sum := "ac1a069485fc785cb4b48523b0bd6b59e49b2d6ca08ac10aed93e0363945fa0f", func := "joist/joistlaw16.PlanGoes", spec := "planGoes", inPlace := ["internal/bytealg.abigen_runtime_cmpstring"], unfollowed := true, recurses := true, named := ["unicode/utf8.first", "unicode/utf8.acceptRanges"], apart := false, laid := [("unicode/utf8.acceptRanges", laid_unicode_utf8_acceptRanges), ("unicode/utf8.first", laid_unicode_utf8_first)] }
def PlanGoesSaid : Prop := planGoesRow.holds Tryz.pinned (OpenSpec.ofChange planGoesSpec)

/-- ITS FALSE NEIGHBOUR: 'it returns false'. Refute it at one input. -/
def planGoesWrong : ChangeSpec := { name := "planGoes", fn := fun _ => fun
  | [d1, d2, d3] => { results := [.lit (.bool false)], args := [d1, d2, d3] }
  | _ => none }
def PlanGoesWrongFalsely : Prop := planGoesRow.holds Tryz.pinned (OpenSpec.ofChange planGoesWrong)

/-- 'joistlaw16.PlanCells': WHATEVER THE INPUT: true; the input reads as it did. -/
def planCellsSpec : ChangeSpec := { name := "planCells", fn := fun _ => fun
  | [d1, d2, d3] => { results := [.lit (.bool true)], args := [d1, d2, d3] }
  | _ => none }
def planCellsRow : OpenClaim := { program := "ytghiionknnpajaagreatdoor", sum := "ac1a069485fc785cb4b48523b0bd6b59e49b2d6ca08ac10aed93e0363945fa0f", func := "joist/joistlaw16.PlanCells", spec := "planCells", inPlace := ["internal/bytealg.abigen_runtime_cmpstring"], unfollowed := true, recurses := true, named := ["unicode/utf8.first", "unicode/utf8.acceptRanges"], apart := false, laid := [("unicode/utf8.acceptRanges", laid_unicode_utf8_acceptRanges), ("unicode/utf8.first", laid_unicode_utf8_first)] }
def PlanCellsSaid : Prop := planCellsRow.holds Tryz.pinned (OpenSpec.ofChange planCellsSpec)

/-- ITS FALSE NEIGHBOUR: 'it returns false'. Refute it at one input. -/
def planCellsWrong : ChangeSpec := { name := "planCells", fn := fun _ => fun
  | [d1, d2, d3] => { results := [.lit (.bool false)], args := [d1, d2, d3] }
  | _ => none }
def PlanCellsWrongFalsely : Prop := planCellsRow.holds Tryz.pinned (OpenSpec.ofChange planCellsWrong)

/-- 'joistlaw16.PlanSeen': WHATEVER THE INPUT: true; the input reads as it did. -/
def planSeenSpec : ChangeSpec := { name := "planSeen", fn := fun _ => fun
  | [d1, d2, d3] => { results := [.lit (.bool true)], args := [d1, d2, d3] }
  | _ => none }
def planSeenRow : OpenClaim := { program := "ytghiionknnpajaagreatdoor", sum := "ac1a069485fc785cb4b48523b0bd6b59e49b2d6ca08ac10aed93e0363945fa0f", func := "joist/joistlaw16.PlanSeen", spec := "planSeen", inPlace := ["internal/bytealg.abigen_runtime_cmpstring"], unfollowed := true, recurses := true, named := ["unicode/utf8.first", "unicode/utf8.acceptRanges"], apart := false, laid := [("unicode/utf8.acceptRanges", laid_unicode_utf8_acceptRanges), ("unicode/utf8.first", laid_unicode_utf8_first)] }
def PlanSeenSaid : Prop := planSeenRow.holds Tryz.pinned (OpenSpec.ofChange planSeenSpec)

/-- ITS FALSE NEIGHBOUR: 'it returns false'. Refute it at one input. -/
def planSeenWrong : ChangeSpec := { name := "planSeen", fn := fun _ => fun
  | [d1, d2, d3] => { results := [.lit (.bool false)], args := [d1, d2, d3] }
  | _ => none }
def PlanSeenWrongFalsely : Prop := planSeenRow.holds Tryz.pinned (OpenSpec.ofChange planSeenWrong)

/-- 'joistlaw16.PlanSees': WHATEVER THE INPUT: true; the input reads as it did. -/
def planSeesSpec : ChangeSpec := { name := "planSees", fn := fun _ => fun
  | [d1, d2] => { results := [.lit (.bool true)], args := [d1, d2] }
  | _ => none }
def planSeesRow : OpenClaim := { program := "ytghiionknnpajaagreatdoor", sum := "ac1a069485fc785cb4b48523b0bd6b59e49b2d6ca08ac10aed93e0363945fa0f", func := "joist/joistlaw16.PlanSees", spec := "planSees", inPlace := ["internal/bytealg.abigen_runtime_cmpstring"], unfollowed := true, recurses := true, named := ["unicode/utf8.first", "unicode/utf8.acceptRanges"], apart := false, laid := [("unicode/utf8.acceptRanges", laid_unicode_utf8_acceptRanges), ("unicode/utf8.first", laid_unicode_utf8_first)] }
def PlanSeesSaid : Prop := planSeesRow.holds Tryz.pinned (OpenSpec.ofChange planSeesSpec)

/-- ITS FALSE NEIGHBOUR: 'it returns false'. Refute it at one input. -/
def planSeesWrong : ChangeSpec := { name := "planSees", fn := fun _ => fun
  | [d1, d2] => { results := [.lit (.bool false)], args := [d1, d2] }
  | _ => none }
def PlanSeesWrongFalsely : Prop := planSeesRow.holds Tryz.pinned (OpenSpec.ofChange planSeesWrong)

/-- 'joistlaw16.PlanWhere': WHATEVER THE INPUT: true; the input reads as it did. -/
def planWhereSpec : ChangeSpec := { name := "planWhere", fn := fun _ => fun
  | [d1, d2] => { results := [.lit (.bool true)], args := [d1, d2] }
  | _ => none }
def planWhereRow : OpenClaim := { program := "ytghiionknnpajaagreatdoor", sum := "ac1a069485fc785cb4b48523b0bd6b59e49b2d6ca08ac10aed93e0363945fa0f", func := "joist/joistlaw16.PlanWhere", spec := "planWhere", inPlace := ["internal/bytealg.abigen_runtime_cmpstring"], unfollowed := true, recurses := true, named := ["unicode/utf8.first", "unicode/utf8.acceptRanges"], apart := false, laid := [("unicode/utf8.acceptRanges", laid_unicode_utf8_acceptRanges), ("unicode/utf8.first", laid_unicode_utf8_first)] }
def PlanWhereSaid : Prop := planWhereRow.holds Tryz.pinned (OpenSpec.ofChange planWhereSpec)

/-- ITS FALSE NEIGHBOUR: 'it returns false'. Refute it at one input. -/
def planWhereWrong : ChangeSpec := { name := "planWhere", fn := fun _ => fun
  | [d1, d2] => { results := [.lit (.bool false)], args := [d1, d2] }
  | _ => none }
def PlanWhereWrongFalsely : Prop := planWhereRow.holds Tryz.pinned (OpenSpec.ofChange planWhereWrong)

/-- 'joistlaw16.PlanChecks': WHATEVER THE INPUT: true; the input reads as it did. -/
def planChecksSpec : ChangeSpec := { name := "planChecks", fn := fun _ => fun
  | [d1, d2, d3] => { results := [.lit (.bool true)], args := [d1, d2, d3] }
  | _ => none }
def planChecksRow : OpenClaim := { program := "ytghiionknnpajaagreatdoor", sum := "ac1a069485fc785cb4b48523b0bd6b59e49b2d6ca08ac10aed93e0363945fa0f", func := "joist/joistlaw16.PlanChecks", spec := "planChecks", inPlace := ["internal/bytealg.abigen_runtime_cmpstring"], unfollowed := true, recurses := true, named := ["unicode/utf8.first", "unicode/utf8.acceptRanges"], apart := false, laid := [("unicode/utf8.acceptRanges", laid_unicode_utf8_acceptRanges), ("unicode/utf8.first", laid_unicode_utf8_first)] }
def PlanChecksSaid : Prop := planChecksRow.holds Tryz.pinned (OpenSpec.ofChange planChecksSpec)

/-- ITS FALSE NEIGHBOUR: 'it returns false'. Refute it at one input. -/
def planChecksWrong : ChangeSpec := { name := "planChecks", fn := fun _ => fun
  | [d1, d2, d3] => { results := [.lit (.bool false)], args := [d1, d2, d3] }
  | _ => none }
def PlanChecksWrongFalsely : Prop := planChecksRow.holds Tryz.pinned (OpenSpec.ofChange planChecksWrong)

/- THE SECOND FORM. 'bulk': how many values and letters a reading holds, each counted each time it is reached (what is shared counts as often as it is met; a slice's spare places count too). A statement '..UptoSaid' is the law's where the arguments, and the package variables that the reading takes, are together of bulk at most 1048576: NARROWER than '..Said'. Prove '..Said' where nothing that the law and all that it calls make is longer than what came in: it says more and counts as full. Else prove '..UptoSaid'. A law counts once. -/
mutual
def uptoBulk {H : Type} : DataW H → Nat
  | .lit (.string bytes) => bytes.length + 1
  | .lit _ => 1
  | .nil => 1
  | .ptr d => uptoBulk d + 1
  | .slice elems spare => uptoBulkAll elems + uptoBulkAll spare + 1
  | .agg parts => uptoBulkAll parts + 1
  | .iface _ d => uptoBulk d + 1
  | .map entries => uptoBulkEntries entries + 1
  | .held _ => 1
def uptoBulkAll {H : Type} : List (DataW H) → Nat
  | [] => 0
  | d :: r => uptoBulk d + uptoBulkAll r
def uptoBulkEntries {H : Type} : List (Lit × DataW H) → Nat
  | [] => 0
  | x :: r => uptoBulkEntry x + uptoBulkEntries r
def uptoBulkEntry {H : Type} : Lit × DataW H → Nat
  | (.string bytes, d) => bytes.length + uptoBulk d + 1
  | (_, d) => uptoBulk d + 1
 end
def uptoSmall : (H : Type) → List (DataW H) → Bool := fun _ ds => decide (uptoBulkAll ds ≤ 1048576)
def OpenSpec.upto (s : _root_.Go.ChangeSpec) : _root_.Go.OpenSpec := { _root_.Go.OpenSpec.ofChange s with cond := some uptoSmall }

/-- 'joistlaw16.PlanGoes', WHERE WHAT IT READS IS OF BULK AT MOST 1048576: true; the input reads as it did. -/
def planGoesUptoRow : OpenClaim := { program := "ytghiionknnpajaagreatdoor", sum := "ac1a069485fc785cb4b48523b0bd6b59e49b2d6ca08ac10aed93e0363945fa0f", func := "joist/joistlaw16.PlanGoes", spec := "planGoes", inPlace := ["internal/bytealg.abigen_runtime_cmpstring"], unfollowed := true, recurses := true, named := ["unicode/utf8.first", "unicode/utf8.acceptRanges"], apart := false, laid := [("unicode/utf8.acceptRanges", laid_unicode_utf8_acceptRanges), ("unicode/utf8.first", laid_unicode_utf8_first)], narrowed := true }
def PlanGoesUptoSaid : Prop := planGoesUptoRow.holds Tryz.pinned (OpenSpec.upto planGoesSpec)

/-- 'joistlaw16.PlanCells', WHERE WHAT IT READS IS OF BULK AT MOST 1048576: true; the input reads as it did. -/
def planCellsUptoRow : OpenClaim := { program := "ytghiionknnpajaagreatdoor", sum := "ac1a069485fc785cb4b48523b0bd6b59e49b2d6ca08ac10aed93e0363945fa0f", func := "joist/joistlaw16.PlanCells", spec := "planCells", inPlace := ["internal/bytealg.abigen_runtime_cmpstring"], unfollowed := true, recurses := true, named := ["unicode/utf8.first", "unicode/utf8.acceptRanges"], apart := false, laid := [("unicode/utf8.acceptRanges", laid_unicode_utf8_acceptRanges), ("unicode/utf8.first", laid_unicode_utf8_first)], narrowed := true }
def PlanCellsUptoSaid : Prop := planCellsUptoRow.holds Tryz.pinned (OpenSpec.upto planCellsSpec)

/-- 'joistlaw16.PlanSeen', WHERE WHAT IT READS IS OF BULK AT MOST 1048576: true; the input reads as it did. -/
def planSeenUptoRow : OpenClaim := { program := "ytghiionknnpajaagreatdoor", sum := "ac1a069485fc785cb4b48523b0bd6b59e49b2d6ca08ac10aed93e0363945fa0f", func := "joist/joistlaw16.PlanSeen", spec := "planSeen", inPlace := ["internal/bytealg.abigen_runtime_cmpstring"], unfollowed := true, recurses := true, named := ["unicode/utf8.first", "unicode/utf8.acceptRanges"], apart := false, laid := [("unicode/utf8.acceptRanges", laid_unicode_utf8_acceptRanges), ("unicode/utf8.first", laid_unicode_utf8_first)], narrowed := true }
def PlanSeenUptoSaid : Prop := planSeenUptoRow.holds Tryz.pinned (OpenSpec.upto planSeenSpec)

/-- 'joistlaw16.PlanSees', WHERE WHAT IT READS IS OF BULK AT MOST 1048576: true; the input reads as it did. -/
def planSeesUptoRow : OpenClaim := { program := "ytghiionknnpajaagreatdoor", sum := "ac1a069485fc785cb4b48523b0bd6b59e49b2d6ca08ac10aed93e0363945fa0f", func := "joist/joistlaw16.PlanSees", spec := "planSees", inPlace := ["internal/bytealg.abigen_runtime_cmpstring"], unfollowed := true, recurses := true, named := ["unicode/utf8.first", "unicode/utf8.acceptRanges"], apart := false, laid := [("unicode/utf8.acceptRanges", laid_unicode_utf8_acceptRanges), ("unicode/utf8.first", laid_unicode_utf8_first)], narrowed := true }
def PlanSeesUptoSaid : Prop := planSeesUptoRow.holds Tryz.pinned (OpenSpec.upto planSeesSpec)

/-- 'joistlaw16.PlanWhere', WHERE WHAT IT READS IS OF BULK AT MOST 1048576: true; the input reads as it did. -/
def planWhereUptoRow : OpenClaim := { program := "ytghiionknnpajaagreatdoor", sum := "ac1a069485fc785cb4b48523b0bd6b59e49b2d6ca08ac10aed93e0363945fa0f", func := "joist/joistlaw16.PlanWhere", spec := "planWhere", inPlace := ["internal/bytealg.abigen_runtime_cmpstring"], unfollowed := true, recurses := true, named := ["unicode/utf8.first", "unicode/utf8.acceptRanges"], apart := false, laid := [("unicode/utf8.acceptRanges", laid_unicode_utf8_acceptRanges), ("unicode/utf8.first", laid_unicode_utf8_first)], narrowed := true }
def PlanWhereUptoSaid : Prop := planWhereUptoRow.holds Tryz.pinned (OpenSpec.upto planWhereSpec)

/-- 'joistlaw16.PlanChecks', WHERE WHAT IT READS IS OF BULK AT MOST 1048576: true; the input reads as it did. -/
def planChecksUptoRow : OpenClaim := { program := "ytghiionknnpajaagreatdoor", sum := "ac1a069485fc785cb4b48523b0bd6b59e49b2d6ca08ac10aed93e0363945fa0f", func := "joist/joistlaw16.PlanChecks", spec := "planChecks", inPlace := ["internal/bytealg.abigen_runtime_cmpstring"], unfollowed := true, recurses := true, named := ["unicode/utf8.first", "unicode/utf8.acceptRanges"], apart := false, laid := [("unicode/utf8.acceptRanges", laid_unicode_utf8_acceptRanges), ("unicode/utf8.first", laid_unicode_utf8_first)], narrowed := true }
def PlanChecksUptoSaid : Prop := planChecksUptoRow.holds Tryz.pinned (OpenSpec.upto planChecksSpec)

end Rows
end Go.Proofs.YtghiionknnpajaaGreatDoor
