/- Contracts of the document's schema (joistref14), whether it is right. -/
import Derived.Test.YtghiionknnpajaaGreatDoorC4
set_option linter.unusedVariables false
set_option linter.unusedSimpArgs false
namespace Go.Ab.S2
open Go.Ab
set_option maxRecDepth 100000

def fam0 (f : Family) : Bool := !nameR f.name || decide (f.versions < 1) || decide (8 < f.versions) || decide (f.life < 0) || decide (1099511627776 < f.life) || decide ((f.layouts.length : Int) < 1) || decide (2 < (f.layouts.length : Int)) || decide (8 < (f.cols.length : Int))
def layBad (g : Int) (i : Nat) (l : Layout) : Bool := decide (l.group < 0) || decide (2 < l.group) || decide (l.state < 1) || decide (3 < l.state) || (decide (0 < (i : Int)) && l.group == g)
def layOk (g : Int) : Nat → List Layout → Bool
  | _, [] => true
  | i, l :: r => !layBad g i l && layOk g (i + 1) r
def colBad (c : Column) : Bool := decide (12 < (c.qual.length : Int)) || decide (c.kind < 1) || decide (5 < c.kind) || decide (c.state < 1) || decide (3 < c.state)
def colsOk : List Column → List Column → Bool
  | _, [] => true
  | p, c :: r => !colBad c && !(p.any fun d => d.qual == c.qual) && colsOk (p ++ [c]) r
def famR (f : Family) : Bool := !fam0 f && layOk ((f.layouts[0]?.map Layout.group).getD 0) 0 f.layouts && colsOk [] f.cols && decide (f.layouts.countP (fun l => l.state == 3) < 2)

end Go.Ab.S2
