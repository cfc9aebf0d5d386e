/- Sizes. -/
import Derived.Test.YtghiionknnpajaaGreatDoorP2
set_option linter.unusedVariables false
set_option linter.unusedSimpArgs false
namespace Go.Ab

/-! sizes -/
structure Value.wf (v : Value) : Prop where
  s : v.s.length < 1099511627776
  lo : -9223372036854775808 ≤ v.n
  hi : v.n < 9223372036854775808
structure Column.wf (c : Column) : Prop where
  qual : c.qual.length < 1099511627776
structure Family.wf (f : Family) : Prop where
  name : f.name.length < 1099511627776
  lays : f.layouts.length < 1099511627776
  cols : f.cols.length < 1099511627776
  col : ∀ c ∈ f.cols, Column.wf c
structure Schema.wf (s : Schema) : Prop where
  fams : s.fams.length < 1099511627776
  fam : ∀ f ∈ s.fams, Family.wf f
structure Cell.wf (c : Cell) : Prop where
  row : c.row.length < 1099511627776
  fam : c.fam.length < 1099511627776
  qual : c.qual.length < 1099511627776
  val : Value.wf c.val
structure Mut.wf (c : Mut) : Prop where
  fam : c.fam.length < 1099511627776
  qual : c.qual.length < 1099511627776
  val : Value.wf c.val
structure Filter.wf (f : Filter) : Prop where
  fams : f.fams.length < 1099511627776
  fam : ∀ s ∈ f.fams, s.length < 1099511627776
  from_ : f.from_.length < 1099511627776
  to : f.to.length < 1099511627776
structure Request.wf (q : Request) : Prop where
  row : q.row.length < 1099511627776
  to : q.to.length < 1099511627776
  muts : q.muts.length < 1099511627776
  mutw : ∀ m ∈ q.muts, Mut.wf m
  fam : q.fam.length < 1099511627776
  qual : q.qual.length < 1099511627776
  val : Value.wf q.val
  filter : Filter.wf q.filter

end Go.Ab
