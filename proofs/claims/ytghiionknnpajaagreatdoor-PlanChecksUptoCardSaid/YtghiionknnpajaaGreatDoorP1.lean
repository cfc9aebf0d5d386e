/- The data of the program as structures, the cells that they take, and the laws by which code that is carried out reads and writes them. -/
import Derived.Test.YtghiionknnpajaaGreatDoorAb12
set_option linter.unusedVariables false
set_option linter.unusedSimpArgs false
namespace Go.Ab

def strs (l : List Str) : List (List AV) := l.map fun s => [.str s]
def ints (l : List Int) : List (List AV) := l.map fun n => [.int .i64 n]

structure Value where
  kind : Int
  n : Int
  s : Str
  deriving DecidableEq
def Value.e (x : Value) : List AV := [.int .i64 x.kind, .int .i64 x.n, .str x.s]
section
variable (x : Value)
@[go_sem high] theorem Value.len : (Value.e x).length = 3 := rfl
@[go_sem high] theorem Value.ones : (Value.e x).all AV.one = true := rfl
@[go_sem high] theorem Value.g0 : (Value.e x)[0]? = some (.int .i64 x.kind) := rfl
@[go_sem high] theorem Value.g1 : (Value.e x)[1]? = some (.int .i64 x.n) := rfl
@[go_sem high] theorem Value.g2 : (Value.e x)[2]? = some (.str x.s) := rfl
@[go_sem high] theorem Value.cut : cutL 0 3 (Value.e x) = some (Value.e x) := rfl
@[go_sem high] theorem Value.put (y : Value) : putL 0 (Value.e y) (Value.e x) = some (Value.e y) := rfl
@[go_sem high] theorem Value.put0 : putL 0 (Value.e x) [.int .i64 0, .int .i64 0, .str []] = some (Value.e x) := rfl
@[go_sem high] theorem Value.set0 (y : Int) : setL 0 (.int .i64 y) (Value.e x) = some (Value.e { x with kind := y }) := rfl
@[go_sem high] theorem Value.set1 (y : Int) : setL 1 (.int .i64 y) (Value.e x) = some (Value.e { x with n := y }) := rfl
@[go_sem high] theorem Value.set2 (y : Str) : setL 2 (.str y) (Value.e x) = some (Value.e { x with s := y }) := rfl
@[go_sem high] theorem Value.frz (n : Nat) (h : Heap) : frzCs n h (Value.e x) = (Value.e x, h) := rfl
@[go_sem high] theorem Value.tak : (Value.e x).take 3 = Value.e x := rfl
@[go_sem high] theorem Value.drp : (Value.e x).drop 3 = [] := rfl
@[go_sem high] theorem Value.eq (y : Value) : eqCells [0, 0, 1] (Value.e x) (Value.e y) = some (decide (x = y)) := by
  cases x with | mk x0 x1 x2 => cases y with | mk y0 y1 y2 =>
  simp only [Value.e, eqc_int, eqc_str, eqc_bool, eqc_nil, ob_some, Option.some.injEq, Value.mk.injEq,  Bool.and_true]
  rw [Bool.eq_iff_iff]; simp [and_assoc]
end
@[go_sem high] theorem Value.rws (l : List Value) : (∀ e ∈ l.map Value.e, e.length = 3 ∧ e.all AV.one = true) = True := by simp only [List.mem_map, forall_exists_index, and_imp, forall_apply_eq_imp_iff₂, eq_iff_iff, iff_true]; exact fun a _ => ⟨rfl, rfl⟩
def Value.zero : Value := ⟨0, 0, []⟩
theorem Value.zero_e : Value.zero.e = [.int .i64 0, .int .i64 0, .str []] := rfl
@[go_sem high] theorem Value.eqz (x : Value) : eqCells [0, 0, 1] (Value.e x) [.int .i64 0, .int .i64 0, .str []] = some (decide (x = Value.zero)) := by rw [← Value.zero_e]; exact Value.eq x Value.zero

structure Cell where
  row : Str
  fam : Str
  qual : Str
  time : Int
  kind : Int
  val : Value
  deriving DecidableEq
def Cell.e (x : Cell) : List AV := [.str x.row, .str x.fam, .str x.qual, .int .i64 x.time, .int .i64 x.kind, .int .i64 x.val.kind, .int .i64 x.val.n, .str x.val.s]
section
variable (x : Cell)
@[go_sem high] theorem Cell.len : (Cell.e x).length = 8 := rfl
@[go_sem high] theorem Cell.ones : (Cell.e x).all AV.one = true := rfl
@[go_sem high] theorem Cell.g0 : (Cell.e x)[0]? = some (.str x.row) := rfl
@[go_sem high] theorem Cell.g1 : (Cell.e x)[1]? = some (.str x.fam) := rfl
@[go_sem high] theorem Cell.g2 : (Cell.e x)[2]? = some (.str x.qual) := rfl
@[go_sem high] theorem Cell.g3 : (Cell.e x)[3]? = some (.int .i64 x.time) := rfl
@[go_sem high] theorem Cell.g4 : (Cell.e x)[4]? = some (.int .i64 x.kind) := rfl
@[go_sem high] theorem Cell.g5 : (Cell.e x)[5]? = some (.int .i64 x.val.kind) := rfl
@[go_sem high] theorem Cell.g6 : (Cell.e x)[6]? = some (.int .i64 x.val.n) := rfl
@[go_sem high] theorem Cell.g7 : (Cell.e x)[7]? = some (.str x.val.s) := rfl
@[go_sem high] theorem Cell.cut : cutL 0 8 (Cell.e x) = some (Cell.e x) := rfl
@[go_sem high] theorem Cell.put (y : Cell) : putL 0 (Cell.e y) (Cell.e x) = some (Cell.e y) := rfl
@[go_sem high] theorem Cell.put0 : putL 0 (Cell.e x) [.str [], .str [], .str [], .int .i64 0, .int .i64 0, .int .i64 0, .int .i64 0, .str []] = some (Cell.e x) := rfl
@[go_sem high] theorem Cell.cut_val : cutL 5 3 (Cell.e x) = some (Value.e x.val) := rfl
@[go_sem high] theorem Cell.put_val (y : Value) : putL 5 (Value.e y) (Cell.e x) = some (Cell.e { x with val := y }) := rfl
@[go_sem high] theorem Cell.set0 (y : Str) : setL 0 (.str y) (Cell.e x) = some (Cell.e { x with row := y }) := rfl
@[go_sem high] theorem Cell.set1 (y : Str) : setL 1 (.str y) (Cell.e x) = some (Cell.e { x with fam := y }) := rfl
@[go_sem high] theorem Cell.set2 (y : Str) : setL 2 (.str y) (Cell.e x) = some (Cell.e { x with qual := y }) := rfl
@[go_sem high] theorem Cell.set3 (y : Int) : setL 3 (.int .i64 y) (Cell.e x) = some (Cell.e { x with time := y }) := rfl
@[go_sem high] theorem Cell.set4 (y : Int) : setL 4 (.int .i64 y) (Cell.e x) = some (Cell.e { x with kind := y }) := rfl
@[go_sem high] theorem Cell.set5 (y : Int) : setL 5 (.int .i64 y) (Cell.e x) = some (Cell.e { x with val := { x.val with kind := y } }) := rfl
@[go_sem high] theorem Cell.set6 (y : Int) : setL 6 (.int .i64 y) (Cell.e x) = some (Cell.e { x with val := { x.val with n := y } }) := rfl
@[go_sem high] theorem Cell.set7 (y : Str) : setL 7 (.str y) (Cell.e x) = some (Cell.e { x with val := { x.val with s := y } }) := rfl
@[go_sem high] theorem Cell.frz (n : Nat) (h : Heap) : frzCs n h (Cell.e x) = (Cell.e x, h) := rfl
@[go_sem high] theorem Cell.tak : (Cell.e x).take 8 = Cell.e x := rfl
@[go_sem high] theorem Cell.drp : (Cell.e x).drop 8 = [] := rfl
@[go_sem high] theorem Cell.eq (y : Cell) : eqCells [1, 1, 1, 0, 0, 0, 0, 1] (Cell.e x) (Cell.e y) = some (decide (x = y)) := by
  cases x with | mk x0 x1 x2 x3 x4 x5 => cases y with | mk y0 y1 y2 y3 y4 y5 =>
  cases x5; cases y5
  simp only [Cell.e, eqc_int, eqc_str, eqc_bool, eqc_nil, ob_some, Option.some.injEq, Cell.mk.injEq, Value.mk.injEq,  Bool.and_true]
  rw [Bool.eq_iff_iff]; simp [and_assoc]
end
@[go_sem high] theorem Cell.rws (l : List Cell) : (∀ e ∈ l.map Cell.e, e.length = 8 ∧ e.all AV.one = true) = True := by simp only [List.mem_map, forall_exists_index, and_imp, forall_apply_eq_imp_iff₂, eq_iff_iff, iff_true]; exact fun a _ => ⟨rfl, rfl⟩
def Cell.zero : Cell := ⟨[], [], [], 0, 0, Value.zero⟩
theorem Cell.zero_e : Cell.zero.e = [.str [], .str [], .str [], .int .i64 0, .int .i64 0, .int .i64 0, .int .i64 0, .str []] := rfl
@[go_sem high] theorem Cell.eqz (x : Cell) : eqCells [1, 1, 1, 0, 0, 0, 0, 1] (Cell.e x) [.str [], .str [], .str [], .int .i64 0, .int .i64 0, .int .i64 0, .int .i64 0, .str []] = some (decide (x = Cell.zero)) := by rw [← Cell.zero_e]; exact Cell.eq x Cell.zero

structure Layout where
  group : Int
  state : Int
  deriving DecidableEq
def Layout.e (x : Layout) : List AV := [.int .i64 x.group, .int .i64 x.state]
section
variable (x : Layout)
@[go_sem high] theorem Layout.len : (Layout.e x).length = 2 := rfl
@[go_sem high] theorem Layout.ones : (Layout.e x).all AV.one = true := rfl
@[go_sem high] theorem Layout.g0 : (Layout.e x)[0]? = some (.int .i64 x.group) := rfl
@[go_sem high] theorem Layout.g1 : (Layout.e x)[1]? = some (.int .i64 x.state) := rfl
@[go_sem high] theorem Layout.cut : cutL 0 2 (Layout.e x) = some (Layout.e x) := rfl
@[go_sem high] theorem Layout.put (y : Layout) : putL 0 (Layout.e y) (Layout.e x) = some (Layout.e y) := rfl
@[go_sem high] theorem Layout.put0 : putL 0 (Layout.e x) [.int .i64 0, .int .i64 0] = some (Layout.e x) := rfl
@[go_sem high] theorem Layout.set0 (y : Int) : setL 0 (.int .i64 y) (Layout.e x) = some (Layout.e { x with group := y }) := rfl
@[go_sem high] theorem Layout.set1 (y : Int) : setL 1 (.int .i64 y) (Layout.e x) = some (Layout.e { x with state := y }) := rfl
@[go_sem high] theorem Layout.frz (n : Nat) (h : Heap) : frzCs n h (Layout.e x) = (Layout.e x, h) := rfl
@[go_sem high] theorem Layout.tak : (Layout.e x).take 2 = Layout.e x := rfl
@[go_sem high] theorem Layout.drp : (Layout.e x).drop 2 = [] := rfl
@[go_sem high] theorem Layout.eq (y : Layout) : eqCells [0, 0] (Layout.e x) (Layout.e y) = some (decide (x = y)) := by
  cases x with | mk x0 x1 => cases y with | mk y0 y1 =>
  simp only [Layout.e, eqc_int, eqc_str, eqc_bool, eqc_nil, ob_some, Option.some.injEq, Layout.mk.injEq,  Bool.and_true]
  rw [Bool.eq_iff_iff]; simp [and_assoc]
end
@[go_sem high] theorem Layout.rws (l : List Layout) : (∀ e ∈ l.map Layout.e, e.length = 2 ∧ e.all AV.one = true) = True := by simp only [List.mem_map, forall_exists_index, and_imp, forall_apply_eq_imp_iff₂, eq_iff_iff, iff_true]; exact fun a _ => ⟨rfl, rfl⟩
def Layout.zero : Layout := ⟨0, 0⟩
theorem Layout.zero_e : Layout.zero.e = [.int .i64 0, .int .i64 0] := rfl
@[go_sem high] theorem Layout.eqz (x : Layout) : eqCells [0, 0] (Layout.e x) [.int .i64 0, .int .i64 0] = some (decide (x = Layout.zero)) := by rw [← Layout.zero_e]; exact Layout.eq x Layout.zero

structure Column where
  qual : Str
  kind : Int
  state : Int
  deriving DecidableEq
def Column.e (x : Column) : List AV := [.str x.qual, .int .i64 x.kind, .int .i64 x.state]
section
variable (x : Column)
@[go_sem high] theorem Column.len : (Column.e x).length = 3 := rfl
@[go_sem high] theorem Column.ones : (Column.e x).all AV.one = true := rfl
@[go_sem high] theorem Column.g0 : (Column.e x)[0]? = some (.str x.qual) := rfl
@[go_sem high] theorem Column.g1 : (Column.e x)[1]? = some (.int .i64 x.kind) := rfl
@[go_sem high] theorem Column.g2 : (Column.e x)[2]? = some (.int .i64 x.state) := rfl
@[go_sem high] theorem Column.cut : cutL 0 3 (Column.e x) = some (Column.e x) := rfl
@[go_sem high] theorem Column.put (y : Column) : putL 0 (Column.e y) (Column.e x) = some (Column.e y) := rfl
@[go_sem high] theorem Column.put0 : putL 0 (Column.e x) [.str [], .int .i64 0, .int .i64 0] = some (Column.e x) := rfl
@[go_sem high] theorem Column.set0 (y : Str) : setL 0 (.str y) (Column.e x) = some (Column.e { x with qual := y }) := rfl
@[go_sem high] theorem Column.set1 (y : Int) : setL 1 (.int .i64 y) (Column.e x) = some (Column.e { x with kind := y }) := rfl
@[go_sem high] theorem Column.set2 (y : Int) : setL 2 (.int .i64 y) (Column.e x) = some (Column.e { x with state := y }) := rfl
@[go_sem high] theorem Column.frz (n : Nat) (h : Heap) : frzCs n h (Column.e x) = (Column.e x, h) := rfl
@[go_sem high] theorem Column.tak : (Column.e x).take 3 = Column.e x := rfl
@[go_sem high] theorem Column.drp : (Column.e x).drop 3 = [] := rfl
@[go_sem high] theorem Column.eq (y : Column) : eqCells [1, 0, 0] (Column.e x) (Column.e y) = some (decide (x = y)) := by
  cases x with | mk x0 x1 x2 => cases y with | mk y0 y1 y2 =>
  simp only [Column.e, eqc_int, eqc_str, eqc_bool, eqc_nil, ob_some, Option.some.injEq, Column.mk.injEq,  Bool.and_true]
  rw [Bool.eq_iff_iff]; simp [and_assoc]
end
@[go_sem high] theorem Column.rws (l : List Column) : (∀ e ∈ l.map Column.e, e.length = 3 ∧ e.all AV.one = true) = True := by simp only [List.mem_map, forall_exists_index, and_imp, forall_apply_eq_imp_iff₂, eq_iff_iff, iff_true]; exact fun a _ => ⟨rfl, rfl⟩
def Column.zero : Column := ⟨[], 0, 0⟩
theorem Column.zero_e : Column.zero.e = [.str [], .int .i64 0, .int .i64 0] := rfl
@[go_sem high] theorem Column.eqz (x : Column) : eqCells [1, 0, 0] (Column.e x) [.str [], .int .i64 0, .int .i64 0] = some (decide (x = Column.zero)) := by rw [← Column.zero_e]; exact Column.eq x Column.zero

structure Family where
  name : Str
  versions : Int
  life : Int
  layouts : List Layout
  cols : List Column
  deriving DecidableEq
def Family.e (x : Family) : List AV := [.str x.name, .int .i64 x.versions, .int .i64 x.life, .psl (x.layouts.map Layout.e), .psl (x.cols.map Column.e)]
section
variable (x : Family)
@[go_sem high] theorem Family.len : (Family.e x).length = 5 := rfl
@[go_sem high] theorem Family.ones : (Family.e x).all AV.one = true := rfl
@[go_sem high] theorem Family.g0 : (Family.e x)[0]? = some (.str x.name) := rfl
@[go_sem high] theorem Family.g1 : (Family.e x)[1]? = some (.int .i64 x.versions) := rfl
@[go_sem high] theorem Family.g2 : (Family.e x)[2]? = some (.int .i64 x.life) := rfl
@[go_sem high] theorem Family.g3 : (Family.e x)[3]? = some (.psl (x.layouts.map Layout.e)) := rfl
@[go_sem high] theorem Family.g4 : (Family.e x)[4]? = some (.psl (x.cols.map Column.e)) := rfl
@[go_sem high] theorem Family.cut : cutL 0 5 (Family.e x) = some (Family.e x) := rfl
@[go_sem high] theorem Family.put (y : Family) : putL 0 (Family.e y) (Family.e x) = some (Family.e y) := rfl
@[go_sem high] theorem Family.put0 : putL 0 (Family.e x) [.str [], .int .i64 0, .int .i64 0, .psl [], .psl []] = some (Family.e x) := rfl
@[go_sem high] theorem Family.set0 (y : Str) : setL 0 (.str y) (Family.e x) = some (Family.e { x with name := y }) := rfl
@[go_sem high] theorem Family.set1 (y : Int) : setL 1 (.int .i64 y) (Family.e x) = some (Family.e { x with versions := y }) := rfl
@[go_sem high] theorem Family.set2 (y : Int) : setL 2 (.int .i64 y) (Family.e x) = some (Family.e { x with life := y }) := rfl
@[go_sem high] theorem Family.set3 (y : List Layout) : setL 3 (.psl (y.map Layout.e)) (Family.e x) = some (Family.e { x with layouts := y }) := rfl
@[go_sem high] theorem Family.set4 (y : List Column) : setL 4 (.psl (y.map Column.e)) (Family.e x) = some (Family.e { x with cols := y }) := rfl
@[go_sem high] theorem Family.frz (n : Nat) (h : Heap) : frzCs n h (Family.e x) = (Family.e x, h) := rfl
@[go_sem high] theorem Family.tak : (Family.e x).take 5 = Family.e x := rfl
@[go_sem high] theorem Family.drp : (Family.e x).drop 5 = [] := rfl
@[go_sem high] theorem Family.own3 (l s i m : Nat) : setL 3 (.sl l s i m) (Family.e x) = some [.str x.name, .int .i64 x.versions, .int .i64 x.life, .sl l s i m, .psl (x.cols.map Column.e)] := rfl
@[go_sem high] theorem Family.own4 (l s i m : Nat) : setL 4 (.sl l s i m) (Family.e x) = some [.str x.name, .int .i64 x.versions, .int .i64 x.life, .psl (x.layouts.map Layout.e), .sl l s i m] := rfl
end
@[go_sem high] theorem Family.rws (l : List Family) : (∀ e ∈ l.map Family.e, e.length = 5 ∧ e.all AV.one = true) = True := by simp only [List.mem_map, forall_exists_index, and_imp, forall_apply_eq_imp_iff₂, eq_iff_iff, iff_true]; exact fun a _ => ⟨rfl, rfl⟩
def Family.zero : Family := ⟨[], 0, 0, [], []⟩
theorem Family.zero_e : Family.zero.e = [.str [], .int .i64 0, .int .i64 0, .psl [], .psl []] := rfl

structure Change where
  kind : Int
  fam : Str
  qual : Str
  type : Int
  group : Int
  versions : Int
  life : Int
  deriving DecidableEq
def Change.e (x : Change) : List AV := [.int .i64 x.kind, .str x.fam, .str x.qual, .int .i64 x.type, .int .i64 x.group, .int .i64 x.versions, .int .i64 x.life]
section
variable (x : Change)
@[go_sem high] theorem Change.len : (Change.e x).length = 7 := rfl
@[go_sem high] theorem Change.ones : (Change.e x).all AV.one = true := rfl
@[go_sem high] theorem Change.g0 : (Change.e x)[0]? = some (.int .i64 x.kind) := rfl
@[go_sem high] theorem Change.g1 : (Change.e x)[1]? = some (.str x.fam) := rfl
@[go_sem high] theorem Change.g2 : (Change.e x)[2]? = some (.str x.qual) := rfl
@[go_sem high] theorem Change.g3 : (Change.e x)[3]? = some (.int .i64 x.type) := rfl
@[go_sem high] theorem Change.g4 : (Change.e x)[4]? = some (.int .i64 x.group) := rfl
@[go_sem high] theorem Change.g5 : (Change.e x)[5]? = some (.int .i64 x.versions) := rfl
@[go_sem high] theorem Change.g6 : (Change.e x)[6]? = some (.int .i64 x.life) := rfl
@[go_sem high] theorem Change.cut : cutL 0 7 (Change.e x) = some (Change.e x) := rfl
@[go_sem high] theorem Change.put (y : Change) : putL 0 (Change.e y) (Change.e x) = some (Change.e y) := rfl
@[go_sem high] theorem Change.put0 : putL 0 (Change.e x) [.int .i64 0, .str [], .str [], .int .i64 0, .int .i64 0, .int .i64 0, .int .i64 0] = some (Change.e x) := rfl
@[go_sem high] theorem Change.set0 (y : Int) : setL 0 (.int .i64 y) (Change.e x) = some (Change.e { x with kind := y }) := rfl
@[go_sem high] theorem Change.set1 (y : Str) : setL 1 (.str y) (Change.e x) = some (Change.e { x with fam := y }) := rfl
@[go_sem high] theorem Change.set2 (y : Str) : setL 2 (.str y) (Change.e x) = some (Change.e { x with qual := y }) := rfl
@[go_sem high] theorem Change.set3 (y : Int) : setL 3 (.int .i64 y) (Change.e x) = some (Change.e { x with type := y }) := rfl
@[go_sem high] theorem Change.set4 (y : Int) : setL 4 (.int .i64 y) (Change.e x) = some (Change.e { x with group := y }) := rfl
@[go_sem high] theorem Change.set5 (y : Int) : setL 5 (.int .i64 y) (Change.e x) = some (Change.e { x with versions := y }) := rfl
@[go_sem high] theorem Change.set6 (y : Int) : setL 6 (.int .i64 y) (Change.e x) = some (Change.e { x with life := y }) := rfl
@[go_sem high] theorem Change.frz (n : Nat) (h : Heap) : frzCs n h (Change.e x) = (Change.e x, h) := rfl
@[go_sem high] theorem Change.tak : (Change.e x).take 7 = Change.e x := rfl
@[go_sem high] theorem Change.drp : (Change.e x).drop 7 = [] := rfl
@[go_sem high] theorem Change.eq (y : Change) : eqCells [0, 1, 1, 0, 0, 0, 0] (Change.e x) (Change.e y) = some (decide (x = y)) := by
  cases x with | mk x0 x1 x2 x3 x4 x5 x6 => cases y with | mk y0 y1 y2 y3 y4 y5 y6 =>
  simp only [Change.e, eqc_int, eqc_str, eqc_bool, eqc_nil, ob_some, Option.some.injEq, Change.mk.injEq,  Bool.and_true]
  rw [Bool.eq_iff_iff]; simp [and_assoc]
end
@[go_sem high] theorem Change.rws (l : List Change) : (∀ e ∈ l.map Change.e, e.length = 7 ∧ e.all AV.one = true) = True := by simp only [List.mem_map, forall_exists_index, and_imp, forall_apply_eq_imp_iff₂, eq_iff_iff, iff_true]; exact fun a _ => ⟨rfl, rfl⟩
def Change.zero : Change := ⟨0, [], [], 0, 0, 0, 0⟩
theorem Change.zero_e : Change.zero.e = [.int .i64 0, .str [], .str [], .int .i64 0, .int .i64 0, .int .i64 0, .int .i64 0] := rfl
@[go_sem high] theorem Change.eqz (x : Change) : eqCells [0, 1, 1, 0, 0, 0, 0] (Change.e x) [.int .i64 0, .str [], .str [], .int .i64 0, .int .i64 0, .int .i64 0, .int .i64 0] = some (decide (x = Change.zero)) := by rw [← Change.zero_e]; exact Change.eq x Change.zero

structure Schema where
  version : Int
  fams : List Family
  change : Change
  step : Int
  deriving DecidableEq
def Schema.e (x : Schema) : List AV := [.int .i64 x.version, .psl (x.fams.map Family.e), .int .i64 x.change.kind, .str x.change.fam, .str x.change.qual, .int .i64 x.change.type, .int .i64 x.change.group, .int .i64 x.change.versions, .int .i64 x.change.life, .int .i64 x.step]
section
variable (x : Schema)
@[go_sem high] theorem Schema.len : (Schema.e x).length = 10 := rfl
@[go_sem high] theorem Schema.ones : (Schema.e x).all AV.one = true := rfl
@[go_sem high] theorem Schema.g0 : (Schema.e x)[0]? = some (.int .i64 x.version) := rfl
@[go_sem high] theorem Schema.g1 : (Schema.e x)[1]? = some (.psl (x.fams.map Family.e)) := rfl
@[go_sem high] theorem Schema.g2 : (Schema.e x)[2]? = some (.int .i64 x.change.kind) := rfl
@[go_sem high] theorem Schema.g3 : (Schema.e x)[3]? = some (.str x.change.fam) := rfl
@[go_sem high] theorem Schema.g4 : (Schema.e x)[4]? = some (.str x.change.qual) := rfl
@[go_sem high] theorem Schema.g5 : (Schema.e x)[5]? = some (.int .i64 x.change.type) := rfl
@[go_sem high] theorem Schema.g6 : (Schema.e x)[6]? = some (.int .i64 x.change.group) := rfl
@[go_sem high] theorem Schema.g7 : (Schema.e x)[7]? = some (.int .i64 x.change.versions) := rfl
@[go_sem high] theorem Schema.g8 : (Schema.e x)[8]? = some (.int .i64 x.change.life) := rfl
@[go_sem high] theorem Schema.g9 : (Schema.e x)[9]? = some (.int .i64 x.step) := rfl
@[go_sem high] theorem Schema.cut : cutL 0 10 (Schema.e x) = some (Schema.e x) := rfl
@[go_sem high] theorem Schema.put (y : Schema) : putL 0 (Schema.e y) (Schema.e x) = some (Schema.e y) := rfl
@[go_sem high] theorem Schema.put0 : putL 0 (Schema.e x) [.int .i64 0, .psl [], .int .i64 0, .str [], .str [], .int .i64 0, .int .i64 0, .int .i64 0, .int .i64 0, .int .i64 0] = some (Schema.e x) := rfl
@[go_sem high] theorem Schema.cut_change : cutL 2 7 (Schema.e x) = some (Change.e x.change) := rfl
@[go_sem high] theorem Schema.put_change (y : Change) : putL 2 (Change.e y) (Schema.e x) = some (Schema.e { x with change := y }) := rfl
@[go_sem high] theorem Schema.set0 (y : Int) : setL 0 (.int .i64 y) (Schema.e x) = some (Schema.e { x with version := y }) := rfl
@[go_sem high] theorem Schema.set1 (y : List Family) : setL 1 (.psl (y.map Family.e)) (Schema.e x) = some (Schema.e { x with fams := y }) := rfl
@[go_sem high] theorem Schema.set2 (y : Int) : setL 2 (.int .i64 y) (Schema.e x) = some (Schema.e { x with change := { x.change with kind := y } }) := rfl
@[go_sem high] theorem Schema.set3 (y : Str) : setL 3 (.str y) (Schema.e x) = some (Schema.e { x with change := { x.change with fam := y } }) := rfl
@[go_sem high] theorem Schema.set4 (y : Str) : setL 4 (.str y) (Schema.e x) = some (Schema.e { x with change := { x.change with qual := y } }) := rfl
@[go_sem high] theorem Schema.set5 (y : Int) : setL 5 (.int .i64 y) (Schema.e x) = some (Schema.e { x with change := { x.change with type := y } }) := rfl
@[go_sem high] theorem Schema.set6 (y : Int) : setL 6 (.int .i64 y) (Schema.e x) = some (Schema.e { x with change := { x.change with group := y } }) := rfl
@[go_sem high] theorem Schema.set7 (y : Int) : setL 7 (.int .i64 y) (Schema.e x) = some (Schema.e { x with change := { x.change with versions := y } }) := rfl
@[go_sem high] theorem Schema.set8 (y : Int) : setL 8 (.int .i64 y) (Schema.e x) = some (Schema.e { x with change := { x.change with life := y } }) := rfl
@[go_sem high] theorem Schema.set9 (y : Int) : setL 9 (.int .i64 y) (Schema.e x) = some (Schema.e { x with step := y }) := rfl
@[go_sem high] theorem Schema.frz (n : Nat) (h : Heap) : frzCs n h (Schema.e x) = (Schema.e x, h) := rfl
@[go_sem high] theorem Schema.tak : (Schema.e x).take 10 = Schema.e x := rfl
@[go_sem high] theorem Schema.drp : (Schema.e x).drop 10 = [] := rfl
@[go_sem high] theorem Schema.own1 (l s i m : Nat) : setL 1 (.sl l s i m) (Schema.e x) = some [.int .i64 x.version, .sl l s i m, .int .i64 x.change.kind, .str x.change.fam, .str x.change.qual, .int .i64 x.change.type, .int .i64 x.change.group, .int .i64 x.change.versions, .int .i64 x.change.life, .int .i64 x.step] := rfl
end
@[go_sem high] theorem Schema.rws (l : List Schema) : (∀ e ∈ l.map Schema.e, e.length = 10 ∧ e.all AV.one = true) = True := by simp only [List.mem_map, forall_exists_index, and_imp, forall_apply_eq_imp_iff₂, eq_iff_iff, iff_true]; exact fun a _ => ⟨rfl, rfl⟩
def Schema.zero : Schema := ⟨0, [], Change.zero, 0⟩
theorem Schema.zero_e : Schema.zero.e = [.int .i64 0, .psl [], .int .i64 0, .str [], .str [], .int .i64 0, .int .i64 0, .int .i64 0, .int .i64 0, .int .i64 0] := rfl

structure Mut where
  kind : Int
  fam : Str
  qual : Str
  val : Value
  deriving DecidableEq
def Mut.e (x : Mut) : List AV := [.int .i64 x.kind, .str x.fam, .str x.qual, .int .i64 x.val.kind, .int .i64 x.val.n, .str x.val.s]
section
variable (x : Mut)
@[go_sem high] theorem Mut.len : (Mut.e x).length = 6 := rfl
@[go_sem high] theorem Mut.ones : (Mut.e x).all AV.one = true := rfl
@[go_sem high] theorem Mut.g0 : (Mut.e x)[0]? = some (.int .i64 x.kind) := rfl
@[go_sem high] theorem Mut.g1 : (Mut.e x)[1]? = some (.str x.fam) := rfl
@[go_sem high] theorem Mut.g2 : (Mut.e x)[2]? = some (.str x.qual) := rfl
@[go_sem high] theorem Mut.g3 : (Mut.e x)[3]? = some (.int .i64 x.val.kind) := rfl
@[go_sem high] theorem Mut.g4 : (Mut.e x)[4]? = some (.int .i64 x.val.n) := rfl
@[go_sem high] theorem Mut.g5 : (Mut.e x)[5]? = some (.str x.val.s) := rfl
@[go_sem high] theorem Mut.cut : cutL 0 6 (Mut.e x) = some (Mut.e x) := rfl
@[go_sem high] theorem Mut.put (y : Mut) : putL 0 (Mut.e y) (Mut.e x) = some (Mut.e y) := rfl
@[go_sem high] theorem Mut.put0 : putL 0 (Mut.e x) [.int .i64 0, .str [], .str [], .int .i64 0, .int .i64 0, .str []] = some (Mut.e x) := rfl
@[go_sem high] theorem Mut.cut_val : cutL 3 3 (Mut.e x) = some (Value.e x.val) := rfl
@[go_sem high] theorem Mut.put_val (y : Value) : putL 3 (Value.e y) (Mut.e x) = some (Mut.e { x with val := y }) := rfl
@[go_sem high] theorem Mut.set0 (y : Int) : setL 0 (.int .i64 y) (Mut.e x) = some (Mut.e { x with kind := y }) := rfl
@[go_sem high] theorem Mut.set1 (y : Str) : setL 1 (.str y) (Mut.e x) = some (Mut.e { x with fam := y }) := rfl
@[go_sem high] theorem Mut.set2 (y : Str) : setL 2 (.str y) (Mut.e x) = some (Mut.e { x with qual := y }) := rfl
@[go_sem high] theorem Mut.set3 (y : Int) : setL 3 (.int .i64 y) (Mut.e x) = some (Mut.e { x with val := { x.val with kind := y } }) := rfl
@[go_sem high] theorem Mut.set4 (y : Int) : setL 4 (.int .i64 y) (Mut.e x) = some (Mut.e { x with val := { x.val with n := y } }) := rfl
@[go_sem high] theorem Mut.set5 (y : Str) : setL 5 (.str y) (Mut.e x) = some (Mut.e { x with val := { x.val with s := y } }) := rfl
@[go_sem high] theorem Mut.frz (n : Nat) (h : Heap) : frzCs n h (Mut.e x) = (Mut.e x, h) := rfl
@[go_sem high] theorem Mut.tak : (Mut.e x).take 6 = Mut.e x := rfl
@[go_sem high] theorem Mut.drp : (Mut.e x).drop 6 = [] := rfl
@[go_sem high] theorem Mut.eq (y : Mut) : eqCells [0, 1, 1, 0, 0, 1] (Mut.e x) (Mut.e y) = some (decide (x = y)) := by
  cases x with | mk x0 x1 x2 x3 => cases y with | mk y0 y1 y2 y3 =>
  cases x3; cases y3
  simp only [Mut.e, eqc_int, eqc_str, eqc_bool, eqc_nil, ob_some, Option.some.injEq, Mut.mk.injEq, Value.mk.injEq,  Bool.and_true]
  rw [Bool.eq_iff_iff]; simp [and_assoc]
end
@[go_sem high] theorem Mut.rws (l : List Mut) : (∀ e ∈ l.map Mut.e, e.length = 6 ∧ e.all AV.one = true) = True := by simp only [List.mem_map, forall_exists_index, and_imp, forall_apply_eq_imp_iff₂, eq_iff_iff, iff_true]; exact fun a _ => ⟨rfl, rfl⟩
def Mut.zero : Mut := ⟨0, [], [], Value.zero⟩
theorem Mut.zero_e : Mut.zero.e = [.int .i64 0, .str [], .str [], .int .i64 0, .int .i64 0, .str []] := rfl
@[go_sem high] theorem Mut.eqz (x : Mut) : eqCells [0, 1, 1, 0, 0, 1] (Mut.e x) [.int .i64 0, .str [], .str [], .int .i64 0, .int .i64 0, .str []] = some (decide (x = Mut.zero)) := by rw [← Mut.zero_e]; exact Mut.eq x Mut.zero

structure Filter where
  fams : List Str
  from_ : Str
  to : Str
  since : Int
  until_ : Int
  versions : Int
  rows : Int
  deriving DecidableEq
def Filter.e (x : Filter) : List AV := [.psl (strs x.fams), .str x.from_, .str x.to, .int .i64 x.since, .int .i64 x.until_, .int .i64 x.versions, .int .i64 x.rows]
section
variable (x : Filter)
@[go_sem high] theorem Filter.len : (Filter.e x).length = 7 := rfl
@[go_sem high] theorem Filter.ones : (Filter.e x).all AV.one = true := rfl
@[go_sem high] theorem Filter.g0 : (Filter.e x)[0]? = some (.psl (strs x.fams)) := rfl
@[go_sem high] theorem Filter.g1 : (Filter.e x)[1]? = some (.str x.from_) := rfl
@[go_sem high] theorem Filter.g2 : (Filter.e x)[2]? = some (.str x.to) := rfl
@[go_sem high] theorem Filter.g3 : (Filter.e x)[3]? = some (.int .i64 x.since) := rfl
@[go_sem high] theorem Filter.g4 : (Filter.e x)[4]? = some (.int .i64 x.until_) := rfl
@[go_sem high] theorem Filter.g5 : (Filter.e x)[5]? = some (.int .i64 x.versions) := rfl
@[go_sem high] theorem Filter.g6 : (Filter.e x)[6]? = some (.int .i64 x.rows) := rfl
@[go_sem high] theorem Filter.cut : cutL 0 7 (Filter.e x) = some (Filter.e x) := rfl
@[go_sem high] theorem Filter.put (y : Filter) : putL 0 (Filter.e y) (Filter.e x) = some (Filter.e y) := rfl
@[go_sem high] theorem Filter.put0 : putL 0 (Filter.e x) [.psl [], .str [], .str [], .int .i64 0, .int .i64 0, .int .i64 0, .int .i64 0] = some (Filter.e x) := rfl
@[go_sem high] theorem Filter.set0 (y : List Str) : setL 0 (.psl (strs y)) (Filter.e x) = some (Filter.e { x with fams := y }) := rfl
@[go_sem high] theorem Filter.set1 (y : Str) : setL 1 (.str y) (Filter.e x) = some (Filter.e { x with from_ := y }) := rfl
@[go_sem high] theorem Filter.set2 (y : Str) : setL 2 (.str y) (Filter.e x) = some (Filter.e { x with to := y }) := rfl
@[go_sem high] theorem Filter.set3 (y : Int) : setL 3 (.int .i64 y) (Filter.e x) = some (Filter.e { x with since := y }) := rfl
@[go_sem high] theorem Filter.set4 (y : Int) : setL 4 (.int .i64 y) (Filter.e x) = some (Filter.e { x with until_ := y }) := rfl
@[go_sem high] theorem Filter.set5 (y : Int) : setL 5 (.int .i64 y) (Filter.e x) = some (Filter.e { x with versions := y }) := rfl
@[go_sem high] theorem Filter.set6 (y : Int) : setL 6 (.int .i64 y) (Filter.e x) = some (Filter.e { x with rows := y }) := rfl
@[go_sem high] theorem Filter.frz (n : Nat) (h : Heap) : frzCs n h (Filter.e x) = (Filter.e x, h) := rfl
@[go_sem high] theorem Filter.tak : (Filter.e x).take 7 = Filter.e x := rfl
@[go_sem high] theorem Filter.drp : (Filter.e x).drop 7 = [] := rfl
@[go_sem high] theorem Filter.own0 (l s i m : Nat) : setL 0 (.sl l s i m) (Filter.e x) = some [.sl l s i m, .str x.from_, .str x.to, .int .i64 x.since, .int .i64 x.until_, .int .i64 x.versions, .int .i64 x.rows] := rfl
end
@[go_sem high] theorem Filter.rws (l : List Filter) : (∀ e ∈ l.map Filter.e, e.length = 7 ∧ e.all AV.one = true) = True := by simp only [List.mem_map, forall_exists_index, and_imp, forall_apply_eq_imp_iff₂, eq_iff_iff, iff_true]; exact fun a _ => ⟨rfl, rfl⟩
def Filter.zero : Filter := ⟨[], [], [], 0, 0, 0, 0⟩
theorem Filter.zero_e : Filter.zero.e = [.psl [], .str [], .str [], .int .i64 0, .int .i64 0, .int .i64 0, .int .i64 0] := rfl

structure Request where
  kind : Int
  row : Str
  to : Str
  muts : List Mut
  fam : Str
  qual : Str
  val : Value
  filter : Filter
  deriving DecidableEq
def Request.e (x : Request) : List AV := [.int .i64 x.kind, .str x.row, .str x.to, .psl (x.muts.map Mut.e), .str x.fam, .str x.qual, .int .i64 x.val.kind, .int .i64 x.val.n, .str x.val.s, .psl (strs x.filter.fams), .str x.filter.from_, .str x.filter.to, .int .i64 x.filter.since, .int .i64 x.filter.until_, .int .i64 x.filter.versions, .int .i64 x.filter.rows]
section
variable (x : Request)
@[go_sem high] theorem Request.len : (Request.e x).length = 16 := rfl
@[go_sem high] theorem Request.ones : (Request.e x).all AV.one = true := rfl
@[go_sem high] theorem Request.g0 : (Request.e x)[0]? = some (.int .i64 x.kind) := rfl
@[go_sem high] theorem Request.g1 : (Request.e x)[1]? = some (.str x.row) := rfl
@[go_sem high] theorem Request.g2 : (Request.e x)[2]? = some (.str x.to) := rfl
@[go_sem high] theorem Request.g3 : (Request.e x)[3]? = some (.psl (x.muts.map Mut.e)) := rfl
@[go_sem high] theorem Request.g4 : (Request.e x)[4]? = some (.str x.fam) := rfl
@[go_sem high] theorem Request.g5 : (Request.e x)[5]? = some (.str x.qual) := rfl
@[go_sem high] theorem Request.g6 : (Request.e x)[6]? = some (.int .i64 x.val.kind) := rfl
@[go_sem high] theorem Request.g7 : (Request.e x)[7]? = some (.int .i64 x.val.n) := rfl
@[go_sem high] theorem Request.g8 : (Request.e x)[8]? = some (.str x.val.s) := rfl
@[go_sem high] theorem Request.g9 : (Request.e x)[9]? = some (.psl (strs x.filter.fams)) := rfl
@[go_sem high] theorem Request.g10 : (Request.e x)[10]? = some (.str x.filter.from_) := rfl
@[go_sem high] theorem Request.g11 : (Request.e x)[11]? = some (.str x.filter.to) := rfl
@[go_sem high] theorem Request.g12 : (Request.e x)[12]? = some (.int .i64 x.filter.since) := rfl
@[go_sem high] theorem Request.g13 : (Request.e x)[13]? = some (.int .i64 x.filter.until_) := rfl
@[go_sem high] theorem Request.g14 : (Request.e x)[14]? = some (.int .i64 x.filter.versions) := rfl
@[go_sem high] theorem Request.g15 : (Request.e x)[15]? = some (.int .i64 x.filter.rows) := rfl
@[go_sem high] theorem Request.cut : cutL 0 16 (Request.e x) = some (Request.e x) := rfl
@[go_sem high] theorem Request.put (y : Request) : putL 0 (Request.e y) (Request.e x) = some (Request.e y) := rfl
@[go_sem high] theorem Request.put0 : putL 0 (Request.e x) [.int .i64 0, .str [], .str [], .psl [], .str [], .str [], .int .i64 0, .int .i64 0, .str [], .psl [], .str [], .str [], .int .i64 0, .int .i64 0, .int .i64 0, .int .i64 0] = some (Request.e x) := rfl
@[go_sem high] theorem Request.cut_val : cutL 6 3 (Request.e x) = some (Value.e x.val) := rfl
@[go_sem high] theorem Request.put_val (y : Value) : putL 6 (Value.e y) (Request.e x) = some (Request.e { x with val := y }) := rfl
@[go_sem high] theorem Request.cut_filter : cutL 9 7 (Request.e x) = some (Filter.e x.filter) := rfl
@[go_sem high] theorem Request.put_filter (y : Filter) : putL 9 (Filter.e y) (Request.e x) = some (Request.e { x with filter := y }) := rfl
@[go_sem high] theorem Request.set0 (y : Int) : setL 0 (.int .i64 y) (Request.e x) = some (Request.e { x with kind := y }) := rfl
@[go_sem high] theorem Request.set1 (y : Str) : setL 1 (.str y) (Request.e x) = some (Request.e { x with row := y }) := rfl
@[go_sem high] theorem Request.set2 (y : Str) : setL 2 (.str y) (Request.e x) = some (Request.e { x with to := y }) := rfl
@[go_sem high] theorem Request.set3 (y : List Mut) : setL 3 (.psl (y.map Mut.e)) (Request.e x) = some (Request.e { x with muts := y }) := rfl
@[go_sem high] theorem Request.set4 (y : Str) : setL 4 (.str y) (Request.e x) = some (Request.e { x with fam := y }) := rfl
@[go_sem high] theorem Request.set5 (y : Str) : setL 5 (.str y) (Request.e x) = some (Request.e { x with qual := y }) := rfl
@[go_sem high] theorem Request.set6 (y : Int) : setL 6 (.int .i64 y) (Request.e x) = some (Request.e { x with val := { x.val with kind := y } }) := rfl
@[go_sem high] theorem Request.set7 (y : Int) : setL 7 (.int .i64 y) (Request.e x) = some (Request.e { x with val := { x.val with n := y } }) := rfl
@[go_sem high] theorem Request.set8 (y : Str) : setL 8 (.str y) (Request.e x) = some (Request.e { x with val := { x.val with s := y } }) := rfl
@[go_sem high] theorem Request.set9 (y : List Str) : setL 9 (.psl (strs y)) (Request.e x) = some (Request.e { x with filter := { x.filter with fams := y } }) := rfl
@[go_sem high] theorem Request.set10 (y : Str) : setL 10 (.str y) (Request.e x) = some (Request.e { x with filter := { x.filter with from_ := y } }) := rfl
@[go_sem high] theorem Request.set11 (y : Str) : setL 11 (.str y) (Request.e x) = some (Request.e { x with filter := { x.filter with to := y } }) := rfl
@[go_sem high] theorem Request.set12 (y : Int) : setL 12 (.int .i64 y) (Request.e x) = some (Request.e { x with filter := { x.filter with since := y } }) := rfl
@[go_sem high] theorem Request.set13 (y : Int) : setL 13 (.int .i64 y) (Request.e x) = some (Request.e { x with filter := { x.filter with until_ := y } }) := rfl
@[go_sem high] theorem Request.set14 (y : Int) : setL 14 (.int .i64 y) (Request.e x) = some (Request.e { x with filter := { x.filter with versions := y } }) := rfl
@[go_sem high] theorem Request.set15 (y : Int) : setL 15 (.int .i64 y) (Request.e x) = some (Request.e { x with filter := { x.filter with rows := y } }) := rfl
@[go_sem high] theorem Request.frz (n : Nat) (h : Heap) : frzCs n h (Request.e x) = (Request.e x, h) := rfl
@[go_sem high] theorem Request.tak : (Request.e x).take 16 = Request.e x := rfl
@[go_sem high] theorem Request.drp : (Request.e x).drop 16 = [] := rfl
@[go_sem high] theorem Request.own3 (l s i m : Nat) : setL 3 (.sl l s i m) (Request.e x) = some [.int .i64 x.kind, .str x.row, .str x.to, .sl l s i m, .str x.fam, .str x.qual, .int .i64 x.val.kind, .int .i64 x.val.n, .str x.val.s, .psl (strs x.filter.fams), .str x.filter.from_, .str x.filter.to, .int .i64 x.filter.since, .int .i64 x.filter.until_, .int .i64 x.filter.versions, .int .i64 x.filter.rows] := rfl
@[go_sem high] theorem Request.own9 (l s i m : Nat) : setL 9 (.sl l s i m) (Request.e x) = some [.int .i64 x.kind, .str x.row, .str x.to, .psl (x.muts.map Mut.e), .str x.fam, .str x.qual, .int .i64 x.val.kind, .int .i64 x.val.n, .str x.val.s, .sl l s i m, .str x.filter.from_, .str x.filter.to, .int .i64 x.filter.since, .int .i64 x.filter.until_, .int .i64 x.filter.versions, .int .i64 x.filter.rows] := rfl
end
@[go_sem high] theorem Request.rws (l : List Request) : (∀ e ∈ l.map Request.e, e.length = 16 ∧ e.all AV.one = true) = True := by simp only [List.mem_map, forall_exists_index, and_imp, forall_apply_eq_imp_iff₂, eq_iff_iff, iff_true]; exact fun a _ => ⟨rfl, rfl⟩
def Request.zero : Request := ⟨0, [], [], [], [], [], Value.zero, Filter.zero⟩
theorem Request.zero_e : Request.zero.e = [.int .i64 0, .str [], .str [], .psl [], .str [], .str [], .int .i64 0, .int .i64 0, .str [], .psl [], .str [], .str [], .int .i64 0, .int .i64 0, .int .i64 0, .int .i64 0] := rfl

structure Layouted where
  fam : Str
  layouts : List Layout
  deriving DecidableEq
def Layouted.e (x : Layouted) : List AV := [.str x.fam, .psl (x.layouts.map Layout.e)]
section
variable (x : Layouted)
@[go_sem high] theorem Layouted.len : (Layouted.e x).length = 2 := rfl
@[go_sem high] theorem Layouted.ones : (Layouted.e x).all AV.one = true := rfl
@[go_sem high] theorem Layouted.g0 : (Layouted.e x)[0]? = some (.str x.fam) := rfl
@[go_sem high] theorem Layouted.g1 : (Layouted.e x)[1]? = some (.psl (x.layouts.map Layout.e)) := rfl
@[go_sem high] theorem Layouted.cut : cutL 0 2 (Layouted.e x) = some (Layouted.e x) := rfl
@[go_sem high] theorem Layouted.put (y : Layouted) : putL 0 (Layouted.e y) (Layouted.e x) = some (Layouted.e y) := rfl
@[go_sem high] theorem Layouted.put0 : putL 0 (Layouted.e x) [.str [], .psl []] = some (Layouted.e x) := rfl
@[go_sem high] theorem Layouted.set0 (y : Str) : setL 0 (.str y) (Layouted.e x) = some (Layouted.e { x with fam := y }) := rfl
@[go_sem high] theorem Layouted.set1 (y : List Layout) : setL 1 (.psl (y.map Layout.e)) (Layouted.e x) = some (Layouted.e { x with layouts := y }) := rfl
@[go_sem high] theorem Layouted.frz (n : Nat) (h : Heap) : frzCs n h (Layouted.e x) = (Layouted.e x, h) := rfl
@[go_sem high] theorem Layouted.tak : (Layouted.e x).take 2 = Layouted.e x := rfl
@[go_sem high] theorem Layouted.drp : (Layouted.e x).drop 2 = [] := rfl
@[go_sem high] theorem Layouted.own1 (l s i m : Nat) : setL 1 (.sl l s i m) (Layouted.e x) = some [.str x.fam, .sl l s i m] := rfl
end
@[go_sem high] theorem Layouted.rws (l : List Layouted) : (∀ e ∈ l.map Layouted.e, e.length = 2 ∧ e.all AV.one = true) = True := by simp only [List.mem_map, forall_exists_index, and_imp, forall_apply_eq_imp_iff₂, eq_iff_iff, iff_true]; exact fun a _ => ⟨rfl, rfl⟩
def Layouted.zero : Layouted := ⟨[], []⟩
theorem Layouted.zero_e : Layouted.zero.e = [.str [], .psl []] := rfl

structure Place where
  fam : Str
  group : Int
  versions : Int
  life : Int
  quals : List Str
  deriving DecidableEq
def Place.e (x : Place) : List AV := [.str x.fam, .int .i64 x.group, .int .i64 x.versions, .int .i64 x.life, .psl (strs x.quals)]
section
variable (x : Place)
@[go_sem high] theorem Place.len : (Place.e x).length = 5 := rfl
@[go_sem high] theorem Place.ones : (Place.e x).all AV.one = true := rfl
@[go_sem high] theorem Place.g0 : (Place.e x)[0]? = some (.str x.fam) := rfl
@[go_sem high] theorem Place.g1 : (Place.e x)[1]? = some (.int .i64 x.group) := rfl
@[go_sem high] theorem Place.g2 : (Place.e x)[2]? = some (.int .i64 x.versions) := rfl
@[go_sem high] theorem Place.g3 : (Place.e x)[3]? = some (.int .i64 x.life) := rfl
@[go_sem high] theorem Place.g4 : (Place.e x)[4]? = some (.psl (strs x.quals)) := rfl
@[go_sem high] theorem Place.cut : cutL 0 5 (Place.e x) = some (Place.e x) := rfl
@[go_sem high] theorem Place.put (y : Place) : putL 0 (Place.e y) (Place.e x) = some (Place.e y) := rfl
@[go_sem high] theorem Place.put0 : putL 0 (Place.e x) [.str [], .int .i64 0, .int .i64 0, .int .i64 0, .psl []] = some (Place.e x) := rfl
@[go_sem high] theorem Place.set0 (y : Str) : setL 0 (.str y) (Place.e x) = some (Place.e { x with fam := y }) := rfl
@[go_sem high] theorem Place.set1 (y : Int) : setL 1 (.int .i64 y) (Place.e x) = some (Place.e { x with group := y }) := rfl
@[go_sem high] theorem Place.set2 (y : Int) : setL 2 (.int .i64 y) (Place.e x) = some (Place.e { x with versions := y }) := rfl
@[go_sem high] theorem Place.set3 (y : Int) : setL 3 (.int .i64 y) (Place.e x) = some (Place.e { x with life := y }) := rfl
@[go_sem high] theorem Place.set4 (y : List Str) : setL 4 (.psl (strs y)) (Place.e x) = some (Place.e { x with quals := y }) := rfl
@[go_sem high] theorem Place.frz (n : Nat) (h : Heap) : frzCs n h (Place.e x) = (Place.e x, h) := rfl
@[go_sem high] theorem Place.tak : (Place.e x).take 5 = Place.e x := rfl
@[go_sem high] theorem Place.drp : (Place.e x).drop 5 = [] := rfl
@[go_sem high] theorem Place.own4 (l s i m : Nat) : setL 4 (.sl l s i m) (Place.e x) = some [.str x.fam, .int .i64 x.group, .int .i64 x.versions, .int .i64 x.life, .sl l s i m] := rfl
end
@[go_sem high] theorem Place.rws (l : List Place) : (∀ e ∈ l.map Place.e, e.length = 5 ∧ e.all AV.one = true) = True := by simp only [List.mem_map, forall_exists_index, and_imp, forall_apply_eq_imp_iff₂, eq_iff_iff, iff_true]; exact fun a _ => ⟨rfl, rfl⟩
def Place.zero : Place := ⟨[], 0, 0, 0, []⟩
theorem Place.zero_e : Place.zero.e = [.str [], .int .i64 0, .int .i64 0, .int .i64 0, .psl []] := rfl

attribute [go_sem] Value.zero Change.zero
end Go.Ab

/- Small laws for walks over lists. -/
namespace Go.Ab

theorem gml {α β : Type} (f : α → β) {l pre post : List α} {x : α} (h : l = pre ++ x :: post) : (l.map f)[pre.length]? = some (f x) := by subst h; simp
theorem gl {α : Type} {l pre post : List α} {x : α} (h : l = pre ++ x :: post) : l[pre.length]? = some x := by subst h; simp
theorem nl {α : Type} {l pre post : List α} {x : α} (h : l = pre ++ x :: post) : l.length = pre.length + (post.length + 1) := by subst h; simp
theorem nl0 {α : Type} {l pre : List α} (h : l = pre ++ []) : l.length = pre.length := by subst h; simp
theorem ltT (n m : Nat) : (((n : Int) < ((n + (m + 1) : Nat) : Int))) = True := by simp; omega
theorem ltF (n : Nat) : (((n : Int) < (n : Int))) = False := by simp
@[go_sem] theorem ints_len (l : List Int) : (ints l).length = l.length := by simp [ints]
@[go_sem] theorem strs_len (l : List Str) : (strs l).length = l.length := by simp [strs]
theorem gints {l pre post : List Int} {x : Int} (h : l = pre ++ x :: post) : (ints l)[pre.length]? = some [.int .i64 x] := gml (fun n => [AV.int .i64 n]) h
theorem gstrs {l pre post : List Str} {x : Str} (h : l = pre ++ x :: post) : (strs l)[pre.length]? = some [.str x] := gml (fun n => [AV.str n]) h
@[go_sem] theorem ints_snoc (l : List Int) (x : Int) : ints l ++ [[.int .i64 x]] = ints (l ++ [x]) := by simp [ints]
@[go_sem] theorem strs_snoc (l : List Str) (x : Str) : strs l ++ [[.str x]] = strs (l ++ [x]) := by simp [strs]
@[go_sem] theorem ints_rows (l : List Int) : (∀ e ∈ ints l, e.length = 1 ∧ e.all AV.one = true) = True := by simp [ints, AV.one]
@[go_sem] theorem strs_rows (l : List Str) : (∀ e ∈ strs l, e.length = 1 ∧ e.all AV.one = true) = True := by simp [strs, AV.one]
@[go_sem] theorem take_map {α β : Type} (f : α → β) (l : List α) : (l.map f).take l.length = l.map f := by rw [← List.length_map (f := f)]; exact List.take_length
@[go_sem] theorem take_ints (l : List Int) : (ints l).take l.length = ints l := take_map _ _
@[go_sem] theorem take_strs (l : List Str) : (strs l).take l.length = strs l := take_map _ _
@[go_sem] theorem take_intsm {α : Type} (g : α → Int) (l : List α) : (ints (l.map g)).take l.length = ints (l.map g) := by have := take_ints (l.map g); simpa using this
@[go_sem] theorem take_strsm {α : Type} (g : α → Str) (l : List α) : (strs (l.map g)).take l.length = strs (l.map g) := by have := take_strs (l.map g); simpa using this
@[go_sem] theorem take_mapm {α β γ : Type} (f : β → γ) (g : α → β) (l : List α) : ((l.map g).map f).take l.length = (l.map g).map f := by have := take_map f (l.map g); simpa using this
@[go_sem] theorem un_dead (op : UnOp) : unV op .dead = none := rfl
@[go_sem] theorem bin_dead1 (op : BinOp) (y : AV) : binV op .dead y = none := rfl
@[go_sem] theorem bin_dead2 (op : BinOp) (x : AV) : binV op x .dead = none := by cases x <;> rfl
@[go_sem] theorem loadV_dead (h : Heap) : loadV h .dead = none := rfl
@[go_sem] theorem loadN_dead (n : Nat) (h : Heap) : loadN n h .dead = none := rfl
@[go_sem] theorem foff_dead (n : Nat) : foffV n .dead = none := rfl
@[go_sem] theorem lenl_dead (h : Heap) : lenlV h .dead = none := rfl
@[go_sem] theorem lens_dead : lensV .dead = none := rfl
@[go_sem] theorem iadr_dead (h : Heap) (z : Nat) (y : AV) : iadrV h z .dead y = none := rfl
@[go_sem] theorem fld_dead (n : Nat) : fldV n .dead = none := rfl
@[go_sem] theorem fldn_dead (n m : Nat) : fldnV n m .dead = none := rfl
@[go_sem] theorem ext_dead (n : Nat) : extV n .dead = none := rfl
@[go_sem] theorem nilc_dead : nilcV .dead = none := rfl
@[go_sem] theorem cvt_dead (k : IntKind) : cvtV k .dead = none := rfl
@[go_sem] theorem eqk_dead1 (k : EqK) (y : AV) : eqkV k .dead y = none := by cases k <;> rfl
@[go_sem] theorem eqk_dead2 (k : EqK) (x : AV) : eqkV k x .dead = none := by cases k <;> cases x <;> rfl
@[go_sem] theorem sel_dead1 (y : AV) : selV false .dead y = some y := by cases y <;> rfl
@[go_sem] theorem sel_dead2 (x : AV) : selV true x .dead = some x := by cases x <;> rfl
@[go_sem] theorem asBool_dead : asBool .dead = none := rfl
section
variable (h r : Heap) (l k : Nat) (o x : AObj)
@[go_sem] theorem sget0 : (h.set l o ++ r)[h.length]? = r[0]? := by rw [List.getElem?_append_right (by simp)]; simp
@[go_sem] theorem sgetk : (h.set l o ++ r)[h.length + k]? = r[k]? := by rw [List.getElem?_append_right (by simp)]; simp
@[go_sem] theorem sset0 : (h.set l o ++ r).set h.length x = h.set l o ++ r.set 0 x := by rw [List.set_append_right _ _ (by simp)]; simp
@[go_sem] theorem ssetk : (h.set l o ++ r).set (h.length + k) x = h.set l o ++ r.set k x := by rw [List.set_append_right _ _ (by simp)]; simp
@[go_sem] theorem stake : (h.set l o ++ r).take h.length = h.set l o := by rw [List.take_append_of_le_length (by simp)]; exact List.take_of_length_le (by simp)
@[go_sem] theorem stake0 : (h.set l o).take h.length = h.set l o := List.take_of_length_le (by simp)
end
attribute [go_sem] Option.isSome_none Option.isSome_some Bool.false_eq_true if_false
attribute [go_sem] ltT ltF eput.eq_1 eput.eq_2 Option.map_none Option.map_some

theorem zl {α : Type} {a b : List α} (hab : a.length = b.length) {pre post : List (α × α)} {x : α × α} (h : a.zip b = pre ++ x :: post) : a[pre.length]? = some x.1 ∧ b[pre.length]? = some x.2 ∧ a.length = pre.length + (post.length + 1) ∧ b.length = pre.length + (post.length + 1) := by
  have h1 : (a.zip b)[pre.length]? = some x := by rw [h]; simp
  rw [List.getElem?_zip_eq_some] at h1
  have h2 : (a.zip b).length = pre.length + (post.length + 1) := by rw [h]; simp
  rw [List.length_zip] at h2
  exact ⟨h1.1, h1.2, by omega, by omega⟩
theorem zn {α : Type} {a b : List α} (hab : a.length = b.length) {pre : List (α × α)} (h : a.zip b = pre ++ []) : a.length = pre.length ∧ b.length = pre.length := by
  have h2 : (a.zip b).length = pre.length := by rw [h]; simp
  rw [List.length_zip] at h2
  omega
theorem gmap {α β : Type} (f : α → β) {l : List α} {i : Nat} {x : α} (h : l[i]? = some x) : (l.map f)[i]? = some (f x) := by simp [h]
theorem zall {α : Type} [DecidableEq α] : ∀ {a b : List α}, a.length = b.length → ((a.zip b).all fun x => decide (x.1 = x.2)) = decide (a = b)
  | [], [], _ => rfl
  | x :: a, y :: b, h => by
    have ih := zall (a := a) (b := b) (by simpa using h)
    simp only [List.zip_cons_cons, List.all_cons, ih, List.cons.injEq]
    rw [Bool.eq_iff_iff]; simp
  | [], _ :: _, h => by simp at h
  | _ :: _, [], h => by simp at h
theorem strs_eq (l : List Str) : strs l = l.map fun n => [AV.str n] := rfl
theorem ints_eq (l : List Int) : ints l = l.map fun n => [AV.int .i64 n] := rfl
theorem neqlen {n m : Nat} : ((n : Int) != (m : Int)) = !decide (n = m) := by
  by_cases h : n = m
  · simp [h]
  · simp [h]; omega
theorem dne {α : Type} {a b : List α} [DecidableEq α] (h : a.length ≠ b.length) : decide (a = b) = false := by
  simp; intro e; exact h (by rw [e])

section
variable {F : Fin_} {ks : List Kt} {keep : List Nat} {env : Env} {h : Heap}
theorem opS_sI {d : Nat} {o : POp} {r : List COper} (h1 : stab1 env d (o.ev ⟨env, h⟩ true)) (h2 : opS F ks keep r env h) : opS F ks keep (⟨some d, .s o, none⟩ :: r) env h := ⟨h1, h2⟩
theorem opS_sgI {d : Nat} {o : POp} {t : Nat} {wn : Bool} {r : List COper} (h1 : stabG env h d o (gval (eget env t) wn)) (h2 : opS F ks keep r env h) : opS F ks keep (⟨some d, .s o, some (t, wn)⟩ :: r) env h := ⟨h1, h2⟩
theorem opS_bI {d : Option Nat} {z len : Nat} {zero : List AV} {parts : List (Nat × Nat × Opd)} {r : List COper} (h1 : bslOk env z len zero parts) (h2 : opS F ks keep r env h) : opS F ks keep (⟨d, .b z len zero parts, none⟩ :: r) env h := ⟨h1, h2⟩
end
end Go.Ab

/- Sizes. -/
namespace Go.Ab

/-! sizes -/
structure Value.wf (v : Value) : Prop where
  s : v.s.length < 1099511627776
  lo : -9223372036854775808 ≤ v.n
  hi : v.n < 9223372036854775808
structure Column.wf (c : Column) : Prop where
  qual : c.qual.length < 1099511627776
structure Family.wf (f : Family) : Prop where
  name : f.name.length < 1099511627776
  lays : f.layouts.length < 1099511627776
  cols : f.cols.length < 1099511627776
  col : ∀ c ∈ f.cols, Column.wf c
structure Schema.wf (s : Schema) : Prop where
  fams : s.fams.length < 1099511627776
  fam : ∀ f ∈ s.fams, Family.wf f
structure Cell.wf (c : Cell) : Prop where
  row : c.row.length < 1099511627776
  fam : c.fam.length < 1099511627776
  qual : c.qual.length < 1099511627776
  val : Value.wf c.val
structure Mut.wf (c : Mut) : Prop where
  fam : c.fam.length < 1099511627776
  qual : c.qual.length < 1099511627776
  val : Value.wf c.val
structure Filter.wf (f : Filter) : Prop where
  fams : f.fams.length < 1099511627776
  fam : ∀ s ∈ f.fams, s.length < 1099511627776
  from_ : f.from_.length < 1099511627776
  to : f.to.length < 1099511627776
structure Request.wf (q : Request) : Prop where
  row : q.row.length < 1099511627776
  to : q.to.length < 1099511627776
  muts : q.muts.length < 1099511627776
  mutw : ∀ m ∈ q.muts, Mut.wf m
  fam : q.fam.length < 1099511627776
  qual : q.qual.length < 1099511627776
  val : Value.wf q.val
  filter : Filter.wf q.filter

end Go.Ab
