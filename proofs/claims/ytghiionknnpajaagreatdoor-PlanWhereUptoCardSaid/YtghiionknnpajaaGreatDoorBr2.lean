/- The bridge, part 2: what is read of arguments, as the data's own structures. -/
import Derived.Test.YtghiionknnpajaaGreatDoorBr1
import Derived.Test.YtghiionknnpajaaGreatDoorP3
import Derived.Test.YtghiionknnpajaaGreatDoorK2
set_option linter.unusedVariables false
set_option linter.unusedSimpArgs false
namespace Go.Ab.S2
open Go.Ab
section
variable {B n : Nat} {a : List AV}

theorem rd_int (h : Rd PP B n 3 a) : ∃ z, a = [.int .i64 z] ∧ -9223372036854775808 ≤ z ∧ z < 9223372036854775808 := by
  cases n with
  | zero => exact h.elim
  | succ n =>
    simp only [Rd, Go.Proofs.Tryz.underlying3] at h
    obtain ⟨z, rfl, hz⟩ := h
    simp only [Lit.wf, Bool.and_eq_true, decide_eq_true_eq] at hz
    have e1 : IntKind.i64.min = -9223372036854775808 := rfl
    have e2 : IntKind.i64.max = 9223372036854775807 := rfl
    exact ⟨z, rfl, by omega, by omega⟩
theorem rd_str (h : Rd PP B n 9 a) : ∃ s : Str, a = [.str s] ∧ s.length ≤ B := by
  cases n with
  | zero => exact h.elim
  | succ n =>
    simp only [Rd, Go.Proofs.Tryz.underlying9] at h
    exact h
theorem list_of {α : Type} {e : α → List AV} {Q : α → Prop} : ∀ {es : List (List AV)}, (∀ r ∈ es, ∃ x, r = e x ∧ Q x) → ∃ l : List α, es = l.map e ∧ ∀ x ∈ l, Q x
  | [], _ => ⟨[], rfl, by simp⟩
  | r :: es, h => by
    obtain ⟨x, rfl, hx⟩ := h r (by simp)
    obtain ⟨l, rfl, hl⟩ := list_of (es := es) fun q hq => h q (by simp [hq])
    exact ⟨x :: l, rfl, by simpa using ⟨hx, hl⟩⟩
theorem rd_strs (h : Rd PP B n 50 a) : ∃ l : List Str, a = [.psl (strs l)] ∧ l.length ≤ B ∧ ∀ s ∈ l, s.length ≤ B := by
  cases n with
  | zero => exact h.elim
  | succ n =>
    simp only [Rd, Go.Proofs.Tryz.underlying50] at h
    obtain ⟨es, rfl, hl, he⟩ := h
    obtain ⟨l, rfl, hq⟩ := list_of (e := fun s => [AV.str s]) (Q := fun s => s.length ≤ B) fun r hr => rd_str (he r hr)
    exact ⟨l, rfl, by simpa using hl, hq⟩

theorem rd_Value (hB : B ≤ 1048576) (h : Rd PP B n 29 a) : ∃ x : Value, a = x.e ∧ Value.wf x := by
  cases n with
  | zero => exact h.elim
  | succ n =>
    simp only [Rd, Go.Proofs.Tryz.underlying29, RdF] at h
    obtain ⟨x0, y0, rfl, h0, x1, y1, rfl, h1, x2, y2, rfl, h2, rfl⟩ := h
    obtain ⟨v0, rfl, w90, w70⟩ := rd_int h0
    obtain ⟨v1, rfl, w1, w2⟩ := rd_int h1
    obtain ⟨v2, rfl, l2⟩ := rd_str h2
    exact ⟨⟨v0, v1, v2⟩, by simp [Value.e], ⟨by simp only; omega, w1, w2⟩⟩

theorem rd_Cell (hB : B ≤ 1048576) (h : Rd PP B n 31 a) : ∃ x : Cell, a = x.e ∧ Cell.wf x := by
  cases n with
  | zero => exact h.elim
  | succ n =>
    simp only [Rd, Go.Proofs.Tryz.underlying31, RdF] at h
    obtain ⟨x0, y0, rfl, h0, x1, y1, rfl, h1, x2, y2, rfl, h2, x3, y3, rfl, h3, x4, y4, rfl, h4, x5, y5, rfl, h5, rfl⟩ := h
    obtain ⟨v0, rfl, l0⟩ := rd_str h0
    obtain ⟨v1, rfl, l1⟩ := rd_str h1
    obtain ⟨v2, rfl, l2⟩ := rd_str h2
    obtain ⟨v3, rfl, w93, w73⟩ := rd_int h3
    obtain ⟨v4, rfl, w94, w74⟩ := rd_int h4
    obtain ⟨v5, rfl, wval⟩ := rd_Value hB h5
    exact ⟨⟨v0, v1, v2, v3, v4, v5⟩, by simp [Cell.e, Value.e], ⟨by simp only; omega, by simp only; omega, by simp only; omega, wval⟩⟩

theorem rd_Layout (hB : B ≤ 1048576) (h : Rd PP B n 97 a) : ∃ x : Layout, a = x.e ∧ True := by
  cases n with
  | zero => exact h.elim
  | succ n =>
    simp only [Rd, Go.Proofs.Tryz.underlying97, RdF] at h
    obtain ⟨x0, y0, rfl, h0, x1, y1, rfl, h1, rfl⟩ := h
    obtain ⟨v0, rfl, w90, w70⟩ := rd_int h0
    obtain ⟨v1, rfl, w91, w71⟩ := rd_int h1
    exact ⟨⟨v0, v1⟩, by simp [Layout.e], trivial⟩

theorem rd_Column (hB : B ≤ 1048576) (h : Rd PP B n 93 a) : ∃ x : Column, a = x.e ∧ Column.wf x := by
  cases n with
  | zero => exact h.elim
  | succ n =>
    simp only [Rd, Go.Proofs.Tryz.underlying93, RdF] at h
    obtain ⟨x0, y0, rfl, h0, x1, y1, rfl, h1, x2, y2, rfl, h2, rfl⟩ := h
    obtain ⟨v0, rfl, l0⟩ := rd_str h0
    obtain ⟨v1, rfl, w91, w71⟩ := rd_int h1
    obtain ⟨v2, rfl, w92, w72⟩ := rd_int h2
    exact ⟨⟨v0, v1, v2⟩, by simp [Column.e], ⟨by simp only; omega⟩⟩

theorem rd_Layouts (hB : B ≤ 1048576) (h : Rd PP B n 42 a) : ∃ l : List Layout, a = [.psl (l.map Layout.e)] ∧ l.length ≤ B ∧ ∀ x ∈ l, True := by
  cases n with
  | zero => exact h.elim
  | succ n =>
    simp only [Rd, Go.Proofs.Tryz.underlying42] at h
    obtain ⟨es, rfl, hl, he⟩ := h
    obtain ⟨l, rfl, hq⟩ := list_of (e := Layout.e) (Q := fun x => True) fun r hr => rd_Layout hB (he r hr)
    exact ⟨l, rfl, by simpa using hl, hq⟩

theorem rd_Columns (hB : B ≤ 1048576) (h : Rd PP B n 45 a) : ∃ l : List Column, a = [.psl (l.map Column.e)] ∧ l.length ≤ B ∧ ∀ x ∈ l, Column.wf x := by
  cases n with
  | zero => exact h.elim
  | succ n =>
    simp only [Rd, Go.Proofs.Tryz.underlying45] at h
    obtain ⟨es, rfl, hl, he⟩ := h
    obtain ⟨l, rfl, hq⟩ := list_of (e := Column.e) (Q := fun x => Column.wf x) fun r hr => rd_Column hB (he r hr)
    exact ⟨l, rfl, by simpa using hl, hq⟩

theorem rd_Family (hB : B ≤ 1048576) (h : Rd PP B n 47 a) : ∃ x : Family, a = x.e ∧ Family.wf x := by
  cases n with
  | zero => exact h.elim
  | succ n =>
    simp only [Rd, Go.Proofs.Tryz.underlying47, RdF] at h
    obtain ⟨x0, y0, rfl, h0, x1, y1, rfl, h1, x2, y2, rfl, h2, x3, y3, rfl, h3, x4, y4, rfl, h4, rfl⟩ := h
    obtain ⟨v0, rfl, l0⟩ := rd_str h0
    obtain ⟨v1, rfl, w91, w71⟩ := rd_int h1
    obtain ⟨v2, rfl, w92, w72⟩ := rd_int h2
    obtain ⟨v3, rfl, l3, wlayouts⟩ := rd_Layouts hB h3
    obtain ⟨v4, rfl, l4, wcols⟩ := rd_Columns hB h4
    exact ⟨⟨v0, v1, v2, v3, v4⟩, by simp [Family.e], ⟨by simp only; omega, by simp only; omega, by simp only; omega, wcols⟩⟩

theorem rd_Change (hB : B ≤ 1048576) (h : Rd PP B n 24 a) : ∃ x : Change, a = x.e ∧ True := by
  cases n with
  | zero => exact h.elim
  | succ n =>
    simp only [Rd, Go.Proofs.Tryz.underlying24, RdF] at h
    obtain ⟨x0, y0, rfl, h0, x1, y1, rfl, h1, x2, y2, rfl, h2, x3, y3, rfl, h3, x4, y4, rfl, h4, x5, y5, rfl, h5, x6, y6, rfl, h6, rfl⟩ := h
    obtain ⟨v0, rfl, w90, w70⟩ := rd_int h0
    obtain ⟨v1, rfl, l1⟩ := rd_str h1
    obtain ⟨v2, rfl, l2⟩ := rd_str h2
    obtain ⟨v3, rfl, w93, w73⟩ := rd_int h3
    obtain ⟨v4, rfl, w94, w74⟩ := rd_int h4
    obtain ⟨v5, rfl, w95, w75⟩ := rd_int h5
    obtain ⟨v6, rfl, w96, w76⟩ := rd_int h6
    exact ⟨⟨v0, v1, v2, v3, v4, v5, v6⟩, by simp [Change.e], trivial⟩

theorem rd_Familys (hB : B ≤ 1048576) (h : Rd PP B n 22 a) : ∃ l : List Family, a = [.psl (l.map Family.e)] ∧ l.length ≤ B ∧ ∀ x ∈ l, Family.wf x := by
  cases n with
  | zero => exact h.elim
  | succ n =>
    simp only [Rd, Go.Proofs.Tryz.underlying22] at h
    obtain ⟨es, rfl, hl, he⟩ := h
    obtain ⟨l, rfl, hq⟩ := list_of (e := Family.e) (Q := fun x => Family.wf x) fun r hr => rd_Family hB (he r hr)
    exact ⟨l, rfl, by simpa using hl, hq⟩

theorem rd_Schema (hB : B ≤ 1048576) (h : Rd PP B n 26 a) : ∃ x : Schema, a = x.e ∧ Schema.wf x := by
  cases n with
  | zero => exact h.elim
  | succ n =>
    simp only [Rd, Go.Proofs.Tryz.underlying26, RdF] at h
    obtain ⟨x0, y0, rfl, h0, x1, y1, rfl, h1, x2, y2, rfl, h2, x3, y3, rfl, h3, rfl⟩ := h
    obtain ⟨v0, rfl, w90, w70⟩ := rd_int h0
    obtain ⟨v1, rfl, l1, wfams⟩ := rd_Familys hB h1
    obtain ⟨v2, rfl, wchange⟩ := rd_Change hB h2
    obtain ⟨v3, rfl, w93, w73⟩ := rd_int h3
    exact ⟨⟨v0, v1, v2, v3⟩, by simp [Schema.e, Change.e], ⟨by simp only; omega, wfams⟩⟩

theorem rd_Mut (hB : B ≤ 1048576) (h : Rd PP B n 90 a) : ∃ x : Mut, a = x.e ∧ Mut.wf x := by
  cases n with
  | zero => exact h.elim
  | succ n =>
    simp only [Rd, Go.Proofs.Tryz.underlying90, RdF] at h
    obtain ⟨x0, y0, rfl, h0, x1, y1, rfl, h1, x2, y2, rfl, h2, x3, y3, rfl, h3, rfl⟩ := h
    obtain ⟨v0, rfl, w90, w70⟩ := rd_int h0
    obtain ⟨v1, rfl, l1⟩ := rd_str h1
    obtain ⟨v2, rfl, l2⟩ := rd_str h2
    obtain ⟨v3, rfl, wval⟩ := rd_Value hB h3
    exact ⟨⟨v0, v1, v2, v3⟩, by simp [Mut.e, Value.e], ⟨by simp only; omega, by simp only; omega, wval⟩⟩

theorem rd_Filter (hB : B ≤ 1048576) (h : Rd PP B n 52 a) : ∃ x : Filter, a = x.e ∧ Filter.wf x := by
  cases n with
  | zero => exact h.elim
  | succ n =>
    simp only [Rd, Go.Proofs.Tryz.underlying52, RdF] at h
    obtain ⟨x0, y0, rfl, h0, x1, y1, rfl, h1, x2, y2, rfl, h2, x3, y3, rfl, h3, x4, y4, rfl, h4, x5, y5, rfl, h5, x6, y6, rfl, h6, rfl⟩ := h
    obtain ⟨v0, rfl, l0, wfams⟩ := rd_strs h0
    obtain ⟨v1, rfl, l1⟩ := rd_str h1
    obtain ⟨v2, rfl, l2⟩ := rd_str h2
    obtain ⟨v3, rfl, w93, w73⟩ := rd_int h3
    obtain ⟨v4, rfl, w94, w74⟩ := rd_int h4
    obtain ⟨v5, rfl, w95, w75⟩ := rd_int h5
    obtain ⟨v6, rfl, w96, w76⟩ := rd_int h6
    exact ⟨⟨v0, v1, v2, v3, v4, v5, v6⟩, by simp [Filter.e], ⟨by simp only; omega, fun s hs => by have := wfams s hs; omega, by simp only; omega, by simp only; omega⟩⟩

theorem rd_Muts (hB : B ≤ 1048576) (h : Rd PP B n 49 a) : ∃ l : List Mut, a = [.psl (l.map Mut.e)] ∧ l.length ≤ B ∧ ∀ x ∈ l, Mut.wf x := by
  cases n with
  | zero => exact h.elim
  | succ n =>
    simp only [Rd, Go.Proofs.Tryz.underlying49] at h
    obtain ⟨es, rfl, hl, he⟩ := h
    obtain ⟨l, rfl, hq⟩ := list_of (e := Mut.e) (Q := fun x => Mut.wf x) fun r hr => rd_Mut hB (he r hr)
    exact ⟨l, rfl, by simpa using hl, hq⟩

theorem rd_Request (hB : B ≤ 1048576) (h : Rd PP B n 54 a) : ∃ x : Request, a = x.e ∧ Request.wf x := by
  cases n with
  | zero => exact h.elim
  | succ n =>
    simp only [Rd, Go.Proofs.Tryz.underlying54, RdF] at h
    obtain ⟨x0, y0, rfl, h0, x1, y1, rfl, h1, x2, y2, rfl, h2, x3, y3, rfl, h3, x4, y4, rfl, h4, x5, y5, rfl, h5, x6, y6, rfl, h6, x7, y7, rfl, h7, rfl⟩ := h
    obtain ⟨v0, rfl, w90, w70⟩ := rd_int h0
    obtain ⟨v1, rfl, l1⟩ := rd_str h1
    obtain ⟨v2, rfl, l2⟩ := rd_str h2
    obtain ⟨v3, rfl, l3, wmuts⟩ := rd_Muts hB h3
    obtain ⟨v4, rfl, l4⟩ := rd_str h4
    obtain ⟨v5, rfl, l5⟩ := rd_str h5
    obtain ⟨v6, rfl, wval⟩ := rd_Value hB h6
    obtain ⟨v7, rfl, wfilter⟩ := rd_Filter hB h7
    exact ⟨⟨v0, v1, v2, v3, v4, v5, v6, v7⟩, by simp [Request.e, Value.e, Filter.e], ⟨by simp only; omega, by simp only; omega, by simp only; omega, wmuts, by simp only; omega, by simp only; omega, wval, wfilter⟩⟩

theorem rd_Cells (hB : B ≤ 1048576) (h : Rd PP B n 27 a) : ∃ l : List Cell, a = [.psl (l.map Cell.e)] ∧ l.length ≤ B ∧ ∀ x ∈ l, Cell.wf x := by
  cases n with
  | zero => exact h.elim
  | succ n =>
    simp only [Rd, Go.Proofs.Tryz.underlying27] at h
    obtain ⟨es, rfl, hl, he⟩ := h
    obtain ⟨l, rfl, hq⟩ := list_of (e := Cell.e) (Q := fun x => Cell.wf x) fun r hr => rd_Cell hB (he r hr)
    exact ⟨l, rfl, by simpa using hl, hq⟩
end

theorem ok_Schema : okT PP 8 26 = true := by kernel_rfl
theorem ok_Cells : okT PP 8 27 = true := by kernel_rfl
theorem ok_Cell : okT PP 8 31 = true := by kernel_rfl
theorem ok_Request : okT PP 8 54 = true := by kernel_rfl
theorem ok_int : okT PP 8 3 = true := by kernel_rfl
end Go.Ab.S2
