import Derived.Test.YtghiionknnpajaaGreatDoorL2b
import Derived.Test.YtghiionknnpajaaGreatDoorProg
import Derived.KernelRfl
import Derived.Test.YtghiionknnpajaaGreatDoorAb12
import Derived.Test.YtghiionknnpajaaGreatDoorP1
import Derived.Lib.TrimUEq
import Derived.Shelf.Small.Strs
import Derived.Shelf.Unicode.ValidAny
import Derived.Lib.LaidU8T
import Derived.Below
import Derived.OpenShut
import Derived.ProofKit
import Derived.Deep.DeepHandedRow
import Derived.Deep.DeepWitnessRowRef
import Derived.Lib.LaidIn
set_option linter.unusedVariables false
set_option linter.unusedSimpArgs false
namespace Go.Ab.S2
open Go.Ab

noncomputable abbrev PP : Program := Go.Proofs.Tryz.prog
theorem ck_joistlaw16_PlanChecks : chkF PP N.joistlaw16_PlanChecks F.joistlaw16_PlanChecks = true := by kernel_rfl
theorem ck_joistlaw16_alive : chkF PP N.joistlaw16_alive F.joistlaw16_alive = true := by kernel_rfl
theorem ck_joistref00_LongSchema : chkF PP N.joistref00_LongSchema F.joistref00_LongSchema = true := by kernel_rfl
theorem ck_plan_Layouts : chkF PP N.plan_Layouts F.plan_Layouts = true := by kernel_rfl
theorem ck_joistref00_SameInts : chkF PP N.joistref00_SameInts F.joistref00_SameInts = true := by kernel_rfl
theorem ck_plan_Targets : chkF PP N.plan_Targets F.plan_Targets = true := by kernel_rfl
theorem ck_joistref00_SameFamily : chkF PP N.joistref00_SameFamily F.joistref00_SameFamily = true := by kernel_rfl
theorem ck_joistlaw16_long : chkF PP N.joistlaw16_long F.joistlaw16_long = true := by kernel_rfl
theorem ck_plan_Cells : chkF PP N.plan_Cells F.plan_Cells = true := by kernel_rfl
theorem ck_joistref03_Order : chkF PP N.joistref03_Order F.joistref03_Order = true := by kernel_rfl
theorem ck_joistref16_Family : chkF PP N.joistref16_Family F.joistref16_Family = true := by kernel_rfl
theorem ck_joistref16_Column : chkF PP N.joistref16_Column F.joistref16_Column = true := by kernel_rfl
theorem ck_plan_Visible : chkF PP N.plan_Visible F.plan_Visible = true := by kernel_rfl
theorem ck_plan_Check : chkF PP N.plan_Check F.plan_Check = true := by kernel_rfl
theorem ck_joistref14_Find : chkF PP N.joistref14_Find F.joistref14_Find = true := by kernel_rfl
theorem ck_joistref14_Read : chkF PP N.joistref14_Read F.joistref14_Read = true := by kernel_rfl
theorem ck_joistref00_Texts : chkF PP N.joistref00_Texts F.joistref00_Texts = true := by kernel_rfl
theorem ck_joistref14_Right : chkF PP N.joistref14_Right F.joistref14_Right = true := by kernel_rfl
theorem ck_joistlaw16_copied : chkF PP N.joistlaw16_copied F.joistlaw16_copied = true := by kernel_rfl
theorem ck_joistref00_CopySchema : chkF PP N.joistref00_CopySchema F.joistref00_CopySchema = true := by kernel_rfl
theorem ck_joistref16_Cells : chkF PP N.joistref16_Cells F.joistref16_Cells = true := by kernel_rfl
theorem ck_joistref16_Visible : chkF PP N.joistref16_Visible F.joistref16_Visible = true := by kernel_rfl
theorem ck_plan_Formed : chkF PP N.plan_Formed F.plan_Formed = true := by kernel_rfl
theorem ck_joistref16_Formed : chkF PP N.joistref16_Formed F.joistref16_Formed = true := by kernel_rfl
theorem ck_joistref16_Check : chkF PP N.joistref16_Check F.joistref16_Check = true := by kernel_rfl
theorem ck_joistref00_SameCells : chkF PP N.joistref00_SameCells F.joistref00_SameCells = true := by kernel_rfl
theorem ck_joistref00_SameTexts : chkF PP N.joistref00_SameTexts F.joistref00_SameTexts = true := by kernel_rfl
theorem ck_joistlaw16_same : chkF PP N.joistlaw16_same F.joistlaw16_same = true := by kernel_rfl
theorem ck_plan_Clone : chkF PP N.plan_Clone F.plan_Clone = true := by kernel_rfl
theorem ck_joistref00_SameSchema : chkF PP N.joistref00_SameSchema F.joistref00_SameSchema = true := by kernel_rfl
theorem ck_joistlaw16_one : chkF PP N.joistlaw16_one F.joistlaw16_one = true := by kernel_rfl
theorem ck_slices_ContainsFunc_api_Cell_api_Cell_ : chkF PP N.slices_ContainsFunc_api_Cell_api_Cell_ F.slices_ContainsFunc_api_Cell_api_Cell_ = true := by kernel_rfl
theorem ck_plan_Layouts_1 : chkF PP N.plan_Layouts_1 F.plan_Layouts_1 = true := by kernel_rfl
theorem ck_slices_Clone_api_Layout_api_Layout_ : chkF PP N.slices_Clone_api_Layout_api_Layout_ F.slices_Clone_api_Layout_api_Layout_ = true := by kernel_rfl
theorem ck_joistref00_CopyFamily : chkF PP N.joistref00_CopyFamily F.joistref00_CopyFamily = true := by kernel_rfl
theorem ck_slices_IndexFunc_api_Layouted_api_Layouted_ : chkF PP N.slices_IndexFunc_api_Layouted_api_Layouted_ F.slices_IndexFunc_api_Layouted_api_Layouted_ = true := by kernel_rfl
theorem ck_plan_Targets_1 : chkF PP N.plan_Targets_1 F.plan_Targets_1 = true := by kernel_rfl
theorem ck_schema_Written : chkF PP N.schema_Written F.schema_Written = true := by kernel_rfl
theorem ck_schema_Gone : chkF PP N.schema_Gone F.schema_Gone = true := by kernel_rfl
theorem ck_joistref00_LongRequest : chkF PP N.joistref00_LongRequest F.joistref00_LongRequest = true := by kernel_rfl
theorem ck_plan_maker_do : chkF PP N.plan_maker_do F.plan_maker_do = true := by kernel_rfl
theorem ck_joistref03_Name : chkF PP N.joistref03_Name F.joistref03_Name = true := by kernel_rfl
theorem ck_joistref02_Right : chkF PP N.joistref02_Right F.joistref02_Right = true := by kernel_rfl
theorem ck_joistref03_cmp : chkF PP N.joistref03_cmp F.joistref03_cmp = true := by kernel_rfl
theorem ck_joistref14_Column : chkF PP N.joistref14_Column F.joistref14_Column = true := by kernel_rfl
theorem ck_schema_Read : chkF PP N.schema_Read F.schema_Read = true := by kernel_rfl
theorem ck_slices_Contains_string_string_ : chkF PP N.slices_Contains_string_string_ F.slices_Contains_string_string_ = true := by kernel_rfl
theorem ck_plan_quals : chkF PP N.plan_quals F.plan_quals = true := by kernel_rfl
theorem ck_filter_Clone : chkF PP N.filter_Clone F.filter_Clone = true := by kernel_rfl
theorem ck_schema_Right : chkF PP N.schema_Right F.schema_Right = true := by kernel_rfl
theorem ck_plan_first_string : chkF PP N.plan_first_string F.plan_first_string = true := by kernel_rfl
theorem ck_plan_view_named : chkF PP N.plan_view_named F.plan_view_named = true := by kernel_rfl
theorem ck_plan_view_value : chkF PP N.plan_view_value F.plan_view_value = true := by kernel_rfl
theorem ck_plan_first_apiMut : chkF PP N.plan_first_apiMut F.plan_first_apiMut = true := by kernel_rfl
theorem ck_plan_view_mut : chkF PP N.plan_view_mut F.plan_view_mut = true := by kernel_rfl
theorem ck_joistref14_Family : chkF PP N.joistref14_Family F.joistref14_Family = true := by kernel_rfl
theorem ck_joistref16_add : chkF PP N.joistref16_add F.joistref16_add = true := by kernel_rfl
theorem ck_plan_read : chkF PP N.plan_read F.plan_read = true := by kernel_rfl
theorem ck_plan_write : chkF PP N.plan_write F.plan_write = true := by kernel_rfl
theorem ck_plan_none : chkF PP N.plan_none F.plan_none = true := by kernel_rfl
theorem ck_plan_column : chkF PP N.plan_column F.plan_column = true := by kernel_rfl
theorem ck_val_Right : chkF PP N.val_Right F.val_Right = true := by kernel_rfl
theorem ck_joistref13_Right : chkF PP N.joistref13_Right F.joistref13_Right = true := by kernel_rfl
theorem ck_joistref16_empty : chkF PP N.joistref16_empty F.joistref16_empty = true := by kernel_rfl
theorem ck_joistref16_mut : chkF PP N.joistref16_mut F.joistref16_mut = true := by kernel_rfl
theorem ck_joistref16_column : chkF PP N.joistref16_column F.joistref16_column = true := by kernel_rfl
theorem ck_slices_Clone_api_Mut_api_Mut_ : chkF PP N.slices_Clone_api_Mut_api_Mut_ F.slices_Clone_api_Mut_api_Mut_ = true := by kernel_rfl
theorem ck_slices_IndexFunc_api_Cell_api_Cell_ : chkF PP N.slices_IndexFunc_api_Cell_api_Cell_ F.slices_IndexFunc_api_Cell_api_Cell_ = true := by kernel_rfl
theorem ck_schema_groups : chkF PP N.schema_groups F.schema_groups = true := by kernel_rfl
theorem ck_schema_Written_1 : chkF PP N.schema_Written_1 F.schema_Written_1 = true := by kernel_rfl
theorem ck_schema_Gone_1 : chkF PP N.schema_Gone_1 F.schema_Gone_1 = true := by kernel_rfl
theorem ck_plan_maker_add : chkF PP N.plan_maker_add F.plan_maker_add = true := by kernel_rfl
theorem ck_joistref02_Utf8 : chkF PP N.joistref02_Utf8 F.joistref02_Utf8 = true := by kernel_rfl
theorem ck_joistref01_Right : chkF PP N.joistref01_Right F.joistref01_Right = true := by kernel_rfl
theorem ck_slices_IndexFunc_api_Layout_api_Layout_ : chkF PP N.slices_IndexFunc_api_Layout_api_Layout_ F.slices_IndexFunc_api_Layout_api_Layout_ = true := by kernel_rfl
theorem ck_schema_Read_1 : chkF PP N.schema_Read_1 F.schema_Read_1 = true := by kernel_rfl
theorem ck_slices_Index_string_string_ : chkF PP N.slices_Index_string_string_ F.slices_Index_string_string_ = true := by kernel_rfl
theorem ck_slices_Sort_string_string_ : chkF PP N.slices_Sort_string_string_ F.slices_Sort_string_string_ = true := by kernel_rfl
theorem ck_slices_Clone_string_string_ : chkF PP N.slices_Clone_string_string_ F.slices_Clone_string_string_ = true := by kernel_rfl
theorem ck_schema_Right_1 : chkF PP N.schema_Right_1 F.schema_Right_1 = true := by kernel_rfl
theorem ck_schema_family : chkF PP N.schema_family F.schema_family = true := by kernel_rfl
theorem ck_schema_within : chkF PP N.schema_within F.schema_within = true := by kernel_rfl
theorem ck_slices_ContainsFunc_api_Family_api_Family_ : chkF PP N.slices_ContainsFunc_api_Family_api_Family_ F.slices_ContainsFunc_api_Family_api_Family_ = true := by kernel_rfl
theorem ck_schema_once_string : chkF PP N.schema_once_string F.schema_once_string = true := by kernel_rfl
theorem ck_schema_Right_2 : chkF PP N.schema_Right_2 F.schema_Right_2 = true := by kernel_rfl
theorem ck_plan_view_family : chkF PP N.plan_view_family F.plan_view_family = true := by kernel_rfl
theorem ck_schema_Column : chkF PP N.schema_Column F.schema_Column = true := by kernel_rfl
theorem ck_filter_Right : chkF PP N.filter_Right F.filter_Right = true := by kernel_rfl
theorem ck_plan_write_1 : chkF PP N.plan_write_1 F.plan_write_1 = true := by kernel_rfl
theorem ck_plan_mut : chkF PP N.plan_mut F.plan_mut = true := by kernel_rfl
theorem ck_plan_empty : chkF PP N.plan_empty F.plan_empty = true := by kernel_rfl
theorem ck_slices_ContainsFunc_api_Mut_api_Mut_ : chkF PP N.slices_ContainsFunc_api_Mut_api_Mut_ F.slices_ContainsFunc_api_Mut_api_Mut_ = true := by kernel_rfl
theorem ck_plan_name : chkF PP N.plan_name F.plan_name = true := by kernel_rfl
theorem ck_float_Right : chkF PP N.float_Right F.float_Right = true := by kernel_rfl
theorem ck_slices_DeleteFunc_api_Cell_api_Cell_ : chkF PP N.slices_DeleteFunc_api_Cell_api_Cell_ F.slices_DeleteFunc_api_Cell_api_Cell_ = true := by kernel_rfl
theorem ck_plan_maker_add_1 : chkF PP N.plan_maker_add_1 F.plan_maker_add_1 = true := by kernel_rfl
theorem ck_plan_needless : chkF PP N.plan_needless F.plan_needless = true := by kernel_rfl
theorem ck_joistref01_size : chkF PP N.joistref01_size F.joistref01_size = true := by kernel_rfl
theorem ck_slices_pdqsortOrdered_string : chkF PP N.slices_pdqsortOrdered_string F.slices_pdqsortOrdered_string = true := by kernel_rfl
theorem ck_math_bits_Len : chkF PP N.math_bits_Len F.math_bits_Len = true := by kernel_rfl
theorem ck_schema_name : chkF PP N.schema_name F.schema_name = true := by kernel_rfl
theorem ck_schema_layouts : chkF PP N.schema_layouts F.schema_layouts = true := by kernel_rfl
theorem ck_schema_cols : chkF PP N.schema_cols F.schema_cols = true := by kernel_rfl
theorem ck_slices_IndexFunc_api_Family_api_Family_ : chkF PP N.slices_IndexFunc_api_Family_api_Family_ F.slices_IndexFunc_api_Family_api_Family_ = true := by kernel_rfl
theorem ck_schema_Find : chkF PP N.schema_Find F.schema_Find = true := by kernel_rfl
theorem ck_slices_IndexFunc_api_Column_api_Column_ : chkF PP N.slices_IndexFunc_api_Column_api_Column_ F.slices_IndexFunc_api_Column_api_Column_ = true := by kernel_rfl
theorem ck_schema_Column_1 : chkF PP N.schema_Column_1 F.schema_Column_1 = true := by kernel_rfl
theorem ck_slices_ContainsFunc_string_string_ : chkF PP N.slices_ContainsFunc_string_string_ F.slices_ContainsFunc_string_string_ = true := by kernel_rfl
theorem ck_filter_Right_1 : chkF PP N.filter_Right_1 F.filter_Right_1 = true := by kernel_rfl
theorem ck_filter_name : chkF PP N.filter_name F.filter_name = true := by kernel_rfl
theorem ck_filter_within : chkF PP N.filter_within F.filter_within = true := by kernel_rfl
theorem ck_slices_IndexFunc_api_Mut_api_Mut_ : chkF PP N.slices_IndexFunc_api_Mut_api_Mut_ F.slices_IndexFunc_api_Mut_api_Mut_ = true := by kernel_rfl
theorem ck_plan_name_1 : chkF PP N.plan_name_1 F.plan_name_1 = true := by kernel_rfl
theorem ck_strings_ContainsFunc : chkF PP N.strings_ContainsFunc F.strings_ContainsFunc = true := by kernel_rfl
theorem ck_float_bits_right : chkF PP N.float_bits_right F.float_bits_right = true := by kernel_rfl
theorem ck_codec_Order : chkF PP N.codec_Order F.codec_Order = true := by kernel_rfl
theorem ck_slices_insertionSortOrdered_string : chkF PP N.slices_insertionSortOrdered_string F.slices_insertionSortOrdered_string = true := by kernel_rfl
theorem ck_cmp_Less_string : chkF PP N.cmp_Less_string F.cmp_Less_string = true := by kernel_rfl
theorem ck_math_bits_Len64 : chkF PP N.math_bits_Len64 F.math_bits_Len64 = true := by kernel_rfl
theorem ck_schema_name_1 : chkF PP N.schema_name_1 F.schema_name_1 = true := by kernel_rfl
theorem ck_schema_state : chkF PP N.schema_state F.schema_state = true := by kernel_rfl
theorem ck_schema_once_int : chkF PP N.schema_once_int F.schema_once_int = true := by kernel_rfl
theorem ck_schema_layouts_1 : chkF PP N.schema_layouts_1 F.schema_layouts_1 = true := by kernel_rfl
theorem ck_schema_cols_1 : chkF PP N.schema_cols_1 F.schema_cols_1 = true := by kernel_rfl
theorem ck_slices_ContainsFunc_api_Column_api_Column_ : chkF PP N.slices_ContainsFunc_api_Column_api_Column_ F.slices_ContainsFunc_api_Column_api_Column_ = true := by kernel_rfl
theorem ck_schema_once_string_2 : chkF PP N.schema_once_string_2 F.schema_once_string_2 = true := by kernel_rfl
theorem ck_schema_cols_2 : chkF PP N.schema_cols_2 F.schema_cols_2 = true := by kernel_rfl
theorem ck_schema_Find_1 : chkF PP N.schema_Find_1 F.schema_Find_1 = true := by kernel_rfl
theorem ck_schema_clone : chkF PP N.schema_clone F.schema_clone = true := by kernel_rfl
theorem ck_slices_IndexFunc_string_string_ : chkF PP N.slices_IndexFunc_string_string_ F.slices_IndexFunc_string_string_ = true := by kernel_rfl
theorem ck_filter_name_1 : chkF PP N.filter_name_1 F.filter_name_1 = true := by kernel_rfl
theorem ck_strings_IndexFunc : chkF PP N.strings_IndexFunc F.strings_IndexFunc = true := by kernel_rfl
theorem ck_cmp_Or_int : chkF PP N.cmp_Or_int F.cmp_Or_int = true := by kernel_rfl
theorem ck_strings_Compare : chkF PP N.strings_Compare F.strings_Compare = true := by kernel_rfl
theorem ck_cmp_Compare_int : chkF PP N.cmp_Compare_int F.cmp_Compare_int = true := by kernel_rfl
theorem ck_codec_whole : chkF PP N.codec_whole F.codec_whole = true := by kernel_rfl
theorem ck_cmp_isNaN_string : chkF PP N.cmp_isNaN_string F.cmp_isNaN_string = true := by kernel_rfl
theorem ck_slices_Clone_api_Column_api_Column_ : chkF PP N.slices_Clone_api_Column_api_Column_ F.slices_Clone_api_Column_api_Column_ = true := by kernel_rfl
theorem ck_strings_indexFunc : chkF PP N.strings_indexFunc F.strings_indexFunc = true := by kernel_rfl
theorem ck_cmp_isNaN_int : chkF PP N.cmp_isNaN_int F.cmp_isNaN_int = true := by kernel_rfl
end Go.Ab.S2

/- The bridge, part 2: what is read of arguments, as the data's own structures. -/
namespace Go.Ab.S2
open Go.Ab
section
variable {B n : Nat} {a : List AV}

theorem rd_int (h : Rd PP B n 3 a) : ∃ z, a = [.int .i64 z] ∧ -9223372036854775808 ≤ z ∧ z < 9223372036854775808 := by
  cases n with
  | zero => exact h.elim
  | succ n =>
    simp only [Rd, Go.Proofs.Tryz.underlying3] at h
    obtain ⟨z, rfl, hz⟩ := h
    simp only [Lit.wf, Bool.and_eq_true, decide_eq_true_eq] at hz
    have e1 : IntKind.i64.min = -9223372036854775808 := rfl
    have e2 : IntKind.i64.max = 9223372036854775807 := rfl
    exact ⟨z, rfl, by omega, by omega⟩
theorem rd_str (h : Rd PP B n 9 a) : ∃ s : Str, a = [.str s] ∧ s.length ≤ B := by
  cases n with
  | zero => exact h.elim
  | succ n =>
    simp only [Rd, Go.Proofs.Tryz.underlying9] at h
    exact h
theorem list_of {α : Type} {e : α → List AV} {Q : α → Prop} : ∀ {es : List (List AV)}, (∀ r ∈ es, ∃ x, r = e x ∧ Q x) → ∃ l : List α, es = l.map e ∧ ∀ x ∈ l, Q x
  | [], _ => ⟨[], rfl, by simp⟩
  | r :: es, h => by
    obtain ⟨x, rfl, hx⟩ := h r (by simp)
    obtain ⟨l, rfl, hl⟩ := list_of (es := es) fun q hq => h q (by simp [hq])
    exact ⟨x :: l, rfl, by simpa using ⟨hx, hl⟩⟩
theorem rd_strs (h : Rd PP B n 50 a) : ∃ l : List Str, a = [.psl (strs l)] ∧ l.length ≤ B ∧ ∀ s ∈ l, s.length ≤ B := by
  cases n with
  | zero => exact h.elim
  | succ n =>
    simp only [Rd, Go.Proofs.Tryz.underlying50] at h
    obtain ⟨es, rfl, hl, he⟩ := h
    obtain ⟨l, rfl, hq⟩ := list_of (e := fun s => [AV.str s]) (Q := fun s => s.length ≤ B) fun r hr => rd_str (he r hr)
    exact ⟨l, rfl, by simpa using hl, hq⟩

theorem rd_Value (hB : B ≤ 1048576) (h : Rd PP B n 29 a) : ∃ x : Value, a = x.e ∧ Value.wf x := by
  cases n with
  | zero => exact h.elim
  | succ n =>
    simp only [Rd, Go.Proofs.Tryz.underlying29, RdF] at h
    obtain ⟨x0, y0, rfl, h0, x1, y1, rfl, h1, x2, y2, rfl, h2, rfl⟩ := h
    obtain ⟨v0, rfl, w90, w70⟩ := rd_int h0
    obtain ⟨v1, rfl, w1, w2⟩ := rd_int h1
    obtain ⟨v2, rfl, l2⟩ := rd_str h2
    exact ⟨⟨v0, v1, v2⟩, by simp [Value.e], ⟨by simp only; omega, w1, w2⟩⟩

theorem rd_Cell (hB : B ≤ 1048576) (h : Rd PP B n 31 a) : ∃ x : Cell, a = x.e ∧ Cell.wf x := by
  cases n with
  | zero => exact h.elim
  | succ n =>
    simp only [Rd, Go.Proofs.Tryz.underlying31, RdF] at h
    obtain ⟨x0, y0, rfl, h0, x1, y1, rfl, h1, x2, y2, rfl, h2, x3, y3, rfl, h3, x4, y4, rfl, h4, x5, y5, rfl, h5, rfl⟩ := h
    obtain ⟨v0, rfl, l0⟩ := rd_str h0
    obtain ⟨v1, rfl, l1⟩ := rd_str h1
    obtain ⟨v2, rfl, l2⟩ := rd_str h2
    obtain ⟨v3, rfl, w93, w73⟩ := rd_int h3
    obtain ⟨v4, rfl, w94, w74⟩ := rd_int h4
    obtain ⟨v5, rfl, wval⟩ := rd_Value hB h5
    exact ⟨⟨v0, v1, v2, v3, v4, v5⟩, by simp [Cell.e, Value.e], ⟨by simp only; omega, by simp only; omega, by simp only; omega, wval⟩⟩

theorem rd_Layout (hB : B ≤ 1048576) (h : Rd PP B n 97 a) : ∃ x : Layout, a = x.e ∧ True := by
  cases n with
  | zero => exact h.elim
  | succ n =>
    simp only [Rd, Go.Proofs.Tryz.underlying97, RdF] at h
    obtain ⟨x0, y0, rfl, h0, x1, y1, rfl, h1, rfl⟩ := h
    obtain ⟨v0, rfl, w90, w70⟩ := rd_int h0
    obtain ⟨v1, rfl, w91, w71⟩ := rd_int h1
    exact ⟨⟨v0, v1⟩, by simp [Layout.e], trivial⟩

theorem rd_Column (hB : B ≤ 1048576) (h : Rd PP B n 93 a) : ∃ x : Column, a = x.e ∧ Column.wf x := by
  cases n with
  | zero => exact h.elim
  | succ n =>
    simp only [Rd, Go.Proofs.Tryz.underlying93, RdF] at h
    obtain ⟨x0, y0, rfl, h0, x1, y1, rfl, h1, x2, y2, rfl, h2, rfl⟩ := h
    obtain ⟨v0, rfl, l0⟩ := rd_str h0
    obtain ⟨v1, rfl, w91, w71⟩ := rd_int h1
    obtain ⟨v2, rfl, w92, w72⟩ := rd_int h2
    exact ⟨⟨v0, v1, v2⟩, by simp [Column.e], ⟨by simp only; omega⟩⟩

theorem rd_Layouts (hB : B ≤ 1048576) (h : Rd PP B n 42 a) : ∃ l : List Layout, a = [.psl (l.map Layout.e)] ∧ l.length ≤ B ∧ ∀ x ∈ l, True := by
  cases n with
  | zero => exact h.elim
  | succ n =>
    simp only [Rd, Go.Proofs.Tryz.underlying42] at h
    obtain ⟨es, rfl, hl, he⟩ := h
    obtain ⟨l, rfl, hq⟩ := list_of (e := Layout.e) (Q := fun x => True) fun r hr => rd_Layout hB (he r hr)
    exact ⟨l, rfl, by simpa using hl, hq⟩

theorem rd_Columns (hB : B ≤ 1048576) (h : Rd PP B n 45 a) : ∃ l : List Column, a = [.psl (l.map Column.e)] ∧ l.length ≤ B ∧ ∀ x ∈ l, Column.wf x := by
  cases n with
  | zero => exact h.elim
  | succ n =>
    simp only [Rd, Go.Proofs.Tryz.underlying45] at h
    obtain ⟨es, rfl, hl, he⟩ := h
    obtain ⟨l, rfl, hq⟩ := list_of (e := Column.e) (Q := fun x => Column.wf x) fun r hr => rd_Column hB (he r hr)
    exact ⟨l, rfl, by simpa using hl, hq⟩

theorem rd_Family (hB : B ≤ 1048576) (h : Rd PP B n 47 a) : ∃ x : Family, a = x.e ∧ Family.wf x := by
  cases n with
  | zero => exact h.elim
  | succ n =>
    simp only [Rd, Go.Proofs.Tryz.underlying47, RdF] at h
    obtain ⟨x0, y0, rfl, h0, x1, y1, rfl, h1, x2, y2, rfl, h2, x3, y3, rfl, h3, x4, y4, rfl, h4, rfl⟩ := h
    obtain ⟨v0, rfl, l0⟩ := rd_str h0
    obtain ⟨v1, rfl, w91, w71⟩ := rd_int h1
    obtain ⟨v2, rfl, w92, w72⟩ := rd_int h2
    obtain ⟨v3, rfl, l3, wlayouts⟩ := rd_Layouts hB h3
    obtain ⟨v4, rfl, l4, wcols⟩ := rd_Columns hB h4
    exact ⟨⟨v0, v1, v2, v3, v4⟩, by simp [Family.e], ⟨by simp only; omega, by simp only; omega, by simp only; omega, wcols⟩⟩

theorem rd_Change (hB : B ≤ 1048576) (h : Rd PP B n 24 a) : ∃ x : Change, a = x.e ∧ True := by
  cases n with
  | zero => exact h.elim
  | succ n =>
    simp only [Rd, Go.Proofs.Tryz.underlying24, RdF] at h
    obtain ⟨x0, y0, rfl, h0, x1, y1, rfl, h1, x2, y2, rfl, h2, x3, y3, rfl, h3, x4, y4, rfl, h4, x5, y5, rfl, h5, x6, y6, rfl, h6, rfl⟩ := h
    obtain ⟨v0, rfl, w90, w70⟩ := rd_int h0
    obtain ⟨v1, rfl, l1⟩ := rd_str h1
    obtain ⟨v2, rfl, l2⟩ := rd_str h2
    obtain ⟨v3, rfl, w93, w73⟩ := rd_int h3
    obtain ⟨v4, rfl, w94, w74⟩ := rd_int h4
    obtain ⟨v5, rfl, w95, w75⟩ := rd_int h5
    obtain ⟨v6, rfl, w96, w76⟩ := rd_int h6
    exact ⟨⟨v0, v1, v2, v3, v4, v5, v6⟩, by simp [Change.e], trivial⟩

theorem rd_Familys (hB : B ≤ 1048576) (h : Rd PP B n 22 a) : ∃ l : List Family, a = [.psl (l.map Family.e)] ∧ l.length ≤ B ∧ ∀ x ∈ l, Family.wf x := by
  cases n with
  | zero => exact h.elim
  | succ n =>
    simp only [Rd, Go.Proofs.Tryz.underlying22] at h
    obtain ⟨es, rfl, hl, he⟩ := h
    obtain ⟨l, rfl, hq⟩ := list_of (e := Family.e) (Q := fun x => Family.wf x) fun r hr => rd_Family hB (he r hr)
    exact ⟨l, rfl, by simpa using hl, hq⟩

theorem rd_Schema (hB : B ≤ 1048576) (h : Rd PP B n 26 a) : ∃ x : Schema, a = x.e ∧ Schema.wf x := by
  cases n with
  | zero => exact h.elim
  | succ n =>
    simp only [Rd, Go.Proofs.Tryz.underlying26, RdF] at h
    obtain ⟨x0, y0, rfl, h0, x1, y1, rfl, h1, x2, y2, rfl, h2, x3, y3, rfl, h3, rfl⟩ := h
    obtain ⟨v0, rfl, w90, w70⟩ := rd_int h0
    obtain ⟨v1, rfl, l1, wfams⟩ := rd_Familys hB h1
    obtain ⟨v2, rfl, wchange⟩ := rd_Change hB h2
    obtain ⟨v3, rfl, w93, w73⟩ := rd_int h3
    exact ⟨⟨v0, v1, v2, v3⟩, by simp [Schema.e, Change.e], ⟨by simp only; omega, wfams⟩⟩

theorem rd_Mut (hB : B ≤ 1048576) (h : Rd PP B n 90 a) : ∃ x : Mut, a = x.e ∧ Mut.wf x := by
  cases n with
  | zero => exact h.elim
  | succ n =>
    simp only [Rd, Go.Proofs.Tryz.underlying90, RdF] at h
    obtain ⟨x0, y0, rfl, h0, x1, y1, rfl, h1, x2, y2, rfl, h2, x3, y3, rfl, h3, rfl⟩ := h
    obtain ⟨v0, rfl, w90, w70⟩ := rd_int h0
    obtain ⟨v1, rfl, l1⟩ := rd_str h1
    obtain ⟨v2, rfl, l2⟩ := rd_str h2
    obtain ⟨v3, rfl, wval⟩ := rd_Value hB h3
    exact ⟨⟨v0, v1, v2, v3⟩, by simp [Mut.e, Value.e], ⟨by simp only; omega, by simp only; omega, wval⟩⟩

theorem rd_Filter (hB : B ≤ 1048576) (h : Rd PP B n 52 a) : ∃ x : Filter, a = x.e ∧ Filter.wf x := by
  cases n with
  | zero => exact h.elim
  | succ n =>
    simp only [Rd, Go.Proofs.Tryz.underlying52, RdF] at h
    obtain ⟨x0, y0, rfl, h0, x1, y1, rfl, h1, x2, y2, rfl, h2, x3, y3, rfl, h3, x4, y4, rfl, h4, x5, y5, rfl, h5, x6, y6, rfl, h6, rfl⟩ := h
    obtain ⟨v0, rfl, l0, wfams⟩ := rd_strs h0
    obtain ⟨v1, rfl, l1⟩ := rd_str h1
    obtain ⟨v2, rfl, l2⟩ := rd_str h2
    obtain ⟨v3, rfl, w93, w73⟩ := rd_int h3
    obtain ⟨v4, rfl, w94, w74⟩ := rd_int h4
    obtain ⟨v5, rfl, w95, w75⟩ := rd_int h5
    obtain ⟨v6, rfl, w96, w76⟩ := rd_int h6
    exact ⟨⟨v0, v1, v2, v3, v4, v5, v6⟩, by simp [Filter.e], ⟨by simp only; omega, fun s hs => by have := wfams s hs; omega, by simp only; omega, by simp only; omega⟩⟩

theorem rd_Muts (hB : B ≤ 1048576) (h : Rd PP B n 49 a) : ∃ l : List Mut, a = [.psl (l.map Mut.e)] ∧ l.length ≤ B ∧ ∀ x ∈ l, Mut.wf x := by
  cases n with
  | zero => exact h.elim
  | succ n =>
    simp only [Rd, Go.Proofs.Tryz.underlying49] at h
    obtain ⟨es, rfl, hl, he⟩ := h
    obtain ⟨l, rfl, hq⟩ := list_of (e := Mut.e) (Q := fun x => Mut.wf x) fun r hr => rd_Mut hB (he r hr)
    exact ⟨l, rfl, by simpa using hl, hq⟩

theorem rd_Request (hB : B ≤ 1048576) (h : Rd PP B n 54 a) : ∃ x : Request, a = x.e ∧ Request.wf x := by
  cases n with
  | zero => exact h.elim
  | succ n =>
    simp only [Rd, Go.Proofs.Tryz.underlying54, RdF] at h
    obtain ⟨x0, y0, rfl, h0, x1, y1, rfl, h1, x2, y2, rfl, h2, x3, y3, rfl, h3, x4, y4, rfl, h4, x5, y5, rfl, h5, x6, y6, rfl, h6, x7, y7, rfl, h7, rfl⟩ := h
    obtain ⟨v0, rfl, w90, w70⟩ := rd_int h0
    obtain ⟨v1, rfl, l1⟩ := rd_str h1
    obtain ⟨v2, rfl, l2⟩ := rd_str h2
    obtain ⟨v3, rfl, l3, wmuts⟩ := rd_Muts hB h3
    obtain ⟨v4, rfl, l4⟩ := rd_str h4
    obtain ⟨v5, rfl, l5⟩ := rd_str h5
    obtain ⟨v6, rfl, wval⟩ := rd_Value hB h6
    obtain ⟨v7, rfl, wfilter⟩ := rd_Filter hB h7
    exact ⟨⟨v0, v1, v2, v3, v4, v5, v6, v7⟩, by simp [Request.e, Value.e, Filter.e], ⟨by simp only; omega, by simp only; omega, by simp only; omega, wmuts, by simp only; omega, by simp only; omega, wval, wfilter⟩⟩

theorem rd_Cells (hB : B ≤ 1048576) (h : Rd PP B n 27 a) : ∃ l : List Cell, a = [.psl (l.map Cell.e)] ∧ l.length ≤ B ∧ ∀ x ∈ l, Cell.wf x := by
  cases n with
  | zero => exact h.elim
  | succ n =>
    simp only [Rd, Go.Proofs.Tryz.underlying27] at h
    obtain ⟨es, rfl, hl, he⟩ := h
    obtain ⟨l, rfl, hq⟩ := list_of (e := Cell.e) (Q := fun x => Cell.wf x) fun r hr => rd_Cell hB (he r hr)
    exact ⟨l, rfl, by simpa using hl, hq⟩
end

theorem ok_Schema : okT PP 8 26 = true := by kernel_rfl
theorem ok_Cells : okT PP 8 27 = true := by kernel_rfl
theorem ok_Cell : okT PP 8 31 = true := by kernel_rfl
theorem ok_Request : okT PP 8 54 = true := by kernel_rfl
theorem ok_int : okT PP 8 3 = true := by kernel_rfl
end Go.Ab.S2

/- Maps that count, texts that are decoded: plain laws for walks. -/
namespace Go.Ab

def mpS (l : List (Str × Int)) : List (AV × AV) := l.map fun p => (.str p.1, .int .i64 p.2)
def mpI (l : List (Int × Int)) : List (AV × AV) := l.map fun p => (.int .i64 p.1, .int .i64 p.2)
def putK {α : Type} [BEq α] (k : α) (v : Int) : List (α × Int) → List (α × Int)
  | [] => [(k, v)]
  | e :: es => if k == e.1 then (k, v) :: es else e :: putK k v es

@[go_sem] theorem mfindS (k : Str) : ∀ l : List (Str × Int), mfind 1 (.str k) (mpS l) = some ((l.lookup k).map fun n => .int .i64 n)
  | [] => rfl
  | e :: l => by
    have ih := mfindS k l
    simp only [mpS, List.map_cons, mfind, keyEq, ob_some, List.lookup] at ih ⊢
    cases h : k == e.1 <;> simp [ih]
@[go_sem] theorem mputS (k : Str) (v : Int) : ∀ l : List (Str × Int), mput 1 (.str k) (.int .i64 v) (mpS l) = some (mpS (putK k v l))
  | [] => rfl
  | e :: l => by
    have ih := mputS k v l
    simp only [mpS, List.map_cons, mput, keyEq, ob_some, putK] at ih ⊢
    cases h : k == e.1 <;> simp [ih, ob_some]
@[go_sem] theorem mfindI (k : Int) : ∀ l : List (Int × Int), mfind 0 (.int .i64 k) (mpI l) = some ((l.lookup k).map fun n => .int .i64 n)
  | [] => rfl
  | e :: l => by
    have ih := mfindI k l
    simp only [mpI, List.map_cons, mfind, keyEq, ob_some, List.lookup, if_true] at ih ⊢
    cases h : k == e.1 <;> simp [ih]
@[go_sem] theorem mputI (k : Int) (v : Int) : ∀ l : List (Int × Int), mput 0 (.int .i64 k) (.int .i64 v) (mpI l) = some (mpI (putK k v l))
  | [] => rfl
  | e :: l => by
    have ih := mputI k v l
    simp only [mpI, List.map_cons, mput, keyEq, ob_some, putK, if_true] at ih ⊢
    cases h : k == e.1 <;> simp [ih, ob_some]
@[go_sem] theorem mpS_len (l : List (Str × Int)) : (mpS l).length = l.length := by simp [mpS]
@[go_sem] theorem mpI_len (l : List (Int × Int)) : (mpI l).length = l.length := by simp [mpI]
/-- What a map that counts has come to, behind some keys. -/
structure Cnt {α : Type} (ks : List α) (l : List (α × Int)) : Prop where
  le : l.length ≤ ks.length
  eq : l.length = ks.length ↔ ks.Nodup
  mem : ∀ k, (∃ v, (k, v) ∈ l) ↔ k ∈ ks

theorem Cnt.nil {α : Type} : Cnt ([] : List α) [] := ⟨Nat.le_refl _, by simp, by simp⟩

theorem putK_mem {α : Type} [BEq α] [LawfulBEq α] (k : α) (v : Int) : ∀ (l : List (α × Int)) (q : α), (∃ w, (q, w) ∈ putK k v l) ↔ q = k ∨ ∃ w, (q, w) ∈ l
  | [], q => by simp [putK]
  | e :: l, q => by
    have ih := putK_mem k v l q
    simp only [putK]
    by_cases h : k = e.1
    · subst h
      simp only [beq_self_eq_true, if_true, List.mem_cons]
      constructor
      · rintro ⟨w, hw | hw⟩
        · simp at hw; exact .inl hw.1
        · exact .inr ⟨w, .inr hw⟩
      · rintro (hw | ⟨w, hw | hw⟩)
        · exact ⟨v, .inl (by rw [hw])⟩
        · exact ⟨v, .inl (by rw [← hw])⟩
        · exact ⟨w, .inr hw⟩
    · have hb : (k == e.1) = false := by simpa using h
      simp only [hb, List.mem_cons, Bool.false_eq_true, if_false]
      constructor
      · rintro ⟨w, hw | hw⟩
        · exact .inr ⟨w, .inl hw⟩
        · rcases ih.1 ⟨w, hw⟩ with h | ⟨w, h⟩
          · exact .inl h
          · exact .inr ⟨w, .inr h⟩
      · rintro (hw | ⟨w, hw | hw⟩)
        · obtain ⟨w, h⟩ := ih.2 (.inl hw); exact ⟨w, .inr h⟩
        · exact ⟨w, .inl hw⟩
        · obtain ⟨w, h⟩ := ih.2 (.inr ⟨w, hw⟩); exact ⟨w, .inr h⟩

theorem putK_len {α : Type} [BEq α] [LawfulBEq α] (k : α) (v : Int) : ∀ (l : List (α × Int)), ((∃ w, (k, w) ∈ l) → (putK k v l).length = l.length) ∧ (¬ (∃ w, (k, w) ∈ l) → (putK k v l).length = l.length + 1)
  | [] => by simp [putK]
  | e :: l => by
    have ih := putK_len k v l
    simp only [putK]
    by_cases h : k = e.1
    · subst h
      simp only [beq_self_eq_true, if_true, List.length_cons]
      exact ⟨fun _ => by simp, fun hn => absurd ⟨e.2, by simp⟩ hn⟩
    · have hb : (k == e.1) = false := by simpa using h
      simp only [hb, List.length_cons, List.mem_cons, Bool.false_eq_true, if_false]
      refine ⟨?_, fun hn => ?_⟩
      · rintro ⟨w, hw | hw⟩
        · exact absurd (by rw [← hw]) h
        · rw [ih.1 ⟨w, hw⟩]
      · rw [ih.2 fun ⟨w, hw⟩ => hn ⟨w, .inr hw⟩]

theorem Cnt.step {α : Type} [BEq α] [LawfulBEq α] {ks : List α} {l : List (α × Int)} (h : Cnt ks l) (k : α) (v : Int) : Cnt (ks ++ [k]) (putK k v l) := by
  have hm := putK_mem k v l
  have hl := putK_len k v l
  have hnd : (ks ++ [k]).Nodup ↔ ks.Nodup ∧ k ∉ ks := by
    rw [List.nodup_append]
    simp only [List.mem_singleton, List.nodup_cons, List.not_mem_nil, not_false_eq_true, List.nodup_nil, and_true, true_and, forall_eq, ne_eq]
    constructor
    · rintro ⟨a, b⟩; exact ⟨a, fun hk => b k hk rfl⟩
    · rintro ⟨a, b⟩; exact ⟨a, fun x hx e => b (e ▸ hx)⟩
  refine ⟨?_, ?_, fun q => ?_⟩
  · by_cases hk : ∃ w, (k, w) ∈ l
    · rw [hl.1 hk, List.length_append]; have := h.le; omega
    · rw [hl.2 hk, List.length_append]; have := h.le; simp; omega
  · rw [hnd, ← h.eq, ← h.mem k]
    by_cases hk : ∃ w, (k, w) ∈ l
    · rw [hl.1 hk]; have := h.le; simp [hk]; omega
    · rw [hl.2 hk]; simp [hk]
  · rw [hm, h.mem]; simp [or_comm]

/-! texts -/
theorem dec_ascii {s pre post : Str} {b : UInt8} (h : s = pre ++ b :: post) (hb : b.toNat < 128) : Utf8.decode ⟨s.toArray⟩ pre.length = (b.toNat, 1) := by
  rw [Lib.decode_N, Lib.decodeN_ascii]
  · subst h; simp
  · subst h; simpa using hb
theorem dec_high {s pre post : Str} {b : UInt8} (h : s = pre ++ b :: post) (hb : 128 ≤ b.toNat) : 128 ≤ (Utf8.decode ⟨s.toArray⟩ pre.length).1 := by
  rw [Lib.decode_N]
  have e : (⟨s.toArray⟩ : ByteArray).data.toList.getD pre.length 0 = b := by subst h; simp
  rw [e]
  have : b.toNat < 256 := UInt8.toNat_lt b
  unfold Lib.decodeN
  repeat' split
  all_goals (try omega)
end Go.Ab

/- Numbers as bits: plain laws. -/
namespace Go.Ab

def andNotV (k : IntKind) (a b : Int) : Int := k.wrap (BitVec.ofInt k.bits a &&& ~~~BitVec.ofInt k.bits b).toNat
@[go_sem] theorem bin_andNot (k : IntKind) (a b : Int) : binV .andNot (.int k a) (.int k b) = some (.int k (andNotV k a b)) := by simp [binV, binInt, andNotV]

/-- The 63 lower bits. -/
def low63 (n : Int) : Nat := (n % 18446744073709551616).toNat % 9223372036854775808

theorem and63 (n : Int) : (BitVec.ofInt 64 n &&& ~~~BitVec.ofInt 64 9223372036854775808).toNat = low63 n := by
  rw [show (~~~BitVec.ofInt 64 9223372036854775808) = BitVec.ofNat 64 9223372036854775807 by decide]
  rw [BitVec.toNat_and, BitVec.toNat_ofInt, show (BitVec.ofNat 64 9223372036854775807).toNat = 2 ^ 63 - 1 by decide, Nat.and_two_pow_sub_one_eq_mod]
  rfl
theorem u64_wrap (n : Int) : IntKind.u64.wrap n = n % 18446744073709551616 := rfl
theorem size_u (n : Int) : andNotV .u64 (IntKind.u64.wrap n) 9223372036854775808 = low63 n := by
  show IntKind.u64.wrap (BitVec.ofInt 64 (IntKind.u64.wrap n) &&& ~~~BitVec.ofInt 64 9223372036854775808).toNat = low63 n
  rw [and63, u64_wrap, u64_wrap]
  unfold low63
  omega
theorem size_i (n : Int) : andNotV .i64 n (-9223372036854775808) = low63 n := by
  show IntKind.i64.wrap (BitVec.ofInt 64 n &&& ~~~BitVec.ofInt 64 (-9223372036854775808)).toNat = low63 n
  rw [show BitVec.ofInt 64 (-9223372036854775808) = BitVec.ofInt 64 9223372036854775808 by decide, and63]
  have : low63 n < 9223372036854775808 := by unfold low63; omega
  rw [wrap64 (by omega) (by omega)]
theorem nan_u {n : Int} (h1 : -9223372036854775808 ≤ n) (h2 : n < 9223372036854775808) : (IntKind.u64.wrap n == 9221120237041090560) = (n == 9221120237041090560) := by
  rw [u64_wrap, Bool.eq_iff_iff]
  simp only [beq_iff_eq]
  omega

theorem and1 (x : Nat) (h : x < 18446744073709551616) : (x &&& 18446744073709551614) = x / 2 * 2 := by
  have h2 : (x &&& 18446744073709551614) / 2 = x / 2 := by
    rw [Nat.and_div_two, show 18446744073709551614 / 2 = 2 ^ 63 - 1 by decide, Nat.and_two_pow_sub_one_eq_mod]
    omega
  have h3 : (x &&& 18446744073709551614) % 2 = 0 := by
    have : (x &&& 18446744073709551614) % 2 ^ 1 = (x % 2 ^ 1) &&& (18446744073709551614 % 2 ^ 1) := Nat.and_mod_two_pow
    rw [show (18446744073709551614 % 2 ^ 1) = 0 from rfl, Nat.and_zero] at this
    exact this
  omega
theorem bool_i {n : Int} (h1 : -9223372036854775808 ≤ n) (h2 : n < 9223372036854775808) : (andNotV .i64 n 1 == 0) = (n == 0 || n == 1) := by
  show (IntKind.i64.wrap (BitVec.ofInt 64 n &&& ~~~BitVec.ofInt 64 1).toNat == 0) = _
  rw [show (~~~BitVec.ofInt 64 1) = BitVec.ofNat 64 18446744073709551614 by decide]
  rw [BitVec.toNat_and, BitVec.toNat_ofInt, show (BitVec.ofNat 64 18446744073709551614).toNat = 18446744073709551614 by decide]
  have hx : (n % ((2 ^ 64 : Nat) : Int)).toNat < 18446744073709551616 := by omega
  rw [and1 _ hx]
  have hw : IntKind.i64.wrap ((((n % ((2 ^ 64 : Nat) : Int)).toNat / 2 * 2 : Nat) : Int)) = 0 ↔ ((n % ((2 ^ 64 : Nat) : Int)).toNat / 2 * 2) = 0 := by
    simp only [IntKind.wrap, IntKind.signed, IntKind.bits, Bool.true_and]
    split <;> (rename_i hh; simp at hh; omega)
  rw [Bool.eq_iff_iff, beq_iff_eq, hw]
  simp
  omega

def fR (n : Int) : Bool := decide ((low63 n : Int) ≤ 9218868437227405312) || n == 9221120237041090560
end Go.Ab

/- Contracts of the shared helpers (joistref00). -/
namespace Go.Ab.S2
open Go.Ab
set_option maxRecDepth 100000

/-- A call answers a value and leaves memory as it was. -/
abbrev Ans (f : FuncId) (args : List AV) (v : AV) : Prop := ∀ h : Heap, SpecA PP f args h (fun r h' => r = .ret v ∧ h' = h)

def longC (c : Cell) : Bool := decide (60 < (c.row.length : Int)) || decide (60 < (c.fam.length : Int)) || decide (60 < (c.qual.length : Int)) || decide (100 < (c.val.s.length : Int))
def longCells (l : List Cell) (most : Int) : Bool := decide (most < (l.length : Int)) || l.any longC

def longF (f : Family) : Bool := decide (100 < (f.name.length : Int)) || decide (10 < (f.layouts.length : Int)) || decide (30 < (f.cols.length : Int)) || f.cols.any fun c => decide (100 < (c.qual.length : Int))
def longSchema (s : Schema) : Bool := decide (20 < (s.fams.length : Int)) || decide (100 < (s.change.fam.length : Int)) || decide (100 < (s.change.qual.length : Int)) || s.fams.any longF

theorem longSchema_spec (s : Schema) : Ans N.joistref00_LongSchema [.agg s.e] (.bool (longSchema s)) := by
  intro h
  refine spec_of ck_joistref00_LongSchema ?_
  rw [wp_start]
  simp (maxSteps := 1000000) (disch := omega) only [go_sem, ↓reduceIte, Nat.reduceAdd, Nat.reduceEqDiff, F.joistref00_LongSchema]
  intro t
  rw [condS_some]; refine ⟨fun hx => ?_, fun hx => ?_⟩
  · simp (maxSteps := 1000000) (disch := omega) only [go_sem, ↓reduceIte]
    refine finS_l ?_
    simp (maxSteps := 1000000) (disch := omega) only [go_sem]
    all_goals simp [longSchema, hx]
  · simp (maxSteps := 1000000) (disch := omega) only [go_sem, ↓reduceIte, Nat.reduceEqDiff]
    simp only [Bool.or_eq_false_iff, decide_eq_false_iff_not] at hx
    refine loopS_list s.fams (fun pre (_ : Unit) => ⟨[(1, .ptr h.length t 0 0), (3, .int .i64 pre.length)], h ++ [.arr t 0 10 [s.e]]⟩) (fun pre post _ => s.fams.any longF = post.any longF) () rfl rfl ?_
    rintro pre post ⟨⟩ hpp hJ
    cases post with
    | nil =>
      simp (maxSteps := 1000000) (disch := omega) only [go_sem, ↓reduceIte, Nat.reduceEqDiff, nl0 hpp]
      refine finS_l ?_
      simp (maxSteps := 1000000) (disch := omega) only [go_sem]
      all_goals simp [longSchema, hJ, hx]
    | cons x post =>
      have hn := nl hpp
      simp (maxSteps := 1000000) (disch := omega) only [go_sem, ↓reduceIte, Nat.reduceEqDiff, gml Family.e hpp, hn]
      rw [condS_some]; refine ⟨fun hx => ?_, fun hx => ?_⟩
      · simp (maxSteps := 1000000) (disch := omega) only [go_sem, ↓reduceIte]
        have hx2 : longF x = true := by simp only [longF, hx, Bool.true_or]
        refine finS_l ?_
        simp (maxSteps := 1000000) (disch := omega) only [go_sem]
        all_goals simp [longSchema, hJ, hx2]
      · simp (maxSteps := 1000000) (disch := omega) only [go_sem, ↓reduceIte, Nat.reduceEqDiff]
        have hx1 := hx
        simp only [Bool.or_eq_false_iff, decide_eq_false_iff_not] at hx
        refine loopS_list x.cols (fun pre2 (_ : Unit) => ⟨[(1, .ptr h.length t 0 0), (3, .int .i64 pre.length), (4, .int .i64 pre2.length)], h ++ [.arr t 0 10 [s.e]]⟩) (fun pre2 post2 _ => (x.cols.any fun c => decide (100 < (c.qual.length : Int))) = post2.any fun c => decide (100 < (c.qual.length : Int))) () rfl rfl ?_
        rintro pre2 post2 ⟨⟩ hpp2 hJ2
        cases post2 with
        | nil =>
          simp (maxSteps := 1000000) (disch := omega) only [go_sem, ↓reduceIte, Nat.reduceEqDiff, gml Family.e hpp, nl0 hpp2]
          have hx2 : longF x = false := by simp only [longF, hx1, Bool.false_or]; simpa using hJ2
          refine lp_next (h.length + 1) () hpp ?_ ?_ ?_
          · simp [hJ, hx2]
          · simp (maxSteps := 1000000) (disch := omega) only [go_sem, ↓reduceIte, Nat.reduceEqDiff, wrap64, Int.natCast_add, Int.cast_ofNat_Int]
          · simp (maxSteps := 1000000) (disch := omega) only [go_sem]
        | cons y post2 =>
          have hn2 := nl hpp2
          simp (maxSteps := 1000000) (disch := omega) only [go_sem, ↓reduceIte, Nat.reduceEqDiff, gml Family.e hpp, gml Column.e hpp2, hn2]
          rw [condS_some]; refine ⟨fun hx => ?_, fun hx => ?_⟩
          · simp (maxSteps := 1000000) (disch := omega) only [go_sem, ↓reduceIte]
            have hx2 : longF x = true := by simp only [longF, hJ2, List.any_cons, hx, Bool.true_or, Bool.or_true]
            refine finS_l ?_
            simp (maxSteps := 1000000) (disch := omega) only [go_sem]
            all_goals simp [longSchema, hJ, hx2]
          · simp (maxSteps := 1000000) (disch := omega) only [go_sem, ↓reduceIte, Nat.reduceEqDiff]
            refine lp_next (h.length + 1) () hpp2 ?_ ?_ ?_
            · simp only [hJ2, List.any_cons, hx, Bool.false_or]
            · simp (maxSteps := 1000000) (disch := omega) only [go_sem, ↓reduceIte, Nat.reduceEqDiff, wrap64, Int.natCast_add, Int.cast_ofNat_Int]
            · simp (maxSteps := 1000000) (disch := omega) only [go_sem]

theorem copyFamily_spec (f : Family) (h1 : f.layouts.length < 1099511627776) (h2 : f.cols.length < 1099511627776) : Ans N.joistref00_CopyFamily [.agg f.e] (.agg f.e) := by
  intro h
  refine spec_of ck_joistref00_CopyFamily ?_
  rw [wp_start]
  simp (maxSteps := 1000000) (disch := omega) only [go_sem, ↓reduceIte, Nat.reduceAdd, Nat.reduceMul, Nat.reduceEqDiff, Nat.reduceLT, F.joistref00_CopyFamily]
  refine fun s s2 s3 s4 => ⟨by omega, fun s5 => ?_⟩
  try simp (maxSteps := 1000000) (disch := omega) only [go_sem, opS_s, opS_sg, opS_b, opS_bg, ↓reduceIte, Nat.reduceAdd, Nat.reduceMul, Nat.reduceSub, Nat.reduceEqDiff, Nat.reduceLeDiff, Nat.reduceLT, Nat.reduceBEq, Int.reduceBEq, Int.reduceBNe, Int.reduceEq, Int.reduceNeg, Int.reduceAdd, Int.reduceSub, Int.reduceMul, List.cons_beq_cons, BEq.rfl, Int.reduceToNat, Int.reduceLE, Int.reduceLT, reduceCtorEq]
  refine fun s6 => ⟨by omega, fun s7 => ?_⟩
  refine finS_l ?_
  simp (maxSteps := 1000000) (disch := omega) only [go_sem, ↓reduceIte, Family.e]

theorem copySchema_spec (x : Schema) (h0 : x.fams.length < 1099511627776) (h1 : ∀ f ∈ x.fams, f.layouts.length < 1099511627776 ∧ f.cols.length < 1099511627776) : Ans N.joistref00_CopySchema [.agg x.e] (.agg x.e) := by
  intro h
  refine spec_of ck_joistref00_CopySchema ?_
  rw [wp_start]
  simp (maxSteps := 1000000) (disch := omega) only [go_sem, ↓reduceIte, Nat.reduceAdd, Nat.reduceMul, Nat.reduceEqDiff, F.joistref00_CopySchema]
  intro s s2 s3 s4
  refine loopS_list x.fams (fun pre s4 => ⟨[(1, .ptr h.length s 0 0), (2, .ptr (h.length + 1) s2 0 0), (3, .ptr (h.length + 2) s3 0 0), (4, .int .i64 pre.length)], h ++ [.arr s 0 10 [x.e], .arr s2 0 10 [Schema.zero.e], .arr s3 0 10 [[.int .i64 x.version, .sl (h.length + 3) s4 0 pre.length, .int .i64 x.change.kind, .str x.change.fam, .str x.change.qual, .int .i64 x.change.type, .int .i64 x.change.group, .int .i64 x.change.versions, .int .i64 x.change.life, .int .i64 x.step]], .arr s4 0 5 (pre.map Family.e)]⟩) (fun pre post _ => True) s4 rfl trivial ?_
  rintro pre post s4 hpp hJ
  cases post with
  | nil =>
    have hn := nl0 hpp
    simp (maxSteps := 1000000) (disch := omega) only [go_sem, ↓reduceIte, Nat.reduceAdd, Nat.reduceEqDiff, hn, Schema.zero_e]
    refine finS_l ?_
    simp only [List.append_nil] at hpp
    subst hpp
    simp (maxSteps := 1000000) (disch := omega) only [go_sem, ↓reduceIte, Schema.e]
  | cons y post =>
    have hn := nl hpp
    have hy := h1 y (by simp [hpp])
    simp (maxSteps := 1000000) (disch := omega) only [go_sem, ↓reduceIte, Nat.reduceEqDiff, hn, gml Family.e hpp]
    refine callS_exact (copyFamily_spec y hy.1 hy.2 _) ?_
    simp (maxSteps := 1000000) (disch := omega) only [go_sem, opS_s, opS_b, ↓reduceIte, Nat.reduceAdd, Nat.reduceMul, Nat.reduceEqDiff]
    refine fun s5 => ⟨by omega, fun s6 => ?_⟩
    refine lp_next (h.length + 4) s6 hpp ?_ ?_ ?_
    · simp []
    · simp (maxSteps := 1000000) (disch := omega) only [go_sem, ↓reduceIte, Nat.reduceEqDiff, wrap64, Int.natCast_add, Int.cast_ofNat_Int]
    · simp (maxSteps := 1000000) (disch := omega) only [go_sem, List.map_append]
end Go.Ab.S2

/- Contracts of the shared helpers that hold lists against each other (joistref00). -/
namespace Go.Ab.S2
open Go.Ab
set_option maxRecDepth 100000

theorem sameints_spec (a b : List Int) (hl : a.length < 1099511627776) : Ans N.joistref00_SameInts [.psl (ints a), .psl (ints b)] (.bool (decide (a = b))) := by
  intro h
  refine spec_of ck_joistref00_SameInts ?_
  rw [wp_start]
  simp (maxSteps := 1000000) (disch := omega) only [go_sem, ↓reduceIte, Nat.reduceAdd, Nat.reduceEqDiff, reduceCtorEq, F.joistref00_SameInts]
  rw [condS_some]; refine ⟨fun hx => ?_, fun hx => ?_⟩
  · simp (maxSteps := 1000000) (disch := omega) only [go_sem, ↓reduceIte]
    have hx : a.length ≠ b.length := by simpa [neqlen] using hx
    refine finS_l ?_
    simp (maxSteps := 1000000) (disch := omega) only [go_sem]
    all_goals simp [dne hx]
  · simp (maxSteps := 1000000) (disch := omega) only [go_sem, ↓reduceIte, Nat.reduceEqDiff, reduceCtorEq]
    have hab : a.length = b.length := by simpa [neqlen] using hx
    refine loopS_list (a.zip b) (fun pre (_ : Unit) => ⟨[(0, .psl (ints a)), (1, .psl (ints b)), (5, .int .i64 pre.length)], h⟩) (fun pre post _ => ((a.zip b).all fun x => decide (x.1 = x.2)) = post.all fun x => decide (x.1 = x.2)) () rfl rfl ?_
    rintro pre post ⟨⟩ hpp hJ
    cases post with
    | nil =>
      have hn := zn hab hpp
      simp (maxSteps := 1000000) (disch := omega) only [go_sem, ↓reduceIte, Nat.reduceEqDiff, reduceCtorEq, hn.1]
      rw [zall hab] at hJ
      refine finS_l ?_
      simp (maxSteps := 1000000) (disch := omega) only [go_sem]
      all_goals simp [hJ]
    | cons x post =>
      have hn := zl hab hpp
      simp (maxSteps := 1000000) (disch := omega) only [go_sem, ↓reduceIte, Nat.reduceEqDiff, reduceCtorEq, ints_eq, gmap (fun n => [AV.int .i64 n]) hn.1, gmap (fun n => [AV.int .i64 n]) hn.2.1, hn.2.2.1]
      rw [condS_some]; refine ⟨fun hx => ?_, fun hx => ?_⟩
      · simp (maxSteps := 1000000) (disch := omega) only [go_sem, ↓reduceIte]
        have hx : x.1 ≠ x.2 := by simpa using hx
        rw [zall hab] at hJ
        refine finS_l ?_
        simp (maxSteps := 1000000) (disch := omega) only [go_sem]
        all_goals simp [hJ, hx]
      · simp (maxSteps := 1000000) (disch := omega) only [go_sem, ↓reduceIte, Nat.reduceEqDiff, reduceCtorEq]
        have hx : x.1 = x.2 := by simpa using hx
        refine lp_next (h.length + 0) () hpp ?_ ?_ ?_
        · simp [hJ, hx]
        · simp (maxSteps := 1000000) (disch := omega) only [go_sem, ↓reduceIte, Nat.reduceEqDiff, reduceCtorEq, wrap64, Int.natCast_add, Int.cast_ofNat_Int]
        · simp (maxSteps := 1000000) (disch := omega) only [go_sem]
theorem samestrs_spec (a b : List Str) (hl : a.length < 1099511627776) : Ans N.joistref00_SameTexts [.psl (strs a), .psl (strs b)] (.bool (decide (a = b))) := by
  intro h
  refine spec_of ck_joistref00_SameTexts ?_
  rw [wp_start]
  simp (maxSteps := 1000000) (disch := omega) only [go_sem, ↓reduceIte, Nat.reduceAdd, Nat.reduceEqDiff, reduceCtorEq, F.joistref00_SameTexts]
  rw [condS_some]; refine ⟨fun hx => ?_, fun hx => ?_⟩
  · simp (maxSteps := 1000000) (disch := omega) only [go_sem, ↓reduceIte]
    have hx : a.length ≠ b.length := by simpa [neqlen] using hx
    refine finS_l ?_
    simp (maxSteps := 1000000) (disch := omega) only [go_sem]
    all_goals simp [dne hx]
  · simp (maxSteps := 1000000) (disch := omega) only [go_sem, ↓reduceIte, Nat.reduceEqDiff, reduceCtorEq]
    have hab : a.length = b.length := by simpa [neqlen] using hx
    refine loopS_list (a.zip b) (fun pre (_ : Unit) => ⟨[(0, .psl (strs a)), (1, .psl (strs b)), (5, .int .i64 pre.length)], h⟩) (fun pre post _ => ((a.zip b).all fun x => decide (x.1 = x.2)) = post.all fun x => decide (x.1 = x.2)) () rfl rfl ?_
    rintro pre post ⟨⟩ hpp hJ
    cases post with
    | nil =>
      have hn := zn hab hpp
      simp (maxSteps := 1000000) (disch := omega) only [go_sem, ↓reduceIte, Nat.reduceEqDiff, reduceCtorEq, hn.1]
      rw [zall hab] at hJ
      refine finS_l ?_
      simp (maxSteps := 1000000) (disch := omega) only [go_sem]
      all_goals simp [hJ]
    | cons x post =>
      have hn := zl hab hpp
      simp (maxSteps := 1000000) (disch := omega) only [go_sem, ↓reduceIte, Nat.reduceEqDiff, reduceCtorEq, strs_eq, gmap (fun n => [AV.str n]) hn.1, gmap (fun n => [AV.str n]) hn.2.1, hn.2.2.1]
      rw [condS_some]; refine ⟨fun hx => ?_, fun hx => ?_⟩
      · simp (maxSteps := 1000000) (disch := omega) only [go_sem, ↓reduceIte]
        have hx : x.1 ≠ x.2 := by simpa using hx
        rw [zall hab] at hJ
        refine finS_l ?_
        simp (maxSteps := 1000000) (disch := omega) only [go_sem]
        all_goals simp [hJ, hx]
      · simp (maxSteps := 1000000) (disch := omega) only [go_sem, ↓reduceIte, Nat.reduceEqDiff, reduceCtorEq]
        have hx : x.1 = x.2 := by simpa using hx
        refine lp_next (h.length + 0) () hpp ?_ ?_ ?_
        · simp [hJ, hx]
        · simp (maxSteps := 1000000) (disch := omega) only [go_sem, ↓reduceIte, Nat.reduceEqDiff, reduceCtorEq, wrap64, Int.natCast_add, Int.cast_ofNat_Int]
        · simp (maxSteps := 1000000) (disch := omega) only [go_sem]

theorem sameCells_spec (a b : List Cell) (hl : a.length < 1099511627776) : Ans N.joistref00_SameCells [.psl (a.map Cell.e), .psl (b.map Cell.e)] (.bool (decide (a = b))) := by
  intro h
  refine spec_of ck_joistref00_SameCells ?_
  rw [wp_start]
  simp (maxSteps := 1000000) (disch := omega) only [go_sem, ↓reduceIte, Nat.reduceAdd, Nat.reduceEqDiff, reduceCtorEq, F.joistref00_SameCells]
  rw [condS_some]; refine ⟨fun hx => ?_, fun hx => ?_⟩
  · simp (maxSteps := 1000000) (disch := omega) only [go_sem, ↓reduceIte]
    have hx : a.length ≠ b.length := by simpa [neqlen] using hx
    refine finS_l ?_
    simp (maxSteps := 1000000) (disch := omega) only [go_sem]
    all_goals simp [dne hx]
  · simp (maxSteps := 1000000) (disch := omega) only [go_sem, ↓reduceIte, Nat.reduceEqDiff, reduceCtorEq]
    have hab : a.length = b.length := by simpa [neqlen] using hx
    refine loopS_list (a.zip b) (fun pre (_ : Unit) => ⟨[(0, .psl (a.map Cell.e)), (1, .psl (b.map Cell.e)), (5, .int .i64 pre.length)], h⟩) (fun pre post _ => ((a.zip b).all fun x => decide (x.1 = x.2)) = post.all fun x => decide (x.1 = x.2)) () rfl rfl ?_
    rintro pre post ⟨⟩ hpp hJ
    cases post with
    | nil =>
      have hn := zn hab hpp
      simp (maxSteps := 1000000) (disch := omega) only [go_sem, ↓reduceIte, Nat.reduceEqDiff, reduceCtorEq, hn.1]
      rw [zall hab] at hJ
      refine finS_l ?_
      simp (maxSteps := 1000000) (disch := omega) only [go_sem]
      all_goals simp [hJ]
    | cons x post =>
      have hn := zl hab hpp
      simp (maxSteps := 1000000) (disch := omega) only [go_sem, ↓reduceIte, Nat.reduceEqDiff, reduceCtorEq, gmap Cell.e hn.1, gmap Cell.e hn.2.1, hn.2.2.1]
      rw [condS_some]; refine ⟨fun hx => ?_, fun hx => ?_⟩
      · simp (maxSteps := 1000000) (disch := omega) only [go_sem, ↓reduceIte]
        have hx : x.1 ≠ x.2 := by simpa using hx
        rw [zall hab] at hJ
        refine finS_l ?_
        simp (maxSteps := 1000000) (disch := omega) only [go_sem]
        all_goals simp [hJ, hx]
      · simp (maxSteps := 1000000) (disch := omega) only [go_sem, ↓reduceIte, Nat.reduceEqDiff, reduceCtorEq]
        have hx : x.1 = x.2 := by simpa using hx
        refine lp_next (h.length + 0) () hpp ?_ ?_ ?_
        · simp [hJ, hx]
        · simp (maxSteps := 1000000) (disch := omega) only [go_sem, ↓reduceIte, Nat.reduceEqDiff, reduceCtorEq, wrap64, Int.natCast_add, Int.cast_ofNat_Int]
        · simp (maxSteps := 1000000) (disch := omega) only [go_sem]

theorem famEq (a b : Family) : a = b ↔ a.name = b.name ∧ a.versions = b.versions ∧ a.life = b.life ∧ a.layouts = b.layouts ∧ a.cols = b.cols := by
  cases a; cases b; simp

theorem sameFamily_spec (a b : Family) (hl : a.layouts.length < 1099511627776) (hc : a.cols.length < 1099511627776) : Ans N.joistref00_SameFamily [.agg a.e, .agg b.e] (.bool (decide (a = b))) := by
  intro h
  refine spec_of ck_joistref00_SameFamily ?_
  rw [wp_start]
  simp (maxSteps := 1000000) (disch := omega) only [go_sem, ↓reduceIte, Nat.reduceAdd, Nat.reduceEqDiff, reduceCtorEq, F.joistref00_SameFamily]
  intro s s2
  rw [condS_some]; refine ⟨fun hx => ?_, fun hx => ?_⟩
  · simp (maxSteps := 1000000) (disch := omega) only [go_sem, ↓reduceIte]
    have hne : a ≠ b := by rintro rfl; simp at hx
    refine finS_l ?_
    simp (maxSteps := 1000000) (disch := omega) only [go_sem]
    all_goals simp [hne]
  · simp (maxSteps := 1000000) (disch := omega) only [go_sem, ↓reduceIte, Nat.reduceEqDiff]
    simp only [neqlen, Bool.or_eq_false_iff, Bool.not_eq_false', decide_eq_true_eq, bne_eq_false_iff_eq, beq_iff_eq] at hx
    obtain ⟨⟨⟨⟨e1, e2⟩, e3⟩, e4⟩, e5⟩ := hx
    have key : decide (a = b) = (((a.layouts.zip b.layouts).all fun x => decide (x.1 = x.2)) && ((a.cols.zip b.cols).all fun x => decide (x.1 = x.2))) := by
      rw [zall e4, zall e5, Bool.eq_iff_iff]; simp [famEq, e1, e2, e3]
    refine loopS_list (a.layouts.zip b.layouts) (fun pre (_ : Unit) => ⟨[(2, .ptr h.length s 0 0), (3, .ptr (h.length + 1) s2 0 0), (5, .int .i64 pre.length)], h ++ [.arr s 0 5 [a.e], .arr s2 0 5 [b.e]]⟩) (fun pre post _ => ((a.layouts.zip b.layouts).all fun x => decide (x.1 = x.2)) = post.all fun x => decide (x.1 = x.2)) () rfl rfl ?_
    rintro pre post ⟨⟩ hpp hJ
    cases post with
    | nil =>
      have hn := zn e4 hpp
      simp (maxSteps := 1000000) (disch := omega) only [go_sem, ↓reduceIte, Nat.reduceEqDiff, hn.1]
      refine loopS_list (a.cols.zip b.cols) (fun pre (_ : Unit) => ⟨[(2, .ptr h.length s 0 0), (3, .ptr (h.length + 1) s2 0 0), (6, .int .i64 pre.length)], h ++ [.arr s 0 5 [a.e], .arr s2 0 5 [b.e]]⟩) (fun pre post _ => ((a.cols.zip b.cols).all fun x => decide (x.1 = x.2)) = post.all fun x => decide (x.1 = x.2)) () rfl rfl ?_
      rintro pre post ⟨⟩ hpp hJ2
      cases post with
      | nil =>
        have hn := zn e5 hpp
        simp (maxSteps := 1000000) (disch := omega) only [go_sem, ↓reduceIte, Nat.reduceEqDiff, hn.1]
        refine finS_l ?_
        simp (maxSteps := 1000000) (disch := omega) only [go_sem]
        all_goals simp [key, hJ, hJ2]
      | cons x post =>
        have hn := zl e5 hpp
        simp (maxSteps := 1000000) (disch := omega) only [go_sem, ↓reduceIte, Nat.reduceEqDiff, gmap Column.e hn.1, gmap Column.e hn.2.1, hn.2.2.1]
        rw [condS_some]; refine ⟨fun hx => ?_, fun hx => ?_⟩
        · simp (maxSteps := 1000000) (disch := omega) only [go_sem, ↓reduceIte]
          have hx : x.1 ≠ x.2 := by simpa using hx
          refine finS_l ?_
          simp (maxSteps := 1000000) (disch := omega) only [go_sem]
          all_goals simp [key, hJ2, hx]
        · simp (maxSteps := 1000000) (disch := omega) only [go_sem, ↓reduceIte, Nat.reduceEqDiff]
          have hx : x.1 = x.2 := by simpa using hx
          refine lp_next (h.length + 2) () hpp ?_ ?_ ?_
          · simp [hJ2, hx]
          · simp (maxSteps := 1000000) (disch := omega) only [go_sem, ↓reduceIte, Nat.reduceEqDiff, wrap64, Int.natCast_add, Int.cast_ofNat_Int]
          · simp (maxSteps := 1000000) (disch := omega) only [go_sem]
    | cons x post =>
      have hn := zl e4 hpp
      simp (maxSteps := 1000000) (disch := omega) only [go_sem, ↓reduceIte, Nat.reduceEqDiff, gmap Layout.e hn.1, gmap Layout.e hn.2.1, hn.2.2.1]
      rw [condS_some]; refine ⟨fun hx => ?_, fun hx => ?_⟩
      · simp (maxSteps := 1000000) (disch := omega) only [go_sem, ↓reduceIte]
        have hx : x.1 ≠ x.2 := by simpa using hx
        refine finS_l ?_
        simp (maxSteps := 1000000) (disch := omega) only [go_sem]
        all_goals simp [key, hJ, hx]
      · simp (maxSteps := 1000000) (disch := omega) only [go_sem, ↓reduceIte, Nat.reduceEqDiff]
        have hx : x.1 = x.2 := by simpa using hx
        refine lp_next (h.length + 2) () hpp ?_ ?_ ?_
        · simp [hJ, hx]
        · simp (maxSteps := 1000000) (disch := omega) only [go_sem, ↓reduceIte, Nat.reduceEqDiff, wrap64, Int.natCast_add, Int.cast_ofNat_Int]
        · simp (maxSteps := 1000000) (disch := omega) only [go_sem]

theorem schEq (a b : Schema) : a = b ↔ a.version = b.version ∧ a.fams = b.fams ∧ a.change = b.change ∧ a.step = b.step := by
  cases a; cases b; simp

theorem sameSchema_spec (a b : Schema) (hf : a.fams.length < 1099511627776) (hl : ∀ f ∈ a.fams, f.layouts.length < 1099511627776 ∧ f.cols.length < 1099511627776) : Ans N.joistref00_SameSchema [.agg a.e, .agg b.e] (.bool (decide (a = b))) := by
  intro h
  refine spec_of ck_joistref00_SameSchema ?_
  rw [wp_start]
  simp (maxSteps := 1000000) (disch := omega) only [go_sem, ↓reduceIte, Nat.reduceAdd, Nat.reduceEqDiff, reduceCtorEq, F.joistref00_SameSchema]
  intro s s2
  rw [condS_some]; refine ⟨fun hx => ?_, fun hx => ?_⟩
  · simp (maxSteps := 1000000) (disch := omega) only [go_sem, ↓reduceIte]
    have hne : a ≠ b := by rintro rfl; simp at hx
    refine finS_l ?_
    simp (maxSteps := 1000000) (disch := omega) only [go_sem]
    all_goals simp [hne]
  · simp (maxSteps := 1000000) (disch := omega) only [go_sem, ↓reduceIte, Nat.reduceEqDiff]
    simp only [neqlen, Bool.or_eq_false_iff, Bool.not_eq_false', decide_eq_true_eq, bne_eq_false_iff_eq] at hx
    obtain ⟨⟨⟨e1, e2⟩, e3⟩, e4⟩ := hx
    have key : decide (a = b) = ((a.fams.zip b.fams).all fun x => decide (x.1 = x.2)) := by
      rw [zall e4, Bool.eq_iff_iff]; simp [schEq, e1, e2, e3]
    refine loopS_list (a.fams.zip b.fams) (fun pre (_ : Unit) => ⟨[(2, .ptr h.length s 0 0), (3, .ptr (h.length + 1) s2 0 0), (5, .int .i64 pre.length)], h ++ [.arr s 0 10 [a.e], .arr s2 0 10 [b.e]]⟩) (fun pre post _ => ((a.fams.zip b.fams).all fun x => decide (x.1 = x.2)) = post.all fun x => decide (x.1 = x.2)) () rfl rfl ?_
    rintro pre post ⟨⟩ hpp hJ
    cases post with
    | nil =>
      have hn := zn e4 hpp
      simp (maxSteps := 1000000) (disch := omega) only [go_sem, ↓reduceIte, Nat.reduceEqDiff, hn.1]
      refine finS_l ?_
      simp (maxSteps := 1000000) (disch := omega) only [go_sem]
      all_goals simp [key, hJ]
    | cons x post =>
      have hn := zl e4 hpp
      have hx := hl x.1 (List.mem_of_getElem? hn.1)
      simp (maxSteps := 1000000) (disch := omega) only [go_sem, ↓reduceIte, Nat.reduceEqDiff, gmap Family.e hn.1, gmap Family.e hn.2.1, hn.2.2.1]
      refine callS_exact (sameFamily_spec _ _ hx.1 hx.2 _) ?_
      simp (maxSteps := 1000000) (disch := omega) only [go_sem, ↓reduceIte, Nat.reduceEqDiff]
      rw [condS_some]; refine ⟨fun hx => ?_, fun hx => ?_⟩
      · simp (maxSteps := 1000000) (disch := omega) only [go_sem, ↓reduceIte]
        have hx : x.1 ≠ x.2 := by simpa using hx
        refine finS_l ?_
        simp (maxSteps := 1000000) (disch := omega) only [go_sem]
        all_goals simp [key, hJ, hx]
      · simp (maxSteps := 1000000) (disch := omega) only [go_sem, ↓reduceIte, Nat.reduceEqDiff]
        have hx : x.1 = x.2 := by simpa using hx
        refine lp_next (h.length + 2) () hpp ?_ ?_ ?_
        · simp [hJ, hx]
        · simp (maxSteps := 1000000) (disch := omega) only [go_sem, ↓reduceIte, Nat.reduceEqDiff, wrap64, Int.natCast_add, Int.cast_ofNat_Int]
        · simp (maxSteps := 1000000) (disch := omega) only [go_sem]

/-! texts -/

def cmpS : Str → Str → Int
  | [], [] => 0
  | [], _ :: _ => -1
  | _ :: _, [] => 1
  | x :: a, y :: b => if x = y then cmpS a b else if x < y then -1 else 1

theorem byteLt (x y : UInt8) : (((x.toNat : Int)) < (y.toNat : Int)) = (x < y) := by
  rw [UInt8.lt_iff_toNat_lt]; simp
theorem byteNe (x y : UInt8) : (((x.toNat : Int)) != (y.toNat : Int)) = decide (x ≠ y) := by
  rw [Bool.eq_iff_iff]; simp [← UInt8.toNat_inj, Int.natCast_inj]
theorem dropc {α : Type} {l : List α} {k : Nat} {x : α} (h : l[k]? = some x) : l.drop k = x :: l.drop (k + 1) := by
  have hk := (List.getElem?_eq_some_iff.1 h)
  obtain ⟨h1, rfl⟩ := hk
  exact List.drop_eq_getElem_cons h1
theorem getlt {α : Type} {l : List α} {k : Nat} (h : k < l.length) : ∃ x, l[k]? = some x := ⟨l[k], by simp⟩
theorem cmpS_end (a b : Str) (k : Nat) (ha : k ≤ a.length) (hb : k ≤ b.length) (h : k = a.length ∨ k = b.length) : cmpS (a.drop k) (b.drop k) = if a.length < b.length then -1 else if b.length < a.length then 1 else 0 := by
  rcases h with h | h
  · have e : a.drop k = [] := by simp [h]
    rw [e]
    rcases Nat.lt_or_ge k b.length with hk | hk
    · obtain ⟨x, hx⟩ := getlt hk
      rw [dropc hx, if_pos (by omega)]; rfl
    · have e : b.drop k = [] := by simp [hk]
      rw [e, if_neg (by omega), if_neg (by omega)]; rfl
  · have e : b.drop k = [] := by simp [h]
    rw [e]
    rcases Nat.lt_or_ge k a.length with hk | hk
    · obtain ⟨x, hx⟩ := getlt hk
      rw [dropc hx, if_neg (by omega), if_pos (by omega)]; rfl
    · have e : a.drop k = [] := by simp [hk]
      rw [e, if_neg (by omega), if_neg (by omega)]; rfl

theorem texts_spec (a b : Str) (ha : a.length < 1099511627776) (hb : b.length < 1099511627776) : Ans N.joistref00_Texts [.str a, .str b] (.int .i64 (cmpS a b)) := by
  intro h
  refine spec_of ck_joistref00_Texts ?_
  rw [wp_start]
  simp (maxSteps := 1000000) (disch := omega) only [go_sem, ↓reduceIte, Nat.reduceAdd, Nat.reduceEqDiff, Int.reduceNeg, reduceCtorEq, F.joistref00_Texts]
  refine loopS_meas (fun k : Nat => ⟨[(0, .str a), (1, .str b), (5, .int .i64 k)], h⟩) (fun k => a.length - k) (fun k => k ≤ a.length ∧ k ≤ b.length ∧ cmpS a b = cmpS (a.drop k) (b.drop k)) 0 rfl ⟨Nat.zero_le _, Nat.zero_le _, by simp⟩ ?_
  rintro k ⟨k1, k2, hJ⟩
  simp (maxSteps := 1000000) (disch := omega) only [go_sem, ↓reduceIte, Nat.reduceEqDiff, Int.reduceNeg, reduceCtorEq]
  rw [condS_some]; refine ⟨fun hx => ?_, fun hx => ?_⟩
  · simp only [Bool.and_eq_true, decide_eq_true_eq] at hx
    obtain ⟨x, hxa⟩ := getlt (l := a) (k := k) (by omega)
    obtain ⟨y, hyb⟩ := getlt (l := b) (k := k) (by omega)
    rw [dropc hxa, dropc hyb] at hJ
    simp (maxSteps := 1000000) (disch := omega) only [go_sem, ↓reduceIte, Nat.reduceEqDiff, Int.reduceNeg, reduceCtorEq, hxa, hyb, byteNe]
    rw [condS_some]; refine ⟨fun hx => ?_, fun hx => ?_⟩
    · simp (maxSteps := 1000000) (disch := omega) only [go_sem, ↓reduceIte, Nat.reduceEqDiff, Int.reduceNeg, reduceCtorEq, hxa, hyb, byteLt]
      have hne : x ≠ y := by simpa using hx
      rw [condS_some]; refine ⟨fun hx => ?_, fun hx => ?_⟩
      · simp (maxSteps := 1000000) (disch := omega) only [go_sem, ↓reduceIte, Int.reduceNeg]
        have hx : x < y := by simpa using hx
        refine finS_l ?_
        simp (maxSteps := 1000000) (disch := omega) only [go_sem, Int.reduceNeg]
        all_goals simp [hJ, cmpS, hne, hx]
      · simp (maxSteps := 1000000) (disch := omega) only [go_sem, ↓reduceIte, Int.reduceNeg]
        have hx : ¬ x < y := by simpa using hx
        refine finS_l ?_
        simp (maxSteps := 1000000) (disch := omega) only [go_sem]
        all_goals simp [hJ, cmpS, hne, hx]
    · simp (maxSteps := 1000000) (disch := omega) only [go_sem, ↓reduceIte, Nat.reduceEqDiff, Int.reduceNeg, reduceCtorEq]
      have he : x = y := by simpa using hx
      refine lpm_next (h.length + 0) (k+1) ?_ ?_ ?_ ?_
      rotate_left 2
      · simp (maxSteps := 1000000) (disch := omega) only [go_sem, ↓reduceIte, Nat.reduceEqDiff, reduceCtorEq, wrap64, Int.natCast_add, Int.cast_ofNat_Int]
      · simp (maxSteps := 1000000) (disch := omega) only [go_sem]
      · show a.length - (k + 1) < a.length - k
        omega
      · exact ⟨by omega, by omega, by rw [hJ, he]; simp [cmpS]⟩
  · simp only [Bool.and_eq_false_iff, decide_eq_false_iff_not] at hx
    rw [cmpS_end a b k k1 k2 (by omega)] at hJ
    simp (maxSteps := 1000000) (disch := omega) only [go_sem, ↓reduceIte, Nat.reduceEqDiff, Int.reduceNeg, reduceCtorEq]
    rw [condS_some]; refine ⟨fun hx => ?_, fun hx => ?_⟩
    · simp (maxSteps := 1000000) (disch := omega) only [go_sem, ↓reduceIte, Int.reduceNeg]
      have hx : a.length < b.length := by simpa using hx
      refine finS_l ?_
      simp (maxSteps := 1000000) (disch := omega) only [go_sem, Int.reduceNeg]
      all_goals simp [hJ, hx]
    · simp (maxSteps := 1000000) (disch := omega) only [go_sem, ↓reduceIte, Nat.reduceEqDiff, reduceCtorEq]
      have hx1 : ¬ a.length < b.length := by simpa using hx
      rw [condS_some]; refine ⟨fun hx => ?_, fun hx => ?_⟩
      · simp (maxSteps := 1000000) (disch := omega) only [go_sem, ↓reduceIte]
        have hx : b.length < a.length := by simpa using hx
        refine finS_l ?_
        simp (maxSteps := 1000000) (disch := omega) only [go_sem]
        all_goals simp [hJ, hx, hx1]
      · simp (maxSteps := 1000000) (disch := omega) only [go_sem, ↓reduceIte]
        have hx : ¬ b.length < a.length := by simpa using hx
        refine finS_l ?_
        simp (maxSteps := 1000000) (disch := omega) only [go_sem]
        all_goals simp [hJ, hx, hx1]
end Go.Ab.S2

/- Contracts of the document's schema (joistref14), and of names (joistref03). -/
namespace Go.Ab.S2
open Go.Ab
set_option maxRecDepth 100000

def nameB (c : UInt8) : Bool := (decide (97 ≤ (c.toNat : Int)) && decide ((c.toNat : Int) ≤ 122)) || (decide (48 ≤ (c.toNat : Int)) && decide ((c.toNat : Int) ≤ 57))
def nameR (s : Str) : Bool := s.all nameB && (decide (1 ≤ (s.length : Int)) && decide ((s.length : Int) ≤ 8))

theorem name_spec (s : Str) (hs : s.length < 1099511627776) : Ans N.joistref03_Name [.str s] (.bool (nameR s)) := by
  intro h
  refine spec_of ck_joistref03_Name ?_
  rw [wp_start]
  simp (maxSteps := 1000000) (disch := omega) only [go_sem, ↓reduceIte, reduceCtorEq, F.joistref03_Name]
  refine loopS_list s (fun pre (_ : Unit) => ⟨[(0, .str s), (3, .int .i64 pre.length)], h⟩) (fun pre post _ => s.all nameB = post.all nameB) () rfl rfl ?_
  rintro pre post ⟨⟩ hpp hJ
  cases post with
  | nil =>
    have hn := nl0 hpp
    simp (maxSteps := 1000000) (disch := omega) only [go_sem, ↓reduceIte, Nat.reduceEqDiff, reduceCtorEq, hn]
    refine finS_l ?_
    simp (maxSteps := 1000000) (disch := omega) only [go_sem]
    all_goals simp [nameR, hJ, hn]
  | cons x post =>
    have hn := nl hpp
    simp (maxSteps := 1000000) (disch := omega) only [go_sem, ↓reduceIte, Nat.reduceEqDiff, reduceCtorEq, gl hpp, hn]
    rw [condS_some]; refine ⟨fun hx => ?_, fun hx => ?_⟩
    · simp (maxSteps := 1000000) (disch := omega) only [go_sem, ↓reduceIte]
      have hx : nameB x = false := by rw [Bool.not_eq_true'] at hx; exact hx
      refine finS_l ?_
      simp (maxSteps := 1000000) (disch := omega) only [go_sem]
      all_goals simp [nameR, hJ, hx]
    · simp (maxSteps := 1000000) (disch := omega) only [go_sem, ↓reduceIte, reduceCtorEq]
      have hx : nameB x = true := by rw [Bool.not_eq_false'] at hx; exact hx
      refine lp_next (h.length + 0) () hpp ?_ ?_ ?_
      · simp [hJ, hx]
      · simp (maxSteps := 1000000) (disch := omega) only [go_sem, ↓reduceIte, reduceCtorEq, wrap64, Int.natCast_add, Int.cast_ofNat_Int]
      · simp (maxSteps := 1000000) (disch := omega) only [go_sem]

def findF (s : Schema) (n : Str) : Option Family := s.fams.find? fun f => f.name == n

theorem find_spec (s : Schema) (n : Str) (hs : s.wf) : Ans N.joistref14_Find [.agg s.e, .str n] (.tup [.agg ((findF s n).getD Family.zero).e, .bool (findF s n).isSome]) := by
  intro h
  refine spec_of ck_joistref14_Find ?_
  rw [wp_start]
  simp (maxSteps := 1000000) (disch := omega) only [go_sem, ↓reduceIte, Nat.reduceAdd, Nat.reduceEqDiff, reduceCtorEq, F.joistref14_Find]
  intro s1 s2
  have hl := hs.fams
  refine loopS_list s.fams (fun pre (_ : Unit) => ⟨[(1, .str n), (2, .ptr h.length s1 0 0), (4, .ptr (h.length + 1) s2 0 0), (6, .int .i64 pre.length)], h ++ [.arr s1 0 10 [s.e], .arr s2 0 5 [Family.zero.e]]⟩) (fun pre post _ => findF s n = post.find? fun f => f.name == n) () rfl rfl ?_
  rintro pre post ⟨⟩ hpp hJ
  cases post with
  | nil =>
    have hn := nl0 hpp
    simp (maxSteps := 1000000) (disch := omega) only [go_sem, ↓reduceIte, Nat.reduceAdd, Nat.reduceEqDiff, hn, Family.zero_e]
    refine finS_l ?_
    simp (maxSteps := 1000000) (disch := omega) only [go_sem]
    all_goals simp [hJ, Family.zero_e]
  | cons x post =>
    have hn := nl hpp
    simp (maxSteps := 1000000) (disch := omega) only [go_sem, ↓reduceIte, Nat.reduceEqDiff, gml Family.e hpp, hn]
    rw [condS_some]; refine ⟨fun hx => ?_, fun hx => ?_⟩
    · simp (maxSteps := 1000000) (disch := omega) only [go_sem, ↓reduceIte, Nat.reduceEqDiff, gml Family.e hpp]
      have hf := hs.fam x (by simp [hpp])
      refine callS_exact (copyFamily_spec x hf.lays hf.cols _) ?_
      simp (maxSteps := 1000000) (disch := omega) only [go_sem, ↓reduceIte, Nat.reduceEqDiff, Family.zero_e]
      refine finS_l ?_
      simp (maxSteps := 1000000) (disch := omega) only [go_sem]
      all_goals simp [hJ, hx]
    · simp (maxSteps := 1000000) (disch := omega) only [go_sem, ↓reduceIte, Nat.reduceEqDiff]
      refine lp_next (h.length + 2) () hpp ?_ ?_ ?_
      · simp [hJ, hx]
      · simp (maxSteps := 1000000) (disch := omega) only [go_sem, ↓reduceIte, Nat.reduceEqDiff, wrap64, Int.natCast_add, Int.cast_ofNat_Int]
      · simp (maxSteps := 1000000) (disch := omega) only [go_sem]

def colF (f : Family) (n : Str) : Option Column := f.cols.find? fun c => c.qual == n

theorem column_spec (f : Family) (n : Str) (hl : f.cols.length < 1099511627776) : Ans N.joistref14_Column [.agg f.e, .str n] (.tup [.agg ((colF f n).getD Column.zero).e, .bool (colF f n).isSome]) := by
  intro h
  refine spec_of ck_joistref14_Column ?_
  rw [wp_start]
  simp (maxSteps := 1000000) (disch := omega) only [go_sem, ↓reduceIte, Nat.reduceAdd, Nat.reduceEqDiff, reduceCtorEq, F.joistref14_Column]
  intro s1 s2
  refine loopS_list f.cols (fun pre (_ : Unit) => ⟨[(1, .str n), (2, .ptr h.length s1 0 0), (4, .ptr (h.length + 1) s2 0 0), (6, .int .i64 pre.length)], h ++ [.arr s1 0 5 [f.e], .arr s2 0 3 [Column.zero.e]]⟩) (fun pre post _ => colF f n = post.find? fun f => f.qual == n) () rfl rfl ?_
  rintro pre post ⟨⟩ hpp hJ
  cases post with
  | nil =>
    have hn := nl0 hpp
    simp (maxSteps := 1000000) (disch := omega) only [go_sem, ↓reduceIte, Nat.reduceAdd, Nat.reduceEqDiff, hn, Column.zero_e]
    refine finS_l ?_
    simp (maxSteps := 1000000) (disch := omega) only [go_sem]
    all_goals simp [hJ, Column.zero_e]
  | cons x post =>
    have hn := nl hpp
    simp (maxSteps := 1000000) (disch := omega) only [go_sem, ↓reduceIte, Nat.reduceEqDiff, gml Column.e hpp, hn]
    rw [condS_some]; refine ⟨fun hx => ?_, fun hx => ?_⟩
    · simp (maxSteps := 1000000) (disch := omega) only [go_sem, ↓reduceIte, Nat.reduceEqDiff, gml Column.e hpp, Column.zero_e]
      refine finS_l ?_
      simp (maxSteps := 1000000) (disch := omega) only [go_sem]
      all_goals simp [hJ, hx]
    · simp (maxSteps := 1000000) (disch := omega) only [go_sem, ↓reduceIte, Nat.reduceEqDiff]
      refine lp_next (h.length + 2) () hpp ?_ ?_ ?_
      · simp [hJ, hx]
      · simp (maxSteps := 1000000) (disch := omega) only [go_sem, ↓reduceIte, Nat.reduceEqDiff, wrap64, Int.natCast_add, Int.cast_ofNat_Int]
      · simp (maxSteps := 1000000) (disch := omega) only [go_sem]

def readF (f : Family) : Option Layout := f.layouts.find? fun l => l.state == 3

theorem read_spec (f : Family) (hl : f.layouts.length < 1099511627776) : Ans N.joistref14_Read [.agg f.e] (.tup [.int .i64 ((readF f).map Layout.group |>.getD 0), .bool (readF f).isSome]) := by
  intro h
  refine spec_of ck_joistref14_Read ?_
  rw [wp_start]
  simp (maxSteps := 1000000) (disch := omega) only [go_sem, ↓reduceIte, Nat.reduceEqDiff, F.joistref14_Read]
  intro s1
  refine loopS_list f.layouts (fun pre (_ : Unit) => ⟨[(1, .ptr h.length s1 0 0), (4, .int .i64 pre.length)], h ++ [.arr s1 0 5 [f.e]]⟩) (fun pre post _ => readF f = post.find? fun l => l.state == 3) () rfl rfl ?_
  rintro pre post ⟨⟩ hpp hJ
  cases post with
  | nil =>
    simp (maxSteps := 1000000) (disch := omega) only [go_sem, ↓reduceIte, Nat.reduceEqDiff, nl0 hpp]
    refine finS_l ?_
    simp (maxSteps := 1000000) (disch := omega) only [go_sem]
    all_goals simp [hJ]
  | cons x post =>
    have hn := nl hpp
    simp (maxSteps := 1000000) (disch := omega) only [go_sem, ↓reduceIte, Nat.reduceEqDiff, gml Layout.e hpp, hn]
    rw [condS_some]; refine ⟨fun hx => ?_, fun hx => ?_⟩
    · simp (maxSteps := 1000000) (disch := omega) only [go_sem, ↓reduceIte, Nat.reduceEqDiff, gml Layout.e hpp]
      refine finS_l ?_
      simp (maxSteps := 1000000) (disch := omega) only [go_sem]
      all_goals simp [hJ, hx]
    · simp (maxSteps := 1000000) (disch := omega) only [go_sem, ↓reduceIte, Nat.reduceEqDiff]
      refine lp_next (h.length + 1) () hpp ?_ ?_ ?_
      · simp [hJ, hx]
      · simp (maxSteps := 1000000) (disch := omega) only [go_sem, ↓reduceIte, Nat.reduceEqDiff, wrap64, Int.natCast_add, Int.cast_ofNat_Int]
      · simp (maxSteps := 1000000) (disch := omega) only [go_sem]

def inG (n : Int) (l : Layout) : Bool := decide (n ≤ l.state) && decide (l.state ≤ 3)

end Go.Ab.S2

/- Contracts of functions of the libraries cmp and strings, of names, and of the cells' order (codec). -/
namespace Go.Ab.S2
open Go.Ab
set_option maxRecDepth 100000

/-! what the library's compiled contracts say, as contracts of the layer -/

theorem below_rel {C : Ctx} {w w' : World} {h : Heap} (H : HRel C w h) (B : Go.RowKit.Below w.heap.size w w') : Step C w C w' ∧ HRel C w' h := by
  have hc : ∀ b j, b < w.heap.size → w'.cell? ⟨b, j, none⟩ = w.cell? ⟨b, j, none⟩ := fun b j hb => World.cell?_of_block (w := w) (B.block b hb)
  have S : Step C w C w' := ⟨B.os, B.tape, B.output, B.size, Nat.le_refl _, fun _ _ h => h, fun b j hb => hc b j (H.okb b j hb), fun _ _ _ _ h _ => h,
    fun b arr t fz h => ⟨arr, t, fz, by rw [B.block b (Array.getElem?_eq_some_iff.1 h).1]; exact h, rfl⟩, fun b hb _ => B.block b hb, fun l b s z h _ => ⟨l, s, z, h⟩, fun _ _ h _ => .inl h⟩
  refine ⟨S, fun l o hl => ?_, H.inj, H.none, fun b j h => Nat.lt_of_lt_of_le (H.okb b j h) B.size, fun l b s z h => Nat.lt_of_lt_of_le (H.blk l b s z h) B.size, H.tbS S⟩
  exact (H.obj l o hl).keep S rfl (fun b s z hm => B.block b (H.blk l b s z hm)) (fun _ _ _ _ _ h => h)

def ren213 : Go.Shelf.Ren := ⟨fun | 213 => N.internal_bytealg_CompareString | 265 => N.internal_bytealg_abigen_runtime_cmpstring | n => n, fun | 9 => 9 | 3 => 3 | n => n, fun n => n⟩
open Go.Proofs in
theorem lays213 : Go.Proofs.Lays.n213 PP ren213 :=
  { mixed := by kernel_rfl, f213 := Eq.trans Tryz.func172 (congrArg some (by kernel_rfl)), f265 := Eq.trans Tryz.func175 (congrArg some (by kernel_rfl)), t3 := Tryz.underlying3, a3 := Tryz.isAgg3, z3 := Tryz.sizeOf3, v3 := Tryz.zeroValue3, t9 := Tryz.underlying9, a9 := Tryz.isAgg9, z9 := Tryz.sizeOf9, v9 := Tryz.zeroValue9 }

theorem cmpS_lib : ∀ a b : Str, Lib.compareBytes a b = cmpS a b
  | [], [] => rfl
  | [], _ :: _ => rfl
  | _ :: _, [] => rfl
  | x :: a, y :: b => by
    simp only [Lib.compareBytes, cmpS, cmpS_lib a b]
    by_cases h : x = y
    · subst h; simp
    · rw [if_neg h]
      by_cases h1 : x < y
      · simp [h1]
      · have : y < x := UInt8.lt_of_le_of_ne (UInt8.not_lt.1 h1) (Ne.symm h)
        simp [h1, this]

theorem compareString_spec (a b : Str) : Ans N.internal_bytealg_CompareString [.str a, .str b] (.int .i64 (cmpS a b)) := by
  intro h
  refine ⟨by kernel_rfl, fun C w vs H hv => ?_⟩
  simp only [vrels, vrel] at hv
  obtain ⟨y1, r1, rfl, rfl, y2, r2, rfl, rfl, rfl⟩ := hv
  refine (Go.Proofs.Any.bytealg_CompareString lays213 ⟨a.toArray⟩ ⟨b.toArray⟩ w).mono ?_
  rintro e w' ⟨rfl, rfl⟩
  refine ⟨C, .ret (.int .i64 (cmpS a b)), h, .refl C _, H, ⟨_, rfl, ?_⟩, rfl, rfl⟩
  simp only [vrel]
  rw [← cmpS_lib]

theorem compare_spec (a b : Str) : Ans N.strings_Compare [.str a, .str b] (.int .i64 (cmpS a b)) := by
  intro h
  refine spec_of ck_strings_Compare ?_
  rw [wp_start]
  simp (maxSteps := 1000000) (disch := omega) only [go_sem, ↓reduceIte, Nat.reduceAdd, Nat.reduceEqDiff, reduceCtorEq, F.strings_Compare]
  refine callS_exact (compareString_spec a b h) ?_
  simp (maxSteps := 1000000) (disch := omega) only [go_sem, ↓reduceIte]
  refine finS_l ?_
  simp (maxSteps := 1000000) (disch := omega) only [go_sem]
  all_goals simp []

def cmpI (a b : Int) : Int := if a < b then -1 else if b < a then 1 else 0

theorem isNaN_spec (a : Int) : Ans N.cmp_isNaN_int [.int .i64 a] (.bool false) := by
  intro h
  refine spec_of ck_cmp_isNaN_int ?_
  rw [wp_start]
  simp (maxSteps := 1000000) (disch := omega) only [go_sem, ↓reduceIte, reduceCtorEq, F.cmp_isNaN_int]
  refine finS_l ?_
  simp (maxSteps := 1000000) (disch := omega) only [go_sem]
  all_goals simp []

theorem cmpInt_spec (a b : Int) : Ans N.cmp_Compare_int [.int .i64 a, .int .i64 b] (.int .i64 (cmpI a b)) := by
  intro h
  refine spec_of ck_cmp_Compare_int ?_
  rw [wp_start]
  simp (maxSteps := 1000000) (disch := omega) only [go_sem, ↓reduceIte, Nat.reduceAdd, Nat.reduceEqDiff, Int.reduceNeg, reduceCtorEq, F.cmp_Compare_int]
  refine callS_exact (isNaN_spec a h) ?_
  simp (maxSteps := 1000000) (disch := omega) only [go_sem, ↓reduceIte, Nat.reduceEqDiff, Int.reduceNeg, reduceCtorEq]
  refine callS_exact (isNaN_spec b h) ?_
  simp (maxSteps := 1000000) (disch := omega) only [go_sem, ↓reduceIte, Nat.reduceEqDiff, Int.reduceNeg, reduceCtorEq]
  rw [condS_some]; refine ⟨fun hx => ?_, fun hx => ?_⟩
  · simp (maxSteps := 1000000) (disch := omega) only [go_sem, ↓reduceIte, Int.reduceNeg]
    have hx : a < b := by simpa using hx
    refine finS_l ?_
    simp (maxSteps := 1000000) (disch := omega) only [go_sem, Int.reduceNeg]
    all_goals simp [cmpI, hx]
  · simp (maxSteps := 1000000) (disch := omega) only [go_sem, ↓reduceIte, Nat.reduceEqDiff, reduceCtorEq]
    have hx1 : ¬ a < b := by simpa using hx
    rw [condS_some]; refine ⟨fun hx => ?_, fun hx => ?_⟩
    · simp (maxSteps := 1000000) (disch := omega) only [go_sem, ↓reduceIte]
      have hx : b < a := by simpa using hx
      refine finS_l ?_
      simp (maxSteps := 1000000) (disch := omega) only [go_sem]
      all_goals simp [cmpI, hx, hx1]
    · simp (maxSteps := 1000000) (disch := omega) only [go_sem, ↓reduceIte]
      have hx : ¬ b < a := by simpa using hx
      refine finS_l ?_
      simp (maxSteps := 1000000) (disch := omega) only [go_sem]
      all_goals simp [cmpI, hx, hx1]

/-- The first that is not nought. -/
def orI : List Int → Int
  | [] => 0
  | x :: r => if x = 0 then orI r else x

theorem or_spec (l : List Int) (hl : l.length < 1099511627776) : Ans N.cmp_Or_int [.psl (ints l)] (.int .i64 (orI l)) := by
  intro h
  refine spec_of ck_cmp_Or_int ?_
  rw [wp_start]
  simp (maxSteps := 1000000) (disch := omega) only [go_sem, ↓reduceIte, Nat.reduceEqDiff, reduceCtorEq, F.cmp_Or_int]
  refine loopS_list l (fun pre (_ : Unit) => ⟨[(3, .int .i64 0), (6, .psl (ints l)), (7, .int .i64 l.length), (8, .int .i64 pre.length)], h⟩) (fun pre post _ => orI l = orI post) () rfl rfl ?_
  rintro pre post ⟨⟩ hpp hJ
  cases post with
  | nil =>
    have hn := nl0 hpp
    simp (maxSteps := 1000000) (disch := omega) only [go_sem, ↓reduceIte, Nat.reduceEqDiff, hn]
    refine finS_l ?_
    simp (maxSteps := 1000000) (disch := omega) only [go_sem, hJ]
    all_goals simp [orI]
  | cons x post =>
    have hn := nl hpp
    simp (maxSteps := 1000000) (disch := omega) only [go_sem, ↓reduceIte, Nat.reduceEqDiff, gints hpp, hn]
    rw [condS_some]; refine ⟨fun hx => ?_, fun hx => ?_⟩
    · simp (maxSteps := 1000000) (disch := omega) only [go_sem, ↓reduceIte, Nat.reduceEqDiff]
      have hx : ¬ x = 0 := by simpa using hx
      refine finS_l ?_
      simp (maxSteps := 1000000) (disch := omega) only [go_sem, hJ]
      all_goals simp [orI, hx]
    · simp (maxSteps := 1000000) (disch := omega) only [go_sem, ↓reduceIte, Nat.reduceEqDiff]
      have hx : x = 0 := by simpa using hx
      refine lp_next (h.length + 0) () hpp ?_ ?_ ?_
      · rw [hJ]; simp [orI, hx]
      · simp (maxSteps := 1000000) (disch := omega) only [go_sem, ↓reduceIte, Nat.reduceEqDiff, wrap64, Int.natCast_add, Int.cast_ofNat_Int]
      · simp (maxSteps := 1000000) (disch := omega) only [go_sem]

def whole (c : Cell) : Int := if c.kind = 4 then 0 else 1
theorem whole_spec (c : Cell) : Ans N.codec_whole [.agg c.e] (.int .i64 (whole c)) := by
  intro h
  refine spec_of ck_codec_whole ?_
  rw [wp_start]
  simp (maxSteps := 1000000) (disch := omega) only [go_sem, ↓reduceIte, F.codec_whole]
  intro s
  rw [condS_some]; refine ⟨fun hx => ?_, fun hx => ?_⟩
  · simp (maxSteps := 1000000) (disch := omega) only [go_sem, ↓reduceIte]
    have hx : c.kind = 4 := by simpa using hx
    refine finS_l ?_
    simp (maxSteps := 1000000) (disch := omega) only [go_sem]
    all_goals simp [whole, hx]
  · simp (maxSteps := 1000000) (disch := omega) only [go_sem, ↓reduceIte]
    have hx : ¬ c.kind = 4 := by simpa using hx
    refine finS_l ?_
    simp (maxSteps := 1000000) (disch := omega) only [go_sem]
    all_goals simp [whole, hx]

theorem cmp3_spec (a b : Int) : Ans N.joistref03_cmp [.int .i64 a, .int .i64 b] (.int .i64 (cmpI a b)) := by
  intro h
  refine spec_of ck_joistref03_cmp ?_
  rw [wp_start]
  simp (maxSteps := 1000000) (disch := omega) only [go_sem, ↓reduceIte, Nat.reduceAdd, Nat.reduceEqDiff, Int.reduceNeg, reduceCtorEq, F.joistref03_cmp]
  rw [condS_some]; refine ⟨fun hx => ?_, fun hx => ?_⟩
  · simp (maxSteps := 1000000) (disch := omega) only [go_sem, ↓reduceIte, Int.reduceNeg]
    have hx : a < b := by simpa using hx
    refine finS_l ?_
    simp (maxSteps := 1000000) (disch := omega) only [go_sem, Int.reduceNeg]
    all_goals simp [cmpI, hx]
  · simp (maxSteps := 1000000) (disch := omega) only [go_sem, ↓reduceIte, Nat.reduceEqDiff, reduceCtorEq]
    have hx1 : ¬ a < b := by simpa using hx
    rw [condS_some]; refine ⟨fun hx => ?_, fun hx => ?_⟩
    · simp (maxSteps := 1000000) (disch := omega) only [go_sem, ↓reduceIte]
      have hx : b < a := by simpa using hx
      refine finS_l ?_
      simp (maxSteps := 1000000) (disch := omega) only [go_sem]
      all_goals simp [cmpI, hx, hx1]
    · simp (maxSteps := 1000000) (disch := omega) only [go_sem, ↓reduceIte]
      have hx : ¬ b < a := by simpa using hx
      refine finS_l ?_
      simp (maxSteps := 1000000) (disch := omega) only [go_sem]
      all_goals simp [cmpI, hx, hx1]
end Go.Ab.S2

/- Contracts: is a value right? (val, float; joistref01) -/
namespace Go.Ab.S2
open Go.Ab
set_option maxRecDepth 100000

def ren196 : Go.Shelf.Ren := ⟨fun | 196 => N.unicode_utf8_ValidString | 259 => N.unicode_utf8_word_string | n => n, fun | 9 => 9 | 4 => 4 | 3 => 3 | 5 => 5 | 12 => 12 | 119 => 165 | 0 => 0 | 46 => 150 | 139 => 168 | 138 => 167 | 53 => 162 | n => n, fun | 3 => 0 | 4 => 1 | n => n⟩
open Go.Proofs in
theorem lays196 : Go.Proofs.Lays.n196 PP ren196 :=
  { mixed := by kernel_rfl, f196 := Eq.trans Tryz.func112 (congrArg some (by kernel_rfl)), f259 := Eq.trans Tryz.func134 (congrArg some (by kernel_rfl)), t0 := Tryz.underlying0, a0 := Tryz.isAgg0, z0 := Tryz.sizeOf0, v0 := Tryz.zeroValue0, t3 := Tryz.underlying3,
    a3 := Tryz.isAgg3, z3 := Tryz.sizeOf3, v3 := Tryz.zeroValue3, t4 := Tryz.underlying4, a4 := Tryz.isAgg4, z4 := Tryz.sizeOf4, v4 := Tryz.zeroValue4, t5 := Tryz.underlying5, a5 := Tryz.isAgg5, z5 := Tryz.sizeOf5, v5 := Tryz.zeroValue5,
    t9 := Tryz.underlying9, a9 := Tryz.isAgg9, z9 := Tryz.sizeOf9, v9 := Tryz.zeroValue9, t12 := Tryz.underlying12, a12 := Tryz.isAgg12, z12 := Tryz.sizeOf12, v12 := Tryz.zeroValue12, t46 := Tryz.underlying150, a46 := Tryz.isAgg150,
    z46 := Tryz.sizeOf150, v46 := Tryz.zeroValue150, t53 := Tryz.underlying162, a53 := Tryz.isAgg162, z53 := Tryz.sizeOf162, v53 := Tryz.zeroValue162, t119 := Tryz.underlying165, a119 := Tryz.isAgg165, z119 := Tryz.sizeOf165,
    t138 := Tryz.underlying167, a138 := Tryz.isAgg167, z138 := Tryz.sizeOf167, v138 := Tryz.zeroValue167, t139 := Tryz.underlying168, a139 := Tryz.isAgg168, z139 := Tryz.sizeOf168, v139 := Tryz.zeroValue168, g3 := by kernel_rfl, g4 := by kernel_rfl }

theorem valid_spec (s : Str) (hs : s.length < 1099511627776) : Ans N.unicode_utf8_ValidString [.str s] (.bool (Lib.validD s)) := by
  intro h
  refine ⟨by kernel_rfl, fun C w vs H hv => ?_⟩
  simp only [vrels, vrel] at hv
  obtain ⟨y1, r1, rfl, rfl, rfl⟩ := hv
  have hsz : (⟨s.toArray⟩ : ByteArray).size = s.length := by simp [ByteArray.size]
  refine (Go.Proofs.Any.utf8_ValidString lays196 ⟨s.toArray⟩ w (by omega) (TB_tabs H.tb)).mono ?_
  rintro e w' ⟨rfl, hb⟩
  obtain ⟨S, H'⟩ := below_rel H hb
  exact ⟨C, .ret (.bool (Lib.validD s)), h, S, H', ⟨_, rfl, by simp only [vrel]⟩, rfl, rfl⟩

theorem bitsRight_spec (n : Int) (h1 : -9223372036854775808 ≤ n) (h2 : n < 9223372036854775808) : Ans N.float_bits_right [.int .u64 (IntKind.u64.wrap n)] (.bool (fR n)) := by
  intro h
  refine spec_of ck_float_bits_right ?_
  rw [wp_start]
  simp (maxSteps := 1000000) (disch := omega) only [go_sem, ↓reduceIte, Nat.reduceEqDiff, reduceCtorEq, F.float_bits_right]
  simp (maxSteps := 1000000) (disch := omega) only [go_sem, size_u, nan_u h1 h2]
  refine finS_l ?_
  simp (maxSteps := 1000000) (disch := omega) only [go_sem]
  all_goals simp [fR]
theorem fright_spec (n : Int) (h1 : -9223372036854775808 ≤ n) (h2 : n < 9223372036854775808) : Ans N.float_Right [.int .i64 n] (.bool (fR n)) := by
  intro h
  refine spec_of ck_float_Right ?_
  rw [wp_start]
  simp (maxSteps := 1000000) (disch := omega) only [go_sem, ↓reduceIte, reduceCtorEq, F.float_Right]
  refine callS_exact (bitsRight_spec n h1 h2 _) ?_
  simp (maxSteps := 1000000) (disch := omega) only [go_sem, ↓reduceIte]
  refine finS_l ?_
  simp (maxSteps := 1000000) (disch := omega) only [go_sem]
  all_goals simp []
theorem size01_spec (n : Int) : Ans N.joistref01_size [.int .i64 n] (.int .i64 (low63 n)) := by
  intro h
  refine spec_of ck_joistref01_size ?_
  rw [wp_start]
  simp (maxSteps := 1000000) (disch := omega) only [go_sem, ↓reduceIte, Int.reduceNeg, reduceCtorEq, F.joistref01_size]
  simp (maxSteps := 1000000) (disch := omega) only [go_sem, Int.reduceNeg, size_i]
  refine finS_l ?_
  simp (maxSteps := 1000000) (disch := omega) only [go_sem]
  all_goals simp []
theorem right01_spec (n : Int) : Ans N.joistref01_Right [.int .i64 n] (.bool (fR n)) := by
  intro h
  refine spec_of ck_joistref01_Right ?_
  rw [wp_start]
  simp (maxSteps := 1000000) (disch := omega) only [go_sem, ↓reduceIte, reduceCtorEq, F.joistref01_Right]
  refine callS_exact (size01_spec n _) ?_
  simp (maxSteps := 1000000) (disch := omega) only [go_sem, ↓reduceIte, Nat.reduceEqDiff, reduceCtorEq]
  refine finS_l ?_
  simp (maxSteps := 1000000) (disch := omega) only [go_sem]
  all_goals simp [fR]

def valR (v : Value) : Bool :=
  if v.kind = 1 then v.s == ([] : Str)
  else if v.kind = 4 then v.s == ([] : Str) && (v.n == 0 || v.n == 1)
  else if v.kind = 5 then v.s == ([] : Str) && fR v.n
  else if v.kind = 2 ∨ v.kind = 3 then (v.n == 0 && decide ((v.s.length : Int) ≤ 32)) && (v.kind == 2 || Lib.validD v.s)
  else false

theorem val_spec (v : Value) (hv : v.wf) : Ans N.val_Right [.agg v.e] (.bool (valR v)) := by
  intro h
  refine spec_of ck_val_Right ?_
  rw [wp_start]
  simp (maxSteps := 1000000) (disch := omega) only [go_sem, ↓reduceIte, Nat.reduceEqDiff, F.val_Right]
  intro s
  rw [condS_some]; refine ⟨fun hx => ?_, fun hx => ?_⟩
  · simp (maxSteps := 1000000) (disch := omega) only [go_sem, ↓reduceIte]
    have k1 : v.kind = 1 := by simpa using hx
    refine finS_l ?_
    simp (maxSteps := 1000000) (disch := omega) only [go_sem]
    all_goals simp [valR, k1]
  · simp (maxSteps := 1000000) (disch := omega) only [go_sem, ↓reduceIte, Nat.reduceEqDiff]
    have k1 : ¬ v.kind = 1 := by simpa using hx
    rw [condS_some]; refine ⟨fun hx => ?_, fun hx => ?_⟩
    · simp (maxSteps := 1000000) (disch := omega) only [go_sem, ↓reduceIte, Nat.reduceEqDiff, bool_i hv.lo hv.hi]
      have k4 : v.kind = 4 := by simpa using hx
      refine finS_l ?_
      simp (maxSteps := 1000000) (disch := omega) only [go_sem]
      all_goals simp [valR, k4]
    · simp (maxSteps := 1000000) (disch := omega) only [go_sem, ↓reduceIte, Nat.reduceEqDiff]
      have k4 : ¬ v.kind = 4 := by simpa using hx
      rw [condS_some]; refine ⟨fun hx => ?_, fun hx => ?_⟩
      · simp (maxSteps := 1000000) (disch := omega) only [go_sem, ↓reduceIte, Nat.reduceEqDiff]
        have k5 : v.kind = 5 := by simpa using hx
        rw [opEg_some]; refine ⟨fun hg => ?_, fun hg => ?_⟩ <;> try simp only [Bool.and_eq_true, Bool.or_eq_false_iff, Bool.not_eq_true', Bool.not_eq_false'] at hg
        · have g1 := hg
          simp (maxSteps := 1000000) (disch := omega) only [go_sem, ↓reduceIte, g1]
          refine callS_exact (fright_spec v.n hv.lo hv.hi _) ?_
          simp (maxSteps := 1000000) (disch := omega) only [go_sem, ↓reduceIte, Nat.reduceEqDiff]
          refine finS_l ?_
          simp (maxSteps := 1000000) (disch := omega) only [go_sem, ↓reduceIte, Int.reduceEq, valR, k5, g1]
          all_goals (try simp [valR, k5, g1])
        · have g1 := hg
          simp (maxSteps := 1000000) (disch := omega) only [go_sem, ↓reduceIte, Nat.reduceEqDiff, g1]
          refine finS_l ?_
          simp (maxSteps := 1000000) (disch := omega) only [go_sem, ↓reduceIte, Int.reduceEq, valR, k5, g1]
          all_goals (try simp [valR, k5, g1])
      · simp (maxSteps := 1000000) (disch := omega) only [go_sem, ↓reduceIte, Nat.reduceEqDiff]
        have k5 : ¬ v.kind = 5 := by simpa using hx
        rw [condS_some]; refine ⟨fun hx => ?_, fun hx => ?_⟩
        · simp (maxSteps := 1000000) (disch := omega) only [go_sem, ↓reduceIte, Nat.reduceEqDiff]
          have k2 : v.kind = 2 := by simpa using hx
          by_cases hn : v.n = 0
          · by_cases hl : (v.s.length : Int) ≤ 32
            · simp (maxSteps := 1000000) (disch := omega) only [go_sem, ↓reduceIte, Nat.reduceEqDiff, BEq.rfl, hn, hl, k2]
              refine finS_l ?_
              simp (maxSteps := 1000000) (disch := omega) only [go_sem]
              all_goals simp [valR, k2, hn, hl]
            · simp (maxSteps := 1000000) (disch := omega) only [go_sem, ↓reduceIte, Nat.reduceEqDiff, BEq.rfl, hn, hl, k2]
              refine finS_l ?_
              simp (maxSteps := 1000000) (disch := omega) only [go_sem]
              all_goals simp [valR, k2, hn, hl]
          · have hn2 : (v.n == 0) = false := by simpa using hn
            simp (maxSteps := 1000000) (disch := omega) only [go_sem, ↓reduceIte, Nat.reduceEqDiff, BEq.rfl, hn2, k2]
            refine finS_l ?_
            simp (maxSteps := 1000000) (disch := omega) only [go_sem]
            all_goals simp [valR, k2, hn]
        · simp (maxSteps := 1000000) (disch := omega) only [go_sem, ↓reduceIte, Nat.reduceEqDiff]
          have k2 : ¬ v.kind = 2 := by simpa using hx
          have hx2 := hx
          rw [condS_some]; refine ⟨fun hx => ?_, fun hx => ?_⟩
          · simp (maxSteps := 1000000) (disch := omega) only [go_sem, ↓reduceIte, Nat.reduceEqDiff, hx2]
            have k3 : v.kind = 3 := by simpa using hx
            by_cases hn : v.n = 0
            · by_cases hl : (v.s.length : Int) ≤ 32
              · simp (maxSteps := 1000000) (disch := omega) only [go_sem, ↓reduceIte, BEq.rfl, hn, hl]
                refine callS_exact (valid_spec v.s hv.s _) ?_
                simp (maxSteps := 1000000) (disch := omega) only [go_sem, ↓reduceIte, Nat.reduceEqDiff]
                refine finS_l ?_
                simp (maxSteps := 1000000) (disch := omega) only [go_sem]
                all_goals simp [valR, k3, hn, hl]
              · simp (maxSteps := 1000000) (disch := omega) only [go_sem, ↓reduceIte, Nat.reduceEqDiff, BEq.rfl, hn, hl]
                refine finS_l ?_
                simp (maxSteps := 1000000) (disch := omega) only [go_sem, ↓reduceIte]
                all_goals simp [valR, k3, hn, hl]
            · have hn2 : (v.n == 0) = false := by simpa using hn
              simp (maxSteps := 1000000) (disch := omega) only [go_sem, ↓reduceIte, Nat.reduceEqDiff, hn2]
              refine finS_l ?_
              simp (maxSteps := 1000000) (disch := omega) only [go_sem, ↓reduceIte]
              all_goals simp [valR, k3, hn]
          · simp (maxSteps := 1000000) (disch := omega) only [go_sem, ↓reduceIte]
            have k3 : ¬ v.kind = 3 := by simpa using hx
            refine finS_l ?_
            simp (maxSteps := 1000000) (disch := omega) only [go_sem]
            all_goals simp [valR, k1, k2, k3, k4, k5]
end Go.Ab.S2

/- The bridge, part 3: from a contract of the layer to what a row asks. -/
namespace Go.Ab.S2
set_option maxRecDepth 100000
open Go.Ab Go.ChangeShapes Go.WideShapes Go.ChangeAt Go.RowKit

theorem tb_of {W : World} (T : Lib.Utf8Tabs 0 1 W) : ∀ x ∈ TB, (ctx0 W).ok x.1 x.2.1 ∧ W.cell? ⟨x.1, x.2.1, none⟩ = some x.2.2 := by
  have key : ∀ x ∈ TB, W.cell? ⟨x.1, x.2.1, none⟩ = some x.2.2 := by
    obtain ⟨T1, T2⟩ := T
    intro x hx
    rcases List.mem_append.1 hx with hx | hx
    · obtain ⟨c, hc, rfl⟩ := List.mem_map.1 hx
      exact T1 c (by simpa using hc)
    · obtain ⟨j, hj, rfl⟩ := List.mem_map.1 hx
      have hj' : j < 32 := by simpa using hj
      obtain ⟨a, b⟩ := T2 (j / 2) (by omega)
      rcases Nat.mod_two_eq_zero_or_one j with h | h
      · rw [show 2 * (j / 2) = j by omega] at a
        simpa only [h, if_true] using a
      · rw [show 2 * (j / 2) + 1 = j by omega] at b
        rw [if_neg (by omega)]
        exact b
  exact fun x hx => ⟨cell_lt (key x hx), key x hx⟩

theorem hrel0 {W : World} (T : Lib.Utf8Tabs 0 1 W) : HRel (ctx0 W) W [] := by
  refine ⟨fun l o h => by simp at h, fun l l' b s z s' z' h => by simp [ctx0] at h, fun l _ => rfl, fun b j h => h, fun l b s z h => by simp [ctx0] at h, tb_of T⟩

theorem below_of {W W' : World} {C' : Ctx} (s : Step (ctx0 W) W C' W') : Below W.heap.size W W' := ⟨s.os, s.tape, s.output, s.size, fun k hk => s.out k hk (by simp [ctx0])⟩

theorem kidsP : Kids PP (· < PP.types.size) := kids_rows (by kernel_rfl) (by kernel_rfl)
theorem fullP : ∀ t e, t < PP.types.size → PP.underlying t = some (.slice e) → 0 < PP.cellsOf e := slices_full_of PP (by kernel_rfl)

theorem trodAll_carry {H : Type} {enc : TypeId × Go.Value → H} {P : Program} {w w' : World} {base : Nat} {sp : Nat → Bool} {held : Bool} : ∀ {ts : List TypeId} {vs : List Go.Value} {ds : List (DataW H)} {ps : List MemPlace},
    DataW.TrodAll enc P w base sp held ts vs ds ps → (∀ p ∈ ps, w.sameAt w' p) → DataW.TrodAll enc P w' base sp held ts vs ds ps
  | [], [], [], _, h, _ => h
  | _ :: _, _ :: _, _ :: _, _, ⟨p, q, ⟨n, h1⟩, h2, e⟩, hs => ⟨p, q, ⟨n, DataW.trod_carry n _ _ _ h1 fun x hx => hs x (by rw [e]; exact List.mem_append_left _ hx)⟩, trodAll_carry h2 fun x hx => hs x (by rw [e]; exact List.mem_append_right _ hx), e⟩

theorem law_calls {fn : Func} {s : ChangeSpec} {f : FuncId} {H : Type} {enc : TypeId × Go.Value → H} {W : World} {args : Array Go.Value} {ds gs : List (DataW H)} {before : List MemPlace} {avs : List AV}
    (hW : DataW.Whole enc PP fn.params.toList s.vars false W args.toList ds gs before) (hsv : s.vars = []) (hT : ∀ t ∈ fn.params.toList, t < PP.types.size) (hres : fn.resultTypes = #[4])
    (hspec : s.fn H ds = { results := [.lit (.bool true)], args := ds }) (htab : Lib.Utf8Tabs 0 1 W)
    (hrel : vrels (ctx0 W) W avs args.toList) (hA : SpecA PP f avs [] (fun r h' => r = .ret (.bool true) ∧ h' = [])) :
    Calls PP f args W fun e W' => ∃ v, e = .returned v ∧ s.post enc PP fn false true false false W args v W' := by
  have hlt := hW.lt
  have hW' := hW
  obtain ⟨p, q, h1, h2, rfl, -, -⟩ := hW
  rw [hsv] at h2
  obtain ⟨rfl, rfl⟩ := trodVars_none h2
  have hc := hA.2 (ctx0 W) W args.toList (hrel0 htab) hrel
  rw [Array.toArray_toList] at hc
  refine Calls.mono hc ?_
  rintro e W' ⟨C', r, h', S, hH, hv, hR⟩
  obtain ⟨rfl, rfl⟩ := hR
  obtain ⟨y, rfl, hy⟩ := hv
  simp only [vrel] at hy
  subst hy
  have hb := below_of S
  have e1 : s.fn H (ds ++ []) = { results := [.lit (.bool true)], args := ds } := by rw [List.append_nil]; exact hspec
  have hp : ∀ x ∈ p, x.block < W.heap.size := fun x hx => hlt x (by simp [hx])
  refine ⟨_, rfl, ds, [], _, [], p, [], hW', ?_, ?_, ?_, hb.frame _, fun h => by cases h⟩
  · rw [e1, hres]
    exact trodAll_mk1 (shut_bool Go.Proofs.Tryz.underlying4 _)
  · rw [e1]
    exact DataW.TrodAll.respare kidsP fullP hT (trodAll_carry h1 fun x hx => hb.same (hp x hx)) (fun x hx => by simpa using hp x hx)
  · rw [e1, hsv]
    rfl

theorem arg_struct {W : World} {b : Nat} {t : TypeId} {v : Go.Value} {fs : Array Field} {cs : List AV} (ht : PP.underlying t = some (.struct fs)) (hval : Go.Value.okWide PP W .any b t v) (h : vrels (ctx0 W) W cs v.cells.toList) : vrel (ctx0 W) W (.agg cs) v := by
  unfold Go.Value.okWide at hval
  rw [ht] at hval
  obtain ⟨us, rfl, -, -⟩ := hval
  simp only [vrel]
  exact ⟨us, rfl, h⟩

theorem arg_slice {W : World} {b : Nat} {t e : TypeId} {v : Go.Value} {c : AV} (ht : PP.underlying t = some (.slice e)) (hval : Go.Value.okWide PP W .any b t v) (h : vrels (ctx0 W) W [c] v.cells.toList) : vrel (ctx0 W) W c v := by
  obtain ⟨a0, len, cap, rfl⟩ := okWide_slice ht hval
  simp only [Go.Value.cells, vrels] at h
  obtain ⟨y, ys, e1, h1, rfl⟩ := h
  obtain rfl := (List.cons.inj e1).1
  exact h1
end Go.Ab.S2

/- Contracts of functions of the library's package slices at the program's types. -/
namespace Go.Ab.S2
open Go.Ab
set_option maxRecDepth 100000

/-- Where the first is that is so; -1: nowhere. -/
def idx {α : Type} (p : α → Bool) (l : List α) : Int := match l.findIdx? p with
  | some k => k
  | none => -1
theorem idx_any {α : Type} (p : α → Bool) (l : List α) : decide (0 ≤ idx p l) = l.any p := by
  unfold idx
  cases h : l.findIdx? p with
  | none =>
    rw [List.findIdx?_eq_none_iff] at h
    simp; exact h
  | some k =>
    rw [List.findIdx?_eq_some_iff_findIdx_eq] at h
    have := List.findIdx_lt_length.1 (h.2 ▸ h.1)
    simp
    obtain ⟨x, hx, hp⟩ := this
    exact ⟨x, hx, hp⟩
theorem fidx {α : Type} {p : α → Bool} {l pre post : List α} {x : α} (hJ : l.findIdx? p = ((x :: post).findIdx? p).map (· + pre.length)) :
    (p x = true → idx p l = pre.length) ∧ (p x = false → l.findIdx? p = (post.findIdx? p).map (· + (pre ++ [x]).length)) := by
  refine ⟨fun h => ?_, fun h => ?_⟩
  · simp [idx, hJ, List.findIdx?_cons, h]
  · rw [hJ, List.findIdx?_cons, h]
    cases post.findIdx? p <;> simp; omega

theorem indexFunc_Layouted (l : List Layouted) (f : FuncId) (fi ca : List AV) (p : Layouted → Bool) (h : Heap) (hl : l.length < 1099511627776) (hp : ∀ x ∈ l, SpecA PP f (fi ++ (.agg x.e :: ca)) h (fun r h' => r = .ret (.bool (p x)) ∧ h' = h)) :
    SpecA PP N.slices_IndexFunc_api_Layouted_api_Layouted_ [.psl (l.map Layouted.e), .fn f fi ca] h (fun r h' => r = .ret (.int .i64 (idx p l)) ∧ h' = h) := by
  refine spec_of ck_slices_IndexFunc_api_Layouted_api_Layouted_ ?_
  rw [wp_start]
  simp (maxSteps := 1000000) (disch := omega) only [go_sem, ↓reduceIte, Nat.reduceAdd, Nat.reduceEqDiff, Int.reduceNeg, reduceCtorEq, F.slices_IndexFunc_api_Layouted_api_Layouted_]
  refine loopS_list l (fun pre (_ : Unit) => ⟨[(0, .psl (l.map Layouted.e)), (1, .fn f fi ca), (7, .int .i64 l.length), (8, .int .i64 pre.length)], h⟩) (fun pre post _ => l.findIdx? p = (post.findIdx? p).map (· + pre.length)) () rfl (by simp) ?_
  rintro pre post ⟨⟩ hpp hJ
  cases post with
  | nil =>
    simp (maxSteps := 1000000) (disch := omega) only [go_sem, ↓reduceIte, Nat.reduceEqDiff, Int.reduceNeg, reduceCtorEq, nl0 hpp]
    refine finS_l ?_
    simp (maxSteps := 1000000) (disch := omega) only [go_sem, Int.reduceNeg]
    all_goals simp [idx, hJ]
  | cons x post =>
    have hn := nl hpp
    simp (maxSteps := 1000000) (disch := omega) only [go_sem, ↓reduceIte, Nat.reduceEqDiff, Int.reduceNeg, reduceCtorEq, gml Layouted.e hpp, hn]
    refine callS_exact (hp x (by simp [hpp])) ?_
    simp (maxSteps := 1000000) (disch := omega) only [go_sem, ↓reduceIte, Nat.reduceEqDiff, Int.reduceNeg, reduceCtorEq]
    rw [condS_some]; refine ⟨fun hx => ?_, fun hx => ?_⟩
    · simp (maxSteps := 1000000) (disch := omega) only [go_sem, ↓reduceIte, Nat.reduceEqDiff, Int.reduceNeg, reduceCtorEq]
      refine finS_l ?_
      simp (maxSteps := 1000000) (disch := omega) only [go_sem]
      all_goals simp [(fidx hJ).1 hx]
    · simp (maxSteps := 1000000) (disch := omega) only [go_sem, ↓reduceIte, Nat.reduceEqDiff, Int.reduceNeg, reduceCtorEq]
      refine lp_next (h.length + 0) () hpp ((fidx hJ).2 hx) ?_ ?_
      · simp (maxSteps := 1000000) (disch := omega) only [go_sem, ↓reduceIte, Nat.reduceEqDiff, reduceCtorEq, wrap64, Int.natCast_add, Int.cast_ofNat_Int]
      · simp (maxSteps := 1000000) (disch := omega) only [go_sem]
theorem indexFunc_Cell (l : List Cell) (f : FuncId) (fi ca : List AV) (p : Cell → Bool) (h : Heap) (hl : l.length < 1099511627776) (hp : ∀ x ∈ l, SpecA PP f (fi ++ (.agg x.e :: ca)) h (fun r h' => r = .ret (.bool (p x)) ∧ h' = h)) :
    SpecA PP N.slices_IndexFunc_api_Cell_api_Cell_ [.psl (l.map Cell.e), .fn f fi ca] h (fun r h' => r = .ret (.int .i64 (idx p l)) ∧ h' = h) := by
  refine spec_of ck_slices_IndexFunc_api_Cell_api_Cell_ ?_
  rw [wp_start]
  simp (maxSteps := 1000000) (disch := omega) only [go_sem, ↓reduceIte, Nat.reduceAdd, Nat.reduceEqDiff, Int.reduceNeg, reduceCtorEq, F.slices_IndexFunc_api_Cell_api_Cell_]
  refine loopS_list l (fun pre (_ : Unit) => ⟨[(0, .psl (l.map Cell.e)), (1, .fn f fi ca), (7, .int .i64 l.length), (8, .int .i64 pre.length)], h⟩) (fun pre post _ => l.findIdx? p = (post.findIdx? p).map (· + pre.length)) () rfl (by simp) ?_
  rintro pre post ⟨⟩ hpp hJ
  cases post with
  | nil =>
    simp (maxSteps := 1000000) (disch := omega) only [go_sem, ↓reduceIte, Nat.reduceEqDiff, Int.reduceNeg, reduceCtorEq, nl0 hpp]
    refine finS_l ?_
    simp (maxSteps := 1000000) (disch := omega) only [go_sem, Int.reduceNeg]
    all_goals simp [idx, hJ]
  | cons x post =>
    have hn := nl hpp
    simp (maxSteps := 1000000) (disch := omega) only [go_sem, ↓reduceIte, Nat.reduceEqDiff, Int.reduceNeg, reduceCtorEq, gml Cell.e hpp, hn]
    refine callS_exact (hp x (by simp [hpp])) ?_
    simp (maxSteps := 1000000) (disch := omega) only [go_sem, ↓reduceIte, Nat.reduceEqDiff, Int.reduceNeg, reduceCtorEq]
    rw [condS_some]; refine ⟨fun hx => ?_, fun hx => ?_⟩
    · simp (maxSteps := 1000000) (disch := omega) only [go_sem, ↓reduceIte, Nat.reduceEqDiff, Int.reduceNeg, reduceCtorEq]
      refine finS_l ?_
      simp (maxSteps := 1000000) (disch := omega) only [go_sem]
      all_goals simp [(fidx hJ).1 hx]
    · simp (maxSteps := 1000000) (disch := omega) only [go_sem, ↓reduceIte, Nat.reduceEqDiff, Int.reduceNeg, reduceCtorEq]
      refine lp_next (h.length + 0) () hpp ((fidx hJ).2 hx) ?_ ?_
      · simp (maxSteps := 1000000) (disch := omega) only [go_sem, ↓reduceIte, Nat.reduceEqDiff, reduceCtorEq, wrap64, Int.natCast_add, Int.cast_ofNat_Int]
      · simp (maxSteps := 1000000) (disch := omega) only [go_sem]
theorem indexFunc_Layout (l : List Layout) (f : FuncId) (fi ca : List AV) (p : Layout → Bool) (h : Heap) (hl : l.length < 1099511627776) (hp : ∀ x ∈ l, SpecA PP f (fi ++ (.agg x.e :: ca)) h (fun r h' => r = .ret (.bool (p x)) ∧ h' = h)) :
    SpecA PP N.slices_IndexFunc_api_Layout_api_Layout_ [.psl (l.map Layout.e), .fn f fi ca] h (fun r h' => r = .ret (.int .i64 (idx p l)) ∧ h' = h) := by
  refine spec_of ck_slices_IndexFunc_api_Layout_api_Layout_ ?_
  rw [wp_start]
  simp (maxSteps := 1000000) (disch := omega) only [go_sem, ↓reduceIte, Nat.reduceAdd, Nat.reduceEqDiff, Int.reduceNeg, reduceCtorEq, F.slices_IndexFunc_api_Layout_api_Layout_]
  refine loopS_list l (fun pre (_ : Unit) => ⟨[(0, .psl (l.map Layout.e)), (1, .fn f fi ca), (7, .int .i64 l.length), (8, .int .i64 pre.length)], h⟩) (fun pre post _ => l.findIdx? p = (post.findIdx? p).map (· + pre.length)) () rfl (by simp) ?_
  rintro pre post ⟨⟩ hpp hJ
  cases post with
  | nil =>
    simp (maxSteps := 1000000) (disch := omega) only [go_sem, ↓reduceIte, Nat.reduceEqDiff, Int.reduceNeg, reduceCtorEq, nl0 hpp]
    refine finS_l ?_
    simp (maxSteps := 1000000) (disch := omega) only [go_sem, Int.reduceNeg]
    all_goals simp [idx, hJ]
  | cons x post =>
    have hn := nl hpp
    simp (maxSteps := 1000000) (disch := omega) only [go_sem, ↓reduceIte, Nat.reduceEqDiff, Int.reduceNeg, reduceCtorEq, gml Layout.e hpp, hn]
    refine callS_exact (hp x (by simp [hpp])) ?_
    simp (maxSteps := 1000000) (disch := omega) only [go_sem, ↓reduceIte, Nat.reduceEqDiff, Int.reduceNeg, reduceCtorEq]
    rw [condS_some]; refine ⟨fun hx => ?_, fun hx => ?_⟩
    · simp (maxSteps := 1000000) (disch := omega) only [go_sem, ↓reduceIte, Nat.reduceEqDiff, Int.reduceNeg, reduceCtorEq]
      refine finS_l ?_
      simp (maxSteps := 1000000) (disch := omega) only [go_sem]
      all_goals simp [(fidx hJ).1 hx]
    · simp (maxSteps := 1000000) (disch := omega) only [go_sem, ↓reduceIte, Nat.reduceEqDiff, Int.reduceNeg, reduceCtorEq]
      refine lp_next (h.length + 0) () hpp ((fidx hJ).2 hx) ?_ ?_
      · simp (maxSteps := 1000000) (disch := omega) only [go_sem, ↓reduceIte, Nat.reduceEqDiff, reduceCtorEq, wrap64, Int.natCast_add, Int.cast_ofNat_Int]
      · simp (maxSteps := 1000000) (disch := omega) only [go_sem]
theorem indexFunc_Family (l : List Family) (f : FuncId) (fi ca : List AV) (p : Family → Bool) (h : Heap) (hl : l.length < 1099511627776) (hp : ∀ x ∈ l, SpecA PP f (fi ++ (.agg x.e :: ca)) h (fun r h' => r = .ret (.bool (p x)) ∧ h' = h)) :
    SpecA PP N.slices_IndexFunc_api_Family_api_Family_ [.psl (l.map Family.e), .fn f fi ca] h (fun r h' => r = .ret (.int .i64 (idx p l)) ∧ h' = h) := by
  refine spec_of ck_slices_IndexFunc_api_Family_api_Family_ ?_
  rw [wp_start]
  simp (maxSteps := 1000000) (disch := omega) only [go_sem, ↓reduceIte, Nat.reduceAdd, Nat.reduceEqDiff, Int.reduceNeg, reduceCtorEq, F.slices_IndexFunc_api_Family_api_Family_]
  refine loopS_list l (fun pre (_ : Unit) => ⟨[(0, .psl (l.map Family.e)), (1, .fn f fi ca), (7, .int .i64 l.length), (8, .int .i64 pre.length)], h⟩) (fun pre post _ => l.findIdx? p = (post.findIdx? p).map (· + pre.length)) () rfl (by simp) ?_
  rintro pre post ⟨⟩ hpp hJ
  cases post with
  | nil =>
    simp (maxSteps := 1000000) (disch := omega) only [go_sem, ↓reduceIte, Nat.reduceEqDiff, Int.reduceNeg, reduceCtorEq, nl0 hpp]
    refine finS_l ?_
    simp (maxSteps := 1000000) (disch := omega) only [go_sem, Int.reduceNeg]
    all_goals simp [idx, hJ]
  | cons x post =>
    have hn := nl hpp
    simp (maxSteps := 1000000) (disch := omega) only [go_sem, ↓reduceIte, Nat.reduceEqDiff, Int.reduceNeg, reduceCtorEq, gml Family.e hpp, hn]
    refine callS_exact (hp x (by simp [hpp])) ?_
    simp (maxSteps := 1000000) (disch := omega) only [go_sem, ↓reduceIte, Nat.reduceEqDiff, Int.reduceNeg, reduceCtorEq]
    rw [condS_some]; refine ⟨fun hx => ?_, fun hx => ?_⟩
    · simp (maxSteps := 1000000) (disch := omega) only [go_sem, ↓reduceIte, Nat.reduceEqDiff, Int.reduceNeg, reduceCtorEq]
      refine finS_l ?_
      simp (maxSteps := 1000000) (disch := omega) only [go_sem]
      all_goals simp [(fidx hJ).1 hx]
    · simp (maxSteps := 1000000) (disch := omega) only [go_sem, ↓reduceIte, Nat.reduceEqDiff, Int.reduceNeg, reduceCtorEq]
      refine lp_next (h.length + 0) () hpp ((fidx hJ).2 hx) ?_ ?_
      · simp (maxSteps := 1000000) (disch := omega) only [go_sem, ↓reduceIte, Nat.reduceEqDiff, reduceCtorEq, wrap64, Int.natCast_add, Int.cast_ofNat_Int]
      · simp (maxSteps := 1000000) (disch := omega) only [go_sem]
theorem indexFunc_Column (l : List Column) (f : FuncId) (fi ca : List AV) (p : Column → Bool) (h : Heap) (hl : l.length < 1099511627776) (hp : ∀ x ∈ l, SpecA PP f (fi ++ (.agg x.e :: ca)) h (fun r h' => r = .ret (.bool (p x)) ∧ h' = h)) :
    SpecA PP N.slices_IndexFunc_api_Column_api_Column_ [.psl (l.map Column.e), .fn f fi ca] h (fun r h' => r = .ret (.int .i64 (idx p l)) ∧ h' = h) := by
  refine spec_of ck_slices_IndexFunc_api_Column_api_Column_ ?_
  rw [wp_start]
  simp (maxSteps := 1000000) (disch := omega) only [go_sem, ↓reduceIte, Nat.reduceAdd, Nat.reduceEqDiff, Int.reduceNeg, reduceCtorEq, F.slices_IndexFunc_api_Column_api_Column_]
  refine loopS_list l (fun pre (_ : Unit) => ⟨[(0, .psl (l.map Column.e)), (1, .fn f fi ca), (7, .int .i64 l.length), (8, .int .i64 pre.length)], h⟩) (fun pre post _ => l.findIdx? p = (post.findIdx? p).map (· + pre.length)) () rfl (by simp) ?_
  rintro pre post ⟨⟩ hpp hJ
  cases post with
  | nil =>
    simp (maxSteps := 1000000) (disch := omega) only [go_sem, ↓reduceIte, Nat.reduceEqDiff, Int.reduceNeg, reduceCtorEq, nl0 hpp]
    refine finS_l ?_
    simp (maxSteps := 1000000) (disch := omega) only [go_sem, Int.reduceNeg]
    all_goals simp [idx, hJ]
  | cons x post =>
    have hn := nl hpp
    simp (maxSteps := 1000000) (disch := omega) only [go_sem, ↓reduceIte, Nat.reduceEqDiff, Int.reduceNeg, reduceCtorEq, gml Column.e hpp, hn]
    refine callS_exact (hp x (by simp [hpp])) ?_
    simp (maxSteps := 1000000) (disch := omega) only [go_sem, ↓reduceIte, Nat.reduceEqDiff, Int.reduceNeg, reduceCtorEq]
    rw [condS_some]; refine ⟨fun hx => ?_, fun hx => ?_⟩
    · simp (maxSteps := 1000000) (disch := omega) only [go_sem, ↓reduceIte, Nat.reduceEqDiff, Int.reduceNeg, reduceCtorEq]
      refine finS_l ?_
      simp (maxSteps := 1000000) (disch := omega) only [go_sem]
      all_goals simp [(fidx hJ).1 hx]
    · simp (maxSteps := 1000000) (disch := omega) only [go_sem, ↓reduceIte, Nat.reduceEqDiff, Int.reduceNeg, reduceCtorEq]
      refine lp_next (h.length + 0) () hpp ((fidx hJ).2 hx) ?_ ?_
      · simp (maxSteps := 1000000) (disch := omega) only [go_sem, ↓reduceIte, Nat.reduceEqDiff, reduceCtorEq, wrap64, Int.natCast_add, Int.cast_ofNat_Int]
      · simp (maxSteps := 1000000) (disch := omega) only [go_sem]
theorem indexFunc_Mut (l : List Mut) (f : FuncId) (fi ca : List AV) (p : Mut → Bool) (h : Heap) (hl : l.length < 1099511627776) (hp : ∀ x ∈ l, SpecA PP f (fi ++ (.agg x.e :: ca)) h (fun r h' => r = .ret (.bool (p x)) ∧ h' = h)) :
    SpecA PP N.slices_IndexFunc_api_Mut_api_Mut_ [.psl (l.map Mut.e), .fn f fi ca] h (fun r h' => r = .ret (.int .i64 (idx p l)) ∧ h' = h) := by
  refine spec_of ck_slices_IndexFunc_api_Mut_api_Mut_ ?_
  rw [wp_start]
  simp (maxSteps := 1000000) (disch := omega) only [go_sem, ↓reduceIte, Nat.reduceAdd, Nat.reduceEqDiff, Int.reduceNeg, reduceCtorEq, F.slices_IndexFunc_api_Mut_api_Mut_]
  refine loopS_list l (fun pre (_ : Unit) => ⟨[(0, .psl (l.map Mut.e)), (1, .fn f fi ca), (7, .int .i64 l.length), (8, .int .i64 pre.length)], h⟩) (fun pre post _ => l.findIdx? p = (post.findIdx? p).map (· + pre.length)) () rfl (by simp) ?_
  rintro pre post ⟨⟩ hpp hJ
  cases post with
  | nil =>
    simp (maxSteps := 1000000) (disch := omega) only [go_sem, ↓reduceIte, Nat.reduceEqDiff, Int.reduceNeg, reduceCtorEq, nl0 hpp]
    refine finS_l ?_
    simp (maxSteps := 1000000) (disch := omega) only [go_sem, Int.reduceNeg]
    all_goals simp [idx, hJ]
  | cons x post =>
    have hn := nl hpp
    simp (maxSteps := 1000000) (disch := omega) only [go_sem, ↓reduceIte, Nat.reduceEqDiff, Int.reduceNeg, reduceCtorEq, gml Mut.e hpp, hn]
    refine callS_exact (hp x (by simp [hpp])) ?_
    simp (maxSteps := 1000000) (disch := omega) only [go_sem, ↓reduceIte, Nat.reduceEqDiff, Int.reduceNeg, reduceCtorEq]
    rw [condS_some]; refine ⟨fun hx => ?_, fun hx => ?_⟩
    · simp (maxSteps := 1000000) (disch := omega) only [go_sem, ↓reduceIte, Nat.reduceEqDiff, Int.reduceNeg, reduceCtorEq]
      refine finS_l ?_
      simp (maxSteps := 1000000) (disch := omega) only [go_sem]
      all_goals simp [(fidx hJ).1 hx]
    · simp (maxSteps := 1000000) (disch := omega) only [go_sem, ↓reduceIte, Nat.reduceEqDiff, Int.reduceNeg, reduceCtorEq]
      refine lp_next (h.length + 0) () hpp ((fidx hJ).2 hx) ?_ ?_
      · simp (maxSteps := 1000000) (disch := omega) only [go_sem, ↓reduceIte, Nat.reduceEqDiff, reduceCtorEq, wrap64, Int.natCast_add, Int.cast_ofNat_Int]
      · simp (maxSteps := 1000000) (disch := omega) only [go_sem]
theorem indexFunc_Str (l : List Str) (f : FuncId) (fi ca : List AV) (p : Str → Bool) (h : Heap) (hl : l.length < 1099511627776) (hp : ∀ x ∈ l, SpecA PP f (fi ++ (.str x :: ca)) h (fun r h' => r = .ret (.bool (p x)) ∧ h' = h)) :
    SpecA PP N.slices_IndexFunc_string_string_ [.psl (strs l), .fn f fi ca] h (fun r h' => r = .ret (.int .i64 (idx p l)) ∧ h' = h) := by
  refine spec_of ck_slices_IndexFunc_string_string_ ?_
  rw [wp_start]
  simp (maxSteps := 1000000) (disch := omega) only [go_sem, ↓reduceIte, Nat.reduceAdd, Nat.reduceEqDiff, Int.reduceNeg, reduceCtorEq, F.slices_IndexFunc_string_string_]
  refine loopS_list l (fun pre (_ : Unit) => ⟨[(0, .psl (strs l)), (1, .fn f fi ca), (7, .int .i64 l.length), (8, .int .i64 pre.length)], h⟩) (fun pre post _ => l.findIdx? p = (post.findIdx? p).map (· + pre.length)) () rfl (by simp) ?_
  rintro pre post ⟨⟩ hpp hJ
  cases post with
  | nil =>
    simp (maxSteps := 1000000) (disch := omega) only [go_sem, ↓reduceIte, Nat.reduceEqDiff, Int.reduceNeg, reduceCtorEq, nl0 hpp]
    refine finS_l ?_
    simp (maxSteps := 1000000) (disch := omega) only [go_sem, Int.reduceNeg]
    all_goals simp [idx, hJ]
  | cons x post =>
    have hn := nl hpp
    simp (maxSteps := 1000000) (disch := omega) only [go_sem, ↓reduceIte, Nat.reduceEqDiff, Int.reduceNeg, reduceCtorEq, gstrs hpp, hn]
    refine callS_exact (hp x (by simp [hpp])) ?_
    simp (maxSteps := 1000000) (disch := omega) only [go_sem, ↓reduceIte, Nat.reduceEqDiff, Int.reduceNeg, reduceCtorEq]
    rw [condS_some]; refine ⟨fun hx => ?_, fun hx => ?_⟩
    · simp (maxSteps := 1000000) (disch := omega) only [go_sem, ↓reduceIte, Nat.reduceEqDiff, Int.reduceNeg, reduceCtorEq]
      refine finS_l ?_
      simp (maxSteps := 1000000) (disch := omega) only [go_sem]
      all_goals simp [(fidx hJ).1 hx]
    · simp (maxSteps := 1000000) (disch := omega) only [go_sem, ↓reduceIte, Nat.reduceEqDiff, Int.reduceNeg, reduceCtorEq]
      refine lp_next (h.length + 0) () hpp ((fidx hJ).2 hx) ?_ ?_
      · simp (maxSteps := 1000000) (disch := omega) only [go_sem, ↓reduceIte, Nat.reduceEqDiff, reduceCtorEq, wrap64, Int.natCast_add, Int.cast_ofNat_Int]
      · simp (maxSteps := 1000000) (disch := omega) only [go_sem]

theorem containsFunc_Cell (l : List Cell) (f : FuncId) (fi ca : List AV) (p : Cell → Bool) (h : Heap) (hl : l.length < 1099511627776) (hp : ∀ x ∈ l, SpecA PP f (fi ++ (.agg x.e :: ca)) h (fun r h' => r = .ret (.bool (p x)) ∧ h' = h)) :
    SpecA PP N.slices_ContainsFunc_api_Cell_api_Cell_ [.psl (l.map Cell.e), .fn f fi ca] h (fun r h' => r = .ret (.bool (l.any p)) ∧ h' = h) := by
  refine spec_of ck_slices_ContainsFunc_api_Cell_api_Cell_ ?_
  rw [wp_start]
  simp (maxSteps := 1000000) (disch := omega) only [go_sem, ↓reduceIte, Nat.reduceAdd, Nat.reduceEqDiff, reduceCtorEq, F.slices_ContainsFunc_api_Cell_api_Cell_]
  refine callS_exact (indexFunc_Cell l f fi ca p h hl hp) ?_
  simp (maxSteps := 1000000) (disch := omega) only [go_sem, ↓reduceIte]
  refine finS_l ?_
  simp (maxSteps := 1000000) (disch := omega) only [go_sem]
  all_goals simp [idx_any]
theorem containsFunc_Family (l : List Family) (f : FuncId) (fi ca : List AV) (p : Family → Bool) (h : Heap) (hl : l.length < 1099511627776) (hp : ∀ x ∈ l, SpecA PP f (fi ++ (.agg x.e :: ca)) h (fun r h' => r = .ret (.bool (p x)) ∧ h' = h)) :
    SpecA PP N.slices_ContainsFunc_api_Family_api_Family_ [.psl (l.map Family.e), .fn f fi ca] h (fun r h' => r = .ret (.bool (l.any p)) ∧ h' = h) := by
  refine spec_of ck_slices_ContainsFunc_api_Family_api_Family_ ?_
  rw [wp_start]
  simp (maxSteps := 1000000) (disch := omega) only [go_sem, ↓reduceIte, Nat.reduceAdd, Nat.reduceEqDiff, reduceCtorEq, F.slices_ContainsFunc_api_Family_api_Family_]
  refine callS_exact (indexFunc_Family l f fi ca p h hl hp) ?_
  simp (maxSteps := 1000000) (disch := omega) only [go_sem, ↓reduceIte]
  refine finS_l ?_
  simp (maxSteps := 1000000) (disch := omega) only [go_sem]
  all_goals simp [idx_any]
theorem containsFunc_Column (l : List Column) (f : FuncId) (fi ca : List AV) (p : Column → Bool) (h : Heap) (hl : l.length < 1099511627776) (hp : ∀ x ∈ l, SpecA PP f (fi ++ (.agg x.e :: ca)) h (fun r h' => r = .ret (.bool (p x)) ∧ h' = h)) :
    SpecA PP N.slices_ContainsFunc_api_Column_api_Column_ [.psl (l.map Column.e), .fn f fi ca] h (fun r h' => r = .ret (.bool (l.any p)) ∧ h' = h) := by
  refine spec_of ck_slices_ContainsFunc_api_Column_api_Column_ ?_
  rw [wp_start]
  simp (maxSteps := 1000000) (disch := omega) only [go_sem, ↓reduceIte, Nat.reduceAdd, Nat.reduceEqDiff, reduceCtorEq, F.slices_ContainsFunc_api_Column_api_Column_]
  refine callS_exact (indexFunc_Column l f fi ca p h hl hp) ?_
  simp (maxSteps := 1000000) (disch := omega) only [go_sem, ↓reduceIte]
  refine finS_l ?_
  simp (maxSteps := 1000000) (disch := omega) only [go_sem]
  all_goals simp [idx_any]
theorem containsFunc_Mut (l : List Mut) (f : FuncId) (fi ca : List AV) (p : Mut → Bool) (h : Heap) (hl : l.length < 1099511627776) (hp : ∀ x ∈ l, SpecA PP f (fi ++ (.agg x.e :: ca)) h (fun r h' => r = .ret (.bool (p x)) ∧ h' = h)) :
    SpecA PP N.slices_ContainsFunc_api_Mut_api_Mut_ [.psl (l.map Mut.e), .fn f fi ca] h (fun r h' => r = .ret (.bool (l.any p)) ∧ h' = h) := by
  refine spec_of ck_slices_ContainsFunc_api_Mut_api_Mut_ ?_
  rw [wp_start]
  simp (maxSteps := 1000000) (disch := omega) only [go_sem, ↓reduceIte, Nat.reduceAdd, Nat.reduceEqDiff, reduceCtorEq, F.slices_ContainsFunc_api_Mut_api_Mut_]
  refine callS_exact (indexFunc_Mut l f fi ca p h hl hp) ?_
  simp (maxSteps := 1000000) (disch := omega) only [go_sem, ↓reduceIte]
  refine finS_l ?_
  simp (maxSteps := 1000000) (disch := omega) only [go_sem]
  all_goals simp [idx_any]
theorem containsFunc_Str (l : List Str) (f : FuncId) (fi ca : List AV) (p : Str → Bool) (h : Heap) (hl : l.length < 1099511627776) (hp : ∀ x ∈ l, SpecA PP f (fi ++ (.str x :: ca)) h (fun r h' => r = .ret (.bool (p x)) ∧ h' = h)) :
    SpecA PP N.slices_ContainsFunc_string_string_ [.psl (strs l), .fn f fi ca] h (fun r h' => r = .ret (.bool (l.any p)) ∧ h' = h) := by
  refine spec_of ck_slices_ContainsFunc_string_string_ ?_
  rw [wp_start]
  simp (maxSteps := 1000000) (disch := omega) only [go_sem, ↓reduceIte, Nat.reduceAdd, Nat.reduceEqDiff, reduceCtorEq, F.slices_ContainsFunc_string_string_]
  refine callS_exact (indexFunc_Str l f fi ca p h hl hp) ?_
  simp (maxSteps := 1000000) (disch := omega) only [go_sem, ↓reduceIte]
  refine finS_l ?_
  simp (maxSteps := 1000000) (disch := omega) only [go_sem]
  all_goals simp [idx_any]

theorem index_str (l : List Str) (v : Str) (hl : l.length < 1099511627776) : Ans N.slices_Index_string_string_ [.psl (strs l), .str v] (.int .i64 (idx (fun x => v == x) l)) := by
  intro h
  refine spec_of ck_slices_Index_string_string_ ?_
  rw [wp_start]
  simp (maxSteps := 1000000) (disch := omega) only [go_sem, ↓reduceIte, Nat.reduceAdd, Nat.reduceEqDiff, Int.reduceNeg, reduceCtorEq, F.slices_Index_string_string_]
  refine loopS_list l (fun pre (_ : Unit) => ⟨[(0, .psl (strs l)), (1, .str v), (7, .int .i64 l.length), (8, .int .i64 pre.length)], h⟩) (fun pre post _ => l.findIdx? (fun x => v == x) = (post.findIdx? (fun x => v == x)).map (· + pre.length)) () rfl (by simp) ?_
  rintro pre post ⟨⟩ hpp hJ
  cases post with
  | nil =>
    simp (maxSteps := 1000000) (disch := omega) only [go_sem, ↓reduceIte, Nat.reduceEqDiff, Int.reduceNeg, reduceCtorEq, nl0 hpp]
    refine finS_l ?_
    simp (maxSteps := 1000000) (disch := omega) only [go_sem, Int.reduceNeg]
    all_goals simp [idx, hJ]
  | cons x post =>
    have hn := nl hpp
    simp (maxSteps := 1000000) (disch := omega) only [go_sem, ↓reduceIte, Nat.reduceEqDiff, Int.reduceNeg, reduceCtorEq, gstrs hpp, hn]
    rw [condS_some]; refine ⟨fun hx => ?_, fun hx => ?_⟩
    · simp (maxSteps := 1000000) (disch := omega) only [go_sem, ↓reduceIte, Nat.reduceEqDiff, Int.reduceNeg, reduceCtorEq]
      refine finS_l ?_
      simp (maxSteps := 1000000) (disch := omega) only [go_sem]
      all_goals simp [(fidx hJ).1 hx]
    · simp (maxSteps := 1000000) (disch := omega) only [go_sem, ↓reduceIte, Nat.reduceEqDiff, Int.reduceNeg, reduceCtorEq]
      refine lp_next (h.length + 0) () hpp ((fidx hJ).2 hx) ?_ ?_
      · simp (maxSteps := 1000000) (disch := omega) only [go_sem, ↓reduceIte, Nat.reduceEqDiff, reduceCtorEq, wrap64, Int.natCast_add, Int.cast_ofNat_Int]
      · simp (maxSteps := 1000000) (disch := omega) only [go_sem]

theorem contains_str (l : List Str) (v : Str) (hl : l.length < 1099511627776) : Ans N.slices_Contains_string_string_ [.psl (strs l), .str v] (.bool (l.any fun x => v == x)) := by
  intro h
  refine spec_of ck_slices_Contains_string_string_ ?_
  rw [wp_start]
  simp (maxSteps := 1000000) (disch := omega) only [go_sem, ↓reduceIte, Nat.reduceAdd, Nat.reduceEqDiff, reduceCtorEq, F.slices_Contains_string_string_]
  refine callS_exact (index_str l v hl h) ?_
  simp (maxSteps := 1000000) (disch := omega) only [go_sem, ↓reduceIte]
  refine finS_l ?_
  simp (maxSteps := 1000000) (disch := omega) only [go_sem]
  all_goals simp [idx_any]

theorem clone_Layout (l : List Layout) (hl : l.length < 1099511627776) : Ans N.slices_Clone_api_Layout_api_Layout_ [.psl (l.map Layout.e)] (.psl (l.map Layout.e)) := by
  intro h
  refine spec_of ck_slices_Clone_api_Layout_api_Layout_ ?_
  rw [wp_start]
  simp (maxSteps := 1000000) (disch := omega) only [go_sem, ↓reduceIte, reduceCtorEq, F.slices_Clone_api_Layout_api_Layout_]
  refine fun b hb => ?_
  cases b with
  | true =>
    have e : l = [] := by
      cases l with
      | nil => rfl
      | cons x l => exact absurd (hb (by simp)) (by simp)
    subst e
    simp (maxSteps := 1000000) (disch := omega) only [go_sem, ↓reduceIte]
    refine finS_l ?_
    simp (maxSteps := 1000000) (disch := omega) only [go_sem]
    all_goals simp [strs]
  | false =>
    simp (maxSteps := 1000000) (disch := omega) only [go_sem, ↓reduceIte, Nat.reduceMul, reduceCtorEq]
    refine fun s => ⟨by omega, fun s2 => ?_⟩
    refine finS_l ?_
    simp (maxSteps := 1000000) (disch := omega) only [go_sem, ↓reduceIte]
    all_goals simp []
theorem clone_Column (l : List Column) (hl : l.length < 1099511627776) : Ans N.slices_Clone_api_Column_api_Column_ [.psl (l.map Column.e)] (.psl (l.map Column.e)) := by
  intro h
  refine spec_of ck_slices_Clone_api_Column_api_Column_ ?_
  rw [wp_start]
  simp (maxSteps := 1000000) (disch := omega) only [go_sem, ↓reduceIte, reduceCtorEq, F.slices_Clone_api_Column_api_Column_]
  refine fun b hb => ?_
  cases b with
  | true =>
    have e : l = [] := by
      cases l with
      | nil => rfl
      | cons x l => exact absurd (hb (by simp)) (by simp)
    subst e
    simp (maxSteps := 1000000) (disch := omega) only [go_sem, ↓reduceIte]
    refine finS_l ?_
    simp (maxSteps := 1000000) (disch := omega) only [go_sem]
    all_goals simp [strs]
  | false =>
    simp (maxSteps := 1000000) (disch := omega) only [go_sem, ↓reduceIte, Nat.reduceMul, reduceCtorEq]
    refine fun s => ⟨by omega, fun s2 => ?_⟩
    refine finS_l ?_
    simp (maxSteps := 1000000) (disch := omega) only [go_sem, ↓reduceIte]
    all_goals simp []
theorem clone_Mut (l : List Mut) (hl : l.length < 1099511627776) : Ans N.slices_Clone_api_Mut_api_Mut_ [.psl (l.map Mut.e)] (.psl (l.map Mut.e)) := by
  intro h
  refine spec_of ck_slices_Clone_api_Mut_api_Mut_ ?_
  rw [wp_start]
  simp (maxSteps := 1000000) (disch := omega) only [go_sem, ↓reduceIte, reduceCtorEq, F.slices_Clone_api_Mut_api_Mut_]
  refine fun b hb => ?_
  cases b with
  | true =>
    have e : l = [] := by
      cases l with
      | nil => rfl
      | cons x l => exact absurd (hb (by simp)) (by simp)
    subst e
    simp (maxSteps := 1000000) (disch := omega) only [go_sem, ↓reduceIte]
    refine finS_l ?_
    simp (maxSteps := 1000000) (disch := omega) only [go_sem]
    all_goals simp [strs]
  | false =>
    simp (maxSteps := 1000000) (disch := omega) only [go_sem, ↓reduceIte, Nat.reduceMul, reduceCtorEq]
    refine fun s => ⟨by omega, fun s2 => ?_⟩
    refine finS_l ?_
    simp (maxSteps := 1000000) (disch := omega) only [go_sem, ↓reduceIte]
    all_goals simp []
theorem clone_Str (l : List Str) (hl : l.length < 1099511627776) : Ans N.slices_Clone_string_string_ [.psl (strs l)] (.psl (strs l)) := by
  intro h
  refine spec_of ck_slices_Clone_string_string_ ?_
  rw [wp_start]
  simp (maxSteps := 1000000) (disch := omega) only [go_sem, ↓reduceIte, reduceCtorEq, F.slices_Clone_string_string_]
  refine fun b hb => ?_
  cases b with
  | true =>
    have e : l = [] := by
      cases l with
      | nil => rfl
      | cons x l => exact absurd (hb (by simp)) (by simp)
    subst e
    simp (maxSteps := 1000000) (disch := omega) only [go_sem, ↓reduceIte]
    refine finS_l ?_
    simp (maxSteps := 1000000) (disch := omega) only [go_sem]
    all_goals simp [strs]
  | false =>
    simp (maxSteps := 1000000) (disch := omega) only [go_sem, ↓reduceIte, Nat.reduceMul, reduceCtorEq]
    refine fun s => ⟨by omega, fun s2 => ?_⟩
    refine finS_l ?_
    simp (maxSteps := 1000000) (disch := omega) only [go_sem, ↓reduceIte]
    all_goals simp []
end Go.Ab.S2

/- Contracts of the document's schema (joistref14), whether it is right. -/
namespace Go.Ab.S2
open Go.Ab
set_option maxRecDepth 100000

def fam0 (f : Family) : Bool := !nameR f.name || decide (f.versions < 1) || decide (8 < f.versions) || decide (f.life < 0) || decide (1099511627776 < f.life) || decide ((f.layouts.length : Int) < 1) || decide (2 < (f.layouts.length : Int)) || decide (8 < (f.cols.length : Int))
def layBad (g : Int) (i : Nat) (l : Layout) : Bool := decide (l.group < 0) || decide (2 < l.group) || decide (l.state < 1) || decide (3 < l.state) || (decide (0 < (i : Int)) && l.group == g)
def layOk (g : Int) : Nat → List Layout → Bool
  | _, [] => true
  | i, l :: r => !layBad g i l && layOk g (i + 1) r
def colBad (c : Column) : Bool := decide (12 < (c.qual.length : Int)) || decide (c.kind < 1) || decide (5 < c.kind) || decide (c.state < 1) || decide (3 < c.state)
def colsOk : List Column → List Column → Bool
  | _, [] => true
  | p, c :: r => !colBad c && !(p.any fun d => d.qual == c.qual) && colsOk (p ++ [c]) r
def famR (f : Family) : Bool := !fam0 f && layOk ((f.layouts[0]?.map Layout.group).getD 0) 0 f.layouts && colsOk [] f.cols && decide (f.layouts.countP (fun l => l.state == 3) < 2)

theorem family14_spec (f : Family) (hf : f.wf) : Ans N.joistref14_Family [.agg f.e] (.bool (famR f)) := by
  intro h
  refine spec_of ck_joistref14_Family ?_
  rw [wp_start]
  simp (maxSteps := 1000000) (disch := omega) only [go_sem, ↓reduceIte, F.joistref14_Family]
  intro s1
  refine callS_exact (name_spec _ hf.name _) ?_
  simp (maxSteps := 1000000) (disch := omega) only [go_sem, ↓reduceIte, Nat.reduceEqDiff]
  have hl := hf.lays
  have hc := hf.cols
  rw [condS_some]; refine ⟨fun hx => ?_, fun hx => ?_⟩
  · simp (maxSteps := 1000000) (disch := omega) only [go_sem, ↓reduceIte]
    have hx : fam0 f = true := hx
    refine finS_l ?_
    simp (maxSteps := 1000000) (disch := omega) only [go_sem]
    all_goals simp [famR, hx]
  · simp (maxSteps := 1000000) (disch := omega) only [go_sem, ↓reduceIte, Nat.reduceEqDiff]
    have hx : fam0 f = false := hx
    have hlay : 0 < f.layouts.length := by
      simp only [fam0, Bool.or_eq_false_iff, decide_eq_false_iff_not] at hx
      omega
    obtain ⟨l0, hl0⟩ := getlt hlay
    have key : famR f = (layOk l0.group 0 f.layouts && colsOk [] f.cols && decide (f.layouts.countP (fun l => l.state == 3) < 2)) := by simp [famR, hx, hl0]
    refine loopS_list f.layouts (fun pre (_ : Unit) => ⟨[(1, .ptr h.length s1 0 0), (3, .int .i64 (pre.countP fun l => l.state == 3)), (4, .int .i64 pre.length)], h ++ [.arr s1 0 5 [f.e]]⟩) (fun pre post _ => layOk l0.group 0 f.layouts = layOk l0.group pre.length post) () rfl rfl ?_
    rintro pre post ⟨⟩ hpp hJ
    have hcp : (pre.countP fun l => l.state == 3) ≤ pre.length := List.countP_le_length
    cases post with
    | nil =>
      have hn := nl0 hpp
      simp only [List.append_nil] at hpp
      simp (maxSteps := 1000000) (disch := omega) only [go_sem, ↓reduceIte, Nat.reduceEqDiff, hn]
      refine loopS_list f.cols (fun pre2 (_ : Unit) => ⟨[(1, .ptr h.length s1 0 0), (3, .int .i64 (pre.countP fun l => l.state == 3)), (6, .int .i64 pre2.length)], h ++ [.arr s1 0 5 [f.e]]⟩) (fun pre2 post2 _ => colsOk [] f.cols = colsOk pre2 post2) () rfl rfl ?_
      rintro pre2 post2 ⟨⟩ hpp2 hJ2
      cases post2 with
      | nil =>
        have hn2 := nl0 hpp2
        simp (maxSteps := 1000000) (disch := omega) only [go_sem, ↓reduceIte, Nat.reduceEqDiff, hn2]
        rw [hpp] at key
        refine finS_l ?_
        simp (maxSteps := 1000000) (disch := omega) only [go_sem]
        all_goals simp [key, hJ2, colsOk]
        all_goals (rw [← hpp, hJ]; simp [layOk]; try omega)
      | cons c post2 =>
        have hn2 := nl hpp2
        simp (maxSteps := 1000000) (disch := omega) only [go_sem, ↓reduceIte, Nat.reduceAdd, Nat.reduceEqDiff, gml Column.e hpp2, hn2]
        intro s5
        rw [condS_some]; refine ⟨fun hx => ?_, fun hx => ?_⟩
        · simp (maxSteps := 1000000) (disch := omega) only [go_sem, ↓reduceIte]
          have hx : colBad c = true := hx
          refine finS_l ?_
          simp (maxSteps := 1000000) (disch := omega) only [go_sem]
          all_goals simp [key, hJ2, colsOk, hx]
        · simp (maxSteps := 1000000) (disch := omega) only [go_sem, ↓reduceIte, Nat.reduceEqDiff]
          have hx : colBad c = false := hx
          refine loopS_list pre2 (fun pre3 (_ : Unit) => ⟨[(1, .ptr h.length s1 0 0), (3, .int .i64 (pre.countP fun l => l.state == 3)), (6, .int .i64 pre2.length), (7, .ptr (h.length + 1) s5 0 0), (8, .int .i64 pre3.length)], h ++ [.arr s1 0 5 [f.e], .arr s5 0 3 [c.e]]⟩) (fun pre3 post3 _ => (pre2.any fun d => d.qual == c.qual) = post3.any fun d => d.qual == c.qual) () rfl rfl ?_
          rintro pre3 post3 ⟨⟩ hpp3 hJ3
          cases post3 with
          | nil =>
            have hn3 := nl0 hpp3
            simp (maxSteps := 1000000) (disch := omega) only [go_sem, ↓reduceIte, Nat.reduceEqDiff, hn3]
            refine lp_next (h.length + 1) () hpp2 ?_ ?_ ?_
            · rw [hJ2, colsOk, hx, hJ3]; simp
            · simp (maxSteps := 1000000) (disch := omega) only [go_sem, ↓reduceIte, Nat.reduceEqDiff, wrap64, Int.natCast_add, Int.cast_ofNat_Int, hn3]
            · simp (maxSteps := 1000000) (disch := omega) only [go_sem]
          | cons y post3 =>
            have hn3 := nl hpp3
            have hpp4 : f.cols = pre3 ++ y :: (post3 ++ c :: post2) := by rw [hpp2, hpp3]; simp
            have hn4 := nl hpp4
            simp (maxSteps := 1000000) (disch := omega) only [go_sem, ↓reduceIte, Nat.reduceEqDiff, gml Column.e hpp4, hn3]
            rw [condS_some]; refine ⟨fun hx => ?_, fun hx => ?_⟩
            · simp (maxSteps := 1000000) (disch := omega) only [go_sem, ↓reduceIte]
              refine finS_l ?_
              simp (maxSteps := 1000000) (disch := omega) only [go_sem]
              all_goals simp [key, hJ2, colsOk, hJ3, hx]
            · simp (maxSteps := 1000000) (disch := omega) only [go_sem, ↓reduceIte, Nat.reduceEqDiff]
              refine lp_next (h.length + 2) () hpp3 ?_ ?_ ?_
              · simp [hJ3, hx]
              · simp (maxSteps := 1000000) (disch := omega) only [go_sem, ↓reduceIte, Nat.reduceEqDiff, wrap64, Int.natCast_add, Int.cast_ofNat_Int]
              · simp (maxSteps := 1000000) (disch := omega) only [go_sem]
    | cons x post =>
      have hn := nl hpp
      simp (maxSteps := 1000000) (disch := omega) only [go_sem, ↓reduceIte, Nat.reduceAdd, Nat.reduceEqDiff, Int.reduceLE, gml Layout.e hpp, hn]
      intro s5
      simp (maxSteps := 1000000) (disch := omega) only [go_sem, ↓reduceIte, Nat.reduceEqDiff, gmap Layout.e hl0]
      rw [condS_some]; refine ⟨fun hx => ?_, fun hx => ?_⟩
      · simp (maxSteps := 1000000) (disch := omega) only [go_sem, ↓reduceIte]
        have hx : layBad l0.group pre.length x = true := hx
        refine finS_l ?_
        simp (maxSteps := 1000000) (disch := omega) only [go_sem]
        all_goals simp [key, hJ, layOk, hx]
      · simp (maxSteps := 1000000) (disch := omega) only [go_sem, ↓reduceIte, Nat.reduceEqDiff]
        have hx : layBad l0.group pre.length x = false := hx
        rw [condS_some]; refine ⟨fun hx => ?_, fun hx => ?_⟩
        · rename_i hq
          simp (maxSteps := 1000000) (disch := omega) only [go_sem, ↓reduceIte, Nat.reduceEqDiff]
          refine lp_next (h.length + 1) () hpp ?_ ?_ ?_
          · rw [hJ, layOk, hq]; simp
          · simp (maxSteps := 1000000) (disch := omega) only [go_sem, ↓reduceIte, Nat.reduceEqDiff, wrap64, Int.natCast_add, Int.cast_ofNat_Int, List.countP_append, List.countP_cons, List.countP_nil, hx]
          · simp (maxSteps := 1000000) (disch := omega) only [go_sem]
        · rename_i hq
          simp (maxSteps := 1000000) (disch := omega) only [go_sem, ↓reduceIte, Nat.reduceEqDiff]
          refine lp_next (h.length + 1) () hpp ?_ ?_ ?_
          · rw [hJ, layOk, hq]; simp
          · simp (maxSteps := 1000000) (disch := omega) only [go_sem, ↓reduceIte, Nat.reduceEqDiff, wrap64, Int.natCast_add, Int.cast_ofNat_Int, List.countP_append, List.countP_cons, List.countP_nil, hx, Bool.false_eq_true]
          · simp (maxSteps := 1000000) (disch := omega) only [go_sem]
end Go.Ab.S2
