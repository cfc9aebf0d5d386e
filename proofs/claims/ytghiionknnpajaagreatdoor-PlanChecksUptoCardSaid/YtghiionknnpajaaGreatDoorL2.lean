import Derived.Test.YtghiionknnpajaaGreatDoorAb12
set_option linter.unusedVariables false
set_option linter.unusedSimpArgs false
namespace Go.Ab.S2
open Go.Ab

abbrev N.main_main : FuncId := 0
abbrev N.gosem_cut : FuncId := 1
abbrev N.gosem_cut_init : FuncId := 2
abbrev N.joistlaw16_PlanGoes : FuncId := 3
abbrev N.joistlaw16_PlanCells : FuncId := 4
abbrev N.joistlaw16_PlanSeen : FuncId := 5
abbrev N.joistlaw16_PlanSees : FuncId := 6
abbrev N.joistlaw16_PlanWhere : FuncId := 7
abbrev N.joistlaw16_PlanChecks : FuncId := 8
abbrev N.joistlaw16_alive : FuncId := 9
abbrev N.joistref00_LongSchema : FuncId := 10
abbrev N.joistref00_LongCells : FuncId := 11
abbrev N.joistref00_CopyCells : FuncId := 12
abbrev N.plan_Layouts : FuncId := 13
abbrev N.joistref16_Layouts : FuncId := 14
abbrev N.joistref00_SameInts : FuncId := 15
abbrev N.plan_Targets : FuncId := 16
abbrev N.joistref16_Targets : FuncId := 17
abbrev N.joistref00_SameFamily : FuncId := 18
abbrev N.joistlaw16_long : FuncId := 19
abbrev N.plan_Cells : FuncId := 20
abbrev N.joistref03_Right : FuncId := 21
abbrev N.joistref03_Order : FuncId := 22
abbrev N.joistref16_Family : FuncId := 23
abbrev N.joistref16_Column : FuncId := 24
abbrev N.joistref06_Seen : FuncId := 25
abbrev N.plan_Visible : FuncId := 26
abbrev N.plan_Check : FuncId := 27
abbrev N.joistref14_Find : FuncId := 28
abbrev N.joistref14_Read : FuncId := 29
abbrev N.joistref00_Texts : FuncId := 30
abbrev N.joistref14_Right : FuncId := 31
abbrev N.joistlaw16_copied : FuncId := 32
abbrev N.joistref00_CopySchema : FuncId := 33
abbrev N.joistref16_Cells : FuncId := 34
abbrev N.joistref16_Visible : FuncId := 35
abbrev N.plan_Formed : FuncId := 36
abbrev N.joistref16_Formed : FuncId := 37
abbrev N.joistref16_Check : FuncId := 38
abbrev N.joistref00_SameCells : FuncId := 39
abbrev N.joistref00_SameTexts : FuncId := 40
abbrev N.joistlaw16_same : FuncId := 41
abbrev N.plan_Clone : FuncId := 42
abbrev N.joistref00_SameSchema : FuncId := 43
abbrev N.joistlaw16_one : FuncId := 44
abbrev N.slices_ContainsFunc_api_Cell_api_Cell_ : FuncId := 45
abbrev N.plan_Layouts_1 : FuncId := 46
abbrev N.slices_Clone_api_Layout_api_Layout_ : FuncId := 47
abbrev N.joistref00_CopyFamily : FuncId := 48
abbrev N.slices_IndexFunc_api_Layouted_api_Layouted_ : FuncId := 49
abbrev N.plan_Targets_1 : FuncId := 50
abbrev N.schema_Written : FuncId := 51
abbrev N.schema_Gone : FuncId := 52
abbrev N.joistref14_Groups : FuncId := 53
abbrev N.joistref14_Gone : FuncId := 54
abbrev N.joistref00_LongRequest : FuncId := 55
abbrev N.plan_maker_do : FuncId := 56
abbrev N.joistref03_Name : FuncId := 57
abbrev N.joistref02_Right : FuncId := 58
abbrev N.joistref03_cmp : FuncId := 59
abbrev N.joistref14_Column : FuncId := 60
abbrev N.joistref06_Sort : FuncId := 61
abbrev N.joistref06_Lives : FuncId := 62
abbrev N.schema_Read : FuncId := 63
abbrev N.slices_Contains_string_string_ : FuncId := 64
abbrev N.plan_quals : FuncId := 65
abbrev N.filter_Clone : FuncId := 66
abbrev N.schema_Right : FuncId := 67
abbrev N.plan_first_string : FuncId := 68
abbrev N.plan_view_named : FuncId := 69
abbrev N.plan_view_value : FuncId := 70
abbrev N.plan_first_apiMut : FuncId := 71
abbrev N.plan_view_mut : FuncId := 72
abbrev N.joistref14_Family : FuncId := 73
abbrev N.joistref16_add : FuncId := 74
abbrev N.plan_read : FuncId := 75
abbrev N.plan_write : FuncId := 76
abbrev N.plan_none : FuncId := 77
abbrev N.plan_column : FuncId := 78
abbrev N.val_Right : FuncId := 79
abbrev N.joistref13_Right : FuncId := 80
abbrev N.joistref16_empty : FuncId := 81
abbrev N.joistref16_mut : FuncId := 82
abbrev N.joistref16_column : FuncId := 83
abbrev N.slices_Clone_api_Mut_api_Mut_ : FuncId := 84
abbrev N.slices_IndexFunc_api_Cell_api_Cell_ : FuncId := 85
abbrev N.schema_groups : FuncId := 86
abbrev N.schema_Written_1 : FuncId := 87
abbrev N.schema_Gone_1 : FuncId := 88
abbrev N.plan_maker_add : FuncId := 89
abbrev N.joistref02_Utf8 : FuncId := 90
abbrev N.joistref01_Right : FuncId := 91
abbrev N.slices_IndexFunc_api_Layout_api_Layout_ : FuncId := 92
abbrev N.schema_Read_1 : FuncId := 93
abbrev N.slices_Index_string_string_ : FuncId := 94
abbrev N.slices_Sort_string_string_ : FuncId := 95
abbrev N.slices_Clone_string_string_ : FuncId := 96
abbrev N.schema_Right_1 : FuncId := 97
abbrev N.schema_family : FuncId := 98
abbrev N.schema_within : FuncId := 99
abbrev N.slices_ContainsFunc_api_Family_api_Family_ : FuncId := 100
abbrev N.schema_once_string : FuncId := 101
abbrev N.schema_Right_2 : FuncId := 102
abbrev N.plan_view_family : FuncId := 103
abbrev N.schema_Column : FuncId := 104
abbrev N.filter_Right : FuncId := 105
abbrev N.plan_write_1 : FuncId := 106
abbrev N.plan_mut : FuncId := 107
abbrev N.plan_empty : FuncId := 108
abbrev N.slices_ContainsFunc_api_Mut_api_Mut_ : FuncId := 109
abbrev N.plan_name : FuncId := 110
abbrev N.float_Right : FuncId := 111
abbrev N.unicode_utf8_ValidString : FuncId := 112
abbrev N.slices_DeleteFunc_api_Cell_api_Cell_ : FuncId := 113
abbrev N.plan_maker_add_1 : FuncId := 114
abbrev N.plan_needless : FuncId := 115
abbrev N.joistref01_size : FuncId := 116
abbrev N.slices_pdqsortOrdered_string : FuncId := 117
abbrev N.math_bits_Len : FuncId := 118
abbrev N.schema_name : FuncId := 119
abbrev N.schema_layouts : FuncId := 120
abbrev N.schema_cols : FuncId := 121
abbrev N.slices_IndexFunc_api_Family_api_Family_ : FuncId := 122
abbrev N.schema_Find : FuncId := 123
abbrev N.slices_IndexFunc_api_Column_api_Column_ : FuncId := 124
abbrev N.schema_Column_1 : FuncId := 125
abbrev N.slices_ContainsFunc_string_string_ : FuncId := 126
abbrev N.filter_Right_1 : FuncId := 127
abbrev N.filter_name : FuncId := 128
abbrev N.filter_within : FuncId := 129
abbrev N.slices_IndexFunc_api_Mut_api_Mut_ : FuncId := 130
abbrev N.plan_name_1 : FuncId := 131
abbrev N.strings_ContainsFunc : FuncId := 132
abbrev N.float_bits_right : FuncId := 133
abbrev N.unicode_utf8_word_string : FuncId := 134
abbrev N.codec_Order : FuncId := 135
abbrev N.slices_insertionSortOrdered_string : FuncId := 136
abbrev N.slices_heapSortOrdered_string : FuncId := 137
abbrev N.slices_breakPatternsOrdered_string : FuncId := 138
abbrev N.slices_choosePivotOrdered_string : FuncId := 139
abbrev N.slices_reverseRangeOrdered_string : FuncId := 140
abbrev N.slices_partialInsertionSortOrdered_string : FuncId := 141
abbrev N.cmp_Less_string : FuncId := 142
abbrev N.slices_partitionEqualOrdered_string : FuncId := 143
abbrev N.slices_partitionOrdered_string : FuncId := 144
abbrev N.math_bits_Len32 : FuncId := 145
abbrev N.math_bits_Len64 : FuncId := 146
abbrev N.schema_name_1 : FuncId := 147
abbrev N.schema_state : FuncId := 148
abbrev N.schema_once_int : FuncId := 149
abbrev N.schema_layouts_1 : FuncId := 150
abbrev N.schema_cols_1 : FuncId := 151
abbrev N.slices_ContainsFunc_api_Column_api_Column_ : FuncId := 152
abbrev N.schema_once_string_2 : FuncId := 153
abbrev N.schema_cols_2 : FuncId := 154
abbrev N.schema_Find_1 : FuncId := 155
abbrev N.schema_clone : FuncId := 156
abbrev N.slices_IndexFunc_string_string_ : FuncId := 157
abbrev N.filter_name_1 : FuncId := 158
abbrev N.strings_IndexFunc : FuncId := 159
abbrev N.cmp_Or_int : FuncId := 160
abbrev N.strings_Compare : FuncId := 161
abbrev N.cmp_Compare_int : FuncId := 162
abbrev N.codec_whole : FuncId := 163
abbrev N.slices_siftDownOrdered_string : FuncId := 164
abbrev N.slices_nextPowerOfTwo : FuncId := 165
abbrev N.slices_xorshift_Next : FuncId := 166
abbrev N.slices_medianAdjacentOrdered_string : FuncId := 167
abbrev N.slices_medianOrdered_string : FuncId := 168
abbrev N.cmp_isNaN_string : FuncId := 169
abbrev N.slices_Clone_api_Column_api_Column_ : FuncId := 170
abbrev N.strings_indexFunc : FuncId := 171
abbrev N.internal_bytealg_CompareString : FuncId := 172
abbrev N.cmp_isNaN_int : FuncId := 173
abbrev N.slices_order2Ordered_string : FuncId := 174
abbrev N.internal_bytealg_abigen_runtime_cmpstring : FuncId := 175
abbrev N.runtime_boundsError_Error : FuncId := 176
abbrev N.runtime_boundsError_RuntimeError : FuncId := 177
abbrev N.runtime_errorString_Error : FuncId := 178
abbrev N.runtime_errorString_RuntimeError : FuncId := 179
abbrev N.runtime_plainError_Error : FuncId := 180
abbrev N.runtime_plainError_RuntimeError : FuncId := 181
abbrev N.runtime_errorAddressString_Error : FuncId := 182
abbrev N.runtime_errorAddressString_RuntimeError : FuncId := 183
abbrev N.runtime_TypeAssertionError_Error : FuncId := 184
abbrev N.runtime_TypeAssertionError_RuntimeError : FuncId := 185
abbrev N.runtime_PanicNilError_Error : FuncId := 186
abbrev N.runtime_PanicNilError_RuntimeError : FuncId := 187
abbrev N.internal_abi_Type_Align : FuncId := 188
abbrev N.internal_runtime_maps_unhashableTypeError_Error : FuncId := 189
abbrev N.internal_runtime_maps_unhashableTypeError_RuntimeError : FuncId := 190
abbrev N.api_Errno_Error : FuncId := 191
abbrev N.float_bits_negative : FuncId := 192
abbrev N.internal_abi_Kind_String : FuncId := 193
abbrev N.var_s_door_gosem_cut_vars_holds_initialisers_alone_see_the_manifest_s_row_cutvarsword_look_11_test_files_too : FuncId := 194
abbrev N.var_s_door_the_look_of_gosem_cut_vars_went_over_the_folder_that_the_caller_named_as_the_repository_s_root_look_11 : FuncId := 195
abbrev N.var_s_door_unicode_utf8_acceptRanges_is_laid_by_its_own_initialiser_plain_data_look_11 : FuncId := 196
abbrev N.var_s_door_unicode_utf8_first_is_laid_by_its_text_alone_pinned_1 : FuncId := 197
abbrev N.gosem_cut_vars : FuncId := 198

def F.joistlaw16_PlanChecks : LFunc := ⟨176, [.t 6], 
 (.seq (.reg [⟨(some 3), .e (.box 10 (.s 0)), none⟩,
 ⟨(some 4), .e (.box 16 (.s 1)), none⟩,
 ⟨(some 6), .p (.mv (.c (.bool false))), none⟩] [2, 3, 4])
 (.seq (.seq (.reg [⟨(some 18), .e (.call N.joistlaw16_alive [] true), none⟩,
 ⟨(some 19), .p (.un .not (.s 18)), none⟩] [2, 3, 4, 19])
 (.cond (.s 19) (.seq (.reg [⟨(some 6), .p (.mv (.c (.bool false))), none⟩] [6])
 .ret) .skip))
 (.seq (.seq (.reg [⟨(some 20), .p (.ldn 10 (.s 3)), none⟩,
 ⟨(some 21), .p (.ldn 16 (.s 4)), none⟩,
 ⟨(some 22), .e (.call N.joistlaw16_long [(.s 20), (.s 21)] true), none⟩] [2, 3, 4, 22])
 (.cond (.s 22) (.seq (.reg [⟨(some 6), .p (.mv (.c (.bool true))), none⟩] [6])
 .ret) .skip))
 (.seq (.reg [⟨(some 23), .p (.ldn 16 (.s 4)), none⟩,
 ⟨(some 24), .e (.call N.joistlaw16_copied [(.s 23)] true), none⟩,
 ⟨(some 7), .e (.alloc [.int .i64 0, .str [], .str [], .psl [], .str [], .str [], .int .i64 0, .int .i64 0, .str [], .psl [], .str [], .str [], .int .i64 0, .int .i64 0, .int .i64 0, .int .i64 0]), none⟩,
 ⟨none, .e (.stn 16 (.s 7) (.s 24)), none⟩] [2, 3, 4, 7])
 (.seq (.reg [⟨(some 25), .p (.ldn 10 (.s 3)), none⟩,
 ⟨(some 26), .e (.call N.joistref00_CopySchema [(.s 25)] true), none⟩,
 ⟨(some 8), .e (.alloc [.int .i64 0, .psl [], .int .i64 0, .str [], .str [], .int .i64 0, .int .i64 0, .int .i64 0, .int .i64 0, .int .i64 0]), none⟩,
 ⟨none, .e (.stn 10 (.s 8) (.s 26)), none⟩] [2, 3, 4, 7, 8])
 (.seq (.reg [⟨(some 28), .p (.ldn 10 (.s 8)), none⟩,
 ⟨(some 29), .p (.ldn 16 (.s 7)), none⟩,
 ⟨(some 30), .p (.mv (.s 2)), none⟩,
 ⟨(some 31), .e (.call N.plan_Cells [(.s 28), (.s 29), (.s 30)] true), none⟩,
 ⟨(some 27), .p (.mv (.s 31)), none⟩,
 ⟨(some 32), .p (.ext (.s 27) 0), none⟩,
 ⟨(some 33), .p (.ext (.s 27) 1), none⟩,
 ⟨(some 9), .p (.mv (.s 32)), none⟩,
 ⟨(some 10), .p (.mv (.s 33)), none⟩] [2, 3, 4, 7, 8, 9, 10])
 (.seq (.reg [⟨(some 35), .p (.ldn 10 (.s 3)), none⟩,
 ⟨(some 36), .p (.ldn 16 (.s 4)), none⟩,
 ⟨(some 37), .p (.mv (.s 2)), none⟩,
 ⟨(some 38), .e (.call N.joistref16_Cells [(.s 35), (.s 36), (.s 37)] true), none⟩,
 ⟨(some 34), .p (.mv (.s 38)), none⟩,
 ⟨(some 39), .p (.ext (.s 34) 0), none⟩,
 ⟨(some 40), .p (.ext (.s 34) 1), none⟩,
 ⟨(some 11), .p (.mv (.s 39)), none⟩,
 ⟨(some 12), .p (.mv (.s 40)), none⟩] [3, 4, 7, 8, 9, 10, 11, 12])
 (.seq (.reg [⟨(some 42), .p (.ldn 10 (.s 8)), none⟩,
 ⟨(some 43), .p (.ldn 16 (.s 7)), none⟩,
 ⟨(some 44), .e (.call N.plan_Visible [(.s 42), (.s 43)] true), none⟩,
 ⟨(some 41), .p (.mv (.s 44)), none⟩,
 ⟨(some 45), .p (.ext (.s 41) 0), none⟩,
 ⟨(some 46), .p (.ext (.s 41) 1), none⟩,
 ⟨(some 13), .e (.alloc [.psl [], .str [], .str [], .int .i64 0, .int .i64 0, .int .i64 0, .int .i64 0]), none⟩,
 ⟨none, .e (.stn 7 (.s 13) (.s 45)), none⟩,
 ⟨(some 14), .p (.mv (.s 46)), none⟩] [3, 4, 7, 8, 9, 10, 11, 12, 13, 14])
 (.seq (.reg [⟨(some 48), .p (.ldn 10 (.s 3)), none⟩,
 ⟨(some 49), .p (.ldn 16 (.s 4)), none⟩,
 ⟨(some 50), .e (.call N.joistref16_Visible [(.s 48), (.s 49)] true), none⟩,
 ⟨(some 47), .p (.mv (.s 50)), none⟩,
 ⟨(some 51), .p (.ext (.s 47) 0), none⟩,
 ⟨(some 52), .p (.ext (.s 47) 1), none⟩,
 ⟨(some 15), .e (.alloc [.psl [], .str [], .str [], .int .i64 0, .int .i64 0, .int .i64 0, .int .i64 0]), none⟩,
 ⟨none, .e (.stn 7 (.s 15) (.s 51)), none⟩,
 ⟨(some 16), .p (.mv (.s 52)), none⟩] [3, 4, 7, 8, 9, 10, 11, 12, 13, 14, 15, 16])
 (.seq (.seq (.regD [⟨(some 53), .p (.ldn 16 (.s 7)), none⟩,
 ⟨(some 55), .p (.ldn 16 (.s 4)), none⟩,
 ⟨(some 54), .e (.call N.plan_Formed [(.s 53)] true), none⟩,
 ⟨(some 55), .s (.ldn 16 (.s 4)), none⟩,
 ⟨(some 56), .e (.call N.joistref16_Formed [(.s 55)] true), none⟩,
 ⟨(some 57), .p (.eqk true .bool (.s 54) (.s 56)), none⟩,
 ⟨(some 58), .p (.mv (.s 57)), none⟩,
 ⟨(some 59), .p (.ldn 10 (.s 8)), (some (58, false))⟩,
 ⟨(some 60), .p (.ldn 16 (.s 7)), (some (58, false))⟩,
 ⟨(some 62), .p (.ldn 10 (.s 3)), (some (58, false))⟩,
 ⟨(some 63), .p (.ldn 16 (.s 4)), (some (58, false))⟩,
 ⟨(some 61), .e (.call N.plan_Check [(.s 59), (.s 60)] true), (some (58, false))⟩,
 ⟨(some 62), .s (.ldn 10 (.s 3)), (some (58, false))⟩,
 ⟨(some 63), .s (.ldn 16 (.s 4)), (some (58, false))⟩,
 ⟨(some 64), .e (.call N.joistref16_Check [(.s 62), (.s 63)] true), (some (58, false))⟩,
 ⟨(some 65), .p (.bin .neq (.s 61) (.s 64)), (some (58, false))⟩,
 ⟨(some 66), .p (.pick (.s 58) (.c (.bool true)) (.s 65)), none⟩,
 ⟨(some 67), .p (.mv (.s 66)), none⟩,
 ⟨(some 68), .p (.mv (.s 9)), (some (67, false))⟩,
 ⟨(some 69), .p (.mv (.s 11)), (some (67, false))⟩,
 ⟨(some 70), .e (.call N.joistref00_SameCells [(.s 68), (.s 69)] true), (some (67, false))⟩,
 ⟨(some 71), .p (.un .not (.s 70)), (some (67, false))⟩,
 ⟨(some 72), .p (.pick (.s 67) (.c (.bool true)) (.s 71)), none⟩,
 ⟨(some 73), .p (.mv (.s 72)), none⟩,
 ⟨(some 74), .p (.mv (.s 10)), (some (73, false))⟩,
 ⟨(some 75), .p (.mv (.s 12)), (some (73, false))⟩,
 ⟨(some 76), .p (.bin .neq (.s 74) (.s 75)), (some (73, false))⟩,
 ⟨(some 77), .p (.pick (.s 73) (.c (.bool true)) (.s 76)), none⟩,
 ⟨(some 78), .p (.mv (.s 77)), none⟩,
 ⟨(some 79), .p (.mv (.s 14)), (some (78, false))⟩,
 ⟨(some 80), .p (.lenl (.s 79)), (some (78, false))⟩,
 ⟨(some 81), .p (.mv (.s 16)), (some (78, false))⟩,
 ⟨(some 82), .p (.lenl (.s 81)), (some (78, false))⟩,
 ⟨(some 83), .p (.bin .neq (.s 80) (.s 82)), (some (78, false))⟩,
 ⟨(some 84), .p (.pick (.s 78) (.c (.bool true)) (.s 83)), none⟩] [0, 2, 1, 3, 4, 5, 6, 7, 9, 10, 8, 11, 12, 13, 14, 15, 16, 17, 18, 19, 20, 21, 22, 23, 24, 25, 26, 27, 28, 29, 30, 31] [3, 4, 7, 8, 13, 14, 15, 16, 84])
 (.cond (.s 84) (.seq (.reg [⟨(some 6), .p (.mv (.c (.bool false))), none⟩] [6])
 .ret) .skip))
 (.seq (.seq (.reg [⟨(some 17), .p (.mv (.c (.int .i64 0))), none⟩] [3, 4, 7, 8, 13, 14, 15, 16, 17])
 (.block 0 (.loop (.seq (.seq (.reg [⟨(some 85), .p (.mv (.s 17)), none⟩,
 ⟨(some 86), .p (.mv (.s 14)), none⟩,
 ⟨(some 87), .p (.lenl (.s 86)), none⟩,
 ⟨(some 88), .p (.bin .lss (.s 85) (.s 87)), none⟩] [3, 4, 7, 8, 13, 14, 15, 16, 17, 88])
 (.cond (.s 88) .skip (.exit 0)))
 (.seq (.block 1 (.seq (.regD [⟨(some 91), .p (.mv (.s 14)), none⟩,
 ⟨(some 92), .p (.mv (.s 17)), none⟩,
 ⟨(some 93), .p (.iadr 5 (.s 91) (.s 92)), none⟩,
 ⟨(some 94), .p (.foff 0 (.s 93)), none⟩,
 ⟨(some 95), .p (.ld (.s 94)), none⟩,
 ⟨(some 96), .p (.mv (.s 16)), none⟩,
 ⟨(some 97), .p (.mv (.s 17)), none⟩,
 ⟨(some 98), .p (.iadr 5 (.s 96) (.s 97)), none⟩,
 ⟨(some 99), .p (.foff 0 (.s 98)), none⟩,
 ⟨(some 100), .p (.ld (.s 99)), none⟩,
 ⟨(some 101), .p (.bin .neq (.s 95) (.s 100)), none⟩,
 ⟨(some 102), .p (.mv (.s 101)), none⟩,
 ⟨(some 103), .p (.mv (.s 14)), (some (102, false))⟩,
 ⟨(some 104), .p (.mv (.s 17)), (some (102, false))⟩,
 ⟨(some 105), .p (.iadr 5 (.s 103) (.s 104)), (some (102, false))⟩,
 ⟨(some 106), .p (.foff 1 (.s 105)), (some (102, false))⟩,
 ⟨(some 107), .p (.ld (.s 106)), (some (102, false))⟩,
 ⟨(some 108), .p (.mv (.s 16)), (some (102, false))⟩,
 ⟨(some 109), .p (.mv (.s 17)), (some (102, false))⟩,
 ⟨(some 110), .p (.iadr 5 (.s 108) (.s 109)), (some (102, false))⟩,
 ⟨(some 111), .p (.foff 1 (.s 110)), (some (102, false))⟩,
 ⟨(some 112), .p (.ld (.s 111)), (some (102, false))⟩,
 ⟨(some 113), .p (.bin .neq (.s 107) (.s 112)), (some (102, false))⟩,
 ⟨(some 114), .p (.pick (.s 102) (.c (.bool true)) (.s 113)), none⟩,
 ⟨(some 115), .p (.mv (.s 114)), none⟩,
 ⟨(some 116), .p (.mv (.s 14)), (some (115, false))⟩,
 ⟨(some 117), .p (.mv (.s 17)), (some (115, false))⟩,
 ⟨(some 118), .p (.iadr 5 (.s 116) (.s 117)), (some (115, false))⟩,
 ⟨(some 119), .p (.foff 2 (.s 118)), (some (115, false))⟩,
 ⟨(some 120), .p (.ld (.s 119)), (some (115, false))⟩,
 ⟨(some 121), .p (.mv (.s 16)), (some (115, false))⟩,
 ⟨(some 122), .p (.mv (.s 17)), (some (115, false))⟩,
 ⟨(some 123), .p (.iadr 5 (.s 121) (.s 122)), (some (115, false))⟩,
 ⟨(some 124), .p (.foff 2 (.s 123)), (some (115, false))⟩,
 ⟨(some 125), .p (.ld (.s 124)), (some (115, false))⟩,
 ⟨(some 126), .p (.bin .neq (.s 120) (.s 125)), (some (115, false))⟩,
 ⟨(some 127), .p (.pick (.s 115) (.c (.bool true)) (.s 126)), none⟩,
 ⟨(some 128), .p (.mv (.s 127)), none⟩,
 ⟨(some 129), .p (.mv (.s 14)), (some (128, false))⟩,
 ⟨(some 130), .p (.mv (.s 17)), (some (128, false))⟩,
 ⟨(some 131), .p (.iadr 5 (.s 129) (.s 130)), (some (128, false))⟩,
 ⟨(some 132), .p (.foff 3 (.s 131)), (some (128, false))⟩,
 ⟨(some 133), .p (.ld (.s 132)), (some (128, false))⟩,
 ⟨(some 134), .p (.mv (.s 16)), (some (128, false))⟩,
 ⟨(some 135), .p (.mv (.s 17)), (some (128, false))⟩,
 ⟨(some 136), .p (.iadr 5 (.s 134) (.s 135)), (some (128, false))⟩,
 ⟨(some 137), .p (.foff 3 (.s 136)), (some (128, false))⟩,
 ⟨(some 138), .p (.ld (.s 137)), (some (128, false))⟩,
 ⟨(some 139), .p (.bin .neq (.s 133) (.s 138)), (some (128, false))⟩,
 ⟨(some 140), .p (.pick (.s 128) (.c (.bool true)) (.s 139)), none⟩,
 ⟨(some 141), .p (.mv (.s 140)), none⟩,
 ⟨(some 142), .p (.mv (.s 14)), (some (141, false))⟩,
 ⟨(some 143), .p (.mv (.s 17)), (some (141, false))⟩,
 ⟨(some 144), .p (.iadr 5 (.s 142) (.s 143)), (some (141, false))⟩,
 ⟨(some 145), .p (.foff 4 (.s 144)), (some (141, false))⟩,
 ⟨(some 146), .p (.ld (.s 145)), (some (141, false))⟩,
 ⟨(some 147), .p (.mv (.s 16)), (some (141, false))⟩,
 ⟨(some 148), .p (.mv (.s 17)), (some (141, false))⟩,
 ⟨(some 149), .p (.iadr 5 (.s 147) (.s 148)), (some (141, false))⟩,
 ⟨(some 150), .p (.foff 4 (.s 149)), (some (141, false))⟩,
 ⟨(some 151), .p (.ld (.s 150)), (some (141, false))⟩,
 ⟨(some 152), .e (.call N.joistref00_SameTexts [(.s 146), (.s 151)] true), (some (141, false))⟩,
 ⟨(some 153), .p (.un .not (.s 152)), (some (141, false))⟩,
 ⟨(some 154), .p (.pick (.s 141) (.c (.bool true)) (.s 153)), none⟩] [0, 1, 2, 3, 4, 5, 6, 7, 8, 9, 10, 11, 12, 13, 14, 15, 16, 17, 18, 19, 20, 21, 22, 23, 24, 25, 26, 27, 28, 29, 30, 31, 32, 33, 34, 35, 36, 37, 38, 39, 40, 41, 42, 43, 44, 45, 46, 47, 48, 49, 50, 51, 52, 53, 54, 55, 56, 57, 58, 59, 60, 61, 62, 63] [3, 4, 7, 8, 13, 14, 15, 16, 17, 154])
 (.cond (.s 154) (.seq (.reg [⟨(some 6), .p (.mv (.c (.bool false))), none⟩] [6])
 .ret) .skip)))
 (.reg [⟨(some 89), .p (.mv (.s 17)), none⟩,
 ⟨(some 90), .p (.bin .add (.s 89) (.c (.int .i64 1))), none⟩,
 ⟨(some 17), .p (.mv (.s 90)), none⟩] [3, 4, 7, 8, 13, 14, 15, 16, 17]))) [3, 4, 7, 8, 13, 14, 15, 16, 17])))
 (.seq (.regD [⟨(some 155), .p (.ldn 7 (.s 13)), none⟩,
 ⟨(some 156), .p (.build [.int .i64 0, .str [], .str [], .psl [], .str [], .str [], .int .i64 0, .int .i64 0, .str [], .psl [], .str [], .str [], .int .i64 0, .int .i64 0, .int .i64 0, .int .i64 0] [(9, 7, (.s 155))]), none⟩,
 ⟨(some 157), .p (.ldn 7 (.s 15)), none⟩,
 ⟨(some 158), .p (.build [.int .i64 0, .str [], .str [], .psl [], .str [], .str [], .int .i64 0, .int .i64 0, .str [], .psl [], .str [], .str [], .int .i64 0, .int .i64 0, .int .i64 0, .int .i64 0] [(9, 7, (.s 157))]), none⟩,
 ⟨(some 159), .e (.call N.joistlaw16_same [(.s 156), (.s 158)] true), none⟩,
 ⟨(some 160), .p (.mv (.s 159)), none⟩,
 ⟨(some 161), .p (.ldn 16 (.s 7)), (some (160, true))⟩,
 ⟨(some 162), .p (.ldn 16 (.s 4)), (some (160, true))⟩,
 ⟨(some 163), .e (.call N.joistlaw16_same [(.s 161), (.s 162)] true), (some (160, true))⟩,
 ⟨(some 164), .p (.pick (.s 160) (.s 163) (.c (.bool false))), none⟩,
 ⟨(some 165), .p (.mv (.s 164)), none⟩,
 ⟨(some 166), .p (.ldn 16 (.s 7)), (some (165, true))⟩,
 ⟨(some 168), .p (.ldn 16 (.s 4)), (some (165, true))⟩,
 ⟨(some 167), .e (.call N.plan_Clone [(.s 166)] true), (some (165, true))⟩,
 ⟨(some 168), .s (.ldn 16 (.s 4)), (some (165, true))⟩,
 ⟨(some 169), .e (.call N.joistlaw16_same [(.s 167), (.s 168)] true), (some (165, true))⟩,
 ⟨(some 170), .p (.pick (.s 165) (.s 169) (.c (.bool false))), none⟩,
 ⟨(some 171), .p (.mv (.s 170)), none⟩,
 ⟨(some 172), .p (.ldn 10 (.s 8)), (some (171, true))⟩,
 ⟨(some 173), .p (.ldn 10 (.s 3)), (some (171, true))⟩,
 ⟨(some 174), .e (.call N.joistref00_SameSchema [(.s 172), (.s 173)] true), (some (171, true))⟩,
 ⟨(some 175), .p (.pick (.s 171) (.s 174) (.c (.bool false))), none⟩,
 ⟨(some 6), .p (.mv (.s 175)), none⟩] [0, 1, 2, 3, 4, 5, 6, 7, 8, 9, 10, 11, 13, 12, 14, 15, 16, 17, 18, 19, 20, 21] [6])
 .ret))))))))))))⟩

def F.joistlaw16_alive : LFunc := ⟨106, [.t 0], 
 (.seq (.reg [⟨(some 0), .p (.mv (.c (.bool false))), none⟩] [])
 (.seq (.reg [⟨(some 9), .p (.build [.int .i64 0, .int .i64 0, .str []] [(0, 1, (.c (.int .i64 1))), (1, 1, (.c (.int .i64 1)))]), none⟩,
 ⟨(some 10), .p (.build [.int .i64 0, .str [], .str [], .int .i64 0, .int .i64 0, .str []] [(0, 1, (.c (.int .i64 1))), (1, 1, (.c (.str [102]))), (2, 1, (.c (.str [112]))), (3, 3, (.s 9))]), none⟩,
 ⟨(some 11), .p (.build [.int .i64 0, .str [], .str [], .int .i64 0, .int .i64 0, .str []] [(0, 1, (.c (.int .i64 3))), (1, 1, (.c (.str [102])))]), none⟩,
 ⟨(some 12), .p (.build [.int .i64 0, .int .i64 0, .str []] [(0, 1, (.c (.int .i64 1))), (1, 1, (.c (.int .i64 2)))]), none⟩,
 ⟨(some 13), .p (.build [.int .i64 0, .str [], .str [], .int .i64 0, .int .i64 0, .str []] [(0, 1, (.c (.int .i64 1))), (1, 1, (.c (.str [102]))), (2, 1, (.c (.str [113]))), (3, 3, (.s 12))]), none⟩,
 ⟨(some 14), .e (.bsl 6 3 [.int .i64 0, .str [], .str [], .int .i64 0, .int .i64 0, .str []] [(0, 6, (.s 10)), (6, 6, (.s 11)), (12, 6, (.s 13))]), none⟩,
 ⟨(some 15), .p (.build [.int .i64 0, .str [], .str [], .psl [], .str [], .str [], .int .i64 0, .int .i64 0, .str [], .psl [], .str [], .str [], .int .i64 0, .int .i64 0, .int .i64 0, .int .i64 0] [(0, 1, (.c (.int .i64 1))), (1, 1, (.c (.str [97]))), (3, 1, (.s 14))]), none⟩,
 ⟨(some 1), .e (.alloc [.int .i64 0, .str [], .str [], .psl [], .str [], .str [], .int .i64 0, .int .i64 0, .str [], .psl [], .str [], .str [], .int .i64 0, .int .i64 0, .int .i64 0, .int .i64 0]), none⟩,
 ⟨none, .e (.stn 16 (.s 1) (.s 15)), none⟩] [1])
 (.seq (.regD [⟨(some 18), .p (.ldn 16 (.s 1)), none⟩,
 ⟨(some 17), .e (.call N.joistlaw16_one [] true), none⟩,
 ⟨(some 18), .s (.ldn 16 (.s 1)), none⟩,
 ⟨(some 19), .e (.call N.plan_Cells [(.s 17), (.s 18), (.c (.int .i64 5))] true), none⟩,
 ⟨(some 16), .p (.mv (.s 19)), none⟩,
 ⟨(some 20), .p (.ext (.s 16) 0), none⟩,
 ⟨(some 21), .p (.ext (.s 16) 1), none⟩,
 ⟨(some 2), .p (.mv (.s 20)), none⟩,
 ⟨(some 3), .p (.mv (.s 21)), none⟩] [1, 0, 2, 3, 4, 5, 6, 7] [1, 2, 3])
 (.seq (.regD [⟨(some 24), .p (.ldn 16 (.s 1)), none⟩,
 ⟨(some 23), .e (.call N.joistlaw16_one [] true), none⟩,
 ⟨(some 24), .s (.ldn 16 (.s 1)), none⟩,
 ⟨(some 25), .e (.call N.plan_Cells [(.s 23), (.s 24), (.c (.int .i64 0))] true), none⟩,
 ⟨(some 22), .p (.mv (.s 25)), none⟩,
 ⟨(some 26), .p (.ext (.s 22) 0), none⟩,
 ⟨(some 27), .p (.ext (.s 22) 1), none⟩,
 ⟨(some 4), .p (.mv (.s 26)), none⟩,
 ⟨(some 5), .p (.mv (.s 27)), none⟩] [1, 0, 2, 3, 4, 5, 6, 7] [1, 2, 3, 5])
 (.seq (.reg [⟨(some 29), .e (.call N.joistlaw16_one [] true), none⟩,
 ⟨(some 30), .p (.build [.int .i64 0, .str [], .str [], .psl [], .str [], .str [], .int .i64 0, .int .i64 0, .str [], .psl [], .str [], .str [], .int .i64 0, .int .i64 0, .int .i64 0, .int .i64 0] [(0, 1, (.c (.int .i64 3)))]), none⟩,
 ⟨(some 31), .e (.call N.plan_Visible [(.s 29), (.s 30)] true), none⟩,
 ⟨(some 28), .p (.mv (.s 31)), none⟩,
 ⟨(some 32), .p (.ext (.s 28) 0), none⟩,
 ⟨(some 33), .p (.ext (.s 28) 1), none⟩,
 ⟨(some 6), .e (.alloc [.psl [], .str [], .str [], .int .i64 0, .int .i64 0, .int .i64 0, .int .i64 0]), none⟩,
 ⟨none, .e (.stn 7 (.s 6) (.s 32)), none⟩,
 ⟨(some 7), .p (.mv (.s 33)), none⟩] [1, 2, 3, 5, 7])
 (.seq (.reg [⟨(some 34), .e (.call N.joistlaw16_one [] true), none⟩,
 ⟨(some 35), .p (.mv (.s 2)), none⟩,
 ⟨(some 36), .e (.call N.plan_Layouts [(.s 34), (.s 35)] true), none⟩,
 ⟨(some 8), .p (.mv (.s 36)), none⟩] [1, 2, 3, 5, 7, 8])
 (.seq (.regD [⟨(some 37), .p (.mv (.s 3)), none⟩,
 ⟨(some 38), .p (.bin .eql (.s 37) (.c (.int .i64 0))), none⟩,
 ⟨(some 39), .p (.mv (.s 38)), none⟩,
 ⟨(some 40), .p (.mv (.s 5)), (some (39, true))⟩,
 ⟨(some 41), .p (.bin .eql (.s 40) (.c (.int .i64 18))), (some (39, true))⟩,
 ⟨(some 42), .p (.pick (.s 39) (.s 41) (.c (.bool false))), none⟩,
 ⟨(some 43), .p (.mv (.s 42)), none⟩,
 ⟨(some 44), .p (.mv (.s 2)), (some (43, true))⟩,
 ⟨(some 45), .p (.lenl (.s 44)), (some (43, true))⟩,
 ⟨(some 46), .p (.bin .eql (.s 45) (.c (.int .i64 2))), (some (43, true))⟩,
 ⟨(some 47), .p (.pick (.s 43) (.s 46) (.c (.bool false))), none⟩,
 ⟨(some 48), .p (.mv (.s 47)), none⟩,
 ⟨(some 49), .p (.mv (.s 2)), (some (48, true))⟩,
 ⟨(some 50), .p (.iadr 8 (.s 49) (.c (.int .i64 0))), (some (48, true))⟩,
 ⟨(some 51), .p (.ldn 8 (.s 50)), (some (48, true))⟩,
 ⟨(some 52), .p (.build [.str [], .str [], .str [], .int .i64 0, .int .i64 0, .int .i64 0, .int .i64 0, .str []] [(0, 1, (.c (.str [97]))), (1, 1, (.c (.str [102]))), (3, 1, (.c (.int .i64 4))), (4, 1, (.c (.int .i64 4)))]), (some (48, true))⟩,
 ⟨(some 53), .p (.eqk false (.agg [1, 1, 1, 0, 0, 0, 0, 1]) (.s 51) (.s 52)), (some (48, true))⟩,
 ⟨(some 54), .p (.pick (.s 48) (.s 53) (.c (.bool false))), none⟩,
 ⟨(some 55), .p (.mv (.s 54)), none⟩,
 ⟨(some 56), .p (.mv (.s 2)), (some (55, true))⟩,
 ⟨(some 57), .p (.iadr 8 (.s 56) (.c (.int .i64 1))), (some (55, true))⟩,
 ⟨(some 58), .p (.foff 3 (.s 57)), (some (55, true))⟩,
 ⟨(some 59), .p (.ld (.s 58)), (some (55, true))⟩,
 ⟨(some 60), .p (.bin .eql (.s 59) (.c (.int .i64 5))), (some (55, true))⟩,
 ⟨(some 61), .p (.pick (.s 55) (.s 60) (.c (.bool false))), none⟩,
 ⟨(some 62), .p (.mv (.s 61)), none⟩,
 ⟨(some 63), .p (.mv (.s 2)), (some (62, true))⟩,
 ⟨(some 64), .p (.iadr 8 (.s 63) (.c (.int .i64 1))), (some (62, true))⟩,
 ⟨(some 65), .p (.foff 2 (.s 64)), (some (62, true))⟩,
 ⟨(some 66), .p (.ld (.s 65)), (some (62, true))⟩,
 ⟨(some 67), .p (.bin .eql (.s 66) (.c (.str [113]))), (some (62, true))⟩,
 ⟨(some 68), .p (.pick (.s 62) (.s 67) (.c (.bool false))), none⟩,
 ⟨(some 69), .p (.mv (.s 68)), none⟩,
 ⟨(some 70), .p (.mv (.s 7)), (some (69, true))⟩,
 ⟨(some 71), .p (.lenl (.s 70)), (some (69, true))⟩,
 ⟨(some 72), .p (.bin .eql (.s 71) (.c (.int .i64 1))), (some (69, true))⟩,
 ⟨(some 73), .p (.pick (.s 69) (.s 72) (.c (.bool false))), none⟩,
 ⟨(some 74), .p (.mv (.s 73)), none⟩,
 ⟨(some 75), .p (.mv (.s 7)), (some (74, true))⟩,
 ⟨(some 76), .p (.iadr 5 (.s 75) (.c (.int .i64 0))), (some (74, true))⟩,
 ⟨(some 77), .p (.foff 4 (.s 76)), (some (74, true))⟩,
 ⟨(some 78), .p (.ld (.s 77)), (some (74, true))⟩,
 ⟨(some 79), .p (.lenl (.s 78)), (some (74, true))⟩,
 ⟨(some 80), .p (.bin .eql (.s 79) (.c (.int .i64 2))), (some (74, true))⟩,
 ⟨(some 81), .p (.pick (.s 74) (.s 80) (.c (.bool false))), none⟩,
 ⟨(some 82), .p (.mv (.s 81)), none⟩,
 ⟨(some 83), .p (.mv (.s 8)), (some (82, true))⟩,
 ⟨(some 84), .p (.lenl (.s 83)), (some (82, true))⟩,
 ⟨(some 85), .p (.bin .eql (.s 84) (.c (.int .i64 1))), (some (82, true))⟩,
 ⟨(some 86), .p (.pick (.s 82) (.s 85) (.c (.bool false))), none⟩,
 ⟨(some 87), .p (.mv (.s 86)), none⟩,
 ⟨none, .b 1 1 [.int .i64 0] [(0, 1, (.c (.int .i64 0)))], (some (87, true))⟩,
 ⟨(some 88), .p (.mv (.s 8)), (some (87, true))⟩,
 ⟨none, .b 1 1 [.int .i64 0] [(0, 1, (.c (.int .i64 0)))], (some (87, true))⟩,
 ⟨(some 89), .p (.mv (.s 2)), (some (87, true))⟩,
 ⟨none, .b 1 1 [.int .i64 0] [(0, 1, (.c (.int .i64 0)))], (some (87, true))⟩,
 ⟨(some 90), .p (.iadr 8 (.s 89) (.c (.int .i64 1))), (some (87, true))⟩,
 ⟨none, .b 1 1 [.int .i64 0] [(0, 1, (.c (.int .i64 0)))], (some (87, true))⟩,
 ⟨(some 91), .p (.ldn 8 (.s 90)), (some (87, true))⟩,
 ⟨none, .b 1 1 [.int .i64 0] [(0, 1, (.c (.int .i64 0)))], (some (87, true))⟩,
 ⟨(some 92), .e (.call N.plan_Targets [(.s 88), (.s 91)] true), (some (87, true))⟩,
 ⟨none, .b 1 1 [.int .i64 0] [(0, 1, (.c (.int .i64 0)))], (some (87, true))⟩,
 ⟨(some 93), .e (.bsl 1 1 [.int .i64 0] [(0, 1, (.c (.int .i64 0)))]), (some (87, true))⟩,
 ⟨(some 90), .s (.iadr 8 (.s 89) (.c (.int .i64 1))), (some (87, true))⟩,
 ⟨(some 91), .s (.ldn 8 (.s 90)), (some (87, true))⟩,
 ⟨(some 94), .e (.call N.joistref00_SameInts [(.s 92), (.s 93)] true), (some (87, true))⟩,
 ⟨(some 95), .p (.pick (.s 87) (.s 94) (.c (.bool false))), none⟩,
 ⟨(some 96), .p (.mv (.s 95)), none⟩,
 ⟨(some 97), .p (.ldn 16 (.s 1)), (some (96, true))⟩,
 ⟨(some 98), .e (.call N.plan_Formed [(.s 97)] true), (some (96, true))⟩,
 ⟨(some 99), .p (.pick (.s 96) (.s 98) (.c (.bool false))), none⟩,
 ⟨(some 100), .p (.mv (.s 99)), none⟩,
 ⟨(some 102), .p (.ldn 16 (.s 1)), (some (100, true))⟩,
 ⟨(some 101), .e (.call N.joistlaw16_one [] true), (some (100, true))⟩,
 ⟨(some 102), .s (.ldn 16 (.s 1)), (some (100, true))⟩,
 ⟨(some 103), .e (.call N.plan_Check [(.s 101), (.s 102)] true), (some (100, true))⟩,
 ⟨(some 104), .p (.bin .eql (.s 103) (.c (.int .i64 0))), (some (100, true))⟩,
 ⟨(some 105), .p (.pick (.s 100) (.s 104) (.c (.bool false))), none⟩,
 ⟨(some 0), .p (.mv (.s 105)), none⟩] [0, 1, 2, 3, 4, 5, 6, 7, 8, 9, 10, 11, 12, 13, 14, 15, 16, 17, 18, 19, 20, 21, 22, 23, 24, 25, 26, 27, 28, 29, 30, 31, 32, 33, 34, 35, 36, 37, 38, 39, 40, 41, 42, 43, 44, 45, 46, 47, 48, 49, 50, 51, 52, 53, 54, 55, 56, 57, 58, 59, 60, 61, 62, 63, 65, 64, 66, 67, 68, 69] [0])
 .ret)))))))⟩

def F.joistref00_LongSchema : LFunc := ⟨81, [.t 2], 
 (.seq (.reg [⟨(some 1), .e (.box 10 (.s 0)), none⟩,
 ⟨(some 2), .p (.mv (.c (.bool false))), none⟩] [1])
 (.seq (.seq (.reg [⟨(some 5), .p (.foff 1 (.s 1)), none⟩,
 ⟨(some 6), .p (.ld (.s 5)), none⟩,
 ⟨(some 7), .p (.lenl (.s 6)), none⟩,
 ⟨(some 8), .p (.bin .gtr (.s 7) (.c (.int .i64 20))), none⟩,
 ⟨(some 9), .p (.mv (.s 8)), none⟩,
 ⟨(some 10), .p (.foff 2 (.s 1)), (some (9, false))⟩,
 ⟨(some 11), .p (.foff 1 (.s 10)), (some (9, false))⟩,
 ⟨(some 12), .p (.ld (.s 11)), (some (9, false))⟩,
 ⟨(some 13), .p (.lens (.s 12)), (some (9, false))⟩,
 ⟨(some 14), .p (.bin .gtr (.s 13) (.c (.int .i64 100))), (some (9, false))⟩,
 ⟨(some 15), .p (.pick (.s 9) (.c (.bool true)) (.s 14)), none⟩,
 ⟨(some 16), .p (.mv (.s 15)), none⟩,
 ⟨(some 17), .p (.foff 2 (.s 1)), (some (16, false))⟩,
 ⟨(some 18), .p (.foff 2 (.s 17)), (some (16, false))⟩,
 ⟨(some 19), .p (.ld (.s 18)), (some (16, false))⟩,
 ⟨(some 20), .p (.lens (.s 19)), (some (16, false))⟩,
 ⟨(some 21), .p (.bin .gtr (.s 20) (.c (.int .i64 100))), (some (16, false))⟩,
 ⟨(some 22), .p (.pick (.s 16) (.c (.bool true)) (.s 21)), none⟩] [1, 22])
 (.cond (.s 22) (.seq (.reg [⟨(some 2), .p (.mv (.c (.bool true))), none⟩] [2])
 .ret) .skip))
 (.seq (.seq (.reg [⟨(some 3), .p (.mv (.c (.int .i64 0))), none⟩] [1, 3])
 (.block 0 (.loop (.seq (.seq (.reg [⟨(some 23), .p (.mv (.s 3)), none⟩,
 ⟨(some 24), .p (.foff 1 (.s 1)), none⟩,
 ⟨(some 25), .p (.ld (.s 24)), none⟩,
 ⟨(some 26), .p (.lenl (.s 25)), none⟩,
 ⟨(some 27), .p (.bin .lss (.s 23) (.s 26)), none⟩] [1, 3, 27])
 (.cond (.s 27) .skip (.exit 0)))
 (.seq (.block 1 (.seq (.seq (.reg [⟨(some 30), .p (.foff 1 (.s 1)), none⟩,
 ⟨(some 31), .p (.ld (.s 30)), none⟩,
 ⟨(some 32), .p (.mv (.s 3)), none⟩,
 ⟨(some 33), .p (.iadr 5 (.s 31) (.s 32)), none⟩,
 ⟨(some 34), .p (.foff 0 (.s 33)), none⟩,
 ⟨(some 35), .p (.ld (.s 34)), none⟩,
 ⟨(some 36), .p (.lens (.s 35)), none⟩,
 ⟨(some 37), .p (.bin .gtr (.s 36) (.c (.int .i64 100))), none⟩,
 ⟨(some 38), .p (.mv (.s 37)), none⟩,
 ⟨(some 39), .p (.foff 1 (.s 1)), (some (38, false))⟩,
 ⟨(some 40), .p (.ld (.s 39)), (some (38, false))⟩,
 ⟨(some 41), .p (.mv (.s 3)), (some (38, false))⟩,
 ⟨(some 42), .p (.iadr 5 (.s 40) (.s 41)), (some (38, false))⟩,
 ⟨(some 43), .p (.foff 3 (.s 42)), (some (38, false))⟩,
 ⟨(some 44), .p (.ld (.s 43)), (some (38, false))⟩,
 ⟨(some 45), .p (.lenl (.s 44)), (some (38, false))⟩,
 ⟨(some 46), .p (.bin .gtr (.s 45) (.c (.int .i64 10))), (some (38, false))⟩,
 ⟨(some 47), .p (.pick (.s 38) (.c (.bool true)) (.s 46)), none⟩,
 ⟨(some 48), .p (.mv (.s 47)), none⟩,
 ⟨(some 49), .p (.foff 1 (.s 1)), (some (48, false))⟩,
 ⟨(some 50), .p (.ld (.s 49)), (some (48, false))⟩,
 ⟨(some 51), .p (.mv (.s 3)), (some (48, false))⟩,
 ⟨(some 52), .p (.iadr 5 (.s 50) (.s 51)), (some (48, false))⟩,
 ⟨(some 53), .p (.foff 4 (.s 52)), (some (48, false))⟩,
 ⟨(some 54), .p (.ld (.s 53)), (some (48, false))⟩,
 ⟨(some 55), .p (.lenl (.s 54)), (some (48, false))⟩,
 ⟨(some 56), .p (.bin .gtr (.s 55) (.c (.int .i64 30))), (some (48, false))⟩,
 ⟨(some 57), .p (.pick (.s 48) (.c (.bool true)) (.s 56)), none⟩] [1, 3, 57])
 (.cond (.s 57) (.seq (.reg [⟨(some 2), .p (.mv (.c (.bool true))), none⟩] [2])
 .ret) .skip))
 (.seq (.reg [⟨(some 4), .p (.mv (.c (.int .i64 0))), none⟩] [1, 3, 4])
 (.block 2 (.loop (.seq (.seq (.reg [⟨(some 58), .p (.mv (.s 4)), none⟩,
 ⟨(some 59), .p (.foff 1 (.s 1)), none⟩,
 ⟨(some 60), .p (.ld (.s 59)), none⟩,
 ⟨(some 61), .p (.mv (.s 3)), none⟩,
 ⟨(some 62), .p (.iadr 5 (.s 60) (.s 61)), none⟩,
 ⟨(some 63), .p (.foff 4 (.s 62)), none⟩,
 ⟨(some 64), .p (.ld (.s 63)), none⟩,
 ⟨(some 65), .p (.lenl (.s 64)), none⟩,
 ⟨(some 66), .p (.bin .lss (.s 58) (.s 65)), none⟩] [1, 3, 4, 66])
 (.cond (.s 66) .skip (.exit 2)))
 (.seq (.block 3 (.seq (.reg [⟨(some 69), .p (.foff 1 (.s 1)), none⟩,
 ⟨(some 70), .p (.ld (.s 69)), none⟩,
 ⟨(some 71), .p (.mv (.s 3)), none⟩,
 ⟨(some 72), .p (.iadr 5 (.s 70) (.s 71)), none⟩,
 ⟨(some 73), .p (.foff 4 (.s 72)), none⟩,
 ⟨(some 74), .p (.ld (.s 73)), none⟩,
 ⟨(some 75), .p (.mv (.s 4)), none⟩,
 ⟨(some 76), .p (.iadr 3 (.s 74) (.s 75)), none⟩,
 ⟨(some 77), .p (.foff 0 (.s 76)), none⟩,
 ⟨(some 78), .p (.ld (.s 77)), none⟩,
 ⟨(some 79), .p (.lens (.s 78)), none⟩,
 ⟨(some 80), .p (.bin .gtr (.s 79) (.c (.int .i64 100))), none⟩] [1, 3, 4, 80])
 (.cond (.s 80) (.seq (.reg [⟨(some 2), .p (.mv (.c (.bool true))), none⟩] [2])
 .ret) .skip)))
 (.reg [⟨(some 67), .p (.mv (.s 4)), none⟩,
 ⟨(some 68), .p (.bin .add (.s 67) (.c (.int .i64 1))), none⟩,
 ⟨(some 4), .p (.mv (.s 68)), none⟩] [1, 3, 4]))) [1, 3, 4])))))
 (.reg [⟨(some 28), .p (.mv (.s 3)), none⟩,
 ⟨(some 29), .p (.bin .add (.s 28) (.c (.int .i64 1))), none⟩,
 ⟨(some 3), .p (.mv (.s 29)), none⟩] [1, 3]))) [1, 3])))
 (.seq (.reg [⟨(some 2), .p (.mv (.c (.bool false))), none⟩] [2])
 .ret))))⟩

def F.plan_Layouts : LFunc := ⟨29, [.t 4], 
 (.seq (.reg [⟨(some 2), .e (.box 10 (.s 0)), none⟩,
 ⟨(some 4), .p (.mv (.c (.psl []))), none⟩] [1, 2])
 (.seq (.reg [⟨(some 5), .e (.vnil 2), none⟩] [1, 2, 5])
 (.seq (.seq (.reg [⟨(some 8), .p (.foff 1 (.s 2)), none⟩,
 ⟨(some 9), .p (.ld (.s 8)), none⟩,
 ⟨(some 10), .p (.lenl (.s 9)), none⟩,
 ⟨(some 11), .p (.mv (.c (.int .i64 0))), none⟩] [1, 5, 9, 10, 11])
 (.block 0 (.loop (.seq (.reg [⟨(some 12), .p (.bin .lss (.s 11) (.s 10)), none⟩] [1, 5, 9, 10, 11, 12])
 (.seq (.cond (.s 12) .skip (.exit 0))
 (.seq (.block 1 (.seq (.reg [⟨(some 13), .p (.iadr 5 (.s 9) (.s 11)), none⟩,
 ⟨(some 14), .p (.ldn 5 (.s 13)), none⟩,
 ⟨(some 7), .e (.alloc [.str [], .int .i64 0, .int .i64 0, .psl [], .psl []]), none⟩,
 ⟨none, .e (.stn 5 (.s 7) (.s 14)), none⟩] [1, 5, 7, 9, 10, 11])
 (.seq (.reg [⟨(some 15), .p (.mv (.s 1)), none⟩,
 ⟨(some 16), .p (.mkfn N.plan_Layouts_1 [] [(.s 7)]), none⟩,
 ⟨(some 17), .e (.call N.slices_ContainsFunc_api_Cell_api_Cell_ [(.s 15), (.s 16)] true), none⟩] [1, 5, 7, 9, 10, 11, 17])
 (.cond (.s 17) (.regD [⟨(some 18), .p (.mv (.s 5)), none⟩,
 ⟨(some 19), .p (.foff 0 (.s 7)), none⟩,
 ⟨(some 20), .p (.ld (.s 19)), none⟩,
 ⟨(some 21), .p (.foff 3 (.s 7)), none⟩,
 ⟨(some 22), .p (.ld (.s 21)), none⟩,
 ⟨(some 23), .e (.call N.slices_Clone_api_Layout_api_Layout_ [(.s 22)] true), none⟩,
 ⟨(some 20), .s (.ld (.s 19)), none⟩,
 ⟨(some 24), .p (.build [.str [], .psl []] [(0, 1, (.s 20)), (1, 1, (.s 23))]), none⟩,
 ⟨none, .b 2 1 [.str [], .psl []] [(0, 2, (.s 24))], none⟩,
 ⟨(some 25), .e (.bsl 2 1 [.str [], .psl []] [(0, 2, (.s 24))]), none⟩,
 ⟨(some 26), .e (.app 2 40 (.s 18) (.s 25)), none⟩,
 ⟨(some 5), .p (.mv (.s 26)), none⟩] [0, 1, 2, 3, 4, 5, 6, 7, 8, 9] [1, 5, 9, 10, 11]) .skip))))
 (.reg [⟨(some 27), .p (.bin .add (.s 11) (.c (.int .i64 1))), none⟩,
 ⟨(some 11), .p (.mv (.s 27)), none⟩] [1, 5, 9, 10, 11])))) [1, 5, 9, 10, 11])))
 (.seq (.reg [⟨(some 28), .p (.mv (.s 5)), none⟩,
 ⟨(some 4), .p (.mv (.s 28)), none⟩] [4])
 .ret))))⟩

def F.joistref00_SameInts : LFunc := ⟨26, [.t 4], 
 (.seq (.reg [⟨(some 4), .p (.mv (.c (.bool false))), none⟩] [0, 1])
 (.seq (.seq (.reg [⟨(some 6), .p (.mv (.s 0)), none⟩,
 ⟨(some 7), .p (.lenl (.s 6)), none⟩,
 ⟨(some 8), .p (.mv (.s 1)), none⟩,
 ⟨(some 9), .p (.lenl (.s 8)), none⟩,
 ⟨(some 10), .p (.bin .neq (.s 7) (.s 9)), none⟩] [0, 1, 10])
 (.cond (.s 10) (.seq (.reg [⟨(some 4), .p (.mv (.c (.bool false))), none⟩] [4])
 .ret) .skip))
 (.seq (.seq (.reg [⟨(some 5), .p (.mv (.c (.int .i64 0))), none⟩] [0, 1, 5])
 (.block 0 (.loop (.seq (.seq (.reg [⟨(some 11), .p (.mv (.s 5)), none⟩,
 ⟨(some 12), .p (.mv (.s 0)), none⟩,
 ⟨(some 13), .p (.lenl (.s 12)), none⟩,
 ⟨(some 14), .p (.bin .lss (.s 11) (.s 13)), none⟩] [0, 1, 5, 14])
 (.cond (.s 14) .skip (.exit 0)))
 (.seq (.block 1 (.seq (.regD [⟨(some 17), .p (.mv (.s 0)), none⟩,
 ⟨(some 18), .p (.mv (.s 5)), none⟩,
 ⟨(some 19), .p (.iadr 1 (.s 17) (.s 18)), none⟩,
 ⟨(some 20), .p (.ld (.s 19)), none⟩,
 ⟨(some 21), .p (.mv (.s 1)), none⟩,
 ⟨(some 22), .p (.mv (.s 5)), none⟩,
 ⟨(some 23), .p (.iadr 1 (.s 21) (.s 22)), none⟩,
 ⟨(some 24), .p (.ld (.s 23)), none⟩,
 ⟨(some 25), .p (.bin .neq (.s 20) (.s 24)), none⟩] [0, 1, 2, 3, 4, 5, 6, 7, 8] [0, 1, 5, 25])
 (.cond (.s 25) (.seq (.reg [⟨(some 4), .p (.mv (.c (.bool false))), none⟩] [4])
 .ret) .skip)))
 (.reg [⟨(some 15), .p (.mv (.s 5)), none⟩,
 ⟨(some 16), .p (.bin .add (.s 15) (.c (.int .i64 1))), none⟩,
 ⟨(some 5), .p (.mv (.s 16)), none⟩] [0, 1, 5]))) [0, 1, 5])))
 (.seq (.reg [⟨(some 4), .p (.mv (.c (.bool true))), none⟩] [4])
 .ret))))⟩

def F.plan_Targets : LFunc := ⟨25, [.t 4], 
 (.seq (.reg [⟨(some 3), .e (.box 8 (.s 1)), none⟩,
 ⟨(some 4), .p (.mv (.c (.psl []))), none⟩] [0, 3])
 (.seq (.reg [⟨(some 7), .p (.mv (.s 0)), none⟩,
 ⟨(some 8), .p (.mkfn N.plan_Targets_1 [] [(.s 3)]), none⟩,
 ⟨(some 9), .e (.call N.slices_IndexFunc_api_Layouted_api_Layouted_ [(.s 7), (.s 8)] true), none⟩,
 ⟨(some 5), .p (.mv (.s 9)), none⟩] [0, 3, 5])
 (.seq (.seq (.reg [⟨(some 10), .p (.mv (.s 5)), none⟩,
 ⟨(some 11), .p (.bin .lss (.s 10) (.c (.int .i64 0))), none⟩] [0, 3, 5, 11])
 (.cond (.s 11) (.seq (.reg [⟨(some 4), .p (.mv (.c (.psl []))), none⟩] [4])
 .ret) .skip))
 (.seq (.reg [⟨(some 12), .p (.mv (.s 0)), none⟩,
 ⟨(some 13), .p (.mv (.s 5)), none⟩,
 ⟨(some 14), .p (.iadr 2 (.s 12) (.s 13)), none⟩,
 ⟨(some 15), .p (.foff 1 (.s 14)), none⟩,
 ⟨(some 16), .p (.ld (.s 15)), none⟩,
 ⟨(some 17), .p (.build [.str [], .int .i64 0, .int .i64 0, .psl [], .psl []] [(3, 1, (.s 16))]), none⟩,
 ⟨(some 6), .e (.alloc [.str [], .int .i64 0, .int .i64 0, .psl [], .psl []]), none⟩,
 ⟨none, .e (.stn 5 (.s 6) (.s 17)), none⟩] [3, 6])
 (.seq (.seq (.reg [⟨(some 18), .p (.foff 4 (.s 3)), none⟩,
 ⟨(some 19), .p (.ld (.s 18)), none⟩,
 ⟨(some 20), .p (.bin .eql (.s 19) (.c (.int .i64 1))), none⟩] [6, 20])
 (.cond (.s 20) (.seq (.reg [⟨(some 21), .p (.ldn 5 (.s 6)), none⟩,
 ⟨(some 22), .e (.call N.schema_Written [(.s 21)] true), none⟩,
 ⟨(some 4), .p (.mv (.s 22)), none⟩] [4])
 .ret) .skip))
 (.seq (.reg [⟨(some 23), .p (.ldn 5 (.s 6)), none⟩,
 ⟨(some 24), .e (.call N.schema_Gone [(.s 23)] true), none⟩,
 ⟨(some 4), .p (.mv (.s 24)), none⟩] [4])
 .ret))))))⟩

def F.joistref00_SameFamily : LFunc := ⟨80, [.t 4], 
 (.seq (.reg [⟨(some 2), .e (.box 5 (.s 0)), none⟩,
 ⟨(some 3), .e (.box 5 (.s 1)), none⟩,
 ⟨(some 4), .p (.mv (.c (.bool false))), none⟩] [2, 3])
 (.seq (.seq (.reg [⟨(some 7), .p (.foff 0 (.s 2)), none⟩,
 ⟨(some 8), .p (.ld (.s 7)), none⟩,
 ⟨(some 9), .p (.foff 0 (.s 3)), none⟩,
 ⟨(some 10), .p (.ld (.s 9)), none⟩,
 ⟨(some 11), .p (.bin .neq (.s 8) (.s 10)), none⟩,
 ⟨(some 12), .p (.mv (.s 11)), none⟩,
 ⟨(some 13), .p (.foff 1 (.s 2)), (some (12, false))⟩,
 ⟨(some 14), .p (.ld (.s 13)), (some (12, false))⟩,
 ⟨(some 15), .p (.foff 1 (.s 3)), (some (12, false))⟩,
 ⟨(some 16), .p (.ld (.s 15)), (some (12, false))⟩,
 ⟨(some 17), .p (.bin .neq (.s 14) (.s 16)), (some (12, false))⟩,
 ⟨(some 18), .p (.pick (.s 12) (.c (.bool true)) (.s 17)), none⟩,
 ⟨(some 19), .p (.mv (.s 18)), none⟩,
 ⟨(some 20), .p (.foff 2 (.s 2)), (some (19, false))⟩,
 ⟨(some 21), .p (.ld (.s 20)), (some (19, false))⟩,
 ⟨(some 22), .p (.foff 2 (.s 3)), (some (19, false))⟩,
 ⟨(some 23), .p (.ld (.s 22)), (some (19, false))⟩,
 ⟨(some 24), .p (.bin .neq (.s 21) (.s 23)), (some (19, false))⟩,
 ⟨(some 25), .p (.pick (.s 19) (.c (.bool true)) (.s 24)), none⟩,
 ⟨(some 26), .p (.mv (.s 25)), none⟩,
 ⟨(some 27), .p (.foff 3 (.s 2)), (some (26, false))⟩,
 ⟨(some 28), .p (.ld (.s 27)), (some (26, false))⟩,
 ⟨(some 29), .p (.lenl (.s 28)), (some (26, false))⟩,
 ⟨(some 30), .p (.foff 3 (.s 3)), (some (26, false))⟩,
 ⟨(some 31), .p (.ld (.s 30)), (some (26, false))⟩,
 ⟨(some 32), .p (.lenl (.s 31)), (some (26, false))⟩,
 ⟨(some 33), .p (.bin .neq (.s 29) (.s 32)), (some (26, false))⟩,
 ⟨(some 34), .p (.pick (.s 26) (.c (.bool true)) (.s 33)), none⟩,
 ⟨(some 35), .p (.mv (.s 34)), none⟩,
 ⟨(some 36), .p (.foff 4 (.s 2)), (some (35, false))⟩,
 ⟨(some 37), .p (.ld (.s 36)), (some (35, false))⟩,
 ⟨(some 38), .p (.lenl (.s 37)), (some (35, false))⟩,
 ⟨(some 39), .p (.foff 4 (.s 3)), (some (35, false))⟩,
 ⟨(some 40), .p (.ld (.s 39)), (some (35, false))⟩,
 ⟨(some 41), .p (.lenl (.s 40)), (some (35, false))⟩,
 ⟨(some 42), .p (.bin .neq (.s 38) (.s 41)), (some (35, false))⟩,
 ⟨(some 43), .p (.pick (.s 35) (.c (.bool true)) (.s 42)), none⟩] [2, 3, 43])
 (.cond (.s 43) (.seq (.reg [⟨(some 4), .p (.mv (.c (.bool false))), none⟩] [4])
 .ret) .skip))
 (.seq (.seq (.reg [⟨(some 5), .p (.mv (.c (.int .i64 0))), none⟩] [2, 3, 5])
 (.block 0 (.loop (.seq (.seq (.reg [⟨(some 44), .p (.mv (.s 5)), none⟩,
 ⟨(some 45), .p (.foff 3 (.s 2)), none⟩,
 ⟨(some 46), .p (.ld (.s 45)), none⟩,
 ⟨(some 47), .p (.lenl (.s 46)), none⟩,
 ⟨(some 48), .p (.bin .lss (.s 44) (.s 47)), none⟩] [2, 3, 5, 48])
 (.cond (.s 48) .skip (.exit 0)))
 (.seq (.block 1 (.seq (.regD [⟨(some 51), .p (.foff 3 (.s 2)), none⟩,
 ⟨(some 52), .p (.ld (.s 51)), none⟩,
 ⟨(some 53), .p (.mv (.s 5)), none⟩,
 ⟨(some 54), .p (.iadr 2 (.s 52) (.s 53)), none⟩,
 ⟨(some 55), .p (.ldn 2 (.s 54)), none⟩,
 ⟨(some 56), .p (.foff 3 (.s 3)), none⟩,
 ⟨(some 57), .p (.ld (.s 56)), none⟩,
 ⟨(some 58), .p (.mv (.s 5)), none⟩,
 ⟨(some 59), .p (.iadr 2 (.s 57) (.s 58)), none⟩,
 ⟨(some 60), .p (.ldn 2 (.s 59)), none⟩,
 ⟨(some 61), .p (.eqk true (.agg [0, 0]) (.s 55) (.s 60)), none⟩] [0, 1, 2, 3, 4, 5, 6, 7, 8, 9, 10] [2, 3, 5, 61])
 (.cond (.s 61) (.seq (.reg [⟨(some 4), .p (.mv (.c (.bool false))), none⟩] [4])
 .ret) .skip)))
 (.reg [⟨(some 49), .p (.mv (.s 5)), none⟩,
 ⟨(some 50), .p (.bin .add (.s 49) (.c (.int .i64 1))), none⟩,
 ⟨(some 5), .p (.mv (.s 50)), none⟩] [2, 3, 5]))) [2, 3, 5])))
 (.seq (.seq (.reg [⟨(some 6), .p (.mv (.c (.int .i64 0))), none⟩] [2, 3, 6])
 (.block 2 (.loop (.seq (.seq (.reg [⟨(some 62), .p (.mv (.s 6)), none⟩,
 ⟨(some 63), .p (.foff 4 (.s 2)), none⟩,
 ⟨(some 64), .p (.ld (.s 63)), none⟩,
 ⟨(some 65), .p (.lenl (.s 64)), none⟩,
 ⟨(some 66), .p (.bin .lss (.s 62) (.s 65)), none⟩] [2, 3, 6, 66])
 (.cond (.s 66) .skip (.exit 2)))
 (.seq (.block 3 (.seq (.regD [⟨(some 69), .p (.foff 4 (.s 2)), none⟩,
 ⟨(some 70), .p (.ld (.s 69)), none⟩,
 ⟨(some 71), .p (.mv (.s 6)), none⟩,
 ⟨(some 72), .p (.iadr 3 (.s 70) (.s 71)), none⟩,
 ⟨(some 73), .p (.ldn 3 (.s 72)), none⟩,
 ⟨(some 74), .p (.foff 4 (.s 3)), none⟩,
 ⟨(some 75), .p (.ld (.s 74)), none⟩,
 ⟨(some 76), .p (.mv (.s 6)), none⟩,
 ⟨(some 77), .p (.iadr 3 (.s 75) (.s 76)), none⟩,
 ⟨(some 78), .p (.ldn 3 (.s 77)), none⟩,
 ⟨(some 79), .p (.eqk true (.agg [1, 0, 0]) (.s 73) (.s 78)), none⟩] [0, 1, 2, 3, 4, 5, 6, 7, 8, 9, 10] [2, 3, 6, 79])
 (.cond (.s 79) (.seq (.reg [⟨(some 4), .p (.mv (.c (.bool false))), none⟩] [4])
 .ret) .skip)))
 (.reg [⟨(some 67), .p (.mv (.s 6)), none⟩,
 ⟨(some 68), .p (.bin .add (.s 67) (.c (.int .i64 1))), none⟩,
 ⟨(some 6), .p (.mv (.s 68)), none⟩] [2, 3, 6]))) [2, 3, 6])))
 (.seq (.reg [⟨(some 4), .p (.mv (.c (.bool true))), none⟩] [4])
 .ret)))))⟩

def F.joistlaw16_long : LFunc := ⟨11, [.t 4], 
 (.seq (.reg [⟨(some 2), .e (.box 10 (.s 0)), none⟩,
 ⟨(some 3), .e (.box 16 (.s 1)), none⟩,
 ⟨(some 4), .p (.mv (.c (.bool false))), none⟩] [2, 3])
 (.seq (.reg [⟨(some 5), .p (.ldn 10 (.s 2)), none⟩,
 ⟨(some 6), .e (.call N.joistref00_LongSchema [(.s 5)] true), none⟩,
 ⟨(some 7), .p (.mv (.s 6)), none⟩,
 ⟨(some 8), .p (.ldn 16 (.s 3)), (some (7, false))⟩,
 ⟨(some 9), .e (.call N.joistref00_LongRequest [(.s 8)] true), (some (7, false))⟩,
 ⟨(some 10), .p (.pick (.s 7) (.c (.bool true)) (.s 9)), none⟩,
 ⟨(some 4), .p (.mv (.s 10)), none⟩] [4])
 .ret))⟩

def F.plan_Cells : LFunc := ⟨52, [.t 6, .t 7], 
 (.seq (.reg [⟨(some 3), .e (.box 10 (.s 0)), none⟩,
 ⟨(some 4), .e (.box 16 (.s 1)), none⟩,
 ⟨(some 6), .p (.mv (.c (.psl []))), none⟩,
 ⟨(some 7), .p (.mv (.c (.int .i64 0))), none⟩] [2, 3, 4])
 (.seq (.reg [⟨(some 12), .p (.ldn 10 (.s 3)), none⟩,
 ⟨(some 13), .p (.ldn 16 (.s 4)), none⟩,
 ⟨(some 14), .e (.call N.plan_Check [(.s 12), (.s 13)] true), none⟩,
 ⟨(some 8), .p (.mv (.s 14)), none⟩] [2, 3, 4, 8])
 (.seq (.block 0 (.seq (.reg [⟨(some 16), .p (.mv (.s 8)), none⟩,
 ⟨(some 17), .p (.bin .neq (.s 16) (.c (.int .i64 0))), none⟩,
 ⟨(some 15), .p (.mv (.s 17)), none⟩] [2, 3, 4, 8, 15])
 (.cond (.s 15) (.seq (.reg [⟨(some 18), .p (.mv (.s 8)), none⟩,
 ⟨(some 6), .p (.mv (.c (.psl []))), none⟩,
 ⟨(some 7), .p (.mv (.s 18)), none⟩] [6, 7])
 .ret) (.seq (.reg [⟨(some 20), .p (.foff 0 (.s 4)), none⟩,
 ⟨(some 21), .p (.ld (.s 20)), none⟩,
 ⟨(some 22), .p (.bin .eql (.s 21) (.c (.int .i64 3))), none⟩,
 ⟨(some 19), .p (.mv (.s 22)), none⟩] [2, 3, 4, 19])
 (.cond (.s 19) (.seq (.reg [⟨(some 6), .p (.mv (.c (.psl []))), none⟩,
 ⟨(some 7), .p (.mv (.c (.int .i64 10))), none⟩] [6, 7])
 .ret) (.seq (.reg [⟨(some 24), .p (.mv (.s 2)), none⟩,
 ⟨(some 25), .p (.bin .lss (.s 24) (.c (.int .i64 1))), none⟩,
 ⟨(some 26), .p (.mv (.s 25)), none⟩,
 ⟨(some 27), .p (.mv (.s 2)), (some (26, false))⟩,
 ⟨(some 28), .p (.bin .gtr (.s 27) (.c (.int .i64 1099511627776))), (some (26, false))⟩,
 ⟨(some 29), .p (.pick (.s 26) (.c (.bool true)) (.s 28)), none⟩,
 ⟨(some 23), .p (.mv (.s 29)), none⟩] [2, 3, 4, 23])
 (.cond (.s 23) (.seq (.reg [⟨(some 6), .p (.mv (.c (.psl []))), none⟩,
 ⟨(some 7), .p (.mv (.c (.int .i64 18))), none⟩] [6, 7])
 .ret) .skip)))))))
 (.seq (.reg [⟨(some 30), .p (.ldn 10 (.s 3)), none⟩,
 ⟨(some 31), .p (.build [.int .i64 0, .psl [], .int .i64 0, .str [], .str [], .int .i64 0, .int .i64 0, .int .i64 0, .int .i64 0, .int .i64 0] [(0, 10, (.s 30))]), none⟩,
 ⟨(some 32), .p (.foff 1 (.s 4)), none⟩,
 ⟨(some 33), .p (.ld (.s 32)), none⟩,
 ⟨(some 34), .p (.mv (.s 2)), none⟩,
 ⟨(some 35), .p (.build [.int .i64 0, .psl [], .int .i64 0, .str [], .str [], .int .i64 0, .int .i64 0, .int .i64 0, .int .i64 0, .int .i64 0, .str [], .int .i64 0, .vn] [(0, 10, (.s 31)), (10, 1, (.s 33)), (11, 1, (.s 34))]), none⟩,
 ⟨(some 36), .e (.boxv 13 [(12, 8)] (.s 35)), none⟩,
 ⟨(some 9), .p (.mv (.s 36)), none⟩] [4, 9])
 (.seq (.seq (.reg [⟨(some 37), .p (.foff 3 (.s 4)), none⟩,
 ⟨(some 38), .p (.ld (.s 37)), none⟩,
 ⟨(some 39), .p (.lenl (.s 38)), none⟩,
 ⟨(some 40), .p (.mv (.c (.int .i64 0))), none⟩] [9, 38, 39, 40])
 (.block 1 (.loop (.seq (.reg [⟨(some 41), .p (.bin .lss (.s 40) (.s 39)), none⟩] [9, 38, 39, 40, 41])
 (.seq (.cond (.s 41) .skip (.exit 1))
 (.seq (.block 2 (.seq (.reg [⟨(some 42), .p (.iadr 6 (.s 38) (.s 40)), none⟩,
 ⟨(some 43), .p (.ldn 6 (.s 42)), none⟩,
 ⟨(some 11), .e (.alloc [.int .i64 0, .str [], .str [], .int .i64 0, .int .i64 0, .str []]), none⟩,
 ⟨none, .e (.stn 6 (.s 11) (.s 43)), none⟩] [9, 11, 38, 39, 40])
 (.reg [⟨(some 44), .p (.mv (.s 9)), none⟩,
 ⟨(some 45), .p (.ldn 6 (.s 11)), none⟩,
 ⟨(some 46), .e (.call N.plan_maker_do [(.s 44), (.s 45)] true), none⟩] [9, 38, 39, 40])))
 (.reg [⟨(some 47), .p (.bin .add (.s 40) (.c (.int .i64 1))), none⟩,
 ⟨(some 40), .p (.mv (.s 47)), none⟩] [9, 38, 39, 40])))) [9, 38, 39, 40])))
 (.seq (.reg [⟨(some 48), .p (.mv (.s 9)), none⟩,
 ⟨(some 49), .p (.nilc (.s 48)), none⟩,
 ⟨(some 50), .p (.foff 12 (.s 49)), none⟩,
 ⟨(some 51), .p (.ld (.s 50)), none⟩,
 ⟨(some 6), .p (.mv (.s 51)), none⟩,
 ⟨(some 7), .p (.mv (.c (.int .i64 0))), none⟩] [6, 7])
 .ret))))))⟩

def F.joistref03_Order : LFunc := ⟨59, [.t 4], 
 (.seq (.reg [⟨(some 2), .e (.box 8 (.s 0)), none⟩,
 ⟨(some 3), .e (.box 8 (.s 1)), none⟩,
 ⟨(some 4), .p (.mv (.c (.int .i64 0))), none⟩] [2, 3])
 (.seq (.reg [⟨(some 5), .p (.mv (.c (.int .i64 1))), none⟩] [2, 3, 5])
 (.seq (.reg [⟨(some 6), .p (.mv (.c (.int .i64 1))), none⟩] [2, 3, 5, 6])
 (.seq (.seq (.reg [⟨(some 9), .p (.foff 4 (.s 2)), none⟩,
 ⟨(some 10), .p (.ld (.s 9)), none⟩,
 ⟨(some 11), .p (.bin .eql (.s 10) (.c (.int .i64 4))), none⟩] [2, 3, 5, 6, 11])
 (.cond (.s 11) (.reg [⟨(some 5), .p (.mv (.c (.int .i64 0))), none⟩] [2, 3, 5, 6]) .skip))
 (.seq (.seq (.reg [⟨(some 12), .p (.foff 4 (.s 3)), none⟩,
 ⟨(some 13), .p (.ld (.s 12)), none⟩,
 ⟨(some 14), .p (.bin .eql (.s 13) (.c (.int .i64 4))), none⟩] [2, 3, 5, 6, 14])
 (.cond (.s 14) (.reg [⟨(some 6), .p (.mv (.c (.int .i64 0))), none⟩] [2, 3, 5, 6]) .skip))
 (.seq (.regD [⟨(some 15), .p (.foff 0 (.s 2)), none⟩,
 ⟨(some 16), .p (.ld (.s 15)), none⟩,
 ⟨(some 17), .p (.foff 0 (.s 3)), none⟩,
 ⟨(some 18), .p (.ld (.s 17)), none⟩,
 ⟨(some 20), .p (.foff 1 (.s 2)), none⟩,
 ⟨(some 21), .p (.ld (.s 20)), none⟩,
 ⟨(some 22), .p (.foff 1 (.s 3)), none⟩,
 ⟨(some 23), .p (.ld (.s 22)), none⟩,
 ⟨(some 25), .p (.mv (.s 5)), none⟩,
 ⟨(some 26), .p (.mv (.s 6)), none⟩,
 ⟨(some 28), .p (.foff 2 (.s 2)), none⟩,
 ⟨(some 29), .p (.ld (.s 28)), none⟩,
 ⟨(some 30), .p (.foff 2 (.s 3)), none⟩,
 ⟨(some 31), .p (.ld (.s 30)), none⟩,
 ⟨(some 33), .p (.foff 3 (.s 3)), none⟩,
 ⟨(some 34), .p (.ld (.s 33)), none⟩,
 ⟨(some 35), .p (.foff 3 (.s 2)), none⟩,
 ⟨(some 36), .p (.ld (.s 35)), none⟩,
 ⟨(some 38), .p (.foff 4 (.s 3)), none⟩,
 ⟨(some 39), .p (.ld (.s 38)), none⟩,
 ⟨(some 40), .p (.foff 4 (.s 2)), none⟩,
 ⟨(some 41), .p (.ld (.s 40)), none⟩,
 ⟨(some 19), .e (.call N.joistref00_Texts [(.s 16), (.s 18)] true), none⟩,
 ⟨(some 21), .s (.ld (.s 20)), none⟩,
 ⟨(some 23), .s (.ld (.s 22)), none⟩,
 ⟨(some 29), .s (.ld (.s 28)), none⟩,
 ⟨(some 31), .s (.ld (.s 30)), none⟩,
 ⟨(some 34), .s (.ld (.s 33)), none⟩,
 ⟨(some 36), .s (.ld (.s 35)), none⟩,
 ⟨(some 39), .s (.ld (.s 38)), none⟩,
 ⟨(some 41), .s (.ld (.s 40)), none⟩,
 ⟨(some 24), .e (.call N.joistref00_Texts [(.s 21), (.s 23)] true), none⟩,
 ⟨(some 29), .s (.ld (.s 28)), none⟩,
 ⟨(some 31), .s (.ld (.s 30)), none⟩,
 ⟨(some 34), .s (.ld (.s 33)), none⟩,
 ⟨(some 36), .s (.ld (.s 35)), none⟩,
 ⟨(some 39), .s (.ld (.s 38)), none⟩,
 ⟨(some 41), .s (.ld (.s 40)), none⟩,
 ⟨(some 27), .e (.call N.joistref03_cmp [(.s 25), (.s 26)] true), none⟩,
 ⟨(some 29), .s (.ld (.s 28)), none⟩,
 ⟨(some 31), .s (.ld (.s 30)), none⟩,
 ⟨(some 34), .s (.ld (.s 33)), none⟩,
 ⟨(some 36), .s (.ld (.s 35)), none⟩,
 ⟨(some 39), .s (.ld (.s 38)), none⟩,
 ⟨(some 41), .s (.ld (.s 40)), none⟩,
 ⟨(some 32), .e (.call N.joistref00_Texts [(.s 29), (.s 31)] true), none⟩,
 ⟨(some 34), .s (.ld (.s 33)), none⟩,
 ⟨(some 36), .s (.ld (.s 35)), none⟩,
 ⟨(some 39), .s (.ld (.s 38)), none⟩,
 ⟨(some 41), .s (.ld (.s 40)), none⟩,
 ⟨(some 37), .e (.call N.joistref03_cmp [(.s 34), (.s 36)] true), none⟩,
 ⟨(some 39), .s (.ld (.s 38)), none⟩,
 ⟨(some 41), .s (.ld (.s 40)), none⟩,
 ⟨(some 42), .e (.call N.joistref03_cmp [(.s 39), (.s 41)] true), none⟩,
 ⟨none, .b 1 6 [.int .i64 0] [(0, 1, (.s 19)), (1, 1, (.s 24)), (2, 1, (.s 27)), (3, 1, (.s 32)), (4, 1, (.s 37)), (5, 1, (.s 42))], none⟩,
 ⟨(some 43), .e (.bsl 1 6 [.int .i64 0] [(0, 1, (.s 19)), (1, 1, (.s 24)), (2, 1, (.s 27)), (3, 1, (.s 32)), (4, 1, (.s 37)), (5, 1, (.s 42))]), none⟩,
 ⟨(some 7), .p (.mv (.s 43)), none⟩] [0, 1, 2, 3, 5, 6, 7, 8, 10, 11, 13, 14, 15, 16, 18, 19, 20, 21, 23, 24, 25, 26, 4, 9, 12, 17, 22, 27, 28, 29] [7])
 (.seq (.seq (.reg [⟨(some 8), .p (.mv (.c (.int .i64 0))), none⟩] [7, 8])
 (.block 0 (.loop (.seq (.seq (.reg [⟨(some 44), .p (.mv (.s 8)), none⟩,
 ⟨(some 45), .p (.mv (.s 7)), none⟩,
 ⟨(some 46), .p (.lenl (.s 45)), none⟩,
 ⟨(some 47), .p (.bin .lss (.s 44) (.s 46)), none⟩] [7, 8, 47])
 (.cond (.s 47) .skip (.exit 0)))
 (.seq (.block 1 (.seq (.reg [⟨(some 50), .p (.mv (.s 7)), none⟩,
 ⟨(some 51), .p (.mv (.s 8)), none⟩,
 ⟨(some 52), .p (.iadr 1 (.s 50) (.s 51)), none⟩,
 ⟨(some 53), .p (.ld (.s 52)), none⟩,
 ⟨(some 54), .p (.bin .neq (.s 53) (.c (.int .i64 0))), none⟩] [7, 8, 54])
 (.cond (.s 54) (.seq (.reg [⟨(some 55), .p (.mv (.s 7)), none⟩,
 ⟨(some 56), .p (.mv (.s 8)), none⟩,
 ⟨(some 57), .p (.iadr 1 (.s 55) (.s 56)), none⟩,
 ⟨(some 58), .p (.ld (.s 57)), none⟩,
 ⟨(some 4), .p (.mv (.s 58)), none⟩] [4])
 .ret) .skip)))
 (.reg [⟨(some 48), .p (.mv (.s 8)), none⟩,
 ⟨(some 49), .p (.bin .add (.s 48) (.c (.int .i64 1))), none⟩,
 ⟨(some 8), .p (.mv (.s 49)), none⟩] [7, 8]))) [7, 8])))
 (.seq (.reg [⟨(some 4), .p (.mv (.c (.int .i64 0))), none⟩] [4])
 .ret))))))))⟩

def F.joistref16_Family : LFunc := ⟨21, [.t 4], 
 (.seq (.reg [⟨(some 2), .e (.box 10 (.s 0)), none⟩,
 ⟨(some 4), .p (.mv (.c (.bool false))), none⟩] [1, 2])
 (.seq (.reg [⟨(some 10), .p (.ldn 10 (.s 2)), none⟩,
 ⟨(some 11), .p (.mv (.s 1)), none⟩,
 ⟨(some 12), .e (.call N.joistref14_Find [(.s 10), (.s 11)] true), none⟩,
 ⟨(some 9), .p (.mv (.s 12)), none⟩,
 ⟨(some 13), .p (.ext (.s 9) 0), none⟩,
 ⟨(some 14), .p (.ext (.s 9) 1), none⟩,
 ⟨(some 5), .e (.alloc [.str [], .int .i64 0, .int .i64 0, .psl [], .psl []]), none⟩,
 ⟨none, .e (.stn 5 (.s 5) (.s 13)), none⟩,
 ⟨(some 6), .p (.mv (.s 14)), none⟩] [5])
 (.seq (.reg [⟨(some 16), .p (.ldn 5 (.s 5)), none⟩,
 ⟨(some 17), .e (.call N.joistref14_Read [(.s 16)] true), none⟩,
 ⟨(some 15), .p (.mv (.s 17)), none⟩,
 ⟨(some 18), .p (.ext (.s 15) 0), none⟩,
 ⟨(some 19), .p (.ext (.s 15) 1), none⟩,
 ⟨(some 7), .p (.mv (.s 18)), none⟩,
 ⟨(some 8), .p (.mv (.s 19)), none⟩] [8])
 (.seq (.reg [⟨(some 20), .p (.mv (.s 8)), none⟩,
 ⟨(some 4), .p (.mv (.s 20)), none⟩] [4])
 .ret))))⟩

def F.joistref16_Column : LFunc := ⟨34, [.t 6], 
 (.seq (.reg [⟨(some 3), .e (.box 10 (.s 0)), none⟩,
 ⟨(some 6), .p (.mv (.c (.int .i64 0))), none⟩] [1, 2, 3])
 (.seq (.reg [⟨(some 12), .p (.ldn 10 (.s 3)), none⟩,
 ⟨(some 13), .p (.mv (.s 1)), none⟩,
 ⟨(some 14), .e (.call N.joistref14_Find [(.s 12), (.s 13)] true), none⟩,
 ⟨(some 11), .p (.mv (.s 14)), none⟩,
 ⟨(some 15), .p (.ext (.s 11) 0), none⟩,
 ⟨(some 16), .p (.ext (.s 11) 1), none⟩,
 ⟨(some 7), .e (.alloc [.str [], .int .i64 0, .int .i64 0, .psl [], .psl []]), none⟩,
 ⟨none, .e (.stn 5 (.s 7) (.s 15)), none⟩,
 ⟨(some 8), .p (.mv (.s 16)), none⟩] [1, 2, 3, 7])
 (.seq (.reg [⟨(some 18), .p (.ldn 5 (.s 7)), none⟩,
 ⟨(some 19), .p (.mv (.s 2)), none⟩,
 ⟨(some 20), .e (.call N.joistref14_Column [(.s 18), (.s 19)] true), none⟩,
 ⟨(some 17), .p (.mv (.s 20)), none⟩,
 ⟨(some 21), .p (.ext (.s 17) 0), none⟩,
 ⟨(some 22), .p (.ext (.s 17) 1), none⟩,
 ⟨(some 9), .e (.alloc [.str [], .int .i64 0, .int .i64 0]), none⟩,
 ⟨none, .e (.stn 3 (.s 9) (.s 21)), none⟩,
 ⟨(some 10), .p (.mv (.s 22)), none⟩] [1, 3, 9])
 (.seq (.seq (.reg [⟨(some 23), .p (.ldn 10 (.s 3)), none⟩,
 ⟨(some 24), .p (.mv (.s 1)), none⟩,
 ⟨(some 25), .e (.call N.joistref16_Family [(.s 23), (.s 24)] true), none⟩,
 ⟨(some 26), .p (.un .not (.s 25)), none⟩,
 ⟨(some 27), .p (.mv (.s 26)), none⟩,
 ⟨(some 28), .p (.foff 2 (.s 9)), (some (27, false))⟩,
 ⟨(some 29), .p (.ld (.s 28)), (some (27, false))⟩,
 ⟨(some 30), .p (.bin .neq (.s 29) (.c (.int .i64 3))), (some (27, false))⟩,
 ⟨(some 31), .p (.pick (.s 27) (.c (.bool true)) (.s 30)), none⟩] [9, 31])
 (.cond (.s 31) (.seq (.reg [⟨(some 6), .p (.mv (.c (.int .i64 0))), none⟩] [6])
 .ret) .skip))
 (.seq (.reg [⟨(some 32), .p (.foff 1 (.s 9)), none⟩,
 ⟨(some 33), .p (.ld (.s 32)), none⟩,
 ⟨(some 6), .p (.mv (.s 33)), none⟩] [6])
 .ret)))))⟩

def F.plan_Visible : LFunc := ⟨67, [.cn 4 7, .t 5], 
 (.seq (.reg [⟨(some 2), .e (.box 10 (.s 0)), none⟩,
 ⟨(some 3), .e (.box 16 (.s 1)), none⟩,
 ⟨(some 4), .e (.alloc [.psl [], .str [], .str [], .int .i64 0, .int .i64 0, .int .i64 0, .int .i64 0]), none⟩,
 ⟨(some 5), .p (.mv (.c (.psl []))), none⟩] [2, 3, 4])
 (.seq (.seq (.reg [⟨(some 11), .p (.foff 0 (.s 3)), none⟩,
 ⟨(some 12), .p (.ld (.s 11)), none⟩,
 ⟨(some 13), .p (.bin .neq (.s 12) (.c (.int .i64 3))), none⟩,
 ⟨(some 14), .p (.mv (.s 13)), none⟩,
 ⟨(some 15), .p (.ldn 10 (.s 2)), (some (14, false))⟩,
 ⟨(some 16), .p (.ldn 16 (.s 3)), (some (14, false))⟩,
 ⟨(some 17), .e (.call N.plan_Check [(.s 15), (.s 16)] true), (some (14, false))⟩,
 ⟨(some 18), .p (.bin .neq (.s 17) (.c (.int .i64 0))), (some (14, false))⟩,
 ⟨(some 19), .p (.pick (.s 14) (.c (.bool true)) (.s 18)), none⟩] [2, 3, 4, 19])
 (.cond (.s 19) (.seq (.reg [⟨(some 20), .p (.build [.psl [], .str [], .str [], .int .i64 0, .int .i64 0, .int .i64 0, .int .i64 0] []), none⟩,
 ⟨none, .e (.stn 7 (.s 4) (.s 20)), none⟩,
 ⟨(some 5), .p (.mv (.c (.psl []))), none⟩] [4, 5])
 .ret) .skip))
 (.seq (.reg [⟨(some 6), .e (.vnil 5), none⟩] [2, 3, 4, 6])
 (.seq (.seq (.reg [⟨(some 21), .p (.foff 1 (.s 2)), none⟩,
 ⟨(some 22), .p (.ld (.s 21)), none⟩,
 ⟨(some 23), .p (.lenl (.s 22)), none⟩,
 ⟨(some 24), .p (.mv (.c (.int .i64 0))), none⟩] [3, 4, 6, 22, 23, 24])
 (.block 0 (.loop (.seq (.reg [⟨(some 25), .p (.bin .lss (.s 24) (.s 23)), none⟩] [3, 4, 6, 22, 23, 24, 25])
 (.seq (.cond (.s 25) .skip (.exit 0))
 (.seq (.block 1 (.seq (.reg [⟨(some 26), .p (.iadr 5 (.s 22) (.s 24)), none⟩,
 ⟨(some 27), .p (.ldn 5 (.s 26)), none⟩,
 ⟨(some 8), .e (.alloc [.str [], .int .i64 0, .int .i64 0, .psl [], .psl []]), none⟩,
 ⟨none, .e (.stn 5 (.s 8) (.s 27)), none⟩] [3, 4, 6, 8, 22, 23, 24])
 (.seq (.reg [⟨(some 29), .p (.ldn 5 (.s 8)), none⟩,
 ⟨(some 30), .e (.call N.schema_Read [(.s 29)] true), none⟩,
 ⟨(some 28), .p (.mv (.s 30)), none⟩,
 ⟨(some 31), .p (.ext (.s 28) 0), none⟩,
 ⟨(some 32), .p (.ext (.s 28) 1), none⟩,
 ⟨(some 9), .p (.mv (.s 31)), none⟩,
 ⟨(some 10), .p (.mv (.s 32)), none⟩] [3, 4, 6, 8, 9, 10, 22, 23, 24])
 (.seq (.reg [⟨(some 33), .p (.mv (.s 10)), none⟩,
 ⟨(some 34), .p (.mv (.s 33)), none⟩,
 ⟨(some 35), .p (.foff 9 (.s 3)), (some (34, true))⟩,
 ⟨(some 36), .p (.foff 0 (.s 35)), (some (34, true))⟩,
 ⟨(some 37), .p (.ld (.s 36)), (some (34, true))⟩,
 ⟨(some 38), .p (.lenl (.s 37)), (some (34, true))⟩,
 ⟨(some 39), .p (.bin .eql (.s 38) (.c (.int .i64 0))), (some (34, true))⟩,
 ⟨(some 40), .p (.mv (.s 39)), (some (34, true))⟩,
 ⟨(some 41), .p (.foff 9 (.s 3)), (some (40, false))⟩,
 ⟨(some 42), .p (.foff 0 (.s 41)), (some (40, false))⟩,
 ⟨(some 43), .p (.ld (.s 42)), (some (40, false))⟩,
 ⟨(some 44), .p (.foff 0 (.s 8)), (some (40, false))⟩,
 ⟨(some 45), .p (.ld (.s 44)), (some (40, false))⟩,
 ⟨(some 46), .e (.call N.slices_Contains_string_string_ [(.s 43), (.s 45)] true), (some (40, false))⟩,
 ⟨(some 47), .p (.pick (.s 40) (.c (.bool true)) (.s 46)), (some (34, true))⟩,
 ⟨(some 48), .p (.pick (.s 34) (.s 47) (.c (.bool false))), none⟩] [3, 4, 6, 8, 9, 22, 23, 24, 48])
 (.cond (.s 48) (.regD [⟨(some 49), .p (.mv (.s 6)), none⟩,
 ⟨(some 50), .p (.foff 0 (.s 8)), none⟩,
 ⟨(some 51), .p (.ld (.s 50)), none⟩,
 ⟨(some 52), .p (.mv (.s 9)), none⟩,
 ⟨(some 53), .p (.foff 1 (.s 8)), none⟩,
 ⟨(some 54), .p (.ld (.s 53)), none⟩,
 ⟨(some 55), .p (.foff 2 (.s 8)), none⟩,
 ⟨(some 56), .p (.ld (.s 55)), none⟩,
 ⟨(some 57), .p (.ldn 5 (.s 8)), none⟩,
 ⟨(some 58), .e (.call N.plan_quals [(.s 57)] true), none⟩,
 ⟨(some 51), .s (.ld (.s 50)), none⟩,
 ⟨(some 54), .s (.ld (.s 53)), none⟩,
 ⟨(some 56), .s (.ld (.s 55)), none⟩,
 ⟨(some 59), .p (.build [.str [], .int .i64 0, .int .i64 0, .int .i64 0, .psl []] [(0, 1, (.s 51)), (1, 1, (.s 52)), (2, 1, (.s 54)), (3, 1, (.s 56)), (4, 1, (.s 58))]), none⟩,
 ⟨none, .b 5 1 [.str [], .int .i64 0, .int .i64 0, .int .i64 0, .psl []] [(0, 5, (.s 59))], none⟩,
 ⟨(some 60), .e (.bsl 5 1 [.str [], .int .i64 0, .int .i64 0, .int .i64 0, .psl []] [(0, 5, (.s 59))]), none⟩,
 ⟨(some 61), .e (.app 5 64 (.s 49) (.s 60)), none⟩,
 ⟨(some 6), .p (.mv (.s 61)), none⟩] [0, 1, 2, 3, 4, 5, 6, 7, 8, 9, 10, 11, 12, 13] [3, 4, 6, 22, 23, 24]) .skip)))))
 (.reg [⟨(some 62), .p (.bin .add (.s 24) (.c (.int .i64 1))), none⟩,
 ⟨(some 24), .p (.mv (.s 62)), none⟩] [3, 4, 6, 22, 23, 24])))) [3, 4, 6, 22, 23, 24])))
 (.seq (.reg [⟨(some 63), .p (.foff 9 (.s 3)), none⟩,
 ⟨(some 64), .p (.ldn 7 (.s 63)), none⟩,
 ⟨(some 65), .e (.call N.filter_Clone [(.s 64)] true), none⟩,
 ⟨(some 66), .p (.mv (.s 6)), none⟩,
 ⟨none, .e (.stn 7 (.s 4) (.s 65)), none⟩,
 ⟨(some 5), .p (.mv (.s 66)), none⟩] [4, 5])
 .ret)))))⟩

def F.plan_Check : LFunc := ⟨45, [.t 4], 
 (.seq (.reg [⟨(some 2), .e (.box 10 (.s 0)), none⟩,
 ⟨(some 3), .e (.box 16 (.s 1)), none⟩,
 ⟨(some 4), .p (.mv (.c (.int .i64 0))), none⟩] [2, 3])
 (.seq (.seq (.reg [⟨(some 7), .p (.ldn 10 (.s 2)), none⟩,
 ⟨(some 8), .e (.call N.schema_Right [(.s 7)] true), none⟩,
 ⟨(some 9), .p (.un .not (.s 8)), none⟩,
 ⟨(some 10), .p (.mv (.s 9)), none⟩,
 ⟨(some 11), .p (.ldn 16 (.s 3)), (some (10, false))⟩,
 ⟨(some 12), .e (.call N.plan_Formed [(.s 11)] true), (some (10, false))⟩,
 ⟨(some 13), .p (.un .not (.s 12)), (some (10, false))⟩,
 ⟨(some 14), .p (.pick (.s 10) (.c (.bool true)) (.s 13)), none⟩] [2, 3, 14])
 (.cond (.s 14) (.seq (.reg [⟨(some 4), .p (.mv (.c (.int .i64 10))), none⟩] [4])
 .ret) .skip))
 (.seq (.reg [⟨(some 15), .p (.ldn 10 (.s 2)), none⟩,
 ⟨(some 16), .p (.build [.int .i64 0, .psl [], .int .i64 0, .str [], .str [], .int .i64 0, .int .i64 0, .int .i64 0, .int .i64 0, .int .i64 0] [(0, 10, (.s 15))]), none⟩,
 ⟨(some 5), .e (.alloc [.int .i64 0, .psl [], .int .i64 0, .str [], .str [], .int .i64 0, .int .i64 0, .int .i64 0, .int .i64 0, .int .i64 0]), none⟩,
 ⟨none, .e (.stn 10 (.s 5) (.s 16)), none⟩] [3, 5])
 (.seq (.seq (.reg [⟨(some 17), .p (.foff 0 (.s 3)), none⟩,
 ⟨(some 18), .p (.ld (.s 17)), none⟩,
 ⟨(some 19), .p (.bin .eql (.s 18) (.c (.int .i64 3))), none⟩] [3, 5, 19])
 (.cond (.s 19) (.seq (.reg [⟨(some 20), .p (.foff 9 (.s 3)), none⟩,
 ⟨(some 21), .p (.foff 0 (.s 20)), none⟩,
 ⟨(some 22), .p (.ld (.s 21)), none⟩,
 ⟨(some 23), .p (.ldn 10 (.s 5)), none⟩,
 ⟨(some 24), .p (.mkfn N.plan_view_named [(.s 23)] []), none⟩,
 ⟨(some 25), .e (.call N.plan_first_string [(.s 22), (.s 24)] true), none⟩,
 ⟨(some 4), .p (.mv (.s 25)), none⟩] [4])
 .ret) .skip))
 (.seq (.seq (.reg [⟨(some 26), .p (.foff 0 (.s 3)), none⟩,
 ⟨(some 27), .p (.ld (.s 26)), none⟩,
 ⟨(some 28), .p (.bin .eql (.s 27) (.c (.int .i64 2))), none⟩] [3, 5, 28])
 (.cond (.s 28) (.seq (.reg [⟨(some 29), .p (.ldn 10 (.s 5)), none⟩,
 ⟨(some 30), .p (.foff 4 (.s 3)), none⟩,
 ⟨(some 31), .p (.ld (.s 30)), none⟩,
 ⟨(some 32), .p (.foff 5 (.s 3)), none⟩,
 ⟨(some 33), .p (.ld (.s 32)), none⟩,
 ⟨(some 34), .p (.foff 6 (.s 3)), none⟩,
 ⟨(some 35), .p (.ldn 3 (.s 34)), none⟩,
 ⟨(some 36), .e (.call N.plan_view_value [(.s 29), (.s 31), (.s 33), (.s 35)] true), none⟩,
 ⟨(some 6), .p (.mv (.s 36)), none⟩] [3, 5, 6])
 (.seq (.reg [⟨(some 37), .p (.mv (.s 6)), none⟩,
 ⟨(some 38), .p (.bin .neq (.s 37) (.c (.int .i64 0))), none⟩] [3, 5, 6, 38])
 (.cond (.s 38) (.seq (.reg [⟨(some 39), .p (.mv (.s 6)), none⟩,
 ⟨(some 4), .p (.mv (.s 39)), none⟩] [4])
 .ret) .skip))) .skip))
 (.seq (.reg [⟨(some 40), .p (.foff 3 (.s 3)), none⟩,
 ⟨(some 41), .p (.ld (.s 40)), none⟩,
 ⟨(some 42), .p (.ldn 10 (.s 5)), none⟩,
 ⟨(some 43), .p (.mkfn N.plan_view_mut [(.s 42)] []), none⟩,
 ⟨(some 44), .e (.call N.plan_first_apiMut [(.s 41), (.s 43)] true), none⟩,
 ⟨(some 4), .p (.mv (.s 44)), none⟩] [4])
 .ret))))))⟩

def F.joistref14_Find : LFunc := ⟨29, [.cn 4 5, .t 5], 
 (.seq (.reg [⟨(some 2), .e (.box 10 (.s 0)), none⟩,
 ⟨(some 4), .e (.alloc [.str [], .int .i64 0, .int .i64 0, .psl [], .psl []]), none⟩,
 ⟨(some 5), .p (.mv (.c (.bool false))), none⟩] [1, 2, 4])
 (.seq (.seq (.reg [⟨(some 6), .p (.mv (.c (.int .i64 0))), none⟩] [1, 2, 4, 6])
 (.block 0 (.loop (.seq (.seq (.reg [⟨(some 7), .p (.mv (.s 6)), none⟩,
 ⟨(some 8), .p (.foff 1 (.s 2)), none⟩,
 ⟨(some 9), .p (.ld (.s 8)), none⟩,
 ⟨(some 10), .p (.lenl (.s 9)), none⟩,
 ⟨(some 11), .p (.bin .lss (.s 7) (.s 10)), none⟩] [1, 2, 4, 6, 11])
 (.cond (.s 11) .skip (.exit 0)))
 (.seq (.block 1 (.seq (.reg [⟨(some 14), .p (.foff 1 (.s 2)), none⟩,
 ⟨(some 15), .p (.ld (.s 14)), none⟩,
 ⟨(some 16), .p (.mv (.s 6)), none⟩,
 ⟨(some 17), .p (.iadr 5 (.s 15) (.s 16)), none⟩,
 ⟨(some 18), .p (.foff 0 (.s 17)), none⟩,
 ⟨(some 19), .p (.ld (.s 18)), none⟩,
 ⟨(some 20), .p (.mv (.s 1)), none⟩,
 ⟨(some 21), .p (.bin .eql (.s 19) (.s 20)), none⟩] [1, 2, 4, 6, 21])
 (.cond (.s 21) (.seq (.reg [⟨(some 22), .p (.foff 1 (.s 2)), none⟩,
 ⟨(some 23), .p (.ld (.s 22)), none⟩,
 ⟨(some 24), .p (.mv (.s 6)), none⟩,
 ⟨(some 25), .p (.iadr 5 (.s 23) (.s 24)), none⟩,
 ⟨(some 26), .p (.ldn 5 (.s 25)), none⟩,
 ⟨(some 27), .e (.call N.joistref00_CopyFamily [(.s 26)] true), none⟩,
 ⟨none, .e (.stn 5 (.s 4) (.s 27)), none⟩,
 ⟨(some 5), .p (.mv (.c (.bool true))), none⟩] [4, 5])
 .ret) .skip)))
 (.reg [⟨(some 12), .p (.mv (.s 6)), none⟩,
 ⟨(some 13), .p (.bin .add (.s 12) (.c (.int .i64 1))), none⟩,
 ⟨(some 6), .p (.mv (.s 13)), none⟩] [1, 2, 4, 6]))) [1, 2, 4, 6])))
 (.seq (.reg [⟨(some 28), .p (.build [.str [], .int .i64 0, .int .i64 0, .psl [], .psl []] []), none⟩,
 ⟨none, .e (.stn 5 (.s 4) (.s 28)), none⟩,
 ⟨(some 5), .p (.mv (.c (.bool false))), none⟩] [4, 5])
 .ret)))⟩

def F.joistref14_Read : LFunc := ⟨25, [.t 2, .t 3], 
 (.seq (.reg [⟨(some 1), .e (.box 5 (.s 0)), none⟩,
 ⟨(some 2), .p (.mv (.c (.int .i64 0))), none⟩,
 ⟨(some 3), .p (.mv (.c (.bool false))), none⟩] [1])
 (.seq (.seq (.reg [⟨(some 4), .p (.mv (.c (.int .i64 0))), none⟩] [1, 4])
 (.block 0 (.loop (.seq (.seq (.reg [⟨(some 5), .p (.mv (.s 4)), none⟩,
 ⟨(some 6), .p (.foff 3 (.s 1)), none⟩,
 ⟨(some 7), .p (.ld (.s 6)), none⟩,
 ⟨(some 8), .p (.lenl (.s 7)), none⟩,
 ⟨(some 9), .p (.bin .lss (.s 5) (.s 8)), none⟩] [1, 4, 9])
 (.cond (.s 9) .skip (.exit 0)))
 (.seq (.block 1 (.seq (.reg [⟨(some 12), .p (.foff 3 (.s 1)), none⟩,
 ⟨(some 13), .p (.ld (.s 12)), none⟩,
 ⟨(some 14), .p (.mv (.s 4)), none⟩,
 ⟨(some 15), .p (.iadr 2 (.s 13) (.s 14)), none⟩,
 ⟨(some 16), .p (.foff 1 (.s 15)), none⟩,
 ⟨(some 17), .p (.ld (.s 16)), none⟩,
 ⟨(some 18), .p (.bin .eql (.s 17) (.c (.int .i64 3))), none⟩] [1, 4, 18])
 (.cond (.s 18) (.seq (.reg [⟨(some 19), .p (.foff 3 (.s 1)), none⟩,
 ⟨(some 20), .p (.ld (.s 19)), none⟩,
 ⟨(some 21), .p (.mv (.s 4)), none⟩,
 ⟨(some 22), .p (.iadr 2 (.s 20) (.s 21)), none⟩,
 ⟨(some 23), .p (.foff 0 (.s 22)), none⟩,
 ⟨(some 24), .p (.ld (.s 23)), none⟩,
 ⟨(some 2), .p (.mv (.s 24)), none⟩,
 ⟨(some 3), .p (.mv (.c (.bool true))), none⟩] [2, 3])
 .ret) .skip)))
 (.reg [⟨(some 10), .p (.mv (.s 4)), none⟩,
 ⟨(some 11), .p (.bin .add (.s 10) (.c (.int .i64 1))), none⟩,
 ⟨(some 4), .p (.mv (.s 11)), none⟩] [1, 4]))) [1, 4])))
 (.seq (.reg [⟨(some 2), .p (.mv (.c (.int .i64 0))), none⟩,
 ⟨(some 3), .p (.mv (.c (.bool false))), none⟩] [2, 3])
 .ret)))⟩

def F.joistref00_Texts : LFunc := ⟨42, [.t 4], 
 (.seq (.reg [⟨(some 4), .p (.mv (.c (.int .i64 0))), none⟩] [0, 1])
 (.seq (.seq (.reg [⟨(some 5), .p (.mv (.c (.int .i64 0))), none⟩] [0, 1, 5])
 (.block 0 (.loop (.seq (.seq (.reg [⟨(some 6), .p (.mv (.s 5)), none⟩,
 ⟨(some 7), .p (.mv (.s 0)), none⟩,
 ⟨(some 8), .p (.lens (.s 7)), none⟩,
 ⟨(some 9), .p (.bin .lss (.s 6) (.s 8)), none⟩,
 ⟨(some 10), .p (.mv (.s 9)), none⟩,
 ⟨(some 11), .p (.mv (.s 5)), (some (10, true))⟩,
 ⟨(some 12), .p (.mv (.s 1)), (some (10, true))⟩,
 ⟨(some 13), .p (.lens (.s 12)), (some (10, true))⟩,
 ⟨(some 14), .p (.bin .lss (.s 11) (.s 13)), (some (10, true))⟩,
 ⟨(some 15), .p (.pick (.s 10) (.s 14) (.c (.bool false))), none⟩] [0, 1, 5, 15])
 (.cond (.s 15) .skip (.exit 0)))
 (.seq (.block 1 (.seq (.regD [⟨(some 18), .p (.mv (.s 0)), none⟩,
 ⟨(some 19), .p (.mv (.s 5)), none⟩,
 ⟨(some 20), .p (.idxs (.s 18) (.s 19)), none⟩,
 ⟨(some 21), .p (.mv (.s 1)), none⟩,
 ⟨(some 22), .p (.mv (.s 5)), none⟩,
 ⟨(some 23), .p (.idxs (.s 21) (.s 22)), none⟩,
 ⟨(some 24), .p (.bin .neq (.s 20) (.s 23)), none⟩] [0, 1, 2, 3, 4, 5, 6] [0, 1, 5, 24])
 (.cond (.s 24) (.seq (.seq (.regD [⟨(some 25), .p (.mv (.s 0)), none⟩,
 ⟨(some 26), .p (.mv (.s 5)), none⟩,
 ⟨(some 27), .p (.idxs (.s 25) (.s 26)), none⟩,
 ⟨(some 28), .p (.mv (.s 1)), none⟩,
 ⟨(some 29), .p (.mv (.s 5)), none⟩,
 ⟨(some 30), .p (.idxs (.s 28) (.s 29)), none⟩,
 ⟨(some 31), .p (.bin .lss (.s 27) (.s 30)), none⟩] [0, 1, 2, 3, 4, 5, 6] [31])
 (.cond (.s 31) (.seq (.reg [⟨(some 4), .p (.mv (.c (.int .i64 (-1)))), none⟩] [4])
 .ret) .skip))
 (.seq (.reg [⟨(some 4), .p (.mv (.c (.int .i64 1))), none⟩] [4])
 .ret)) .skip)))
 (.reg [⟨(some 16), .p (.mv (.s 5)), none⟩,
 ⟨(some 17), .p (.bin .add (.s 16) (.c (.int .i64 1))), none⟩,
 ⟨(some 5), .p (.mv (.s 17)), none⟩] [0, 1, 5]))) [0, 1, 5])))
 (.seq (.seq (.reg [⟨(some 32), .p (.mv (.s 0)), none⟩,
 ⟨(some 33), .p (.lens (.s 32)), none⟩,
 ⟨(some 34), .p (.mv (.s 1)), none⟩,
 ⟨(some 35), .p (.lens (.s 34)), none⟩,
 ⟨(some 36), .p (.bin .lss (.s 33) (.s 35)), none⟩] [0, 1, 36])
 (.cond (.s 36) (.seq (.reg [⟨(some 4), .p (.mv (.c (.int .i64 (-1)))), none⟩] [4])
 .ret) .skip))
 (.seq (.seq (.reg [⟨(some 37), .p (.mv (.s 0)), none⟩,
 ⟨(some 38), .p (.lens (.s 37)), none⟩,
 ⟨(some 39), .p (.mv (.s 1)), none⟩,
 ⟨(some 40), .p (.lens (.s 39)), none⟩,
 ⟨(some 41), .p (.bin .gtr (.s 38) (.s 40)), none⟩] [41])
 (.cond (.s 41) (.seq (.reg [⟨(some 4), .p (.mv (.c (.int .i64 1))), none⟩] [4])
 .ret) .skip))
 (.seq (.reg [⟨(some 4), .p (.mv (.c (.int .i64 0))), none⟩] [4])
 .ret)))))⟩

def F.joistref14_Right : LFunc := ⟨84, [.t 2], 
 (.seq (.reg [⟨(some 1), .e (.box 10 (.s 0)), none⟩,
 ⟨(some 2), .p (.mv (.c (.bool false))), none⟩] [1])
 (.seq (.seq (.reg [⟨(some 5), .p (.foff 0 (.s 1)), none⟩,
 ⟨(some 6), .p (.ld (.s 5)), none⟩,
 ⟨(some 7), .p (.bin .lss (.s 6) (.c (.int .i64 1))), none⟩,
 ⟨(some 8), .p (.mv (.s 7)), none⟩,
 ⟨(some 9), .p (.foff 0 (.s 1)), (some (8, false))⟩,
 ⟨(some 10), .p (.ld (.s 9)), (some (8, false))⟩,
 ⟨(some 11), .p (.bin .gtr (.s 10) (.c (.int .i64 1099511627776))), (some (8, false))⟩,
 ⟨(some 12), .p (.pick (.s 8) (.c (.bool true)) (.s 11)), none⟩,
 ⟨(some 13), .p (.mv (.s 12)), none⟩,
 ⟨(some 14), .p (.foff 1 (.s 1)), (some (13, false))⟩,
 ⟨(some 15), .p (.ld (.s 14)), (some (13, false))⟩,
 ⟨(some 16), .p (.lenl (.s 15)), (some (13, false))⟩,
 ⟨(some 17), .p (.bin .gtr (.s 16) (.c (.int .i64 6))), (some (13, false))⟩,
 ⟨(some 18), .p (.pick (.s 13) (.c (.bool true)) (.s 17)), none⟩] [1, 18])
 (.cond (.s 18) (.seq (.reg [⟨(some 2), .p (.mv (.c (.bool false))), none⟩] [2])
 .ret) .skip))
 (.seq (.seq (.reg [⟨(some 3), .p (.mv (.c (.int .i64 0))), none⟩] [1, 3])
 (.block 0 (.loop (.seq (.seq (.reg [⟨(some 19), .p (.mv (.s 3)), none⟩,
 ⟨(some 20), .p (.foff 1 (.s 1)), none⟩,
 ⟨(some 21), .p (.ld (.s 20)), none⟩,
 ⟨(some 22), .p (.lenl (.s 21)), none⟩,
 ⟨(some 23), .p (.bin .lss (.s 19) (.s 22)), none⟩] [1, 3, 23])
 (.cond (.s 23) .skip (.exit 0)))
 (.seq (.block 1 (.seq (.seq (.reg [⟨(some 26), .p (.foff 1 (.s 1)), none⟩,
 ⟨(some 27), .p (.ld (.s 26)), none⟩,
 ⟨(some 28), .p (.mv (.s 3)), none⟩,
 ⟨(some 29), .p (.iadr 5 (.s 27) (.s 28)), none⟩,
 ⟨(some 30), .p (.ldn 5 (.s 29)), none⟩,
 ⟨(some 31), .e (.call N.joistref14_Family [(.s 30)] true), none⟩,
 ⟨(some 32), .p (.un .not (.s 31)), none⟩] [1, 3, 32])
 (.cond (.s 32) (.seq (.reg [⟨(some 2), .p (.mv (.c (.bool false))), none⟩] [2])
 .ret) .skip))
 (.seq (.reg [⟨(some 4), .p (.mv (.c (.int .i64 0))), none⟩] [1, 3, 4])
 (.block 2 (.loop (.seq (.seq (.reg [⟨(some 33), .p (.mv (.s 4)), none⟩,
 ⟨(some 34), .p (.mv (.s 3)), none⟩,
 ⟨(some 35), .p (.bin .lss (.s 33) (.s 34)), none⟩] [1, 3, 4, 35])
 (.cond (.s 35) .skip (.exit 2)))
 (.seq (.block 3 (.seq (.regD [⟨(some 38), .p (.foff 1 (.s 1)), none⟩,
 ⟨(some 39), .p (.ld (.s 38)), none⟩,
 ⟨(some 40), .p (.mv (.s 4)), none⟩,
 ⟨(some 41), .p (.iadr 5 (.s 39) (.s 40)), none⟩,
 ⟨(some 42), .p (.foff 0 (.s 41)), none⟩,
 ⟨(some 43), .p (.ld (.s 42)), none⟩,
 ⟨(some 44), .p (.foff 1 (.s 1)), none⟩,
 ⟨(some 45), .p (.ld (.s 44)), none⟩,
 ⟨(some 46), .p (.mv (.s 3)), none⟩,
 ⟨(some 47), .p (.iadr 5 (.s 45) (.s 46)), none⟩,
 ⟨(some 48), .p (.foff 0 (.s 47)), none⟩,
 ⟨(some 49), .p (.ld (.s 48)), none⟩,
 ⟨(some 50), .p (.bin .eql (.s 43) (.s 49)), none⟩] [0, 1, 2, 3, 4, 5, 6, 7, 8, 9, 10, 11, 12] [1, 3, 4, 50])
 (.cond (.s 50) (.seq (.reg [⟨(some 2), .p (.mv (.c (.bool false))), none⟩] [2])
 .ret) .skip)))
 (.reg [⟨(some 36), .p (.mv (.s 4)), none⟩,
 ⟨(some 37), .p (.bin .add (.s 36) (.c (.int .i64 1))), none⟩,
 ⟨(some 4), .p (.mv (.s 37)), none⟩] [1, 3, 4]))) [1, 3, 4])))))
 (.reg [⟨(some 24), .p (.mv (.s 3)), none⟩,
 ⟨(some 25), .p (.bin .add (.s 24) (.c (.int .i64 1))), none⟩,
 ⟨(some 3), .p (.mv (.s 25)), none⟩] [1, 3]))) [1, 3])))
 (.seq (.seq (.reg [⟨(some 51), .p (.foff 2 (.s 1)), none⟩,
 ⟨(some 52), .p (.foff 0 (.s 51)), none⟩,
 ⟨(some 53), .p (.ld (.s 52)), none⟩,
 ⟨(some 54), .p (.bin .eql (.s 53) (.c (.int .i64 0))), none⟩] [1, 54])
 (.cond (.s 54) (.seq (.reg [⟨(some 55), .p (.foff 2 (.s 1)), none⟩,
 ⟨(some 56), .p (.ldn 7 (.s 55)), none⟩,
 ⟨(some 57), .p (.build [.int .i64 0, .str [], .str [], .int .i64 0, .int .i64 0, .int .i64 0, .int .i64 0] []), none⟩,
 ⟨(some 58), .p (.eqk false (.agg [0, 1, 1, 0, 0, 0, 0]) (.s 56) (.s 57)), none⟩,
 ⟨(some 59), .p (.mv (.s 58)), none⟩,
 ⟨(some 60), .p (.foff 9 (.s 1)), (some (59, true))⟩,
 ⟨(some 61), .p (.ld (.s 60)), (some (59, true))⟩,
 ⟨(some 62), .p (.bin .eql (.s 61) (.c (.int .i64 0))), (some (59, true))⟩,
 ⟨(some 63), .p (.pick (.s 59) (.s 62) (.c (.bool false))), none⟩,
 ⟨(some 2), .p (.mv (.s 63)), none⟩] [2])
 .ret) .skip))
 (.seq (.reg [⟨(some 64), .p (.foff 2 (.s 1)), none⟩,
 ⟨(some 65), .p (.foff 0 (.s 64)), none⟩,
 ⟨(some 66), .p (.ld (.s 65)), none⟩,
 ⟨(some 67), .p (.bin .geq (.s 66) (.c (.int .i64 1))), none⟩,
 ⟨(some 68), .p (.mv (.s 67)), none⟩,
 ⟨(some 69), .p (.foff 2 (.s 1)), (some (68, true))⟩,
 ⟨(some 70), .p (.foff 0 (.s 69)), (some (68, true))⟩,
 ⟨(some 71), .p (.ld (.s 70)), (some (68, true))⟩,
 ⟨(some 72), .p (.bin .leq (.s 71) (.c (.int .i64 5))), (some (68, true))⟩,
 ⟨(some 73), .p (.pick (.s 68) (.s 72) (.c (.bool false))), none⟩,
 ⟨(some 74), .p (.mv (.s 73)), none⟩,
 ⟨(some 75), .p (.foff 9 (.s 1)), (some (74, true))⟩,
 ⟨(some 76), .p (.ld (.s 75)), (some (74, true))⟩,
 ⟨(some 77), .p (.bin .geq (.s 76) (.c (.int .i64 1))), (some (74, true))⟩,
 ⟨(some 78), .p (.pick (.s 74) (.s 77) (.c (.bool false))), none⟩,
 ⟨(some 79), .p (.mv (.s 78)), none⟩,
 ⟨(some 80), .p (.foff 9 (.s 1)), (some (79, true))⟩,
 ⟨(some 81), .p (.ld (.s 80)), (some (79, true))⟩,
 ⟨(some 82), .p (.bin .leq (.s 81) (.c (.int .i64 9))), (some (79, true))⟩,
 ⟨(some 83), .p (.pick (.s 79) (.s 82) (.c (.bool false))), none⟩,
 ⟨(some 2), .p (.mv (.s 83)), none⟩] [2])
 .ret)))))⟩

def F.joistlaw16_copied : LFunc := ⟨18, [.cn 2 16], 
 (.seq (.reg [⟨(some 1), .e (.box 16 (.s 0)), none⟩,
 ⟨(some 2), .e (.alloc [.int .i64 0, .str [], .str [], .psl [], .str [], .str [], .int .i64 0, .int .i64 0, .str [], .psl [], .str [], .str [], .int .i64 0, .int .i64 0, .int .i64 0, .int .i64 0]), none⟩] [1, 2])
 (.seq (.reg [⟨(some 4), .p (.ldn 16 (.s 1)), none⟩,
 ⟨(some 3), .e (.alloc [.int .i64 0, .str [], .str [], .psl [], .str [], .str [], .int .i64 0, .int .i64 0, .str [], .psl [], .str [], .str [], .int .i64 0, .int .i64 0, .int .i64 0, .int .i64 0]), none⟩,
 ⟨none, .e (.stn 16 (.s 3) (.s 4)), none⟩] [1, 2, 3])
 (.seq (.reg [⟨(some 5), .e (.bsl 6 0 [.int .i64 0, .str [], .str [], .int .i64 0, .int .i64 0, .str []] []), none⟩,
 ⟨(some 6), .p (.foff 3 (.s 1)), none⟩,
 ⟨(some 7), .p (.ld (.s 6)), none⟩,
 ⟨(some 8), .e (.app 6 72 (.s 5) (.s 7)), none⟩,
 ⟨(some 9), .p (.foff 3 (.s 3)), none⟩,
 ⟨none, .e (.st (.s 9) (.s 8)), none⟩] [1, 2, 3])
 (.seq (.reg [⟨(some 10), .e (.bsl 1 0 [.str []] []), none⟩,
 ⟨(some 11), .p (.foff 9 (.s 1)), none⟩,
 ⟨(some 12), .p (.foff 0 (.s 11)), none⟩,
 ⟨(some 13), .p (.ld (.s 12)), none⟩,
 ⟨(some 14), .e (.app 1 16 (.s 10) (.s 13)), none⟩,
 ⟨(some 15), .p (.foff 9 (.s 3)), none⟩,
 ⟨(some 16), .p (.foff 0 (.s 15)), none⟩,
 ⟨none, .e (.st (.s 16) (.s 14)), none⟩] [2, 3])
 (.seq (.reg [⟨(some 17), .p (.ldn 16 (.s 3)), none⟩,
 ⟨none, .e (.stn 16 (.s 2) (.s 17)), none⟩] [2])
 .ret)))))⟩

def F.joistref00_CopySchema : LFunc := ⟨27, [.cn 2 10], 
 (.seq (.reg [⟨(some 1), .e (.box 10 (.s 0)), none⟩,
 ⟨(some 2), .e (.alloc [.int .i64 0, .psl [], .int .i64 0, .str [], .str [], .int .i64 0, .int .i64 0, .int .i64 0, .int .i64 0, .int .i64 0]), none⟩] [1, 2])
 (.seq (.reg [⟨(some 5), .p (.ldn 10 (.s 1)), none⟩,
 ⟨(some 3), .e (.alloc [.int .i64 0, .psl [], .int .i64 0, .str [], .str [], .int .i64 0, .int .i64 0, .int .i64 0, .int .i64 0, .int .i64 0]), none⟩,
 ⟨none, .e (.stn 10 (.s 3) (.s 5)), none⟩] [1, 2, 3])
 (.seq (.reg [⟨(some 6), .e (.bsl 5 0 [.str [], .int .i64 0, .int .i64 0, .psl [], .psl []] []), none⟩,
 ⟨(some 7), .p (.foff 1 (.s 3)), none⟩,
 ⟨none, .e (.st (.s 7) (.s 6)), none⟩] [1, 2, 3])
 (.seq (.seq (.reg [⟨(some 4), .p (.mv (.c (.int .i64 0))), none⟩] [1, 2, 3, 4])
 (.block 0 (.loop (.seq (.seq (.reg [⟨(some 8), .p (.mv (.s 4)), none⟩,
 ⟨(some 9), .p (.foff 1 (.s 1)), none⟩,
 ⟨(some 10), .p (.ld (.s 9)), none⟩,
 ⟨(some 11), .p (.lenl (.s 10)), none⟩,
 ⟨(some 12), .p (.bin .lss (.s 8) (.s 11)), none⟩] [1, 2, 3, 4, 12])
 (.cond (.s 12) .skip (.exit 0)))
 (.seq (.block 1 (.regD [⟨(some 15), .p (.foff 1 (.s 3)), none⟩,
 ⟨(some 16), .p (.ld (.s 15)), none⟩,
 ⟨(some 17), .p (.foff 1 (.s 1)), none⟩,
 ⟨(some 18), .p (.ld (.s 17)), none⟩,
 ⟨(some 19), .p (.mv (.s 4)), none⟩,
 ⟨(some 20), .p (.iadr 5 (.s 18) (.s 19)), none⟩,
 ⟨(some 21), .p (.ldn 5 (.s 20)), none⟩,
 ⟨(some 22), .e (.call N.joistref00_CopyFamily [(.s 21)] true), none⟩,
 ⟨(some 16), .s (.ld (.s 15)), none⟩,
 ⟨none, .b 5 1 [.str [], .int .i64 0, .int .i64 0, .psl [], .psl []] [(0, 5, (.s 22))], none⟩,
 ⟨(some 23), .e (.bsl 5 1 [.str [], .int .i64 0, .int .i64 0, .psl [], .psl []] [(0, 5, (.s 22))]), none⟩,
 ⟨(some 16), .s (.ld (.s 15)), none⟩,
 ⟨(some 24), .e (.app 5 80 (.s 16) (.s 23)), none⟩,
 ⟨(some 25), .p (.foff 1 (.s 3)), none⟩,
 ⟨none, .e (.st (.s 25) (.s 24)), none⟩] [0, 1, 2, 3, 4, 5, 6, 7, 8, 9, 10, 11] [1, 2, 3, 4]))
 (.reg [⟨(some 13), .p (.mv (.s 4)), none⟩,
 ⟨(some 14), .p (.bin .add (.s 13) (.c (.int .i64 1))), none⟩,
 ⟨(some 4), .p (.mv (.s 14)), none⟩] [1, 2, 3, 4]))) [1, 2, 3, 4])))
 (.seq (.reg [⟨(some 26), .p (.ldn 10 (.s 3)), none⟩,
 ⟨none, .e (.stn 10 (.s 2) (.s 26)), none⟩] [2])
 .ret)))))⟩

def F.joistref16_Cells : LFunc := ⟨113, [.t 6, .t 7], 
 (.seq (.reg [⟨(some 3), .e (.box 10 (.s 0)), none⟩,
 ⟨(some 4), .e (.box 16 (.s 1)), none⟩,
 ⟨(some 6), .p (.mv (.c (.psl []))), none⟩,
 ⟨(some 7), .p (.mv (.c (.int .i64 0))), none⟩] [2, 3, 4])
 (.seq (.reg [⟨(some 14), .p (.ldn 10 (.s 3)), none⟩,
 ⟨(some 15), .p (.ldn 16 (.s 4)), none⟩,
 ⟨(some 16), .e (.call N.joistref16_Check [(.s 14), (.s 15)] true), none⟩,
 ⟨(some 8), .p (.mv (.s 16)), none⟩] [2, 3, 4, 8])
 (.seq (.seq (.reg [⟨(some 17), .p (.mv (.s 8)), none⟩,
 ⟨(some 18), .p (.bin .eql (.s 17) (.c (.int .i64 0))), none⟩,
 ⟨(some 19), .p (.mv (.s 18)), none⟩,
 ⟨(some 20), .p (.foff 0 (.s 4)), (some (19, true))⟩,
 ⟨(some 21), .p (.ld (.s 20)), (some (19, true))⟩,
 ⟨(some 22), .p (.bin .eql (.s 21) (.c (.int .i64 3))), (some (19, true))⟩,
 ⟨(some 23), .p (.pick (.s 19) (.s 22) (.c (.bool false))), none⟩] [2, 3, 4, 8, 23])
 (.cond (.s 23) (.reg [⟨(some 8), .p (.mv (.c (.int .i64 10))), none⟩] [2, 3, 4, 8]) .skip))
 (.seq (.seq (.reg [⟨(some 24), .p (.mv (.s 8)), none⟩,
 ⟨(some 25), .p (.bin .eql (.s 24) (.c (.int .i64 0))), none⟩,
 ⟨(some 26), .p (.mv (.s 25)), none⟩,
 ⟨(some 27), .p (.mv (.s 2)), (some (26, true))⟩,
 ⟨(some 28), .p (.bin .lss (.s 27) (.c (.int .i64 1))), (some (26, true))⟩,
 ⟨(some 29), .p (.mv (.s 28)), (some (26, true))⟩,
 ⟨(some 30), .p (.mv (.s 2)), (some (29, false))⟩,
 ⟨(some 31), .p (.bin .gtr (.s 30) (.c (.int .i64 1099511627776))), (some (29, false))⟩,
 ⟨(some 32), .p (.pick (.s 29) (.c (.bool true)) (.s 31)), (some (26, true))⟩,
 ⟨(some 33), .p (.pick (.s 26) (.s 32) (.c (.bool false))), none⟩] [2, 3, 4, 8, 33])
 (.cond (.s 33) (.reg [⟨(some 8), .p (.mv (.c (.int .i64 18))), none⟩] [2, 3, 4, 8]) .skip))
 (.seq (.seq (.reg [⟨(some 34), .p (.mv (.s 8)), none⟩,
 ⟨(some 35), .p (.bin .neq (.s 34) (.c (.int .i64 0))), none⟩] [2, 3, 4, 8, 35])
 (.cond (.s 35) (.seq (.reg [⟨(some 36), .p (.mv (.s 8)), none⟩,
 ⟨(some 6), .p (.mv (.c (.psl []))), none⟩,
 ⟨(some 7), .p (.mv (.s 36)), none⟩] [6, 7])
 .ret) .skip))
 (.seq (.reg [⟨(some 37), .e (.bsl 8 0 [.str [], .str [], .str [], .int .i64 0, .int .i64 0, .int .i64 0, .int .i64 0, .str []] []), none⟩,
 ⟨(some 9), .p (.mv (.s 37)), none⟩] [2, 3, 4, 9])
 (.seq (.seq (.reg [⟨(some 10), .p (.mv (.c (.int .i64 0))), none⟩] [2, 3, 4, 9, 10])
 (.block 0 (.loop (.seq (.seq (.reg [⟨(some 38), .p (.mv (.s 10)), none⟩,
 ⟨(some 39), .p (.foff 3 (.s 4)), none⟩,
 ⟨(some 40), .p (.ld (.s 39)), none⟩,
 ⟨(some 41), .p (.lenl (.s 40)), none⟩,
 ⟨(some 42), .p (.bin .lss (.s 38) (.s 41)), none⟩] [2, 3, 4, 9, 10, 42])
 (.cond (.s 42) .skip (.exit 0)))
 (.seq (.block 1 (.seq (.reg [⟨(some 45), .p (.foff 3 (.s 4)), none⟩,
 ⟨(some 46), .p (.ld (.s 45)), none⟩,
 ⟨(some 47), .p (.mv (.s 10)), none⟩,
 ⟨(some 48), .p (.iadr 6 (.s 46) (.s 47)), none⟩,
 ⟨(some 49), .p (.ldn 6 (.s 48)), none⟩,
 ⟨(some 11), .e (.alloc [.int .i64 0, .str [], .str [], .int .i64 0, .int .i64 0, .str []]), none⟩,
 ⟨none, .e (.stn 6 (.s 11) (.s 49)), none⟩] [2, 3, 4, 9, 10, 11])
 (.seq (.reg [⟨(some 50), .p (.foff 1 (.s 4)), none⟩,
 ⟨(some 51), .p (.ld (.s 50)), none⟩,
 ⟨(some 52), .p (.foff 1 (.s 11)), none⟩,
 ⟨(some 53), .p (.ld (.s 52)), none⟩,
 ⟨(some 54), .p (.foff 2 (.s 11)), none⟩,
 ⟨(some 55), .p (.ld (.s 54)), none⟩,
 ⟨(some 56), .p (.mv (.s 2)), none⟩,
 ⟨(some 57), .p (.bin .sub (.s 56) (.c (.int .i64 1))), none⟩,
 ⟨(some 58), .p (.build [.str [], .str [], .str [], .int .i64 0, .int .i64 0, .int .i64 0, .int .i64 0, .str []] [(0, 1, (.s 51)), (1, 1, (.s 53)), (2, 1, (.s 55)), (3, 1, (.s 57))]), none⟩,
 ⟨(some 12), .e (.alloc [.str [], .str [], .str [], .int .i64 0, .int .i64 0, .int .i64 0, .int .i64 0, .str []]), none⟩,
 ⟨none, .e (.stn 8 (.s 12) (.s 58)), none⟩] [2, 3, 4, 9, 10, 11, 12])
 (.seq (.reg [⟨(some 59), .p (.foff 0 (.s 11)), none⟩,
 ⟨(some 60), .p (.ld (.s 59)), none⟩] [2, 3, 4, 9, 10, 11, 12, 60])
 (.block 2 (.seq (.reg [⟨(some 62), .p (.bin .eql (.s 60) (.c (.int .i64 1))), none⟩,
 ⟨(some 61), .p (.mv (.s 62)), none⟩] [2, 3, 4, 9, 10, 11, 12, 60, 61])
 (.cond (.s 61) (.seq (.reg [⟨(some 63), .p (.mv (.s 2)), none⟩,
 ⟨(some 64), .p (.foff 3 (.s 12)), none⟩,
 ⟨none, .e (.st (.s 64) (.s 63)), none⟩] [2, 3, 4, 9, 10, 11, 12])
 (.seq (.reg [⟨(some 65), .p (.foff 4 (.s 12)), none⟩,
 ⟨none, .e (.st (.s 65) (.c (.int .i64 1))), none⟩] [2, 3, 4, 9, 10, 11, 12])
 (.seq (.reg [⟨(some 66), .p (.foff 3 (.s 11)), none⟩,
 ⟨(some 67), .p (.ldn 3 (.s 66)), none⟩,
 ⟨(some 68), .p (.foff 5 (.s 12)), none⟩,
 ⟨none, .e (.stn 3 (.s 68) (.s 67)), none⟩] [2, 3, 4, 9, 10, 12])
 (.reg [⟨(some 69), .p (.mv (.s 9)), none⟩,
 ⟨(some 70), .p (.ldn 8 (.s 12)), none⟩,
 ⟨(some 71), .e (.call N.joistref16_add [(.s 69), (.s 70)] true), none⟩,
 ⟨(some 9), .p (.mv (.s 71)), none⟩] [2, 3, 4, 9, 10])))) (.seq (.reg [⟨(some 73), .p (.bin .eql (.s 60) (.c (.int .i64 2))), none⟩,
 ⟨(some 72), .p (.mv (.s 73)), none⟩] [2, 3, 4, 9, 10, 12, 60, 72])
 (.cond (.s 72) (.seq (.reg [⟨(some 74), .p (.foff 4 (.s 12)), none⟩,
 ⟨none, .e (.st (.s 74) (.c (.int .i64 3))), none⟩] [2, 3, 4, 9, 10, 12])
 (.reg [⟨(some 75), .p (.mv (.s 9)), none⟩,
 ⟨(some 76), .p (.ldn 8 (.s 12)), none⟩,
 ⟨(some 77), .e (.call N.joistref16_add [(.s 75), (.s 76)] true), none⟩,
 ⟨(some 9), .p (.mv (.s 77)), none⟩] [2, 3, 4, 9, 10])) (.seq (.reg [⟨(some 79), .p (.bin .eql (.s 60) (.c (.int .i64 3))), none⟩,
 ⟨(some 78), .p (.mv (.s 79)), none⟩] [2, 3, 4, 9, 10, 12, 60, 78])
 (.cond (.s 78) (.seq (.reg [⟨(some 80), .p (.foff 4 (.s 12)), none⟩,
 ⟨none, .e (.st (.s 80) (.c (.int .i64 4))), none⟩] [2, 3, 4, 9, 10, 12])
 (.reg [⟨(some 81), .p (.mv (.s 9)), none⟩,
 ⟨(some 82), .p (.ldn 8 (.s 12)), none⟩,
 ⟨(some 83), .e (.call N.joistref16_add [(.s 81), (.s 82)] true), none⟩,
 ⟨(some 9), .p (.mv (.s 83)), none⟩] [2, 3, 4, 9, 10])) (.seq (.reg [⟨(some 85), .p (.bin .eql (.s 60) (.c (.int .i64 4))), none⟩,
 ⟨(some 84), .p (.mv (.s 85)), none⟩] [2, 3, 4, 9, 10, 12, 84])
 (.cond (.s 84) (.seq (.reg [⟨(some 13), .p (.mv (.c (.int .i64 0))), none⟩] [2, 3, 4, 9, 10, 12, 13])
 (.block 3 (.loop (.seq (.seq (.reg [⟨(some 86), .p (.mv (.s 13)), none⟩,
 ⟨(some 87), .p (.foff 1 (.s 3)), none⟩,
 ⟨(some 88), .p (.ld (.s 87)), none⟩,
 ⟨(some 89), .p (.lenl (.s 88)), none⟩,
 ⟨(some 90), .p (.bin .lss (.s 86) (.s 89)), none⟩] [2, 3, 4, 9, 10, 12, 13, 90])
 (.cond (.s 90) .skip (.exit 3)))
 (.seq (.block 4 (.seq (.regD [⟨(some 93), .p (.ldn 10 (.s 3)), none⟩,
 ⟨(some 94), .p (.foff 1 (.s 3)), none⟩,
 ⟨(some 95), .p (.ld (.s 94)), none⟩,
 ⟨(some 96), .p (.mv (.s 13)), none⟩,
 ⟨(some 97), .p (.iadr 5 (.s 95) (.s 96)), none⟩,
 ⟨(some 98), .p (.foff 0 (.s 97)), none⟩,
 ⟨(some 99), .p (.ld (.s 98)), none⟩,
 ⟨(some 100), .e (.call N.joistref16_Family [(.s 93), (.s 99)] true), none⟩] [0, 1, 2, 3, 4, 5, 6, 7] [2, 3, 4, 9, 10, 12, 13, 100])
 (.cond (.s 100) (.seq (.reg [⟨(some 101), .p (.foff 1 (.s 3)), none⟩,
 ⟨(some 102), .p (.ld (.s 101)), none⟩,
 ⟨(some 103), .p (.mv (.s 13)), none⟩,
 ⟨(some 104), .p (.iadr 5 (.s 102) (.s 103)), none⟩,
 ⟨(some 105), .p (.foff 0 (.s 104)), none⟩,
 ⟨(some 106), .p (.ld (.s 105)), none⟩,
 ⟨(some 107), .p (.foff 1 (.s 12)), none⟩,
 ⟨none, .e (.st (.s 107) (.s 106)), none⟩] [2, 3, 4, 9, 10, 12, 13])
 (.seq (.reg [⟨(some 108), .p (.foff 4 (.s 12)), none⟩,
 ⟨none, .e (.st (.s 108) (.c (.int .i64 4))), none⟩] [2, 3, 4, 9, 10, 12, 13])
 (.reg [⟨(some 109), .p (.mv (.s 9)), none⟩,
 ⟨(some 110), .p (.ldn 8 (.s 12)), none⟩,
 ⟨(some 111), .e (.call N.joistref16_add [(.s 109), (.s 110)] true), none⟩,
 ⟨(some 9), .p (.mv (.s 111)), none⟩] [2, 3, 4, 9, 10, 12, 13]))) .skip)))
 (.reg [⟨(some 91), .p (.mv (.s 13)), none⟩,
 ⟨(some 92), .p (.bin .add (.s 91) (.c (.int .i64 1))), none⟩,
 ⟨(some 13), .p (.mv (.s 92)), none⟩] [2, 3, 4, 9, 10, 12, 13]))) [2, 3, 4, 9, 10, 12, 13]))) .skip)))))))))))))
 (.reg [⟨(some 43), .p (.mv (.s 10)), none⟩,
 ⟨(some 44), .p (.bin .add (.s 43) (.c (.int .i64 1))), none⟩,
 ⟨(some 10), .p (.mv (.s 44)), none⟩] [2, 3, 4, 9, 10]))) [2, 3, 4, 9, 10])))
 (.seq (.reg [⟨(some 112), .p (.mv (.s 9)), none⟩,
 ⟨(some 6), .p (.mv (.s 112)), none⟩,
 ⟨(some 7), .p (.mv (.c (.int .i64 0))), none⟩] [6, 7])
 .ret))))))))⟩

def F.joistref16_Visible : LFunc := ⟨151, [.cn 4 7, .t 5], 
 (.seq (.reg [⟨(some 2), .e (.box 10 (.s 0)), none⟩,
 ⟨(some 3), .e (.box 16 (.s 1)), none⟩,
 ⟨(some 4), .e (.alloc [.psl [], .str [], .str [], .int .i64 0, .int .i64 0, .int .i64 0, .int .i64 0]), none⟩,
 ⟨(some 5), .p (.mv (.c (.psl []))), none⟩] [2, 3, 4])
 (.seq (.seq (.reg [⟨(some 17), .p (.foff 0 (.s 3)), none⟩,
 ⟨(some 18), .p (.ld (.s 17)), none⟩,
 ⟨(some 19), .p (.bin .neq (.s 18) (.c (.int .i64 3))), none⟩,
 ⟨(some 20), .p (.mv (.s 19)), none⟩,
 ⟨(some 21), .p (.ldn 10 (.s 2)), (some (20, false))⟩,
 ⟨(some 22), .p (.ldn 16 (.s 3)), (some (20, false))⟩,
 ⟨(some 23), .e (.call N.joistref16_Check [(.s 21), (.s 22)] true), (some (20, false))⟩,
 ⟨(some 24), .p (.bin .neq (.s 23) (.c (.int .i64 0))), (some (20, false))⟩,
 ⟨(some 25), .p (.pick (.s 20) (.c (.bool true)) (.s 24)), none⟩] [2, 3, 4, 25])
 (.cond (.s 25) (.seq (.reg [⟨(some 26), .p (.build [.psl [], .str [], .str [], .int .i64 0, .int .i64 0, .int .i64 0, .int .i64 0] []), none⟩,
 ⟨none, .e (.stn 7 (.s 4) (.s 26)), none⟩,
 ⟨(some 5), .p (.mv (.c (.psl []))), none⟩] [4, 5])
 .ret) .skip))
 (.seq (.reg [⟨(some 27), .e (.bsl 5 0 [.str [], .int .i64 0, .int .i64 0, .int .i64 0, .psl []] []), none⟩,
 ⟨(some 6), .p (.mv (.s 27)), none⟩] [2, 3, 4, 6])
 (.seq (.seq (.reg [⟨(some 7), .p (.mv (.c (.int .i64 0))), none⟩] [2, 3, 4, 6, 7])
 (.block 0 (.loop (.seq (.seq (.reg [⟨(some 28), .p (.mv (.s 7)), none⟩,
 ⟨(some 29), .p (.foff 1 (.s 2)), none⟩,
 ⟨(some 30), .p (.ld (.s 29)), none⟩,
 ⟨(some 31), .p (.lenl (.s 30)), none⟩,
 ⟨(some 32), .p (.bin .lss (.s 28) (.s 31)), none⟩] [2, 3, 4, 6, 7, 32])
 (.cond (.s 32) .skip (.exit 0)))
 (.seq (.block 1 (.seq (.reg [⟨(some 35), .p (.foff 1 (.s 2)), none⟩,
 ⟨(some 36), .p (.ld (.s 35)), none⟩,
 ⟨(some 37), .p (.mv (.s 7)), none⟩,
 ⟨(some 38), .p (.iadr 5 (.s 36) (.s 37)), none⟩,
 ⟨(some 39), .p (.ldn 5 (.s 38)), none⟩,
 ⟨(some 8), .e (.alloc [.str [], .int .i64 0, .int .i64 0, .psl [], .psl []]), none⟩,
 ⟨none, .e (.stn 5 (.s 8) (.s 39)), none⟩] [2, 3, 4, 6, 7, 8])
 (.seq (.reg [⟨(some 40), .p (.foff 9 (.s 3)), none⟩,
 ⟨(some 41), .p (.foff 0 (.s 40)), none⟩,
 ⟨(some 42), .p (.ld (.s 41)), none⟩,
 ⟨(some 43), .p (.lenl (.s 42)), none⟩,
 ⟨(some 44), .p (.bin .eql (.s 43) (.c (.int .i64 0))), none⟩,
 ⟨(some 9), .p (.mv (.s 44)), none⟩] [2, 3, 4, 6, 7, 8, 9])
 (.seq (.seq (.reg [⟨(some 10), .p (.mv (.c (.int .i64 0))), none⟩] [2, 3, 4, 6, 7, 8, 9, 10])
 (.block 2 (.loop (.seq (.seq (.reg [⟨(some 45), .p (.mv (.s 10)), none⟩,
 ⟨(some 46), .p (.foff 9 (.s 3)), none⟩,
 ⟨(some 47), .p (.foff 0 (.s 46)), none⟩,
 ⟨(some 48), .p (.ld (.s 47)), none⟩,
 ⟨(some 49), .p (.lenl (.s 48)), none⟩,
 ⟨(some 50), .p (.bin .lss (.s 45) (.s 49)), none⟩] [2, 3, 4, 6, 7, 8, 9, 10, 50])
 (.cond (.s 50) .skip (.exit 2)))
 (.seq (.block 3 (.regD [⟨(some 53), .p (.mv (.s 9)), none⟩,
 ⟨(some 54), .p (.mv (.s 53)), none⟩,
 ⟨(some 55), .p (.foff 9 (.s 3)), (some (54, false))⟩,
 ⟨(some 56), .p (.foff 0 (.s 55)), (some (54, false))⟩,
 ⟨(some 57), .p (.ld (.s 56)), (some (54, false))⟩,
 ⟨(some 58), .p (.mv (.s 10)), (some (54, false))⟩,
 ⟨(some 59), .p (.iadr 1 (.s 57) (.s 58)), (some (54, false))⟩,
 ⟨(some 60), .p (.ld (.s 59)), (some (54, false))⟩,
 ⟨(some 61), .p (.foff 0 (.s 8)), (some (54, false))⟩,
 ⟨(some 62), .p (.ld (.s 61)), (some (54, false))⟩,
 ⟨(some 63), .p (.bin .eql (.s 60) (.s 62)), (some (54, false))⟩,
 ⟨(some 64), .p (.pick (.s 54) (.c (.bool true)) (.s 63)), none⟩,
 ⟨(some 9), .p (.mv (.s 64)), none⟩] [0, 1, 2, 3, 4, 5, 6, 7, 8, 9, 10, 11, 12] [2, 3, 4, 6, 7, 8, 9, 10]))
 (.reg [⟨(some 51), .p (.mv (.s 10)), none⟩,
 ⟨(some 52), .p (.bin .add (.s 51) (.c (.int .i64 1))), none⟩,
 ⟨(some 10), .p (.mv (.s 52)), none⟩] [2, 3, 4, 6, 7, 8, 9, 10]))) [2, 3, 4, 6, 7, 8, 9, 10])))
 (.seq (.reg [⟨(some 66), .p (.ldn 5 (.s 8)), none⟩,
 ⟨(some 67), .e (.call N.joistref14_Read [(.s 66)] true), none⟩,
 ⟨(some 65), .p (.mv (.s 67)), none⟩,
 ⟨(some 68), .p (.ext (.s 65) 0), none⟩,
 ⟨(some 69), .p (.ext (.s 65) 1), none⟩,
 ⟨(some 11), .p (.mv (.s 68)), none⟩,
 ⟨(some 12), .p (.mv (.s 69)), none⟩] [2, 3, 4, 6, 7, 8, 9, 11, 12])
 (.seq (.seq (.reg [⟨(some 70), .p (.mv (.s 9)), none⟩,
 ⟨(some 71), .p (.un .not (.s 70)), none⟩,
 ⟨(some 72), .p (.mv (.s 71)), none⟩,
 ⟨(some 73), .p (.mv (.s 12)), (some (72, false))⟩,
 ⟨(some 74), .p (.un .not (.s 73)), (some (72, false))⟩,
 ⟨(some 75), .p (.pick (.s 72) (.c (.bool true)) (.s 74)), none⟩] [2, 3, 4, 6, 7, 8, 11, 75])
 (.cond (.s 75) (.exit 1) .skip))
 (.seq (.reg [⟨(some 76), .p (.foff 0 (.s 8)), none⟩,
 ⟨(some 77), .p (.ld (.s 76)), none⟩,
 ⟨(some 78), .p (.mv (.s 11)), none⟩,
 ⟨(some 79), .p (.foff 1 (.s 8)), none⟩,
 ⟨(some 80), .p (.ld (.s 79)), none⟩,
 ⟨(some 81), .p (.foff 2 (.s 8)), none⟩,
 ⟨(some 82), .p (.ld (.s 81)), none⟩,
 ⟨(some 83), .p (.build [.str [], .int .i64 0, .int .i64 0, .int .i64 0, .psl []] [(0, 1, (.s 77)), (1, 1, (.s 78)), (2, 1, (.s 80)), (3, 1, (.s 82))]), none⟩,
 ⟨(some 13), .e (.alloc [.str [], .int .i64 0, .int .i64 0, .int .i64 0, .psl []]), none⟩,
 ⟨none, .e (.stn 5 (.s 13) (.s 83)), none⟩] [2, 3, 4, 6, 7, 8, 13])
 (.seq (.seq (.reg [⟨(some 14), .p (.mv (.c (.int .i64 0))), none⟩] [2, 3, 4, 6, 7, 8, 13, 14])
 (.block 4 (.loop (.seq (.seq (.reg [⟨(some 84), .p (.mv (.s 14)), none⟩,
 ⟨(some 85), .p (.foff 4 (.s 8)), none⟩,
 ⟨(some 86), .p (.ld (.s 85)), none⟩,
 ⟨(some 87), .p (.lenl (.s 86)), none⟩,
 ⟨(some 88), .p (.bin .lss (.s 84) (.s 87)), none⟩] [2, 3, 4, 6, 7, 8, 13, 14, 88])
 (.cond (.s 88) .skip (.exit 4)))
 (.seq (.block 5 (.seq (.seq (.reg [⟨(some 91), .p (.foff 4 (.s 8)), none⟩,
 ⟨(some 92), .p (.ld (.s 91)), none⟩,
 ⟨(some 93), .p (.mv (.s 14)), none⟩,
 ⟨(some 94), .p (.iadr 3 (.s 92) (.s 93)), none⟩,
 ⟨(some 95), .p (.foff 2 (.s 94)), none⟩,
 ⟨(some 96), .p (.ld (.s 95)), none⟩,
 ⟨(some 97), .p (.bin .neq (.s 96) (.c (.int .i64 3))), none⟩] [2, 3, 4, 6, 7, 8, 13, 14, 97])
 (.cond (.s 97) (.exit 5) .skip))
 (.seq (.reg [⟨(some 98), .p (.foff 4 (.s 13)), none⟩,
 ⟨(some 99), .p (.ld (.s 98)), none⟩,
 ⟨(some 100), .p (.lenl (.s 99)), none⟩,
 ⟨(some 15), .p (.mv (.s 100)), none⟩] [2, 3, 4, 6, 7, 8, 13, 14, 15])
 (.seq (.block 6 (.loop (.seq (.seq (.regD [⟨(some 101), .p (.mv (.s 15)), none⟩,
 ⟨(some 102), .p (.bin .gtr (.s 101) (.c (.int .i64 0))), none⟩,
 ⟨(some 103), .p (.mv (.s 102)), none⟩,
 ⟨(some 104), .p (.foff 4 (.s 8)), (some (103, true))⟩,
 ⟨(some 105), .p (.ld (.s 104)), (some (103, true))⟩,
 ⟨(some 106), .p (.mv (.s 14)), (some (103, true))⟩,
 ⟨(some 107), .p (.iadr 3 (.s 105) (.s 106)), (some (103, true))⟩,
 ⟨(some 108), .p (.foff 0 (.s 107)), (some (103, true))⟩,
 ⟨(some 109), .p (.ld (.s 108)), (some (103, true))⟩,
 ⟨(some 110), .p (.foff 4 (.s 13)), (some (103, true))⟩,
 ⟨(some 111), .p (.ld (.s 110)), (some (103, true))⟩,
 ⟨(some 112), .p (.mv (.s 15)), (some (103, true))⟩,
 ⟨(some 113), .p (.bin .sub (.s 112) (.c (.int .i64 1))), (some (103, true))⟩,
 ⟨(some 114), .p (.iadr 1 (.s 111) (.s 113)), (some (103, true))⟩,
 ⟨(some 115), .p (.ld (.s 114)), (some (103, true))⟩,
 ⟨(some 116), .e (.call N.joistref00_Texts [(.s 109), (.s 115)] true), (some (103, true))⟩,
 ⟨(some 117), .p (.bin .lss (.s 116) (.c (.int .i64 0))), (some (103, true))⟩,
 ⟨(some 118), .p (.pick (.s 103) (.s 117) (.c (.bool false))), none⟩] [0, 1, 2, 3, 4, 5, 6, 7, 8, 9, 10, 11, 12, 13, 14, 15, 16, 17] [2, 3, 4, 6, 7, 8, 13, 14, 15, 118])
 (.cond (.s 118) .skip (.exit 6)))
 (.block 7 (.reg [⟨(some 119), .p (.mv (.s 15)), none⟩,
 ⟨(some 120), .p (.bin .sub (.s 119) (.c (.int .i64 1))), none⟩,
 ⟨(some 15), .p (.mv (.s 120)), none⟩] [2, 3, 4, 6, 7, 8, 13, 14, 15]))) [2, 3, 4, 6, 7, 8, 13, 14, 15]))
 (.seq (.reg [⟨(some 121), .e (.bsl 1 0 [.str []] []), none⟩,
 ⟨(some 16), .p (.mv (.s 121)), none⟩] [2, 3, 4, 6, 7, 8, 13, 14, 15, 16])
 (.seq (.reg [⟨(some 122), .p (.mv (.s 16)), none⟩,
 ⟨(some 123), .p (.foff 4 (.s 13)), none⟩,
 ⟨(some 124), .p (.ld (.s 123)), none⟩,
 ⟨(some 125), .p (.mv (.s 15)), none⟩,
 ⟨(some 126), .p (.slcl 1 (.s 124) none (some (.s 125)) none), none⟩,
 ⟨(some 127), .e (.app 1 16 (.s 122) (.s 126)), none⟩,
 ⟨(some 16), .p (.mv (.s 127)), none⟩] [2, 3, 4, 6, 7, 8, 13, 14, 15, 16])
 (.seq (.reg [⟨(some 128), .p (.mv (.s 16)), none⟩,
 ⟨(some 129), .p (.foff 4 (.s 8)), none⟩,
 ⟨(some 130), .p (.ld (.s 129)), none⟩,
 ⟨(some 131), .p (.mv (.s 14)), none⟩,
 ⟨(some 132), .p (.iadr 3 (.s 130) (.s 131)), none⟩,
 ⟨(some 133), .p (.foff 0 (.s 132)), none⟩,
 ⟨(some 134), .p (.ld (.s 133)), none⟩,
 ⟨(some 135), .e (.bsl 1 1 [.str []] [(0, 1, (.s 134))]), none⟩,
 ⟨(some 136), .e (.app 1 16 (.s 128) (.s 135)), none⟩,
 ⟨(some 16), .p (.mv (.s 136)), none⟩] [2, 3, 4, 6, 7, 8, 13, 14, 15, 16])
 (.reg [⟨(some 137), .p (.mv (.s 16)), none⟩,
 ⟨(some 138), .p (.foff 4 (.s 13)), none⟩,
 ⟨(some 139), .p (.ld (.s 138)), none⟩,
 ⟨(some 140), .p (.mv (.s 15)), none⟩,
 ⟨(some 141), .p (.slcl 1 (.s 139) (some (.s 140)) none none), none⟩,
 ⟨(some 142), .e (.app 1 16 (.s 137) (.s 141)), none⟩,
 ⟨(some 143), .p (.foff 4 (.s 13)), none⟩,
 ⟨none, .e (.st (.s 143) (.s 142)), none⟩] [2, 3, 4, 6, 7, 8, 13, 14]))))))))
 (.reg [⟨(some 89), .p (.mv (.s 14)), none⟩,
 ⟨(some 90), .p (.bin .add (.s 89) (.c (.int .i64 1))), none⟩,
 ⟨(some 14), .p (.mv (.s 90)), none⟩] [2, 3, 4, 6, 7, 8, 13, 14]))) [2, 3, 4, 6, 7, 8, 13, 14])))
 (.reg [⟨(some 144), .p (.mv (.s 6)), none⟩,
 ⟨(some 145), .p (.ldn 5 (.s 13)), none⟩,
 ⟨(some 146), .e (.bslz 5 1 [.str [], .int .i64 0, .int .i64 0, .int .i64 0, .psl []] [(0, 5, (.s 145))]), none⟩,
 ⟨(some 147), .e (.app 5 64 (.s 144) (.s 146)), none⟩,
 ⟨(some 6), .p (.mv (.s 147)), none⟩] [2, 3, 4, 6, 7])))))))))
 (.reg [⟨(some 33), .p (.mv (.s 7)), none⟩,
 ⟨(some 34), .p (.bin .add (.s 33) (.c (.int .i64 1))), none⟩,
 ⟨(some 7), .p (.mv (.s 34)), none⟩] [2, 3, 4, 6, 7]))) [2, 3, 4, 6, 7])))
 (.seq (.reg [⟨(some 148), .p (.foff 9 (.s 3)), none⟩,
 ⟨(some 149), .p (.ldn 7 (.s 148)), none⟩,
 ⟨(some 150), .p (.mv (.s 6)), none⟩,
 ⟨none, .e (.stn 7 (.s 4) (.s 149)), none⟩,
 ⟨(some 5), .p (.mv (.s 150)), none⟩] [4, 5])
 .ret)))))⟩

def F.plan_Formed : LFunc := ⟨49, [.t 2], 
 (.seq (.reg [⟨(some 1), .e (.box 16 (.s 0)), none⟩,
 ⟨(some 2), .p (.mv (.c (.bool false))), none⟩] [1])
 (.seq (.seq (.reg [⟨(some 3), .p (.foff 0 (.s 1)), none⟩,
 ⟨(some 4), .p (.ld (.s 3)), none⟩] [1, 4])
 (.block 0 (.seq (.reg [⟨(some 6), .p (.bin .eql (.s 4) (.c (.int .i64 3))), none⟩,
 ⟨(some 5), .p (.mv (.s 6)), none⟩] [1, 4, 5])
 (.cond (.s 5) (.seq (.reg [⟨(some 7), .p (.ldn 16 (.s 1)), none⟩,
 ⟨(some 8), .e (.call N.plan_read [(.s 7)] true), none⟩,
 ⟨(some 2), .p (.mv (.s 8)), none⟩] [2])
 .ret) (.seq (.reg [⟨(some 10), .p (.bin .eql (.s 4) (.c (.int .i64 1))), none⟩,
 ⟨(some 9), .p (.mv (.s 10)), none⟩] [1, 4, 9])
 (.cond (.s 9) (.seq (.reg [⟨(some 11), .p (.ldn 16 (.s 1)), none⟩,
 ⟨(some 12), .e (.call N.plan_write [(.s 11)] true), none⟩,
 ⟨(some 13), .p (.mv (.s 12)), none⟩,
 ⟨(some 14), .p (.foff 4 (.s 1)), (some (13, true))⟩,
 ⟨(some 15), .p (.ld (.s 14)), (some (13, true))⟩,
 ⟨(some 16), .p (.bin .eql (.s 15) (.c (.str []))), (some (13, true))⟩,
 ⟨(some 17), .p (.pick (.s 13) (.s 16) (.c (.bool false))), none⟩,
 ⟨(some 18), .p (.mv (.s 17)), none⟩,
 ⟨(some 19), .p (.foff 5 (.s 1)), (some (18, true))⟩,
 ⟨(some 20), .p (.ld (.s 19)), (some (18, true))⟩,
 ⟨(some 21), .p (.bin .eql (.s 20) (.c (.str []))), (some (18, true))⟩,
 ⟨(some 22), .p (.pick (.s 18) (.s 21) (.c (.bool false))), none⟩,
 ⟨(some 23), .p (.mv (.s 22)), none⟩,
 ⟨(some 24), .p (.foff 6 (.s 1)), (some (23, true))⟩,
 ⟨(some 25), .p (.ldn 3 (.s 24)), (some (23, true))⟩,
 ⟨(some 26), .e (.call N.plan_none [(.s 25)] true), (some (23, true))⟩,
 ⟨(some 27), .p (.pick (.s 23) (.s 26) (.c (.bool false))), none⟩,
 ⟨(some 2), .p (.mv (.s 27)), none⟩] [2])
 .ret) (.seq (.reg [⟨(some 29), .p (.bin .eql (.s 4) (.c (.int .i64 2))), none⟩,
 ⟨(some 28), .p (.mv (.s 29)), none⟩] [1, 28])
 (.cond (.s 28) (.seq (.reg [⟨(some 30), .p (.ldn 16 (.s 1)), none⟩,
 ⟨(some 31), .e (.call N.plan_write [(.s 30)] true), none⟩,
 ⟨(some 32), .p (.mv (.s 31)), none⟩,
 ⟨(some 33), .p (.foff 4 (.s 1)), (some (32, true))⟩,
 ⟨(some 34), .p (.ld (.s 33)), (some (32, true))⟩,
 ⟨(some 35), .p (.foff 5 (.s 1)), (some (32, true))⟩,
 ⟨(some 36), .p (.ld (.s 35)), (some (32, true))⟩,
 ⟨(some 37), .e (.call N.plan_column [(.s 34), (.s 36)] true), (some (32, true))⟩,
 ⟨(some 38), .p (.pick (.s 32) (.s 37) (.c (.bool false))), none⟩,
 ⟨(some 39), .p (.mv (.s 38)), none⟩,
 ⟨(some 40), .p (.foff 6 (.s 1)), (some (39, true))⟩,
 ⟨(some 41), .p (.ldn 3 (.s 40)), (some (39, true))⟩,
 ⟨(some 42), .e (.call N.plan_none [(.s 41)] true), (some (39, true))⟩,
 ⟨(some 43), .p (.mv (.s 42)), (some (39, true))⟩,
 ⟨(some 44), .p (.foff 6 (.s 1)), (some (43, false))⟩,
 ⟨(some 45), .p (.ldn 3 (.s 44)), (some (43, false))⟩,
 ⟨(some 46), .e (.call N.val_Right [(.s 45)] true), (some (43, false))⟩,
 ⟨(some 47), .p (.pick (.s 43) (.c (.bool true)) (.s 46)), (some (39, true))⟩,
 ⟨(some 48), .p (.pick (.s 39) (.s 47) (.c (.bool false))), none⟩,
 ⟨(some 2), .p (.mv (.s 48)), none⟩] [2])
 .ret) .skip))))))))
 (.seq (.reg [⟨(some 2), .p (.mv (.c (.bool false))), none⟩] [2])
 .ret)))⟩

def F.joistref16_Formed : LFunc := ⟨146, [.t 2], 
 (.seq (.reg [⟨(some 1), .e (.box 16 (.s 0)), none⟩,
 ⟨(some 2), .p (.mv (.c (.bool false))), none⟩] [1])
 (.seq (.seq (.reg [⟨(some 4), .p (.foff 0 (.s 1)), none⟩,
 ⟨(some 5), .p (.ld (.s 4)), none⟩,
 ⟨(some 6), .p (.bin .eql (.s 5) (.c (.int .i64 3))), none⟩] [1, 6])
 (.cond (.s 6) (.seq (.reg [⟨(some 7), .p (.foff 1 (.s 1)), none⟩,
 ⟨(some 8), .p (.ld (.s 7)), none⟩,
 ⟨(some 9), .p (.lens (.s 8)), none⟩,
 ⟨(some 10), .p (.bin .leq (.s 9) (.c (.int .i64 16))), none⟩,
 ⟨(some 11), .p (.mv (.s 10)), none⟩,
 ⟨(some 12), .p (.foff 2 (.s 1)), (some (11, true))⟩,
 ⟨(some 13), .p (.ld (.s 12)), (some (11, true))⟩,
 ⟨(some 14), .p (.lens (.s 13)), (some (11, true))⟩,
 ⟨(some 15), .p (.bin .leq (.s 14) (.c (.int .i64 16))), (some (11, true))⟩,
 ⟨(some 16), .p (.pick (.s 11) (.s 15) (.c (.bool false))), none⟩,
 ⟨(some 17), .p (.mv (.s 16)), none⟩,
 ⟨(some 18), .p (.foff 2 (.s 1)), (some (17, true))⟩,
 ⟨(some 19), .p (.ld (.s 18)), (some (17, true))⟩,
 ⟨(some 20), .p (.bin .eql (.s 19) (.c (.str []))), (some (17, true))⟩,
 ⟨(some 21), .p (.mv (.s 20)), (some (17, true))⟩,
 ⟨(some 22), .p (.foff 1 (.s 1)), (some (21, false))⟩,
 ⟨(some 23), .p (.ld (.s 22)), (some (21, false))⟩,
 ⟨(some 24), .p (.foff 2 (.s 1)), (some (21, false))⟩,
 ⟨(some 25), .p (.ld (.s 24)), (some (21, false))⟩,
 ⟨(some 26), .e (.call N.joistref00_Texts [(.s 23), (.s 25)] true), (some (21, false))⟩,
 ⟨(some 27), .p (.bin .leq (.s 26) (.c (.int .i64 0))), (some (21, false))⟩,
 ⟨(some 28), .p (.pick (.s 21) (.c (.bool true)) (.s 27)), (some (17, true))⟩,
 ⟨(some 29), .p (.pick (.s 17) (.s 28) (.c (.bool false))), none⟩,
 ⟨(some 30), .p (.mv (.s 29)), none⟩,
 ⟨(some 31), .p (.foff 3 (.s 1)), (some (30, true))⟩,
 ⟨(some 32), .p (.ld (.s 31)), (some (30, true))⟩,
 ⟨(some 33), .p (.lenl (.s 32)), (some (30, true))⟩,
 ⟨(some 34), .p (.bin .eql (.s 33) (.c (.int .i64 0))), (some (30, true))⟩,
 ⟨(some 35), .p (.pick (.s 30) (.s 34) (.c (.bool false))), none⟩,
 ⟨(some 36), .p (.mv (.s 35)), none⟩,
 ⟨(some 37), .p (.foff 4 (.s 1)), (some (36, true))⟩,
 ⟨(some 38), .p (.ld (.s 37)), (some (36, true))⟩,
 ⟨(some 39), .p (.bin .eql (.s 38) (.c (.str []))), (some (36, true))⟩,
 ⟨(some 40), .p (.pick (.s 36) (.s 39) (.c (.bool false))), none⟩,
 ⟨(some 41), .p (.mv (.s 40)), none⟩,
 ⟨(some 42), .p (.foff 5 (.s 1)), (some (41, true))⟩,
 ⟨(some 43), .p (.ld (.s 42)), (some (41, true))⟩,
 ⟨(some 44), .p (.bin .eql (.s 43) (.c (.str []))), (some (41, true))⟩,
 ⟨(some 45), .p (.pick (.s 41) (.s 44) (.c (.bool false))), none⟩,
 ⟨(some 46), .p (.mv (.s 45)), none⟩,
 ⟨(some 47), .p (.foff 6 (.s 1)), (some (46, true))⟩,
 ⟨(some 48), .p (.ldn 3 (.s 47)), (some (46, true))⟩,
 ⟨(some 49), .p (.build [.int .i64 0, .int .i64 0, .str []] []), (some (46, true))⟩,
 ⟨(some 50), .p (.eqk false (.agg [0, 0, 1]) (.s 48) (.s 49)), (some (46, true))⟩,
 ⟨(some 51), .p (.pick (.s 46) (.s 50) (.c (.bool false))), none⟩,
 ⟨(some 52), .p (.mv (.s 51)), none⟩,
 ⟨(some 53), .p (.foff 9 (.s 1)), (some (52, true))⟩,
 ⟨(some 54), .p (.ldn 7 (.s 53)), (some (52, true))⟩,
 ⟨(some 55), .e (.call N.joistref13_Right [(.s 54)] true), (some (52, true))⟩,
 ⟨(some 56), .p (.pick (.s 52) (.s 55) (.c (.bool false))), none⟩,
 ⟨(some 2), .p (.mv (.s 56)), none⟩] [2])
 .ret) .skip))
 (.seq (.seq (.reg [⟨(some 57), .p (.foff 1 (.s 1)), none⟩,
 ⟨(some 58), .p (.ld (.s 57)), none⟩,
 ⟨(some 59), .p (.lens (.s 58)), none⟩,
 ⟨(some 60), .p (.bin .lss (.s 59) (.c (.int .i64 1))), none⟩,
 ⟨(some 61), .p (.mv (.s 60)), none⟩,
 ⟨(some 62), .p (.foff 1 (.s 1)), (some (61, false))⟩,
 ⟨(some 63), .p (.ld (.s 62)), (some (61, false))⟩,
 ⟨(some 64), .p (.lens (.s 63)), (some (61, false))⟩,
 ⟨(some 65), .p (.bin .gtr (.s 64) (.c (.int .i64 16))), (some (61, false))⟩,
 ⟨(some 66), .p (.pick (.s 61) (.c (.bool true)) (.s 65)), none⟩,
 ⟨(some 67), .p (.mv (.s 66)), none⟩,
 ⟨(some 68), .p (.foff 2 (.s 1)), (some (67, false))⟩,
 ⟨(some 69), .p (.ld (.s 68)), (some (67, false))⟩,
 ⟨(some 70), .p (.bin .neq (.s 69) (.c (.str []))), (some (67, false))⟩,
 ⟨(some 71), .p (.pick (.s 67) (.c (.bool true)) (.s 70)), none⟩,
 ⟨(some 72), .p (.mv (.s 71)), none⟩,
 ⟨(some 73), .p (.foff 9 (.s 1)), (some (72, false))⟩,
 ⟨(some 74), .p (.ldn 7 (.s 73)), (some (72, false))⟩,
 ⟨(some 75), .e (.call N.joistref16_empty [(.s 74)] true), (some (72, false))⟩,
 ⟨(some 76), .p (.un .not (.s 75)), (some (72, false))⟩,
 ⟨(some 77), .p (.pick (.s 72) (.c (.bool true)) (.s 76)), none⟩,
 ⟨(some 78), .p (.mv (.s 77)), none⟩,
 ⟨(some 79), .p (.foff 3 (.s 1)), (some (78, false))⟩,
 ⟨(some 80), .p (.ld (.s 79)), (some (78, false))⟩,
 ⟨(some 81), .p (.lenl (.s 80)), (some (78, false))⟩,
 ⟨(some 82), .p (.bin .lss (.s 81) (.c (.int .i64 1))), (some (78, false))⟩,
 ⟨(some 83), .p (.pick (.s 78) (.c (.bool true)) (.s 82)), none⟩,
 ⟨(some 84), .p (.mv (.s 83)), none⟩,
 ⟨(some 85), .p (.foff 3 (.s 1)), (some (84, false))⟩,
 ⟨(some 86), .p (.ld (.s 85)), (some (84, false))⟩,
 ⟨(some 87), .p (.lenl (.s 86)), (some (84, false))⟩,
 ⟨(some 88), .p (.bin .gtr (.s 87) (.c (.int .i64 8))), (some (84, false))⟩,
 ⟨(some 89), .p (.pick (.s 84) (.c (.bool true)) (.s 88)), none⟩] [1, 89])
 (.cond (.s 89) (.seq (.reg [⟨(some 2), .p (.mv (.c (.bool false))), none⟩] [2])
 .ret) .skip))
 (.seq (.seq (.reg [⟨(some 3), .p (.mv (.c (.int .i64 0))), none⟩] [1, 3])
 (.block 0 (.loop (.seq (.seq (.reg [⟨(some 90), .p (.mv (.s 3)), none⟩,
 ⟨(some 91), .p (.foff 3 (.s 1)), none⟩,
 ⟨(some 92), .p (.ld (.s 91)), none⟩,
 ⟨(some 93), .p (.lenl (.s 92)), none⟩,
 ⟨(some 94), .p (.bin .lss (.s 90) (.s 93)), none⟩] [1, 3, 94])
 (.cond (.s 94) .skip (.exit 0)))
 (.seq (.block 1 (.seq (.reg [⟨(some 97), .p (.foff 3 (.s 1)), none⟩,
 ⟨(some 98), .p (.ld (.s 97)), none⟩,
 ⟨(some 99), .p (.mv (.s 3)), none⟩,
 ⟨(some 100), .p (.iadr 6 (.s 98) (.s 99)), none⟩,
 ⟨(some 101), .p (.ldn 6 (.s 100)), none⟩,
 ⟨(some 102), .e (.call N.joistref16_mut [(.s 101)] true), none⟩,
 ⟨(some 103), .p (.un .not (.s 102)), none⟩] [1, 3, 103])
 (.cond (.s 103) (.seq (.reg [⟨(some 2), .p (.mv (.c (.bool false))), none⟩] [2])
 .ret) .skip)))
 (.reg [⟨(some 95), .p (.mv (.s 3)), none⟩,
 ⟨(some 96), .p (.bin .add (.s 95) (.c (.int .i64 1))), none⟩,
 ⟨(some 3), .p (.mv (.s 96)), none⟩] [1, 3]))) [1, 3])))
 (.seq (.seq (.reg [⟨(some 104), .p (.foff 0 (.s 1)), none⟩,
 ⟨(some 105), .p (.ld (.s 104)), none⟩,
 ⟨(some 106), .p (.bin .eql (.s 105) (.c (.int .i64 2))), none⟩] [1, 106])
 (.cond (.s 106) (.seq (.reg [⟨(some 107), .p (.foff 4 (.s 1)), none⟩,
 ⟨(some 108), .p (.ld (.s 107)), none⟩,
 ⟨(some 109), .e (.call N.joistref03_Name [(.s 108)] true), none⟩,
 ⟨(some 110), .p (.mv (.s 109)), none⟩,
 ⟨(some 111), .p (.foff 5 (.s 1)), (some (110, true))⟩,
 ⟨(some 112), .p (.ld (.s 111)), (some (110, true))⟩,
 ⟨(some 113), .p (.lens (.s 112)), (some (110, true))⟩,
 ⟨(some 114), .p (.bin .leq (.s 113) (.c (.int .i64 12))), (some (110, true))⟩,
 ⟨(some 115), .p (.pick (.s 110) (.s 114) (.c (.bool false))), none⟩,
 ⟨(some 116), .p (.mv (.s 115)), none⟩,
 ⟨(some 117), .p (.foff 6 (.s 1)), (some (116, true))⟩,
 ⟨(some 118), .p (.ldn 3 (.s 117)), (some (116, true))⟩,
 ⟨(some 119), .p (.build [.int .i64 0, .int .i64 0, .str []] []), (some (116, true))⟩,
 ⟨(some 120), .p (.eqk false (.agg [0, 0, 1]) (.s 118) (.s 119)), (some (116, true))⟩,
 ⟨(some 121), .p (.mv (.s 120)), (some (116, true))⟩,
 ⟨(some 122), .p (.foff 6 (.s 1)), (some (121, false))⟩,
 ⟨(some 123), .p (.ldn 3 (.s 122)), (some (121, false))⟩,
 ⟨(some 124), .e (.call N.joistref02_Right [(.s 123)] true), (some (121, false))⟩,
 ⟨(some 125), .p (.pick (.s 121) (.c (.bool true)) (.s 124)), (some (116, true))⟩,
 ⟨(some 126), .p (.pick (.s 116) (.s 125) (.c (.bool false))), none⟩,
 ⟨(some 2), .p (.mv (.s 126)), none⟩] [2])
 .ret) .skip))
 (.seq (.reg [⟨(some 127), .p (.foff 0 (.s 1)), none⟩,
 ⟨(some 128), .p (.ld (.s 127)), none⟩,
 ⟨(some 129), .p (.bin .eql (.s 128) (.c (.int .i64 1))), none⟩,
 ⟨(some 130), .p (.mv (.s 129)), none⟩,
 ⟨(some 131), .p (.foff 4 (.s 1)), (some (130, true))⟩,
 ⟨(some 132), .p (.ld (.s 131)), (some (130, true))⟩,
 ⟨(some 133), .p (.bin .eql (.s 132) (.c (.str []))), (some (130, true))⟩,
 ⟨(some 134), .p (.pick (.s 130) (.s 133) (.c (.bool false))), none⟩,
 ⟨(some 135), .p (.mv (.s 134)), none⟩,
 ⟨(some 136), .p (.foff 5 (.s 1)), (some (135, true))⟩,
 ⟨(some 137), .p (.ld (.s 136)), (some (135, true))⟩,
 ⟨(some 138), .p (.bin .eql (.s 137) (.c (.str []))), (some (135, true))⟩,
 ⟨(some 139), .p (.pick (.s 135) (.s 138) (.c (.bool false))), none⟩,
 ⟨(some 140), .p (.mv (.s 139)), none⟩,
 ⟨(some 141), .p (.foff 6 (.s 1)), (some (140, true))⟩,
 ⟨(some 142), .p (.ldn 3 (.s 141)), (some (140, true))⟩,
 ⟨(some 143), .p (.build [.int .i64 0, .int .i64 0, .str []] []), (some (140, true))⟩,
 ⟨(some 144), .p (.eqk false (.agg [0, 0, 1]) (.s 142) (.s 143)), (some (140, true))⟩,
 ⟨(some 145), .p (.pick (.s 140) (.s 144) (.c (.bool false))), none⟩,
 ⟨(some 2), .p (.mv (.s 145)), none⟩] [2])
 .ret))))))⟩

def F.joistref16_Check : LFunc := ⟨88, [.t 4], 
 (.seq (.reg [⟨(some 2), .e (.box 10 (.s 0)), none⟩,
 ⟨(some 3), .e (.box 16 (.s 1)), none⟩,
 ⟨(some 4), .p (.mv (.c (.int .i64 0))), none⟩] [2, 3])
 (.seq (.seq (.reg [⟨(some 9), .p (.ldn 10 (.s 2)), none⟩,
 ⟨(some 10), .e (.call N.joistref14_Right [(.s 9)] true), none⟩,
 ⟨(some 11), .p (.un .not (.s 10)), none⟩,
 ⟨(some 12), .p (.mv (.s 11)), none⟩,
 ⟨(some 13), .p (.ldn 16 (.s 3)), (some (12, false))⟩,
 ⟨(some 14), .e (.call N.joistref16_Formed [(.s 13)] true), (some (12, false))⟩,
 ⟨(some 15), .p (.un .not (.s 14)), (some (12, false))⟩,
 ⟨(some 16), .p (.pick (.s 12) (.c (.bool true)) (.s 15)), none⟩] [2, 3, 16])
 (.cond (.s 16) (.seq (.reg [⟨(some 4), .p (.mv (.c (.int .i64 10))), none⟩] [4])
 .ret) .skip))
 (.seq (.seq (.reg [⟨(some 5), .p (.mv (.c (.int .i64 0))), none⟩] [2, 3, 5])
 (.block 0 (.loop (.seq (.seq (.reg [⟨(some 17), .p (.mv (.s 5)), none⟩,
 ⟨(some 18), .p (.foff 9 (.s 3)), none⟩,
 ⟨(some 19), .p (.foff 0 (.s 18)), none⟩,
 ⟨(some 20), .p (.ld (.s 19)), none⟩,
 ⟨(some 21), .p (.lenl (.s 20)), none⟩,
 ⟨(some 22), .p (.bin .lss (.s 17) (.s 21)), none⟩] [2, 3, 5, 22])
 (.cond (.s 22) .skip (.exit 0)))
 (.seq (.block 1 (.seq (.regD [⟨(some 25), .p (.ldn 10 (.s 2)), none⟩,
 ⟨(some 26), .p (.foff 9 (.s 3)), none⟩,
 ⟨(some 27), .p (.foff 0 (.s 26)), none⟩,
 ⟨(some 28), .p (.ld (.s 27)), none⟩,
 ⟨(some 29), .p (.mv (.s 5)), none⟩,
 ⟨(some 30), .p (.iadr 1 (.s 28) (.s 29)), none⟩,
 ⟨(some 31), .p (.ld (.s 30)), none⟩,
 ⟨(some 32), .e (.call N.joistref16_Family [(.s 25), (.s 31)] true), none⟩,
 ⟨(some 33), .p (.un .not (.s 32)), none⟩] [0, 1, 2, 3, 4, 5, 6, 7, 8] [2, 3, 5, 33])
 (.cond (.s 33) (.seq (.reg [⟨(some 4), .p (.mv (.c (.int .i64 12))), none⟩] [4])
 .ret) .skip)))
 (.reg [⟨(some 23), .p (.mv (.s 5)), none⟩,
 ⟨(some 24), .p (.bin .add (.s 23) (.c (.int .i64 1))), none⟩,
 ⟨(some 5), .p (.mv (.s 24)), none⟩] [2, 3, 5]))) [2, 3, 5])))
 (.seq (.reg [⟨(some 6), .p (.mv (.c (.int .i64 0))), none⟩] [2, 3, 6])
 (.seq (.seq (.reg [⟨(some 34), .p (.foff 0 (.s 3)), none⟩,
 ⟨(some 35), .p (.ld (.s 34)), none⟩,
 ⟨(some 36), .p (.bin .eql (.s 35) (.c (.int .i64 2))), none⟩] [2, 3, 6, 36])
 (.cond (.s 36) (.reg [⟨(some 37), .p (.ldn 10 (.s 2)), none⟩,
 ⟨(some 38), .p (.foff 4 (.s 3)), none⟩,
 ⟨(some 39), .p (.ld (.s 38)), none⟩,
 ⟨(some 40), .p (.foff 5 (.s 3)), none⟩,
 ⟨(some 41), .p (.ld (.s 40)), none⟩,
 ⟨(some 42), .p (.foff 6 (.s 3)), none⟩,
 ⟨(some 43), .p (.ldn 3 (.s 42)), none⟩,
 ⟨(some 44), .e (.call N.joistref16_column [(.s 37), (.s 39), (.s 41), (.s 43)] true), none⟩,
 ⟨(some 6), .p (.mv (.s 44)), none⟩] [2, 3, 6]) .skip))
 (.seq (.seq (.reg [⟨(some 7), .p (.mv (.c (.int .i64 0))), none⟩] [2, 3, 6, 7])
 (.block 2 (.loop (.seq (.seq (.reg [⟨(some 45), .p (.mv (.s 7)), none⟩,
 ⟨(some 46), .p (.foff 3 (.s 3)), none⟩,
 ⟨(some 47), .p (.ld (.s 46)), none⟩,
 ⟨(some 48), .p (.lenl (.s 47)), none⟩,
 ⟨(some 49), .p (.bin .lss (.s 45) (.s 48)), none⟩,
 ⟨(some 50), .p (.mv (.s 49)), none⟩,
 ⟨(some 51), .p (.mv (.s 6)), (some (50, true))⟩,
 ⟨(some 52), .p (.bin .eql (.s 51) (.c (.int .i64 0))), (some (50, true))⟩,
 ⟨(some 53), .p (.pick (.s 50) (.s 52) (.c (.bool false))), none⟩] [2, 3, 6, 7, 53])
 (.cond (.s 53) .skip (.exit 2)))
 (.seq (.block 3 (.seq (.reg [⟨(some 56), .p (.foff 3 (.s 3)), none⟩,
 ⟨(some 57), .p (.ld (.s 56)), none⟩,
 ⟨(some 58), .p (.mv (.s 7)), none⟩,
 ⟨(some 59), .p (.iadr 6 (.s 57) (.s 58)), none⟩,
 ⟨(some 60), .p (.ldn 6 (.s 59)), none⟩,
 ⟨(some 8), .e (.alloc [.int .i64 0, .str [], .str [], .int .i64 0, .int .i64 0, .str []]), none⟩,
 ⟨none, .e (.stn 6 (.s 8) (.s 60)), none⟩] [2, 3, 6, 7, 8])
 (.seq (.seq (.reg [⟨(some 61), .p (.foff 0 (.s 8)), none⟩,
 ⟨(some 62), .p (.ld (.s 61)), none⟩,
 ⟨(some 63), .p (.bin .eql (.s 62) (.c (.int .i64 1))), none⟩,
 ⟨(some 64), .p (.mv (.s 63)), none⟩,
 ⟨(some 65), .p (.foff 0 (.s 8)), (some (64, false))⟩,
 ⟨(some 66), .p (.ld (.s 65)), (some (64, false))⟩,
 ⟨(some 67), .p (.bin .eql (.s 66) (.c (.int .i64 2))), (some (64, false))⟩,
 ⟨(some 68), .p (.pick (.s 64) (.c (.bool true)) (.s 67)), none⟩] [2, 3, 6, 7, 8, 68])
 (.cond (.s 68) (.reg [⟨(some 69), .p (.ldn 10 (.s 2)), none⟩,
 ⟨(some 70), .p (.foff 1 (.s 8)), none⟩,
 ⟨(some 71), .p (.ld (.s 70)), none⟩,
 ⟨(some 72), .p (.foff 2 (.s 8)), none⟩,
 ⟨(some 73), .p (.ld (.s 72)), none⟩,
 ⟨(some 74), .p (.foff 3 (.s 8)), none⟩,
 ⟨(some 75), .p (.ldn 3 (.s 74)), none⟩,
 ⟨(some 76), .e (.call N.joistref16_column [(.s 69), (.s 71), (.s 73), (.s 75)] true), none⟩,
 ⟨(some 6), .p (.mv (.s 76)), none⟩] [2, 3, 6, 7, 8]) .skip))
 (.seq (.reg [⟨(some 77), .p (.foff 0 (.s 8)), none⟩,
 ⟨(some 78), .p (.ld (.s 77)), none⟩,
 ⟨(some 79), .p (.bin .eql (.s 78) (.c (.int .i64 3))), none⟩,
 ⟨(some 80), .p (.mv (.s 79)), none⟩,
 ⟨(some 81), .p (.ldn 10 (.s 2)), (some (80, true))⟩,
 ⟨(some 82), .p (.foff 1 (.s 8)), (some (80, true))⟩,
 ⟨(some 83), .p (.ld (.s 82)), (some (80, true))⟩,
 ⟨(some 84), .e (.call N.joistref16_Family [(.s 81), (.s 83)] true), (some (80, true))⟩,
 ⟨(some 85), .p (.un .not (.s 84)), (some (80, true))⟩,
 ⟨(some 86), .p (.pick (.s 80) (.s 85) (.c (.bool false))), none⟩] [2, 3, 6, 7, 86])
 (.cond (.s 86) (.reg [⟨(some 6), .p (.mv (.c (.int .i64 12))), none⟩] [2, 3, 6, 7]) .skip)))))
 (.reg [⟨(some 54), .p (.mv (.s 7)), none⟩,
 ⟨(some 55), .p (.bin .add (.s 54) (.c (.int .i64 1))), none⟩,
 ⟨(some 7), .p (.mv (.s 55)), none⟩] [2, 3, 6, 7]))) [2, 3, 6, 7])))
 (.seq (.reg [⟨(some 87), .p (.mv (.s 6)), none⟩,
 ⟨(some 4), .p (.mv (.s 87)), none⟩] [4])
 .ret)))))))⟩

def F.joistref00_SameCells : LFunc := ⟨26, [.t 4], 
 (.seq (.reg [⟨(some 4), .p (.mv (.c (.bool false))), none⟩] [0, 1])
 (.seq (.seq (.reg [⟨(some 6), .p (.mv (.s 0)), none⟩,
 ⟨(some 7), .p (.lenl (.s 6)), none⟩,
 ⟨(some 8), .p (.mv (.s 1)), none⟩,
 ⟨(some 9), .p (.lenl (.s 8)), none⟩,
 ⟨(some 10), .p (.bin .neq (.s 7) (.s 9)), none⟩] [0, 1, 10])
 (.cond (.s 10) (.seq (.reg [⟨(some 4), .p (.mv (.c (.bool false))), none⟩] [4])
 .ret) .skip))
 (.seq (.seq (.reg [⟨(some 5), .p (.mv (.c (.int .i64 0))), none⟩] [0, 1, 5])
 (.block 0 (.loop (.seq (.seq (.reg [⟨(some 11), .p (.mv (.s 5)), none⟩,
 ⟨(some 12), .p (.mv (.s 0)), none⟩,
 ⟨(some 13), .p (.lenl (.s 12)), none⟩,
 ⟨(some 14), .p (.bin .lss (.s 11) (.s 13)), none⟩] [0, 1, 5, 14])
 (.cond (.s 14) .skip (.exit 0)))
 (.seq (.block 1 (.seq (.regD [⟨(some 17), .p (.mv (.s 0)), none⟩,
 ⟨(some 18), .p (.mv (.s 5)), none⟩,
 ⟨(some 19), .p (.iadr 8 (.s 17) (.s 18)), none⟩,
 ⟨(some 20), .p (.ldn 8 (.s 19)), none⟩,
 ⟨(some 21), .p (.mv (.s 1)), none⟩,
 ⟨(some 22), .p (.mv (.s 5)), none⟩,
 ⟨(some 23), .p (.iadr 8 (.s 21) (.s 22)), none⟩,
 ⟨(some 24), .p (.ldn 8 (.s 23)), none⟩,
 ⟨(some 25), .p (.eqk true (.agg [1, 1, 1, 0, 0, 0, 0, 1]) (.s 20) (.s 24)), none⟩] [0, 1, 2, 3, 4, 5, 6, 7, 8] [0, 1, 5, 25])
 (.cond (.s 25) (.seq (.reg [⟨(some 4), .p (.mv (.c (.bool false))), none⟩] [4])
 .ret) .skip)))
 (.reg [⟨(some 15), .p (.mv (.s 5)), none⟩,
 ⟨(some 16), .p (.bin .add (.s 15) (.c (.int .i64 1))), none⟩,
 ⟨(some 5), .p (.mv (.s 16)), none⟩] [0, 1, 5]))) [0, 1, 5])))
 (.seq (.reg [⟨(some 4), .p (.mv (.c (.bool true))), none⟩] [4])
 .ret))))⟩

def F.joistref00_SameTexts : LFunc := ⟨26, [.t 4], 
 (.seq (.reg [⟨(some 4), .p (.mv (.c (.bool false))), none⟩] [0, 1])
 (.seq (.seq (.reg [⟨(some 6), .p (.mv (.s 0)), none⟩,
 ⟨(some 7), .p (.lenl (.s 6)), none⟩,
 ⟨(some 8), .p (.mv (.s 1)), none⟩,
 ⟨(some 9), .p (.lenl (.s 8)), none⟩,
 ⟨(some 10), .p (.bin .neq (.s 7) (.s 9)), none⟩] [0, 1, 10])
 (.cond (.s 10) (.seq (.reg [⟨(some 4), .p (.mv (.c (.bool false))), none⟩] [4])
 .ret) .skip))
 (.seq (.seq (.reg [⟨(some 5), .p (.mv (.c (.int .i64 0))), none⟩] [0, 1, 5])
 (.block 0 (.loop (.seq (.seq (.reg [⟨(some 11), .p (.mv (.s 5)), none⟩,
 ⟨(some 12), .p (.mv (.s 0)), none⟩,
 ⟨(some 13), .p (.lenl (.s 12)), none⟩,
 ⟨(some 14), .p (.bin .lss (.s 11) (.s 13)), none⟩] [0, 1, 5, 14])
 (.cond (.s 14) .skip (.exit 0)))
 (.seq (.block 1 (.seq (.regD [⟨(some 17), .p (.mv (.s 0)), none⟩,
 ⟨(some 18), .p (.mv (.s 5)), none⟩,
 ⟨(some 19), .p (.iadr 1 (.s 17) (.s 18)), none⟩,
 ⟨(some 20), .p (.ld (.s 19)), none⟩,
 ⟨(some 21), .p (.mv (.s 1)), none⟩,
 ⟨(some 22), .p (.mv (.s 5)), none⟩,
 ⟨(some 23), .p (.iadr 1 (.s 21) (.s 22)), none⟩,
 ⟨(some 24), .p (.ld (.s 23)), none⟩,
 ⟨(some 25), .p (.bin .neq (.s 20) (.s 24)), none⟩] [0, 1, 2, 3, 4, 5, 6, 7, 8] [0, 1, 5, 25])
 (.cond (.s 25) (.seq (.reg [⟨(some 4), .p (.mv (.c (.bool false))), none⟩] [4])
 .ret) .skip)))
 (.reg [⟨(some 15), .p (.mv (.s 5)), none⟩,
 ⟨(some 16), .p (.bin .add (.s 15) (.c (.int .i64 1))), none⟩,
 ⟨(some 5), .p (.mv (.s 16)), none⟩] [0, 1, 5]))) [0, 1, 5])))
 (.seq (.reg [⟨(some 4), .p (.mv (.c (.bool true))), none⟩] [4])
 .ret))))⟩

def F.joistlaw16_same : LFunc := ⟨129, [.t 4], 
 (.seq (.reg [⟨(some 2), .e (.box 16 (.s 0)), none⟩,
 ⟨(some 3), .e (.box 16 (.s 1)), none⟩,
 ⟨(some 4), .p (.mv (.c (.bool false))), none⟩] [2, 3])
 (.seq (.seq (.reg [⟨(some 8), .p (.foff 0 (.s 2)), none⟩,
 ⟨(some 9), .p (.ld (.s 8)), none⟩,
 ⟨(some 10), .p (.foff 0 (.s 3)), none⟩,
 ⟨(some 11), .p (.ld (.s 10)), none⟩,
 ⟨(some 12), .p (.bin .neq (.s 9) (.s 11)), none⟩,
 ⟨(some 13), .p (.mv (.s 12)), none⟩,
 ⟨(some 14), .p (.foff 1 (.s 2)), (some (13, false))⟩,
 ⟨(some 15), .p (.ld (.s 14)), (some (13, false))⟩,
 ⟨(some 16), .p (.foff 1 (.s 3)), (some (13, false))⟩,
 ⟨(some 17), .p (.ld (.s 16)), (some (13, false))⟩,
 ⟨(some 18), .p (.bin .neq (.s 15) (.s 17)), (some (13, false))⟩,
 ⟨(some 19), .p (.pick (.s 13) (.c (.bool true)) (.s 18)), none⟩,
 ⟨(some 20), .p (.mv (.s 19)), none⟩,
 ⟨(some 21), .p (.foff 2 (.s 2)), (some (20, false))⟩,
 ⟨(some 22), .p (.ld (.s 21)), (some (20, false))⟩,
 ⟨(some 23), .p (.foff 2 (.s 3)), (some (20, false))⟩,
 ⟨(some 24), .p (.ld (.s 23)), (some (20, false))⟩,
 ⟨(some 25), .p (.bin .neq (.s 22) (.s 24)), (some (20, false))⟩,
 ⟨(some 26), .p (.pick (.s 20) (.c (.bool true)) (.s 25)), none⟩,
 ⟨(some 27), .p (.mv (.s 26)), none⟩,
 ⟨(some 28), .p (.foff 4 (.s 2)), (some (27, false))⟩,
 ⟨(some 29), .p (.ld (.s 28)), (some (27, false))⟩,
 ⟨(some 30), .p (.foff 4 (.s 3)), (some (27, false))⟩,
 ⟨(some 31), .p (.ld (.s 30)), (some (27, false))⟩,
 ⟨(some 32), .p (.bin .neq (.s 29) (.s 31)), (some (27, false))⟩,
 ⟨(some 33), .p (.pick (.s 27) (.c (.bool true)) (.s 32)), none⟩,
 ⟨(some 34), .p (.mv (.s 33)), none⟩,
 ⟨(some 35), .p (.foff 5 (.s 2)), (some (34, false))⟩,
 ⟨(some 36), .p (.ld (.s 35)), (some (34, false))⟩,
 ⟨(some 37), .p (.foff 5 (.s 3)), (some (34, false))⟩,
 ⟨(some 38), .p (.ld (.s 37)), (some (34, false))⟩,
 ⟨(some 39), .p (.bin .neq (.s 36) (.s 38)), (some (34, false))⟩,
 ⟨(some 40), .p (.pick (.s 34) (.c (.bool true)) (.s 39)), none⟩,
 ⟨(some 41), .p (.mv (.s 40)), none⟩,
 ⟨(some 42), .p (.foff 6 (.s 2)), (some (41, false))⟩,
 ⟨(some 43), .p (.ldn 3 (.s 42)), (some (41, false))⟩,
 ⟨(some 44), .p (.foff 6 (.s 3)), (some (41, false))⟩,
 ⟨(some 45), .p (.ldn 3 (.s 44)), (some (41, false))⟩,
 ⟨(some 46), .p (.eqk true (.agg [0, 0, 1]) (.s 43) (.s 45)), (some (41, false))⟩,
 ⟨(some 47), .p (.pick (.s 41) (.c (.bool true)) (.s 46)), none⟩,
 ⟨(some 48), .p (.mv (.s 47)), none⟩,
 ⟨(some 49), .p (.foff 3 (.s 2)), (some (48, false))⟩,
 ⟨(some 50), .p (.ld (.s 49)), (some (48, false))⟩,
 ⟨(some 51), .p (.lenl (.s 50)), (some (48, false))⟩,
 ⟨(some 52), .p (.foff 3 (.s 3)), (some (48, false))⟩,
 ⟨(some 53), .p (.ld (.s 52)), (some (48, false))⟩,
 ⟨(some 54), .p (.lenl (.s 53)), (some (48, false))⟩,
 ⟨(some 55), .p (.bin .neq (.s 51) (.s 54)), (some (48, false))⟩,
 ⟨(some 56), .p (.pick (.s 48) (.c (.bool true)) (.s 55)), none⟩,
 ⟨(some 57), .p (.mv (.s 56)), none⟩,
 ⟨(some 58), .p (.foff 9 (.s 2)), (some (57, false))⟩,
 ⟨(some 59), .p (.foff 0 (.s 58)), (some (57, false))⟩,
 ⟨(some 60), .p (.ld (.s 59)), (some (57, false))⟩,
 ⟨(some 61), .p (.foff 9 (.s 3)), (some (57, false))⟩,
 ⟨(some 62), .p (.foff 0 (.s 61)), (some (57, false))⟩,
 ⟨(some 63), .p (.ld (.s 62)), (some (57, false))⟩,
 ⟨(some 64), .e (.call N.joistref00_SameTexts [(.s 60), (.s 63)] true), (some (57, false))⟩,
 ⟨(some 65), .p (.un .not (.s 64)), (some (57, false))⟩,
 ⟨(some 66), .p (.pick (.s 57) (.c (.bool true)) (.s 65)), none⟩] [2, 3, 66])
 (.cond (.s 66) (.seq (.reg [⟨(some 4), .p (.mv (.c (.bool false))), none⟩] [4])
 .ret) .skip))
 (.seq (.seq (.reg [⟨(some 5), .p (.mv (.c (.int .i64 0))), none⟩] [2, 3, 5])
 (.block 0 (.loop (.seq (.seq (.reg [⟨(some 67), .p (.mv (.s 5)), none⟩,
 ⟨(some 68), .p (.foff 3 (.s 2)), none⟩,
 ⟨(some 69), .p (.ld (.s 68)), none⟩,
 ⟨(some 70), .p (.lenl (.s 69)), none⟩,
 ⟨(some 71), .p (.bin .lss (.s 67) (.s 70)), none⟩] [2, 3, 5, 71])
 (.cond (.s 71) .skip (.exit 0)))
 (.seq (.block 1 (.seq (.regD [⟨(some 74), .p (.foff 3 (.s 2)), none⟩,
 ⟨(some 75), .p (.ld (.s 74)), none⟩,
 ⟨(some 76), .p (.mv (.s 5)), none⟩,
 ⟨(some 77), .p (.iadr 6 (.s 75) (.s 76)), none⟩,
 ⟨(some 78), .p (.ldn 6 (.s 77)), none⟩,
 ⟨(some 79), .p (.foff 3 (.s 3)), none⟩,
 ⟨(some 80), .p (.ld (.s 79)), none⟩,
 ⟨(some 81), .p (.mv (.s 5)), none⟩,
 ⟨(some 82), .p (.iadr 6 (.s 80) (.s 81)), none⟩,
 ⟨(some 83), .p (.ldn 6 (.s 82)), none⟩,
 ⟨(some 84), .p (.eqk true (.agg [0, 1, 1, 0, 0, 1]) (.s 78) (.s 83)), none⟩] [0, 1, 2, 3, 4, 5, 6, 7, 8, 9, 10] [2, 3, 5, 84])
 (.cond (.s 84) (.seq (.reg [⟨(some 4), .p (.mv (.c (.bool false))), none⟩] [4])
 .ret) .skip)))
 (.reg [⟨(some 72), .p (.mv (.s 5)), none⟩,
 ⟨(some 73), .p (.bin .add (.s 72) (.c (.int .i64 1))), none⟩,
 ⟨(some 5), .p (.mv (.s 73)), none⟩] [2, 3, 5]))) [2, 3, 5])))
 (.seq (.reg [⟨(some 85), .p (.foff 9 (.s 2)), none⟩,
 ⟨(some 86), .p (.ldn 7 (.s 85)), none⟩,
 ⟨(some 6), .e (.alloc [.psl [], .str [], .str [], .int .i64 0, .int .i64 0, .int .i64 0, .int .i64 0]), none⟩,
 ⟨none, .e (.stn 7 (.s 6) (.s 86)), none⟩] [3, 6])
 (.seq (.reg [⟨(some 87), .p (.foff 9 (.s 3)), none⟩,
 ⟨(some 88), .p (.ldn 7 (.s 87)), none⟩,
 ⟨(some 7), .e (.alloc [.psl [], .str [], .str [], .int .i64 0, .int .i64 0, .int .i64 0, .int .i64 0]), none⟩,
 ⟨none, .e (.stn 7 (.s 7) (.s 88)), none⟩] [6, 7])
 (.seq (.reg [⟨(some 89), .p (.foff 1 (.s 6)), none⟩,
 ⟨(some 90), .p (.ld (.s 89)), none⟩,
 ⟨(some 91), .p (.foff 1 (.s 7)), none⟩,
 ⟨(some 92), .p (.ld (.s 91)), none⟩,
 ⟨(some 93), .p (.bin .eql (.s 90) (.s 92)), none⟩,
 ⟨(some 94), .p (.mv (.s 93)), none⟩,
 ⟨(some 95), .p (.foff 2 (.s 6)), (some (94, true))⟩,
 ⟨(some 96), .p (.ld (.s 95)), (some (94, true))⟩,
 ⟨(some 97), .p (.foff 2 (.s 7)), (some (94, true))⟩,
 ⟨(some 98), .p (.ld (.s 97)), (some (94, true))⟩,
 ⟨(some 99), .p (.bin .eql (.s 96) (.s 98)), (some (94, true))⟩,
 ⟨(some 100), .p (.pick (.s 94) (.s 99) (.c (.bool false))), none⟩,
 ⟨(some 101), .p (.mv (.s 100)), none⟩,
 ⟨(some 102), .p (.foff 3 (.s 6)), (some (101, true))⟩,
 ⟨(some 103), .p (.ld (.s 102)), (some (101, true))⟩,
 ⟨(some 104), .p (.foff 3 (.s 7)), (some (101, true))⟩,
 ⟨(some 105), .p (.ld (.s 104)), (some (101, true))⟩,
 ⟨(some 106), .p (.bin .eql (.s 103) (.s 105)), (some (101, true))⟩,
 ⟨(some 107), .p (.pick (.s 101) (.s 106) (.c (.bool false))), none⟩,
 ⟨(some 108), .p (.mv (.s 107)), none⟩,
 ⟨(some 109), .p (.foff 4 (.s 6)), (some (108, true))⟩,
 ⟨(some 110), .p (.ld (.s 109)), (some (108, true))⟩,
 ⟨(some 111), .p (.foff 4 (.s 7)), (some (108, true))⟩,
 ⟨(some 112), .p (.ld (.s 111)), (some (108, true))⟩,
 ⟨(some 113), .p (.bin .eql (.s 110) (.s 112)), (some (108, true))⟩,
 ⟨(some 114), .p (.pick (.s 108) (.s 113) (.c (.bool false))), none⟩,
 ⟨(some 115), .p (.mv (.s 114)), none⟩,
 ⟨(some 116), .p (.foff 5 (.s 6)), (some (115, true))⟩,
 ⟨(some 117), .p (.ld (.s 116)), (some (115, true))⟩,
 ⟨(some 118), .p (.foff 5 (.s 7)), (some (115, true))⟩,
 ⟨(some 119), .p (.ld (.s 118)), (some (115, true))⟩,
 ⟨(some 120), .p (.bin .eql (.s 117) (.s 119)), (some (115, true))⟩,
 ⟨(some 121), .p (.pick (.s 115) (.s 120) (.c (.bool false))), none⟩,
 ⟨(some 122), .p (.mv (.s 121)), none⟩,
 ⟨(some 123), .p (.foff 6 (.s 6)), (some (122, true))⟩,
 ⟨(some 124), .p (.ld (.s 123)), (some (122, true))⟩,
 ⟨(some 125), .p (.foff 6 (.s 7)), (some (122, true))⟩,
 ⟨(some 126), .p (.ld (.s 125)), (some (122, true))⟩,
 ⟨(some 127), .p (.bin .eql (.s 124) (.s 126)), (some (122, true))⟩,
 ⟨(some 128), .p (.pick (.s 122) (.s 127) (.c (.bool false))), none⟩,
 ⟨(some 4), .p (.mv (.s 128)), none⟩] [4])
 .ret))))))⟩

def F.plan_Clone : LFunc := ⟨12, [.cn 2 16], 
 (.seq (.reg [⟨(some 1), .e (.box 16 (.s 0)), none⟩,
 ⟨(some 2), .e (.alloc [.int .i64 0, .str [], .str [], .psl [], .str [], .str [], .int .i64 0, .int .i64 0, .str [], .psl [], .str [], .str [], .int .i64 0, .int .i64 0, .int .i64 0, .int .i64 0]), none⟩] [1, 2])
 (.seq (.reg [⟨(some 3), .p (.foff 3 (.s 1)), none⟩,
 ⟨(some 4), .p (.ld (.s 3)), none⟩,
 ⟨(some 5), .e (.call N.slices_Clone_api_Mut_api_Mut_ [(.s 4)] true), none⟩,
 ⟨(some 6), .p (.foff 3 (.s 1)), none⟩,
 ⟨none, .e (.st (.s 6) (.s 5)), none⟩] [1, 2])
 (.seq (.reg [⟨(some 7), .p (.foff 9 (.s 1)), none⟩,
 ⟨(some 8), .p (.ldn 7 (.s 7)), none⟩,
 ⟨(some 9), .e (.call N.filter_Clone [(.s 8)] true), none⟩,
 ⟨(some 10), .p (.foff 9 (.s 1)), none⟩,
 ⟨none, .e (.stn 7 (.s 10) (.s 9)), none⟩] [1, 2])
 (.seq (.reg [⟨(some 11), .p (.ldn 16 (.s 1)), none⟩,
 ⟨none, .e (.stn 16 (.s 2) (.s 11)), none⟩] [2])
 .ret))))⟩

def F.joistref00_SameSchema : LFunc := ⟨53, [.t 4], 
 (.seq (.reg [⟨(some 2), .e (.box 10 (.s 0)), none⟩,
 ⟨(some 3), .e (.box 10 (.s 1)), none⟩,
 ⟨(some 4), .p (.mv (.c (.bool false))), none⟩] [2, 3])
 (.seq (.seq (.reg [⟨(some 6), .p (.foff 0 (.s 2)), none⟩,
 ⟨(some 7), .p (.ld (.s 6)), none⟩,
 ⟨(some 8), .p (.foff 0 (.s 3)), none⟩,
 ⟨(some 9), .p (.ld (.s 8)), none⟩,
 ⟨(some 10), .p (.bin .neq (.s 7) (.s 9)), none⟩,
 ⟨(some 11), .p (.mv (.s 10)), none⟩,
 ⟨(some 12), .p (.foff 2 (.s 2)), (some (11, false))⟩,
 ⟨(some 13), .p (.ldn 7 (.s 12)), (some (11, false))⟩,
 ⟨(some 14), .p (.foff 2 (.s 3)), (some (11, false))⟩,
 ⟨(some 15), .p (.ldn 7 (.s 14)), (some (11, false))⟩,
 ⟨(some 16), .p (.eqk true (.agg [0, 1, 1, 0, 0, 0, 0]) (.s 13) (.s 15)), (some (11, false))⟩,
 ⟨(some 17), .p (.pick (.s 11) (.c (.bool true)) (.s 16)), none⟩,
 ⟨(some 18), .p (.mv (.s 17)), none⟩,
 ⟨(some 19), .p (.foff 9 (.s 2)), (some (18, false))⟩,
 ⟨(some 20), .p (.ld (.s 19)), (some (18, false))⟩,
 ⟨(some 21), .p (.foff 9 (.s 3)), (some (18, false))⟩,
 ⟨(some 22), .p (.ld (.s 21)), (some (18, false))⟩,
 ⟨(some 23), .p (.bin .neq (.s 20) (.s 22)), (some (18, false))⟩,
 ⟨(some 24), .p (.pick (.s 18) (.c (.bool true)) (.s 23)), none⟩,
 ⟨(some 25), .p (.mv (.s 24)), none⟩,
 ⟨(some 26), .p (.foff 1 (.s 2)), (some (25, false))⟩,
 ⟨(some 27), .p (.ld (.s 26)), (some (25, false))⟩,
 ⟨(some 28), .p (.lenl (.s 27)), (some (25, false))⟩,
 ⟨(some 29), .p (.foff 1 (.s 3)), (some (25, false))⟩,
 ⟨(some 30), .p (.ld (.s 29)), (some (25, false))⟩,
 ⟨(some 31), .p (.lenl (.s 30)), (some (25, false))⟩,
 ⟨(some 32), .p (.bin .neq (.s 28) (.s 31)), (some (25, false))⟩,
 ⟨(some 33), .p (.pick (.s 25) (.c (.bool true)) (.s 32)), none⟩] [2, 3, 33])
 (.cond (.s 33) (.seq (.reg [⟨(some 4), .p (.mv (.c (.bool false))), none⟩] [4])
 .ret) .skip))
 (.seq (.seq (.reg [⟨(some 5), .p (.mv (.c (.int .i64 0))), none⟩] [2, 3, 5])
 (.block 0 (.loop (.seq (.seq (.reg [⟨(some 34), .p (.mv (.s 5)), none⟩,
 ⟨(some 35), .p (.foff 1 (.s 2)), none⟩,
 ⟨(some 36), .p (.ld (.s 35)), none⟩,
 ⟨(some 37), .p (.lenl (.s 36)), none⟩,
 ⟨(some 38), .p (.bin .lss (.s 34) (.s 37)), none⟩] [2, 3, 5, 38])
 (.cond (.s 38) .skip (.exit 0)))
 (.seq (.block 1 (.seq (.regD [⟨(some 41), .p (.foff 1 (.s 2)), none⟩,
 ⟨(some 42), .p (.ld (.s 41)), none⟩,
 ⟨(some 43), .p (.mv (.s 5)), none⟩,
 ⟨(some 44), .p (.iadr 5 (.s 42) (.s 43)), none⟩,
 ⟨(some 45), .p (.ldn 5 (.s 44)), none⟩,
 ⟨(some 46), .p (.foff 1 (.s 3)), none⟩,
 ⟨(some 47), .p (.ld (.s 46)), none⟩,
 ⟨(some 48), .p (.mv (.s 5)), none⟩,
 ⟨(some 49), .p (.iadr 5 (.s 47) (.s 48)), none⟩,
 ⟨(some 50), .p (.ldn 5 (.s 49)), none⟩,
 ⟨(some 51), .e (.call N.joistref00_SameFamily [(.s 45), (.s 50)] true), none⟩,
 ⟨(some 52), .p (.un .not (.s 51)), none⟩] [0, 1, 2, 3, 4, 5, 6, 7, 8, 9, 10, 11] [2, 3, 5, 52])
 (.cond (.s 52) (.seq (.reg [⟨(some 4), .p (.mv (.c (.bool false))), none⟩] [4])
 .ret) .skip)))
 (.reg [⟨(some 39), .p (.mv (.s 5)), none⟩,
 ⟨(some 40), .p (.bin .add (.s 39) (.c (.int .i64 1))), none⟩,
 ⟨(some 5), .p (.mv (.s 40)), none⟩] [2, 3, 5]))) [2, 3, 5])))
 (.seq (.reg [⟨(some 4), .p (.mv (.c (.bool true))), none⟩] [4])
 .ret))))⟩

def F.joistlaw16_one : LFunc := ⟨9, [.cn 0 10], 
 (.seq (.reg [⟨(some 0), .e (.alloc [.int .i64 0, .psl [], .int .i64 0, .str [], .str [], .int .i64 0, .int .i64 0, .int .i64 0, .int .i64 0, .int .i64 0]), none⟩] [0])
 (.seq (.reg [⟨(some 1), .p (.build [.int .i64 0, .int .i64 0] [(1, 1, (.c (.int .i64 3)))]), none⟩,
 ⟨(some 2), .e (.bsl 2 1 [.int .i64 0, .int .i64 0] [(0, 2, (.s 1))]), none⟩,
 ⟨(some 3), .p (.build [.str [], .int .i64 0, .int .i64 0] [(0, 1, (.c (.str [112]))), (1, 1, (.c (.int .i64 1))), (2, 1, (.c (.int .i64 3)))]), none⟩,
 ⟨(some 4), .p (.build [.str [], .int .i64 0, .int .i64 0] [(0, 1, (.c (.str [113]))), (1, 1, (.c (.int .i64 1))), (2, 1, (.c (.int .i64 3)))]), none⟩,
 ⟨(some 5), .e (.bsl 3 2 [.str [], .int .i64 0, .int .i64 0] [(0, 3, (.s 3)), (3, 3, (.s 4))]), none⟩,
 ⟨(some 6), .p (.build [.str [], .int .i64 0, .int .i64 0, .psl [], .psl []] [(0, 1, (.c (.str [102]))), (1, 1, (.c (.int .i64 1))), (3, 1, (.s 2)), (4, 1, (.s 5))]), none⟩,
 ⟨(some 7), .e (.bslz 5 1 [.str [], .int .i64 0, .int .i64 0, .psl [], .psl []] [(0, 5, (.s 6))]), none⟩,
 ⟨(some 8), .p (.build [.int .i64 0, .psl [], .int .i64 0, .str [], .str [], .int .i64 0, .int .i64 0, .int .i64 0, .int .i64 0, .int .i64 0] [(0, 1, (.c (.int .i64 1))), (1, 1, (.s 7))]), none⟩,
 ⟨none, .e (.stn 10 (.s 0) (.s 8)), none⟩] [0])
 .ret))⟩

def F.slices_ContainsFunc_api_Cell_api_Cell_ : LFunc := ⟨9, [.t 4], 
 (.seq (.reg [⟨(some 4), .p (.mv (.c (.bool false))), none⟩] [0, 1])
 (.seq (.reg [⟨(some 5), .p (.mv (.s 0)), none⟩,
 ⟨(some 6), .p (.mv (.s 1)), none⟩,
 ⟨(some 7), .e (.call N.slices_IndexFunc_api_Cell_api_Cell_ [(.s 5), (.s 6)] true), none⟩,
 ⟨(some 8), .p (.bin .geq (.s 7) (.c (.int .i64 0))), none⟩,
 ⟨(some 4), .p (.mv (.s 8)), none⟩] [4])
 .ret))⟩

def F.plan_Layouts_1 : LFunc := ⟨9, [.t 3], 
 (.seq (.reg [⟨(some 2), .e (.box 8 (.s 0)), none⟩,
 ⟨(some 3), .p (.mv (.c (.bool false))), none⟩] [1, 2])
 (.seq (.reg [⟨(some 4), .p (.foff 1 (.s 2)), none⟩,
 ⟨(some 5), .p (.ld (.s 4)), none⟩,
 ⟨(some 6), .p (.foff 0 (.s 1)), none⟩,
 ⟨(some 7), .p (.ld (.s 6)), none⟩,
 ⟨(some 8), .p (.bin .eql (.s 5) (.s 7)), none⟩,
 ⟨(some 3), .p (.mv (.s 8)), none⟩] [3])
 .ret))⟩

def F.slices_Clone_api_Layout_api_Layout_ : LFunc := ⟨8, [.t 2], 
 (.seq (.reg [⟨(some 2), .p (.mv (.c (.psl []))), none⟩] [0])
 (.seq (.seq (.reg [⟨(some 3), .p (.mv (.s 0)), none⟩,
 ⟨(some 4), .e (.isnil false (.s 3)), none⟩] [0, 4])
 (.cond (.s 4) (.seq (.reg [⟨(some 2), .p (.mv (.c (.psl []))), none⟩] [2])
 .ret) .skip))
 (.seq (.reg [⟨(some 5), .e (.bsl 2 0 [.int .i64 0, .int .i64 0] []), none⟩,
 ⟨(some 6), .p (.mv (.s 0)), none⟩,
 ⟨(some 7), .e (.app 2 16 (.s 5) (.s 6)), none⟩,
 ⟨(some 2), .p (.mv (.s 7)), none⟩] [2])
 .ret)))⟩

def F.joistref00_CopyFamily : LFunc := ⟨16, [.cn 2 5], 
 (.seq (.reg [⟨(some 1), .e (.box 5 (.s 0)), none⟩,
 ⟨(some 2), .e (.alloc [.str [], .int .i64 0, .int .i64 0, .psl [], .psl []]), none⟩] [1, 2])
 (.seq (.reg [⟨(some 4), .p (.ldn 5 (.s 1)), none⟩,
 ⟨(some 3), .e (.alloc [.str [], .int .i64 0, .int .i64 0, .psl [], .psl []]), none⟩,
 ⟨none, .e (.stn 5 (.s 3) (.s 4)), none⟩] [1, 2, 3])
 (.seq (.reg [⟨(some 5), .e (.bsl 2 0 [.int .i64 0, .int .i64 0] []), none⟩,
 ⟨(some 6), .p (.foff 3 (.s 1)), none⟩,
 ⟨(some 7), .p (.ld (.s 6)), none⟩,
 ⟨(some 8), .e (.app 2 16 (.s 5) (.s 7)), none⟩,
 ⟨(some 9), .p (.foff 3 (.s 3)), none⟩,
 ⟨none, .e (.st (.s 9) (.s 8)), none⟩] [1, 2, 3])
 (.seq (.reg [⟨(some 10), .e (.bsl 3 0 [.str [], .int .i64 0, .int .i64 0] []), none⟩,
 ⟨(some 11), .p (.foff 4 (.s 1)), none⟩,
 ⟨(some 12), .p (.ld (.s 11)), none⟩,
 ⟨(some 13), .e (.app 3 32 (.s 10) (.s 12)), none⟩,
 ⟨(some 14), .p (.foff 4 (.s 3)), none⟩,
 ⟨none, .e (.st (.s 14) (.s 13)), none⟩] [2, 3])
 (.seq (.reg [⟨(some 15), .p (.ldn 5 (.s 3)), none⟩,
 ⟨none, .e (.stn 5 (.s 2) (.s 15)), none⟩] [2])
 .ret)))))⟩

def F.slices_IndexFunc_api_Layouted_api_Layouted_ : LFunc := ⟨19, [.t 4], 
 (.seq (.reg [⟨(some 4), .p (.mv (.c (.int .i64 0))), none⟩] [0, 1])
 (.seq (.seq (.reg [⟨(some 6), .p (.mv (.s 0)), none⟩,
 ⟨(some 7), .p (.lenl (.s 6)), none⟩,
 ⟨(some 8), .p (.mv (.c (.int .i64 0))), none⟩] [0, 1, 7, 8])
 (.block 0 (.loop (.seq (.reg [⟨(some 9), .p (.bin .lss (.s 8) (.s 7)), none⟩] [0, 1, 7, 8, 9])
 (.seq (.cond (.s 9) .skip (.exit 0))
 (.seq (.block 1 (.seq (.reg [⟨(some 10), .p (.mv (.s 8)), none⟩,
 ⟨(some 5), .p (.mv (.s 10)), none⟩] [0, 1, 5, 7, 8])
 (.seq (.reg [⟨(some 11), .p (.mv (.s 1)), none⟩,
 ⟨(some 12), .p (.mv (.s 0)), none⟩,
 ⟨(some 13), .p (.mv (.s 5)), none⟩,
 ⟨(some 14), .p (.iadr 2 (.s 12) (.s 13)), none⟩,
 ⟨(some 15), .p (.ldn 2 (.s 14)), none⟩,
 ⟨(some 16), .e (.callv (.s 11) [(.s 15)] true), none⟩] [0, 1, 5, 7, 8, 16])
 (.cond (.s 16) (.seq (.reg [⟨(some 17), .p (.mv (.s 5)), none⟩,
 ⟨(some 4), .p (.mv (.s 17)), none⟩] [4])
 .ret) .skip))))
 (.reg [⟨(some 18), .p (.bin .add (.s 8) (.c (.int .i64 1))), none⟩,
 ⟨(some 8), .p (.mv (.s 18)), none⟩] [0, 1, 7, 8])))) [0, 1, 7, 8])))
 (.seq (.reg [⟨(some 4), .p (.mv (.c (.int .i64 (-1)))), none⟩] [4])
 .ret)))⟩

def F.plan_Targets_1 : LFunc := ⟨9, [.t 3], 
 (.seq (.reg [⟨(some 2), .e (.box 2 (.s 0)), none⟩,
 ⟨(some 3), .p (.mv (.c (.bool false))), none⟩] [1, 2])
 (.seq (.reg [⟨(some 4), .p (.foff 0 (.s 2)), none⟩,
 ⟨(some 5), .p (.ld (.s 4)), none⟩,
 ⟨(some 6), .p (.foff 1 (.s 1)), none⟩,
 ⟨(some 7), .p (.ld (.s 6)), none⟩,
 ⟨(some 8), .p (.bin .eql (.s 5) (.s 7)), none⟩,
 ⟨(some 3), .p (.mv (.s 8)), none⟩] [3])
 .ret))⟩

def F.schema_Written : LFunc := ⟨5, [.t 2], 
 (.seq (.reg [⟨(some 1), .e (.box 5 (.s 0)), none⟩,
 ⟨(some 2), .p (.mv (.c (.psl []))), none⟩] [1])
 (.seq (.reg [⟨(some 3), .p (.ldn 5 (.s 1)), none⟩,
 ⟨(some 4), .e (.call N.schema_groups [(.s 3), (.c (.fn N.schema_Written_1 [] []))] true), none⟩,
 ⟨(some 2), .p (.mv (.s 4)), none⟩] [2])
 .ret))⟩

def F.schema_Gone : LFunc := ⟨5, [.t 2], 
 (.seq (.reg [⟨(some 1), .e (.box 5 (.s 0)), none⟩,
 ⟨(some 2), .p (.mv (.c (.psl []))), none⟩] [1])
 (.seq (.reg [⟨(some 3), .p (.ldn 5 (.s 1)), none⟩,
 ⟨(some 4), .e (.call N.schema_groups [(.s 3), (.c (.fn N.schema_Gone_1 [] []))] true), none⟩,
 ⟨(some 2), .p (.mv (.s 4)), none⟩] [2])
 .ret))⟩

def F.joistref00_LongRequest : LFunc := ⟨113, [.t 2], 
 (.seq (.reg [⟨(some 1), .e (.box 16 (.s 0)), none⟩,
 ⟨(some 2), .p (.mv (.c (.bool false))), none⟩] [1])
 (.seq (.seq (.reg [⟨(some 5), .p (.foff 1 (.s 1)), none⟩,
 ⟨(some 6), .p (.ld (.s 5)), none⟩,
 ⟨(some 7), .p (.lens (.s 6)), none⟩,
 ⟨(some 8), .p (.bin .gtr (.s 7) (.c (.int .i64 100))), none⟩,
 ⟨(some 9), .p (.mv (.s 8)), none⟩,
 ⟨(some 10), .p (.foff 2 (.s 1)), (some (9, false))⟩,
 ⟨(some 11), .p (.ld (.s 10)), (some (9, false))⟩,
 ⟨(some 12), .p (.lens (.s 11)), (some (9, false))⟩,
 ⟨(some 13), .p (.bin .gtr (.s 12) (.c (.int .i64 100))), (some (9, false))⟩,
 ⟨(some 14), .p (.pick (.s 9) (.c (.bool true)) (.s 13)), none⟩,
 ⟨(some 15), .p (.mv (.s 14)), none⟩,
 ⟨(some 16), .p (.foff 4 (.s 1)), (some (15, false))⟩,
 ⟨(some 17), .p (.ld (.s 16)), (some (15, false))⟩,
 ⟨(some 18), .p (.lens (.s 17)), (some (15, false))⟩,
 ⟨(some 19), .p (.bin .gtr (.s 18) (.c (.int .i64 100))), (some (15, false))⟩,
 ⟨(some 20), .p (.pick (.s 15) (.c (.bool true)) (.s 19)), none⟩,
 ⟨(some 21), .p (.mv (.s 20)), none⟩,
 ⟨(some 22), .p (.foff 5 (.s 1)), (some (21, false))⟩,
 ⟨(some 23), .p (.ld (.s 22)), (some (21, false))⟩,
 ⟨(some 24), .p (.lens (.s 23)), (some (21, false))⟩,
 ⟨(some 25), .p (.bin .gtr (.s 24) (.c (.int .i64 100))), (some (21, false))⟩,
 ⟨(some 26), .p (.pick (.s 21) (.c (.bool true)) (.s 25)), none⟩,
 ⟨(some 27), .p (.mv (.s 26)), none⟩,
 ⟨(some 28), .p (.foff 6 (.s 1)), (some (27, false))⟩,
 ⟨(some 29), .p (.foff 2 (.s 28)), (some (27, false))⟩,
 ⟨(some 30), .p (.ld (.s 29)), (some (27, false))⟩,
 ⟨(some 31), .p (.lens (.s 30)), (some (27, false))⟩,
 ⟨(some 32), .p (.bin .gtr (.s 31) (.c (.int .i64 100))), (some (27, false))⟩,
 ⟨(some 33), .p (.pick (.s 27) (.c (.bool true)) (.s 32)), none⟩,
 ⟨(some 34), .p (.mv (.s 33)), none⟩,
 ⟨(some 35), .p (.foff 3 (.s 1)), (some (34, false))⟩,
 ⟨(some 36), .p (.ld (.s 35)), (some (34, false))⟩,
 ⟨(some 37), .p (.lenl (.s 36)), (some (34, false))⟩,
 ⟨(some 38), .p (.bin .gtr (.s 37) (.c (.int .i64 20))), (some (34, false))⟩,
 ⟨(some 39), .p (.pick (.s 34) (.c (.bool true)) (.s 38)), none⟩,
 ⟨(some 40), .p (.mv (.s 39)), none⟩,
 ⟨(some 41), .p (.foff 9 (.s 1)), (some (40, false))⟩,
 ⟨(some 42), .p (.foff 0 (.s 41)), (some (40, false))⟩,
 ⟨(some 43), .p (.ld (.s 42)), (some (40, false))⟩,
 ⟨(some 44), .p (.lenl (.s 43)), (some (40, false))⟩,
 ⟨(some 45), .p (.bin .gtr (.s 44) (.c (.int .i64 20))), (some (40, false))⟩,
 ⟨(some 46), .p (.pick (.s 40) (.c (.bool true)) (.s 45)), none⟩,
 ⟨(some 47), .p (.mv (.s 46)), none⟩,
 ⟨(some 48), .p (.foff 9 (.s 1)), (some (47, false))⟩,
 ⟨(some 49), .p (.foff 1 (.s 48)), (some (47, false))⟩,
 ⟨(some 50), .p (.ld (.s 49)), (some (47, false))⟩,
 ⟨(some 51), .p (.lens (.s 50)), (some (47, false))⟩,
 ⟨(some 52), .p (.bin .gtr (.s 51) (.c (.int .i64 100))), (some (47, false))⟩,
 ⟨(some 53), .p (.pick (.s 47) (.c (.bool true)) (.s 52)), none⟩,
 ⟨(some 54), .p (.mv (.s 53)), none⟩,
 ⟨(some 55), .p (.foff 9 (.s 1)), (some (54, false))⟩,
 ⟨(some 56), .p (.foff 2 (.s 55)), (some (54, false))⟩,
 ⟨(some 57), .p (.ld (.s 56)), (some (54, false))⟩,
 ⟨(some 58), .p (.lens (.s 57)), (some (54, false))⟩,
 ⟨(some 59), .p (.bin .gtr (.s 58) (.c (.int .i64 100))), (some (54, false))⟩,
 ⟨(some 60), .p (.pick (.s 54) (.c (.bool true)) (.s 59)), none⟩] [1, 60])
 (.cond (.s 60) (.seq (.reg [⟨(some 2), .p (.mv (.c (.bool true))), none⟩] [2])
 .ret) .skip))
 (.seq (.seq (.reg [⟨(some 3), .p (.mv (.c (.int .i64 0))), none⟩] [1, 3])
 (.block 0 (.loop (.seq (.seq (.reg [⟨(some 61), .p (.mv (.s 3)), none⟩,
 ⟨(some 62), .p (.foff 9 (.s 1)), none⟩,
 ⟨(some 63), .p (.foff 0 (.s 62)), none⟩,
 ⟨(some 64), .p (.ld (.s 63)), none⟩,
 ⟨(some 65), .p (.lenl (.s 64)), none⟩,
 ⟨(some 66), .p (.bin .lss (.s 61) (.s 65)), none⟩] [1, 3, 66])
 (.cond (.s 66) .skip (.exit 0)))
 (.seq (.block 1 (.seq (.reg [⟨(some 69), .p (.foff 9 (.s 1)), none⟩,
 ⟨(some 70), .p (.foff 0 (.s 69)), none⟩,
 ⟨(some 71), .p (.ld (.s 70)), none⟩,
 ⟨(some 72), .p (.mv (.s 3)), none⟩,
 ⟨(some 73), .p (.iadr 1 (.s 71) (.s 72)), none⟩,
 ⟨(some 74), .p (.ld (.s 73)), none⟩,
 ⟨(some 75), .p (.lens (.s 74)), none⟩,
 ⟨(some 76), .p (.bin .gtr (.s 75) (.c (.int .i64 100))), none⟩] [1, 3, 76])
 (.cond (.s 76) (.seq (.reg [⟨(some 2), .p (.mv (.c (.bool true))), none⟩] [2])
 .ret) .skip)))
 (.reg [⟨(some 67), .p (.mv (.s 3)), none⟩,
 ⟨(some 68), .p (.bin .add (.s 67) (.c (.int .i64 1))), none⟩,
 ⟨(some 3), .p (.mv (.s 68)), none⟩] [1, 3]))) [1, 3])))
 (.seq (.seq (.reg [⟨(some 4), .p (.mv (.c (.int .i64 0))), none⟩] [1, 4])
 (.block 2 (.loop (.seq (.seq (.reg [⟨(some 77), .p (.mv (.s 4)), none⟩,
 ⟨(some 78), .p (.foff 3 (.s 1)), none⟩,
 ⟨(some 79), .p (.ld (.s 78)), none⟩,
 ⟨(some 80), .p (.lenl (.s 79)), none⟩,
 ⟨(some 81), .p (.bin .lss (.s 77) (.s 80)), none⟩] [1, 4, 81])
 (.cond (.s 81) .skip (.exit 2)))
 (.seq (.block 3 (.seq (.reg [⟨(some 84), .p (.foff 3 (.s 1)), none⟩,
 ⟨(some 85), .p (.ld (.s 84)), none⟩,
 ⟨(some 86), .p (.mv (.s 4)), none⟩,
 ⟨(some 87), .p (.iadr 6 (.s 85) (.s 86)), none⟩,
 ⟨(some 88), .p (.foff 1 (.s 87)), none⟩,
 ⟨(some 89), .p (.ld (.s 88)), none⟩,
 ⟨(some 90), .p (.lens (.s 89)), none⟩,
 ⟨(some 91), .p (.bin .gtr (.s 90) (.c (.int .i64 100))), none⟩,
 ⟨(some 92), .p (.mv (.s 91)), none⟩,
 ⟨(some 93), .p (.foff 3 (.s 1)), (some (92, false))⟩,
 ⟨(some 94), .p (.ld (.s 93)), (some (92, false))⟩,
 ⟨(some 95), .p (.mv (.s 4)), (some (92, false))⟩,
 ⟨(some 96), .p (.iadr 6 (.s 94) (.s 95)), (some (92, false))⟩,
 ⟨(some 97), .p (.foff 2 (.s 96)), (some (92, false))⟩,
 ⟨(some 98), .p (.ld (.s 97)), (some (92, false))⟩,
 ⟨(some 99), .p (.lens (.s 98)), (some (92, false))⟩,
 ⟨(some 100), .p (.bin .gtr (.s 99) (.c (.int .i64 100))), (some (92, false))⟩,
 ⟨(some 101), .p (.pick (.s 92) (.c (.bool true)) (.s 100)), none⟩,
 ⟨(some 102), .p (.mv (.s 101)), none⟩,
 ⟨(some 103), .p (.foff 3 (.s 1)), (some (102, false))⟩,
 ⟨(some 104), .p (.ld (.s 103)), (some (102, false))⟩,
 ⟨(some 105), .p (.mv (.s 4)), (some (102, false))⟩,
 ⟨(some 106), .p (.iadr 6 (.s 104) (.s 105)), (some (102, false))⟩,
 ⟨(some 107), .p (.foff 3 (.s 106)), (some (102, false))⟩,
 ⟨(some 108), .p (.foff 2 (.s 107)), (some (102, false))⟩,
 ⟨(some 109), .p (.ld (.s 108)), (some (102, false))⟩,
 ⟨(some 110), .p (.lens (.s 109)), (some (102, false))⟩,
 ⟨(some 111), .p (.bin .gtr (.s 110) (.c (.int .i64 100))), (some (102, false))⟩,
 ⟨(some 112), .p (.pick (.s 102) (.c (.bool true)) (.s 111)), none⟩] [1, 4, 112])
 (.cond (.s 112) (.seq (.reg [⟨(some 2), .p (.mv (.c (.bool true))), none⟩] [2])
 .ret) .skip)))
 (.reg [⟨(some 82), .p (.mv (.s 4)), none⟩,
 ⟨(some 83), .p (.bin .add (.s 82) (.c (.int .i64 1))), none⟩,
 ⟨(some 4), .p (.mv (.s 83)), none⟩] [1, 4]))) [1, 4])))
 (.seq (.reg [⟨(some 2), .p (.mv (.c (.bool false))), none⟩] [2])
 .ret)))))⟩

def F.plan_maker_do : LFunc := ⟨81, [], 
 (.seq (.reg [⟨(some 3), .e (.box 6 (.s 1)), none⟩] [0, 3])
 (.seq (.reg [⟨(some 6), .p (.foff 0 (.s 3)), none⟩,
 ⟨(some 7), .p (.ld (.s 6)), none⟩] [0, 3, 7])
 (.block 0 (.seq (.reg [⟨(some 9), .p (.bin .eql (.s 7) (.c (.int .i64 1))), none⟩,
 ⟨(some 8), .p (.mv (.s 9)), none⟩] [0, 3, 7, 8])
 (.cond (.s 8) (.regD [⟨(some 10), .p (.mv (.s 0)), none⟩,
 ⟨(some 11), .p (.foff 1 (.s 3)), none⟩,
 ⟨(some 12), .p (.ld (.s 11)), none⟩,
 ⟨(some 13), .p (.foff 2 (.s 3)), none⟩,
 ⟨(some 14), .p (.ld (.s 13)), none⟩,
 ⟨(some 15), .p (.mv (.s 0)), none⟩,
 ⟨(some 16), .p (.nilc (.s 15)), none⟩,
 ⟨(some 17), .p (.foff 11 (.s 16)), none⟩,
 ⟨(some 18), .p (.ld (.s 17)), none⟩,
 ⟨(some 19), .p (.foff 3 (.s 3)), none⟩,
 ⟨(some 20), .p (.ldn 3 (.s 19)), none⟩,
 ⟨(some 21), .p (.build [.str [], .str [], .str [], .int .i64 0, .int .i64 0, .int .i64 0, .int .i64 0, .str []] [(1, 1, (.s 12)), (2, 1, (.s 14)), (3, 1, (.s 18)), (4, 1, (.c (.int .i64 1))), (5, 3, (.s 20))]), none⟩,
 ⟨(some 22), .e (.call N.plan_maker_add [(.s 10), (.s 21)] true), none⟩] [0, 1, 2, 3, 4, 5, 6, 7, 8, 9, 10, 11, 12] []) (.seq (.reg [⟨(some 24), .p (.bin .eql (.s 7) (.c (.int .i64 2))), none⟩,
 ⟨(some 23), .p (.mv (.s 24)), none⟩] [0, 3, 7, 23])
 (.cond (.s 23) (.regD [⟨(some 25), .p (.mv (.s 0)), none⟩,
 ⟨(some 26), .p (.foff 1 (.s 3)), none⟩,
 ⟨(some 27), .p (.ld (.s 26)), none⟩,
 ⟨(some 28), .p (.foff 2 (.s 3)), none⟩,
 ⟨(some 29), .p (.ld (.s 28)), none⟩,
 ⟨(some 30), .p (.mv (.s 0)), none⟩,
 ⟨(some 31), .p (.nilc (.s 30)), none⟩,
 ⟨(some 32), .p (.foff 11 (.s 31)), none⟩,
 ⟨(some 33), .p (.ld (.s 32)), none⟩,
 ⟨(some 34), .p (.bin .sub (.s 33) (.c (.int .i64 1))), none⟩,
 ⟨(some 35), .p (.build [.str [], .str [], .str [], .int .i64 0, .int .i64 0, .int .i64 0, .int .i64 0, .str []] [(1, 1, (.s 27)), (2, 1, (.s 29)), (3, 1, (.s 34)), (4, 1, (.c (.int .i64 3)))]), none⟩,
 ⟨(some 36), .e (.call N.plan_maker_add [(.s 25), (.s 35)] true), none⟩] [0, 1, 2, 3, 4, 5, 6, 7, 8, 9, 10, 11] []) (.seq (.reg [⟨(some 38), .p (.bin .eql (.s 7) (.c (.int .i64 3))), none⟩,
 ⟨(some 37), .p (.mv (.s 38)), none⟩] [0, 3, 7, 37])
 (.cond (.s 37) (.regD [⟨(some 39), .p (.mv (.s 0)), none⟩,
 ⟨(some 40), .p (.foff 1 (.s 3)), none⟩,
 ⟨(some 41), .p (.ld (.s 40)), none⟩,
 ⟨(some 42), .p (.mv (.s 0)), none⟩,
 ⟨(some 43), .p (.nilc (.s 42)), none⟩,
 ⟨(some 44), .p (.foff 11 (.s 43)), none⟩,
 ⟨(some 45), .p (.ld (.s 44)), none⟩,
 ⟨(some 46), .p (.bin .sub (.s 45) (.c (.int .i64 1))), none⟩,
 ⟨(some 47), .p (.build [.str [], .str [], .str [], .int .i64 0, .int .i64 0, .int .i64 0, .int .i64 0, .str []] [(1, 1, (.s 41)), (3, 1, (.s 46)), (4, 1, (.c (.int .i64 4)))]), none⟩,
 ⟨(some 48), .e (.call N.plan_maker_add [(.s 39), (.s 47)] true), none⟩] [0, 1, 2, 3, 4, 5, 6, 7, 8, 9] []) (.seq (.reg [⟨(some 50), .p (.bin .eql (.s 7) (.c (.int .i64 4))), none⟩,
 ⟨(some 49), .p (.mv (.s 50)), none⟩] [0, 49])
 (.cond (.s 49) (.seq (.reg [⟨(some 51), .p (.mv (.s 0)), none⟩,
 ⟨(some 52), .p (.nilc (.s 51)), none⟩,
 ⟨(some 53), .p (.foff 0 (.s 52)), none⟩,
 ⟨(some 54), .p (.foff 0 (.s 53)), none⟩,
 ⟨(some 55), .p (.foff 1 (.s 54)), none⟩,
 ⟨(some 56), .p (.ld (.s 55)), none⟩,
 ⟨(some 57), .p (.lenl (.s 56)), none⟩,
 ⟨(some 58), .p (.mv (.c (.int .i64 0))), none⟩] [0, 56, 57, 58])
 (.block 1 (.loop (.seq (.reg [⟨(some 59), .p (.bin .lss (.s 58) (.s 57)), none⟩] [0, 56, 57, 58, 59])
 (.seq (.cond (.s 59) .skip (.exit 1))
 (.seq (.block 2 (.seq (.reg [⟨(some 60), .p (.iadr 5 (.s 56) (.s 58)), none⟩,
 ⟨(some 61), .p (.ldn 5 (.s 60)), none⟩,
 ⟨(some 5), .e (.alloc [.str [], .int .i64 0, .int .i64 0, .psl [], .psl []]), none⟩,
 ⟨none, .e (.stn 5 (.s 5) (.s 61)), none⟩] [0, 5, 56, 57, 58])
 (.seq (.regD [⟨(some 62), .p (.mv (.s 0)), none⟩,
 ⟨(some 63), .p (.nilc (.s 62)), none⟩,
 ⟨(some 64), .p (.foff 0 (.s 63)), none⟩,
 ⟨(some 65), .p (.ldn 10 (.s 64)), none⟩,
 ⟨(some 66), .p (.foff 0 (.s 5)), none⟩,
 ⟨(some 67), .p (.ld (.s 66)), none⟩,
 ⟨(some 68), .e (.call N.plan_view_named [(.s 65), (.s 67)] true), none⟩,
 ⟨(some 69), .p (.bin .eql (.s 68) (.c (.int .i64 0))), none⟩] [0, 1, 2, 3, 4, 5, 6, 7] [0, 5, 56, 57, 58, 69])
 (.cond (.s 69) (.regD [⟨(some 70), .p (.mv (.s 0)), none⟩,
 ⟨(some 71), .p (.foff 0 (.s 5)), none⟩,
 ⟨(some 72), .p (.ld (.s 71)), none⟩,
 ⟨(some 73), .p (.mv (.s 0)), none⟩,
 ⟨(some 74), .p (.nilc (.s 73)), none⟩,
 ⟨(some 75), .p (.foff 11 (.s 74)), none⟩,
 ⟨(some 76), .p (.ld (.s 75)), none⟩,
 ⟨(some 77), .p (.bin .sub (.s 76) (.c (.int .i64 1))), none⟩,
 ⟨(some 78), .p (.build [.str [], .str [], .str [], .int .i64 0, .int .i64 0, .int .i64 0, .int .i64 0, .str []] [(1, 1, (.s 72)), (3, 1, (.s 77)), (4, 1, (.c (.int .i64 4)))]), none⟩,
 ⟨(some 79), .e (.call N.plan_maker_add [(.s 70), (.s 78)] true), none⟩] [0, 1, 2, 3, 4, 5, 6, 7, 8, 9] [0, 56, 57, 58]) .skip))))
 (.reg [⟨(some 80), .p (.bin .add (.s 58) (.c (.int .i64 1))), none⟩,
 ⟨(some 58), .p (.mv (.s 80)), none⟩] [0, 56, 57, 58])))) [0, 56, 57, 58]))) .skip)))))))))))⟩

def F.joistref03_Name : LFunc := ⟨41, [.t 2], 
 (.seq (.reg [⟨(some 2), .p (.mv (.c (.bool false))), none⟩] [0])
 (.seq (.seq (.reg [⟨(some 3), .p (.mv (.c (.int .i64 0))), none⟩] [0, 3])
 (.block 0 (.loop (.seq (.seq (.reg [⟨(some 4), .p (.mv (.s 3)), none⟩,
 ⟨(some 5), .p (.mv (.s 0)), none⟩,
 ⟨(some 6), .p (.lens (.s 5)), none⟩,
 ⟨(some 7), .p (.bin .lss (.s 4) (.s 6)), none⟩] [0, 3, 7])
 (.cond (.s 7) .skip (.exit 0)))
 (.seq (.block 1 (.seq (.reg [⟨(some 10), .p (.mv (.s 0)), none⟩,
 ⟨(some 11), .p (.mv (.s 3)), none⟩,
 ⟨(some 12), .p (.idxs (.s 10) (.s 11)), none⟩,
 ⟨(some 13), .p (.bin .geq (.s 12) (.c (.int .u8 97))), none⟩,
 ⟨(some 14), .p (.mv (.s 13)), none⟩,
 ⟨(some 15), .p (.mv (.s 0)), (some (14, true))⟩,
 ⟨(some 16), .p (.mv (.s 3)), (some (14, true))⟩,
 ⟨(some 17), .p (.idxs (.s 15) (.s 16)), (some (14, true))⟩,
 ⟨(some 18), .p (.bin .leq (.s 17) (.c (.int .u8 122))), (some (14, true))⟩,
 ⟨(some 19), .p (.pick (.s 14) (.s 18) (.c (.bool false))), none⟩,
 ⟨(some 20), .p (.mv (.s 19)), none⟩,
 ⟨(some 21), .p (.mv (.s 0)), (some (20, false))⟩,
 ⟨(some 22), .p (.mv (.s 3)), (some (20, false))⟩,
 ⟨(some 23), .p (.idxs (.s 21) (.s 22)), (some (20, false))⟩,
 ⟨(some 24), .p (.bin .geq (.s 23) (.c (.int .u8 48))), (some (20, false))⟩,
 ⟨(some 25), .p (.mv (.s 24)), (some (20, false))⟩,
 ⟨(some 26), .p (.mv (.s 0)), (some (25, true))⟩,
 ⟨(some 27), .p (.mv (.s 3)), (some (25, true))⟩,
 ⟨(some 28), .p (.idxs (.s 26) (.s 27)), (some (25, true))⟩,
 ⟨(some 29), .p (.bin .leq (.s 28) (.c (.int .u8 57))), (some (25, true))⟩,
 ⟨(some 30), .p (.pick (.s 25) (.s 29) (.c (.bool false))), (some (20, false))⟩,
 ⟨(some 31), .p (.pick (.s 20) (.c (.bool true)) (.s 30)), none⟩,
 ⟨(some 32), .p (.un .not (.s 31)), none⟩] [0, 3, 32])
 (.cond (.s 32) (.seq (.reg [⟨(some 2), .p (.mv (.c (.bool false))), none⟩] [2])
 .ret) .skip)))
 (.reg [⟨(some 8), .p (.mv (.s 3)), none⟩,
 ⟨(some 9), .p (.bin .add (.s 8) (.c (.int .i64 1))), none⟩,
 ⟨(some 3), .p (.mv (.s 9)), none⟩] [0, 3]))) [0, 3])))
 (.seq (.reg [⟨(some 33), .p (.mv (.s 0)), none⟩,
 ⟨(some 34), .p (.lens (.s 33)), none⟩,
 ⟨(some 35), .p (.bin .geq (.s 34) (.c (.int .i64 1))), none⟩,
 ⟨(some 36), .p (.mv (.s 35)), none⟩,
 ⟨(some 37), .p (.mv (.s 0)), (some (36, true))⟩,
 ⟨(some 38), .p (.lens (.s 37)), (some (36, true))⟩,
 ⟨(some 39), .p (.bin .leq (.s 38) (.c (.int .i64 8))), (some (36, true))⟩,
 ⟨(some 40), .p (.pick (.s 36) (.s 39) (.c (.bool false))), none⟩,
 ⟨(some 2), .p (.mv (.s 40)), none⟩] [2])
 .ret)))⟩

def F.joistref02_Right : LFunc := ⟨62, [.t 2], 
 (.seq (.reg [⟨(some 1), .e (.box 3 (.s 0)), none⟩,
 ⟨(some 2), .p (.mv (.c (.bool false))), none⟩] [1])
 (.seq (.seq (.reg [⟨(some 3), .p (.foff 0 (.s 1)), none⟩,
 ⟨(some 4), .p (.ld (.s 3)), none⟩] [1, 4])
 (.block 0 (.seq (.reg [⟨(some 6), .p (.bin .eql (.s 4) (.c (.int .i64 1))), none⟩,
 ⟨(some 5), .p (.mv (.s 6)), none⟩] [1, 4, 5])
 (.cond (.s 5) (.seq (.reg [⟨(some 7), .p (.foff 2 (.s 1)), none⟩,
 ⟨(some 8), .p (.ld (.s 7)), none⟩,
 ⟨(some 9), .p (.bin .eql (.s 8) (.c (.str []))), none⟩,
 ⟨(some 2), .p (.mv (.s 9)), none⟩] [2])
 .ret) (.seq (.reg [⟨(some 11), .p (.bin .eql (.s 4) (.c (.int .i64 2))), none⟩,
 ⟨(some 10), .p (.mv (.s 11)), none⟩] [1, 4, 10])
 (.cond (.s 10) (.seq (.reg [⟨(some 12), .p (.foff 1 (.s 1)), none⟩,
 ⟨(some 13), .p (.ld (.s 12)), none⟩,
 ⟨(some 14), .p (.bin .eql (.s 13) (.c (.int .i64 0))), none⟩,
 ⟨(some 15), .p (.mv (.s 14)), none⟩,
 ⟨(some 16), .p (.foff 2 (.s 1)), (some (15, true))⟩,
 ⟨(some 17), .p (.ld (.s 16)), (some (15, true))⟩,
 ⟨(some 18), .p (.lens (.s 17)), (some (15, true))⟩,
 ⟨(some 19), .p (.bin .leq (.s 18) (.c (.int .i64 32))), (some (15, true))⟩,
 ⟨(some 20), .p (.pick (.s 15) (.s 19) (.c (.bool false))), none⟩,
 ⟨(some 2), .p (.mv (.s 20)), none⟩] [2])
 .ret) (.seq (.reg [⟨(some 22), .p (.bin .eql (.s 4) (.c (.int .i64 3))), none⟩,
 ⟨(some 21), .p (.mv (.s 22)), none⟩] [1, 4, 21])
 (.cond (.s 21) (.seq (.reg [⟨(some 23), .p (.foff 1 (.s 1)), none⟩,
 ⟨(some 24), .p (.ld (.s 23)), none⟩,
 ⟨(some 25), .p (.bin .eql (.s 24) (.c (.int .i64 0))), none⟩,
 ⟨(some 26), .p (.mv (.s 25)), none⟩,
 ⟨(some 27), .p (.foff 2 (.s 1)), (some (26, true))⟩,
 ⟨(some 28), .p (.ld (.s 27)), (some (26, true))⟩,
 ⟨(some 29), .p (.lens (.s 28)), (some (26, true))⟩,
 ⟨(some 30), .p (.bin .leq (.s 29) (.c (.int .i64 32))), (some (26, true))⟩,
 ⟨(some 31), .p (.pick (.s 26) (.s 30) (.c (.bool false))), none⟩,
 ⟨(some 32), .p (.mv (.s 31)), none⟩,
 ⟨(some 33), .p (.foff 2 (.s 1)), (some (32, true))⟩,
 ⟨(some 34), .p (.ld (.s 33)), (some (32, true))⟩,
 ⟨(some 35), .e (.call N.joistref02_Utf8 [(.s 34)] true), (some (32, true))⟩,
 ⟨(some 36), .p (.pick (.s 32) (.s 35) (.c (.bool false))), none⟩,
 ⟨(some 2), .p (.mv (.s 36)), none⟩] [2])
 .ret) (.seq (.reg [⟨(some 38), .p (.bin .eql (.s 4) (.c (.int .i64 4))), none⟩,
 ⟨(some 37), .p (.mv (.s 38)), none⟩] [1, 4, 37])
 (.cond (.s 37) (.seq (.reg [⟨(some 39), .p (.foff 2 (.s 1)), none⟩,
 ⟨(some 40), .p (.ld (.s 39)), none⟩,
 ⟨(some 41), .p (.bin .eql (.s 40) (.c (.str []))), none⟩,
 ⟨(some 42), .p (.mv (.s 41)), none⟩,
 ⟨(some 43), .p (.foff 1 (.s 1)), (some (42, true))⟩,
 ⟨(some 44), .p (.ld (.s 43)), (some (42, true))⟩,
 ⟨(some 45), .p (.bin .eql (.s 44) (.c (.int .i64 0))), (some (42, true))⟩,
 ⟨(some 46), .p (.mv (.s 45)), (some (42, true))⟩,
 ⟨(some 47), .p (.foff 1 (.s 1)), (some (46, false))⟩,
 ⟨(some 48), .p (.ld (.s 47)), (some (46, false))⟩,
 ⟨(some 49), .p (.bin .eql (.s 48) (.c (.int .i64 1))), (some (46, false))⟩,
 ⟨(some 50), .p (.pick (.s 46) (.c (.bool true)) (.s 49)), (some (42, true))⟩,
 ⟨(some 51), .p (.pick (.s 42) (.s 50) (.c (.bool false))), none⟩,
 ⟨(some 2), .p (.mv (.s 51)), none⟩] [2])
 .ret) (.seq (.reg [⟨(some 53), .p (.bin .eql (.s 4) (.c (.int .i64 5))), none⟩,
 ⟨(some 52), .p (.mv (.s 53)), none⟩] [1, 52])
 (.cond (.s 52) (.seq (.reg [⟨(some 54), .p (.foff 2 (.s 1)), none⟩,
 ⟨(some 55), .p (.ld (.s 54)), none⟩,
 ⟨(some 56), .p (.bin .eql (.s 55) (.c (.str []))), none⟩,
 ⟨(some 57), .p (.mv (.s 56)), none⟩,
 ⟨(some 58), .p (.foff 1 (.s 1)), (some (57, true))⟩,
 ⟨(some 59), .p (.ld (.s 58)), (some (57, true))⟩,
 ⟨(some 60), .e (.call N.joistref01_Right [(.s 59)] true), (some (57, true))⟩,
 ⟨(some 61), .p (.pick (.s 57) (.s 60) (.c (.bool false))), none⟩,
 ⟨(some 2), .p (.mv (.s 61)), none⟩] [2])
 .ret) .skip))))))))))))
 (.seq (.reg [⟨(some 2), .p (.mv (.c (.bool false))), none⟩] [2])
 .ret)))⟩

def F.joistref03_cmp : LFunc := ⟨11, [.t 4], 
 (.seq (.reg [⟨(some 4), .p (.mv (.c (.int .i64 0))), none⟩] [0, 1])
 (.seq (.seq (.reg [⟨(some 5), .p (.mv (.s 0)), none⟩,
 ⟨(some 6), .p (.mv (.s 1)), none⟩,
 ⟨(some 7), .p (.bin .lss (.s 5) (.s 6)), none⟩] [0, 1, 7])
 (.cond (.s 7) (.seq (.reg [⟨(some 4), .p (.mv (.c (.int .i64 (-1)))), none⟩] [4])
 .ret) .skip))
 (.seq (.seq (.reg [⟨(some 8), .p (.mv (.s 0)), none⟩,
 ⟨(some 9), .p (.mv (.s 1)), none⟩,
 ⟨(some 10), .p (.bin .gtr (.s 8) (.s 9)), none⟩] [10])
 (.cond (.s 10) (.seq (.reg [⟨(some 4), .p (.mv (.c (.int .i64 1))), none⟩] [4])
 .ret) .skip))
 (.seq (.reg [⟨(some 4), .p (.mv (.c (.int .i64 0))), none⟩] [4])
 .ret))))⟩

def F.joistref14_Column : LFunc := ⟨28, [.cn 4 3, .t 5], 
 (.seq (.reg [⟨(some 2), .e (.box 5 (.s 0)), none⟩,
 ⟨(some 4), .e (.alloc [.str [], .int .i64 0, .int .i64 0]), none⟩,
 ⟨(some 5), .p (.mv (.c (.bool false))), none⟩] [1, 2, 4])
 (.seq (.seq (.reg [⟨(some 6), .p (.mv (.c (.int .i64 0))), none⟩] [1, 2, 4, 6])
 (.block 0 (.loop (.seq (.seq (.reg [⟨(some 7), .p (.mv (.s 6)), none⟩,
 ⟨(some 8), .p (.foff 4 (.s 2)), none⟩,
 ⟨(some 9), .p (.ld (.s 8)), none⟩,
 ⟨(some 10), .p (.lenl (.s 9)), none⟩,
 ⟨(some 11), .p (.bin .lss (.s 7) (.s 10)), none⟩] [1, 2, 4, 6, 11])
 (.cond (.s 11) .skip (.exit 0)))
 (.seq (.block 1 (.seq (.reg [⟨(some 14), .p (.foff 4 (.s 2)), none⟩,
 ⟨(some 15), .p (.ld (.s 14)), none⟩,
 ⟨(some 16), .p (.mv (.s 6)), none⟩,
 ⟨(some 17), .p (.iadr 3 (.s 15) (.s 16)), none⟩,
 ⟨(some 18), .p (.foff 0 (.s 17)), none⟩,
 ⟨(some 19), .p (.ld (.s 18)), none⟩,
 ⟨(some 20), .p (.mv (.s 1)), none⟩,
 ⟨(some 21), .p (.bin .eql (.s 19) (.s 20)), none⟩] [1, 2, 4, 6, 21])
 (.cond (.s 21) (.seq (.reg [⟨(some 22), .p (.foff 4 (.s 2)), none⟩,
 ⟨(some 23), .p (.ld (.s 22)), none⟩,
 ⟨(some 24), .p (.mv (.s 6)), none⟩,
 ⟨(some 25), .p (.iadr 3 (.s 23) (.s 24)), none⟩,
 ⟨(some 26), .p (.ldn 3 (.s 25)), none⟩,
 ⟨none, .e (.stn 3 (.s 4) (.s 26)), none⟩,
 ⟨(some 5), .p (.mv (.c (.bool true))), none⟩] [4, 5])
 .ret) .skip)))
 (.reg [⟨(some 12), .p (.mv (.s 6)), none⟩,
 ⟨(some 13), .p (.bin .add (.s 12) (.c (.int .i64 1))), none⟩,
 ⟨(some 6), .p (.mv (.s 13)), none⟩] [1, 2, 4, 6]))) [1, 2, 4, 6])))
 (.seq (.reg [⟨(some 27), .p (.build [.str [], .int .i64 0, .int .i64 0] []), none⟩,
 ⟨none, .e (.stn 3 (.s 4) (.s 27)), none⟩,
 ⟨(some 5), .p (.mv (.c (.bool false))), none⟩] [4, 5])
 .ret)))⟩

def F.schema_Read : LFunc := ⟨16, [.t 2, .t 3], 
 (.seq (.reg [⟨(some 1), .e (.box 5 (.s 0)), none⟩,
 ⟨(some 2), .p (.mv (.c (.int .i64 0))), none⟩,
 ⟨(some 3), .p (.mv (.c (.bool false))), none⟩] [1])
 (.seq (.reg [⟨(some 5), .p (.foff 3 (.s 1)), none⟩,
 ⟨(some 6), .p (.ld (.s 5)), none⟩,
 ⟨(some 7), .e (.call N.slices_IndexFunc_api_Layout_api_Layout_ [(.s 6), (.c (.fn N.schema_Read_1 [] []))] true), none⟩,
 ⟨(some 4), .p (.mv (.s 7)), none⟩] [1, 4])
 (.seq (.seq (.reg [⟨(some 8), .p (.mv (.s 4)), none⟩,
 ⟨(some 9), .p (.bin .lss (.s 8) (.c (.int .i64 0))), none⟩] [1, 4, 9])
 (.cond (.s 9) (.seq (.reg [⟨(some 2), .p (.mv (.c (.int .i64 0))), none⟩,
 ⟨(some 3), .p (.mv (.c (.bool false))), none⟩] [2, 3])
 .ret) .skip))
 (.seq (.reg [⟨(some 10), .p (.foff 3 (.s 1)), none⟩,
 ⟨(some 11), .p (.ld (.s 10)), none⟩,
 ⟨(some 12), .p (.mv (.s 4)), none⟩,
 ⟨(some 13), .p (.iadr 2 (.s 11) (.s 12)), none⟩,
 ⟨(some 14), .p (.foff 0 (.s 13)), none⟩,
 ⟨(some 15), .p (.ld (.s 14)), none⟩,
 ⟨(some 2), .p (.mv (.s 15)), none⟩,
 ⟨(some 3), .p (.mv (.c (.bool true))), none⟩] [2, 3])
 .ret))))⟩

def F.slices_Contains_string_string_ : LFunc := ⟨9, [.t 4], 
 (.seq (.reg [⟨(some 4), .p (.mv (.c (.bool false))), none⟩] [0, 1])
 (.seq (.reg [⟨(some 5), .p (.mv (.s 0)), none⟩,
 ⟨(some 6), .p (.mv (.s 1)), none⟩,
 ⟨(some 7), .e (.call N.slices_Index_string_string_ [(.s 5), (.s 6)] true), none⟩,
 ⟨(some 8), .p (.bin .geq (.s 7) (.c (.int .i64 0))), none⟩,
 ⟨(some 4), .p (.mv (.s 8)), none⟩] [4])
 .ret))⟩

def F.plan_quals : LFunc := ⟨25, [.t 2], 
 (.seq (.reg [⟨(some 1), .e (.box 5 (.s 0)), none⟩,
 ⟨(some 2), .p (.mv (.c (.psl []))), none⟩] [1])
 (.seq (.reg [⟨(some 3), .e (.vnil 1), none⟩] [1, 3])
 (.seq (.seq (.reg [⟨(some 6), .p (.foff 4 (.s 1)), none⟩,
 ⟨(some 7), .p (.ld (.s 6)), none⟩,
 ⟨(some 8), .p (.lenl (.s 7)), none⟩,
 ⟨(some 9), .p (.mv (.c (.int .i64 0))), none⟩] [3, 7, 8, 9])
 (.block 0 (.loop (.seq (.reg [⟨(some 10), .p (.bin .lss (.s 9) (.s 8)), none⟩] [3, 7, 8, 9, 10])
 (.seq (.cond (.s 10) .skip (.exit 0))
 (.seq (.block 1 (.seq (.reg [⟨(some 11), .p (.iadr 3 (.s 7) (.s 9)), none⟩,
 ⟨(some 12), .p (.ldn 3 (.s 11)), none⟩,
 ⟨(some 5), .e (.alloc [.str [], .int .i64 0, .int .i64 0]), none⟩,
 ⟨none, .e (.stn 3 (.s 5) (.s 12)), none⟩] [3, 5, 7, 8, 9])
 (.seq (.reg [⟨(some 13), .p (.foff 2 (.s 5)), none⟩,
 ⟨(some 14), .p (.ld (.s 13)), none⟩,
 ⟨(some 15), .p (.bin .eql (.s 14) (.c (.int .i64 3))), none⟩] [3, 5, 7, 8, 9, 15])
 (.cond (.s 15) (.reg [⟨(some 16), .p (.mv (.s 3)), none⟩,
 ⟨(some 17), .p (.foff 0 (.s 5)), none⟩,
 ⟨(some 18), .p (.ld (.s 17)), none⟩,
 ⟨(some 19), .e (.bsl 1 1 [.str []] [(0, 1, (.s 18))]), none⟩,
 ⟨(some 20), .e (.app 1 16 (.s 16) (.s 19)), none⟩,
 ⟨(some 3), .p (.mv (.s 20)), none⟩] [3, 7, 8, 9]) .skip))))
 (.reg [⟨(some 21), .p (.bin .add (.s 9) (.c (.int .i64 1))), none⟩,
 ⟨(some 9), .p (.mv (.s 21)), none⟩] [3, 7, 8, 9])))) [3, 7, 8, 9])))
 (.seq (.reg [⟨(some 22), .p (.mv (.s 3)), none⟩,
 ⟨(some 23), .e (.call N.slices_Sort_string_string_ [(.s 22)] false), none⟩] [3])
 (.seq (.reg [⟨(some 24), .p (.mv (.s 3)), none⟩,
 ⟨(some 2), .p (.mv (.s 24)), none⟩] [2])
 .ret)))))⟩

def F.filter_Clone : LFunc := ⟨8, [.cn 2 7], 
 (.seq (.reg [⟨(some 1), .e (.box 7 (.s 0)), none⟩,
 ⟨(some 2), .e (.alloc [.psl [], .str [], .str [], .int .i64 0, .int .i64 0, .int .i64 0, .int .i64 0]), none⟩] [1, 2])
 (.seq (.reg [⟨(some 3), .p (.foff 0 (.s 1)), none⟩,
 ⟨(some 4), .p (.ld (.s 3)), none⟩,
 ⟨(some 5), .e (.call N.slices_Clone_string_string_ [(.s 4)] true), none⟩,
 ⟨(some 6), .p (.foff 0 (.s 1)), none⟩,
 ⟨none, .e (.st (.s 6) (.s 5)), none⟩] [1, 2])
 (.seq (.reg [⟨(some 7), .p (.ldn 7 (.s 1)), none⟩,
 ⟨none, .e (.stn 7 (.s 2) (.s 7)), none⟩] [2])
 .ret)))⟩

def F.schema_Right : LFunc := ⟨48, [.t 2], 
 (.seq (.reg [⟨(some 1), .e (.box 10 (.s 0)), none⟩,
 ⟨(some 2), .p (.mv (.c (.bool false))), none⟩] [1])
 (.seq (.reg [⟨(some 3), .p (.mv (.c (.fn N.schema_Right_1 [] []))), none⟩] [1, 3])
 (.seq (.seq (.reg [⟨(some 4), .p (.foff 0 (.s 1)), none⟩,
 ⟨(some 5), .p (.ld (.s 4)), none⟩,
 ⟨(some 6), .e (.call N.schema_within [(.s 5), (.c (.int .i64 1)), (.c (.int .i64 1099511627776))] true), none⟩,
 ⟨(some 7), .p (.un .not (.s 6)), none⟩,
 ⟨(some 8), .p (.mv (.s 7)), none⟩,
 ⟨(some 9), .p (.foff 1 (.s 1)), (some (8, false))⟩,
 ⟨(some 10), .p (.ld (.s 9)), (some (8, false))⟩,
 ⟨(some 11), .p (.lenl (.s 10)), (some (8, false))⟩,
 ⟨(some 12), .p (.bin .gtr (.s 11) (.c (.int .i64 6))), (some (8, false))⟩,
 ⟨(some 13), .p (.pick (.s 8) (.c (.bool true)) (.s 12)), none⟩,
 ⟨(some 14), .p (.mv (.s 13)), none⟩,
 ⟨(some 15), .p (.foff 1 (.s 1)), (some (14, false))⟩,
 ⟨(some 16), .p (.ld (.s 15)), (some (14, false))⟩,
 ⟨(some 17), .p (.mv (.s 3)), (some (14, false))⟩,
 ⟨(some 18), .e (.call N.slices_ContainsFunc_api_Family_api_Family_ [(.s 16), (.s 17)] true), (some (14, false))⟩,
 ⟨(some 19), .p (.pick (.s 14) (.c (.bool true)) (.s 18)), none⟩,
 ⟨(some 20), .p (.mv (.s 19)), none⟩,
 ⟨(some 21), .p (.foff 1 (.s 1)), (some (20, false))⟩,
 ⟨(some 22), .p (.ld (.s 21)), (some (20, false))⟩,
 ⟨(some 23), .e (.call N.schema_once_string [(.s 22), (.c (.fn N.schema_Right_2 [] []))] true), (some (20, false))⟩,
 ⟨(some 24), .p (.un .not (.s 23)), (some (20, false))⟩,
 ⟨(some 25), .p (.pick (.s 20) (.c (.bool true)) (.s 24)), none⟩] [1, 25])
 (.cond (.s 25) (.seq (.reg [⟨(some 2), .p (.mv (.c (.bool false))), none⟩] [2])
 .ret) .skip))
 (.seq (.seq (.reg [⟨(some 26), .p (.foff 2 (.s 1)), none⟩,
 ⟨(some 27), .p (.foff 0 (.s 26)), none⟩,
 ⟨(some 28), .p (.ld (.s 27)), none⟩,
 ⟨(some 29), .p (.bin .eql (.s 28) (.c (.int .i64 0))), none⟩] [1, 29])
 (.cond (.s 29) (.seq (.reg [⟨(some 30), .p (.foff 2 (.s 1)), none⟩,
 ⟨(some 31), .p (.ldn 7 (.s 30)), none⟩,
 ⟨(some 32), .p (.build [.int .i64 0, .str [], .str [], .int .i64 0, .int .i64 0, .int .i64 0, .int .i64 0] []), none⟩,
 ⟨(some 33), .p (.eqk false (.agg [0, 1, 1, 0, 0, 0, 0]) (.s 31) (.s 32)), none⟩,
 ⟨(some 34), .p (.mv (.s 33)), none⟩,
 ⟨(some 35), .p (.foff 9 (.s 1)), (some (34, true))⟩,
 ⟨(some 36), .p (.ld (.s 35)), (some (34, true))⟩,
 ⟨(some 37), .p (.bin .eql (.s 36) (.c (.int .i64 0))), (some (34, true))⟩,
 ⟨(some 38), .p (.pick (.s 34) (.s 37) (.c (.bool false))), none⟩,
 ⟨(some 2), .p (.mv (.s 38)), none⟩] [2])
 .ret) .skip))
 (.seq (.reg [⟨(some 39), .p (.foff 2 (.s 1)), none⟩,
 ⟨(some 40), .p (.foff 0 (.s 39)), none⟩,
 ⟨(some 41), .p (.ld (.s 40)), none⟩,
 ⟨(some 42), .e (.call N.schema_within [(.s 41), (.c (.int .i64 1)), (.c (.int .i64 5))] true), none⟩,
 ⟨(some 43), .p (.mv (.s 42)), none⟩,
 ⟨(some 44), .p (.foff 9 (.s 1)), (some (43, true))⟩,
 ⟨(some 45), .p (.ld (.s 44)), (some (43, true))⟩,
 ⟨(some 46), .e (.call N.schema_within [(.s 45), (.c (.int .i64 1)), (.c (.int .i64 9))] true), (some (43, true))⟩,
 ⟨(some 47), .p (.pick (.s 43) (.s 46) (.c (.bool false))), none⟩,
 ⟨(some 2), .p (.mv (.s 47)), none⟩] [2])
 .ret)))))⟩

def F.plan_first_string : LFunc := ⟨21, [.t 4], 
 (.seq (.reg [⟨(some 4), .p (.mv (.c (.int .i64 0))), none⟩] [0, 1])
 (.seq (.seq (.reg [⟨(some 8), .p (.mv (.s 0)), none⟩,
 ⟨(some 9), .p (.lenl (.s 8)), none⟩,
 ⟨(some 10), .p (.mv (.c (.int .i64 0))), none⟩] [1, 8, 9, 10])
 (.block 0 (.loop (.seq (.reg [⟨(some 11), .p (.bin .lss (.s 10) (.s 9)), none⟩] [1, 8, 9, 10, 11])
 (.seq (.cond (.s 11) .skip (.exit 0))
 (.seq (.block 1 (.seq (.reg [⟨(some 12), .p (.iadr 1 (.s 8) (.s 10)), none⟩,
 ⟨(some 13), .p (.ld (.s 12)), none⟩,
 ⟨(some 6), .p (.mv (.s 13)), none⟩] [1, 6, 8, 9, 10])
 (.seq (.reg [⟨(some 14), .p (.mv (.s 1)), none⟩,
 ⟨(some 15), .p (.mv (.s 6)), none⟩,
 ⟨(some 16), .e (.callv (.s 14) [(.s 15)] true), none⟩,
 ⟨(some 7), .p (.mv (.s 16)), none⟩] [1, 7, 8, 9, 10])
 (.seq (.reg [⟨(some 17), .p (.mv (.s 7)), none⟩,
 ⟨(some 18), .p (.bin .neq (.s 17) (.c (.int .i64 0))), none⟩] [1, 7, 8, 9, 10, 18])
 (.cond (.s 18) (.seq (.reg [⟨(some 19), .p (.mv (.s 7)), none⟩,
 ⟨(some 4), .p (.mv (.s 19)), none⟩] [4])
 .ret) .skip)))))
 (.reg [⟨(some 20), .p (.bin .add (.s 10) (.c (.int .i64 1))), none⟩,
 ⟨(some 10), .p (.mv (.s 20)), none⟩] [1, 8, 9, 10])))) [1, 8, 9, 10])))
 (.seq (.reg [⟨(some 4), .p (.mv (.c (.int .i64 0))), none⟩] [4])
 .ret)))⟩

def F.plan_view_named : LFunc := ⟨15, [.t 4], 
 (.seq (.reg [⟨(some 2), .e (.box 10 (.s 0)), none⟩,
 ⟨(some 4), .p (.mv (.c (.int .i64 0))), none⟩] [1, 2])
 (.seq (.seq (.reg [⟨(some 8), .p (.ldn 10 (.s 2)), none⟩,
 ⟨(some 9), .p (.mv (.s 1)), none⟩,
 ⟨(some 10), .e (.call N.plan_view_family [(.s 8), (.s 9)] true), none⟩,
 ⟨(some 7), .p (.mv (.s 10)), none⟩,
 ⟨(some 11), .p (.ext (.s 7) 0), none⟩,
 ⟨(some 12), .p (.ext (.s 7) 1), none⟩,
 ⟨(some 5), .e (.alloc [.str [], .int .i64 0, .int .i64 0, .psl [], .psl []]), none⟩,
 ⟨none, .e (.stn 5 (.s 5) (.s 11)), none⟩,
 ⟨(some 6), .p (.mv (.s 12)), none⟩] [6])
 (.seq (.reg [⟨(some 13), .p (.mv (.s 6)), none⟩,
 ⟨(some 14), .p (.un .not (.s 13)), none⟩] [14])
 (.cond (.s 14) (.seq (.reg [⟨(some 4), .p (.mv (.c (.int .i64 12))), none⟩] [4])
 .ret) .skip)))
 (.seq (.reg [⟨(some 4), .p (.mv (.c (.int .i64 0))), none⟩] [4])
 .ret)))⟩

def F.plan_view_value : LFunc := ⟨48, [.t 8], 
 (.seq (.reg [⟨(some 4), .e (.box 10 (.s 0)), none⟩,
 ⟨(some 7), .e (.box 3 (.s 3)), none⟩,
 ⟨(some 8), .p (.mv (.c (.int .i64 0))), none⟩] [1, 2, 4, 7])
 (.seq (.reg [⟨(some 14), .p (.ldn 10 (.s 4)), none⟩,
 ⟨(some 15), .p (.mv (.s 1)), none⟩,
 ⟨(some 16), .e (.call N.plan_view_family [(.s 14), (.s 15)] true), none⟩,
 ⟨(some 13), .p (.mv (.s 16)), none⟩,
 ⟨(some 17), .p (.ext (.s 13) 0), none⟩,
 ⟨(some 18), .p (.ext (.s 13) 1), none⟩,
 ⟨(some 9), .e (.alloc [.str [], .int .i64 0, .int .i64 0, .psl [], .psl []]), none⟩,
 ⟨none, .e (.stn 5 (.s 9) (.s 17)), none⟩,
 ⟨(some 10), .p (.mv (.s 18)), none⟩] [2, 7, 9, 10])
 (.seq (.reg [⟨(some 20), .p (.ldn 5 (.s 9)), none⟩,
 ⟨(some 21), .p (.mv (.s 2)), none⟩,
 ⟨(some 22), .e (.call N.schema_Column [(.s 20), (.s 21)] true), none⟩,
 ⟨(some 19), .p (.mv (.s 22)), none⟩,
 ⟨(some 23), .p (.ext (.s 19) 0), none⟩,
 ⟨(some 24), .p (.ext (.s 19) 1), none⟩,
 ⟨(some 11), .e (.alloc [.str [], .int .i64 0, .int .i64 0]), none⟩,
 ⟨none, .e (.stn 3 (.s 11) (.s 23)), none⟩,
 ⟨(some 12), .p (.mv (.s 24)), none⟩] [7, 10, 11, 12])
 (.seq (.block 0 (.seq (.reg [⟨(some 26), .p (.mv (.s 10)), none⟩,
 ⟨(some 27), .p (.un .not (.s 26)), none⟩,
 ⟨(some 28), .p (.mv (.s 27)), none⟩,
 ⟨(some 29), .p (.mv (.s 12)), (some (28, false))⟩,
 ⟨(some 30), .p (.un .not (.s 29)), (some (28, false))⟩,
 ⟨(some 31), .p (.pick (.s 28) (.c (.bool true)) (.s 30)), none⟩,
 ⟨(some 32), .p (.mv (.s 31)), none⟩,
 ⟨(some 33), .p (.foff 2 (.s 11)), (some (32, false))⟩,
 ⟨(some 34), .p (.ld (.s 33)), (some (32, false))⟩,
 ⟨(some 35), .p (.bin .neq (.s 34) (.c (.int .i64 3))), (some (32, false))⟩,
 ⟨(some 36), .p (.pick (.s 32) (.c (.bool true)) (.s 35)), none⟩,
 ⟨(some 25), .p (.mv (.s 36)), none⟩] [7, 11, 25])
 (.cond (.s 25) (.seq (.reg [⟨(some 8), .p (.mv (.c (.int .i64 12))), none⟩] [8])
 .ret) (.seq (.reg [⟨(some 38), .p (.foff 0 (.s 7)), none⟩,
 ⟨(some 39), .p (.ld (.s 38)), none⟩,
 ⟨(some 40), .p (.bin .neq (.s 39) (.c (.int .i64 0))), none⟩,
 ⟨(some 41), .p (.mv (.s 40)), none⟩,
 ⟨(some 42), .p (.foff 0 (.s 7)), (some (41, true))⟩,
 ⟨(some 43), .p (.ld (.s 42)), (some (41, true))⟩,
 ⟨(some 44), .p (.foff 1 (.s 11)), (some (41, true))⟩,
 ⟨(some 45), .p (.ld (.s 44)), (some (41, true))⟩,
 ⟨(some 46), .p (.bin .neq (.s 43) (.s 45)), (some (41, true))⟩,
 ⟨(some 47), .p (.pick (.s 41) (.s 46) (.c (.bool false))), none⟩,
 ⟨(some 37), .p (.mv (.s 47)), none⟩] [37])
 (.cond (.s 37) (.seq (.reg [⟨(some 8), .p (.mv (.c (.int .i64 14))), none⟩] [8])
 .ret) .skip)))))
 (.seq (.reg [⟨(some 8), .p (.mv (.c (.int .i64 0))), none⟩] [8])
 .ret)))))⟩

def F.plan_first_apiMut : LFunc := ⟨21, [.t 4], 
 (.seq (.reg [⟨(some 4), .p (.mv (.c (.int .i64 0))), none⟩] [0, 1])
 (.seq (.seq (.reg [⟨(some 8), .p (.mv (.s 0)), none⟩,
 ⟨(some 9), .p (.lenl (.s 8)), none⟩,
 ⟨(some 10), .p (.mv (.c (.int .i64 0))), none⟩] [1, 8, 9, 10])
 (.block 0 (.loop (.seq (.reg [⟨(some 11), .p (.bin .lss (.s 10) (.s 9)), none⟩] [1, 8, 9, 10, 11])
 (.seq (.cond (.s 11) .skip (.exit 0))
 (.seq (.block 1 (.seq (.reg [⟨(some 12), .p (.iadr 6 (.s 8) (.s 10)), none⟩,
 ⟨(some 13), .p (.ldn 6 (.s 12)), none⟩,
 ⟨(some 6), .e (.alloc [.int .i64 0, .str [], .str [], .int .i64 0, .int .i64 0, .str []]), none⟩,
 ⟨none, .e (.stn 6 (.s 6) (.s 13)), none⟩] [1, 6, 8, 9, 10])
 (.seq (.reg [⟨(some 14), .p (.mv (.s 1)), none⟩,
 ⟨(some 15), .p (.ldn 6 (.s 6)), none⟩,
 ⟨(some 16), .e (.callv (.s 14) [(.s 15)] true), none⟩,
 ⟨(some 7), .p (.mv (.s 16)), none⟩] [1, 7, 8, 9, 10])
 (.seq (.reg [⟨(some 17), .p (.mv (.s 7)), none⟩,
 ⟨(some 18), .p (.bin .neq (.s 17) (.c (.int .i64 0))), none⟩] [1, 7, 8, 9, 10, 18])
 (.cond (.s 18) (.seq (.reg [⟨(some 19), .p (.mv (.s 7)), none⟩,
 ⟨(some 4), .p (.mv (.s 19)), none⟩] [4])
 .ret) .skip)))))
 (.reg [⟨(some 20), .p (.bin .add (.s 10) (.c (.int .i64 1))), none⟩,
 ⟨(some 10), .p (.mv (.s 20)), none⟩] [1, 8, 9, 10])))) [1, 8, 9, 10])))
 (.seq (.reg [⟨(some 4), .p (.mv (.c (.int .i64 0))), none⟩] [4])
 .ret)))⟩

def F.plan_view_mut : LFunc := ⟨24, [.t 4], 
 (.seq (.reg [⟨(some 2), .e (.box 10 (.s 0)), none⟩,
 ⟨(some 3), .e (.box 6 (.s 1)), none⟩,
 ⟨(some 4), .p (.mv (.c (.int .i64 0))), none⟩] [2, 3])
 (.seq (.seq (.reg [⟨(some 5), .p (.foff 0 (.s 3)), none⟩,
 ⟨(some 6), .p (.ld (.s 5)), none⟩] [2, 3, 6])
 (.block 0 (.seq (.seq (.reg [⟨(some 8), .p (.bin .eql (.s 6) (.c (.int .i64 1))), none⟩,
 ⟨(some 7), .p (.mv (.s 8)), none⟩] [2, 3, 6, 7])
 (.cond (.s 7) .skip (.reg [⟨(some 9), .p (.bin .eql (.s 6) (.c (.int .i64 2))), none⟩,
 ⟨(some 7), .p (.mv (.s 9)), none⟩] [2, 3, 6, 7])))
 (.cond (.s 7) (.seq (.reg [⟨(some 10), .p (.ldn 10 (.s 2)), none⟩,
 ⟨(some 11), .p (.foff 1 (.s 3)), none⟩,
 ⟨(some 12), .p (.ld (.s 11)), none⟩,
 ⟨(some 13), .p (.foff 2 (.s 3)), none⟩,
 ⟨(some 14), .p (.ld (.s 13)), none⟩,
 ⟨(some 15), .p (.foff 3 (.s 3)), none⟩,
 ⟨(some 16), .p (.ldn 3 (.s 15)), none⟩,
 ⟨(some 17), .e (.call N.plan_view_value [(.s 10), (.s 12), (.s 14), (.s 16)] true), none⟩,
 ⟨(some 4), .p (.mv (.s 17)), none⟩] [4])
 .ret) (.seq (.reg [⟨(some 19), .p (.bin .eql (.s 6) (.c (.int .i64 3))), none⟩,
 ⟨(some 18), .p (.mv (.s 19)), none⟩] [2, 3, 18])
 (.cond (.s 18) (.seq (.reg [⟨(some 20), .p (.ldn 10 (.s 2)), none⟩,
 ⟨(some 21), .p (.foff 1 (.s 3)), none⟩,
 ⟨(some 22), .p (.ld (.s 21)), none⟩,
 ⟨(some 23), .e (.call N.plan_view_named [(.s 20), (.s 22)] true), none⟩,
 ⟨(some 4), .p (.mv (.s 23)), none⟩] [4])
 .ret) .skip))))))
 (.seq (.reg [⟨(some 4), .p (.mv (.c (.int .i64 0))), none⟩] [4])
 .ret)))⟩

def F.joistref14_Family : LFunc := ⟨152, [.t 2], 
 (.seq (.reg [⟨(some 1), .e (.box 5 (.s 0)), none⟩,
 ⟨(some 2), .p (.mv (.c (.bool false))), none⟩] [1])
 (.seq (.seq (.reg [⟨(some 9), .p (.foff 0 (.s 1)), none⟩,
 ⟨(some 10), .p (.ld (.s 9)), none⟩,
 ⟨(some 11), .e (.call N.joistref03_Name [(.s 10)] true), none⟩,
 ⟨(some 12), .p (.un .not (.s 11)), none⟩,
 ⟨(some 13), .p (.mv (.s 12)), none⟩,
 ⟨(some 14), .p (.foff 1 (.s 1)), (some (13, false))⟩,
 ⟨(some 15), .p (.ld (.s 14)), (some (13, false))⟩,
 ⟨(some 16), .p (.bin .lss (.s 15) (.c (.int .i64 1))), (some (13, false))⟩,
 ⟨(some 17), .p (.pick (.s 13) (.c (.bool true)) (.s 16)), none⟩,
 ⟨(some 18), .p (.mv (.s 17)), none⟩,
 ⟨(some 19), .p (.foff 1 (.s 1)), (some (18, false))⟩,
 ⟨(some 20), .p (.ld (.s 19)), (some (18, false))⟩,
 ⟨(some 21), .p (.bin .gtr (.s 20) (.c (.int .i64 8))), (some (18, false))⟩,
 ⟨(some 22), .p (.pick (.s 18) (.c (.bool true)) (.s 21)), none⟩,
 ⟨(some 23), .p (.mv (.s 22)), none⟩,
 ⟨(some 24), .p (.foff 2 (.s 1)), (some (23, false))⟩,
 ⟨(some 25), .p (.ld (.s 24)), (some (23, false))⟩,
 ⟨(some 26), .p (.bin .lss (.s 25) (.c (.int .i64 0))), (some (23, false))⟩,
 ⟨(some 27), .p (.pick (.s 23) (.c (.bool true)) (.s 26)), none⟩,
 ⟨(some 28), .p (.mv (.s 27)), none⟩,
 ⟨(some 29), .p (.foff 2 (.s 1)), (some (28, false))⟩,
 ⟨(some 30), .p (.ld (.s 29)), (some (28, false))⟩,
 ⟨(some 31), .p (.bin .gtr (.s 30) (.c (.int .i64 1099511627776))), (some (28, false))⟩,
 ⟨(some 32), .p (.pick (.s 28) (.c (.bool true)) (.s 31)), none⟩,
 ⟨(some 33), .p (.mv (.s 32)), none⟩,
 ⟨(some 34), .p (.foff 3 (.s 1)), (some (33, false))⟩,
 ⟨(some 35), .p (.ld (.s 34)), (some (33, false))⟩,
 ⟨(some 36), .p (.lenl (.s 35)), (some (33, false))⟩,
 ⟨(some 37), .p (.bin .lss (.s 36) (.c (.int .i64 1))), (some (33, false))⟩,
 ⟨(some 38), .p (.pick (.s 33) (.c (.bool true)) (.s 37)), none⟩,
 ⟨(some 39), .p (.mv (.s 38)), none⟩,
 ⟨(some 40), .p (.foff 3 (.s 1)), (some (39, false))⟩,
 ⟨(some 41), .p (.ld (.s 40)), (some (39, false))⟩,
 ⟨(some 42), .p (.lenl (.s 41)), (some (39, false))⟩,
 ⟨(some 43), .p (.bin .gtr (.s 42) (.c (.int .i64 2))), (some (39, false))⟩,
 ⟨(some 44), .p (.pick (.s 39) (.c (.bool true)) (.s 43)), none⟩,
 ⟨(some 45), .p (.mv (.s 44)), none⟩,
 ⟨(some 46), .p (.foff 4 (.s 1)), (some (45, false))⟩,
 ⟨(some 47), .p (.ld (.s 46)), (some (45, false))⟩,
 ⟨(some 48), .p (.lenl (.s 47)), (some (45, false))⟩,
 ⟨(some 49), .p (.bin .gtr (.s 48) (.c (.int .i64 8))), (some (45, false))⟩,
 ⟨(some 50), .p (.pick (.s 45) (.c (.bool true)) (.s 49)), none⟩] [1, 50])
 (.cond (.s 50) (.seq (.reg [⟨(some 2), .p (.mv (.c (.bool false))), none⟩] [2])
 .ret) .skip))
 (.seq (.reg [⟨(some 3), .p (.mv (.c (.int .i64 0))), none⟩] [1, 3])
 (.seq (.seq (.reg [⟨(some 4), .p (.mv (.c (.int .i64 0))), none⟩] [1, 3, 4])
 (.block 0 (.loop (.seq (.seq (.reg [⟨(some 51), .p (.mv (.s 4)), none⟩,
 ⟨(some 52), .p (.foff 3 (.s 1)), none⟩,
 ⟨(some 53), .p (.ld (.s 52)), none⟩,
 ⟨(some 54), .p (.lenl (.s 53)), none⟩,
 ⟨(some 55), .p (.bin .lss (.s 51) (.s 54)), none⟩] [1, 3, 4, 55])
 (.cond (.s 55) .skip (.exit 0)))
 (.seq (.block 1 (.seq (.reg [⟨(some 58), .p (.foff 3 (.s 1)), none⟩,
 ⟨(some 59), .p (.ld (.s 58)), none⟩,
 ⟨(some 60), .p (.mv (.s 4)), none⟩,
 ⟨(some 61), .p (.iadr 2 (.s 59) (.s 60)), none⟩,
 ⟨(some 62), .p (.ldn 2 (.s 61)), none⟩,
 ⟨(some 5), .e (.alloc [.int .i64 0, .int .i64 0]), none⟩,
 ⟨none, .e (.stn 2 (.s 5) (.s 62)), none⟩] [1, 3, 4, 5])
 (.seq (.seq (.regD [⟨(some 63), .p (.foff 0 (.s 5)), none⟩,
 ⟨(some 64), .p (.ld (.s 63)), none⟩,
 ⟨(some 65), .p (.bin .lss (.s 64) (.c (.int .i64 0))), none⟩,
 ⟨(some 66), .p (.mv (.s 65)), none⟩,
 ⟨(some 67), .p (.foff 0 (.s 5)), (some (66, false))⟩,
 ⟨(some 68), .p (.ld (.s 67)), (some (66, false))⟩,
 ⟨(some 69), .p (.bin .gtr (.s 68) (.c (.int .i64 2))), (some (66, false))⟩,
 ⟨(some 70), .p (.pick (.s 66) (.c (.bool true)) (.s 69)), none⟩,
 ⟨(some 71), .p (.mv (.s 70)), none⟩,
 ⟨(some 72), .p (.foff 1 (.s 5)), (some (71, false))⟩,
 ⟨(some 73), .p (.ld (.s 72)), (some (71, false))⟩,
 ⟨(some 74), .p (.bin .lss (.s 73) (.c (.int .i64 1))), (some (71, false))⟩,
 ⟨(some 75), .p (.pick (.s 71) (.c (.bool true)) (.s 74)), none⟩,
 ⟨(some 76), .p (.mv (.s 75)), none⟩,
 ⟨(some 77), .p (.foff 1 (.s 5)), (some (76, false))⟩,
 ⟨(some 78), .p (.ld (.s 77)), (some (76, false))⟩,
 ⟨(some 79), .p (.bin .gtr (.s 78) (.c (.int .i64 3))), (some (76, false))⟩,
 ⟨(some 80), .p (.pick (.s 76) (.c (.bool true)) (.s 79)), none⟩,
 ⟨(some 81), .p (.mv (.s 80)), none⟩,
 ⟨(some 82), .p (.mv (.s 4)), (some (81, false))⟩,
 ⟨(some 83), .p (.bin .gtr (.s 82) (.c (.int .i64 0))), (some (81, false))⟩,
 ⟨(some 84), .p (.mv (.s 83)), (some (81, false))⟩,
 ⟨(some 85), .p (.foff 0 (.s 5)), (some (84, true))⟩,
 ⟨(some 86), .p (.ld (.s 85)), (some (84, true))⟩,
 ⟨(some 87), .p (.foff 3 (.s 1)), (some (84, true))⟩,
 ⟨(some 88), .p (.ld (.s 87)), (some (84, true))⟩,
 ⟨(some 89), .p (.iadr 2 (.s 88) (.c (.int .i64 0))), (some (84, true))⟩,
 ⟨(some 90), .p (.foff 0 (.s 89)), (some (84, true))⟩,
 ⟨(some 91), .p (.ld (.s 90)), (some (84, true))⟩,
 ⟨(some 92), .p (.bin .eql (.s 86) (.s 91)), (some (84, true))⟩,
 ⟨(some 93), .p (.pick (.s 84) (.s 92) (.c (.bool false))), (some (81, false))⟩,
 ⟨(some 94), .p (.pick (.s 81) (.c (.bool true)) (.s 93)), none⟩] [0, 1, 2, 3, 4, 5, 6, 7, 8, 9, 10, 11, 12, 13, 14, 15, 16, 17, 18, 19, 20, 21, 22, 23, 24, 25, 26, 27, 28, 29, 30, 31] [1, 3, 4, 5, 94])
 (.cond (.s 94) (.seq (.reg [⟨(some 2), .p (.mv (.c (.bool false))), none⟩] [2])
 .ret) .skip))
 (.seq (.reg [⟨(some 95), .p (.foff 1 (.s 5)), none⟩,
 ⟨(some 96), .p (.ld (.s 95)), none⟩,
 ⟨(some 97), .p (.bin .eql (.s 96) (.c (.int .i64 3))), none⟩] [1, 3, 4, 97])
 (.cond (.s 97) (.reg [⟨(some 98), .p (.mv (.s 3)), none⟩,
 ⟨(some 99), .p (.bin .add (.s 98) (.c (.int .i64 1))), none⟩,
 ⟨(some 3), .p (.mv (.s 99)), none⟩] [1, 3, 4]) .skip)))))
 (.reg [⟨(some 56), .p (.mv (.s 4)), none⟩,
 ⟨(some 57), .p (.bin .add (.s 56) (.c (.int .i64 1))), none⟩,
 ⟨(some 4), .p (.mv (.s 57)), none⟩] [1, 3, 4]))) [1, 3, 4])))
 (.seq (.seq (.reg [⟨(some 6), .p (.mv (.c (.int .i64 0))), none⟩] [1, 3, 6])
 (.block 2 (.loop (.seq (.seq (.reg [⟨(some 100), .p (.mv (.s 6)), none⟩,
 ⟨(some 101), .p (.foff 4 (.s 1)), none⟩,
 ⟨(some 102), .p (.ld (.s 101)), none⟩,
 ⟨(some 103), .p (.lenl (.s 102)), none⟩,
 ⟨(some 104), .p (.bin .lss (.s 100) (.s 103)), none⟩] [1, 3, 6, 104])
 (.cond (.s 104) .skip (.exit 2)))
 (.seq (.block 3 (.seq (.reg [⟨(some 107), .p (.foff 4 (.s 1)), none⟩,
 ⟨(some 108), .p (.ld (.s 107)), none⟩,
 ⟨(some 109), .p (.mv (.s 6)), none⟩,
 ⟨(some 110), .p (.iadr 3 (.s 108) (.s 109)), none⟩,
 ⟨(some 111), .p (.ldn 3 (.s 110)), none⟩,
 ⟨(some 7), .e (.alloc [.str [], .int .i64 0, .int .i64 0]), none⟩,
 ⟨none, .e (.stn 3 (.s 7) (.s 111)), none⟩] [1, 3, 6, 7])
 (.seq (.seq (.reg [⟨(some 112), .p (.foff 0 (.s 7)), none⟩,
 ⟨(some 113), .p (.ld (.s 112)), none⟩,
 ⟨(some 114), .p (.lens (.s 113)), none⟩,
 ⟨(some 115), .p (.bin .gtr (.s 114) (.c (.int .i64 12))), none⟩,
 ⟨(some 116), .p (.mv (.s 115)), none⟩,
 ⟨(some 117), .p (.foff 1 (.s 7)), (some (116, false))⟩,
 ⟨(some 118), .p (.ld (.s 117)), (some (116, false))⟩,
 ⟨(some 119), .p (.bin .lss (.s 118) (.c (.int .i64 1))), (some (116, false))⟩,
 ⟨(some 120), .p (.pick (.s 116) (.c (.bool true)) (.s 119)), none⟩,
 ⟨(some 121), .p (.mv (.s 120)), none⟩,
 ⟨(some 122), .p (.foff 1 (.s 7)), (some (121, false))⟩,
 ⟨(some 123), .p (.ld (.s 122)), (some (121, false))⟩,
 ⟨(some 124), .p (.bin .gtr (.s 123) (.c (.int .i64 5))), (some (121, false))⟩,
 ⟨(some 125), .p (.pick (.s 121) (.c (.bool true)) (.s 124)), none⟩,
 ⟨(some 126), .p (.mv (.s 125)), none⟩,
 ⟨(some 127), .p (.foff 2 (.s 7)), (some (126, false))⟩,
 ⟨(some 128), .p (.ld (.s 127)), (some (126, false))⟩,
 ⟨(some 129), .p (.bin .lss (.s 128) (.c (.int .i64 1))), (some (126, false))⟩,
 ⟨(some 130), .p (.pick (.s 126) (.c (.bool true)) (.s 129)), none⟩,
 ⟨(some 131), .p (.mv (.s 130)), none⟩,
 ⟨(some 132), .p (.foff 2 (.s 7)), (some (131, false))⟩,
 ⟨(some 133), .p (.ld (.s 132)), (some (131, false))⟩,
 ⟨(some 134), .p (.bin .gtr (.s 133) (.c (.int .i64 3))), (some (131, false))⟩,
 ⟨(some 135), .p (.pick (.s 131) (.c (.bool true)) (.s 134)), none⟩] [1, 3, 6, 7, 135])
 (.cond (.s 135) (.seq (.reg [⟨(some 2), .p (.mv (.c (.bool false))), none⟩] [2])
 .ret) .skip))
 (.seq (.reg [⟨(some 8), .p (.mv (.c (.int .i64 0))), none⟩] [1, 3, 6, 7, 8])
 (.block 4 (.loop (.seq (.seq (.reg [⟨(some 136), .p (.mv (.s 8)), none⟩,
 ⟨(some 137), .p (.mv (.s 6)), none⟩,
 ⟨(some 138), .p (.bin .lss (.s 136) (.s 137)), none⟩] [1, 3, 6, 7, 8, 138])
 (.cond (.s 138) .skip (.exit 4)))
 (.seq (.block 5 (.seq (.regD [⟨(some 141), .p (.foff 4 (.s 1)), none⟩,
 ⟨(some 142), .p (.ld (.s 141)), none⟩,
 ⟨(some 143), .p (.mv (.s 8)), none⟩,
 ⟨(some 144), .p (.iadr 3 (.s 142) (.s 143)), none⟩,
 ⟨(some 145), .p (.foff 0 (.s 144)), none⟩,
 ⟨(some 146), .p (.ld (.s 145)), none⟩,
 ⟨(some 147), .p (.foff 0 (.s 7)), none⟩,
 ⟨(some 148), .p (.ld (.s 147)), none⟩,
 ⟨(some 149), .p (.bin .eql (.s 146) (.s 148)), none⟩] [0, 1, 2, 3, 4, 5, 6, 7, 8] [1, 3, 6, 7, 8, 149])
 (.cond (.s 149) (.seq (.reg [⟨(some 2), .p (.mv (.c (.bool false))), none⟩] [2])
 .ret) .skip)))
 (.reg [⟨(some 139), .p (.mv (.s 8)), none⟩,
 ⟨(some 140), .p (.bin .add (.s 139) (.c (.int .i64 1))), none⟩,
 ⟨(some 8), .p (.mv (.s 140)), none⟩] [1, 3, 6, 7, 8]))) [1, 3, 6, 7, 8]))))))
 (.reg [⟨(some 105), .p (.mv (.s 6)), none⟩,
 ⟨(some 106), .p (.bin .add (.s 105) (.c (.int .i64 1))), none⟩,
 ⟨(some 6), .p (.mv (.s 106)), none⟩] [1, 3, 6]))) [1, 3, 6])))
 (.seq (.reg [⟨(some 150), .p (.mv (.s 3)), none⟩,
 ⟨(some 151), .p (.bin .lss (.s 150) (.c (.int .i64 2))), none⟩,
 ⟨(some 2), .p (.mv (.s 151)), none⟩] [2])
 .ret))))))⟩

def F.joistref16_add : LFunc := ⟨65, [.t 4], 
 (.seq (.reg [⟨(some 3), .e (.box 8 (.s 1)), none⟩,
 ⟨(some 4), .p (.mv (.c (.psl []))), none⟩] [0, 3])
 (.seq (.reg [⟨(some 8), .e (.bsl 8 0 [.str [], .str [], .str [], .int .i64 0, .int .i64 0, .int .i64 0, .int .i64 0, .str []] []), none⟩,
 ⟨(some 5), .p (.mv (.s 8)), none⟩] [0, 3, 5])
 (.seq (.seq (.reg [⟨(some 6), .p (.mv (.c (.int .i64 0))), none⟩] [0, 3, 5, 6])
 (.block 0 (.loop (.seq (.seq (.reg [⟨(some 9), .p (.mv (.s 6)), none⟩,
 ⟨(some 10), .p (.mv (.s 0)), none⟩,
 ⟨(some 11), .p (.lenl (.s 10)), none⟩,
 ⟨(some 12), .p (.bin .lss (.s 9) (.s 11)), none⟩] [0, 3, 5, 6, 12])
 (.cond (.s 12) .skip (.exit 0)))
 (.seq (.block 1 (.seq (.reg [⟨(some 15), .p (.mv (.s 0)), none⟩,
 ⟨(some 16), .p (.mv (.s 6)), none⟩,
 ⟨(some 17), .p (.iadr 8 (.s 15) (.s 16)), none⟩,
 ⟨(some 18), .p (.ldn 8 (.s 17)), none⟩,
 ⟨(some 7), .e (.alloc [.str [], .str [], .str [], .int .i64 0, .int .i64 0, .int .i64 0, .int .i64 0, .str []]), none⟩,
 ⟨none, .e (.stn 8 (.s 7) (.s 18)), none⟩] [0, 3, 5, 6, 7])
 (.seq (.reg [⟨(some 19), .p (.mv (.s 5)), none⟩,
 ⟨(some 20), .p (.ldn 8 (.s 7)), none⟩,
 ⟨(some 21), .e (.bsl 8 1 [.str [], .str [], .str [], .int .i64 0, .int .i64 0, .int .i64 0, .int .i64 0, .str []] [(0, 8, (.s 20))]), none⟩,
 ⟨(some 22), .e (.app 8 96 (.s 19) (.s 21)), none⟩,
 ⟨(some 5), .p (.mv (.s 22)), none⟩] [0, 3, 5, 6, 7])
 (.seq (.reg [⟨(some 23), .p (.ldn 8 (.s 7)), none⟩,
 ⟨(some 24), .p (.ldn 8 (.s 3)), none⟩,
 ⟨(some 25), .e (.call N.joistref03_Order [(.s 23), (.s 24)] true), none⟩,
 ⟨(some 26), .p (.bin .eql (.s 25) (.c (.int .i64 0))), none⟩,
 ⟨(some 27), .p (.mv (.s 26)), none⟩,
 ⟨(some 28), .p (.foff 1 (.s 7)), (some (27, false))⟩,
 ⟨(some 29), .p (.ld (.s 28)), (some (27, false))⟩,
 ⟨(some 30), .p (.foff 1 (.s 3)), (some (27, false))⟩,
 ⟨(some 31), .p (.ld (.s 30)), (some (27, false))⟩,
 ⟨(some 32), .p (.bin .eql (.s 29) (.s 31)), (some (27, false))⟩,
 ⟨(some 33), .p (.mv (.s 32)), (some (27, false))⟩,
 ⟨(some 34), .p (.foff 4 (.s 3)), (some (33, true))⟩,
 ⟨(some 35), .p (.ld (.s 34)), (some (33, true))⟩,
 ⟨(some 36), .p (.bin .eql (.s 35) (.c (.int .i64 4))), (some (33, true))⟩,
 ⟨(some 37), .p (.mv (.s 36)), (some (33, true))⟩,
 ⟨(some 38), .p (.foff 4 (.s 3)), (some (37, false))⟩,
 ⟨(some 39), .p (.ld (.s 38)), (some (37, false))⟩,
 ⟨(some 40), .p (.bin .eql (.s 39) (.c (.int .i64 3))), (some (37, false))⟩,
 ⟨(some 41), .p (.mv (.s 40)), (some (37, false))⟩,
 ⟨(some 42), .p (.foff 4 (.s 7)), (some (41, true))⟩,
 ⟨(some 43), .p (.ld (.s 42)), (some (41, true))⟩,
 ⟨(some 44), .p (.bin .eql (.s 43) (.c (.int .i64 1))), (some (41, true))⟩,
 ⟨(some 45), .p (.pick (.s 41) (.s 44) (.c (.bool false))), (some (37, false))⟩,
 ⟨(some 46), .p (.mv (.s 45)), (some (37, false))⟩,
 ⟨(some 47), .p (.foff 2 (.s 7)), (some (46, true))⟩,
 ⟨(some 48), .p (.ld (.s 47)), (some (46, true))⟩,
 ⟨(some 49), .p (.foff 2 (.s 3)), (some (46, true))⟩,
 ⟨(some 50), .p (.ld (.s 49)), (some (46, true))⟩,
 ⟨(some 51), .p (.bin .eql (.s 48) (.s 50)), (some (46, true))⟩,
 ⟨(some 52), .p (.pick (.s 46) (.s 51) (.c (.bool false))), (some (37, false))⟩,
 ⟨(some 53), .p (.pick (.s 37) (.c (.bool true)) (.s 52)), (some (33, true))⟩,
 ⟨(some 54), .p (.pick (.s 33) (.s 53) (.c (.bool false))), (some (27, false))⟩,
 ⟨(some 55), .p (.pick (.s 27) (.c (.bool true)) (.s 54)), none⟩] [0, 3, 5, 6, 55])
 (.cond (.s 55) (.reg [⟨(some 56), .p (.mv (.s 5)), none⟩,
 ⟨(some 57), .p (.mv (.s 5)), none⟩,
 ⟨(some 58), .p (.lenl (.s 57)), none⟩,
 ⟨(some 59), .p (.bin .sub (.s 58) (.c (.int .i64 1))), none⟩,
 ⟨(some 60), .p (.slcl 8 (.s 56) none (some (.s 59)) none), none⟩,
 ⟨(some 5), .p (.mv (.s 60)), none⟩] [0, 3, 5, 6]) .skip)))))
 (.reg [⟨(some 13), .p (.mv (.s 6)), none⟩,
 ⟨(some 14), .p (.bin .add (.s 13) (.c (.int .i64 1))), none⟩,
 ⟨(some 6), .p (.mv (.s 14)), none⟩] [0, 3, 5, 6]))) [0, 3, 5, 6])))
 (.seq (.reg [⟨(some 61), .p (.mv (.s 5)), none⟩,
 ⟨(some 62), .p (.ldn 8 (.s 3)), none⟩,
 ⟨(some 63), .e (.bsl 8 1 [.str [], .str [], .str [], .int .i64 0, .int .i64 0, .int .i64 0, .int .i64 0, .str []] [(0, 8, (.s 62))]), none⟩,
 ⟨(some 64), .e (.app 8 96 (.s 61) (.s 63)), none⟩,
 ⟨(some 4), .p (.mv (.s 64)), none⟩] [4])
 .ret))))⟩

def F.plan_read : LFunc := ⟨51, [.t 2], 
 (.seq (.reg [⟨(some 1), .e (.box 16 (.s 0)), none⟩,
 ⟨(some 2), .p (.mv (.c (.bool false))), none⟩] [1])
 (.seq (.reg [⟨(some 3), .p (.foff 1 (.s 1)), none⟩,
 ⟨(some 4), .p (.ld (.s 3)), none⟩,
 ⟨(some 5), .p (.lens (.s 4)), none⟩,
 ⟨(some 6), .p (.bin .leq (.s 5) (.c (.int .i64 16))), none⟩,
 ⟨(some 7), .p (.mv (.s 6)), none⟩,
 ⟨(some 8), .p (.foff 2 (.s 1)), (some (7, true))⟩,
 ⟨(some 9), .p (.ld (.s 8)), (some (7, true))⟩,
 ⟨(some 10), .p (.lens (.s 9)), (some (7, true))⟩,
 ⟨(some 11), .p (.bin .leq (.s 10) (.c (.int .i64 16))), (some (7, true))⟩,
 ⟨(some 12), .p (.pick (.s 7) (.s 11) (.c (.bool false))), none⟩,
 ⟨(some 13), .p (.mv (.s 12)), none⟩,
 ⟨(some 14), .p (.foff 2 (.s 1)), (some (13, true))⟩,
 ⟨(some 15), .p (.ld (.s 14)), (some (13, true))⟩,
 ⟨(some 16), .p (.bin .eql (.s 15) (.c (.str []))), (some (13, true))⟩,
 ⟨(some 17), .p (.mv (.s 16)), (some (13, true))⟩,
 ⟨(some 18), .p (.foff 1 (.s 1)), (some (17, false))⟩,
 ⟨(some 19), .p (.ld (.s 18)), (some (17, false))⟩,
 ⟨(some 20), .p (.foff 2 (.s 1)), (some (17, false))⟩,
 ⟨(some 21), .p (.ld (.s 20)), (some (17, false))⟩,
 ⟨(some 22), .p (.bin .leq (.s 19) (.s 21)), (some (17, false))⟩,
 ⟨(some 23), .p (.pick (.s 17) (.c (.bool true)) (.s 22)), (some (13, true))⟩,
 ⟨(some 24), .p (.pick (.s 13) (.s 23) (.c (.bool false))), none⟩,
 ⟨(some 25), .p (.mv (.s 24)), none⟩,
 ⟨(some 26), .p (.foff 3 (.s 1)), (some (25, true))⟩,
 ⟨(some 27), .p (.ld (.s 26)), (some (25, true))⟩,
 ⟨(some 28), .p (.lenl (.s 27)), (some (25, true))⟩,
 ⟨(some 29), .p (.bin .eql (.s 28) (.c (.int .i64 0))), (some (25, true))⟩,
 ⟨(some 30), .p (.pick (.s 25) (.s 29) (.c (.bool false))), none⟩,
 ⟨(some 31), .p (.mv (.s 30)), none⟩,
 ⟨(some 32), .p (.foff 4 (.s 1)), (some (31, true))⟩,
 ⟨(some 33), .p (.ld (.s 32)), (some (31, true))⟩,
 ⟨(some 34), .p (.bin .eql (.s 33) (.c (.str []))), (some (31, true))⟩,
 ⟨(some 35), .p (.pick (.s 31) (.s 34) (.c (.bool false))), none⟩,
 ⟨(some 36), .p (.mv (.s 35)), none⟩,
 ⟨(some 37), .p (.foff 5 (.s 1)), (some (36, true))⟩,
 ⟨(some 38), .p (.ld (.s 37)), (some (36, true))⟩,
 ⟨(some 39), .p (.bin .eql (.s 38) (.c (.str []))), (some (36, true))⟩,
 ⟨(some 40), .p (.pick (.s 36) (.s 39) (.c (.bool false))), none⟩,
 ⟨(some 41), .p (.mv (.s 40)), none⟩,
 ⟨(some 42), .p (.foff 6 (.s 1)), (some (41, true))⟩,
 ⟨(some 43), .p (.ldn 3 (.s 42)), (some (41, true))⟩,
 ⟨(some 44), .e (.call N.plan_none [(.s 43)] true), (some (41, true))⟩,
 ⟨(some 45), .p (.pick (.s 41) (.s 44) (.c (.bool false))), none⟩,
 ⟨(some 46), .p (.mv (.s 45)), none⟩,
 ⟨(some 47), .p (.foff 9 (.s 1)), (some (46, true))⟩,
 ⟨(some 48), .p (.ldn 7 (.s 47)), (some (46, true))⟩,
 ⟨(some 49), .e (.call N.filter_Right [(.s 48)] true), (some (46, true))⟩,
 ⟨(some 50), .p (.pick (.s 46) (.s 49) (.c (.bool false))), none⟩,
 ⟨(some 2), .p (.mv (.s 50)), none⟩] [2])
 .ret))⟩

def F.plan_write : LFunc := ⟨42, [.t 2], 
 (.seq (.reg [⟨(some 1), .e (.box 16 (.s 0)), none⟩,
 ⟨(some 2), .p (.mv (.c (.bool false))), none⟩] [1])
 (.seq (.reg [⟨(some 3), .p (.mv (.c (.fn N.plan_write_1 [] []))), none⟩] [1, 3])
 (.seq (.reg [⟨(some 4), .p (.foff 1 (.s 1)), none⟩,
 ⟨(some 5), .p (.ld (.s 4)), none⟩,
 ⟨(some 6), .p (.bin .neq (.s 5) (.c (.str []))), none⟩,
 ⟨(some 7), .p (.mv (.s 6)), none⟩,
 ⟨(some 8), .p (.foff 1 (.s 1)), (some (7, true))⟩,
 ⟨(some 9), .p (.ld (.s 8)), (some (7, true))⟩,
 ⟨(some 10), .p (.lens (.s 9)), (some (7, true))⟩,
 ⟨(some 11), .p (.bin .leq (.s 10) (.c (.int .i64 16))), (some (7, true))⟩,
 ⟨(some 12), .p (.pick (.s 7) (.s 11) (.c (.bool false))), none⟩,
 ⟨(some 13), .p (.mv (.s 12)), none⟩,
 ⟨(some 14), .p (.foff 2 (.s 1)), (some (13, true))⟩,
 ⟨(some 15), .p (.ld (.s 14)), (some (13, true))⟩,
 ⟨(some 16), .p (.bin .eql (.s 15) (.c (.str []))), (some (13, true))⟩,
 ⟨(some 17), .p (.pick (.s 13) (.s 16) (.c (.bool false))), none⟩,
 ⟨(some 18), .p (.mv (.s 17)), none⟩,
 ⟨(some 19), .p (.foff 9 (.s 1)), (some (18, true))⟩,
 ⟨(some 20), .p (.ldn 7 (.s 19)), (some (18, true))⟩,
 ⟨(some 21), .e (.call N.plan_empty [(.s 20)] true), (some (18, true))⟩,
 ⟨(some 22), .p (.pick (.s 18) (.s 21) (.c (.bool false))), none⟩,
 ⟨(some 23), .p (.mv (.s 22)), none⟩,
 ⟨(some 24), .p (.foff 3 (.s 1)), (some (23, true))⟩,
 ⟨(some 25), .p (.ld (.s 24)), (some (23, true))⟩,
 ⟨(some 26), .p (.lenl (.s 25)), (some (23, true))⟩,
 ⟨(some 27), .p (.bin .gtr (.s 26) (.c (.int .i64 0))), (some (23, true))⟩,
 ⟨(some 28), .p (.pick (.s 23) (.s 27) (.c (.bool false))), none⟩,
 ⟨(some 29), .p (.mv (.s 28)), none⟩,
 ⟨(some 30), .p (.foff 3 (.s 1)), (some (29, true))⟩,
 ⟨(some 31), .p (.ld (.s 30)), (some (29, true))⟩,
 ⟨(some 32), .p (.lenl (.s 31)), (some (29, true))⟩,
 ⟨(some 33), .p (.bin .leq (.s 32) (.c (.int .i64 8))), (some (29, true))⟩,
 ⟨(some 34), .p (.pick (.s 29) (.s 33) (.c (.bool false))), none⟩,
 ⟨(some 35), .p (.mv (.s 34)), none⟩,
 ⟨(some 36), .p (.foff 3 (.s 1)), (some (35, true))⟩,
 ⟨(some 37), .p (.ld (.s 36)), (some (35, true))⟩,
 ⟨(some 38), .p (.mv (.s 3)), (some (35, true))⟩,
 ⟨(some 39), .e (.call N.slices_ContainsFunc_api_Mut_api_Mut_ [(.s 37), (.s 38)] true), (some (35, true))⟩,
 ⟨(some 40), .p (.un .not (.s 39)), (some (35, true))⟩,
 ⟨(some 41), .p (.pick (.s 35) (.s 40) (.c (.bool false))), none⟩,
 ⟨(some 2), .p (.mv (.s 41)), none⟩] [2])
 .ret)))⟩

def F.plan_none : LFunc := ⟨6, [.t 2], 
 (.seq (.reg [⟨(some 1), .e (.box 3 (.s 0)), none⟩,
 ⟨(some 2), .p (.mv (.c (.bool false))), none⟩] [1])
 (.seq (.reg [⟨(some 3), .p (.ldn 3 (.s 1)), none⟩,
 ⟨(some 4), .p (.build [.int .i64 0, .int .i64 0, .str []] []), none⟩,
 ⟨(some 5), .p (.eqk false (.agg [0, 0, 1]) (.s 3) (.s 4)), none⟩,
 ⟨(some 2), .p (.mv (.s 5)), none⟩] [2])
 .ret))⟩

def F.plan_column : LFunc := ⟨12, [.t 4], 
 (.seq (.reg [⟨(some 4), .p (.mv (.c (.bool false))), none⟩] [0, 1])
 (.seq (.reg [⟨(some 5), .p (.mv (.s 0)), none⟩,
 ⟨(some 6), .e (.call N.plan_name [(.s 5)] true), none⟩,
 ⟨(some 7), .p (.mv (.s 6)), none⟩,
 ⟨(some 8), .p (.mv (.s 1)), (some (7, true))⟩,
 ⟨(some 9), .p (.lens (.s 8)), (some (7, true))⟩,
 ⟨(some 10), .p (.bin .leq (.s 9) (.c (.int .i64 12))), (some (7, true))⟩,
 ⟨(some 11), .p (.pick (.s 7) (.s 10) (.c (.bool false))), none⟩,
 ⟨(some 4), .p (.mv (.s 11)), none⟩] [4])
 .ret))⟩

def F.val_Right : LFunc := ⟨53, [.t 2], 
 (.seq (.reg [⟨(some 1), .e (.box 3 (.s 0)), none⟩,
 ⟨(some 2), .p (.mv (.c (.bool false))), none⟩] [1])
 (.seq (.seq (.reg [⟨(some 3), .p (.foff 0 (.s 1)), none⟩,
 ⟨(some 4), .p (.ld (.s 3)), none⟩] [1, 4])
 (.block 0 (.seq (.reg [⟨(some 6), .p (.bin .eql (.s 4) (.c (.int .i64 1))), none⟩,
 ⟨(some 5), .p (.mv (.s 6)), none⟩] [1, 4, 5])
 (.cond (.s 5) (.seq (.reg [⟨(some 7), .p (.foff 2 (.s 1)), none⟩,
 ⟨(some 8), .p (.ld (.s 7)), none⟩,
 ⟨(some 9), .p (.bin .eql (.s 8) (.c (.str []))), none⟩,
 ⟨(some 2), .p (.mv (.s 9)), none⟩] [2])
 .ret) (.seq (.reg [⟨(some 11), .p (.bin .eql (.s 4) (.c (.int .i64 4))), none⟩,
 ⟨(some 10), .p (.mv (.s 11)), none⟩] [1, 4, 10])
 (.cond (.s 10) (.seq (.reg [⟨(some 12), .p (.foff 2 (.s 1)), none⟩,
 ⟨(some 13), .p (.ld (.s 12)), none⟩,
 ⟨(some 14), .p (.bin .eql (.s 13) (.c (.str []))), none⟩,
 ⟨(some 15), .p (.mv (.s 14)), none⟩,
 ⟨(some 16), .p (.foff 1 (.s 1)), (some (15, true))⟩,
 ⟨(some 17), .p (.ld (.s 16)), (some (15, true))⟩,
 ⟨(some 18), .p (.bin .andNot (.s 17) (.c (.int .i64 1))), (some (15, true))⟩,
 ⟨(some 19), .p (.bin .eql (.s 18) (.c (.int .i64 0))), (some (15, true))⟩,
 ⟨(some 20), .p (.pick (.s 15) (.s 19) (.c (.bool false))), none⟩,
 ⟨(some 2), .p (.mv (.s 20)), none⟩] [2])
 .ret) (.seq (.reg [⟨(some 22), .p (.bin .eql (.s 4) (.c (.int .i64 5))), none⟩,
 ⟨(some 21), .p (.mv (.s 22)), none⟩] [1, 4, 21])
 (.cond (.s 21) (.seq (.reg [⟨(some 23), .p (.foff 2 (.s 1)), none⟩,
 ⟨(some 24), .p (.ld (.s 23)), none⟩,
 ⟨(some 25), .p (.bin .eql (.s 24) (.c (.str []))), none⟩,
 ⟨(some 26), .p (.mv (.s 25)), none⟩,
 ⟨(some 27), .p (.foff 1 (.s 1)), (some (26, true))⟩,
 ⟨(some 28), .p (.ld (.s 27)), (some (26, true))⟩,
 ⟨(some 29), .e (.call N.float_Right [(.s 28)] true), (some (26, true))⟩,
 ⟨(some 30), .p (.pick (.s 26) (.s 29) (.c (.bool false))), none⟩,
 ⟨(some 2), .p (.mv (.s 30)), none⟩] [2])
 .ret) (.seq (.seq (.reg [⟨(some 32), .p (.bin .eql (.s 4) (.c (.int .i64 2))), none⟩,
 ⟨(some 31), .p (.mv (.s 32)), none⟩] [1, 4, 31])
 (.cond (.s 31) .skip (.reg [⟨(some 33), .p (.bin .eql (.s 4) (.c (.int .i64 3))), none⟩,
 ⟨(some 31), .p (.mv (.s 33)), none⟩] [1, 31])))
 (.cond (.s 31) (.seq (.reg [⟨(some 34), .p (.foff 1 (.s 1)), none⟩,
 ⟨(some 35), .p (.ld (.s 34)), none⟩,
 ⟨(some 36), .p (.bin .eql (.s 35) (.c (.int .i64 0))), none⟩,
 ⟨(some 37), .p (.mv (.s 36)), none⟩,
 ⟨(some 38), .p (.foff 2 (.s 1)), (some (37, true))⟩,
 ⟨(some 39), .p (.ld (.s 38)), (some (37, true))⟩,
 ⟨(some 40), .p (.lens (.s 39)), (some (37, true))⟩,
 ⟨(some 41), .p (.bin .leq (.s 40) (.c (.int .i64 32))), (some (37, true))⟩,
 ⟨(some 42), .p (.pick (.s 37) (.s 41) (.c (.bool false))), none⟩,
 ⟨(some 43), .p (.mv (.s 42)), none⟩,
 ⟨(some 44), .p (.foff 0 (.s 1)), (some (43, true))⟩,
 ⟨(some 45), .p (.ld (.s 44)), (some (43, true))⟩,
 ⟨(some 46), .p (.bin .eql (.s 45) (.c (.int .i64 2))), (some (43, true))⟩,
 ⟨(some 47), .p (.mv (.s 46)), (some (43, true))⟩,
 ⟨(some 48), .p (.foff 2 (.s 1)), (some (47, false))⟩,
 ⟨(some 49), .p (.ld (.s 48)), (some (47, false))⟩,
 ⟨(some 50), .e (.call N.unicode_utf8_ValidString [(.s 49)] true), (some (47, false))⟩,
 ⟨(some 51), .p (.pick (.s 47) (.c (.bool true)) (.s 50)), (some (43, true))⟩,
 ⟨(some 52), .p (.pick (.s 43) (.s 51) (.c (.bool false))), none⟩,
 ⟨(some 2), .p (.mv (.s 52)), none⟩] [2])
 .ret) .skip))))))))))
 (.seq (.reg [⟨(some 2), .p (.mv (.c (.bool false))), none⟩] [2])
 .ret)))⟩

def F.joistref13_Right : LFunc := ⟨74, [.t 2], 
 (.seq (.reg [⟨(some 1), .e (.box 7 (.s 0)), none⟩,
 ⟨(some 2), .p (.mv (.c (.bool false))), none⟩] [1])
 (.seq (.seq (.reg [⟨(some 3), .p (.mv (.c (.int .i64 0))), none⟩] [1, 3])
 (.block 0 (.loop (.seq (.seq (.reg [⟨(some 4), .p (.mv (.s 3)), none⟩,
 ⟨(some 5), .p (.foff 0 (.s 1)), none⟩,
 ⟨(some 6), .p (.ld (.s 5)), none⟩,
 ⟨(some 7), .p (.lenl (.s 6)), none⟩,
 ⟨(some 8), .p (.bin .lss (.s 4) (.s 7)), none⟩] [1, 3, 8])
 (.cond (.s 8) .skip (.exit 0)))
 (.seq (.block 1 (.seq (.reg [⟨(some 11), .p (.foff 0 (.s 1)), none⟩,
 ⟨(some 12), .p (.ld (.s 11)), none⟩,
 ⟨(some 13), .p (.mv (.s 3)), none⟩,
 ⟨(some 14), .p (.iadr 1 (.s 12) (.s 13)), none⟩,
 ⟨(some 15), .p (.ld (.s 14)), none⟩,
 ⟨(some 16), .e (.call N.joistref03_Name [(.s 15)] true), none⟩,
 ⟨(some 17), .p (.un .not (.s 16)), none⟩] [1, 3, 17])
 (.cond (.s 17) (.seq (.reg [⟨(some 2), .p (.mv (.c (.bool false))), none⟩] [2])
 .ret) .skip)))
 (.reg [⟨(some 9), .p (.mv (.s 3)), none⟩,
 ⟨(some 10), .p (.bin .add (.s 9) (.c (.int .i64 1))), none⟩,
 ⟨(some 3), .p (.mv (.s 10)), none⟩] [1, 3]))) [1, 3])))
 (.seq (.reg [⟨(some 18), .p (.foff 0 (.s 1)), none⟩,
 ⟨(some 19), .p (.ld (.s 18)), none⟩,
 ⟨(some 20), .p (.lenl (.s 19)), none⟩,
 ⟨(some 21), .p (.bin .leq (.s 20) (.c (.int .i64 6))), none⟩,
 ⟨(some 22), .p (.mv (.s 21)), none⟩,
 ⟨(some 23), .p (.foff 1 (.s 1)), (some (22, true))⟩,
 ⟨(some 24), .p (.ld (.s 23)), (some (22, true))⟩,
 ⟨(some 25), .p (.lens (.s 24)), (some (22, true))⟩,
 ⟨(some 26), .p (.bin .leq (.s 25) (.c (.int .i64 12))), (some (22, true))⟩,
 ⟨(some 27), .p (.pick (.s 22) (.s 26) (.c (.bool false))), none⟩,
 ⟨(some 28), .p (.mv (.s 27)), none⟩,
 ⟨(some 29), .p (.foff 2 (.s 1)), (some (28, true))⟩,
 ⟨(some 30), .p (.ld (.s 29)), (some (28, true))⟩,
 ⟨(some 31), .p (.lens (.s 30)), (some (28, true))⟩,
 ⟨(some 32), .p (.bin .leq (.s 31) (.c (.int .i64 12))), (some (28, true))⟩,
 ⟨(some 33), .p (.pick (.s 28) (.s 32) (.c (.bool false))), none⟩,
 ⟨(some 34), .p (.mv (.s 33)), none⟩,
 ⟨(some 35), .p (.foff 3 (.s 1)), (some (34, true))⟩,
 ⟨(some 36), .p (.ld (.s 35)), (some (34, true))⟩,
 ⟨(some 37), .p (.bin .geq (.s 36) (.c (.int .i64 0))), (some (34, true))⟩,
 ⟨(some 38), .p (.pick (.s 34) (.s 37) (.c (.bool false))), none⟩,
 ⟨(some 39), .p (.mv (.s 38)), none⟩,
 ⟨(some 40), .p (.foff 3 (.s 1)), (some (39, true))⟩,
 ⟨(some 41), .p (.ld (.s 40)), (some (39, true))⟩,
 ⟨(some 42), .p (.bin .leq (.s 41) (.c (.int .i64 1099511627776))), (some (39, true))⟩,
 ⟨(some 43), .p (.pick (.s 39) (.s 42) (.c (.bool false))), none⟩,
 ⟨(some 44), .p (.mv (.s 43)), none⟩,
 ⟨(some 45), .p (.foff 4 (.s 1)), (some (44, true))⟩,
 ⟨(some 46), .p (.ld (.s 45)), (some (44, true))⟩,
 ⟨(some 47), .p (.bin .geq (.s 46) (.c (.int .i64 0))), (some (44, true))⟩,
 ⟨(some 48), .p (.pick (.s 44) (.s 47) (.c (.bool false))), none⟩,
 ⟨(some 49), .p (.mv (.s 48)), none⟩,
 ⟨(some 50), .p (.foff 4 (.s 1)), (some (49, true))⟩,
 ⟨(some 51), .p (.ld (.s 50)), (some (49, true))⟩,
 ⟨(some 52), .p (.bin .leq (.s 51) (.c (.int .i64 1099511627776))), (some (49, true))⟩,
 ⟨(some 53), .p (.pick (.s 49) (.s 52) (.c (.bool false))), none⟩,
 ⟨(some 54), .p (.mv (.s 53)), none⟩,
 ⟨(some 55), .p (.foff 5 (.s 1)), (some (54, true))⟩,
 ⟨(some 56), .p (.ld (.s 55)), (some (54, true))⟩,
 ⟨(some 57), .p (.bin .geq (.s 56) (.c (.int .i64 0))), (some (54, true))⟩,
 ⟨(some 58), .p (.pick (.s 54) (.s 57) (.c (.bool false))), none⟩,
 ⟨(some 59), .p (.mv (.s 58)), none⟩,
 ⟨(some 60), .p (.foff 5 (.s 1)), (some (59, true))⟩,
 ⟨(some 61), .p (.ld (.s 60)), (some (59, true))⟩,
 ⟨(some 62), .p (.bin .leq (.s 61) (.c (.int .i64 8))), (some (59, true))⟩,
 ⟨(some 63), .p (.pick (.s 59) (.s 62) (.c (.bool false))), none⟩,
 ⟨(some 64), .p (.mv (.s 63)), none⟩,
 ⟨(some 65), .p (.foff 6 (.s 1)), (some (64, true))⟩,
 ⟨(some 66), .p (.ld (.s 65)), (some (64, true))⟩,
 ⟨(some 67), .p (.bin .geq (.s 66) (.c (.int .i64 0))), (some (64, true))⟩,
 ⟨(some 68), .p (.pick (.s 64) (.s 67) (.c (.bool false))), none⟩,
 ⟨(some 69), .p (.mv (.s 68)), none⟩,
 ⟨(some 70), .p (.foff 6 (.s 1)), (some (69, true))⟩,
 ⟨(some 71), .p (.ld (.s 70)), (some (69, true))⟩,
 ⟨(some 72), .p (.bin .leq (.s 71) (.c (.int .i64 1000))), (some (69, true))⟩,
 ⟨(some 73), .p (.pick (.s 69) (.s 72) (.c (.bool false))), none⟩,
 ⟨(some 2), .p (.mv (.s 73)), none⟩] [2])
 .ret)))⟩

def F.joistref16_empty : LFunc := ⟨37, [.t 2], 
 (.seq (.reg [⟨(some 1), .e (.box 7 (.s 0)), none⟩,
 ⟨(some 2), .p (.mv (.c (.bool false))), none⟩] [1])
 (.seq (.reg [⟨(some 3), .p (.foff 0 (.s 1)), none⟩,
 ⟨(some 4), .p (.ld (.s 3)), none⟩,
 ⟨(some 5), .p (.lenl (.s 4)), none⟩,
 ⟨(some 6), .p (.bin .eql (.s 5) (.c (.int .i64 0))), none⟩,
 ⟨(some 7), .p (.mv (.s 6)), none⟩,
 ⟨(some 8), .p (.foff 1 (.s 1)), (some (7, true))⟩,
 ⟨(some 9), .p (.ld (.s 8)), (some (7, true))⟩,
 ⟨(some 10), .p (.bin .eql (.s 9) (.c (.str []))), (some (7, true))⟩,
 ⟨(some 11), .p (.pick (.s 7) (.s 10) (.c (.bool false))), none⟩,
 ⟨(some 12), .p (.mv (.s 11)), none⟩,
 ⟨(some 13), .p (.foff 2 (.s 1)), (some (12, true))⟩,
 ⟨(some 14), .p (.ld (.s 13)), (some (12, true))⟩,
 ⟨(some 15), .p (.bin .eql (.s 14) (.c (.str []))), (some (12, true))⟩,
 ⟨(some 16), .p (.pick (.s 12) (.s 15) (.c (.bool false))), none⟩,
 ⟨(some 17), .p (.mv (.s 16)), none⟩,
 ⟨(some 18), .p (.foff 3 (.s 1)), (some (17, true))⟩,
 ⟨(some 19), .p (.ld (.s 18)), (some (17, true))⟩,
 ⟨(some 20), .p (.bin .eql (.s 19) (.c (.int .i64 0))), (some (17, true))⟩,
 ⟨(some 21), .p (.pick (.s 17) (.s 20) (.c (.bool false))), none⟩,
 ⟨(some 22), .p (.mv (.s 21)), none⟩,
 ⟨(some 23), .p (.foff 4 (.s 1)), (some (22, true))⟩,
 ⟨(some 24), .p (.ld (.s 23)), (some (22, true))⟩,
 ⟨(some 25), .p (.bin .eql (.s 24) (.c (.int .i64 0))), (some (22, true))⟩,
 ⟨(some 26), .p (.pick (.s 22) (.s 25) (.c (.bool false))), none⟩,
 ⟨(some 27), .p (.mv (.s 26)), none⟩,
 ⟨(some 28), .p (.foff 5 (.s 1)), (some (27, true))⟩,
 ⟨(some 29), .p (.ld (.s 28)), (some (27, true))⟩,
 ⟨(some 30), .p (.bin .eql (.s 29) (.c (.int .i64 0))), (some (27, true))⟩,
 ⟨(some 31), .p (.pick (.s 27) (.s 30) (.c (.bool false))), none⟩,
 ⟨(some 32), .p (.mv (.s 31)), none⟩,
 ⟨(some 33), .p (.foff 6 (.s 1)), (some (32, true))⟩,
 ⟨(some 34), .p (.ld (.s 33)), (some (32, true))⟩,
 ⟨(some 35), .p (.bin .eql (.s 34) (.c (.int .i64 0))), (some (32, true))⟩,
 ⟨(some 36), .p (.pick (.s 32) (.s 35) (.c (.bool false))), none⟩,
 ⟨(some 2), .p (.mv (.s 36)), none⟩] [2])
 .ret))⟩

def F.joistref16_mut : LFunc := ⟨70, [.t 2], 
 (.seq (.reg [⟨(some 1), .e (.box 6 (.s 0)), none⟩,
 ⟨(some 2), .p (.mv (.c (.bool false))), none⟩] [1])
 (.seq (.seq (.reg [⟨(some 3), .p (.foff 0 (.s 1)), none⟩,
 ⟨(some 4), .p (.ld (.s 3)), none⟩] [1, 4])
 (.block 0 (.seq (.reg [⟨(some 6), .p (.bin .eql (.s 4) (.c (.int .i64 1))), none⟩,
 ⟨(some 5), .p (.mv (.s 6)), none⟩] [1, 4, 5])
 (.cond (.s 5) (.seq (.reg [⟨(some 7), .p (.foff 1 (.s 1)), none⟩,
 ⟨(some 8), .p (.ld (.s 7)), none⟩,
 ⟨(some 9), .e (.call N.joistref03_Name [(.s 8)] true), none⟩,
 ⟨(some 10), .p (.mv (.s 9)), none⟩,
 ⟨(some 11), .p (.foff 2 (.s 1)), (some (10, true))⟩,
 ⟨(some 12), .p (.ld (.s 11)), (some (10, true))⟩,
 ⟨(some 13), .p (.lens (.s 12)), (some (10, true))⟩,
 ⟨(some 14), .p (.bin .leq (.s 13) (.c (.int .i64 12))), (some (10, true))⟩,
 ⟨(some 15), .p (.pick (.s 10) (.s 14) (.c (.bool false))), none⟩,
 ⟨(some 16), .p (.mv (.s 15)), none⟩,
 ⟨(some 17), .p (.foff 3 (.s 1)), (some (16, true))⟩,
 ⟨(some 18), .p (.ldn 3 (.s 17)), (some (16, true))⟩,
 ⟨(some 19), .e (.call N.joistref02_Right [(.s 18)] true), (some (16, true))⟩,
 ⟨(some 20), .p (.pick (.s 16) (.s 19) (.c (.bool false))), none⟩,
 ⟨(some 2), .p (.mv (.s 20)), none⟩] [2])
 .ret) (.seq (.reg [⟨(some 22), .p (.bin .eql (.s 4) (.c (.int .i64 2))), none⟩,
 ⟨(some 21), .p (.mv (.s 22)), none⟩] [1, 4, 21])
 (.cond (.s 21) (.seq (.reg [⟨(some 23), .p (.foff 1 (.s 1)), none⟩,
 ⟨(some 24), .p (.ld (.s 23)), none⟩,
 ⟨(some 25), .e (.call N.joistref03_Name [(.s 24)] true), none⟩,
 ⟨(some 26), .p (.mv (.s 25)), none⟩,
 ⟨(some 27), .p (.foff 2 (.s 1)), (some (26, true))⟩,
 ⟨(some 28), .p (.ld (.s 27)), (some (26, true))⟩,
 ⟨(some 29), .p (.lens (.s 28)), (some (26, true))⟩,
 ⟨(some 30), .p (.bin .leq (.s 29) (.c (.int .i64 12))), (some (26, true))⟩,
 ⟨(some 31), .p (.pick (.s 26) (.s 30) (.c (.bool false))), none⟩,
 ⟨(some 32), .p (.mv (.s 31)), none⟩,
 ⟨(some 33), .p (.foff 3 (.s 1)), (some (32, true))⟩,
 ⟨(some 34), .p (.ldn 3 (.s 33)), (some (32, true))⟩,
 ⟨(some 35), .p (.build [.int .i64 0, .int .i64 0, .str []] []), (some (32, true))⟩,
 ⟨(some 36), .p (.eqk false (.agg [0, 0, 1]) (.s 34) (.s 35)), (some (32, true))⟩,
 ⟨(some 37), .p (.pick (.s 32) (.s 36) (.c (.bool false))), none⟩,
 ⟨(some 2), .p (.mv (.s 37)), none⟩] [2])
 .ret) (.seq (.reg [⟨(some 39), .p (.bin .eql (.s 4) (.c (.int .i64 3))), none⟩,
 ⟨(some 38), .p (.mv (.s 39)), none⟩] [1, 4, 38])
 (.cond (.s 38) (.seq (.reg [⟨(some 40), .p (.foff 1 (.s 1)), none⟩,
 ⟨(some 41), .p (.ld (.s 40)), none⟩,
 ⟨(some 42), .e (.call N.joistref03_Name [(.s 41)] true), none⟩,
 ⟨(some 43), .p (.mv (.s 42)), none⟩,
 ⟨(some 44), .p (.foff 2 (.s 1)), (some (43, true))⟩,
 ⟨(some 45), .p (.ld (.s 44)), (some (43, true))⟩,
 ⟨(some 46), .p (.bin .eql (.s 45) (.c (.str []))), (some (43, true))⟩,
 ⟨(some 47), .p (.pick (.s 43) (.s 46) (.c (.bool false))), none⟩,
 ⟨(some 48), .p (.mv (.s 47)), none⟩,
 ⟨(some 49), .p (.foff 3 (.s 1)), (some (48, true))⟩,
 ⟨(some 50), .p (.ldn 3 (.s 49)), (some (48, true))⟩,
 ⟨(some 51), .p (.build [.int .i64 0, .int .i64 0, .str []] []), (some (48, true))⟩,
 ⟨(some 52), .p (.eqk false (.agg [0, 0, 1]) (.s 50) (.s 51)), (some (48, true))⟩,
 ⟨(some 53), .p (.pick (.s 48) (.s 52) (.c (.bool false))), none⟩,
 ⟨(some 2), .p (.mv (.s 53)), none⟩] [2])
 .ret) (.seq (.reg [⟨(some 55), .p (.bin .eql (.s 4) (.c (.int .i64 4))), none⟩,
 ⟨(some 54), .p (.mv (.s 55)), none⟩] [1, 54])
 (.cond (.s 54) (.seq (.reg [⟨(some 56), .p (.foff 1 (.s 1)), none⟩,
 ⟨(some 57), .p (.ld (.s 56)), none⟩,
 ⟨(some 58), .p (.bin .eql (.s 57) (.c (.str []))), none⟩,
 ⟨(some 59), .p (.mv (.s 58)), none⟩,
 ⟨(some 60), .p (.foff 2 (.s 1)), (some (59, true))⟩,
 ⟨(some 61), .p (.ld (.s 60)), (some (59, true))⟩,
 ⟨(some 62), .p (.bin .eql (.s 61) (.c (.str []))), (some (59, true))⟩,
 ⟨(some 63), .p (.pick (.s 59) (.s 62) (.c (.bool false))), none⟩,
 ⟨(some 64), .p (.mv (.s 63)), none⟩,
 ⟨(some 65), .p (.foff 3 (.s 1)), (some (64, true))⟩,
 ⟨(some 66), .p (.ldn 3 (.s 65)), (some (64, true))⟩,
 ⟨(some 67), .p (.build [.int .i64 0, .int .i64 0, .str []] []), (some (64, true))⟩,
 ⟨(some 68), .p (.eqk false (.agg [0, 0, 1]) (.s 66) (.s 67)), (some (64, true))⟩,
 ⟨(some 69), .p (.pick (.s 64) (.s 68) (.c (.bool false))), none⟩,
 ⟨(some 2), .p (.mv (.s 69)), none⟩] [2])
 .ret) .skip))))))))))
 (.seq (.reg [⟨(some 2), .p (.mv (.c (.bool false))), none⟩] [2])
 .ret)))⟩

def F.joistref16_column : LFunc := ⟨25, [.t 8], 
 (.seq (.reg [⟨(some 4), .e (.box 10 (.s 0)), none⟩,
 ⟨(some 7), .e (.box 3 (.s 3)), none⟩,
 ⟨(some 8), .p (.mv (.c (.int .i64 0))), none⟩] [1, 2, 4, 7])
 (.seq (.reg [⟨(some 10), .p (.ldn 10 (.s 4)), none⟩,
 ⟨(some 11), .p (.mv (.s 1)), none⟩,
 ⟨(some 12), .p (.mv (.s 2)), none⟩,
 ⟨(some 13), .e (.call N.joistref16_Column [(.s 10), (.s 11), (.s 12)] true), none⟩,
 ⟨(some 9), .p (.mv (.s 13)), none⟩] [7, 9])
 (.seq (.seq (.reg [⟨(some 14), .p (.mv (.s 9)), none⟩,
 ⟨(some 15), .p (.bin .eql (.s 14) (.c (.int .i64 0))), none⟩] [7, 9, 15])
 (.cond (.s 15) (.seq (.reg [⟨(some 8), .p (.mv (.c (.int .i64 12))), none⟩] [8])
 .ret) .skip))
 (.seq (.seq (.reg [⟨(some 16), .p (.foff 0 (.s 7)), none⟩,
 ⟨(some 17), .p (.ld (.s 16)), none⟩,
 ⟨(some 18), .p (.bin .neq (.s 17) (.c (.int .i64 0))), none⟩,
 ⟨(some 19), .p (.mv (.s 18)), none⟩,
 ⟨(some 20), .p (.foff 0 (.s 7)), (some (19, true))⟩,
 ⟨(some 21), .p (.ld (.s 20)), (some (19, true))⟩,
 ⟨(some 22), .p (.mv (.s 9)), (some (19, true))⟩,
 ⟨(some 23), .p (.bin .neq (.s 21) (.s 22)), (some (19, true))⟩,
 ⟨(some 24), .p (.pick (.s 19) (.s 23) (.c (.bool false))), none⟩] [24])
 (.cond (.s 24) (.seq (.reg [⟨(some 8), .p (.mv (.c (.int .i64 14))), none⟩] [8])
 .ret) .skip))
 (.seq (.reg [⟨(some 8), .p (.mv (.c (.int .i64 0))), none⟩] [8])
 .ret)))))⟩

def F.slices_Clone_api_Mut_api_Mut_ : LFunc := ⟨8, [.t 2], 
 (.seq (.reg [⟨(some 2), .p (.mv (.c (.psl []))), none⟩] [0])
 (.seq (.seq (.reg [⟨(some 3), .p (.mv (.s 0)), none⟩,
 ⟨(some 4), .e (.isnil false (.s 3)), none⟩] [0, 4])
 (.cond (.s 4) (.seq (.reg [⟨(some 2), .p (.mv (.c (.psl []))), none⟩] [2])
 .ret) .skip))
 (.seq (.reg [⟨(some 5), .e (.bsl 6 0 [.int .i64 0, .str [], .str [], .int .i64 0, .int .i64 0, .str []] []), none⟩,
 ⟨(some 6), .p (.mv (.s 0)), none⟩,
 ⟨(some 7), .e (.app 6 72 (.s 5) (.s 6)), none⟩,
 ⟨(some 2), .p (.mv (.s 7)), none⟩] [2])
 .ret)))⟩

def F.slices_IndexFunc_api_Cell_api_Cell_ : LFunc := ⟨19, [.t 4], 
 (.seq (.reg [⟨(some 4), .p (.mv (.c (.int .i64 0))), none⟩] [0, 1])
 (.seq (.seq (.reg [⟨(some 6), .p (.mv (.s 0)), none⟩,
 ⟨(some 7), .p (.lenl (.s 6)), none⟩,
 ⟨(some 8), .p (.mv (.c (.int .i64 0))), none⟩] [0, 1, 7, 8])
 (.block 0 (.loop (.seq (.reg [⟨(some 9), .p (.bin .lss (.s 8) (.s 7)), none⟩] [0, 1, 7, 8, 9])
 (.seq (.cond (.s 9) .skip (.exit 0))
 (.seq (.block 1 (.seq (.reg [⟨(some 10), .p (.mv (.s 8)), none⟩,
 ⟨(some 5), .p (.mv (.s 10)), none⟩] [0, 1, 5, 7, 8])
 (.seq (.reg [⟨(some 11), .p (.mv (.s 1)), none⟩,
 ⟨(some 12), .p (.mv (.s 0)), none⟩,
 ⟨(some 13), .p (.mv (.s 5)), none⟩,
 ⟨(some 14), .p (.iadr 8 (.s 12) (.s 13)), none⟩,
 ⟨(some 15), .p (.ldn 8 (.s 14)), none⟩,
 ⟨(some 16), .e (.callv (.s 11) [(.s 15)] true), none⟩] [0, 1, 5, 7, 8, 16])
 (.cond (.s 16) (.seq (.reg [⟨(some 17), .p (.mv (.s 5)), none⟩,
 ⟨(some 4), .p (.mv (.s 17)), none⟩] [4])
 .ret) .skip))))
 (.reg [⟨(some 18), .p (.bin .add (.s 8) (.c (.int .i64 1))), none⟩,
 ⟨(some 8), .p (.mv (.s 18)), none⟩] [0, 1, 7, 8])))) [0, 1, 7, 8])))
 (.seq (.reg [⟨(some 4), .p (.mv (.c (.int .i64 (-1)))), none⟩] [4])
 .ret)))⟩

def F.schema_groups : LFunc := ⟨26, [.t 4], 
 (.seq (.reg [⟨(some 2), .e (.box 5 (.s 0)), none⟩,
 ⟨(some 4), .p (.mv (.c (.psl []))), none⟩] [1, 2])
 (.seq (.reg [⟨(some 5), .e (.vnil 1), none⟩] [1, 2, 5])
 (.seq (.seq (.reg [⟨(some 8), .p (.foff 3 (.s 2)), none⟩,
 ⟨(some 9), .p (.ld (.s 8)), none⟩,
 ⟨(some 10), .p (.lenl (.s 9)), none⟩,
 ⟨(some 11), .p (.mv (.c (.int .i64 0))), none⟩] [1, 5, 9, 10, 11])
 (.block 0 (.loop (.seq (.reg [⟨(some 12), .p (.bin .lss (.s 11) (.s 10)), none⟩] [1, 5, 9, 10, 11, 12])
 (.seq (.cond (.s 12) .skip (.exit 0))
 (.seq (.block 1 (.seq (.reg [⟨(some 13), .p (.iadr 2 (.s 9) (.s 11)), none⟩,
 ⟨(some 14), .p (.ldn 2 (.s 13)), none⟩,
 ⟨(some 7), .e (.alloc [.int .i64 0, .int .i64 0]), none⟩,
 ⟨none, .e (.stn 2 (.s 7) (.s 14)), none⟩] [1, 5, 7, 9, 10, 11])
 (.seq (.reg [⟨(some 15), .p (.mv (.s 1)), none⟩,
 ⟨(some 16), .p (.foff 1 (.s 7)), none⟩,
 ⟨(some 17), .p (.ld (.s 16)), none⟩,
 ⟨(some 18), .e (.callv (.s 15) [(.s 17)] true), none⟩] [1, 5, 7, 9, 10, 11, 18])
 (.cond (.s 18) (.reg [⟨(some 19), .p (.mv (.s 5)), none⟩,
 ⟨(some 20), .p (.foff 0 (.s 7)), none⟩,
 ⟨(some 21), .p (.ld (.s 20)), none⟩,
 ⟨(some 22), .e (.bsl 1 1 [.int .i64 0] [(0, 1, (.s 21))]), none⟩,
 ⟨(some 23), .e (.app 1 8 (.s 19) (.s 22)), none⟩,
 ⟨(some 5), .p (.mv (.s 23)), none⟩] [1, 5, 9, 10, 11]) .skip))))
 (.reg [⟨(some 24), .p (.bin .add (.s 11) (.c (.int .i64 1))), none⟩,
 ⟨(some 11), .p (.mv (.s 24)), none⟩] [1, 5, 9, 10, 11])))) [1, 5, 9, 10, 11])))
 (.seq (.reg [⟨(some 25), .p (.mv (.s 5)), none⟩,
 ⟨(some 4), .p (.mv (.s 25)), none⟩] [4])
 .ret))))⟩

def F.schema_Written_1 : LFunc := ⟨9, [.t 2], 
 (.seq (.reg [⟨(some 2), .p (.mv (.c (.bool false))), none⟩] [0])
 (.seq (.reg [⟨(some 3), .p (.mv (.s 0)), none⟩,
 ⟨(some 4), .p (.bin .eql (.s 3) (.c (.int .i64 2))), none⟩,
 ⟨(some 5), .p (.mv (.s 4)), none⟩,
 ⟨(some 6), .p (.mv (.s 0)), (some (5, false))⟩,
 ⟨(some 7), .p (.bin .eql (.s 6) (.c (.int .i64 3))), (some (5, false))⟩,
 ⟨(some 8), .p (.pick (.s 5) (.c (.bool true)) (.s 7)), none⟩,
 ⟨(some 2), .p (.mv (.s 8)), none⟩] [2])
 .ret))⟩

end Go.Ab.S2
