import Derived.Test.YtghiionknnpajaaGreatDoorAb12
set_option linter.unusedVariables false
set_option linter.unusedSimpArgs false
namespace Go.Ab.S2
open Go.Ab

abbrev N.main_main : FuncId := 0
abbrev N.gosem_cut : FuncId := 1
abbrev N.gosem_cut_init : FuncId := 2
abbrev N.joistlaw16_PlanGoes : FuncId := 3
abbrev N.joistlaw16_PlanCells : FuncId := 4
abbrev N.joistlaw16_PlanSeen : FuncId := 5
abbrev N.joistlaw16_PlanSees : FuncId := 6
abbrev N.joistlaw16_PlanWhere : FuncId := 7
abbrev N.joistlaw16_PlanChecks : FuncId := 8
abbrev N.joistlaw16_alive : FuncId := 9
abbrev N.joistref00_LongSchema : FuncId := 10
abbrev N.joistref00_LongCells : FuncId := 11
abbrev N.joistref00_CopyCells : FuncId := 12
abbrev N.plan_Layouts : FuncId := 13
abbrev N.joistref16_Layouts : FuncId := 14
abbrev N.joistref00_SameInts : FuncId := 15
abbrev N.plan_Targets : FuncId := 16
abbrev N.joistref16_Targets : FuncId := 17
abbrev N.joistref00_SameFamily : FuncId := 18
abbrev N.joistlaw16_long : FuncId := 19
abbrev N.plan_Cells : FuncId := 20
abbrev N.joistref03_Right : FuncId := 21
abbrev N.joistref03_Order : FuncId := 22
abbrev N.joistref16_Family : FuncId := 23
abbrev N.joistref16_Column : FuncId := 24
abbrev N.joistref06_Seen : FuncId := 25
abbrev N.plan_Visible : FuncId := 26
abbrev N.plan_Check : FuncId := 27
abbrev N.joistref14_Find : FuncId := 28
abbrev N.joistref14_Read : FuncId := 29
abbrev N.joistref00_Texts : FuncId := 30
abbrev N.joistref14_Right : FuncId := 31
abbrev N.joistlaw16_copied : FuncId := 32
abbrev N.joistref00_CopySchema : FuncId := 33
abbrev N.joistref16_Cells : FuncId := 34
abbrev N.joistref16_Visible : FuncId := 35
abbrev N.plan_Formed : FuncId := 36
abbrev N.joistref16_Formed : FuncId := 37
abbrev N.joistref16_Check : FuncId := 38
abbrev N.joistref00_SameCells : FuncId := 39
abbrev N.joistref00_SameTexts : FuncId := 40
abbrev N.joistlaw16_same : FuncId := 41
abbrev N.plan_Clone : FuncId := 42
abbrev N.joistref00_SameSchema : FuncId := 43
abbrev N.joistlaw16_one : FuncId := 44
abbrev N.slices_ContainsFunc_api_Cell_api_Cell_ : FuncId := 45
abbrev N.plan_Layouts_1 : FuncId := 46
abbrev N.slices_Clone_api_Layout_api_Layout_ : FuncId := 47
abbrev N.joistref00_CopyFamily : FuncId := 48
abbrev N.slices_IndexFunc_api_Layouted_api_Layouted_ : FuncId := 49
abbrev N.plan_Targets_1 : FuncId := 50
abbrev N.schema_Written : FuncId := 51
abbrev N.schema_Gone : FuncId := 52
abbrev N.joistref14_Groups : FuncId := 53
abbrev N.joistref14_Gone : FuncId := 54
abbrev N.joistref00_LongRequest : FuncId := 55
abbrev N.plan_maker_do : FuncId := 56
abbrev N.joistref03_Name : FuncId := 57
abbrev N.joistref02_Right : FuncId := 58
abbrev N.joistref03_cmp : FuncId := 59
abbrev N.joistref14_Column : FuncId := 60
abbrev N.joistref06_Sort : FuncId := 61
abbrev N.joistref06_Lives : FuncId := 62
abbrev N.schema_Read : FuncId := 63
abbrev N.slices_Contains_string_string_ : FuncId := 64
abbrev N.plan_quals : FuncId := 65
abbrev N.filter_Clone : FuncId := 66
abbrev N.schema_Right : FuncId := 67
abbrev N.plan_first_string : FuncId := 68
abbrev N.plan_view_named : FuncId := 69
abbrev N.plan_view_value : FuncId := 70
abbrev N.plan_first_apiMut : FuncId := 71
abbrev N.plan_view_mut : FuncId := 72
abbrev N.joistref14_Family : FuncId := 73
abbrev N.joistref16_add : FuncId := 74
abbrev N.plan_read : FuncId := 75
abbrev N.plan_write : FuncId := 76
abbrev N.plan_none : FuncId := 77
abbrev N.plan_column : FuncId := 78
abbrev N.val_Right : FuncId := 79
abbrev N.joistref13_Right : FuncId := 80
abbrev N.joistref16_empty : FuncId := 81
abbrev N.joistref16_mut : FuncId := 82
abbrev N.joistref16_column : FuncId := 83
abbrev N.slices_Clone_api_Mut_api_Mut_ : FuncId := 84
abbrev N.slices_IndexFunc_api_Cell_api_Cell_ : FuncId := 85
abbrev N.schema_groups : FuncId := 86
abbrev N.schema_Written_1 : FuncId := 87
abbrev N.schema_Gone_1 : FuncId := 88
abbrev N.plan_maker_add : FuncId := 89
abbrev N.joistref02_Utf8 : FuncId := 90
abbrev N.joistref01_Right : FuncId := 91
abbrev N.slices_IndexFunc_api_Layout_api_Layout_ : FuncId := 92
abbrev N.schema_Read_1 : FuncId := 93
abbrev N.slices_Index_string_string_ : FuncId := 94
abbrev N.slices_Sort_string_string_ : FuncId := 95
abbrev N.slices_Clone_string_string_ : FuncId := 96
abbrev N.schema_Right_1 : FuncId := 97
abbrev N.schema_family : FuncId := 98
abbrev N.schema_within : FuncId := 99
abbrev N.slices_ContainsFunc_api_Family_api_Family_ : FuncId := 100
abbrev N.schema_once_string : FuncId := 101
abbrev N.schema_Right_2 : FuncId := 102
abbrev N.plan_view_family : FuncId := 103
abbrev N.schema_Column : FuncId := 104
abbrev N.filter_Right : FuncId := 105
abbrev N.plan_write_1 : FuncId := 106
abbrev N.plan_mut : FuncId := 107
abbrev N.plan_empty : FuncId := 108
abbrev N.slices_ContainsFunc_api_Mut_api_Mut_ : FuncId := 109
abbrev N.plan_name : FuncId := 110
abbrev N.float_Right : FuncId := 111
abbrev N.unicode_utf8_ValidString : FuncId := 112
abbrev N.slices_DeleteFunc_api_Cell_api_Cell_ : FuncId := 113
abbrev N.plan_maker_add_1 : FuncId := 114
abbrev N.plan_needless : FuncId := 115
abbrev N.joistref01_size : FuncId := 116
abbrev N.slices_pdqsortOrdered_string : FuncId := 117
abbrev N.math_bits_Len : FuncId := 118
abbrev N.schema_name : FuncId := 119
abbrev N.schema_layouts : FuncId := 120
abbrev N.schema_cols : FuncId := 121
abbrev N.slices_IndexFunc_api_Family_api_Family_ : FuncId := 122
abbrev N.schema_Find : FuncId := 123
abbrev N.slices_IndexFunc_api_Column_api_Column_ : FuncId := 124
abbrev N.schema_Column_1 : FuncId := 125
abbrev N.slices_ContainsFunc_string_string_ : FuncId := 126
abbrev N.filter_Right_1 : FuncId := 127
abbrev N.filter_name : FuncId := 128
abbrev N.filter_within : FuncId := 129
abbrev N.slices_IndexFunc_api_Mut_api_Mut_ : FuncId := 130
abbrev N.plan_name_1 : FuncId := 131
abbrev N.strings_ContainsFunc : FuncId := 132
abbrev N.float_bits_right : FuncId := 133
abbrev N.unicode_utf8_word_string : FuncId := 134
abbrev N.codec_Order : FuncId := 135
abbrev N.slices_insertionSortOrdered_string : FuncId := 136
abbrev N.slices_heapSortOrdered_string : FuncId := 137
abbrev N.slices_breakPatternsOrdered_string : FuncId := 138
abbrev N.slices_choosePivotOrdered_string : FuncId := 139
abbrev N.slices_reverseRangeOrdered_string : FuncId := 140
abbrev N.slices_partialInsertionSortOrdered_string : FuncId := 141
abbrev N.cmp_Less_string : FuncId := 142
abbrev N.slices_partitionEqualOrdered_string : FuncId := 143
abbrev N.slices_partitionOrdered_string : FuncId := 144
abbrev N.math_bits_Len32 : FuncId := 145
abbrev N.math_bits_Len64 : FuncId := 146
abbrev N.schema_name_1 : FuncId := 147
abbrev N.schema_state : FuncId := 148
abbrev N.schema_once_int : FuncId := 149
abbrev N.schema_layouts_1 : FuncId := 150
abbrev N.schema_cols_1 : FuncId := 151
abbrev N.slices_ContainsFunc_api_Column_api_Column_ : FuncId := 152
abbrev N.schema_once_string_2 : FuncId := 153
abbrev N.schema_cols_2 : FuncId := 154
abbrev N.schema_Find_1 : FuncId := 155
abbrev N.schema_clone : FuncId := 156
abbrev N.slices_IndexFunc_string_string_ : FuncId := 157
abbrev N.filter_name_1 : FuncId := 158
abbrev N.strings_IndexFunc : FuncId := 159
abbrev N.cmp_Or_int : FuncId := 160
abbrev N.strings_Compare : FuncId := 161
abbrev N.cmp_Compare_int : FuncId := 162
abbrev N.codec_whole : FuncId := 163
abbrev N.slices_siftDownOrdered_string : FuncId := 164
abbrev N.slices_nextPowerOfTwo : FuncId := 165
abbrev N.slices_xorshift_Next : FuncId := 166
abbrev N.slices_medianAdjacentOrdered_string : FuncId := 167
abbrev N.slices_medianOrdered_string : FuncId := 168
abbrev N.cmp_isNaN_string : FuncId := 169
abbrev N.slices_Clone_api_Column_api_Column_ : FuncId := 170
abbrev N.strings_indexFunc : FuncId := 171
abbrev N.internal_bytealg_CompareString : FuncId := 172
abbrev N.cmp_isNaN_int : FuncId := 173
abbrev N.slices_order2Ordered_string : FuncId := 174
abbrev N.internal_bytealg_abigen_runtime_cmpstring : FuncId := 175
abbrev N.runtime_boundsError_Error : FuncId := 176
abbrev N.runtime_boundsError_RuntimeError : FuncId := 177
abbrev N.runtime_errorString_Error : FuncId := 178
abbrev N.runtime_errorString_RuntimeError : FuncId := 179
abbrev N.runtime_plainError_Error : FuncId := 180
abbrev N.runtime_plainError_RuntimeError : FuncId := 181
abbrev N.runtime_errorAddressString_Error : FuncId := 182
abbrev N.runtime_errorAddressString_RuntimeError : FuncId := 183
abbrev N.runtime_TypeAssertionError_Error : FuncId := 184
abbrev N.runtime_TypeAssertionError_RuntimeError : FuncId := 185
abbrev N.runtime_PanicNilError_Error : FuncId := 186
abbrev N.runtime_PanicNilError_RuntimeError : FuncId := 187
abbrev N.internal_abi_Type_Align : FuncId := 188
abbrev N.internal_runtime_maps_unhashableTypeError_Error : FuncId := 189
abbrev N.internal_runtime_maps_unhashableTypeError_RuntimeError : FuncId := 190
abbrev N.api_Errno_Error : FuncId := 191
abbrev N.float_bits_negative : FuncId := 192
abbrev N.internal_abi_Kind_String : FuncId := 193
abbrev N.var_s_door_gosem_cut_vars_holds_initialisers_alone_see_the_manifest_s_row_cutvarsword_look_11_test_files_too : FuncId := 194
abbrev N.var_s_door_the_look_of_gosem_cut_vars_went_over_the_folder_that_the_caller_named_as_the_repository_s_root_look_11 : FuncId := 195
abbrev N.var_s_door_unicode_utf8_acceptRanges_is_laid_by_its_own_initialiser_plain_data_look_11 : FuncId := 196
abbrev N.var_s_door_unicode_utf8_first_is_laid_by_its_text_alone_pinned_1 : FuncId := 197
abbrev N.gosem_cut_vars : FuncId := 198

def F.joistlaw16_PlanSeen : LFunc := ⟨150, [.t 6], 
 (.seq (.reg [⟨(some 3), .e (.box 10 (.s 0)), none⟩,
 ⟨(some 4), .e (.box 16 (.s 1)), none⟩,
 ⟨(some 6), .p (.mv (.c (.bool false))), none⟩] [2, 3, 4])
 (.seq (.seq (.reg [⟨(some 19), .e (.call N.joistlaw16_alive [] true), none⟩,
 ⟨(some 20), .p (.un .not (.s 19)), none⟩] [2, 3, 4, 20])
 (.cond (.s 20) (.seq (.reg [⟨(some 6), .p (.mv (.c (.bool false))), none⟩] [6])
 .ret) .skip))
 (.seq (.seq (.reg [⟨(some 21), .p (.ldn 10 (.s 3)), none⟩,
 ⟨(some 22), .p (.ldn 16 (.s 4)), none⟩,
 ⟨(some 23), .e (.call N.joistlaw16_long [(.s 21), (.s 22)] true), none⟩,
 ⟨(some 24), .p (.mv (.s 23)), none⟩,
 ⟨(some 25), .p (.mv (.s 2)), (some (24, false))⟩,
 ⟨(some 26), .e (.call N.joistref00_LongCells [(.s 25), (.c (.int .i64 40))] true), (some (24, false))⟩,
 ⟨(some 27), .p (.pick (.s 24) (.c (.bool true)) (.s 26)), none⟩] [2, 3, 4, 27])
 (.cond (.s 27) (.seq (.reg [⟨(some 6), .p (.mv (.c (.bool true))), none⟩] [6])
 .ret) .skip))
 (.seq (.reg [⟨(some 29), .p (.ldn 10 (.s 3)), none⟩,
 ⟨(some 30), .p (.ldn 16 (.s 4)), none⟩,
 ⟨(some 31), .e (.call N.plan_Cells [(.s 29), (.s 30), (.c (.int .i64 1073741824))] true), none⟩,
 ⟨(some 28), .p (.mv (.s 31)), none⟩,
 ⟨(some 32), .p (.ext (.s 28) 0), none⟩,
 ⟨(some 33), .p (.ext (.s 28) 1), none⟩,
 ⟨(some 7), .p (.mv (.s 32)), none⟩,
 ⟨(some 8), .p (.mv (.s 33)), none⟩] [2, 3, 4, 7, 8])
 (.seq (.seq (.reg [⟨(some 34), .p (.mv (.s 8)), none⟩,
 ⟨(some 35), .p (.bin .neq (.s 34) (.c (.int .i64 0))), none⟩] [2, 3, 4, 7, 35])
 (.cond (.s 35) (.seq (.reg [⟨(some 6), .p (.mv (.c (.bool true))), none⟩] [6])
 .ret) .skip))
 (.seq (.reg [⟨(some 36), .e (.bsl 8 0 [.str [], .str [], .str [], .int .i64 0, .int .i64 0, .int .i64 0, .int .i64 0, .str []] []), none⟩,
 ⟨(some 9), .p (.mv (.s 36)), none⟩] [2, 3, 4, 7, 9])
 (.seq (.seq (.reg [⟨(some 10), .p (.mv (.c (.int .i64 0))), none⟩] [2, 3, 4, 7, 9, 10])
 (.block 0 (.loop (.seq (.seq (.reg [⟨(some 37), .p (.mv (.s 10)), none⟩,
 ⟨(some 38), .p (.mv (.s 2)), none⟩,
 ⟨(some 39), .p (.lenl (.s 38)), none⟩,
 ⟨(some 40), .p (.bin .lss (.s 37) (.s 39)), none⟩] [2, 3, 4, 7, 9, 10, 40])
 (.cond (.s 40) .skip (.exit 0)))
 (.seq (.block 1 (.seq (.seq (.reg [⟨(some 43), .p (.mv (.s 2)), none⟩,
 ⟨(some 44), .p (.mv (.s 10)), none⟩,
 ⟨(some 45), .p (.iadr 8 (.s 43) (.s 44)), none⟩,
 ⟨(some 46), .p (.foff 3 (.s 45)), none⟩,
 ⟨(some 47), .p (.ld (.s 46)), none⟩,
 ⟨(some 48), .p (.bin .geq (.s 47) (.c (.int .i64 536870912))), none⟩] [2, 3, 4, 7, 9, 10, 48])
 (.cond (.s 48) (.seq (.reg [⟨(some 6), .p (.mv (.c (.bool true))), none⟩] [6])
 .ret) .skip))
 (.seq (.regD [⟨(some 49), .p (.mv (.s 2)), none⟩,
 ⟨(some 50), .p (.mv (.s 10)), none⟩,
 ⟨(some 51), .p (.iadr 8 (.s 49) (.s 50)), none⟩,
 ⟨(some 52), .p (.foff 0 (.s 51)), none⟩,
 ⟨(some 53), .p (.ld (.s 52)), none⟩,
 ⟨(some 54), .p (.foff 1 (.s 4)), none⟩,
 ⟨(some 55), .p (.ld (.s 54)), none⟩,
 ⟨(some 56), .p (.bin .eql (.s 53) (.s 55)), none⟩] [0, 1, 2, 3, 4, 5, 6, 7] [2, 3, 4, 7, 9, 10, 56])
 (.cond (.s 56) (.reg [⟨(some 57), .p (.mv (.s 9)), none⟩,
 ⟨(some 58), .p (.mv (.s 2)), none⟩,
 ⟨(some 59), .p (.mv (.s 10)), none⟩,
 ⟨(some 60), .p (.iadr 8 (.s 58) (.s 59)), none⟩,
 ⟨(some 61), .p (.ldn 8 (.s 60)), none⟩,
 ⟨(some 62), .e (.bsl 8 1 [.str [], .str [], .str [], .int .i64 0, .int .i64 0, .int .i64 0, .int .i64 0, .str []] [(0, 8, (.s 61))]), none⟩,
 ⟨(some 63), .e (.app 8 96 (.s 57) (.s 62)), none⟩,
 ⟨(some 9), .p (.mv (.s 63)), none⟩] [2, 3, 4, 7, 9, 10]) .skip))))
 (.reg [⟨(some 41), .p (.mv (.s 10)), none⟩,
 ⟨(some 42), .p (.bin .add (.s 41) (.c (.int .i64 1))), none⟩,
 ⟨(some 10), .p (.mv (.s 42)), none⟩] [2, 3, 4, 7, 9, 10]))) [2, 3, 4, 7, 9, 10])))
 (.seq (.reg [⟨(some 64), .p (.mv (.s 9)), none⟩,
 ⟨(some 65), .e (.call N.joistref00_CopyCells [(.s 64)] true), none⟩,
 ⟨(some 11), .p (.mv (.s 65)), none⟩] [3, 4, 7, 9, 11])
 (.seq (.seq (.reg [⟨(some 12), .p (.mv (.c (.int .i64 0))), none⟩] [3, 4, 7, 9, 11, 12])
 (.block 2 (.loop (.seq (.seq (.reg [⟨(some 66), .p (.mv (.s 12)), none⟩,
 ⟨(some 67), .p (.foff 3 (.s 4)), none⟩,
 ⟨(some 68), .p (.ld (.s 67)), none⟩,
 ⟨(some 69), .p (.lenl (.s 68)), none⟩,
 ⟨(some 70), .p (.bin .lss (.s 66) (.s 69)), none⟩] [3, 4, 7, 9, 11, 12, 70])
 (.cond (.s 70) .skip (.exit 2)))
 (.seq (.block 3 (.seq (.reg [⟨(some 73), .p (.ldn 16 (.s 4)), none⟩,
 ⟨(some 13), .e (.alloc [.int .i64 0, .str [], .str [], .psl [], .str [], .str [], .int .i64 0, .int .i64 0, .str [], .psl [], .str [], .str [], .int .i64 0, .int .i64 0, .int .i64 0, .int .i64 0]), none⟩,
 ⟨none, .e (.stn 16 (.s 13) (.s 73)), none⟩] [3, 4, 7, 9, 11, 12, 13])
 (.seq (.reg [⟨(some 74), .p (.foff 3 (.s 4)), none⟩,
 ⟨(some 75), .p (.ld (.s 74)), none⟩,
 ⟨(some 76), .p (.mv (.s 12)), none⟩,
 ⟨(some 77), .p (.mv (.s 12)), none⟩,
 ⟨(some 78), .p (.bin .add (.s 77) (.c (.int .i64 1))), none⟩,
 ⟨(some 79), .p (.slcl 6 (.s 75) (some (.s 76)) (some (.s 78)) none), none⟩,
 ⟨(some 80), .p (.foff 3 (.s 13)), none⟩,
 ⟨none, .e (.st (.s 80) (.s 79)), none⟩] [3, 4, 7, 9, 11, 12, 13])
 (.seq (.reg [⟨(some 82), .p (.ldn 10 (.s 3)), none⟩,
 ⟨(some 83), .p (.ldn 16 (.s 13)), none⟩,
 ⟨(some 84), .p (.mv (.s 12)), none⟩,
 ⟨(some 85), .p (.bin .add (.s 84) (.c (.int .i64 1))), none⟩,
 ⟨(some 86), .p (.bin .mul (.c (.int .i64 10)) (.s 85)), none⟩,
 ⟨(some 87), .p (.bin .add (.c (.int .i64 536870912)) (.s 86)), none⟩,
 ⟨(some 88), .e (.call N.plan_Cells [(.s 82), (.s 83), (.s 87)] true), none⟩,
 ⟨(some 81), .p (.mv (.s 88)), none⟩,
 ⟨(some 89), .p (.ext (.s 81) 0), none⟩,
 ⟨(some 90), .p (.ext (.s 81) 1), none⟩,
 ⟨(some 14), .p (.mv (.s 89)), none⟩,
 ⟨(some 15), .p (.mv (.s 90)), none⟩] [3, 4, 7, 9, 11, 12, 14, 15])
 (.seq (.seq (.reg [⟨(some 91), .p (.mv (.s 15)), none⟩,
 ⟨(some 92), .p (.bin .neq (.s 91) (.c (.int .i64 0))), none⟩] [3, 4, 7, 9, 11, 12, 14, 92])
 (.cond (.s 92) (.seq (.reg [⟨(some 6), .p (.mv (.c (.bool false))), none⟩] [6])
 .ret) .skip))
 (.reg [⟨(some 93), .p (.mv (.s 11)), none⟩,
 ⟨(some 94), .p (.mv (.s 14)), none⟩,
 ⟨(some 95), .e (.app 8 96 (.s 93) (.s 94)), none⟩,
 ⟨(some 11), .p (.mv (.s 95)), none⟩] [3, 4, 7, 9, 11, 12]))))))
 (.reg [⟨(some 71), .p (.mv (.s 12)), none⟩,
 ⟨(some 72), .p (.bin .add (.s 71) (.c (.int .i64 1))), none⟩,
 ⟨(some 12), .p (.mv (.s 72)), none⟩] [3, 4, 7, 9, 11, 12]))) [3, 4, 7, 9, 11, 12])))
 (.seq (.reg [⟨(some 96), .p (.mv (.s 9)), none⟩,
 ⟨(some 97), .p (.mv (.s 7)), none⟩,
 ⟨(some 98), .e (.app 8 96 (.s 96) (.s 97)), none⟩,
 ⟨(some 99), .e (.call N.joistref06_Seen [(.s 98), (.c (.int .i64 1)), (.c (.int .i64 0)), (.c (.int .i64 0))] true), none⟩,
 ⟨(some 16), .p (.mv (.s 99)), none⟩] [11, 16])
 (.seq (.reg [⟨(some 100), .p (.mv (.s 11)), none⟩,
 ⟨(some 101), .e (.call N.joistref06_Seen [(.s 100), (.c (.int .i64 1)), (.c (.int .i64 0)), (.c (.int .i64 0))] true), none⟩,
 ⟨(some 17), .p (.mv (.s 101)), none⟩] [16, 17])
 (.seq (.seq (.reg [⟨(some 102), .p (.mv (.s 16)), none⟩,
 ⟨(some 103), .p (.lenl (.s 102)), none⟩,
 ⟨(some 104), .p (.mv (.s 17)), none⟩,
 ⟨(some 105), .p (.lenl (.s 104)), none⟩,
 ⟨(some 106), .p (.bin .neq (.s 103) (.s 105)), none⟩] [16, 17, 106])
 (.cond (.s 106) (.seq (.reg [⟨(some 6), .p (.mv (.c (.bool false))), none⟩] [6])
 .ret) .skip))
 (.seq (.seq (.reg [⟨(some 18), .p (.mv (.c (.int .i64 0))), none⟩] [16, 17, 18])
 (.block 4 (.loop (.seq (.seq (.reg [⟨(some 107), .p (.mv (.s 18)), none⟩,
 ⟨(some 108), .p (.mv (.s 16)), none⟩,
 ⟨(some 109), .p (.lenl (.s 108)), none⟩,
 ⟨(some 110), .p (.bin .lss (.s 107) (.s 109)), none⟩] [16, 17, 18, 110])
 (.cond (.s 110) .skip (.exit 4)))
 (.seq (.block 5 (.seq (.regD [⟨(some 113), .p (.mv (.s 16)), none⟩,
 ⟨(some 114), .p (.mv (.s 18)), none⟩,
 ⟨(some 115), .p (.iadr 8 (.s 113) (.s 114)), none⟩,
 ⟨(some 116), .p (.foff 1 (.s 115)), none⟩,
 ⟨(some 117), .p (.ld (.s 116)), none⟩,
 ⟨(some 118), .p (.mv (.s 17)), none⟩,
 ⟨(some 119), .p (.mv (.s 18)), none⟩,
 ⟨(some 120), .p (.iadr 8 (.s 118) (.s 119)), none⟩,
 ⟨(some 121), .p (.foff 1 (.s 120)), none⟩,
 ⟨(some 122), .p (.ld (.s 121)), none⟩,
 ⟨(some 123), .p (.bin .neq (.s 117) (.s 122)), none⟩,
 ⟨(some 124), .p (.mv (.s 123)), none⟩,
 ⟨(some 125), .p (.mv (.s 16)), (some (124, false))⟩,
 ⟨(some 126), .p (.mv (.s 18)), (some (124, false))⟩,
 ⟨(some 127), .p (.iadr 8 (.s 125) (.s 126)), (some (124, false))⟩,
 ⟨(some 128), .p (.foff 2 (.s 127)), (some (124, false))⟩,
 ⟨(some 129), .p (.ld (.s 128)), (some (124, false))⟩,
 ⟨(some 130), .p (.mv (.s 17)), (some (124, false))⟩,
 ⟨(some 131), .p (.mv (.s 18)), (some (124, false))⟩,
 ⟨(some 132), .p (.iadr 8 (.s 130) (.s 131)), (some (124, false))⟩,
 ⟨(some 133), .p (.foff 2 (.s 132)), (some (124, false))⟩,
 ⟨(some 134), .p (.ld (.s 133)), (some (124, false))⟩,
 ⟨(some 135), .p (.bin .neq (.s 129) (.s 134)), (some (124, false))⟩,
 ⟨(some 136), .p (.pick (.s 124) (.c (.bool true)) (.s 135)), none⟩,
 ⟨(some 137), .p (.mv (.s 136)), none⟩,
 ⟨(some 138), .p (.mv (.s 16)), (some (137, false))⟩,
 ⟨(some 139), .p (.mv (.s 18)), (some (137, false))⟩,
 ⟨(some 140), .p (.iadr 8 (.s 138) (.s 139)), (some (137, false))⟩,
 ⟨(some 141), .p (.foff 5 (.s 140)), (some (137, false))⟩,
 ⟨(some 142), .p (.ldn 3 (.s 141)), (some (137, false))⟩,
 ⟨(some 143), .p (.mv (.s 17)), (some (137, false))⟩,
 ⟨(some 144), .p (.mv (.s 18)), (some (137, false))⟩,
 ⟨(some 145), .p (.iadr 8 (.s 143) (.s 144)), (some (137, false))⟩,
 ⟨(some 146), .p (.foff 5 (.s 145)), (some (137, false))⟩,
 ⟨(some 147), .p (.ldn 3 (.s 146)), (some (137, false))⟩,
 ⟨(some 148), .p (.eqk true (.agg [0, 0, 1]) (.s 142) (.s 147)), (some (137, false))⟩,
 ⟨(some 149), .p (.pick (.s 137) (.c (.bool true)) (.s 148)), none⟩] [0, 1, 2, 3, 4, 5, 6, 7, 8, 9, 10, 11, 12, 13, 14, 15, 16, 17, 18, 19, 20, 21, 22, 23, 24, 25, 26, 27, 28, 29, 30, 31, 32, 33, 34, 35, 36] [16, 17, 18, 149])
 (.cond (.s 149) (.seq (.reg [⟨(some 6), .p (.mv (.c (.bool false))), none⟩] [6])
 .ret) .skip)))
 (.reg [⟨(some 111), .p (.mv (.s 18)), none⟩,
 ⟨(some 112), .p (.bin .add (.s 111) (.c (.int .i64 1))), none⟩,
 ⟨(some 18), .p (.mv (.s 112)), none⟩] [16, 17, 18]))) [16, 17, 18])))
 (.seq (.reg [⟨(some 6), .p (.mv (.c (.bool true))), none⟩] [6])
 .ret))))))))))))))⟩

def F.joistlaw16_alive : LFunc := ⟨106, [.t 0], 
 (.seq (.reg [⟨(some 0), .p (.mv (.c (.bool false))), none⟩] [])
 (.seq (.reg [⟨(some 9), .p (.build [.int .i64 0, .int .i64 0, .str []] [(0, 1, (.c (.int .i64 1))), (1, 1, (.c (.int .i64 1)))]), none⟩,
 ⟨(some 10), .p (.build [.int .i64 0, .str [], .str [], .int .i64 0, .int .i64 0, .str []] [(0, 1, (.c (.int .i64 1))), (1, 1, (.c (.str [102]))), (2, 1, (.c (.str [112]))), (3, 3, (.s 9))]), none⟩,
 ⟨(some 11), .p (.build [.int .i64 0, .str [], .str [], .int .i64 0, .int .i64 0, .str []] [(0, 1, (.c (.int .i64 3))), (1, 1, (.c (.str [102])))]), none⟩,
 ⟨(some 12), .p (.build [.int .i64 0, .int .i64 0, .str []] [(0, 1, (.c (.int .i64 1))), (1, 1, (.c (.int .i64 2)))]), none⟩,
 ⟨(some 13), .p (.build [.int .i64 0, .str [], .str [], .int .i64 0, .int .i64 0, .str []] [(0, 1, (.c (.int .i64 1))), (1, 1, (.c (.str [102]))), (2, 1, (.c (.str [113]))), (3, 3, (.s 12))]), none⟩,
 ⟨(some 14), .e (.bsl 6 3 [.int .i64 0, .str [], .str [], .int .i64 0, .int .i64 0, .str []] [(0, 6, (.s 10)), (6, 6, (.s 11)), (12, 6, (.s 13))]), none⟩,
 ⟨(some 15), .p (.build [.int .i64 0, .str [], .str [], .psl [], .str [], .str [], .int .i64 0, .int .i64 0, .str [], .psl [], .str [], .str [], .int .i64 0, .int .i64 0, .int .i64 0, .int .i64 0] [(0, 1, (.c (.int .i64 1))), (1, 1, (.c (.str [97]))), (3, 1, (.s 14))]), none⟩,
 ⟨(some 1), .e (.alloc [.int .i64 0, .str [], .str [], .psl [], .str [], .str [], .int .i64 0, .int .i64 0, .str [], .psl [], .str [], .str [], .int .i64 0, .int .i64 0, .int .i64 0, .int .i64 0]), none⟩,
 ⟨none, .e (.stn 16 (.s 1) (.s 15)), none⟩] [1])
 (.seq (.regD [⟨(some 18), .p (.ldn 16 (.s 1)), none⟩,
 ⟨(some 17), .e (.call N.joistlaw16_one [] true), none⟩,
 ⟨(some 18), .s (.ldn 16 (.s 1)), none⟩,
 ⟨(some 19), .e (.call N.plan_Cells [(.s 17), (.s 18), (.c (.int .i64 5))] true), none⟩,
 ⟨(some 16), .p (.mv (.s 19)), none⟩,
 ⟨(some 20), .p (.ext (.s 16) 0), none⟩,
 ⟨(some 21), .p (.ext (.s 16) 1), none⟩,
 ⟨(some 2), .p (.mv (.s 20)), none⟩,
 ⟨(some 3), .p (.mv (.s 21)), none⟩] [1, 0, 2, 3, 4, 5, 6, 7] [1, 2, 3])
 (.seq (.regD [⟨(some 24), .p (.ldn 16 (.s 1)), none⟩,
 ⟨(some 23), .e (.call N.joistlaw16_one [] true), none⟩,
 ⟨(some 24), .s (.ldn 16 (.s 1)), none⟩,
 ⟨(some 25), .e (.call N.plan_Cells [(.s 23), (.s 24), (.c (.int .i64 0))] true), none⟩,
 ⟨(some 22), .p (.mv (.s 25)), none⟩,
 ⟨(some 26), .p (.ext (.s 22) 0), none⟩,
 ⟨(some 27), .p (.ext (.s 22) 1), none⟩,
 ⟨(some 4), .p (.mv (.s 26)), none⟩,
 ⟨(some 5), .p (.mv (.s 27)), none⟩] [1, 0, 2, 3, 4, 5, 6, 7] [1, 2, 3, 5])
 (.seq (.reg [⟨(some 29), .e (.call N.joistlaw16_one [] true), none⟩,
 ⟨(some 30), .p (.build [.int .i64 0, .str [], .str [], .psl [], .str [], .str [], .int .i64 0, .int .i64 0, .str [], .psl [], .str [], .str [], .int .i64 0, .int .i64 0, .int .i64 0, .int .i64 0] [(0, 1, (.c (.int .i64 3)))]), none⟩,
 ⟨(some 31), .e (.call N.plan_Visible [(.s 29), (.s 30)] true), none⟩,
 ⟨(some 28), .p (.mv (.s 31)), none⟩,
 ⟨(some 32), .p (.ext (.s 28) 0), none⟩,
 ⟨(some 33), .p (.ext (.s 28) 1), none⟩,
 ⟨(some 6), .e (.alloc [.psl [], .str [], .str [], .int .i64 0, .int .i64 0, .int .i64 0, .int .i64 0]), none⟩,
 ⟨none, .e (.stn 7 (.s 6) (.s 32)), none⟩,
 ⟨(some 7), .p (.mv (.s 33)), none⟩] [1, 2, 3, 5, 7])
 (.seq (.reg [⟨(some 34), .e (.call N.joistlaw16_one [] true), none⟩,
 ⟨(some 35), .p (.mv (.s 2)), none⟩,
 ⟨(some 36), .e (.call N.plan_Layouts [(.s 34), (.s 35)] true), none⟩,
 ⟨(some 8), .p (.mv (.s 36)), none⟩] [1, 2, 3, 5, 7, 8])
 (.seq (.regD [⟨(some 37), .p (.mv (.s 3)), none⟩,
 ⟨(some 38), .p (.bin .eql (.s 37) (.c (.int .i64 0))), none⟩,
 ⟨(some 39), .p (.mv (.s 38)), none⟩,
 ⟨(some 40), .p (.mv (.s 5)), (some (39, true))⟩,
 ⟨(some 41), .p (.bin .eql (.s 40) (.c (.int .i64 18))), (some (39, true))⟩,
 ⟨(some 42), .p (.pick (.s 39) (.s 41) (.c (.bool false))), none⟩,
 ⟨(some 43), .p (.mv (.s 42)), none⟩,
 ⟨(some 44), .p (.mv (.s 2)), (some (43, true))⟩,
 ⟨(some 45), .p (.lenl (.s 44)), (some (43, true))⟩,
 ⟨(some 46), .p (.bin .eql (.s 45) (.c (.int .i64 2))), (some (43, true))⟩,
 ⟨(some 47), .p (.pick (.s 43) (.s 46) (.c (.bool false))), none⟩,
 ⟨(some 48), .p (.mv (.s 47)), none⟩,
 ⟨(some 49), .p (.mv (.s 2)), (some (48, true))⟩,
 ⟨(some 50), .p (.iadr 8 (.s 49) (.c (.int .i64 0))), (some (48, true))⟩,
 ⟨(some 51), .p (.ldn 8 (.s 50)), (some (48, true))⟩,
 ⟨(some 52), .p (.build [.str [], .str [], .str [], .int .i64 0, .int .i64 0, .int .i64 0, .int .i64 0, .str []] [(0, 1, (.c (.str [97]))), (1, 1, (.c (.str [102]))), (3, 1, (.c (.int .i64 4))), (4, 1, (.c (.int .i64 4)))]), (some (48, true))⟩,
 ⟨(some 53), .p (.eqk false (.agg [1, 1, 1, 0, 0, 0, 0, 1]) (.s 51) (.s 52)), (some (48, true))⟩,
 ⟨(some 54), .p (.pick (.s 48) (.s 53) (.c (.bool false))), none⟩,
 ⟨(some 55), .p (.mv (.s 54)), none⟩,
 ⟨(some 56), .p (.mv (.s 2)), (some (55, true))⟩,
 ⟨(some 57), .p (.iadr 8 (.s 56) (.c (.int .i64 1))), (some (55, true))⟩,
 ⟨(some 58), .p (.foff 3 (.s 57)), (some (55, true))⟩,
 ⟨(some 59), .p (.ld (.s 58)), (some (55, true))⟩,
 ⟨(some 60), .p (.bin .eql (.s 59) (.c (.int .i64 5))), (some (55, true))⟩,
 ⟨(some 61), .p (.pick (.s 55) (.s 60) (.c (.bool false))), none⟩,
 ⟨(some 62), .p (.mv (.s 61)), none⟩,
 ⟨(some 63), .p (.mv (.s 2)), (some (62, true))⟩,
 ⟨(some 64), .p (.iadr 8 (.s 63) (.c (.int .i64 1))), (some (62, true))⟩,
 ⟨(some 65), .p (.foff 2 (.s 64)), (some (62, true))⟩,
 ⟨(some 66), .p (.ld (.s 65)), (some (62, true))⟩,
 ⟨(some 67), .p (.bin .eql (.s 66) (.c (.str [113]))), (some (62, true))⟩,
 ⟨(some 68), .p (.pick (.s 62) (.s 67) (.c (.bool false))), none⟩,
 ⟨(some 69), .p (.mv (.s 68)), none⟩,
 ⟨(some 70), .p (.mv (.s 7)), (some (69, true))⟩,
 ⟨(some 71), .p (.lenl (.s 70)), (some (69, true))⟩,
 ⟨(some 72), .p (.bin .eql (.s 71) (.c (.int .i64 1))), (some (69, true))⟩,
 ⟨(some 73), .p (.pick (.s 69) (.s 72) (.c (.bool false))), none⟩,
 ⟨(some 74), .p (.mv (.s 73)), none⟩,
 ⟨(some 75), .p (.mv (.s 7)), (some (74, true))⟩,
 ⟨(some 76), .p (.iadr 5 (.s 75) (.c (.int .i64 0))), (some (74, true))⟩,
 ⟨(some 77), .p (.foff 4 (.s 76)), (some (74, true))⟩,
 ⟨(some 78), .p (.ld (.s 77)), (some (74, true))⟩,
 ⟨(some 79), .p (.lenl (.s 78)), (some (74, true))⟩,
 ⟨(some 80), .p (.bin .eql (.s 79) (.c (.int .i64 2))), (some (74, true))⟩,
 ⟨(some 81), .p (.pick (.s 74) (.s 80) (.c (.bool false))), none⟩,
 ⟨(some 82), .p (.mv (.s 81)), none⟩,
 ⟨(some 83), .p (.mv (.s 8)), (some (82, true))⟩,
 ⟨(some 84), .p (.lenl (.s 83)), (some (82, true))⟩,
 ⟨(some 85), .p (.bin .eql (.s 84) (.c (.int .i64 1))), (some (82, true))⟩,
 ⟨(some 86), .p (.pick (.s 82) (.s 85) (.c (.bool false))), none⟩,
 ⟨(some 87), .p (.mv (.s 86)), none⟩,
 ⟨none, .b 1 1 [.int .i64 0] [(0, 1, (.c (.int .i64 0)))], (some (87, true))⟩,
 ⟨(some 88), .p (.mv (.s 8)), (some (87, true))⟩,
 ⟨none, .b 1 1 [.int .i64 0] [(0, 1, (.c (.int .i64 0)))], (some (87, true))⟩,
 ⟨(some 89), .p (.mv (.s 2)), (some (87, true))⟩,
 ⟨none, .b 1 1 [.int .i64 0] [(0, 1, (.c (.int .i64 0)))], (some (87, true))⟩,
 ⟨(some 90), .p (.iadr 8 (.s 89) (.c (.int .i64 1))), (some (87, true))⟩,
 ⟨none, .b 1 1 [.int .i64 0] [(0, 1, (.c (.int .i64 0)))], (some (87, true))⟩,
 ⟨(some 91), .p (.ldn 8 (.s 90)), (some (87, true))⟩,
 ⟨none, .b 1 1 [.int .i64 0] [(0, 1, (.c (.int .i64 0)))], (some (87, true))⟩,
 ⟨(some 92), .e (.call N.plan_Targets [(.s 88), (.s 91)] true), (some (87, true))⟩,
 ⟨none, .b 1 1 [.int .i64 0] [(0, 1, (.c (.int .i64 0)))], (some (87, true))⟩,
 ⟨(some 93), .e (.bsl 1 1 [.int .i64 0] [(0, 1, (.c (.int .i64 0)))]), (some (87, true))⟩,
 ⟨(some 90), .s (.iadr 8 (.s 89) (.c (.int .i64 1))), (some (87, true))⟩,
 ⟨(some 91), .s (.ldn 8 (.s 90)), (some (87, true))⟩,
 ⟨(some 94), .e (.call N.joistref00_SameInts [(.s 92), (.s 93)] true), (some (87, true))⟩,
 ⟨(some 95), .p (.pick (.s 87) (.s 94) (.c (.bool false))), none⟩,
 ⟨(some 96), .p (.mv (.s 95)), none⟩,
 ⟨(some 97), .p (.ldn 16 (.s 1)), (some (96, true))⟩,
 ⟨(some 98), .e (.call N.plan_Formed [(.s 97)] true), (some (96, true))⟩,
 ⟨(some 99), .p (.pick (.s 96) (.s 98) (.c (.bool false))), none⟩,
 ⟨(some 100), .p (.mv (.s 99)), none⟩,
 ⟨(some 102), .p (.ldn 16 (.s 1)), (some (100, true))⟩,
 ⟨(some 101), .e (.call N.joistlaw16_one [] true), (some (100, true))⟩,
 ⟨(some 102), .s (.ldn 16 (.s 1)), (some (100, true))⟩,
 ⟨(some 103), .e (.call N.plan_Check [(.s 101), (.s 102)] true), (some (100, true))⟩,
 ⟨(some 104), .p (.bin .eql (.s 103) (.c (.int .i64 0))), (some (100, true))⟩,
 ⟨(some 105), .p (.pick (.s 100) (.s 104) (.c (.bool false))), none⟩,
 ⟨(some 0), .p (.mv (.s 105)), none⟩] [0, 1, 2, 3, 4, 5, 6, 7, 8, 9, 10, 11, 12, 13, 14, 15, 16, 17, 18, 19, 20, 21, 22, 23, 24, 25, 26, 27, 28, 29, 30, 31, 32, 33, 34, 35, 36, 37, 38, 39, 40, 41, 42, 43, 44, 45, 46, 47, 48, 49, 50, 51, 52, 53, 54, 55, 56, 57, 58, 59, 60, 61, 62, 63, 65, 64, 66, 67, 68, 69] [0])
 .ret)))))))⟩

def F.joistref00_LongSchema : LFunc := ⟨81, [.t 2], 
 (.seq (.reg [⟨(some 1), .e (.box 10 (.s 0)), none⟩,
 ⟨(some 2), .p (.mv (.c (.bool false))), none⟩] [1])
 (.seq (.seq (.reg [⟨(some 5), .p (.foff 1 (.s 1)), none⟩,
 ⟨(some 6), .p (.ld (.s 5)), none⟩,
 ⟨(some 7), .p (.lenl (.s 6)), none⟩,
 ⟨(some 8), .p (.bin .gtr (.s 7) (.c (.int .i64 20))), none⟩,
 ⟨(some 9), .p (.mv (.s 8)), none⟩,
 ⟨(some 10), .p (.foff 2 (.s 1)), (some (9, false))⟩,
 ⟨(some 11), .p (.foff 1 (.s 10)), (some (9, false))⟩,
 ⟨(some 12), .p (.ld (.s 11)), (some (9, false))⟩,
 ⟨(some 13), .p (.lens (.s 12)), (some (9, false))⟩,
 ⟨(some 14), .p (.bin .gtr (.s 13) (.c (.int .i64 100))), (some (9, false))⟩,
 ⟨(some 15), .p (.pick (.s 9) (.c (.bool true)) (.s 14)), none⟩,
 ⟨(some 16), .p (.mv (.s 15)), none⟩,
 ⟨(some 17), .p (.foff 2 (.s 1)), (some (16, false))⟩,
 ⟨(some 18), .p (.foff 2 (.s 17)), (some (16, false))⟩,
 ⟨(some 19), .p (.ld (.s 18)), (some (16, false))⟩,
 ⟨(some 20), .p (.lens (.s 19)), (some (16, false))⟩,
 ⟨(some 21), .p (.bin .gtr (.s 20) (.c (.int .i64 100))), (some (16, false))⟩,
 ⟨(some 22), .p (.pick (.s 16) (.c (.bool true)) (.s 21)), none⟩] [1, 22])
 (.cond (.s 22) (.seq (.reg [⟨(some 2), .p (.mv (.c (.bool true))), none⟩] [2])
 .ret) .skip))
 (.seq (.seq (.reg [⟨(some 3), .p (.mv (.c (.int .i64 0))), none⟩] [1, 3])
 (.block 0 (.loop (.seq (.seq (.reg [⟨(some 23), .p (.mv (.s 3)), none⟩,
 ⟨(some 24), .p (.foff 1 (.s 1)), none⟩,
 ⟨(some 25), .p (.ld (.s 24)), none⟩,
 ⟨(some 26), .p (.lenl (.s 25)), none⟩,
 ⟨(some 27), .p (.bin .lss (.s 23) (.s 26)), none⟩] [1, 3, 27])
 (.cond (.s 27) .skip (.exit 0)))
 (.seq (.block 1 (.seq (.seq (.reg [⟨(some 30), .p (.foff 1 (.s 1)), none⟩,
 ⟨(some 31), .p (.ld (.s 30)), none⟩,
 ⟨(some 32), .p (.mv (.s 3)), none⟩,
 ⟨(some 33), .p (.iadr 5 (.s 31) (.s 32)), none⟩,
 ⟨(some 34), .p (.foff 0 (.s 33)), none⟩,
 ⟨(some 35), .p (.ld (.s 34)), none⟩,
 ⟨(some 36), .p (.lens (.s 35)), none⟩,
 ⟨(some 37), .p (.bin .gtr (.s 36) (.c (.int .i64 100))), none⟩,
 ⟨(some 38), .p (.mv (.s 37)), none⟩,
 ⟨(some 39), .p (.foff 1 (.s 1)), (some (38, false))⟩,
 ⟨(some 40), .p (.ld (.s 39)), (some (38, false))⟩,
 ⟨(some 41), .p (.mv (.s 3)), (some (38, false))⟩,
 ⟨(some 42), .p (.iadr 5 (.s 40) (.s 41)), (some (38, false))⟩,
 ⟨(some 43), .p (.foff 3 (.s 42)), (some (38, false))⟩,
 ⟨(some 44), .p (.ld (.s 43)), (some (38, false))⟩,
 ⟨(some 45), .p (.lenl (.s 44)), (some (38, false))⟩,
 ⟨(some 46), .p (.bin .gtr (.s 45) (.c (.int .i64 10))), (some (38, false))⟩,
 ⟨(some 47), .p (.pick (.s 38) (.c (.bool true)) (.s 46)), none⟩,
 ⟨(some 48), .p (.mv (.s 47)), none⟩,
 ⟨(some 49), .p (.foff 1 (.s 1)), (some (48, false))⟩,
 ⟨(some 50), .p (.ld (.s 49)), (some (48, false))⟩,
 ⟨(some 51), .p (.mv (.s 3)), (some (48, false))⟩,
 ⟨(some 52), .p (.iadr 5 (.s 50) (.s 51)), (some (48, false))⟩,
 ⟨(some 53), .p (.foff 4 (.s 52)), (some (48, false))⟩,
 ⟨(some 54), .p (.ld (.s 53)), (some (48, false))⟩,
 ⟨(some 55), .p (.lenl (.s 54)), (some (48, false))⟩,
 ⟨(some 56), .p (.bin .gtr (.s 55) (.c (.int .i64 30))), (some (48, false))⟩,
 ⟨(some 57), .p (.pick (.s 48) (.c (.bool true)) (.s 56)), none⟩] [1, 3, 57])
 (.cond (.s 57) (.seq (.reg [⟨(some 2), .p (.mv (.c (.bool true))), none⟩] [2])
 .ret) .skip))
 (.seq (.reg [⟨(some 4), .p (.mv (.c (.int .i64 0))), none⟩] [1, 3, 4])
 (.block 2 (.loop (.seq (.seq (.reg [⟨(some 58), .p (.mv (.s 4)), none⟩,
 ⟨(some 59), .p (.foff 1 (.s 1)), none⟩,
 ⟨(some 60), .p (.ld (.s 59)), none⟩,
 ⟨(some 61), .p (.mv (.s 3)), none⟩,
 ⟨(some 62), .p (.iadr 5 (.s 60) (.s 61)), none⟩,
 ⟨(some 63), .p (.foff 4 (.s 62)), none⟩,
 ⟨(some 64), .p (.ld (.s 63)), none⟩,
 ⟨(some 65), .p (.lenl (.s 64)), none⟩,
 ⟨(some 66), .p (.bin .lss (.s 58) (.s 65)), none⟩] [1, 3, 4, 66])
 (.cond (.s 66) .skip (.exit 2)))
 (.seq (.block 3 (.seq (.reg [⟨(some 69), .p (.foff 1 (.s 1)), none⟩,
 ⟨(some 70), .p (.ld (.s 69)), none⟩,
 ⟨(some 71), .p (.mv (.s 3)), none⟩,
 ⟨(some 72), .p (.iadr 5 (.s 70) (.s 71)), none⟩,
 ⟨(some 73), .p (.foff 4 (.s 72)), none⟩,
 ⟨(some 74), .p (.ld (.s 73)), none⟩,
 ⟨(some 75), .p (.mv (.s 4)), none⟩,
 ⟨(some 76), .p (.iadr 3 (.s 74) (.s 75)), none⟩,
 ⟨(some 77), .p (.foff 0 (.s 76)), none⟩,
 ⟨(some 78), .p (.ld (.s 77)), none⟩,
 ⟨(some 79), .p (.lens (.s 78)), none⟩,
 ⟨(some 80), .p (.bin .gtr (.s 79) (.c (.int .i64 100))), none⟩] [1, 3, 4, 80])
 (.cond (.s 80) (.seq (.reg [⟨(some 2), .p (.mv (.c (.bool true))), none⟩] [2])
 .ret) .skip)))
 (.reg [⟨(some 67), .p (.mv (.s 4)), none⟩,
 ⟨(some 68), .p (.bin .add (.s 67) (.c (.int .i64 1))), none⟩,
 ⟨(some 4), .p (.mv (.s 68)), none⟩] [1, 3, 4]))) [1, 3, 4])))))
 (.reg [⟨(some 28), .p (.mv (.s 3)), none⟩,
 ⟨(some 29), .p (.bin .add (.s 28) (.c (.int .i64 1))), none⟩,
 ⟨(some 3), .p (.mv (.s 29)), none⟩] [1, 3]))) [1, 3])))
 (.seq (.reg [⟨(some 2), .p (.mv (.c (.bool false))), none⟩] [2])
 .ret))))⟩

def F.joistref00_LongCells : LFunc := ⟨51, [.t 4], 
 (.seq (.reg [⟨(some 4), .p (.mv (.c (.bool false))), none⟩] [0, 1])
 (.seq (.seq (.reg [⟨(some 6), .p (.mv (.s 0)), none⟩,
 ⟨(some 7), .p (.lenl (.s 6)), none⟩,
 ⟨(some 8), .p (.mv (.s 1)), none⟩,
 ⟨(some 9), .p (.bin .gtr (.s 7) (.s 8)), none⟩] [0, 9])
 (.cond (.s 9) (.seq (.reg [⟨(some 4), .p (.mv (.c (.bool true))), none⟩] [4])
 .ret) .skip))
 (.seq (.seq (.reg [⟨(some 5), .p (.mv (.c (.int .i64 0))), none⟩] [0, 5])
 (.block 0 (.loop (.seq (.seq (.reg [⟨(some 10), .p (.mv (.s 5)), none⟩,
 ⟨(some 11), .p (.mv (.s 0)), none⟩,
 ⟨(some 12), .p (.lenl (.s 11)), none⟩,
 ⟨(some 13), .p (.bin .lss (.s 10) (.s 12)), none⟩] [0, 5, 13])
 (.cond (.s 13) .skip (.exit 0)))
 (.seq (.block 1 (.seq (.reg [⟨(some 16), .p (.mv (.s 0)), none⟩,
 ⟨(some 17), .p (.mv (.s 5)), none⟩,
 ⟨(some 18), .p (.iadr 8 (.s 16) (.s 17)), none⟩,
 ⟨(some 19), .p (.foff 0 (.s 18)), none⟩,
 ⟨(some 20), .p (.ld (.s 19)), none⟩,
 ⟨(some 21), .p (.lens (.s 20)), none⟩,
 ⟨(some 22), .p (.bin .gtr (.s 21) (.c (.int .i64 60))), none⟩,
 ⟨(some 23), .p (.mv (.s 22)), none⟩,
 ⟨(some 24), .p (.mv (.s 0)), (some (23, false))⟩,
 ⟨(some 25), .p (.mv (.s 5)), (some (23, false))⟩,
 ⟨(some 26), .p (.iadr 8 (.s 24) (.s 25)), (some (23, false))⟩,
 ⟨(some 27), .p (.foff 1 (.s 26)), (some (23, false))⟩,
 ⟨(some 28), .p (.ld (.s 27)), (some (23, false))⟩,
 ⟨(some 29), .p (.lens (.s 28)), (some (23, false))⟩,
 ⟨(some 30), .p (.bin .gtr (.s 29) (.c (.int .i64 60))), (some (23, false))⟩,
 ⟨(some 31), .p (.pick (.s 23) (.c (.bool true)) (.s 30)), none⟩,
 ⟨(some 32), .p (.mv (.s 31)), none⟩,
 ⟨(some 33), .p (.mv (.s 0)), (some (32, false))⟩,
 ⟨(some 34), .p (.mv (.s 5)), (some (32, false))⟩,
 ⟨(some 35), .p (.iadr 8 (.s 33) (.s 34)), (some (32, false))⟩,
 ⟨(some 36), .p (.foff 2 (.s 35)), (some (32, false))⟩,
 ⟨(some 37), .p (.ld (.s 36)), (some (32, false))⟩,
 ⟨(some 38), .p (.lens (.s 37)), (some (32, false))⟩,
 ⟨(some 39), .p (.bin .gtr (.s 38) (.c (.int .i64 60))), (some (32, false))⟩,
 ⟨(some 40), .p (.pick (.s 32) (.c (.bool true)) (.s 39)), none⟩,
 ⟨(some 41), .p (.mv (.s 40)), none⟩,
 ⟨(some 42), .p (.mv (.s 0)), (some (41, false))⟩,
 ⟨(some 43), .p (.mv (.s 5)), (some (41, false))⟩,
 ⟨(some 44), .p (.iadr 8 (.s 42) (.s 43)), (some (41, false))⟩,
 ⟨(some 45), .p (.foff 5 (.s 44)), (some (41, false))⟩,
 ⟨(some 46), .p (.foff 2 (.s 45)), (some (41, false))⟩,
 ⟨(some 47), .p (.ld (.s 46)), (some (41, false))⟩,
 ⟨(some 48), .p (.lens (.s 47)), (some (41, false))⟩,
 ⟨(some 49), .p (.bin .gtr (.s 48) (.c (.int .i64 100))), (some (41, false))⟩,
 ⟨(some 50), .p (.pick (.s 41) (.c (.bool true)) (.s 49)), none⟩] [0, 5, 50])
 (.cond (.s 50) (.seq (.reg [⟨(some 4), .p (.mv (.c (.bool true))), none⟩] [4])
 .ret) .skip)))
 (.reg [⟨(some 14), .p (.mv (.s 5)), none⟩,
 ⟨(some 15), .p (.bin .add (.s 14) (.c (.int .i64 1))), none⟩,
 ⟨(some 5), .p (.mv (.s 15)), none⟩] [0, 5]))) [0, 5])))
 (.seq (.reg [⟨(some 4), .p (.mv (.c (.bool false))), none⟩] [4])
 .ret))))⟩

def F.joistref00_CopyCells : LFunc := ⟨9, [.t 2], 
 (.seq (.reg [⟨(some 2), .p (.mv (.c (.psl []))), none⟩] [0])
 (.seq (.reg [⟨(some 4), .e (.bsl 8 0 [.str [], .str [], .str [], .int .i64 0, .int .i64 0, .int .i64 0, .int .i64 0, .str []] []), none⟩,
 ⟨(some 3), .p (.mv (.s 4)), none⟩] [0, 3])
 (.seq (.reg [⟨(some 5), .p (.mv (.s 3)), none⟩,
 ⟨(some 6), .p (.mv (.s 0)), none⟩,
 ⟨(some 7), .e (.app 8 96 (.s 5) (.s 6)), none⟩,
 ⟨(some 3), .p (.mv (.s 7)), none⟩] [3])
 (.seq (.reg [⟨(some 8), .p (.mv (.s 3)), none⟩,
 ⟨(some 2), .p (.mv (.s 8)), none⟩] [2])
 .ret))))⟩

def F.plan_Layouts : LFunc := ⟨29, [.t 4], 
 (.seq (.reg [⟨(some 2), .e (.box 10 (.s 0)), none⟩,
 ⟨(some 4), .p (.mv (.c (.psl []))), none⟩] [1, 2])
 (.seq (.reg [⟨(some 5), .e (.vnil 2), none⟩] [1, 2, 5])
 (.seq (.seq (.reg [⟨(some 8), .p (.foff 1 (.s 2)), none⟩,
 ⟨(some 9), .p (.ld (.s 8)), none⟩,
 ⟨(some 10), .p (.lenl (.s 9)), none⟩,
 ⟨(some 11), .p (.mv (.c (.int .i64 0))), none⟩] [1, 5, 9, 10, 11])
 (.block 0 (.loop (.seq (.reg [⟨(some 12), .p (.bin .lss (.s 11) (.s 10)), none⟩] [1, 5, 9, 10, 11, 12])
 (.seq (.cond (.s 12) .skip (.exit 0))
 (.seq (.block 1 (.seq (.reg [⟨(some 13), .p (.iadr 5 (.s 9) (.s 11)), none⟩,
 ⟨(some 14), .p (.ldn 5 (.s 13)), none⟩,
 ⟨(some 7), .e (.alloc [.str [], .int .i64 0, .int .i64 0, .psl [], .psl []]), none⟩,
 ⟨none, .e (.stn 5 (.s 7) (.s 14)), none⟩] [1, 5, 7, 9, 10, 11])
 (.seq (.reg [⟨(some 15), .p (.mv (.s 1)), none⟩,
 ⟨(some 16), .p (.mkfn N.plan_Layouts_1 [] [(.s 7)]), none⟩,
 ⟨(some 17), .e (.call N.slices_ContainsFunc_api_Cell_api_Cell_ [(.s 15), (.s 16)] true), none⟩] [1, 5, 7, 9, 10, 11, 17])
 (.cond (.s 17) (.regD [⟨(some 18), .p (.mv (.s 5)), none⟩,
 ⟨(some 19), .p (.foff 0 (.s 7)), none⟩,
 ⟨(some 20), .p (.ld (.s 19)), none⟩,
 ⟨(some 21), .p (.foff 3 (.s 7)), none⟩,
 ⟨(some 22), .p (.ld (.s 21)), none⟩,
 ⟨(some 23), .e (.call N.slices_Clone_api_Layout_api_Layout_ [(.s 22)] true), none⟩,
 ⟨(some 20), .s (.ld (.s 19)), none⟩,
 ⟨(some 24), .p (.build [.str [], .psl []] [(0, 1, (.s 20)), (1, 1, (.s 23))]), none⟩,
 ⟨none, .b 2 1 [.str [], .psl []] [(0, 2, (.s 24))], none⟩,
 ⟨(some 25), .e (.bsl 2 1 [.str [], .psl []] [(0, 2, (.s 24))]), none⟩,
 ⟨(some 26), .e (.app 2 40 (.s 18) (.s 25)), none⟩,
 ⟨(some 5), .p (.mv (.s 26)), none⟩] [0, 1, 2, 3, 4, 5, 6, 7, 8, 9] [1, 5, 9, 10, 11]) .skip))))
 (.reg [⟨(some 27), .p (.bin .add (.s 11) (.c (.int .i64 1))), none⟩,
 ⟨(some 11), .p (.mv (.s 27)), none⟩] [1, 5, 9, 10, 11])))) [1, 5, 9, 10, 11])))
 (.seq (.reg [⟨(some 28), .p (.mv (.s 5)), none⟩,
 ⟨(some 4), .p (.mv (.s 28)), none⟩] [4])
 .ret))))⟩

def F.joistref00_SameInts : LFunc := ⟨26, [.t 4], 
 (.seq (.reg [⟨(some 4), .p (.mv (.c (.bool false))), none⟩] [0, 1])
 (.seq (.seq (.reg [⟨(some 6), .p (.mv (.s 0)), none⟩,
 ⟨(some 7), .p (.lenl (.s 6)), none⟩,
 ⟨(some 8), .p (.mv (.s 1)), none⟩,
 ⟨(some 9), .p (.lenl (.s 8)), none⟩,
 ⟨(some 10), .p (.bin .neq (.s 7) (.s 9)), none⟩] [0, 1, 10])
 (.cond (.s 10) (.seq (.reg [⟨(some 4), .p (.mv (.c (.bool false))), none⟩] [4])
 .ret) .skip))
 (.seq (.seq (.reg [⟨(some 5), .p (.mv (.c (.int .i64 0))), none⟩] [0, 1, 5])
 (.block 0 (.loop (.seq (.seq (.reg [⟨(some 11), .p (.mv (.s 5)), none⟩,
 ⟨(some 12), .p (.mv (.s 0)), none⟩,
 ⟨(some 13), .p (.lenl (.s 12)), none⟩,
 ⟨(some 14), .p (.bin .lss (.s 11) (.s 13)), none⟩] [0, 1, 5, 14])
 (.cond (.s 14) .skip (.exit 0)))
 (.seq (.block 1 (.seq (.regD [⟨(some 17), .p (.mv (.s 0)), none⟩,
 ⟨(some 18), .p (.mv (.s 5)), none⟩,
 ⟨(some 19), .p (.iadr 1 (.s 17) (.s 18)), none⟩,
 ⟨(some 20), .p (.ld (.s 19)), none⟩,
 ⟨(some 21), .p (.mv (.s 1)), none⟩,
 ⟨(some 22), .p (.mv (.s 5)), none⟩,
 ⟨(some 23), .p (.iadr 1 (.s 21) (.s 22)), none⟩,
 ⟨(some 24), .p (.ld (.s 23)), none⟩,
 ⟨(some 25), .p (.bin .neq (.s 20) (.s 24)), none⟩] [0, 1, 2, 3, 4, 5, 6, 7, 8] [0, 1, 5, 25])
 (.cond (.s 25) (.seq (.reg [⟨(some 4), .p (.mv (.c (.bool false))), none⟩] [4])
 .ret) .skip)))
 (.reg [⟨(some 15), .p (.mv (.s 5)), none⟩,
 ⟨(some 16), .p (.bin .add (.s 15) (.c (.int .i64 1))), none⟩,
 ⟨(some 5), .p (.mv (.s 16)), none⟩] [0, 1, 5]))) [0, 1, 5])))
 (.seq (.reg [⟨(some 4), .p (.mv (.c (.bool true))), none⟩] [4])
 .ret))))⟩

def F.plan_Targets : LFunc := ⟨25, [.t 4], 
 (.seq (.reg [⟨(some 3), .e (.box 8 (.s 1)), none⟩,
 ⟨(some 4), .p (.mv (.c (.psl []))), none⟩] [0, 3])
 (.seq (.reg [⟨(some 7), .p (.mv (.s 0)), none⟩,
 ⟨(some 8), .p (.mkfn N.plan_Targets_1 [] [(.s 3)]), none⟩,
 ⟨(some 9), .e (.call N.slices_IndexFunc_api_Layouted_api_Layouted_ [(.s 7), (.s 8)] true), none⟩,
 ⟨(some 5), .p (.mv (.s 9)), none⟩] [0, 3, 5])
 (.seq (.seq (.reg [⟨(some 10), .p (.mv (.s 5)), none⟩,
 ⟨(some 11), .p (.bin .lss (.s 10) (.c (.int .i64 0))), none⟩] [0, 3, 5, 11])
 (.cond (.s 11) (.seq (.reg [⟨(some 4), .p (.mv (.c (.psl []))), none⟩] [4])
 .ret) .skip))
 (.seq (.reg [⟨(some 12), .p (.mv (.s 0)), none⟩,
 ⟨(some 13), .p (.mv (.s 5)), none⟩,
 ⟨(some 14), .p (.iadr 2 (.s 12) (.s 13)), none⟩,
 ⟨(some 15), .p (.foff 1 (.s 14)), none⟩,
 ⟨(some 16), .p (.ld (.s 15)), none⟩,
 ⟨(some 17), .p (.build [.str [], .int .i64 0, .int .i64 0, .psl [], .psl []] [(3, 1, (.s 16))]), none⟩,
 ⟨(some 6), .e (.alloc [.str [], .int .i64 0, .int .i64 0, .psl [], .psl []]), none⟩,
 ⟨none, .e (.stn 5 (.s 6) (.s 17)), none⟩] [3, 6])
 (.seq (.seq (.reg [⟨(some 18), .p (.foff 4 (.s 3)), none⟩,
 ⟨(some 19), .p (.ld (.s 18)), none⟩,
 ⟨(some 20), .p (.bin .eql (.s 19) (.c (.int .i64 1))), none⟩] [6, 20])
 (.cond (.s 20) (.seq (.reg [⟨(some 21), .p (.ldn 5 (.s 6)), none⟩,
 ⟨(some 22), .e (.call N.schema_Written [(.s 21)] true), none⟩,
 ⟨(some 4), .p (.mv (.s 22)), none⟩] [4])
 .ret) .skip))
 (.seq (.reg [⟨(some 23), .p (.ldn 5 (.s 6)), none⟩,
 ⟨(some 24), .e (.call N.schema_Gone [(.s 23)] true), none⟩,
 ⟨(some 4), .p (.mv (.s 24)), none⟩] [4])
 .ret))))))⟩

def F.joistlaw16_long : LFunc := ⟨11, [.t 4], 
 (.seq (.reg [⟨(some 2), .e (.box 10 (.s 0)), none⟩,
 ⟨(some 3), .e (.box 16 (.s 1)), none⟩,
 ⟨(some 4), .p (.mv (.c (.bool false))), none⟩] [2, 3])
 (.seq (.reg [⟨(some 5), .p (.ldn 10 (.s 2)), none⟩,
 ⟨(some 6), .e (.call N.joistref00_LongSchema [(.s 5)] true), none⟩,
 ⟨(some 7), .p (.mv (.s 6)), none⟩,
 ⟨(some 8), .p (.ldn 16 (.s 3)), (some (7, false))⟩,
 ⟨(some 9), .e (.call N.joistref00_LongRequest [(.s 8)] true), (some (7, false))⟩,
 ⟨(some 10), .p (.pick (.s 7) (.c (.bool true)) (.s 9)), none⟩,
 ⟨(some 4), .p (.mv (.s 10)), none⟩] [4])
 .ret))⟩

def F.plan_Cells : LFunc := ⟨52, [.t 6, .t 7], 
 (.seq (.reg [⟨(some 3), .e (.box 10 (.s 0)), none⟩,
 ⟨(some 4), .e (.box 16 (.s 1)), none⟩,
 ⟨(some 6), .p (.mv (.c (.psl []))), none⟩,
 ⟨(some 7), .p (.mv (.c (.int .i64 0))), none⟩] [2, 3, 4])
 (.seq (.reg [⟨(some 12), .p (.ldn 10 (.s 3)), none⟩,
 ⟨(some 13), .p (.ldn 16 (.s 4)), none⟩,
 ⟨(some 14), .e (.call N.plan_Check [(.s 12), (.s 13)] true), none⟩,
 ⟨(some 8), .p (.mv (.s 14)), none⟩] [2, 3, 4, 8])
 (.seq (.block 0 (.seq (.reg [⟨(some 16), .p (.mv (.s 8)), none⟩,
 ⟨(some 17), .p (.bin .neq (.s 16) (.c (.int .i64 0))), none⟩,
 ⟨(some 15), .p (.mv (.s 17)), none⟩] [2, 3, 4, 8, 15])
 (.cond (.s 15) (.seq (.reg [⟨(some 18), .p (.mv (.s 8)), none⟩,
 ⟨(some 6), .p (.mv (.c (.psl []))), none⟩,
 ⟨(some 7), .p (.mv (.s 18)), none⟩] [6, 7])
 .ret) (.seq (.reg [⟨(some 20), .p (.foff 0 (.s 4)), none⟩,
 ⟨(some 21), .p (.ld (.s 20)), none⟩,
 ⟨(some 22), .p (.bin .eql (.s 21) (.c (.int .i64 3))), none⟩,
 ⟨(some 19), .p (.mv (.s 22)), none⟩] [2, 3, 4, 19])
 (.cond (.s 19) (.seq (.reg [⟨(some 6), .p (.mv (.c (.psl []))), none⟩,
 ⟨(some 7), .p (.mv (.c (.int .i64 10))), none⟩] [6, 7])
 .ret) (.seq (.reg [⟨(some 24), .p (.mv (.s 2)), none⟩,
 ⟨(some 25), .p (.bin .lss (.s 24) (.c (.int .i64 1))), none⟩,
 ⟨(some 26), .p (.mv (.s 25)), none⟩,
 ⟨(some 27), .p (.mv (.s 2)), (some (26, false))⟩,
 ⟨(some 28), .p (.bin .gtr (.s 27) (.c (.int .i64 1099511627776))), (some (26, false))⟩,
 ⟨(some 29), .p (.pick (.s 26) (.c (.bool true)) (.s 28)), none⟩,
 ⟨(some 23), .p (.mv (.s 29)), none⟩] [2, 3, 4, 23])
 (.cond (.s 23) (.seq (.reg [⟨(some 6), .p (.mv (.c (.psl []))), none⟩,
 ⟨(some 7), .p (.mv (.c (.int .i64 18))), none⟩] [6, 7])
 .ret) .skip)))))))
 (.seq (.reg [⟨(some 30), .p (.ldn 10 (.s 3)), none⟩,
 ⟨(some 31), .p (.build [.int .i64 0, .psl [], .int .i64 0, .str [], .str [], .int .i64 0, .int .i64 0, .int .i64 0, .int .i64 0, .int .i64 0] [(0, 10, (.s 30))]), none⟩,
 ⟨(some 32), .p (.foff 1 (.s 4)), none⟩,
 ⟨(some 33), .p (.ld (.s 32)), none⟩,
 ⟨(some 34), .p (.mv (.s 2)), none⟩,
 ⟨(some 35), .p (.build [.int .i64 0, .psl [], .int .i64 0, .str [], .str [], .int .i64 0, .int .i64 0, .int .i64 0, .int .i64 0, .int .i64 0, .str [], .int .i64 0, .vn] [(0, 10, (.s 31)), (10, 1, (.s 33)), (11, 1, (.s 34))]), none⟩,
 ⟨(some 36), .e (.boxv 13 [(12, 8)] (.s 35)), none⟩,
 ⟨(some 9), .p (.mv (.s 36)), none⟩] [4, 9])
 (.seq (.seq (.reg [⟨(some 37), .p (.foff 3 (.s 4)), none⟩,
 ⟨(some 38), .p (.ld (.s 37)), none⟩,
 ⟨(some 39), .p (.lenl (.s 38)), none⟩,
 ⟨(some 40), .p (.mv (.c (.int .i64 0))), none⟩] [9, 38, 39, 40])
 (.block 1 (.loop (.seq (.reg [⟨(some 41), .p (.bin .lss (.s 40) (.s 39)), none⟩] [9, 38, 39, 40, 41])
 (.seq (.cond (.s 41) .skip (.exit 1))
 (.seq (.block 2 (.seq (.reg [⟨(some 42), .p (.iadr 6 (.s 38) (.s 40)), none⟩,
 ⟨(some 43), .p (.ldn 6 (.s 42)), none⟩,
 ⟨(some 11), .e (.alloc [.int .i64 0, .str [], .str [], .int .i64 0, .int .i64 0, .str []]), none⟩,
 ⟨none, .e (.stn 6 (.s 11) (.s 43)), none⟩] [9, 11, 38, 39, 40])
 (.reg [⟨(some 44), .p (.mv (.s 9)), none⟩,
 ⟨(some 45), .p (.ldn 6 (.s 11)), none⟩,
 ⟨(some 46), .e (.call N.plan_maker_do [(.s 44), (.s 45)] true), none⟩] [9, 38, 39, 40])))
 (.reg [⟨(some 47), .p (.bin .add (.s 40) (.c (.int .i64 1))), none⟩,
 ⟨(some 40), .p (.mv (.s 47)), none⟩] [9, 38, 39, 40])))) [9, 38, 39, 40])))
 (.seq (.reg [⟨(some 48), .p (.mv (.s 9)), none⟩,
 ⟨(some 49), .p (.nilc (.s 48)), none⟩,
 ⟨(some 50), .p (.foff 12 (.s 49)), none⟩,
 ⟨(some 51), .p (.ld (.s 50)), none⟩,
 ⟨(some 6), .p (.mv (.s 51)), none⟩,
 ⟨(some 7), .p (.mv (.c (.int .i64 0))), none⟩] [6, 7])
 .ret))))))⟩

def F.joistref03_Right : LFunc := ⟨60, [.t 2], 
 (.seq (.reg [⟨(some 1), .e (.box 8 (.s 0)), none⟩,
 ⟨(some 2), .p (.mv (.c (.bool false))), none⟩] [1])
 (.seq (.seq (.reg [⟨(some 3), .p (.foff 0 (.s 1)), none⟩,
 ⟨(some 4), .p (.ld (.s 3)), none⟩,
 ⟨(some 5), .p (.lens (.s 4)), none⟩,
 ⟨(some 6), .p (.bin .lss (.s 5) (.c (.int .i64 1))), none⟩,
 ⟨(some 7), .p (.mv (.s 6)), none⟩,
 ⟨(some 8), .p (.foff 0 (.s 1)), (some (7, false))⟩,
 ⟨(some 9), .p (.ld (.s 8)), (some (7, false))⟩,
 ⟨(some 10), .p (.lens (.s 9)), (some (7, false))⟩,
 ⟨(some 11), .p (.bin .gtr (.s 10) (.c (.int .i64 16))), (some (7, false))⟩,
 ⟨(some 12), .p (.pick (.s 7) (.c (.bool true)) (.s 11)), none⟩,
 ⟨(some 13), .p (.mv (.s 12)), none⟩,
 ⟨(some 14), .p (.foff 1 (.s 1)), (some (13, false))⟩,
 ⟨(some 15), .p (.ld (.s 14)), (some (13, false))⟩,
 ⟨(some 16), .e (.call N.joistref03_Name [(.s 15)] true), (some (13, false))⟩,
 ⟨(some 17), .p (.un .not (.s 16)), (some (13, false))⟩,
 ⟨(some 18), .p (.pick (.s 13) (.c (.bool true)) (.s 17)), none⟩,
 ⟨(some 19), .p (.mv (.s 18)), none⟩,
 ⟨(some 20), .p (.foff 2 (.s 1)), (some (19, false))⟩,
 ⟨(some 21), .p (.ld (.s 20)), (some (19, false))⟩,
 ⟨(some 22), .p (.lens (.s 21)), (some (19, false))⟩,
 ⟨(some 23), .p (.bin .gtr (.s 22) (.c (.int .i64 12))), (some (19, false))⟩,
 ⟨(some 24), .p (.pick (.s 19) (.c (.bool true)) (.s 23)), none⟩,
 ⟨(some 25), .p (.mv (.s 24)), none⟩,
 ⟨(some 26), .p (.foff 3 (.s 1)), (some (25, false))⟩,
 ⟨(some 27), .p (.ld (.s 26)), (some (25, false))⟩,
 ⟨(some 28), .p (.bin .lss (.s 27) (.c (.int .i64 0))), (some (25, false))⟩,
 ⟨(some 29), .p (.pick (.s 25) (.c (.bool true)) (.s 28)), none⟩,
 ⟨(some 30), .p (.mv (.s 29)), none⟩,
 ⟨(some 31), .p (.foff 3 (.s 1)), (some (30, false))⟩,
 ⟨(some 32), .p (.ld (.s 31)), (some (30, false))⟩,
 ⟨(some 33), .p (.bin .gtr (.s 32) (.c (.int .i64 1099511627776))), (some (30, false))⟩,
 ⟨(some 34), .p (.pick (.s 30) (.c (.bool true)) (.s 33)), none⟩] [1, 34])
 (.cond (.s 34) (.seq (.reg [⟨(some 2), .p (.mv (.c (.bool false))), none⟩] [2])
 .ret) .skip))
 (.seq (.seq (.reg [⟨(some 35), .p (.foff 4 (.s 1)), none⟩,
 ⟨(some 36), .p (.ld (.s 35)), none⟩] [1, 36])
 (.block 0 (.seq (.reg [⟨(some 38), .p (.bin .eql (.s 36) (.c (.int .i64 1))), none⟩,
 ⟨(some 37), .p (.mv (.s 38)), none⟩] [1, 36, 37])
 (.cond (.s 37) (.seq (.reg [⟨(some 39), .p (.foff 5 (.s 1)), none⟩,
 ⟨(some 40), .p (.ldn 3 (.s 39)), none⟩,
 ⟨(some 41), .e (.call N.joistref02_Right [(.s 40)] true), none⟩,
 ⟨(some 2), .p (.mv (.s 41)), none⟩] [2])
 .ret) (.seq (.seq (.reg [⟨(some 43), .p (.bin .eql (.s 36) (.c (.int .i64 2))), none⟩,
 ⟨(some 42), .p (.mv (.s 43)), none⟩] [1, 36, 42])
 (.cond (.s 42) .skip (.reg [⟨(some 44), .p (.bin .eql (.s 36) (.c (.int .i64 3))), none⟩,
 ⟨(some 42), .p (.mv (.s 44)), none⟩] [1, 36, 42])))
 (.cond (.s 42) (.seq (.reg [⟨(some 45), .p (.foff 5 (.s 1)), none⟩,
 ⟨(some 46), .p (.ldn 3 (.s 45)), none⟩,
 ⟨(some 47), .p (.build [.int .i64 0, .int .i64 0, .str []] []), none⟩,
 ⟨(some 48), .p (.eqk false (.agg [0, 0, 1]) (.s 46) (.s 47)), none⟩,
 ⟨(some 2), .p (.mv (.s 48)), none⟩] [2])
 .ret) (.seq (.reg [⟨(some 50), .p (.bin .eql (.s 36) (.c (.int .i64 4))), none⟩,
 ⟨(some 49), .p (.mv (.s 50)), none⟩] [1, 49])
 (.cond (.s 49) (.seq (.reg [⟨(some 51), .p (.foff 5 (.s 1)), none⟩,
 ⟨(some 52), .p (.ldn 3 (.s 51)), none⟩,
 ⟨(some 53), .p (.build [.int .i64 0, .int .i64 0, .str []] []), none⟩,
 ⟨(some 54), .p (.eqk false (.agg [0, 0, 1]) (.s 52) (.s 53)), none⟩,
 ⟨(some 55), .p (.mv (.s 54)), none⟩,
 ⟨(some 56), .p (.foff 2 (.s 1)), (some (55, true))⟩,
 ⟨(some 57), .p (.ld (.s 56)), (some (55, true))⟩,
 ⟨(some 58), .p (.bin .eql (.s 57) (.c (.str []))), (some (55, true))⟩,
 ⟨(some 59), .p (.pick (.s 55) (.s 58) (.c (.bool false))), none⟩,
 ⟨(some 2), .p (.mv (.s 59)), none⟩] [2])
 .ret) .skip))))))))
 (.seq (.reg [⟨(some 2), .p (.mv (.c (.bool false))), none⟩] [2])
 .ret))))⟩

def F.joistref03_Order : LFunc := ⟨59, [.t 4], 
 (.seq (.reg [⟨(some 2), .e (.box 8 (.s 0)), none⟩,
 ⟨(some 3), .e (.box 8 (.s 1)), none⟩,
 ⟨(some 4), .p (.mv (.c (.int .i64 0))), none⟩] [2, 3])
 (.seq (.reg [⟨(some 5), .p (.mv (.c (.int .i64 1))), none⟩] [2, 3, 5])
 (.seq (.reg [⟨(some 6), .p (.mv (.c (.int .i64 1))), none⟩] [2, 3, 5, 6])
 (.seq (.seq (.reg [⟨(some 9), .p (.foff 4 (.s 2)), none⟩,
 ⟨(some 10), .p (.ld (.s 9)), none⟩,
 ⟨(some 11), .p (.bin .eql (.s 10) (.c (.int .i64 4))), none⟩] [2, 3, 5, 6, 11])
 (.cond (.s 11) (.reg [⟨(some 5), .p (.mv (.c (.int .i64 0))), none⟩] [2, 3, 5, 6]) .skip))
 (.seq (.seq (.reg [⟨(some 12), .p (.foff 4 (.s 3)), none⟩,
 ⟨(some 13), .p (.ld (.s 12)), none⟩,
 ⟨(some 14), .p (.bin .eql (.s 13) (.c (.int .i64 4))), none⟩] [2, 3, 5, 6, 14])
 (.cond (.s 14) (.reg [⟨(some 6), .p (.mv (.c (.int .i64 0))), none⟩] [2, 3, 5, 6]) .skip))
 (.seq (.regD [⟨(some 15), .p (.foff 0 (.s 2)), none⟩,
 ⟨(some 16), .p (.ld (.s 15)), none⟩,
 ⟨(some 17), .p (.foff 0 (.s 3)), none⟩,
 ⟨(some 18), .p (.ld (.s 17)), none⟩,
 ⟨(some 20), .p (.foff 1 (.s 2)), none⟩,
 ⟨(some 21), .p (.ld (.s 20)), none⟩,
 ⟨(some 22), .p (.foff 1 (.s 3)), none⟩,
 ⟨(some 23), .p (.ld (.s 22)), none⟩,
 ⟨(some 25), .p (.mv (.s 5)), none⟩,
 ⟨(some 26), .p (.mv (.s 6)), none⟩,
 ⟨(some 28), .p (.foff 2 (.s 2)), none⟩,
 ⟨(some 29), .p (.ld (.s 28)), none⟩,
 ⟨(some 30), .p (.foff 2 (.s 3)), none⟩,
 ⟨(some 31), .p (.ld (.s 30)), none⟩,
 ⟨(some 33), .p (.foff 3 (.s 3)), none⟩,
 ⟨(some 34), .p (.ld (.s 33)), none⟩,
 ⟨(some 35), .p (.foff 3 (.s 2)), none⟩,
 ⟨(some 36), .p (.ld (.s 35)), none⟩,
 ⟨(some 38), .p (.foff 4 (.s 3)), none⟩,
 ⟨(some 39), .p (.ld (.s 38)), none⟩,
 ⟨(some 40), .p (.foff 4 (.s 2)), none⟩,
 ⟨(some 41), .p (.ld (.s 40)), none⟩,
 ⟨(some 19), .e (.call N.joistref00_Texts [(.s 16), (.s 18)] true), none⟩,
 ⟨(some 21), .s (.ld (.s 20)), none⟩,
 ⟨(some 23), .s (.ld (.s 22)), none⟩,
 ⟨(some 29), .s (.ld (.s 28)), none⟩,
 ⟨(some 31), .s (.ld (.s 30)), none⟩,
 ⟨(some 34), .s (.ld (.s 33)), none⟩,
 ⟨(some 36), .s (.ld (.s 35)), none⟩,
 ⟨(some 39), .s (.ld (.s 38)), none⟩,
 ⟨(some 41), .s (.ld (.s 40)), none⟩,
 ⟨(some 24), .e (.call N.joistref00_Texts [(.s 21), (.s 23)] true), none⟩,
 ⟨(some 29), .s (.ld (.s 28)), none⟩,
 ⟨(some 31), .s (.ld (.s 30)), none⟩,
 ⟨(some 34), .s (.ld (.s 33)), none⟩,
 ⟨(some 36), .s (.ld (.s 35)), none⟩,
 ⟨(some 39), .s (.ld (.s 38)), none⟩,
 ⟨(some 41), .s (.ld (.s 40)), none⟩,
 ⟨(some 27), .e (.call N.joistref03_cmp [(.s 25), (.s 26)] true), none⟩,
 ⟨(some 29), .s (.ld (.s 28)), none⟩,
 ⟨(some 31), .s (.ld (.s 30)), none⟩,
 ⟨(some 34), .s (.ld (.s 33)), none⟩,
 ⟨(some 36), .s (.ld (.s 35)), none⟩,
 ⟨(some 39), .s (.ld (.s 38)), none⟩,
 ⟨(some 41), .s (.ld (.s 40)), none⟩,
 ⟨(some 32), .e (.call N.joistref00_Texts [(.s 29), (.s 31)] true), none⟩,
 ⟨(some 34), .s (.ld (.s 33)), none⟩,
 ⟨(some 36), .s (.ld (.s 35)), none⟩,
 ⟨(some 39), .s (.ld (.s 38)), none⟩,
 ⟨(some 41), .s (.ld (.s 40)), none⟩,
 ⟨(some 37), .e (.call N.joistref03_cmp [(.s 34), (.s 36)] true), none⟩,
 ⟨(some 39), .s (.ld (.s 38)), none⟩,
 ⟨(some 41), .s (.ld (.s 40)), none⟩,
 ⟨(some 42), .e (.call N.joistref03_cmp [(.s 39), (.s 41)] true), none⟩,
 ⟨none, .b 1 6 [.int .i64 0] [(0, 1, (.s 19)), (1, 1, (.s 24)), (2, 1, (.s 27)), (3, 1, (.s 32)), (4, 1, (.s 37)), (5, 1, (.s 42))], none⟩,
 ⟨(some 43), .e (.bsl 1 6 [.int .i64 0] [(0, 1, (.s 19)), (1, 1, (.s 24)), (2, 1, (.s 27)), (3, 1, (.s 32)), (4, 1, (.s 37)), (5, 1, (.s 42))]), none⟩,
 ⟨(some 7), .p (.mv (.s 43)), none⟩] [0, 1, 2, 3, 5, 6, 7, 8, 10, 11, 13, 14, 15, 16, 18, 19, 20, 21, 23, 24, 25, 26, 4, 9, 12, 17, 22, 27, 28, 29] [7])
 (.seq (.seq (.reg [⟨(some 8), .p (.mv (.c (.int .i64 0))), none⟩] [7, 8])
 (.block 0 (.loop (.seq (.seq (.reg [⟨(some 44), .p (.mv (.s 8)), none⟩,
 ⟨(some 45), .p (.mv (.s 7)), none⟩,
 ⟨(some 46), .p (.lenl (.s 45)), none⟩,
 ⟨(some 47), .p (.bin .lss (.s 44) (.s 46)), none⟩] [7, 8, 47])
 (.cond (.s 47) .skip (.exit 0)))
 (.seq (.block 1 (.seq (.reg [⟨(some 50), .p (.mv (.s 7)), none⟩,
 ⟨(some 51), .p (.mv (.s 8)), none⟩,
 ⟨(some 52), .p (.iadr 1 (.s 50) (.s 51)), none⟩,
 ⟨(some 53), .p (.ld (.s 52)), none⟩,
 ⟨(some 54), .p (.bin .neq (.s 53) (.c (.int .i64 0))), none⟩] [7, 8, 54])
 (.cond (.s 54) (.seq (.reg [⟨(some 55), .p (.mv (.s 7)), none⟩,
 ⟨(some 56), .p (.mv (.s 8)), none⟩,
 ⟨(some 57), .p (.iadr 1 (.s 55) (.s 56)), none⟩,
 ⟨(some 58), .p (.ld (.s 57)), none⟩,
 ⟨(some 4), .p (.mv (.s 58)), none⟩] [4])
 .ret) .skip)))
 (.reg [⟨(some 48), .p (.mv (.s 8)), none⟩,
 ⟨(some 49), .p (.bin .add (.s 48) (.c (.int .i64 1))), none⟩,
 ⟨(some 8), .p (.mv (.s 49)), none⟩] [7, 8]))) [7, 8])))
 (.seq (.reg [⟨(some 4), .p (.mv (.c (.int .i64 0))), none⟩] [4])
 .ret))))))))⟩

def F.joistref06_Seen : LFunc := ⟨122, [.t 8], 
 (.seq (.reg [⟨(some 8), .p (.mv (.c (.psl []))), none⟩] [0, 1, 2, 3])
 (.seq (.reg [⟨(some 14), .e (.bsl 8 0 [.str [], .str [], .str [], .int .i64 0, .int .i64 0, .int .i64 0, .int .i64 0, .str []] []), none⟩,
 ⟨(some 9), .p (.mv (.s 14)), none⟩] [0, 1, 2, 3, 9])
 (.seq (.seq (.reg [⟨(some 15), .p (.mv (.s 1)), none⟩,
 ⟨(some 16), .p (.bin .lss (.s 15) (.c (.int .i64 1))), none⟩,
 ⟨(some 17), .p (.mv (.s 16)), none⟩,
 ⟨(some 18), .p (.mv (.s 1)), (some (17, false))⟩,
 ⟨(some 19), .p (.bin .gtr (.s 18) (.c (.int .i64 8))), (some (17, false))⟩,
 ⟨(some 20), .p (.pick (.s 17) (.c (.bool true)) (.s 19)), none⟩,
 ⟨(some 21), .p (.mv (.s 20)), none⟩,
 ⟨(some 22), .p (.mv (.s 2)), (some (21, false))⟩,
 ⟨(some 23), .p (.bin .lss (.s 22) (.c (.int .i64 0))), (some (21, false))⟩,
 ⟨(some 24), .p (.pick (.s 21) (.c (.bool true)) (.s 23)), none⟩] [0, 1, 2, 3, 9, 24])
 (.cond (.s 24) (.seq (.reg [⟨(some 25), .p (.mv (.s 9)), none⟩,
 ⟨(some 8), .p (.mv (.s 25)), none⟩] [8])
 .ret) .skip))
 (.seq (.reg [⟨(some 26), .p (.mv (.s 0)), none⟩,
 ⟨(some 27), .e (.call N.joistref06_Sort [(.s 26)] true), none⟩,
 ⟨(some 10), .p (.mv (.s 27)), none⟩] [1, 2, 3, 9, 10])
 (.seq (.seq (.reg [⟨(some 11), .p (.mv (.c (.int .i64 0))), none⟩] [1, 2, 3, 9, 10, 11])
 (.block 0 (.loop (.seq (.seq (.reg [⟨(some 28), .p (.mv (.s 11)), none⟩,
 ⟨(some 29), .p (.mv (.s 10)), none⟩,
 ⟨(some 30), .p (.lenl (.s 29)), none⟩,
 ⟨(some 31), .p (.bin .lss (.s 28) (.s 30)), none⟩] [1, 2, 3, 9, 10, 11, 31])
 (.cond (.s 31) .skip (.exit 0)))
 (.seq (.block 1 (.seq (.seq (.reg [⟨(some 34), .p (.mv (.s 10)), none⟩,
 ⟨(some 35), .p (.mv (.s 10)), none⟩,
 ⟨(some 36), .p (.mv (.s 11)), none⟩,
 ⟨(some 37), .p (.iadr 8 (.s 35) (.s 36)), none⟩,
 ⟨(some 38), .p (.ldn 8 (.s 37)), none⟩,
 ⟨(some 39), .p (.mv (.s 2)), none⟩,
 ⟨(some 40), .p (.mv (.s 3)), none⟩,
 ⟨(some 41), .e (.call N.joistref06_Lives [(.s 34), (.s 38), (.s 39), (.s 40)] true), none⟩,
 ⟨(some 42), .p (.un .not (.s 41)), none⟩] [1, 2, 3, 9, 10, 11, 42])
 (.cond (.s 42) (.exit 1) .skip))
 (.seq (.reg [⟨(some 12), .p (.mv (.c (.int .i64 0))), none⟩] [1, 2, 3, 9, 10, 11, 12])
 (.seq (.seq (.reg [⟨(some 13), .p (.mv (.c (.int .i64 0))), none⟩] [1, 2, 3, 9, 10, 11, 12, 13])
 (.block 2 (.loop (.seq (.seq (.reg [⟨(some 43), .p (.mv (.s 13)), none⟩,
 ⟨(some 44), .p (.mv (.s 10)), none⟩,
 ⟨(some 45), .p (.lenl (.s 44)), none⟩,
 ⟨(some 46), .p (.bin .lss (.s 43) (.s 45)), none⟩] [1, 2, 3, 9, 10, 11, 12, 13, 46])
 (.cond (.s 46) .skip (.exit 2)))
 (.seq (.block 3 (.seq (.regD [⟨(some 49), .p (.mv (.s 10)), none⟩,
 ⟨(some 50), .p (.mv (.s 13)), none⟩,
 ⟨(some 51), .p (.iadr 8 (.s 49) (.s 50)), none⟩,
 ⟨(some 52), .p (.foff 0 (.s 51)), none⟩,
 ⟨(some 53), .p (.ld (.s 52)), none⟩,
 ⟨(some 54), .p (.mv (.s 10)), none⟩,
 ⟨(some 55), .p (.mv (.s 11)), none⟩,
 ⟨(some 56), .p (.iadr 8 (.s 54) (.s 55)), none⟩,
 ⟨(some 57), .p (.foff 0 (.s 56)), none⟩,
 ⟨(some 58), .p (.ld (.s 57)), none⟩,
 ⟨(some 59), .p (.bin .eql (.s 53) (.s 58)), none⟩,
 ⟨(some 60), .p (.mv (.s 59)), none⟩,
 ⟨(some 61), .p (.mv (.s 10)), (some (60, true))⟩,
 ⟨(some 62), .p (.mv (.s 13)), (some (60, true))⟩,
 ⟨(some 63), .p (.iadr 8 (.s 61) (.s 62)), (some (60, true))⟩,
 ⟨(some 64), .p (.foff 1 (.s 63)), (some (60, true))⟩,
 ⟨(some 65), .p (.ld (.s 64)), (some (60, true))⟩,
 ⟨(some 66), .p (.mv (.s 10)), (some (60, true))⟩,
 ⟨(some 67), .p (.mv (.s 11)), (some (60, true))⟩,
 ⟨(some 68), .p (.iadr 8 (.s 66) (.s 67)), (some (60, true))⟩,
 ⟨(some 69), .p (.foff 1 (.s 68)), (some (60, true))⟩,
 ⟨(some 70), .p (.ld (.s 69)), (some (60, true))⟩,
 ⟨(some 71), .p (.bin .eql (.s 65) (.s 70)), (some (60, true))⟩,
 ⟨(some 72), .p (.pick (.s 60) (.s 71) (.c (.bool false))), none⟩,
 ⟨(some 73), .p (.mv (.s 72)), none⟩,
 ⟨(some 74), .p (.mv (.s 10)), (some (73, true))⟩,
 ⟨(some 75), .p (.mv (.s 13)), (some (73, true))⟩,
 ⟨(some 76), .p (.iadr 8 (.s 74) (.s 75)), (some (73, true))⟩,
 ⟨(some 77), .p (.foff 2 (.s 76)), (some (73, true))⟩,
 ⟨(some 78), .p (.ld (.s 77)), (some (73, true))⟩,
 ⟨(some 79), .p (.mv (.s 10)), (some (73, true))⟩,
 ⟨(some 80), .p (.mv (.s 11)), (some (73, true))⟩,
 ⟨(some 81), .p (.iadr 8 (.s 79) (.s 80)), (some (73, true))⟩,
 ⟨(some 82), .p (.foff 2 (.s 81)), (some (73, true))⟩,
 ⟨(some 83), .p (.ld (.s 82)), (some (73, true))⟩,
 ⟨(some 84), .p (.bin .eql (.s 78) (.s 83)), (some (73, true))⟩,
 ⟨(some 85), .p (.pick (.s 73) (.s 84) (.c (.bool false))), none⟩,
 ⟨(some 86), .p (.mv (.s 85)), none⟩,
 ⟨(some 87), .p (.mv (.s 10)), (some (86, true))⟩,
 ⟨(some 88), .p (.mv (.s 13)), (some (86, true))⟩,
 ⟨(some 89), .p (.iadr 8 (.s 87) (.s 88)), (some (86, true))⟩,
 ⟨(some 90), .p (.foff 3 (.s 89)), (some (86, true))⟩,
 ⟨(some 91), .p (.ld (.s 90)), (some (86, true))⟩,
 ⟨(some 92), .p (.mv (.s 10)), (some (86, true))⟩,
 ⟨(some 93), .p (.mv (.s 11)), (some (86, true))⟩,
 ⟨(some 94), .p (.iadr 8 (.s 92) (.s 93)), (some (86, true))⟩,
 ⟨(some 95), .p (.foff 3 (.s 94)), (some (86, true))⟩,
 ⟨(some 96), .p (.ld (.s 95)), (some (86, true))⟩,
 ⟨(some 97), .p (.bin .gtr (.s 91) (.s 96)), (some (86, true))⟩,
 ⟨(some 98), .p (.pick (.s 86) (.s 97) (.c (.bool false))), none⟩,
 ⟨(some 99), .p (.mv (.s 98)), none⟩,
 ⟨(some 100), .p (.mv (.s 10)), (some (99, true))⟩,
 ⟨(some 101), .p (.mv (.s 10)), (some (99, true))⟩,
 ⟨(some 102), .p (.mv (.s 13)), (some (99, true))⟩,
 ⟨(some 103), .p (.iadr 8 (.s 101) (.s 102)), (some (99, true))⟩,
 ⟨(some 104), .p (.ldn 8 (.s 103)), (some (99, true))⟩,
 ⟨(some 105), .p (.mv (.s 2)), (some (99, true))⟩,
 ⟨(some 106), .p (.mv (.s 3)), (some (99, true))⟩,
 ⟨(some 107), .e (.call N.joistref06_Lives [(.s 100), (.s 104), (.s 105), (.s 106)] true), (some (99, true))⟩,
 ⟨(some 108), .p (.pick (.s 99) (.s 107) (.c (.bool false))), none⟩] [0, 1, 2, 3, 4, 5, 6, 7, 8, 9, 10, 11, 12, 13, 14, 15, 16, 17, 18, 19, 20, 21, 22, 23, 24, 25, 26, 27, 28, 29, 30, 31, 32, 33, 34, 35, 36, 37, 38, 39, 40, 41, 42, 43, 44, 45, 46, 47, 48, 49, 50, 51, 52, 53, 54, 55, 56, 57, 58, 59] [1, 2, 3, 9, 10, 11, 12, 13, 108])
 (.cond (.s 108) (.reg [⟨(some 109), .p (.mv (.s 12)), none⟩,
 ⟨(some 110), .p (.bin .add (.s 109) (.c (.int .i64 1))), none⟩,
 ⟨(some 12), .p (.mv (.s 110)), none⟩] [1, 2, 3, 9, 10, 11, 12, 13]) .skip)))
 (.reg [⟨(some 47), .p (.mv (.s 13)), none⟩,
 ⟨(some 48), .p (.bin .add (.s 47) (.c (.int .i64 1))), none⟩,
 ⟨(some 13), .p (.mv (.s 48)), none⟩] [1, 2, 3, 9, 10, 11, 12, 13]))) [1, 2, 3, 9, 10, 11, 12, 13])))
 (.seq (.reg [⟨(some 111), .p (.mv (.s 12)), none⟩,
 ⟨(some 112), .p (.mv (.s 1)), none⟩,
 ⟨(some 113), .p (.bin .lss (.s 111) (.s 112)), none⟩] [1, 2, 3, 9, 10, 11, 113])
 (.cond (.s 113) (.reg [⟨(some 114), .p (.mv (.s 9)), none⟩,
 ⟨(some 115), .p (.mv (.s 10)), none⟩,
 ⟨(some 116), .p (.mv (.s 11)), none⟩,
 ⟨(some 117), .p (.iadr 8 (.s 115) (.s 116)), none⟩,
 ⟨(some 118), .p (.ldn 8 (.s 117)), none⟩,
 ⟨(some 119), .e (.bsl 8 1 [.str [], .str [], .str [], .int .i64 0, .int .i64 0, .int .i64 0, .int .i64 0, .str []] [(0, 8, (.s 118))]), none⟩,
 ⟨(some 120), .e (.app 8 96 (.s 114) (.s 119)), none⟩,
 ⟨(some 9), .p (.mv (.s 120)), none⟩] [1, 2, 3, 9, 10, 11]) .skip))))))
 (.reg [⟨(some 32), .p (.mv (.s 11)), none⟩,
 ⟨(some 33), .p (.bin .add (.s 32) (.c (.int .i64 1))), none⟩,
 ⟨(some 11), .p (.mv (.s 33)), none⟩] [1, 2, 3, 9, 10, 11]))) [1, 2, 3, 9, 10, 11])))
 (.seq (.reg [⟨(some 121), .p (.mv (.s 9)), none⟩,
 ⟨(some 8), .p (.mv (.s 121)), none⟩] [8])
 .ret))))))⟩

def F.plan_Visible : LFunc := ⟨67, [.cn 4 7, .t 5], 
 (.seq (.reg [⟨(some 2), .e (.box 10 (.s 0)), none⟩,
 ⟨(some 3), .e (.box 16 (.s 1)), none⟩,
 ⟨(some 4), .e (.alloc [.psl [], .str [], .str [], .int .i64 0, .int .i64 0, .int .i64 0, .int .i64 0]), none⟩,
 ⟨(some 5), .p (.mv (.c (.psl []))), none⟩] [2, 3, 4])
 (.seq (.seq (.reg [⟨(some 11), .p (.foff 0 (.s 3)), none⟩,
 ⟨(some 12), .p (.ld (.s 11)), none⟩,
 ⟨(some 13), .p (.bin .neq (.s 12) (.c (.int .i64 3))), none⟩,
 ⟨(some 14), .p (.mv (.s 13)), none⟩,
 ⟨(some 15), .p (.ldn 10 (.s 2)), (some (14, false))⟩,
 ⟨(some 16), .p (.ldn 16 (.s 3)), (some (14, false))⟩,
 ⟨(some 17), .e (.call N.plan_Check [(.s 15), (.s 16)] true), (some (14, false))⟩,
 ⟨(some 18), .p (.bin .neq (.s 17) (.c (.int .i64 0))), (some (14, false))⟩,
 ⟨(some 19), .p (.pick (.s 14) (.c (.bool true)) (.s 18)), none⟩] [2, 3, 4, 19])
 (.cond (.s 19) (.seq (.reg [⟨(some 20), .p (.build [.psl [], .str [], .str [], .int .i64 0, .int .i64 0, .int .i64 0, .int .i64 0] []), none⟩,
 ⟨none, .e (.stn 7 (.s 4) (.s 20)), none⟩,
 ⟨(some 5), .p (.mv (.c (.psl []))), none⟩] [4, 5])
 .ret) .skip))
 (.seq (.reg [⟨(some 6), .e (.vnil 5), none⟩] [2, 3, 4, 6])
 (.seq (.seq (.reg [⟨(some 21), .p (.foff 1 (.s 2)), none⟩,
 ⟨(some 22), .p (.ld (.s 21)), none⟩,
 ⟨(some 23), .p (.lenl (.s 22)), none⟩,
 ⟨(some 24), .p (.mv (.c (.int .i64 0))), none⟩] [3, 4, 6, 22, 23, 24])
 (.block 0 (.loop (.seq (.reg [⟨(some 25), .p (.bin .lss (.s 24) (.s 23)), none⟩] [3, 4, 6, 22, 23, 24, 25])
 (.seq (.cond (.s 25) .skip (.exit 0))
 (.seq (.block 1 (.seq (.reg [⟨(some 26), .p (.iadr 5 (.s 22) (.s 24)), none⟩,
 ⟨(some 27), .p (.ldn 5 (.s 26)), none⟩,
 ⟨(some 8), .e (.alloc [.str [], .int .i64 0, .int .i64 0, .psl [], .psl []]), none⟩,
 ⟨none, .e (.stn 5 (.s 8) (.s 27)), none⟩] [3, 4, 6, 8, 22, 23, 24])
 (.seq (.reg [⟨(some 29), .p (.ldn 5 (.s 8)), none⟩,
 ⟨(some 30), .e (.call N.schema_Read [(.s 29)] true), none⟩,
 ⟨(some 28), .p (.mv (.s 30)), none⟩,
 ⟨(some 31), .p (.ext (.s 28) 0), none⟩,
 ⟨(some 32), .p (.ext (.s 28) 1), none⟩,
 ⟨(some 9), .p (.mv (.s 31)), none⟩,
 ⟨(some 10), .p (.mv (.s 32)), none⟩] [3, 4, 6, 8, 9, 10, 22, 23, 24])
 (.seq (.reg [⟨(some 33), .p (.mv (.s 10)), none⟩,
 ⟨(some 34), .p (.mv (.s 33)), none⟩,
 ⟨(some 35), .p (.foff 9 (.s 3)), (some (34, true))⟩,
 ⟨(some 36), .p (.foff 0 (.s 35)), (some (34, true))⟩,
 ⟨(some 37), .p (.ld (.s 36)), (some (34, true))⟩,
 ⟨(some 38), .p (.lenl (.s 37)), (some (34, true))⟩,
 ⟨(some 39), .p (.bin .eql (.s 38) (.c (.int .i64 0))), (some (34, true))⟩,
 ⟨(some 40), .p (.mv (.s 39)), (some (34, true))⟩,
 ⟨(some 41), .p (.foff 9 (.s 3)), (some (40, false))⟩,
 ⟨(some 42), .p (.foff 0 (.s 41)), (some (40, false))⟩,
 ⟨(some 43), .p (.ld (.s 42)), (some (40, false))⟩,
 ⟨(some 44), .p (.foff 0 (.s 8)), (some (40, false))⟩,
 ⟨(some 45), .p (.ld (.s 44)), (some (40, false))⟩,
 ⟨(some 46), .e (.call N.slices_Contains_string_string_ [(.s 43), (.s 45)] true), (some (40, false))⟩,
 ⟨(some 47), .p (.pick (.s 40) (.c (.bool true)) (.s 46)), (some (34, true))⟩,
 ⟨(some 48), .p (.pick (.s 34) (.s 47) (.c (.bool false))), none⟩] [3, 4, 6, 8, 9, 22, 23, 24, 48])
 (.cond (.s 48) (.regD [⟨(some 49), .p (.mv (.s 6)), none⟩,
 ⟨(some 50), .p (.foff 0 (.s 8)), none⟩,
 ⟨(some 51), .p (.ld (.s 50)), none⟩,
 ⟨(some 52), .p (.mv (.s 9)), none⟩,
 ⟨(some 53), .p (.foff 1 (.s 8)), none⟩,
 ⟨(some 54), .p (.ld (.s 53)), none⟩,
 ⟨(some 55), .p (.foff 2 (.s 8)), none⟩,
 ⟨(some 56), .p (.ld (.s 55)), none⟩,
 ⟨(some 57), .p (.ldn 5 (.s 8)), none⟩,
 ⟨(some 58), .e (.call N.plan_quals [(.s 57)] true), none⟩,
 ⟨(some 51), .s (.ld (.s 50)), none⟩,
 ⟨(some 54), .s (.ld (.s 53)), none⟩,
 ⟨(some 56), .s (.ld (.s 55)), none⟩,
 ⟨(some 59), .p (.build [.str [], .int .i64 0, .int .i64 0, .int .i64 0, .psl []] [(0, 1, (.s 51)), (1, 1, (.s 52)), (2, 1, (.s 54)), (3, 1, (.s 56)), (4, 1, (.s 58))]), none⟩,
 ⟨none, .b 5 1 [.str [], .int .i64 0, .int .i64 0, .int .i64 0, .psl []] [(0, 5, (.s 59))], none⟩,
 ⟨(some 60), .e (.bsl 5 1 [.str [], .int .i64 0, .int .i64 0, .int .i64 0, .psl []] [(0, 5, (.s 59))]), none⟩,
 ⟨(some 61), .e (.app 5 64 (.s 49) (.s 60)), none⟩,
 ⟨(some 6), .p (.mv (.s 61)), none⟩] [0, 1, 2, 3, 4, 5, 6, 7, 8, 9, 10, 11, 12, 13] [3, 4, 6, 22, 23, 24]) .skip)))))
 (.reg [⟨(some 62), .p (.bin .add (.s 24) (.c (.int .i64 1))), none⟩,
 ⟨(some 24), .p (.mv (.s 62)), none⟩] [3, 4, 6, 22, 23, 24])))) [3, 4, 6, 22, 23, 24])))
 (.seq (.reg [⟨(some 63), .p (.foff 9 (.s 3)), none⟩,
 ⟨(some 64), .p (.ldn 7 (.s 63)), none⟩,
 ⟨(some 65), .e (.call N.filter_Clone [(.s 64)] true), none⟩,
 ⟨(some 66), .p (.mv (.s 6)), none⟩,
 ⟨none, .e (.stn 7 (.s 4) (.s 65)), none⟩,
 ⟨(some 5), .p (.mv (.s 66)), none⟩] [4, 5])
 .ret)))))⟩

def F.plan_Check : LFunc := ⟨45, [.t 4], 
 (.seq (.reg [⟨(some 2), .e (.box 10 (.s 0)), none⟩,
 ⟨(some 3), .e (.box 16 (.s 1)), none⟩,
 ⟨(some 4), .p (.mv (.c (.int .i64 0))), none⟩] [2, 3])
 (.seq (.seq (.reg [⟨(some 7), .p (.ldn 10 (.s 2)), none⟩,
 ⟨(some 8), .e (.call N.schema_Right [(.s 7)] true), none⟩,
 ⟨(some 9), .p (.un .not (.s 8)), none⟩,
 ⟨(some 10), .p (.mv (.s 9)), none⟩,
 ⟨(some 11), .p (.ldn 16 (.s 3)), (some (10, false))⟩,
 ⟨(some 12), .e (.call N.plan_Formed [(.s 11)] true), (some (10, false))⟩,
 ⟨(some 13), .p (.un .not (.s 12)), (some (10, false))⟩,
 ⟨(some 14), .p (.pick (.s 10) (.c (.bool true)) (.s 13)), none⟩] [2, 3, 14])
 (.cond (.s 14) (.seq (.reg [⟨(some 4), .p (.mv (.c (.int .i64 10))), none⟩] [4])
 .ret) .skip))
 (.seq (.reg [⟨(some 15), .p (.ldn 10 (.s 2)), none⟩,
 ⟨(some 16), .p (.build [.int .i64 0, .psl [], .int .i64 0, .str [], .str [], .int .i64 0, .int .i64 0, .int .i64 0, .int .i64 0, .int .i64 0] [(0, 10, (.s 15))]), none⟩,
 ⟨(some 5), .e (.alloc [.int .i64 0, .psl [], .int .i64 0, .str [], .str [], .int .i64 0, .int .i64 0, .int .i64 0, .int .i64 0, .int .i64 0]), none⟩,
 ⟨none, .e (.stn 10 (.s 5) (.s 16)), none⟩] [3, 5])
 (.seq (.seq (.reg [⟨(some 17), .p (.foff 0 (.s 3)), none⟩,
 ⟨(some 18), .p (.ld (.s 17)), none⟩,
 ⟨(some 19), .p (.bin .eql (.s 18) (.c (.int .i64 3))), none⟩] [3, 5, 19])
 (.cond (.s 19) (.seq (.reg [⟨(some 20), .p (.foff 9 (.s 3)), none⟩,
 ⟨(some 21), .p (.foff 0 (.s 20)), none⟩,
 ⟨(some 22), .p (.ld (.s 21)), none⟩,
 ⟨(some 23), .p (.ldn 10 (.s 5)), none⟩,
 ⟨(some 24), .p (.mkfn N.plan_view_named [(.s 23)] []), none⟩,
 ⟨(some 25), .e (.call N.plan_first_string [(.s 22), (.s 24)] true), none⟩,
 ⟨(some 4), .p (.mv (.s 25)), none⟩] [4])
 .ret) .skip))
 (.seq (.seq (.reg [⟨(some 26), .p (.foff 0 (.s 3)), none⟩,
 ⟨(some 27), .p (.ld (.s 26)), none⟩,
 ⟨(some 28), .p (.bin .eql (.s 27) (.c (.int .i64 2))), none⟩] [3, 5, 28])
 (.cond (.s 28) (.seq (.reg [⟨(some 29), .p (.ldn 10 (.s 5)), none⟩,
 ⟨(some 30), .p (.foff 4 (.s 3)), none⟩,
 ⟨(some 31), .p (.ld (.s 30)), none⟩,
 ⟨(some 32), .p (.foff 5 (.s 3)), none⟩,
 ⟨(some 33), .p (.ld (.s 32)), none⟩,
 ⟨(some 34), .p (.foff 6 (.s 3)), none⟩,
 ⟨(some 35), .p (.ldn 3 (.s 34)), none⟩,
 ⟨(some 36), .e (.call N.plan_view_value [(.s 29), (.s 31), (.s 33), (.s 35)] true), none⟩,
 ⟨(some 6), .p (.mv (.s 36)), none⟩] [3, 5, 6])
 (.seq (.reg [⟨(some 37), .p (.mv (.s 6)), none⟩,
 ⟨(some 38), .p (.bin .neq (.s 37) (.c (.int .i64 0))), none⟩] [3, 5, 6, 38])
 (.cond (.s 38) (.seq (.reg [⟨(some 39), .p (.mv (.s 6)), none⟩,
 ⟨(some 4), .p (.mv (.s 39)), none⟩] [4])
 .ret) .skip))) .skip))
 (.seq (.reg [⟨(some 40), .p (.foff 3 (.s 3)), none⟩,
 ⟨(some 41), .p (.ld (.s 40)), none⟩,
 ⟨(some 42), .p (.ldn 10 (.s 5)), none⟩,
 ⟨(some 43), .p (.mkfn N.plan_view_mut [(.s 42)] []), none⟩,
 ⟨(some 44), .e (.call N.plan_first_apiMut [(.s 41), (.s 43)] true), none⟩,
 ⟨(some 4), .p (.mv (.s 44)), none⟩] [4])
 .ret))))))⟩

def F.joistref00_Texts : LFunc := ⟨42, [.t 4], 
 (.seq (.reg [⟨(some 4), .p (.mv (.c (.int .i64 0))), none⟩] [0, 1])
 (.seq (.seq (.reg [⟨(some 5), .p (.mv (.c (.int .i64 0))), none⟩] [0, 1, 5])
 (.block 0 (.loop (.seq (.seq (.reg [⟨(some 6), .p (.mv (.s 5)), none⟩,
 ⟨(some 7), .p (.mv (.s 0)), none⟩,
 ⟨(some 8), .p (.lens (.s 7)), none⟩,
 ⟨(some 9), .p (.bin .lss (.s 6) (.s 8)), none⟩,
 ⟨(some 10), .p (.mv (.s 9)), none⟩,
 ⟨(some 11), .p (.mv (.s 5)), (some (10, true))⟩,
 ⟨(some 12), .p (.mv (.s 1)), (some (10, true))⟩,
 ⟨(some 13), .p (.lens (.s 12)), (some (10, true))⟩,
 ⟨(some 14), .p (.bin .lss (.s 11) (.s 13)), (some (10, true))⟩,
 ⟨(some 15), .p (.pick (.s 10) (.s 14) (.c (.bool false))), none⟩] [0, 1, 5, 15])
 (.cond (.s 15) .skip (.exit 0)))
 (.seq (.block 1 (.seq (.regD [⟨(some 18), .p (.mv (.s 0)), none⟩,
 ⟨(some 19), .p (.mv (.s 5)), none⟩,
 ⟨(some 20), .p (.idxs (.s 18) (.s 19)), none⟩,
 ⟨(some 21), .p (.mv (.s 1)), none⟩,
 ⟨(some 22), .p (.mv (.s 5)), none⟩,
 ⟨(some 23), .p (.idxs (.s 21) (.s 22)), none⟩,
 ⟨(some 24), .p (.bin .neq (.s 20) (.s 23)), none⟩] [0, 1, 2, 3, 4, 5, 6] [0, 1, 5, 24])
 (.cond (.s 24) (.seq (.seq (.regD [⟨(some 25), .p (.mv (.s 0)), none⟩,
 ⟨(some 26), .p (.mv (.s 5)), none⟩,
 ⟨(some 27), .p (.idxs (.s 25) (.s 26)), none⟩,
 ⟨(some 28), .p (.mv (.s 1)), none⟩,
 ⟨(some 29), .p (.mv (.s 5)), none⟩,
 ⟨(some 30), .p (.idxs (.s 28) (.s 29)), none⟩,
 ⟨(some 31), .p (.bin .lss (.s 27) (.s 30)), none⟩] [0, 1, 2, 3, 4, 5, 6] [31])
 (.cond (.s 31) (.seq (.reg [⟨(some 4), .p (.mv (.c (.int .i64 (-1)))), none⟩] [4])
 .ret) .skip))
 (.seq (.reg [⟨(some 4), .p (.mv (.c (.int .i64 1))), none⟩] [4])
 .ret)) .skip)))
 (.reg [⟨(some 16), .p (.mv (.s 5)), none⟩,
 ⟨(some 17), .p (.bin .add (.s 16) (.c (.int .i64 1))), none⟩,
 ⟨(some 5), .p (.mv (.s 17)), none⟩] [0, 1, 5]))) [0, 1, 5])))
 (.seq (.seq (.reg [⟨(some 32), .p (.mv (.s 0)), none⟩,
 ⟨(some 33), .p (.lens (.s 32)), none⟩,
 ⟨(some 34), .p (.mv (.s 1)), none⟩,
 ⟨(some 35), .p (.lens (.s 34)), none⟩,
 ⟨(some 36), .p (.bin .lss (.s 33) (.s 35)), none⟩] [0, 1, 36])
 (.cond (.s 36) (.seq (.reg [⟨(some 4), .p (.mv (.c (.int .i64 (-1)))), none⟩] [4])
 .ret) .skip))
 (.seq (.seq (.reg [⟨(some 37), .p (.mv (.s 0)), none⟩,
 ⟨(some 38), .p (.lens (.s 37)), none⟩,
 ⟨(some 39), .p (.mv (.s 1)), none⟩,
 ⟨(some 40), .p (.lens (.s 39)), none⟩,
 ⟨(some 41), .p (.bin .gtr (.s 38) (.s 40)), none⟩] [41])
 (.cond (.s 41) (.seq (.reg [⟨(some 4), .p (.mv (.c (.int .i64 1))), none⟩] [4])
 .ret) .skip))
 (.seq (.reg [⟨(some 4), .p (.mv (.c (.int .i64 0))), none⟩] [4])
 .ret)))))⟩

def F.plan_Formed : LFunc := ⟨49, [.t 2], 
 (.seq (.reg [⟨(some 1), .e (.box 16 (.s 0)), none⟩,
 ⟨(some 2), .p (.mv (.c (.bool false))), none⟩] [1])
 (.seq (.seq (.reg [⟨(some 3), .p (.foff 0 (.s 1)), none⟩,
 ⟨(some 4), .p (.ld (.s 3)), none⟩] [1, 4])
 (.block 0 (.seq (.reg [⟨(some 6), .p (.bin .eql (.s 4) (.c (.int .i64 3))), none⟩,
 ⟨(some 5), .p (.mv (.s 6)), none⟩] [1, 4, 5])
 (.cond (.s 5) (.seq (.reg [⟨(some 7), .p (.ldn 16 (.s 1)), none⟩,
 ⟨(some 8), .e (.call N.plan_read [(.s 7)] true), none⟩,
 ⟨(some 2), .p (.mv (.s 8)), none⟩] [2])
 .ret) (.seq (.reg [⟨(some 10), .p (.bin .eql (.s 4) (.c (.int .i64 1))), none⟩,
 ⟨(some 9), .p (.mv (.s 10)), none⟩] [1, 4, 9])
 (.cond (.s 9) (.seq (.reg [⟨(some 11), .p (.ldn 16 (.s 1)), none⟩,
 ⟨(some 12), .e (.call N.plan_write [(.s 11)] true), none⟩,
 ⟨(some 13), .p (.mv (.s 12)), none⟩,
 ⟨(some 14), .p (.foff 4 (.s 1)), (some (13, true))⟩,
 ⟨(some 15), .p (.ld (.s 14)), (some (13, true))⟩,
 ⟨(some 16), .p (.bin .eql (.s 15) (.c (.str []))), (some (13, true))⟩,
 ⟨(some 17), .p (.pick (.s 13) (.s 16) (.c (.bool false))), none⟩,
 ⟨(some 18), .p (.mv (.s 17)), none⟩,
 ⟨(some 19), .p (.foff 5 (.s 1)), (some (18, true))⟩,
 ⟨(some 20), .p (.ld (.s 19)), (some (18, true))⟩,
 ⟨(some 21), .p (.bin .eql (.s 20) (.c (.str []))), (some (18, true))⟩,
 ⟨(some 22), .p (.pick (.s 18) (.s 21) (.c (.bool false))), none⟩,
 ⟨(some 23), .p (.mv (.s 22)), none⟩,
 ⟨(some 24), .p (.foff 6 (.s 1)), (some (23, true))⟩,
 ⟨(some 25), .p (.ldn 3 (.s 24)), (some (23, true))⟩,
 ⟨(some 26), .e (.call N.plan_none [(.s 25)] true), (some (23, true))⟩,
 ⟨(some 27), .p (.pick (.s 23) (.s 26) (.c (.bool false))), none⟩,
 ⟨(some 2), .p (.mv (.s 27)), none⟩] [2])
 .ret) (.seq (.reg [⟨(some 29), .p (.bin .eql (.s 4) (.c (.int .i64 2))), none⟩,
 ⟨(some 28), .p (.mv (.s 29)), none⟩] [1, 28])
 (.cond (.s 28) (.seq (.reg [⟨(some 30), .p (.ldn 16 (.s 1)), none⟩,
 ⟨(some 31), .e (.call N.plan_write [(.s 30)] true), none⟩,
 ⟨(some 32), .p (.mv (.s 31)), none⟩,
 ⟨(some 33), .p (.foff 4 (.s 1)), (some (32, true))⟩,
 ⟨(some 34), .p (.ld (.s 33)), (some (32, true))⟩,
 ⟨(some 35), .p (.foff 5 (.s 1)), (some (32, true))⟩,
 ⟨(some 36), .p (.ld (.s 35)), (some (32, true))⟩,
 ⟨(some 37), .e (.call N.plan_column [(.s 34), (.s 36)] true), (some (32, true))⟩,
 ⟨(some 38), .p (.pick (.s 32) (.s 37) (.c (.bool false))), none⟩,
 ⟨(some 39), .p (.mv (.s 38)), none⟩,
 ⟨(some 40), .p (.foff 6 (.s 1)), (some (39, true))⟩,
 ⟨(some 41), .p (.ldn 3 (.s 40)), (some (39, true))⟩,
 ⟨(some 42), .e (.call N.plan_none [(.s 41)] true), (some (39, true))⟩,
 ⟨(some 43), .p (.mv (.s 42)), (some (39, true))⟩,
 ⟨(some 44), .p (.foff 6 (.s 1)), (some (43, false))⟩,
 ⟨(some 45), .p (.ldn 3 (.s 44)), (some (43, false))⟩,
 ⟨(some 46), .e (.call N.val_Right [(.s 45)] true), (some (43, false))⟩,
 ⟨(some 47), .p (.pick (.s 43) (.c (.bool true)) (.s 46)), (some (39, true))⟩,
 ⟨(some 48), .p (.pick (.s 39) (.s 47) (.c (.bool false))), none⟩,
 ⟨(some 2), .p (.mv (.s 48)), none⟩] [2])
 .ret) .skip))))))))
 (.seq (.reg [⟨(some 2), .p (.mv (.c (.bool false))), none⟩] [2])
 .ret)))⟩

def F.joistlaw16_one : LFunc := ⟨9, [.cn 0 10], 
 (.seq (.reg [⟨(some 0), .e (.alloc [.int .i64 0, .psl [], .int .i64 0, .str [], .str [], .int .i64 0, .int .i64 0, .int .i64 0, .int .i64 0, .int .i64 0]), none⟩] [0])
 (.seq (.reg [⟨(some 1), .p (.build [.int .i64 0, .int .i64 0] [(1, 1, (.c (.int .i64 3)))]), none⟩,
 ⟨(some 2), .e (.bsl 2 1 [.int .i64 0, .int .i64 0] [(0, 2, (.s 1))]), none⟩,
 ⟨(some 3), .p (.build [.str [], .int .i64 0, .int .i64 0] [(0, 1, (.c (.str [112]))), (1, 1, (.c (.int .i64 1))), (2, 1, (.c (.int .i64 3)))]), none⟩,
 ⟨(some 4), .p (.build [.str [], .int .i64 0, .int .i64 0] [(0, 1, (.c (.str [113]))), (1, 1, (.c (.int .i64 1))), (2, 1, (.c (.int .i64 3)))]), none⟩,
 ⟨(some 5), .e (.bsl 3 2 [.str [], .int .i64 0, .int .i64 0] [(0, 3, (.s 3)), (3, 3, (.s 4))]), none⟩,
 ⟨(some 6), .p (.build [.str [], .int .i64 0, .int .i64 0, .psl [], .psl []] [(0, 1, (.c (.str [102]))), (1, 1, (.c (.int .i64 1))), (3, 1, (.s 2)), (4, 1, (.s 5))]), none⟩,
 ⟨(some 7), .e (.bslz 5 1 [.str [], .int .i64 0, .int .i64 0, .psl [], .psl []] [(0, 5, (.s 6))]), none⟩,
 ⟨(some 8), .p (.build [.int .i64 0, .psl [], .int .i64 0, .str [], .str [], .int .i64 0, .int .i64 0, .int .i64 0, .int .i64 0, .int .i64 0] [(0, 1, (.c (.int .i64 1))), (1, 1, (.s 7))]), none⟩,
 ⟨none, .e (.stn 10 (.s 0) (.s 8)), none⟩] [0])
 .ret))⟩

def F.slices_ContainsFunc_api_Cell_api_Cell_ : LFunc := ⟨9, [.t 4], 
 (.seq (.reg [⟨(some 4), .p (.mv (.c (.bool false))), none⟩] [0, 1])
 (.seq (.reg [⟨(some 5), .p (.mv (.s 0)), none⟩,
 ⟨(some 6), .p (.mv (.s 1)), none⟩,
 ⟨(some 7), .e (.call N.slices_IndexFunc_api_Cell_api_Cell_ [(.s 5), (.s 6)] true), none⟩,
 ⟨(some 8), .p (.bin .geq (.s 7) (.c (.int .i64 0))), none⟩,
 ⟨(some 4), .p (.mv (.s 8)), none⟩] [4])
 .ret))⟩

def F.plan_Layouts_1 : LFunc := ⟨9, [.t 3], 
 (.seq (.reg [⟨(some 2), .e (.box 8 (.s 0)), none⟩,
 ⟨(some 3), .p (.mv (.c (.bool false))), none⟩] [1, 2])
 (.seq (.reg [⟨(some 4), .p (.foff 1 (.s 2)), none⟩,
 ⟨(some 5), .p (.ld (.s 4)), none⟩,
 ⟨(some 6), .p (.foff 0 (.s 1)), none⟩,
 ⟨(some 7), .p (.ld (.s 6)), none⟩,
 ⟨(some 8), .p (.bin .eql (.s 5) (.s 7)), none⟩,
 ⟨(some 3), .p (.mv (.s 8)), none⟩] [3])
 .ret))⟩

def F.slices_Clone_api_Layout_api_Layout_ : LFunc := ⟨8, [.t 2], 
 (.seq (.reg [⟨(some 2), .p (.mv (.c (.psl []))), none⟩] [0])
 (.seq (.seq (.reg [⟨(some 3), .p (.mv (.s 0)), none⟩,
 ⟨(some 4), .e (.isnil false (.s 3)), none⟩] [0, 4])
 (.cond (.s 4) (.seq (.reg [⟨(some 2), .p (.mv (.c (.psl []))), none⟩] [2])
 .ret) .skip))
 (.seq (.reg [⟨(some 5), .e (.bsl 2 0 [.int .i64 0, .int .i64 0] []), none⟩,
 ⟨(some 6), .p (.mv (.s 0)), none⟩,
 ⟨(some 7), .e (.app 2 16 (.s 5) (.s 6)), none⟩,
 ⟨(some 2), .p (.mv (.s 7)), none⟩] [2])
 .ret)))⟩

def F.slices_IndexFunc_api_Layouted_api_Layouted_ : LFunc := ⟨19, [.t 4], 
 (.seq (.reg [⟨(some 4), .p (.mv (.c (.int .i64 0))), none⟩] [0, 1])
 (.seq (.seq (.reg [⟨(some 6), .p (.mv (.s 0)), none⟩,
 ⟨(some 7), .p (.lenl (.s 6)), none⟩,
 ⟨(some 8), .p (.mv (.c (.int .i64 0))), none⟩] [0, 1, 7, 8])
 (.block 0 (.loop (.seq (.reg [⟨(some 9), .p (.bin .lss (.s 8) (.s 7)), none⟩] [0, 1, 7, 8, 9])
 (.seq (.cond (.s 9) .skip (.exit 0))
 (.seq (.block 1 (.seq (.reg [⟨(some 10), .p (.mv (.s 8)), none⟩,
 ⟨(some 5), .p (.mv (.s 10)), none⟩] [0, 1, 5, 7, 8])
 (.seq (.reg [⟨(some 11), .p (.mv (.s 1)), none⟩,
 ⟨(some 12), .p (.mv (.s 0)), none⟩,
 ⟨(some 13), .p (.mv (.s 5)), none⟩,
 ⟨(some 14), .p (.iadr 2 (.s 12) (.s 13)), none⟩,
 ⟨(some 15), .p (.ldn 2 (.s 14)), none⟩,
 ⟨(some 16), .e (.callv (.s 11) [(.s 15)] true), none⟩] [0, 1, 5, 7, 8, 16])
 (.cond (.s 16) (.seq (.reg [⟨(some 17), .p (.mv (.s 5)), none⟩,
 ⟨(some 4), .p (.mv (.s 17)), none⟩] [4])
 .ret) .skip))))
 (.reg [⟨(some 18), .p (.bin .add (.s 8) (.c (.int .i64 1))), none⟩,
 ⟨(some 8), .p (.mv (.s 18)), none⟩] [0, 1, 7, 8])))) [0, 1, 7, 8])))
 (.seq (.reg [⟨(some 4), .p (.mv (.c (.int .i64 (-1)))), none⟩] [4])
 .ret)))⟩

def F.plan_Targets_1 : LFunc := ⟨9, [.t 3], 
 (.seq (.reg [⟨(some 2), .e (.box 2 (.s 0)), none⟩,
 ⟨(some 3), .p (.mv (.c (.bool false))), none⟩] [1, 2])
 (.seq (.reg [⟨(some 4), .p (.foff 0 (.s 2)), none⟩,
 ⟨(some 5), .p (.ld (.s 4)), none⟩,
 ⟨(some 6), .p (.foff 1 (.s 1)), none⟩,
 ⟨(some 7), .p (.ld (.s 6)), none⟩,
 ⟨(some 8), .p (.bin .eql (.s 5) (.s 7)), none⟩,
 ⟨(some 3), .p (.mv (.s 8)), none⟩] [3])
 .ret))⟩

def F.schema_Written : LFunc := ⟨5, [.t 2], 
 (.seq (.reg [⟨(some 1), .e (.box 5 (.s 0)), none⟩,
 ⟨(some 2), .p (.mv (.c (.psl []))), none⟩] [1])
 (.seq (.reg [⟨(some 3), .p (.ldn 5 (.s 1)), none⟩,
 ⟨(some 4), .e (.call N.schema_groups [(.s 3), (.c (.fn N.schema_Written_1 [] []))] true), none⟩,
 ⟨(some 2), .p (.mv (.s 4)), none⟩] [2])
 .ret))⟩

def F.schema_Gone : LFunc := ⟨5, [.t 2], 
 (.seq (.reg [⟨(some 1), .e (.box 5 (.s 0)), none⟩,
 ⟨(some 2), .p (.mv (.c (.psl []))), none⟩] [1])
 (.seq (.reg [⟨(some 3), .p (.ldn 5 (.s 1)), none⟩,
 ⟨(some 4), .e (.call N.schema_groups [(.s 3), (.c (.fn N.schema_Gone_1 [] []))] true), none⟩,
 ⟨(some 2), .p (.mv (.s 4)), none⟩] [2])
 .ret))⟩

def F.joistref00_LongRequest : LFunc := ⟨113, [.t 2], 
 (.seq (.reg [⟨(some 1), .e (.box 16 (.s 0)), none⟩,
 ⟨(some 2), .p (.mv (.c (.bool false))), none⟩] [1])
 (.seq (.seq (.reg [⟨(some 5), .p (.foff 1 (.s 1)), none⟩,
 ⟨(some 6), .p (.ld (.s 5)), none⟩,
 ⟨(some 7), .p (.lens (.s 6)), none⟩,
 ⟨(some 8), .p (.bin .gtr (.s 7) (.c (.int .i64 100))), none⟩,
 ⟨(some 9), .p (.mv (.s 8)), none⟩,
 ⟨(some 10), .p (.foff 2 (.s 1)), (some (9, false))⟩,
 ⟨(some 11), .p (.ld (.s 10)), (some (9, false))⟩,
 ⟨(some 12), .p (.lens (.s 11)), (some (9, false))⟩,
 ⟨(some 13), .p (.bin .gtr (.s 12) (.c (.int .i64 100))), (some (9, false))⟩,
 ⟨(some 14), .p (.pick (.s 9) (.c (.bool true)) (.s 13)), none⟩,
 ⟨(some 15), .p (.mv (.s 14)), none⟩,
 ⟨(some 16), .p (.foff 4 (.s 1)), (some (15, false))⟩,
 ⟨(some 17), .p (.ld (.s 16)), (some (15, false))⟩,
 ⟨(some 18), .p (.lens (.s 17)), (some (15, false))⟩,
 ⟨(some 19), .p (.bin .gtr (.s 18) (.c (.int .i64 100))), (some (15, false))⟩,
 ⟨(some 20), .p (.pick (.s 15) (.c (.bool true)) (.s 19)), none⟩,
 ⟨(some 21), .p (.mv (.s 20)), none⟩,
 ⟨(some 22), .p (.foff 5 (.s 1)), (some (21, false))⟩,
 ⟨(some 23), .p (.ld (.s 22)), (some (21, false))⟩,
 ⟨(some 24), .p (.lens (.s 23)), (some (21, false))⟩,
 ⟨(some 25), .p (.bin .gtr (.s 24) (.c (.int .i64 100))), (some (21, false))⟩,
 ⟨(some 26), .p (.pick (.s 21) (.c (.bool true)) (.s 25)), none⟩,
 ⟨(some 27), .p (.mv (.s 26)), none⟩,
 ⟨(some 28), .p (.foff 6 (.s 1)), (some (27, false))⟩,
 ⟨(some 29), .p (.foff 2 (.s 28)), (some (27, false))⟩,
 ⟨(some 30), .p (.ld (.s 29)), (some (27, false))⟩,
 ⟨(some 31), .p (.lens (.s 30)), (some (27, false))⟩,
 ⟨(some 32), .p (.bin .gtr (.s 31) (.c (.int .i64 100))), (some (27, false))⟩,
 ⟨(some 33), .p (.pick (.s 27) (.c (.bool true)) (.s 32)), none⟩,
 ⟨(some 34), .p (.mv (.s 33)), none⟩,
 ⟨(some 35), .p (.foff 3 (.s 1)), (some (34, false))⟩,
 ⟨(some 36), .p (.ld (.s 35)), (some (34, false))⟩,
 ⟨(some 37), .p (.lenl (.s 36)), (some (34, false))⟩,
 ⟨(some 38), .p (.bin .gtr (.s 37) (.c (.int .i64 20))), (some (34, false))⟩,
 ⟨(some 39), .p (.pick (.s 34) (.c (.bool true)) (.s 38)), none⟩,
 ⟨(some 40), .p (.mv (.s 39)), none⟩,
 ⟨(some 41), .p (.foff 9 (.s 1)), (some (40, false))⟩,
 ⟨(some 42), .p (.foff 0 (.s 41)), (some (40, false))⟩,
 ⟨(some 43), .p (.ld (.s 42)), (some (40, false))⟩,
 ⟨(some 44), .p (.lenl (.s 43)), (some (40, false))⟩,
 ⟨(some 45), .p (.bin .gtr (.s 44) (.c (.int .i64 20))), (some (40, false))⟩,
 ⟨(some 46), .p (.pick (.s 40) (.c (.bool true)) (.s 45)), none⟩,
 ⟨(some 47), .p (.mv (.s 46)), none⟩,
 ⟨(some 48), .p (.foff 9 (.s 1)), (some (47, false))⟩,
 ⟨(some 49), .p (.foff 1 (.s 48)), (some (47, false))⟩,
 ⟨(some 50), .p (.ld (.s 49)), (some (47, false))⟩,
 ⟨(some 51), .p (.lens (.s 50)), (some (47, false))⟩,
 ⟨(some 52), .p (.bin .gtr (.s 51) (.c (.int .i64 100))), (some (47, false))⟩,
 ⟨(some 53), .p (.pick (.s 47) (.c (.bool true)) (.s 52)), none⟩,
 ⟨(some 54), .p (.mv (.s 53)), none⟩,
 ⟨(some 55), .p (.foff 9 (.s 1)), (some (54, false))⟩,
 ⟨(some 56), .p (.foff 2 (.s 55)), (some (54, false))⟩,
 ⟨(some 57), .p (.ld (.s 56)), (some (54, false))⟩,
 ⟨(some 58), .p (.lens (.s 57)), (some (54, false))⟩,
 ⟨(some 59), .p (.bin .gtr (.s 58) (.c (.int .i64 100))), (some (54, false))⟩,
 ⟨(some 60), .p (.pick (.s 54) (.c (.bool true)) (.s 59)), none⟩] [1, 60])
 (.cond (.s 60) (.seq (.reg [⟨(some 2), .p (.mv (.c (.bool true))), none⟩] [2])
 .ret) .skip))
 (.seq (.seq (.reg [⟨(some 3), .p (.mv (.c (.int .i64 0))), none⟩] [1, 3])
 (.block 0 (.loop (.seq (.seq (.reg [⟨(some 61), .p (.mv (.s 3)), none⟩,
 ⟨(some 62), .p (.foff 9 (.s 1)), none⟩,
 ⟨(some 63), .p (.foff 0 (.s 62)), none⟩,
 ⟨(some 64), .p (.ld (.s 63)), none⟩,
 ⟨(some 65), .p (.lenl (.s 64)), none⟩,
 ⟨(some 66), .p (.bin .lss (.s 61) (.s 65)), none⟩] [1, 3, 66])
 (.cond (.s 66) .skip (.exit 0)))
 (.seq (.block 1 (.seq (.reg [⟨(some 69), .p (.foff 9 (.s 1)), none⟩,
 ⟨(some 70), .p (.foff 0 (.s 69)), none⟩,
 ⟨(some 71), .p (.ld (.s 70)), none⟩,
 ⟨(some 72), .p (.mv (.s 3)), none⟩,
 ⟨(some 73), .p (.iadr 1 (.s 71) (.s 72)), none⟩,
 ⟨(some 74), .p (.ld (.s 73)), none⟩,
 ⟨(some 75), .p (.lens (.s 74)), none⟩,
 ⟨(some 76), .p (.bin .gtr (.s 75) (.c (.int .i64 100))), none⟩] [1, 3, 76])
 (.cond (.s 76) (.seq (.reg [⟨(some 2), .p (.mv (.c (.bool true))), none⟩] [2])
 .ret) .skip)))
 (.reg [⟨(some 67), .p (.mv (.s 3)), none⟩,
 ⟨(some 68), .p (.bin .add (.s 67) (.c (.int .i64 1))), none⟩,
 ⟨(some 3), .p (.mv (.s 68)), none⟩] [1, 3]))) [1, 3])))
 (.seq (.seq (.reg [⟨(some 4), .p (.mv (.c (.int .i64 0))), none⟩] [1, 4])
 (.block 2 (.loop (.seq (.seq (.reg [⟨(some 77), .p (.mv (.s 4)), none⟩,
 ⟨(some 78), .p (.foff 3 (.s 1)), none⟩,
 ⟨(some 79), .p (.ld (.s 78)), none⟩,
 ⟨(some 80), .p (.lenl (.s 79)), none⟩,
 ⟨(some 81), .p (.bin .lss (.s 77) (.s 80)), none⟩] [1, 4, 81])
 (.cond (.s 81) .skip (.exit 2)))
 (.seq (.block 3 (.seq (.reg [⟨(some 84), .p (.foff 3 (.s 1)), none⟩,
 ⟨(some 85), .p (.ld (.s 84)), none⟩,
 ⟨(some 86), .p (.mv (.s 4)), none⟩,
 ⟨(some 87), .p (.iadr 6 (.s 85) (.s 86)), none⟩,
 ⟨(some 88), .p (.foff 1 (.s 87)), none⟩,
 ⟨(some 89), .p (.ld (.s 88)), none⟩,
 ⟨(some 90), .p (.lens (.s 89)), none⟩,
 ⟨(some 91), .p (.bin .gtr (.s 90) (.c (.int .i64 100))), none⟩,
 ⟨(some 92), .p (.mv (.s 91)), none⟩,
 ⟨(some 93), .p (.foff 3 (.s 1)), (some (92, false))⟩,
 ⟨(some 94), .p (.ld (.s 93)), (some (92, false))⟩,
 ⟨(some 95), .p (.mv (.s 4)), (some (92, false))⟩,
 ⟨(some 96), .p (.iadr 6 (.s 94) (.s 95)), (some (92, false))⟩,
 ⟨(some 97), .p (.foff 2 (.s 96)), (some (92, false))⟩,
 ⟨(some 98), .p (.ld (.s 97)), (some (92, false))⟩,
 ⟨(some 99), .p (.lens (.s 98)), (some (92, false))⟩,
 ⟨(some 100), .p (.bin .gtr (.s 99) (.c (.int .i64 100))), (some (92, false))⟩,
 ⟨(some 101), .p (.pick (.s 92) (.c (.bool true)) (.s 100)), none⟩,
 ⟨(some 102), .p (.mv (.s 101)), none⟩,
 ⟨(some 103), .p (.foff 3 (.s 1)), (some (102, false))⟩,
 ⟨(some 104), .p (.ld (.s 103)), (some (102, false))⟩,
 ⟨(some 105), .p (.mv (.s 4)), (some (102, false))⟩,
 ⟨(some 106), .p (.iadr 6 (.s 104) (.s 105)), (some (102, false))⟩,
 ⟨(some 107), .p (.foff 3 (.s 106)), (some (102, false))⟩,
 ⟨(some 108), .p (.foff 2 (.s 107)), (some (102, false))⟩,
 ⟨(some 109), .p (.ld (.s 108)), (some (102, false))⟩,
 ⟨(some 110), .p (.lens (.s 109)), (some (102, false))⟩,
 ⟨(some 111), .p (.bin .gtr (.s 110) (.c (.int .i64 100))), (some (102, false))⟩,
 ⟨(some 112), .p (.pick (.s 102) (.c (.bool true)) (.s 111)), none⟩] [1, 4, 112])
 (.cond (.s 112) (.seq (.reg [⟨(some 2), .p (.mv (.c (.bool true))), none⟩] [2])
 .ret) .skip)))
 (.reg [⟨(some 82), .p (.mv (.s 4)), none⟩,
 ⟨(some 83), .p (.bin .add (.s 82) (.c (.int .i64 1))), none⟩,
 ⟨(some 4), .p (.mv (.s 83)), none⟩] [1, 4]))) [1, 4])))
 (.seq (.reg [⟨(some 2), .p (.mv (.c (.bool false))), none⟩] [2])
 .ret)))))⟩

def F.plan_maker_do : LFunc := ⟨81, [], 
 (.seq (.reg [⟨(some 3), .e (.box 6 (.s 1)), none⟩] [0, 3])
 (.seq (.reg [⟨(some 6), .p (.foff 0 (.s 3)), none⟩,
 ⟨(some 7), .p (.ld (.s 6)), none⟩] [0, 3, 7])
 (.block 0 (.seq (.reg [⟨(some 9), .p (.bin .eql (.s 7) (.c (.int .i64 1))), none⟩,
 ⟨(some 8), .p (.mv (.s 9)), none⟩] [0, 3, 7, 8])
 (.cond (.s 8) (.regD [⟨(some 10), .p (.mv (.s 0)), none⟩,
 ⟨(some 11), .p (.foff 1 (.s 3)), none⟩,
 ⟨(some 12), .p (.ld (.s 11)), none⟩,
 ⟨(some 13), .p (.foff 2 (.s 3)), none⟩,
 ⟨(some 14), .p (.ld (.s 13)), none⟩,
 ⟨(some 15), .p (.mv (.s 0)), none⟩,
 ⟨(some 16), .p (.nilc (.s 15)), none⟩,
 ⟨(some 17), .p (.foff 11 (.s 16)), none⟩,
 ⟨(some 18), .p (.ld (.s 17)), none⟩,
 ⟨(some 19), .p (.foff 3 (.s 3)), none⟩,
 ⟨(some 20), .p (.ldn 3 (.s 19)), none⟩,
 ⟨(some 21), .p (.build [.str [], .str [], .str [], .int .i64 0, .int .i64 0, .int .i64 0, .int .i64 0, .str []] [(1, 1, (.s 12)), (2, 1, (.s 14)), (3, 1, (.s 18)), (4, 1, (.c (.int .i64 1))), (5, 3, (.s 20))]), none⟩,
 ⟨(some 22), .e (.call N.plan_maker_add [(.s 10), (.s 21)] true), none⟩] [0, 1, 2, 3, 4, 5, 6, 7, 8, 9, 10, 11, 12] []) (.seq (.reg [⟨(some 24), .p (.bin .eql (.s 7) (.c (.int .i64 2))), none⟩,
 ⟨(some 23), .p (.mv (.s 24)), none⟩] [0, 3, 7, 23])
 (.cond (.s 23) (.regD [⟨(some 25), .p (.mv (.s 0)), none⟩,
 ⟨(some 26), .p (.foff 1 (.s 3)), none⟩,
 ⟨(some 27), .p (.ld (.s 26)), none⟩,
 ⟨(some 28), .p (.foff 2 (.s 3)), none⟩,
 ⟨(some 29), .p (.ld (.s 28)), none⟩,
 ⟨(some 30), .p (.mv (.s 0)), none⟩,
 ⟨(some 31), .p (.nilc (.s 30)), none⟩,
 ⟨(some 32), .p (.foff 11 (.s 31)), none⟩,
 ⟨(some 33), .p (.ld (.s 32)), none⟩,
 ⟨(some 34), .p (.bin .sub (.s 33) (.c (.int .i64 1))), none⟩,
 ⟨(some 35), .p (.build [.str [], .str [], .str [], .int .i64 0, .int .i64 0, .int .i64 0, .int .i64 0, .str []] [(1, 1, (.s 27)), (2, 1, (.s 29)), (3, 1, (.s 34)), (4, 1, (.c (.int .i64 3)))]), none⟩,
 ⟨(some 36), .e (.call N.plan_maker_add [(.s 25), (.s 35)] true), none⟩] [0, 1, 2, 3, 4, 5, 6, 7, 8, 9, 10, 11] []) (.seq (.reg [⟨(some 38), .p (.bin .eql (.s 7) (.c (.int .i64 3))), none⟩,
 ⟨(some 37), .p (.mv (.s 38)), none⟩] [0, 3, 7, 37])
 (.cond (.s 37) (.regD [⟨(some 39), .p (.mv (.s 0)), none⟩,
 ⟨(some 40), .p (.foff 1 (.s 3)), none⟩,
 ⟨(some 41), .p (.ld (.s 40)), none⟩,
 ⟨(some 42), .p (.mv (.s 0)), none⟩,
 ⟨(some 43), .p (.nilc (.s 42)), none⟩,
 ⟨(some 44), .p (.foff 11 (.s 43)), none⟩,
 ⟨(some 45), .p (.ld (.s 44)), none⟩,
 ⟨(some 46), .p (.bin .sub (.s 45) (.c (.int .i64 1))), none⟩,
 ⟨(some 47), .p (.build [.str [], .str [], .str [], .int .i64 0, .int .i64 0, .int .i64 0, .int .i64 0, .str []] [(1, 1, (.s 41)), (3, 1, (.s 46)), (4, 1, (.c (.int .i64 4)))]), none⟩,
 ⟨(some 48), .e (.call N.plan_maker_add [(.s 39), (.s 47)] true), none⟩] [0, 1, 2, 3, 4, 5, 6, 7, 8, 9] []) (.seq (.reg [⟨(some 50), .p (.bin .eql (.s 7) (.c (.int .i64 4))), none⟩,
 ⟨(some 49), .p (.mv (.s 50)), none⟩] [0, 49])
 (.cond (.s 49) (.seq (.reg [⟨(some 51), .p (.mv (.s 0)), none⟩,
 ⟨(some 52), .p (.nilc (.s 51)), none⟩,
 ⟨(some 53), .p (.foff 0 (.s 52)), none⟩,
 ⟨(some 54), .p (.foff 0 (.s 53)), none⟩,
 ⟨(some 55), .p (.foff 1 (.s 54)), none⟩,
 ⟨(some 56), .p (.ld (.s 55)), none⟩,
 ⟨(some 57), .p (.lenl (.s 56)), none⟩,
 ⟨(some 58), .p (.mv (.c (.int .i64 0))), none⟩] [0, 56, 57, 58])
 (.block 1 (.loop (.seq (.reg [⟨(some 59), .p (.bin .lss (.s 58) (.s 57)), none⟩] [0, 56, 57, 58, 59])
 (.seq (.cond (.s 59) .skip (.exit 1))
 (.seq (.block 2 (.seq (.reg [⟨(some 60), .p (.iadr 5 (.s 56) (.s 58)), none⟩,
 ⟨(some 61), .p (.ldn 5 (.s 60)), none⟩,
 ⟨(some 5), .e (.alloc [.str [], .int .i64 0, .int .i64 0, .psl [], .psl []]), none⟩,
 ⟨none, .e (.stn 5 (.s 5) (.s 61)), none⟩] [0, 5, 56, 57, 58])
 (.seq (.regD [⟨(some 62), .p (.mv (.s 0)), none⟩,
 ⟨(some 63), .p (.nilc (.s 62)), none⟩,
 ⟨(some 64), .p (.foff 0 (.s 63)), none⟩,
 ⟨(some 65), .p (.ldn 10 (.s 64)), none⟩,
 ⟨(some 66), .p (.foff 0 (.s 5)), none⟩,
 ⟨(some 67), .p (.ld (.s 66)), none⟩,
 ⟨(some 68), .e (.call N.plan_view_named [(.s 65), (.s 67)] true), none⟩,
 ⟨(some 69), .p (.bin .eql (.s 68) (.c (.int .i64 0))), none⟩] [0, 1, 2, 3, 4, 5, 6, 7] [0, 5, 56, 57, 58, 69])
 (.cond (.s 69) (.regD [⟨(some 70), .p (.mv (.s 0)), none⟩,
 ⟨(some 71), .p (.foff 0 (.s 5)), none⟩,
 ⟨(some 72), .p (.ld (.s 71)), none⟩,
 ⟨(some 73), .p (.mv (.s 0)), none⟩,
 ⟨(some 74), .p (.nilc (.s 73)), none⟩,
 ⟨(some 75), .p (.foff 11 (.s 74)), none⟩,
 ⟨(some 76), .p (.ld (.s 75)), none⟩,
 ⟨(some 77), .p (.bin .sub (.s 76) (.c (.int .i64 1))), none⟩,
 ⟨(some 78), .p (.build [.str [], .str [], .str [], .int .i64 0, .int .i64 0, .int .i64 0, .int .i64 0, .str []] [(1, 1, (.s 72)), (3, 1, (.s 77)), (4, 1, (.c (.int .i64 4)))]), none⟩,
 ⟨(some 79), .e (.call N.plan_maker_add [(.s 70), (.s 78)] true), none⟩] [0, 1, 2, 3, 4, 5, 6, 7, 8, 9] [0, 56, 57, 58]) .skip))))
 (.reg [⟨(some 80), .p (.bin .add (.s 58) (.c (.int .i64 1))), none⟩,
 ⟨(some 58), .p (.mv (.s 80)), none⟩] [0, 56, 57, 58])))) [0, 56, 57, 58]))) .skip)))))))))))⟩

def F.joistref03_Name : LFunc := ⟨41, [.t 2], 
 (.seq (.reg [⟨(some 2), .p (.mv (.c (.bool false))), none⟩] [0])
 (.seq (.seq (.reg [⟨(some 3), .p (.mv (.c (.int .i64 0))), none⟩] [0, 3])
 (.block 0 (.loop (.seq (.seq (.reg [⟨(some 4), .p (.mv (.s 3)), none⟩,
 ⟨(some 5), .p (.mv (.s 0)), none⟩,
 ⟨(some 6), .p (.lens (.s 5)), none⟩,
 ⟨(some 7), .p (.bin .lss (.s 4) (.s 6)), none⟩] [0, 3, 7])
 (.cond (.s 7) .skip (.exit 0)))
 (.seq (.block 1 (.seq (.reg [⟨(some 10), .p (.mv (.s 0)), none⟩,
 ⟨(some 11), .p (.mv (.s 3)), none⟩,
 ⟨(some 12), .p (.idxs (.s 10) (.s 11)), none⟩,
 ⟨(some 13), .p (.bin .geq (.s 12) (.c (.int .u8 97))), none⟩,
 ⟨(some 14), .p (.mv (.s 13)), none⟩,
 ⟨(some 15), .p (.mv (.s 0)), (some (14, true))⟩,
 ⟨(some 16), .p (.mv (.s 3)), (some (14, true))⟩,
 ⟨(some 17), .p (.idxs (.s 15) (.s 16)), (some (14, true))⟩,
 ⟨(some 18), .p (.bin .leq (.s 17) (.c (.int .u8 122))), (some (14, true))⟩,
 ⟨(some 19), .p (.pick (.s 14) (.s 18) (.c (.bool false))), none⟩,
 ⟨(some 20), .p (.mv (.s 19)), none⟩,
 ⟨(some 21), .p (.mv (.s 0)), (some (20, false))⟩,
 ⟨(some 22), .p (.mv (.s 3)), (some (20, false))⟩,
 ⟨(some 23), .p (.idxs (.s 21) (.s 22)), (some (20, false))⟩,
 ⟨(some 24), .p (.bin .geq (.s 23) (.c (.int .u8 48))), (some (20, false))⟩,
 ⟨(some 25), .p (.mv (.s 24)), (some (20, false))⟩,
 ⟨(some 26), .p (.mv (.s 0)), (some (25, true))⟩,
 ⟨(some 27), .p (.mv (.s 3)), (some (25, true))⟩,
 ⟨(some 28), .p (.idxs (.s 26) (.s 27)), (some (25, true))⟩,
 ⟨(some 29), .p (.bin .leq (.s 28) (.c (.int .u8 57))), (some (25, true))⟩,
 ⟨(some 30), .p (.pick (.s 25) (.s 29) (.c (.bool false))), (some (20, false))⟩,
 ⟨(some 31), .p (.pick (.s 20) (.c (.bool true)) (.s 30)), none⟩,
 ⟨(some 32), .p (.un .not (.s 31)), none⟩] [0, 3, 32])
 (.cond (.s 32) (.seq (.reg [⟨(some 2), .p (.mv (.c (.bool false))), none⟩] [2])
 .ret) .skip)))
 (.reg [⟨(some 8), .p (.mv (.s 3)), none⟩,
 ⟨(some 9), .p (.bin .add (.s 8) (.c (.int .i64 1))), none⟩,
 ⟨(some 3), .p (.mv (.s 9)), none⟩] [0, 3]))) [0, 3])))
 (.seq (.reg [⟨(some 33), .p (.mv (.s 0)), none⟩,
 ⟨(some 34), .p (.lens (.s 33)), none⟩,
 ⟨(some 35), .p (.bin .geq (.s 34) (.c (.int .i64 1))), none⟩,
 ⟨(some 36), .p (.mv (.s 35)), none⟩,
 ⟨(some 37), .p (.mv (.s 0)), (some (36, true))⟩,
 ⟨(some 38), .p (.lens (.s 37)), (some (36, true))⟩,
 ⟨(some 39), .p (.bin .leq (.s 38) (.c (.int .i64 8))), (some (36, true))⟩,
 ⟨(some 40), .p (.pick (.s 36) (.s 39) (.c (.bool false))), none⟩,
 ⟨(some 2), .p (.mv (.s 40)), none⟩] [2])
 .ret)))⟩

def F.joistref02_Right : LFunc := ⟨62, [.t 2], 
 (.seq (.reg [⟨(some 1), .e (.box 3 (.s 0)), none⟩,
 ⟨(some 2), .p (.mv (.c (.bool false))), none⟩] [1])
 (.seq (.seq (.reg [⟨(some 3), .p (.foff 0 (.s 1)), none⟩,
 ⟨(some 4), .p (.ld (.s 3)), none⟩] [1, 4])
 (.block 0 (.seq (.reg [⟨(some 6), .p (.bin .eql (.s 4) (.c (.int .i64 1))), none⟩,
 ⟨(some 5), .p (.mv (.s 6)), none⟩] [1, 4, 5])
 (.cond (.s 5) (.seq (.reg [⟨(some 7), .p (.foff 2 (.s 1)), none⟩,
 ⟨(some 8), .p (.ld (.s 7)), none⟩,
 ⟨(some 9), .p (.bin .eql (.s 8) (.c (.str []))), none⟩,
 ⟨(some 2), .p (.mv (.s 9)), none⟩] [2])
 .ret) (.seq (.reg [⟨(some 11), .p (.bin .eql (.s 4) (.c (.int .i64 2))), none⟩,
 ⟨(some 10), .p (.mv (.s 11)), none⟩] [1, 4, 10])
 (.cond (.s 10) (.seq (.reg [⟨(some 12), .p (.foff 1 (.s 1)), none⟩,
 ⟨(some 13), .p (.ld (.s 12)), none⟩,
 ⟨(some 14), .p (.bin .eql (.s 13) (.c (.int .i64 0))), none⟩,
 ⟨(some 15), .p (.mv (.s 14)), none⟩,
 ⟨(some 16), .p (.foff 2 (.s 1)), (some (15, true))⟩,
 ⟨(some 17), .p (.ld (.s 16)), (some (15, true))⟩,
 ⟨(some 18), .p (.lens (.s 17)), (some (15, true))⟩,
 ⟨(some 19), .p (.bin .leq (.s 18) (.c (.int .i64 32))), (some (15, true))⟩,
 ⟨(some 20), .p (.pick (.s 15) (.s 19) (.c (.bool false))), none⟩,
 ⟨(some 2), .p (.mv (.s 20)), none⟩] [2])
 .ret) (.seq (.reg [⟨(some 22), .p (.bin .eql (.s 4) (.c (.int .i64 3))), none⟩,
 ⟨(some 21), .p (.mv (.s 22)), none⟩] [1, 4, 21])
 (.cond (.s 21) (.seq (.reg [⟨(some 23), .p (.foff 1 (.s 1)), none⟩,
 ⟨(some 24), .p (.ld (.s 23)), none⟩,
 ⟨(some 25), .p (.bin .eql (.s 24) (.c (.int .i64 0))), none⟩,
 ⟨(some 26), .p (.mv (.s 25)), none⟩,
 ⟨(some 27), .p (.foff 2 (.s 1)), (some (26, true))⟩,
 ⟨(some 28), .p (.ld (.s 27)), (some (26, true))⟩,
 ⟨(some 29), .p (.lens (.s 28)), (some (26, true))⟩,
 ⟨(some 30), .p (.bin .leq (.s 29) (.c (.int .i64 32))), (some (26, true))⟩,
 ⟨(some 31), .p (.pick (.s 26) (.s 30) (.c (.bool false))), none⟩,
 ⟨(some 32), .p (.mv (.s 31)), none⟩,
 ⟨(some 33), .p (.foff 2 (.s 1)), (some (32, true))⟩,
 ⟨(some 34), .p (.ld (.s 33)), (some (32, true))⟩,
 ⟨(some 35), .e (.call N.joistref02_Utf8 [(.s 34)] true), (some (32, true))⟩,
 ⟨(some 36), .p (.pick (.s 32) (.s 35) (.c (.bool false))), none⟩,
 ⟨(some 2), .p (.mv (.s 36)), none⟩] [2])
 .ret) (.seq (.reg [⟨(some 38), .p (.bin .eql (.s 4) (.c (.int .i64 4))), none⟩,
 ⟨(some 37), .p (.mv (.s 38)), none⟩] [1, 4, 37])
 (.cond (.s 37) (.seq (.reg [⟨(some 39), .p (.foff 2 (.s 1)), none⟩,
 ⟨(some 40), .p (.ld (.s 39)), none⟩,
 ⟨(some 41), .p (.bin .eql (.s 40) (.c (.str []))), none⟩,
 ⟨(some 42), .p (.mv (.s 41)), none⟩,
 ⟨(some 43), .p (.foff 1 (.s 1)), (some (42, true))⟩,
 ⟨(some 44), .p (.ld (.s 43)), (some (42, true))⟩,
 ⟨(some 45), .p (.bin .eql (.s 44) (.c (.int .i64 0))), (some (42, true))⟩,
 ⟨(some 46), .p (.mv (.s 45)), (some (42, true))⟩,
 ⟨(some 47), .p (.foff 1 (.s 1)), (some (46, false))⟩,
 ⟨(some 48), .p (.ld (.s 47)), (some (46, false))⟩,
 ⟨(some 49), .p (.bin .eql (.s 48) (.c (.int .i64 1))), (some (46, false))⟩,
 ⟨(some 50), .p (.pick (.s 46) (.c (.bool true)) (.s 49)), (some (42, true))⟩,
 ⟨(some 51), .p (.pick (.s 42) (.s 50) (.c (.bool false))), none⟩,
 ⟨(some 2), .p (.mv (.s 51)), none⟩] [2])
 .ret) (.seq (.reg [⟨(some 53), .p (.bin .eql (.s 4) (.c (.int .i64 5))), none⟩,
 ⟨(some 52), .p (.mv (.s 53)), none⟩] [1, 52])
 (.cond (.s 52) (.seq (.reg [⟨(some 54), .p (.foff 2 (.s 1)), none⟩,
 ⟨(some 55), .p (.ld (.s 54)), none⟩,
 ⟨(some 56), .p (.bin .eql (.s 55) (.c (.str []))), none⟩,
 ⟨(some 57), .p (.mv (.s 56)), none⟩,
 ⟨(some 58), .p (.foff 1 (.s 1)), (some (57, true))⟩,
 ⟨(some 59), .p (.ld (.s 58)), (some (57, true))⟩,
 ⟨(some 60), .e (.call N.joistref01_Right [(.s 59)] true), (some (57, true))⟩,
 ⟨(some 61), .p (.pick (.s 57) (.s 60) (.c (.bool false))), none⟩,
 ⟨(some 2), .p (.mv (.s 61)), none⟩] [2])
 .ret) .skip))))))))))))
 (.seq (.reg [⟨(some 2), .p (.mv (.c (.bool false))), none⟩] [2])
 .ret)))⟩

def F.joistref03_cmp : LFunc := ⟨11, [.t 4], 
 (.seq (.reg [⟨(some 4), .p (.mv (.c (.int .i64 0))), none⟩] [0, 1])
 (.seq (.seq (.reg [⟨(some 5), .p (.mv (.s 0)), none⟩,
 ⟨(some 6), .p (.mv (.s 1)), none⟩,
 ⟨(some 7), .p (.bin .lss (.s 5) (.s 6)), none⟩] [0, 1, 7])
 (.cond (.s 7) (.seq (.reg [⟨(some 4), .p (.mv (.c (.int .i64 (-1)))), none⟩] [4])
 .ret) .skip))
 (.seq (.seq (.reg [⟨(some 8), .p (.mv (.s 0)), none⟩,
 ⟨(some 9), .p (.mv (.s 1)), none⟩,
 ⟨(some 10), .p (.bin .gtr (.s 8) (.s 9)), none⟩] [10])
 (.cond (.s 10) (.seq (.reg [⟨(some 4), .p (.mv (.c (.int .i64 1))), none⟩] [4])
 .ret) .skip))
 (.seq (.reg [⟨(some 4), .p (.mv (.c (.int .i64 0))), none⟩] [4])
 .ret))))⟩

def F.joistref06_Sort : LFunc := ⟨71, [.t 2], 
 (.seq (.reg [⟨(some 2), .p (.mv (.c (.psl []))), none⟩] [0])
 (.seq (.reg [⟨(some 9), .e (.bsl 8 0 [.str [], .str [], .str [], .int .i64 0, .int .i64 0, .int .i64 0, .int .i64 0, .str []] []), none⟩,
 ⟨(some 3), .p (.mv (.s 9)), none⟩] [0, 3])
 (.seq (.seq (.reg [⟨(some 4), .p (.mv (.c (.int .i64 0))), none⟩] [0, 3, 4])
 (.block 0 (.loop (.seq (.seq (.reg [⟨(some 10), .p (.mv (.s 4)), none⟩,
 ⟨(some 11), .p (.mv (.s 0)), none⟩,
 ⟨(some 12), .p (.lenl (.s 11)), none⟩,
 ⟨(some 13), .p (.bin .lss (.s 10) (.s 12)), none⟩] [0, 3, 4, 13])
 (.cond (.s 13) .skip (.exit 0)))
 (.seq (.block 1 (.seq (.seq (.reg [⟨(some 16), .p (.mv (.s 0)), none⟩,
 ⟨(some 17), .p (.mv (.s 4)), none⟩,
 ⟨(some 18), .p (.iadr 8 (.s 16) (.s 17)), none⟩,
 ⟨(some 19), .p (.ldn 8 (.s 18)), none⟩,
 ⟨(some 20), .e (.call N.joistref03_Right [(.s 19)] true), none⟩,
 ⟨(some 21), .p (.un .not (.s 20)), none⟩] [0, 3, 4, 21])
 (.cond (.s 21) (.exit 1) .skip))
 (.seq (.reg [⟨(some 22), .e (.bsl 8 0 [.str [], .str [], .str [], .int .i64 0, .int .i64 0, .int .i64 0, .int .i64 0, .str []] []), none⟩,
 ⟨(some 5), .p (.mv (.s 22)), none⟩] [0, 3, 4, 5])
 (.seq (.reg [⟨(some 6), .p (.mv (.c (.bool false))), none⟩] [0, 3, 4, 5, 6])
 (.seq (.seq (.reg [⟨(some 7), .p (.mv (.c (.int .i64 0))), none⟩] [0, 3, 4, 5, 6, 7])
 (.block 2 (.loop (.seq (.seq (.reg [⟨(some 23), .p (.mv (.s 7)), none⟩,
 ⟨(some 24), .p (.mv (.s 3)), none⟩,
 ⟨(some 25), .p (.lenl (.s 24)), none⟩,
 ⟨(some 26), .p (.bin .lss (.s 23) (.s 25)), none⟩] [0, 3, 4, 5, 6, 7, 26])
 (.cond (.s 26) .skip (.exit 2)))
 (.seq (.block 3 (.seq (.regD [⟨(some 29), .p (.mv (.s 0)), none⟩,
 ⟨(some 30), .p (.mv (.s 4)), none⟩,
 ⟨(some 31), .p (.iadr 8 (.s 29) (.s 30)), none⟩,
 ⟨(some 32), .p (.ldn 8 (.s 31)), none⟩,
 ⟨(some 33), .p (.mv (.s 3)), none⟩,
 ⟨(some 34), .p (.mv (.s 7)), none⟩,
 ⟨(some 35), .p (.iadr 8 (.s 33) (.s 34)), none⟩,
 ⟨(some 36), .p (.ldn 8 (.s 35)), none⟩,
 ⟨(some 37), .e (.call N.joistref03_Order [(.s 32), (.s 36)] true), none⟩,
 ⟨(some 8), .p (.mv (.s 37)), none⟩] [0, 1, 2, 3, 4, 5, 6, 7, 8, 9] [0, 3, 4, 5, 6, 7, 8])
 (.seq (.seq (.reg [⟨(some 38), .p (.mv (.s 6)), none⟩,
 ⟨(some 39), .p (.un .not (.s 38)), none⟩,
 ⟨(some 40), .p (.mv (.s 39)), none⟩,
 ⟨(some 41), .p (.mv (.s 8)), (some (40, true))⟩,
 ⟨(some 42), .p (.bin .leq (.s 41) (.c (.int .i64 0))), (some (40, true))⟩,
 ⟨(some 43), .p (.pick (.s 40) (.s 42) (.c (.bool false))), none⟩] [0, 3, 4, 5, 6, 7, 8, 43])
 (.cond (.s 43) (.seq (.reg [⟨(some 44), .p (.mv (.s 5)), none⟩,
 ⟨(some 45), .p (.mv (.s 0)), none⟩,
 ⟨(some 46), .p (.mv (.s 4)), none⟩,
 ⟨(some 47), .p (.iadr 8 (.s 45) (.s 46)), none⟩,
 ⟨(some 48), .p (.ldn 8 (.s 47)), none⟩,
 ⟨(some 49), .e (.bsl 8 1 [.str [], .str [], .str [], .int .i64 0, .int .i64 0, .int .i64 0, .int .i64 0, .str []] [(0, 8, (.s 48))]), none⟩,
 ⟨(some 50), .e (.app 8 96 (.s 44) (.s 49)), none⟩,
 ⟨(some 5), .p (.mv (.s 50)), none⟩] [0, 3, 4, 5, 7, 8])
 (.reg [⟨(some 6), .p (.mv (.c (.bool true))), none⟩] [0, 3, 4, 5, 6, 7, 8])) .skip))
 (.seq (.reg [⟨(some 51), .p (.mv (.s 8)), none⟩,
 ⟨(some 52), .p (.bin .neq (.s 51) (.c (.int .i64 0))), none⟩] [0, 3, 4, 5, 6, 7, 52])
 (.cond (.s 52) (.reg [⟨(some 53), .p (.mv (.s 5)), none⟩,
 ⟨(some 54), .p (.mv (.s 3)), none⟩,
 ⟨(some 55), .p (.mv (.s 7)), none⟩,
 ⟨(some 56), .p (.iadr 8 (.s 54) (.s 55)), none⟩,
 ⟨(some 57), .p (.ldn 8 (.s 56)), none⟩,
 ⟨(some 58), .e (.bsl 8 1 [.str [], .str [], .str [], .int .i64 0, .int .i64 0, .int .i64 0, .int .i64 0, .str []] [(0, 8, (.s 57))]), none⟩,
 ⟨(some 59), .e (.app 8 96 (.s 53) (.s 58)), none⟩,
 ⟨(some 5), .p (.mv (.s 59)), none⟩] [0, 3, 4, 5, 6, 7]) .skip)))))
 (.reg [⟨(some 27), .p (.mv (.s 7)), none⟩,
 ⟨(some 28), .p (.bin .add (.s 27) (.c (.int .i64 1))), none⟩,
 ⟨(some 7), .p (.mv (.s 28)), none⟩] [0, 3, 4, 5, 6, 7]))) [0, 3, 4, 5, 6, 7])))
 (.seq (.seq (.reg [⟨(some 60), .p (.mv (.s 6)), none⟩,
 ⟨(some 61), .p (.un .not (.s 60)), none⟩] [0, 4, 5, 61])
 (.cond (.s 61) (.reg [⟨(some 62), .p (.mv (.s 5)), none⟩,
 ⟨(some 63), .p (.mv (.s 0)), none⟩,
 ⟨(some 64), .p (.mv (.s 4)), none⟩,
 ⟨(some 65), .p (.iadr 8 (.s 63) (.s 64)), none⟩,
 ⟨(some 66), .p (.ldn 8 (.s 65)), none⟩,
 ⟨(some 67), .e (.bsl 8 1 [.str [], .str [], .str [], .int .i64 0, .int .i64 0, .int .i64 0, .int .i64 0, .str []] [(0, 8, (.s 66))]), none⟩,
 ⟨(some 68), .e (.app 8 96 (.s 62) (.s 67)), none⟩,
 ⟨(some 5), .p (.mv (.s 68)), none⟩] [0, 4, 5]) .skip))
 (.reg [⟨(some 69), .p (.mv (.s 5)), none⟩,
 ⟨(some 3), .p (.mv (.s 69)), none⟩] [0, 3, 4])))))))
 (.reg [⟨(some 14), .p (.mv (.s 4)), none⟩,
 ⟨(some 15), .p (.bin .add (.s 14) (.c (.int .i64 1))), none⟩,
 ⟨(some 4), .p (.mv (.s 15)), none⟩] [0, 3, 4]))) [0, 3, 4])))
 (.seq (.reg [⟨(some 70), .p (.mv (.s 3)), none⟩,
 ⟨(some 2), .p (.mv (.s 70)), none⟩] [2])
 .ret))))⟩

def F.joistref06_Lives : LFunc := ⟨89, [.t 8], 
 (.seq (.reg [⟨(some 5), .e (.box 8 (.s 1)), none⟩,
 ⟨(some 8), .p (.mv (.c (.bool false))), none⟩] [0, 2, 3, 5])
 (.seq (.seq (.reg [⟨(some 11), .p (.foff 4 (.s 5)), none⟩,
 ⟨(some 12), .p (.ld (.s 11)), none⟩,
 ⟨(some 13), .p (.bin .neq (.s 12) (.c (.int .i64 1))), none⟩,
 ⟨(some 14), .p (.mv (.s 13)), none⟩,
 ⟨(some 15), .p (.mv (.s 2)), (some (14, false))⟩,
 ⟨(some 16), .p (.bin .gtr (.s 15) (.c (.int .i64 0))), (some (14, false))⟩,
 ⟨(some 17), .p (.mv (.s 16)), (some (14, false))⟩,
 ⟨(some 18), .p (.mv (.s 2)), (some (17, true))⟩,
 ⟨(some 19), .p (.mv (.s 3)), (some (17, true))⟩,
 ⟨(some 20), .p (.foff 3 (.s 5)), (some (17, true))⟩,
 ⟨(some 21), .p (.ld (.s 20)), (some (17, true))⟩,
 ⟨(some 22), .p (.bin .sub (.s 19) (.s 21)), (some (17, true))⟩,
 ⟨(some 23), .p (.bin .leq (.s 18) (.s 22)), (some (17, true))⟩,
 ⟨(some 24), .p (.pick (.s 17) (.s 23) (.c (.bool false))), (some (14, false))⟩,
 ⟨(some 25), .p (.pick (.s 14) (.c (.bool true)) (.s 24)), none⟩] [0, 5, 25])
 (.cond (.s 25) (.seq (.reg [⟨(some 8), .p (.mv (.c (.bool false))), none⟩] [8])
 .ret) .skip))
 (.seq (.seq (.reg [⟨(some 9), .p (.mv (.c (.int .i64 0))), none⟩] [0, 5, 9])
 (.block 0 (.loop (.seq (.seq (.reg [⟨(some 26), .p (.mv (.s 9)), none⟩,
 ⟨(some 27), .p (.mv (.s 0)), none⟩,
 ⟨(some 28), .p (.lenl (.s 27)), none⟩,
 ⟨(some 29), .p (.bin .lss (.s 26) (.s 28)), none⟩] [0, 5, 9, 29])
 (.cond (.s 29) .skip (.exit 0)))
 (.seq (.block 1 (.seq (.reg [⟨(some 32), .p (.mv (.s 0)), none⟩,
 ⟨(some 33), .p (.mv (.s 9)), none⟩,
 ⟨(some 34), .p (.iadr 8 (.s 32) (.s 33)), none⟩,
 ⟨(some 35), .p (.ldn 8 (.s 34)), none⟩,
 ⟨(some 10), .e (.alloc [.str [], .str [], .str [], .int .i64 0, .int .i64 0, .int .i64 0, .int .i64 0, .str []]), none⟩,
 ⟨none, .e (.stn 8 (.s 10) (.s 35)), none⟩] [0, 5, 9, 10])
 (.seq (.seq (.reg [⟨(some 36), .p (.foff 0 (.s 10)), none⟩,
 ⟨(some 37), .p (.ld (.s 36)), none⟩,
 ⟨(some 38), .p (.foff 0 (.s 5)), none⟩,
 ⟨(some 39), .p (.ld (.s 38)), none⟩,
 ⟨(some 40), .p (.bin .neq (.s 37) (.s 39)), none⟩,
 ⟨(some 41), .p (.mv (.s 40)), none⟩,
 ⟨(some 42), .p (.foff 1 (.s 10)), (some (41, false))⟩,
 ⟨(some 43), .p (.ld (.s 42)), (some (41, false))⟩,
 ⟨(some 44), .p (.foff 1 (.s 5)), (some (41, false))⟩,
 ⟨(some 45), .p (.ld (.s 44)), (some (41, false))⟩,
 ⟨(some 46), .p (.bin .neq (.s 43) (.s 45)), (some (41, false))⟩,
 ⟨(some 47), .p (.pick (.s 41) (.c (.bool true)) (.s 46)), none⟩] [0, 5, 9, 10, 47])
 (.cond (.s 47) (.exit 1) .skip))
 (.seq (.reg [⟨(some 48), .p (.foff 4 (.s 10)), none⟩,
 ⟨(some 49), .p (.ld (.s 48)), none⟩,
 ⟨(some 50), .p (.bin .eql (.s 49) (.c (.int .i64 4))), none⟩,
 ⟨(some 51), .p (.mv (.s 50)), none⟩,
 ⟨(some 52), .p (.foff 3 (.s 10)), (some (51, true))⟩,
 ⟨(some 53), .p (.ld (.s 52)), (some (51, true))⟩,
 ⟨(some 54), .p (.foff 3 (.s 5)), (some (51, true))⟩,
 ⟨(some 55), .p (.ld (.s 54)), (some (51, true))⟩,
 ⟨(some 56), .p (.bin .geq (.s 53) (.s 55)), (some (51, true))⟩,
 ⟨(some 57), .p (.pick (.s 51) (.s 56) (.c (.bool false))), none⟩,
 ⟨(some 58), .p (.mv (.s 57)), none⟩,
 ⟨(some 59), .p (.foff 2 (.s 10)), (some (58, false))⟩,
 ⟨(some 60), .p (.ld (.s 59)), (some (58, false))⟩,
 ⟨(some 61), .p (.foff 2 (.s 5)), (some (58, false))⟩,
 ⟨(some 62), .p (.ld (.s 61)), (some (58, false))⟩,
 ⟨(some 63), .p (.bin .eql (.s 60) (.s 62)), (some (58, false))⟩,
 ⟨(some 64), .p (.mv (.s 63)), (some (58, false))⟩,
 ⟨(some 65), .p (.foff 4 (.s 10)), (some (64, true))⟩,
 ⟨(some 66), .p (.ld (.s 65)), (some (64, true))⟩,
 ⟨(some 67), .p (.bin .eql (.s 66) (.c (.int .i64 3))), (some (64, true))⟩,
 ⟨(some 68), .p (.mv (.s 67)), (some (64, true))⟩,
 ⟨(some 69), .p (.foff 3 (.s 10)), (some (68, true))⟩,
 ⟨(some 70), .p (.ld (.s 69)), (some (68, true))⟩,
 ⟨(some 71), .p (.foff 3 (.s 5)), (some (68, true))⟩,
 ⟨(some 72), .p (.ld (.s 71)), (some (68, true))⟩,
 ⟨(some 73), .p (.bin .geq (.s 70) (.s 72)), (some (68, true))⟩,
 ⟨(some 74), .p (.pick (.s 68) (.s 73) (.c (.bool false))), (some (64, true))⟩,
 ⟨(some 75), .p (.mv (.s 74)), (some (64, true))⟩,
 ⟨(some 76), .p (.foff 4 (.s 10)), (some (75, false))⟩,
 ⟨(some 77), .p (.ld (.s 76)), (some (75, false))⟩,
 ⟨(some 78), .p (.bin .eql (.s 77) (.c (.int .i64 2))), (some (75, false))⟩,
 ⟨(some 79), .p (.mv (.s 78)), (some (75, false))⟩,
 ⟨(some 80), .p (.foff 3 (.s 10)), (some (79, true))⟩,
 ⟨(some 81), .p (.ld (.s 80)), (some (79, true))⟩,
 ⟨(some 82), .p (.foff 3 (.s 5)), (some (79, true))⟩,
 ⟨(some 83), .p (.ld (.s 82)), (some (79, true))⟩,
 ⟨(some 84), .p (.bin .eql (.s 81) (.s 83)), (some (79, true))⟩,
 ⟨(some 85), .p (.pick (.s 79) (.s 84) (.c (.bool false))), (some (75, false))⟩,
 ⟨(some 86), .p (.pick (.s 75) (.c (.bool true)) (.s 85)), (some (64, true))⟩,
 ⟨(some 87), .p (.pick (.s 64) (.s 86) (.c (.bool false))), (some (58, false))⟩,
 ⟨(some 88), .p (.pick (.s 58) (.c (.bool true)) (.s 87)), none⟩] [0, 5, 9, 88])
 (.cond (.s 88) (.seq (.reg [⟨(some 8), .p (.mv (.c (.bool false))), none⟩] [8])
 .ret) .skip)))))
 (.reg [⟨(some 30), .p (.mv (.s 9)), none⟩,
 ⟨(some 31), .p (.bin .add (.s 30) (.c (.int .i64 1))), none⟩,
 ⟨(some 9), .p (.mv (.s 31)), none⟩] [0, 5, 9]))) [0, 5, 9])))
 (.seq (.reg [⟨(some 8), .p (.mv (.c (.bool true))), none⟩] [8])
 .ret))))⟩

def F.schema_Read : LFunc := ⟨16, [.t 2, .t 3], 
 (.seq (.reg [⟨(some 1), .e (.box 5 (.s 0)), none⟩,
 ⟨(some 2), .p (.mv (.c (.int .i64 0))), none⟩,
 ⟨(some 3), .p (.mv (.c (.bool false))), none⟩] [1])
 (.seq (.reg [⟨(some 5), .p (.foff 3 (.s 1)), none⟩,
 ⟨(some 6), .p (.ld (.s 5)), none⟩,
 ⟨(some 7), .e (.call N.slices_IndexFunc_api_Layout_api_Layout_ [(.s 6), (.c (.fn N.schema_Read_1 [] []))] true), none⟩,
 ⟨(some 4), .p (.mv (.s 7)), none⟩] [1, 4])
 (.seq (.seq (.reg [⟨(some 8), .p (.mv (.s 4)), none⟩,
 ⟨(some 9), .p (.bin .lss (.s 8) (.c (.int .i64 0))), none⟩] [1, 4, 9])
 (.cond (.s 9) (.seq (.reg [⟨(some 2), .p (.mv (.c (.int .i64 0))), none⟩,
 ⟨(some 3), .p (.mv (.c (.bool false))), none⟩] [2, 3])
 .ret) .skip))
 (.seq (.reg [⟨(some 10), .p (.foff 3 (.s 1)), none⟩,
 ⟨(some 11), .p (.ld (.s 10)), none⟩,
 ⟨(some 12), .p (.mv (.s 4)), none⟩,
 ⟨(some 13), .p (.iadr 2 (.s 11) (.s 12)), none⟩,
 ⟨(some 14), .p (.foff 0 (.s 13)), none⟩,
 ⟨(some 15), .p (.ld (.s 14)), none⟩,
 ⟨(some 2), .p (.mv (.s 15)), none⟩,
 ⟨(some 3), .p (.mv (.c (.bool true))), none⟩] [2, 3])
 .ret))))⟩

def F.slices_Contains_string_string_ : LFunc := ⟨9, [.t 4], 
 (.seq (.reg [⟨(some 4), .p (.mv (.c (.bool false))), none⟩] [0, 1])
 (.seq (.reg [⟨(some 5), .p (.mv (.s 0)), none⟩,
 ⟨(some 6), .p (.mv (.s 1)), none⟩,
 ⟨(some 7), .e (.call N.slices_Index_string_string_ [(.s 5), (.s 6)] true), none⟩,
 ⟨(some 8), .p (.bin .geq (.s 7) (.c (.int .i64 0))), none⟩,
 ⟨(some 4), .p (.mv (.s 8)), none⟩] [4])
 .ret))⟩

def F.plan_quals : LFunc := ⟨25, [.t 2], 
 (.seq (.reg [⟨(some 1), .e (.box 5 (.s 0)), none⟩,
 ⟨(some 2), .p (.mv (.c (.psl []))), none⟩] [1])
 (.seq (.reg [⟨(some 3), .e (.vnil 1), none⟩] [1, 3])
 (.seq (.seq (.reg [⟨(some 6), .p (.foff 4 (.s 1)), none⟩,
 ⟨(some 7), .p (.ld (.s 6)), none⟩,
 ⟨(some 8), .p (.lenl (.s 7)), none⟩,
 ⟨(some 9), .p (.mv (.c (.int .i64 0))), none⟩] [3, 7, 8, 9])
 (.block 0 (.loop (.seq (.reg [⟨(some 10), .p (.bin .lss (.s 9) (.s 8)), none⟩] [3, 7, 8, 9, 10])
 (.seq (.cond (.s 10) .skip (.exit 0))
 (.seq (.block 1 (.seq (.reg [⟨(some 11), .p (.iadr 3 (.s 7) (.s 9)), none⟩,
 ⟨(some 12), .p (.ldn 3 (.s 11)), none⟩,
 ⟨(some 5), .e (.alloc [.str [], .int .i64 0, .int .i64 0]), none⟩,
 ⟨none, .e (.stn 3 (.s 5) (.s 12)), none⟩] [3, 5, 7, 8, 9])
 (.seq (.reg [⟨(some 13), .p (.foff 2 (.s 5)), none⟩,
 ⟨(some 14), .p (.ld (.s 13)), none⟩,
 ⟨(some 15), .p (.bin .eql (.s 14) (.c (.int .i64 3))), none⟩] [3, 5, 7, 8, 9, 15])
 (.cond (.s 15) (.reg [⟨(some 16), .p (.mv (.s 3)), none⟩,
 ⟨(some 17), .p (.foff 0 (.s 5)), none⟩,
 ⟨(some 18), .p (.ld (.s 17)), none⟩,
 ⟨(some 19), .e (.bsl 1 1 [.str []] [(0, 1, (.s 18))]), none⟩,
 ⟨(some 20), .e (.app 1 16 (.s 16) (.s 19)), none⟩,
 ⟨(some 3), .p (.mv (.s 20)), none⟩] [3, 7, 8, 9]) .skip))))
 (.reg [⟨(some 21), .p (.bin .add (.s 9) (.c (.int .i64 1))), none⟩,
 ⟨(some 9), .p (.mv (.s 21)), none⟩] [3, 7, 8, 9])))) [3, 7, 8, 9])))
 (.seq (.reg [⟨(some 22), .p (.mv (.s 3)), none⟩,
 ⟨(some 23), .e (.call N.slices_Sort_string_string_ [(.s 22)] false), none⟩] [3])
 (.seq (.reg [⟨(some 24), .p (.mv (.s 3)), none⟩,
 ⟨(some 2), .p (.mv (.s 24)), none⟩] [2])
 .ret)))))⟩

def F.filter_Clone : LFunc := ⟨8, [.cn 2 7], 
 (.seq (.reg [⟨(some 1), .e (.box 7 (.s 0)), none⟩,
 ⟨(some 2), .e (.alloc [.psl [], .str [], .str [], .int .i64 0, .int .i64 0, .int .i64 0, .int .i64 0]), none⟩] [1, 2])
 (.seq (.reg [⟨(some 3), .p (.foff 0 (.s 1)), none⟩,
 ⟨(some 4), .p (.ld (.s 3)), none⟩,
 ⟨(some 5), .e (.call N.slices_Clone_string_string_ [(.s 4)] true), none⟩,
 ⟨(some 6), .p (.foff 0 (.s 1)), none⟩,
 ⟨none, .e (.st (.s 6) (.s 5)), none⟩] [1, 2])
 (.seq (.reg [⟨(some 7), .p (.ldn 7 (.s 1)), none⟩,
 ⟨none, .e (.stn 7 (.s 2) (.s 7)), none⟩] [2])
 .ret)))⟩

def F.schema_Right : LFunc := ⟨48, [.t 2], 
 (.seq (.reg [⟨(some 1), .e (.box 10 (.s 0)), none⟩,
 ⟨(some 2), .p (.mv (.c (.bool false))), none⟩] [1])
 (.seq (.reg [⟨(some 3), .p (.mv (.c (.fn N.schema_Right_1 [] []))), none⟩] [1, 3])
 (.seq (.seq (.reg [⟨(some 4), .p (.foff 0 (.s 1)), none⟩,
 ⟨(some 5), .p (.ld (.s 4)), none⟩,
 ⟨(some 6), .e (.call N.schema_within [(.s 5), (.c (.int .i64 1)), (.c (.int .i64 1099511627776))] true), none⟩,
 ⟨(some 7), .p (.un .not (.s 6)), none⟩,
 ⟨(some 8), .p (.mv (.s 7)), none⟩,
 ⟨(some 9), .p (.foff 1 (.s 1)), (some (8, false))⟩,
 ⟨(some 10), .p (.ld (.s 9)), (some (8, false))⟩,
 ⟨(some 11), .p (.lenl (.s 10)), (some (8, false))⟩,
 ⟨(some 12), .p (.bin .gtr (.s 11) (.c (.int .i64 6))), (some (8, false))⟩,
 ⟨(some 13), .p (.pick (.s 8) (.c (.bool true)) (.s 12)), none⟩,
 ⟨(some 14), .p (.mv (.s 13)), none⟩,
 ⟨(some 15), .p (.foff 1 (.s 1)), (some (14, false))⟩,
 ⟨(some 16), .p (.ld (.s 15)), (some (14, false))⟩,
 ⟨(some 17), .p (.mv (.s 3)), (some (14, false))⟩,
 ⟨(some 18), .e (.call N.slices_ContainsFunc_api_Family_api_Family_ [(.s 16), (.s 17)] true), (some (14, false))⟩,
 ⟨(some 19), .p (.pick (.s 14) (.c (.bool true)) (.s 18)), none⟩,
 ⟨(some 20), .p (.mv (.s 19)), none⟩,
 ⟨(some 21), .p (.foff 1 (.s 1)), (some (20, false))⟩,
 ⟨(some 22), .p (.ld (.s 21)), (some (20, false))⟩,
 ⟨(some 23), .e (.call N.schema_once_string [(.s 22), (.c (.fn N.schema_Right_2 [] []))] true), (some (20, false))⟩,
 ⟨(some 24), .p (.un .not (.s 23)), (some (20, false))⟩,
 ⟨(some 25), .p (.pick (.s 20) (.c (.bool true)) (.s 24)), none⟩] [1, 25])
 (.cond (.s 25) (.seq (.reg [⟨(some 2), .p (.mv (.c (.bool false))), none⟩] [2])
 .ret) .skip))
 (.seq (.seq (.reg [⟨(some 26), .p (.foff 2 (.s 1)), none⟩,
 ⟨(some 27), .p (.foff 0 (.s 26)), none⟩,
 ⟨(some 28), .p (.ld (.s 27)), none⟩,
 ⟨(some 29), .p (.bin .eql (.s 28) (.c (.int .i64 0))), none⟩] [1, 29])
 (.cond (.s 29) (.seq (.reg [⟨(some 30), .p (.foff 2 (.s 1)), none⟩,
 ⟨(some 31), .p (.ldn 7 (.s 30)), none⟩,
 ⟨(some 32), .p (.build [.int .i64 0, .str [], .str [], .int .i64 0, .int .i64 0, .int .i64 0, .int .i64 0] []), none⟩,
 ⟨(some 33), .p (.eqk false (.agg [0, 1, 1, 0, 0, 0, 0]) (.s 31) (.s 32)), none⟩,
 ⟨(some 34), .p (.mv (.s 33)), none⟩,
 ⟨(some 35), .p (.foff 9 (.s 1)), (some (34, true))⟩,
 ⟨(some 36), .p (.ld (.s 35)), (some (34, true))⟩,
 ⟨(some 37), .p (.bin .eql (.s 36) (.c (.int .i64 0))), (some (34, true))⟩,
 ⟨(some 38), .p (.pick (.s 34) (.s 37) (.c (.bool false))), none⟩,
 ⟨(some 2), .p (.mv (.s 38)), none⟩] [2])
 .ret) .skip))
 (.seq (.reg [⟨(some 39), .p (.foff 2 (.s 1)), none⟩,
 ⟨(some 40), .p (.foff 0 (.s 39)), none⟩,
 ⟨(some 41), .p (.ld (.s 40)), none⟩,
 ⟨(some 42), .e (.call N.schema_within [(.s 41), (.c (.int .i64 1)), (.c (.int .i64 5))] true), none⟩,
 ⟨(some 43), .p (.mv (.s 42)), none⟩,
 ⟨(some 44), .p (.foff 9 (.s 1)), (some (43, true))⟩,
 ⟨(some 45), .p (.ld (.s 44)), (some (43, true))⟩,
 ⟨(some 46), .e (.call N.schema_within [(.s 45), (.c (.int .i64 1)), (.c (.int .i64 9))] true), (some (43, true))⟩,
 ⟨(some 47), .p (.pick (.s 43) (.s 46) (.c (.bool false))), none⟩,
 ⟨(some 2), .p (.mv (.s 47)), none⟩] [2])
 .ret)))))⟩

def F.plan_first_string : LFunc := ⟨21, [.t 4], 
 (.seq (.reg [⟨(some 4), .p (.mv (.c (.int .i64 0))), none⟩] [0, 1])
 (.seq (.seq (.reg [⟨(some 8), .p (.mv (.s 0)), none⟩,
 ⟨(some 9), .p (.lenl (.s 8)), none⟩,
 ⟨(some 10), .p (.mv (.c (.int .i64 0))), none⟩] [1, 8, 9, 10])
 (.block 0 (.loop (.seq (.reg [⟨(some 11), .p (.bin .lss (.s 10) (.s 9)), none⟩] [1, 8, 9, 10, 11])
 (.seq (.cond (.s 11) .skip (.exit 0))
 (.seq (.block 1 (.seq (.reg [⟨(some 12), .p (.iadr 1 (.s 8) (.s 10)), none⟩,
 ⟨(some 13), .p (.ld (.s 12)), none⟩,
 ⟨(some 6), .p (.mv (.s 13)), none⟩] [1, 6, 8, 9, 10])
 (.seq (.reg [⟨(some 14), .p (.mv (.s 1)), none⟩,
 ⟨(some 15), .p (.mv (.s 6)), none⟩,
 ⟨(some 16), .e (.callv (.s 14) [(.s 15)] true), none⟩,
 ⟨(some 7), .p (.mv (.s 16)), none⟩] [1, 7, 8, 9, 10])
 (.seq (.reg [⟨(some 17), .p (.mv (.s 7)), none⟩,
 ⟨(some 18), .p (.bin .neq (.s 17) (.c (.int .i64 0))), none⟩] [1, 7, 8, 9, 10, 18])
 (.cond (.s 18) (.seq (.reg [⟨(some 19), .p (.mv (.s 7)), none⟩,
 ⟨(some 4), .p (.mv (.s 19)), none⟩] [4])
 .ret) .skip)))))
 (.reg [⟨(some 20), .p (.bin .add (.s 10) (.c (.int .i64 1))), none⟩,
 ⟨(some 10), .p (.mv (.s 20)), none⟩] [1, 8, 9, 10])))) [1, 8, 9, 10])))
 (.seq (.reg [⟨(some 4), .p (.mv (.c (.int .i64 0))), none⟩] [4])
 .ret)))⟩

def F.plan_view_named : LFunc := ⟨15, [.t 4], 
 (.seq (.reg [⟨(some 2), .e (.box 10 (.s 0)), none⟩,
 ⟨(some 4), .p (.mv (.c (.int .i64 0))), none⟩] [1, 2])
 (.seq (.seq (.reg [⟨(some 8), .p (.ldn 10 (.s 2)), none⟩,
 ⟨(some 9), .p (.mv (.s 1)), none⟩,
 ⟨(some 10), .e (.call N.plan_view_family [(.s 8), (.s 9)] true), none⟩,
 ⟨(some 7), .p (.mv (.s 10)), none⟩,
 ⟨(some 11), .p (.ext (.s 7) 0), none⟩,
 ⟨(some 12), .p (.ext (.s 7) 1), none⟩,
 ⟨(some 5), .e (.alloc [.str [], .int .i64 0, .int .i64 0, .psl [], .psl []]), none⟩,
 ⟨none, .e (.stn 5 (.s 5) (.s 11)), none⟩,
 ⟨(some 6), .p (.mv (.s 12)), none⟩] [6])
 (.seq (.reg [⟨(some 13), .p (.mv (.s 6)), none⟩,
 ⟨(some 14), .p (.un .not (.s 13)), none⟩] [14])
 (.cond (.s 14) (.seq (.reg [⟨(some 4), .p (.mv (.c (.int .i64 12))), none⟩] [4])
 .ret) .skip)))
 (.seq (.reg [⟨(some 4), .p (.mv (.c (.int .i64 0))), none⟩] [4])
 .ret)))⟩

def F.plan_view_value : LFunc := ⟨48, [.t 8], 
 (.seq (.reg [⟨(some 4), .e (.box 10 (.s 0)), none⟩,
 ⟨(some 7), .e (.box 3 (.s 3)), none⟩,
 ⟨(some 8), .p (.mv (.c (.int .i64 0))), none⟩] [1, 2, 4, 7])
 (.seq (.reg [⟨(some 14), .p (.ldn 10 (.s 4)), none⟩,
 ⟨(some 15), .p (.mv (.s 1)), none⟩,
 ⟨(some 16), .e (.call N.plan_view_family [(.s 14), (.s 15)] true), none⟩,
 ⟨(some 13), .p (.mv (.s 16)), none⟩,
 ⟨(some 17), .p (.ext (.s 13) 0), none⟩,
 ⟨(some 18), .p (.ext (.s 13) 1), none⟩,
 ⟨(some 9), .e (.alloc [.str [], .int .i64 0, .int .i64 0, .psl [], .psl []]), none⟩,
 ⟨none, .e (.stn 5 (.s 9) (.s 17)), none⟩,
 ⟨(some 10), .p (.mv (.s 18)), none⟩] [2, 7, 9, 10])
 (.seq (.reg [⟨(some 20), .p (.ldn 5 (.s 9)), none⟩,
 ⟨(some 21), .p (.mv (.s 2)), none⟩,
 ⟨(some 22), .e (.call N.schema_Column [(.s 20), (.s 21)] true), none⟩,
 ⟨(some 19), .p (.mv (.s 22)), none⟩,
 ⟨(some 23), .p (.ext (.s 19) 0), none⟩,
 ⟨(some 24), .p (.ext (.s 19) 1), none⟩,
 ⟨(some 11), .e (.alloc [.str [], .int .i64 0, .int .i64 0]), none⟩,
 ⟨none, .e (.stn 3 (.s 11) (.s 23)), none⟩,
 ⟨(some 12), .p (.mv (.s 24)), none⟩] [7, 10, 11, 12])
 (.seq (.block 0 (.seq (.reg [⟨(some 26), .p (.mv (.s 10)), none⟩,
 ⟨(some 27), .p (.un .not (.s 26)), none⟩,
 ⟨(some 28), .p (.mv (.s 27)), none⟩,
 ⟨(some 29), .p (.mv (.s 12)), (some (28, false))⟩,
 ⟨(some 30), .p (.un .not (.s 29)), (some (28, false))⟩,
 ⟨(some 31), .p (.pick (.s 28) (.c (.bool true)) (.s 30)), none⟩,
 ⟨(some 32), .p (.mv (.s 31)), none⟩,
 ⟨(some 33), .p (.foff 2 (.s 11)), (some (32, false))⟩,
 ⟨(some 34), .p (.ld (.s 33)), (some (32, false))⟩,
 ⟨(some 35), .p (.bin .neq (.s 34) (.c (.int .i64 3))), (some (32, false))⟩,
 ⟨(some 36), .p (.pick (.s 32) (.c (.bool true)) (.s 35)), none⟩,
 ⟨(some 25), .p (.mv (.s 36)), none⟩] [7, 11, 25])
 (.cond (.s 25) (.seq (.reg [⟨(some 8), .p (.mv (.c (.int .i64 12))), none⟩] [8])
 .ret) (.seq (.reg [⟨(some 38), .p (.foff 0 (.s 7)), none⟩,
 ⟨(some 39), .p (.ld (.s 38)), none⟩,
 ⟨(some 40), .p (.bin .neq (.s 39) (.c (.int .i64 0))), none⟩,
 ⟨(some 41), .p (.mv (.s 40)), none⟩,
 ⟨(some 42), .p (.foff 0 (.s 7)), (some (41, true))⟩,
 ⟨(some 43), .p (.ld (.s 42)), (some (41, true))⟩,
 ⟨(some 44), .p (.foff 1 (.s 11)), (some (41, true))⟩,
 ⟨(some 45), .p (.ld (.s 44)), (some (41, true))⟩,
 ⟨(some 46), .p (.bin .neq (.s 43) (.s 45)), (some (41, true))⟩,
 ⟨(some 47), .p (.pick (.s 41) (.s 46) (.c (.bool false))), none⟩,
 ⟨(some 37), .p (.mv (.s 47)), none⟩] [37])
 (.cond (.s 37) (.seq (.reg [⟨(some 8), .p (.mv (.c (.int .i64 14))), none⟩] [8])
 .ret) .skip)))))
 (.seq (.reg [⟨(some 8), .p (.mv (.c (.int .i64 0))), none⟩] [8])
 .ret)))))⟩

def F.plan_first_apiMut : LFunc := ⟨21, [.t 4], 
 (.seq (.reg [⟨(some 4), .p (.mv (.c (.int .i64 0))), none⟩] [0, 1])
 (.seq (.seq (.reg [⟨(some 8), .p (.mv (.s 0)), none⟩,
 ⟨(some 9), .p (.lenl (.s 8)), none⟩,
 ⟨(some 10), .p (.mv (.c (.int .i64 0))), none⟩] [1, 8, 9, 10])
 (.block 0 (.loop (.seq (.reg [⟨(some 11), .p (.bin .lss (.s 10) (.s 9)), none⟩] [1, 8, 9, 10, 11])
 (.seq (.cond (.s 11) .skip (.exit 0))
 (.seq (.block 1 (.seq (.reg [⟨(some 12), .p (.iadr 6 (.s 8) (.s 10)), none⟩,
 ⟨(some 13), .p (.ldn 6 (.s 12)), none⟩,
 ⟨(some 6), .e (.alloc [.int .i64 0, .str [], .str [], .int .i64 0, .int .i64 0, .str []]), none⟩,
 ⟨none, .e (.stn 6 (.s 6) (.s 13)), none⟩] [1, 6, 8, 9, 10])
 (.seq (.reg [⟨(some 14), .p (.mv (.s 1)), none⟩,
 ⟨(some 15), .p (.ldn 6 (.s 6)), none⟩,
 ⟨(some 16), .e (.callv (.s 14) [(.s 15)] true), none⟩,
 ⟨(some 7), .p (.mv (.s 16)), none⟩] [1, 7, 8, 9, 10])
 (.seq (.reg [⟨(some 17), .p (.mv (.s 7)), none⟩,
 ⟨(some 18), .p (.bin .neq (.s 17) (.c (.int .i64 0))), none⟩] [1, 7, 8, 9, 10, 18])
 (.cond (.s 18) (.seq (.reg [⟨(some 19), .p (.mv (.s 7)), none⟩,
 ⟨(some 4), .p (.mv (.s 19)), none⟩] [4])
 .ret) .skip)))))
 (.reg [⟨(some 20), .p (.bin .add (.s 10) (.c (.int .i64 1))), none⟩,
 ⟨(some 10), .p (.mv (.s 20)), none⟩] [1, 8, 9, 10])))) [1, 8, 9, 10])))
 (.seq (.reg [⟨(some 4), .p (.mv (.c (.int .i64 0))), none⟩] [4])
 .ret)))⟩

def F.plan_view_mut : LFunc := ⟨24, [.t 4], 
 (.seq (.reg [⟨(some 2), .e (.box 10 (.s 0)), none⟩,
 ⟨(some 3), .e (.box 6 (.s 1)), none⟩,
 ⟨(some 4), .p (.mv (.c (.int .i64 0))), none⟩] [2, 3])
 (.seq (.seq (.reg [⟨(some 5), .p (.foff 0 (.s 3)), none⟩,
 ⟨(some 6), .p (.ld (.s 5)), none⟩] [2, 3, 6])
 (.block 0 (.seq (.seq (.reg [⟨(some 8), .p (.bin .eql (.s 6) (.c (.int .i64 1))), none⟩,
 ⟨(some 7), .p (.mv (.s 8)), none⟩] [2, 3, 6, 7])
 (.cond (.s 7) .skip (.reg [⟨(some 9), .p (.bin .eql (.s 6) (.c (.int .i64 2))), none⟩,
 ⟨(some 7), .p (.mv (.s 9)), none⟩] [2, 3, 6, 7])))
 (.cond (.s 7) (.seq (.reg [⟨(some 10), .p (.ldn 10 (.s 2)), none⟩,
 ⟨(some 11), .p (.foff 1 (.s 3)), none⟩,
 ⟨(some 12), .p (.ld (.s 11)), none⟩,
 ⟨(some 13), .p (.foff 2 (.s 3)), none⟩,
 ⟨(some 14), .p (.ld (.s 13)), none⟩,
 ⟨(some 15), .p (.foff 3 (.s 3)), none⟩,
 ⟨(some 16), .p (.ldn 3 (.s 15)), none⟩,
 ⟨(some 17), .e (.call N.plan_view_value [(.s 10), (.s 12), (.s 14), (.s 16)] true), none⟩,
 ⟨(some 4), .p (.mv (.s 17)), none⟩] [4])
 .ret) (.seq (.reg [⟨(some 19), .p (.bin .eql (.s 6) (.c (.int .i64 3))), none⟩,
 ⟨(some 18), .p (.mv (.s 19)), none⟩] [2, 3, 18])
 (.cond (.s 18) (.seq (.reg [⟨(some 20), .p (.ldn 10 (.s 2)), none⟩,
 ⟨(some 21), .p (.foff 1 (.s 3)), none⟩,
 ⟨(some 22), .p (.ld (.s 21)), none⟩,
 ⟨(some 23), .e (.call N.plan_view_named [(.s 20), (.s 22)] true), none⟩,
 ⟨(some 4), .p (.mv (.s 23)), none⟩] [4])
 .ret) .skip))))))
 (.seq (.reg [⟨(some 4), .p (.mv (.c (.int .i64 0))), none⟩] [4])
 .ret)))⟩

def F.plan_read : LFunc := ⟨51, [.t 2], 
 (.seq (.reg [⟨(some 1), .e (.box 16 (.s 0)), none⟩,
 ⟨(some 2), .p (.mv (.c (.bool false))), none⟩] [1])
 (.seq (.reg [⟨(some 3), .p (.foff 1 (.s 1)), none⟩,
 ⟨(some 4), .p (.ld (.s 3)), none⟩,
 ⟨(some 5), .p (.lens (.s 4)), none⟩,
 ⟨(some 6), .p (.bin .leq (.s 5) (.c (.int .i64 16))), none⟩,
 ⟨(some 7), .p (.mv (.s 6)), none⟩,
 ⟨(some 8), .p (.foff 2 (.s 1)), (some (7, true))⟩,
 ⟨(some 9), .p (.ld (.s 8)), (some (7, true))⟩,
 ⟨(some 10), .p (.lens (.s 9)), (some (7, true))⟩,
 ⟨(some 11), .p (.bin .leq (.s 10) (.c (.int .i64 16))), (some (7, true))⟩,
 ⟨(some 12), .p (.pick (.s 7) (.s 11) (.c (.bool false))), none⟩,
 ⟨(some 13), .p (.mv (.s 12)), none⟩,
 ⟨(some 14), .p (.foff 2 (.s 1)), (some (13, true))⟩,
 ⟨(some 15), .p (.ld (.s 14)), (some (13, true))⟩,
 ⟨(some 16), .p (.bin .eql (.s 15) (.c (.str []))), (some (13, true))⟩,
 ⟨(some 17), .p (.mv (.s 16)), (some (13, true))⟩,
 ⟨(some 18), .p (.foff 1 (.s 1)), (some (17, false))⟩,
 ⟨(some 19), .p (.ld (.s 18)), (some (17, false))⟩,
 ⟨(some 20), .p (.foff 2 (.s 1)), (some (17, false))⟩,
 ⟨(some 21), .p (.ld (.s 20)), (some (17, false))⟩,
 ⟨(some 22), .p (.bin .leq (.s 19) (.s 21)), (some (17, false))⟩,
 ⟨(some 23), .p (.pick (.s 17) (.c (.bool true)) (.s 22)), (some (13, true))⟩,
 ⟨(some 24), .p (.pick (.s 13) (.s 23) (.c (.bool false))), none⟩,
 ⟨(some 25), .p (.mv (.s 24)), none⟩,
 ⟨(some 26), .p (.foff 3 (.s 1)), (some (25, true))⟩,
 ⟨(some 27), .p (.ld (.s 26)), (some (25, true))⟩,
 ⟨(some 28), .p (.lenl (.s 27)), (some (25, true))⟩,
 ⟨(some 29), .p (.bin .eql (.s 28) (.c (.int .i64 0))), (some (25, true))⟩,
 ⟨(some 30), .p (.pick (.s 25) (.s 29) (.c (.bool false))), none⟩,
 ⟨(some 31), .p (.mv (.s 30)), none⟩,
 ⟨(some 32), .p (.foff 4 (.s 1)), (some (31, true))⟩,
 ⟨(some 33), .p (.ld (.s 32)), (some (31, true))⟩,
 ⟨(some 34), .p (.bin .eql (.s 33) (.c (.str []))), (some (31, true))⟩,
 ⟨(some 35), .p (.pick (.s 31) (.s 34) (.c (.bool false))), none⟩,
 ⟨(some 36), .p (.mv (.s 35)), none⟩,
 ⟨(some 37), .p (.foff 5 (.s 1)), (some (36, true))⟩,
 ⟨(some 38), .p (.ld (.s 37)), (some (36, true))⟩,
 ⟨(some 39), .p (.bin .eql (.s 38) (.c (.str []))), (some (36, true))⟩,
 ⟨(some 40), .p (.pick (.s 36) (.s 39) (.c (.bool false))), none⟩,
 ⟨(some 41), .p (.mv (.s 40)), none⟩,
 ⟨(some 42), .p (.foff 6 (.s 1)), (some (41, true))⟩,
 ⟨(some 43), .p (.ldn 3 (.s 42)), (some (41, true))⟩,
 ⟨(some 44), .e (.call N.plan_none [(.s 43)] true), (some (41, true))⟩,
 ⟨(some 45), .p (.pick (.s 41) (.s 44) (.c (.bool false))), none⟩,
 ⟨(some 46), .p (.mv (.s 45)), none⟩,
 ⟨(some 47), .p (.foff 9 (.s 1)), (some (46, true))⟩,
 ⟨(some 48), .p (.ldn 7 (.s 47)), (some (46, true))⟩,
 ⟨(some 49), .e (.call N.filter_Right [(.s 48)] true), (some (46, true))⟩,
 ⟨(some 50), .p (.pick (.s 46) (.s 49) (.c (.bool false))), none⟩,
 ⟨(some 2), .p (.mv (.s 50)), none⟩] [2])
 .ret))⟩

def F.plan_write : LFunc := ⟨42, [.t 2], 
 (.seq (.reg [⟨(some 1), .e (.box 16 (.s 0)), none⟩,
 ⟨(some 2), .p (.mv (.c (.bool false))), none⟩] [1])
 (.seq (.reg [⟨(some 3), .p (.mv (.c (.fn N.plan_write_1 [] []))), none⟩] [1, 3])
 (.seq (.reg [⟨(some 4), .p (.foff 1 (.s 1)), none⟩,
 ⟨(some 5), .p (.ld (.s 4)), none⟩,
 ⟨(some 6), .p (.bin .neq (.s 5) (.c (.str []))), none⟩,
 ⟨(some 7), .p (.mv (.s 6)), none⟩,
 ⟨(some 8), .p (.foff 1 (.s 1)), (some (7, true))⟩,
 ⟨(some 9), .p (.ld (.s 8)), (some (7, true))⟩,
 ⟨(some 10), .p (.lens (.s 9)), (some (7, true))⟩,
 ⟨(some 11), .p (.bin .leq (.s 10) (.c (.int .i64 16))), (some (7, true))⟩,
 ⟨(some 12), .p (.pick (.s 7) (.s 11) (.c (.bool false))), none⟩,
 ⟨(some 13), .p (.mv (.s 12)), none⟩,
 ⟨(some 14), .p (.foff 2 (.s 1)), (some (13, true))⟩,
 ⟨(some 15), .p (.ld (.s 14)), (some (13, true))⟩,
 ⟨(some 16), .p (.bin .eql (.s 15) (.c (.str []))), (some (13, true))⟩,
 ⟨(some 17), .p (.pick (.s 13) (.s 16) (.c (.bool false))), none⟩,
 ⟨(some 18), .p (.mv (.s 17)), none⟩,
 ⟨(some 19), .p (.foff 9 (.s 1)), (some (18, true))⟩,
 ⟨(some 20), .p (.ldn 7 (.s 19)), (some (18, true))⟩,
 ⟨(some 21), .e (.call N.plan_empty [(.s 20)] true), (some (18, true))⟩,
 ⟨(some 22), .p (.pick (.s 18) (.s 21) (.c (.bool false))), none⟩,
 ⟨(some 23), .p (.mv (.s 22)), none⟩,
 ⟨(some 24), .p (.foff 3 (.s 1)), (some (23, true))⟩,
 ⟨(some 25), .p (.ld (.s 24)), (some (23, true))⟩,
 ⟨(some 26), .p (.lenl (.s 25)), (some (23, true))⟩,
 ⟨(some 27), .p (.bin .gtr (.s 26) (.c (.int .i64 0))), (some (23, true))⟩,
 ⟨(some 28), .p (.pick (.s 23) (.s 27) (.c (.bool false))), none⟩,
 ⟨(some 29), .p (.mv (.s 28)), none⟩,
 ⟨(some 30), .p (.foff 3 (.s 1)), (some (29, true))⟩,
 ⟨(some 31), .p (.ld (.s 30)), (some (29, true))⟩,
 ⟨(some 32), .p (.lenl (.s 31)), (some (29, true))⟩,
 ⟨(some 33), .p (.bin .leq (.s 32) (.c (.int .i64 8))), (some (29, true))⟩,
 ⟨(some 34), .p (.pick (.s 29) (.s 33) (.c (.bool false))), none⟩,
 ⟨(some 35), .p (.mv (.s 34)), none⟩,
 ⟨(some 36), .p (.foff 3 (.s 1)), (some (35, true))⟩,
 ⟨(some 37), .p (.ld (.s 36)), (some (35, true))⟩,
 ⟨(some 38), .p (.mv (.s 3)), (some (35, true))⟩,
 ⟨(some 39), .e (.call N.slices_ContainsFunc_api_Mut_api_Mut_ [(.s 37), (.s 38)] true), (some (35, true))⟩,
 ⟨(some 40), .p (.un .not (.s 39)), (some (35, true))⟩,
 ⟨(some 41), .p (.pick (.s 35) (.s 40) (.c (.bool false))), none⟩,
 ⟨(some 2), .p (.mv (.s 41)), none⟩] [2])
 .ret)))⟩

def F.plan_none : LFunc := ⟨6, [.t 2], 
 (.seq (.reg [⟨(some 1), .e (.box 3 (.s 0)), none⟩,
 ⟨(some 2), .p (.mv (.c (.bool false))), none⟩] [1])
 (.seq (.reg [⟨(some 3), .p (.ldn 3 (.s 1)), none⟩,
 ⟨(some 4), .p (.build [.int .i64 0, .int .i64 0, .str []] []), none⟩,
 ⟨(some 5), .p (.eqk false (.agg [0, 0, 1]) (.s 3) (.s 4)), none⟩,
 ⟨(some 2), .p (.mv (.s 5)), none⟩] [2])
 .ret))⟩

def F.plan_column : LFunc := ⟨12, [.t 4], 
 (.seq (.reg [⟨(some 4), .p (.mv (.c (.bool false))), none⟩] [0, 1])
 (.seq (.reg [⟨(some 5), .p (.mv (.s 0)), none⟩,
 ⟨(some 6), .e (.call N.plan_name [(.s 5)] true), none⟩,
 ⟨(some 7), .p (.mv (.s 6)), none⟩,
 ⟨(some 8), .p (.mv (.s 1)), (some (7, true))⟩,
 ⟨(some 9), .p (.lens (.s 8)), (some (7, true))⟩,
 ⟨(some 10), .p (.bin .leq (.s 9) (.c (.int .i64 12))), (some (7, true))⟩,
 ⟨(some 11), .p (.pick (.s 7) (.s 10) (.c (.bool false))), none⟩,
 ⟨(some 4), .p (.mv (.s 11)), none⟩] [4])
 .ret))⟩

def F.val_Right : LFunc := ⟨53, [.t 2], 
 (.seq (.reg [⟨(some 1), .e (.box 3 (.s 0)), none⟩,
 ⟨(some 2), .p (.mv (.c (.bool false))), none⟩] [1])
 (.seq (.seq (.reg [⟨(some 3), .p (.foff 0 (.s 1)), none⟩,
 ⟨(some 4), .p (.ld (.s 3)), none⟩] [1, 4])
 (.block 0 (.seq (.reg [⟨(some 6), .p (.bin .eql (.s 4) (.c (.int .i64 1))), none⟩,
 ⟨(some 5), .p (.mv (.s 6)), none⟩] [1, 4, 5])
 (.cond (.s 5) (.seq (.reg [⟨(some 7), .p (.foff 2 (.s 1)), none⟩,
 ⟨(some 8), .p (.ld (.s 7)), none⟩,
 ⟨(some 9), .p (.bin .eql (.s 8) (.c (.str []))), none⟩,
 ⟨(some 2), .p (.mv (.s 9)), none⟩] [2])
 .ret) (.seq (.reg [⟨(some 11), .p (.bin .eql (.s 4) (.c (.int .i64 4))), none⟩,
 ⟨(some 10), .p (.mv (.s 11)), none⟩] [1, 4, 10])
 (.cond (.s 10) (.seq (.reg [⟨(some 12), .p (.foff 2 (.s 1)), none⟩,
 ⟨(some 13), .p (.ld (.s 12)), none⟩,
 ⟨(some 14), .p (.bin .eql (.s 13) (.c (.str []))), none⟩,
 ⟨(some 15), .p (.mv (.s 14)), none⟩,
 ⟨(some 16), .p (.foff 1 (.s 1)), (some (15, true))⟩,
 ⟨(some 17), .p (.ld (.s 16)), (some (15, true))⟩,
 ⟨(some 18), .p (.bin .andNot (.s 17) (.c (.int .i64 1))), (some (15, true))⟩,
 ⟨(some 19), .p (.bin .eql (.s 18) (.c (.int .i64 0))), (some (15, true))⟩,
 ⟨(some 20), .p (.pick (.s 15) (.s 19) (.c (.bool false))), none⟩,
 ⟨(some 2), .p (.mv (.s 20)), none⟩] [2])
 .ret) (.seq (.reg [⟨(some 22), .p (.bin .eql (.s 4) (.c (.int .i64 5))), none⟩,
 ⟨(some 21), .p (.mv (.s 22)), none⟩] [1, 4, 21])
 (.cond (.s 21) (.seq (.reg [⟨(some 23), .p (.foff 2 (.s 1)), none⟩,
 ⟨(some 24), .p (.ld (.s 23)), none⟩,
 ⟨(some 25), .p (.bin .eql (.s 24) (.c (.str []))), none⟩,
 ⟨(some 26), .p (.mv (.s 25)), none⟩,
 ⟨(some 27), .p (.foff 1 (.s 1)), (some (26, true))⟩,
 ⟨(some 28), .p (.ld (.s 27)), (some (26, true))⟩,
 ⟨(some 29), .e (.call N.float_Right [(.s 28)] true), (some (26, true))⟩,
 ⟨(some 30), .p (.pick (.s 26) (.s 29) (.c (.bool false))), none⟩,
 ⟨(some 2), .p (.mv (.s 30)), none⟩] [2])
 .ret) (.seq (.seq (.reg [⟨(some 32), .p (.bin .eql (.s 4) (.c (.int .i64 2))), none⟩,
 ⟨(some 31), .p (.mv (.s 32)), none⟩] [1, 4, 31])
 (.cond (.s 31) .skip (.reg [⟨(some 33), .p (.bin .eql (.s 4) (.c (.int .i64 3))), none⟩,
 ⟨(some 31), .p (.mv (.s 33)), none⟩] [1, 31])))
 (.cond (.s 31) (.seq (.reg [⟨(some 34), .p (.foff 1 (.s 1)), none⟩,
 ⟨(some 35), .p (.ld (.s 34)), none⟩,
 ⟨(some 36), .p (.bin .eql (.s 35) (.c (.int .i64 0))), none⟩,
 ⟨(some 37), .p (.mv (.s 36)), none⟩,
 ⟨(some 38), .p (.foff 2 (.s 1)), (some (37, true))⟩,
 ⟨(some 39), .p (.ld (.s 38)), (some (37, true))⟩,
 ⟨(some 40), .p (.lens (.s 39)), (some (37, true))⟩,
 ⟨(some 41), .p (.bin .leq (.s 40) (.c (.int .i64 32))), (some (37, true))⟩,
 ⟨(some 42), .p (.pick (.s 37) (.s 41) (.c (.bool false))), none⟩,
 ⟨(some 43), .p (.mv (.s 42)), none⟩,
 ⟨(some 44), .p (.foff 0 (.s 1)), (some (43, true))⟩,
 ⟨(some 45), .p (.ld (.s 44)), (some (43, true))⟩,
 ⟨(some 46), .p (.bin .eql (.s 45) (.c (.int .i64 2))), (some (43, true))⟩,
 ⟨(some 47), .p (.mv (.s 46)), (some (43, true))⟩,
 ⟨(some 48), .p (.foff 2 (.s 1)), (some (47, false))⟩,
 ⟨(some 49), .p (.ld (.s 48)), (some (47, false))⟩,
 ⟨(some 50), .e (.call N.unicode_utf8_ValidString [(.s 49)] true), (some (47, false))⟩,
 ⟨(some 51), .p (.pick (.s 47) (.c (.bool true)) (.s 50)), (some (43, true))⟩,
 ⟨(some 52), .p (.pick (.s 43) (.s 51) (.c (.bool false))), none⟩,
 ⟨(some 2), .p (.mv (.s 52)), none⟩] [2])
 .ret) .skip))))))))))
 (.seq (.reg [⟨(some 2), .p (.mv (.c (.bool false))), none⟩] [2])
 .ret)))⟩

def F.slices_IndexFunc_api_Cell_api_Cell_ : LFunc := ⟨19, [.t 4], 
 (.seq (.reg [⟨(some 4), .p (.mv (.c (.int .i64 0))), none⟩] [0, 1])
 (.seq (.seq (.reg [⟨(some 6), .p (.mv (.s 0)), none⟩,
 ⟨(some 7), .p (.lenl (.s 6)), none⟩,
 ⟨(some 8), .p (.mv (.c (.int .i64 0))), none⟩] [0, 1, 7, 8])
 (.block 0 (.loop (.seq (.reg [⟨(some 9), .p (.bin .lss (.s 8) (.s 7)), none⟩] [0, 1, 7, 8, 9])
 (.seq (.cond (.s 9) .skip (.exit 0))
 (.seq (.block 1 (.seq (.reg [⟨(some 10), .p (.mv (.s 8)), none⟩,
 ⟨(some 5), .p (.mv (.s 10)), none⟩] [0, 1, 5, 7, 8])
 (.seq (.reg [⟨(some 11), .p (.mv (.s 1)), none⟩,
 ⟨(some 12), .p (.mv (.s 0)), none⟩,
 ⟨(some 13), .p (.mv (.s 5)), none⟩,
 ⟨(some 14), .p (.iadr 8 (.s 12) (.s 13)), none⟩,
 ⟨(some 15), .p (.ldn 8 (.s 14)), none⟩,
 ⟨(some 16), .e (.callv (.s 11) [(.s 15)] true), none⟩] [0, 1, 5, 7, 8, 16])
 (.cond (.s 16) (.seq (.reg [⟨(some 17), .p (.mv (.s 5)), none⟩,
 ⟨(some 4), .p (.mv (.s 17)), none⟩] [4])
 .ret) .skip))))
 (.reg [⟨(some 18), .p (.bin .add (.s 8) (.c (.int .i64 1))), none⟩,
 ⟨(some 8), .p (.mv (.s 18)), none⟩] [0, 1, 7, 8])))) [0, 1, 7, 8])))
 (.seq (.reg [⟨(some 4), .p (.mv (.c (.int .i64 (-1)))), none⟩] [4])
 .ret)))⟩

def F.schema_groups : LFunc := ⟨26, [.t 4], 
 (.seq (.reg [⟨(some 2), .e (.box 5 (.s 0)), none⟩,
 ⟨(some 4), .p (.mv (.c (.psl []))), none⟩] [1, 2])
 (.seq (.reg [⟨(some 5), .e (.vnil 1), none⟩] [1, 2, 5])
 (.seq (.seq (.reg [⟨(some 8), .p (.foff 3 (.s 2)), none⟩,
 ⟨(some 9), .p (.ld (.s 8)), none⟩,
 ⟨(some 10), .p (.lenl (.s 9)), none⟩,
 ⟨(some 11), .p (.mv (.c (.int .i64 0))), none⟩] [1, 5, 9, 10, 11])
 (.block 0 (.loop (.seq (.reg [⟨(some 12), .p (.bin .lss (.s 11) (.s 10)), none⟩] [1, 5, 9, 10, 11, 12])
 (.seq (.cond (.s 12) .skip (.exit 0))
 (.seq (.block 1 (.seq (.reg [⟨(some 13), .p (.iadr 2 (.s 9) (.s 11)), none⟩,
 ⟨(some 14), .p (.ldn 2 (.s 13)), none⟩,
 ⟨(some 7), .e (.alloc [.int .i64 0, .int .i64 0]), none⟩,
 ⟨none, .e (.stn 2 (.s 7) (.s 14)), none⟩] [1, 5, 7, 9, 10, 11])
 (.seq (.reg [⟨(some 15), .p (.mv (.s 1)), none⟩,
 ⟨(some 16), .p (.foff 1 (.s 7)), none⟩,
 ⟨(some 17), .p (.ld (.s 16)), none⟩,
 ⟨(some 18), .e (.callv (.s 15) [(.s 17)] true), none⟩] [1, 5, 7, 9, 10, 11, 18])
 (.cond (.s 18) (.reg [⟨(some 19), .p (.mv (.s 5)), none⟩,
 ⟨(some 20), .p (.foff 0 (.s 7)), none⟩,
 ⟨(some 21), .p (.ld (.s 20)), none⟩,
 ⟨(some 22), .e (.bsl 1 1 [.int .i64 0] [(0, 1, (.s 21))]), none⟩,
 ⟨(some 23), .e (.app 1 8 (.s 19) (.s 22)), none⟩,
 ⟨(some 5), .p (.mv (.s 23)), none⟩] [1, 5, 9, 10, 11]) .skip))))
 (.reg [⟨(some 24), .p (.bin .add (.s 11) (.c (.int .i64 1))), none⟩,
 ⟨(some 11), .p (.mv (.s 24)), none⟩] [1, 5, 9, 10, 11])))) [1, 5, 9, 10, 11])))
 (.seq (.reg [⟨(some 25), .p (.mv (.s 5)), none⟩,
 ⟨(some 4), .p (.mv (.s 25)), none⟩] [4])
 .ret))))⟩

def F.schema_Written_1 : LFunc := ⟨9, [.t 2], 
 (.seq (.reg [⟨(some 2), .p (.mv (.c (.bool false))), none⟩] [0])
 (.seq (.reg [⟨(some 3), .p (.mv (.s 0)), none⟩,
 ⟨(some 4), .p (.bin .eql (.s 3) (.c (.int .i64 2))), none⟩,
 ⟨(some 5), .p (.mv (.s 4)), none⟩,
 ⟨(some 6), .p (.mv (.s 0)), (some (5, false))⟩,
 ⟨(some 7), .p (.bin .eql (.s 6) (.c (.int .i64 3))), (some (5, false))⟩,
 ⟨(some 8), .p (.pick (.s 5) (.c (.bool true)) (.s 7)), none⟩,
 ⟨(some 2), .p (.mv (.s 8)), none⟩] [2])
 .ret))⟩

def F.schema_Gone_1 : LFunc := ⟨5, [.t 2], 
 (.seq (.reg [⟨(some 2), .p (.mv (.c (.bool false))), none⟩] [0])
 (.seq (.reg [⟨(some 3), .p (.mv (.s 0)), none⟩,
 ⟨(some 4), .p (.bin .neq (.s 3) (.c (.int .i64 0))), none⟩,
 ⟨(some 2), .p (.mv (.s 4)), none⟩] [2])
 .ret))⟩

def F.plan_maker_add : LFunc := ⟨28, [], 
 (.seq (.reg [⟨(some 3), .e (.box 8 (.s 1)), none⟩] [0, 3])
 (.seq (.reg [⟨(some 4), .p (.mv (.s 0)), none⟩,
 ⟨(some 5), .p (.nilc (.s 4)), none⟩,
 ⟨(some 6), .p (.foff 10 (.s 5)), none⟩,
 ⟨(some 7), .p (.ld (.s 6)), none⟩,
 ⟨(some 8), .p (.foff 0 (.s 3)), none⟩,
 ⟨none, .e (.st (.s 8) (.s 7)), none⟩] [0, 3])
 (.seq (.reg [⟨(some 9), .p (.mv (.s 0)), none⟩,
 ⟨(some 10), .p (.mv (.s 0)), none⟩,
 ⟨(some 11), .p (.nilc (.s 10)), none⟩,
 ⟨(some 12), .p (.foff 12 (.s 11)), none⟩,
 ⟨(some 13), .p (.ld (.s 12)), none⟩,
 ⟨(some 14), .p (.mkfn N.plan_maker_add_1 [] [(.s 3)]), none⟩,
 ⟨(some 15), .e (.call N.slices_DeleteFunc_api_Cell_api_Cell_ [(.s 13), (.s 14)] false), none⟩,
 ⟨(some 16), .p (.nilc (.s 9)), none⟩,
 ⟨(some 17), .p (.foff 12 (.s 16)), none⟩,
 ⟨none, .e (.st (.s 17) (.s 15)), none⟩] [0, 3])
 (.regD [⟨(some 18), .p (.mv (.s 0)), none⟩,
 ⟨(some 19), .p (.mv (.s 0)), none⟩,
 ⟨(some 20), .p (.nilc (.s 19)), none⟩,
 ⟨(some 21), .p (.foff 12 (.s 20)), none⟩,
 ⟨(some 22), .p (.ld (.s 21)), none⟩,
 ⟨(some 23), .p (.ldn 8 (.s 3)), none⟩,
 ⟨none, .b 8 1 [.str [], .str [], .str [], .int .i64 0, .int .i64 0, .int .i64 0, .int .i64 0, .str []] [(0, 8, (.s 23))], none⟩,
 ⟨(some 24), .e (.bsl 8 1 [.str [], .str [], .str [], .int .i64 0, .int .i64 0, .int .i64 0, .int .i64 0, .str []] [(0, 8, (.s 23))]), none⟩,
 ⟨(some 22), .s (.ld (.s 21)), none⟩,
 ⟨(some 25), .e (.app 8 96 (.s 22) (.s 24)), none⟩,
 ⟨(some 26), .p (.nilc (.s 18)), none⟩,
 ⟨(some 27), .p (.foff 12 (.s 26)), none⟩,
 ⟨none, .e (.st (.s 27) (.s 25)), none⟩] [0, 1, 2, 3, 4, 5, 6, 7, 8, 9, 10] []))))⟩

def F.joistref02_Utf8 : LFunc := ⟨96, [.t 2], 
 (.seq (.reg [⟨(some 2), .p (.mv (.c (.bool false))), none⟩] [0])
 (.seq (.seq (.reg [⟨(some 3), .p (.mv (.c (.int .i64 0))), none⟩] [0, 3])
 (.block 0 (.loop (.seq (.seq (.reg [⟨(some 9), .p (.mv (.s 3)), none⟩,
 ⟨(some 10), .p (.mv (.s 0)), none⟩,
 ⟨(some 11), .p (.lens (.s 10)), none⟩,
 ⟨(some 12), .p (.bin .lss (.s 9) (.s 11)), none⟩] [0, 3, 12])
 (.cond (.s 12) .skip (.exit 0)))
 (.block 1 (.seq (.reg [⟨(some 13), .p (.mv (.s 0)), none⟩,
 ⟨(some 14), .p (.mv (.s 3)), none⟩,
 ⟨(some 15), .p (.idxs (.s 13) (.s 14)), none⟩,
 ⟨(some 16), .p (.cvt .i64 (.s 15)), none⟩,
 ⟨(some 4), .p (.mv (.s 16)), none⟩] [0, 3, 4])
 (.seq (.reg [⟨(some 5), .p (.mv (.c (.int .i64 0))), none⟩] [0, 3, 4])
 (.seq (.reg [⟨(some 6), .p (.mv (.c (.int .i64 0))), none⟩] [0, 3, 4])
 (.seq (.block 2 (.seq (.reg [⟨(some 18), .p (.mv (.s 4)), none⟩,
 ⟨(some 19), .p (.bin .lss (.s 18) (.c (.int .i64 128))), none⟩,
 ⟨(some 17), .p (.mv (.s 19)), none⟩] [0, 3, 4, 17])
 (.cond (.s 17) (.seq (.reg [⟨(some 20), .p (.mv (.s 3)), none⟩,
 ⟨(some 21), .p (.bin .add (.s 20) (.c (.int .i64 1))), none⟩,
 ⟨(some 3), .p (.mv (.s 21)), none⟩] [0, 3])
 (.exit 1)) (.seq (.reg [⟨(some 23), .p (.mv (.s 4)), none⟩,
 ⟨(some 24), .p (.bin .geq (.s 23) (.c (.int .i64 194))), none⟩,
 ⟨(some 25), .p (.mv (.s 24)), none⟩,
 ⟨(some 26), .p (.mv (.s 4)), (some (25, true))⟩,
 ⟨(some 27), .p (.bin .leq (.s 26) (.c (.int .i64 223))), (some (25, true))⟩,
 ⟨(some 28), .p (.pick (.s 25) (.s 27) (.c (.bool false))), none⟩,
 ⟨(some 22), .p (.mv (.s 28)), none⟩] [0, 3, 4, 22])
 (.cond (.s 22) (.seq (.reg [⟨(some 5), .p (.mv (.c (.int .i64 1))), none⟩] [0, 3, 4, 5])
 (.seq (.reg [⟨(some 29), .p (.mv (.s 4)), none⟩,
 ⟨(some 30), .p (.bin .sub (.s 29) (.c (.int .i64 192))), none⟩,
 ⟨(some 4), .p (.mv (.s 30)), none⟩] [0, 3, 4, 5])
 (.reg [⟨(some 6), .p (.mv (.c (.int .i64 128))), none⟩] [0, 3, 4, 5, 6]))) (.seq (.reg [⟨(some 32), .p (.mv (.s 4)), none⟩,
 ⟨(some 33), .p (.bin .geq (.s 32) (.c (.int .i64 224))), none⟩,
 ⟨(some 34), .p (.mv (.s 33)), none⟩,
 ⟨(some 35), .p (.mv (.s 4)), (some (34, true))⟩,
 ⟨(some 36), .p (.bin .leq (.s 35) (.c (.int .i64 239))), (some (34, true))⟩,
 ⟨(some 37), .p (.pick (.s 34) (.s 36) (.c (.bool false))), none⟩,
 ⟨(some 31), .p (.mv (.s 37)), none⟩] [0, 3, 4, 31])
 (.cond (.s 31) (.seq (.reg [⟨(some 5), .p (.mv (.c (.int .i64 2))), none⟩] [0, 3, 4, 5])
 (.seq (.reg [⟨(some 38), .p (.mv (.s 4)), none⟩,
 ⟨(some 39), .p (.bin .sub (.s 38) (.c (.int .i64 224))), none⟩,
 ⟨(some 4), .p (.mv (.s 39)), none⟩] [0, 3, 4, 5])
 (.reg [⟨(some 6), .p (.mv (.c (.int .i64 2048))), none⟩] [0, 3, 4, 5, 6]))) (.seq (.reg [⟨(some 41), .p (.mv (.s 4)), none⟩,
 ⟨(some 42), .p (.bin .geq (.s 41) (.c (.int .i64 240))), none⟩,
 ⟨(some 43), .p (.mv (.s 42)), none⟩,
 ⟨(some 44), .p (.mv (.s 4)), (some (43, true))⟩,
 ⟨(some 45), .p (.bin .leq (.s 44) (.c (.int .i64 244))), (some (43, true))⟩,
 ⟨(some 46), .p (.pick (.s 43) (.s 45) (.c (.bool false))), none⟩,
 ⟨(some 40), .p (.mv (.s 46)), none⟩] [0, 3, 4, 40])
 (.cond (.s 40) (.seq (.reg [⟨(some 5), .p (.mv (.c (.int .i64 3))), none⟩] [0, 3, 4, 5])
 (.seq (.reg [⟨(some 47), .p (.mv (.s 4)), none⟩,
 ⟨(some 48), .p (.bin .sub (.s 47) (.c (.int .i64 240))), none⟩,
 ⟨(some 4), .p (.mv (.s 48)), none⟩] [0, 3, 4, 5])
 (.reg [⟨(some 6), .p (.mv (.c (.int .i64 65536))), none⟩] [0, 3, 4, 5, 6]))) (.seq (.reg [⟨(some 2), .p (.mv (.c (.bool false))), none⟩] [2])
 .ret))))))))))
 (.seq (.seq (.reg [⟨(some 49), .p (.mv (.s 3)), none⟩,
 ⟨(some 50), .p (.mv (.s 5)), none⟩,
 ⟨(some 51), .p (.bin .add (.s 49) (.s 50)), none⟩,
 ⟨(some 52), .p (.mv (.s 0)), none⟩,
 ⟨(some 53), .p (.lens (.s 52)), none⟩,
 ⟨(some 54), .p (.bin .geq (.s 51) (.s 53)), none⟩] [0, 3, 4, 5, 6, 54])
 (.cond (.s 54) (.seq (.reg [⟨(some 2), .p (.mv (.c (.bool false))), none⟩] [2])
 .ret) .skip))
 (.seq (.seq (.reg [⟨(some 7), .p (.mv (.c (.int .i64 1))), none⟩] [0, 3, 4, 5, 6, 7])
 (.block 3 (.loop (.seq (.seq (.reg [⟨(some 55), .p (.mv (.s 7)), none⟩,
 ⟨(some 56), .p (.mv (.s 5)), none⟩,
 ⟨(some 57), .p (.bin .leq (.s 55) (.s 56)), none⟩] [0, 3, 4, 5, 6, 7, 57])
 (.cond (.s 57) .skip (.exit 3)))
 (.seq (.block 4 (.seq (.reg [⟨(some 60), .p (.mv (.s 0)), none⟩,
 ⟨(some 61), .p (.mv (.s 3)), none⟩,
 ⟨(some 62), .p (.mv (.s 7)), none⟩,
 ⟨(some 63), .p (.bin .add (.s 61) (.s 62)), none⟩,
 ⟨(some 64), .p (.idxs (.s 60) (.s 63)), none⟩,
 ⟨(some 65), .p (.cvt .i64 (.s 64)), none⟩,
 ⟨(some 8), .p (.mv (.s 65)), none⟩] [0, 3, 4, 5, 6, 7, 8])
 (.seq (.seq (.reg [⟨(some 66), .p (.mv (.s 8)), none⟩,
 ⟨(some 67), .p (.bin .lss (.s 66) (.c (.int .i64 128))), none⟩,
 ⟨(some 68), .p (.mv (.s 67)), none⟩,
 ⟨(some 69), .p (.mv (.s 8)), (some (68, false))⟩,
 ⟨(some 70), .p (.bin .gtr (.s 69) (.c (.int .i64 191))), (some (68, false))⟩,
 ⟨(some 71), .p (.pick (.s 68) (.c (.bool true)) (.s 70)), none⟩] [0, 3, 4, 5, 6, 7, 8, 71])
 (.cond (.s 71) (.seq (.reg [⟨(some 2), .p (.mv (.c (.bool false))), none⟩] [2])
 .ret) .skip))
 (.reg [⟨(some 72), .p (.mv (.s 4)), none⟩,
 ⟨(some 73), .p (.bin .mul (.s 72) (.c (.int .i64 64))), none⟩,
 ⟨(some 74), .p (.mv (.s 8)), none⟩,
 ⟨(some 75), .p (.bin .add (.s 73) (.s 74)), none⟩,
 ⟨(some 76), .p (.bin .sub (.s 75) (.c (.int .i64 128))), none⟩,
 ⟨(some 4), .p (.mv (.s 76)), none⟩] [0, 3, 4, 5, 6, 7]))))
 (.reg [⟨(some 58), .p (.mv (.s 7)), none⟩,
 ⟨(some 59), .p (.bin .add (.s 58) (.c (.int .i64 1))), none⟩,
 ⟨(some 7), .p (.mv (.s 59)), none⟩] [0, 3, 4, 5, 6, 7]))) [0, 3, 4, 5, 6, 7])))
 (.seq (.seq (.reg [⟨(some 77), .p (.mv (.s 4)), none⟩,
 ⟨(some 78), .p (.mv (.s 6)), none⟩,
 ⟨(some 79), .p (.bin .lss (.s 77) (.s 78)), none⟩,
 ⟨(some 80), .p (.mv (.s 79)), none⟩,
 ⟨(some 81), .p (.mv (.s 4)), (some (80, false))⟩,
 ⟨(some 82), .p (.bin .gtr (.s 81) (.c (.int .i64 1114111))), (some (80, false))⟩,
 ⟨(some 83), .p (.pick (.s 80) (.c (.bool true)) (.s 82)), none⟩,
 ⟨(some 84), .p (.mv (.s 83)), none⟩,
 ⟨(some 85), .p (.mv (.s 4)), (some (84, false))⟩,
 ⟨(some 86), .p (.bin .geq (.s 85) (.c (.int .i64 55296))), (some (84, false))⟩,
 ⟨(some 87), .p (.mv (.s 86)), (some (84, false))⟩,
 ⟨(some 88), .p (.mv (.s 4)), (some (87, true))⟩,
 ⟨(some 89), .p (.bin .leq (.s 88) (.c (.int .i64 57343))), (some (87, true))⟩,
 ⟨(some 90), .p (.pick (.s 87) (.s 89) (.c (.bool false))), (some (84, false))⟩,
 ⟨(some 91), .p (.pick (.s 84) (.c (.bool true)) (.s 90)), none⟩] [0, 3, 5, 91])
 (.cond (.s 91) (.seq (.reg [⟨(some 2), .p (.mv (.c (.bool false))), none⟩] [2])
 .ret) .skip))
 (.reg [⟨(some 92), .p (.mv (.s 3)), none⟩,
 ⟨(some 93), .p (.mv (.s 5)), none⟩,
 ⟨(some 94), .p (.bin .add (.s 93) (.c (.int .i64 1))), none⟩,
 ⟨(some 95), .p (.bin .add (.s 92) (.s 94)), none⟩,
 ⟨(some 3), .p (.mv (.s 95)), none⟩] [0, 3])))))))))) [0, 3])))
 (.seq (.reg [⟨(some 2), .p (.mv (.c (.bool true))), none⟩] [2])
 .ret)))⟩

def F.joistref01_Right : LFunc := ⟨10, [.t 2], 
 (.seq (.reg [⟨(some 2), .p (.mv (.c (.bool false))), none⟩] [0])
 (.seq (.reg [⟨(some 3), .p (.mv (.s 0)), none⟩,
 ⟨(some 4), .e (.call N.joistref01_size [(.s 3)] true), none⟩,
 ⟨(some 5), .p (.bin .leq (.s 4) (.c (.int .i64 9218868437227405312))), none⟩,
 ⟨(some 6), .p (.mv (.s 5)), none⟩,
 ⟨(some 7), .p (.mv (.s 0)), (some (6, false))⟩,
 ⟨(some 8), .p (.bin .eql (.s 7) (.c (.int .i64 9221120237041090560))), (some (6, false))⟩,
 ⟨(some 9), .p (.pick (.s 6) (.c (.bool true)) (.s 8)), none⟩,
 ⟨(some 2), .p (.mv (.s 9)), none⟩] [2])
 .ret))⟩

def F.slices_IndexFunc_api_Layout_api_Layout_ : LFunc := ⟨19, [.t 4], 
 (.seq (.reg [⟨(some 4), .p (.mv (.c (.int .i64 0))), none⟩] [0, 1])
 (.seq (.seq (.reg [⟨(some 6), .p (.mv (.s 0)), none⟩,
 ⟨(some 7), .p (.lenl (.s 6)), none⟩,
 ⟨(some 8), .p (.mv (.c (.int .i64 0))), none⟩] [0, 1, 7, 8])
 (.block 0 (.loop (.seq (.reg [⟨(some 9), .p (.bin .lss (.s 8) (.s 7)), none⟩] [0, 1, 7, 8, 9])
 (.seq (.cond (.s 9) .skip (.exit 0))
 (.seq (.block 1 (.seq (.reg [⟨(some 10), .p (.mv (.s 8)), none⟩,
 ⟨(some 5), .p (.mv (.s 10)), none⟩] [0, 1, 5, 7, 8])
 (.seq (.reg [⟨(some 11), .p (.mv (.s 1)), none⟩,
 ⟨(some 12), .p (.mv (.s 0)), none⟩,
 ⟨(some 13), .p (.mv (.s 5)), none⟩,
 ⟨(some 14), .p (.iadr 2 (.s 12) (.s 13)), none⟩,
 ⟨(some 15), .p (.ldn 2 (.s 14)), none⟩,
 ⟨(some 16), .e (.callv (.s 11) [(.s 15)] true), none⟩] [0, 1, 5, 7, 8, 16])
 (.cond (.s 16) (.seq (.reg [⟨(some 17), .p (.mv (.s 5)), none⟩,
 ⟨(some 4), .p (.mv (.s 17)), none⟩] [4])
 .ret) .skip))))
 (.reg [⟨(some 18), .p (.bin .add (.s 8) (.c (.int .i64 1))), none⟩,
 ⟨(some 8), .p (.mv (.s 18)), none⟩] [0, 1, 7, 8])))) [0, 1, 7, 8])))
 (.seq (.reg [⟨(some 4), .p (.mv (.c (.int .i64 (-1)))), none⟩] [4])
 .ret)))⟩

def F.schema_Read_1 : LFunc := ⟨6, [.t 2], 
 (.seq (.reg [⟨(some 1), .e (.box 2 (.s 0)), none⟩,
 ⟨(some 2), .p (.mv (.c (.bool false))), none⟩] [1])
 (.seq (.reg [⟨(some 3), .p (.foff 1 (.s 1)), none⟩,
 ⟨(some 4), .p (.ld (.s 3)), none⟩,
 ⟨(some 5), .p (.bin .eql (.s 4) (.c (.int .i64 3))), none⟩,
 ⟨(some 2), .p (.mv (.s 5)), none⟩] [2])
 .ret))⟩

def F.slices_Index_string_string_ : LFunc := ⟨19, [.t 4], 
 (.seq (.reg [⟨(some 4), .p (.mv (.c (.int .i64 0))), none⟩] [0, 1])
 (.seq (.seq (.reg [⟨(some 6), .p (.mv (.s 0)), none⟩,
 ⟨(some 7), .p (.lenl (.s 6)), none⟩,
 ⟨(some 8), .p (.mv (.c (.int .i64 0))), none⟩] [0, 1, 7, 8])
 (.block 0 (.loop (.seq (.reg [⟨(some 9), .p (.bin .lss (.s 8) (.s 7)), none⟩] [0, 1, 7, 8, 9])
 (.seq (.cond (.s 9) .skip (.exit 0))
 (.seq (.block 1 (.seq (.reg [⟨(some 10), .p (.mv (.s 8)), none⟩,
 ⟨(some 5), .p (.mv (.s 10)), none⟩] [0, 1, 5, 7, 8])
 (.seq (.reg [⟨(some 11), .p (.mv (.s 1)), none⟩,
 ⟨(some 12), .p (.mv (.s 0)), none⟩,
 ⟨(some 13), .p (.mv (.s 5)), none⟩,
 ⟨(some 14), .p (.iadr 1 (.s 12) (.s 13)), none⟩,
 ⟨(some 15), .p (.ld (.s 14)), none⟩,
 ⟨(some 16), .p (.bin .eql (.s 11) (.s 15)), none⟩] [0, 1, 5, 7, 8, 16])
 (.cond (.s 16) (.seq (.reg [⟨(some 17), .p (.mv (.s 5)), none⟩,
 ⟨(some 4), .p (.mv (.s 17)), none⟩] [4])
 .ret) .skip))))
 (.reg [⟨(some 18), .p (.bin .add (.s 8) (.c (.int .i64 1))), none⟩,
 ⟨(some 8), .p (.mv (.s 18)), none⟩] [0, 1, 7, 8])))) [0, 1, 7, 8])))
 (.seq (.reg [⟨(some 4), .p (.mv (.c (.int .i64 (-1)))), none⟩] [4])
 .ret)))⟩

def F.slices_Sort_string_string_ : LFunc := ⟨11, [], 
 (.seq (.reg [⟨(some 3), .p (.mv (.s 0)), none⟩,
 ⟨(some 4), .p (.lenl (.s 3)), none⟩,
 ⟨(some 2), .p (.mv (.s 4)), none⟩] [0, 2])
 (.reg [⟨(some 5), .p (.mv (.s 0)), none⟩,
 ⟨(some 6), .p (.mv (.s 2)), none⟩,
 ⟨(some 7), .p (.mv (.s 2)), none⟩,
 ⟨(some 8), .p (.cvt .u64 (.s 7)), none⟩,
 ⟨(some 9), .e (.call N.math_bits_Len [(.s 8)] false), none⟩,
 ⟨(some 10), .e (.call N.slices_pdqsortOrdered_string [(.s 5), (.c (.int .i64 0)), (.s 6), (.s 9)] false), none⟩] []))⟩

def F.slices_Clone_string_string_ : LFunc := ⟨8, [.t 2], 
 (.seq (.reg [⟨(some 2), .p (.mv (.c (.psl []))), none⟩] [0])
 (.seq (.seq (.reg [⟨(some 3), .p (.mv (.s 0)), none⟩,
 ⟨(some 4), .e (.isnil false (.s 3)), none⟩] [0, 4])
 (.cond (.s 4) (.seq (.reg [⟨(some 2), .p (.mv (.c (.psl []))), none⟩] [2])
 .ret) .skip))
 (.seq (.reg [⟨(some 5), .e (.bsl 1 0 [.str []] []), none⟩,
 ⟨(some 6), .p (.mv (.s 0)), none⟩,
 ⟨(some 7), .e (.app 1 16 (.s 5) (.s 6)), none⟩,
 ⟨(some 2), .p (.mv (.s 7)), none⟩] [2])
 .ret)))⟩

def F.schema_Right_1 : LFunc := ⟨6, [.t 2], 
 (.seq (.reg [⟨(some 1), .e (.box 5 (.s 0)), none⟩,
 ⟨(some 2), .p (.mv (.c (.bool false))), none⟩] [1])
 (.seq (.reg [⟨(some 3), .p (.ldn 5 (.s 1)), none⟩,
 ⟨(some 4), .e (.call N.schema_family [(.s 3)] true), none⟩,
 ⟨(some 5), .p (.un .not (.s 4)), none⟩,
 ⟨(some 2), .p (.mv (.s 5)), none⟩] [2])
 .ret))⟩

def F.schema_family : LFunc := ⟨26, [.t 2], 
 (.seq (.reg [⟨(some 1), .e (.box 5 (.s 0)), none⟩,
 ⟨(some 2), .p (.mv (.c (.bool false))), none⟩] [1])
 (.seq (.reg [⟨(some 3), .p (.foff 0 (.s 1)), none⟩,
 ⟨(some 4), .p (.ld (.s 3)), none⟩,
 ⟨(some 5), .e (.call N.schema_name [(.s 4)] true), none⟩,
 ⟨(some 6), .p (.mv (.s 5)), none⟩,
 ⟨(some 7), .p (.foff 1 (.s 1)), (some (6, true))⟩,
 ⟨(some 8), .p (.ld (.s 7)), (some (6, true))⟩,
 ⟨(some 9), .e (.call N.schema_within [(.s 8), (.c (.int .i64 1)), (.c (.int .i64 8))] true), (some (6, true))⟩,
 ⟨(some 10), .p (.pick (.s 6) (.s 9) (.c (.bool false))), none⟩,
 ⟨(some 11), .p (.mv (.s 10)), none⟩,
 ⟨(some 12), .p (.foff 2 (.s 1)), (some (11, true))⟩,
 ⟨(some 13), .p (.ld (.s 12)), (some (11, true))⟩,
 ⟨(some 14), .e (.call N.schema_within [(.s 13), (.c (.int .i64 0)), (.c (.int .i64 1099511627776))] true), (some (11, true))⟩,
 ⟨(some 15), .p (.pick (.s 11) (.s 14) (.c (.bool false))), none⟩,
 ⟨(some 16), .p (.mv (.s 15)), none⟩,
 ⟨(some 17), .p (.foff 3 (.s 1)), (some (16, true))⟩,
 ⟨(some 18), .p (.ld (.s 17)), (some (16, true))⟩,
 ⟨(some 19), .e (.call N.schema_layouts [(.s 18)] true), (some (16, true))⟩,
 ⟨(some 20), .p (.pick (.s 16) (.s 19) (.c (.bool false))), none⟩,
 ⟨(some 21), .p (.mv (.s 20)), none⟩,
 ⟨(some 22), .p (.foff 4 (.s 1)), (some (21, true))⟩,
 ⟨(some 23), .p (.ld (.s 22)), (some (21, true))⟩,
 ⟨(some 24), .e (.call N.schema_cols [(.s 23)] true), (some (21, true))⟩,
 ⟨(some 25), .p (.pick (.s 21) (.s 24) (.c (.bool false))), none⟩,
 ⟨(some 2), .p (.mv (.s 25)), none⟩] [2])
 .ret))⟩

def F.schema_within : LFunc := ⟨15, [.t 6], 
 (.seq (.reg [⟨(some 6), .p (.mv (.c (.bool false))), none⟩] [0, 1, 2])
 (.seq (.reg [⟨(some 7), .p (.mv (.s 0)), none⟩,
 ⟨(some 8), .p (.mv (.s 1)), none⟩,
 ⟨(some 9), .p (.bin .geq (.s 7) (.s 8)), none⟩,
 ⟨(some 10), .p (.mv (.s 9)), none⟩,
 ⟨(some 11), .p (.mv (.s 0)), (some (10, true))⟩,
 ⟨(some 12), .p (.mv (.s 2)), (some (10, true))⟩,
 ⟨(some 13), .p (.bin .leq (.s 11) (.s 12)), (some (10, true))⟩,
 ⟨(some 14), .p (.pick (.s 10) (.s 13) (.c (.bool false))), none⟩,
 ⟨(some 6), .p (.mv (.s 14)), none⟩] [6])
 .ret))⟩

def F.slices_ContainsFunc_api_Family_api_Family_ : LFunc := ⟨9, [.t 4], 
 (.seq (.reg [⟨(some 4), .p (.mv (.c (.bool false))), none⟩] [0, 1])
 (.seq (.reg [⟨(some 5), .p (.mv (.s 0)), none⟩,
 ⟨(some 6), .p (.mv (.s 1)), none⟩,
 ⟨(some 7), .e (.call N.slices_IndexFunc_api_Family_api_Family_ [(.s 5), (.s 6)] true), none⟩,
 ⟨(some 8), .p (.bin .geq (.s 7) (.c (.int .i64 0))), none⟩,
 ⟨(some 4), .p (.mv (.s 8)), none⟩] [4])
 .ret))⟩

def F.schema_once_string : LFunc := ⟨27, [.t 4], 
 (.seq (.reg [⟨(some 4), .p (.mv (.c (.bool false))), none⟩] [0, 1])
 (.seq (.reg [⟨(some 8), .e (.mkmap), none⟩,
 ⟨(some 5), .p (.mv (.s 8)), none⟩] [0, 1, 5])
 (.seq (.seq (.reg [⟨(some 9), .p (.mv (.s 0)), none⟩,
 ⟨(some 10), .p (.lenl (.s 9)), none⟩,
 ⟨(some 11), .p (.mv (.c (.int .i64 0))), none⟩] [0, 1, 5, 9, 10, 11])
 (.block 0 (.loop (.seq (.reg [⟨(some 12), .p (.bin .lss (.s 11) (.s 10)), none⟩] [0, 1, 5, 9, 10, 11, 12])
 (.seq (.cond (.s 12) .skip (.exit 0))
 (.seq (.block 1 (.seq (.reg [⟨(some 13), .p (.iadr 5 (.s 9) (.s 11)), none⟩,
 ⟨(some 14), .p (.ldn 5 (.s 13)), none⟩,
 ⟨(some 7), .e (.alloc [.str [], .int .i64 0, .int .i64 0, .psl [], .psl []]), none⟩,
 ⟨none, .e (.stn 5 (.s 7) (.s 14)), none⟩] [0, 1, 5, 7, 9, 10, 11])
 (.reg [⟨(some 15), .p (.mv (.s 5)), none⟩,
 ⟨(some 16), .p (.mv (.s 1)), none⟩,
 ⟨(some 17), .p (.ldn 5 (.s 7)), none⟩,
 ⟨(some 18), .e (.callv (.s 16) [(.s 17)] true), none⟩,
 ⟨(some 19), .p (.look 1 false (.int .i64 0) (.s 15) (.s 18)), none⟩,
 ⟨(some 20), .p (.bin .add (.s 19) (.c (.int .i64 1))), none⟩,
 ⟨none, .e (.mapup 1 (.s 15) (.s 18) (.s 20)), none⟩] [0, 1, 5, 9, 10, 11])))
 (.reg [⟨(some 21), .p (.bin .add (.s 11) (.c (.int .i64 1))), none⟩,
 ⟨(some 11), .p (.mv (.s 21)), none⟩] [0, 1, 5, 9, 10, 11])))) [0, 1, 5, 9, 10, 11])))
 (.seq (.reg [⟨(some 22), .p (.mv (.s 5)), none⟩,
 ⟨(some 23), .p (.lenm (.s 22)), none⟩,
 ⟨(some 24), .p (.mv (.s 0)), none⟩,
 ⟨(some 25), .p (.lenl (.s 24)), none⟩,
 ⟨(some 26), .p (.bin .eql (.s 23) (.s 25)), none⟩,
 ⟨(some 4), .p (.mv (.s 26)), none⟩] [4])
 .ret))))⟩

def F.schema_Right_2 : LFunc := ⟨5, [.t 2], 
 (.seq (.reg [⟨(some 1), .e (.box 5 (.s 0)), none⟩,
 ⟨(some 2), .p (.mv (.c (.str []))), none⟩] [1])
 (.seq (.reg [⟨(some 3), .p (.foff 0 (.s 1)), none⟩,
 ⟨(some 4), .p (.ld (.s 3)), none⟩,
 ⟨(some 2), .p (.mv (.s 4)), none⟩] [2])
 .ret))⟩

def F.plan_view_family : LFunc := ⟨24, [.cn 4 5, .t 5], 
 (.seq (.reg [⟨(some 2), .e (.box 10 (.s 0)), none⟩,
 ⟨(some 4), .e (.alloc [.str [], .int .i64 0, .int .i64 0, .psl [], .psl []]), none⟩,
 ⟨(some 5), .p (.mv (.c (.bool false))), none⟩] [1, 2, 4])
 (.seq (.reg [⟨(some 11), .p (.foff 0 (.s 2)), none⟩,
 ⟨(some 12), .p (.ldn 10 (.s 11)), none⟩,
 ⟨(some 13), .p (.mv (.s 1)), none⟩,
 ⟨(some 14), .e (.call N.schema_Find [(.s 12), (.s 13)] true), none⟩,
 ⟨(some 10), .p (.mv (.s 14)), none⟩,
 ⟨(some 15), .p (.ext (.s 10) 0), none⟩,
 ⟨(some 16), .p (.ext (.s 10) 1), none⟩,
 ⟨(some 6), .e (.alloc [.str [], .int .i64 0, .int .i64 0, .psl [], .psl []]), none⟩,
 ⟨none, .e (.stn 5 (.s 6) (.s 15)), none⟩,
 ⟨(some 7), .p (.mv (.s 16)), none⟩] [4, 6])
 (.seq (.reg [⟨(some 18), .p (.ldn 5 (.s 6)), none⟩,
 ⟨(some 19), .e (.call N.schema_Read [(.s 18)] true), none⟩,
 ⟨(some 17), .p (.mv (.s 19)), none⟩,
 ⟨(some 20), .p (.ext (.s 17) 0), none⟩,
 ⟨(some 21), .p (.ext (.s 17) 1), none⟩,
 ⟨(some 8), .p (.mv (.s 20)), none⟩,
 ⟨(some 9), .p (.mv (.s 21)), none⟩] [4, 6, 9])
 (.seq (.reg [⟨(some 22), .p (.ldn 5 (.s 6)), none⟩,
 ⟨(some 23), .p (.mv (.s 9)), none⟩,
 ⟨none, .e (.stn 5 (.s 4) (.s 22)), none⟩,
 ⟨(some 5), .p (.mv (.s 23)), none⟩] [4, 5])
 .ret))))⟩

def F.schema_Column : LFunc := ⟨19, [.cn 4 3, .t 5], 
 (.seq (.reg [⟨(some 2), .e (.box 5 (.s 0)), none⟩,
 ⟨(some 3), .e (.box 1 (.s 1)), none⟩,
 ⟨(some 4), .e (.alloc [.str [], .int .i64 0, .int .i64 0]), none⟩,
 ⟨(some 5), .p (.mv (.c (.bool false))), none⟩] [2, 3, 4])
 (.seq (.reg [⟨(some 7), .p (.foff 4 (.s 2)), none⟩,
 ⟨(some 8), .p (.ld (.s 7)), none⟩,
 ⟨(some 9), .p (.mkfn N.schema_Column_1 [] [(.s 3)]), none⟩,
 ⟨(some 10), .e (.call N.slices_IndexFunc_api_Column_api_Column_ [(.s 8), (.s 9)] true), none⟩,
 ⟨(some 6), .p (.mv (.s 10)), none⟩] [2, 4, 6])
 (.seq (.seq (.reg [⟨(some 11), .p (.mv (.s 6)), none⟩,
 ⟨(some 12), .p (.bin .lss (.s 11) (.c (.int .i64 0))), none⟩] [2, 4, 6, 12])
 (.cond (.s 12) (.seq (.reg [⟨(some 13), .p (.build [.str [], .int .i64 0, .int .i64 0] []), none⟩,
 ⟨none, .e (.stn 3 (.s 4) (.s 13)), none⟩,
 ⟨(some 5), .p (.mv (.c (.bool false))), none⟩] [4, 5])
 .ret) .skip))
 (.seq (.reg [⟨(some 14), .p (.foff 4 (.s 2)), none⟩,
 ⟨(some 15), .p (.ld (.s 14)), none⟩,
 ⟨(some 16), .p (.mv (.s 6)), none⟩,
 ⟨(some 17), .p (.iadr 3 (.s 15) (.s 16)), none⟩,
 ⟨(some 18), .p (.ldn 3 (.s 17)), none⟩,
 ⟨none, .e (.stn 3 (.s 4) (.s 18)), none⟩,
 ⟨(some 5), .p (.mv (.c (.bool true))), none⟩] [4, 5])
 .ret))))⟩

def F.filter_Right : LFunc := ⟨42, [.t 2], 
 (.seq (.reg [⟨(some 1), .e (.box 7 (.s 0)), none⟩,
 ⟨(some 2), .p (.mv (.c (.bool false))), none⟩] [1])
 (.seq (.seq (.reg [⟨(some 3), .p (.foff 0 (.s 1)), none⟩,
 ⟨(some 4), .p (.ld (.s 3)), none⟩,
 ⟨(some 5), .p (.lenl (.s 4)), none⟩,
 ⟨(some 6), .p (.bin .gtr (.s 5) (.c (.int .i64 6))), none⟩,
 ⟨(some 7), .p (.mv (.s 6)), none⟩,
 ⟨(some 8), .p (.foff 0 (.s 1)), (some (7, false))⟩,
 ⟨(some 9), .p (.ld (.s 8)), (some (7, false))⟩,
 ⟨(some 10), .e (.call N.slices_ContainsFunc_string_string_ [(.s 9), (.c (.fn N.filter_Right_1 [] []))] true), (some (7, false))⟩,
 ⟨(some 11), .p (.pick (.s 7) (.c (.bool true)) (.s 10)), none⟩] [1, 11])
 (.cond (.s 11) (.seq (.reg [⟨(some 2), .p (.mv (.c (.bool false))), none⟩] [2])
 .ret) .skip))
 (.seq (.reg [⟨(some 12), .p (.foff 1 (.s 1)), none⟩,
 ⟨(some 13), .p (.ld (.s 12)), none⟩,
 ⟨(some 14), .p (.lens (.s 13)), none⟩,
 ⟨(some 15), .p (.bin .leq (.s 14) (.c (.int .i64 12))), none⟩,
 ⟨(some 16), .p (.mv (.s 15)), none⟩,
 ⟨(some 17), .p (.foff 2 (.s 1)), (some (16, true))⟩,
 ⟨(some 18), .p (.ld (.s 17)), (some (16, true))⟩,
 ⟨(some 19), .p (.lens (.s 18)), (some (16, true))⟩,
 ⟨(some 20), .p (.bin .leq (.s 19) (.c (.int .i64 12))), (some (16, true))⟩,
 ⟨(some 21), .p (.pick (.s 16) (.s 20) (.c (.bool false))), none⟩,
 ⟨(some 22), .p (.mv (.s 21)), none⟩,
 ⟨(some 23), .p (.foff 3 (.s 1)), (some (22, true))⟩,
 ⟨(some 24), .p (.ld (.s 23)), (some (22, true))⟩,
 ⟨(some 25), .e (.call N.filter_within [(.s 24), (.c (.int .i64 1099511627776))] true), (some (22, true))⟩,
 ⟨(some 26), .p (.pick (.s 22) (.s 25) (.c (.bool false))), none⟩,
 ⟨(some 27), .p (.mv (.s 26)), none⟩,
 ⟨(some 28), .p (.foff 4 (.s 1)), (some (27, true))⟩,
 ⟨(some 29), .p (.ld (.s 28)), (some (27, true))⟩,
 ⟨(some 30), .e (.call N.filter_within [(.s 29), (.c (.int .i64 1099511627776))] true), (some (27, true))⟩,
 ⟨(some 31), .p (.pick (.s 27) (.s 30) (.c (.bool false))), none⟩,
 ⟨(some 32), .p (.mv (.s 31)), none⟩,
 ⟨(some 33), .p (.foff 5 (.s 1)), (some (32, true))⟩,
 ⟨(some 34), .p (.ld (.s 33)), (some (32, true))⟩,
 ⟨(some 35), .e (.call N.filter_within [(.s 34), (.c (.int .i64 8))] true), (some (32, true))⟩,
 ⟨(some 36), .p (.pick (.s 32) (.s 35) (.c (.bool false))), none⟩,
 ⟨(some 37), .p (.mv (.s 36)), none⟩,
 ⟨(some 38), .p (.foff 6 (.s 1)), (some (37, true))⟩,
 ⟨(some 39), .p (.ld (.s 38)), (some (37, true))⟩,
 ⟨(some 40), .e (.call N.filter_within [(.s 39), (.c (.int .i64 1000))] true), (some (37, true))⟩,
 ⟨(some 41), .p (.pick (.s 37) (.s 40) (.c (.bool false))), none⟩,
 ⟨(some 2), .p (.mv (.s 41)), none⟩] [2])
 .ret)))⟩

def F.plan_write_1 : LFunc := ⟨6, [.t 2], 
 (.seq (.reg [⟨(some 1), .e (.box 6 (.s 0)), none⟩,
 ⟨(some 2), .p (.mv (.c (.bool false))), none⟩] [1])
 (.seq (.reg [⟨(some 3), .p (.ldn 6 (.s 1)), none⟩,
 ⟨(some 4), .e (.call N.plan_mut [(.s 3)] true), none⟩,
 ⟨(some 5), .p (.un .not (.s 4)), none⟩,
 ⟨(some 2), .p (.mv (.s 5)), none⟩] [2])
 .ret))⟩

def F.plan_mut : LFunc := ⟨49, [.t 2], 
 (.seq (.reg [⟨(some 1), .e (.box 6 (.s 0)), none⟩,
 ⟨(some 2), .p (.mv (.c (.bool false))), none⟩] [1])
 (.seq (.seq (.reg [⟨(some 3), .p (.foff 0 (.s 1)), none⟩,
 ⟨(some 4), .p (.ld (.s 3)), none⟩] [1, 4])
 (.block 0 (.seq (.reg [⟨(some 6), .p (.bin .eql (.s 4) (.c (.int .i64 1))), none⟩,
 ⟨(some 5), .p (.mv (.s 6)), none⟩] [1, 4, 5])
 (.cond (.s 5) (.seq (.reg [⟨(some 7), .p (.foff 1 (.s 1)), none⟩,
 ⟨(some 8), .p (.ld (.s 7)), none⟩,
 ⟨(some 9), .p (.foff 2 (.s 1)), none⟩,
 ⟨(some 10), .p (.ld (.s 9)), none⟩,
 ⟨(some 11), .e (.call N.plan_column [(.s 8), (.s 10)] true), none⟩,
 ⟨(some 12), .p (.mv (.s 11)), none⟩,
 ⟨(some 13), .p (.foff 3 (.s 1)), (some (12, true))⟩,
 ⟨(some 14), .p (.ldn 3 (.s 13)), (some (12, true))⟩,
 ⟨(some 15), .e (.call N.val_Right [(.s 14)] true), (some (12, true))⟩,
 ⟨(some 16), .p (.pick (.s 12) (.s 15) (.c (.bool false))), none⟩,
 ⟨(some 2), .p (.mv (.s 16)), none⟩] [2])
 .ret) (.seq (.reg [⟨(some 18), .p (.bin .eql (.s 4) (.c (.int .i64 2))), none⟩,
 ⟨(some 17), .p (.mv (.s 18)), none⟩] [1, 4, 17])
 (.cond (.s 17) (.seq (.reg [⟨(some 19), .p (.foff 1 (.s 1)), none⟩,
 ⟨(some 20), .p (.ld (.s 19)), none⟩,
 ⟨(some 21), .p (.foff 2 (.s 1)), none⟩,
 ⟨(some 22), .p (.ld (.s 21)), none⟩,
 ⟨(some 23), .e (.call N.plan_column [(.s 20), (.s 22)] true), none⟩,
 ⟨(some 24), .p (.mv (.s 23)), none⟩,
 ⟨(some 25), .p (.foff 3 (.s 1)), (some (24, true))⟩,
 ⟨(some 26), .p (.ldn 3 (.s 25)), (some (24, true))⟩,
 ⟨(some 27), .e (.call N.plan_none [(.s 26)] true), (some (24, true))⟩,
 ⟨(some 28), .p (.pick (.s 24) (.s 27) (.c (.bool false))), none⟩,
 ⟨(some 2), .p (.mv (.s 28)), none⟩] [2])
 .ret) (.seq (.reg [⟨(some 30), .p (.bin .eql (.s 4) (.c (.int .i64 3))), none⟩,
 ⟨(some 29), .p (.mv (.s 30)), none⟩] [1, 4, 29])
 (.cond (.s 29) (.seq (.reg [⟨(some 31), .p (.foff 1 (.s 1)), none⟩,
 ⟨(some 32), .p (.ld (.s 31)), none⟩,
 ⟨(some 33), .e (.call N.plan_name [(.s 32)] true), none⟩,
 ⟨(some 34), .p (.mv (.s 33)), none⟩,
 ⟨(some 35), .p (.foff 2 (.s 1)), (some (34, true))⟩,
 ⟨(some 36), .p (.ld (.s 35)), (some (34, true))⟩,
 ⟨(some 37), .p (.bin .eql (.s 36) (.c (.str []))), (some (34, true))⟩,
 ⟨(some 38), .p (.pick (.s 34) (.s 37) (.c (.bool false))), none⟩,
 ⟨(some 39), .p (.mv (.s 38)), none⟩,
 ⟨(some 40), .p (.foff 3 (.s 1)), (some (39, true))⟩,
 ⟨(some 41), .p (.ldn 3 (.s 40)), (some (39, true))⟩,
 ⟨(some 42), .e (.call N.plan_none [(.s 41)] true), (some (39, true))⟩,
 ⟨(some 43), .p (.pick (.s 39) (.s 42) (.c (.bool false))), none⟩,
 ⟨(some 2), .p (.mv (.s 43)), none⟩] [2])
 .ret) (.seq (.reg [⟨(some 45), .p (.bin .eql (.s 4) (.c (.int .i64 4))), none⟩,
 ⟨(some 44), .p (.mv (.s 45)), none⟩] [1, 44])
 (.cond (.s 44) (.seq (.reg [⟨(some 46), .p (.ldn 6 (.s 1)), none⟩,
 ⟨(some 47), .p (.build [.int .i64 0, .str [], .str [], .int .i64 0, .int .i64 0, .str []] [(0, 1, (.c (.int .i64 4)))]), none⟩,
 ⟨(some 48), .p (.eqk false (.agg [0, 1, 1, 0, 0, 1]) (.s 46) (.s 47)), none⟩,
 ⟨(some 2), .p (.mv (.s 48)), none⟩] [2])
 .ret) .skip))))))))))
 (.seq (.reg [⟨(some 2), .p (.mv (.c (.bool false))), none⟩] [2])
 .ret)))⟩

def F.plan_empty : LFunc := ⟨37, [.t 2], 
 (.seq (.reg [⟨(some 1), .e (.box 7 (.s 0)), none⟩,
 ⟨(some 2), .p (.mv (.c (.bool false))), none⟩] [1])
 (.seq (.reg [⟨(some 3), .p (.foff 0 (.s 1)), none⟩,
 ⟨(some 4), .p (.ld (.s 3)), none⟩,
 ⟨(some 5), .p (.lenl (.s 4)), none⟩,
 ⟨(some 6), .p (.bin .eql (.s 5) (.c (.int .i64 0))), none⟩,
 ⟨(some 7), .p (.mv (.s 6)), none⟩,
 ⟨(some 8), .p (.foff 1 (.s 1)), (some (7, true))⟩,
 ⟨(some 9), .p (.ld (.s 8)), (some (7, true))⟩,
 ⟨(some 10), .p (.bin .eql (.s 9) (.c (.str []))), (some (7, true))⟩,
 ⟨(some 11), .p (.pick (.s 7) (.s 10) (.c (.bool false))), none⟩,
 ⟨(some 12), .p (.mv (.s 11)), none⟩,
 ⟨(some 13), .p (.foff 2 (.s 1)), (some (12, true))⟩,
 ⟨(some 14), .p (.ld (.s 13)), (some (12, true))⟩,
 ⟨(some 15), .p (.bin .eql (.s 14) (.c (.str []))), (some (12, true))⟩,
 ⟨(some 16), .p (.pick (.s 12) (.s 15) (.c (.bool false))), none⟩,
 ⟨(some 17), .p (.mv (.s 16)), none⟩,
 ⟨(some 18), .p (.foff 3 (.s 1)), (some (17, true))⟩,
 ⟨(some 19), .p (.ld (.s 18)), (some (17, true))⟩,
 ⟨(some 20), .p (.bin .eql (.s 19) (.c (.int .i64 0))), (some (17, true))⟩,
 ⟨(some 21), .p (.pick (.s 17) (.s 20) (.c (.bool false))), none⟩,
 ⟨(some 22), .p (.mv (.s 21)), none⟩,
 ⟨(some 23), .p (.foff 4 (.s 1)), (some (22, true))⟩,
 ⟨(some 24), .p (.ld (.s 23)), (some (22, true))⟩,
 ⟨(some 25), .p (.bin .eql (.s 24) (.c (.int .i64 0))), (some (22, true))⟩,
 ⟨(some 26), .p (.pick (.s 22) (.s 25) (.c (.bool false))), none⟩,
 ⟨(some 27), .p (.mv (.s 26)), none⟩,
 ⟨(some 28), .p (.foff 5 (.s 1)), (some (27, true))⟩,
 ⟨(some 29), .p (.ld (.s 28)), (some (27, true))⟩,
 ⟨(some 30), .p (.bin .eql (.s 29) (.c (.int .i64 0))), (some (27, true))⟩,
 ⟨(some 31), .p (.pick (.s 27) (.s 30) (.c (.bool false))), none⟩,
 ⟨(some 32), .p (.mv (.s 31)), none⟩,
 ⟨(some 33), .p (.foff 6 (.s 1)), (some (32, true))⟩,
 ⟨(some 34), .p (.ld (.s 33)), (some (32, true))⟩,
 ⟨(some 35), .p (.bin .eql (.s 34) (.c (.int .i64 0))), (some (32, true))⟩,
 ⟨(some 36), .p (.pick (.s 32) (.s 35) (.c (.bool false))), none⟩,
 ⟨(some 2), .p (.mv (.s 36)), none⟩] [2])
 .ret))⟩

def F.slices_ContainsFunc_api_Mut_api_Mut_ : LFunc := ⟨9, [.t 4], 
 (.seq (.reg [⟨(some 4), .p (.mv (.c (.bool false))), none⟩] [0, 1])
 (.seq (.reg [⟨(some 5), .p (.mv (.s 0)), none⟩,
 ⟨(some 6), .p (.mv (.s 1)), none⟩,
 ⟨(some 7), .e (.call N.slices_IndexFunc_api_Mut_api_Mut_ [(.s 5), (.s 6)] true), none⟩,
 ⟨(some 8), .p (.bin .geq (.s 7) (.c (.int .i64 0))), none⟩,
 ⟨(some 4), .p (.mv (.s 8)), none⟩] [4])
 .ret))⟩

def F.plan_name : LFunc := ⟨17, [.t 2], 
 (.seq (.reg [⟨(some 2), .p (.mv (.c (.bool false))), none⟩] [0])
 (.seq (.reg [⟨(some 3), .p (.mv (.c (.fn N.plan_name_1 [] []))), none⟩] [0, 3])
 (.seq (.reg [⟨(some 4), .p (.mv (.s 0)), none⟩,
 ⟨(some 5), .p (.bin .neq (.s 4) (.c (.str []))), none⟩,
 ⟨(some 6), .p (.mv (.s 5)), none⟩,
 ⟨(some 7), .p (.mv (.s 0)), (some (6, true))⟩,
 ⟨(some 8), .p (.lens (.s 7)), (some (6, true))⟩,
 ⟨(some 9), .p (.bin .leq (.s 8) (.c (.int .i64 8))), (some (6, true))⟩,
 ⟨(some 10), .p (.pick (.s 6) (.s 9) (.c (.bool false))), none⟩,
 ⟨(some 11), .p (.mv (.s 10)), none⟩,
 ⟨(some 12), .p (.mv (.s 0)), (some (11, true))⟩,
 ⟨(some 13), .p (.mv (.s 3)), (some (11, true))⟩,
 ⟨(some 14), .e (.call N.strings_ContainsFunc [(.s 12), (.s 13)] true), (some (11, true))⟩,
 ⟨(some 15), .p (.un .not (.s 14)), (some (11, true))⟩,
 ⟨(some 16), .p (.pick (.s 11) (.s 15) (.c (.bool false))), none⟩,
 ⟨(some 2), .p (.mv (.s 16)), none⟩] [2])
 .ret)))⟩

def F.float_Right : LFunc := ⟨6, [.t 2], 
 (.seq (.reg [⟨(some 2), .p (.mv (.c (.bool false))), none⟩] [0])
 (.seq (.reg [⟨(some 3), .p (.mv (.s 0)), none⟩,
 ⟨(some 4), .p (.cvt .u64 (.s 3)), none⟩,
 ⟨(some 5), .e (.call N.float_bits_right [(.s 4)] true), none⟩,
 ⟨(some 2), .p (.mv (.s 5)), none⟩] [2])
 .ret))⟩

-- not printed: unicode_utf8_ValidString: operand ('Go.Operand.global', '0')
def F.slices_DeleteFunc_api_Cell_api_Cell_ : LFunc := ⟨42, [.t 4], 
 (.seq (.reg [⟨(some 4), .p (.mv (.c (.psl []))), none⟩] [0, 1])
 (.seq (.reg [⟨(some 8), .p (.mv (.s 0)), none⟩,
 ⟨(some 9), .p (.mv (.s 1)), none⟩,
 ⟨(some 10), .e (.call N.slices_IndexFunc_api_Cell_api_Cell_ [(.s 8), (.s 9)] false), none⟩,
 ⟨(some 5), .p (.mv (.s 10)), none⟩] [0, 1, 5])
 (.seq (.seq (.reg [⟨(some 11), .p (.mv (.s 5)), none⟩,
 ⟨(some 12), .p (.bin .eql (.s 11) (.c (.int .i64 (-1)))), none⟩] [0, 1, 5, 12])
 (.cond (.s 12) (.seq (.reg [⟨(some 13), .p (.mv (.s 0)), none⟩,
 ⟨(some 4), .p (.mv (.s 13)), none⟩] [4])
 .ret) .skip))
 (.seq (.seq (.reg [⟨(some 14), .p (.mv (.s 5)), none⟩,
 ⟨(some 15), .p (.bin .add (.s 14) (.c (.int .i64 1))), none⟩,
 ⟨(some 6), .p (.mv (.s 15)), none⟩] [0, 1, 5, 6])
 (.block 0 (.loop (.seq (.seq (.reg [⟨(some 16), .p (.mv (.s 6)), none⟩,
 ⟨(some 17), .p (.mv (.s 0)), none⟩,
 ⟨(some 18), .p (.lenl (.s 17)), none⟩,
 ⟨(some 19), .p (.bin .lss (.s 16) (.s 18)), none⟩] [0, 1, 5, 6, 19])
 (.cond (.s 19) .skip (.exit 0)))
 (.seq (.block 1 (.seq (.reg [⟨(some 22), .p (.mv (.s 0)), none⟩,
 ⟨(some 23), .p (.mv (.s 6)), none⟩,
 ⟨(some 24), .p (.iadr 8 (.s 22) (.s 23)), none⟩,
 ⟨(some 25), .p (.ldn 8 (.s 24)), none⟩,
 ⟨(some 7), .e (.alloc [.str [], .str [], .str [], .int .i64 0, .int .i64 0, .int .i64 0, .int .i64 0, .str []]), none⟩,
 ⟨none, .e (.stn 8 (.s 7) (.s 25)), none⟩] [0, 1, 5, 6, 7])
 (.seq (.reg [⟨(some 26), .p (.mv (.s 1)), none⟩,
 ⟨(some 27), .p (.ldn 8 (.s 7)), none⟩,
 ⟨(some 28), .e (.callv (.s 26) [(.s 27)] true), none⟩,
 ⟨(some 29), .p (.un .not (.s 28)), none⟩] [0, 1, 5, 6, 7, 29])
 (.cond (.s 29) (.seq (.reg [⟨(some 30), .p (.mv (.s 0)), none⟩,
 ⟨(some 31), .p (.mv (.s 5)), none⟩,
 ⟨(some 32), .p (.ldn 8 (.s 7)), none⟩,
 ⟨(some 33), .p (.iadr 8 (.s 30) (.s 31)), none⟩,
 ⟨none, .e (.stn 8 (.s 33) (.s 32)), none⟩] [0, 1, 5, 6])
 (.reg [⟨(some 34), .p (.mv (.s 5)), none⟩,
 ⟨(some 35), .p (.bin .add (.s 34) (.c (.int .i64 1))), none⟩,
 ⟨(some 5), .p (.mv (.s 35)), none⟩] [0, 1, 5, 6])) .skip))))
 (.reg [⟨(some 20), .p (.mv (.s 6)), none⟩,
 ⟨(some 21), .p (.bin .add (.s 20) (.c (.int .i64 1))), none⟩,
 ⟨(some 6), .p (.mv (.s 21)), none⟩] [0, 1, 5, 6]))) [0, 1, 5, 6])))
 (.seq (.reg [⟨(some 36), .p (.mv (.s 0)), none⟩,
 ⟨(some 37), .p (.mv (.s 5)), none⟩,
 ⟨(some 38), .p (.slcl 8 (.s 36) (some (.s 37)) none none), none⟩,
 ⟨none, .e (.clear 8 (.s 38)), none⟩] [0, 5])
 (.seq (.reg [⟨(some 39), .p (.mv (.s 0)), none⟩,
 ⟨(some 40), .p (.mv (.s 5)), none⟩,
 ⟨(some 41), .p (.slcl 8 (.s 39) none (some (.s 40)) none), none⟩,
 ⟨(some 4), .p (.mv (.s 41)), none⟩] [4])
 .ret))))))⟩

def F.plan_maker_add_1 : LFunc := ⟨7, [.t 3], 
 (.seq (.reg [⟨(some 2), .e (.box 8 (.s 0)), none⟩,
 ⟨(some 3), .p (.mv (.c (.bool false))), none⟩] [1, 2])
 (.seq (.reg [⟨(some 4), .p (.ldn 8 (.s 2)), none⟩,
 ⟨(some 5), .p (.ldn 8 (.s 1)), none⟩,
 ⟨(some 6), .e (.call N.plan_needless [(.s 4), (.s 5)] true), none⟩,
 ⟨(some 3), .p (.mv (.s 6)), none⟩] [3])
 .ret))⟩

def F.plan_needless : LFunc := ⟨36, [.t 4], 
 (.seq (.reg [⟨(some 2), .e (.box 8 (.s 0)), none⟩,
 ⟨(some 3), .e (.box 8 (.s 1)), none⟩,
 ⟨(some 4), .p (.mv (.c (.bool false))), none⟩] [2, 3])
 (.seq (.block 0 (.seq (.reg [⟨(some 6), .p (.ldn 8 (.s 2)), none⟩,
 ⟨(some 7), .p (.ldn 8 (.s 3)), none⟩,
 ⟨(some 8), .e (.call N.codec_Order [(.s 6), (.s 7)] true), none⟩,
 ⟨(some 9), .p (.bin .eql (.s 8) (.c (.int .i64 0))), none⟩,
 ⟨(some 5), .p (.mv (.s 9)), none⟩] [2, 3, 5])
 (.cond (.s 5) (.seq (.reg [⟨(some 4), .p (.mv (.c (.bool true))), none⟩] [4])
 .ret) (.seq (.reg [⟨(some 11), .p (.foff 1 (.s 2)), none⟩,
 ⟨(some 12), .p (.ld (.s 11)), none⟩,
 ⟨(some 13), .p (.foff 1 (.s 3)), none⟩,
 ⟨(some 14), .p (.ld (.s 13)), none⟩,
 ⟨(some 15), .p (.bin .neq (.s 12) (.s 14)), none⟩,
 ⟨(some 10), .p (.mv (.s 15)), none⟩] [2, 3, 10])
 (.cond (.s 10) (.seq (.reg [⟨(some 4), .p (.mv (.c (.bool false))), none⟩] [4])
 .ret) .skip)))))
 (.seq (.reg [⟨(some 16), .p (.foff 4 (.s 3)), none⟩,
 ⟨(some 17), .p (.ld (.s 16)), none⟩,
 ⟨(some 18), .p (.bin .eql (.s 17) (.c (.int .i64 4))), none⟩,
 ⟨(some 19), .p (.mv (.s 18)), none⟩,
 ⟨(some 20), .p (.foff 4 (.s 3)), (some (19, false))⟩,
 ⟨(some 21), .p (.ld (.s 20)), (some (19, false))⟩,
 ⟨(some 22), .p (.bin .eql (.s 21) (.c (.int .i64 3))), (some (19, false))⟩,
 ⟨(some 23), .p (.mv (.s 22)), (some (19, false))⟩,
 ⟨(some 24), .p (.foff 4 (.s 2)), (some (23, true))⟩,
 ⟨(some 25), .p (.ld (.s 24)), (some (23, true))⟩,
 ⟨(some 26), .p (.bin .eql (.s 25) (.c (.int .i64 1))), (some (23, true))⟩,
 ⟨(some 27), .p (.pick (.s 23) (.s 26) (.c (.bool false))), (some (19, false))⟩,
 ⟨(some 28), .p (.mv (.s 27)), (some (19, false))⟩,
 ⟨(some 29), .p (.foff 2 (.s 2)), (some (28, true))⟩,
 ⟨(some 30), .p (.ld (.s 29)), (some (28, true))⟩,
 ⟨(some 31), .p (.foff 2 (.s 3)), (some (28, true))⟩,
 ⟨(some 32), .p (.ld (.s 31)), (some (28, true))⟩,
 ⟨(some 33), .p (.bin .eql (.s 30) (.s 32)), (some (28, true))⟩,
 ⟨(some 34), .p (.pick (.s 28) (.s 33) (.c (.bool false))), (some (19, false))⟩,
 ⟨(some 35), .p (.pick (.s 19) (.c (.bool true)) (.s 34)), none⟩,
 ⟨(some 4), .p (.mv (.s 35)), none⟩] [4])
 .ret)))⟩

def F.joistref01_size : LFunc := ⟨5, [.t 2], 
 (.seq (.reg [⟨(some 2), .p (.mv (.c (.int .i64 0))), none⟩] [0])
 (.seq (.reg [⟨(some 3), .p (.mv (.s 0)), none⟩,
 ⟨(some 4), .p (.bin .andNot (.s 3) (.c (.int .i64 (-9223372036854775808)))), none⟩,
 ⟨(some 2), .p (.mv (.s 4)), none⟩] [2])
 .ret))⟩

def F.slices_pdqsortOrdered_string : LFunc := ⟨134, [], 
 (.seq (.reg [⟨(some 8), .p (.mv (.c (.bool true))), none⟩] [0, 1, 2, 3, 8])
 (.seq (.reg [⟨(some 9), .p (.mv (.c (.bool true))), none⟩] [0, 1, 2, 3, 8, 9])
 (.block 0 (.loop (.block 1 (.seq (.reg [⟨(some 19), .p (.mv (.s 2)), none⟩,
 ⟨(some 20), .p (.mv (.s 1)), none⟩,
 ⟨(some 21), .p (.bin .sub (.s 19) (.s 20)), none⟩,
 ⟨(some 10), .p (.mv (.s 21)), none⟩] [0, 1, 2, 3, 8, 9, 10])
 (.seq (.seq (.reg [⟨(some 22), .p (.mv (.s 10)), none⟩,
 ⟨(some 23), .p (.bin .leq (.s 22) (.c (.int .i64 12))), none⟩] [0, 1, 2, 3, 8, 9, 10, 23])
 (.cond (.s 23) (.seq (.reg [⟨(some 24), .p (.mv (.s 0)), none⟩,
 ⟨(some 25), .p (.mv (.s 1)), none⟩,
 ⟨(some 26), .p (.mv (.s 2)), none⟩,
 ⟨(some 27), .e (.call N.slices_insertionSortOrdered_string [(.s 24), (.s 25), (.s 26)] false), none⟩] [])
 .ret) .skip))
 (.seq (.seq (.reg [⟨(some 28), .p (.mv (.s 3)), none⟩,
 ⟨(some 29), .p (.bin .eql (.s 28) (.c (.int .i64 0))), none⟩] [0, 1, 2, 3, 8, 9, 10, 29])
 (.cond (.s 29) (.seq (.reg [⟨(some 30), .p (.mv (.s 0)), none⟩,
 ⟨(some 31), .p (.mv (.s 1)), none⟩,
 ⟨(some 32), .p (.mv (.s 2)), none⟩,
 ⟨(some 33), .e (.call N.slices_heapSortOrdered_string [(.s 30), (.s 31), (.s 32)] false), none⟩] [])
 .ret) .skip))
 (.seq (.seq (.reg [⟨(some 34), .p (.mv (.s 8)), none⟩,
 ⟨(some 35), .p (.un .not (.s 34)), none⟩] [0, 1, 2, 3, 8, 9, 10, 35])
 (.cond (.s 35) (.seq (.reg [⟨(some 36), .p (.mv (.s 0)), none⟩,
 ⟨(some 37), .p (.mv (.s 1)), none⟩,
 ⟨(some 38), .p (.mv (.s 2)), none⟩,
 ⟨(some 39), .e (.call N.slices_breakPatternsOrdered_string [(.s 36), (.s 37), (.s 38)] false), none⟩] [0, 1, 2, 3, 8, 9, 10])
 (.reg [⟨(some 40), .p (.mv (.s 3)), none⟩,
 ⟨(some 41), .p (.bin .sub (.s 40) (.c (.int .i64 1))), none⟩,
 ⟨(some 3), .p (.mv (.s 41)), none⟩] [0, 1, 2, 3, 8, 9, 10])) .skip))
 (.seq (.reg [⟨(some 43), .p (.mv (.s 0)), none⟩,
 ⟨(some 44), .p (.mv (.s 1)), none⟩,
 ⟨(some 45), .p (.mv (.s 2)), none⟩,
 ⟨(some 46), .e (.call N.slices_choosePivotOrdered_string [(.s 43), (.s 44), (.s 45)] false), none⟩,
 ⟨(some 42), .p (.mv (.s 46)), none⟩,
 ⟨(some 47), .p (.ext (.s 42) 0), none⟩,
 ⟨(some 48), .p (.ext (.s 42) 1), none⟩,
 ⟨(some 11), .p (.mv (.s 47)), none⟩,
 ⟨(some 12), .p (.mv (.s 48)), none⟩] [0, 1, 2, 3, 8, 9, 10, 11, 12])
 (.seq (.seq (.reg [⟨(some 49), .p (.mv (.s 12)), none⟩,
 ⟨(some 50), .p (.bin .eql (.s 49) (.c (.int .i64 2))), none⟩] [0, 1, 2, 3, 8, 9, 10, 11, 12, 50])
 (.cond (.s 50) (.seq (.reg [⟨(some 51), .p (.mv (.s 0)), none⟩,
 ⟨(some 52), .p (.mv (.s 1)), none⟩,
 ⟨(some 53), .p (.mv (.s 2)), none⟩,
 ⟨(some 54), .e (.call N.slices_reverseRangeOrdered_string [(.s 51), (.s 52), (.s 53)] false), none⟩] [0, 1, 2, 3, 8, 9, 10, 11])
 (.seq (.reg [⟨(some 55), .p (.mv (.s 2)), none⟩,
 ⟨(some 56), .p (.bin .sub (.s 55) (.c (.int .i64 1))), none⟩,
 ⟨(some 57), .p (.mv (.s 11)), none⟩,
 ⟨(some 58), .p (.mv (.s 1)), none⟩,
 ⟨(some 59), .p (.bin .sub (.s 57) (.s 58)), none⟩,
 ⟨(some 60), .p (.bin .sub (.s 56) (.s 59)), none⟩,
 ⟨(some 11), .p (.mv (.s 60)), none⟩] [0, 1, 2, 3, 8, 9, 10, 11])
 (.reg [⟨(some 12), .p (.mv (.c (.int .i64 1))), none⟩] [0, 1, 2, 3, 8, 9, 10, 11, 12]))) .skip))
 (.seq (.seq (.reg [⟨(some 61), .p (.mv (.s 8)), none⟩,
 ⟨(some 62), .p (.mv (.s 61)), none⟩,
 ⟨(some 63), .p (.mv (.s 9)), (some (62, true))⟩,
 ⟨(some 64), .p (.pick (.s 62) (.s 63) (.c (.bool false))), none⟩,
 ⟨(some 65), .p (.mv (.s 64)), none⟩,
 ⟨(some 66), .p (.mv (.s 12)), (some (65, true))⟩,
 ⟨(some 67), .p (.bin .eql (.s 66) (.c (.int .i64 1))), (some (65, true))⟩,
 ⟨(some 68), .p (.pick (.s 65) (.s 67) (.c (.bool false))), none⟩] [0, 1, 2, 3, 8, 9, 10, 11, 68])
 (.cond (.s 68) (.seq (.reg [⟨(some 69), .p (.mv (.s 0)), none⟩,
 ⟨(some 70), .p (.mv (.s 1)), none⟩,
 ⟨(some 71), .p (.mv (.s 2)), none⟩,
 ⟨(some 72), .e (.call N.slices_partialInsertionSortOrdered_string [(.s 69), (.s 70), (.s 71)] false), none⟩] [0, 1, 2, 3, 8, 9, 10, 11, 72])
 (.cond (.s 72) .ret .skip)) .skip))
 (.seq (.seq (.regD [⟨(some 73), .p (.mv (.s 1)), none⟩,
 ⟨(some 74), .p (.bin .gtr (.s 73) (.c (.int .i64 0))), none⟩,
 ⟨(some 75), .p (.mv (.s 74)), none⟩,
 ⟨(some 76), .p (.mv (.s 0)), (some (75, true))⟩,
 ⟨(some 77), .p (.mv (.s 1)), (some (75, true))⟩,
 ⟨(some 78), .p (.bin .sub (.s 77) (.c (.int .i64 1))), (some (75, true))⟩,
 ⟨(some 79), .p (.iadr 1 (.s 76) (.s 78)), (some (75, true))⟩,
 ⟨(some 80), .p (.ld (.s 79)), (some (75, true))⟩,
 ⟨(some 81), .p (.mv (.s 0)), (some (75, true))⟩,
 ⟨(some 82), .p (.mv (.s 11)), (some (75, true))⟩,
 ⟨(some 83), .p (.iadr 1 (.s 81) (.s 82)), (some (75, true))⟩,
 ⟨(some 84), .p (.ld (.s 83)), (some (75, true))⟩,
 ⟨(some 85), .e (.call N.cmp_Less_string [(.s 80), (.s 84)] false), (some (75, true))⟩,
 ⟨(some 86), .p (.un .not (.s 85)), (some (75, true))⟩,
 ⟨(some 87), .p (.pick (.s 75) (.s 86) (.c (.bool false))), none⟩] [0, 1, 2, 3, 4, 5, 6, 7, 8, 9, 10, 11, 12, 13, 14] [0, 1, 2, 3, 8, 9, 10, 11, 87])
 (.cond (.s 87) (.seq (.reg [⟨(some 88), .p (.mv (.s 0)), none⟩,
 ⟨(some 89), .p (.mv (.s 1)), none⟩,
 ⟨(some 90), .p (.mv (.s 2)), none⟩,
 ⟨(some 91), .p (.mv (.s 11)), none⟩,
 ⟨(some 92), .e (.call N.slices_partitionEqualOrdered_string [(.s 88), (.s 89), (.s 90), (.s 91)] false), none⟩,
 ⟨(some 13), .p (.mv (.s 92)), none⟩] [0, 2, 3, 8, 9, 13])
 (.seq (.reg [⟨(some 93), .p (.mv (.s 13)), none⟩,
 ⟨(some 1), .p (.mv (.s 93)), none⟩] [0, 1, 2, 3, 8, 9])
 (.exit 1))) .skip))
 (.seq (.reg [⟨(some 95), .p (.mv (.s 0)), none⟩,
 ⟨(some 96), .p (.mv (.s 1)), none⟩,
 ⟨(some 97), .p (.mv (.s 2)), none⟩,
 ⟨(some 98), .p (.mv (.s 11)), none⟩,
 ⟨(some 99), .e (.call N.slices_partitionOrdered_string [(.s 95), (.s 96), (.s 97), (.s 98)] false), none⟩,
 ⟨(some 94), .p (.mv (.s 99)), none⟩,
 ⟨(some 100), .p (.ext (.s 94) 0), none⟩,
 ⟨(some 101), .p (.ext (.s 94) 1), none⟩,
 ⟨(some 14), .p (.mv (.s 100)), none⟩,
 ⟨(some 15), .p (.mv (.s 101)), none⟩] [0, 1, 2, 3, 10, 14, 15])
 (.seq (.reg [⟨(some 102), .p (.mv (.s 15)), none⟩,
 ⟨(some 9), .p (.mv (.s 102)), none⟩] [0, 1, 2, 3, 9, 10, 14])
 (.seq (.reg [⟨(some 103), .p (.mv (.s 14)), none⟩,
 ⟨(some 104), .p (.mv (.s 1)), none⟩,
 ⟨(some 105), .p (.bin .sub (.s 103) (.s 104)), none⟩,
 ⟨(some 106), .p (.mv (.s 2)), none⟩,
 ⟨(some 107), .p (.mv (.s 14)), none⟩,
 ⟨(some 108), .p (.bin .sub (.s 106) (.s 107)), none⟩,
 ⟨(some 16), .p (.mv (.s 105)), none⟩,
 ⟨(some 17), .p (.mv (.s 108)), none⟩] [0, 1, 2, 3, 9, 10, 14, 16, 17])
 (.seq (.reg [⟨(some 109), .p (.mv (.s 10)), none⟩,
 ⟨(some 110), .p (.bin .quo (.s 109) (.c (.int .i64 8))), none⟩,
 ⟨(some 18), .p (.mv (.s 110)), none⟩] [0, 1, 2, 3, 9, 14, 16, 17, 18])
 (.seq (.reg [⟨(some 111), .p (.mv (.s 16)), none⟩,
 ⟨(some 112), .p (.mv (.s 17)), none⟩,
 ⟨(some 113), .p (.bin .lss (.s 111) (.s 112)), none⟩] [0, 1, 2, 3, 9, 14, 16, 17, 18, 113])
 (.cond (.s 113) (.seq (.reg [⟨(some 114), .p (.mv (.s 16)), none⟩,
 ⟨(some 115), .p (.mv (.s 18)), none⟩,
 ⟨(some 116), .p (.bin .geq (.s 114) (.s 115)), none⟩,
 ⟨(some 8), .p (.mv (.s 116)), none⟩] [0, 1, 2, 3, 8, 9, 14])
 (.seq (.reg [⟨(some 117), .p (.mv (.s 0)), none⟩,
 ⟨(some 118), .p (.mv (.s 1)), none⟩,
 ⟨(some 119), .p (.mv (.s 14)), none⟩,
 ⟨(some 120), .p (.mv (.s 3)), none⟩,
 ⟨(some 121), .e (.call N.slices_pdqsortOrdered_string [(.s 117), (.s 118), (.s 119), (.s 120)] false), none⟩] [0, 2, 3, 8, 9, 14])
 (.reg [⟨(some 122), .p (.mv (.s 14)), none⟩,
 ⟨(some 123), .p (.bin .add (.s 122) (.c (.int .i64 1))), none⟩,
 ⟨(some 1), .p (.mv (.s 123)), none⟩] [0, 1, 2, 3, 8, 9]))) (.seq (.reg [⟨(some 124), .p (.mv (.s 17)), none⟩,
 ⟨(some 125), .p (.mv (.s 18)), none⟩,
 ⟨(some 126), .p (.bin .geq (.s 124) (.s 125)), none⟩,
 ⟨(some 8), .p (.mv (.s 126)), none⟩] [0, 1, 2, 3, 8, 9, 14])
 (.seq (.reg [⟨(some 127), .p (.mv (.s 0)), none⟩,
 ⟨(some 128), .p (.mv (.s 14)), none⟩,
 ⟨(some 129), .p (.bin .add (.s 128) (.c (.int .i64 1))), none⟩,
 ⟨(some 130), .p (.mv (.s 2)), none⟩,
 ⟨(some 131), .p (.mv (.s 3)), none⟩,
 ⟨(some 132), .e (.call N.slices_pdqsortOrdered_string [(.s 127), (.s 129), (.s 130), (.s 131)] false), none⟩] [0, 1, 3, 8, 9, 14])
 (.reg [⟨(some 133), .p (.mv (.s 14)), none⟩,
 ⟨(some 2), .p (.mv (.s 133)), none⟩] [0, 1, 2, 3, 8, 9])))))))))))))))))) [0, 1, 2, 3, 8, 9]))))⟩

def F.math_bits_Len : LFunc := ⟨8, [.t 2], 
 (.seq (.reg [⟨(some 2), .p (.mv (.c (.int .i64 0))), none⟩] [0])
 (.seq (.cond (.c (.bool false)) (.seq (.reg [⟨(some 3), .p (.mv (.s 0)), none⟩,
 ⟨(some 4), .p (.cvt .u32 (.s 3)), none⟩,
 ⟨(some 5), .e (.call N.math_bits_Len32 [(.s 4)] true), none⟩,
 ⟨(some 2), .p (.mv (.s 5)), none⟩] [2])
 .ret) .skip)
 (.seq (.reg [⟨(some 6), .p (.mv (.s 0)), none⟩,
 ⟨(some 7), .e (.call N.math_bits_Len64 [(.s 6)] true), none⟩,
 ⟨(some 2), .p (.mv (.s 7)), none⟩] [2])
 .ret)))⟩

def F.schema_name : LFunc := ⟨17, [.t 2], 
 (.seq (.reg [⟨(some 2), .p (.mv (.c (.bool false))), none⟩] [0])
 (.seq (.reg [⟨(some 3), .p (.mv (.c (.fn N.schema_name_1 [] []))), none⟩] [0, 3])
 (.seq (.reg [⟨(some 4), .p (.mv (.s 0)), none⟩,
 ⟨(some 5), .p (.bin .neq (.s 4) (.c (.str []))), none⟩,
 ⟨(some 6), .p (.mv (.s 5)), none⟩,
 ⟨(some 7), .p (.mv (.s 0)), (some (6, true))⟩,
 ⟨(some 8), .p (.lens (.s 7)), (some (6, true))⟩,
 ⟨(some 9), .p (.bin .leq (.s 8) (.c (.int .i64 8))), (some (6, true))⟩,
 ⟨(some 10), .p (.pick (.s 6) (.s 9) (.c (.bool false))), none⟩,
 ⟨(some 11), .p (.mv (.s 10)), none⟩,
 ⟨(some 12), .p (.mv (.s 0)), (some (11, true))⟩,
 ⟨(some 13), .p (.mv (.s 3)), (some (11, true))⟩,
 ⟨(some 14), .e (.call N.strings_ContainsFunc [(.s 12), (.s 13)] true), (some (11, true))⟩,
 ⟨(some 15), .p (.un .not (.s 14)), (some (11, true))⟩,
 ⟨(some 16), .p (.pick (.s 11) (.s 15) (.c (.bool false))), none⟩,
 ⟨(some 2), .p (.mv (.s 16)), none⟩] [2])
 .ret)))⟩

def F.schema_layouts : LFunc := ⟨39, [.t 2], 
 (.seq (.reg [⟨(some 2), .p (.mv (.c (.bool false))), none⟩] [0])
 (.seq (.reg [⟨(some 3), .p (.mv (.c (.int .i64 0))), none⟩] [0, 3])
 (.seq (.seq (.reg [⟨(some 6), .p (.mv (.s 0)), none⟩,
 ⟨(some 7), .p (.lenl (.s 6)), none⟩,
 ⟨(some 8), .p (.mv (.c (.int .i64 0))), none⟩] [0, 3, 6, 7, 8])
 (.block 0 (.loop (.seq (.reg [⟨(some 9), .p (.bin .lss (.s 8) (.s 7)), none⟩] [0, 3, 6, 7, 8, 9])
 (.seq (.cond (.s 9) .skip (.exit 0))
 (.seq (.block 1 (.seq (.reg [⟨(some 10), .p (.iadr 2 (.s 6) (.s 8)), none⟩,
 ⟨(some 11), .p (.ldn 2 (.s 10)), none⟩,
 ⟨(some 5), .e (.alloc [.int .i64 0, .int .i64 0]), none⟩,
 ⟨none, .e (.stn 2 (.s 5) (.s 11)), none⟩] [0, 3, 5, 6, 7, 8])
 (.seq (.seq (.reg [⟨(some 12), .p (.foff 0 (.s 5)), none⟩,
 ⟨(some 13), .p (.ld (.s 12)), none⟩,
 ⟨(some 14), .e (.call N.schema_within [(.s 13), (.c (.int .i64 0)), (.c (.int .i64 2))] true), none⟩,
 ⟨(some 15), .p (.un .not (.s 14)), none⟩,
 ⟨(some 16), .p (.mv (.s 15)), none⟩,
 ⟨(some 17), .p (.foff 1 (.s 5)), (some (16, false))⟩,
 ⟨(some 18), .p (.ld (.s 17)), (some (16, false))⟩,
 ⟨(some 19), .e (.call N.schema_state [(.s 18)] true), (some (16, false))⟩,
 ⟨(some 20), .p (.un .not (.s 19)), (some (16, false))⟩,
 ⟨(some 21), .p (.pick (.s 16) (.c (.bool true)) (.s 20)), none⟩] [0, 3, 5, 6, 7, 8, 21])
 (.cond (.s 21) (.seq (.reg [⟨(some 2), .p (.mv (.c (.bool false))), none⟩] [2])
 .ret) .skip))
 (.seq (.reg [⟨(some 22), .p (.foff 1 (.s 5)), none⟩,
 ⟨(some 23), .p (.ld (.s 22)), none⟩,
 ⟨(some 24), .p (.bin .eql (.s 23) (.c (.int .i64 3))), none⟩] [0, 3, 6, 7, 8, 24])
 (.cond (.s 24) (.reg [⟨(some 25), .p (.mv (.s 3)), none⟩,
 ⟨(some 26), .p (.bin .add (.s 25) (.c (.int .i64 1))), none⟩,
 ⟨(some 3), .p (.mv (.s 26)), none⟩] [0, 3, 6, 7, 8]) .skip)))))
 (.reg [⟨(some 27), .p (.bin .add (.s 8) (.c (.int .i64 1))), none⟩,
 ⟨(some 8), .p (.mv (.s 27)), none⟩] [0, 3, 6, 7, 8])))) [0, 3, 6, 7, 8])))
 (.seq (.reg [⟨(some 28), .p (.mv (.s 3)), none⟩,
 ⟨(some 29), .p (.bin .lss (.s 28) (.c (.int .i64 2))), none⟩,
 ⟨(some 30), .p (.mv (.s 29)), none⟩,
 ⟨(some 31), .p (.mv (.s 0)), (some (30, true))⟩,
 ⟨(some 32), .p (.lenl (.s 31)), (some (30, true))⟩,
 ⟨(some 33), .e (.call N.schema_within [(.s 32), (.c (.int .i64 1)), (.c (.int .i64 2))] true), (some (30, true))⟩,
 ⟨(some 34), .p (.pick (.s 30) (.s 33) (.c (.bool false))), none⟩,
 ⟨(some 35), .p (.mv (.s 34)), none⟩,
 ⟨(some 36), .p (.mv (.s 0)), (some (35, true))⟩,
 ⟨(some 37), .e (.call N.schema_once_int [(.s 36), (.c (.fn N.schema_layouts_1 [] []))] true), (some (35, true))⟩,
 ⟨(some 38), .p (.pick (.s 35) (.s 37) (.c (.bool false))), none⟩,
 ⟨(some 2), .p (.mv (.s 38)), none⟩] [2])
 .ret))))⟩

def F.schema_cols : LFunc := ⟨17, [.t 2], 
 (.seq (.reg [⟨(some 2), .p (.mv (.c (.bool false))), none⟩] [0])
 (.seq (.reg [⟨(some 3), .p (.mv (.c (.fn N.schema_cols_1 [] []))), none⟩] [0, 3])
 (.seq (.reg [⟨(some 4), .p (.mv (.s 0)), none⟩,
 ⟨(some 5), .p (.lenl (.s 4)), none⟩,
 ⟨(some 6), .p (.bin .leq (.s 5) (.c (.int .i64 8))), none⟩,
 ⟨(some 7), .p (.mv (.s 6)), none⟩,
 ⟨(some 8), .p (.mv (.s 0)), (some (7, true))⟩,
 ⟨(some 9), .p (.mv (.s 3)), (some (7, true))⟩,
 ⟨(some 10), .e (.call N.slices_ContainsFunc_api_Column_api_Column_ [(.s 8), (.s 9)] true), (some (7, true))⟩,
 ⟨(some 11), .p (.un .not (.s 10)), (some (7, true))⟩,
 ⟨(some 12), .p (.pick (.s 7) (.s 11) (.c (.bool false))), none⟩,
 ⟨(some 13), .p (.mv (.s 12)), none⟩,
 ⟨(some 14), .p (.mv (.s 0)), (some (13, true))⟩,
 ⟨(some 15), .e (.call N.schema_once_string_2 [(.s 14), (.c (.fn N.schema_cols_2 [] []))] true), (some (13, true))⟩,
 ⟨(some 16), .p (.pick (.s 13) (.s 15) (.c (.bool false))), none⟩,
 ⟨(some 2), .p (.mv (.s 16)), none⟩] [2])
 .ret)))⟩

def F.slices_IndexFunc_api_Family_api_Family_ : LFunc := ⟨19, [.t 4], 
 (.seq (.reg [⟨(some 4), .p (.mv (.c (.int .i64 0))), none⟩] [0, 1])
 (.seq (.seq (.reg [⟨(some 6), .p (.mv (.s 0)), none⟩,
 ⟨(some 7), .p (.lenl (.s 6)), none⟩,
 ⟨(some 8), .p (.mv (.c (.int .i64 0))), none⟩] [0, 1, 7, 8])
 (.block 0 (.loop (.seq (.reg [⟨(some 9), .p (.bin .lss (.s 8) (.s 7)), none⟩] [0, 1, 7, 8, 9])
 (.seq (.cond (.s 9) .skip (.exit 0))
 (.seq (.block 1 (.seq (.reg [⟨(some 10), .p (.mv (.s 8)), none⟩,
 ⟨(some 5), .p (.mv (.s 10)), none⟩] [0, 1, 5, 7, 8])
 (.seq (.reg [⟨(some 11), .p (.mv (.s 1)), none⟩,
 ⟨(some 12), .p (.mv (.s 0)), none⟩,
 ⟨(some 13), .p (.mv (.s 5)), none⟩,
 ⟨(some 14), .p (.iadr 5 (.s 12) (.s 13)), none⟩,
 ⟨(some 15), .p (.ldn 5 (.s 14)), none⟩,
 ⟨(some 16), .e (.callv (.s 11) [(.s 15)] true), none⟩] [0, 1, 5, 7, 8, 16])
 (.cond (.s 16) (.seq (.reg [⟨(some 17), .p (.mv (.s 5)), none⟩,
 ⟨(some 4), .p (.mv (.s 17)), none⟩] [4])
 .ret) .skip))))
 (.reg [⟨(some 18), .p (.bin .add (.s 8) (.c (.int .i64 1))), none⟩,
 ⟨(some 8), .p (.mv (.s 18)), none⟩] [0, 1, 7, 8])))) [0, 1, 7, 8])))
 (.seq (.reg [⟨(some 4), .p (.mv (.c (.int .i64 (-1)))), none⟩] [4])
 .ret)))⟩

def F.schema_Find : LFunc := ⟨20, [.cn 4 5, .t 5], 
 (.seq (.reg [⟨(some 2), .e (.box 10 (.s 0)), none⟩,
 ⟨(some 3), .e (.box 1 (.s 1)), none⟩,
 ⟨(some 4), .e (.alloc [.str [], .int .i64 0, .int .i64 0, .psl [], .psl []]), none⟩,
 ⟨(some 5), .p (.mv (.c (.bool false))), none⟩] [2, 3, 4])
 (.seq (.reg [⟨(some 7), .p (.foff 1 (.s 2)), none⟩,
 ⟨(some 8), .p (.ld (.s 7)), none⟩,
 ⟨(some 9), .p (.mkfn N.schema_Find_1 [] [(.s 3)]), none⟩,
 ⟨(some 10), .e (.call N.slices_IndexFunc_api_Family_api_Family_ [(.s 8), (.s 9)] true), none⟩,
 ⟨(some 6), .p (.mv (.s 10)), none⟩] [2, 4, 6])
 (.seq (.seq (.reg [⟨(some 11), .p (.mv (.s 6)), none⟩,
 ⟨(some 12), .p (.bin .lss (.s 11) (.c (.int .i64 0))), none⟩] [2, 4, 6, 12])
 (.cond (.s 12) (.seq (.reg [⟨(some 13), .p (.build [.str [], .int .i64 0, .int .i64 0, .psl [], .psl []] []), none⟩,
 ⟨none, .e (.stn 5 (.s 4) (.s 13)), none⟩,
 ⟨(some 5), .p (.mv (.c (.bool false))), none⟩] [4, 5])
 .ret) .skip))
 (.seq (.reg [⟨(some 14), .p (.foff 1 (.s 2)), none⟩,
 ⟨(some 15), .p (.ld (.s 14)), none⟩,
 ⟨(some 16), .p (.mv (.s 6)), none⟩,
 ⟨(some 17), .p (.iadr 5 (.s 15) (.s 16)), none⟩,
 ⟨(some 18), .p (.ldn 5 (.s 17)), none⟩,
 ⟨(some 19), .e (.call N.schema_clone [(.s 18)] true), none⟩,
 ⟨none, .e (.stn 5 (.s 4) (.s 19)), none⟩,
 ⟨(some 5), .p (.mv (.c (.bool true))), none⟩] [4, 5])
 .ret))))⟩

def F.slices_IndexFunc_api_Column_api_Column_ : LFunc := ⟨19, [.t 4], 
 (.seq (.reg [⟨(some 4), .p (.mv (.c (.int .i64 0))), none⟩] [0, 1])
 (.seq (.seq (.reg [⟨(some 6), .p (.mv (.s 0)), none⟩,
 ⟨(some 7), .p (.lenl (.s 6)), none⟩,
 ⟨(some 8), .p (.mv (.c (.int .i64 0))), none⟩] [0, 1, 7, 8])
 (.block 0 (.loop (.seq (.reg [⟨(some 9), .p (.bin .lss (.s 8) (.s 7)), none⟩] [0, 1, 7, 8, 9])
 (.seq (.cond (.s 9) .skip (.exit 0))
 (.seq (.block 1 (.seq (.reg [⟨(some 10), .p (.mv (.s 8)), none⟩,
 ⟨(some 5), .p (.mv (.s 10)), none⟩] [0, 1, 5, 7, 8])
 (.seq (.reg [⟨(some 11), .p (.mv (.s 1)), none⟩,
 ⟨(some 12), .p (.mv (.s 0)), none⟩,
 ⟨(some 13), .p (.mv (.s 5)), none⟩,
 ⟨(some 14), .p (.iadr 3 (.s 12) (.s 13)), none⟩,
 ⟨(some 15), .p (.ldn 3 (.s 14)), none⟩,
 ⟨(some 16), .e (.callv (.s 11) [(.s 15)] true), none⟩] [0, 1, 5, 7, 8, 16])
 (.cond (.s 16) (.seq (.reg [⟨(some 17), .p (.mv (.s 5)), none⟩,
 ⟨(some 4), .p (.mv (.s 17)), none⟩] [4])
 .ret) .skip))))
 (.reg [⟨(some 18), .p (.bin .add (.s 8) (.c (.int .i64 1))), none⟩,
 ⟨(some 8), .p (.mv (.s 18)), none⟩] [0, 1, 7, 8])))) [0, 1, 7, 8])))
 (.seq (.reg [⟨(some 4), .p (.mv (.c (.int .i64 (-1)))), none⟩] [4])
 .ret)))⟩

def F.schema_Column_1 : LFunc := ⟨8, [.t 3], 
 (.seq (.reg [⟨(some 2), .e (.box 3 (.s 0)), none⟩,
 ⟨(some 3), .p (.mv (.c (.bool false))), none⟩] [1, 2])
 (.seq (.reg [⟨(some 4), .p (.foff 0 (.s 2)), none⟩,
 ⟨(some 5), .p (.ld (.s 4)), none⟩,
 ⟨(some 6), .p (.ld (.s 1)), none⟩,
 ⟨(some 7), .p (.bin .eql (.s 5) (.s 6)), none⟩,
 ⟨(some 3), .p (.mv (.s 7)), none⟩] [3])
 .ret))⟩

def F.slices_ContainsFunc_string_string_ : LFunc := ⟨9, [.t 4], 
 (.seq (.reg [⟨(some 4), .p (.mv (.c (.bool false))), none⟩] [0, 1])
 (.seq (.reg [⟨(some 5), .p (.mv (.s 0)), none⟩,
 ⟨(some 6), .p (.mv (.s 1)), none⟩,
 ⟨(some 7), .e (.call N.slices_IndexFunc_string_string_ [(.s 5), (.s 6)] true), none⟩,
 ⟨(some 8), .p (.bin .geq (.s 7) (.c (.int .i64 0))), none⟩,
 ⟨(some 4), .p (.mv (.s 8)), none⟩] [4])
 .ret))⟩

def F.filter_Right_1 : LFunc := ⟨6, [.t 2], 
 (.seq (.reg [⟨(some 2), .p (.mv (.c (.bool false))), none⟩] [0])
 (.seq (.reg [⟨(some 3), .p (.mv (.s 0)), none⟩,
 ⟨(some 4), .e (.call N.filter_name [(.s 3)] true), none⟩,
 ⟨(some 5), .p (.un .not (.s 4)), none⟩,
 ⟨(some 2), .p (.mv (.s 5)), none⟩] [2])
 .ret))⟩

def F.filter_name : LFunc := ⟨17, [.t 2], 
 (.seq (.reg [⟨(some 2), .p (.mv (.c (.bool false))), none⟩] [0])
 (.seq (.reg [⟨(some 3), .p (.mv (.c (.fn N.filter_name_1 [] []))), none⟩] [0, 3])
 (.seq (.reg [⟨(some 4), .p (.mv (.s 0)), none⟩,
 ⟨(some 5), .p (.bin .neq (.s 4) (.c (.str []))), none⟩,
 ⟨(some 6), .p (.mv (.s 5)), none⟩,
 ⟨(some 7), .p (.mv (.s 0)), (some (6, true))⟩,
 ⟨(some 8), .p (.lens (.s 7)), (some (6, true))⟩,
 ⟨(some 9), .p (.bin .leq (.s 8) (.c (.int .i64 8))), (some (6, true))⟩,
 ⟨(some 10), .p (.pick (.s 6) (.s 9) (.c (.bool false))), none⟩,
 ⟨(some 11), .p (.mv (.s 10)), none⟩,
 ⟨(some 12), .p (.mv (.s 0)), (some (11, true))⟩,
 ⟨(some 13), .p (.mv (.s 3)), (some (11, true))⟩,
 ⟨(some 14), .e (.call N.strings_ContainsFunc [(.s 12), (.s 13)] true), (some (11, true))⟩,
 ⟨(some 15), .p (.un .not (.s 14)), (some (11, true))⟩,
 ⟨(some 16), .p (.pick (.s 11) (.s 15) (.c (.bool false))), none⟩,
 ⟨(some 2), .p (.mv (.s 16)), none⟩] [2])
 .ret)))⟩

def F.filter_within : LFunc := ⟨12, [.t 4], 
 (.seq (.reg [⟨(some 4), .p (.mv (.c (.bool false))), none⟩] [0, 1])
 (.seq (.reg [⟨(some 5), .p (.mv (.s 0)), none⟩,
 ⟨(some 6), .p (.bin .geq (.s 5) (.c (.int .i64 0))), none⟩,
 ⟨(some 7), .p (.mv (.s 6)), none⟩,
 ⟨(some 8), .p (.mv (.s 0)), (some (7, true))⟩,
 ⟨(some 9), .p (.mv (.s 1)), (some (7, true))⟩,
 ⟨(some 10), .p (.bin .leq (.s 8) (.s 9)), (some (7, true))⟩,
 ⟨(some 11), .p (.pick (.s 7) (.s 10) (.c (.bool false))), none⟩,
 ⟨(some 4), .p (.mv (.s 11)), none⟩] [4])
 .ret))⟩

def F.slices_IndexFunc_api_Mut_api_Mut_ : LFunc := ⟨19, [.t 4], 
 (.seq (.reg [⟨(some 4), .p (.mv (.c (.int .i64 0))), none⟩] [0, 1])
 (.seq (.seq (.reg [⟨(some 6), .p (.mv (.s 0)), none⟩,
 ⟨(some 7), .p (.lenl (.s 6)), none⟩,
 ⟨(some 8), .p (.mv (.c (.int .i64 0))), none⟩] [0, 1, 7, 8])
 (.block 0 (.loop (.seq (.reg [⟨(some 9), .p (.bin .lss (.s 8) (.s 7)), none⟩] [0, 1, 7, 8, 9])
 (.seq (.cond (.s 9) .skip (.exit 0))
 (.seq (.block 1 (.seq (.reg [⟨(some 10), .p (.mv (.s 8)), none⟩,
 ⟨(some 5), .p (.mv (.s 10)), none⟩] [0, 1, 5, 7, 8])
 (.seq (.reg [⟨(some 11), .p (.mv (.s 1)), none⟩,
 ⟨(some 12), .p (.mv (.s 0)), none⟩,
 ⟨(some 13), .p (.mv (.s 5)), none⟩,
 ⟨(some 14), .p (.iadr 6 (.s 12) (.s 13)), none⟩,
 ⟨(some 15), .p (.ldn 6 (.s 14)), none⟩,
 ⟨(some 16), .e (.callv (.s 11) [(.s 15)] true), none⟩] [0, 1, 5, 7, 8, 16])
 (.cond (.s 16) (.seq (.reg [⟨(some 17), .p (.mv (.s 5)), none⟩,
 ⟨(some 4), .p (.mv (.s 17)), none⟩] [4])
 .ret) .skip))))
 (.reg [⟨(some 18), .p (.bin .add (.s 8) (.c (.int .i64 1))), none⟩,
 ⟨(some 8), .p (.mv (.s 18)), none⟩] [0, 1, 7, 8])))) [0, 1, 7, 8])))
 (.seq (.reg [⟨(some 4), .p (.mv (.c (.int .i64 (-1)))), none⟩] [4])
 .ret)))⟩

def F.plan_name_1 : LFunc := ⟨17, [.t 2], 
 (.seq (.reg [⟨(some 2), .p (.mv (.c (.bool false))), none⟩] [0])
 (.seq (.reg [⟨(some 3), .p (.mv (.s 0)), none⟩,
 ⟨(some 4), .p (.bin .lss (.s 3) (.c (.int .i32 97))), none⟩,
 ⟨(some 5), .p (.mv (.s 4)), none⟩,
 ⟨(some 6), .p (.mv (.s 0)), (some (5, false))⟩,
 ⟨(some 7), .p (.bin .gtr (.s 6) (.c (.int .i32 122))), (some (5, false))⟩,
 ⟨(some 8), .p (.pick (.s 5) (.c (.bool true)) (.s 7)), none⟩,
 ⟨(some 9), .p (.mv (.s 8)), none⟩,
 ⟨(some 10), .p (.mv (.s 0)), (some (9, true))⟩,
 ⟨(some 11), .p (.bin .lss (.s 10) (.c (.int .i32 48))), (some (9, true))⟩,
 ⟨(some 12), .p (.mv (.s 11)), (some (9, true))⟩,
 ⟨(some 13), .p (.mv (.s 0)), (some (12, false))⟩,
 ⟨(some 14), .p (.bin .gtr (.s 13) (.c (.int .i32 57))), (some (12, false))⟩,
 ⟨(some 15), .p (.pick (.s 12) (.c (.bool true)) (.s 14)), (some (9, true))⟩,
 ⟨(some 16), .p (.pick (.s 9) (.s 15) (.c (.bool false))), none⟩,
 ⟨(some 2), .p (.mv (.s 16)), none⟩] [2])
 .ret))⟩

def F.strings_ContainsFunc : LFunc := ⟨9, [.t 4], 
 (.seq (.reg [⟨(some 4), .p (.mv (.c (.bool false))), none⟩] [0, 1])
 (.seq (.reg [⟨(some 5), .p (.mv (.s 0)), none⟩,
 ⟨(some 6), .p (.mv (.s 1)), none⟩,
 ⟨(some 7), .e (.call N.strings_IndexFunc [(.s 5), (.s 6)] true), none⟩,
 ⟨(some 8), .p (.bin .geq (.s 7) (.c (.int .i64 0))), none⟩,
 ⟨(some 4), .p (.mv (.s 8)), none⟩] [4])
 .ret))⟩

def F.float_bits_right : LFunc := ⟨10, [.t 2], 
 (.seq (.reg [⟨(some 2), .p (.mv (.c (.bool false))), none⟩] [0])
 (.seq (.reg [⟨(some 3), .p (.mv (.s 0)), none⟩,
 ⟨(some 4), .p (.bin .andNot (.s 3) (.c (.int .u64 9223372036854775808))), none⟩,
 ⟨(some 5), .p (.bin .leq (.s 4) (.c (.int .u64 9218868437227405312))), none⟩,
 ⟨(some 6), .p (.mv (.s 5)), none⟩,
 ⟨(some 7), .p (.mv (.s 0)), (some (6, false))⟩,
 ⟨(some 8), .p (.bin .eql (.s 7) (.c (.int .u64 9221120237041090560))), (some (6, false))⟩,
 ⟨(some 9), .p (.pick (.s 6) (.c (.bool true)) (.s 8)), none⟩,
 ⟨(some 2), .p (.mv (.s 9)), none⟩] [2])
 .ret))⟩

def F.codec_Order : LFunc := ⟨37, [.t 4], 
 (.seq (.reg [⟨(some 2), .e (.box 8 (.s 0)), none⟩,
 ⟨(some 3), .e (.box 8 (.s 1)), none⟩,
 ⟨(some 4), .p (.mv (.c (.int .i64 0))), none⟩] [2, 3])
 (.seq (.regD [⟨(some 5), .p (.foff 0 (.s 2)), none⟩,
 ⟨(some 6), .p (.ld (.s 5)), none⟩,
 ⟨(some 7), .p (.foff 0 (.s 3)), none⟩,
 ⟨(some 8), .p (.ld (.s 7)), none⟩,
 ⟨(some 10), .p (.foff 1 (.s 2)), none⟩,
 ⟨(some 11), .p (.ld (.s 10)), none⟩,
 ⟨(some 12), .p (.foff 1 (.s 3)), none⟩,
 ⟨(some 13), .p (.ld (.s 12)), none⟩,
 ⟨(some 15), .p (.ldn 8 (.s 2)), none⟩,
 ⟨(some 17), .p (.ldn 8 (.s 3)), none⟩,
 ⟨(some 20), .p (.foff 2 (.s 2)), none⟩,
 ⟨(some 21), .p (.ld (.s 20)), none⟩,
 ⟨(some 22), .p (.foff 2 (.s 3)), none⟩,
 ⟨(some 23), .p (.ld (.s 22)), none⟩,
 ⟨(some 25), .p (.foff 3 (.s 3)), none⟩,
 ⟨(some 26), .p (.ld (.s 25)), none⟩,
 ⟨(some 27), .p (.foff 3 (.s 2)), none⟩,
 ⟨(some 28), .p (.ld (.s 27)), none⟩,
 ⟨(some 30), .p (.foff 4 (.s 3)), none⟩,
 ⟨(some 31), .p (.ld (.s 30)), none⟩,
 ⟨(some 32), .p (.foff 4 (.s 2)), none⟩,
 ⟨(some 33), .p (.ld (.s 32)), none⟩,
 ⟨(some 9), .e (.call N.strings_Compare [(.s 6), (.s 8)] true), none⟩,
 ⟨(some 11), .s (.ld (.s 10)), none⟩,
 ⟨(some 13), .s (.ld (.s 12)), none⟩,
 ⟨(some 15), .s (.ldn 8 (.s 2)), none⟩,
 ⟨(some 17), .s (.ldn 8 (.s 3)), none⟩,
 ⟨(some 21), .s (.ld (.s 20)), none⟩,
 ⟨(some 23), .s (.ld (.s 22)), none⟩,
 ⟨(some 26), .s (.ld (.s 25)), none⟩,
 ⟨(some 28), .s (.ld (.s 27)), none⟩,
 ⟨(some 31), .s (.ld (.s 30)), none⟩,
 ⟨(some 33), .s (.ld (.s 32)), none⟩,
 ⟨(some 14), .e (.call N.strings_Compare [(.s 11), (.s 13)] true), none⟩,
 ⟨(some 15), .s (.ldn 8 (.s 2)), none⟩,
 ⟨(some 17), .s (.ldn 8 (.s 3)), none⟩,
 ⟨(some 21), .s (.ld (.s 20)), none⟩,
 ⟨(some 23), .s (.ld (.s 22)), none⟩,
 ⟨(some 26), .s (.ld (.s 25)), none⟩,
 ⟨(some 28), .s (.ld (.s 27)), none⟩,
 ⟨(some 31), .s (.ld (.s 30)), none⟩,
 ⟨(some 33), .s (.ld (.s 32)), none⟩,
 ⟨(some 16), .e (.call N.codec_whole [(.s 15)] true), none⟩,
 ⟨(some 17), .s (.ldn 8 (.s 3)), none⟩,
 ⟨(some 21), .s (.ld (.s 20)), none⟩,
 ⟨(some 23), .s (.ld (.s 22)), none⟩,
 ⟨(some 26), .s (.ld (.s 25)), none⟩,
 ⟨(some 28), .s (.ld (.s 27)), none⟩,
 ⟨(some 31), .s (.ld (.s 30)), none⟩,
 ⟨(some 33), .s (.ld (.s 32)), none⟩,
 ⟨(some 18), .e (.call N.codec_whole [(.s 17)] true), none⟩,
 ⟨(some 21), .s (.ld (.s 20)), none⟩,
 ⟨(some 23), .s (.ld (.s 22)), none⟩,
 ⟨(some 26), .s (.ld (.s 25)), none⟩,
 ⟨(some 28), .s (.ld (.s 27)), none⟩,
 ⟨(some 31), .s (.ld (.s 30)), none⟩,
 ⟨(some 33), .s (.ld (.s 32)), none⟩,
 ⟨(some 19), .e (.call N.cmp_Compare_int [(.s 16), (.s 18)] true), none⟩,
 ⟨(some 21), .s (.ld (.s 20)), none⟩,
 ⟨(some 23), .s (.ld (.s 22)), none⟩,
 ⟨(some 26), .s (.ld (.s 25)), none⟩,
 ⟨(some 28), .s (.ld (.s 27)), none⟩,
 ⟨(some 31), .s (.ld (.s 30)), none⟩,
 ⟨(some 33), .s (.ld (.s 32)), none⟩,
 ⟨(some 24), .e (.call N.strings_Compare [(.s 21), (.s 23)] true), none⟩,
 ⟨(some 26), .s (.ld (.s 25)), none⟩,
 ⟨(some 28), .s (.ld (.s 27)), none⟩,
 ⟨(some 31), .s (.ld (.s 30)), none⟩,
 ⟨(some 33), .s (.ld (.s 32)), none⟩,
 ⟨(some 29), .e (.call N.cmp_Compare_int [(.s 26), (.s 28)] true), none⟩,
 ⟨(some 31), .s (.ld (.s 30)), none⟩,
 ⟨(some 33), .s (.ld (.s 32)), none⟩,
 ⟨(some 34), .e (.call N.cmp_Compare_int [(.s 31), (.s 33)] true), none⟩,
 ⟨none, .b 1 6 [.int .i64 0] [(0, 1, (.s 9)), (1, 1, (.s 14)), (2, 1, (.s 19)), (3, 1, (.s 24)), (4, 1, (.s 29)), (5, 1, (.s 34))], none⟩,
 ⟨(some 35), .e (.bsl 1 6 [.int .i64 0] [(0, 1, (.s 9)), (1, 1, (.s 14)), (2, 1, (.s 19)), (3, 1, (.s 24)), (4, 1, (.s 29)), (5, 1, (.s 34))]), none⟩,
 ⟨(some 36), .e (.call N.cmp_Or_int [(.s 35)] true), none⟩,
 ⟨(some 4), .p (.mv (.s 36)), none⟩] [0, 1, 2, 3, 5, 6, 7, 8, 10, 12, 15, 16, 17, 18, 20, 21, 22, 23, 25, 26, 27, 28, 4, 9, 11, 13, 14, 19, 24, 29, 30, 31, 32] [4])
 .ret))⟩

def F.slices_insertionSortOrdered_string : LFunc := ⟨49, [], 
 (.seq (.reg [⟨(some 8), .p (.mv (.s 1)), none⟩,
 ⟨(some 9), .p (.bin .add (.s 8) (.c (.int .i64 1))), none⟩,
 ⟨(some 6), .p (.mv (.s 9)), none⟩] [0, 1, 2, 6])
 (.block 0 (.loop (.seq (.seq (.reg [⟨(some 10), .p (.mv (.s 6)), none⟩,
 ⟨(some 11), .p (.mv (.s 2)), none⟩,
 ⟨(some 12), .p (.bin .lss (.s 10) (.s 11)), none⟩] [0, 1, 2, 6, 12])
 (.cond (.s 12) .skip (.exit 0)))
 (.seq (.block 1 (.seq (.reg [⟨(some 15), .p (.mv (.s 6)), none⟩,
 ⟨(some 7), .p (.mv (.s 15)), none⟩] [0, 1, 2, 6, 7])
 (.block 2 (.loop (.seq (.seq (.regD [⟨(some 16), .p (.mv (.s 7)), none⟩,
 ⟨(some 17), .p (.mv (.s 1)), none⟩,
 ⟨(some 18), .p (.bin .gtr (.s 16) (.s 17)), none⟩,
 ⟨(some 19), .p (.mv (.s 18)), none⟩,
 ⟨(some 20), .p (.mv (.s 0)), (some (19, true))⟩,
 ⟨(some 21), .p (.mv (.s 7)), (some (19, true))⟩,
 ⟨(some 22), .p (.iadr 1 (.s 20) (.s 21)), (some (19, true))⟩,
 ⟨(some 23), .p (.ld (.s 22)), (some (19, true))⟩,
 ⟨(some 24), .p (.mv (.s 0)), (some (19, true))⟩,
 ⟨(some 25), .p (.mv (.s 7)), (some (19, true))⟩,
 ⟨(some 26), .p (.bin .sub (.s 25) (.c (.int .i64 1))), (some (19, true))⟩,
 ⟨(some 27), .p (.iadr 1 (.s 24) (.s 26)), (some (19, true))⟩,
 ⟨(some 28), .p (.ld (.s 27)), (some (19, true))⟩,
 ⟨(some 29), .e (.call N.cmp_Less_string [(.s 23), (.s 28)] false), (some (19, true))⟩,
 ⟨(some 30), .p (.pick (.s 19) (.s 29) (.c (.bool false))), none⟩] [0, 1, 2, 3, 4, 5, 6, 7, 8, 9, 10, 11, 12, 13, 14] [0, 1, 2, 6, 7, 30])
 (.cond (.s 30) .skip (.exit 2)))
 (.seq (.block 3 (.regD [⟨(some 33), .p (.mv (.s 0)), none⟩,
 ⟨(some 34), .p (.mv (.s 7)), none⟩,
 ⟨(some 35), .p (.mv (.s 0)), none⟩,
 ⟨(some 36), .p (.mv (.s 7)), none⟩,
 ⟨(some 37), .p (.bin .sub (.s 36) (.c (.int .i64 1))), none⟩,
 ⟨(some 38), .p (.mv (.s 0)), none⟩,
 ⟨(some 39), .p (.mv (.s 7)), none⟩,
 ⟨(some 40), .p (.bin .sub (.s 39) (.c (.int .i64 1))), none⟩,
 ⟨(some 41), .p (.iadr 1 (.s 38) (.s 40)), none⟩,
 ⟨(some 42), .p (.ld (.s 41)), none⟩,
 ⟨(some 43), .p (.mv (.s 0)), none⟩,
 ⟨(some 44), .p (.mv (.s 7)), none⟩,
 ⟨(some 45), .p (.iadr 1 (.s 43) (.s 44)), none⟩,
 ⟨(some 46), .p (.ld (.s 45)), none⟩,
 ⟨(some 47), .p (.iadr 1 (.s 33) (.s 34)), none⟩,
 ⟨none, .e (.st (.s 47) (.s 42)), none⟩,
 ⟨(some 48), .p (.iadr 1 (.s 35) (.s 37)), none⟩,
 ⟨none, .e (.st (.s 48) (.s 46)), none⟩] [0, 1, 2, 3, 4, 5, 6, 7, 8, 9, 10, 11, 12, 13, 14, 15, 16, 17] [0, 1, 2, 6, 7]))
 (.reg [⟨(some 31), .p (.mv (.s 7)), none⟩,
 ⟨(some 32), .p (.bin .sub (.s 31) (.c (.int .i64 1))), none⟩,
 ⟨(some 7), .p (.mv (.s 32)), none⟩] [0, 1, 2, 6, 7]))) [0, 1, 2, 6, 7]))))
 (.reg [⟨(some 13), .p (.mv (.s 6)), none⟩,
 ⟨(some 14), .p (.bin .add (.s 13) (.c (.int .i64 1))), none⟩,
 ⟨(some 6), .p (.mv (.s 14)), none⟩] [0, 1, 2, 6]))) [0, 1, 2, 6])))⟩

def F.cmp_Less_string : LFunc := ⟨17, [.t 4], 
 (.seq (.reg [⟨(some 4), .p (.mv (.c (.bool false))), none⟩] [0, 1])
 (.seq (.reg [⟨(some 5), .p (.mv (.s 0)), none⟩,
 ⟨(some 6), .e (.call N.cmp_isNaN_string [(.s 5)] true), none⟩,
 ⟨(some 7), .p (.mv (.s 6)), none⟩,
 ⟨(some 8), .p (.mv (.s 1)), (some (7, true))⟩,
 ⟨(some 9), .e (.call N.cmp_isNaN_string [(.s 8)] true), (some (7, true))⟩,
 ⟨(some 10), .p (.un .not (.s 9)), (some (7, true))⟩,
 ⟨(some 11), .p (.pick (.s 7) (.s 10) (.c (.bool false))), none⟩,
 ⟨(some 12), .p (.mv (.s 11)), none⟩,
 ⟨(some 13), .p (.mv (.s 0)), (some (12, false))⟩,
 ⟨(some 14), .p (.mv (.s 1)), (some (12, false))⟩,
 ⟨(some 15), .p (.bin .lss (.s 13) (.s 14)), (some (12, false))⟩,
 ⟨(some 16), .p (.pick (.s 12) (.c (.bool true)) (.s 15)), none⟩,
 ⟨(some 4), .p (.mv (.s 16)), none⟩] [4])
 .ret))⟩

def F.math_bits_Len64 : LFunc := ⟨25, [.t 2], 
 (.seq (.reg [⟨(some 2), .p (.mv (.c (.int .i64 0))), none⟩] [0, 2])
 (.seq (.seq (.reg [⟨(some 3), .p (.mv (.s 0)), none⟩,
 ⟨(some 4), .p (.bin .geq (.s 3) (.c (.int .u64 4294967296))), none⟩] [0, 2, 4])
 (.cond (.s 4) (.seq (.reg [⟨(some 5), .p (.mv (.s 0)), none⟩,
 ⟨(some 6), .p (.bin .shr (.s 5) (.c (.int .u64 32))), none⟩,
 ⟨(some 0), .p (.mv (.s 6)), none⟩] [0])
 (.reg [⟨(some 2), .p (.mv (.c (.int .i64 32))), none⟩] [0, 2])) .skip))
 (.seq (.seq (.reg [⟨(some 7), .p (.mv (.s 0)), none⟩,
 ⟨(some 8), .p (.bin .geq (.s 7) (.c (.int .u64 65536))), none⟩] [0, 2, 8])
 (.cond (.s 8) (.seq (.reg [⟨(some 9), .p (.mv (.s 0)), none⟩,
 ⟨(some 10), .p (.bin .shr (.s 9) (.c (.int .u64 16))), none⟩,
 ⟨(some 0), .p (.mv (.s 10)), none⟩] [0, 2])
 (.reg [⟨(some 11), .p (.mv (.s 2)), none⟩,
 ⟨(some 12), .p (.bin .add (.s 11) (.c (.int .i64 16))), none⟩,
 ⟨(some 2), .p (.mv (.s 12)), none⟩] [0, 2])) .skip))
 (.seq (.seq (.reg [⟨(some 13), .p (.mv (.s 0)), none⟩,
 ⟨(some 14), .p (.bin .geq (.s 13) (.c (.int .u64 256))), none⟩] [0, 2, 14])
 (.cond (.s 14) (.seq (.reg [⟨(some 15), .p (.mv (.s 0)), none⟩,
 ⟨(some 16), .p (.bin .shr (.s 15) (.c (.int .u64 8))), none⟩,
 ⟨(some 0), .p (.mv (.s 16)), none⟩] [0, 2])
 (.reg [⟨(some 17), .p (.mv (.s 2)), none⟩,
 ⟨(some 18), .p (.bin .add (.s 17) (.c (.int .i64 8))), none⟩,
 ⟨(some 2), .p (.mv (.s 18)), none⟩] [0, 2])) .skip))
 (.seq (.reg [⟨(some 19), .p (.mv (.s 2)), none⟩,
 ⟨(some 20), .p (.mv (.s 0)), none⟩,
 ⟨(some 21), .p (.cvt .u8 (.s 20)), none⟩,
 ⟨(some 22), .p (.idxs (.c (.str [0, 1, 2, 2, 3, 3, 3, 3, 4, 4, 4, 4, 4, 4, 4, 4, 5, 5, 5, 5, 5, 5, 5, 5, 5, 5, 5, 5, 5, 5, 5, 5, 6, 6, 6, 6, 6, 6, 6, 6, 6, 6, 6, 6, 6, 6, 6, 6, 6, 6, 6, 6, 6, 6, 6, 6, 6, 6, 6, 6, 6, 6, 6, 6, 7, 7, 7, 7, 7, 7, 7, 7, 7, 7, 7, 7, 7, 7, 7, 7, 7, 7, 7, 7, 7, 7, 7, 7, 7, 7, 7, 7, 7, 7, 7, 7, 7, 7, 7, 7, 7, 7, 7, 7, 7, 7, 7, 7, 7, 7, 7, 7, 7, 7, 7, 7, 7, 7, 7, 7, 7, 7, 7, 7, 7, 7, 7, 7, 8, 8, 8, 8, 8, 8, 8, 8, 8, 8, 8, 8, 8, 8, 8, 8, 8, 8, 8, 8, 8, 8, 8, 8, 8, 8, 8, 8, 8, 8, 8, 8, 8, 8, 8, 8, 8, 8, 8, 8, 8, 8, 8, 8, 8, 8, 8, 8, 8, 8, 8, 8, 8, 8, 8, 8, 8, 8, 8, 8, 8, 8, 8, 8, 8, 8, 8, 8, 8, 8, 8, 8, 8, 8, 8, 8, 8, 8, 8, 8, 8, 8, 8, 8, 8, 8, 8, 8, 8, 8, 8, 8, 8, 8, 8, 8, 8, 8, 8, 8, 8, 8, 8, 8, 8, 8, 8, 8, 8, 8, 8, 8, 8, 8, 8, 8, 8, 8, 8, 8, 8, 8, 8, 8, 8, 8, 8, 8])) (.s 21)), none⟩,
 ⟨(some 23), .p (.cvt .i64 (.s 22)), none⟩,
 ⟨(some 24), .p (.bin .add (.s 19) (.s 23)), none⟩,
 ⟨(some 2), .p (.mv (.s 24)), none⟩] [2])
 .ret)))))⟩

def F.schema_name_1 : LFunc := ⟨17, [.t 2], 
 (.seq (.reg [⟨(some 2), .p (.mv (.c (.bool false))), none⟩] [0])
 (.seq (.reg [⟨(some 3), .p (.mv (.s 0)), none⟩,
 ⟨(some 4), .p (.bin .lss (.s 3) (.c (.int .i32 97))), none⟩,
 ⟨(some 5), .p (.mv (.s 4)), none⟩,
 ⟨(some 6), .p (.mv (.s 0)), (some (5, false))⟩,
 ⟨(some 7), .p (.bin .gtr (.s 6) (.c (.int .i32 122))), (some (5, false))⟩,
 ⟨(some 8), .p (.pick (.s 5) (.c (.bool true)) (.s 7)), none⟩,
 ⟨(some 9), .p (.mv (.s 8)), none⟩,
 ⟨(some 10), .p (.mv (.s 0)), (some (9, true))⟩,
 ⟨(some 11), .p (.bin .lss (.s 10) (.c (.int .i32 48))), (some (9, true))⟩,
 ⟨(some 12), .p (.mv (.s 11)), (some (9, true))⟩,
 ⟨(some 13), .p (.mv (.s 0)), (some (12, false))⟩,
 ⟨(some 14), .p (.bin .gtr (.s 13) (.c (.int .i32 57))), (some (12, false))⟩,
 ⟨(some 15), .p (.pick (.s 12) (.c (.bool true)) (.s 14)), (some (9, true))⟩,
 ⟨(some 16), .p (.pick (.s 9) (.s 15) (.c (.bool false))), none⟩,
 ⟨(some 2), .p (.mv (.s 16)), none⟩] [2])
 .ret))⟩

def F.schema_state : LFunc := ⟨5, [.t 2], 
 (.seq (.reg [⟨(some 2), .p (.mv (.c (.bool false))), none⟩] [0])
 (.seq (.reg [⟨(some 3), .p (.mv (.s 0)), none⟩,
 ⟨(some 4), .e (.call N.schema_within [(.s 3), (.c (.int .i64 1)), (.c (.int .i64 3))] true), none⟩,
 ⟨(some 2), .p (.mv (.s 4)), none⟩] [2])
 .ret))⟩

def F.schema_once_int : LFunc := ⟨27, [.t 4], 
 (.seq (.reg [⟨(some 4), .p (.mv (.c (.bool false))), none⟩] [0, 1])
 (.seq (.reg [⟨(some 8), .e (.mkmap), none⟩,
 ⟨(some 5), .p (.mv (.s 8)), none⟩] [0, 1, 5])
 (.seq (.seq (.reg [⟨(some 9), .p (.mv (.s 0)), none⟩,
 ⟨(some 10), .p (.lenl (.s 9)), none⟩,
 ⟨(some 11), .p (.mv (.c (.int .i64 0))), none⟩] [0, 1, 5, 9, 10, 11])
 (.block 0 (.loop (.seq (.reg [⟨(some 12), .p (.bin .lss (.s 11) (.s 10)), none⟩] [0, 1, 5, 9, 10, 11, 12])
 (.seq (.cond (.s 12) .skip (.exit 0))
 (.seq (.block 1 (.seq (.reg [⟨(some 13), .p (.iadr 2 (.s 9) (.s 11)), none⟩,
 ⟨(some 14), .p (.ldn 2 (.s 13)), none⟩,
 ⟨(some 7), .e (.alloc [.int .i64 0, .int .i64 0]), none⟩,
 ⟨none, .e (.stn 2 (.s 7) (.s 14)), none⟩] [0, 1, 5, 7, 9, 10, 11])
 (.reg [⟨(some 15), .p (.mv (.s 5)), none⟩,
 ⟨(some 16), .p (.mv (.s 1)), none⟩,
 ⟨(some 17), .p (.ldn 2 (.s 7)), none⟩,
 ⟨(some 18), .e (.callv (.s 16) [(.s 17)] true), none⟩,
 ⟨(some 19), .p (.look 0 false (.int .i64 0) (.s 15) (.s 18)), none⟩,
 ⟨(some 20), .p (.bin .add (.s 19) (.c (.int .i64 1))), none⟩,
 ⟨none, .e (.mapup 0 (.s 15) (.s 18) (.s 20)), none⟩] [0, 1, 5, 9, 10, 11])))
 (.reg [⟨(some 21), .p (.bin .add (.s 11) (.c (.int .i64 1))), none⟩,
 ⟨(some 11), .p (.mv (.s 21)), none⟩] [0, 1, 5, 9, 10, 11])))) [0, 1, 5, 9, 10, 11])))
 (.seq (.reg [⟨(some 22), .p (.mv (.s 5)), none⟩,
 ⟨(some 23), .p (.lenm (.s 22)), none⟩,
 ⟨(some 24), .p (.mv (.s 0)), none⟩,
 ⟨(some 25), .p (.lenl (.s 24)), none⟩,
 ⟨(some 26), .p (.bin .eql (.s 23) (.s 25)), none⟩,
 ⟨(some 4), .p (.mv (.s 26)), none⟩] [4])
 .ret))))⟩

def F.schema_layouts_1 : LFunc := ⟨5, [.t 2], 
 (.seq (.reg [⟨(some 1), .e (.box 2 (.s 0)), none⟩,
 ⟨(some 2), .p (.mv (.c (.int .i64 0))), none⟩] [1])
 (.seq (.reg [⟨(some 3), .p (.foff 0 (.s 1)), none⟩,
 ⟨(some 4), .p (.ld (.s 3)), none⟩,
 ⟨(some 2), .p (.mv (.s 4)), none⟩] [2])
 .ret))⟩

def F.schema_cols_1 : LFunc := ⟨19, [.t 2], 
 (.seq (.reg [⟨(some 1), .e (.box 3 (.s 0)), none⟩,
 ⟨(some 2), .p (.mv (.c (.bool false))), none⟩] [1])
 (.seq (.reg [⟨(some 3), .p (.foff 0 (.s 1)), none⟩,
 ⟨(some 4), .p (.ld (.s 3)), none⟩,
 ⟨(some 5), .p (.lens (.s 4)), none⟩,
 ⟨(some 6), .p (.bin .gtr (.s 5) (.c (.int .i64 12))), none⟩,
 ⟨(some 7), .p (.mv (.s 6)), none⟩,
 ⟨(some 8), .p (.foff 1 (.s 1)), (some (7, false))⟩,
 ⟨(some 9), .p (.ld (.s 8)), (some (7, false))⟩,
 ⟨(some 10), .e (.call N.schema_within [(.s 9), (.c (.int .i64 1)), (.c (.int .i64 5))] true), (some (7, false))⟩,
 ⟨(some 11), .p (.un .not (.s 10)), (some (7, false))⟩,
 ⟨(some 12), .p (.pick (.s 7) (.c (.bool true)) (.s 11)), none⟩,
 ⟨(some 13), .p (.mv (.s 12)), none⟩,
 ⟨(some 14), .p (.foff 2 (.s 1)), (some (13, false))⟩,
 ⟨(some 15), .p (.ld (.s 14)), (some (13, false))⟩,
 ⟨(some 16), .e (.call N.schema_state [(.s 15)] true), (some (13, false))⟩,
 ⟨(some 17), .p (.un .not (.s 16)), (some (13, false))⟩,
 ⟨(some 18), .p (.pick (.s 13) (.c (.bool true)) (.s 17)), none⟩,
 ⟨(some 2), .p (.mv (.s 18)), none⟩] [2])
 .ret))⟩

def F.slices_ContainsFunc_api_Column_api_Column_ : LFunc := ⟨9, [.t 4], 
 (.seq (.reg [⟨(some 4), .p (.mv (.c (.bool false))), none⟩] [0, 1])
 (.seq (.reg [⟨(some 5), .p (.mv (.s 0)), none⟩,
 ⟨(some 6), .p (.mv (.s 1)), none⟩,
 ⟨(some 7), .e (.call N.slices_IndexFunc_api_Column_api_Column_ [(.s 5), (.s 6)] true), none⟩,
 ⟨(some 8), .p (.bin .geq (.s 7) (.c (.int .i64 0))), none⟩,
 ⟨(some 4), .p (.mv (.s 8)), none⟩] [4])
 .ret))⟩

def F.schema_once_string_2 : LFunc := ⟨27, [.t 4], 
 (.seq (.reg [⟨(some 4), .p (.mv (.c (.bool false))), none⟩] [0, 1])
 (.seq (.reg [⟨(some 8), .e (.mkmap), none⟩,
 ⟨(some 5), .p (.mv (.s 8)), none⟩] [0, 1, 5])
 (.seq (.seq (.reg [⟨(some 9), .p (.mv (.s 0)), none⟩,
 ⟨(some 10), .p (.lenl (.s 9)), none⟩,
 ⟨(some 11), .p (.mv (.c (.int .i64 0))), none⟩] [0, 1, 5, 9, 10, 11])
 (.block 0 (.loop (.seq (.reg [⟨(some 12), .p (.bin .lss (.s 11) (.s 10)), none⟩] [0, 1, 5, 9, 10, 11, 12])
 (.seq (.cond (.s 12) .skip (.exit 0))
 (.seq (.block 1 (.seq (.reg [⟨(some 13), .p (.iadr 3 (.s 9) (.s 11)), none⟩,
 ⟨(some 14), .p (.ldn 3 (.s 13)), none⟩,
 ⟨(some 7), .e (.alloc [.str [], .int .i64 0, .int .i64 0]), none⟩,
 ⟨none, .e (.stn 3 (.s 7) (.s 14)), none⟩] [0, 1, 5, 7, 9, 10, 11])
 (.reg [⟨(some 15), .p (.mv (.s 5)), none⟩,
 ⟨(some 16), .p (.mv (.s 1)), none⟩,
 ⟨(some 17), .p (.ldn 3 (.s 7)), none⟩,
 ⟨(some 18), .e (.callv (.s 16) [(.s 17)] true), none⟩,
 ⟨(some 19), .p (.look 1 false (.int .i64 0) (.s 15) (.s 18)), none⟩,
 ⟨(some 20), .p (.bin .add (.s 19) (.c (.int .i64 1))), none⟩,
 ⟨none, .e (.mapup 1 (.s 15) (.s 18) (.s 20)), none⟩] [0, 1, 5, 9, 10, 11])))
 (.reg [⟨(some 21), .p (.bin .add (.s 11) (.c (.int .i64 1))), none⟩,
 ⟨(some 11), .p (.mv (.s 21)), none⟩] [0, 1, 5, 9, 10, 11])))) [0, 1, 5, 9, 10, 11])))
 (.seq (.reg [⟨(some 22), .p (.mv (.s 5)), none⟩,
 ⟨(some 23), .p (.lenm (.s 22)), none⟩,
 ⟨(some 24), .p (.mv (.s 0)), none⟩,
 ⟨(some 25), .p (.lenl (.s 24)), none⟩,
 ⟨(some 26), .p (.bin .eql (.s 23) (.s 25)), none⟩,
 ⟨(some 4), .p (.mv (.s 26)), none⟩] [4])
 .ret))))⟩

def F.schema_cols_2 : LFunc := ⟨5, [.t 2], 
 (.seq (.reg [⟨(some 1), .e (.box 3 (.s 0)), none⟩,
 ⟨(some 2), .p (.mv (.c (.str []))), none⟩] [1])
 (.seq (.reg [⟨(some 3), .p (.foff 0 (.s 1)), none⟩,
 ⟨(some 4), .p (.ld (.s 3)), none⟩,
 ⟨(some 2), .p (.mv (.s 4)), none⟩] [2])
 .ret))⟩

def F.schema_Find_1 : LFunc := ⟨8, [.t 3], 
 (.seq (.reg [⟨(some 2), .e (.box 5 (.s 0)), none⟩,
 ⟨(some 3), .p (.mv (.c (.bool false))), none⟩] [1, 2])
 (.seq (.reg [⟨(some 4), .p (.foff 0 (.s 2)), none⟩,
 ⟨(some 5), .p (.ld (.s 4)), none⟩,
 ⟨(some 6), .p (.ld (.s 1)), none⟩,
 ⟨(some 7), .p (.bin .eql (.s 5) (.s 6)), none⟩,
 ⟨(some 3), .p (.mv (.s 7)), none⟩] [3])
 .ret))⟩

def F.schema_clone : LFunc := ⟨12, [.cn 2 5], 
 (.seq (.reg [⟨(some 1), .e (.box 5 (.s 0)), none⟩,
 ⟨(some 2), .e (.alloc [.str [], .int .i64 0, .int .i64 0, .psl [], .psl []]), none⟩] [1, 2])
 (.seq (.reg [⟨(some 3), .p (.foff 3 (.s 1)), none⟩,
 ⟨(some 4), .p (.ld (.s 3)), none⟩,
 ⟨(some 5), .e (.call N.slices_Clone_api_Layout_api_Layout_ [(.s 4)] true), none⟩,
 ⟨(some 6), .p (.foff 3 (.s 1)), none⟩,
 ⟨none, .e (.st (.s 6) (.s 5)), none⟩] [1, 2])
 (.seq (.reg [⟨(some 7), .p (.foff 4 (.s 1)), none⟩,
 ⟨(some 8), .p (.ld (.s 7)), none⟩,
 ⟨(some 9), .e (.call N.slices_Clone_api_Column_api_Column_ [(.s 8)] true), none⟩,
 ⟨(some 10), .p (.foff 4 (.s 1)), none⟩,
 ⟨none, .e (.st (.s 10) (.s 9)), none⟩] [1, 2])
 (.seq (.reg [⟨(some 11), .p (.ldn 5 (.s 1)), none⟩,
 ⟨none, .e (.stn 5 (.s 2) (.s 11)), none⟩] [2])
 .ret))))⟩

def F.slices_IndexFunc_string_string_ : LFunc := ⟨19, [.t 4], 
 (.seq (.reg [⟨(some 4), .p (.mv (.c (.int .i64 0))), none⟩] [0, 1])
 (.seq (.seq (.reg [⟨(some 6), .p (.mv (.s 0)), none⟩,
 ⟨(some 7), .p (.lenl (.s 6)), none⟩,
 ⟨(some 8), .p (.mv (.c (.int .i64 0))), none⟩] [0, 1, 7, 8])
 (.block 0 (.loop (.seq (.reg [⟨(some 9), .p (.bin .lss (.s 8) (.s 7)), none⟩] [0, 1, 7, 8, 9])
 (.seq (.cond (.s 9) .skip (.exit 0))
 (.seq (.block 1 (.seq (.reg [⟨(some 10), .p (.mv (.s 8)), none⟩,
 ⟨(some 5), .p (.mv (.s 10)), none⟩] [0, 1, 5, 7, 8])
 (.seq (.reg [⟨(some 11), .p (.mv (.s 1)), none⟩,
 ⟨(some 12), .p (.mv (.s 0)), none⟩,
 ⟨(some 13), .p (.mv (.s 5)), none⟩,
 ⟨(some 14), .p (.iadr 1 (.s 12) (.s 13)), none⟩,
 ⟨(some 15), .p (.ld (.s 14)), none⟩,
 ⟨(some 16), .e (.callv (.s 11) [(.s 15)] true), none⟩] [0, 1, 5, 7, 8, 16])
 (.cond (.s 16) (.seq (.reg [⟨(some 17), .p (.mv (.s 5)), none⟩,
 ⟨(some 4), .p (.mv (.s 17)), none⟩] [4])
 .ret) .skip))))
 (.reg [⟨(some 18), .p (.bin .add (.s 8) (.c (.int .i64 1))), none⟩,
 ⟨(some 8), .p (.mv (.s 18)), none⟩] [0, 1, 7, 8])))) [0, 1, 7, 8])))
 (.seq (.reg [⟨(some 4), .p (.mv (.c (.int .i64 (-1)))), none⟩] [4])
 .ret)))⟩

def F.filter_name_1 : LFunc := ⟨17, [.t 2], 
 (.seq (.reg [⟨(some 2), .p (.mv (.c (.bool false))), none⟩] [0])
 (.seq (.reg [⟨(some 3), .p (.mv (.s 0)), none⟩,
 ⟨(some 4), .p (.bin .lss (.s 3) (.c (.int .i32 97))), none⟩,
 ⟨(some 5), .p (.mv (.s 4)), none⟩,
 ⟨(some 6), .p (.mv (.s 0)), (some (5, false))⟩,
 ⟨(some 7), .p (.bin .gtr (.s 6) (.c (.int .i32 122))), (some (5, false))⟩,
 ⟨(some 8), .p (.pick (.s 5) (.c (.bool true)) (.s 7)), none⟩,
 ⟨(some 9), .p (.mv (.s 8)), none⟩,
 ⟨(some 10), .p (.mv (.s 0)), (some (9, true))⟩,
 ⟨(some 11), .p (.bin .lss (.s 10) (.c (.int .i32 48))), (some (9, true))⟩,
 ⟨(some 12), .p (.mv (.s 11)), (some (9, true))⟩,
 ⟨(some 13), .p (.mv (.s 0)), (some (12, false))⟩,
 ⟨(some 14), .p (.bin .gtr (.s 13) (.c (.int .i32 57))), (some (12, false))⟩,
 ⟨(some 15), .p (.pick (.s 12) (.c (.bool true)) (.s 14)), (some (9, true))⟩,
 ⟨(some 16), .p (.pick (.s 9) (.s 15) (.c (.bool false))), none⟩,
 ⟨(some 2), .p (.mv (.s 16)), none⟩] [2])
 .ret))⟩

def F.strings_IndexFunc : LFunc := ⟨8, [.t 4], 
 (.seq (.reg [⟨(some 4), .p (.mv (.c (.int .i64 0))), none⟩] [0, 1])
 (.seq (.reg [⟨(some 5), .p (.mv (.s 0)), none⟩,
 ⟨(some 6), .p (.mv (.s 1)), none⟩,
 ⟨(some 7), .e (.call N.strings_indexFunc [(.s 5), (.s 6), (.c (.bool true))] true), none⟩,
 ⟨(some 4), .p (.mv (.s 7)), none⟩] [4])
 .ret))⟩

def F.cmp_Or_int : LFunc := ⟨18, [.t 2], 
 (.seq (.reg [⟨(some 2), .p (.mv (.c (.int .i64 0))), none⟩] [0])
 (.seq (.reg [⟨(some 3), .p (.mv (.c (.int .i64 0))), none⟩] [0, 3])
 (.seq (.seq (.reg [⟨(some 6), .p (.mv (.s 0)), none⟩,
 ⟨(some 7), .p (.lenl (.s 6)), none⟩,
 ⟨(some 8), .p (.mv (.c (.int .i64 0))), none⟩] [3, 6, 7, 8])
 (.block 0 (.loop (.seq (.reg [⟨(some 9), .p (.bin .lss (.s 8) (.s 7)), none⟩] [3, 6, 7, 8, 9])
 (.seq (.cond (.s 9) .skip (.exit 0))
 (.seq (.block 1 (.seq (.reg [⟨(some 10), .p (.iadr 1 (.s 6) (.s 8)), none⟩,
 ⟨(some 11), .p (.ld (.s 10)), none⟩,
 ⟨(some 5), .p (.mv (.s 11)), none⟩] [3, 5, 6, 7, 8])
 (.seq (.reg [⟨(some 12), .p (.mv (.s 5)), none⟩,
 ⟨(some 13), .p (.mv (.s 3)), none⟩,
 ⟨(some 14), .p (.bin .neq (.s 12) (.s 13)), none⟩] [3, 5, 6, 7, 8, 14])
 (.cond (.s 14) (.seq (.reg [⟨(some 15), .p (.mv (.s 5)), none⟩,
 ⟨(some 2), .p (.mv (.s 15)), none⟩] [2])
 .ret) .skip))))
 (.reg [⟨(some 16), .p (.bin .add (.s 8) (.c (.int .i64 1))), none⟩,
 ⟨(some 8), .p (.mv (.s 16)), none⟩] [3, 6, 7, 8])))) [3, 6, 7, 8])))
 (.seq (.reg [⟨(some 17), .p (.mv (.s 3)), none⟩,
 ⟨(some 2), .p (.mv (.s 17)), none⟩] [2])
 .ret))))⟩

def F.strings_Compare : LFunc := ⟨8, [.t 4], 
 (.seq (.reg [⟨(some 4), .p (.mv (.c (.int .i64 0))), none⟩] [0, 1])
 (.seq (.reg [⟨(some 5), .p (.mv (.s 0)), none⟩,
 ⟨(some 6), .p (.mv (.s 1)), none⟩,
 ⟨(some 7), .e (.call N.internal_bytealg_CompareString [(.s 5), (.s 6)] true), none⟩,
 ⟨(some 4), .p (.mv (.s 7)), none⟩] [4])
 .ret))⟩

def F.cmp_Compare_int : LFunc := ⟨20, [.t 4], 
 (.seq (.reg [⟨(some 4), .p (.mv (.c (.int .i64 0))), none⟩] [0, 1])
 (.seq (.reg [⟨(some 7), .p (.mv (.s 0)), none⟩,
 ⟨(some 8), .e (.call N.cmp_isNaN_int [(.s 7)] true), none⟩,
 ⟨(some 5), .p (.mv (.s 8)), none⟩] [0, 1, 5])
 (.seq (.reg [⟨(some 9), .p (.mv (.s 1)), none⟩,
 ⟨(some 10), .e (.call N.cmp_isNaN_int [(.s 9)] true), none⟩,
 ⟨(some 6), .p (.mv (.s 10)), none⟩] [0, 1, 5, 6])
 (.seq (.seq (.reg [⟨(some 11), .p (.mv (.s 5)), none⟩] [0, 1, 6, 11])
 (.cond (.s 11) (.seq (.seq (.reg [⟨(some 12), .p (.mv (.s 6)), none⟩] [12])
 (.cond (.s 12) (.seq (.reg [⟨(some 4), .p (.mv (.c (.int .i64 0))), none⟩] [4])
 .ret) .skip))
 (.seq (.reg [⟨(some 4), .p (.mv (.c (.int .i64 (-1)))), none⟩] [4])
 .ret)) .skip))
 (.seq (.seq (.reg [⟨(some 13), .p (.mv (.s 6)), none⟩] [0, 1, 13])
 (.cond (.s 13) (.seq (.reg [⟨(some 4), .p (.mv (.c (.int .i64 1))), none⟩] [4])
 .ret) .skip))
 (.seq (.seq (.reg [⟨(some 14), .p (.mv (.s 0)), none⟩,
 ⟨(some 15), .p (.mv (.s 1)), none⟩,
 ⟨(some 16), .p (.bin .lss (.s 14) (.s 15)), none⟩] [0, 1, 16])
 (.cond (.s 16) (.seq (.reg [⟨(some 4), .p (.mv (.c (.int .i64 (-1)))), none⟩] [4])
 .ret) .skip))
 (.seq (.seq (.reg [⟨(some 17), .p (.mv (.s 0)), none⟩,
 ⟨(some 18), .p (.mv (.s 1)), none⟩,
 ⟨(some 19), .p (.bin .gtr (.s 17) (.s 18)), none⟩] [19])
 (.cond (.s 19) (.seq (.reg [⟨(some 4), .p (.mv (.c (.int .i64 1))), none⟩] [4])
 .ret) .skip))
 (.seq (.reg [⟨(some 4), .p (.mv (.c (.int .i64 0))), none⟩] [4])
 .ret))))))))⟩

def F.codec_whole : LFunc := ⟨6, [.t 2], 
 (.seq (.reg [⟨(some 1), .e (.box 8 (.s 0)), none⟩,
 ⟨(some 2), .p (.mv (.c (.int .i64 0))), none⟩] [1])
 (.seq (.seq (.reg [⟨(some 3), .p (.foff 4 (.s 1)), none⟩,
 ⟨(some 4), .p (.ld (.s 3)), none⟩,
 ⟨(some 5), .p (.bin .eql (.s 4) (.c (.int .i64 4))), none⟩] [5])
 (.cond (.s 5) (.seq (.reg [⟨(some 2), .p (.mv (.c (.int .i64 0))), none⟩] [2])
 .ret) .skip))
 (.seq (.reg [⟨(some 2), .p (.mv (.c (.int .i64 1))), none⟩] [2])
 .ret)))⟩

def F.cmp_isNaN_string : LFunc := ⟨6, [.t 2], 
 (.seq (.reg [⟨(some 2), .p (.mv (.c (.bool false))), none⟩] [0])
 (.seq (.reg [⟨(some 3), .p (.mv (.s 0)), none⟩,
 ⟨(some 4), .p (.mv (.s 0)), none⟩,
 ⟨(some 5), .p (.bin .neq (.s 3) (.s 4)), none⟩,
 ⟨(some 2), .p (.mv (.s 5)), none⟩] [2])
 .ret))⟩

def F.slices_Clone_api_Column_api_Column_ : LFunc := ⟨8, [.t 2], 
 (.seq (.reg [⟨(some 2), .p (.mv (.c (.psl []))), none⟩] [0])
 (.seq (.seq (.reg [⟨(some 3), .p (.mv (.s 0)), none⟩,
 ⟨(some 4), .e (.isnil false (.s 3)), none⟩] [0, 4])
 (.cond (.s 4) (.seq (.reg [⟨(some 2), .p (.mv (.c (.psl []))), none⟩] [2])
 .ret) .skip))
 (.seq (.reg [⟨(some 5), .e (.bsl 3 0 [.str [], .int .i64 0, .int .i64 0] []), none⟩,
 ⟨(some 6), .p (.mv (.s 0)), none⟩,
 ⟨(some 7), .e (.app 3 32 (.s 5) (.s 6)), none⟩,
 ⟨(some 2), .p (.mv (.s 7)), none⟩] [2])
 .ret)))⟩

def F.strings_indexFunc : LFunc := ⟨21, [.t 6], 
 (.seq (.reg [⟨(some 6), .p (.mv (.c (.int .i64 0))), none⟩] [0, 1, 2])
 (.seq (.seq (.reg [⟨(some 9), .p (.mv (.s 0)), none⟩,
 ⟨(some 10), .e (.rstr (.s 9)), none⟩] [1, 2, 10])
 (.block 0 (.loop (.seq (.reg [⟨(some 11), .e (.nstr (.s 10)), none⟩,
 ⟨(some 12), .p (.ext (.s 11) 0), none⟩] [1, 2, 10, 11, 12])
 (.seq (.cond (.s 12) .skip (.exit 0))
 (.block 1 (.seq (.reg [⟨(some 13), .p (.ext (.s 11) 1), none⟩,
 ⟨(some 14), .p (.ext (.s 11) 2), none⟩,
 ⟨(some 7), .p (.mv (.s 13)), none⟩,
 ⟨(some 8), .p (.mv (.s 14)), none⟩] [1, 2, 7, 8, 10])
 (.seq (.reg [⟨(some 15), .p (.mv (.s 1)), none⟩,
 ⟨(some 16), .p (.mv (.s 8)), none⟩,
 ⟨(some 17), .e (.callv (.s 15) [(.s 16)] true), none⟩,
 ⟨(some 18), .p (.mv (.s 2)), none⟩,
 ⟨(some 19), .p (.eqk false .bool (.s 17) (.s 18)), none⟩] [1, 2, 7, 10, 19])
 (.cond (.s 19) (.seq (.reg [⟨(some 20), .p (.mv (.s 7)), none⟩,
 ⟨(some 6), .p (.mv (.s 20)), none⟩] [6])
 .ret) .skip)))))) [1, 2, 10])))
 (.seq (.reg [⟨(some 6), .p (.mv (.c (.int .i64 (-1)))), none⟩] [6])
 .ret)))⟩

def F.cmp_isNaN_int : LFunc := ⟨6, [.t 2], 
 (.seq (.reg [⟨(some 2), .p (.mv (.c (.bool false))), none⟩] [0])
 (.seq (.reg [⟨(some 3), .p (.mv (.s 0)), none⟩,
 ⟨(some 4), .p (.mv (.s 0)), none⟩,
 ⟨(some 5), .p (.bin .neq (.s 3) (.s 4)), none⟩,
 ⟨(some 2), .p (.mv (.s 5)), none⟩] [2])
 .ret))⟩

end Go.Ab.S2
