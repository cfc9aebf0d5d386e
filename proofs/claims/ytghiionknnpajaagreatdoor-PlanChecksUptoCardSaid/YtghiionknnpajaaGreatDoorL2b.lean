import Derived.Test.YtghiionknnpajaaGreatDoorL2
set_option linter.unusedVariables false
set_option linter.unusedSimpArgs false
namespace Go.Ab.S2
open Go.Ab

def F.schema_Gone_1 : LFunc := ⟨5, [.t 2], 
 (.seq (.reg [⟨(some 2), .p (.mv (.c (.bool false))), none⟩] [0])
 (.seq (.reg [⟨(some 3), .p (.mv (.s 0)), none⟩,
 ⟨(some 4), .p (.bin .neq (.s 3) (.c (.int .i64 0))), none⟩,
 ⟨(some 2), .p (.mv (.s 4)), none⟩] [2])
 .ret))⟩

def F.plan_maker_add : LFunc := ⟨28, [], 
 (.seq (.reg [⟨(some 3), .e (.box 8 (.s 1)), none⟩] [0, 3])
 (.seq (.reg [⟨(some 4), .p (.mv (.s 0)), none⟩,
 ⟨(some 5), .p (.nilc (.s 4)), none⟩,
 ⟨(some 6), .p (.foff 10 (.s 5)), none⟩,
 ⟨(some 7), .p (.ld (.s 6)), none⟩,
 ⟨(some 8), .p (.foff 0 (.s 3)), none⟩,
 ⟨none, .e (.st (.s 8) (.s 7)), none⟩] [0, 3])
 (.seq (.reg [⟨(some 9), .p (.mv (.s 0)), none⟩,
 ⟨(some 10), .p (.mv (.s 0)), none⟩,
 ⟨(some 11), .p (.nilc (.s 10)), none⟩,
 ⟨(some 12), .p (.foff 12 (.s 11)), none⟩,
 ⟨(some 13), .p (.ld (.s 12)), none⟩,
 ⟨(some 14), .p (.mkfn N.plan_maker_add_1 [] [(.s 3)]), none⟩,
 ⟨(some 15), .e (.call N.slices_DeleteFunc_api_Cell_api_Cell_ [(.s 13), (.s 14)] false), none⟩,
 ⟨(some 16), .p (.nilc (.s 9)), none⟩,
 ⟨(some 17), .p (.foff 12 (.s 16)), none⟩,
 ⟨none, .e (.st (.s 17) (.s 15)), none⟩] [0, 3])
 (.regD [⟨(some 18), .p (.mv (.s 0)), none⟩,
 ⟨(some 19), .p (.mv (.s 0)), none⟩,
 ⟨(some 20), .p (.nilc (.s 19)), none⟩,
 ⟨(some 21), .p (.foff 12 (.s 20)), none⟩,
 ⟨(some 22), .p (.ld (.s 21)), none⟩,
 ⟨(some 23), .p (.ldn 8 (.s 3)), none⟩,
 ⟨none, .b 8 1 [.str [], .str [], .str [], .int .i64 0, .int .i64 0, .int .i64 0, .int .i64 0, .str []] [(0, 8, (.s 23))], none⟩,
 ⟨(some 24), .e (.bsl 8 1 [.str [], .str [], .str [], .int .i64 0, .int .i64 0, .int .i64 0, .int .i64 0, .str []] [(0, 8, (.s 23))]), none⟩,
 ⟨(some 22), .s (.ld (.s 21)), none⟩,
 ⟨(some 25), .e (.app 8 96 (.s 22) (.s 24)), none⟩,
 ⟨(some 26), .p (.nilc (.s 18)), none⟩,
 ⟨(some 27), .p (.foff 12 (.s 26)), none⟩,
 ⟨none, .e (.st (.s 27) (.s 25)), none⟩] [0, 1, 2, 3, 4, 5, 6, 7, 8, 9, 10] []))))⟩

def F.joistref02_Utf8 : LFunc := ⟨96, [.t 2], 
 (.seq (.reg [⟨(some 2), .p (.mv (.c (.bool false))), none⟩] [0])
 (.seq (.seq (.reg [⟨(some 3), .p (.mv (.c (.int .i64 0))), none⟩] [0, 3])
 (.block 0 (.loop (.seq (.seq (.reg [⟨(some 9), .p (.mv (.s 3)), none⟩,
 ⟨(some 10), .p (.mv (.s 0)), none⟩,
 ⟨(some 11), .p (.lens (.s 10)), none⟩,
 ⟨(some 12), .p (.bin .lss (.s 9) (.s 11)), none⟩] [0, 3, 12])
 (.cond (.s 12) .skip (.exit 0)))
 (.block 1 (.seq (.reg [⟨(some 13), .p (.mv (.s 0)), none⟩,
 ⟨(some 14), .p (.mv (.s 3)), none⟩,
 ⟨(some 15), .p (.idxs (.s 13) (.s 14)), none⟩,
 ⟨(some 16), .p (.cvt .i64 (.s 15)), none⟩,
 ⟨(some 4), .p (.mv (.s 16)), none⟩] [0, 3, 4])
 (.seq (.reg [⟨(some 5), .p (.mv (.c (.int .i64 0))), none⟩] [0, 3, 4])
 (.seq (.reg [⟨(some 6), .p (.mv (.c (.int .i64 0))), none⟩] [0, 3, 4])
 (.seq (.block 2 (.seq (.reg [⟨(some 18), .p (.mv (.s 4)), none⟩,
 ⟨(some 19), .p (.bin .lss (.s 18) (.c (.int .i64 128))), none⟩,
 ⟨(some 17), .p (.mv (.s 19)), none⟩] [0, 3, 4, 17])
 (.cond (.s 17) (.seq (.reg [⟨(some 20), .p (.mv (.s 3)), none⟩,
 ⟨(some 21), .p (.bin .add (.s 20) (.c (.int .i64 1))), none⟩,
 ⟨(some 3), .p (.mv (.s 21)), none⟩] [0, 3])
 (.exit 1)) (.seq (.reg [⟨(some 23), .p (.mv (.s 4)), none⟩,
 ⟨(some 24), .p (.bin .geq (.s 23) (.c (.int .i64 194))), none⟩,
 ⟨(some 25), .p (.mv (.s 24)), none⟩,
 ⟨(some 26), .p (.mv (.s 4)), (some (25, true))⟩,
 ⟨(some 27), .p (.bin .leq (.s 26) (.c (.int .i64 223))), (some (25, true))⟩,
 ⟨(some 28), .p (.pick (.s 25) (.s 27) (.c (.bool false))), none⟩,
 ⟨(some 22), .p (.mv (.s 28)), none⟩] [0, 3, 4, 22])
 (.cond (.s 22) (.seq (.reg [⟨(some 5), .p (.mv (.c (.int .i64 1))), none⟩] [0, 3, 4, 5])
 (.seq (.reg [⟨(some 29), .p (.mv (.s 4)), none⟩,
 ⟨(some 30), .p (.bin .sub (.s 29) (.c (.int .i64 192))), none⟩,
 ⟨(some 4), .p (.mv (.s 30)), none⟩] [0, 3, 4, 5])
 (.reg [⟨(some 6), .p (.mv (.c (.int .i64 128))), none⟩] [0, 3, 4, 5, 6]))) (.seq (.reg [⟨(some 32), .p (.mv (.s 4)), none⟩,
 ⟨(some 33), .p (.bin .geq (.s 32) (.c (.int .i64 224))), none⟩,
 ⟨(some 34), .p (.mv (.s 33)), none⟩,
 ⟨(some 35), .p (.mv (.s 4)), (some (34, true))⟩,
 ⟨(some 36), .p (.bin .leq (.s 35) (.c (.int .i64 239))), (some (34, true))⟩,
 ⟨(some 37), .p (.pick (.s 34) (.s 36) (.c (.bool false))), none⟩,
 ⟨(some 31), .p (.mv (.s 37)), none⟩] [0, 3, 4, 31])
 (.cond (.s 31) (.seq (.reg [⟨(some 5), .p (.mv (.c (.int .i64 2))), none⟩] [0, 3, 4, 5])
 (.seq (.reg [⟨(some 38), .p (.mv (.s 4)), none⟩,
 ⟨(some 39), .p (.bin .sub (.s 38) (.c (.int .i64 224))), none⟩,
 ⟨(some 4), .p (.mv (.s 39)), none⟩] [0, 3, 4, 5])
 (.reg [⟨(some 6), .p (.mv (.c (.int .i64 2048))), none⟩] [0, 3, 4, 5, 6]))) (.seq (.reg [⟨(some 41), .p (.mv (.s 4)), none⟩,
 ⟨(some 42), .p (.bin .geq (.s 41) (.c (.int .i64 240))), none⟩,
 ⟨(some 43), .p (.mv (.s 42)), none⟩,
 ⟨(some 44), .p (.mv (.s 4)), (some (43, true))⟩,
 ⟨(some 45), .p (.bin .leq (.s 44) (.c (.int .i64 244))), (some (43, true))⟩,
 ⟨(some 46), .p (.pick (.s 43) (.s 45) (.c (.bool false))), none⟩,
 ⟨(some 40), .p (.mv (.s 46)), none⟩] [0, 3, 4, 40])
 (.cond (.s 40) (.seq (.reg [⟨(some 5), .p (.mv (.c (.int .i64 3))), none⟩] [0, 3, 4, 5])
 (.seq (.reg [⟨(some 47), .p (.mv (.s 4)), none⟩,
 ⟨(some 48), .p (.bin .sub (.s 47) (.c (.int .i64 240))), none⟩,
 ⟨(some 4), .p (.mv (.s 48)), none⟩] [0, 3, 4, 5])
 (.reg [⟨(some 6), .p (.mv (.c (.int .i64 65536))), none⟩] [0, 3, 4, 5, 6]))) (.seq (.reg [⟨(some 2), .p (.mv (.c (.bool false))), none⟩] [2])
 .ret))))))))))
 (.seq (.seq (.reg [⟨(some 49), .p (.mv (.s 3)), none⟩,
 ⟨(some 50), .p (.mv (.s 5)), none⟩,
 ⟨(some 51), .p (.bin .add (.s 49) (.s 50)), none⟩,
 ⟨(some 52), .p (.mv (.s 0)), none⟩,
 ⟨(some 53), .p (.lens (.s 52)), none⟩,
 ⟨(some 54), .p (.bin .geq (.s 51) (.s 53)), none⟩] [0, 3, 4, 5, 6, 54])
 (.cond (.s 54) (.seq (.reg [⟨(some 2), .p (.mv (.c (.bool false))), none⟩] [2])
 .ret) .skip))
 (.seq (.seq (.reg [⟨(some 7), .p (.mv (.c (.int .i64 1))), none⟩] [0, 3, 4, 5, 6, 7])
 (.block 3 (.loop (.seq (.seq (.reg [⟨(some 55), .p (.mv (.s 7)), none⟩,
 ⟨(some 56), .p (.mv (.s 5)), none⟩,
 ⟨(some 57), .p (.bin .leq (.s 55) (.s 56)), none⟩] [0, 3, 4, 5, 6, 7, 57])
 (.cond (.s 57) .skip (.exit 3)))
 (.seq (.block 4 (.seq (.reg [⟨(some 60), .p (.mv (.s 0)), none⟩,
 ⟨(some 61), .p (.mv (.s 3)), none⟩,
 ⟨(some 62), .p (.mv (.s 7)), none⟩,
 ⟨(some 63), .p (.bin .add (.s 61) (.s 62)), none⟩,
 ⟨(some 64), .p (.idxs (.s 60) (.s 63)), none⟩,
 ⟨(some 65), .p (.cvt .i64 (.s 64)), none⟩,
 ⟨(some 8), .p (.mv (.s 65)), none⟩] [0, 3, 4, 5, 6, 7, 8])
 (.seq (.seq (.reg [⟨(some 66), .p (.mv (.s 8)), none⟩,
 ⟨(some 67), .p (.bin .lss (.s 66) (.c (.int .i64 128))), none⟩,
 ⟨(some 68), .p (.mv (.s 67)), none⟩,
 ⟨(some 69), .p (.mv (.s 8)), (some (68, false))⟩,
 ⟨(some 70), .p (.bin .gtr (.s 69) (.c (.int .i64 191))), (some (68, false))⟩,
 ⟨(some 71), .p (.pick (.s 68) (.c (.bool true)) (.s 70)), none⟩] [0, 3, 4, 5, 6, 7, 8, 71])
 (.cond (.s 71) (.seq (.reg [⟨(some 2), .p (.mv (.c (.bool false))), none⟩] [2])
 .ret) .skip))
 (.reg [⟨(some 72), .p (.mv (.s 4)), none⟩,
 ⟨(some 73), .p (.bin .mul (.s 72) (.c (.int .i64 64))), none⟩,
 ⟨(some 74), .p (.mv (.s 8)), none⟩,
 ⟨(some 75), .p (.bin .add (.s 73) (.s 74)), none⟩,
 ⟨(some 76), .p (.bin .sub (.s 75) (.c (.int .i64 128))), none⟩,
 ⟨(some 4), .p (.mv (.s 76)), none⟩] [0, 3, 4, 5, 6, 7]))))
 (.reg [⟨(some 58), .p (.mv (.s 7)), none⟩,
 ⟨(some 59), .p (.bin .add (.s 58) (.c (.int .i64 1))), none⟩,
 ⟨(some 7), .p (.mv (.s 59)), none⟩] [0, 3, 4, 5, 6, 7]))) [0, 3, 4, 5, 6, 7])))
 (.seq (.seq (.reg [⟨(some 77), .p (.mv (.s 4)), none⟩,
 ⟨(some 78), .p (.mv (.s 6)), none⟩,
 ⟨(some 79), .p (.bin .lss (.s 77) (.s 78)), none⟩,
 ⟨(some 80), .p (.mv (.s 79)), none⟩,
 ⟨(some 81), .p (.mv (.s 4)), (some (80, false))⟩,
 ⟨(some 82), .p (.bin .gtr (.s 81) (.c (.int .i64 1114111))), (some (80, false))⟩,
 ⟨(some 83), .p (.pick (.s 80) (.c (.bool true)) (.s 82)), none⟩,
 ⟨(some 84), .p (.mv (.s 83)), none⟩,
 ⟨(some 85), .p (.mv (.s 4)), (some (84, false))⟩,
 ⟨(some 86), .p (.bin .geq (.s 85) (.c (.int .i64 55296))), (some (84, false))⟩,
 ⟨(some 87), .p (.mv (.s 86)), (some (84, false))⟩,
 ⟨(some 88), .p (.mv (.s 4)), (some (87, true))⟩,
 ⟨(some 89), .p (.bin .leq (.s 88) (.c (.int .i64 57343))), (some (87, true))⟩,
 ⟨(some 90), .p (.pick (.s 87) (.s 89) (.c (.bool false))), (some (84, false))⟩,
 ⟨(some 91), .p (.pick (.s 84) (.c (.bool true)) (.s 90)), none⟩] [0, 3, 5, 91])
 (.cond (.s 91) (.seq (.reg [⟨(some 2), .p (.mv (.c (.bool false))), none⟩] [2])
 .ret) .skip))
 (.reg [⟨(some 92), .p (.mv (.s 3)), none⟩,
 ⟨(some 93), .p (.mv (.s 5)), none⟩,
 ⟨(some 94), .p (.bin .add (.s 93) (.c (.int .i64 1))), none⟩,
 ⟨(some 95), .p (.bin .add (.s 92) (.s 94)), none⟩,
 ⟨(some 3), .p (.mv (.s 95)), none⟩] [0, 3])))))))))) [0, 3])))
 (.seq (.reg [⟨(some 2), .p (.mv (.c (.bool true))), none⟩] [2])
 .ret)))⟩

def F.joistref01_Right : LFunc := ⟨10, [.t 2], 
 (.seq (.reg [⟨(some 2), .p (.mv (.c (.bool false))), none⟩] [0])
 (.seq (.reg [⟨(some 3), .p (.mv (.s 0)), none⟩,
 ⟨(some 4), .e (.call N.joistref01_size [(.s 3)] true), none⟩,
 ⟨(some 5), .p (.bin .leq (.s 4) (.c (.int .i64 9218868437227405312))), none⟩,
 ⟨(some 6), .p (.mv (.s 5)), none⟩,
 ⟨(some 7), .p (.mv (.s 0)), (some (6, false))⟩,
 ⟨(some 8), .p (.bin .eql (.s 7) (.c (.int .i64 9221120237041090560))), (some (6, false))⟩,
 ⟨(some 9), .p (.pick (.s 6) (.c (.bool true)) (.s 8)), none⟩,
 ⟨(some 2), .p (.mv (.s 9)), none⟩] [2])
 .ret))⟩

def F.slices_IndexFunc_api_Layout_api_Layout_ : LFunc := ⟨19, [.t 4], 
 (.seq (.reg [⟨(some 4), .p (.mv (.c (.int .i64 0))), none⟩] [0, 1])
 (.seq (.seq (.reg [⟨(some 6), .p (.mv (.s 0)), none⟩,
 ⟨(some 7), .p (.lenl (.s 6)), none⟩,
 ⟨(some 8), .p (.mv (.c (.int .i64 0))), none⟩] [0, 1, 7, 8])
 (.block 0 (.loop (.seq (.reg [⟨(some 9), .p (.bin .lss (.s 8) (.s 7)), none⟩] [0, 1, 7, 8, 9])
 (.seq (.cond (.s 9) .skip (.exit 0))
 (.seq (.block 1 (.seq (.reg [⟨(some 10), .p (.mv (.s 8)), none⟩,
 ⟨(some 5), .p (.mv (.s 10)), none⟩] [0, 1, 5, 7, 8])
 (.seq (.reg [⟨(some 11), .p (.mv (.s 1)), none⟩,
 ⟨(some 12), .p (.mv (.s 0)), none⟩,
 ⟨(some 13), .p (.mv (.s 5)), none⟩,
 ⟨(some 14), .p (.iadr 2 (.s 12) (.s 13)), none⟩,
 ⟨(some 15), .p (.ldn 2 (.s 14)), none⟩,
 ⟨(some 16), .e (.callv (.s 11) [(.s 15)] true), none⟩] [0, 1, 5, 7, 8, 16])
 (.cond (.s 16) (.seq (.reg [⟨(some 17), .p (.mv (.s 5)), none⟩,
 ⟨(some 4), .p (.mv (.s 17)), none⟩] [4])
 .ret) .skip))))
 (.reg [⟨(some 18), .p (.bin .add (.s 8) (.c (.int .i64 1))), none⟩,
 ⟨(some 8), .p (.mv (.s 18)), none⟩] [0, 1, 7, 8])))) [0, 1, 7, 8])))
 (.seq (.reg [⟨(some 4), .p (.mv (.c (.int .i64 (-1)))), none⟩] [4])
 .ret)))⟩

def F.schema_Read_1 : LFunc := ⟨6, [.t 2], 
 (.seq (.reg [⟨(some 1), .e (.box 2 (.s 0)), none⟩,
 ⟨(some 2), .p (.mv (.c (.bool false))), none⟩] [1])
 (.seq (.reg [⟨(some 3), .p (.foff 1 (.s 1)), none⟩,
 ⟨(some 4), .p (.ld (.s 3)), none⟩,
 ⟨(some 5), .p (.bin .eql (.s 4) (.c (.int .i64 3))), none⟩,
 ⟨(some 2), .p (.mv (.s 5)), none⟩] [2])
 .ret))⟩

def F.slices_Index_string_string_ : LFunc := ⟨19, [.t 4], 
 (.seq (.reg [⟨(some 4), .p (.mv (.c (.int .i64 0))), none⟩] [0, 1])
 (.seq (.seq (.reg [⟨(some 6), .p (.mv (.s 0)), none⟩,
 ⟨(some 7), .p (.lenl (.s 6)), none⟩,
 ⟨(some 8), .p (.mv (.c (.int .i64 0))), none⟩] [0, 1, 7, 8])
 (.block 0 (.loop (.seq (.reg [⟨(some 9), .p (.bin .lss (.s 8) (.s 7)), none⟩] [0, 1, 7, 8, 9])
 (.seq (.cond (.s 9) .skip (.exit 0))
 (.seq (.block 1 (.seq (.reg [⟨(some 10), .p (.mv (.s 8)), none⟩,
 ⟨(some 5), .p (.mv (.s 10)), none⟩] [0, 1, 5, 7, 8])
 (.seq (.reg [⟨(some 11), .p (.mv (.s 1)), none⟩,
 ⟨(some 12), .p (.mv (.s 0)), none⟩,
 ⟨(some 13), .p (.mv (.s 5)), none⟩,
 ⟨(some 14), .p (.iadr 1 (.s 12) (.s 13)), none⟩,
 ⟨(some 15), .p (.ld (.s 14)), none⟩,
 ⟨(some 16), .p (.bin .eql (.s 11) (.s 15)), none⟩] [0, 1, 5, 7, 8, 16])
 (.cond (.s 16) (.seq (.reg [⟨(some 17), .p (.mv (.s 5)), none⟩,
 ⟨(some 4), .p (.mv (.s 17)), none⟩] [4])
 .ret) .skip))))
 (.reg [⟨(some 18), .p (.bin .add (.s 8) (.c (.int .i64 1))), none⟩,
 ⟨(some 8), .p (.mv (.s 18)), none⟩] [0, 1, 7, 8])))) [0, 1, 7, 8])))
 (.seq (.reg [⟨(some 4), .p (.mv (.c (.int .i64 (-1)))), none⟩] [4])
 .ret)))⟩

def F.slices_Sort_string_string_ : LFunc := ⟨11, [], 
 (.seq (.reg [⟨(some 3), .p (.mv (.s 0)), none⟩,
 ⟨(some 4), .p (.lenl (.s 3)), none⟩,
 ⟨(some 2), .p (.mv (.s 4)), none⟩] [0, 2])
 (.reg [⟨(some 5), .p (.mv (.s 0)), none⟩,
 ⟨(some 6), .p (.mv (.s 2)), none⟩,
 ⟨(some 7), .p (.mv (.s 2)), none⟩,
 ⟨(some 8), .p (.cvt .u64 (.s 7)), none⟩,
 ⟨(some 9), .e (.call N.math_bits_Len [(.s 8)] false), none⟩,
 ⟨(some 10), .e (.call N.slices_pdqsortOrdered_string [(.s 5), (.c (.int .i64 0)), (.s 6), (.s 9)] false), none⟩] []))⟩

def F.slices_Clone_string_string_ : LFunc := ⟨8, [.t 2], 
 (.seq (.reg [⟨(some 2), .p (.mv (.c (.psl []))), none⟩] [0])
 (.seq (.seq (.reg [⟨(some 3), .p (.mv (.s 0)), none⟩,
 ⟨(some 4), .e (.isnil false (.s 3)), none⟩] [0, 4])
 (.cond (.s 4) (.seq (.reg [⟨(some 2), .p (.mv (.c (.psl []))), none⟩] [2])
 .ret) .skip))
 (.seq (.reg [⟨(some 5), .e (.bsl 1 0 [.str []] []), none⟩,
 ⟨(some 6), .p (.mv (.s 0)), none⟩,
 ⟨(some 7), .e (.app 1 16 (.s 5) (.s 6)), none⟩,
 ⟨(some 2), .p (.mv (.s 7)), none⟩] [2])
 .ret)))⟩

def F.schema_Right_1 : LFunc := ⟨6, [.t 2], 
 (.seq (.reg [⟨(some 1), .e (.box 5 (.s 0)), none⟩,
 ⟨(some 2), .p (.mv (.c (.bool false))), none⟩] [1])
 (.seq (.reg [⟨(some 3), .p (.ldn 5 (.s 1)), none⟩,
 ⟨(some 4), .e (.call N.schema_family [(.s 3)] true), none⟩,
 ⟨(some 5), .p (.un .not (.s 4)), none⟩,
 ⟨(some 2), .p (.mv (.s 5)), none⟩] [2])
 .ret))⟩

def F.schema_family : LFunc := ⟨26, [.t 2], 
 (.seq (.reg [⟨(some 1), .e (.box 5 (.s 0)), none⟩,
 ⟨(some 2), .p (.mv (.c (.bool false))), none⟩] [1])
 (.seq (.reg [⟨(some 3), .p (.foff 0 (.s 1)), none⟩,
 ⟨(some 4), .p (.ld (.s 3)), none⟩,
 ⟨(some 5), .e (.call N.schema_name [(.s 4)] true), none⟩,
 ⟨(some 6), .p (.mv (.s 5)), none⟩,
 ⟨(some 7), .p (.foff 1 (.s 1)), (some (6, true))⟩,
 ⟨(some 8), .p (.ld (.s 7)), (some (6, true))⟩,
 ⟨(some 9), .e (.call N.schema_within [(.s 8), (.c (.int .i64 1)), (.c (.int .i64 8))] true), (some (6, true))⟩,
 ⟨(some 10), .p (.pick (.s 6) (.s 9) (.c (.bool false))), none⟩,
 ⟨(some 11), .p (.mv (.s 10)), none⟩,
 ⟨(some 12), .p (.foff 2 (.s 1)), (some (11, true))⟩,
 ⟨(some 13), .p (.ld (.s 12)), (some (11, true))⟩,
 ⟨(some 14), .e (.call N.schema_within [(.s 13), (.c (.int .i64 0)), (.c (.int .i64 1099511627776))] true), (some (11, true))⟩,
 ⟨(some 15), .p (.pick (.s 11) (.s 14) (.c (.bool false))), none⟩,
 ⟨(some 16), .p (.mv (.s 15)), none⟩,
 ⟨(some 17), .p (.foff 3 (.s 1)), (some (16, true))⟩,
 ⟨(some 18), .p (.ld (.s 17)), (some (16, true))⟩,
 ⟨(some 19), .e (.call N.schema_layouts [(.s 18)] true), (some (16, true))⟩,
 ⟨(some 20), .p (.pick (.s 16) (.s 19) (.c (.bool false))), none⟩,
 ⟨(some 21), .p (.mv (.s 20)), none⟩,
 ⟨(some 22), .p (.foff 4 (.s 1)), (some (21, true))⟩,
 ⟨(some 23), .p (.ld (.s 22)), (some (21, true))⟩,
 ⟨(some 24), .e (.call N.schema_cols [(.s 23)] true), (some (21, true))⟩,
 ⟨(some 25), .p (.pick (.s 21) (.s 24) (.c (.bool false))), none⟩,
 ⟨(some 2), .p (.mv (.s 25)), none⟩] [2])
 .ret))⟩

def F.schema_within : LFunc := ⟨15, [.t 6], 
 (.seq (.reg [⟨(some 6), .p (.mv (.c (.bool false))), none⟩] [0, 1, 2])
 (.seq (.reg [⟨(some 7), .p (.mv (.s 0)), none⟩,
 ⟨(some 8), .p (.mv (.s 1)), none⟩,
 ⟨(some 9), .p (.bin .geq (.s 7) (.s 8)), none⟩,
 ⟨(some 10), .p (.mv (.s 9)), none⟩,
 ⟨(some 11), .p (.mv (.s 0)), (some (10, true))⟩,
 ⟨(some 12), .p (.mv (.s 2)), (some (10, true))⟩,
 ⟨(some 13), .p (.bin .leq (.s 11) (.s 12)), (some (10, true))⟩,
 ⟨(some 14), .p (.pick (.s 10) (.s 13) (.c (.bool false))), none⟩,
 ⟨(some 6), .p (.mv (.s 14)), none⟩] [6])
 .ret))⟩

def F.slices_ContainsFunc_api_Family_api_Family_ : LFunc := ⟨9, [.t 4], 
 (.seq (.reg [⟨(some 4), .p (.mv (.c (.bool false))), none⟩] [0, 1])
 (.seq (.reg [⟨(some 5), .p (.mv (.s 0)), none⟩,
 ⟨(some 6), .p (.mv (.s 1)), none⟩,
 ⟨(some 7), .e (.call N.slices_IndexFunc_api_Family_api_Family_ [(.s 5), (.s 6)] true), none⟩,
 ⟨(some 8), .p (.bin .geq (.s 7) (.c (.int .i64 0))), none⟩,
 ⟨(some 4), .p (.mv (.s 8)), none⟩] [4])
 .ret))⟩

def F.schema_once_string : LFunc := ⟨27, [.t 4], 
 (.seq (.reg [⟨(some 4), .p (.mv (.c (.bool false))), none⟩] [0, 1])
 (.seq (.reg [⟨(some 8), .e (.mkmap), none⟩,
 ⟨(some 5), .p (.mv (.s 8)), none⟩] [0, 1, 5])
 (.seq (.seq (.reg [⟨(some 9), .p (.mv (.s 0)), none⟩,
 ⟨(some 10), .p (.lenl (.s 9)), none⟩,
 ⟨(some 11), .p (.mv (.c (.int .i64 0))), none⟩] [0, 1, 5, 9, 10, 11])
 (.block 0 (.loop (.seq (.reg [⟨(some 12), .p (.bin .lss (.s 11) (.s 10)), none⟩] [0, 1, 5, 9, 10, 11, 12])
 (.seq (.cond (.s 12) .skip (.exit 0))
 (.seq (.block 1 (.seq (.reg [⟨(some 13), .p (.iadr 5 (.s 9) (.s 11)), none⟩,
 ⟨(some 14), .p (.ldn 5 (.s 13)), none⟩,
 ⟨(some 7), .e (.alloc [.str [], .int .i64 0, .int .i64 0, .psl [], .psl []]), none⟩,
 ⟨none, .e (.stn 5 (.s 7) (.s 14)), none⟩] [0, 1, 5, 7, 9, 10, 11])
 (.reg [⟨(some 15), .p (.mv (.s 5)), none⟩,
 ⟨(some 16), .p (.mv (.s 1)), none⟩,
 ⟨(some 17), .p (.ldn 5 (.s 7)), none⟩,
 ⟨(some 18), .e (.callv (.s 16) [(.s 17)] true), none⟩,
 ⟨(some 19), .p (.look 1 false (.int .i64 0) (.s 15) (.s 18)), none⟩,
 ⟨(some 20), .p (.bin .add (.s 19) (.c (.int .i64 1))), none⟩,
 ⟨none, .e (.mapup 1 (.s 15) (.s 18) (.s 20)), none⟩] [0, 1, 5, 9, 10, 11])))
 (.reg [⟨(some 21), .p (.bin .add (.s 11) (.c (.int .i64 1))), none⟩,
 ⟨(some 11), .p (.mv (.s 21)), none⟩] [0, 1, 5, 9, 10, 11])))) [0, 1, 5, 9, 10, 11])))
 (.seq (.reg [⟨(some 22), .p (.mv (.s 5)), none⟩,
 ⟨(some 23), .p (.lenm (.s 22)), none⟩,
 ⟨(some 24), .p (.mv (.s 0)), none⟩,
 ⟨(some 25), .p (.lenl (.s 24)), none⟩,
 ⟨(some 26), .p (.bin .eql (.s 23) (.s 25)), none⟩,
 ⟨(some 4), .p (.mv (.s 26)), none⟩] [4])
 .ret))))⟩

def F.schema_Right_2 : LFunc := ⟨5, [.t 2], 
 (.seq (.reg [⟨(some 1), .e (.box 5 (.s 0)), none⟩,
 ⟨(some 2), .p (.mv (.c (.str []))), none⟩] [1])
 (.seq (.reg [⟨(some 3), .p (.foff 0 (.s 1)), none⟩,
 ⟨(some 4), .p (.ld (.s 3)), none⟩,
 ⟨(some 2), .p (.mv (.s 4)), none⟩] [2])
 .ret))⟩

def F.plan_view_family : LFunc := ⟨24, [.cn 4 5, .t 5], 
 (.seq (.reg [⟨(some 2), .e (.box 10 (.s 0)), none⟩,
 ⟨(some 4), .e (.alloc [.str [], .int .i64 0, .int .i64 0, .psl [], .psl []]), none⟩,
 ⟨(some 5), .p (.mv (.c (.bool false))), none⟩] [1, 2, 4])
 (.seq (.reg [⟨(some 11), .p (.foff 0 (.s 2)), none⟩,
 ⟨(some 12), .p (.ldn 10 (.s 11)), none⟩,
 ⟨(some 13), .p (.mv (.s 1)), none⟩,
 ⟨(some 14), .e (.call N.schema_Find [(.s 12), (.s 13)] true), none⟩,
 ⟨(some 10), .p (.mv (.s 14)), none⟩,
 ⟨(some 15), .p (.ext (.s 10) 0), none⟩,
 ⟨(some 16), .p (.ext (.s 10) 1), none⟩,
 ⟨(some 6), .e (.alloc [.str [], .int .i64 0, .int .i64 0, .psl [], .psl []]), none⟩,
 ⟨none, .e (.stn 5 (.s 6) (.s 15)), none⟩,
 ⟨(some 7), .p (.mv (.s 16)), none⟩] [4, 6])
 (.seq (.reg [⟨(some 18), .p (.ldn 5 (.s 6)), none⟩,
 ⟨(some 19), .e (.call N.schema_Read [(.s 18)] true), none⟩,
 ⟨(some 17), .p (.mv (.s 19)), none⟩,
 ⟨(some 20), .p (.ext (.s 17) 0), none⟩,
 ⟨(some 21), .p (.ext (.s 17) 1), none⟩,
 ⟨(some 8), .p (.mv (.s 20)), none⟩,
 ⟨(some 9), .p (.mv (.s 21)), none⟩] [4, 6, 9])
 (.seq (.reg [⟨(some 22), .p (.ldn 5 (.s 6)), none⟩,
 ⟨(some 23), .p (.mv (.s 9)), none⟩,
 ⟨none, .e (.stn 5 (.s 4) (.s 22)), none⟩,
 ⟨(some 5), .p (.mv (.s 23)), none⟩] [4, 5])
 .ret))))⟩

def F.schema_Column : LFunc := ⟨19, [.cn 4 3, .t 5], 
 (.seq (.reg [⟨(some 2), .e (.box 5 (.s 0)), none⟩,
 ⟨(some 3), .e (.box 1 (.s 1)), none⟩,
 ⟨(some 4), .e (.alloc [.str [], .int .i64 0, .int .i64 0]), none⟩,
 ⟨(some 5), .p (.mv (.c (.bool false))), none⟩] [2, 3, 4])
 (.seq (.reg [⟨(some 7), .p (.foff 4 (.s 2)), none⟩,
 ⟨(some 8), .p (.ld (.s 7)), none⟩,
 ⟨(some 9), .p (.mkfn N.schema_Column_1 [] [(.s 3)]), none⟩,
 ⟨(some 10), .e (.call N.slices_IndexFunc_api_Column_api_Column_ [(.s 8), (.s 9)] true), none⟩,
 ⟨(some 6), .p (.mv (.s 10)), none⟩] [2, 4, 6])
 (.seq (.seq (.reg [⟨(some 11), .p (.mv (.s 6)), none⟩,
 ⟨(some 12), .p (.bin .lss (.s 11) (.c (.int .i64 0))), none⟩] [2, 4, 6, 12])
 (.cond (.s 12) (.seq (.reg [⟨(some 13), .p (.build [.str [], .int .i64 0, .int .i64 0] []), none⟩,
 ⟨none, .e (.stn 3 (.s 4) (.s 13)), none⟩,
 ⟨(some 5), .p (.mv (.c (.bool false))), none⟩] [4, 5])
 .ret) .skip))
 (.seq (.reg [⟨(some 14), .p (.foff 4 (.s 2)), none⟩,
 ⟨(some 15), .p (.ld (.s 14)), none⟩,
 ⟨(some 16), .p (.mv (.s 6)), none⟩,
 ⟨(some 17), .p (.iadr 3 (.s 15) (.s 16)), none⟩,
 ⟨(some 18), .p (.ldn 3 (.s 17)), none⟩,
 ⟨none, .e (.stn 3 (.s 4) (.s 18)), none⟩,
 ⟨(some 5), .p (.mv (.c (.bool true))), none⟩] [4, 5])
 .ret))))⟩

def F.filter_Right : LFunc := ⟨42, [.t 2], 
 (.seq (.reg [⟨(some 1), .e (.box 7 (.s 0)), none⟩,
 ⟨(some 2), .p (.mv (.c (.bool false))), none⟩] [1])
 (.seq (.seq (.reg [⟨(some 3), .p (.foff 0 (.s 1)), none⟩,
 ⟨(some 4), .p (.ld (.s 3)), none⟩,
 ⟨(some 5), .p (.lenl (.s 4)), none⟩,
 ⟨(some 6), .p (.bin .gtr (.s 5) (.c (.int .i64 6))), none⟩,
 ⟨(some 7), .p (.mv (.s 6)), none⟩,
 ⟨(some 8), .p (.foff 0 (.s 1)), (some (7, false))⟩,
 ⟨(some 9), .p (.ld (.s 8)), (some (7, false))⟩,
 ⟨(some 10), .e (.call N.slices_ContainsFunc_string_string_ [(.s 9), (.c (.fn N.filter_Right_1 [] []))] true), (some (7, false))⟩,
 ⟨(some 11), .p (.pick (.s 7) (.c (.bool true)) (.s 10)), none⟩] [1, 11])
 (.cond (.s 11) (.seq (.reg [⟨(some 2), .p (.mv (.c (.bool false))), none⟩] [2])
 .ret) .skip))
 (.seq (.reg [⟨(some 12), .p (.foff 1 (.s 1)), none⟩,
 ⟨(some 13), .p (.ld (.s 12)), none⟩,
 ⟨(some 14), .p (.lens (.s 13)), none⟩,
 ⟨(some 15), .p (.bin .leq (.s 14) (.c (.int .i64 12))), none⟩,
 ⟨(some 16), .p (.mv (.s 15)), none⟩,
 ⟨(some 17), .p (.foff 2 (.s 1)), (some (16, true))⟩,
 ⟨(some 18), .p (.ld (.s 17)), (some (16, true))⟩,
 ⟨(some 19), .p (.lens (.s 18)), (some (16, true))⟩,
 ⟨(some 20), .p (.bin .leq (.s 19) (.c (.int .i64 12))), (some (16, true))⟩,
 ⟨(some 21), .p (.pick (.s 16) (.s 20) (.c (.bool false))), none⟩,
 ⟨(some 22), .p (.mv (.s 21)), none⟩,
 ⟨(some 23), .p (.foff 3 (.s 1)), (some (22, true))⟩,
 ⟨(some 24), .p (.ld (.s 23)), (some (22, true))⟩,
 ⟨(some 25), .e (.call N.filter_within [(.s 24), (.c (.int .i64 1099511627776))] true), (some (22, true))⟩,
 ⟨(some 26), .p (.pick (.s 22) (.s 25) (.c (.bool false))), none⟩,
 ⟨(some 27), .p (.mv (.s 26)), none⟩,
 ⟨(some 28), .p (.foff 4 (.s 1)), (some (27, true))⟩,
 ⟨(some 29), .p (.ld (.s 28)), (some (27, true))⟩,
 ⟨(some 30), .e (.call N.filter_within [(.s 29), (.c (.int .i64 1099511627776))] true), (some (27, true))⟩,
 ⟨(some 31), .p (.pick (.s 27) (.s 30) (.c (.bool false))), none⟩,
 ⟨(some 32), .p (.mv (.s 31)), none⟩,
 ⟨(some 33), .p (.foff 5 (.s 1)), (some (32, true))⟩,
 ⟨(some 34), .p (.ld (.s 33)), (some (32, true))⟩,
 ⟨(some 35), .e (.call N.filter_within [(.s 34), (.c (.int .i64 8))] true), (some (32, true))⟩,
 ⟨(some 36), .p (.pick (.s 32) (.s 35) (.c (.bool false))), none⟩,
 ⟨(some 37), .p (.mv (.s 36)), none⟩,
 ⟨(some 38), .p (.foff 6 (.s 1)), (some (37, true))⟩,
 ⟨(some 39), .p (.ld (.s 38)), (some (37, true))⟩,
 ⟨(some 40), .e (.call N.filter_within [(.s 39), (.c (.int .i64 1000))] true), (some (37, true))⟩,
 ⟨(some 41), .p (.pick (.s 37) (.s 40) (.c (.bool false))), none⟩,
 ⟨(some 2), .p (.mv (.s 41)), none⟩] [2])
 .ret)))⟩

def F.plan_write_1 : LFunc := ⟨6, [.t 2], 
 (.seq (.reg [⟨(some 1), .e (.box 6 (.s 0)), none⟩,
 ⟨(some 2), .p (.mv (.c (.bool false))), none⟩] [1])
 (.seq (.reg [⟨(some 3), .p (.ldn 6 (.s 1)), none⟩,
 ⟨(some 4), .e (.call N.plan_mut [(.s 3)] true), none⟩,
 ⟨(some 5), .p (.un .not (.s 4)), none⟩,
 ⟨(some 2), .p (.mv (.s 5)), none⟩] [2])
 .ret))⟩

def F.plan_mut : LFunc := ⟨49, [.t 2], 
 (.seq (.reg [⟨(some 1), .e (.box 6 (.s 0)), none⟩,
 ⟨(some 2), .p (.mv (.c (.bool false))), none⟩] [1])
 (.seq (.seq (.reg [⟨(some 3), .p (.foff 0 (.s 1)), none⟩,
 ⟨(some 4), .p (.ld (.s 3)), none⟩] [1, 4])
 (.block 0 (.seq (.reg [⟨(some 6), .p (.bin .eql (.s 4) (.c (.int .i64 1))), none⟩,
 ⟨(some 5), .p (.mv (.s 6)), none⟩] [1, 4, 5])
 (.cond (.s 5) (.seq (.reg [⟨(some 7), .p (.foff 1 (.s 1)), none⟩,
 ⟨(some 8), .p (.ld (.s 7)), none⟩,
 ⟨(some 9), .p (.foff 2 (.s 1)), none⟩,
 ⟨(some 10), .p (.ld (.s 9)), none⟩,
 ⟨(some 11), .e (.call N.plan_column [(.s 8), (.s 10)] true), none⟩,
 ⟨(some 12), .p (.mv (.s 11)), none⟩,
 ⟨(some 13), .p (.foff 3 (.s 1)), (some (12, true))⟩,
 ⟨(some 14), .p (.ldn 3 (.s 13)), (some (12, true))⟩,
 ⟨(some 15), .e (.call N.val_Right [(.s 14)] true), (some (12, true))⟩,
 ⟨(some 16), .p (.pick (.s 12) (.s 15) (.c (.bool false))), none⟩,
 ⟨(some 2), .p (.mv (.s 16)), none⟩] [2])
 .ret) (.seq (.reg [⟨(some 18), .p (.bin .eql (.s 4) (.c (.int .i64 2))), none⟩,
 ⟨(some 17), .p (.mv (.s 18)), none⟩] [1, 4, 17])
 (.cond (.s 17) (.seq (.reg [⟨(some 19), .p (.foff 1 (.s 1)), none⟩,
 ⟨(some 20), .p (.ld (.s 19)), none⟩,
 ⟨(some 21), .p (.foff 2 (.s 1)), none⟩,
 ⟨(some 22), .p (.ld (.s 21)), none⟩,
 ⟨(some 23), .e (.call N.plan_column [(.s 20), (.s 22)] true), none⟩,
 ⟨(some 24), .p (.mv (.s 23)), none⟩,
 ⟨(some 25), .p (.foff 3 (.s 1)), (some (24, true))⟩,
 ⟨(some 26), .p (.ldn 3 (.s 25)), (some (24, true))⟩,
 ⟨(some 27), .e (.call N.plan_none [(.s 26)] true), (some (24, true))⟩,
 ⟨(some 28), .p (.pick (.s 24) (.s 27) (.c (.bool false))), none⟩,
 ⟨(some 2), .p (.mv (.s 28)), none⟩] [2])
 .ret) (.seq (.reg [⟨(some 30), .p (.bin .eql (.s 4) (.c (.int .i64 3))), none⟩,
 ⟨(some 29), .p (.mv (.s 30)), none⟩] [1, 4, 29])
 (.cond (.s 29) (.seq (.reg [⟨(some 31), .p (.foff 1 (.s 1)), none⟩,
 ⟨(some 32), .p (.ld (.s 31)), none⟩,
 ⟨(some 33), .e (.call N.plan_name [(.s 32)] true), none⟩,
 ⟨(some 34), .p (.mv (.s 33)), none⟩,
 ⟨(some 35), .p (.foff 2 (.s 1)), (some (34, true))⟩,
 ⟨(some 36), .p (.ld (.s 35)), (some (34, true))⟩,
 ⟨(some 37), .p (.bin .eql (.s 36) (.c (.str []))), (some (34, true))⟩,
 ⟨(some 38), .p (.pick (.s 34) (.s 37) (.c (.bool false))), none⟩,
 ⟨(some 39), .p (.mv (.s 38)), none⟩,
 ⟨(some 40), .p (.foff 3 (.s 1)), (some (39, true))⟩,
 ⟨(some 41), .p (.ldn 3 (.s 40)), (some (39, true))⟩,
 ⟨(some 42), .e (.call N.plan_none [(.s 41)] true), (some (39, true))⟩,
 ⟨(some 43), .p (.pick (.s 39) (.s 42) (.c (.bool false))), none⟩,
 ⟨(some 2), .p (.mv (.s 43)), none⟩] [2])
 .ret) (.seq (.reg [⟨(some 45), .p (.bin .eql (.s 4) (.c (.int .i64 4))), none⟩,
 ⟨(some 44), .p (.mv (.s 45)), none⟩] [1, 44])
 (.cond (.s 44) (.seq (.reg [⟨(some 46), .p (.ldn 6 (.s 1)), none⟩,
 ⟨(some 47), .p (.build [.int .i64 0, .str [], .str [], .int .i64 0, .int .i64 0, .str []] [(0, 1, (.c (.int .i64 4)))]), none⟩,
 ⟨(some 48), .p (.eqk false (.agg [0, 1, 1, 0, 0, 1]) (.s 46) (.s 47)), none⟩,
 ⟨(some 2), .p (.mv (.s 48)), none⟩] [2])
 .ret) .skip))))))))))
 (.seq (.reg [⟨(some 2), .p (.mv (.c (.bool false))), none⟩] [2])
 .ret)))⟩

def F.plan_empty : LFunc := ⟨37, [.t 2], 
 (.seq (.reg [⟨(some 1), .e (.box 7 (.s 0)), none⟩,
 ⟨(some 2), .p (.mv (.c (.bool false))), none⟩] [1])
 (.seq (.reg [⟨(some 3), .p (.foff 0 (.s 1)), none⟩,
 ⟨(some 4), .p (.ld (.s 3)), none⟩,
 ⟨(some 5), .p (.lenl (.s 4)), none⟩,
 ⟨(some 6), .p (.bin .eql (.s 5) (.c (.int .i64 0))), none⟩,
 ⟨(some 7), .p (.mv (.s 6)), none⟩,
 ⟨(some 8), .p (.foff 1 (.s 1)), (some (7, true))⟩,
 ⟨(some 9), .p (.ld (.s 8)), (some (7, true))⟩,
 ⟨(some 10), .p (.bin .eql (.s 9) (.c (.str []))), (some (7, true))⟩,
 ⟨(some 11), .p (.pick (.s 7) (.s 10) (.c (.bool false))), none⟩,
 ⟨(some 12), .p (.mv (.s 11)), none⟩,
 ⟨(some 13), .p (.foff 2 (.s 1)), (some (12, true))⟩,
 ⟨(some 14), .p (.ld (.s 13)), (some (12, true))⟩,
 ⟨(some 15), .p (.bin .eql (.s 14) (.c (.str []))), (some (12, true))⟩,
 ⟨(some 16), .p (.pick (.s 12) (.s 15) (.c (.bool false))), none⟩,
 ⟨(some 17), .p (.mv (.s 16)), none⟩,
 ⟨(some 18), .p (.foff 3 (.s 1)), (some (17, true))⟩,
 ⟨(some 19), .p (.ld (.s 18)), (some (17, true))⟩,
 ⟨(some 20), .p (.bin .eql (.s 19) (.c (.int .i64 0))), (some (17, true))⟩,
 ⟨(some 21), .p (.pick (.s 17) (.s 20) (.c (.bool false))), none⟩,
 ⟨(some 22), .p (.mv (.s 21)), none⟩,
 ⟨(some 23), .p (.foff 4 (.s 1)), (some (22, true))⟩,
 ⟨(some 24), .p (.ld (.s 23)), (some (22, true))⟩,
 ⟨(some 25), .p (.bin .eql (.s 24) (.c (.int .i64 0))), (some (22, true))⟩,
 ⟨(some 26), .p (.pick (.s 22) (.s 25) (.c (.bool false))), none⟩,
 ⟨(some 27), .p (.mv (.s 26)), none⟩,
 ⟨(some 28), .p (.foff 5 (.s 1)), (some (27, true))⟩,
 ⟨(some 29), .p (.ld (.s 28)), (some (27, true))⟩,
 ⟨(some 30), .p (.bin .eql (.s 29) (.c (.int .i64 0))), (some (27, true))⟩,
 ⟨(some 31), .p (.pick (.s 27) (.s 30) (.c (.bool false))), none⟩,
 ⟨(some 32), .p (.mv (.s 31)), none⟩,
 ⟨(some 33), .p (.foff 6 (.s 1)), (some (32, true))⟩,
 ⟨(some 34), .p (.ld (.s 33)), (some (32, true))⟩,
 ⟨(some 35), .p (.bin .eql (.s 34) (.c (.int .i64 0))), (some (32, true))⟩,
 ⟨(some 36), .p (.pick (.s 32) (.s 35) (.c (.bool false))), none⟩,
 ⟨(some 2), .p (.mv (.s 36)), none⟩] [2])
 .ret))⟩

def F.slices_ContainsFunc_api_Mut_api_Mut_ : LFunc := ⟨9, [.t 4], 
 (.seq (.reg [⟨(some 4), .p (.mv (.c (.bool false))), none⟩] [0, 1])
 (.seq (.reg [⟨(some 5), .p (.mv (.s 0)), none⟩,
 ⟨(some 6), .p (.mv (.s 1)), none⟩,
 ⟨(some 7), .e (.call N.slices_IndexFunc_api_Mut_api_Mut_ [(.s 5), (.s 6)] true), none⟩,
 ⟨(some 8), .p (.bin .geq (.s 7) (.c (.int .i64 0))), none⟩,
 ⟨(some 4), .p (.mv (.s 8)), none⟩] [4])
 .ret))⟩

def F.plan_name : LFunc := ⟨17, [.t 2], 
 (.seq (.reg [⟨(some 2), .p (.mv (.c (.bool false))), none⟩] [0])
 (.seq (.reg [⟨(some 3), .p (.mv (.c (.fn N.plan_name_1 [] []))), none⟩] [0, 3])
 (.seq (.reg [⟨(some 4), .p (.mv (.s 0)), none⟩,
 ⟨(some 5), .p (.bin .neq (.s 4) (.c (.str []))), none⟩,
 ⟨(some 6), .p (.mv (.s 5)), none⟩,
 ⟨(some 7), .p (.mv (.s 0)), (some (6, true))⟩,
 ⟨(some 8), .p (.lens (.s 7)), (some (6, true))⟩,
 ⟨(some 9), .p (.bin .leq (.s 8) (.c (.int .i64 8))), (some (6, true))⟩,
 ⟨(some 10), .p (.pick (.s 6) (.s 9) (.c (.bool false))), none⟩,
 ⟨(some 11), .p (.mv (.s 10)), none⟩,
 ⟨(some 12), .p (.mv (.s 0)), (some (11, true))⟩,
 ⟨(some 13), .p (.mv (.s 3)), (some (11, true))⟩,
 ⟨(some 14), .e (.call N.strings_ContainsFunc [(.s 12), (.s 13)] true), (some (11, true))⟩,
 ⟨(some 15), .p (.un .not (.s 14)), (some (11, true))⟩,
 ⟨(some 16), .p (.pick (.s 11) (.s 15) (.c (.bool false))), none⟩,
 ⟨(some 2), .p (.mv (.s 16)), none⟩] [2])
 .ret)))⟩

def F.float_Right : LFunc := ⟨6, [.t 2], 
 (.seq (.reg [⟨(some 2), .p (.mv (.c (.bool false))), none⟩] [0])
 (.seq (.reg [⟨(some 3), .p (.mv (.s 0)), none⟩,
 ⟨(some 4), .p (.cvt .u64 (.s 3)), none⟩,
 ⟨(some 5), .e (.call N.float_bits_right [(.s 4)] true), none⟩,
 ⟨(some 2), .p (.mv (.s 5)), none⟩] [2])
 .ret))⟩

-- not printed: unicode_utf8_ValidString: operand ('Go.Operand.global', '0')
def F.slices_DeleteFunc_api_Cell_api_Cell_ : LFunc := ⟨42, [.t 4], 
 (.seq (.reg [⟨(some 4), .p (.mv (.c (.psl []))), none⟩] [0, 1])
 (.seq (.reg [⟨(some 8), .p (.mv (.s 0)), none⟩,
 ⟨(some 9), .p (.mv (.s 1)), none⟩,
 ⟨(some 10), .e (.call N.slices_IndexFunc_api_Cell_api_Cell_ [(.s 8), (.s 9)] false), none⟩,
 ⟨(some 5), .p (.mv (.s 10)), none⟩] [0, 1, 5])
 (.seq (.seq (.reg [⟨(some 11), .p (.mv (.s 5)), none⟩,
 ⟨(some 12), .p (.bin .eql (.s 11) (.c (.int .i64 (-1)))), none⟩] [0, 1, 5, 12])
 (.cond (.s 12) (.seq (.reg [⟨(some 13), .p (.mv (.s 0)), none⟩,
 ⟨(some 4), .p (.mv (.s 13)), none⟩] [4])
 .ret) .skip))
 (.seq (.seq (.reg [⟨(some 14), .p (.mv (.s 5)), none⟩,
 ⟨(some 15), .p (.bin .add (.s 14) (.c (.int .i64 1))), none⟩,
 ⟨(some 6), .p (.mv (.s 15)), none⟩] [0, 1, 5, 6])
 (.block 0 (.loop (.seq (.seq (.reg [⟨(some 16), .p (.mv (.s 6)), none⟩,
 ⟨(some 17), .p (.mv (.s 0)), none⟩,
 ⟨(some 18), .p (.lenl (.s 17)), none⟩,
 ⟨(some 19), .p (.bin .lss (.s 16) (.s 18)), none⟩] [0, 1, 5, 6, 19])
 (.cond (.s 19) .skip (.exit 0)))
 (.seq (.block 1 (.seq (.reg [⟨(some 22), .p (.mv (.s 0)), none⟩,
 ⟨(some 23), .p (.mv (.s 6)), none⟩,
 ⟨(some 24), .p (.iadr 8 (.s 22) (.s 23)), none⟩,
 ⟨(some 25), .p (.ldn 8 (.s 24)), none⟩,
 ⟨(some 7), .e (.alloc [.str [], .str [], .str [], .int .i64 0, .int .i64 0, .int .i64 0, .int .i64 0, .str []]), none⟩,
 ⟨none, .e (.stn 8 (.s 7) (.s 25)), none⟩] [0, 1, 5, 6, 7])
 (.seq (.reg [⟨(some 26), .p (.mv (.s 1)), none⟩,
 ⟨(some 27), .p (.ldn 8 (.s 7)), none⟩,
 ⟨(some 28), .e (.callv (.s 26) [(.s 27)] true), none⟩,
 ⟨(some 29), .p (.un .not (.s 28)), none⟩] [0, 1, 5, 6, 7, 29])
 (.cond (.s 29) (.seq (.reg [⟨(some 30), .p (.mv (.s 0)), none⟩,
 ⟨(some 31), .p (.mv (.s 5)), none⟩,
 ⟨(some 32), .p (.ldn 8 (.s 7)), none⟩,
 ⟨(some 33), .p (.iadr 8 (.s 30) (.s 31)), none⟩,
 ⟨none, .e (.stn 8 (.s 33) (.s 32)), none⟩] [0, 1, 5, 6])
 (.reg [⟨(some 34), .p (.mv (.s 5)), none⟩,
 ⟨(some 35), .p (.bin .add (.s 34) (.c (.int .i64 1))), none⟩,
 ⟨(some 5), .p (.mv (.s 35)), none⟩] [0, 1, 5, 6])) .skip))))
 (.reg [⟨(some 20), .p (.mv (.s 6)), none⟩,
 ⟨(some 21), .p (.bin .add (.s 20) (.c (.int .i64 1))), none⟩,
 ⟨(some 6), .p (.mv (.s 21)), none⟩] [0, 1, 5, 6]))) [0, 1, 5, 6])))
 (.seq (.reg [⟨(some 36), .p (.mv (.s 0)), none⟩,
 ⟨(some 37), .p (.mv (.s 5)), none⟩,
 ⟨(some 38), .p (.slcl 8 (.s 36) (some (.s 37)) none none), none⟩,
 ⟨none, .e (.clear 8 (.s 38)), none⟩] [0, 5])
 (.seq (.reg [⟨(some 39), .p (.mv (.s 0)), none⟩,
 ⟨(some 40), .p (.mv (.s 5)), none⟩,
 ⟨(some 41), .p (.slcl 8 (.s 39) none (some (.s 40)) none), none⟩,
 ⟨(some 4), .p (.mv (.s 41)), none⟩] [4])
 .ret))))))⟩

def F.plan_maker_add_1 : LFunc := ⟨7, [.t 3], 
 (.seq (.reg [⟨(some 2), .e (.box 8 (.s 0)), none⟩,
 ⟨(some 3), .p (.mv (.c (.bool false))), none⟩] [1, 2])
 (.seq (.reg [⟨(some 4), .p (.ldn 8 (.s 2)), none⟩,
 ⟨(some 5), .p (.ldn 8 (.s 1)), none⟩,
 ⟨(some 6), .e (.call N.plan_needless [(.s 4), (.s 5)] true), none⟩,
 ⟨(some 3), .p (.mv (.s 6)), none⟩] [3])
 .ret))⟩

def F.plan_needless : LFunc := ⟨36, [.t 4], 
 (.seq (.reg [⟨(some 2), .e (.box 8 (.s 0)), none⟩,
 ⟨(some 3), .e (.box 8 (.s 1)), none⟩,
 ⟨(some 4), .p (.mv (.c (.bool false))), none⟩] [2, 3])
 (.seq (.block 0 (.seq (.reg [⟨(some 6), .p (.ldn 8 (.s 2)), none⟩,
 ⟨(some 7), .p (.ldn 8 (.s 3)), none⟩,
 ⟨(some 8), .e (.call N.codec_Order [(.s 6), (.s 7)] true), none⟩,
 ⟨(some 9), .p (.bin .eql (.s 8) (.c (.int .i64 0))), none⟩,
 ⟨(some 5), .p (.mv (.s 9)), none⟩] [2, 3, 5])
 (.cond (.s 5) (.seq (.reg [⟨(some 4), .p (.mv (.c (.bool true))), none⟩] [4])
 .ret) (.seq (.reg [⟨(some 11), .p (.foff 1 (.s 2)), none⟩,
 ⟨(some 12), .p (.ld (.s 11)), none⟩,
 ⟨(some 13), .p (.foff 1 (.s 3)), none⟩,
 ⟨(some 14), .p (.ld (.s 13)), none⟩,
 ⟨(some 15), .p (.bin .neq (.s 12) (.s 14)), none⟩,
 ⟨(some 10), .p (.mv (.s 15)), none⟩] [2, 3, 10])
 (.cond (.s 10) (.seq (.reg [⟨(some 4), .p (.mv (.c (.bool false))), none⟩] [4])
 .ret) .skip)))))
 (.seq (.reg [⟨(some 16), .p (.foff 4 (.s 3)), none⟩,
 ⟨(some 17), .p (.ld (.s 16)), none⟩,
 ⟨(some 18), .p (.bin .eql (.s 17) (.c (.int .i64 4))), none⟩,
 ⟨(some 19), .p (.mv (.s 18)), none⟩,
 ⟨(some 20), .p (.foff 4 (.s 3)), (some (19, false))⟩,
 ⟨(some 21), .p (.ld (.s 20)), (some (19, false))⟩,
 ⟨(some 22), .p (.bin .eql (.s 21) (.c (.int .i64 3))), (some (19, false))⟩,
 ⟨(some 23), .p (.mv (.s 22)), (some (19, false))⟩,
 ⟨(some 24), .p (.foff 4 (.s 2)), (some (23, true))⟩,
 ⟨(some 25), .p (.ld (.s 24)), (some (23, true))⟩,
 ⟨(some 26), .p (.bin .eql (.s 25) (.c (.int .i64 1))), (some (23, true))⟩,
 ⟨(some 27), .p (.pick (.s 23) (.s 26) (.c (.bool false))), (some (19, false))⟩,
 ⟨(some 28), .p (.mv (.s 27)), (some (19, false))⟩,
 ⟨(some 29), .p (.foff 2 (.s 2)), (some (28, true))⟩,
 ⟨(some 30), .p (.ld (.s 29)), (some (28, true))⟩,
 ⟨(some 31), .p (.foff 2 (.s 3)), (some (28, true))⟩,
 ⟨(some 32), .p (.ld (.s 31)), (some (28, true))⟩,
 ⟨(some 33), .p (.bin .eql (.s 30) (.s 32)), (some (28, true))⟩,
 ⟨(some 34), .p (.pick (.s 28) (.s 33) (.c (.bool false))), (some (19, false))⟩,
 ⟨(some 35), .p (.pick (.s 19) (.c (.bool true)) (.s 34)), none⟩,
 ⟨(some 4), .p (.mv (.s 35)), none⟩] [4])
 .ret)))⟩

def F.joistref01_size : LFunc := ⟨5, [.t 2], 
 (.seq (.reg [⟨(some 2), .p (.mv (.c (.int .i64 0))), none⟩] [0])
 (.seq (.reg [⟨(some 3), .p (.mv (.s 0)), none⟩,
 ⟨(some 4), .p (.bin .andNot (.s 3) (.c (.int .i64 (-9223372036854775808)))), none⟩,
 ⟨(some 2), .p (.mv (.s 4)), none⟩] [2])
 .ret))⟩

def F.slices_pdqsortOrdered_string : LFunc := ⟨134, [], 
 (.seq (.reg [⟨(some 8), .p (.mv (.c (.bool true))), none⟩] [0, 1, 2, 3, 8])
 (.seq (.reg [⟨(some 9), .p (.mv (.c (.bool true))), none⟩] [0, 1, 2, 3, 8, 9])
 (.block 0 (.loop (.block 1 (.seq (.reg [⟨(some 19), .p (.mv (.s 2)), none⟩,
 ⟨(some 20), .p (.mv (.s 1)), none⟩,
 ⟨(some 21), .p (.bin .sub (.s 19) (.s 20)), none⟩,
 ⟨(some 10), .p (.mv (.s 21)), none⟩] [0, 1, 2, 3, 8, 9, 10])
 (.seq (.seq (.reg [⟨(some 22), .p (.mv (.s 10)), none⟩,
 ⟨(some 23), .p (.bin .leq (.s 22) (.c (.int .i64 12))), none⟩] [0, 1, 2, 3, 8, 9, 10, 23])
 (.cond (.s 23) (.seq (.reg [⟨(some 24), .p (.mv (.s 0)), none⟩,
 ⟨(some 25), .p (.mv (.s 1)), none⟩,
 ⟨(some 26), .p (.mv (.s 2)), none⟩,
 ⟨(some 27), .e (.call N.slices_insertionSortOrdered_string [(.s 24), (.s 25), (.s 26)] false), none⟩] [])
 .ret) .skip))
 (.seq (.seq (.reg [⟨(some 28), .p (.mv (.s 3)), none⟩,
 ⟨(some 29), .p (.bin .eql (.s 28) (.c (.int .i64 0))), none⟩] [0, 1, 2, 3, 8, 9, 10, 29])
 (.cond (.s 29) (.seq (.reg [⟨(some 30), .p (.mv (.s 0)), none⟩,
 ⟨(some 31), .p (.mv (.s 1)), none⟩,
 ⟨(some 32), .p (.mv (.s 2)), none⟩,
 ⟨(some 33), .e (.call N.slices_heapSortOrdered_string [(.s 30), (.s 31), (.s 32)] false), none⟩] [])
 .ret) .skip))
 (.seq (.seq (.reg [⟨(some 34), .p (.mv (.s 8)), none⟩,
 ⟨(some 35), .p (.un .not (.s 34)), none⟩] [0, 1, 2, 3, 8, 9, 10, 35])
 (.cond (.s 35) (.seq (.reg [⟨(some 36), .p (.mv (.s 0)), none⟩,
 ⟨(some 37), .p (.mv (.s 1)), none⟩,
 ⟨(some 38), .p (.mv (.s 2)), none⟩,
 ⟨(some 39), .e (.call N.slices_breakPatternsOrdered_string [(.s 36), (.s 37), (.s 38)] false), none⟩] [0, 1, 2, 3, 8, 9, 10])
 (.reg [⟨(some 40), .p (.mv (.s 3)), none⟩,
 ⟨(some 41), .p (.bin .sub (.s 40) (.c (.int .i64 1))), none⟩,
 ⟨(some 3), .p (.mv (.s 41)), none⟩] [0, 1, 2, 3, 8, 9, 10])) .skip))
 (.seq (.reg [⟨(some 43), .p (.mv (.s 0)), none⟩,
 ⟨(some 44), .p (.mv (.s 1)), none⟩,
 ⟨(some 45), .p (.mv (.s 2)), none⟩,
 ⟨(some 46), .e (.call N.slices_choosePivotOrdered_string [(.s 43), (.s 44), (.s 45)] false), none⟩,
 ⟨(some 42), .p (.mv (.s 46)), none⟩,
 ⟨(some 47), .p (.ext (.s 42) 0), none⟩,
 ⟨(some 48), .p (.ext (.s 42) 1), none⟩,
 ⟨(some 11), .p (.mv (.s 47)), none⟩,
 ⟨(some 12), .p (.mv (.s 48)), none⟩] [0, 1, 2, 3, 8, 9, 10, 11, 12])
 (.seq (.seq (.reg [⟨(some 49), .p (.mv (.s 12)), none⟩,
 ⟨(some 50), .p (.bin .eql (.s 49) (.c (.int .i64 2))), none⟩] [0, 1, 2, 3, 8, 9, 10, 11, 12, 50])
 (.cond (.s 50) (.seq (.reg [⟨(some 51), .p (.mv (.s 0)), none⟩,
 ⟨(some 52), .p (.mv (.s 1)), none⟩,
 ⟨(some 53), .p (.mv (.s 2)), none⟩,
 ⟨(some 54), .e (.call N.slices_reverseRangeOrdered_string [(.s 51), (.s 52), (.s 53)] false), none⟩] [0, 1, 2, 3, 8, 9, 10, 11])
 (.seq (.reg [⟨(some 55), .p (.mv (.s 2)), none⟩,
 ⟨(some 56), .p (.bin .sub (.s 55) (.c (.int .i64 1))), none⟩,
 ⟨(some 57), .p (.mv (.s 11)), none⟩,
 ⟨(some 58), .p (.mv (.s 1)), none⟩,
 ⟨(some 59), .p (.bin .sub (.s 57) (.s 58)), none⟩,
 ⟨(some 60), .p (.bin .sub (.s 56) (.s 59)), none⟩,
 ⟨(some 11), .p (.mv (.s 60)), none⟩] [0, 1, 2, 3, 8, 9, 10, 11])
 (.reg [⟨(some 12), .p (.mv (.c (.int .i64 1))), none⟩] [0, 1, 2, 3, 8, 9, 10, 11, 12]))) .skip))
 (.seq (.seq (.reg [⟨(some 61), .p (.mv (.s 8)), none⟩,
 ⟨(some 62), .p (.mv (.s 61)), none⟩,
 ⟨(some 63), .p (.mv (.s 9)), (some (62, true))⟩,
 ⟨(some 64), .p (.pick (.s 62) (.s 63) (.c (.bool false))), none⟩,
 ⟨(some 65), .p (.mv (.s 64)), none⟩,
 ⟨(some 66), .p (.mv (.s 12)), (some (65, true))⟩,
 ⟨(some 67), .p (.bin .eql (.s 66) (.c (.int .i64 1))), (some (65, true))⟩,
 ⟨(some 68), .p (.pick (.s 65) (.s 67) (.c (.bool false))), none⟩] [0, 1, 2, 3, 8, 9, 10, 11, 68])
 (.cond (.s 68) (.seq (.reg [⟨(some 69), .p (.mv (.s 0)), none⟩,
 ⟨(some 70), .p (.mv (.s 1)), none⟩,
 ⟨(some 71), .p (.mv (.s 2)), none⟩,
 ⟨(some 72), .e (.call N.slices_partialInsertionSortOrdered_string [(.s 69), (.s 70), (.s 71)] false), none⟩] [0, 1, 2, 3, 8, 9, 10, 11, 72])
 (.cond (.s 72) .ret .skip)) .skip))
 (.seq (.seq (.regD [⟨(some 73), .p (.mv (.s 1)), none⟩,
 ⟨(some 74), .p (.bin .gtr (.s 73) (.c (.int .i64 0))), none⟩,
 ⟨(some 75), .p (.mv (.s 74)), none⟩,
 ⟨(some 76), .p (.mv (.s 0)), (some (75, true))⟩,
 ⟨(some 77), .p (.mv (.s 1)), (some (75, true))⟩,
 ⟨(some 78), .p (.bin .sub (.s 77) (.c (.int .i64 1))), (some (75, true))⟩,
 ⟨(some 79), .p (.iadr 1 (.s 76) (.s 78)), (some (75, true))⟩,
 ⟨(some 80), .p (.ld (.s 79)), (some (75, true))⟩,
 ⟨(some 81), .p (.mv (.s 0)), (some (75, true))⟩,
 ⟨(some 82), .p (.mv (.s 11)), (some (75, true))⟩,
 ⟨(some 83), .p (.iadr 1 (.s 81) (.s 82)), (some (75, true))⟩,
 ⟨(some 84), .p (.ld (.s 83)), (some (75, true))⟩,
 ⟨(some 85), .e (.call N.cmp_Less_string [(.s 80), (.s 84)] false), (some (75, true))⟩,
 ⟨(some 86), .p (.un .not (.s 85)), (some (75, true))⟩,
 ⟨(some 87), .p (.pick (.s 75) (.s 86) (.c (.bool false))), none⟩] [0, 1, 2, 3, 4, 5, 6, 7, 8, 9, 10, 11, 12, 13, 14] [0, 1, 2, 3, 8, 9, 10, 11, 87])
 (.cond (.s 87) (.seq (.reg [⟨(some 88), .p (.mv (.s 0)), none⟩,
 ⟨(some 89), .p (.mv (.s 1)), none⟩,
 ⟨(some 90), .p (.mv (.s 2)), none⟩,
 ⟨(some 91), .p (.mv (.s 11)), none⟩,
 ⟨(some 92), .e (.call N.slices_partitionEqualOrdered_string [(.s 88), (.s 89), (.s 90), (.s 91)] false), none⟩,
 ⟨(some 13), .p (.mv (.s 92)), none⟩] [0, 2, 3, 8, 9, 13])
 (.seq (.reg [⟨(some 93), .p (.mv (.s 13)), none⟩,
 ⟨(some 1), .p (.mv (.s 93)), none⟩] [0, 1, 2, 3, 8, 9])
 (.exit 1))) .skip))
 (.seq (.reg [⟨(some 95), .p (.mv (.s 0)), none⟩,
 ⟨(some 96), .p (.mv (.s 1)), none⟩,
 ⟨(some 97), .p (.mv (.s 2)), none⟩,
 ⟨(some 98), .p (.mv (.s 11)), none⟩,
 ⟨(some 99), .e (.call N.slices_partitionOrdered_string [(.s 95), (.s 96), (.s 97), (.s 98)] false), none⟩,
 ⟨(some 94), .p (.mv (.s 99)), none⟩,
 ⟨(some 100), .p (.ext (.s 94) 0), none⟩,
 ⟨(some 101), .p (.ext (.s 94) 1), none⟩,
 ⟨(some 14), .p (.mv (.s 100)), none⟩,
 ⟨(some 15), .p (.mv (.s 101)), none⟩] [0, 1, 2, 3, 10, 14, 15])
 (.seq (.reg [⟨(some 102), .p (.mv (.s 15)), none⟩,
 ⟨(some 9), .p (.mv (.s 102)), none⟩] [0, 1, 2, 3, 9, 10, 14])
 (.seq (.reg [⟨(some 103), .p (.mv (.s 14)), none⟩,
 ⟨(some 104), .p (.mv (.s 1)), none⟩,
 ⟨(some 105), .p (.bin .sub (.s 103) (.s 104)), none⟩,
 ⟨(some 106), .p (.mv (.s 2)), none⟩,
 ⟨(some 107), .p (.mv (.s 14)), none⟩,
 ⟨(some 108), .p (.bin .sub (.s 106) (.s 107)), none⟩,
 ⟨(some 16), .p (.mv (.s 105)), none⟩,
 ⟨(some 17), .p (.mv (.s 108)), none⟩] [0, 1, 2, 3, 9, 10, 14, 16, 17])
 (.seq (.reg [⟨(some 109), .p (.mv (.s 10)), none⟩,
 ⟨(some 110), .p (.bin .quo (.s 109) (.c (.int .i64 8))), none⟩,
 ⟨(some 18), .p (.mv (.s 110)), none⟩] [0, 1, 2, 3, 9, 14, 16, 17, 18])
 (.seq (.reg [⟨(some 111), .p (.mv (.s 16)), none⟩,
 ⟨(some 112), .p (.mv (.s 17)), none⟩,
 ⟨(some 113), .p (.bin .lss (.s 111) (.s 112)), none⟩] [0, 1, 2, 3, 9, 14, 16, 17, 18, 113])
 (.cond (.s 113) (.seq (.reg [⟨(some 114), .p (.mv (.s 16)), none⟩,
 ⟨(some 115), .p (.mv (.s 18)), none⟩,
 ⟨(some 116), .p (.bin .geq (.s 114) (.s 115)), none⟩,
 ⟨(some 8), .p (.mv (.s 116)), none⟩] [0, 1, 2, 3, 8, 9, 14])
 (.seq (.reg [⟨(some 117), .p (.mv (.s 0)), none⟩,
 ⟨(some 118), .p (.mv (.s 1)), none⟩,
 ⟨(some 119), .p (.mv (.s 14)), none⟩,
 ⟨(some 120), .p (.mv (.s 3)), none⟩,
 ⟨(some 121), .e (.call N.slices_pdqsortOrdered_string [(.s 117), (.s 118), (.s 119), (.s 120)] false), none⟩] [0, 2, 3, 8, 9, 14])
 (.reg [⟨(some 122), .p (.mv (.s 14)), none⟩,
 ⟨(some 123), .p (.bin .add (.s 122) (.c (.int .i64 1))), none⟩,
 ⟨(some 1), .p (.mv (.s 123)), none⟩] [0, 1, 2, 3, 8, 9]))) (.seq (.reg [⟨(some 124), .p (.mv (.s 17)), none⟩,
 ⟨(some 125), .p (.mv (.s 18)), none⟩,
 ⟨(some 126), .p (.bin .geq (.s 124) (.s 125)), none⟩,
 ⟨(some 8), .p (.mv (.s 126)), none⟩] [0, 1, 2, 3, 8, 9, 14])
 (.seq (.reg [⟨(some 127), .p (.mv (.s 0)), none⟩,
 ⟨(some 128), .p (.mv (.s 14)), none⟩,
 ⟨(some 129), .p (.bin .add (.s 128) (.c (.int .i64 1))), none⟩,
 ⟨(some 130), .p (.mv (.s 2)), none⟩,
 ⟨(some 131), .p (.mv (.s 3)), none⟩,
 ⟨(some 132), .e (.call N.slices_pdqsortOrdered_string [(.s 127), (.s 129), (.s 130), (.s 131)] false), none⟩] [0, 1, 3, 8, 9, 14])
 (.reg [⟨(some 133), .p (.mv (.s 14)), none⟩,
 ⟨(some 2), .p (.mv (.s 133)), none⟩] [0, 1, 2, 3, 8, 9])))))))))))))))))) [0, 1, 2, 3, 8, 9]))))⟩

def F.math_bits_Len : LFunc := ⟨8, [.t 2], 
 (.seq (.reg [⟨(some 2), .p (.mv (.c (.int .i64 0))), none⟩] [0])
 (.seq (.cond (.c (.bool false)) (.seq (.reg [⟨(some 3), .p (.mv (.s 0)), none⟩,
 ⟨(some 4), .p (.cvt .u32 (.s 3)), none⟩,
 ⟨(some 5), .e (.call N.math_bits_Len32 [(.s 4)] true), none⟩,
 ⟨(some 2), .p (.mv (.s 5)), none⟩] [2])
 .ret) .skip)
 (.seq (.reg [⟨(some 6), .p (.mv (.s 0)), none⟩,
 ⟨(some 7), .e (.call N.math_bits_Len64 [(.s 6)] true), none⟩,
 ⟨(some 2), .p (.mv (.s 7)), none⟩] [2])
 .ret)))⟩

def F.schema_name : LFunc := ⟨17, [.t 2], 
 (.seq (.reg [⟨(some 2), .p (.mv (.c (.bool false))), none⟩] [0])
 (.seq (.reg [⟨(some 3), .p (.mv (.c (.fn N.schema_name_1 [] []))), none⟩] [0, 3])
 (.seq (.reg [⟨(some 4), .p (.mv (.s 0)), none⟩,
 ⟨(some 5), .p (.bin .neq (.s 4) (.c (.str []))), none⟩,
 ⟨(some 6), .p (.mv (.s 5)), none⟩,
 ⟨(some 7), .p (.mv (.s 0)), (some (6, true))⟩,
 ⟨(some 8), .p (.lens (.s 7)), (some (6, true))⟩,
 ⟨(some 9), .p (.bin .leq (.s 8) (.c (.int .i64 8))), (some (6, true))⟩,
 ⟨(some 10), .p (.pick (.s 6) (.s 9) (.c (.bool false))), none⟩,
 ⟨(some 11), .p (.mv (.s 10)), none⟩,
 ⟨(some 12), .p (.mv (.s 0)), (some (11, true))⟩,
 ⟨(some 13), .p (.mv (.s 3)), (some (11, true))⟩,
 ⟨(some 14), .e (.call N.strings_ContainsFunc [(.s 12), (.s 13)] true), (some (11, true))⟩,
 ⟨(some 15), .p (.un .not (.s 14)), (some (11, true))⟩,
 ⟨(some 16), .p (.pick (.s 11) (.s 15) (.c (.bool false))), none⟩,
 ⟨(some 2), .p (.mv (.s 16)), none⟩] [2])
 .ret)))⟩

def F.schema_layouts : LFunc := ⟨39, [.t 2], 
 (.seq (.reg [⟨(some 2), .p (.mv (.c (.bool false))), none⟩] [0])
 (.seq (.reg [⟨(some 3), .p (.mv (.c (.int .i64 0))), none⟩] [0, 3])
 (.seq (.seq (.reg [⟨(some 6), .p (.mv (.s 0)), none⟩,
 ⟨(some 7), .p (.lenl (.s 6)), none⟩,
 ⟨(some 8), .p (.mv (.c (.int .i64 0))), none⟩] [0, 3, 6, 7, 8])
 (.block 0 (.loop (.seq (.reg [⟨(some 9), .p (.bin .lss (.s 8) (.s 7)), none⟩] [0, 3, 6, 7, 8, 9])
 (.seq (.cond (.s 9) .skip (.exit 0))
 (.seq (.block 1 (.seq (.reg [⟨(some 10), .p (.iadr 2 (.s 6) (.s 8)), none⟩,
 ⟨(some 11), .p (.ldn 2 (.s 10)), none⟩,
 ⟨(some 5), .e (.alloc [.int .i64 0, .int .i64 0]), none⟩,
 ⟨none, .e (.stn 2 (.s 5) (.s 11)), none⟩] [0, 3, 5, 6, 7, 8])
 (.seq (.seq (.reg [⟨(some 12), .p (.foff 0 (.s 5)), none⟩,
 ⟨(some 13), .p (.ld (.s 12)), none⟩,
 ⟨(some 14), .e (.call N.schema_within [(.s 13), (.c (.int .i64 0)), (.c (.int .i64 2))] true), none⟩,
 ⟨(some 15), .p (.un .not (.s 14)), none⟩,
 ⟨(some 16), .p (.mv (.s 15)), none⟩,
 ⟨(some 17), .p (.foff 1 (.s 5)), (some (16, false))⟩,
 ⟨(some 18), .p (.ld (.s 17)), (some (16, false))⟩,
 ⟨(some 19), .e (.call N.schema_state [(.s 18)] true), (some (16, false))⟩,
 ⟨(some 20), .p (.un .not (.s 19)), (some (16, false))⟩,
 ⟨(some 21), .p (.pick (.s 16) (.c (.bool true)) (.s 20)), none⟩] [0, 3, 5, 6, 7, 8, 21])
 (.cond (.s 21) (.seq (.reg [⟨(some 2), .p (.mv (.c (.bool false))), none⟩] [2])
 .ret) .skip))
 (.seq (.reg [⟨(some 22), .p (.foff 1 (.s 5)), none⟩,
 ⟨(some 23), .p (.ld (.s 22)), none⟩,
 ⟨(some 24), .p (.bin .eql (.s 23) (.c (.int .i64 3))), none⟩] [0, 3, 6, 7, 8, 24])
 (.cond (.s 24) (.reg [⟨(some 25), .p (.mv (.s 3)), none⟩,
 ⟨(some 26), .p (.bin .add (.s 25) (.c (.int .i64 1))), none⟩,
 ⟨(some 3), .p (.mv (.s 26)), none⟩] [0, 3, 6, 7, 8]) .skip)))))
 (.reg [⟨(some 27), .p (.bin .add (.s 8) (.c (.int .i64 1))), none⟩,
 ⟨(some 8), .p (.mv (.s 27)), none⟩] [0, 3, 6, 7, 8])))) [0, 3, 6, 7, 8])))
 (.seq (.reg [⟨(some 28), .p (.mv (.s 3)), none⟩,
 ⟨(some 29), .p (.bin .lss (.s 28) (.c (.int .i64 2))), none⟩,
 ⟨(some 30), .p (.mv (.s 29)), none⟩,
 ⟨(some 31), .p (.mv (.s 0)), (some (30, true))⟩,
 ⟨(some 32), .p (.lenl (.s 31)), (some (30, true))⟩,
 ⟨(some 33), .e (.call N.schema_within [(.s 32), (.c (.int .i64 1)), (.c (.int .i64 2))] true), (some (30, true))⟩,
 ⟨(some 34), .p (.pick (.s 30) (.s 33) (.c (.bool false))), none⟩,
 ⟨(some 35), .p (.mv (.s 34)), none⟩,
 ⟨(some 36), .p (.mv (.s 0)), (some (35, true))⟩,
 ⟨(some 37), .e (.call N.schema_once_int [(.s 36), (.c (.fn N.schema_layouts_1 [] []))] true), (some (35, true))⟩,
 ⟨(some 38), .p (.pick (.s 35) (.s 37) (.c (.bool false))), none⟩,
 ⟨(some 2), .p (.mv (.s 38)), none⟩] [2])
 .ret))))⟩

def F.schema_cols : LFunc := ⟨17, [.t 2], 
 (.seq (.reg [⟨(some 2), .p (.mv (.c (.bool false))), none⟩] [0])
 (.seq (.reg [⟨(some 3), .p (.mv (.c (.fn N.schema_cols_1 [] []))), none⟩] [0, 3])
 (.seq (.reg [⟨(some 4), .p (.mv (.s 0)), none⟩,
 ⟨(some 5), .p (.lenl (.s 4)), none⟩,
 ⟨(some 6), .p (.bin .leq (.s 5) (.c (.int .i64 8))), none⟩,
 ⟨(some 7), .p (.mv (.s 6)), none⟩,
 ⟨(some 8), .p (.mv (.s 0)), (some (7, true))⟩,
 ⟨(some 9), .p (.mv (.s 3)), (some (7, true))⟩,
 ⟨(some 10), .e (.call N.slices_ContainsFunc_api_Column_api_Column_ [(.s 8), (.s 9)] true), (some (7, true))⟩,
 ⟨(some 11), .p (.un .not (.s 10)), (some (7, true))⟩,
 ⟨(some 12), .p (.pick (.s 7) (.s 11) (.c (.bool false))), none⟩,
 ⟨(some 13), .p (.mv (.s 12)), none⟩,
 ⟨(some 14), .p (.mv (.s 0)), (some (13, true))⟩,
 ⟨(some 15), .e (.call N.schema_once_string_2 [(.s 14), (.c (.fn N.schema_cols_2 [] []))] true), (some (13, true))⟩,
 ⟨(some 16), .p (.pick (.s 13) (.s 15) (.c (.bool false))), none⟩,
 ⟨(some 2), .p (.mv (.s 16)), none⟩] [2])
 .ret)))⟩

def F.slices_IndexFunc_api_Family_api_Family_ : LFunc := ⟨19, [.t 4], 
 (.seq (.reg [⟨(some 4), .p (.mv (.c (.int .i64 0))), none⟩] [0, 1])
 (.seq (.seq (.reg [⟨(some 6), .p (.mv (.s 0)), none⟩,
 ⟨(some 7), .p (.lenl (.s 6)), none⟩,
 ⟨(some 8), .p (.mv (.c (.int .i64 0))), none⟩] [0, 1, 7, 8])
 (.block 0 (.loop (.seq (.reg [⟨(some 9), .p (.bin .lss (.s 8) (.s 7)), none⟩] [0, 1, 7, 8, 9])
 (.seq (.cond (.s 9) .skip (.exit 0))
 (.seq (.block 1 (.seq (.reg [⟨(some 10), .p (.mv (.s 8)), none⟩,
 ⟨(some 5), .p (.mv (.s 10)), none⟩] [0, 1, 5, 7, 8])
 (.seq (.reg [⟨(some 11), .p (.mv (.s 1)), none⟩,
 ⟨(some 12), .p (.mv (.s 0)), none⟩,
 ⟨(some 13), .p (.mv (.s 5)), none⟩,
 ⟨(some 14), .p (.iadr 5 (.s 12) (.s 13)), none⟩,
 ⟨(some 15), .p (.ldn 5 (.s 14)), none⟩,
 ⟨(some 16), .e (.callv (.s 11) [(.s 15)] true), none⟩] [0, 1, 5, 7, 8, 16])
 (.cond (.s 16) (.seq (.reg [⟨(some 17), .p (.mv (.s 5)), none⟩,
 ⟨(some 4), .p (.mv (.s 17)), none⟩] [4])
 .ret) .skip))))
 (.reg [⟨(some 18), .p (.bin .add (.s 8) (.c (.int .i64 1))), none⟩,
 ⟨(some 8), .p (.mv (.s 18)), none⟩] [0, 1, 7, 8])))) [0, 1, 7, 8])))
 (.seq (.reg [⟨(some 4), .p (.mv (.c (.int .i64 (-1)))), none⟩] [4])
 .ret)))⟩

def F.schema_Find : LFunc := ⟨20, [.cn 4 5, .t 5], 
 (.seq (.reg [⟨(some 2), .e (.box 10 (.s 0)), none⟩,
 ⟨(some 3), .e (.box 1 (.s 1)), none⟩,
 ⟨(some 4), .e (.alloc [.str [], .int .i64 0, .int .i64 0, .psl [], .psl []]), none⟩,
 ⟨(some 5), .p (.mv (.c (.bool false))), none⟩] [2, 3, 4])
 (.seq (.reg [⟨(some 7), .p (.foff 1 (.s 2)), none⟩,
 ⟨(some 8), .p (.ld (.s 7)), none⟩,
 ⟨(some 9), .p (.mkfn N.schema_Find_1 [] [(.s 3)]), none⟩,
 ⟨(some 10), .e (.call N.slices_IndexFunc_api_Family_api_Family_ [(.s 8), (.s 9)] true), none⟩,
 ⟨(some 6), .p (.mv (.s 10)), none⟩] [2, 4, 6])
 (.seq (.seq (.reg [⟨(some 11), .p (.mv (.s 6)), none⟩,
 ⟨(some 12), .p (.bin .lss (.s 11) (.c (.int .i64 0))), none⟩] [2, 4, 6, 12])
 (.cond (.s 12) (.seq (.reg [⟨(some 13), .p (.build [.str [], .int .i64 0, .int .i64 0, .psl [], .psl []] []), none⟩,
 ⟨none, .e (.stn 5 (.s 4) (.s 13)), none⟩,
 ⟨(some 5), .p (.mv (.c (.bool false))), none⟩] [4, 5])
 .ret) .skip))
 (.seq (.reg [⟨(some 14), .p (.foff 1 (.s 2)), none⟩,
 ⟨(some 15), .p (.ld (.s 14)), none⟩,
 ⟨(some 16), .p (.mv (.s 6)), none⟩,
 ⟨(some 17), .p (.iadr 5 (.s 15) (.s 16)), none⟩,
 ⟨(some 18), .p (.ldn 5 (.s 17)), none⟩,
 ⟨(some 19), .e (.call N.schema_clone [(.s 18)] true), none⟩,
 ⟨none, .e (.stn 5 (.s 4) (.s 19)), none⟩,
 ⟨(some 5), .p (.mv (.c (.bool true))), none⟩] [4, 5])
 .ret))))⟩

def F.slices_IndexFunc_api_Column_api_Column_ : LFunc := ⟨19, [.t 4], 
 (.seq (.reg [⟨(some 4), .p (.mv (.c (.int .i64 0))), none⟩] [0, 1])
 (.seq (.seq (.reg [⟨(some 6), .p (.mv (.s 0)), none⟩,
 ⟨(some 7), .p (.lenl (.s 6)), none⟩,
 ⟨(some 8), .p (.mv (.c (.int .i64 0))), none⟩] [0, 1, 7, 8])
 (.block 0 (.loop (.seq (.reg [⟨(some 9), .p (.bin .lss (.s 8) (.s 7)), none⟩] [0, 1, 7, 8, 9])
 (.seq (.cond (.s 9) .skip (.exit 0))
 (.seq (.block 1 (.seq (.reg [⟨(some 10), .p (.mv (.s 8)), none⟩,
 ⟨(some 5), .p (.mv (.s 10)), none⟩] [0, 1, 5, 7, 8])
 (.seq (.reg [⟨(some 11), .p (.mv (.s 1)), none⟩,
 ⟨(some 12), .p (.mv (.s 0)), none⟩,
 ⟨(some 13), .p (.mv (.s 5)), none⟩,
 ⟨(some 14), .p (.iadr 3 (.s 12) (.s 13)), none⟩,
 ⟨(some 15), .p (.ldn 3 (.s 14)), none⟩,
 ⟨(some 16), .e (.callv (.s 11) [(.s 15)] true), none⟩] [0, 1, 5, 7, 8, 16])
 (.cond (.s 16) (.seq (.reg [⟨(some 17), .p (.mv (.s 5)), none⟩,
 ⟨(some 4), .p (.mv (.s 17)), none⟩] [4])
 .ret) .skip))))
 (.reg [⟨(some 18), .p (.bin .add (.s 8) (.c (.int .i64 1))), none⟩,
 ⟨(some 8), .p (.mv (.s 18)), none⟩] [0, 1, 7, 8])))) [0, 1, 7, 8])))
 (.seq (.reg [⟨(some 4), .p (.mv (.c (.int .i64 (-1)))), none⟩] [4])
 .ret)))⟩

def F.schema_Column_1 : LFunc := ⟨8, [.t 3], 
 (.seq (.reg [⟨(some 2), .e (.box 3 (.s 0)), none⟩,
 ⟨(some 3), .p (.mv (.c (.bool false))), none⟩] [1, 2])
 (.seq (.reg [⟨(some 4), .p (.foff 0 (.s 2)), none⟩,
 ⟨(some 5), .p (.ld (.s 4)), none⟩,
 ⟨(some 6), .p (.ld (.s 1)), none⟩,
 ⟨(some 7), .p (.bin .eql (.s 5) (.s 6)), none⟩,
 ⟨(some 3), .p (.mv (.s 7)), none⟩] [3])
 .ret))⟩

def F.slices_ContainsFunc_string_string_ : LFunc := ⟨9, [.t 4], 
 (.seq (.reg [⟨(some 4), .p (.mv (.c (.bool false))), none⟩] [0, 1])
 (.seq (.reg [⟨(some 5), .p (.mv (.s 0)), none⟩,
 ⟨(some 6), .p (.mv (.s 1)), none⟩,
 ⟨(some 7), .e (.call N.slices_IndexFunc_string_string_ [(.s 5), (.s 6)] true), none⟩,
 ⟨(some 8), .p (.bin .geq (.s 7) (.c (.int .i64 0))), none⟩,
 ⟨(some 4), .p (.mv (.s 8)), none⟩] [4])
 .ret))⟩

def F.filter_Right_1 : LFunc := ⟨6, [.t 2], 
 (.seq (.reg [⟨(some 2), .p (.mv (.c (.bool false))), none⟩] [0])
 (.seq (.reg [⟨(some 3), .p (.mv (.s 0)), none⟩,
 ⟨(some 4), .e (.call N.filter_name [(.s 3)] true), none⟩,
 ⟨(some 5), .p (.un .not (.s 4)), none⟩,
 ⟨(some 2), .p (.mv (.s 5)), none⟩] [2])
 .ret))⟩

def F.filter_name : LFunc := ⟨17, [.t 2], 
 (.seq (.reg [⟨(some 2), .p (.mv (.c (.bool false))), none⟩] [0])
 (.seq (.reg [⟨(some 3), .p (.mv (.c (.fn N.filter_name_1 [] []))), none⟩] [0, 3])
 (.seq (.reg [⟨(some 4), .p (.mv (.s 0)), none⟩,
 ⟨(some 5), .p (.bin .neq (.s 4) (.c (.str []))), none⟩,
 ⟨(some 6), .p (.mv (.s 5)), none⟩,
 ⟨(some 7), .p (.mv (.s 0)), (some (6, true))⟩,
 ⟨(some 8), .p (.lens (.s 7)), (some (6, true))⟩,
 ⟨(some 9), .p (.bin .leq (.s 8) (.c (.int .i64 8))), (some (6, true))⟩,
 ⟨(some 10), .p (.pick (.s 6) (.s 9) (.c (.bool false))), none⟩,
 ⟨(some 11), .p (.mv (.s 10)), none⟩,
 ⟨(some 12), .p (.mv (.s 0)), (some (11, true))⟩,
 ⟨(some 13), .p (.mv (.s 3)), (some (11, true))⟩,
 ⟨(some 14), .e (.call N.strings_ContainsFunc [(.s 12), (.s 13)] true), (some (11, true))⟩,
 ⟨(some 15), .p (.un .not (.s 14)), (some (11, true))⟩,
 ⟨(some 16), .p (.pick (.s 11) (.s 15) (.c (.bool false))), none⟩,
 ⟨(some 2), .p (.mv (.s 16)), none⟩] [2])
 .ret)))⟩

def F.filter_within : LFunc := ⟨12, [.t 4], 
 (.seq (.reg [⟨(some 4), .p (.mv (.c (.bool false))), none⟩] [0, 1])
 (.seq (.reg [⟨(some 5), .p (.mv (.s 0)), none⟩,
 ⟨(some 6), .p (.bin .geq (.s 5) (.c (.int .i64 0))), none⟩,
 ⟨(some 7), .p (.mv (.s 6)), none⟩,
 ⟨(some 8), .p (.mv (.s 0)), (some (7, true))⟩,
 ⟨(some 9), .p (.mv (.s 1)), (some (7, true))⟩,
 ⟨(some 10), .p (.bin .leq (.s 8) (.s 9)), (some (7, true))⟩,
 ⟨(some 11), .p (.pick (.s 7) (.s 10) (.c (.bool false))), none⟩,
 ⟨(some 4), .p (.mv (.s 11)), none⟩] [4])
 .ret))⟩

def F.slices_IndexFunc_api_Mut_api_Mut_ : LFunc := ⟨19, [.t 4], 
 (.seq (.reg [⟨(some 4), .p (.mv (.c (.int .i64 0))), none⟩] [0, 1])
 (.seq (.seq (.reg [⟨(some 6), .p (.mv (.s 0)), none⟩,
 ⟨(some 7), .p (.lenl (.s 6)), none⟩,
 ⟨(some 8), .p (.mv (.c (.int .i64 0))), none⟩] [0, 1, 7, 8])
 (.block 0 (.loop (.seq (.reg [⟨(some 9), .p (.bin .lss (.s 8) (.s 7)), none⟩] [0, 1, 7, 8, 9])
 (.seq (.cond (.s 9) .skip (.exit 0))
 (.seq (.block 1 (.seq (.reg [⟨(some 10), .p (.mv (.s 8)), none⟩,
 ⟨(some 5), .p (.mv (.s 10)), none⟩] [0, 1, 5, 7, 8])
 (.seq (.reg [⟨(some 11), .p (.mv (.s 1)), none⟩,
 ⟨(some 12), .p (.mv (.s 0)), none⟩,
 ⟨(some 13), .p (.mv (.s 5)), none⟩,
 ⟨(some 14), .p (.iadr 6 (.s 12) (.s 13)), none⟩,
 ⟨(some 15), .p (.ldn 6 (.s 14)), none⟩,
 ⟨(some 16), .e (.callv (.s 11) [(.s 15)] true), none⟩] [0, 1, 5, 7, 8, 16])
 (.cond (.s 16) (.seq (.reg [⟨(some 17), .p (.mv (.s 5)), none⟩,
 ⟨(some 4), .p (.mv (.s 17)), none⟩] [4])
 .ret) .skip))))
 (.reg [⟨(some 18), .p (.bin .add (.s 8) (.c (.int .i64 1))), none⟩,
 ⟨(some 8), .p (.mv (.s 18)), none⟩] [0, 1, 7, 8])))) [0, 1, 7, 8])))
 (.seq (.reg [⟨(some 4), .p (.mv (.c (.int .i64 (-1)))), none⟩] [4])
 .ret)))⟩

def F.plan_name_1 : LFunc := ⟨17, [.t 2], 
 (.seq (.reg [⟨(some 2), .p (.mv (.c (.bool false))), none⟩] [0])
 (.seq (.reg [⟨(some 3), .p (.mv (.s 0)), none⟩,
 ⟨(some 4), .p (.bin .lss (.s 3) (.c (.int .i32 97))), none⟩,
 ⟨(some 5), .p (.mv (.s 4)), none⟩,
 ⟨(some 6), .p (.mv (.s 0)), (some (5, false))⟩,
 ⟨(some 7), .p (.bin .gtr (.s 6) (.c (.int .i32 122))), (some (5, false))⟩,
 ⟨(some 8), .p (.pick (.s 5) (.c (.bool true)) (.s 7)), none⟩,
 ⟨(some 9), .p (.mv (.s 8)), none⟩,
 ⟨(some 10), .p (.mv (.s 0)), (some (9, true))⟩,
 ⟨(some 11), .p (.bin .lss (.s 10) (.c (.int .i32 48))), (some (9, true))⟩,
 ⟨(some 12), .p (.mv (.s 11)), (some (9, true))⟩,
 ⟨(some 13), .p (.mv (.s 0)), (some (12, false))⟩,
 ⟨(some 14), .p (.bin .gtr (.s 13) (.c (.int .i32 57))), (some (12, false))⟩,
 ⟨(some 15), .p (.pick (.s 12) (.c (.bool true)) (.s 14)), (some (9, true))⟩,
 ⟨(some 16), .p (.pick (.s 9) (.s 15) (.c (.bool false))), none⟩,
 ⟨(some 2), .p (.mv (.s 16)), none⟩] [2])
 .ret))⟩

def F.strings_ContainsFunc : LFunc := ⟨9, [.t 4], 
 (.seq (.reg [⟨(some 4), .p (.mv (.c (.bool false))), none⟩] [0, 1])
 (.seq (.reg [⟨(some 5), .p (.mv (.s 0)), none⟩,
 ⟨(some 6), .p (.mv (.s 1)), none⟩,
 ⟨(some 7), .e (.call N.strings_IndexFunc [(.s 5), (.s 6)] true), none⟩,
 ⟨(some 8), .p (.bin .geq (.s 7) (.c (.int .i64 0))), none⟩,
 ⟨(some 4), .p (.mv (.s 8)), none⟩] [4])
 .ret))⟩

def F.float_bits_right : LFunc := ⟨10, [.t 2], 
 (.seq (.reg [⟨(some 2), .p (.mv (.c (.bool false))), none⟩] [0])
 (.seq (.reg [⟨(some 3), .p (.mv (.s 0)), none⟩,
 ⟨(some 4), .p (.bin .andNot (.s 3) (.c (.int .u64 9223372036854775808))), none⟩,
 ⟨(some 5), .p (.bin .leq (.s 4) (.c (.int .u64 9218868437227405312))), none⟩,
 ⟨(some 6), .p (.mv (.s 5)), none⟩,
 ⟨(some 7), .p (.mv (.s 0)), (some (6, false))⟩,
 ⟨(some 8), .p (.bin .eql (.s 7) (.c (.int .u64 9221120237041090560))), (some (6, false))⟩,
 ⟨(some 9), .p (.pick (.s 6) (.c (.bool true)) (.s 8)), none⟩,
 ⟨(some 2), .p (.mv (.s 9)), none⟩] [2])
 .ret))⟩

def F.codec_Order : LFunc := ⟨37, [.t 4], 
 (.seq (.reg [⟨(some 2), .e (.box 8 (.s 0)), none⟩,
 ⟨(some 3), .e (.box 8 (.s 1)), none⟩,
 ⟨(some 4), .p (.mv (.c (.int .i64 0))), none⟩] [2, 3])
 (.seq (.regD [⟨(some 5), .p (.foff 0 (.s 2)), none⟩,
 ⟨(some 6), .p (.ld (.s 5)), none⟩,
 ⟨(some 7), .p (.foff 0 (.s 3)), none⟩,
 ⟨(some 8), .p (.ld (.s 7)), none⟩,
 ⟨(some 10), .p (.foff 1 (.s 2)), none⟩,
 ⟨(some 11), .p (.ld (.s 10)), none⟩,
 ⟨(some 12), .p (.foff 1 (.s 3)), none⟩,
 ⟨(some 13), .p (.ld (.s 12)), none⟩,
 ⟨(some 15), .p (.ldn 8 (.s 2)), none⟩,
 ⟨(some 17), .p (.ldn 8 (.s 3)), none⟩,
 ⟨(some 20), .p (.foff 2 (.s 2)), none⟩,
 ⟨(some 21), .p (.ld (.s 20)), none⟩,
 ⟨(some 22), .p (.foff 2 (.s 3)), none⟩,
 ⟨(some 23), .p (.ld (.s 22)), none⟩,
 ⟨(some 25), .p (.foff 3 (.s 3)), none⟩,
 ⟨(some 26), .p (.ld (.s 25)), none⟩,
 ⟨(some 27), .p (.foff 3 (.s 2)), none⟩,
 ⟨(some 28), .p (.ld (.s 27)), none⟩,
 ⟨(some 30), .p (.foff 4 (.s 3)), none⟩,
 ⟨(some 31), .p (.ld (.s 30)), none⟩,
 ⟨(some 32), .p (.foff 4 (.s 2)), none⟩,
 ⟨(some 33), .p (.ld (.s 32)), none⟩,
 ⟨(some 9), .e (.call N.strings_Compare [(.s 6), (.s 8)] true), none⟩,
 ⟨(some 11), .s (.ld (.s 10)), none⟩,
 ⟨(some 13), .s (.ld (.s 12)), none⟩,
 ⟨(some 15), .s (.ldn 8 (.s 2)), none⟩,
 ⟨(some 17), .s (.ldn 8 (.s 3)), none⟩,
 ⟨(some 21), .s (.ld (.s 20)), none⟩,
 ⟨(some 23), .s (.ld (.s 22)), none⟩,
 ⟨(some 26), .s (.ld (.s 25)), none⟩,
 ⟨(some 28), .s (.ld (.s 27)), none⟩,
 ⟨(some 31), .s (.ld (.s 30)), none⟩,
 ⟨(some 33), .s (.ld (.s 32)), none⟩,
 ⟨(some 14), .e (.call N.strings_Compare [(.s 11), (.s 13)] true), none⟩,
 ⟨(some 15), .s (.ldn 8 (.s 2)), none⟩,
 ⟨(some 17), .s (.ldn 8 (.s 3)), none⟩,
 ⟨(some 21), .s (.ld (.s 20)), none⟩,
 ⟨(some 23), .s (.ld (.s 22)), none⟩,
 ⟨(some 26), .s (.ld (.s 25)), none⟩,
 ⟨(some 28), .s (.ld (.s 27)), none⟩,
 ⟨(some 31), .s (.ld (.s 30)), none⟩,
 ⟨(some 33), .s (.ld (.s 32)), none⟩,
 ⟨(some 16), .e (.call N.codec_whole [(.s 15)] true), none⟩,
 ⟨(some 17), .s (.ldn 8 (.s 3)), none⟩,
 ⟨(some 21), .s (.ld (.s 20)), none⟩,
 ⟨(some 23), .s (.ld (.s 22)), none⟩,
 ⟨(some 26), .s (.ld (.s 25)), none⟩,
 ⟨(some 28), .s (.ld (.s 27)), none⟩,
 ⟨(some 31), .s (.ld (.s 30)), none⟩,
 ⟨(some 33), .s (.ld (.s 32)), none⟩,
 ⟨(some 18), .e (.call N.codec_whole [(.s 17)] true), none⟩,
 ⟨(some 21), .s (.ld (.s 20)), none⟩,
 ⟨(some 23), .s (.ld (.s 22)), none⟩,
 ⟨(some 26), .s (.ld (.s 25)), none⟩,
 ⟨(some 28), .s (.ld (.s 27)), none⟩,
 ⟨(some 31), .s (.ld (.s 30)), none⟩,
 ⟨(some 33), .s (.ld (.s 32)), none⟩,
 ⟨(some 19), .e (.call N.cmp_Compare_int [(.s 16), (.s 18)] true), none⟩,
 ⟨(some 21), .s (.ld (.s 20)), none⟩,
 ⟨(some 23), .s (.ld (.s 22)), none⟩,
 ⟨(some 26), .s (.ld (.s 25)), none⟩,
 ⟨(some 28), .s (.ld (.s 27)), none⟩,
 ⟨(some 31), .s (.ld (.s 30)), none⟩,
 ⟨(some 33), .s (.ld (.s 32)), none⟩,
 ⟨(some 24), .e (.call N.strings_Compare [(.s 21), (.s 23)] true), none⟩,
 ⟨(some 26), .s (.ld (.s 25)), none⟩,
 ⟨(some 28), .s (.ld (.s 27)), none⟩,
 ⟨(some 31), .s (.ld (.s 30)), none⟩,
 ⟨(some 33), .s (.ld (.s 32)), none⟩,
 ⟨(some 29), .e (.call N.cmp_Compare_int [(.s 26), (.s 28)] true), none⟩,
 ⟨(some 31), .s (.ld (.s 30)), none⟩,
 ⟨(some 33), .s (.ld (.s 32)), none⟩,
 ⟨(some 34), .e (.call N.cmp_Compare_int [(.s 31), (.s 33)] true), none⟩,
 ⟨none, .b 1 6 [.int .i64 0] [(0, 1, (.s 9)), (1, 1, (.s 14)), (2, 1, (.s 19)), (3, 1, (.s 24)), (4, 1, (.s 29)), (5, 1, (.s 34))], none⟩,
 ⟨(some 35), .e (.bsl 1 6 [.int .i64 0] [(0, 1, (.s 9)), (1, 1, (.s 14)), (2, 1, (.s 19)), (3, 1, (.s 24)), (4, 1, (.s 29)), (5, 1, (.s 34))]), none⟩,
 ⟨(some 36), .e (.call N.cmp_Or_int [(.s 35)] true), none⟩,
 ⟨(some 4), .p (.mv (.s 36)), none⟩] [0, 1, 2, 3, 5, 6, 7, 8, 10, 12, 15, 16, 17, 18, 20, 21, 22, 23, 25, 26, 27, 28, 4, 9, 11, 13, 14, 19, 24, 29, 30, 31, 32] [4])
 .ret))⟩

def F.slices_insertionSortOrdered_string : LFunc := ⟨49, [], 
 (.seq (.reg [⟨(some 8), .p (.mv (.s 1)), none⟩,
 ⟨(some 9), .p (.bin .add (.s 8) (.c (.int .i64 1))), none⟩,
 ⟨(some 6), .p (.mv (.s 9)), none⟩] [0, 1, 2, 6])
 (.block 0 (.loop (.seq (.seq (.reg [⟨(some 10), .p (.mv (.s 6)), none⟩,
 ⟨(some 11), .p (.mv (.s 2)), none⟩,
 ⟨(some 12), .p (.bin .lss (.s 10) (.s 11)), none⟩] [0, 1, 2, 6, 12])
 (.cond (.s 12) .skip (.exit 0)))
 (.seq (.block 1 (.seq (.reg [⟨(some 15), .p (.mv (.s 6)), none⟩,
 ⟨(some 7), .p (.mv (.s 15)), none⟩] [0, 1, 2, 6, 7])
 (.block 2 (.loop (.seq (.seq (.regD [⟨(some 16), .p (.mv (.s 7)), none⟩,
 ⟨(some 17), .p (.mv (.s 1)), none⟩,
 ⟨(some 18), .p (.bin .gtr (.s 16) (.s 17)), none⟩,
 ⟨(some 19), .p (.mv (.s 18)), none⟩,
 ⟨(some 20), .p (.mv (.s 0)), (some (19, true))⟩,
 ⟨(some 21), .p (.mv (.s 7)), (some (19, true))⟩,
 ⟨(some 22), .p (.iadr 1 (.s 20) (.s 21)), (some (19, true))⟩,
 ⟨(some 23), .p (.ld (.s 22)), (some (19, true))⟩,
 ⟨(some 24), .p (.mv (.s 0)), (some (19, true))⟩,
 ⟨(some 25), .p (.mv (.s 7)), (some (19, true))⟩,
 ⟨(some 26), .p (.bin .sub (.s 25) (.c (.int .i64 1))), (some (19, true))⟩,
 ⟨(some 27), .p (.iadr 1 (.s 24) (.s 26)), (some (19, true))⟩,
 ⟨(some 28), .p (.ld (.s 27)), (some (19, true))⟩,
 ⟨(some 29), .e (.call N.cmp_Less_string [(.s 23), (.s 28)] false), (some (19, true))⟩,
 ⟨(some 30), .p (.pick (.s 19) (.s 29) (.c (.bool false))), none⟩] [0, 1, 2, 3, 4, 5, 6, 7, 8, 9, 10, 11, 12, 13, 14] [0, 1, 2, 6, 7, 30])
 (.cond (.s 30) .skip (.exit 2)))
 (.seq (.block 3 (.regD [⟨(some 33), .p (.mv (.s 0)), none⟩,
 ⟨(some 34), .p (.mv (.s 7)), none⟩,
 ⟨(some 35), .p (.mv (.s 0)), none⟩,
 ⟨(some 36), .p (.mv (.s 7)), none⟩,
 ⟨(some 37), .p (.bin .sub (.s 36) (.c (.int .i64 1))), none⟩,
 ⟨(some 38), .p (.mv (.s 0)), none⟩,
 ⟨(some 39), .p (.mv (.s 7)), none⟩,
 ⟨(some 40), .p (.bin .sub (.s 39) (.c (.int .i64 1))), none⟩,
 ⟨(some 41), .p (.iadr 1 (.s 38) (.s 40)), none⟩,
 ⟨(some 42), .p (.ld (.s 41)), none⟩,
 ⟨(some 43), .p (.mv (.s 0)), none⟩,
 ⟨(some 44), .p (.mv (.s 7)), none⟩,
 ⟨(some 45), .p (.iadr 1 (.s 43) (.s 44)), none⟩,
 ⟨(some 46), .p (.ld (.s 45)), none⟩,
 ⟨(some 47), .p (.iadr 1 (.s 33) (.s 34)), none⟩,
 ⟨none, .e (.st (.s 47) (.s 42)), none⟩,
 ⟨(some 48), .p (.iadr 1 (.s 35) (.s 37)), none⟩,
 ⟨none, .e (.st (.s 48) (.s 46)), none⟩] [0, 1, 2, 3, 4, 5, 6, 7, 8, 9, 10, 11, 12, 13, 14, 15, 16, 17] [0, 1, 2, 6, 7]))
 (.reg [⟨(some 31), .p (.mv (.s 7)), none⟩,
 ⟨(some 32), .p (.bin .sub (.s 31) (.c (.int .i64 1))), none⟩,
 ⟨(some 7), .p (.mv (.s 32)), none⟩] [0, 1, 2, 6, 7]))) [0, 1, 2, 6, 7]))))
 (.reg [⟨(some 13), .p (.mv (.s 6)), none⟩,
 ⟨(some 14), .p (.bin .add (.s 13) (.c (.int .i64 1))), none⟩,
 ⟨(some 6), .p (.mv (.s 14)), none⟩] [0, 1, 2, 6]))) [0, 1, 2, 6])))⟩

def F.cmp_Less_string : LFunc := ⟨17, [.t 4], 
 (.seq (.reg [⟨(some 4), .p (.mv (.c (.bool false))), none⟩] [0, 1])
 (.seq (.reg [⟨(some 5), .p (.mv (.s 0)), none⟩,
 ⟨(some 6), .e (.call N.cmp_isNaN_string [(.s 5)] true), none⟩,
 ⟨(some 7), .p (.mv (.s 6)), none⟩,
 ⟨(some 8), .p (.mv (.s 1)), (some (7, true))⟩,
 ⟨(some 9), .e (.call N.cmp_isNaN_string [(.s 8)] true), (some (7, true))⟩,
 ⟨(some 10), .p (.un .not (.s 9)), (some (7, true))⟩,
 ⟨(some 11), .p (.pick (.s 7) (.s 10) (.c (.bool false))), none⟩,
 ⟨(some 12), .p (.mv (.s 11)), none⟩,
 ⟨(some 13), .p (.mv (.s 0)), (some (12, false))⟩,
 ⟨(some 14), .p (.mv (.s 1)), (some (12, false))⟩,
 ⟨(some 15), .p (.bin .lss (.s 13) (.s 14)), (some (12, false))⟩,
 ⟨(some 16), .p (.pick (.s 12) (.c (.bool true)) (.s 15)), none⟩,
 ⟨(some 4), .p (.mv (.s 16)), none⟩] [4])
 .ret))⟩

def F.math_bits_Len64 : LFunc := ⟨25, [.t 2], 
 (.seq (.reg [⟨(some 2), .p (.mv (.c (.int .i64 0))), none⟩] [0, 2])
 (.seq (.seq (.reg [⟨(some 3), .p (.mv (.s 0)), none⟩,
 ⟨(some 4), .p (.bin .geq (.s 3) (.c (.int .u64 4294967296))), none⟩] [0, 2, 4])
 (.cond (.s 4) (.seq (.reg [⟨(some 5), .p (.mv (.s 0)), none⟩,
 ⟨(some 6), .p (.bin .shr (.s 5) (.c (.int .u64 32))), none⟩,
 ⟨(some 0), .p (.mv (.s 6)), none⟩] [0])
 (.reg [⟨(some 2), .p (.mv (.c (.int .i64 32))), none⟩] [0, 2])) .skip))
 (.seq (.seq (.reg [⟨(some 7), .p (.mv (.s 0)), none⟩,
 ⟨(some 8), .p (.bin .geq (.s 7) (.c (.int .u64 65536))), none⟩] [0, 2, 8])
 (.cond (.s 8) (.seq (.reg [⟨(some 9), .p (.mv (.s 0)), none⟩,
 ⟨(some 10), .p (.bin .shr (.s 9) (.c (.int .u64 16))), none⟩,
 ⟨(some 0), .p (.mv (.s 10)), none⟩] [0, 2])
 (.reg [⟨(some 11), .p (.mv (.s 2)), none⟩,
 ⟨(some 12), .p (.bin .add (.s 11) (.c (.int .i64 16))), none⟩,
 ⟨(some 2), .p (.mv (.s 12)), none⟩] [0, 2])) .skip))
 (.seq (.seq (.reg [⟨(some 13), .p (.mv (.s 0)), none⟩,
 ⟨(some 14), .p (.bin .geq (.s 13) (.c (.int .u64 256))), none⟩] [0, 2, 14])
 (.cond (.s 14) (.seq (.reg [⟨(some 15), .p (.mv (.s 0)), none⟩,
 ⟨(some 16), .p (.bin .shr (.s 15) (.c (.int .u64 8))), none⟩,
 ⟨(some 0), .p (.mv (.s 16)), none⟩] [0, 2])
 (.reg [⟨(some 17), .p (.mv (.s 2)), none⟩,
 ⟨(some 18), .p (.bin .add (.s 17) (.c (.int .i64 8))), none⟩,
 ⟨(some 2), .p (.mv (.s 18)), none⟩] [0, 2])) .skip))
 (.seq (.reg [⟨(some 19), .p (.mv (.s 2)), none⟩,
 ⟨(some 20), .p (.mv (.s 0)), none⟩,
 ⟨(some 21), .p (.cvt .u8 (.s 20)), none⟩,
 ⟨(some 22), .p (.idxs (.c (.str [0, 1, 2, 2, 3, 3, 3, 3, 4, 4, 4, 4, 4, 4, 4, 4, 5, 5, 5, 5, 5, 5, 5, 5, 5, 5, 5, 5, 5, 5, 5, 5, 6, 6, 6, 6, 6, 6, 6, 6, 6, 6, 6, 6, 6, 6, 6, 6, 6, 6, 6, 6, 6, 6, 6, 6, 6, 6, 6, 6, 6, 6, 6, 6, 7, 7, 7, 7, 7, 7, 7, 7, 7, 7, 7, 7, 7, 7, 7, 7, 7, 7, 7, 7, 7, 7, 7, 7, 7, 7, 7, 7, 7, 7, 7, 7, 7, 7, 7, 7, 7, 7, 7, 7, 7, 7, 7, 7, 7, 7, 7, 7, 7, 7, 7, 7, 7, 7, 7, 7, 7, 7, 7, 7, 7, 7, 7, 7, 8, 8, 8, 8, 8, 8, 8, 8, 8, 8, 8, 8, 8, 8, 8, 8, 8, 8, 8, 8, 8, 8, 8, 8, 8, 8, 8, 8, 8, 8, 8, 8, 8, 8, 8, 8, 8, 8, 8, 8, 8, 8, 8, 8, 8, 8, 8, 8, 8, 8, 8, 8, 8, 8, 8, 8, 8, 8, 8, 8, 8, 8, 8, 8, 8, 8, 8, 8, 8, 8, 8, 8, 8, 8, 8, 8, 8, 8, 8, 8, 8, 8, 8, 8, 8, 8, 8, 8, 8, 8, 8, 8, 8, 8, 8, 8, 8, 8, 8, 8, 8, 8, 8, 8, 8, 8, 8, 8, 8, 8, 8, 8, 8, 8, 8, 8, 8, 8, 8, 8, 8, 8, 8, 8, 8, 8, 8, 8])) (.s 21)), none⟩,
 ⟨(some 23), .p (.cvt .i64 (.s 22)), none⟩,
 ⟨(some 24), .p (.bin .add (.s 19) (.s 23)), none⟩,
 ⟨(some 2), .p (.mv (.s 24)), none⟩] [2])
 .ret)))))⟩

def F.schema_name_1 : LFunc := ⟨17, [.t 2], 
 (.seq (.reg [⟨(some 2), .p (.mv (.c (.bool false))), none⟩] [0])
 (.seq (.reg [⟨(some 3), .p (.mv (.s 0)), none⟩,
 ⟨(some 4), .p (.bin .lss (.s 3) (.c (.int .i32 97))), none⟩,
 ⟨(some 5), .p (.mv (.s 4)), none⟩,
 ⟨(some 6), .p (.mv (.s 0)), (some (5, false))⟩,
 ⟨(some 7), .p (.bin .gtr (.s 6) (.c (.int .i32 122))), (some (5, false))⟩,
 ⟨(some 8), .p (.pick (.s 5) (.c (.bool true)) (.s 7)), none⟩,
 ⟨(some 9), .p (.mv (.s 8)), none⟩,
 ⟨(some 10), .p (.mv (.s 0)), (some (9, true))⟩,
 ⟨(some 11), .p (.bin .lss (.s 10) (.c (.int .i32 48))), (some (9, true))⟩,
 ⟨(some 12), .p (.mv (.s 11)), (some (9, true))⟩,
 ⟨(some 13), .p (.mv (.s 0)), (some (12, false))⟩,
 ⟨(some 14), .p (.bin .gtr (.s 13) (.c (.int .i32 57))), (some (12, false))⟩,
 ⟨(some 15), .p (.pick (.s 12) (.c (.bool true)) (.s 14)), (some (9, true))⟩,
 ⟨(some 16), .p (.pick (.s 9) (.s 15) (.c (.bool false))), none⟩,
 ⟨(some 2), .p (.mv (.s 16)), none⟩] [2])
 .ret))⟩

def F.schema_state : LFunc := ⟨5, [.t 2], 
 (.seq (.reg [⟨(some 2), .p (.mv (.c (.bool false))), none⟩] [0])
 (.seq (.reg [⟨(some 3), .p (.mv (.s 0)), none⟩,
 ⟨(some 4), .e (.call N.schema_within [(.s 3), (.c (.int .i64 1)), (.c (.int .i64 3))] true), none⟩,
 ⟨(some 2), .p (.mv (.s 4)), none⟩] [2])
 .ret))⟩

def F.schema_once_int : LFunc := ⟨27, [.t 4], 
 (.seq (.reg [⟨(some 4), .p (.mv (.c (.bool false))), none⟩] [0, 1])
 (.seq (.reg [⟨(some 8), .e (.mkmap), none⟩,
 ⟨(some 5), .p (.mv (.s 8)), none⟩] [0, 1, 5])
 (.seq (.seq (.reg [⟨(some 9), .p (.mv (.s 0)), none⟩,
 ⟨(some 10), .p (.lenl (.s 9)), none⟩,
 ⟨(some 11), .p (.mv (.c (.int .i64 0))), none⟩] [0, 1, 5, 9, 10, 11])
 (.block 0 (.loop (.seq (.reg [⟨(some 12), .p (.bin .lss (.s 11) (.s 10)), none⟩] [0, 1, 5, 9, 10, 11, 12])
 (.seq (.cond (.s 12) .skip (.exit 0))
 (.seq (.block 1 (.seq (.reg [⟨(some 13), .p (.iadr 2 (.s 9) (.s 11)), none⟩,
 ⟨(some 14), .p (.ldn 2 (.s 13)), none⟩,
 ⟨(some 7), .e (.alloc [.int .i64 0, .int .i64 0]), none⟩,
 ⟨none, .e (.stn 2 (.s 7) (.s 14)), none⟩] [0, 1, 5, 7, 9, 10, 11])
 (.reg [⟨(some 15), .p (.mv (.s 5)), none⟩,
 ⟨(some 16), .p (.mv (.s 1)), none⟩,
 ⟨(some 17), .p (.ldn 2 (.s 7)), none⟩,
 ⟨(some 18), .e (.callv (.s 16) [(.s 17)] true), none⟩,
 ⟨(some 19), .p (.look 0 false (.int .i64 0) (.s 15) (.s 18)), none⟩,
 ⟨(some 20), .p (.bin .add (.s 19) (.c (.int .i64 1))), none⟩,
 ⟨none, .e (.mapup 0 (.s 15) (.s 18) (.s 20)), none⟩] [0, 1, 5, 9, 10, 11])))
 (.reg [⟨(some 21), .p (.bin .add (.s 11) (.c (.int .i64 1))), none⟩,
 ⟨(some 11), .p (.mv (.s 21)), none⟩] [0, 1, 5, 9, 10, 11])))) [0, 1, 5, 9, 10, 11])))
 (.seq (.reg [⟨(some 22), .p (.mv (.s 5)), none⟩,
 ⟨(some 23), .p (.lenm (.s 22)), none⟩,
 ⟨(some 24), .p (.mv (.s 0)), none⟩,
 ⟨(some 25), .p (.lenl (.s 24)), none⟩,
 ⟨(some 26), .p (.bin .eql (.s 23) (.s 25)), none⟩,
 ⟨(some 4), .p (.mv (.s 26)), none⟩] [4])
 .ret))))⟩

def F.schema_layouts_1 : LFunc := ⟨5, [.t 2], 
 (.seq (.reg [⟨(some 1), .e (.box 2 (.s 0)), none⟩,
 ⟨(some 2), .p (.mv (.c (.int .i64 0))), none⟩] [1])
 (.seq (.reg [⟨(some 3), .p (.foff 0 (.s 1)), none⟩,
 ⟨(some 4), .p (.ld (.s 3)), none⟩,
 ⟨(some 2), .p (.mv (.s 4)), none⟩] [2])
 .ret))⟩

def F.schema_cols_1 : LFunc := ⟨19, [.t 2], 
 (.seq (.reg [⟨(some 1), .e (.box 3 (.s 0)), none⟩,
 ⟨(some 2), .p (.mv (.c (.bool false))), none⟩] [1])
 (.seq (.reg [⟨(some 3), .p (.foff 0 (.s 1)), none⟩,
 ⟨(some 4), .p (.ld (.s 3)), none⟩,
 ⟨(some 5), .p (.lens (.s 4)), none⟩,
 ⟨(some 6), .p (.bin .gtr (.s 5) (.c (.int .i64 12))), none⟩,
 ⟨(some 7), .p (.mv (.s 6)), none⟩,
 ⟨(some 8), .p (.foff 1 (.s 1)), (some (7, false))⟩,
 ⟨(some 9), .p (.ld (.s 8)), (some (7, false))⟩,
 ⟨(some 10), .e (.call N.schema_within [(.s 9), (.c (.int .i64 1)), (.c (.int .i64 5))] true), (some (7, false))⟩,
 ⟨(some 11), .p (.un .not (.s 10)), (some (7, false))⟩,
 ⟨(some 12), .p (.pick (.s 7) (.c (.bool true)) (.s 11)), none⟩,
 ⟨(some 13), .p (.mv (.s 12)), none⟩,
 ⟨(some 14), .p (.foff 2 (.s 1)), (some (13, false))⟩,
 ⟨(some 15), .p (.ld (.s 14)), (some (13, false))⟩,
 ⟨(some 16), .e (.call N.schema_state [(.s 15)] true), (some (13, false))⟩,
 ⟨(some 17), .p (.un .not (.s 16)), (some (13, false))⟩,
 ⟨(some 18), .p (.pick (.s 13) (.c (.bool true)) (.s 17)), none⟩,
 ⟨(some 2), .p (.mv (.s 18)), none⟩] [2])
 .ret))⟩

def F.slices_ContainsFunc_api_Column_api_Column_ : LFunc := ⟨9, [.t 4], 
 (.seq (.reg [⟨(some 4), .p (.mv (.c (.bool false))), none⟩] [0, 1])
 (.seq (.reg [⟨(some 5), .p (.mv (.s 0)), none⟩,
 ⟨(some 6), .p (.mv (.s 1)), none⟩,
 ⟨(some 7), .e (.call N.slices_IndexFunc_api_Column_api_Column_ [(.s 5), (.s 6)] true), none⟩,
 ⟨(some 8), .p (.bin .geq (.s 7) (.c (.int .i64 0))), none⟩,
 ⟨(some 4), .p (.mv (.s 8)), none⟩] [4])
 .ret))⟩

def F.schema_once_string_2 : LFunc := ⟨27, [.t 4], 
 (.seq (.reg [⟨(some 4), .p (.mv (.c (.bool false))), none⟩] [0, 1])
 (.seq (.reg [⟨(some 8), .e (.mkmap), none⟩,
 ⟨(some 5), .p (.mv (.s 8)), none⟩] [0, 1, 5])
 (.seq (.seq (.reg [⟨(some 9), .p (.mv (.s 0)), none⟩,
 ⟨(some 10), .p (.lenl (.s 9)), none⟩,
 ⟨(some 11), .p (.mv (.c (.int .i64 0))), none⟩] [0, 1, 5, 9, 10, 11])
 (.block 0 (.loop (.seq (.reg [⟨(some 12), .p (.bin .lss (.s 11) (.s 10)), none⟩] [0, 1, 5, 9, 10, 11, 12])
 (.seq (.cond (.s 12) .skip (.exit 0))
 (.seq (.block 1 (.seq (.reg [⟨(some 13), .p (.iadr 3 (.s 9) (.s 11)), none⟩,
 ⟨(some 14), .p (.ldn 3 (.s 13)), none⟩,
 ⟨(some 7), .e (.alloc [.str [], .int .i64 0, .int .i64 0]), none⟩,
 ⟨none, .e (.stn 3 (.s 7) (.s 14)), none⟩] [0, 1, 5, 7, 9, 10, 11])
 (.reg [⟨(some 15), .p (.mv (.s 5)), none⟩,
 ⟨(some 16), .p (.mv (.s 1)), none⟩,
 ⟨(some 17), .p (.ldn 3 (.s 7)), none⟩,
 ⟨(some 18), .e (.callv (.s 16) [(.s 17)] true), none⟩,
 ⟨(some 19), .p (.look 1 false (.int .i64 0) (.s 15) (.s 18)), none⟩,
 ⟨(some 20), .p (.bin .add (.s 19) (.c (.int .i64 1))), none⟩,
 ⟨none, .e (.mapup 1 (.s 15) (.s 18) (.s 20)), none⟩] [0, 1, 5, 9, 10, 11])))
 (.reg [⟨(some 21), .p (.bin .add (.s 11) (.c (.int .i64 1))), none⟩,
 ⟨(some 11), .p (.mv (.s 21)), none⟩] [0, 1, 5, 9, 10, 11])))) [0, 1, 5, 9, 10, 11])))
 (.seq (.reg [⟨(some 22), .p (.mv (.s 5)), none⟩,
 ⟨(some 23), .p (.lenm (.s 22)), none⟩,
 ⟨(some 24), .p (.mv (.s 0)), none⟩,
 ⟨(some 25), .p (.lenl (.s 24)), none⟩,
 ⟨(some 26), .p (.bin .eql (.s 23) (.s 25)), none⟩,
 ⟨(some 4), .p (.mv (.s 26)), none⟩] [4])
 .ret))))⟩

def F.schema_cols_2 : LFunc := ⟨5, [.t 2], 
 (.seq (.reg [⟨(some 1), .e (.box 3 (.s 0)), none⟩,
 ⟨(some 2), .p (.mv (.c (.str []))), none⟩] [1])
 (.seq (.reg [⟨(some 3), .p (.foff 0 (.s 1)), none⟩,
 ⟨(some 4), .p (.ld (.s 3)), none⟩,
 ⟨(some 2), .p (.mv (.s 4)), none⟩] [2])
 .ret))⟩

def F.schema_Find_1 : LFunc := ⟨8, [.t 3], 
 (.seq (.reg [⟨(some 2), .e (.box 5 (.s 0)), none⟩,
 ⟨(some 3), .p (.mv (.c (.bool false))), none⟩] [1, 2])
 (.seq (.reg [⟨(some 4), .p (.foff 0 (.s 2)), none⟩,
 ⟨(some 5), .p (.ld (.s 4)), none⟩,
 ⟨(some 6), .p (.ld (.s 1)), none⟩,
 ⟨(some 7), .p (.bin .eql (.s 5) (.s 6)), none⟩,
 ⟨(some 3), .p (.mv (.s 7)), none⟩] [3])
 .ret))⟩

def F.schema_clone : LFunc := ⟨12, [.cn 2 5], 
 (.seq (.reg [⟨(some 1), .e (.box 5 (.s 0)), none⟩,
 ⟨(some 2), .e (.alloc [.str [], .int .i64 0, .int .i64 0, .psl [], .psl []]), none⟩] [1, 2])
 (.seq (.reg [⟨(some 3), .p (.foff 3 (.s 1)), none⟩,
 ⟨(some 4), .p (.ld (.s 3)), none⟩,
 ⟨(some 5), .e (.call N.slices_Clone_api_Layout_api_Layout_ [(.s 4)] true), none⟩,
 ⟨(some 6), .p (.foff 3 (.s 1)), none⟩,
 ⟨none, .e (.st (.s 6) (.s 5)), none⟩] [1, 2])
 (.seq (.reg [⟨(some 7), .p (.foff 4 (.s 1)), none⟩,
 ⟨(some 8), .p (.ld (.s 7)), none⟩,
 ⟨(some 9), .e (.call N.slices_Clone_api_Column_api_Column_ [(.s 8)] true), none⟩,
 ⟨(some 10), .p (.foff 4 (.s 1)), none⟩,
 ⟨none, .e (.st (.s 10) (.s 9)), none⟩] [1, 2])
 (.seq (.reg [⟨(some 11), .p (.ldn 5 (.s 1)), none⟩,
 ⟨none, .e (.stn 5 (.s 2) (.s 11)), none⟩] [2])
 .ret))))⟩

def F.slices_IndexFunc_string_string_ : LFunc := ⟨19, [.t 4], 
 (.seq (.reg [⟨(some 4), .p (.mv (.c (.int .i64 0))), none⟩] [0, 1])
 (.seq (.seq (.reg [⟨(some 6), .p (.mv (.s 0)), none⟩,
 ⟨(some 7), .p (.lenl (.s 6)), none⟩,
 ⟨(some 8), .p (.mv (.c (.int .i64 0))), none⟩] [0, 1, 7, 8])
 (.block 0 (.loop (.seq (.reg [⟨(some 9), .p (.bin .lss (.s 8) (.s 7)), none⟩] [0, 1, 7, 8, 9])
 (.seq (.cond (.s 9) .skip (.exit 0))
 (.seq (.block 1 (.seq (.reg [⟨(some 10), .p (.mv (.s 8)), none⟩,
 ⟨(some 5), .p (.mv (.s 10)), none⟩] [0, 1, 5, 7, 8])
 (.seq (.reg [⟨(some 11), .p (.mv (.s 1)), none⟩,
 ⟨(some 12), .p (.mv (.s 0)), none⟩,
 ⟨(some 13), .p (.mv (.s 5)), none⟩,
 ⟨(some 14), .p (.iadr 1 (.s 12) (.s 13)), none⟩,
 ⟨(some 15), .p (.ld (.s 14)), none⟩,
 ⟨(some 16), .e (.callv (.s 11) [(.s 15)] true), none⟩] [0, 1, 5, 7, 8, 16])
 (.cond (.s 16) (.seq (.reg [⟨(some 17), .p (.mv (.s 5)), none⟩,
 ⟨(some 4), .p (.mv (.s 17)), none⟩] [4])
 .ret) .skip))))
 (.reg [⟨(some 18), .p (.bin .add (.s 8) (.c (.int .i64 1))), none⟩,
 ⟨(some 8), .p (.mv (.s 18)), none⟩] [0, 1, 7, 8])))) [0, 1, 7, 8])))
 (.seq (.reg [⟨(some 4), .p (.mv (.c (.int .i64 (-1)))), none⟩] [4])
 .ret)))⟩

def F.filter_name_1 : LFunc := ⟨17, [.t 2], 
 (.seq (.reg [⟨(some 2), .p (.mv (.c (.bool false))), none⟩] [0])
 (.seq (.reg [⟨(some 3), .p (.mv (.s 0)), none⟩,
 ⟨(some 4), .p (.bin .lss (.s 3) (.c (.int .i32 97))), none⟩,
 ⟨(some 5), .p (.mv (.s 4)), none⟩,
 ⟨(some 6), .p (.mv (.s 0)), (some (5, false))⟩,
 ⟨(some 7), .p (.bin .gtr (.s 6) (.c (.int .i32 122))), (some (5, false))⟩,
 ⟨(some 8), .p (.pick (.s 5) (.c (.bool true)) (.s 7)), none⟩,
 ⟨(some 9), .p (.mv (.s 8)), none⟩,
 ⟨(some 10), .p (.mv (.s 0)), (some (9, true))⟩,
 ⟨(some 11), .p (.bin .lss (.s 10) (.c (.int .i32 48))), (some (9, true))⟩,
 ⟨(some 12), .p (.mv (.s 11)), (some (9, true))⟩,
 ⟨(some 13), .p (.mv (.s 0)), (some (12, false))⟩,
 ⟨(some 14), .p (.bin .gtr (.s 13) (.c (.int .i32 57))), (some (12, false))⟩,
 ⟨(some 15), .p (.pick (.s 12) (.c (.bool true)) (.s 14)), (some (9, true))⟩,
 ⟨(some 16), .p (.pick (.s 9) (.s 15) (.c (.bool false))), none⟩,
 ⟨(some 2), .p (.mv (.s 16)), none⟩] [2])
 .ret))⟩

def F.strings_IndexFunc : LFunc := ⟨8, [.t 4], 
 (.seq (.reg [⟨(some 4), .p (.mv (.c (.int .i64 0))), none⟩] [0, 1])
 (.seq (.reg [⟨(some 5), .p (.mv (.s 0)), none⟩,
 ⟨(some 6), .p (.mv (.s 1)), none⟩,
 ⟨(some 7), .e (.call N.strings_indexFunc [(.s 5), (.s 6), (.c (.bool true))] true), none⟩,
 ⟨(some 4), .p (.mv (.s 7)), none⟩] [4])
 .ret))⟩

def F.cmp_Or_int : LFunc := ⟨18, [.t 2], 
 (.seq (.reg [⟨(some 2), .p (.mv (.c (.int .i64 0))), none⟩] [0])
 (.seq (.reg [⟨(some 3), .p (.mv (.c (.int .i64 0))), none⟩] [0, 3])
 (.seq (.seq (.reg [⟨(some 6), .p (.mv (.s 0)), none⟩,
 ⟨(some 7), .p (.lenl (.s 6)), none⟩,
 ⟨(some 8), .p (.mv (.c (.int .i64 0))), none⟩] [3, 6, 7, 8])
 (.block 0 (.loop (.seq (.reg [⟨(some 9), .p (.bin .lss (.s 8) (.s 7)), none⟩] [3, 6, 7, 8, 9])
 (.seq (.cond (.s 9) .skip (.exit 0))
 (.seq (.block 1 (.seq (.reg [⟨(some 10), .p (.iadr 1 (.s 6) (.s 8)), none⟩,
 ⟨(some 11), .p (.ld (.s 10)), none⟩,
 ⟨(some 5), .p (.mv (.s 11)), none⟩] [3, 5, 6, 7, 8])
 (.seq (.reg [⟨(some 12), .p (.mv (.s 5)), none⟩,
 ⟨(some 13), .p (.mv (.s 3)), none⟩,
 ⟨(some 14), .p (.bin .neq (.s 12) (.s 13)), none⟩] [3, 5, 6, 7, 8, 14])
 (.cond (.s 14) (.seq (.reg [⟨(some 15), .p (.mv (.s 5)), none⟩,
 ⟨(some 2), .p (.mv (.s 15)), none⟩] [2])
 .ret) .skip))))
 (.reg [⟨(some 16), .p (.bin .add (.s 8) (.c (.int .i64 1))), none⟩,
 ⟨(some 8), .p (.mv (.s 16)), none⟩] [3, 6, 7, 8])))) [3, 6, 7, 8])))
 (.seq (.reg [⟨(some 17), .p (.mv (.s 3)), none⟩,
 ⟨(some 2), .p (.mv (.s 17)), none⟩] [2])
 .ret))))⟩

def F.strings_Compare : LFunc := ⟨8, [.t 4], 
 (.seq (.reg [⟨(some 4), .p (.mv (.c (.int .i64 0))), none⟩] [0, 1])
 (.seq (.reg [⟨(some 5), .p (.mv (.s 0)), none⟩,
 ⟨(some 6), .p (.mv (.s 1)), none⟩,
 ⟨(some 7), .e (.call N.internal_bytealg_CompareString [(.s 5), (.s 6)] true), none⟩,
 ⟨(some 4), .p (.mv (.s 7)), none⟩] [4])
 .ret))⟩

def F.cmp_Compare_int : LFunc := ⟨20, [.t 4], 
 (.seq (.reg [⟨(some 4), .p (.mv (.c (.int .i64 0))), none⟩] [0, 1])
 (.seq (.reg [⟨(some 7), .p (.mv (.s 0)), none⟩,
 ⟨(some 8), .e (.call N.cmp_isNaN_int [(.s 7)] true), none⟩,
 ⟨(some 5), .p (.mv (.s 8)), none⟩] [0, 1, 5])
 (.seq (.reg [⟨(some 9), .p (.mv (.s 1)), none⟩,
 ⟨(some 10), .e (.call N.cmp_isNaN_int [(.s 9)] true), none⟩,
 ⟨(some 6), .p (.mv (.s 10)), none⟩] [0, 1, 5, 6])
 (.seq (.seq (.reg [⟨(some 11), .p (.mv (.s 5)), none⟩] [0, 1, 6, 11])
 (.cond (.s 11) (.seq (.seq (.reg [⟨(some 12), .p (.mv (.s 6)), none⟩] [12])
 (.cond (.s 12) (.seq (.reg [⟨(some 4), .p (.mv (.c (.int .i64 0))), none⟩] [4])
 .ret) .skip))
 (.seq (.reg [⟨(some 4), .p (.mv (.c (.int .i64 (-1)))), none⟩] [4])
 .ret)) .skip))
 (.seq (.seq (.reg [⟨(some 13), .p (.mv (.s 6)), none⟩] [0, 1, 13])
 (.cond (.s 13) (.seq (.reg [⟨(some 4), .p (.mv (.c (.int .i64 1))), none⟩] [4])
 .ret) .skip))
 (.seq (.seq (.reg [⟨(some 14), .p (.mv (.s 0)), none⟩,
 ⟨(some 15), .p (.mv (.s 1)), none⟩,
 ⟨(some 16), .p (.bin .lss (.s 14) (.s 15)), none⟩] [0, 1, 16])
 (.cond (.s 16) (.seq (.reg [⟨(some 4), .p (.mv (.c (.int .i64 (-1)))), none⟩] [4])
 .ret) .skip))
 (.seq (.seq (.reg [⟨(some 17), .p (.mv (.s 0)), none⟩,
 ⟨(some 18), .p (.mv (.s 1)), none⟩,
 ⟨(some 19), .p (.bin .gtr (.s 17) (.s 18)), none⟩] [19])
 (.cond (.s 19) (.seq (.reg [⟨(some 4), .p (.mv (.c (.int .i64 1))), none⟩] [4])
 .ret) .skip))
 (.seq (.reg [⟨(some 4), .p (.mv (.c (.int .i64 0))), none⟩] [4])
 .ret))))))))⟩

def F.codec_whole : LFunc := ⟨6, [.t 2], 
 (.seq (.reg [⟨(some 1), .e (.box 8 (.s 0)), none⟩,
 ⟨(some 2), .p (.mv (.c (.int .i64 0))), none⟩] [1])
 (.seq (.seq (.reg [⟨(some 3), .p (.foff 4 (.s 1)), none⟩,
 ⟨(some 4), .p (.ld (.s 3)), none⟩,
 ⟨(some 5), .p (.bin .eql (.s 4) (.c (.int .i64 4))), none⟩] [5])
 (.cond (.s 5) (.seq (.reg [⟨(some 2), .p (.mv (.c (.int .i64 0))), none⟩] [2])
 .ret) .skip))
 (.seq (.reg [⟨(some 2), .p (.mv (.c (.int .i64 1))), none⟩] [2])
 .ret)))⟩

def F.cmp_isNaN_string : LFunc := ⟨6, [.t 2], 
 (.seq (.reg [⟨(some 2), .p (.mv (.c (.bool false))), none⟩] [0])
 (.seq (.reg [⟨(some 3), .p (.mv (.s 0)), none⟩,
 ⟨(some 4), .p (.mv (.s 0)), none⟩,
 ⟨(some 5), .p (.bin .neq (.s 3) (.s 4)), none⟩,
 ⟨(some 2), .p (.mv (.s 5)), none⟩] [2])
 .ret))⟩

def F.slices_Clone_api_Column_api_Column_ : LFunc := ⟨8, [.t 2], 
 (.seq (.reg [⟨(some 2), .p (.mv (.c (.psl []))), none⟩] [0])
 (.seq (.seq (.reg [⟨(some 3), .p (.mv (.s 0)), none⟩,
 ⟨(some 4), .e (.isnil false (.s 3)), none⟩] [0, 4])
 (.cond (.s 4) (.seq (.reg [⟨(some 2), .p (.mv (.c (.psl []))), none⟩] [2])
 .ret) .skip))
 (.seq (.reg [⟨(some 5), .e (.bsl 3 0 [.str [], .int .i64 0, .int .i64 0] []), none⟩,
 ⟨(some 6), .p (.mv (.s 0)), none⟩,
 ⟨(some 7), .e (.app 3 32 (.s 5) (.s 6)), none⟩,
 ⟨(some 2), .p (.mv (.s 7)), none⟩] [2])
 .ret)))⟩

def F.strings_indexFunc : LFunc := ⟨21, [.t 6], 
 (.seq (.reg [⟨(some 6), .p (.mv (.c (.int .i64 0))), none⟩] [0, 1, 2])
 (.seq (.seq (.reg [⟨(some 9), .p (.mv (.s 0)), none⟩,
 ⟨(some 10), .e (.rstr (.s 9)), none⟩] [1, 2, 10])
 (.block 0 (.loop (.seq (.reg [⟨(some 11), .e (.nstr (.s 10)), none⟩,
 ⟨(some 12), .p (.ext (.s 11) 0), none⟩] [1, 2, 10, 11, 12])
 (.seq (.cond (.s 12) .skip (.exit 0))
 (.block 1 (.seq (.reg [⟨(some 13), .p (.ext (.s 11) 1), none⟩,
 ⟨(some 14), .p (.ext (.s 11) 2), none⟩,
 ⟨(some 7), .p (.mv (.s 13)), none⟩,
 ⟨(some 8), .p (.mv (.s 14)), none⟩] [1, 2, 7, 8, 10])
 (.seq (.reg [⟨(some 15), .p (.mv (.s 1)), none⟩,
 ⟨(some 16), .p (.mv (.s 8)), none⟩,
 ⟨(some 17), .e (.callv (.s 15) [(.s 16)] true), none⟩,
 ⟨(some 18), .p (.mv (.s 2)), none⟩,
 ⟨(some 19), .p (.eqk false .bool (.s 17) (.s 18)), none⟩] [1, 2, 7, 10, 19])
 (.cond (.s 19) (.seq (.reg [⟨(some 20), .p (.mv (.s 7)), none⟩,
 ⟨(some 6), .p (.mv (.s 20)), none⟩] [6])
 .ret) .skip)))))) [1, 2, 10])))
 (.seq (.reg [⟨(some 6), .p (.mv (.c (.int .i64 (-1)))), none⟩] [6])
 .ret)))⟩

def F.cmp_isNaN_int : LFunc := ⟨6, [.t 2], 
 (.seq (.reg [⟨(some 2), .p (.mv (.c (.bool false))), none⟩] [0])
 (.seq (.reg [⟨(some 3), .p (.mv (.s 0)), none⟩,
 ⟨(some 4), .p (.mv (.s 0)), none⟩,
 ⟨(some 5), .p (.bin .neq (.s 3) (.s 4)), none⟩,
 ⟨(some 2), .p (.mv (.s 5)), none⟩] [2])
 .ret))⟩

end Go.Ab.S2
