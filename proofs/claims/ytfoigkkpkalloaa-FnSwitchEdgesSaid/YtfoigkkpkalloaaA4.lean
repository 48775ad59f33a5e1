/- Part 4 of a proof by an ideal interpreter of the code: its definitions and lemmas. Conditions: none. -/
import Derived.KernelRfl
import Derived.Test.YtfoigkkpkalloaaA3
set_option linter.all false
set_option linter.unusedVariables false
set_option linter.unusedSimpArgs false
namespace Go.Idl
open Go
abbrev vi (n : Int) : Value := .int .i64 n
abbrev l_impl_Graph_degrees : Lab := 9
abbrev l_impl_ValidGraph : Lab := 26
abbrev l_impl_compareEdges : Lab := 32
abbrev l_impl_edge : Lab := 36
abbrev l_impl_in : Lab := 38
abbrev l_laws_equalInts : Lab := 53
abbrev l_math_bits_Len : Lab := 66
abbrev l_math_bits_Len32 : Lab := 67
abbrev l_math_bits_Len64 : Lab := 68
abbrev l_slices_nextPowerOfTwo : Lab := 91
abbrev l_slices_xorshift_Next : Lab := 106
abbrev l_spec_aGraph : Lab := 118
abbrev l_spec_complement : Lab := 122
abbrev l_spec_edgeBelow : Lab := 126
abbrev l_spec_goodGraph : Lab := 129
abbrev l_spec_hasEdge : Lab := 130
abbrev l_spec_inRange : Lab := 132
abbrev l_spec_newReader : Lab := 137
abbrev l_spec_pairs : Lab := 138
abbrev l_spec_reader_one : Lab := 139
abbrev l_spec_reader_pick : Lab := 140
abbrev l_spec_validGraph : Lab := 145
abbrev l_impl_DegreesOf : Lab := 161
abbrev l_impl_DifferenceOf : Lab := 163
abbrev l_impl_Graph_change : Lab := 167
abbrev l_impl_Graph_has : Lab := 171
abbrev l_impl_SwitchEdges : Lab := 198
abbrev l_impl_both : Lab := 203
abbrev l_impl_clone_impl_Edge_ : Lab := 204
abbrev l_impl_made : Lab := 214
abbrev l_impl_pairs : Lab := 216
abbrev l_laws_equalEdges : Lab := 237
abbrev l_laws_equalGraph : Lab := 238
abbrev l_slices_Clip_Simpl_Edge_impl_Edge_ : Lab := 258
abbrev l_slices_Clone_Simpl_Edge_impl_Edge_ : Lab := 261
abbrev l_slices_Contains_Simpl_Edge_impl_Edge_ : Lab := 263
abbrev l_slices_DeleteFunc_Simpl_Edge_impl_Edge_ : Lab := 265
abbrev l_slices_Index_Simpl_Edge_impl_Edge_ : Lab := 269
abbrev l_slices_SortFunc_Simpl_Edge_impl_Edge_ : Lab := 272
abbrev l_slices_breakPatternsCmpFunc_impl_Edge_ : Lab := 274
abbrev l_slices_heapSortCmpFunc_impl_Edge_ : Lab := 276
abbrev l_slices_insertionSortCmpFunc_impl_Edge_ : Lab := 277
abbrev l_slices_partialInsertionSortCmpFunc_impl_Edge_ : Lab := 282
abbrev l_slices_partitionCmpFunc_impl_Edge_ : Lab := 283
abbrev l_slices_partitionEqualCmpFunc_impl_Edge_ : Lab := 284
abbrev l_slices_pdqsortCmpFunc_impl_Edge_ : Lab := 285
abbrev l_slices_reverseRangeCmpFunc_impl_Edge_ : Lab := 286
abbrev l_spec_DrawSwitchEdges : Lab := 313
abbrev l_spec_SwitchEdges : Lab := 328
abbrev l_spec_aSwitch : Lab := 333
abbrev l_spec_addEdge : Lab := 335
abbrev l_spec_dropEdge : Lab := 348
abbrev l_spec_maySwitch : Lab := 362
abbrev l_spec_someGraph : Lab := 378
abbrev l_spec_switched : Lab := 383
abbrev l_spec_switches : Lab := 384
abbrev l_impl_Graph_change_F1 : Lab := 410
abbrev l_impl_Switch_apart : Lab := 411
abbrev l_laws_FnSwitchEdges : Lab := 441
abbrev l_slices_IndexFunc_Simpl_Edge_impl_Edge__L : Lab := 448
abbrev l_slices_choosePivotCmpFunc_impl_Edge__L : Lab := 450
abbrev l_slices_medianAdjacentCmpFunc_impl_Edge__L : Lab := 452
abbrev l_slices_medianCmpFunc_impl_Edge__L : Lab := 454
abbrev l_slices_order2CmpFunc_impl_Edge__L : Lab := 456
def ic_impl_DegreesOf_r0 : IC := .reg [
    ⟨(some 1), none, .box (.t 0)⟩,
    ⟨(some 2), none, .asg (.c (.slice none 0 0))⟩] [1] []
def ic_impl_DegreesOf_r1 : IC := .reg [
    ⟨(some 3), none, .load true 2 (.t 1)⟩,
    ⟨(some 4), none, .call l_impl_ValidGraph [(.rd, (.t 3))] true⟩,
    ⟨(some 5), none, .unop .not (.t 4)⟩] [1, 5] []
def ic_impl_DegreesOf_r2 : IC := .reg [
    ⟨(some 2), none, .asg (.c (.slice none 0 0))⟩] [2] []
def ic_impl_DegreesOf_r3 : IC := .reg [
    ⟨(some 6), none, .load true 2 (.t 1)⟩,
    ⟨(some 7), none, .call l_impl_Graph_degrees [(.rd, (.t 6))] true⟩,
    ⟨(some 2), none, .asg (.t 7)⟩] [2] []
def if_impl_DegreesOf : IFun := ⟨[.t 2], [], (.seq ic_impl_DegreesOf_r0 (.seq (.seq ic_impl_DegreesOf_r1 (.cond (.t 5) (.seq ic_impl_DegreesOf_r2 .ret) .skip)) (.seq ic_impl_DegreesOf_r3 .ret)))⟩

def ic_impl_DifferenceOf_r0 : IC := .reg [
    ⟨(some 2), none, .box (.t 0)⟩,
    ⟨(some 3), none, .box (.t 1)⟩,
    ⟨(some 4), none, .asg (.c (vi 0))⟩] [2, 3] []
def ic_impl_DifferenceOf_r1 : IC := .reg [
    ⟨(some 8), none, .load true 2 (.t 2)⟩,
    ⟨(some 9), none, .load true 2 (.t 3)⟩,
    ⟨(some 10), none, .call l_impl_both [(.rd, (.t 8)), (.rd, (.t 9))] true⟩,
    ⟨(some 11), none, .unop .not (.t 10)⟩] [2, 3, 11] []
def ic_impl_DifferenceOf_r2 : IC := .reg [
    ⟨(some 4), none, .asg (.c (vi (-1)))⟩] [4] []
def ic_impl_DifferenceOf_r3 : IC := .reg [
    ⟨(some 5), none, .asg (.c (vi 0))⟩] [2, 3, 5] []
def ic_impl_DifferenceOf_r4 : IC := .reg [
    ⟨(some 12), none, .fadr 0 (.t 2)⟩,
    ⟨(some 13), none, .load false 1 (.t 12)⟩,
    ⟨(some 14), none, .call l_impl_pairs [(.val, (.t 13))] true⟩,
    ⟨(some 15), none, .len (.t 14)⟩,
    ⟨(some 16), none, .mv (.c (vi 0))⟩] [2, 3, 5, 14, 15, 16] []
def ic_impl_DifferenceOf_r5 : IC := .reg [
    ⟨(some 17), none, .bin .lss (.t 16) (.t 15)⟩] [2, 3, 5, 14, 15, 16, 17] []
def ic_impl_DifferenceOf_r6 : IC := .reg [
    ⟨(some 18), none, .iadr 2 (.t 14) (.t 16)⟩,
    ⟨(some 19), none, .load true 2 (.t 18)⟩,
    ⟨(some 7), none, .alloc [(vi 0), (vi 0)]⟩,
    ⟨none, none, .store 2 (.t 7) (.t 19)⟩] [2, 3, 5, 7, 14, 15, 16] []
def ic_impl_DifferenceOf_r7 : IC := .reg [
    ⟨(some 20), none, .load true 2 (.t 2)⟩,
    ⟨(some 21), none, .fadr 0 (.t 7)⟩,
    ⟨(some 22), none, .load false 1 (.t 21)⟩,
    ⟨(some 23), none, .fadr 1 (.t 7)⟩,
    ⟨(some 24), none, .load false 1 (.t 23)⟩,
    ⟨(some 25), none, .call l_impl_Graph_has [(.rd, (.t 20)), (.val, (.t 22)), (.val, (.t 24))] true⟩,
    ⟨(some 26), none, .load true 2 (.t 3)⟩,
    ⟨(some 27), none, .fadr 0 (.t 7)⟩,
    ⟨(some 28), none, .load false 1 (.t 27)⟩,
    ⟨(some 29), none, .fadr 1 (.t 7)⟩,
    ⟨(some 30), none, .load false 1 (.t 29)⟩,
    ⟨(some 31), none, .call l_impl_Graph_has [(.rd, (.t 26)), (.val, (.t 28)), (.val, (.t 30))] true⟩,
    ⟨(some 32), none, .eqb true (.t 25) (.t 31)⟩] [2, 3, 5, 14, 15, 16, 32] [[0, 1, 2, 3, 4, 7, 9, 10, 5, 6, 8, 11, 12], [0, 1, 2, 3, 4, 7, 8, 5, 6, 9, 10, 11, 12], [0, 1, 2, 3, 4, 7, 8, 9, 10, 5, 6, 11, 12], [0, 1, 2, 3, 4, 6, 5, 7, 8, 9, 10, 11, 12], [0, 1, 2, 3, 4, 6, 7, 9, 10, 5, 8, 11, 12], [0, 1, 2, 3, 4, 6, 7, 8, 5, 9, 10, 11, 12], [0, 1, 2, 3, 4, 6, 7, 8, 9, 10, 5, 11, 12]]
def ic_impl_DifferenceOf_r8 : IC := .reg [
    ⟨(some 33), none, .mv (.t 5)⟩,
    ⟨(some 34), none, .bin .add (.t 33) (.c (vi 1))⟩,
    ⟨(some 5), none, .asg (.t 34)⟩] [2, 3, 5, 14, 15, 16] []
def ic_impl_DifferenceOf_r9 : IC := .reg [
    ⟨(some 35), none, .bin .add (.t 16) (.c (vi 1))⟩,
    ⟨(some 16), none, .asg (.t 35)⟩] [2, 3, 5, 14, 15, 16] []
def ic_impl_DifferenceOf_l10 : IC := (.seq ic_impl_DifferenceOf_r5 (.seq (.cond (.t 17) .skip (.exit 0)) (.seq (.block 1 (.seq ic_impl_DifferenceOf_r6 (.seq ic_impl_DifferenceOf_r7 (.cond (.t 32) ic_impl_DifferenceOf_r8 .skip)))) ic_impl_DifferenceOf_r9)))
def ic_impl_DifferenceOf_r11 : IC := .reg [
    ⟨(some 36), none, .mv (.t 5)⟩,
    ⟨(some 4), none, .asgm (.t 36)⟩] [4] []
def if_impl_DifferenceOf : IFun := ⟨[.t 4], [], (.seq ic_impl_DifferenceOf_r0 (.seq (.seq ic_impl_DifferenceOf_r1 (.cond (.t 11) (.seq ic_impl_DifferenceOf_r2 .ret) .skip)) (.seq ic_impl_DifferenceOf_r3 (.seq (.seq ic_impl_DifferenceOf_r4 (.block 0 (.loop ic_impl_DifferenceOf_l10))) (.seq ic_impl_DifferenceOf_r11 .ret)))))⟩

def ic_impl_Graph_change_r0 : IC := .reg [
    ⟨(some 2), none, .box (.t 0)⟩,
    ⟨(some 3), none, .box (.t 1)⟩,
    ⟨(some 4), none, .alloc [(vi 0), (.slice none 0 0)]⟩,
    ⟨(some 5), none, .asg (.c (.bool false))⟩] [2, 3, 4] []
def ic_impl_Graph_change_r1 : IC := .reg [
    ⟨(some 8), none, .load true 4 (.t 3)⟩,
    ⟨(some 9), none, .call l_impl_Switch_apart [(.val, (.t 8))] true⟩,
    ⟨(some 10), none, .unop .not (.t 9)⟩,
    ⟨(some 11), none, .asg (.t 10)⟩,
    ⟨(some 12), (some (11, false)), .load true 2 (.t 2)⟩,
    ⟨(some 13), (some (11, false)), .fadr 0 (.t 3)⟩,
    ⟨(some 14), (some (11, false)), .load false 1 (.t 13)⟩,
    ⟨(some 15), (some (11, false)), .fadr 1 (.t 3)⟩,
    ⟨(some 16), (some (11, false)), .load false 1 (.t 15)⟩,
    ⟨(some 17), (some (11, false)), .call l_impl_Graph_has [(.rd, (.t 12)), (.val, (.t 14)), (.val, (.t 16))] true⟩,
    ⟨(some 18), (some (11, false)), .unop .not (.t 17)⟩,
    ⟨(some 19), none, .pick (.t 11) (.c (.bool true)) (.t 18)⟩,
    ⟨(some 20), none, .asg (.t 19)⟩,
    ⟨(some 21), (some (20, false)), .load true 2 (.t 2)⟩,
    ⟨(some 22), (some (20, false)), .fadr 2 (.t 3)⟩,
    ⟨(some 23), (some (20, false)), .load false 1 (.t 22)⟩,
    ⟨(some 24), (some (20, false)), .fadr 3 (.t 3)⟩,
    ⟨(some 25), (some (20, false)), .load false 1 (.t 24)⟩,
    ⟨(some 26), (some (20, false)), .call l_impl_Graph_has [(.rd, (.t 21)), (.val, (.t 23)), (.val, (.t 25))] true⟩,
    ⟨(some 27), (some (20, false)), .unop .not (.t 26)⟩,
    ⟨(some 28), none, .pick (.t 20) (.c (.bool true)) (.t 27)⟩,
    ⟨(some 29), none, .asg (.t 28)⟩,
    ⟨(some 30), (some (29, false)), .load true 2 (.t 2)⟩,
    ⟨(some 31), (some (29, false)), .fadr 0 (.t 3)⟩,
    ⟨(some 32), (some (29, false)), .load false 1 (.t 31)⟩,
    ⟨(some 33), (some (29, false)), .fadr 2 (.t 3)⟩,
    ⟨(some 34), (some (29, false)), .load false 1 (.t 33)⟩,
    ⟨(some 35), (some (29, false)), .call l_impl_Graph_has [(.rd, (.t 30)), (.val, (.t 32)), (.val, (.t 34))] true⟩,
    ⟨(some 36), none, .pick (.t 29) (.c (.bool true)) (.t 35)⟩,
    ⟨(some 37), none, .asg (.t 36)⟩,
    ⟨(some 38), (some (37, false)), .load true 2 (.t 2)⟩,
    ⟨(some 39), (some (37, false)), .fadr 1 (.t 3)⟩,
    ⟨(some 40), (some (37, false)), .load false 1 (.t 39)⟩,
    ⟨(some 41), (some (37, false)), .fadr 3 (.t 3)⟩,
    ⟨(some 42), (some (37, false)), .load false 1 (.t 41)⟩,
    ⟨(some 43), (some (37, false)), .call l_impl_Graph_has [(.rd, (.t 38)), (.val, (.t 40)), (.val, (.t 42))] true⟩,
    ⟨(some 44), none, .pick (.t 37) (.c (.bool true)) (.t 43)⟩] [2, 3, 4, 44] []
def ic_impl_Graph_change_r2 : IC := .reg [
    ⟨(some 45), none, .build [(vi 0), (.slice none 0 0)] []⟩,
    ⟨none, none, .store 2 (.t 4) (.t 45)⟩,
    ⟨(some 5), none, .asg (.c (.bool false))⟩] [4, 5] []
def ic_impl_Graph_change_r3 : IC := .reg [
    ⟨(some 46), none, .fadr 1 (.t 2)⟩,
    ⟨(some 47), none, .load false 1 (.t 46)⟩,
    ⟨(some 48), none, .call l_slices_Clone_Simpl_Edge_impl_Edge_ [(.rd, (.t 47))] true⟩,
    ⟨(some 49), none, .mkfn l_impl_Graph_change_F1 [(.t 3)]⟩,
    ⟨(some 50), none, .call l_slices_DeleteFunc_Simpl_Edge_impl_Edge_ [(.tk, (.t 48)), (.val, (.t 49))] false⟩,
    ⟨(some 6), none, .asg (.t 50)⟩] [2, 3, 4, 6] []
def ic_impl_Graph_change_r4 : IC := .regd [
    ⟨(some 51), none, .fadr 0 (.t 2)⟩,
    ⟨(some 52), none, .load false 1 (.t 51)⟩,
    ⟨(some 53), none, .mv (.t 6)⟩,
    ⟨(some 54), none, .fadr 0 (.t 3)⟩,
    ⟨(some 55), none, .load false 1 (.t 54)⟩,
    ⟨(some 56), none, .fadr 2 (.t 3)⟩,
    ⟨(some 57), none, .load false 1 (.t 56)⟩,
    ⟨(some 58), none, .call l_impl_edge [(.val, (.t 55)), (.val, (.t 57))] true⟩,
    ⟨(some 59), none, .fadr 1 (.t 3)⟩,
    ⟨(some 60), none, .load false 1 (.t 59)⟩,
    ⟨(some 61), none, .fadr 3 (.t 3)⟩,
    ⟨(some 62), none, .load false 1 (.t 61)⟩,
    ⟨(some 63), none, .call l_impl_edge [(.val, (.t 60)), (.val, (.t 62))] true⟩,
    ⟨(some 64), none, .bsl 2 [(vi 0), (vi 0)] 2 [(0, (.t 58)), (1, (.t 63))]⟩,
    ⟨(some 65), none, .app 2 (.t 53) (.t 64)⟩,
    ⟨(some 66), none, .callq l_impl_made [(.val, (.t 52)), (.rv, (.t 65))]⟩,
    ⟨(some 7), none, .alloc [(vi 0), (.slice none 0 0)]⟩,
    ⟨none, none, .store 2 (.t 7) (.t 66)⟩] [0, 1, 2, 3, 4, 5, 6, 7, 8, 9, 10, 11, 12, 13, 14, 15, 16, 17] [4, 7] [[0, 1, 3, 4, 5, 6, 7, 8, 9, 10, 11, 12, 13, 2, 14, 15, 16, 17], [0, 2, 3, 4, 5, 6, 7, 8, 9, 10, 11, 12, 13, 1, 14, 15, 16, 17], [0, 2, 3, 4, 5, 6, 7, 8, 9, 10, 11, 12, 13, 14, 1, 15, 16, 17], [0, 3, 4, 5, 6, 7, 8, 9, 10, 11, 12, 13, 1, 2, 14, 15, 16, 17], [0, 3, 4, 5, 6, 7, 8, 9, 10, 11, 12, 13, 2, 14, 1, 15, 16, 17], [2, 3, 4, 5, 6, 7, 8, 9, 10, 11, 12, 13, 0, 1, 14, 15, 16, 17], [2, 3, 4, 5, 6, 7, 8, 9, 10, 11, 12, 13, 0, 14, 1, 15, 16, 17], [2, 3, 4, 5, 6, 7, 8, 9, 10, 11, 12, 13, 14, 0, 1, 15, 16, 17], [3, 4, 5, 6, 7, 8, 9, 10, 11, 12, 13, 0, 1, 2, 14, 15, 16, 17], [3, 4, 5, 6, 7, 8, 9, 10, 11, 12, 13, 0, 2, 14, 1, 15, 16, 17], [3, 4, 5, 6, 7, 8, 9, 10, 11, 12, 13, 2, 14, 0, 1, 15, 16, 17]]
def ic_impl_Graph_change_r5 : IC := .reg [
    ⟨(some 67), none, .load true 2 (.t 7)⟩,
    ⟨(some 68), none, .load true 2 (.t 7)⟩,
    ⟨(some 69), none, .call l_impl_ValidGraph [(.rd, (.t 68))] true⟩,
    ⟨none, none, .store 2 (.t 4) (.t 67)⟩,
    ⟨(some 5), none, .asg (.t 69)⟩] [4, 5] [[1, 2, 0, 3, 4]]
def if_impl_Graph_change : IFun := ⟨[.c 4 2 true, .t 5], [], (.seq ic_impl_Graph_change_r0 (.seq (.seq ic_impl_Graph_change_r1 (.cond (.t 44) (.seq ic_impl_Graph_change_r2 .ret) .skip)) (.seq ic_impl_Graph_change_r3 (.seq ic_impl_Graph_change_r4 (.seq ic_impl_Graph_change_r5 .ret)))))⟩

def ic_impl_Graph_change_F1_r0 : IC := .reg [
    ⟨(some 2), none, .box (.t 0)⟩,
    ⟨(some 3), none, .asg (.c (.bool false))⟩] [1, 2] []
def ic_impl_Graph_change_F1_r1 : IC := .reg [
    ⟨(some 4), none, .load true 2 (.t 2)⟩,
    ⟨(some 5), none, .fadr 0 (.t 1)⟩,
    ⟨(some 6), none, .load false 1 (.t 5)⟩,
    ⟨(some 7), none, .fadr 1 (.t 1)⟩,
    ⟨(some 8), none, .load false 1 (.t 7)⟩,
    ⟨(some 9), none, .call l_impl_edge [(.val, (.t 6)), (.val, (.t 8))] true⟩,
    ⟨(some 10), none, .eqa false 2 (.t 4) (.t 9)⟩,
    ⟨(some 11), none, .asg (.t 10)⟩,
    ⟨(some 12), (some (11, false)), .load true 2 (.t 2)⟩,
    ⟨(some 13), (some (11, false)), .fadr 2 (.t 1)⟩,
    ⟨(some 14), (some (11, false)), .load false 1 (.t 13)⟩,
    ⟨(some 15), (some (11, false)), .fadr 3 (.t 1)⟩,
    ⟨(some 16), (some (11, false)), .load false 1 (.t 15)⟩,
    ⟨(some 17), (some (11, false)), .call l_impl_edge [(.val, (.t 14)), (.val, (.t 16))] true⟩,
    ⟨(some 18), (some (11, false)), .eqa false 2 (.t 12) (.t 17)⟩,
    ⟨(some 19), none, .pick (.t 11) (.c (.bool true)) (.t 18)⟩,
    ⟨(some 3), none, .asg (.t 19)⟩] [3] [[0, 1, 2, 3, 4, 5, 6, 7, 9, 10, 11, 12, 13, 8, 14, 15, 16], [1, 2, 3, 4, 5, 0, 6, 7, 8, 9, 10, 11, 12, 13, 14, 15, 16], [1, 2, 3, 4, 5, 0, 6, 7, 9, 10, 11, 12, 13, 8, 14, 15, 16]]
def if_impl_Graph_change_F1 : IFun := ⟨[.t 3], [], (.seq ic_impl_Graph_change_F1_r0 (.seq ic_impl_Graph_change_F1_r1 .ret))⟩

def ic_impl_Graph_degrees_r0 : IC := .reg [
    ⟨(some 1), none, .box (.t 0)⟩,
    ⟨(some 2), none, .asg (.c (.slice none 0 0))⟩] [1] []
def ic_impl_Graph_degrees_r1 : IC := .reg [
    ⟨(some 6), none, .fadr 0 (.t 1)⟩,
    ⟨(some 7), none, .load false 1 (.t 6)⟩,
    ⟨(some 8), none, .mksl 1 [(vi 0)] (.t 7) (.t 7)⟩,
    ⟨(some 3), none, .asg (.t 8)⟩] [1, 3] []
def ic_impl_Graph_degrees_r2 : IC := .reg [
    ⟨(some 9), none, .fadr 1 (.t 1)⟩,
    ⟨(some 10), none, .load false 1 (.t 9)⟩,
    ⟨(some 11), none, .len (.t 10)⟩,
    ⟨(some 12), none, .mv (.c (vi 0))⟩] [1, 3, 10, 11, 12] []
def ic_impl_Graph_degrees_r3 : IC := .reg [
    ⟨(some 13), none, .bin .lss (.t 12) (.t 11)⟩] [1, 3, 10, 11, 12, 13] []
def ic_impl_Graph_degrees_r4 : IC := .reg [
    ⟨(some 14), none, .iadr 2 (.t 10) (.t 12)⟩,
    ⟨(some 15), none, .load true 2 (.t 14)⟩,
    ⟨(some 5), none, .alloc [(vi 0), (vi 0)]⟩,
    ⟨none, none, .store 2 (.t 5) (.t 15)⟩] [1, 3, 5, 10, 11, 12] []
def ic_impl_Graph_degrees_r5 : IC := .reg [
    ⟨(some 16), none, .mv (.t 3)⟩,
    ⟨(some 17), none, .fadr 0 (.t 5)⟩,
    ⟨(some 18), none, .load false 1 (.t 17)⟩,
    ⟨(some 19), none, .iadr 1 (.t 16) (.t 18)⟩,
    ⟨(some 20), none, .load false 1 (.t 19)⟩,
    ⟨(some 21), none, .bin .add (.t 20) (.c (vi 1))⟩,
    ⟨(some 22), none, .iadr 1 (.t 16) (.t 18)⟩,
    ⟨none, none, .store 1 (.t 22) (.t 21)⟩] [1, 3, 5, 10, 11, 12] []
def ic_impl_Graph_degrees_r6 : IC := .reg [
    ⟨(some 23), none, .mv (.t 3)⟩,
    ⟨(some 24), none, .fadr 1 (.t 5)⟩,
    ⟨(some 25), none, .load false 1 (.t 24)⟩,
    ⟨(some 26), none, .iadr 1 (.t 23) (.t 25)⟩,
    ⟨(some 27), none, .load false 1 (.t 26)⟩,
    ⟨(some 28), none, .bin .add (.t 27) (.c (vi 1))⟩,
    ⟨(some 29), none, .iadr 1 (.t 23) (.t 25)⟩,
    ⟨none, none, .store 1 (.t 29) (.t 28)⟩] [1, 3, 10, 11, 12] []
def ic_impl_Graph_degrees_r7 : IC := .reg [
    ⟨(some 30), none, .bin .add (.t 12) (.c (vi 1))⟩,
    ⟨(some 12), none, .asg (.t 30)⟩] [1, 3, 10, 11, 12] []
def ic_impl_Graph_degrees_l8 : IC := (.seq ic_impl_Graph_degrees_r3 (.seq (.cond (.t 13) .skip (.exit 0)) (.seq (.block 1 (.seq ic_impl_Graph_degrees_r4 (.seq ic_impl_Graph_degrees_r5 ic_impl_Graph_degrees_r6))) ic_impl_Graph_degrees_r7)))
def ic_impl_Graph_degrees_r9 : IC := .reg [
    ⟨(some 31), none, .mv (.t 3)⟩,
    ⟨(some 2), none, .asgm (.t 31)⟩] [2, 3] []
def if_impl_Graph_degrees : IFun := ⟨[.t 2], [], (.seq ic_impl_Graph_degrees_r0 (.seq ic_impl_Graph_degrees_r1 (.seq (.seq ic_impl_Graph_degrees_r2 (.block 0 (.loop ic_impl_Graph_degrees_l8))) (.seq ic_impl_Graph_degrees_r9 .ret))))⟩

def ic_impl_Graph_has_r0 : IC := .reg [
    ⟨(some 3), none, .box (.t 0)⟩,
    ⟨(some 6), none, .asg (.c (.bool false))⟩] [1, 2, 3] []
def ic_impl_Graph_has_r1 : IC := .reg [
    ⟨(some 7), none, .fadr 1 (.t 3)⟩,
    ⟨(some 8), none, .load false 1 (.t 7)⟩,
    ⟨(some 9), none, .mv (.t 1)⟩,
    ⟨(some 10), none, .mv (.t 2)⟩,
    ⟨(some 11), none, .call l_impl_edge [(.val, (.t 9)), (.val, (.t 10))] true⟩,
    ⟨(some 12), none, .call l_slices_Contains_Simpl_Edge_impl_Edge_ [(.rd, (.t 8)), (.val, (.t 11))] true⟩,
    ⟨(some 6), none, .asg (.t 12)⟩] [6] [[0, 2, 3, 4, 1, 5, 6]]
def if_impl_Graph_has : IFun := ⟨[.t 6], [], (.seq ic_impl_Graph_has_r0 (.seq ic_impl_Graph_has_r1 .ret))⟩

def ic_impl_SwitchEdges_r0 : IC := .reg [
    ⟨(some 2), none, .box (.t 0)⟩,
    ⟨(some 3), none, .box (.t 1)⟩,
    ⟨(some 4), none, .alloc [(vi 0), (.slice none 0 0)]⟩,
    ⟨(some 5), none, .asg (.c (.bool false))⟩] [2, 3, 4] []
def ic_impl_SwitchEdges_r1 : IC := .reg [
    ⟨(some 6), none, .load true 2 (.t 2)⟩,
    ⟨(some 7), none, .call l_impl_ValidGraph [(.rd, (.t 6))] true⟩,
    ⟨(some 8), none, .unop .not (.t 7)⟩] [2, 3, 4, 8] []
def ic_impl_SwitchEdges_r2 : IC := .reg [
    ⟨(some 9), none, .build [(vi 0), (.slice none 0 0)] []⟩,
    ⟨none, none, .store 2 (.t 4) (.t 9)⟩,
    ⟨(some 5), none, .asg (.c (.bool false))⟩] [4, 5] []
def ic_impl_SwitchEdges_r3 : IC := .reg [
    ⟨(some 10), none, .load true 2 (.t 2)⟩,
    ⟨(some 11), none, .load true 4 (.t 3)⟩,
    ⟨(some 12), none, .call l_impl_Graph_change [(.rd, (.t 10)), (.val, (.t 11))] true⟩,
    ⟨(some 13), none, .extr (.t 12) 0⟩,
    ⟨(some 14), none, .extr (.t 12) 1⟩,
    ⟨none, none, .store 2 (.t 4) (.t 13)⟩,
    ⟨(some 5), none, .asg (.t 14)⟩] [4, 5] []
def if_impl_SwitchEdges : IFun := ⟨[.c 4 2 true, .t 5], [], (.seq ic_impl_SwitchEdges_r0 (.seq (.seq ic_impl_SwitchEdges_r1 (.cond (.t 8) (.seq ic_impl_SwitchEdges_r2 .ret) .skip)) (.seq ic_impl_SwitchEdges_r3 .ret)))⟩

def ic_impl_Switch_apart_r0 : IC := .reg [
    ⟨(some 1), none, .box (.t 0)⟩,
    ⟨(some 2), none, .asg (.c (.bool false))⟩] [1] []
def ic_impl_Switch_apart_r1 : IC := .reg [
    ⟨(some 3), none, .fadr 0 (.t 1)⟩,
    ⟨(some 4), none, .load false 1 (.t 3)⟩,
    ⟨(some 5), none, .fadr 1 (.t 1)⟩,
    ⟨(some 6), none, .load false 1 (.t 5)⟩,
    ⟨(some 7), none, .bin .neq (.t 4) (.t 6)⟩,
    ⟨(some 8), none, .asg (.t 7)⟩,
    ⟨(some 9), (some (8, true)), .fadr 0 (.t 1)⟩,
    ⟨(some 10), (some (8, true)), .load false 1 (.t 9)⟩,
    ⟨(some 11), (some (8, true)), .fadr 2 (.t 1)⟩,
    ⟨(some 12), (some (8, true)), .load false 1 (.t 11)⟩,
    ⟨(some 13), (some (8, true)), .bin .neq (.t 10) (.t 12)⟩,
    ⟨(some 14), none, .pick (.t 8) (.t 13) (.c (.bool false))⟩,
    ⟨(some 15), none, .asg (.t 14)⟩,
    ⟨(some 16), (some (15, true)), .fadr 0 (.t 1)⟩,
    ⟨(some 17), (some (15, true)), .load false 1 (.t 16)⟩,
    ⟨(some 18), (some (15, true)), .fadr 3 (.t 1)⟩,
    ⟨(some 19), (some (15, true)), .load false 1 (.t 18)⟩,
    ⟨(some 20), (some (15, true)), .bin .neq (.t 17) (.t 19)⟩,
    ⟨(some 21), none, .pick (.t 15) (.t 20) (.c (.bool false))⟩,
    ⟨(some 22), none, .asg (.t 21)⟩,
    ⟨(some 23), (some (22, true)), .fadr 1 (.t 1)⟩,
    ⟨(some 24), (some (22, true)), .load false 1 (.t 23)⟩,
    ⟨(some 25), (some (22, true)), .fadr 2 (.t 1)⟩,
    ⟨(some 26), (some (22, true)), .load false 1 (.t 25)⟩,
    ⟨(some 27), (some (22, true)), .bin .neq (.t 24) (.t 26)⟩,
    ⟨(some 28), none, .pick (.t 22) (.t 27) (.c (.bool false))⟩,
    ⟨(some 29), none, .asg (.t 28)⟩,
    ⟨(some 30), (some (29, true)), .fadr 1 (.t 1)⟩,
    ⟨(some 31), (some (29, true)), .load false 1 (.t 30)⟩,
    ⟨(some 32), (some (29, true)), .fadr 3 (.t 1)⟩,
    ⟨(some 33), (some (29, true)), .load false 1 (.t 32)⟩,
    ⟨(some 34), (some (29, true)), .bin .neq (.t 31) (.t 33)⟩,
    ⟨(some 35), none, .pick (.t 29) (.t 34) (.c (.bool false))⟩,
    ⟨(some 36), none, .asg (.t 35)⟩,
    ⟨(some 37), (some (36, true)), .fadr 2 (.t 1)⟩,
    ⟨(some 38), (some (36, true)), .load false 1 (.t 37)⟩,
    ⟨(some 39), (some (36, true)), .fadr 3 (.t 1)⟩,
    ⟨(some 40), (some (36, true)), .load false 1 (.t 39)⟩,
    ⟨(some 41), (some (36, true)), .bin .neq (.t 38) (.t 40)⟩,
    ⟨(some 42), none, .pick (.t 36) (.t 41) (.c (.bool false))⟩,
    ⟨(some 2), none, .asg (.t 42)⟩] [2] []
def if_impl_Switch_apart : IFun := ⟨[.t 2], [], (.seq ic_impl_Switch_apart_r0 (.seq ic_impl_Switch_apart_r1 .ret))⟩

def ic_impl_ValidGraph_r0 : IC := .reg [
    ⟨(some 1), none, .box (.t 0)⟩,
    ⟨(some 2), none, .asg (.c (.bool false))⟩] [1] []
def ic_impl_ValidGraph_r1 : IC := .reg [
    ⟨(some 5), none, .fadr 1 (.t 1)⟩,
    ⟨(some 6), none, .load false 1 (.t 5)⟩,
    ⟨(some 7), none, .len (.t 6)⟩,
    ⟨(some 8), none, .mv (.c (vi 0))⟩] [1, 6, 7, 8] []
def ic_impl_ValidGraph_r2 : IC := .reg [
    ⟨(some 9), none, .bin .lss (.t 8) (.t 7)⟩] [1, 6, 7, 8, 9] []
def ic_impl_ValidGraph_r3 : IC := .reg [
    ⟨(some 10), none, .asg (.t 8)⟩,
    ⟨(some 11), none, .iadr 2 (.t 6) (.t 8)⟩,
    ⟨(some 12), none, .load true 2 (.t 11)⟩,
    ⟨(some 4), none, .alloc [(vi 0), (vi 0)]⟩,
    ⟨(some 3), none, .asg (.t 10)⟩,
    ⟨none, none, .store 2 (.t 4) (.t 12)⟩] [1, 3, 4, 6, 7, 8] []
def ic_impl_ValidGraph_r4 : IC := .reg [
    ⟨(some 13), none, .fadr 0 (.t 4)⟩,
    ⟨(some 14), none, .load false 1 (.t 13)⟩,
    ⟨(some 15), none, .bin .lss (.t 14) (.c (vi 0))⟩,
    ⟨(some 16), none, .asg (.t 15)⟩,
    ⟨(some 17), (some (16, false)), .fadr 0 (.t 4)⟩,
    ⟨(some 18), (some (16, false)), .load false 1 (.t 17)⟩,
    ⟨(some 19), (some (16, false)), .fadr 1 (.t 4)⟩,
    ⟨(some 20), (some (16, false)), .load false 1 (.t 19)⟩,
    ⟨(some 21), (some (16, false)), .bin .geq (.t 18) (.t 20)⟩,
    ⟨(some 22), none, .pick (.t 16) (.c (.bool true)) (.t 21)⟩,
    ⟨(some 23), none, .asg (.t 22)⟩,
    ⟨(some 24), (some (23, false)), .fadr 1 (.t 4)⟩,
    ⟨(some 25), (some (23, false)), .load false 1 (.t 24)⟩,
    ⟨(some 26), (some (23, false)), .fadr 0 (.t 1)⟩,
    ⟨(some 27), (some (23, false)), .load false 1 (.t 26)⟩,
    ⟨(some 28), (some (23, false)), .bin .geq (.t 25) (.t 27)⟩,
    ⟨(some 29), none, .pick (.t 23) (.c (.bool true)) (.t 28)⟩,
    ⟨(some 30), none, .asg (.t 29)⟩,
    ⟨(some 31), (some (30, false)), .mv (.t 3)⟩,
    ⟨(some 32), (some (30, false)), .bin .gtr (.t 31) (.c (vi 0))⟩,
    ⟨(some 33), (some (30, false)), .asg (.t 32)⟩,
    ⟨(some 34), (some (33, true)), .fadr 1 (.t 1)⟩,
    ⟨(some 35), (some (33, true)), .load false 1 (.t 34)⟩,
    ⟨(some 36), (some (33, true)), .mv (.t 3)⟩,
    ⟨(some 37), (some (33, true)), .bin .sub (.t 36) (.c (vi 1))⟩,
    ⟨(some 38), (some (33, true)), .iadr 2 (.t 35) (.t 37)⟩,
    ⟨(some 39), (some (33, true)), .load true 2 (.t 38)⟩,
    ⟨(some 40), (some (33, true)), .load true 2 (.t 4)⟩,
    ⟨(some 41), (some (33, true)), .call l_impl_compareEdges [(.val, (.t 39)), (.val, (.t 40))] true⟩,
    ⟨(some 42), (some (33, true)), .bin .geq (.t 41) (.c (vi 0))⟩,
    ⟨(some 43), (some (30, false)), .pick (.t 33) (.t 42) (.c (.bool false))⟩,
    ⟨(some 44), none, .pick (.t 30) (.c (.bool true)) (.t 43)⟩] [1, 6, 7, 8, 44] []
def ic_impl_ValidGraph_r5 : IC := .reg [
    ⟨(some 2), none, .asg (.c (.bool false))⟩] [2] []
def ic_impl_ValidGraph_r6 : IC := .reg [
    ⟨(some 45), none, .bin .add (.t 8) (.c (vi 1))⟩,
    ⟨(some 8), none, .asg (.t 45)⟩] [1, 6, 7, 8] []
def ic_impl_ValidGraph_l7 : IC := (.seq ic_impl_ValidGraph_r2 (.seq (.cond (.t 9) .skip (.exit 0)) (.seq (.block 1 (.seq ic_impl_ValidGraph_r3 (.seq ic_impl_ValidGraph_r4 (.cond (.t 44) (.seq ic_impl_ValidGraph_r5 .ret) .skip)))) ic_impl_ValidGraph_r6)))
def ic_impl_ValidGraph_r8 : IC := .reg [
    ⟨(some 46), none, .fadr 0 (.t 1)⟩,
    ⟨(some 47), none, .load false 1 (.t 46)⟩,
    ⟨(some 48), none, .call l_impl_in [(.val, (.t 47)), (.val, (.c (vi 0))), (.val, (.c (vi 7)))] true⟩,
    ⟨(some 2), none, .asg (.t 48)⟩] [2] []
def if_impl_ValidGraph : IFun := ⟨[.t 2], [], (.seq ic_impl_ValidGraph_r0 (.seq (.seq ic_impl_ValidGraph_r1 (.block 0 (.loop ic_impl_ValidGraph_l7))) (.seq ic_impl_ValidGraph_r8 .ret)))⟩

def ic_impl_both_r0 : IC := .reg [
    ⟨(some 2), none, .box (.t 0)⟩,
    ⟨(some 3), none, .box (.t 1)⟩,
    ⟨(some 4), none, .asg (.c (.bool false))⟩] [2, 3] []
def ic_impl_both_r1 : IC := .reg [
    ⟨(some 5), none, .load true 2 (.t 2)⟩,
    ⟨(some 6), none, .call l_impl_ValidGraph [(.rd, (.t 5))] true⟩,
    ⟨(some 7), none, .asg (.t 6)⟩,
    ⟨(some 8), (some (7, true)), .load true 2 (.t 3)⟩,
    ⟨(some 9), (some (7, true)), .call l_impl_ValidGraph [(.rd, (.t 8))] true⟩,
    ⟨(some 10), none, .pick (.t 7) (.t 9) (.c (.bool false))⟩,
    ⟨(some 11), none, .asg (.t 10)⟩,
    ⟨(some 12), (some (11, true)), .fadr 0 (.t 2)⟩,
    ⟨(some 13), (some (11, true)), .load false 1 (.t 12)⟩,
    ⟨(some 14), (some (11, true)), .fadr 0 (.t 3)⟩,
    ⟨(some 15), (some (11, true)), .load false 1 (.t 14)⟩,
    ⟨(some 16), (some (11, true)), .bin .eql (.t 13) (.t 15)⟩,
    ⟨(some 17), none, .pick (.t 11) (.t 16) (.c (.bool false))⟩,
    ⟨(some 4), none, .asg (.t 17)⟩] [4] []
def if_impl_both : IFun := ⟨[.t 4], [], (.seq ic_impl_both_r0 (.seq ic_impl_both_r1 .ret))⟩

def ic_impl_clone_impl_Edge__r0 : IC := .reg [
    ⟨(some 2), none, .asg (.c (.slice none 0 0))⟩] [0] []
def ic_impl_clone_impl_Edge__r1 : IC := .reg [
    ⟨(some 3), none, .mv (.t 0)⟩,
    ⟨(some 4), none, .call l_slices_Clone_Simpl_Edge_impl_Edge_ [(.rd, (.t 3))] true⟩,
    ⟨(some 5), none, .call l_slices_Clip_Simpl_Edge_impl_Edge_ [(.tk, (.t 4))] true⟩,
    ⟨(some 2), none, .asg (.t 5)⟩] [2] []
def if_impl_clone_impl_Edge_ : IFun := ⟨[.t 2], [], (.seq ic_impl_clone_impl_Edge__r0 (.seq ic_impl_clone_impl_Edge__r1 .ret))⟩

def ic_impl_compareEdges_r0 : IC := .reg [
    ⟨(some 2), none, .box (.t 0)⟩,
    ⟨(some 3), none, .box (.t 1)⟩,
    ⟨(some 4), none, .asg (.c (vi 0))⟩] [2, 3] []
def ic_impl_compareEdges_r1 : IC := .reg [
    ⟨(some 5), none, .fadr 0 (.t 2)⟩,
    ⟨(some 6), none, .load false 1 (.t 5)⟩,
    ⟨(some 7), none, .fadr 0 (.t 3)⟩,
    ⟨(some 8), none, .load false 1 (.t 7)⟩,
    ⟨(some 9), none, .bin .neq (.t 6) (.t 8)⟩] [2, 3, 9] []
def ic_impl_compareEdges_r2 : IC := .reg [
    ⟨(some 10), none, .fadr 0 (.t 2)⟩,
    ⟨(some 11), none, .load false 1 (.t 10)⟩,
    ⟨(some 12), none, .fadr 0 (.t 3)⟩,
    ⟨(some 13), none, .load false 1 (.t 12)⟩,
    ⟨(some 14), none, .bin .sub (.t 11) (.t 13)⟩,
    ⟨(some 4), none, .asg (.t 14)⟩] [4] []
def ic_impl_compareEdges_r3 : IC := .reg [
    ⟨(some 15), none, .fadr 1 (.t 2)⟩,
    ⟨(some 16), none, .load false 1 (.t 15)⟩,
    ⟨(some 17), none, .fadr 1 (.t 3)⟩,
    ⟨(some 18), none, .load false 1 (.t 17)⟩,
    ⟨(some 19), none, .bin .sub (.t 16) (.t 18)⟩,
    ⟨(some 4), none, .asg (.t 19)⟩] [4] []
def if_impl_compareEdges : IFun := ⟨[.t 4], [], (.seq ic_impl_compareEdges_r0 (.seq (.seq ic_impl_compareEdges_r1 (.cond (.t 9) (.seq ic_impl_compareEdges_r2 .ret) .skip)) (.seq ic_impl_compareEdges_r3 .ret)))⟩

def ic_impl_edge_r0 : IC := .reg [
    ⟨(some 4), none, .alloc [(vi 0), (vi 0)]⟩] [0, 1, 4] []
def ic_impl_edge_r1 : IC := .reg [
    ⟨(some 5), none, .mv (.t 0)⟩,
    ⟨(some 6), none, .mv (.t 1)⟩,
    ⟨(some 7), none, .minmax true (.t 5) (.t 6)⟩,
    ⟨(some 8), none, .mv (.t 0)⟩,
    ⟨(some 9), none, .mv (.t 1)⟩,
    ⟨(some 10), none, .minmax false (.t 8) (.t 9)⟩,
    ⟨(some 11), none, .build [(vi 0), (vi 0)] [(0, 1, (.t 7)), (1, 1, (.t 10))]⟩,
    ⟨none, none, .store 2 (.t 4) (.t 11)⟩] [4] []
def if_impl_edge : IFun := ⟨[.c 4 2 true], [], (.seq ic_impl_edge_r0 (.seq ic_impl_edge_r1 .ret))⟩

def ic_impl_in_r0 : IC := .reg [
    ⟨(some 6), none, .asg (.c (.bool false))⟩] [0, 1, 2] []
def ic_impl_in_r1 : IC := .reg [
    ⟨(some 7), none, .mv (.t 0)⟩,
    ⟨(some 8), none, .mv (.t 1)⟩,
    ⟨(some 9), none, .bin .geq (.t 7) (.t 8)⟩,
    ⟨(some 10), none, .asg (.t 9)⟩,
    ⟨(some 11), (some (10, true)), .mv (.t 0)⟩,
    ⟨(some 12), (some (10, true)), .mv (.t 2)⟩,
    ⟨(some 13), (some (10, true)), .bin .leq (.t 11) (.t 12)⟩,
    ⟨(some 14), none, .pick (.t 10) (.t 13) (.c (.bool false))⟩,
    ⟨(some 6), none, .asg (.t 14)⟩] [6] []
def if_impl_in : IFun := ⟨[.t 6], [], (.seq ic_impl_in_r0 (.seq ic_impl_in_r1 .ret))⟩

def ic_impl_made_r0 : IC := .reg [
    ⟨(some 4), none, .alloc [(vi 0), (.slice none 0 0)]⟩] [0, 1, 4] []
def ic_impl_made_r1 : IC := .reg [
    ⟨(some 6), none, .mv (.t 1)⟩,
    ⟨(some 7), none, .call l_impl_clone_impl_Edge_ [(.rd, (.t 6))] true⟩,
    ⟨(some 5), none, .asg (.t 7)⟩] [0, 4, 5] []
def ic_impl_made_r2 : IC := .reg [
    ⟨(some 8), none, .mv (.t 5)⟩,
    ⟨(some 9), none, .call l_slices_SortFunc_Simpl_Edge_impl_Edge_ [(.ld, (.t 8)), (.val, (.f l_impl_compareEdges))] false⟩] [0, 4, 5] []
def ic_impl_made_r3 : IC := .reg [
    ⟨(some 10), none, .mv (.t 0)⟩,
    ⟨(some 11), none, .mv (.t 5)⟩,
    ⟨(some 12), none, .build [(vi 0), (.slice none 0 0)] [(0, 1, (.t 10)), (1, 1, (.t 11))]⟩,
    ⟨none, none, .store 2 (.t 4) (.t 12)⟩] [4] []
def if_impl_made : IFun := ⟨[.c 4 2 true], [], (.seq ic_impl_made_r0 (.seq ic_impl_made_r1 (.seq ic_impl_made_r2 (.seq ic_impl_made_r3 .ret))))⟩

def ic_impl_pairs_r0 : IC := .reg [
    ⟨(some 2), none, .asg (.c (.slice none 0 0))⟩] [0] []
def ic_impl_pairs_r1 : IC := .reg [
    ⟨(some 3), none, .asg (.c (.slice none 0 0))⟩] [0, 3] []
def ic_impl_pairs_r2 : IC := .reg [
    ⟨(some 6), none, .mv (.t 0)⟩,
    ⟨(some 7), none, .mv (.c (vi 0))⟩] [0, 3, 6, 7] []
def ic_impl_pairs_r3 : IC := .reg [
    ⟨(some 8), none, .bin .lss (.t 7) (.t 6)⟩] [0, 3, 6, 7, 8] []
def ic_impl_pairs_r4 : IC := .reg [
    ⟨(some 9), none, .asg (.t 7)⟩,
    ⟨(some 4), none, .asg (.t 9)⟩] [0, 3, 4, 6, 7] []
def ic_impl_pairs_r5 : IC := .reg [
    ⟨(some 10), none, .mv (.t 4)⟩,
    ⟨(some 11), none, .bin .add (.t 10) (.c (vi 1))⟩,
    ⟨(some 5), none, .asg (.t 11)⟩] [0, 3, 4, 5, 6, 7] []
def ic_impl_pairs_r6 : IC := .reg [
    ⟨(some 12), none, .mv (.t 5)⟩,
    ⟨(some 13), none, .mv (.t 0)⟩,
    ⟨(some 14), none, .bin .lss (.t 12) (.t 13)⟩] [0, 3, 4, 5, 6, 7, 14] []
def ic_impl_pairs_r7 : IC := .reg [
    ⟨(some 17), none, .mv (.t 3)⟩,
    ⟨(some 18), none, .mv (.t 4)⟩,
    ⟨(some 19), none, .mv (.t 5)⟩,
    ⟨(some 20), none, .build [(vi 0), (vi 0)] [(0, 1, (.t 18)), (1, 1, (.t 19))]⟩,
    ⟨(some 21), none, .bsl 2 [(vi 0), (vi 0)] 1 [(0, (.t 20))]⟩,
    ⟨(some 22), none, .app 2 (.t 17) (.t 21)⟩,
    ⟨(some 3), none, .asg (.t 22)⟩] [0, 3, 4, 5, 6, 7] []
def ic_impl_pairs_r8 : IC := .reg [
    ⟨(some 15), none, .mv (.t 5)⟩,
    ⟨(some 16), none, .bin .add (.t 15) (.c (vi 1))⟩,
    ⟨(some 5), none, .asg (.t 16)⟩] [0, 3, 4, 5, 6, 7] []
def ic_impl_pairs_l9 : IC := (.seq (.seq ic_impl_pairs_r6 (.cond (.t 14) .skip (.exit 2))) (.seq (.block 3 ic_impl_pairs_r7) ic_impl_pairs_r8))
def ic_impl_pairs_r10 : IC := .reg [
    ⟨(some 23), none, .bin .add (.t 7) (.c (vi 1))⟩,
    ⟨(some 7), none, .asg (.t 23)⟩] [0, 3, 6, 7] []
def ic_impl_pairs_l11 : IC := (.seq ic_impl_pairs_r3 (.seq (.cond (.t 8) .skip (.exit 0)) (.seq (.block 1 (.seq ic_impl_pairs_r4 (.seq ic_impl_pairs_r5 (.block 2 (.loop ic_impl_pairs_l9))))) ic_impl_pairs_r10)))
def ic_impl_pairs_r12 : IC := .reg [
    ⟨(some 24), none, .mv (.t 3)⟩,
    ⟨(some 2), none, .asgm (.t 24)⟩] [2, 3] []
def if_impl_pairs : IFun := ⟨[.t 2], [], (.seq ic_impl_pairs_r0 (.seq ic_impl_pairs_r1 (.seq (.seq ic_impl_pairs_r2 (.block 0 (.loop ic_impl_pairs_l11))) (.seq ic_impl_pairs_r12 .ret))))⟩

def ic_laws_FnSwitchEdges_r0 : IC := .reg [
    ⟨(some 2), none, .asg (.c (.bool false))⟩] [0] []
def ic_laws_FnSwitchEdges_r1 : IC := .reg [
    ⟨(some 11), none, .mv (.t 0)⟩,
    ⟨(some 12), none, .len (.t 11)⟩,
    ⟨(some 13), none, .bin .gtr (.t 12) (.c (vi 1048576))⟩] [0, 13] []
def ic_laws_FnSwitchEdges_r2 : IC := .reg [
    ⟨(some 2), none, .asg (.c (.bool true))⟩] [2] []
def ic_laws_FnSwitchEdges_r3 : IC := .reg [
    ⟨(some 15), none, .mv (.t 0)⟩,
    ⟨(some 16), none, .call l_spec_DrawSwitchEdges [(.rd, (.t 15))] true⟩,
    ⟨(some 14), none, .asg (.t 16)⟩,
    ⟨(some 17), none, .extr (.t 14) 0⟩,
    ⟨(some 18), none, .extr (.t 14) 1⟩,
    ⟨(some 3), none, .alloc [(vi 0), (.slice none 0 0)]⟩,
    ⟨(some 4), none, .alloc [(vi 0), (vi 0), (vi 0), (vi 0)]⟩,
    ⟨none, none, .storef 2 (.t 3) (.t 17)⟩,
    ⟨none, none, .store 4 (.t 4) (.t 18)⟩] [3, 4] []
def ic_laws_FnSwitchEdges_r4 : IC := .reg [
    ⟨(some 20), none, .load true 2 (.t 3)⟩,
    ⟨(some 21), none, .load true 4 (.t 4)⟩,
    ⟨(some 22), none, .call l_impl_SwitchEdges [(.rd, (.t 20)), (.val, (.t 21))] true⟩,
    ⟨(some 19), none, .asg (.t 22)⟩,
    ⟨(some 23), none, .extr (.t 19) 0⟩,
    ⟨(some 24), none, .extr (.t 19) 1⟩,
    ⟨(some 5), none, .alloc [(vi 0), (.slice none 0 0)]⟩,
    ⟨none, none, .storef 2 (.t 5) (.t 23)⟩,
    ⟨(some 6), none, .asg (.t 24)⟩] [3, 4, 5, 6] []
def ic_laws_FnSwitchEdges_r5 : IC := .reg [
    ⟨(some 26), none, .load true 2 (.t 3)⟩,
    ⟨(some 27), none, .load true 4 (.t 4)⟩,
    ⟨(some 28), none, .call l_spec_SwitchEdges [(.rd, (.t 26)), (.val, (.t 27))] true⟩,
    ⟨(some 25), none, .asg (.t 28)⟩,
    ⟨(some 29), none, .extr (.t 25) 0⟩,
    ⟨(some 30), none, .extr (.t 25) 1⟩,
    ⟨(some 7), none, .alloc [(vi 0), (.slice none 0 0)]⟩,
    ⟨none, none, .storef 2 (.t 7) (.t 29)⟩,
    ⟨(some 8), none, .asg (.t 30)⟩] [3, 4, 5, 6, 7, 8] []
def ic_laws_FnSwitchEdges_r6 : IC := .reg [
    ⟨(some 31), none, .load true 2 (.t 5)⟩,
    ⟨(some 32), none, .load true 2 (.t 7)⟩,
    ⟨(some 33), none, .call l_laws_equalGraph [(.rd, (.t 31)), (.rd, (.t 32))] true⟩,
    ⟨(some 34), none, .unop .not (.t 33)⟩,
    ⟨(some 35), none, .asg (.t 34)⟩,
    ⟨(some 36), (some (35, false)), .mv (.t 6)⟩,
    ⟨(some 37), (some (35, false)), .mv (.t 8)⟩,
    ⟨(some 38), (some (35, false)), .eqb true (.t 36) (.t 37)⟩,
    ⟨(some 39), none, .pick (.t 35) (.c (.bool true)) (.t 38)⟩,
    ⟨(some 40), none, .asg (.t 39)⟩,
    ⟨(some 41), (some (40, false)), .mv (.t 6)⟩,
    ⟨(some 42), (some (40, false)), .unop .not (.t 41)⟩,
    ⟨(some 43), none, .pick (.t 40) (.c (.bool true)) (.t 42)⟩] [3, 4, 5, 6, 7, 8, 43] []
def ic_laws_FnSwitchEdges_r7 : IC := .reg [
    ⟨(some 44), none, .load true 2 (.t 5)⟩,
    ⟨(some 45), none, .load true 2 (.t 7)⟩,
    ⟨(some 46), none, .call l_laws_equalGraph [(.rd, (.t 44)), (.rd, (.t 45))] true⟩,
    ⟨(some 47), none, .asg (.t 46)⟩,
    ⟨(some 48), (some (47, true)), .mv (.t 6)⟩,
    ⟨(some 49), (some (47, true)), .mv (.t 8)⟩,
    ⟨(some 50), (some (47, true)), .eqb false (.t 48) (.t 49)⟩,
    ⟨(some 51), none, .pick (.t 47) (.t 50) (.c (.bool false))⟩,
    ⟨(some 2), none, .asg (.t 51)⟩] [2] []
def ic_laws_FnSwitchEdges_r8 : IC := .reg [
    ⟨(some 53), none, .load true 2 (.t 5)⟩,
    ⟨(some 54), none, .fadr 0 (.t 4)⟩,
    ⟨(some 55), none, .load false 1 (.t 54)⟩,
    ⟨(some 56), none, .fadr 2 (.t 4)⟩,
    ⟨(some 57), none, .load false 1 (.t 56)⟩,
    ⟨(some 58), none, .fadr 1 (.t 4)⟩,
    ⟨(some 59), none, .load false 1 (.t 58)⟩,
    ⟨(some 60), none, .fadr 3 (.t 4)⟩,
    ⟨(some 61), none, .load false 1 (.t 60)⟩,
    ⟨(some 62), none, .build [(vi 0), (vi 0), (vi 0), (vi 0)] [(0, 1, (.t 55)), (1, 1, (.t 57)), (2, 1, (.t 59)), (3, 1, (.t 61))]⟩,
    ⟨(some 63), none, .call l_impl_SwitchEdges [(.rd, (.t 53)), (.val, (.t 62))] true⟩,
    ⟨(some 52), none, .asg (.t 63)⟩,
    ⟨(some 64), none, .extr (.t 52) 0⟩,
    ⟨(some 65), none, .extr (.t 52) 1⟩,
    ⟨(some 9), none, .alloc [(vi 0), (.slice none 0 0)]⟩,
    ⟨none, none, .storef 2 (.t 9) (.t 64)⟩,
    ⟨(some 10), none, .asg (.t 65)⟩] [3, 5, 9, 10] []
def ic_laws_FnSwitchEdges_r9 : IC := .reg [
    ⟨(some 66), none, .load true 2 (.t 5)⟩,
    ⟨(some 67), none, .call l_impl_DegreesOf [(.rd, (.t 66))] true⟩,
    ⟨(some 68), none, .load true 2 (.t 3)⟩,
    ⟨(some 69), none, .call l_impl_DegreesOf [(.rd, (.t 68))] true⟩,
    ⟨(some 70), none, .call l_laws_equalInts [(.rd, (.t 67)), (.rd, (.t 69))] true⟩,
    ⟨(some 71), none, .asg (.t 70)⟩,
    ⟨(some 72), (some (71, true)), .mv (.t 10)⟩,
    ⟨(some 73), none, .pick (.t 71) (.t 72) (.c (.bool false))⟩,
    ⟨(some 74), none, .asg (.t 73)⟩,
    ⟨(some 75), (some (74, true)), .load true 2 (.t 9)⟩,
    ⟨(some 76), (some (74, true)), .load true 2 (.t 3)⟩,
    ⟨(some 77), (some (74, true)), .call l_laws_equalGraph [(.rd, (.t 75)), (.rd, (.t 76))] true⟩,
    ⟨(some 78), none, .pick (.t 74) (.t 77) (.c (.bool false))⟩,
    ⟨(some 79), none, .asg (.t 78)⟩,
    ⟨(some 80), (some (79, true)), .load true 2 (.t 3)⟩,
    ⟨(some 81), (some (79, true)), .load true 2 (.t 5)⟩,
    ⟨(some 82), (some (79, true)), .call l_impl_DifferenceOf [(.rd, (.t 80)), (.rd, (.t 81))] true⟩,
    ⟨(some 83), (some (79, true)), .bin .eql (.t 82) (.c (vi 4))⟩,
    ⟨(some 84), none, .pick (.t 79) (.t 83) (.c (.bool false))⟩,
    ⟨(some 2), none, .asg (.t 84)⟩] [2] [[0, 2, 1, 3, 4, 5, 6, 7, 8, 9, 10, 11, 12, 13, 14, 15, 16, 17, 18, 19]]
def if_laws_FnSwitchEdges : IFun := ⟨[.t 2], [], (.seq ic_laws_FnSwitchEdges_r0 (.seq (.seq ic_laws_FnSwitchEdges_r1 (.cond (.t 13) (.seq ic_laws_FnSwitchEdges_r2 .ret) .skip)) (.seq ic_laws_FnSwitchEdges_r3 (.seq ic_laws_FnSwitchEdges_r4 (.seq ic_laws_FnSwitchEdges_r5 (.seq (.seq ic_laws_FnSwitchEdges_r6 (.cond (.t 43) (.seq ic_laws_FnSwitchEdges_r7 .ret) .skip)) (.seq ic_laws_FnSwitchEdges_r8 (.seq ic_laws_FnSwitchEdges_r9 .ret))))))))⟩

def ic_laws_equalEdges_r0 : IC := .reg [
    ⟨(some 4), none, .asg (.c (.bool false))⟩] [0, 1] []
def ic_laws_equalEdges_r1 : IC := .reg [
    ⟨(some 6), none, .mv (.t 0)⟩,
    ⟨(some 7), none, .len (.t 6)⟩,
    ⟨(some 8), none, .mv (.t 1)⟩,
    ⟨(some 9), none, .len (.t 8)⟩,
    ⟨(some 10), none, .bin .neq (.t 7) (.t 9)⟩] [0, 1, 10] []
def ic_laws_equalEdges_r2 : IC := .reg [
    ⟨(some 4), none, .asg (.c (.bool false))⟩] [4] []
def ic_laws_equalEdges_r3 : IC := .reg [
    ⟨(some 5), none, .asg (.c (vi 0))⟩] [0, 1, 5] []
def ic_laws_equalEdges_r4 : IC := .reg [
    ⟨(some 11), none, .mv (.t 5)⟩,
    ⟨(some 12), none, .mv (.t 0)⟩,
    ⟨(some 13), none, .len (.t 12)⟩,
    ⟨(some 14), none, .bin .lss (.t 11) (.t 13)⟩] [0, 1, 5, 14] []
def ic_laws_equalEdges_r5 : IC := .reg [
    ⟨(some 17), none, .mv (.t 0)⟩,
    ⟨(some 18), none, .mv (.t 5)⟩,
    ⟨(some 19), none, .iadr 2 (.t 17) (.t 18)⟩,
    ⟨(some 20), none, .load true 2 (.t 19)⟩,
    ⟨(some 21), none, .mv (.t 1)⟩,
    ⟨(some 22), none, .mv (.t 5)⟩,
    ⟨(some 23), none, .iadr 2 (.t 21) (.t 22)⟩,
    ⟨(some 24), none, .load true 2 (.t 23)⟩,
    ⟨(some 25), none, .eqa true 2 (.t 20) (.t 24)⟩] [0, 1, 5, 25] []
def ic_laws_equalEdges_r6 : IC := .reg [
    ⟨(some 4), none, .asg (.c (.bool false))⟩] [4] []
def ic_laws_equalEdges_r7 : IC := .reg [
    ⟨(some 15), none, .mv (.t 5)⟩,
    ⟨(some 16), none, .bin .add (.t 15) (.c (vi 1))⟩,
    ⟨(some 5), none, .asg (.t 16)⟩] [0, 1, 5] []
def ic_laws_equalEdges_l8 : IC := (.seq (.seq ic_laws_equalEdges_r4 (.cond (.t 14) .skip (.exit 0))) (.seq (.block 1 (.seq ic_laws_equalEdges_r5 (.cond (.t 25) (.seq ic_laws_equalEdges_r6 .ret) .skip))) ic_laws_equalEdges_r7))
def ic_laws_equalEdges_r9 : IC := .reg [
    ⟨(some 4), none, .asg (.c (.bool true))⟩] [4] []
def if_laws_equalEdges : IFun := ⟨[.t 4], [], (.seq ic_laws_equalEdges_r0 (.seq (.seq ic_laws_equalEdges_r1 (.cond (.t 10) (.seq ic_laws_equalEdges_r2 .ret) .skip)) (.seq (.seq ic_laws_equalEdges_r3 (.block 0 (.loop ic_laws_equalEdges_l8))) (.seq ic_laws_equalEdges_r9 .ret))))⟩

def ic_laws_equalGraph_r0 : IC := .reg [
    ⟨(some 2), none, .box (.t 0)⟩,
    ⟨(some 3), none, .box (.t 1)⟩,
    ⟨(some 4), none, .asg (.c (.bool false))⟩] [2, 3] []
def ic_laws_equalGraph_r1 : IC := .reg [
    ⟨(some 5), none, .fadr 0 (.t 2)⟩,
    ⟨(some 6), none, .load false 1 (.t 5)⟩,
    ⟨(some 7), none, .fadr 0 (.t 3)⟩,
    ⟨(some 8), none, .load false 1 (.t 7)⟩,
    ⟨(some 9), none, .bin .eql (.t 6) (.t 8)⟩,
    ⟨(some 10), none, .asg (.t 9)⟩,
    ⟨(some 11), (some (10, true)), .fadr 1 (.t 2)⟩,
    ⟨(some 12), (some (10, true)), .load false 1 (.t 11)⟩,
    ⟨(some 13), (some (10, true)), .fadr 1 (.t 3)⟩,
    ⟨(some 14), (some (10, true)), .load false 1 (.t 13)⟩,
    ⟨(some 15), (some (10, true)), .call l_laws_equalEdges [(.rd, (.t 12)), (.rd, (.t 14))] true⟩,
    ⟨(some 16), none, .pick (.t 10) (.t 15) (.c (.bool false))⟩,
    ⟨(some 4), none, .asg (.t 16)⟩] [4] []
def if_laws_equalGraph : IFun := ⟨[.t 4], [], (.seq ic_laws_equalGraph_r0 (.seq ic_laws_equalGraph_r1 .ret))⟩

def ic_laws_equalInts_r0 : IC := .reg [
    ⟨(some 4), none, .asg (.c (.bool false))⟩] [0, 1] []
def ic_laws_equalInts_r1 : IC := .reg [
    ⟨(some 6), none, .mv (.t 0)⟩,
    ⟨(some 7), none, .len (.t 6)⟩,
    ⟨(some 8), none, .mv (.t 1)⟩,
    ⟨(some 9), none, .len (.t 8)⟩,
    ⟨(some 10), none, .bin .neq (.t 7) (.t 9)⟩] [0, 1, 10] []
def ic_laws_equalInts_r2 : IC := .reg [
    ⟨(some 4), none, .asg (.c (.bool false))⟩] [4] []
def ic_laws_equalInts_r3 : IC := .reg [
    ⟨(some 5), none, .asg (.c (vi 0))⟩] [0, 1, 5] []
def ic_laws_equalInts_r4 : IC := .reg [
    ⟨(some 11), none, .mv (.t 5)⟩,
    ⟨(some 12), none, .mv (.t 0)⟩,
    ⟨(some 13), none, .len (.t 12)⟩,
    ⟨(some 14), none, .bin .lss (.t 11) (.t 13)⟩] [0, 1, 5, 14] []
def ic_laws_equalInts_r5 : IC := .reg [
    ⟨(some 17), none, .mv (.t 0)⟩,
    ⟨(some 18), none, .mv (.t 5)⟩,
    ⟨(some 19), none, .iadr 1 (.t 17) (.t 18)⟩,
    ⟨(some 20), none, .load false 1 (.t 19)⟩,
    ⟨(some 21), none, .mv (.t 1)⟩,
    ⟨(some 22), none, .mv (.t 5)⟩,
    ⟨(some 23), none, .iadr 1 (.t 21) (.t 22)⟩,
    ⟨(some 24), none, .load false 1 (.t 23)⟩,
    ⟨(some 25), none, .bin .neq (.t 20) (.t 24)⟩] [0, 1, 5, 25] []
def ic_laws_equalInts_r6 : IC := .reg [
    ⟨(some 4), none, .asg (.c (.bool false))⟩] [4] []
def ic_laws_equalInts_r7 : IC := .reg [
    ⟨(some 15), none, .mv (.t 5)⟩,
    ⟨(some 16), none, .bin .add (.t 15) (.c (vi 1))⟩,
    ⟨(some 5), none, .asg (.t 16)⟩] [0, 1, 5] []
def ic_laws_equalInts_l8 : IC := (.seq (.seq ic_laws_equalInts_r4 (.cond (.t 14) .skip (.exit 0))) (.seq (.block 1 (.seq ic_laws_equalInts_r5 (.cond (.t 25) (.seq ic_laws_equalInts_r6 .ret) .skip))) ic_laws_equalInts_r7))
def ic_laws_equalInts_r9 : IC := .reg [
    ⟨(some 4), none, .asg (.c (.bool true))⟩] [4] []
def if_laws_equalInts : IFun := ⟨[.t 4], [], (.seq ic_laws_equalInts_r0 (.seq (.seq ic_laws_equalInts_r1 (.cond (.t 10) (.seq ic_laws_equalInts_r2 .ret) .skip)) (.seq (.seq ic_laws_equalInts_r3 (.block 0 (.loop ic_laws_equalInts_l8))) (.seq ic_laws_equalInts_r9 .ret))))⟩

def ic_math_bits_Len_r0 : IC := .reg [
    ⟨(some 2), none, .asg (.c (vi 0))⟩] [0] []
def ic_math_bits_Len_r1 : IC := .reg [
    ⟨(some 3), none, .mv (.t 0)⟩,
    ⟨(some 4), none, .conv .u32 (.t 3)⟩,
    ⟨(some 5), none, .call l_math_bits_Len32 [(.val, (.t 4))] true⟩,
    ⟨(some 2), none, .asg (.t 5)⟩] [2] []
def ic_math_bits_Len_r2 : IC := .reg [
    ⟨(some 6), none, .mv (.t 0)⟩,
    ⟨(some 7), none, .call l_math_bits_Len64 [(.val, (.t 6))] true⟩,
    ⟨(some 2), none, .asg (.t 7)⟩] [2] []
def if_math_bits_Len : IFun := ⟨[.t 2], [], (.seq ic_math_bits_Len_r0 (.seq (.cond (.c (.bool false)) (.seq ic_math_bits_Len_r1 .ret) .skip) (.seq ic_math_bits_Len_r2 .ret)))⟩

def ic_math_bits_Len64_r0 : IC := .reg [
    ⟨(some 2), none, .asg (.c (vi 0))⟩] [0, 2] []
def ic_math_bits_Len64_r1 : IC := .reg [
    ⟨(some 3), none, .mv (.t 0)⟩,
    ⟨(some 4), none, .bin .geq (.t 3) (.c (.int .u64 (4294967296)))⟩] [0, 2, 4] []
def ic_math_bits_Len64_r2 : IC := .reg [
    ⟨(some 5), none, .mv (.t 0)⟩,
    ⟨(some 6), none, .bin .shr (.t 5) (.c (.int .u64 (32)))⟩,
    ⟨(some 0), none, .asg (.t 6)⟩] [0] []
def ic_math_bits_Len64_r3 : IC := .reg [
    ⟨(some 2), none, .asg (.c (vi 32))⟩] [0, 2] []
def ic_math_bits_Len64_r4 : IC := .reg [
    ⟨(some 7), none, .mv (.t 0)⟩,
    ⟨(some 8), none, .bin .geq (.t 7) (.c (.int .u64 (65536)))⟩] [0, 2, 8] []
def ic_math_bits_Len64_r5 : IC := .reg [
    ⟨(some 9), none, .mv (.t 0)⟩,
    ⟨(some 10), none, .bin .shr (.t 9) (.c (.int .u64 (16)))⟩,
    ⟨(some 0), none, .asg (.t 10)⟩] [0, 2] []
def ic_math_bits_Len64_r6 : IC := .reg [
    ⟨(some 11), none, .mv (.t 2)⟩,
    ⟨(some 12), none, .bin .add (.t 11) (.c (vi 16))⟩,
    ⟨(some 2), none, .asg (.t 12)⟩] [0, 2] []
def ic_math_bits_Len64_r7 : IC := .reg [
    ⟨(some 13), none, .mv (.t 0)⟩,
    ⟨(some 14), none, .bin .geq (.t 13) (.c (.int .u64 (256)))⟩] [0, 2, 14] []
def ic_math_bits_Len64_r8 : IC := .reg [
    ⟨(some 15), none, .mv (.t 0)⟩,
    ⟨(some 16), none, .bin .shr (.t 15) (.c (.int .u64 (8)))⟩,
    ⟨(some 0), none, .asg (.t 16)⟩] [0, 2] []
def ic_math_bits_Len64_r9 : IC := .reg [
    ⟨(some 17), none, .mv (.t 2)⟩,
    ⟨(some 18), none, .bin .add (.t 17) (.c (vi 8))⟩,
    ⟨(some 2), none, .asg (.t 18)⟩] [0, 2] []
def ic_math_bits_Len64_r10 : IC := .reg [
    ⟨(some 19), none, .mv (.t 2)⟩,
    ⟨(some 20), none, .mv (.t 0)⟩,
    ⟨(some 21), none, .conv .u8 (.t 20)⟩,
    ⟨(some 22), none, .idxs (.c (.string ⟨#[0, 1, 2, 2, 3, 3, 3, 3, 4, 4, 4, 4, 4, 4, 4, 4, 5, 5, 5, 5, 5, 5, 5, 5, 5, 5, 5, 5, 5, 5, 5, 5, 6, 6, 6, 6, 6, 6, 6, 6, 6, 6, 6, 6, 6, 6, 6, 6, 6, 6, 6, 6, 6, 6, 6, 6, 6, 6, 6, 6, 6, 6, 6, 6, 7, 7, 7, 7, 7, 7, 7, 7, 7, 7, 7, 7, 7, 7, 7, 7, 7, 7, 7, 7, 7, 7, 7, 7, 7, 7, 7, 7, 7, 7, 7, 7, 7, 7, 7, 7, 7, 7, 7, 7, 7, 7, 7, 7, 7, 7, 7, 7, 7, 7, 7, 7, 7, 7, 7, 7, 7, 7, 7, 7, 7, 7, 7, 7, 8, 8, 8, 8, 8, 8, 8, 8, 8, 8, 8, 8, 8, 8, 8, 8, 8, 8, 8, 8, 8, 8, 8, 8, 8, 8, 8, 8, 8, 8, 8, 8, 8, 8, 8, 8, 8, 8, 8, 8, 8, 8, 8, 8, 8, 8, 8, 8, 8, 8, 8, 8, 8, 8, 8, 8, 8, 8, 8, 8, 8, 8, 8, 8, 8, 8, 8, 8, 8, 8, 8, 8, 8, 8, 8, 8, 8, 8, 8, 8, 8, 8, 8, 8, 8, 8, 8, 8, 8, 8, 8, 8, 8, 8, 8, 8, 8, 8, 8, 8, 8, 8, 8, 8, 8, 8, 8, 8, 8, 8, 8, 8, 8, 8, 8, 8, 8, 8, 8, 8, 8, 8, 8, 8, 8, 8, 8, 8]⟩)) (.t 21)⟩,
    ⟨(some 23), none, .conv .i64 (.t 22)⟩,
    ⟨(some 24), none, .bin .add (.t 19) (.t 23)⟩,
    ⟨(some 2), none, .asg (.t 24)⟩] [2] []
def if_math_bits_Len64 : IFun := ⟨[.t 2], [], (.seq ic_math_bits_Len64_r0 (.seq (.seq ic_math_bits_Len64_r1 (.cond (.t 4) (.seq ic_math_bits_Len64_r2 ic_math_bits_Len64_r3) .skip)) (.seq (.seq ic_math_bits_Len64_r4 (.cond (.t 8) (.seq ic_math_bits_Len64_r5 ic_math_bits_Len64_r6) .skip)) (.seq (.seq ic_math_bits_Len64_r7 (.cond (.t 14) (.seq ic_math_bits_Len64_r8 ic_math_bits_Len64_r9) .skip)) (.seq ic_math_bits_Len64_r10 .ret)))))⟩

def ic_slices_Clip_Simpl_Edge_impl_Edge__r0 : IC := .reg [
    ⟨(some 2), none, .asg (.c (.slice none 0 0))⟩] [0] []
def ic_slices_Clip_Simpl_Edge_impl_Edge__r1 : IC := .reg [
    ⟨(some 3), none, .mv (.t 0)⟩,
    ⟨(some 4), none, .mv (.t 0)⟩,
    ⟨(some 5), none, .len (.t 4)⟩,
    ⟨(some 6), none, .mv (.t 0)⟩,
    ⟨(some 7), none, .len (.t 6)⟩,
    ⟨(some 8), none, .slc 2 (.t 3) none (some (.t 5)) (some (.t 7))⟩,
    ⟨(some 2), none, .asgm (.t 8)⟩] [0, 2] []
def if_slices_Clip_Simpl_Edge_impl_Edge_ : IFun := ⟨[.t 2], [], (.seq ic_slices_Clip_Simpl_Edge_impl_Edge__r0 (.seq ic_slices_Clip_Simpl_Edge_impl_Edge__r1 .ret))⟩

def ic_slices_Clone_Simpl_Edge_impl_Edge__r0 : IC := .reg [
    ⟨(some 2), none, .nilo 2⟩] [0] []
def ic_slices_Clone_Simpl_Edge_impl_Edge__r1 : List IOp := [
    ⟨(some 3), none, .mv (.t 0)⟩]
def ic_slices_Clone_Simpl_Edge_impl_Edge__r2 : IC := .reg [
    ⟨(some 2), none, .nilo 2⟩] [2] []
def ic_slices_Clone_Simpl_Edge_impl_Edge__r3 : IC := .reg [
    ⟨(some 5), none, .bsl 2 [(vi 0), (vi 0)] 0 []⟩,
    ⟨(some 6), none, .mv (.t 0)⟩,
    ⟨(some 7), none, .app 2 (.t 5) (.t 6)⟩,
    ⟨(some 2), none, .asg (.t 7)⟩] [2] []
def if_slices_Clone_Simpl_Edge_impl_Edge_ : IFun := ⟨[.t 2], [], (.seq ic_slices_Clone_Simpl_Edge_impl_Edge__r0 (.nilc2 ic_slices_Clone_Simpl_Edge_impl_Edge__r1 (.t 3) 4 [0, 4] (.cond (.t 4) (.seq ic_slices_Clone_Simpl_Edge_impl_Edge__r2 .ret) .skip) (.seq ic_slices_Clone_Simpl_Edge_impl_Edge__r3 .ret)))⟩

def ic_slices_Contains_Simpl_Edge_impl_Edge__r0 : IC := .reg [
    ⟨(some 3), none, .box (.t 1)⟩,
    ⟨(some 4), none, .asg (.c (.bool false))⟩] [0, 3] []
def ic_slices_Contains_Simpl_Edge_impl_Edge__r1 : IC := .reg [
    ⟨(some 5), none, .mv (.t 0)⟩,
    ⟨(some 6), none, .load true 2 (.t 3)⟩,
    ⟨(some 7), none, .call l_slices_Index_Simpl_Edge_impl_Edge_ [(.rd, (.t 5)), (.val, (.t 6))] true⟩,
    ⟨(some 8), none, .bin .geq (.t 7) (.c (vi 0))⟩,
    ⟨(some 4), none, .asg (.t 8)⟩] [4] []
def if_slices_Contains_Simpl_Edge_impl_Edge_ : IFun := ⟨[.t 4], [], (.seq ic_slices_Contains_Simpl_Edge_impl_Edge__r0 (.seq ic_slices_Contains_Simpl_Edge_impl_Edge__r1 .ret))⟩

def ic_slices_DeleteFunc_Simpl_Edge_impl_Edge__r0 : IC := .reg [
    ⟨(some 4), none, .asg (.c (.slice none 0 0))⟩] [0, 1] []
def ic_slices_DeleteFunc_Simpl_Edge_impl_Edge__r1 : IC := .reg [
    ⟨(some 8), none, .mv (.t 0)⟩,
    ⟨(some 9), none, .mv (.t 1)⟩,
    ⟨(some 10), none, .call l_slices_IndexFunc_Simpl_Edge_impl_Edge__L [(.ld, (.t 8)), (.val, (.t 9))] false⟩,
    ⟨(some 5), none, .asg (.t 10)⟩] [0, 1, 5] []
def ic_slices_DeleteFunc_Simpl_Edge_impl_Edge__r2 : IC := .reg [
    ⟨(some 11), none, .mv (.t 5)⟩,
    ⟨(some 12), none, .bin .eql (.t 11) (.c (vi (-1)))⟩] [0, 1, 5, 12] []
def ic_slices_DeleteFunc_Simpl_Edge_impl_Edge__r3 : IC := .reg [
    ⟨(some 13), none, .mv (.t 0)⟩,
    ⟨(some 4), none, .asgm (.t 13)⟩] [0, 4] []
def ic_slices_DeleteFunc_Simpl_Edge_impl_Edge__r4 : IC := .reg [
    ⟨(some 14), none, .mv (.t 5)⟩,
    ⟨(some 15), none, .bin .add (.t 14) (.c (vi 1))⟩,
    ⟨(some 6), none, .asg (.t 15)⟩] [0, 1, 5, 6] []
def ic_slices_DeleteFunc_Simpl_Edge_impl_Edge__r5 : IC := .reg [
    ⟨(some 16), none, .mv (.t 6)⟩,
    ⟨(some 17), none, .mv (.t 0)⟩,
    ⟨(some 18), none, .len (.t 17)⟩,
    ⟨(some 19), none, .bin .lss (.t 16) (.t 18)⟩] [0, 1, 5, 6, 19] []
def ic_slices_DeleteFunc_Simpl_Edge_impl_Edge__r6 : IC := .reg [
    ⟨(some 22), none, .mv (.t 0)⟩,
    ⟨(some 23), none, .mv (.t 6)⟩,
    ⟨(some 24), none, .iadr 2 (.t 22) (.t 23)⟩,
    ⟨(some 25), none, .load true 2 (.t 24)⟩,
    ⟨(some 7), none, .alloc [(vi 0), (vi 0)]⟩,
    ⟨none, none, .store 2 (.t 7) (.t 25)⟩] [0, 1, 5, 6, 7] []
def ic_slices_DeleteFunc_Simpl_Edge_impl_Edge__r7 : IC := .reg [
    ⟨(some 26), none, .mv (.t 1)⟩,
    ⟨(some 27), none, .load true 2 (.t 7)⟩,
    ⟨(some 28), none, .callv (.t 26) [(.val, (.t 27))]⟩,
    ⟨(some 29), none, .unop .not (.t 28)⟩] [0, 1, 5, 6, 7, 29] []
def ic_slices_DeleteFunc_Simpl_Edge_impl_Edge__r8 : IC := .reg [
    ⟨(some 30), none, .mv (.t 0)⟩,
    ⟨(some 31), none, .mv (.t 5)⟩,
    ⟨(some 32), none, .load true 2 (.t 7)⟩,
    ⟨(some 33), none, .iadr 2 (.t 30) (.t 31)⟩,
    ⟨none, none, .store 2 (.t 33) (.t 32)⟩] [0, 1, 5, 6] []
def ic_slices_DeleteFunc_Simpl_Edge_impl_Edge__r9 : IC := .reg [
    ⟨(some 34), none, .mv (.t 5)⟩,
    ⟨(some 35), none, .bin .add (.t 34) (.c (vi 1))⟩,
    ⟨(some 5), none, .asg (.t 35)⟩] [0, 1, 5, 6] []
def ic_slices_DeleteFunc_Simpl_Edge_impl_Edge__r10 : IC := .reg [
    ⟨(some 20), none, .mv (.t 6)⟩,
    ⟨(some 21), none, .bin .add (.t 20) (.c (vi 1))⟩,
    ⟨(some 6), none, .asg (.t 21)⟩] [0, 1, 5, 6] []
def ic_slices_DeleteFunc_Simpl_Edge_impl_Edge__l11 : IC := (.seq (.seq ic_slices_DeleteFunc_Simpl_Edge_impl_Edge__r5 (.cond (.t 19) .skip (.exit 0))) (.seq (.block 1 (.seq ic_slices_DeleteFunc_Simpl_Edge_impl_Edge__r6 (.seq ic_slices_DeleteFunc_Simpl_Edge_impl_Edge__r7 (.cond (.t 29) (.seq ic_slices_DeleteFunc_Simpl_Edge_impl_Edge__r8 ic_slices_DeleteFunc_Simpl_Edge_impl_Edge__r9) .skip)))) ic_slices_DeleteFunc_Simpl_Edge_impl_Edge__r10))
def ic_slices_DeleteFunc_Simpl_Edge_impl_Edge__r12 : IC := .reg [
    ⟨(some 36), none, .mv (.t 0)⟩,
    ⟨(some 37), none, .mv (.t 5)⟩,
    ⟨(some 38), none, .slc 2 (.t 36) (some (.t 37)) none none⟩,
    ⟨none, none, .clr (.t 38) [(vi 0), (vi 0)]⟩] [0, 5] []
def ic_slices_DeleteFunc_Simpl_Edge_impl_Edge__r13 : IC := .reg [
    ⟨(some 39), none, .mv (.t 0)⟩,
    ⟨(some 40), none, .mv (.t 5)⟩,
    ⟨(some 41), none, .slc 2 (.t 39) none (some (.t 40)) none⟩,
    ⟨(some 4), none, .asgm (.t 41)⟩] [0, 4] []
def if_slices_DeleteFunc_Simpl_Edge_impl_Edge_ : IFun := ⟨[.t 4], [], (.seq ic_slices_DeleteFunc_Simpl_Edge_impl_Edge__r0 (.seq ic_slices_DeleteFunc_Simpl_Edge_impl_Edge__r1 (.seq (.seq ic_slices_DeleteFunc_Simpl_Edge_impl_Edge__r2 (.cond (.t 12) (.seq ic_slices_DeleteFunc_Simpl_Edge_impl_Edge__r3 .ret) .skip)) (.seq (.seq ic_slices_DeleteFunc_Simpl_Edge_impl_Edge__r4 (.block 0 (.loop ic_slices_DeleteFunc_Simpl_Edge_impl_Edge__l11))) (.seq ic_slices_DeleteFunc_Simpl_Edge_impl_Edge__r12 (.seq ic_slices_DeleteFunc_Simpl_Edge_impl_Edge__r13 .ret))))))⟩

def ic_slices_IndexFunc_Simpl_Edge_impl_Edge__L_r0 : IC := .reg [
    ⟨(some 4), none, .asg (.c (vi 0))⟩] [0, 1] []
def ic_slices_IndexFunc_Simpl_Edge_impl_Edge__L_r1 : IC := .reg [
    ⟨(some 6), none, .mv (.t 0)⟩,
    ⟨(some 7), none, .len (.t 6)⟩,
    ⟨(some 8), none, .mv (.c (vi 0))⟩] [0, 1, 7, 8] []
def ic_slices_IndexFunc_Simpl_Edge_impl_Edge__L_r2 : IC := .reg [
    ⟨(some 9), none, .bin .lss (.t 8) (.t 7)⟩] [0, 1, 7, 8, 9] []
def ic_slices_IndexFunc_Simpl_Edge_impl_Edge__L_r3 : IC := .reg [
    ⟨(some 10), none, .asg (.t 8)⟩,
    ⟨(some 5), none, .asg (.t 10)⟩] [0, 1, 5, 7, 8] []
def ic_slices_IndexFunc_Simpl_Edge_impl_Edge__L_r4 : IC := .reg [
    ⟨(some 11), none, .mv (.t 1)⟩,
    ⟨(some 12), none, .mv (.t 0)⟩,
    ⟨(some 13), none, .mv (.t 5)⟩,
    ⟨(some 14), none, .iadr 2 (.t 12) (.t 13)⟩,
    ⟨(some 15), none, .load true 2 (.t 14)⟩,
    ⟨(some 16), none, .callv (.t 11) [(.val, (.t 15))]⟩] [0, 1, 5, 7, 8, 16] []
def ic_slices_IndexFunc_Simpl_Edge_impl_Edge__L_r5 : IC := .reg [
    ⟨(some 17), none, .mv (.t 5)⟩,
    ⟨(some 4), none, .asgm (.t 17)⟩] [0, 4] []
def ic_slices_IndexFunc_Simpl_Edge_impl_Edge__L_r6 : IC := .reg [
    ⟨(some 18), none, .bin .add (.t 8) (.c (vi 1))⟩,
    ⟨(some 8), none, .asg (.t 18)⟩] [0, 1, 7, 8] []
def ic_slices_IndexFunc_Simpl_Edge_impl_Edge__L_l7 : IC := (.seq ic_slices_IndexFunc_Simpl_Edge_impl_Edge__L_r2 (.seq (.cond (.t 9) .skip (.exit 0)) (.seq (.block 1 (.seq ic_slices_IndexFunc_Simpl_Edge_impl_Edge__L_r3 (.seq ic_slices_IndexFunc_Simpl_Edge_impl_Edge__L_r4 (.cond (.t 16) (.seq ic_slices_IndexFunc_Simpl_Edge_impl_Edge__L_r5 .ret) .skip)))) ic_slices_IndexFunc_Simpl_Edge_impl_Edge__L_r6)))
def ic_slices_IndexFunc_Simpl_Edge_impl_Edge__L_r8 : IC := .reg [
    ⟨(some 4), none, .asg (.c (vi (-1)))⟩] [0, 4] []
def if_slices_IndexFunc_Simpl_Edge_impl_Edge__L : IFun := ⟨[.t 4], [0], (.seq ic_slices_IndexFunc_Simpl_Edge_impl_Edge__L_r0 (.seq (.seq ic_slices_IndexFunc_Simpl_Edge_impl_Edge__L_r1 (.block 0 (.loop ic_slices_IndexFunc_Simpl_Edge_impl_Edge__L_l7))) (.seq ic_slices_IndexFunc_Simpl_Edge_impl_Edge__L_r8 .ret)))⟩

def ic_slices_Index_Simpl_Edge_impl_Edge__r0 : IC := .reg [
    ⟨(some 3), none, .box (.t 1)⟩,
    ⟨(some 4), none, .asg (.c (vi 0))⟩] [0, 3] []
def ic_slices_Index_Simpl_Edge_impl_Edge__r1 : IC := .reg [
    ⟨(some 6), none, .mv (.t 0)⟩,
    ⟨(some 7), none, .len (.t 6)⟩,
    ⟨(some 8), none, .mv (.c (vi 0))⟩] [0, 3, 7, 8] []
def ic_slices_Index_Simpl_Edge_impl_Edge__r2 : IC := .reg [
    ⟨(some 9), none, .bin .lss (.t 8) (.t 7)⟩] [0, 3, 7, 8, 9] []
def ic_slices_Index_Simpl_Edge_impl_Edge__r3 : IC := .reg [
    ⟨(some 10), none, .asg (.t 8)⟩,
    ⟨(some 5), none, .asg (.t 10)⟩] [0, 3, 5, 7, 8] []
def ic_slices_Index_Simpl_Edge_impl_Edge__r4 : IC := .reg [
    ⟨(some 11), none, .load true 2 (.t 3)⟩,
    ⟨(some 12), none, .mv (.t 0)⟩,
    ⟨(some 13), none, .mv (.t 5)⟩,
    ⟨(some 14), none, .iadr 2 (.t 12) (.t 13)⟩,
    ⟨(some 15), none, .load true 2 (.t 14)⟩,
    ⟨(some 16), none, .eqa false 2 (.t 11) (.t 15)⟩] [0, 3, 5, 7, 8, 16] []
def ic_slices_Index_Simpl_Edge_impl_Edge__r5 : IC := .reg [
    ⟨(some 17), none, .mv (.t 5)⟩,
    ⟨(some 4), none, .asgm (.t 17)⟩] [4] []
def ic_slices_Index_Simpl_Edge_impl_Edge__r6 : IC := .reg [
    ⟨(some 18), none, .bin .add (.t 8) (.c (vi 1))⟩,
    ⟨(some 8), none, .asg (.t 18)⟩] [0, 3, 7, 8] []
def ic_slices_Index_Simpl_Edge_impl_Edge__l7 : IC := (.seq ic_slices_Index_Simpl_Edge_impl_Edge__r2 (.seq (.cond (.t 9) .skip (.exit 0)) (.seq (.block 1 (.seq ic_slices_Index_Simpl_Edge_impl_Edge__r3 (.seq ic_slices_Index_Simpl_Edge_impl_Edge__r4 (.cond (.t 16) (.seq ic_slices_Index_Simpl_Edge_impl_Edge__r5 .ret) .skip)))) ic_slices_Index_Simpl_Edge_impl_Edge__r6)))
def ic_slices_Index_Simpl_Edge_impl_Edge__r8 : IC := .reg [
    ⟨(some 4), none, .asg (.c (vi (-1)))⟩] [4] []
def if_slices_Index_Simpl_Edge_impl_Edge_ : IFun := ⟨[.t 4], [], (.seq ic_slices_Index_Simpl_Edge_impl_Edge__r0 (.seq (.seq ic_slices_Index_Simpl_Edge_impl_Edge__r1 (.block 0 (.loop ic_slices_Index_Simpl_Edge_impl_Edge__l7))) (.seq ic_slices_Index_Simpl_Edge_impl_Edge__r8 .ret)))⟩

def ic_slices_SortFunc_Simpl_Edge_impl_Edge__r0 : IC := .reg [
    ⟨(some 5), none, .mv (.t 0)⟩,
    ⟨(some 6), none, .len (.t 5)⟩,
    ⟨(some 4), none, .asg (.t 6)⟩] [0, 1, 4] []
def ic_slices_SortFunc_Simpl_Edge_impl_Edge__r1 : IC := .reg [
    ⟨(some 7), none, .mv (.t 0)⟩,
    ⟨(some 8), none, .mv (.t 4)⟩,
    ⟨(some 9), none, .mv (.t 4)⟩,
    ⟨(some 10), none, .conv .u64 (.t 9)⟩,
    ⟨(some 11), none, .call l_math_bits_Len [(.val, (.t 10))] true⟩,
    ⟨(some 12), none, .mv (.t 1)⟩,
    ⟨(some 13), none, .call l_slices_pdqsortCmpFunc_impl_Edge_ [(.ld, (.t 7)), (.val, (.c (vi 0))), (.val, (.t 8)), (.val, (.t 11)), (.val, (.t 12))] false⟩] [0] []
def if_slices_SortFunc_Simpl_Edge_impl_Edge_ : IFun := ⟨[], [0], (.seq ic_slices_SortFunc_Simpl_Edge_impl_Edge__r0 ic_slices_SortFunc_Simpl_Edge_impl_Edge__r1)⟩

def ic_slices_breakPatternsCmpFunc_impl_Edge__r0 : IC := .reg [
    ⟨(some 13), none, .mv (.t 2)⟩,
    ⟨(some 14), none, .mv (.t 1)⟩,
    ⟨(some 15), none, .bin .sub (.t 13) (.t 14)⟩,
    ⟨(some 8), none, .asg (.t 15)⟩] [0, 1, 8] []
def ic_slices_breakPatternsCmpFunc_impl_Edge__r1 : IC := .reg [
    ⟨(some 16), none, .mv (.t 8)⟩,
    ⟨(some 17), none, .bin .geq (.t 16) (.c (vi 8))⟩] [0, 1, 8, 17] []
def ic_slices_breakPatternsCmpFunc_impl_Edge__r2 : IC := .reg [
    ⟨(some 18), none, .mv (.t 8)⟩,
    ⟨(some 19), none, .conv .u64 (.t 18)⟩,
    ⟨(some 9), none, .alloc [(.int .u64 (0))]⟩,
    ⟨none, none, .store 1 (.t 9) (.t 19)⟩] [0, 1, 8, 9] []
def ic_slices_breakPatternsCmpFunc_impl_Edge__r3 : IC := .reg [
    ⟨(some 20), none, .mv (.t 8)⟩,
    ⟨(some 21), none, .call l_slices_nextPowerOfTwo [(.val, (.t 20))] true⟩,
    ⟨(some 10), none, .asg (.t 21)⟩] [0, 1, 8, 9, 10] []
def ic_slices_breakPatternsCmpFunc_impl_Edge__r4 : IC := .reg [
    ⟨(some 22), none, .mv (.t 1)⟩,
    ⟨(some 23), none, .mv (.t 8)⟩,
    ⟨(some 24), none, .bin .quo (.t 23) (.c (vi 4))⟩,
    ⟨(some 25), none, .bin .mul (.t 24) (.c (vi 2))⟩,
    ⟨(some 26), none, .bin .add (.t 22) (.t 25)⟩,
    ⟨(some 27), none, .bin .sub (.t 26) (.c (vi 1))⟩,
    ⟨(some 11), none, .asg (.t 27)⟩] [0, 1, 8, 9, 10, 11] []
def ic_slices_breakPatternsCmpFunc_impl_Edge__r5 : IC := .reg [
    ⟨(some 28), none, .mv (.t 11)⟩,
    ⟨(some 29), none, .mv (.t 1)⟩,
    ⟨(some 30), none, .mv (.t 8)⟩,
    ⟨(some 31), none, .bin .quo (.t 30) (.c (vi 4))⟩,
    ⟨(some 32), none, .bin .mul (.t 31) (.c (vi 2))⟩,
    ⟨(some 33), none, .bin .add (.t 29) (.t 32)⟩,
    ⟨(some 34), none, .bin .add (.t 33) (.c (vi 1))⟩,
    ⟨(some 35), none, .bin .leq (.t 28) (.t 34)⟩] [0, 1, 8, 9, 10, 11, 35] []
def ic_slices_breakPatternsCmpFunc_impl_Edge__r6 : IC := .reg [
    ⟨(some 38), none, .call l_slices_xorshift_Next [(.val, (.t 9))] false⟩,
    ⟨(some 39), none, .mv (.t 10)⟩,
    ⟨(some 40), none, .bin .sub (.t 39) (.c (.int .u64 (1)))⟩,
    ⟨(some 41), none, .bin .and (.t 38) (.t 40)⟩,
    ⟨(some 42), none, .conv .i64 (.t 41)⟩,
    ⟨(some 12), none, .asg (.t 42)⟩] [0, 1, 8, 9, 10, 11, 12] []
def ic_slices_breakPatternsCmpFunc_impl_Edge__r7 : IC := .reg [
    ⟨(some 43), none, .mv (.t 12)⟩,
    ⟨(some 44), none, .mv (.t 8)⟩,
    ⟨(some 45), none, .bin .geq (.t 43) (.t 44)⟩] [0, 1, 8, 9, 10, 11, 12, 45] []
def ic_slices_breakPatternsCmpFunc_impl_Edge__r8 : IC := .reg [
    ⟨(some 46), none, .mv (.t 12)⟩,
    ⟨(some 47), none, .mv (.t 8)⟩,
    ⟨(some 48), none, .bin .sub (.t 46) (.t 47)⟩,
    ⟨(some 12), none, .asg (.t 48)⟩] [0, 1, 8, 9, 10, 11, 12] []
def ic_slices_breakPatternsCmpFunc_impl_Edge__r9 : IC := .reg [
    ⟨(some 49), none, .mv (.t 0)⟩,
    ⟨(some 50), none, .mv (.t 11)⟩,
    ⟨(some 51), none, .mv (.t 0)⟩,
    ⟨(some 52), none, .mv (.t 1)⟩,
    ⟨(some 53), none, .mv (.t 12)⟩,
    ⟨(some 54), none, .bin .add (.t 52) (.t 53)⟩,
    ⟨(some 55), none, .mv (.t 0)⟩,
    ⟨(some 56), none, .mv (.t 1)⟩,
    ⟨(some 57), none, .mv (.t 12)⟩,
    ⟨(some 58), none, .bin .add (.t 56) (.t 57)⟩,
    ⟨(some 59), none, .iadr 2 (.t 55) (.t 58)⟩,
    ⟨(some 60), none, .load true 2 (.t 59)⟩,
    ⟨(some 61), none, .mv (.t 0)⟩,
    ⟨(some 62), none, .mv (.t 11)⟩,
    ⟨(some 63), none, .iadr 2 (.t 61) (.t 62)⟩,
    ⟨(some 64), none, .load true 2 (.t 63)⟩,
    ⟨(some 65), none, .iadr 2 (.t 49) (.t 50)⟩,
    ⟨none, none, .store 2 (.t 65) (.t 60)⟩,
    ⟨(some 66), none, .iadr 2 (.t 51) (.t 54)⟩,
    ⟨none, none, .store 2 (.t 66) (.t 64)⟩] [0, 1, 8, 9, 10, 11] []
def ic_slices_breakPatternsCmpFunc_impl_Edge__r10 : IC := .reg [
    ⟨(some 36), none, .mv (.t 11)⟩,
    ⟨(some 37), none, .bin .add (.t 36) (.c (vi 1))⟩,
    ⟨(some 11), none, .asg (.t 37)⟩] [0, 1, 8, 9, 10, 11] []
def ic_slices_breakPatternsCmpFunc_impl_Edge__l11 : IC := (.seq (.seq ic_slices_breakPatternsCmpFunc_impl_Edge__r5 (.cond (.t 35) .skip (.exit 0))) (.seq (.block 1 (.seq ic_slices_breakPatternsCmpFunc_impl_Edge__r6 (.seq (.seq ic_slices_breakPatternsCmpFunc_impl_Edge__r7 (.cond (.t 45) ic_slices_breakPatternsCmpFunc_impl_Edge__r8 .skip)) ic_slices_breakPatternsCmpFunc_impl_Edge__r9))) ic_slices_breakPatternsCmpFunc_impl_Edge__r10))
def if_slices_breakPatternsCmpFunc_impl_Edge_ : IFun := ⟨[], [0], (.seq ic_slices_breakPatternsCmpFunc_impl_Edge__r0 (.seq ic_slices_breakPatternsCmpFunc_impl_Edge__r1 (.cond (.t 17) (.seq ic_slices_breakPatternsCmpFunc_impl_Edge__r2 (.seq ic_slices_breakPatternsCmpFunc_impl_Edge__r3 (.seq ic_slices_breakPatternsCmpFunc_impl_Edge__r4 (.block 0 (.loop ic_slices_breakPatternsCmpFunc_impl_Edge__l11))))) .skip)))⟩

def ic_slices_choosePivotCmpFunc_impl_Edge__L_r0 : IC := .reg [
    ⟨(some 8), none, .asg (.c (vi 0))⟩,
    ⟨(some 9), none, .asg (.c (vi 0))⟩] [0, 1, 2, 3] []
def ic_slices_choosePivotCmpFunc_impl_Edge__L_r1 : IC := .reg [
    ⟨(some 15), none, .mv (.t 2)⟩,
    ⟨(some 16), none, .mv (.t 1)⟩,
    ⟨(some 17), none, .bin .sub (.t 15) (.t 16)⟩,
    ⟨(some 10), none, .asg (.t 17)⟩] [0, 1, 3, 10] []
def ic_slices_choosePivotCmpFunc_impl_Edge__L_r2 : IC := .reg [
    ⟨(some 11), none, .alloc [(vi 0)]⟩] [0, 1, 3, 10, 11] []
def ic_slices_choosePivotCmpFunc_impl_Edge__L_r3 : IC := .reg [
    ⟨(some 18), none, .mv (.t 1)⟩,
    ⟨(some 19), none, .mv (.t 10)⟩,
    ⟨(some 20), none, .bin .quo (.t 19) (.c (vi 4))⟩,
    ⟨(some 21), none, .bin .mul (.t 20) (.c (vi 1))⟩,
    ⟨(some 22), none, .bin .add (.t 18) (.t 21)⟩,
    ⟨(some 12), none, .asg (.t 22)⟩] [0, 1, 3, 10, 11, 12] []
def ic_slices_choosePivotCmpFunc_impl_Edge__L_r4 : IC := .reg [
    ⟨(some 23), none, .mv (.t 1)⟩,
    ⟨(some 24), none, .mv (.t 10)⟩,
    ⟨(some 25), none, .bin .quo (.t 24) (.c (vi 4))⟩,
    ⟨(some 26), none, .bin .mul (.t 25) (.c (vi 2))⟩,
    ⟨(some 27), none, .bin .add (.t 23) (.t 26)⟩,
    ⟨(some 13), none, .asg (.t 27)⟩] [0, 1, 3, 10, 11, 12, 13] []
def ic_slices_choosePivotCmpFunc_impl_Edge__L_r5 : IC := .reg [
    ⟨(some 28), none, .mv (.t 1)⟩,
    ⟨(some 29), none, .mv (.t 10)⟩,
    ⟨(some 30), none, .bin .quo (.t 29) (.c (vi 4))⟩,
    ⟨(some 31), none, .bin .mul (.t 30) (.c (vi 3))⟩,
    ⟨(some 32), none, .bin .add (.t 28) (.t 31)⟩,
    ⟨(some 14), none, .asg (.t 32)⟩] [0, 3, 10, 11, 12, 13, 14] []
def ic_slices_choosePivotCmpFunc_impl_Edge__L_r6 : IC := .reg [
    ⟨(some 33), none, .mv (.t 10)⟩,
    ⟨(some 34), none, .bin .geq (.t 33) (.c (vi 8))⟩] [0, 3, 10, 11, 12, 13, 14, 34] []
def ic_slices_choosePivotCmpFunc_impl_Edge__L_r7 : IC := .reg [
    ⟨(some 35), none, .mv (.t 10)⟩,
    ⟨(some 36), none, .bin .geq (.t 35) (.c (vi 50))⟩] [0, 3, 11, 12, 13, 14, 36] []
def ic_slices_choosePivotCmpFunc_impl_Edge__L_r8 : IC := .reg [
    ⟨(some 37), none, .mv (.t 0)⟩,
    ⟨(some 38), none, .mv (.t 12)⟩,
    ⟨(some 39), none, .mv (.t 3)⟩,
    ⟨(some 40), none, .call l_slices_medianAdjacentCmpFunc_impl_Edge__L [(.ld, (.t 37)), (.val, (.t 38)), (.val, (.t 11)), (.val, (.t 39))] false⟩,
    ⟨(some 12), none, .asg (.t 40)⟩] [0, 3, 11, 12, 13, 14] []
def ic_slices_choosePivotCmpFunc_impl_Edge__L_r9 : IC := .reg [
    ⟨(some 41), none, .mv (.t 0)⟩,
    ⟨(some 42), none, .mv (.t 13)⟩,
    ⟨(some 43), none, .mv (.t 3)⟩,
    ⟨(some 44), none, .call l_slices_medianAdjacentCmpFunc_impl_Edge__L [(.ld, (.t 41)), (.val, (.t 42)), (.val, (.t 11)), (.val, (.t 43))] false⟩,
    ⟨(some 13), none, .asg (.t 44)⟩] [0, 3, 11, 12, 13, 14] []
def ic_slices_choosePivotCmpFunc_impl_Edge__L_r10 : IC := .reg [
    ⟨(some 45), none, .mv (.t 0)⟩,
    ⟨(some 46), none, .mv (.t 14)⟩,
    ⟨(some 47), none, .mv (.t 3)⟩,
    ⟨(some 48), none, .call l_slices_medianAdjacentCmpFunc_impl_Edge__L [(.ld, (.t 45)), (.val, (.t 46)), (.val, (.t 11)), (.val, (.t 47))] false⟩,
    ⟨(some 14), none, .asg (.t 48)⟩] [0, 3, 11, 12, 13, 14] []
def ic_slices_choosePivotCmpFunc_impl_Edge__L_r11 : IC := .reg [
    ⟨(some 49), none, .mv (.t 0)⟩,
    ⟨(some 50), none, .mv (.t 12)⟩,
    ⟨(some 51), none, .mv (.t 13)⟩,
    ⟨(some 52), none, .mv (.t 14)⟩,
    ⟨(some 53), none, .mv (.t 3)⟩,
    ⟨(some 54), none, .call l_slices_medianCmpFunc_impl_Edge__L [(.ld, (.t 49)), (.val, (.t 50)), (.val, (.t 51)), (.val, (.t 52)), (.val, (.t 11)), (.val, (.t 53))] false⟩,
    ⟨(some 13), none, .asg (.t 54)⟩] [0, 11, 13] []
def ic_slices_choosePivotCmpFunc_impl_Edge__L_r12 : IC := .reg [
    ⟨(some 55), none, .load false 1 (.t 11)⟩] [0, 13, 55] []
def ic_slices_choosePivotCmpFunc_impl_Edge__L_r13 : IC := .reg [
    ⟨(some 58), none, .bin .eql (.t 55) (.c (vi 0))⟩,
    ⟨(some 57), none, .asg (.t 58)⟩] [0, 13, 55, 57] []
def ic_slices_choosePivotCmpFunc_impl_Edge__L_r14 : IC := .reg [
    ⟨(some 59), none, .mv (.t 13)⟩,
    ⟨(some 8), none, .asgm (.t 59)⟩,
    ⟨(some 9), none, .asg (.c (vi 1))⟩] [0, 8, 9] []
def ic_slices_choosePivotCmpFunc_impl_Edge__L_r15 : IC := .reg [
    ⟨(some 61), none, .bin .eql (.t 55) (.c (vi 12))⟩,
    ⟨(some 60), none, .asg (.t 61)⟩] [0, 13, 60] []
def ic_slices_choosePivotCmpFunc_impl_Edge__L_r16 : IC := .reg [
    ⟨(some 62), none, .mv (.t 13)⟩,
    ⟨(some 8), none, .asgm (.t 62)⟩,
    ⟨(some 9), none, .asg (.c (vi 2))⟩] [0, 8, 9] []
def ic_slices_choosePivotCmpFunc_impl_Edge__L_r17 : IC := .reg [
    ⟨(some 56), none, .mv (.t 13)⟩,
    ⟨(some 8), none, .asgm (.t 56)⟩,
    ⟨(some 9), none, .asg (.c (vi 0))⟩] [0, 8, 9] []
def if_slices_choosePivotCmpFunc_impl_Edge__L : IFun := ⟨[.t 8, .t 9], [0], (.seq ic_slices_choosePivotCmpFunc_impl_Edge__L_r0 (.seq ic_slices_choosePivotCmpFunc_impl_Edge__L_r1 (.seq ic_slices_choosePivotCmpFunc_impl_Edge__L_r2 (.seq ic_slices_choosePivotCmpFunc_impl_Edge__L_r3 (.seq ic_slices_choosePivotCmpFunc_impl_Edge__L_r4 (.seq ic_slices_choosePivotCmpFunc_impl_Edge__L_r5 (.seq (.seq ic_slices_choosePivotCmpFunc_impl_Edge__L_r6 (.cond (.t 34) (.seq (.seq ic_slices_choosePivotCmpFunc_impl_Edge__L_r7 (.cond (.t 36) (.seq ic_slices_choosePivotCmpFunc_impl_Edge__L_r8 (.seq ic_slices_choosePivotCmpFunc_impl_Edge__L_r9 ic_slices_choosePivotCmpFunc_impl_Edge__L_r10)) .skip)) ic_slices_choosePivotCmpFunc_impl_Edge__L_r11) .skip)) (.seq ic_slices_choosePivotCmpFunc_impl_Edge__L_r12 (.block 0 (.seq ic_slices_choosePivotCmpFunc_impl_Edge__L_r13 (.cond (.t 57) (.seq ic_slices_choosePivotCmpFunc_impl_Edge__L_r14 .ret) (.seq ic_slices_choosePivotCmpFunc_impl_Edge__L_r15 (.cond (.t 60) (.seq ic_slices_choosePivotCmpFunc_impl_Edge__L_r16 .ret) (.seq ic_slices_choosePivotCmpFunc_impl_Edge__L_r17 .ret))))))))))))))⟩

def ic_slices_insertionSortCmpFunc_impl_Edge__r0 : IC := .reg [
    ⟨(some 10), none, .mv (.t 1)⟩,
    ⟨(some 11), none, .bin .add (.t 10) (.c (vi 1))⟩,
    ⟨(some 8), none, .asg (.t 11)⟩] [0, 1, 2, 3, 8] []
def ic_slices_insertionSortCmpFunc_impl_Edge__r1 : IC := .reg [
    ⟨(some 12), none, .mv (.t 8)⟩,
    ⟨(some 13), none, .mv (.t 2)⟩,
    ⟨(some 14), none, .bin .lss (.t 12) (.t 13)⟩] [0, 1, 2, 3, 8, 14] []
def ic_slices_insertionSortCmpFunc_impl_Edge__r2 : IC := .reg [
    ⟨(some 17), none, .mv (.t 8)⟩,
    ⟨(some 9), none, .asg (.t 17)⟩] [0, 1, 2, 3, 8, 9] []
def ic_slices_insertionSortCmpFunc_impl_Edge__r3 : IC := .reg [
    ⟨(some 18), none, .mv (.t 9)⟩,
    ⟨(some 19), none, .mv (.t 1)⟩,
    ⟨(some 20), none, .bin .gtr (.t 18) (.t 19)⟩,
    ⟨(some 21), none, .asg (.t 20)⟩,
    ⟨(some 22), (some (21, true)), .mv (.t 3)⟩,
    ⟨(some 23), (some (21, true)), .mv (.t 0)⟩,
    ⟨(some 24), (some (21, true)), .mv (.t 9)⟩,
    ⟨(some 25), (some (21, true)), .iadr 2 (.t 23) (.t 24)⟩,
    ⟨(some 26), (some (21, true)), .load true 2 (.t 25)⟩,
    ⟨(some 27), (some (21, true)), .mv (.t 0)⟩,
    ⟨(some 28), (some (21, true)), .mv (.t 9)⟩,
    ⟨(some 29), (some (21, true)), .bin .sub (.t 28) (.c (vi 1))⟩,
    ⟨(some 30), (some (21, true)), .iadr 2 (.t 27) (.t 29)⟩,
    ⟨(some 31), (some (21, true)), .load true 2 (.t 30)⟩,
    ⟨(some 32), (some (21, true)), .callv (.t 22) [(.val, (.t 26)), (.val, (.t 31))]⟩,
    ⟨(some 33), (some (21, true)), .bin .lss (.t 32) (.c (vi 0))⟩,
    ⟨(some 34), none, .pick (.t 21) (.t 33) (.c (.bool false))⟩] [0, 1, 2, 3, 8, 9, 34] []
def ic_slices_insertionSortCmpFunc_impl_Edge__r4 : IC := .reg [
    ⟨(some 37), none, .mv (.t 0)⟩,
    ⟨(some 38), none, .mv (.t 9)⟩,
    ⟨(some 39), none, .mv (.t 0)⟩,
    ⟨(some 40), none, .mv (.t 9)⟩,
    ⟨(some 41), none, .bin .sub (.t 40) (.c (vi 1))⟩,
    ⟨(some 42), none, .mv (.t 0)⟩,
    ⟨(some 43), none, .mv (.t 9)⟩,
    ⟨(some 44), none, .bin .sub (.t 43) (.c (vi 1))⟩,
    ⟨(some 45), none, .iadr 2 (.t 42) (.t 44)⟩,
    ⟨(some 46), none, .load true 2 (.t 45)⟩,
    ⟨(some 47), none, .mv (.t 0)⟩,
    ⟨(some 48), none, .mv (.t 9)⟩,
    ⟨(some 49), none, .iadr 2 (.t 47) (.t 48)⟩,
    ⟨(some 50), none, .load true 2 (.t 49)⟩,
    ⟨(some 51), none, .iadr 2 (.t 37) (.t 38)⟩,
    ⟨none, none, .store 2 (.t 51) (.t 46)⟩,
    ⟨(some 52), none, .iadr 2 (.t 39) (.t 41)⟩,
    ⟨none, none, .store 2 (.t 52) (.t 50)⟩] [0, 1, 2, 3, 8, 9] []
def ic_slices_insertionSortCmpFunc_impl_Edge__r5 : IC := .reg [
    ⟨(some 35), none, .mv (.t 9)⟩,
    ⟨(some 36), none, .bin .sub (.t 35) (.c (vi 1))⟩,
    ⟨(some 9), none, .asg (.t 36)⟩] [0, 1, 2, 3, 8, 9] []
def ic_slices_insertionSortCmpFunc_impl_Edge__l6 : IC := (.seq (.seq ic_slices_insertionSortCmpFunc_impl_Edge__r3 (.cond (.t 34) .skip (.exit 2))) (.seq (.block 3 ic_slices_insertionSortCmpFunc_impl_Edge__r4) ic_slices_insertionSortCmpFunc_impl_Edge__r5))
def ic_slices_insertionSortCmpFunc_impl_Edge__r7 : IC := .reg [
    ⟨(some 15), none, .mv (.t 8)⟩,
    ⟨(some 16), none, .bin .add (.t 15) (.c (vi 1))⟩,
    ⟨(some 8), none, .asg (.t 16)⟩] [0, 1, 2, 3, 8] []
def ic_slices_insertionSortCmpFunc_impl_Edge__l8 : IC := (.seq (.seq ic_slices_insertionSortCmpFunc_impl_Edge__r1 (.cond (.t 14) .skip (.exit 0))) (.seq (.block 1 (.seq ic_slices_insertionSortCmpFunc_impl_Edge__r2 (.block 2 (.loop ic_slices_insertionSortCmpFunc_impl_Edge__l6)))) ic_slices_insertionSortCmpFunc_impl_Edge__r7))
def if_slices_insertionSortCmpFunc_impl_Edge_ : IFun := ⟨[], [0], (.seq ic_slices_insertionSortCmpFunc_impl_Edge__r0 (.block 0 (.loop ic_slices_insertionSortCmpFunc_impl_Edge__l8)))⟩

def ic_slices_medianCmpFunc_impl_Edge__L_r0 : IC := .reg [
    ⟨(some 12), none, .asg (.c (vi 0))⟩] [0, 1, 2, 3, 4, 5] []
def ic_slices_medianCmpFunc_impl_Edge__L_r1 : IC := .reg [
    ⟨(some 14), none, .mv (.t 0)⟩,
    ⟨(some 15), none, .mv (.t 1)⟩,
    ⟨(some 16), none, .mv (.t 2)⟩,
    ⟨(some 17), none, .mv (.t 4)⟩,
    ⟨(some 18), none, .mv (.t 5)⟩,
    ⟨(some 19), none, .call l_slices_order2CmpFunc_impl_Edge__L [(.ld, (.t 14)), (.val, (.t 15)), (.val, (.t 16)), (.val, (.t 17)), (.val, (.t 18))] false⟩,
    ⟨(some 13), none, .asg (.t 19)⟩,
    ⟨(some 20), none, .extr (.t 13) 0⟩,
    ⟨(some 21), none, .extr (.t 13) 1⟩,
    ⟨(some 1), none, .asg (.t 20)⟩,
    ⟨(some 2), none, .asg (.t 21)⟩] [0, 1, 2, 3, 4, 5] []
def ic_slices_medianCmpFunc_impl_Edge__L_r2 : IC := .reg [
    ⟨(some 23), none, .mv (.t 0)⟩,
    ⟨(some 24), none, .mv (.t 2)⟩,
    ⟨(some 25), none, .mv (.t 3)⟩,
    ⟨(some 26), none, .mv (.t 4)⟩,
    ⟨(some 27), none, .mv (.t 5)⟩,
    ⟨(some 28), none, .call l_slices_order2CmpFunc_impl_Edge__L [(.ld, (.t 23)), (.val, (.t 24)), (.val, (.t 25)), (.val, (.t 26)), (.val, (.t 27))] false⟩,
    ⟨(some 22), none, .asg (.t 28)⟩,
    ⟨(some 29), none, .extr (.t 22) 0⟩,
    ⟨(some 30), none, .extr (.t 22) 1⟩,
    ⟨(some 2), none, .asg (.t 29)⟩,
    ⟨(some 3), none, .asg (.t 30)⟩] [0, 1, 2, 4, 5] []
def ic_slices_medianCmpFunc_impl_Edge__L_r3 : IC := .reg [
    ⟨(some 32), none, .mv (.t 0)⟩,
    ⟨(some 33), none, .mv (.t 1)⟩,
    ⟨(some 34), none, .mv (.t 2)⟩,
    ⟨(some 35), none, .mv (.t 4)⟩,
    ⟨(some 36), none, .mv (.t 5)⟩,
    ⟨(some 37), none, .call l_slices_order2CmpFunc_impl_Edge__L [(.ld, (.t 32)), (.val, (.t 33)), (.val, (.t 34)), (.val, (.t 35)), (.val, (.t 36))] false⟩,
    ⟨(some 31), none, .asg (.t 37)⟩,
    ⟨(some 38), none, .extr (.t 31) 0⟩,
    ⟨(some 39), none, .extr (.t 31) 1⟩,
    ⟨(some 1), none, .asg (.t 38)⟩,
    ⟨(some 2), none, .asg (.t 39)⟩] [0, 2] []
def ic_slices_medianCmpFunc_impl_Edge__L_r4 : IC := .reg [
    ⟨(some 40), none, .mv (.t 2)⟩,
    ⟨(some 12), none, .asgm (.t 40)⟩] [0, 12] []
def if_slices_medianCmpFunc_impl_Edge__L : IFun := ⟨[.t 12], [0], (.seq ic_slices_medianCmpFunc_impl_Edge__L_r0 (.seq ic_slices_medianCmpFunc_impl_Edge__L_r1 (.seq ic_slices_medianCmpFunc_impl_Edge__L_r2 (.seq ic_slices_medianCmpFunc_impl_Edge__L_r3 (.seq ic_slices_medianCmpFunc_impl_Edge__L_r4 .ret)))))⟩

def ic_slices_nextPowerOfTwo_r0 : IC := .reg [
    ⟨(some 2), none, .asg (.c (.int .u64 (0)))⟩] [0] []
def ic_slices_nextPowerOfTwo_r1 : IC := .reg [
    ⟨(some 3), none, .mv (.t 0)⟩,
    ⟨(some 4), none, .conv .u64 (.t 3)⟩,
    ⟨(some 5), none, .call l_math_bits_Len [(.val, (.t 4))] true⟩,
    ⟨(some 6), none, .bin .shl (.c (.int .u64 (1))) (.t 5)⟩,
    ⟨(some 2), none, .asg (.t 6)⟩] [2] []
def if_slices_nextPowerOfTwo : IFun := ⟨[.t 2], [], (.seq ic_slices_nextPowerOfTwo_r0 (.seq ic_slices_nextPowerOfTwo_r1 .ret))⟩

def ic_slices_order2CmpFunc_impl_Edge__L_r0 : IC := .reg [
    ⟨(some 10), none, .asg (.c (vi 0))⟩,
    ⟨(some 11), none, .asg (.c (vi 0))⟩] [0, 1, 2, 3, 4] []
def ic_slices_order2CmpFunc_impl_Edge__L_r1 : IC := .reg [
    ⟨(some 12), none, .mv (.t 4)⟩,
    ⟨(some 13), none, .mv (.t 0)⟩,
    ⟨(some 14), none, .mv (.t 2)⟩,
    ⟨(some 15), none, .iadr 2 (.t 13) (.t 14)⟩,
    ⟨(some 16), none, .load true 2 (.t 15)⟩,
    ⟨(some 17), none, .mv (.t 0)⟩,
    ⟨(some 18), none, .mv (.t 1)⟩,
    ⟨(some 19), none, .iadr 2 (.t 17) (.t 18)⟩,
    ⟨(some 20), none, .load true 2 (.t 19)⟩,
    ⟨(some 21), none, .callv (.t 12) [(.val, (.t 16)), (.val, (.t 20))]⟩,
    ⟨(some 22), none, .bin .lss (.t 21) (.c (vi 0))⟩] [0, 1, 2, 3, 22] []
def ic_slices_order2CmpFunc_impl_Edge__L_r2 : IC := .reg [
    ⟨(some 23), none, .mv (.t 3)⟩,
    ⟨(some 24), none, .nilck (.t 23)⟩,
    ⟨(some 25), none, .load false 1 (.t 24)⟩,
    ⟨(some 26), none, .bin .add (.t 25) (.c (vi 1))⟩,
    ⟨(some 27), none, .nilck (.t 23)⟩,
    ⟨none, none, .store 1 (.t 27) (.t 26)⟩] [0, 1, 2] []
def ic_slices_order2CmpFunc_impl_Edge__L_r3 : IC := .reg [
    ⟨(some 28), none, .mv (.t 2)⟩,
    ⟨(some 29), none, .mv (.t 1)⟩,
    ⟨(some 10), none, .asgm (.t 28)⟩,
    ⟨(some 11), none, .asgm (.t 29)⟩] [0, 10, 11] []
def ic_slices_order2CmpFunc_impl_Edge__L_r4 : IC := .reg [
    ⟨(some 30), none, .mv (.t 1)⟩,
    ⟨(some 31), none, .mv (.t 2)⟩,
    ⟨(some 10), none, .asgm (.t 30)⟩,
    ⟨(some 11), none, .asgm (.t 31)⟩] [0, 10, 11] []
def if_slices_order2CmpFunc_impl_Edge__L : IFun := ⟨[.t 10, .t 11], [0], (.seq ic_slices_order2CmpFunc_impl_Edge__L_r0 (.seq (.seq ic_slices_order2CmpFunc_impl_Edge__L_r1 (.cond (.t 22) (.seq ic_slices_order2CmpFunc_impl_Edge__L_r2 (.seq ic_slices_order2CmpFunc_impl_Edge__L_r3 .ret)) .skip)) (.seq ic_slices_order2CmpFunc_impl_Edge__L_r4 .ret)))⟩

def ic_slices_partialInsertionSortCmpFunc_impl_Edge__r0 : IC := .reg [
    ⟨(some 8), none, .asg (.c (.bool false))⟩] [0, 1, 2, 3] []
def ic_slices_partialInsertionSortCmpFunc_impl_Edge__r1 : IC := .reg [
    ⟨(some 13), none, .mv (.t 1)⟩,
    ⟨(some 14), none, .bin .add (.t 13) (.c (vi 1))⟩,
    ⟨(some 9), none, .asg (.t 14)⟩] [0, 1, 2, 3, 9] []
def ic_slices_partialInsertionSortCmpFunc_impl_Edge__r2 : IC := .reg [
    ⟨(some 10), none, .asg (.c (vi 0))⟩] [0, 1, 2, 3, 9, 10] []
def ic_slices_partialInsertionSortCmpFunc_impl_Edge__r3 : IC := .reg [
    ⟨(some 15), none, .mv (.t 10)⟩,
    ⟨(some 16), none, .bin .lss (.t 15) (.c (vi 5))⟩] [0, 1, 2, 3, 9, 10, 16] []
def ic_slices_partialInsertionSortCmpFunc_impl_Edge__r4 : IC := .reg [
    ⟨(some 19), none, .mv (.t 9)⟩,
    ⟨(some 20), none, .mv (.t 2)⟩,
    ⟨(some 21), none, .bin .lss (.t 19) (.t 20)⟩,
    ⟨(some 22), none, .asg (.t 21)⟩,
    ⟨(some 23), (some (22, true)), .mv (.t 3)⟩,
    ⟨(some 24), (some (22, true)), .mv (.t 0)⟩,
    ⟨(some 25), (some (22, true)), .mv (.t 9)⟩,
    ⟨(some 26), (some (22, true)), .iadr 2 (.t 24) (.t 25)⟩,
    ⟨(some 27), (some (22, true)), .load true 2 (.t 26)⟩,
    ⟨(some 28), (some (22, true)), .mv (.t 0)⟩,
    ⟨(some 29), (some (22, true)), .mv (.t 9)⟩,
    ⟨(some 30), (some (22, true)), .bin .sub (.t 29) (.c (vi 1))⟩,
    ⟨(some 31), (some (22, true)), .iadr 2 (.t 28) (.t 30)⟩,
    ⟨(some 32), (some (22, true)), .load true 2 (.t 31)⟩,
    ⟨(some 33), (some (22, true)), .callv (.t 23) [(.val, (.t 27)), (.val, (.t 32))]⟩,
    ⟨(some 34), (some (22, true)), .bin .lss (.t 33) (.c (vi 0))⟩,
    ⟨(some 35), (some (22, true)), .unop .not (.t 34)⟩,
    ⟨(some 36), none, .pick (.t 22) (.t 35) (.c (.bool false))⟩] [0, 1, 2, 3, 9, 10, 36] []
def ic_slices_partialInsertionSortCmpFunc_impl_Edge__r5 : IC := .reg [
    ⟨(some 37), none, .mv (.t 9)⟩,
    ⟨(some 38), none, .bin .add (.t 37) (.c (vi 1))⟩,
    ⟨(some 9), none, .asg (.t 38)⟩] [0, 1, 2, 3, 9, 10] []
def ic_slices_partialInsertionSortCmpFunc_impl_Edge__l6 : IC := (.seq (.seq ic_slices_partialInsertionSortCmpFunc_impl_Edge__r4 (.cond (.t 36) .skip (.exit 2))) (.block 3 ic_slices_partialInsertionSortCmpFunc_impl_Edge__r5))
def ic_slices_partialInsertionSortCmpFunc_impl_Edge__r7 : IC := .reg [
    ⟨(some 39), none, .mv (.t 9)⟩,
    ⟨(some 40), none, .mv (.t 2)⟩,
    ⟨(some 41), none, .bin .eql (.t 39) (.t 40)⟩] [0, 1, 2, 3, 9, 10, 41] []
def ic_slices_partialInsertionSortCmpFunc_impl_Edge__r8 : IC := .reg [
    ⟨(some 8), none, .asg (.c (.bool true))⟩] [0, 8] []
def ic_slices_partialInsertionSortCmpFunc_impl_Edge__r9 : IC := .reg [
    ⟨(some 42), none, .mv (.t 2)⟩,
    ⟨(some 43), none, .mv (.t 1)⟩,
    ⟨(some 44), none, .bin .sub (.t 42) (.t 43)⟩,
    ⟨(some 45), none, .bin .lss (.t 44) (.c (vi 50))⟩] [0, 1, 2, 3, 9, 10, 45] []
def ic_slices_partialInsertionSortCmpFunc_impl_Edge__r10 : IC := .reg [
    ⟨(some 8), none, .asg (.c (.bool false))⟩] [0, 8] []
def ic_slices_partialInsertionSortCmpFunc_impl_Edge__r11 : IC := .reg [
    ⟨(some 46), none, .mv (.t 0)⟩,
    ⟨(some 47), none, .mv (.t 9)⟩,
    ⟨(some 48), none, .mv (.t 0)⟩,
    ⟨(some 49), none, .mv (.t 9)⟩,
    ⟨(some 50), none, .bin .sub (.t 49) (.c (vi 1))⟩,
    ⟨(some 51), none, .mv (.t 0)⟩,
    ⟨(some 52), none, .mv (.t 9)⟩,
    ⟨(some 53), none, .bin .sub (.t 52) (.c (vi 1))⟩,
    ⟨(some 54), none, .iadr 2 (.t 51) (.t 53)⟩,
    ⟨(some 55), none, .load true 2 (.t 54)⟩,
    ⟨(some 56), none, .mv (.t 0)⟩,
    ⟨(some 57), none, .mv (.t 9)⟩,
    ⟨(some 58), none, .iadr 2 (.t 56) (.t 57)⟩,
    ⟨(some 59), none, .load true 2 (.t 58)⟩,
    ⟨(some 60), none, .iadr 2 (.t 46) (.t 47)⟩,
    ⟨none, none, .store 2 (.t 60) (.t 55)⟩,
    ⟨(some 61), none, .iadr 2 (.t 48) (.t 50)⟩,
    ⟨none, none, .store 2 (.t 61) (.t 59)⟩] [0, 1, 2, 3, 9, 10] []
def ic_slices_partialInsertionSortCmpFunc_impl_Edge__r12 : IC := .reg [
    ⟨(some 62), none, .mv (.t 9)⟩,
    ⟨(some 63), none, .mv (.t 1)⟩,
    ⟨(some 64), none, .bin .sub (.t 62) (.t 63)⟩,
    ⟨(some 65), none, .bin .geq (.t 64) (.c (vi 2))⟩] [0, 1, 2, 3, 9, 10, 65] []
def ic_slices_partialInsertionSortCmpFunc_impl_Edge__r13 : IC := .reg [
    ⟨(some 66), none, .mv (.t 9)⟩,
    ⟨(some 67), none, .bin .sub (.t 66) (.c (vi 1))⟩,
    ⟨(some 11), none, .asg (.t 67)⟩] [0, 1, 2, 3, 9, 10, 11] []
def ic_slices_partialInsertionSortCmpFunc_impl_Edge__r14 : IC := .reg [
    ⟨(some 68), none, .mv (.t 11)⟩,
    ⟨(some 69), none, .bin .geq (.t 68) (.c (vi 1))⟩] [0, 1, 2, 3, 9, 10, 11, 69] []
def ic_slices_partialInsertionSortCmpFunc_impl_Edge__r15 : IC := .reg [
    ⟨(some 72), none, .mv (.t 3)⟩,
    ⟨(some 73), none, .mv (.t 0)⟩,
    ⟨(some 74), none, .mv (.t 11)⟩,
    ⟨(some 75), none, .iadr 2 (.t 73) (.t 74)⟩,
    ⟨(some 76), none, .load true 2 (.t 75)⟩,
    ⟨(some 77), none, .mv (.t 0)⟩,
    ⟨(some 78), none, .mv (.t 11)⟩,
    ⟨(some 79), none, .bin .sub (.t 78) (.c (vi 1))⟩,
    ⟨(some 80), none, .iadr 2 (.t 77) (.t 79)⟩,
    ⟨(some 81), none, .load true 2 (.t 80)⟩,
    ⟨(some 82), none, .callv (.t 72) [(.val, (.t 76)), (.val, (.t 81))]⟩,
    ⟨(some 83), none, .bin .lss (.t 82) (.c (vi 0))⟩,
    ⟨(some 84), none, .unop .not (.t 83)⟩] [0, 1, 2, 3, 9, 10, 11, 84] []
def ic_slices_partialInsertionSortCmpFunc_impl_Edge__r16 : IC := .reg [
    ⟨(some 85), none, .mv (.t 0)⟩,
    ⟨(some 86), none, .mv (.t 11)⟩,
    ⟨(some 87), none, .mv (.t 0)⟩,
    ⟨(some 88), none, .mv (.t 11)⟩,
    ⟨(some 89), none, .bin .sub (.t 88) (.c (vi 1))⟩,
    ⟨(some 90), none, .mv (.t 0)⟩,
    ⟨(some 91), none, .mv (.t 11)⟩,
    ⟨(some 92), none, .bin .sub (.t 91) (.c (vi 1))⟩,
    ⟨(some 93), none, .iadr 2 (.t 90) (.t 92)⟩,
    ⟨(some 94), none, .load true 2 (.t 93)⟩,
    ⟨(some 95), none, .mv (.t 0)⟩,
    ⟨(some 96), none, .mv (.t 11)⟩,
    ⟨(some 97), none, .iadr 2 (.t 95) (.t 96)⟩,
    ⟨(some 98), none, .load true 2 (.t 97)⟩,
    ⟨(some 99), none, .iadr 2 (.t 85) (.t 86)⟩,
    ⟨none, none, .store 2 (.t 99) (.t 94)⟩,
    ⟨(some 100), none, .iadr 2 (.t 87) (.t 89)⟩,
    ⟨none, none, .store 2 (.t 100) (.t 98)⟩] [0, 1, 2, 3, 9, 10, 11] []
def ic_slices_partialInsertionSortCmpFunc_impl_Edge__r17 : IC := .reg [
    ⟨(some 70), none, .mv (.t 11)⟩,
    ⟨(some 71), none, .bin .sub (.t 70) (.c (vi 1))⟩,
    ⟨(some 11), none, .asg (.t 71)⟩] [0, 1, 2, 3, 9, 10, 11] []
def ic_slices_partialInsertionSortCmpFunc_impl_Edge__l18 : IC := (.seq (.seq ic_slices_partialInsertionSortCmpFunc_impl_Edge__r14 (.cond (.t 69) .skip (.exit 4))) (.seq (.block 5 (.seq (.seq ic_slices_partialInsertionSortCmpFunc_impl_Edge__r15 (.cond (.t 84) (.exit 4) .skip)) ic_slices_partialInsertionSortCmpFunc_impl_Edge__r16)) ic_slices_partialInsertionSortCmpFunc_impl_Edge__r17))
def ic_slices_partialInsertionSortCmpFunc_impl_Edge__r19 : IC := .reg [
    ⟨(some 101), none, .mv (.t 2)⟩,
    ⟨(some 102), none, .mv (.t 9)⟩,
    ⟨(some 103), none, .bin .sub (.t 101) (.t 102)⟩,
    ⟨(some 104), none, .bin .geq (.t 103) (.c (vi 2))⟩] [0, 1, 2, 3, 9, 10, 104] []
def ic_slices_partialInsertionSortCmpFunc_impl_Edge__r20 : IC := .reg [
    ⟨(some 105), none, .mv (.t 9)⟩,
    ⟨(some 106), none, .bin .add (.t 105) (.c (vi 1))⟩,
    ⟨(some 12), none, .asg (.t 106)⟩] [0, 1, 2, 3, 9, 10, 12] []
def ic_slices_partialInsertionSortCmpFunc_impl_Edge__r21 : IC := .reg [
    ⟨(some 107), none, .mv (.t 12)⟩,
    ⟨(some 108), none, .mv (.t 2)⟩,
    ⟨(some 109), none, .bin .lss (.t 107) (.t 108)⟩] [0, 1, 2, 3, 9, 10, 12, 109] []
def ic_slices_partialInsertionSortCmpFunc_impl_Edge__r22 : IC := .reg [
    ⟨(some 112), none, .mv (.t 3)⟩,
    ⟨(some 113), none, .mv (.t 0)⟩,
    ⟨(some 114), none, .mv (.t 12)⟩,
    ⟨(some 115), none, .iadr 2 (.t 113) (.t 114)⟩,
    ⟨(some 116), none, .load true 2 (.t 115)⟩,
    ⟨(some 117), none, .mv (.t 0)⟩,
    ⟨(some 118), none, .mv (.t 12)⟩,
    ⟨(some 119), none, .bin .sub (.t 118) (.c (vi 1))⟩,
    ⟨(some 120), none, .iadr 2 (.t 117) (.t 119)⟩,
    ⟨(some 121), none, .load true 2 (.t 120)⟩,
    ⟨(some 122), none, .callv (.t 112) [(.val, (.t 116)), (.val, (.t 121))]⟩,
    ⟨(some 123), none, .bin .lss (.t 122) (.c (vi 0))⟩,
    ⟨(some 124), none, .unop .not (.t 123)⟩] [0, 1, 2, 3, 9, 10, 12, 124] []
def ic_slices_partialInsertionSortCmpFunc_impl_Edge__r23 : IC := .reg [
    ⟨(some 125), none, .mv (.t 0)⟩,
    ⟨(some 126), none, .mv (.t 12)⟩,
    ⟨(some 127), none, .mv (.t 0)⟩,
    ⟨(some 128), none, .mv (.t 12)⟩,
    ⟨(some 129), none, .bin .sub (.t 128) (.c (vi 1))⟩,
    ⟨(some 130), none, .mv (.t 0)⟩,
    ⟨(some 131), none, .mv (.t 12)⟩,
    ⟨(some 132), none, .bin .sub (.t 131) (.c (vi 1))⟩,
    ⟨(some 133), none, .iadr 2 (.t 130) (.t 132)⟩,
    ⟨(some 134), none, .load true 2 (.t 133)⟩,
    ⟨(some 135), none, .mv (.t 0)⟩,
    ⟨(some 136), none, .mv (.t 12)⟩,
    ⟨(some 137), none, .iadr 2 (.t 135) (.t 136)⟩,
    ⟨(some 138), none, .load true 2 (.t 137)⟩,
    ⟨(some 139), none, .iadr 2 (.t 125) (.t 126)⟩,
    ⟨none, none, .store 2 (.t 139) (.t 134)⟩,
    ⟨(some 140), none, .iadr 2 (.t 127) (.t 129)⟩,
    ⟨none, none, .store 2 (.t 140) (.t 138)⟩] [0, 1, 2, 3, 9, 10, 12] []
def ic_slices_partialInsertionSortCmpFunc_impl_Edge__r24 : IC := .reg [
    ⟨(some 110), none, .mv (.t 12)⟩,
    ⟨(some 111), none, .bin .add (.t 110) (.c (vi 1))⟩,
    ⟨(some 12), none, .asg (.t 111)⟩] [0, 1, 2, 3, 9, 10, 12] []
def ic_slices_partialInsertionSortCmpFunc_impl_Edge__l25 : IC := (.seq (.seq ic_slices_partialInsertionSortCmpFunc_impl_Edge__r21 (.cond (.t 109) .skip (.exit 6))) (.seq (.block 7 (.seq (.seq ic_slices_partialInsertionSortCmpFunc_impl_Edge__r22 (.cond (.t 124) (.exit 6) .skip)) ic_slices_partialInsertionSortCmpFunc_impl_Edge__r23)) ic_slices_partialInsertionSortCmpFunc_impl_Edge__r24))
def ic_slices_partialInsertionSortCmpFunc_impl_Edge__r26 : IC := .reg [
    ⟨(some 17), none, .mv (.t 10)⟩,
    ⟨(some 18), none, .bin .add (.t 17) (.c (vi 1))⟩,
    ⟨(some 10), none, .asg (.t 18)⟩] [0, 1, 2, 3, 9, 10] []
def ic_slices_partialInsertionSortCmpFunc_impl_Edge__l27 : IC := (.seq (.seq ic_slices_partialInsertionSortCmpFunc_impl_Edge__r3 (.cond (.t 16) .skip (.exit 0))) (.seq (.block 1 (.seq (.block 2 (.loop ic_slices_partialInsertionSortCmpFunc_impl_Edge__l6)) (.seq (.seq ic_slices_partialInsertionSortCmpFunc_impl_Edge__r7 (.cond (.t 41) (.seq ic_slices_partialInsertionSortCmpFunc_impl_Edge__r8 .ret) .skip)) (.seq (.seq ic_slices_partialInsertionSortCmpFunc_impl_Edge__r9 (.cond (.t 45) (.seq ic_slices_partialInsertionSortCmpFunc_impl_Edge__r10 .ret) .skip)) (.seq ic_slices_partialInsertionSortCmpFunc_impl_Edge__r11 (.seq (.seq ic_slices_partialInsertionSortCmpFunc_impl_Edge__r12 (.cond (.t 65) (.seq ic_slices_partialInsertionSortCmpFunc_impl_Edge__r13 (.block 4 (.loop ic_slices_partialInsertionSortCmpFunc_impl_Edge__l18))) .skip)) (.seq ic_slices_partialInsertionSortCmpFunc_impl_Edge__r19 (.cond (.t 104) (.seq ic_slices_partialInsertionSortCmpFunc_impl_Edge__r20 (.block 6 (.loop ic_slices_partialInsertionSortCmpFunc_impl_Edge__l25))) .skip)))))))) ic_slices_partialInsertionSortCmpFunc_impl_Edge__r26))
def ic_slices_partialInsertionSortCmpFunc_impl_Edge__r28 : IC := .reg [
    ⟨(some 8), none, .asg (.c (.bool false))⟩] [0, 8] []
def if_slices_partialInsertionSortCmpFunc_impl_Edge_ : IFun := ⟨[.t 8], [0], (.seq ic_slices_partialInsertionSortCmpFunc_impl_Edge__r0 (.seq ic_slices_partialInsertionSortCmpFunc_impl_Edge__r1 (.seq (.seq ic_slices_partialInsertionSortCmpFunc_impl_Edge__r2 (.block 0 (.loop ic_slices_partialInsertionSortCmpFunc_impl_Edge__l27))) (.seq ic_slices_partialInsertionSortCmpFunc_impl_Edge__r28 .ret))))⟩

def ic_slices_partitionCmpFunc_impl_Edge__r0 : IC := .reg [
    ⟨(some 10), none, .asg (.c (vi 0))⟩,
    ⟨(some 11), none, .asg (.c (.bool false))⟩] [0, 1, 2, 3, 4] []
def ic_slices_partitionCmpFunc_impl_Edge__r1 : IC := .reg [
    ⟨(some 14), none, .mv (.t 0)⟩,
    ⟨(some 15), none, .mv (.t 1)⟩,
    ⟨(some 16), none, .mv (.t 0)⟩,
    ⟨(some 17), none, .mv (.t 3)⟩,
    ⟨(some 18), none, .mv (.t 0)⟩,
    ⟨(some 19), none, .mv (.t 3)⟩,
    ⟨(some 20), none, .iadr 2 (.t 18) (.t 19)⟩,
    ⟨(some 21), none, .load true 2 (.t 20)⟩,
    ⟨(some 22), none, .mv (.t 0)⟩,
    ⟨(some 23), none, .mv (.t 1)⟩,
    ⟨(some 24), none, .iadr 2 (.t 22) (.t 23)⟩,
    ⟨(some 25), none, .load true 2 (.t 24)⟩,
    ⟨(some 26), none, .iadr 2 (.t 14) (.t 15)⟩,
    ⟨none, none, .store 2 (.t 26) (.t 21)⟩,
    ⟨(some 27), none, .iadr 2 (.t 16) (.t 17)⟩,
    ⟨none, none, .store 2 (.t 27) (.t 25)⟩] [0, 1, 2, 4] []
def ic_slices_partitionCmpFunc_impl_Edge__r2 : IC := .reg [
    ⟨(some 28), none, .mv (.t 1)⟩,
    ⟨(some 29), none, .bin .add (.t 28) (.c (vi 1))⟩,
    ⟨(some 30), none, .mv (.t 2)⟩,
    ⟨(some 31), none, .bin .sub (.t 30) (.c (vi 1))⟩,
    ⟨(some 12), none, .asg (.t 29)⟩,
    ⟨(some 13), none, .asg (.t 31)⟩] [0, 1, 4, 12, 13] []
def ic_slices_partitionCmpFunc_impl_Edge__r3 : IC := .reg [
    ⟨(some 32), none, .mv (.t 12)⟩,
    ⟨(some 33), none, .mv (.t 13)⟩,
    ⟨(some 34), none, .bin .leq (.t 32) (.t 33)⟩,
    ⟨(some 35), none, .asg (.t 34)⟩,
    ⟨(some 36), (some (35, true)), .mv (.t 4)⟩,
    ⟨(some 37), (some (35, true)), .mv (.t 0)⟩,
    ⟨(some 38), (some (35, true)), .mv (.t 12)⟩,
    ⟨(some 39), (some (35, true)), .iadr 2 (.t 37) (.t 38)⟩,
    ⟨(some 40), (some (35, true)), .load true 2 (.t 39)⟩,
    ⟨(some 41), (some (35, true)), .mv (.t 0)⟩,
    ⟨(some 42), (some (35, true)), .mv (.t 1)⟩,
    ⟨(some 43), (some (35, true)), .iadr 2 (.t 41) (.t 42)⟩,
    ⟨(some 44), (some (35, true)), .load true 2 (.t 43)⟩,
    ⟨(some 45), (some (35, true)), .callv (.t 36) [(.val, (.t 40)), (.val, (.t 44))]⟩,
    ⟨(some 46), (some (35, true)), .bin .lss (.t 45) (.c (vi 0))⟩,
    ⟨(some 47), none, .pick (.t 35) (.t 46) (.c (.bool false))⟩] [0, 1, 4, 12, 13, 47] []
def ic_slices_partitionCmpFunc_impl_Edge__r4 : IC := .reg [
    ⟨(some 48), none, .mv (.t 12)⟩,
    ⟨(some 49), none, .bin .add (.t 48) (.c (vi 1))⟩,
    ⟨(some 12), none, .asg (.t 49)⟩] [0, 1, 4, 12, 13] []
def ic_slices_partitionCmpFunc_impl_Edge__l5 : IC := (.seq (.seq ic_slices_partitionCmpFunc_impl_Edge__r3 (.cond (.t 47) .skip (.exit 0))) (.block 1 ic_slices_partitionCmpFunc_impl_Edge__r4))
def ic_slices_partitionCmpFunc_impl_Edge__r6 : IC := .reg [
    ⟨(some 50), none, .mv (.t 12)⟩,
    ⟨(some 51), none, .mv (.t 13)⟩,
    ⟨(some 52), none, .bin .leq (.t 50) (.t 51)⟩,
    ⟨(some 53), none, .asg (.t 52)⟩,
    ⟨(some 54), (some (53, true)), .mv (.t 4)⟩,
    ⟨(some 55), (some (53, true)), .mv (.t 0)⟩,
    ⟨(some 56), (some (53, true)), .mv (.t 13)⟩,
    ⟨(some 57), (some (53, true)), .iadr 2 (.t 55) (.t 56)⟩,
    ⟨(some 58), (some (53, true)), .load true 2 (.t 57)⟩,
    ⟨(some 59), (some (53, true)), .mv (.t 0)⟩,
    ⟨(some 60), (some (53, true)), .mv (.t 1)⟩,
    ⟨(some 61), (some (53, true)), .iadr 2 (.t 59) (.t 60)⟩,
    ⟨(some 62), (some (53, true)), .load true 2 (.t 61)⟩,
    ⟨(some 63), (some (53, true)), .callv (.t 54) [(.val, (.t 58)), (.val, (.t 62))]⟩,
    ⟨(some 64), (some (53, true)), .bin .lss (.t 63) (.c (vi 0))⟩,
    ⟨(some 65), (some (53, true)), .unop .not (.t 64)⟩,
    ⟨(some 66), none, .pick (.t 53) (.t 65) (.c (.bool false))⟩] [0, 1, 4, 12, 13, 66] []
def ic_slices_partitionCmpFunc_impl_Edge__r7 : IC := .reg [
    ⟨(some 67), none, .mv (.t 13)⟩,
    ⟨(some 68), none, .bin .sub (.t 67) (.c (vi 1))⟩,
    ⟨(some 13), none, .asg (.t 68)⟩] [0, 1, 4, 12, 13] []
def ic_slices_partitionCmpFunc_impl_Edge__l8 : IC := (.seq (.seq ic_slices_partitionCmpFunc_impl_Edge__r6 (.cond (.t 66) .skip (.exit 2))) (.block 3 ic_slices_partitionCmpFunc_impl_Edge__r7))
def ic_slices_partitionCmpFunc_impl_Edge__r9 : IC := .reg [
    ⟨(some 69), none, .mv (.t 12)⟩,
    ⟨(some 70), none, .mv (.t 13)⟩,
    ⟨(some 71), none, .bin .gtr (.t 69) (.t 70)⟩] [0, 1, 4, 12, 13, 71] []
def ic_slices_partitionCmpFunc_impl_Edge__r10 : IC := .reg [
    ⟨(some 72), none, .mv (.t 0)⟩,
    ⟨(some 73), none, .mv (.t 13)⟩,
    ⟨(some 74), none, .mv (.t 0)⟩,
    ⟨(some 75), none, .mv (.t 1)⟩,
    ⟨(some 76), none, .mv (.t 0)⟩,
    ⟨(some 77), none, .mv (.t 1)⟩,
    ⟨(some 78), none, .iadr 2 (.t 76) (.t 77)⟩,
    ⟨(some 79), none, .load true 2 (.t 78)⟩,
    ⟨(some 80), none, .mv (.t 0)⟩,
    ⟨(some 81), none, .mv (.t 13)⟩,
    ⟨(some 82), none, .iadr 2 (.t 80) (.t 81)⟩,
    ⟨(some 83), none, .load true 2 (.t 82)⟩,
    ⟨(some 84), none, .iadr 2 (.t 72) (.t 73)⟩,
    ⟨none, none, .store 2 (.t 84) (.t 79)⟩,
    ⟨(some 85), none, .iadr 2 (.t 74) (.t 75)⟩,
    ⟨none, none, .store 2 (.t 85) (.t 83)⟩] [0, 13] []
def ic_slices_partitionCmpFunc_impl_Edge__r11 : IC := .reg [
    ⟨(some 86), none, .mv (.t 13)⟩,
    ⟨(some 10), none, .asgm (.t 86)⟩,
    ⟨(some 11), none, .asg (.c (.bool true))⟩] [0, 10, 11] []
def ic_slices_partitionCmpFunc_impl_Edge__r12 : IC := .reg [
    ⟨(some 87), none, .mv (.t 0)⟩,
    ⟨(some 88), none, .mv (.t 12)⟩,
    ⟨(some 89), none, .mv (.t 0)⟩,
    ⟨(some 90), none, .mv (.t 13)⟩,
    ⟨(some 91), none, .mv (.t 0)⟩,
    ⟨(some 92), none, .mv (.t 13)⟩,
    ⟨(some 93), none, .iadr 2 (.t 91) (.t 92)⟩,
    ⟨(some 94), none, .load true 2 (.t 93)⟩,
    ⟨(some 95), none, .mv (.t 0)⟩,
    ⟨(some 96), none, .mv (.t 12)⟩,
    ⟨(some 97), none, .iadr 2 (.t 95) (.t 96)⟩,
    ⟨(some 98), none, .load true 2 (.t 97)⟩,
    ⟨(some 99), none, .iadr 2 (.t 87) (.t 88)⟩,
    ⟨none, none, .store 2 (.t 99) (.t 94)⟩,
    ⟨(some 100), none, .iadr 2 (.t 89) (.t 90)⟩,
    ⟨none, none, .store 2 (.t 100) (.t 98)⟩] [0, 1, 4, 12, 13] []
def ic_slices_partitionCmpFunc_impl_Edge__r13 : IC := .reg [
    ⟨(some 101), none, .mv (.t 12)⟩,
    ⟨(some 102), none, .bin .add (.t 101) (.c (vi 1))⟩,
    ⟨(some 12), none, .asg (.t 102)⟩] [0, 1, 4, 12, 13] []
def ic_slices_partitionCmpFunc_impl_Edge__r14 : IC := .reg [
    ⟨(some 103), none, .mv (.t 13)⟩,
    ⟨(some 104), none, .bin .sub (.t 103) (.c (vi 1))⟩,
    ⟨(some 13), none, .asg (.t 104)⟩] [0, 1, 4, 12, 13] []
def ic_slices_partitionCmpFunc_impl_Edge__r15 : IC := .reg [
    ⟨(some 105), none, .mv (.t 12)⟩,
    ⟨(some 106), none, .mv (.t 13)⟩,
    ⟨(some 107), none, .bin .leq (.t 105) (.t 106)⟩,
    ⟨(some 108), none, .asg (.t 107)⟩,
    ⟨(some 109), (some (108, true)), .mv (.t 4)⟩,
    ⟨(some 110), (some (108, true)), .mv (.t 0)⟩,
    ⟨(some 111), (some (108, true)), .mv (.t 12)⟩,
    ⟨(some 112), (some (108, true)), .iadr 2 (.t 110) (.t 111)⟩,
    ⟨(some 113), (some (108, true)), .load true 2 (.t 112)⟩,
    ⟨(some 114), (some (108, true)), .mv (.t 0)⟩,
    ⟨(some 115), (some (108, true)), .mv (.t 1)⟩,
    ⟨(some 116), (some (108, true)), .iadr 2 (.t 114) (.t 115)⟩,
    ⟨(some 117), (some (108, true)), .load true 2 (.t 116)⟩,
    ⟨(some 118), (some (108, true)), .callv (.t 109) [(.val, (.t 113)), (.val, (.t 117))]⟩,
    ⟨(some 119), (some (108, true)), .bin .lss (.t 118) (.c (vi 0))⟩,
    ⟨(some 120), none, .pick (.t 108) (.t 119) (.c (.bool false))⟩] [0, 1, 4, 12, 13, 120] []
def ic_slices_partitionCmpFunc_impl_Edge__r16 : IC := .reg [
    ⟨(some 121), none, .mv (.t 12)⟩,
    ⟨(some 122), none, .bin .add (.t 121) (.c (vi 1))⟩,
    ⟨(some 12), none, .asg (.t 122)⟩] [0, 1, 4, 12, 13] []
def ic_slices_partitionCmpFunc_impl_Edge__l17 : IC := (.seq (.seq ic_slices_partitionCmpFunc_impl_Edge__r15 (.cond (.t 120) .skip (.exit 6))) (.block 7 ic_slices_partitionCmpFunc_impl_Edge__r16))
def ic_slices_partitionCmpFunc_impl_Edge__r18 : IC := .reg [
    ⟨(some 123), none, .mv (.t 12)⟩,
    ⟨(some 124), none, .mv (.t 13)⟩,
    ⟨(some 125), none, .bin .leq (.t 123) (.t 124)⟩,
    ⟨(some 126), none, .asg (.t 125)⟩,
    ⟨(some 127), (some (126, true)), .mv (.t 4)⟩,
    ⟨(some 128), (some (126, true)), .mv (.t 0)⟩,
    ⟨(some 129), (some (126, true)), .mv (.t 13)⟩,
    ⟨(some 130), (some (126, true)), .iadr 2 (.t 128) (.t 129)⟩,
    ⟨(some 131), (some (126, true)), .load true 2 (.t 130)⟩,
    ⟨(some 132), (some (126, true)), .mv (.t 0)⟩,
    ⟨(some 133), (some (126, true)), .mv (.t 1)⟩,
    ⟨(some 134), (some (126, true)), .iadr 2 (.t 132) (.t 133)⟩,
    ⟨(some 135), (some (126, true)), .load true 2 (.t 134)⟩,
    ⟨(some 136), (some (126, true)), .callv (.t 127) [(.val, (.t 131)), (.val, (.t 135))]⟩,
    ⟨(some 137), (some (126, true)), .bin .lss (.t 136) (.c (vi 0))⟩,
    ⟨(some 138), (some (126, true)), .unop .not (.t 137)⟩,
    ⟨(some 139), none, .pick (.t 126) (.t 138) (.c (.bool false))⟩] [0, 1, 4, 12, 13, 139] []
def ic_slices_partitionCmpFunc_impl_Edge__r19 : IC := .reg [
    ⟨(some 140), none, .mv (.t 13)⟩,
    ⟨(some 141), none, .bin .sub (.t 140) (.c (vi 1))⟩,
    ⟨(some 13), none, .asg (.t 141)⟩] [0, 1, 4, 12, 13] []
def ic_slices_partitionCmpFunc_impl_Edge__l20 : IC := (.seq (.seq ic_slices_partitionCmpFunc_impl_Edge__r18 (.cond (.t 139) .skip (.exit 8))) (.block 9 ic_slices_partitionCmpFunc_impl_Edge__r19))
def ic_slices_partitionCmpFunc_impl_Edge__r21 : IC := .reg [
    ⟨(some 142), none, .mv (.t 12)⟩,
    ⟨(some 143), none, .mv (.t 13)⟩,
    ⟨(some 144), none, .bin .gtr (.t 142) (.t 143)⟩] [0, 1, 4, 12, 13, 144] []
def ic_slices_partitionCmpFunc_impl_Edge__r22 : IC := .reg [
    ⟨(some 145), none, .mv (.t 0)⟩,
    ⟨(some 146), none, .mv (.t 12)⟩,
    ⟨(some 147), none, .mv (.t 0)⟩,
    ⟨(some 148), none, .mv (.t 13)⟩,
    ⟨(some 149), none, .mv (.t 0)⟩,
    ⟨(some 150), none, .mv (.t 13)⟩,
    ⟨(some 151), none, .iadr 2 (.t 149) (.t 150)⟩,
    ⟨(some 152), none, .load true 2 (.t 151)⟩,
    ⟨(some 153), none, .mv (.t 0)⟩,
    ⟨(some 154), none, .mv (.t 12)⟩,
    ⟨(some 155), none, .iadr 2 (.t 153) (.t 154)⟩,
    ⟨(some 156), none, .load true 2 (.t 155)⟩,
    ⟨(some 157), none, .iadr 2 (.t 145) (.t 146)⟩,
    ⟨none, none, .store 2 (.t 157) (.t 152)⟩,
    ⟨(some 158), none, .iadr 2 (.t 147) (.t 148)⟩,
    ⟨none, none, .store 2 (.t 158) (.t 156)⟩] [0, 1, 4, 12, 13] []
def ic_slices_partitionCmpFunc_impl_Edge__r23 : IC := .reg [
    ⟨(some 159), none, .mv (.t 12)⟩,
    ⟨(some 160), none, .bin .add (.t 159) (.c (vi 1))⟩,
    ⟨(some 12), none, .asg (.t 160)⟩] [0, 1, 4, 12, 13] []
def ic_slices_partitionCmpFunc_impl_Edge__r24 : IC := .reg [
    ⟨(some 161), none, .mv (.t 13)⟩,
    ⟨(some 162), none, .bin .sub (.t 161) (.c (vi 1))⟩,
    ⟨(some 13), none, .asg (.t 162)⟩] [0, 1, 4, 12, 13] []
def ic_slices_partitionCmpFunc_impl_Edge__l25 : IC := (.block 5 (.seq (.block 6 (.loop ic_slices_partitionCmpFunc_impl_Edge__l17)) (.seq (.block 8 (.loop ic_slices_partitionCmpFunc_impl_Edge__l20)) (.seq (.seq ic_slices_partitionCmpFunc_impl_Edge__r21 (.cond (.t 144) (.exit 4) .skip)) (.seq ic_slices_partitionCmpFunc_impl_Edge__r22 (.seq ic_slices_partitionCmpFunc_impl_Edge__r23 ic_slices_partitionCmpFunc_impl_Edge__r24))))))
def ic_slices_partitionCmpFunc_impl_Edge__r26 : IC := .reg [
    ⟨(some 163), none, .mv (.t 0)⟩,
    ⟨(some 164), none, .mv (.t 13)⟩,
    ⟨(some 165), none, .mv (.t 0)⟩,
    ⟨(some 166), none, .mv (.t 1)⟩,
    ⟨(some 167), none, .mv (.t 0)⟩,
    ⟨(some 168), none, .mv (.t 1)⟩,
    ⟨(some 169), none, .iadr 2 (.t 167) (.t 168)⟩,
    ⟨(some 170), none, .load true 2 (.t 169)⟩,
    ⟨(some 171), none, .mv (.t 0)⟩,
    ⟨(some 172), none, .mv (.t 13)⟩,
    ⟨(some 173), none, .iadr 2 (.t 171) (.t 172)⟩,
    ⟨(some 174), none, .load true 2 (.t 173)⟩,
    ⟨(some 175), none, .iadr 2 (.t 163) (.t 164)⟩,
    ⟨none, none, .store 2 (.t 175) (.t 170)⟩,
    ⟨(some 176), none, .iadr 2 (.t 165) (.t 166)⟩,
    ⟨none, none, .store 2 (.t 176) (.t 174)⟩] [0, 13] []
def ic_slices_partitionCmpFunc_impl_Edge__r27 : IC := .reg [
    ⟨(some 177), none, .mv (.t 13)⟩,
    ⟨(some 10), none, .asgm (.t 177)⟩,
    ⟨(some 11), none, .asg (.c (.bool false))⟩] [0, 10, 11] []
def if_slices_partitionCmpFunc_impl_Edge_ : IFun := ⟨[.t 10, .t 11], [0], (.seq ic_slices_partitionCmpFunc_impl_Edge__r0 (.seq ic_slices_partitionCmpFunc_impl_Edge__r1 (.seq ic_slices_partitionCmpFunc_impl_Edge__r2 (.seq (.block 0 (.loop ic_slices_partitionCmpFunc_impl_Edge__l5)) (.seq (.block 2 (.loop ic_slices_partitionCmpFunc_impl_Edge__l8)) (.seq (.seq ic_slices_partitionCmpFunc_impl_Edge__r9 (.cond (.t 71) (.seq ic_slices_partitionCmpFunc_impl_Edge__r10 (.seq ic_slices_partitionCmpFunc_impl_Edge__r11 .ret)) .skip)) (.seq ic_slices_partitionCmpFunc_impl_Edge__r12 (.seq ic_slices_partitionCmpFunc_impl_Edge__r13 (.seq ic_slices_partitionCmpFunc_impl_Edge__r14 (.seq (.block 4 (.loop ic_slices_partitionCmpFunc_impl_Edge__l25)) (.seq ic_slices_partitionCmpFunc_impl_Edge__r26 (.seq ic_slices_partitionCmpFunc_impl_Edge__r27 .ret))))))))))))⟩

def ic_slices_pdqsortCmpFunc_impl_Edge__r0 : IC := .reg [
    ⟨(some 10), none, .asg (.c (.bool true))⟩] [0, 1, 2, 3, 4, 10] []
def ic_slices_pdqsortCmpFunc_impl_Edge__r1 : IC := .reg [
    ⟨(some 11), none, .asg (.c (.bool true))⟩] [0, 1, 2, 3, 4, 10, 11] []
def ic_slices_pdqsortCmpFunc_impl_Edge__r2 : IC := .reg [
    ⟨(some 21), none, .mv (.t 2)⟩,
    ⟨(some 22), none, .mv (.t 1)⟩,
    ⟨(some 23), none, .bin .sub (.t 21) (.t 22)⟩,
    ⟨(some 12), none, .asg (.t 23)⟩] [0, 1, 2, 3, 4, 10, 11, 12] []
def ic_slices_pdqsortCmpFunc_impl_Edge__r3 : IC := .reg [
    ⟨(some 24), none, .mv (.t 12)⟩,
    ⟨(some 25), none, .bin .leq (.t 24) (.c (vi 12))⟩] [0, 1, 2, 3, 4, 10, 11, 12, 25] []
def ic_slices_pdqsortCmpFunc_impl_Edge__r4 : IC := .reg [
    ⟨(some 26), none, .mv (.t 0)⟩,
    ⟨(some 27), none, .mv (.t 1)⟩,
    ⟨(some 28), none, .mv (.t 2)⟩,
    ⟨(some 29), none, .mv (.t 4)⟩,
    ⟨(some 30), none, .call l_slices_insertionSortCmpFunc_impl_Edge_ [(.ld, (.t 26)), (.val, (.t 27)), (.val, (.t 28)), (.val, (.t 29))] false⟩] [0] []
def ic_slices_pdqsortCmpFunc_impl_Edge__r5 : IC := .reg [
    ⟨(some 31), none, .mv (.t 3)⟩,
    ⟨(some 32), none, .bin .eql (.t 31) (.c (vi 0))⟩] [0, 1, 2, 3, 4, 10, 11, 12, 32] []
def ic_slices_pdqsortCmpFunc_impl_Edge__r6 : IC := .reg [
    ⟨(some 33), none, .mv (.t 0)⟩,
    ⟨(some 34), none, .mv (.t 1)⟩,
    ⟨(some 35), none, .mv (.t 2)⟩,
    ⟨(some 36), none, .mv (.t 4)⟩,
    ⟨(some 37), none, .call l_slices_heapSortCmpFunc_impl_Edge_ [(.ld, (.t 33)), (.val, (.t 34)), (.val, (.t 35)), (.val, (.t 36))] false⟩] [0] []
def ic_slices_pdqsortCmpFunc_impl_Edge__r7 : IC := .reg [
    ⟨(some 38), none, .mv (.t 10)⟩,
    ⟨(some 39), none, .unop .not (.t 38)⟩] [0, 1, 2, 3, 4, 10, 11, 12, 39] []
def ic_slices_pdqsortCmpFunc_impl_Edge__r8 : IC := .reg [
    ⟨(some 40), none, .mv (.t 0)⟩,
    ⟨(some 41), none, .mv (.t 1)⟩,
    ⟨(some 42), none, .mv (.t 2)⟩,
    ⟨(some 43), none, .mv (.t 4)⟩,
    ⟨(some 44), none, .call l_slices_breakPatternsCmpFunc_impl_Edge_ [(.ld, (.t 40)), (.val, (.t 41)), (.val, (.t 42)), (.val, (.t 43))] false⟩] [0, 1, 2, 3, 4, 10, 11, 12] []
def ic_slices_pdqsortCmpFunc_impl_Edge__r9 : IC := .reg [
    ⟨(some 45), none, .mv (.t 3)⟩,
    ⟨(some 46), none, .bin .sub (.t 45) (.c (vi 1))⟩,
    ⟨(some 3), none, .asg (.t 46)⟩] [0, 1, 2, 3, 4, 10, 11, 12] []
def ic_slices_pdqsortCmpFunc_impl_Edge__r10 : IC := .reg [
    ⟨(some 48), none, .mv (.t 0)⟩,
    ⟨(some 49), none, .mv (.t 1)⟩,
    ⟨(some 50), none, .mv (.t 2)⟩,
    ⟨(some 51), none, .mv (.t 4)⟩,
    ⟨(some 52), none, .call l_slices_choosePivotCmpFunc_impl_Edge__L [(.ld, (.t 48)), (.val, (.t 49)), (.val, (.t 50)), (.val, (.t 51))] false⟩,
    ⟨(some 47), none, .asg (.t 52)⟩,
    ⟨(some 53), none, .extr (.t 47) 0⟩,
    ⟨(some 54), none, .extr (.t 47) 1⟩,
    ⟨(some 13), none, .asg (.t 53)⟩,
    ⟨(some 14), none, .asg (.t 54)⟩] [0, 1, 2, 3, 4, 10, 11, 12, 13, 14] []
def ic_slices_pdqsortCmpFunc_impl_Edge__r11 : IC := .reg [
    ⟨(some 55), none, .mv (.t 14)⟩,
    ⟨(some 56), none, .bin .eql (.t 55) (.c (vi 2))⟩] [0, 1, 2, 3, 4, 10, 11, 12, 13, 14, 56] []
def ic_slices_pdqsortCmpFunc_impl_Edge__r12 : IC := .reg [
    ⟨(some 57), none, .mv (.t 0)⟩,
    ⟨(some 58), none, .mv (.t 1)⟩,
    ⟨(some 59), none, .mv (.t 2)⟩,
    ⟨(some 60), none, .mv (.t 4)⟩,
    ⟨(some 61), none, .call l_slices_reverseRangeCmpFunc_impl_Edge_ [(.ld, (.t 57)), (.val, (.t 58)), (.val, (.t 59)), (.val, (.t 60))] false⟩] [0, 1, 2, 3, 4, 10, 11, 12, 13] []
def ic_slices_pdqsortCmpFunc_impl_Edge__r13 : IC := .reg [
    ⟨(some 62), none, .mv (.t 2)⟩,
    ⟨(some 63), none, .bin .sub (.t 62) (.c (vi 1))⟩,
    ⟨(some 64), none, .mv (.t 13)⟩,
    ⟨(some 65), none, .mv (.t 1)⟩,
    ⟨(some 66), none, .bin .sub (.t 64) (.t 65)⟩,
    ⟨(some 67), none, .bin .sub (.t 63) (.t 66)⟩,
    ⟨(some 13), none, .asg (.t 67)⟩] [0, 1, 2, 3, 4, 10, 11, 12, 13] []
def ic_slices_pdqsortCmpFunc_impl_Edge__r14 : IC := .reg [
    ⟨(some 14), none, .asg (.c (vi 1))⟩] [0, 1, 2, 3, 4, 10, 11, 12, 13, 14] []
def ic_slices_pdqsortCmpFunc_impl_Edge__r15 : IC := .reg [
    ⟨(some 68), none, .mv (.t 10)⟩,
    ⟨(some 69), none, .asg (.t 68)⟩,
    ⟨(some 70), (some (69, true)), .mv (.t 11)⟩,
    ⟨(some 71), none, .pick (.t 69) (.t 70) (.c (.bool false))⟩,
    ⟨(some 72), none, .asg (.t 71)⟩,
    ⟨(some 73), (some (72, true)), .mv (.t 14)⟩,
    ⟨(some 74), (some (72, true)), .bin .eql (.t 73) (.c (vi 1))⟩,
    ⟨(some 75), none, .pick (.t 72) (.t 74) (.c (.bool false))⟩] [0, 1, 2, 3, 4, 10, 11, 12, 13, 75] []
def ic_slices_pdqsortCmpFunc_impl_Edge__r16 : IC := .reg [
    ⟨(some 76), none, .mv (.t 0)⟩,
    ⟨(some 77), none, .mv (.t 1)⟩,
    ⟨(some 78), none, .mv (.t 2)⟩,
    ⟨(some 79), none, .mv (.t 4)⟩,
    ⟨(some 80), none, .call l_slices_partialInsertionSortCmpFunc_impl_Edge_ [(.ld, (.t 76)), (.val, (.t 77)), (.val, (.t 78)), (.val, (.t 79))] false⟩] [0, 1, 2, 3, 4, 10, 11, 12, 13, 80] []
def ic_slices_pdqsortCmpFunc_impl_Edge__r17 : IC := .reg [
    ⟨(some 81), none, .mv (.t 1)⟩,
    ⟨(some 82), none, .bin .gtr (.t 81) (.c (vi 0))⟩,
    ⟨(some 83), none, .asg (.t 82)⟩,
    ⟨(some 84), (some (83, true)), .mv (.t 4)⟩,
    ⟨(some 85), (some (83, true)), .mv (.t 0)⟩,
    ⟨(some 86), (some (83, true)), .mv (.t 1)⟩,
    ⟨(some 87), (some (83, true)), .bin .sub (.t 86) (.c (vi 1))⟩,
    ⟨(some 88), (some (83, true)), .iadr 2 (.t 85) (.t 87)⟩,
    ⟨(some 89), (some (83, true)), .load true 2 (.t 88)⟩,
    ⟨(some 90), (some (83, true)), .mv (.t 0)⟩,
    ⟨(some 91), (some (83, true)), .mv (.t 13)⟩,
    ⟨(some 92), (some (83, true)), .iadr 2 (.t 90) (.t 91)⟩,
    ⟨(some 93), (some (83, true)), .load true 2 (.t 92)⟩,
    ⟨(some 94), (some (83, true)), .callv (.t 84) [(.val, (.t 89)), (.val, (.t 93))]⟩,
    ⟨(some 95), (some (83, true)), .bin .lss (.t 94) (.c (vi 0))⟩,
    ⟨(some 96), (some (83, true)), .unop .not (.t 95)⟩,
    ⟨(some 97), none, .pick (.t 83) (.t 96) (.c (.bool false))⟩] [0, 1, 2, 3, 4, 10, 11, 12, 13, 97] []
def ic_slices_pdqsortCmpFunc_impl_Edge__r18 : IC := .reg [
    ⟨(some 98), none, .mv (.t 0)⟩,
    ⟨(some 99), none, .mv (.t 1)⟩,
    ⟨(some 100), none, .mv (.t 2)⟩,
    ⟨(some 101), none, .mv (.t 13)⟩,
    ⟨(some 102), none, .mv (.t 4)⟩,
    ⟨(some 103), none, .call l_slices_partitionEqualCmpFunc_impl_Edge_ [(.ld, (.t 98)), (.val, (.t 99)), (.val, (.t 100)), (.val, (.t 101)), (.val, (.t 102))] false⟩,
    ⟨(some 15), none, .asg (.t 103)⟩] [0, 2, 3, 4, 10, 11, 15] []
def ic_slices_pdqsortCmpFunc_impl_Edge__r19 : IC := .reg [
    ⟨(some 104), none, .mv (.t 15)⟩,
    ⟨(some 1), none, .asgm (.t 104)⟩] [0, 1, 2, 3, 4, 10, 11] []
def ic_slices_pdqsortCmpFunc_impl_Edge__r20 : IC := .reg [
    ⟨(some 106), none, .mv (.t 0)⟩,
    ⟨(some 107), none, .mv (.t 1)⟩,
    ⟨(some 108), none, .mv (.t 2)⟩,
    ⟨(some 109), none, .mv (.t 13)⟩,
    ⟨(some 110), none, .mv (.t 4)⟩,
    ⟨(some 111), none, .call l_slices_partitionCmpFunc_impl_Edge_ [(.ld, (.t 106)), (.val, (.t 107)), (.val, (.t 108)), (.val, (.t 109)), (.val, (.t 110))] false⟩,
    ⟨(some 105), none, .asg (.t 111)⟩,
    ⟨(some 112), none, .extr (.t 105) 0⟩,
    ⟨(some 113), none, .extr (.t 105) 1⟩,
    ⟨(some 16), none, .asg (.t 112)⟩,
    ⟨(some 17), none, .asg (.t 113)⟩] [0, 1, 2, 3, 4, 12, 16, 17] []
def ic_slices_pdqsortCmpFunc_impl_Edge__r21 : IC := .reg [
    ⟨(some 114), none, .mv (.t 17)⟩,
    ⟨(some 11), none, .asgm (.t 114)⟩] [0, 1, 2, 3, 4, 11, 12, 16] []
def ic_slices_pdqsortCmpFunc_impl_Edge__r22 : IC := .reg [
    ⟨(some 115), none, .mv (.t 16)⟩,
    ⟨(some 116), none, .mv (.t 1)⟩,
    ⟨(some 117), none, .bin .sub (.t 115) (.t 116)⟩,
    ⟨(some 118), none, .mv (.t 2)⟩,
    ⟨(some 119), none, .mv (.t 16)⟩,
    ⟨(some 120), none, .bin .sub (.t 118) (.t 119)⟩,
    ⟨(some 18), none, .asg (.t 117)⟩,
    ⟨(some 19), none, .asg (.t 120)⟩] [0, 1, 2, 3, 4, 11, 12, 16, 18, 19] []
def ic_slices_pdqsortCmpFunc_impl_Edge__r23 : IC := .reg [
    ⟨(some 121), none, .mv (.t 12)⟩,
    ⟨(some 122), none, .bin .quo (.t 121) (.c (vi 8))⟩,
    ⟨(some 20), none, .asg (.t 122)⟩] [0, 1, 2, 3, 4, 11, 16, 18, 19, 20] []
def ic_slices_pdqsortCmpFunc_impl_Edge__r24 : IC := .reg [
    ⟨(some 123), none, .mv (.t 18)⟩,
    ⟨(some 124), none, .mv (.t 19)⟩,
    ⟨(some 125), none, .bin .lss (.t 123) (.t 124)⟩] [0, 1, 2, 3, 4, 11, 16, 18, 19, 20, 125] []
def ic_slices_pdqsortCmpFunc_impl_Edge__r25 : IC := .reg [
    ⟨(some 126), none, .mv (.t 18)⟩,
    ⟨(some 127), none, .mv (.t 20)⟩,
    ⟨(some 128), none, .bin .geq (.t 126) (.t 127)⟩,
    ⟨(some 10), none, .asg (.t 128)⟩] [0, 1, 2, 3, 4, 10, 11, 16] []
def ic_slices_pdqsortCmpFunc_impl_Edge__r26 : IC := .reg [
    ⟨(some 129), none, .mv (.t 0)⟩,
    ⟨(some 130), none, .mv (.t 1)⟩,
    ⟨(some 131), none, .mv (.t 16)⟩,
    ⟨(some 132), none, .mv (.t 3)⟩,
    ⟨(some 133), none, .mv (.t 4)⟩,
    ⟨(some 134), none, .call l_slices_pdqsortCmpFunc_impl_Edge_ [(.ld, (.t 129)), (.val, (.t 130)), (.val, (.t 131)), (.val, (.t 132)), (.val, (.t 133))] false⟩] [0, 2, 3, 4, 10, 11, 16] []
def ic_slices_pdqsortCmpFunc_impl_Edge__r27 : IC := .reg [
    ⟨(some 135), none, .mv (.t 16)⟩,
    ⟨(some 136), none, .bin .add (.t 135) (.c (vi 1))⟩,
    ⟨(some 1), none, .asg (.t 136)⟩] [0, 1, 2, 3, 4, 10, 11] []
def ic_slices_pdqsortCmpFunc_impl_Edge__r28 : IC := .reg [
    ⟨(some 137), none, .mv (.t 19)⟩,
    ⟨(some 138), none, .mv (.t 20)⟩,
    ⟨(some 139), none, .bin .geq (.t 137) (.t 138)⟩,
    ⟨(some 10), none, .asg (.t 139)⟩] [0, 1, 2, 3, 4, 10, 11, 16] []
def ic_slices_pdqsortCmpFunc_impl_Edge__r29 : IC := .reg [
    ⟨(some 140), none, .mv (.t 0)⟩,
    ⟨(some 141), none, .mv (.t 16)⟩,
    ⟨(some 142), none, .bin .add (.t 141) (.c (vi 1))⟩,
    ⟨(some 143), none, .mv (.t 2)⟩,
    ⟨(some 144), none, .mv (.t 3)⟩,
    ⟨(some 145), none, .mv (.t 4)⟩,
    ⟨(some 146), none, .call l_slices_pdqsortCmpFunc_impl_Edge_ [(.ld, (.t 140)), (.val, (.t 142)), (.val, (.t 143)), (.val, (.t 144)), (.val, (.t 145))] false⟩] [0, 1, 3, 4, 10, 11, 16] []
def ic_slices_pdqsortCmpFunc_impl_Edge__r30 : IC := .reg [
    ⟨(some 147), none, .mv (.t 16)⟩,
    ⟨(some 2), none, .asgm (.t 147)⟩] [0, 1, 2, 3, 4, 10, 11] []
def ic_slices_pdqsortCmpFunc_impl_Edge__l31 : IC := (.block 1 (.seq ic_slices_pdqsortCmpFunc_impl_Edge__r2 (.seq (.seq ic_slices_pdqsortCmpFunc_impl_Edge__r3 (.cond (.t 25) (.seq ic_slices_pdqsortCmpFunc_impl_Edge__r4 .ret) .skip)) (.seq (.seq ic_slices_pdqsortCmpFunc_impl_Edge__r5 (.cond (.t 32) (.seq ic_slices_pdqsortCmpFunc_impl_Edge__r6 .ret) .skip)) (.seq (.seq ic_slices_pdqsortCmpFunc_impl_Edge__r7 (.cond (.t 39) (.seq ic_slices_pdqsortCmpFunc_impl_Edge__r8 ic_slices_pdqsortCmpFunc_impl_Edge__r9) .skip)) (.seq ic_slices_pdqsortCmpFunc_impl_Edge__r10 (.seq (.seq ic_slices_pdqsortCmpFunc_impl_Edge__r11 (.cond (.t 56) (.seq ic_slices_pdqsortCmpFunc_impl_Edge__r12 (.seq ic_slices_pdqsortCmpFunc_impl_Edge__r13 ic_slices_pdqsortCmpFunc_impl_Edge__r14)) .skip)) (.seq (.seq ic_slices_pdqsortCmpFunc_impl_Edge__r15 (.cond (.t 75) (.seq ic_slices_pdqsortCmpFunc_impl_Edge__r16 (.cond (.t 80) .ret .skip)) .skip)) (.seq (.seq ic_slices_pdqsortCmpFunc_impl_Edge__r17 (.cond (.t 97) (.seq ic_slices_pdqsortCmpFunc_impl_Edge__r18 (.seq ic_slices_pdqsortCmpFunc_impl_Edge__r19 (.exit 1))) .skip)) (.seq ic_slices_pdqsortCmpFunc_impl_Edge__r20 (.seq ic_slices_pdqsortCmpFunc_impl_Edge__r21 (.seq ic_slices_pdqsortCmpFunc_impl_Edge__r22 (.seq ic_slices_pdqsortCmpFunc_impl_Edge__r23 (.seq ic_slices_pdqsortCmpFunc_impl_Edge__r24 (.cond (.t 125) (.seq ic_slices_pdqsortCmpFunc_impl_Edge__r25 (.seq ic_slices_pdqsortCmpFunc_impl_Edge__r26 ic_slices_pdqsortCmpFunc_impl_Edge__r27)) (.seq ic_slices_pdqsortCmpFunc_impl_Edge__r28 (.seq ic_slices_pdqsortCmpFunc_impl_Edge__r29 ic_slices_pdqsortCmpFunc_impl_Edge__r30)))))))))))))))))
def if_slices_pdqsortCmpFunc_impl_Edge_ : IFun := ⟨[], [0], (.seq ic_slices_pdqsortCmpFunc_impl_Edge__r0 (.seq ic_slices_pdqsortCmpFunc_impl_Edge__r1 (.block 0 (.loop ic_slices_pdqsortCmpFunc_impl_Edge__l31))))⟩

def ic_slices_xorshift_Next_r0 : IC := .reg [
    ⟨(some 2), none, .asg (.c (.int .u64 (0)))⟩] [0] []
def ic_slices_xorshift_Next_r1 : IC := .reg [
    ⟨(some 3), none, .mv (.t 0)⟩,
    ⟨(some 4), none, .nilck (.t 3)⟩,
    ⟨(some 5), none, .load false 1 (.t 4)⟩,
    ⟨(some 6), none, .mv (.t 0)⟩,
    ⟨(some 7), none, .nilck (.t 6)⟩,
    ⟨(some 8), none, .load false 1 (.t 7)⟩,
    ⟨(some 9), none, .bin .shl (.t 8) (.c (.int .u64 (13)))⟩,
    ⟨(some 10), none, .bin .xor (.t 5) (.t 9)⟩,
    ⟨(some 11), none, .nilck (.t 3)⟩,
    ⟨none, none, .store 1 (.t 11) (.t 10)⟩] [0] []
def ic_slices_xorshift_Next_r2 : IC := .reg [
    ⟨(some 12), none, .mv (.t 0)⟩,
    ⟨(some 13), none, .nilck (.t 12)⟩,
    ⟨(some 14), none, .load false 1 (.t 13)⟩,
    ⟨(some 15), none, .mv (.t 0)⟩,
    ⟨(some 16), none, .nilck (.t 15)⟩,
    ⟨(some 17), none, .load false 1 (.t 16)⟩,
    ⟨(some 18), none, .bin .shr (.t 17) (.c (.int .u64 (7)))⟩,
    ⟨(some 19), none, .bin .xor (.t 14) (.t 18)⟩,
    ⟨(some 20), none, .nilck (.t 12)⟩,
    ⟨none, none, .store 1 (.t 20) (.t 19)⟩] [0] []
def ic_slices_xorshift_Next_r3 : IC := .reg [
    ⟨(some 21), none, .mv (.t 0)⟩,
    ⟨(some 22), none, .nilck (.t 21)⟩,
    ⟨(some 23), none, .load false 1 (.t 22)⟩,
    ⟨(some 24), none, .mv (.t 0)⟩,
    ⟨(some 25), none, .nilck (.t 24)⟩,
    ⟨(some 26), none, .load false 1 (.t 25)⟩,
    ⟨(some 27), none, .bin .shl (.t 26) (.c (.int .u64 (17)))⟩,
    ⟨(some 28), none, .bin .xor (.t 23) (.t 27)⟩,
    ⟨(some 29), none, .nilck (.t 21)⟩,
    ⟨none, none, .store 1 (.t 29) (.t 28)⟩] [0] []
def ic_slices_xorshift_Next_r4 : IC := .reg [
    ⟨(some 30), none, .mv (.t 0)⟩,
    ⟨(some 31), none, .nilck (.t 30)⟩,
    ⟨(some 32), none, .load false 1 (.t 31)⟩,
    ⟨(some 2), none, .asg (.t 32)⟩] [2] []
def if_slices_xorshift_Next : IFun := ⟨[.t 2], [], (.seq ic_slices_xorshift_Next_r0 (.seq ic_slices_xorshift_Next_r1 (.seq ic_slices_xorshift_Next_r2 (.seq ic_slices_xorshift_Next_r3 (.seq ic_slices_xorshift_Next_r4 .ret)))))⟩

def ic_spec_DrawSwitchEdges_r0 : IC := .reg [
    ⟨(some 2), none, .alloc [(vi 0), (.slice none 0 0)]⟩,
    ⟨(some 3), none, .alloc [(vi 0), (vi 0), (vi 0), (vi 0)]⟩] [0, 2, 3] []
def ic_spec_DrawSwitchEdges_r1 : IC := .reg [
    ⟨(some 6), none, .mv (.t 0)⟩,
    ⟨(some 7), none, .call l_spec_newReader [(.rd, (.t 6))] false⟩,
    ⟨(some 4), none, .asg (.t 7)⟩] [2, 3, 4] []
def ic_spec_DrawSwitchEdges_r2 : IC := .reg [
    ⟨(some 8), none, .mv (.t 4)⟩,
    ⟨(some 9), none, .call l_spec_someGraph [(.val, (.t 8))] false⟩,
    ⟨(some 5), none, .alloc [(vi 0), (.slice none 0 0)]⟩,
    ⟨none, none, .storef 2 (.t 5) (.t 9)⟩] [2, 3, 4, 5] []
def ic_spec_DrawSwitchEdges_r3 : IC := .reg [
    ⟨(some 10), none, .load true 2 (.t 5)⟩,
    ⟨(some 11), none, .mv (.t 4)⟩,
    ⟨(some 12), none, .load true 2 (.t 5)⟩,
    ⟨(some 13), none, .call l_spec_aSwitch [(.val, (.t 11)), (.rd, (.t 12))] false⟩,
    ⟨none, none, .storef 2 (.t 2) (.t 10)⟩,
    ⟨none, none, .store 4 (.t 3) (.t 13)⟩] [2, 3] [[1, 2, 3, 0, 4, 5]]
def if_spec_DrawSwitchEdges : IFun := ⟨[.c 2 2 true, .c 3 4 true], [], (.seq ic_spec_DrawSwitchEdges_r0 (.seq ic_spec_DrawSwitchEdges_r1 (.seq ic_spec_DrawSwitchEdges_r2 (.seq ic_spec_DrawSwitchEdges_r3 .ret))))⟩

def ic_spec_SwitchEdges_r0 : IC := .reg [
    ⟨(some 2), none, .box (.t 0)⟩,
    ⟨(some 3), none, .box (.t 1)⟩,
    ⟨(some 4), none, .alloc [(vi 0), (.slice none 0 0)]⟩,
    ⟨(some 5), none, .asg (.c (.bool false))⟩] [2, 3, 4] []
def ic_spec_SwitchEdges_r1 : IC := .reg [
    ⟨(some 6), none, .load true 2 (.t 2)⟩,
    ⟨(some 7), none, .call l_spec_validGraph [(.rd, (.t 6))] true⟩,
    ⟨(some 8), none, .unop .not (.t 7)⟩,
    ⟨(some 9), none, .asg (.t 8)⟩,
    ⟨(some 10), (some (9, false)), .load true 2 (.t 2)⟩,
    ⟨(some 11), (some (9, false)), .load true 4 (.t 3)⟩,
    ⟨(some 12), (some (9, false)), .call l_spec_maySwitch [(.rd, (.t 10)), (.val, (.t 11))] true⟩,
    ⟨(some 13), (some (9, false)), .unop .not (.t 12)⟩,
    ⟨(some 14), none, .pick (.t 9) (.c (.bool true)) (.t 13)⟩] [2, 3, 4, 14] []
def ic_spec_SwitchEdges_r2 : IC := .reg [
    ⟨(some 15), none, .build [(vi 0), (.slice none 0 0)] []⟩,
    ⟨none, none, .store 2 (.t 4) (.t 15)⟩,
    ⟨(some 5), none, .asg (.c (.bool false))⟩] [4, 5] []
def ic_spec_SwitchEdges_r3 : IC := .reg [
    ⟨(some 16), none, .load true 2 (.t 2)⟩,
    ⟨(some 17), none, .load true 4 (.t 3)⟩,
    ⟨(some 18), none, .call l_spec_switched [(.rd, (.t 16)), (.val, (.t 17))] true⟩,
    ⟨none, none, .store 2 (.t 4) (.t 18)⟩,
    ⟨(some 5), none, .asg (.c (.bool true))⟩] [4, 5] []
def if_spec_SwitchEdges : IFun := ⟨[.c 4 2 true, .t 5], [], (.seq ic_spec_SwitchEdges_r0 (.seq (.seq ic_spec_SwitchEdges_r1 (.cond (.t 14) (.seq ic_spec_SwitchEdges_r2 .ret) .skip)) (.seq ic_spec_SwitchEdges_r3 .ret)))⟩

def ic_spec_aGraph_r0 : IC := .reg [
    ⟨(some 4), none, .alloc [(vi 0), (.slice none 0 0)]⟩] [0, 1, 4] []
def ic_spec_aGraph_r1 : IC := .reg [
    ⟨(some 9), none, .mv (.t 1)⟩,
    ⟨(some 10), none, .bsl 2 [(vi 0), (vi 0)] 0 []⟩,
    ⟨(some 11), none, .build [(vi 0), (.slice none 0 0)] [(0, 1, (.t 9)), (1, 1, (.t 10))]⟩,
    ⟨(some 5), none, .alloc [(vi 0), (.slice none 0 0)]⟩,
    ⟨none, none, .store 2 (.t 5) (.t 11)⟩] [0, 1, 4, 5] []
def ic_spec_aGraph_r2 : IC := .reg [
    ⟨(some 12), none, .mv (.t 1)⟩,
    ⟨(some 13), none, .call l_spec_pairs [(.val, (.t 12))] true⟩,
    ⟨(some 6), none, .asg (.t 13)⟩] [0, 4, 5, 6] []
def ic_spec_aGraph_r3 : IC := .reg [
    ⟨(some 14), none, .mv (.t 0)⟩,
    ⟨(some 15), none, .call l_spec_reader_pick [(.val, (.t 14)), (.val, (.c (vi 3)))] false⟩,
    ⟨(some 16), none, .bin .add (.c (vi 2)) (.t 15)⟩,
    ⟨(some 7), none, .asg (.t 16)⟩] [0, 4, 5, 6, 7] []
def ic_spec_aGraph_r4 : IC := .reg [
    ⟨(some 8), none, .asg (.c (vi 0))⟩] [0, 4, 5, 6, 7, 8] []
def ic_spec_aGraph_r5 : IC := .reg [
    ⟨(some 17), none, .mv (.t 8)⟩,
    ⟨(some 18), none, .mv (.t 6)⟩,
    ⟨(some 19), none, .len (.t 18)⟩,
    ⟨(some 20), none, .bin .lss (.t 17) (.t 19)⟩] [0, 4, 5, 6, 7, 8, 20] []
def ic_spec_aGraph_r6 : IC := .reg [
    ⟨(some 23), none, .mv (.t 0)⟩,
    ⟨(some 24), none, .mv (.t 7)⟩,
    ⟨(some 25), none, .call l_spec_reader_pick [(.val, (.t 23)), (.val, (.t 24))] false⟩,
    ⟨(some 26), none, .bin .eql (.t 25) (.c (vi 0))⟩] [0, 4, 5, 6, 7, 8, 26] []
def ic_spec_aGraph_r7 : IC := .reg [
    ⟨(some 27), none, .fadr 1 (.t 5)⟩,
    ⟨(some 28), none, .load false 1 (.t 27)⟩,
    ⟨(some 29), none, .mv (.t 6)⟩,
    ⟨(some 30), none, .mv (.t 8)⟩,
    ⟨(some 31), none, .iadr 2 (.t 29) (.t 30)⟩,
    ⟨(some 32), none, .load true 2 (.t 31)⟩,
    ⟨(some 33), none, .bsl 2 [(vi 0), (vi 0)] 1 [(0, (.t 32))]⟩,
    ⟨(some 34), none, .app 2 (.t 28) (.t 33)⟩,
    ⟨(some 35), none, .fadr 1 (.t 5)⟩,
    ⟨none, none, .store 1 (.t 35) (.t 34)⟩] [0, 4, 5, 6, 7, 8] [[0, 2, 3, 4, 5, 6, 1, 7, 8, 9]]
def ic_spec_aGraph_r8 : IC := .reg [
    ⟨(some 21), none, .mv (.t 8)⟩,
    ⟨(some 22), none, .bin .add (.t 21) (.c (vi 1))⟩,
    ⟨(some 8), none, .asg (.t 22)⟩] [0, 4, 5, 6, 7, 8] []
def ic_spec_aGraph_l9 : IC := (.seq (.seq ic_spec_aGraph_r5 (.cond (.t 20) .skip (.exit 0))) (.seq (.block 1 (.seq ic_spec_aGraph_r6 (.cond (.t 26) ic_spec_aGraph_r7 .skip))) ic_spec_aGraph_r8))
def ic_spec_aGraph_r10 : IC := .reg [
    ⟨(some 36), none, .mv (.t 0)⟩,
    ⟨(some 37), none, .call l_spec_reader_pick [(.val, (.t 36)), (.val, (.c (vi 4)))] false⟩,
    ⟨(some 38), none, .bin .eql (.t 37) (.c (vi 0))⟩] [4, 5, 38] []
def ic_spec_aGraph_r11 : IC := .reg [
    ⟨(some 39), none, .load true 2 (.t 5)⟩,
    ⟨(some 40), none, .call l_spec_complement [(.rd, (.t 39))] true⟩,
    ⟨none, none, .store 2 (.t 4) (.t 40)⟩] [4] []
def ic_spec_aGraph_r12 : IC := .reg [
    ⟨(some 41), none, .load true 2 (.t 5)⟩,
    ⟨none, none, .store 2 (.t 4) (.t 41)⟩] [4] []
def if_spec_aGraph : IFun := ⟨[.c 4 2 true], [], (.seq ic_spec_aGraph_r0 (.seq ic_spec_aGraph_r1 (.seq ic_spec_aGraph_r2 (.seq ic_spec_aGraph_r3 (.seq (.seq ic_spec_aGraph_r4 (.block 0 (.loop ic_spec_aGraph_l9))) (.seq (.seq ic_spec_aGraph_r10 (.cond (.t 38) (.seq ic_spec_aGraph_r11 .ret) .skip)) (.seq ic_spec_aGraph_r12 .ret)))))))⟩

def ic_spec_aSwitch_r0 : IC := .reg [
    ⟨(some 3), none, .box (.t 1)⟩,
    ⟨(some 4), none, .alloc [(vi 0), (vi 0), (vi 0), (vi 0)]⟩] [0, 3, 4] []
def ic_spec_aSwitch_r1 : IC := .reg [
    ⟨(some 6), none, .load true 2 (.t 3)⟩,
    ⟨(some 7), none, .call l_spec_validGraph [(.rd, (.t 6))] true⟩] [0, 3, 4, 7] []
def ic_spec_aSwitch_r2 : IC := .reg [
    ⟨(some 8), none, .load true 2 (.t 3)⟩,
    ⟨(some 9), none, .call l_spec_switches [(.rd, (.t 8))] true⟩,
    ⟨(some 5), none, .asg (.t 9)⟩] [0, 4, 5] []
def ic_spec_aSwitch_r3 : IC := .reg [
    ⟨(some 10), none, .mv (.t 5)⟩,
    ⟨(some 11), none, .len (.t 10)⟩,
    ⟨(some 12), none, .bin .gtr (.t 11) (.c (vi 0))⟩,
    ⟨(some 13), none, .asg (.t 12)⟩,
    ⟨(some 14), (some (13, true)), .mv (.t 0)⟩,
    ⟨(some 15), (some (13, true)), .call l_spec_reader_pick [(.val, (.t 14)), (.val, (.c (vi 6)))] false⟩,
    ⟨(some 16), (some (13, true)), .bin .gtr (.t 15) (.c (vi 0))⟩,
    ⟨(some 17), none, .pick (.t 13) (.t 16) (.c (.bool false))⟩] [0, 4, 5, 17] []
def ic_spec_aSwitch_r4 : IC := .reg [
    ⟨(some 18), none, .mv (.t 5)⟩,
    ⟨(some 19), none, .mv (.t 0)⟩,
    ⟨(some 20), none, .mv (.t 5)⟩,
    ⟨(some 21), none, .len (.t 20)⟩,
    ⟨(some 22), none, .call l_spec_reader_pick [(.val, (.t 19)), (.val, (.t 21))] false⟩,
    ⟨(some 23), none, .iadr 4 (.t 18) (.t 22)⟩,
    ⟨(some 24), none, .load true 4 (.t 23)⟩,
    ⟨none, none, .store 4 (.t 4) (.t 24)⟩] [4] []
def ic_spec_aSwitch_r5 : IC := .reg [
    ⟨(some 25), none, .mv (.t 0)⟩,
    ⟨(some 26), none, .call l_spec_reader_pick [(.val, (.t 25)), (.val, (.c (vi 7)))] false⟩,
    ⟨(some 27), none, .mv (.t 0)⟩,
    ⟨(some 28), none, .call l_spec_reader_pick [(.val, (.t 27)), (.val, (.c (vi 7)))] false⟩,
    ⟨(some 29), none, .mv (.t 0)⟩,
    ⟨(some 30), none, .call l_spec_reader_pick [(.val, (.t 29)), (.val, (.c (vi 7)))] false⟩,
    ⟨(some 31), none, .mv (.t 0)⟩,
    ⟨(some 32), none, .mv (.t 0)⟩,
    ⟨(some 33), none, .call l_spec_reader_pick [(.val, (.t 32)), (.val, (.c (vi 7)))] false⟩,
    ⟨(some 34), none, .bsl 1 [(vi 0)] 2 [(0, (.t 33)), (1, (.c (vi (-1))))]⟩,
    ⟨(some 35), none, .call l_spec_reader_one [(.val, (.t 31)), (.rd, (.t 34))] false⟩,
    ⟨(some 36), none, .build [(vi 0), (vi 0), (vi 0), (vi 0)] [(0, 1, (.t 26)), (1, 1, (.t 28)), (2, 1, (.t 30)), (3, 1, (.t 35))]⟩,
    ⟨none, none, .store 4 (.t 4) (.t 36)⟩] [4] []
def if_spec_aSwitch : IFun := ⟨[.c 4 4 true], [], (.seq ic_spec_aSwitch_r0 (.seq (.seq ic_spec_aSwitch_r1 (.cond (.t 7) (.seq ic_spec_aSwitch_r2 (.seq ic_spec_aSwitch_r3 (.cond (.t 17) (.seq ic_spec_aSwitch_r4 .ret) .skip))) .skip)) (.seq ic_spec_aSwitch_r5 .ret)))⟩

def ic_spec_addEdge_r0 : IC := .reg [
    ⟨(some 3), none, .box (.t 0)⟩,
    ⟨(some 6), none, .alloc [(vi 0), (.slice none 0 0)]⟩] [1, 2, 3, 6] []
def ic_spec_addEdge_r1 : IC := .reg [
    ⟨(some 10), none, .mv (.t 1)⟩,
    ⟨(some 11), none, .mv (.t 2)⟩,
    ⟨(some 12), none, .minmax true (.t 10) (.t 11)⟩,
    ⟨(some 13), none, .mv (.t 1)⟩,
    ⟨(some 14), none, .mv (.t 2)⟩,
    ⟨(some 15), none, .minmax false (.t 13) (.t 14)⟩,
    ⟨(some 16), none, .build [(vi 0), (vi 0)] [(0, 1, (.t 12)), (1, 1, (.t 15))]⟩,
    ⟨(some 7), none, .alloc [(vi 0), (vi 0)]⟩,
    ⟨none, none, .store 2 (.t 7) (.t 16)⟩] [3, 6, 7] []
def ic_spec_addEdge_r2 : IC := .reg [
    ⟨(some 8), none, .asg (.c (vi 0))⟩] [3, 6, 7, 8] []
def ic_spec_addEdge_r3 : IC := .reg [
    ⟨(some 17), none, .mv (.t 8)⟩,
    ⟨(some 18), none, .fadr 1 (.t 3)⟩,
    ⟨(some 19), none, .load false 1 (.t 18)⟩,
    ⟨(some 20), none, .len (.t 19)⟩,
    ⟨(some 21), none, .bin .lss (.t 17) (.t 20)⟩,
    ⟨(some 22), none, .asg (.t 21)⟩,
    ⟨(some 23), (some (22, true)), .fadr 1 (.t 3)⟩,
    ⟨(some 24), (some (22, true)), .load false 1 (.t 23)⟩,
    ⟨(some 25), (some (22, true)), .mv (.t 8)⟩,
    ⟨(some 26), (some (22, true)), .iadr 2 (.t 24) (.t 25)⟩,
    ⟨(some 27), (some (22, true)), .load true 2 (.t 26)⟩,
    ⟨(some 28), (some (22, true)), .load true 2 (.t 7)⟩,
    ⟨(some 29), (some (22, true)), .call l_spec_edgeBelow [(.val, (.t 27)), (.val, (.t 28))] true⟩,
    ⟨(some 30), none, .pick (.t 22) (.t 29) (.c (.bool false))⟩] [3, 6, 7, 8, 30] []
def ic_spec_addEdge_r4 : IC := .reg [
    ⟨(some 31), none, .mv (.t 8)⟩,
    ⟨(some 32), none, .bin .add (.t 31) (.c (vi 1))⟩,
    ⟨(some 8), none, .asg (.t 32)⟩] [3, 6, 7, 8] []
def ic_spec_addEdge_l5 : IC := (.seq (.seq ic_spec_addEdge_r3 (.cond (.t 30) .skip (.exit 0))) (.block 1 ic_spec_addEdge_r4))
def ic_spec_addEdge_r6 : IC := .reg [
    ⟨(some 33), none, .bsl 2 [(vi 0), (vi 0)] 0 []⟩,
    ⟨(some 34), none, .fadr 1 (.t 3)⟩,
    ⟨(some 35), none, .load false 1 (.t 34)⟩,
    ⟨(some 36), none, .mv (.t 8)⟩,
    ⟨(some 37), none, .slc 2 (.t 35) none (some (.t 36)) none⟩,
    ⟨(some 38), none, .app 2 (.t 33) (.t 37)⟩,
    ⟨(some 9), none, .asg (.t 38)⟩] [3, 6, 7, 8, 9] []
def ic_spec_addEdge_r7 : IC := .reg [
    ⟨(some 39), none, .fadr 0 (.t 3)⟩,
    ⟨(some 40), none, .load false 1 (.t 39)⟩,
    ⟨(some 41), none, .mv (.t 9)⟩,
    ⟨(some 42), none, .load true 2 (.t 7)⟩,
    ⟨(some 43), none, .bsl 2 [(vi 0), (vi 0)] 1 [(0, (.t 42))]⟩,
    ⟨(some 44), none, .app 2 (.t 41) (.t 43)⟩,
    ⟨(some 45), none, .fadr 1 (.t 3)⟩,
    ⟨(some 46), none, .load false 1 (.t 45)⟩,
    ⟨(some 47), none, .mv (.t 8)⟩,
    ⟨(some 48), none, .slc 2 (.t 46) (some (.t 47)) none none⟩,
    ⟨(some 49), none, .app 2 (.t 44) (.t 48)⟩,
    ⟨(some 50), none, .build [(vi 0), (.slice none 0 0)] [(0, 1, (.t 40)), (1, 1, (.t 49))]⟩,
    ⟨none, none, .store 2 (.t 6) (.t 50)⟩] [6] [[0, 1, 2, 3, 4, 6, 7, 5, 8, 9, 10, 11, 12], [0, 1, 2, 3, 6, 7, 4, 5, 8, 9, 10, 11, 12], [0, 2, 3, 4, 1, 5, 6, 7, 8, 9, 10, 11, 12], [0, 2, 3, 4, 1, 6, 7, 5, 8, 9, 10, 11, 12], [0, 2, 3, 6, 7, 4, 1, 5, 8, 9, 10, 11, 12], [0, 2, 3, 4, 5, 1, 6, 7, 8, 9, 10, 11, 12], [0, 2, 3, 4, 5, 6, 7, 8, 9, 10, 1, 11, 12], [0, 2, 3, 4, 6, 7, 5, 1, 8, 9, 10, 11, 12], [0, 2, 3, 4, 6, 7, 5, 8, 9, 10, 1, 11, 12], [0, 2, 3, 6, 7, 4, 5, 1, 8, 9, 10, 11, 12], [0, 2, 3, 6, 7, 4, 5, 8, 9, 10, 1, 11, 12]]
def if_spec_addEdge : IFun := ⟨[.c 6 2 true], [], (.seq ic_spec_addEdge_r0 (.seq ic_spec_addEdge_r1 (.seq ic_spec_addEdge_r2 (.seq (.block 0 (.loop ic_spec_addEdge_l5)) (.seq ic_spec_addEdge_r6 (.seq ic_spec_addEdge_r7 .ret))))))⟩

def ic_spec_complement_r0 : IC := .reg [
    ⟨(some 1), none, .box (.t 0)⟩,
    ⟨(some 2), none, .alloc [(vi 0), (.slice none 0 0)]⟩] [1, 2] []
def ic_spec_complement_r1 : IC := .reg [
    ⟨(some 6), none, .fadr 0 (.t 1)⟩,
    ⟨(some 7), none, .load false 1 (.t 6)⟩,
    ⟨(some 8), none, .bsl 2 [(vi 0), (vi 0)] 0 []⟩,
    ⟨(some 9), none, .build [(vi 0), (.slice none 0 0)] [(0, 1, (.t 7)), (1, 1, (.t 8))]⟩,
    ⟨(some 3), none, .alloc [(vi 0), (.slice none 0 0)]⟩,
    ⟨none, none, .store 2 (.t 3) (.t 9)⟩] [1, 2, 3] []
def ic_spec_complement_r2 : IC := .reg [
    ⟨(some 10), none, .fadr 0 (.t 1)⟩,
    ⟨(some 11), none, .load false 1 (.t 10)⟩,
    ⟨(some 12), none, .call l_spec_pairs [(.val, (.t 11))] true⟩,
    ⟨(some 4), none, .asg (.t 12)⟩] [1, 2, 3, 4] []
def ic_spec_complement_r3 : IC := .reg [
    ⟨(some 5), none, .asg (.c (vi 0))⟩] [1, 2, 3, 4, 5] []
def ic_spec_complement_r4 : IC := .reg [
    ⟨(some 13), none, .mv (.t 5)⟩,
    ⟨(some 14), none, .mv (.t 4)⟩,
    ⟨(some 15), none, .len (.t 14)⟩,
    ⟨(some 16), none, .bin .lss (.t 13) (.t 15)⟩] [1, 2, 3, 4, 5, 16] []
def ic_spec_complement_r5 : IC := .reg [
    ⟨(some 19), none, .load true 2 (.t 1)⟩,
    ⟨(some 20), none, .mv (.t 4)⟩,
    ⟨(some 21), none, .mv (.t 5)⟩,
    ⟨(some 22), none, .iadr 2 (.t 20) (.t 21)⟩,
    ⟨(some 23), none, .fadr 0 (.t 22)⟩,
    ⟨(some 24), none, .load false 1 (.t 23)⟩,
    ⟨(some 25), none, .mv (.t 4)⟩,
    ⟨(some 26), none, .mv (.t 5)⟩,
    ⟨(some 27), none, .iadr 2 (.t 25) (.t 26)⟩,
    ⟨(some 28), none, .fadr 1 (.t 27)⟩,
    ⟨(some 29), none, .load false 1 (.t 28)⟩,
    ⟨(some 30), none, .call l_spec_hasEdge [(.rd, (.t 19)), (.val, (.t 24)), (.val, (.t 29))] true⟩,
    ⟨(some 31), none, .unop .not (.t 30)⟩] [1, 2, 3, 4, 5, 31] []
def ic_spec_complement_r6 : IC := .reg [
    ⟨(some 32), none, .fadr 1 (.t 3)⟩,
    ⟨(some 33), none, .load false 1 (.t 32)⟩,
    ⟨(some 34), none, .mv (.t 4)⟩,
    ⟨(some 35), none, .mv (.t 5)⟩,
    ⟨(some 36), none, .iadr 2 (.t 34) (.t 35)⟩,
    ⟨(some 37), none, .load true 2 (.t 36)⟩,
    ⟨(some 38), none, .bsl 2 [(vi 0), (vi 0)] 1 [(0, (.t 37))]⟩,
    ⟨(some 39), none, .app 2 (.t 33) (.t 38)⟩,
    ⟨(some 40), none, .fadr 1 (.t 3)⟩,
    ⟨none, none, .store 1 (.t 40) (.t 39)⟩] [1, 2, 3, 4, 5] [[0, 2, 3, 4, 5, 6, 1, 7, 8, 9]]
def ic_spec_complement_r7 : IC := .reg [
    ⟨(some 17), none, .mv (.t 5)⟩,
    ⟨(some 18), none, .bin .add (.t 17) (.c (vi 1))⟩,
    ⟨(some 5), none, .asg (.t 18)⟩] [1, 2, 3, 4, 5] []
def ic_spec_complement_l8 : IC := (.seq (.seq ic_spec_complement_r4 (.cond (.t 16) .skip (.exit 0))) (.seq (.block 1 (.seq ic_spec_complement_r5 (.cond (.t 31) ic_spec_complement_r6 .skip))) ic_spec_complement_r7))
def ic_spec_complement_r9 : IC := .reg [
    ⟨(some 41), none, .load true 2 (.t 3)⟩,
    ⟨none, none, .store 2 (.t 2) (.t 41)⟩] [2] []
def if_spec_complement : IFun := ⟨[.c 2 2 true], [], (.seq ic_spec_complement_r0 (.seq ic_spec_complement_r1 (.seq ic_spec_complement_r2 (.seq (.seq ic_spec_complement_r3 (.block 0 (.loop ic_spec_complement_l8))) (.seq ic_spec_complement_r9 .ret)))))⟩

def ic_spec_dropEdge_r0 : IC := .reg [
    ⟨(some 3), none, .box (.t 0)⟩,
    ⟨(some 6), none, .alloc [(vi 0), (.slice none 0 0)]⟩] [1, 2, 3, 6] []
def ic_spec_dropEdge_r1 : IC := .reg [
    ⟨(some 10), none, .fadr 0 (.t 3)⟩,
    ⟨(some 11), none, .load false 1 (.t 10)⟩,
    ⟨(some 12), none, .bsl 2 [(vi 0), (vi 0)] 0 []⟩,
    ⟨(some 13), none, .build [(vi 0), (.slice none 0 0)] [(0, 1, (.t 11)), (1, 1, (.t 12))]⟩,
    ⟨(some 7), none, .alloc [(vi 0), (.slice none 0 0)]⟩,
    ⟨none, none, .store 2 (.t 7) (.t 13)⟩] [1, 2, 3, 6, 7] []
def ic_spec_dropEdge_r2 : IC := .reg [
    ⟨(some 8), none, .asg (.c (vi 0))⟩] [1, 2, 3, 6, 7, 8] []
def ic_spec_dropEdge_r3 : IC := .reg [
    ⟨(some 14), none, .mv (.t 8)⟩,
    ⟨(some 15), none, .fadr 1 (.t 3)⟩,
    ⟨(some 16), none, .load false 1 (.t 15)⟩,
    ⟨(some 17), none, .len (.t 16)⟩,
    ⟨(some 18), none, .bin .lss (.t 14) (.t 17)⟩] [1, 2, 3, 6, 7, 8, 18] []
def ic_spec_dropEdge_r4 : IC := .reg [
    ⟨(some 21), none, .fadr 1 (.t 3)⟩,
    ⟨(some 22), none, .load false 1 (.t 21)⟩,
    ⟨(some 23), none, .mv (.t 8)⟩,
    ⟨(some 24), none, .iadr 2 (.t 22) (.t 23)⟩,
    ⟨(some 25), none, .load true 2 (.t 24)⟩,
    ⟨(some 9), none, .alloc [(vi 0), (vi 0)]⟩,
    ⟨none, none, .store 2 (.t 9) (.t 25)⟩] [1, 2, 3, 6, 7, 8, 9] []
def ic_spec_dropEdge_r5 : IC := .reg [
    ⟨(some 26), none, .fadr 0 (.t 9)⟩,
    ⟨(some 27), none, .load false 1 (.t 26)⟩,
    ⟨(some 28), none, .mv (.t 1)⟩,
    ⟨(some 29), none, .mv (.t 2)⟩,
    ⟨(some 30), none, .minmax true (.t 28) (.t 29)⟩,
    ⟨(some 31), none, .bin .neq (.t 27) (.t 30)⟩,
    ⟨(some 32), none, .asg (.t 31)⟩,
    ⟨(some 33), (some (32, false)), .fadr 1 (.t 9)⟩,
    ⟨(some 34), (some (32, false)), .load false 1 (.t 33)⟩,
    ⟨(some 35), (some (32, false)), .mv (.t 1)⟩,
    ⟨(some 36), (some (32, false)), .mv (.t 2)⟩,
    ⟨(some 37), (some (32, false)), .minmax false (.t 35) (.t 36)⟩,
    ⟨(some 38), (some (32, false)), .bin .neq (.t 34) (.t 37)⟩,
    ⟨(some 39), none, .pick (.t 32) (.c (.bool true)) (.t 38)⟩] [1, 2, 3, 6, 7, 8, 9, 39] []
def ic_spec_dropEdge_r6 : IC := .reg [
    ⟨(some 40), none, .fadr 1 (.t 7)⟩,
    ⟨(some 41), none, .load false 1 (.t 40)⟩,
    ⟨(some 42), none, .load true 2 (.t 9)⟩,
    ⟨(some 43), none, .bsl 2 [(vi 0), (vi 0)] 1 [(0, (.t 42))]⟩,
    ⟨(some 44), none, .app 2 (.t 41) (.t 43)⟩,
    ⟨(some 45), none, .fadr 1 (.t 7)⟩,
    ⟨none, none, .store 1 (.t 45) (.t 44)⟩] [1, 2, 3, 6, 7, 8] []
def ic_spec_dropEdge_r7 : IC := .reg [
    ⟨(some 19), none, .mv (.t 8)⟩,
    ⟨(some 20), none, .bin .add (.t 19) (.c (vi 1))⟩,
    ⟨(some 8), none, .asg (.t 20)⟩] [1, 2, 3, 6, 7, 8] []
def ic_spec_dropEdge_l8 : IC := (.seq (.seq ic_spec_dropEdge_r3 (.cond (.t 18) .skip (.exit 0))) (.seq (.block 1 (.seq ic_spec_dropEdge_r4 (.seq ic_spec_dropEdge_r5 (.cond (.t 39) ic_spec_dropEdge_r6 .skip)))) ic_spec_dropEdge_r7))
def ic_spec_dropEdge_r9 : IC := .reg [
    ⟨(some 46), none, .load true 2 (.t 7)⟩,
    ⟨none, none, .store 2 (.t 6) (.t 46)⟩] [6] []
def if_spec_dropEdge : IFun := ⟨[.c 6 2 true], [], (.seq ic_spec_dropEdge_r0 (.seq ic_spec_dropEdge_r1 (.seq (.seq ic_spec_dropEdge_r2 (.block 0 (.loop ic_spec_dropEdge_l8))) (.seq ic_spec_dropEdge_r9 .ret))))⟩

def ic_spec_edgeBelow_r0 : IC := .reg [
    ⟨(some 2), none, .box (.t 0)⟩,
    ⟨(some 3), none, .box (.t 1)⟩,
    ⟨(some 4), none, .asg (.c (.bool false))⟩] [2, 3] []
def ic_spec_edgeBelow_r1 : IC := .reg [
    ⟨(some 5), none, .fadr 0 (.t 2)⟩,
    ⟨(some 6), none, .load false 1 (.t 5)⟩,
    ⟨(some 7), none, .fadr 0 (.t 3)⟩,
    ⟨(some 8), none, .load false 1 (.t 7)⟩,
    ⟨(some 9), none, .bin .lss (.t 6) (.t 8)⟩,
    ⟨(some 10), none, .asg (.t 9)⟩,
    ⟨(some 11), (some (10, false)), .fadr 0 (.t 2)⟩,
    ⟨(some 12), (some (10, false)), .load false 1 (.t 11)⟩,
    ⟨(some 13), (some (10, false)), .fadr 0 (.t 3)⟩,
    ⟨(some 14), (some (10, false)), .load false 1 (.t 13)⟩,
    ⟨(some 15), (some (10, false)), .bin .eql (.t 12) (.t 14)⟩,
    ⟨(some 16), (some (10, false)), .asg (.t 15)⟩,
    ⟨(some 17), (some (16, true)), .fadr 1 (.t 2)⟩,
    ⟨(some 18), (some (16, true)), .load false 1 (.t 17)⟩,
    ⟨(some 19), (some (16, true)), .fadr 1 (.t 3)⟩,
    ⟨(some 20), (some (16, true)), .load false 1 (.t 19)⟩,
    ⟨(some 21), (some (16, true)), .bin .lss (.t 18) (.t 20)⟩,
    ⟨(some 22), (some (10, false)), .pick (.t 16) (.t 21) (.c (.bool false))⟩,
    ⟨(some 23), none, .pick (.t 10) (.c (.bool true)) (.t 22)⟩,
    ⟨(some 4), none, .asg (.t 23)⟩] [4] []
def if_spec_edgeBelow : IFun := ⟨[.t 4], [], (.seq ic_spec_edgeBelow_r0 (.seq ic_spec_edgeBelow_r1 .ret))⟩

def ic_spec_goodGraph_r0 : IC := .reg [
    ⟨(some 2), none, .alloc [(vi 0), (.slice none 0 0)]⟩] [0, 2] []
def ic_spec_goodGraph_r1 : IC := .reg [
    ⟨(some 3), none, .mv (.t 0)⟩,
    ⟨(some 4), none, .mv (.t 0)⟩,
    ⟨(some 5), none, .bsl 1 [(vi 0)] 9 [(0, (.c (vi 5))), (1, (.c (vi 4))), (2, (.c (vi 6))), (3, (.c (vi 3))), (4, (.c (vi 5))), (5, (.c (vi 2))), (6, (.c (vi 7))), (7, (.c (vi 1))), (8, (.c (vi 0)))]⟩,
    ⟨(some 6), none, .call l_spec_reader_one [(.val, (.t 4)), (.rd, (.t 5))] false⟩,
    ⟨(some 7), none, .call l_spec_aGraph [(.val, (.t 3)), (.val, (.t 6))] false⟩,
    ⟨none, none, .store 2 (.t 2) (.t 7)⟩] [2] []
def if_spec_goodGraph : IFun := ⟨[.c 2 2 true], [], (.seq ic_spec_goodGraph_r0 (.seq ic_spec_goodGraph_r1 .ret))⟩

def ic_spec_hasEdge_r0 : IC := .reg [
    ⟨(some 3), none, .box (.t 0)⟩,
    ⟨(some 6), none, .asg (.c (.bool false))⟩] [1, 2, 3] []
def ic_spec_hasEdge_r1 : IC := .reg [
    ⟨(some 7), none, .asg (.c (vi 0))⟩] [1, 2, 3, 7] []
def ic_spec_hasEdge_r2 : IC := .reg [
    ⟨(some 9), none, .mv (.t 7)⟩,
    ⟨(some 10), none, .fadr 1 (.t 3)⟩,
    ⟨(some 11), none, .load false 1 (.t 10)⟩,
    ⟨(some 12), none, .len (.t 11)⟩,
    ⟨(some 13), none, .bin .lss (.t 9) (.t 12)⟩] [1, 2, 3, 7, 13] []
def ic_spec_hasEdge_r3 : IC := .reg [
    ⟨(some 16), none, .fadr 1 (.t 3)⟩,
    ⟨(some 17), none, .load false 1 (.t 16)⟩,
    ⟨(some 18), none, .mv (.t 7)⟩,
    ⟨(some 19), none, .iadr 2 (.t 17) (.t 18)⟩,
    ⟨(some 20), none, .load true 2 (.t 19)⟩,
    ⟨(some 8), none, .alloc [(vi 0), (vi 0)]⟩,
    ⟨none, none, .store 2 (.t 8) (.t 20)⟩] [1, 2, 3, 7, 8] []
def ic_spec_hasEdge_r4 : IC := .reg [
    ⟨(some 21), none, .fadr 0 (.t 8)⟩,
    ⟨(some 22), none, .load false 1 (.t 21)⟩,
    ⟨(some 23), none, .mv (.t 1)⟩,
    ⟨(some 24), none, .bin .eql (.t 22) (.t 23)⟩,
    ⟨(some 25), none, .asg (.t 24)⟩,
    ⟨(some 26), (some (25, true)), .fadr 1 (.t 8)⟩,
    ⟨(some 27), (some (25, true)), .load false 1 (.t 26)⟩,
    ⟨(some 28), (some (25, true)), .mv (.t 2)⟩,
    ⟨(some 29), (some (25, true)), .bin .eql (.t 27) (.t 28)⟩,
    ⟨(some 30), none, .pick (.t 25) (.t 29) (.c (.bool false))⟩,
    ⟨(some 31), none, .asg (.t 30)⟩,
    ⟨(some 32), (some (31, false)), .fadr 0 (.t 8)⟩,
    ⟨(some 33), (some (31, false)), .load false 1 (.t 32)⟩,
    ⟨(some 34), (some (31, false)), .mv (.t 2)⟩,
    ⟨(some 35), (some (31, false)), .bin .eql (.t 33) (.t 34)⟩,
    ⟨(some 36), (some (31, false)), .asg (.t 35)⟩,
    ⟨(some 37), (some (36, true)), .fadr 1 (.t 8)⟩,
    ⟨(some 38), (some (36, true)), .load false 1 (.t 37)⟩,
    ⟨(some 39), (some (36, true)), .mv (.t 1)⟩,
    ⟨(some 40), (some (36, true)), .bin .eql (.t 38) (.t 39)⟩,
    ⟨(some 41), (some (31, false)), .pick (.t 36) (.t 40) (.c (.bool false))⟩,
    ⟨(some 42), none, .pick (.t 31) (.c (.bool true)) (.t 41)⟩] [1, 2, 3, 7, 42] []
def ic_spec_hasEdge_r5 : IC := .reg [
    ⟨(some 6), none, .asg (.c (.bool true))⟩] [6] []
def ic_spec_hasEdge_r6 : IC := .reg [
    ⟨(some 14), none, .mv (.t 7)⟩,
    ⟨(some 15), none, .bin .add (.t 14) (.c (vi 1))⟩,
    ⟨(some 7), none, .asg (.t 15)⟩] [1, 2, 3, 7] []
def ic_spec_hasEdge_l7 : IC := (.seq (.seq ic_spec_hasEdge_r2 (.cond (.t 13) .skip (.exit 0))) (.seq (.block 1 (.seq ic_spec_hasEdge_r3 (.seq ic_spec_hasEdge_r4 (.cond (.t 42) (.seq ic_spec_hasEdge_r5 .ret) .skip)))) ic_spec_hasEdge_r6))
def ic_spec_hasEdge_r8 : IC := .reg [
    ⟨(some 6), none, .asg (.c (.bool false))⟩] [6] []
def if_spec_hasEdge : IFun := ⟨[.t 6], [], (.seq ic_spec_hasEdge_r0 (.seq (.seq ic_spec_hasEdge_r1 (.block 0 (.loop ic_spec_hasEdge_l7))) (.seq ic_spec_hasEdge_r8 .ret)))⟩

def ic_spec_inRange_r0 : IC := .reg [
    ⟨(some 6), none, .asg (.c (.bool false))⟩] [0, 1, 2] []
def ic_spec_inRange_r1 : IC := .reg [
    ⟨(some 7), none, .mv (.t 1)⟩,
    ⟨(some 8), none, .mv (.t 0)⟩,
    ⟨(some 9), none, .bin .leq (.t 7) (.t 8)⟩,
    ⟨(some 10), none, .asg (.t 9)⟩,
    ⟨(some 11), (some (10, true)), .mv (.t 0)⟩,
    ⟨(some 12), (some (10, true)), .mv (.t 2)⟩,
    ⟨(some 13), (some (10, true)), .bin .leq (.t 11) (.t 12)⟩,
    ⟨(some 14), none, .pick (.t 10) (.t 13) (.c (.bool false))⟩,
    ⟨(some 6), none, .asg (.t 14)⟩] [6] []
def if_spec_inRange : IFun := ⟨[.t 6], [], (.seq ic_spec_inRange_r0 (.seq ic_spec_inRange_r1 .ret))⟩

def ic_spec_maySwitch_r0 : IC := .reg [
    ⟨(some 2), none, .box (.t 0)⟩,
    ⟨(some 3), none, .box (.t 1)⟩,
    ⟨(some 4), none, .asg (.c (.bool false))⟩] [2, 3] []
def ic_spec_maySwitch_r1 : IC := .reg [
    ⟨(some 5), none, .fadr 0 (.t 3)⟩,
    ⟨(some 6), none, .load false 1 (.t 5)⟩,
    ⟨(some 7), none, .fadr 2 (.t 3)⟩,
    ⟨(some 8), none, .load false 1 (.t 7)⟩,
    ⟨(some 9), none, .bin .neq (.t 6) (.t 8)⟩,
    ⟨(some 10), none, .asg (.t 9)⟩,
    ⟨(some 11), (some (10, true)), .fadr 1 (.t 3)⟩,
    ⟨(some 12), (some (10, true)), .load false 1 (.t 11)⟩,
    ⟨(some 13), (some (10, true)), .fadr 3 (.t 3)⟩,
    ⟨(some 14), (some (10, true)), .load false 1 (.t 13)⟩,
    ⟨(some 15), (some (10, true)), .bin .neq (.t 12) (.t 14)⟩,
    ⟨(some 16), none, .pick (.t 10) (.t 15) (.c (.bool false))⟩,
    ⟨(some 17), none, .asg (.t 16)⟩,
    ⟨(some 18), (some (17, true)), .fadr 0 (.t 3)⟩,
    ⟨(some 19), (some (17, true)), .load false 1 (.t 18)⟩,
    ⟨(some 20), (some (17, true)), .fadr 3 (.t 3)⟩,
    ⟨(some 21), (some (17, true)), .load false 1 (.t 20)⟩,
    ⟨(some 22), (some (17, true)), .bin .neq (.t 19) (.t 21)⟩,
    ⟨(some 23), none, .pick (.t 17) (.t 22) (.c (.bool false))⟩,
    ⟨(some 24), none, .asg (.t 23)⟩,
    ⟨(some 25), (some (24, true)), .fadr 1 (.t 3)⟩,
    ⟨(some 26), (some (24, true)), .load false 1 (.t 25)⟩,
    ⟨(some 27), (some (24, true)), .fadr 2 (.t 3)⟩,
    ⟨(some 28), (some (24, true)), .load false 1 (.t 27)⟩,
    ⟨(some 29), (some (24, true)), .bin .neq (.t 26) (.t 28)⟩,
    ⟨(some 30), none, .pick (.t 24) (.t 29) (.c (.bool false))⟩,
    ⟨(some 31), none, .asg (.t 30)⟩,
    ⟨(some 32), (some (31, true)), .load true 2 (.t 2)⟩,
    ⟨(some 33), (some (31, true)), .fadr 0 (.t 3)⟩,
    ⟨(some 34), (some (31, true)), .load false 1 (.t 33)⟩,
    ⟨(some 35), (some (31, true)), .fadr 1 (.t 3)⟩,
    ⟨(some 36), (some (31, true)), .load false 1 (.t 35)⟩,
    ⟨(some 37), (some (31, true)), .call l_spec_hasEdge [(.rd, (.t 32)), (.val, (.t 34)), (.val, (.t 36))] true⟩,
    ⟨(some 38), none, .pick (.t 31) (.t 37) (.c (.bool false))⟩,
    ⟨(some 39), none, .asg (.t 38)⟩,
    ⟨(some 40), (some (39, true)), .load true 2 (.t 2)⟩,
    ⟨(some 41), (some (39, true)), .fadr 2 (.t 3)⟩,
    ⟨(some 42), (some (39, true)), .load false 1 (.t 41)⟩,
    ⟨(some 43), (some (39, true)), .fadr 3 (.t 3)⟩,
    ⟨(some 44), (some (39, true)), .load false 1 (.t 43)⟩,
    ⟨(some 45), (some (39, true)), .call l_spec_hasEdge [(.rd, (.t 40)), (.val, (.t 42)), (.val, (.t 44))] true⟩,
    ⟨(some 46), none, .pick (.t 39) (.t 45) (.c (.bool false))⟩,
    ⟨(some 47), none, .asg (.t 46)⟩,
    ⟨(some 48), (some (47, true)), .load true 2 (.t 2)⟩,
    ⟨(some 49), (some (47, true)), .fadr 0 (.t 3)⟩,
    ⟨(some 50), (some (47, true)), .load false 1 (.t 49)⟩,
    ⟨(some 51), (some (47, true)), .fadr 2 (.t 3)⟩,
    ⟨(some 52), (some (47, true)), .load false 1 (.t 51)⟩,
    ⟨(some 53), (some (47, true)), .call l_spec_hasEdge [(.rd, (.t 48)), (.val, (.t 50)), (.val, (.t 52))] true⟩,
    ⟨(some 54), (some (47, true)), .unop .not (.t 53)⟩,
    ⟨(some 55), none, .pick (.t 47) (.t 54) (.c (.bool false))⟩,
    ⟨(some 56), none, .asg (.t 55)⟩,
    ⟨(some 57), (some (56, true)), .load true 2 (.t 2)⟩,
    ⟨(some 58), (some (56, true)), .fadr 1 (.t 3)⟩,
    ⟨(some 59), (some (56, true)), .load false 1 (.t 58)⟩,
    ⟨(some 60), (some (56, true)), .fadr 3 (.t 3)⟩,
    ⟨(some 61), (some (56, true)), .load false 1 (.t 60)⟩,
    ⟨(some 62), (some (56, true)), .call l_spec_hasEdge [(.rd, (.t 57)), (.val, (.t 59)), (.val, (.t 61))] true⟩,
    ⟨(some 63), (some (56, true)), .unop .not (.t 62)⟩,
    ⟨(some 64), none, .pick (.t 56) (.t 63) (.c (.bool false))⟩,
    ⟨(some 4), none, .asg (.t 64)⟩] [4] []
def if_spec_maySwitch : IFun := ⟨[.t 4], [], (.seq ic_spec_maySwitch_r0 (.seq ic_spec_maySwitch_r1 .ret))⟩

def ic_spec_newReader_r0 : IC := .reg [
    ⟨(some 2), none, .asg (.c (.pointer none))⟩] [0] []
def ic_spec_newReader_r1 : IC := .reg [
    ⟨(some 3), none, .mv (.t 0)⟩,
    ⟨(some 4), none, .len (.t 3)⟩,
    ⟨(some 5), none, .bin .gtr (.t 4) (.c (vi 2000))⟩] [0, 5] []
def ic_spec_newReader_r2 : IC := .reg [
    ⟨(some 6), none, .mv (.t 0)⟩,
    ⟨(some 7), none, .slc 1 (.t 6) none (some (.c (vi 2000))) none⟩,
    ⟨(some 0), none, .asgm (.t 7)⟩] [0] []
def ic_spec_newReader_r3 : IC := .reg [
    ⟨(some 8), none, .mv (.t 0)⟩,
    ⟨(some 9), none, .build [(.slice none 0 0), (vi 0)] [(0, 1, (.t 8))]⟩,
    ⟨(some 10), none, .box (.t 9)⟩,
    ⟨(some 2), none, .asg (.t 10)⟩] [2] []
def if_spec_newReader : IFun := ⟨[.t 2], [], (.seq ic_spec_newReader_r0 (.seq (.seq ic_spec_newReader_r1 (.cond (.t 5) ic_spec_newReader_r2 .skip)) (.seq ic_spec_newReader_r3 .ret)))⟩

def ic_spec_pairs_r0 : IC := .reg [
    ⟨(some 2), none, .asg (.c (.slice none 0 0))⟩] [0] []
def ic_spec_pairs_r1 : IC := .reg [
    ⟨(some 6), none, .bsl 2 [(vi 0), (vi 0)] 0 []⟩,
    ⟨(some 3), none, .asg (.t 6)⟩] [0, 3] []
def ic_spec_pairs_r2 : IC := .reg [
    ⟨(some 4), none, .asg (.c (vi 0))⟩] [0, 3, 4] []
def ic_spec_pairs_r3 : IC := .reg [
    ⟨(some 7), none, .mv (.t 4)⟩,
    ⟨(some 8), none, .mv (.t 0)⟩,
    ⟨(some 9), none, .bin .lss (.t 7) (.t 8)⟩] [0, 3, 4, 9] []
def ic_spec_pairs_r4 : IC := .reg [
    ⟨(some 12), none, .mv (.t 4)⟩,
    ⟨(some 13), none, .bin .add (.t 12) (.c (vi 1))⟩,
    ⟨(some 5), none, .asg (.t 13)⟩] [0, 3, 4, 5] []
def ic_spec_pairs_r5 : IC := .reg [
    ⟨(some 14), none, .mv (.t 5)⟩,
    ⟨(some 15), none, .mv (.t 0)⟩,
    ⟨(some 16), none, .bin .lss (.t 14) (.t 15)⟩] [0, 3, 4, 5, 16] []
def ic_spec_pairs_r6 : IC := .reg [
    ⟨(some 19), none, .mv (.t 3)⟩,
    ⟨(some 20), none, .mv (.t 4)⟩,
    ⟨(some 21), none, .mv (.t 5)⟩,
    ⟨(some 22), none, .build [(vi 0), (vi 0)] [(0, 1, (.t 20)), (1, 1, (.t 21))]⟩,
    ⟨(some 23), none, .bsl 2 [(vi 0), (vi 0)] 1 [(0, (.t 22))]⟩,
    ⟨(some 24), none, .app 2 (.t 19) (.t 23)⟩,
    ⟨(some 3), none, .asg (.t 24)⟩] [0, 3, 4, 5] []
def ic_spec_pairs_r7 : IC := .reg [
    ⟨(some 17), none, .mv (.t 5)⟩,
    ⟨(some 18), none, .bin .add (.t 17) (.c (vi 1))⟩,
    ⟨(some 5), none, .asg (.t 18)⟩] [0, 3, 4, 5] []
def ic_spec_pairs_l8 : IC := (.seq (.seq ic_spec_pairs_r5 (.cond (.t 16) .skip (.exit 2))) (.seq (.block 3 ic_spec_pairs_r6) ic_spec_pairs_r7))
def ic_spec_pairs_r9 : IC := .reg [
    ⟨(some 10), none, .mv (.t 4)⟩,
    ⟨(some 11), none, .bin .add (.t 10) (.c (vi 1))⟩,
    ⟨(some 4), none, .asg (.t 11)⟩] [0, 3, 4] []
def ic_spec_pairs_l10 : IC := (.seq (.seq ic_spec_pairs_r3 (.cond (.t 9) .skip (.exit 0))) (.seq (.block 1 (.seq ic_spec_pairs_r4 (.block 2 (.loop ic_spec_pairs_l8)))) ic_spec_pairs_r9))
def ic_spec_pairs_r11 : IC := .reg [
    ⟨(some 25), none, .mv (.t 3)⟩,
    ⟨(some 2), none, .asgm (.t 25)⟩] [2, 3] []
def if_spec_pairs : IFun := ⟨[.t 2], [], (.seq ic_spec_pairs_r0 (.seq ic_spec_pairs_r1 (.seq (.seq ic_spec_pairs_r2 (.block 0 (.loop ic_spec_pairs_l10))) (.seq ic_spec_pairs_r11 .ret))))⟩

def ic_spec_reader_one_r0 : IC := .reg [
    ⟨(some 4), none, .asg (.c (vi 0))⟩] [0, 1] []
def ic_spec_reader_one_r1 : IC := .reg [
    ⟨(some 5), none, .mv (.t 1)⟩,
    ⟨(some 6), none, .mv (.t 0)⟩,
    ⟨(some 7), none, .mv (.t 1)⟩,
    ⟨(some 8), none, .len (.t 7)⟩,
    ⟨(some 9), none, .call l_spec_reader_pick [(.val, (.t 6)), (.val, (.t 8))] false⟩,
    ⟨(some 10), none, .iadr 1 (.t 5) (.t 9)⟩,
    ⟨(some 11), none, .load false 1 (.t 10)⟩,
    ⟨(some 4), none, .asg (.t 11)⟩] [4] []
def if_spec_reader_one : IFun := ⟨[.t 4], [], (.seq ic_spec_reader_one_r0 (.seq ic_spec_reader_one_r1 .ret))⟩

def ic_spec_reader_pick_r0 : IC := .reg [
    ⟨(some 4), none, .asg (.c (vi 0))⟩] [0, 1] []
def ic_spec_reader_pick_r1 : IC := .reg [
    ⟨(some 7), none, .mv (.t 0)⟩,
    ⟨(some 8), none, .mv (.t 0)⟩,
    ⟨(some 9), none, .nilck (.t 8)⟩,
    ⟨(some 10), none, .fadr 1 (.t 9)⟩,
    ⟨(some 11), none, .load false 1 (.t 10)⟩,
    ⟨(some 12), none, .bin .add (.t 11) (.c (vi 1))⟩,
    ⟨(some 13), none, .nilck (.t 7)⟩,
    ⟨(some 14), none, .fadr 1 (.t 13)⟩,
    ⟨none, none, .store 1 (.t 14) (.t 12)⟩] [0, 1] []
def ic_spec_reader_pick_r2 : IC := .reg [
    ⟨(some 15), none, .mv (.t 1)⟩,
    ⟨(some 16), none, .bin .lss (.t 15) (.c (vi 1))⟩,
    ⟨(some 17), none, .asg (.t 16)⟩,
    ⟨(some 18), (some (17, false)), .mv (.t 0)⟩,
    ⟨(some 19), (some (17, false)), .nilck (.t 18)⟩,
    ⟨(some 20), (some (17, false)), .fadr 0 (.t 19)⟩,
    ⟨(some 21), (some (17, false)), .load false 1 (.t 20)⟩,
    ⟨(some 22), (some (17, false)), .len (.t 21)⟩,
    ⟨(some 23), (some (17, false)), .bin .eql (.t 22) (.c (vi 0))⟩,
    ⟨(some 24), none, .pick (.t 17) (.c (.bool true)) (.t 23)⟩] [0, 1, 24] []
def ic_spec_reader_pick_r3 : IC := .reg [
    ⟨(some 4), none, .asg (.c (vi 0))⟩] [4] []
def ic_spec_reader_pick_r4 : IC := .reg [
    ⟨(some 25), none, .mv (.t 0)⟩,
    ⟨(some 26), none, .nilck (.t 25)⟩,
    ⟨(some 27), none, .fadr 1 (.t 26)⟩,
    ⟨(some 28), none, .load false 1 (.t 27)⟩,
    ⟨(some 29), none, .bin .sub (.t 28) (.c (vi 1))⟩,
    ⟨(some 5), none, .asg (.t 29)⟩] [0, 1, 5] []
def ic_spec_reader_pick_r5 : IC := .reg [
    ⟨(some 30), none, .mv (.t 5)⟩,
    ⟨(some 31), none, .mv (.t 0)⟩,
    ⟨(some 32), none, .nilck (.t 31)⟩,
    ⟨(some 33), none, .fadr 0 (.t 32)⟩,
    ⟨(some 34), none, .load false 1 (.t 33)⟩,
    ⟨(some 35), none, .len (.t 34)⟩,
    ⟨(some 36), none, .bin .lss (.t 30) (.t 35)⟩] [0, 1, 5, 36] []
def ic_spec_reader_pick_r6 : IC := .reg [
    ⟨(some 37), none, .mv (.t 0)⟩,
    ⟨(some 38), none, .nilck (.t 37)⟩,
    ⟨(some 39), none, .fadr 0 (.t 38)⟩,
    ⟨(some 40), none, .load false 1 (.t 39)⟩,
    ⟨(some 41), none, .mv (.t 5)⟩,
    ⟨(some 42), none, .iadr 1 (.t 40) (.t 41)⟩,
    ⟨(some 43), none, .load false 1 (.t 42)⟩,
    ⟨(some 44), none, .conv .i64 (.t 43)⟩,
    ⟨(some 45), none, .mv (.t 1)⟩,
    ⟨(some 46), none, .bin .rem (.t 44) (.t 45)⟩,
    ⟨(some 4), none, .asg (.t 46)⟩] [4] []
def ic_spec_reader_pick_r7 : IC := .reg [
    ⟨(some 47), none, .mv (.t 0)⟩,
    ⟨(some 48), none, .nilck (.t 47)⟩,
    ⟨(some 49), none, .fadr 0 (.t 48)⟩,
    ⟨(some 50), none, .load false 1 (.t 49)⟩,
    ⟨(some 51), none, .mv (.t 5)⟩,
    ⟨(some 52), none, .mv (.t 0)⟩,
    ⟨(some 53), none, .nilck (.t 52)⟩,
    ⟨(some 54), none, .fadr 0 (.t 53)⟩,
    ⟨(some 55), none, .load false 1 (.t 54)⟩,
    ⟨(some 56), none, .len (.t 55)⟩,
    ⟨(some 57), none, .bin .rem (.t 51) (.t 56)⟩,
    ⟨(some 58), none, .iadr 1 (.t 50) (.t 57)⟩,
    ⟨(some 59), none, .load false 1 (.t 58)⟩,
    ⟨(some 60), none, .conv .i64 (.t 59)⟩,
    ⟨(some 61), none, .bin .mul (.t 60) (.c (vi 131))⟩,
    ⟨(some 62), none, .mv (.t 0)⟩,
    ⟨(some 63), none, .nilck (.t 62)⟩,
    ⟨(some 64), none, .fadr 0 (.t 63)⟩,
    ⟨(some 65), none, .load false 1 (.t 64)⟩,
    ⟨(some 66), none, .mv (.t 5)⟩,
    ⟨(some 67), none, .bin .mul (.t 66) (.c (vi 7))⟩,
    ⟨(some 68), none, .bin .add (.t 67) (.c (vi 3))⟩,
    ⟨(some 69), none, .mv (.t 0)⟩,
    ⟨(some 70), none, .nilck (.t 69)⟩,
    ⟨(some 71), none, .fadr 0 (.t 70)⟩,
    ⟨(some 72), none, .load false 1 (.t 71)⟩,
    ⟨(some 73), none, .len (.t 72)⟩,
    ⟨(some 74), none, .bin .rem (.t 68) (.t 73)⟩,
    ⟨(some 75), none, .iadr 1 (.t 65) (.t 74)⟩,
    ⟨(some 76), none, .load false 1 (.t 75)⟩,
    ⟨(some 77), none, .conv .i64 (.t 76)⟩,
    ⟨(some 78), none, .bin .mul (.t 77) (.c (vi 1117))⟩,
    ⟨(some 79), none, .bin .add (.t 61) (.t 78)⟩,
    ⟨(some 80), none, .mv (.t 5)⟩,
    ⟨(some 81), none, .bin .mul (.t 80) (.c (vi 29))⟩,
    ⟨(some 82), none, .bin .add (.t 79) (.t 81)⟩,
    ⟨(some 83), none, .mv (.t 5)⟩,
    ⟨(some 84), none, .mv (.t 0)⟩,
    ⟨(some 85), none, .nilck (.t 84)⟩,
    ⟨(some 86), none, .fadr 0 (.t 85)⟩,
    ⟨(some 87), none, .load false 1 (.t 86)⟩,
    ⟨(some 88), none, .len (.t 87)⟩,
    ⟨(some 89), none, .bin .quo (.t 83) (.t 88)⟩,
    ⟨(some 90), none, .bin .mul (.t 89) (.c (vi 53))⟩,
    ⟨(some 91), none, .bin .add (.t 82) (.t 90)⟩,
    ⟨(some 6), none, .asg (.t 91)⟩] [1, 6] []
def ic_spec_reader_pick_r8 : IC := .reg [
    ⟨(some 92), none, .mv (.t 6)⟩,
    ⟨(some 93), none, .mv (.t 6)⟩,
    ⟨(some 94), none, .bin .quo (.t 93) (.c (vi 64))⟩,
    ⟨(some 95), none, .bin .xor (.t 92) (.t 94)⟩,
    ⟨(some 6), none, .asg (.t 95)⟩] [1, 6] []
def ic_spec_reader_pick_r9 : IC := .reg [
    ⟨(some 96), none, .mv (.t 6)⟩,
    ⟨(some 97), none, .mv (.t 1)⟩,
    ⟨(some 98), none, .bin .rem (.t 96) (.t 97)⟩,
    ⟨(some 4), none, .asg (.t 98)⟩] [4] []
def if_spec_reader_pick : IFun := ⟨[.t 4], [], (.seq ic_spec_reader_pick_r0 (.seq ic_spec_reader_pick_r1 (.seq (.seq ic_spec_reader_pick_r2 (.cond (.t 24) (.seq ic_spec_reader_pick_r3 .ret) .skip)) (.seq ic_spec_reader_pick_r4 (.seq (.seq ic_spec_reader_pick_r5 (.cond (.t 36) (.seq ic_spec_reader_pick_r6 .ret) .skip)) (.seq ic_spec_reader_pick_r7 (.seq ic_spec_reader_pick_r8 (.seq ic_spec_reader_pick_r9 .ret))))))))⟩

def ic_spec_someGraph_r0 : IC := .reg [
    ⟨(some 2), none, .alloc [(vi 0), (.slice none 0 0)]⟩] [0, 2] []
def ic_spec_someGraph_r1 : IC := .reg [
    ⟨(some 5), none, .mv (.t 0)⟩,
    ⟨(some 6), none, .callh l_spec_goodGraph [(.val, (.t 5))]⟩,
    ⟨(some 3), none, .alloc [(vi 0), (.slice none 0 0)]⟩,
    ⟨none, none, .store 2 (.t 3) (.t 6)⟩] [0, 2, 3] []
def ic_spec_someGraph_r2 : IC := .reg [
    ⟨(some 7), none, .fadr 1 (.t 3)⟩,
    ⟨(some 8), none, .load false 1 (.t 7)⟩,
    ⟨(some 9), none, .len (.t 8)⟩,
    ⟨(some 10), none, .bin .gtr (.t 9) (.c (vi 0))⟩] [0, 2, 3, 10] []
def ic_spec_someGraph_r3 : IC := .reg [
    ⟨(some 11), none, .mv (.t 0)⟩,
    ⟨(some 12), none, .fadr 1 (.t 3)⟩,
    ⟨(some 13), none, .load false 1 (.t 12)⟩,
    ⟨(some 14), none, .len (.t 13)⟩,
    ⟨(some 15), none, .callh l_spec_reader_pick [(.val, (.t 11)), (.val, (.t 14))]⟩,
    ⟨(some 4), none, .asg (.t 15)⟩] [0, 2, 3, 4] []
def ic_spec_someGraph_r4 : IC := .reg [
    ⟨(some 16), none, .mv (.t 0)⟩,
    ⟨(some 17), none, .callh l_spec_reader_pick [(.val, (.t 16)), (.val, (.c (vi 30)))]⟩] [0, 2, 3, 4, 17] []
def ic_spec_someGraph_r5 : IC := .reg [
    ⟨(some 19), none, .bin .eql (.t 17) (.c (vi 0))⟩,
    ⟨(some 18), none, .asg (.t 19)⟩] [0, 2, 3, 4, 17, 18] []
def ic_spec_someGraph_r6 : IC := .reg [
    ⟨(some 20), none, .fadr 1 (.t 3)⟩,
    ⟨(some 21), none, .load false 1 (.t 20)⟩,
    ⟨(some 22), none, .mv (.t 4)⟩,
    ⟨(some 23), none, .mv (.t 0)⟩,
    ⟨(some 24), none, .fadr 1 (.t 3)⟩,
    ⟨(some 25), none, .load false 1 (.t 24)⟩,
    ⟨(some 26), none, .mv (.t 4)⟩,
    ⟨(some 27), none, .iadr 2 (.t 25) (.t 26)⟩,
    ⟨(some 28), none, .fadr 1 (.t 27)⟩,
    ⟨(some 29), none, .load false 1 (.t 28)⟩,
    ⟨(some 30), none, .bsl 1 [(vi 0)] 3 [(0, (.c (vi (-1)))), (1, (.c (vi 7))), (2, (.t 29))]⟩,
    ⟨(some 31), none, .callh l_spec_reader_one [(.val, (.t 23)), (.rd, (.t 30))]⟩,
    ⟨(some 32), none, .iadr 2 (.t 21) (.t 22)⟩,
    ⟨(some 33), none, .fadr 0 (.t 32)⟩,
    ⟨none, none, .store 1 (.t 33) (.t 31)⟩] [2, 3] [[0, 2, 3, 4, 5, 6, 7, 8, 9, 10, 1, 11, 12, 13, 14], [0, 2, 3, 4, 5, 6, 7, 8, 9, 10, 11, 1, 12, 13, 14]]
def ic_spec_someGraph_r7 : IC := .reg [
    ⟨(some 35), none, .bin .eql (.t 17) (.c (vi 1))⟩,
    ⟨(some 34), none, .asg (.t 35)⟩] [0, 2, 3, 4, 17, 34] []
def ic_spec_someGraph_r8 : IC := .reg [
    ⟨(some 36), none, .fadr 1 (.t 3)⟩,
    ⟨(some 37), none, .load false 1 (.t 36)⟩,
    ⟨(some 38), none, .fadr 1 (.t 3)⟩,
    ⟨(some 39), none, .load false 1 (.t 38)⟩,
    ⟨(some 40), none, .mv (.t 4)⟩,
    ⟨(some 41), none, .iadr 2 (.t 39) (.t 40)⟩,
    ⟨(some 42), none, .load true 2 (.t 41)⟩,
    ⟨(some 43), none, .bsl 2 [(vi 0), (vi 0)] 1 [(0, (.t 42))]⟩,
    ⟨(some 44), none, .app 2 (.t 37) (.t 43)⟩,
    ⟨(some 45), none, .fadr 1 (.t 3)⟩,
    ⟨none, none, .store 1 (.t 45) (.t 44)⟩] [2, 3] [[0, 2, 3, 4, 5, 6, 7, 1, 8, 9, 10]]
def ic_spec_someGraph_r9 : IC := .reg [
    ⟨(some 47), none, .bin .eql (.t 17) (.c (vi 2))⟩,
    ⟨(some 46), none, .asg (.t 47)⟩] [0, 2, 3, 46] []
def ic_spec_someGraph_r10 : IC := .reg [
    ⟨(some 48), none, .mv (.t 0)⟩,
    ⟨(some 49), none, .bsl 1 [(vi 0)] 3 [(0, (.c (vi (-1)))), (1, (.c (vi 8))), (2, (.c (vi 2)))]⟩,
    ⟨(some 50), none, .callh l_spec_reader_one [(.val, (.t 48)), (.rd, (.t 49))]⟩,
    ⟨(some 51), none, .fadr 0 (.t 3)⟩,
    ⟨none, none, .store 1 (.t 51) (.t 50)⟩] [2, 3] []
def ic_spec_someGraph_r11 : IC := .reg [
    ⟨(some 52), none, .load true 2 (.t 3)⟩,
    ⟨none, none, .store 2 (.t 2) (.t 52)⟩] [2] []
def if_spec_someGraph : IFun := ⟨[.c 2 2 true], [], (.seq ic_spec_someGraph_r0 (.seq ic_spec_someGraph_r1 (.seq (.seq ic_spec_someGraph_r2 (.cond (.t 10) (.seq ic_spec_someGraph_r3 (.seq ic_spec_someGraph_r4 (.block 0 (.seq ic_spec_someGraph_r5 (.cond (.t 18) ic_spec_someGraph_r6 (.seq ic_spec_someGraph_r7 (.cond (.t 34) ic_spec_someGraph_r8 (.seq ic_spec_someGraph_r9 (.cond (.t 46) ic_spec_someGraph_r10 .skip))))))))) .skip)) (.seq ic_spec_someGraph_r11 .ret))))⟩

def ic_spec_switched_r0 : IC := .reg [
    ⟨(some 2), none, .box (.t 0)⟩,
    ⟨(some 3), none, .box (.t 1)⟩,
    ⟨(some 4), none, .alloc [(vi 0), (.slice none 0 0)]⟩] [2, 3, 4] []
def ic_spec_switched_r1 : IC := .regd [
    ⟨(some 5), none, .load true 2 (.t 2)⟩,
    ⟨(some 6), none, .fadr 0 (.t 3)⟩,
    ⟨(some 7), none, .load false 1 (.t 6)⟩,
    ⟨(some 8), none, .fadr 1 (.t 3)⟩,
    ⟨(some 9), none, .load false 1 (.t 8)⟩,
    ⟨(some 10), none, .callq l_spec_dropEdge [(.rv, (.t 5)), (.val, (.t 7)), (.val, (.t 9))]⟩,
    ⟨(some 11), none, .fadr 2 (.t 3)⟩,
    ⟨(some 12), none, .load false 1 (.t 11)⟩,
    ⟨(some 13), none, .fadr 3 (.t 3)⟩,
    ⟨(some 14), none, .load false 1 (.t 13)⟩,
    ⟨(some 15), none, .callq l_spec_dropEdge [(.rv, (.t 10)), (.val, (.t 12)), (.val, (.t 14))]⟩,
    ⟨(some 16), none, .fadr 0 (.t 3)⟩,
    ⟨(some 17), none, .load false 1 (.t 16)⟩,
    ⟨(some 18), none, .fadr 2 (.t 3)⟩,
    ⟨(some 19), none, .load false 1 (.t 18)⟩,
    ⟨(some 20), none, .callq l_spec_addEdge [(.rv, (.t 15)), (.val, (.t 17)), (.val, (.t 19))]⟩,
    ⟨(some 21), none, .fadr 1 (.t 3)⟩,
    ⟨(some 22), none, .load false 1 (.t 21)⟩,
    ⟨(some 23), none, .fadr 3 (.t 3)⟩,
    ⟨(some 24), none, .load false 1 (.t 23)⟩,
    ⟨(some 25), none, .callq l_spec_addEdge [(.rv, (.t 20)), (.val, (.t 22)), (.val, (.t 24))]⟩,
    ⟨none, none, .store 2 (.t 4) (.t 25)⟩] [0, 1, 2, 3, 4, 6, 7, 8, 9, 11, 12, 13, 14, 16, 17, 18, 19, 5, 10, 15, 20, 21] [4] []
def if_spec_switched : IFun := ⟨[.c 4 2 true], [], (.seq ic_spec_switched_r0 (.seq ic_spec_switched_r1 .ret))⟩

def ic_spec_switches_r0 : IC := .reg [
    ⟨(some 1), none, .box (.t 0)⟩,
    ⟨(some 2), none, .asg (.c (.slice none 0 0))⟩] [1] []
def ic_spec_switches_r1 : IC := .reg [
    ⟨(some 10), none, .bsl 4 [(vi 0), (vi 0), (vi 0), (vi 0)] 0 []⟩,
    ⟨(some 3), none, .asg (.t 10)⟩] [1, 3] []
def ic_spec_switches_r2 : IC := .reg [
    ⟨(some 4), none, .asg (.c (vi 0))⟩] [1, 3, 4] []
def ic_spec_switches_r3 : IC := .reg [
    ⟨(some 11), none, .mv (.t 4)⟩,
    ⟨(some 12), none, .fadr 1 (.t 1)⟩,
    ⟨(some 13), none, .load false 1 (.t 12)⟩,
    ⟨(some 14), none, .len (.t 13)⟩,
    ⟨(some 15), none, .bin .lss (.t 11) (.t 14)⟩] [1, 3, 4, 15] []
def ic_spec_switches_r4 : IC := .reg [
    ⟨(some 18), none, .mv (.t 4)⟩,
    ⟨(some 19), none, .bin .add (.t 18) (.c (vi 1))⟩,
    ⟨(some 5), none, .asg (.t 19)⟩] [1, 3, 4, 5] []
def ic_spec_switches_r5 : IC := .reg [
    ⟨(some 20), none, .mv (.t 5)⟩,
    ⟨(some 21), none, .fadr 1 (.t 1)⟩,
    ⟨(some 22), none, .load false 1 (.t 21)⟩,
    ⟨(some 23), none, .len (.t 22)⟩,
    ⟨(some 24), none, .bin .lss (.t 20) (.t 23)⟩] [1, 3, 4, 5, 24] []
def ic_spec_switches_r6 : IC := .reg [
    ⟨(some 27), none, .fadr 1 (.t 1)⟩,
    ⟨(some 28), none, .load false 1 (.t 27)⟩,
    ⟨(some 29), none, .mv (.t 4)⟩,
    ⟨(some 30), none, .iadr 2 (.t 28) (.t 29)⟩,
    ⟨(some 31), none, .load true 2 (.t 30)⟩,
    ⟨(some 6), none, .alloc [(vi 0), (vi 0)]⟩,
    ⟨none, none, .store 2 (.t 6) (.t 31)⟩] [1, 3, 4, 5, 6] []
def ic_spec_switches_r7 : IC := .reg [
    ⟨(some 32), none, .fadr 1 (.t 1)⟩,
    ⟨(some 33), none, .load false 1 (.t 32)⟩,
    ⟨(some 34), none, .mv (.t 5)⟩,
    ⟨(some 35), none, .iadr 2 (.t 33) (.t 34)⟩,
    ⟨(some 36), none, .load true 2 (.t 35)⟩,
    ⟨(some 7), none, .alloc [(vi 0), (vi 0)]⟩,
    ⟨none, none, .store 2 (.t 7) (.t 36)⟩] [1, 3, 4, 5, 6, 7] []
def ic_spec_switches_r8 : IC := .reg [
    ⟨(some 37), none, .fadr 0 (.t 6)⟩,
    ⟨(some 38), none, .load false 1 (.t 37)⟩,
    ⟨(some 39), none, .fadr 1 (.t 6)⟩,
    ⟨(some 40), none, .load false 1 (.t 39)⟩,
    ⟨(some 41), none, .fadr 0 (.t 7)⟩,
    ⟨(some 42), none, .load false 1 (.t 41)⟩,
    ⟨(some 43), none, .fadr 1 (.t 7)⟩,
    ⟨(some 44), none, .load false 1 (.t 43)⟩,
    ⟨(some 45), none, .build [(vi 0), (vi 0), (vi 0), (vi 0)] [(0, 1, (.t 38)), (1, 1, (.t 40)), (2, 1, (.t 42)), (3, 1, (.t 44))]⟩,
    ⟨(some 8), none, .alloc [(vi 0), (vi 0), (vi 0), (vi 0)]⟩,
    ⟨none, none, .store 4 (.t 8) (.t 45)⟩] [1, 3, 4, 5, 6, 7, 8] []
def ic_spec_switches_r9 : IC := .reg [
    ⟨(some 46), none, .fadr 0 (.t 6)⟩,
    ⟨(some 47), none, .load false 1 (.t 46)⟩,
    ⟨(some 48), none, .fadr 1 (.t 6)⟩,
    ⟨(some 49), none, .load false 1 (.t 48)⟩,
    ⟨(some 50), none, .fadr 1 (.t 7)⟩,
    ⟨(some 51), none, .load false 1 (.t 50)⟩,
    ⟨(some 52), none, .fadr 0 (.t 7)⟩,
    ⟨(some 53), none, .load false 1 (.t 52)⟩,
    ⟨(some 54), none, .build [(vi 0), (vi 0), (vi 0), (vi 0)] [(0, 1, (.t 47)), (1, 1, (.t 49)), (2, 1, (.t 51)), (3, 1, (.t 53))]⟩,
    ⟨(some 9), none, .alloc [(vi 0), (vi 0), (vi 0), (vi 0)]⟩,
    ⟨none, none, .store 4 (.t 9) (.t 54)⟩] [1, 3, 4, 5, 8, 9] []
def ic_spec_switches_r10 : IC := .reg [
    ⟨(some 55), none, .load true 2 (.t 1)⟩,
    ⟨(some 56), none, .load true 4 (.t 8)⟩,
    ⟨(some 57), none, .call l_spec_maySwitch [(.rd, (.t 55)), (.val, (.t 56))] true⟩] [1, 3, 4, 5, 8, 9, 57] []
def ic_spec_switches_r11 : IC := .reg [
    ⟨(some 58), none, .mv (.t 3)⟩,
    ⟨(some 59), none, .load true 4 (.t 8)⟩,
    ⟨(some 60), none, .bsl 4 [(vi 0), (vi 0), (vi 0), (vi 0)] 1 [(0, (.t 59))]⟩,
    ⟨(some 61), none, .app 4 (.t 58) (.t 60)⟩,
    ⟨(some 3), none, .asg (.t 61)⟩] [1, 3, 4, 5, 9] []
def ic_spec_switches_r12 : IC := .reg [
    ⟨(some 62), none, .load true 2 (.t 1)⟩,
    ⟨(some 63), none, .load true 4 (.t 9)⟩,
    ⟨(some 64), none, .call l_spec_maySwitch [(.rd, (.t 62)), (.val, (.t 63))] true⟩] [1, 3, 4, 5, 9, 64] []
def ic_spec_switches_r13 : IC := .reg [
    ⟨(some 65), none, .mv (.t 3)⟩,
    ⟨(some 66), none, .load true 4 (.t 9)⟩,
    ⟨(some 67), none, .bsl 4 [(vi 0), (vi 0), (vi 0), (vi 0)] 1 [(0, (.t 66))]⟩,
    ⟨(some 68), none, .app 4 (.t 65) (.t 67)⟩,
    ⟨(some 3), none, .asg (.t 68)⟩] [1, 3, 4, 5] []
def ic_spec_switches_r14 : IC := .reg [
    ⟨(some 25), none, .mv (.t 5)⟩,
    ⟨(some 26), none, .bin .add (.t 25) (.c (vi 1))⟩,
    ⟨(some 5), none, .asg (.t 26)⟩] [1, 3, 4, 5] []
def ic_spec_switches_l15 : IC := (.seq (.seq ic_spec_switches_r5 (.cond (.t 24) .skip (.exit 2))) (.seq (.block 3 (.seq ic_spec_switches_r6 (.seq ic_spec_switches_r7 (.seq ic_spec_switches_r8 (.seq ic_spec_switches_r9 (.seq (.seq ic_spec_switches_r10 (.cond (.t 57) ic_spec_switches_r11 .skip)) (.seq ic_spec_switches_r12 (.cond (.t 64) ic_spec_switches_r13 .skip)))))))) ic_spec_switches_r14))
def ic_spec_switches_r16 : IC := .reg [
    ⟨(some 16), none, .mv (.t 4)⟩,
    ⟨(some 17), none, .bin .add (.t 16) (.c (vi 1))⟩,
    ⟨(some 4), none, .asg (.t 17)⟩] [1, 3, 4] []
def ic_spec_switches_l17 : IC := (.seq (.seq ic_spec_switches_r3 (.cond (.t 15) .skip (.exit 0))) (.seq (.block 1 (.seq ic_spec_switches_r4 (.block 2 (.loop ic_spec_switches_l15)))) ic_spec_switches_r16))
def ic_spec_switches_r18 : IC := .reg [
    ⟨(some 69), none, .mv (.t 3)⟩,
    ⟨(some 2), none, .asgm (.t 69)⟩] [2, 3] []
def if_spec_switches : IFun := ⟨[.t 2], [], (.seq ic_spec_switches_r0 (.seq ic_spec_switches_r1 (.seq (.seq ic_spec_switches_r2 (.block 0 (.loop ic_spec_switches_l17))) (.seq ic_spec_switches_r18 .ret))))⟩

def ic_spec_validGraph_r0 : IC := .reg [
    ⟨(some 1), none, .box (.t 0)⟩,
    ⟨(some 2), none, .asg (.c (.bool false))⟩] [1] []
def ic_spec_validGraph_r1 : IC := .reg [
    ⟨(some 3), none, .asg (.c (vi 0))⟩] [1, 3] []
def ic_spec_validGraph_r2 : IC := .reg [
    ⟨(some 5), none, .mv (.t 3)⟩,
    ⟨(some 6), none, .fadr 1 (.t 1)⟩,
    ⟨(some 7), none, .load false 1 (.t 6)⟩,
    ⟨(some 8), none, .len (.t 7)⟩,
    ⟨(some 9), none, .bin .lss (.t 5) (.t 8)⟩] [1, 3, 9] []
def ic_spec_validGraph_r3 : IC := .reg [
    ⟨(some 12), none, .fadr 1 (.t 1)⟩,
    ⟨(some 13), none, .load false 1 (.t 12)⟩,
    ⟨(some 14), none, .mv (.t 3)⟩,
    ⟨(some 15), none, .iadr 2 (.t 13) (.t 14)⟩,
    ⟨(some 16), none, .load true 2 (.t 15)⟩,
    ⟨(some 4), none, .alloc [(vi 0), (vi 0)]⟩,
    ⟨none, none, .store 2 (.t 4) (.t 16)⟩] [1, 3, 4] []
def ic_spec_validGraph_r4 : IC := .reg [
    ⟨(some 17), none, .fadr 0 (.t 4)⟩,
    ⟨(some 18), none, .load false 1 (.t 17)⟩,
    ⟨(some 19), none, .bin .lss (.t 18) (.c (vi 0))⟩,
    ⟨(some 20), none, .asg (.t 19)⟩,
    ⟨(some 21), (some (20, false)), .fadr 0 (.t 4)⟩,
    ⟨(some 22), (some (20, false)), .load false 1 (.t 21)⟩,
    ⟨(some 23), (some (20, false)), .fadr 1 (.t 4)⟩,
    ⟨(some 24), (some (20, false)), .load false 1 (.t 23)⟩,
    ⟨(some 25), (some (20, false)), .bin .geq (.t 22) (.t 24)⟩,
    ⟨(some 26), none, .pick (.t 20) (.c (.bool true)) (.t 25)⟩,
    ⟨(some 27), none, .asg (.t 26)⟩,
    ⟨(some 28), (some (27, false)), .fadr 1 (.t 4)⟩,
    ⟨(some 29), (some (27, false)), .load false 1 (.t 28)⟩,
    ⟨(some 30), (some (27, false)), .fadr 0 (.t 1)⟩,
    ⟨(some 31), (some (27, false)), .load false 1 (.t 30)⟩,
    ⟨(some 32), (some (27, false)), .bin .geq (.t 29) (.t 31)⟩,
    ⟨(some 33), none, .pick (.t 27) (.c (.bool true)) (.t 32)⟩,
    ⟨(some 34), none, .asg (.t 33)⟩,
    ⟨(some 35), (some (34, false)), .mv (.t 3)⟩,
    ⟨(some 36), (some (34, false)), .bin .gtr (.t 35) (.c (vi 0))⟩,
    ⟨(some 37), (some (34, false)), .asg (.t 36)⟩,
    ⟨(some 38), (some (37, true)), .fadr 1 (.t 1)⟩,
    ⟨(some 39), (some (37, true)), .load false 1 (.t 38)⟩,
    ⟨(some 40), (some (37, true)), .mv (.t 3)⟩,
    ⟨(some 41), (some (37, true)), .bin .sub (.t 40) (.c (vi 1))⟩,
    ⟨(some 42), (some (37, true)), .iadr 2 (.t 39) (.t 41)⟩,
    ⟨(some 43), (some (37, true)), .load true 2 (.t 42)⟩,
    ⟨(some 44), (some (37, true)), .load true 2 (.t 4)⟩,
    ⟨(some 45), (some (37, true)), .call l_spec_edgeBelow [(.val, (.t 43)), (.val, (.t 44))] true⟩,
    ⟨(some 46), (some (37, true)), .unop .not (.t 45)⟩,
    ⟨(some 47), (some (34, false)), .pick (.t 37) (.t 46) (.c (.bool false))⟩,
    ⟨(some 48), none, .pick (.t 34) (.c (.bool true)) (.t 47)⟩] [1, 3, 48] []
def ic_spec_validGraph_r5 : IC := .reg [
    ⟨(some 2), none, .asg (.c (.bool false))⟩] [2] []
def ic_spec_validGraph_r6 : IC := .reg [
    ⟨(some 10), none, .mv (.t 3)⟩,
    ⟨(some 11), none, .bin .add (.t 10) (.c (vi 1))⟩,
    ⟨(some 3), none, .asg (.t 11)⟩] [1, 3] []
def ic_spec_validGraph_l7 : IC := (.seq (.seq ic_spec_validGraph_r2 (.cond (.t 9) .skip (.exit 0))) (.seq (.block 1 (.seq ic_spec_validGraph_r3 (.seq ic_spec_validGraph_r4 (.cond (.t 48) (.seq ic_spec_validGraph_r5 .ret) .skip)))) ic_spec_validGraph_r6))
def ic_spec_validGraph_r8 : IC := .reg [
    ⟨(some 49), none, .fadr 0 (.t 1)⟩,
    ⟨(some 50), none, .load false 1 (.t 49)⟩,
    ⟨(some 51), none, .call l_spec_inRange [(.val, (.t 50)), (.val, (.c (vi 0))), (.val, (.c (vi 7)))] true⟩,
    ⟨(some 2), none, .asg (.t 51)⟩] [2] []
def if_spec_validGraph : IFun := ⟨[.t 2], [], (.seq ic_spec_validGraph_r0 (.seq (.seq ic_spec_validGraph_r1 (.block 0 (.loop ic_spec_validGraph_l7))) (.seq ic_spec_validGraph_r8 .ret)))⟩

def tbl : List (Nat × IFun) := [(l_impl_DegreesOf, if_impl_DegreesOf), (l_impl_DifferenceOf, if_impl_DifferenceOf), (l_impl_Graph_change, if_impl_Graph_change), (l_impl_Graph_change_F1, if_impl_Graph_change_F1), (l_impl_Graph_degrees, if_impl_Graph_degrees), (l_impl_Graph_has, if_impl_Graph_has), (l_impl_SwitchEdges, if_impl_SwitchEdges), (l_impl_Switch_apart, if_impl_Switch_apart), (l_impl_ValidGraph, if_impl_ValidGraph), (l_impl_both, if_impl_both), (l_impl_clone_impl_Edge_, if_impl_clone_impl_Edge_), (l_impl_compareEdges, if_impl_compareEdges), (l_impl_edge, if_impl_edge), (l_impl_in, if_impl_in), (l_impl_made, if_impl_made), (l_impl_pairs, if_impl_pairs), (l_laws_FnSwitchEdges, if_laws_FnSwitchEdges), (l_laws_equalEdges, if_laws_equalEdges), (l_laws_equalGraph, if_laws_equalGraph), (l_laws_equalInts, if_laws_equalInts), (l_math_bits_Len, if_math_bits_Len), (l_math_bits_Len64, if_math_bits_Len64), (l_slices_Clip_Simpl_Edge_impl_Edge_, if_slices_Clip_Simpl_Edge_impl_Edge_), (l_slices_Clone_Simpl_Edge_impl_Edge_, if_slices_Clone_Simpl_Edge_impl_Edge_), (l_slices_Contains_Simpl_Edge_impl_Edge_, if_slices_Contains_Simpl_Edge_impl_Edge_), (l_slices_DeleteFunc_Simpl_Edge_impl_Edge_, if_slices_DeleteFunc_Simpl_Edge_impl_Edge_), (l_slices_IndexFunc_Simpl_Edge_impl_Edge__L, if_slices_IndexFunc_Simpl_Edge_impl_Edge__L), (l_slices_Index_Simpl_Edge_impl_Edge_, if_slices_Index_Simpl_Edge_impl_Edge_), (l_slices_SortFunc_Simpl_Edge_impl_Edge_, if_slices_SortFunc_Simpl_Edge_impl_Edge_), (l_slices_breakPatternsCmpFunc_impl_Edge_, if_slices_breakPatternsCmpFunc_impl_Edge_), (l_slices_choosePivotCmpFunc_impl_Edge__L, if_slices_choosePivotCmpFunc_impl_Edge__L), (l_slices_insertionSortCmpFunc_impl_Edge_, if_slices_insertionSortCmpFunc_impl_Edge_), (l_slices_medianCmpFunc_impl_Edge__L, if_slices_medianCmpFunc_impl_Edge__L), (l_slices_nextPowerOfTwo, if_slices_nextPowerOfTwo), (l_slices_order2CmpFunc_impl_Edge__L, if_slices_order2CmpFunc_impl_Edge__L), (l_slices_partialInsertionSortCmpFunc_impl_Edge_, if_slices_partialInsertionSortCmpFunc_impl_Edge_), (l_slices_partitionCmpFunc_impl_Edge_, if_slices_partitionCmpFunc_impl_Edge_), (l_slices_pdqsortCmpFunc_impl_Edge_, if_slices_pdqsortCmpFunc_impl_Edge_), (l_slices_xorshift_Next, if_slices_xorshift_Next), (l_spec_DrawSwitchEdges, if_spec_DrawSwitchEdges), (l_spec_SwitchEdges, if_spec_SwitchEdges), (l_spec_aGraph, if_spec_aGraph), (l_spec_aSwitch, if_spec_aSwitch), (l_spec_addEdge, if_spec_addEdge), (l_spec_complement, if_spec_complement), (l_spec_dropEdge, if_spec_dropEdge), (l_spec_edgeBelow, if_spec_edgeBelow), (l_spec_goodGraph, if_spec_goodGraph), (l_spec_hasEdge, if_spec_hasEdge), (l_spec_inRange, if_spec_inRange), (l_spec_maySwitch, if_spec_maySwitch), (l_spec_newReader, if_spec_newReader), (l_spec_pairs, if_spec_pairs), (l_spec_reader_one, if_spec_reader_one), (l_spec_reader_pick, if_spec_reader_pick), (l_spec_someGraph, if_spec_someGraph), (l_spec_switched, if_spec_switched), (l_spec_switches, if_spec_switches), (l_spec_validGraph, if_spec_validGraph)]
def tb : Tbl := tbOf tbl
theorem tb_impl_DegreesOf : tb l_impl_DegreesOf = some if_impl_DegreesOf := by kernel_rfl
theorem tb_impl_DifferenceOf : tb l_impl_DifferenceOf = some if_impl_DifferenceOf := by kernel_rfl
theorem tb_impl_Graph_change : tb l_impl_Graph_change = some if_impl_Graph_change := by kernel_rfl
theorem tb_impl_Graph_change_F1 : tb l_impl_Graph_change_F1 = some if_impl_Graph_change_F1 := by kernel_rfl
theorem tb_impl_Graph_degrees : tb l_impl_Graph_degrees = some if_impl_Graph_degrees := by kernel_rfl
theorem tb_impl_Graph_has : tb l_impl_Graph_has = some if_impl_Graph_has := by kernel_rfl
theorem tb_impl_SwitchEdges : tb l_impl_SwitchEdges = some if_impl_SwitchEdges := by kernel_rfl
theorem tb_impl_Switch_apart : tb l_impl_Switch_apart = some if_impl_Switch_apart := by kernel_rfl
theorem tb_impl_ValidGraph : tb l_impl_ValidGraph = some if_impl_ValidGraph := by kernel_rfl
theorem tb_impl_both : tb l_impl_both = some if_impl_both := by kernel_rfl
theorem tb_impl_clone_impl_Edge_ : tb l_impl_clone_impl_Edge_ = some if_impl_clone_impl_Edge_ := by kernel_rfl
theorem tb_impl_compareEdges : tb l_impl_compareEdges = some if_impl_compareEdges := by kernel_rfl
theorem tb_impl_edge : tb l_impl_edge = some if_impl_edge := by kernel_rfl
theorem tb_impl_in : tb l_impl_in = some if_impl_in := by kernel_rfl
theorem tb_impl_made : tb l_impl_made = some if_impl_made := by kernel_rfl
theorem tb_impl_pairs : tb l_impl_pairs = some if_impl_pairs := by kernel_rfl
theorem tb_laws_FnSwitchEdges : tb l_laws_FnSwitchEdges = some if_laws_FnSwitchEdges := by kernel_rfl
theorem tb_laws_equalEdges : tb l_laws_equalEdges = some if_laws_equalEdges := by kernel_rfl
theorem tb_laws_equalGraph : tb l_laws_equalGraph = some if_laws_equalGraph := by kernel_rfl
theorem tb_laws_equalInts : tb l_laws_equalInts = some if_laws_equalInts := by kernel_rfl
theorem tb_math_bits_Len : tb l_math_bits_Len = some if_math_bits_Len := by kernel_rfl
theorem tb_math_bits_Len64 : tb l_math_bits_Len64 = some if_math_bits_Len64 := by kernel_rfl
theorem tb_slices_Clip_Simpl_Edge_impl_Edge_ : tb l_slices_Clip_Simpl_Edge_impl_Edge_ = some if_slices_Clip_Simpl_Edge_impl_Edge_ := by kernel_rfl
theorem tb_slices_Clone_Simpl_Edge_impl_Edge_ : tb l_slices_Clone_Simpl_Edge_impl_Edge_ = some if_slices_Clone_Simpl_Edge_impl_Edge_ := by kernel_rfl
theorem tb_slices_Contains_Simpl_Edge_impl_Edge_ : tb l_slices_Contains_Simpl_Edge_impl_Edge_ = some if_slices_Contains_Simpl_Edge_impl_Edge_ := by kernel_rfl
theorem tb_slices_DeleteFunc_Simpl_Edge_impl_Edge_ : tb l_slices_DeleteFunc_Simpl_Edge_impl_Edge_ = some if_slices_DeleteFunc_Simpl_Edge_impl_Edge_ := by kernel_rfl
theorem tb_slices_IndexFunc_Simpl_Edge_impl_Edge__L : tb l_slices_IndexFunc_Simpl_Edge_impl_Edge__L = some if_slices_IndexFunc_Simpl_Edge_impl_Edge__L := by kernel_rfl
theorem tb_slices_Index_Simpl_Edge_impl_Edge_ : tb l_slices_Index_Simpl_Edge_impl_Edge_ = some if_slices_Index_Simpl_Edge_impl_Edge_ := by kernel_rfl
theorem tb_slices_SortFunc_Simpl_Edge_impl_Edge_ : tb l_slices_SortFunc_Simpl_Edge_impl_Edge_ = some if_slices_SortFunc_Simpl_Edge_impl_Edge_ := by kernel_rfl
theorem tb_slices_breakPatternsCmpFunc_impl_Edge_ : tb l_slices_breakPatternsCmpFunc_impl_Edge_ = some if_slices_breakPatternsCmpFunc_impl_Edge_ := by kernel_rfl
theorem tb_slices_choosePivotCmpFunc_impl_Edge__L : tb l_slices_choosePivotCmpFunc_impl_Edge__L = some if_slices_choosePivotCmpFunc_impl_Edge__L := by kernel_rfl
theorem tb_slices_insertionSortCmpFunc_impl_Edge_ : tb l_slices_insertionSortCmpFunc_impl_Edge_ = some if_slices_insertionSortCmpFunc_impl_Edge_ := by kernel_rfl
theorem tb_slices_medianCmpFunc_impl_Edge__L : tb l_slices_medianCmpFunc_impl_Edge__L = some if_slices_medianCmpFunc_impl_Edge__L := by kernel_rfl
theorem tb_slices_nextPowerOfTwo : tb l_slices_nextPowerOfTwo = some if_slices_nextPowerOfTwo := by kernel_rfl
theorem tb_slices_order2CmpFunc_impl_Edge__L : tb l_slices_order2CmpFunc_impl_Edge__L = some if_slices_order2CmpFunc_impl_Edge__L := by kernel_rfl
theorem tb_slices_partialInsertionSortCmpFunc_impl_Edge_ : tb l_slices_partialInsertionSortCmpFunc_impl_Edge_ = some if_slices_partialInsertionSortCmpFunc_impl_Edge_ := by kernel_rfl
theorem tb_slices_partitionCmpFunc_impl_Edge_ : tb l_slices_partitionCmpFunc_impl_Edge_ = some if_slices_partitionCmpFunc_impl_Edge_ := by kernel_rfl
theorem tb_slices_pdqsortCmpFunc_impl_Edge_ : tb l_slices_pdqsortCmpFunc_impl_Edge_ = some if_slices_pdqsortCmpFunc_impl_Edge_ := by kernel_rfl
theorem tb_slices_xorshift_Next : tb l_slices_xorshift_Next = some if_slices_xorshift_Next := by kernel_rfl
theorem tb_spec_DrawSwitchEdges : tb l_spec_DrawSwitchEdges = some if_spec_DrawSwitchEdges := by kernel_rfl
theorem tb_spec_SwitchEdges : tb l_spec_SwitchEdges = some if_spec_SwitchEdges := by kernel_rfl
theorem tb_spec_aGraph : tb l_spec_aGraph = some if_spec_aGraph := by kernel_rfl
theorem tb_spec_aSwitch : tb l_spec_aSwitch = some if_spec_aSwitch := by kernel_rfl
theorem tb_spec_addEdge : tb l_spec_addEdge = some if_spec_addEdge := by kernel_rfl
theorem tb_spec_complement : tb l_spec_complement = some if_spec_complement := by kernel_rfl
theorem tb_spec_dropEdge : tb l_spec_dropEdge = some if_spec_dropEdge := by kernel_rfl
theorem tb_spec_edgeBelow : tb l_spec_edgeBelow = some if_spec_edgeBelow := by kernel_rfl
theorem tb_spec_goodGraph : tb l_spec_goodGraph = some if_spec_goodGraph := by kernel_rfl
theorem tb_spec_hasEdge : tb l_spec_hasEdge = some if_spec_hasEdge := by kernel_rfl
theorem tb_spec_inRange : tb l_spec_inRange = some if_spec_inRange := by kernel_rfl
theorem tb_spec_maySwitch : tb l_spec_maySwitch = some if_spec_maySwitch := by kernel_rfl
theorem tb_spec_newReader : tb l_spec_newReader = some if_spec_newReader := by kernel_rfl
theorem tb_spec_pairs : tb l_spec_pairs = some if_spec_pairs := by kernel_rfl
theorem tb_spec_reader_one : tb l_spec_reader_one = some if_spec_reader_one := by kernel_rfl
theorem tb_spec_reader_pick : tb l_spec_reader_pick = some if_spec_reader_pick := by kernel_rfl
theorem tb_spec_someGraph : tb l_spec_someGraph = some if_spec_someGraph := by kernel_rfl
theorem tb_spec_switched : tb l_spec_switched = some if_spec_switched := by kernel_rfl
theorem tb_spec_switches : tb l_spec_switches = some if_spec_switches := by kernel_rfl
theorem tb_spec_validGraph : tb l_spec_validGraph = some if_spec_validGraph := by kernel_rfl
end Go.Idl

