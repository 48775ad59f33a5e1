/- Part 4 of a proof by an ideal interpreter of the code: its definitions and lemmas. Conditions: none. -/
import Derived.KernelRfl
import Derived.Test.YtkhdhbnklmfcdaaA3
set_option linter.all false
set_option linter.unusedVariables false
set_option linter.unusedSimpArgs false
namespace Go.Idl
open Go
abbrev vi (n : Int) : Value := .int .i64 n
abbrev l_cmp_Less_int_ : Lab := 2
abbrev l_cmp_isNaN_int_ : Lab := 4
abbrev l_impl_FirstFailing : Lab := 7
abbrev l_impl_FirstFailing_F1 : Lab := 8
abbrev l_impl_IsGraphic : Lab := 10
abbrev l_impl_SlacksOf : Lab := 18
abbrev l_impl_SlacksOf_F1 : Lab := 19
abbrev l_impl_ValidDegrees : Lab := 25
abbrev l_impl_ValidGraph : Lab := 26
abbrev l_impl_allIn : Lab := 29
abbrev l_impl_allIn_F1 : Lab := 30
abbrev l_impl_clone_int_ : Lab := 31
abbrev l_impl_compareEdges : Lab := 32
abbrev l_impl_each : Lab := 35
abbrev l_impl_falling : Lab := 37
abbrev l_impl_in : Lab := 38
abbrev l_impl_sum : Lab := 40
abbrev l_math_bits_Len : Lab := 66
abbrev l_math_bits_Len32 : Lab := 67
abbrev l_math_bits_Len64 : Lab := 68
abbrev l_slices_Clip_Sint_int_ : Lab := 70
abbrev l_slices_Clone_Sint_int_ : Lab := 71
abbrev l_slices_ContainsFunc_Sint_int_ : Lab := 72
abbrev l_slices_IndexFunc_Sint_int_ : Lab := 73
abbrev l_slices_Min_Sint_int_ : Lab := 75
abbrev l_slices_Reverse_Sint_int_ : Lab := 76
abbrev l_slices_Sort_Sint_int_ : Lab := 78
abbrev l_slices_breakPatternsOrdered_int_ : Lab := 80
abbrev l_slices_choosePivotOrdered_int_ : Lab := 82
abbrev l_slices_heapSortOrdered_int_ : Lab := 84
abbrev l_slices_insertionSortOrdered_int_ : Lab := 86
abbrev l_slices_partialInsertionSortOrdered_int_ : Lab := 95
abbrev l_slices_partitionEqualOrdered_int_ : Lab := 98
abbrev l_slices_partitionOrdered_int_ : Lab := 99
abbrev l_slices_pdqsortOrdered_int_ : Lab := 101
abbrev l_slices_reverseRangeOrdered_int_ : Lab := 103
abbrev l_spec_aGraph : Lab := 118
abbrev l_spec_bent : Lab := 121
abbrev l_spec_complement : Lab := 122
abbrev l_spec_degrees : Lab := 125
abbrev l_spec_edgeBelow : Lab := 126
abbrev l_spec_goodDegrees : Lab := 128
abbrev l_spec_goodGraph : Lab := 129
abbrev l_spec_hasEdge : Lab := 130
abbrev l_spec_hasInt : Lab := 131
abbrev l_spec_inRange : Lab := 132
abbrev l_spec_lifted : Lab := 135
abbrev l_spec_newReader : Lab := 137
abbrev l_spec_pairs : Lab := 138
abbrev l_spec_reader_one : Lab := 139
abbrev l_spec_reader_pick : Lab := 140
abbrev l_spec_someDegrees : Lab := 142
abbrev l_spec_validDegrees : Lab := 144
abbrev l_impl_AllRealizations : Lab := 147
abbrev l_impl_AllRealizations_F1 : Lab := 148
abbrev l_impl_CountTrees : Lab := 160
abbrev l_impl_Graph_components : Lab := 170
abbrev l_impl_Graph_roots : Lab := 172
abbrev l_impl_IsConnectable : Lab := 177
abbrev l_impl_IsConnected : Lab := 178
abbrev l_impl_IsTreeDegrees : Lab := 188
abbrev l_impl_clone_impl_Edge_ : Lab := 204
abbrev l_impl_factorial : Lab := 209
abbrev l_impl_indices : Lab := 212
abbrev l_impl_listed : Lab := 213
abbrev l_impl_pairs : Lab := 216
abbrev l_impl_subgraphs : Lab := 218
abbrev l_impl_subgraphs_F1 : Lab := 219
abbrev l_slices_Clip_SSint_Sint_ : Lab := 257
abbrev l_slices_Clip_Simpl_Edge_impl_Edge_ : Lab := 258
abbrev l_slices_Clip_Simpl_Graph_impl_Graph_ : Lab := 259
abbrev l_slices_Clone_Simpl_Edge_impl_Edge_ : Lab := 261
abbrev l_spec_DrawIsTreeDegrees : Lab := 309
abbrev l_spec_aTree : Lab := 334
abbrev l_spec_addEdge : Lab := 335
abbrev l_spec_codeTree : Lab := 341
abbrev l_spec_isTreeDegrees : Lab := 359
abbrev l_spec_smallest : Lab := 376
abbrev l_spec_sum : Lab := 382
abbrev l_laws_FnCountTrees : Lab := 467
abbrev l_spec_CountTrees : Lab := 482
abbrev l_spec_DrawCountTrees : Lab := 483
def ic_cmp_Less_int__r0 : IC := .reg [
    ⟨(some 4), none, .asg (.c (.bool false))⟩] [0, 1] []
def ic_cmp_Less_int__r1 : IC := .reg [
    ⟨(some 5), none, .mv (.t 0)⟩,
    ⟨(some 6), none, .call l_cmp_isNaN_int_ [(.val, (.t 5))] true⟩,
    ⟨(some 7), none, .asg (.t 6)⟩,
    ⟨(some 8), (some (7, true)), .mv (.t 1)⟩,
    ⟨(some 9), (some (7, true)), .call l_cmp_isNaN_int_ [(.val, (.t 8))] true⟩,
    ⟨(some 10), (some (7, true)), .unop .not (.t 9)⟩,
    ⟨(some 11), none, .pick (.t 7) (.t 10) (.c (.bool false))⟩,
    ⟨(some 12), none, .asg (.t 11)⟩,
    ⟨(some 13), (some (12, false)), .mv (.t 0)⟩,
    ⟨(some 14), (some (12, false)), .mv (.t 1)⟩,
    ⟨(some 15), (some (12, false)), .bin .lss (.t 13) (.t 14)⟩,
    ⟨(some 16), none, .pick (.t 12) (.c (.bool true)) (.t 15)⟩,
    ⟨(some 4), none, .asg (.t 16)⟩] [4] []
def if_cmp_Less_int_ : IFun := ⟨[.t 4], [], (.seq ic_cmp_Less_int__r0 (.seq ic_cmp_Less_int__r1 .ret))⟩

def ic_cmp_isNaN_int__r0 : IC := .reg [
    ⟨(some 2), none, .asg (.c (.bool false))⟩] [0] []
def ic_cmp_isNaN_int__r1 : IC := .reg [
    ⟨(some 3), none, .mv (.t 0)⟩,
    ⟨(some 4), none, .mv (.t 0)⟩,
    ⟨(some 5), none, .bin .neq (.t 3) (.t 4)⟩,
    ⟨(some 2), none, .asg (.t 5)⟩] [2] []
def if_cmp_isNaN_int_ : IFun := ⟨[.t 2], [], (.seq ic_cmp_isNaN_int__r0 (.seq ic_cmp_isNaN_int__r1 .ret))⟩

def ic_impl_AllRealizations_r0 : IC := .reg [
    ⟨(some 2), none, .asg (.c (.slice none 0 0))⟩] [0] []
def ic_impl_AllRealizations_r1 : IC := .reg [
    ⟨(some 4), none, .mv (.t 0)⟩,
    ⟨(some 5), none, .call l_impl_listed [(.rd, (.t 4)), (.val, (.c (vi 5)))] true⟩,
    ⟨(some 6), none, .unop .not (.t 5)⟩] [0, 6] []
def ic_impl_AllRealizations_r2 : IC := .reg [
    ⟨(some 2), none, .asg (.c (.slice none 0 0))⟩] [2] []
def ic_impl_AllRealizations_r3 : IC := .reg [
    ⟨(some 3), none, .alloc [(.slice none 0 0)]⟩] [0, 3] []
def ic_impl_AllRealizations_r4 : IC := .reg [
    ⟨(some 7), none, .mv (.t 0)⟩,
    ⟨(some 8), none, .len (.t 7)⟩,
    ⟨(some 9), none, .mv (.t 0)⟩,
    ⟨(some 10), none, .len (.t 9)⟩,
    ⟨(some 11), none, .call l_impl_pairs [(.val, (.t 10))] true⟩,
    ⟨(some 12), none, .mv (.t 0)⟩,
    ⟨(some 13), none, .mkfn l_impl_AllRealizations_F1 [(.t 3)]⟩,
    ⟨(some 14), none, .call l_impl_subgraphs [(.val, (.t 8)), (.rd, (.t 11)), (.rd, (.t 12)), (.val, (.t 13))] false⟩] [3] []
def ic_impl_AllRealizations_r5 : IC := .reg [
    ⟨(some 15), none, .load false 1 (.t 3)⟩,
    ⟨(some 16), none, .call l_slices_Clip_Simpl_Graph_impl_Graph_ [(.tk, (.t 15))] true⟩,
    ⟨(some 2), none, .asg (.t 16)⟩] [2] []
def if_impl_AllRealizations : IFun := ⟨[.t 2], [], (.seq ic_impl_AllRealizations_r0 (.seq (.seq ic_impl_AllRealizations_r1 (.cond (.t 6) (.seq ic_impl_AllRealizations_r2 .ret) .skip)) (.seq ic_impl_AllRealizations_r3 (.seq ic_impl_AllRealizations_r4 (.seq ic_impl_AllRealizations_r5 .ret)))))⟩

def ic_impl_AllRealizations_F1_r0 : IC := .reg [
    ⟨(some 2), none, .box (.t 0)⟩,
    ⟨(some 3), none, .asg (.c (.bool false))⟩] [1, 2] []
def ic_impl_AllRealizations_F1_r1 : IC := .reg [
    ⟨(some 4), none, .load false 1 (.t 1)⟩,
    ⟨(some 5), none, .load true 2 (.t 2)⟩,
    ⟨(some 6), none, .bsl 2 [(vi 0), (.slice none 0 0)] 1 [(0, (.t 5))]⟩,
    ⟨(some 7), none, .app 2 (.t 4) (.t 6)⟩,
    ⟨none, none, .store 1 (.t 1) (.t 7)⟩] [] []
def ic_impl_AllRealizations_F1_r2 : IC := .reg [
    ⟨(some 3), none, .asg (.c (.bool true))⟩] [3] []
def if_impl_AllRealizations_F1 : IFun := ⟨[.t 3], [], (.seq ic_impl_AllRealizations_F1_r0 (.seq ic_impl_AllRealizations_F1_r1 (.seq ic_impl_AllRealizations_F1_r2 .ret)))⟩

def ic_impl_CountTrees_r0 : IC := .reg [
    ⟨(some 2), none, .asg (.c (vi 0))⟩] [0] []
def ic_impl_CountTrees_r1 : IC := .reg [
    ⟨(some 7), none, .mv (.t 0)⟩,
    ⟨(some 8), none, .call l_impl_ValidDegrees [(.rd, (.t 7))] true⟩,
    ⟨(some 9), none, .unop .not (.t 8)⟩,
    ⟨(some 6), none, .asg (.t 9)⟩] [0, 6] []
def ic_impl_CountTrees_r2 : IC := .reg [
    ⟨(some 2), none, .asg (.c (vi (-1)))⟩] [2] []
def ic_impl_CountTrees_r3 : IC := .reg [
    ⟨(some 11), none, .mv (.t 0)⟩,
    ⟨(some 12), none, .call l_impl_IsTreeDegrees [(.rd, (.t 11))] true⟩,
    ⟨(some 13), none, .unop .not (.t 12)⟩,
    ⟨(some 10), none, .asg (.t 13)⟩] [0, 10] []
def ic_impl_CountTrees_r4 : IC := .reg [
    ⟨(some 2), none, .asg (.c (vi 0))⟩] [2] []
def ic_impl_CountTrees_r5 : IC := .reg [
    ⟨(some 14), none, .mv (.t 0)⟩,
    ⟨(some 15), none, .len (.t 14)⟩,
    ⟨(some 16), none, .bin .sub (.t 15) (.c (vi 2))⟩,
    ⟨(some 17), none, .call l_impl_factorial [(.val, (.t 16))] true⟩,
    ⟨(some 3), none, .asg (.t 17)⟩] [0, 3] []
def ic_impl_CountTrees_r6 : IC := .reg [
    ⟨(some 18), none, .mv (.t 0)⟩,
    ⟨(some 19), none, .len (.t 18)⟩,
    ⟨(some 20), none, .mv (.c (vi 0))⟩] [0, 3, 18, 19, 20] []
def ic_impl_CountTrees_r7 : IC := .reg [
    ⟨(some 21), none, .bin .lss (.t 20) (.t 19)⟩] [0, 3, 18, 19, 20, 21] []
def ic_impl_CountTrees_r8 : IC := .reg [
    ⟨(some 22), none, .iadr 1 (.t 18) (.t 20)⟩,
    ⟨(some 23), none, .load false 1 (.t 22)⟩,
    ⟨(some 5), none, .asg (.t 23)⟩] [0, 3, 5, 18, 19, 20] []
def ic_impl_CountTrees_r9 : IC := .reg [
    ⟨(some 24), none, .mv (.t 3)⟩,
    ⟨(some 25), none, .mv (.t 5)⟩,
    ⟨(some 26), none, .bin .sub (.t 25) (.c (vi 1))⟩,
    ⟨(some 27), none, .call l_impl_factorial [(.val, (.t 26))] true⟩,
    ⟨(some 28), none, .bin .quo (.t 24) (.t 27)⟩,
    ⟨(some 3), none, .asg (.t 28)⟩] [0, 3, 18, 19, 20] []
def ic_impl_CountTrees_r10 : IC := .reg [
    ⟨(some 29), none, .bin .add (.t 20) (.c (vi 1))⟩,
    ⟨(some 20), none, .asg (.t 29)⟩] [0, 3, 18, 19, 20] []
def ic_impl_CountTrees_l11 : IC := (.seq ic_impl_CountTrees_r7 (.seq (.cond (.t 21) .skip (.exit 1)) (.seq (.block 2 (.seq ic_impl_CountTrees_r8 ic_impl_CountTrees_r9)) ic_impl_CountTrees_r10)))
def ic_impl_CountTrees_r12 : IC := .reg [
    ⟨(some 30), none, .mv (.t 3)⟩,
    ⟨(some 2), none, .asgm (.t 30)⟩] [2] []
def if_impl_CountTrees : IFun := ⟨[.t 2], [], (.seq ic_impl_CountTrees_r0 (.seq (.block 0 (.seq ic_impl_CountTrees_r1 (.cond (.t 6) (.seq ic_impl_CountTrees_r2 .ret) (.seq ic_impl_CountTrees_r3 (.cond (.t 10) (.seq ic_impl_CountTrees_r4 .ret) .skip))))) (.seq ic_impl_CountTrees_r5 (.seq (.seq ic_impl_CountTrees_r6 (.block 1 (.loop ic_impl_CountTrees_l11))) (.seq ic_impl_CountTrees_r12 .ret)))))⟩

def ic_impl_FirstFailing_r0 : IC := .reg [
    ⟨(some 2), none, .asg (.c (vi 0))⟩] [0] []
def ic_impl_FirstFailing_r1 : IC := .reg [
    ⟨(some 3), none, .mv (.t 0)⟩,
    ⟨(some 4), none, .call l_impl_SlacksOf [(.rd, (.t 3))] true⟩,
    ⟨(some 5), none, .call l_slices_IndexFunc_Sint_int_ [(.rd, (.t 4)), (.val, (.f l_impl_FirstFailing_F1))] false⟩,
    ⟨(some 6), none, .bin .add (.t 5) (.c (vi 1))⟩,
    ⟨(some 2), none, .asg (.t 6)⟩] [2] []
def if_impl_FirstFailing : IFun := ⟨[.t 2], [], (.seq ic_impl_FirstFailing_r0 (.seq ic_impl_FirstFailing_r1 .ret))⟩

def ic_impl_FirstFailing_F1_r0 : IC := .reg [
    ⟨(some 2), none, .asg (.c (.bool false))⟩] [0] []
def ic_impl_FirstFailing_F1_r1 : IC := .reg [
    ⟨(some 3), none, .mv (.t 0)⟩,
    ⟨(some 4), none, .bin .lss (.t 3) (.c (vi 0))⟩,
    ⟨(some 2), none, .asg (.t 4)⟩] [2] []
def if_impl_FirstFailing_F1 : IFun := ⟨[.t 2], [], (.seq ic_impl_FirstFailing_F1_r0 (.seq ic_impl_FirstFailing_F1_r1 .ret))⟩

def ic_impl_Graph_components_r0 : IC := .reg [
    ⟨(some 1), none, .box (.t 0)⟩,
    ⟨(some 2), none, .asg (.c (.slice none 0 0))⟩] [1] []
def ic_impl_Graph_components_r1 : IC := .reg [
    ⟨(some 3), none, .asg (.c (.slice none 0 0))⟩] [1, 3] []
def ic_impl_Graph_components_r2 : IC := .reg [
    ⟨(some 9), none, .load true 2 (.t 1)⟩,
    ⟨(some 10), none, .call l_impl_Graph_roots [(.rd, (.t 9))] true⟩,
    ⟨(some 4), none, .asg (.t 10)⟩] [1, 3, 4] []
def ic_impl_Graph_components_r3 : IC := .reg [
    ⟨(some 11), none, .fadr 0 (.t 1)⟩,
    ⟨(some 12), none, .load false 1 (.t 11)⟩,
    ⟨(some 13), none, .mv (.c (vi 0))⟩] [3, 4, 12, 13] []
def ic_impl_Graph_components_r4 : IC := .reg [
    ⟨(some 14), none, .bin .lss (.t 13) (.t 12)⟩] [3, 4, 12, 13, 14] []
def ic_impl_Graph_components_r5 : IC := .reg [
    ⟨(some 15), none, .asg (.t 13)⟩,
    ⟨(some 5), none, .asg (.t 15)⟩] [3, 4, 5, 12, 13] []
def ic_impl_Graph_components_r6 : IC := .reg [
    ⟨(some 16), none, .mv (.t 4)⟩,
    ⟨(some 17), none, .mv (.t 5)⟩,
    ⟨(some 18), none, .iadr 1 (.t 16) (.t 17)⟩,
    ⟨(some 19), none, .load false 1 (.t 18)⟩,
    ⟨(some 20), none, .mv (.t 5)⟩,
    ⟨(some 21), none, .bin .neq (.t 19) (.t 20)⟩] [3, 4, 5, 12, 13, 21] []
def ic_impl_Graph_components_r7 : IC := .reg [
    ⟨(some 6), none, .asg (.c (.slice none 0 0))⟩] [3, 4, 5, 6, 12, 13] []
def ic_impl_Graph_components_r8 : IC := .reg [
    ⟨(some 22), none, .mv (.t 4)⟩,
    ⟨(some 23), none, .len (.t 22)⟩,
    ⟨(some 24), none, .mv (.c (vi 0))⟩] [3, 4, 5, 6, 12, 13, 22, 23, 24] []
def ic_impl_Graph_components_r9 : IC := .reg [
    ⟨(some 25), none, .bin .lss (.t 24) (.t 23)⟩] [3, 4, 5, 6, 12, 13, 22, 23, 24, 25] []
def ic_impl_Graph_components_r10 : IC := .reg [
    ⟨(some 26), none, .asg (.t 24)⟩,
    ⟨(some 27), none, .iadr 1 (.t 22) (.t 24)⟩,
    ⟨(some 28), none, .load false 1 (.t 27)⟩,
    ⟨(some 7), none, .asg (.t 26)⟩,
    ⟨(some 8), none, .asg (.t 28)⟩] [3, 4, 5, 6, 7, 8, 12, 13, 22, 23, 24] []
def ic_impl_Graph_components_r11 : IC := .reg [
    ⟨(some 29), none, .mv (.t 8)⟩,
    ⟨(some 30), none, .mv (.t 5)⟩,
    ⟨(some 31), none, .bin .eql (.t 29) (.t 30)⟩] [3, 4, 5, 6, 7, 12, 13, 22, 23, 24, 31] []
def ic_impl_Graph_components_r12 : IC := .reg [
    ⟨(some 32), none, .mv (.t 6)⟩,
    ⟨(some 33), none, .mv (.t 7)⟩,
    ⟨(some 34), none, .bsl 1 [(vi 0)] 1 [(0, (.t 33))]⟩,
    ⟨(some 35), none, .app 1 (.t 32) (.t 34)⟩,
    ⟨(some 6), none, .asg (.t 35)⟩] [3, 4, 5, 6, 12, 13, 22, 23, 24] []
def ic_impl_Graph_components_r13 : IC := .reg [
    ⟨(some 36), none, .bin .add (.t 24) (.c (vi 1))⟩,
    ⟨(some 24), none, .asg (.t 36)⟩] [3, 4, 5, 6, 12, 13, 22, 23, 24] []
def ic_impl_Graph_components_l14 : IC := (.seq ic_impl_Graph_components_r9 (.seq (.cond (.t 25) .skip (.exit 2)) (.seq (.block 3 (.seq ic_impl_Graph_components_r10 (.seq ic_impl_Graph_components_r11 (.cond (.t 31) ic_impl_Graph_components_r12 .skip)))) ic_impl_Graph_components_r13)))
def ic_impl_Graph_components_r15 : IC := .reg [
    ⟨(some 37), none, .mv (.t 3)⟩,
    ⟨(some 38), none, .mv (.t 6)⟩,
    ⟨(some 39), none, .call l_slices_Clip_Sint_int_ [(.tk, (.t 38))] true⟩,
    ⟨(some 40), none, .bsl 1 [(.slice none 0 0)] 1 [(0, (.t 39))]⟩,
    ⟨(some 41), none, .app 1 (.t 37) (.t 40)⟩,
    ⟨(some 3), none, .asg (.t 41)⟩] [3, 4, 12, 13] []
def ic_impl_Graph_components_r16 : IC := .reg [
    ⟨(some 42), none, .bin .add (.t 13) (.c (vi 1))⟩,
    ⟨(some 13), none, .asg (.t 42)⟩] [3, 4, 12, 13] []
def ic_impl_Graph_components_l17 : IC := (.seq ic_impl_Graph_components_r4 (.seq (.cond (.t 14) .skip (.exit 0)) (.seq (.block 1 (.seq ic_impl_Graph_components_r5 (.seq (.seq ic_impl_Graph_components_r6 (.cond (.t 21) (.exit 1) .skip)) (.seq ic_impl_Graph_components_r7 (.seq (.seq ic_impl_Graph_components_r8 (.block 2 (.loop ic_impl_Graph_components_l14))) ic_impl_Graph_components_r15))))) ic_impl_Graph_components_r16)))
def ic_impl_Graph_components_r18 : IC := .reg [
    ⟨(some 43), none, .mv (.t 3)⟩,
    ⟨(some 44), none, .call l_slices_Clip_SSint_Sint_ [(.tk, (.t 43))] true⟩,
    ⟨(some 2), none, .asg (.t 44)⟩] [2] []
def if_impl_Graph_components : IFun := ⟨[.t 2], [], (.seq ic_impl_Graph_components_r0 (.seq ic_impl_Graph_components_r1 (.seq ic_impl_Graph_components_r2 (.seq (.seq ic_impl_Graph_components_r3 (.block 0 (.loop ic_impl_Graph_components_l17))) (.seq ic_impl_Graph_components_r18 .ret)))))⟩

def ic_impl_Graph_roots_r0 : IC := .reg [
    ⟨(some 1), none, .box (.t 0)⟩,
    ⟨(some 2), none, .asg (.c (.slice none 0 0))⟩] [1] []
def ic_impl_Graph_roots_r1 : IC := .reg [
    ⟨(some 7), none, .fadr 0 (.t 1)⟩,
    ⟨(some 8), none, .load false 1 (.t 7)⟩,
    ⟨(some 9), none, .call l_impl_indices [(.val, (.t 8)), (.val, (.c (vi (-1))))] true⟩,
    ⟨(some 3), none, .asg (.t 9)⟩] [1, 3] []
def ic_impl_Graph_roots_r2 : IC := .reg [
    ⟨(some 10), none, .fadr 0 (.t 1)⟩,
    ⟨(some 11), none, .load false 1 (.t 10)⟩,
    ⟨(some 12), none, .mv (.c (vi 0))⟩] [1, 3, 11, 12] []
def ic_impl_Graph_roots_r3 : IC := .reg [
    ⟨(some 13), none, .bin .lss (.t 12) (.t 11)⟩] [1, 3, 11, 12, 13] []
def ic_impl_Graph_roots_r4 : IC := .reg [
    ⟨(some 14), none, .fadr 1 (.t 1)⟩,
    ⟨(some 15), none, .load false 1 (.t 14)⟩,
    ⟨(some 16), none, .len (.t 15)⟩,
    ⟨(some 17), none, .mv (.c (vi 0))⟩] [1, 3, 11, 12, 15, 16, 17] []
def ic_impl_Graph_roots_r5 : IC := .reg [
    ⟨(some 18), none, .bin .lss (.t 17) (.t 16)⟩] [1, 3, 11, 12, 15, 16, 17, 18] []
def ic_impl_Graph_roots_r6 : IC := .reg [
    ⟨(some 19), none, .iadr 2 (.t 15) (.t 17)⟩,
    ⟨(some 20), none, .load true 2 (.t 19)⟩,
    ⟨(some 5), none, .alloc [(vi 0), (vi 0)]⟩,
    ⟨none, none, .store 2 (.t 5) (.t 20)⟩] [1, 3, 5, 11, 12, 15, 16, 17] []
def ic_impl_Graph_roots_r7 : IC := .reg [
    ⟨(some 21), none, .mv (.t 3)⟩,
    ⟨(some 22), none, .fadr 0 (.t 5)⟩,
    ⟨(some 23), none, .load false 1 (.t 22)⟩,
    ⟨(some 24), none, .iadr 1 (.t 21) (.t 23)⟩,
    ⟨(some 25), none, .load false 1 (.t 24)⟩,
    ⟨(some 26), none, .mv (.t 3)⟩,
    ⟨(some 27), none, .fadr 1 (.t 5)⟩,
    ⟨(some 28), none, .load false 1 (.t 27)⟩,
    ⟨(some 29), none, .iadr 1 (.t 26) (.t 28)⟩,
    ⟨(some 30), none, .load false 1 (.t 29)⟩,
    ⟨(some 31), none, .minmax true (.t 25) (.t 30)⟩,
    ⟨(some 6), none, .asg (.t 31)⟩] [1, 3, 5, 6, 11, 12, 15, 16, 17] []
def ic_impl_Graph_roots_r8 : IC := .reg [
    ⟨(some 32), none, .mv (.t 3)⟩,
    ⟨(some 33), none, .fadr 0 (.t 5)⟩,
    ⟨(some 34), none, .load false 1 (.t 33)⟩,
    ⟨(some 35), none, .mv (.t 3)⟩,
    ⟨(some 36), none, .fadr 1 (.t 5)⟩,
    ⟨(some 37), none, .load false 1 (.t 36)⟩,
    ⟨(some 38), none, .mv (.t 6)⟩,
    ⟨(some 39), none, .mv (.t 6)⟩,
    ⟨(some 40), none, .iadr 1 (.t 32) (.t 34)⟩,
    ⟨none, none, .store 1 (.t 40) (.t 38)⟩,
    ⟨(some 41), none, .iadr 1 (.t 35) (.t 37)⟩,
    ⟨none, none, .store 1 (.t 41) (.t 39)⟩] [1, 3, 11, 12, 15, 16, 17] [[0, 1, 2, 3, 4, 6, 7, 8, 9, 5, 10, 11]]
def ic_impl_Graph_roots_r9 : IC := .reg [
    ⟨(some 42), none, .bin .add (.t 17) (.c (vi 1))⟩,
    ⟨(some 17), none, .asg (.t 42)⟩] [1, 3, 11, 12, 15, 16, 17] []
def ic_impl_Graph_roots_l10 : IC := (.seq ic_impl_Graph_roots_r5 (.seq (.cond (.t 18) .skip (.exit 2)) (.seq (.block 3 (.seq ic_impl_Graph_roots_r6 (.seq ic_impl_Graph_roots_r7 ic_impl_Graph_roots_r8))) ic_impl_Graph_roots_r9)))
def ic_impl_Graph_roots_r11 : IC := .reg [
    ⟨(some 43), none, .bin .add (.t 12) (.c (vi 1))⟩,
    ⟨(some 12), none, .asg (.t 43)⟩] [1, 3, 11, 12] []
def ic_impl_Graph_roots_l12 : IC := (.seq ic_impl_Graph_roots_r3 (.seq (.cond (.t 13) .skip (.exit 0)) (.seq (.block 1 (.seq ic_impl_Graph_roots_r4 (.block 2 (.loop ic_impl_Graph_roots_l10)))) ic_impl_Graph_roots_r11)))
def ic_impl_Graph_roots_r13 : IC := .reg [
    ⟨(some 44), none, .mv (.t 3)⟩,
    ⟨(some 2), none, .asgm (.t 44)⟩] [2, 3] []
def if_impl_Graph_roots : IFun := ⟨[.t 2], [], (.seq ic_impl_Graph_roots_r0 (.seq ic_impl_Graph_roots_r1 (.seq (.seq ic_impl_Graph_roots_r2 (.block 0 (.loop ic_impl_Graph_roots_l12))) (.seq ic_impl_Graph_roots_r13 .ret))))⟩

def ic_impl_IsConnectable_r0 : IC := .reg [
    ⟨(some 2), none, .asg (.c (.bool false))⟩] [0] []
def ic_impl_IsConnectable_r1 : IC := .reg [
    ⟨(some 4), none, .mv (.t 0)⟩,
    ⟨(some 5), none, .len (.t 4)⟩,
    ⟨(some 3), none, .asg (.t 5)⟩] [0, 3] []
def ic_impl_IsConnectable_r2 : IC := .reg [
    ⟨(some 6), none, .mv (.t 0)⟩,
    ⟨(some 7), none, .call l_impl_IsGraphic [(.rd, (.t 6))] true⟩,
    ⟨(some 8), none, .asg (.t 7)⟩,
    ⟨(some 9), (some (8, true)), .mv (.t 3)⟩,
    ⟨(some 10), (some (8, true)), .bin .gtr (.t 9) (.c (vi 0))⟩,
    ⟨(some 11), none, .pick (.t 8) (.t 10) (.c (.bool false))⟩,
    ⟨(some 12), none, .asg (.t 11)⟩,
    ⟨(some 13), (some (12, true)), .mv (.t 3)⟩,
    ⟨(some 14), (some (12, true)), .bin .eql (.t 13) (.c (vi 1))⟩,
    ⟨(some 15), (some (12, true)), .asg (.t 14)⟩,
    ⟨(some 16), (some (15, false)), .mv (.t 0)⟩,
    ⟨(some 17), (some (15, false)), .call l_slices_Min_Sint_int_ [(.rd, (.t 16))] true⟩,
    ⟨(some 18), (some (15, false)), .bin .gtr (.t 17) (.c (vi 0))⟩,
    ⟨(some 19), (some (12, true)), .pick (.t 15) (.c (.bool true)) (.t 18)⟩,
    ⟨(some 20), none, .pick (.t 12) (.t 19) (.c (.bool false))⟩,
    ⟨(some 21), none, .asg (.t 20)⟩,
    ⟨(some 22), (some (21, true)), .mv (.t 0)⟩,
    ⟨(some 23), (some (21, true)), .call l_impl_sum [(.rd, (.t 22))] true⟩,
    ⟨(some 24), (some (21, true)), .mv (.t 3)⟩,
    ⟨(some 25), (some (21, true)), .bin .mul (.c (vi 2)) (.t 24)⟩,
    ⟨(some 26), (some (21, true)), .bin .sub (.t 25) (.c (vi 2))⟩,
    ⟨(some 27), (some (21, true)), .bin .geq (.t 23) (.t 26)⟩,
    ⟨(some 28), none, .pick (.t 21) (.t 27) (.c (.bool false))⟩,
    ⟨(some 2), none, .asg (.t 28)⟩] [2] []
def if_impl_IsConnectable : IFun := ⟨[.t 2], [], (.seq ic_impl_IsConnectable_r0 (.seq ic_impl_IsConnectable_r1 (.seq ic_impl_IsConnectable_r2 .ret)))⟩

def ic_impl_IsConnected_r0 : IC := .reg [
    ⟨(some 1), none, .box (.t 0)⟩,
    ⟨(some 2), none, .asg (.c (.bool false))⟩] [1] []
def ic_impl_IsConnected_r1 : IC := .reg [
    ⟨(some 3), none, .load true 2 (.t 1)⟩,
    ⟨(some 4), none, .call l_impl_ValidGraph [(.rd, (.t 3))] true⟩,
    ⟨(some 5), none, .asg (.t 4)⟩,
    ⟨(some 6), (some (5, true)), .load true 2 (.t 1)⟩,
    ⟨(some 7), (some (5, true)), .call l_impl_Graph_components [(.rd, (.t 6))] true⟩,
    ⟨(some 8), (some (5, true)), .len (.t 7)⟩,
    ⟨(some 9), (some (5, true)), .bin .eql (.t 8) (.c (vi 1))⟩,
    ⟨(some 10), none, .pick (.t 5) (.t 9) (.c (.bool false))⟩,
    ⟨(some 2), none, .asg (.t 10)⟩] [2] []
def if_impl_IsConnected : IFun := ⟨[.t 2], [], (.seq ic_impl_IsConnected_r0 (.seq ic_impl_IsConnected_r1 .ret))⟩

def ic_impl_IsGraphic_r0 : IC := .reg [
    ⟨(some 2), none, .asg (.c (.bool false))⟩] [0] []
def ic_impl_IsGraphic_r1 : IC := .reg [
    ⟨(some 3), none, .mv (.t 0)⟩,
    ⟨(some 4), none, .call l_impl_ValidDegrees [(.rd, (.t 3))] true⟩,
    ⟨(some 5), none, .asg (.t 4)⟩,
    ⟨(some 6), (some (5, true)), .mv (.t 0)⟩,
    ⟨(some 7), (some (5, true)), .call l_impl_sum [(.rd, (.t 6))] true⟩,
    ⟨(some 8), (some (5, true)), .bin .rem (.t 7) (.c (vi 2))⟩,
    ⟨(some 9), (some (5, true)), .bin .eql (.t 8) (.c (vi 0))⟩,
    ⟨(some 10), none, .pick (.t 5) (.t 9) (.c (.bool false))⟩,
    ⟨(some 11), none, .asg (.t 10)⟩,
    ⟨(some 12), (some (11, true)), .mv (.t 0)⟩,
    ⟨(some 13), (some (11, true)), .call l_impl_FirstFailing [(.rd, (.t 12))] true⟩,
    ⟨(some 14), (some (11, true)), .bin .eql (.t 13) (.c (vi 0))⟩,
    ⟨(some 15), none, .pick (.t 11) (.t 14) (.c (.bool false))⟩,
    ⟨(some 2), none, .asg (.t 15)⟩] [2] []
def if_impl_IsGraphic : IFun := ⟨[.t 2], [], (.seq ic_impl_IsGraphic_r0 (.seq ic_impl_IsGraphic_r1 .ret))⟩

def ic_impl_IsTreeDegrees_r0 : IC := .reg [
    ⟨(some 2), none, .asg (.c (.bool false))⟩] [0] []
def ic_impl_IsTreeDegrees_r1 : IC := .reg [
    ⟨(some 3), none, .mv (.t 0)⟩,
    ⟨(some 4), none, .call l_impl_IsConnectable [(.rd, (.t 3))] true⟩,
    ⟨(some 5), none, .asg (.t 4)⟩,
    ⟨(some 6), (some (5, true)), .mv (.t 0)⟩,
    ⟨(some 7), (some (5, true)), .call l_impl_sum [(.rd, (.t 6))] true⟩,
    ⟨(some 8), (some (5, true)), .mv (.t 0)⟩,
    ⟨(some 9), (some (5, true)), .len (.t 8)⟩,
    ⟨(some 10), (some (5, true)), .bin .mul (.c (vi 2)) (.t 9)⟩,
    ⟨(some 11), (some (5, true)), .bin .sub (.t 10) (.c (vi 2))⟩,
    ⟨(some 12), (some (5, true)), .bin .eql (.t 7) (.t 11)⟩,
    ⟨(some 13), none, .pick (.t 5) (.t 12) (.c (.bool false))⟩,
    ⟨(some 2), none, .asg (.t 13)⟩] [2] []
def if_impl_IsTreeDegrees : IFun := ⟨[.t 2], [], (.seq ic_impl_IsTreeDegrees_r0 (.seq ic_impl_IsTreeDegrees_r1 .ret))⟩

def ic_impl_SlacksOf_r0 : IC := .reg [
    ⟨(some 2), none, .asg (.c (.slice none 0 0))⟩] [0] []
def ic_impl_SlacksOf_r1 : IC := .reg [
    ⟨(some 4), none, .mv (.t 0)⟩,
    ⟨(some 5), none, .call l_impl_falling [(.rd, (.t 4))] true⟩,
    ⟨(some 3), none, .alloc [(.slice none 0 0)]⟩,
    ⟨none, none, .store 1 (.t 3) (.t 5)⟩] [0, 3] []
def ic_impl_SlacksOf_r2 : IC := .reg [
    ⟨(some 6), none, .mv (.t 0)⟩,
    ⟨(some 7), none, .mkfn l_impl_SlacksOf_F1 [(.t 3)]⟩,
    ⟨(some 8), none, .call l_impl_each [(.rd, (.t 6)), (.val, (.t 7))] false⟩,
    ⟨(some 2), none, .asg (.t 8)⟩] [2] []
def if_impl_SlacksOf : IFun := ⟨[.t 2], [], (.seq ic_impl_SlacksOf_r0 (.seq ic_impl_SlacksOf_r1 (.seq ic_impl_SlacksOf_r2 .ret)))⟩

def ic_impl_SlacksOf_F1_r0 : IC := .reg [
    ⟨(some 3), none, .asg (.c (vi 0))⟩] [0, 1] []
def ic_impl_SlacksOf_F1_r1 : IC := .reg [
    ⟨(some 8), none, .mv (.t 0)⟩,
    ⟨(some 9), none, .bin .add (.t 8) (.c (vi 1))⟩,
    ⟨(some 4), none, .asg (.t 9)⟩] [1, 4] []
def ic_impl_SlacksOf_F1_r2 : IC := .reg [
    ⟨(some 10), none, .mv (.t 4)⟩,
    ⟨(some 11), none, .mv (.t 4)⟩,
    ⟨(some 12), none, .bin .sub (.t 11) (.c (vi 1))⟩,
    ⟨(some 13), none, .bin .mul (.t 10) (.t 12)⟩,
    ⟨(some 14), none, .load false 1 (.t 1)⟩,
    ⟨(some 15), none, .mv (.t 4)⟩,
    ⟨(some 16), none, .slc 1 (.t 14) none (some (.t 15)) none⟩,
    ⟨(some 17), none, .call l_impl_sum [(.rd, (.t 16))] true⟩,
    ⟨(some 18), none, .bin .sub (.t 13) (.t 17)⟩,
    ⟨(some 5), none, .asg (.t 18)⟩] [1, 4, 5] []
def ic_impl_SlacksOf_F1_r3 : IC := .reg [
    ⟨(some 19), none, .load false 1 (.t 1)⟩,
    ⟨(some 20), none, .mv (.t 4)⟩,
    ⟨(some 21), none, .slc 1 (.t 19) (some (.t 20)) none none⟩,
    ⟨(some 22), none, .len (.t 21)⟩,
    ⟨(some 23), none, .mv (.c (vi 0))⟩] [1, 4, 5, 21, 22, 23] []
def ic_impl_SlacksOf_F1_r4 : IC := .reg [
    ⟨(some 24), none, .bin .lss (.t 23) (.t 22)⟩] [1, 4, 5, 21, 22, 23, 24] []
def ic_impl_SlacksOf_F1_r5 : IC := .reg [
    ⟨(some 25), none, .iadr 1 (.t 21) (.t 23)⟩,
    ⟨(some 26), none, .load false 1 (.t 25)⟩,
    ⟨(some 7), none, .asg (.t 26)⟩] [1, 4, 5, 7, 21, 22, 23] []
def ic_impl_SlacksOf_F1_r6 : IC := .reg [
    ⟨(some 27), none, .mv (.t 5)⟩,
    ⟨(some 28), none, .mv (.t 7)⟩,
    ⟨(some 29), none, .mv (.t 4)⟩,
    ⟨(some 30), none, .minmax true (.t 28) (.t 29)⟩,
    ⟨(some 31), none, .bin .add (.t 27) (.t 30)⟩,
    ⟨(some 5), none, .asg (.t 31)⟩] [1, 4, 5, 21, 22, 23] []
def ic_impl_SlacksOf_F1_r7 : IC := .reg [
    ⟨(some 32), none, .bin .add (.t 23) (.c (vi 1))⟩,
    ⟨(some 23), none, .asg (.t 32)⟩] [1, 4, 5, 21, 22, 23] []
def ic_impl_SlacksOf_F1_l8 : IC := (.seq ic_impl_SlacksOf_F1_r4 (.seq (.cond (.t 24) .skip (.exit 0)) (.seq (.block 1 (.seq ic_impl_SlacksOf_F1_r5 ic_impl_SlacksOf_F1_r6)) ic_impl_SlacksOf_F1_r7)))
def ic_impl_SlacksOf_F1_r9 : IC := .reg [
    ⟨(some 33), none, .mv (.t 5)⟩,
    ⟨(some 3), none, .asgm (.t 33)⟩] [3] []
def if_impl_SlacksOf_F1 : IFun := ⟨[.t 3], [], (.seq ic_impl_SlacksOf_F1_r0 (.seq ic_impl_SlacksOf_F1_r1 (.seq ic_impl_SlacksOf_F1_r2 (.seq (.seq ic_impl_SlacksOf_F1_r3 (.block 0 (.loop ic_impl_SlacksOf_F1_l8))) (.seq ic_impl_SlacksOf_F1_r9 .ret)))))⟩

def ic_impl_ValidDegrees_r0 : IC := .reg [
    ⟨(some 2), none, .asg (.c (.bool false))⟩] [0] []
def ic_impl_ValidDegrees_r1 : IC := .reg [
    ⟨(some 3), none, .mv (.t 0)⟩,
    ⟨(some 4), none, .len (.t 3)⟩,
    ⟨(some 5), none, .bin .leq (.t 4) (.c (vi 7))⟩,
    ⟨(some 6), none, .asg (.t 5)⟩,
    ⟨(some 7), (some (6, true)), .mv (.t 0)⟩,
    ⟨(some 8), (some (6, true)), .mv (.t 0)⟩,
    ⟨(some 9), (some (6, true)), .len (.t 8)⟩,
    ⟨(some 10), (some (6, true)), .bin .sub (.t 9) (.c (vi 1))⟩,
    ⟨(some 11), (some (6, true)), .call l_impl_allIn [(.rd, (.t 7)), (.val, (.c (vi 0))), (.val, (.t 10))] true⟩,
    ⟨(some 12), none, .pick (.t 6) (.t 11) (.c (.bool false))⟩,
    ⟨(some 2), none, .asg (.t 12)⟩] [2] []
def if_impl_ValidDegrees : IFun := ⟨[.t 2], [], (.seq ic_impl_ValidDegrees_r0 (.seq ic_impl_ValidDegrees_r1 .ret))⟩

def ic_impl_ValidGraph_r0 : IC := .reg [
    ⟨(some 1), none, .box (.t 0)⟩,
    ⟨(some 2), none, .asg (.c (.bool false))⟩] [1] []
def ic_impl_ValidGraph_r1 : IC := .reg [
    ⟨(some 5), none, .fadr 1 (.t 1)⟩,
    ⟨(some 6), none, .load false 1 (.t 5)⟩,
    ⟨(some 7), none, .len (.t 6)⟩,
    ⟨(some 8), none, .mv (.c (vi 0))⟩] [1, 6, 7, 8] []
def ic_impl_ValidGraph_r2 : IC := .reg [
    ⟨(some 9), none, .bin .lss (.t 8) (.t 7)⟩] [1, 6, 7, 8, 9] []
def ic_impl_ValidGraph_r3 : IC := .reg [
    ⟨(some 10), none, .asg (.t 8)⟩,
    ⟨(some 11), none, .iadr 2 (.t 6) (.t 8)⟩,
    ⟨(some 12), none, .load true 2 (.t 11)⟩,
    ⟨(some 4), none, .alloc [(vi 0), (vi 0)]⟩,
    ⟨(some 3), none, .asg (.t 10)⟩,
    ⟨none, none, .store 2 (.t 4) (.t 12)⟩] [1, 3, 4, 6, 7, 8] []
def ic_impl_ValidGraph_r4 : IC := .reg [
    ⟨(some 13), none, .fadr 0 (.t 4)⟩,
    ⟨(some 14), none, .load false 1 (.t 13)⟩,
    ⟨(some 15), none, .bin .lss (.t 14) (.c (vi 0))⟩,
    ⟨(some 16), none, .asg (.t 15)⟩,
    ⟨(some 17), (some (16, false)), .fadr 0 (.t 4)⟩,
    ⟨(some 18), (some (16, false)), .load false 1 (.t 17)⟩,
    ⟨(some 19), (some (16, false)), .fadr 1 (.t 4)⟩,
    ⟨(some 20), (some (16, false)), .load false 1 (.t 19)⟩,
    ⟨(some 21), (some (16, false)), .bin .geq (.t 18) (.t 20)⟩,
    ⟨(some 22), none, .pick (.t 16) (.c (.bool true)) (.t 21)⟩,
    ⟨(some 23), none, .asg (.t 22)⟩,
    ⟨(some 24), (some (23, false)), .fadr 1 (.t 4)⟩,
    ⟨(some 25), (some (23, false)), .load false 1 (.t 24)⟩,
    ⟨(some 26), (some (23, false)), .fadr 0 (.t 1)⟩,
    ⟨(some 27), (some (23, false)), .load false 1 (.t 26)⟩,
    ⟨(some 28), (some (23, false)), .bin .geq (.t 25) (.t 27)⟩,
    ⟨(some 29), none, .pick (.t 23) (.c (.bool true)) (.t 28)⟩,
    ⟨(some 30), none, .asg (.t 29)⟩,
    ⟨(some 31), (some (30, false)), .mv (.t 3)⟩,
    ⟨(some 32), (some (30, false)), .bin .gtr (.t 31) (.c (vi 0))⟩,
    ⟨(some 33), (some (30, false)), .asg (.t 32)⟩,
    ⟨(some 34), (some (33, true)), .fadr 1 (.t 1)⟩,
    ⟨(some 35), (some (33, true)), .load false 1 (.t 34)⟩,
    ⟨(some 36), (some (33, true)), .mv (.t 3)⟩,
    ⟨(some 37), (some (33, true)), .bin .sub (.t 36) (.c (vi 1))⟩,
    ⟨(some 38), (some (33, true)), .iadr 2 (.t 35) (.t 37)⟩,
    ⟨(some 39), (some (33, true)), .load true 2 (.t 38)⟩,
    ⟨(some 40), (some (33, true)), .load true 2 (.t 4)⟩,
    ⟨(some 41), (some (33, true)), .call l_impl_compareEdges [(.val, (.t 39)), (.val, (.t 40))] true⟩,
    ⟨(some 42), (some (33, true)), .bin .geq (.t 41) (.c (vi 0))⟩,
    ⟨(some 43), (some (30, false)), .pick (.t 33) (.t 42) (.c (.bool false))⟩,
    ⟨(some 44), none, .pick (.t 30) (.c (.bool true)) (.t 43)⟩] [1, 6, 7, 8, 44] []
def ic_impl_ValidGraph_r5 : IC := .reg [
    ⟨(some 2), none, .asg (.c (.bool false))⟩] [2] []
def ic_impl_ValidGraph_r6 : IC := .reg [
    ⟨(some 45), none, .bin .add (.t 8) (.c (vi 1))⟩,
    ⟨(some 8), none, .asg (.t 45)⟩] [1, 6, 7, 8] []
def ic_impl_ValidGraph_l7 : IC := (.seq ic_impl_ValidGraph_r2 (.seq (.cond (.t 9) .skip (.exit 0)) (.seq (.block 1 (.seq ic_impl_ValidGraph_r3 (.seq ic_impl_ValidGraph_r4 (.cond (.t 44) (.seq ic_impl_ValidGraph_r5 .ret) .skip)))) ic_impl_ValidGraph_r6)))
def ic_impl_ValidGraph_r8 : IC := .reg [
    ⟨(some 46), none, .fadr 0 (.t 1)⟩,
    ⟨(some 47), none, .load false 1 (.t 46)⟩,
    ⟨(some 48), none, .call l_impl_in [(.val, (.t 47)), (.val, (.c (vi 0))), (.val, (.c (vi 7)))] true⟩,
    ⟨(some 2), none, .asg (.t 48)⟩] [2] []
def if_impl_ValidGraph : IFun := ⟨[.t 2], [], (.seq ic_impl_ValidGraph_r0 (.seq (.seq ic_impl_ValidGraph_r1 (.block 0 (.loop ic_impl_ValidGraph_l7))) (.seq ic_impl_ValidGraph_r8 .ret)))⟩

def ic_impl_allIn_r0 : IC := .reg [
    ⟨(some 4), none, .box (.t 1)⟩,
    ⟨(some 5), none, .box (.t 2)⟩,
    ⟨(some 6), none, .asg (.c (.bool false))⟩] [0, 4, 5] []
def ic_impl_allIn_r1 : IC := .reg [
    ⟨(some 7), none, .mv (.t 0)⟩,
    ⟨(some 8), none, .mkfn l_impl_allIn_F1 [(.t 4), (.t 5)]⟩,
    ⟨(some 9), none, .call l_slices_ContainsFunc_Sint_int_ [(.rd, (.t 7)), (.val, (.t 8))] false⟩,
    ⟨(some 10), none, .unop .not (.t 9)⟩,
    ⟨(some 6), none, .asg (.t 10)⟩] [6] []
def if_impl_allIn : IFun := ⟨[.t 6], [], (.seq ic_impl_allIn_r0 (.seq ic_impl_allIn_r1 .ret))⟩

def ic_impl_allIn_F1_r0 : IC := .reg [
    ⟨(some 4), none, .asg (.c (.bool false))⟩] [0, 1, 2] []
def ic_impl_allIn_F1_r1 : IC := .reg [
    ⟨(some 5), none, .mv (.t 0)⟩,
    ⟨(some 6), none, .load false 1 (.t 1)⟩,
    ⟨(some 7), none, .load false 1 (.t 2)⟩,
    ⟨(some 8), none, .call l_impl_in [(.val, (.t 5)), (.val, (.t 6)), (.val, (.t 7))] true⟩,
    ⟨(some 9), none, .unop .not (.t 8)⟩,
    ⟨(some 4), none, .asg (.t 9)⟩] [4] []
def if_impl_allIn_F1 : IFun := ⟨[.t 4], [], (.seq ic_impl_allIn_F1_r0 (.seq ic_impl_allIn_F1_r1 .ret))⟩

def ic_impl_clone_impl_Edge__r0 : IC := .reg [
    ⟨(some 2), none, .asg (.c (.slice none 0 0))⟩] [0] []
def ic_impl_clone_impl_Edge__r1 : IC := .reg [
    ⟨(some 3), none, .mv (.t 0)⟩,
    ⟨(some 4), none, .call l_slices_Clone_Simpl_Edge_impl_Edge_ [(.rd, (.t 3))] true⟩,
    ⟨(some 5), none, .call l_slices_Clip_Simpl_Edge_impl_Edge_ [(.tk, (.t 4))] true⟩,
    ⟨(some 2), none, .asg (.t 5)⟩] [2] []
def if_impl_clone_impl_Edge_ : IFun := ⟨[.t 2], [], (.seq ic_impl_clone_impl_Edge__r0 (.seq ic_impl_clone_impl_Edge__r1 .ret))⟩

def ic_impl_clone_int__r0 : IC := .reg [
    ⟨(some 2), none, .asg (.c (.slice none 0 0))⟩] [0] []
def ic_impl_clone_int__r1 : IC := .reg [
    ⟨(some 3), none, .mv (.t 0)⟩,
    ⟨(some 4), none, .call l_slices_Clone_Sint_int_ [(.rd, (.t 3))] true⟩,
    ⟨(some 5), none, .call l_slices_Clip_Sint_int_ [(.tk, (.t 4))] true⟩,
    ⟨(some 2), none, .asg (.t 5)⟩] [2] []
def if_impl_clone_int_ : IFun := ⟨[.t 2], [], (.seq ic_impl_clone_int__r0 (.seq ic_impl_clone_int__r1 .ret))⟩

def ic_impl_compareEdges_r0 : IC := .reg [
    ⟨(some 2), none, .box (.t 0)⟩,
    ⟨(some 3), none, .box (.t 1)⟩,
    ⟨(some 4), none, .asg (.c (vi 0))⟩] [2, 3] []
def ic_impl_compareEdges_r1 : IC := .reg [
    ⟨(some 5), none, .fadr 0 (.t 2)⟩,
    ⟨(some 6), none, .load false 1 (.t 5)⟩,
    ⟨(some 7), none, .fadr 0 (.t 3)⟩,
    ⟨(some 8), none, .load false 1 (.t 7)⟩,
    ⟨(some 9), none, .bin .neq (.t 6) (.t 8)⟩] [2, 3, 9] []
def ic_impl_compareEdges_r2 : IC := .reg [
    ⟨(some 10), none, .fadr 0 (.t 2)⟩,
    ⟨(some 11), none, .load false 1 (.t 10)⟩,
    ⟨(some 12), none, .fadr 0 (.t 3)⟩,
    ⟨(some 13), none, .load false 1 (.t 12)⟩,
    ⟨(some 14), none, .bin .sub (.t 11) (.t 13)⟩,
    ⟨(some 4), none, .asg (.t 14)⟩] [4] []
def ic_impl_compareEdges_r3 : IC := .reg [
    ⟨(some 15), none, .fadr 1 (.t 2)⟩,
    ⟨(some 16), none, .load false 1 (.t 15)⟩,
    ⟨(some 17), none, .fadr 1 (.t 3)⟩,
    ⟨(some 18), none, .load false 1 (.t 17)⟩,
    ⟨(some 19), none, .bin .sub (.t 16) (.t 18)⟩,
    ⟨(some 4), none, .asg (.t 19)⟩] [4] []
def if_impl_compareEdges : IFun := ⟨[.t 4], [], (.seq ic_impl_compareEdges_r0 (.seq (.seq ic_impl_compareEdges_r1 (.cond (.t 9) (.seq ic_impl_compareEdges_r2 .ret) .skip)) (.seq ic_impl_compareEdges_r3 .ret)))⟩

def ic_impl_each_r0 : IC := .reg [
    ⟨(some 4), none, .asg (.c (.slice none 0 0))⟩] [0, 1] []
def ic_impl_each_r1 : IC := .reg [
    ⟨(some 7), none, .mv (.t 0)⟩,
    ⟨(some 8), none, .call l_impl_ValidDegrees [(.rd, (.t 7))] true⟩,
    ⟨(some 9), none, .unop .not (.t 8)⟩] [0, 1, 9] []
def ic_impl_each_r2 : IC := .reg [
    ⟨(some 4), none, .asg (.c (.slice none 0 0))⟩] [4, 5] []
def ic_impl_each_r3 : IC := .reg [
    ⟨(some 10), none, .mv (.t 0)⟩,
    ⟨(some 11), none, .len (.t 10)⟩,
    ⟨(some 12), none, .mksl 1 [(vi 0)] (.t 11) (.t 11)⟩,
    ⟨(some 5), none, .asg (.t 12)⟩] [1, 5] []
def ic_impl_each_r4 : IC := .reg [
    ⟨(some 13), none, .mv (.t 5)⟩,
    ⟨(some 14), none, .len (.t 13)⟩,
    ⟨(some 15), none, .mv (.c (vi 0))⟩] [1, 5, 14, 15] []
def ic_impl_each_r5 : IC := .reg [
    ⟨(some 16), none, .bin .lss (.t 15) (.t 14)⟩] [1, 5, 14, 15, 16] []
def ic_impl_each_r6 : IC := .reg [
    ⟨(some 17), none, .asg (.t 15)⟩,
    ⟨(some 6), none, .asg (.t 17)⟩] [1, 5, 6, 14, 15] []
def ic_impl_each_r7 : IC := .reg [
    ⟨(some 18), none, .mv (.t 5)⟩,
    ⟨(some 19), none, .mv (.t 6)⟩,
    ⟨(some 20), none, .mv (.t 1)⟩,
    ⟨(some 21), none, .mv (.t 6)⟩,
    ⟨(some 22), none, .callv (.t 20) [(.val, (.t 21))]⟩,
    ⟨(some 23), none, .iadr 1 (.t 18) (.t 19)⟩,
    ⟨none, none, .store 1 (.t 23) (.t 22)⟩] [1, 5, 14, 15] []
def ic_impl_each_r8 : IC := .reg [
    ⟨(some 24), none, .bin .add (.t 15) (.c (vi 1))⟩,
    ⟨(some 15), none, .asg (.t 24)⟩] [1, 5, 14, 15] []
def ic_impl_each_l9 : IC := (.seq ic_impl_each_r5 (.seq (.cond (.t 16) .skip (.exit 0)) (.seq (.block 1 (.seq ic_impl_each_r6 ic_impl_each_r7)) ic_impl_each_r8)))
def ic_impl_each_r10 : IC := .reg [
    ⟨(some 25), none, .mv (.t 5)⟩,
    ⟨(some 4), none, .asgm (.t 25)⟩] [4, 5] []
def if_impl_each : IFun := ⟨[.t 4], [], (.seq ic_impl_each_r0 (.seq (.seq ic_impl_each_r1 (.cond (.t 9) (.seq ic_impl_each_r2 .ret) .skip)) (.seq ic_impl_each_r3 (.seq (.seq ic_impl_each_r4 (.block 0 (.loop ic_impl_each_l9))) (.seq ic_impl_each_r10 .ret)))))⟩

def ic_impl_factorial_r0 : IC := .reg [
    ⟨(some 2), none, .asg (.c (vi 0))⟩] [0] []
def ic_impl_factorial_r1 : IC := .reg [
    ⟨(some 3), none, .mv (.t 0)⟩,
    ⟨(some 4), none, .bin .lss (.t 3) (.c (vi 2))⟩] [0, 4] []
def ic_impl_factorial_r2 : IC := .reg [
    ⟨(some 2), none, .asg (.c (vi 1))⟩] [2] []
def ic_impl_factorial_r3 : IC := .reg [
    ⟨(some 5), none, .mv (.t 0)⟩,
    ⟨(some 6), none, .mv (.t 0)⟩,
    ⟨(some 7), none, .bin .sub (.t 6) (.c (vi 1))⟩,
    ⟨(some 8), none, .call l_impl_factorial [(.val, (.t 7))] true⟩,
    ⟨(some 9), none, .bin .mul (.t 5) (.t 8)⟩,
    ⟨(some 2), none, .asg (.t 9)⟩] [2] []
def if_impl_factorial : IFun := ⟨[.t 2], [], (.seq ic_impl_factorial_r0 (.seq (.seq ic_impl_factorial_r1 (.cond (.t 4) (.seq ic_impl_factorial_r2 .ret) .skip)) (.seq ic_impl_factorial_r3 .ret)))⟩

def ic_impl_falling_r0 : IC := .reg [
    ⟨(some 2), none, .asg (.c (.slice none 0 0))⟩] [0] []
def ic_impl_falling_r1 : IC := .reg [
    ⟨(some 4), none, .mv (.t 0)⟩,
    ⟨(some 5), none, .call l_impl_clone_int_ [(.rd, (.t 4))] true⟩,
    ⟨(some 3), none, .asg (.t 5)⟩] [3] []
def ic_impl_falling_r2 : IC := .reg [
    ⟨(some 6), none, .mv (.t 3)⟩,
    ⟨(some 7), none, .call l_slices_Sort_Sint_int_ [(.ld, (.t 6))] false⟩] [3] []
def ic_impl_falling_r3 : IC := .reg [
    ⟨(some 8), none, .mv (.t 3)⟩,
    ⟨(some 9), none, .call l_slices_Reverse_Sint_int_ [(.ld, (.t 8))] false⟩] [3] []
def ic_impl_falling_r4 : IC := .reg [
    ⟨(some 10), none, .mv (.t 3)⟩,
    ⟨(some 2), none, .asgm (.t 10)⟩] [2, 3] []
def if_impl_falling : IFun := ⟨[.t 2], [], (.seq ic_impl_falling_r0 (.seq ic_impl_falling_r1 (.seq ic_impl_falling_r2 (.seq ic_impl_falling_r3 (.seq ic_impl_falling_r4 .ret)))))⟩

def ic_impl_in_r0 : IC := .reg [
    ⟨(some 6), none, .asg (.c (.bool false))⟩] [0, 1, 2] []
def ic_impl_in_r1 : IC := .reg [
    ⟨(some 7), none, .mv (.t 0)⟩,
    ⟨(some 8), none, .mv (.t 1)⟩,
    ⟨(some 9), none, .bin .geq (.t 7) (.t 8)⟩,
    ⟨(some 10), none, .asg (.t 9)⟩,
    ⟨(some 11), (some (10, true)), .mv (.t 0)⟩,
    ⟨(some 12), (some (10, true)), .mv (.t 2)⟩,
    ⟨(some 13), (some (10, true)), .bin .leq (.t 11) (.t 12)⟩,
    ⟨(some 14), none, .pick (.t 10) (.t 13) (.c (.bool false))⟩,
    ⟨(some 6), none, .asg (.t 14)⟩] [6] []
def if_impl_in : IFun := ⟨[.t 6], [], (.seq ic_impl_in_r0 (.seq ic_impl_in_r1 .ret))⟩

def ic_impl_indices_r0 : IC := .reg [
    ⟨(some 4), none, .asg (.c (.slice none 0 0))⟩] [0, 1] []
def ic_impl_indices_r1 : IC := .reg [
    ⟨(some 5), none, .asg (.c (.slice none 0 0))⟩] [0, 1, 5] []
def ic_impl_indices_r2 : IC := .reg [
    ⟨(some 7), none, .mv (.t 0)⟩,
    ⟨(some 8), none, .mv (.c (vi 0))⟩] [1, 5, 7, 8] []
def ic_impl_indices_r3 : IC := .reg [
    ⟨(some 9), none, .bin .lss (.t 8) (.t 7)⟩] [1, 5, 7, 8, 9] []
def ic_impl_indices_r4 : IC := .reg [
    ⟨(some 10), none, .asg (.t 8)⟩,
    ⟨(some 6), none, .asg (.t 10)⟩] [1, 5, 6, 7, 8] []
def ic_impl_indices_r5 : IC := .reg [
    ⟨(some 11), none, .mv (.t 6)⟩,
    ⟨(some 12), none, .mv (.t 1)⟩,
    ⟨(some 13), none, .bin .neq (.t 11) (.t 12)⟩] [1, 5, 6, 7, 8, 13] []
def ic_impl_indices_r6 : IC := .reg [
    ⟨(some 14), none, .mv (.t 5)⟩,
    ⟨(some 15), none, .mv (.t 6)⟩,
    ⟨(some 16), none, .bsl 1 [(vi 0)] 1 [(0, (.t 15))]⟩,
    ⟨(some 17), none, .app 1 (.t 14) (.t 16)⟩,
    ⟨(some 5), none, .asg (.t 17)⟩] [1, 5, 7, 8] []
def ic_impl_indices_r7 : IC := .reg [
    ⟨(some 18), none, .bin .add (.t 8) (.c (vi 1))⟩,
    ⟨(some 8), none, .asg (.t 18)⟩] [1, 5, 7, 8] []
def ic_impl_indices_l8 : IC := (.seq ic_impl_indices_r3 (.seq (.cond (.t 9) .skip (.exit 0)) (.seq (.block 1 (.seq ic_impl_indices_r4 (.seq ic_impl_indices_r5 (.cond (.t 13) ic_impl_indices_r6 .skip)))) ic_impl_indices_r7)))
def ic_impl_indices_r9 : IC := .reg [
    ⟨(some 19), none, .mv (.t 5)⟩,
    ⟨(some 4), none, .asgm (.t 19)⟩] [4, 5] []
def if_impl_indices : IFun := ⟨[.t 4], [], (.seq ic_impl_indices_r0 (.seq ic_impl_indices_r1 (.seq (.seq ic_impl_indices_r2 (.block 0 (.loop ic_impl_indices_l8))) (.seq ic_impl_indices_r9 .ret))))⟩

def ic_impl_listed_r0 : IC := .reg [
    ⟨(some 4), none, .asg (.c (.bool false))⟩] [0, 1] []
def ic_impl_listed_r1 : IC := .reg [
    ⟨(some 5), none, .mv (.t 0)⟩,
    ⟨(some 6), none, .call l_impl_ValidDegrees [(.rd, (.t 5))] true⟩,
    ⟨(some 7), none, .asg (.t 6)⟩,
    ⟨(some 8), (some (7, true)), .mv (.t 0)⟩,
    ⟨(some 9), (some (7, true)), .len (.t 8)⟩,
    ⟨(some 10), (some (7, true)), .mv (.t 1)⟩,
    ⟨(some 11), (some (7, true)), .bin .leq (.t 9) (.t 10)⟩,
    ⟨(some 12), none, .pick (.t 7) (.t 11) (.c (.bool false))⟩,
    ⟨(some 4), none, .asg (.t 12)⟩] [4] []
def if_impl_listed : IFun := ⟨[.t 4], [], (.seq ic_impl_listed_r0 (.seq ic_impl_listed_r1 .ret))⟩

def ic_impl_pairs_r0 : IC := .reg [
    ⟨(some 2), none, .asg (.c (.slice none 0 0))⟩] [0] []
def ic_impl_pairs_r1 : IC := .reg [
    ⟨(some 3), none, .asg (.c (.slice none 0 0))⟩] [0, 3] []
def ic_impl_pairs_r2 : IC := .reg [
    ⟨(some 6), none, .mv (.t 0)⟩,
    ⟨(some 7), none, .mv (.c (vi 0))⟩] [0, 3, 6, 7] []
def ic_impl_pairs_r3 : IC := .reg [
    ⟨(some 8), none, .bin .lss (.t 7) (.t 6)⟩] [0, 3, 6, 7, 8] []
def ic_impl_pairs_r4 : IC := .reg [
    ⟨(some 9), none, .asg (.t 7)⟩,
    ⟨(some 4), none, .asg (.t 9)⟩] [0, 3, 4, 6, 7] []
def ic_impl_pairs_r5 : IC := .reg [
    ⟨(some 10), none, .mv (.t 4)⟩,
    ⟨(some 11), none, .bin .add (.t 10) (.c (vi 1))⟩,
    ⟨(some 5), none, .asg (.t 11)⟩] [0, 3, 4, 5, 6, 7] []
def ic_impl_pairs_r6 : IC := .reg [
    ⟨(some 12), none, .mv (.t 5)⟩,
    ⟨(some 13), none, .mv (.t 0)⟩,
    ⟨(some 14), none, .bin .lss (.t 12) (.t 13)⟩] [0, 3, 4, 5, 6, 7, 14] []
def ic_impl_pairs_r7 : IC := .reg [
    ⟨(some 17), none, .mv (.t 3)⟩,
    ⟨(some 18), none, .mv (.t 4)⟩,
    ⟨(some 19), none, .mv (.t 5)⟩,
    ⟨(some 20), none, .build [(vi 0), (vi 0)] [(0, 1, (.t 18)), (1, 1, (.t 19))]⟩,
    ⟨(some 21), none, .bsl 2 [(vi 0), (vi 0)] 1 [(0, (.t 20))]⟩,
    ⟨(some 22), none, .app 2 (.t 17) (.t 21)⟩,
    ⟨(some 3), none, .asg (.t 22)⟩] [0, 3, 4, 5, 6, 7] []
def ic_impl_pairs_r8 : IC := .reg [
    ⟨(some 15), none, .mv (.t 5)⟩,
    ⟨(some 16), none, .bin .add (.t 15) (.c (vi 1))⟩,
    ⟨(some 5), none, .asg (.t 16)⟩] [0, 3, 4, 5, 6, 7] []
def ic_impl_pairs_l9 : IC := (.seq (.seq ic_impl_pairs_r6 (.cond (.t 14) .skip (.exit 2))) (.seq (.block 3 ic_impl_pairs_r7) ic_impl_pairs_r8))
def ic_impl_pairs_r10 : IC := .reg [
    ⟨(some 23), none, .bin .add (.t 7) (.c (vi 1))⟩,
    ⟨(some 7), none, .asg (.t 23)⟩] [0, 3, 6, 7] []
def ic_impl_pairs_l11 : IC := (.seq ic_impl_pairs_r3 (.seq (.cond (.t 8) .skip (.exit 0)) (.seq (.block 1 (.seq ic_impl_pairs_r4 (.seq ic_impl_pairs_r5 (.block 2 (.loop ic_impl_pairs_l9))))) ic_impl_pairs_r10)))
def ic_impl_pairs_r12 : IC := .reg [
    ⟨(some 24), none, .mv (.t 3)⟩,
    ⟨(some 2), none, .asgm (.t 24)⟩] [2, 3] []
def if_impl_pairs : IFun := ⟨[.t 2], [], (.seq ic_impl_pairs_r0 (.seq ic_impl_pairs_r1 (.seq (.seq ic_impl_pairs_r2 (.block 0 (.loop ic_impl_pairs_l11))) (.seq ic_impl_pairs_r12 .ret))))⟩

def ic_impl_subgraphs_r0 : IC := .reg [
    ⟨(some 4), none, .box (.t 0)⟩,
    ⟨(some 5), none, .box (.t 1)⟩,
    ⟨(some 7), none, .box (.t 3)⟩] [2, 4, 5, 7] []
def ic_impl_subgraphs_r1 : IC := .reg [
    ⟨(some 11), none, .mv (.t 2)⟩,
    ⟨(some 12), none, .call l_impl_clone_int_ [(.rd, (.t 11))] true⟩,
    ⟨(some 8), none, .alloc [(.slice none 0 0)]⟩,
    ⟨none, none, .store 1 (.t 8) (.t 12)⟩] [4, 5, 7, 8] []
def ic_impl_subgraphs_r2 : IC := .reg [
    ⟨(some 9), none, .alloc [(.slice none 0 0)]⟩] [4, 5, 7, 8, 9] []
def ic_impl_subgraphs_r3 : IC := .reg [
    ⟨(some 10), none, .alloc [.nilFunc]⟩] [4, 5, 7, 8, 9, 10] []
def ic_impl_subgraphs_r4 : IC := .reg [
    ⟨(some 13), none, .mkfn l_impl_subgraphs_F1 [(.t 5), (.t 8), (.t 7), (.t 4), (.t 9), (.t 10)]⟩,
    ⟨none, none, .store 1 (.t 10) (.t 13)⟩] [10] []
def ic_impl_subgraphs_r5 : IC := .reg [
    ⟨(some 14), none, .load false 1 (.t 10)⟩,
    ⟨(some 15), none, .callv (.t 14) [(.val, (.c (vi 0)))]⟩] [] []
def if_impl_subgraphs : IFun := ⟨[], [], (.seq ic_impl_subgraphs_r0 (.seq ic_impl_subgraphs_r1 (.seq ic_impl_subgraphs_r2 (.seq ic_impl_subgraphs_r3 (.seq ic_impl_subgraphs_r4 ic_impl_subgraphs_r5)))))⟩

def ic_impl_subgraphs_F1_r0 : IC := .reg [
    ⟨(some 8), none, .asg (.c (.bool false))⟩] [0, 1, 2, 3, 4, 5, 6] []
def ic_impl_subgraphs_F1_r1 : IC := .reg [
    ⟨(some 11), none, .mv (.t 0)⟩,
    ⟨(some 12), none, .load false 1 (.t 1)⟩,
    ⟨(some 13), none, .len (.t 12)⟩,
    ⟨(some 14), none, .bin .eql (.t 11) (.t 13)⟩] [0, 1, 2, 3, 4, 5, 6, 14] []
def ic_impl_subgraphs_F1_r2 : IC := .reg [
    ⟨(some 15), none, .load false 1 (.t 2)⟩,
    ⟨(some 16), none, .call l_impl_allIn [(.rd, (.t 15)), (.val, (.c (vi 0))), (.val, (.c (vi 0)))] true⟩,
    ⟨(some 17), none, .unop .not (.t 16)⟩,
    ⟨(some 18), none, .asg (.t 17)⟩,
    ⟨(some 19), (some (18, false)), .load false 1 (.t 3)⟩,
    ⟨(some 20), (some (18, false)), .load false 1 (.t 4)⟩,
    ⟨(some 21), (some (18, false)), .load false 1 (.t 5)⟩,
    ⟨(some 22), (some (18, false)), .call l_impl_clone_impl_Edge_ [(.rd, (.t 21))] true⟩,
    ⟨(some 23), (some (18, false)), .build [(vi 0), (.slice none 0 0)] [(0, 1, (.t 20)), (1, 1, (.t 22))]⟩,
    ⟨(some 24), (some (18, false)), .callv (.t 19) [(.tk, (.t 23))]⟩,
    ⟨(some 25), none, .pick (.t 18) (.c (.bool true)) (.t 24)⟩,
    ⟨(some 8), none, .asg (.t 25)⟩] [8] [[0, 1, 2, 3, 4, 6, 7, 5, 8, 9, 10, 11], [0, 1, 2, 3, 5, 6, 7, 4, 8, 9, 10, 11], [0, 1, 2, 3, 5, 6, 7, 8, 4, 9, 10, 11], [0, 1, 2, 3, 6, 7, 4, 5, 8, 9, 10, 11], [0, 1, 2, 3, 6, 7, 5, 8, 4, 9, 10, 11]]
def ic_impl_subgraphs_F1_r3 : IC := .reg [
    ⟨(some 26), none, .load false 1 (.t 1)⟩,
    ⟨(some 27), none, .mv (.t 0)⟩,
    ⟨(some 28), none, .iadr 2 (.t 26) (.t 27)⟩,
    ⟨(some 29), none, .load true 2 (.t 28)⟩,
    ⟨(some 9), none, .alloc [(vi 0), (vi 0)]⟩,
    ⟨none, none, .store 2 (.t 9) (.t 29)⟩] [0, 2, 5, 6, 9] []
def ic_impl_subgraphs_F1_r4 : IC := .reg [
    ⟨(some 30), none, .load false 1 (.t 2)⟩,
    ⟨(some 31), none, .fadr 0 (.t 9)⟩,
    ⟨(some 32), none, .load false 1 (.t 31)⟩,
    ⟨(some 33), none, .iadr 1 (.t 30) (.t 32)⟩,
    ⟨(some 34), none, .load false 1 (.t 33)⟩,
    ⟨(some 35), none, .bin .gtr (.t 34) (.c (vi 0))⟩,
    ⟨(some 36), none, .asg (.t 35)⟩,
    ⟨(some 37), (some (36, true)), .load false 1 (.t 2)⟩,
    ⟨(some 38), (some (36, true)), .fadr 1 (.t 9)⟩,
    ⟨(some 39), (some (36, true)), .load false 1 (.t 38)⟩,
    ⟨(some 40), (some (36, true)), .iadr 1 (.t 37) (.t 39)⟩,
    ⟨(some 41), (some (36, true)), .load false 1 (.t 40)⟩,
    ⟨(some 42), (some (36, true)), .bin .gtr (.t 41) (.c (vi 0))⟩,
    ⟨(some 43), none, .pick (.t 36) (.t 42) (.c (.bool false))⟩] [0, 2, 5, 6, 9, 43] []
def ic_impl_subgraphs_F1_r5 : IC := .reg [
    ⟨(some 44), none, .load false 1 (.t 2)⟩,
    ⟨(some 45), none, .fadr 0 (.t 9)⟩,
    ⟨(some 46), none, .load false 1 (.t 45)⟩,
    ⟨(some 47), none, .iadr 1 (.t 44) (.t 46)⟩,
    ⟨(some 48), none, .load false 1 (.t 47)⟩,
    ⟨(some 49), none, .bin .sub (.t 48) (.c (vi 1))⟩,
    ⟨(some 50), none, .iadr 1 (.t 44) (.t 46)⟩,
    ⟨none, none, .store 1 (.t 50) (.t 49)⟩] [0, 2, 5, 6, 9] []
def ic_impl_subgraphs_F1_r6 : IC := .reg [
    ⟨(some 51), none, .load false 1 (.t 2)⟩,
    ⟨(some 52), none, .fadr 1 (.t 9)⟩,
    ⟨(some 53), none, .load false 1 (.t 52)⟩,
    ⟨(some 54), none, .iadr 1 (.t 51) (.t 53)⟩,
    ⟨(some 55), none, .load false 1 (.t 54)⟩,
    ⟨(some 56), none, .bin .sub (.t 55) (.c (vi 1))⟩,
    ⟨(some 57), none, .iadr 1 (.t 51) (.t 53)⟩,
    ⟨none, none, .store 1 (.t 57) (.t 56)⟩] [0, 2, 5, 6, 9] []
def ic_impl_subgraphs_F1_r7 : IC := .reg [
    ⟨(some 58), none, .load false 1 (.t 5)⟩,
    ⟨(some 59), none, .load true 2 (.t 9)⟩,
    ⟨(some 60), none, .bsl 2 [(vi 0), (vi 0)] 1 [(0, (.t 59))]⟩,
    ⟨(some 61), none, .app 2 (.t 58) (.t 60)⟩,
    ⟨none, none, .store 1 (.t 5) (.t 61)⟩] [0, 2, 5, 6, 9] []
def ic_impl_subgraphs_F1_r8 : IC := .reg [
    ⟨(some 62), none, .load false 1 (.t 6)⟩,
    ⟨(some 63), none, .mv (.t 0)⟩,
    ⟨(some 64), none, .bin .add (.t 63) (.c (vi 1))⟩,
    ⟨(some 65), none, .callv (.t 62) [(.val, (.t 64))]⟩,
    ⟨(some 10), none, .asg (.t 65)⟩] [0, 2, 5, 6, 9, 10] []
def ic_impl_subgraphs_F1_r9 : IC := .reg [
    ⟨(some 66), none, .load false 1 (.t 5)⟩,
    ⟨(some 67), none, .load false 1 (.t 5)⟩,
    ⟨(some 68), none, .len (.t 67)⟩,
    ⟨(some 69), none, .bin .sub (.t 68) (.c (vi 1))⟩,
    ⟨(some 70), none, .slc 2 (.t 66) none (some (.t 69)) none⟩,
    ⟨none, none, .store 1 (.t 5) (.t 70)⟩] [0, 2, 6, 9, 10] []
def ic_impl_subgraphs_F1_r10 : IC := .reg [
    ⟨(some 71), none, .load false 1 (.t 2)⟩,
    ⟨(some 72), none, .fadr 0 (.t 9)⟩,
    ⟨(some 73), none, .load false 1 (.t 72)⟩,
    ⟨(some 74), none, .iadr 1 (.t 71) (.t 73)⟩,
    ⟨(some 75), none, .load false 1 (.t 74)⟩,
    ⟨(some 76), none, .bin .add (.t 75) (.c (vi 1))⟩,
    ⟨(some 77), none, .iadr 1 (.t 71) (.t 73)⟩,
    ⟨none, none, .store 1 (.t 77) (.t 76)⟩] [0, 2, 6, 9, 10] []
def ic_impl_subgraphs_F1_r11 : IC := .reg [
    ⟨(some 78), none, .load false 1 (.t 2)⟩,
    ⟨(some 79), none, .fadr 1 (.t 9)⟩,
    ⟨(some 80), none, .load false 1 (.t 79)⟩,
    ⟨(some 81), none, .iadr 1 (.t 78) (.t 80)⟩,
    ⟨(some 82), none, .load false 1 (.t 81)⟩,
    ⟨(some 83), none, .bin .add (.t 82) (.c (vi 1))⟩,
    ⟨(some 84), none, .iadr 1 (.t 78) (.t 80)⟩,
    ⟨none, none, .store 1 (.t 84) (.t 83)⟩] [0, 6, 10] []
def ic_impl_subgraphs_F1_r12 : IC := .reg [
    ⟨(some 85), none, .mv (.t 10)⟩,
    ⟨(some 86), none, .unop .not (.t 85)⟩] [0, 6, 86] []
def ic_impl_subgraphs_F1_r13 : IC := .reg [
    ⟨(some 8), none, .asg (.c (.bool false))⟩] [8] []
def ic_impl_subgraphs_F1_r14 : IC := .reg [
    ⟨(some 87), none, .load false 1 (.t 6)⟩,
    ⟨(some 88), none, .mv (.t 0)⟩,
    ⟨(some 89), none, .bin .add (.t 88) (.c (vi 1))⟩,
    ⟨(some 90), none, .callv (.t 87) [(.val, (.t 89))]⟩,
    ⟨(some 8), none, .asg (.t 90)⟩] [8] []
def if_impl_subgraphs_F1 : IFun := ⟨[.t 8], [], (.seq ic_impl_subgraphs_F1_r0 (.seq (.seq ic_impl_subgraphs_F1_r1 (.cond (.t 14) (.seq ic_impl_subgraphs_F1_r2 .ret) .skip)) (.seq ic_impl_subgraphs_F1_r3 (.seq (.seq ic_impl_subgraphs_F1_r4 (.cond (.t 43) (.seq ic_impl_subgraphs_F1_r5 (.seq ic_impl_subgraphs_F1_r6 (.seq ic_impl_subgraphs_F1_r7 (.seq ic_impl_subgraphs_F1_r8 (.seq ic_impl_subgraphs_F1_r9 (.seq ic_impl_subgraphs_F1_r10 (.seq ic_impl_subgraphs_F1_r11 (.seq ic_impl_subgraphs_F1_r12 (.cond (.t 86) (.seq ic_impl_subgraphs_F1_r13 .ret) .skip))))))))) .skip)) (.seq ic_impl_subgraphs_F1_r14 .ret)))))⟩

def ic_impl_sum_r0 : IC := .reg [
    ⟨(some 2), none, .asg (.c (vi 0))⟩] [0] []
def ic_impl_sum_r1 : IC := .reg [
    ⟨(some 3), none, .asg (.c (vi 0))⟩] [0, 3] []
def ic_impl_sum_r2 : IC := .reg [
    ⟨(some 6), none, .mv (.t 0)⟩,
    ⟨(some 7), none, .len (.t 6)⟩,
    ⟨(some 8), none, .mv (.c (vi 0))⟩] [0, 3, 6, 7, 8] []
def ic_impl_sum_r3 : IC := .reg [
    ⟨(some 9), none, .bin .lss (.t 8) (.t 7)⟩] [0, 3, 6, 7, 8, 9] []
def ic_impl_sum_r4 : IC := .reg [
    ⟨(some 10), none, .iadr 1 (.t 6) (.t 8)⟩,
    ⟨(some 11), none, .load false 1 (.t 10)⟩,
    ⟨(some 5), none, .asg (.t 11)⟩] [0, 3, 5, 6, 7, 8] []
def ic_impl_sum_r5 : IC := .reg [
    ⟨(some 12), none, .mv (.t 3)⟩,
    ⟨(some 13), none, .mv (.t 5)⟩,
    ⟨(some 14), none, .bin .add (.t 12) (.t 13)⟩,
    ⟨(some 3), none, .asg (.t 14)⟩] [0, 3, 6, 7, 8] []
def ic_impl_sum_r6 : IC := .reg [
    ⟨(some 15), none, .bin .add (.t 8) (.c (vi 1))⟩,
    ⟨(some 8), none, .asg (.t 15)⟩] [0, 3, 6, 7, 8] []
def ic_impl_sum_l7 : IC := (.seq ic_impl_sum_r3 (.seq (.cond (.t 9) .skip (.exit 0)) (.seq (.block 1 (.seq ic_impl_sum_r4 ic_impl_sum_r5)) ic_impl_sum_r6)))
def ic_impl_sum_r8 : IC := .reg [
    ⟨(some 16), none, .mv (.t 3)⟩,
    ⟨(some 2), none, .asgm (.t 16)⟩] [2] []
def if_impl_sum : IFun := ⟨[.t 2], [], (.seq ic_impl_sum_r0 (.seq ic_impl_sum_r1 (.seq (.seq ic_impl_sum_r2 (.block 0 (.loop ic_impl_sum_l7))) (.seq ic_impl_sum_r8 .ret))))⟩

def ic_laws_FnCountTrees_r0 : IC := .reg [
    ⟨(some 2), none, .asg (.c (.bool false))⟩] [0] []
def ic_laws_FnCountTrees_r1 : IC := .reg [
    ⟨(some 8), none, .mv (.t 0)⟩,
    ⟨(some 9), none, .len (.t 8)⟩,
    ⟨(some 10), none, .bin .gtr (.t 9) (.c (vi 1048576))⟩] [0, 10] []
def ic_laws_FnCountTrees_r2 : IC := .reg [
    ⟨(some 2), none, .asg (.c (.bool true))⟩] [2] []
def ic_laws_FnCountTrees_r3 : IC := .reg [
    ⟨(some 11), none, .mv (.t 0)⟩,
    ⟨(some 12), none, .call l_spec_DrawCountTrees [(.rd, (.t 11))] true⟩,
    ⟨(some 3), none, .asg (.t 12)⟩] [3] []
def ic_laws_FnCountTrees_r4 : IC := .reg [
    ⟨(some 13), none, .mv (.t 3)⟩,
    ⟨(some 14), none, .call l_impl_CountTrees [(.rd, (.t 13))] true⟩,
    ⟨(some 4), none, .asg (.t 14)⟩] [3, 4] []
def ic_laws_FnCountTrees_r5 : IC := .reg [
    ⟨(some 15), none, .mv (.t 4)⟩,
    ⟨(some 16), none, .mv (.t 3)⟩,
    ⟨(some 17), none, .call l_spec_CountTrees [(.rd, (.t 16))] true⟩,
    ⟨(some 18), none, .bin .neq (.t 15) (.t 17)⟩,
    ⟨(some 19), none, .asg (.t 18)⟩,
    ⟨(some 20), (some (19, false)), .mv (.t 3)⟩,
    ⟨(some 21), (some (19, false)), .call l_impl_ValidDegrees [(.rd, (.t 20))] true⟩,
    ⟨(some 22), (some (19, false)), .unop .not (.t 21)⟩,
    ⟨(some 23), none, .pick (.t 19) (.c (.bool true)) (.t 22)⟩,
    ⟨(some 24), none, .asg (.t 23)⟩,
    ⟨(some 25), (some (24, false)), .mv (.t 3)⟩,
    ⟨(some 26), (some (24, false)), .len (.t 25)⟩,
    ⟨(some 27), (some (24, false)), .bin .gtr (.t 26) (.c (vi 5))⟩,
    ⟨(some 28), none, .pick (.t 24) (.c (.bool true)) (.t 27)⟩] [3, 4, 28] []
def ic_laws_FnCountTrees_r6 : IC := .reg [
    ⟨(some 29), none, .mv (.t 4)⟩,
    ⟨(some 30), none, .mv (.t 3)⟩,
    ⟨(some 31), none, .call l_spec_CountTrees [(.rd, (.t 30))] true⟩,
    ⟨(some 32), none, .bin .eql (.t 29) (.t 31)⟩,
    ⟨(some 2), none, .asg (.t 32)⟩] [2] []
def ic_laws_FnCountTrees_r7 : IC := .reg [
    ⟨(some 5), none, .asg (.c (vi 0))⟩] [3, 4, 5] []
def ic_laws_FnCountTrees_r8 : IC := .reg [
    ⟨(some 33), none, .mv (.t 3)⟩,
    ⟨(some 34), none, .call l_impl_AllRealizations [(.rd, (.t 33))] true⟩,
    ⟨(some 6), none, .asg (.t 34)⟩] [3, 4, 5, 6] []
def ic_laws_FnCountTrees_r9 : IC := .reg [
    ⟨(some 7), none, .asg (.c (vi 0))⟩] [3, 4, 5, 6, 7] []
def ic_laws_FnCountTrees_r10 : IC := .reg [
    ⟨(some 35), none, .mv (.t 7)⟩,
    ⟨(some 36), none, .mv (.t 6)⟩,
    ⟨(some 37), none, .len (.t 36)⟩,
    ⟨(some 38), none, .bin .lss (.t 35) (.t 37)⟩] [3, 4, 5, 6, 7, 38] []
def ic_laws_FnCountTrees_r11 : IC := .reg [
    ⟨(some 41), none, .mv (.t 6)⟩,
    ⟨(some 42), none, .mv (.t 7)⟩,
    ⟨(some 43), none, .iadr 2 (.t 41) (.t 42)⟩,
    ⟨(some 44), none, .load true 2 (.t 43)⟩,
    ⟨(some 45), none, .call l_impl_IsConnected [(.rd, (.t 44))] true⟩,
    ⟨(some 46), none, .asg (.t 45)⟩,
    ⟨(some 47), (some (46, true)), .mv (.t 6)⟩,
    ⟨(some 48), (some (46, true)), .mv (.t 7)⟩,
    ⟨(some 49), (some (46, true)), .iadr 2 (.t 47) (.t 48)⟩,
    ⟨(some 50), (some (46, true)), .fadr 1 (.t 49)⟩,
    ⟨(some 51), (some (46, true)), .load false 1 (.t 50)⟩,
    ⟨(some 52), (some (46, true)), .len (.t 51)⟩,
    ⟨(some 53), (some (46, true)), .mv (.t 3)⟩,
    ⟨(some 54), (some (46, true)), .len (.t 53)⟩,
    ⟨(some 55), (some (46, true)), .bin .sub (.t 54) (.c (vi 1))⟩,
    ⟨(some 56), (some (46, true)), .bin .eql (.t 52) (.t 55)⟩,
    ⟨(some 57), none, .pick (.t 46) (.t 56) (.c (.bool false))⟩] [3, 4, 5, 6, 7, 57] []
def ic_laws_FnCountTrees_r12 : IC := .reg [
    ⟨(some 58), none, .mv (.t 5)⟩,
    ⟨(some 59), none, .bin .add (.t 58) (.c (vi 1))⟩,
    ⟨(some 5), none, .asg (.t 59)⟩] [3, 4, 5, 6, 7] []
def ic_laws_FnCountTrees_r13 : IC := .reg [
    ⟨(some 39), none, .mv (.t 7)⟩,
    ⟨(some 40), none, .bin .add (.t 39) (.c (vi 1))⟩,
    ⟨(some 7), none, .asg (.t 40)⟩] [3, 4, 5, 6, 7] []
def ic_laws_FnCountTrees_l14 : IC := (.seq (.seq ic_laws_FnCountTrees_r10 (.cond (.t 38) .skip (.exit 0))) (.seq (.block 1 (.seq ic_laws_FnCountTrees_r11 (.cond (.t 57) ic_laws_FnCountTrees_r12 .skip))) ic_laws_FnCountTrees_r13))
def ic_laws_FnCountTrees_r15 : IC := .reg [
    ⟨(some 60), none, .mv (.t 4)⟩,
    ⟨(some 61), none, .mv (.t 5)⟩,
    ⟨(some 62), none, .bin .eql (.t 60) (.t 61)⟩,
    ⟨(some 2), none, .asg (.t 62)⟩] [2] []
def if_laws_FnCountTrees : IFun := ⟨[.t 2], [], (.seq ic_laws_FnCountTrees_r0 (.seq (.seq ic_laws_FnCountTrees_r1 (.cond (.t 10) (.seq ic_laws_FnCountTrees_r2 .ret) .skip)) (.seq ic_laws_FnCountTrees_r3 (.seq ic_laws_FnCountTrees_r4 (.seq (.seq ic_laws_FnCountTrees_r5 (.cond (.t 28) (.seq ic_laws_FnCountTrees_r6 .ret) .skip)) (.seq ic_laws_FnCountTrees_r7 (.seq ic_laws_FnCountTrees_r8 (.seq (.seq ic_laws_FnCountTrees_r9 (.block 0 (.loop ic_laws_FnCountTrees_l14))) (.seq ic_laws_FnCountTrees_r15 .ret)))))))))⟩

def ic_math_bits_Len_r0 : IC := .reg [
    ⟨(some 2), none, .asg (.c (vi 0))⟩] [0] []
def ic_math_bits_Len_r1 : IC := .reg [
    ⟨(some 3), none, .mv (.t 0)⟩,
    ⟨(some 4), none, .conv .u32 (.t 3)⟩,
    ⟨(some 5), none, .call l_math_bits_Len32 [(.val, (.t 4))] true⟩,
    ⟨(some 2), none, .asg (.t 5)⟩] [2] []
def ic_math_bits_Len_r2 : IC := .reg [
    ⟨(some 6), none, .mv (.t 0)⟩,
    ⟨(some 7), none, .call l_math_bits_Len64 [(.val, (.t 6))] true⟩,
    ⟨(some 2), none, .asg (.t 7)⟩] [2] []
def if_math_bits_Len : IFun := ⟨[.t 2], [], (.seq ic_math_bits_Len_r0 (.seq (.cond (.c (.bool false)) (.seq ic_math_bits_Len_r1 .ret) .skip) (.seq ic_math_bits_Len_r2 .ret)))⟩

def ic_math_bits_Len64_r0 : IC := .reg [
    ⟨(some 2), none, .asg (.c (vi 0))⟩] [0, 2] []
def ic_math_bits_Len64_r1 : IC := .reg [
    ⟨(some 3), none, .mv (.t 0)⟩,
    ⟨(some 4), none, .bin .geq (.t 3) (.c (.int .u64 (4294967296)))⟩] [0, 2, 4] []
def ic_math_bits_Len64_r2 : IC := .reg [
    ⟨(some 5), none, .mv (.t 0)⟩,
    ⟨(some 6), none, .bin .shr (.t 5) (.c (.int .u64 (32)))⟩,
    ⟨(some 0), none, .asg (.t 6)⟩] [0] []
def ic_math_bits_Len64_r3 : IC := .reg [
    ⟨(some 2), none, .asg (.c (vi 32))⟩] [0, 2] []
def ic_math_bits_Len64_r4 : IC := .reg [
    ⟨(some 7), none, .mv (.t 0)⟩,
    ⟨(some 8), none, .bin .geq (.t 7) (.c (.int .u64 (65536)))⟩] [0, 2, 8] []
def ic_math_bits_Len64_r5 : IC := .reg [
    ⟨(some 9), none, .mv (.t 0)⟩,
    ⟨(some 10), none, .bin .shr (.t 9) (.c (.int .u64 (16)))⟩,
    ⟨(some 0), none, .asg (.t 10)⟩] [0, 2] []
def ic_math_bits_Len64_r6 : IC := .reg [
    ⟨(some 11), none, .mv (.t 2)⟩,
    ⟨(some 12), none, .bin .add (.t 11) (.c (vi 16))⟩,
    ⟨(some 2), none, .asg (.t 12)⟩] [0, 2] []
def ic_math_bits_Len64_r7 : IC := .reg [
    ⟨(some 13), none, .mv (.t 0)⟩,
    ⟨(some 14), none, .bin .geq (.t 13) (.c (.int .u64 (256)))⟩] [0, 2, 14] []
def ic_math_bits_Len64_r8 : IC := .reg [
    ⟨(some 15), none, .mv (.t 0)⟩,
    ⟨(some 16), none, .bin .shr (.t 15) (.c (.int .u64 (8)))⟩,
    ⟨(some 0), none, .asg (.t 16)⟩] [0, 2] []
def ic_math_bits_Len64_r9 : IC := .reg [
    ⟨(some 17), none, .mv (.t 2)⟩,
    ⟨(some 18), none, .bin .add (.t 17) (.c (vi 8))⟩,
    ⟨(some 2), none, .asg (.t 18)⟩] [0, 2] []
def ic_math_bits_Len64_r10 : IC := .reg [
    ⟨(some 19), none, .mv (.t 2)⟩,
    ⟨(some 20), none, .mv (.t 0)⟩,
    ⟨(some 21), none, .conv .u8 (.t 20)⟩,
    ⟨(some 22), none, .idxs (.c (.string ⟨#[0, 1, 2, 2, 3, 3, 3, 3, 4, 4, 4, 4, 4, 4, 4, 4, 5, 5, 5, 5, 5, 5, 5, 5, 5, 5, 5, 5, 5, 5, 5, 5, 6, 6, 6, 6, 6, 6, 6, 6, 6, 6, 6, 6, 6, 6, 6, 6, 6, 6, 6, 6, 6, 6, 6, 6, 6, 6, 6, 6, 6, 6, 6, 6, 7, 7, 7, 7, 7, 7, 7, 7, 7, 7, 7, 7, 7, 7, 7, 7, 7, 7, 7, 7, 7, 7, 7, 7, 7, 7, 7, 7, 7, 7, 7, 7, 7, 7, 7, 7, 7, 7, 7, 7, 7, 7, 7, 7, 7, 7, 7, 7, 7, 7, 7, 7, 7, 7, 7, 7, 7, 7, 7, 7, 7, 7, 7, 7, 8, 8, 8, 8, 8, 8, 8, 8, 8, 8, 8, 8, 8, 8, 8, 8, 8, 8, 8, 8, 8, 8, 8, 8, 8, 8, 8, 8, 8, 8, 8, 8, 8, 8, 8, 8, 8, 8, 8, 8, 8, 8, 8, 8, 8, 8, 8, 8, 8, 8, 8, 8, 8, 8, 8, 8, 8, 8, 8, 8, 8, 8, 8, 8, 8, 8, 8, 8, 8, 8, 8, 8, 8, 8, 8, 8, 8, 8, 8, 8, 8, 8, 8, 8, 8, 8, 8, 8, 8, 8, 8, 8, 8, 8, 8, 8, 8, 8, 8, 8, 8, 8, 8, 8, 8, 8, 8, 8, 8, 8, 8, 8, 8, 8, 8, 8, 8, 8, 8, 8, 8, 8, 8, 8, 8, 8, 8, 8]⟩)) (.t 21)⟩,
    ⟨(some 23), none, .conv .i64 (.t 22)⟩,
    ⟨(some 24), none, .bin .add (.t 19) (.t 23)⟩,
    ⟨(some 2), none, .asg (.t 24)⟩] [2] []
def if_math_bits_Len64 : IFun := ⟨[.t 2], [], (.seq ic_math_bits_Len64_r0 (.seq (.seq ic_math_bits_Len64_r1 (.cond (.t 4) (.seq ic_math_bits_Len64_r2 ic_math_bits_Len64_r3) .skip)) (.seq (.seq ic_math_bits_Len64_r4 (.cond (.t 8) (.seq ic_math_bits_Len64_r5 ic_math_bits_Len64_r6) .skip)) (.seq (.seq ic_math_bits_Len64_r7 (.cond (.t 14) (.seq ic_math_bits_Len64_r8 ic_math_bits_Len64_r9) .skip)) (.seq ic_math_bits_Len64_r10 .ret)))))⟩

def ic_slices_Clip_SSint_Sint__r0 : IC := .reg [
    ⟨(some 2), none, .asg (.c (.slice none 0 0))⟩] [0] []
def ic_slices_Clip_SSint_Sint__r1 : IC := .reg [
    ⟨(some 3), none, .mv (.t 0)⟩,
    ⟨(some 4), none, .mv (.t 0)⟩,
    ⟨(some 5), none, .len (.t 4)⟩,
    ⟨(some 6), none, .mv (.t 0)⟩,
    ⟨(some 7), none, .len (.t 6)⟩,
    ⟨(some 8), none, .slc 1 (.t 3) none (some (.t 5)) (some (.t 7))⟩,
    ⟨(some 2), none, .asgm (.t 8)⟩] [0, 2] []
def if_slices_Clip_SSint_Sint_ : IFun := ⟨[.t 2], [], (.seq ic_slices_Clip_SSint_Sint__r0 (.seq ic_slices_Clip_SSint_Sint__r1 .ret))⟩

def ic_slices_Clip_Simpl_Edge_impl_Edge__r0 : IC := .reg [
    ⟨(some 2), none, .asg (.c (.slice none 0 0))⟩] [0] []
def ic_slices_Clip_Simpl_Edge_impl_Edge__r1 : IC := .reg [
    ⟨(some 3), none, .mv (.t 0)⟩,
    ⟨(some 4), none, .mv (.t 0)⟩,
    ⟨(some 5), none, .len (.t 4)⟩,
    ⟨(some 6), none, .mv (.t 0)⟩,
    ⟨(some 7), none, .len (.t 6)⟩,
    ⟨(some 8), none, .slc 2 (.t 3) none (some (.t 5)) (some (.t 7))⟩,
    ⟨(some 2), none, .asgm (.t 8)⟩] [0, 2] []
def if_slices_Clip_Simpl_Edge_impl_Edge_ : IFun := ⟨[.t 2], [], (.seq ic_slices_Clip_Simpl_Edge_impl_Edge__r0 (.seq ic_slices_Clip_Simpl_Edge_impl_Edge__r1 .ret))⟩

def ic_slices_Clip_Simpl_Graph_impl_Graph__r0 : IC := .reg [
    ⟨(some 2), none, .asg (.c (.slice none 0 0))⟩] [0] []
def ic_slices_Clip_Simpl_Graph_impl_Graph__r1 : IC := .reg [
    ⟨(some 3), none, .mv (.t 0)⟩,
    ⟨(some 4), none, .mv (.t 0)⟩,
    ⟨(some 5), none, .len (.t 4)⟩,
    ⟨(some 6), none, .mv (.t 0)⟩,
    ⟨(some 7), none, .len (.t 6)⟩,
    ⟨(some 8), none, .slc 2 (.t 3) none (some (.t 5)) (some (.t 7))⟩,
    ⟨(some 2), none, .asgm (.t 8)⟩] [0, 2] []
def if_slices_Clip_Simpl_Graph_impl_Graph_ : IFun := ⟨[.t 2], [], (.seq ic_slices_Clip_Simpl_Graph_impl_Graph__r0 (.seq ic_slices_Clip_Simpl_Graph_impl_Graph__r1 .ret))⟩

def ic_slices_Clip_Sint_int__r0 : IC := .reg [
    ⟨(some 2), none, .asg (.c (.slice none 0 0))⟩] [0] []
def ic_slices_Clip_Sint_int__r1 : IC := .reg [
    ⟨(some 3), none, .mv (.t 0)⟩,
    ⟨(some 4), none, .mv (.t 0)⟩,
    ⟨(some 5), none, .len (.t 4)⟩,
    ⟨(some 6), none, .mv (.t 0)⟩,
    ⟨(some 7), none, .len (.t 6)⟩,
    ⟨(some 8), none, .slc 1 (.t 3) none (some (.t 5)) (some (.t 7))⟩,
    ⟨(some 2), none, .asgm (.t 8)⟩] [0, 2] []
def if_slices_Clip_Sint_int_ : IFun := ⟨[.t 2], [], (.seq ic_slices_Clip_Sint_int__r0 (.seq ic_slices_Clip_Sint_int__r1 .ret))⟩

def ic_slices_Clone_Simpl_Edge_impl_Edge__r0 : IC := .reg [
    ⟨(some 2), none, .nilo 2⟩] [0] []
def ic_slices_Clone_Simpl_Edge_impl_Edge__r1 : List IOp := [
    ⟨(some 3), none, .mv (.t 0)⟩]
def ic_slices_Clone_Simpl_Edge_impl_Edge__r2 : IC := .reg [
    ⟨(some 2), none, .nilo 2⟩] [2] []
def ic_slices_Clone_Simpl_Edge_impl_Edge__r3 : IC := .reg [
    ⟨(some 5), none, .bsl 2 [(vi 0), (vi 0)] 0 []⟩,
    ⟨(some 6), none, .mv (.t 0)⟩,
    ⟨(some 7), none, .app 2 (.t 5) (.t 6)⟩,
    ⟨(some 2), none, .asg (.t 7)⟩] [2] []
def if_slices_Clone_Simpl_Edge_impl_Edge_ : IFun := ⟨[.t 2], [], (.seq ic_slices_Clone_Simpl_Edge_impl_Edge__r0 (.nilc2 ic_slices_Clone_Simpl_Edge_impl_Edge__r1 (.t 3) 4 [0, 4] (.cond (.t 4) (.seq ic_slices_Clone_Simpl_Edge_impl_Edge__r2 .ret) .skip) (.seq ic_slices_Clone_Simpl_Edge_impl_Edge__r3 .ret)))⟩

def ic_slices_Clone_Sint_int__r0 : IC := .reg [
    ⟨(some 2), none, .nilo 1⟩] [0] []
def ic_slices_Clone_Sint_int__r1 : List IOp := [
    ⟨(some 3), none, .mv (.t 0)⟩]
def ic_slices_Clone_Sint_int__r2 : IC := .reg [
    ⟨(some 2), none, .nilo 1⟩] [2] []
def ic_slices_Clone_Sint_int__r3 : IC := .reg [
    ⟨(some 5), none, .bsl 1 [(vi 0)] 0 []⟩,
    ⟨(some 6), none, .mv (.t 0)⟩,
    ⟨(some 7), none, .app 1 (.t 5) (.t 6)⟩,
    ⟨(some 2), none, .asg (.t 7)⟩] [2] []
def if_slices_Clone_Sint_int_ : IFun := ⟨[.t 2], [], (.seq ic_slices_Clone_Sint_int__r0 (.nilc2 ic_slices_Clone_Sint_int__r1 (.t 3) 4 [0, 4] (.cond (.t 4) (.seq ic_slices_Clone_Sint_int__r2 .ret) .skip) (.seq ic_slices_Clone_Sint_int__r3 .ret)))⟩

def ic_slices_ContainsFunc_Sint_int__r0 : IC := .reg [
    ⟨(some 4), none, .asg (.c (.bool false))⟩] [0, 1] []
def ic_slices_ContainsFunc_Sint_int__r1 : IC := .reg [
    ⟨(some 5), none, .mv (.t 0)⟩,
    ⟨(some 6), none, .mv (.t 1)⟩,
    ⟨(some 7), none, .call l_slices_IndexFunc_Sint_int_ [(.rd, (.t 5)), (.val, (.t 6))] false⟩,
    ⟨(some 8), none, .bin .geq (.t 7) (.c (vi 0))⟩,
    ⟨(some 4), none, .asg (.t 8)⟩] [4] []
def if_slices_ContainsFunc_Sint_int_ : IFun := ⟨[.t 4], [], (.seq ic_slices_ContainsFunc_Sint_int__r0 (.seq ic_slices_ContainsFunc_Sint_int__r1 .ret))⟩

def ic_slices_IndexFunc_Sint_int__r0 : IC := .reg [
    ⟨(some 4), none, .asg (.c (vi 0))⟩] [0, 1] []
def ic_slices_IndexFunc_Sint_int__r1 : IC := .reg [
    ⟨(some 6), none, .mv (.t 0)⟩,
    ⟨(some 7), none, .len (.t 6)⟩,
    ⟨(some 8), none, .mv (.c (vi 0))⟩] [0, 1, 7, 8] []
def ic_slices_IndexFunc_Sint_int__r2 : IC := .reg [
    ⟨(some 9), none, .bin .lss (.t 8) (.t 7)⟩] [0, 1, 7, 8, 9] []
def ic_slices_IndexFunc_Sint_int__r3 : IC := .reg [
    ⟨(some 10), none, .asg (.t 8)⟩,
    ⟨(some 5), none, .asg (.t 10)⟩] [0, 1, 5, 7, 8] []
def ic_slices_IndexFunc_Sint_int__r4 : IC := .reg [
    ⟨(some 11), none, .mv (.t 1)⟩,
    ⟨(some 12), none, .mv (.t 0)⟩,
    ⟨(some 13), none, .mv (.t 5)⟩,
    ⟨(some 14), none, .iadr 1 (.t 12) (.t 13)⟩,
    ⟨(some 15), none, .load false 1 (.t 14)⟩,
    ⟨(some 16), none, .callv (.t 11) [(.val, (.t 15))]⟩] [0, 1, 5, 7, 8, 16] []
def ic_slices_IndexFunc_Sint_int__r5 : IC := .reg [
    ⟨(some 17), none, .mv (.t 5)⟩,
    ⟨(some 4), none, .asgm (.t 17)⟩] [4] []
def ic_slices_IndexFunc_Sint_int__r6 : IC := .reg [
    ⟨(some 18), none, .bin .add (.t 8) (.c (vi 1))⟩,
    ⟨(some 8), none, .asg (.t 18)⟩] [0, 1, 7, 8] []
def ic_slices_IndexFunc_Sint_int__l7 : IC := (.seq ic_slices_IndexFunc_Sint_int__r2 (.seq (.cond (.t 9) .skip (.exit 0)) (.seq (.block 1 (.seq ic_slices_IndexFunc_Sint_int__r3 (.seq ic_slices_IndexFunc_Sint_int__r4 (.cond (.t 16) (.seq ic_slices_IndexFunc_Sint_int__r5 .ret) .skip)))) ic_slices_IndexFunc_Sint_int__r6)))
def ic_slices_IndexFunc_Sint_int__r8 : IC := .reg [
    ⟨(some 4), none, .asg (.c (vi (-1)))⟩] [4] []
def if_slices_IndexFunc_Sint_int_ : IFun := ⟨[.t 4], [], (.seq ic_slices_IndexFunc_Sint_int__r0 (.seq (.seq ic_slices_IndexFunc_Sint_int__r1 (.block 0 (.loop ic_slices_IndexFunc_Sint_int__l7))) (.seq ic_slices_IndexFunc_Sint_int__r8 .ret)))⟩

def ic_slices_Min_Sint_int__r0 : IC := .reg [
    ⟨(some 2), none, .asg (.c (vi 0))⟩] [0] []
def ic_slices_Min_Sint_int__r1 : IC := .reg [
    ⟨(some 5), none, .mv (.t 0)⟩,
    ⟨(some 6), none, .len (.t 5)⟩,
    ⟨(some 7), none, .bin .lss (.t 6) (.c (vi 1))⟩] [0, 7] []
def ic_slices_Min_Sint_int__r2 : IC := .reg [
    ⟨(some 8), none, .halt⟩,
    ⟨none, none, .halt⟩] [0] []
def ic_slices_Min_Sint_int__r3 : IC := .reg [
    ⟨(some 9), none, .mv (.t 0)⟩,
    ⟨(some 10), none, .iadr 1 (.t 9) (.c (vi 0))⟩,
    ⟨(some 11), none, .load false 1 (.t 10)⟩,
    ⟨(some 3), none, .asg (.t 11)⟩] [0, 3] []
def ic_slices_Min_Sint_int__r4 : IC := .reg [
    ⟨(some 4), none, .asg (.c (vi 1))⟩] [0, 3, 4] []
def ic_slices_Min_Sint_int__r5 : IC := .reg [
    ⟨(some 12), none, .mv (.t 4)⟩,
    ⟨(some 13), none, .mv (.t 0)⟩,
    ⟨(some 14), none, .len (.t 13)⟩,
    ⟨(some 15), none, .bin .lss (.t 12) (.t 14)⟩] [0, 3, 4, 15] []
def ic_slices_Min_Sint_int__r6 : IC := .reg [
    ⟨(some 18), none, .mv (.t 3)⟩,
    ⟨(some 19), none, .mv (.t 0)⟩,
    ⟨(some 20), none, .mv (.t 4)⟩,
    ⟨(some 21), none, .iadr 1 (.t 19) (.t 20)⟩,
    ⟨(some 22), none, .load false 1 (.t 21)⟩,
    ⟨(some 23), none, .minmax true (.t 18) (.t 22)⟩,
    ⟨(some 3), none, .asg (.t 23)⟩] [0, 3, 4] []
def ic_slices_Min_Sint_int__r7 : IC := .reg [
    ⟨(some 16), none, .mv (.t 4)⟩,
    ⟨(some 17), none, .bin .add (.t 16) (.c (vi 1))⟩,
    ⟨(some 4), none, .asg (.t 17)⟩] [0, 3, 4] []
def ic_slices_Min_Sint_int__l8 : IC := (.seq (.seq ic_slices_Min_Sint_int__r5 (.cond (.t 15) .skip (.exit 0))) (.seq (.block 1 ic_slices_Min_Sint_int__r6) ic_slices_Min_Sint_int__r7))
def ic_slices_Min_Sint_int__r9 : IC := .reg [
    ⟨(some 24), none, .mv (.t 3)⟩,
    ⟨(some 2), none, .asgm (.t 24)⟩] [2] []
def if_slices_Min_Sint_int_ : IFun := ⟨[.t 2], [], (.seq ic_slices_Min_Sint_int__r0 (.seq (.seq ic_slices_Min_Sint_int__r1 (.cond (.t 7) ic_slices_Min_Sint_int__r2 .skip)) (.seq ic_slices_Min_Sint_int__r3 (.seq (.seq ic_slices_Min_Sint_int__r4 (.block 0 (.loop ic_slices_Min_Sint_int__l8))) (.seq ic_slices_Min_Sint_int__r9 .ret)))))⟩

def ic_slices_Reverse_Sint_int__r0 : IC := .reg [
    ⟨(some 4), none, .mv (.t 0)⟩,
    ⟨(some 5), none, .len (.t 4)⟩,
    ⟨(some 6), none, .bin .sub (.t 5) (.c (vi 1))⟩,
    ⟨(some 2), none, .asg (.c (vi 0))⟩,
    ⟨(some 3), none, .asg (.t 6)⟩] [0, 2, 3] []
def ic_slices_Reverse_Sint_int__r1 : IC := .reg [
    ⟨(some 7), none, .mv (.t 2)⟩,
    ⟨(some 8), none, .mv (.t 3)⟩,
    ⟨(some 9), none, .bin .lss (.t 7) (.t 8)⟩] [0, 2, 3, 9] []
def ic_slices_Reverse_Sint_int__r2 : IC := .reg [
    ⟨(some 14), none, .mv (.t 0)⟩,
    ⟨(some 15), none, .mv (.t 2)⟩,
    ⟨(some 16), none, .mv (.t 0)⟩,
    ⟨(some 17), none, .mv (.t 3)⟩,
    ⟨(some 18), none, .mv (.t 0)⟩,
    ⟨(some 19), none, .mv (.t 3)⟩,
    ⟨(some 20), none, .iadr 1 (.t 18) (.t 19)⟩,
    ⟨(some 21), none, .load false 1 (.t 20)⟩,
    ⟨(some 22), none, .mv (.t 0)⟩,
    ⟨(some 23), none, .mv (.t 2)⟩,
    ⟨(some 24), none, .iadr 1 (.t 22) (.t 23)⟩,
    ⟨(some 25), none, .load false 1 (.t 24)⟩,
    ⟨(some 26), none, .iadr 1 (.t 14) (.t 15)⟩,
    ⟨none, none, .store 1 (.t 26) (.t 21)⟩,
    ⟨(some 27), none, .iadr 1 (.t 16) (.t 17)⟩,
    ⟨none, none, .store 1 (.t 27) (.t 25)⟩] [0, 2, 3] []
def ic_slices_Reverse_Sint_int__r3 : IC := .reg [
    ⟨(some 10), none, .mv (.t 2)⟩,
    ⟨(some 11), none, .bin .add (.t 10) (.c (vi 1))⟩,
    ⟨(some 12), none, .mv (.t 3)⟩,
    ⟨(some 13), none, .bin .sub (.t 12) (.c (vi 1))⟩,
    ⟨(some 2), none, .asg (.t 11)⟩,
    ⟨(some 3), none, .asg (.t 13)⟩] [0, 2, 3] []
def ic_slices_Reverse_Sint_int__l4 : IC := (.seq (.seq ic_slices_Reverse_Sint_int__r1 (.cond (.t 9) .skip (.exit 0))) (.seq (.block 1 ic_slices_Reverse_Sint_int__r2) ic_slices_Reverse_Sint_int__r3))
def if_slices_Reverse_Sint_int_ : IFun := ⟨[], [0], (.seq ic_slices_Reverse_Sint_int__r0 (.block 0 (.loop ic_slices_Reverse_Sint_int__l4)))⟩

def ic_slices_Sort_Sint_int__r0 : IC := .reg [
    ⟨(some 3), none, .mv (.t 0)⟩,
    ⟨(some 4), none, .len (.t 3)⟩,
    ⟨(some 2), none, .asg (.t 4)⟩] [0, 2] []
def ic_slices_Sort_Sint_int__r1 : IC := .reg [
    ⟨(some 5), none, .mv (.t 0)⟩,
    ⟨(some 6), none, .mv (.t 2)⟩,
    ⟨(some 7), none, .mv (.t 2)⟩,
    ⟨(some 8), none, .conv .u64 (.t 7)⟩,
    ⟨(some 9), none, .call l_math_bits_Len [(.val, (.t 8))] true⟩,
    ⟨(some 10), none, .call l_slices_pdqsortOrdered_int_ [(.ld, (.t 5)), (.val, (.c (vi 0))), (.val, (.t 6)), (.val, (.t 9))] false⟩] [0] []
def if_slices_Sort_Sint_int_ : IFun := ⟨[], [0], (.seq ic_slices_Sort_Sint_int__r0 ic_slices_Sort_Sint_int__r1)⟩

def ic_slices_insertionSortOrdered_int__r0 : IC := .reg [
    ⟨(some 8), none, .mv (.t 1)⟩,
    ⟨(some 9), none, .bin .add (.t 8) (.c (vi 1))⟩,
    ⟨(some 6), none, .asg (.t 9)⟩] [0, 1, 2, 6] []
def ic_slices_insertionSortOrdered_int__r1 : IC := .reg [
    ⟨(some 10), none, .mv (.t 6)⟩,
    ⟨(some 11), none, .mv (.t 2)⟩,
    ⟨(some 12), none, .bin .lss (.t 10) (.t 11)⟩] [0, 1, 2, 6, 12] []
def ic_slices_insertionSortOrdered_int__r2 : IC := .reg [
    ⟨(some 15), none, .mv (.t 6)⟩,
    ⟨(some 7), none, .asg (.t 15)⟩] [0, 1, 2, 6, 7] []
def ic_slices_insertionSortOrdered_int__r3 : IC := .reg [
    ⟨(some 16), none, .mv (.t 7)⟩,
    ⟨(some 17), none, .mv (.t 1)⟩,
    ⟨(some 18), none, .bin .gtr (.t 16) (.t 17)⟩,
    ⟨(some 19), none, .asg (.t 18)⟩,
    ⟨(some 20), (some (19, true)), .mv (.t 0)⟩,
    ⟨(some 21), (some (19, true)), .mv (.t 7)⟩,
    ⟨(some 22), (some (19, true)), .iadr 1 (.t 20) (.t 21)⟩,
    ⟨(some 23), (some (19, true)), .load false 1 (.t 22)⟩,
    ⟨(some 24), (some (19, true)), .mv (.t 0)⟩,
    ⟨(some 25), (some (19, true)), .mv (.t 7)⟩,
    ⟨(some 26), (some (19, true)), .bin .sub (.t 25) (.c (vi 1))⟩,
    ⟨(some 27), (some (19, true)), .iadr 1 (.t 24) (.t 26)⟩,
    ⟨(some 28), (some (19, true)), .load false 1 (.t 27)⟩,
    ⟨(some 29), (some (19, true)), .call l_cmp_Less_int_ [(.val, (.t 23)), (.val, (.t 28))] true⟩,
    ⟨(some 30), none, .pick (.t 19) (.t 29) (.c (.bool false))⟩] [0, 1, 2, 6, 7, 30] []
def ic_slices_insertionSortOrdered_int__r4 : IC := .reg [
    ⟨(some 33), none, .mv (.t 0)⟩,
    ⟨(some 34), none, .mv (.t 7)⟩,
    ⟨(some 35), none, .mv (.t 0)⟩,
    ⟨(some 36), none, .mv (.t 7)⟩,
    ⟨(some 37), none, .bin .sub (.t 36) (.c (vi 1))⟩,
    ⟨(some 38), none, .mv (.t 0)⟩,
    ⟨(some 39), none, .mv (.t 7)⟩,
    ⟨(some 40), none, .bin .sub (.t 39) (.c (vi 1))⟩,
    ⟨(some 41), none, .iadr 1 (.t 38) (.t 40)⟩,
    ⟨(some 42), none, .load false 1 (.t 41)⟩,
    ⟨(some 43), none, .mv (.t 0)⟩,
    ⟨(some 44), none, .mv (.t 7)⟩,
    ⟨(some 45), none, .iadr 1 (.t 43) (.t 44)⟩,
    ⟨(some 46), none, .load false 1 (.t 45)⟩,
    ⟨(some 47), none, .iadr 1 (.t 33) (.t 34)⟩,
    ⟨none, none, .store 1 (.t 47) (.t 42)⟩,
    ⟨(some 48), none, .iadr 1 (.t 35) (.t 37)⟩,
    ⟨none, none, .store 1 (.t 48) (.t 46)⟩] [0, 1, 2, 6, 7] []
def ic_slices_insertionSortOrdered_int__r5 : IC := .reg [
    ⟨(some 31), none, .mv (.t 7)⟩,
    ⟨(some 32), none, .bin .sub (.t 31) (.c (vi 1))⟩,
    ⟨(some 7), none, .asg (.t 32)⟩] [0, 1, 2, 6, 7] []
def ic_slices_insertionSortOrdered_int__l6 : IC := (.seq (.seq ic_slices_insertionSortOrdered_int__r3 (.cond (.t 30) .skip (.exit 2))) (.seq (.block 3 ic_slices_insertionSortOrdered_int__r4) ic_slices_insertionSortOrdered_int__r5))
def ic_slices_insertionSortOrdered_int__r7 : IC := .reg [
    ⟨(some 13), none, .mv (.t 6)⟩,
    ⟨(some 14), none, .bin .add (.t 13) (.c (vi 1))⟩,
    ⟨(some 6), none, .asg (.t 14)⟩] [0, 1, 2, 6] []
def ic_slices_insertionSortOrdered_int__l8 : IC := (.seq (.seq ic_slices_insertionSortOrdered_int__r1 (.cond (.t 12) .skip (.exit 0))) (.seq (.block 1 (.seq ic_slices_insertionSortOrdered_int__r2 (.block 2 (.loop ic_slices_insertionSortOrdered_int__l6)))) ic_slices_insertionSortOrdered_int__r7))
def if_slices_insertionSortOrdered_int_ : IFun := ⟨[], [0], (.seq ic_slices_insertionSortOrdered_int__r0 (.block 0 (.loop ic_slices_insertionSortOrdered_int__l8)))⟩

def ic_slices_pdqsortOrdered_int__r0 : IC := .reg [
    ⟨(some 8), none, .asg (.c (.bool true))⟩] [0, 1, 2, 3, 8] []
def ic_slices_pdqsortOrdered_int__r1 : IC := .reg [
    ⟨(some 9), none, .asg (.c (.bool true))⟩] [0, 1, 2, 3, 8, 9] []
def ic_slices_pdqsortOrdered_int__r2 : IC := .reg [
    ⟨(some 19), none, .mv (.t 2)⟩,
    ⟨(some 20), none, .mv (.t 1)⟩,
    ⟨(some 21), none, .bin .sub (.t 19) (.t 20)⟩,
    ⟨(some 10), none, .asg (.t 21)⟩] [0, 1, 2, 3, 8, 9, 10] []
def ic_slices_pdqsortOrdered_int__r3 : IC := .reg [
    ⟨(some 22), none, .mv (.t 10)⟩,
    ⟨(some 23), none, .bin .leq (.t 22) (.c (vi 12))⟩] [0, 1, 2, 3, 8, 9, 10, 23] []
def ic_slices_pdqsortOrdered_int__r4 : IC := .reg [
    ⟨(some 24), none, .mv (.t 0)⟩,
    ⟨(some 25), none, .mv (.t 1)⟩,
    ⟨(some 26), none, .mv (.t 2)⟩,
    ⟨(some 27), none, .call l_slices_insertionSortOrdered_int_ [(.ld, (.t 24)), (.val, (.t 25)), (.val, (.t 26))] false⟩] [0] []
def ic_slices_pdqsortOrdered_int__r5 : IC := .reg [
    ⟨(some 28), none, .mv (.t 3)⟩,
    ⟨(some 29), none, .bin .eql (.t 28) (.c (vi 0))⟩] [0, 1, 2, 3, 8, 9, 10, 29] []
def ic_slices_pdqsortOrdered_int__r6 : IC := .reg [
    ⟨(some 30), none, .mv (.t 0)⟩,
    ⟨(some 31), none, .mv (.t 1)⟩,
    ⟨(some 32), none, .mv (.t 2)⟩,
    ⟨(some 33), none, .call l_slices_heapSortOrdered_int_ [(.ld, (.t 30)), (.val, (.t 31)), (.val, (.t 32))] false⟩] [0] []
def ic_slices_pdqsortOrdered_int__r7 : IC := .reg [
    ⟨(some 34), none, .mv (.t 8)⟩,
    ⟨(some 35), none, .unop .not (.t 34)⟩] [0, 1, 2, 3, 8, 9, 10, 35] []
def ic_slices_pdqsortOrdered_int__r8 : IC := .reg [
    ⟨(some 36), none, .mv (.t 0)⟩,
    ⟨(some 37), none, .mv (.t 1)⟩,
    ⟨(some 38), none, .mv (.t 2)⟩,
    ⟨(some 39), none, .call l_slices_breakPatternsOrdered_int_ [(.ld, (.t 36)), (.val, (.t 37)), (.val, (.t 38))] false⟩] [0, 1, 2, 3, 8, 9, 10] []
def ic_slices_pdqsortOrdered_int__r9 : IC := .reg [
    ⟨(some 40), none, .mv (.t 3)⟩,
    ⟨(some 41), none, .bin .sub (.t 40) (.c (vi 1))⟩,
    ⟨(some 3), none, .asg (.t 41)⟩] [0, 1, 2, 3, 8, 9, 10] []
def ic_slices_pdqsortOrdered_int__r10 : IC := .reg [
    ⟨(some 43), none, .mv (.t 0)⟩,
    ⟨(some 44), none, .mv (.t 1)⟩,
    ⟨(some 45), none, .mv (.t 2)⟩,
    ⟨(some 46), none, .call l_slices_choosePivotOrdered_int_ [(.rd, (.t 43)), (.val, (.t 44)), (.val, (.t 45))] true⟩,
    ⟨(some 42), none, .asg (.t 46)⟩,
    ⟨(some 47), none, .extr (.t 42) 0⟩,
    ⟨(some 48), none, .extr (.t 42) 1⟩,
    ⟨(some 11), none, .asg (.t 47)⟩,
    ⟨(some 12), none, .asg (.t 48)⟩] [0, 1, 2, 3, 8, 9, 10, 11, 12] []
def ic_slices_pdqsortOrdered_int__r11 : IC := .reg [
    ⟨(some 49), none, .mv (.t 12)⟩,
    ⟨(some 50), none, .bin .eql (.t 49) (.c (vi 2))⟩] [0, 1, 2, 3, 8, 9, 10, 11, 12, 50] []
def ic_slices_pdqsortOrdered_int__r12 : IC := .reg [
    ⟨(some 51), none, .mv (.t 0)⟩,
    ⟨(some 52), none, .mv (.t 1)⟩,
    ⟨(some 53), none, .mv (.t 2)⟩,
    ⟨(some 54), none, .call l_slices_reverseRangeOrdered_int_ [(.ld, (.t 51)), (.val, (.t 52)), (.val, (.t 53))] false⟩] [0, 1, 2, 3, 8, 9, 10, 11] []
def ic_slices_pdqsortOrdered_int__r13 : IC := .reg [
    ⟨(some 55), none, .mv (.t 2)⟩,
    ⟨(some 56), none, .bin .sub (.t 55) (.c (vi 1))⟩,
    ⟨(some 57), none, .mv (.t 11)⟩,
    ⟨(some 58), none, .mv (.t 1)⟩,
    ⟨(some 59), none, .bin .sub (.t 57) (.t 58)⟩,
    ⟨(some 60), none, .bin .sub (.t 56) (.t 59)⟩,
    ⟨(some 11), none, .asg (.t 60)⟩] [0, 1, 2, 3, 8, 9, 10, 11] []
def ic_slices_pdqsortOrdered_int__r14 : IC := .reg [
    ⟨(some 12), none, .asg (.c (vi 1))⟩] [0, 1, 2, 3, 8, 9, 10, 11, 12] []
def ic_slices_pdqsortOrdered_int__r15 : IC := .reg [
    ⟨(some 61), none, .mv (.t 8)⟩,
    ⟨(some 62), none, .asg (.t 61)⟩,
    ⟨(some 63), (some (62, true)), .mv (.t 9)⟩,
    ⟨(some 64), none, .pick (.t 62) (.t 63) (.c (.bool false))⟩,
    ⟨(some 65), none, .asg (.t 64)⟩,
    ⟨(some 66), (some (65, true)), .mv (.t 12)⟩,
    ⟨(some 67), (some (65, true)), .bin .eql (.t 66) (.c (vi 1))⟩,
    ⟨(some 68), none, .pick (.t 65) (.t 67) (.c (.bool false))⟩] [0, 1, 2, 3, 8, 9, 10, 11, 68] []
def ic_slices_pdqsortOrdered_int__r16 : IC := .reg [
    ⟨(some 69), none, .mv (.t 0)⟩,
    ⟨(some 70), none, .mv (.t 1)⟩,
    ⟨(some 71), none, .mv (.t 2)⟩,
    ⟨(some 72), none, .call l_slices_partialInsertionSortOrdered_int_ [(.ld, (.t 69)), (.val, (.t 70)), (.val, (.t 71))] false⟩] [0, 1, 2, 3, 8, 9, 10, 11, 72] []
def ic_slices_pdqsortOrdered_int__r17 : IC := .reg [
    ⟨(some 73), none, .mv (.t 1)⟩,
    ⟨(some 74), none, .bin .gtr (.t 73) (.c (vi 0))⟩,
    ⟨(some 75), none, .asg (.t 74)⟩,
    ⟨(some 76), (some (75, true)), .mv (.t 0)⟩,
    ⟨(some 77), (some (75, true)), .mv (.t 1)⟩,
    ⟨(some 78), (some (75, true)), .bin .sub (.t 77) (.c (vi 1))⟩,
    ⟨(some 79), (some (75, true)), .iadr 1 (.t 76) (.t 78)⟩,
    ⟨(some 80), (some (75, true)), .load false 1 (.t 79)⟩,
    ⟨(some 81), (some (75, true)), .mv (.t 0)⟩,
    ⟨(some 82), (some (75, true)), .mv (.t 11)⟩,
    ⟨(some 83), (some (75, true)), .iadr 1 (.t 81) (.t 82)⟩,
    ⟨(some 84), (some (75, true)), .load false 1 (.t 83)⟩,
    ⟨(some 85), (some (75, true)), .call l_cmp_Less_int_ [(.val, (.t 80)), (.val, (.t 84))] true⟩,
    ⟨(some 86), (some (75, true)), .unop .not (.t 85)⟩,
    ⟨(some 87), none, .pick (.t 75) (.t 86) (.c (.bool false))⟩] [0, 1, 2, 3, 8, 9, 10, 11, 87] []
def ic_slices_pdqsortOrdered_int__r18 : IC := .reg [
    ⟨(some 88), none, .mv (.t 0)⟩,
    ⟨(some 89), none, .mv (.t 1)⟩,
    ⟨(some 90), none, .mv (.t 2)⟩,
    ⟨(some 91), none, .mv (.t 11)⟩,
    ⟨(some 92), none, .call l_slices_partitionEqualOrdered_int_ [(.ld, (.t 88)), (.val, (.t 89)), (.val, (.t 90)), (.val, (.t 91))] false⟩,
    ⟨(some 13), none, .asg (.t 92)⟩] [0, 2, 3, 8, 9, 13] []
def ic_slices_pdqsortOrdered_int__r19 : IC := .reg [
    ⟨(some 93), none, .mv (.t 13)⟩,
    ⟨(some 1), none, .asgm (.t 93)⟩] [0, 1, 2, 3, 8, 9] []
def ic_slices_pdqsortOrdered_int__r20 : IC := .reg [
    ⟨(some 95), none, .mv (.t 0)⟩,
    ⟨(some 96), none, .mv (.t 1)⟩,
    ⟨(some 97), none, .mv (.t 2)⟩,
    ⟨(some 98), none, .mv (.t 11)⟩,
    ⟨(some 99), none, .call l_slices_partitionOrdered_int_ [(.ld, (.t 95)), (.val, (.t 96)), (.val, (.t 97)), (.val, (.t 98))] false⟩,
    ⟨(some 94), none, .asg (.t 99)⟩,
    ⟨(some 100), none, .extr (.t 94) 0⟩,
    ⟨(some 101), none, .extr (.t 94) 1⟩,
    ⟨(some 14), none, .asg (.t 100)⟩,
    ⟨(some 15), none, .asg (.t 101)⟩] [0, 1, 2, 3, 10, 14, 15] []
def ic_slices_pdqsortOrdered_int__r21 : IC := .reg [
    ⟨(some 102), none, .mv (.t 15)⟩,
    ⟨(some 9), none, .asgm (.t 102)⟩] [0, 1, 2, 3, 9, 10, 14] []
def ic_slices_pdqsortOrdered_int__r22 : IC := .reg [
    ⟨(some 103), none, .mv (.t 14)⟩,
    ⟨(some 104), none, .mv (.t 1)⟩,
    ⟨(some 105), none, .bin .sub (.t 103) (.t 104)⟩,
    ⟨(some 106), none, .mv (.t 2)⟩,
    ⟨(some 107), none, .mv (.t 14)⟩,
    ⟨(some 108), none, .bin .sub (.t 106) (.t 107)⟩,
    ⟨(some 16), none, .asg (.t 105)⟩,
    ⟨(some 17), none, .asg (.t 108)⟩] [0, 1, 2, 3, 9, 10, 14, 16, 17] []
def ic_slices_pdqsortOrdered_int__r23 : IC := .reg [
    ⟨(some 109), none, .mv (.t 10)⟩,
    ⟨(some 110), none, .bin .quo (.t 109) (.c (vi 8))⟩,
    ⟨(some 18), none, .asg (.t 110)⟩] [0, 1, 2, 3, 9, 14, 16, 17, 18] []
def ic_slices_pdqsortOrdered_int__r24 : IC := .reg [
    ⟨(some 111), none, .mv (.t 16)⟩,
    ⟨(some 112), none, .mv (.t 17)⟩,
    ⟨(some 113), none, .bin .lss (.t 111) (.t 112)⟩] [0, 1, 2, 3, 9, 14, 16, 17, 18, 113] []
def ic_slices_pdqsortOrdered_int__r25 : IC := .reg [
    ⟨(some 114), none, .mv (.t 16)⟩,
    ⟨(some 115), none, .mv (.t 18)⟩,
    ⟨(some 116), none, .bin .geq (.t 114) (.t 115)⟩,
    ⟨(some 8), none, .asg (.t 116)⟩] [0, 1, 2, 3, 8, 9, 14] []
def ic_slices_pdqsortOrdered_int__r26 : IC := .reg [
    ⟨(some 117), none, .mv (.t 0)⟩,
    ⟨(some 118), none, .mv (.t 1)⟩,
    ⟨(some 119), none, .mv (.t 14)⟩,
    ⟨(some 120), none, .mv (.t 3)⟩,
    ⟨(some 121), none, .call l_slices_pdqsortOrdered_int_ [(.ld, (.t 117)), (.val, (.t 118)), (.val, (.t 119)), (.val, (.t 120))] false⟩] [0, 2, 3, 8, 9, 14] []
def ic_slices_pdqsortOrdered_int__r27 : IC := .reg [
    ⟨(some 122), none, .mv (.t 14)⟩,
    ⟨(some 123), none, .bin .add (.t 122) (.c (vi 1))⟩,
    ⟨(some 1), none, .asg (.t 123)⟩] [0, 1, 2, 3, 8, 9] []
def ic_slices_pdqsortOrdered_int__r28 : IC := .reg [
    ⟨(some 124), none, .mv (.t 17)⟩,
    ⟨(some 125), none, .mv (.t 18)⟩,
    ⟨(some 126), none, .bin .geq (.t 124) (.t 125)⟩,
    ⟨(some 8), none, .asg (.t 126)⟩] [0, 1, 2, 3, 8, 9, 14] []
def ic_slices_pdqsortOrdered_int__r29 : IC := .reg [
    ⟨(some 127), none, .mv (.t 0)⟩,
    ⟨(some 128), none, .mv (.t 14)⟩,
    ⟨(some 129), none, .bin .add (.t 128) (.c (vi 1))⟩,
    ⟨(some 130), none, .mv (.t 2)⟩,
    ⟨(some 131), none, .mv (.t 3)⟩,
    ⟨(some 132), none, .call l_slices_pdqsortOrdered_int_ [(.ld, (.t 127)), (.val, (.t 129)), (.val, (.t 130)), (.val, (.t 131))] false⟩] [0, 1, 3, 8, 9, 14] []
def ic_slices_pdqsortOrdered_int__r30 : IC := .reg [
    ⟨(some 133), none, .mv (.t 14)⟩,
    ⟨(some 2), none, .asgm (.t 133)⟩] [0, 1, 2, 3, 8, 9] []
def ic_slices_pdqsortOrdered_int__l31 : IC := (.block 1 (.seq ic_slices_pdqsortOrdered_int__r2 (.seq (.seq ic_slices_pdqsortOrdered_int__r3 (.cond (.t 23) (.seq ic_slices_pdqsortOrdered_int__r4 .ret) .skip)) (.seq (.seq ic_slices_pdqsortOrdered_int__r5 (.cond (.t 29) (.seq ic_slices_pdqsortOrdered_int__r6 .ret) .skip)) (.seq (.seq ic_slices_pdqsortOrdered_int__r7 (.cond (.t 35) (.seq ic_slices_pdqsortOrdered_int__r8 ic_slices_pdqsortOrdered_int__r9) .skip)) (.seq ic_slices_pdqsortOrdered_int__r10 (.seq (.seq ic_slices_pdqsortOrdered_int__r11 (.cond (.t 50) (.seq ic_slices_pdqsortOrdered_int__r12 (.seq ic_slices_pdqsortOrdered_int__r13 ic_slices_pdqsortOrdered_int__r14)) .skip)) (.seq (.seq ic_slices_pdqsortOrdered_int__r15 (.cond (.t 68) (.seq ic_slices_pdqsortOrdered_int__r16 (.cond (.t 72) .ret .skip)) .skip)) (.seq (.seq ic_slices_pdqsortOrdered_int__r17 (.cond (.t 87) (.seq ic_slices_pdqsortOrdered_int__r18 (.seq ic_slices_pdqsortOrdered_int__r19 (.exit 1))) .skip)) (.seq ic_slices_pdqsortOrdered_int__r20 (.seq ic_slices_pdqsortOrdered_int__r21 (.seq ic_slices_pdqsortOrdered_int__r22 (.seq ic_slices_pdqsortOrdered_int__r23 (.seq ic_slices_pdqsortOrdered_int__r24 (.cond (.t 113) (.seq ic_slices_pdqsortOrdered_int__r25 (.seq ic_slices_pdqsortOrdered_int__r26 ic_slices_pdqsortOrdered_int__r27)) (.seq ic_slices_pdqsortOrdered_int__r28 (.seq ic_slices_pdqsortOrdered_int__r29 ic_slices_pdqsortOrdered_int__r30)))))))))))))))))
def if_slices_pdqsortOrdered_int_ : IFun := ⟨[], [0], (.seq ic_slices_pdqsortOrdered_int__r0 (.seq ic_slices_pdqsortOrdered_int__r1 (.block 0 (.loop ic_slices_pdqsortOrdered_int__l31))))⟩

def ic_spec_CountTrees_r0 : IC := .reg [
    ⟨(some 2), none, .asg (.c (vi 0))⟩] [0] []
def ic_spec_CountTrees_r1 : IC := .reg [
    ⟨(some 7), none, .mv (.t 0)⟩,
    ⟨(some 8), none, .call l_spec_validDegrees [(.rd, (.t 7))] true⟩,
    ⟨(some 9), none, .unop .not (.t 8)⟩] [0, 9] []
def ic_spec_CountTrees_r2 : IC := .reg [
    ⟨(some 2), none, .asg (.c (vi (-1)))⟩] [2] []
def ic_spec_CountTrees_r3 : IC := .reg [
    ⟨(some 10), none, .mv (.t 0)⟩,
    ⟨(some 11), none, .call l_spec_isTreeDegrees [(.rd, (.t 10))] true⟩,
    ⟨(some 12), none, .unop .not (.t 11)⟩] [0, 12] []
def ic_spec_CountTrees_r4 : IC := .reg [
    ⟨(some 2), none, .asg (.c (vi 0))⟩] [2] []
def ic_spec_CountTrees_r5 : IC := .reg [
    ⟨(some 3), none, .asg (.c (vi 1))⟩] [0, 3] []
def ic_spec_CountTrees_r6 : IC := .reg [
    ⟨(some 4), none, .asg (.c (vi 2))⟩] [0, 3, 4] []
def ic_spec_CountTrees_r7 : IC := .reg [
    ⟨(some 13), none, .mv (.t 4)⟩,
    ⟨(some 14), none, .mv (.t 0)⟩,
    ⟨(some 15), none, .len (.t 14)⟩,
    ⟨(some 16), none, .bin .sub (.t 15) (.c (vi 2))⟩,
    ⟨(some 17), none, .bin .leq (.t 13) (.t 16)⟩] [0, 3, 4, 17] []
def ic_spec_CountTrees_r8 : IC := .reg [
    ⟨(some 20), none, .mv (.t 3)⟩,
    ⟨(some 21), none, .mv (.t 4)⟩,
    ⟨(some 22), none, .bin .mul (.t 20) (.t 21)⟩,
    ⟨(some 3), none, .asg (.t 22)⟩] [0, 3, 4] []
def ic_spec_CountTrees_r9 : IC := .reg [
    ⟨(some 18), none, .mv (.t 4)⟩,
    ⟨(some 19), none, .bin .add (.t 18) (.c (vi 1))⟩,
    ⟨(some 4), none, .asg (.t 19)⟩] [0, 3, 4] []
def ic_spec_CountTrees_l10 : IC := (.seq (.seq ic_spec_CountTrees_r7 (.cond (.t 17) .skip (.exit 0))) (.seq (.block 1 ic_spec_CountTrees_r8) ic_spec_CountTrees_r9))
def ic_spec_CountTrees_r11 : IC := .reg [
    ⟨(some 5), none, .asg (.c (vi 0))⟩] [0, 3, 5] []
def ic_spec_CountTrees_r12 : IC := .reg [
    ⟨(some 23), none, .mv (.t 5)⟩,
    ⟨(some 24), none, .mv (.t 0)⟩,
    ⟨(some 25), none, .len (.t 24)⟩,
    ⟨(some 26), none, .bin .lss (.t 23) (.t 25)⟩] [0, 3, 5, 26] []
def ic_spec_CountTrees_r13 : IC := .reg [
    ⟨(some 6), none, .asg (.c (vi 2))⟩] [0, 3, 5, 6] []
def ic_spec_CountTrees_r14 : IC := .reg [
    ⟨(some 29), none, .mv (.t 6)⟩,
    ⟨(some 30), none, .mv (.t 0)⟩,
    ⟨(some 31), none, .mv (.t 5)⟩,
    ⟨(some 32), none, .iadr 1 (.t 30) (.t 31)⟩,
    ⟨(some 33), none, .load false 1 (.t 32)⟩,
    ⟨(some 34), none, .bin .lss (.t 29) (.t 33)⟩] [0, 3, 5, 6, 34] []
def ic_spec_CountTrees_r15 : IC := .reg [
    ⟨(some 37), none, .mv (.t 3)⟩,
    ⟨(some 38), none, .mv (.t 6)⟩,
    ⟨(some 39), none, .bin .quo (.t 37) (.t 38)⟩,
    ⟨(some 3), none, .asg (.t 39)⟩] [0, 3, 5, 6] []
def ic_spec_CountTrees_r16 : IC := .reg [
    ⟨(some 35), none, .mv (.t 6)⟩,
    ⟨(some 36), none, .bin .add (.t 35) (.c (vi 1))⟩,
    ⟨(some 6), none, .asg (.t 36)⟩] [0, 3, 5, 6] []
def ic_spec_CountTrees_l17 : IC := (.seq (.seq ic_spec_CountTrees_r14 (.cond (.t 34) .skip (.exit 4))) (.seq (.block 5 ic_spec_CountTrees_r15) ic_spec_CountTrees_r16))
def ic_spec_CountTrees_r18 : IC := .reg [
    ⟨(some 27), none, .mv (.t 5)⟩,
    ⟨(some 28), none, .bin .add (.t 27) (.c (vi 1))⟩,
    ⟨(some 5), none, .asg (.t 28)⟩] [0, 3, 5] []
def ic_spec_CountTrees_l19 : IC := (.seq (.seq ic_spec_CountTrees_r12 (.cond (.t 26) .skip (.exit 2))) (.seq (.block 3 (.seq ic_spec_CountTrees_r13 (.block 4 (.loop ic_spec_CountTrees_l17)))) ic_spec_CountTrees_r18))
def ic_spec_CountTrees_r20 : IC := .reg [
    ⟨(some 40), none, .mv (.t 3)⟩,
    ⟨(some 2), none, .asgm (.t 40)⟩] [2] []
def if_spec_CountTrees : IFun := ⟨[.t 2], [], (.seq ic_spec_CountTrees_r0 (.seq (.seq ic_spec_CountTrees_r1 (.cond (.t 9) (.seq ic_spec_CountTrees_r2 .ret) .skip)) (.seq (.seq ic_spec_CountTrees_r3 (.cond (.t 12) (.seq ic_spec_CountTrees_r4 .ret) .skip)) (.seq ic_spec_CountTrees_r5 (.seq (.seq ic_spec_CountTrees_r6 (.block 0 (.loop ic_spec_CountTrees_l10))) (.seq (.seq ic_spec_CountTrees_r11 (.block 2 (.loop ic_spec_CountTrees_l19))) (.seq ic_spec_CountTrees_r20 .ret)))))))⟩

def ic_spec_DrawCountTrees_r0 : IC := .reg [
    ⟨(some 2), none, .asg (.c (.slice none 0 0))⟩] [0] []
def ic_spec_DrawCountTrees_r1 : IC := .reg [
    ⟨(some 3), none, .mv (.t 0)⟩,
    ⟨(some 4), none, .call l_spec_DrawIsTreeDegrees [(.rd, (.t 3))] true⟩,
    ⟨(some 2), none, .asg (.t 4)⟩] [2] []
def if_spec_DrawCountTrees : IFun := ⟨[.t 2], [], (.seq ic_spec_DrawCountTrees_r0 (.seq ic_spec_DrawCountTrees_r1 .ret))⟩

def ic_spec_DrawIsTreeDegrees_r0 : IC := .reg [
    ⟨(some 2), none, .asg (.c (.slice none 0 0))⟩] [0] []
def ic_spec_DrawIsTreeDegrees_r1 : IC := .reg [
    ⟨(some 4), none, .mv (.t 0)⟩,
    ⟨(some 5), none, .call l_spec_newReader [(.rd, (.t 4))] false⟩,
    ⟨(some 3), none, .asg (.t 5)⟩] [3] []
def ic_spec_DrawIsTreeDegrees_r2 : IC := .reg [
    ⟨(some 6), none, .mv (.t 3)⟩,
    ⟨(some 7), none, .call l_spec_reader_pick [(.val, (.t 6)), (.val, (.c (vi 2)))] false⟩,
    ⟨(some 8), none, .bin .eql (.t 7) (.c (vi 0))⟩] [3, 8] []
def ic_spec_DrawIsTreeDegrees_r3 : IC := .reg [
    ⟨(some 9), none, .mv (.t 3)⟩,
    ⟨(some 10), none, .mv (.t 3)⟩,
    ⟨(some 11), none, .call l_spec_aTree [(.val, (.t 10))] false⟩,
    ⟨(some 12), none, .call l_spec_bent [(.val, (.t 9)), (.tk, (.t 11))] false⟩,
    ⟨(some 2), none, .asg (.t 12)⟩] [2] []
def ic_spec_DrawIsTreeDegrees_r4 : IC := .reg [
    ⟨(some 13), none, .mv (.t 3)⟩,
    ⟨(some 14), none, .call l_spec_someDegrees [(.val, (.t 13))] false⟩,
    ⟨(some 2), none, .asg (.t 14)⟩] [2] []
def if_spec_DrawIsTreeDegrees : IFun := ⟨[.t 2], [], (.seq ic_spec_DrawIsTreeDegrees_r0 (.seq ic_spec_DrawIsTreeDegrees_r1 (.seq (.seq ic_spec_DrawIsTreeDegrees_r2 (.cond (.t 8) (.seq ic_spec_DrawIsTreeDegrees_r3 .ret) .skip)) (.seq ic_spec_DrawIsTreeDegrees_r4 .ret))))⟩

def ic_spec_aGraph_r0 : IC := .reg [
    ⟨(some 4), none, .alloc [(vi 0), (.slice none 0 0)]⟩] [0, 1, 4] []
def ic_spec_aGraph_r1 : IC := .reg [
    ⟨(some 9), none, .mv (.t 1)⟩,
    ⟨(some 10), none, .bsl 2 [(vi 0), (vi 0)] 0 []⟩,
    ⟨(some 11), none, .build [(vi 0), (.slice none 0 0)] [(0, 1, (.t 9)), (1, 1, (.t 10))]⟩,
    ⟨(some 5), none, .alloc [(vi 0), (.slice none 0 0)]⟩,
    ⟨none, none, .store 2 (.t 5) (.t 11)⟩] [0, 1, 4, 5] []
def ic_spec_aGraph_r2 : IC := .reg [
    ⟨(some 12), none, .mv (.t 1)⟩,
    ⟨(some 13), none, .call l_spec_pairs [(.val, (.t 12))] true⟩,
    ⟨(some 6), none, .asg (.t 13)⟩] [0, 4, 5, 6] []
def ic_spec_aGraph_r3 : IC := .reg [
    ⟨(some 14), none, .mv (.t 0)⟩,
    ⟨(some 15), none, .call l_spec_reader_pick [(.val, (.t 14)), (.val, (.c (vi 3)))] false⟩,
    ⟨(some 16), none, .bin .add (.c (vi 2)) (.t 15)⟩,
    ⟨(some 7), none, .asg (.t 16)⟩] [0, 4, 5, 6, 7] []
def ic_spec_aGraph_r4 : IC := .reg [
    ⟨(some 8), none, .asg (.c (vi 0))⟩] [0, 4, 5, 6, 7, 8] []
def ic_spec_aGraph_r5 : IC := .reg [
    ⟨(some 17), none, .mv (.t 8)⟩,
    ⟨(some 18), none, .mv (.t 6)⟩,
    ⟨(some 19), none, .len (.t 18)⟩,
    ⟨(some 20), none, .bin .lss (.t 17) (.t 19)⟩] [0, 4, 5, 6, 7, 8, 20] []
def ic_spec_aGraph_r6 : IC := .reg [
    ⟨(some 23), none, .mv (.t 0)⟩,
    ⟨(some 24), none, .mv (.t 7)⟩,
    ⟨(some 25), none, .call l_spec_reader_pick [(.val, (.t 23)), (.val, (.t 24))] false⟩,
    ⟨(some 26), none, .bin .eql (.t 25) (.c (vi 0))⟩] [0, 4, 5, 6, 7, 8, 26] []
def ic_spec_aGraph_r7 : IC := .reg [
    ⟨(some 27), none, .fadr 1 (.t 5)⟩,
    ⟨(some 28), none, .load false 1 (.t 27)⟩,
    ⟨(some 29), none, .mv (.t 6)⟩,
    ⟨(some 30), none, .mv (.t 8)⟩,
    ⟨(some 31), none, .iadr 2 (.t 29) (.t 30)⟩,
    ⟨(some 32), none, .load true 2 (.t 31)⟩,
    ⟨(some 33), none, .bsl 2 [(vi 0), (vi 0)] 1 [(0, (.t 32))]⟩,
    ⟨(some 34), none, .app 2 (.t 28) (.t 33)⟩,
    ⟨(some 35), none, .fadr 1 (.t 5)⟩,
    ⟨none, none, .store 1 (.t 35) (.t 34)⟩] [0, 4, 5, 6, 7, 8] [[0, 2, 3, 4, 5, 6, 1, 7, 8, 9]]
def ic_spec_aGraph_r8 : IC := .reg [
    ⟨(some 21), none, .mv (.t 8)⟩,
    ⟨(some 22), none, .bin .add (.t 21) (.c (vi 1))⟩,
    ⟨(some 8), none, .asg (.t 22)⟩] [0, 4, 5, 6, 7, 8] []
def ic_spec_aGraph_l9 : IC := (.seq (.seq ic_spec_aGraph_r5 (.cond (.t 20) .skip (.exit 0))) (.seq (.block 1 (.seq ic_spec_aGraph_r6 (.cond (.t 26) ic_spec_aGraph_r7 .skip))) ic_spec_aGraph_r8))
def ic_spec_aGraph_r10 : IC := .reg [
    ⟨(some 36), none, .mv (.t 0)⟩,
    ⟨(some 37), none, .call l_spec_reader_pick [(.val, (.t 36)), (.val, (.c (vi 4)))] false⟩,
    ⟨(some 38), none, .bin .eql (.t 37) (.c (vi 0))⟩] [4, 5, 38] []
def ic_spec_aGraph_r11 : IC := .reg [
    ⟨(some 39), none, .load true 2 (.t 5)⟩,
    ⟨(some 40), none, .call l_spec_complement [(.rd, (.t 39))] true⟩,
    ⟨none, none, .store 2 (.t 4) (.t 40)⟩] [4] []
def ic_spec_aGraph_r12 : IC := .reg [
    ⟨(some 41), none, .load true 2 (.t 5)⟩,
    ⟨none, none, .store 2 (.t 4) (.t 41)⟩] [4] []
def if_spec_aGraph : IFun := ⟨[.c 4 2 true], [], (.seq ic_spec_aGraph_r0 (.seq ic_spec_aGraph_r1 (.seq ic_spec_aGraph_r2 (.seq ic_spec_aGraph_r3 (.seq (.seq ic_spec_aGraph_r4 (.block 0 (.loop ic_spec_aGraph_l9))) (.seq (.seq ic_spec_aGraph_r10 (.cond (.t 38) (.seq ic_spec_aGraph_r11 .ret) .skip)) (.seq ic_spec_aGraph_r12 .ret)))))))⟩

def ic_spec_aTree_r0 : IC := .reg [
    ⟨(some 2), none, .asg (.c (.slice none 0 0))⟩] [0] []
def ic_spec_aTree_r1 : IC := .reg [
    ⟨(some 6), none, .bsl 1 [(vi 0)] 0 []⟩,
    ⟨(some 3), none, .asg (.t 6)⟩] [0, 3] []
def ic_spec_aTree_r2 : IC := .reg [
    ⟨(some 7), none, .mv (.t 0)⟩,
    ⟨(some 8), none, .call l_spec_reader_pick [(.val, (.t 7)), (.val, (.c (vi 6)))] false⟩,
    ⟨(some 4), none, .asg (.t 8)⟩] [0, 3, 4] []
def ic_spec_aTree_r3 : IC := .reg [
    ⟨(some 5), none, .asg (.c (vi 0))⟩] [0, 3, 4, 5] []
def ic_spec_aTree_r4 : IC := .reg [
    ⟨(some 9), none, .mv (.t 5)⟩,
    ⟨(some 10), none, .mv (.t 4)⟩,
    ⟨(some 11), none, .bin .lss (.t 9) (.t 10)⟩] [0, 3, 4, 5, 11] []
def ic_spec_aTree_r5 : IC := .reg [
    ⟨(some 14), none, .mv (.t 3)⟩,
    ⟨(some 15), none, .mv (.t 0)⟩,
    ⟨(some 16), none, .mv (.t 4)⟩,
    ⟨(some 17), none, .bin .add (.t 16) (.c (vi 2))⟩,
    ⟨(some 18), none, .call l_spec_reader_pick [(.val, (.t 15)), (.val, (.t 17))] false⟩,
    ⟨(some 19), none, .bsl 1 [(vi 0)] 1 [(0, (.t 18))]⟩,
    ⟨(some 20), none, .app 1 (.t 14) (.t 19)⟩,
    ⟨(some 3), none, .asg (.t 20)⟩] [0, 3, 4, 5] []
def ic_spec_aTree_r6 : IC := .reg [
    ⟨(some 12), none, .mv (.t 5)⟩,
    ⟨(some 13), none, .bin .add (.t 12) (.c (vi 1))⟩,
    ⟨(some 5), none, .asg (.t 13)⟩] [0, 3, 4, 5] []
def ic_spec_aTree_l7 : IC := (.seq (.seq ic_spec_aTree_r4 (.cond (.t 11) .skip (.exit 0))) (.seq (.block 1 ic_spec_aTree_r5) ic_spec_aTree_r6))
def ic_spec_aTree_r8 : IC := .reg [
    ⟨(some 21), none, .mv (.t 3)⟩,
    ⟨(some 22), none, .call l_spec_codeTree [(.rd, (.t 21))] true⟩,
    ⟨(some 23), none, .call l_spec_degrees [(.rd, (.t 22))] true⟩,
    ⟨(some 2), none, .asg (.t 23)⟩] [2] []
def if_spec_aTree : IFun := ⟨[.t 2], [], (.seq ic_spec_aTree_r0 (.seq ic_spec_aTree_r1 (.seq ic_spec_aTree_r2 (.seq (.seq ic_spec_aTree_r3 (.block 0 (.loop ic_spec_aTree_l7))) (.seq ic_spec_aTree_r8 .ret)))))⟩

def ic_spec_addEdge_r0 : IC := .reg [
    ⟨(some 3), none, .box (.t 0)⟩,
    ⟨(some 6), none, .alloc [(vi 0), (.slice none 0 0)]⟩] [1, 2, 3, 6] []
def ic_spec_addEdge_r1 : IC := .reg [
    ⟨(some 10), none, .mv (.t 1)⟩,
    ⟨(some 11), none, .mv (.t 2)⟩,
    ⟨(some 12), none, .minmax true (.t 10) (.t 11)⟩,
    ⟨(some 13), none, .mv (.t 1)⟩,
    ⟨(some 14), none, .mv (.t 2)⟩,
    ⟨(some 15), none, .minmax false (.t 13) (.t 14)⟩,
    ⟨(some 16), none, .build [(vi 0), (vi 0)] [(0, 1, (.t 12)), (1, 1, (.t 15))]⟩,
    ⟨(some 7), none, .alloc [(vi 0), (vi 0)]⟩,
    ⟨none, none, .store 2 (.t 7) (.t 16)⟩] [3, 6, 7] []
def ic_spec_addEdge_r2 : IC := .reg [
    ⟨(some 8), none, .asg (.c (vi 0))⟩] [3, 6, 7, 8] []
def ic_spec_addEdge_r3 : IC := .reg [
    ⟨(some 17), none, .mv (.t 8)⟩,
    ⟨(some 18), none, .fadr 1 (.t 3)⟩,
    ⟨(some 19), none, .load false 1 (.t 18)⟩,
    ⟨(some 20), none, .len (.t 19)⟩,
    ⟨(some 21), none, .bin .lss (.t 17) (.t 20)⟩,
    ⟨(some 22), none, .asg (.t 21)⟩,
    ⟨(some 23), (some (22, true)), .fadr 1 (.t 3)⟩,
    ⟨(some 24), (some (22, true)), .load false 1 (.t 23)⟩,
    ⟨(some 25), (some (22, true)), .mv (.t 8)⟩,
    ⟨(some 26), (some (22, true)), .iadr 2 (.t 24) (.t 25)⟩,
    ⟨(some 27), (some (22, true)), .load true 2 (.t 26)⟩,
    ⟨(some 28), (some (22, true)), .load true 2 (.t 7)⟩,
    ⟨(some 29), (some (22, true)), .call l_spec_edgeBelow [(.val, (.t 27)), (.val, (.t 28))] true⟩,
    ⟨(some 30), none, .pick (.t 22) (.t 29) (.c (.bool false))⟩] [3, 6, 7, 8, 30] []
def ic_spec_addEdge_r4 : IC := .reg [
    ⟨(some 31), none, .mv (.t 8)⟩,
    ⟨(some 32), none, .bin .add (.t 31) (.c (vi 1))⟩,
    ⟨(some 8), none, .asg (.t 32)⟩] [3, 6, 7, 8] []
def ic_spec_addEdge_l5 : IC := (.seq (.seq ic_spec_addEdge_r3 (.cond (.t 30) .skip (.exit 0))) (.block 1 ic_spec_addEdge_r4))
def ic_spec_addEdge_r6 : IC := .reg [
    ⟨(some 33), none, .bsl 2 [(vi 0), (vi 0)] 0 []⟩,
    ⟨(some 34), none, .fadr 1 (.t 3)⟩,
    ⟨(some 35), none, .load false 1 (.t 34)⟩,
    ⟨(some 36), none, .mv (.t 8)⟩,
    ⟨(some 37), none, .slc 2 (.t 35) none (some (.t 36)) none⟩,
    ⟨(some 38), none, .app 2 (.t 33) (.t 37)⟩,
    ⟨(some 9), none, .asg (.t 38)⟩] [3, 6, 7, 8, 9] []
def ic_spec_addEdge_r7 : IC := .reg [
    ⟨(some 39), none, .fadr 0 (.t 3)⟩,
    ⟨(some 40), none, .load false 1 (.t 39)⟩,
    ⟨(some 41), none, .mv (.t 9)⟩,
    ⟨(some 42), none, .load true 2 (.t 7)⟩,
    ⟨(some 43), none, .bsl 2 [(vi 0), (vi 0)] 1 [(0, (.t 42))]⟩,
    ⟨(some 44), none, .app 2 (.t 41) (.t 43)⟩,
    ⟨(some 45), none, .fadr 1 (.t 3)⟩,
    ⟨(some 46), none, .load false 1 (.t 45)⟩,
    ⟨(some 47), none, .mv (.t 8)⟩,
    ⟨(some 48), none, .slc 2 (.t 46) (some (.t 47)) none none⟩,
    ⟨(some 49), none, .app 2 (.t 44) (.t 48)⟩,
    ⟨(some 50), none, .build [(vi 0), (.slice none 0 0)] [(0, 1, (.t 40)), (1, 1, (.t 49))]⟩,
    ⟨none, none, .store 2 (.t 6) (.t 50)⟩] [6] [[0, 1, 2, 3, 4, 6, 7, 5, 8, 9, 10, 11, 12], [0, 1, 2, 3, 6, 7, 4, 5, 8, 9, 10, 11, 12], [0, 2, 3, 4, 1, 5, 6, 7, 8, 9, 10, 11, 12], [0, 2, 3, 4, 1, 6, 7, 5, 8, 9, 10, 11, 12], [0, 2, 3, 6, 7, 4, 1, 5, 8, 9, 10, 11, 12], [0, 2, 3, 4, 5, 1, 6, 7, 8, 9, 10, 11, 12], [0, 2, 3, 4, 5, 6, 7, 8, 9, 10, 1, 11, 12], [0, 2, 3, 4, 6, 7, 5, 1, 8, 9, 10, 11, 12], [0, 2, 3, 4, 6, 7, 5, 8, 9, 10, 1, 11, 12], [0, 2, 3, 6, 7, 4, 5, 1, 8, 9, 10, 11, 12], [0, 2, 3, 6, 7, 4, 5, 8, 9, 10, 1, 11, 12]]
def if_spec_addEdge : IFun := ⟨[.c 6 2 true], [], (.seq ic_spec_addEdge_r0 (.seq ic_spec_addEdge_r1 (.seq ic_spec_addEdge_r2 (.seq (.block 0 (.loop ic_spec_addEdge_l5)) (.seq ic_spec_addEdge_r6 (.seq ic_spec_addEdge_r7 .ret))))))⟩

def ic_spec_bent_r0 : IC := .reg [
    ⟨(some 4), none, .asg (.c (.slice none 0 0))⟩] [0, 1] []
def ic_spec_bent_r1 : IC := .reg [
    ⟨(some 5), none, .mv (.t 0)⟩,
    ⟨(some 6), none, .call l_spec_reader_pick [(.val, (.t 5)), (.val, (.c (vi 24)))] false⟩,
    ⟨(some 7), none, .bin .eql (.t 6) (.c (vi 0))⟩] [0, 1, 7] []
def ic_spec_bent_r2 : IC := .reg [
    ⟨(some 8), none, .mv (.t 1)⟩,
    ⟨(some 9), none, .mv (.t 0)⟩,
    ⟨(some 10), none, .bsl 1 [(vi 0)] 4 [(0, (.c (vi (-1)))), (1, (.c (vi 7))), (2, (.c (vi 8))), (3, (.c (vi 0)))]⟩,
    ⟨(some 11), none, .call l_spec_reader_one [(.val, (.t 9)), (.rd, (.t 10))] false⟩,
    ⟨(some 12), none, .bsl 1 [(vi 0)] 1 [(0, (.t 11))]⟩,
    ⟨(some 13), none, .app 1 (.t 8) (.t 12)⟩,
    ⟨(some 4), none, .asg (.t 13)⟩] [1, 4] []
def ic_spec_bent_r3 : IC := .reg [
    ⟨(some 14), none, .mv (.t 1)⟩,
    ⟨(some 15), none, .len (.t 14)⟩,
    ⟨(some 16), none, .bin .gtr (.t 15) (.c (vi 0))⟩,
    ⟨(some 17), none, .asg (.t 16)⟩,
    ⟨(some 18), (some (17, true)), .mv (.t 0)⟩,
    ⟨(some 19), (some (17, true)), .call l_spec_reader_pick [(.val, (.t 18)), (.val, (.c (vi 30)))] false⟩,
    ⟨(some 20), (some (17, true)), .bin .eql (.t 19) (.c (vi 0))⟩,
    ⟨(some 21), none, .pick (.t 17) (.t 20) (.c (.bool false))⟩] [0, 1, 21] []
def ic_spec_bent_r4 : IC := .reg [
    ⟨(some 22), none, .mv (.t 1)⟩,
    ⟨(some 23), none, .mv (.t 0)⟩,
    ⟨(some 24), none, .mv (.t 1)⟩,
    ⟨(some 25), none, .len (.t 24)⟩,
    ⟨(some 26), none, .call l_spec_reader_pick [(.val, (.t 23)), (.val, (.t 25))] false⟩,
    ⟨(some 27), none, .mv (.t 0)⟩,
    ⟨(some 28), none, .bsl 1 [(vi 0)] 3 [(0, (.c (vi (-1)))), (1, (.c (vi 7))), (2, (.c (vi 6)))]⟩,
    ⟨(some 29), none, .call l_spec_reader_one [(.val, (.t 27)), (.rd, (.t 28))] false⟩,
    ⟨(some 30), none, .iadr 1 (.t 22) (.t 26)⟩,
    ⟨none, none, .store 1 (.t 30) (.t 29)⟩] [1] []
def ic_spec_bent_r5 : IC := .reg [
    ⟨(some 31), none, .mv (.t 1)⟩,
    ⟨(some 4), none, .asgm (.t 31)⟩] [1, 4] []
def if_spec_bent : IFun := ⟨[.t 4], [], (.seq ic_spec_bent_r0 (.seq (.seq ic_spec_bent_r1 (.cond (.t 7) (.seq ic_spec_bent_r2 .ret) .skip)) (.seq (.seq ic_spec_bent_r3 (.cond (.t 21) ic_spec_bent_r4 .skip)) (.seq ic_spec_bent_r5 .ret))))⟩

def ic_spec_codeTree_r0 : IC := .reg [
    ⟨(some 2), none, .alloc [(vi 0), (.slice none 0 0)]⟩] [0, 2] []
def ic_spec_codeTree_r1 : IC := .reg [
    ⟨(some 12), none, .mv (.t 0)⟩,
    ⟨(some 13), none, .len (.t 12)⟩,
    ⟨(some 14), none, .bin .add (.t 13) (.c (vi 2))⟩,
    ⟨(some 3), none, .asg (.t 14)⟩] [0, 2, 3] []
def ic_spec_codeTree_r2 : IC := .reg [
    ⟨(some 15), none, .mv (.t 3)⟩,
    ⟨(some 16), none, .bsl 2 [(vi 0), (vi 0)] 0 []⟩,
    ⟨(some 17), none, .build [(vi 0), (.slice none 0 0)] [(0, 1, (.t 15)), (1, 1, (.t 16))]⟩,
    ⟨(some 4), none, .alloc [(vi 0), (.slice none 0 0)]⟩,
    ⟨none, none, .store 2 (.t 4) (.t 17)⟩] [0, 2, 3, 4] []
def ic_spec_codeTree_r3 : IC := .reg [
    ⟨(some 18), none, .mv (.t 3)⟩,
    ⟨(some 19), none, .mksl 1 [(vi 0)] (.t 18) (.t 18)⟩,
    ⟨(some 5), none, .asg (.t 19)⟩] [0, 2, 3, 4, 5] []
def ic_spec_codeTree_r4 : IC := .reg [
    ⟨(some 6), none, .asg (.c (vi 0))⟩] [0, 2, 3, 4, 5, 6] []
def ic_spec_codeTree_r5 : IC := .reg [
    ⟨(some 20), none, .mv (.t 6)⟩,
    ⟨(some 21), none, .mv (.t 0)⟩,
    ⟨(some 22), none, .len (.t 21)⟩,
    ⟨(some 23), none, .bin .lss (.t 20) (.t 22)⟩] [0, 2, 3, 4, 5, 6, 23] []
def ic_spec_codeTree_r6 : IC := .reg [
    ⟨(some 26), none, .mv (.t 5)⟩,
    ⟨(some 27), none, .mv (.t 0)⟩,
    ⟨(some 28), none, .mv (.t 6)⟩,
    ⟨(some 29), none, .iadr 1 (.t 27) (.t 28)⟩,
    ⟨(some 30), none, .load false 1 (.t 29)⟩,
    ⟨(some 31), none, .mv (.t 5)⟩,
    ⟨(some 32), none, .mv (.t 0)⟩,
    ⟨(some 33), none, .mv (.t 6)⟩,
    ⟨(some 34), none, .iadr 1 (.t 32) (.t 33)⟩,
    ⟨(some 35), none, .load false 1 (.t 34)⟩,
    ⟨(some 36), none, .iadr 1 (.t 31) (.t 35)⟩,
    ⟨(some 37), none, .load false 1 (.t 36)⟩,
    ⟨(some 38), none, .bin .add (.t 37) (.c (vi 1))⟩,
    ⟨(some 39), none, .iadr 1 (.t 26) (.t 30)⟩,
    ⟨none, none, .store 1 (.t 39) (.t 38)⟩] [0, 2, 3, 4, 5, 6] []
def ic_spec_codeTree_r7 : IC := .reg [
    ⟨(some 24), none, .mv (.t 6)⟩,
    ⟨(some 25), none, .bin .add (.t 24) (.c (vi 1))⟩,
    ⟨(some 6), none, .asg (.t 25)⟩] [0, 2, 3, 4, 5, 6] []
def ic_spec_codeTree_l8 : IC := (.seq (.seq ic_spec_codeTree_r5 (.cond (.t 23) .skip (.exit 0))) (.seq (.block 1 ic_spec_codeTree_r6) ic_spec_codeTree_r7))
def ic_spec_codeTree_r9 : IC := .reg [
    ⟨(some 40), none, .bsl 1 [(vi 0)] 0 []⟩,
    ⟨(some 7), none, .asg (.t 40)⟩] [0, 2, 3, 4, 5, 7] []
def ic_spec_codeTree_r10 : IC := .reg [
    ⟨(some 8), none, .asg (.c (vi 0))⟩] [0, 2, 3, 4, 5, 7, 8] []
def ic_spec_codeTree_r11 : IC := .reg [
    ⟨(some 41), none, .mv (.t 8)⟩,
    ⟨(some 42), none, .mv (.t 0)⟩,
    ⟨(some 43), none, .len (.t 42)⟩,
    ⟨(some 44), none, .bin .lss (.t 41) (.t 43)⟩] [0, 2, 3, 4, 5, 7, 8, 44] []
def ic_spec_codeTree_r12 : IC := .reg [
    ⟨(some 9), none, .asg (.c (vi 0))⟩] [0, 2, 3, 4, 5, 7, 8, 9] []
def ic_spec_codeTree_r13 : IC := .reg [
    ⟨(some 47), none, .mv (.t 5)⟩,
    ⟨(some 48), none, .mv (.t 9)⟩,
    ⟨(some 49), none, .iadr 1 (.t 47) (.t 48)⟩,
    ⟨(some 50), none, .load false 1 (.t 49)⟩,
    ⟨(some 51), none, .bin .gtr (.t 50) (.c (vi 0))⟩,
    ⟨(some 52), none, .asg (.t 51)⟩,
    ⟨(some 53), (some (52, false)), .mv (.t 7)⟩,
    ⟨(some 54), (some (52, false)), .mv (.t 9)⟩,
    ⟨(some 55), (some (52, false)), .call l_spec_hasInt [(.rd, (.t 53)), (.val, (.t 54))] true⟩,
    ⟨(some 56), none, .pick (.t 52) (.c (.bool true)) (.t 55)⟩] [0, 2, 3, 4, 5, 7, 8, 9, 56] []
def ic_spec_codeTree_r14 : IC := .reg [
    ⟨(some 57), none, .mv (.t 9)⟩,
    ⟨(some 58), none, .bin .add (.t 57) (.c (vi 1))⟩,
    ⟨(some 9), none, .asg (.t 58)⟩] [0, 2, 3, 4, 5, 7, 8, 9] []
def ic_spec_codeTree_l15 : IC := (.seq (.seq ic_spec_codeTree_r13 (.cond (.t 56) .skip (.exit 4))) (.block 5 ic_spec_codeTree_r14))
def ic_spec_codeTree_r16 : IC := .reg [
    ⟨(some 59), none, .load true 2 (.t 4)⟩,
    ⟨(some 60), none, .mv (.t 9)⟩,
    ⟨(some 61), none, .mv (.t 0)⟩,
    ⟨(some 62), none, .mv (.t 8)⟩,
    ⟨(some 63), none, .iadr 1 (.t 61) (.t 62)⟩,
    ⟨(some 64), none, .load false 1 (.t 63)⟩,
    ⟨(some 65), none, .call l_spec_addEdge [(.rd, (.t 59)), (.val, (.t 60)), (.val, (.t 64))] true⟩,
    ⟨none, none, .store 2 (.t 4) (.t 65)⟩] [0, 2, 3, 4, 5, 7, 8, 9] []
def ic_spec_codeTree_r17 : IC := .reg [
    ⟨(some 66), none, .mv (.t 7)⟩,
    ⟨(some 67), none, .mv (.t 9)⟩,
    ⟨(some 68), none, .bsl 1 [(vi 0)] 1 [(0, (.t 67))]⟩,
    ⟨(some 69), none, .app 1 (.t 66) (.t 68)⟩,
    ⟨(some 7), none, .asg (.t 69)⟩] [0, 2, 3, 4, 5, 7, 8] []
def ic_spec_codeTree_r18 : IC := .reg [
    ⟨(some 70), none, .mv (.t 5)⟩,
    ⟨(some 71), none, .mv (.t 0)⟩,
    ⟨(some 72), none, .mv (.t 8)⟩,
    ⟨(some 73), none, .iadr 1 (.t 71) (.t 72)⟩,
    ⟨(some 74), none, .load false 1 (.t 73)⟩,
    ⟨(some 75), none, .mv (.t 5)⟩,
    ⟨(some 76), none, .mv (.t 0)⟩,
    ⟨(some 77), none, .mv (.t 8)⟩,
    ⟨(some 78), none, .iadr 1 (.t 76) (.t 77)⟩,
    ⟨(some 79), none, .load false 1 (.t 78)⟩,
    ⟨(some 80), none, .iadr 1 (.t 75) (.t 79)⟩,
    ⟨(some 81), none, .load false 1 (.t 80)⟩,
    ⟨(some 82), none, .bin .sub (.t 81) (.c (vi 1))⟩,
    ⟨(some 83), none, .iadr 1 (.t 70) (.t 74)⟩,
    ⟨none, none, .store 1 (.t 83) (.t 82)⟩] [0, 2, 3, 4, 5, 7, 8] []
def ic_spec_codeTree_r19 : IC := .reg [
    ⟨(some 45), none, .mv (.t 8)⟩,
    ⟨(some 46), none, .bin .add (.t 45) (.c (vi 1))⟩,
    ⟨(some 8), none, .asg (.t 46)⟩] [0, 2, 3, 4, 5, 7, 8] []
def ic_spec_codeTree_l20 : IC := (.seq (.seq ic_spec_codeTree_r11 (.cond (.t 44) .skip (.exit 2))) (.seq (.block 3 (.seq ic_spec_codeTree_r12 (.seq (.block 4 (.loop ic_spec_codeTree_l15)) (.seq ic_spec_codeTree_r16 (.seq ic_spec_codeTree_r17 ic_spec_codeTree_r18))))) ic_spec_codeTree_r19))
def ic_spec_codeTree_r21 : IC := .reg [
    ⟨(some 84), none, .bsl 1 [(vi 0)] 0 []⟩,
    ⟨(some 10), none, .asg (.t 84)⟩] [2, 3, 4, 7, 10] []
def ic_spec_codeTree_r22 : IC := .reg [
    ⟨(some 11), none, .asg (.c (vi 0))⟩] [2, 3, 4, 7, 10, 11] []
def ic_spec_codeTree_r23 : IC := .reg [
    ⟨(some 85), none, .mv (.t 11)⟩,
    ⟨(some 86), none, .mv (.t 3)⟩,
    ⟨(some 87), none, .bin .lss (.t 85) (.t 86)⟩] [2, 3, 4, 7, 10, 11, 87] []
def ic_spec_codeTree_r24 : IC := .reg [
    ⟨(some 90), none, .mv (.t 7)⟩,
    ⟨(some 91), none, .mv (.t 11)⟩,
    ⟨(some 92), none, .call l_spec_hasInt [(.rd, (.t 90)), (.val, (.t 91))] true⟩,
    ⟨(some 93), none, .unop .not (.t 92)⟩] [2, 3, 4, 7, 10, 11, 93] []
def ic_spec_codeTree_r25 : IC := .reg [
    ⟨(some 94), none, .mv (.t 10)⟩,
    ⟨(some 95), none, .mv (.t 11)⟩,
    ⟨(some 96), none, .bsl 1 [(vi 0)] 1 [(0, (.t 95))]⟩,
    ⟨(some 97), none, .app 1 (.t 94) (.t 96)⟩,
    ⟨(some 10), none, .asg (.t 97)⟩] [2, 3, 4, 7, 10, 11] []
def ic_spec_codeTree_r26 : IC := .reg [
    ⟨(some 88), none, .mv (.t 11)⟩,
    ⟨(some 89), none, .bin .add (.t 88) (.c (vi 1))⟩,
    ⟨(some 11), none, .asg (.t 89)⟩] [2, 3, 4, 7, 10, 11] []
def ic_spec_codeTree_l27 : IC := (.seq (.seq ic_spec_codeTree_r23 (.cond (.t 87) .skip (.exit 6))) (.seq (.block 7 (.seq ic_spec_codeTree_r24 (.cond (.t 93) ic_spec_codeTree_r25 .skip))) ic_spec_codeTree_r26))
def ic_spec_codeTree_r28 : IC := .reg [
    ⟨(some 98), none, .load true 2 (.t 4)⟩,
    ⟨(some 99), none, .mv (.t 10)⟩,
    ⟨(some 100), none, .iadr 1 (.t 99) (.c (vi 0))⟩,
    ⟨(some 101), none, .load false 1 (.t 100)⟩,
    ⟨(some 102), none, .mv (.t 10)⟩,
    ⟨(some 103), none, .iadr 1 (.t 102) (.c (vi 1))⟩,
    ⟨(some 104), none, .load false 1 (.t 103)⟩,
    ⟨(some 105), none, .call l_spec_addEdge [(.rd, (.t 98)), (.val, (.t 101)), (.val, (.t 104))] true⟩,
    ⟨none, none, .store 2 (.t 2) (.t 105)⟩] [2] []
def if_spec_codeTree : IFun := ⟨[.c 2 2 true], [], (.seq ic_spec_codeTree_r0 (.seq ic_spec_codeTree_r1 (.seq ic_spec_codeTree_r2 (.seq ic_spec_codeTree_r3 (.seq (.seq ic_spec_codeTree_r4 (.block 0 (.loop ic_spec_codeTree_l8))) (.seq ic_spec_codeTree_r9 (.seq (.seq ic_spec_codeTree_r10 (.block 2 (.loop ic_spec_codeTree_l20))) (.seq ic_spec_codeTree_r21 (.seq (.seq ic_spec_codeTree_r22 (.block 6 (.loop ic_spec_codeTree_l27))) (.seq ic_spec_codeTree_r28 .ret))))))))))⟩

def ic_spec_complement_r0 : IC := .reg [
    ⟨(some 1), none, .box (.t 0)⟩,
    ⟨(some 2), none, .alloc [(vi 0), (.slice none 0 0)]⟩] [1, 2] []
def ic_spec_complement_r1 : IC := .reg [
    ⟨(some 6), none, .fadr 0 (.t 1)⟩,
    ⟨(some 7), none, .load false 1 (.t 6)⟩,
    ⟨(some 8), none, .bsl 2 [(vi 0), (vi 0)] 0 []⟩,
    ⟨(some 9), none, .build [(vi 0), (.slice none 0 0)] [(0, 1, (.t 7)), (1, 1, (.t 8))]⟩,
    ⟨(some 3), none, .alloc [(vi 0), (.slice none 0 0)]⟩,
    ⟨none, none, .store 2 (.t 3) (.t 9)⟩] [1, 2, 3] []
def ic_spec_complement_r2 : IC := .reg [
    ⟨(some 10), none, .fadr 0 (.t 1)⟩,
    ⟨(some 11), none, .load false 1 (.t 10)⟩,
    ⟨(some 12), none, .call l_spec_pairs [(.val, (.t 11))] true⟩,
    ⟨(some 4), none, .asg (.t 12)⟩] [1, 2, 3, 4] []
def ic_spec_complement_r3 : IC := .reg [
    ⟨(some 5), none, .asg (.c (vi 0))⟩] [1, 2, 3, 4, 5] []
def ic_spec_complement_r4 : IC := .reg [
    ⟨(some 13), none, .mv (.t 5)⟩,
    ⟨(some 14), none, .mv (.t 4)⟩,
    ⟨(some 15), none, .len (.t 14)⟩,
    ⟨(some 16), none, .bin .lss (.t 13) (.t 15)⟩] [1, 2, 3, 4, 5, 16] []
def ic_spec_complement_r5 : IC := .reg [
    ⟨(some 19), none, .load true 2 (.t 1)⟩,
    ⟨(some 20), none, .mv (.t 4)⟩,
    ⟨(some 21), none, .mv (.t 5)⟩,
    ⟨(some 22), none, .iadr 2 (.t 20) (.t 21)⟩,
    ⟨(some 23), none, .fadr 0 (.t 22)⟩,
    ⟨(some 24), none, .load false 1 (.t 23)⟩,
    ⟨(some 25), none, .mv (.t 4)⟩,
    ⟨(some 26), none, .mv (.t 5)⟩,
    ⟨(some 27), none, .iadr 2 (.t 25) (.t 26)⟩,
    ⟨(some 28), none, .fadr 1 (.t 27)⟩,
    ⟨(some 29), none, .load false 1 (.t 28)⟩,
    ⟨(some 30), none, .call l_spec_hasEdge [(.rd, (.t 19)), (.val, (.t 24)), (.val, (.t 29))] true⟩,
    ⟨(some 31), none, .unop .not (.t 30)⟩] [1, 2, 3, 4, 5, 31] []
def ic_spec_complement_r6 : IC := .reg [
    ⟨(some 32), none, .fadr 1 (.t 3)⟩,
    ⟨(some 33), none, .load false 1 (.t 32)⟩,
    ⟨(some 34), none, .mv (.t 4)⟩,
    ⟨(some 35), none, .mv (.t 5)⟩,
    ⟨(some 36), none, .iadr 2 (.t 34) (.t 35)⟩,
    ⟨(some 37), none, .load true 2 (.t 36)⟩,
    ⟨(some 38), none, .bsl 2 [(vi 0), (vi 0)] 1 [(0, (.t 37))]⟩,
    ⟨(some 39), none, .app 2 (.t 33) (.t 38)⟩,
    ⟨(some 40), none, .fadr 1 (.t 3)⟩,
    ⟨none, none, .store 1 (.t 40) (.t 39)⟩] [1, 2, 3, 4, 5] [[0, 2, 3, 4, 5, 6, 1, 7, 8, 9]]
def ic_spec_complement_r7 : IC := .reg [
    ⟨(some 17), none, .mv (.t 5)⟩,
    ⟨(some 18), none, .bin .add (.t 17) (.c (vi 1))⟩,
    ⟨(some 5), none, .asg (.t 18)⟩] [1, 2, 3, 4, 5] []
def ic_spec_complement_l8 : IC := (.seq (.seq ic_spec_complement_r4 (.cond (.t 16) .skip (.exit 0))) (.seq (.block 1 (.seq ic_spec_complement_r5 (.cond (.t 31) ic_spec_complement_r6 .skip))) ic_spec_complement_r7))
def ic_spec_complement_r9 : IC := .reg [
    ⟨(some 41), none, .load true 2 (.t 3)⟩,
    ⟨none, none, .store 2 (.t 2) (.t 41)⟩] [2] []
def if_spec_complement : IFun := ⟨[.c 2 2 true], [], (.seq ic_spec_complement_r0 (.seq ic_spec_complement_r1 (.seq ic_spec_complement_r2 (.seq (.seq ic_spec_complement_r3 (.block 0 (.loop ic_spec_complement_l8))) (.seq ic_spec_complement_r9 .ret)))))⟩

def ic_spec_degrees_r0 : IC := .reg [
    ⟨(some 1), none, .box (.t 0)⟩,
    ⟨(some 2), none, .asg (.c (.slice none 0 0))⟩] [1] []
def ic_spec_degrees_r1 : IC := .reg [
    ⟨(some 5), none, .fadr 0 (.t 1)⟩,
    ⟨(some 6), none, .load false 1 (.t 5)⟩,
    ⟨(some 7), none, .mksl 1 [(vi 0)] (.t 6) (.t 6)⟩,
    ⟨(some 3), none, .asg (.t 7)⟩] [1, 3] []
def ic_spec_degrees_r2 : IC := .reg [
    ⟨(some 4), none, .asg (.c (vi 0))⟩] [1, 3, 4] []
def ic_spec_degrees_r3 : IC := .reg [
    ⟨(some 8), none, .mv (.t 4)⟩,
    ⟨(some 9), none, .fadr 1 (.t 1)⟩,
    ⟨(some 10), none, .load false 1 (.t 9)⟩,
    ⟨(some 11), none, .len (.t 10)⟩,
    ⟨(some 12), none, .bin .lss (.t 8) (.t 11)⟩] [1, 3, 4, 12] []
def ic_spec_degrees_r4 : IC := .reg [
    ⟨(some 15), none, .mv (.t 3)⟩,
    ⟨(some 16), none, .fadr 1 (.t 1)⟩,
    ⟨(some 17), none, .load false 1 (.t 16)⟩,
    ⟨(some 18), none, .mv (.t 4)⟩,
    ⟨(some 19), none, .iadr 2 (.t 17) (.t 18)⟩,
    ⟨(some 20), none, .fadr 0 (.t 19)⟩,
    ⟨(some 21), none, .load false 1 (.t 20)⟩,
    ⟨(some 22), none, .mv (.t 3)⟩,
    ⟨(some 23), none, .fadr 1 (.t 1)⟩,
    ⟨(some 24), none, .load false 1 (.t 23)⟩,
    ⟨(some 25), none, .mv (.t 4)⟩,
    ⟨(some 26), none, .iadr 2 (.t 24) (.t 25)⟩,
    ⟨(some 27), none, .fadr 0 (.t 26)⟩,
    ⟨(some 28), none, .load false 1 (.t 27)⟩,
    ⟨(some 29), none, .iadr 1 (.t 22) (.t 28)⟩,
    ⟨(some 30), none, .load false 1 (.t 29)⟩,
    ⟨(some 31), none, .bin .add (.t 30) (.c (vi 1))⟩,
    ⟨(some 32), none, .iadr 1 (.t 15) (.t 21)⟩,
    ⟨none, none, .store 1 (.t 32) (.t 31)⟩] [1, 3, 4] []
def ic_spec_degrees_r5 : IC := .reg [
    ⟨(some 33), none, .mv (.t 3)⟩,
    ⟨(some 34), none, .fadr 1 (.t 1)⟩,
    ⟨(some 35), none, .load false 1 (.t 34)⟩,
    ⟨(some 36), none, .mv (.t 4)⟩,
    ⟨(some 37), none, .iadr 2 (.t 35) (.t 36)⟩,
    ⟨(some 38), none, .fadr 1 (.t 37)⟩,
    ⟨(some 39), none, .load false 1 (.t 38)⟩,
    ⟨(some 40), none, .mv (.t 3)⟩,
    ⟨(some 41), none, .fadr 1 (.t 1)⟩,
    ⟨(some 42), none, .load false 1 (.t 41)⟩,
    ⟨(some 43), none, .mv (.t 4)⟩,
    ⟨(some 44), none, .iadr 2 (.t 42) (.t 43)⟩,
    ⟨(some 45), none, .fadr 1 (.t 44)⟩,
    ⟨(some 46), none, .load false 1 (.t 45)⟩,
    ⟨(some 47), none, .iadr 1 (.t 40) (.t 46)⟩,
    ⟨(some 48), none, .load false 1 (.t 47)⟩,
    ⟨(some 49), none, .bin .add (.t 48) (.c (vi 1))⟩,
    ⟨(some 50), none, .iadr 1 (.t 33) (.t 39)⟩,
    ⟨none, none, .store 1 (.t 50) (.t 49)⟩] [1, 3, 4] []
def ic_spec_degrees_r6 : IC := .reg [
    ⟨(some 13), none, .mv (.t 4)⟩,
    ⟨(some 14), none, .bin .add (.t 13) (.c (vi 1))⟩,
    ⟨(some 4), none, .asg (.t 14)⟩] [1, 3, 4] []
def ic_spec_degrees_l7 : IC := (.seq (.seq ic_spec_degrees_r3 (.cond (.t 12) .skip (.exit 0))) (.seq (.block 1 (.seq ic_spec_degrees_r4 ic_spec_degrees_r5)) ic_spec_degrees_r6))
def ic_spec_degrees_r8 : IC := .reg [
    ⟨(some 51), none, .mv (.t 3)⟩,
    ⟨(some 2), none, .asgm (.t 51)⟩] [2, 3] []
def if_spec_degrees : IFun := ⟨[.t 2], [], (.seq ic_spec_degrees_r0 (.seq ic_spec_degrees_r1 (.seq (.seq ic_spec_degrees_r2 (.block 0 (.loop ic_spec_degrees_l7))) (.seq ic_spec_degrees_r8 .ret))))⟩

def ic_spec_edgeBelow_r0 : IC := .reg [
    ⟨(some 2), none, .box (.t 0)⟩,
    ⟨(some 3), none, .box (.t 1)⟩,
    ⟨(some 4), none, .asg (.c (.bool false))⟩] [2, 3] []
def ic_spec_edgeBelow_r1 : IC := .reg [
    ⟨(some 5), none, .fadr 0 (.t 2)⟩,
    ⟨(some 6), none, .load false 1 (.t 5)⟩,
    ⟨(some 7), none, .fadr 0 (.t 3)⟩,
    ⟨(some 8), none, .load false 1 (.t 7)⟩,
    ⟨(some 9), none, .bin .lss (.t 6) (.t 8)⟩,
    ⟨(some 10), none, .asg (.t 9)⟩,
    ⟨(some 11), (some (10, false)), .fadr 0 (.t 2)⟩,
    ⟨(some 12), (some (10, false)), .load false 1 (.t 11)⟩,
    ⟨(some 13), (some (10, false)), .fadr 0 (.t 3)⟩,
    ⟨(some 14), (some (10, false)), .load false 1 (.t 13)⟩,
    ⟨(some 15), (some (10, false)), .bin .eql (.t 12) (.t 14)⟩,
    ⟨(some 16), (some (10, false)), .asg (.t 15)⟩,
    ⟨(some 17), (some (16, true)), .fadr 1 (.t 2)⟩,
    ⟨(some 18), (some (16, true)), .load false 1 (.t 17)⟩,
    ⟨(some 19), (some (16, true)), .fadr 1 (.t 3)⟩,
    ⟨(some 20), (some (16, true)), .load false 1 (.t 19)⟩,
    ⟨(some 21), (some (16, true)), .bin .lss (.t 18) (.t 20)⟩,
    ⟨(some 22), (some (10, false)), .pick (.t 16) (.t 21) (.c (.bool false))⟩,
    ⟨(some 23), none, .pick (.t 10) (.c (.bool true)) (.t 22)⟩,
    ⟨(some 4), none, .asg (.t 23)⟩] [4] []
def if_spec_edgeBelow : IFun := ⟨[.t 4], [], (.seq ic_spec_edgeBelow_r0 (.seq ic_spec_edgeBelow_r1 .ret))⟩

def ic_spec_goodDegrees_r0 : IC := .reg [
    ⟨(some 2), none, .asg (.c (.slice none 0 0))⟩] [0] []
def ic_spec_goodDegrees_r1 : IC := .reg [
    ⟨(some 4), none, .mv (.t 0)⟩,
    ⟨(some 5), none, .call l_spec_goodGraph [(.val, (.t 4))] false⟩,
    ⟨(some 6), none, .call l_spec_degrees [(.rd, (.t 5))] true⟩,
    ⟨(some 3), none, .asg (.t 6)⟩] [0, 3] []
def ic_spec_goodDegrees_r2 : IC := .reg [
    ⟨(some 7), none, .mv (.t 0)⟩,
    ⟨(some 8), none, .call l_spec_reader_pick [(.val, (.t 7)), (.val, (.c (vi 2)))] false⟩,
    ⟨(some 9), none, .bin .eql (.t 8) (.c (vi 0))⟩] [0, 3, 9] []
def ic_spec_goodDegrees_r3 : IC := .reg [
    ⟨(some 10), none, .mv (.t 0)⟩,
    ⟨(some 11), none, .mv (.t 3)⟩,
    ⟨(some 12), none, .call l_spec_lifted [(.val, (.t 10)), (.tk, (.t 11))] false⟩,
    ⟨(some 2), none, .asg (.t 12)⟩] [2, 3] []
def ic_spec_goodDegrees_r4 : IC := .reg [
    ⟨(some 13), none, .mv (.t 3)⟩,
    ⟨(some 2), none, .asgm (.t 13)⟩] [2, 3] []
def if_spec_goodDegrees : IFun := ⟨[.t 2], [], (.seq ic_spec_goodDegrees_r0 (.seq ic_spec_goodDegrees_r1 (.seq (.seq ic_spec_goodDegrees_r2 (.cond (.t 9) (.seq ic_spec_goodDegrees_r3 .ret) .skip)) (.seq ic_spec_goodDegrees_r4 .ret))))⟩

def ic_spec_goodGraph_r0 : IC := .reg [
    ⟨(some 2), none, .alloc [(vi 0), (.slice none 0 0)]⟩] [0, 2] []
def ic_spec_goodGraph_r1 : IC := .reg [
    ⟨(some 3), none, .mv (.t 0)⟩,
    ⟨(some 4), none, .mv (.t 0)⟩,
    ⟨(some 5), none, .bsl 1 [(vi 0)] 9 [(0, (.c (vi 5))), (1, (.c (vi 4))), (2, (.c (vi 6))), (3, (.c (vi 3))), (4, (.c (vi 5))), (5, (.c (vi 2))), (6, (.c (vi 7))), (7, (.c (vi 1))), (8, (.c (vi 0)))]⟩,
    ⟨(some 6), none, .call l_spec_reader_one [(.val, (.t 4)), (.rd, (.t 5))] false⟩,
    ⟨(some 7), none, .call l_spec_aGraph [(.val, (.t 3)), (.val, (.t 6))] false⟩,
    ⟨none, none, .store 2 (.t 2) (.t 7)⟩] [2] []
def if_spec_goodGraph : IFun := ⟨[.c 2 2 true], [], (.seq ic_spec_goodGraph_r0 (.seq ic_spec_goodGraph_r1 .ret))⟩

def ic_spec_hasEdge_r0 : IC := .reg [
    ⟨(some 3), none, .box (.t 0)⟩,
    ⟨(some 6), none, .asg (.c (.bool false))⟩] [1, 2, 3] []
def ic_spec_hasEdge_r1 : IC := .reg [
    ⟨(some 7), none, .asg (.c (vi 0))⟩] [1, 2, 3, 7] []
def ic_spec_hasEdge_r2 : IC := .reg [
    ⟨(some 9), none, .mv (.t 7)⟩,
    ⟨(some 10), none, .fadr 1 (.t 3)⟩,
    ⟨(some 11), none, .load false 1 (.t 10)⟩,
    ⟨(some 12), none, .len (.t 11)⟩,
    ⟨(some 13), none, .bin .lss (.t 9) (.t 12)⟩] [1, 2, 3, 7, 13] []
def ic_spec_hasEdge_r3 : IC := .reg [
    ⟨(some 16), none, .fadr 1 (.t 3)⟩,
    ⟨(some 17), none, .load false 1 (.t 16)⟩,
    ⟨(some 18), none, .mv (.t 7)⟩,
    ⟨(some 19), none, .iadr 2 (.t 17) (.t 18)⟩,
    ⟨(some 20), none, .load true 2 (.t 19)⟩,
    ⟨(some 8), none, .alloc [(vi 0), (vi 0)]⟩,
    ⟨none, none, .store 2 (.t 8) (.t 20)⟩] [1, 2, 3, 7, 8] []
def ic_spec_hasEdge_r4 : IC := .reg [
    ⟨(some 21), none, .fadr 0 (.t 8)⟩,
    ⟨(some 22), none, .load false 1 (.t 21)⟩,
    ⟨(some 23), none, .mv (.t 1)⟩,
    ⟨(some 24), none, .bin .eql (.t 22) (.t 23)⟩,
    ⟨(some 25), none, .asg (.t 24)⟩,
    ⟨(some 26), (some (25, true)), .fadr 1 (.t 8)⟩,
    ⟨(some 27), (some (25, true)), .load false 1 (.t 26)⟩,
    ⟨(some 28), (some (25, true)), .mv (.t 2)⟩,
    ⟨(some 29), (some (25, true)), .bin .eql (.t 27) (.t 28)⟩,
    ⟨(some 30), none, .pick (.t 25) (.t 29) (.c (.bool false))⟩,
    ⟨(some 31), none, .asg (.t 30)⟩,
    ⟨(some 32), (some (31, false)), .fadr 0 (.t 8)⟩,
    ⟨(some 33), (some (31, false)), .load false 1 (.t 32)⟩,
    ⟨(some 34), (some (31, false)), .mv (.t 2)⟩,
    ⟨(some 35), (some (31, false)), .bin .eql (.t 33) (.t 34)⟩,
    ⟨(some 36), (some (31, false)), .asg (.t 35)⟩,
    ⟨(some 37), (some (36, true)), .fadr 1 (.t 8)⟩,
    ⟨(some 38), (some (36, true)), .load false 1 (.t 37)⟩,
    ⟨(some 39), (some (36, true)), .mv (.t 1)⟩,
    ⟨(some 40), (some (36, true)), .bin .eql (.t 38) (.t 39)⟩,
    ⟨(some 41), (some (31, false)), .pick (.t 36) (.t 40) (.c (.bool false))⟩,
    ⟨(some 42), none, .pick (.t 31) (.c (.bool true)) (.t 41)⟩] [1, 2, 3, 7, 42] []
def ic_spec_hasEdge_r5 : IC := .reg [
    ⟨(some 6), none, .asg (.c (.bool true))⟩] [6] []
def ic_spec_hasEdge_r6 : IC := .reg [
    ⟨(some 14), none, .mv (.t 7)⟩,
    ⟨(some 15), none, .bin .add (.t 14) (.c (vi 1))⟩,
    ⟨(some 7), none, .asg (.t 15)⟩] [1, 2, 3, 7] []
def ic_spec_hasEdge_l7 : IC := (.seq (.seq ic_spec_hasEdge_r2 (.cond (.t 13) .skip (.exit 0))) (.seq (.block 1 (.seq ic_spec_hasEdge_r3 (.seq ic_spec_hasEdge_r4 (.cond (.t 42) (.seq ic_spec_hasEdge_r5 .ret) .skip)))) ic_spec_hasEdge_r6))
def ic_spec_hasEdge_r8 : IC := .reg [
    ⟨(some 6), none, .asg (.c (.bool false))⟩] [6] []
def if_spec_hasEdge : IFun := ⟨[.t 6], [], (.seq ic_spec_hasEdge_r0 (.seq (.seq ic_spec_hasEdge_r1 (.block 0 (.loop ic_spec_hasEdge_l7))) (.seq ic_spec_hasEdge_r8 .ret)))⟩

def ic_spec_hasInt_r0 : IC := .reg [
    ⟨(some 4), none, .asg (.c (.bool false))⟩] [0, 1] []
def ic_spec_hasInt_r1 : IC := .reg [
    ⟨(some 5), none, .asg (.c (vi 0))⟩] [0, 1, 5] []
def ic_spec_hasInt_r2 : IC := .reg [
    ⟨(some 6), none, .mv (.t 5)⟩,
    ⟨(some 7), none, .mv (.t 0)⟩,
    ⟨(some 8), none, .len (.t 7)⟩,
    ⟨(some 9), none, .bin .lss (.t 6) (.t 8)⟩] [0, 1, 5, 9] []
def ic_spec_hasInt_r3 : IC := .reg [
    ⟨(some 12), none, .mv (.t 0)⟩,
    ⟨(some 13), none, .mv (.t 5)⟩,
    ⟨(some 14), none, .iadr 1 (.t 12) (.t 13)⟩,
    ⟨(some 15), none, .load false 1 (.t 14)⟩,
    ⟨(some 16), none, .mv (.t 1)⟩,
    ⟨(some 17), none, .bin .eql (.t 15) (.t 16)⟩] [0, 1, 5, 17] []
def ic_spec_hasInt_r4 : IC := .reg [
    ⟨(some 4), none, .asg (.c (.bool true))⟩] [4] []
def ic_spec_hasInt_r5 : IC := .reg [
    ⟨(some 10), none, .mv (.t 5)⟩,
    ⟨(some 11), none, .bin .add (.t 10) (.c (vi 1))⟩,
    ⟨(some 5), none, .asg (.t 11)⟩] [0, 1, 5] []
def ic_spec_hasInt_l6 : IC := (.seq (.seq ic_spec_hasInt_r2 (.cond (.t 9) .skip (.exit 0))) (.seq (.block 1 (.seq ic_spec_hasInt_r3 (.cond (.t 17) (.seq ic_spec_hasInt_r4 .ret) .skip))) ic_spec_hasInt_r5))
def ic_spec_hasInt_r7 : IC := .reg [
    ⟨(some 4), none, .asg (.c (.bool false))⟩] [4] []
def if_spec_hasInt : IFun := ⟨[.t 4], [], (.seq ic_spec_hasInt_r0 (.seq (.seq ic_spec_hasInt_r1 (.block 0 (.loop ic_spec_hasInt_l6))) (.seq ic_spec_hasInt_r7 .ret)))⟩

def ic_spec_inRange_r0 : IC := .reg [
    ⟨(some 6), none, .asg (.c (.bool false))⟩] [0, 1, 2] []
def ic_spec_inRange_r1 : IC := .reg [
    ⟨(some 7), none, .mv (.t 1)⟩,
    ⟨(some 8), none, .mv (.t 0)⟩,
    ⟨(some 9), none, .bin .leq (.t 7) (.t 8)⟩,
    ⟨(some 10), none, .asg (.t 9)⟩,
    ⟨(some 11), (some (10, true)), .mv (.t 0)⟩,
    ⟨(some 12), (some (10, true)), .mv (.t 2)⟩,
    ⟨(some 13), (some (10, true)), .bin .leq (.t 11) (.t 12)⟩,
    ⟨(some 14), none, .pick (.t 10) (.t 13) (.c (.bool false))⟩,
    ⟨(some 6), none, .asg (.t 14)⟩] [6] []
def if_spec_inRange : IFun := ⟨[.t 6], [], (.seq ic_spec_inRange_r0 (.seq ic_spec_inRange_r1 .ret))⟩

def ic_spec_isTreeDegrees_r0 : IC := .reg [
    ⟨(some 2), none, .asg (.c (.bool false))⟩] [0] []
def ic_spec_isTreeDegrees_r1 : IC := .reg [
    ⟨(some 3), none, .mv (.t 0)⟩,
    ⟨(some 4), none, .len (.t 3)⟩,
    ⟨(some 5), none, .bin .eql (.t 4) (.c (vi 1))⟩,
    ⟨(some 6), none, .asg (.t 5)⟩,
    ⟨(some 7), (some (6, false)), .mv (.t 0)⟩,
    ⟨(some 8), (some (6, false)), .len (.t 7)⟩,
    ⟨(some 9), (some (6, false)), .bin .gtr (.t 8) (.c (vi 1))⟩,
    ⟨(some 10), (some (6, false)), .asg (.t 9)⟩,
    ⟨(some 11), (some (10, true)), .mv (.t 0)⟩,
    ⟨(some 12), (some (10, true)), .call l_spec_smallest [(.rd, (.t 11))] true⟩,
    ⟨(some 13), (some (10, true)), .bin .gtr (.t 12) (.c (vi 0))⟩,
    ⟨(some 14), (some (6, false)), .pick (.t 10) (.t 13) (.c (.bool false))⟩,
    ⟨(some 15), (some (6, false)), .asg (.t 14)⟩,
    ⟨(some 16), (some (15, true)), .mv (.t 0)⟩,
    ⟨(some 17), (some (15, true)), .call l_spec_sum [(.rd, (.t 16))] true⟩,
    ⟨(some 18), (some (15, true)), .mv (.t 0)⟩,
    ⟨(some 19), (some (15, true)), .len (.t 18)⟩,
    ⟨(some 20), (some (15, true)), .bin .sub (.t 19) (.c (vi 1))⟩,
    ⟨(some 21), (some (15, true)), .bin .mul (.c (vi 2)) (.t 20)⟩,
    ⟨(some 22), (some (15, true)), .bin .eql (.t 17) (.t 21)⟩,
    ⟨(some 23), (some (6, false)), .pick (.t 15) (.t 22) (.c (.bool false))⟩,
    ⟨(some 24), none, .pick (.t 6) (.c (.bool true)) (.t 23)⟩,
    ⟨(some 2), none, .asg (.t 24)⟩] [2] []
def if_spec_isTreeDegrees : IFun := ⟨[.t 2], [], (.seq ic_spec_isTreeDegrees_r0 (.seq ic_spec_isTreeDegrees_r1 .ret))⟩

def ic_spec_lifted_r0 : IC := .reg [
    ⟨(some 4), none, .asg (.c (.slice none 0 0))⟩] [0, 1] []
def ic_spec_lifted_r1 : IC := .reg [
    ⟨(some 7), none, .mv (.t 1)⟩,
    ⟨(some 8), none, .len (.t 7)⟩,
    ⟨(some 9), none, .bin .lss (.t 8) (.c (vi 2))⟩] [0, 1, 9] []
def ic_spec_lifted_r2 : IC := .reg [
    ⟨(some 10), none, .mv (.t 1)⟩,
    ⟨(some 4), none, .asgm (.t 10)⟩] [1, 4] []
def ic_spec_lifted_r3 : IC := .reg [
    ⟨(some 11), none, .mv (.t 0)⟩,
    ⟨(some 12), none, .bsl 1 [(vi 0)] 5 [(0, (.c (vi 0))), (1, (.c (vi 1))), (2, (.c (vi 2))), (3, (.c (vi 2))), (4, (.c (vi 3)))]⟩,
    ⟨(some 13), none, .call l_spec_reader_one [(.val, (.t 11)), (.rd, (.t 12))] false⟩,
    ⟨(some 5), none, .asg (.t 13)⟩] [0, 1, 5] []
def ic_spec_lifted_r4 : IC := .reg [
    ⟨(some 14), none, .mv (.t 5)⟩,
    ⟨(some 15), none, .bin .gtr (.t 14) (.c (vi 0))⟩] [0, 1, 5, 15] []
def ic_spec_lifted_r5 : IC := .reg [
    ⟨(some 18), none, .mv (.t 0)⟩,
    ⟨(some 19), none, .mv (.t 1)⟩,
    ⟨(some 20), none, .len (.t 19)⟩,
    ⟨(some 21), none, .call l_spec_reader_pick [(.val, (.t 18)), (.val, (.t 20))] false⟩,
    ⟨(some 6), none, .asg (.t 21)⟩] [0, 1, 5, 6] []
def ic_spec_lifted_r6 : IC := .reg [
    ⟨(some 22), none, .mv (.t 1)⟩,
    ⟨(some 23), none, .mv (.t 6)⟩,
    ⟨(some 24), none, .mv (.t 1)⟩,
    ⟨(some 25), none, .mv (.t 6)⟩,
    ⟨(some 26), none, .iadr 1 (.t 24) (.t 25)⟩,
    ⟨(some 27), none, .load false 1 (.t 26)⟩,
    ⟨(some 28), none, .mv (.t 0)⟩,
    ⟨(some 29), none, .bsl 1 [(vi 0)] 4 [(0, (.c (vi 1))), (1, (.c (vi (-1)))), (2, (.c (vi 1))), (3, (.c (vi 2)))]⟩,
    ⟨(some 30), none, .call l_spec_reader_one [(.val, (.t 28)), (.rd, (.t 29))] false⟩,
    ⟨(some 31), none, .bin .add (.t 27) (.t 30)⟩,
    ⟨(some 32), none, .minmax false (.t 31) (.c (vi 0))⟩,
    ⟨(some 33), none, .mv (.t 1)⟩,
    ⟨(some 34), none, .len (.t 33)⟩,
    ⟨(some 35), none, .bin .sub (.t 34) (.c (vi 1))⟩,
    ⟨(some 36), none, .minmax true (.t 32) (.t 35)⟩,
    ⟨(some 37), none, .iadr 1 (.t 22) (.t 23)⟩,
    ⟨none, none, .store 1 (.t 37) (.t 36)⟩] [0, 1, 5] [[0, 1, 2, 3, 4, 6, 7, 5, 8, 9, 10, 11, 12, 13, 14, 15, 16], [0, 1, 2, 3, 4, 6, 7, 8, 5, 9, 10, 11, 12, 13, 14, 15, 16]]
def ic_spec_lifted_r7 : IC := .reg [
    ⟨(some 16), none, .mv (.t 5)⟩,
    ⟨(some 17), none, .bin .sub (.t 16) (.c (vi 1))⟩,
    ⟨(some 5), none, .asg (.t 17)⟩] [0, 1, 5] []
def ic_spec_lifted_l8 : IC := (.seq (.seq ic_spec_lifted_r4 (.cond (.t 15) .skip (.exit 0))) (.seq (.block 1 (.seq ic_spec_lifted_r5 ic_spec_lifted_r6)) ic_spec_lifted_r7))
def ic_spec_lifted_r9 : IC := .reg [
    ⟨(some 38), none, .mv (.t 1)⟩,
    ⟨(some 4), none, .asgm (.t 38)⟩] [1, 4] []
def if_spec_lifted : IFun := ⟨[.t 4], [], (.seq ic_spec_lifted_r0 (.seq (.seq ic_spec_lifted_r1 (.cond (.t 9) (.seq ic_spec_lifted_r2 .ret) .skip)) (.seq (.seq ic_spec_lifted_r3 (.block 0 (.loop ic_spec_lifted_l8))) (.seq ic_spec_lifted_r9 .ret))))⟩

def ic_spec_newReader_r0 : IC := .reg [
    ⟨(some 2), none, .asg (.c (.pointer none))⟩] [0] []
def ic_spec_newReader_r1 : IC := .reg [
    ⟨(some 3), none, .mv (.t 0)⟩,
    ⟨(some 4), none, .len (.t 3)⟩,
    ⟨(some 5), none, .bin .gtr (.t 4) (.c (vi 2000))⟩] [0, 5] []
def ic_spec_newReader_r2 : IC := .reg [
    ⟨(some 6), none, .mv (.t 0)⟩,
    ⟨(some 7), none, .slc 1 (.t 6) none (some (.c (vi 2000))) none⟩,
    ⟨(some 0), none, .asgm (.t 7)⟩] [0] []
def ic_spec_newReader_r3 : IC := .reg [
    ⟨(some 8), none, .mv (.t 0)⟩,
    ⟨(some 9), none, .build [(.slice none 0 0), (vi 0)] [(0, 1, (.t 8))]⟩,
    ⟨(some 10), none, .box (.t 9)⟩,
    ⟨(some 2), none, .asg (.t 10)⟩] [2] []
def if_spec_newReader : IFun := ⟨[.t 2], [], (.seq ic_spec_newReader_r0 (.seq (.seq ic_spec_newReader_r1 (.cond (.t 5) ic_spec_newReader_r2 .skip)) (.seq ic_spec_newReader_r3 .ret)))⟩

def ic_spec_pairs_r0 : IC := .reg [
    ⟨(some 2), none, .asg (.c (.slice none 0 0))⟩] [0] []
def ic_spec_pairs_r1 : IC := .reg [
    ⟨(some 6), none, .bsl 2 [(vi 0), (vi 0)] 0 []⟩,
    ⟨(some 3), none, .asg (.t 6)⟩] [0, 3] []
def ic_spec_pairs_r2 : IC := .reg [
    ⟨(some 4), none, .asg (.c (vi 0))⟩] [0, 3, 4] []
def ic_spec_pairs_r3 : IC := .reg [
    ⟨(some 7), none, .mv (.t 4)⟩,
    ⟨(some 8), none, .mv (.t 0)⟩,
    ⟨(some 9), none, .bin .lss (.t 7) (.t 8)⟩] [0, 3, 4, 9] []
def ic_spec_pairs_r4 : IC := .reg [
    ⟨(some 12), none, .mv (.t 4)⟩,
    ⟨(some 13), none, .bin .add (.t 12) (.c (vi 1))⟩,
    ⟨(some 5), none, .asg (.t 13)⟩] [0, 3, 4, 5] []
def ic_spec_pairs_r5 : IC := .reg [
    ⟨(some 14), none, .mv (.t 5)⟩,
    ⟨(some 15), none, .mv (.t 0)⟩,
    ⟨(some 16), none, .bin .lss (.t 14) (.t 15)⟩] [0, 3, 4, 5, 16] []
def ic_spec_pairs_r6 : IC := .reg [
    ⟨(some 19), none, .mv (.t 3)⟩,
    ⟨(some 20), none, .mv (.t 4)⟩,
    ⟨(some 21), none, .mv (.t 5)⟩,
    ⟨(some 22), none, .build [(vi 0), (vi 0)] [(0, 1, (.t 20)), (1, 1, (.t 21))]⟩,
    ⟨(some 23), none, .bsl 2 [(vi 0), (vi 0)] 1 [(0, (.t 22))]⟩,
    ⟨(some 24), none, .app 2 (.t 19) (.t 23)⟩,
    ⟨(some 3), none, .asg (.t 24)⟩] [0, 3, 4, 5] []
def ic_spec_pairs_r7 : IC := .reg [
    ⟨(some 17), none, .mv (.t 5)⟩,
    ⟨(some 18), none, .bin .add (.t 17) (.c (vi 1))⟩,
    ⟨(some 5), none, .asg (.t 18)⟩] [0, 3, 4, 5] []
def ic_spec_pairs_l8 : IC := (.seq (.seq ic_spec_pairs_r5 (.cond (.t 16) .skip (.exit 2))) (.seq (.block 3 ic_spec_pairs_r6) ic_spec_pairs_r7))
def ic_spec_pairs_r9 : IC := .reg [
    ⟨(some 10), none, .mv (.t 4)⟩,
    ⟨(some 11), none, .bin .add (.t 10) (.c (vi 1))⟩,
    ⟨(some 4), none, .asg (.t 11)⟩] [0, 3, 4] []
def ic_spec_pairs_l10 : IC := (.seq (.seq ic_spec_pairs_r3 (.cond (.t 9) .skip (.exit 0))) (.seq (.block 1 (.seq ic_spec_pairs_r4 (.block 2 (.loop ic_spec_pairs_l8)))) ic_spec_pairs_r9))
def ic_spec_pairs_r11 : IC := .reg [
    ⟨(some 25), none, .mv (.t 3)⟩,
    ⟨(some 2), none, .asgm (.t 25)⟩] [2, 3] []
def if_spec_pairs : IFun := ⟨[.t 2], [], (.seq ic_spec_pairs_r0 (.seq ic_spec_pairs_r1 (.seq (.seq ic_spec_pairs_r2 (.block 0 (.loop ic_spec_pairs_l10))) (.seq ic_spec_pairs_r11 .ret))))⟩

def ic_spec_reader_one_r0 : IC := .reg [
    ⟨(some 4), none, .asg (.c (vi 0))⟩] [0, 1] []
def ic_spec_reader_one_r1 : IC := .reg [
    ⟨(some 5), none, .mv (.t 1)⟩,
    ⟨(some 6), none, .mv (.t 0)⟩,
    ⟨(some 7), none, .mv (.t 1)⟩,
    ⟨(some 8), none, .len (.t 7)⟩,
    ⟨(some 9), none, .call l_spec_reader_pick [(.val, (.t 6)), (.val, (.t 8))] false⟩,
    ⟨(some 10), none, .iadr 1 (.t 5) (.t 9)⟩,
    ⟨(some 11), none, .load false 1 (.t 10)⟩,
    ⟨(some 4), none, .asg (.t 11)⟩] [4] []
def if_spec_reader_one : IFun := ⟨[.t 4], [], (.seq ic_spec_reader_one_r0 (.seq ic_spec_reader_one_r1 .ret))⟩

def ic_spec_reader_pick_r0 : IC := .reg [
    ⟨(some 4), none, .asg (.c (vi 0))⟩] [0, 1] []
def ic_spec_reader_pick_r1 : IC := .reg [
    ⟨(some 7), none, .mv (.t 0)⟩,
    ⟨(some 8), none, .mv (.t 0)⟩,
    ⟨(some 9), none, .nilck (.t 8)⟩,
    ⟨(some 10), none, .fadr 1 (.t 9)⟩,
    ⟨(some 11), none, .load false 1 (.t 10)⟩,
    ⟨(some 12), none, .bin .add (.t 11) (.c (vi 1))⟩,
    ⟨(some 13), none, .nilck (.t 7)⟩,
    ⟨(some 14), none, .fadr 1 (.t 13)⟩,
    ⟨none, none, .store 1 (.t 14) (.t 12)⟩] [0, 1] []
def ic_spec_reader_pick_r2 : IC := .reg [
    ⟨(some 15), none, .mv (.t 1)⟩,
    ⟨(some 16), none, .bin .lss (.t 15) (.c (vi 1))⟩,
    ⟨(some 17), none, .asg (.t 16)⟩,
    ⟨(some 18), (some (17, false)), .mv (.t 0)⟩,
    ⟨(some 19), (some (17, false)), .nilck (.t 18)⟩,
    ⟨(some 20), (some (17, false)), .fadr 0 (.t 19)⟩,
    ⟨(some 21), (some (17, false)), .load false 1 (.t 20)⟩,
    ⟨(some 22), (some (17, false)), .len (.t 21)⟩,
    ⟨(some 23), (some (17, false)), .bin .eql (.t 22) (.c (vi 0))⟩,
    ⟨(some 24), none, .pick (.t 17) (.c (.bool true)) (.t 23)⟩] [0, 1, 24] []
def ic_spec_reader_pick_r3 : IC := .reg [
    ⟨(some 4), none, .asg (.c (vi 0))⟩] [4] []
def ic_spec_reader_pick_r4 : IC := .reg [
    ⟨(some 25), none, .mv (.t 0)⟩,
    ⟨(some 26), none, .nilck (.t 25)⟩,
    ⟨(some 27), none, .fadr 1 (.t 26)⟩,
    ⟨(some 28), none, .load false 1 (.t 27)⟩,
    ⟨(some 29), none, .bin .sub (.t 28) (.c (vi 1))⟩,
    ⟨(some 5), none, .asg (.t 29)⟩] [0, 1, 5] []
def ic_spec_reader_pick_r5 : IC := .reg [
    ⟨(some 30), none, .mv (.t 5)⟩,
    ⟨(some 31), none, .mv (.t 0)⟩,
    ⟨(some 32), none, .nilck (.t 31)⟩,
    ⟨(some 33), none, .fadr 0 (.t 32)⟩,
    ⟨(some 34), none, .load false 1 (.t 33)⟩,
    ⟨(some 35), none, .len (.t 34)⟩,
    ⟨(some 36), none, .bin .lss (.t 30) (.t 35)⟩] [0, 1, 5, 36] []
def ic_spec_reader_pick_r6 : IC := .reg [
    ⟨(some 37), none, .mv (.t 0)⟩,
    ⟨(some 38), none, .nilck (.t 37)⟩,
    ⟨(some 39), none, .fadr 0 (.t 38)⟩,
    ⟨(some 40), none, .load false 1 (.t 39)⟩,
    ⟨(some 41), none, .mv (.t 5)⟩,
    ⟨(some 42), none, .iadr 1 (.t 40) (.t 41)⟩,
    ⟨(some 43), none, .load false 1 (.t 42)⟩,
    ⟨(some 44), none, .conv .i64 (.t 43)⟩,
    ⟨(some 45), none, .mv (.t 1)⟩,
    ⟨(some 46), none, .bin .rem (.t 44) (.t 45)⟩,
    ⟨(some 4), none, .asg (.t 46)⟩] [4] []
def ic_spec_reader_pick_r7 : IC := .reg [
    ⟨(some 47), none, .mv (.t 0)⟩,
    ⟨(some 48), none, .nilck (.t 47)⟩,
    ⟨(some 49), none, .fadr 0 (.t 48)⟩,
    ⟨(some 50), none, .load false 1 (.t 49)⟩,
    ⟨(some 51), none, .mv (.t 5)⟩,
    ⟨(some 52), none, .mv (.t 0)⟩,
    ⟨(some 53), none, .nilck (.t 52)⟩,
    ⟨(some 54), none, .fadr 0 (.t 53)⟩,
    ⟨(some 55), none, .load false 1 (.t 54)⟩,
    ⟨(some 56), none, .len (.t 55)⟩,
    ⟨(some 57), none, .bin .rem (.t 51) (.t 56)⟩,
    ⟨(some 58), none, .iadr 1 (.t 50) (.t 57)⟩,
    ⟨(some 59), none, .load false 1 (.t 58)⟩,
    ⟨(some 60), none, .conv .i64 (.t 59)⟩,
    ⟨(some 61), none, .bin .mul (.t 60) (.c (vi 131))⟩,
    ⟨(some 62), none, .mv (.t 0)⟩,
    ⟨(some 63), none, .nilck (.t 62)⟩,
    ⟨(some 64), none, .fadr 0 (.t 63)⟩,
    ⟨(some 65), none, .load false 1 (.t 64)⟩,
    ⟨(some 66), none, .mv (.t 5)⟩,
    ⟨(some 67), none, .bin .mul (.t 66) (.c (vi 7))⟩,
    ⟨(some 68), none, .bin .add (.t 67) (.c (vi 3))⟩,
    ⟨(some 69), none, .mv (.t 0)⟩,
    ⟨(some 70), none, .nilck (.t 69)⟩,
    ⟨(some 71), none, .fadr 0 (.t 70)⟩,
    ⟨(some 72), none, .load false 1 (.t 71)⟩,
    ⟨(some 73), none, .len (.t 72)⟩,
    ⟨(some 74), none, .bin .rem (.t 68) (.t 73)⟩,
    ⟨(some 75), none, .iadr 1 (.t 65) (.t 74)⟩,
    ⟨(some 76), none, .load false 1 (.t 75)⟩,
    ⟨(some 77), none, .conv .i64 (.t 76)⟩,
    ⟨(some 78), none, .bin .mul (.t 77) (.c (vi 1117))⟩,
    ⟨(some 79), none, .bin .add (.t 61) (.t 78)⟩,
    ⟨(some 80), none, .mv (.t 5)⟩,
    ⟨(some 81), none, .bin .mul (.t 80) (.c (vi 29))⟩,
    ⟨(some 82), none, .bin .add (.t 79) (.t 81)⟩,
    ⟨(some 83), none, .mv (.t 5)⟩,
    ⟨(some 84), none, .mv (.t 0)⟩,
    ⟨(some 85), none, .nilck (.t 84)⟩,
    ⟨(some 86), none, .fadr 0 (.t 85)⟩,
    ⟨(some 87), none, .load false 1 (.t 86)⟩,
    ⟨(some 88), none, .len (.t 87)⟩,
    ⟨(some 89), none, .bin .quo (.t 83) (.t 88)⟩,
    ⟨(some 90), none, .bin .mul (.t 89) (.c (vi 53))⟩,
    ⟨(some 91), none, .bin .add (.t 82) (.t 90)⟩,
    ⟨(some 6), none, .asg (.t 91)⟩] [1, 6] []
def ic_spec_reader_pick_r8 : IC := .reg [
    ⟨(some 92), none, .mv (.t 6)⟩,
    ⟨(some 93), none, .mv (.t 6)⟩,
    ⟨(some 94), none, .bin .quo (.t 93) (.c (vi 64))⟩,
    ⟨(some 95), none, .bin .xor (.t 92) (.t 94)⟩,
    ⟨(some 6), none, .asg (.t 95)⟩] [1, 6] []
def ic_spec_reader_pick_r9 : IC := .reg [
    ⟨(some 96), none, .mv (.t 6)⟩,
    ⟨(some 97), none, .mv (.t 1)⟩,
    ⟨(some 98), none, .bin .rem (.t 96) (.t 97)⟩,
    ⟨(some 4), none, .asg (.t 98)⟩] [4] []
def if_spec_reader_pick : IFun := ⟨[.t 4], [], (.seq ic_spec_reader_pick_r0 (.seq ic_spec_reader_pick_r1 (.seq (.seq ic_spec_reader_pick_r2 (.cond (.t 24) (.seq ic_spec_reader_pick_r3 .ret) .skip)) (.seq ic_spec_reader_pick_r4 (.seq (.seq ic_spec_reader_pick_r5 (.cond (.t 36) (.seq ic_spec_reader_pick_r6 .ret) .skip)) (.seq ic_spec_reader_pick_r7 (.seq ic_spec_reader_pick_r8 (.seq ic_spec_reader_pick_r9 .ret))))))))⟩

def ic_spec_smallest_r0 : IC := .reg [
    ⟨(some 2), none, .asg (.c (vi 0))⟩] [0] []
def ic_spec_smallest_r1 : IC := .reg [
    ⟨(some 5), none, .mv (.t 0)⟩,
    ⟨(some 6), none, .iadr 1 (.t 5) (.c (vi 0))⟩,
    ⟨(some 7), none, .load false 1 (.t 6)⟩,
    ⟨(some 3), none, .asg (.t 7)⟩] [0, 3] []
def ic_spec_smallest_r2 : IC := .reg [
    ⟨(some 4), none, .asg (.c (vi 0))⟩] [0, 3, 4] []
def ic_spec_smallest_r3 : IC := .reg [
    ⟨(some 8), none, .mv (.t 4)⟩,
    ⟨(some 9), none, .mv (.t 0)⟩,
    ⟨(some 10), none, .len (.t 9)⟩,
    ⟨(some 11), none, .bin .lss (.t 8) (.t 10)⟩] [0, 3, 4, 11] []
def ic_spec_smallest_r4 : IC := .reg [
    ⟨(some 14), none, .mv (.t 3)⟩,
    ⟨(some 15), none, .mv (.t 0)⟩,
    ⟨(some 16), none, .mv (.t 4)⟩,
    ⟨(some 17), none, .iadr 1 (.t 15) (.t 16)⟩,
    ⟨(some 18), none, .load false 1 (.t 17)⟩,
    ⟨(some 19), none, .minmax true (.t 14) (.t 18)⟩,
    ⟨(some 3), none, .asg (.t 19)⟩] [0, 3, 4] []
def ic_spec_smallest_r5 : IC := .reg [
    ⟨(some 12), none, .mv (.t 4)⟩,
    ⟨(some 13), none, .bin .add (.t 12) (.c (vi 1))⟩,
    ⟨(some 4), none, .asg (.t 13)⟩] [0, 3, 4] []
def ic_spec_smallest_l6 : IC := (.seq (.seq ic_spec_smallest_r3 (.cond (.t 11) .skip (.exit 0))) (.seq (.block 1 ic_spec_smallest_r4) ic_spec_smallest_r5))
def ic_spec_smallest_r7 : IC := .reg [
    ⟨(some 20), none, .mv (.t 3)⟩,
    ⟨(some 2), none, .asgm (.t 20)⟩] [2] []
def if_spec_smallest : IFun := ⟨[.t 2], [], (.seq ic_spec_smallest_r0 (.seq ic_spec_smallest_r1 (.seq (.seq ic_spec_smallest_r2 (.block 0 (.loop ic_spec_smallest_l6))) (.seq ic_spec_smallest_r7 .ret))))⟩

def ic_spec_someDegrees_r0 : IC := .reg [
    ⟨(some 2), none, .asg (.c (.slice none 0 0))⟩] [0] []
def ic_spec_someDegrees_r1 : IC := .reg [
    ⟨(some 3), none, .mv (.t 0)⟩,
    ⟨(some 4), none, .mv (.t 0)⟩,
    ⟨(some 5), none, .call l_spec_goodDegrees [(.val, (.t 4))] false⟩,
    ⟨(some 6), none, .call l_spec_bent [(.val, (.t 3)), (.tk, (.t 5))] false⟩,
    ⟨(some 2), none, .asg (.t 6)⟩] [2] []
def if_spec_someDegrees : IFun := ⟨[.t 2], [], (.seq ic_spec_someDegrees_r0 (.seq ic_spec_someDegrees_r1 .ret))⟩

def ic_spec_sum_r0 : IC := .reg [
    ⟨(some 2), none, .asg (.c (vi 0))⟩] [0] []
def ic_spec_sum_r1 : IC := .reg [
    ⟨(some 3), none, .asg (.c (vi 0))⟩] [0, 3] []
def ic_spec_sum_r2 : IC := .reg [
    ⟨(some 4), none, .asg (.c (vi 0))⟩] [0, 3, 4] []
def ic_spec_sum_r3 : IC := .reg [
    ⟨(some 5), none, .mv (.t 4)⟩,
    ⟨(some 6), none, .mv (.t 0)⟩,
    ⟨(some 7), none, .len (.t 6)⟩,
    ⟨(some 8), none, .bin .lss (.t 5) (.t 7)⟩] [0, 3, 4, 8] []
def ic_spec_sum_r4 : IC := .reg [
    ⟨(some 11), none, .mv (.t 3)⟩,
    ⟨(some 12), none, .mv (.t 0)⟩,
    ⟨(some 13), none, .mv (.t 4)⟩,
    ⟨(some 14), none, .iadr 1 (.t 12) (.t 13)⟩,
    ⟨(some 15), none, .load false 1 (.t 14)⟩,
    ⟨(some 16), none, .bin .add (.t 11) (.t 15)⟩,
    ⟨(some 3), none, .asg (.t 16)⟩] [0, 3, 4] []
def ic_spec_sum_r5 : IC := .reg [
    ⟨(some 9), none, .mv (.t 4)⟩,
    ⟨(some 10), none, .bin .add (.t 9) (.c (vi 1))⟩,
    ⟨(some 4), none, .asg (.t 10)⟩] [0, 3, 4] []
def ic_spec_sum_l6 : IC := (.seq (.seq ic_spec_sum_r3 (.cond (.t 8) .skip (.exit 0))) (.seq (.block 1 ic_spec_sum_r4) ic_spec_sum_r5))
def ic_spec_sum_r7 : IC := .reg [
    ⟨(some 17), none, .mv (.t 3)⟩,
    ⟨(some 2), none, .asgm (.t 17)⟩] [2] []
def if_spec_sum : IFun := ⟨[.t 2], [], (.seq ic_spec_sum_r0 (.seq ic_spec_sum_r1 (.seq (.seq ic_spec_sum_r2 (.block 0 (.loop ic_spec_sum_l6))) (.seq ic_spec_sum_r7 .ret))))⟩

def ic_spec_validDegrees_r0 : IC := .reg [
    ⟨(some 2), none, .asg (.c (.bool false))⟩] [0] []
def ic_spec_validDegrees_r1 : IC := .reg [
    ⟨(some 3), none, .asg (.c (vi 0))⟩] [0, 3] []
def ic_spec_validDegrees_r2 : IC := .reg [
    ⟨(some 4), none, .mv (.t 3)⟩,
    ⟨(some 5), none, .mv (.t 0)⟩,
    ⟨(some 6), none, .len (.t 5)⟩,
    ⟨(some 7), none, .bin .lss (.t 4) (.t 6)⟩] [0, 3, 7] []
def ic_spec_validDegrees_r3 : IC := .reg [
    ⟨(some 10), none, .mv (.t 0)⟩,
    ⟨(some 11), none, .mv (.t 3)⟩,
    ⟨(some 12), none, .iadr 1 (.t 10) (.t 11)⟩,
    ⟨(some 13), none, .load false 1 (.t 12)⟩,
    ⟨(some 14), none, .mv (.t 0)⟩,
    ⟨(some 15), none, .len (.t 14)⟩,
    ⟨(some 16), none, .bin .sub (.t 15) (.c (vi 1))⟩,
    ⟨(some 17), none, .call l_spec_inRange [(.val, (.t 13)), (.val, (.c (vi 0))), (.val, (.t 16))] true⟩,
    ⟨(some 18), none, .unop .not (.t 17)⟩] [0, 3, 18] []
def ic_spec_validDegrees_r4 : IC := .reg [
    ⟨(some 2), none, .asg (.c (.bool false))⟩] [2] []
def ic_spec_validDegrees_r5 : IC := .reg [
    ⟨(some 8), none, .mv (.t 3)⟩,
    ⟨(some 9), none, .bin .add (.t 8) (.c (vi 1))⟩,
    ⟨(some 3), none, .asg (.t 9)⟩] [0, 3] []
def ic_spec_validDegrees_l6 : IC := (.seq (.seq ic_spec_validDegrees_r2 (.cond (.t 7) .skip (.exit 0))) (.seq (.block 1 (.seq ic_spec_validDegrees_r3 (.cond (.t 18) (.seq ic_spec_validDegrees_r4 .ret) .skip))) ic_spec_validDegrees_r5))
def ic_spec_validDegrees_r7 : IC := .reg [
    ⟨(some 19), none, .mv (.t 0)⟩,
    ⟨(some 20), none, .len (.t 19)⟩,
    ⟨(some 21), none, .bin .leq (.t 20) (.c (vi 7))⟩,
    ⟨(some 2), none, .asg (.t 21)⟩] [2] []
def if_spec_validDegrees : IFun := ⟨[.t 2], [], (.seq ic_spec_validDegrees_r0 (.seq (.seq ic_spec_validDegrees_r1 (.block 0 (.loop ic_spec_validDegrees_l6))) (.seq ic_spec_validDegrees_r7 .ret)))⟩

def tbl : List (Nat × IFun) := [(l_cmp_Less_int_, if_cmp_Less_int_), (l_cmp_isNaN_int_, if_cmp_isNaN_int_), (l_impl_AllRealizations, if_impl_AllRealizations), (l_impl_AllRealizations_F1, if_impl_AllRealizations_F1), (l_impl_CountTrees, if_impl_CountTrees), (l_impl_FirstFailing, if_impl_FirstFailing), (l_impl_FirstFailing_F1, if_impl_FirstFailing_F1), (l_impl_Graph_components, if_impl_Graph_components), (l_impl_Graph_roots, if_impl_Graph_roots), (l_impl_IsConnectable, if_impl_IsConnectable), (l_impl_IsConnected, if_impl_IsConnected), (l_impl_IsGraphic, if_impl_IsGraphic), (l_impl_IsTreeDegrees, if_impl_IsTreeDegrees), (l_impl_SlacksOf, if_impl_SlacksOf), (l_impl_SlacksOf_F1, if_impl_SlacksOf_F1), (l_impl_ValidDegrees, if_impl_ValidDegrees), (l_impl_ValidGraph, if_impl_ValidGraph), (l_impl_allIn, if_impl_allIn), (l_impl_allIn_F1, if_impl_allIn_F1), (l_impl_clone_impl_Edge_, if_impl_clone_impl_Edge_), (l_impl_clone_int_, if_impl_clone_int_), (l_impl_compareEdges, if_impl_compareEdges), (l_impl_each, if_impl_each), (l_impl_factorial, if_impl_factorial), (l_impl_falling, if_impl_falling), (l_impl_in, if_impl_in), (l_impl_indices, if_impl_indices), (l_impl_listed, if_impl_listed), (l_impl_pairs, if_impl_pairs), (l_impl_subgraphs, if_impl_subgraphs), (l_impl_subgraphs_F1, if_impl_subgraphs_F1), (l_impl_sum, if_impl_sum), (l_laws_FnCountTrees, if_laws_FnCountTrees), (l_math_bits_Len, if_math_bits_Len), (l_math_bits_Len64, if_math_bits_Len64), (l_slices_Clip_SSint_Sint_, if_slices_Clip_SSint_Sint_), (l_slices_Clip_Simpl_Edge_impl_Edge_, if_slices_Clip_Simpl_Edge_impl_Edge_), (l_slices_Clip_Simpl_Graph_impl_Graph_, if_slices_Clip_Simpl_Graph_impl_Graph_), (l_slices_Clip_Sint_int_, if_slices_Clip_Sint_int_), (l_slices_Clone_Simpl_Edge_impl_Edge_, if_slices_Clone_Simpl_Edge_impl_Edge_), (l_slices_Clone_Sint_int_, if_slices_Clone_Sint_int_), (l_slices_ContainsFunc_Sint_int_, if_slices_ContainsFunc_Sint_int_), (l_slices_IndexFunc_Sint_int_, if_slices_IndexFunc_Sint_int_), (l_slices_Min_Sint_int_, if_slices_Min_Sint_int_), (l_slices_Reverse_Sint_int_, if_slices_Reverse_Sint_int_), (l_slices_Sort_Sint_int_, if_slices_Sort_Sint_int_), (l_slices_insertionSortOrdered_int_, if_slices_insertionSortOrdered_int_), (l_slices_pdqsortOrdered_int_, if_slices_pdqsortOrdered_int_), (l_spec_CountTrees, if_spec_CountTrees), (l_spec_DrawCountTrees, if_spec_DrawCountTrees), (l_spec_DrawIsTreeDegrees, if_spec_DrawIsTreeDegrees), (l_spec_aGraph, if_spec_aGraph), (l_spec_aTree, if_spec_aTree), (l_spec_addEdge, if_spec_addEdge), (l_spec_bent, if_spec_bent), (l_spec_codeTree, if_spec_codeTree), (l_spec_complement, if_spec_complement), (l_spec_degrees, if_spec_degrees), (l_spec_edgeBelow, if_spec_edgeBelow), (l_spec_goodDegrees, if_spec_goodDegrees), (l_spec_goodGraph, if_spec_goodGraph), (l_spec_hasEdge, if_spec_hasEdge), (l_spec_hasInt, if_spec_hasInt), (l_spec_inRange, if_spec_inRange), (l_spec_isTreeDegrees, if_spec_isTreeDegrees), (l_spec_lifted, if_spec_lifted), (l_spec_newReader, if_spec_newReader), (l_spec_pairs, if_spec_pairs), (l_spec_reader_one, if_spec_reader_one), (l_spec_reader_pick, if_spec_reader_pick), (l_spec_smallest, if_spec_smallest), (l_spec_someDegrees, if_spec_someDegrees), (l_spec_sum, if_spec_sum), (l_spec_validDegrees, if_spec_validDegrees)]
def tb : Tbl := tbOf tbl
theorem tb_cmp_Less_int_ : tb l_cmp_Less_int_ = some if_cmp_Less_int_ := by kernel_rfl
theorem tb_cmp_isNaN_int_ : tb l_cmp_isNaN_int_ = some if_cmp_isNaN_int_ := by kernel_rfl
theorem tb_impl_AllRealizations : tb l_impl_AllRealizations = some if_impl_AllRealizations := by kernel_rfl
theorem tb_impl_AllRealizations_F1 : tb l_impl_AllRealizations_F1 = some if_impl_AllRealizations_F1 := by kernel_rfl
theorem tb_impl_CountTrees : tb l_impl_CountTrees = some if_impl_CountTrees := by kernel_rfl
theorem tb_impl_FirstFailing : tb l_impl_FirstFailing = some if_impl_FirstFailing := by kernel_rfl
theorem tb_impl_FirstFailing_F1 : tb l_impl_FirstFailing_F1 = some if_impl_FirstFailing_F1 := by kernel_rfl
theorem tb_impl_Graph_components : tb l_impl_Graph_components = some if_impl_Graph_components := by kernel_rfl
theorem tb_impl_Graph_roots : tb l_impl_Graph_roots = some if_impl_Graph_roots := by kernel_rfl
theorem tb_impl_IsConnectable : tb l_impl_IsConnectable = some if_impl_IsConnectable := by kernel_rfl
theorem tb_impl_IsConnected : tb l_impl_IsConnected = some if_impl_IsConnected := by kernel_rfl
theorem tb_impl_IsGraphic : tb l_impl_IsGraphic = some if_impl_IsGraphic := by kernel_rfl
theorem tb_impl_IsTreeDegrees : tb l_impl_IsTreeDegrees = some if_impl_IsTreeDegrees := by kernel_rfl
theorem tb_impl_SlacksOf : tb l_impl_SlacksOf = some if_impl_SlacksOf := by kernel_rfl
theorem tb_impl_SlacksOf_F1 : tb l_impl_SlacksOf_F1 = some if_impl_SlacksOf_F1 := by kernel_rfl
theorem tb_impl_ValidDegrees : tb l_impl_ValidDegrees = some if_impl_ValidDegrees := by kernel_rfl
theorem tb_impl_ValidGraph : tb l_impl_ValidGraph = some if_impl_ValidGraph := by kernel_rfl
theorem tb_impl_allIn : tb l_impl_allIn = some if_impl_allIn := by kernel_rfl
theorem tb_impl_allIn_F1 : tb l_impl_allIn_F1 = some if_impl_allIn_F1 := by kernel_rfl
theorem tb_impl_clone_impl_Edge_ : tb l_impl_clone_impl_Edge_ = some if_impl_clone_impl_Edge_ := by kernel_rfl
theorem tb_impl_clone_int_ : tb l_impl_clone_int_ = some if_impl_clone_int_ := by kernel_rfl
theorem tb_impl_compareEdges : tb l_impl_compareEdges = some if_impl_compareEdges := by kernel_rfl
theorem tb_impl_each : tb l_impl_each = some if_impl_each := by kernel_rfl
theorem tb_impl_factorial : tb l_impl_factorial = some if_impl_factorial := by kernel_rfl
theorem tb_impl_falling : tb l_impl_falling = some if_impl_falling := by kernel_rfl
theorem tb_impl_in : tb l_impl_in = some if_impl_in := by kernel_rfl
theorem tb_impl_indices : tb l_impl_indices = some if_impl_indices := by kernel_rfl
theorem tb_impl_listed : tb l_impl_listed = some if_impl_listed := by kernel_rfl
theorem tb_impl_pairs : tb l_impl_pairs = some if_impl_pairs := by kernel_rfl
theorem tb_impl_subgraphs : tb l_impl_subgraphs = some if_impl_subgraphs := by kernel_rfl
theorem tb_impl_subgraphs_F1 : tb l_impl_subgraphs_F1 = some if_impl_subgraphs_F1 := by kernel_rfl
theorem tb_impl_sum : tb l_impl_sum = some if_impl_sum := by kernel_rfl
theorem tb_laws_FnCountTrees : tb l_laws_FnCountTrees = some if_laws_FnCountTrees := by kernel_rfl
theorem tb_math_bits_Len : tb l_math_bits_Len = some if_math_bits_Len := by kernel_rfl
theorem tb_math_bits_Len64 : tb l_math_bits_Len64 = some if_math_bits_Len64 := by kernel_rfl
theorem tb_slices_Clip_SSint_Sint_ : tb l_slices_Clip_SSint_Sint_ = some if_slices_Clip_SSint_Sint_ := by kernel_rfl
theorem tb_slices_Clip_Simpl_Edge_impl_Edge_ : tb l_slices_Clip_Simpl_Edge_impl_Edge_ = some if_slices_Clip_Simpl_Edge_impl_Edge_ := by kernel_rfl
theorem tb_slices_Clip_Simpl_Graph_impl_Graph_ : tb l_slices_Clip_Simpl_Graph_impl_Graph_ = some if_slices_Clip_Simpl_Graph_impl_Graph_ := by kernel_rfl
theorem tb_slices_Clip_Sint_int_ : tb l_slices_Clip_Sint_int_ = some if_slices_Clip_Sint_int_ := by kernel_rfl
theorem tb_slices_Clone_Simpl_Edge_impl_Edge_ : tb l_slices_Clone_Simpl_Edge_impl_Edge_ = some if_slices_Clone_Simpl_Edge_impl_Edge_ := by kernel_rfl
theorem tb_slices_Clone_Sint_int_ : tb l_slices_Clone_Sint_int_ = some if_slices_Clone_Sint_int_ := by kernel_rfl
theorem tb_slices_ContainsFunc_Sint_int_ : tb l_slices_ContainsFunc_Sint_int_ = some if_slices_ContainsFunc_Sint_int_ := by kernel_rfl
theorem tb_slices_IndexFunc_Sint_int_ : tb l_slices_IndexFunc_Sint_int_ = some if_slices_IndexFunc_Sint_int_ := by kernel_rfl
theorem tb_slices_Min_Sint_int_ : tb l_slices_Min_Sint_int_ = some if_slices_Min_Sint_int_ := by kernel_rfl
theorem tb_slices_Reverse_Sint_int_ : tb l_slices_Reverse_Sint_int_ = some if_slices_Reverse_Sint_int_ := by kernel_rfl
theorem tb_slices_Sort_Sint_int_ : tb l_slices_Sort_Sint_int_ = some if_slices_Sort_Sint_int_ := by kernel_rfl
theorem tb_slices_insertionSortOrdered_int_ : tb l_slices_insertionSortOrdered_int_ = some if_slices_insertionSortOrdered_int_ := by kernel_rfl
theorem tb_slices_pdqsortOrdered_int_ : tb l_slices_pdqsortOrdered_int_ = some if_slices_pdqsortOrdered_int_ := by kernel_rfl
theorem tb_spec_CountTrees : tb l_spec_CountTrees = some if_spec_CountTrees := by kernel_rfl
theorem tb_spec_DrawCountTrees : tb l_spec_DrawCountTrees = some if_spec_DrawCountTrees := by kernel_rfl
theorem tb_spec_DrawIsTreeDegrees : tb l_spec_DrawIsTreeDegrees = some if_spec_DrawIsTreeDegrees := by kernel_rfl
theorem tb_spec_aGraph : tb l_spec_aGraph = some if_spec_aGraph := by kernel_rfl
theorem tb_spec_aTree : tb l_spec_aTree = some if_spec_aTree := by kernel_rfl
theorem tb_spec_addEdge : tb l_spec_addEdge = some if_spec_addEdge := by kernel_rfl
theorem tb_spec_bent : tb l_spec_bent = some if_spec_bent := by kernel_rfl
theorem tb_spec_codeTree : tb l_spec_codeTree = some if_spec_codeTree := by kernel_rfl
theorem tb_spec_complement : tb l_spec_complement = some if_spec_complement := by kernel_rfl
theorem tb_spec_degrees : tb l_spec_degrees = some if_spec_degrees := by kernel_rfl
theorem tb_spec_edgeBelow : tb l_spec_edgeBelow = some if_spec_edgeBelow := by kernel_rfl
theorem tb_spec_goodDegrees : tb l_spec_goodDegrees = some if_spec_goodDegrees := by kernel_rfl
theorem tb_spec_goodGraph : tb l_spec_goodGraph = some if_spec_goodGraph := by kernel_rfl
theorem tb_spec_hasEdge : tb l_spec_hasEdge = some if_spec_hasEdge := by kernel_rfl
theorem tb_spec_hasInt : tb l_spec_hasInt = some if_spec_hasInt := by kernel_rfl
theorem tb_spec_inRange : tb l_spec_inRange = some if_spec_inRange := by kernel_rfl
theorem tb_spec_isTreeDegrees : tb l_spec_isTreeDegrees = some if_spec_isTreeDegrees := by kernel_rfl
theorem tb_spec_lifted : tb l_spec_lifted = some if_spec_lifted := by kernel_rfl
theorem tb_spec_newReader : tb l_spec_newReader = some if_spec_newReader := by kernel_rfl
theorem tb_spec_pairs : tb l_spec_pairs = some if_spec_pairs := by kernel_rfl
theorem tb_spec_reader_one : tb l_spec_reader_one = some if_spec_reader_one := by kernel_rfl
theorem tb_spec_reader_pick : tb l_spec_reader_pick = some if_spec_reader_pick := by kernel_rfl
theorem tb_spec_smallest : tb l_spec_smallest = some if_spec_smallest := by kernel_rfl
theorem tb_spec_someDegrees : tb l_spec_someDegrees = some if_spec_someDegrees := by kernel_rfl
theorem tb_spec_sum : tb l_spec_sum = some if_spec_sum := by kernel_rfl
theorem tb_spec_validDegrees : tb l_spec_validDegrees = some if_spec_validDegrees := by kernel_rfl
end Go.Idl

