/- Part 4 of a proof by an ideal interpreter of the code: its definitions and lemmas. Conditions: none. -/
import Derived.KernelRfl
import Derived.Test.YtlbldcibnhgekaaA3
set_option linter.all false
set_option linter.unusedVariables false
set_option linter.unusedSimpArgs false
namespace Go.Idl
open Go
abbrev vi (n : Int) : Value := .int .i64 n
abbrev l_cmp_Less_int_ : Lab := 2
abbrev l_cmp_isNaN_int_ : Lab := 4
abbrev l_impl_IsStrong : Lab := 12
abbrev l_impl_MarginsOf : Lab := 16
abbrev l_impl_ScoresOf : Lab := 17
abbrev l_impl_TurnTriangle : Lab := 24
abbrev l_impl_ValidMatrix : Lab := 27
abbrev l_impl_ValidTournament : Lab := 28
abbrev l_impl_allIn : Lab := 29
abbrev l_impl_allIn_F1 : Lab := 30
abbrev l_impl_clone_int_ : Lab := 31
abbrev l_impl_copyTable : Lab := 33
abbrev l_impl_copyTable_F1 : Lab := 34
abbrev l_impl_falling : Lab := 37
abbrev l_impl_in : Lab := 38
abbrev l_impl_over : Lab := 39
abbrev l_impl_sum : Lab := 40
abbrev l_impl_table : Lab := 41
abbrev l_laws_FnTurnTriangle : Lab := 47
abbrev l_laws_equalInts : Lab := 53
abbrev l_laws_equalLists : Lab := 54
abbrev l_math_bits_Len : Lab := 66
abbrev l_math_bits_Len32 : Lab := 67
abbrev l_math_bits_Len64 : Lab := 68
abbrev l_slices_Clip_Sint_int_ : Lab := 70
abbrev l_slices_Clone_Sint_int_ : Lab := 71
abbrev l_slices_ContainsFunc_Sint_int_ : Lab := 72
abbrev l_slices_IndexFunc_Sint_int_ : Lab := 73
abbrev l_slices_Index_Sint_int_ : Lab := 74
abbrev l_slices_Reverse_Sint_int_ : Lab := 76
abbrev l_slices_Sort_Sint_int_ : Lab := 78
abbrev l_slices_breakPatternsOrdered_int_ : Lab := 80
abbrev l_slices_choosePivotOrdered_int_ : Lab := 82
abbrev l_slices_heapSortOrdered_int_ : Lab := 84
abbrev l_slices_insertionSortOrdered_int_ : Lab := 86
abbrev l_slices_partialInsertionSortOrdered_int_ : Lab := 95
abbrev l_slices_partitionEqualOrdered_int_ : Lab := 98
abbrev l_slices_partitionOrdered_int_ : Lab := 99
abbrev l_slices_pdqsortOrdered_int_ : Lab := 101
abbrev l_slices_reverseRangeOrdered_int_ : Lab := 103
abbrev l_spec_DrawTurnTriangle : Lab := 111
abbrev l_spec_TurnTriangle : Lab := 117
abbrev l_spec_aTournament : Lab := 119
abbrev l_spec_copyInts : Lab := 123
abbrev l_spec_copyMatrix : Lab := 124
abbrev l_spec_inRange : Lab := 132
abbrev l_spec_newReader : Lab := 137
abbrev l_spec_reader_one : Lab := 139
abbrev l_spec_reader_pick : Lab := 140
abbrev l_spec_someTournament : Lab := 143
abbrev l_spec_validTournament : Lab := 146
def ic_cmp_Less_int__r0 : IC := .reg [
    ⟨(some 4), none, .asg (.c (.bool false))⟩] [0, 1] []
def ic_cmp_Less_int__r1 : IC := .reg [
    ⟨(some 5), none, .mv (.t 0)⟩,
    ⟨(some 6), none, .call l_cmp_isNaN_int_ [(.val, (.t 5))] true⟩,
    ⟨(some 7), none, .asg (.t 6)⟩,
    ⟨(some 8), (some (7, true)), .mv (.t 1)⟩,
    ⟨(some 9), (some (7, true)), .call l_cmp_isNaN_int_ [(.val, (.t 8))] true⟩,
    ⟨(some 10), (some (7, true)), .unop .not (.t 9)⟩,
    ⟨(some 11), none, .pick (.t 7) (.t 10) (.c (.bool false))⟩,
    ⟨(some 12), none, .asg (.t 11)⟩,
    ⟨(some 13), (some (12, false)), .mv (.t 0)⟩,
    ⟨(some 14), (some (12, false)), .mv (.t 1)⟩,
    ⟨(some 15), (some (12, false)), .bin .lss (.t 13) (.t 14)⟩,
    ⟨(some 16), none, .pick (.t 12) (.c (.bool true)) (.t 15)⟩,
    ⟨(some 4), none, .asg (.t 16)⟩] [4] []
def if_cmp_Less_int_ : IFun := ⟨[.t 4], [], (.seq ic_cmp_Less_int__r0 (.seq ic_cmp_Less_int__r1 .ret))⟩

def ic_cmp_isNaN_int__r0 : IC := .reg [
    ⟨(some 2), none, .asg (.c (.bool false))⟩] [0] []
def ic_cmp_isNaN_int__r1 : IC := .reg [
    ⟨(some 3), none, .mv (.t 0)⟩,
    ⟨(some 4), none, .mv (.t 0)⟩,
    ⟨(some 5), none, .bin .neq (.t 3) (.t 4)⟩,
    ⟨(some 2), none, .asg (.t 5)⟩] [2] []
def if_cmp_isNaN_int_ : IFun := ⟨[.t 2], [], (.seq ic_cmp_isNaN_int__r0 (.seq ic_cmp_isNaN_int__r1 .ret))⟩

def ic_impl_IsStrong_r0 : IC := .reg [
    ⟨(some 2), none, .asg (.c (.bool false))⟩] [0] []
def ic_impl_IsStrong_r1 : IC := .reg [
    ⟨(some 4), none, .mv (.t 0)⟩,
    ⟨(some 5), none, .call l_impl_ValidTournament [(.rd, (.t 4))] true⟩,
    ⟨(some 6), none, .unop .not (.t 5)⟩] [0, 6] []
def ic_impl_IsStrong_r2 : IC := .reg [
    ⟨(some 2), none, .asg (.c (.bool false))⟩] [2] []
def ic_impl_IsStrong_r3 : IC := .reg [
    ⟨(some 7), none, .mv (.t 0)⟩,
    ⟨(some 8), none, .call l_impl_ScoresOf [(.rd, (.t 7))] true⟩,
    ⟨(some 9), none, .call l_impl_over [(.rd, (.t 8))] true⟩,
    ⟨(some 3), none, .asg (.t 9)⟩] [3] []
def ic_impl_IsStrong_r4 : IC := .reg [
    ⟨(some 10), none, .mv (.t 3)⟩,
    ⟨(some 11), none, .call l_slices_Index_Sint_int_ [(.rd, (.t 10)), (.val, (.c (vi 0)))] true⟩,
    ⟨(some 12), none, .mv (.t 3)⟩,
    ⟨(some 13), none, .len (.t 12)⟩,
    ⟨(some 14), none, .bin .sub (.t 13) (.c (vi 1))⟩,
    ⟨(some 15), none, .bin .eql (.t 11) (.t 14)⟩,
    ⟨(some 2), none, .asg (.t 15)⟩] [2] []
def if_impl_IsStrong : IFun := ⟨[.t 2], [], (.seq ic_impl_IsStrong_r0 (.seq (.seq ic_impl_IsStrong_r1 (.cond (.t 6) (.seq ic_impl_IsStrong_r2 .ret) .skip)) (.seq ic_impl_IsStrong_r3 (.seq ic_impl_IsStrong_r4 .ret))))⟩

def ic_impl_MarginsOf_r0 : IC := .reg [
    ⟨(some 2), none, .asg (.c (.slice none 0 0))⟩,
    ⟨(some 3), none, .asg (.c (.slice none 0 0))⟩] [0] []
def ic_impl_MarginsOf_r1 : IC := .reg [
    ⟨(some 10), none, .mv (.t 0)⟩,
    ⟨(some 11), none, .call l_impl_ValidMatrix [(.rd, (.t 10))] true⟩,
    ⟨(some 12), none, .unop .not (.t 11)⟩] [0, 12] []
def ic_impl_MarginsOf_r2 : IC := .reg [
    ⟨(some 2), none, .asg (.c (.slice none 0 0))⟩,
    ⟨(some 3), none, .asg (.c (.slice none 0 0))⟩] [2, 3, 4, 5] []
def ic_impl_MarginsOf_r3 : IC := .reg [
    ⟨(some 13), none, .mv (.t 0)⟩,
    ⟨(some 14), none, .len (.t 13)⟩,
    ⟨(some 15), none, .mksl 1 [(vi 0)] (.t 14) (.t 14)⟩,
    ⟨(some 16), none, .mv (.t 0)⟩,
    ⟨(some 17), none, .iadr 1 (.t 16) (.c (vi 0))⟩,
    ⟨(some 18), none, .load false 1 (.t 17)⟩,
    ⟨(some 19), none, .len (.t 18)⟩,
    ⟨(some 20), none, .mksl 1 [(vi 0)] (.t 19) (.t 19)⟩,
    ⟨(some 4), none, .asg (.t 15)⟩,
    ⟨(some 5), none, .asg (.t 20)⟩] [0, 4, 5] [[0, 1, 2, 3, 4, 5, 6, 8, 7, 9], [0, 1, 2, 3, 4, 8, 5, 6, 7, 9], [0, 1, 3, 4, 5, 2, 6, 7, 8, 9], [0, 1, 3, 4, 5, 2, 6, 8, 7, 9], [0, 1, 3, 4, 5, 6, 7, 2, 8, 9]]
def ic_impl_MarginsOf_r4 : IC := .reg [
    ⟨(some 21), none, .mv (.t 0)⟩,
    ⟨(some 22), none, .len (.t 21)⟩,
    ⟨(some 23), none, .mv (.c (vi 0))⟩] [0, 4, 5, 21, 22, 23] []
def ic_impl_MarginsOf_r5 : IC := .reg [
    ⟨(some 24), none, .bin .lss (.t 23) (.t 22)⟩] [0, 4, 5, 21, 22, 23, 24] []
def ic_impl_MarginsOf_r6 : IC := .reg [
    ⟨(some 25), none, .asg (.t 23)⟩,
    ⟨(some 26), none, .iadr 1 (.t 21) (.t 23)⟩,
    ⟨(some 27), none, .load false 1 (.t 26)⟩,
    ⟨(some 6), none, .asg (.t 25)⟩,
    ⟨(some 7), none, .asg (.t 27)⟩] [0, 4, 5, 6, 7, 21, 22, 23] []
def ic_impl_MarginsOf_r7 : IC := .reg [
    ⟨(some 28), none, .mv (.t 7)⟩,
    ⟨(some 29), none, .len (.t 28)⟩,
    ⟨(some 30), none, .mv (.c (vi 0))⟩] [0, 4, 5, 6, 7, 21, 22, 23, 28, 29, 30] []
def ic_impl_MarginsOf_r8 : IC := .reg [
    ⟨(some 31), none, .bin .lss (.t 30) (.t 29)⟩] [0, 4, 5, 6, 7, 21, 22, 23, 28, 29, 30, 31] []
def ic_impl_MarginsOf_r9 : IC := .reg [
    ⟨(some 32), none, .asg (.t 30)⟩,
    ⟨(some 33), none, .iadr 1 (.t 28) (.t 30)⟩,
    ⟨(some 34), none, .load false 1 (.t 33)⟩,
    ⟨(some 8), none, .asg (.t 32)⟩,
    ⟨(some 9), none, .asg (.t 34)⟩] [0, 4, 5, 6, 7, 8, 9, 21, 22, 23, 28, 29, 30] []
def ic_impl_MarginsOf_r10 : IC := .reg [
    ⟨(some 35), none, .mv (.t 4)⟩,
    ⟨(some 36), none, .mv (.t 6)⟩,
    ⟨(some 37), none, .iadr 1 (.t 35) (.t 36)⟩,
    ⟨(some 38), none, .load false 1 (.t 37)⟩,
    ⟨(some 39), none, .mv (.t 9)⟩,
    ⟨(some 40), none, .bin .add (.t 38) (.t 39)⟩,
    ⟨(some 41), none, .iadr 1 (.t 35) (.t 36)⟩,
    ⟨none, none, .store 1 (.t 41) (.t 40)⟩] [0, 4, 5, 6, 7, 8, 9, 21, 22, 23, 28, 29, 30] []
def ic_impl_MarginsOf_r11 : IC := .reg [
    ⟨(some 42), none, .mv (.t 5)⟩,
    ⟨(some 43), none, .mv (.t 8)⟩,
    ⟨(some 44), none, .iadr 1 (.t 42) (.t 43)⟩,
    ⟨(some 45), none, .load false 1 (.t 44)⟩,
    ⟨(some 46), none, .mv (.t 9)⟩,
    ⟨(some 47), none, .bin .add (.t 45) (.t 46)⟩,
    ⟨(some 48), none, .iadr 1 (.t 42) (.t 43)⟩,
    ⟨none, none, .store 1 (.t 48) (.t 47)⟩] [0, 4, 5, 6, 7, 21, 22, 23, 28, 29, 30] []
def ic_impl_MarginsOf_r12 : IC := .reg [
    ⟨(some 49), none, .bin .add (.t 30) (.c (vi 1))⟩,
    ⟨(some 30), none, .asg (.t 49)⟩] [0, 4, 5, 6, 7, 21, 22, 23, 28, 29, 30] []
def ic_impl_MarginsOf_l13 : IC := (.seq ic_impl_MarginsOf_r8 (.seq (.cond (.t 31) .skip (.exit 2)) (.seq (.block 3 (.seq ic_impl_MarginsOf_r9 (.seq ic_impl_MarginsOf_r10 ic_impl_MarginsOf_r11))) ic_impl_MarginsOf_r12)))
def ic_impl_MarginsOf_r14 : IC := .reg [
    ⟨(some 50), none, .bin .add (.t 23) (.c (vi 1))⟩,
    ⟨(some 23), none, .asg (.t 50)⟩] [0, 4, 5, 21, 22, 23] []
def ic_impl_MarginsOf_l15 : IC := (.seq ic_impl_MarginsOf_r5 (.seq (.cond (.t 24) .skip (.exit 0)) (.seq (.block 1 (.seq ic_impl_MarginsOf_r6 (.seq ic_impl_MarginsOf_r7 (.block 2 (.loop ic_impl_MarginsOf_l13))))) ic_impl_MarginsOf_r14)))
def ic_impl_MarginsOf_r16 : IC := .reg [
    ⟨(some 51), none, .mv (.t 4)⟩,
    ⟨(some 52), none, .mv (.t 5)⟩,
    ⟨(some 2), none, .asgm (.t 51)⟩,
    ⟨(some 3), none, .asgm (.t 52)⟩] [2, 3, 4, 5] []
def if_impl_MarginsOf : IFun := ⟨[.t 2, .t 3], [], (.seq ic_impl_MarginsOf_r0 (.seq (.seq ic_impl_MarginsOf_r1 (.cond (.t 12) (.seq ic_impl_MarginsOf_r2 .ret) .skip)) (.seq ic_impl_MarginsOf_r3 (.seq (.seq ic_impl_MarginsOf_r4 (.block 0 (.loop ic_impl_MarginsOf_l15))) (.seq ic_impl_MarginsOf_r16 .ret)))))⟩

def ic_impl_ScoresOf_r0 : IC := .reg [
    ⟨(some 2), none, .asg (.c (.slice none 0 0))⟩] [0] []
def ic_impl_ScoresOf_r1 : IC := .reg [
    ⟨(some 5), none, .mv (.t 0)⟩,
    ⟨(some 6), none, .call l_impl_ValidTournament [(.rd, (.t 5))] true⟩,
    ⟨(some 7), none, .unop .not (.t 6)⟩] [0, 7] []
def ic_impl_ScoresOf_r2 : IC := .reg [
    ⟨(some 2), none, .asg (.c (.slice none 0 0))⟩] [2, 3] []
def ic_impl_ScoresOf_r3 : IC := .reg [
    ⟨(some 9), none, .mv (.t 0)⟩,
    ⟨(some 10), none, .call l_impl_MarginsOf [(.rd, (.t 9))] true⟩,
    ⟨(some 8), none, .asg (.t 10)⟩,
    ⟨(some 11), none, .extr (.t 8) 0⟩,
    ⟨(some 12), none, .extr (.t 8) 1⟩,
    ⟨(some 3), none, .asg (.t 11)⟩,
    ⟨(some 4), none, .asg (.t 12)⟩] [3] []
def ic_impl_ScoresOf_r4 : IC := .reg [
    ⟨(some 13), none, .mv (.t 3)⟩,
    ⟨(some 2), none, .asgm (.t 13)⟩] [2, 3] []
def if_impl_ScoresOf : IFun := ⟨[.t 2], [], (.seq ic_impl_ScoresOf_r0 (.seq (.seq ic_impl_ScoresOf_r1 (.cond (.t 7) (.seq ic_impl_ScoresOf_r2 .ret) .skip)) (.seq ic_impl_ScoresOf_r3 (.seq ic_impl_ScoresOf_r4 .ret))))⟩

def ic_impl_TurnTriangle_r0 : IC := .reg [
    ⟨(some 8), none, .asg (.c (.slice none 0 0))⟩,
    ⟨(some 9), none, .asg (.c (.bool false))⟩] [0, 1, 2, 3] []
def ic_impl_TurnTriangle_r1 : IC := .reg [
    ⟨(some 13), none, .mv (.t 0)⟩,
    ⟨(some 14), none, .call l_impl_ValidTournament [(.rd, (.t 13))] true⟩,
    ⟨(some 15), none, .unop .not (.t 14)⟩,
    ⟨(some 16), none, .asg (.t 15)⟩,
    ⟨(some 17), (some (16, false)), .mv (.t 1)⟩,
    ⟨(some 18), (some (16, false)), .mv (.t 2)⟩,
    ⟨(some 19), (some (16, false)), .mv (.t 3)⟩,
    ⟨(some 20), (some (16, false)), .bsl 1 [(vi 0)] 3 [(0, (.t 17)), (1, (.t 18)), (2, (.t 19))]⟩,
    ⟨(some 21), (some (16, false)), .mv (.t 0)⟩,
    ⟨(some 22), (some (16, false)), .len (.t 21)⟩,
    ⟨(some 23), (some (16, false)), .bin .sub (.t 22) (.c (vi 1))⟩,
    ⟨(some 24), (some (16, false)), .call l_impl_allIn [(.rd, (.t 20)), (.val, (.c (vi 0))), (.val, (.t 23))] true⟩,
    ⟨(some 25), (some (16, false)), .unop .not (.t 24)⟩,
    ⟨(some 26), none, .pick (.t 16) (.c (.bool true)) (.t 25)⟩,
    ⟨(some 27), none, .asg (.t 26)⟩,
    ⟨(some 28), (some (27, false)), .mv (.t 0)⟩,
    ⟨(some 29), (some (27, false)), .mv (.t 1)⟩,
    ⟨(some 30), (some (27, false)), .iadr 1 (.t 28) (.t 29)⟩,
    ⟨(some 31), (some (27, false)), .load false 1 (.t 30)⟩,
    ⟨(some 32), (some (27, false)), .mv (.t 2)⟩,
    ⟨(some 33), (some (27, false)), .iadr 1 (.t 31) (.t 32)⟩,
    ⟨(some 34), (some (27, false)), .load false 1 (.t 33)⟩,
    ⟨(some 35), (some (27, false)), .bin .neq (.t 34) (.c (vi 1))⟩,
    ⟨(some 36), none, .pick (.t 27) (.c (.bool true)) (.t 35)⟩,
    ⟨(some 37), none, .asg (.t 36)⟩,
    ⟨(some 38), (some (37, false)), .mv (.t 0)⟩,
    ⟨(some 39), (some (37, false)), .mv (.t 2)⟩,
    ⟨(some 40), (some (37, false)), .iadr 1 (.t 38) (.t 39)⟩,
    ⟨(some 41), (some (37, false)), .load false 1 (.t 40)⟩,
    ⟨(some 42), (some (37, false)), .mv (.t 3)⟩,
    ⟨(some 43), (some (37, false)), .iadr 1 (.t 41) (.t 42)⟩,
    ⟨(some 44), (some (37, false)), .load false 1 (.t 43)⟩,
    ⟨(some 45), (some (37, false)), .bin .neq (.t 44) (.c (vi 1))⟩,
    ⟨(some 46), none, .pick (.t 37) (.c (.bool true)) (.t 45)⟩,
    ⟨(some 47), none, .asg (.t 46)⟩,
    ⟨(some 48), (some (47, false)), .mv (.t 0)⟩,
    ⟨(some 49), (some (47, false)), .mv (.t 3)⟩,
    ⟨(some 50), (some (47, false)), .iadr 1 (.t 48) (.t 49)⟩,
    ⟨(some 51), (some (47, false)), .load false 1 (.t 50)⟩,
    ⟨(some 52), (some (47, false)), .mv (.t 1)⟩,
    ⟨(some 53), (some (47, false)), .iadr 1 (.t 51) (.t 52)⟩,
    ⟨(some 54), (some (47, false)), .load false 1 (.t 53)⟩,
    ⟨(some 55), (some (47, false)), .bin .neq (.t 54) (.c (vi 1))⟩,
    ⟨(some 56), none, .pick (.t 47) (.c (.bool true)) (.t 55)⟩] [0, 1, 2, 3, 56] []
def ic_impl_TurnTriangle_r2 : IC := .reg [
    ⟨(some 8), none, .asg (.c (.slice none 0 0))⟩,
    ⟨(some 9), none, .asg (.c (.bool false))⟩] [8, 9, 10] []
def ic_impl_TurnTriangle_r3 : IC := .reg [
    ⟨(some 57), none, .mv (.t 0)⟩,
    ⟨(some 58), none, .call l_impl_copyTable [(.rd, (.t 57))] true⟩,
    ⟨(some 10), none, .asg (.t 58)⟩] [1, 2, 3, 10] []
def ic_impl_TurnTriangle_r4 : IC := .reg [
    ⟨(some 59), none, .mv (.t 1)⟩,
    ⟨(some 60), none, .mv (.t 2)⟩,
    ⟨(some 61), none, .build [(vi 0), (vi 0)] [(0, 1, (.t 59)), (1, 1, (.t 60))]⟩,
    ⟨(some 62), none, .mv (.t 2)⟩,
    ⟨(some 63), none, .mv (.t 3)⟩,
    ⟨(some 64), none, .build [(vi 0), (vi 0)] [(0, 1, (.t 62)), (1, 1, (.t 63))]⟩,
    ⟨(some 65), none, .mv (.t 3)⟩,
    ⟨(some 66), none, .mv (.t 1)⟩,
    ⟨(some 67), none, .build [(vi 0), (vi 0)] [(0, 1, (.t 65)), (1, 1, (.t 66))]⟩,
    ⟨(some 68), none, .bsl 2 [(vi 0), (vi 0)] 3 [(0, (.t 61)), (1, (.t 64)), (2, (.t 67))]⟩,
    ⟨(some 69), none, .len (.t 68)⟩,
    ⟨(some 70), none, .mv (.c (vi 0))⟩] [10, 68, 69, 70] []
def ic_impl_TurnTriangle_r5 : IC := .reg [
    ⟨(some 71), none, .bin .lss (.t 70) (.t 69)⟩] [10, 68, 69, 70, 71] []
def ic_impl_TurnTriangle_r6 : IC := .reg [
    ⟨(some 72), none, .iadr 2 (.t 68) (.t 70)⟩,
    ⟨(some 73), none, .load true 2 (.t 72)⟩,
    ⟨(some 12), none, .alloc [(vi 0), (vi 0)]⟩,
    ⟨none, none, .store 2 (.t 12) (.t 73)⟩] [10, 12, 68, 69, 70] []
def ic_impl_TurnTriangle_r7 : IC := .reg [
    ⟨(some 74), none, .mv (.t 10)⟩,
    ⟨(some 75), none, .fadr 0 (.t 12)⟩,
    ⟨(some 76), none, .load false 1 (.t 75)⟩,
    ⟨(some 77), none, .iadr 1 (.t 74) (.t 76)⟩,
    ⟨(some 78), none, .load false 1 (.t 77)⟩,
    ⟨(some 79), none, .fadr 1 (.t 12)⟩,
    ⟨(some 80), none, .load false 1 (.t 79)⟩,
    ⟨(some 81), none, .mv (.t 10)⟩,
    ⟨(some 82), none, .fadr 1 (.t 12)⟩,
    ⟨(some 83), none, .load false 1 (.t 82)⟩,
    ⟨(some 84), none, .iadr 1 (.t 81) (.t 83)⟩,
    ⟨(some 85), none, .load false 1 (.t 84)⟩,
    ⟨(some 86), none, .fadr 0 (.t 12)⟩,
    ⟨(some 87), none, .load false 1 (.t 86)⟩,
    ⟨(some 88), none, .iadr 1 (.t 78) (.t 80)⟩,
    ⟨none, none, .store 1 (.t 88) (.c (vi 0))⟩,
    ⟨(some 89), none, .iadr 1 (.t 85) (.t 87)⟩,
    ⟨none, none, .store 1 (.t 89) (.c (vi 1))⟩] [10, 68, 69, 70] [[0, 1, 2, 3, 4, 5, 6, 7, 8, 9, 10, 11, 12, 14, 15, 13, 16, 17]]
def ic_impl_TurnTriangle_r8 : IC := .reg [
    ⟨(some 90), none, .bin .add (.t 70) (.c (vi 1))⟩,
    ⟨(some 70), none, .asg (.t 90)⟩] [10, 68, 69, 70] []
def ic_impl_TurnTriangle_l9 : IC := (.seq ic_impl_TurnTriangle_r5 (.seq (.cond (.t 71) .skip (.exit 0)) (.seq (.block 1 (.seq ic_impl_TurnTriangle_r6 ic_impl_TurnTriangle_r7)) ic_impl_TurnTriangle_r8)))
def ic_impl_TurnTriangle_r10 : IC := .reg [
    ⟨(some 91), none, .mv (.t 10)⟩,
    ⟨(some 8), none, .asgm (.t 91)⟩,
    ⟨(some 9), none, .asg (.c (.bool true))⟩] [8, 9, 10] []
def if_impl_TurnTriangle : IFun := ⟨[.t 8, .t 9], [], (.seq ic_impl_TurnTriangle_r0 (.seq (.seq ic_impl_TurnTriangle_r1 (.cond (.t 56) (.seq ic_impl_TurnTriangle_r2 .ret) .skip)) (.seq ic_impl_TurnTriangle_r3 (.seq (.seq ic_impl_TurnTriangle_r4 (.block 0 (.loop ic_impl_TurnTriangle_l9))) (.seq ic_impl_TurnTriangle_r10 .ret)))))⟩

def ic_impl_ValidMatrix_r0 : IC := .reg [
    ⟨(some 2), none, .asg (.c (.bool false))⟩] [0] []
def ic_impl_ValidMatrix_r1 : IC := .reg [
    ⟨(some 5), none, .mv (.t 0)⟩,
    ⟨(some 6), none, .len (.t 5)⟩,
    ⟨(some 7), none, .mv (.c (vi 0))⟩] [0, 5, 6, 7] []
def ic_impl_ValidMatrix_r2 : IC := .reg [
    ⟨(some 8), none, .bin .lss (.t 7) (.t 6)⟩] [0, 5, 6, 7, 8] []
def ic_impl_ValidMatrix_r3 : IC := .reg [
    ⟨(some 9), none, .iadr 1 (.t 5) (.t 7)⟩,
    ⟨(some 10), none, .load false 1 (.t 9)⟩,
    ⟨(some 4), none, .asg (.t 10)⟩] [0, 4, 5, 6, 7] []
def ic_impl_ValidMatrix_r4 : IC := .reg [
    ⟨(some 11), none, .mv (.t 4)⟩,
    ⟨(some 12), none, .len (.t 11)⟩,
    ⟨(some 13), none, .mv (.t 0)⟩,
    ⟨(some 14), none, .iadr 1 (.t 13) (.c (vi 0))⟩,
    ⟨(some 15), none, .load false 1 (.t 14)⟩,
    ⟨(some 16), none, .len (.t 15)⟩,
    ⟨(some 17), none, .bin .neq (.t 12) (.t 16)⟩,
    ⟨(some 18), none, .asg (.t 17)⟩,
    ⟨(some 19), (some (18, false)), .mv (.t 4)⟩,
    ⟨(some 20), (some (18, false)), .len (.t 19)⟩,
    ⟨(some 21), (some (18, false)), .call l_impl_in [(.val, (.t 20)), (.val, (.c (vi 1))), (.val, (.c (vi 5)))] true⟩,
    ⟨(some 22), (some (18, false)), .unop .not (.t 21)⟩,
    ⟨(some 23), none, .pick (.t 18) (.c (.bool true)) (.t 22)⟩,
    ⟨(some 24), none, .asg (.t 23)⟩,
    ⟨(some 25), (some (24, false)), .mv (.t 4)⟩,
    ⟨(some 26), (some (24, false)), .call l_impl_allIn [(.rd, (.t 25)), (.val, (.c (vi 0))), (.val, (.c (vi 1)))] true⟩,
    ⟨(some 27), (some (24, false)), .unop .not (.t 26)⟩,
    ⟨(some 28), none, .pick (.t 24) (.c (.bool true)) (.t 27)⟩] [0, 5, 6, 7, 28] []
def ic_impl_ValidMatrix_r5 : IC := .reg [
    ⟨(some 2), none, .asg (.c (.bool false))⟩] [2] []
def ic_impl_ValidMatrix_r6 : IC := .reg [
    ⟨(some 29), none, .bin .add (.t 7) (.c (vi 1))⟩,
    ⟨(some 7), none, .asg (.t 29)⟩] [0, 5, 6, 7] []
def ic_impl_ValidMatrix_l7 : IC := (.seq ic_impl_ValidMatrix_r2 (.seq (.cond (.t 8) .skip (.exit 0)) (.seq (.block 1 (.seq ic_impl_ValidMatrix_r3 (.seq ic_impl_ValidMatrix_r4 (.cond (.t 28) (.seq ic_impl_ValidMatrix_r5 .ret) .skip)))) ic_impl_ValidMatrix_r6)))
def ic_impl_ValidMatrix_r8 : IC := .reg [
    ⟨(some 30), none, .mv (.t 0)⟩,
    ⟨(some 31), none, .len (.t 30)⟩,
    ⟨(some 32), none, .call l_impl_in [(.val, (.t 31)), (.val, (.c (vi 1))), (.val, (.c (vi 5)))] true⟩,
    ⟨(some 2), none, .asg (.t 32)⟩] [2] []
def if_impl_ValidMatrix : IFun := ⟨[.t 2], [], (.seq ic_impl_ValidMatrix_r0 (.seq (.seq ic_impl_ValidMatrix_r1 (.block 0 (.loop ic_impl_ValidMatrix_l7))) (.seq ic_impl_ValidMatrix_r8 .ret)))⟩

def ic_impl_ValidTournament_r0 : IC := .reg [
    ⟨(some 2), none, .asg (.c (.bool false))⟩] [0] []
def ic_impl_ValidTournament_r1 : IC := .reg [
    ⟨(some 5), none, .mv (.t 0)⟩,
    ⟨(some 6), none, .call l_impl_ValidMatrix [(.rd, (.t 5))] true⟩,
    ⟨(some 7), none, .unop .not (.t 6)⟩,
    ⟨(some 8), none, .asg (.t 7)⟩,
    ⟨(some 9), (some (8, false)), .mv (.t 0)⟩,
    ⟨(some 10), (some (8, false)), .len (.t 9)⟩,
    ⟨(some 11), (some (8, false)), .mv (.t 0)⟩,
    ⟨(some 12), (some (8, false)), .iadr 1 (.t 11) (.c (vi 0))⟩,
    ⟨(some 13), (some (8, false)), .load false 1 (.t 12)⟩,
    ⟨(some 14), (some (8, false)), .len (.t 13)⟩,
    ⟨(some 15), (some (8, false)), .bin .neq (.t 10) (.t 14)⟩,
    ⟨(some 16), none, .pick (.t 8) (.c (.bool true)) (.t 15)⟩] [0, 16] []
def ic_impl_ValidTournament_r2 : IC := .reg [
    ⟨(some 2), none, .asg (.c (.bool false))⟩] [2] []
def ic_impl_ValidTournament_r3 : IC := .reg [
    ⟨(some 17), none, .mv (.t 0)⟩,
    ⟨(some 18), none, .len (.t 17)⟩,
    ⟨(some 19), none, .mv (.c (vi 0))⟩] [0, 18, 19] []
def ic_impl_ValidTournament_r4 : IC := .reg [
    ⟨(some 20), none, .bin .lss (.t 19) (.t 18)⟩] [0, 18, 19, 20] []
def ic_impl_ValidTournament_r5 : IC := .reg [
    ⟨(some 21), none, .asg (.t 19)⟩,
    ⟨(some 3), none, .asg (.t 21)⟩] [0, 3, 18, 19] []
def ic_impl_ValidTournament_r6 : IC := .reg [
    ⟨(some 22), none, .mv (.t 0)⟩,
    ⟨(some 23), none, .len (.t 22)⟩,
    ⟨(some 24), none, .mv (.c (vi 0))⟩] [0, 3, 18, 19, 23, 24] []
def ic_impl_ValidTournament_r7 : IC := .reg [
    ⟨(some 25), none, .bin .lss (.t 24) (.t 23)⟩] [0, 3, 18, 19, 23, 24, 25] []
def ic_impl_ValidTournament_r8 : IC := .reg [
    ⟨(some 26), none, .asg (.t 24)⟩,
    ⟨(some 4), none, .asg (.t 26)⟩] [0, 3, 4, 18, 19, 23, 24] []
def ic_impl_ValidTournament_r9 : IC := .reg [
    ⟨(some 27), none, .mv (.t 3)⟩,
    ⟨(some 28), none, .mv (.t 4)⟩,
    ⟨(some 29), none, .bin .eql (.t 27) (.t 28)⟩,
    ⟨(some 30), none, .asg (.t 29)⟩,
    ⟨(some 31), (some (30, true)), .mv (.t 0)⟩,
    ⟨(some 32), (some (30, true)), .mv (.t 3)⟩,
    ⟨(some 33), (some (30, true)), .iadr 1 (.t 31) (.t 32)⟩,
    ⟨(some 34), (some (30, true)), .load false 1 (.t 33)⟩,
    ⟨(some 35), (some (30, true)), .mv (.t 3)⟩,
    ⟨(some 36), (some (30, true)), .iadr 1 (.t 34) (.t 35)⟩,
    ⟨(some 37), (some (30, true)), .load false 1 (.t 36)⟩,
    ⟨(some 38), (some (30, true)), .bin .neq (.t 37) (.c (vi 0))⟩,
    ⟨(some 39), none, .pick (.t 30) (.t 38) (.c (.bool false))⟩,
    ⟨(some 40), none, .asg (.t 39)⟩,
    ⟨(some 41), (some (40, false)), .mv (.t 3)⟩,
    ⟨(some 42), (some (40, false)), .mv (.t 4)⟩,
    ⟨(some 43), (some (40, false)), .bin .neq (.t 41) (.t 42)⟩,
    ⟨(some 44), (some (40, false)), .asg (.t 43)⟩,
    ⟨(some 45), (some (44, true)), .mv (.t 0)⟩,
    ⟨(some 46), (some (44, true)), .mv (.t 3)⟩,
    ⟨(some 47), (some (44, true)), .iadr 1 (.t 45) (.t 46)⟩,
    ⟨(some 48), (some (44, true)), .load false 1 (.t 47)⟩,
    ⟨(some 49), (some (44, true)), .mv (.t 4)⟩,
    ⟨(some 50), (some (44, true)), .iadr 1 (.t 48) (.t 49)⟩,
    ⟨(some 51), (some (44, true)), .load false 1 (.t 50)⟩,
    ⟨(some 52), (some (44, true)), .mv (.t 0)⟩,
    ⟨(some 53), (some (44, true)), .mv (.t 4)⟩,
    ⟨(some 54), (some (44, true)), .iadr 1 (.t 52) (.t 53)⟩,
    ⟨(some 55), (some (44, true)), .load false 1 (.t 54)⟩,
    ⟨(some 56), (some (44, true)), .mv (.t 3)⟩,
    ⟨(some 57), (some (44, true)), .iadr 1 (.t 55) (.t 56)⟩,
    ⟨(some 58), (some (44, true)), .load false 1 (.t 57)⟩,
    ⟨(some 59), (some (44, true)), .bin .add (.t 51) (.t 58)⟩,
    ⟨(some 60), (some (44, true)), .bin .neq (.t 59) (.c (vi 1))⟩,
    ⟨(some 61), (some (40, false)), .pick (.t 44) (.t 60) (.c (.bool false))⟩,
    ⟨(some 62), none, .pick (.t 40) (.c (.bool true)) (.t 61)⟩] [0, 3, 18, 19, 23, 24, 62] []
def ic_impl_ValidTournament_r10 : IC := .reg [
    ⟨(some 2), none, .asg (.c (.bool false))⟩] [2] []
def ic_impl_ValidTournament_r11 : IC := .reg [
    ⟨(some 63), none, .bin .add (.t 24) (.c (vi 1))⟩,
    ⟨(some 24), none, .asg (.t 63)⟩] [0, 3, 18, 19, 23, 24] []
def ic_impl_ValidTournament_l12 : IC := (.seq ic_impl_ValidTournament_r7 (.seq (.cond (.t 25) .skip (.exit 2)) (.seq (.block 3 (.seq ic_impl_ValidTournament_r8 (.seq ic_impl_ValidTournament_r9 (.cond (.t 62) (.seq ic_impl_ValidTournament_r10 .ret) .skip)))) ic_impl_ValidTournament_r11)))
def ic_impl_ValidTournament_r13 : IC := .reg [
    ⟨(some 64), none, .bin .add (.t 19) (.c (vi 1))⟩,
    ⟨(some 19), none, .asg (.t 64)⟩] [0, 18, 19] []
def ic_impl_ValidTournament_l14 : IC := (.seq ic_impl_ValidTournament_r4 (.seq (.cond (.t 20) .skip (.exit 0)) (.seq (.block 1 (.seq ic_impl_ValidTournament_r5 (.seq ic_impl_ValidTournament_r6 (.block 2 (.loop ic_impl_ValidTournament_l12))))) ic_impl_ValidTournament_r13)))
def ic_impl_ValidTournament_r15 : IC := .reg [
    ⟨(some 2), none, .asg (.c (.bool true))⟩] [2] []
def if_impl_ValidTournament : IFun := ⟨[.t 2], [], (.seq ic_impl_ValidTournament_r0 (.seq (.seq ic_impl_ValidTournament_r1 (.cond (.t 16) (.seq ic_impl_ValidTournament_r2 .ret) .skip)) (.seq (.seq ic_impl_ValidTournament_r3 (.block 0 (.loop ic_impl_ValidTournament_l14))) (.seq ic_impl_ValidTournament_r15 .ret))))⟩

def ic_impl_allIn_r0 : IC := .reg [
    ⟨(some 4), none, .box (.t 1)⟩,
    ⟨(some 5), none, .box (.t 2)⟩,
    ⟨(some 6), none, .asg (.c (.bool false))⟩] [0, 4, 5] []
def ic_impl_allIn_r1 : IC := .reg [
    ⟨(some 7), none, .mv (.t 0)⟩,
    ⟨(some 8), none, .mkfn l_impl_allIn_F1 [(.t 4), (.t 5)]⟩,
    ⟨(some 9), none, .call l_slices_ContainsFunc_Sint_int_ [(.rd, (.t 7)), (.val, (.t 8))] false⟩,
    ⟨(some 10), none, .unop .not (.t 9)⟩,
    ⟨(some 6), none, .asg (.t 10)⟩] [6] []
def if_impl_allIn : IFun := ⟨[.t 6], [], (.seq ic_impl_allIn_r0 (.seq ic_impl_allIn_r1 .ret))⟩

def ic_impl_allIn_F1_r0 : IC := .reg [
    ⟨(some 4), none, .asg (.c (.bool false))⟩] [0, 1, 2] []
def ic_impl_allIn_F1_r1 : IC := .reg [
    ⟨(some 5), none, .mv (.t 0)⟩,
    ⟨(some 6), none, .load false 1 (.t 1)⟩,
    ⟨(some 7), none, .load false 1 (.t 2)⟩,
    ⟨(some 8), none, .call l_impl_in [(.val, (.t 5)), (.val, (.t 6)), (.val, (.t 7))] true⟩,
    ⟨(some 9), none, .unop .not (.t 8)⟩,
    ⟨(some 4), none, .asg (.t 9)⟩] [4] []
def if_impl_allIn_F1 : IFun := ⟨[.t 4], [], (.seq ic_impl_allIn_F1_r0 (.seq ic_impl_allIn_F1_r1 .ret))⟩

def ic_impl_clone_int__r0 : IC := .reg [
    ⟨(some 2), none, .asg (.c (.slice none 0 0))⟩] [0] []
def ic_impl_clone_int__r1 : IC := .reg [
    ⟨(some 3), none, .mv (.t 0)⟩,
    ⟨(some 4), none, .call l_slices_Clone_Sint_int_ [(.rd, (.t 3))] true⟩,
    ⟨(some 5), none, .call l_slices_Clip_Sint_int_ [(.tk, (.t 4))] true⟩,
    ⟨(some 2), none, .asg (.t 5)⟩] [2] []
def if_impl_clone_int_ : IFun := ⟨[.t 2], [], (.seq ic_impl_clone_int__r0 (.seq ic_impl_clone_int__r1 .ret))⟩

def ic_impl_copyTable_r0 : IC := .reg [
    ⟨(some 1), none, .box (.t 0)⟩,
    ⟨(some 2), none, .asg (.c (.slice none 0 0))⟩] [1] []
def ic_impl_copyTable_r1 : IC := .reg [
    ⟨(some 3), none, .load false 1 (.t 1)⟩,
    ⟨(some 4), none, .len (.t 3)⟩,
    ⟨(some 5), none, .load false 1 (.t 1)⟩,
    ⟨(some 6), none, .iadr 1 (.t 5) (.c (vi 0))⟩,
    ⟨(some 7), none, .load false 1 (.t 6)⟩,
    ⟨(some 8), none, .len (.t 7)⟩,
    ⟨(some 9), none, .mkfn l_impl_copyTable_F1 [(.t 1)]⟩,
    ⟨(some 10), none, .call l_impl_table [(.val, (.t 4)), (.val, (.t 8)), (.val, (.t 9))] false⟩,
    ⟨(some 2), none, .asg (.t 10)⟩] [2] []
def if_impl_copyTable : IFun := ⟨[.t 2], [], (.seq ic_impl_copyTable_r0 (.seq ic_impl_copyTable_r1 .ret))⟩

def ic_impl_copyTable_F1_r0 : IC := .reg [
    ⟨(some 5), none, .asg (.c (vi 0))⟩] [0, 1, 2] []
def ic_impl_copyTable_F1_r1 : IC := .reg [
    ⟨(some 6), none, .load false 1 (.t 2)⟩,
    ⟨(some 7), none, .mv (.t 0)⟩,
    ⟨(some 8), none, .iadr 1 (.t 6) (.t 7)⟩,
    ⟨(some 9), none, .load false 1 (.t 8)⟩,
    ⟨(some 10), none, .mv (.t 1)⟩,
    ⟨(some 11), none, .iadr 1 (.t 9) (.t 10)⟩,
    ⟨(some 12), none, .load false 1 (.t 11)⟩,
    ⟨(some 5), none, .asg (.t 12)⟩] [5] []
def if_impl_copyTable_F1 : IFun := ⟨[.t 5], [], (.seq ic_impl_copyTable_F1_r0 (.seq ic_impl_copyTable_F1_r1 .ret))⟩

def ic_impl_falling_r0 : IC := .reg [
    ⟨(some 2), none, .asg (.c (.slice none 0 0))⟩] [0] []
def ic_impl_falling_r1 : IC := .reg [
    ⟨(some 4), none, .mv (.t 0)⟩,
    ⟨(some 5), none, .call l_impl_clone_int_ [(.rd, (.t 4))] true⟩,
    ⟨(some 3), none, .asg (.t 5)⟩] [3] []
def ic_impl_falling_r2 : IC := .reg [
    ⟨(some 6), none, .mv (.t 3)⟩,
    ⟨(some 7), none, .call l_slices_Sort_Sint_int_ [(.ld, (.t 6))] false⟩] [3] []
def ic_impl_falling_r3 : IC := .reg [
    ⟨(some 8), none, .mv (.t 3)⟩,
    ⟨(some 9), none, .call l_slices_Reverse_Sint_int_ [(.ld, (.t 8))] false⟩] [3] []
def ic_impl_falling_r4 : IC := .reg [
    ⟨(some 10), none, .mv (.t 3)⟩,
    ⟨(some 2), none, .asgm (.t 10)⟩] [2, 3] []
def if_impl_falling : IFun := ⟨[.t 2], [], (.seq ic_impl_falling_r0 (.seq ic_impl_falling_r1 (.seq ic_impl_falling_r2 (.seq ic_impl_falling_r3 (.seq ic_impl_falling_r4 .ret)))))⟩

def ic_impl_in_r0 : IC := .reg [
    ⟨(some 6), none, .asg (.c (.bool false))⟩] [0, 1, 2] []
def ic_impl_in_r1 : IC := .reg [
    ⟨(some 7), none, .mv (.t 0)⟩,
    ⟨(some 8), none, .mv (.t 1)⟩,
    ⟨(some 9), none, .bin .geq (.t 7) (.t 8)⟩,
    ⟨(some 10), none, .asg (.t 9)⟩,
    ⟨(some 11), (some (10, true)), .mv (.t 0)⟩,
    ⟨(some 12), (some (10, true)), .mv (.t 2)⟩,
    ⟨(some 13), (some (10, true)), .bin .leq (.t 11) (.t 12)⟩,
    ⟨(some 14), none, .pick (.t 10) (.t 13) (.c (.bool false))⟩,
    ⟨(some 6), none, .asg (.t 14)⟩] [6] []
def if_impl_in : IFun := ⟨[.t 6], [], (.seq ic_impl_in_r0 (.seq ic_impl_in_r1 .ret))⟩

def ic_impl_over_r0 : IC := .reg [
    ⟨(some 2), none, .asg (.c (.slice none 0 0))⟩] [0] []
def ic_impl_over_r1 : IC := .reg [
    ⟨(some 6), none, .mv (.t 0)⟩,
    ⟨(some 7), none, .call l_impl_falling [(.rd, (.t 6))] true⟩,
    ⟨(some 3), none, .asg (.t 7)⟩] [0, 3] []
def ic_impl_over_r2 : IC := .reg [
    ⟨(some 8), none, .mv (.t 3)⟩,
    ⟨(some 9), none, .call l_slices_Reverse_Sint_int_ [(.ld, (.t 8))] false⟩] [0, 3] []
def ic_impl_over_r3 : IC := .reg [
    ⟨(some 10), none, .mv (.t 0)⟩,
    ⟨(some 11), none, .len (.t 10)⟩,
    ⟨(some 12), none, .mksl 1 [(vi 0)] (.t 11) (.t 11)⟩,
    ⟨(some 4), none, .asg (.t 12)⟩] [3, 4] []
def ic_impl_over_r4 : IC := .reg [
    ⟨(some 13), none, .mv (.t 4)⟩,
    ⟨(some 14), none, .len (.t 13)⟩,
    ⟨(some 15), none, .mv (.c (vi 0))⟩] [3, 4, 14, 15] []
def ic_impl_over_r5 : IC := .reg [
    ⟨(some 16), none, .bin .lss (.t 15) (.t 14)⟩] [3, 4, 14, 15, 16] []
def ic_impl_over_r6 : IC := .reg [
    ⟨(some 17), none, .asg (.t 15)⟩,
    ⟨(some 5), none, .asg (.t 17)⟩] [3, 4, 5, 14, 15] []
def ic_impl_over_r7 : IC := .reg [
    ⟨(some 18), none, .mv (.t 4)⟩,
    ⟨(some 19), none, .mv (.t 5)⟩,
    ⟨(some 20), none, .mv (.t 3)⟩,
    ⟨(some 21), none, .mv (.t 5)⟩,
    ⟨(some 22), none, .bin .add (.t 21) (.c (vi 1))⟩,
    ⟨(some 23), none, .slc 1 (.t 20) none (some (.t 22)) none⟩,
    ⟨(some 24), none, .call l_impl_sum [(.rd, (.t 23))] true⟩,
    ⟨(some 25), none, .mv (.t 5)⟩,
    ⟨(some 26), none, .bin .add (.t 25) (.c (vi 1))⟩,
    ⟨(some 27), none, .mv (.t 5)⟩,
    ⟨(some 28), none, .bin .mul (.t 26) (.t 27)⟩,
    ⟨(some 29), none, .bin .quo (.t 28) (.c (vi 2))⟩,
    ⟨(some 30), none, .bin .sub (.t 24) (.t 29)⟩,
    ⟨(some 31), none, .iadr 1 (.t 18) (.t 19)⟩,
    ⟨none, none, .store 1 (.t 31) (.t 30)⟩] [3, 4, 14, 15] []
def ic_impl_over_r8 : IC := .reg [
    ⟨(some 32), none, .bin .add (.t 15) (.c (vi 1))⟩,
    ⟨(some 15), none, .asg (.t 32)⟩] [3, 4, 14, 15] []
def ic_impl_over_l9 : IC := (.seq ic_impl_over_r5 (.seq (.cond (.t 16) .skip (.exit 0)) (.seq (.block 1 (.seq ic_impl_over_r6 ic_impl_over_r7)) ic_impl_over_r8)))
def ic_impl_over_r10 : IC := .reg [
    ⟨(some 33), none, .mv (.t 4)⟩,
    ⟨(some 2), none, .asgm (.t 33)⟩] [2, 4] []
def if_impl_over : IFun := ⟨[.t 2], [], (.seq ic_impl_over_r0 (.seq ic_impl_over_r1 (.seq ic_impl_over_r2 (.seq ic_impl_over_r3 (.seq (.seq ic_impl_over_r4 (.block 0 (.loop ic_impl_over_l9))) (.seq ic_impl_over_r10 .ret))))))⟩

def ic_impl_sum_r0 : IC := .reg [
    ⟨(some 2), none, .asg (.c (vi 0))⟩] [0] []
def ic_impl_sum_r1 : IC := .reg [
    ⟨(some 3), none, .asg (.c (vi 0))⟩] [0, 3] []
def ic_impl_sum_r2 : IC := .reg [
    ⟨(some 6), none, .mv (.t 0)⟩,
    ⟨(some 7), none, .len (.t 6)⟩,
    ⟨(some 8), none, .mv (.c (vi 0))⟩] [0, 3, 6, 7, 8] []
def ic_impl_sum_r3 : IC := .reg [
    ⟨(some 9), none, .bin .lss (.t 8) (.t 7)⟩] [0, 3, 6, 7, 8, 9] []
def ic_impl_sum_r4 : IC := .reg [
    ⟨(some 10), none, .iadr 1 (.t 6) (.t 8)⟩,
    ⟨(some 11), none, .load false 1 (.t 10)⟩,
    ⟨(some 5), none, .asg (.t 11)⟩] [0, 3, 5, 6, 7, 8] []
def ic_impl_sum_r5 : IC := .reg [
    ⟨(some 12), none, .mv (.t 3)⟩,
    ⟨(some 13), none, .mv (.t 5)⟩,
    ⟨(some 14), none, .bin .add (.t 12) (.t 13)⟩,
    ⟨(some 3), none, .asg (.t 14)⟩] [0, 3, 6, 7, 8] []
def ic_impl_sum_r6 : IC := .reg [
    ⟨(some 15), none, .bin .add (.t 8) (.c (vi 1))⟩,
    ⟨(some 8), none, .asg (.t 15)⟩] [0, 3, 6, 7, 8] []
def ic_impl_sum_l7 : IC := (.seq ic_impl_sum_r3 (.seq (.cond (.t 9) .skip (.exit 0)) (.seq (.block 1 (.seq ic_impl_sum_r4 ic_impl_sum_r5)) ic_impl_sum_r6)))
def ic_impl_sum_r8 : IC := .reg [
    ⟨(some 16), none, .mv (.t 3)⟩,
    ⟨(some 2), none, .asgm (.t 16)⟩] [2] []
def if_impl_sum : IFun := ⟨[.t 2], [], (.seq ic_impl_sum_r0 (.seq ic_impl_sum_r1 (.seq (.seq ic_impl_sum_r2 (.block 0 (.loop ic_impl_sum_l7))) (.seq ic_impl_sum_r8 .ret))))⟩

def ic_impl_table_r0 : IC := .reg [
    ⟨(some 6), none, .asg (.c (.slice none 0 0))⟩] [0, 1, 2] []
def ic_impl_table_r1 : IC := .reg [
    ⟨(some 10), none, .mv (.t 0)⟩,
    ⟨(some 11), none, .mksl 1 [(.slice none 0 0)] (.t 10) (.t 10)⟩,
    ⟨(some 7), none, .asg (.t 11)⟩] [1, 2, 7] []
def ic_impl_table_r2 : IC := .reg [
    ⟨(some 12), none, .mv (.t 7)⟩,
    ⟨(some 13), none, .len (.t 12)⟩,
    ⟨(some 14), none, .mv (.c (vi 0))⟩] [1, 2, 7, 13, 14] []
def ic_impl_table_r3 : IC := .reg [
    ⟨(some 15), none, .bin .lss (.t 14) (.t 13)⟩] [1, 2, 7, 13, 14, 15] []
def ic_impl_table_r4 : IC := .reg [
    ⟨(some 16), none, .asg (.t 14)⟩,
    ⟨(some 8), none, .asg (.t 16)⟩] [1, 2, 7, 8, 13, 14] []
def ic_impl_table_r5 : IC := .reg [
    ⟨(some 17), none, .mv (.t 7)⟩,
    ⟨(some 18), none, .mv (.t 8)⟩,
    ⟨(some 19), none, .mv (.t 1)⟩,
    ⟨(some 20), none, .mksl 1 [(vi 0)] (.t 19) (.t 19)⟩,
    ⟨(some 21), none, .iadr 1 (.t 17) (.t 18)⟩,
    ⟨none, none, .store 1 (.t 21) (.t 20)⟩] [1, 2, 7, 8, 13, 14] []
def ic_impl_table_r6 : IC := .reg [
    ⟨(some 22), none, .mv (.t 7)⟩,
    ⟨(some 23), none, .mv (.t 8)⟩,
    ⟨(some 24), none, .iadr 1 (.t 22) (.t 23)⟩,
    ⟨(some 25), none, .load false 1 (.t 24)⟩,
    ⟨(some 26), none, .len (.t 25)⟩,
    ⟨(some 27), none, .mv (.c (vi 0))⟩] [1, 2, 7, 8, 13, 14, 26, 27] []
def ic_impl_table_r7 : IC := .reg [
    ⟨(some 28), none, .bin .lss (.t 27) (.t 26)⟩] [1, 2, 7, 8, 13, 14, 26, 27, 28] []
def ic_impl_table_r8 : IC := .reg [
    ⟨(some 29), none, .asg (.t 27)⟩,
    ⟨(some 9), none, .asg (.t 29)⟩] [1, 2, 7, 8, 9, 13, 14, 26, 27] []
def ic_impl_table_r9 : IC := .reg [
    ⟨(some 30), none, .mv (.t 7)⟩,
    ⟨(some 31), none, .mv (.t 8)⟩,
    ⟨(some 32), none, .iadr 1 (.t 30) (.t 31)⟩,
    ⟨(some 33), none, .load false 1 (.t 32)⟩,
    ⟨(some 34), none, .mv (.t 9)⟩,
    ⟨(some 35), none, .mv (.t 2)⟩,
    ⟨(some 36), none, .mv (.t 8)⟩,
    ⟨(some 37), none, .mv (.t 9)⟩,
    ⟨(some 38), none, .callv (.t 35) [(.val, (.t 36)), (.val, (.t 37))]⟩,
    ⟨(some 39), none, .iadr 1 (.t 33) (.t 34)⟩,
    ⟨none, none, .store 1 (.t 39) (.t 38)⟩] [1, 2, 7, 8, 13, 14, 26, 27] [[0, 1, 2, 4, 5, 6, 7, 8, 3, 9, 10]]
def ic_impl_table_r10 : IC := .reg [
    ⟨(some 40), none, .bin .add (.t 27) (.c (vi 1))⟩,
    ⟨(some 27), none, .asg (.t 40)⟩] [1, 2, 7, 8, 13, 14, 26, 27] []
def ic_impl_table_l11 : IC := (.seq ic_impl_table_r7 (.seq (.cond (.t 28) .skip (.exit 2)) (.seq (.block 3 (.seq ic_impl_table_r8 ic_impl_table_r9)) ic_impl_table_r10)))
def ic_impl_table_r12 : IC := .reg [
    ⟨(some 41), none, .bin .add (.t 14) (.c (vi 1))⟩,
    ⟨(some 14), none, .asg (.t 41)⟩] [1, 2, 7, 13, 14] []
def ic_impl_table_l13 : IC := (.seq ic_impl_table_r3 (.seq (.cond (.t 15) .skip (.exit 0)) (.seq (.block 1 (.seq ic_impl_table_r4 (.seq ic_impl_table_r5 (.seq ic_impl_table_r6 (.block 2 (.loop ic_impl_table_l11)))))) ic_impl_table_r12)))
def ic_impl_table_r14 : IC := .reg [
    ⟨(some 42), none, .mv (.t 7)⟩,
    ⟨(some 6), none, .asgm (.t 42)⟩] [6, 7] []
def if_impl_table : IFun := ⟨[.t 6], [], (.seq ic_impl_table_r0 (.seq ic_impl_table_r1 (.seq (.seq ic_impl_table_r2 (.block 0 (.loop ic_impl_table_l13))) (.seq ic_impl_table_r14 .ret))))⟩

def ic_laws_FnTurnTriangle_r0 : IC := .reg [
    ⟨(some 2), none, .asg (.c (.bool false))⟩] [0] []
def ic_laws_FnTurnTriangle_r1 : IC := .reg [
    ⟨(some 13), none, .mv (.t 0)⟩,
    ⟨(some 14), none, .len (.t 13)⟩,
    ⟨(some 15), none, .bin .gtr (.t 14) (.c (vi 1048576))⟩] [0, 15] []
def ic_laws_FnTurnTriangle_r2 : IC := .reg [
    ⟨(some 2), none, .asg (.c (.bool true))⟩] [2] []
def ic_laws_FnTurnTriangle_r3 : IC := .reg [
    ⟨(some 17), none, .mv (.t 0)⟩,
    ⟨(some 18), none, .call l_spec_DrawTurnTriangle [(.rd, (.t 17))] true⟩,
    ⟨(some 16), none, .asg (.t 18)⟩,
    ⟨(some 19), none, .extr (.t 16) 0⟩,
    ⟨(some 20), none, .extr (.t 16) 1⟩,
    ⟨(some 21), none, .extr (.t 16) 2⟩,
    ⟨(some 22), none, .extr (.t 16) 3⟩,
    ⟨(some 3), none, .asg (.t 19)⟩,
    ⟨(some 4), none, .asg (.t 20)⟩,
    ⟨(some 5), none, .asg (.t 21)⟩,
    ⟨(some 6), none, .asg (.t 22)⟩] [3, 4, 5, 6] []
def ic_laws_FnTurnTriangle_r4 : IC := .reg [
    ⟨(some 24), none, .mv (.t 3)⟩,
    ⟨(some 25), none, .mv (.t 4)⟩,
    ⟨(some 26), none, .mv (.t 5)⟩,
    ⟨(some 27), none, .mv (.t 6)⟩,
    ⟨(some 28), none, .call l_impl_TurnTriangle [(.rd, (.t 24)), (.val, (.t 25)), (.val, (.t 26)), (.val, (.t 27))] true⟩,
    ⟨(some 23), none, .asg (.t 28)⟩,
    ⟨(some 29), none, .extr (.t 23) 0⟩,
    ⟨(some 30), none, .extr (.t 23) 1⟩,
    ⟨(some 7), none, .asg (.t 29)⟩,
    ⟨(some 8), none, .asg (.t 30)⟩] [3, 4, 5, 6, 7, 8] []
def ic_laws_FnTurnTriangle_r5 : IC := .reg [
    ⟨(some 32), none, .mv (.t 3)⟩,
    ⟨(some 33), none, .mv (.t 4)⟩,
    ⟨(some 34), none, .mv (.t 5)⟩,
    ⟨(some 35), none, .mv (.t 6)⟩,
    ⟨(some 36), none, .call l_spec_TurnTriangle [(.rd, (.t 32)), (.val, (.t 33)), (.val, (.t 34)), (.val, (.t 35))] true⟩,
    ⟨(some 31), none, .asg (.t 36)⟩,
    ⟨(some 37), none, .extr (.t 31) 0⟩,
    ⟨(some 38), none, .extr (.t 31) 1⟩,
    ⟨(some 9), none, .asg (.t 37)⟩,
    ⟨(some 10), none, .asg (.t 38)⟩] [3, 4, 5, 6, 7, 8, 9, 10] []
def ic_laws_FnTurnTriangle_r6 : IC := .reg [
    ⟨(some 39), none, .mv (.t 7)⟩,
    ⟨(some 40), none, .mv (.t 9)⟩,
    ⟨(some 41), none, .call l_laws_equalLists [(.rd, (.t 39)), (.rd, (.t 40))] true⟩,
    ⟨(some 42), none, .unop .not (.t 41)⟩,
    ⟨(some 43), none, .asg (.t 42)⟩,
    ⟨(some 44), (some (43, false)), .mv (.t 8)⟩,
    ⟨(some 45), (some (43, false)), .mv (.t 10)⟩,
    ⟨(some 46), (some (43, false)), .eqb true (.t 44) (.t 45)⟩,
    ⟨(some 47), none, .pick (.t 43) (.c (.bool true)) (.t 46)⟩,
    ⟨(some 48), none, .asg (.t 47)⟩,
    ⟨(some 49), (some (48, false)), .mv (.t 8)⟩,
    ⟨(some 50), (some (48, false)), .unop .not (.t 49)⟩,
    ⟨(some 51), none, .pick (.t 48) (.c (.bool true)) (.t 50)⟩] [3, 4, 5, 6, 7, 8, 9, 10, 51] []
def ic_laws_FnTurnTriangle_r7 : IC := .reg [
    ⟨(some 52), none, .mv (.t 7)⟩,
    ⟨(some 53), none, .mv (.t 9)⟩,
    ⟨(some 54), none, .call l_laws_equalLists [(.rd, (.t 52)), (.rd, (.t 53))] true⟩,
    ⟨(some 55), none, .asg (.t 54)⟩,
    ⟨(some 56), (some (55, true)), .mv (.t 8)⟩,
    ⟨(some 57), (some (55, true)), .mv (.t 10)⟩,
    ⟨(some 58), (some (55, true)), .eqb false (.t 56) (.t 57)⟩,
    ⟨(some 59), none, .pick (.t 55) (.t 58) (.c (.bool false))⟩,
    ⟨(some 2), none, .asg (.t 59)⟩] [2] []
def ic_laws_FnTurnTriangle_r8 : IC := .reg [
    ⟨(some 61), none, .mv (.t 7)⟩,
    ⟨(some 62), none, .mv (.t 4)⟩,
    ⟨(some 63), none, .mv (.t 6)⟩,
    ⟨(some 64), none, .mv (.t 5)⟩,
    ⟨(some 65), none, .call l_impl_TurnTriangle [(.rd, (.t 61)), (.val, (.t 62)), (.val, (.t 63)), (.val, (.t 64))] true⟩,
    ⟨(some 60), none, .asg (.t 65)⟩,
    ⟨(some 66), none, .extr (.t 60) 0⟩,
    ⟨(some 67), none, .extr (.t 60) 1⟩,
    ⟨(some 11), none, .asg (.t 66)⟩,
    ⟨(some 12), none, .asg (.t 67)⟩] [3, 7, 11, 12] []
def ic_laws_FnTurnTriangle_r9 : IC := .reg [
    ⟨(some 68), none, .mv (.t 7)⟩,
    ⟨(some 69), none, .call l_impl_ScoresOf [(.rd, (.t 68))] true⟩,
    ⟨(some 70), none, .mv (.t 3)⟩,
    ⟨(some 71), none, .call l_impl_ScoresOf [(.rd, (.t 70))] true⟩,
    ⟨(some 72), none, .call l_laws_equalInts [(.rd, (.t 69)), (.rd, (.t 71))] true⟩,
    ⟨(some 73), none, .asg (.t 72)⟩,
    ⟨(some 74), (some (73, true)), .mv (.t 7)⟩,
    ⟨(some 75), (some (73, true)), .call l_impl_IsStrong [(.rd, (.t 74))] true⟩,
    ⟨(some 76), (some (73, true)), .mv (.t 3)⟩,
    ⟨(some 77), (some (73, true)), .call l_impl_IsStrong [(.rd, (.t 76))] true⟩,
    ⟨(some 78), (some (73, true)), .eqb false (.t 75) (.t 77)⟩,
    ⟨(some 79), none, .pick (.t 73) (.t 78) (.c (.bool false))⟩,
    ⟨(some 80), none, .asg (.t 79)⟩,
    ⟨(some 81), (some (80, true)), .mv (.t 12)⟩,
    ⟨(some 82), none, .pick (.t 80) (.t 81) (.c (.bool false))⟩,
    ⟨(some 83), none, .asg (.t 82)⟩,
    ⟨(some 84), (some (83, true)), .mv (.t 11)⟩,
    ⟨(some 85), (some (83, true)), .mv (.t 3)⟩,
    ⟨(some 86), (some (83, true)), .call l_laws_equalLists [(.rd, (.t 84)), (.rd, (.t 85))] true⟩,
    ⟨(some 87), none, .pick (.t 83) (.t 86) (.c (.bool false))⟩,
    ⟨(some 2), none, .asg (.t 87)⟩] [2] []
def if_laws_FnTurnTriangle : IFun := ⟨[.t 2], [], (.seq ic_laws_FnTurnTriangle_r0 (.seq (.seq ic_laws_FnTurnTriangle_r1 (.cond (.t 15) (.seq ic_laws_FnTurnTriangle_r2 .ret) .skip)) (.seq ic_laws_FnTurnTriangle_r3 (.seq ic_laws_FnTurnTriangle_r4 (.seq ic_laws_FnTurnTriangle_r5 (.seq (.seq ic_laws_FnTurnTriangle_r6 (.cond (.t 51) (.seq ic_laws_FnTurnTriangle_r7 .ret) .skip)) (.seq ic_laws_FnTurnTriangle_r8 (.seq ic_laws_FnTurnTriangle_r9 .ret))))))))⟩

def ic_laws_equalInts_r0 : IC := .reg [
    ⟨(some 4), none, .asg (.c (.bool false))⟩] [0, 1] []
def ic_laws_equalInts_r1 : IC := .reg [
    ⟨(some 6), none, .mv (.t 0)⟩,
    ⟨(some 7), none, .len (.t 6)⟩,
    ⟨(some 8), none, .mv (.t 1)⟩,
    ⟨(some 9), none, .len (.t 8)⟩,
    ⟨(some 10), none, .bin .neq (.t 7) (.t 9)⟩] [0, 1, 10] []
def ic_laws_equalInts_r2 : IC := .reg [
    ⟨(some 4), none, .asg (.c (.bool false))⟩] [4] []
def ic_laws_equalInts_r3 : IC := .reg [
    ⟨(some 5), none, .asg (.c (vi 0))⟩] [0, 1, 5] []
def ic_laws_equalInts_r4 : IC := .reg [
    ⟨(some 11), none, .mv (.t 5)⟩,
    ⟨(some 12), none, .mv (.t 0)⟩,
    ⟨(some 13), none, .len (.t 12)⟩,
    ⟨(some 14), none, .bin .lss (.t 11) (.t 13)⟩] [0, 1, 5, 14] []
def ic_laws_equalInts_r5 : IC := .reg [
    ⟨(some 17), none, .mv (.t 0)⟩,
    ⟨(some 18), none, .mv (.t 5)⟩,
    ⟨(some 19), none, .iadr 1 (.t 17) (.t 18)⟩,
    ⟨(some 20), none, .load false 1 (.t 19)⟩,
    ⟨(some 21), none, .mv (.t 1)⟩,
    ⟨(some 22), none, .mv (.t 5)⟩,
    ⟨(some 23), none, .iadr 1 (.t 21) (.t 22)⟩,
    ⟨(some 24), none, .load false 1 (.t 23)⟩,
    ⟨(some 25), none, .bin .neq (.t 20) (.t 24)⟩] [0, 1, 5, 25] []
def ic_laws_equalInts_r6 : IC := .reg [
    ⟨(some 4), none, .asg (.c (.bool false))⟩] [4] []
def ic_laws_equalInts_r7 : IC := .reg [
    ⟨(some 15), none, .mv (.t 5)⟩,
    ⟨(some 16), none, .bin .add (.t 15) (.c (vi 1))⟩,
    ⟨(some 5), none, .asg (.t 16)⟩] [0, 1, 5] []
def ic_laws_equalInts_l8 : IC := (.seq (.seq ic_laws_equalInts_r4 (.cond (.t 14) .skip (.exit 0))) (.seq (.block 1 (.seq ic_laws_equalInts_r5 (.cond (.t 25) (.seq ic_laws_equalInts_r6 .ret) .skip))) ic_laws_equalInts_r7))
def ic_laws_equalInts_r9 : IC := .reg [
    ⟨(some 4), none, .asg (.c (.bool true))⟩] [4] []
def if_laws_equalInts : IFun := ⟨[.t 4], [], (.seq ic_laws_equalInts_r0 (.seq (.seq ic_laws_equalInts_r1 (.cond (.t 10) (.seq ic_laws_equalInts_r2 .ret) .skip)) (.seq (.seq ic_laws_equalInts_r3 (.block 0 (.loop ic_laws_equalInts_l8))) (.seq ic_laws_equalInts_r9 .ret))))⟩

def ic_laws_equalLists_r0 : IC := .reg [
    ⟨(some 4), none, .asg (.c (.bool false))⟩] [0, 1] []
def ic_laws_equalLists_r1 : IC := .reg [
    ⟨(some 6), none, .mv (.t 0)⟩,
    ⟨(some 7), none, .len (.t 6)⟩,
    ⟨(some 8), none, .mv (.t 1)⟩,
    ⟨(some 9), none, .len (.t 8)⟩,
    ⟨(some 10), none, .bin .neq (.t 7) (.t 9)⟩] [0, 1, 10] []
def ic_laws_equalLists_r2 : IC := .reg [
    ⟨(some 4), none, .asg (.c (.bool false))⟩] [4] []
def ic_laws_equalLists_r3 : IC := .reg [
    ⟨(some 5), none, .asg (.c (vi 0))⟩] [0, 1, 5] []
def ic_laws_equalLists_r4 : IC := .reg [
    ⟨(some 11), none, .mv (.t 5)⟩,
    ⟨(some 12), none, .mv (.t 0)⟩,
    ⟨(some 13), none, .len (.t 12)⟩,
    ⟨(some 14), none, .bin .lss (.t 11) (.t 13)⟩] [0, 1, 5, 14] []
def ic_laws_equalLists_r5 : IC := .reg [
    ⟨(some 17), none, .mv (.t 0)⟩,
    ⟨(some 18), none, .mv (.t 5)⟩,
    ⟨(some 19), none, .iadr 1 (.t 17) (.t 18)⟩,
    ⟨(some 20), none, .load false 1 (.t 19)⟩,
    ⟨(some 21), none, .mv (.t 1)⟩,
    ⟨(some 22), none, .mv (.t 5)⟩,
    ⟨(some 23), none, .iadr 1 (.t 21) (.t 22)⟩,
    ⟨(some 24), none, .load false 1 (.t 23)⟩,
    ⟨(some 25), none, .call l_laws_equalInts [(.rd, (.t 20)), (.rd, (.t 24))] true⟩,
    ⟨(some 26), none, .unop .not (.t 25)⟩] [0, 1, 5, 26] []
def ic_laws_equalLists_r6 : IC := .reg [
    ⟨(some 4), none, .asg (.c (.bool false))⟩] [4] []
def ic_laws_equalLists_r7 : IC := .reg [
    ⟨(some 15), none, .mv (.t 5)⟩,
    ⟨(some 16), none, .bin .add (.t 15) (.c (vi 1))⟩,
    ⟨(some 5), none, .asg (.t 16)⟩] [0, 1, 5] []
def ic_laws_equalLists_l8 : IC := (.seq (.seq ic_laws_equalLists_r4 (.cond (.t 14) .skip (.exit 0))) (.seq (.block 1 (.seq ic_laws_equalLists_r5 (.cond (.t 26) (.seq ic_laws_equalLists_r6 .ret) .skip))) ic_laws_equalLists_r7))
def ic_laws_equalLists_r9 : IC := .reg [
    ⟨(some 4), none, .asg (.c (.bool true))⟩] [4] []
def if_laws_equalLists : IFun := ⟨[.t 4], [], (.seq ic_laws_equalLists_r0 (.seq (.seq ic_laws_equalLists_r1 (.cond (.t 10) (.seq ic_laws_equalLists_r2 .ret) .skip)) (.seq (.seq ic_laws_equalLists_r3 (.block 0 (.loop ic_laws_equalLists_l8))) (.seq ic_laws_equalLists_r9 .ret))))⟩

def ic_math_bits_Len_r0 : IC := .reg [
    ⟨(some 2), none, .asg (.c (vi 0))⟩] [0] []
def ic_math_bits_Len_r1 : IC := .reg [
    ⟨(some 3), none, .mv (.t 0)⟩,
    ⟨(some 4), none, .conv .u32 (.t 3)⟩,
    ⟨(some 5), none, .call l_math_bits_Len32 [(.val, (.t 4))] true⟩,
    ⟨(some 2), none, .asg (.t 5)⟩] [2] []
def ic_math_bits_Len_r2 : IC := .reg [
    ⟨(some 6), none, .mv (.t 0)⟩,
    ⟨(some 7), none, .call l_math_bits_Len64 [(.val, (.t 6))] true⟩,
    ⟨(some 2), none, .asg (.t 7)⟩] [2] []
def if_math_bits_Len : IFun := ⟨[.t 2], [], (.seq ic_math_bits_Len_r0 (.seq (.cond (.c (.bool false)) (.seq ic_math_bits_Len_r1 .ret) .skip) (.seq ic_math_bits_Len_r2 .ret)))⟩

def ic_math_bits_Len64_r0 : IC := .reg [
    ⟨(some 2), none, .asg (.c (vi 0))⟩] [0, 2] []
def ic_math_bits_Len64_r1 : IC := .reg [
    ⟨(some 3), none, .mv (.t 0)⟩,
    ⟨(some 4), none, .bin .geq (.t 3) (.c (.int .u64 (4294967296)))⟩] [0, 2, 4] []
def ic_math_bits_Len64_r2 : IC := .reg [
    ⟨(some 5), none, .mv (.t 0)⟩,
    ⟨(some 6), none, .bin .shr (.t 5) (.c (.int .u64 (32)))⟩,
    ⟨(some 0), none, .asg (.t 6)⟩] [0] []
def ic_math_bits_Len64_r3 : IC := .reg [
    ⟨(some 2), none, .asg (.c (vi 32))⟩] [0, 2] []
def ic_math_bits_Len64_r4 : IC := .reg [
    ⟨(some 7), none, .mv (.t 0)⟩,
    ⟨(some 8), none, .bin .geq (.t 7) (.c (.int .u64 (65536)))⟩] [0, 2, 8] []
def ic_math_bits_Len64_r5 : IC := .reg [
    ⟨(some 9), none, .mv (.t 0)⟩,
    ⟨(some 10), none, .bin .shr (.t 9) (.c (.int .u64 (16)))⟩,
    ⟨(some 0), none, .asg (.t 10)⟩] [0, 2] []
def ic_math_bits_Len64_r6 : IC := .reg [
    ⟨(some 11), none, .mv (.t 2)⟩,
    ⟨(some 12), none, .bin .add (.t 11) (.c (vi 16))⟩,
    ⟨(some 2), none, .asg (.t 12)⟩] [0, 2] []
def ic_math_bits_Len64_r7 : IC := .reg [
    ⟨(some 13), none, .mv (.t 0)⟩,
    ⟨(some 14), none, .bin .geq (.t 13) (.c (.int .u64 (256)))⟩] [0, 2, 14] []
def ic_math_bits_Len64_r8 : IC := .reg [
    ⟨(some 15), none, .mv (.t 0)⟩,
    ⟨(some 16), none, .bin .shr (.t 15) (.c (.int .u64 (8)))⟩,
    ⟨(some 0), none, .asg (.t 16)⟩] [0, 2] []
def ic_math_bits_Len64_r9 : IC := .reg [
    ⟨(some 17), none, .mv (.t 2)⟩,
    ⟨(some 18), none, .bin .add (.t 17) (.c (vi 8))⟩,
    ⟨(some 2), none, .asg (.t 18)⟩] [0, 2] []
def ic_math_bits_Len64_r10 : IC := .reg [
    ⟨(some 19), none, .mv (.t 2)⟩,
    ⟨(some 20), none, .mv (.t 0)⟩,
    ⟨(some 21), none, .conv .u8 (.t 20)⟩,
    ⟨(some 22), none, .idxs (.c (.string ⟨#[0, 1, 2, 2, 3, 3, 3, 3, 4, 4, 4, 4, 4, 4, 4, 4, 5, 5, 5, 5, 5, 5, 5, 5, 5, 5, 5, 5, 5, 5, 5, 5, 6, 6, 6, 6, 6, 6, 6, 6, 6, 6, 6, 6, 6, 6, 6, 6, 6, 6, 6, 6, 6, 6, 6, 6, 6, 6, 6, 6, 6, 6, 6, 6, 7, 7, 7, 7, 7, 7, 7, 7, 7, 7, 7, 7, 7, 7, 7, 7, 7, 7, 7, 7, 7, 7, 7, 7, 7, 7, 7, 7, 7, 7, 7, 7, 7, 7, 7, 7, 7, 7, 7, 7, 7, 7, 7, 7, 7, 7, 7, 7, 7, 7, 7, 7, 7, 7, 7, 7, 7, 7, 7, 7, 7, 7, 7, 7, 8, 8, 8, 8, 8, 8, 8, 8, 8, 8, 8, 8, 8, 8, 8, 8, 8, 8, 8, 8, 8, 8, 8, 8, 8, 8, 8, 8, 8, 8, 8, 8, 8, 8, 8, 8, 8, 8, 8, 8, 8, 8, 8, 8, 8, 8, 8, 8, 8, 8, 8, 8, 8, 8, 8, 8, 8, 8, 8, 8, 8, 8, 8, 8, 8, 8, 8, 8, 8, 8, 8, 8, 8, 8, 8, 8, 8, 8, 8, 8, 8, 8, 8, 8, 8, 8, 8, 8, 8, 8, 8, 8, 8, 8, 8, 8, 8, 8, 8, 8, 8, 8, 8, 8, 8, 8, 8, 8, 8, 8, 8, 8, 8, 8, 8, 8, 8, 8, 8, 8, 8, 8, 8, 8, 8, 8, 8, 8]⟩)) (.t 21)⟩,
    ⟨(some 23), none, .conv .i64 (.t 22)⟩,
    ⟨(some 24), none, .bin .add (.t 19) (.t 23)⟩,
    ⟨(some 2), none, .asg (.t 24)⟩] [2] []
def if_math_bits_Len64 : IFun := ⟨[.t 2], [], (.seq ic_math_bits_Len64_r0 (.seq (.seq ic_math_bits_Len64_r1 (.cond (.t 4) (.seq ic_math_bits_Len64_r2 ic_math_bits_Len64_r3) .skip)) (.seq (.seq ic_math_bits_Len64_r4 (.cond (.t 8) (.seq ic_math_bits_Len64_r5 ic_math_bits_Len64_r6) .skip)) (.seq (.seq ic_math_bits_Len64_r7 (.cond (.t 14) (.seq ic_math_bits_Len64_r8 ic_math_bits_Len64_r9) .skip)) (.seq ic_math_bits_Len64_r10 .ret)))))⟩

def ic_slices_Clip_Sint_int__r0 : IC := .reg [
    ⟨(some 2), none, .asg (.c (.slice none 0 0))⟩] [0] []
def ic_slices_Clip_Sint_int__r1 : IC := .reg [
    ⟨(some 3), none, .mv (.t 0)⟩,
    ⟨(some 4), none, .mv (.t 0)⟩,
    ⟨(some 5), none, .len (.t 4)⟩,
    ⟨(some 6), none, .mv (.t 0)⟩,
    ⟨(some 7), none, .len (.t 6)⟩,
    ⟨(some 8), none, .slc 1 (.t 3) none (some (.t 5)) (some (.t 7))⟩,
    ⟨(some 2), none, .asgm (.t 8)⟩] [0, 2] []
def if_slices_Clip_Sint_int_ : IFun := ⟨[.t 2], [], (.seq ic_slices_Clip_Sint_int__r0 (.seq ic_slices_Clip_Sint_int__r1 .ret))⟩

def ic_slices_Clone_Sint_int__r0 : IC := .reg [
    ⟨(some 2), none, .nilo 1⟩] [0] []
def ic_slices_Clone_Sint_int__r1 : List IOp := [
    ⟨(some 3), none, .mv (.t 0)⟩]
def ic_slices_Clone_Sint_int__r2 : IC := .reg [
    ⟨(some 2), none, .nilo 1⟩] [2] []
def ic_slices_Clone_Sint_int__r3 : IC := .reg [
    ⟨(some 5), none, .bsl 1 [(vi 0)] 0 []⟩,
    ⟨(some 6), none, .mv (.t 0)⟩,
    ⟨(some 7), none, .app 1 (.t 5) (.t 6)⟩,
    ⟨(some 2), none, .asg (.t 7)⟩] [2] []
def if_slices_Clone_Sint_int_ : IFun := ⟨[.t 2], [], (.seq ic_slices_Clone_Sint_int__r0 (.nilc2 ic_slices_Clone_Sint_int__r1 (.t 3) 4 [0, 4] (.cond (.t 4) (.seq ic_slices_Clone_Sint_int__r2 .ret) .skip) (.seq ic_slices_Clone_Sint_int__r3 .ret)))⟩

def ic_slices_ContainsFunc_Sint_int__r0 : IC := .reg [
    ⟨(some 4), none, .asg (.c (.bool false))⟩] [0, 1] []
def ic_slices_ContainsFunc_Sint_int__r1 : IC := .reg [
    ⟨(some 5), none, .mv (.t 0)⟩,
    ⟨(some 6), none, .mv (.t 1)⟩,
    ⟨(some 7), none, .call l_slices_IndexFunc_Sint_int_ [(.rd, (.t 5)), (.val, (.t 6))] false⟩,
    ⟨(some 8), none, .bin .geq (.t 7) (.c (vi 0))⟩,
    ⟨(some 4), none, .asg (.t 8)⟩] [4] []
def if_slices_ContainsFunc_Sint_int_ : IFun := ⟨[.t 4], [], (.seq ic_slices_ContainsFunc_Sint_int__r0 (.seq ic_slices_ContainsFunc_Sint_int__r1 .ret))⟩

def ic_slices_IndexFunc_Sint_int__r0 : IC := .reg [
    ⟨(some 4), none, .asg (.c (vi 0))⟩] [0, 1] []
def ic_slices_IndexFunc_Sint_int__r1 : IC := .reg [
    ⟨(some 6), none, .mv (.t 0)⟩,
    ⟨(some 7), none, .len (.t 6)⟩,
    ⟨(some 8), none, .mv (.c (vi 0))⟩] [0, 1, 7, 8] []
def ic_slices_IndexFunc_Sint_int__r2 : IC := .reg [
    ⟨(some 9), none, .bin .lss (.t 8) (.t 7)⟩] [0, 1, 7, 8, 9] []
def ic_slices_IndexFunc_Sint_int__r3 : IC := .reg [
    ⟨(some 10), none, .asg (.t 8)⟩,
    ⟨(some 5), none, .asg (.t 10)⟩] [0, 1, 5, 7, 8] []
def ic_slices_IndexFunc_Sint_int__r4 : IC := .reg [
    ⟨(some 11), none, .mv (.t 1)⟩,
    ⟨(some 12), none, .mv (.t 0)⟩,
    ⟨(some 13), none, .mv (.t 5)⟩,
    ⟨(some 14), none, .iadr 1 (.t 12) (.t 13)⟩,
    ⟨(some 15), none, .load false 1 (.t 14)⟩,
    ⟨(some 16), none, .callv (.t 11) [(.val, (.t 15))]⟩] [0, 1, 5, 7, 8, 16] []
def ic_slices_IndexFunc_Sint_int__r5 : IC := .reg [
    ⟨(some 17), none, .mv (.t 5)⟩,
    ⟨(some 4), none, .asgm (.t 17)⟩] [4] []
def ic_slices_IndexFunc_Sint_int__r6 : IC := .reg [
    ⟨(some 18), none, .bin .add (.t 8) (.c (vi 1))⟩,
    ⟨(some 8), none, .asg (.t 18)⟩] [0, 1, 7, 8] []
def ic_slices_IndexFunc_Sint_int__l7 : IC := (.seq ic_slices_IndexFunc_Sint_int__r2 (.seq (.cond (.t 9) .skip (.exit 0)) (.seq (.block 1 (.seq ic_slices_IndexFunc_Sint_int__r3 (.seq ic_slices_IndexFunc_Sint_int__r4 (.cond (.t 16) (.seq ic_slices_IndexFunc_Sint_int__r5 .ret) .skip)))) ic_slices_IndexFunc_Sint_int__r6)))
def ic_slices_IndexFunc_Sint_int__r8 : IC := .reg [
    ⟨(some 4), none, .asg (.c (vi (-1)))⟩] [4] []
def if_slices_IndexFunc_Sint_int_ : IFun := ⟨[.t 4], [], (.seq ic_slices_IndexFunc_Sint_int__r0 (.seq (.seq ic_slices_IndexFunc_Sint_int__r1 (.block 0 (.loop ic_slices_IndexFunc_Sint_int__l7))) (.seq ic_slices_IndexFunc_Sint_int__r8 .ret)))⟩

def ic_slices_Index_Sint_int__r0 : IC := .reg [
    ⟨(some 4), none, .asg (.c (vi 0))⟩] [0, 1] []
def ic_slices_Index_Sint_int__r1 : IC := .reg [
    ⟨(some 6), none, .mv (.t 0)⟩,
    ⟨(some 7), none, .len (.t 6)⟩,
    ⟨(some 8), none, .mv (.c (vi 0))⟩] [0, 1, 7, 8] []
def ic_slices_Index_Sint_int__r2 : IC := .reg [
    ⟨(some 9), none, .bin .lss (.t 8) (.t 7)⟩] [0, 1, 7, 8, 9] []
def ic_slices_Index_Sint_int__r3 : IC := .reg [
    ⟨(some 10), none, .asg (.t 8)⟩,
    ⟨(some 5), none, .asg (.t 10)⟩] [0, 1, 5, 7, 8] []
def ic_slices_Index_Sint_int__r4 : IC := .reg [
    ⟨(some 11), none, .mv (.t 1)⟩,
    ⟨(some 12), none, .mv (.t 0)⟩,
    ⟨(some 13), none, .mv (.t 5)⟩,
    ⟨(some 14), none, .iadr 1 (.t 12) (.t 13)⟩,
    ⟨(some 15), none, .load false 1 (.t 14)⟩,
    ⟨(some 16), none, .bin .eql (.t 11) (.t 15)⟩] [0, 1, 5, 7, 8, 16] []
def ic_slices_Index_Sint_int__r5 : IC := .reg [
    ⟨(some 17), none, .mv (.t 5)⟩,
    ⟨(some 4), none, .asgm (.t 17)⟩] [4] []
def ic_slices_Index_Sint_int__r6 : IC := .reg [
    ⟨(some 18), none, .bin .add (.t 8) (.c (vi 1))⟩,
    ⟨(some 8), none, .asg (.t 18)⟩] [0, 1, 7, 8] []
def ic_slices_Index_Sint_int__l7 : IC := (.seq ic_slices_Index_Sint_int__r2 (.seq (.cond (.t 9) .skip (.exit 0)) (.seq (.block 1 (.seq ic_slices_Index_Sint_int__r3 (.seq ic_slices_Index_Sint_int__r4 (.cond (.t 16) (.seq ic_slices_Index_Sint_int__r5 .ret) .skip)))) ic_slices_Index_Sint_int__r6)))
def ic_slices_Index_Sint_int__r8 : IC := .reg [
    ⟨(some 4), none, .asg (.c (vi (-1)))⟩] [4] []
def if_slices_Index_Sint_int_ : IFun := ⟨[.t 4], [], (.seq ic_slices_Index_Sint_int__r0 (.seq (.seq ic_slices_Index_Sint_int__r1 (.block 0 (.loop ic_slices_Index_Sint_int__l7))) (.seq ic_slices_Index_Sint_int__r8 .ret)))⟩

def ic_slices_Reverse_Sint_int__r0 : IC := .reg [
    ⟨(some 4), none, .mv (.t 0)⟩,
    ⟨(some 5), none, .len (.t 4)⟩,
    ⟨(some 6), none, .bin .sub (.t 5) (.c (vi 1))⟩,
    ⟨(some 2), none, .asg (.c (vi 0))⟩,
    ⟨(some 3), none, .asg (.t 6)⟩] [0, 2, 3] []
def ic_slices_Reverse_Sint_int__r1 : IC := .reg [
    ⟨(some 7), none, .mv (.t 2)⟩,
    ⟨(some 8), none, .mv (.t 3)⟩,
    ⟨(some 9), none, .bin .lss (.t 7) (.t 8)⟩] [0, 2, 3, 9] []
def ic_slices_Reverse_Sint_int__r2 : IC := .reg [
    ⟨(some 14), none, .mv (.t 0)⟩,
    ⟨(some 15), none, .mv (.t 2)⟩,
    ⟨(some 16), none, .mv (.t 0)⟩,
    ⟨(some 17), none, .mv (.t 3)⟩,
    ⟨(some 18), none, .mv (.t 0)⟩,
    ⟨(some 19), none, .mv (.t 3)⟩,
    ⟨(some 20), none, .iadr 1 (.t 18) (.t 19)⟩,
    ⟨(some 21), none, .load false 1 (.t 20)⟩,
    ⟨(some 22), none, .mv (.t 0)⟩,
    ⟨(some 23), none, .mv (.t 2)⟩,
    ⟨(some 24), none, .iadr 1 (.t 22) (.t 23)⟩,
    ⟨(some 25), none, .load false 1 (.t 24)⟩,
    ⟨(some 26), none, .iadr 1 (.t 14) (.t 15)⟩,
    ⟨none, none, .store 1 (.t 26) (.t 21)⟩,
    ⟨(some 27), none, .iadr 1 (.t 16) (.t 17)⟩,
    ⟨none, none, .store 1 (.t 27) (.t 25)⟩] [0, 2, 3] []
def ic_slices_Reverse_Sint_int__r3 : IC := .reg [
    ⟨(some 10), none, .mv (.t 2)⟩,
    ⟨(some 11), none, .bin .add (.t 10) (.c (vi 1))⟩,
    ⟨(some 12), none, .mv (.t 3)⟩,
    ⟨(some 13), none, .bin .sub (.t 12) (.c (vi 1))⟩,
    ⟨(some 2), none, .asg (.t 11)⟩,
    ⟨(some 3), none, .asg (.t 13)⟩] [0, 2, 3] []
def ic_slices_Reverse_Sint_int__l4 : IC := (.seq (.seq ic_slices_Reverse_Sint_int__r1 (.cond (.t 9) .skip (.exit 0))) (.seq (.block 1 ic_slices_Reverse_Sint_int__r2) ic_slices_Reverse_Sint_int__r3))
def if_slices_Reverse_Sint_int_ : IFun := ⟨[], [0], (.seq ic_slices_Reverse_Sint_int__r0 (.block 0 (.loop ic_slices_Reverse_Sint_int__l4)))⟩

def ic_slices_Sort_Sint_int__r0 : IC := .reg [
    ⟨(some 3), none, .mv (.t 0)⟩,
    ⟨(some 4), none, .len (.t 3)⟩,
    ⟨(some 2), none, .asg (.t 4)⟩] [0, 2] []
def ic_slices_Sort_Sint_int__r1 : IC := .reg [
    ⟨(some 5), none, .mv (.t 0)⟩,
    ⟨(some 6), none, .mv (.t 2)⟩,
    ⟨(some 7), none, .mv (.t 2)⟩,
    ⟨(some 8), none, .conv .u64 (.t 7)⟩,
    ⟨(some 9), none, .call l_math_bits_Len [(.val, (.t 8))] true⟩,
    ⟨(some 10), none, .call l_slices_pdqsortOrdered_int_ [(.ld, (.t 5)), (.val, (.c (vi 0))), (.val, (.t 6)), (.val, (.t 9))] false⟩] [0] []
def if_slices_Sort_Sint_int_ : IFun := ⟨[], [0], (.seq ic_slices_Sort_Sint_int__r0 ic_slices_Sort_Sint_int__r1)⟩

def ic_slices_insertionSortOrdered_int__r0 : IC := .reg [
    ⟨(some 8), none, .mv (.t 1)⟩,
    ⟨(some 9), none, .bin .add (.t 8) (.c (vi 1))⟩,
    ⟨(some 6), none, .asg (.t 9)⟩] [0, 1, 2, 6] []
def ic_slices_insertionSortOrdered_int__r1 : IC := .reg [
    ⟨(some 10), none, .mv (.t 6)⟩,
    ⟨(some 11), none, .mv (.t 2)⟩,
    ⟨(some 12), none, .bin .lss (.t 10) (.t 11)⟩] [0, 1, 2, 6, 12] []
def ic_slices_insertionSortOrdered_int__r2 : IC := .reg [
    ⟨(some 15), none, .mv (.t 6)⟩,
    ⟨(some 7), none, .asg (.t 15)⟩] [0, 1, 2, 6, 7] []
def ic_slices_insertionSortOrdered_int__r3 : IC := .reg [
    ⟨(some 16), none, .mv (.t 7)⟩,
    ⟨(some 17), none, .mv (.t 1)⟩,
    ⟨(some 18), none, .bin .gtr (.t 16) (.t 17)⟩,
    ⟨(some 19), none, .asg (.t 18)⟩,
    ⟨(some 20), (some (19, true)), .mv (.t 0)⟩,
    ⟨(some 21), (some (19, true)), .mv (.t 7)⟩,
    ⟨(some 22), (some (19, true)), .iadr 1 (.t 20) (.t 21)⟩,
    ⟨(some 23), (some (19, true)), .load false 1 (.t 22)⟩,
    ⟨(some 24), (some (19, true)), .mv (.t 0)⟩,
    ⟨(some 25), (some (19, true)), .mv (.t 7)⟩,
    ⟨(some 26), (some (19, true)), .bin .sub (.t 25) (.c (vi 1))⟩,
    ⟨(some 27), (some (19, true)), .iadr 1 (.t 24) (.t 26)⟩,
    ⟨(some 28), (some (19, true)), .load false 1 (.t 27)⟩,
    ⟨(some 29), (some (19, true)), .call l_cmp_Less_int_ [(.val, (.t 23)), (.val, (.t 28))] true⟩,
    ⟨(some 30), none, .pick (.t 19) (.t 29) (.c (.bool false))⟩] [0, 1, 2, 6, 7, 30] []
def ic_slices_insertionSortOrdered_int__r4 : IC := .reg [
    ⟨(some 33), none, .mv (.t 0)⟩,
    ⟨(some 34), none, .mv (.t 7)⟩,
    ⟨(some 35), none, .mv (.t 0)⟩,
    ⟨(some 36), none, .mv (.t 7)⟩,
    ⟨(some 37), none, .bin .sub (.t 36) (.c (vi 1))⟩,
    ⟨(some 38), none, .mv (.t 0)⟩,
    ⟨(some 39), none, .mv (.t 7)⟩,
    ⟨(some 40), none, .bin .sub (.t 39) (.c (vi 1))⟩,
    ⟨(some 41), none, .iadr 1 (.t 38) (.t 40)⟩,
    ⟨(some 42), none, .load false 1 (.t 41)⟩,
    ⟨(some 43), none, .mv (.t 0)⟩,
    ⟨(some 44), none, .mv (.t 7)⟩,
    ⟨(some 45), none, .iadr 1 (.t 43) (.t 44)⟩,
    ⟨(some 46), none, .load false 1 (.t 45)⟩,
    ⟨(some 47), none, .iadr 1 (.t 33) (.t 34)⟩,
    ⟨none, none, .store 1 (.t 47) (.t 42)⟩,
    ⟨(some 48), none, .iadr 1 (.t 35) (.t 37)⟩,
    ⟨none, none, .store 1 (.t 48) (.t 46)⟩] [0, 1, 2, 6, 7] []
def ic_slices_insertionSortOrdered_int__r5 : IC := .reg [
    ⟨(some 31), none, .mv (.t 7)⟩,
    ⟨(some 32), none, .bin .sub (.t 31) (.c (vi 1))⟩,
    ⟨(some 7), none, .asg (.t 32)⟩] [0, 1, 2, 6, 7] []
def ic_slices_insertionSortOrdered_int__l6 : IC := (.seq (.seq ic_slices_insertionSortOrdered_int__r3 (.cond (.t 30) .skip (.exit 2))) (.seq (.block 3 ic_slices_insertionSortOrdered_int__r4) ic_slices_insertionSortOrdered_int__r5))
def ic_slices_insertionSortOrdered_int__r7 : IC := .reg [
    ⟨(some 13), none, .mv (.t 6)⟩,
    ⟨(some 14), none, .bin .add (.t 13) (.c (vi 1))⟩,
    ⟨(some 6), none, .asg (.t 14)⟩] [0, 1, 2, 6] []
def ic_slices_insertionSortOrdered_int__l8 : IC := (.seq (.seq ic_slices_insertionSortOrdered_int__r1 (.cond (.t 12) .skip (.exit 0))) (.seq (.block 1 (.seq ic_slices_insertionSortOrdered_int__r2 (.block 2 (.loop ic_slices_insertionSortOrdered_int__l6)))) ic_slices_insertionSortOrdered_int__r7))
def if_slices_insertionSortOrdered_int_ : IFun := ⟨[], [0], (.seq ic_slices_insertionSortOrdered_int__r0 (.block 0 (.loop ic_slices_insertionSortOrdered_int__l8)))⟩

def ic_slices_pdqsortOrdered_int__r0 : IC := .reg [
    ⟨(some 8), none, .asg (.c (.bool true))⟩] [0, 1, 2, 3, 8] []
def ic_slices_pdqsortOrdered_int__r1 : IC := .reg [
    ⟨(some 9), none, .asg (.c (.bool true))⟩] [0, 1, 2, 3, 8, 9] []
def ic_slices_pdqsortOrdered_int__r2 : IC := .reg [
    ⟨(some 19), none, .mv (.t 2)⟩,
    ⟨(some 20), none, .mv (.t 1)⟩,
    ⟨(some 21), none, .bin .sub (.t 19) (.t 20)⟩,
    ⟨(some 10), none, .asg (.t 21)⟩] [0, 1, 2, 3, 8, 9, 10] []
def ic_slices_pdqsortOrdered_int__r3 : IC := .reg [
    ⟨(some 22), none, .mv (.t 10)⟩,
    ⟨(some 23), none, .bin .leq (.t 22) (.c (vi 12))⟩] [0, 1, 2, 3, 8, 9, 10, 23] []
def ic_slices_pdqsortOrdered_int__r4 : IC := .reg [
    ⟨(some 24), none, .mv (.t 0)⟩,
    ⟨(some 25), none, .mv (.t 1)⟩,
    ⟨(some 26), none, .mv (.t 2)⟩,
    ⟨(some 27), none, .call l_slices_insertionSortOrdered_int_ [(.ld, (.t 24)), (.val, (.t 25)), (.val, (.t 26))] false⟩] [0] []
def ic_slices_pdqsortOrdered_int__r5 : IC := .reg [
    ⟨(some 28), none, .mv (.t 3)⟩,
    ⟨(some 29), none, .bin .eql (.t 28) (.c (vi 0))⟩] [0, 1, 2, 3, 8, 9, 10, 29] []
def ic_slices_pdqsortOrdered_int__r6 : IC := .reg [
    ⟨(some 30), none, .mv (.t 0)⟩,
    ⟨(some 31), none, .mv (.t 1)⟩,
    ⟨(some 32), none, .mv (.t 2)⟩,
    ⟨(some 33), none, .call l_slices_heapSortOrdered_int_ [(.ld, (.t 30)), (.val, (.t 31)), (.val, (.t 32))] false⟩] [0] []
def ic_slices_pdqsortOrdered_int__r7 : IC := .reg [
    ⟨(some 34), none, .mv (.t 8)⟩,
    ⟨(some 35), none, .unop .not (.t 34)⟩] [0, 1, 2, 3, 8, 9, 10, 35] []
def ic_slices_pdqsortOrdered_int__r8 : IC := .reg [
    ⟨(some 36), none, .mv (.t 0)⟩,
    ⟨(some 37), none, .mv (.t 1)⟩,
    ⟨(some 38), none, .mv (.t 2)⟩,
    ⟨(some 39), none, .call l_slices_breakPatternsOrdered_int_ [(.ld, (.t 36)), (.val, (.t 37)), (.val, (.t 38))] false⟩] [0, 1, 2, 3, 8, 9, 10] []
def ic_slices_pdqsortOrdered_int__r9 : IC := .reg [
    ⟨(some 40), none, .mv (.t 3)⟩,
    ⟨(some 41), none, .bin .sub (.t 40) (.c (vi 1))⟩,
    ⟨(some 3), none, .asg (.t 41)⟩] [0, 1, 2, 3, 8, 9, 10] []
def ic_slices_pdqsortOrdered_int__r10 : IC := .reg [
    ⟨(some 43), none, .mv (.t 0)⟩,
    ⟨(some 44), none, .mv (.t 1)⟩,
    ⟨(some 45), none, .mv (.t 2)⟩,
    ⟨(some 46), none, .call l_slices_choosePivotOrdered_int_ [(.rd, (.t 43)), (.val, (.t 44)), (.val, (.t 45))] true⟩,
    ⟨(some 42), none, .asg (.t 46)⟩,
    ⟨(some 47), none, .extr (.t 42) 0⟩,
    ⟨(some 48), none, .extr (.t 42) 1⟩,
    ⟨(some 11), none, .asg (.t 47)⟩,
    ⟨(some 12), none, .asg (.t 48)⟩] [0, 1, 2, 3, 8, 9, 10, 11, 12] []
def ic_slices_pdqsortOrdered_int__r11 : IC := .reg [
    ⟨(some 49), none, .mv (.t 12)⟩,
    ⟨(some 50), none, .bin .eql (.t 49) (.c (vi 2))⟩] [0, 1, 2, 3, 8, 9, 10, 11, 12, 50] []
def ic_slices_pdqsortOrdered_int__r12 : IC := .reg [
    ⟨(some 51), none, .mv (.t 0)⟩,
    ⟨(some 52), none, .mv (.t 1)⟩,
    ⟨(some 53), none, .mv (.t 2)⟩,
    ⟨(some 54), none, .call l_slices_reverseRangeOrdered_int_ [(.ld, (.t 51)), (.val, (.t 52)), (.val, (.t 53))] false⟩] [0, 1, 2, 3, 8, 9, 10, 11] []
def ic_slices_pdqsortOrdered_int__r13 : IC := .reg [
    ⟨(some 55), none, .mv (.t 2)⟩,
    ⟨(some 56), none, .bin .sub (.t 55) (.c (vi 1))⟩,
    ⟨(some 57), none, .mv (.t 11)⟩,
    ⟨(some 58), none, .mv (.t 1)⟩,
    ⟨(some 59), none, .bin .sub (.t 57) (.t 58)⟩,
    ⟨(some 60), none, .bin .sub (.t 56) (.t 59)⟩,
    ⟨(some 11), none, .asg (.t 60)⟩] [0, 1, 2, 3, 8, 9, 10, 11] []
def ic_slices_pdqsortOrdered_int__r14 : IC := .reg [
    ⟨(some 12), none, .asg (.c (vi 1))⟩] [0, 1, 2, 3, 8, 9, 10, 11, 12] []
def ic_slices_pdqsortOrdered_int__r15 : IC := .reg [
    ⟨(some 61), none, .mv (.t 8)⟩,
    ⟨(some 62), none, .asg (.t 61)⟩,
    ⟨(some 63), (some (62, true)), .mv (.t 9)⟩,
    ⟨(some 64), none, .pick (.t 62) (.t 63) (.c (.bool false))⟩,
    ⟨(some 65), none, .asg (.t 64)⟩,
    ⟨(some 66), (some (65, true)), .mv (.t 12)⟩,
    ⟨(some 67), (some (65, true)), .bin .eql (.t 66) (.c (vi 1))⟩,
    ⟨(some 68), none, .pick (.t 65) (.t 67) (.c (.bool false))⟩] [0, 1, 2, 3, 8, 9, 10, 11, 68] []
def ic_slices_pdqsortOrdered_int__r16 : IC := .reg [
    ⟨(some 69), none, .mv (.t 0)⟩,
    ⟨(some 70), none, .mv (.t 1)⟩,
    ⟨(some 71), none, .mv (.t 2)⟩,
    ⟨(some 72), none, .call l_slices_partialInsertionSortOrdered_int_ [(.ld, (.t 69)), (.val, (.t 70)), (.val, (.t 71))] false⟩] [0, 1, 2, 3, 8, 9, 10, 11, 72] []
def ic_slices_pdqsortOrdered_int__r17 : IC := .reg [
    ⟨(some 73), none, .mv (.t 1)⟩,
    ⟨(some 74), none, .bin .gtr (.t 73) (.c (vi 0))⟩,
    ⟨(some 75), none, .asg (.t 74)⟩,
    ⟨(some 76), (some (75, true)), .mv (.t 0)⟩,
    ⟨(some 77), (some (75, true)), .mv (.t 1)⟩,
    ⟨(some 78), (some (75, true)), .bin .sub (.t 77) (.c (vi 1))⟩,
    ⟨(some 79), (some (75, true)), .iadr 1 (.t 76) (.t 78)⟩,
    ⟨(some 80), (some (75, true)), .load false 1 (.t 79)⟩,
    ⟨(some 81), (some (75, true)), .mv (.t 0)⟩,
    ⟨(some 82), (some (75, true)), .mv (.t 11)⟩,
    ⟨(some 83), (some (75, true)), .iadr 1 (.t 81) (.t 82)⟩,
    ⟨(some 84), (some (75, true)), .load false 1 (.t 83)⟩,
    ⟨(some 85), (some (75, true)), .call l_cmp_Less_int_ [(.val, (.t 80)), (.val, (.t 84))] true⟩,
    ⟨(some 86), (some (75, true)), .unop .not (.t 85)⟩,
    ⟨(some 87), none, .pick (.t 75) (.t 86) (.c (.bool false))⟩] [0, 1, 2, 3, 8, 9, 10, 11, 87] []
def ic_slices_pdqsortOrdered_int__r18 : IC := .reg [
    ⟨(some 88), none, .mv (.t 0)⟩,
    ⟨(some 89), none, .mv (.t 1)⟩,
    ⟨(some 90), none, .mv (.t 2)⟩,
    ⟨(some 91), none, .mv (.t 11)⟩,
    ⟨(some 92), none, .call l_slices_partitionEqualOrdered_int_ [(.ld, (.t 88)), (.val, (.t 89)), (.val, (.t 90)), (.val, (.t 91))] false⟩,
    ⟨(some 13), none, .asg (.t 92)⟩] [0, 2, 3, 8, 9, 13] []
def ic_slices_pdqsortOrdered_int__r19 : IC := .reg [
    ⟨(some 93), none, .mv (.t 13)⟩,
    ⟨(some 1), none, .asgm (.t 93)⟩] [0, 1, 2, 3, 8, 9] []
def ic_slices_pdqsortOrdered_int__r20 : IC := .reg [
    ⟨(some 95), none, .mv (.t 0)⟩,
    ⟨(some 96), none, .mv (.t 1)⟩,
    ⟨(some 97), none, .mv (.t 2)⟩,
    ⟨(some 98), none, .mv (.t 11)⟩,
    ⟨(some 99), none, .call l_slices_partitionOrdered_int_ [(.ld, (.t 95)), (.val, (.t 96)), (.val, (.t 97)), (.val, (.t 98))] false⟩,
    ⟨(some 94), none, .asg (.t 99)⟩,
    ⟨(some 100), none, .extr (.t 94) 0⟩,
    ⟨(some 101), none, .extr (.t 94) 1⟩,
    ⟨(some 14), none, .asg (.t 100)⟩,
    ⟨(some 15), none, .asg (.t 101)⟩] [0, 1, 2, 3, 10, 14, 15] []
def ic_slices_pdqsortOrdered_int__r21 : IC := .reg [
    ⟨(some 102), none, .mv (.t 15)⟩,
    ⟨(some 9), none, .asgm (.t 102)⟩] [0, 1, 2, 3, 9, 10, 14] []
def ic_slices_pdqsortOrdered_int__r22 : IC := .reg [
    ⟨(some 103), none, .mv (.t 14)⟩,
    ⟨(some 104), none, .mv (.t 1)⟩,
    ⟨(some 105), none, .bin .sub (.t 103) (.t 104)⟩,
    ⟨(some 106), none, .mv (.t 2)⟩,
    ⟨(some 107), none, .mv (.t 14)⟩,
    ⟨(some 108), none, .bin .sub (.t 106) (.t 107)⟩,
    ⟨(some 16), none, .asg (.t 105)⟩,
    ⟨(some 17), none, .asg (.t 108)⟩] [0, 1, 2, 3, 9, 10, 14, 16, 17] []
def ic_slices_pdqsortOrdered_int__r23 : IC := .reg [
    ⟨(some 109), none, .mv (.t 10)⟩,
    ⟨(some 110), none, .bin .quo (.t 109) (.c (vi 8))⟩,
    ⟨(some 18), none, .asg (.t 110)⟩] [0, 1, 2, 3, 9, 14, 16, 17, 18] []
def ic_slices_pdqsortOrdered_int__r24 : IC := .reg [
    ⟨(some 111), none, .mv (.t 16)⟩,
    ⟨(some 112), none, .mv (.t 17)⟩,
    ⟨(some 113), none, .bin .lss (.t 111) (.t 112)⟩] [0, 1, 2, 3, 9, 14, 16, 17, 18, 113] []
def ic_slices_pdqsortOrdered_int__r25 : IC := .reg [
    ⟨(some 114), none, .mv (.t 16)⟩,
    ⟨(some 115), none, .mv (.t 18)⟩,
    ⟨(some 116), none, .bin .geq (.t 114) (.t 115)⟩,
    ⟨(some 8), none, .asg (.t 116)⟩] [0, 1, 2, 3, 8, 9, 14] []
def ic_slices_pdqsortOrdered_int__r26 : IC := .reg [
    ⟨(some 117), none, .mv (.t 0)⟩,
    ⟨(some 118), none, .mv (.t 1)⟩,
    ⟨(some 119), none, .mv (.t 14)⟩,
    ⟨(some 120), none, .mv (.t 3)⟩,
    ⟨(some 121), none, .call l_slices_pdqsortOrdered_int_ [(.ld, (.t 117)), (.val, (.t 118)), (.val, (.t 119)), (.val, (.t 120))] false⟩] [0, 2, 3, 8, 9, 14] []
def ic_slices_pdqsortOrdered_int__r27 : IC := .reg [
    ⟨(some 122), none, .mv (.t 14)⟩,
    ⟨(some 123), none, .bin .add (.t 122) (.c (vi 1))⟩,
    ⟨(some 1), none, .asg (.t 123)⟩] [0, 1, 2, 3, 8, 9] []
def ic_slices_pdqsortOrdered_int__r28 : IC := .reg [
    ⟨(some 124), none, .mv (.t 17)⟩,
    ⟨(some 125), none, .mv (.t 18)⟩,
    ⟨(some 126), none, .bin .geq (.t 124) (.t 125)⟩,
    ⟨(some 8), none, .asg (.t 126)⟩] [0, 1, 2, 3, 8, 9, 14] []
def ic_slices_pdqsortOrdered_int__r29 : IC := .reg [
    ⟨(some 127), none, .mv (.t 0)⟩,
    ⟨(some 128), none, .mv (.t 14)⟩,
    ⟨(some 129), none, .bin .add (.t 128) (.c (vi 1))⟩,
    ⟨(some 130), none, .mv (.t 2)⟩,
    ⟨(some 131), none, .mv (.t 3)⟩,
    ⟨(some 132), none, .call l_slices_pdqsortOrdered_int_ [(.ld, (.t 127)), (.val, (.t 129)), (.val, (.t 130)), (.val, (.t 131))] false⟩] [0, 1, 3, 8, 9, 14] []
def ic_slices_pdqsortOrdered_int__r30 : IC := .reg [
    ⟨(some 133), none, .mv (.t 14)⟩,
    ⟨(some 2), none, .asgm (.t 133)⟩] [0, 1, 2, 3, 8, 9] []
def ic_slices_pdqsortOrdered_int__l31 : IC := (.block 1 (.seq ic_slices_pdqsortOrdered_int__r2 (.seq (.seq ic_slices_pdqsortOrdered_int__r3 (.cond (.t 23) (.seq ic_slices_pdqsortOrdered_int__r4 .ret) .skip)) (.seq (.seq ic_slices_pdqsortOrdered_int__r5 (.cond (.t 29) (.seq ic_slices_pdqsortOrdered_int__r6 .ret) .skip)) (.seq (.seq ic_slices_pdqsortOrdered_int__r7 (.cond (.t 35) (.seq ic_slices_pdqsortOrdered_int__r8 ic_slices_pdqsortOrdered_int__r9) .skip)) (.seq ic_slices_pdqsortOrdered_int__r10 (.seq (.seq ic_slices_pdqsortOrdered_int__r11 (.cond (.t 50) (.seq ic_slices_pdqsortOrdered_int__r12 (.seq ic_slices_pdqsortOrdered_int__r13 ic_slices_pdqsortOrdered_int__r14)) .skip)) (.seq (.seq ic_slices_pdqsortOrdered_int__r15 (.cond (.t 68) (.seq ic_slices_pdqsortOrdered_int__r16 (.cond (.t 72) .ret .skip)) .skip)) (.seq (.seq ic_slices_pdqsortOrdered_int__r17 (.cond (.t 87) (.seq ic_slices_pdqsortOrdered_int__r18 (.seq ic_slices_pdqsortOrdered_int__r19 (.exit 1))) .skip)) (.seq ic_slices_pdqsortOrdered_int__r20 (.seq ic_slices_pdqsortOrdered_int__r21 (.seq ic_slices_pdqsortOrdered_int__r22 (.seq ic_slices_pdqsortOrdered_int__r23 (.seq ic_slices_pdqsortOrdered_int__r24 (.cond (.t 113) (.seq ic_slices_pdqsortOrdered_int__r25 (.seq ic_slices_pdqsortOrdered_int__r26 ic_slices_pdqsortOrdered_int__r27)) (.seq ic_slices_pdqsortOrdered_int__r28 (.seq ic_slices_pdqsortOrdered_int__r29 ic_slices_pdqsortOrdered_int__r30)))))))))))))))))
def if_slices_pdqsortOrdered_int_ : IFun := ⟨[], [0], (.seq ic_slices_pdqsortOrdered_int__r0 (.seq ic_slices_pdqsortOrdered_int__r1 (.block 0 (.loop ic_slices_pdqsortOrdered_int__l31))))⟩

def ic_spec_DrawTurnTriangle_r0 : IC := .reg [
    ⟨(some 2), none, .asg (.c (.slice none 0 0))⟩,
    ⟨(some 3), none, .asg (.c (vi 0))⟩,
    ⟨(some 4), none, .asg (.c (vi 0))⟩,
    ⟨(some 5), none, .asg (.c (vi 0))⟩] [0] []
def ic_spec_DrawTurnTriangle_r1 : IC := .reg [
    ⟨(some 12), none, .mv (.t 0)⟩,
    ⟨(some 13), none, .call l_spec_newReader [(.rd, (.t 12))] false⟩,
    ⟨(some 6), none, .asg (.t 13)⟩] [6] []
def ic_spec_DrawTurnTriangle_r2 : IC := .reg [
    ⟨(some 14), none, .mv (.t 6)⟩,
    ⟨(some 15), none, .call l_spec_someTournament [(.val, (.t 14))] false⟩,
    ⟨(some 7), none, .asg (.t 15)⟩] [6, 7] []
def ic_spec_DrawTurnTriangle_r3 : IC := .reg [
    ⟨(some 16), none, .mv (.t 7)⟩,
    ⟨(some 17), none, .call l_spec_validTournament [(.rd, (.t 16))] true⟩,
    ⟨(some 18), none, .asg (.t 17)⟩,
    ⟨(some 19), (some (18, true)), .mv (.t 6)⟩,
    ⟨(some 20), (some (18, true)), .call l_spec_reader_pick [(.val, (.t 19)), (.val, (.c (vi 6)))] false⟩,
    ⟨(some 21), (some (18, true)), .bin .gtr (.t 20) (.c (vi 0))⟩,
    ⟨(some 22), none, .pick (.t 18) (.t 21) (.c (.bool false))⟩] [6, 7, 22] []
def ic_spec_DrawTurnTriangle_r4 : IC := .reg [
    ⟨(some 8), none, .asg (.c (vi 0))⟩] [6, 7, 8] []
def ic_spec_DrawTurnTriangle_r5 : IC := .reg [
    ⟨(some 23), none, .mv (.t 8)⟩,
    ⟨(some 24), none, .bin .lss (.t 23) (.c (vi 10))⟩] [6, 7, 8, 24] []
def ic_spec_DrawTurnTriangle_r6 : IC := .reg [
    ⟨(some 27), none, .mv (.t 6)⟩,
    ⟨(some 28), none, .mv (.t 7)⟩,
    ⟨(some 29), none, .len (.t 28)⟩,
    ⟨(some 30), none, .call l_spec_reader_pick [(.val, (.t 27)), (.val, (.t 29))] false⟩,
    ⟨(some 9), none, .asg (.t 30)⟩] [6, 7, 8, 9] []
def ic_spec_DrawTurnTriangle_r7 : IC := .reg [
    ⟨(some 31), none, .mv (.t 6)⟩,
    ⟨(some 32), none, .mv (.t 7)⟩,
    ⟨(some 33), none, .len (.t 32)⟩,
    ⟨(some 34), none, .call l_spec_reader_pick [(.val, (.t 31)), (.val, (.t 33))] false⟩,
    ⟨(some 10), none, .asg (.t 34)⟩] [6, 7, 8, 9, 10] []
def ic_spec_DrawTurnTriangle_r8 : IC := .reg [
    ⟨(some 35), none, .mv (.t 6)⟩,
    ⟨(some 36), none, .mv (.t 7)⟩,
    ⟨(some 37), none, .len (.t 36)⟩,
    ⟨(some 38), none, .call l_spec_reader_pick [(.val, (.t 35)), (.val, (.t 37))] false⟩,
    ⟨(some 11), none, .asg (.t 38)⟩] [6, 7, 8, 9, 10, 11] []
def ic_spec_DrawTurnTriangle_r9 : IC := .reg [
    ⟨(some 39), none, .mv (.t 7)⟩,
    ⟨(some 40), none, .mv (.t 9)⟩,
    ⟨(some 41), none, .iadr 1 (.t 39) (.t 40)⟩,
    ⟨(some 42), none, .load false 1 (.t 41)⟩,
    ⟨(some 43), none, .mv (.t 10)⟩,
    ⟨(some 44), none, .iadr 1 (.t 42) (.t 43)⟩,
    ⟨(some 45), none, .load false 1 (.t 44)⟩,
    ⟨(some 46), none, .bin .eql (.t 45) (.c (vi 1))⟩,
    ⟨(some 47), none, .asg (.t 46)⟩,
    ⟨(some 48), (some (47, true)), .mv (.t 7)⟩,
    ⟨(some 49), (some (47, true)), .mv (.t 10)⟩,
    ⟨(some 50), (some (47, true)), .iadr 1 (.t 48) (.t 49)⟩,
    ⟨(some 51), (some (47, true)), .load false 1 (.t 50)⟩,
    ⟨(some 52), (some (47, true)), .mv (.t 11)⟩,
    ⟨(some 53), (some (47, true)), .iadr 1 (.t 51) (.t 52)⟩,
    ⟨(some 54), (some (47, true)), .load false 1 (.t 53)⟩,
    ⟨(some 55), (some (47, true)), .bin .eql (.t 54) (.c (vi 1))⟩,
    ⟨(some 56), none, .pick (.t 47) (.t 55) (.c (.bool false))⟩,
    ⟨(some 57), none, .asg (.t 56)⟩,
    ⟨(some 58), (some (57, true)), .mv (.t 7)⟩,
    ⟨(some 59), (some (57, true)), .mv (.t 11)⟩,
    ⟨(some 60), (some (57, true)), .iadr 1 (.t 58) (.t 59)⟩,
    ⟨(some 61), (some (57, true)), .load false 1 (.t 60)⟩,
    ⟨(some 62), (some (57, true)), .mv (.t 9)⟩,
    ⟨(some 63), (some (57, true)), .iadr 1 (.t 61) (.t 62)⟩,
    ⟨(some 64), (some (57, true)), .load false 1 (.t 63)⟩,
    ⟨(some 65), (some (57, true)), .bin .eql (.t 64) (.c (vi 1))⟩,
    ⟨(some 66), none, .pick (.t 57) (.t 65) (.c (.bool false))⟩] [6, 7, 8, 9, 10, 11, 66] []
def ic_spec_DrawTurnTriangle_r10 : IC := .reg [
    ⟨(some 67), none, .mv (.t 7)⟩,
    ⟨(some 68), none, .mv (.t 9)⟩,
    ⟨(some 69), none, .mv (.t 10)⟩,
    ⟨(some 70), none, .mv (.t 11)⟩,
    ⟨(some 2), none, .asgm (.t 67)⟩,
    ⟨(some 3), none, .asgm (.t 68)⟩,
    ⟨(some 4), none, .asgm (.t 69)⟩,
    ⟨(some 5), none, .asgm (.t 70)⟩] [2, 3, 4, 5, 7] []
def ic_spec_DrawTurnTriangle_r11 : IC := .reg [
    ⟨(some 25), none, .mv (.t 8)⟩,
    ⟨(some 26), none, .bin .add (.t 25) (.c (vi 1))⟩,
    ⟨(some 8), none, .asg (.t 26)⟩] [6, 7, 8] []
def ic_spec_DrawTurnTriangle_l12 : IC := (.seq (.seq ic_spec_DrawTurnTriangle_r5 (.cond (.t 24) .skip (.exit 0))) (.seq (.block 1 (.seq ic_spec_DrawTurnTriangle_r6 (.seq ic_spec_DrawTurnTriangle_r7 (.seq ic_spec_DrawTurnTriangle_r8 (.seq ic_spec_DrawTurnTriangle_r9 (.cond (.t 66) (.seq ic_spec_DrawTurnTriangle_r10 .ret) .skip)))))) ic_spec_DrawTurnTriangle_r11))
def ic_spec_DrawTurnTriangle_r13 : IC := .reg [
    ⟨(some 71), none, .mv (.t 7)⟩,
    ⟨(some 72), none, .mv (.t 6)⟩,
    ⟨(some 73), none, .call l_spec_reader_pick [(.val, (.t 72)), (.val, (.c (vi 5)))] false⟩,
    ⟨(some 74), none, .mv (.t 6)⟩,
    ⟨(some 75), none, .call l_spec_reader_pick [(.val, (.t 74)), (.val, (.c (vi 5)))] false⟩,
    ⟨(some 76), none, .mv (.t 6)⟩,
    ⟨(some 77), none, .mv (.t 6)⟩,
    ⟨(some 78), none, .call l_spec_reader_pick [(.val, (.t 77)), (.val, (.c (vi 5)))] false⟩,
    ⟨(some 79), none, .bsl 1 [(vi 0)] 2 [(0, (.t 78)), (1, (.c (vi (-1))))]⟩,
    ⟨(some 80), none, .call l_spec_reader_one [(.val, (.t 76)), (.rd, (.t 79))] false⟩,
    ⟨(some 2), none, .asgm (.t 71)⟩,
    ⟨(some 3), none, .asg (.t 73)⟩,
    ⟨(some 4), none, .asg (.t 75)⟩,
    ⟨(some 5), none, .asg (.t 80)⟩] [2, 3, 4, 5, 7] []
def if_spec_DrawTurnTriangle : IFun := ⟨[.t 2, .t 3, .t 4, .t 5], [], (.seq ic_spec_DrawTurnTriangle_r0 (.seq ic_spec_DrawTurnTriangle_r1 (.seq ic_spec_DrawTurnTriangle_r2 (.seq (.seq ic_spec_DrawTurnTriangle_r3 (.cond (.t 22) (.seq ic_spec_DrawTurnTriangle_r4 (.block 0 (.loop ic_spec_DrawTurnTriangle_l12))) .skip)) (.seq ic_spec_DrawTurnTriangle_r13 .ret)))))⟩

def ic_spec_TurnTriangle_r0 : IC := .reg [
    ⟨(some 8), none, .asg (.c (.slice none 0 0))⟩,
    ⟨(some 9), none, .asg (.c (.bool false))⟩] [0, 1, 2, 3] []
def ic_spec_TurnTriangle_r1 : IC := .reg [
    ⟨(some 12), none, .mv (.t 0)⟩,
    ⟨(some 13), none, .len (.t 12)⟩,
    ⟨(some 14), none, .bin .sub (.t 13) (.c (vi 1))⟩,
    ⟨(some 10), none, .asg (.t 14)⟩] [0, 1, 2, 3, 10] []
def ic_spec_TurnTriangle_r2 : IC := .reg [
    ⟨(some 15), none, .mv (.t 0)⟩,
    ⟨(some 16), none, .call l_spec_validTournament [(.rd, (.t 15))] true⟩,
    ⟨(some 17), none, .unop .not (.t 16)⟩,
    ⟨(some 18), none, .asg (.t 17)⟩,
    ⟨(some 19), (some (18, false)), .mv (.t 1)⟩,
    ⟨(some 20), (some (18, false)), .mv (.t 10)⟩,
    ⟨(some 21), (some (18, false)), .call l_spec_inRange [(.val, (.t 19)), (.val, (.c (vi 0))), (.val, (.t 20))] true⟩,
    ⟨(some 22), (some (18, false)), .unop .not (.t 21)⟩,
    ⟨(some 23), none, .pick (.t 18) (.c (.bool true)) (.t 22)⟩,
    ⟨(some 24), none, .asg (.t 23)⟩,
    ⟨(some 25), (some (24, false)), .mv (.t 2)⟩,
    ⟨(some 26), (some (24, false)), .mv (.t 10)⟩,
    ⟨(some 27), (some (24, false)), .call l_spec_inRange [(.val, (.t 25)), (.val, (.c (vi 0))), (.val, (.t 26))] true⟩,
    ⟨(some 28), (some (24, false)), .unop .not (.t 27)⟩,
    ⟨(some 29), none, .pick (.t 24) (.c (.bool true)) (.t 28)⟩,
    ⟨(some 30), none, .asg (.t 29)⟩,
    ⟨(some 31), (some (30, false)), .mv (.t 3)⟩,
    ⟨(some 32), (some (30, false)), .mv (.t 10)⟩,
    ⟨(some 33), (some (30, false)), .call l_spec_inRange [(.val, (.t 31)), (.val, (.c (vi 0))), (.val, (.t 32))] true⟩,
    ⟨(some 34), (some (30, false)), .unop .not (.t 33)⟩,
    ⟨(some 35), none, .pick (.t 30) (.c (.bool true)) (.t 34)⟩,
    ⟨(some 36), none, .asg (.t 35)⟩,
    ⟨(some 37), (some (36, false)), .mv (.t 0)⟩,
    ⟨(some 38), (some (36, false)), .mv (.t 1)⟩,
    ⟨(some 39), (some (36, false)), .iadr 1 (.t 37) (.t 38)⟩,
    ⟨(some 40), (some (36, false)), .load false 1 (.t 39)⟩,
    ⟨(some 41), (some (36, false)), .mv (.t 2)⟩,
    ⟨(some 42), (some (36, false)), .iadr 1 (.t 40) (.t 41)⟩,
    ⟨(some 43), (some (36, false)), .load false 1 (.t 42)⟩,
    ⟨(some 44), (some (36, false)), .bin .neq (.t 43) (.c (vi 1))⟩,
    ⟨(some 45), none, .pick (.t 36) (.c (.bool true)) (.t 44)⟩,
    ⟨(some 46), none, .asg (.t 45)⟩,
    ⟨(some 47), (some (46, false)), .mv (.t 0)⟩,
    ⟨(some 48), (some (46, false)), .mv (.t 2)⟩,
    ⟨(some 49), (some (46, false)), .iadr 1 (.t 47) (.t 48)⟩,
    ⟨(some 50), (some (46, false)), .load false 1 (.t 49)⟩,
    ⟨(some 51), (some (46, false)), .mv (.t 3)⟩,
    ⟨(some 52), (some (46, false)), .iadr 1 (.t 50) (.t 51)⟩,
    ⟨(some 53), (some (46, false)), .load false 1 (.t 52)⟩,
    ⟨(some 54), (some (46, false)), .bin .neq (.t 53) (.c (vi 1))⟩,
    ⟨(some 55), none, .pick (.t 46) (.c (.bool true)) (.t 54)⟩,
    ⟨(some 56), none, .asg (.t 55)⟩,
    ⟨(some 57), (some (56, false)), .mv (.t 0)⟩,
    ⟨(some 58), (some (56, false)), .mv (.t 3)⟩,
    ⟨(some 59), (some (56, false)), .iadr 1 (.t 57) (.t 58)⟩,
    ⟨(some 60), (some (56, false)), .load false 1 (.t 59)⟩,
    ⟨(some 61), (some (56, false)), .mv (.t 1)⟩,
    ⟨(some 62), (some (56, false)), .iadr 1 (.t 60) (.t 61)⟩,
    ⟨(some 63), (some (56, false)), .load false 1 (.t 62)⟩,
    ⟨(some 64), (some (56, false)), .bin .neq (.t 63) (.c (vi 1))⟩,
    ⟨(some 65), none, .pick (.t 56) (.c (.bool true)) (.t 64)⟩] [0, 1, 2, 3, 65] []
def ic_spec_TurnTriangle_r3 : IC := .reg [
    ⟨(some 8), none, .asg (.c (.slice none 0 0))⟩,
    ⟨(some 9), none, .asg (.c (.bool false))⟩] [8, 9, 11] []
def ic_spec_TurnTriangle_r4 : IC := .reg [
    ⟨(some 66), none, .mv (.t 0)⟩,
    ⟨(some 67), none, .call l_spec_copyMatrix [(.rd, (.t 66))] true⟩,
    ⟨(some 11), none, .asg (.t 67)⟩] [1, 2, 3, 11] []
def ic_spec_TurnTriangle_r5 : IC := .reg [
    ⟨(some 68), none, .mv (.t 11)⟩,
    ⟨(some 69), none, .mv (.t 1)⟩,
    ⟨(some 70), none, .iadr 1 (.t 68) (.t 69)⟩,
    ⟨(some 71), none, .load false 1 (.t 70)⟩,
    ⟨(some 72), none, .mv (.t 2)⟩,
    ⟨(some 73), none, .iadr 1 (.t 71) (.t 72)⟩,
    ⟨none, none, .store 1 (.t 73) (.c (vi 0))⟩] [1, 2, 3, 11] []
def ic_spec_TurnTriangle_r6 : IC := .reg [
    ⟨(some 74), none, .mv (.t 11)⟩,
    ⟨(some 75), none, .mv (.t 2)⟩,
    ⟨(some 76), none, .iadr 1 (.t 74) (.t 75)⟩,
    ⟨(some 77), none, .load false 1 (.t 76)⟩,
    ⟨(some 78), none, .mv (.t 1)⟩,
    ⟨(some 79), none, .iadr 1 (.t 77) (.t 78)⟩,
    ⟨none, none, .store 1 (.t 79) (.c (vi 1))⟩] [1, 2, 3, 11] []
def ic_spec_TurnTriangle_r7 : IC := .reg [
    ⟨(some 80), none, .mv (.t 11)⟩,
    ⟨(some 81), none, .mv (.t 2)⟩,
    ⟨(some 82), none, .iadr 1 (.t 80) (.t 81)⟩,
    ⟨(some 83), none, .load false 1 (.t 82)⟩,
    ⟨(some 84), none, .mv (.t 3)⟩,
    ⟨(some 85), none, .iadr 1 (.t 83) (.t 84)⟩,
    ⟨none, none, .store 1 (.t 85) (.c (vi 0))⟩] [1, 2, 3, 11] []
def ic_spec_TurnTriangle_r8 : IC := .reg [
    ⟨(some 86), none, .mv (.t 11)⟩,
    ⟨(some 87), none, .mv (.t 3)⟩,
    ⟨(some 88), none, .iadr 1 (.t 86) (.t 87)⟩,
    ⟨(some 89), none, .load false 1 (.t 88)⟩,
    ⟨(some 90), none, .mv (.t 2)⟩,
    ⟨(some 91), none, .iadr 1 (.t 89) (.t 90)⟩,
    ⟨none, none, .store 1 (.t 91) (.c (vi 1))⟩] [1, 3, 11] []
def ic_spec_TurnTriangle_r9 : IC := .reg [
    ⟨(some 92), none, .mv (.t 11)⟩,
    ⟨(some 93), none, .mv (.t 3)⟩,
    ⟨(some 94), none, .iadr 1 (.t 92) (.t 93)⟩,
    ⟨(some 95), none, .load false 1 (.t 94)⟩,
    ⟨(some 96), none, .mv (.t 1)⟩,
    ⟨(some 97), none, .iadr 1 (.t 95) (.t 96)⟩,
    ⟨none, none, .store 1 (.t 97) (.c (vi 0))⟩] [1, 3, 11] []
def ic_spec_TurnTriangle_r10 : IC := .reg [
    ⟨(some 98), none, .mv (.t 11)⟩,
    ⟨(some 99), none, .mv (.t 1)⟩,
    ⟨(some 100), none, .iadr 1 (.t 98) (.t 99)⟩,
    ⟨(some 101), none, .load false 1 (.t 100)⟩,
    ⟨(some 102), none, .mv (.t 3)⟩,
    ⟨(some 103), none, .iadr 1 (.t 101) (.t 102)⟩,
    ⟨none, none, .store 1 (.t 103) (.c (vi 1))⟩] [11] []
def ic_spec_TurnTriangle_r11 : IC := .reg [
    ⟨(some 104), none, .mv (.t 11)⟩,
    ⟨(some 8), none, .asgm (.t 104)⟩,
    ⟨(some 9), none, .asg (.c (.bool true))⟩] [8, 9, 11] []
def if_spec_TurnTriangle : IFun := ⟨[.t 8, .t 9], [], (.seq ic_spec_TurnTriangle_r0 (.seq ic_spec_TurnTriangle_r1 (.seq (.seq ic_spec_TurnTriangle_r2 (.cond (.t 65) (.seq ic_spec_TurnTriangle_r3 .ret) .skip)) (.seq ic_spec_TurnTriangle_r4 (.seq ic_spec_TurnTriangle_r5 (.seq ic_spec_TurnTriangle_r6 (.seq ic_spec_TurnTriangle_r7 (.seq ic_spec_TurnTriangle_r8 (.seq ic_spec_TurnTriangle_r9 (.seq ic_spec_TurnTriangle_r10 (.seq ic_spec_TurnTriangle_r11 .ret)))))))))))⟩

def ic_spec_aTournament_r0 : IC := .reg [
    ⟨(some 2), none, .asg (.c (.slice none 0 0))⟩] [0] []
def ic_spec_aTournament_r1 : IC := .reg [
    ⟨(some 8), none, .mv (.t 0)⟩,
    ⟨(some 9), none, .bsl 1 [(vi 0)] 5 [(0, (.c (vi 4))), (1, (.c (vi 3))), (2, (.c (vi 5))), (3, (.c (vi 2))), (4, (.c (vi 1)))]⟩,
    ⟨(some 10), none, .call l_spec_reader_one [(.val, (.t 8)), (.rd, (.t 9))] false⟩,
    ⟨(some 3), none, .asg (.t 10)⟩] [0, 3] []
def ic_spec_aTournament_r2 : IC := .reg [
    ⟨(some 11), none, .bsl 1 [(.slice none 0 0)] 0 []⟩,
    ⟨(some 4), none, .asg (.t 11)⟩] [0, 3, 4] []
def ic_spec_aTournament_r3 : IC := .reg [
    ⟨(some 5), none, .asg (.c (vi 0))⟩] [0, 3, 4, 5] []
def ic_spec_aTournament_r4 : IC := .reg [
    ⟨(some 12), none, .mv (.t 5)⟩,
    ⟨(some 13), none, .mv (.t 3)⟩,
    ⟨(some 14), none, .bin .lss (.t 12) (.t 13)⟩] [0, 3, 4, 5, 14] []
def ic_spec_aTournament_r5 : IC := .reg [
    ⟨(some 17), none, .mv (.t 4)⟩,
    ⟨(some 18), none, .mv (.t 3)⟩,
    ⟨(some 19), none, .mksl 1 [(vi 0)] (.t 18) (.t 18)⟩,
    ⟨(some 20), none, .bsl 1 [(.slice none 0 0)] 1 [(0, (.t 19))]⟩,
    ⟨(some 21), none, .app 1 (.t 17) (.t 20)⟩,
    ⟨(some 4), none, .asg (.t 21)⟩] [0, 3, 4, 5] []
def ic_spec_aTournament_r6 : IC := .reg [
    ⟨(some 15), none, .mv (.t 5)⟩,
    ⟨(some 16), none, .bin .add (.t 15) (.c (vi 1))⟩,
    ⟨(some 5), none, .asg (.t 16)⟩] [0, 3, 4, 5] []
def ic_spec_aTournament_l7 : IC := (.seq (.seq ic_spec_aTournament_r4 (.cond (.t 14) .skip (.exit 0))) (.seq (.block 1 ic_spec_aTournament_r5) ic_spec_aTournament_r6))
def ic_spec_aTournament_r8 : IC := .reg [
    ⟨(some 6), none, .asg (.c (vi 0))⟩] [0, 3, 4, 6] []
def ic_spec_aTournament_r9 : IC := .reg [
    ⟨(some 22), none, .mv (.t 6)⟩,
    ⟨(some 23), none, .mv (.t 3)⟩,
    ⟨(some 24), none, .bin .lss (.t 22) (.t 23)⟩] [0, 3, 4, 6, 24] []
def ic_spec_aTournament_r10 : IC := .reg [
    ⟨(some 27), none, .mv (.t 6)⟩,
    ⟨(some 28), none, .bin .add (.t 27) (.c (vi 1))⟩,
    ⟨(some 7), none, .asg (.t 28)⟩] [0, 3, 4, 6, 7] []
def ic_spec_aTournament_r11 : IC := .reg [
    ⟨(some 29), none, .mv (.t 7)⟩,
    ⟨(some 30), none, .mv (.t 3)⟩,
    ⟨(some 31), none, .bin .lss (.t 29) (.t 30)⟩] [0, 3, 4, 6, 7, 31] []
def ic_spec_aTournament_r12 : IC := .reg [
    ⟨(some 34), none, .mv (.t 0)⟩,
    ⟨(some 35), none, .call l_spec_reader_pick [(.val, (.t 34)), (.val, (.c (vi 2)))] false⟩,
    ⟨(some 36), none, .bin .eql (.t 35) (.c (vi 0))⟩] [0, 3, 4, 6, 7, 36] []
def ic_spec_aTournament_r13 : IC := .reg [
    ⟨(some 37), none, .mv (.t 4)⟩,
    ⟨(some 38), none, .mv (.t 6)⟩,
    ⟨(some 39), none, .iadr 1 (.t 37) (.t 38)⟩,
    ⟨(some 40), none, .load false 1 (.t 39)⟩,
    ⟨(some 41), none, .mv (.t 7)⟩,
    ⟨(some 42), none, .iadr 1 (.t 40) (.t 41)⟩,
    ⟨none, none, .store 1 (.t 42) (.c (vi 1))⟩] [0, 3, 4, 6, 7] []
def ic_spec_aTournament_r14 : IC := .reg [
    ⟨(some 43), none, .mv (.t 4)⟩,
    ⟨(some 44), none, .mv (.t 7)⟩,
    ⟨(some 45), none, .iadr 1 (.t 43) (.t 44)⟩,
    ⟨(some 46), none, .load false 1 (.t 45)⟩,
    ⟨(some 47), none, .mv (.t 6)⟩,
    ⟨(some 48), none, .iadr 1 (.t 46) (.t 47)⟩,
    ⟨none, none, .store 1 (.t 48) (.c (vi 1))⟩] [0, 3, 4, 6, 7] []
def ic_spec_aTournament_r15 : IC := .reg [
    ⟨(some 32), none, .mv (.t 7)⟩,
    ⟨(some 33), none, .bin .add (.t 32) (.c (vi 1))⟩,
    ⟨(some 7), none, .asg (.t 33)⟩] [0, 3, 4, 6, 7] []
def ic_spec_aTournament_l16 : IC := (.seq (.seq ic_spec_aTournament_r11 (.cond (.t 31) .skip (.exit 4))) (.seq (.block 5 (.seq ic_spec_aTournament_r12 (.cond (.t 36) ic_spec_aTournament_r13 ic_spec_aTournament_r14))) ic_spec_aTournament_r15))
def ic_spec_aTournament_r17 : IC := .reg [
    ⟨(some 25), none, .mv (.t 6)⟩,
    ⟨(some 26), none, .bin .add (.t 25) (.c (vi 1))⟩,
    ⟨(some 6), none, .asg (.t 26)⟩] [0, 3, 4, 6] []
def ic_spec_aTournament_l18 : IC := (.seq (.seq ic_spec_aTournament_r9 (.cond (.t 24) .skip (.exit 2))) (.seq (.block 3 (.seq ic_spec_aTournament_r10 (.block 4 (.loop ic_spec_aTournament_l16)))) ic_spec_aTournament_r17))
def ic_spec_aTournament_r19 : IC := .reg [
    ⟨(some 49), none, .mv (.t 4)⟩,
    ⟨(some 2), none, .asgm (.t 49)⟩] [2, 4] []
def if_spec_aTournament : IFun := ⟨[.t 2], [], (.seq ic_spec_aTournament_r0 (.seq ic_spec_aTournament_r1 (.seq ic_spec_aTournament_r2 (.seq (.seq ic_spec_aTournament_r3 (.block 0 (.loop ic_spec_aTournament_l7))) (.seq (.seq ic_spec_aTournament_r8 (.block 2 (.loop ic_spec_aTournament_l18))) (.seq ic_spec_aTournament_r19 .ret))))))⟩

def ic_spec_copyInts_r0 : IC := .reg [
    ⟨(some 2), none, .asg (.c (.slice none 0 0))⟩] [0] []
def ic_spec_copyInts_r1 : IC := .reg [
    ⟨(some 3), none, .bsl 1 [(vi 0)] 0 []⟩,
    ⟨(some 4), none, .mv (.t 0)⟩,
    ⟨(some 5), none, .app 1 (.t 3) (.t 4)⟩,
    ⟨(some 2), none, .asg (.t 5)⟩] [2] []
def if_spec_copyInts : IFun := ⟨[.t 2], [], (.seq ic_spec_copyInts_r0 (.seq ic_spec_copyInts_r1 .ret))⟩

def ic_spec_copyMatrix_r0 : IC := .reg [
    ⟨(some 2), none, .asg (.c (.slice none 0 0))⟩] [0] []
def ic_spec_copyMatrix_r1 : IC := .reg [
    ⟨(some 5), none, .bsl 1 [(.slice none 0 0)] 0 []⟩,
    ⟨(some 3), none, .asg (.t 5)⟩] [0, 3] []
def ic_spec_copyMatrix_r2 : IC := .reg [
    ⟨(some 4), none, .asg (.c (vi 0))⟩] [0, 3, 4] []
def ic_spec_copyMatrix_r3 : IC := .reg [
    ⟨(some 6), none, .mv (.t 4)⟩,
    ⟨(some 7), none, .mv (.t 0)⟩,
    ⟨(some 8), none, .len (.t 7)⟩,
    ⟨(some 9), none, .bin .lss (.t 6) (.t 8)⟩] [0, 3, 4, 9] []
def ic_spec_copyMatrix_r4 : IC := .reg [
    ⟨(some 12), none, .mv (.t 3)⟩,
    ⟨(some 13), none, .mv (.t 0)⟩,
    ⟨(some 14), none, .mv (.t 4)⟩,
    ⟨(some 15), none, .iadr 1 (.t 13) (.t 14)⟩,
    ⟨(some 16), none, .load false 1 (.t 15)⟩,
    ⟨(some 17), none, .call l_spec_copyInts [(.rd, (.t 16))] true⟩,
    ⟨(some 18), none, .bsl 1 [(.slice none 0 0)] 1 [(0, (.t 17))]⟩,
    ⟨(some 19), none, .app 1 (.t 12) (.t 18)⟩,
    ⟨(some 3), none, .asg (.t 19)⟩] [0, 3, 4] []
def ic_spec_copyMatrix_r5 : IC := .reg [
    ⟨(some 10), none, .mv (.t 4)⟩,
    ⟨(some 11), none, .bin .add (.t 10) (.c (vi 1))⟩,
    ⟨(some 4), none, .asg (.t 11)⟩] [0, 3, 4] []
def ic_spec_copyMatrix_l6 : IC := (.seq (.seq ic_spec_copyMatrix_r3 (.cond (.t 9) .skip (.exit 0))) (.seq (.block 1 ic_spec_copyMatrix_r4) ic_spec_copyMatrix_r5))
def ic_spec_copyMatrix_r7 : IC := .reg [
    ⟨(some 20), none, .mv (.t 3)⟩,
    ⟨(some 2), none, .asgm (.t 20)⟩] [2, 3] []
def if_spec_copyMatrix : IFun := ⟨[.t 2], [], (.seq ic_spec_copyMatrix_r0 (.seq ic_spec_copyMatrix_r1 (.seq (.seq ic_spec_copyMatrix_r2 (.block 0 (.loop ic_spec_copyMatrix_l6))) (.seq ic_spec_copyMatrix_r7 .ret))))⟩

def ic_spec_inRange_r0 : IC := .reg [
    ⟨(some 6), none, .asg (.c (.bool false))⟩] [0, 1, 2] []
def ic_spec_inRange_r1 : IC := .reg [
    ⟨(some 7), none, .mv (.t 1)⟩,
    ⟨(some 8), none, .mv (.t 0)⟩,
    ⟨(some 9), none, .bin .leq (.t 7) (.t 8)⟩,
    ⟨(some 10), none, .asg (.t 9)⟩,
    ⟨(some 11), (some (10, true)), .mv (.t 0)⟩,
    ⟨(some 12), (some (10, true)), .mv (.t 2)⟩,
    ⟨(some 13), (some (10, true)), .bin .leq (.t 11) (.t 12)⟩,
    ⟨(some 14), none, .pick (.t 10) (.t 13) (.c (.bool false))⟩,
    ⟨(some 6), none, .asg (.t 14)⟩] [6] []
def if_spec_inRange : IFun := ⟨[.t 6], [], (.seq ic_spec_inRange_r0 (.seq ic_spec_inRange_r1 .ret))⟩

def ic_spec_newReader_r0 : IC := .reg [
    ⟨(some 2), none, .asg (.c (.pointer none))⟩] [0] []
def ic_spec_newReader_r1 : IC := .reg [
    ⟨(some 3), none, .mv (.t 0)⟩,
    ⟨(some 4), none, .len (.t 3)⟩,
    ⟨(some 5), none, .bin .gtr (.t 4) (.c (vi 2000))⟩] [0, 5] []
def ic_spec_newReader_r2 : IC := .reg [
    ⟨(some 6), none, .mv (.t 0)⟩,
    ⟨(some 7), none, .slc 1 (.t 6) none (some (.c (vi 2000))) none⟩,
    ⟨(some 0), none, .asgm (.t 7)⟩] [0] []
def ic_spec_newReader_r3 : IC := .reg [
    ⟨(some 8), none, .mv (.t 0)⟩,
    ⟨(some 9), none, .build [(.slice none 0 0), (vi 0)] [(0, 1, (.t 8))]⟩,
    ⟨(some 10), none, .box (.t 9)⟩,
    ⟨(some 2), none, .asg (.t 10)⟩] [2] []
def if_spec_newReader : IFun := ⟨[.t 2], [], (.seq ic_spec_newReader_r0 (.seq (.seq ic_spec_newReader_r1 (.cond (.t 5) ic_spec_newReader_r2 .skip)) (.seq ic_spec_newReader_r3 .ret)))⟩

def ic_spec_reader_one_r0 : IC := .reg [
    ⟨(some 4), none, .asg (.c (vi 0))⟩] [0, 1] []
def ic_spec_reader_one_r1 : IC := .reg [
    ⟨(some 5), none, .mv (.t 1)⟩,
    ⟨(some 6), none, .mv (.t 0)⟩,
    ⟨(some 7), none, .mv (.t 1)⟩,
    ⟨(some 8), none, .len (.t 7)⟩,
    ⟨(some 9), none, .call l_spec_reader_pick [(.val, (.t 6)), (.val, (.t 8))] false⟩,
    ⟨(some 10), none, .iadr 1 (.t 5) (.t 9)⟩,
    ⟨(some 11), none, .load false 1 (.t 10)⟩,
    ⟨(some 4), none, .asg (.t 11)⟩] [4] []
def if_spec_reader_one : IFun := ⟨[.t 4], [], (.seq ic_spec_reader_one_r0 (.seq ic_spec_reader_one_r1 .ret))⟩

def ic_spec_reader_pick_r0 : IC := .reg [
    ⟨(some 4), none, .asg (.c (vi 0))⟩] [0, 1] []
def ic_spec_reader_pick_r1 : IC := .reg [
    ⟨(some 7), none, .mv (.t 0)⟩,
    ⟨(some 8), none, .mv (.t 0)⟩,
    ⟨(some 9), none, .nilck (.t 8)⟩,
    ⟨(some 10), none, .fadr 1 (.t 9)⟩,
    ⟨(some 11), none, .load false 1 (.t 10)⟩,
    ⟨(some 12), none, .bin .add (.t 11) (.c (vi 1))⟩,
    ⟨(some 13), none, .nilck (.t 7)⟩,
    ⟨(some 14), none, .fadr 1 (.t 13)⟩,
    ⟨none, none, .store 1 (.t 14) (.t 12)⟩] [0, 1] []
def ic_spec_reader_pick_r2 : IC := .reg [
    ⟨(some 15), none, .mv (.t 1)⟩,
    ⟨(some 16), none, .bin .lss (.t 15) (.c (vi 1))⟩,
    ⟨(some 17), none, .asg (.t 16)⟩,
    ⟨(some 18), (some (17, false)), .mv (.t 0)⟩,
    ⟨(some 19), (some (17, false)), .nilck (.t 18)⟩,
    ⟨(some 20), (some (17, false)), .fadr 0 (.t 19)⟩,
    ⟨(some 21), (some (17, false)), .load false 1 (.t 20)⟩,
    ⟨(some 22), (some (17, false)), .len (.t 21)⟩,
    ⟨(some 23), (some (17, false)), .bin .eql (.t 22) (.c (vi 0))⟩,
    ⟨(some 24), none, .pick (.t 17) (.c (.bool true)) (.t 23)⟩] [0, 1, 24] []
def ic_spec_reader_pick_r3 : IC := .reg [
    ⟨(some 4), none, .asg (.c (vi 0))⟩] [4] []
def ic_spec_reader_pick_r4 : IC := .reg [
    ⟨(some 25), none, .mv (.t 0)⟩,
    ⟨(some 26), none, .nilck (.t 25)⟩,
    ⟨(some 27), none, .fadr 1 (.t 26)⟩,
    ⟨(some 28), none, .load false 1 (.t 27)⟩,
    ⟨(some 29), none, .bin .sub (.t 28) (.c (vi 1))⟩,
    ⟨(some 5), none, .asg (.t 29)⟩] [0, 1, 5] []
def ic_spec_reader_pick_r5 : IC := .reg [
    ⟨(some 30), none, .mv (.t 5)⟩,
    ⟨(some 31), none, .mv (.t 0)⟩,
    ⟨(some 32), none, .nilck (.t 31)⟩,
    ⟨(some 33), none, .fadr 0 (.t 32)⟩,
    ⟨(some 34), none, .load false 1 (.t 33)⟩,
    ⟨(some 35), none, .len (.t 34)⟩,
    ⟨(some 36), none, .bin .lss (.t 30) (.t 35)⟩] [0, 1, 5, 36] []
def ic_spec_reader_pick_r6 : IC := .reg [
    ⟨(some 37), none, .mv (.t 0)⟩,
    ⟨(some 38), none, .nilck (.t 37)⟩,
    ⟨(some 39), none, .fadr 0 (.t 38)⟩,
    ⟨(some 40), none, .load false 1 (.t 39)⟩,
    ⟨(some 41), none, .mv (.t 5)⟩,
    ⟨(some 42), none, .iadr 1 (.t 40) (.t 41)⟩,
    ⟨(some 43), none, .load false 1 (.t 42)⟩,
    ⟨(some 44), none, .conv .i64 (.t 43)⟩,
    ⟨(some 45), none, .mv (.t 1)⟩,
    ⟨(some 46), none, .bin .rem (.t 44) (.t 45)⟩,
    ⟨(some 4), none, .asg (.t 46)⟩] [4] []
def ic_spec_reader_pick_r7 : IC := .reg [
    ⟨(some 47), none, .mv (.t 0)⟩,
    ⟨(some 48), none, .nilck (.t 47)⟩,
    ⟨(some 49), none, .fadr 0 (.t 48)⟩,
    ⟨(some 50), none, .load false 1 (.t 49)⟩,
    ⟨(some 51), none, .mv (.t 5)⟩,
    ⟨(some 52), none, .mv (.t 0)⟩,
    ⟨(some 53), none, .nilck (.t 52)⟩,
    ⟨(some 54), none, .fadr 0 (.t 53)⟩,
    ⟨(some 55), none, .load false 1 (.t 54)⟩,
    ⟨(some 56), none, .len (.t 55)⟩,
    ⟨(some 57), none, .bin .rem (.t 51) (.t 56)⟩,
    ⟨(some 58), none, .iadr 1 (.t 50) (.t 57)⟩,
    ⟨(some 59), none, .load false 1 (.t 58)⟩,
    ⟨(some 60), none, .conv .i64 (.t 59)⟩,
    ⟨(some 61), none, .bin .mul (.t 60) (.c (vi 131))⟩,
    ⟨(some 62), none, .mv (.t 0)⟩,
    ⟨(some 63), none, .nilck (.t 62)⟩,
    ⟨(some 64), none, .fadr 0 (.t 63)⟩,
    ⟨(some 65), none, .load false 1 (.t 64)⟩,
    ⟨(some 66), none, .mv (.t 5)⟩,
    ⟨(some 67), none, .bin .mul (.t 66) (.c (vi 7))⟩,
    ⟨(some 68), none, .bin .add (.t 67) (.c (vi 3))⟩,
    ⟨(some 69), none, .mv (.t 0)⟩,
    ⟨(some 70), none, .nilck (.t 69)⟩,
    ⟨(some 71), none, .fadr 0 (.t 70)⟩,
    ⟨(some 72), none, .load false 1 (.t 71)⟩,
    ⟨(some 73), none, .len (.t 72)⟩,
    ⟨(some 74), none, .bin .rem (.t 68) (.t 73)⟩,
    ⟨(some 75), none, .iadr 1 (.t 65) (.t 74)⟩,
    ⟨(some 76), none, .load false 1 (.t 75)⟩,
    ⟨(some 77), none, .conv .i64 (.t 76)⟩,
    ⟨(some 78), none, .bin .mul (.t 77) (.c (vi 1117))⟩,
    ⟨(some 79), none, .bin .add (.t 61) (.t 78)⟩,
    ⟨(some 80), none, .mv (.t 5)⟩,
    ⟨(some 81), none, .bin .mul (.t 80) (.c (vi 29))⟩,
    ⟨(some 82), none, .bin .add (.t 79) (.t 81)⟩,
    ⟨(some 83), none, .mv (.t 5)⟩,
    ⟨(some 84), none, .mv (.t 0)⟩,
    ⟨(some 85), none, .nilck (.t 84)⟩,
    ⟨(some 86), none, .fadr 0 (.t 85)⟩,
    ⟨(some 87), none, .load false 1 (.t 86)⟩,
    ⟨(some 88), none, .len (.t 87)⟩,
    ⟨(some 89), none, .bin .quo (.t 83) (.t 88)⟩,
    ⟨(some 90), none, .bin .mul (.t 89) (.c (vi 53))⟩,
    ⟨(some 91), none, .bin .add (.t 82) (.t 90)⟩,
    ⟨(some 6), none, .asg (.t 91)⟩] [1, 6] []
def ic_spec_reader_pick_r8 : IC := .reg [
    ⟨(some 92), none, .mv (.t 6)⟩,
    ⟨(some 93), none, .mv (.t 6)⟩,
    ⟨(some 94), none, .bin .quo (.t 93) (.c (vi 64))⟩,
    ⟨(some 95), none, .bin .xor (.t 92) (.t 94)⟩,
    ⟨(some 6), none, .asg (.t 95)⟩] [1, 6] []
def ic_spec_reader_pick_r9 : IC := .reg [
    ⟨(some 96), none, .mv (.t 6)⟩,
    ⟨(some 97), none, .mv (.t 1)⟩,
    ⟨(some 98), none, .bin .rem (.t 96) (.t 97)⟩,
    ⟨(some 4), none, .asg (.t 98)⟩] [4] []
def if_spec_reader_pick : IFun := ⟨[.t 4], [], (.seq ic_spec_reader_pick_r0 (.seq ic_spec_reader_pick_r1 (.seq (.seq ic_spec_reader_pick_r2 (.cond (.t 24) (.seq ic_spec_reader_pick_r3 .ret) .skip)) (.seq ic_spec_reader_pick_r4 (.seq (.seq ic_spec_reader_pick_r5 (.cond (.t 36) (.seq ic_spec_reader_pick_r6 .ret) .skip)) (.seq ic_spec_reader_pick_r7 (.seq ic_spec_reader_pick_r8 (.seq ic_spec_reader_pick_r9 .ret))))))))⟩

def ic_spec_someTournament_r0 : IC := .reg [
    ⟨(some 2), none, .asg (.c (.slice none 0 0))⟩] [0] []
def ic_spec_someTournament_r1 : IC := .reg [
    ⟨(some 4), none, .mv (.t 0)⟩,
    ⟨(some 5), none, .call l_spec_aTournament [(.val, (.t 4))] false⟩,
    ⟨(some 3), none, .asg (.t 5)⟩] [0, 3] []
def ic_spec_someTournament_r2 : IC := .reg [
    ⟨(some 6), none, .mv (.t 3)⟩,
    ⟨(some 7), none, .len (.t 6)⟩,
    ⟨(some 8), none, .bin .gtr (.t 7) (.c (vi 1))⟩] [0, 3, 8] []
def ic_spec_someTournament_r3 : IC := .reg [
    ⟨(some 9), none, .mv (.t 0)⟩,
    ⟨(some 10), none, .call l_spec_reader_pick [(.val, (.t 9)), (.val, (.c (vi 24)))] false⟩] [3, 10] []
def ic_spec_someTournament_r4 : IC := .reg [
    ⟨(some 12), none, .bin .eql (.t 10) (.c (vi 0))⟩,
    ⟨(some 11), none, .asg (.t 12)⟩] [3, 10, 11] []
def ic_spec_someTournament_r5 : IC := .reg [
    ⟨(some 13), none, .mv (.t 3)⟩,
    ⟨(some 14), none, .iadr 1 (.t 13) (.c (vi 0))⟩,
    ⟨(some 15), none, .load false 1 (.t 14)⟩,
    ⟨(some 16), none, .mv (.t 3)⟩,
    ⟨(some 17), none, .iadr 1 (.t 16) (.c (vi 0))⟩,
    ⟨(some 18), none, .load false 1 (.t 17)⟩,
    ⟨(some 19), none, .iadr 1 (.t 18) (.c (vi 1))⟩,
    ⟨(some 20), none, .load false 1 (.t 19)⟩,
    ⟨(some 21), none, .bin .sub (.c (vi 1)) (.t 20)⟩,
    ⟨(some 22), none, .iadr 1 (.t 15) (.c (vi 1))⟩,
    ⟨none, none, .store 1 (.t 22) (.t 21)⟩] [3] []
def ic_spec_someTournament_r6 : IC := .reg [
    ⟨(some 24), none, .bin .eql (.t 10) (.c (vi 1))⟩,
    ⟨(some 23), none, .asg (.t 24)⟩] [3, 10, 23] []
def ic_spec_someTournament_r7 : IC := .reg [
    ⟨(some 25), none, .mv (.t 3)⟩,
    ⟨(some 26), none, .iadr 1 (.t 25) (.c (vi 0))⟩,
    ⟨(some 27), none, .load false 1 (.t 26)⟩,
    ⟨(some 28), none, .iadr 1 (.t 27) (.c (vi 0))⟩,
    ⟨none, none, .store 1 (.t 28) (.c (vi 1))⟩] [3] []
def ic_spec_someTournament_r8 : IC := .reg [
    ⟨(some 30), none, .bin .eql (.t 10) (.c (vi 2))⟩,
    ⟨(some 29), none, .asg (.t 30)⟩] [3, 29] []
def ic_spec_someTournament_r9 : IC := .reg [
    ⟨(some 31), none, .mv (.t 3)⟩,
    ⟨(some 32), none, .bsl 1 [(vi 0)] 1 [(0, (.c (vi 0)))]⟩,
    ⟨(some 33), none, .iadr 1 (.t 31) (.c (vi 1))⟩,
    ⟨none, none, .store 1 (.t 33) (.t 32)⟩] [3] []
def ic_spec_someTournament_r10 : IC := .reg [
    ⟨(some 34), none, .mv (.t 3)⟩,
    ⟨(some 2), none, .asgm (.t 34)⟩] [2, 3] []
def if_spec_someTournament : IFun := ⟨[.t 2], [], (.seq ic_spec_someTournament_r0 (.seq ic_spec_someTournament_r1 (.seq (.seq ic_spec_someTournament_r2 (.cond (.t 8) (.seq ic_spec_someTournament_r3 (.block 0 (.seq ic_spec_someTournament_r4 (.cond (.t 11) ic_spec_someTournament_r5 (.seq ic_spec_someTournament_r6 (.cond (.t 23) ic_spec_someTournament_r7 (.seq ic_spec_someTournament_r8 (.cond (.t 29) ic_spec_someTournament_r9 .skip)))))))) .skip)) (.seq ic_spec_someTournament_r10 .ret))))⟩

def ic_spec_validTournament_r0 : IC := .reg [
    ⟨(some 2), none, .asg (.c (.bool false))⟩] [0] []
def ic_spec_validTournament_r1 : IC := .reg [
    ⟨(some 3), none, .asg (.c (vi 0))⟩] [0, 3] []
def ic_spec_validTournament_r2 : IC := .reg [
    ⟨(some 6), none, .mv (.t 3)⟩,
    ⟨(some 7), none, .mv (.t 0)⟩,
    ⟨(some 8), none, .len (.t 7)⟩,
    ⟨(some 9), none, .bin .lss (.t 6) (.t 8)⟩] [0, 3, 9] []
def ic_spec_validTournament_r3 : IC := .reg [
    ⟨(some 12), none, .mv (.t 0)⟩,
    ⟨(some 13), none, .mv (.t 3)⟩,
    ⟨(some 14), none, .iadr 1 (.t 12) (.t 13)⟩,
    ⟨(some 15), none, .load false 1 (.t 14)⟩,
    ⟨(some 16), none, .len (.t 15)⟩,
    ⟨(some 17), none, .mv (.t 0)⟩,
    ⟨(some 18), none, .len (.t 17)⟩,
    ⟨(some 19), none, .bin .neq (.t 16) (.t 18)⟩] [0, 3, 19] []
def ic_spec_validTournament_r4 : IC := .reg [
    ⟨(some 2), none, .asg (.c (.bool false))⟩] [2] []
def ic_spec_validTournament_r5 : IC := .reg [
    ⟨(some 10), none, .mv (.t 3)⟩,
    ⟨(some 11), none, .bin .add (.t 10) (.c (vi 1))⟩,
    ⟨(some 3), none, .asg (.t 11)⟩] [0, 3] []
def ic_spec_validTournament_l6 : IC := (.seq (.seq ic_spec_validTournament_r2 (.cond (.t 9) .skip (.exit 0))) (.seq (.block 1 (.seq ic_spec_validTournament_r3 (.cond (.t 19) (.seq ic_spec_validTournament_r4 .ret) .skip))) ic_spec_validTournament_r5))
def ic_spec_validTournament_r7 : IC := .reg [
    ⟨(some 4), none, .asg (.c (vi 0))⟩] [0, 4] []
def ic_spec_validTournament_r8 : IC := .reg [
    ⟨(some 20), none, .mv (.t 4)⟩,
    ⟨(some 21), none, .mv (.t 0)⟩,
    ⟨(some 22), none, .len (.t 21)⟩,
    ⟨(some 23), none, .bin .lss (.t 20) (.t 22)⟩] [0, 4, 23] []
def ic_spec_validTournament_r9 : IC := .reg [
    ⟨(some 5), none, .asg (.c (vi 0))⟩] [0, 4, 5] []
def ic_spec_validTournament_r10 : IC := .reg [
    ⟨(some 26), none, .mv (.t 5)⟩,
    ⟨(some 27), none, .mv (.t 0)⟩,
    ⟨(some 28), none, .len (.t 27)⟩,
    ⟨(some 29), none, .bin .lss (.t 26) (.t 28)⟩] [0, 4, 5, 29] []
def ic_spec_validTournament_r11 : IC := .reg [
    ⟨(some 32), none, .mv (.t 0)⟩,
    ⟨(some 33), none, .mv (.t 4)⟩,
    ⟨(some 34), none, .iadr 1 (.t 32) (.t 33)⟩,
    ⟨(some 35), none, .load false 1 (.t 34)⟩,
    ⟨(some 36), none, .mv (.t 5)⟩,
    ⟨(some 37), none, .iadr 1 (.t 35) (.t 36)⟩,
    ⟨(some 38), none, .load false 1 (.t 37)⟩,
    ⟨(some 39), none, .call l_spec_inRange [(.val, (.t 38)), (.val, (.c (vi 0))), (.val, (.c (vi 1)))] true⟩,
    ⟨(some 40), none, .unop .not (.t 39)⟩,
    ⟨(some 41), none, .asg (.t 40)⟩,
    ⟨(some 42), (some (41, false)), .mv (.t 4)⟩,
    ⟨(some 43), (some (41, false)), .mv (.t 5)⟩,
    ⟨(some 44), (some (41, false)), .bin .neq (.t 42) (.t 43)⟩,
    ⟨(some 45), (some (41, false)), .asg (.t 44)⟩,
    ⟨(some 46), (some (45, true)), .mv (.t 0)⟩,
    ⟨(some 47), (some (45, true)), .mv (.t 4)⟩,
    ⟨(some 48), (some (45, true)), .iadr 1 (.t 46) (.t 47)⟩,
    ⟨(some 49), (some (45, true)), .load false 1 (.t 48)⟩,
    ⟨(some 50), (some (45, true)), .mv (.t 5)⟩,
    ⟨(some 51), (some (45, true)), .iadr 1 (.t 49) (.t 50)⟩,
    ⟨(some 52), (some (45, true)), .load false 1 (.t 51)⟩,
    ⟨(some 53), (some (45, true)), .mv (.t 0)⟩,
    ⟨(some 54), (some (45, true)), .mv (.t 5)⟩,
    ⟨(some 55), (some (45, true)), .iadr 1 (.t 53) (.t 54)⟩,
    ⟨(some 56), (some (45, true)), .load false 1 (.t 55)⟩,
    ⟨(some 57), (some (45, true)), .mv (.t 4)⟩,
    ⟨(some 58), (some (45, true)), .iadr 1 (.t 56) (.t 57)⟩,
    ⟨(some 59), (some (45, true)), .load false 1 (.t 58)⟩,
    ⟨(some 60), (some (45, true)), .bin .add (.t 52) (.t 59)⟩,
    ⟨(some 61), (some (45, true)), .bin .neq (.t 60) (.c (vi 1))⟩,
    ⟨(some 62), (some (41, false)), .pick (.t 45) (.t 61) (.c (.bool false))⟩,
    ⟨(some 63), none, .pick (.t 41) (.c (.bool true)) (.t 62)⟩,
    ⟨(some 64), none, .asg (.t 63)⟩,
    ⟨(some 65), (some (64, false)), .mv (.t 4)⟩,
    ⟨(some 66), (some (64, false)), .mv (.t 5)⟩,
    ⟨(some 67), (some (64, false)), .bin .eql (.t 65) (.t 66)⟩,
    ⟨(some 68), (some (64, false)), .asg (.t 67)⟩,
    ⟨(some 69), (some (68, true)), .mv (.t 0)⟩,
    ⟨(some 70), (some (68, true)), .mv (.t 4)⟩,
    ⟨(some 71), (some (68, true)), .iadr 1 (.t 69) (.t 70)⟩,
    ⟨(some 72), (some (68, true)), .load false 1 (.t 71)⟩,
    ⟨(some 73), (some (68, true)), .mv (.t 5)⟩,
    ⟨(some 74), (some (68, true)), .iadr 1 (.t 72) (.t 73)⟩,
    ⟨(some 75), (some (68, true)), .load false 1 (.t 74)⟩,
    ⟨(some 76), (some (68, true)), .bin .neq (.t 75) (.c (vi 0))⟩,
    ⟨(some 77), (some (64, false)), .pick (.t 68) (.t 76) (.c (.bool false))⟩,
    ⟨(some 78), none, .pick (.t 64) (.c (.bool true)) (.t 77)⟩] [0, 4, 5, 78] []
def ic_spec_validTournament_r12 : IC := .reg [
    ⟨(some 2), none, .asg (.c (.bool false))⟩] [2] []
def ic_spec_validTournament_r13 : IC := .reg [
    ⟨(some 30), none, .mv (.t 5)⟩,
    ⟨(some 31), none, .bin .add (.t 30) (.c (vi 1))⟩,
    ⟨(some 5), none, .asg (.t 31)⟩] [0, 4, 5] []
def ic_spec_validTournament_l14 : IC := (.seq (.seq ic_spec_validTournament_r10 (.cond (.t 29) .skip (.exit 4))) (.seq (.block 5 (.seq ic_spec_validTournament_r11 (.cond (.t 78) (.seq ic_spec_validTournament_r12 .ret) .skip))) ic_spec_validTournament_r13))
def ic_spec_validTournament_r15 : IC := .reg [
    ⟨(some 24), none, .mv (.t 4)⟩,
    ⟨(some 25), none, .bin .add (.t 24) (.c (vi 1))⟩,
    ⟨(some 4), none, .asg (.t 25)⟩] [0, 4] []
def ic_spec_validTournament_l16 : IC := (.seq (.seq ic_spec_validTournament_r8 (.cond (.t 23) .skip (.exit 2))) (.seq (.block 3 (.seq ic_spec_validTournament_r9 (.block 4 (.loop ic_spec_validTournament_l14)))) ic_spec_validTournament_r15))
def ic_spec_validTournament_r17 : IC := .reg [
    ⟨(some 79), none, .mv (.t 0)⟩,
    ⟨(some 80), none, .len (.t 79)⟩,
    ⟨(some 81), none, .call l_spec_inRange [(.val, (.t 80)), (.val, (.c (vi 1))), (.val, (.c (vi 5)))] true⟩,
    ⟨(some 2), none, .asg (.t 81)⟩] [2] []
def if_spec_validTournament : IFun := ⟨[.t 2], [], (.seq ic_spec_validTournament_r0 (.seq (.seq ic_spec_validTournament_r1 (.block 0 (.loop ic_spec_validTournament_l6))) (.seq (.seq ic_spec_validTournament_r7 (.block 2 (.loop ic_spec_validTournament_l16))) (.seq ic_spec_validTournament_r17 .ret))))⟩

def tbl : List (Nat × IFun) := [(l_cmp_Less_int_, if_cmp_Less_int_), (l_cmp_isNaN_int_, if_cmp_isNaN_int_), (l_impl_IsStrong, if_impl_IsStrong), (l_impl_MarginsOf, if_impl_MarginsOf), (l_impl_ScoresOf, if_impl_ScoresOf), (l_impl_TurnTriangle, if_impl_TurnTriangle), (l_impl_ValidMatrix, if_impl_ValidMatrix), (l_impl_ValidTournament, if_impl_ValidTournament), (l_impl_allIn, if_impl_allIn), (l_impl_allIn_F1, if_impl_allIn_F1), (l_impl_clone_int_, if_impl_clone_int_), (l_impl_copyTable, if_impl_copyTable), (l_impl_copyTable_F1, if_impl_copyTable_F1), (l_impl_falling, if_impl_falling), (l_impl_in, if_impl_in), (l_impl_over, if_impl_over), (l_impl_sum, if_impl_sum), (l_impl_table, if_impl_table), (l_laws_FnTurnTriangle, if_laws_FnTurnTriangle), (l_laws_equalInts, if_laws_equalInts), (l_laws_equalLists, if_laws_equalLists), (l_math_bits_Len, if_math_bits_Len), (l_math_bits_Len64, if_math_bits_Len64), (l_slices_Clip_Sint_int_, if_slices_Clip_Sint_int_), (l_slices_Clone_Sint_int_, if_slices_Clone_Sint_int_), (l_slices_ContainsFunc_Sint_int_, if_slices_ContainsFunc_Sint_int_), (l_slices_IndexFunc_Sint_int_, if_slices_IndexFunc_Sint_int_), (l_slices_Index_Sint_int_, if_slices_Index_Sint_int_), (l_slices_Reverse_Sint_int_, if_slices_Reverse_Sint_int_), (l_slices_Sort_Sint_int_, if_slices_Sort_Sint_int_), (l_slices_insertionSortOrdered_int_, if_slices_insertionSortOrdered_int_), (l_slices_pdqsortOrdered_int_, if_slices_pdqsortOrdered_int_), (l_spec_DrawTurnTriangle, if_spec_DrawTurnTriangle), (l_spec_TurnTriangle, if_spec_TurnTriangle), (l_spec_aTournament, if_spec_aTournament), (l_spec_copyInts, if_spec_copyInts), (l_spec_copyMatrix, if_spec_copyMatrix), (l_spec_inRange, if_spec_inRange), (l_spec_newReader, if_spec_newReader), (l_spec_reader_one, if_spec_reader_one), (l_spec_reader_pick, if_spec_reader_pick), (l_spec_someTournament, if_spec_someTournament), (l_spec_validTournament, if_spec_validTournament)]
def tb : Tbl := tbOf tbl
theorem tb_cmp_Less_int_ : tb l_cmp_Less_int_ = some if_cmp_Less_int_ := by kernel_rfl
theorem tb_cmp_isNaN_int_ : tb l_cmp_isNaN_int_ = some if_cmp_isNaN_int_ := by kernel_rfl
theorem tb_impl_IsStrong : tb l_impl_IsStrong = some if_impl_IsStrong := by kernel_rfl
theorem tb_impl_MarginsOf : tb l_impl_MarginsOf = some if_impl_MarginsOf := by kernel_rfl
theorem tb_impl_ScoresOf : tb l_impl_ScoresOf = some if_impl_ScoresOf := by kernel_rfl
theorem tb_impl_TurnTriangle : tb l_impl_TurnTriangle = some if_impl_TurnTriangle := by kernel_rfl
theorem tb_impl_ValidMatrix : tb l_impl_ValidMatrix = some if_impl_ValidMatrix := by kernel_rfl
theorem tb_impl_ValidTournament : tb l_impl_ValidTournament = some if_impl_ValidTournament := by kernel_rfl
theorem tb_impl_allIn : tb l_impl_allIn = some if_impl_allIn := by kernel_rfl
theorem tb_impl_allIn_F1 : tb l_impl_allIn_F1 = some if_impl_allIn_F1 := by kernel_rfl
theorem tb_impl_clone_int_ : tb l_impl_clone_int_ = some if_impl_clone_int_ := by kernel_rfl
theorem tb_impl_copyTable : tb l_impl_copyTable = some if_impl_copyTable := by kernel_rfl
theorem tb_impl_copyTable_F1 : tb l_impl_copyTable_F1 = some if_impl_copyTable_F1 := by kernel_rfl
theorem tb_impl_falling : tb l_impl_falling = some if_impl_falling := by kernel_rfl
theorem tb_impl_in : tb l_impl_in = some if_impl_in := by kernel_rfl
theorem tb_impl_over : tb l_impl_over = some if_impl_over := by kernel_rfl
theorem tb_impl_sum : tb l_impl_sum = some if_impl_sum := by kernel_rfl
theorem tb_impl_table : tb l_impl_table = some if_impl_table := by kernel_rfl
theorem tb_laws_FnTurnTriangle : tb l_laws_FnTurnTriangle = some if_laws_FnTurnTriangle := by kernel_rfl
theorem tb_laws_equalInts : tb l_laws_equalInts = some if_laws_equalInts := by kernel_rfl
theorem tb_laws_equalLists : tb l_laws_equalLists = some if_laws_equalLists := by kernel_rfl
theorem tb_math_bits_Len : tb l_math_bits_Len = some if_math_bits_Len := by kernel_rfl
theorem tb_math_bits_Len64 : tb l_math_bits_Len64 = some if_math_bits_Len64 := by kernel_rfl
theorem tb_slices_Clip_Sint_int_ : tb l_slices_Clip_Sint_int_ = some if_slices_Clip_Sint_int_ := by kernel_rfl
theorem tb_slices_Clone_Sint_int_ : tb l_slices_Clone_Sint_int_ = some if_slices_Clone_Sint_int_ := by kernel_rfl
theorem tb_slices_ContainsFunc_Sint_int_ : tb l_slices_ContainsFunc_Sint_int_ = some if_slices_ContainsFunc_Sint_int_ := by kernel_rfl
theorem tb_slices_IndexFunc_Sint_int_ : tb l_slices_IndexFunc_Sint_int_ = some if_slices_IndexFunc_Sint_int_ := by kernel_rfl
theorem tb_slices_Index_Sint_int_ : tb l_slices_Index_Sint_int_ = some if_slices_Index_Sint_int_ := by kernel_rfl
theorem tb_slices_Reverse_Sint_int_ : tb l_slices_Reverse_Sint_int_ = some if_slices_Reverse_Sint_int_ := by kernel_rfl
theorem tb_slices_Sort_Sint_int_ : tb l_slices_Sort_Sint_int_ = some if_slices_Sort_Sint_int_ := by kernel_rfl
theorem tb_slices_insertionSortOrdered_int_ : tb l_slices_insertionSortOrdered_int_ = some if_slices_insertionSortOrdered_int_ := by kernel_rfl
theorem tb_slices_pdqsortOrdered_int_ : tb l_slices_pdqsortOrdered_int_ = some if_slices_pdqsortOrdered_int_ := by kernel_rfl
theorem tb_spec_DrawTurnTriangle : tb l_spec_DrawTurnTriangle = some if_spec_DrawTurnTriangle := by kernel_rfl
theorem tb_spec_TurnTriangle : tb l_spec_TurnTriangle = some if_spec_TurnTriangle := by kernel_rfl
theorem tb_spec_aTournament : tb l_spec_aTournament = some if_spec_aTournament := by kernel_rfl
theorem tb_spec_copyInts : tb l_spec_copyInts = some if_spec_copyInts := by kernel_rfl
theorem tb_spec_copyMatrix : tb l_spec_copyMatrix = some if_spec_copyMatrix := by kernel_rfl
theorem tb_spec_inRange : tb l_spec_inRange = some if_spec_inRange := by kernel_rfl
theorem tb_spec_newReader : tb l_spec_newReader = some if_spec_newReader := by kernel_rfl
theorem tb_spec_reader_one : tb l_spec_reader_one = some if_spec_reader_one := by kernel_rfl
theorem tb_spec_reader_pick : tb l_spec_reader_pick = some if_spec_reader_pick := by kernel_rfl
theorem tb_spec_someTournament : tb l_spec_someTournament = some if_spec_someTournament := by kernel_rfl
theorem tb_spec_validTournament : tb l_spec_validTournament = some if_spec_validTournament := by kernel_rfl
end Go.Idl

