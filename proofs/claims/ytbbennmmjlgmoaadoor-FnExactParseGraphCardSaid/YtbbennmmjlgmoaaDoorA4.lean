/- Part 4 of a proof by an ideal interpreter of the code: its definitions and lemmas. Conditions: none. -/
import Derived.KernelRfl
import Derived.Test.YtbbennmmjlgmoaaDoorA3
set_option linter.all false
set_option linter.unusedVariables false
set_option linter.unusedSimpArgs false
namespace Go.Idl
open Go
abbrev vi (n:Int):Value:=.int .i64 n
abbrev zl26:Lab:=26
abbrev zl32:Lab:=32
abbrev zl38:Lab:=38
abbrev zl48:Lab:=48
abbrev zl49:Lab:=49
abbrev zl50:Lab:=50
abbrev zl56:Lab:=56
abbrev zl57:Lab:=57
abbrev zl70:Lab:=70
abbrev zl126:Lab:=126
abbrev zl132:Lab:=132
abbrev zl145:Lab:=145
abbrev zl166:Lab:=166
abbrev zl192:Lab:=192
abbrev zl204:Lab:=204
abbrev zl208:Lab:=208
abbrev zl217:Lab:=217
abbrev zl230:Lab:=230
abbrev zl231:Lab:=231
abbrev zl239:Lab:=239
abbrev zl240:Lab:=240
abbrev zl258:Lab:=258
abbrev zl261:Lab:=261
abbrev zl323:Lab:=323
abbrev zl347:Lab:=347
abbrev zl352:Lab:=352
abbrev zl367:Lab:=367
abbrev zl396:Lab:=396
abbrev zl397:Lab:=397
abbrev zl398:Lab:=398
abbrev zl399:Lab:=399
abbrev zl400:Lab:=400
abbrev zl401:Lab:=401
abbrev zl402:Lab:=402
abbrev zl425:Lab:=425
def z166r0:IC:=.reg [⟨some 1, none,.box (.t 0)⟩,⟨some 2, none,.asg (.c (.string ByteArray.empty))⟩] [1] []
def z166r1:IC:=.reg [⟨some 6, none,.load true 2 (.t 1)⟩,⟨some 7, none,.call zl26 [(.rd,(.t 6))] true⟩,⟨some 8, none,.unop .not (.t 7)⟩] [1,8] []
def z166r2:IC:=.reg [⟨some 2, none,.asg (.c (.string ByteArray.empty))⟩] [2] []
def z166r3:IC:=.reg [⟨some 3, none,.asg (.c (.slice none 0 0))⟩] [1,3] []
def z166r4:IC:=.reg [⟨some 9, none,.fadr 1 (.t 1)⟩,⟨some 10, none,.load false 1 (.t 9)⟩,⟨some 11, none,.len (.t 10)⟩,⟨some 12, none,.mv (.c (vi 0))⟩] [1,3,10,11,12] []
def z166r5:IC:=.reg [⟨some 13, none,.bin .lss (.t 12) (.t 11)⟩] [1,3,10,11,12,13] []
def z166r6:IC:=.reg [⟨some 14, none,.iadr 2 (.t 10) (.t 12)⟩,⟨some 15, none,.load true 2 (.t 14)⟩,⟨some 5, none,.alloc [(vi 0),(vi 0)]⟩,⟨none,none,.store 2 (.t 5) (.t 15)⟩] [1,3,5,10,11,12] []
def z166r7:IC:=.reg [⟨some 16, none,.mv (.t 3)⟩,⟨some 17, none,.fadr 0 (.t 5)⟩,⟨some 18, none,.load false 1 (.t 17)⟩,⟨some 19, none,.fadr 1 (.t 5)⟩,⟨some 20, none,.load false 1 (.t 19)⟩,⟨some 21, none,.bsl 1 [(vi 0)] 2 [(0,(.t 18)),(1,(.t 20))]⟩,⟨some 22, none,.call zl208 [(.rd,(.t 21))] true⟩,⟨some 23, none,.bsl 1 [(.string ByteArray.empty)] 1 [(0,(.t 22))]⟩,⟨some 24, none,.app 1 (.t 16) (.t 23)⟩,⟨some 3, none,.asg (.t 24)⟩] [1,3,10,11,12] []
def z166r8:IC:=.reg [⟨some 25, none,.bin .add (.t 12) (.c (vi 1))⟩,⟨some 12, none,.asg (.t 25)⟩] [1,3,10,11,12] []
def z166l9:IC:=(.seq z166r5 (.seq (.cond (.t 13) .skip (.exit 0)) (.seq (.block 1 (.seq z166r6 z166r7)) z166r8)))
def z166r10:IC:=.reg [⟨some 26, none,.fadr 0 (.t 1)⟩,⟨some 27, none,.load false 1 (.t 26)⟩,⟨some 28, none,.bsl 1 [(vi 0)] 1 [(0,(.t 27))]⟩,⟨some 29, none,.call zl208 [(.rd,(.t 28))] true⟩,⟨some 30, none,.bin .add (.t 29) (.c (.string ⟨#[58]⟩))⟩,⟨some 31, none,.mv (.t 3)⟩,⟨some 32, none,.call zl399 [(.rd,(.t 31)),(.val,(.c (.string ⟨#[44]⟩)))] true⟩,⟨some 33, none,.bin .add (.t 30) (.t 32)⟩,⟨some 2, none,.asg (.t 33)⟩] [2] []
def zi166:IFun:=⟨[.t 2],[],(.seq z166r0 (.seq (.seq z166r1 (.cond (.t 8) (.seq z166r2 .ret) .skip)) (.seq z166r3 (.seq (.seq z166r4 (.block 0 (.loop z166l9))) (.seq z166r10 .ret)))))⟩
def z192r0:IC:=.reg [⟨some 2, none,.alloc [(vi 0),(.slice none 0 0)]⟩,⟨some 3, none,.asg (.c (.bool false))⟩] [0,2] []
def z192r1:IC:=.reg [⟨some 12, none,.mv (.t 0)⟩,⟨some 13, none,.call zl397 [(.val,(.t 12)),(.val,(.c (.string ⟨#[58]⟩)))] true⟩,⟨some 11, none,.asg (.t 13)⟩,⟨some 14, none,.extr (.t 11) 0⟩,⟨some 15, none,.extr (.t 11) 1⟩,⟨some 16, none,.extr (.t 11) 2⟩,⟨some 4, none,.asg (.t 14)⟩,⟨some 5, none,.asg (.t 15)⟩,⟨some 6, none,.asg (.t 16)⟩] [0,2,4,5,6] []
def z192r2:IC:=.reg [⟨some 17, none,.mv (.t 6)⟩,⟨some 18, none,.unop .not (.t 17)⟩,⟨some 19, none,.asg (.t 18)⟩,⟨some 20, (some (19,false)),.mv (.t 4)⟩,⟨some 21, (some (19,false)),.lens (.t 20)⟩,⟨some 22, (some (19,false)),.bin .neq (.t 21) (.c (vi 1))⟩,⟨some 23, none,.pick (.t 19) (.c (.bool true)) (.t 22)⟩] [0,2,4,5,23] []
def z192r3:IC:=.reg [⟨some 24, none,.build [(vi 0),(.slice none 0 0)] []⟩,⟨none,none,.store 2 (.t 2) (.t 24)⟩,⟨some 3, none,.asg (.c (.bool false))⟩] [2,3] []
def z192r4:IC:=.reg [⟨some 25, none,.mv (.t 4)⟩,⟨some 26, none,.call zl217 [(.val,(.t 25))] true⟩,⟨some 27, none,.iadr 1 (.t 26) (.c (vi 0))⟩,⟨some 28, none,.load false 1 (.t 27)⟩,⟨some 29, none,.build [(vi 0),(.slice none 0 0)] [(0,1,(.t 28))]⟩,⟨some 7, none,.alloc [(vi 0),(.slice none 0 0)]⟩,⟨none,none,.store 2 (.t 7) (.t 29)⟩] [0,2,5,7] []
def z192r5:IC:=.reg [⟨some 30, none,.mv (.t 5)⟩,⟨some 31, none,.call zl400 [(.val,(.t 30)),(.val,(.c (.string ⟨#[44]⟩)))] true⟩,⟨some 32, none,.len (.t 31)⟩,⟨some 33, none,.mv (.c (vi 0))⟩] [0,2,7,31,32,33] []
def z192r6:IC:=.reg [⟨some 34, none,.bin .lss (.t 33) (.t 32)⟩] [0,2,7,31,32,33,34] []
def z192r7:IC:=.reg [⟨some 35, none,.iadr 1 (.t 31) (.t 33)⟩,⟨some 36, none,.load false 1 (.t 35)⟩,⟨some 9, none,.asg (.t 36)⟩] [0,2,7,9,31,32,33] []
def z192r8:IC:=.reg [⟨some 37, none,.mv (.t 9)⟩,⟨some 38, none,.call zl217 [(.val,(.t 37))] true⟩,⟨some 10, none,.asg (.t 38)⟩] [0,2,7,10,31,32,33] []
def z192r9:IC:=.reg [⟨some 39, none,.mv (.t 10)⟩,⟨some 40, none,.len (.t 39)⟩,⟨some 41, none,.bin .eql (.t 40) (.c (vi 2))⟩] [0,2,7,10,31,32,33,41] []
def z192r10:IC:=.reg [⟨some 42, none,.fadr 1 (.t 7)⟩,⟨some 43, none,.load false 1 (.t 42)⟩,⟨some 44, none,.mv (.t 10)⟩,⟨some 45, none,.iadr 1 (.t 44) (.c (vi 0))⟩,⟨some 46, none,.load false 1 (.t 45)⟩,⟨some 47, none,.mv (.t 10)⟩,⟨some 48, none,.iadr 1 (.t 47) (.c (vi 1))⟩,⟨some 49, none,.load false 1 (.t 48)⟩,⟨some 50, none,.build [(vi 0),(vi 0)] [(0,1,(.t 46)),(1,1,(.t 49))]⟩,⟨some 51, none,.bsl 2 [(vi 0),(vi 0)] 1 [(0,(.t 50))]⟩,⟨some 52, none,.app 2 (.t 43) (.t 51)⟩,⟨some 53, none,.fadr 1 (.t 7)⟩,⟨none,none,.store 1 (.t 53) (.t 52)⟩] [0,2,7,31,32,33] [[0,2,3,4,5,6,7,8,1,9,10,11,12],[0,2,3,4,5,6,7,8,9,1,10,11,12]]
def z192r11:IC:=.reg [⟨some 54, none,.bin .add (.t 33) (.c (vi 1))⟩,⟨some 33, none,.asg (.t 54)⟩] [0,2,7,31,32,33] []
def z192l12:IC:=(.seq z192r6 (.seq (.cond (.t 34) .skip (.exit 0)) (.seq (.block 1 (.seq z192r7 (.seq z192r8 (.seq z192r9 (.cond (.t 41) z192r10 .skip))))) z192r11)))
def z192r13:IC:=.reg [⟨some 55, none,.fadr 1 (.t 7)⟩,⟨some 56, none,.load false 1 (.t 55)⟩,⟨some 57, none,.call zl204 [(.rd,(.t 56))] true⟩,⟨some 58, none,.fadr 1 (.t 7)⟩,⟨none,none,.store 1 (.t 58) (.t 57)⟩] [0,2,7] []
def z192r14:IC:=.reg [⟨some 59, none,.load true 2 (.t 7)⟩,⟨some 60, none,.call zl26 [(.rd,(.t 59))] true⟩,⟨some 61, none,.unop .not (.t 60)⟩,⟨some 62, none,.asg (.t 61)⟩,⟨some 63, (some (62,false)),.load true 2 (.t 7)⟩,⟨some 64, (some (62,false)),.call zl166 [(.rd,(.t 63))] true⟩,⟨some 65, (some (62,false)),.mv (.t 0)⟩,⟨some 66, (some (62,false)),.bin .neq (.t 64) (.t 65)⟩,⟨some 67, none,.pick (.t 62) (.c (.bool true)) (.t 66)⟩] [2,7,67] []
def z192r15:IC:=.reg [⟨some 68, none,.build [(vi 0),(.slice none 0 0)] []⟩,⟨none,none,.store 2 (.t 2) (.t 68)⟩,⟨some 3, none,.asg (.c (.bool false))⟩] [2,3] []
def z192r16:IC:=.reg [⟨some 69, none,.load true 2 (.t 7)⟩,⟨none,none,.store 2 (.t 2) (.t 69)⟩,⟨some 3, none,.asg (.c (.bool true))⟩] [2,3] []
def zi192:IFun:=⟨[.c 2 2 true,.t 3],[],(.seq z192r0 (.seq z192r1 (.seq (.seq z192r2 (.cond (.t 23) (.seq z192r3 .ret) .skip)) (.seq z192r4 (.seq (.seq z192r5 (.block 0 (.loop z192l12))) (.seq z192r13 (.seq (.seq z192r14 (.cond (.t 67) (.seq z192r15 .ret) .skip)) (.seq z192r16 .ret))))))))⟩
def z26r0:IC:=.reg [⟨some 1, none,.box (.t 0)⟩,⟨some 2, none,.asg (.c (.bool false))⟩] [1] []
def z26r1:IC:=.reg [⟨some 5, none,.fadr 1 (.t 1)⟩,⟨some 6, none,.load false 1 (.t 5)⟩,⟨some 7, none,.len (.t 6)⟩,⟨some 8, none,.mv (.c (vi 0))⟩] [1,6,7,8] []
def z26r2:IC:=.reg [⟨some 9, none,.bin .lss (.t 8) (.t 7)⟩] [1,6,7,8,9] []
def z26r3:IC:=.reg [⟨some 10, none,.asg (.t 8)⟩,⟨some 11, none,.iadr 2 (.t 6) (.t 8)⟩,⟨some 12, none,.load true 2 (.t 11)⟩,⟨some 4, none,.alloc [(vi 0),(vi 0)]⟩,⟨some 3, none,.asg (.t 10)⟩,⟨none,none,.store 2 (.t 4) (.t 12)⟩] [1,3,4,6,7,8] []
def z26r4:IC:=.reg [⟨some 13, none,.fadr 0 (.t 4)⟩,⟨some 14, none,.load false 1 (.t 13)⟩,⟨some 15, none,.bin .lss (.t 14) (.c (vi 0))⟩,⟨some 16, none,.asg (.t 15)⟩,⟨some 17, (some (16,false)),.fadr 0 (.t 4)⟩,⟨some 18, (some (16,false)),.load false 1 (.t 17)⟩,⟨some 19, (some (16,false)),.fadr 1 (.t 4)⟩,⟨some 20, (some (16,false)),.load false 1 (.t 19)⟩,⟨some 21, (some (16,false)),.bin .geq (.t 18) (.t 20)⟩,⟨some 22, none,.pick (.t 16) (.c (.bool true)) (.t 21)⟩,⟨some 23, none,.asg (.t 22)⟩,⟨some 24, (some (23,false)),.fadr 1 (.t 4)⟩,⟨some 25, (some (23,false)),.load false 1 (.t 24)⟩,⟨some 26, (some (23,false)),.fadr 0 (.t 1)⟩,⟨some 27, (some (23,false)),.load false 1 (.t 26)⟩,⟨some 28, (some (23,false)),.bin .geq (.t 25) (.t 27)⟩,⟨some 29, none,.pick (.t 23) (.c (.bool true)) (.t 28)⟩,⟨some 30, none,.asg (.t 29)⟩,⟨some 31, (some (30,false)),.mv (.t 3)⟩,
    ⟨some 32, (some (30,false)),.bin .gtr (.t 31) (.c (vi 0))⟩,⟨some 33, (some (30,false)),.asg (.t 32)⟩,⟨some 34, (some (33,true)),.fadr 1 (.t 1)⟩,⟨some 35, (some (33,true)),.load false 1 (.t 34)⟩,⟨some 36, (some (33,true)),.mv (.t 3)⟩,⟨some 37, (some (33,true)),.bin .sub (.t 36) (.c (vi 1))⟩,⟨some 38, (some (33,true)),.iadr 2 (.t 35) (.t 37)⟩,⟨some 39, (some (33,true)),.load true 2 (.t 38)⟩,⟨some 40, (some (33,true)),.load true 2 (.t 4)⟩,⟨some 41, (some (33,true)),.call zl32 [(.val,(.t 39)),(.val,(.t 40))] true⟩,⟨some 42, (some (33,true)),.bin .geq (.t 41) (.c (vi 0))⟩,⟨some 43, (some (30,false)),.pick (.t 33) (.t 42) (.c (.bool false))⟩,⟨some 44, none,.pick (.t 30) (.c (.bool true)) (.t 43)⟩] [1,6,7,8,44] []
def z26r5:IC:=.reg [⟨some 2, none,.asg (.c (.bool false))⟩] [2] []
def z26r6:IC:=.reg [⟨some 45, none,.bin .add (.t 8) (.c (vi 1))⟩,⟨some 8, none,.asg (.t 45)⟩] [1,6,7,8] []
def z26l7:IC:=(.seq z26r2 (.seq (.cond (.t 9) .skip (.exit 0)) (.seq (.block 1 (.seq z26r3 (.seq z26r4 (.cond (.t 44) (.seq z26r5 .ret) .skip)))) z26r6)))
def z26r8:IC:=.reg [⟨some 46, none,.fadr 0 (.t 1)⟩,⟨some 47, none,.load false 1 (.t 46)⟩,⟨some 48, none,.call zl38 [(.val,(.t 47)),(.val,(.c (vi 0))),(.val,(.c (vi 7)))] true⟩,⟨some 2, none,.asg (.t 48)⟩] [2] []
def zi26:IFun:=⟨[.t 2],[],(.seq z26r0 (.seq (.seq z26r1 (.block 0 (.loop z26l7))) (.seq z26r8 .ret)))⟩
def z204r0:IC:=.reg [⟨some 2, none,.asg (.c (.slice none 0 0))⟩] [0] []
def z204r1:IC:=.reg [⟨some 3, none,.mv (.t 0)⟩,⟨some 4, none,.call zl261 [(.rd,(.t 3))] true⟩,⟨some 5, none,.call zl258 [(.tk,(.t 4))] true⟩,⟨some 2, none,.asg (.t 5)⟩] [2] []
def zi204:IFun:=⟨[.t 2],[],(.seq z204r0 (.seq z204r1 .ret))⟩
def z32r0:IC:=.reg [⟨some 2, none,.box (.t 0)⟩,⟨some 3, none,.box (.t 1)⟩,⟨some 4, none,.asg (.c (vi 0))⟩] [2,3] []
def z32r1:IC:=.reg [⟨some 5, none,.fadr 0 (.t 2)⟩,⟨some 6, none,.load false 1 (.t 5)⟩,⟨some 7, none,.fadr 0 (.t 3)⟩,⟨some 8, none,.load false 1 (.t 7)⟩,⟨some 9, none,.bin .neq (.t 6) (.t 8)⟩] [2,3,9] []
def z32r2:IC:=.reg [⟨some 10, none,.fadr 0 (.t 2)⟩,⟨some 11, none,.load false 1 (.t 10)⟩,⟨some 12, none,.fadr 0 (.t 3)⟩,⟨some 13, none,.load false 1 (.t 12)⟩,⟨some 14, none,.bin .sub (.t 11) (.t 13)⟩,⟨some 4, none,.asg (.t 14)⟩] [4] []
def z32r3:IC:=.reg [⟨some 15, none,.fadr 1 (.t 2)⟩,⟨some 16, none,.load false 1 (.t 15)⟩,⟨some 17, none,.fadr 1 (.t 3)⟩,⟨some 18, none,.load false 1 (.t 17)⟩,⟨some 19, none,.bin .sub (.t 16) (.t 18)⟩,⟨some 4, none,.asg (.t 19)⟩] [4] []
def zi32:IFun:=⟨[.t 4],[],(.seq z32r0 (.seq (.seq z32r1 (.cond (.t 9) (.seq z32r2 .ret) .skip)) (.seq z32r3 .ret)))⟩
def zi208:IFun:=⟨[.t 0],[],.ext ext_impl_digits⟩
def z38r0:IC:=.reg [⟨some 6, none,.asg (.c (.bool false))⟩] [0,1,2] []
def z38r1:IC:=.reg [⟨some 7, none,.mv (.t 0)⟩,⟨some 8, none,.mv (.t 1)⟩,⟨some 9, none,.bin .geq (.t 7) (.t 8)⟩,⟨some 10, none,.asg (.t 9)⟩,⟨some 11, (some (10,true)),.mv (.t 0)⟩,⟨some 12, (some (10,true)),.mv (.t 2)⟩,⟨some 13, (some (10,true)),.bin .leq (.t 11) (.t 12)⟩,⟨some 14, none,.pick (.t 10) (.t 13) (.c (.bool false))⟩,⟨some 6, none,.asg (.t 14)⟩] [6] []
def zi38:IFun:=⟨[.t 6],[],(.seq z38r0 (.seq z38r1 .ret))⟩
def z217r0:IC:=.reg [⟨some 2, none,.asg (.c (.slice none 0 0))⟩] [0] []
def z217r1:IC:=.reg [⟨some 3, none,.asg (.c (.slice none 0 0))⟩] [0,3] []
def z217r2:IC:=.reg [⟨some 6, none,.mv (.t 0)⟩,⟨some 7, none,.lens (.t 6)⟩,⟨some 8, none,.mv (.c (vi 0))⟩] [0,3,7,8] []
def z217r3:IC:=.reg [⟨some 9, none,.bin .lss (.t 8) (.t 7)⟩] [0,3,7,8,9] []
def z217r4:IC:=.reg [⟨some 10, none,.asg (.t 8)⟩,⟨some 4, none,.asg (.t 10)⟩] [0,3,4,7,8] []
def z217r5:IC:=.reg [⟨some 11, none,.mv (.t 0)⟩,⟨some 12, none,.mv (.t 4)⟩,⟨some 13, none,.idxs (.t 11) (.t 12)⟩,⟨some 14, none,.conv .i64 (.t 13)⟩,⟨some 15, none,.bin .sub (.t 14) (.c (vi 48))⟩,⟨some 5, none,.asg (.t 15)⟩] [0,3,5,7,8] []
def z217r6:IC:=.reg [⟨some 16, none,.mv (.t 5)⟩,⟨some 17, none,.bin .lss (.t 16) (.c (vi 0))⟩] [0,3,5,7,8,17] []
def z217r7:IC:=.reg [⟨some 5, none,.asg (.c (vi 99))⟩] [0,3,5,7,8] []
def z217r8:IC:=.reg [⟨some 18, none,.mv (.t 3)⟩,⟨some 19, none,.mv (.t 5)⟩,⟨some 20, none,.bsl 1 [(vi 0)] 1 [(0,(.t 19))]⟩,⟨some 21, none,.app 1 (.t 18) (.t 20)⟩,⟨some 3, none,.asg (.t 21)⟩] [0,3,7,8] []
def z217r9:IC:=.reg [⟨some 22, none,.bin .add (.t 8) (.c (vi 1))⟩,⟨some 8, none,.asg (.t 22)⟩] [0,3,7,8] []
def z217l10:IC:=(.seq z217r3 (.seq (.cond (.t 9) .skip (.exit 0)) (.seq (.block 1 (.seq z217r4 (.seq z217r5 (.seq (.seq z217r6 (.cond (.t 17) z217r7 .skip)) z217r8)))) z217r9)))
def z217r11:IC:=.reg [⟨some 23, none,.mv (.t 3)⟩,⟨some 24, none,.call zl70 [(.tk,(.t 23))] true⟩,⟨some 2, none,.asg (.t 24)⟩] [2] []
def zi217:IFun:=⟨[.t 2],[],(.seq z217r0 (.seq z217r1 (.seq (.seq z217r2 (.block 0 (.loop z217l10))) (.seq z217r11 .ret))))⟩
def z230r0:IC:=.reg [⟨some 4, none,.asg (.c (.string ByteArray.empty))⟩,⟨some 5, none,.asg (.c (.string ByteArray.empty))⟩,⟨some 6, none,.asg (.c (.bool false))⟩] [0,1] []
def z230r1:IC:=.reg [⟨some 8, none,.mv (.t 0)⟩,⟨some 9, none,.mv (.t 1)⟩,⟨some 10, none,.call zl231 [(.val,(.t 8)),(.val,(.t 9))] true⟩,⟨some 7, none,.asg (.t 10)⟩] [0,1,7] []
def z230r2:IC:=.reg [⟨some 11, none,.mv (.t 7)⟩,⟨some 12, none,.bin .geq (.t 11) (.c (vi 0))⟩] [0,1,7,12] []
def z230r3:IC:=.reg [⟨some 13, none,.mv (.t 0)⟩,⟨some 14, none,.mv (.t 7)⟩,⟨some 15, none,.slcs (.t 13) none (some (.t 14))⟩,⟨some 16, none,.mv (.t 0)⟩,⟨some 17, none,.mv (.t 7)⟩,⟨some 18, none,.mv (.t 1)⟩,⟨some 19, none,.lens (.t 18)⟩,⟨some 20, none,.bin .add (.t 17) (.t 19)⟩,⟨some 21, none,.slcs (.t 16) (some (.t 20)) none⟩,⟨some 4, none,.asg (.t 15)⟩,⟨some 5, none,.asg (.t 21)⟩,⟨some 6, none,.asg (.c (.bool true))⟩] [4,5,6] []
def z230r4:IC:=.reg [⟨some 22, none,.mv (.t 0)⟩,⟨some 4, none,.asgm (.t 22)⟩,⟨some 5, none,.asg (.c (.string ByteArray.empty))⟩,⟨some 6, none,.asg (.c (.bool false))⟩] [4,5,6] []
def zi230:IFun:=⟨[.t 4,.t 5,.t 6],[],(.seq z230r0 (.seq (.seq z230r1 (.seq z230r2 (.cond (.t 12) (.seq z230r3 .ret) .skip))) (.seq z230r4 .ret)))⟩
def zi231:IFun:=⟨[.t 0],[],.ext ext_internal_stringslite_Index⟩
def z425r0:IC:=.reg [⟨some 2, none,.asg (.c (.bool false))⟩] [0] []
def z425r1:IC:=.reg [⟨some 11, none,.mv (.t 0)⟩,⟨some 12, none,.lens (.t 11)⟩,⟨some 13, none,.bin .gtr (.t 12) (.c (vi 1048576))⟩] [0,13] []
def z425r2:IC:=.reg [⟨some 2, none,.asg (.c (.bool true))⟩] [2] []
def z425r3:IC:=.reg [⟨some 15, none,.mv (.t 0)⟩,⟨some 16, none,.call zl323 [(.val,(.t 15))] true⟩,⟨some 14, none,.asg (.t 16)⟩,⟨some 17, none,.extr (.t 14) 0⟩,⟨some 18, none,.extr (.t 14) 1⟩,⟨some 3, none,.alloc [(vi 0),(.slice none 0 0)]⟩,⟨none,none,.store 2 (.t 3) (.t 17)⟩,⟨some 4, none,.asg (.t 18)⟩] [0,3,4] []
def z425r4:IC:=.reg [⟨some 20, none,.mv (.t 0)⟩,⟨some 21, none,.call zl192 [(.val,(.t 20))] true⟩,⟨some 19, none,.asg (.t 21)⟩,⟨some 22, none,.extr (.t 19) 0⟩,⟨some 23, none,.extr (.t 19) 1⟩,⟨some 5, none,.alloc [(vi 0),(.slice none 0 0)]⟩,⟨none,none,.store 2 (.t 5) (.t 22)⟩,⟨some 6, none,.asg (.t 23)⟩] [0,3,4,5,6] []
def z425r5:IC:=.reg [⟨some 24, none,.load true 2 (.t 5)⟩,⟨some 25, none,.load true 2 (.t 3)⟩,⟨some 26, none,.call zl50 [(.rd,(.t 24)),(.rd,(.t 25))] true⟩,⟨some 27, none,.unop .not (.t 26)⟩,⟨some 28, none,.asg (.t 27)⟩,⟨some 29, (some (28,false)),.mv (.t 6)⟩,⟨some 30, (some (28,false)),.mv (.t 4)⟩,⟨some 31, (some (28,false)),.eqb true (.t 29) (.t 30)⟩,⟨some 32, none,.pick (.t 28) (.c (.bool true)) (.t 31)⟩] [0,3,4,5,32] []
def z425r6:IC:=.reg [⟨some 2, none,.asg (.c (.bool false))⟩] [2] []
def z425r7:IC:=.reg [⟨some 7, none,.asg (.c (vi 1))⟩] [0,3,4,5,7] []
def z425r8:IC:=.reg [⟨some 33, none,.load true 2 (.t 5)⟩,⟨some 34, none,.mv (.t 7)⟩,⟨some 35, none,.callm zl57 (.t 33) (.t 34)⟩,⟨some 7, none,.asg (.t 35)⟩] [0,3,4,5,7] []
def z425r9:IC:=.reg [⟨some 8, none,.asg (.c (vi 1))⟩] [0,3,4,5,7,8] []
def z425r10:IC:=.reg [⟨some 36, none,.load true 2 (.t 5)⟩,⟨some 37, none,.mv (.t 8)⟩,⟨some 38, none,.call zl240 [(.rd,(.t 36)),(.val,(.t 37))] true⟩,⟨some 8, none,.asg (.t 38)⟩] [0,3,4,5,7,8] []
def z425r11:IC:=.reg [⟨some 39, none,.mv (.t 8)⟩,⟨some 40, none,.bin .lss (.t 39) (.c (vi 0))⟩] [0,3,4,5,7,8,40] []
def z425r12:IC:=.reg [⟨some 2, none,.asg (.c (.bool false))⟩] [2] []
def z425r13:IC:=.reg [⟨some 41, none,.mv (.t 8)⟩,⟨some 42, none,.mv (.t 7)⟩,⟨some 43, none,.bin .neq (.t 41) (.t 42)⟩] [0,3,4,5,7,43] []
def z425r14:IC:=.reg [⟨some 2, none,.asg (.c (.bool false))⟩] [2] []
def z425r15:IC:=.reg [⟨some 45, none,.mv (.t 0)⟩,⟨some 46, none,.call zl192 [(.val,(.t 45))] true⟩,⟨some 44, none,.asg (.t 46)⟩,⟨some 47, none,.extr (.t 44) 0⟩,⟨some 48, none,.extr (.t 44) 1⟩,⟨some 9, none,.alloc [(vi 0),(.slice none 0 0)]⟩,⟨none,none,.store 2 (.t 9) (.t 47)⟩,⟨some 10, none,.asg (.t 48)⟩] [3,4,5,7,9,10] []
def z425r16:IC:=.reg [⟨some 49, none,.load true 2 (.t 9)⟩,⟨some 50, none,.load true 2 (.t 3)⟩,⟨some 51, none,.call zl50 [(.rd,(.t 49)),(.rd,(.t 50))] true⟩,⟨some 52, none,.unop .not (.t 51)⟩,⟨some 53, none,.asg (.t 52)⟩,⟨some 54, (some (53,false)),.mv (.t 10)⟩,⟨some 55, (some (53,false)),.mv (.t 4)⟩,⟨some 56, (some (53,false)),.eqb true (.t 54) (.t 55)⟩,⟨some 57, none,.pick (.t 53) (.c (.bool true)) (.t 56)⟩] [5,7,57] []
def z425r17:IC:=.reg [⟨some 2, none,.asg (.c (.bool false))⟩] [2] []
def z425r18:IC:=.reg [⟨some 8, none,.asg (.c (vi 1))⟩] [5,7,8] []
def z425r19:IC:=.reg [⟨some 58, none,.load true 2 (.t 5)⟩,⟨some 59, none,.mv (.t 8)⟩,⟨some 60, none,.call zl240 [(.rd,(.t 58)),(.val,(.t 59))] true⟩,⟨some 8, none,.asg (.t 60)⟩] [7,8] []
def z425r20:IC:=.reg [⟨some 61, none,.mv (.t 8)⟩,⟨some 62, none,.bin .lss (.t 61) (.c (vi 0))⟩] [7,8,62] []
def z425r21:IC:=.reg [⟨some 2, none,.asg (.c (.bool false))⟩] [2] []
def z425r22:IC:=.reg [⟨some 63, none,.mv (.t 8)⟩,⟨some 64, none,.mv (.t 7)⟩,⟨some 65, none,.bin .neq (.t 63) (.t 64)⟩] [65] []
def z425r23:IC:=.reg [⟨some 2, none,.asg (.c (.bool false))⟩] [2] []
def z425r24:IC:=.reg [⟨some 2, none,.asg (.c (.bool true))⟩] [2] []
def zi425:IFun:=⟨[.t 2],[],(.seq z425r0 (.seq (.seq z425r1 (.cond (.t 13) (.seq z425r2 .ret) .skip)) (.seq z425r3 (.seq z425r4 (.seq (.seq z425r5 (.cond (.t 32) (.seq z425r6 .ret) .skip)) (.seq z425r7 (.seq z425r8 (.seq z425r9 (.seq z425r10 (.seq (.seq z425r11 (.cond (.t 40) (.seq z425r12 .ret) .skip)) (.seq (.seq z425r13 (.cond (.t 43) (.seq z425r14 .ret) .skip)) (.seq z425r15 (.seq (.seq z425r16 (.cond (.t 57) (.seq z425r17 .ret) .skip)) (.seq z425r18 (.seq z425r19 (.seq (.seq z425r20 (.cond (.t 62) (.seq z425r21 .ret) .skip)) (.seq (.seq z425r22 (.cond (.t 65) (.seq z425r23 .ret) .skip)) (.seq z425r24 .ret))))))))))))))))))⟩
def z48r0:IC:=.reg [⟨some 2, none,.box (.t 0)⟩,⟨some 3, none,.box (.t 1)⟩,⟨some 4, none,.asg (.c (.bool false))⟩] [2,3] []
def z48r1:IC:=.reg [⟨some 5, none,.fadr 0 (.t 2)⟩,⟨some 6, none,.load false 1 (.t 5)⟩,⟨some 7, none,.fadr 0 (.t 3)⟩,⟨some 8, none,.load false 1 (.t 7)⟩,⟨some 9, none,.bin .neq (.t 6) (.t 8)⟩] [2,3,9] []
def z48r2:IC:=.reg [⟨some 4, none,.asg (.c (.bool false))⟩] [4] []
def z48r3:IC:=.reg [⟨some 10, none,.fadr 1 (.t 2)⟩,⟨some 11, none,.load false 1 (.t 10)⟩,⟨some 12, none,.fadr 1 (.t 3)⟩,⟨some 13, none,.load false 1 (.t 12)⟩,⟨some 14, none,.bin .neq (.t 11) (.t 13)⟩] [14] []
def z48r4:IC:=.reg [⟨some 4, none,.asg (.c (.bool false))⟩] [4] []
def z48r5:IC:=.reg [⟨some 4, none,.asg (.c (.bool true))⟩] [4] []
def zi48:IFun:=⟨[.t 4],[],(.seq z48r0 (.seq (.seq z48r1 (.cond (.t 9) (.seq z48r2 .ret) .skip)) (.seq (.seq z48r3 (.cond (.t 14) (.seq z48r4 .ret) .skip)) (.seq z48r5 .ret))))⟩
def z49r0:IC:=.reg [⟨some 4, none,.asg (.c (.bool false))⟩] [0,1] []
def z49r1:IC:=.reg [⟨some 6, none,.mv (.t 0)⟩,⟨some 7, none,.len (.t 6)⟩,⟨some 8, none,.mv (.t 1)⟩,⟨some 9, none,.len (.t 8)⟩,⟨some 10, none,.bin .neq (.t 7) (.t 9)⟩] [0,1,10] []
def z49r2:IC:=.reg [⟨some 4, none,.asg (.c (.bool false))⟩] [4] []
def z49r3:IC:=.reg [⟨some 5, none,.asg (.c (vi 0))⟩] [0,1,5] []
def z49r4:IC:=.reg [⟨some 11, none,.mv (.t 5)⟩,⟨some 12, none,.mv (.t 0)⟩,⟨some 13, none,.len (.t 12)⟩,⟨some 14, none,.bin .lss (.t 11) (.t 13)⟩] [0,1,5,14] []
def z49r5:IC:=.reg [⟨some 17, none,.mv (.t 0)⟩,⟨some 18, none,.mv (.t 5)⟩,⟨some 19, none,.iadr 2 (.t 17) (.t 18)⟩,⟨some 20, none,.load true 2 (.t 19)⟩,⟨some 21, none,.mv (.t 1)⟩,⟨some 22, none,.mv (.t 5)⟩,⟨some 23, none,.iadr 2 (.t 21) (.t 22)⟩,⟨some 24, none,.load true 2 (.t 23)⟩,⟨some 25, none,.call zl48 [(.val,(.t 20)),(.val,(.t 24))] true⟩,⟨some 26, none,.unop .not (.t 25)⟩] [0,1,5,26] []
def z49r6:IC:=.reg [⟨some 4, none,.asg (.c (.bool false))⟩] [4] []
def z49r7:IC:=.reg [⟨some 15, none,.mv (.t 5)⟩,⟨some 16, none,.bin .add (.t 15) (.c (vi 1))⟩,⟨some 5, none,.asg (.t 16)⟩] [0,1,5] []
def z49l8:IC:=(.seq (.seq z49r4 (.cond (.t 14) .skip (.exit 0))) (.seq (.block 1 (.seq z49r5 (.cond (.t 26) (.seq z49r6 .ret) .skip))) z49r7))
def z49r9:IC:=.reg [⟨some 4, none,.asg (.c (.bool true))⟩] [4] []
def zi49:IFun:=⟨[.t 4],[],(.seq z49r0 (.seq (.seq z49r1 (.cond (.t 10) (.seq z49r2 .ret) .skip)) (.seq (.seq z49r3 (.block 0 (.loop z49l8))) (.seq z49r9 .ret))))⟩
def z50r0:IC:=.reg [⟨some 2, none,.box (.t 0)⟩,⟨some 3, none,.box (.t 1)⟩,⟨some 4, none,.asg (.c (.bool false))⟩] [2,3] []
def z50r1:IC:=.reg [⟨some 5, none,.fadr 0 (.t 2)⟩,⟨some 6, none,.load false 1 (.t 5)⟩,⟨some 7, none,.fadr 0 (.t 3)⟩,⟨some 8, none,.load false 1 (.t 7)⟩,⟨some 9, none,.bin .neq (.t 6) (.t 8)⟩] [2,3,9] []
def z50r2:IC:=.reg [⟨some 4, none,.asg (.c (.bool false))⟩] [4] []
def z50r3:IC:=.reg [⟨some 10, none,.fadr 1 (.t 2)⟩,⟨some 11, none,.load false 1 (.t 10)⟩,⟨some 12, none,.fadr 1 (.t 3)⟩,⟨some 13, none,.load false 1 (.t 12)⟩,⟨some 14, none,.call zl49 [(.rd,(.t 11)),(.rd,(.t 13))] true⟩,⟨some 15, none,.unop .not (.t 14)⟩] [15] []
def z50r4:IC:=.reg [⟨some 4, none,.asg (.c (.bool false))⟩] [4] []
def z50r5:IC:=.reg [⟨some 4, none,.asg (.c (.bool true))⟩] [4] []
def zi50:IFun:=⟨[.t 4],[],(.seq z50r0 (.seq (.seq z50r1 (.cond (.t 9) (.seq z50r2 .ret) .skip)) (.seq (.seq z50r3 (.cond (.t 15) (.seq z50r4 .ret) .skip)) (.seq z50r5 .ret))))⟩
def z239r0:IC:=.reg [⟨some 4, none,.asg (.c (vi 0))⟩] [0,1] []
def z239r1:IC:=.reg [⟨some 5, none,.asg (.c (vi 0))⟩] [0,1,5] []
def z239r2:IC:=.reg [⟨some 6, none,.mv (.t 5)⟩,⟨some 7, none,.mv (.t 0)⟩,⟨some 8, none,.len (.t 7)⟩,⟨some 9, none,.bin .lss (.t 6) (.t 8)⟩] [0,1,5,9] []
def z239r3:IC:=.reg [⟨some 12, none,.mv (.t 0)⟩,⟨some 13, none,.mv (.t 5)⟩,⟨some 14, none,.iadr 2 (.t 12) (.t 13)⟩,⟨some 15, none,.fadr 0 (.t 14)⟩,⟨some 16, none,.load false 1 (.t 15)⟩,⟨some 17, none,.mv (.t 1)⟩,⟨some 18, none,.bin .neq (.t 16) (.t 17)⟩] [0,1,5,18] []
def z239r4:IC:=.reg [⟨some 4, none,.asg (.c (vi (-1)))⟩] [4] []
def z239r5:IC:=.reg [⟨some 19, none,.mv (.t 1)⟩,⟨some 20, none,.bin .add (.t 19) (.c (vi 1))⟩,⟨some 1, none,.asg (.t 20)⟩] [0,1,5] []
def z239r6:IC:=.reg [⟨some 21, none,.mv (.t 0)⟩,⟨some 22, none,.mv (.t 5)⟩,⟨some 23, none,.iadr 2 (.t 21) (.t 22)⟩,⟨some 24, none,.fadr 1 (.t 23)⟩,⟨some 25, none,.load false 1 (.t 24)⟩,⟨some 26, none,.mv (.t 1)⟩,⟨some 27, none,.bin .neq (.t 25) (.t 26)⟩] [0,1,5,27] []
def z239r7:IC:=.reg [⟨some 4, none,.asg (.c (vi (-1)))⟩] [4] []
def z239r8:IC:=.reg [⟨some 28, none,.mv (.t 1)⟩,⟨some 29, none,.bin .add (.t 28) (.c (vi 1))⟩,⟨some 1, none,.asg (.t 29)⟩] [0,1,5] []
def z239r9:IC:=.reg [⟨some 10, none,.mv (.t 5)⟩,⟨some 11, none,.bin .add (.t 10) (.c (vi 1))⟩,⟨some 5, none,.asg (.t 11)⟩] [0,1,5] []
def z239l10:IC:=(.seq (.seq z239r2 (.cond (.t 9) .skip (.exit 0))) (.seq (.block 1 (.seq (.seq z239r3 (.cond (.t 18) (.seq z239r4 .ret) .skip)) (.seq z239r5 (.seq (.seq z239r6 (.cond (.t 27) (.seq z239r7 .ret) .skip)) z239r8)))) z239r9))
def z239r11:IC:=.reg [⟨some 30, none,.mv (.t 1)⟩,⟨some 4, none,.asgm (.t 30)⟩] [4] []
def zi239:IFun:=⟨[.t 4],[],(.seq z239r0 (.seq (.seq z239r1 (.block 0 (.loop z239l10))) (.seq z239r11 .ret)))⟩
def z240r0:IC:=.reg [⟨some 2, none,.box (.t 0)⟩,⟨some 4, none,.asg (.c (vi 0))⟩] [1,2] []
def z240r1:IC:=.reg [⟨some 5, none,.fadr 1 (.t 2)⟩,⟨some 6, none,.load false 1 (.t 5)⟩,⟨some 7, none,.mv (.t 1)⟩,⟨some 8, none,.call zl239 [(.rd,(.t 6)),(.val,(.t 7))] true⟩,⟨some 1, none,.asg (.t 8)⟩] [1] []
def z240r2:IC:=.reg [⟨some 9, none,.mv (.t 1)⟩,⟨some 10, none,.bin .lss (.t 9) (.c (vi 0))⟩] [1,10] []
def z240r3:IC:=.reg [⟨some 4, none,.asg (.c (vi (-1)))⟩] [4] []
def z240r4:IC:=.reg [⟨some 11, none,.mv (.t 1)⟩,⟨some 4, none,.asgm (.t 11)⟩] [4] []
def zi240:IFun:=⟨[.t 4],[],(.seq z240r0 (.seq z240r1 (.seq (.seq z240r2 (.cond (.t 10) (.seq z240r3 .ret) .skip)) (.seq z240r4 .ret))))⟩
def z56r0:IC:=.reg [⟨some 4, none,.asg (.c (vi 0))⟩] [0,1] []
def z56r1:IC:=.reg [⟨some 5, none,.asg (.c (vi 0))⟩] [0,1,5] []
def z56r2:IC:=.reg [⟨some 6, none,.mv (.t 5)⟩,⟨some 7, none,.mv (.t 0)⟩,⟨some 8, none,.len (.t 7)⟩,⟨some 9, none,.bin .lss (.t 6) (.t 8)⟩] [0,1,5,9] []
def z56r3:IC:=.reg [⟨some 12, none,.mv (.t 0)⟩,⟨some 13, none,.mv (.t 5)⟩,⟨some 14, none,.mv (.t 1)⟩,⟨some 15, none,.iadr 2 (.t 12) (.t 13)⟩,⟨some 16, none,.fadr 0 (.t 15)⟩,⟨none,none,.store 1 (.t 16) (.t 14)⟩] [0,1,5] []
def z56r4:IC:=.reg [⟨some 17, none,.mv (.t 1)⟩,⟨some 18, none,.bin .add (.t 17) (.c (vi 1))⟩,⟨some 1, none,.asg (.t 18)⟩] [0,1,5] []
def z56r5:IC:=.reg [⟨some 19, none,.mv (.t 0)⟩,⟨some 20, none,.mv (.t 5)⟩,⟨some 21, none,.mv (.t 1)⟩,⟨some 22, none,.iadr 2 (.t 19) (.t 20)⟩,⟨some 23, none,.fadr 1 (.t 22)⟩,⟨none,none,.store 1 (.t 23) (.t 21)⟩] [0,1,5] []
def z56r6:IC:=.reg [⟨some 24, none,.mv (.t 1)⟩,⟨some 25, none,.bin .add (.t 24) (.c (vi 1))⟩,⟨some 1, none,.asg (.t 25)⟩] [0,1,5] []
def z56r7:IC:=.reg [⟨some 10, none,.mv (.t 5)⟩,⟨some 11, none,.bin .add (.t 10) (.c (vi 1))⟩,⟨some 5, none,.asg (.t 11)⟩] [0,1,5] []
def z56l8:IC:=(.seq (.seq z56r2 (.cond (.t 9) .skip (.exit 0))) (.seq (.block 1 (.seq z56r3 (.seq z56r4 (.seq z56r5 z56r6)))) z56r7))
def z56r9:IC:=.reg [⟨some 26, none,.mv (.t 1)⟩,⟨some 4, none,.asgm (.t 26)⟩] [0,4] []
def zi56:IFun:=⟨[.t 4],[0],(.seq z56r0 (.seq (.seq z56r1 (.block 0 (.loop z56l8))) (.seq z56r9 .ret)))⟩
def z57r0:List IOp:=[⟨some 2, none,.box (.t 0)⟩,⟨some 4, none,.asg (.c (vi 0))⟩]
def z57r1:List IOp:=[⟨some 5, none,.fadr 1 (.t 2)⟩,⟨some 6, none,.load false 1 (.t 5)⟩,⟨some 7, none,.mv (.t 1)⟩,⟨some 8, none,.callm zl56 (.t 6) (.t 7)⟩,⟨some 1, none,.asg (.t 8)⟩]
def z57r2:IC:=.reg [⟨some 9, none,.mv (.t 1)⟩,⟨some 4, none,.asgm (.t 9)⟩] [0,4] []
def zi57:IFun:=⟨[.t 4],[0],(.ubx z57r0 z57r1 [0,1] (.seq z57r2 .ret))⟩
def z258r0:IC:=.reg [⟨some 2, none,.asg (.c (.slice none 0 0))⟩] [0] []
def z258r1:IC:=.reg [⟨some 3, none,.mv (.t 0)⟩,⟨some 4, none,.mv (.t 0)⟩,⟨some 5, none,.len (.t 4)⟩,⟨some 6, none,.mv (.t 0)⟩,⟨some 7, none,.len (.t 6)⟩,⟨some 8, none,.slc 2 (.t 3) none (some (.t 5)) (some (.t 7))⟩,⟨some 2, none,.asgm (.t 8)⟩] [0,2] []
def zi258:IFun:=⟨[.t 2],[],(.seq z258r0 (.seq z258r1 .ret))⟩
def z70r0:IC:=.reg [⟨some 2, none,.asg (.c (.slice none 0 0))⟩] [0] []
def z70r1:IC:=.reg [⟨some 3, none,.mv (.t 0)⟩,⟨some 4, none,.mv (.t 0)⟩,⟨some 5, none,.len (.t 4)⟩,⟨some 6, none,.mv (.t 0)⟩,⟨some 7, none,.len (.t 6)⟩,⟨some 8, none,.slc 1 (.t 3) none (some (.t 5)) (some (.t 7))⟩,⟨some 2, none,.asgm (.t 8)⟩] [0,2] []
def zi70:IFun:=⟨[.t 2],[],(.seq z70r0 (.seq z70r1 .ret))⟩
def z261r0:IC:=.reg [⟨some 2, none,.nilo 2⟩] [0] []
def z261r1:List IOp:=[⟨some 3, none,.mv (.t 0)⟩]
def z261r2:IC:=.reg [⟨some 2, none,.nilo 2⟩] [2] []
def z261r3:IC:=.reg [⟨some 5, none,.bsl 2 [(vi 0),(vi 0)] 0 []⟩,⟨some 6, none,.mv (.t 0)⟩,⟨some 7, none,.app 2 (.t 5) (.t 6)⟩,⟨some 2, none,.asg (.t 7)⟩] [2] []
def zi261:IFun:=⟨[.t 2],[],(.seq z261r0 (.nilc2 z261r1 (.t 3) 4 [0,4] (.cond (.t 4) (.seq z261r2 .ret) .skip) (.seq z261r3 .ret)))⟩
def z323r0:IC:=.reg [⟨some 2, none,.alloc [(vi 0),(.slice none 0 0)]⟩,⟨some 3, none,.asg (.c (.bool false))⟩] [0,2] []
def z323r1:IC:=.reg [⟨some 7, none,.mv (.t 0)⟩,⟨some 8, none,.call zl367 [(.val,(.t 7))] true⟩,⟨some 6, none,.asg (.t 8)⟩,⟨some 9, none,.extr (.t 6) 0⟩,⟨some 10, none,.extr (.t 6) 1⟩,⟨some 4, none,.alloc [(vi 0),(.slice none 0 0)]⟩,⟨none,none,.store 2 (.t 4) (.t 9)⟩,⟨some 5, none,.asg (.t 10)⟩] [2,4,5] []
def z323r2:IC:=.reg [⟨some 11, none,.mv (.t 5)⟩,⟨some 12, none,.unop .not (.t 11)⟩] [2,4,12] []
def z323r3:IC:=.reg [⟨some 13, none,.build [(vi 0),(.slice none 0 0)] []⟩,⟨none,none,.store 2 (.t 2) (.t 13)⟩,⟨some 3, none,.asg (.c (.bool false))⟩] [2,3] []
def z323r4:IC:=.reg [⟨some 14, none,.load true 2 (.t 4)⟩,⟨none,none,.store 2 (.t 2) (.t 14)⟩,⟨some 3, none,.asg (.c (.bool true))⟩] [2,3] []
def zi323:IFun:=⟨[.c 2 2 true,.t 3],[],(.seq z323r0 (.seq z323r1 (.seq (.seq z323r2 (.cond (.t 12) (.seq z323r3 .ret) .skip)) (.seq z323r4 .ret))))⟩
def z347r0:IC:=.reg [⟨some 2, none,.asg (.c (.string ByteArray.empty))⟩] [0] []
def z347r1:IC:=.reg [⟨some 3, none,.mv (.t 0)⟩,⟨some 4, none,.mv (.t 0)⟩,⟨some 5, none,.bin .add (.t 4) (.c (vi 1))⟩,⟨some 6, none,.slcs (.c (.string ⟨#[48,49,50,51,52,53,54,55,56,57]⟩)) (some (.t 3)) (some (.t 5))⟩,⟨some 2, none,.asg (.t 6)⟩] [2] []
def zi347:IFun:=⟨[.t 2],[],(.seq z347r0 (.seq z347r1 .ret))⟩
def z126r0:IC:=.reg [⟨some 2, none,.box (.t 0)⟩,⟨some 3, none,.box (.t 1)⟩,⟨some 4, none,.asg (.c (.bool false))⟩] [2,3] []
def z126r1:IC:=.reg [⟨some 5, none,.fadr 0 (.t 2)⟩,⟨some 6, none,.load false 1 (.t 5)⟩,⟨some 7, none,.fadr 0 (.t 3)⟩,⟨some 8, none,.load false 1 (.t 7)⟩,⟨some 9, none,.bin .lss (.t 6) (.t 8)⟩,⟨some 10, none,.asg (.t 9)⟩,⟨some 11, (some (10,false)),.fadr 0 (.t 2)⟩,⟨some 12, (some (10,false)),.load false 1 (.t 11)⟩,⟨some 13, (some (10,false)),.fadr 0 (.t 3)⟩,⟨some 14, (some (10,false)),.load false 1 (.t 13)⟩,⟨some 15, (some (10,false)),.bin .eql (.t 12) (.t 14)⟩,⟨some 16, (some (10,false)),.asg (.t 15)⟩,⟨some 17, (some (16,true)),.fadr 1 (.t 2)⟩,⟨some 18, (some (16,true)),.load false 1 (.t 17)⟩,⟨some 19, (some (16,true)),.fadr 1 (.t 3)⟩,⟨some 20, (some (16,true)),.load false 1 (.t 19)⟩,⟨some 21, (some (16,true)),.bin .lss (.t 18) (.t 20)⟩,⟨some 22, (some (10,false)),.pick (.t 16) (.t 21) (.c (.bool false))⟩,⟨some 23, none,.pick (.t 10) (.c (.bool true)) (.t 22)⟩,
    ⟨some 4, none,.asg (.t 23)⟩] [4] []
def zi126:IFun:=⟨[.t 4],[],(.seq z126r0 (.seq z126r1 .ret))⟩
def z352r0:IC:=.reg [⟨some 1, none,.box (.t 0)⟩,⟨some 2, none,.asg (.c (.string ByteArray.empty))⟩] [1] []
def z352r1:IC:=.reg [⟨some 5, none,.fadr 0 (.t 1)⟩,⟨some 6, none,.load false 1 (.t 5)⟩,⟨some 7, none,.call zl347 [(.val,(.t 6))] true⟩,⟨some 8, none,.bin .add (.t 7) (.c (.string ⟨#[58]⟩))⟩,⟨some 3, none,.asg (.t 8)⟩] [1,3] []
def z352r2:IC:=.reg [⟨some 4, none,.asg (.c (vi 0))⟩] [1,3,4] []
def z352r3:IC:=.reg [⟨some 9, none,.mv (.t 4)⟩,⟨some 10, none,.fadr 1 (.t 1)⟩,⟨some 11, none,.load false 1 (.t 10)⟩,⟨some 12, none,.len (.t 11)⟩,⟨some 13, none,.bin .lss (.t 9) (.t 12)⟩] [1,3,4,13] []
def z352r4:IC:=.reg [⟨some 16, none,.mv (.t 4)⟩,⟨some 17, none,.bin .gtr (.t 16) (.c (vi 0))⟩] [1,3,4,17] []
def z352r5:IC:=.reg [⟨some 18, none,.mv (.t 3)⟩,⟨some 19, none,.bin .add (.t 18) (.c (.string ⟨#[44]⟩))⟩,⟨some 3, none,.asg (.t 19)⟩] [1,3,4] []
def z352r6:IC:=.reg [⟨some 20, none,.mv (.t 3)⟩,⟨some 21, none,.fadr 1 (.t 1)⟩,⟨some 22, none,.load false 1 (.t 21)⟩,⟨some 23, none,.mv (.t 4)⟩,⟨some 24, none,.iadr 2 (.t 22) (.t 23)⟩,⟨some 25, none,.fadr 0 (.t 24)⟩,⟨some 26, none,.load false 1 (.t 25)⟩,⟨some 27, none,.call zl347 [(.val,(.t 26))] true⟩,⟨some 28, none,.bin .add (.t 20) (.t 27)⟩,⟨some 29, none,.fadr 1 (.t 1)⟩,⟨some 30, none,.load false 1 (.t 29)⟩,⟨some 31, none,.mv (.t 4)⟩,⟨some 32, none,.iadr 2 (.t 30) (.t 31)⟩,⟨some 33, none,.fadr 1 (.t 32)⟩,⟨some 34, none,.load false 1 (.t 33)⟩,⟨some 35, none,.call zl347 [(.val,(.t 34))] true⟩,⟨some 36, none,.bin .add (.t 28) (.t 35)⟩,⟨some 3, none,.asg (.t 36)⟩] [1,3,4] [[0,1,2,3,4,5,6,9,10,7,8,11,12,13,14,15,16,17],[0,1,2,3,4,5,6,9,10,11,12,13,14,7,8,15,16,17]]
def z352r7:IC:=.reg [⟨some 14, none,.mv (.t 4)⟩,⟨some 15, none,.bin .add (.t 14) (.c (vi 1))⟩,⟨some 4, none,.asg (.t 15)⟩] [1,3,4] []
def z352l8:IC:=(.seq (.seq z352r3 (.cond (.t 13) .skip (.exit 0))) (.seq (.block 1 (.seq (.seq z352r4 (.cond (.t 17) z352r5 .skip)) z352r6)) z352r7))
def z352r9:IC:=.reg [⟨some 37, none,.mv (.t 3)⟩,⟨some 2, none,.asgm (.t 37)⟩] [2] []
def zi352:IFun:=⟨[.t 2],[],(.seq z352r0 (.seq z352r1 (.seq (.seq z352r2 (.block 0 (.loop z352l8))) (.seq z352r9 .ret))))⟩
def z132r0:IC:=.reg [⟨some 6, none,.asg (.c (.bool false))⟩] [0,1,2] []
def z132r1:IC:=.reg [⟨some 7, none,.mv (.t 1)⟩,⟨some 8, none,.mv (.t 0)⟩,⟨some 9, none,.bin .leq (.t 7) (.t 8)⟩,⟨some 10, none,.asg (.t 9)⟩,⟨some 11, (some (10,true)),.mv (.t 0)⟩,⟨some 12, (some (10,true)),.mv (.t 2)⟩,⟨some 13, (some (10,true)),.bin .leq (.t 11) (.t 12)⟩,⟨some 14, none,.pick (.t 10) (.t 13) (.c (.bool false))⟩,⟨some 6, none,.asg (.t 14)⟩] [6] []
def zi132:IFun:=⟨[.t 6],[],(.seq z132r0 (.seq z132r1 .ret))⟩
def z367r0:IC:=.reg [⟨some 2, none,.alloc [(vi 0),(.slice none 0 0)]⟩,⟨some 3, none,.asg (.c (.bool false))⟩] [0,2] []
def z367r1:IC:=.reg [⟨some 6, none,.mv (.t 0)⟩,⟨some 7, none,.lens (.t 6)⟩,⟨some 8, none,.bin .lss (.t 7) (.c (vi 2))⟩] [0,2,8] []
def z367r2:IC:=.reg [⟨some 9, none,.build [(vi 0),(.slice none 0 0)] []⟩,⟨none,none,.store 2 (.t 2) (.t 9)⟩,⟨some 3, none,.asg (.c (.bool false))⟩] [2,3] []
def z367r3:IC:=.reg [⟨some 10, none,.mv (.t 0)⟩,⟨some 11, none,.idxs (.t 10) (.c (vi 0))⟩,⟨some 12, none,.conv .i64 (.t 11)⟩,⟨some 13, none,.bin .sub (.t 12) (.c (vi 48))⟩,⟨some 14, none,.bsl 2 [(vi 0),(vi 0)] 0 []⟩,⟨some 15, none,.build [(vi 0),(.slice none 0 0)] [(0,1,(.t 13)),(1,1,(.t 14))]⟩,⟨some 4, none,.alloc [(vi 0),(.slice none 0 0)]⟩,⟨none,none,.store 2 (.t 4) (.t 15)⟩] [0,2,4] []
def z367r4:IC:=.reg [⟨some 5, none,.asg (.c (vi 2))⟩] [0,2,4,5] []
def z367r5:IC:=.reg [⟨some 16, none,.mv (.t 5)⟩,⟨some 17, none,.bin .add (.t 16) (.c (vi 1))⟩,⟨some 18, none,.mv (.t 0)⟩,⟨some 19, none,.lens (.t 18)⟩,⟨some 20, none,.bin .lss (.t 17) (.t 19)⟩] [0,2,4,5,20] []
def z367r6:IC:=.reg [⟨some 23, none,.fadr 1 (.t 4)⟩,⟨some 24, none,.load false 1 (.t 23)⟩,⟨some 25, none,.mv (.t 0)⟩,⟨some 26, none,.mv (.t 5)⟩,⟨some 27, none,.idxs (.t 25) (.t 26)⟩,⟨some 28, none,.conv .i64 (.t 27)⟩,⟨some 29, none,.bin .sub (.t 28) (.c (vi 48))⟩,⟨some 30, none,.mv (.t 0)⟩,⟨some 31, none,.mv (.t 5)⟩,⟨some 32, none,.bin .add (.t 31) (.c (vi 1))⟩,⟨some 33, none,.idxs (.t 30) (.t 32)⟩,⟨some 34, none,.conv .i64 (.t 33)⟩,⟨some 35, none,.bin .sub (.t 34) (.c (vi 48))⟩,⟨some 36, none,.build [(vi 0),(vi 0)] [(0,1,(.t 29)),(1,1,(.t 35))]⟩,⟨some 37, none,.bsl 2 [(vi 0),(vi 0)] 1 [(0,(.t 36))]⟩,⟨some 38, none,.app 2 (.t 24) (.t 37)⟩,⟨some 39, none,.fadr 1 (.t 4)⟩,⟨none,none,.store 1 (.t 39) (.t 38)⟩] [0,2,4,5] [[0,2,3,4,5,6,7,8,9,10,11,12,13,1,14,15,16,17],[0,2,3,4,5,6,7,8,9,10,11,12,13,14,1,15,16,17]]
def z367r7:IC:=.reg [⟨some 21, none,.mv (.t 5)⟩,⟨some 22, none,.bin .add (.t 21) (.c (vi 3))⟩,⟨some 5, none,.asg (.t 22)⟩] [0,2,4,5] []
def z367l8:IC:=(.seq (.seq z367r5 (.cond (.t 20) .skip (.exit 0))) (.seq (.block 1 z367r6) z367r7))
def z367r9:IC:=.reg [⟨some 40, none,.load true 2 (.t 4)⟩,⟨some 41, none,.load true 2 (.t 4)⟩,⟨some 42, none,.call zl145 [(.rd,(.t 41))] true⟩,⟨some 43, none,.asg (.t 42)⟩,⟨some 44, (some (43,true)),.load true 2 (.t 4)⟩,⟨some 45, (some (43,true)),.call zl352 [(.rd,(.t 44))] true⟩,⟨some 46, (some (43,true)),.mv (.t 0)⟩,⟨some 47, (some (43,true)),.bin .eql (.t 45) (.t 46)⟩,⟨some 48, none,.pick (.t 43) (.t 47) (.c (.bool false))⟩,⟨none,none,.store 2 (.t 2) (.t 40)⟩,⟨some 3, none,.asg (.t 48)⟩] [2,3] [[1,2,0,3,4,5,6,7,8,9,10],[1,2,3,0,4,5,6,7,8,9,10],[1,2,3,4,5,0,6,7,8,9,10]]
def zi367:IFun:=⟨[.c 2 2 true,.t 3],[],(.seq z367r0 (.seq (.seq z367r1 (.cond (.t 8) (.seq z367r2 .ret) .skip)) (.seq z367r3 (.seq (.seq z367r4 (.block 0 (.loop z367l8))) (.seq z367r9 .ret)))))⟩
def z145r0:IC:=.reg [⟨some 1, none,.box (.t 0)⟩,⟨some 2, none,.asg (.c (.bool false))⟩] [1] []
def z145r1:IC:=.reg [⟨some 3, none,.asg (.c (vi 0))⟩] [1,3] []
def z145r2:IC:=.reg [⟨some 5, none,.mv (.t 3)⟩,⟨some 6, none,.fadr 1 (.t 1)⟩,⟨some 7, none,.load false 1 (.t 6)⟩,⟨some 8, none,.len (.t 7)⟩,⟨some 9, none,.bin .lss (.t 5) (.t 8)⟩] [1,3,9] []
def z145r3:IC:=.reg [⟨some 12, none,.fadr 1 (.t 1)⟩,⟨some 13, none,.load false 1 (.t 12)⟩,⟨some 14, none,.mv (.t 3)⟩,⟨some 15, none,.iadr 2 (.t 13) (.t 14)⟩,⟨some 16, none,.load true 2 (.t 15)⟩,⟨some 4, none,.alloc [(vi 0),(vi 0)]⟩,⟨none,none,.store 2 (.t 4) (.t 16)⟩] [1,3,4] []
def z145r4:IC:=.reg [⟨some 17, none,.fadr 0 (.t 4)⟩,⟨some 18, none,.load false 1 (.t 17)⟩,⟨some 19, none,.bin .lss (.t 18) (.c (vi 0))⟩,⟨some 20, none,.asg (.t 19)⟩,⟨some 21, (some (20,false)),.fadr 0 (.t 4)⟩,⟨some 22, (some (20,false)),.load false 1 (.t 21)⟩,⟨some 23, (some (20,false)),.fadr 1 (.t 4)⟩,⟨some 24, (some (20,false)),.load false 1 (.t 23)⟩,⟨some 25, (some (20,false)),.bin .geq (.t 22) (.t 24)⟩,⟨some 26, none,.pick (.t 20) (.c (.bool true)) (.t 25)⟩,⟨some 27, none,.asg (.t 26)⟩,⟨some 28, (some (27,false)),.fadr 1 (.t 4)⟩,⟨some 29, (some (27,false)),.load false 1 (.t 28)⟩,⟨some 30, (some (27,false)),.fadr 0 (.t 1)⟩,⟨some 31, (some (27,false)),.load false 1 (.t 30)⟩,⟨some 32, (some (27,false)),.bin .geq (.t 29) (.t 31)⟩,⟨some 33, none,.pick (.t 27) (.c (.bool true)) (.t 32)⟩,⟨some 34, none,.asg (.t 33)⟩,⟨some 35, (some (34,false)),.mv (.t 3)⟩,
    ⟨some 36, (some (34,false)),.bin .gtr (.t 35) (.c (vi 0))⟩,⟨some 37, (some (34,false)),.asg (.t 36)⟩,⟨some 38, (some (37,true)),.fadr 1 (.t 1)⟩,⟨some 39, (some (37,true)),.load false 1 (.t 38)⟩,⟨some 40, (some (37,true)),.mv (.t 3)⟩,⟨some 41, (some (37,true)),.bin .sub (.t 40) (.c (vi 1))⟩,⟨some 42, (some (37,true)),.iadr 2 (.t 39) (.t 41)⟩,⟨some 43, (some (37,true)),.load true 2 (.t 42)⟩,⟨some 44, (some (37,true)),.load true 2 (.t 4)⟩,⟨some 45, (some (37,true)),.call zl126 [(.val,(.t 43)),(.val,(.t 44))] true⟩,⟨some 46, (some (37,true)),.unop .not (.t 45)⟩,⟨some 47, (some (34,false)),.pick (.t 37) (.t 46) (.c (.bool false))⟩,⟨some 48, none,.pick (.t 34) (.c (.bool true)) (.t 47)⟩] [1,3,48] []
def z145r5:IC:=.reg [⟨some 2, none,.asg (.c (.bool false))⟩] [2] []
def z145r6:IC:=.reg [⟨some 10, none,.mv (.t 3)⟩,⟨some 11, none,.bin .add (.t 10) (.c (vi 1))⟩,⟨some 3, none,.asg (.t 11)⟩] [1,3] []
def z145l7:IC:=(.seq (.seq z145r2 (.cond (.t 9) .skip (.exit 0))) (.seq (.block 1 (.seq z145r3 (.seq z145r4 (.cond (.t 48) (.seq z145r5 .ret) .skip)))) z145r6))
def z145r8:IC:=.reg [⟨some 49, none,.fadr 0 (.t 1)⟩,⟨some 50, none,.load false 1 (.t 49)⟩,⟨some 51, none,.call zl132 [(.val,(.t 50)),(.val,(.c (vi 0))),(.val,(.c (vi 7)))] true⟩,⟨some 2, none,.asg (.t 51)⟩] [2] []
def zi145:IFun:=⟨[.t 2],[],(.seq z145r0 (.seq (.seq z145r1 (.block 0 (.loop z145l7))) (.seq z145r8 .ret)))⟩
def zi396:IFun:=⟨[.t 0],[],.ext ext_strings_Count⟩
def z397r0:IC:=.reg [⟨some 4, none,.asg (.c (.string ByteArray.empty))⟩,⟨some 5, none,.asg (.c (.string ByteArray.empty))⟩,⟨some 6, none,.asg (.c (.bool false))⟩] [0,1] []
def z397r1:IC:=.reg [⟨some 7, none,.mv (.t 0)⟩,⟨some 8, none,.mv (.t 1)⟩,⟨some 9, none,.call zl230 [(.val,(.t 7)),(.val,(.t 8))] true⟩,⟨some 10, none,.extr (.t 9) 0⟩,⟨some 11, none,.extr (.t 9) 1⟩,⟨some 12, none,.extr (.t 9) 2⟩,⟨some 4, none,.asg (.t 10)⟩,⟨some 5, none,.asg (.t 11)⟩,⟨some 6, none,.asg (.t 12)⟩] [4,5,6] []
def zi397:IFun:=⟨[.t 4,.t 5,.t 6],[],(.seq z397r0 (.seq z397r1 .ret))⟩
def zi398:IFun:=⟨[.t 0],[],.ext ext_strings_Index⟩
def zi399:IFun:=⟨[.t 0],[],.ext ext_strings_Join⟩
def z400r0:IC:=.reg [⟨some 4, none,.asg (.c (.slice none 0 0))⟩] [0,1] []
def z400r1:IC:=.reg [⟨some 5, none,.mv (.t 0)⟩,⟨some 6, none,.mv (.t 1)⟩,⟨some 7, none,.call zl402 [(.val,(.t 5)),(.val,(.t 6)),(.val,(.c (vi 0))),(.val,(.c (vi (-1))))] true⟩,⟨some 4, none,.asg (.t 7)⟩] [4] []
def zi400:IFun:=⟨[.t 4],[],(.seq z400r0 (.seq z400r1 .ret))⟩
def z402r0:IC:=.reg [⟨some 8, none,.asg (.c (.slice none 0 0))⟩] [0,1,2,3] []
def z402r1:IC:=.reg [⟨some 12, none,.mv (.t 3)⟩,⟨some 13, none,.bin .eql (.t 12) (.c (vi 0))⟩] [0,1,2,3,13] []
def z402r2:IC:=.reg [⟨some 8, none,.asg (.c (.slice none 0 0))⟩] [8,9] []
def z402r3:IC:=.reg [⟨some 14, none,.mv (.t 1)⟩,⟨some 15, none,.bin .eql (.t 14) (.c (.string ByteArray.empty))⟩] [0,1,2,3,15] []
def z402r4:IC:=.reg [⟨some 16, none,.mv (.t 0)⟩,⟨some 17, none,.mv (.t 3)⟩,⟨some 18, none,.call zl401 [(.val,(.t 16)),(.val,(.t 17))] true⟩,⟨some 8, none,.asg (.t 18)⟩] [8,9] []
def z402r5:IC:=.reg [⟨some 19, none,.mv (.t 3)⟩,⟨some 20, none,.bin .lss (.t 19) (.c (vi 0))⟩] [0,1,2,3,20] []
def z402r6:IC:=.reg [⟨some 21, none,.mv (.t 0)⟩,⟨some 22, none,.mv (.t 1)⟩,⟨some 23, none,.call zl396 [(.val,(.t 21)),(.val,(.t 22))] true⟩,⟨some 24, none,.bin .add (.t 23) (.c (vi 1))⟩,⟨some 3, none,.asg (.t 24)⟩] [0,1,2,3] []
def z402r7:IC:=.reg [⟨some 25, none,.mv (.t 3)⟩,⟨some 26, none,.mv (.t 0)⟩,⟨some 27, none,.lens (.t 26)⟩,⟨some 28, none,.bin .add (.t 27) (.c (vi 1))⟩,⟨some 29, none,.minmax true (.t 25) (.t 28)⟩,⟨some 3, none,.asg (.t 29)⟩] [0,1,2,3] []
def z402r8:IC:=.reg [⟨some 30, none,.mv (.t 3)⟩,⟨some 31, none,.mksl 1 [(.string ByteArray.empty)] (.t 30) (.t 30)⟩,⟨some 9, none,.asg (.t 31)⟩] [0,1,2,3,9] []
def z402r9:IC:=.reg [⟨some 32, none,.mv (.t 3)⟩,⟨some 33, none,.bin .sub (.t 32) (.c (vi 1))⟩,⟨some 3, none,.asg (.t 33)⟩] [0,1,2,3,9] []
def z402r10:IC:=.reg [⟨some 10, none,.asg (.c (vi 0))⟩] [0,1,2,3,9,10] []
def z402r11:IC:=.reg [⟨some 34, none,.mv (.t 10)⟩,⟨some 35, none,.mv (.t 3)⟩,⟨some 36, none,.bin .lss (.t 34) (.t 35)⟩] [0,1,2,3,9,10,36] []
def z402r12:IC:=.reg [⟨some 37, none,.mv (.t 0)⟩,⟨some 38, none,.mv (.t 1)⟩,⟨some 39, none,.call zl398 [(.val,(.t 37)),(.val,(.t 38))] true⟩,⟨some 11, none,.asg (.t 39)⟩] [0,1,2,3,9,10,11] []
def z402r13:IC:=.reg [⟨some 40, none,.mv (.t 11)⟩,⟨some 41, none,.bin .lss (.t 40) (.c (vi 0))⟩] [0,1,2,3,9,10,11,41] []
def z402r14:IC:=.reg [⟨some 42, none,.mv (.t 9)⟩,⟨some 43, none,.mv (.t 10)⟩,⟨some 44, none,.mv (.t 0)⟩,⟨some 45, none,.mv (.t 11)⟩,⟨some 46, none,.mv (.t 2)⟩,⟨some 47, none,.bin .add (.t 45) (.t 46)⟩,⟨some 48, none,.slcs (.t 44) none (some (.t 47))⟩,⟨some 49, none,.iadr 1 (.t 42) (.t 43)⟩,⟨none,none,.store 1 (.t 49) (.t 48)⟩] [0,1,2,3,9,10,11] []
def z402r15:IC:=.reg [⟨some 50, none,.mv (.t 0)⟩,⟨some 51, none,.mv (.t 11)⟩,⟨some 52, none,.mv (.t 1)⟩,⟨some 53, none,.lens (.t 52)⟩,⟨some 54, none,.bin .add (.t 51) (.t 53)⟩,⟨some 55, none,.slcs (.t 50) (some (.t 54)) none⟩,⟨some 0, none,.asg (.t 55)⟩] [0,1,2,3,9,10] []
def z402r16:IC:=.reg [⟨some 56, none,.mv (.t 10)⟩,⟨some 57, none,.bin .add (.t 56) (.c (vi 1))⟩,⟨some 10, none,.asg (.t 57)⟩] [0,1,2,3,9,10] []
def z402l17:IC:=(.seq (.seq z402r11 (.cond (.t 36) .skip (.exit 0))) (.block 1 (.seq z402r12 (.seq (.seq z402r13 (.cond (.t 41) (.exit 0) .skip)) (.seq z402r14 (.seq z402r15 z402r16))))))
def z402r18:IC:=.reg [⟨some 58, none,.mv (.t 9)⟩,⟨some 59, none,.mv (.t 10)⟩,⟨some 60, none,.mv (.t 0)⟩,⟨some 61, none,.iadr 1 (.t 58) (.t 59)⟩,⟨none,none,.store 1 (.t 61) (.t 60)⟩] [9,10] []
def z402r19:IC:=.reg [⟨some 62, none,.mv (.t 9)⟩,⟨some 63, none,.mv (.t 10)⟩,⟨some 64, none,.bin .add (.t 63) (.c (vi 1))⟩,⟨some 65, none,.slc 1 (.t 62) none (some (.t 64)) none⟩,⟨some 8, none,.asgm (.t 65)⟩] [8,9] []
def zi402:IFun:=⟨[.t 8],[],(.seq z402r0 (.seq (.seq z402r1 (.cond (.t 13) (.seq z402r2 .ret) .skip)) (.seq (.seq z402r3 (.cond (.t 15) (.seq z402r4 .ret) .skip)) (.seq (.seq z402r5 (.cond (.t 20) z402r6 .skip)) (.seq z402r7 (.seq z402r8 (.seq z402r9 (.seq z402r10 (.seq (.block 0 (.loop z402l17)) (.seq z402r18 (.seq z402r19 .ret)))))))))))⟩
def tbl:List (Nat×IFun):=[(zl166,zi166),(zl192,zi192),(zl26,zi26),(zl204,zi204),(zl32,zi32),(zl208,zi208),(zl38,zi38),(zl217,zi217),(zl230,zi230),(zl231,zi231),(zl425,zi425),(zl48,zi48),(zl49,zi49),(zl50,zi50),(zl239,zi239),(zl240,zi240),(zl56,zi56),(zl57,zi57),(zl258,zi258),(zl70,zi70),(zl261,zi261),(zl323,zi323),(zl347,zi347),(zl126,zi126),(zl352,zi352),(zl132,zi132),(zl367,zi367),(zl145,zi145),(zl396,zi396),(zl397,zi397),(zl398,zi398),(zl399,zi399),(zl400,zi400),(zl402,zi402)]
def tb:Tbl:=tbOf tbl
theorem zt166:tb zl166=some zi166:=by kernel_rfl
theorem zt192:tb zl192=some zi192:=by kernel_rfl
theorem zt26:tb zl26=some zi26:=by kernel_rfl
theorem zt204:tb zl204=some zi204:=by kernel_rfl
theorem zt32:tb zl32=some zi32:=by kernel_rfl
theorem zt208:tb zl208=some zi208:=by kernel_rfl
theorem zt38:tb zl38=some zi38:=by kernel_rfl
theorem zt217:tb zl217=some zi217:=by kernel_rfl
theorem zt230:tb zl230=some zi230:=by kernel_rfl
theorem zt231:tb zl231=some zi231:=by kernel_rfl
theorem zt425:tb zl425=some zi425:=by kernel_rfl
theorem zt48:tb zl48=some zi48:=by kernel_rfl
theorem zt49:tb zl49=some zi49:=by kernel_rfl
theorem zt50:tb zl50=some zi50:=by kernel_rfl
theorem zt239:tb zl239=some zi239:=by kernel_rfl
theorem zt240:tb zl240=some zi240:=by kernel_rfl
theorem zt56:tb zl56=some zi56:=by kernel_rfl
theorem zt57:tb zl57=some zi57:=by kernel_rfl
theorem zt258:tb zl258=some zi258:=by kernel_rfl
theorem zt70:tb zl70=some zi70:=by kernel_rfl
theorem zt261:tb zl261=some zi261:=by kernel_rfl
theorem zt323:tb zl323=some zi323:=by kernel_rfl
theorem zt347:tb zl347=some zi347:=by kernel_rfl
theorem zt126:tb zl126=some zi126:=by kernel_rfl
theorem zt352:tb zl352=some zi352:=by kernel_rfl
theorem zt132:tb zl132=some zi132:=by kernel_rfl
theorem zt367:tb zl367=some zi367:=by kernel_rfl
theorem zt145:tb zl145=some zi145:=by kernel_rfl
theorem zt396:tb zl396=some zi396:=by kernel_rfl
theorem zt397:tb zl397=some zi397:=by kernel_rfl
theorem zt398:tb zl398=some zi398:=by kernel_rfl
theorem zt399:tb zl399=some zi399:=by kernel_rfl
theorem zt400:tb zl400=some zi400:=by kernel_rfl
theorem zt402:tb zl402=some zi402:=by kernel_rfl
end Go.Idl
