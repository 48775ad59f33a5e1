/- Part 4 of a proof by an ideal interpreter of the code: its definitions and lemmas. Conditions: none. -/
import Derived.KernelRfl
import Derived.Test.YtbbennmmjlgmoaaDoorA3
set_option linter.all false
set_option linter.unusedVariables false
set_option linter.unusedSimpArgs false
namespace Go.Idl
open Go
abbrev vi (n:Int):Value:=.int .i64 n
abbrev zl26:Lab:=26
abbrev zl32:Lab:=32
abbrev zl38:Lab:=38
abbrev zl70:Lab:=70
abbrev zl118:Lab:=118
abbrev zl122:Lab:=122
abbrev zl126:Lab:=126
abbrev zl129:Lab:=129
abbrev zl130:Lab:=130
abbrev zl132:Lab:=132
abbrev zl137:Lab:=137
abbrev zl138:Lab:=138
abbrev zl139:Lab:=139
abbrev zl140:Lab:=140
abbrev zl145:Lab:=145
abbrev zl166:Lab:=166
abbrev zl192:Lab:=192
abbrev zl204:Lab:=204
abbrev zl208:Lab:=208
abbrev zl217:Lab:=217
abbrev zl230:Lab:=230
abbrev zl231:Lab:=231
abbrev zl237:Lab:=237
abbrev zl238:Lab:=238
abbrev zl258:Lab:=258
abbrev zl261:Lab:=261
abbrev zl310:Lab:=310
abbrev zl323:Lab:=323
abbrev zl347:Lab:=347
abbrev zl352:Lab:=352
abbrev zl364:Lab:=364
abbrev zl367:Lab:=367
abbrev zl368:Lab:=368
abbrev zl396:Lab:=396
abbrev zl397:Lab:=397
abbrev zl398:Lab:=398
abbrev zl399:Lab:=399
abbrev zl400:Lab:=400
abbrev zl401:Lab:=401
abbrev zl402:Lab:=402
abbrev zl438:Lab:=438
def z166r0:IC:=.reg [⟨some 1, none,.box (.t 0)⟩,⟨some 2, none,.asg (.c (.string ByteArray.empty))⟩] [1] []
def z166r1:IC:=.reg [⟨some 6, none,.load true 2 (.t 1)⟩,⟨some 7, none,.call zl26 [(.rd,(.t 6))] true⟩,⟨some 8, none,.unop .not (.t 7)⟩] [1,8] []
def z166r2:IC:=.reg [⟨some 2, none,.asg (.c (.string ByteArray.empty))⟩] [2] []
def z166r3:IC:=.reg [⟨some 3, none,.asg (.c (.slice none 0 0))⟩] [1,3] []
def z166r4:IC:=.reg [⟨some 9, none,.fadr 1 (.t 1)⟩,⟨some 10, none,.load false 1 (.t 9)⟩,⟨some 11, none,.len (.t 10)⟩,⟨some 12, none,.mv (.c (vi 0))⟩] [1,3,10,11,12] []
def z166r5:IC:=.reg [⟨some 13, none,.bin .lss (.t 12) (.t 11)⟩] [1,3,10,11,12,13] []
def z166r6:IC:=.reg [⟨some 14, none,.iadr 2 (.t 10) (.t 12)⟩,⟨some 15, none,.load true 2 (.t 14)⟩,⟨some 5, none,.alloc [(vi 0),(vi 0)]⟩,⟨none,none,.store 2 (.t 5) (.t 15)⟩] [1,3,5,10,11,12] []
def z166r7:IC:=.reg [⟨some 16, none,.mv (.t 3)⟩,⟨some 17, none,.fadr 0 (.t 5)⟩,⟨some 18, none,.load false 1 (.t 17)⟩,⟨some 19, none,.fadr 1 (.t 5)⟩,⟨some 20, none,.load false 1 (.t 19)⟩,⟨some 21, none,.bsl 1 [(vi 0)] 2 [(0,(.t 18)),(1,(.t 20))]⟩,⟨some 22, none,.call zl208 [(.rd,(.t 21))] true⟩,⟨some 23, none,.bsl 1 [(.string ByteArray.empty)] 1 [(0,(.t 22))]⟩,⟨some 24, none,.app 1 (.t 16) (.t 23)⟩,⟨some 3, none,.asg (.t 24)⟩] [1,3,10,11,12] []
def z166r8:IC:=.reg [⟨some 25, none,.bin .add (.t 12) (.c (vi 1))⟩,⟨some 12, none,.asg (.t 25)⟩] [1,3,10,11,12] []
def z166l9:IC:=(.seq z166r5 (.seq (.cond (.t 13) .skip (.exit 0)) (.seq (.block 1 (.seq z166r6 z166r7)) z166r8)))
def z166r10:IC:=.reg [⟨some 26, none,.fadr 0 (.t 1)⟩,⟨some 27, none,.load false 1 (.t 26)⟩,⟨some 28, none,.bsl 1 [(vi 0)] 1 [(0,(.t 27))]⟩,⟨some 29, none,.call zl208 [(.rd,(.t 28))] true⟩,⟨some 30, none,.bin .add (.t 29) (.c (.string ⟨#[58]⟩))⟩,⟨some 31, none,.mv (.t 3)⟩,⟨some 32, none,.call zl399 [(.rd,(.t 31)),(.val,(.c (.string ⟨#[44]⟩)))] true⟩,⟨some 33, none,.bin .add (.t 30) (.t 32)⟩,⟨some 2, none,.asg (.t 33)⟩] [2] []
def zi166:IFun:=⟨[.t 2],[],(.seq z166r0 (.seq (.seq z166r1 (.cond (.t 8) (.seq z166r2 .ret) .skip)) (.seq z166r3 (.seq (.seq z166r4 (.block 0 (.loop z166l9))) (.seq z166r10 .ret)))))⟩
def z192r0:IC:=.reg [⟨some 2, none,.alloc [(vi 0),(.slice none 0 0)]⟩,⟨some 3, none,.asg (.c (.bool false))⟩] [0,2] []
def z192r1:IC:=.reg [⟨some 12, none,.mv (.t 0)⟩,⟨some 13, none,.call zl397 [(.val,(.t 12)),(.val,(.c (.string ⟨#[58]⟩)))] true⟩,⟨some 11, none,.asg (.t 13)⟩,⟨some 14, none,.extr (.t 11) 0⟩,⟨some 15, none,.extr (.t 11) 1⟩,⟨some 16, none,.extr (.t 11) 2⟩,⟨some 4, none,.asg (.t 14)⟩,⟨some 5, none,.asg (.t 15)⟩,⟨some 6, none,.asg (.t 16)⟩] [0,2,4,5,6] []
def z192r2:IC:=.reg [⟨some 17, none,.mv (.t 6)⟩,⟨some 18, none,.unop .not (.t 17)⟩,⟨some 19, none,.asg (.t 18)⟩,⟨some 20, (some (19,false)),.mv (.t 4)⟩,⟨some 21, (some (19,false)),.lens (.t 20)⟩,⟨some 22, (some (19,false)),.bin .neq (.t 21) (.c (vi 1))⟩,⟨some 23, none,.pick (.t 19) (.c (.bool true)) (.t 22)⟩] [0,2,4,5,23] []
def z192r3:IC:=.reg [⟨some 24, none,.build [(vi 0),(.slice none 0 0)] []⟩,⟨none,none,.store 2 (.t 2) (.t 24)⟩,⟨some 3, none,.asg (.c (.bool false))⟩] [2,3] []
def z192r4:IC:=.reg [⟨some 25, none,.mv (.t 4)⟩,⟨some 26, none,.call zl217 [(.val,(.t 25))] true⟩,⟨some 27, none,.iadr 1 (.t 26) (.c (vi 0))⟩,⟨some 28, none,.load false 1 (.t 27)⟩,⟨some 29, none,.build [(vi 0),(.slice none 0 0)] [(0,1,(.t 28))]⟩,⟨some 7, none,.alloc [(vi 0),(.slice none 0 0)]⟩,⟨none,none,.store 2 (.t 7) (.t 29)⟩] [0,2,5,7] []
def z192r5:IC:=.reg [⟨some 30, none,.mv (.t 5)⟩,⟨some 31, none,.call zl400 [(.val,(.t 30)),(.val,(.c (.string ⟨#[44]⟩)))] true⟩,⟨some 32, none,.len (.t 31)⟩,⟨some 33, none,.mv (.c (vi 0))⟩] [0,2,7,31,32,33] []
def z192r6:IC:=.reg [⟨some 34, none,.bin .lss (.t 33) (.t 32)⟩] [0,2,7,31,32,33,34] []
def z192r7:IC:=.reg [⟨some 35, none,.iadr 1 (.t 31) (.t 33)⟩,⟨some 36, none,.load false 1 (.t 35)⟩,⟨some 9, none,.asg (.t 36)⟩] [0,2,7,9,31,32,33] []
def z192r8:IC:=.reg [⟨some 37, none,.mv (.t 9)⟩,⟨some 38, none,.call zl217 [(.val,(.t 37))] true⟩,⟨some 10, none,.asg (.t 38)⟩] [0,2,7,10,31,32,33] []
def z192r9:IC:=.reg [⟨some 39, none,.mv (.t 10)⟩,⟨some 40, none,.len (.t 39)⟩,⟨some 41, none,.bin .eql (.t 40) (.c (vi 2))⟩] [0,2,7,10,31,32,33,41] []
def z192r10:IC:=.reg [⟨some 42, none,.fadr 1 (.t 7)⟩,⟨some 43, none,.load false 1 (.t 42)⟩,⟨some 44, none,.mv (.t 10)⟩,⟨some 45, none,.iadr 1 (.t 44) (.c (vi 0))⟩,⟨some 46, none,.load false 1 (.t 45)⟩,⟨some 47, none,.mv (.t 10)⟩,⟨some 48, none,.iadr 1 (.t 47) (.c (vi 1))⟩,⟨some 49, none,.load false 1 (.t 48)⟩,⟨some 50, none,.build [(vi 0),(vi 0)] [(0,1,(.t 46)),(1,1,(.t 49))]⟩,⟨some 51, none,.bsl 2 [(vi 0),(vi 0)] 1 [(0,(.t 50))]⟩,⟨some 52, none,.app 2 (.t 43) (.t 51)⟩,⟨some 53, none,.fadr 1 (.t 7)⟩,⟨none,none,.store 1 (.t 53) (.t 52)⟩] [0,2,7,31,32,33] [[0,2,3,4,5,6,7,8,1,9,10,11,12],[0,2,3,4,5,6,7,8,9,1,10,11,12]]
def z192r11:IC:=.reg [⟨some 54, none,.bin .add (.t 33) (.c (vi 1))⟩,⟨some 33, none,.asg (.t 54)⟩] [0,2,7,31,32,33] []
def z192l12:IC:=(.seq z192r6 (.seq (.cond (.t 34) .skip (.exit 0)) (.seq (.block 1 (.seq z192r7 (.seq z192r8 (.seq z192r9 (.cond (.t 41) z192r10 .skip))))) z192r11)))
def z192r13:IC:=.reg [⟨some 55, none,.fadr 1 (.t 7)⟩,⟨some 56, none,.load false 1 (.t 55)⟩,⟨some 57, none,.call zl204 [(.rd,(.t 56))] true⟩,⟨some 58, none,.fadr 1 (.t 7)⟩,⟨none,none,.store 1 (.t 58) (.t 57)⟩] [0,2,7] []
def z192r14:IC:=.reg [⟨some 59, none,.load true 2 (.t 7)⟩,⟨some 60, none,.call zl26 [(.rd,(.t 59))] true⟩,⟨some 61, none,.unop .not (.t 60)⟩,⟨some 62, none,.asg (.t 61)⟩,⟨some 63, (some (62,false)),.load true 2 (.t 7)⟩,⟨some 64, (some (62,false)),.call zl166 [(.rd,(.t 63))] true⟩,⟨some 65, (some (62,false)),.mv (.t 0)⟩,⟨some 66, (some (62,false)),.bin .neq (.t 64) (.t 65)⟩,⟨some 67, none,.pick (.t 62) (.c (.bool true)) (.t 66)⟩] [2,7,67] []
def z192r15:IC:=.reg [⟨some 68, none,.build [(vi 0),(.slice none 0 0)] []⟩,⟨none,none,.store 2 (.t 2) (.t 68)⟩,⟨some 3, none,.asg (.c (.bool false))⟩] [2,3] []
def z192r16:IC:=.reg [⟨some 69, none,.load true 2 (.t 7)⟩,⟨none,none,.store 2 (.t 2) (.t 69)⟩,⟨some 3, none,.asg (.c (.bool true))⟩] [2,3] []
def zi192:IFun:=⟨[.c 2 2 true,.t 3],[],(.seq z192r0 (.seq z192r1 (.seq (.seq z192r2 (.cond (.t 23) (.seq z192r3 .ret) .skip)) (.seq z192r4 (.seq (.seq z192r5 (.block 0 (.loop z192l12))) (.seq z192r13 (.seq (.seq z192r14 (.cond (.t 67) (.seq z192r15 .ret) .skip)) (.seq z192r16 .ret))))))))⟩
def z26r0:IC:=.reg [⟨some 1, none,.box (.t 0)⟩,⟨some 2, none,.asg (.c (.bool false))⟩] [1] []
def z26r1:IC:=.reg [⟨some 5, none,.fadr 1 (.t 1)⟩,⟨some 6, none,.load false 1 (.t 5)⟩,⟨some 7, none,.len (.t 6)⟩,⟨some 8, none,.mv (.c (vi 0))⟩] [1,6,7,8] []
def z26r2:IC:=.reg [⟨some 9, none,.bin .lss (.t 8) (.t 7)⟩] [1,6,7,8,9] []
def z26r3:IC:=.reg [⟨some 10, none,.asg (.t 8)⟩,⟨some 11, none,.iadr 2 (.t 6) (.t 8)⟩,⟨some 12, none,.load true 2 (.t 11)⟩,⟨some 4, none,.alloc [(vi 0),(vi 0)]⟩,⟨some 3, none,.asg (.t 10)⟩,⟨none,none,.store 2 (.t 4) (.t 12)⟩] [1,3,4,6,7,8] []
def z26r4:IC:=.reg [⟨some 13, none,.fadr 0 (.t 4)⟩,⟨some 14, none,.load false 1 (.t 13)⟩,⟨some 15, none,.bin .lss (.t 14) (.c (vi 0))⟩,⟨some 16, none,.asg (.t 15)⟩,⟨some 17, (some (16,false)),.fadr 0 (.t 4)⟩,⟨some 18, (some (16,false)),.load false 1 (.t 17)⟩,⟨some 19, (some (16,false)),.fadr 1 (.t 4)⟩,⟨some 20, (some (16,false)),.load false 1 (.t 19)⟩,⟨some 21, (some (16,false)),.bin .geq (.t 18) (.t 20)⟩,⟨some 22, none,.pick (.t 16) (.c (.bool true)) (.t 21)⟩,⟨some 23, none,.asg (.t 22)⟩,⟨some 24, (some (23,false)),.fadr 1 (.t 4)⟩,⟨some 25, (some (23,false)),.load false 1 (.t 24)⟩,⟨some 26, (some (23,false)),.fadr 0 (.t 1)⟩,⟨some 27, (some (23,false)),.load false 1 (.t 26)⟩,⟨some 28, (some (23,false)),.bin .geq (.t 25) (.t 27)⟩,⟨some 29, none,.pick (.t 23) (.c (.bool true)) (.t 28)⟩,⟨some 30, none,.asg (.t 29)⟩,⟨some 31, (some (30,false)),.mv (.t 3)⟩,
    ⟨some 32, (some (30,false)),.bin .gtr (.t 31) (.c (vi 0))⟩,⟨some 33, (some (30,false)),.asg (.t 32)⟩,⟨some 34, (some (33,true)),.fadr 1 (.t 1)⟩,⟨some 35, (some (33,true)),.load false 1 (.t 34)⟩,⟨some 36, (some (33,true)),.mv (.t 3)⟩,⟨some 37, (some (33,true)),.bin .sub (.t 36) (.c (vi 1))⟩,⟨some 38, (some (33,true)),.iadr 2 (.t 35) (.t 37)⟩,⟨some 39, (some (33,true)),.load true 2 (.t 38)⟩,⟨some 40, (some (33,true)),.load true 2 (.t 4)⟩,⟨some 41, (some (33,true)),.call zl32 [(.val,(.t 39)),(.val,(.t 40))] true⟩,⟨some 42, (some (33,true)),.bin .geq (.t 41) (.c (vi 0))⟩,⟨some 43, (some (30,false)),.pick (.t 33) (.t 42) (.c (.bool false))⟩,⟨some 44, none,.pick (.t 30) (.c (.bool true)) (.t 43)⟩] [1,6,7,8,44] []
def z26r5:IC:=.reg [⟨some 2, none,.asg (.c (.bool false))⟩] [2] []
def z26r6:IC:=.reg [⟨some 45, none,.bin .add (.t 8) (.c (vi 1))⟩,⟨some 8, none,.asg (.t 45)⟩] [1,6,7,8] []
def z26l7:IC:=(.seq z26r2 (.seq (.cond (.t 9) .skip (.exit 0)) (.seq (.block 1 (.seq z26r3 (.seq z26r4 (.cond (.t 44) (.seq z26r5 .ret) .skip)))) z26r6)))
def z26r8:IC:=.reg [⟨some 46, none,.fadr 0 (.t 1)⟩,⟨some 47, none,.load false 1 (.t 46)⟩,⟨some 48, none,.call zl38 [(.val,(.t 47)),(.val,(.c (vi 0))),(.val,(.c (vi 7)))] true⟩,⟨some 2, none,.asg (.t 48)⟩] [2] []
def zi26:IFun:=⟨[.t 2],[],(.seq z26r0 (.seq (.seq z26r1 (.block 0 (.loop z26l7))) (.seq z26r8 .ret)))⟩
def z204r0:IC:=.reg [⟨some 2, none,.asg (.c (.slice none 0 0))⟩] [0] []
def z204r1:IC:=.reg [⟨some 3, none,.mv (.t 0)⟩,⟨some 4, none,.call zl261 [(.rd,(.t 3))] true⟩,⟨some 5, none,.call zl258 [(.tk,(.t 4))] true⟩,⟨some 2, none,.asg (.t 5)⟩] [2] []
def zi204:IFun:=⟨[.t 2],[],(.seq z204r0 (.seq z204r1 .ret))⟩
def z32r0:IC:=.reg [⟨some 2, none,.box (.t 0)⟩,⟨some 3, none,.box (.t 1)⟩,⟨some 4, none,.asg (.c (vi 0))⟩] [2,3] []
def z32r1:IC:=.reg [⟨some 5, none,.fadr 0 (.t 2)⟩,⟨some 6, none,.load false 1 (.t 5)⟩,⟨some 7, none,.fadr 0 (.t 3)⟩,⟨some 8, none,.load false 1 (.t 7)⟩,⟨some 9, none,.bin .neq (.t 6) (.t 8)⟩] [2,3,9] []
def z32r2:IC:=.reg [⟨some 10, none,.fadr 0 (.t 2)⟩,⟨some 11, none,.load false 1 (.t 10)⟩,⟨some 12, none,.fadr 0 (.t 3)⟩,⟨some 13, none,.load false 1 (.t 12)⟩,⟨some 14, none,.bin .sub (.t 11) (.t 13)⟩,⟨some 4, none,.asg (.t 14)⟩] [4] []
def z32r3:IC:=.reg [⟨some 15, none,.fadr 1 (.t 2)⟩,⟨some 16, none,.load false 1 (.t 15)⟩,⟨some 17, none,.fadr 1 (.t 3)⟩,⟨some 18, none,.load false 1 (.t 17)⟩,⟨some 19, none,.bin .sub (.t 16) (.t 18)⟩,⟨some 4, none,.asg (.t 19)⟩] [4] []
def zi32:IFun:=⟨[.t 4],[],(.seq z32r0 (.seq (.seq z32r1 (.cond (.t 9) (.seq z32r2 .ret) .skip)) (.seq z32r3 .ret)))⟩
def zi208:IFun:=⟨[.t 0],[],.ext ext_impl_digits⟩
def z38r0:IC:=.reg [⟨some 6, none,.asg (.c (.bool false))⟩] [0,1,2] []
def z38r1:IC:=.reg [⟨some 7, none,.mv (.t 0)⟩,⟨some 8, none,.mv (.t 1)⟩,⟨some 9, none,.bin .geq (.t 7) (.t 8)⟩,⟨some 10, none,.asg (.t 9)⟩,⟨some 11, (some (10,true)),.mv (.t 0)⟩,⟨some 12, (some (10,true)),.mv (.t 2)⟩,⟨some 13, (some (10,true)),.bin .leq (.t 11) (.t 12)⟩,⟨some 14, none,.pick (.t 10) (.t 13) (.c (.bool false))⟩,⟨some 6, none,.asg (.t 14)⟩] [6] []
def zi38:IFun:=⟨[.t 6],[],(.seq z38r0 (.seq z38r1 .ret))⟩
def z217r0:IC:=.reg [⟨some 2, none,.asg (.c (.slice none 0 0))⟩] [0] []
def z217r1:IC:=.reg [⟨some 3, none,.asg (.c (.slice none 0 0))⟩] [0,3] []
def z217r2:IC:=.reg [⟨some 6, none,.mv (.t 0)⟩,⟨some 7, none,.lens (.t 6)⟩,⟨some 8, none,.mv (.c (vi 0))⟩] [0,3,7,8] []
def z217r3:IC:=.reg [⟨some 9, none,.bin .lss (.t 8) (.t 7)⟩] [0,3,7,8,9] []
def z217r4:IC:=.reg [⟨some 10, none,.asg (.t 8)⟩,⟨some 4, none,.asg (.t 10)⟩] [0,3,4,7,8] []
def z217r5:IC:=.reg [⟨some 11, none,.mv (.t 0)⟩,⟨some 12, none,.mv (.t 4)⟩,⟨some 13, none,.idxs (.t 11) (.t 12)⟩,⟨some 14, none,.conv .i64 (.t 13)⟩,⟨some 15, none,.bin .sub (.t 14) (.c (vi 48))⟩,⟨some 5, none,.asg (.t 15)⟩] [0,3,5,7,8] []
def z217r6:IC:=.reg [⟨some 16, none,.mv (.t 5)⟩,⟨some 17, none,.bin .lss (.t 16) (.c (vi 0))⟩] [0,3,5,7,8,17] []
def z217r7:IC:=.reg [⟨some 5, none,.asg (.c (vi 99))⟩] [0,3,5,7,8] []
def z217r8:IC:=.reg [⟨some 18, none,.mv (.t 3)⟩,⟨some 19, none,.mv (.t 5)⟩,⟨some 20, none,.bsl 1 [(vi 0)] 1 [(0,(.t 19))]⟩,⟨some 21, none,.app 1 (.t 18) (.t 20)⟩,⟨some 3, none,.asg (.t 21)⟩] [0,3,7,8] []
def z217r9:IC:=.reg [⟨some 22, none,.bin .add (.t 8) (.c (vi 1))⟩,⟨some 8, none,.asg (.t 22)⟩] [0,3,7,8] []
def z217l10:IC:=(.seq z217r3 (.seq (.cond (.t 9) .skip (.exit 0)) (.seq (.block 1 (.seq z217r4 (.seq z217r5 (.seq (.seq z217r6 (.cond (.t 17) z217r7 .skip)) z217r8)))) z217r9)))
def z217r11:IC:=.reg [⟨some 23, none,.mv (.t 3)⟩,⟨some 24, none,.call zl70 [(.tk,(.t 23))] true⟩,⟨some 2, none,.asg (.t 24)⟩] [2] []
def zi217:IFun:=⟨[.t 2],[],(.seq z217r0 (.seq z217r1 (.seq (.seq z217r2 (.block 0 (.loop z217l10))) (.seq z217r11 .ret))))⟩
def z230r0:IC:=.reg [⟨some 4, none,.asg (.c (.string ByteArray.empty))⟩,⟨some 5, none,.asg (.c (.string ByteArray.empty))⟩,⟨some 6, none,.asg (.c (.bool false))⟩] [0,1] []
def z230r1:IC:=.reg [⟨some 8, none,.mv (.t 0)⟩,⟨some 9, none,.mv (.t 1)⟩,⟨some 10, none,.call zl231 [(.val,(.t 8)),(.val,(.t 9))] true⟩,⟨some 7, none,.asg (.t 10)⟩] [0,1,7] []
def z230r2:IC:=.reg [⟨some 11, none,.mv (.t 7)⟩,⟨some 12, none,.bin .geq (.t 11) (.c (vi 0))⟩] [0,1,7,12] []
def z230r3:IC:=.reg [⟨some 13, none,.mv (.t 0)⟩,⟨some 14, none,.mv (.t 7)⟩,⟨some 15, none,.slcs (.t 13) none (some (.t 14))⟩,⟨some 16, none,.mv (.t 0)⟩,⟨some 17, none,.mv (.t 7)⟩,⟨some 18, none,.mv (.t 1)⟩,⟨some 19, none,.lens (.t 18)⟩,⟨some 20, none,.bin .add (.t 17) (.t 19)⟩,⟨some 21, none,.slcs (.t 16) (some (.t 20)) none⟩,⟨some 4, none,.asg (.t 15)⟩,⟨some 5, none,.asg (.t 21)⟩,⟨some 6, none,.asg (.c (.bool true))⟩] [4,5,6] []
def z230r4:IC:=.reg [⟨some 22, none,.mv (.t 0)⟩,⟨some 4, none,.asgm (.t 22)⟩,⟨some 5, none,.asg (.c (.string ByteArray.empty))⟩,⟨some 6, none,.asg (.c (.bool false))⟩] [4,5,6] []
def zi230:IFun:=⟨[.t 4,.t 5,.t 6],[],(.seq z230r0 (.seq (.seq z230r1 (.seq z230r2 (.cond (.t 12) (.seq z230r3 .ret) .skip))) (.seq z230r4 .ret)))⟩
def zi231:IFun:=⟨[.t 0],[],.ext ext_internal_stringslite_Index⟩
def z438r0:IC:=.reg [⟨some 2, none,.asg (.c (.bool false))⟩] [0] []
def z438r1:IC:=.reg [⟨some 8, none,.mv (.t 0)⟩,⟨some 9, none,.len (.t 8)⟩,⟨some 10, none,.bin .gtr (.t 9) (.c (vi 1048576))⟩] [0,10] []
def z438r2:IC:=.reg [⟨some 2, none,.asg (.c (.bool true))⟩] [2] []
def z438r3:IC:=.reg [⟨some 11, none,.mv (.t 0)⟩,⟨some 12, none,.call zl310 [(.rd,(.t 11))] true⟩,⟨some 3, none,.asg (.t 12)⟩] [3] []
def z438r4:IC:=.reg [⟨some 14, none,.mv (.t 3)⟩,⟨some 15, none,.call zl192 [(.val,(.t 14))] true⟩,⟨some 13, none,.asg (.t 15)⟩,⟨some 16, none,.extr (.t 13) 0⟩,⟨some 17, none,.extr (.t 13) 1⟩,⟨some 4, none,.alloc [(vi 0),(.slice none 0 0)]⟩,⟨none,none,.storef 2 (.t 4) (.t 16)⟩,⟨some 5, none,.asg (.t 17)⟩] [3,4,5] []
def z438r5:IC:=.reg [⟨some 19, none,.mv (.t 3)⟩,⟨some 20, none,.call zl323 [(.val,(.t 19))] true⟩,⟨some 18, none,.asg (.t 20)⟩,⟨some 21, none,.extr (.t 18) 0⟩,⟨some 22, none,.extr (.t 18) 1⟩,⟨some 6, none,.alloc [(vi 0),(.slice none 0 0)]⟩,⟨none,none,.storef 2 (.t 6) (.t 21)⟩,⟨some 7, none,.asg (.t 22)⟩] [3,4,5,6,7] []
def z438r6:IC:=.reg [⟨some 23, none,.load true 2 (.t 4)⟩,⟨some 24, none,.load true 2 (.t 6)⟩,⟨some 25, none,.call zl238 [(.rd,(.t 23)),(.rd,(.t 24))] true⟩,⟨some 26, none,.unop .not (.t 25)⟩,⟨some 27, none,.asg (.t 26)⟩,⟨some 28, (some (27,false)),.mv (.t 5)⟩,⟨some 29, (some (27,false)),.mv (.t 7)⟩,⟨some 30, (some (27,false)),.eqb true (.t 28) (.t 29)⟩,⟨some 31, none,.pick (.t 27) (.c (.bool true)) (.t 30)⟩,⟨some 32, none,.asg (.t 31)⟩,⟨some 33, (some (32,false)),.mv (.t 5)⟩,⟨some 34, (some (32,false)),.unop .not (.t 33)⟩,⟨some 35, none,.pick (.t 32) (.c (.bool true)) (.t 34)⟩] [3,4,5,6,7,35] []
def z438r7:IC:=.reg [⟨some 36, none,.load true 2 (.t 4)⟩,⟨some 37, none,.load true 2 (.t 6)⟩,⟨some 38, none,.call zl238 [(.rd,(.t 36)),(.rd,(.t 37))] true⟩,⟨some 39, none,.asg (.t 38)⟩,⟨some 40, (some (39,true)),.mv (.t 5)⟩,⟨some 41, (some (39,true)),.mv (.t 7)⟩,⟨some 42, (some (39,true)),.eqb false (.t 40) (.t 41)⟩,⟨some 43, none,.pick (.t 39) (.t 42) (.c (.bool false))⟩,⟨some 2, none,.asg (.t 43)⟩] [2] []
def z438r8:IC:=.reg [⟨some 44, none,.load true 2 (.t 4)⟩,⟨some 45, none,.call zl166 [(.rd,(.t 44))] true⟩,⟨some 46, none,.mv (.t 3)⟩,⟨some 47, none,.bin .eql (.t 45) (.t 46)⟩,⟨some 48, none,.asg (.t 47)⟩,⟨some 49, (some (48,true)),.load true 2 (.t 4)⟩,⟨some 50, (some (48,true)),.call zl26 [(.rd,(.t 49))] true⟩,⟨some 51, none,.pick (.t 48) (.t 50) (.c (.bool false))⟩,⟨some 2, none,.asg (.t 51)⟩] [2] []
def zi438:IFun:=⟨[.t 2],[],(.seq z438r0 (.seq (.seq z438r1 (.cond (.t 10) (.seq z438r2 .ret) .skip)) (.seq z438r3 (.seq z438r4 (.seq z438r5 (.seq (.seq z438r6 (.cond (.t 35) (.seq z438r7 .ret) .skip)) (.seq z438r8 .ret)))))))⟩
def z237r0:IC:=.reg [⟨some 4, none,.asg (.c (.bool false))⟩] [0,1] []
def z237r1:IC:=.reg [⟨some 6, none,.mv (.t 0)⟩,⟨some 7, none,.len (.t 6)⟩,⟨some 8, none,.mv (.t 1)⟩,⟨some 9, none,.len (.t 8)⟩,⟨some 10, none,.bin .neq (.t 7) (.t 9)⟩] [0,1,10] []
def z237r2:IC:=.reg [⟨some 4, none,.asg (.c (.bool false))⟩] [4] []
def z237r3:IC:=.reg [⟨some 5, none,.asg (.c (vi 0))⟩] [0,1,5] []
def z237r4:IC:=.reg [⟨some 11, none,.mv (.t 5)⟩,⟨some 12, none,.mv (.t 0)⟩,⟨some 13, none,.len (.t 12)⟩,⟨some 14, none,.bin .lss (.t 11) (.t 13)⟩] [0,1,5,14] []
def z237r5:IC:=.reg [⟨some 17, none,.mv (.t 0)⟩,⟨some 18, none,.mv (.t 5)⟩,⟨some 19, none,.iadr 2 (.t 17) (.t 18)⟩,⟨some 20, none,.load true 2 (.t 19)⟩,⟨some 21, none,.mv (.t 1)⟩,⟨some 22, none,.mv (.t 5)⟩,⟨some 23, none,.iadr 2 (.t 21) (.t 22)⟩,⟨some 24, none,.load true 2 (.t 23)⟩,⟨some 25, none,.eqa true 2 (.t 20) (.t 24)⟩] [0,1,5,25] []
def z237r6:IC:=.reg [⟨some 4, none,.asg (.c (.bool false))⟩] [4] []
def z237r7:IC:=.reg [⟨some 15, none,.mv (.t 5)⟩,⟨some 16, none,.bin .add (.t 15) (.c (vi 1))⟩,⟨some 5, none,.asg (.t 16)⟩] [0,1,5] []
def z237l8:IC:=(.seq (.seq z237r4 (.cond (.t 14) .skip (.exit 0))) (.seq (.block 1 (.seq z237r5 (.cond (.t 25) (.seq z237r6 .ret) .skip))) z237r7))
def z237r9:IC:=.reg [⟨some 4, none,.asg (.c (.bool true))⟩] [4] []
def zi237:IFun:=⟨[.t 4],[],(.seq z237r0 (.seq (.seq z237r1 (.cond (.t 10) (.seq z237r2 .ret) .skip)) (.seq (.seq z237r3 (.block 0 (.loop z237l8))) (.seq z237r9 .ret))))⟩
def z238r0:IC:=.reg [⟨some 2, none,.box (.t 0)⟩,⟨some 3, none,.box (.t 1)⟩,⟨some 4, none,.asg (.c (.bool false))⟩] [2,3] []
def z238r1:IC:=.reg [⟨some 5, none,.fadr 0 (.t 2)⟩,⟨some 6, none,.load false 1 (.t 5)⟩,⟨some 7, none,.fadr 0 (.t 3)⟩,⟨some 8, none,.load false 1 (.t 7)⟩,⟨some 9, none,.bin .eql (.t 6) (.t 8)⟩,⟨some 10, none,.asg (.t 9)⟩,⟨some 11, (some (10,true)),.fadr 1 (.t 2)⟩,⟨some 12, (some (10,true)),.load false 1 (.t 11)⟩,⟨some 13, (some (10,true)),.fadr 1 (.t 3)⟩,⟨some 14, (some (10,true)),.load false 1 (.t 13)⟩,⟨some 15, (some (10,true)),.call zl237 [(.rd,(.t 12)),(.rd,(.t 14))] true⟩,⟨some 16, none,.pick (.t 10) (.t 15) (.c (.bool false))⟩,⟨some 4, none,.asg (.t 16)⟩] [4] []
def zi238:IFun:=⟨[.t 4],[],(.seq z238r0 (.seq z238r1 .ret))⟩
def z258r0:IC:=.reg [⟨some 2, none,.asg (.c (.slice none 0 0))⟩] [0] []
def z258r1:IC:=.reg [⟨some 3, none,.mv (.t 0)⟩,⟨some 4, none,.mv (.t 0)⟩,⟨some 5, none,.len (.t 4)⟩,⟨some 6, none,.mv (.t 0)⟩,⟨some 7, none,.len (.t 6)⟩,⟨some 8, none,.slc 2 (.t 3) none (some (.t 5)) (some (.t 7))⟩,⟨some 2, none,.asgm (.t 8)⟩] [0,2] []
def zi258:IFun:=⟨[.t 2],[],(.seq z258r0 (.seq z258r1 .ret))⟩
def z70r0:IC:=.reg [⟨some 2, none,.asg (.c (.slice none 0 0))⟩] [0] []
def z70r1:IC:=.reg [⟨some 3, none,.mv (.t 0)⟩,⟨some 4, none,.mv (.t 0)⟩,⟨some 5, none,.len (.t 4)⟩,⟨some 6, none,.mv (.t 0)⟩,⟨some 7, none,.len (.t 6)⟩,⟨some 8, none,.slc 1 (.t 3) none (some (.t 5)) (some (.t 7))⟩,⟨some 2, none,.asgm (.t 8)⟩] [0,2] []
def zi70:IFun:=⟨[.t 2],[],(.seq z70r0 (.seq z70r1 .ret))⟩
def z261r0:IC:=.reg [⟨some 2, none,.nilo 2⟩] [0] []
def z261r1:List IOp:=[⟨some 3, none,.mv (.t 0)⟩]
def z261r2:IC:=.reg [⟨some 2, none,.nilo 2⟩] [2] []
def z261r3:IC:=.reg [⟨some 5, none,.bsl 2 [(vi 0),(vi 0)] 0 []⟩,⟨some 6, none,.mv (.t 0)⟩,⟨some 7, none,.app 2 (.t 5) (.t 6)⟩,⟨some 2, none,.asg (.t 7)⟩] [2] []
def zi261:IFun:=⟨[.t 2],[],(.seq z261r0 (.nilc2 z261r1 (.t 3) 4 [0,4] (.cond (.t 4) (.seq z261r2 .ret) .skip) (.seq z261r3 .ret)))⟩
def z310r0:IC:=.reg [⟨some 2, none,.asg (.c (.string ByteArray.empty))⟩] [0] []
def z310r1:IC:=.reg [⟨some 5, none,.mv (.t 0)⟩,⟨some 6, none,.call zl137 [(.rd,(.t 5))] false⟩,⟨some 3, none,.asg (.t 6)⟩] [3] []
def z310r2:IC:=.reg [⟨some 7, none,.mv (.t 3)⟩,⟨some 8, none,.call zl129 [(.val,(.t 7))] false⟩,⟨some 9, none,.call zl352 [(.rd,(.t 8))] true⟩,⟨some 4, none,.asg (.t 9)⟩] [3,4] []
def z310r3:IC:=.reg [⟨some 10, none,.mv (.t 3)⟩,⟨some 11, none,.call zl140 [(.val,(.t 10)),(.val,(.c (vi 3)))] false⟩,⟨some 12, none,.bin .eql (.t 11) (.c (vi 0))⟩] [3,4,12] []
def z310r4:IC:=.reg [⟨some 13, none,.mv (.t 3)⟩,⟨some 14, none,.mv (.t 4)⟩,⟨some 15, none,.call zl364 [(.val,(.t 13)),(.val,(.t 14))] false⟩,⟨some 4, none,.asg (.t 15)⟩] [4] []
def z310r5:IC:=.reg [⟨some 16, none,.mv (.t 4)⟩,⟨some 2, none,.asgm (.t 16)⟩] [2] []
def zi310:IFun:=⟨[.t 2],[],(.seq z310r0 (.seq z310r1 (.seq z310r2 (.seq (.seq z310r3 (.cond (.t 12) z310r4 .skip)) (.seq z310r5 .ret)))))⟩
def z323r0:IC:=.reg [⟨some 2, none,.alloc [(vi 0),(.slice none 0 0)]⟩,⟨some 3, none,.asg (.c (.bool false))⟩] [0,2] []
def z323r1:IC:=.reg [⟨some 7, none,.mv (.t 0)⟩,⟨some 8, none,.call zl367 [(.val,(.t 7))] true⟩,⟨some 6, none,.asg (.t 8)⟩,⟨some 9, none,.extr (.t 6) 0⟩,⟨some 10, none,.extr (.t 6) 1⟩,⟨some 4, none,.alloc [(vi 0),(.slice none 0 0)]⟩,⟨none,none,.store 2 (.t 4) (.t 9)⟩,⟨some 5, none,.asg (.t 10)⟩] [2,4,5] []
def z323r2:IC:=.reg [⟨some 11, none,.mv (.t 5)⟩,⟨some 12, none,.unop .not (.t 11)⟩] [2,4,12] []
def z323r3:IC:=.reg [⟨some 13, none,.build [(vi 0),(.slice none 0 0)] []⟩,⟨none,none,.store 2 (.t 2) (.t 13)⟩,⟨some 3, none,.asg (.c (.bool false))⟩] [2,3] []
def z323r4:IC:=.reg [⟨some 14, none,.load true 2 (.t 4)⟩,⟨none,none,.store 2 (.t 2) (.t 14)⟩,⟨some 3, none,.asg (.c (.bool true))⟩] [2,3] []
def zi323:IFun:=⟨[.c 2 2 true,.t 3],[],(.seq z323r0 (.seq z323r1 (.seq (.seq z323r2 (.cond (.t 12) (.seq z323r3 .ret) .skip)) (.seq z323r4 .ret))))⟩
def z118r0:IC:=.reg [⟨some 4, none,.alloc [(vi 0),(.slice none 0 0)]⟩] [0,1,4] []
def z118r1:IC:=.reg [⟨some 9, none,.mv (.t 1)⟩,⟨some 10, none,.bsl 2 [(vi 0),(vi 0)] 0 []⟩,⟨some 11, none,.build [(vi 0),(.slice none 0 0)] [(0,1,(.t 9)),(1,1,(.t 10))]⟩,⟨some 5, none,.alloc [(vi 0),(.slice none 0 0)]⟩,⟨none,none,.store 2 (.t 5) (.t 11)⟩] [0,1,4,5] []
def z118r2:IC:=.reg [⟨some 12, none,.mv (.t 1)⟩,⟨some 13, none,.call zl138 [(.val,(.t 12))] true⟩,⟨some 6, none,.asg (.t 13)⟩] [0,4,5,6] []
def z118r3:IC:=.reg [⟨some 14, none,.mv (.t 0)⟩,⟨some 15, none,.call zl140 [(.val,(.t 14)),(.val,(.c (vi 3)))] false⟩,⟨some 16, none,.bin .add (.c (vi 2)) (.t 15)⟩,⟨some 7, none,.asg (.t 16)⟩] [0,4,5,6,7] []
def z118r4:IC:=.reg [⟨some 8, none,.asg (.c (vi 0))⟩] [0,4,5,6,7,8] []
def z118r5:IC:=.reg [⟨some 17, none,.mv (.t 8)⟩,⟨some 18, none,.mv (.t 6)⟩,⟨some 19, none,.len (.t 18)⟩,⟨some 20, none,.bin .lss (.t 17) (.t 19)⟩] [0,4,5,6,7,8,20] []
def z118r6:IC:=.reg [⟨some 23, none,.mv (.t 0)⟩,⟨some 24, none,.mv (.t 7)⟩,⟨some 25, none,.call zl140 [(.val,(.t 23)),(.val,(.t 24))] false⟩,⟨some 26, none,.bin .eql (.t 25) (.c (vi 0))⟩] [0,4,5,6,7,8,26] []
def z118r7:IC:=.reg [⟨some 27, none,.fadr 1 (.t 5)⟩,⟨some 28, none,.load false 1 (.t 27)⟩,⟨some 29, none,.mv (.t 6)⟩,⟨some 30, none,.mv (.t 8)⟩,⟨some 31, none,.iadr 2 (.t 29) (.t 30)⟩,⟨some 32, none,.load true 2 (.t 31)⟩,⟨some 33, none,.bsl 2 [(vi 0),(vi 0)] 1 [(0,(.t 32))]⟩,⟨some 34, none,.app 2 (.t 28) (.t 33)⟩,⟨some 35, none,.fadr 1 (.t 5)⟩,⟨none,none,.store 1 (.t 35) (.t 34)⟩] [0,4,5,6,7,8] [[0,2,3,4,5,6,1,7,8,9]]
def z118r8:IC:=.reg [⟨some 21, none,.mv (.t 8)⟩,⟨some 22, none,.bin .add (.t 21) (.c (vi 1))⟩,⟨some 8, none,.asg (.t 22)⟩] [0,4,5,6,7,8] []
def z118l9:IC:=(.seq (.seq z118r5 (.cond (.t 20) .skip (.exit 0))) (.seq (.block 1 (.seq z118r6 (.cond (.t 26) z118r7 .skip))) z118r8))
def z118r10:IC:=.reg [⟨some 36, none,.mv (.t 0)⟩,⟨some 37, none,.call zl140 [(.val,(.t 36)),(.val,(.c (vi 4)))] false⟩,⟨some 38, none,.bin .eql (.t 37) (.c (vi 0))⟩] [4,5,38] []
def z118r11:IC:=.reg [⟨some 39, none,.load true 2 (.t 5)⟩,⟨some 40, none,.call zl122 [(.rd,(.t 39))] true⟩,⟨none,none,.store 2 (.t 4) (.t 40)⟩] [4] []
def z118r12:IC:=.reg [⟨some 41, none,.load true 2 (.t 5)⟩,⟨none,none,.store 2 (.t 4) (.t 41)⟩] [4] []
def zi118:IFun:=⟨[.c 4 2 true],[],(.seq z118r0 (.seq z118r1 (.seq z118r2 (.seq z118r3 (.seq (.seq z118r4 (.block 0 (.loop z118l9))) (.seq (.seq z118r10 (.cond (.t 38) (.seq z118r11 .ret) .skip)) (.seq z118r12 .ret)))))))⟩
def z122r0:IC:=.reg [⟨some 1, none,.box (.t 0)⟩,⟨some 2, none,.alloc [(vi 0),(.slice none 0 0)]⟩] [1,2] []
def z122r1:IC:=.reg [⟨some 6, none,.fadr 0 (.t 1)⟩,⟨some 7, none,.load false 1 (.t 6)⟩,⟨some 8, none,.bsl 2 [(vi 0),(vi 0)] 0 []⟩,⟨some 9, none,.build [(vi 0),(.slice none 0 0)] [(0,1,(.t 7)),(1,1,(.t 8))]⟩,⟨some 3, none,.alloc [(vi 0),(.slice none 0 0)]⟩,⟨none,none,.store 2 (.t 3) (.t 9)⟩] [1,2,3] []
def z122r2:IC:=.reg [⟨some 10, none,.fadr 0 (.t 1)⟩,⟨some 11, none,.load false 1 (.t 10)⟩,⟨some 12, none,.call zl138 [(.val,(.t 11))] true⟩,⟨some 4, none,.asg (.t 12)⟩] [1,2,3,4] []
def z122r3:IC:=.reg [⟨some 5, none,.asg (.c (vi 0))⟩] [1,2,3,4,5] []
def z122r4:IC:=.reg [⟨some 13, none,.mv (.t 5)⟩,⟨some 14, none,.mv (.t 4)⟩,⟨some 15, none,.len (.t 14)⟩,⟨some 16, none,.bin .lss (.t 13) (.t 15)⟩] [1,2,3,4,5,16] []
def z122r5:IC:=.reg [⟨some 19, none,.load true 2 (.t 1)⟩,⟨some 20, none,.mv (.t 4)⟩,⟨some 21, none,.mv (.t 5)⟩,⟨some 22, none,.iadr 2 (.t 20) (.t 21)⟩,⟨some 23, none,.fadr 0 (.t 22)⟩,⟨some 24, none,.load false 1 (.t 23)⟩,⟨some 25, none,.mv (.t 4)⟩,⟨some 26, none,.mv (.t 5)⟩,⟨some 27, none,.iadr 2 (.t 25) (.t 26)⟩,⟨some 28, none,.fadr 1 (.t 27)⟩,⟨some 29, none,.load false 1 (.t 28)⟩,⟨some 30, none,.call zl130 [(.rd,(.t 19)),(.val,(.t 24)),(.val,(.t 29))] true⟩,⟨some 31, none,.unop .not (.t 30)⟩] [1,2,3,4,5,31] []
def z122r6:IC:=.reg [⟨some 32, none,.fadr 1 (.t 3)⟩,⟨some 33, none,.load false 1 (.t 32)⟩,⟨some 34, none,.mv (.t 4)⟩,⟨some 35, none,.mv (.t 5)⟩,⟨some 36, none,.iadr 2 (.t 34) (.t 35)⟩,⟨some 37, none,.load true 2 (.t 36)⟩,⟨some 38, none,.bsl 2 [(vi 0),(vi 0)] 1 [(0,(.t 37))]⟩,⟨some 39, none,.app 2 (.t 33) (.t 38)⟩,⟨some 40, none,.fadr 1 (.t 3)⟩,⟨none,none,.store 1 (.t 40) (.t 39)⟩] [1,2,3,4,5] [[0,2,3,4,5,6,1,7,8,9]]
def z122r7:IC:=.reg [⟨some 17, none,.mv (.t 5)⟩,⟨some 18, none,.bin .add (.t 17) (.c (vi 1))⟩,⟨some 5, none,.asg (.t 18)⟩] [1,2,3,4,5] []
def z122l8:IC:=(.seq (.seq z122r4 (.cond (.t 16) .skip (.exit 0))) (.seq (.block 1 (.seq z122r5 (.cond (.t 31) z122r6 .skip))) z122r7))
def z122r9:IC:=.reg [⟨some 41, none,.load true 2 (.t 3)⟩,⟨none,none,.store 2 (.t 2) (.t 41)⟩] [2] []
def zi122:IFun:=⟨[.c 2 2 true],[],(.seq z122r0 (.seq z122r1 (.seq z122r2 (.seq (.seq z122r3 (.block 0 (.loop z122l8))) (.seq z122r9 .ret)))))⟩
def z347r0:IC:=.reg [⟨some 2, none,.asg (.c (.string ByteArray.empty))⟩] [0] []
def z347r1:IC:=.reg [⟨some 3, none,.mv (.t 0)⟩,⟨some 4, none,.mv (.t 0)⟩,⟨some 5, none,.bin .add (.t 4) (.c (vi 1))⟩,⟨some 6, none,.slcs (.c (.string ⟨#[48,49,50,51,52,53,54,55,56,57]⟩)) (some (.t 3)) (some (.t 5))⟩,⟨some 2, none,.asg (.t 6)⟩] [2] []
def zi347:IFun:=⟨[.t 2],[],(.seq z347r0 (.seq z347r1 .ret))⟩
def z126r0:IC:=.reg [⟨some 2, none,.box (.t 0)⟩,⟨some 3, none,.box (.t 1)⟩,⟨some 4, none,.asg (.c (.bool false))⟩] [2,3] []
def z126r1:IC:=.reg [⟨some 5, none,.fadr 0 (.t 2)⟩,⟨some 6, none,.load false 1 (.t 5)⟩,⟨some 7, none,.fadr 0 (.t 3)⟩,⟨some 8, none,.load false 1 (.t 7)⟩,⟨some 9, none,.bin .lss (.t 6) (.t 8)⟩,⟨some 10, none,.asg (.t 9)⟩,⟨some 11, (some (10,false)),.fadr 0 (.t 2)⟩,⟨some 12, (some (10,false)),.load false 1 (.t 11)⟩,⟨some 13, (some (10,false)),.fadr 0 (.t 3)⟩,⟨some 14, (some (10,false)),.load false 1 (.t 13)⟩,⟨some 15, (some (10,false)),.bin .eql (.t 12) (.t 14)⟩,⟨some 16, (some (10,false)),.asg (.t 15)⟩,⟨some 17, (some (16,true)),.fadr 1 (.t 2)⟩,⟨some 18, (some (16,true)),.load false 1 (.t 17)⟩,⟨some 19, (some (16,true)),.fadr 1 (.t 3)⟩,⟨some 20, (some (16,true)),.load false 1 (.t 19)⟩,⟨some 21, (some (16,true)),.bin .lss (.t 18) (.t 20)⟩,⟨some 22, (some (10,false)),.pick (.t 16) (.t 21) (.c (.bool false))⟩,⟨some 23, none,.pick (.t 10) (.c (.bool true)) (.t 22)⟩,
    ⟨some 4, none,.asg (.t 23)⟩] [4] []
def zi126:IFun:=⟨[.t 4],[],(.seq z126r0 (.seq z126r1 .ret))⟩
def z129r0:IC:=.reg [⟨some 2, none,.alloc [(vi 0),(.slice none 0 0)]⟩] [0,2] []
def z129r1:IC:=.reg [⟨some 3, none,.mv (.t 0)⟩,⟨some 4, none,.mv (.t 0)⟩,⟨some 5, none,.bsl 1 [(vi 0)] 9 [(0,(.c (vi 5))),(1,(.c (vi 4))),(2,(.c (vi 6))),(3,(.c (vi 3))),(4,(.c (vi 5))),(5,(.c (vi 2))),(6,(.c (vi 7))),(7,(.c (vi 1))),(8,(.c (vi 0)))]⟩,⟨some 6, none,.call zl139 [(.val,(.t 4)),(.rd,(.t 5))] false⟩,⟨some 7, none,.call zl118 [(.val,(.t 3)),(.val,(.t 6))] false⟩,⟨none,none,.store 2 (.t 2) (.t 7)⟩] [2] []
def zi129:IFun:=⟨[.c 2 2 true],[],(.seq z129r0 (.seq z129r1 .ret))⟩
def z352r0:IC:=.reg [⟨some 1, none,.box (.t 0)⟩,⟨some 2, none,.asg (.c (.string ByteArray.empty))⟩] [1] []
def z352r1:IC:=.reg [⟨some 5, none,.fadr 0 (.t 1)⟩,⟨some 6, none,.load false 1 (.t 5)⟩,⟨some 7, none,.call zl347 [(.val,(.t 6))] true⟩,⟨some 8, none,.bin .add (.t 7) (.c (.string ⟨#[58]⟩))⟩,⟨some 3, none,.asg (.t 8)⟩] [1,3] []
def z352r2:IC:=.reg [⟨some 4, none,.asg (.c (vi 0))⟩] [1,3,4] []
def z352r3:IC:=.reg [⟨some 9, none,.mv (.t 4)⟩,⟨some 10, none,.fadr 1 (.t 1)⟩,⟨some 11, none,.load false 1 (.t 10)⟩,⟨some 12, none,.len (.t 11)⟩,⟨some 13, none,.bin .lss (.t 9) (.t 12)⟩] [1,3,4,13] []
def z352r4:IC:=.reg [⟨some 16, none,.mv (.t 4)⟩,⟨some 17, none,.bin .gtr (.t 16) (.c (vi 0))⟩] [1,3,4,17] []
def z352r5:IC:=.reg [⟨some 18, none,.mv (.t 3)⟩,⟨some 19, none,.bin .add (.t 18) (.c (.string ⟨#[44]⟩))⟩,⟨some 3, none,.asg (.t 19)⟩] [1,3,4] []
def z352r6:IC:=.reg [⟨some 20, none,.mv (.t 3)⟩,⟨some 21, none,.fadr 1 (.t 1)⟩,⟨some 22, none,.load false 1 (.t 21)⟩,⟨some 23, none,.mv (.t 4)⟩,⟨some 24, none,.iadr 2 (.t 22) (.t 23)⟩,⟨some 25, none,.fadr 0 (.t 24)⟩,⟨some 26, none,.load false 1 (.t 25)⟩,⟨some 27, none,.call zl347 [(.val,(.t 26))] true⟩,⟨some 28, none,.bin .add (.t 20) (.t 27)⟩,⟨some 29, none,.fadr 1 (.t 1)⟩,⟨some 30, none,.load false 1 (.t 29)⟩,⟨some 31, none,.mv (.t 4)⟩,⟨some 32, none,.iadr 2 (.t 30) (.t 31)⟩,⟨some 33, none,.fadr 1 (.t 32)⟩,⟨some 34, none,.load false 1 (.t 33)⟩,⟨some 35, none,.call zl347 [(.val,(.t 34))] true⟩,⟨some 36, none,.bin .add (.t 28) (.t 35)⟩,⟨some 3, none,.asg (.t 36)⟩] [1,3,4] [[0,1,2,3,4,5,6,9,10,7,8,11,12,13,14,15,16,17],[0,1,2,3,4,5,6,9,10,11,12,13,14,7,8,15,16,17]]
def z352r7:IC:=.reg [⟨some 14, none,.mv (.t 4)⟩,⟨some 15, none,.bin .add (.t 14) (.c (vi 1))⟩,⟨some 4, none,.asg (.t 15)⟩] [1,3,4] []
def z352l8:IC:=(.seq (.seq z352r3 (.cond (.t 13) .skip (.exit 0))) (.seq (.block 1 (.seq (.seq z352r4 (.cond (.t 17) z352r5 .skip)) z352r6)) z352r7))
def z352r9:IC:=.reg [⟨some 37, none,.mv (.t 3)⟩,⟨some 2, none,.asgm (.t 37)⟩] [2] []
def zi352:IFun:=⟨[.t 2],[],(.seq z352r0 (.seq z352r1 (.seq (.seq z352r2 (.block 0 (.loop z352l8))) (.seq z352r9 .ret))))⟩
def z130r0:IC:=.reg [⟨some 3, none,.box (.t 0)⟩,⟨some 6, none,.asg (.c (.bool false))⟩] [1,2,3] []
def z130r1:IC:=.reg [⟨some 7, none,.asg (.c (vi 0))⟩] [1,2,3,7] []
def z130r2:IC:=.reg [⟨some 9, none,.mv (.t 7)⟩,⟨some 10, none,.fadr 1 (.t 3)⟩,⟨some 11, none,.load false 1 (.t 10)⟩,⟨some 12, none,.len (.t 11)⟩,⟨some 13, none,.bin .lss (.t 9) (.t 12)⟩] [1,2,3,7,13] []
def z130r3:IC:=.reg [⟨some 16, none,.fadr 1 (.t 3)⟩,⟨some 17, none,.load false 1 (.t 16)⟩,⟨some 18, none,.mv (.t 7)⟩,⟨some 19, none,.iadr 2 (.t 17) (.t 18)⟩,⟨some 20, none,.load true 2 (.t 19)⟩,⟨some 8, none,.alloc [(vi 0),(vi 0)]⟩,⟨none,none,.store 2 (.t 8) (.t 20)⟩] [1,2,3,7,8] []
def z130r4:IC:=.reg [⟨some 21, none,.fadr 0 (.t 8)⟩,⟨some 22, none,.load false 1 (.t 21)⟩,⟨some 23, none,.mv (.t 1)⟩,⟨some 24, none,.bin .eql (.t 22) (.t 23)⟩,⟨some 25, none,.asg (.t 24)⟩,⟨some 26, (some (25,true)),.fadr 1 (.t 8)⟩,⟨some 27, (some (25,true)),.load false 1 (.t 26)⟩,⟨some 28, (some (25,true)),.mv (.t 2)⟩,⟨some 29, (some (25,true)),.bin .eql (.t 27) (.t 28)⟩,⟨some 30, none,.pick (.t 25) (.t 29) (.c (.bool false))⟩,⟨some 31, none,.asg (.t 30)⟩,⟨some 32, (some (31,false)),.fadr 0 (.t 8)⟩,⟨some 33, (some (31,false)),.load false 1 (.t 32)⟩,⟨some 34, (some (31,false)),.mv (.t 2)⟩,⟨some 35, (some (31,false)),.bin .eql (.t 33) (.t 34)⟩,⟨some 36, (some (31,false)),.asg (.t 35)⟩,⟨some 37, (some (36,true)),.fadr 1 (.t 8)⟩,⟨some 38, (some (36,true)),.load false 1 (.t 37)⟩,⟨some 39, (some (36,true)),.mv (.t 1)⟩,⟨some 40, (some (36,true)),.bin .eql (.t 38) (.t 39)⟩,
    ⟨some 41, (some (31,false)),.pick (.t 36) (.t 40) (.c (.bool false))⟩,⟨some 42, none,.pick (.t 31) (.c (.bool true)) (.t 41)⟩] [1,2,3,7,42] []
def z130r5:IC:=.reg [⟨some 6, none,.asg (.c (.bool true))⟩] [6] []
def z130r6:IC:=.reg [⟨some 14, none,.mv (.t 7)⟩,⟨some 15, none,.bin .add (.t 14) (.c (vi 1))⟩,⟨some 7, none,.asg (.t 15)⟩] [1,2,3,7] []
def z130l7:IC:=(.seq (.seq z130r2 (.cond (.t 13) .skip (.exit 0))) (.seq (.block 1 (.seq z130r3 (.seq z130r4 (.cond (.t 42) (.seq z130r5 .ret) .skip)))) z130r6))
def z130r8:IC:=.reg [⟨some 6, none,.asg (.c (.bool false))⟩] [6] []
def zi130:IFun:=⟨[.t 6],[],(.seq z130r0 (.seq (.seq z130r1 (.block 0 (.loop z130l7))) (.seq z130r8 .ret)))⟩
def z132r0:IC:=.reg [⟨some 6, none,.asg (.c (.bool false))⟩] [0,1,2] []
def z132r1:IC:=.reg [⟨some 7, none,.mv (.t 1)⟩,⟨some 8, none,.mv (.t 0)⟩,⟨some 9, none,.bin .leq (.t 7) (.t 8)⟩,⟨some 10, none,.asg (.t 9)⟩,⟨some 11, (some (10,true)),.mv (.t 0)⟩,⟨some 12, (some (10,true)),.mv (.t 2)⟩,⟨some 13, (some (10,true)),.bin .leq (.t 11) (.t 12)⟩,⟨some 14, none,.pick (.t 10) (.t 13) (.c (.bool false))⟩,⟨some 6, none,.asg (.t 14)⟩] [6] []
def zi132:IFun:=⟨[.t 6],[],(.seq z132r0 (.seq z132r1 .ret))⟩
def z364r0:IC:=.reg [⟨some 4, none,.asg (.c (.string ByteArray.empty))⟩] [0,1] []
def z364r1:IC:=.reg [⟨some 6, none,.mv (.t 0)⟩,⟨some 7, none,.mv (.t 1)⟩,⟨some 8, none,.lens (.t 7)⟩,⟨some 9, none,.bin .add (.t 8) (.c (vi 1))⟩,⟨some 10, none,.call zl140 [(.val,(.t 6)),(.val,(.t 9))] false⟩,⟨some 5, none,.asg (.t 10)⟩] [0,1,5] []
def z364r2:IC:=.reg [⟨some 11, none,.mv (.t 0)⟩,⟨some 12, none,.call zl140 [(.val,(.t 11)),(.val,(.c (vi 5)))] false⟩] [0,1,5,12] []
def z364r3:IC:=.reg [⟨some 14, none,.bin .eql (.t 12) (.c (vi 0))⟩,⟨some 13, none,.asg (.t 14)⟩] [0,1,5,12,13] []
def z364r4:IC:=.reg [⟨some 15, none,.bin .eql (.t 12) (.c (vi 1))⟩,⟨some 13, none,.asg (.t 15)⟩] [0,1,5,12,13] []
def z364r5:IC:=.reg [⟨some 16, none,.mv (.t 5)⟩,⟨some 17, none,.mv (.t 1)⟩,⟨some 18, none,.lens (.t 17)⟩,⟨some 19, none,.bin .lss (.t 16) (.t 18)⟩] [0,1,5,19] []
def z364r6:IC:=.reg [⟨some 20, none,.mv (.t 1)⟩,⟨some 21, none,.mv (.t 5)⟩,⟨some 22, none,.slcs (.t 20) none (some (.t 21))⟩,⟨some 23, none,.mv (.t 0)⟩,⟨some 24, none,.bsl 1 [(.string ByteArray.empty)] 8 [(0,(.c (.string ⟨#[48]⟩))),(1,(.c (.string ⟨#[49]⟩))),(2,(.c (.string ⟨#[55]⟩))),(3,(.c (.string ⟨#[44]⟩))),(4,(.c (.string ⟨#[58]⟩))),(5,(.c (.string ⟨#[45]⟩))),(6,(.c (.string ⟨#[97]⟩))),(7,(.c (.string ⟨#[32]⟩)))]⟩,⟨some 25, none,.call zl368 [(.val,(.t 23)),(.rd,(.t 24))] false⟩,⟨some 26, none,.bin .add (.t 22) (.t 25)⟩,⟨some 27, none,.mv (.t 1)⟩,⟨some 28, none,.mv (.t 5)⟩,⟨some 29, none,.bin .add (.t 28) (.c (vi 1))⟩,⟨some 30, none,.slcs (.t 27) (some (.t 29)) none⟩,⟨some 31, none,.bin .add (.t 26) (.t 30)⟩,⟨some 4, none,.asg (.t 31)⟩] [4] []
def z364r7:IC:=.reg [⟨some 33, none,.bin .eql (.t 12) (.c (vi 2))⟩,⟨some 32, none,.asg (.t 33)⟩] [0,1,5,12,32] []
def z364r8:IC:=.reg [⟨some 34, none,.mv (.t 1)⟩,⟨some 35, none,.mv (.t 5)⟩,⟨some 36, none,.slcs (.t 34) none (some (.t 35))⟩,⟨some 4, none,.asg (.t 36)⟩] [4] []
def z364r9:IC:=.reg [⟨some 38, none,.bin .eql (.t 12) (.c (vi 3))⟩,⟨some 37, none,.asg (.t 38)⟩] [0,1,37] []
def z364r10:IC:=.reg [⟨some 39, none,.mv (.t 1)⟩,⟨some 40, none,.mv (.t 0)⟩,⟨some 41, none,.bsl 1 [(.string ByteArray.empty)] 4 [(0,(.c (.string ⟨#[48]⟩))),(1,(.c (.string ⟨#[44]⟩))),(2,(.c (.string ⟨#[32]⟩))),(3,(.c (.string ⟨#[49,50]⟩)))]⟩,⟨some 42, none,.call zl368 [(.val,(.t 40)),(.rd,(.t 41))] false⟩,⟨some 43, none,.bin .add (.t 39) (.t 42)⟩,⟨some 4, none,.asg (.t 43)⟩] [4] []
def z364r11:IC:=.reg [⟨some 44, none,.mv (.t 1)⟩,⟨some 4, none,.asgm (.t 44)⟩] [4] []
def zi364:IFun:=⟨[.t 4],[],(.seq z364r0 (.seq z364r1 (.seq (.seq z364r2 (.block 0 (.seq (.seq z364r3 (.cond (.t 13) .skip z364r4)) (.cond (.t 13) (.seq z364r5 (.cond (.t 19) (.seq z364r6 .ret) .skip)) (.seq z364r7 (.cond (.t 32) (.seq z364r8 .ret) (.seq z364r9 (.cond (.t 37) (.seq z364r10 .ret) .skip)))))))) (.seq z364r11 .ret))))⟩
def z137r0:IC:=.reg [⟨some 2, none,.asg (.c (.pointer none))⟩] [0] []
def z137r1:IC:=.reg [⟨some 3, none,.mv (.t 0)⟩,⟨some 4, none,.len (.t 3)⟩,⟨some 5, none,.bin .gtr (.t 4) (.c (vi 2000))⟩] [0,5] []
def z137r2:IC:=.reg [⟨some 6, none,.mv (.t 0)⟩,⟨some 7, none,.slc 1 (.t 6) none (some (.c (vi 2000))) none⟩,⟨some 0, none,.asgm (.t 7)⟩] [0] []
def z137r3:IC:=.reg [⟨some 8, none,.mv (.t 0)⟩,⟨some 9, none,.build [(.slice none 0 0),(vi 0)] [(0,1,(.t 8))]⟩,⟨some 10, none,.box (.t 9)⟩,⟨some 2, none,.asg (.t 10)⟩] [2] []
def zi137:IFun:=⟨[.t 2],[],(.seq z137r0 (.seq (.seq z137r1 (.cond (.t 5) z137r2 .skip)) (.seq z137r3 .ret)))⟩
def z138r0:IC:=.reg [⟨some 2, none,.asg (.c (.slice none 0 0))⟩] [0] []
def z138r1:IC:=.reg [⟨some 6, none,.bsl 2 [(vi 0),(vi 0)] 0 []⟩,⟨some 3, none,.asg (.t 6)⟩] [0,3] []
def z138r2:IC:=.reg [⟨some 4, none,.asg (.c (vi 0))⟩] [0,3,4] []
def z138r3:IC:=.reg [⟨some 7, none,.mv (.t 4)⟩,⟨some 8, none,.mv (.t 0)⟩,⟨some 9, none,.bin .lss (.t 7) (.t 8)⟩] [0,3,4,9] []
def z138r4:IC:=.reg [⟨some 12, none,.mv (.t 4)⟩,⟨some 13, none,.bin .add (.t 12) (.c (vi 1))⟩,⟨some 5, none,.asg (.t 13)⟩] [0,3,4,5] []
def z138r5:IC:=.reg [⟨some 14, none,.mv (.t 5)⟩,⟨some 15, none,.mv (.t 0)⟩,⟨some 16, none,.bin .lss (.t 14) (.t 15)⟩] [0,3,4,5,16] []
def z138r6:IC:=.reg [⟨some 19, none,.mv (.t 3)⟩,⟨some 20, none,.mv (.t 4)⟩,⟨some 21, none,.mv (.t 5)⟩,⟨some 22, none,.build [(vi 0),(vi 0)] [(0,1,(.t 20)),(1,1,(.t 21))]⟩,⟨some 23, none,.bsl 2 [(vi 0),(vi 0)] 1 [(0,(.t 22))]⟩,⟨some 24, none,.app 2 (.t 19) (.t 23)⟩,⟨some 3, none,.asg (.t 24)⟩] [0,3,4,5] []
def z138r7:IC:=.reg [⟨some 17, none,.mv (.t 5)⟩,⟨some 18, none,.bin .add (.t 17) (.c (vi 1))⟩,⟨some 5, none,.asg (.t 18)⟩] [0,3,4,5] []
def z138l8:IC:=(.seq (.seq z138r5 (.cond (.t 16) .skip (.exit 2))) (.seq (.block 3 z138r6) z138r7))
def z138r9:IC:=.reg [⟨some 10, none,.mv (.t 4)⟩,⟨some 11, none,.bin .add (.t 10) (.c (vi 1))⟩,⟨some 4, none,.asg (.t 11)⟩] [0,3,4] []
def z138l10:IC:=(.seq (.seq z138r3 (.cond (.t 9) .skip (.exit 0))) (.seq (.block 1 (.seq z138r4 (.block 2 (.loop z138l8)))) z138r9))
def z138r11:IC:=.reg [⟨some 25, none,.mv (.t 3)⟩,⟨some 2, none,.asgm (.t 25)⟩] [2,3] []
def zi138:IFun:=⟨[.t 2],[],(.seq z138r0 (.seq z138r1 (.seq (.seq z138r2 (.block 0 (.loop z138l10))) (.seq z138r11 .ret))))⟩
def z367r0:IC:=.reg [⟨some 2, none,.alloc [(vi 0),(.slice none 0 0)]⟩,⟨some 3, none,.asg (.c (.bool false))⟩] [0,2] []
def z367r1:IC:=.reg [⟨some 6, none,.mv (.t 0)⟩,⟨some 7, none,.lens (.t 6)⟩,⟨some 8, none,.bin .lss (.t 7) (.c (vi 2))⟩] [0,2,8] []
def z367r2:IC:=.reg [⟨some 9, none,.build [(vi 0),(.slice none 0 0)] []⟩,⟨none,none,.store 2 (.t 2) (.t 9)⟩,⟨some 3, none,.asg (.c (.bool false))⟩] [2,3] []
def z367r3:IC:=.reg [⟨some 10, none,.mv (.t 0)⟩,⟨some 11, none,.idxs (.t 10) (.c (vi 0))⟩,⟨some 12, none,.conv .i64 (.t 11)⟩,⟨some 13, none,.bin .sub (.t 12) (.c (vi 48))⟩,⟨some 14, none,.bsl 2 [(vi 0),(vi 0)] 0 []⟩,⟨some 15, none,.build [(vi 0),(.slice none 0 0)] [(0,1,(.t 13)),(1,1,(.t 14))]⟩,⟨some 4, none,.alloc [(vi 0),(.slice none 0 0)]⟩,⟨none,none,.store 2 (.t 4) (.t 15)⟩] [0,2,4] []
def z367r4:IC:=.reg [⟨some 5, none,.asg (.c (vi 2))⟩] [0,2,4,5] []
def z367r5:IC:=.reg [⟨some 16, none,.mv (.t 5)⟩,⟨some 17, none,.bin .add (.t 16) (.c (vi 1))⟩,⟨some 18, none,.mv (.t 0)⟩,⟨some 19, none,.lens (.t 18)⟩,⟨some 20, none,.bin .lss (.t 17) (.t 19)⟩] [0,2,4,5,20] []
def z367r6:IC:=.reg [⟨some 23, none,.fadr 1 (.t 4)⟩,⟨some 24, none,.load false 1 (.t 23)⟩,⟨some 25, none,.mv (.t 0)⟩,⟨some 26, none,.mv (.t 5)⟩,⟨some 27, none,.idxs (.t 25) (.t 26)⟩,⟨some 28, none,.conv .i64 (.t 27)⟩,⟨some 29, none,.bin .sub (.t 28) (.c (vi 48))⟩,⟨some 30, none,.mv (.t 0)⟩,⟨some 31, none,.mv (.t 5)⟩,⟨some 32, none,.bin .add (.t 31) (.c (vi 1))⟩,⟨some 33, none,.idxs (.t 30) (.t 32)⟩,⟨some 34, none,.conv .i64 (.t 33)⟩,⟨some 35, none,.bin .sub (.t 34) (.c (vi 48))⟩,⟨some 36, none,.build [(vi 0),(vi 0)] [(0,1,(.t 29)),(1,1,(.t 35))]⟩,⟨some 37, none,.bsl 2 [(vi 0),(vi 0)] 1 [(0,(.t 36))]⟩,⟨some 38, none,.app 2 (.t 24) (.t 37)⟩,⟨some 39, none,.fadr 1 (.t 4)⟩,⟨none,none,.store 1 (.t 39) (.t 38)⟩] [0,2,4,5] [[0,2,3,4,5,6,7,8,9,10,11,12,13,1,14,15,16,17],[0,2,3,4,5,6,7,8,9,10,11,12,13,14,1,15,16,17]]
def z367r7:IC:=.reg [⟨some 21, none,.mv (.t 5)⟩,⟨some 22, none,.bin .add (.t 21) (.c (vi 3))⟩,⟨some 5, none,.asg (.t 22)⟩] [0,2,4,5] []
def z367l8:IC:=(.seq (.seq z367r5 (.cond (.t 20) .skip (.exit 0))) (.seq (.block 1 z367r6) z367r7))
def z367r9:IC:=.reg [⟨some 40, none,.load true 2 (.t 4)⟩,⟨some 41, none,.load true 2 (.t 4)⟩,⟨some 42, none,.call zl145 [(.rd,(.t 41))] true⟩,⟨some 43, none,.asg (.t 42)⟩,⟨some 44, (some (43,true)),.load true 2 (.t 4)⟩,⟨some 45, (some (43,true)),.call zl352 [(.rd,(.t 44))] true⟩,⟨some 46, (some (43,true)),.mv (.t 0)⟩,⟨some 47, (some (43,true)),.bin .eql (.t 45) (.t 46)⟩,⟨some 48, none,.pick (.t 43) (.t 47) (.c (.bool false))⟩,⟨none,none,.store 2 (.t 2) (.t 40)⟩,⟨some 3, none,.asg (.t 48)⟩] [2,3] [[1,2,0,3,4,5,6,7,8,9,10],[1,2,3,0,4,5,6,7,8,9,10],[1,2,3,4,5,0,6,7,8,9,10]]
def zi367:IFun:=⟨[.c 2 2 true,.t 3],[],(.seq z367r0 (.seq (.seq z367r1 (.cond (.t 8) (.seq z367r2 .ret) .skip)) (.seq z367r3 (.seq (.seq z367r4 (.block 0 (.loop z367l8))) (.seq z367r9 .ret)))))⟩
def z368r0:IC:=.reg [⟨some 4, none,.asg (.c (.string ByteArray.empty))⟩] [0,1] []
def z368r1:IC:=.reg [⟨some 5, none,.mv (.t 1)⟩,⟨some 6, none,.mv (.t 0)⟩,⟨some 7, none,.mv (.t 1)⟩,⟨some 8, none,.len (.t 7)⟩,⟨some 9, none,.call zl140 [(.val,(.t 6)),(.val,(.t 8))] false⟩,⟨some 10, none,.iadr 1 (.t 5) (.t 9)⟩,⟨some 11, none,.load false 1 (.t 10)⟩,⟨some 4, none,.asg (.t 11)⟩] [4] []
def zi368:IFun:=⟨[.t 4],[],(.seq z368r0 (.seq z368r1 .ret))⟩
def z139r0:IC:=.reg [⟨some 4, none,.asg (.c (vi 0))⟩] [0,1] []
def z139r1:IC:=.reg [⟨some 5, none,.mv (.t 1)⟩,⟨some 6, none,.mv (.t 0)⟩,⟨some 7, none,.mv (.t 1)⟩,⟨some 8, none,.len (.t 7)⟩,⟨some 9, none,.call zl140 [(.val,(.t 6)),(.val,(.t 8))] false⟩,⟨some 10, none,.iadr 1 (.t 5) (.t 9)⟩,⟨some 11, none,.load false 1 (.t 10)⟩,⟨some 4, none,.asg (.t 11)⟩] [4] []
def zi139:IFun:=⟨[.t 4],[],(.seq z139r0 (.seq z139r1 .ret))⟩
def z140r0:IC:=.reg [⟨some 4, none,.asg (.c (vi 0))⟩] [0,1] []
def z140r1:IC:=.reg [⟨some 7, none,.mv (.t 0)⟩,⟨some 8, none,.mv (.t 0)⟩,⟨some 9, none,.nilck (.t 8)⟩,⟨some 10, none,.fadr 1 (.t 9)⟩,⟨some 11, none,.load false 1 (.t 10)⟩,⟨some 12, none,.bin .add (.t 11) (.c (vi 1))⟩,⟨some 13, none,.nilck (.t 7)⟩,⟨some 14, none,.fadr 1 (.t 13)⟩,⟨none,none,.store 1 (.t 14) (.t 12)⟩] [0,1] []
def z140r2:IC:=.reg [⟨some 15, none,.mv (.t 1)⟩,⟨some 16, none,.bin .lss (.t 15) (.c (vi 1))⟩,⟨some 17, none,.asg (.t 16)⟩,⟨some 18, (some (17,false)),.mv (.t 0)⟩,⟨some 19, (some (17,false)),.nilck (.t 18)⟩,⟨some 20, (some (17,false)),.fadr 0 (.t 19)⟩,⟨some 21, (some (17,false)),.load false 1 (.t 20)⟩,⟨some 22, (some (17,false)),.len (.t 21)⟩,⟨some 23, (some (17,false)),.bin .eql (.t 22) (.c (vi 0))⟩,⟨some 24, none,.pick (.t 17) (.c (.bool true)) (.t 23)⟩] [0,1,24] []
def z140r3:IC:=.reg [⟨some 4, none,.asg (.c (vi 0))⟩] [4] []
def z140r4:IC:=.reg [⟨some 25, none,.mv (.t 0)⟩,⟨some 26, none,.nilck (.t 25)⟩,⟨some 27, none,.fadr 1 (.t 26)⟩,⟨some 28, none,.load false 1 (.t 27)⟩,⟨some 29, none,.bin .sub (.t 28) (.c (vi 1))⟩,⟨some 5, none,.asg (.t 29)⟩] [0,1,5] []
def z140r5:IC:=.reg [⟨some 30, none,.mv (.t 5)⟩,⟨some 31, none,.mv (.t 0)⟩,⟨some 32, none,.nilck (.t 31)⟩,⟨some 33, none,.fadr 0 (.t 32)⟩,⟨some 34, none,.load false 1 (.t 33)⟩,⟨some 35, none,.len (.t 34)⟩,⟨some 36, none,.bin .lss (.t 30) (.t 35)⟩] [0,1,5,36] []
def z140r6:IC:=.reg [⟨some 37, none,.mv (.t 0)⟩,⟨some 38, none,.nilck (.t 37)⟩,⟨some 39, none,.fadr 0 (.t 38)⟩,⟨some 40, none,.load false 1 (.t 39)⟩,⟨some 41, none,.mv (.t 5)⟩,⟨some 42, none,.iadr 1 (.t 40) (.t 41)⟩,⟨some 43, none,.load false 1 (.t 42)⟩,⟨some 44, none,.conv .i64 (.t 43)⟩,⟨some 45, none,.mv (.t 1)⟩,⟨some 46, none,.bin .rem (.t 44) (.t 45)⟩,⟨some 4, none,.asg (.t 46)⟩] [4] []
def z140r7:IC:=.reg [⟨some 47, none,.mv (.t 0)⟩,⟨some 48, none,.nilck (.t 47)⟩,⟨some 49, none,.fadr 0 (.t 48)⟩,⟨some 50, none,.load false 1 (.t 49)⟩,⟨some 51, none,.mv (.t 5)⟩,⟨some 52, none,.mv (.t 0)⟩,⟨some 53, none,.nilck (.t 52)⟩,⟨some 54, none,.fadr 0 (.t 53)⟩,⟨some 55, none,.load false 1 (.t 54)⟩,⟨some 56, none,.len (.t 55)⟩,⟨some 57, none,.bin .rem (.t 51) (.t 56)⟩,⟨some 58, none,.iadr 1 (.t 50) (.t 57)⟩,⟨some 59, none,.load false 1 (.t 58)⟩,⟨some 60, none,.conv .i64 (.t 59)⟩,⟨some 61, none,.bin .mul (.t 60) (.c (vi 131))⟩,⟨some 62, none,.mv (.t 0)⟩,⟨some 63, none,.nilck (.t 62)⟩,⟨some 64, none,.fadr 0 (.t 63)⟩,⟨some 65, none,.load false 1 (.t 64)⟩,⟨some 66, none,.mv (.t 5)⟩,⟨some 67, none,.bin .mul (.t 66) (.c (vi 7))⟩,⟨some 68, none,.bin .add (.t 67) (.c (vi 3))⟩,⟨some 69, none,.mv (.t 0)⟩,⟨some 70, none,.nilck (.t 69)⟩,⟨some 71, none,.fadr 0 (.t 70)⟩,
    ⟨some 72, none,.load false 1 (.t 71)⟩,⟨some 73, none,.len (.t 72)⟩,⟨some 74, none,.bin .rem (.t 68) (.t 73)⟩,⟨some 75, none,.iadr 1 (.t 65) (.t 74)⟩,⟨some 76, none,.load false 1 (.t 75)⟩,⟨some 77, none,.conv .i64 (.t 76)⟩,⟨some 78, none,.bin .mul (.t 77) (.c (vi 1117))⟩,⟨some 79, none,.bin .add (.t 61) (.t 78)⟩,⟨some 80, none,.mv (.t 5)⟩,⟨some 81, none,.bin .mul (.t 80) (.c (vi 29))⟩,⟨some 82, none,.bin .add (.t 79) (.t 81)⟩,⟨some 83, none,.mv (.t 5)⟩,⟨some 84, none,.mv (.t 0)⟩,⟨some 85, none,.nilck (.t 84)⟩,⟨some 86, none,.fadr 0 (.t 85)⟩,⟨some 87, none,.load false 1 (.t 86)⟩,⟨some 88, none,.len (.t 87)⟩,⟨some 89, none,.bin .quo (.t 83) (.t 88)⟩,⟨some 90, none,.bin .mul (.t 89) (.c (vi 53))⟩,⟨some 91, none,.bin .add (.t 82) (.t 90)⟩,⟨some 6, none,.asg (.t 91)⟩] [1,6] []
def z140r8:IC:=.reg [⟨some 92, none,.mv (.t 6)⟩,⟨some 93, none,.mv (.t 6)⟩,⟨some 94, none,.bin .quo (.t 93) (.c (vi 64))⟩,⟨some 95, none,.bin .xor (.t 92) (.t 94)⟩,⟨some 6, none,.asg (.t 95)⟩] [1,6] []
def z140r9:IC:=.reg [⟨some 96, none,.mv (.t 6)⟩,⟨some 97, none,.mv (.t 1)⟩,⟨some 98, none,.bin .rem (.t 96) (.t 97)⟩,⟨some 4, none,.asg (.t 98)⟩] [4] []
def zi140:IFun:=⟨[.t 4],[],(.seq z140r0 (.seq z140r1 (.seq (.seq z140r2 (.cond (.t 24) (.seq z140r3 .ret) .skip)) (.seq z140r4 (.seq (.seq z140r5 (.cond (.t 36) (.seq z140r6 .ret) .skip)) (.seq z140r7 (.seq z140r8 (.seq z140r9 .ret))))))))⟩
def z145r0:IC:=.reg [⟨some 1, none,.box (.t 0)⟩,⟨some 2, none,.asg (.c (.bool false))⟩] [1] []
def z145r1:IC:=.reg [⟨some 3, none,.asg (.c (vi 0))⟩] [1,3] []
def z145r2:IC:=.reg [⟨some 5, none,.mv (.t 3)⟩,⟨some 6, none,.fadr 1 (.t 1)⟩,⟨some 7, none,.load false 1 (.t 6)⟩,⟨some 8, none,.len (.t 7)⟩,⟨some 9, none,.bin .lss (.t 5) (.t 8)⟩] [1,3,9] []
def z145r3:IC:=.reg [⟨some 12, none,.fadr 1 (.t 1)⟩,⟨some 13, none,.load false 1 (.t 12)⟩,⟨some 14, none,.mv (.t 3)⟩,⟨some 15, none,.iadr 2 (.t 13) (.t 14)⟩,⟨some 16, none,.load true 2 (.t 15)⟩,⟨some 4, none,.alloc [(vi 0),(vi 0)]⟩,⟨none,none,.store 2 (.t 4) (.t 16)⟩] [1,3,4] []
def z145r4:IC:=.reg [⟨some 17, none,.fadr 0 (.t 4)⟩,⟨some 18, none,.load false 1 (.t 17)⟩,⟨some 19, none,.bin .lss (.t 18) (.c (vi 0))⟩,⟨some 20, none,.asg (.t 19)⟩,⟨some 21, (some (20,false)),.fadr 0 (.t 4)⟩,⟨some 22, (some (20,false)),.load false 1 (.t 21)⟩,⟨some 23, (some (20,false)),.fadr 1 (.t 4)⟩,⟨some 24, (some (20,false)),.load false 1 (.t 23)⟩,⟨some 25, (some (20,false)),.bin .geq (.t 22) (.t 24)⟩,⟨some 26, none,.pick (.t 20) (.c (.bool true)) (.t 25)⟩,⟨some 27, none,.asg (.t 26)⟩,⟨some 28, (some (27,false)),.fadr 1 (.t 4)⟩,⟨some 29, (some (27,false)),.load false 1 (.t 28)⟩,⟨some 30, (some (27,false)),.fadr 0 (.t 1)⟩,⟨some 31, (some (27,false)),.load false 1 (.t 30)⟩,⟨some 32, (some (27,false)),.bin .geq (.t 29) (.t 31)⟩,⟨some 33, none,.pick (.t 27) (.c (.bool true)) (.t 32)⟩,⟨some 34, none,.asg (.t 33)⟩,⟨some 35, (some (34,false)),.mv (.t 3)⟩,
    ⟨some 36, (some (34,false)),.bin .gtr (.t 35) (.c (vi 0))⟩,⟨some 37, (some (34,false)),.asg (.t 36)⟩,⟨some 38, (some (37,true)),.fadr 1 (.t 1)⟩,⟨some 39, (some (37,true)),.load false 1 (.t 38)⟩,⟨some 40, (some (37,true)),.mv (.t 3)⟩,⟨some 41, (some (37,true)),.bin .sub (.t 40) (.c (vi 1))⟩,⟨some 42, (some (37,true)),.iadr 2 (.t 39) (.t 41)⟩,⟨some 43, (some (37,true)),.load true 2 (.t 42)⟩,⟨some 44, (some (37,true)),.load true 2 (.t 4)⟩,⟨some 45, (some (37,true)),.call zl126 [(.val,(.t 43)),(.val,(.t 44))] true⟩,⟨some 46, (some (37,true)),.unop .not (.t 45)⟩,⟨some 47, (some (34,false)),.pick (.t 37) (.t 46) (.c (.bool false))⟩,⟨some 48, none,.pick (.t 34) (.c (.bool true)) (.t 47)⟩] [1,3,48] []
def z145r5:IC:=.reg [⟨some 2, none,.asg (.c (.bool false))⟩] [2] []
def z145r6:IC:=.reg [⟨some 10, none,.mv (.t 3)⟩,⟨some 11, none,.bin .add (.t 10) (.c (vi 1))⟩,⟨some 3, none,.asg (.t 11)⟩] [1,3] []
def z145l7:IC:=(.seq (.seq z145r2 (.cond (.t 9) .skip (.exit 0))) (.seq (.block 1 (.seq z145r3 (.seq z145r4 (.cond (.t 48) (.seq z145r5 .ret) .skip)))) z145r6))
def z145r8:IC:=.reg [⟨some 49, none,.fadr 0 (.t 1)⟩,⟨some 50, none,.load false 1 (.t 49)⟩,⟨some 51, none,.call zl132 [(.val,(.t 50)),(.val,(.c (vi 0))),(.val,(.c (vi 7)))] true⟩,⟨some 2, none,.asg (.t 51)⟩] [2] []
def zi145:IFun:=⟨[.t 2],[],(.seq z145r0 (.seq (.seq z145r1 (.block 0 (.loop z145l7))) (.seq z145r8 .ret)))⟩
def zi396:IFun:=⟨[.t 0],[],.ext ext_strings_Count⟩
def z397r0:IC:=.reg [⟨some 4, none,.asg (.c (.string ByteArray.empty))⟩,⟨some 5, none,.asg (.c (.string ByteArray.empty))⟩,⟨some 6, none,.asg (.c (.bool false))⟩] [0,1] []
def z397r1:IC:=.reg [⟨some 7, none,.mv (.t 0)⟩,⟨some 8, none,.mv (.t 1)⟩,⟨some 9, none,.call zl230 [(.val,(.t 7)),(.val,(.t 8))] true⟩,⟨some 10, none,.extr (.t 9) 0⟩,⟨some 11, none,.extr (.t 9) 1⟩,⟨some 12, none,.extr (.t 9) 2⟩,⟨some 4, none,.asg (.t 10)⟩,⟨some 5, none,.asg (.t 11)⟩,⟨some 6, none,.asg (.t 12)⟩] [4,5,6] []
def zi397:IFun:=⟨[.t 4,.t 5,.t 6],[],(.seq z397r0 (.seq z397r1 .ret))⟩
def zi398:IFun:=⟨[.t 0],[],.ext ext_strings_Index⟩
def zi399:IFun:=⟨[.t 0],[],.ext ext_strings_Join⟩
def z400r0:IC:=.reg [⟨some 4, none,.asg (.c (.slice none 0 0))⟩] [0,1] []
def z400r1:IC:=.reg [⟨some 5, none,.mv (.t 0)⟩,⟨some 6, none,.mv (.t 1)⟩,⟨some 7, none,.call zl402 [(.val,(.t 5)),(.val,(.t 6)),(.val,(.c (vi 0))),(.val,(.c (vi (-1))))] true⟩,⟨some 4, none,.asg (.t 7)⟩] [4] []
def zi400:IFun:=⟨[.t 4],[],(.seq z400r0 (.seq z400r1 .ret))⟩
def z402r0:IC:=.reg [⟨some 8, none,.asg (.c (.slice none 0 0))⟩] [0,1,2,3] []
def z402r1:IC:=.reg [⟨some 12, none,.mv (.t 3)⟩,⟨some 13, none,.bin .eql (.t 12) (.c (vi 0))⟩] [0,1,2,3,13] []
def z402r2:IC:=.reg [⟨some 8, none,.asg (.c (.slice none 0 0))⟩] [8,9] []
def z402r3:IC:=.reg [⟨some 14, none,.mv (.t 1)⟩,⟨some 15, none,.bin .eql (.t 14) (.c (.string ByteArray.empty))⟩] [0,1,2,3,15] []
def z402r4:IC:=.reg [⟨some 16, none,.mv (.t 0)⟩,⟨some 17, none,.mv (.t 3)⟩,⟨some 18, none,.call zl401 [(.val,(.t 16)),(.val,(.t 17))] true⟩,⟨some 8, none,.asg (.t 18)⟩] [8,9] []
def z402r5:IC:=.reg [⟨some 19, none,.mv (.t 3)⟩,⟨some 20, none,.bin .lss (.t 19) (.c (vi 0))⟩] [0,1,2,3,20] []
def z402r6:IC:=.reg [⟨some 21, none,.mv (.t 0)⟩,⟨some 22, none,.mv (.t 1)⟩,⟨some 23, none,.call zl396 [(.val,(.t 21)),(.val,(.t 22))] true⟩,⟨some 24, none,.bin .add (.t 23) (.c (vi 1))⟩,⟨some 3, none,.asg (.t 24)⟩] [0,1,2,3] []
def z402r7:IC:=.reg [⟨some 25, none,.mv (.t 3)⟩,⟨some 26, none,.mv (.t 0)⟩,⟨some 27, none,.lens (.t 26)⟩,⟨some 28, none,.bin .add (.t 27) (.c (vi 1))⟩,⟨some 29, none,.minmax true (.t 25) (.t 28)⟩,⟨some 3, none,.asg (.t 29)⟩] [0,1,2,3] []
def z402r8:IC:=.reg [⟨some 30, none,.mv (.t 3)⟩,⟨some 31, none,.mksl 1 [(.string ByteArray.empty)] (.t 30) (.t 30)⟩,⟨some 9, none,.asg (.t 31)⟩] [0,1,2,3,9] []
def z402r9:IC:=.reg [⟨some 32, none,.mv (.t 3)⟩,⟨some 33, none,.bin .sub (.t 32) (.c (vi 1))⟩,⟨some 3, none,.asg (.t 33)⟩] [0,1,2,3,9] []
def z402r10:IC:=.reg [⟨some 10, none,.asg (.c (vi 0))⟩] [0,1,2,3,9,10] []
def z402r11:IC:=.reg [⟨some 34, none,.mv (.t 10)⟩,⟨some 35, none,.mv (.t 3)⟩,⟨some 36, none,.bin .lss (.t 34) (.t 35)⟩] [0,1,2,3,9,10,36] []
def z402r12:IC:=.reg [⟨some 37, none,.mv (.t 0)⟩,⟨some 38, none,.mv (.t 1)⟩,⟨some 39, none,.call zl398 [(.val,(.t 37)),(.val,(.t 38))] true⟩,⟨some 11, none,.asg (.t 39)⟩] [0,1,2,3,9,10,11] []
def z402r13:IC:=.reg [⟨some 40, none,.mv (.t 11)⟩,⟨some 41, none,.bin .lss (.t 40) (.c (vi 0))⟩] [0,1,2,3,9,10,11,41] []
def z402r14:IC:=.reg [⟨some 42, none,.mv (.t 9)⟩,⟨some 43, none,.mv (.t 10)⟩,⟨some 44, none,.mv (.t 0)⟩,⟨some 45, none,.mv (.t 11)⟩,⟨some 46, none,.mv (.t 2)⟩,⟨some 47, none,.bin .add (.t 45) (.t 46)⟩,⟨some 48, none,.slcs (.t 44) none (some (.t 47))⟩,⟨some 49, none,.iadr 1 (.t 42) (.t 43)⟩,⟨none,none,.store 1 (.t 49) (.t 48)⟩] [0,1,2,3,9,10,11] []
def z402r15:IC:=.reg [⟨some 50, none,.mv (.t 0)⟩,⟨some 51, none,.mv (.t 11)⟩,⟨some 52, none,.mv (.t 1)⟩,⟨some 53, none,.lens (.t 52)⟩,⟨some 54, none,.bin .add (.t 51) (.t 53)⟩,⟨some 55, none,.slcs (.t 50) (some (.t 54)) none⟩,⟨some 0, none,.asg (.t 55)⟩] [0,1,2,3,9,10] []
def z402r16:IC:=.reg [⟨some 56, none,.mv (.t 10)⟩,⟨some 57, none,.bin .add (.t 56) (.c (vi 1))⟩,⟨some 10, none,.asg (.t 57)⟩] [0,1,2,3,9,10] []
def z402l17:IC:=(.seq (.seq z402r11 (.cond (.t 36) .skip (.exit 0))) (.block 1 (.seq z402r12 (.seq (.seq z402r13 (.cond (.t 41) (.exit 0) .skip)) (.seq z402r14 (.seq z402r15 z402r16))))))
def z402r18:IC:=.reg [⟨some 58, none,.mv (.t 9)⟩,⟨some 59, none,.mv (.t 10)⟩,⟨some 60, none,.mv (.t 0)⟩,⟨some 61, none,.iadr 1 (.t 58) (.t 59)⟩,⟨none,none,.store 1 (.t 61) (.t 60)⟩] [9,10] []
def z402r19:IC:=.reg [⟨some 62, none,.mv (.t 9)⟩,⟨some 63, none,.mv (.t 10)⟩,⟨some 64, none,.bin .add (.t 63) (.c (vi 1))⟩,⟨some 65, none,.slc 1 (.t 62) none (some (.t 64)) none⟩,⟨some 8, none,.asgm (.t 65)⟩] [8,9] []
def zi402:IFun:=⟨[.t 8],[],(.seq z402r0 (.seq (.seq z402r1 (.cond (.t 13) (.seq z402r2 .ret) .skip)) (.seq (.seq z402r3 (.cond (.t 15) (.seq z402r4 .ret) .skip)) (.seq (.seq z402r5 (.cond (.t 20) z402r6 .skip)) (.seq z402r7 (.seq z402r8 (.seq z402r9 (.seq z402r10 (.seq (.block 0 (.loop z402l17)) (.seq z402r18 (.seq z402r19 .ret)))))))))))⟩
def tbl:List (Nat×IFun):=[(zl166,zi166),(zl192,zi192),(zl26,zi26),(zl204,zi204),(zl32,zi32),(zl208,zi208),(zl38,zi38),(zl217,zi217),(zl230,zi230),(zl231,zi231),(zl438,zi438),(zl237,zi237),(zl238,zi238),(zl258,zi258),(zl70,zi70),(zl261,zi261),(zl310,zi310),(zl323,zi323),(zl118,zi118),(zl122,zi122),(zl347,zi347),(zl126,zi126),(zl129,zi129),(zl352,zi352),(zl130,zi130),(zl132,zi132),(zl364,zi364),(zl137,zi137),(zl138,zi138),(zl367,zi367),(zl368,zi368),(zl139,zi139),(zl140,zi140),(zl145,zi145),(zl396,zi396),(zl397,zi397),(zl398,zi398),(zl399,zi399),(zl400,zi400),(zl402,zi402)]
def tb:Tbl:=tbOf tbl
theorem zt166:tb zl166=some zi166:=by kernel_rfl
theorem zt192:tb zl192=some zi192:=by kernel_rfl
theorem zt26:tb zl26=some zi26:=by kernel_rfl
theorem zt204:tb zl204=some zi204:=by kernel_rfl
theorem zt32:tb zl32=some zi32:=by kernel_rfl
theorem zt208:tb zl208=some zi208:=by kernel_rfl
theorem zt38:tb zl38=some zi38:=by kernel_rfl
theorem zt217:tb zl217=some zi217:=by kernel_rfl
theorem zt230:tb zl230=some zi230:=by kernel_rfl
theorem zt231:tb zl231=some zi231:=by kernel_rfl
theorem zt438:tb zl438=some zi438:=by kernel_rfl
theorem zt237:tb zl237=some zi237:=by kernel_rfl
theorem zt238:tb zl238=some zi238:=by kernel_rfl
theorem zt258:tb zl258=some zi258:=by kernel_rfl
theorem zt70:tb zl70=some zi70:=by kernel_rfl
theorem zt261:tb zl261=some zi261:=by kernel_rfl
theorem zt310:tb zl310=some zi310:=by kernel_rfl
theorem zt323:tb zl323=some zi323:=by kernel_rfl
theorem zt118:tb zl118=some zi118:=by kernel_rfl
theorem zt122:tb zl122=some zi122:=by kernel_rfl
theorem zt347:tb zl347=some zi347:=by kernel_rfl
theorem zt126:tb zl126=some zi126:=by kernel_rfl
theorem zt129:tb zl129=some zi129:=by kernel_rfl
theorem zt352:tb zl352=some zi352:=by kernel_rfl
theorem zt130:tb zl130=some zi130:=by kernel_rfl
theorem zt132:tb zl132=some zi132:=by kernel_rfl
theorem zt364:tb zl364=some zi364:=by kernel_rfl
theorem zt137:tb zl137=some zi137:=by kernel_rfl
theorem zt138:tb zl138=some zi138:=by kernel_rfl
theorem zt367:tb zl367=some zi367:=by kernel_rfl
theorem zt368:tb zl368=some zi368:=by kernel_rfl
theorem zt139:tb zl139=some zi139:=by kernel_rfl
theorem zt140:tb zl140=some zi140:=by kernel_rfl
theorem zt145:tb zl145=some zi145:=by kernel_rfl
theorem zt396:tb zl396=some zi396:=by kernel_rfl
theorem zt397:tb zl397=some zi397:=by kernel_rfl
theorem zt398:tb zl398=some zi398:=by kernel_rfl
theorem zt399:tb zl399=some zi399:=by kernel_rfl
theorem zt400:tb zl400=some zi400:=by kernel_rfl
theorem zt402:tb zl402=some zi402:=by kernel_rfl
end Go.Idl
