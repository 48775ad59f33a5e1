/- Part 4 of a proof by an ideal interpreter of the code: its definitions and lemmas. Conditions: none. -/
import Derived.KernelRfl
import Derived.Test.YtmkagmhkjafpfaaA3
set_option linter.all false
set_option linter.unusedVariables false
set_option linter.unusedSimpArgs false
namespace Go.Idl
open Go
abbrev vi (n:Int):Value:=.int .i64 n
abbrev zl2:Lab:=2
abbrev zl4:Lab:=4
abbrev zl7:Lab:=7
abbrev zl8:Lab:=8
abbrev zl10:Lab:=10
abbrev zl18:Lab:=18
abbrev zl19:Lab:=19
abbrev zl20:Lab:=20
abbrev zl25:Lab:=25
abbrev zl29:Lab:=29
abbrev zl30:Lab:=30
abbrev zl31:Lab:=31
abbrev zl35:Lab:=35
abbrev zl37:Lab:=37
abbrev zl38:Lab:=38
abbrev zl40:Lab:=40
abbrev zl53:Lab:=53
abbrev zl66:Lab:=66
abbrev zl67:Lab:=67
abbrev zl68:Lab:=68
abbrev zl70:Lab:=70
abbrev zl71:Lab:=71
abbrev zl72:Lab:=72
abbrev zl73:Lab:=73
abbrev zl76:Lab:=76
abbrev zl78:Lab:=78
abbrev zl80:Lab:=80
abbrev zl82:Lab:=82
abbrev zl84:Lab:=84
abbrev zl86:Lab:=86
abbrev zl95:Lab:=95
abbrev zl98:Lab:=98
abbrev zl99:Lab:=99
abbrev zl101:Lab:=101
abbrev zl103:Lab:=103
abbrev zl118:Lab:=118
abbrev zl122:Lab:=122
abbrev zl123:Lab:=123
abbrev zl125:Lab:=125
abbrev zl127:Lab:=127
abbrev zl130:Lab:=130
abbrev zl132:Lab:=132
abbrev zl135:Lab:=135
abbrev zl137:Lab:=137
abbrev zl138:Lab:=138
abbrev zl139:Lab:=139
abbrev zl140:Lab:=140
abbrev zl141:Lab:=141
abbrev zl144:Lab:=144
abbrev zl154:Lab:=154
abbrev zl155:Lab:=155
abbrev zl156:Lab:=156
abbrev zl157:Lab:=157
abbrev zl158:Lab:=158
abbrev zl159:Lab:=159
abbrev zl164:Lab:=164
abbrev zl186:Lab:=186
abbrev zl187:Lab:=187
abbrev zl197:Lab:=197
abbrev zl204:Lab:=204
abbrev zl206:Lab:=206
abbrev zl213:Lab:=213
abbrev zl216:Lab:=216
abbrev zl218:Lab:=218
abbrev zl219:Lab:=219
abbrev zl258:Lab:=258
abbrev zl261:Lab:=261
abbrev zl267:Lab:=267
abbrev zl331:Lab:=331
abbrev zl357:Lab:=357
abbrev zl360:Lab:=360
abbrev zl376:Lab:=376
abbrev zl380:Lab:=380
abbrev zl382:Lab:=382
abbrev zl499:Lab:=499
abbrev zl500:Lab:=500
abbrev zl501:Lab:=501
abbrev zl527:Lab:=527
abbrev zl548:Lab:=548
abbrev zl553:Lab:=553
abbrev zl558:Lab:=558
abbrev zl560:Lab:=560
abbrev zl582:Lab:=582
abbrev zl593:Lab:=593
def z2r0:IC:=.reg [⟨some 4, none,.asg (.c (.bool false))⟩] [0,1] []
def z2r1:IC:=.reg [⟨some 5, none,.mv (.t 0)⟩,⟨some 6, none,.call zl4 [(.val,(.t 5))] true⟩,⟨some 7, none,.asg (.t 6)⟩,⟨some 8, (some (7,true)),.mv (.t 1)⟩,⟨some 9, (some (7,true)),.call zl4 [(.val,(.t 8))] true⟩,⟨some 10, (some (7,true)),.unop .not (.t 9)⟩,⟨some 11, none,.pick (.t 7) (.t 10) (.c (.bool false))⟩,⟨some 12, none,.asg (.t 11)⟩,⟨some 13, (some (12,false)),.mv (.t 0)⟩,⟨some 14, (some (12,false)),.mv (.t 1)⟩,⟨some 15, (some (12,false)),.bin .lss (.t 13) (.t 14)⟩,⟨some 16, none,.pick (.t 12) (.c (.bool true)) (.t 15)⟩,⟨some 4, none,.asg (.t 16)⟩] [4] []
def zi2:IFun:=⟨[.t 4],[],(.seq z2r0 (.seq z2r1 .ret))⟩
def z4r0:IC:=.reg [⟨some 2, none,.asg (.c (.bool false))⟩] [0] []
def z4r1:IC:=.reg [⟨some 3, none,.mv (.t 0)⟩,⟨some 4, none,.mv (.t 0)⟩,⟨some 5, none,.bin .neq (.t 3) (.t 4)⟩,⟨some 2, none,.asg (.t 5)⟩] [2] []
def zi4:IFun:=⟨[.t 2],[],(.seq z4r0 (.seq z4r1 .ret))⟩
def z499r0:IC:=.reg [⟨some 6, none,.asg (.c (.slice none 0 0))⟩,⟨some 7, none,.asg (.c (.bool false))⟩] [0,1,2] []
def z499r1:IC:=.reg [⟨some 14, none,.mv (.t 0)⟩,⟨some 15, none,.len (.t 14)⟩,⟨some 8, none,.alloc [(vi 0)]⟩,⟨none,none,.store 1 (.t 8) (.t 15)⟩] [0,1,2,8] []
def z499r2:IC:=.reg [⟨some 16, none,.mv (.t 0)⟩,⟨some 17, none,.mv (.t 1)⟩,⟨some 18, none,.bsl 1 [(.slice none 0 0)] 2 [(0,(.t 16)),(1,(.t 17))]⟩,⟨some 19, none,.call zl548 [(.rd,(.t 18))] true⟩,⟨some 20, none,.call zl10 [(.rd,(.t 19))] true⟩,⟨some 21, none,.unop .not (.t 20)⟩,⟨some 22, none,.asg (.t 21)⟩,⟨some 23, (some (22,false)),.mv (.t 2)⟩,⟨some 24, (some (22,false)),.call zl10 [(.rd,(.t 23))] true⟩,⟨some 25, (some (22,false)),.unop .not (.t 24)⟩,⟨some 26, none,.pick (.t 22) (.c (.bool true)) (.t 25)⟩,⟨some 27, none,.asg (.t 26)⟩,⟨some 28, (some (27,false)),.mv (.t 0)⟩,⟨some 29, (some (27,false)),.call zl40 [(.rd,(.t 28))] true⟩,⟨some 30, (some (27,false)),.mv (.t 1)⟩,⟨some 31, (some (27,false)),.call zl40 [(.rd,(.t 30))] true⟩,⟨some 32, (some (27,false)),.load false 1 (.t 8)⟩,⟨some 33, (some (27,false)),.load false 1 (.t 8)⟩,
    ⟨some 34, (some (27,false)),.bin .sub (.t 33) (.c (vi 1))⟩,⟨some 35, (some (27,false)),.bin .mul (.t 32) (.t 34)⟩,⟨some 36, (some (27,false)),.bin .add (.t 31) (.t 35)⟩,⟨some 37, (some (27,false)),.bin .neq (.t 29) (.t 36)⟩,⟨some 38, none,.pick (.t 27) (.c (.bool true)) (.t 37)⟩,⟨some 39, none,.asg (.t 38)⟩,⟨some 40, (some (39,false)),.mv (.t 0)⟩,⟨some 41, (some (39,false)),.mkfn zl500 [(.t 8)]⟩,⟨some 42, (some (39,false)),.call zl72 [(.rd,(.t 40)),(.val,(.t 41))] false⟩,⟨some 43, none,.pick (.t 39) (.c (.bool true)) (.t 42)⟩,⟨some 44, none,.asg (.t 43)⟩,⟨some 45, (some (44,false)),.mv (.t 1)⟩,⟨some 46, (some (44,false)),.mkfn zl501 [(.t 8)]⟩,⟨some 47, (some (44,false)),.call zl72 [(.rd,(.t 45)),(.val,(.t 46))] false⟩,⟨some 48, none,.pick (.t 44) (.c (.bool true)) (.t 47)⟩,⟨some 49, none,.asg (.t 48)⟩,⟨some 50, (some (49,false)),.load false 1 (.t 8)⟩,
    ⟨some 51, (some (49,false)),.mv (.t 1)⟩,⟨some 52, (some (49,false)),.len (.t 51)⟩,⟨some 53, (some (49,false)),.bin .add (.t 50) (.t 52)⟩,⟨some 54, (some (49,false)),.mv (.t 2)⟩,⟨some 55, (some (49,false)),.len (.t 54)⟩,⟨some 56, (some (49,false)),.bin .add (.t 53) (.t 55)⟩,⟨some 57, (some (49,false)),.bin .gtr (.t 56) (.c (vi 7))⟩,
    ⟨some 58, none,.pick (.t 49) (.c (.bool true)) (.t 57)⟩] [0,1,2,8,58] [[0,1,2,3,4,5,6,7,8,9,10,11,12,13,14,17,15,16,18,19,20,21,22,23,24,25,26,27,28,29,30,31,32,33,34,35,36,37,38,39,40,41,42],[0,1,2,3,4,5,6,7,8,9,10,11,12,14,17,13,15,16,18,19,20,21,22,23,24,25,26,27,28,29,30,31,32,33,34,35,36,37,38,39,40,41,42],[0,1,2,3,4,5,6,7,8,9,10,11,12,13,14,16,15,17,18,19,20,21,22,23,24,25,26,27,28,29,30,31,32,33,34,35,36,37,38,39,40,41,42],[0,1,2,3,4,5,6,7,8,9,10,11,12,13,14,16,17,15,18,19,20,21,22,23,24,25,26,27,28,29,30,31,32,33,34,35,36,37,38,39,40,41,42],[0,1,2,3,4,5,6,7,8,9,10,11,12,14,17,13,16,15,18,19,20,21,22,23,24,25,26,27,28,29,30,31,32,33,34,35,36,37,38,39,40,41,42],[0,1,2,3,4,5,6,7,8,9,10,11,12,14,16,13,15,17,18,19,20,21,22,23,24,25,26,27,28,29,30,31,32,33,34,35,36,37,38,39,40,41,42],[0,1,2,3,4,5,6,7,8,9,10,11,12,14,16,13,17,15,18,19,20,21,22,23,24,25,26,27,28,29,30,31,32,33,34,35,36,37,38,39,40,41,42],[0,1,2,3,4,5,6,7,8,9,10,11,12,14,16,17,13,15,18,19,20,21,22,23,24,25,26,27,28,29,30,31,32,33,34,35,36,37,38,39,40,41,42]]
def z499r3:IC:=.reg [⟨some 6, none,.asg (.c (.slice none 0 0))⟩,⟨some 7, none,.asg (.c (.bool false))⟩] [6,7] []
def z499r4:IC:=.reg [⟨some 9, none,.asg (.c (.slice none 0 0))⟩] [0,1,2,8,9] []
def z499r5:IC:=.reg [⟨some 59, none,.mv (.t 0)⟩,⟨some 60, none,.len (.t 59)⟩,⟨some 61, none,.mv (.c (vi 0))⟩] [0,1,2,8,9,59,60,61] []
def z499r6:IC:=.reg [⟨some 62, none,.bin .lss (.t 61) (.t 60)⟩] [0,1,2,8,9,59,60,61,62] []
def z499r7:IC:=.reg [⟨some 63, none,.iadr 1 (.t 59) (.t 61)⟩,⟨some 64, none,.load false 1 (.t 63)⟩,⟨some 11, none,.asg (.t 64)⟩] [0,1,2,8,9,11,59,60,61] []
def z499r8:IC:=.reg [⟨some 65, none,.mv (.t 9)⟩,⟨some 66, none,.mv (.t 11)⟩,⟨some 67, none,.mv (.t 2)⟩,⟨some 68, none,.len (.t 67)⟩,⟨some 69, none,.bin .add (.t 66) (.t 68)⟩,⟨some 70, none,.bsl 1 [(vi 0)] 1 [(0,(.t 69))]⟩,⟨some 71, none,.app 1 (.t 65) (.t 70)⟩,⟨some 9, none,.asg (.t 71)⟩] [0,1,2,8,9,59,60,61] []
def z499r9:IC:=.reg [⟨some 72, none,.bin .add (.t 61) (.c (vi 1))⟩,⟨some 61, none,.asg (.t 72)⟩] [0,1,2,8,9,59,60,61] []
def z499l10:IC:=(.seq z499r6 (.seq (.cond (.t 62) .skip (.exit 0)) (.seq (.block 1 (.seq z499r7 z499r8)) z499r9)))
def z499r11:IC:=.reg [⟨some 73, none,.mv (.t 2)⟩,⟨some 74, none,.len (.t 73)⟩,⟨some 75, none,.mv (.c (vi 0))⟩] [1,2,8,9,73,74,75] []
def z499r12:IC:=.reg [⟨some 76, none,.bin .lss (.t 75) (.t 74)⟩] [1,2,8,9,73,74,75,76] []
def z499r13:IC:=.reg [⟨some 77, none,.iadr 1 (.t 73) (.t 75)⟩,⟨some 78, none,.load false 1 (.t 77)⟩,⟨some 13, none,.asg (.t 78)⟩] [1,2,8,9,13,73,74,75] []
def z499r14:IC:=.reg [⟨some 79, none,.mv (.t 9)⟩,⟨some 80, none,.mv (.t 13)⟩,⟨some 81, none,.load false 1 (.t 8)⟩,⟨some 82, none,.bin .add (.t 80) (.t 81)⟩,⟨some 83, none,.bsl 1 [(vi 0)] 1 [(0,(.t 82))]⟩,⟨some 84, none,.app 1 (.t 79) (.t 83)⟩,⟨some 9, none,.asg (.t 84)⟩] [1,2,8,9,73,74,75] []
def z499r15:IC:=.reg [⟨some 85, none,.bin .add (.t 75) (.c (vi 1))⟩,⟨some 75, none,.asg (.t 85)⟩] [1,2,8,9,73,74,75] []
def z499l16:IC:=(.seq z499r12 (.seq (.cond (.t 76) .skip (.exit 2)) (.seq (.block 3 (.seq z499r13 z499r14)) z499r15)))
def z499r17:IC:=.reg [⟨some 86, none,.mv (.t 9)⟩,⟨some 87, none,.mv (.t 1)⟩,⟨some 88, none,.app 1 (.t 86) (.t 87)⟩,⟨some 89, none,.call zl31 [(.rd,(.t 88))] true⟩,⟨some 6, none,.asg (.t 89)⟩,⟨some 7, none,.asg (.c (.bool true))⟩] [6,7] []
def zi499:IFun:=⟨[.t 6,.t 7],[],(.seq z499r0 (.seq z499r1 (.seq (.seq z499r2 (.cond (.t 58) (.seq z499r3 .ret) .skip)) (.seq z499r4 (.seq (.seq z499r5 (.block 0 (.loop z499l10))) (.seq (.seq z499r11 (.block 2 (.loop z499l16))) (.seq z499r17 .ret)))))))⟩
def z500r0:IC:=.reg [⟨some 3, none,.asg (.c (.bool false))⟩] [0,1] []
def z500r1:IC:=.reg [⟨some 4, none,.mv (.t 0)⟩,⟨some 5, none,.load false 1 (.t 1)⟩,⟨some 6, none,.bin .sub (.t 5) (.c (vi 1))⟩,⟨some 7, none,.bin .lss (.t 4) (.t 6)⟩,⟨some 3, none,.asg (.t 7)⟩] [3] []
def zi500:IFun:=⟨[.t 3],[],(.seq z500r0 (.seq z500r1 .ret))⟩
def z501r0:IC:=.reg [⟨some 3, none,.asg (.c (.bool false))⟩] [0,1] []
def z501r1:IC:=.reg [⟨some 4, none,.mv (.t 0)⟩,⟨some 5, none,.load false 1 (.t 1)⟩,⟨some 6, none,.bin .gtr (.t 4) (.t 5)⟩,⟨some 3, none,.asg (.t 6)⟩] [3] []
def zi501:IFun:=⟨[.t 3],[],(.seq z501r0 (.seq z501r1 .ret))⟩
def z154r0:IC:=.reg [⟨some 2, none,.asg (.c (.slice none 0 0))⟩] [0] []
def z154r1:IC:=.reg [⟨some 4, none,.mv (.t 0)⟩,⟨some 5, none,.call zl37 [(.rd,(.t 4))] true⟩,⟨some 3, none,.alloc [(.slice none 0 0)]⟩,⟨none,none,.storef 1 (.t 3) (.t 5)⟩] [0,3] []
def z154r2:IC:=.reg [⟨some 6, none,.mv (.t 0)⟩,⟨some 7, none,.mkfn zl155 [(.t 3)]⟩,⟨some 8, none,.call zl35 [(.rd,(.t 6)),(.val,(.t 7))] false⟩,⟨some 2, none,.asg (.t 8)⟩] [2] []
def zi154:IFun:=⟨[.t 2],[],(.seq z154r0 (.seq z154r1 (.seq z154r2 .ret)))⟩
def z155r0:IC:=.reg [⟨some 2, none,.box (.t 0)⟩,⟨some 3, none,.asg (.c (vi 0))⟩] [1,2] []
def z155r1:IC:=.reg [⟨some 4, none,.load false 1 (.t 1)⟩,⟨some 5, none,.load false 1 (.t 2)⟩,⟨some 6, none,.slc 1 (.t 4) none (some (.t 5)) none⟩,⟨some 7, none,.mkfn zl156 [(.t 2)]⟩,⟨some 8, none,.call zl206 [(.rd,(.t 6)),(.val,(.t 7))] false⟩,⟨some 9, none,.load false 1 (.t 1)⟩,⟨some 10, none,.load false 1 (.t 2)⟩,⟨some 11, none,.bin .add (.t 10) (.c (vi 1))⟩,⟨some 12, none,.slc 1 (.t 9) (some (.t 11)) none none⟩,⟨some 13, none,.mkfn zl157 [(.t 2)]⟩,⟨some 14, none,.call zl206 [(.rd,(.t 12)),(.val,(.t 13))] false⟩,⟨some 15, none,.bin .add (.t 8) (.t 14)⟩,⟨some 3, none,.asg (.t 15)⟩] [3] [[0,1,2,3,6,4,5,7,8,9,10,11,12],[0,1,2,3,5,4,6,7,8,9,10,11,12],[0,1,2,3,5,6,4,7,8,9,10,11,12]]
def zi155:IFun:=⟨[.t 3],[],(.seq z155r0 (.seq z155r1 .ret))⟩
def z156r0:IC:=.reg [⟨some 3, none,.asg (.c (.bool false))⟩] [0,1] []
def z156r1:IC:=.reg [⟨some 4, none,.mv (.t 0)⟩,⟨some 5, none,.load false 1 (.t 1)⟩,⟨some 6, none,.bin .geq (.t 4) (.t 5)⟩,⟨some 3, none,.asg (.t 6)⟩] [3] []
def zi156:IFun:=⟨[.t 3],[],(.seq z156r0 (.seq z156r1 .ret))⟩
def z157r0:IC:=.reg [⟨some 3, none,.asg (.c (.bool false))⟩] [0,1] []
def z157r1:IC:=.reg [⟨some 4, none,.mv (.t 0)⟩,⟨some 5, none,.load false 1 (.t 1)⟩,⟨some 6, none,.bin .gtr (.t 4) (.t 5)⟩,⟨some 3, none,.asg (.t 6)⟩] [3] []
def zi157:IFun:=⟨[.t 3],[],(.seq z157r0 (.seq z157r1 .ret))⟩
def z158r0:IC:=.reg [⟨some 2, none,.asg (.c (vi 0))⟩] [0] []
def z158r1:IC:=.reg [⟨some 4, none,.mv (.t 0)⟩,⟨some 5, none,.call zl213 [(.rd,(.t 4)),(.val,(.c (vi 6)))] true⟩,⟨some 6, none,.unop .not (.t 5)⟩] [0,6] []
def z158r2:IC:=.reg [⟨some 2, none,.asg (.c (vi (-1)))⟩] [2] []
def z158r3:IC:=.reg [⟨some 3, none,.alloc [(vi 0)]⟩,⟨none,none,.store 1 (.t 3) (.c (vi 0))⟩] [0,3] []
def z158r4:IC:=.reg [⟨some 7, none,.mv (.t 0)⟩,⟨some 8, none,.len (.t 7)⟩,⟨some 9, none,.mv (.t 0)⟩,⟨some 10, none,.len (.t 9)⟩,⟨some 11, none,.call zl216 [(.val,(.t 10))] true⟩,⟨some 12, none,.mv (.t 0)⟩,⟨some 13, none,.mkfn zl159 [(.t 3)]⟩,⟨some 14, none,.call zl218 [(.val,(.t 8)),(.rd,(.t 11)),(.rd,(.t 12)),(.val,(.t 13))] false⟩] [3] []
def z158r5:IC:=.reg [⟨some 15, none,.load false 1 (.t 3)⟩,⟨some 2, none,.asg (.t 15)⟩] [2] []
def zi158:IFun:=⟨[.t 2],[],(.seq z158r0 (.seq (.seq z158r1 (.cond (.t 6) (.seq z158r2 .ret) .skip)) (.seq z158r3 (.seq z158r4 (.seq z158r5 .ret)))))⟩
def z159r0:IC:=.reg [⟨some 2, none,.box (.t 0)⟩,⟨some 3, none,.asg (.c (.bool false))⟩] [1] []
def z159r1:IC:=.reg [⟨some 4, none,.load false 1 (.t 1)⟩,⟨some 5, none,.bin .add (.t 4) (.c (vi 1))⟩,⟨none,none,.store 1 (.t 1) (.t 5)⟩] [] []
def z159r2:IC:=.reg [⟨some 3, none,.asg (.c (.bool true))⟩] [3] []
def zi159:IFun:=⟨[.t 3],[],(.seq z159r0 (.seq z159r1 (.seq z159r2 .ret)))⟩
def z164r0:IC:=.reg [⟨some 2, none,.asg (.c (vi 0))⟩] [0] []
def z164r1:IC:=.reg [⟨some 3, none,.asg (.c (vi 0))⟩] [0,3] []
def z164r2:IC:=.reg [⟨some 6, none,.mv (.t 0)⟩,⟨some 7, none,.call zl20 [(.rd,(.t 6))] true⟩,⟨some 8, none,.len (.t 7)⟩,⟨some 9, none,.mv (.c (vi 0))⟩] [3,7,8,9] []
def z164r3:IC:=.reg [⟨some 10, none,.bin .lss (.t 9) (.t 8)⟩] [3,7,8,9,10] []
def z164r4:IC:=.reg [⟨some 11, none,.asg (.t 9)⟩,⟨some 12, none,.iadr 1 (.t 7) (.t 9)⟩,⟨some 13, none,.load false 1 (.t 12)⟩,⟨some 4, none,.asg (.t 11)⟩,⟨some 5, none,.asg (.t 13)⟩] [3,4,5,7,8,9] []
def z164r5:IC:=.reg [⟨some 14, none,.mv (.t 5)⟩,⟨some 15, none,.mv (.t 4)⟩,⟨some 16, none,.bin .geq (.t 14) (.t 15)⟩] [3,4,7,8,9,16] []
def z164r6:IC:=.reg [⟨some 17, none,.mv (.t 4)⟩,⟨some 18, none,.bin .add (.t 17) (.c (vi 1))⟩,⟨some 3, none,.asg (.t 18)⟩] [3,7,8,9] []
def z164r7:IC:=.reg [⟨some 19, none,.bin .add (.t 9) (.c (vi 1))⟩,⟨some 9, none,.asg (.t 19)⟩] [3,7,8,9] []
def z164l8:IC:=(.seq z164r3 (.seq (.cond (.t 10) .skip (.exit 0)) (.seq (.block 1 (.seq z164r4 (.seq z164r5 (.cond (.t 16) z164r6 .skip)))) z164r7)))
def z164r9:IC:=.reg [⟨some 20, none,.mv (.t 3)⟩,⟨some 2, none,.asgm (.t 20)⟩] [2] []
def zi164:IFun:=⟨[.t 2],[],(.seq z164r0 (.seq z164r1 (.seq (.seq z164r2 (.block 0 (.loop z164l8))) (.seq z164r9 .ret))))⟩
def z7r0:IC:=.reg [⟨some 2, none,.asg (.c (vi 0))⟩] [0] []
def z7r1:IC:=.reg [⟨some 3, none,.mv (.t 0)⟩,⟨some 4, none,.call zl18 [(.rd,(.t 3))] true⟩,⟨some 5, none,.call zl73 [(.rd,(.t 4)),(.val,(.f zl8))] false⟩,⟨some 6, none,.bin .add (.t 5) (.c (vi 1))⟩,⟨some 2, none,.asg (.t 6)⟩] [2] []
def zi7:IFun:=⟨[.t 2],[],(.seq z7r0 (.seq z7r1 .ret))⟩
def z8r0:IC:=.reg [⟨some 2, none,.asg (.c (.bool false))⟩] [0] []
def z8r1:IC:=.reg [⟨some 3, none,.mv (.t 0)⟩,⟨some 4, none,.bin .lss (.t 3) (.c (vi 0))⟩,⟨some 2, none,.asg (.t 4)⟩] [2] []
def zi8:IFun:=⟨[.t 2],[],(.seq z8r0 (.seq z8r1 .ret))⟩
def z10r0:IC:=.reg [⟨some 2, none,.asg (.c (.bool false))⟩] [0] []
def z10r1:IC:=.reg [⟨some 3, none,.mv (.t 0)⟩,⟨some 4, none,.call zl25 [(.rd,(.t 3))] true⟩,⟨some 5, none,.asg (.t 4)⟩,⟨some 6, (some (5,true)),.mv (.t 0)⟩,⟨some 7, (some (5,true)),.call zl40 [(.rd,(.t 6))] true⟩,⟨some 8, (some (5,true)),.bin .rem (.t 7) (.c (vi 2))⟩,⟨some 9, (some (5,true)),.bin .eql (.t 8) (.c (vi 0))⟩,⟨some 10, none,.pick (.t 5) (.t 9) (.c (.bool false))⟩,⟨some 11, none,.asg (.t 10)⟩,⟨some 12, (some (11,true)),.mv (.t 0)⟩,⟨some 13, (some (11,true)),.call zl7 [(.rd,(.t 12))] true⟩,⟨some 14, (some (11,true)),.bin .eql (.t 13) (.c (vi 0))⟩,⟨some 15, none,.pick (.t 11) (.t 14) (.c (.bool false))⟩,⟨some 2, none,.asg (.t 15)⟩] [2] []
def zi10:IFun:=⟨[.t 2],[],(.seq z10r0 (.seq z10r1 .ret))⟩
def z186r0:IC:=.reg [⟨some 2, none,.asg (.c (.bool false))⟩] [0] []
def z186r1:IC:=.reg [⟨some 3, none,.mv (.t 0)⟩,⟨some 4, none,.call zl197 [(.rd,(.t 3))] true⟩,⟨some 5, none,.bin .eql (.t 4) (.c (vi 0))⟩,⟨some 2, none,.asg (.t 5)⟩] [2] []
def zi186:IFun:=⟨[.t 2],[],(.seq z186r0 (.seq z186r1 .ret))⟩
def z187r0:IC:=.reg [⟨some 2, none,.asg (.c (.bool false))⟩] [0] []
def z187r1:IC:=.reg [⟨some 3, none,.mv (.t 0)⟩,⟨some 4, none,.call zl25 [(.rd,(.t 3))] true⟩,⟨some 5, none,.asg (.t 4)⟩,⟨some 6, (some (5,true)),.mv (.t 0)⟩,⟨some 7, (some (5,true)),.call zl37 [(.rd,(.t 6))] true⟩,⟨some 8, (some (5,true)),.mv (.t 0)⟩,⟨some 9, (some (5,true)),.call zl154 [(.rd,(.t 8))] true⟩,⟨some 10, (some (5,true)),.call zl267 [(.rd,(.t 7)),(.rd,(.t 9))] true⟩,⟨some 11, none,.pick (.t 5) (.t 10) (.c (.bool false))⟩,⟨some 2, none,.asg (.t 11)⟩] [2] []
def zi187:IFun:=⟨[.t 2],[],(.seq z187r0 (.seq z187r1 .ret))⟩
def z18r0:IC:=.reg [⟨some 2, none,.asg (.c (.slice none 0 0))⟩] [0] []
def z18r1:IC:=.reg [⟨some 4, none,.mv (.t 0)⟩,⟨some 5, none,.call zl37 [(.rd,(.t 4))] true⟩,⟨some 3, none,.alloc [(.slice none 0 0)]⟩,⟨none,none,.store 1 (.t 3) (.t 5)⟩] [0,3] []
def z18r2:IC:=.reg [⟨some 6, none,.mv (.t 0)⟩,⟨some 7, none,.mkfn zl19 [(.t 3)]⟩,⟨some 8, none,.call zl35 [(.rd,(.t 6)),(.val,(.t 7))] false⟩,⟨some 2, none,.asg (.t 8)⟩] [2] []
def zi18:IFun:=⟨[.t 2],[],(.seq z18r0 (.seq z18r1 (.seq z18r2 .ret)))⟩
def z19r0:IC:=.reg [⟨some 3, none,.asg (.c (vi 0))⟩] [0,1] []
def z19r1:IC:=.reg [⟨some 8, none,.mv (.t 0)⟩,⟨some 9, none,.bin .add (.t 8) (.c (vi 1))⟩,⟨some 4, none,.asg (.t 9)⟩] [1,4] []
def z19r2:IC:=.reg [⟨some 10, none,.mv (.t 4)⟩,⟨some 11, none,.mv (.t 4)⟩,⟨some 12, none,.bin .sub (.t 11) (.c (vi 1))⟩,⟨some 13, none,.bin .mul (.t 10) (.t 12)⟩,⟨some 14, none,.load false 1 (.t 1)⟩,⟨some 15, none,.mv (.t 4)⟩,⟨some 16, none,.slc 1 (.t 14) none (some (.t 15)) none⟩,⟨some 17, none,.call zl40 [(.rd,(.t 16))] true⟩,⟨some 18, none,.bin .sub (.t 13) (.t 17)⟩,⟨some 5, none,.asg (.t 18)⟩] [1,4,5] []
def z19r3:IC:=.reg [⟨some 19, none,.load false 1 (.t 1)⟩,⟨some 20, none,.mv (.t 4)⟩,⟨some 21, none,.slc 1 (.t 19) (some (.t 20)) none none⟩,⟨some 22, none,.len (.t 21)⟩,⟨some 23, none,.mv (.c (vi 0))⟩] [1,4,5,21,22,23] []
def z19r4:IC:=.reg [⟨some 24, none,.bin .lss (.t 23) (.t 22)⟩] [1,4,5,21,22,23,24] []
def z19r5:IC:=.reg [⟨some 25, none,.iadr 1 (.t 21) (.t 23)⟩,⟨some 26, none,.load false 1 (.t 25)⟩,⟨some 7, none,.asg (.t 26)⟩] [1,4,5,7,21,22,23] []
def z19r6:IC:=.reg [⟨some 27, none,.mv (.t 5)⟩,⟨some 28, none,.mv (.t 7)⟩,⟨some 29, none,.mv (.t 4)⟩,⟨some 30, none,.minmax true (.t 28) (.t 29)⟩,⟨some 31, none,.bin .add (.t 27) (.t 30)⟩,⟨some 5, none,.asg (.t 31)⟩] [1,4,5,21,22,23] []
def z19r7:IC:=.reg [⟨some 32, none,.bin .add (.t 23) (.c (vi 1))⟩,⟨some 23, none,.asg (.t 32)⟩] [1,4,5,21,22,23] []
def z19l8:IC:=(.seq z19r4 (.seq (.cond (.t 24) .skip (.exit 0)) (.seq (.block 1 (.seq z19r5 z19r6)) z19r7)))
def z19r9:IC:=.reg [⟨some 33, none,.mv (.t 5)⟩,⟨some 3, none,.asgm (.t 33)⟩] [3] []
def zi19:IFun:=⟨[.t 3],[],(.seq z19r0 (.seq z19r1 (.seq z19r2 (.seq (.seq z19r3 (.block 0 (.loop z19l8))) (.seq z19r9 .ret)))))⟩
def z20r0:IC:=.reg [⟨some 2, none,.asg (.c (.slice none 0 0))⟩] [0] []
def z20r1:IC:=.reg [⟨some 3, none,.mv (.t 0)⟩,⟨some 4, none,.call zl25 [(.rd,(.t 3))] true⟩,⟨some 5, none,.unop .not (.t 4)⟩] [0,5] []
def z20r2:IC:=.reg [⟨some 2, none,.asg (.c (.slice none 0 0))⟩] [2] []
def z20r3:IC:=.reg [⟨some 6, none,.mv (.t 0)⟩,⟨some 7, none,.call zl37 [(.rd,(.t 6))] true⟩,⟨some 2, none,.asg (.t 7)⟩] [2] []
def zi20:IFun:=⟨[.t 2],[],(.seq z20r0 (.seq (.seq z20r1 (.cond (.t 5) (.seq z20r2 .ret) .skip)) (.seq z20r3 .ret)))⟩
def z197r0:IC:=.reg [⟨some 2, none,.asg (.c (vi 0))⟩] [0] []
def z197r1:IC:=.reg [⟨some 4, none,.mv (.t 0)⟩,⟨some 5, none,.call zl10 [(.rd,(.t 4))] true⟩,⟨some 6, none,.unop .not (.t 5)⟩,⟨some 3, none,.asg (.t 6)⟩] [0,3] []
def z197r2:IC:=.reg [⟨some 2, none,.asg (.c (vi (-1)))⟩] [2] []
def z197r3:IC:=.reg [⟨some 8, none,.mv (.t 0)⟩,⟨some 9, none,.len (.t 8)⟩,⟨some 10, none,.bin .eql (.t 9) (.c (vi 0))⟩,⟨some 7, none,.asg (.t 10)⟩] [0,7] []
def z197r4:IC:=.reg [⟨some 2, none,.asg (.c (vi 0))⟩] [2] []
def z197r5:IC:=.reg [⟨some 11, none,.mv (.t 0)⟩,⟨some 12, none,.call zl18 [(.rd,(.t 11))] true⟩,⟨some 13, none,.mv (.t 0)⟩,⟨some 14, none,.call zl164 [(.rd,(.t 13))] true⟩,⟨some 15, none,.bin .sub (.t 14) (.c (vi 1))⟩,⟨some 16, none,.iadr 1 (.t 12) (.t 15)⟩,⟨some 17, none,.load false 1 (.t 16)⟩,⟨some 18, none,.bin .quo (.t 17) (.c (vi 2))⟩,⟨some 2, none,.asg (.t 18)⟩] [2] []
def zi197:IFun:=⟨[.t 2],[],(.seq z197r0 (.seq (.block 0 (.seq z197r1 (.cond (.t 3) (.seq z197r2 .ret) (.seq z197r3 (.cond (.t 7) (.seq z197r4 .ret) .skip))))) (.seq z197r5 .ret)))⟩
def z25r0:IC:=.reg [⟨some 2, none,.asg (.c (.bool false))⟩] [0] []
def z25r1:IC:=.reg [⟨some 3, none,.mv (.t 0)⟩,⟨some 4, none,.len (.t 3)⟩,⟨some 5, none,.bin .leq (.t 4) (.c (vi 7))⟩,⟨some 6, none,.asg (.t 5)⟩,⟨some 7, (some (6,true)),.mv (.t 0)⟩,⟨some 8, (some (6,true)),.mv (.t 0)⟩,⟨some 9, (some (6,true)),.len (.t 8)⟩,⟨some 10, (some (6,true)),.bin .sub (.t 9) (.c (vi 1))⟩,⟨some 11, (some (6,true)),.call zl29 [(.rd,(.t 7)),(.val,(.c (vi 0))),(.val,(.t 10))] true⟩,⟨some 12, none,.pick (.t 6) (.t 11) (.c (.bool false))⟩,⟨some 2, none,.asg (.t 12)⟩] [2] []
def zi25:IFun:=⟨[.t 2],[],(.seq z25r0 (.seq z25r1 .ret))⟩
def z29r0:IC:=.reg [⟨some 4, none,.box (.t 1)⟩,⟨some 5, none,.box (.t 2)⟩,⟨some 6, none,.asg (.c (.bool false))⟩] [0,4,5] []
def z29r1:IC:=.reg [⟨some 7, none,.mv (.t 0)⟩,⟨some 8, none,.mkfn zl30 [(.t 4),(.t 5)]⟩,⟨some 9, none,.call zl72 [(.rd,(.t 7)),(.val,(.t 8))] false⟩,⟨some 10, none,.unop .not (.t 9)⟩,⟨some 6, none,.asg (.t 10)⟩] [6] []
def zi29:IFun:=⟨[.t 6],[],(.seq z29r0 (.seq z29r1 .ret))⟩
def z30r0:IC:=.reg [⟨some 4, none,.asg (.c (.bool false))⟩] [0,1,2] []
def z30r1:IC:=.reg [⟨some 5, none,.mv (.t 0)⟩,⟨some 6, none,.load false 1 (.t 1)⟩,⟨some 7, none,.load false 1 (.t 2)⟩,⟨some 8, none,.call zl38 [(.val,(.t 5)),(.val,(.t 6)),(.val,(.t 7))] true⟩,⟨some 9, none,.unop .not (.t 8)⟩,⟨some 4, none,.asg (.t 9)⟩] [4] []
def zi30:IFun:=⟨[.t 4],[],(.seq z30r0 (.seq z30r1 .ret))⟩
def z204r0:IC:=.reg [⟨some 2, none,.asg (.c (.slice none 0 0))⟩] [0] []
def z204r1:IC:=.reg [⟨some 3, none,.mv (.t 0)⟩,⟨some 4, none,.call zl261 [(.rd,(.t 3))] true⟩,⟨some 5, none,.call zl258 [(.tk,(.t 4))] true⟩,⟨some 2, none,.asg (.t 5)⟩] [2] []
def zi204:IFun:=⟨[.t 2],[],(.seq z204r0 (.seq z204r1 .ret))⟩
def z31r0:IC:=.reg [⟨some 2, none,.asg (.c (.slice none 0 0))⟩] [0] []
def z31r1:IC:=.reg [⟨some 3, none,.mv (.t 0)⟩,⟨some 4, none,.call zl71 [(.rd,(.t 3))] true⟩,⟨some 5, none,.call zl70 [(.tk,(.t 4))] true⟩,⟨some 2, none,.asg (.t 5)⟩] [2] []
def zi31:IFun:=⟨[.t 2],[],(.seq z31r0 (.seq z31r1 .ret))⟩
def z206r0:IC:=.reg [⟨some 4, none,.asg (.c (vi 0))⟩] [0,1] []
def z206r1:IC:=.reg [⟨some 5, none,.asg (.c (vi 0))⟩] [0,1,5] []
def z206r2:IC:=.reg [⟨some 8, none,.mv (.t 0)⟩,⟨some 9, none,.len (.t 8)⟩,⟨some 10, none,.mv (.c (vi 0))⟩] [0,1,5,8,9,10] []
def z206r3:IC:=.reg [⟨some 11, none,.bin .lss (.t 10) (.t 9)⟩] [0,1,5,8,9,10,11] []
def z206r4:IC:=.reg [⟨some 12, none,.iadr 1 (.t 8) (.t 10)⟩,⟨some 13, none,.load false 1 (.t 12)⟩,⟨some 7, none,.asg (.t 13)⟩] [0,1,5,7,8,9,10] []
def z206r5:IC:=.reg [⟨some 14, none,.mv (.t 1)⟩,⟨some 15, none,.mv (.t 7)⟩,⟨some 16, none,.callv (.t 14) [(.val,(.t 15))]⟩] [0,1,5,8,9,10,16] []
def z206r6:IC:=.reg [⟨some 17, none,.mv (.t 5)⟩,⟨some 18, none,.bin .add (.t 17) (.c (vi 1))⟩,⟨some 5, none,.asg (.t 18)⟩] [0,1,5,8,9,10] []
def z206r7:IC:=.reg [⟨some 19, none,.bin .add (.t 10) (.c (vi 1))⟩,⟨some 10, none,.asg (.t 19)⟩] [0,1,5,8,9,10] []
def z206l8:IC:=(.seq z206r3 (.seq (.cond (.t 11) .skip (.exit 0)) (.seq (.block 1 (.seq z206r4 (.seq z206r5 (.cond (.t 16) z206r6 .skip)))) z206r7)))
def z206r9:IC:=.reg [⟨some 20, none,.mv (.t 5)⟩,⟨some 4, none,.asgm (.t 20)⟩] [4] []
def zi206:IFun:=⟨[.t 4],[],(.seq z206r0 (.seq z206r1 (.seq (.seq z206r2 (.block 0 (.loop z206l8))) (.seq z206r9 .ret))))⟩
def z35r0:IC:=.reg [⟨some 4, none,.asg (.c (.slice none 0 0))⟩] [0,1] []
def z35r1:IC:=.reg [⟨some 7, none,.mv (.t 0)⟩,⟨some 8, none,.call zl25 [(.rd,(.t 7))] true⟩,⟨some 9, none,.unop .not (.t 8)⟩] [0,1,9] []
def z35r2:IC:=.reg [⟨some 4, none,.asg (.c (.slice none 0 0))⟩] [4,5] []
def z35r3:IC:=.reg [⟨some 10, none,.mv (.t 0)⟩,⟨some 11, none,.len (.t 10)⟩,⟨some 12, none,.mksl 1 [(vi 0)] (.t 11) (.t 11)⟩,⟨some 5, none,.asg (.t 12)⟩] [1,5] []
def z35r4:IC:=.reg [⟨some 13, none,.mv (.t 5)⟩,⟨some 14, none,.len (.t 13)⟩,⟨some 15, none,.mv (.c (vi 0))⟩] [1,5,14,15] []
def z35r5:IC:=.reg [⟨some 16, none,.bin .lss (.t 15) (.t 14)⟩] [1,5,14,15,16] []
def z35r6:IC:=.reg [⟨some 17, none,.asg (.t 15)⟩,⟨some 6, none,.asg (.t 17)⟩] [1,5,6,14,15] []
def z35r7:IC:=.reg [⟨some 18, none,.mv (.t 5)⟩,⟨some 19, none,.mv (.t 6)⟩,⟨some 20, none,.mv (.t 1)⟩,⟨some 21, none,.mv (.t 6)⟩,⟨some 22, none,.callv (.t 20) [(.val,(.t 21))]⟩,⟨some 23, none,.iadr 1 (.t 18) (.t 19)⟩,⟨none,none,.store 1 (.t 23) (.t 22)⟩] [1,5,14,15] []
def z35r8:IC:=.reg [⟨some 24, none,.bin .add (.t 15) (.c (vi 1))⟩,⟨some 15, none,.asg (.t 24)⟩] [1,5,14,15] []
def z35l9:IC:=(.seq z35r5 (.seq (.cond (.t 16) .skip (.exit 0)) (.seq (.block 1 (.seq z35r6 z35r7)) z35r8)))
def z35r10:IC:=.reg [⟨some 25, none,.mv (.t 5)⟩,⟨some 4, none,.asgm (.t 25)⟩] [4,5] []
def zi35:IFun:=⟨[.t 4],[],(.seq z35r0 (.seq (.seq z35r1 (.cond (.t 9) (.seq z35r2 .ret) .skip)) (.seq z35r3 (.seq (.seq z35r4 (.block 0 (.loop z35l9))) (.seq z35r10 .ret)))))⟩
def z37r0:IC:=.reg [⟨some 2, none,.asg (.c (.slice none 0 0))⟩] [0] []
def z37r1:IC:=.reg [⟨some 4, none,.mv (.t 0)⟩,⟨some 5, none,.call zl31 [(.rd,(.t 4))] true⟩,⟨some 3, none,.asg (.t 5)⟩] [3] []
def z37r2:IC:=.reg [⟨some 6, none,.mv (.t 3)⟩,⟨some 7, none,.call zl78 [(.ld,(.t 6))] false⟩] [3] []
def z37r3:IC:=.reg [⟨some 8, none,.mv (.t 3)⟩,⟨some 9, none,.call zl76 [(.ld,(.t 8))] false⟩] [3] []
def z37r4:IC:=.reg [⟨some 10, none,.mv (.t 3)⟩,⟨some 2, none,.asgm (.t 10)⟩] [2,3] []
def zi37:IFun:=⟨[.t 2],[],(.seq z37r0 (.seq z37r1 (.seq z37r2 (.seq z37r3 (.seq z37r4 .ret)))))⟩
def z38r0:IC:=.reg [⟨some 6, none,.asg (.c (.bool false))⟩] [0,1,2] []
def z38r1:IC:=.reg [⟨some 7, none,.mv (.t 0)⟩,⟨some 8, none,.mv (.t 1)⟩,⟨some 9, none,.bin .geq (.t 7) (.t 8)⟩,⟨some 10, none,.asg (.t 9)⟩,⟨some 11, (some (10,true)),.mv (.t 0)⟩,⟨some 12, (some (10,true)),.mv (.t 2)⟩,⟨some 13, (some (10,true)),.bin .leq (.t 11) (.t 12)⟩,⟨some 14, none,.pick (.t 10) (.t 13) (.c (.bool false))⟩,⟨some 6, none,.asg (.t 14)⟩] [6] []
def zi38:IFun:=⟨[.t 6],[],(.seq z38r0 (.seq z38r1 .ret))⟩
def z213r0:IC:=.reg [⟨some 4, none,.asg (.c (.bool false))⟩] [0,1] []
def z213r1:IC:=.reg [⟨some 5, none,.mv (.t 0)⟩,⟨some 6, none,.call zl25 [(.rd,(.t 5))] true⟩,⟨some 7, none,.asg (.t 6)⟩,⟨some 8, (some (7,true)),.mv (.t 0)⟩,⟨some 9, (some (7,true)),.len (.t 8)⟩,⟨some 10, (some (7,true)),.mv (.t 1)⟩,⟨some 11, (some (7,true)),.bin .leq (.t 9) (.t 10)⟩,⟨some 12, none,.pick (.t 7) (.t 11) (.c (.bool false))⟩,⟨some 4, none,.asg (.t 12)⟩] [4] []
def zi213:IFun:=⟨[.t 4],[],(.seq z213r0 (.seq z213r1 .ret))⟩
def z216r0:IC:=.reg [⟨some 2, none,.asg (.c (.slice none 0 0))⟩] [0] []
def z216r1:IC:=.reg [⟨some 3, none,.asg (.c (.slice none 0 0))⟩] [0,3] []
def z216r2:IC:=.reg [⟨some 6, none,.mv (.t 0)⟩,⟨some 7, none,.mv (.c (vi 0))⟩] [0,3,6,7] []
def z216r3:IC:=.reg [⟨some 8, none,.bin .lss (.t 7) (.t 6)⟩] [0,3,6,7,8] []
def z216r4:IC:=.reg [⟨some 9, none,.asg (.t 7)⟩,⟨some 4, none,.asg (.t 9)⟩] [0,3,4,6,7] []
def z216r5:IC:=.reg [⟨some 10, none,.mv (.t 4)⟩,⟨some 11, none,.bin .add (.t 10) (.c (vi 1))⟩,⟨some 5, none,.asg (.t 11)⟩] [0,3,4,5,6,7] []
def z216r6:IC:=.reg [⟨some 12, none,.mv (.t 5)⟩,⟨some 13, none,.mv (.t 0)⟩,⟨some 14, none,.bin .lss (.t 12) (.t 13)⟩] [0,3,4,5,6,7,14] []
def z216r7:IC:=.reg [⟨some 17, none,.mv (.t 3)⟩,⟨some 18, none,.mv (.t 4)⟩,⟨some 19, none,.mv (.t 5)⟩,⟨some 20, none,.build [(vi 0),(vi 0)] [(0,1,(.t 18)),(1,1,(.t 19))]⟩,⟨some 21, none,.bsl 2 [(vi 0),(vi 0)] 1 [(0,(.t 20))]⟩,⟨some 22, none,.app 2 (.t 17) (.t 21)⟩,⟨some 3, none,.asg (.t 22)⟩] [0,3,4,5,6,7] []
def z216r8:IC:=.reg [⟨some 15, none,.mv (.t 5)⟩,⟨some 16, none,.bin .add (.t 15) (.c (vi 1))⟩,⟨some 5, none,.asg (.t 16)⟩] [0,3,4,5,6,7] []
def z216l9:IC:=(.seq (.seq z216r6 (.cond (.t 14) .skip (.exit 2))) (.seq (.block 3 z216r7) z216r8))
def z216r10:IC:=.reg [⟨some 23, none,.bin .add (.t 7) (.c (vi 1))⟩,⟨some 7, none,.asg (.t 23)⟩] [0,3,6,7] []
def z216l11:IC:=(.seq z216r3 (.seq (.cond (.t 8) .skip (.exit 0)) (.seq (.block 1 (.seq z216r4 (.seq z216r5 (.block 2 (.loop z216l9))))) z216r10)))
def z216r12:IC:=.reg [⟨some 24, none,.mv (.t 3)⟩,⟨some 2, none,.asgm (.t 24)⟩] [2,3] []
def zi216:IFun:=⟨[.t 2],[],(.seq z216r0 (.seq z216r1 (.seq (.seq z216r2 (.block 0 (.loop z216l11))) (.seq z216r12 .ret))))⟩
def z218r0:IC:=.reg [⟨some 4, none,.box (.t 0)⟩,⟨some 5, none,.box (.t 1)⟩,⟨some 7, none,.box (.t 3)⟩] [2,4,5,7] []
def z218r1:IC:=.reg [⟨some 11, none,.mv (.t 2)⟩,⟨some 12, none,.call zl31 [(.rd,(.t 11))] true⟩,⟨some 8, none,.alloc [(.slice none 0 0)]⟩,⟨none,none,.store 1 (.t 8) (.t 12)⟩] [4,5,7,8] []
def z218r2:IC:=.reg [⟨some 9, none,.alloc [(.slice none 0 0)]⟩] [4,5,7,8,9] []
def z218r3:IC:=.reg [⟨some 10, none,.alloc [.nilFunc]⟩] [4,5,7,8,9,10] []
def z218r4:IC:=.reg [⟨some 13, none,.mkfn zl219 [(.t 5),(.t 8),(.t 7),(.t 4),(.t 9),(.t 10)]⟩,⟨none,none,.store 1 (.t 10) (.t 13)⟩] [10] []
def z218r5:IC:=.reg [⟨some 14, none,.load false 1 (.t 10)⟩,⟨some 15, none,.callv (.t 14) [(.val,(.c (vi 0)))]⟩] [] []
def zi218:IFun:=⟨[],[],(.seq z218r0 (.seq z218r1 (.seq z218r2 (.seq z218r3 (.seq z218r4 z218r5)))))⟩
def z219r0:IC:=.reg [⟨some 8, none,.asg (.c (.bool false))⟩] [0,1,2,3,4,5,6] []
def z219r1:IC:=.reg [⟨some 11, none,.mv (.t 0)⟩,⟨some 12, none,.load false 1 (.t 1)⟩,⟨some 13, none,.len (.t 12)⟩,⟨some 14, none,.bin .eql (.t 11) (.t 13)⟩] [0,1,2,3,4,5,6,14] []
def z219r2:IC:=.reg [⟨some 15, none,.load false 1 (.t 2)⟩,⟨some 16, none,.call zl29 [(.rd,(.t 15)),(.val,(.c (vi 0))),(.val,(.c (vi 0)))] true⟩,⟨some 17, none,.unop .not (.t 16)⟩,⟨some 18, none,.asg (.t 17)⟩,⟨some 19, (some (18,false)),.load false 1 (.t 3)⟩,⟨some 20, (some (18,false)),.load false 1 (.t 4)⟩,⟨some 21, (some (18,false)),.load false 1 (.t 5)⟩,⟨some 22, (some (18,false)),.call zl204 [(.rd,(.t 21))] true⟩,⟨some 23, (some (18,false)),.build [(vi 0),(.slice none 0 0)] [(0,1,(.t 20)),(1,1,(.t 22))]⟩,⟨some 24, (some (18,false)),.callv (.t 19) [(.tk,(.t 23))]⟩,⟨some 25, none,.pick (.t 18) (.c (.bool true)) (.t 24)⟩,⟨some 8, none,.asg (.t 25)⟩] [8] [[0,1,2,3,4,6,7,5,8,9,10,11],[0,1,2,3,5,6,7,4,8,9,10,11],[0,1,2,3,5,6,7,8,4,9,10,11],[0,1,2,3,6,7,4,5,8,9,10,11],[0,1,2,3,6,7,5,8,4,9,10,11]]
def z219r3:IC:=.reg [⟨some 26, none,.load false 1 (.t 1)⟩,⟨some 27, none,.mv (.t 0)⟩,⟨some 28, none,.iadr 2 (.t 26) (.t 27)⟩,⟨some 29, none,.load true 2 (.t 28)⟩,⟨some 9, none,.alloc [(vi 0),(vi 0)]⟩,⟨none,none,.store 2 (.t 9) (.t 29)⟩] [0,2,5,6,9] []
def z219r4:IC:=.reg [⟨some 30, none,.load false 1 (.t 2)⟩,⟨some 31, none,.fadr 0 (.t 9)⟩,⟨some 32, none,.load false 1 (.t 31)⟩,⟨some 33, none,.iadr 1 (.t 30) (.t 32)⟩,⟨some 34, none,.load false 1 (.t 33)⟩,⟨some 35, none,.bin .gtr (.t 34) (.c (vi 0))⟩,⟨some 36, none,.asg (.t 35)⟩,⟨some 37, (some (36,true)),.load false 1 (.t 2)⟩,⟨some 38, (some (36,true)),.fadr 1 (.t 9)⟩,⟨some 39, (some (36,true)),.load false 1 (.t 38)⟩,⟨some 40, (some (36,true)),.iadr 1 (.t 37) (.t 39)⟩,⟨some 41, (some (36,true)),.load false 1 (.t 40)⟩,⟨some 42, (some (36,true)),.bin .gtr (.t 41) (.c (vi 0))⟩,⟨some 43, none,.pick (.t 36) (.t 42) (.c (.bool false))⟩] [0,2,5,6,9,43] []
def z219r5:IC:=.reg [⟨some 44, none,.load false 1 (.t 2)⟩,⟨some 45, none,.fadr 0 (.t 9)⟩,⟨some 46, none,.load false 1 (.t 45)⟩,⟨some 47, none,.iadr 1 (.t 44) (.t 46)⟩,⟨some 48, none,.load false 1 (.t 47)⟩,⟨some 49, none,.bin .sub (.t 48) (.c (vi 1))⟩,⟨some 50, none,.iadr 1 (.t 44) (.t 46)⟩,⟨none,none,.store 1 (.t 50) (.t 49)⟩] [0,2,5,6,9] []
def z219r6:IC:=.reg [⟨some 51, none,.load false 1 (.t 2)⟩,⟨some 52, none,.fadr 1 (.t 9)⟩,⟨some 53, none,.load false 1 (.t 52)⟩,⟨some 54, none,.iadr 1 (.t 51) (.t 53)⟩,⟨some 55, none,.load false 1 (.t 54)⟩,⟨some 56, none,.bin .sub (.t 55) (.c (vi 1))⟩,⟨some 57, none,.iadr 1 (.t 51) (.t 53)⟩,⟨none,none,.store 1 (.t 57) (.t 56)⟩] [0,2,5,6,9] []
def z219r7:IC:=.reg [⟨some 58, none,.load false 1 (.t 5)⟩,⟨some 59, none,.load true 2 (.t 9)⟩,⟨some 60, none,.bsl 2 [(vi 0),(vi 0)] 1 [(0,(.t 59))]⟩,⟨some 61, none,.app 2 (.t 58) (.t 60)⟩,⟨none,none,.store 1 (.t 5) (.t 61)⟩] [0,2,5,6,9] []
def z219r8:IC:=.reg [⟨some 62, none,.load false 1 (.t 6)⟩,⟨some 63, none,.mv (.t 0)⟩,⟨some 64, none,.bin .add (.t 63) (.c (vi 1))⟩,⟨some 65, none,.callv (.t 62) [(.val,(.t 64))]⟩,⟨some 10, none,.asg (.t 65)⟩] [0,2,5,6,9,10] []
def z219r9:IC:=.reg [⟨some 66, none,.load false 1 (.t 5)⟩,⟨some 67, none,.load false 1 (.t 5)⟩,⟨some 68, none,.len (.t 67)⟩,⟨some 69, none,.bin .sub (.t 68) (.c (vi 1))⟩,⟨some 70, none,.slc 2 (.t 66) none (some (.t 69)) none⟩,⟨none,none,.store 1 (.t 5) (.t 70)⟩] [0,2,6,9,10] []
def z219r10:IC:=.reg [⟨some 71, none,.load false 1 (.t 2)⟩,⟨some 72, none,.fadr 0 (.t 9)⟩,⟨some 73, none,.load false 1 (.t 72)⟩,⟨some 74, none,.iadr 1 (.t 71) (.t 73)⟩,⟨some 75, none,.load false 1 (.t 74)⟩,⟨some 76, none,.bin .add (.t 75) (.c (vi 1))⟩,⟨some 77, none,.iadr 1 (.t 71) (.t 73)⟩,⟨none,none,.store 1 (.t 77) (.t 76)⟩] [0,2,6,9,10] []
def z219r11:IC:=.reg [⟨some 78, none,.load false 1 (.t 2)⟩,⟨some 79, none,.fadr 1 (.t 9)⟩,⟨some 80, none,.load false 1 (.t 79)⟩,⟨some 81, none,.iadr 1 (.t 78) (.t 80)⟩,⟨some 82, none,.load false 1 (.t 81)⟩,⟨some 83, none,.bin .add (.t 82) (.c (vi 1))⟩,⟨some 84, none,.iadr 1 (.t 78) (.t 80)⟩,⟨none,none,.store 1 (.t 84) (.t 83)⟩] [0,6,10] []
def z219r12:IC:=.reg [⟨some 85, none,.mv (.t 10)⟩,⟨some 86, none,.unop .not (.t 85)⟩] [0,6,86] []
def z219r13:IC:=.reg [⟨some 8, none,.asg (.c (.bool false))⟩] [8] []
def z219r14:IC:=.reg [⟨some 87, none,.load false 1 (.t 6)⟩,⟨some 88, none,.mv (.t 0)⟩,⟨some 89, none,.bin .add (.t 88) (.c (vi 1))⟩,⟨some 90, none,.callv (.t 87) [(.val,(.t 89))]⟩,⟨some 8, none,.asg (.t 90)⟩] [8] []
def zi219:IFun:=⟨[.t 8],[],(.seq z219r0 (.seq (.seq z219r1 (.cond (.t 14) (.seq z219r2 .ret) .skip)) (.seq z219r3 (.seq (.seq z219r4 (.cond (.t 43) (.seq z219r5 (.seq z219r6 (.seq z219r7 (.seq z219r8 (.seq z219r9 (.seq z219r10 (.seq z219r11 (.seq z219r12 (.cond (.t 86) (.seq z219r13 .ret) .skip))))))))) .skip)) (.seq z219r14 .ret)))))⟩
def z40r0:IC:=.reg [⟨some 2, none,.asg (.c (vi 0))⟩] [0] []
def z40r1:IC:=.reg [⟨some 3, none,.asg (.c (vi 0))⟩] [0,3] []
def z40r2:IC:=.reg [⟨some 6, none,.mv (.t 0)⟩,⟨some 7, none,.len (.t 6)⟩,⟨some 8, none,.mv (.c (vi 0))⟩] [0,3,6,7,8] []
def z40r3:IC:=.reg [⟨some 9, none,.bin .lss (.t 8) (.t 7)⟩] [0,3,6,7,8,9] []
def z40r4:IC:=.reg [⟨some 10, none,.iadr 1 (.t 6) (.t 8)⟩,⟨some 11, none,.load false 1 (.t 10)⟩,⟨some 5, none,.asg (.t 11)⟩] [0,3,5,6,7,8] []
def z40r5:IC:=.reg [⟨some 12, none,.mv (.t 3)⟩,⟨some 13, none,.mv (.t 5)⟩,⟨some 14, none,.bin .add (.t 12) (.t 13)⟩,⟨some 3, none,.asg (.t 14)⟩] [0,3,6,7,8] []
def z40r6:IC:=.reg [⟨some 15, none,.bin .add (.t 8) (.c (vi 1))⟩,⟨some 8, none,.asg (.t 15)⟩] [0,3,6,7,8] []
def z40l7:IC:=(.seq z40r3 (.seq (.cond (.t 9) .skip (.exit 0)) (.seq (.block 1 (.seq z40r4 z40r5)) z40r6)))
def z40r8:IC:=.reg [⟨some 16, none,.mv (.t 3)⟩,⟨some 2, none,.asgm (.t 16)⟩] [2] []
def zi40:IFun:=⟨[.t 2],[],(.seq z40r0 (.seq z40r1 (.seq (.seq z40r2 (.block 0 (.loop z40l7))) (.seq z40r8 .ret))))⟩
def z527r0:IC:=.reg [⟨some 2, none,.asg (.c (.bool false))⟩] [0] []
def z527r1:IC:=.reg [⟨some 11, none,.mv (.t 0)⟩,⟨some 12, none,.len (.t 11)⟩,⟨some 13, none,.bin .gtr (.t 12) (.c (vi 1048576))⟩] [0,13] []
def z527r2:IC:=.reg [⟨some 2, none,.asg (.c (.bool true))⟩] [2] []
def z527r3:IC:=.reg [⟨some 15, none,.mv (.t 0)⟩,⟨some 16, none,.call zl560 [(.rd,(.t 15))] true⟩,⟨some 14, none,.asg (.t 16)⟩,⟨some 17, none,.extr (.t 14) 0⟩,⟨some 18, none,.extr (.t 14) 1⟩,⟨some 19, none,.extr (.t 14) 2⟩,⟨some 3, none,.asg (.t 17)⟩,⟨some 4, none,.asg (.t 18)⟩,⟨some 5, none,.asg (.t 19)⟩] [3,4,5] []
def z527r4:IC:=.reg [⟨some 21, none,.mv (.t 3)⟩,⟨some 22, none,.mv (.t 4)⟩,⟨some 23, none,.mv (.t 5)⟩,⟨some 24, none,.call zl499 [(.rd,(.t 21)),(.rd,(.t 22)),(.rd,(.t 23))] true⟩,⟨some 20, none,.asg (.t 24)⟩,⟨some 25, none,.extr (.t 20) 0⟩,⟨some 26, none,.extr (.t 20) 1⟩,⟨some 6, none,.asg (.t 25)⟩,⟨some 7, none,.asg (.t 26)⟩] [3,4,5,6,7] []
def z527r5:IC:=.reg [⟨some 28, none,.mv (.t 3)⟩,⟨some 29, none,.mv (.t 4)⟩,⟨some 30, none,.mv (.t 5)⟩,⟨some 31, none,.call zl558 [(.rd,(.t 28)),(.rd,(.t 29)),(.rd,(.t 30))] true⟩,⟨some 27, none,.asg (.t 31)⟩,⟨some 32, none,.extr (.t 27) 0⟩,⟨some 33, none,.extr (.t 27) 1⟩,⟨some 8, none,.asg (.t 32)⟩,⟨some 9, none,.asg (.t 33)⟩] [3,4,5,6,7,8,9] []
def z527r6:IC:=.reg [⟨some 34, none,.mv (.t 6)⟩,⟨some 35, none,.mv (.t 8)⟩,⟨some 36, none,.call zl53 [(.rd,(.t 34)),(.rd,(.t 35))] true⟩,⟨some 37, none,.unop .not (.t 36)⟩,⟨some 38, none,.asg (.t 37)⟩,⟨some 39, (some (38,false)),.mv (.t 7)⟩,⟨some 40, (some (38,false)),.mv (.t 9)⟩,⟨some 41, (some (38,false)),.eqb true (.t 39) (.t 40)⟩,⟨some 42, none,.pick (.t 38) (.c (.bool true)) (.t 41)⟩,⟨some 43, none,.asg (.t 42)⟩,⟨some 44, (some (43,false)),.mv (.t 7)⟩,⟨some 45, (some (43,false)),.unop .not (.t 44)⟩,⟨some 46, none,.pick (.t 43) (.c (.bool true)) (.t 45)⟩] [3,4,5,6,7,8,9,46] []
def z527r7:IC:=.reg [⟨some 47, none,.mv (.t 6)⟩,⟨some 48, none,.mv (.t 8)⟩,⟨some 49, none,.call zl53 [(.rd,(.t 47)),(.rd,(.t 48))] true⟩,⟨some 50, none,.asg (.t 49)⟩,⟨some 51, (some (50,true)),.mv (.t 7)⟩,⟨some 52, (some (50,true)),.mv (.t 9)⟩,⟨some 53, (some (50,true)),.eqb false (.t 51) (.t 52)⟩,⟨some 54, none,.pick (.t 50) (.t 53) (.c (.bool false))⟩,⟨some 2, none,.asg (.t 54)⟩] [2] []
def z527r8:IC:=.reg [⟨some 55, none,.bsl 1 [(vi 0)] 0 []⟩,⟨some 56, none,.mv (.t 3)⟩,⟨some 57, none,.app 1 (.t 55) (.t 56)⟩,⟨some 58, none,.mv (.t 4)⟩,⟨some 59, none,.app 1 (.t 57) (.t 58)⟩,⟨some 10, none,.asg (.t 59)⟩] [5,6,10] []
def z527r9:IC:=.reg [⟨some 60, none,.mv (.t 6)⟩,⟨some 61, none,.call zl10 [(.rd,(.t 60))] true⟩,⟨some 62, none,.unop .not (.t 61)⟩,⟨some 63, none,.asg (.t 62)⟩,⟨some 64, (some (63,false)),.mv (.t 6)⟩,⟨some 65, (some (63,false)),.call zl186 [(.rd,(.t 64))] true⟩,⟨some 66, (some (63,false)),.mv (.t 5)⟩,⟨some 67, (some (63,false)),.call zl186 [(.rd,(.t 66))] true⟩,⟨some 68, (some (63,false)),.eqb true (.t 65) (.t 67)⟩,⟨some 69, none,.pick (.t 63) (.c (.bool true)) (.t 68)⟩,⟨some 70, none,.asg (.t 69)⟩,⟨some 71, (some (70,false)),.mv (.t 6)⟩,⟨some 72, (some (70,false)),.call zl187 [(.rd,(.t 71))] true⟩,⟨some 73, (some (70,false)),.mv (.t 10)⟩,⟨some 74, (some (70,false)),.call zl187 [(.rd,(.t 73))] true⟩,⟨some 75, (some (70,false)),.asg (.t 74)⟩,⟨some 76, (some (75,true)),.mv (.t 5)⟩,⟨some 77, (some (75,true)),.call zl187 [(.rd,(.t 76))] true⟩,
    ⟨some 78, (some (70,false)),.pick (.t 75) (.t 77) (.c (.bool false))⟩,⟨some 79, (some (70,false)),.eqb true (.t 72) (.t 78)⟩,⟨some 80, none,.pick (.t 70) (.c (.bool true)) (.t 79)⟩] [5,6,10,80] []
def z527r10:IC:=.reg [⟨some 2, none,.asg (.c (.bool false))⟩] [2] []
def z527r11:IC:=.reg [⟨some 81, none,.mv (.t 6)⟩,⟨some 82, none,.len (.t 81)⟩,⟨some 83, none,.bin .gtr (.t 82) (.c (vi 6))⟩,⟨some 84, none,.asg (.t 83)⟩,⟨some 85, (some (84,false)),.mv (.t 6)⟩,⟨some 86, (some (84,false)),.call zl158 [(.rd,(.t 85))] true⟩,⟨some 87, (some (84,false)),.mv (.t 10)⟩,⟨some 88, (some (84,false)),.call zl158 [(.rd,(.t 87))] true⟩,⟨some 89, (some (84,false)),.mv (.t 5)⟩,⟨some 90, (some (84,false)),.call zl158 [(.rd,(.t 89))] true⟩,⟨some 91, (some (84,false)),.bin .mul (.t 88) (.t 90)⟩,⟨some 92, (some (84,false)),.bin .eql (.t 86) (.t 91)⟩,⟨some 93, none,.pick (.t 84) (.c (.bool true)) (.t 92)⟩,⟨some 2, none,.asg (.t 93)⟩] [2] []
def zi527:IFun:=⟨[.t 2],[],(.seq z527r0 (.seq (.seq z527r1 (.cond (.t 13) (.seq z527r2 .ret) .skip)) (.seq z527r3 (.seq z527r4 (.seq z527r5 (.seq (.seq z527r6 (.cond (.t 46) (.seq z527r7 .ret) .skip)) (.seq z527r8 (.seq (.seq z527r9 (.cond (.t 80) (.seq z527r10 .ret) .skip)) (.seq z527r11 .ret)))))))))⟩
def z53r0:IC:=.reg [⟨some 4, none,.asg (.c (.bool false))⟩] [0,1] []
def z53r1:IC:=.reg [⟨some 6, none,.mv (.t 0)⟩,⟨some 7, none,.len (.t 6)⟩,⟨some 8, none,.mv (.t 1)⟩,⟨some 9, none,.len (.t 8)⟩,⟨some 10, none,.bin .neq (.t 7) (.t 9)⟩] [0,1,10] []
def z53r2:IC:=.reg [⟨some 4, none,.asg (.c (.bool false))⟩] [4] []
def z53r3:IC:=.reg [⟨some 5, none,.asg (.c (vi 0))⟩] [0,1,5] []
def z53r4:IC:=.reg [⟨some 11, none,.mv (.t 5)⟩,⟨some 12, none,.mv (.t 0)⟩,⟨some 13, none,.len (.t 12)⟩,⟨some 14, none,.bin .lss (.t 11) (.t 13)⟩] [0,1,5,14] []
def z53r5:IC:=.reg [⟨some 17, none,.mv (.t 0)⟩,⟨some 18, none,.mv (.t 5)⟩,⟨some 19, none,.iadr 1 (.t 17) (.t 18)⟩,⟨some 20, none,.load false 1 (.t 19)⟩,⟨some 21, none,.mv (.t 1)⟩,⟨some 22, none,.mv (.t 5)⟩,⟨some 23, none,.iadr 1 (.t 21) (.t 22)⟩,⟨some 24, none,.load false 1 (.t 23)⟩,⟨some 25, none,.bin .neq (.t 20) (.t 24)⟩] [0,1,5,25] []
def z53r6:IC:=.reg [⟨some 4, none,.asg (.c (.bool false))⟩] [4] []
def z53r7:IC:=.reg [⟨some 15, none,.mv (.t 5)⟩,⟨some 16, none,.bin .add (.t 15) (.c (vi 1))⟩,⟨some 5, none,.asg (.t 16)⟩] [0,1,5] []
def z53l8:IC:=(.seq (.seq z53r4 (.cond (.t 14) .skip (.exit 0))) (.seq (.block 1 (.seq z53r5 (.cond (.t 25) (.seq z53r6 .ret) .skip))) z53r7))
def z53r9:IC:=.reg [⟨some 4, none,.asg (.c (.bool true))⟩] [4] []
def zi53:IFun:=⟨[.t 4],[],(.seq z53r0 (.seq (.seq z53r1 (.cond (.t 10) (.seq z53r2 .ret) .skip)) (.seq (.seq z53r3 (.block 0 (.loop z53l8))) (.seq z53r9 .ret))))⟩
def z66r0:IC:=.reg [⟨some 2, none,.asg (.c (vi 0))⟩] [0] []
def z66r1:IC:=.reg [⟨some 3, none,.mv (.t 0)⟩,⟨some 4, none,.conv .u32 (.t 3)⟩,⟨some 5, none,.call zl67 [(.val,(.t 4))] true⟩,⟨some 2, none,.asg (.t 5)⟩] [2] []
def z66r2:IC:=.reg [⟨some 6, none,.mv (.t 0)⟩,⟨some 7, none,.call zl68 [(.val,(.t 6))] true⟩,⟨some 2, none,.asg (.t 7)⟩] [2] []
def zi66:IFun:=⟨[.t 2],[],(.seq z66r0 (.seq (.cond (.c (.bool false)) (.seq z66r1 .ret) .skip) (.seq z66r2 .ret)))⟩
def z68r0:IC:=.reg [⟨some 2, none,.asg (.c (vi 0))⟩] [0,2] []
def z68r1:IC:=.reg [⟨some 3, none,.mv (.t 0)⟩,⟨some 4, none,.bin .geq (.t 3) (.c (.int .u64 (4294967296)))⟩] [0,2,4] []
def z68r2:IC:=.reg [⟨some 5, none,.mv (.t 0)⟩,⟨some 6, none,.bin .shr (.t 5) (.c (.int .u64 (32)))⟩,⟨some 0, none,.asg (.t 6)⟩] [0] []
def z68r3:IC:=.reg [⟨some 2, none,.asg (.c (vi 32))⟩] [0,2] []
def z68r4:IC:=.reg [⟨some 7, none,.mv (.t 0)⟩,⟨some 8, none,.bin .geq (.t 7) (.c (.int .u64 (65536)))⟩] [0,2,8] []
def z68r5:IC:=.reg [⟨some 9, none,.mv (.t 0)⟩,⟨some 10, none,.bin .shr (.t 9) (.c (.int .u64 (16)))⟩,⟨some 0, none,.asg (.t 10)⟩] [0,2] []
def z68r6:IC:=.reg [⟨some 11, none,.mv (.t 2)⟩,⟨some 12, none,.bin .add (.t 11) (.c (vi 16))⟩,⟨some 2, none,.asg (.t 12)⟩] [0,2] []
def z68r7:IC:=.reg [⟨some 13, none,.mv (.t 0)⟩,⟨some 14, none,.bin .geq (.t 13) (.c (.int .u64 (256)))⟩] [0,2,14] []
def z68r8:IC:=.reg [⟨some 15, none,.mv (.t 0)⟩,⟨some 16, none,.bin .shr (.t 15) (.c (.int .u64 (8)))⟩,⟨some 0, none,.asg (.t 16)⟩] [0,2] []
def z68r9:IC:=.reg [⟨some 17, none,.mv (.t 2)⟩,⟨some 18, none,.bin .add (.t 17) (.c (vi 8))⟩,⟨some 2, none,.asg (.t 18)⟩] [0,2] []
def z68r10:IC:=.reg [⟨some 19, none,.mv (.t 2)⟩,⟨some 20, none,.mv (.t 0)⟩,⟨some 21, none,.conv .u8 (.t 20)⟩,⟨some 22, none,.idxs (.c (.string ⟨#[0,1,2,2,3,3,3,3,4,4,4,4,4,4,4,4,5,5,5,5,5,5,5,5,5,5,5,5,5,5,5,5,6,6,6,6,6,6,6,6,6,6,6,6,6,6,6,6,6,6,6,6,6,6,6,6,6,6,6,6,6,6,6,6,7,7,7,7,7,7,7,7,7,7,7,7,7,7,7,7,7,7,7,7,7,7,7,7,7,7,7,7,7,7,7,7,7,7,7,7,7,7,7,7,7,7,7,7,7,7,7,7,7,7,7,7,7,7,7,7,7,7,7,7,7,7,7,7,8,8,8,8,8,8,8,8,8,8,8,8,8,8,8,8,8,8,8,8,8,8,8,8,8,8,8,8,8,8,8,8,8,8,8,8,8,8,8,8,8,8,8,8,8,8,8,8,8,8,8,8,8,8,8,8,8,8,8,8,8,8,8,8,8,8,8,8,8,8,8,8,8,8,8,8,8,8,8,8,8,8,8,8,8,8,8,8,8,8,8,8,8,8,8,8,8,8,8,8,8,8,8,8,8,8,8,8,8,8,8,8,8,8,8,8,8,8,8,8,8,8,8,8,8,8,8,8]⟩)) (.t 21)⟩,⟨some 23, none,.conv .i64 (.t 22)⟩,⟨some 24, none,.bin .add (.t 19) (.t 23)⟩,⟨some 2, none,.asg (.t 24)⟩] [2] []
def zi68:IFun:=⟨[.t 2],[],(.seq z68r0 (.seq (.seq z68r1 (.cond (.t 4) (.seq z68r2 z68r3) .skip)) (.seq (.seq z68r4 (.cond (.t 8) (.seq z68r5 z68r6) .skip)) (.seq (.seq z68r7 (.cond (.t 14) (.seq z68r8 z68r9) .skip)) (.seq z68r10 .ret)))))⟩
def z258r0:IC:=.reg [⟨some 2, none,.asg (.c (.slice none 0 0))⟩] [0] []
def z258r1:IC:=.reg [⟨some 3, none,.mv (.t 0)⟩,⟨some 4, none,.mv (.t 0)⟩,⟨some 5, none,.len (.t 4)⟩,⟨some 6, none,.mv (.t 0)⟩,⟨some 7, none,.len (.t 6)⟩,⟨some 8, none,.slc 2 (.t 3) none (some (.t 5)) (some (.t 7))⟩,⟨some 2, none,.asgm (.t 8)⟩] [0,2] []
def zi258:IFun:=⟨[.t 2],[],(.seq z258r0 (.seq z258r1 .ret))⟩
def z70r0:IC:=.reg [⟨some 2, none,.asg (.c (.slice none 0 0))⟩] [0] []
def z70r1:IC:=.reg [⟨some 3, none,.mv (.t 0)⟩,⟨some 4, none,.mv (.t 0)⟩,⟨some 5, none,.len (.t 4)⟩,⟨some 6, none,.mv (.t 0)⟩,⟨some 7, none,.len (.t 6)⟩,⟨some 8, none,.slc 1 (.t 3) none (some (.t 5)) (some (.t 7))⟩,⟨some 2, none,.asgm (.t 8)⟩] [0,2] []
def zi70:IFun:=⟨[.t 2],[],(.seq z70r0 (.seq z70r1 .ret))⟩
def z261r0:IC:=.reg [⟨some 2, none,.nilo 2⟩] [0] []
def z261r1:List IOp:=[⟨some 3, none,.mv (.t 0)⟩]
def z261r2:IC:=.reg [⟨some 2, none,.nilo 2⟩] [2] []
def z261r3:IC:=.reg [⟨some 5, none,.bsl 2 [(vi 0),(vi 0)] 0 []⟩,⟨some 6, none,.mv (.t 0)⟩,⟨some 7, none,.app 2 (.t 5) (.t 6)⟩,⟨some 2, none,.asg (.t 7)⟩] [2] []
def zi261:IFun:=⟨[.t 2],[],(.seq z261r0 (.nilc2 z261r1 (.t 3) 4 [0,4] (.cond (.t 4) (.seq z261r2 .ret) .skip) (.seq z261r3 .ret)))⟩
def z71r0:IC:=.reg [⟨some 2, none,.nilo 1⟩] [0] []
def z71r1:List IOp:=[⟨some 3, none,.mv (.t 0)⟩]
def z71r2:IC:=.reg [⟨some 2, none,.nilo 1⟩] [2] []
def z71r3:IC:=.reg [⟨some 5, none,.bsl 1 [(vi 0)] 0 []⟩,⟨some 6, none,.mv (.t 0)⟩,⟨some 7, none,.app 1 (.t 5) (.t 6)⟩,⟨some 2, none,.asg (.t 7)⟩] [2] []
def zi71:IFun:=⟨[.t 2],[],(.seq z71r0 (.nilc2 z71r1 (.t 3) 4 [0,4] (.cond (.t 4) (.seq z71r2 .ret) .skip) (.seq z71r3 .ret)))⟩
def z548r0:IC:=.reg [⟨some 2, none,.asg (.c (.slice none 0 0))⟩] [0] []
def z548r1:IC:=.reg [⟨some 3, none,.asg (.c (vi 0))⟩] [0,3] []
def z548r2:IC:=.reg [⟨some 9, none,.mv (.t 0)⟩,⟨some 10, none,.len (.t 9)⟩,⟨some 11, none,.mv (.c (vi 0))⟩] [0,3,9,10,11] []
def z548r3:IC:=.reg [⟨some 12, none,.bin .lss (.t 11) (.t 10)⟩] [0,3,9,10,11,12] []
def z548r4:IC:=.reg [⟨some 13, none,.iadr 1 (.t 9) (.t 11)⟩,⟨some 14, none,.load false 1 (.t 13)⟩,⟨some 5, none,.asg (.t 14)⟩] [0,3,5,9,10,11] []
def z548r5:IC:=.reg [⟨some 15, none,.mv (.t 3)⟩,⟨some 16, none,.mv (.t 5)⟩,⟨some 17, none,.len (.t 16)⟩,⟨some 18, none,.bin .add (.t 15) (.t 17)⟩,⟨some 3, none,.asg (.t 18)⟩] [0,3,9,10,11] []
def z548r6:IC:=.reg [⟨some 19, none,.mv (.t 3)⟩,⟨some 20, none,.bin .lss (.t 19) (.c (vi 0))⟩] [0,3,9,10,11,20] []
def z548r7:IC:=.reg [⟨some 21, none,.halt⟩,⟨none,none,.halt⟩] [0,3,9,10,11] []
def z548r8:IC:=.reg [⟨some 22, none,.bin .add (.t 11) (.c (vi 1))⟩,⟨some 11, none,.asg (.t 22)⟩] [0,3,9,10,11] []
def z548l9:IC:=(.seq z548r3 (.seq (.cond (.t 12) .skip (.exit 0)) (.seq (.block 1 (.seq z548r4 (.seq z548r5 (.seq z548r6 (.cond (.t 20) z548r7 .skip))))) z548r8)))
def z548r10:IC:=.reg [⟨some 23, none,.mv (.t 3)⟩,⟨some 24, none,.call zl553 [(.tk,(.c (.slice none 0 0))),(.val,(.t 23))] true⟩,⟨some 6, none,.asg (.t 24)⟩] [0,6] []
def z548r11:IC:=.reg [⟨some 25, none,.mv (.t 0)⟩,⟨some 26, none,.len (.t 25)⟩,⟨some 27, none,.mv (.c (vi 0))⟩] [0,6,25,26,27] []
def z548r12:IC:=.reg [⟨some 28, none,.bin .lss (.t 27) (.t 26)⟩] [0,6,25,26,27,28] []
def z548r13:IC:=.reg [⟨some 29, none,.iadr 1 (.t 25) (.t 27)⟩,⟨some 30, none,.load false 1 (.t 29)⟩,⟨some 8, none,.asg (.t 30)⟩] [0,6,8,25,26,27] []
def z548r14:IC:=.reg [⟨some 31, none,.mv (.t 6)⟩,⟨some 32, none,.mv (.t 8)⟩,⟨some 33, none,.app 1 (.t 31) (.t 32)⟩,⟨some 6, none,.asg (.t 33)⟩] [0,6,25,26,27] []
def z548r15:IC:=.reg [⟨some 34, none,.bin .add (.t 27) (.c (vi 1))⟩,⟨some 27, none,.asg (.t 34)⟩] [0,6,25,26,27] []
def z548l16:IC:=(.seq z548r12 (.seq (.cond (.t 28) .skip (.exit 2)) (.seq (.block 3 (.seq z548r13 z548r14)) z548r15)))
def z548r17:IC:=.reg [⟨some 35, none,.mv (.t 6)⟩,⟨some 2, none,.asgm (.t 35)⟩] [2,6] []
def zi548:IFun:=⟨[.t 2],[],(.seq z548r0 (.seq z548r1 (.seq (.seq z548r2 (.block 0 (.loop z548l9))) (.seq z548r10 (.seq (.seq z548r11 (.block 2 (.loop z548l16))) (.seq z548r17 .ret))))))⟩
def z72r0:IC:=.reg [⟨some 4, none,.asg (.c (.bool false))⟩] [0,1] []
def z72r1:IC:=.reg [⟨some 5, none,.mv (.t 0)⟩,⟨some 6, none,.mv (.t 1)⟩,⟨some 7, none,.call zl73 [(.rd,(.t 5)),(.val,(.t 6))] false⟩,⟨some 8, none,.bin .geq (.t 7) (.c (vi 0))⟩,⟨some 4, none,.asg (.t 8)⟩] [4] []
def zi72:IFun:=⟨[.t 4],[],(.seq z72r0 (.seq z72r1 .ret))⟩
def z267r0:IC:=.reg [⟨some 4, none,.asg (.c (.bool false))⟩] [0,1] []
def z267r1:IC:=.reg [⟨some 6, none,.mv (.t 0)⟩,⟨some 7, none,.len (.t 6)⟩,⟨some 8, none,.mv (.t 1)⟩,⟨some 9, none,.len (.t 8)⟩,⟨some 10, none,.bin .neq (.t 7) (.t 9)⟩] [0,1,10] []
def z267r2:IC:=.reg [⟨some 4, none,.asg (.c (.bool false))⟩] [4] []
def z267r3:IC:=.reg [⟨some 11, none,.mv (.t 0)⟩,⟨some 12, none,.len (.t 11)⟩,⟨some 13, none,.mv (.c (vi 0))⟩] [0,1,12,13] []
def z267r4:IC:=.reg [⟨some 14, none,.bin .lss (.t 13) (.t 12)⟩] [0,1,12,13,14] []
def z267r5:IC:=.reg [⟨some 15, none,.asg (.t 13)⟩,⟨some 5, none,.asg (.t 15)⟩] [0,1,5,12,13] []
def z267r6:IC:=.reg [⟨some 16, none,.mv (.t 0)⟩,⟨some 17, none,.mv (.t 5)⟩,⟨some 18, none,.iadr 1 (.t 16) (.t 17)⟩,⟨some 19, none,.load false 1 (.t 18)⟩,⟨some 20, none,.mv (.t 1)⟩,⟨some 21, none,.mv (.t 5)⟩,⟨some 22, none,.iadr 1 (.t 20) (.t 21)⟩,⟨some 23, none,.load false 1 (.t 22)⟩,⟨some 24, none,.bin .neq (.t 19) (.t 23)⟩] [0,1,12,13,24] []
def z267r7:IC:=.reg [⟨some 4, none,.asg (.c (.bool false))⟩] [4] []
def z267r8:IC:=.reg [⟨some 25, none,.bin .add (.t 13) (.c (vi 1))⟩,⟨some 13, none,.asg (.t 25)⟩] [0,1,12,13] []
def z267l9:IC:=(.seq z267r4 (.seq (.cond (.t 14) .skip (.exit 0)) (.seq (.block 1 (.seq z267r5 (.seq z267r6 (.cond (.t 24) (.seq z267r7 .ret) .skip)))) z267r8)))
def z267r10:IC:=.reg [⟨some 4, none,.asg (.c (.bool true))⟩] [4] []
def zi267:IFun:=⟨[.t 4],[],(.seq z267r0 (.seq (.seq z267r1 (.cond (.t 10) (.seq z267r2 .ret) .skip)) (.seq (.seq z267r3 (.block 0 (.loop z267l9))) (.seq z267r10 .ret))))⟩
def z553r0:IC:=.reg [⟨some 4, none,.asg (.c (.slice none 0 0))⟩] [0,1,22] []
def z553r1:IC:=.reg [⟨some 5, none,.mv (.t 1)⟩,⟨some 6, none,.bin .lss (.t 5) (.c (vi 0))⟩] [0,1,6,22] []
def z553r2:IC:=.reg [⟨some 7, none,.halt⟩,⟨none,none,.halt⟩] [0,1,22] []
def z553r3:IC:=.reg [⟨some 8, none,.mv (.t 1)⟩,⟨some 9, none,.mv (.t 0)⟩,⟨some 10, none,.capn (.t 9)⟩,⟨some 11, none,.mv (.t 0)⟩,⟨some 12, none,.len (.t 11)⟩,⟨some 13, none,.bin .sub (.t 10) (.t 12)⟩,⟨some 14, none,.bin .sub (.t 8) (.t 13)⟩,⟨some 1, none,.asg (.t 14)⟩] [0,1,22] []
def z553r4:IC:=.reg [⟨some 15, none,.mv (.t 1)⟩,⟨some 16, none,.bin .gtr (.t 15) (.c (vi 0))⟩] [0,1,16,22] []
def z553r5:IC:=.reg [⟨some 17, none,.mv (.t 0)⟩,⟨some 18, none,.mv (.t 0)⟩,⟨some 19, none,.capn (.t 18)⟩,⟨some 20, none,.slc 1 (.t 17) none (some (.t 19)) none⟩,⟨some 21, none,.mv (.t 1)⟩,⟨some 22, none,.appz [(vi 0)] (.t 20) (.t 21)⟩,⟨some 23, none,.mv (.t 0)⟩,⟨some 24, none,.len (.t 23)⟩,⟨some 25, none,.slc 1 (.t 22) none (some (.t 24)) none⟩,⟨some 0, none,.asg (.t 25)⟩] [0,22] []
def z553r6:IC:=.reg [⟨some 26, none,.mv (.t 0)⟩,⟨some 4, none,.asgm (.t 26)⟩] [0,4,22] []
def zi553:IFun:=⟨[.t 4],[],(.seq z553r0 (.seq (.seq z553r1 (.cond (.t 6) z553r2 .skip)) (.seq (.seq z553r3 (.seq z553r4 (.cond (.t 16) z553r5 .skip))) (.seq z553r6 .ret))))⟩
def z73r0:IC:=.reg [⟨some 4, none,.asg (.c (vi 0))⟩] [0,1] []
def z73r1:IC:=.reg [⟨some 6, none,.mv (.t 0)⟩,⟨some 7, none,.len (.t 6)⟩,⟨some 8, none,.mv (.c (vi 0))⟩] [0,1,7,8] []
def z73r2:IC:=.reg [⟨some 9, none,.bin .lss (.t 8) (.t 7)⟩] [0,1,7,8,9] []
def z73r3:IC:=.reg [⟨some 10, none,.asg (.t 8)⟩,⟨some 5, none,.asg (.t 10)⟩] [0,1,5,7,8] []
def z73r4:IC:=.reg [⟨some 11, none,.mv (.t 1)⟩,⟨some 12, none,.mv (.t 0)⟩,⟨some 13, none,.mv (.t 5)⟩,⟨some 14, none,.iadr 1 (.t 12) (.t 13)⟩,⟨some 15, none,.load false 1 (.t 14)⟩,⟨some 16, none,.callv (.t 11) [(.val,(.t 15))]⟩] [0,1,5,7,8,16] []
def z73r5:IC:=.reg [⟨some 17, none,.mv (.t 5)⟩,⟨some 4, none,.asgm (.t 17)⟩] [4] []
def z73r6:IC:=.reg [⟨some 18, none,.bin .add (.t 8) (.c (vi 1))⟩,⟨some 8, none,.asg (.t 18)⟩] [0,1,7,8] []
def z73l7:IC:=(.seq z73r2 (.seq (.cond (.t 9) .skip (.exit 0)) (.seq (.block 1 (.seq z73r3 (.seq z73r4 (.cond (.t 16) (.seq z73r5 .ret) .skip)))) z73r6)))
def z73r8:IC:=.reg [⟨some 4, none,.asg (.c (vi (-1)))⟩] [4] []
def zi73:IFun:=⟨[.t 4],[],(.seq z73r0 (.seq (.seq z73r1 (.block 0 (.loop z73l7))) (.seq z73r8 .ret)))⟩
def z76r0:IC:=.reg [⟨some 4, none,.mv (.t 0)⟩,⟨some 5, none,.len (.t 4)⟩,⟨some 6, none,.bin .sub (.t 5) (.c (vi 1))⟩,⟨some 2, none,.asg (.c (vi 0))⟩,⟨some 3, none,.asg (.t 6)⟩] [0,2,3] []
def z76r1:IC:=.reg [⟨some 7, none,.mv (.t 2)⟩,⟨some 8, none,.mv (.t 3)⟩,⟨some 9, none,.bin .lss (.t 7) (.t 8)⟩] [0,2,3,9] []
def z76r2:IC:=.reg [⟨some 14, none,.mv (.t 0)⟩,⟨some 15, none,.mv (.t 2)⟩,⟨some 16, none,.mv (.t 0)⟩,⟨some 17, none,.mv (.t 3)⟩,⟨some 18, none,.mv (.t 0)⟩,⟨some 19, none,.mv (.t 3)⟩,⟨some 20, none,.iadr 1 (.t 18) (.t 19)⟩,⟨some 21, none,.load false 1 (.t 20)⟩,⟨some 22, none,.mv (.t 0)⟩,⟨some 23, none,.mv (.t 2)⟩,⟨some 24, none,.iadr 1 (.t 22) (.t 23)⟩,⟨some 25, none,.load false 1 (.t 24)⟩,⟨some 26, none,.iadr 1 (.t 14) (.t 15)⟩,⟨none,none,.store 1 (.t 26) (.t 21)⟩,⟨some 27, none,.iadr 1 (.t 16) (.t 17)⟩,⟨none,none,.store 1 (.t 27) (.t 25)⟩] [0,2,3] []
def z76r3:IC:=.reg [⟨some 10, none,.mv (.t 2)⟩,⟨some 11, none,.bin .add (.t 10) (.c (vi 1))⟩,⟨some 12, none,.mv (.t 3)⟩,⟨some 13, none,.bin .sub (.t 12) (.c (vi 1))⟩,⟨some 2, none,.asg (.t 11)⟩,⟨some 3, none,.asg (.t 13)⟩] [0,2,3] []
def z76l4:IC:=(.seq (.seq z76r1 (.cond (.t 9) .skip (.exit 0))) (.seq (.block 1 z76r2) z76r3))
def zi76:IFun:=⟨[],[0],(.seq z76r0 (.block 0 (.loop z76l4)))⟩
def z78r0:IC:=.reg [⟨some 3, none,.mv (.t 0)⟩,⟨some 4, none,.len (.t 3)⟩,⟨some 2, none,.asg (.t 4)⟩] [0,2] []
def z78r1:IC:=.reg [⟨some 5, none,.mv (.t 0)⟩,⟨some 6, none,.mv (.t 2)⟩,⟨some 7, none,.mv (.t 2)⟩,⟨some 8, none,.conv .u64 (.t 7)⟩,⟨some 9, none,.call zl66 [(.val,(.t 8))] true⟩,⟨some 10, none,.call zl101 [(.ld,(.t 5)),(.val,(.c (vi 0))),(.val,(.t 6)),(.val,(.t 9))] false⟩] [0] []
def zi78:IFun:=⟨[],[0],(.seq z78r0 z78r1)⟩
def z86r0:IC:=.reg [⟨some 8, none,.mv (.t 1)⟩,⟨some 9, none,.bin .add (.t 8) (.c (vi 1))⟩,⟨some 6, none,.asg (.t 9)⟩] [0,1,2,6] []
def z86r1:IC:=.reg [⟨some 10, none,.mv (.t 6)⟩,⟨some 11, none,.mv (.t 2)⟩,⟨some 12, none,.bin .lss (.t 10) (.t 11)⟩] [0,1,2,6,12] []
def z86r2:IC:=.reg [⟨some 15, none,.mv (.t 6)⟩,⟨some 7, none,.asg (.t 15)⟩] [0,1,2,6,7] []
def z86r3:IC:=.reg [⟨some 16, none,.mv (.t 7)⟩,⟨some 17, none,.mv (.t 1)⟩,⟨some 18, none,.bin .gtr (.t 16) (.t 17)⟩,⟨some 19, none,.asg (.t 18)⟩,⟨some 20, (some (19,true)),.mv (.t 0)⟩,⟨some 21, (some (19,true)),.mv (.t 7)⟩,⟨some 22, (some (19,true)),.iadr 1 (.t 20) (.t 21)⟩,⟨some 23, (some (19,true)),.load false 1 (.t 22)⟩,⟨some 24, (some (19,true)),.mv (.t 0)⟩,⟨some 25, (some (19,true)),.mv (.t 7)⟩,⟨some 26, (some (19,true)),.bin .sub (.t 25) (.c (vi 1))⟩,⟨some 27, (some (19,true)),.iadr 1 (.t 24) (.t 26)⟩,⟨some 28, (some (19,true)),.load false 1 (.t 27)⟩,⟨some 29, (some (19,true)),.call zl2 [(.val,(.t 23)),(.val,(.t 28))] true⟩,⟨some 30, none,.pick (.t 19) (.t 29) (.c (.bool false))⟩] [0,1,2,6,7,30] []
def z86r4:IC:=.reg [⟨some 33, none,.mv (.t 0)⟩,⟨some 34, none,.mv (.t 7)⟩,⟨some 35, none,.mv (.t 0)⟩,⟨some 36, none,.mv (.t 7)⟩,⟨some 37, none,.bin .sub (.t 36) (.c (vi 1))⟩,⟨some 38, none,.mv (.t 0)⟩,⟨some 39, none,.mv (.t 7)⟩,⟨some 40, none,.bin .sub (.t 39) (.c (vi 1))⟩,⟨some 41, none,.iadr 1 (.t 38) (.t 40)⟩,⟨some 42, none,.load false 1 (.t 41)⟩,⟨some 43, none,.mv (.t 0)⟩,⟨some 44, none,.mv (.t 7)⟩,⟨some 45, none,.iadr 1 (.t 43) (.t 44)⟩,⟨some 46, none,.load false 1 (.t 45)⟩,⟨some 47, none,.iadr 1 (.t 33) (.t 34)⟩,⟨none,none,.store 1 (.t 47) (.t 42)⟩,⟨some 48, none,.iadr 1 (.t 35) (.t 37)⟩,⟨none,none,.store 1 (.t 48) (.t 46)⟩] [0,1,2,6,7] []
def z86r5:IC:=.reg [⟨some 31, none,.mv (.t 7)⟩,⟨some 32, none,.bin .sub (.t 31) (.c (vi 1))⟩,⟨some 7, none,.asg (.t 32)⟩] [0,1,2,6,7] []
def z86l6:IC:=(.seq (.seq z86r3 (.cond (.t 30) .skip (.exit 2))) (.seq (.block 3 z86r4) z86r5))
def z86r7:IC:=.reg [⟨some 13, none,.mv (.t 6)⟩,⟨some 14, none,.bin .add (.t 13) (.c (vi 1))⟩,⟨some 6, none,.asg (.t 14)⟩] [0,1,2,6] []
def z86l8:IC:=(.seq (.seq z86r1 (.cond (.t 12) .skip (.exit 0))) (.seq (.block 1 (.seq z86r2 (.block 2 (.loop z86l6)))) z86r7))
def zi86:IFun:=⟨[],[0],(.seq z86r0 (.block 0 (.loop z86l8)))⟩
def z101r0:IC:=.reg [⟨some 8, none,.asg (.c (.bool true))⟩] [0,1,2,3,8] []
def z101r1:IC:=.reg [⟨some 9, none,.asg (.c (.bool true))⟩] [0,1,2,3,8,9] []
def z101r2:IC:=.reg [⟨some 19, none,.mv (.t 2)⟩,⟨some 20, none,.mv (.t 1)⟩,⟨some 21, none,.bin .sub (.t 19) (.t 20)⟩,⟨some 10, none,.asg (.t 21)⟩] [0,1,2,3,8,9,10] []
def z101r3:IC:=.reg [⟨some 22, none,.mv (.t 10)⟩,⟨some 23, none,.bin .leq (.t 22) (.c (vi 12))⟩] [0,1,2,3,8,9,10,23] []
def z101r4:IC:=.reg [⟨some 24, none,.mv (.t 0)⟩,⟨some 25, none,.mv (.t 1)⟩,⟨some 26, none,.mv (.t 2)⟩,⟨some 27, none,.call zl86 [(.ld,(.t 24)),(.val,(.t 25)),(.val,(.t 26))] false⟩] [0] []
def z101r5:IC:=.reg [⟨some 28, none,.mv (.t 3)⟩,⟨some 29, none,.bin .eql (.t 28) (.c (vi 0))⟩] [0,1,2,3,8,9,10,29] []
def z101r6:IC:=.reg [⟨some 30, none,.mv (.t 0)⟩,⟨some 31, none,.mv (.t 1)⟩,⟨some 32, none,.mv (.t 2)⟩,⟨some 33, none,.call zl84 [(.ld,(.t 30)),(.val,(.t 31)),(.val,(.t 32))] false⟩] [0] []
def z101r7:IC:=.reg [⟨some 34, none,.mv (.t 8)⟩,⟨some 35, none,.unop .not (.t 34)⟩] [0,1,2,3,8,9,10,35] []
def z101r8:IC:=.reg [⟨some 36, none,.mv (.t 0)⟩,⟨some 37, none,.mv (.t 1)⟩,⟨some 38, none,.mv (.t 2)⟩,⟨some 39, none,.call zl80 [(.ld,(.t 36)),(.val,(.t 37)),(.val,(.t 38))] false⟩] [0,1,2,3,8,9,10] []
def z101r9:IC:=.reg [⟨some 40, none,.mv (.t 3)⟩,⟨some 41, none,.bin .sub (.t 40) (.c (vi 1))⟩,⟨some 3, none,.asg (.t 41)⟩] [0,1,2,3,8,9,10] []
def z101r10:IC:=.reg [⟨some 43, none,.mv (.t 0)⟩,⟨some 44, none,.mv (.t 1)⟩,⟨some 45, none,.mv (.t 2)⟩,⟨some 46, none,.call zl82 [(.rd,(.t 43)),(.val,(.t 44)),(.val,(.t 45))] true⟩,⟨some 42, none,.asg (.t 46)⟩,⟨some 47, none,.extr (.t 42) 0⟩,⟨some 48, none,.extr (.t 42) 1⟩,⟨some 11, none,.asg (.t 47)⟩,⟨some 12, none,.asg (.t 48)⟩] [0,1,2,3,8,9,10,11,12] []
def z101r11:IC:=.reg [⟨some 49, none,.mv (.t 12)⟩,⟨some 50, none,.bin .eql (.t 49) (.c (vi 2))⟩] [0,1,2,3,8,9,10,11,12,50] []
def z101r12:IC:=.reg [⟨some 51, none,.mv (.t 0)⟩,⟨some 52, none,.mv (.t 1)⟩,⟨some 53, none,.mv (.t 2)⟩,⟨some 54, none,.call zl103 [(.ld,(.t 51)),(.val,(.t 52)),(.val,(.t 53))] false⟩] [0,1,2,3,8,9,10,11] []
def z101r13:IC:=.reg [⟨some 55, none,.mv (.t 2)⟩,⟨some 56, none,.bin .sub (.t 55) (.c (vi 1))⟩,⟨some 57, none,.mv (.t 11)⟩,⟨some 58, none,.mv (.t 1)⟩,⟨some 59, none,.bin .sub (.t 57) (.t 58)⟩,⟨some 60, none,.bin .sub (.t 56) (.t 59)⟩,⟨some 11, none,.asg (.t 60)⟩] [0,1,2,3,8,9,10,11] []
def z101r14:IC:=.reg [⟨some 12, none,.asg (.c (vi 1))⟩] [0,1,2,3,8,9,10,11,12] []
def z101r15:IC:=.reg [⟨some 61, none,.mv (.t 8)⟩,⟨some 62, none,.asg (.t 61)⟩,⟨some 63, (some (62,true)),.mv (.t 9)⟩,⟨some 64, none,.pick (.t 62) (.t 63) (.c (.bool false))⟩,⟨some 65, none,.asg (.t 64)⟩,⟨some 66, (some (65,true)),.mv (.t 12)⟩,⟨some 67, (some (65,true)),.bin .eql (.t 66) (.c (vi 1))⟩,⟨some 68, none,.pick (.t 65) (.t 67) (.c (.bool false))⟩] [0,1,2,3,8,9,10,11,68] []
def z101r16:IC:=.reg [⟨some 69, none,.mv (.t 0)⟩,⟨some 70, none,.mv (.t 1)⟩,⟨some 71, none,.mv (.t 2)⟩,⟨some 72, none,.call zl95 [(.ld,(.t 69)),(.val,(.t 70)),(.val,(.t 71))] false⟩] [0,1,2,3,8,9,10,11,72] []
def z101r17:IC:=.reg [⟨some 73, none,.mv (.t 1)⟩,⟨some 74, none,.bin .gtr (.t 73) (.c (vi 0))⟩,⟨some 75, none,.asg (.t 74)⟩,⟨some 76, (some (75,true)),.mv (.t 0)⟩,⟨some 77, (some (75,true)),.mv (.t 1)⟩,⟨some 78, (some (75,true)),.bin .sub (.t 77) (.c (vi 1))⟩,⟨some 79, (some (75,true)),.iadr 1 (.t 76) (.t 78)⟩,⟨some 80, (some (75,true)),.load false 1 (.t 79)⟩,⟨some 81, (some (75,true)),.mv (.t 0)⟩,⟨some 82, (some (75,true)),.mv (.t 11)⟩,⟨some 83, (some (75,true)),.iadr 1 (.t 81) (.t 82)⟩,⟨some 84, (some (75,true)),.load false 1 (.t 83)⟩,⟨some 85, (some (75,true)),.call zl2 [(.val,(.t 80)),(.val,(.t 84))] true⟩,⟨some 86, (some (75,true)),.unop .not (.t 85)⟩,⟨some 87, none,.pick (.t 75) (.t 86) (.c (.bool false))⟩] [0,1,2,3,8,9,10,11,87] []
def z101r18:IC:=.reg [⟨some 88, none,.mv (.t 0)⟩,⟨some 89, none,.mv (.t 1)⟩,⟨some 90, none,.mv (.t 2)⟩,⟨some 91, none,.mv (.t 11)⟩,⟨some 92, none,.call zl98 [(.ld,(.t 88)),(.val,(.t 89)),(.val,(.t 90)),(.val,(.t 91))] false⟩,⟨some 13, none,.asg (.t 92)⟩] [0,2,3,8,9,13] []
def z101r19:IC:=.reg [⟨some 93, none,.mv (.t 13)⟩,⟨some 1, none,.asgm (.t 93)⟩] [0,1,2,3,8,9] []
def z101r20:IC:=.reg [⟨some 95, none,.mv (.t 0)⟩,⟨some 96, none,.mv (.t 1)⟩,⟨some 97, none,.mv (.t 2)⟩,⟨some 98, none,.mv (.t 11)⟩,⟨some 99, none,.call zl99 [(.ld,(.t 95)),(.val,(.t 96)),(.val,(.t 97)),(.val,(.t 98))] false⟩,⟨some 94, none,.asg (.t 99)⟩,⟨some 100, none,.extr (.t 94) 0⟩,⟨some 101, none,.extr (.t 94) 1⟩,⟨some 14, none,.asg (.t 100)⟩,⟨some 15, none,.asg (.t 101)⟩] [0,1,2,3,10,14,15] []
def z101r21:IC:=.reg [⟨some 102, none,.mv (.t 15)⟩,⟨some 9, none,.asgm (.t 102)⟩] [0,1,2,3,9,10,14] []
def z101r22:IC:=.reg [⟨some 103, none,.mv (.t 14)⟩,⟨some 104, none,.mv (.t 1)⟩,⟨some 105, none,.bin .sub (.t 103) (.t 104)⟩,⟨some 106, none,.mv (.t 2)⟩,⟨some 107, none,.mv (.t 14)⟩,⟨some 108, none,.bin .sub (.t 106) (.t 107)⟩,⟨some 16, none,.asg (.t 105)⟩,⟨some 17, none,.asg (.t 108)⟩] [0,1,2,3,9,10,14,16,17] []
def z101r23:IC:=.reg [⟨some 109, none,.mv (.t 10)⟩,⟨some 110, none,.bin .quo (.t 109) (.c (vi 8))⟩,⟨some 18, none,.asg (.t 110)⟩] [0,1,2,3,9,14,16,17,18] []
def z101r24:IC:=.reg [⟨some 111, none,.mv (.t 16)⟩,⟨some 112, none,.mv (.t 17)⟩,⟨some 113, none,.bin .lss (.t 111) (.t 112)⟩] [0,1,2,3,9,14,16,17,18,113] []
def z101r25:IC:=.reg [⟨some 114, none,.mv (.t 16)⟩,⟨some 115, none,.mv (.t 18)⟩,⟨some 116, none,.bin .geq (.t 114) (.t 115)⟩,⟨some 8, none,.asg (.t 116)⟩] [0,1,2,3,8,9,14] []
def z101r26:IC:=.reg [⟨some 117, none,.mv (.t 0)⟩,⟨some 118, none,.mv (.t 1)⟩,⟨some 119, none,.mv (.t 14)⟩,⟨some 120, none,.mv (.t 3)⟩,⟨some 121, none,.call zl101 [(.ld,(.t 117)),(.val,(.t 118)),(.val,(.t 119)),(.val,(.t 120))] false⟩] [0,2,3,8,9,14] []
def z101r27:IC:=.reg [⟨some 122, none,.mv (.t 14)⟩,⟨some 123, none,.bin .add (.t 122) (.c (vi 1))⟩,⟨some 1, none,.asg (.t 123)⟩] [0,1,2,3,8,9] []
def z101r28:IC:=.reg [⟨some 124, none,.mv (.t 17)⟩,⟨some 125, none,.mv (.t 18)⟩,⟨some 126, none,.bin .geq (.t 124) (.t 125)⟩,⟨some 8, none,.asg (.t 126)⟩] [0,1,2,3,8,9,14] []
def z101r29:IC:=.reg [⟨some 127, none,.mv (.t 0)⟩,⟨some 128, none,.mv (.t 14)⟩,⟨some 129, none,.bin .add (.t 128) (.c (vi 1))⟩,⟨some 130, none,.mv (.t 2)⟩,⟨some 131, none,.mv (.t 3)⟩,⟨some 132, none,.call zl101 [(.ld,(.t 127)),(.val,(.t 129)),(.val,(.t 130)),(.val,(.t 131))] false⟩] [0,1,3,8,9,14] []
def z101r30:IC:=.reg [⟨some 133, none,.mv (.t 14)⟩,⟨some 2, none,.asgm (.t 133)⟩] [0,1,2,3,8,9] []
def z101l31:IC:=(.block 1 (.seq z101r2 (.seq (.seq z101r3 (.cond (.t 23) (.seq z101r4 .ret) .skip)) (.seq (.seq z101r5 (.cond (.t 29) (.seq z101r6 .ret) .skip)) (.seq (.seq z101r7 (.cond (.t 35) (.seq z101r8 z101r9) .skip)) (.seq z101r10 (.seq (.seq z101r11 (.cond (.t 50) (.seq z101r12 (.seq z101r13 z101r14)) .skip)) (.seq (.seq z101r15 (.cond (.t 68) (.seq z101r16 (.cond (.t 72) .ret .skip)) .skip)) (.seq (.seq z101r17 (.cond (.t 87) (.seq z101r18 (.seq z101r19 (.exit 1))) .skip)) (.seq z101r20 (.seq z101r21 (.seq z101r22 (.seq z101r23 (.seq z101r24 (.cond (.t 113) (.seq z101r25 (.seq z101r26 z101r27)) (.seq z101r28 (.seq z101r29 z101r30)))))))))))))))))
def zi101:IFun:=⟨[],[0],(.seq z101r0 (.seq z101r1 (.block 0 (.loop z101l31))))⟩
def z558r0:IC:=.reg [⟨some 6, none,.asg (.c (.slice none 0 0))⟩,⟨some 7, none,.asg (.c (.bool false))⟩] [0,1,2] []
def z558r1:IC:=.reg [⟨some 9, none,.mv (.t 0)⟩,⟨some 10, none,.call zl123 [(.rd,(.t 9))] true⟩,⟨some 11, none,.mv (.t 1)⟩,⟨some 12, none,.app 1 (.t 10) (.t 11)⟩,⟨some 8, none,.asg (.t 12)⟩] [0,1,2,8] []
def z558r2:IC:=.reg [⟨some 13, none,.mv (.t 8)⟩,⟨some 14, none,.call zl144 [(.rd,(.t 13))] true⟩,⟨some 15, none,.unop .not (.t 14)⟩,⟨some 16, none,.asg (.t 15)⟩,⟨some 17, (some (16,false)),.mv (.t 8)⟩,⟨some 18, (some (16,false)),.call zl357 [(.rd,(.t 17))] true⟩,⟨some 19, (some (16,false)),.unop .not (.t 18)⟩,⟨some 20, none,.pick (.t 16) (.c (.bool true)) (.t 19)⟩,⟨some 21, none,.asg (.t 20)⟩,⟨some 22, (some (21,false)),.mv (.t 2)⟩,⟨some 23, (some (21,false)),.call zl144 [(.rd,(.t 22))] true⟩,⟨some 24, (some (21,false)),.unop .not (.t 23)⟩,⟨some 25, none,.pick (.t 21) (.c (.bool true)) (.t 24)⟩,⟨some 26, none,.asg (.t 25)⟩,⟨some 27, (some (26,false)),.mv (.t 2)⟩,⟨some 28, (some (26,false)),.call zl357 [(.rd,(.t 27))] true⟩,⟨some 29, (some (26,false)),.unop .not (.t 28)⟩,⟨some 30, none,.pick (.t 26) (.c (.bool true)) (.t 29)⟩,⟨some 31, none,.asg (.t 30)⟩,
    ⟨some 32, (some (31,false)),.mv (.t 8)⟩,⟨some 33, (some (31,false)),.len (.t 32)⟩,⟨some 34, (some (31,false)),.mv (.t 2)⟩,⟨some 35, (some (31,false)),.len (.t 34)⟩,⟨some 36, (some (31,false)),.bin .add (.t 33) (.t 35)⟩,⟨some 37, (some (31,false)),.bin .gtr (.t 36) (.c (vi 7))⟩,⟨some 38, none,.pick (.t 31) (.c (.bool true)) (.t 37)⟩,⟨some 39, none,.asg (.t 38)⟩,⟨some 40, (some (39,false)),.mv (.t 0)⟩,⟨some 41, (some (39,false)),.mv (.t 1)⟩,⟨some 42, (some (39,false)),.call zl593 [(.rd,(.t 40)),(.rd,(.t 41))] true⟩,⟨some 43, (some (39,false)),.unop .not (.t 42)⟩,⟨some 44, none,.pick (.t 39) (.c (.bool true)) (.t 43)⟩] [0,1,2,44] []
def z558r3:IC:=.reg [⟨some 6, none,.asg (.c (.slice none 0 0))⟩,⟨some 7, none,.asg (.c (.bool false))⟩] [6,7] []
def z558r4:IC:=.reg [⟨some 45, none,.mv (.t 0)⟩,⟨some 46, none,.mv (.t 1)⟩,⟨some 47, none,.mv (.t 2)⟩,⟨some 48, none,.call zl582 [(.rd,(.t 45)),(.rd,(.t 46)),(.rd,(.t 47))] true⟩,⟨some 6, none,.asg (.t 48)⟩,⟨some 7, none,.asg (.c (.bool true))⟩] [6,7] []
def zi558:IFun:=⟨[.t 6,.t 7],[],(.seq z558r0 (.seq z558r1 (.seq (.seq z558r2 (.cond (.t 44) (.seq z558r3 .ret) .skip)) (.seq z558r4 .ret))))⟩
def z560r0:IC:=.reg [⟨some 2, none,.asg (.c (.slice none 0 0))⟩,⟨some 3, none,.asg (.c (.slice none 0 0))⟩,⟨some 4, none,.asg (.c (.slice none 0 0))⟩] [0] []
def z560r1:IC:=.reg [⟨some 12, none,.mv (.t 0)⟩,⟨some 13, none,.call zl137 [(.rd,(.t 12))] false⟩,⟨some 5, none,.asg (.t 13)⟩] [5] []
def z560r2:IC:=.reg [⟨some 14, none,.mv (.t 5)⟩,⟨some 15, none,.call zl140 [(.val,(.t 14)),(.val,(.c (vi 2)))] false⟩,⟨some 16, none,.bin .add (.c (vi 1)) (.t 15)⟩,⟨some 6, none,.asg (.t 16)⟩] [5,6] []
def z560r3:IC:=.reg [⟨some 17, none,.mv (.t 5)⟩,⟨some 18, none,.call zl140 [(.val,(.t 17)),(.val,(.c (vi 3)))] false⟩,⟨some 19, none,.bin .add (.c (vi 1)) (.t 18)⟩,⟨some 7, none,.asg (.t 19)⟩] [5,6,7] []
def z560r4:IC:=.reg [⟨some 20, none,.mv (.t 5)⟩,⟨some 21, none,.mv (.t 6)⟩,⟨some 22, none,.mv (.t 7)⟩,⟨some 23, none,.call zl331 [(.val,(.t 20)),(.val,(.t 21)),(.val,(.t 22))] false⟩,⟨some 24, none,.call zl380 [(.rd,(.t 23))] true⟩,⟨some 25, none,.call zl125 [(.rd,(.t 24))] true⟩,⟨some 8, none,.asgf (.t 25)⟩] [5,6,8] []
def z560r5:IC:=.reg [⟨some 26, none,.mv (.t 8)⟩,⟨some 27, none,.mv (.t 6)⟩,⟨some 28, none,.slc 1 (.t 26) none (some (.t 27)) none⟩,⟨some 9, none,.asg (.t 28)⟩] [5,6,8,9] []
def z560r6:IC:=.reg [⟨some 29, none,.mv (.t 8)⟩,⟨some 30, none,.mv (.t 6)⟩,⟨some 31, none,.slc 1 (.t 29) (some (.t 30)) none none⟩,⟨some 10, none,.asgm (.t 31)⟩] [5,8,9,10] []
def z560r7:IC:=.reg [⟨some 32, none,.mv (.t 5)⟩,⟨some 33, none,.mv (.t 5)⟩,⟨some 34, none,.call zl140 [(.val,(.t 33)),(.val,(.c (vi 4)))] false⟩,⟨some 35, none,.call zl118 [(.val,(.t 32)),(.val,(.t 34))] false⟩,⟨some 36, none,.call zl125 [(.rd,(.t 35))] true⟩,⟨some 11, none,.asg (.t 36)⟩] [5,8,9,10,11] []
def z560r8:IC:=.reg [⟨some 37, none,.mv (.t 5)⟩,⟨some 38, none,.call zl140 [(.val,(.t 37)),(.val,(.c (vi 10)))] false⟩] [5,8,9,10,11,38] []
def z560r9:IC:=.reg [⟨some 40, none,.bin .eql (.t 38) (.c (vi 0))⟩,⟨some 39, none,.asg (.t 40)⟩] [5,8,9,10,11,38,39] []
def z560r10:IC:=.reg [⟨some 41, none,.mv (.t 9)⟩,⟨some 42, none,.call zl123 [(.rd,(.t 41))] true⟩,⟨some 43, none,.mv (.t 10)⟩,⟨some 44, none,.app 1 (.t 42) (.t 43)⟩,⟨some 45, none,.bsl 1 [(vi 0)] 0 []⟩,⟨some 46, none,.mv (.t 11)⟩,⟨some 2, none,.asg (.t 44)⟩,⟨some 3, none,.asg (.t 45)⟩,⟨some 4, none,.asgm (.t 46)⟩] [2,3,4,8,9,10,11] []
def z560r11:IC:=.reg [⟨some 48, none,.bin .eql (.t 38) (.c (vi 1))⟩,⟨some 47, none,.asg (.t 48)⟩] [5,8,9,10,11,38,47] []
def z560r12:IC:=.reg [⟨some 49, none,.mv (.t 9)⟩,⟨some 50, none,.mv (.t 10)⟩,⟨some 51, none,.mv (.t 5)⟩,⟨some 52, none,.mv (.t 11)⟩,⟨some 53, none,.call zl135 [(.val,(.t 51)),(.tk,(.t 52))] false⟩,⟨some 2, none,.asgm (.t 49)⟩,⟨some 3, none,.asgm (.t 50)⟩,⟨some 4, none,.asg (.t 53)⟩] [2,3,4,8,9,10,11] []
def z560r13:IC:=.reg [⟨some 55, none,.bin .eql (.t 38) (.c (vi 2))⟩,⟨some 54, none,.asg (.t 55)⟩] [5,8,9,10,11,38,54] []
def z560r14:IC:=.reg [⟨some 56, none,.bsl 1 [(vi 0)] 0 []⟩,⟨some 57, none,.bsl 1 [(vi 0)] 2 [(0,(.c (vi 0))),(1,(.c (vi 0)))]⟩,⟨some 58, none,.mv (.t 11)⟩,⟨some 2, none,.asg (.t 56)⟩,⟨some 3, none,.asg (.t 57)⟩,⟨some 4, none,.asgm (.t 58)⟩] [2,3,4,8,9,10,11] []
def z560r15:IC:=.reg [⟨some 60, none,.bin .eql (.t 38) (.c (vi 3))⟩,⟨some 59, none,.asg (.t 60)⟩] [5,8,9,10,11,59] []
def z560r16:IC:=.reg [⟨some 61, none,.mv (.t 9)⟩,⟨some 62, none,.mv (.t 10)⟩,⟨some 63, none,.mv (.t 5)⟩,⟨some 64, none,.call zl118 [(.val,(.t 63)),(.val,(.c (vi 6)))] false⟩,⟨some 65, none,.call zl125 [(.rd,(.t 64))] true⟩,⟨some 2, none,.asgm (.t 61)⟩,⟨some 3, none,.asgm (.t 62)⟩,⟨some 4, none,.asg (.t 65)⟩] [2,3,4,8,9,10,11] []
def z560r17:IC:=.reg [⟨some 66, none,.mv (.t 9)⟩,⟨some 67, none,.mv (.t 10)⟩,⟨some 68, none,.mv (.t 11)⟩,⟨some 2, none,.asgm (.t 66)⟩,⟨some 3, none,.asgm (.t 67)⟩,⟨some 4, none,.asgm (.t 68)⟩] [2,3,4,8,9,10,11] []
def zi560:IFun:=⟨[.t 2,.t 3,.t 4],[],(.seq z560r0 (.seq z560r1 (.seq z560r2 (.seq z560r3 (.seq z560r4 (.seq z560r5 (.seq z560r6 (.seq z560r7 (.seq (.seq z560r8 (.block 0 (.seq z560r9 (.cond (.t 39) (.seq z560r10 .ret) (.seq z560r11 (.cond (.t 47) (.seq z560r12 .ret) (.seq z560r13 (.cond (.t 54) (.seq z560r14 .ret) (.seq z560r15 (.cond (.t 59) (.seq z560r16 .ret) .skip)))))))))) (.seq z560r17 .ret))))))))))⟩
def z118r0:IC:=.reg [⟨some 4, none,.alloc [(vi 0),(.slice none 0 0)]⟩] [0,1,4] []
def z118r1:IC:=.reg [⟨some 9, none,.mv (.t 1)⟩,⟨some 10, none,.bsl 2 [(vi 0),(vi 0)] 0 []⟩,⟨some 11, none,.build [(vi 0),(.slice none 0 0)] [(0,1,(.t 9)),(1,1,(.t 10))]⟩,⟨some 5, none,.alloc [(vi 0),(.slice none 0 0)]⟩,⟨none,none,.store 2 (.t 5) (.t 11)⟩] [0,1,4,5] []
def z118r2:IC:=.reg [⟨some 12, none,.mv (.t 1)⟩,⟨some 13, none,.call zl138 [(.val,(.t 12))] true⟩,⟨some 6, none,.asg (.t 13)⟩] [0,4,5,6] []
def z118r3:IC:=.reg [⟨some 14, none,.mv (.t 0)⟩,⟨some 15, none,.call zl140 [(.val,(.t 14)),(.val,(.c (vi 3)))] false⟩,⟨some 16, none,.bin .add (.c (vi 2)) (.t 15)⟩,⟨some 7, none,.asg (.t 16)⟩] [0,4,5,6,7] []
def z118r4:IC:=.reg [⟨some 8, none,.asg (.c (vi 0))⟩] [0,4,5,6,7,8] []
def z118r5:IC:=.reg [⟨some 17, none,.mv (.t 8)⟩,⟨some 18, none,.mv (.t 6)⟩,⟨some 19, none,.len (.t 18)⟩,⟨some 20, none,.bin .lss (.t 17) (.t 19)⟩] [0,4,5,6,7,8,20] []
def z118r6:IC:=.reg [⟨some 23, none,.mv (.t 0)⟩,⟨some 24, none,.mv (.t 7)⟩,⟨some 25, none,.call zl140 [(.val,(.t 23)),(.val,(.t 24))] false⟩,⟨some 26, none,.bin .eql (.t 25) (.c (vi 0))⟩] [0,4,5,6,7,8,26] []
def z118r7:IC:=.reg [⟨some 27, none,.fadr 1 (.t 5)⟩,⟨some 28, none,.load false 1 (.t 27)⟩,⟨some 29, none,.mv (.t 6)⟩,⟨some 30, none,.mv (.t 8)⟩,⟨some 31, none,.iadr 2 (.t 29) (.t 30)⟩,⟨some 32, none,.load true 2 (.t 31)⟩,⟨some 33, none,.bsl 2 [(vi 0),(vi 0)] 1 [(0,(.t 32))]⟩,⟨some 34, none,.app 2 (.t 28) (.t 33)⟩,⟨some 35, none,.fadr 1 (.t 5)⟩,⟨none,none,.store 1 (.t 35) (.t 34)⟩] [0,4,5,6,7,8] [[0,2,3,4,5,6,1,7,8,9]]
def z118r8:IC:=.reg [⟨some 21, none,.mv (.t 8)⟩,⟨some 22, none,.bin .add (.t 21) (.c (vi 1))⟩,⟨some 8, none,.asg (.t 22)⟩] [0,4,5,6,7,8] []
def z118l9:IC:=(.seq (.seq z118r5 (.cond (.t 20) .skip (.exit 0))) (.seq (.block 1 (.seq z118r6 (.cond (.t 26) z118r7 .skip))) z118r8))
def z118r10:IC:=.reg [⟨some 36, none,.mv (.t 0)⟩,⟨some 37, none,.call zl140 [(.val,(.t 36)),(.val,(.c (vi 4)))] false⟩,⟨some 38, none,.bin .eql (.t 37) (.c (vi 0))⟩] [4,5,38] []
def z118r11:IC:=.reg [⟨some 39, none,.load true 2 (.t 5)⟩,⟨some 40, none,.call zl122 [(.rd,(.t 39))] true⟩,⟨none,none,.store 2 (.t 4) (.t 40)⟩] [4] []
def z118r12:IC:=.reg [⟨some 41, none,.load true 2 (.t 5)⟩,⟨none,none,.store 2 (.t 4) (.t 41)⟩] [4] []
def zi118:IFun:=⟨[.c 4 2 true],[],(.seq z118r0 (.seq z118r1 (.seq z118r2 (.seq z118r3 (.seq (.seq z118r4 (.block 0 (.loop z118l9))) (.seq (.seq z118r10 (.cond (.t 38) (.seq z118r11 .ret) .skip)) (.seq z118r12 .ret)))))))⟩
def z331r0:IC:=.reg [⟨some 6, none,.asg (.c (.slice none 0 0))⟩] [0,1,2] []
def z331r1:IC:=.reg [⟨some 11, none,.bsl 1 [(.slice none 0 0)] 0 []⟩,⟨some 7, none,.asg (.t 11)⟩] [0,1,2,7] []
def z331r2:IC:=.reg [⟨some 8, none,.asg (.c (vi 0))⟩] [0,1,2,7,8] []
def z331r3:IC:=.reg [⟨some 12, none,.mv (.t 8)⟩,⟨some 13, none,.mv (.t 1)⟩,⟨some 14, none,.bin .lss (.t 12) (.t 13)⟩] [0,1,2,7,8,14] []
def z331r4:IC:=.reg [⟨some 17, none,.bsl 1 [(vi 0)] 0 []⟩,⟨some 9, none,.asg (.t 17)⟩] [0,1,2,7,8,9] []
def z331r5:IC:=.reg [⟨some 10, none,.asg (.c (vi 0))⟩] [0,1,2,7,8,9,10] []
def z331r6:IC:=.reg [⟨some 18, none,.mv (.t 10)⟩,⟨some 19, none,.mv (.t 2)⟩,⟨some 20, none,.bin .lss (.t 18) (.t 19)⟩] [0,1,2,7,8,9,10,20] []
def z331r7:IC:=.reg [⟨some 23, none,.mv (.t 9)⟩,⟨some 24, none,.mv (.t 0)⟩,⟨some 25, none,.call zl140 [(.val,(.t 24)),(.val,(.c (vi 2)))] false⟩,⟨some 26, none,.bsl 1 [(vi 0)] 1 [(0,(.t 25))]⟩,⟨some 27, none,.app 1 (.t 23) (.t 26)⟩,⟨some 9, none,.asg (.t 27)⟩] [0,1,2,7,8,9,10] []
def z331r8:IC:=.reg [⟨some 21, none,.mv (.t 10)⟩,⟨some 22, none,.bin .add (.t 21) (.c (vi 1))⟩,⟨some 10, none,.asg (.t 22)⟩] [0,1,2,7,8,9,10] []
def z331l9:IC:=(.seq (.seq z331r6 (.cond (.t 20) .skip (.exit 2))) (.seq (.block 3 z331r7) z331r8))
def z331r10:IC:=.reg [⟨some 28, none,.mv (.t 7)⟩,⟨some 29, none,.mv (.t 9)⟩,⟨some 30, none,.bsl 1 [(.slice none 0 0)] 1 [(0,(.t 29))]⟩,⟨some 31, none,.app 1 (.t 28) (.t 30)⟩,⟨some 7, none,.asg (.t 31)⟩] [0,1,2,7,8] []
def z331r11:IC:=.reg [⟨some 15, none,.mv (.t 8)⟩,⟨some 16, none,.bin .add (.t 15) (.c (vi 1))⟩,⟨some 8, none,.asg (.t 16)⟩] [0,1,2,7,8] []
def z331l12:IC:=(.seq (.seq z331r3 (.cond (.t 14) .skip (.exit 0))) (.seq (.block 1 (.seq z331r4 (.seq (.seq z331r5 (.block 2 (.loop z331l9))) z331r10))) z331r11))
def z331r13:IC:=.reg [⟨some 32, none,.mv (.t 7)⟩,⟨some 6, none,.asgm (.t 32)⟩] [6,7] []
def zi331:IFun:=⟨[.t 6],[],(.seq z331r0 (.seq z331r1 (.seq (.seq z331r2 (.block 0 (.loop z331l12))) (.seq z331r13 .ret))))⟩
def z122r0:IC:=.reg [⟨some 1, none,.box (.t 0)⟩,⟨some 2, none,.alloc [(vi 0),(.slice none 0 0)]⟩] [1,2] []
def z122r1:IC:=.reg [⟨some 6, none,.fadr 0 (.t 1)⟩,⟨some 7, none,.load false 1 (.t 6)⟩,⟨some 8, none,.bsl 2 [(vi 0),(vi 0)] 0 []⟩,⟨some 9, none,.build [(vi 0),(.slice none 0 0)] [(0,1,(.t 7)),(1,1,(.t 8))]⟩,⟨some 3, none,.alloc [(vi 0),(.slice none 0 0)]⟩,⟨none,none,.store 2 (.t 3) (.t 9)⟩] [1,2,3] []
def z122r2:IC:=.reg [⟨some 10, none,.fadr 0 (.t 1)⟩,⟨some 11, none,.load false 1 (.t 10)⟩,⟨some 12, none,.call zl138 [(.val,(.t 11))] true⟩,⟨some 4, none,.asg (.t 12)⟩] [1,2,3,4] []
def z122r3:IC:=.reg [⟨some 5, none,.asg (.c (vi 0))⟩] [1,2,3,4,5] []
def z122r4:IC:=.reg [⟨some 13, none,.mv (.t 5)⟩,⟨some 14, none,.mv (.t 4)⟩,⟨some 15, none,.len (.t 14)⟩,⟨some 16, none,.bin .lss (.t 13) (.t 15)⟩] [1,2,3,4,5,16] []
def z122r5:IC:=.reg [⟨some 19, none,.load true 2 (.t 1)⟩,⟨some 20, none,.mv (.t 4)⟩,⟨some 21, none,.mv (.t 5)⟩,⟨some 22, none,.iadr 2 (.t 20) (.t 21)⟩,⟨some 23, none,.fadr 0 (.t 22)⟩,⟨some 24, none,.load false 1 (.t 23)⟩,⟨some 25, none,.mv (.t 4)⟩,⟨some 26, none,.mv (.t 5)⟩,⟨some 27, none,.iadr 2 (.t 25) (.t 26)⟩,⟨some 28, none,.fadr 1 (.t 27)⟩,⟨some 29, none,.load false 1 (.t 28)⟩,⟨some 30, none,.call zl130 [(.rd,(.t 19)),(.val,(.t 24)),(.val,(.t 29))] true⟩,⟨some 31, none,.unop .not (.t 30)⟩] [1,2,3,4,5,31] []
def z122r6:IC:=.reg [⟨some 32, none,.fadr 1 (.t 3)⟩,⟨some 33, none,.load false 1 (.t 32)⟩,⟨some 34, none,.mv (.t 4)⟩,⟨some 35, none,.mv (.t 5)⟩,⟨some 36, none,.iadr 2 (.t 34) (.t 35)⟩,⟨some 37, none,.load true 2 (.t 36)⟩,⟨some 38, none,.bsl 2 [(vi 0),(vi 0)] 1 [(0,(.t 37))]⟩,⟨some 39, none,.app 2 (.t 33) (.t 38)⟩,⟨some 40, none,.fadr 1 (.t 3)⟩,⟨none,none,.store 1 (.t 40) (.t 39)⟩] [1,2,3,4,5] [[0,2,3,4,5,6,1,7,8,9]]
def z122r7:IC:=.reg [⟨some 17, none,.mv (.t 5)⟩,⟨some 18, none,.bin .add (.t 17) (.c (vi 1))⟩,⟨some 5, none,.asg (.t 18)⟩] [1,2,3,4,5] []
def z122l8:IC:=(.seq (.seq z122r4 (.cond (.t 16) .skip (.exit 0))) (.seq (.block 1 (.seq z122r5 (.cond (.t 31) z122r6 .skip))) z122r7))
def z122r9:IC:=.reg [⟨some 41, none,.load true 2 (.t 3)⟩,⟨none,none,.store 2 (.t 2) (.t 41)⟩] [2] []
def zi122:IFun:=⟨[.c 2 2 true],[],(.seq z122r0 (.seq z122r1 (.seq z122r2 (.seq (.seq z122r3 (.block 0 (.loop z122l8))) (.seq z122r9 .ret)))))⟩
def z582r0:IC:=.reg [⟨some 6, none,.asg (.c (.slice none 0 0))⟩] [0,1,2] []
def z582r1:IC:=.reg [⟨some 10, none,.bsl 1 [(vi 0)] 0 []⟩,⟨some 7, none,.asg (.t 10)⟩] [0,1,2,7] []
def z582r2:IC:=.reg [⟨some 8, none,.asg (.c (vi 0))⟩] [0,1,2,7,8] []
def z582r3:IC:=.reg [⟨some 11, none,.mv (.t 8)⟩,⟨some 12, none,.mv (.t 0)⟩,⟨some 13, none,.len (.t 12)⟩,⟨some 14, none,.bin .lss (.t 11) (.t 13)⟩] [0,1,2,7,8,14] []
def z582r4:IC:=.reg [⟨some 17, none,.mv (.t 7)⟩,⟨some 18, none,.mv (.t 0)⟩,⟨some 19, none,.mv (.t 8)⟩,⟨some 20, none,.iadr 1 (.t 18) (.t 19)⟩,⟨some 21, none,.load false 1 (.t 20)⟩,⟨some 22, none,.mv (.t 2)⟩,⟨some 23, none,.len (.t 22)⟩,⟨some 24, none,.bin .add (.t 21) (.t 23)⟩,⟨some 25, none,.bsl 1 [(vi 0)] 1 [(0,(.t 24))]⟩,⟨some 26, none,.app 1 (.t 17) (.t 25)⟩,⟨some 7, none,.asg (.t 26)⟩] [0,1,2,7,8] []
def z582r5:IC:=.reg [⟨some 15, none,.mv (.t 8)⟩,⟨some 16, none,.bin .add (.t 15) (.c (vi 1))⟩,⟨some 8, none,.asg (.t 16)⟩] [0,1,2,7,8] []
def z582l6:IC:=(.seq (.seq z582r3 (.cond (.t 14) .skip (.exit 0))) (.seq (.block 1 z582r4) z582r5))
def z582r7:IC:=.reg [⟨some 9, none,.asg (.c (vi 0))⟩] [0,1,2,7,9] []
def z582r8:IC:=.reg [⟨some 27, none,.mv (.t 9)⟩,⟨some 28, none,.mv (.t 2)⟩,⟨some 29, none,.len (.t 28)⟩,⟨some 30, none,.bin .lss (.t 27) (.t 29)⟩] [0,1,2,7,9,30] []
def z582r9:IC:=.reg [⟨some 33, none,.mv (.t 7)⟩,⟨some 34, none,.mv (.t 2)⟩,⟨some 35, none,.mv (.t 9)⟩,⟨some 36, none,.iadr 1 (.t 34) (.t 35)⟩,⟨some 37, none,.load false 1 (.t 36)⟩,⟨some 38, none,.mv (.t 0)⟩,⟨some 39, none,.len (.t 38)⟩,⟨some 40, none,.bin .add (.t 37) (.t 39)⟩,⟨some 41, none,.bsl 1 [(vi 0)] 1 [(0,(.t 40))]⟩,⟨some 42, none,.app 1 (.t 33) (.t 41)⟩,⟨some 7, none,.asg (.t 42)⟩] [0,1,2,7,9] []
def z582r10:IC:=.reg [⟨some 31, none,.mv (.t 9)⟩,⟨some 32, none,.bin .add (.t 31) (.c (vi 1))⟩,⟨some 9, none,.asg (.t 32)⟩] [0,1,2,7,9] []
def z582l11:IC:=(.seq (.seq z582r8 (.cond (.t 30) .skip (.exit 2))) (.seq (.block 3 z582r9) z582r10))
def z582r12:IC:=.reg [⟨some 43, none,.mv (.t 7)⟩,⟨some 44, none,.mv (.t 1)⟩,⟨some 45, none,.app 1 (.t 43) (.t 44)⟩,⟨some 6, none,.asg (.t 45)⟩] [6] []
def zi582:IFun:=⟨[.t 6],[],(.seq z582r0 (.seq z582r1 (.seq (.seq z582r2 (.block 0 (.loop z582l6))) (.seq (.seq z582r7 (.block 2 (.loop z582l11))) (.seq z582r12 .ret)))))⟩
def z123r0:IC:=.reg [⟨some 2, none,.asg (.c (.slice none 0 0))⟩] [0] []
def z123r1:IC:=.reg [⟨some 3, none,.bsl 1 [(vi 0)] 0 []⟩,⟨some 4, none,.mv (.t 0)⟩,⟨some 5, none,.app 1 (.t 3) (.t 4)⟩,⟨some 2, none,.asg (.t 5)⟩] [2] []
def zi123:IFun:=⟨[.t 2],[],(.seq z123r0 (.seq z123r1 .ret))⟩
def z125r0:IC:=.reg [⟨some 1, none,.box (.t 0)⟩,⟨some 2, none,.asg (.c (.slice none 0 0))⟩] [1] []
def z125r1:IC:=.reg [⟨some 5, none,.fadr 0 (.t 1)⟩,⟨some 6, none,.load false 1 (.t 5)⟩,⟨some 7, none,.mksl 1 [(vi 0)] (.t 6) (.t 6)⟩,⟨some 3, none,.asg (.t 7)⟩] [1,3] []
def z125r2:IC:=.reg [⟨some 4, none,.asg (.c (vi 0))⟩] [1,3,4] []
def z125r3:IC:=.reg [⟨some 8, none,.mv (.t 4)⟩,⟨some 9, none,.fadr 1 (.t 1)⟩,⟨some 10, none,.load false 1 (.t 9)⟩,⟨some 11, none,.len (.t 10)⟩,⟨some 12, none,.bin .lss (.t 8) (.t 11)⟩] [1,3,4,12] []
def z125r4:IC:=.reg [⟨some 15, none,.mv (.t 3)⟩,⟨some 16, none,.fadr 1 (.t 1)⟩,⟨some 17, none,.load false 1 (.t 16)⟩,⟨some 18, none,.mv (.t 4)⟩,⟨some 19, none,.iadr 2 (.t 17) (.t 18)⟩,⟨some 20, none,.fadr 0 (.t 19)⟩,⟨some 21, none,.load false 1 (.t 20)⟩,⟨some 22, none,.mv (.t 3)⟩,⟨some 23, none,.fadr 1 (.t 1)⟩,⟨some 24, none,.load false 1 (.t 23)⟩,⟨some 25, none,.mv (.t 4)⟩,⟨some 26, none,.iadr 2 (.t 24) (.t 25)⟩,⟨some 27, none,.fadr 0 (.t 26)⟩,⟨some 28, none,.load false 1 (.t 27)⟩,⟨some 29, none,.iadr 1 (.t 22) (.t 28)⟩,⟨some 30, none,.load false 1 (.t 29)⟩,⟨some 31, none,.bin .add (.t 30) (.c (vi 1))⟩,⟨some 32, none,.iadr 1 (.t 15) (.t 21)⟩,⟨none,none,.store 1 (.t 32) (.t 31)⟩] [1,3,4] []
def z125r5:IC:=.reg [⟨some 33, none,.mv (.t 3)⟩,⟨some 34, none,.fadr 1 (.t 1)⟩,⟨some 35, none,.load false 1 (.t 34)⟩,⟨some 36, none,.mv (.t 4)⟩,⟨some 37, none,.iadr 2 (.t 35) (.t 36)⟩,⟨some 38, none,.fadr 1 (.t 37)⟩,⟨some 39, none,.load false 1 (.t 38)⟩,⟨some 40, none,.mv (.t 3)⟩,⟨some 41, none,.fadr 1 (.t 1)⟩,⟨some 42, none,.load false 1 (.t 41)⟩,⟨some 43, none,.mv (.t 4)⟩,⟨some 44, none,.iadr 2 (.t 42) (.t 43)⟩,⟨some 45, none,.fadr 1 (.t 44)⟩,⟨some 46, none,.load false 1 (.t 45)⟩,⟨some 47, none,.iadr 1 (.t 40) (.t 46)⟩,⟨some 48, none,.load false 1 (.t 47)⟩,⟨some 49, none,.bin .add (.t 48) (.c (vi 1))⟩,⟨some 50, none,.iadr 1 (.t 33) (.t 39)⟩,⟨none,none,.store 1 (.t 50) (.t 49)⟩] [1,3,4] []
def z125r6:IC:=.reg [⟨some 13, none,.mv (.t 4)⟩,⟨some 14, none,.bin .add (.t 13) (.c (vi 1))⟩,⟨some 4, none,.asg (.t 14)⟩] [1,3,4] []
def z125l7:IC:=(.seq (.seq z125r3 (.cond (.t 12) .skip (.exit 0))) (.seq (.block 1 (.seq z125r4 z125r5)) z125r6))
def z125r8:IC:=.reg [⟨some 51, none,.mv (.t 3)⟩,⟨some 2, none,.asgm (.t 51)⟩] [2,3] []
def zi125:IFun:=⟨[.t 2],[],(.seq z125r0 (.seq z125r1 (.seq (.seq z125r2 (.block 0 (.loop z125l7))) (.seq z125r8 .ret))))⟩
def z127r0:IC:=.reg [⟨some 2, none,.asg (.c (.slice none 0 0))⟩] [0] []
def z127r1:IC:=.reg [⟨some 6, none,.bsl 1 [(vi 0)] 0 []⟩,⟨some 3, none,.asg (.t 6)⟩] [0,3] []
def z127r2:IC:=.reg [⟨some 4, none,.asg (.c (vi 0))⟩] [0,3,4] []
def z127r3:IC:=.reg [⟨some 7, none,.mv (.t 4)⟩,⟨some 8, none,.mv (.t 0)⟩,⟨some 9, none,.len (.t 8)⟩,⟨some 10, none,.bin .lss (.t 7) (.t 9)⟩] [0,3,4,10] []
def z127r4:IC:=.reg [⟨some 5, none,.asg (.c (vi 0))⟩] [0,3,4,5] []
def z127r5:IC:=.reg [⟨some 13, none,.mv (.t 5)⟩,⟨some 14, none,.mv (.t 3)⟩,⟨some 15, none,.len (.t 14)⟩,⟨some 16, none,.bin .lss (.t 13) (.t 15)⟩,⟨some 17, none,.asg (.t 16)⟩,⟨some 18, (some (17,true)),.mv (.t 3)⟩,⟨some 19, (some (17,true)),.mv (.t 5)⟩,⟨some 20, (some (17,true)),.iadr 1 (.t 18) (.t 19)⟩,⟨some 21, (some (17,true)),.load false 1 (.t 20)⟩,⟨some 22, (some (17,true)),.mv (.t 0)⟩,⟨some 23, (some (17,true)),.mv (.t 4)⟩,⟨some 24, (some (17,true)),.iadr 1 (.t 22) (.t 23)⟩,⟨some 25, (some (17,true)),.load false 1 (.t 24)⟩,⟨some 26, (some (17,true)),.bin .geq (.t 21) (.t 25)⟩,⟨some 27, none,.pick (.t 17) (.t 26) (.c (.bool false))⟩] [0,3,4,5,27] []
def z127r6:IC:=.reg [⟨some 28, none,.mv (.t 5)⟩,⟨some 29, none,.bin .add (.t 28) (.c (vi 1))⟩,⟨some 5, none,.asg (.t 29)⟩] [0,3,4,5] []
def z127l7:IC:=(.seq (.seq z127r5 (.cond (.t 27) .skip (.exit 2))) (.block 3 z127r6))
def z127r8:IC:=.reg [⟨some 30, none,.mv (.t 3)⟩,⟨some 31, none,.mv (.t 5)⟩,⟨some 32, none,.slc 1 (.t 30) none (some (.t 31)) none⟩,⟨some 33, none,.call zl123 [(.rd,(.t 32))] true⟩,⟨some 34, none,.mv (.t 0)⟩,⟨some 35, none,.mv (.t 4)⟩,⟨some 36, none,.iadr 1 (.t 34) (.t 35)⟩,⟨some 37, none,.load false 1 (.t 36)⟩,⟨some 38, none,.bsl 1 [(vi 0)] 1 [(0,(.t 37))]⟩,⟨some 39, none,.app 1 (.t 33) (.t 38)⟩,⟨some 40, none,.mv (.t 3)⟩,⟨some 41, none,.mv (.t 5)⟩,⟨some 42, none,.slc 1 (.t 40) (some (.t 41)) none none⟩,⟨some 43, none,.app 1 (.t 39) (.t 42)⟩,⟨some 3, none,.asg (.t 43)⟩] [0,3,4] [[0,1,2,4,5,6,7,3,8,9,10,11,12,13,14],[0,1,2,4,5,6,7,8,3,9,10,11,12,13,14]]
def z127r9:IC:=.reg [⟨some 11, none,.mv (.t 4)⟩,⟨some 12, none,.bin .add (.t 11) (.c (vi 1))⟩,⟨some 4, none,.asg (.t 12)⟩] [0,3,4] []
def z127l10:IC:=(.seq (.seq z127r3 (.cond (.t 10) .skip (.exit 0))) (.seq (.block 1 (.seq z127r4 (.seq (.block 2 (.loop z127l7)) z127r8))) z127r9))
def z127r11:IC:=.reg [⟨some 44, none,.mv (.t 3)⟩,⟨some 2, none,.asgm (.t 44)⟩] [2,3] []
def zi127:IFun:=⟨[.t 2],[],(.seq z127r0 (.seq z127r1 (.seq (.seq z127r2 (.block 0 (.loop z127l10))) (.seq z127r11 .ret))))⟩
def z130r0:IC:=.reg [⟨some 3, none,.box (.t 0)⟩,⟨some 6, none,.asg (.c (.bool false))⟩] [1,2,3] []
def z130r1:IC:=.reg [⟨some 7, none,.asg (.c (vi 0))⟩] [1,2,3,7] []
def z130r2:IC:=.reg [⟨some 9, none,.mv (.t 7)⟩,⟨some 10, none,.fadr 1 (.t 3)⟩,⟨some 11, none,.load false 1 (.t 10)⟩,⟨some 12, none,.len (.t 11)⟩,⟨some 13, none,.bin .lss (.t 9) (.t 12)⟩] [1,2,3,7,13] []
def z130r3:IC:=.reg [⟨some 16, none,.fadr 1 (.t 3)⟩,⟨some 17, none,.load false 1 (.t 16)⟩,⟨some 18, none,.mv (.t 7)⟩,⟨some 19, none,.iadr 2 (.t 17) (.t 18)⟩,⟨some 20, none,.load true 2 (.t 19)⟩,⟨some 8, none,.alloc [(vi 0),(vi 0)]⟩,⟨none,none,.store 2 (.t 8) (.t 20)⟩] [1,2,3,7,8] []
def z130r4:IC:=.reg [⟨some 21, none,.fadr 0 (.t 8)⟩,⟨some 22, none,.load false 1 (.t 21)⟩,⟨some 23, none,.mv (.t 1)⟩,⟨some 24, none,.bin .eql (.t 22) (.t 23)⟩,⟨some 25, none,.asg (.t 24)⟩,⟨some 26, (some (25,true)),.fadr 1 (.t 8)⟩,⟨some 27, (some (25,true)),.load false 1 (.t 26)⟩,⟨some 28, (some (25,true)),.mv (.t 2)⟩,⟨some 29, (some (25,true)),.bin .eql (.t 27) (.t 28)⟩,⟨some 30, none,.pick (.t 25) (.t 29) (.c (.bool false))⟩,⟨some 31, none,.asg (.t 30)⟩,⟨some 32, (some (31,false)),.fadr 0 (.t 8)⟩,⟨some 33, (some (31,false)),.load false 1 (.t 32)⟩,⟨some 34, (some (31,false)),.mv (.t 2)⟩,⟨some 35, (some (31,false)),.bin .eql (.t 33) (.t 34)⟩,⟨some 36, (some (31,false)),.asg (.t 35)⟩,⟨some 37, (some (36,true)),.fadr 1 (.t 8)⟩,⟨some 38, (some (36,true)),.load false 1 (.t 37)⟩,⟨some 39, (some (36,true)),.mv (.t 1)⟩,⟨some 40, (some (36,true)),.bin .eql (.t 38) (.t 39)⟩,
    ⟨some 41, (some (31,false)),.pick (.t 36) (.t 40) (.c (.bool false))⟩,⟨some 42, none,.pick (.t 31) (.c (.bool true)) (.t 41)⟩] [1,2,3,7,42] []
def z130r5:IC:=.reg [⟨some 6, none,.asg (.c (.bool true))⟩] [6] []
def z130r6:IC:=.reg [⟨some 14, none,.mv (.t 7)⟩,⟨some 15, none,.bin .add (.t 14) (.c (vi 1))⟩,⟨some 7, none,.asg (.t 15)⟩] [1,2,3,7] []
def z130l7:IC:=(.seq (.seq z130r2 (.cond (.t 13) .skip (.exit 0))) (.seq (.block 1 (.seq z130r3 (.seq z130r4 (.cond (.t 42) (.seq z130r5 .ret) .skip)))) z130r6))
def z130r8:IC:=.reg [⟨some 6, none,.asg (.c (.bool false))⟩] [6] []
def zi130:IFun:=⟨[.t 6],[],(.seq z130r0 (.seq (.seq z130r1 (.block 0 (.loop z130l7))) (.seq z130r8 .ret)))⟩
def z132r0:IC:=.reg [⟨some 6, none,.asg (.c (.bool false))⟩] [0,1,2] []
def z132r1:IC:=.reg [⟨some 7, none,.mv (.t 1)⟩,⟨some 8, none,.mv (.t 0)⟩,⟨some 9, none,.bin .leq (.t 7) (.t 8)⟩,⟨some 10, none,.asg (.t 9)⟩,⟨some 11, (some (10,true)),.mv (.t 0)⟩,⟨some 12, (some (10,true)),.mv (.t 2)⟩,⟨some 13, (some (10,true)),.bin .leq (.t 11) (.t 12)⟩,⟨some 14, none,.pick (.t 10) (.t 13) (.c (.bool false))⟩,⟨some 6, none,.asg (.t 14)⟩] [6] []
def zi132:IFun:=⟨[.t 6],[],(.seq z132r0 (.seq z132r1 .ret))⟩
def z357r0:IC:=.reg [⟨some 2, none,.asg (.c (.bool false))⟩] [0] []
def z357r1:IC:=.reg [⟨some 3, none,.mv (.t 0)⟩,⟨some 4, none,.call zl382 [(.rd,(.t 3))] true⟩,⟨some 5, none,.bin .rem (.t 4) (.c (vi 2))⟩,⟨some 6, none,.bin .eql (.t 5) (.c (vi 0))⟩,⟨some 7, none,.asg (.t 6)⟩,⟨some 8, (some (7,true)),.mv (.t 0)⟩,⟨some 9, (some (7,true)),.call zl141 [(.rd,(.t 8))] true⟩,⟨some 10, (some (7,true)),.call zl360 [(.rd,(.t 9))] true⟩,⟨some 11, (some (7,true)),.bin .eql (.t 10) (.c (vi 0))⟩,⟨some 12, none,.pick (.t 7) (.t 11) (.c (.bool false))⟩,⟨some 2, none,.asg (.t 12)⟩] [2] []
def zi357:IFun:=⟨[.t 2],[],(.seq z357r0 (.seq z357r1 .ret))⟩
def z360r0:IC:=.reg [⟨some 2, none,.asg (.c (vi 0))⟩] [0] []
def z360r1:IC:=.reg [⟨some 3, none,.asg (.c (vi 0))⟩] [0,3] []
def z360r2:IC:=.reg [⟨some 4, none,.asg (.c (vi 0))⟩] [0,3,4] []
def z360r3:IC:=.reg [⟨some 5, none,.mv (.t 4)⟩,⟨some 6, none,.mv (.t 0)⟩,⟨some 7, none,.len (.t 6)⟩,⟨some 8, none,.bin .lss (.t 5) (.t 7)⟩] [0,3,4,8] []
def z360r4:IC:=.reg [⟨some 11, none,.mv (.t 3)⟩,⟨some 12, none,.mv (.t 0)⟩,⟨some 13, none,.mv (.t 4)⟩,⟨some 14, none,.iadr 1 (.t 12) (.t 13)⟩,⟨some 15, none,.load false 1 (.t 14)⟩,⟨some 16, none,.minmax true (.t 11) (.t 15)⟩,⟨some 3, none,.asg (.t 16)⟩] [0,3,4] []
def z360r5:IC:=.reg [⟨some 9, none,.mv (.t 4)⟩,⟨some 10, none,.bin .add (.t 9) (.c (vi 1))⟩,⟨some 4, none,.asg (.t 10)⟩] [0,3,4] []
def z360l6:IC:=(.seq (.seq z360r3 (.cond (.t 8) .skip (.exit 0))) (.seq (.block 1 z360r4) z360r5))
def z360r7:IC:=.reg [⟨some 17, none,.mv (.t 3)⟩,⟨some 2, none,.asgm (.t 17)⟩] [2] []
def zi360:IFun:=⟨[.t 2],[],(.seq z360r0 (.seq z360r1 (.seq (.seq z360r2 (.block 0 (.loop z360l6))) (.seq z360r7 .ret))))⟩
def z135r0:IC:=.reg [⟨some 4, none,.asg (.c (.slice none 0 0))⟩] [0,1] []
def z135r1:IC:=.reg [⟨some 7, none,.mv (.t 1)⟩,⟨some 8, none,.len (.t 7)⟩,⟨some 9, none,.bin .lss (.t 8) (.c (vi 2))⟩] [0,1,9] []
def z135r2:IC:=.reg [⟨some 10, none,.mv (.t 1)⟩,⟨some 4, none,.asgm (.t 10)⟩] [1,4] []
def z135r3:IC:=.reg [⟨some 11, none,.mv (.t 0)⟩,⟨some 12, none,.bsl 1 [(vi 0)] 5 [(0,(.c (vi 0))),(1,(.c (vi 1))),(2,(.c (vi 2))),(3,(.c (vi 2))),(4,(.c (vi 3)))]⟩,⟨some 13, none,.call zl139 [(.val,(.t 11)),(.rd,(.t 12))] false⟩,⟨some 5, none,.asg (.t 13)⟩] [0,1,5] []
def z135r4:IC:=.reg [⟨some 14, none,.mv (.t 5)⟩,⟨some 15, none,.bin .gtr (.t 14) (.c (vi 0))⟩] [0,1,5,15] []
def z135r5:IC:=.reg [⟨some 18, none,.mv (.t 0)⟩,⟨some 19, none,.mv (.t 1)⟩,⟨some 20, none,.len (.t 19)⟩,⟨some 21, none,.call zl140 [(.val,(.t 18)),(.val,(.t 20))] false⟩,⟨some 6, none,.asg (.t 21)⟩] [0,1,5,6] []
def z135r6:IC:=.reg [⟨some 22, none,.mv (.t 1)⟩,⟨some 23, none,.mv (.t 6)⟩,⟨some 24, none,.mv (.t 1)⟩,⟨some 25, none,.mv (.t 6)⟩,⟨some 26, none,.iadr 1 (.t 24) (.t 25)⟩,⟨some 27, none,.load false 1 (.t 26)⟩,⟨some 28, none,.mv (.t 0)⟩,⟨some 29, none,.bsl 1 [(vi 0)] 4 [(0,(.c (vi 1))),(1,(.c (vi (-1)))),(2,(.c (vi 1))),(3,(.c (vi 2)))]⟩,⟨some 30, none,.call zl139 [(.val,(.t 28)),(.rd,(.t 29))] false⟩,⟨some 31, none,.bin .add (.t 27) (.t 30)⟩,⟨some 32, none,.minmax false (.t 31) (.c (vi 0))⟩,⟨some 33, none,.mv (.t 1)⟩,⟨some 34, none,.len (.t 33)⟩,⟨some 35, none,.bin .sub (.t 34) (.c (vi 1))⟩,⟨some 36, none,.minmax true (.t 32) (.t 35)⟩,⟨some 37, none,.iadr 1 (.t 22) (.t 23)⟩,⟨none,none,.store 1 (.t 37) (.t 36)⟩] [0,1,5] [[0,1,2,3,4,6,7,5,8,9,10,11,12,13,14,15,16],[0,1,2,3,4,6,7,8,5,9,10,11,12,13,14,15,16]]
def z135r7:IC:=.reg [⟨some 16, none,.mv (.t 5)⟩,⟨some 17, none,.bin .sub (.t 16) (.c (vi 1))⟩,⟨some 5, none,.asg (.t 17)⟩] [0,1,5] []
def z135l8:IC:=(.seq (.seq z135r4 (.cond (.t 15) .skip (.exit 0))) (.seq (.block 1 (.seq z135r5 z135r6)) z135r7))
def z135r9:IC:=.reg [⟨some 38, none,.mv (.t 1)⟩,⟨some 4, none,.asgm (.t 38)⟩] [1,4] []
def zi135:IFun:=⟨[.t 4],[],(.seq z135r0 (.seq (.seq z135r1 (.cond (.t 9) (.seq z135r2 .ret) .skip)) (.seq (.seq z135r3 (.block 0 (.loop z135l8))) (.seq z135r9 .ret))))⟩
def z137r0:IC:=.reg [⟨some 2, none,.asg (.c (.pointer none))⟩] [0] []
def z137r1:IC:=.reg [⟨some 3, none,.mv (.t 0)⟩,⟨some 4, none,.len (.t 3)⟩,⟨some 5, none,.bin .gtr (.t 4) (.c (vi 2000))⟩] [0,5] []
def z137r2:IC:=.reg [⟨some 6, none,.mv (.t 0)⟩,⟨some 7, none,.slc 1 (.t 6) none (some (.c (vi 2000))) none⟩,⟨some 0, none,.asgm (.t 7)⟩] [0] []
def z137r3:IC:=.reg [⟨some 8, none,.mv (.t 0)⟩,⟨some 9, none,.build [(.slice none 0 0),(vi 0)] [(0,1,(.t 8))]⟩,⟨some 10, none,.box (.t 9)⟩,⟨some 2, none,.asg (.t 10)⟩] [2] []
def zi137:IFun:=⟨[.t 2],[],(.seq z137r0 (.seq (.seq z137r1 (.cond (.t 5) z137r2 .skip)) (.seq z137r3 .ret)))⟩
def z138r0:IC:=.reg [⟨some 2, none,.asg (.c (.slice none 0 0))⟩] [0] []
def z138r1:IC:=.reg [⟨some 6, none,.bsl 2 [(vi 0),(vi 0)] 0 []⟩,⟨some 3, none,.asg (.t 6)⟩] [0,3] []
def z138r2:IC:=.reg [⟨some 4, none,.asg (.c (vi 0))⟩] [0,3,4] []
def z138r3:IC:=.reg [⟨some 7, none,.mv (.t 4)⟩,⟨some 8, none,.mv (.t 0)⟩,⟨some 9, none,.bin .lss (.t 7) (.t 8)⟩] [0,3,4,9] []
def z138r4:IC:=.reg [⟨some 12, none,.mv (.t 4)⟩,⟨some 13, none,.bin .add (.t 12) (.c (vi 1))⟩,⟨some 5, none,.asg (.t 13)⟩] [0,3,4,5] []
def z138r5:IC:=.reg [⟨some 14, none,.mv (.t 5)⟩,⟨some 15, none,.mv (.t 0)⟩,⟨some 16, none,.bin .lss (.t 14) (.t 15)⟩] [0,3,4,5,16] []
def z138r6:IC:=.reg [⟨some 19, none,.mv (.t 3)⟩,⟨some 20, none,.mv (.t 4)⟩,⟨some 21, none,.mv (.t 5)⟩,⟨some 22, none,.build [(vi 0),(vi 0)] [(0,1,(.t 20)),(1,1,(.t 21))]⟩,⟨some 23, none,.bsl 2 [(vi 0),(vi 0)] 1 [(0,(.t 22))]⟩,⟨some 24, none,.app 2 (.t 19) (.t 23)⟩,⟨some 3, none,.asg (.t 24)⟩] [0,3,4,5] []
def z138r7:IC:=.reg [⟨some 17, none,.mv (.t 5)⟩,⟨some 18, none,.bin .add (.t 17) (.c (vi 1))⟩,⟨some 5, none,.asg (.t 18)⟩] [0,3,4,5] []
def z138l8:IC:=(.seq (.seq z138r5 (.cond (.t 16) .skip (.exit 2))) (.seq (.block 3 z138r6) z138r7))
def z138r9:IC:=.reg [⟨some 10, none,.mv (.t 4)⟩,⟨some 11, none,.bin .add (.t 10) (.c (vi 1))⟩,⟨some 4, none,.asg (.t 11)⟩] [0,3,4] []
def z138l10:IC:=(.seq (.seq z138r3 (.cond (.t 9) .skip (.exit 0))) (.seq (.block 1 (.seq z138r4 (.block 2 (.loop z138l8)))) z138r9))
def z138r11:IC:=.reg [⟨some 25, none,.mv (.t 3)⟩,⟨some 2, none,.asgm (.t 25)⟩] [2,3] []
def zi138:IFun:=⟨[.t 2],[],(.seq z138r0 (.seq z138r1 (.seq (.seq z138r2 (.block 0 (.loop z138l10))) (.seq z138r11 .ret))))⟩
def z593r0:IC:=.reg [⟨some 4, none,.asg (.c (.bool false))⟩] [0,1] []
def z593r1:IC:=.reg [⟨some 6, none,.mv (.t 0)⟩,⟨some 7, none,.len (.t 6)⟩,⟨some 8, none,.mv (.t 0)⟩,⟨some 9, none,.len (.t 8)⟩,⟨some 10, none,.bin .sub (.t 9) (.c (vi 1))⟩,⟨some 11, none,.bin .mul (.t 7) (.t 10)⟩,⟨some 5, none,.asg (.t 11)⟩] [0,1,5] []
def z593r2:IC:=.reg [⟨some 12, none,.mv (.t 0)⟩,⟨some 13, none,.call zl382 [(.rd,(.t 12))] true⟩,⟨some 14, none,.mv (.t 5)⟩,⟨some 15, none,.bin .sub (.t 13) (.t 14)⟩,⟨some 16, none,.mv (.t 1)⟩,⟨some 17, none,.call zl382 [(.rd,(.t 16))] true⟩,⟨some 18, none,.bin .eql (.t 15) (.t 17)⟩,⟨some 19, none,.asg (.t 18)⟩,⟨some 20, (some (19,true)),.mv (.t 0)⟩,⟨some 21, (some (19,true)),.len (.t 20)⟩,⟨some 22, (some (19,true)),.bin .eql (.t 21) (.c (vi 0))⟩,⟨some 23, (some (19,true)),.asg (.t 22)⟩,⟨some 24, (some (23,false)),.mv (.t 0)⟩,⟨some 25, (some (23,false)),.call zl376 [(.rd,(.t 24))] true⟩,⟨some 26, (some (23,false)),.mv (.t 0)⟩,⟨some 27, (some (23,false)),.len (.t 26)⟩,⟨some 28, (some (23,false)),.bin .sub (.t 27) (.c (vi 1))⟩,⟨some 29, (some (23,false)),.bin .geq (.t 25) (.t 28)⟩,⟨some 30, (some (19,true)),.pick (.t 23) (.c (.bool true)) (.t 29)⟩,
    ⟨some 31, none,.pick (.t 19) (.t 30) (.c (.bool false))⟩,⟨some 32, none,.asg (.t 31)⟩,⟨some 33, (some (32,true)),.mv (.t 1)⟩,⟨some 34, (some (32,true)),.len (.t 33)⟩,⟨some 35, (some (32,true)),.bin .eql (.t 34) (.c (vi 0))⟩,⟨some 36, (some (32,true)),.asg (.t 35)⟩,⟨some 37, (some (36,false)),.mv (.t 1)⟩,⟨some 38, (some (36,false)),.call zl127 [(.rd,(.t 37))] true⟩,⟨some 39, (some (36,false)),.iadr 1 (.t 38) (.c (vi 0))⟩,⟨some 40, (some (36,false)),.load false 1 (.t 39)⟩,⟨some 41, (some (36,false)),.mv (.t 0)⟩,⟨some 42, (some (36,false)),.len (.t 41)⟩,⟨some 43, (some (36,false)),.bin .leq (.t 40) (.t 42)⟩,⟨some 44, (some (32,true)),.pick (.t 36) (.c (.bool true)) (.t 43)⟩,⟨some 45, none,.pick (.t 32) (.t 44) (.c (.bool false))⟩,⟨some 4, none,.asg (.t 45)⟩] [4] []
def zi593:IFun:=⟨[.t 4],[],(.seq z593r0 (.seq z593r1 (.seq z593r2 .ret)))⟩
def z139r0:IC:=.reg [⟨some 4, none,.asg (.c (vi 0))⟩] [0,1] []
def z139r1:IC:=.reg [⟨some 5, none,.mv (.t 1)⟩,⟨some 6, none,.mv (.t 0)⟩,⟨some 7, none,.mv (.t 1)⟩,⟨some 8, none,.len (.t 7)⟩,⟨some 9, none,.call zl140 [(.val,(.t 6)),(.val,(.t 8))] false⟩,⟨some 10, none,.iadr 1 (.t 5) (.t 9)⟩,⟨some 11, none,.load false 1 (.t 10)⟩,⟨some 4, none,.asg (.t 11)⟩] [4] []
def zi139:IFun:=⟨[.t 4],[],(.seq z139r0 (.seq z139r1 .ret))⟩
def z140r0:IC:=.reg [⟨some 4, none,.asg (.c (vi 0))⟩] [0,1] []
def z140r1:IC:=.reg [⟨some 7, none,.mv (.t 0)⟩,⟨some 8, none,.mv (.t 0)⟩,⟨some 9, none,.nilck (.t 8)⟩,⟨some 10, none,.fadr 1 (.t 9)⟩,⟨some 11, none,.load false 1 (.t 10)⟩,⟨some 12, none,.bin .add (.t 11) (.c (vi 1))⟩,⟨some 13, none,.nilck (.t 7)⟩,⟨some 14, none,.fadr 1 (.t 13)⟩,⟨none,none,.store 1 (.t 14) (.t 12)⟩] [0,1] []
def z140r2:IC:=.reg [⟨some 15, none,.mv (.t 1)⟩,⟨some 16, none,.bin .lss (.t 15) (.c (vi 1))⟩,⟨some 17, none,.asg (.t 16)⟩,⟨some 18, (some (17,false)),.mv (.t 0)⟩,⟨some 19, (some (17,false)),.nilck (.t 18)⟩,⟨some 20, (some (17,false)),.fadr 0 (.t 19)⟩,⟨some 21, (some (17,false)),.load false 1 (.t 20)⟩,⟨some 22, (some (17,false)),.len (.t 21)⟩,⟨some 23, (some (17,false)),.bin .eql (.t 22) (.c (vi 0))⟩,⟨some 24, none,.pick (.t 17) (.c (.bool true)) (.t 23)⟩] [0,1,24] []
def z140r3:IC:=.reg [⟨some 4, none,.asg (.c (vi 0))⟩] [4] []
def z140r4:IC:=.reg [⟨some 25, none,.mv (.t 0)⟩,⟨some 26, none,.nilck (.t 25)⟩,⟨some 27, none,.fadr 1 (.t 26)⟩,⟨some 28, none,.load false 1 (.t 27)⟩,⟨some 29, none,.bin .sub (.t 28) (.c (vi 1))⟩,⟨some 5, none,.asg (.t 29)⟩] [0,1,5] []
def z140r5:IC:=.reg [⟨some 30, none,.mv (.t 5)⟩,⟨some 31, none,.mv (.t 0)⟩,⟨some 32, none,.nilck (.t 31)⟩,⟨some 33, none,.fadr 0 (.t 32)⟩,⟨some 34, none,.load false 1 (.t 33)⟩,⟨some 35, none,.len (.t 34)⟩,⟨some 36, none,.bin .lss (.t 30) (.t 35)⟩] [0,1,5,36] []
def z140r6:IC:=.reg [⟨some 37, none,.mv (.t 0)⟩,⟨some 38, none,.nilck (.t 37)⟩,⟨some 39, none,.fadr 0 (.t 38)⟩,⟨some 40, none,.load false 1 (.t 39)⟩,⟨some 41, none,.mv (.t 5)⟩,⟨some 42, none,.iadr 1 (.t 40) (.t 41)⟩,⟨some 43, none,.load false 1 (.t 42)⟩,⟨some 44, none,.conv .i64 (.t 43)⟩,⟨some 45, none,.mv (.t 1)⟩,⟨some 46, none,.bin .rem (.t 44) (.t 45)⟩,⟨some 4, none,.asg (.t 46)⟩] [4] []
def z140r7:IC:=.reg [⟨some 47, none,.mv (.t 0)⟩,⟨some 48, none,.nilck (.t 47)⟩,⟨some 49, none,.fadr 0 (.t 48)⟩,⟨some 50, none,.load false 1 (.t 49)⟩,⟨some 51, none,.mv (.t 5)⟩,⟨some 52, none,.mv (.t 0)⟩,⟨some 53, none,.nilck (.t 52)⟩,⟨some 54, none,.fadr 0 (.t 53)⟩,⟨some 55, none,.load false 1 (.t 54)⟩,⟨some 56, none,.len (.t 55)⟩,⟨some 57, none,.bin .rem (.t 51) (.t 56)⟩,⟨some 58, none,.iadr 1 (.t 50) (.t 57)⟩,⟨some 59, none,.load false 1 (.t 58)⟩,⟨some 60, none,.conv .i64 (.t 59)⟩,⟨some 61, none,.bin .mul (.t 60) (.c (vi 131))⟩,⟨some 62, none,.mv (.t 0)⟩,⟨some 63, none,.nilck (.t 62)⟩,⟨some 64, none,.fadr 0 (.t 63)⟩,⟨some 65, none,.load false 1 (.t 64)⟩,⟨some 66, none,.mv (.t 5)⟩,⟨some 67, none,.bin .mul (.t 66) (.c (vi 7))⟩,⟨some 68, none,.bin .add (.t 67) (.c (vi 3))⟩,⟨some 69, none,.mv (.t 0)⟩,⟨some 70, none,.nilck (.t 69)⟩,⟨some 71, none,.fadr 0 (.t 70)⟩,
    ⟨some 72, none,.load false 1 (.t 71)⟩,⟨some 73, none,.len (.t 72)⟩,⟨some 74, none,.bin .rem (.t 68) (.t 73)⟩,⟨some 75, none,.iadr 1 (.t 65) (.t 74)⟩,⟨some 76, none,.load false 1 (.t 75)⟩,⟨some 77, none,.conv .i64 (.t 76)⟩,⟨some 78, none,.bin .mul (.t 77) (.c (vi 1117))⟩,⟨some 79, none,.bin .add (.t 61) (.t 78)⟩,⟨some 80, none,.mv (.t 5)⟩,⟨some 81, none,.bin .mul (.t 80) (.c (vi 29))⟩,⟨some 82, none,.bin .add (.t 79) (.t 81)⟩,⟨some 83, none,.mv (.t 5)⟩,⟨some 84, none,.mv (.t 0)⟩,⟨some 85, none,.nilck (.t 84)⟩,⟨some 86, none,.fadr 0 (.t 85)⟩,⟨some 87, none,.load false 1 (.t 86)⟩,⟨some 88, none,.len (.t 87)⟩,⟨some 89, none,.bin .quo (.t 83) (.t 88)⟩,⟨some 90, none,.bin .mul (.t 89) (.c (vi 53))⟩,⟨some 91, none,.bin .add (.t 82) (.t 90)⟩,⟨some 6, none,.asg (.t 91)⟩] [1,6] []
def z140r8:IC:=.reg [⟨some 92, none,.mv (.t 6)⟩,⟨some 93, none,.mv (.t 6)⟩,⟨some 94, none,.bin .quo (.t 93) (.c (vi 64))⟩,⟨some 95, none,.bin .xor (.t 92) (.t 94)⟩,⟨some 6, none,.asg (.t 95)⟩] [1,6] []
def z140r9:IC:=.reg [⟨some 96, none,.mv (.t 6)⟩,⟨some 97, none,.mv (.t 1)⟩,⟨some 98, none,.bin .rem (.t 96) (.t 97)⟩,⟨some 4, none,.asg (.t 98)⟩] [4] []
def zi140:IFun:=⟨[.t 4],[],(.seq z140r0 (.seq z140r1 (.seq (.seq z140r2 (.cond (.t 24) (.seq z140r3 .ret) .skip)) (.seq z140r4 (.seq (.seq z140r5 (.cond (.t 36) (.seq z140r6 .ret) .skip)) (.seq z140r7 (.seq z140r8 (.seq z140r9 .ret))))))))⟩
def z141r0:IC:=.reg [⟨some 2, none,.asg (.c (.slice none 0 0))⟩] [0] []
def z141r1:IC:=.reg [⟨some 8, none,.mv (.t 0)⟩,⟨some 9, none,.call zl127 [(.rd,(.t 8))] true⟩,⟨some 3, none,.asg (.t 9)⟩] [3] []
def z141r2:IC:=.reg [⟨some 10, none,.bsl 1 [(vi 0)] 0 []⟩,⟨some 4, none,.asg (.t 10)⟩] [3,4] []
def z141r3:IC:=.reg [⟨some 5, none,.asg (.c (vi 1))⟩] [3,4,5] []
def z141r4:IC:=.reg [⟨some 11, none,.mv (.t 5)⟩,⟨some 12, none,.mv (.t 3)⟩,⟨some 13, none,.len (.t 12)⟩,⟨some 14, none,.bin .leq (.t 11) (.t 13)⟩] [3,4,5,14] []
def z141r5:IC:=.reg [⟨some 17, none,.mv (.t 5)⟩,⟨some 18, none,.mv (.t 5)⟩,⟨some 19, none,.bin .sub (.t 18) (.c (vi 1))⟩,⟨some 20, none,.bin .mul (.t 17) (.t 19)⟩,⟨some 6, none,.asg (.t 20)⟩] [3,4,5,6] []
def z141r6:IC:=.reg [⟨some 7, none,.asg (.c (vi 0))⟩] [3,4,5,6,7] []
def z141r7:IC:=.reg [⟨some 21, none,.mv (.t 7)⟩,⟨some 22, none,.mv (.t 3)⟩,⟨some 23, none,.len (.t 22)⟩,⟨some 24, none,.bin .lss (.t 21) (.t 23)⟩] [3,4,5,6,7,24] []
def z141r8:IC:=.reg [⟨some 27, none,.mv (.t 7)⟩,⟨some 28, none,.mv (.t 5)⟩,⟨some 29, none,.bin .lss (.t 27) (.t 28)⟩] [3,4,5,6,7,29] []
def z141r9:IC:=.reg [⟨some 30, none,.mv (.t 6)⟩,⟨some 31, none,.mv (.t 3)⟩,⟨some 32, none,.mv (.t 7)⟩,⟨some 33, none,.iadr 1 (.t 31) (.t 32)⟩,⟨some 34, none,.load false 1 (.t 33)⟩,⟨some 35, none,.bin .sub (.t 30) (.t 34)⟩,⟨some 6, none,.asg (.t 35)⟩] [3,4,5,6,7] []
def z141r10:IC:=.reg [⟨some 36, none,.mv (.t 6)⟩,⟨some 37, none,.mv (.t 3)⟩,⟨some 38, none,.mv (.t 7)⟩,⟨some 39, none,.iadr 1 (.t 37) (.t 38)⟩,⟨some 40, none,.load false 1 (.t 39)⟩,⟨some 41, none,.mv (.t 5)⟩,⟨some 42, none,.minmax true (.t 40) (.t 41)⟩,⟨some 43, none,.bin .add (.t 36) (.t 42)⟩,⟨some 6, none,.asg (.t 43)⟩] [3,4,5,6,7] []
def z141r11:IC:=.reg [⟨some 25, none,.mv (.t 7)⟩,⟨some 26, none,.bin .add (.t 25) (.c (vi 1))⟩,⟨some 7, none,.asg (.t 26)⟩] [3,4,5,6,7] []
def z141l12:IC:=(.seq (.seq z141r7 (.cond (.t 24) .skip (.exit 2))) (.seq (.block 3 (.seq z141r8 (.cond (.t 29) z141r9 z141r10))) z141r11))
def z141r13:IC:=.reg [⟨some 44, none,.mv (.t 4)⟩,⟨some 45, none,.mv (.t 6)⟩,⟨some 46, none,.bsl 1 [(vi 0)] 1 [(0,(.t 45))]⟩,⟨some 47, none,.app 1 (.t 44) (.t 46)⟩,⟨some 4, none,.asg (.t 47)⟩] [3,4,5] []
def z141r14:IC:=.reg [⟨some 15, none,.mv (.t 5)⟩,⟨some 16, none,.bin .add (.t 15) (.c (vi 1))⟩,⟨some 5, none,.asg (.t 16)⟩] [3,4,5] []
def z141l15:IC:=(.seq (.seq z141r4 (.cond (.t 14) .skip (.exit 0))) (.seq (.block 1 (.seq z141r5 (.seq (.seq z141r6 (.block 2 (.loop z141l12))) z141r13))) z141r14))
def z141r16:IC:=.reg [⟨some 48, none,.mv (.t 4)⟩,⟨some 2, none,.asgm (.t 48)⟩] [2,4] []
def zi141:IFun:=⟨[.t 2],[],(.seq z141r0 (.seq z141r1 (.seq z141r2 (.seq (.seq z141r3 (.block 0 (.loop z141l15))) (.seq z141r16 .ret)))))⟩
def z376r0:IC:=.reg [⟨some 2, none,.asg (.c (vi 0))⟩] [0] []
def z376r1:IC:=.reg [⟨some 5, none,.mv (.t 0)⟩,⟨some 6, none,.iadr 1 (.t 5) (.c (vi 0))⟩,⟨some 7, none,.load false 1 (.t 6)⟩,⟨some 3, none,.asg (.t 7)⟩] [0,3] []
def z376r2:IC:=.reg [⟨some 4, none,.asg (.c (vi 0))⟩] [0,3,4] []
def z376r3:IC:=.reg [⟨some 8, none,.mv (.t 4)⟩,⟨some 9, none,.mv (.t 0)⟩,⟨some 10, none,.len (.t 9)⟩,⟨some 11, none,.bin .lss (.t 8) (.t 10)⟩] [0,3,4,11] []
def z376r4:IC:=.reg [⟨some 14, none,.mv (.t 3)⟩,⟨some 15, none,.mv (.t 0)⟩,⟨some 16, none,.mv (.t 4)⟩,⟨some 17, none,.iadr 1 (.t 15) (.t 16)⟩,⟨some 18, none,.load false 1 (.t 17)⟩,⟨some 19, none,.minmax true (.t 14) (.t 18)⟩,⟨some 3, none,.asg (.t 19)⟩] [0,3,4] []
def z376r5:IC:=.reg [⟨some 12, none,.mv (.t 4)⟩,⟨some 13, none,.bin .add (.t 12) (.c (vi 1))⟩,⟨some 4, none,.asg (.t 13)⟩] [0,3,4] []
def z376l6:IC:=(.seq (.seq z376r3 (.cond (.t 11) .skip (.exit 0))) (.seq (.block 1 z376r4) z376r5))
def z376r7:IC:=.reg [⟨some 20, none,.mv (.t 3)⟩,⟨some 2, none,.asgm (.t 20)⟩] [2] []
def zi376:IFun:=⟨[.t 2],[],(.seq z376r0 (.seq z376r1 (.seq (.seq z376r2 (.block 0 (.loop z376l6))) (.seq z376r7 .ret))))⟩
def z380r0:IC:=.reg [⟨some 2, none,.alloc [(vi 0),(.slice none 0 0)]⟩] [0,2] []
def z380r1:IC:=.reg [⟨some 7, none,.mv (.t 0)⟩,⟨some 8, none,.len (.t 7)⟩,⟨some 9, none,.mv (.t 0)⟩,⟨some 10, none,.iadr 1 (.t 9) (.c (vi 0))⟩,⟨some 11, none,.load false 1 (.t 10)⟩,⟨some 12, none,.len (.t 11)⟩,⟨some 13, none,.bin .add (.t 8) (.t 12)⟩,⟨some 14, none,.bsl 2 [(vi 0),(vi 0)] 0 []⟩,⟨some 15, none,.build [(vi 0),(.slice none 0 0)] [(0,1,(.t 13)),(1,1,(.t 14))]⟩,⟨some 3, none,.alloc [(vi 0),(.slice none 0 0)]⟩,⟨none,none,.store 2 (.t 3) (.t 15)⟩] [0,2,3] []
def z380r2:IC:=.reg [⟨some 16, none,.fadr 0 (.t 3)⟩,⟨some 17, none,.load false 1 (.t 16)⟩,⟨some 18, none,.call zl138 [(.val,(.t 17))] true⟩,⟨some 4, none,.asg (.t 18)⟩] [0,2,3,4] []
def z380r3:IC:=.reg [⟨some 5, none,.asg (.c (vi 0))⟩] [0,2,3,4,5] []
def z380r4:IC:=.reg [⟨some 19, none,.mv (.t 5)⟩,⟨some 20, none,.mv (.t 4)⟩,⟨some 21, none,.len (.t 20)⟩,⟨some 22, none,.bin .lss (.t 19) (.t 21)⟩] [0,2,3,4,5,22] []
def z380r5:IC:=.reg [⟨some 25, none,.mv (.t 4)⟩,⟨some 26, none,.mv (.t 5)⟩,⟨some 27, none,.iadr 2 (.t 25) (.t 26)⟩,⟨some 28, none,.load true 2 (.t 27)⟩,⟨some 6, none,.alloc [(vi 0),(vi 0)]⟩,⟨none,none,.store 2 (.t 6) (.t 28)⟩] [0,2,3,4,5,6] []
def z380r6:IC:=.reg [⟨some 29, none,.fadr 1 (.t 6)⟩,⟨some 30, none,.load false 1 (.t 29)⟩,⟨some 31, none,.mv (.t 0)⟩,⟨some 32, none,.len (.t 31)⟩,⟨some 33, none,.bin .lss (.t 30) (.t 32)⟩,⟨some 34, none,.asg (.t 33)⟩,⟨some 35, (some (34,false)),.fadr 0 (.t 6)⟩,⟨some 36, (some (34,false)),.load false 1 (.t 35)⟩,⟨some 37, (some (34,false)),.mv (.t 0)⟩,⟨some 38, (some (34,false)),.len (.t 37)⟩,⟨some 39, (some (34,false)),.bin .lss (.t 36) (.t 38)⟩,⟨some 40, (some (34,false)),.asg (.t 39)⟩,⟨some 41, (some (40,true)),.mv (.t 0)⟩,⟨some 42, (some (40,true)),.fadr 0 (.t 6)⟩,⟨some 43, (some (40,true)),.load false 1 (.t 42)⟩,⟨some 44, (some (40,true)),.iadr 1 (.t 41) (.t 43)⟩,⟨some 45, (some (40,true)),.load false 1 (.t 44)⟩,⟨some 46, (some (40,true)),.fadr 1 (.t 6)⟩,⟨some 47, (some (40,true)),.load false 1 (.t 46)⟩,⟨some 48, (some (40,true)),.mv (.t 0)⟩,
    ⟨some 49, (some (40,true)),.len (.t 48)⟩,⟨some 50, (some (40,true)),.bin .sub (.t 47) (.t 49)⟩,⟨some 51, (some (40,true)),.iadr 1 (.t 45) (.t 50)⟩,⟨some 52, (some (40,true)),.load false 1 (.t 51)⟩,⟨some 53, (some (40,true)),.bin .eql (.t 52) (.c (vi 1))⟩,⟨some 54, (some (34,false)),.pick (.t 40) (.t 53) (.c (.bool false))⟩,⟨some 55, none,.pick (.t 34) (.c (.bool true)) (.t 54)⟩] [0,2,3,4,5,6,55] []
def z380r7:IC:=.reg [⟨some 56, none,.fadr 1 (.t 3)⟩,⟨some 57, none,.load false 1 (.t 56)⟩,⟨some 58, none,.load true 2 (.t 6)⟩,⟨some 59, none,.bsl 2 [(vi 0),(vi 0)] 1 [(0,(.t 58))]⟩,⟨some 60, none,.app 2 (.t 57) (.t 59)⟩,⟨some 61, none,.fadr 1 (.t 3)⟩,⟨none,none,.store 1 (.t 61) (.t 60)⟩] [0,2,3,4,5] []
def z380r8:IC:=.reg [⟨some 23, none,.mv (.t 5)⟩,⟨some 24, none,.bin .add (.t 23) (.c (vi 1))⟩,⟨some 5, none,.asg (.t 24)⟩] [0,2,3,4,5] []
def z380l9:IC:=(.seq (.seq z380r4 (.cond (.t 22) .skip (.exit 0))) (.seq (.block 1 (.seq z380r5 (.seq z380r6 (.cond (.t 55) z380r7 .skip)))) z380r8))
def z380r10:IC:=.reg [⟨some 62, none,.load true 2 (.t 3)⟩,⟨none,none,.store 2 (.t 2) (.t 62)⟩] [2] []
def zi380:IFun:=⟨[.c 2 2 true],[],(.seq z380r0 (.seq z380r1 (.seq z380r2 (.seq (.seq z380r3 (.block 0 (.loop z380l9))) (.seq z380r10 .ret)))))⟩
def z382r0:IC:=.reg [⟨some 2, none,.asg (.c (vi 0))⟩] [0] []
def z382r1:IC:=.reg [⟨some 3, none,.asg (.c (vi 0))⟩] [0,3] []
def z382r2:IC:=.reg [⟨some 4, none,.asg (.c (vi 0))⟩] [0,3,4] []
def z382r3:IC:=.reg [⟨some 5, none,.mv (.t 4)⟩,⟨some 6, none,.mv (.t 0)⟩,⟨some 7, none,.len (.t 6)⟩,⟨some 8, none,.bin .lss (.t 5) (.t 7)⟩] [0,3,4,8] []
def z382r4:IC:=.reg [⟨some 11, none,.mv (.t 3)⟩,⟨some 12, none,.mv (.t 0)⟩,⟨some 13, none,.mv (.t 4)⟩,⟨some 14, none,.iadr 1 (.t 12) (.t 13)⟩,⟨some 15, none,.load false 1 (.t 14)⟩,⟨some 16, none,.bin .add (.t 11) (.t 15)⟩,⟨some 3, none,.asg (.t 16)⟩] [0,3,4] []
def z382r5:IC:=.reg [⟨some 9, none,.mv (.t 4)⟩,⟨some 10, none,.bin .add (.t 9) (.c (vi 1))⟩,⟨some 4, none,.asg (.t 10)⟩] [0,3,4] []
def z382l6:IC:=(.seq (.seq z382r3 (.cond (.t 8) .skip (.exit 0))) (.seq (.block 1 z382r4) z382r5))
def z382r7:IC:=.reg [⟨some 17, none,.mv (.t 3)⟩,⟨some 2, none,.asgm (.t 17)⟩] [2] []
def zi382:IFun:=⟨[.t 2],[],(.seq z382r0 (.seq z382r1 (.seq (.seq z382r2 (.block 0 (.loop z382l6))) (.seq z382r7 .ret))))⟩
def z144r0:IC:=.reg [⟨some 2, none,.asg (.c (.bool false))⟩] [0] []
def z144r1:IC:=.reg [⟨some 3, none,.asg (.c (vi 0))⟩] [0,3] []
def z144r2:IC:=.reg [⟨some 4, none,.mv (.t 3)⟩,⟨some 5, none,.mv (.t 0)⟩,⟨some 6, none,.len (.t 5)⟩,⟨some 7, none,.bin .lss (.t 4) (.t 6)⟩] [0,3,7] []
def z144r3:IC:=.reg [⟨some 10, none,.mv (.t 0)⟩,⟨some 11, none,.mv (.t 3)⟩,⟨some 12, none,.iadr 1 (.t 10) (.t 11)⟩,⟨some 13, none,.load false 1 (.t 12)⟩,⟨some 14, none,.mv (.t 0)⟩,⟨some 15, none,.len (.t 14)⟩,⟨some 16, none,.bin .sub (.t 15) (.c (vi 1))⟩,⟨some 17, none,.call zl132 [(.val,(.t 13)),(.val,(.c (vi 0))),(.val,(.t 16))] true⟩,⟨some 18, none,.unop .not (.t 17)⟩] [0,3,18] []
def z144r4:IC:=.reg [⟨some 2, none,.asg (.c (.bool false))⟩] [2] []
def z144r5:IC:=.reg [⟨some 8, none,.mv (.t 3)⟩,⟨some 9, none,.bin .add (.t 8) (.c (vi 1))⟩,⟨some 3, none,.asg (.t 9)⟩] [0,3] []
def z144l6:IC:=(.seq (.seq z144r2 (.cond (.t 7) .skip (.exit 0))) (.seq (.block 1 (.seq z144r3 (.cond (.t 18) (.seq z144r4 .ret) .skip))) z144r5))
def z144r7:IC:=.reg [⟨some 19, none,.mv (.t 0)⟩,⟨some 20, none,.len (.t 19)⟩,⟨some 21, none,.bin .leq (.t 20) (.c (vi 7))⟩,⟨some 2, none,.asg (.t 21)⟩] [2] []
def zi144:IFun:=⟨[.t 2],[],(.seq z144r0 (.seq (.seq z144r1 (.block 0 (.loop z144l6))) (.seq z144r7 .ret)))⟩
def tbl:List (Nat×IFun):=[(zl2,zi2),(zl4,zi4),(zl499,zi499),(zl500,zi500),(zl501,zi501),(zl154,zi154),(zl155,zi155),(zl156,zi156),(zl157,zi157),(zl158,zi158),(zl159,zi159),(zl164,zi164),(zl7,zi7),(zl8,zi8),(zl10,zi10),(zl186,zi186),(zl187,zi187),(zl18,zi18),(zl19,zi19),(zl20,zi20),(zl197,zi197),(zl25,zi25),(zl29,zi29),(zl30,zi30),(zl204,zi204),(zl31,zi31),(zl206,zi206),(zl35,zi35),(zl37,zi37),(zl38,zi38),(zl213,zi213),(zl216,zi216),(zl218,zi218),(zl219,zi219),(zl40,zi40),(zl527,zi527),(zl53,zi53),(zl66,zi66),(zl68,zi68),(zl258,zi258),(zl70,zi70),(zl261,zi261),(zl71,zi71),(zl548,zi548),(zl72,zi72),(zl267,zi267),(zl553,zi553),(zl73,zi73),(zl76,zi76),(zl78,zi78),(zl86,zi86),(zl101,zi101),(zl558,zi558),(zl560,zi560),(zl118,zi118),(zl331,zi331),(zl122,zi122),(zl582,zi582),(zl123,zi123),(zl125,zi125),(zl127,zi127),(zl130,zi130),(zl132,zi132),(zl357,zi357),(zl360,zi360),(zl135,zi135),(zl137,zi137),(zl138,zi138),(zl593,zi593),(zl139,zi139),(zl140,zi140),(zl141,zi141),(zl376,zi376),(zl380,zi380),(zl382,zi382),(zl144,zi144)]
def tb:Tbl:=tbOf tbl
theorem zt2:tb zl2=some zi2:=by kernel_rfl
theorem zt4:tb zl4=some zi4:=by kernel_rfl
theorem zt499:tb zl499=some zi499:=by kernel_rfl
theorem zt500:tb zl500=some zi500:=by kernel_rfl
theorem zt501:tb zl501=some zi501:=by kernel_rfl
theorem zt154:tb zl154=some zi154:=by kernel_rfl
theorem zt155:tb zl155=some zi155:=by kernel_rfl
theorem zt156:tb zl156=some zi156:=by kernel_rfl
theorem zt157:tb zl157=some zi157:=by kernel_rfl
theorem zt158:tb zl158=some zi158:=by kernel_rfl
theorem zt159:tb zl159=some zi159:=by kernel_rfl
theorem zt164:tb zl164=some zi164:=by kernel_rfl
theorem zt7:tb zl7=some zi7:=by kernel_rfl
theorem zt8:tb zl8=some zi8:=by kernel_rfl
theorem zt10:tb zl10=some zi10:=by kernel_rfl
theorem zt186:tb zl186=some zi186:=by kernel_rfl
theorem zt187:tb zl187=some zi187:=by kernel_rfl
theorem zt18:tb zl18=some zi18:=by kernel_rfl
theorem zt19:tb zl19=some zi19:=by kernel_rfl
theorem zt20:tb zl20=some zi20:=by kernel_rfl
theorem zt197:tb zl197=some zi197:=by kernel_rfl
theorem zt25:tb zl25=some zi25:=by kernel_rfl
theorem zt29:tb zl29=some zi29:=by kernel_rfl
theorem zt30:tb zl30=some zi30:=by kernel_rfl
theorem zt204:tb zl204=some zi204:=by kernel_rfl
theorem zt31:tb zl31=some zi31:=by kernel_rfl
theorem zt206:tb zl206=some zi206:=by kernel_rfl
theorem zt35:tb zl35=some zi35:=by kernel_rfl
theorem zt37:tb zl37=some zi37:=by kernel_rfl
theorem zt38:tb zl38=some zi38:=by kernel_rfl
theorem zt213:tb zl213=some zi213:=by kernel_rfl
theorem zt216:tb zl216=some zi216:=by kernel_rfl
theorem zt218:tb zl218=some zi218:=by kernel_rfl
theorem zt219:tb zl219=some zi219:=by kernel_rfl
theorem zt40:tb zl40=some zi40:=by kernel_rfl
theorem zt527:tb zl527=some zi527:=by kernel_rfl
theorem zt53:tb zl53=some zi53:=by kernel_rfl
theorem zt66:tb zl66=some zi66:=by kernel_rfl
theorem zt68:tb zl68=some zi68:=by kernel_rfl
theorem zt258:tb zl258=some zi258:=by kernel_rfl
theorem zt70:tb zl70=some zi70:=by kernel_rfl
theorem zt261:tb zl261=some zi261:=by kernel_rfl
theorem zt71:tb zl71=some zi71:=by kernel_rfl
theorem zt548:tb zl548=some zi548:=by kernel_rfl
theorem zt72:tb zl72=some zi72:=by kernel_rfl
theorem zt267:tb zl267=some zi267:=by kernel_rfl
theorem zt553:tb zl553=some zi553:=by kernel_rfl
theorem zt73:tb zl73=some zi73:=by kernel_rfl
theorem zt76:tb zl76=some zi76:=by kernel_rfl
theorem zt78:tb zl78=some zi78:=by kernel_rfl
theorem zt86:tb zl86=some zi86:=by kernel_rfl
theorem zt101:tb zl101=some zi101:=by kernel_rfl
theorem zt558:tb zl558=some zi558:=by kernel_rfl
theorem zt560:tb zl560=some zi560:=by kernel_rfl
theorem zt118:tb zl118=some zi118:=by kernel_rfl
theorem zt331:tb zl331=some zi331:=by kernel_rfl
theorem zt122:tb zl122=some zi122:=by kernel_rfl
theorem zt582:tb zl582=some zi582:=by kernel_rfl
theorem zt123:tb zl123=some zi123:=by kernel_rfl
theorem zt125:tb zl125=some zi125:=by kernel_rfl
theorem zt127:tb zl127=some zi127:=by kernel_rfl
theorem zt130:tb zl130=some zi130:=by kernel_rfl
theorem zt132:tb zl132=some zi132:=by kernel_rfl
theorem zt357:tb zl357=some zi357:=by kernel_rfl
theorem zt360:tb zl360=some zi360:=by kernel_rfl
theorem zt135:tb zl135=some zi135:=by kernel_rfl
theorem zt137:tb zl137=some zi137:=by kernel_rfl
theorem zt138:tb zl138=some zi138:=by kernel_rfl
theorem zt593:tb zl593=some zi593:=by kernel_rfl
theorem zt139:tb zl139=some zi139:=by kernel_rfl
theorem zt140:tb zl140=some zi140:=by kernel_rfl
theorem zt141:tb zl141=some zi141:=by kernel_rfl
theorem zt376:tb zl376=some zi376:=by kernel_rfl
theorem zt380:tb zl380=some zi380:=by kernel_rfl
theorem zt382:tb zl382=some zi382:=by kernel_rfl
theorem zt144:tb zl144=some zi144:=by kernel_rfl
end Go.Idl
