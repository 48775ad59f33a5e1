/- Part 5 of a proof by an ideal interpreter of the code: its definitions and lemmas. Conditions: none. -/
import Derived.KernelRfl
import Derived.Test.YtpbpoajmibfliaaA4
set_option linter.all false
set_option linter.unusedVariables false
set_option linter.unusedSimpArgs false
namespace Go.Idl
open Go
abbrev vi (n:Int):Value:=.int .i64 n
abbrev zl2:Lab:=2
abbrev zl4:Lab:=4
abbrev zl9:Lab:=9
abbrev zl25:Lab:=25
abbrev zl26:Lab:=26
abbrev zl29:Lab:=29
abbrev zl30:Lab:=30
abbrev zl31:Lab:=31
abbrev zl32:Lab:=32
abbrev zl35:Lab:=35
abbrev zl36:Lab:=36
abbrev zl37:Lab:=37
abbrev zl38:Lab:=38
abbrev zl53:Lab:=53
abbrev zl66:Lab:=66
abbrev zl67:Lab:=67
abbrev zl68:Lab:=68
abbrev zl70:Lab:=70
abbrev zl71:Lab:=71
abbrev zl72:Lab:=72
abbrev zl73:Lab:=73
abbrev zl76:Lab:=76
abbrev zl78:Lab:=78
abbrev zl80:Lab:=80
abbrev zl82:Lab:=82
abbrev zl84:Lab:=84
abbrev zl86:Lab:=86
abbrev zl95:Lab:=95
abbrev zl98:Lab:=98
abbrev zl99:Lab:=99
abbrev zl101:Lab:=101
abbrev zl103:Lab:=103
abbrev zl118:Lab:=118
abbrev zl122:Lab:=122
abbrev zl125:Lab:=125
abbrev zl126:Lab:=126
abbrev zl129:Lab:=129
abbrev zl130:Lab:=130
abbrev zl131:Lab:=131
abbrev zl132:Lab:=132
abbrev zl137:Lab:=137
abbrev zl138:Lab:=138
abbrev zl139:Lab:=139
abbrev zl140:Lab:=140
abbrev zl145:Lab:=145
abbrev zl149:Lab:=149
abbrev zl150:Lab:=150
abbrev zl151:Lab:=151
abbrev zl154:Lab:=154
abbrev zl155:Lab:=155
abbrev zl156:Lab:=156
abbrev zl157:Lab:=157
abbrev zl161:Lab:=161
abbrev zl171:Lab:=171
abbrev zl187:Lab:=187
abbrev zl205:Lab:=205
abbrev zl206:Lab:=206
abbrev zl212:Lab:=212
abbrev zl216:Lab:=216
abbrev zl220:Lab:=220
abbrev zl258:Lab:=258
abbrev zl263:Lab:=263
abbrev zl266:Lab:=266
abbrev zl267:Lab:=267
abbrev zl269:Lab:=269
abbrev zl299:Lab:=299
abbrev zl330:Lab:=330
abbrev zl335:Lab:=335
abbrev zl339:Lab:=339
abbrev zl340:Lab:=340
abbrev zl348:Lab:=348
abbrev zl363:Lab:=363
abbrev zl368:Lab:=368
abbrev zl378:Lab:=378
abbrev zl406:Lab:=406
abbrev zl407:Lab:=407
abbrev zl443:Lab:=443
abbrev zl449:Lab:=449
abbrev zl459:Lab:=459
abbrev zl466:Lab:=466
abbrev zl481:Lab:=481
def z2r0:IC:=.reg [⟨some 4, none,.asg (.c (.bool false))⟩] [0,1] []
def z2r1:IC:=.reg [⟨some 5, none,.mv (.t 0)⟩,⟨some 6, none,.call zl4 [(.val,(.t 5))] true⟩,⟨some 7, none,.asg (.t 6)⟩,⟨some 8, (some (7,true)),.mv (.t 1)⟩,⟨some 9, (some (7,true)),.call zl4 [(.val,(.t 8))] true⟩,⟨some 10, (some (7,true)),.unop .not (.t 9)⟩,⟨some 11, none,.pick (.t 7) (.t 10) (.c (.bool false))⟩,⟨some 12, none,.asg (.t 11)⟩,⟨some 13, (some (12,false)),.mv (.t 0)⟩,⟨some 14, (some (12,false)),.mv (.t 1)⟩,⟨some 15, (some (12,false)),.bin .lss (.t 13) (.t 14)⟩,⟨some 16, none,.pick (.t 12) (.c (.bool true)) (.t 15)⟩,⟨some 4, none,.asg (.t 16)⟩] [4] []
def zi2:IFun:=⟨[.t 4],[],(.seq z2r0 (.seq z2r1 .ret))⟩
def z4r0:IC:=.reg [⟨some 2, none,.asg (.c (.bool false))⟩] [0] []
def z4r1:IC:=.reg [⟨some 3, none,.mv (.t 0)⟩,⟨some 4, none,.mv (.t 0)⟩,⟨some 5, none,.bin .neq (.t 3) (.t 4)⟩,⟨some 2, none,.asg (.t 5)⟩] [2] []
def zi4:IFun:=⟨[.t 2],[],(.seq z4r0 (.seq z4r1 .ret))⟩
def z149r0:IC:=.reg [⟨some 1, none,.box (.t 0)⟩,⟨some 2, none,.alloc [(vi 0),(.slice none 0 0)]⟩,⟨some 3, none,.asg (.c (.bool false))⟩] [1,2] []
def z149r1:IC:=.reg [⟨some 4, none,.load false 1 (.t 1)⟩,⟨some 5, none,.call zl205 [(.val,(.t 4))] true⟩,⟨some 6, none,.unop .not (.t 5)⟩] [1,2,6] []
def z149r2:IC:=.reg [⟨some 7, none,.build [(vi 0),(.slice none 0 0)] []⟩,⟨none,none,.store 2 (.t 2) (.t 7)⟩,⟨some 3, none,.asg (.c (.bool false))⟩] [2,3] []
def z149r3:IC:=.reg [⟨some 8, none,.load false 1 (.t 1)⟩,⟨some 9, none,.lens (.t 8)⟩,⟨some 10, none,.mkfn zl150 [(.t 1)]⟩,⟨some 11, none,.call zl220 [(.val,(.t 9)),(.val,(.t 10))] false⟩,⟨none,none,.store 2 (.t 2) (.t 11)⟩,⟨some 3, none,.asg (.c (.bool true))⟩] [2,3] []
def zi149:IFun:=⟨[.c 2 2 true,.t 3],[],(.seq z149r0 (.seq (.seq z149r1 (.cond (.t 6) (.seq z149r2 .ret) .skip)) (.seq z149r3 .ret)))⟩
def z150r0:IC:=.reg [⟨some 5, none,.asg (.c (.bool false))⟩] [1,2] []
def z150r1:IC:=.reg [⟨some 6, none,.load false 1 (.t 2)⟩,⟨some 7, none,.mv (.t 1)⟩,⟨some 8, none,.idxs (.t 6) (.t 7)⟩,⟨some 9, none,.bin .eql (.t 8) (.c (.int .u8 (100)))⟩,⟨some 5, none,.asg (.t 9)⟩] [5] []
def zi150:IFun:=⟨[.t 5],[],(.seq z150r0 (.seq z150r1 .ret))⟩
def z151r0:IC:=.reg [⟨some 1, none,.box (.t 0)⟩,⟨some 2, none,.asg (.c (.string ByteArray.empty))⟩,⟨some 3, none,.asg (.c (.slice none 0 0))⟩,⟨some 4, none,.asg (.c (.bool false))⟩] [1] []
def z151r1:IC:=.reg [⟨some 13, none,.load true 2 (.t 1)⟩,⟨some 14, none,.call zl26 [(.rd,(.t 13))] true⟩,⟨some 15, none,.unop .not (.t 14)⟩,⟨some 16, none,.asg (.t 15)⟩,⟨some 17, (some (16,false)),.fadr 0 (.t 1)⟩,⟨some 18, (some (16,false)),.load false 1 (.t 17)⟩,⟨some 19, (some (16,false)),.bin .eql (.t 18) (.c (vi 0))⟩,⟨some 20, none,.pick (.t 16) (.c (.bool true)) (.t 19)⟩] [1,20] []
def z151r2:IC:=.reg [⟨some 2, none,.asg (.c (.string ByteArray.empty))⟩,⟨some 3, none,.asg (.c (.slice none 0 0))⟩,⟨some 4, none,.asg (.c (.bool false))⟩] [2,3,4,7] []
def z151r3:IC:=.reg [⟨some 21, none,.fadr 0 (.t 1)⟩,⟨some 22, none,.load false 1 (.t 21)⟩,⟨some 23, none,.call zl212 [(.val,(.t 22)),(.val,(.c (vi (-1))))] true⟩,⟨some 5, none,.alloc [(.slice none 0 0)]⟩,⟨none,none,.storef 1 (.t 5) (.t 23)⟩] [1,5] []
def z151r4:IC:=.regd [⟨some 24, none,.fadr 0 (.t 1)⟩,⟨some 25, none,.load false 1 (.t 24)⟩,⟨some 26, none,.mksl 1 [(.int .u8 (0))] (.t 25) (.t 25)⟩,⟨some 27, none,.fadr 0 (.t 1)⟩,⟨some 28, none,.load false 1 (.t 27)⟩,⟨some 29, none,.mksl 1 [(vi 0)] (.t 28) (.t 28)⟩,⟨some 6, none,.alloc [(.slice none 0 0)]⟩,⟨some 7, none,.alloc [(.slice none 0 0)]⟩,⟨none,none,.store 1 (.t 6) (.t 26)⟩,⟨none,none,.store 1 (.t 7) (.t 29)⟩] [0,1,3,4,2,5,6,7,8,9] [1,5,6,7] [[0,1,3,4,2,6,7,8,5,9],[0,1,3,2,6,7,8,4,5,9],[0,1,2,6,7,8,3,4,5,9],[0,1,3,4,2,5,7,6,8,9],[0,1,3,4,2,7,6,8,5,9],[0,1,3,2,7,6,8,4,5,9],[0,1,2,7,6,8,3,4,5,9],[0,1,3,4,5,2,6,7,8,9],[0,1,3,4,5,2,7,6,8,9]]
def z151r5:IC:=.reg [⟨some 30, none,.fadr 0 (.t 1)⟩,⟨some 31, none,.load false 1 (.t 30)⟩,⟨some 32, none,.bin .sub (.t 31) (.c (vi 1))⟩,⟨some 8, none,.alloc [(vi 0)]⟩,⟨none,none,.store 1 (.t 8) (.t 32)⟩] [1,5,6,7,8] []
def z151r6:IC:=.reg [⟨some 33, none,.load false 1 (.t 8)⟩,⟨some 34, none,.bin .geq (.t 33) (.c (vi 0))⟩] [1,5,6,7,8,34] []
def z151r7:IC:=.reg [⟨some 9, none,.alloc [(.bool false)]⟩,⟨none,none,.store 1 (.t 9) (.c (.bool false))⟩] [1,5,6,7,8,9] []
def z151r8:List IOp:=[⟨some 37, none,.load false 1 (.t 5)⟩]
def z151r9:IC:=.reg [⟨some 11, none,.alloc [(vi 0)]⟩,⟨none,none,.store 1 (.t 11) (.t 40)⟩] [1,5,6,7,8,9,11] []
def z151r10:IC:=.reg [⟨some 41, none,.load false 1 (.t 5)⟩,⟨some 42, none,.mkfn zl406 [(.t 11),(.t 1)]⟩,⟨some 43, none,.call zl206 [(.rd,(.t 41)),(.val,(.t 42))] false⟩,⟨some 12, none,.asg (.t 43)⟩] [5,6,7,8,9,11,12] []
def z151r11:IC:=.reg [⟨some 44, none,.mv (.t 12)⟩,⟨some 45, none,.bin .neq (.t 44) (.c (vi 0))⟩,⟨some 46, none,.asg (.t 45)⟩,⟨some 47, (some (46,true)),.mv (.t 12)⟩,⟨some 48, (some (46,true)),.load false 1 (.t 8)⟩,⟨some 49, (some (46,true)),.bin .neq (.t 47) (.t 48)⟩,⟨some 50, none,.pick (.t 46) (.t 49) (.c (.bool false))⟩] [5,6,7,8,9,11,12,50] []
def z151r12:IC:=.reg [⟨some 51, none,.load false 1 (.t 6)⟩,⟨some 52, none,.load false 1 (.t 8)⟩,⟨some 53, none,.load false 1 (.t 7)⟩,⟨some 54, none,.load false 1 (.t 8)⟩,⟨some 55, none,.load false 1 (.t 11)⟩,⟨some 56, none,.iadr 1 (.t 51) (.t 52)⟩,⟨none,none,.store 1 (.t 56) (.c (.int .u8 (105)))⟩,⟨some 57, none,.iadr 1 (.t 53) (.t 54)⟩,⟨none,none,.store 1 (.t 57) (.t 55)⟩] [5,6,8,9,11,12] [[0,1,2,3,5,6,4,7,8],[0,1,2,4,5,6,3,7,8],[0,1,2,5,6,3,4,7,8],[0,1,3,4,5,6,2,7,8],[0,1,3,5,6,2,4,7,8],[0,1,4,5,6,2,3,7,8],[0,1,5,6,2,3,4,7,8]]
def z151r13:IC:=.reg [⟨some 58, none,.mv (.t 12)⟩,⟨some 59, none,.bin .gtr (.t 58) (.c (vi 0))⟩] [5,6,8,9,11,59] []
def z151r14:IC:=.reg [⟨some 60, none,.load false 1 (.t 6)⟩,⟨some 61, none,.load false 1 (.t 8)⟩,⟨some 62, none,.iadr 1 (.t 60) (.t 61)⟩,⟨none,none,.store 1 (.t 62) (.c (.int .u8 (100)))⟩] [5,9,11] []
def z151r15:IC:=.reg [⟨some 63, none,.load false 1 (.t 5)⟩,⟨some 64, none,.call zl71 [(.rd,(.t 63))] true⟩,⟨some 65, none,.mkfn zl407 [(.t 11)]⟩,⟨some 66, none,.call zl266 [(.tk,(.t 64)),(.val,(.t 65))] false⟩,⟨none,none,.storef 1 (.t 5) (.t 66)⟩] [9] []
def z151r16:IC:=.reg [⟨none,none,.store 1 (.t 9) (.c (.bool true))⟩] [] []
def z151r17:IC:=.reg [⟨some 67, none,.load false 1 (.t 9)⟩,⟨some 68, none,.unop .not (.t 67)⟩] [1,5,6,7,8,68] []
def z151r18:IC:=.reg [⟨some 2, none,.asg (.c (.string ByteArray.empty))⟩,⟨some 3, none,.asg (.c (.slice none 0 0))⟩,⟨some 4, none,.asg (.c (.bool false))⟩] [2,3,4,7] []
def z151r19:IC:=.reg [⟨some 69, none,.load false 1 (.t 8)⟩] [1,5,6,7,69] []
def z151r20:IC:=.reg [⟨some 8, none,.alloc [(vi 0)]⟩,⟨none,none,.store 1 (.t 8) (.t 69)⟩] [1,5,6,7,8] []
def z151r21:IC:=.reg [⟨some 35, none,.load false 1 (.t 8)⟩,⟨some 36, none,.bin .sub (.t 35) (.c (vi 1))⟩,⟨none,none,.store 1 (.t 8) (.t 36)⟩] [1,5,6,7,8] []
def z151l22:IC:=(.seq (.seq z151r6 (.cond (.t 34) .skip (.exit 0))) (.seq (.block 1 (.seq z151r7 (.seq (.rngb z151r8 zl443 (.t 37) 38 [1,5,6,7,8,9,37] 2 39 40 z151r9 (.block 3 (.seq z151r10 (.seq (.seq z151r11 (.cond (.t 50) (.exit 3) .skip)) (.seq z151r12 (.seq (.seq z151r13 (.cond (.t 59) z151r14 .skip)) (.seq z151r15 (.seq z151r16 (.exit 2))))))))) (.seq z151r17 (.cond (.t 68) (.seq z151r18 .ret) .skip))))) (.seq (.seq z151r19 z151r20) z151r21)))
def z151r23:IC:=.reg [⟨some 70, none,.load false 1 (.t 6)⟩,⟨some 71, none,.strb (.t 70)⟩,⟨some 72, none,.load false 1 (.t 7)⟩,⟨some 2, none,.asg (.t 71)⟩,⟨some 3, none,.asg (.t 72)⟩,⟨some 4, none,.asg (.c (.bool true))⟩] [2,3,4,7] [[0,1,3,2,4,5]]
def zi151:IFun:=⟨[.t 2,.t 3,.t 4],[],(.seq z151r0 (.seq (.seq z151r1 (.cond (.t 20) (.seq z151r2 .ret) .skip)) (.seq z151r3 (.seq z151r4 (.seq (.seq z151r5 (.block 0 (.loop z151l22))) (.seq z151r23 .ret))))))⟩
def z406r0:IC:=.reg [⟨some 4, none,.asg (.c (.bool false))⟩] [0,1,2] []
def z406r1:IC:=.reg [⟨some 5, none,.mv (.t 0)⟩,⟨some 6, none,.load false 1 (.t 1)⟩,⟨some 7, none,.bin .neq (.t 5) (.t 6)⟩,⟨some 8, none,.asg (.t 7)⟩,⟨some 9, (some (8,true)),.load true 2 (.t 2)⟩,⟨some 10, (some (8,true)),.mv (.t 0)⟩,⟨some 11, (some (8,true)),.load false 1 (.t 1)⟩,⟨some 12, (some (8,true)),.call zl171 [(.rd,(.t 9)),(.val,(.t 10)),(.val,(.t 11))] true⟩,⟨some 13, none,.pick (.t 8) (.t 12) (.c (.bool false))⟩,⟨some 4, none,.asg (.t 13)⟩] [4] []
def zi406:IFun:=⟨[.t 4],[],(.seq z406r0 (.seq z406r1 .ret))⟩
def z407r0:IC:=.reg [⟨some 3, none,.asg (.c (.bool false))⟩] [0,1] []
def z407r1:IC:=.reg [⟨some 4, none,.mv (.t 0)⟩,⟨some 5, none,.load false 1 (.t 1)⟩,⟨some 6, none,.bin .eql (.t 4) (.t 5)⟩,⟨some 3, none,.asg (.t 6)⟩] [3] []
def zi407:IFun:=⟨[.t 3],[],(.seq z407r0 (.seq z407r1 .ret))⟩
def z154r0:IC:=.reg [⟨some 2, none,.asg (.c (.slice none 0 0))⟩] [0] []
def z154r1:IC:=.reg [⟨some 4, none,.mv (.t 0)⟩,⟨some 5, none,.call zl37 [(.rd,(.t 4))] true⟩,⟨some 3, none,.alloc [(.slice none 0 0)]⟩,⟨none,none,.storef 1 (.t 3) (.t 5)⟩] [0,3] []
def z154r2:IC:=.reg [⟨some 6, none,.mv (.t 0)⟩,⟨some 7, none,.mkfn zl155 [(.t 3)]⟩,⟨some 8, none,.call zl35 [(.rd,(.t 6)),(.val,(.t 7))] false⟩,⟨some 2, none,.asg (.t 8)⟩] [2] []
def zi154:IFun:=⟨[.t 2],[],(.seq z154r0 (.seq z154r1 (.seq z154r2 .ret)))⟩
def z155r0:IC:=.reg [⟨some 2, none,.box (.t 0)⟩,⟨some 3, none,.asg (.c (vi 0))⟩] [1,2] []
def z155r1:IC:=.reg [⟨some 4, none,.load false 1 (.t 1)⟩,⟨some 5, none,.load false 1 (.t 2)⟩,⟨some 6, none,.slc 1 (.t 4) none (some (.t 5)) none⟩,⟨some 7, none,.mkfn zl156 [(.t 2)]⟩,⟨some 8, none,.call zl206 [(.rd,(.t 6)),(.val,(.t 7))] false⟩,⟨some 9, none,.load false 1 (.t 1)⟩,⟨some 10, none,.load false 1 (.t 2)⟩,⟨some 11, none,.bin .add (.t 10) (.c (vi 1))⟩,⟨some 12, none,.slc 1 (.t 9) (some (.t 11)) none none⟩,⟨some 13, none,.mkfn zl157 [(.t 2)]⟩,⟨some 14, none,.call zl206 [(.rd,(.t 12)),(.val,(.t 13))] false⟩,⟨some 15, none,.bin .add (.t 8) (.t 14)⟩,⟨some 3, none,.asg (.t 15)⟩] [3] [[0,1,2,3,6,4,5,7,8,9,10,11,12],[0,1,2,3,5,4,6,7,8,9,10,11,12],[0,1,2,3,5,6,4,7,8,9,10,11,12]]
def zi155:IFun:=⟨[.t 3],[],(.seq z155r0 (.seq z155r1 .ret))⟩
def z156r0:IC:=.reg [⟨some 3, none,.asg (.c (.bool false))⟩] [0,1] []
def z156r1:IC:=.reg [⟨some 4, none,.mv (.t 0)⟩,⟨some 5, none,.load false 1 (.t 1)⟩,⟨some 6, none,.bin .geq (.t 4) (.t 5)⟩,⟨some 3, none,.asg (.t 6)⟩] [3] []
def zi156:IFun:=⟨[.t 3],[],(.seq z156r0 (.seq z156r1 .ret))⟩
def z157r0:IC:=.reg [⟨some 3, none,.asg (.c (.bool false))⟩] [0,1] []
def z157r1:IC:=.reg [⟨some 4, none,.mv (.t 0)⟩,⟨some 5, none,.load false 1 (.t 1)⟩,⟨some 6, none,.bin .gtr (.t 4) (.t 5)⟩,⟨some 3, none,.asg (.t 6)⟩] [3] []
def zi157:IFun:=⟨[.t 3],[],(.seq z157r0 (.seq z157r1 .ret))⟩
def z161r0:IC:=.reg [⟨some 1, none,.box (.t 0)⟩,⟨some 2, none,.asg (.c (.slice none 0 0))⟩] [1] []
def z161r1:IC:=.reg [⟨some 3, none,.load true 2 (.t 1)⟩,⟨some 4, none,.call zl26 [(.rd,(.t 3))] true⟩,⟨some 5, none,.unop .not (.t 4)⟩] [1,5] []
def z161r2:IC:=.reg [⟨some 2, none,.asg (.c (.slice none 0 0))⟩] [2] []
def z161r3:IC:=.reg [⟨some 6, none,.load true 2 (.t 1)⟩,⟨some 7, none,.call zl9 [(.rd,(.t 6))] true⟩,⟨some 2, none,.asg (.t 7)⟩] [2] []
def zi161:IFun:=⟨[.t 2],[],(.seq z161r0 (.seq (.seq z161r1 (.cond (.t 5) (.seq z161r2 .ret) .skip)) (.seq z161r3 .ret)))⟩
def z9r0:IC:=.reg [⟨some 1, none,.box (.t 0)⟩,⟨some 2, none,.asg (.c (.slice none 0 0))⟩] [1] []
def z9r1:IC:=.reg [⟨some 6, none,.fadr 0 (.t 1)⟩,⟨some 7, none,.load false 1 (.t 6)⟩,⟨some 8, none,.mksl 1 [(vi 0)] (.t 7) (.t 7)⟩,⟨some 3, none,.asg (.t 8)⟩] [1,3] []
def z9r2:IC:=.reg [⟨some 9, none,.fadr 1 (.t 1)⟩,⟨some 10, none,.load false 1 (.t 9)⟩,⟨some 11, none,.len (.t 10)⟩,⟨some 12, none,.mv (.c (vi 0))⟩] [1,3,10,11,12] []
def z9r3:IC:=.reg [⟨some 13, none,.bin .lss (.t 12) (.t 11)⟩] [1,3,10,11,12,13] []
def z9r4:IC:=.reg [⟨some 14, none,.iadr 2 (.t 10) (.t 12)⟩,⟨some 15, none,.load true 2 (.t 14)⟩,⟨some 5, none,.alloc [(vi 0),(vi 0)]⟩,⟨none,none,.store 2 (.t 5) (.t 15)⟩] [1,3,5,10,11,12] []
def z9r5:IC:=.reg [⟨some 16, none,.mv (.t 3)⟩,⟨some 17, none,.fadr 0 (.t 5)⟩,⟨some 18, none,.load false 1 (.t 17)⟩,⟨some 19, none,.iadr 1 (.t 16) (.t 18)⟩,⟨some 20, none,.load false 1 (.t 19)⟩,⟨some 21, none,.bin .add (.t 20) (.c (vi 1))⟩,⟨some 22, none,.iadr 1 (.t 16) (.t 18)⟩,⟨none,none,.store 1 (.t 22) (.t 21)⟩] [1,3,5,10,11,12] []
def z9r6:IC:=.reg [⟨some 23, none,.mv (.t 3)⟩,⟨some 24, none,.fadr 1 (.t 5)⟩,⟨some 25, none,.load false 1 (.t 24)⟩,⟨some 26, none,.iadr 1 (.t 23) (.t 25)⟩,⟨some 27, none,.load false 1 (.t 26)⟩,⟨some 28, none,.bin .add (.t 27) (.c (vi 1))⟩,⟨some 29, none,.iadr 1 (.t 23) (.t 25)⟩,⟨none,none,.store 1 (.t 29) (.t 28)⟩] [1,3,10,11,12] []
def z9r7:IC:=.reg [⟨some 30, none,.bin .add (.t 12) (.c (vi 1))⟩,⟨some 12, none,.asg (.t 30)⟩] [1,3,10,11,12] []
def z9l8:IC:=(.seq z9r3 (.seq (.cond (.t 13) .skip (.exit 0)) (.seq (.block 1 (.seq z9r4 (.seq z9r5 z9r6))) z9r7)))
def z9r9:IC:=.reg [⟨some 31, none,.mv (.t 3)⟩,⟨some 2, none,.asgm (.t 31)⟩] [2,3] []
def zi9:IFun:=⟨[.t 2],[],(.seq z9r0 (.seq z9r1 (.seq (.seq z9r2 (.block 0 (.loop z9l8))) (.seq z9r9 .ret))))⟩
def z171r0:IC:=.reg [⟨some 3, none,.box (.t 0)⟩,⟨some 6, none,.asg (.c (.bool false))⟩] [1,2,3] []
def z171r1:IC:=.reg [⟨some 7, none,.fadr 1 (.t 3)⟩,⟨some 8, none,.load false 1 (.t 7)⟩,⟨some 9, none,.mv (.t 1)⟩,⟨some 10, none,.mv (.t 2)⟩,⟨some 11, none,.call zl36 [(.val,(.t 9)),(.val,(.t 10))] true⟩,⟨some 12, none,.call zl263 [(.rd,(.t 8)),(.val,(.t 11))] true⟩,⟨some 6, none,.asg (.t 12)⟩] [6] [[0,2,3,4,1,5,6]]
def zi171:IFun:=⟨[.t 6],[],(.seq z171r0 (.seq z171r1 .ret))⟩
def z459r0:IC:=.reg [⟨some 3, none,.box (.t 0)⟩,⟨some 6, none,.asg (.c (.bool false))⟩] [1,2,3] []
def z459r1:IC:=.reg [⟨some 7, none,.load true 2 (.t 3)⟩,⟨some 8, none,.call zl26 [(.rd,(.t 7))] true⟩,⟨some 9, none,.asg (.t 8)⟩,⟨some 10, (some (9,true)),.load true 2 (.t 3)⟩,⟨some 11, (some (9,true)),.mv (.t 1)⟩,⟨some 12, (some (9,true)),.mv (.t 2)⟩,⟨some 13, (some (9,true)),.call zl171 [(.rd,(.t 10)),(.val,(.t 11)),(.val,(.t 12))] true⟩,⟨some 14, none,.pick (.t 9) (.t 13) (.c (.bool false))⟩,⟨some 6, none,.asg (.t 14)⟩] [6] []
def zi459:IFun:=⟨[.t 6],[],(.seq z459r0 (.seq z459r1 .ret))⟩
def z187r0:IC:=.reg [⟨some 2, none,.asg (.c (.bool false))⟩] [0] []
def z187r1:IC:=.reg [⟨some 3, none,.mv (.t 0)⟩,⟨some 4, none,.call zl25 [(.rd,(.t 3))] true⟩,⟨some 5, none,.asg (.t 4)⟩,⟨some 6, (some (5,true)),.mv (.t 0)⟩,⟨some 7, (some (5,true)),.call zl37 [(.rd,(.t 6))] true⟩,⟨some 8, (some (5,true)),.mv (.t 0)⟩,⟨some 9, (some (5,true)),.call zl154 [(.rd,(.t 8))] true⟩,⟨some 10, (some (5,true)),.call zl267 [(.rd,(.t 7)),(.rd,(.t 9))] true⟩,⟨some 11, none,.pick (.t 5) (.t 10) (.c (.bool false))⟩,⟨some 2, none,.asg (.t 11)⟩] [2] []
def zi187:IFun:=⟨[.t 2],[],(.seq z187r0 (.seq z187r1 .ret))⟩
def z25r0:IC:=.reg [⟨some 2, none,.asg (.c (.bool false))⟩] [0] []
def z25r1:IC:=.reg [⟨some 3, none,.mv (.t 0)⟩,⟨some 4, none,.len (.t 3)⟩,⟨some 5, none,.bin .leq (.t 4) (.c (vi 7))⟩,⟨some 6, none,.asg (.t 5)⟩,⟨some 7, (some (6,true)),.mv (.t 0)⟩,⟨some 8, (some (6,true)),.mv (.t 0)⟩,⟨some 9, (some (6,true)),.len (.t 8)⟩,⟨some 10, (some (6,true)),.bin .sub (.t 9) (.c (vi 1))⟩,⟨some 11, (some (6,true)),.call zl29 [(.rd,(.t 7)),(.val,(.c (vi 0))),(.val,(.t 10))] true⟩,⟨some 12, none,.pick (.t 6) (.t 11) (.c (.bool false))⟩,⟨some 2, none,.asg (.t 12)⟩] [2] []
def zi25:IFun:=⟨[.t 2],[],(.seq z25r0 (.seq z25r1 .ret))⟩
def z26r0:IC:=.reg [⟨some 1, none,.box (.t 0)⟩,⟨some 2, none,.asg (.c (.bool false))⟩] [1] []
def z26r1:IC:=.reg [⟨some 5, none,.fadr 1 (.t 1)⟩,⟨some 6, none,.load false 1 (.t 5)⟩,⟨some 7, none,.len (.t 6)⟩,⟨some 8, none,.mv (.c (vi 0))⟩] [1,6,7,8] []
def z26r2:IC:=.reg [⟨some 9, none,.bin .lss (.t 8) (.t 7)⟩] [1,6,7,8,9] []
def z26r3:IC:=.reg [⟨some 10, none,.asg (.t 8)⟩,⟨some 11, none,.iadr 2 (.t 6) (.t 8)⟩,⟨some 12, none,.load true 2 (.t 11)⟩,⟨some 4, none,.alloc [(vi 0),(vi 0)]⟩,⟨some 3, none,.asg (.t 10)⟩,⟨none,none,.store 2 (.t 4) (.t 12)⟩] [1,3,4,6,7,8] []
def z26r4:IC:=.reg [⟨some 13, none,.fadr 0 (.t 4)⟩,⟨some 14, none,.load false 1 (.t 13)⟩,⟨some 15, none,.bin .lss (.t 14) (.c (vi 0))⟩,⟨some 16, none,.asg (.t 15)⟩,⟨some 17, (some (16,false)),.fadr 0 (.t 4)⟩,⟨some 18, (some (16,false)),.load false 1 (.t 17)⟩,⟨some 19, (some (16,false)),.fadr 1 (.t 4)⟩,⟨some 20, (some (16,false)),.load false 1 (.t 19)⟩,⟨some 21, (some (16,false)),.bin .geq (.t 18) (.t 20)⟩,⟨some 22, none,.pick (.t 16) (.c (.bool true)) (.t 21)⟩,⟨some 23, none,.asg (.t 22)⟩,⟨some 24, (some (23,false)),.fadr 1 (.t 4)⟩,⟨some 25, (some (23,false)),.load false 1 (.t 24)⟩,⟨some 26, (some (23,false)),.fadr 0 (.t 1)⟩,⟨some 27, (some (23,false)),.load false 1 (.t 26)⟩,⟨some 28, (some (23,false)),.bin .geq (.t 25) (.t 27)⟩,⟨some 29, none,.pick (.t 23) (.c (.bool true)) (.t 28)⟩,⟨some 30, none,.asg (.t 29)⟩,⟨some 31, (some (30,false)),.mv (.t 3)⟩,
    ⟨some 32, (some (30,false)),.bin .gtr (.t 31) (.c (vi 0))⟩,⟨some 33, (some (30,false)),.asg (.t 32)⟩,⟨some 34, (some (33,true)),.fadr 1 (.t 1)⟩,⟨some 35, (some (33,true)),.load false 1 (.t 34)⟩,⟨some 36, (some (33,true)),.mv (.t 3)⟩,⟨some 37, (some (33,true)),.bin .sub (.t 36) (.c (vi 1))⟩,⟨some 38, (some (33,true)),.iadr 2 (.t 35) (.t 37)⟩,⟨some 39, (some (33,true)),.load true 2 (.t 38)⟩,⟨some 40, (some (33,true)),.load true 2 (.t 4)⟩,⟨some 41, (some (33,true)),.call zl32 [(.val,(.t 39)),(.val,(.t 40))] true⟩,⟨some 42, (some (33,true)),.bin .geq (.t 41) (.c (vi 0))⟩,⟨some 43, (some (30,false)),.pick (.t 33) (.t 42) (.c (.bool false))⟩,⟨some 44, none,.pick (.t 30) (.c (.bool true)) (.t 43)⟩] [1,6,7,8,44] []
def z26r5:IC:=.reg [⟨some 2, none,.asg (.c (.bool false))⟩] [2] []
def z26r6:IC:=.reg [⟨some 45, none,.bin .add (.t 8) (.c (vi 1))⟩,⟨some 8, none,.asg (.t 45)⟩] [1,6,7,8] []
def z26l7:IC:=(.seq z26r2 (.seq (.cond (.t 9) .skip (.exit 0)) (.seq (.block 1 (.seq z26r3 (.seq z26r4 (.cond (.t 44) (.seq z26r5 .ret) .skip)))) z26r6)))
def z26r8:IC:=.reg [⟨some 46, none,.fadr 0 (.t 1)⟩,⟨some 47, none,.load false 1 (.t 46)⟩,⟨some 48, none,.call zl38 [(.val,(.t 47)),(.val,(.c (vi 0))),(.val,(.c (vi 7)))] true⟩,⟨some 2, none,.asg (.t 48)⟩] [2] []
def zi26:IFun:=⟨[.t 2],[],(.seq z26r0 (.seq (.seq z26r1 (.block 0 (.loop z26l7))) (.seq z26r8 .ret)))⟩
def z29r0:IC:=.reg [⟨some 4, none,.box (.t 1)⟩,⟨some 5, none,.box (.t 2)⟩,⟨some 6, none,.asg (.c (.bool false))⟩] [0,4,5] []
def z29r1:IC:=.reg [⟨some 7, none,.mv (.t 0)⟩,⟨some 8, none,.mkfn zl30 [(.t 4),(.t 5)]⟩,⟨some 9, none,.call zl72 [(.rd,(.t 7)),(.val,(.t 8))] false⟩,⟨some 10, none,.unop .not (.t 9)⟩,⟨some 6, none,.asg (.t 10)⟩] [6] []
def zi29:IFun:=⟨[.t 6],[],(.seq z29r0 (.seq z29r1 .ret))⟩
def z30r0:IC:=.reg [⟨some 4, none,.asg (.c (.bool false))⟩] [0,1,2] []
def z30r1:IC:=.reg [⟨some 5, none,.mv (.t 0)⟩,⟨some 6, none,.load false 1 (.t 1)⟩,⟨some 7, none,.load false 1 (.t 2)⟩,⟨some 8, none,.call zl38 [(.val,(.t 5)),(.val,(.t 6)),(.val,(.t 7))] true⟩,⟨some 9, none,.unop .not (.t 8)⟩,⟨some 4, none,.asg (.t 9)⟩] [4] []
def zi30:IFun:=⟨[.t 4],[],(.seq z30r0 (.seq z30r1 .ret))⟩
def z31r0:IC:=.reg [⟨some 2, none,.asg (.c (.slice none 0 0))⟩] [0] []
def z31r1:IC:=.reg [⟨some 3, none,.mv (.t 0)⟩,⟨some 4, none,.call zl71 [(.rd,(.t 3))] true⟩,⟨some 5, none,.call zl70 [(.tk,(.t 4))] true⟩,⟨some 2, none,.asg (.t 5)⟩] [2] []
def zi31:IFun:=⟨[.t 2],[],(.seq z31r0 (.seq z31r1 .ret))⟩
def z205r0:IC:=.reg [⟨some 2, none,.asg (.c (.bool false))⟩] [0] []
def z205r1:IC:=.reg [⟨some 4, none,.mv (.t 0)⟩,⟨some 5, none,.lens (.t 4)⟩,⟨some 6, none,.mv (.c (vi 0))⟩] [0,5,6] []
def z205r2:IC:=.reg [⟨some 7, none,.bin .lss (.t 6) (.t 5)⟩] [0,5,6,7] []
def z205r3:IC:=.reg [⟨some 8, none,.asg (.t 6)⟩,⟨some 3, none,.asg (.t 8)⟩] [0,3,5,6] []
def z205r4:IC:=.reg [⟨some 9, none,.mv (.t 0)⟩,⟨some 10, none,.mv (.t 3)⟩,⟨some 11, none,.idxs (.t 9) (.t 10)⟩,⟨some 12, none,.bin .neq (.t 11) (.c (.int .u8 (105)))⟩,⟨some 13, none,.asg (.t 12)⟩,⟨some 14, (some (13,true)),.mv (.t 0)⟩,⟨some 15, (some (13,true)),.mv (.t 3)⟩,⟨some 16, (some (13,true)),.idxs (.t 14) (.t 15)⟩,⟨some 17, (some (13,true)),.bin .neq (.t 16) (.c (.int .u8 (100)))⟩,⟨some 18, (some (13,true)),.asg (.t 17)⟩,⟨some 19, (some (18,false)),.mv (.t 3)⟩,⟨some 20, (some (18,false)),.bin .eql (.t 19) (.c (vi 0))⟩,⟨some 21, (some (13,true)),.pick (.t 18) (.c (.bool true)) (.t 20)⟩,⟨some 22, none,.pick (.t 13) (.t 21) (.c (.bool false))⟩] [0,5,6,22] []
def z205r5:IC:=.reg [⟨some 2, none,.asg (.c (.bool false))⟩] [2] []
def z205r6:IC:=.reg [⟨some 23, none,.bin .add (.t 6) (.c (vi 1))⟩,⟨some 6, none,.asg (.t 23)⟩] [0,5,6] []
def z205l7:IC:=(.seq z205r2 (.seq (.cond (.t 7) .skip (.exit 0)) (.seq (.block 1 (.seq z205r3 (.seq z205r4 (.cond (.t 22) (.seq z205r5 .ret) .skip)))) z205r6)))
def z205r8:IC:=.reg [⟨some 24, none,.mv (.t 0)⟩,⟨some 25, none,.lens (.t 24)⟩,⟨some 26, none,.call zl38 [(.val,(.t 25)),(.val,(.c (vi 1))),(.val,(.c (vi 7)))] true⟩,⟨some 2, none,.asg (.t 26)⟩] [2] []
def zi205:IFun:=⟨[.t 2],[],(.seq z205r0 (.seq (.seq z205r1 (.block 0 (.loop z205l7))) (.seq z205r8 .ret)))⟩
def z32r0:IC:=.reg [⟨some 2, none,.box (.t 0)⟩,⟨some 3, none,.box (.t 1)⟩,⟨some 4, none,.asg (.c (vi 0))⟩] [2,3] []
def z32r1:IC:=.reg [⟨some 5, none,.fadr 0 (.t 2)⟩,⟨some 6, none,.load false 1 (.t 5)⟩,⟨some 7, none,.fadr 0 (.t 3)⟩,⟨some 8, none,.load false 1 (.t 7)⟩,⟨some 9, none,.bin .neq (.t 6) (.t 8)⟩] [2,3,9] []
def z32r2:IC:=.reg [⟨some 10, none,.fadr 0 (.t 2)⟩,⟨some 11, none,.load false 1 (.t 10)⟩,⟨some 12, none,.fadr 0 (.t 3)⟩,⟨some 13, none,.load false 1 (.t 12)⟩,⟨some 14, none,.bin .sub (.t 11) (.t 13)⟩,⟨some 4, none,.asg (.t 14)⟩] [4] []
def z32r3:IC:=.reg [⟨some 15, none,.fadr 1 (.t 2)⟩,⟨some 16, none,.load false 1 (.t 15)⟩,⟨some 17, none,.fadr 1 (.t 3)⟩,⟨some 18, none,.load false 1 (.t 17)⟩,⟨some 19, none,.bin .sub (.t 16) (.t 18)⟩,⟨some 4, none,.asg (.t 19)⟩] [4] []
def zi32:IFun:=⟨[.t 4],[],(.seq z32r0 (.seq (.seq z32r1 (.cond (.t 9) (.seq z32r2 .ret) .skip)) (.seq z32r3 .ret)))⟩
def z206r0:IC:=.reg [⟨some 4, none,.asg (.c (vi 0))⟩] [0,1] []
def z206r1:IC:=.reg [⟨some 5, none,.asg (.c (vi 0))⟩] [0,1,5] []
def z206r2:IC:=.reg [⟨some 8, none,.mv (.t 0)⟩,⟨some 9, none,.len (.t 8)⟩,⟨some 10, none,.mv (.c (vi 0))⟩] [0,1,5,8,9,10] []
def z206r3:IC:=.reg [⟨some 11, none,.bin .lss (.t 10) (.t 9)⟩] [0,1,5,8,9,10,11] []
def z206r4:IC:=.reg [⟨some 12, none,.iadr 1 (.t 8) (.t 10)⟩,⟨some 13, none,.load false 1 (.t 12)⟩,⟨some 7, none,.asg (.t 13)⟩] [0,1,5,7,8,9,10] []
def z206r5:IC:=.reg [⟨some 14, none,.mv (.t 1)⟩,⟨some 15, none,.mv (.t 7)⟩,⟨some 16, none,.callv (.t 14) [(.val,(.t 15))]⟩] [0,1,5,8,9,10,16] []
def z206r6:IC:=.reg [⟨some 17, none,.mv (.t 5)⟩,⟨some 18, none,.bin .add (.t 17) (.c (vi 1))⟩,⟨some 5, none,.asg (.t 18)⟩] [0,1,5,8,9,10] []
def z206r7:IC:=.reg [⟨some 19, none,.bin .add (.t 10) (.c (vi 1))⟩,⟨some 10, none,.asg (.t 19)⟩] [0,1,5,8,9,10] []
def z206l8:IC:=(.seq z206r3 (.seq (.cond (.t 11) .skip (.exit 0)) (.seq (.block 1 (.seq z206r4 (.seq z206r5 (.cond (.t 16) z206r6 .skip)))) z206r7)))
def z206r9:IC:=.reg [⟨some 20, none,.mv (.t 5)⟩,⟨some 4, none,.asgm (.t 20)⟩] [4] []
def zi206:IFun:=⟨[.t 4],[],(.seq z206r0 (.seq z206r1 (.seq (.seq z206r2 (.block 0 (.loop z206l8))) (.seq z206r9 .ret))))⟩
def z35r0:IC:=.reg [⟨some 4, none,.asg (.c (.slice none 0 0))⟩] [0,1] []
def z35r1:IC:=.reg [⟨some 7, none,.mv (.t 0)⟩,⟨some 8, none,.call zl25 [(.rd,(.t 7))] true⟩,⟨some 9, none,.unop .not (.t 8)⟩] [0,1,9] []
def z35r2:IC:=.reg [⟨some 4, none,.asg (.c (.slice none 0 0))⟩] [4,5] []
def z35r3:IC:=.reg [⟨some 10, none,.mv (.t 0)⟩,⟨some 11, none,.len (.t 10)⟩,⟨some 12, none,.mksl 1 [(vi 0)] (.t 11) (.t 11)⟩,⟨some 5, none,.asg (.t 12)⟩] [1,5] []
def z35r4:IC:=.reg [⟨some 13, none,.mv (.t 5)⟩,⟨some 14, none,.len (.t 13)⟩,⟨some 15, none,.mv (.c (vi 0))⟩] [1,5,14,15] []
def z35r5:IC:=.reg [⟨some 16, none,.bin .lss (.t 15) (.t 14)⟩] [1,5,14,15,16] []
def z35r6:IC:=.reg [⟨some 17, none,.asg (.t 15)⟩,⟨some 6, none,.asg (.t 17)⟩] [1,5,6,14,15] []
def z35r7:IC:=.reg [⟨some 18, none,.mv (.t 5)⟩,⟨some 19, none,.mv (.t 6)⟩,⟨some 20, none,.mv (.t 1)⟩,⟨some 21, none,.mv (.t 6)⟩,⟨some 22, none,.callv (.t 20) [(.val,(.t 21))]⟩,⟨some 23, none,.iadr 1 (.t 18) (.t 19)⟩,⟨none,none,.store 1 (.t 23) (.t 22)⟩] [1,5,14,15] []
def z35r8:IC:=.reg [⟨some 24, none,.bin .add (.t 15) (.c (vi 1))⟩,⟨some 15, none,.asg (.t 24)⟩] [1,5,14,15] []
def z35l9:IC:=(.seq z35r5 (.seq (.cond (.t 16) .skip (.exit 0)) (.seq (.block 1 (.seq z35r6 z35r7)) z35r8)))
def z35r10:IC:=.reg [⟨some 25, none,.mv (.t 5)⟩,⟨some 4, none,.asgm (.t 25)⟩] [4,5] []
def zi35:IFun:=⟨[.t 4],[],(.seq z35r0 (.seq (.seq z35r1 (.cond (.t 9) (.seq z35r2 .ret) .skip)) (.seq z35r3 (.seq (.seq z35r4 (.block 0 (.loop z35l9))) (.seq z35r10 .ret)))))⟩
def z36r0:IC:=.reg [⟨some 4, none,.alloc [(vi 0),(vi 0)]⟩] [0,1,4] []
def z36r1:IC:=.reg [⟨some 5, none,.mv (.t 0)⟩,⟨some 6, none,.mv (.t 1)⟩,⟨some 7, none,.minmax true (.t 5) (.t 6)⟩,⟨some 8, none,.mv (.t 0)⟩,⟨some 9, none,.mv (.t 1)⟩,⟨some 10, none,.minmax false (.t 8) (.t 9)⟩,⟨some 11, none,.build [(vi 0),(vi 0)] [(0,1,(.t 7)),(1,1,(.t 10))]⟩,⟨none,none,.store 2 (.t 4) (.t 11)⟩] [4] []
def zi36:IFun:=⟨[.c 4 2 true],[],(.seq z36r0 (.seq z36r1 .ret))⟩
def z37r0:IC:=.reg [⟨some 2, none,.asg (.c (.slice none 0 0))⟩] [0] []
def z37r1:IC:=.reg [⟨some 4, none,.mv (.t 0)⟩,⟨some 5, none,.call zl31 [(.rd,(.t 4))] true⟩,⟨some 3, none,.asg (.t 5)⟩] [3] []
def z37r2:IC:=.reg [⟨some 6, none,.mv (.t 3)⟩,⟨some 7, none,.call zl78 [(.ld,(.t 6))] false⟩] [3] []
def z37r3:IC:=.reg [⟨some 8, none,.mv (.t 3)⟩,⟨some 9, none,.call zl76 [(.ld,(.t 8))] false⟩] [3] []
def z37r4:IC:=.reg [⟨some 10, none,.mv (.t 3)⟩,⟨some 2, none,.asgm (.t 10)⟩] [2,3] []
def zi37:IFun:=⟨[.t 2],[],(.seq z37r0 (.seq z37r1 (.seq z37r2 (.seq z37r3 (.seq z37r4 .ret)))))⟩
def z38r0:IC:=.reg [⟨some 6, none,.asg (.c (.bool false))⟩] [0,1,2] []
def z38r1:IC:=.reg [⟨some 7, none,.mv (.t 0)⟩,⟨some 8, none,.mv (.t 1)⟩,⟨some 9, none,.bin .geq (.t 7) (.t 8)⟩,⟨some 10, none,.asg (.t 9)⟩,⟨some 11, (some (10,true)),.mv (.t 0)⟩,⟨some 12, (some (10,true)),.mv (.t 2)⟩,⟨some 13, (some (10,true)),.bin .leq (.t 11) (.t 12)⟩,⟨some 14, none,.pick (.t 10) (.t 13) (.c (.bool false))⟩,⟨some 6, none,.asg (.t 14)⟩] [6] []
def zi38:IFun:=⟨[.t 6],[],(.seq z38r0 (.seq z38r1 .ret))⟩
def z212r0:IC:=.reg [⟨some 4, none,.asg (.c (.slice none 0 0))⟩] [0,1] []
def z212r1:IC:=.reg [⟨some 5, none,.asg (.c (.slice none 0 0))⟩] [0,1,5] []
def z212r2:IC:=.reg [⟨some 7, none,.mv (.t 0)⟩,⟨some 8, none,.mv (.c (vi 0))⟩] [1,5,7,8] []
def z212r3:IC:=.reg [⟨some 9, none,.bin .lss (.t 8) (.t 7)⟩] [1,5,7,8,9] []
def z212r4:IC:=.reg [⟨some 10, none,.asg (.t 8)⟩,⟨some 6, none,.asg (.t 10)⟩] [1,5,6,7,8] []
def z212r5:IC:=.reg [⟨some 11, none,.mv (.t 6)⟩,⟨some 12, none,.mv (.t 1)⟩,⟨some 13, none,.bin .neq (.t 11) (.t 12)⟩] [1,5,6,7,8,13] []
def z212r6:IC:=.reg [⟨some 14, none,.mv (.t 5)⟩,⟨some 15, none,.mv (.t 6)⟩,⟨some 16, none,.bsl 1 [(vi 0)] 1 [(0,(.t 15))]⟩,⟨some 17, none,.app 1 (.t 14) (.t 16)⟩,⟨some 5, none,.asg (.t 17)⟩] [1,5,7,8] []
def z212r7:IC:=.reg [⟨some 18, none,.bin .add (.t 8) (.c (vi 1))⟩,⟨some 8, none,.asg (.t 18)⟩] [1,5,7,8] []
def z212l8:IC:=(.seq z212r3 (.seq (.cond (.t 9) .skip (.exit 0)) (.seq (.block 1 (.seq z212r4 (.seq z212r5 (.cond (.t 13) z212r6 .skip)))) z212r7)))
def z212r9:IC:=.reg [⟨some 19, none,.mv (.t 5)⟩,⟨some 4, none,.asgm (.t 19)⟩] [4,5] []
def zi212:IFun:=⟨[.t 4],[],(.seq z212r0 (.seq z212r1 (.seq (.seq z212r2 (.block 0 (.loop z212l8))) (.seq z212r9 .ret))))⟩
def z216r0:IC:=.reg [⟨some 2, none,.asg (.c (.slice none 0 0))⟩] [0] []
def z216r1:IC:=.reg [⟨some 3, none,.asg (.c (.slice none 0 0))⟩] [0,3] []
def z216r2:IC:=.reg [⟨some 6, none,.mv (.t 0)⟩,⟨some 7, none,.mv (.c (vi 0))⟩] [0,3,6,7] []
def z216r3:IC:=.reg [⟨some 8, none,.bin .lss (.t 7) (.t 6)⟩] [0,3,6,7,8] []
def z216r4:IC:=.reg [⟨some 9, none,.asg (.t 7)⟩,⟨some 4, none,.asg (.t 9)⟩] [0,3,4,6,7] []
def z216r5:IC:=.reg [⟨some 10, none,.mv (.t 4)⟩,⟨some 11, none,.bin .add (.t 10) (.c (vi 1))⟩,⟨some 5, none,.asg (.t 11)⟩] [0,3,4,5,6,7] []
def z216r6:IC:=.reg [⟨some 12, none,.mv (.t 5)⟩,⟨some 13, none,.mv (.t 0)⟩,⟨some 14, none,.bin .lss (.t 12) (.t 13)⟩] [0,3,4,5,6,7,14] []
def z216r7:IC:=.reg [⟨some 17, none,.mv (.t 3)⟩,⟨some 18, none,.mv (.t 4)⟩,⟨some 19, none,.mv (.t 5)⟩,⟨some 20, none,.build [(vi 0),(vi 0)] [(0,1,(.t 18)),(1,1,(.t 19))]⟩,⟨some 21, none,.bsl 2 [(vi 0),(vi 0)] 1 [(0,(.t 20))]⟩,⟨some 22, none,.app 2 (.t 17) (.t 21)⟩,⟨some 3, none,.asg (.t 22)⟩] [0,3,4,5,6,7] []
def z216r8:IC:=.reg [⟨some 15, none,.mv (.t 5)⟩,⟨some 16, none,.bin .add (.t 15) (.c (vi 1))⟩,⟨some 5, none,.asg (.t 16)⟩] [0,3,4,5,6,7] []
def z216l9:IC:=(.seq (.seq z216r6 (.cond (.t 14) .skip (.exit 2))) (.seq (.block 3 z216r7) z216r8))
def z216r10:IC:=.reg [⟨some 23, none,.bin .add (.t 7) (.c (vi 1))⟩,⟨some 7, none,.asg (.t 23)⟩] [0,3,6,7] []
def z216l11:IC:=(.seq z216r3 (.seq (.cond (.t 8) .skip (.exit 0)) (.seq (.block 1 (.seq z216r4 (.seq z216r5 (.block 2 (.loop z216l9))))) z216r10)))
def z216r12:IC:=.reg [⟨some 24, none,.mv (.t 3)⟩,⟨some 2, none,.asgm (.t 24)⟩] [2,3] []
def zi216:IFun:=⟨[.t 2],[],(.seq z216r0 (.seq z216r1 (.seq (.seq z216r2 (.block 0 (.loop z216l11))) (.seq z216r12 .ret))))⟩
def z220r0:IC:=.reg [⟨some 4, none,.alloc [(vi 0),(.slice none 0 0)]⟩] [0,1,4] []
def z220r1:IC:=.reg [⟨some 5, none,.asg (.c (.slice none 0 0))⟩] [0,1,4,5] []
def z220r2:IC:=.reg [⟨some 8, none,.mv (.t 0)⟩,⟨some 9, none,.call zl216 [(.val,(.t 8))] true⟩,⟨some 10, none,.len (.t 9)⟩,⟨some 11, none,.mv (.c (vi 0))⟩] [0,1,4,5,9,10,11] []
def z220r3:IC:=.reg [⟨some 12, none,.bin .lss (.t 11) (.t 10)⟩] [0,1,4,5,9,10,11,12] []
def z220r4:IC:=.reg [⟨some 13, none,.iadr 2 (.t 9) (.t 11)⟩,⟨some 14, none,.load true 2 (.t 13)⟩,⟨some 7, none,.alloc [(vi 0),(vi 0)]⟩,⟨none,none,.store 2 (.t 7) (.t 14)⟩] [0,1,4,5,7,9,10,11] []
def z220r5:IC:=.reg [⟨some 15, none,.mv (.t 1)⟩,⟨some 16, none,.fadr 0 (.t 7)⟩,⟨some 17, none,.load false 1 (.t 16)⟩,⟨some 18, none,.fadr 1 (.t 7)⟩,⟨some 19, none,.load false 1 (.t 18)⟩,⟨some 20, none,.callv (.t 15) [(.val,(.t 17)),(.val,(.t 19))]⟩] [0,1,4,5,7,9,10,11,20] []
def z220r6:IC:=.reg [⟨some 21, none,.mv (.t 5)⟩,⟨some 22, none,.load true 2 (.t 7)⟩,⟨some 23, none,.bsl 2 [(vi 0),(vi 0)] 1 [(0,(.t 22))]⟩,⟨some 24, none,.app 2 (.t 21) (.t 23)⟩,⟨some 5, none,.asg (.t 24)⟩] [0,1,4,5,9,10,11] []
def z220r7:IC:=.reg [⟨some 25, none,.bin .add (.t 11) (.c (vi 1))⟩,⟨some 11, none,.asg (.t 25)⟩] [0,1,4,5,9,10,11] []
def z220l8:IC:=(.seq z220r3 (.seq (.cond (.t 12) .skip (.exit 0)) (.seq (.block 1 (.seq z220r4 (.seq z220r5 (.cond (.t 20) z220r6 .skip)))) z220r7)))
def z220r9:IC:=.reg [⟨some 26, none,.mv (.t 0)⟩,⟨some 27, none,.mv (.t 5)⟩,⟨some 28, none,.call zl258 [(.tk,(.t 27))] true⟩,⟨some 29, none,.build [(vi 0),(.slice none 0 0)] [(0,1,(.t 26)),(1,1,(.t 28))]⟩,⟨none,none,.store 2 (.t 4) (.t 29)⟩] [4] []
def zi220:IFun:=⟨[.c 4 2 true],[],(.seq z220r0 (.seq z220r1 (.seq (.seq z220r2 (.block 0 (.loop z220l8))) (.seq z220r9 .ret))))⟩
def z466r0:IC:=.reg [⟨some 2, none,.asg (.c (.bool false))⟩] [0] []
def z466r1:IC:=.reg [⟨some 14, none,.mv (.t 0)⟩,⟨some 15, none,.len (.t 14)⟩,⟨some 16, none,.bin .gtr (.t 15) (.c (vi 1048576))⟩] [0,16] []
def z466r2:IC:=.reg [⟨some 2, none,.asg (.c (.bool true))⟩] [2] []
def z466r3:IC:=.reg [⟨some 17, none,.mv (.t 0)⟩,⟨some 18, none,.call zl299 [(.rd,(.t 17))] true⟩,⟨some 3, none,.alloc [(vi 0),(.slice none 0 0)]⟩,⟨none,none,.storef 2 (.t 3) (.t 18)⟩] [3] []
def z466r4:IC:=.reg [⟨some 20, none,.load true 2 (.t 3)⟩,⟨some 21, none,.call zl151 [(.rd,(.t 20))] true⟩,⟨some 19, none,.asg (.t 21)⟩,⟨some 22, none,.extr (.t 19) 0⟩,⟨some 23, none,.extr (.t 19) 1⟩,⟨some 24, none,.extr (.t 19) 2⟩,⟨some 4, none,.asg (.t 22)⟩,⟨some 5, none,.asg (.t 23)⟩,⟨some 6, none,.asg (.t 24)⟩] [3,4,5,6] []
def z466r5:IC:=.reg [⟨some 26, none,.load true 2 (.t 3)⟩,⟨some 27, none,.call zl481 [(.rd,(.t 26))] true⟩,⟨some 25, none,.asg (.t 27)⟩,⟨some 28, none,.extr (.t 25) 0⟩,⟨some 29, none,.extr (.t 25) 1⟩,⟨some 30, none,.extr (.t 25) 2⟩,⟨some 7, none,.asg (.t 28)⟩,⟨some 8, none,.asg (.t 29)⟩,⟨some 9, none,.asg (.t 30)⟩] [3,4,5,6,7,8,9] []
def z466r6:IC:=.reg [⟨some 31, none,.mv (.t 4)⟩,⟨some 32, none,.mv (.t 7)⟩,⟨some 33, none,.bin .neq (.t 31) (.t 32)⟩,⟨some 34, none,.asg (.t 33)⟩,⟨some 35, (some (34,false)),.mv (.t 5)⟩,⟨some 36, (some (34,false)),.mv (.t 8)⟩,⟨some 37, (some (34,false)),.call zl53 [(.rd,(.t 35)),(.rd,(.t 36))] true⟩,⟨some 38, (some (34,false)),.unop .not (.t 37)⟩,⟨some 39, none,.pick (.t 34) (.c (.bool true)) (.t 38)⟩,⟨some 40, none,.asg (.t 39)⟩,⟨some 41, (some (40,false)),.mv (.t 6)⟩,⟨some 42, (some (40,false)),.mv (.t 9)⟩,⟨some 43, (some (40,false)),.eqb true (.t 41) (.t 42)⟩,⟨some 44, none,.pick (.t 40) (.c (.bool true)) (.t 43)⟩,⟨some 45, none,.asg (.t 44)⟩,⟨some 46, (some (45,false)),.load true 2 (.t 3)⟩,⟨some 47, (some (45,false)),.call zl26 [(.rd,(.t 46))] true⟩,⟨some 48, (some (45,false)),.unop .not (.t 47)⟩,⟨some 49, none,.pick (.t 45) (.c (.bool true)) (.t 48)⟩,
    ⟨some 50, none,.asg (.t 49)⟩,⟨some 51, (some (50,false)),.fadr 0 (.t 3)⟩,⟨some 52, (some (50,false)),.load false 1 (.t 51)⟩,⟨some 53, (some (50,false)),.bin .eql (.t 52) (.c (vi 0))⟩,⟨some 54, none,.pick (.t 50) (.c (.bool true)) (.t 53)⟩] [3,4,5,6,7,8,9,54] []
def z466r7:IC:=.reg [⟨some 55, none,.mv (.t 4)⟩,⟨some 56, none,.mv (.t 7)⟩,⟨some 57, none,.bin .eql (.t 55) (.t 56)⟩,⟨some 58, none,.asg (.t 57)⟩,⟨some 59, (some (58,true)),.mv (.t 5)⟩,⟨some 60, (some (58,true)),.mv (.t 8)⟩,⟨some 61, (some (58,true)),.call zl53 [(.rd,(.t 59)),(.rd,(.t 60))] true⟩,⟨some 62, none,.pick (.t 58) (.t 61) (.c (.bool false))⟩,⟨some 63, none,.asg (.t 62)⟩,⟨some 64, (some (63,true)),.mv (.t 6)⟩,⟨some 65, (some (63,true)),.mv (.t 9)⟩,⟨some 66, (some (63,true)),.eqb false (.t 64) (.t 65)⟩,⟨some 67, none,.pick (.t 63) (.t 66) (.c (.bool false))⟩,⟨some 2, none,.asg (.t 67)⟩] [2] []
def z466r8:IC:=.reg [⟨some 68, none,.mv (.t 6)⟩,⟨some 69, none,.unop .not (.t 68)⟩] [3,4,5,69] []
def z466r9:IC:=.reg [⟨some 70, none,.load true 2 (.t 3)⟩,⟨some 71, none,.call zl161 [(.rd,(.t 70))] true⟩,⟨some 72, none,.call zl187 [(.rd,(.t 71))] true⟩,⟨some 73, none,.unop .not (.t 72)⟩,⟨some 2, none,.asg (.t 73)⟩] [2] []
def z466r10:IC:=.reg [⟨some 75, none,.mv (.t 4)⟩,⟨some 76, none,.call zl149 [(.val,(.t 75))] true⟩,⟨some 74, none,.asg (.t 76)⟩,⟨some 77, none,.extr (.t 74) 0⟩,⟨some 78, none,.extr (.t 74) 1⟩,⟨some 10, none,.alloc [(vi 0),(.slice none 0 0)]⟩,⟨none,none,.storef 2 (.t 10) (.t 77)⟩,⟨some 11, none,.asg (.t 78)⟩] [3,5,10,11] []
def z466r11:IC:=.reg [⟨some 12, none,.asg (.c (vi 0))⟩] [3,5,10,11,12] []
def z466r12:IC:=.reg [⟨some 79, none,.mv (.t 12)⟩,⟨some 80, none,.mv (.t 5)⟩,⟨some 81, none,.len (.t 80)⟩,⟨some 82, none,.bin .lss (.t 79) (.t 81)⟩] [3,5,10,11,12,82] []
def z466r13:IC:=.reg [⟨some 13, none,.asg (.c (vi 0))⟩] [3,5,10,11,12,13] []
def z466r14:IC:=.reg [⟨some 85, none,.mv (.t 13)⟩,⟨some 86, none,.mv (.t 12)⟩,⟨some 87, none,.bin .lss (.t 85) (.t 86)⟩] [3,5,10,11,12,13,87] []
def z466r15:IC:=.reg [⟨some 90, none,.load true 2 (.t 3)⟩,⟨some 91, none,.mv (.t 5)⟩,⟨some 92, none,.mv (.t 12)⟩,⟨some 93, none,.iadr 1 (.t 91) (.t 92)⟩,⟨some 94, none,.load false 1 (.t 93)⟩,⟨some 95, none,.mv (.t 5)⟩,⟨some 96, none,.mv (.t 13)⟩,⟨some 97, none,.iadr 1 (.t 95) (.t 96)⟩,⟨some 98, none,.load false 1 (.t 97)⟩,⟨some 99, none,.call zl459 [(.rd,(.t 90)),(.val,(.t 94)),(.val,(.t 98))] true⟩,⟨some 100, none,.load true 2 (.t 10)⟩,⟨some 101, none,.mv (.t 12)⟩,⟨some 102, none,.mv (.t 13)⟩,⟨some 103, none,.call zl459 [(.rd,(.t 100)),(.val,(.t 101)),(.val,(.t 102))] true⟩,⟨some 104, none,.eqb true (.t 99) (.t 103)⟩] [3,5,10,11,12,13,104] [[0,1,2,3,4,5,6,7,8,10,9,11,12,13,14]]
def z466r16:IC:=.reg [⟨some 2, none,.asg (.c (.bool false))⟩] [2] []
def z466r17:IC:=.reg [⟨some 88, none,.mv (.t 13)⟩,⟨some 89, none,.bin .add (.t 88) (.c (vi 1))⟩,⟨some 13, none,.asg (.t 89)⟩] [3,5,10,11,12,13] []
def z466l18:IC:=(.seq (.seq z466r14 (.cond (.t 87) .skip (.exit 2))) (.seq (.block 3 (.seq z466r15 (.cond (.t 104) (.seq z466r16 .ret) .skip))) z466r17))
def z466r19:IC:=.reg [⟨some 83, none,.mv (.t 12)⟩,⟨some 84, none,.bin .add (.t 83) (.c (vi 1))⟩,⟨some 12, none,.asg (.t 84)⟩] [3,5,10,11,12] []
def z466l20:IC:=(.seq (.seq z466r12 (.cond (.t 82) .skip (.exit 0))) (.seq (.block 1 (.seq z466r13 (.block 2 (.loop z466l18)))) z466r19))
def z466r21:IC:=.reg [⟨some 105, none,.mv (.t 11)⟩,⟨some 106, none,.asgm (.t 105)⟩,⟨some 107, (some (106,true)),.load true 2 (.t 3)⟩,⟨some 108, (some (106,true)),.call zl161 [(.rd,(.t 107))] true⟩,⟨some 109, (some (106,true)),.call zl187 [(.rd,(.t 108))] true⟩,⟨some 110, none,.pick (.t 106) (.t 109) (.c (.bool false))⟩,⟨some 2, none,.asg (.t 110)⟩] [2] []
def zi466:IFun:=⟨[.t 2],[],(.seq z466r0 (.seq (.seq z466r1 (.cond (.t 16) (.seq z466r2 .ret) .skip)) (.seq z466r3 (.seq z466r4 (.seq z466r5 (.seq (.seq z466r6 (.cond (.t 54) (.seq z466r7 .ret) .skip)) (.seq (.seq z466r8 (.cond (.t 69) (.seq z466r9 .ret) .skip)) (.seq z466r10 (.seq (.seq z466r11 (.block 0 (.loop z466l20))) (.seq z466r21 .ret))))))))))⟩
def z53r0:IC:=.reg [⟨some 4, none,.asg (.c (.bool false))⟩] [0,1] []
def z53r1:IC:=.reg [⟨some 6, none,.mv (.t 0)⟩,⟨some 7, none,.len (.t 6)⟩,⟨some 8, none,.mv (.t 1)⟩,⟨some 9, none,.len (.t 8)⟩,⟨some 10, none,.bin .neq (.t 7) (.t 9)⟩] [0,1,10] []
def z53r2:IC:=.reg [⟨some 4, none,.asg (.c (.bool false))⟩] [4] []
def z53r3:IC:=.reg [⟨some 5, none,.asg (.c (vi 0))⟩] [0,1,5] []
def z53r4:IC:=.reg [⟨some 11, none,.mv (.t 5)⟩,⟨some 12, none,.mv (.t 0)⟩,⟨some 13, none,.len (.t 12)⟩,⟨some 14, none,.bin .lss (.t 11) (.t 13)⟩] [0,1,5,14] []
def z53r5:IC:=.reg [⟨some 17, none,.mv (.t 0)⟩,⟨some 18, none,.mv (.t 5)⟩,⟨some 19, none,.iadr 1 (.t 17) (.t 18)⟩,⟨some 20, none,.load false 1 (.t 19)⟩,⟨some 21, none,.mv (.t 1)⟩,⟨some 22, none,.mv (.t 5)⟩,⟨some 23, none,.iadr 1 (.t 21) (.t 22)⟩,⟨some 24, none,.load false 1 (.t 23)⟩,⟨some 25, none,.bin .neq (.t 20) (.t 24)⟩] [0,1,5,25] []
def z53r6:IC:=.reg [⟨some 4, none,.asg (.c (.bool false))⟩] [4] []
def z53r7:IC:=.reg [⟨some 15, none,.mv (.t 5)⟩,⟨some 16, none,.bin .add (.t 15) (.c (vi 1))⟩,⟨some 5, none,.asg (.t 16)⟩] [0,1,5] []
def z53l8:IC:=(.seq (.seq z53r4 (.cond (.t 14) .skip (.exit 0))) (.seq (.block 1 (.seq z53r5 (.cond (.t 25) (.seq z53r6 .ret) .skip))) z53r7))
def z53r9:IC:=.reg [⟨some 4, none,.asg (.c (.bool true))⟩] [4] []
def zi53:IFun:=⟨[.t 4],[],(.seq z53r0 (.seq (.seq z53r1 (.cond (.t 10) (.seq z53r2 .ret) .skip)) (.seq (.seq z53r3 (.block 0 (.loop z53l8))) (.seq z53r9 .ret))))⟩
def z66r0:IC:=.reg [⟨some 2, none,.asg (.c (vi 0))⟩] [0] []
def z66r1:IC:=.reg [⟨some 3, none,.mv (.t 0)⟩,⟨some 4, none,.conv .u32 (.t 3)⟩,⟨some 5, none,.call zl67 [(.val,(.t 4))] true⟩,⟨some 2, none,.asg (.t 5)⟩] [2] []
def z66r2:IC:=.reg [⟨some 6, none,.mv (.t 0)⟩,⟨some 7, none,.call zl68 [(.val,(.t 6))] true⟩,⟨some 2, none,.asg (.t 7)⟩] [2] []
def zi66:IFun:=⟨[.t 2],[],(.seq z66r0 (.seq (.cond (.c (.bool false)) (.seq z66r1 .ret) .skip) (.seq z66r2 .ret)))⟩
def z68r0:IC:=.reg [⟨some 2, none,.asg (.c (vi 0))⟩] [0,2] []
def z68r1:IC:=.reg [⟨some 3, none,.mv (.t 0)⟩,⟨some 4, none,.bin .geq (.t 3) (.c (.int .u64 (4294967296)))⟩] [0,2,4] []
def z68r2:IC:=.reg [⟨some 5, none,.mv (.t 0)⟩,⟨some 6, none,.bin .shr (.t 5) (.c (.int .u64 (32)))⟩,⟨some 0, none,.asg (.t 6)⟩] [0] []
def z68r3:IC:=.reg [⟨some 2, none,.asg (.c (vi 32))⟩] [0,2] []
def z68r4:IC:=.reg [⟨some 7, none,.mv (.t 0)⟩,⟨some 8, none,.bin .geq (.t 7) (.c (.int .u64 (65536)))⟩] [0,2,8] []
def z68r5:IC:=.reg [⟨some 9, none,.mv (.t 0)⟩,⟨some 10, none,.bin .shr (.t 9) (.c (.int .u64 (16)))⟩,⟨some 0, none,.asg (.t 10)⟩] [0,2] []
def z68r6:IC:=.reg [⟨some 11, none,.mv (.t 2)⟩,⟨some 12, none,.bin .add (.t 11) (.c (vi 16))⟩,⟨some 2, none,.asg (.t 12)⟩] [0,2] []
def z68r7:IC:=.reg [⟨some 13, none,.mv (.t 0)⟩,⟨some 14, none,.bin .geq (.t 13) (.c (.int .u64 (256)))⟩] [0,2,14] []
def z68r8:IC:=.reg [⟨some 15, none,.mv (.t 0)⟩,⟨some 16, none,.bin .shr (.t 15) (.c (.int .u64 (8)))⟩,⟨some 0, none,.asg (.t 16)⟩] [0,2] []
def z68r9:IC:=.reg [⟨some 17, none,.mv (.t 2)⟩,⟨some 18, none,.bin .add (.t 17) (.c (vi 8))⟩,⟨some 2, none,.asg (.t 18)⟩] [0,2] []
def z68r10:IC:=.reg [⟨some 19, none,.mv (.t 2)⟩,⟨some 20, none,.mv (.t 0)⟩,⟨some 21, none,.conv .u8 (.t 20)⟩,⟨some 22, none,.idxs (.c (.string ⟨#[0,1,2,2,3,3,3,3,4,4,4,4,4,4,4,4,5,5,5,5,5,5,5,5,5,5,5,5,5,5,5,5,6,6,6,6,6,6,6,6,6,6,6,6,6,6,6,6,6,6,6,6,6,6,6,6,6,6,6,6,6,6,6,6,7,7,7,7,7,7,7,7,7,7,7,7,7,7,7,7,7,7,7,7,7,7,7,7,7,7,7,7,7,7,7,7,7,7,7,7,7,7,7,7,7,7,7,7,7,7,7,7,7,7,7,7,7,7,7,7,7,7,7,7,7,7,7,7,8,8,8,8,8,8,8,8,8,8,8,8,8,8,8,8,8,8,8,8,8,8,8,8,8,8,8,8,8,8,8,8,8,8,8,8,8,8,8,8,8,8,8,8,8,8,8,8,8,8,8,8,8,8,8,8,8,8,8,8,8,8,8,8,8,8,8,8,8,8,8,8,8,8,8,8,8,8,8,8,8,8,8,8,8,8,8,8,8,8,8,8,8,8,8,8,8,8,8,8,8,8,8,8,8,8,8,8,8,8,8,8,8,8,8,8,8,8,8,8,8,8,8,8,8,8,8,8]⟩)) (.t 21)⟩,⟨some 23, none,.conv .i64 (.t 22)⟩,⟨some 24, none,.bin .add (.t 19) (.t 23)⟩,⟨some 2, none,.asg (.t 24)⟩] [2] []
def zi68:IFun:=⟨[.t 2],[],(.seq z68r0 (.seq (.seq z68r1 (.cond (.t 4) (.seq z68r2 z68r3) .skip)) (.seq (.seq z68r4 (.cond (.t 8) (.seq z68r5 z68r6) .skip)) (.seq (.seq z68r7 (.cond (.t 14) (.seq z68r8 z68r9) .skip)) (.seq z68r10 .ret)))))⟩
def z258r0:IC:=.reg [⟨some 2, none,.asg (.c (.slice none 0 0))⟩] [0] []
def z258r1:IC:=.reg [⟨some 3, none,.mv (.t 0)⟩,⟨some 4, none,.mv (.t 0)⟩,⟨some 5, none,.len (.t 4)⟩,⟨some 6, none,.mv (.t 0)⟩,⟨some 7, none,.len (.t 6)⟩,⟨some 8, none,.slc 2 (.t 3) none (some (.t 5)) (some (.t 7))⟩,⟨some 2, none,.asgm (.t 8)⟩] [0,2] []
def zi258:IFun:=⟨[.t 2],[],(.seq z258r0 (.seq z258r1 .ret))⟩
def z70r0:IC:=.reg [⟨some 2, none,.asg (.c (.slice none 0 0))⟩] [0] []
def z70r1:IC:=.reg [⟨some 3, none,.mv (.t 0)⟩,⟨some 4, none,.mv (.t 0)⟩,⟨some 5, none,.len (.t 4)⟩,⟨some 6, none,.mv (.t 0)⟩,⟨some 7, none,.len (.t 6)⟩,⟨some 8, none,.slc 1 (.t 3) none (some (.t 5)) (some (.t 7))⟩,⟨some 2, none,.asgm (.t 8)⟩] [0,2] []
def zi70:IFun:=⟨[.t 2],[],(.seq z70r0 (.seq z70r1 .ret))⟩
def z71r0:IC:=.reg [⟨some 2, none,.nilo 1⟩] [0] []
def z71r1:List IOp:=[⟨some 3, none,.mv (.t 0)⟩]
def z71r2:IC:=.reg [⟨some 2, none,.nilo 1⟩] [2] []
def z71r3:IC:=.reg [⟨some 5, none,.bsl 1 [(vi 0)] 0 []⟩,⟨some 6, none,.mv (.t 0)⟩,⟨some 7, none,.app 1 (.t 5) (.t 6)⟩,⟨some 2, none,.asg (.t 7)⟩] [2] []
def zi71:IFun:=⟨[.t 2],[],(.seq z71r0 (.nilc2 z71r1 (.t 3) 4 [0,4] (.cond (.t 4) (.seq z71r2 .ret) .skip) (.seq z71r3 .ret)))⟩
def z72r0:IC:=.reg [⟨some 4, none,.asg (.c (.bool false))⟩] [0,1] []
def z72r1:IC:=.reg [⟨some 5, none,.mv (.t 0)⟩,⟨some 6, none,.mv (.t 1)⟩,⟨some 7, none,.call zl73 [(.rd,(.t 5)),(.val,(.t 6))] false⟩,⟨some 8, none,.bin .geq (.t 7) (.c (vi 0))⟩,⟨some 4, none,.asg (.t 8)⟩] [4] []
def zi72:IFun:=⟨[.t 4],[],(.seq z72r0 (.seq z72r1 .ret))⟩
def z263r0:IC:=.reg [⟨some 3, none,.box (.t 1)⟩,⟨some 4, none,.asg (.c (.bool false))⟩] [0,3] []
def z263r1:IC:=.reg [⟨some 5, none,.mv (.t 0)⟩,⟨some 6, none,.load true 2 (.t 3)⟩,⟨some 7, none,.call zl269 [(.rd,(.t 5)),(.val,(.t 6))] true⟩,⟨some 8, none,.bin .geq (.t 7) (.c (vi 0))⟩,⟨some 4, none,.asg (.t 8)⟩] [4] []
def zi263:IFun:=⟨[.t 4],[],(.seq z263r0 (.seq z263r1 .ret))⟩
def z266r0:IC:=.reg [⟨some 4, none,.asg (.c (.slice none 0 0))⟩] [0,1] []
def z266r1:IC:=.reg [⟨some 8, none,.mvo 1 (.t 0)⟩,⟨some 9, none,.mv (.t 1)⟩,⟨some 10, none,.call zl449 [(.ld,(.t 8)),(.val,(.t 9))] false⟩,⟨some 5, none,.asg (.t 10)⟩] [0,1,5] []
def z266r2:IC:=.reg [⟨some 11, none,.mv (.t 5)⟩,⟨some 12, none,.bin .eql (.t 11) (.c (vi (-1)))⟩] [0,1,5,12] []
def z266r3:IC:=.reg [⟨some 13, none,.mv (.t 0)⟩,⟨some 4, none,.asgm (.t 13)⟩] [0,4] []
def z266r4:IC:=.reg [⟨some 14, none,.mv (.t 5)⟩,⟨some 15, none,.bin .add (.t 14) (.c (vi 1))⟩,⟨some 6, none,.asg (.t 15)⟩] [0,1,5,6] []
def z266r5:IC:=.reg [⟨some 16, none,.mv (.t 6)⟩,⟨some 17, none,.mv (.t 0)⟩,⟨some 18, none,.len (.t 17)⟩,⟨some 19, none,.bin .lss (.t 16) (.t 18)⟩] [0,1,5,6,19] []
def z266r6:IC:=.reg [⟨some 22, none,.mv (.t 0)⟩,⟨some 23, none,.mv (.t 6)⟩,⟨some 24, none,.iadr 1 (.t 22) (.t 23)⟩,⟨some 25, none,.load false 1 (.t 24)⟩,⟨some 7, none,.asg (.t 25)⟩] [0,1,5,6,7] []
def z266r7:IC:=.reg [⟨some 26, none,.mv (.t 1)⟩,⟨some 27, none,.mv (.t 7)⟩,⟨some 28, none,.callv (.t 26) [(.val,(.t 27))]⟩,⟨some 29, none,.unop .not (.t 28)⟩] [0,1,5,6,7,29] []
def z266r8:IC:=.reg [⟨some 30, none,.mv (.t 0)⟩,⟨some 31, none,.mv (.t 5)⟩,⟨some 32, none,.mv (.t 7)⟩,⟨some 33, none,.iadr 1 (.t 30) (.t 31)⟩,⟨none,none,.store 1 (.t 33) (.t 32)⟩] [0,1,5,6] []
def z266r9:IC:=.reg [⟨some 34, none,.mv (.t 5)⟩,⟨some 35, none,.bin .add (.t 34) (.c (vi 1))⟩,⟨some 5, none,.asg (.t 35)⟩] [0,1,5,6] []
def z266r10:IC:=.reg [⟨some 20, none,.mv (.t 6)⟩,⟨some 21, none,.bin .add (.t 20) (.c (vi 1))⟩,⟨some 6, none,.asg (.t 21)⟩] [0,1,5,6] []
def z266l11:IC:=(.seq (.seq z266r5 (.cond (.t 19) .skip (.exit 0))) (.seq (.block 1 (.seq z266r6 (.seq z266r7 (.cond (.t 29) (.seq z266r8 z266r9) .skip)))) z266r10))
def z266r12:IC:=.reg [⟨some 36, none,.mv (.t 0)⟩,⟨some 37, none,.mv (.t 5)⟩,⟨some 38, none,.slc 1 (.t 36) (some (.t 37)) none none⟩,⟨none,none,.clr (.t 38) [(vi 0)]⟩] [0,5] []
def z266r13:IC:=.reg [⟨some 39, none,.mv (.t 0)⟩,⟨some 40, none,.mv (.t 5)⟩,⟨some 41, none,.slc 1 (.t 39) none (some (.t 40)) none⟩,⟨some 4, none,.asgm (.t 41)⟩] [0,4] []
def zi266:IFun:=⟨[.t 4],[],(.seq z266r0 (.seq z266r1 (.seq (.seq z266r2 (.cond (.t 12) (.seq z266r3 .ret) .skip)) (.seq (.seq z266r4 (.block 0 (.loop z266l11))) (.seq z266r12 (.seq z266r13 .ret))))))⟩
def z267r0:IC:=.reg [⟨some 4, none,.asg (.c (.bool false))⟩] [0,1] []
def z267r1:IC:=.reg [⟨some 6, none,.mv (.t 0)⟩,⟨some 7, none,.len (.t 6)⟩,⟨some 8, none,.mv (.t 1)⟩,⟨some 9, none,.len (.t 8)⟩,⟨some 10, none,.bin .neq (.t 7) (.t 9)⟩] [0,1,10] []
def z267r2:IC:=.reg [⟨some 4, none,.asg (.c (.bool false))⟩] [4] []
def z267r3:IC:=.reg [⟨some 11, none,.mv (.t 0)⟩,⟨some 12, none,.len (.t 11)⟩,⟨some 13, none,.mv (.c (vi 0))⟩] [0,1,12,13] []
def z267r4:IC:=.reg [⟨some 14, none,.bin .lss (.t 13) (.t 12)⟩] [0,1,12,13,14] []
def z267r5:IC:=.reg [⟨some 15, none,.asg (.t 13)⟩,⟨some 5, none,.asg (.t 15)⟩] [0,1,5,12,13] []
def z267r6:IC:=.reg [⟨some 16, none,.mv (.t 0)⟩,⟨some 17, none,.mv (.t 5)⟩,⟨some 18, none,.iadr 1 (.t 16) (.t 17)⟩,⟨some 19, none,.load false 1 (.t 18)⟩,⟨some 20, none,.mv (.t 1)⟩,⟨some 21, none,.mv (.t 5)⟩,⟨some 22, none,.iadr 1 (.t 20) (.t 21)⟩,⟨some 23, none,.load false 1 (.t 22)⟩,⟨some 24, none,.bin .neq (.t 19) (.t 23)⟩] [0,1,12,13,24] []
def z267r7:IC:=.reg [⟨some 4, none,.asg (.c (.bool false))⟩] [4] []
def z267r8:IC:=.reg [⟨some 25, none,.bin .add (.t 13) (.c (vi 1))⟩,⟨some 13, none,.asg (.t 25)⟩] [0,1,12,13] []
def z267l9:IC:=(.seq z267r4 (.seq (.cond (.t 14) .skip (.exit 0)) (.seq (.block 1 (.seq z267r5 (.seq z267r6 (.cond (.t 24) (.seq z267r7 .ret) .skip)))) z267r8)))
def z267r10:IC:=.reg [⟨some 4, none,.asg (.c (.bool true))⟩] [4] []
def zi267:IFun:=⟨[.t 4],[],(.seq z267r0 (.seq (.seq z267r1 (.cond (.t 10) (.seq z267r2 .ret) .skip)) (.seq (.seq z267r3 (.block 0 (.loop z267l9))) (.seq z267r10 .ret))))⟩
def z73r0:IC:=.reg [⟨some 4, none,.asg (.c (vi 0))⟩] [0,1] []
def z73r1:IC:=.reg [⟨some 6, none,.mv (.t 0)⟩,⟨some 7, none,.len (.t 6)⟩,⟨some 8, none,.mv (.c (vi 0))⟩] [0,1,7,8] []
def z73r2:IC:=.reg [⟨some 9, none,.bin .lss (.t 8) (.t 7)⟩] [0,1,7,8,9] []
def z73r3:IC:=.reg [⟨some 10, none,.asg (.t 8)⟩,⟨some 5, none,.asg (.t 10)⟩] [0,1,5,7,8] []
def z73r4:IC:=.reg [⟨some 11, none,.mv (.t 1)⟩,⟨some 12, none,.mv (.t 0)⟩,⟨some 13, none,.mv (.t 5)⟩,⟨some 14, none,.iadr 1 (.t 12) (.t 13)⟩,⟨some 15, none,.load false 1 (.t 14)⟩,⟨some 16, none,.callv (.t 11) [(.val,(.t 15))]⟩] [0,1,5,7,8,16] []
def z73r5:IC:=.reg [⟨some 17, none,.mv (.t 5)⟩,⟨some 4, none,.asgm (.t 17)⟩] [4] []
def z73r6:IC:=.reg [⟨some 18, none,.bin .add (.t 8) (.c (vi 1))⟩,⟨some 8, none,.asg (.t 18)⟩] [0,1,7,8] []
def z73l7:IC:=(.seq z73r2 (.seq (.cond (.t 9) .skip (.exit 0)) (.seq (.block 1 (.seq z73r3 (.seq z73r4 (.cond (.t 16) (.seq z73r5 .ret) .skip)))) z73r6)))
def z73r8:IC:=.reg [⟨some 4, none,.asg (.c (vi (-1)))⟩] [4] []
def zi73:IFun:=⟨[.t 4],[],(.seq z73r0 (.seq (.seq z73r1 (.block 0 (.loop z73l7))) (.seq z73r8 .ret)))⟩
def z449r0:IC:=.reg [⟨some 4, none,.asg (.c (vi 0))⟩] [0,1] []
def z449r1:IC:=.reg [⟨some 6, none,.mv (.t 0)⟩,⟨some 7, none,.len (.t 6)⟩,⟨some 8, none,.mv (.c (vi 0))⟩] [0,1,7,8] []
def z449r2:IC:=.reg [⟨some 9, none,.bin .lss (.t 8) (.t 7)⟩] [0,1,7,8,9] []
def z449r3:IC:=.reg [⟨some 10, none,.asg (.t 8)⟩,⟨some 5, none,.asg (.t 10)⟩] [0,1,5,7,8] []
def z449r4:IC:=.reg [⟨some 11, none,.mv (.t 1)⟩,⟨some 12, none,.mv (.t 0)⟩,⟨some 13, none,.mv (.t 5)⟩,⟨some 14, none,.iadr 1 (.t 12) (.t 13)⟩,⟨some 15, none,.load false 1 (.t 14)⟩,⟨some 16, none,.callv (.t 11) [(.val,(.t 15))]⟩] [0,1,5,7,8,16] []
def z449r5:IC:=.reg [⟨some 17, none,.mv (.t 5)⟩,⟨some 4, none,.asgm (.t 17)⟩] [0,4] []
def z449r6:IC:=.reg [⟨some 18, none,.bin .add (.t 8) (.c (vi 1))⟩,⟨some 8, none,.asg (.t 18)⟩] [0,1,7,8] []
def z449l7:IC:=(.seq z449r2 (.seq (.cond (.t 9) .skip (.exit 0)) (.seq (.block 1 (.seq z449r3 (.seq z449r4 (.cond (.t 16) (.seq z449r5 .ret) .skip)))) z449r6)))
def z449r8:IC:=.reg [⟨some 4, none,.asg (.c (vi (-1)))⟩] [0,4] []
def zi449:IFun:=⟨[.t 4],[0],(.seq z449r0 (.seq (.seq z449r1 (.block 0 (.loop z449l7))) (.seq z449r8 .ret)))⟩
def z269r0:IC:=.reg [⟨some 3, none,.box (.t 1)⟩,⟨some 4, none,.asg (.c (vi 0))⟩] [0,3] []
def z269r1:IC:=.reg [⟨some 6, none,.mv (.t 0)⟩,⟨some 7, none,.len (.t 6)⟩,⟨some 8, none,.mv (.c (vi 0))⟩] [0,3,7,8] []
def z269r2:IC:=.reg [⟨some 9, none,.bin .lss (.t 8) (.t 7)⟩] [0,3,7,8,9] []
def z269r3:IC:=.reg [⟨some 10, none,.asg (.t 8)⟩,⟨some 5, none,.asg (.t 10)⟩] [0,3,5,7,8] []
def z269r4:IC:=.reg [⟨some 11, none,.load true 2 (.t 3)⟩,⟨some 12, none,.mv (.t 0)⟩,⟨some 13, none,.mv (.t 5)⟩,⟨some 14, none,.iadr 2 (.t 12) (.t 13)⟩,⟨some 15, none,.load true 2 (.t 14)⟩,⟨some 16, none,.eqa false 2 (.t 11) (.t 15)⟩] [0,3,5,7,8,16] []
def z269r5:IC:=.reg [⟨some 17, none,.mv (.t 5)⟩,⟨some 4, none,.asgm (.t 17)⟩] [4] []
def z269r6:IC:=.reg [⟨some 18, none,.bin .add (.t 8) (.c (vi 1))⟩,⟨some 8, none,.asg (.t 18)⟩] [0,3,7,8] []
def z269l7:IC:=(.seq z269r2 (.seq (.cond (.t 9) .skip (.exit 0)) (.seq (.block 1 (.seq z269r3 (.seq z269r4 (.cond (.t 16) (.seq z269r5 .ret) .skip)))) z269r6)))
def z269r8:IC:=.reg [⟨some 4, none,.asg (.c (vi (-1)))⟩] [4] []
def zi269:IFun:=⟨[.t 4],[],(.seq z269r0 (.seq (.seq z269r1 (.block 0 (.loop z269l7))) (.seq z269r8 .ret)))⟩
def z76r0:IC:=.reg [⟨some 4, none,.mv (.t 0)⟩,⟨some 5, none,.len (.t 4)⟩,⟨some 6, none,.bin .sub (.t 5) (.c (vi 1))⟩,⟨some 2, none,.asg (.c (vi 0))⟩,⟨some 3, none,.asg (.t 6)⟩] [0,2,3] []
def z76r1:IC:=.reg [⟨some 7, none,.mv (.t 2)⟩,⟨some 8, none,.mv (.t 3)⟩,⟨some 9, none,.bin .lss (.t 7) (.t 8)⟩] [0,2,3,9] []
def z76r2:IC:=.reg [⟨some 14, none,.mv (.t 0)⟩,⟨some 15, none,.mv (.t 2)⟩,⟨some 16, none,.mv (.t 0)⟩,⟨some 17, none,.mv (.t 3)⟩,⟨some 18, none,.mv (.t 0)⟩,⟨some 19, none,.mv (.t 3)⟩,⟨some 20, none,.iadr 1 (.t 18) (.t 19)⟩,⟨some 21, none,.load false 1 (.t 20)⟩,⟨some 22, none,.mv (.t 0)⟩,⟨some 23, none,.mv (.t 2)⟩,⟨some 24, none,.iadr 1 (.t 22) (.t 23)⟩,⟨some 25, none,.load false 1 (.t 24)⟩,⟨some 26, none,.iadr 1 (.t 14) (.t 15)⟩,⟨none,none,.store 1 (.t 26) (.t 21)⟩,⟨some 27, none,.iadr 1 (.t 16) (.t 17)⟩,⟨none,none,.store 1 (.t 27) (.t 25)⟩] [0,2,3] []
def z76r3:IC:=.reg [⟨some 10, none,.mv (.t 2)⟩,⟨some 11, none,.bin .add (.t 10) (.c (vi 1))⟩,⟨some 12, none,.mv (.t 3)⟩,⟨some 13, none,.bin .sub (.t 12) (.c (vi 1))⟩,⟨some 2, none,.asg (.t 11)⟩,⟨some 3, none,.asg (.t 13)⟩] [0,2,3] []
def z76l4:IC:=(.seq (.seq z76r1 (.cond (.t 9) .skip (.exit 0))) (.seq (.block 1 z76r2) z76r3))
def zi76:IFun:=⟨[],[0],(.seq z76r0 (.block 0 (.loop z76l4)))⟩
def z78r0:IC:=.reg [⟨some 3, none,.mv (.t 0)⟩,⟨some 4, none,.len (.t 3)⟩,⟨some 2, none,.asg (.t 4)⟩] [0,2] []
def z78r1:IC:=.reg [⟨some 5, none,.mv (.t 0)⟩,⟨some 6, none,.mv (.t 2)⟩,⟨some 7, none,.mv (.t 2)⟩,⟨some 8, none,.conv .u64 (.t 7)⟩,⟨some 9, none,.call zl66 [(.val,(.t 8))] true⟩,⟨some 10, none,.call zl101 [(.ld,(.t 5)),(.val,(.c (vi 0))),(.val,(.t 6)),(.val,(.t 9))] false⟩] [0] []
def zi78:IFun:=⟨[],[0],(.seq z78r0 z78r1)⟩
def z86r0:IC:=.reg [⟨some 8, none,.mv (.t 1)⟩,⟨some 9, none,.bin .add (.t 8) (.c (vi 1))⟩,⟨some 6, none,.asg (.t 9)⟩] [0,1,2,6] []
def z86r1:IC:=.reg [⟨some 10, none,.mv (.t 6)⟩,⟨some 11, none,.mv (.t 2)⟩,⟨some 12, none,.bin .lss (.t 10) (.t 11)⟩] [0,1,2,6,12] []
def z86r2:IC:=.reg [⟨some 15, none,.mv (.t 6)⟩,⟨some 7, none,.asg (.t 15)⟩] [0,1,2,6,7] []
def z86r3:IC:=.reg [⟨some 16, none,.mv (.t 7)⟩,⟨some 17, none,.mv (.t 1)⟩,⟨some 18, none,.bin .gtr (.t 16) (.t 17)⟩,⟨some 19, none,.asg (.t 18)⟩,⟨some 20, (some (19,true)),.mv (.t 0)⟩,⟨some 21, (some (19,true)),.mv (.t 7)⟩,⟨some 22, (some (19,true)),.iadr 1 (.t 20) (.t 21)⟩,⟨some 23, (some (19,true)),.load false 1 (.t 22)⟩,⟨some 24, (some (19,true)),.mv (.t 0)⟩,⟨some 25, (some (19,true)),.mv (.t 7)⟩,⟨some 26, (some (19,true)),.bin .sub (.t 25) (.c (vi 1))⟩,⟨some 27, (some (19,true)),.iadr 1 (.t 24) (.t 26)⟩,⟨some 28, (some (19,true)),.load false 1 (.t 27)⟩,⟨some 29, (some (19,true)),.call zl2 [(.val,(.t 23)),(.val,(.t 28))] true⟩,⟨some 30, none,.pick (.t 19) (.t 29) (.c (.bool false))⟩] [0,1,2,6,7,30] []
def z86r4:IC:=.reg [⟨some 33, none,.mv (.t 0)⟩,⟨some 34, none,.mv (.t 7)⟩,⟨some 35, none,.mv (.t 0)⟩,⟨some 36, none,.mv (.t 7)⟩,⟨some 37, none,.bin .sub (.t 36) (.c (vi 1))⟩,⟨some 38, none,.mv (.t 0)⟩,⟨some 39, none,.mv (.t 7)⟩,⟨some 40, none,.bin .sub (.t 39) (.c (vi 1))⟩,⟨some 41, none,.iadr 1 (.t 38) (.t 40)⟩,⟨some 42, none,.load false 1 (.t 41)⟩,⟨some 43, none,.mv (.t 0)⟩,⟨some 44, none,.mv (.t 7)⟩,⟨some 45, none,.iadr 1 (.t 43) (.t 44)⟩,⟨some 46, none,.load false 1 (.t 45)⟩,⟨some 47, none,.iadr 1 (.t 33) (.t 34)⟩,⟨none,none,.store 1 (.t 47) (.t 42)⟩,⟨some 48, none,.iadr 1 (.t 35) (.t 37)⟩,⟨none,none,.store 1 (.t 48) (.t 46)⟩] [0,1,2,6,7] []
def z86r5:IC:=.reg [⟨some 31, none,.mv (.t 7)⟩,⟨some 32, none,.bin .sub (.t 31) (.c (vi 1))⟩,⟨some 7, none,.asg (.t 32)⟩] [0,1,2,6,7] []
def z86l6:IC:=(.seq (.seq z86r3 (.cond (.t 30) .skip (.exit 2))) (.seq (.block 3 z86r4) z86r5))
def z86r7:IC:=.reg [⟨some 13, none,.mv (.t 6)⟩,⟨some 14, none,.bin .add (.t 13) (.c (vi 1))⟩,⟨some 6, none,.asg (.t 14)⟩] [0,1,2,6] []
def z86l8:IC:=(.seq (.seq z86r1 (.cond (.t 12) .skip (.exit 0))) (.seq (.block 1 (.seq z86r2 (.block 2 (.loop z86l6)))) z86r7))
def zi86:IFun:=⟨[],[0],(.seq z86r0 (.block 0 (.loop z86l8)))⟩
def z101r0:IC:=.reg [⟨some 8, none,.asg (.c (.bool true))⟩] [0,1,2,3,8] []
def z101r1:IC:=.reg [⟨some 9, none,.asg (.c (.bool true))⟩] [0,1,2,3,8,9] []
def z101r2:IC:=.reg [⟨some 19, none,.mv (.t 2)⟩,⟨some 20, none,.mv (.t 1)⟩,⟨some 21, none,.bin .sub (.t 19) (.t 20)⟩,⟨some 10, none,.asg (.t 21)⟩] [0,1,2,3,8,9,10] []
def z101r3:IC:=.reg [⟨some 22, none,.mv (.t 10)⟩,⟨some 23, none,.bin .leq (.t 22) (.c (vi 12))⟩] [0,1,2,3,8,9,10,23] []
def z101r4:IC:=.reg [⟨some 24, none,.mv (.t 0)⟩,⟨some 25, none,.mv (.t 1)⟩,⟨some 26, none,.mv (.t 2)⟩,⟨some 27, none,.call zl86 [(.ld,(.t 24)),(.val,(.t 25)),(.val,(.t 26))] false⟩] [0] []
def z101r5:IC:=.reg [⟨some 28, none,.mv (.t 3)⟩,⟨some 29, none,.bin .eql (.t 28) (.c (vi 0))⟩] [0,1,2,3,8,9,10,29] []
def z101r6:IC:=.reg [⟨some 30, none,.mv (.t 0)⟩,⟨some 31, none,.mv (.t 1)⟩,⟨some 32, none,.mv (.t 2)⟩,⟨some 33, none,.call zl84 [(.ld,(.t 30)),(.val,(.t 31)),(.val,(.t 32))] false⟩] [0] []
def z101r7:IC:=.reg [⟨some 34, none,.mv (.t 8)⟩,⟨some 35, none,.unop .not (.t 34)⟩] [0,1,2,3,8,9,10,35] []
def z101r8:IC:=.reg [⟨some 36, none,.mv (.t 0)⟩,⟨some 37, none,.mv (.t 1)⟩,⟨some 38, none,.mv (.t 2)⟩,⟨some 39, none,.call zl80 [(.ld,(.t 36)),(.val,(.t 37)),(.val,(.t 38))] false⟩] [0,1,2,3,8,9,10] []
def z101r9:IC:=.reg [⟨some 40, none,.mv (.t 3)⟩,⟨some 41, none,.bin .sub (.t 40) (.c (vi 1))⟩,⟨some 3, none,.asg (.t 41)⟩] [0,1,2,3,8,9,10] []
def z101r10:IC:=.reg [⟨some 43, none,.mv (.t 0)⟩,⟨some 44, none,.mv (.t 1)⟩,⟨some 45, none,.mv (.t 2)⟩,⟨some 46, none,.call zl82 [(.rd,(.t 43)),(.val,(.t 44)),(.val,(.t 45))] true⟩,⟨some 42, none,.asg (.t 46)⟩,⟨some 47, none,.extr (.t 42) 0⟩,⟨some 48, none,.extr (.t 42) 1⟩,⟨some 11, none,.asg (.t 47)⟩,⟨some 12, none,.asg (.t 48)⟩] [0,1,2,3,8,9,10,11,12] []
def z101r11:IC:=.reg [⟨some 49, none,.mv (.t 12)⟩,⟨some 50, none,.bin .eql (.t 49) (.c (vi 2))⟩] [0,1,2,3,8,9,10,11,12,50] []
def z101r12:IC:=.reg [⟨some 51, none,.mv (.t 0)⟩,⟨some 52, none,.mv (.t 1)⟩,⟨some 53, none,.mv (.t 2)⟩,⟨some 54, none,.call zl103 [(.ld,(.t 51)),(.val,(.t 52)),(.val,(.t 53))] false⟩] [0,1,2,3,8,9,10,11] []
def z101r13:IC:=.reg [⟨some 55, none,.mv (.t 2)⟩,⟨some 56, none,.bin .sub (.t 55) (.c (vi 1))⟩,⟨some 57, none,.mv (.t 11)⟩,⟨some 58, none,.mv (.t 1)⟩,⟨some 59, none,.bin .sub (.t 57) (.t 58)⟩,⟨some 60, none,.bin .sub (.t 56) (.t 59)⟩,⟨some 11, none,.asg (.t 60)⟩] [0,1,2,3,8,9,10,11] []
def z101r14:IC:=.reg [⟨some 12, none,.asg (.c (vi 1))⟩] [0,1,2,3,8,9,10,11,12] []
def z101r15:IC:=.reg [⟨some 61, none,.mv (.t 8)⟩,⟨some 62, none,.asg (.t 61)⟩,⟨some 63, (some (62,true)),.mv (.t 9)⟩,⟨some 64, none,.pick (.t 62) (.t 63) (.c (.bool false))⟩,⟨some 65, none,.asg (.t 64)⟩,⟨some 66, (some (65,true)),.mv (.t 12)⟩,⟨some 67, (some (65,true)),.bin .eql (.t 66) (.c (vi 1))⟩,⟨some 68, none,.pick (.t 65) (.t 67) (.c (.bool false))⟩] [0,1,2,3,8,9,10,11,68] []
def z101r16:IC:=.reg [⟨some 69, none,.mv (.t 0)⟩,⟨some 70, none,.mv (.t 1)⟩,⟨some 71, none,.mv (.t 2)⟩,⟨some 72, none,.call zl95 [(.ld,(.t 69)),(.val,(.t 70)),(.val,(.t 71))] false⟩] [0,1,2,3,8,9,10,11,72] []
def z101r17:IC:=.reg [⟨some 73, none,.mv (.t 1)⟩,⟨some 74, none,.bin .gtr (.t 73) (.c (vi 0))⟩,⟨some 75, none,.asg (.t 74)⟩,⟨some 76, (some (75,true)),.mv (.t 0)⟩,⟨some 77, (some (75,true)),.mv (.t 1)⟩,⟨some 78, (some (75,true)),.bin .sub (.t 77) (.c (vi 1))⟩,⟨some 79, (some (75,true)),.iadr 1 (.t 76) (.t 78)⟩,⟨some 80, (some (75,true)),.load false 1 (.t 79)⟩,⟨some 81, (some (75,true)),.mv (.t 0)⟩,⟨some 82, (some (75,true)),.mv (.t 11)⟩,⟨some 83, (some (75,true)),.iadr 1 (.t 81) (.t 82)⟩,⟨some 84, (some (75,true)),.load false 1 (.t 83)⟩,⟨some 85, (some (75,true)),.call zl2 [(.val,(.t 80)),(.val,(.t 84))] true⟩,⟨some 86, (some (75,true)),.unop .not (.t 85)⟩,⟨some 87, none,.pick (.t 75) (.t 86) (.c (.bool false))⟩] [0,1,2,3,8,9,10,11,87] []
def z101r18:IC:=.reg [⟨some 88, none,.mv (.t 0)⟩,⟨some 89, none,.mv (.t 1)⟩,⟨some 90, none,.mv (.t 2)⟩,⟨some 91, none,.mv (.t 11)⟩,⟨some 92, none,.call zl98 [(.ld,(.t 88)),(.val,(.t 89)),(.val,(.t 90)),(.val,(.t 91))] false⟩,⟨some 13, none,.asg (.t 92)⟩] [0,2,3,8,9,13] []
def z101r19:IC:=.reg [⟨some 93, none,.mv (.t 13)⟩,⟨some 1, none,.asgm (.t 93)⟩] [0,1,2,3,8,9] []
def z101r20:IC:=.reg [⟨some 95, none,.mv (.t 0)⟩,⟨some 96, none,.mv (.t 1)⟩,⟨some 97, none,.mv (.t 2)⟩,⟨some 98, none,.mv (.t 11)⟩,⟨some 99, none,.call zl99 [(.ld,(.t 95)),(.val,(.t 96)),(.val,(.t 97)),(.val,(.t 98))] false⟩,⟨some 94, none,.asg (.t 99)⟩,⟨some 100, none,.extr (.t 94) 0⟩,⟨some 101, none,.extr (.t 94) 1⟩,⟨some 14, none,.asg (.t 100)⟩,⟨some 15, none,.asg (.t 101)⟩] [0,1,2,3,10,14,15] []
def z101r21:IC:=.reg [⟨some 102, none,.mv (.t 15)⟩,⟨some 9, none,.asgm (.t 102)⟩] [0,1,2,3,9,10,14] []
def z101r22:IC:=.reg [⟨some 103, none,.mv (.t 14)⟩,⟨some 104, none,.mv (.t 1)⟩,⟨some 105, none,.bin .sub (.t 103) (.t 104)⟩,⟨some 106, none,.mv (.t 2)⟩,⟨some 107, none,.mv (.t 14)⟩,⟨some 108, none,.bin .sub (.t 106) (.t 107)⟩,⟨some 16, none,.asg (.t 105)⟩,⟨some 17, none,.asg (.t 108)⟩] [0,1,2,3,9,10,14,16,17] []
def z101r23:IC:=.reg [⟨some 109, none,.mv (.t 10)⟩,⟨some 110, none,.bin .quo (.t 109) (.c (vi 8))⟩,⟨some 18, none,.asg (.t 110)⟩] [0,1,2,3,9,14,16,17,18] []
def z101r24:IC:=.reg [⟨some 111, none,.mv (.t 16)⟩,⟨some 112, none,.mv (.t 17)⟩,⟨some 113, none,.bin .lss (.t 111) (.t 112)⟩] [0,1,2,3,9,14,16,17,18,113] []
def z101r25:IC:=.reg [⟨some 114, none,.mv (.t 16)⟩,⟨some 115, none,.mv (.t 18)⟩,⟨some 116, none,.bin .geq (.t 114) (.t 115)⟩,⟨some 8, none,.asg (.t 116)⟩] [0,1,2,3,8,9,14] []
def z101r26:IC:=.reg [⟨some 117, none,.mv (.t 0)⟩,⟨some 118, none,.mv (.t 1)⟩,⟨some 119, none,.mv (.t 14)⟩,⟨some 120, none,.mv (.t 3)⟩,⟨some 121, none,.call zl101 [(.ld,(.t 117)),(.val,(.t 118)),(.val,(.t 119)),(.val,(.t 120))] false⟩] [0,2,3,8,9,14] []
def z101r27:IC:=.reg [⟨some 122, none,.mv (.t 14)⟩,⟨some 123, none,.bin .add (.t 122) (.c (vi 1))⟩,⟨some 1, none,.asg (.t 123)⟩] [0,1,2,3,8,9] []
def z101r28:IC:=.reg [⟨some 124, none,.mv (.t 17)⟩,⟨some 125, none,.mv (.t 18)⟩,⟨some 126, none,.bin .geq (.t 124) (.t 125)⟩,⟨some 8, none,.asg (.t 126)⟩] [0,1,2,3,8,9,14] []
def z101r29:IC:=.reg [⟨some 127, none,.mv (.t 0)⟩,⟨some 128, none,.mv (.t 14)⟩,⟨some 129, none,.bin .add (.t 128) (.c (vi 1))⟩,⟨some 130, none,.mv (.t 2)⟩,⟨some 131, none,.mv (.t 3)⟩,⟨some 132, none,.call zl101 [(.ld,(.t 127)),(.val,(.t 129)),(.val,(.t 130)),(.val,(.t 131))] false⟩] [0,1,3,8,9,14] []
def z101r30:IC:=.reg [⟨some 133, none,.mv (.t 14)⟩,⟨some 2, none,.asgm (.t 133)⟩] [0,1,2,3,8,9] []
def z101l31:IC:=(.block 1 (.seq z101r2 (.seq (.seq z101r3 (.cond (.t 23) (.seq z101r4 .ret) .skip)) (.seq (.seq z101r5 (.cond (.t 29) (.seq z101r6 .ret) .skip)) (.seq (.seq z101r7 (.cond (.t 35) (.seq z101r8 z101r9) .skip)) (.seq z101r10 (.seq (.seq z101r11 (.cond (.t 50) (.seq z101r12 (.seq z101r13 z101r14)) .skip)) (.seq (.seq z101r15 (.cond (.t 68) (.seq z101r16 (.cond (.t 72) .ret .skip)) .skip)) (.seq (.seq z101r17 (.cond (.t 87) (.seq z101r18 (.seq z101r19 (.exit 1))) .skip)) (.seq z101r20 (.seq z101r21 (.seq z101r22 (.seq z101r23 (.seq z101r24 (.cond (.t 113) (.seq z101r25 (.seq z101r26 z101r27)) (.seq z101r28 (.seq z101r29 z101r30)))))))))))))))))
def zi101:IFun:=⟨[],[0],(.seq z101r0 (.seq z101r1 (.block 0 (.loop z101l31))))⟩
def z481r0:IC:=.reg [⟨some 1, none,.box (.t 0)⟩,⟨some 2, none,.asg (.c (.string ByteArray.empty))⟩,⟨some 3, none,.asg (.c (.slice none 0 0))⟩,⟨some 4, none,.asg (.c (.bool false))⟩] [1] []
def z481r1:IC:=.reg [⟨some 5, none,.load true 2 (.t 1)⟩,⟨some 6, none,.call zl145 [(.rd,(.t 5))] true⟩,⟨some 7, none,.unop .not (.t 6)⟩,⟨some 8, none,.asg (.t 7)⟩,⟨some 9, (some (8,false)),.fadr 0 (.t 1)⟩,⟨some 10, (some (8,false)),.load false 1 (.t 9)⟩,⟨some 11, (some (8,false)),.bin .eql (.t 10) (.c (vi 0))⟩,⟨some 12, none,.pick (.t 8) (.c (.bool true)) (.t 11)⟩] [1,12] []
def z481r2:IC:=.reg [⟨some 2, none,.asg (.c (.string ByteArray.empty))⟩,⟨some 3, none,.asg (.c (.slice none 0 0))⟩,⟨some 4, none,.asg (.c (.bool false))⟩] [2,3,4] []
def z481r3:IC:=.reg [⟨some 13, none,.load true 2 (.t 1)⟩,⟨some 14, none,.call zl340 [(.rd,(.t 13))] true⟩,⟨some 15, none,.extr (.t 14) 0⟩,⟨some 16, none,.extr (.t 14) 1⟩,⟨some 17, none,.extr (.t 14) 2⟩,⟨some 2, none,.asg (.t 15)⟩,⟨some 3, none,.asg (.t 16)⟩,⟨some 4, none,.asg (.t 17)⟩] [2,3,4] []
def zi481:IFun:=⟨[.t 2,.t 3,.t 4],[],(.seq z481r0 (.seq (.seq z481r1 (.cond (.t 12) (.seq z481r2 .ret) .skip)) (.seq z481r3 .ret)))⟩
def z299r0:IC:=.reg [⟨some 2, none,.alloc [(vi 0),(.slice none 0 0)]⟩] [0,2] []
def z299r1:IC:=.reg [⟨some 4, none,.mv (.t 0)⟩,⟨some 5, none,.call zl137 [(.rd,(.t 4))] false⟩,⟨some 3, none,.asg (.t 5)⟩] [2,3] []
def z299r2:IC:=.reg [⟨some 6, none,.mv (.t 3)⟩,⟨some 7, none,.call zl140 [(.val,(.t 6)),(.val,(.c (vi 3)))] false⟩,⟨some 8, none,.bin .eql (.t 7) (.c (vi 0))⟩] [2,3,8] []
def z299r3:IC:=.reg [⟨some 9, none,.mv (.t 3)⟩,⟨some 10, none,.call zl378 [(.val,(.t 9))] false⟩,⟨none,none,.storef 2 (.t 2) (.t 10)⟩] [2] []
def z299r4:IC:=.reg [⟨some 11, none,.mv (.t 3)⟩,⟨some 12, none,.mv (.t 3)⟩,⟨some 13, none,.call zl330 [(.val,(.t 12))] false⟩,⟨some 14, none,.call zl339 [(.val,(.t 13))] true⟩,⟨some 15, none,.call zl363 [(.val,(.t 11)),(.rd,(.t 14))] false⟩,⟨none,none,.storef 2 (.t 2) (.t 15)⟩] [2] []
def zi299:IFun:=⟨[.c 2 2 true],[],(.seq z299r0 (.seq z299r1 (.seq (.seq z299r2 (.cond (.t 8) (.seq z299r3 .ret) .skip)) (.seq z299r4 .ret))))⟩
def z330r0:IC:=.reg [⟨some 2, none,.asg (.c (.string ByteArray.empty))⟩] [0] []
def z330r1:IC:=.reg [⟨some 3, none,.asg (.c (.string ⟨#[105]⟩))⟩] [0,3] []
def z330r2:IC:=.reg [⟨some 5, none,.mv (.t 0)⟩,⟨some 6, none,.bsl 1 [(vi 0)] 7 [(0,(.c (vi 4))),(1,(.c (vi 3))),(2,(.c (vi 5))),(3,(.c (vi 2))),(4,(.c (vi 1))),(5,(.c (vi 0))),(6,(.c (vi 6)))]⟩,⟨some 7, none,.call zl139 [(.val,(.t 5)),(.rd,(.t 6))] false⟩,⟨some 4, none,.asg (.t 7)⟩] [0,3,4] []
def z330r3:IC:=.reg [⟨some 8, none,.mv (.t 4)⟩,⟨some 9, none,.bin .gtr (.t 8) (.c (vi 0))⟩] [0,3,4,9] []
def z330r4:IC:=.reg [⟨some 12, none,.mv (.t 3)⟩,⟨some 13, none,.mv (.t 0)⟩,⟨some 14, none,.bsl 1 [(.string ByteArray.empty)] 2 [(0,(.c (.string ⟨#[105]⟩))),(1,(.c (.string ⟨#[100]⟩)))]⟩,⟨some 15, none,.call zl368 [(.val,(.t 13)),(.rd,(.t 14))] false⟩,⟨some 16, none,.bin .add (.t 12) (.t 15)⟩,⟨some 3, none,.asg (.t 16)⟩] [0,3,4] []
def z330r5:IC:=.reg [⟨some 10, none,.mv (.t 4)⟩,⟨some 11, none,.bin .sub (.t 10) (.c (vi 1))⟩,⟨some 4, none,.asg (.t 11)⟩] [0,3,4] []
def z330l6:IC:=(.seq (.seq z330r3 (.cond (.t 9) .skip (.exit 0))) (.seq (.block 1 z330r4) z330r5))
def z330r7:IC:=.reg [⟨some 17, none,.mv (.t 3)⟩,⟨some 2, none,.asgm (.t 17)⟩] [2] []
def zi330:IFun:=⟨[.t 2],[],(.seq z330r0 (.seq z330r1 (.seq (.seq z330r2 (.block 0 (.loop z330l6))) (.seq z330r7 .ret))))⟩
def z118r0:IC:=.reg [⟨some 4, none,.alloc [(vi 0),(.slice none 0 0)]⟩] [0,1,4] []
def z118r1:IC:=.reg [⟨some 9, none,.mv (.t 1)⟩,⟨some 10, none,.bsl 2 [(vi 0),(vi 0)] 0 []⟩,⟨some 11, none,.build [(vi 0),(.slice none 0 0)] [(0,1,(.t 9)),(1,1,(.t 10))]⟩,⟨some 5, none,.alloc [(vi 0),(.slice none 0 0)]⟩,⟨none,none,.store 2 (.t 5) (.t 11)⟩] [0,1,4,5] []
def z118r2:IC:=.reg [⟨some 12, none,.mv (.t 1)⟩,⟨some 13, none,.call zl138 [(.val,(.t 12))] true⟩,⟨some 6, none,.asg (.t 13)⟩] [0,4,5,6] []
def z118r3:IC:=.reg [⟨some 14, none,.mv (.t 0)⟩,⟨some 15, none,.call zl140 [(.val,(.t 14)),(.val,(.c (vi 3)))] false⟩,⟨some 16, none,.bin .add (.c (vi 2)) (.t 15)⟩,⟨some 7, none,.asg (.t 16)⟩] [0,4,5,6,7] []
def z118r4:IC:=.reg [⟨some 8, none,.asg (.c (vi 0))⟩] [0,4,5,6,7,8] []
def z118r5:IC:=.reg [⟨some 17, none,.mv (.t 8)⟩,⟨some 18, none,.mv (.t 6)⟩,⟨some 19, none,.len (.t 18)⟩,⟨some 20, none,.bin .lss (.t 17) (.t 19)⟩] [0,4,5,6,7,8,20] []
def z118r6:IC:=.reg [⟨some 23, none,.mv (.t 0)⟩,⟨some 24, none,.mv (.t 7)⟩,⟨some 25, none,.call zl140 [(.val,(.t 23)),(.val,(.t 24))] false⟩,⟨some 26, none,.bin .eql (.t 25) (.c (vi 0))⟩] [0,4,5,6,7,8,26] []
def z118r7:IC:=.reg [⟨some 27, none,.fadr 1 (.t 5)⟩,⟨some 28, none,.load false 1 (.t 27)⟩,⟨some 29, none,.mv (.t 6)⟩,⟨some 30, none,.mv (.t 8)⟩,⟨some 31, none,.iadr 2 (.t 29) (.t 30)⟩,⟨some 32, none,.load true 2 (.t 31)⟩,⟨some 33, none,.bsl 2 [(vi 0),(vi 0)] 1 [(0,(.t 32))]⟩,⟨some 34, none,.app 2 (.t 28) (.t 33)⟩,⟨some 35, none,.fadr 1 (.t 5)⟩,⟨none,none,.store 1 (.t 35) (.t 34)⟩] [0,4,5,6,7,8] [[0,2,3,4,5,6,1,7,8,9]]
def z118r8:IC:=.reg [⟨some 21, none,.mv (.t 8)⟩,⟨some 22, none,.bin .add (.t 21) (.c (vi 1))⟩,⟨some 8, none,.asg (.t 22)⟩] [0,4,5,6,7,8] []
def z118l9:IC:=(.seq (.seq z118r5 (.cond (.t 20) .skip (.exit 0))) (.seq (.block 1 (.seq z118r6 (.cond (.t 26) z118r7 .skip))) z118r8))
def z118r10:IC:=.reg [⟨some 36, none,.mv (.t 0)⟩,⟨some 37, none,.call zl140 [(.val,(.t 36)),(.val,(.c (vi 4)))] false⟩,⟨some 38, none,.bin .eql (.t 37) (.c (vi 0))⟩] [4,5,38] []
def z118r11:IC:=.reg [⟨some 39, none,.load true 2 (.t 5)⟩,⟨some 40, none,.call zl122 [(.rd,(.t 39))] true⟩,⟨none,none,.store 2 (.t 4) (.t 40)⟩] [4] []
def z118r12:IC:=.reg [⟨some 41, none,.load true 2 (.t 5)⟩,⟨none,none,.store 2 (.t 4) (.t 41)⟩] [4] []
def zi118:IFun:=⟨[.c 4 2 true],[],(.seq z118r0 (.seq z118r1 (.seq z118r2 (.seq z118r3 (.seq (.seq z118r4 (.block 0 (.loop z118l9))) (.seq (.seq z118r10 (.cond (.t 38) (.seq z118r11 .ret) .skip)) (.seq z118r12 .ret)))))))⟩
def z335r0:IC:=.reg [⟨some 3, none,.box (.t 0)⟩,⟨some 6, none,.alloc [(vi 0),(.slice none 0 0)]⟩] [1,2,3,6] []
def z335r1:IC:=.reg [⟨some 10, none,.mv (.t 1)⟩,⟨some 11, none,.mv (.t 2)⟩,⟨some 12, none,.minmax true (.t 10) (.t 11)⟩,⟨some 13, none,.mv (.t 1)⟩,⟨some 14, none,.mv (.t 2)⟩,⟨some 15, none,.minmax false (.t 13) (.t 14)⟩,⟨some 16, none,.build [(vi 0),(vi 0)] [(0,1,(.t 12)),(1,1,(.t 15))]⟩,⟨some 7, none,.alloc [(vi 0),(vi 0)]⟩,⟨none,none,.store 2 (.t 7) (.t 16)⟩] [3,6,7] []
def z335r2:IC:=.reg [⟨some 8, none,.asg (.c (vi 0))⟩] [3,6,7,8] []
def z335r3:IC:=.reg [⟨some 17, none,.mv (.t 8)⟩,⟨some 18, none,.fadr 1 (.t 3)⟩,⟨some 19, none,.load false 1 (.t 18)⟩,⟨some 20, none,.len (.t 19)⟩,⟨some 21, none,.bin .lss (.t 17) (.t 20)⟩,⟨some 22, none,.asg (.t 21)⟩,⟨some 23, (some (22,true)),.fadr 1 (.t 3)⟩,⟨some 24, (some (22,true)),.load false 1 (.t 23)⟩,⟨some 25, (some (22,true)),.mv (.t 8)⟩,⟨some 26, (some (22,true)),.iadr 2 (.t 24) (.t 25)⟩,⟨some 27, (some (22,true)),.load true 2 (.t 26)⟩,⟨some 28, (some (22,true)),.load true 2 (.t 7)⟩,⟨some 29, (some (22,true)),.call zl126 [(.val,(.t 27)),(.val,(.t 28))] true⟩,⟨some 30, none,.pick (.t 22) (.t 29) (.c (.bool false))⟩] [3,6,7,8,30] []
def z335r4:IC:=.reg [⟨some 31, none,.mv (.t 8)⟩,⟨some 32, none,.bin .add (.t 31) (.c (vi 1))⟩,⟨some 8, none,.asg (.t 32)⟩] [3,6,7,8] []
def z335l5:IC:=(.seq (.seq z335r3 (.cond (.t 30) .skip (.exit 0))) (.block 1 z335r4))
def z335r6:IC:=.reg [⟨some 33, none,.bsl 2 [(vi 0),(vi 0)] 0 []⟩,⟨some 34, none,.fadr 1 (.t 3)⟩,⟨some 35, none,.load false 1 (.t 34)⟩,⟨some 36, none,.mv (.t 8)⟩,⟨some 37, none,.slc 2 (.t 35) none (some (.t 36)) none⟩,⟨some 38, none,.app 2 (.t 33) (.t 37)⟩,⟨some 9, none,.asg (.t 38)⟩] [3,6,7,8,9] []
def z335r7:IC:=.reg [⟨some 39, none,.fadr 0 (.t 3)⟩,⟨some 40, none,.load false 1 (.t 39)⟩,⟨some 41, none,.mv (.t 9)⟩,⟨some 42, none,.load true 2 (.t 7)⟩,⟨some 43, none,.bsl 2 [(vi 0),(vi 0)] 1 [(0,(.t 42))]⟩,⟨some 44, none,.app 2 (.t 41) (.t 43)⟩,⟨some 45, none,.fadr 1 (.t 3)⟩,⟨some 46, none,.load false 1 (.t 45)⟩,⟨some 47, none,.mv (.t 8)⟩,⟨some 48, none,.slc 2 (.t 46) (some (.t 47)) none none⟩,⟨some 49, none,.app 2 (.t 44) (.t 48)⟩,⟨some 50, none,.build [(vi 0),(.slice none 0 0)] [(0,1,(.t 40)),(1,1,(.t 49))]⟩,
    ⟨none,none,.store 2 (.t 6) (.t 50)⟩] [6] [[0,1,2,3,4,6,7,5,8,9,10,11,12],[0,1,2,3,6,7,4,5,8,9,10,11,12],[0,2,3,4,1,5,6,7,8,9,10,11,12],[0,2,3,4,1,6,7,5,8,9,10,11,12],[0,2,3,6,7,4,1,5,8,9,10,11,12],[0,2,3,4,5,1,6,7,8,9,10,11,12],[0,2,3,4,5,6,7,8,9,10,1,11,12],[0,2,3,4,6,7,5,1,8,9,10,11,12],[0,2,3,4,6,7,5,8,9,10,1,11,12],[0,2,3,6,7,4,5,1,8,9,10,11,12],[0,2,3,6,7,4,5,8,9,10,1,11,12]]
def zi335:IFun:=⟨[.c 6 2 true],[],(.seq z335r0 (.seq z335r1 (.seq z335r2 (.seq (.block 0 (.loop z335l5)) (.seq z335r6 (.seq z335r7 .ret))))))⟩
def z339r0:IC:=.reg [⟨some 2, none,.alloc [(vi 0),(.slice none 0 0)]⟩] [0,2] []
def z339r1:IC:=.reg [⟨some 6, none,.mv (.t 0)⟩,⟨some 7, none,.lens (.t 6)⟩,⟨some 8, none,.bsl 2 [(vi 0),(vi 0)] 0 []⟩,⟨some 9, none,.build [(vi 0),(.slice none 0 0)] [(0,1,(.t 7)),(1,1,(.t 8))]⟩,⟨some 3, none,.alloc [(vi 0),(.slice none 0 0)]⟩,⟨none,none,.store 2 (.t 3) (.t 9)⟩] [0,2,3] []
def z339r2:IC:=.reg [⟨some 10, none,.mv (.t 0)⟩,⟨some 11, none,.lens (.t 10)⟩,⟨some 12, none,.call zl138 [(.val,(.t 11))] true⟩,⟨some 4, none,.asg (.t 12)⟩] [0,2,3,4] []
def z339r3:IC:=.reg [⟨some 5, none,.asg (.c (vi 0))⟩] [0,2,3,4,5] []
def z339r4:IC:=.reg [⟨some 13, none,.mv (.t 5)⟩,⟨some 14, none,.mv (.t 4)⟩,⟨some 15, none,.len (.t 14)⟩,⟨some 16, none,.bin .lss (.t 13) (.t 15)⟩] [0,2,3,4,5,16] []
def z339r5:IC:=.reg [⟨some 19, none,.mv (.t 0)⟩,⟨some 20, none,.mv (.t 4)⟩,⟨some 21, none,.mv (.t 5)⟩,⟨some 22, none,.iadr 2 (.t 20) (.t 21)⟩,⟨some 23, none,.fadr 1 (.t 22)⟩,⟨some 24, none,.load false 1 (.t 23)⟩,⟨some 25, none,.idxs (.t 19) (.t 24)⟩,⟨some 26, none,.bin .eql (.t 25) (.c (.int .u8 (100)))⟩] [0,2,3,4,5,26] []
def z339r6:IC:=.reg [⟨some 27, none,.fadr 1 (.t 3)⟩,⟨some 28, none,.load false 1 (.t 27)⟩,⟨some 29, none,.mv (.t 4)⟩,⟨some 30, none,.mv (.t 5)⟩,⟨some 31, none,.iadr 2 (.t 29) (.t 30)⟩,⟨some 32, none,.load true 2 (.t 31)⟩,⟨some 33, none,.bsl 2 [(vi 0),(vi 0)] 1 [(0,(.t 32))]⟩,⟨some 34, none,.app 2 (.t 28) (.t 33)⟩,⟨some 35, none,.fadr 1 (.t 3)⟩,⟨none,none,.store 1 (.t 35) (.t 34)⟩] [0,2,3,4,5] [[0,2,3,4,5,6,1,7,8,9]]
def z339r7:IC:=.reg [⟨some 17, none,.mv (.t 5)⟩,⟨some 18, none,.bin .add (.t 17) (.c (vi 1))⟩,⟨some 5, none,.asg (.t 18)⟩] [0,2,3,4,5] []
def z339l8:IC:=(.seq (.seq z339r4 (.cond (.t 16) .skip (.exit 0))) (.seq (.block 1 (.seq z339r5 (.cond (.t 26) z339r6 .skip))) z339r7))
def z339r9:IC:=.reg [⟨some 36, none,.load true 2 (.t 3)⟩,⟨none,none,.store 2 (.t 2) (.t 36)⟩] [2] []
def zi339:IFun:=⟨[.c 2 2 true],[],(.seq z339r0 (.seq z339r1 (.seq z339r2 (.seq (.seq z339r3 (.block 0 (.loop z339l8))) (.seq z339r9 .ret)))))⟩
def z340r0:IC:=.reg [⟨some 1, none,.box (.t 0)⟩,⟨some 2, none,.asg (.c (.string ByteArray.empty))⟩,⟨some 3, none,.asg (.c (.slice none 0 0))⟩,⟨some 4, none,.asg (.c (.bool false))⟩] [1] []
def z340r1:IC:=.reg [⟨some 5, none,.asg (.c (.string ByteArray.empty))⟩] [1,5] []
def z340r2:IC:=.reg [⟨some 15, none,.bsl 1 [(vi 0)] 0 []⟩,⟨some 6, none,.asg (.t 15)⟩] [1,5,6] []
def z340r3:IC:=.reg [⟨some 16, none,.load true 2 (.t 1)⟩,⟨some 7, none,.alloc [(vi 0),(.slice none 0 0)]⟩,⟨none,none,.store 2 (.t 7) (.t 16)⟩] [1,5,6,7] []
def z340r4:IC:=.reg [⟨some 17, none,.bsl 1 [(vi 0)] 0 []⟩,⟨some 8, none,.asg (.t 17)⟩] [1,5,6,7,8] []
def z340r5:IC:=.reg [⟨some 18, none,.mv (.t 8)⟩,⟨some 19, none,.len (.t 18)⟩,⟨some 20, none,.fadr 0 (.t 1)⟩,⟨some 21, none,.load false 1 (.t 20)⟩,⟨some 22, none,.bin .lss (.t 19) (.t 21)⟩] [1,5,6,7,8,22] []
def z340r6:IC:=.reg [⟨some 23, none,.load true 2 (.t 7)⟩,⟨some 24, none,.call zl125 [(.rd,(.t 23))] true⟩,⟨some 9, none,.asg (.t 24)⟩] [1,5,6,7,8,9] []
def z340r7:IC:=.reg [⟨some 25, none,.fadr 0 (.t 1)⟩,⟨some 26, none,.load false 1 (.t 25)⟩,⟨some 27, none,.mv (.t 8)⟩,⟨some 28, none,.len (.t 27)⟩,⟨some 29, none,.bin .sub (.t 26) (.t 28)⟩,⟨some 10, none,.asg (.t 29)⟩] [1,5,6,7,8,9,10] []
def z340r8:IC:=.reg [⟨some 11, none,.asg (.c (vi (-1)))⟩] [1,5,6,7,8,9,10,11] []
def z340r9:IC:=.reg [⟨some 30, none,.fadr 0 (.t 1)⟩,⟨some 31, none,.load false 1 (.t 30)⟩,⟨some 32, none,.bin .sub (.t 31) (.c (vi 1))⟩,⟨some 12, none,.asg (.t 32)⟩] [1,5,6,7,8,9,10,11,12] []
def z340r10:IC:=.reg [⟨some 33, none,.mv (.t 12)⟩,⟨some 34, none,.bin .geq (.t 33) (.c (vi 0))⟩] [1,5,6,7,8,9,10,11,12,34] []
def z340r11:IC:=.reg [⟨some 37, none,.mv (.t 8)⟩,⟨some 38, none,.mv (.t 12)⟩,⟨some 39, none,.call zl131 [(.rd,(.t 37)),(.val,(.t 38))] true⟩,⟨some 40, none,.unop .not (.t 39)⟩,⟨some 41, none,.asg (.t 40)⟩,⟨some 42, (some (41,true)),.mv (.t 9)⟩,⟨some 43, (some (41,true)),.mv (.t 12)⟩,⟨some 44, (some (41,true)),.iadr 1 (.t 42) (.t 43)⟩,⟨some 45, (some (41,true)),.load false 1 (.t 44)⟩,⟨some 46, (some (41,true)),.bin .eql (.t 45) (.c (vi 0))⟩,⟨some 47, (some (41,true)),.asg (.t 46)⟩,⟨some 48, (some (47,false)),.mv (.t 9)⟩,⟨some 49, (some (47,false)),.mv (.t 12)⟩,⟨some 50, (some (47,false)),.iadr 1 (.t 48) (.t 49)⟩,⟨some 51, (some (47,false)),.load false 1 (.t 50)⟩,⟨some 52, (some (47,false)),.mv (.t 10)⟩,⟨some 53, (some (47,false)),.bin .sub (.t 52) (.c (vi 1))⟩,⟨some 54, (some (47,false)),.bin .eql (.t 51) (.t 53)⟩,⟨some 55, (some (41,true)),.pick (.t 47) (.c (.bool true)) (.t 54)⟩,
    ⟨some 56, none,.pick (.t 41) (.t 55) (.c (.bool false))⟩] [1,5,6,7,8,9,10,11,12,56] []
def z340r12:IC:=.reg [⟨some 57, none,.mv (.t 12)⟩,⟨some 11, none,.asgm (.t 57)⟩] [1,5,6,7,8,9,11] []
def z340r13:IC:=.reg [⟨some 35, none,.mv (.t 12)⟩,⟨some 36, none,.bin .sub (.t 35) (.c (vi 1))⟩,⟨some 12, none,.asg (.t 36)⟩] [1,5,6,7,8,9,10,11,12] []
def z340l14:IC:=(.seq (.seq z340r10 (.cond (.t 34) .skip (.exit 2))) (.seq (.block 3 (.seq z340r11 (.cond (.t 56) (.seq z340r12 (.exit 2)) .skip))) z340r13))
def z340r15:IC:=.reg [⟨some 58, none,.mv (.t 11)⟩,⟨some 59, none,.bin .lss (.t 58) (.c (vi 0))⟩] [1,5,6,7,8,9,11,59] []
def z340r16:IC:=.reg [⟨some 2, none,.asg (.c (.string ByteArray.empty))⟩,⟨some 3, none,.asg (.c (.slice none 0 0))⟩,⟨some 4, none,.asg (.c (.bool false))⟩] [2,3,4,6] []
def z340r17:IC:=.reg [⟨some 13, none,.asg (.c (.string ⟨#[105]⟩))⟩] [1,5,6,7,8,9,11,13] []
def z340r18:IC:=.reg [⟨some 60, none,.mv (.t 9)⟩,⟨some 61, none,.mv (.t 11)⟩,⟨some 62, none,.iadr 1 (.t 60) (.t 61)⟩,⟨some 63, none,.load false 1 (.t 62)⟩,⟨some 64, none,.bin .gtr (.t 63) (.c (vi 0))⟩] [1,5,6,7,8,11,13,64] []
def z340r19:IC:=.reg [⟨some 13, none,.asg (.c (.string ⟨#[100]⟩))⟩] [1,5,6,7,8,11,13] []
def z340r20:IC:=.reg [⟨some 65, none,.mv (.t 13)⟩,⟨some 66, none,.mv (.t 5)⟩,⟨some 67, none,.bin .add (.t 65) (.t 66)⟩,⟨some 5, none,.asg (.t 67)⟩] [1,5,6,7,8,11] []
def z340r21:IC:=.reg [⟨some 68, none,.mv (.t 11)⟩,⟨some 69, none,.bsl 1 [(vi 0)] 1 [(0,(.t 68))]⟩,⟨some 70, none,.mv (.t 6)⟩,⟨some 71, none,.app 1 (.t 69) (.t 70)⟩,⟨some 6, none,.asg (.t 71)⟩] [1,5,6,7,8,11] []
def z340r22:IC:=.reg [⟨some 72, none,.mv (.t 8)⟩,⟨some 73, none,.mv (.t 11)⟩,⟨some 74, none,.bsl 1 [(vi 0)] 1 [(0,(.t 73))]⟩,⟨some 75, none,.app 1 (.t 72) (.t 74)⟩,⟨some 8, none,.asg (.t 75)⟩] [1,5,6,7,8,11] []
def z340r23:IC:=.reg [⟨some 14, none,.asg (.c (vi 0))⟩] [1,5,6,7,8,11,14] []
def z340r24:IC:=.reg [⟨some 76, none,.mv (.t 14)⟩,⟨some 77, none,.fadr 0 (.t 1)⟩,⟨some 78, none,.load false 1 (.t 77)⟩,⟨some 79, none,.bin .lss (.t 76) (.t 78)⟩] [1,5,6,7,8,11,14,79] []
def z340r25:IC:=.reg [⟨some 82, none,.load true 2 (.t 7)⟩,⟨some 83, none,.mv (.t 11)⟩,⟨some 84, none,.mv (.t 14)⟩,⟨some 85, none,.call zl348 [(.rd,(.t 82)),(.val,(.t 83)),(.val,(.t 84))] true⟩,⟨none,none,.store 2 (.t 7) (.t 85)⟩] [1,5,6,7,8,11,14] []
def z340r26:IC:=.reg [⟨some 80, none,.mv (.t 14)⟩,⟨some 81, none,.bin .add (.t 80) (.c (vi 1))⟩,⟨some 14, none,.asg (.t 81)⟩] [1,5,6,7,8,11,14] []
def z340l27:IC:=(.seq (.seq z340r24 (.cond (.t 79) .skip (.exit 4))) (.seq (.block 5 z340r25) z340r26))
def z340l28:IC:=(.seq (.seq z340r5 (.cond (.t 22) .skip (.exit 0))) (.block 1 (.seq z340r6 (.seq z340r7 (.seq z340r8 (.seq (.seq z340r9 (.block 2 (.loop z340l14))) (.seq (.seq z340r15 (.cond (.t 59) (.seq z340r16 .ret) .skip)) (.seq z340r17 (.seq (.seq z340r18 (.cond (.t 64) z340r19 .skip)) (.seq z340r20 (.seq z340r21 (.seq z340r22 (.seq z340r23 (.block 4 (.loop z340l27)))))))))))))))
def z340r29:IC:=.reg [⟨some 86, none,.mv (.t 5)⟩,⟨some 87, none,.mv (.t 6)⟩,⟨some 2, none,.asgm (.t 86)⟩,⟨some 3, none,.asgm (.t 87)⟩,⟨some 4, none,.asg (.c (.bool true))⟩] [2,3,4,6] []
def zi340:IFun:=⟨[.t 2,.t 3,.t 4],[],(.seq z340r0 (.seq z340r1 (.seq z340r2 (.seq z340r3 (.seq z340r4 (.seq (.block 0 (.loop z340l28)) (.seq z340r29 .ret)))))))⟩
def z122r0:IC:=.reg [⟨some 1, none,.box (.t 0)⟩,⟨some 2, none,.alloc [(vi 0),(.slice none 0 0)]⟩] [1,2] []
def z122r1:IC:=.reg [⟨some 6, none,.fadr 0 (.t 1)⟩,⟨some 7, none,.load false 1 (.t 6)⟩,⟨some 8, none,.bsl 2 [(vi 0),(vi 0)] 0 []⟩,⟨some 9, none,.build [(vi 0),(.slice none 0 0)] [(0,1,(.t 7)),(1,1,(.t 8))]⟩,⟨some 3, none,.alloc [(vi 0),(.slice none 0 0)]⟩,⟨none,none,.store 2 (.t 3) (.t 9)⟩] [1,2,3] []
def z122r2:IC:=.reg [⟨some 10, none,.fadr 0 (.t 1)⟩,⟨some 11, none,.load false 1 (.t 10)⟩,⟨some 12, none,.call zl138 [(.val,(.t 11))] true⟩,⟨some 4, none,.asg (.t 12)⟩] [1,2,3,4] []
def z122r3:IC:=.reg [⟨some 5, none,.asg (.c (vi 0))⟩] [1,2,3,4,5] []
def z122r4:IC:=.reg [⟨some 13, none,.mv (.t 5)⟩,⟨some 14, none,.mv (.t 4)⟩,⟨some 15, none,.len (.t 14)⟩,⟨some 16, none,.bin .lss (.t 13) (.t 15)⟩] [1,2,3,4,5,16] []
def z122r5:IC:=.reg [⟨some 19, none,.load true 2 (.t 1)⟩,⟨some 20, none,.mv (.t 4)⟩,⟨some 21, none,.mv (.t 5)⟩,⟨some 22, none,.iadr 2 (.t 20) (.t 21)⟩,⟨some 23, none,.fadr 0 (.t 22)⟩,⟨some 24, none,.load false 1 (.t 23)⟩,⟨some 25, none,.mv (.t 4)⟩,⟨some 26, none,.mv (.t 5)⟩,⟨some 27, none,.iadr 2 (.t 25) (.t 26)⟩,⟨some 28, none,.fadr 1 (.t 27)⟩,⟨some 29, none,.load false 1 (.t 28)⟩,⟨some 30, none,.call zl130 [(.rd,(.t 19)),(.val,(.t 24)),(.val,(.t 29))] true⟩,⟨some 31, none,.unop .not (.t 30)⟩] [1,2,3,4,5,31] []
def z122r6:IC:=.reg [⟨some 32, none,.fadr 1 (.t 3)⟩,⟨some 33, none,.load false 1 (.t 32)⟩,⟨some 34, none,.mv (.t 4)⟩,⟨some 35, none,.mv (.t 5)⟩,⟨some 36, none,.iadr 2 (.t 34) (.t 35)⟩,⟨some 37, none,.load true 2 (.t 36)⟩,⟨some 38, none,.bsl 2 [(vi 0),(vi 0)] 1 [(0,(.t 37))]⟩,⟨some 39, none,.app 2 (.t 33) (.t 38)⟩,⟨some 40, none,.fadr 1 (.t 3)⟩,⟨none,none,.store 1 (.t 40) (.t 39)⟩] [1,2,3,4,5] [[0,2,3,4,5,6,1,7,8,9]]
def z122r7:IC:=.reg [⟨some 17, none,.mv (.t 5)⟩,⟨some 18, none,.bin .add (.t 17) (.c (vi 1))⟩,⟨some 5, none,.asg (.t 18)⟩] [1,2,3,4,5] []
def z122l8:IC:=(.seq (.seq z122r4 (.cond (.t 16) .skip (.exit 0))) (.seq (.block 1 (.seq z122r5 (.cond (.t 31) z122r6 .skip))) z122r7))
def z122r9:IC:=.reg [⟨some 41, none,.load true 2 (.t 3)⟩,⟨none,none,.store 2 (.t 2) (.t 41)⟩] [2] []
def zi122:IFun:=⟨[.c 2 2 true],[],(.seq z122r0 (.seq z122r1 (.seq z122r2 (.seq (.seq z122r3 (.block 0 (.loop z122l8))) (.seq z122r9 .ret)))))⟩
def z125r0:IC:=.reg [⟨some 1, none,.box (.t 0)⟩,⟨some 2, none,.asg (.c (.slice none 0 0))⟩] [1] []
def z125r1:IC:=.reg [⟨some 5, none,.fadr 0 (.t 1)⟩,⟨some 6, none,.load false 1 (.t 5)⟩,⟨some 7, none,.mksl 1 [(vi 0)] (.t 6) (.t 6)⟩,⟨some 3, none,.asg (.t 7)⟩] [1,3] []
def z125r2:IC:=.reg [⟨some 4, none,.asg (.c (vi 0))⟩] [1,3,4] []
def z125r3:IC:=.reg [⟨some 8, none,.mv (.t 4)⟩,⟨some 9, none,.fadr 1 (.t 1)⟩,⟨some 10, none,.load false 1 (.t 9)⟩,⟨some 11, none,.len (.t 10)⟩,⟨some 12, none,.bin .lss (.t 8) (.t 11)⟩] [1,3,4,12] []
def z125r4:IC:=.reg [⟨some 15, none,.mv (.t 3)⟩,⟨some 16, none,.fadr 1 (.t 1)⟩,⟨some 17, none,.load false 1 (.t 16)⟩,⟨some 18, none,.mv (.t 4)⟩,⟨some 19, none,.iadr 2 (.t 17) (.t 18)⟩,⟨some 20, none,.fadr 0 (.t 19)⟩,⟨some 21, none,.load false 1 (.t 20)⟩,⟨some 22, none,.mv (.t 3)⟩,⟨some 23, none,.fadr 1 (.t 1)⟩,⟨some 24, none,.load false 1 (.t 23)⟩,⟨some 25, none,.mv (.t 4)⟩,⟨some 26, none,.iadr 2 (.t 24) (.t 25)⟩,⟨some 27, none,.fadr 0 (.t 26)⟩,⟨some 28, none,.load false 1 (.t 27)⟩,⟨some 29, none,.iadr 1 (.t 22) (.t 28)⟩,⟨some 30, none,.load false 1 (.t 29)⟩,⟨some 31, none,.bin .add (.t 30) (.c (vi 1))⟩,⟨some 32, none,.iadr 1 (.t 15) (.t 21)⟩,⟨none,none,.store 1 (.t 32) (.t 31)⟩] [1,3,4] []
def z125r5:IC:=.reg [⟨some 33, none,.mv (.t 3)⟩,⟨some 34, none,.fadr 1 (.t 1)⟩,⟨some 35, none,.load false 1 (.t 34)⟩,⟨some 36, none,.mv (.t 4)⟩,⟨some 37, none,.iadr 2 (.t 35) (.t 36)⟩,⟨some 38, none,.fadr 1 (.t 37)⟩,⟨some 39, none,.load false 1 (.t 38)⟩,⟨some 40, none,.mv (.t 3)⟩,⟨some 41, none,.fadr 1 (.t 1)⟩,⟨some 42, none,.load false 1 (.t 41)⟩,⟨some 43, none,.mv (.t 4)⟩,⟨some 44, none,.iadr 2 (.t 42) (.t 43)⟩,⟨some 45, none,.fadr 1 (.t 44)⟩,⟨some 46, none,.load false 1 (.t 45)⟩,⟨some 47, none,.iadr 1 (.t 40) (.t 46)⟩,⟨some 48, none,.load false 1 (.t 47)⟩,⟨some 49, none,.bin .add (.t 48) (.c (vi 1))⟩,⟨some 50, none,.iadr 1 (.t 33) (.t 39)⟩,⟨none,none,.store 1 (.t 50) (.t 49)⟩] [1,3,4] []
def z125r6:IC:=.reg [⟨some 13, none,.mv (.t 4)⟩,⟨some 14, none,.bin .add (.t 13) (.c (vi 1))⟩,⟨some 4, none,.asg (.t 14)⟩] [1,3,4] []
def z125l7:IC:=(.seq (.seq z125r3 (.cond (.t 12) .skip (.exit 0))) (.seq (.block 1 (.seq z125r4 z125r5)) z125r6))
def z125r8:IC:=.reg [⟨some 51, none,.mv (.t 3)⟩,⟨some 2, none,.asgm (.t 51)⟩] [2,3] []
def zi125:IFun:=⟨[.t 2],[],(.seq z125r0 (.seq z125r1 (.seq (.seq z125r2 (.block 0 (.loop z125l7))) (.seq z125r8 .ret))))⟩
def z348r0:IC:=.reg [⟨some 3, none,.box (.t 0)⟩,⟨some 6, none,.alloc [(vi 0),(.slice none 0 0)]⟩] [1,2,3,6] []
def z348r1:IC:=.reg [⟨some 10, none,.fadr 0 (.t 3)⟩,⟨some 11, none,.load false 1 (.t 10)⟩,⟨some 12, none,.bsl 2 [(vi 0),(vi 0)] 0 []⟩,⟨some 13, none,.build [(vi 0),(.slice none 0 0)] [(0,1,(.t 11)),(1,1,(.t 12))]⟩,⟨some 7, none,.alloc [(vi 0),(.slice none 0 0)]⟩,⟨none,none,.store 2 (.t 7) (.t 13)⟩] [1,2,3,6,7] []
def z348r2:IC:=.reg [⟨some 8, none,.asg (.c (vi 0))⟩] [1,2,3,6,7,8] []
def z348r3:IC:=.reg [⟨some 14, none,.mv (.t 8)⟩,⟨some 15, none,.fadr 1 (.t 3)⟩,⟨some 16, none,.load false 1 (.t 15)⟩,⟨some 17, none,.len (.t 16)⟩,⟨some 18, none,.bin .lss (.t 14) (.t 17)⟩] [1,2,3,6,7,8,18] []
def z348r4:IC:=.reg [⟨some 21, none,.fadr 1 (.t 3)⟩,⟨some 22, none,.load false 1 (.t 21)⟩,⟨some 23, none,.mv (.t 8)⟩,⟨some 24, none,.iadr 2 (.t 22) (.t 23)⟩,⟨some 25, none,.load true 2 (.t 24)⟩,⟨some 9, none,.alloc [(vi 0),(vi 0)]⟩,⟨none,none,.store 2 (.t 9) (.t 25)⟩] [1,2,3,6,7,8,9] []
def z348r5:IC:=.reg [⟨some 26, none,.fadr 0 (.t 9)⟩,⟨some 27, none,.load false 1 (.t 26)⟩,⟨some 28, none,.mv (.t 1)⟩,⟨some 29, none,.mv (.t 2)⟩,⟨some 30, none,.minmax true (.t 28) (.t 29)⟩,⟨some 31, none,.bin .neq (.t 27) (.t 30)⟩,⟨some 32, none,.asg (.t 31)⟩,⟨some 33, (some (32,false)),.fadr 1 (.t 9)⟩,⟨some 34, (some (32,false)),.load false 1 (.t 33)⟩,⟨some 35, (some (32,false)),.mv (.t 1)⟩,⟨some 36, (some (32,false)),.mv (.t 2)⟩,⟨some 37, (some (32,false)),.minmax false (.t 35) (.t 36)⟩,⟨some 38, (some (32,false)),.bin .neq (.t 34) (.t 37)⟩,⟨some 39, none,.pick (.t 32) (.c (.bool true)) (.t 38)⟩] [1,2,3,6,7,8,9,39] []
def z348r6:IC:=.reg [⟨some 40, none,.fadr 1 (.t 7)⟩,⟨some 41, none,.load false 1 (.t 40)⟩,⟨some 42, none,.load true 2 (.t 9)⟩,⟨some 43, none,.bsl 2 [(vi 0),(vi 0)] 1 [(0,(.t 42))]⟩,⟨some 44, none,.app 2 (.t 41) (.t 43)⟩,⟨some 45, none,.fadr 1 (.t 7)⟩,⟨none,none,.store 1 (.t 45) (.t 44)⟩] [1,2,3,6,7,8] []
def z348r7:IC:=.reg [⟨some 19, none,.mv (.t 8)⟩,⟨some 20, none,.bin .add (.t 19) (.c (vi 1))⟩,⟨some 8, none,.asg (.t 20)⟩] [1,2,3,6,7,8] []
def z348l8:IC:=(.seq (.seq z348r3 (.cond (.t 18) .skip (.exit 0))) (.seq (.block 1 (.seq z348r4 (.seq z348r5 (.cond (.t 39) z348r6 .skip)))) z348r7))
def z348r9:IC:=.reg [⟨some 46, none,.load true 2 (.t 7)⟩,⟨none,none,.store 2 (.t 6) (.t 46)⟩] [6] []
def zi348:IFun:=⟨[.c 6 2 true],[],(.seq z348r0 (.seq z348r1 (.seq (.seq z348r2 (.block 0 (.loop z348l8))) (.seq z348r9 .ret))))⟩
def z126r0:IC:=.reg [⟨some 2, none,.box (.t 0)⟩,⟨some 3, none,.box (.t 1)⟩,⟨some 4, none,.asg (.c (.bool false))⟩] [2,3] []
def z126r1:IC:=.reg [⟨some 5, none,.fadr 0 (.t 2)⟩,⟨some 6, none,.load false 1 (.t 5)⟩,⟨some 7, none,.fadr 0 (.t 3)⟩,⟨some 8, none,.load false 1 (.t 7)⟩,⟨some 9, none,.bin .lss (.t 6) (.t 8)⟩,⟨some 10, none,.asg (.t 9)⟩,⟨some 11, (some (10,false)),.fadr 0 (.t 2)⟩,⟨some 12, (some (10,false)),.load false 1 (.t 11)⟩,⟨some 13, (some (10,false)),.fadr 0 (.t 3)⟩,⟨some 14, (some (10,false)),.load false 1 (.t 13)⟩,⟨some 15, (some (10,false)),.bin .eql (.t 12) (.t 14)⟩,⟨some 16, (some (10,false)),.asg (.t 15)⟩,⟨some 17, (some (16,true)),.fadr 1 (.t 2)⟩,⟨some 18, (some (16,true)),.load false 1 (.t 17)⟩,⟨some 19, (some (16,true)),.fadr 1 (.t 3)⟩,⟨some 20, (some (16,true)),.load false 1 (.t 19)⟩,⟨some 21, (some (16,true)),.bin .lss (.t 18) (.t 20)⟩,⟨some 22, (some (10,false)),.pick (.t 16) (.t 21) (.c (.bool false))⟩,⟨some 23, none,.pick (.t 10) (.c (.bool true)) (.t 22)⟩,
    ⟨some 4, none,.asg (.t 23)⟩] [4] []
def zi126:IFun:=⟨[.t 4],[],(.seq z126r0 (.seq z126r1 .ret))⟩
def z129r0:IC:=.reg [⟨some 2, none,.alloc [(vi 0),(.slice none 0 0)]⟩] [0,2] []
def z129r1:IC:=.reg [⟨some 3, none,.mv (.t 0)⟩,⟨some 4, none,.mv (.t 0)⟩,⟨some 5, none,.bsl 1 [(vi 0)] 9 [(0,(.c (vi 5))),(1,(.c (vi 4))),(2,(.c (vi 6))),(3,(.c (vi 3))),(4,(.c (vi 5))),(5,(.c (vi 2))),(6,(.c (vi 7))),(7,(.c (vi 1))),(8,(.c (vi 0)))]⟩,⟨some 6, none,.call zl139 [(.val,(.t 4)),(.rd,(.t 5))] false⟩,⟨some 7, none,.call zl118 [(.val,(.t 3)),(.val,(.t 6))] false⟩,⟨none,none,.store 2 (.t 2) (.t 7)⟩] [2] []
def zi129:IFun:=⟨[.c 2 2 true],[],(.seq z129r0 (.seq z129r1 .ret))⟩
def z130r0:IC:=.reg [⟨some 3, none,.box (.t 0)⟩,⟨some 6, none,.asg (.c (.bool false))⟩] [1,2,3] []
def z130r1:IC:=.reg [⟨some 7, none,.asg (.c (vi 0))⟩] [1,2,3,7] []
def z130r2:IC:=.reg [⟨some 9, none,.mv (.t 7)⟩,⟨some 10, none,.fadr 1 (.t 3)⟩,⟨some 11, none,.load false 1 (.t 10)⟩,⟨some 12, none,.len (.t 11)⟩,⟨some 13, none,.bin .lss (.t 9) (.t 12)⟩] [1,2,3,7,13] []
def z130r3:IC:=.reg [⟨some 16, none,.fadr 1 (.t 3)⟩,⟨some 17, none,.load false 1 (.t 16)⟩,⟨some 18, none,.mv (.t 7)⟩,⟨some 19, none,.iadr 2 (.t 17) (.t 18)⟩,⟨some 20, none,.load true 2 (.t 19)⟩,⟨some 8, none,.alloc [(vi 0),(vi 0)]⟩,⟨none,none,.store 2 (.t 8) (.t 20)⟩] [1,2,3,7,8] []
def z130r4:IC:=.reg [⟨some 21, none,.fadr 0 (.t 8)⟩,⟨some 22, none,.load false 1 (.t 21)⟩,⟨some 23, none,.mv (.t 1)⟩,⟨some 24, none,.bin .eql (.t 22) (.t 23)⟩,⟨some 25, none,.asg (.t 24)⟩,⟨some 26, (some (25,true)),.fadr 1 (.t 8)⟩,⟨some 27, (some (25,true)),.load false 1 (.t 26)⟩,⟨some 28, (some (25,true)),.mv (.t 2)⟩,⟨some 29, (some (25,true)),.bin .eql (.t 27) (.t 28)⟩,⟨some 30, none,.pick (.t 25) (.t 29) (.c (.bool false))⟩,⟨some 31, none,.asg (.t 30)⟩,⟨some 32, (some (31,false)),.fadr 0 (.t 8)⟩,⟨some 33, (some (31,false)),.load false 1 (.t 32)⟩,⟨some 34, (some (31,false)),.mv (.t 2)⟩,⟨some 35, (some (31,false)),.bin .eql (.t 33) (.t 34)⟩,⟨some 36, (some (31,false)),.asg (.t 35)⟩,⟨some 37, (some (36,true)),.fadr 1 (.t 8)⟩,⟨some 38, (some (36,true)),.load false 1 (.t 37)⟩,⟨some 39, (some (36,true)),.mv (.t 1)⟩,⟨some 40, (some (36,true)),.bin .eql (.t 38) (.t 39)⟩,
    ⟨some 41, (some (31,false)),.pick (.t 36) (.t 40) (.c (.bool false))⟩,⟨some 42, none,.pick (.t 31) (.c (.bool true)) (.t 41)⟩] [1,2,3,7,42] []
def z130r5:IC:=.reg [⟨some 6, none,.asg (.c (.bool true))⟩] [6] []
def z130r6:IC:=.reg [⟨some 14, none,.mv (.t 7)⟩,⟨some 15, none,.bin .add (.t 14) (.c (vi 1))⟩,⟨some 7, none,.asg (.t 15)⟩] [1,2,3,7] []
def z130l7:IC:=(.seq (.seq z130r2 (.cond (.t 13) .skip (.exit 0))) (.seq (.block 1 (.seq z130r3 (.seq z130r4 (.cond (.t 42) (.seq z130r5 .ret) .skip)))) z130r6))
def z130r8:IC:=.reg [⟨some 6, none,.asg (.c (.bool false))⟩] [6] []
def zi130:IFun:=⟨[.t 6],[],(.seq z130r0 (.seq (.seq z130r1 (.block 0 (.loop z130l7))) (.seq z130r8 .ret)))⟩
def z131r0:IC:=.reg [⟨some 4, none,.asg (.c (.bool false))⟩] [0,1] []
def z131r1:IC:=.reg [⟨some 5, none,.asg (.c (vi 0))⟩] [0,1,5] []
def z131r2:IC:=.reg [⟨some 6, none,.mv (.t 5)⟩,⟨some 7, none,.mv (.t 0)⟩,⟨some 8, none,.len (.t 7)⟩,⟨some 9, none,.bin .lss (.t 6) (.t 8)⟩] [0,1,5,9] []
def z131r3:IC:=.reg [⟨some 12, none,.mv (.t 0)⟩,⟨some 13, none,.mv (.t 5)⟩,⟨some 14, none,.iadr 1 (.t 12) (.t 13)⟩,⟨some 15, none,.load false 1 (.t 14)⟩,⟨some 16, none,.mv (.t 1)⟩,⟨some 17, none,.bin .eql (.t 15) (.t 16)⟩] [0,1,5,17] []
def z131r4:IC:=.reg [⟨some 4, none,.asg (.c (.bool true))⟩] [4] []
def z131r5:IC:=.reg [⟨some 10, none,.mv (.t 5)⟩,⟨some 11, none,.bin .add (.t 10) (.c (vi 1))⟩,⟨some 5, none,.asg (.t 11)⟩] [0,1,5] []
def z131l6:IC:=(.seq (.seq z131r2 (.cond (.t 9) .skip (.exit 0))) (.seq (.block 1 (.seq z131r3 (.cond (.t 17) (.seq z131r4 .ret) .skip))) z131r5))
def z131r7:IC:=.reg [⟨some 4, none,.asg (.c (.bool false))⟩] [4] []
def zi131:IFun:=⟨[.t 4],[],(.seq z131r0 (.seq (.seq z131r1 (.block 0 (.loop z131l6))) (.seq z131r7 .ret)))⟩
def z132r0:IC:=.reg [⟨some 6, none,.asg (.c (.bool false))⟩] [0,1,2] []
def z132r1:IC:=.reg [⟨some 7, none,.mv (.t 1)⟩,⟨some 8, none,.mv (.t 0)⟩,⟨some 9, none,.bin .leq (.t 7) (.t 8)⟩,⟨some 10, none,.asg (.t 9)⟩,⟨some 11, (some (10,true)),.mv (.t 0)⟩,⟨some 12, (some (10,true)),.mv (.t 2)⟩,⟨some 13, (some (10,true)),.bin .leq (.t 11) (.t 12)⟩,⟨some 14, none,.pick (.t 10) (.t 13) (.c (.bool false))⟩,⟨some 6, none,.asg (.t 14)⟩] [6] []
def zi132:IFun:=⟨[.t 6],[],(.seq z132r0 (.seq z132r1 .ret))⟩
def z363r0:IC:=.reg [⟨some 3, none,.box (.t 1)⟩,⟨some 4, none,.alloc [(vi 0),(.slice none 0 0)]⟩] [0,3,4] []
def z363r1:IC:=.reg [⟨some 12, none,.bsl 1 [(vi 0)] 0 []⟩,⟨some 5, none,.asg (.t 12)⟩] [0,3,4,5] []
def z363r2:IC:=.reg [⟨some 6, none,.asg (.c (vi 0))⟩] [0,3,4,5,6] []
def z363r3:IC:=.reg [⟨some 13, none,.mv (.t 6)⟩,⟨some 14, none,.fadr 0 (.t 3)⟩,⟨some 15, none,.load false 1 (.t 14)⟩,⟨some 16, none,.bin .lss (.t 13) (.t 15)⟩] [0,3,4,5,6,16] []
def z363r4:IC:=.reg [⟨some 19, none,.mv (.t 5)⟩,⟨some 20, none,.mv (.t 6)⟩,⟨some 21, none,.bsl 1 [(vi 0)] 1 [(0,(.t 20))]⟩,⟨some 22, none,.app 1 (.t 19) (.t 21)⟩,⟨some 5, none,.asg (.t 22)⟩] [0,3,4,5,6] []
def z363r5:IC:=.reg [⟨some 17, none,.mv (.t 6)⟩,⟨some 18, none,.bin .add (.t 17) (.c (vi 1))⟩,⟨some 6, none,.asg (.t 18)⟩] [0,3,4,5,6] []
def z363l6:IC:=(.seq (.seq z363r3 (.cond (.t 16) .skip (.exit 0))) (.seq (.block 1 z363r4) z363r5))
def z363r7:IC:=.reg [⟨some 7, none,.asg (.c (vi 0))⟩] [0,3,4,5,7] []
def z363r8:IC:=.reg [⟨some 23, none,.mv (.t 7)⟩,⟨some 24, none,.fadr 0 (.t 3)⟩,⟨some 25, none,.load false 1 (.t 24)⟩,⟨some 26, none,.bin .lss (.t 23) (.t 25)⟩] [0,3,4,5,7,26] []
def z363r9:IC:=.reg [⟨some 29, none,.mv (.t 0)⟩,⟨some 30, none,.fadr 0 (.t 3)⟩,⟨some 31, none,.load false 1 (.t 30)⟩,⟨some 32, none,.call zl140 [(.val,(.t 29)),(.val,(.t 31))] false⟩,⟨some 8, none,.asg (.t 32)⟩] [0,3,4,5,7,8] []
def z363r10:IC:=.reg [⟨some 33, none,.mv (.t 5)⟩,⟨some 34, none,.mv (.t 7)⟩,⟨some 35, none,.iadr 1 (.t 33) (.t 34)⟩,⟨some 36, none,.load false 1 (.t 35)⟩,⟨some 9, none,.asg (.t 36)⟩] [0,3,4,5,7,8,9] []
def z363r11:IC:=.reg [⟨some 37, none,.mv (.t 5)⟩,⟨some 38, none,.mv (.t 7)⟩,⟨some 39, none,.mv (.t 5)⟩,⟨some 40, none,.mv (.t 8)⟩,⟨some 41, none,.iadr 1 (.t 39) (.t 40)⟩,⟨some 42, none,.load false 1 (.t 41)⟩,⟨some 43, none,.iadr 1 (.t 37) (.t 38)⟩,⟨none,none,.store 1 (.t 43) (.t 42)⟩] [0,3,4,5,7,8,9] []
def z363r12:IC:=.reg [⟨some 44, none,.mv (.t 5)⟩,⟨some 45, none,.mv (.t 8)⟩,⟨some 46, none,.mv (.t 9)⟩,⟨some 47, none,.iadr 1 (.t 44) (.t 45)⟩,⟨none,none,.store 1 (.t 47) (.t 46)⟩] [0,3,4,5,7] []
def z363r13:IC:=.reg [⟨some 27, none,.mv (.t 7)⟩,⟨some 28, none,.bin .add (.t 27) (.c (vi 1))⟩,⟨some 7, none,.asg (.t 28)⟩] [0,3,4,5,7] []
def z363l14:IC:=(.seq (.seq z363r8 (.cond (.t 26) .skip (.exit 2))) (.seq (.block 3 (.seq z363r9 (.seq z363r10 (.seq z363r11 z363r12)))) z363r13))
def z363r15:IC:=.reg [⟨some 48, none,.fadr 0 (.t 3)⟩,⟨some 49, none,.load false 1 (.t 48)⟩,⟨some 50, none,.bsl 2 [(vi 0),(vi 0)] 0 []⟩,⟨some 51, none,.build [(vi 0),(.slice none 0 0)] [(0,1,(.t 49)),(1,1,(.t 50))]⟩,⟨some 10, none,.alloc [(vi 0),(.slice none 0 0)]⟩,⟨none,none,.store 2 (.t 10) (.t 51)⟩] [3,4,5,10] []
def z363r16:IC:=.reg [⟨some 11, none,.asg (.c (vi 0))⟩] [3,4,5,10,11] []
def z363r17:IC:=.reg [⟨some 52, none,.mv (.t 11)⟩,⟨some 53, none,.fadr 1 (.t 3)⟩,⟨some 54, none,.load false 1 (.t 53)⟩,⟨some 55, none,.len (.t 54)⟩,⟨some 56, none,.bin .lss (.t 52) (.t 55)⟩] [3,4,5,10,11,56] []
def z363r18:IC:=.reg [⟨some 59, none,.load true 2 (.t 10)⟩,⟨some 60, none,.mv (.t 5)⟩,⟨some 61, none,.fadr 1 (.t 3)⟩,⟨some 62, none,.load false 1 (.t 61)⟩,⟨some 63, none,.mv (.t 11)⟩,⟨some 64, none,.iadr 2 (.t 62) (.t 63)⟩,⟨some 65, none,.fadr 0 (.t 64)⟩,⟨some 66, none,.load false 1 (.t 65)⟩,⟨some 67, none,.iadr 1 (.t 60) (.t 66)⟩,⟨some 68, none,.load false 1 (.t 67)⟩,⟨some 69, none,.mv (.t 5)⟩,⟨some 70, none,.fadr 1 (.t 3)⟩,⟨some 71, none,.load false 1 (.t 70)⟩,⟨some 72, none,.mv (.t 11)⟩,⟨some 73, none,.iadr 2 (.t 71) (.t 72)⟩,⟨some 74, none,.fadr 1 (.t 73)⟩,⟨some 75, none,.load false 1 (.t 74)⟩,⟨some 76, none,.iadr 1 (.t 69) (.t 75)⟩,⟨some 77, none,.load false 1 (.t 76)⟩,⟨some 78, none,.call zl335 [(.rd,(.t 59)),(.val,(.t 68)),(.val,(.t 77))] true⟩,⟨none,none,.store 2 (.t 10) (.t 78)⟩] [3,4,5,10,11] []
def z363r19:IC:=.reg [⟨some 57, none,.mv (.t 11)⟩,⟨some 58, none,.bin .add (.t 57) (.c (vi 1))⟩,⟨some 11, none,.asg (.t 58)⟩] [3,4,5,10,11] []
def z363l20:IC:=(.seq (.seq z363r17 (.cond (.t 56) .skip (.exit 4))) (.seq (.block 5 z363r18) z363r19))
def z363r21:IC:=.reg [⟨some 79, none,.load true 2 (.t 10)⟩,⟨none,none,.store 2 (.t 4) (.t 79)⟩] [4] []
def zi363:IFun:=⟨[.c 4 2 true],[],(.seq z363r0 (.seq z363r1 (.seq (.seq z363r2 (.block 0 (.loop z363l6))) (.seq (.seq z363r7 (.block 2 (.loop z363l14))) (.seq z363r15 (.seq (.seq z363r16 (.block 4 (.loop z363l20))) (.seq z363r21 .ret)))))))⟩
def z137r0:IC:=.reg [⟨some 2, none,.asg (.c (.pointer none))⟩] [0] []
def z137r1:IC:=.reg [⟨some 3, none,.mv (.t 0)⟩,⟨some 4, none,.len (.t 3)⟩,⟨some 5, none,.bin .gtr (.t 4) (.c (vi 2000))⟩] [0,5] []
def z137r2:IC:=.reg [⟨some 6, none,.mv (.t 0)⟩,⟨some 7, none,.slc 1 (.t 6) none (some (.c (vi 2000))) none⟩,⟨some 0, none,.asgm (.t 7)⟩] [0] []
def z137r3:IC:=.reg [⟨some 8, none,.mv (.t 0)⟩,⟨some 9, none,.build [(.slice none 0 0),(vi 0)] [(0,1,(.t 8))]⟩,⟨some 10, none,.box (.t 9)⟩,⟨some 2, none,.asg (.t 10)⟩] [2] []
def zi137:IFun:=⟨[.t 2],[],(.seq z137r0 (.seq (.seq z137r1 (.cond (.t 5) z137r2 .skip)) (.seq z137r3 .ret)))⟩
def z138r0:IC:=.reg [⟨some 2, none,.asg (.c (.slice none 0 0))⟩] [0] []
def z138r1:IC:=.reg [⟨some 6, none,.bsl 2 [(vi 0),(vi 0)] 0 []⟩,⟨some 3, none,.asg (.t 6)⟩] [0,3] []
def z138r2:IC:=.reg [⟨some 4, none,.asg (.c (vi 0))⟩] [0,3,4] []
def z138r3:IC:=.reg [⟨some 7, none,.mv (.t 4)⟩,⟨some 8, none,.mv (.t 0)⟩,⟨some 9, none,.bin .lss (.t 7) (.t 8)⟩] [0,3,4,9] []
def z138r4:IC:=.reg [⟨some 12, none,.mv (.t 4)⟩,⟨some 13, none,.bin .add (.t 12) (.c (vi 1))⟩,⟨some 5, none,.asg (.t 13)⟩] [0,3,4,5] []
def z138r5:IC:=.reg [⟨some 14, none,.mv (.t 5)⟩,⟨some 15, none,.mv (.t 0)⟩,⟨some 16, none,.bin .lss (.t 14) (.t 15)⟩] [0,3,4,5,16] []
def z138r6:IC:=.reg [⟨some 19, none,.mv (.t 3)⟩,⟨some 20, none,.mv (.t 4)⟩,⟨some 21, none,.mv (.t 5)⟩,⟨some 22, none,.build [(vi 0),(vi 0)] [(0,1,(.t 20)),(1,1,(.t 21))]⟩,⟨some 23, none,.bsl 2 [(vi 0),(vi 0)] 1 [(0,(.t 22))]⟩,⟨some 24, none,.app 2 (.t 19) (.t 23)⟩,⟨some 3, none,.asg (.t 24)⟩] [0,3,4,5] []
def z138r7:IC:=.reg [⟨some 17, none,.mv (.t 5)⟩,⟨some 18, none,.bin .add (.t 17) (.c (vi 1))⟩,⟨some 5, none,.asg (.t 18)⟩] [0,3,4,5] []
def z138l8:IC:=(.seq (.seq z138r5 (.cond (.t 16) .skip (.exit 2))) (.seq (.block 3 z138r6) z138r7))
def z138r9:IC:=.reg [⟨some 10, none,.mv (.t 4)⟩,⟨some 11, none,.bin .add (.t 10) (.c (vi 1))⟩,⟨some 4, none,.asg (.t 11)⟩] [0,3,4] []
def z138l10:IC:=(.seq (.seq z138r3 (.cond (.t 9) .skip (.exit 0))) (.seq (.block 1 (.seq z138r4 (.block 2 (.loop z138l8)))) z138r9))
def z138r11:IC:=.reg [⟨some 25, none,.mv (.t 3)⟩,⟨some 2, none,.asgm (.t 25)⟩] [2,3] []
def zi138:IFun:=⟨[.t 2],[],(.seq z138r0 (.seq z138r1 (.seq (.seq z138r2 (.block 0 (.loop z138l10))) (.seq z138r11 .ret))))⟩
def z368r0:IC:=.reg [⟨some 4, none,.asg (.c (.string ByteArray.empty))⟩] [0,1] []
def z368r1:IC:=.reg [⟨some 5, none,.mv (.t 1)⟩,⟨some 6, none,.mv (.t 0)⟩,⟨some 7, none,.mv (.t 1)⟩,⟨some 8, none,.len (.t 7)⟩,⟨some 9, none,.call zl140 [(.val,(.t 6)),(.val,(.t 8))] false⟩,⟨some 10, none,.iadr 1 (.t 5) (.t 9)⟩,⟨some 11, none,.load false 1 (.t 10)⟩,⟨some 4, none,.asg (.t 11)⟩] [4] []
def zi368:IFun:=⟨[.t 4],[],(.seq z368r0 (.seq z368r1 .ret))⟩
def z139r0:IC:=.reg [⟨some 4, none,.asg (.c (vi 0))⟩] [0,1] []
def z139r1:IC:=.reg [⟨some 5, none,.mv (.t 1)⟩,⟨some 6, none,.mv (.t 0)⟩,⟨some 7, none,.mv (.t 1)⟩,⟨some 8, none,.len (.t 7)⟩,⟨some 9, none,.call zl140 [(.val,(.t 6)),(.val,(.t 8))] false⟩,⟨some 10, none,.iadr 1 (.t 5) (.t 9)⟩,⟨some 11, none,.load false 1 (.t 10)⟩,⟨some 4, none,.asg (.t 11)⟩] [4] []
def zi139:IFun:=⟨[.t 4],[],(.seq z139r0 (.seq z139r1 .ret))⟩
def z140r0:IC:=.reg [⟨some 4, none,.asg (.c (vi 0))⟩] [0,1] []
def z140r1:IC:=.reg [⟨some 7, none,.mv (.t 0)⟩,⟨some 8, none,.mv (.t 0)⟩,⟨some 9, none,.nilck (.t 8)⟩,⟨some 10, none,.fadr 1 (.t 9)⟩,⟨some 11, none,.load false 1 (.t 10)⟩,⟨some 12, none,.bin .add (.t 11) (.c (vi 1))⟩,⟨some 13, none,.nilck (.t 7)⟩,⟨some 14, none,.fadr 1 (.t 13)⟩,⟨none,none,.store 1 (.t 14) (.t 12)⟩] [0,1] []
def z140r2:IC:=.reg [⟨some 15, none,.mv (.t 1)⟩,⟨some 16, none,.bin .lss (.t 15) (.c (vi 1))⟩,⟨some 17, none,.asg (.t 16)⟩,⟨some 18, (some (17,false)),.mv (.t 0)⟩,⟨some 19, (some (17,false)),.nilck (.t 18)⟩,⟨some 20, (some (17,false)),.fadr 0 (.t 19)⟩,⟨some 21, (some (17,false)),.load false 1 (.t 20)⟩,⟨some 22, (some (17,false)),.len (.t 21)⟩,⟨some 23, (some (17,false)),.bin .eql (.t 22) (.c (vi 0))⟩,⟨some 24, none,.pick (.t 17) (.c (.bool true)) (.t 23)⟩] [0,1,24] []
def z140r3:IC:=.reg [⟨some 4, none,.asg (.c (vi 0))⟩] [4] []
def z140r4:IC:=.reg [⟨some 25, none,.mv (.t 0)⟩,⟨some 26, none,.nilck (.t 25)⟩,⟨some 27, none,.fadr 1 (.t 26)⟩,⟨some 28, none,.load false 1 (.t 27)⟩,⟨some 29, none,.bin .sub (.t 28) (.c (vi 1))⟩,⟨some 5, none,.asg (.t 29)⟩] [0,1,5] []
def z140r5:IC:=.reg [⟨some 30, none,.mv (.t 5)⟩,⟨some 31, none,.mv (.t 0)⟩,⟨some 32, none,.nilck (.t 31)⟩,⟨some 33, none,.fadr 0 (.t 32)⟩,⟨some 34, none,.load false 1 (.t 33)⟩,⟨some 35, none,.len (.t 34)⟩,⟨some 36, none,.bin .lss (.t 30) (.t 35)⟩] [0,1,5,36] []
def z140r6:IC:=.reg [⟨some 37, none,.mv (.t 0)⟩,⟨some 38, none,.nilck (.t 37)⟩,⟨some 39, none,.fadr 0 (.t 38)⟩,⟨some 40, none,.load false 1 (.t 39)⟩,⟨some 41, none,.mv (.t 5)⟩,⟨some 42, none,.iadr 1 (.t 40) (.t 41)⟩,⟨some 43, none,.load false 1 (.t 42)⟩,⟨some 44, none,.conv .i64 (.t 43)⟩,⟨some 45, none,.mv (.t 1)⟩,⟨some 46, none,.bin .rem (.t 44) (.t 45)⟩,⟨some 4, none,.asg (.t 46)⟩] [4] []
def z140r7:IC:=.reg [⟨some 47, none,.mv (.t 0)⟩,⟨some 48, none,.nilck (.t 47)⟩,⟨some 49, none,.fadr 0 (.t 48)⟩,⟨some 50, none,.load false 1 (.t 49)⟩,⟨some 51, none,.mv (.t 5)⟩,⟨some 52, none,.mv (.t 0)⟩,⟨some 53, none,.nilck (.t 52)⟩,⟨some 54, none,.fadr 0 (.t 53)⟩,⟨some 55, none,.load false 1 (.t 54)⟩,⟨some 56, none,.len (.t 55)⟩,⟨some 57, none,.bin .rem (.t 51) (.t 56)⟩,⟨some 58, none,.iadr 1 (.t 50) (.t 57)⟩,⟨some 59, none,.load false 1 (.t 58)⟩,⟨some 60, none,.conv .i64 (.t 59)⟩,⟨some 61, none,.bin .mul (.t 60) (.c (vi 131))⟩,⟨some 62, none,.mv (.t 0)⟩,⟨some 63, none,.nilck (.t 62)⟩,⟨some 64, none,.fadr 0 (.t 63)⟩,⟨some 65, none,.load false 1 (.t 64)⟩,⟨some 66, none,.mv (.t 5)⟩,⟨some 67, none,.bin .mul (.t 66) (.c (vi 7))⟩,⟨some 68, none,.bin .add (.t 67) (.c (vi 3))⟩,⟨some 69, none,.mv (.t 0)⟩,⟨some 70, none,.nilck (.t 69)⟩,⟨some 71, none,.fadr 0 (.t 70)⟩,
    ⟨some 72, none,.load false 1 (.t 71)⟩,⟨some 73, none,.len (.t 72)⟩,⟨some 74, none,.bin .rem (.t 68) (.t 73)⟩,⟨some 75, none,.iadr 1 (.t 65) (.t 74)⟩,⟨some 76, none,.load false 1 (.t 75)⟩,⟨some 77, none,.conv .i64 (.t 76)⟩,⟨some 78, none,.bin .mul (.t 77) (.c (vi 1117))⟩,⟨some 79, none,.bin .add (.t 61) (.t 78)⟩,⟨some 80, none,.mv (.t 5)⟩,⟨some 81, none,.bin .mul (.t 80) (.c (vi 29))⟩,⟨some 82, none,.bin .add (.t 79) (.t 81)⟩,⟨some 83, none,.mv (.t 5)⟩,⟨some 84, none,.mv (.t 0)⟩,⟨some 85, none,.nilck (.t 84)⟩,⟨some 86, none,.fadr 0 (.t 85)⟩,⟨some 87, none,.load false 1 (.t 86)⟩,⟨some 88, none,.len (.t 87)⟩,⟨some 89, none,.bin .quo (.t 83) (.t 88)⟩,⟨some 90, none,.bin .mul (.t 89) (.c (vi 53))⟩,⟨some 91, none,.bin .add (.t 82) (.t 90)⟩,⟨some 6, none,.asg (.t 91)⟩] [1,6] []
def z140r8:IC:=.reg [⟨some 92, none,.mv (.t 6)⟩,⟨some 93, none,.mv (.t 6)⟩,⟨some 94, none,.bin .quo (.t 93) (.c (vi 64))⟩,⟨some 95, none,.bin .xor (.t 92) (.t 94)⟩,⟨some 6, none,.asg (.t 95)⟩] [1,6] []
def z140r9:IC:=.reg [⟨some 96, none,.mv (.t 6)⟩,⟨some 97, none,.mv (.t 1)⟩,⟨some 98, none,.bin .rem (.t 96) (.t 97)⟩,⟨some 4, none,.asg (.t 98)⟩] [4] []
def zi140:IFun:=⟨[.t 4],[],(.seq z140r0 (.seq z140r1 (.seq (.seq z140r2 (.cond (.t 24) (.seq z140r3 .ret) .skip)) (.seq z140r4 (.seq (.seq z140r5 (.cond (.t 36) (.seq z140r6 .ret) .skip)) (.seq z140r7 (.seq z140r8 (.seq z140r9 .ret))))))))⟩
def z378r0:IC:=.reg [⟨some 2, none,.alloc [(vi 0),(.slice none 0 0)]⟩] [0,2] []
def z378r1:IC:=.reg [⟨some 5, none,.mv (.t 0)⟩,⟨some 6, none,.callh zl129 [(.val,(.t 5))]⟩,⟨some 3, none,.alloc [(vi 0),(.slice none 0 0)]⟩,⟨none,none,.store 2 (.t 3) (.t 6)⟩] [0,2,3] []
def z378r2:IC:=.reg [⟨some 7, none,.fadr 1 (.t 3)⟩,⟨some 8, none,.load false 1 (.t 7)⟩,⟨some 9, none,.len (.t 8)⟩,⟨some 10, none,.bin .gtr (.t 9) (.c (vi 0))⟩] [0,2,3,10] []
def z378r3:IC:=.reg [⟨some 11, none,.mv (.t 0)⟩,⟨some 12, none,.fadr 1 (.t 3)⟩,⟨some 13, none,.load false 1 (.t 12)⟩,⟨some 14, none,.len (.t 13)⟩,⟨some 15, none,.callh zl140 [(.val,(.t 11)),(.val,(.t 14))]⟩,⟨some 4, none,.asg (.t 15)⟩] [0,2,3,4] []
def z378r4:IC:=.reg [⟨some 16, none,.mv (.t 0)⟩,⟨some 17, none,.callh zl140 [(.val,(.t 16)),(.val,(.c (vi 30)))]⟩] [0,2,3,4,17] []
def z378r5:IC:=.reg [⟨some 19, none,.bin .eql (.t 17) (.c (vi 0))⟩,⟨some 18, none,.asg (.t 19)⟩] [0,2,3,4,17,18] []
def z378r6:IC:=.reg [⟨some 20, none,.fadr 1 (.t 3)⟩,⟨some 21, none,.load false 1 (.t 20)⟩,⟨some 22, none,.mv (.t 4)⟩,⟨some 23, none,.mv (.t 0)⟩,⟨some 24, none,.fadr 1 (.t 3)⟩,⟨some 25, none,.load false 1 (.t 24)⟩,⟨some 26, none,.mv (.t 4)⟩,⟨some 27, none,.iadr 2 (.t 25) (.t 26)⟩,⟨some 28, none,.fadr 1 (.t 27)⟩,⟨some 29, none,.load false 1 (.t 28)⟩,⟨some 30, none,.bsl 1 [(vi 0)] 3 [(0,(.c (vi (-1)))),(1,(.c (vi 7))),(2,(.t 29))]⟩,⟨some 31, none,.callh zl139 [(.val,(.t 23)),(.rd,(.t 30))]⟩,⟨some 32, none,.iadr 2 (.t 21) (.t 22)⟩,⟨some 33, none,.fadr 0 (.t 32)⟩,⟨none,none,.store 1 (.t 33) (.t 31)⟩] [2,3] [[0,2,3,4,5,6,7,8,9,10,1,11,12,13,14],[0,2,3,4,5,6,7,8,9,10,11,1,12,13,14]]
def z378r7:IC:=.reg [⟨some 35, none,.bin .eql (.t 17) (.c (vi 1))⟩,⟨some 34, none,.asg (.t 35)⟩] [0,2,3,4,17,34] []
def z378r8:IC:=.reg [⟨some 36, none,.fadr 1 (.t 3)⟩,⟨some 37, none,.load false 1 (.t 36)⟩,⟨some 38, none,.fadr 1 (.t 3)⟩,⟨some 39, none,.load false 1 (.t 38)⟩,⟨some 40, none,.mv (.t 4)⟩,⟨some 41, none,.iadr 2 (.t 39) (.t 40)⟩,⟨some 42, none,.load true 2 (.t 41)⟩,⟨some 43, none,.bsl 2 [(vi 0),(vi 0)] 1 [(0,(.t 42))]⟩,⟨some 44, none,.app 2 (.t 37) (.t 43)⟩,⟨some 45, none,.fadr 1 (.t 3)⟩,⟨none,none,.store 1 (.t 45) (.t 44)⟩] [2,3] [[0,2,3,4,5,6,7,1,8,9,10]]
def z378r9:IC:=.reg [⟨some 47, none,.bin .eql (.t 17) (.c (vi 2))⟩,⟨some 46, none,.asg (.t 47)⟩] [0,2,3,46] []
def z378r10:IC:=.reg [⟨some 48, none,.mv (.t 0)⟩,⟨some 49, none,.bsl 1 [(vi 0)] 3 [(0,(.c (vi (-1)))),(1,(.c (vi 8))),(2,(.c (vi 2)))]⟩,⟨some 50, none,.callh zl139 [(.val,(.t 48)),(.rd,(.t 49))]⟩,⟨some 51, none,.fadr 0 (.t 3)⟩,⟨none,none,.store 1 (.t 51) (.t 50)⟩] [2,3] []
def z378r11:IC:=.reg [⟨some 52, none,.load true 2 (.t 3)⟩,⟨none,none,.store 2 (.t 2) (.t 52)⟩] [2] []
def zi378:IFun:=⟨[.c 2 2 true],[],(.seq z378r0 (.seq z378r1 (.seq (.seq z378r2 (.cond (.t 10) (.seq z378r3 (.seq z378r4 (.block 0 (.seq z378r5 (.cond (.t 18) z378r6 (.seq z378r7 (.cond (.t 34) z378r8 (.seq z378r9 (.cond (.t 46) z378r10 .skip))))))))) .skip)) (.seq z378r11 .ret))))⟩
def z145r0:IC:=.reg [⟨some 1, none,.box (.t 0)⟩,⟨some 2, none,.asg (.c (.bool false))⟩] [1] []
def z145r1:IC:=.reg [⟨some 3, none,.asg (.c (vi 0))⟩] [1,3] []
def z145r2:IC:=.reg [⟨some 5, none,.mv (.t 3)⟩,⟨some 6, none,.fadr 1 (.t 1)⟩,⟨some 7, none,.load false 1 (.t 6)⟩,⟨some 8, none,.len (.t 7)⟩,⟨some 9, none,.bin .lss (.t 5) (.t 8)⟩] [1,3,9] []
def z145r3:IC:=.reg [⟨some 12, none,.fadr 1 (.t 1)⟩,⟨some 13, none,.load false 1 (.t 12)⟩,⟨some 14, none,.mv (.t 3)⟩,⟨some 15, none,.iadr 2 (.t 13) (.t 14)⟩,⟨some 16, none,.load true 2 (.t 15)⟩,⟨some 4, none,.alloc [(vi 0),(vi 0)]⟩,⟨none,none,.store 2 (.t 4) (.t 16)⟩] [1,3,4] []
def z145r4:IC:=.reg [⟨some 17, none,.fadr 0 (.t 4)⟩,⟨some 18, none,.load false 1 (.t 17)⟩,⟨some 19, none,.bin .lss (.t 18) (.c (vi 0))⟩,⟨some 20, none,.asg (.t 19)⟩,⟨some 21, (some (20,false)),.fadr 0 (.t 4)⟩,⟨some 22, (some (20,false)),.load false 1 (.t 21)⟩,⟨some 23, (some (20,false)),.fadr 1 (.t 4)⟩,⟨some 24, (some (20,false)),.load false 1 (.t 23)⟩,⟨some 25, (some (20,false)),.bin .geq (.t 22) (.t 24)⟩,⟨some 26, none,.pick (.t 20) (.c (.bool true)) (.t 25)⟩,⟨some 27, none,.asg (.t 26)⟩,⟨some 28, (some (27,false)),.fadr 1 (.t 4)⟩,⟨some 29, (some (27,false)),.load false 1 (.t 28)⟩,⟨some 30, (some (27,false)),.fadr 0 (.t 1)⟩,⟨some 31, (some (27,false)),.load false 1 (.t 30)⟩,⟨some 32, (some (27,false)),.bin .geq (.t 29) (.t 31)⟩,⟨some 33, none,.pick (.t 27) (.c (.bool true)) (.t 32)⟩,⟨some 34, none,.asg (.t 33)⟩,⟨some 35, (some (34,false)),.mv (.t 3)⟩,
    ⟨some 36, (some (34,false)),.bin .gtr (.t 35) (.c (vi 0))⟩,⟨some 37, (some (34,false)),.asg (.t 36)⟩,⟨some 38, (some (37,true)),.fadr 1 (.t 1)⟩,⟨some 39, (some (37,true)),.load false 1 (.t 38)⟩,⟨some 40, (some (37,true)),.mv (.t 3)⟩,⟨some 41, (some (37,true)),.bin .sub (.t 40) (.c (vi 1))⟩,⟨some 42, (some (37,true)),.iadr 2 (.t 39) (.t 41)⟩,⟨some 43, (some (37,true)),.load true 2 (.t 42)⟩,⟨some 44, (some (37,true)),.load true 2 (.t 4)⟩,⟨some 45, (some (37,true)),.call zl126 [(.val,(.t 43)),(.val,(.t 44))] true⟩,⟨some 46, (some (37,true)),.unop .not (.t 45)⟩,⟨some 47, (some (34,false)),.pick (.t 37) (.t 46) (.c (.bool false))⟩,⟨some 48, none,.pick (.t 34) (.c (.bool true)) (.t 47)⟩] [1,3,48] []
def z145r5:IC:=.reg [⟨some 2, none,.asg (.c (.bool false))⟩] [2] []
def z145r6:IC:=.reg [⟨some 10, none,.mv (.t 3)⟩,⟨some 11, none,.bin .add (.t 10) (.c (vi 1))⟩,⟨some 3, none,.asg (.t 11)⟩] [1,3] []
def z145l7:IC:=(.seq (.seq z145r2 (.cond (.t 9) .skip (.exit 0))) (.seq (.block 1 (.seq z145r3 (.seq z145r4 (.cond (.t 48) (.seq z145r5 .ret) .skip)))) z145r6))
def z145r8:IC:=.reg [⟨some 49, none,.fadr 0 (.t 1)⟩,⟨some 50, none,.load false 1 (.t 49)⟩,⟨some 51, none,.call zl132 [(.val,(.t 50)),(.val,(.c (vi 0))),(.val,(.c (vi 7)))] true⟩,⟨some 2, none,.asg (.t 51)⟩] [2] []
def zi145:IFun:=⟨[.t 2],[],(.seq z145r0 (.seq (.seq z145r1 (.block 0 (.loop z145l7))) (.seq z145r8 .ret)))⟩
def tbl:List (Nat×IFun):=[(zl2,zi2),(zl4,zi4),(zl149,zi149),(zl150,zi150),(zl151,zi151),(zl406,zi406),(zl407,zi407),(zl154,zi154),(zl155,zi155),(zl156,zi156),(zl157,zi157),(zl161,zi161),(zl9,zi9),(zl171,zi171),(zl459,zi459),(zl187,zi187),(zl25,zi25),(zl26,zi26),(zl29,zi29),(zl30,zi30),(zl31,zi31),(zl205,zi205),(zl32,zi32),(zl206,zi206),(zl35,zi35),(zl36,zi36),(zl37,zi37),(zl38,zi38),(zl212,zi212),(zl216,zi216),(zl220,zi220),(zl466,zi466),(zl53,zi53),(zl66,zi66),(zl68,zi68),(zl258,zi258),(zl70,zi70),(zl71,zi71),(zl72,zi72),(zl263,zi263),(zl266,zi266),(zl267,zi267),(zl73,zi73),(zl449,zi449),(zl269,zi269),(zl76,zi76),(zl78,zi78),(zl86,zi86),(zl101,zi101),(zl481,zi481),(zl299,zi299),(zl330,zi330),(zl118,zi118),(zl335,zi335),(zl339,zi339),(zl340,zi340),(zl122,zi122),(zl125,zi125),(zl348,zi348),(zl126,zi126),(zl129,zi129),(zl130,zi130),(zl131,zi131),(zl132,zi132),(zl363,zi363),(zl137,zi137),(zl138,zi138),(zl368,zi368),(zl139,zi139),(zl140,zi140),(zl378,zi378),(zl145,zi145)]
def tb:Tbl:=tbOf tbl
theorem zt2:tb zl2=some zi2:=by kernel_rfl
theorem zt4:tb zl4=some zi4:=by kernel_rfl
theorem zt149:tb zl149=some zi149:=by kernel_rfl
theorem zt150:tb zl150=some zi150:=by kernel_rfl
theorem zt151:tb zl151=some zi151:=by kernel_rfl
theorem zt406:tb zl406=some zi406:=by kernel_rfl
theorem zt407:tb zl407=some zi407:=by kernel_rfl
theorem zt154:tb zl154=some zi154:=by kernel_rfl
theorem zt155:tb zl155=some zi155:=by kernel_rfl
theorem zt156:tb zl156=some zi156:=by kernel_rfl
theorem zt157:tb zl157=some zi157:=by kernel_rfl
theorem zt161:tb zl161=some zi161:=by kernel_rfl
theorem zt9:tb zl9=some zi9:=by kernel_rfl
theorem zt171:tb zl171=some zi171:=by kernel_rfl
theorem zt459:tb zl459=some zi459:=by kernel_rfl
theorem zt187:tb zl187=some zi187:=by kernel_rfl
theorem zt25:tb zl25=some zi25:=by kernel_rfl
theorem zt26:tb zl26=some zi26:=by kernel_rfl
theorem zt29:tb zl29=some zi29:=by kernel_rfl
theorem zt30:tb zl30=some zi30:=by kernel_rfl
theorem zt31:tb zl31=some zi31:=by kernel_rfl
theorem zt205:tb zl205=some zi205:=by kernel_rfl
theorem zt32:tb zl32=some zi32:=by kernel_rfl
theorem zt206:tb zl206=some zi206:=by kernel_rfl
theorem zt35:tb zl35=some zi35:=by kernel_rfl
theorem zt36:tb zl36=some zi36:=by kernel_rfl
theorem zt37:tb zl37=some zi37:=by kernel_rfl
theorem zt38:tb zl38=some zi38:=by kernel_rfl
theorem zt212:tb zl212=some zi212:=by kernel_rfl
theorem zt216:tb zl216=some zi216:=by kernel_rfl
theorem zt220:tb zl220=some zi220:=by kernel_rfl
theorem zt466:tb zl466=some zi466:=by kernel_rfl
theorem zt53:tb zl53=some zi53:=by kernel_rfl
theorem zt66:tb zl66=some zi66:=by kernel_rfl
theorem zt68:tb zl68=some zi68:=by kernel_rfl
theorem zt258:tb zl258=some zi258:=by kernel_rfl
theorem zt70:tb zl70=some zi70:=by kernel_rfl
theorem zt71:tb zl71=some zi71:=by kernel_rfl
theorem zt72:tb zl72=some zi72:=by kernel_rfl
theorem zt263:tb zl263=some zi263:=by kernel_rfl
theorem zt266:tb zl266=some zi266:=by kernel_rfl
theorem zt267:tb zl267=some zi267:=by kernel_rfl
theorem zt73:tb zl73=some zi73:=by kernel_rfl
theorem zt449:tb zl449=some zi449:=by kernel_rfl
theorem zt269:tb zl269=some zi269:=by kernel_rfl
theorem zt76:tb zl76=some zi76:=by kernel_rfl
theorem zt78:tb zl78=some zi78:=by kernel_rfl
theorem zt86:tb zl86=some zi86:=by kernel_rfl
theorem zt101:tb zl101=some zi101:=by kernel_rfl
theorem zt481:tb zl481=some zi481:=by kernel_rfl
theorem zt299:tb zl299=some zi299:=by kernel_rfl
theorem zt330:tb zl330=some zi330:=by kernel_rfl
theorem zt118:tb zl118=some zi118:=by kernel_rfl
theorem zt335:tb zl335=some zi335:=by kernel_rfl
theorem zt339:tb zl339=some zi339:=by kernel_rfl
theorem zt340:tb zl340=some zi340:=by kernel_rfl
theorem zt122:tb zl122=some zi122:=by kernel_rfl
theorem zt125:tb zl125=some zi125:=by kernel_rfl
theorem zt348:tb zl348=some zi348:=by kernel_rfl
theorem zt126:tb zl126=some zi126:=by kernel_rfl
theorem zt129:tb zl129=some zi129:=by kernel_rfl
theorem zt130:tb zl130=some zi130:=by kernel_rfl
theorem zt131:tb zl131=some zi131:=by kernel_rfl
theorem zt132:tb zl132=some zi132:=by kernel_rfl
theorem zt363:tb zl363=some zi363:=by kernel_rfl
theorem zt137:tb zl137=some zi137:=by kernel_rfl
theorem zt138:tb zl138=some zi138:=by kernel_rfl
theorem zt368:tb zl368=some zi368:=by kernel_rfl
theorem zt139:tb zl139=some zi139:=by kernel_rfl
theorem zt140:tb zl140=some zi140:=by kernel_rfl
theorem zt378:tb zl378=some zi378:=by kernel_rfl
theorem zt145:tb zl145=some zi145:=by kernel_rfl
end Go.Idl
