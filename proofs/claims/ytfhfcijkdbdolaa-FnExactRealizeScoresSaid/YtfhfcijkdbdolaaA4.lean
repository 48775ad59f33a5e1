/- Part 4 of a proof by an ideal interpreter of the code: its definitions and lemmas. Conditions: none. -/
import Derived.KernelRfl
import Derived.Test.YtfhfcijkdbdolaaA3
set_option linter.all false
set_option linter.unusedVariables false
set_option linter.unusedSimpArgs false
namespace Go.Idl
open Go
abbrev vi (n:Int):Value:=.int .i64 n
abbrev zl2:Lab:=2
abbrev zl4:Lab:=4
abbrev zl11:Lab:=11
abbrev zl29:Lab:=29
abbrev zl30:Lab:=30
abbrev zl31:Lab:=31
abbrev zl37:Lab:=37
abbrev zl38:Lab:=38
abbrev zl39:Lab:=39
abbrev zl40:Lab:=40
abbrev zl41:Lab:=41
abbrev zl66:Lab:=66
abbrev zl67:Lab:=67
abbrev zl68:Lab:=68
abbrev zl70:Lab:=70
abbrev zl71:Lab:=71
abbrev zl72:Lab:=72
abbrev zl73:Lab:=73
abbrev zl75:Lab:=75
abbrev zl76:Lab:=76
abbrev zl78:Lab:=78
abbrev zl80:Lab:=80
abbrev zl82:Lab:=82
abbrev zl84:Lab:=84
abbrev zl86:Lab:=86
abbrev zl95:Lab:=95
abbrev zl98:Lab:=98
abbrev zl99:Lab:=99
abbrev zl101:Lab:=101
abbrev zl103:Lab:=103
abbrev zl123:Lab:=123
abbrev zl127:Lab:=127
abbrev zl131:Lab:=131
abbrev zl132:Lab:=132
abbrev zl212:Lab:=212
abbrev zl233:Lab:=233
abbrev zl241:Lab:=241
abbrev zl243:Lab:=243
abbrev zl248:Lab:=248
abbrev zl273:Lab:=273
abbrev zl278:Lab:=278
abbrev zl289:Lab:=289
abbrev zl291:Lab:=291
abbrev zl360:Lab:=360
abbrev zl382:Lab:=382
abbrev zl388:Lab:=388
abbrev zl461:Lab:=461
abbrev zl462:Lab:=462
abbrev zl463:Lab:=463
abbrev zl492:Lab:=492
abbrev zl493:Lab:=493
abbrev zl528:Lab:=528
abbrev zl542:Lab:=542
abbrev zl545:Lab:=545
abbrev zl546:Lab:=546
abbrev zl577:Lab:=577
def z2r0:IC:=.reg [⟨some 4, none,.asg (.c (.bool false))⟩] [0,1] []
def z2r1:IC:=.reg [⟨some 5, none,.mv (.t 0)⟩,⟨some 6, none,.call zl4 [(.val,(.t 5))] true⟩,⟨some 7, none,.asg (.t 6)⟩,⟨some 8, (some (7,true)),.mv (.t 1)⟩,⟨some 9, (some (7,true)),.call zl4 [(.val,(.t 8))] true⟩,⟨some 10, (some (7,true)),.unop .not (.t 9)⟩,⟨some 11, none,.pick (.t 7) (.t 10) (.c (.bool false))⟩,⟨some 12, none,.asg (.t 11)⟩,⟨some 13, (some (12,false)),.mv (.t 0)⟩,⟨some 14, (some (12,false)),.mv (.t 1)⟩,⟨some 15, (some (12,false)),.bin .lss (.t 13) (.t 14)⟩,⟨some 16, none,.pick (.t 12) (.c (.bool true)) (.t 15)⟩,⟨some 4, none,.asg (.t 16)⟩] [4] []
def zi2:IFun:=⟨[.t 4],[],(.seq z2r0 (.seq z2r1 .ret))⟩
def z4r0:IC:=.reg [⟨some 2, none,.asg (.c (.bool false))⟩] [0] []
def z4r1:IC:=.reg [⟨some 3, none,.mv (.t 0)⟩,⟨some 4, none,.mv (.t 0)⟩,⟨some 5, none,.bin .neq (.t 3) (.t 4)⟩,⟨some 2, none,.asg (.t 5)⟩] [2] []
def zi4:IFun:=⟨[.t 2],[],(.seq z4r0 (.seq z4r1 .ret))⟩
def z11r0:IC:=.reg [⟨some 2, none,.asg (.c (.bool false))⟩] [0] []
def z11r1:IC:=.reg [⟨some 4, none,.mv (.t 0)⟩,⟨some 5, none,.len (.t 4)⟩,⟨some 6, none,.call zl38 [(.val,(.t 5)),(.val,(.c (vi 1))),(.val,(.c (vi 5)))] true⟩,⟨some 7, none,.unop .not (.t 6)⟩,⟨some 8, none,.asg (.t 7)⟩,⟨some 9, (some (8,false)),.mv (.t 0)⟩,⟨some 10, (some (8,false)),.mv (.t 0)⟩,⟨some 11, (some (8,false)),.len (.t 10)⟩,⟨some 12, (some (8,false)),.bin .sub (.t 11) (.c (vi 1))⟩,⟨some 13, (some (8,false)),.call zl29 [(.rd,(.t 9)),(.val,(.c (vi 0))),(.val,(.t 12))] true⟩,⟨some 14, (some (8,false)),.unop .not (.t 13)⟩,⟨some 15, none,.pick (.t 8) (.c (.bool true)) (.t 14)⟩] [0,15] []
def z11r2:IC:=.reg [⟨some 2, none,.asg (.c (.bool false))⟩] [2] []
def z11r3:IC:=.reg [⟨some 16, none,.mv (.t 0)⟩,⟨some 17, none,.call zl39 [(.rd,(.t 16))] true⟩,⟨some 3, none,.asg (.t 17)⟩] [3] []
def z11r4:IC:=.reg [⟨some 18, none,.mv (.t 3)⟩,⟨some 19, none,.call zl75 [(.rd,(.t 18))] true⟩,⟨some 20, none,.bin .geq (.t 19) (.c (vi 0))⟩,⟨some 21, none,.asg (.t 20)⟩,⟨some 22, (some (21,true)),.mv (.t 3)⟩,⟨some 23, (some (21,true)),.mv (.t 3)⟩,⟨some 24, (some (21,true)),.len (.t 23)⟩,⟨some 25, (some (21,true)),.bin .sub (.t 24) (.c (vi 1))⟩,⟨some 26, (some (21,true)),.iadr 1 (.t 22) (.t 25)⟩,⟨some 27, (some (21,true)),.load false 1 (.t 26)⟩,⟨some 28, (some (21,true)),.bin .eql (.t 27) (.c (vi 0))⟩,⟨some 29, none,.pick (.t 21) (.t 28) (.c (.bool false))⟩,⟨some 2, none,.asg (.t 29)⟩] [2] []
def zi11:IFun:=⟨[.t 2],[],(.seq z11r0 (.seq (.seq z11r1 (.cond (.t 15) (.seq z11r2 .ret) .skip)) (.seq z11r3 (.seq z11r4 .ret))))⟩
def z461r0:IC:=.reg [⟨some 2, none,.asg (.c (.slice none 0 0))⟩,⟨some 3, none,.asg (.c (.bool false))⟩] [0] []
def z461r1:IC:=.reg [⟨some 11, none,.mv (.t 0)⟩,⟨some 12, none,.call zl11 [(.rd,(.t 11))] true⟩,⟨some 13, none,.unop .not (.t 12)⟩] [0,13] []
def z461r2:IC:=.reg [⟨some 2, none,.asg (.c (.slice none 0 0))⟩,⟨some 3, none,.asg (.c (.bool false))⟩] [2,3,6] []
def z461r3:IC:=.reg [⟨some 14, none,.mv (.t 0)⟩,⟨some 15, none,.len (.t 14)⟩,⟨some 4, none,.asg (.t 15)⟩] [0,4] []
def z461r4:IC:=.reg [⟨some 16, none,.mv (.t 0)⟩,⟨some 17, none,.call zl31 [(.rd,(.t 16))] true⟩,⟨some 5, none,.alloc [(.slice none 0 0)]⟩,⟨none,none,.store 1 (.t 5) (.t 17)⟩] [4,5] []
def z461r5:IC:=.reg [⟨some 18, none,.mv (.t 4)⟩,⟨some 19, none,.mv (.t 4)⟩,⟨some 20, none,.call zl41 [(.val,(.t 18)),(.val,(.t 19)),(.val,(.f zl462))] false⟩,⟨some 6, none,.asg (.t 20)⟩] [4,5,6] []
def z461r6:IC:=.reg [⟨some 21, none,.mv (.t 4)⟩,⟨some 22, none,.mv (.c (vi 0))⟩] [4,5,6,21,22] []
def z461r7:IC:=.reg [⟨some 23, none,.bin .lss (.t 22) (.t 21)⟩] [4,5,6,21,22,23] []
def z461r8:IC:=.reg [⟨some 24, none,.asg (.t 22)⟩,⟨some 7, none,.asg (.t 24)⟩] [4,5,6,7,21,22] []
def z461r9:IC:=.reg [⟨some 25, none,.mv (.t 4)⟩,⟨some 26, none,.call zl212 [(.val,(.t 25)),(.val,(.c (vi (-1))))] true⟩,⟨some 27, none,.mv (.t 7)⟩,⟨some 28, none,.bin .add (.t 27) (.c (vi 1))⟩,⟨some 29, none,.slc 1 (.t 26) (some (.t 28)) none none⟩,⟨some 8, none,.asgm (.t 29)⟩] [4,5,6,7,8,21,22,26] []
def z461r10:IC:=.reg [⟨some 30, none,.mv (.t 8)⟩,⟨some 31, none,.mkfn zl463 [(.t 5)]⟩,⟨some 32, none,.call zl273 [(.ld,(.t 30)),(.val,(.t 31))] false⟩] [4,5,6,7,8,21,22,26] []
def z461r11:IC:=.reg [⟨some 33, none,.mv (.t 8)⟩,⟨some 34, none,.len (.t 33)⟩,⟨some 35, none,.mv (.c (vi 0))⟩] [4,5,6,7,8,21,22,26,33,34,35] []
def z461r12:IC:=.reg [⟨some 36, none,.bin .lss (.t 35) (.t 34)⟩] [4,5,6,7,8,21,22,26,33,34,35,36] []
def z461r13:IC:=.reg [⟨some 37, none,.asg (.t 35)⟩,⟨some 38, none,.iadr 1 (.t 33) (.t 35)⟩,⟨some 39, none,.load false 1 (.t 38)⟩,⟨some 9, none,.asg (.t 37)⟩,⟨some 10, none,.asg (.t 39)⟩] [4,5,6,7,8,9,10,21,22,26,33,34,35] []
def z461r14:IC:=.reg [⟨some 40, none,.mv (.t 9)⟩,⟨some 41, none,.load false 1 (.t 5)⟩,⟨some 42, none,.mv (.t 7)⟩,⟨some 43, none,.iadr 1 (.t 41) (.t 42)⟩,⟨some 44, none,.load false 1 (.t 43)⟩,⟨some 45, none,.bin .lss (.t 40) (.t 44)⟩] [4,5,6,7,8,10,21,22,26,33,34,35,45] []
def z461r15:IC:=.reg [⟨some 46, none,.mv (.t 6)⟩,⟨some 47, none,.mv (.t 7)⟩,⟨some 48, none,.iadr 1 (.t 46) (.t 47)⟩,⟨some 49, none,.load false 1 (.t 48)⟩,⟨some 50, none,.mv (.t 10)⟩,⟨some 51, none,.iadr 1 (.t 49) (.t 50)⟩,⟨none,none,.store 1 (.t 51) (.c (vi 1))⟩] [4,5,6,7,8,21,22,26,33,34,35] []
def z461r16:IC:=.reg [⟨some 52, none,.mv (.t 6)⟩,⟨some 53, none,.mv (.t 10)⟩,⟨some 54, none,.iadr 1 (.t 52) (.t 53)⟩,⟨some 55, none,.load false 1 (.t 54)⟩,⟨some 56, none,.mv (.t 7)⟩,⟨some 57, none,.iadr 1 (.t 55) (.t 56)⟩,⟨none,none,.store 1 (.t 57) (.c (vi 1))⟩] [4,5,6,7,8,10,21,22,26,33,34,35] []
def z461r17:IC:=.reg [⟨some 58, none,.load false 1 (.t 5)⟩,⟨some 59, none,.mv (.t 10)⟩,⟨some 60, none,.iadr 1 (.t 58) (.t 59)⟩,⟨some 61, none,.load false 1 (.t 60)⟩,⟨some 62, none,.bin .sub (.t 61) (.c (vi 1))⟩,⟨some 63, none,.iadr 1 (.t 58) (.t 59)⟩,⟨none,none,.store 1 (.t 63) (.t 62)⟩] [4,5,6,7,8,21,22,26,33,34,35] []
def z461r18:IC:=.reg [⟨some 64, none,.bin .add (.t 35) (.c (vi 1))⟩,⟨some 35, none,.asg (.t 64)⟩] [4,5,6,7,8,21,22,26,33,34,35] []
def z461l19:IC:=(.seq z461r12 (.seq (.cond (.t 36) .skip (.exit 2)) (.seq (.block 3 (.seq z461r13 (.seq z461r14 (.cond (.t 45) z461r15 (.seq z461r16 z461r17))))) z461r18)))
def z461r20:IC:=.reg [⟨some 65, none,.bin .add (.t 22) (.c (vi 1))⟩,⟨some 22, none,.asg (.t 65)⟩] [4,5,6,21,22] []
def z461l21:IC:=(.seq z461r7 (.seq (.cond (.t 23) .skip (.exit 0)) (.seq (.block 1 (.seq z461r8 (.seq z461r9 (.seq z461r10 (.seq z461r11 (.block 2 (.loop z461l19))))))) z461r20)))
def z461r22:IC:=.reg [⟨some 66, none,.mv (.t 6)⟩,⟨some 2, none,.asgm (.t 66)⟩,⟨some 3, none,.asg (.c (.bool true))⟩] [2,3,6] []
def zi461:IFun:=⟨[.t 2,.t 3],[],(.seq z461r0 (.seq (.seq z461r1 (.cond (.t 13) (.seq z461r2 .ret) .skip)) (.seq z461r3 (.seq z461r4 (.seq z461r5 (.seq (.seq z461r6 (.block 0 (.loop z461l21))) (.seq z461r22 .ret)))))))⟩
def z462r0:IC:=.reg [⟨some 4, none,.asg (.c (vi 0))⟩] [] []
def z462r1:IC:=.reg [⟨some 4, none,.asg (.c (vi 0))⟩] [4] []
def zi462:IFun:=⟨[.t 4],[],(.seq z462r0 (.seq z462r1 .ret))⟩
def z463r0:IC:=.reg [⟨some 5, none,.asg (.c (vi 0))⟩] [0,1,2] []
def z463r1:IC:=.reg [⟨some 6, none,.load false 1 (.t 2)⟩,⟨some 7, none,.mv (.t 0)⟩,⟨some 8, none,.iadr 1 (.t 6) (.t 7)⟩,⟨some 9, none,.load false 1 (.t 8)⟩,⟨some 10, none,.load false 1 (.t 2)⟩,⟨some 11, none,.mv (.t 1)⟩,⟨some 12, none,.iadr 1 (.t 10) (.t 11)⟩,⟨some 13, none,.load false 1 (.t 12)⟩,⟨some 14, none,.bin .sub (.t 9) (.t 13)⟩,⟨some 5, none,.asg (.t 14)⟩] [5] []
def zi463:IFun:=⟨[.t 5],[],(.seq z463r0 (.seq z463r1 .ret))⟩
def z29r0:IC:=.reg [⟨some 4, none,.box (.t 1)⟩,⟨some 5, none,.box (.t 2)⟩,⟨some 6, none,.asg (.c (.bool false))⟩] [0,4,5] []
def z29r1:IC:=.reg [⟨some 7, none,.mv (.t 0)⟩,⟨some 8, none,.mkfn zl30 [(.t 4),(.t 5)]⟩,⟨some 9, none,.call zl72 [(.rd,(.t 7)),(.val,(.t 8))] false⟩,⟨some 10, none,.unop .not (.t 9)⟩,⟨some 6, none,.asg (.t 10)⟩] [6] []
def zi29:IFun:=⟨[.t 6],[],(.seq z29r0 (.seq z29r1 .ret))⟩
def z30r0:IC:=.reg [⟨some 4, none,.asg (.c (.bool false))⟩] [0,1,2] []
def z30r1:IC:=.reg [⟨some 5, none,.mv (.t 0)⟩,⟨some 6, none,.load false 1 (.t 1)⟩,⟨some 7, none,.load false 1 (.t 2)⟩,⟨some 8, none,.call zl38 [(.val,(.t 5)),(.val,(.t 6)),(.val,(.t 7))] true⟩,⟨some 9, none,.unop .not (.t 8)⟩,⟨some 4, none,.asg (.t 9)⟩] [4] []
def zi30:IFun:=⟨[.t 4],[],(.seq z30r0 (.seq z30r1 .ret))⟩
def z31r0:IC:=.reg [⟨some 2, none,.asg (.c (.slice none 0 0))⟩] [0] []
def z31r1:IC:=.reg [⟨some 3, none,.mv (.t 0)⟩,⟨some 4, none,.call zl71 [(.rd,(.t 3))] true⟩,⟨some 5, none,.call zl70 [(.tk,(.t 4))] true⟩,⟨some 2, none,.asg (.t 5)⟩] [2] []
def zi31:IFun:=⟨[.t 2],[],(.seq z31r0 (.seq z31r1 .ret))⟩
def z37r0:IC:=.reg [⟨some 2, none,.asg (.c (.slice none 0 0))⟩] [0] []
def z37r1:IC:=.reg [⟨some 4, none,.mv (.t 0)⟩,⟨some 5, none,.call zl31 [(.rd,(.t 4))] true⟩,⟨some 3, none,.asg (.t 5)⟩] [3] []
def z37r2:IC:=.reg [⟨some 6, none,.mv (.t 3)⟩,⟨some 7, none,.call zl78 [(.ld,(.t 6))] false⟩] [3] []
def z37r3:IC:=.reg [⟨some 8, none,.mv (.t 3)⟩,⟨some 9, none,.call zl76 [(.ld,(.t 8))] false⟩] [3] []
def z37r4:IC:=.reg [⟨some 10, none,.mv (.t 3)⟩,⟨some 2, none,.asgm (.t 10)⟩] [2,3] []
def zi37:IFun:=⟨[.t 2],[],(.seq z37r0 (.seq z37r1 (.seq z37r2 (.seq z37r3 (.seq z37r4 .ret)))))⟩
def z38r0:IC:=.reg [⟨some 6, none,.asg (.c (.bool false))⟩] [0,1,2] []
def z38r1:IC:=.reg [⟨some 7, none,.mv (.t 0)⟩,⟨some 8, none,.mv (.t 1)⟩,⟨some 9, none,.bin .geq (.t 7) (.t 8)⟩,⟨some 10, none,.asg (.t 9)⟩,⟨some 11, (some (10,true)),.mv (.t 0)⟩,⟨some 12, (some (10,true)),.mv (.t 2)⟩,⟨some 13, (some (10,true)),.bin .leq (.t 11) (.t 12)⟩,⟨some 14, none,.pick (.t 10) (.t 13) (.c (.bool false))⟩,⟨some 6, none,.asg (.t 14)⟩] [6] []
def zi38:IFun:=⟨[.t 6],[],(.seq z38r0 (.seq z38r1 .ret))⟩
def z212r0:IC:=.reg [⟨some 4, none,.asg (.c (.slice none 0 0))⟩] [0,1] []
def z212r1:IC:=.reg [⟨some 5, none,.asg (.c (.slice none 0 0))⟩] [0,1,5] []
def z212r2:IC:=.reg [⟨some 7, none,.mv (.t 0)⟩,⟨some 8, none,.mv (.c (vi 0))⟩] [1,5,7,8] []
def z212r3:IC:=.reg [⟨some 9, none,.bin .lss (.t 8) (.t 7)⟩] [1,5,7,8,9] []
def z212r4:IC:=.reg [⟨some 10, none,.asg (.t 8)⟩,⟨some 6, none,.asg (.t 10)⟩] [1,5,6,7,8] []
def z212r5:IC:=.reg [⟨some 11, none,.mv (.t 6)⟩,⟨some 12, none,.mv (.t 1)⟩,⟨some 13, none,.bin .neq (.t 11) (.t 12)⟩] [1,5,6,7,8,13] []
def z212r6:IC:=.reg [⟨some 14, none,.mv (.t 5)⟩,⟨some 15, none,.mv (.t 6)⟩,⟨some 16, none,.bsl 1 [(vi 0)] 1 [(0,(.t 15))]⟩,⟨some 17, none,.app 1 (.t 14) (.t 16)⟩,⟨some 5, none,.asg (.t 17)⟩] [1,5,7,8] []
def z212r7:IC:=.reg [⟨some 18, none,.bin .add (.t 8) (.c (vi 1))⟩,⟨some 8, none,.asg (.t 18)⟩] [1,5,7,8] []
def z212l8:IC:=(.seq z212r3 (.seq (.cond (.t 9) .skip (.exit 0)) (.seq (.block 1 (.seq z212r4 (.seq z212r5 (.cond (.t 13) z212r6 .skip)))) z212r7)))
def z212r9:IC:=.reg [⟨some 19, none,.mv (.t 5)⟩,⟨some 4, none,.asgm (.t 19)⟩] [4,5] []
def zi212:IFun:=⟨[.t 4],[],(.seq z212r0 (.seq z212r1 (.seq (.seq z212r2 (.block 0 (.loop z212l8))) (.seq z212r9 .ret))))⟩
def z39r0:IC:=.reg [⟨some 2, none,.asg (.c (.slice none 0 0))⟩] [0] []
def z39r1:IC:=.reg [⟨some 6, none,.mv (.t 0)⟩,⟨some 7, none,.call zl37 [(.rd,(.t 6))] true⟩,⟨some 3, none,.asg (.t 7)⟩] [0,3] []
def z39r2:IC:=.reg [⟨some 8, none,.mv (.t 3)⟩,⟨some 9, none,.call zl76 [(.ld,(.t 8))] false⟩] [0,3] []
def z39r3:IC:=.reg [⟨some 10, none,.mv (.t 0)⟩,⟨some 11, none,.len (.t 10)⟩,⟨some 12, none,.mksl 1 [(vi 0)] (.t 11) (.t 11)⟩,⟨some 4, none,.asg (.t 12)⟩] [3,4] []
def z39r4:IC:=.reg [⟨some 13, none,.mv (.t 4)⟩,⟨some 14, none,.len (.t 13)⟩,⟨some 15, none,.mv (.c (vi 0))⟩] [3,4,14,15] []
def z39r5:IC:=.reg [⟨some 16, none,.bin .lss (.t 15) (.t 14)⟩] [3,4,14,15,16] []
def z39r6:IC:=.reg [⟨some 17, none,.asg (.t 15)⟩,⟨some 5, none,.asg (.t 17)⟩] [3,4,5,14,15] []
def z39r7:IC:=.reg [⟨some 18, none,.mv (.t 4)⟩,⟨some 19, none,.mv (.t 5)⟩,⟨some 20, none,.mv (.t 3)⟩,⟨some 21, none,.mv (.t 5)⟩,⟨some 22, none,.bin .add (.t 21) (.c (vi 1))⟩,⟨some 23, none,.slc 1 (.t 20) none (some (.t 22)) none⟩,⟨some 24, none,.call zl40 [(.rd,(.t 23))] true⟩,⟨some 25, none,.mv (.t 5)⟩,⟨some 26, none,.bin .add (.t 25) (.c (vi 1))⟩,⟨some 27, none,.mv (.t 5)⟩,⟨some 28, none,.bin .mul (.t 26) (.t 27)⟩,⟨some 29, none,.bin .quo (.t 28) (.c (vi 2))⟩,⟨some 30, none,.bin .sub (.t 24) (.t 29)⟩,⟨some 31, none,.iadr 1 (.t 18) (.t 19)⟩,⟨none,none,.store 1 (.t 31) (.t 30)⟩] [3,4,14,15] []
def z39r8:IC:=.reg [⟨some 32, none,.bin .add (.t 15) (.c (vi 1))⟩,⟨some 15, none,.asg (.t 32)⟩] [3,4,14,15] []
def z39l9:IC:=(.seq z39r5 (.seq (.cond (.t 16) .skip (.exit 0)) (.seq (.block 1 (.seq z39r6 z39r7)) z39r8)))
def z39r10:IC:=.reg [⟨some 33, none,.mv (.t 4)⟩,⟨some 2, none,.asgm (.t 33)⟩] [2,4] []
def zi39:IFun:=⟨[.t 2],[],(.seq z39r0 (.seq z39r1 (.seq z39r2 (.seq z39r3 (.seq (.seq z39r4 (.block 0 (.loop z39l9))) (.seq z39r10 .ret))))))⟩
def z40r0:IC:=.reg [⟨some 2, none,.asg (.c (vi 0))⟩] [0] []
def z40r1:IC:=.reg [⟨some 3, none,.asg (.c (vi 0))⟩] [0,3] []
def z40r2:IC:=.reg [⟨some 6, none,.mv (.t 0)⟩,⟨some 7, none,.len (.t 6)⟩,⟨some 8, none,.mv (.c (vi 0))⟩] [0,3,6,7,8] []
def z40r3:IC:=.reg [⟨some 9, none,.bin .lss (.t 8) (.t 7)⟩] [0,3,6,7,8,9] []
def z40r4:IC:=.reg [⟨some 10, none,.iadr 1 (.t 6) (.t 8)⟩,⟨some 11, none,.load false 1 (.t 10)⟩,⟨some 5, none,.asg (.t 11)⟩] [0,3,5,6,7,8] []
def z40r5:IC:=.reg [⟨some 12, none,.mv (.t 3)⟩,⟨some 13, none,.mv (.t 5)⟩,⟨some 14, none,.bin .add (.t 12) (.t 13)⟩,⟨some 3, none,.asg (.t 14)⟩] [0,3,6,7,8] []
def z40r6:IC:=.reg [⟨some 15, none,.bin .add (.t 8) (.c (vi 1))⟩,⟨some 8, none,.asg (.t 15)⟩] [0,3,6,7,8] []
def z40l7:IC:=(.seq z40r3 (.seq (.cond (.t 9) .skip (.exit 0)) (.seq (.block 1 (.seq z40r4 z40r5)) z40r6)))
def z40r8:IC:=.reg [⟨some 16, none,.mv (.t 3)⟩,⟨some 2, none,.asgm (.t 16)⟩] [2] []
def zi40:IFun:=⟨[.t 2],[],(.seq z40r0 (.seq z40r1 (.seq (.seq z40r2 (.block 0 (.loop z40l7))) (.seq z40r8 .ret))))⟩
def z41r0:IC:=.reg [⟨some 6, none,.asg (.c (.slice none 0 0))⟩] [0,1,2] []
def z41r1:IC:=.reg [⟨some 10, none,.mv (.t 0)⟩,⟨some 11, none,.mksl 1 [(.slice none 0 0)] (.t 10) (.t 10)⟩,⟨some 7, none,.asg (.t 11)⟩] [1,2,7] []
def z41r2:IC:=.reg [⟨some 12, none,.mv (.t 7)⟩,⟨some 13, none,.len (.t 12)⟩,⟨some 14, none,.mv (.c (vi 0))⟩] [1,2,7,13,14] []
def z41r3:IC:=.reg [⟨some 15, none,.bin .lss (.t 14) (.t 13)⟩] [1,2,7,13,14,15] []
def z41r4:IC:=.reg [⟨some 16, none,.asg (.t 14)⟩,⟨some 8, none,.asg (.t 16)⟩] [1,2,7,8,13,14] []
def z41r5:IC:=.reg [⟨some 17, none,.mv (.t 7)⟩,⟨some 18, none,.mv (.t 8)⟩,⟨some 19, none,.mv (.t 1)⟩,⟨some 20, none,.mksl 1 [(vi 0)] (.t 19) (.t 19)⟩,⟨some 21, none,.iadr 1 (.t 17) (.t 18)⟩,⟨none,none,.store 1 (.t 21) (.t 20)⟩] [1,2,7,8,13,14] []
def z41r6:IC:=.reg [⟨some 22, none,.mv (.t 7)⟩,⟨some 23, none,.mv (.t 8)⟩,⟨some 24, none,.iadr 1 (.t 22) (.t 23)⟩,⟨some 25, none,.load false 1 (.t 24)⟩,⟨some 26, none,.len (.t 25)⟩,⟨some 27, none,.mv (.c (vi 0))⟩] [1,2,7,8,13,14,26,27] []
def z41r7:IC:=.reg [⟨some 28, none,.bin .lss (.t 27) (.t 26)⟩] [1,2,7,8,13,14,26,27,28] []
def z41r8:IC:=.reg [⟨some 29, none,.asg (.t 27)⟩,⟨some 9, none,.asg (.t 29)⟩] [1,2,7,8,9,13,14,26,27] []
def z41r9:IC:=.reg [⟨some 30, none,.mv (.t 7)⟩,⟨some 31, none,.mv (.t 8)⟩,⟨some 32, none,.iadr 1 (.t 30) (.t 31)⟩,⟨some 33, none,.load false 1 (.t 32)⟩,⟨some 34, none,.mv (.t 9)⟩,⟨some 35, none,.mv (.t 2)⟩,⟨some 36, none,.mv (.t 8)⟩,⟨some 37, none,.mv (.t 9)⟩,⟨some 38, none,.callv (.t 35) [(.val,(.t 36)),(.val,(.t 37))]⟩,⟨some 39, none,.iadr 1 (.t 33) (.t 34)⟩,⟨none,none,.store 1 (.t 39) (.t 38)⟩] [1,2,7,8,13,14,26,27] [[0,1,2,4,5,6,7,8,3,9,10]]
def z41r10:IC:=.reg [⟨some 40, none,.bin .add (.t 27) (.c (vi 1))⟩,⟨some 27, none,.asg (.t 40)⟩] [1,2,7,8,13,14,26,27] []
def z41l11:IC:=(.seq z41r7 (.seq (.cond (.t 28) .skip (.exit 2)) (.seq (.block 3 (.seq z41r8 z41r9)) z41r10)))
def z41r12:IC:=.reg [⟨some 41, none,.bin .add (.t 14) (.c (vi 1))⟩,⟨some 14, none,.asg (.t 41)⟩] [1,2,7,13,14] []
def z41l13:IC:=(.seq z41r3 (.seq (.cond (.t 15) .skip (.exit 0)) (.seq (.block 1 (.seq z41r4 (.seq z41r5 (.seq z41r6 (.block 2 (.loop z41l11)))))) z41r12)))
def z41r14:IC:=.reg [⟨some 42, none,.mv (.t 7)⟩,⟨some 6, none,.asgm (.t 42)⟩] [6,7] []
def zi41:IFun:=⟨[.t 6],[],(.seq z41r0 (.seq z41r1 (.seq (.seq z41r2 (.block 0 (.loop z41l13))) (.seq z41r14 .ret))))⟩
def z528r0:IC:=.reg [⟨some 2, none,.asg (.c (.bool false))⟩] [0] []
def z528r1:IC:=.reg [⟨some 13, none,.mv (.t 0)⟩,⟨some 14, none,.len (.t 13)⟩,⟨some 15, none,.bin .gtr (.t 14) (.c (vi 1048576))⟩] [0,15] []
def z528r2:IC:=.reg [⟨some 2, none,.asg (.c (.bool true))⟩] [2] []
def z528r3:IC:=.reg [⟨some 17, none,.mv (.t 0)⟩,⟨some 18, none,.call zl248 [(.rd,(.t 17))] true⟩,⟨some 19, none,.call zl577 [(.rd,(.t 18))] true⟩,⟨some 16, none,.asg (.t 19)⟩,⟨some 20, none,.extr (.t 16) 0⟩,⟨some 21, none,.extr (.t 16) 1⟩,⟨some 3, none,.asg (.t 20)⟩,⟨some 4, none,.asg (.t 21)⟩] [0,3,4] []
def z528r4:IC:=.reg [⟨some 22, none,.mv (.t 0)⟩,⟨some 23, none,.call zl248 [(.rd,(.t 22))] true⟩,⟨some 5, none,.asg (.t 23)⟩] [0,3,4,5] []
def z528r5:IC:=.reg [⟨some 25, none,.mv (.t 5)⟩,⟨some 26, none,.call zl461 [(.rd,(.t 25))] true⟩,⟨some 24, none,.asg (.t 26)⟩,⟨some 27, none,.extr (.t 24) 0⟩,⟨some 28, none,.extr (.t 24) 1⟩,⟨some 6, none,.asg (.t 27)⟩,⟨some 7, none,.asg (.t 28)⟩] [0,3,4,5,6,7] []
def z528r6:IC:=.reg [⟨some 29, none,.mv (.t 6)⟩,⟨some 30, none,.mv (.t 3)⟩,⟨some 31, none,.call zl542 [(.rd,(.t 29)),(.rd,(.t 30))] true⟩,⟨some 32, none,.unop .not (.t 31)⟩,⟨some 33, none,.asg (.t 32)⟩,⟨some 34, (some (33,false)),.mv (.t 7)⟩,⟨some 35, (some (33,false)),.mv (.t 4)⟩,⟨some 36, (some (33,false)),.eqb true (.t 34) (.t 35)⟩,⟨some 37, none,.pick (.t 33) (.c (.bool true)) (.t 36)⟩] [0,3,4,5,6,7,37] []
def z528r7:IC:=.reg [⟨some 2, none,.asg (.c (.bool false))⟩] [2] []
def z528r8:IC:=.reg [⟨some 38, none,.mv (.t 5)⟩,⟨some 39, none,.mv (.t 0)⟩,⟨some 40, none,.call zl248 [(.rd,(.t 39))] true⟩,⟨some 41, none,.call zl233 [(.rd,(.t 38)),(.rd,(.t 40))] true⟩,⟨some 42, none,.unop .not (.t 41)⟩] [0,3,4,5,6,7,42] []
def z528r9:IC:=.reg [⟨some 2, none,.asg (.c (.bool false))⟩] [2] []
def z528r10:IC:=.reg [⟨some 8, none,.asg (.c (vi 1))⟩] [0,3,4,5,6,7,8] []
def z528r11:IC:=.reg [⟨some 43, none,.mv (.t 5)⟩,⟨some 44, none,.mv (.t 8)⟩,⟨some 45, none,.callm zl243 (.t 43) (.t 44)⟩,⟨some 8, none,.asg (.t 45)⟩] [0,3,4,6,7,8] []
def z528r12:IC:=.reg [⟨some 46, none,.mv (.t 8)⟩,⟨some 47, none,.bin .lss (.t 46) (.c (vi 0))⟩,⟨some 48, none,.asg (.t 47)⟩,⟨some 49, (some (48,false)),.mv (.t 6)⟩,⟨some 50, (some (48,false)),.mv (.t 3)⟩,⟨some 51, (some (48,false)),.call zl542 [(.rd,(.t 49)),(.rd,(.t 50))] true⟩,⟨some 52, (some (48,false)),.unop .not (.t 51)⟩,⟨some 53, none,.pick (.t 48) (.c (.bool true)) (.t 52)⟩,⟨some 54, none,.asg (.t 53)⟩,⟨some 55, (some (54,false)),.mv (.t 7)⟩,⟨some 56, (some (54,false)),.mv (.t 4)⟩,⟨some 57, (some (54,false)),.eqb true (.t 55) (.t 56)⟩,⟨some 58, none,.pick (.t 54) (.c (.bool true)) (.t 57)⟩] [0,3,4,6,58] []
def z528r13:IC:=.reg [⟨some 2, none,.asg (.c (.bool false))⟩] [2] []
def z528r14:IC:=.reg [⟨some 9, none,.asg (.c (vi 1))⟩] [0,3,4,6,9] []
def z528r15:IC:=.reg [⟨some 59, none,.mv (.t 6)⟩,⟨some 60, none,.mv (.t 9)⟩,⟨some 61, none,.callz zl546 (.t 59) (.t 60)⟩,⟨some 9, none,.asg (.t 61)⟩] [0,3,4,6,9] []
def z528r16:IC:=.reg [⟨some 10, none,.asg (.c (vi 1))⟩] [0,3,4,6,9,10] []
def z528r17:IC:=.reg [⟨some 62, none,.mv (.t 6)⟩,⟨some 63, none,.mv (.t 10)⟩,⟨some 64, none,.call zl545 [(.rd,(.t 62)),(.val,(.t 63))] true⟩,⟨some 10, none,.asg (.t 64)⟩] [0,3,4,6,9,10] []
def z528r18:IC:=.reg [⟨some 65, none,.mv (.t 10)⟩,⟨some 66, none,.bin .lss (.t 65) (.c (vi 0))⟩] [0,3,4,6,9,10,66] []
def z528r19:IC:=.reg [⟨some 2, none,.asg (.c (.bool false))⟩] [2] []
def z528r20:IC:=.reg [⟨some 67, none,.mv (.t 10)⟩,⟨some 68, none,.mv (.t 9)⟩,⟨some 69, none,.bin .neq (.t 67) (.t 68)⟩] [0,3,4,6,9,69] []
def z528r21:IC:=.reg [⟨some 2, none,.asg (.c (.bool false))⟩] [2] []
def z528r22:IC:=.reg [⟨some 71, none,.mv (.t 0)⟩,⟨some 72, none,.call zl248 [(.rd,(.t 71))] true⟩,⟨some 73, none,.call zl461 [(.rd,(.t 72))] true⟩,⟨some 70, none,.asg (.t 73)⟩,⟨some 74, none,.extr (.t 70) 0⟩,⟨some 75, none,.extr (.t 70) 1⟩,⟨some 11, none,.asg (.t 74)⟩,⟨some 12, none,.asg (.t 75)⟩] [3,4,6,9,11,12] []
def z528r23:IC:=.reg [⟨some 76, none,.mv (.t 11)⟩,⟨some 77, none,.mv (.t 3)⟩,⟨some 78, none,.call zl542 [(.rd,(.t 76)),(.rd,(.t 77))] true⟩,⟨some 79, none,.unop .not (.t 78)⟩,⟨some 80, none,.asg (.t 79)⟩,⟨some 81, (some (80,false)),.mv (.t 12)⟩,⟨some 82, (some (80,false)),.mv (.t 4)⟩,⟨some 83, (some (80,false)),.eqb true (.t 81) (.t 82)⟩,⟨some 84, none,.pick (.t 80) (.c (.bool true)) (.t 83)⟩] [6,9,84] []
def z528r24:IC:=.reg [⟨some 2, none,.asg (.c (.bool false))⟩] [2] []
def z528r25:IC:=.reg [⟨some 10, none,.asg (.c (vi 1))⟩] [6,9,10] []
def z528r26:IC:=.reg [⟨some 85, none,.mv (.t 6)⟩,⟨some 86, none,.mv (.t 10)⟩,⟨some 87, none,.call zl545 [(.rd,(.t 85)),(.val,(.t 86))] true⟩,⟨some 10, none,.asg (.t 87)⟩] [9,10] []
def z528r27:IC:=.reg [⟨some 88, none,.mv (.t 10)⟩,⟨some 89, none,.bin .lss (.t 88) (.c (vi 0))⟩] [9,10,89] []
def z528r28:IC:=.reg [⟨some 2, none,.asg (.c (.bool false))⟩] [2] []
def z528r29:IC:=.reg [⟨some 90, none,.mv (.t 10)⟩,⟨some 91, none,.mv (.t 9)⟩,⟨some 92, none,.bin .neq (.t 90) (.t 91)⟩] [92] []
def z528r30:IC:=.reg [⟨some 2, none,.asg (.c (.bool false))⟩] [2] []
def z528r31:IC:=.reg [⟨some 2, none,.asg (.c (.bool true))⟩] [2] []
def zi528:IFun:=⟨[.t 2],[],(.seq z528r0 (.seq (.seq z528r1 (.cond (.t 15) (.seq z528r2 .ret) .skip)) (.seq z528r3 (.seq z528r4 (.seq z528r5 (.seq (.seq z528r6 (.cond (.t 37) (.seq z528r7 .ret) .skip)) (.seq (.seq z528r8 (.cond (.t 42) (.seq z528r9 .ret) .skip)) (.seq z528r10 (.seq z528r11 (.seq (.seq z528r12 (.cond (.t 58) (.seq z528r13 .ret) .skip)) (.seq z528r14 (.seq z528r15 (.seq z528r16 (.seq z528r17 (.seq (.seq z528r18 (.cond (.t 66) (.seq z528r19 .ret) .skip)) (.seq (.seq z528r20 (.cond (.t 69) (.seq z528r21 .ret) .skip)) (.seq z528r22 (.seq (.seq z528r23 (.cond (.t 84) (.seq z528r24 .ret) .skip)) (.seq z528r25 (.seq z528r26 (.seq (.seq z528r27 (.cond (.t 89) (.seq z528r28 .ret) .skip)) (.seq (.seq z528r29 (.cond (.t 92) (.seq z528r30 .ret) .skip)) (.seq z528r31 .ret)))))))))))))))))))))))⟩
def z233r0:IC:=.reg [⟨some 4, none,.asg (.c (.bool false))⟩] [0,1] []
def z233r1:IC:=.reg [⟨some 6, none,.mv (.t 0)⟩,⟨some 7, none,.len (.t 6)⟩,⟨some 8, none,.mv (.t 1)⟩,⟨some 9, none,.len (.t 8)⟩,⟨some 10, none,.bin .neq (.t 7) (.t 9)⟩] [0,1,10] []
def z233r2:IC:=.reg [⟨some 4, none,.asg (.c (.bool false))⟩] [4] []
def z233r3:IC:=.reg [⟨some 5, none,.asg (.c (vi 0))⟩] [0,1,5] []
def z233r4:IC:=.reg [⟨some 11, none,.mv (.t 5)⟩,⟨some 12, none,.mv (.t 0)⟩,⟨some 13, none,.len (.t 12)⟩,⟨some 14, none,.bin .lss (.t 11) (.t 13)⟩] [0,1,5,14] []
def z233r5:IC:=.reg [⟨some 17, none,.mv (.t 0)⟩,⟨some 18, none,.mv (.t 5)⟩,⟨some 19, none,.iadr 1 (.t 17) (.t 18)⟩,⟨some 20, none,.load false 1 (.t 19)⟩,⟨some 21, none,.mv (.t 1)⟩,⟨some 22, none,.mv (.t 5)⟩,⟨some 23, none,.iadr 1 (.t 21) (.t 22)⟩,⟨some 24, none,.load false 1 (.t 23)⟩,⟨some 25, none,.bin .neq (.t 20) (.t 24)⟩] [0,1,5,25] []
def z233r6:IC:=.reg [⟨some 4, none,.asg (.c (.bool false))⟩] [4] []
def z233r7:IC:=.reg [⟨some 15, none,.mv (.t 5)⟩,⟨some 16, none,.bin .add (.t 15) (.c (vi 1))⟩,⟨some 5, none,.asg (.t 16)⟩] [0,1,5] []
def z233l8:IC:=(.seq (.seq z233r4 (.cond (.t 14) .skip (.exit 0))) (.seq (.block 1 (.seq z233r5 (.cond (.t 25) (.seq z233r6 .ret) .skip))) z233r7))
def z233r9:IC:=.reg [⟨some 4, none,.asg (.c (.bool true))⟩] [4] []
def zi233:IFun:=⟨[.t 4],[],(.seq z233r0 (.seq (.seq z233r1 (.cond (.t 10) (.seq z233r2 .ret) .skip)) (.seq (.seq z233r3 (.block 0 (.loop z233l8))) (.seq z233r9 .ret))))⟩
def z542r0:IC:=.reg [⟨some 4, none,.asg (.c (.bool false))⟩] [0,1] []
def z542r1:IC:=.reg [⟨some 6, none,.mv (.t 0)⟩,⟨some 7, none,.len (.t 6)⟩,⟨some 8, none,.mv (.t 1)⟩,⟨some 9, none,.len (.t 8)⟩,⟨some 10, none,.bin .neq (.t 7) (.t 9)⟩] [0,1,10] []
def z542r2:IC:=.reg [⟨some 4, none,.asg (.c (.bool false))⟩] [4] []
def z542r3:IC:=.reg [⟨some 5, none,.asg (.c (vi 0))⟩] [0,1,5] []
def z542r4:IC:=.reg [⟨some 11, none,.mv (.t 5)⟩,⟨some 12, none,.mv (.t 0)⟩,⟨some 13, none,.len (.t 12)⟩,⟨some 14, none,.bin .lss (.t 11) (.t 13)⟩] [0,1,5,14] []
def z542r5:IC:=.reg [⟨some 17, none,.mv (.t 0)⟩,⟨some 18, none,.mv (.t 5)⟩,⟨some 19, none,.iadr 1 (.t 17) (.t 18)⟩,⟨some 20, none,.load false 1 (.t 19)⟩,⟨some 21, none,.mv (.t 1)⟩,⟨some 22, none,.mv (.t 5)⟩,⟨some 23, none,.iadr 1 (.t 21) (.t 22)⟩,⟨some 24, none,.load false 1 (.t 23)⟩,⟨some 25, none,.call zl233 [(.rd,(.t 20)),(.rd,(.t 24))] true⟩,⟨some 26, none,.unop .not (.t 25)⟩] [0,1,5,26] []
def z542r6:IC:=.reg [⟨some 4, none,.asg (.c (.bool false))⟩] [4] []
def z542r7:IC:=.reg [⟨some 15, none,.mv (.t 5)⟩,⟨some 16, none,.bin .add (.t 15) (.c (vi 1))⟩,⟨some 5, none,.asg (.t 16)⟩] [0,1,5] []
def z542l8:IC:=(.seq (.seq z542r4 (.cond (.t 14) .skip (.exit 0))) (.seq (.block 1 (.seq z542r5 (.cond (.t 26) (.seq z542r6 .ret) .skip))) z542r7))
def z542r9:IC:=.reg [⟨some 4, none,.asg (.c (.bool true))⟩] [4] []
def zi542:IFun:=⟨[.t 4],[],(.seq z542r0 (.seq (.seq z542r1 (.cond (.t 10) (.seq z542r2 .ret) .skip)) (.seq (.seq z542r3 (.block 0 (.loop z542l8))) (.seq z542r9 .ret))))⟩
def z241r0:IC:=.reg [⟨some 4, none,.asg (.c (vi 0))⟩] [0,1] []
def z241r1:IC:=.reg [⟨some 5, none,.asg (.c (vi 0))⟩] [0,1,5] []
def z241r2:IC:=.reg [⟨some 6, none,.mv (.t 5)⟩,⟨some 7, none,.mv (.t 0)⟩,⟨some 8, none,.len (.t 7)⟩,⟨some 9, none,.bin .lss (.t 6) (.t 8)⟩] [0,1,5,9] []
def z241r3:IC:=.reg [⟨some 12, none,.mv (.t 0)⟩,⟨some 13, none,.mv (.t 5)⟩,⟨some 14, none,.iadr 1 (.t 12) (.t 13)⟩,⟨some 15, none,.load false 1 (.t 14)⟩,⟨some 16, none,.mv (.t 1)⟩,⟨some 17, none,.bin .neq (.t 15) (.t 16)⟩] [0,1,5,17] []
def z241r4:IC:=.reg [⟨some 4, none,.asg (.c (vi (-1)))⟩] [4] []
def z241r5:IC:=.reg [⟨some 18, none,.mv (.t 1)⟩,⟨some 19, none,.bin .add (.t 18) (.c (vi 1))⟩,⟨some 1, none,.asg (.t 19)⟩] [0,1,5] []
def z241r6:IC:=.reg [⟨some 10, none,.mv (.t 5)⟩,⟨some 11, none,.bin .add (.t 10) (.c (vi 1))⟩,⟨some 5, none,.asg (.t 11)⟩] [0,1,5] []
def z241l7:IC:=(.seq (.seq z241r2 (.cond (.t 9) .skip (.exit 0))) (.seq (.block 1 (.seq (.seq z241r3 (.cond (.t 17) (.seq z241r4 .ret) .skip)) z241r5)) z241r6))
def z241r8:IC:=.reg [⟨some 20, none,.mv (.t 1)⟩,⟨some 4, none,.asgm (.t 20)⟩] [4] []
def zi241:IFun:=⟨[.t 4],[],(.seq z241r0 (.seq (.seq z241r1 (.block 0 (.loop z241l7))) (.seq z241r8 .ret)))⟩
def z545r0:IC:=.reg [⟨some 4, none,.asg (.c (vi 0))⟩] [0,1] []
def z545r1:IC:=.reg [⟨some 5, none,.asg (.c (vi 0))⟩] [0,1,5] []
def z545r2:IC:=.reg [⟨some 6, none,.mv (.t 5)⟩,⟨some 7, none,.mv (.t 0)⟩,⟨some 8, none,.len (.t 7)⟩,⟨some 9, none,.bin .lss (.t 6) (.t 8)⟩] [0,1,5,9] []
def z545r3:IC:=.reg [⟨some 12, none,.mv (.t 0)⟩,⟨some 13, none,.mv (.t 5)⟩,⟨some 14, none,.iadr 1 (.t 12) (.t 13)⟩,⟨some 15, none,.load false 1 (.t 14)⟩,⟨some 16, none,.mv (.t 1)⟩,⟨some 17, none,.call zl241 [(.rd,(.t 15)),(.val,(.t 16))] true⟩,⟨some 1, none,.asg (.t 17)⟩] [0,1,5] []
def z545r4:IC:=.reg [⟨some 18, none,.mv (.t 1)⟩,⟨some 19, none,.bin .lss (.t 18) (.c (vi 0))⟩] [0,1,5,19] []
def z545r5:IC:=.reg [⟨some 4, none,.asg (.c (vi (-1)))⟩] [4] []
def z545r6:IC:=.reg [⟨some 10, none,.mv (.t 5)⟩,⟨some 11, none,.bin .add (.t 10) (.c (vi 1))⟩,⟨some 5, none,.asg (.t 11)⟩] [0,1,5] []
def z545l7:IC:=(.seq (.seq z545r2 (.cond (.t 9) .skip (.exit 0))) (.seq (.block 1 (.seq z545r3 (.seq z545r4 (.cond (.t 19) (.seq z545r5 .ret) .skip)))) z545r6))
def z545r8:IC:=.reg [⟨some 20, none,.mv (.t 1)⟩,⟨some 4, none,.asgm (.t 20)⟩] [4] []
def zi545:IFun:=⟨[.t 4],[],(.seq z545r0 (.seq (.seq z545r1 (.block 0 (.loop z545l7))) (.seq z545r8 .ret)))⟩
def z243r0:IC:=.reg [⟨some 4, none,.asg (.c (vi 0))⟩] [0,1] []
def z243r1:IC:=.reg [⟨some 5, none,.asg (.c (vi 0))⟩] [0,1,5] []
def z243r2:IC:=.reg [⟨some 6, none,.mv (.t 5)⟩,⟨some 7, none,.mv (.t 0)⟩,⟨some 8, none,.len (.t 7)⟩,⟨some 9, none,.bin .lss (.t 6) (.t 8)⟩] [0,1,5,9] []
def z243r3:IC:=.reg [⟨some 12, none,.mv (.t 0)⟩,⟨some 13, none,.mv (.t 5)⟩,⟨some 14, none,.mv (.t 1)⟩,⟨some 15, none,.iadr 1 (.t 12) (.t 13)⟩,⟨none,none,.store 1 (.t 15) (.t 14)⟩] [0,1,5] []
def z243r4:IC:=.reg [⟨some 16, none,.mv (.t 1)⟩,⟨some 17, none,.bin .add (.t 16) (.c (vi 1))⟩,⟨some 1, none,.asg (.t 17)⟩] [0,1,5] []
def z243r5:IC:=.reg [⟨some 10, none,.mv (.t 5)⟩,⟨some 11, none,.bin .add (.t 10) (.c (vi 1))⟩,⟨some 5, none,.asg (.t 11)⟩] [0,1,5] []
def z243l6:IC:=(.seq (.seq z243r2 (.cond (.t 9) .skip (.exit 0))) (.seq (.block 1 (.seq z243r3 z243r4)) z243r5))
def z243r7:IC:=.reg [⟨some 18, none,.mv (.t 1)⟩,⟨some 4, none,.asgm (.t 18)⟩] [0,4] []
def zi243:IFun:=⟨[.t 4],[0],(.seq z243r0 (.seq (.seq z243r1 (.block 0 (.loop z243l6))) (.seq z243r7 .ret)))⟩
def z546r0:IC:=.reg [⟨some 4, none,.asg (.c (vi 0))⟩] [0,1] []
def z546r1:IC:=.reg [⟨some 5, none,.asg (.c (vi 0))⟩] [0,1,5] []
def z546r2:IC:=.reg [⟨some 6, none,.mv (.t 5)⟩,⟨some 7, none,.mv (.t 0)⟩,⟨some 8, none,.len (.t 7)⟩,⟨some 9, none,.bin .lss (.t 6) (.t 8)⟩] [0,1,5,9] []
def z546r3:IC:=.reg [⟨some 12, none,.mv (.t 0)⟩,⟨some 13, none,.mv (.t 5)⟩,⟨some 14, none,.iadr 1 (.t 12) (.t 13)⟩,⟨some 15, none,.load false 1 (.t 14)⟩,⟨some 16, none,.mv (.t 1)⟩,⟨some 17, none,.callm zl243 (.t 15) (.t 16)⟩,⟨some 1, none,.asg (.t 17)⟩] [0,1,5] []
def z546r4:IC:=.reg [⟨some 10, none,.mv (.t 5)⟩,⟨some 11, none,.bin .add (.t 10) (.c (vi 1))⟩,⟨some 5, none,.asg (.t 11)⟩] [0,1,5] []
def z546l5:IC:=(.seq (.seq z546r2 (.cond (.t 9) .skip (.exit 0))) (.seq (.block 1 z546r3) z546r4))
def z546r6:IC:=.reg [⟨some 18, none,.mv (.t 1)⟩,⟨some 4, none,.asgm (.t 18)⟩] [0,4] []
def zi546:IFun:=⟨[.t 4],[0],(.seq z546r0 (.seq (.seq z546r1 (.block 0 (.loop z546l5))) (.seq z546r6 .ret)))⟩
def z248r0:IC:=.reg [⟨some 2, none,.asg (.c (.slice none 0 0))⟩] [0] []
def z248r1:IC:=.reg [⟨some 5, none,.mv (.t 0)⟩,⟨some 6, none,.len (.t 5)⟩,⟨some 7, none,.mksl 1 [(vi 0)] (.t 6) (.t 6)⟩,⟨some 3, none,.asg (.t 7)⟩] [0,3] []
def z248r2:IC:=.reg [⟨some 4, none,.asg (.c (vi 0))⟩] [0,3,4] []
def z248r3:IC:=.reg [⟨some 8, none,.mv (.t 4)⟩,⟨some 9, none,.mv (.t 0)⟩,⟨some 10, none,.len (.t 9)⟩,⟨some 11, none,.bin .lss (.t 8) (.t 10)⟩] [0,3,4,11] []
def z248r4:IC:=.reg [⟨some 14, none,.mv (.t 3)⟩,⟨some 15, none,.mv (.t 4)⟩,⟨some 16, none,.mv (.t 0)⟩,⟨some 17, none,.mv (.t 4)⟩,⟨some 18, none,.iadr 1 (.t 16) (.t 17)⟩,⟨some 19, none,.load false 1 (.t 18)⟩,⟨some 20, none,.iadr 1 (.t 14) (.t 15)⟩,⟨none,none,.store 1 (.t 20) (.t 19)⟩] [0,3,4] []
def z248r5:IC:=.reg [⟨some 12, none,.mv (.t 4)⟩,⟨some 13, none,.bin .add (.t 12) (.c (vi 1))⟩,⟨some 4, none,.asg (.t 13)⟩] [0,3,4] []
def z248l6:IC:=(.seq (.seq z248r3 (.cond (.t 11) .skip (.exit 0))) (.seq (.block 1 z248r4) z248r5))
def z248r7:IC:=.reg [⟨some 21, none,.mv (.t 3)⟩,⟨some 2, none,.asgm (.t 21)⟩] [2,3] []
def zi248:IFun:=⟨[.t 2],[],(.seq z248r0 (.seq z248r1 (.seq (.seq z248r2 (.block 0 (.loop z248l6))) (.seq z248r7 .ret))))⟩
def z66r0:IC:=.reg [⟨some 2, none,.asg (.c (vi 0))⟩] [0] []
def z66r1:IC:=.reg [⟨some 3, none,.mv (.t 0)⟩,⟨some 4, none,.conv .u32 (.t 3)⟩,⟨some 5, none,.call zl67 [(.val,(.t 4))] true⟩,⟨some 2, none,.asg (.t 5)⟩] [2] []
def z66r2:IC:=.reg [⟨some 6, none,.mv (.t 0)⟩,⟨some 7, none,.call zl68 [(.val,(.t 6))] true⟩,⟨some 2, none,.asg (.t 7)⟩] [2] []
def zi66:IFun:=⟨[.t 2],[],(.seq z66r0 (.seq (.cond (.c (.bool false)) (.seq z66r1 .ret) .skip) (.seq z66r2 .ret)))⟩
def z68r0:IC:=.reg [⟨some 2, none,.asg (.c (vi 0))⟩] [0,2] []
def z68r1:IC:=.reg [⟨some 3, none,.mv (.t 0)⟩,⟨some 4, none,.bin .geq (.t 3) (.c (.int .u64 (4294967296)))⟩] [0,2,4] []
def z68r2:IC:=.reg [⟨some 5, none,.mv (.t 0)⟩,⟨some 6, none,.bin .shr (.t 5) (.c (.int .u64 (32)))⟩,⟨some 0, none,.asg (.t 6)⟩] [0] []
def z68r3:IC:=.reg [⟨some 2, none,.asg (.c (vi 32))⟩] [0,2] []
def z68r4:IC:=.reg [⟨some 7, none,.mv (.t 0)⟩,⟨some 8, none,.bin .geq (.t 7) (.c (.int .u64 (65536)))⟩] [0,2,8] []
def z68r5:IC:=.reg [⟨some 9, none,.mv (.t 0)⟩,⟨some 10, none,.bin .shr (.t 9) (.c (.int .u64 (16)))⟩,⟨some 0, none,.asg (.t 10)⟩] [0,2] []
def z68r6:IC:=.reg [⟨some 11, none,.mv (.t 2)⟩,⟨some 12, none,.bin .add (.t 11) (.c (vi 16))⟩,⟨some 2, none,.asg (.t 12)⟩] [0,2] []
def z68r7:IC:=.reg [⟨some 13, none,.mv (.t 0)⟩,⟨some 14, none,.bin .geq (.t 13) (.c (.int .u64 (256)))⟩] [0,2,14] []
def z68r8:IC:=.reg [⟨some 15, none,.mv (.t 0)⟩,⟨some 16, none,.bin .shr (.t 15) (.c (.int .u64 (8)))⟩,⟨some 0, none,.asg (.t 16)⟩] [0,2] []
def z68r9:IC:=.reg [⟨some 17, none,.mv (.t 2)⟩,⟨some 18, none,.bin .add (.t 17) (.c (vi 8))⟩,⟨some 2, none,.asg (.t 18)⟩] [0,2] []
def z68r10:IC:=.reg [⟨some 19, none,.mv (.t 2)⟩,⟨some 20, none,.mv (.t 0)⟩,⟨some 21, none,.conv .u8 (.t 20)⟩,⟨some 22, none,.idxs (.c (.string ⟨#[0,1,2,2,3,3,3,3,4,4,4,4,4,4,4,4,5,5,5,5,5,5,5,5,5,5,5,5,5,5,5,5,6,6,6,6,6,6,6,6,6,6,6,6,6,6,6,6,6,6,6,6,6,6,6,6,6,6,6,6,6,6,6,6,7,7,7,7,7,7,7,7,7,7,7,7,7,7,7,7,7,7,7,7,7,7,7,7,7,7,7,7,7,7,7,7,7,7,7,7,7,7,7,7,7,7,7,7,7,7,7,7,7,7,7,7,7,7,7,7,7,7,7,7,7,7,7,7,8,8,8,8,8,8,8,8,8,8,8,8,8,8,8,8,8,8,8,8,8,8,8,8,8,8,8,8,8,8,8,8,8,8,8,8,8,8,8,8,8,8,8,8,8,8,8,8,8,8,8,8,8,8,8,8,8,8,8,8,8,8,8,8,8,8,8,8,8,8,8,8,8,8,8,8,8,8,8,8,8,8,8,8,8,8,8,8,8,8,8,8,8,8,8,8,8,8,8,8,8,8,8,8,8,8,8,8,8,8,8,8,8,8,8,8,8,8,8,8,8,8,8,8,8,8,8,8]⟩)) (.t 21)⟩,⟨some 23, none,.conv .i64 (.t 22)⟩,⟨some 24, none,.bin .add (.t 19) (.t 23)⟩,⟨some 2, none,.asg (.t 24)⟩] [2] []
def zi68:IFun:=⟨[.t 2],[],(.seq z68r0 (.seq (.seq z68r1 (.cond (.t 4) (.seq z68r2 z68r3) .skip)) (.seq (.seq z68r4 (.cond (.t 8) (.seq z68r5 z68r6) .skip)) (.seq (.seq z68r7 (.cond (.t 14) (.seq z68r8 z68r9) .skip)) (.seq z68r10 .ret)))))⟩
def z70r0:IC:=.reg [⟨some 2, none,.asg (.c (.slice none 0 0))⟩] [0] []
def z70r1:IC:=.reg [⟨some 3, none,.mv (.t 0)⟩,⟨some 4, none,.mv (.t 0)⟩,⟨some 5, none,.len (.t 4)⟩,⟨some 6, none,.mv (.t 0)⟩,⟨some 7, none,.len (.t 6)⟩,⟨some 8, none,.slc 1 (.t 3) none (some (.t 5)) (some (.t 7))⟩,⟨some 2, none,.asgm (.t 8)⟩] [0,2] []
def zi70:IFun:=⟨[.t 2],[],(.seq z70r0 (.seq z70r1 .ret))⟩
def z71r0:IC:=.reg [⟨some 2, none,.nilo 1⟩] [0] []
def z71r1:List IOp:=[⟨some 3, none,.mv (.t 0)⟩]
def z71r2:IC:=.reg [⟨some 2, none,.nilo 1⟩] [2] []
def z71r3:IC:=.reg [⟨some 5, none,.bsl 1 [(vi 0)] 0 []⟩,⟨some 6, none,.mv (.t 0)⟩,⟨some 7, none,.app 1 (.t 5) (.t 6)⟩,⟨some 2, none,.asg (.t 7)⟩] [2] []
def zi71:IFun:=⟨[.t 2],[],(.seq z71r0 (.nilc2 z71r1 (.t 3) 4 [0,4] (.cond (.t 4) (.seq z71r2 .ret) .skip) (.seq z71r3 .ret)))⟩
def z72r0:IC:=.reg [⟨some 4, none,.asg (.c (.bool false))⟩] [0,1] []
def z72r1:IC:=.reg [⟨some 5, none,.mv (.t 0)⟩,⟨some 6, none,.mv (.t 1)⟩,⟨some 7, none,.call zl73 [(.rd,(.t 5)),(.val,(.t 6))] false⟩,⟨some 8, none,.bin .geq (.t 7) (.c (vi 0))⟩,⟨some 4, none,.asg (.t 8)⟩] [4] []
def zi72:IFun:=⟨[.t 4],[],(.seq z72r0 (.seq z72r1 .ret))⟩
def z73r0:IC:=.reg [⟨some 4, none,.asg (.c (vi 0))⟩] [0,1] []
def z73r1:IC:=.reg [⟨some 6, none,.mv (.t 0)⟩,⟨some 7, none,.len (.t 6)⟩,⟨some 8, none,.mv (.c (vi 0))⟩] [0,1,7,8] []
def z73r2:IC:=.reg [⟨some 9, none,.bin .lss (.t 8) (.t 7)⟩] [0,1,7,8,9] []
def z73r3:IC:=.reg [⟨some 10, none,.asg (.t 8)⟩,⟨some 5, none,.asg (.t 10)⟩] [0,1,5,7,8] []
def z73r4:IC:=.reg [⟨some 11, none,.mv (.t 1)⟩,⟨some 12, none,.mv (.t 0)⟩,⟨some 13, none,.mv (.t 5)⟩,⟨some 14, none,.iadr 1 (.t 12) (.t 13)⟩,⟨some 15, none,.load false 1 (.t 14)⟩,⟨some 16, none,.callv (.t 11) [(.val,(.t 15))]⟩] [0,1,5,7,8,16] []
def z73r5:IC:=.reg [⟨some 17, none,.mv (.t 5)⟩,⟨some 4, none,.asgm (.t 17)⟩] [4] []
def z73r6:IC:=.reg [⟨some 18, none,.bin .add (.t 8) (.c (vi 1))⟩,⟨some 8, none,.asg (.t 18)⟩] [0,1,7,8] []
def z73l7:IC:=(.seq z73r2 (.seq (.cond (.t 9) .skip (.exit 0)) (.seq (.block 1 (.seq z73r3 (.seq z73r4 (.cond (.t 16) (.seq z73r5 .ret) .skip)))) z73r6)))
def z73r8:IC:=.reg [⟨some 4, none,.asg (.c (vi (-1)))⟩] [4] []
def zi73:IFun:=⟨[.t 4],[],(.seq z73r0 (.seq (.seq z73r1 (.block 0 (.loop z73l7))) (.seq z73r8 .ret)))⟩
def z75r0:IC:=.reg [⟨some 2, none,.asg (.c (vi 0))⟩] [0] []
def z75r1:IC:=.reg [⟨some 5, none,.mv (.t 0)⟩,⟨some 6, none,.len (.t 5)⟩,⟨some 7, none,.bin .lss (.t 6) (.c (vi 1))⟩] [0,7] []
def z75r2:IC:=.reg [⟨some 8, none,.halt⟩,⟨none,none,.halt⟩] [0] []
def z75r3:IC:=.reg [⟨some 9, none,.mv (.t 0)⟩,⟨some 10, none,.iadr 1 (.t 9) (.c (vi 0))⟩,⟨some 11, none,.load false 1 (.t 10)⟩,⟨some 3, none,.asg (.t 11)⟩] [0,3] []
def z75r4:IC:=.reg [⟨some 4, none,.asg (.c (vi 1))⟩] [0,3,4] []
def z75r5:IC:=.reg [⟨some 12, none,.mv (.t 4)⟩,⟨some 13, none,.mv (.t 0)⟩,⟨some 14, none,.len (.t 13)⟩,⟨some 15, none,.bin .lss (.t 12) (.t 14)⟩] [0,3,4,15] []
def z75r6:IC:=.reg [⟨some 18, none,.mv (.t 3)⟩,⟨some 19, none,.mv (.t 0)⟩,⟨some 20, none,.mv (.t 4)⟩,⟨some 21, none,.iadr 1 (.t 19) (.t 20)⟩,⟨some 22, none,.load false 1 (.t 21)⟩,⟨some 23, none,.minmax true (.t 18) (.t 22)⟩,⟨some 3, none,.asg (.t 23)⟩] [0,3,4] []
def z75r7:IC:=.reg [⟨some 16, none,.mv (.t 4)⟩,⟨some 17, none,.bin .add (.t 16) (.c (vi 1))⟩,⟨some 4, none,.asg (.t 17)⟩] [0,3,4] []
def z75l8:IC:=(.seq (.seq z75r5 (.cond (.t 15) .skip (.exit 0))) (.seq (.block 1 z75r6) z75r7))
def z75r9:IC:=.reg [⟨some 24, none,.mv (.t 3)⟩,⟨some 2, none,.asgm (.t 24)⟩] [2] []
def zi75:IFun:=⟨[.t 2],[],(.seq z75r0 (.seq (.seq z75r1 (.cond (.t 7) z75r2 .skip)) (.seq z75r3 (.seq (.seq z75r4 (.block 0 (.loop z75l8))) (.seq z75r9 .ret)))))⟩
def z76r0:IC:=.reg [⟨some 4, none,.mv (.t 0)⟩,⟨some 5, none,.len (.t 4)⟩,⟨some 6, none,.bin .sub (.t 5) (.c (vi 1))⟩,⟨some 2, none,.asg (.c (vi 0))⟩,⟨some 3, none,.asg (.t 6)⟩] [0,2,3] []
def z76r1:IC:=.reg [⟨some 7, none,.mv (.t 2)⟩,⟨some 8, none,.mv (.t 3)⟩,⟨some 9, none,.bin .lss (.t 7) (.t 8)⟩] [0,2,3,9] []
def z76r2:IC:=.reg [⟨some 14, none,.mv (.t 0)⟩,⟨some 15, none,.mv (.t 2)⟩,⟨some 16, none,.mv (.t 0)⟩,⟨some 17, none,.mv (.t 3)⟩,⟨some 18, none,.mv (.t 0)⟩,⟨some 19, none,.mv (.t 3)⟩,⟨some 20, none,.iadr 1 (.t 18) (.t 19)⟩,⟨some 21, none,.load false 1 (.t 20)⟩,⟨some 22, none,.mv (.t 0)⟩,⟨some 23, none,.mv (.t 2)⟩,⟨some 24, none,.iadr 1 (.t 22) (.t 23)⟩,⟨some 25, none,.load false 1 (.t 24)⟩,⟨some 26, none,.iadr 1 (.t 14) (.t 15)⟩,⟨none,none,.store 1 (.t 26) (.t 21)⟩,⟨some 27, none,.iadr 1 (.t 16) (.t 17)⟩,⟨none,none,.store 1 (.t 27) (.t 25)⟩] [0,2,3] []
def z76r3:IC:=.reg [⟨some 10, none,.mv (.t 2)⟩,⟨some 11, none,.bin .add (.t 10) (.c (vi 1))⟩,⟨some 12, none,.mv (.t 3)⟩,⟨some 13, none,.bin .sub (.t 12) (.c (vi 1))⟩,⟨some 2, none,.asg (.t 11)⟩,⟨some 3, none,.asg (.t 13)⟩] [0,2,3] []
def z76l4:IC:=(.seq (.seq z76r1 (.cond (.t 9) .skip (.exit 0))) (.seq (.block 1 z76r2) z76r3))
def zi76:IFun:=⟨[],[0],(.seq z76r0 (.block 0 (.loop z76l4)))⟩
def z273r0:IC:=.reg [⟨some 4, none,.mv (.t 0)⟩,⟨some 5, none,.mv (.t 0)⟩,⟨some 6, none,.len (.t 5)⟩,⟨some 7, none,.mv (.t 1)⟩,⟨some 8, none,.call zl289 [(.ld,(.t 4)),(.val,(.t 6)),(.val,(.t 7))] false⟩] [0] []
def zi273:IFun:=⟨[],[0],z273r0⟩
def z78r0:IC:=.reg [⟨some 3, none,.mv (.t 0)⟩,⟨some 4, none,.len (.t 3)⟩,⟨some 2, none,.asg (.t 4)⟩] [0,2] []
def z78r1:IC:=.reg [⟨some 5, none,.mv (.t 0)⟩,⟨some 6, none,.mv (.t 2)⟩,⟨some 7, none,.mv (.t 2)⟩,⟨some 8, none,.conv .u64 (.t 7)⟩,⟨some 9, none,.call zl66 [(.val,(.t 8))] true⟩,⟨some 10, none,.call zl101 [(.ld,(.t 5)),(.val,(.c (vi 0))),(.val,(.t 6)),(.val,(.t 9))] false⟩] [0] []
def zi78:IFun:=⟨[],[0],(.seq z78r0 z78r1)⟩
def z278r0:IC:=.reg [⟨some 10, none,.mv (.t 1)⟩,⟨some 11, none,.bin .add (.t 10) (.c (vi 1))⟩,⟨some 8, none,.asg (.t 11)⟩] [0,1,2,3,8] []
def z278r1:IC:=.reg [⟨some 12, none,.mv (.t 8)⟩,⟨some 13, none,.mv (.t 2)⟩,⟨some 14, none,.bin .lss (.t 12) (.t 13)⟩] [0,1,2,3,8,14] []
def z278r2:IC:=.reg [⟨some 17, none,.mv (.t 8)⟩,⟨some 9, none,.asg (.t 17)⟩] [0,1,2,3,8,9] []
def z278r3:IC:=.reg [⟨some 18, none,.mv (.t 9)⟩,⟨some 19, none,.mv (.t 1)⟩,⟨some 20, none,.bin .gtr (.t 18) (.t 19)⟩,⟨some 21, none,.asg (.t 20)⟩,⟨some 22, (some (21,true)),.mv (.t 3)⟩,⟨some 23, (some (21,true)),.mv (.t 0)⟩,⟨some 24, (some (21,true)),.mv (.t 9)⟩,⟨some 25, (some (21,true)),.iadr 1 (.t 23) (.t 24)⟩,⟨some 26, (some (21,true)),.load false 1 (.t 25)⟩,⟨some 27, (some (21,true)),.mv (.t 0)⟩,⟨some 28, (some (21,true)),.mv (.t 9)⟩,⟨some 29, (some (21,true)),.bin .sub (.t 28) (.c (vi 1))⟩,⟨some 30, (some (21,true)),.iadr 1 (.t 27) (.t 29)⟩,⟨some 31, (some (21,true)),.load false 1 (.t 30)⟩,⟨some 32, (some (21,true)),.callv (.t 22) [(.val,(.t 26)),(.val,(.t 31))]⟩,⟨some 33, (some (21,true)),.bin .lss (.t 32) (.c (vi 0))⟩,⟨some 34, none,.pick (.t 21) (.t 33) (.c (.bool false))⟩] [0,1,2,3,8,9,34] []
def z278r4:IC:=.reg [⟨some 37, none,.mv (.t 0)⟩,⟨some 38, none,.mv (.t 9)⟩,⟨some 39, none,.mv (.t 0)⟩,⟨some 40, none,.mv (.t 9)⟩,⟨some 41, none,.bin .sub (.t 40) (.c (vi 1))⟩,⟨some 42, none,.mv (.t 0)⟩,⟨some 43, none,.mv (.t 9)⟩,⟨some 44, none,.bin .sub (.t 43) (.c (vi 1))⟩,⟨some 45, none,.iadr 1 (.t 42) (.t 44)⟩,⟨some 46, none,.load false 1 (.t 45)⟩,⟨some 47, none,.mv (.t 0)⟩,⟨some 48, none,.mv (.t 9)⟩,⟨some 49, none,.iadr 1 (.t 47) (.t 48)⟩,⟨some 50, none,.load false 1 (.t 49)⟩,⟨some 51, none,.iadr 1 (.t 37) (.t 38)⟩,⟨none,none,.store 1 (.t 51) (.t 46)⟩,⟨some 52, none,.iadr 1 (.t 39) (.t 41)⟩,⟨none,none,.store 1 (.t 52) (.t 50)⟩] [0,1,2,3,8,9] []
def z278r5:IC:=.reg [⟨some 35, none,.mv (.t 9)⟩,⟨some 36, none,.bin .sub (.t 35) (.c (vi 1))⟩,⟨some 9, none,.asg (.t 36)⟩] [0,1,2,3,8,9] []
def z278l6:IC:=(.seq (.seq z278r3 (.cond (.t 34) .skip (.exit 2))) (.seq (.block 3 z278r4) z278r5))
def z278r7:IC:=.reg [⟨some 15, none,.mv (.t 8)⟩,⟨some 16, none,.bin .add (.t 15) (.c (vi 1))⟩,⟨some 8, none,.asg (.t 16)⟩] [0,1,2,3,8] []
def z278l8:IC:=(.seq (.seq z278r1 (.cond (.t 14) .skip (.exit 0))) (.seq (.block 1 (.seq z278r2 (.block 2 (.loop z278l6)))) z278r7))
def zi278:IFun:=⟨[],[0],(.seq z278r0 (.block 0 (.loop z278l8)))⟩
def z86r0:IC:=.reg [⟨some 8, none,.mv (.t 1)⟩,⟨some 9, none,.bin .add (.t 8) (.c (vi 1))⟩,⟨some 6, none,.asg (.t 9)⟩] [0,1,2,6] []
def z86r1:IC:=.reg [⟨some 10, none,.mv (.t 6)⟩,⟨some 11, none,.mv (.t 2)⟩,⟨some 12, none,.bin .lss (.t 10) (.t 11)⟩] [0,1,2,6,12] []
def z86r2:IC:=.reg [⟨some 15, none,.mv (.t 6)⟩,⟨some 7, none,.asg (.t 15)⟩] [0,1,2,6,7] []
def z86r3:IC:=.reg [⟨some 16, none,.mv (.t 7)⟩,⟨some 17, none,.mv (.t 1)⟩,⟨some 18, none,.bin .gtr (.t 16) (.t 17)⟩,⟨some 19, none,.asg (.t 18)⟩,⟨some 20, (some (19,true)),.mv (.t 0)⟩,⟨some 21, (some (19,true)),.mv (.t 7)⟩,⟨some 22, (some (19,true)),.iadr 1 (.t 20) (.t 21)⟩,⟨some 23, (some (19,true)),.load false 1 (.t 22)⟩,⟨some 24, (some (19,true)),.mv (.t 0)⟩,⟨some 25, (some (19,true)),.mv (.t 7)⟩,⟨some 26, (some (19,true)),.bin .sub (.t 25) (.c (vi 1))⟩,⟨some 27, (some (19,true)),.iadr 1 (.t 24) (.t 26)⟩,⟨some 28, (some (19,true)),.load false 1 (.t 27)⟩,⟨some 29, (some (19,true)),.call zl2 [(.val,(.t 23)),(.val,(.t 28))] true⟩,⟨some 30, none,.pick (.t 19) (.t 29) (.c (.bool false))⟩] [0,1,2,6,7,30] []
def z86r4:IC:=.reg [⟨some 33, none,.mv (.t 0)⟩,⟨some 34, none,.mv (.t 7)⟩,⟨some 35, none,.mv (.t 0)⟩,⟨some 36, none,.mv (.t 7)⟩,⟨some 37, none,.bin .sub (.t 36) (.c (vi 1))⟩,⟨some 38, none,.mv (.t 0)⟩,⟨some 39, none,.mv (.t 7)⟩,⟨some 40, none,.bin .sub (.t 39) (.c (vi 1))⟩,⟨some 41, none,.iadr 1 (.t 38) (.t 40)⟩,⟨some 42, none,.load false 1 (.t 41)⟩,⟨some 43, none,.mv (.t 0)⟩,⟨some 44, none,.mv (.t 7)⟩,⟨some 45, none,.iadr 1 (.t 43) (.t 44)⟩,⟨some 46, none,.load false 1 (.t 45)⟩,⟨some 47, none,.iadr 1 (.t 33) (.t 34)⟩,⟨none,none,.store 1 (.t 47) (.t 42)⟩,⟨some 48, none,.iadr 1 (.t 35) (.t 37)⟩,⟨none,none,.store 1 (.t 48) (.t 46)⟩] [0,1,2,6,7] []
def z86r5:IC:=.reg [⟨some 31, none,.mv (.t 7)⟩,⟨some 32, none,.bin .sub (.t 31) (.c (vi 1))⟩,⟨some 7, none,.asg (.t 32)⟩] [0,1,2,6,7] []
def z86l6:IC:=(.seq (.seq z86r3 (.cond (.t 30) .skip (.exit 2))) (.seq (.block 3 z86r4) z86r5))
def z86r7:IC:=.reg [⟨some 13, none,.mv (.t 6)⟩,⟨some 14, none,.bin .add (.t 13) (.c (vi 1))⟩,⟨some 6, none,.asg (.t 14)⟩] [0,1,2,6] []
def z86l8:IC:=(.seq (.seq z86r1 (.cond (.t 12) .skip (.exit 0))) (.seq (.block 1 (.seq z86r2 (.block 2 (.loop z86l6)))) z86r7))
def zi86:IFun:=⟨[],[0],(.seq z86r0 (.block 0 (.loop z86l8)))⟩
def z101r0:IC:=.reg [⟨some 8, none,.asg (.c (.bool true))⟩] [0,1,2,3,8] []
def z101r1:IC:=.reg [⟨some 9, none,.asg (.c (.bool true))⟩] [0,1,2,3,8,9] []
def z101r2:IC:=.reg [⟨some 19, none,.mv (.t 2)⟩,⟨some 20, none,.mv (.t 1)⟩,⟨some 21, none,.bin .sub (.t 19) (.t 20)⟩,⟨some 10, none,.asg (.t 21)⟩] [0,1,2,3,8,9,10] []
def z101r3:IC:=.reg [⟨some 22, none,.mv (.t 10)⟩,⟨some 23, none,.bin .leq (.t 22) (.c (vi 12))⟩] [0,1,2,3,8,9,10,23] []
def z101r4:IC:=.reg [⟨some 24, none,.mv (.t 0)⟩,⟨some 25, none,.mv (.t 1)⟩,⟨some 26, none,.mv (.t 2)⟩,⟨some 27, none,.call zl86 [(.ld,(.t 24)),(.val,(.t 25)),(.val,(.t 26))] false⟩] [0] []
def z101r5:IC:=.reg [⟨some 28, none,.mv (.t 3)⟩,⟨some 29, none,.bin .eql (.t 28) (.c (vi 0))⟩] [0,1,2,3,8,9,10,29] []
def z101r6:IC:=.reg [⟨some 30, none,.mv (.t 0)⟩,⟨some 31, none,.mv (.t 1)⟩,⟨some 32, none,.mv (.t 2)⟩,⟨some 33, none,.call zl84 [(.ld,(.t 30)),(.val,(.t 31)),(.val,(.t 32))] false⟩] [0] []
def z101r7:IC:=.reg [⟨some 34, none,.mv (.t 8)⟩,⟨some 35, none,.unop .not (.t 34)⟩] [0,1,2,3,8,9,10,35] []
def z101r8:IC:=.reg [⟨some 36, none,.mv (.t 0)⟩,⟨some 37, none,.mv (.t 1)⟩,⟨some 38, none,.mv (.t 2)⟩,⟨some 39, none,.call zl80 [(.ld,(.t 36)),(.val,(.t 37)),(.val,(.t 38))] false⟩] [0,1,2,3,8,9,10] []
def z101r9:IC:=.reg [⟨some 40, none,.mv (.t 3)⟩,⟨some 41, none,.bin .sub (.t 40) (.c (vi 1))⟩,⟨some 3, none,.asg (.t 41)⟩] [0,1,2,3,8,9,10] []
def z101r10:IC:=.reg [⟨some 43, none,.mv (.t 0)⟩,⟨some 44, none,.mv (.t 1)⟩,⟨some 45, none,.mv (.t 2)⟩,⟨some 46, none,.call zl82 [(.rd,(.t 43)),(.val,(.t 44)),(.val,(.t 45))] true⟩,⟨some 42, none,.asg (.t 46)⟩,⟨some 47, none,.extr (.t 42) 0⟩,⟨some 48, none,.extr (.t 42) 1⟩,⟨some 11, none,.asg (.t 47)⟩,⟨some 12, none,.asg (.t 48)⟩] [0,1,2,3,8,9,10,11,12] []
def z101r11:IC:=.reg [⟨some 49, none,.mv (.t 12)⟩,⟨some 50, none,.bin .eql (.t 49) (.c (vi 2))⟩] [0,1,2,3,8,9,10,11,12,50] []
def z101r12:IC:=.reg [⟨some 51, none,.mv (.t 0)⟩,⟨some 52, none,.mv (.t 1)⟩,⟨some 53, none,.mv (.t 2)⟩,⟨some 54, none,.call zl103 [(.ld,(.t 51)),(.val,(.t 52)),(.val,(.t 53))] false⟩] [0,1,2,3,8,9,10,11] []
def z101r13:IC:=.reg [⟨some 55, none,.mv (.t 2)⟩,⟨some 56, none,.bin .sub (.t 55) (.c (vi 1))⟩,⟨some 57, none,.mv (.t 11)⟩,⟨some 58, none,.mv (.t 1)⟩,⟨some 59, none,.bin .sub (.t 57) (.t 58)⟩,⟨some 60, none,.bin .sub (.t 56) (.t 59)⟩,⟨some 11, none,.asg (.t 60)⟩] [0,1,2,3,8,9,10,11] []
def z101r14:IC:=.reg [⟨some 12, none,.asg (.c (vi 1))⟩] [0,1,2,3,8,9,10,11,12] []
def z101r15:IC:=.reg [⟨some 61, none,.mv (.t 8)⟩,⟨some 62, none,.asg (.t 61)⟩,⟨some 63, (some (62,true)),.mv (.t 9)⟩,⟨some 64, none,.pick (.t 62) (.t 63) (.c (.bool false))⟩,⟨some 65, none,.asg (.t 64)⟩,⟨some 66, (some (65,true)),.mv (.t 12)⟩,⟨some 67, (some (65,true)),.bin .eql (.t 66) (.c (vi 1))⟩,⟨some 68, none,.pick (.t 65) (.t 67) (.c (.bool false))⟩] [0,1,2,3,8,9,10,11,68] []
def z101r16:IC:=.reg [⟨some 69, none,.mv (.t 0)⟩,⟨some 70, none,.mv (.t 1)⟩,⟨some 71, none,.mv (.t 2)⟩,⟨some 72, none,.call zl95 [(.ld,(.t 69)),(.val,(.t 70)),(.val,(.t 71))] false⟩] [0,1,2,3,8,9,10,11,72] []
def z101r17:IC:=.reg [⟨some 73, none,.mv (.t 1)⟩,⟨some 74, none,.bin .gtr (.t 73) (.c (vi 0))⟩,⟨some 75, none,.asg (.t 74)⟩,⟨some 76, (some (75,true)),.mv (.t 0)⟩,⟨some 77, (some (75,true)),.mv (.t 1)⟩,⟨some 78, (some (75,true)),.bin .sub (.t 77) (.c (vi 1))⟩,⟨some 79, (some (75,true)),.iadr 1 (.t 76) (.t 78)⟩,⟨some 80, (some (75,true)),.load false 1 (.t 79)⟩,⟨some 81, (some (75,true)),.mv (.t 0)⟩,⟨some 82, (some (75,true)),.mv (.t 11)⟩,⟨some 83, (some (75,true)),.iadr 1 (.t 81) (.t 82)⟩,⟨some 84, (some (75,true)),.load false 1 (.t 83)⟩,⟨some 85, (some (75,true)),.call zl2 [(.val,(.t 80)),(.val,(.t 84))] true⟩,⟨some 86, (some (75,true)),.unop .not (.t 85)⟩,⟨some 87, none,.pick (.t 75) (.t 86) (.c (.bool false))⟩] [0,1,2,3,8,9,10,11,87] []
def z101r18:IC:=.reg [⟨some 88, none,.mv (.t 0)⟩,⟨some 89, none,.mv (.t 1)⟩,⟨some 90, none,.mv (.t 2)⟩,⟨some 91, none,.mv (.t 11)⟩,⟨some 92, none,.call zl98 [(.ld,(.t 88)),(.val,(.t 89)),(.val,(.t 90)),(.val,(.t 91))] false⟩,⟨some 13, none,.asg (.t 92)⟩] [0,2,3,8,9,13] []
def z101r19:IC:=.reg [⟨some 93, none,.mv (.t 13)⟩,⟨some 1, none,.asgm (.t 93)⟩] [0,1,2,3,8,9] []
def z101r20:IC:=.reg [⟨some 95, none,.mv (.t 0)⟩,⟨some 96, none,.mv (.t 1)⟩,⟨some 97, none,.mv (.t 2)⟩,⟨some 98, none,.mv (.t 11)⟩,⟨some 99, none,.call zl99 [(.ld,(.t 95)),(.val,(.t 96)),(.val,(.t 97)),(.val,(.t 98))] false⟩,⟨some 94, none,.asg (.t 99)⟩,⟨some 100, none,.extr (.t 94) 0⟩,⟨some 101, none,.extr (.t 94) 1⟩,⟨some 14, none,.asg (.t 100)⟩,⟨some 15, none,.asg (.t 101)⟩] [0,1,2,3,10,14,15] []
def z101r21:IC:=.reg [⟨some 102, none,.mv (.t 15)⟩,⟨some 9, none,.asgm (.t 102)⟩] [0,1,2,3,9,10,14] []
def z101r22:IC:=.reg [⟨some 103, none,.mv (.t 14)⟩,⟨some 104, none,.mv (.t 1)⟩,⟨some 105, none,.bin .sub (.t 103) (.t 104)⟩,⟨some 106, none,.mv (.t 2)⟩,⟨some 107, none,.mv (.t 14)⟩,⟨some 108, none,.bin .sub (.t 106) (.t 107)⟩,⟨some 16, none,.asg (.t 105)⟩,⟨some 17, none,.asg (.t 108)⟩] [0,1,2,3,9,10,14,16,17] []
def z101r23:IC:=.reg [⟨some 109, none,.mv (.t 10)⟩,⟨some 110, none,.bin .quo (.t 109) (.c (vi 8))⟩,⟨some 18, none,.asg (.t 110)⟩] [0,1,2,3,9,14,16,17,18] []
def z101r24:IC:=.reg [⟨some 111, none,.mv (.t 16)⟩,⟨some 112, none,.mv (.t 17)⟩,⟨some 113, none,.bin .lss (.t 111) (.t 112)⟩] [0,1,2,3,9,14,16,17,18,113] []
def z101r25:IC:=.reg [⟨some 114, none,.mv (.t 16)⟩,⟨some 115, none,.mv (.t 18)⟩,⟨some 116, none,.bin .geq (.t 114) (.t 115)⟩,⟨some 8, none,.asg (.t 116)⟩] [0,1,2,3,8,9,14] []
def z101r26:IC:=.reg [⟨some 117, none,.mv (.t 0)⟩,⟨some 118, none,.mv (.t 1)⟩,⟨some 119, none,.mv (.t 14)⟩,⟨some 120, none,.mv (.t 3)⟩,⟨some 121, none,.call zl101 [(.ld,(.t 117)),(.val,(.t 118)),(.val,(.t 119)),(.val,(.t 120))] false⟩] [0,2,3,8,9,14] []
def z101r27:IC:=.reg [⟨some 122, none,.mv (.t 14)⟩,⟨some 123, none,.bin .add (.t 122) (.c (vi 1))⟩,⟨some 1, none,.asg (.t 123)⟩] [0,1,2,3,8,9] []
def z101r28:IC:=.reg [⟨some 124, none,.mv (.t 17)⟩,⟨some 125, none,.mv (.t 18)⟩,⟨some 126, none,.bin .geq (.t 124) (.t 125)⟩,⟨some 8, none,.asg (.t 126)⟩] [0,1,2,3,8,9,14] []
def z101r29:IC:=.reg [⟨some 127, none,.mv (.t 0)⟩,⟨some 128, none,.mv (.t 14)⟩,⟨some 129, none,.bin .add (.t 128) (.c (vi 1))⟩,⟨some 130, none,.mv (.t 2)⟩,⟨some 131, none,.mv (.t 3)⟩,⟨some 132, none,.call zl101 [(.ld,(.t 127)),(.val,(.t 129)),(.val,(.t 130)),(.val,(.t 131))] false⟩] [0,1,3,8,9,14] []
def z101r30:IC:=.reg [⟨some 133, none,.mv (.t 14)⟩,⟨some 2, none,.asgm (.t 133)⟩] [0,1,2,3,8,9] []
def z101l31:IC:=(.block 1 (.seq z101r2 (.seq (.seq z101r3 (.cond (.t 23) (.seq z101r4 .ret) .skip)) (.seq (.seq z101r5 (.cond (.t 29) (.seq z101r6 .ret) .skip)) (.seq (.seq z101r7 (.cond (.t 35) (.seq z101r8 z101r9) .skip)) (.seq z101r10 (.seq (.seq z101r11 (.cond (.t 50) (.seq z101r12 (.seq z101r13 z101r14)) .skip)) (.seq (.seq z101r15 (.cond (.t 68) (.seq z101r16 (.cond (.t 72) .ret .skip)) .skip)) (.seq (.seq z101r17 (.cond (.t 87) (.seq z101r18 (.seq z101r19 (.exit 1))) .skip)) (.seq z101r20 (.seq z101r21 (.seq z101r22 (.seq z101r23 (.seq z101r24 (.cond (.t 113) (.seq z101r25 (.seq z101r26 z101r27)) (.seq z101r28 (.seq z101r29 z101r30)))))))))))))))))
def zi101:IFun:=⟨[],[0],(.seq z101r0 (.seq z101r1 (.block 0 (.loop z101l31))))⟩
def z289r0:IC:=.reg [⟨some 6, none,.asg (.c (vi 20))⟩] [0,1,2,6] []
def z289r1:IC:=.reg [⟨some 10, none,.mv (.t 6)⟩,⟨some 7, none,.asg (.c (vi 0))⟩,⟨some 8, none,.asg (.t 10)⟩] [0,1,2,6,7,8] []
def z289r2:IC:=.reg [⟨some 11, none,.mv (.t 8)⟩,⟨some 12, none,.mv (.t 1)⟩,⟨some 13, none,.bin .leq (.t 11) (.t 12)⟩] [0,1,2,6,7,8,13] []
def z289r3:IC:=.reg [⟨some 14, none,.mv (.t 0)⟩,⟨some 15, none,.mv (.t 7)⟩,⟨some 16, none,.mv (.t 8)⟩,⟨some 17, none,.mv (.t 2)⟩,⟨some 18, none,.call zl278 [(.ld,(.t 14)),(.val,(.t 15)),(.val,(.t 16)),(.val,(.t 17))] false⟩] [0,1,2,6,8] []
def z289r4:IC:=.reg [⟨some 19, none,.mv (.t 8)⟩,⟨some 7, none,.asg (.t 19)⟩] [0,1,2,6,7,8] []
def z289r5:IC:=.reg [⟨some 20, none,.mv (.t 8)⟩,⟨some 21, none,.mv (.t 6)⟩,⟨some 22, none,.bin .add (.t 20) (.t 21)⟩,⟨some 8, none,.asg (.t 22)⟩] [0,1,2,6,7,8] []
def z289l6:IC:=(.seq (.seq z289r2 (.cond (.t 13) .skip (.exit 0))) (.block 1 (.seq z289r3 (.seq z289r4 z289r5))))
def z289r7:IC:=.reg [⟨some 23, none,.mv (.t 0)⟩,⟨some 24, none,.mv (.t 7)⟩,⟨some 25, none,.mv (.t 1)⟩,⟨some 26, none,.mv (.t 2)⟩,⟨some 27, none,.call zl278 [(.ld,(.t 23)),(.val,(.t 24)),(.val,(.t 25)),(.val,(.t 26))] false⟩] [0,1,2,6] []
def z289r8:IC:=.reg [⟨some 28, none,.mv (.t 6)⟩,⟨some 29, none,.mv (.t 1)⟩,⟨some 30, none,.bin .lss (.t 28) (.t 29)⟩] [0,1,2,6,30] []
def z289r9:IC:=.reg [⟨some 31, none,.mv (.t 6)⟩,⟨some 32, none,.bin .mul (.c (vi 2)) (.t 31)⟩,⟨some 7, none,.asg (.c (vi 0))⟩,⟨some 8, none,.asg (.t 32)⟩] [0,1,2,6,7,8] []
def z289r10:IC:=.reg [⟨some 33, none,.mv (.t 8)⟩,⟨some 34, none,.mv (.t 1)⟩,⟨some 35, none,.bin .leq (.t 33) (.t 34)⟩] [0,1,2,6,7,8,35] []
def z289r11:IC:=.reg [⟨some 36, none,.mv (.t 0)⟩,⟨some 37, none,.mv (.t 7)⟩,⟨some 38, none,.mv (.t 7)⟩,⟨some 39, none,.mv (.t 6)⟩,⟨some 40, none,.bin .add (.t 38) (.t 39)⟩,⟨some 41, none,.mv (.t 8)⟩,⟨some 42, none,.mv (.t 2)⟩,⟨some 43, none,.call zl291 [(.ld,(.t 36)),(.val,(.t 37)),(.val,(.t 40)),(.val,(.t 41)),(.val,(.t 42))] false⟩] [0,1,2,6,8] []
def z289r12:IC:=.reg [⟨some 44, none,.mv (.t 8)⟩,⟨some 7, none,.asg (.t 44)⟩] [0,1,2,6,7,8] []
def z289r13:IC:=.reg [⟨some 45, none,.mv (.t 8)⟩,⟨some 46, none,.mv (.t 6)⟩,⟨some 47, none,.bin .mul (.c (vi 2)) (.t 46)⟩,⟨some 48, none,.bin .add (.t 45) (.t 47)⟩,⟨some 8, none,.asg (.t 48)⟩] [0,1,2,6,7,8] []
def z289l14:IC:=(.seq (.seq z289r10 (.cond (.t 35) .skip (.exit 4))) (.block 5 (.seq z289r11 (.seq z289r12 z289r13))))
def z289r15:IC:=.reg [⟨some 49, none,.mv (.t 7)⟩,⟨some 50, none,.mv (.t 6)⟩,⟨some 51, none,.bin .add (.t 49) (.t 50)⟩,⟨some 9, none,.asg (.t 51)⟩] [0,1,2,6,7,9] []
def z289r16:IC:=.reg [⟨some 52, none,.mv (.t 9)⟩,⟨some 53, none,.mv (.t 1)⟩,⟨some 54, none,.bin .lss (.t 52) (.t 53)⟩] [0,1,2,6,7,9,54] []
def z289r17:IC:=.reg [⟨some 55, none,.mv (.t 0)⟩,⟨some 56, none,.mv (.t 7)⟩,⟨some 57, none,.mv (.t 9)⟩,⟨some 58, none,.mv (.t 1)⟩,⟨some 59, none,.mv (.t 2)⟩,⟨some 60, none,.call zl291 [(.ld,(.t 55)),(.val,(.t 56)),(.val,(.t 57)),(.val,(.t 58)),(.val,(.t 59))] false⟩] [0,1,2,6] []
def z289r18:IC:=.reg [⟨some 61, none,.mv (.t 6)⟩,⟨some 62, none,.bin .mul (.t 61) (.c (vi 2))⟩,⟨some 6, none,.asg (.t 62)⟩] [0,1,2,6] []
def z289l19:IC:=(.seq (.seq z289r8 (.cond (.t 30) .skip (.exit 2))) (.block 3 (.seq z289r9 (.seq (.block 4 (.loop z289l14)) (.seq (.seq z289r15 (.seq z289r16 (.cond (.t 54) z289r17 .skip))) z289r18)))))
def zi289:IFun:=⟨[],[0],(.seq z289r0 (.seq z289r1 (.seq (.block 0 (.loop z289l6)) (.seq z289r7 (.block 2 (.loop z289l19))))))⟩
def z577r0:IC:=.reg [⟨some 2, none,.asg (.c (.slice none 0 0))⟩,⟨some 3, none,.asg (.c (.bool false))⟩] [0] []
def z577r1:IC:=.reg [⟨some 12, none,.mv (.t 0)⟩,⟨some 13, none,.call zl388 [(.rd,(.t 12))] true⟩,⟨some 14, none,.unop .not (.t 13)⟩,⟨some 15, none,.asg (.t 14)⟩,⟨some 16, (some (15,false)),.mv (.t 0)⟩,⟨some 17, (some (15,false)),.call zl492 [(.rd,(.t 16))] true⟩,⟨some 18, (some (15,false)),.unop .not (.t 17)⟩,⟨some 19, none,.pick (.t 15) (.c (.bool true)) (.t 18)⟩] [0,19] []
def z577r2:IC:=.reg [⟨some 2, none,.asg (.c (.slice none 0 0))⟩,⟨some 3, none,.asg (.c (.bool false))⟩] [2,3,5] []
def z577r3:IC:=.reg [⟨some 20, none,.mv (.t 0)⟩,⟨some 21, none,.call zl123 [(.rd,(.t 20))] true⟩,⟨some 4, none,.asg (.t 21)⟩] [0,4] []
def z577r4:IC:=.reg [⟨some 22, none,.bsl 1 [(.slice none 0 0)] 0 []⟩,⟨some 5, none,.asg (.t 22)⟩] [0,4,5] []
def z577r5:IC:=.reg [⟨some 6, none,.asg (.c (vi 0))⟩] [0,4,5,6] []
def z577r6:IC:=.reg [⟨some 23, none,.mv (.t 6)⟩,⟨some 24, none,.mv (.t 0)⟩,⟨some 25, none,.len (.t 24)⟩,⟨some 26, none,.bin .lss (.t 23) (.t 25)⟩] [0,4,5,6,26] []
def z577r7:IC:=.reg [⟨some 29, none,.mv (.t 5)⟩,⟨some 30, none,.mv (.t 0)⟩,⟨some 31, none,.len (.t 30)⟩,⟨some 32, none,.mksl 1 [(vi 0)] (.t 31) (.t 31)⟩,⟨some 33, none,.bsl 1 [(.slice none 0 0)] 1 [(0,(.t 32))]⟩,⟨some 34, none,.app 1 (.t 29) (.t 33)⟩,⟨some 5, none,.asg (.t 34)⟩] [0,4,5,6] []
def z577r8:IC:=.reg [⟨some 27, none,.mv (.t 6)⟩,⟨some 28, none,.bin .add (.t 27) (.c (vi 1))⟩,⟨some 6, none,.asg (.t 28)⟩] [0,4,5,6] []
def z577l9:IC:=(.seq (.seq z577r6 (.cond (.t 26) .skip (.exit 0))) (.seq (.block 1 z577r7) z577r8))
def z577r10:IC:=.reg [⟨some 7, none,.asg (.c (vi 0))⟩] [0,4,5,7] []
def z577r11:IC:=.reg [⟨some 35, none,.mv (.t 7)⟩,⟨some 36, none,.mv (.t 0)⟩,⟨some 37, none,.len (.t 36)⟩,⟨some 38, none,.bin .lss (.t 35) (.t 37)⟩] [0,4,5,7,38] []
def z577r12:IC:=.reg [⟨some 41, none,.bsl 1 [(vi 0)] 0 []⟩,⟨some 8, none,.asg (.t 41)⟩] [0,4,5,7,8] []
def z577r13:IC:=.reg [⟨some 42, none,.mv (.t 8)⟩,⟨some 43, none,.len (.t 42)⟩,⟨some 44, none,.mv (.t 4)⟩,⟨some 45, none,.mv (.t 7)⟩,⟨some 46, none,.iadr 1 (.t 44) (.t 45)⟩,⟨some 47, none,.load false 1 (.t 46)⟩,⟨some 48, none,.bin .lss (.t 43) (.t 47)⟩] [0,4,5,7,8,48] []
def z577r14:IC:=.reg [⟨some 9, none,.asg (.c (vi (-1)))⟩] [0,4,5,7,8,9] []
def z577r15:IC:=.reg [⟨some 49, none,.mv (.t 7)⟩,⟨some 50, none,.bin .add (.t 49) (.c (vi 1))⟩,⟨some 10, none,.asg (.t 50)⟩] [0,4,5,7,8,9,10] []
def z577r16:IC:=.reg [⟨some 51, none,.mv (.t 10)⟩,⟨some 52, none,.mv (.t 0)⟩,⟨some 53, none,.len (.t 52)⟩,⟨some 54, none,.bin .lss (.t 51) (.t 53)⟩] [0,4,5,7,8,9,10,54] []
def z577r17:IC:=.reg [⟨some 57, none,.mv (.t 8)⟩,⟨some 58, none,.mv (.t 10)⟩,⟨some 59, none,.call zl131 [(.rd,(.t 57)),(.val,(.t 58))] true⟩,⟨some 60, none,.unop .not (.t 59)⟩,⟨some 61, none,.asg (.t 60)⟩,⟨some 62, (some (61,true)),.mv (.t 9)⟩,⟨some 63, (some (61,true)),.bin .lss (.t 62) (.c (vi 0))⟩,⟨some 64, (some (61,true)),.asg (.t 63)⟩,⟨some 65, (some (64,false)),.mv (.t 4)⟩,⟨some 66, (some (64,false)),.mv (.t 10)⟩,⟨some 67, (some (64,false)),.iadr 1 (.t 65) (.t 66)⟩,⟨some 68, (some (64,false)),.load false 1 (.t 67)⟩,⟨some 69, (some (64,false)),.mv (.t 4)⟩,⟨some 70, (some (64,false)),.mv (.t 9)⟩,⟨some 71, (some (64,false)),.iadr 1 (.t 69) (.t 70)⟩,⟨some 72, (some (64,false)),.load false 1 (.t 71)⟩,⟨some 73, (some (64,false)),.bin .lss (.t 68) (.t 72)⟩,⟨some 74, (some (61,true)),.pick (.t 64) (.c (.bool true)) (.t 73)⟩,
    ⟨some 75, none,.pick (.t 61) (.t 74) (.c (.bool false))⟩] [0,4,5,7,8,9,10,75] []
def z577r18:IC:=.reg [⟨some 76, none,.mv (.t 10)⟩,⟨some 9, none,.asg (.t 76)⟩] [0,4,5,7,8,9,10] []
def z577r19:IC:=.reg [⟨some 55, none,.mv (.t 10)⟩,⟨some 56, none,.bin .add (.t 55) (.c (vi 1))⟩,⟨some 10, none,.asg (.t 56)⟩] [0,4,5,7,8,9,10] []
def z577l20:IC:=(.seq (.seq z577r16 (.cond (.t 54) .skip (.exit 6))) (.seq (.block 7 (.seq z577r17 (.cond (.t 75) z577r18 .skip))) z577r19))
def z577r21:IC:=.reg [⟨some 77, none,.mv (.t 8)⟩,⟨some 78, none,.mv (.t 9)⟩,⟨some 79, none,.bsl 1 [(vi 0)] 1 [(0,(.t 78))]⟩,⟨some 80, none,.app 1 (.t 77) (.t 79)⟩,⟨some 8, none,.asg (.t 80)⟩] [0,4,5,7,8] []
def z577l22:IC:=(.seq (.seq z577r13 (.cond (.t 48) .skip (.exit 4))) (.block 5 (.seq z577r14 (.seq (.seq z577r15 (.block 6 (.loop z577l20))) z577r21))))
def z577r23:IC:=.reg [⟨some 81, none,.mv (.t 7)⟩,⟨some 82, none,.bin .add (.t 81) (.c (vi 1))⟩,⟨some 11, none,.asg (.t 82)⟩] [0,4,5,7,8,11] []
def z577r24:IC:=.reg [⟨some 83, none,.mv (.t 11)⟩,⟨some 84, none,.mv (.t 0)⟩,⟨some 85, none,.len (.t 84)⟩,⟨some 86, none,.bin .lss (.t 83) (.t 85)⟩] [0,4,5,7,8,11,86] []
def z577r25:IC:=.reg [⟨some 89, none,.mv (.t 8)⟩,⟨some 90, none,.mv (.t 11)⟩,⟨some 91, none,.call zl131 [(.rd,(.t 89)),(.val,(.t 90))] true⟩] [0,4,5,7,8,11,91] []
def z577r26:IC:=.reg [⟨some 92, none,.mv (.t 5)⟩,⟨some 93, none,.mv (.t 7)⟩,⟨some 94, none,.iadr 1 (.t 92) (.t 93)⟩,⟨some 95, none,.load false 1 (.t 94)⟩,⟨some 96, none,.mv (.t 11)⟩,⟨some 97, none,.iadr 1 (.t 95) (.t 96)⟩,⟨none,none,.store 1 (.t 97) (.c (vi 1))⟩] [0,4,5,7,8,11] []
def z577r27:IC:=.reg [⟨some 98, none,.mv (.t 5)⟩,⟨some 99, none,.mv (.t 11)⟩,⟨some 100, none,.iadr 1 (.t 98) (.t 99)⟩,⟨some 101, none,.load false 1 (.t 100)⟩,⟨some 102, none,.mv (.t 7)⟩,⟨some 103, none,.iadr 1 (.t 101) (.t 102)⟩,⟨none,none,.store 1 (.t 103) (.c (vi 1))⟩] [0,4,5,7,8,11] []
def z577r28:IC:=.reg [⟨some 104, none,.mv (.t 4)⟩,⟨some 105, none,.mv (.t 11)⟩,⟨some 106, none,.mv (.t 4)⟩,⟨some 107, none,.mv (.t 11)⟩,⟨some 108, none,.iadr 1 (.t 106) (.t 107)⟩,⟨some 109, none,.load false 1 (.t 108)⟩,⟨some 110, none,.bin .sub (.t 109) (.c (vi 1))⟩,⟨some 111, none,.iadr 1 (.t 104) (.t 105)⟩,⟨none,none,.store 1 (.t 111) (.t 110)⟩] [0,4,5,7,8,11] []
def z577r29:IC:=.reg [⟨some 87, none,.mv (.t 11)⟩,⟨some 88, none,.bin .add (.t 87) (.c (vi 1))⟩,⟨some 11, none,.asg (.t 88)⟩] [0,4,5,7,8,11] []
def z577l30:IC:=(.seq (.seq z577r24 (.cond (.t 86) .skip (.exit 8))) (.seq (.block 9 (.seq z577r25 (.cond (.t 91) z577r26 (.seq z577r27 z577r28)))) z577r29))
def z577r31:IC:=.reg [⟨some 39, none,.mv (.t 7)⟩,⟨some 40, none,.bin .add (.t 39) (.c (vi 1))⟩,⟨some 7, none,.asg (.t 40)⟩] [0,4,5,7] []
def z577l32:IC:=(.seq (.seq z577r11 (.cond (.t 38) .skip (.exit 2))) (.seq (.block 3 (.seq z577r12 (.seq (.block 4 (.loop z577l22)) (.seq z577r23 (.block 8 (.loop z577l30)))))) z577r31))
def z577r33:IC:=.reg [⟨some 112, none,.mv (.t 5)⟩,⟨some 2, none,.asgm (.t 112)⟩,⟨some 3, none,.asg (.c (.bool true))⟩] [2,3,5] []
def zi577:IFun:=⟨[.t 2,.t 3],[],(.seq z577r0 (.seq (.seq z577r1 (.cond (.t 19) (.seq z577r2 .ret) .skip)) (.seq z577r3 (.seq z577r4 (.seq (.seq z577r5 (.block 0 (.loop z577l9))) (.seq (.seq z577r10 (.block 2 (.loop z577l32))) (.seq z577r33 .ret)))))))⟩
def z123r0:IC:=.reg [⟨some 2, none,.asg (.c (.slice none 0 0))⟩] [0] []
def z123r1:IC:=.reg [⟨some 3, none,.bsl 1 [(vi 0)] 0 []⟩,⟨some 4, none,.mv (.t 0)⟩,⟨some 5, none,.app 1 (.t 3) (.t 4)⟩,⟨some 2, none,.asg (.t 5)⟩] [2] []
def zi123:IFun:=⟨[.t 2],[],(.seq z123r0 (.seq z123r1 .ret))⟩
def z127r0:IC:=.reg [⟨some 2, none,.asg (.c (.slice none 0 0))⟩] [0] []
def z127r1:IC:=.reg [⟨some 6, none,.bsl 1 [(vi 0)] 0 []⟩,⟨some 3, none,.asg (.t 6)⟩] [0,3] []
def z127r2:IC:=.reg [⟨some 4, none,.asg (.c (vi 0))⟩] [0,3,4] []
def z127r3:IC:=.reg [⟨some 7, none,.mv (.t 4)⟩,⟨some 8, none,.mv (.t 0)⟩,⟨some 9, none,.len (.t 8)⟩,⟨some 10, none,.bin .lss (.t 7) (.t 9)⟩] [0,3,4,10] []
def z127r4:IC:=.reg [⟨some 5, none,.asg (.c (vi 0))⟩] [0,3,4,5] []
def z127r5:IC:=.reg [⟨some 13, none,.mv (.t 5)⟩,⟨some 14, none,.mv (.t 3)⟩,⟨some 15, none,.len (.t 14)⟩,⟨some 16, none,.bin .lss (.t 13) (.t 15)⟩,⟨some 17, none,.asg (.t 16)⟩,⟨some 18, (some (17,true)),.mv (.t 3)⟩,⟨some 19, (some (17,true)),.mv (.t 5)⟩,⟨some 20, (some (17,true)),.iadr 1 (.t 18) (.t 19)⟩,⟨some 21, (some (17,true)),.load false 1 (.t 20)⟩,⟨some 22, (some (17,true)),.mv (.t 0)⟩,⟨some 23, (some (17,true)),.mv (.t 4)⟩,⟨some 24, (some (17,true)),.iadr 1 (.t 22) (.t 23)⟩,⟨some 25, (some (17,true)),.load false 1 (.t 24)⟩,⟨some 26, (some (17,true)),.bin .geq (.t 21) (.t 25)⟩,⟨some 27, none,.pick (.t 17) (.t 26) (.c (.bool false))⟩] [0,3,4,5,27] []
def z127r6:IC:=.reg [⟨some 28, none,.mv (.t 5)⟩,⟨some 29, none,.bin .add (.t 28) (.c (vi 1))⟩,⟨some 5, none,.asg (.t 29)⟩] [0,3,4,5] []
def z127l7:IC:=(.seq (.seq z127r5 (.cond (.t 27) .skip (.exit 2))) (.block 3 z127r6))
def z127r8:IC:=.reg [⟨some 30, none,.mv (.t 3)⟩,⟨some 31, none,.mv (.t 5)⟩,⟨some 32, none,.slc 1 (.t 30) none (some (.t 31)) none⟩,⟨some 33, none,.call zl123 [(.rd,(.t 32))] true⟩,⟨some 34, none,.mv (.t 0)⟩,⟨some 35, none,.mv (.t 4)⟩,⟨some 36, none,.iadr 1 (.t 34) (.t 35)⟩,⟨some 37, none,.load false 1 (.t 36)⟩,⟨some 38, none,.bsl 1 [(vi 0)] 1 [(0,(.t 37))]⟩,⟨some 39, none,.app 1 (.t 33) (.t 38)⟩,⟨some 40, none,.mv (.t 3)⟩,⟨some 41, none,.mv (.t 5)⟩,⟨some 42, none,.slc 1 (.t 40) (some (.t 41)) none none⟩,⟨some 43, none,.app 1 (.t 39) (.t 42)⟩,⟨some 3, none,.asg (.t 43)⟩] [0,3,4] [[0,1,2,4,5,6,7,3,8,9,10,11,12,13,14],[0,1,2,4,5,6,7,8,3,9,10,11,12,13,14]]
def z127r9:IC:=.reg [⟨some 11, none,.mv (.t 4)⟩,⟨some 12, none,.bin .add (.t 11) (.c (vi 1))⟩,⟨some 4, none,.asg (.t 12)⟩] [0,3,4] []
def z127l10:IC:=(.seq (.seq z127r3 (.cond (.t 10) .skip (.exit 0))) (.seq (.block 1 (.seq z127r4 (.seq (.block 2 (.loop z127l7)) z127r8))) z127r9))
def z127r11:IC:=.reg [⟨some 44, none,.mv (.t 3)⟩,⟨some 2, none,.asgm (.t 44)⟩] [2,3] []
def zi127:IFun:=⟨[.t 2],[],(.seq z127r0 (.seq z127r1 (.seq (.seq z127r2 (.block 0 (.loop z127l10))) (.seq z127r11 .ret))))⟩
def z131r0:IC:=.reg [⟨some 4, none,.asg (.c (.bool false))⟩] [0,1] []
def z131r1:IC:=.reg [⟨some 5, none,.asg (.c (vi 0))⟩] [0,1,5] []
def z131r2:IC:=.reg [⟨some 6, none,.mv (.t 5)⟩,⟨some 7, none,.mv (.t 0)⟩,⟨some 8, none,.len (.t 7)⟩,⟨some 9, none,.bin .lss (.t 6) (.t 8)⟩] [0,1,5,9] []
def z131r3:IC:=.reg [⟨some 12, none,.mv (.t 0)⟩,⟨some 13, none,.mv (.t 5)⟩,⟨some 14, none,.iadr 1 (.t 12) (.t 13)⟩,⟨some 15, none,.load false 1 (.t 14)⟩,⟨some 16, none,.mv (.t 1)⟩,⟨some 17, none,.bin .eql (.t 15) (.t 16)⟩] [0,1,5,17] []
def z131r4:IC:=.reg [⟨some 4, none,.asg (.c (.bool true))⟩] [4] []
def z131r5:IC:=.reg [⟨some 10, none,.mv (.t 5)⟩,⟨some 11, none,.bin .add (.t 10) (.c (vi 1))⟩,⟨some 5, none,.asg (.t 11)⟩] [0,1,5] []
def z131l6:IC:=(.seq (.seq z131r2 (.cond (.t 9) .skip (.exit 0))) (.seq (.block 1 (.seq z131r3 (.cond (.t 17) (.seq z131r4 .ret) .skip))) z131r5))
def z131r7:IC:=.reg [⟨some 4, none,.asg (.c (.bool false))⟩] [4] []
def zi131:IFun:=⟨[.t 4],[],(.seq z131r0 (.seq (.seq z131r1 (.block 0 (.loop z131l6))) (.seq z131r7 .ret)))⟩
def z132r0:IC:=.reg [⟨some 6, none,.asg (.c (.bool false))⟩] [0,1,2] []
def z132r1:IC:=.reg [⟨some 7, none,.mv (.t 1)⟩,⟨some 8, none,.mv (.t 0)⟩,⟨some 9, none,.bin .leq (.t 7) (.t 8)⟩,⟨some 10, none,.asg (.t 9)⟩,⟨some 11, (some (10,true)),.mv (.t 0)⟩,⟨some 12, (some (10,true)),.mv (.t 2)⟩,⟨some 13, (some (10,true)),.bin .leq (.t 11) (.t 12)⟩,⟨some 14, none,.pick (.t 10) (.t 13) (.c (.bool false))⟩,⟨some 6, none,.asg (.t 14)⟩] [6] []
def zi132:IFun:=⟨[.t 6],[],(.seq z132r0 (.seq z132r1 .ret))⟩
def z492r0:IC:=.reg [⟨some 2, none,.asg (.c (.bool false))⟩] [0] []
def z492r1:IC:=.reg [⟨some 4, none,.mv (.t 0)⟩,⟨some 5, none,.call zl493 [(.rd,(.t 4))] true⟩,⟨some 3, none,.asg (.t 5)⟩] [3] []
def z492r2:IC:=.reg [⟨some 6, none,.mv (.t 3)⟩,⟨some 7, none,.call zl360 [(.rd,(.t 6))] true⟩,⟨some 8, none,.bin .eql (.t 7) (.c (vi 0))⟩,⟨some 9, none,.asg (.t 8)⟩,⟨some 10, (some (9,true)),.mv (.t 3)⟩,⟨some 11, (some (9,true)),.mv (.t 3)⟩,⟨some 12, (some (9,true)),.len (.t 11)⟩,⟨some 13, (some (9,true)),.bin .sub (.t 12) (.c (vi 1))⟩,⟨some 14, (some (9,true)),.iadr 1 (.t 10) (.t 13)⟩,⟨some 15, (some (9,true)),.load false 1 (.t 14)⟩,⟨some 16, (some (9,true)),.bin .eql (.t 15) (.c (vi 0))⟩,⟨some 17, none,.pick (.t 9) (.t 16) (.c (.bool false))⟩,⟨some 2, none,.asg (.t 17)⟩] [2] []
def zi492:IFun:=⟨[.t 2],[],(.seq z492r0 (.seq z492r1 (.seq z492r2 .ret)))⟩
def z360r0:IC:=.reg [⟨some 2, none,.asg (.c (vi 0))⟩] [0] []
def z360r1:IC:=.reg [⟨some 3, none,.asg (.c (vi 0))⟩] [0,3] []
def z360r2:IC:=.reg [⟨some 4, none,.asg (.c (vi 0))⟩] [0,3,4] []
def z360r3:IC:=.reg [⟨some 5, none,.mv (.t 4)⟩,⟨some 6, none,.mv (.t 0)⟩,⟨some 7, none,.len (.t 6)⟩,⟨some 8, none,.bin .lss (.t 5) (.t 7)⟩] [0,3,4,8] []
def z360r4:IC:=.reg [⟨some 11, none,.mv (.t 3)⟩,⟨some 12, none,.mv (.t 0)⟩,⟨some 13, none,.mv (.t 4)⟩,⟨some 14, none,.iadr 1 (.t 12) (.t 13)⟩,⟨some 15, none,.load false 1 (.t 14)⟩,⟨some 16, none,.minmax true (.t 11) (.t 15)⟩,⟨some 3, none,.asg (.t 16)⟩] [0,3,4] []
def z360r5:IC:=.reg [⟨some 9, none,.mv (.t 4)⟩,⟨some 10, none,.bin .add (.t 9) (.c (vi 1))⟩,⟨some 4, none,.asg (.t 10)⟩] [0,3,4] []
def z360l6:IC:=(.seq (.seq z360r3 (.cond (.t 8) .skip (.exit 0))) (.seq (.block 1 z360r4) z360r5))
def z360r7:IC:=.reg [⟨some 17, none,.mv (.t 3)⟩,⟨some 2, none,.asgm (.t 17)⟩] [2] []
def zi360:IFun:=⟨[.t 2],[],(.seq z360r0 (.seq z360r1 (.seq (.seq z360r2 (.block 0 (.loop z360l6))) (.seq z360r7 .ret))))⟩
def z493r0:IC:=.reg [⟨some 2, none,.asg (.c (.slice none 0 0))⟩] [0] []
def z493r1:IC:=.reg [⟨some 6, none,.mv (.t 0)⟩,⟨some 7, none,.call zl127 [(.rd,(.t 6))] true⟩,⟨some 3, none,.asg (.t 7)⟩] [0,3] []
def z493r2:IC:=.reg [⟨some 8, none,.bsl 1 [(vi 0)] 0 []⟩,⟨some 4, none,.asg (.t 8)⟩] [0,3,4] []
def z493r3:IC:=.reg [⟨some 5, none,.asg (.c (vi 1))⟩] [0,3,4,5] []
def z493r4:IC:=.reg [⟨some 9, none,.mv (.t 5)⟩,⟨some 10, none,.mv (.t 0)⟩,⟨some 11, none,.len (.t 10)⟩,⟨some 12, none,.bin .leq (.t 9) (.t 11)⟩] [0,3,4,5,12] []
def z493r5:IC:=.reg [⟨some 15, none,.mv (.t 4)⟩,⟨some 16, none,.mv (.t 3)⟩,⟨some 17, none,.mv (.t 3)⟩,⟨some 18, none,.len (.t 17)⟩,⟨some 19, none,.mv (.t 5)⟩,⟨some 20, none,.bin .sub (.t 18) (.t 19)⟩,⟨some 21, none,.slc 1 (.t 16) (some (.t 20)) none none⟩,⟨some 22, none,.call zl382 [(.rd,(.t 21))] true⟩,⟨some 23, none,.mv (.t 5)⟩,⟨some 24, none,.mv (.t 5)⟩,⟨some 25, none,.bin .sub (.t 24) (.c (vi 1))⟩,⟨some 26, none,.bin .mul (.t 23) (.t 25)⟩,⟨some 27, none,.bin .quo (.t 26) (.c (vi 2))⟩,⟨some 28, none,.bin .sub (.t 22) (.t 27)⟩,⟨some 29, none,.bsl 1 [(vi 0)] 1 [(0,(.t 28))]⟩,⟨some 30, none,.app 1 (.t 15) (.t 29)⟩,⟨some 4, none,.asg (.t 30)⟩] [0,3,4,5] []
def z493r6:IC:=.reg [⟨some 13, none,.mv (.t 5)⟩,⟨some 14, none,.bin .add (.t 13) (.c (vi 1))⟩,⟨some 5, none,.asg (.t 14)⟩] [0,3,4,5] []
def z493l7:IC:=(.seq (.seq z493r4 (.cond (.t 12) .skip (.exit 0))) (.seq (.block 1 z493r5) z493r6))
def z493r8:IC:=.reg [⟨some 31, none,.mv (.t 4)⟩,⟨some 2, none,.asgm (.t 31)⟩] [2,4] []
def zi493:IFun:=⟨[.t 2],[],(.seq z493r0 (.seq z493r1 (.seq z493r2 (.seq (.seq z493r3 (.block 0 (.loop z493l7))) (.seq z493r8 .ret)))))⟩
def z382r0:IC:=.reg [⟨some 2, none,.asg (.c (vi 0))⟩] [0] []
def z382r1:IC:=.reg [⟨some 3, none,.asg (.c (vi 0))⟩] [0,3] []
def z382r2:IC:=.reg [⟨some 4, none,.asg (.c (vi 0))⟩] [0,3,4] []
def z382r3:IC:=.reg [⟨some 5, none,.mv (.t 4)⟩,⟨some 6, none,.mv (.t 0)⟩,⟨some 7, none,.len (.t 6)⟩,⟨some 8, none,.bin .lss (.t 5) (.t 7)⟩] [0,3,4,8] []
def z382r4:IC:=.reg [⟨some 11, none,.mv (.t 3)⟩,⟨some 12, none,.mv (.t 0)⟩,⟨some 13, none,.mv (.t 4)⟩,⟨some 14, none,.iadr 1 (.t 12) (.t 13)⟩,⟨some 15, none,.load false 1 (.t 14)⟩,⟨some 16, none,.bin .add (.t 11) (.t 15)⟩,⟨some 3, none,.asg (.t 16)⟩] [0,3,4] []
def z382r5:IC:=.reg [⟨some 9, none,.mv (.t 4)⟩,⟨some 10, none,.bin .add (.t 9) (.c (vi 1))⟩,⟨some 4, none,.asg (.t 10)⟩] [0,3,4] []
def z382l6:IC:=(.seq (.seq z382r3 (.cond (.t 8) .skip (.exit 0))) (.seq (.block 1 z382r4) z382r5))
def z382r7:IC:=.reg [⟨some 17, none,.mv (.t 3)⟩,⟨some 2, none,.asgm (.t 17)⟩] [2] []
def zi382:IFun:=⟨[.t 2],[],(.seq z382r0 (.seq z382r1 (.seq (.seq z382r2 (.block 0 (.loop z382l6))) (.seq z382r7 .ret))))⟩
def z388r0:IC:=.reg [⟨some 2, none,.asg (.c (.bool false))⟩] [0] []
def z388r1:IC:=.reg [⟨some 3, none,.asg (.c (vi 0))⟩] [0,3] []
def z388r2:IC:=.reg [⟨some 4, none,.mv (.t 3)⟩,⟨some 5, none,.mv (.t 0)⟩,⟨some 6, none,.len (.t 5)⟩,⟨some 7, none,.bin .lss (.t 4) (.t 6)⟩] [0,3,7] []
def z388r3:IC:=.reg [⟨some 10, none,.mv (.t 0)⟩,⟨some 11, none,.mv (.t 3)⟩,⟨some 12, none,.iadr 1 (.t 10) (.t 11)⟩,⟨some 13, none,.load false 1 (.t 12)⟩,⟨some 14, none,.mv (.t 0)⟩,⟨some 15, none,.len (.t 14)⟩,⟨some 16, none,.bin .sub (.t 15) (.c (vi 1))⟩,⟨some 17, none,.call zl132 [(.val,(.t 13)),(.val,(.c (vi 0))),(.val,(.t 16))] true⟩,⟨some 18, none,.unop .not (.t 17)⟩] [0,3,18] []
def z388r4:IC:=.reg [⟨some 2, none,.asg (.c (.bool false))⟩] [2] []
def z388r5:IC:=.reg [⟨some 8, none,.mv (.t 3)⟩,⟨some 9, none,.bin .add (.t 8) (.c (vi 1))⟩,⟨some 3, none,.asg (.t 9)⟩] [0,3] []
def z388l6:IC:=(.seq (.seq z388r2 (.cond (.t 7) .skip (.exit 0))) (.seq (.block 1 (.seq z388r3 (.cond (.t 18) (.seq z388r4 .ret) .skip))) z388r5))
def z388r7:IC:=.reg [⟨some 19, none,.mv (.t 0)⟩,⟨some 20, none,.len (.t 19)⟩,⟨some 21, none,.call zl132 [(.val,(.t 20)),(.val,(.c (vi 1))),(.val,(.c (vi 5)))] true⟩,⟨some 2, none,.asg (.t 21)⟩] [2] []
def zi388:IFun:=⟨[.t 2],[],(.seq z388r0 (.seq (.seq z388r1 (.block 0 (.loop z388l6))) (.seq z388r7 .ret)))⟩
def tbl:List (Nat×IFun):=[(zl2,zi2),(zl4,zi4),(zl11,zi11),(zl461,zi461),(zl462,zi462),(zl463,zi463),(zl29,zi29),(zl30,zi30),(zl31,zi31),(zl37,zi37),(zl38,zi38),(zl212,zi212),(zl39,zi39),(zl40,zi40),(zl41,zi41),(zl528,zi528),(zl233,zi233),(zl542,zi542),(zl241,zi241),(zl545,zi545),(zl243,zi243),(zl546,zi546),(zl248,zi248),(zl66,zi66),(zl68,zi68),(zl70,zi70),(zl71,zi71),(zl72,zi72),(zl73,zi73),(zl75,zi75),(zl76,zi76),(zl273,zi273),(zl78,zi78),(zl278,zi278),(zl86,zi86),(zl101,zi101),(zl289,zi289),(zl577,zi577),(zl123,zi123),(zl127,zi127),(zl131,zi131),(zl132,zi132),(zl492,zi492),(zl360,zi360),(zl493,zi493),(zl382,zi382),(zl388,zi388)]
def tb:Tbl:=tbOf tbl
theorem zt2:tb zl2=some zi2:=by kernel_rfl
theorem zt4:tb zl4=some zi4:=by kernel_rfl
theorem zt11:tb zl11=some zi11:=by kernel_rfl
theorem zt461:tb zl461=some zi461:=by kernel_rfl
theorem zt462:tb zl462=some zi462:=by kernel_rfl
theorem zt463:tb zl463=some zi463:=by kernel_rfl
theorem zt29:tb zl29=some zi29:=by kernel_rfl
theorem zt30:tb zl30=some zi30:=by kernel_rfl
theorem zt31:tb zl31=some zi31:=by kernel_rfl
theorem zt37:tb zl37=some zi37:=by kernel_rfl
theorem zt38:tb zl38=some zi38:=by kernel_rfl
theorem zt212:tb zl212=some zi212:=by kernel_rfl
theorem zt39:tb zl39=some zi39:=by kernel_rfl
theorem zt40:tb zl40=some zi40:=by kernel_rfl
theorem zt41:tb zl41=some zi41:=by kernel_rfl
theorem zt528:tb zl528=some zi528:=by kernel_rfl
theorem zt233:tb zl233=some zi233:=by kernel_rfl
theorem zt542:tb zl542=some zi542:=by kernel_rfl
theorem zt241:tb zl241=some zi241:=by kernel_rfl
theorem zt545:tb zl545=some zi545:=by kernel_rfl
theorem zt243:tb zl243=some zi243:=by kernel_rfl
theorem zt546:tb zl546=some zi546:=by kernel_rfl
theorem zt248:tb zl248=some zi248:=by kernel_rfl
theorem zt66:tb zl66=some zi66:=by kernel_rfl
theorem zt68:tb zl68=some zi68:=by kernel_rfl
theorem zt70:tb zl70=some zi70:=by kernel_rfl
theorem zt71:tb zl71=some zi71:=by kernel_rfl
theorem zt72:tb zl72=some zi72:=by kernel_rfl
theorem zt73:tb zl73=some zi73:=by kernel_rfl
theorem zt75:tb zl75=some zi75:=by kernel_rfl
theorem zt76:tb zl76=some zi76:=by kernel_rfl
theorem zt273:tb zl273=some zi273:=by kernel_rfl
theorem zt78:tb zl78=some zi78:=by kernel_rfl
theorem zt278:tb zl278=some zi278:=by kernel_rfl
theorem zt86:tb zl86=some zi86:=by kernel_rfl
theorem zt101:tb zl101=some zi101:=by kernel_rfl
theorem zt289:tb zl289=some zi289:=by kernel_rfl
theorem zt577:tb zl577=some zi577:=by kernel_rfl
theorem zt123:tb zl123=some zi123:=by kernel_rfl
theorem zt127:tb zl127=some zi127:=by kernel_rfl
theorem zt131:tb zl131=some zi131:=by kernel_rfl
theorem zt132:tb zl132=some zi132:=by kernel_rfl
theorem zt492:tb zl492=some zi492:=by kernel_rfl
theorem zt360:tb zl360=some zi360:=by kernel_rfl
theorem zt493:tb zl493=some zi493:=by kernel_rfl
theorem zt382:tb zl382=some zi382:=by kernel_rfl
theorem zt388:tb zl388=some zi388:=by kernel_rfl
end Go.Idl
