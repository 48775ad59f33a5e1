/- Part 4 of a proof by an ideal interpreter of the code: its definitions and lemmas. Conditions: none. -/
import Derived.KernelRfl
import Derived.Test.YtcneneaofkacoaaA3
set_option linter.all false
set_option linter.unusedVariables false
set_option linter.unusedSimpArgs false
namespace Go.Idl
open Go
abbrev vi (n:Int):Value:=.int .i64 n
abbrev zl2:Lab:=2
abbrev zl4:Lab:=4
abbrev zl5:Lab:=5
abbrev zl6:Lab:=6
abbrev zl11:Lab:=11
abbrev zl25:Lab:=25
abbrev zl29:Lab:=29
abbrev zl30:Lab:=30
abbrev zl31:Lab:=31
abbrev zl33:Lab:=33
abbrev zl34:Lab:=34
abbrev zl35:Lab:=35
abbrev zl37:Lab:=37
abbrev zl38:Lab:=38
abbrev zl39:Lab:=39
abbrev zl40:Lab:=40
abbrev zl41:Lab:=41
abbrev zl66:Lab:=66
abbrev zl67:Lab:=67
abbrev zl68:Lab:=68
abbrev zl70:Lab:=70
abbrev zl71:Lab:=71
abbrev zl72:Lab:=72
abbrev zl73:Lab:=73
abbrev zl75:Lab:=75
abbrev zl76:Lab:=76
abbrev zl78:Lab:=78
abbrev zl80:Lab:=80
abbrev zl82:Lab:=82
abbrev zl84:Lab:=84
abbrev zl86:Lab:=86
abbrev zl95:Lab:=95
abbrev zl98:Lab:=98
abbrev zl99:Lab:=99
abbrev zl101:Lab:=101
abbrev zl103:Lab:=103
abbrev zl119:Lab:=119
abbrev zl123:Lab:=123
abbrev zl127:Lab:=127
abbrev zl132:Lab:=132
abbrev zl137:Lab:=137
abbrev zl139:Lab:=139
abbrev zl140:Lab:=140
abbrev zl179:Lab:=179
abbrev zl180:Lab:=180
abbrev zl181:Lab:=181
abbrev zl212:Lab:=212
abbrev zl215:Lab:=215
abbrev zl273:Lab:=273
abbrev zl278:Lab:=278
abbrev zl289:Lab:=289
abbrev zl291:Lab:=291
abbrev zl360:Lab:=360
abbrev zl371:Lab:=371
abbrev zl382:Lab:=382
abbrev zl388:Lab:=388
abbrev zl412:Lab:=412
abbrev zl413:Lab:=413
abbrev zl461:Lab:=461
abbrev zl462:Lab:=462
abbrev zl463:Lab:=463
abbrev zl469:Lab:=469
abbrev zl485:Lab:=485
abbrev zl488:Lab:=488
abbrev zl492:Lab:=492
abbrev zl493:Lab:=493
abbrev zl494:Lab:=494
def z2r0:IC:=.reg [⟨some 4, none,.asg (.c (.bool false))⟩] [0,1] []
def z2r1:IC:=.reg [⟨some 5, none,.mv (.t 0)⟩,⟨some 6, none,.call zl4 [(.val,(.t 5))] true⟩,⟨some 7, none,.asg (.t 6)⟩,⟨some 8, (some (7,true)),.mv (.t 1)⟩,⟨some 9, (some (7,true)),.call zl4 [(.val,(.t 8))] true⟩,⟨some 10, (some (7,true)),.unop .not (.t 9)⟩,⟨some 11, none,.pick (.t 7) (.t 10) (.c (.bool false))⟩,⟨some 12, none,.asg (.t 11)⟩,⟨some 13, (some (12,false)),.mv (.t 0)⟩,⟨some 14, (some (12,false)),.mv (.t 1)⟩,⟨some 15, (some (12,false)),.bin .lss (.t 13) (.t 14)⟩,⟨some 16, none,.pick (.t 12) (.c (.bool true)) (.t 15)⟩,⟨some 4, none,.asg (.t 16)⟩] [4] []
def zi2:IFun:=⟨[.t 4],[],(.seq z2r0 (.seq z2r1 .ret))⟩
def z4r0:IC:=.reg [⟨some 2, none,.asg (.c (.bool false))⟩] [0] []
def z4r1:IC:=.reg [⟨some 3, none,.mv (.t 0)⟩,⟨some 4, none,.mv (.t 0)⟩,⟨some 5, none,.bin .neq (.t 3) (.t 4)⟩,⟨some 2, none,.asg (.t 5)⟩] [2] []
def zi4:IFun:=⟨[.t 2],[],(.seq z4r0 (.seq z4r1 .ret))⟩
def z5r0:IC:=.reg [⟨some 1, none,.box (.t 0)⟩,⟨some 2, none,.asg (.c (.slice none 0 0))⟩] [1] []
def z5r1:IC:=.reg [⟨some 3, none,.load false 1 (.t 1)⟩,⟨some 4, none,.mkfn zl6 [(.t 1)]⟩,⟨some 5, none,.call zl35 [(.rd,(.t 3)),(.val,(.t 4))] false⟩,⟨some 2, none,.asg (.t 5)⟩] [2] []
def zi5:IFun:=⟨[.t 2],[],(.seq z5r0 (.seq z5r1 .ret))⟩
def z6r0:IC:=.reg [⟨some 3, none,.asg (.c (vi 0))⟩] [0,1] []
def z6r1:IC:=.reg [⟨some 4, none,.load false 1 (.t 1)⟩,⟨some 5, none,.len (.t 4)⟩,⟨some 6, none,.bin .sub (.t 5) (.c (vi 1))⟩,⟨some 7, none,.load false 1 (.t 1)⟩,⟨some 8, none,.mv (.t 0)⟩,⟨some 9, none,.iadr 1 (.t 7) (.t 8)⟩,⟨some 10, none,.load false 1 (.t 9)⟩,⟨some 11, none,.bin .sub (.t 6) (.t 10)⟩,⟨some 3, none,.asg (.t 11)⟩] [3] []
def zi6:IFun:=⟨[.t 3],[],(.seq z6r0 (.seq z6r1 .ret))⟩
def z179r0:IC:=.reg [⟨some 4, none,.asg (.c (.bool false))⟩] [0,1] []
def z179r1:IC:=.reg [⟨some 7, none,.mv (.t 0)⟩,⟨some 8, none,.len (.t 7)⟩,⟨some 5, none,.asg (.t 8)⟩] [0,1,5] []
def z179r2:IC:=.reg [⟨some 9, none,.mv (.t 5)⟩,⟨some 10, none,.bin .eql (.t 9) (.c (vi 0))⟩,⟨some 11, none,.asg (.t 10)⟩,⟨some 12, (some (11,false)),.mv (.t 5)⟩,⟨some 13, (some (11,false)),.bin .gtr (.t 12) (.c (vi 5))⟩,⟨some 14, none,.pick (.t 11) (.c (.bool true)) (.t 13)⟩,⟨some 15, none,.asg (.t 14)⟩,⟨some 16, (some (15,false)),.mv (.t 1)⟩,⟨some 17, (some (15,false)),.len (.t 16)⟩,⟨some 18, (some (15,false)),.mv (.t 5)⟩,⟨some 19, (some (15,false)),.bin .neq (.t 17) (.t 18)⟩,⟨some 20, none,.pick (.t 15) (.c (.bool true)) (.t 19)⟩,⟨some 21, none,.asg (.t 20)⟩,⟨some 22, (some (21,false)),.mv (.t 0)⟩,⟨some 23, (some (21,false)),.mv (.t 5)⟩,⟨some 24, (some (21,false)),.bin .sub (.t 23) (.c (vi 1))⟩,⟨some 25, (some (21,false)),.call zl29 [(.rd,(.t 22)),(.val,(.c (vi 0))),(.val,(.t 24))] true⟩,⟨some 26, (some (21,false)),.unop .not (.t 25)⟩,
    ⟨some 27, none,.pick (.t 21) (.c (.bool true)) (.t 26)⟩,⟨some 28, none,.asg (.t 27)⟩,⟨some 29, (some (28,false)),.mv (.t 1)⟩,⟨some 30, (some (28,false)),.mv (.t 5)⟩,⟨some 31, (some (28,false)),.bin .sub (.t 30) (.c (vi 1))⟩,⟨some 32, (some (28,false)),.call zl29 [(.rd,(.t 29)),(.val,(.c (vi 0))),(.val,(.t 31))] true⟩,⟨some 33, (some (28,false)),.unop .not (.t 32)⟩,⟨some 34, none,.pick (.t 28) (.c (.bool true)) (.t 33)⟩] [0,1,34] []
def z179r3:IC:=.reg [⟨some 4, none,.asg (.c (.bool false))⟩] [4] []
def z179r4:IC:=.reg [⟨some 6, none,.alloc [(.bool false)]⟩,⟨none,none,.store 1 (.t 6) (.c (.bool false))⟩] [0,1,6] []
def z179r5:IC:=.reg [⟨some 35, none,.mv (.t 0)⟩,⟨some 36, none,.mv (.t 1)⟩,⟨some 37, none,.mkfn zl181 [(.t 6)]⟩,⟨some 38, none,.call zl215 [(.rd,(.t 35)),(.rd,(.t 36)),(.val,(.f zl180)),(.val,(.t 37))] false⟩] [6] []
def z179r6:IC:=.reg [⟨some 39, none,.load false 1 (.t 6)⟩,⟨some 4, none,.asg (.t 39)⟩] [4] []
def zi179:IFun:=⟨[.t 4],[],(.seq z179r0 (.seq z179r1 (.seq (.seq z179r2 (.cond (.t 34) (.seq z179r3 .ret) .skip)) (.seq z179r4 (.seq z179r5 (.seq z179r6 .ret))))))⟩
def z180r0:IC:=.reg [⟨some 4, none,.asg (.c (.bool false))⟩] [0,1] []
def z180r1:IC:=.reg [⟨some 5, none,.mv (.t 0)⟩,⟨some 6, none,.mv (.t 1)⟩,⟨some 7, none,.bin .neq (.t 5) (.t 6)⟩,⟨some 4, none,.asg (.t 7)⟩] [4] []
def zi180:IFun:=⟨[.t 4],[],(.seq z180r0 (.seq z180r1 .ret))⟩
def z181r0:IC:=.reg [⟨some 3, none,.asg (.c (.bool false))⟩] [1] []
def z181r1:IC:=.reg [⟨none,none,.store 1 (.t 1) (.c (.bool true))⟩] [] []
def z181r2:IC:=.reg [⟨some 3, none,.asg (.c (.bool false))⟩] [3] []
def zi181:IFun:=⟨[.t 3],[],(.seq z181r0 (.seq z181r1 (.seq z181r2 .ret)))⟩
def z11r0:IC:=.reg [⟨some 2, none,.asg (.c (.bool false))⟩] [0] []
def z11r1:IC:=.reg [⟨some 4, none,.mv (.t 0)⟩,⟨some 5, none,.len (.t 4)⟩,⟨some 6, none,.call zl38 [(.val,(.t 5)),(.val,(.c (vi 1))),(.val,(.c (vi 5)))] true⟩,⟨some 7, none,.unop .not (.t 6)⟩,⟨some 8, none,.asg (.t 7)⟩,⟨some 9, (some (8,false)),.mv (.t 0)⟩,⟨some 10, (some (8,false)),.mv (.t 0)⟩,⟨some 11, (some (8,false)),.len (.t 10)⟩,⟨some 12, (some (8,false)),.bin .sub (.t 11) (.c (vi 1))⟩,⟨some 13, (some (8,false)),.call zl29 [(.rd,(.t 9)),(.val,(.c (vi 0))),(.val,(.t 12))] true⟩,⟨some 14, (some (8,false)),.unop .not (.t 13)⟩,⟨some 15, none,.pick (.t 8) (.c (.bool true)) (.t 14)⟩] [0,15] []
def z11r2:IC:=.reg [⟨some 2, none,.asg (.c (.bool false))⟩] [2] []
def z11r3:IC:=.reg [⟨some 16, none,.mv (.t 0)⟩,⟨some 17, none,.call zl39 [(.rd,(.t 16))] true⟩,⟨some 3, none,.asg (.t 17)⟩] [3] []
def z11r4:IC:=.reg [⟨some 18, none,.mv (.t 3)⟩,⟨some 19, none,.call zl75 [(.rd,(.t 18))] true⟩,⟨some 20, none,.bin .geq (.t 19) (.c (vi 0))⟩,⟨some 21, none,.asg (.t 20)⟩,⟨some 22, (some (21,true)),.mv (.t 3)⟩,⟨some 23, (some (21,true)),.mv (.t 3)⟩,⟨some 24, (some (21,true)),.len (.t 23)⟩,⟨some 25, (some (21,true)),.bin .sub (.t 24) (.c (vi 1))⟩,⟨some 26, (some (21,true)),.iadr 1 (.t 22) (.t 25)⟩,⟨some 27, (some (21,true)),.load false 1 (.t 26)⟩,⟨some 28, (some (21,true)),.bin .eql (.t 27) (.c (vi 0))⟩,⟨some 29, none,.pick (.t 21) (.t 28) (.c (.bool false))⟩,⟨some 2, none,.asg (.t 29)⟩] [2] []
def zi11:IFun:=⟨[.t 2],[],(.seq z11r0 (.seq (.seq z11r1 (.cond (.t 15) (.seq z11r2 .ret) .skip)) (.seq z11r3 (.seq z11r4 .ret))))⟩
def z461r0:IC:=.reg [⟨some 2, none,.asg (.c (.slice none 0 0))⟩,⟨some 3, none,.asg (.c (.bool false))⟩] [0] []
def z461r1:IC:=.reg [⟨some 11, none,.mv (.t 0)⟩,⟨some 12, none,.call zl11 [(.rd,(.t 11))] true⟩,⟨some 13, none,.unop .not (.t 12)⟩] [0,13] []
def z461r2:IC:=.reg [⟨some 2, none,.asg (.c (.slice none 0 0))⟩,⟨some 3, none,.asg (.c (.bool false))⟩] [2,3,6] []
def z461r3:IC:=.reg [⟨some 14, none,.mv (.t 0)⟩,⟨some 15, none,.len (.t 14)⟩,⟨some 4, none,.asg (.t 15)⟩] [0,4] []
def z461r4:IC:=.reg [⟨some 16, none,.mv (.t 0)⟩,⟨some 17, none,.call zl31 [(.rd,(.t 16))] true⟩,⟨some 5, none,.alloc [(.slice none 0 0)]⟩,⟨none,none,.store 1 (.t 5) (.t 17)⟩] [4,5] []
def z461r5:IC:=.reg [⟨some 18, none,.mv (.t 4)⟩,⟨some 19, none,.mv (.t 4)⟩,⟨some 20, none,.call zl41 [(.val,(.t 18)),(.val,(.t 19)),(.val,(.f zl462))] false⟩,⟨some 6, none,.asg (.t 20)⟩] [4,5,6] []
def z461r6:IC:=.reg [⟨some 21, none,.mv (.t 4)⟩,⟨some 22, none,.mv (.c (vi 0))⟩] [4,5,6,21,22] []
def z461r7:IC:=.reg [⟨some 23, none,.bin .lss (.t 22) (.t 21)⟩] [4,5,6,21,22,23] []
def z461r8:IC:=.reg [⟨some 24, none,.asg (.t 22)⟩,⟨some 7, none,.asg (.t 24)⟩] [4,5,6,7,21,22] []
def z461r9:IC:=.reg [⟨some 25, none,.mv (.t 4)⟩,⟨some 26, none,.call zl212 [(.val,(.t 25)),(.val,(.c (vi (-1))))] true⟩,⟨some 27, none,.mv (.t 7)⟩,⟨some 28, none,.bin .add (.t 27) (.c (vi 1))⟩,⟨some 29, none,.slc 1 (.t 26) (some (.t 28)) none none⟩,⟨some 8, none,.asgm (.t 29)⟩] [4,5,6,7,8,21,22,26] []
def z461r10:IC:=.reg [⟨some 30, none,.mv (.t 8)⟩,⟨some 31, none,.mkfn zl463 [(.t 5)]⟩,⟨some 32, none,.call zl273 [(.ld,(.t 30)),(.val,(.t 31))] false⟩] [4,5,6,7,8,21,22,26] []
def z461r11:IC:=.reg [⟨some 33, none,.mv (.t 8)⟩,⟨some 34, none,.len (.t 33)⟩,⟨some 35, none,.mv (.c (vi 0))⟩] [4,5,6,7,8,21,22,26,33,34,35] []
def z461r12:IC:=.reg [⟨some 36, none,.bin .lss (.t 35) (.t 34)⟩] [4,5,6,7,8,21,22,26,33,34,35,36] []
def z461r13:IC:=.reg [⟨some 37, none,.asg (.t 35)⟩,⟨some 38, none,.iadr 1 (.t 33) (.t 35)⟩,⟨some 39, none,.load false 1 (.t 38)⟩,⟨some 9, none,.asg (.t 37)⟩,⟨some 10, none,.asg (.t 39)⟩] [4,5,6,7,8,9,10,21,22,26,33,34,35] []
def z461r14:IC:=.reg [⟨some 40, none,.mv (.t 9)⟩,⟨some 41, none,.load false 1 (.t 5)⟩,⟨some 42, none,.mv (.t 7)⟩,⟨some 43, none,.iadr 1 (.t 41) (.t 42)⟩,⟨some 44, none,.load false 1 (.t 43)⟩,⟨some 45, none,.bin .lss (.t 40) (.t 44)⟩] [4,5,6,7,8,10,21,22,26,33,34,35,45] []
def z461r15:IC:=.reg [⟨some 46, none,.mv (.t 6)⟩,⟨some 47, none,.mv (.t 7)⟩,⟨some 48, none,.iadr 1 (.t 46) (.t 47)⟩,⟨some 49, none,.load false 1 (.t 48)⟩,⟨some 50, none,.mv (.t 10)⟩,⟨some 51, none,.iadr 1 (.t 49) (.t 50)⟩,⟨none,none,.store 1 (.t 51) (.c (vi 1))⟩] [4,5,6,7,8,21,22,26,33,34,35] []
def z461r16:IC:=.reg [⟨some 52, none,.mv (.t 6)⟩,⟨some 53, none,.mv (.t 10)⟩,⟨some 54, none,.iadr 1 (.t 52) (.t 53)⟩,⟨some 55, none,.load false 1 (.t 54)⟩,⟨some 56, none,.mv (.t 7)⟩,⟨some 57, none,.iadr 1 (.t 55) (.t 56)⟩,⟨none,none,.store 1 (.t 57) (.c (vi 1))⟩] [4,5,6,7,8,10,21,22,26,33,34,35] []
def z461r17:IC:=.reg [⟨some 58, none,.load false 1 (.t 5)⟩,⟨some 59, none,.mv (.t 10)⟩,⟨some 60, none,.iadr 1 (.t 58) (.t 59)⟩,⟨some 61, none,.load false 1 (.t 60)⟩,⟨some 62, none,.bin .sub (.t 61) (.c (vi 1))⟩,⟨some 63, none,.iadr 1 (.t 58) (.t 59)⟩,⟨none,none,.store 1 (.t 63) (.t 62)⟩] [4,5,6,7,8,21,22,26,33,34,35] []
def z461r18:IC:=.reg [⟨some 64, none,.bin .add (.t 35) (.c (vi 1))⟩,⟨some 35, none,.asg (.t 64)⟩] [4,5,6,7,8,21,22,26,33,34,35] []
def z461l19:IC:=(.seq z461r12 (.seq (.cond (.t 36) .skip (.exit 2)) (.seq (.block 3 (.seq z461r13 (.seq z461r14 (.cond (.t 45) z461r15 (.seq z461r16 z461r17))))) z461r18)))
def z461r20:IC:=.reg [⟨some 65, none,.bin .add (.t 22) (.c (vi 1))⟩,⟨some 22, none,.asg (.t 65)⟩] [4,5,6,21,22] []
def z461l21:IC:=(.seq z461r7 (.seq (.cond (.t 23) .skip (.exit 0)) (.seq (.block 1 (.seq z461r8 (.seq z461r9 (.seq z461r10 (.seq z461r11 (.block 2 (.loop z461l19))))))) z461r20)))
def z461r22:IC:=.reg [⟨some 66, none,.mv (.t 6)⟩,⟨some 2, none,.asgm (.t 66)⟩,⟨some 3, none,.asg (.c (.bool true))⟩] [2,3,6] []
def zi461:IFun:=⟨[.t 2,.t 3],[],(.seq z461r0 (.seq (.seq z461r1 (.cond (.t 13) (.seq z461r2 .ret) .skip)) (.seq z461r3 (.seq z461r4 (.seq z461r5 (.seq (.seq z461r6 (.block 0 (.loop z461l21))) (.seq z461r22 .ret)))))))⟩
def z462r0:IC:=.reg [⟨some 4, none,.asg (.c (vi 0))⟩] [] []
def z462r1:IC:=.reg [⟨some 4, none,.asg (.c (vi 0))⟩] [4] []
def zi462:IFun:=⟨[.t 4],[],(.seq z462r0 (.seq z462r1 .ret))⟩
def z463r0:IC:=.reg [⟨some 5, none,.asg (.c (vi 0))⟩] [0,1,2] []
def z463r1:IC:=.reg [⟨some 6, none,.load false 1 (.t 2)⟩,⟨some 7, none,.mv (.t 0)⟩,⟨some 8, none,.iadr 1 (.t 6) (.t 7)⟩,⟨some 9, none,.load false 1 (.t 8)⟩,⟨some 10, none,.load false 1 (.t 2)⟩,⟨some 11, none,.mv (.t 1)⟩,⟨some 12, none,.iadr 1 (.t 10) (.t 11)⟩,⟨some 13, none,.load false 1 (.t 12)⟩,⟨some 14, none,.bin .sub (.t 9) (.t 13)⟩,⟨some 5, none,.asg (.t 14)⟩] [5] []
def zi463:IFun:=⟨[.t 5],[],(.seq z463r0 (.seq z463r1 .ret))⟩
def z25r0:IC:=.reg [⟨some 2, none,.asg (.c (.bool false))⟩] [0] []
def z25r1:IC:=.reg [⟨some 3, none,.mv (.t 0)⟩,⟨some 4, none,.len (.t 3)⟩,⟨some 5, none,.bin .leq (.t 4) (.c (vi 7))⟩,⟨some 6, none,.asg (.t 5)⟩,⟨some 7, (some (6,true)),.mv (.t 0)⟩,⟨some 8, (some (6,true)),.mv (.t 0)⟩,⟨some 9, (some (6,true)),.len (.t 8)⟩,⟨some 10, (some (6,true)),.bin .sub (.t 9) (.c (vi 1))⟩,⟨some 11, (some (6,true)),.call zl29 [(.rd,(.t 7)),(.val,(.c (vi 0))),(.val,(.t 10))] true⟩,⟨some 12, none,.pick (.t 6) (.t 11) (.c (.bool false))⟩,⟨some 2, none,.asg (.t 12)⟩] [2] []
def zi25:IFun:=⟨[.t 2],[],(.seq z25r0 (.seq z25r1 .ret))⟩
def z29r0:IC:=.reg [⟨some 4, none,.box (.t 1)⟩,⟨some 5, none,.box (.t 2)⟩,⟨some 6, none,.asg (.c (.bool false))⟩] [0,4,5] []
def z29r1:IC:=.reg [⟨some 7, none,.mv (.t 0)⟩,⟨some 8, none,.mkfn zl30 [(.t 4),(.t 5)]⟩,⟨some 9, none,.call zl72 [(.rd,(.t 7)),(.val,(.t 8))] false⟩,⟨some 10, none,.unop .not (.t 9)⟩,⟨some 6, none,.asg (.t 10)⟩] [6] []
def zi29:IFun:=⟨[.t 6],[],(.seq z29r0 (.seq z29r1 .ret))⟩
def z30r0:IC:=.reg [⟨some 4, none,.asg (.c (.bool false))⟩] [0,1,2] []
def z30r1:IC:=.reg [⟨some 5, none,.mv (.t 0)⟩,⟨some 6, none,.load false 1 (.t 1)⟩,⟨some 7, none,.load false 1 (.t 2)⟩,⟨some 8, none,.call zl38 [(.val,(.t 5)),(.val,(.t 6)),(.val,(.t 7))] true⟩,⟨some 9, none,.unop .not (.t 8)⟩,⟨some 4, none,.asg (.t 9)⟩] [4] []
def zi30:IFun:=⟨[.t 4],[],(.seq z30r0 (.seq z30r1 .ret))⟩
def z31r0:IC:=.reg [⟨some 2, none,.asg (.c (.slice none 0 0))⟩] [0] []
def z31r1:IC:=.reg [⟨some 3, none,.mv (.t 0)⟩,⟨some 4, none,.call zl71 [(.rd,(.t 3))] true⟩,⟨some 5, none,.call zl70 [(.tk,(.t 4))] true⟩,⟨some 2, none,.asg (.t 5)⟩] [2] []
def zi31:IFun:=⟨[.t 2],[],(.seq z31r0 (.seq z31r1 .ret))⟩
def z33r0:IC:=.reg [⟨some 1, none,.box (.t 0)⟩,⟨some 2, none,.asg (.c (.slice none 0 0))⟩] [1] []
def z33r1:IC:=.reg [⟨some 3, none,.load false 1 (.t 1)⟩,⟨some 4, none,.len (.t 3)⟩,⟨some 5, none,.load false 1 (.t 1)⟩,⟨some 6, none,.iadr 1 (.t 5) (.c (vi 0))⟩,⟨some 7, none,.load false 1 (.t 6)⟩,⟨some 8, none,.len (.t 7)⟩,⟨some 9, none,.mkfn zl34 [(.t 1)]⟩,⟨some 10, none,.call zl41 [(.val,(.t 4)),(.val,(.t 8)),(.val,(.t 9))] false⟩,⟨some 2, none,.asg (.t 10)⟩] [2] []
def zi33:IFun:=⟨[.t 2],[],(.seq z33r0 (.seq z33r1 .ret))⟩
def z34r0:IC:=.reg [⟨some 5, none,.asg (.c (vi 0))⟩] [0,1,2] []
def z34r1:IC:=.reg [⟨some 6, none,.load false 1 (.t 2)⟩,⟨some 7, none,.mv (.t 0)⟩,⟨some 8, none,.iadr 1 (.t 6) (.t 7)⟩,⟨some 9, none,.load false 1 (.t 8)⟩,⟨some 10, none,.mv (.t 1)⟩,⟨some 11, none,.iadr 1 (.t 9) (.t 10)⟩,⟨some 12, none,.load false 1 (.t 11)⟩,⟨some 5, none,.asg (.t 12)⟩] [5] []
def zi34:IFun:=⟨[.t 5],[],(.seq z34r0 (.seq z34r1 .ret))⟩
def z35r0:IC:=.reg [⟨some 4, none,.asg (.c (.slice none 0 0))⟩] [0,1] []
def z35r1:IC:=.reg [⟨some 7, none,.mv (.t 0)⟩,⟨some 8, none,.call zl25 [(.rd,(.t 7))] true⟩,⟨some 9, none,.unop .not (.t 8)⟩] [0,1,9] []
def z35r2:IC:=.reg [⟨some 4, none,.asg (.c (.slice none 0 0))⟩] [4,5] []
def z35r3:IC:=.reg [⟨some 10, none,.mv (.t 0)⟩,⟨some 11, none,.len (.t 10)⟩,⟨some 12, none,.mksl 1 [(vi 0)] (.t 11) (.t 11)⟩,⟨some 5, none,.asg (.t 12)⟩] [1,5] []
def z35r4:IC:=.reg [⟨some 13, none,.mv (.t 5)⟩,⟨some 14, none,.len (.t 13)⟩,⟨some 15, none,.mv (.c (vi 0))⟩] [1,5,14,15] []
def z35r5:IC:=.reg [⟨some 16, none,.bin .lss (.t 15) (.t 14)⟩] [1,5,14,15,16] []
def z35r6:IC:=.reg [⟨some 17, none,.asg (.t 15)⟩,⟨some 6, none,.asg (.t 17)⟩] [1,5,6,14,15] []
def z35r7:IC:=.reg [⟨some 18, none,.mv (.t 5)⟩,⟨some 19, none,.mv (.t 6)⟩,⟨some 20, none,.mv (.t 1)⟩,⟨some 21, none,.mv (.t 6)⟩,⟨some 22, none,.callv (.t 20) [(.val,(.t 21))]⟩,⟨some 23, none,.iadr 1 (.t 18) (.t 19)⟩,⟨none,none,.store 1 (.t 23) (.t 22)⟩] [1,5,14,15] []
def z35r8:IC:=.reg [⟨some 24, none,.bin .add (.t 15) (.c (vi 1))⟩,⟨some 15, none,.asg (.t 24)⟩] [1,5,14,15] []
def z35l9:IC:=(.seq z35r5 (.seq (.cond (.t 16) .skip (.exit 0)) (.seq (.block 1 (.seq z35r6 z35r7)) z35r8)))
def z35r10:IC:=.reg [⟨some 25, none,.mv (.t 5)⟩,⟨some 4, none,.asgm (.t 25)⟩] [4,5] []
def zi35:IFun:=⟨[.t 4],[],(.seq z35r0 (.seq (.seq z35r1 (.cond (.t 9) (.seq z35r2 .ret) .skip)) (.seq z35r3 (.seq (.seq z35r4 (.block 0 (.loop z35l9))) (.seq z35r10 .ret)))))⟩
def z37r0:IC:=.reg [⟨some 2, none,.asg (.c (.slice none 0 0))⟩] [0] []
def z37r1:IC:=.reg [⟨some 4, none,.mv (.t 0)⟩,⟨some 5, none,.call zl31 [(.rd,(.t 4))] true⟩,⟨some 3, none,.asg (.t 5)⟩] [3] []
def z37r2:IC:=.reg [⟨some 6, none,.mv (.t 3)⟩,⟨some 7, none,.call zl78 [(.ld,(.t 6))] false⟩] [3] []
def z37r3:IC:=.reg [⟨some 8, none,.mv (.t 3)⟩,⟨some 9, none,.call zl76 [(.ld,(.t 8))] false⟩] [3] []
def z37r4:IC:=.reg [⟨some 10, none,.mv (.t 3)⟩,⟨some 2, none,.asgm (.t 10)⟩] [2,3] []
def zi37:IFun:=⟨[.t 2],[],(.seq z37r0 (.seq z37r1 (.seq z37r2 (.seq z37r3 (.seq z37r4 .ret)))))⟩
def z38r0:IC:=.reg [⟨some 6, none,.asg (.c (.bool false))⟩] [0,1,2] []
def z38r1:IC:=.reg [⟨some 7, none,.mv (.t 0)⟩,⟨some 8, none,.mv (.t 1)⟩,⟨some 9, none,.bin .geq (.t 7) (.t 8)⟩,⟨some 10, none,.asg (.t 9)⟩,⟨some 11, (some (10,true)),.mv (.t 0)⟩,⟨some 12, (some (10,true)),.mv (.t 2)⟩,⟨some 13, (some (10,true)),.bin .leq (.t 11) (.t 12)⟩,⟨some 14, none,.pick (.t 10) (.t 13) (.c (.bool false))⟩,⟨some 6, none,.asg (.t 14)⟩] [6] []
def zi38:IFun:=⟨[.t 6],[],(.seq z38r0 (.seq z38r1 .ret))⟩
def z212r0:IC:=.reg [⟨some 4, none,.asg (.c (.slice none 0 0))⟩] [0,1] []
def z212r1:IC:=.reg [⟨some 5, none,.asg (.c (.slice none 0 0))⟩] [0,1,5] []
def z212r2:IC:=.reg [⟨some 7, none,.mv (.t 0)⟩,⟨some 8, none,.mv (.c (vi 0))⟩] [1,5,7,8] []
def z212r3:IC:=.reg [⟨some 9, none,.bin .lss (.t 8) (.t 7)⟩] [1,5,7,8,9] []
def z212r4:IC:=.reg [⟨some 10, none,.asg (.t 8)⟩,⟨some 6, none,.asg (.t 10)⟩] [1,5,6,7,8] []
def z212r5:IC:=.reg [⟨some 11, none,.mv (.t 6)⟩,⟨some 12, none,.mv (.t 1)⟩,⟨some 13, none,.bin .neq (.t 11) (.t 12)⟩] [1,5,6,7,8,13] []
def z212r6:IC:=.reg [⟨some 14, none,.mv (.t 5)⟩,⟨some 15, none,.mv (.t 6)⟩,⟨some 16, none,.bsl 1 [(vi 0)] 1 [(0,(.t 15))]⟩,⟨some 17, none,.app 1 (.t 14) (.t 16)⟩,⟨some 5, none,.asg (.t 17)⟩] [1,5,7,8] []
def z212r7:IC:=.reg [⟨some 18, none,.bin .add (.t 8) (.c (vi 1))⟩,⟨some 8, none,.asg (.t 18)⟩] [1,5,7,8] []
def z212l8:IC:=(.seq z212r3 (.seq (.cond (.t 9) .skip (.exit 0)) (.seq (.block 1 (.seq z212r4 (.seq z212r5 (.cond (.t 13) z212r6 .skip)))) z212r7)))
def z212r9:IC:=.reg [⟨some 19, none,.mv (.t 5)⟩,⟨some 4, none,.asgm (.t 19)⟩] [4,5] []
def zi212:IFun:=⟨[.t 4],[],(.seq z212r0 (.seq z212r1 (.seq (.seq z212r2 (.block 0 (.loop z212l8))) (.seq z212r9 .ret))))⟩
def z215r0:IC:=.reg [⟨some 4, none,.box (.t 0)⟩,⟨some 5, none,.box (.t 1)⟩,⟨some 6, none,.box (.t 2)⟩,⟨some 7, none,.box (.t 3)⟩] [4,5,6,7] []
def z215r1:IC:=.regd [⟨some 12, none,.load false 1 (.t 4)⟩,⟨some 13, none,.callq zl31 [(.rv,(.t 12))]⟩,⟨some 14, none,.load false 1 (.t 5)⟩,⟨some 15, none,.callq zl31 [(.rv,(.t 14))]⟩,⟨some 8, none,.alloc [(.slice none 0 0)]⟩,⟨some 9, none,.alloc [(.slice none 0 0)]⟩,⟨none,none,.store 1 (.t 8) (.t 13)⟩,⟨none,none,.store 1 (.t 9) (.t 15)⟩] [0,2,1,3,4,5,6,7] [4,5,6,7,8,9] [[0,2,1,3,5,4,6,7]]
def z215r2:IC:=.reg [⟨some 16, none,.load false 1 (.t 4)⟩,⟨some 17, none,.len (.t 16)⟩,⟨some 18, none,.load false 1 (.t 5)⟩,⟨some 19, none,.len (.t 18)⟩,⟨some 20, none,.call zl41 [(.val,(.t 17)),(.val,(.t 19)),(.val,(.f zl412))] false⟩,⟨some 10, none,.alloc [(.slice none 0 0)]⟩,⟨none,none,.store 1 (.t 10) (.t 20)⟩] [4,5,6,7,8,9,10] []
def z215r3:IC:=.reg [⟨some 11, none,.alloc [.nilFunc]⟩] [4,5,6,7,8,9,10,11] []
def z215r4:IC:=.reg [⟨some 21, none,.mkfn zl413 [(.t 4),(.t 5),(.t 8),(.t 9),(.t 7),(.t 10),(.t 6),(.t 11)]⟩,⟨none,none,.store 1 (.t 11) (.t 21)⟩] [11] []
def z215r5:IC:=.reg [⟨some 22, none,.load false 1 (.t 11)⟩,⟨some 23, none,.callv (.t 22) [(.val,(.c (vi 0)))]⟩] [] []
def zi215:IFun:=⟨[],[],(.seq z215r0 (.seq z215r1 (.seq z215r2 (.seq z215r3 (.seq z215r4 z215r5)))))⟩
def z412r0:IC:=.reg [⟨some 4, none,.asg (.c (vi 0))⟩] [] []
def z412r1:IC:=.reg [⟨some 4, none,.asg (.c (vi 0))⟩] [4] []
def zi412:IFun:=⟨[.t 4],[],(.seq z412r0 (.seq z412r1 .ret))⟩
def z413r0:IC:=.reg [⟨some 10, none,.asg (.c (.bool false))⟩] [0,1,2,3,4,5,6,7,8] []
def z413r1:IC:=.reg [⟨some 14, none,.mv (.t 0)⟩,⟨some 15, none,.load false 1 (.t 1)⟩,⟨some 16, none,.len (.t 15)⟩,⟨some 17, none,.load false 1 (.t 2)⟩,⟨some 18, none,.len (.t 17)⟩,⟨some 19, none,.bin .mul (.t 16) (.t 18)⟩,⟨some 20, none,.bin .eql (.t 14) (.t 19)⟩] [0,2,3,4,5,6,7,8,20] []
def z413r2:IC:=.reg [⟨some 21, none,.load false 1 (.t 3)⟩,⟨some 22, none,.call zl40 [(.rd,(.t 21))] true⟩,⟨some 23, none,.bin .gtr (.t 22) (.c (vi 0))⟩,⟨some 24, none,.asg (.t 23)⟩,⟨some 25, (some (24,false)),.load false 1 (.t 4)⟩,⟨some 26, (some (24,false)),.call zl40 [(.rd,(.t 25))] true⟩,⟨some 27, (some (24,false)),.bin .gtr (.t 26) (.c (vi 0))⟩,⟨some 28, none,.pick (.t 24) (.c (.bool true)) (.t 27)⟩,⟨some 29, none,.asg (.t 28)⟩,⟨some 30, (some (29,false)),.load false 1 (.t 5)⟩,⟨some 31, (some (29,false)),.load false 1 (.t 6)⟩,⟨some 32, (some (29,false)),.call zl33 [(.rd,(.t 31))] true⟩,⟨some 33, (some (29,false)),.callv (.t 30) [(.tk,(.t 32))]⟩,⟨some 34, none,.pick (.t 29) (.c (.bool true)) (.t 33)⟩,⟨some 10, none,.asg (.t 34)⟩] [10] [[0,1,2,3,4,5,6,7,8,10,11,9,12,13,14]]
def z413r3:IC:=.reg [⟨some 35, none,.mv (.t 0)⟩,⟨some 36, none,.load false 1 (.t 2)⟩,⟨some 37, none,.len (.t 36)⟩,⟨some 38, none,.bin .quo (.t 35) (.t 37)⟩,⟨some 39, none,.mv (.t 0)⟩,⟨some 40, none,.load false 1 (.t 2)⟩,⟨some 41, none,.len (.t 40)⟩,⟨some 42, none,.bin .rem (.t 39) (.t 41)⟩,⟨some 11, none,.asg (.t 38)⟩,⟨some 12, none,.asg (.t 42)⟩] [0,2,3,4,6,7,8,11,12] [[0,1,2,3,4,8,5,6,7,9]]
def z413r4:IC:=.reg [⟨some 43, none,.load false 1 (.t 3)⟩,⟨some 44, none,.mv (.t 11)⟩,⟨some 45, none,.iadr 1 (.t 43) (.t 44)⟩,⟨some 46, none,.load false 1 (.t 45)⟩,⟨some 47, none,.load false 1 (.t 2)⟩,⟨some 48, none,.len (.t 47)⟩,⟨some 49, none,.mv (.t 12)⟩,⟨some 50, none,.bin .sub (.t 48) (.t 49)⟩,⟨some 51, none,.bin .gtr (.t 46) (.t 50)⟩] [0,3,4,6,7,8,11,12,51] []
def z413r5:IC:=.reg [⟨some 10, none,.asg (.c (.bool true))⟩] [10] []
def z413r6:IC:=.reg [⟨some 52, none,.load false 1 (.t 7)⟩,⟨some 53, none,.mv (.t 11)⟩,⟨some 54, none,.mv (.t 12)⟩,⟨some 55, none,.callv (.t 52) [(.val,(.t 53)),(.val,(.t 54))]⟩,⟨some 56, none,.asg (.t 55)⟩,⟨some 57, (some (56,true)),.load false 1 (.t 3)⟩,⟨some 58, (some (56,true)),.mv (.t 11)⟩,⟨some 59, (some (56,true)),.iadr 1 (.t 57) (.t 58)⟩,⟨some 60, (some (56,true)),.load false 1 (.t 59)⟩,⟨some 61, (some (56,true)),.bin .gtr (.t 60) (.c (vi 0))⟩,⟨some 62, none,.pick (.t 56) (.t 61) (.c (.bool false))⟩,⟨some 63, none,.asg (.t 62)⟩,⟨some 64, (some (63,true)),.load false 1 (.t 4)⟩,⟨some 65, (some (63,true)),.mv (.t 12)⟩,⟨some 66, (some (63,true)),.iadr 1 (.t 64) (.t 65)⟩,⟨some 67, (some (63,true)),.load false 1 (.t 66)⟩,⟨some 68, (some (63,true)),.bin .gtr (.t 67) (.c (vi 0))⟩,⟨some 69, none,.pick (.t 63) (.t 68) (.c (.bool false))⟩] [0,3,4,6,8,11,12,69] []
def z413r7:IC:=.reg [⟨some 70, none,.load false 1 (.t 3)⟩,⟨some 71, none,.mv (.t 11)⟩,⟨some 72, none,.iadr 1 (.t 70) (.t 71)⟩,⟨some 73, none,.load false 1 (.t 72)⟩,⟨some 74, none,.bin .sub (.t 73) (.c (vi 1))⟩,⟨some 75, none,.iadr 1 (.t 70) (.t 71)⟩,⟨none,none,.store 1 (.t 75) (.t 74)⟩] [0,3,4,6,8,11,12] []
def z413r8:IC:=.reg [⟨some 76, none,.load false 1 (.t 4)⟩,⟨some 77, none,.mv (.t 12)⟩,⟨some 78, none,.iadr 1 (.t 76) (.t 77)⟩,⟨some 79, none,.load false 1 (.t 78)⟩,⟨some 80, none,.bin .sub (.t 79) (.c (vi 1))⟩,⟨some 81, none,.iadr 1 (.t 76) (.t 77)⟩,⟨none,none,.store 1 (.t 81) (.t 80)⟩] [0,3,4,6,8,11,12] []
def z413r9:IC:=.reg [⟨some 82, none,.load false 1 (.t 6)⟩,⟨some 83, none,.mv (.t 11)⟩,⟨some 84, none,.iadr 1 (.t 82) (.t 83)⟩,⟨some 85, none,.load false 1 (.t 84)⟩,⟨some 86, none,.mv (.t 12)⟩,⟨some 87, none,.iadr 1 (.t 85) (.t 86)⟩,⟨none,none,.store 1 (.t 87) (.c (vi 1))⟩] [0,3,4,6,8,11,12] []
def z413r10:IC:=.reg [⟨some 88, none,.load false 1 (.t 8)⟩,⟨some 89, none,.mv (.t 0)⟩,⟨some 90, none,.bin .add (.t 89) (.c (vi 1))⟩,⟨some 91, none,.callv (.t 88) [(.val,(.t 90))]⟩,⟨some 13, none,.asg (.t 91)⟩] [0,3,4,6,8,11,12,13] []
def z413r11:IC:=.reg [⟨some 92, none,.load false 1 (.t 6)⟩,⟨some 93, none,.mv (.t 11)⟩,⟨some 94, none,.iadr 1 (.t 92) (.t 93)⟩,⟨some 95, none,.load false 1 (.t 94)⟩,⟨some 96, none,.mv (.t 12)⟩,⟨some 97, none,.iadr 1 (.t 95) (.t 96)⟩,⟨none,none,.store 1 (.t 97) (.c (vi 0))⟩] [0,3,4,8,11,12,13] []
def z413r12:IC:=.reg [⟨some 98, none,.load false 1 (.t 3)⟩,⟨some 99, none,.mv (.t 11)⟩,⟨some 100, none,.iadr 1 (.t 98) (.t 99)⟩,⟨some 101, none,.load false 1 (.t 100)⟩,⟨some 102, none,.bin .add (.t 101) (.c (vi 1))⟩,⟨some 103, none,.iadr 1 (.t 98) (.t 99)⟩,⟨none,none,.store 1 (.t 103) (.t 102)⟩] [0,4,8,12,13] []
def z413r13:IC:=.reg [⟨some 104, none,.load false 1 (.t 4)⟩,⟨some 105, none,.mv (.t 12)⟩,⟨some 106, none,.iadr 1 (.t 104) (.t 105)⟩,⟨some 107, none,.load false 1 (.t 106)⟩,⟨some 108, none,.bin .add (.t 107) (.c (vi 1))⟩,⟨some 109, none,.iadr 1 (.t 104) (.t 105)⟩,⟨none,none,.store 1 (.t 109) (.t 108)⟩] [0,8,13] []
def z413r14:IC:=.reg [⟨some 110, none,.mv (.t 13)⟩,⟨some 111, none,.unop .not (.t 110)⟩] [0,8,111] []
def z413r15:IC:=.reg [⟨some 10, none,.asg (.c (.bool false))⟩] [10] []
def z413r16:IC:=.reg [⟨some 112, none,.load false 1 (.t 8)⟩,⟨some 113, none,.mv (.t 0)⟩,⟨some 114, none,.bin .add (.t 113) (.c (vi 1))⟩,⟨some 115, none,.callv (.t 112) [(.val,(.t 114))]⟩,⟨some 10, none,.asg (.t 115)⟩] [10] []
def zi413:IFun:=⟨[.t 10],[],(.seq z413r0 (.seq (.seq z413r1 (.cond (.t 20) (.seq z413r2 .ret) .skip)) (.seq z413r3 (.seq (.seq z413r4 (.cond (.t 51) (.seq z413r5 .ret) .skip)) (.seq (.seq z413r6 (.cond (.t 69) (.seq z413r7 (.seq z413r8 (.seq z413r9 (.seq z413r10 (.seq z413r11 (.seq z413r12 (.seq z413r13 (.seq z413r14 (.cond (.t 111) (.seq z413r15 .ret) .skip))))))))) .skip)) (.seq z413r16 .ret))))))⟩
def z39r0:IC:=.reg [⟨some 2, none,.asg (.c (.slice none 0 0))⟩] [0] []
def z39r1:IC:=.reg [⟨some 6, none,.mv (.t 0)⟩,⟨some 7, none,.call zl37 [(.rd,(.t 6))] true⟩,⟨some 3, none,.asg (.t 7)⟩] [0,3] []
def z39r2:IC:=.reg [⟨some 8, none,.mv (.t 3)⟩,⟨some 9, none,.call zl76 [(.ld,(.t 8))] false⟩] [0,3] []
def z39r3:IC:=.reg [⟨some 10, none,.mv (.t 0)⟩,⟨some 11, none,.len (.t 10)⟩,⟨some 12, none,.mksl 1 [(vi 0)] (.t 11) (.t 11)⟩,⟨some 4, none,.asg (.t 12)⟩] [3,4] []
def z39r4:IC:=.reg [⟨some 13, none,.mv (.t 4)⟩,⟨some 14, none,.len (.t 13)⟩,⟨some 15, none,.mv (.c (vi 0))⟩] [3,4,14,15] []
def z39r5:IC:=.reg [⟨some 16, none,.bin .lss (.t 15) (.t 14)⟩] [3,4,14,15,16] []
def z39r6:IC:=.reg [⟨some 17, none,.asg (.t 15)⟩,⟨some 5, none,.asg (.t 17)⟩] [3,4,5,14,15] []
def z39r7:IC:=.reg [⟨some 18, none,.mv (.t 4)⟩,⟨some 19, none,.mv (.t 5)⟩,⟨some 20, none,.mv (.t 3)⟩,⟨some 21, none,.mv (.t 5)⟩,⟨some 22, none,.bin .add (.t 21) (.c (vi 1))⟩,⟨some 23, none,.slc 1 (.t 20) none (some (.t 22)) none⟩,⟨some 24, none,.call zl40 [(.rd,(.t 23))] true⟩,⟨some 25, none,.mv (.t 5)⟩,⟨some 26, none,.bin .add (.t 25) (.c (vi 1))⟩,⟨some 27, none,.mv (.t 5)⟩,⟨some 28, none,.bin .mul (.t 26) (.t 27)⟩,⟨some 29, none,.bin .quo (.t 28) (.c (vi 2))⟩,⟨some 30, none,.bin .sub (.t 24) (.t 29)⟩,⟨some 31, none,.iadr 1 (.t 18) (.t 19)⟩,⟨none,none,.store 1 (.t 31) (.t 30)⟩] [3,4,14,15] []
def z39r8:IC:=.reg [⟨some 32, none,.bin .add (.t 15) (.c (vi 1))⟩,⟨some 15, none,.asg (.t 32)⟩] [3,4,14,15] []
def z39l9:IC:=(.seq z39r5 (.seq (.cond (.t 16) .skip (.exit 0)) (.seq (.block 1 (.seq z39r6 z39r7)) z39r8)))
def z39r10:IC:=.reg [⟨some 33, none,.mv (.t 4)⟩,⟨some 2, none,.asgm (.t 33)⟩] [2,4] []
def zi39:IFun:=⟨[.t 2],[],(.seq z39r0 (.seq z39r1 (.seq z39r2 (.seq z39r3 (.seq (.seq z39r4 (.block 0 (.loop z39l9))) (.seq z39r10 .ret))))))⟩
def z40r0:IC:=.reg [⟨some 2, none,.asg (.c (vi 0))⟩] [0] []
def z40r1:IC:=.reg [⟨some 3, none,.asg (.c (vi 0))⟩] [0,3] []
def z40r2:IC:=.reg [⟨some 6, none,.mv (.t 0)⟩,⟨some 7, none,.len (.t 6)⟩,⟨some 8, none,.mv (.c (vi 0))⟩] [0,3,6,7,8] []
def z40r3:IC:=.reg [⟨some 9, none,.bin .lss (.t 8) (.t 7)⟩] [0,3,6,7,8,9] []
def z40r4:IC:=.reg [⟨some 10, none,.iadr 1 (.t 6) (.t 8)⟩,⟨some 11, none,.load false 1 (.t 10)⟩,⟨some 5, none,.asg (.t 11)⟩] [0,3,5,6,7,8] []
def z40r5:IC:=.reg [⟨some 12, none,.mv (.t 3)⟩,⟨some 13, none,.mv (.t 5)⟩,⟨some 14, none,.bin .add (.t 12) (.t 13)⟩,⟨some 3, none,.asg (.t 14)⟩] [0,3,6,7,8] []
def z40r6:IC:=.reg [⟨some 15, none,.bin .add (.t 8) (.c (vi 1))⟩,⟨some 8, none,.asg (.t 15)⟩] [0,3,6,7,8] []
def z40l7:IC:=(.seq z40r3 (.seq (.cond (.t 9) .skip (.exit 0)) (.seq (.block 1 (.seq z40r4 z40r5)) z40r6)))
def z40r8:IC:=.reg [⟨some 16, none,.mv (.t 3)⟩,⟨some 2, none,.asgm (.t 16)⟩] [2] []
def zi40:IFun:=⟨[.t 2],[],(.seq z40r0 (.seq z40r1 (.seq (.seq z40r2 (.block 0 (.loop z40l7))) (.seq z40r8 .ret))))⟩
def z41r0:IC:=.reg [⟨some 6, none,.asg (.c (.slice none 0 0))⟩] [0,1,2] []
def z41r1:IC:=.reg [⟨some 10, none,.mv (.t 0)⟩,⟨some 11, none,.mksl 1 [(.slice none 0 0)] (.t 10) (.t 10)⟩,⟨some 7, none,.asg (.t 11)⟩] [1,2,7] []
def z41r2:IC:=.reg [⟨some 12, none,.mv (.t 7)⟩,⟨some 13, none,.len (.t 12)⟩,⟨some 14, none,.mv (.c (vi 0))⟩] [1,2,7,13,14] []
def z41r3:IC:=.reg [⟨some 15, none,.bin .lss (.t 14) (.t 13)⟩] [1,2,7,13,14,15] []
def z41r4:IC:=.reg [⟨some 16, none,.asg (.t 14)⟩,⟨some 8, none,.asg (.t 16)⟩] [1,2,7,8,13,14] []
def z41r5:IC:=.reg [⟨some 17, none,.mv (.t 7)⟩,⟨some 18, none,.mv (.t 8)⟩,⟨some 19, none,.mv (.t 1)⟩,⟨some 20, none,.mksl 1 [(vi 0)] (.t 19) (.t 19)⟩,⟨some 21, none,.iadr 1 (.t 17) (.t 18)⟩,⟨none,none,.store 1 (.t 21) (.t 20)⟩] [1,2,7,8,13,14] []
def z41r6:IC:=.reg [⟨some 22, none,.mv (.t 7)⟩,⟨some 23, none,.mv (.t 8)⟩,⟨some 24, none,.iadr 1 (.t 22) (.t 23)⟩,⟨some 25, none,.load false 1 (.t 24)⟩,⟨some 26, none,.len (.t 25)⟩,⟨some 27, none,.mv (.c (vi 0))⟩] [1,2,7,8,13,14,26,27] []
def z41r7:IC:=.reg [⟨some 28, none,.bin .lss (.t 27) (.t 26)⟩] [1,2,7,8,13,14,26,27,28] []
def z41r8:IC:=.reg [⟨some 29, none,.asg (.t 27)⟩,⟨some 9, none,.asg (.t 29)⟩] [1,2,7,8,9,13,14,26,27] []
def z41r9:IC:=.reg [⟨some 30, none,.mv (.t 7)⟩,⟨some 31, none,.mv (.t 8)⟩,⟨some 32, none,.iadr 1 (.t 30) (.t 31)⟩,⟨some 33, none,.load false 1 (.t 32)⟩,⟨some 34, none,.mv (.t 9)⟩,⟨some 35, none,.mv (.t 2)⟩,⟨some 36, none,.mv (.t 8)⟩,⟨some 37, none,.mv (.t 9)⟩,⟨some 38, none,.callv (.t 35) [(.val,(.t 36)),(.val,(.t 37))]⟩,⟨some 39, none,.iadr 1 (.t 33) (.t 34)⟩,⟨none,none,.store 1 (.t 39) (.t 38)⟩] [1,2,7,8,13,14,26,27] [[0,1,2,4,5,6,7,8,3,9,10]]
def z41r10:IC:=.reg [⟨some 40, none,.bin .add (.t 27) (.c (vi 1))⟩,⟨some 27, none,.asg (.t 40)⟩] [1,2,7,8,13,14,26,27] []
def z41l11:IC:=(.seq z41r7 (.seq (.cond (.t 28) .skip (.exit 2)) (.seq (.block 3 (.seq z41r8 z41r9)) z41r10)))
def z41r12:IC:=.reg [⟨some 41, none,.bin .add (.t 14) (.c (vi 1))⟩,⟨some 14, none,.asg (.t 41)⟩] [1,2,7,13,14] []
def z41l13:IC:=(.seq z41r3 (.seq (.cond (.t 15) .skip (.exit 0)) (.seq (.block 1 (.seq z41r4 (.seq z41r5 (.seq z41r6 (.block 2 (.loop z41l11)))))) z41r12)))
def z41r14:IC:=.reg [⟨some 42, none,.mv (.t 7)⟩,⟨some 6, none,.asgm (.t 42)⟩] [6,7] []
def zi41:IFun:=⟨[.t 6],[],(.seq z41r0 (.seq z41r1 (.seq (.seq z41r2 (.block 0 (.loop z41l13))) (.seq z41r14 .ret))))⟩
def z469r0:IC:=.reg [⟨some 2, none,.asg (.c (.bool false))⟩] [0] []
def z469r1:IC:=.reg [⟨some 8, none,.mv (.t 0)⟩,⟨some 9, none,.len (.t 8)⟩,⟨some 10, none,.bin .gtr (.t 9) (.c (vi 1048576))⟩] [0,10] []
def z469r2:IC:=.reg [⟨some 2, none,.asg (.c (.bool true))⟩] [2] []
def z469r3:IC:=.reg [⟨some 11, none,.mv (.t 0)⟩,⟨some 12, none,.call zl485 [(.rd,(.t 11))] true⟩,⟨some 3, none,.asg (.t 12)⟩] [3] []
def z469r4:IC:=.reg [⟨some 13, none,.mv (.t 3)⟩,⟨some 14, none,.call zl11 [(.rd,(.t 13))] true⟩,⟨some 4, none,.asg (.t 14)⟩] [3,4] []
def z469r5:IC:=.reg [⟨some 15, none,.mv (.t 4)⟩,⟨some 16, none,.mv (.t 3)⟩,⟨some 17, none,.call zl488 [(.rd,(.t 16))] true⟩,⟨some 18, none,.eqb true (.t 15) (.t 17)⟩,⟨some 19, none,.asg (.t 18)⟩,⟨some 20, (some (19,false)),.mv (.t 3)⟩,⟨some 21, (some (19,false)),.call zl25 [(.rd,(.t 20))] true⟩,⟨some 22, (some (19,false)),.unop .not (.t 21)⟩,⟨some 23, none,.pick (.t 19) (.c (.bool true)) (.t 22)⟩,⟨some 24, none,.asg (.t 23)⟩,⟨some 25, (some (24,false)),.mv (.t 3)⟩,⟨some 26, (some (24,false)),.len (.t 25)⟩,⟨some 27, (some (24,false)),.bin .eql (.t 26) (.c (vi 0))⟩,⟨some 28, none,.pick (.t 24) (.c (.bool true)) (.t 27)⟩,⟨some 29, none,.asg (.t 28)⟩,⟨some 30, (some (29,false)),.mv (.t 3)⟩,⟨some 31, (some (29,false)),.len (.t 30)⟩,⟨some 32, (some (29,false)),.bin .gtr (.t 31) (.c (vi 5))⟩,⟨some 33, none,.pick (.t 29) (.c (.bool true)) (.t 32)⟩] [3,4,33] []
def z469r6:IC:=.reg [⟨some 34, none,.mv (.t 4)⟩,⟨some 35, none,.mv (.t 3)⟩,⟨some 36, none,.call zl488 [(.rd,(.t 35))] true⟩,⟨some 37, none,.eqb false (.t 34) (.t 36)⟩,⟨some 2, none,.asg (.t 37)⟩] [2] []
def z469r7:IC:=.reg [⟨some 38, none,.mv (.t 3)⟩,⟨some 39, none,.call zl5 [(.rd,(.t 38))] true⟩,⟨some 5, none,.asg (.t 39)⟩] [3,4,5] []
def z469r8:IC:=.reg [⟨some 41, none,.mv (.t 3)⟩,⟨some 42, none,.call zl461 [(.rd,(.t 41))] true⟩,⟨some 40, none,.asg (.t 42)⟩,⟨some 43, none,.extr (.t 40) 0⟩,⟨some 44, none,.extr (.t 40) 1⟩,⟨some 6, none,.asg (.t 43)⟩,⟨some 7, none,.asg (.t 44)⟩] [3,4,5,7] []
def z469r9:IC:=.reg [⟨some 45, none,.mv (.t 5)⟩,⟨some 46, none,.call zl11 [(.rd,(.t 45))] true⟩,⟨some 47, none,.mv (.t 4)⟩,⟨some 48, none,.eqb false (.t 46) (.t 47)⟩,⟨some 49, none,.asg (.t 48)⟩,⟨some 50, (some (49,true)),.mv (.t 7)⟩,⟨some 51, (some (49,true)),.mv (.t 4)⟩,⟨some 52, (some (49,true)),.eqb false (.t 50) (.t 51)⟩,⟨some 53, none,.pick (.t 49) (.t 52) (.c (.bool false))⟩,⟨some 54, none,.asg (.t 53)⟩,⟨some 55, (some (54,true)),.mv (.t 4)⟩,⟨some 56, (some (54,true)),.unop .not (.t 55)⟩,⟨some 57, (some (54,true)),.asg (.t 56)⟩,⟨some 58, (some (57,false)),.mv (.t 3)⟩,⟨some 59, (some (57,false)),.mv (.t 5)⟩,⟨some 60, (some (57,false)),.call zl179 [(.rd,(.t 58)),(.rd,(.t 59))] true⟩,⟨some 61, (some (54,true)),.pick (.t 57) (.c (.bool true)) (.t 60)⟩,⟨some 62, none,.pick (.t 54) (.t 61) (.c (.bool false))⟩,⟨some 2, none,.asg (.t 62)⟩] [2] []
def zi469:IFun:=⟨[.t 2],[],(.seq z469r0 (.seq (.seq z469r1 (.cond (.t 10) (.seq z469r2 .ret) .skip)) (.seq z469r3 (.seq z469r4 (.seq (.seq z469r5 (.cond (.t 33) (.seq z469r6 .ret) .skip)) (.seq z469r7 (.seq z469r8 (.seq z469r9 .ret))))))))⟩
def z66r0:IC:=.reg [⟨some 2, none,.asg (.c (vi 0))⟩] [0] []
def z66r1:IC:=.reg [⟨some 3, none,.mv (.t 0)⟩,⟨some 4, none,.conv .u32 (.t 3)⟩,⟨some 5, none,.call zl67 [(.val,(.t 4))] true⟩,⟨some 2, none,.asg (.t 5)⟩] [2] []
def z66r2:IC:=.reg [⟨some 6, none,.mv (.t 0)⟩,⟨some 7, none,.call zl68 [(.val,(.t 6))] true⟩,⟨some 2, none,.asg (.t 7)⟩] [2] []
def zi66:IFun:=⟨[.t 2],[],(.seq z66r0 (.seq (.cond (.c (.bool false)) (.seq z66r1 .ret) .skip) (.seq z66r2 .ret)))⟩
def z68r0:IC:=.reg [⟨some 2, none,.asg (.c (vi 0))⟩] [0,2] []
def z68r1:IC:=.reg [⟨some 3, none,.mv (.t 0)⟩,⟨some 4, none,.bin .geq (.t 3) (.c (.int .u64 (4294967296)))⟩] [0,2,4] []
def z68r2:IC:=.reg [⟨some 5, none,.mv (.t 0)⟩,⟨some 6, none,.bin .shr (.t 5) (.c (.int .u64 (32)))⟩,⟨some 0, none,.asg (.t 6)⟩] [0] []
def z68r3:IC:=.reg [⟨some 2, none,.asg (.c (vi 32))⟩] [0,2] []
def z68r4:IC:=.reg [⟨some 7, none,.mv (.t 0)⟩,⟨some 8, none,.bin .geq (.t 7) (.c (.int .u64 (65536)))⟩] [0,2,8] []
def z68r5:IC:=.reg [⟨some 9, none,.mv (.t 0)⟩,⟨some 10, none,.bin .shr (.t 9) (.c (.int .u64 (16)))⟩,⟨some 0, none,.asg (.t 10)⟩] [0,2] []
def z68r6:IC:=.reg [⟨some 11, none,.mv (.t 2)⟩,⟨some 12, none,.bin .add (.t 11) (.c (vi 16))⟩,⟨some 2, none,.asg (.t 12)⟩] [0,2] []
def z68r7:IC:=.reg [⟨some 13, none,.mv (.t 0)⟩,⟨some 14, none,.bin .geq (.t 13) (.c (.int .u64 (256)))⟩] [0,2,14] []
def z68r8:IC:=.reg [⟨some 15, none,.mv (.t 0)⟩,⟨some 16, none,.bin .shr (.t 15) (.c (.int .u64 (8)))⟩,⟨some 0, none,.asg (.t 16)⟩] [0,2] []
def z68r9:IC:=.reg [⟨some 17, none,.mv (.t 2)⟩,⟨some 18, none,.bin .add (.t 17) (.c (vi 8))⟩,⟨some 2, none,.asg (.t 18)⟩] [0,2] []
def z68r10:IC:=.reg [⟨some 19, none,.mv (.t 2)⟩,⟨some 20, none,.mv (.t 0)⟩,⟨some 21, none,.conv .u8 (.t 20)⟩,⟨some 22, none,.idxs (.c (.string ⟨#[0,1,2,2,3,3,3,3,4,4,4,4,4,4,4,4,5,5,5,5,5,5,5,5,5,5,5,5,5,5,5,5,6,6,6,6,6,6,6,6,6,6,6,6,6,6,6,6,6,6,6,6,6,6,6,6,6,6,6,6,6,6,6,6,7,7,7,7,7,7,7,7,7,7,7,7,7,7,7,7,7,7,7,7,7,7,7,7,7,7,7,7,7,7,7,7,7,7,7,7,7,7,7,7,7,7,7,7,7,7,7,7,7,7,7,7,7,7,7,7,7,7,7,7,7,7,7,7,8,8,8,8,8,8,8,8,8,8,8,8,8,8,8,8,8,8,8,8,8,8,8,8,8,8,8,8,8,8,8,8,8,8,8,8,8,8,8,8,8,8,8,8,8,8,8,8,8,8,8,8,8,8,8,8,8,8,8,8,8,8,8,8,8,8,8,8,8,8,8,8,8,8,8,8,8,8,8,8,8,8,8,8,8,8,8,8,8,8,8,8,8,8,8,8,8,8,8,8,8,8,8,8,8,8,8,8,8,8,8,8,8,8,8,8,8,8,8,8,8,8,8,8,8,8,8,8]⟩)) (.t 21)⟩,⟨some 23, none,.conv .i64 (.t 22)⟩,⟨some 24, none,.bin .add (.t 19) (.t 23)⟩,⟨some 2, none,.asg (.t 24)⟩] [2] []
def zi68:IFun:=⟨[.t 2],[],(.seq z68r0 (.seq (.seq z68r1 (.cond (.t 4) (.seq z68r2 z68r3) .skip)) (.seq (.seq z68r4 (.cond (.t 8) (.seq z68r5 z68r6) .skip)) (.seq (.seq z68r7 (.cond (.t 14) (.seq z68r8 z68r9) .skip)) (.seq z68r10 .ret)))))⟩
def z70r0:IC:=.reg [⟨some 2, none,.asg (.c (.slice none 0 0))⟩] [0] []
def z70r1:IC:=.reg [⟨some 3, none,.mv (.t 0)⟩,⟨some 4, none,.mv (.t 0)⟩,⟨some 5, none,.len (.t 4)⟩,⟨some 6, none,.mv (.t 0)⟩,⟨some 7, none,.len (.t 6)⟩,⟨some 8, none,.slc 1 (.t 3) none (some (.t 5)) (some (.t 7))⟩,⟨some 2, none,.asgm (.t 8)⟩] [0,2] []
def zi70:IFun:=⟨[.t 2],[],(.seq z70r0 (.seq z70r1 .ret))⟩
def z71r0:IC:=.reg [⟨some 2, none,.nilo 1⟩] [0] []
def z71r1:List IOp:=[⟨some 3, none,.mv (.t 0)⟩]
def z71r2:IC:=.reg [⟨some 2, none,.nilo 1⟩] [2] []
def z71r3:IC:=.reg [⟨some 5, none,.bsl 1 [(vi 0)] 0 []⟩,⟨some 6, none,.mv (.t 0)⟩,⟨some 7, none,.app 1 (.t 5) (.t 6)⟩,⟨some 2, none,.asg (.t 7)⟩] [2] []
def zi71:IFun:=⟨[.t 2],[],(.seq z71r0 (.nilc2 z71r1 (.t 3) 4 [0,4] (.cond (.t 4) (.seq z71r2 .ret) .skip) (.seq z71r3 .ret)))⟩
def z72r0:IC:=.reg [⟨some 4, none,.asg (.c (.bool false))⟩] [0,1] []
def z72r1:IC:=.reg [⟨some 5, none,.mv (.t 0)⟩,⟨some 6, none,.mv (.t 1)⟩,⟨some 7, none,.call zl73 [(.rd,(.t 5)),(.val,(.t 6))] false⟩,⟨some 8, none,.bin .geq (.t 7) (.c (vi 0))⟩,⟨some 4, none,.asg (.t 8)⟩] [4] []
def zi72:IFun:=⟨[.t 4],[],(.seq z72r0 (.seq z72r1 .ret))⟩
def z73r0:IC:=.reg [⟨some 4, none,.asg (.c (vi 0))⟩] [0,1] []
def z73r1:IC:=.reg [⟨some 6, none,.mv (.t 0)⟩,⟨some 7, none,.len (.t 6)⟩,⟨some 8, none,.mv (.c (vi 0))⟩] [0,1,7,8] []
def z73r2:IC:=.reg [⟨some 9, none,.bin .lss (.t 8) (.t 7)⟩] [0,1,7,8,9] []
def z73r3:IC:=.reg [⟨some 10, none,.asg (.t 8)⟩,⟨some 5, none,.asg (.t 10)⟩] [0,1,5,7,8] []
def z73r4:IC:=.reg [⟨some 11, none,.mv (.t 1)⟩,⟨some 12, none,.mv (.t 0)⟩,⟨some 13, none,.mv (.t 5)⟩,⟨some 14, none,.iadr 1 (.t 12) (.t 13)⟩,⟨some 15, none,.load false 1 (.t 14)⟩,⟨some 16, none,.callv (.t 11) [(.val,(.t 15))]⟩] [0,1,5,7,8,16] []
def z73r5:IC:=.reg [⟨some 17, none,.mv (.t 5)⟩,⟨some 4, none,.asgm (.t 17)⟩] [4] []
def z73r6:IC:=.reg [⟨some 18, none,.bin .add (.t 8) (.c (vi 1))⟩,⟨some 8, none,.asg (.t 18)⟩] [0,1,7,8] []
def z73l7:IC:=(.seq z73r2 (.seq (.cond (.t 9) .skip (.exit 0)) (.seq (.block 1 (.seq z73r3 (.seq z73r4 (.cond (.t 16) (.seq z73r5 .ret) .skip)))) z73r6)))
def z73r8:IC:=.reg [⟨some 4, none,.asg (.c (vi (-1)))⟩] [4] []
def zi73:IFun:=⟨[.t 4],[],(.seq z73r0 (.seq (.seq z73r1 (.block 0 (.loop z73l7))) (.seq z73r8 .ret)))⟩
def z75r0:IC:=.reg [⟨some 2, none,.asg (.c (vi 0))⟩] [0] []
def z75r1:IC:=.reg [⟨some 5, none,.mv (.t 0)⟩,⟨some 6, none,.len (.t 5)⟩,⟨some 7, none,.bin .lss (.t 6) (.c (vi 1))⟩] [0,7] []
def z75r2:IC:=.reg [⟨some 8, none,.halt⟩,⟨none,none,.halt⟩] [0] []
def z75r3:IC:=.reg [⟨some 9, none,.mv (.t 0)⟩,⟨some 10, none,.iadr 1 (.t 9) (.c (vi 0))⟩,⟨some 11, none,.load false 1 (.t 10)⟩,⟨some 3, none,.asg (.t 11)⟩] [0,3] []
def z75r4:IC:=.reg [⟨some 4, none,.asg (.c (vi 1))⟩] [0,3,4] []
def z75r5:IC:=.reg [⟨some 12, none,.mv (.t 4)⟩,⟨some 13, none,.mv (.t 0)⟩,⟨some 14, none,.len (.t 13)⟩,⟨some 15, none,.bin .lss (.t 12) (.t 14)⟩] [0,3,4,15] []
def z75r6:IC:=.reg [⟨some 18, none,.mv (.t 3)⟩,⟨some 19, none,.mv (.t 0)⟩,⟨some 20, none,.mv (.t 4)⟩,⟨some 21, none,.iadr 1 (.t 19) (.t 20)⟩,⟨some 22, none,.load false 1 (.t 21)⟩,⟨some 23, none,.minmax true (.t 18) (.t 22)⟩,⟨some 3, none,.asg (.t 23)⟩] [0,3,4] []
def z75r7:IC:=.reg [⟨some 16, none,.mv (.t 4)⟩,⟨some 17, none,.bin .add (.t 16) (.c (vi 1))⟩,⟨some 4, none,.asg (.t 17)⟩] [0,3,4] []
def z75l8:IC:=(.seq (.seq z75r5 (.cond (.t 15) .skip (.exit 0))) (.seq (.block 1 z75r6) z75r7))
def z75r9:IC:=.reg [⟨some 24, none,.mv (.t 3)⟩,⟨some 2, none,.asgm (.t 24)⟩] [2] []
def zi75:IFun:=⟨[.t 2],[],(.seq z75r0 (.seq (.seq z75r1 (.cond (.t 7) z75r2 .skip)) (.seq z75r3 (.seq (.seq z75r4 (.block 0 (.loop z75l8))) (.seq z75r9 .ret)))))⟩
def z76r0:IC:=.reg [⟨some 4, none,.mv (.t 0)⟩,⟨some 5, none,.len (.t 4)⟩,⟨some 6, none,.bin .sub (.t 5) (.c (vi 1))⟩,⟨some 2, none,.asg (.c (vi 0))⟩,⟨some 3, none,.asg (.t 6)⟩] [0,2,3] []
def z76r1:IC:=.reg [⟨some 7, none,.mv (.t 2)⟩,⟨some 8, none,.mv (.t 3)⟩,⟨some 9, none,.bin .lss (.t 7) (.t 8)⟩] [0,2,3,9] []
def z76r2:IC:=.reg [⟨some 14, none,.mv (.t 0)⟩,⟨some 15, none,.mv (.t 2)⟩,⟨some 16, none,.mv (.t 0)⟩,⟨some 17, none,.mv (.t 3)⟩,⟨some 18, none,.mv (.t 0)⟩,⟨some 19, none,.mv (.t 3)⟩,⟨some 20, none,.iadr 1 (.t 18) (.t 19)⟩,⟨some 21, none,.load false 1 (.t 20)⟩,⟨some 22, none,.mv (.t 0)⟩,⟨some 23, none,.mv (.t 2)⟩,⟨some 24, none,.iadr 1 (.t 22) (.t 23)⟩,⟨some 25, none,.load false 1 (.t 24)⟩,⟨some 26, none,.iadr 1 (.t 14) (.t 15)⟩,⟨none,none,.store 1 (.t 26) (.t 21)⟩,⟨some 27, none,.iadr 1 (.t 16) (.t 17)⟩,⟨none,none,.store 1 (.t 27) (.t 25)⟩] [0,2,3] []
def z76r3:IC:=.reg [⟨some 10, none,.mv (.t 2)⟩,⟨some 11, none,.bin .add (.t 10) (.c (vi 1))⟩,⟨some 12, none,.mv (.t 3)⟩,⟨some 13, none,.bin .sub (.t 12) (.c (vi 1))⟩,⟨some 2, none,.asg (.t 11)⟩,⟨some 3, none,.asg (.t 13)⟩] [0,2,3] []
def z76l4:IC:=(.seq (.seq z76r1 (.cond (.t 9) .skip (.exit 0))) (.seq (.block 1 z76r2) z76r3))
def zi76:IFun:=⟨[],[0],(.seq z76r0 (.block 0 (.loop z76l4)))⟩
def z273r0:IC:=.reg [⟨some 4, none,.mv (.t 0)⟩,⟨some 5, none,.mv (.t 0)⟩,⟨some 6, none,.len (.t 5)⟩,⟨some 7, none,.mv (.t 1)⟩,⟨some 8, none,.call zl289 [(.ld,(.t 4)),(.val,(.t 6)),(.val,(.t 7))] false⟩] [0] []
def zi273:IFun:=⟨[],[0],z273r0⟩
def z78r0:IC:=.reg [⟨some 3, none,.mv (.t 0)⟩,⟨some 4, none,.len (.t 3)⟩,⟨some 2, none,.asg (.t 4)⟩] [0,2] []
def z78r1:IC:=.reg [⟨some 5, none,.mv (.t 0)⟩,⟨some 6, none,.mv (.t 2)⟩,⟨some 7, none,.mv (.t 2)⟩,⟨some 8, none,.conv .u64 (.t 7)⟩,⟨some 9, none,.call zl66 [(.val,(.t 8))] true⟩,⟨some 10, none,.call zl101 [(.ld,(.t 5)),(.val,(.c (vi 0))),(.val,(.t 6)),(.val,(.t 9))] false⟩] [0] []
def zi78:IFun:=⟨[],[0],(.seq z78r0 z78r1)⟩
def z278r0:IC:=.reg [⟨some 10, none,.mv (.t 1)⟩,⟨some 11, none,.bin .add (.t 10) (.c (vi 1))⟩,⟨some 8, none,.asg (.t 11)⟩] [0,1,2,3,8] []
def z278r1:IC:=.reg [⟨some 12, none,.mv (.t 8)⟩,⟨some 13, none,.mv (.t 2)⟩,⟨some 14, none,.bin .lss (.t 12) (.t 13)⟩] [0,1,2,3,8,14] []
def z278r2:IC:=.reg [⟨some 17, none,.mv (.t 8)⟩,⟨some 9, none,.asg (.t 17)⟩] [0,1,2,3,8,9] []
def z278r3:IC:=.reg [⟨some 18, none,.mv (.t 9)⟩,⟨some 19, none,.mv (.t 1)⟩,⟨some 20, none,.bin .gtr (.t 18) (.t 19)⟩,⟨some 21, none,.asg (.t 20)⟩,⟨some 22, (some (21,true)),.mv (.t 3)⟩,⟨some 23, (some (21,true)),.mv (.t 0)⟩,⟨some 24, (some (21,true)),.mv (.t 9)⟩,⟨some 25, (some (21,true)),.iadr 1 (.t 23) (.t 24)⟩,⟨some 26, (some (21,true)),.load false 1 (.t 25)⟩,⟨some 27, (some (21,true)),.mv (.t 0)⟩,⟨some 28, (some (21,true)),.mv (.t 9)⟩,⟨some 29, (some (21,true)),.bin .sub (.t 28) (.c (vi 1))⟩,⟨some 30, (some (21,true)),.iadr 1 (.t 27) (.t 29)⟩,⟨some 31, (some (21,true)),.load false 1 (.t 30)⟩,⟨some 32, (some (21,true)),.callv (.t 22) [(.val,(.t 26)),(.val,(.t 31))]⟩,⟨some 33, (some (21,true)),.bin .lss (.t 32) (.c (vi 0))⟩,⟨some 34, none,.pick (.t 21) (.t 33) (.c (.bool false))⟩] [0,1,2,3,8,9,34] []
def z278r4:IC:=.reg [⟨some 37, none,.mv (.t 0)⟩,⟨some 38, none,.mv (.t 9)⟩,⟨some 39, none,.mv (.t 0)⟩,⟨some 40, none,.mv (.t 9)⟩,⟨some 41, none,.bin .sub (.t 40) (.c (vi 1))⟩,⟨some 42, none,.mv (.t 0)⟩,⟨some 43, none,.mv (.t 9)⟩,⟨some 44, none,.bin .sub (.t 43) (.c (vi 1))⟩,⟨some 45, none,.iadr 1 (.t 42) (.t 44)⟩,⟨some 46, none,.load false 1 (.t 45)⟩,⟨some 47, none,.mv (.t 0)⟩,⟨some 48, none,.mv (.t 9)⟩,⟨some 49, none,.iadr 1 (.t 47) (.t 48)⟩,⟨some 50, none,.load false 1 (.t 49)⟩,⟨some 51, none,.iadr 1 (.t 37) (.t 38)⟩,⟨none,none,.store 1 (.t 51) (.t 46)⟩,⟨some 52, none,.iadr 1 (.t 39) (.t 41)⟩,⟨none,none,.store 1 (.t 52) (.t 50)⟩] [0,1,2,3,8,9] []
def z278r5:IC:=.reg [⟨some 35, none,.mv (.t 9)⟩,⟨some 36, none,.bin .sub (.t 35) (.c (vi 1))⟩,⟨some 9, none,.asg (.t 36)⟩] [0,1,2,3,8,9] []
def z278l6:IC:=(.seq (.seq z278r3 (.cond (.t 34) .skip (.exit 2))) (.seq (.block 3 z278r4) z278r5))
def z278r7:IC:=.reg [⟨some 15, none,.mv (.t 8)⟩,⟨some 16, none,.bin .add (.t 15) (.c (vi 1))⟩,⟨some 8, none,.asg (.t 16)⟩] [0,1,2,3,8] []
def z278l8:IC:=(.seq (.seq z278r1 (.cond (.t 14) .skip (.exit 0))) (.seq (.block 1 (.seq z278r2 (.block 2 (.loop z278l6)))) z278r7))
def zi278:IFun:=⟨[],[0],(.seq z278r0 (.block 0 (.loop z278l8)))⟩
def z86r0:IC:=.reg [⟨some 8, none,.mv (.t 1)⟩,⟨some 9, none,.bin .add (.t 8) (.c (vi 1))⟩,⟨some 6, none,.asg (.t 9)⟩] [0,1,2,6] []
def z86r1:IC:=.reg [⟨some 10, none,.mv (.t 6)⟩,⟨some 11, none,.mv (.t 2)⟩,⟨some 12, none,.bin .lss (.t 10) (.t 11)⟩] [0,1,2,6,12] []
def z86r2:IC:=.reg [⟨some 15, none,.mv (.t 6)⟩,⟨some 7, none,.asg (.t 15)⟩] [0,1,2,6,7] []
def z86r3:IC:=.reg [⟨some 16, none,.mv (.t 7)⟩,⟨some 17, none,.mv (.t 1)⟩,⟨some 18, none,.bin .gtr (.t 16) (.t 17)⟩,⟨some 19, none,.asg (.t 18)⟩,⟨some 20, (some (19,true)),.mv (.t 0)⟩,⟨some 21, (some (19,true)),.mv (.t 7)⟩,⟨some 22, (some (19,true)),.iadr 1 (.t 20) (.t 21)⟩,⟨some 23, (some (19,true)),.load false 1 (.t 22)⟩,⟨some 24, (some (19,true)),.mv (.t 0)⟩,⟨some 25, (some (19,true)),.mv (.t 7)⟩,⟨some 26, (some (19,true)),.bin .sub (.t 25) (.c (vi 1))⟩,⟨some 27, (some (19,true)),.iadr 1 (.t 24) (.t 26)⟩,⟨some 28, (some (19,true)),.load false 1 (.t 27)⟩,⟨some 29, (some (19,true)),.call zl2 [(.val,(.t 23)),(.val,(.t 28))] true⟩,⟨some 30, none,.pick (.t 19) (.t 29) (.c (.bool false))⟩] [0,1,2,6,7,30] []
def z86r4:IC:=.reg [⟨some 33, none,.mv (.t 0)⟩,⟨some 34, none,.mv (.t 7)⟩,⟨some 35, none,.mv (.t 0)⟩,⟨some 36, none,.mv (.t 7)⟩,⟨some 37, none,.bin .sub (.t 36) (.c (vi 1))⟩,⟨some 38, none,.mv (.t 0)⟩,⟨some 39, none,.mv (.t 7)⟩,⟨some 40, none,.bin .sub (.t 39) (.c (vi 1))⟩,⟨some 41, none,.iadr 1 (.t 38) (.t 40)⟩,⟨some 42, none,.load false 1 (.t 41)⟩,⟨some 43, none,.mv (.t 0)⟩,⟨some 44, none,.mv (.t 7)⟩,⟨some 45, none,.iadr 1 (.t 43) (.t 44)⟩,⟨some 46, none,.load false 1 (.t 45)⟩,⟨some 47, none,.iadr 1 (.t 33) (.t 34)⟩,⟨none,none,.store 1 (.t 47) (.t 42)⟩,⟨some 48, none,.iadr 1 (.t 35) (.t 37)⟩,⟨none,none,.store 1 (.t 48) (.t 46)⟩] [0,1,2,6,7] []
def z86r5:IC:=.reg [⟨some 31, none,.mv (.t 7)⟩,⟨some 32, none,.bin .sub (.t 31) (.c (vi 1))⟩,⟨some 7, none,.asg (.t 32)⟩] [0,1,2,6,7] []
def z86l6:IC:=(.seq (.seq z86r3 (.cond (.t 30) .skip (.exit 2))) (.seq (.block 3 z86r4) z86r5))
def z86r7:IC:=.reg [⟨some 13, none,.mv (.t 6)⟩,⟨some 14, none,.bin .add (.t 13) (.c (vi 1))⟩,⟨some 6, none,.asg (.t 14)⟩] [0,1,2,6] []
def z86l8:IC:=(.seq (.seq z86r1 (.cond (.t 12) .skip (.exit 0))) (.seq (.block 1 (.seq z86r2 (.block 2 (.loop z86l6)))) z86r7))
def zi86:IFun:=⟨[],[0],(.seq z86r0 (.block 0 (.loop z86l8)))⟩
def z101r0:IC:=.reg [⟨some 8, none,.asg (.c (.bool true))⟩] [0,1,2,3,8] []
def z101r1:IC:=.reg [⟨some 9, none,.asg (.c (.bool true))⟩] [0,1,2,3,8,9] []
def z101r2:IC:=.reg [⟨some 19, none,.mv (.t 2)⟩,⟨some 20, none,.mv (.t 1)⟩,⟨some 21, none,.bin .sub (.t 19) (.t 20)⟩,⟨some 10, none,.asg (.t 21)⟩] [0,1,2,3,8,9,10] []
def z101r3:IC:=.reg [⟨some 22, none,.mv (.t 10)⟩,⟨some 23, none,.bin .leq (.t 22) (.c (vi 12))⟩] [0,1,2,3,8,9,10,23] []
def z101r4:IC:=.reg [⟨some 24, none,.mv (.t 0)⟩,⟨some 25, none,.mv (.t 1)⟩,⟨some 26, none,.mv (.t 2)⟩,⟨some 27, none,.call zl86 [(.ld,(.t 24)),(.val,(.t 25)),(.val,(.t 26))] false⟩] [0] []
def z101r5:IC:=.reg [⟨some 28, none,.mv (.t 3)⟩,⟨some 29, none,.bin .eql (.t 28) (.c (vi 0))⟩] [0,1,2,3,8,9,10,29] []
def z101r6:IC:=.reg [⟨some 30, none,.mv (.t 0)⟩,⟨some 31, none,.mv (.t 1)⟩,⟨some 32, none,.mv (.t 2)⟩,⟨some 33, none,.call zl84 [(.ld,(.t 30)),(.val,(.t 31)),(.val,(.t 32))] false⟩] [0] []
def z101r7:IC:=.reg [⟨some 34, none,.mv (.t 8)⟩,⟨some 35, none,.unop .not (.t 34)⟩] [0,1,2,3,8,9,10,35] []
def z101r8:IC:=.reg [⟨some 36, none,.mv (.t 0)⟩,⟨some 37, none,.mv (.t 1)⟩,⟨some 38, none,.mv (.t 2)⟩,⟨some 39, none,.call zl80 [(.ld,(.t 36)),(.val,(.t 37)),(.val,(.t 38))] false⟩] [0,1,2,3,8,9,10] []
def z101r9:IC:=.reg [⟨some 40, none,.mv (.t 3)⟩,⟨some 41, none,.bin .sub (.t 40) (.c (vi 1))⟩,⟨some 3, none,.asg (.t 41)⟩] [0,1,2,3,8,9,10] []
def z101r10:IC:=.reg [⟨some 43, none,.mv (.t 0)⟩,⟨some 44, none,.mv (.t 1)⟩,⟨some 45, none,.mv (.t 2)⟩,⟨some 46, none,.call zl82 [(.rd,(.t 43)),(.val,(.t 44)),(.val,(.t 45))] true⟩,⟨some 42, none,.asg (.t 46)⟩,⟨some 47, none,.extr (.t 42) 0⟩,⟨some 48, none,.extr (.t 42) 1⟩,⟨some 11, none,.asg (.t 47)⟩,⟨some 12, none,.asg (.t 48)⟩] [0,1,2,3,8,9,10,11,12] []
def z101r11:IC:=.reg [⟨some 49, none,.mv (.t 12)⟩,⟨some 50, none,.bin .eql (.t 49) (.c (vi 2))⟩] [0,1,2,3,8,9,10,11,12,50] []
def z101r12:IC:=.reg [⟨some 51, none,.mv (.t 0)⟩,⟨some 52, none,.mv (.t 1)⟩,⟨some 53, none,.mv (.t 2)⟩,⟨some 54, none,.call zl103 [(.ld,(.t 51)),(.val,(.t 52)),(.val,(.t 53))] false⟩] [0,1,2,3,8,9,10,11] []
def z101r13:IC:=.reg [⟨some 55, none,.mv (.t 2)⟩,⟨some 56, none,.bin .sub (.t 55) (.c (vi 1))⟩,⟨some 57, none,.mv (.t 11)⟩,⟨some 58, none,.mv (.t 1)⟩,⟨some 59, none,.bin .sub (.t 57) (.t 58)⟩,⟨some 60, none,.bin .sub (.t 56) (.t 59)⟩,⟨some 11, none,.asg (.t 60)⟩] [0,1,2,3,8,9,10,11] []
def z101r14:IC:=.reg [⟨some 12, none,.asg (.c (vi 1))⟩] [0,1,2,3,8,9,10,11,12] []
def z101r15:IC:=.reg [⟨some 61, none,.mv (.t 8)⟩,⟨some 62, none,.asg (.t 61)⟩,⟨some 63, (some (62,true)),.mv (.t 9)⟩,⟨some 64, none,.pick (.t 62) (.t 63) (.c (.bool false))⟩,⟨some 65, none,.asg (.t 64)⟩,⟨some 66, (some (65,true)),.mv (.t 12)⟩,⟨some 67, (some (65,true)),.bin .eql (.t 66) (.c (vi 1))⟩,⟨some 68, none,.pick (.t 65) (.t 67) (.c (.bool false))⟩] [0,1,2,3,8,9,10,11,68] []
def z101r16:IC:=.reg [⟨some 69, none,.mv (.t 0)⟩,⟨some 70, none,.mv (.t 1)⟩,⟨some 71, none,.mv (.t 2)⟩,⟨some 72, none,.call zl95 [(.ld,(.t 69)),(.val,(.t 70)),(.val,(.t 71))] false⟩] [0,1,2,3,8,9,10,11,72] []
def z101r17:IC:=.reg [⟨some 73, none,.mv (.t 1)⟩,⟨some 74, none,.bin .gtr (.t 73) (.c (vi 0))⟩,⟨some 75, none,.asg (.t 74)⟩,⟨some 76, (some (75,true)),.mv (.t 0)⟩,⟨some 77, (some (75,true)),.mv (.t 1)⟩,⟨some 78, (some (75,true)),.bin .sub (.t 77) (.c (vi 1))⟩,⟨some 79, (some (75,true)),.iadr 1 (.t 76) (.t 78)⟩,⟨some 80, (some (75,true)),.load false 1 (.t 79)⟩,⟨some 81, (some (75,true)),.mv (.t 0)⟩,⟨some 82, (some (75,true)),.mv (.t 11)⟩,⟨some 83, (some (75,true)),.iadr 1 (.t 81) (.t 82)⟩,⟨some 84, (some (75,true)),.load false 1 (.t 83)⟩,⟨some 85, (some (75,true)),.call zl2 [(.val,(.t 80)),(.val,(.t 84))] true⟩,⟨some 86, (some (75,true)),.unop .not (.t 85)⟩,⟨some 87, none,.pick (.t 75) (.t 86) (.c (.bool false))⟩] [0,1,2,3,8,9,10,11,87] []
def z101r18:IC:=.reg [⟨some 88, none,.mv (.t 0)⟩,⟨some 89, none,.mv (.t 1)⟩,⟨some 90, none,.mv (.t 2)⟩,⟨some 91, none,.mv (.t 11)⟩,⟨some 92, none,.call zl98 [(.ld,(.t 88)),(.val,(.t 89)),(.val,(.t 90)),(.val,(.t 91))] false⟩,⟨some 13, none,.asg (.t 92)⟩] [0,2,3,8,9,13] []
def z101r19:IC:=.reg [⟨some 93, none,.mv (.t 13)⟩,⟨some 1, none,.asgm (.t 93)⟩] [0,1,2,3,8,9] []
def z101r20:IC:=.reg [⟨some 95, none,.mv (.t 0)⟩,⟨some 96, none,.mv (.t 1)⟩,⟨some 97, none,.mv (.t 2)⟩,⟨some 98, none,.mv (.t 11)⟩,⟨some 99, none,.call zl99 [(.ld,(.t 95)),(.val,(.t 96)),(.val,(.t 97)),(.val,(.t 98))] false⟩,⟨some 94, none,.asg (.t 99)⟩,⟨some 100, none,.extr (.t 94) 0⟩,⟨some 101, none,.extr (.t 94) 1⟩,⟨some 14, none,.asg (.t 100)⟩,⟨some 15, none,.asg (.t 101)⟩] [0,1,2,3,10,14,15] []
def z101r21:IC:=.reg [⟨some 102, none,.mv (.t 15)⟩,⟨some 9, none,.asgm (.t 102)⟩] [0,1,2,3,9,10,14] []
def z101r22:IC:=.reg [⟨some 103, none,.mv (.t 14)⟩,⟨some 104, none,.mv (.t 1)⟩,⟨some 105, none,.bin .sub (.t 103) (.t 104)⟩,⟨some 106, none,.mv (.t 2)⟩,⟨some 107, none,.mv (.t 14)⟩,⟨some 108, none,.bin .sub (.t 106) (.t 107)⟩,⟨some 16, none,.asg (.t 105)⟩,⟨some 17, none,.asg (.t 108)⟩] [0,1,2,3,9,10,14,16,17] []
def z101r23:IC:=.reg [⟨some 109, none,.mv (.t 10)⟩,⟨some 110, none,.bin .quo (.t 109) (.c (vi 8))⟩,⟨some 18, none,.asg (.t 110)⟩] [0,1,2,3,9,14,16,17,18] []
def z101r24:IC:=.reg [⟨some 111, none,.mv (.t 16)⟩,⟨some 112, none,.mv (.t 17)⟩,⟨some 113, none,.bin .lss (.t 111) (.t 112)⟩] [0,1,2,3,9,14,16,17,18,113] []
def z101r25:IC:=.reg [⟨some 114, none,.mv (.t 16)⟩,⟨some 115, none,.mv (.t 18)⟩,⟨some 116, none,.bin .geq (.t 114) (.t 115)⟩,⟨some 8, none,.asg (.t 116)⟩] [0,1,2,3,8,9,14] []
def z101r26:IC:=.reg [⟨some 117, none,.mv (.t 0)⟩,⟨some 118, none,.mv (.t 1)⟩,⟨some 119, none,.mv (.t 14)⟩,⟨some 120, none,.mv (.t 3)⟩,⟨some 121, none,.call zl101 [(.ld,(.t 117)),(.val,(.t 118)),(.val,(.t 119)),(.val,(.t 120))] false⟩] [0,2,3,8,9,14] []
def z101r27:IC:=.reg [⟨some 122, none,.mv (.t 14)⟩,⟨some 123, none,.bin .add (.t 122) (.c (vi 1))⟩,⟨some 1, none,.asg (.t 123)⟩] [0,1,2,3,8,9] []
def z101r28:IC:=.reg [⟨some 124, none,.mv (.t 17)⟩,⟨some 125, none,.mv (.t 18)⟩,⟨some 126, none,.bin .geq (.t 124) (.t 125)⟩,⟨some 8, none,.asg (.t 126)⟩] [0,1,2,3,8,9,14] []
def z101r29:IC:=.reg [⟨some 127, none,.mv (.t 0)⟩,⟨some 128, none,.mv (.t 14)⟩,⟨some 129, none,.bin .add (.t 128) (.c (vi 1))⟩,⟨some 130, none,.mv (.t 2)⟩,⟨some 131, none,.mv (.t 3)⟩,⟨some 132, none,.call zl101 [(.ld,(.t 127)),(.val,(.t 129)),(.val,(.t 130)),(.val,(.t 131))] false⟩] [0,1,3,8,9,14] []
def z101r30:IC:=.reg [⟨some 133, none,.mv (.t 14)⟩,⟨some 2, none,.asgm (.t 133)⟩] [0,1,2,3,8,9] []
def z101l31:IC:=(.block 1 (.seq z101r2 (.seq (.seq z101r3 (.cond (.t 23) (.seq z101r4 .ret) .skip)) (.seq (.seq z101r5 (.cond (.t 29) (.seq z101r6 .ret) .skip)) (.seq (.seq z101r7 (.cond (.t 35) (.seq z101r8 z101r9) .skip)) (.seq z101r10 (.seq (.seq z101r11 (.cond (.t 50) (.seq z101r12 (.seq z101r13 z101r14)) .skip)) (.seq (.seq z101r15 (.cond (.t 68) (.seq z101r16 (.cond (.t 72) .ret .skip)) .skip)) (.seq (.seq z101r17 (.cond (.t 87) (.seq z101r18 (.seq z101r19 (.exit 1))) .skip)) (.seq z101r20 (.seq z101r21 (.seq z101r22 (.seq z101r23 (.seq z101r24 (.cond (.t 113) (.seq z101r25 (.seq z101r26 z101r27)) (.seq z101r28 (.seq z101r29 z101r30)))))))))))))))))
def zi101:IFun:=⟨[],[0],(.seq z101r0 (.seq z101r1 (.block 0 (.loop z101l31))))⟩
def z289r0:IC:=.reg [⟨some 6, none,.asg (.c (vi 20))⟩] [0,1,2,6] []
def z289r1:IC:=.reg [⟨some 10, none,.mv (.t 6)⟩,⟨some 7, none,.asg (.c (vi 0))⟩,⟨some 8, none,.asg (.t 10)⟩] [0,1,2,6,7,8] []
def z289r2:IC:=.reg [⟨some 11, none,.mv (.t 8)⟩,⟨some 12, none,.mv (.t 1)⟩,⟨some 13, none,.bin .leq (.t 11) (.t 12)⟩] [0,1,2,6,7,8,13] []
def z289r3:IC:=.reg [⟨some 14, none,.mv (.t 0)⟩,⟨some 15, none,.mv (.t 7)⟩,⟨some 16, none,.mv (.t 8)⟩,⟨some 17, none,.mv (.t 2)⟩,⟨some 18, none,.call zl278 [(.ld,(.t 14)),(.val,(.t 15)),(.val,(.t 16)),(.val,(.t 17))] false⟩] [0,1,2,6,8] []
def z289r4:IC:=.reg [⟨some 19, none,.mv (.t 8)⟩,⟨some 7, none,.asg (.t 19)⟩] [0,1,2,6,7,8] []
def z289r5:IC:=.reg [⟨some 20, none,.mv (.t 8)⟩,⟨some 21, none,.mv (.t 6)⟩,⟨some 22, none,.bin .add (.t 20) (.t 21)⟩,⟨some 8, none,.asg (.t 22)⟩] [0,1,2,6,7,8] []
def z289l6:IC:=(.seq (.seq z289r2 (.cond (.t 13) .skip (.exit 0))) (.block 1 (.seq z289r3 (.seq z289r4 z289r5))))
def z289r7:IC:=.reg [⟨some 23, none,.mv (.t 0)⟩,⟨some 24, none,.mv (.t 7)⟩,⟨some 25, none,.mv (.t 1)⟩,⟨some 26, none,.mv (.t 2)⟩,⟨some 27, none,.call zl278 [(.ld,(.t 23)),(.val,(.t 24)),(.val,(.t 25)),(.val,(.t 26))] false⟩] [0,1,2,6] []
def z289r8:IC:=.reg [⟨some 28, none,.mv (.t 6)⟩,⟨some 29, none,.mv (.t 1)⟩,⟨some 30, none,.bin .lss (.t 28) (.t 29)⟩] [0,1,2,6,30] []
def z289r9:IC:=.reg [⟨some 31, none,.mv (.t 6)⟩,⟨some 32, none,.bin .mul (.c (vi 2)) (.t 31)⟩,⟨some 7, none,.asg (.c (vi 0))⟩,⟨some 8, none,.asg (.t 32)⟩] [0,1,2,6,7,8] []
def z289r10:IC:=.reg [⟨some 33, none,.mv (.t 8)⟩,⟨some 34, none,.mv (.t 1)⟩,⟨some 35, none,.bin .leq (.t 33) (.t 34)⟩] [0,1,2,6,7,8,35] []
def z289r11:IC:=.reg [⟨some 36, none,.mv (.t 0)⟩,⟨some 37, none,.mv (.t 7)⟩,⟨some 38, none,.mv (.t 7)⟩,⟨some 39, none,.mv (.t 6)⟩,⟨some 40, none,.bin .add (.t 38) (.t 39)⟩,⟨some 41, none,.mv (.t 8)⟩,⟨some 42, none,.mv (.t 2)⟩,⟨some 43, none,.call zl291 [(.ld,(.t 36)),(.val,(.t 37)),(.val,(.t 40)),(.val,(.t 41)),(.val,(.t 42))] false⟩] [0,1,2,6,8] []
def z289r12:IC:=.reg [⟨some 44, none,.mv (.t 8)⟩,⟨some 7, none,.asg (.t 44)⟩] [0,1,2,6,7,8] []
def z289r13:IC:=.reg [⟨some 45, none,.mv (.t 8)⟩,⟨some 46, none,.mv (.t 6)⟩,⟨some 47, none,.bin .mul (.c (vi 2)) (.t 46)⟩,⟨some 48, none,.bin .add (.t 45) (.t 47)⟩,⟨some 8, none,.asg (.t 48)⟩] [0,1,2,6,7,8] []
def z289l14:IC:=(.seq (.seq z289r10 (.cond (.t 35) .skip (.exit 4))) (.block 5 (.seq z289r11 (.seq z289r12 z289r13))))
def z289r15:IC:=.reg [⟨some 49, none,.mv (.t 7)⟩,⟨some 50, none,.mv (.t 6)⟩,⟨some 51, none,.bin .add (.t 49) (.t 50)⟩,⟨some 9, none,.asg (.t 51)⟩] [0,1,2,6,7,9] []
def z289r16:IC:=.reg [⟨some 52, none,.mv (.t 9)⟩,⟨some 53, none,.mv (.t 1)⟩,⟨some 54, none,.bin .lss (.t 52) (.t 53)⟩] [0,1,2,6,7,9,54] []
def z289r17:IC:=.reg [⟨some 55, none,.mv (.t 0)⟩,⟨some 56, none,.mv (.t 7)⟩,⟨some 57, none,.mv (.t 9)⟩,⟨some 58, none,.mv (.t 1)⟩,⟨some 59, none,.mv (.t 2)⟩,⟨some 60, none,.call zl291 [(.ld,(.t 55)),(.val,(.t 56)),(.val,(.t 57)),(.val,(.t 58)),(.val,(.t 59))] false⟩] [0,1,2,6] []
def z289r18:IC:=.reg [⟨some 61, none,.mv (.t 6)⟩,⟨some 62, none,.bin .mul (.t 61) (.c (vi 2))⟩,⟨some 6, none,.asg (.t 62)⟩] [0,1,2,6] []
def z289l19:IC:=(.seq (.seq z289r8 (.cond (.t 30) .skip (.exit 2))) (.block 3 (.seq z289r9 (.seq (.block 4 (.loop z289l14)) (.seq (.seq z289r15 (.seq z289r16 (.cond (.t 54) z289r17 .skip))) z289r18)))))
def zi289:IFun:=⟨[],[0],(.seq z289r0 (.seq z289r1 (.seq (.block 0 (.loop z289l6)) (.seq z289r7 (.block 2 (.loop z289l19))))))⟩
def z485r0:IC:=.reg [⟨some 2, none,.asg (.c (.slice none 0 0))⟩] [0] []
def z485r1:IC:=.reg [⟨some 3, none,.mv (.t 0)⟩,⟨some 4, none,.call zl137 [(.rd,(.t 3))] false⟩,⟨some 5, none,.call zl494 [(.val,(.t 4))] false⟩,⟨some 2, none,.asg (.t 5)⟩] [2] []
def zi485:IFun:=⟨[.t 2],[],(.seq z485r0 (.seq z485r1 .ret))⟩
def z488r0:IC:=.reg [⟨some 2, none,.asg (.c (.bool false))⟩] [0] []
def z488r1:IC:=.reg [⟨some 3, none,.mv (.t 0)⟩,⟨some 4, none,.call zl388 [(.rd,(.t 3))] true⟩,⟨some 5, none,.asg (.t 4)⟩,⟨some 6, (some (5,true)),.mv (.t 0)⟩,⟨some 7, (some (5,true)),.call zl492 [(.rd,(.t 6))] true⟩,⟨some 8, none,.pick (.t 5) (.t 7) (.c (.bool false))⟩,⟨some 2, none,.asg (.t 8)⟩] [2] []
def zi488:IFun:=⟨[.t 2],[],(.seq z488r0 (.seq z488r1 .ret))⟩
def z119r0:IC:=.reg [⟨some 2, none,.asg (.c (.slice none 0 0))⟩] [0] []
def z119r1:IC:=.reg [⟨some 8, none,.mv (.t 0)⟩,⟨some 9, none,.bsl 1 [(vi 0)] 5 [(0,(.c (vi 4))),(1,(.c (vi 3))),(2,(.c (vi 5))),(3,(.c (vi 2))),(4,(.c (vi 1)))]⟩,⟨some 10, none,.call zl139 [(.val,(.t 8)),(.rd,(.t 9))] false⟩,⟨some 3, none,.asg (.t 10)⟩] [0,3] []
def z119r2:IC:=.reg [⟨some 11, none,.bsl 1 [(.slice none 0 0)] 0 []⟩,⟨some 4, none,.asg (.t 11)⟩] [0,3,4] []
def z119r3:IC:=.reg [⟨some 5, none,.asg (.c (vi 0))⟩] [0,3,4,5] []
def z119r4:IC:=.reg [⟨some 12, none,.mv (.t 5)⟩,⟨some 13, none,.mv (.t 3)⟩,⟨some 14, none,.bin .lss (.t 12) (.t 13)⟩] [0,3,4,5,14] []
def z119r5:IC:=.reg [⟨some 17, none,.mv (.t 4)⟩,⟨some 18, none,.mv (.t 3)⟩,⟨some 19, none,.mksl 1 [(vi 0)] (.t 18) (.t 18)⟩,⟨some 20, none,.bsl 1 [(.slice none 0 0)] 1 [(0,(.t 19))]⟩,⟨some 21, none,.app 1 (.t 17) (.t 20)⟩,⟨some 4, none,.asg (.t 21)⟩] [0,3,4,5] []
def z119r6:IC:=.reg [⟨some 15, none,.mv (.t 5)⟩,⟨some 16, none,.bin .add (.t 15) (.c (vi 1))⟩,⟨some 5, none,.asg (.t 16)⟩] [0,3,4,5] []
def z119l7:IC:=(.seq (.seq z119r4 (.cond (.t 14) .skip (.exit 0))) (.seq (.block 1 z119r5) z119r6))
def z119r8:IC:=.reg [⟨some 6, none,.asg (.c (vi 0))⟩] [0,3,4,6] []
def z119r9:IC:=.reg [⟨some 22, none,.mv (.t 6)⟩,⟨some 23, none,.mv (.t 3)⟩,⟨some 24, none,.bin .lss (.t 22) (.t 23)⟩] [0,3,4,6,24] []
def z119r10:IC:=.reg [⟨some 27, none,.mv (.t 6)⟩,⟨some 28, none,.bin .add (.t 27) (.c (vi 1))⟩,⟨some 7, none,.asg (.t 28)⟩] [0,3,4,6,7] []
def z119r11:IC:=.reg [⟨some 29, none,.mv (.t 7)⟩,⟨some 30, none,.mv (.t 3)⟩,⟨some 31, none,.bin .lss (.t 29) (.t 30)⟩] [0,3,4,6,7,31] []
def z119r12:IC:=.reg [⟨some 34, none,.mv (.t 0)⟩,⟨some 35, none,.call zl140 [(.val,(.t 34)),(.val,(.c (vi 2)))] false⟩,⟨some 36, none,.bin .eql (.t 35) (.c (vi 0))⟩] [0,3,4,6,7,36] []
def z119r13:IC:=.reg [⟨some 37, none,.mv (.t 4)⟩,⟨some 38, none,.mv (.t 6)⟩,⟨some 39, none,.iadr 1 (.t 37) (.t 38)⟩,⟨some 40, none,.load false 1 (.t 39)⟩,⟨some 41, none,.mv (.t 7)⟩,⟨some 42, none,.iadr 1 (.t 40) (.t 41)⟩,⟨none,none,.store 1 (.t 42) (.c (vi 1))⟩] [0,3,4,6,7] []
def z119r14:IC:=.reg [⟨some 43, none,.mv (.t 4)⟩,⟨some 44, none,.mv (.t 7)⟩,⟨some 45, none,.iadr 1 (.t 43) (.t 44)⟩,⟨some 46, none,.load false 1 (.t 45)⟩,⟨some 47, none,.mv (.t 6)⟩,⟨some 48, none,.iadr 1 (.t 46) (.t 47)⟩,⟨none,none,.store 1 (.t 48) (.c (vi 1))⟩] [0,3,4,6,7] []
def z119r15:IC:=.reg [⟨some 32, none,.mv (.t 7)⟩,⟨some 33, none,.bin .add (.t 32) (.c (vi 1))⟩,⟨some 7, none,.asg (.t 33)⟩] [0,3,4,6,7] []
def z119l16:IC:=(.seq (.seq z119r11 (.cond (.t 31) .skip (.exit 4))) (.seq (.block 5 (.seq z119r12 (.cond (.t 36) z119r13 z119r14))) z119r15))
def z119r17:IC:=.reg [⟨some 25, none,.mv (.t 6)⟩,⟨some 26, none,.bin .add (.t 25) (.c (vi 1))⟩,⟨some 6, none,.asg (.t 26)⟩] [0,3,4,6] []
def z119l18:IC:=(.seq (.seq z119r9 (.cond (.t 24) .skip (.exit 2))) (.seq (.block 3 (.seq z119r10 (.block 4 (.loop z119l16)))) z119r17))
def z119r19:IC:=.reg [⟨some 49, none,.mv (.t 4)⟩,⟨some 2, none,.asgm (.t 49)⟩] [2,4] []
def zi119:IFun:=⟨[.t 2],[],(.seq z119r0 (.seq z119r1 (.seq z119r2 (.seq (.seq z119r3 (.block 0 (.loop z119l7))) (.seq (.seq z119r8 (.block 2 (.loop z119l18))) (.seq z119r19 .ret))))))⟩
def z123r0:IC:=.reg [⟨some 2, none,.asg (.c (.slice none 0 0))⟩] [0] []
def z123r1:IC:=.reg [⟨some 3, none,.bsl 1 [(vi 0)] 0 []⟩,⟨some 4, none,.mv (.t 0)⟩,⟨some 5, none,.app 1 (.t 3) (.t 4)⟩,⟨some 2, none,.asg (.t 5)⟩] [2] []
def zi123:IFun:=⟨[.t 2],[],(.seq z123r0 (.seq z123r1 .ret))⟩
def z127r0:IC:=.reg [⟨some 2, none,.asg (.c (.slice none 0 0))⟩] [0] []
def z127r1:IC:=.reg [⟨some 6, none,.bsl 1 [(vi 0)] 0 []⟩,⟨some 3, none,.asg (.t 6)⟩] [0,3] []
def z127r2:IC:=.reg [⟨some 4, none,.asg (.c (vi 0))⟩] [0,3,4] []
def z127r3:IC:=.reg [⟨some 7, none,.mv (.t 4)⟩,⟨some 8, none,.mv (.t 0)⟩,⟨some 9, none,.len (.t 8)⟩,⟨some 10, none,.bin .lss (.t 7) (.t 9)⟩] [0,3,4,10] []
def z127r4:IC:=.reg [⟨some 5, none,.asg (.c (vi 0))⟩] [0,3,4,5] []
def z127r5:IC:=.reg [⟨some 13, none,.mv (.t 5)⟩,⟨some 14, none,.mv (.t 3)⟩,⟨some 15, none,.len (.t 14)⟩,⟨some 16, none,.bin .lss (.t 13) (.t 15)⟩,⟨some 17, none,.asg (.t 16)⟩,⟨some 18, (some (17,true)),.mv (.t 3)⟩,⟨some 19, (some (17,true)),.mv (.t 5)⟩,⟨some 20, (some (17,true)),.iadr 1 (.t 18) (.t 19)⟩,⟨some 21, (some (17,true)),.load false 1 (.t 20)⟩,⟨some 22, (some (17,true)),.mv (.t 0)⟩,⟨some 23, (some (17,true)),.mv (.t 4)⟩,⟨some 24, (some (17,true)),.iadr 1 (.t 22) (.t 23)⟩,⟨some 25, (some (17,true)),.load false 1 (.t 24)⟩,⟨some 26, (some (17,true)),.bin .geq (.t 21) (.t 25)⟩,⟨some 27, none,.pick (.t 17) (.t 26) (.c (.bool false))⟩] [0,3,4,5,27] []
def z127r6:IC:=.reg [⟨some 28, none,.mv (.t 5)⟩,⟨some 29, none,.bin .add (.t 28) (.c (vi 1))⟩,⟨some 5, none,.asg (.t 29)⟩] [0,3,4,5] []
def z127l7:IC:=(.seq (.seq z127r5 (.cond (.t 27) .skip (.exit 2))) (.block 3 z127r6))
def z127r8:IC:=.reg [⟨some 30, none,.mv (.t 3)⟩,⟨some 31, none,.mv (.t 5)⟩,⟨some 32, none,.slc 1 (.t 30) none (some (.t 31)) none⟩,⟨some 33, none,.call zl123 [(.rd,(.t 32))] true⟩,⟨some 34, none,.mv (.t 0)⟩,⟨some 35, none,.mv (.t 4)⟩,⟨some 36, none,.iadr 1 (.t 34) (.t 35)⟩,⟨some 37, none,.load false 1 (.t 36)⟩,⟨some 38, none,.bsl 1 [(vi 0)] 1 [(0,(.t 37))]⟩,⟨some 39, none,.app 1 (.t 33) (.t 38)⟩,⟨some 40, none,.mv (.t 3)⟩,⟨some 41, none,.mv (.t 5)⟩,⟨some 42, none,.slc 1 (.t 40) (some (.t 41)) none none⟩,⟨some 43, none,.app 1 (.t 39) (.t 42)⟩,⟨some 3, none,.asg (.t 43)⟩] [0,3,4] [[0,1,2,4,5,6,7,3,8,9,10,11,12,13,14],[0,1,2,4,5,6,7,8,3,9,10,11,12,13,14]]
def z127r9:IC:=.reg [⟨some 11, none,.mv (.t 4)⟩,⟨some 12, none,.bin .add (.t 11) (.c (vi 1))⟩,⟨some 4, none,.asg (.t 12)⟩] [0,3,4] []
def z127l10:IC:=(.seq (.seq z127r3 (.cond (.t 10) .skip (.exit 0))) (.seq (.block 1 (.seq z127r4 (.seq (.block 2 (.loop z127l7)) z127r8))) z127r9))
def z127r11:IC:=.reg [⟨some 44, none,.mv (.t 3)⟩,⟨some 2, none,.asgm (.t 44)⟩] [2,3] []
def zi127:IFun:=⟨[.t 2],[],(.seq z127r0 (.seq z127r1 (.seq (.seq z127r2 (.block 0 (.loop z127l10))) (.seq z127r11 .ret))))⟩
def z132r0:IC:=.reg [⟨some 6, none,.asg (.c (.bool false))⟩] [0,1,2] []
def z132r1:IC:=.reg [⟨some 7, none,.mv (.t 1)⟩,⟨some 8, none,.mv (.t 0)⟩,⟨some 9, none,.bin .leq (.t 7) (.t 8)⟩,⟨some 10, none,.asg (.t 9)⟩,⟨some 11, (some (10,true)),.mv (.t 0)⟩,⟨some 12, (some (10,true)),.mv (.t 2)⟩,⟨some 13, (some (10,true)),.bin .leq (.t 11) (.t 12)⟩,⟨some 14, none,.pick (.t 10) (.t 13) (.c (.bool false))⟩,⟨some 6, none,.asg (.t 14)⟩] [6] []
def zi132:IFun:=⟨[.t 6],[],(.seq z132r0 (.seq z132r1 .ret))⟩
def z492r0:IC:=.reg [⟨some 2, none,.asg (.c (.bool false))⟩] [0] []
def z492r1:IC:=.reg [⟨some 4, none,.mv (.t 0)⟩,⟨some 5, none,.call zl493 [(.rd,(.t 4))] true⟩,⟨some 3, none,.asg (.t 5)⟩] [3] []
def z492r2:IC:=.reg [⟨some 6, none,.mv (.t 3)⟩,⟨some 7, none,.call zl360 [(.rd,(.t 6))] true⟩,⟨some 8, none,.bin .eql (.t 7) (.c (vi 0))⟩,⟨some 9, none,.asg (.t 8)⟩,⟨some 10, (some (9,true)),.mv (.t 3)⟩,⟨some 11, (some (9,true)),.mv (.t 3)⟩,⟨some 12, (some (9,true)),.len (.t 11)⟩,⟨some 13, (some (9,true)),.bin .sub (.t 12) (.c (vi 1))⟩,⟨some 14, (some (9,true)),.iadr 1 (.t 10) (.t 13)⟩,⟨some 15, (some (9,true)),.load false 1 (.t 14)⟩,⟨some 16, (some (9,true)),.bin .eql (.t 15) (.c (vi 0))⟩,⟨some 17, none,.pick (.t 9) (.t 16) (.c (.bool false))⟩,⟨some 2, none,.asg (.t 17)⟩] [2] []
def zi492:IFun:=⟨[.t 2],[],(.seq z492r0 (.seq z492r1 (.seq z492r2 .ret)))⟩
def z360r0:IC:=.reg [⟨some 2, none,.asg (.c (vi 0))⟩] [0] []
def z360r1:IC:=.reg [⟨some 3, none,.asg (.c (vi 0))⟩] [0,3] []
def z360r2:IC:=.reg [⟨some 4, none,.asg (.c (vi 0))⟩] [0,3,4] []
def z360r3:IC:=.reg [⟨some 5, none,.mv (.t 4)⟩,⟨some 6, none,.mv (.t 0)⟩,⟨some 7, none,.len (.t 6)⟩,⟨some 8, none,.bin .lss (.t 5) (.t 7)⟩] [0,3,4,8] []
def z360r4:IC:=.reg [⟨some 11, none,.mv (.t 3)⟩,⟨some 12, none,.mv (.t 0)⟩,⟨some 13, none,.mv (.t 4)⟩,⟨some 14, none,.iadr 1 (.t 12) (.t 13)⟩,⟨some 15, none,.load false 1 (.t 14)⟩,⟨some 16, none,.minmax true (.t 11) (.t 15)⟩,⟨some 3, none,.asg (.t 16)⟩] [0,3,4] []
def z360r5:IC:=.reg [⟨some 9, none,.mv (.t 4)⟩,⟨some 10, none,.bin .add (.t 9) (.c (vi 1))⟩,⟨some 4, none,.asg (.t 10)⟩] [0,3,4] []
def z360l6:IC:=(.seq (.seq z360r3 (.cond (.t 8) .skip (.exit 0))) (.seq (.block 1 z360r4) z360r5))
def z360r7:IC:=.reg [⟨some 17, none,.mv (.t 3)⟩,⟨some 2, none,.asgm (.t 17)⟩] [2] []
def zi360:IFun:=⟨[.t 2],[],(.seq z360r0 (.seq z360r1 (.seq (.seq z360r2 (.block 0 (.loop z360l6))) (.seq z360r7 .ret))))⟩
def z137r0:IC:=.reg [⟨some 2, none,.asg (.c (.pointer none))⟩] [0] []
def z137r1:IC:=.reg [⟨some 3, none,.mv (.t 0)⟩,⟨some 4, none,.len (.t 3)⟩,⟨some 5, none,.bin .gtr (.t 4) (.c (vi 2000))⟩] [0,5] []
def z137r2:IC:=.reg [⟨some 6, none,.mv (.t 0)⟩,⟨some 7, none,.slc 1 (.t 6) none (some (.c (vi 2000))) none⟩,⟨some 0, none,.asgm (.t 7)⟩] [0] []
def z137r3:IC:=.reg [⟨some 8, none,.mv (.t 0)⟩,⟨some 9, none,.build [(.slice none 0 0),(vi 0)] [(0,1,(.t 8))]⟩,⟨some 10, none,.box (.t 9)⟩,⟨some 2, none,.asg (.t 10)⟩] [2] []
def zi137:IFun:=⟨[.t 2],[],(.seq z137r0 (.seq (.seq z137r1 (.cond (.t 5) z137r2 .skip)) (.seq z137r3 .ret)))⟩
def z139r0:IC:=.reg [⟨some 4, none,.asg (.c (vi 0))⟩] [0,1] []
def z139r1:IC:=.reg [⟨some 5, none,.mv (.t 1)⟩,⟨some 6, none,.mv (.t 0)⟩,⟨some 7, none,.mv (.t 1)⟩,⟨some 8, none,.len (.t 7)⟩,⟨some 9, none,.call zl140 [(.val,(.t 6)),(.val,(.t 8))] false⟩,⟨some 10, none,.iadr 1 (.t 5) (.t 9)⟩,⟨some 11, none,.load false 1 (.t 10)⟩,⟨some 4, none,.asg (.t 11)⟩] [4] []
def zi139:IFun:=⟨[.t 4],[],(.seq z139r0 (.seq z139r1 .ret))⟩
def z140r0:IC:=.reg [⟨some 4, none,.asg (.c (vi 0))⟩] [0,1] []
def z140r1:IC:=.reg [⟨some 7, none,.mv (.t 0)⟩,⟨some 8, none,.mv (.t 0)⟩,⟨some 9, none,.nilck (.t 8)⟩,⟨some 10, none,.fadr 1 (.t 9)⟩,⟨some 11, none,.load false 1 (.t 10)⟩,⟨some 12, none,.bin .add (.t 11) (.c (vi 1))⟩,⟨some 13, none,.nilck (.t 7)⟩,⟨some 14, none,.fadr 1 (.t 13)⟩,⟨none,none,.store 1 (.t 14) (.t 12)⟩] [0,1] []
def z140r2:IC:=.reg [⟨some 15, none,.mv (.t 1)⟩,⟨some 16, none,.bin .lss (.t 15) (.c (vi 1))⟩,⟨some 17, none,.asg (.t 16)⟩,⟨some 18, (some (17,false)),.mv (.t 0)⟩,⟨some 19, (some (17,false)),.nilck (.t 18)⟩,⟨some 20, (some (17,false)),.fadr 0 (.t 19)⟩,⟨some 21, (some (17,false)),.load false 1 (.t 20)⟩,⟨some 22, (some (17,false)),.len (.t 21)⟩,⟨some 23, (some (17,false)),.bin .eql (.t 22) (.c (vi 0))⟩,⟨some 24, none,.pick (.t 17) (.c (.bool true)) (.t 23)⟩] [0,1,24] []
def z140r3:IC:=.reg [⟨some 4, none,.asg (.c (vi 0))⟩] [4] []
def z140r4:IC:=.reg [⟨some 25, none,.mv (.t 0)⟩,⟨some 26, none,.nilck (.t 25)⟩,⟨some 27, none,.fadr 1 (.t 26)⟩,⟨some 28, none,.load false 1 (.t 27)⟩,⟨some 29, none,.bin .sub (.t 28) (.c (vi 1))⟩,⟨some 5, none,.asg (.t 29)⟩] [0,1,5] []
def z140r5:IC:=.reg [⟨some 30, none,.mv (.t 5)⟩,⟨some 31, none,.mv (.t 0)⟩,⟨some 32, none,.nilck (.t 31)⟩,⟨some 33, none,.fadr 0 (.t 32)⟩,⟨some 34, none,.load false 1 (.t 33)⟩,⟨some 35, none,.len (.t 34)⟩,⟨some 36, none,.bin .lss (.t 30) (.t 35)⟩] [0,1,5,36] []
def z140r6:IC:=.reg [⟨some 37, none,.mv (.t 0)⟩,⟨some 38, none,.nilck (.t 37)⟩,⟨some 39, none,.fadr 0 (.t 38)⟩,⟨some 40, none,.load false 1 (.t 39)⟩,⟨some 41, none,.mv (.t 5)⟩,⟨some 42, none,.iadr 1 (.t 40) (.t 41)⟩,⟨some 43, none,.load false 1 (.t 42)⟩,⟨some 44, none,.conv .i64 (.t 43)⟩,⟨some 45, none,.mv (.t 1)⟩,⟨some 46, none,.bin .rem (.t 44) (.t 45)⟩,⟨some 4, none,.asg (.t 46)⟩] [4] []
def z140r7:IC:=.reg [⟨some 47, none,.mv (.t 0)⟩,⟨some 48, none,.nilck (.t 47)⟩,⟨some 49, none,.fadr 0 (.t 48)⟩,⟨some 50, none,.load false 1 (.t 49)⟩,⟨some 51, none,.mv (.t 5)⟩,⟨some 52, none,.mv (.t 0)⟩,⟨some 53, none,.nilck (.t 52)⟩,⟨some 54, none,.fadr 0 (.t 53)⟩,⟨some 55, none,.load false 1 (.t 54)⟩,⟨some 56, none,.len (.t 55)⟩,⟨some 57, none,.bin .rem (.t 51) (.t 56)⟩,⟨some 58, none,.iadr 1 (.t 50) (.t 57)⟩,⟨some 59, none,.load false 1 (.t 58)⟩,⟨some 60, none,.conv .i64 (.t 59)⟩,⟨some 61, none,.bin .mul (.t 60) (.c (vi 131))⟩,⟨some 62, none,.mv (.t 0)⟩,⟨some 63, none,.nilck (.t 62)⟩,⟨some 64, none,.fadr 0 (.t 63)⟩,⟨some 65, none,.load false 1 (.t 64)⟩,⟨some 66, none,.mv (.t 5)⟩,⟨some 67, none,.bin .mul (.t 66) (.c (vi 7))⟩,⟨some 68, none,.bin .add (.t 67) (.c (vi 3))⟩,⟨some 69, none,.mv (.t 0)⟩,⟨some 70, none,.nilck (.t 69)⟩,⟨some 71, none,.fadr 0 (.t 70)⟩,
    ⟨some 72, none,.load false 1 (.t 71)⟩,⟨some 73, none,.len (.t 72)⟩,⟨some 74, none,.bin .rem (.t 68) (.t 73)⟩,⟨some 75, none,.iadr 1 (.t 65) (.t 74)⟩,⟨some 76, none,.load false 1 (.t 75)⟩,⟨some 77, none,.conv .i64 (.t 76)⟩,⟨some 78, none,.bin .mul (.t 77) (.c (vi 1117))⟩,⟨some 79, none,.bin .add (.t 61) (.t 78)⟩,⟨some 80, none,.mv (.t 5)⟩,⟨some 81, none,.bin .mul (.t 80) (.c (vi 29))⟩,⟨some 82, none,.bin .add (.t 79) (.t 81)⟩,⟨some 83, none,.mv (.t 5)⟩,⟨some 84, none,.mv (.t 0)⟩,⟨some 85, none,.nilck (.t 84)⟩,⟨some 86, none,.fadr 0 (.t 85)⟩,⟨some 87, none,.load false 1 (.t 86)⟩,⟨some 88, none,.len (.t 87)⟩,⟨some 89, none,.bin .quo (.t 83) (.t 88)⟩,⟨some 90, none,.bin .mul (.t 89) (.c (vi 53))⟩,⟨some 91, none,.bin .add (.t 82) (.t 90)⟩,⟨some 6, none,.asg (.t 91)⟩] [1,6] []
def z140r8:IC:=.reg [⟨some 92, none,.mv (.t 6)⟩,⟨some 93, none,.mv (.t 6)⟩,⟨some 94, none,.bin .quo (.t 93) (.c (vi 64))⟩,⟨some 95, none,.bin .xor (.t 92) (.t 94)⟩,⟨some 6, none,.asg (.t 95)⟩] [1,6] []
def z140r9:IC:=.reg [⟨some 96, none,.mv (.t 6)⟩,⟨some 97, none,.mv (.t 1)⟩,⟨some 98, none,.bin .rem (.t 96) (.t 97)⟩,⟨some 4, none,.asg (.t 98)⟩] [4] []
def zi140:IFun:=⟨[.t 4],[],(.seq z140r0 (.seq z140r1 (.seq (.seq z140r2 (.cond (.t 24) (.seq z140r3 .ret) .skip)) (.seq z140r4 (.seq (.seq z140r5 (.cond (.t 36) (.seq z140r6 .ret) .skip)) (.seq z140r7 (.seq z140r8 (.seq z140r9 .ret))))))))⟩
def z371r0:IC:=.reg [⟨some 2, none,.asg (.c (.slice none 0 0))⟩] [0] []
def z371r1:IC:=.reg [⟨some 5, none,.bsl 1 [(vi 0)] 0 []⟩,⟨some 3, none,.asg (.t 5)⟩] [0,3] []
def z371r2:IC:=.reg [⟨some 4, none,.asg (.c (vi 0))⟩] [0,3,4] []
def z371r3:IC:=.reg [⟨some 6, none,.mv (.t 4)⟩,⟨some 7, none,.mv (.t 0)⟩,⟨some 8, none,.len (.t 7)⟩,⟨some 9, none,.bin .lss (.t 6) (.t 8)⟩] [0,3,4,9] []
def z371r4:IC:=.reg [⟨some 12, none,.mv (.t 3)⟩,⟨some 13, none,.mv (.t 0)⟩,⟨some 14, none,.mv (.t 4)⟩,⟨some 15, none,.iadr 1 (.t 13) (.t 14)⟩,⟨some 16, none,.load false 1 (.t 15)⟩,⟨some 17, none,.call zl382 [(.rd,(.t 16))] true⟩,⟨some 18, none,.bsl 1 [(vi 0)] 1 [(0,(.t 17))]⟩,⟨some 19, none,.app 1 (.t 12) (.t 18)⟩,⟨some 3, none,.asg (.t 19)⟩] [0,3,4] []
def z371r5:IC:=.reg [⟨some 10, none,.mv (.t 4)⟩,⟨some 11, none,.bin .add (.t 10) (.c (vi 1))⟩,⟨some 4, none,.asg (.t 11)⟩] [0,3,4] []
def z371l6:IC:=(.seq (.seq z371r3 (.cond (.t 9) .skip (.exit 0))) (.seq (.block 1 z371r4) z371r5))
def z371r7:IC:=.reg [⟨some 20, none,.mv (.t 3)⟩,⟨some 2, none,.asgm (.t 20)⟩] [2,3] []
def zi371:IFun:=⟨[.t 2],[],(.seq z371r0 (.seq z371r1 (.seq (.seq z371r2 (.block 0 (.loop z371l6))) (.seq z371r7 .ret))))⟩
def z493r0:IC:=.reg [⟨some 2, none,.asg (.c (.slice none 0 0))⟩] [0] []
def z493r1:IC:=.reg [⟨some 6, none,.mv (.t 0)⟩,⟨some 7, none,.call zl127 [(.rd,(.t 6))] true⟩,⟨some 3, none,.asg (.t 7)⟩] [0,3] []
def z493r2:IC:=.reg [⟨some 8, none,.bsl 1 [(vi 0)] 0 []⟩,⟨some 4, none,.asg (.t 8)⟩] [0,3,4] []
def z493r3:IC:=.reg [⟨some 5, none,.asg (.c (vi 1))⟩] [0,3,4,5] []
def z493r4:IC:=.reg [⟨some 9, none,.mv (.t 5)⟩,⟨some 10, none,.mv (.t 0)⟩,⟨some 11, none,.len (.t 10)⟩,⟨some 12, none,.bin .leq (.t 9) (.t 11)⟩] [0,3,4,5,12] []
def z493r5:IC:=.reg [⟨some 15, none,.mv (.t 4)⟩,⟨some 16, none,.mv (.t 3)⟩,⟨some 17, none,.mv (.t 3)⟩,⟨some 18, none,.len (.t 17)⟩,⟨some 19, none,.mv (.t 5)⟩,⟨some 20, none,.bin .sub (.t 18) (.t 19)⟩,⟨some 21, none,.slc 1 (.t 16) (some (.t 20)) none none⟩,⟨some 22, none,.call zl382 [(.rd,(.t 21))] true⟩,⟨some 23, none,.mv (.t 5)⟩,⟨some 24, none,.mv (.t 5)⟩,⟨some 25, none,.bin .sub (.t 24) (.c (vi 1))⟩,⟨some 26, none,.bin .mul (.t 23) (.t 25)⟩,⟨some 27, none,.bin .quo (.t 26) (.c (vi 2))⟩,⟨some 28, none,.bin .sub (.t 22) (.t 27)⟩,⟨some 29, none,.bsl 1 [(vi 0)] 1 [(0,(.t 28))]⟩,⟨some 30, none,.app 1 (.t 15) (.t 29)⟩,⟨some 4, none,.asg (.t 30)⟩] [0,3,4,5] []
def z493r6:IC:=.reg [⟨some 13, none,.mv (.t 5)⟩,⟨some 14, none,.bin .add (.t 13) (.c (vi 1))⟩,⟨some 5, none,.asg (.t 14)⟩] [0,3,4,5] []
def z493l7:IC:=(.seq (.seq z493r4 (.cond (.t 12) .skip (.exit 0))) (.seq (.block 1 z493r5) z493r6))
def z493r8:IC:=.reg [⟨some 31, none,.mv (.t 4)⟩,⟨some 2, none,.asgm (.t 31)⟩] [2,4] []
def zi493:IFun:=⟨[.t 2],[],(.seq z493r0 (.seq z493r1 (.seq z493r2 (.seq (.seq z493r3 (.block 0 (.loop z493l7))) (.seq z493r8 .ret)))))⟩
def z494r0:IC:=.reg [⟨some 2, none,.asg (.c (.slice none 0 0))⟩] [0] []
def z494r1:IC:=.reg [⟨some 5, none,.mv (.t 0)⟩,⟨some 6, none,.call zl119 [(.val,(.t 5))] false⟩,⟨some 7, none,.call zl371 [(.rd,(.t 6))] true⟩,⟨some 3, none,.asg (.t 7)⟩] [0,3] []
def z494r2:IC:=.reg [⟨some 8, none,.mv (.t 3)⟩,⟨some 9, none,.len (.t 8)⟩,⟨some 10, none,.bin .gtr (.t 9) (.c (vi 1))⟩,⟨some 11, none,.asg (.t 10)⟩,⟨some 12, (some (11,true)),.mv (.t 0)⟩,⟨some 13, (some (11,true)),.call zl140 [(.val,(.t 12)),(.val,(.c (vi 3)))] false⟩,⟨some 14, (some (11,true)),.bin .eql (.t 13) (.c (vi 0))⟩,⟨some 15, none,.pick (.t 11) (.t 14) (.c (.bool false))⟩] [0,3,15] []
def z494r3:IC:=.reg [⟨some 16, none,.mv (.t 0)⟩,⟨some 17, none,.mv (.t 3)⟩,⟨some 18, none,.len (.t 17)⟩,⟨some 19, none,.call zl140 [(.val,(.t 16)),(.val,(.t 18))] false⟩,⟨some 4, none,.asg (.t 19)⟩] [0,3,4] []
def z494r4:IC:=.reg [⟨some 20, none,.mv (.t 3)⟩,⟨some 21, none,.mv (.t 4)⟩,⟨some 22, none,.mv (.t 3)⟩,⟨some 23, none,.mv (.t 4)⟩,⟨some 24, none,.iadr 1 (.t 22) (.t 23)⟩,⟨some 25, none,.load false 1 (.t 24)⟩,⟨some 26, none,.mv (.t 0)⟩,⟨some 27, none,.bsl 1 [(vi 0)] 2 [(0,(.c (vi 1))),(1,(.c (vi (-1))))]⟩,⟨some 28, none,.call zl139 [(.val,(.t 26)),(.rd,(.t 27))] false⟩,⟨some 29, none,.bin .add (.t 25) (.t 28)⟩,⟨some 30, none,.minmax false (.t 29) (.c (vi 0))⟩,⟨some 31, none,.mv (.t 3)⟩,⟨some 32, none,.len (.t 31)⟩,⟨some 33, none,.bin .sub (.t 32) (.c (vi 1))⟩,⟨some 34, none,.minmax true (.t 30) (.t 33)⟩,⟨some 35, none,.iadr 1 (.t 20) (.t 21)⟩,⟨none,none,.store 1 (.t 35) (.t 34)⟩] [0,3] [[0,1,2,3,4,6,7,5,8,9,10,11,12,13,14,15,16],[0,1,2,3,4,6,7,8,5,9,10,11,12,13,14,15,16]]
def z494r5:IC:=.reg [⟨some 36, none,.mv (.t 0)⟩,⟨some 37, none,.mv (.t 3)⟩,⟨some 38, none,.len (.t 37)⟩,⟨some 39, none,.call zl140 [(.val,(.t 36)),(.val,(.t 38))] false⟩,⟨some 4, none,.asg (.t 39)⟩] [0,3,4] []
def z494r6:IC:=.reg [⟨some 40, none,.mv (.t 3)⟩,⟨some 41, none,.mv (.t 4)⟩,⟨some 42, none,.mv (.t 3)⟩,⟨some 43, none,.mv (.t 4)⟩,⟨some 44, none,.iadr 1 (.t 42) (.t 43)⟩,⟨some 45, none,.load false 1 (.t 44)⟩,⟨some 46, none,.mv (.t 0)⟩,⟨some 47, none,.bsl 1 [(vi 0)] 2 [(0,(.c (vi 1))),(1,(.c (vi (-1))))]⟩,⟨some 48, none,.call zl139 [(.val,(.t 46)),(.rd,(.t 47))] false⟩,⟨some 49, none,.bin .add (.t 45) (.t 48)⟩,⟨some 50, none,.minmax false (.t 49) (.c (vi 0))⟩,⟨some 51, none,.mv (.t 3)⟩,⟨some 52, none,.len (.t 51)⟩,⟨some 53, none,.bin .sub (.t 52) (.c (vi 1))⟩,⟨some 54, none,.minmax true (.t 50) (.t 53)⟩,⟨some 55, none,.iadr 1 (.t 40) (.t 41)⟩,⟨none,none,.store 1 (.t 55) (.t 54)⟩] [0,3] [[0,1,2,3,4,6,7,5,8,9,10,11,12,13,14,15,16],[0,1,2,3,4,6,7,8,5,9,10,11,12,13,14,15,16]]
def z494r7:IC:=.reg [⟨some 56, none,.mv (.t 0)⟩,⟨some 57, none,.call zl140 [(.val,(.t 56)),(.val,(.c (vi 24)))] false⟩] [3,57] []
def z494r8:IC:=.reg [⟨some 59, none,.bin .eql (.t 57) (.c (vi 0))⟩,⟨some 58, none,.asg (.t 59)⟩] [3,57,58] []
def z494r9:IC:=.reg [⟨some 60, none,.mv (.t 3)⟩,⟨some 61, none,.bsl 1 [(vi 0)] 1 [(0,(.c (vi (-1))))]⟩,⟨some 62, none,.app 1 (.t 60) (.t 61)⟩,⟨some 2, none,.asg (.t 62)⟩] [2,3] []
def z494r10:IC:=.reg [⟨some 64, none,.bin .eql (.t 57) (.c (vi 1))⟩,⟨some 63, none,.asg (.t 64)⟩] [3,63] []
def z494r11:IC:=.reg [⟨some 65, none,.bsl 1 [(vi 0)] 0 []⟩,⟨some 2, none,.asg (.t 65)⟩] [2,3] []
def z494r12:IC:=.reg [⟨some 66, none,.mv (.t 3)⟩,⟨some 2, none,.asgm (.t 66)⟩] [2,3] []
def zi494:IFun:=⟨[.t 2],[],(.seq z494r0 (.seq z494r1 (.seq (.seq z494r2 (.cond (.t 15) (.seq z494r3 (.seq z494r4 (.seq z494r5 z494r6))) .skip)) (.seq (.seq z494r7 (.block 0 (.seq z494r8 (.cond (.t 58) (.seq z494r9 .ret) (.seq z494r10 (.cond (.t 63) (.seq z494r11 .ret) .skip)))))) (.seq z494r12 .ret)))))⟩
def z382r0:IC:=.reg [⟨some 2, none,.asg (.c (vi 0))⟩] [0] []
def z382r1:IC:=.reg [⟨some 3, none,.asg (.c (vi 0))⟩] [0,3] []
def z382r2:IC:=.reg [⟨some 4, none,.asg (.c (vi 0))⟩] [0,3,4] []
def z382r3:IC:=.reg [⟨some 5, none,.mv (.t 4)⟩,⟨some 6, none,.mv (.t 0)⟩,⟨some 7, none,.len (.t 6)⟩,⟨some 8, none,.bin .lss (.t 5) (.t 7)⟩] [0,3,4,8] []
def z382r4:IC:=.reg [⟨some 11, none,.mv (.t 3)⟩,⟨some 12, none,.mv (.t 0)⟩,⟨some 13, none,.mv (.t 4)⟩,⟨some 14, none,.iadr 1 (.t 12) (.t 13)⟩,⟨some 15, none,.load false 1 (.t 14)⟩,⟨some 16, none,.bin .add (.t 11) (.t 15)⟩,⟨some 3, none,.asg (.t 16)⟩] [0,3,4] []
def z382r5:IC:=.reg [⟨some 9, none,.mv (.t 4)⟩,⟨some 10, none,.bin .add (.t 9) (.c (vi 1))⟩,⟨some 4, none,.asg (.t 10)⟩] [0,3,4] []
def z382l6:IC:=(.seq (.seq z382r3 (.cond (.t 8) .skip (.exit 0))) (.seq (.block 1 z382r4) z382r5))
def z382r7:IC:=.reg [⟨some 17, none,.mv (.t 3)⟩,⟨some 2, none,.asgm (.t 17)⟩] [2] []
def zi382:IFun:=⟨[.t 2],[],(.seq z382r0 (.seq z382r1 (.seq (.seq z382r2 (.block 0 (.loop z382l6))) (.seq z382r7 .ret))))⟩
def z388r0:IC:=.reg [⟨some 2, none,.asg (.c (.bool false))⟩] [0] []
def z388r1:IC:=.reg [⟨some 3, none,.asg (.c (vi 0))⟩] [0,3] []
def z388r2:IC:=.reg [⟨some 4, none,.mv (.t 3)⟩,⟨some 5, none,.mv (.t 0)⟩,⟨some 6, none,.len (.t 5)⟩,⟨some 7, none,.bin .lss (.t 4) (.t 6)⟩] [0,3,7] []
def z388r3:IC:=.reg [⟨some 10, none,.mv (.t 0)⟩,⟨some 11, none,.mv (.t 3)⟩,⟨some 12, none,.iadr 1 (.t 10) (.t 11)⟩,⟨some 13, none,.load false 1 (.t 12)⟩,⟨some 14, none,.mv (.t 0)⟩,⟨some 15, none,.len (.t 14)⟩,⟨some 16, none,.bin .sub (.t 15) (.c (vi 1))⟩,⟨some 17, none,.call zl132 [(.val,(.t 13)),(.val,(.c (vi 0))),(.val,(.t 16))] true⟩,⟨some 18, none,.unop .not (.t 17)⟩] [0,3,18] []
def z388r4:IC:=.reg [⟨some 2, none,.asg (.c (.bool false))⟩] [2] []
def z388r5:IC:=.reg [⟨some 8, none,.mv (.t 3)⟩,⟨some 9, none,.bin .add (.t 8) (.c (vi 1))⟩,⟨some 3, none,.asg (.t 9)⟩] [0,3] []
def z388l6:IC:=(.seq (.seq z388r2 (.cond (.t 7) .skip (.exit 0))) (.seq (.block 1 (.seq z388r3 (.cond (.t 18) (.seq z388r4 .ret) .skip))) z388r5))
def z388r7:IC:=.reg [⟨some 19, none,.mv (.t 0)⟩,⟨some 20, none,.len (.t 19)⟩,⟨some 21, none,.call zl132 [(.val,(.t 20)),(.val,(.c (vi 1))),(.val,(.c (vi 5)))] true⟩,⟨some 2, none,.asg (.t 21)⟩] [2] []
def zi388:IFun:=⟨[.t 2],[],(.seq z388r0 (.seq (.seq z388r1 (.block 0 (.loop z388l6))) (.seq z388r7 .ret)))⟩
def tbl:List (Nat×IFun):=[(zl2,zi2),(zl4,zi4),(zl5,zi5),(zl6,zi6),(zl179,zi179),(zl180,zi180),(zl181,zi181),(zl11,zi11),(zl461,zi461),(zl462,zi462),(zl463,zi463),(zl25,zi25),(zl29,zi29),(zl30,zi30),(zl31,zi31),(zl33,zi33),(zl34,zi34),(zl35,zi35),(zl37,zi37),(zl38,zi38),(zl212,zi212),(zl215,zi215),(zl412,zi412),(zl413,zi413),(zl39,zi39),(zl40,zi40),(zl41,zi41),(zl469,zi469),(zl66,zi66),(zl68,zi68),(zl70,zi70),(zl71,zi71),(zl72,zi72),(zl73,zi73),(zl75,zi75),(zl76,zi76),(zl273,zi273),(zl78,zi78),(zl278,zi278),(zl86,zi86),(zl101,zi101),(zl289,zi289),(zl485,zi485),(zl488,zi488),(zl119,zi119),(zl123,zi123),(zl127,zi127),(zl132,zi132),(zl492,zi492),(zl360,zi360),(zl137,zi137),(zl139,zi139),(zl140,zi140),(zl371,zi371),(zl493,zi493),(zl494,zi494),(zl382,zi382),(zl388,zi388)]
def tb:Tbl:=tbOf tbl
theorem zt2:tb zl2=some zi2:=by kernel_rfl
theorem zt4:tb zl4=some zi4:=by kernel_rfl
theorem zt5:tb zl5=some zi5:=by kernel_rfl
theorem zt6:tb zl6=some zi6:=by kernel_rfl
theorem zt179:tb zl179=some zi179:=by kernel_rfl
theorem zt180:tb zl180=some zi180:=by kernel_rfl
theorem zt181:tb zl181=some zi181:=by kernel_rfl
theorem zt11:tb zl11=some zi11:=by kernel_rfl
theorem zt461:tb zl461=some zi461:=by kernel_rfl
theorem zt462:tb zl462=some zi462:=by kernel_rfl
theorem zt463:tb zl463=some zi463:=by kernel_rfl
theorem zt25:tb zl25=some zi25:=by kernel_rfl
theorem zt29:tb zl29=some zi29:=by kernel_rfl
theorem zt30:tb zl30=some zi30:=by kernel_rfl
theorem zt31:tb zl31=some zi31:=by kernel_rfl
theorem zt33:tb zl33=some zi33:=by kernel_rfl
theorem zt34:tb zl34=some zi34:=by kernel_rfl
theorem zt35:tb zl35=some zi35:=by kernel_rfl
theorem zt37:tb zl37=some zi37:=by kernel_rfl
theorem zt38:tb zl38=some zi38:=by kernel_rfl
theorem zt212:tb zl212=some zi212:=by kernel_rfl
theorem zt215:tb zl215=some zi215:=by kernel_rfl
theorem zt412:tb zl412=some zi412:=by kernel_rfl
theorem zt413:tb zl413=some zi413:=by kernel_rfl
theorem zt39:tb zl39=some zi39:=by kernel_rfl
theorem zt40:tb zl40=some zi40:=by kernel_rfl
theorem zt41:tb zl41=some zi41:=by kernel_rfl
theorem zt469:tb zl469=some zi469:=by kernel_rfl
theorem zt66:tb zl66=some zi66:=by kernel_rfl
theorem zt68:tb zl68=some zi68:=by kernel_rfl
theorem zt70:tb zl70=some zi70:=by kernel_rfl
theorem zt71:tb zl71=some zi71:=by kernel_rfl
theorem zt72:tb zl72=some zi72:=by kernel_rfl
theorem zt73:tb zl73=some zi73:=by kernel_rfl
theorem zt75:tb zl75=some zi75:=by kernel_rfl
theorem zt76:tb zl76=some zi76:=by kernel_rfl
theorem zt273:tb zl273=some zi273:=by kernel_rfl
theorem zt78:tb zl78=some zi78:=by kernel_rfl
theorem zt278:tb zl278=some zi278:=by kernel_rfl
theorem zt86:tb zl86=some zi86:=by kernel_rfl
theorem zt101:tb zl101=some zi101:=by kernel_rfl
theorem zt289:tb zl289=some zi289:=by kernel_rfl
theorem zt485:tb zl485=some zi485:=by kernel_rfl
theorem zt488:tb zl488=some zi488:=by kernel_rfl
theorem zt119:tb zl119=some zi119:=by kernel_rfl
theorem zt123:tb zl123=some zi123:=by kernel_rfl
theorem zt127:tb zl127=some zi127:=by kernel_rfl
theorem zt132:tb zl132=some zi132:=by kernel_rfl
theorem zt492:tb zl492=some zi492:=by kernel_rfl
theorem zt360:tb zl360=some zi360:=by kernel_rfl
theorem zt137:tb zl137=some zi137:=by kernel_rfl
theorem zt139:tb zl139=some zi139:=by kernel_rfl
theorem zt140:tb zl140=some zi140:=by kernel_rfl
theorem zt371:tb zl371=some zi371:=by kernel_rfl
theorem zt493:tb zl493=some zi493:=by kernel_rfl
theorem zt494:tb zl494=some zi494:=by kernel_rfl
theorem zt382:tb zl382=some zi382:=by kernel_rfl
theorem zt388:tb zl388=some zi388:=by kernel_rfl
end Go.Idl
