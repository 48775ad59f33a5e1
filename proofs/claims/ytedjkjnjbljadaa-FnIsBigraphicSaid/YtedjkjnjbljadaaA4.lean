/- Part 4 of a proof by an ideal interpreter of the code: its definitions and lemmas. Conditions: none. -/
import Derived.KernelRfl
import Derived.Test.YtedjkjnjbljadaaA3
set_option linter.all false
set_option linter.unusedVariables false
set_option linter.unusedSimpArgs false
namespace Go.Idl
open Go
abbrev vi (n:Int):Value:=.int .i64 n
abbrev zl2:Lab:=2
abbrev zl4:Lab:=4
abbrev zl29:Lab:=29
abbrev zl30:Lab:=30
abbrev zl31:Lab:=31
abbrev zl37:Lab:=37
abbrev zl38:Lab:=38
abbrev zl40:Lab:=40
abbrev zl41:Lab:=41
abbrev zl66:Lab:=66
abbrev zl67:Lab:=67
abbrev zl68:Lab:=68
abbrev zl70:Lab:=70
abbrev zl71:Lab:=71
abbrev zl72:Lab:=72
abbrev zl73:Lab:=73
abbrev zl75:Lab:=75
abbrev zl76:Lab:=76
abbrev zl78:Lab:=78
abbrev zl80:Lab:=80
abbrev zl82:Lab:=82
abbrev zl84:Lab:=84
abbrev zl86:Lab:=86
abbrev zl95:Lab:=95
abbrev zl98:Lab:=98
abbrev zl99:Lab:=99
abbrev zl101:Lab:=101
abbrev zl103:Lab:=103
abbrev zl123:Lab:=123
abbrev zl127:Lab:=127
abbrev zl132:Lab:=132
abbrev zl137:Lab:=137
abbrev zl139:Lab:=139
abbrev zl140:Lab:=140
abbrev zl165:Lab:=165
abbrev zl176:Lab:=176
abbrev zl200:Lab:=200
abbrev zl210:Lab:=210
abbrev zl211:Lab:=211
abbrev zl212:Lab:=212
abbrev zl273:Lab:=273
abbrev zl278:Lab:=278
abbrev zl289:Lab:=289
abbrev zl291:Lab:=291
abbrev zl304:Lab:=304
abbrev zl315:Lab:=315
abbrev zl331:Lab:=331
abbrev zl351:Lab:=351
abbrev zl353:Lab:=353
abbrev zl360:Lab:=360
abbrev zl361:Lab:=361
abbrev zl371:Lab:=371
abbrev zl382:Lab:=382
abbrev zl385:Lab:=385
abbrev zl387:Lab:=387
abbrev zl504:Lab:=504
abbrev zl505:Lab:=505
abbrev zl532:Lab:=532
def z2r0:IC:=.reg [⟨some 4, none,.asg (.c (.bool false))⟩] [0,1] []
def z2r1:IC:=.reg [⟨some 5, none,.mv (.t 0)⟩,⟨some 6, none,.call zl4 [(.val,(.t 5))] true⟩,⟨some 7, none,.asg (.t 6)⟩,⟨some 8, (some (7,true)),.mv (.t 1)⟩,⟨some 9, (some (7,true)),.call zl4 [(.val,(.t 8))] true⟩,⟨some 10, (some (7,true)),.unop .not (.t 9)⟩,⟨some 11, none,.pick (.t 7) (.t 10) (.c (.bool false))⟩,⟨some 12, none,.asg (.t 11)⟩,⟨some 13, (some (12,false)),.mv (.t 0)⟩,⟨some 14, (some (12,false)),.mv (.t 1)⟩,⟨some 15, (some (12,false)),.bin .lss (.t 13) (.t 14)⟩,⟨some 16, none,.pick (.t 12) (.c (.bool true)) (.t 15)⟩,⟨some 4, none,.asg (.t 16)⟩] [4] []
def zi2:IFun:=⟨[.t 4],[],(.seq z2r0 (.seq z2r1 .ret))⟩
def z4r0:IC:=.reg [⟨some 2, none,.asg (.c (.bool false))⟩] [0] []
def z4r1:IC:=.reg [⟨some 3, none,.mv (.t 0)⟩,⟨some 4, none,.mv (.t 0)⟩,⟨some 5, none,.bin .neq (.t 3) (.t 4)⟩,⟨some 2, none,.asg (.t 5)⟩] [2] []
def zi4:IFun:=⟨[.t 2],[],(.seq z4r0 (.seq z4r1 .ret))⟩
def z504r0:IC:=.reg [⟨some 4, none,.asg (.c (.slice none 0 0))⟩,⟨some 5, none,.asg (.c (.bool false))⟩] [0,1] []
def z504r1:IC:=.reg [⟨some 12, none,.mv (.t 0)⟩,⟨some 13, none,.mv (.t 1)⟩,⟨some 14, none,.call zl200 [(.rd,(.t 12)),(.rd,(.t 13))] true⟩,⟨some 15, none,.unop .not (.t 14)⟩] [0,1,15] []
def z504r2:IC:=.reg [⟨some 4, none,.asg (.c (.slice none 0 0))⟩,⟨some 5, none,.asg (.c (.bool false))⟩] [4,5,7] []
def z504r3:IC:=.reg [⟨some 16, none,.mv (.t 1)⟩,⟨some 17, none,.call zl31 [(.rd,(.t 16))] true⟩,⟨some 6, none,.asg (.t 17)⟩] [0,1,6] []
def z504r4:IC:=.reg [⟨some 18, none,.mv (.t 0)⟩,⟨some 19, none,.len (.t 18)⟩,⟨some 20, none,.mv (.t 1)⟩,⟨some 21, none,.len (.t 20)⟩,⟨some 22, none,.call zl41 [(.val,(.t 19)),(.val,(.t 21)),(.val,(.f zl505))] false⟩,⟨some 7, none,.asg (.t 22)⟩] [0,1,6,7] []
def z504r5:IC:=.reg [⟨some 23, none,.mv (.t 0)⟩,⟨some 24, none,.len (.t 23)⟩,⟨some 25, none,.mv (.c (vi 0))⟩] [0,1,6,7,23,24,25] []
def z504r6:IC:=.reg [⟨some 26, none,.bin .lss (.t 25) (.t 24)⟩] [0,1,6,7,23,24,25,26] []
def z504r7:IC:=.reg [⟨some 27, none,.asg (.t 25)⟩,⟨some 28, none,.iadr 1 (.t 23) (.t 25)⟩,⟨some 29, none,.load false 1 (.t 28)⟩,⟨some 8, none,.asg (.t 27)⟩,⟨some 9, none,.asg (.t 29)⟩] [0,1,6,7,8,9,23,24,25] []
def z504r8:IC:=.reg [⟨some 30, none,.mv (.t 6)⟩,⟨some 31, none,.mv (.t 1)⟩,⟨some 32, none,.len (.t 31)⟩,⟨some 33, none,.call zl212 [(.val,(.t 32)),(.val,(.c (vi (-1))))] true⟩,⟨some 34, none,.mv (.t 9)⟩,⟨some 35, none,.call zl210 [(.rd,(.t 30)),(.rd,(.t 33)),(.val,(.t 34))] true⟩,⟨some 36, none,.len (.t 35)⟩,⟨some 37, none,.mv (.c (vi 0))⟩] [0,1,6,7,8,23,24,25,35,36,37] []
def z504r9:IC:=.reg [⟨some 38, none,.bin .lss (.t 37) (.t 36)⟩] [0,1,6,7,8,23,24,25,35,36,37,38] []
def z504r10:IC:=.reg [⟨some 39, none,.iadr 1 (.t 35) (.t 37)⟩,⟨some 40, none,.load false 1 (.t 39)⟩,⟨some 11, none,.asg (.t 40)⟩] [0,1,6,7,8,11,23,24,25,35,36,37] []
def z504r11:IC:=.reg [⟨some 41, none,.mv (.t 6)⟩,⟨some 42, none,.mv (.t 11)⟩,⟨some 43, none,.iadr 1 (.t 41) (.t 42)⟩,⟨some 44, none,.load false 1 (.t 43)⟩,⟨some 45, none,.bin .eql (.t 44) (.c (vi 0))⟩] [0,1,6,7,8,11,23,24,25,35,36,37,45] []
def z504r12:IC:=.reg [⟨some 4, none,.asg (.c (.slice none 0 0))⟩,⟨some 5, none,.asg (.c (.bool false))⟩] [4,5,7] []
def z504r13:IC:=.reg [⟨some 46, none,.mv (.t 6)⟩,⟨some 47, none,.mv (.t 11)⟩,⟨some 48, none,.iadr 1 (.t 46) (.t 47)⟩,⟨some 49, none,.load false 1 (.t 48)⟩,⟨some 50, none,.bin .sub (.t 49) (.c (vi 1))⟩,⟨some 51, none,.iadr 1 (.t 46) (.t 47)⟩,⟨none,none,.store 1 (.t 51) (.t 50)⟩] [0,1,6,7,8,11,23,24,25,35,36,37] []
def z504r14:IC:=.reg [⟨some 52, none,.mv (.t 7)⟩,⟨some 53, none,.mv (.t 8)⟩,⟨some 54, none,.iadr 1 (.t 52) (.t 53)⟩,⟨some 55, none,.load false 1 (.t 54)⟩,⟨some 56, none,.mv (.t 11)⟩,⟨some 57, none,.iadr 1 (.t 55) (.t 56)⟩,⟨none,none,.store 1 (.t 57) (.c (vi 1))⟩] [0,1,6,7,8,23,24,25,35,36,37] []
def z504r15:IC:=.reg [⟨some 58, none,.bin .add (.t 37) (.c (vi 1))⟩,⟨some 37, none,.asg (.t 58)⟩] [0,1,6,7,8,23,24,25,35,36,37] []
def z504l16:IC:=(.seq z504r9 (.seq (.cond (.t 38) .skip (.exit 2)) (.seq (.block 3 (.seq z504r10 (.seq (.seq z504r11 (.cond (.t 45) (.seq z504r12 .ret) .skip)) (.seq z504r13 z504r14)))) z504r15)))
def z504r17:IC:=.reg [⟨some 59, none,.bin .add (.t 25) (.c (vi 1))⟩,⟨some 25, none,.asg (.t 59)⟩] [0,1,6,7,23,24,25] []
def z504l18:IC:=(.seq z504r6 (.seq (.cond (.t 26) .skip (.exit 0)) (.seq (.block 1 (.seq z504r7 (.seq z504r8 (.block 2 (.loop z504l16))))) z504r17)))
def z504r19:IC:=.reg [⟨some 60, none,.mv (.t 6)⟩,⟨some 61, none,.call zl40 [(.rd,(.t 60))] true⟩,⟨some 62, none,.bin .gtr (.t 61) (.c (vi 0))⟩] [7,62] []
def z504r20:IC:=.reg [⟨some 4, none,.asg (.c (.slice none 0 0))⟩,⟨some 5, none,.asg (.c (.bool false))⟩] [4,5,7] []
def z504r21:IC:=.reg [⟨some 63, none,.mv (.t 7)⟩,⟨some 4, none,.asgm (.t 63)⟩,⟨some 5, none,.asg (.c (.bool true))⟩] [4,5,7] []
def zi504:IFun:=⟨[.t 4,.t 5],[],(.seq z504r0 (.seq (.seq z504r1 (.cond (.t 15) (.seq z504r2 .ret) .skip)) (.seq z504r3 (.seq z504r4 (.seq (.seq z504r5 (.block 0 (.loop z504l18))) (.seq (.seq z504r19 (.cond (.t 62) (.seq z504r20 .ret) .skip)) (.seq z504r21 .ret)))))))⟩
def z505r0:IC:=.reg [⟨some 4, none,.asg (.c (vi 0))⟩] [] []
def z505r1:IC:=.reg [⟨some 4, none,.asg (.c (vi 0))⟩] [4] []
def zi505:IFun:=⟨[.t 4],[],(.seq z505r0 (.seq z505r1 .ret))⟩
def z165r0:IC:=.reg [⟨some 4, none,.asg (.c (.slice none 0 0))⟩] [0,1] []
def z165r1:IC:=.reg [⟨some 10, none,.mv (.t 0)⟩,⟨some 11, none,.mv (.t 1)⟩,⟨some 12, none,.call zl200 [(.rd,(.t 10)),(.rd,(.t 11))] true⟩,⟨some 13, none,.unop .not (.t 12)⟩] [0,1,13] []
def z165r2:IC:=.reg [⟨some 4, none,.asg (.c (.slice none 0 0))⟩] [4,6] []
def z165r3:IC:=.reg [⟨some 14, none,.mv (.t 0)⟩,⟨some 15, none,.call zl37 [(.rd,(.t 14))] true⟩,⟨some 5, none,.asg (.t 15)⟩] [0,1,5] []
def z165r4:IC:=.reg [⟨some 16, none,.mv (.t 0)⟩,⟨some 17, none,.len (.t 16)⟩,⟨some 18, none,.mksl 1 [(vi 0)] (.t 17) (.t 17)⟩,⟨some 6, none,.asg (.t 18)⟩] [1,5,6] []
def z165r5:IC:=.reg [⟨some 19, none,.mv (.t 6)⟩,⟨some 20, none,.len (.t 19)⟩,⟨some 21, none,.mv (.c (vi 0))⟩] [1,5,6,20,21] []
def z165r6:IC:=.reg [⟨some 22, none,.bin .lss (.t 21) (.t 20)⟩] [1,5,6,20,21,22] []
def z165r7:IC:=.reg [⟨some 23, none,.asg (.t 21)⟩,⟨some 7, none,.asg (.t 23)⟩] [1,5,6,7,20,21] []
def z165r8:IC:=.reg [⟨some 24, none,.mv (.t 6)⟩,⟨some 25, none,.mv (.t 7)⟩,⟨some 26, none,.mv (.t 5)⟩,⟨some 27, none,.mv (.t 7)⟩,⟨some 28, none,.bin .add (.t 27) (.c (vi 1))⟩,⟨some 29, none,.slc 1 (.t 26) none (some (.t 28)) none⟩,⟨some 30, none,.call zl40 [(.rd,(.t 29))] true⟩,⟨some 31, none,.unop .neg (.t 30)⟩,⟨some 32, none,.iadr 1 (.t 24) (.t 25)⟩,⟨none,none,.store 1 (.t 32) (.t 31)⟩] [1,5,6,7,20,21] []
def z165r9:IC:=.reg [⟨some 33, none,.mv (.t 1)⟩,⟨some 34, none,.len (.t 33)⟩,⟨some 35, none,.mv (.c (vi 0))⟩] [1,5,6,7,20,21,33,34,35] []
def z165r10:IC:=.reg [⟨some 36, none,.bin .lss (.t 35) (.t 34)⟩] [1,5,6,7,20,21,33,34,35,36] []
def z165r11:IC:=.reg [⟨some 37, none,.iadr 1 (.t 33) (.t 35)⟩,⟨some 38, none,.load false 1 (.t 37)⟩,⟨some 9, none,.asg (.t 38)⟩] [1,5,6,7,9,20,21,33,34,35] []
def z165r12:IC:=.reg [⟨some 39, none,.mv (.t 6)⟩,⟨some 40, none,.mv (.t 7)⟩,⟨some 41, none,.iadr 1 (.t 39) (.t 40)⟩,⟨some 42, none,.load false 1 (.t 41)⟩,⟨some 43, none,.mv (.t 9)⟩,⟨some 44, none,.mv (.t 7)⟩,⟨some 45, none,.bin .add (.t 44) (.c (vi 1))⟩,⟨some 46, none,.minmax true (.t 43) (.t 45)⟩,⟨some 47, none,.bin .add (.t 42) (.t 46)⟩,⟨some 48, none,.iadr 1 (.t 39) (.t 40)⟩,⟨none,none,.store 1 (.t 48) (.t 47)⟩] [1,5,6,7,20,21,33,34,35] []
def z165r13:IC:=.reg [⟨some 49, none,.bin .add (.t 35) (.c (vi 1))⟩,⟨some 35, none,.asg (.t 49)⟩] [1,5,6,7,20,21,33,34,35] []
def z165l14:IC:=(.seq z165r10 (.seq (.cond (.t 36) .skip (.exit 2)) (.seq (.block 3 (.seq z165r11 z165r12)) z165r13)))
def z165r15:IC:=.reg [⟨some 50, none,.bin .add (.t 21) (.c (vi 1))⟩,⟨some 21, none,.asg (.t 50)⟩] [1,5,6,20,21] []
def z165l16:IC:=(.seq z165r6 (.seq (.cond (.t 22) .skip (.exit 0)) (.seq (.block 1 (.seq z165r7 (.seq z165r8 (.seq z165r9 (.block 2 (.loop z165l14)))))) z165r15)))
def z165r17:IC:=.reg [⟨some 51, none,.mv (.t 6)⟩,⟨some 4, none,.asgm (.t 51)⟩] [4,6] []
def zi165:IFun:=⟨[.t 4],[],(.seq z165r0 (.seq (.seq z165r1 (.cond (.t 13) (.seq z165r2 .ret) .skip)) (.seq z165r3 (.seq z165r4 (.seq (.seq z165r5 (.block 0 (.loop z165l16))) (.seq z165r17 .ret))))))⟩
def z176r0:IC:=.reg [⟨some 4, none,.asg (.c (.bool false))⟩] [0,1] []
def z176r1:IC:=.reg [⟨some 5, none,.mv (.t 0)⟩,⟨some 6, none,.mv (.t 1)⟩,⟨some 7, none,.call zl200 [(.rd,(.t 5)),(.rd,(.t 6))] true⟩,⟨some 8, none,.asg (.t 7)⟩,⟨some 9, (some (8,true)),.mv (.t 0)⟩,⟨some 10, (some (8,true)),.call zl40 [(.rd,(.t 9))] true⟩,⟨some 11, (some (8,true)),.mv (.t 1)⟩,⟨some 12, (some (8,true)),.call zl40 [(.rd,(.t 11))] true⟩,⟨some 13, (some (8,true)),.bin .eql (.t 10) (.t 12)⟩,⟨some 14, none,.pick (.t 8) (.t 13) (.c (.bool false))⟩,⟨some 15, none,.asg (.t 14)⟩,⟨some 16, (some (15,true)),.mv (.t 0)⟩,⟨some 17, (some (15,true)),.mv (.t 1)⟩,⟨some 18, (some (15,true)),.call zl165 [(.rd,(.t 16)),(.rd,(.t 17))] true⟩,⟨some 19, (some (15,true)),.call zl75 [(.rd,(.t 18))] true⟩,⟨some 20, (some (15,true)),.bin .geq (.t 19) (.c (vi 0))⟩,⟨some 21, none,.pick (.t 15) (.t 20) (.c (.bool false))⟩,⟨some 4, none,.asg (.t 21)⟩] [4] []
def zi176:IFun:=⟨[.t 4],[],(.seq z176r0 (.seq z176r1 .ret))⟩
def z200r0:IC:=.reg [⟨some 4, none,.asg (.c (.bool false))⟩] [0,1] []
def z200r1:IC:=.reg [⟨some 5, none,.mv (.t 0)⟩,⟨some 6, none,.len (.t 5)⟩,⟨some 7, none,.call zl38 [(.val,(.t 6)),(.val,(.c (vi 1))),(.val,(.c (vi 5)))] true⟩,⟨some 8, none,.asg (.t 7)⟩,⟨some 9, (some (8,true)),.mv (.t 1)⟩,⟨some 10, (some (8,true)),.len (.t 9)⟩,⟨some 11, (some (8,true)),.call zl38 [(.val,(.t 10)),(.val,(.c (vi 1))),(.val,(.c (vi 5)))] true⟩,⟨some 12, none,.pick (.t 8) (.t 11) (.c (.bool false))⟩,⟨some 13, none,.asg (.t 12)⟩,⟨some 14, (some (13,true)),.mv (.t 0)⟩,⟨some 15, (some (13,true)),.mv (.t 1)⟩,⟨some 16, (some (13,true)),.len (.t 15)⟩,⟨some 17, (some (13,true)),.call zl29 [(.rd,(.t 14)),(.val,(.c (vi 0))),(.val,(.t 16))] true⟩,⟨some 18, none,.pick (.t 13) (.t 17) (.c (.bool false))⟩,⟨some 19, none,.asg (.t 18)⟩,⟨some 20, (some (19,true)),.mv (.t 1)⟩,⟨some 21, (some (19,true)),.mv (.t 0)⟩,⟨some 22, (some (19,true)),.len (.t 21)⟩,
    ⟨some 23, (some (19,true)),.call zl29 [(.rd,(.t 20)),(.val,(.c (vi 0))),(.val,(.t 22))] true⟩,⟨some 24, none,.pick (.t 19) (.t 23) (.c (.bool false))⟩,⟨some 4, none,.asg (.t 24)⟩] [4] []
def zi200:IFun:=⟨[.t 4],[],(.seq z200r0 (.seq z200r1 .ret))⟩
def z29r0:IC:=.reg [⟨some 4, none,.box (.t 1)⟩,⟨some 5, none,.box (.t 2)⟩,⟨some 6, none,.asg (.c (.bool false))⟩] [0,4,5] []
def z29r1:IC:=.reg [⟨some 7, none,.mv (.t 0)⟩,⟨some 8, none,.mkfn zl30 [(.t 4),(.t 5)]⟩,⟨some 9, none,.call zl72 [(.rd,(.t 7)),(.val,(.t 8))] false⟩,⟨some 10, none,.unop .not (.t 9)⟩,⟨some 6, none,.asg (.t 10)⟩] [6] []
def zi29:IFun:=⟨[.t 6],[],(.seq z29r0 (.seq z29r1 .ret))⟩
def z30r0:IC:=.reg [⟨some 4, none,.asg (.c (.bool false))⟩] [0,1,2] []
def z30r1:IC:=.reg [⟨some 5, none,.mv (.t 0)⟩,⟨some 6, none,.load false 1 (.t 1)⟩,⟨some 7, none,.load false 1 (.t 2)⟩,⟨some 8, none,.call zl38 [(.val,(.t 5)),(.val,(.t 6)),(.val,(.t 7))] true⟩,⟨some 9, none,.unop .not (.t 8)⟩,⟨some 4, none,.asg (.t 9)⟩] [4] []
def zi30:IFun:=⟨[.t 4],[],(.seq z30r0 (.seq z30r1 .ret))⟩
def z31r0:IC:=.reg [⟨some 2, none,.asg (.c (.slice none 0 0))⟩] [0] []
def z31r1:IC:=.reg [⟨some 3, none,.mv (.t 0)⟩,⟨some 4, none,.call zl71 [(.rd,(.t 3))] true⟩,⟨some 5, none,.call zl70 [(.tk,(.t 4))] true⟩,⟨some 2, none,.asg (.t 5)⟩] [2] []
def zi31:IFun:=⟨[.t 2],[],(.seq z31r0 (.seq z31r1 .ret))⟩
def z37r0:IC:=.reg [⟨some 2, none,.asg (.c (.slice none 0 0))⟩] [0] []
def z37r1:IC:=.reg [⟨some 4, none,.mv (.t 0)⟩,⟨some 5, none,.call zl31 [(.rd,(.t 4))] true⟩,⟨some 3, none,.asg (.t 5)⟩] [3] []
def z37r2:IC:=.reg [⟨some 6, none,.mv (.t 3)⟩,⟨some 7, none,.call zl78 [(.ld,(.t 6))] false⟩] [3] []
def z37r3:IC:=.reg [⟨some 8, none,.mv (.t 3)⟩,⟨some 9, none,.call zl76 [(.ld,(.t 8))] false⟩] [3] []
def z37r4:IC:=.reg [⟨some 10, none,.mv (.t 3)⟩,⟨some 2, none,.asgm (.t 10)⟩] [2,3] []
def zi37:IFun:=⟨[.t 2],[],(.seq z37r0 (.seq z37r1 (.seq z37r2 (.seq z37r3 (.seq z37r4 .ret)))))⟩
def z210r0:IC:=.reg [⟨some 3, none,.box (.t 0)⟩,⟨some 6, none,.asg (.c (.slice none 0 0))⟩] [1,2,3] []
def z210r1:IC:=.reg [⟨some 8, none,.mv (.t 1)⟩,⟨some 9, none,.call zl31 [(.rd,(.t 8))] true⟩,⟨some 7, none,.asg (.t 9)⟩] [2,3,7] []
def z210r2:IC:=.reg [⟨some 10, none,.mv (.t 7)⟩,⟨some 11, none,.mkfn zl211 [(.t 3)]⟩,⟨some 12, none,.call zl273 [(.ld,(.t 10)),(.val,(.t 11))] false⟩] [2,7] []
def z210r3:IC:=.reg [⟨some 13, none,.mv (.t 7)⟩,⟨some 14, none,.mv (.t 2)⟩,⟨some 15, none,.slc 1 (.t 13) none (some (.t 14)) none⟩,⟨some 6, none,.asgm (.t 15)⟩] [6,7] []
def zi210:IFun:=⟨[.t 6],[],(.seq z210r0 (.seq z210r1 (.seq z210r2 (.seq z210r3 .ret))))⟩
def z211r0:IC:=.reg [⟨some 5, none,.asg (.c (vi 0))⟩] [0,1,2] []
def z211r1:IC:=.reg [⟨some 6, none,.load false 1 (.t 2)⟩,⟨some 7, none,.mv (.t 1)⟩,⟨some 8, none,.iadr 1 (.t 6) (.t 7)⟩,⟨some 9, none,.load false 1 (.t 8)⟩,⟨some 10, none,.load false 1 (.t 2)⟩,⟨some 11, none,.mv (.t 0)⟩,⟨some 12, none,.iadr 1 (.t 10) (.t 11)⟩,⟨some 13, none,.load false 1 (.t 12)⟩,⟨some 14, none,.bin .sub (.t 9) (.t 13)⟩,⟨some 5, none,.asg (.t 14)⟩] [5] []
def zi211:IFun:=⟨[.t 5],[],(.seq z211r0 (.seq z211r1 .ret))⟩
def z38r0:IC:=.reg [⟨some 6, none,.asg (.c (.bool false))⟩] [0,1,2] []
def z38r1:IC:=.reg [⟨some 7, none,.mv (.t 0)⟩,⟨some 8, none,.mv (.t 1)⟩,⟨some 9, none,.bin .geq (.t 7) (.t 8)⟩,⟨some 10, none,.asg (.t 9)⟩,⟨some 11, (some (10,true)),.mv (.t 0)⟩,⟨some 12, (some (10,true)),.mv (.t 2)⟩,⟨some 13, (some (10,true)),.bin .leq (.t 11) (.t 12)⟩,⟨some 14, none,.pick (.t 10) (.t 13) (.c (.bool false))⟩,⟨some 6, none,.asg (.t 14)⟩] [6] []
def zi38:IFun:=⟨[.t 6],[],(.seq z38r0 (.seq z38r1 .ret))⟩
def z212r0:IC:=.reg [⟨some 4, none,.asg (.c (.slice none 0 0))⟩] [0,1] []
def z212r1:IC:=.reg [⟨some 5, none,.asg (.c (.slice none 0 0))⟩] [0,1,5] []
def z212r2:IC:=.reg [⟨some 7, none,.mv (.t 0)⟩,⟨some 8, none,.mv (.c (vi 0))⟩] [1,5,7,8] []
def z212r3:IC:=.reg [⟨some 9, none,.bin .lss (.t 8) (.t 7)⟩] [1,5,7,8,9] []
def z212r4:IC:=.reg [⟨some 10, none,.asg (.t 8)⟩,⟨some 6, none,.asg (.t 10)⟩] [1,5,6,7,8] []
def z212r5:IC:=.reg [⟨some 11, none,.mv (.t 6)⟩,⟨some 12, none,.mv (.t 1)⟩,⟨some 13, none,.bin .neq (.t 11) (.t 12)⟩] [1,5,6,7,8,13] []
def z212r6:IC:=.reg [⟨some 14, none,.mv (.t 5)⟩,⟨some 15, none,.mv (.t 6)⟩,⟨some 16, none,.bsl 1 [(vi 0)] 1 [(0,(.t 15))]⟩,⟨some 17, none,.app 1 (.t 14) (.t 16)⟩,⟨some 5, none,.asg (.t 17)⟩] [1,5,7,8] []
def z212r7:IC:=.reg [⟨some 18, none,.bin .add (.t 8) (.c (vi 1))⟩,⟨some 8, none,.asg (.t 18)⟩] [1,5,7,8] []
def z212l8:IC:=(.seq z212r3 (.seq (.cond (.t 9) .skip (.exit 0)) (.seq (.block 1 (.seq z212r4 (.seq z212r5 (.cond (.t 13) z212r6 .skip)))) z212r7)))
def z212r9:IC:=.reg [⟨some 19, none,.mv (.t 5)⟩,⟨some 4, none,.asgm (.t 19)⟩] [4,5] []
def zi212:IFun:=⟨[.t 4],[],(.seq z212r0 (.seq z212r1 (.seq (.seq z212r2 (.block 0 (.loop z212l8))) (.seq z212r9 .ret))))⟩
def z40r0:IC:=.reg [⟨some 2, none,.asg (.c (vi 0))⟩] [0] []
def z40r1:IC:=.reg [⟨some 3, none,.asg (.c (vi 0))⟩] [0,3] []
def z40r2:IC:=.reg [⟨some 6, none,.mv (.t 0)⟩,⟨some 7, none,.len (.t 6)⟩,⟨some 8, none,.mv (.c (vi 0))⟩] [0,3,6,7,8] []
def z40r3:IC:=.reg [⟨some 9, none,.bin .lss (.t 8) (.t 7)⟩] [0,3,6,7,8,9] []
def z40r4:IC:=.reg [⟨some 10, none,.iadr 1 (.t 6) (.t 8)⟩,⟨some 11, none,.load false 1 (.t 10)⟩,⟨some 5, none,.asg (.t 11)⟩] [0,3,5,6,7,8] []
def z40r5:IC:=.reg [⟨some 12, none,.mv (.t 3)⟩,⟨some 13, none,.mv (.t 5)⟩,⟨some 14, none,.bin .add (.t 12) (.t 13)⟩,⟨some 3, none,.asg (.t 14)⟩] [0,3,6,7,8] []
def z40r6:IC:=.reg [⟨some 15, none,.bin .add (.t 8) (.c (vi 1))⟩,⟨some 8, none,.asg (.t 15)⟩] [0,3,6,7,8] []
def z40l7:IC:=(.seq z40r3 (.seq (.cond (.t 9) .skip (.exit 0)) (.seq (.block 1 (.seq z40r4 z40r5)) z40r6)))
def z40r8:IC:=.reg [⟨some 16, none,.mv (.t 3)⟩,⟨some 2, none,.asgm (.t 16)⟩] [2] []
def zi40:IFun:=⟨[.t 2],[],(.seq z40r0 (.seq z40r1 (.seq (.seq z40r2 (.block 0 (.loop z40l7))) (.seq z40r8 .ret))))⟩
def z41r0:IC:=.reg [⟨some 6, none,.asg (.c (.slice none 0 0))⟩] [0,1,2] []
def z41r1:IC:=.reg [⟨some 10, none,.mv (.t 0)⟩,⟨some 11, none,.mksl 1 [(.slice none 0 0)] (.t 10) (.t 10)⟩,⟨some 7, none,.asg (.t 11)⟩] [1,2,7] []
def z41r2:IC:=.reg [⟨some 12, none,.mv (.t 7)⟩,⟨some 13, none,.len (.t 12)⟩,⟨some 14, none,.mv (.c (vi 0))⟩] [1,2,7,13,14] []
def z41r3:IC:=.reg [⟨some 15, none,.bin .lss (.t 14) (.t 13)⟩] [1,2,7,13,14,15] []
def z41r4:IC:=.reg [⟨some 16, none,.asg (.t 14)⟩,⟨some 8, none,.asg (.t 16)⟩] [1,2,7,8,13,14] []
def z41r5:IC:=.reg [⟨some 17, none,.mv (.t 7)⟩,⟨some 18, none,.mv (.t 8)⟩,⟨some 19, none,.mv (.t 1)⟩,⟨some 20, none,.mksl 1 [(vi 0)] (.t 19) (.t 19)⟩,⟨some 21, none,.iadr 1 (.t 17) (.t 18)⟩,⟨none,none,.store 1 (.t 21) (.t 20)⟩] [1,2,7,8,13,14] []
def z41r6:IC:=.reg [⟨some 22, none,.mv (.t 7)⟩,⟨some 23, none,.mv (.t 8)⟩,⟨some 24, none,.iadr 1 (.t 22) (.t 23)⟩,⟨some 25, none,.load false 1 (.t 24)⟩,⟨some 26, none,.len (.t 25)⟩,⟨some 27, none,.mv (.c (vi 0))⟩] [1,2,7,8,13,14,26,27] []
def z41r7:IC:=.reg [⟨some 28, none,.bin .lss (.t 27) (.t 26)⟩] [1,2,7,8,13,14,26,27,28] []
def z41r8:IC:=.reg [⟨some 29, none,.asg (.t 27)⟩,⟨some 9, none,.asg (.t 29)⟩] [1,2,7,8,9,13,14,26,27] []
def z41r9:IC:=.reg [⟨some 30, none,.mv (.t 7)⟩,⟨some 31, none,.mv (.t 8)⟩,⟨some 32, none,.iadr 1 (.t 30) (.t 31)⟩,⟨some 33, none,.load false 1 (.t 32)⟩,⟨some 34, none,.mv (.t 9)⟩,⟨some 35, none,.mv (.t 2)⟩,⟨some 36, none,.mv (.t 8)⟩,⟨some 37, none,.mv (.t 9)⟩,⟨some 38, none,.callv (.t 35) [(.val,(.t 36)),(.val,(.t 37))]⟩,⟨some 39, none,.iadr 1 (.t 33) (.t 34)⟩,⟨none,none,.store 1 (.t 39) (.t 38)⟩] [1,2,7,8,13,14,26,27] [[0,1,2,4,5,6,7,8,3,9,10]]
def z41r10:IC:=.reg [⟨some 40, none,.bin .add (.t 27) (.c (vi 1))⟩,⟨some 27, none,.asg (.t 40)⟩] [1,2,7,8,13,14,26,27] []
def z41l11:IC:=(.seq z41r7 (.seq (.cond (.t 28) .skip (.exit 2)) (.seq (.block 3 (.seq z41r8 z41r9)) z41r10)))
def z41r12:IC:=.reg [⟨some 41, none,.bin .add (.t 14) (.c (vi 1))⟩,⟨some 14, none,.asg (.t 41)⟩] [1,2,7,13,14] []
def z41l13:IC:=(.seq z41r3 (.seq (.cond (.t 15) .skip (.exit 0)) (.seq (.block 1 (.seq z41r4 (.seq z41r5 (.seq z41r6 (.block 2 (.loop z41l11)))))) z41r12)))
def z41r14:IC:=.reg [⟨some 42, none,.mv (.t 7)⟩,⟨some 6, none,.asgm (.t 42)⟩] [6,7] []
def zi41:IFun:=⟨[.t 6],[],(.seq z41r0 (.seq z41r1 (.seq (.seq z41r2 (.block 0 (.loop z41l13))) (.seq z41r14 .ret))))⟩
def z532r0:IC:=.reg [⟨some 2, none,.asg (.c (.bool false))⟩] [0] []
def z532r1:IC:=.reg [⟨some 8, none,.mv (.t 0)⟩,⟨some 9, none,.len (.t 8)⟩,⟨some 10, none,.bin .gtr (.t 9) (.c (vi 1048576))⟩] [0,10] []
def z532r2:IC:=.reg [⟨some 2, none,.asg (.c (.bool true))⟩] [2] []
def z532r3:IC:=.reg [⟨some 12, none,.mv (.t 0)⟩,⟨some 13, none,.call zl304 [(.rd,(.t 12))] true⟩,⟨some 11, none,.asg (.t 13)⟩,⟨some 14, none,.extr (.t 11) 0⟩,⟨some 15, none,.extr (.t 11) 1⟩,⟨some 3, none,.asg (.t 14)⟩,⟨some 4, none,.asg (.t 15)⟩] [3,4] []
def z532r4:IC:=.reg [⟨some 16, none,.mv (.t 3)⟩,⟨some 17, none,.mv (.t 4)⟩,⟨some 18, none,.call zl176 [(.rd,(.t 16)),(.rd,(.t 17))] true⟩,⟨some 5, none,.asg (.t 18)⟩] [3,4,5] []
def z532r5:IC:=.reg [⟨some 19, none,.mv (.t 5)⟩,⟨some 20, none,.mv (.t 3)⟩,⟨some 21, none,.mv (.t 4)⟩,⟨some 22, none,.call zl315 [(.rd,(.t 20)),(.rd,(.t 21))] true⟩,⟨some 23, none,.eqb true (.t 19) (.t 22)⟩,⟨some 24, none,.asg (.t 23)⟩,⟨some 25, (some (24,false)),.mv (.t 3)⟩,⟨some 26, (some (24,false)),.mv (.t 4)⟩,⟨some 27, (some (24,false)),.call zl200 [(.rd,(.t 25)),(.rd,(.t 26))] true⟩,⟨some 28, (some (24,false)),.unop .not (.t 27)⟩,⟨some 29, none,.pick (.t 24) (.c (.bool true)) (.t 28)⟩] [3,4,5,29] []
def z532r6:IC:=.reg [⟨some 30, none,.mv (.t 5)⟩,⟨some 31, none,.mv (.t 3)⟩,⟨some 32, none,.mv (.t 4)⟩,⟨some 33, none,.call zl315 [(.rd,(.t 31)),(.rd,(.t 32))] true⟩,⟨some 34, none,.eqb false (.t 30) (.t 33)⟩,⟨some 2, none,.asg (.t 34)⟩] [2] []
def z532r7:IC:=.reg [⟨some 36, none,.mv (.t 3)⟩,⟨some 37, none,.mv (.t 4)⟩,⟨some 38, none,.call zl504 [(.rd,(.t 36)),(.rd,(.t 37))] true⟩,⟨some 35, none,.asg (.t 38)⟩,⟨some 39, none,.extr (.t 35) 0⟩,⟨some 40, none,.extr (.t 35) 1⟩,⟨some 6, none,.asg (.t 39)⟩,⟨some 7, none,.asg (.t 40)⟩] [3,4,5,7] []
def z532r8:IC:=.reg [⟨some 41, none,.mv (.t 5)⟩,⟨some 42, none,.mv (.t 7)⟩,⟨some 43, none,.eqb false (.t 41) (.t 42)⟩,⟨some 44, none,.asg (.t 43)⟩,⟨some 45, (some (44,true)),.mv (.t 4)⟩,⟨some 46, (some (44,true)),.mv (.t 3)⟩,⟨some 47, (some (44,true)),.call zl176 [(.rd,(.t 45)),(.rd,(.t 46))] true⟩,⟨some 48, (some (44,true)),.mv (.t 5)⟩,⟨some 49, (some (44,true)),.eqb false (.t 47) (.t 48)⟩,⟨some 50, none,.pick (.t 44) (.t 49) (.c (.bool false))⟩,⟨some 2, none,.asg (.t 50)⟩] [2] []
def zi532:IFun:=⟨[.t 2],[],(.seq z532r0 (.seq (.seq z532r1 (.cond (.t 10) (.seq z532r2 .ret) .skip)) (.seq z532r3 (.seq z532r4 (.seq (.seq z532r5 (.cond (.t 29) (.seq z532r6 .ret) .skip)) (.seq z532r7 (.seq z532r8 .ret)))))))⟩
def z66r0:IC:=.reg [⟨some 2, none,.asg (.c (vi 0))⟩] [0] []
def z66r1:IC:=.reg [⟨some 3, none,.mv (.t 0)⟩,⟨some 4, none,.conv .u32 (.t 3)⟩,⟨some 5, none,.call zl67 [(.val,(.t 4))] true⟩,⟨some 2, none,.asg (.t 5)⟩] [2] []
def z66r2:IC:=.reg [⟨some 6, none,.mv (.t 0)⟩,⟨some 7, none,.call zl68 [(.val,(.t 6))] true⟩,⟨some 2, none,.asg (.t 7)⟩] [2] []
def zi66:IFun:=⟨[.t 2],[],(.seq z66r0 (.seq (.cond (.c (.bool false)) (.seq z66r1 .ret) .skip) (.seq z66r2 .ret)))⟩
def z68r0:IC:=.reg [⟨some 2, none,.asg (.c (vi 0))⟩] [0,2] []
def z68r1:IC:=.reg [⟨some 3, none,.mv (.t 0)⟩,⟨some 4, none,.bin .geq (.t 3) (.c (.int .u64 (4294967296)))⟩] [0,2,4] []
def z68r2:IC:=.reg [⟨some 5, none,.mv (.t 0)⟩,⟨some 6, none,.bin .shr (.t 5) (.c (.int .u64 (32)))⟩,⟨some 0, none,.asg (.t 6)⟩] [0] []
def z68r3:IC:=.reg [⟨some 2, none,.asg (.c (vi 32))⟩] [0,2] []
def z68r4:IC:=.reg [⟨some 7, none,.mv (.t 0)⟩,⟨some 8, none,.bin .geq (.t 7) (.c (.int .u64 (65536)))⟩] [0,2,8] []
def z68r5:IC:=.reg [⟨some 9, none,.mv (.t 0)⟩,⟨some 10, none,.bin .shr (.t 9) (.c (.int .u64 (16)))⟩,⟨some 0, none,.asg (.t 10)⟩] [0,2] []
def z68r6:IC:=.reg [⟨some 11, none,.mv (.t 2)⟩,⟨some 12, none,.bin .add (.t 11) (.c (vi 16))⟩,⟨some 2, none,.asg (.t 12)⟩] [0,2] []
def z68r7:IC:=.reg [⟨some 13, none,.mv (.t 0)⟩,⟨some 14, none,.bin .geq (.t 13) (.c (.int .u64 (256)))⟩] [0,2,14] []
def z68r8:IC:=.reg [⟨some 15, none,.mv (.t 0)⟩,⟨some 16, none,.bin .shr (.t 15) (.c (.int .u64 (8)))⟩,⟨some 0, none,.asg (.t 16)⟩] [0,2] []
def z68r9:IC:=.reg [⟨some 17, none,.mv (.t 2)⟩,⟨some 18, none,.bin .add (.t 17) (.c (vi 8))⟩,⟨some 2, none,.asg (.t 18)⟩] [0,2] []
def z68r10:IC:=.reg [⟨some 19, none,.mv (.t 2)⟩,⟨some 20, none,.mv (.t 0)⟩,⟨some 21, none,.conv .u8 (.t 20)⟩,⟨some 22, none,.idxs (.c (.string ⟨#[0,1,2,2,3,3,3,3,4,4,4,4,4,4,4,4,5,5,5,5,5,5,5,5,5,5,5,5,5,5,5,5,6,6,6,6,6,6,6,6,6,6,6,6,6,6,6,6,6,6,6,6,6,6,6,6,6,6,6,6,6,6,6,6,7,7,7,7,7,7,7,7,7,7,7,7,7,7,7,7,7,7,7,7,7,7,7,7,7,7,7,7,7,7,7,7,7,7,7,7,7,7,7,7,7,7,7,7,7,7,7,7,7,7,7,7,7,7,7,7,7,7,7,7,7,7,7,7,8,8,8,8,8,8,8,8,8,8,8,8,8,8,8,8,8,8,8,8,8,8,8,8,8,8,8,8,8,8,8,8,8,8,8,8,8,8,8,8,8,8,8,8,8,8,8,8,8,8,8,8,8,8,8,8,8,8,8,8,8,8,8,8,8,8,8,8,8,8,8,8,8,8,8,8,8,8,8,8,8,8,8,8,8,8,8,8,8,8,8,8,8,8,8,8,8,8,8,8,8,8,8,8,8,8,8,8,8,8,8,8,8,8,8,8,8,8,8,8,8,8,8,8,8,8,8,8]⟩)) (.t 21)⟩,⟨some 23, none,.conv .i64 (.t 22)⟩,⟨some 24, none,.bin .add (.t 19) (.t 23)⟩,⟨some 2, none,.asg (.t 24)⟩] [2] []
def zi68:IFun:=⟨[.t 2],[],(.seq z68r0 (.seq (.seq z68r1 (.cond (.t 4) (.seq z68r2 z68r3) .skip)) (.seq (.seq z68r4 (.cond (.t 8) (.seq z68r5 z68r6) .skip)) (.seq (.seq z68r7 (.cond (.t 14) (.seq z68r8 z68r9) .skip)) (.seq z68r10 .ret)))))⟩
def z70r0:IC:=.reg [⟨some 2, none,.asg (.c (.slice none 0 0))⟩] [0] []
def z70r1:IC:=.reg [⟨some 3, none,.mv (.t 0)⟩,⟨some 4, none,.mv (.t 0)⟩,⟨some 5, none,.len (.t 4)⟩,⟨some 6, none,.mv (.t 0)⟩,⟨some 7, none,.len (.t 6)⟩,⟨some 8, none,.slc 1 (.t 3) none (some (.t 5)) (some (.t 7))⟩,⟨some 2, none,.asgm (.t 8)⟩] [0,2] []
def zi70:IFun:=⟨[.t 2],[],(.seq z70r0 (.seq z70r1 .ret))⟩
def z71r0:IC:=.reg [⟨some 2, none,.nilo 1⟩] [0] []
def z71r1:List IOp:=[⟨some 3, none,.mv (.t 0)⟩]
def z71r2:IC:=.reg [⟨some 2, none,.nilo 1⟩] [2] []
def z71r3:IC:=.reg [⟨some 5, none,.bsl 1 [(vi 0)] 0 []⟩,⟨some 6, none,.mv (.t 0)⟩,⟨some 7, none,.app 1 (.t 5) (.t 6)⟩,⟨some 2, none,.asg (.t 7)⟩] [2] []
def zi71:IFun:=⟨[.t 2],[],(.seq z71r0 (.nilc2 z71r1 (.t 3) 4 [0,4] (.cond (.t 4) (.seq z71r2 .ret) .skip) (.seq z71r3 .ret)))⟩
def z72r0:IC:=.reg [⟨some 4, none,.asg (.c (.bool false))⟩] [0,1] []
def z72r1:IC:=.reg [⟨some 5, none,.mv (.t 0)⟩,⟨some 6, none,.mv (.t 1)⟩,⟨some 7, none,.call zl73 [(.rd,(.t 5)),(.val,(.t 6))] false⟩,⟨some 8, none,.bin .geq (.t 7) (.c (vi 0))⟩,⟨some 4, none,.asg (.t 8)⟩] [4] []
def zi72:IFun:=⟨[.t 4],[],(.seq z72r0 (.seq z72r1 .ret))⟩
def z73r0:IC:=.reg [⟨some 4, none,.asg (.c (vi 0))⟩] [0,1] []
def z73r1:IC:=.reg [⟨some 6, none,.mv (.t 0)⟩,⟨some 7, none,.len (.t 6)⟩,⟨some 8, none,.mv (.c (vi 0))⟩] [0,1,7,8] []
def z73r2:IC:=.reg [⟨some 9, none,.bin .lss (.t 8) (.t 7)⟩] [0,1,7,8,9] []
def z73r3:IC:=.reg [⟨some 10, none,.asg (.t 8)⟩,⟨some 5, none,.asg (.t 10)⟩] [0,1,5,7,8] []
def z73r4:IC:=.reg [⟨some 11, none,.mv (.t 1)⟩,⟨some 12, none,.mv (.t 0)⟩,⟨some 13, none,.mv (.t 5)⟩,⟨some 14, none,.iadr 1 (.t 12) (.t 13)⟩,⟨some 15, none,.load false 1 (.t 14)⟩,⟨some 16, none,.callv (.t 11) [(.val,(.t 15))]⟩] [0,1,5,7,8,16] []
def z73r5:IC:=.reg [⟨some 17, none,.mv (.t 5)⟩,⟨some 4, none,.asgm (.t 17)⟩] [4] []
def z73r6:IC:=.reg [⟨some 18, none,.bin .add (.t 8) (.c (vi 1))⟩,⟨some 8, none,.asg (.t 18)⟩] [0,1,7,8] []
def z73l7:IC:=(.seq z73r2 (.seq (.cond (.t 9) .skip (.exit 0)) (.seq (.block 1 (.seq z73r3 (.seq z73r4 (.cond (.t 16) (.seq z73r5 .ret) .skip)))) z73r6)))
def z73r8:IC:=.reg [⟨some 4, none,.asg (.c (vi (-1)))⟩] [4] []
def zi73:IFun:=⟨[.t 4],[],(.seq z73r0 (.seq (.seq z73r1 (.block 0 (.loop z73l7))) (.seq z73r8 .ret)))⟩
def z75r0:IC:=.reg [⟨some 2, none,.asg (.c (vi 0))⟩] [0] []
def z75r1:IC:=.reg [⟨some 5, none,.mv (.t 0)⟩,⟨some 6, none,.len (.t 5)⟩,⟨some 7, none,.bin .lss (.t 6) (.c (vi 1))⟩] [0,7] []
def z75r2:IC:=.reg [⟨some 8, none,.halt⟩,⟨none,none,.halt⟩] [0] []
def z75r3:IC:=.reg [⟨some 9, none,.mv (.t 0)⟩,⟨some 10, none,.iadr 1 (.t 9) (.c (vi 0))⟩,⟨some 11, none,.load false 1 (.t 10)⟩,⟨some 3, none,.asg (.t 11)⟩] [0,3] []
def z75r4:IC:=.reg [⟨some 4, none,.asg (.c (vi 1))⟩] [0,3,4] []
def z75r5:IC:=.reg [⟨some 12, none,.mv (.t 4)⟩,⟨some 13, none,.mv (.t 0)⟩,⟨some 14, none,.len (.t 13)⟩,⟨some 15, none,.bin .lss (.t 12) (.t 14)⟩] [0,3,4,15] []
def z75r6:IC:=.reg [⟨some 18, none,.mv (.t 3)⟩,⟨some 19, none,.mv (.t 0)⟩,⟨some 20, none,.mv (.t 4)⟩,⟨some 21, none,.iadr 1 (.t 19) (.t 20)⟩,⟨some 22, none,.load false 1 (.t 21)⟩,⟨some 23, none,.minmax true (.t 18) (.t 22)⟩,⟨some 3, none,.asg (.t 23)⟩] [0,3,4] []
def z75r7:IC:=.reg [⟨some 16, none,.mv (.t 4)⟩,⟨some 17, none,.bin .add (.t 16) (.c (vi 1))⟩,⟨some 4, none,.asg (.t 17)⟩] [0,3,4] []
def z75l8:IC:=(.seq (.seq z75r5 (.cond (.t 15) .skip (.exit 0))) (.seq (.block 1 z75r6) z75r7))
def z75r9:IC:=.reg [⟨some 24, none,.mv (.t 3)⟩,⟨some 2, none,.asgm (.t 24)⟩] [2] []
def zi75:IFun:=⟨[.t 2],[],(.seq z75r0 (.seq (.seq z75r1 (.cond (.t 7) z75r2 .skip)) (.seq z75r3 (.seq (.seq z75r4 (.block 0 (.loop z75l8))) (.seq z75r9 .ret)))))⟩
def z76r0:IC:=.reg [⟨some 4, none,.mv (.t 0)⟩,⟨some 5, none,.len (.t 4)⟩,⟨some 6, none,.bin .sub (.t 5) (.c (vi 1))⟩,⟨some 2, none,.asg (.c (vi 0))⟩,⟨some 3, none,.asg (.t 6)⟩] [0,2,3] []
def z76r1:IC:=.reg [⟨some 7, none,.mv (.t 2)⟩,⟨some 8, none,.mv (.t 3)⟩,⟨some 9, none,.bin .lss (.t 7) (.t 8)⟩] [0,2,3,9] []
def z76r2:IC:=.reg [⟨some 14, none,.mv (.t 0)⟩,⟨some 15, none,.mv (.t 2)⟩,⟨some 16, none,.mv (.t 0)⟩,⟨some 17, none,.mv (.t 3)⟩,⟨some 18, none,.mv (.t 0)⟩,⟨some 19, none,.mv (.t 3)⟩,⟨some 20, none,.iadr 1 (.t 18) (.t 19)⟩,⟨some 21, none,.load false 1 (.t 20)⟩,⟨some 22, none,.mv (.t 0)⟩,⟨some 23, none,.mv (.t 2)⟩,⟨some 24, none,.iadr 1 (.t 22) (.t 23)⟩,⟨some 25, none,.load false 1 (.t 24)⟩,⟨some 26, none,.iadr 1 (.t 14) (.t 15)⟩,⟨none,none,.store 1 (.t 26) (.t 21)⟩,⟨some 27, none,.iadr 1 (.t 16) (.t 17)⟩,⟨none,none,.store 1 (.t 27) (.t 25)⟩] [0,2,3] []
def z76r3:IC:=.reg [⟨some 10, none,.mv (.t 2)⟩,⟨some 11, none,.bin .add (.t 10) (.c (vi 1))⟩,⟨some 12, none,.mv (.t 3)⟩,⟨some 13, none,.bin .sub (.t 12) (.c (vi 1))⟩,⟨some 2, none,.asg (.t 11)⟩,⟨some 3, none,.asg (.t 13)⟩] [0,2,3] []
def z76l4:IC:=(.seq (.seq z76r1 (.cond (.t 9) .skip (.exit 0))) (.seq (.block 1 z76r2) z76r3))
def zi76:IFun:=⟨[],[0],(.seq z76r0 (.block 0 (.loop z76l4)))⟩
def z273r0:IC:=.reg [⟨some 4, none,.mv (.t 0)⟩,⟨some 5, none,.mv (.t 0)⟩,⟨some 6, none,.len (.t 5)⟩,⟨some 7, none,.mv (.t 1)⟩,⟨some 8, none,.call zl289 [(.ld,(.t 4)),(.val,(.t 6)),(.val,(.t 7))] false⟩] [0] []
def zi273:IFun:=⟨[],[0],z273r0⟩
def z78r0:IC:=.reg [⟨some 3, none,.mv (.t 0)⟩,⟨some 4, none,.len (.t 3)⟩,⟨some 2, none,.asg (.t 4)⟩] [0,2] []
def z78r1:IC:=.reg [⟨some 5, none,.mv (.t 0)⟩,⟨some 6, none,.mv (.t 2)⟩,⟨some 7, none,.mv (.t 2)⟩,⟨some 8, none,.conv .u64 (.t 7)⟩,⟨some 9, none,.call zl66 [(.val,(.t 8))] true⟩,⟨some 10, none,.call zl101 [(.ld,(.t 5)),(.val,(.c (vi 0))),(.val,(.t 6)),(.val,(.t 9))] false⟩] [0] []
def zi78:IFun:=⟨[],[0],(.seq z78r0 z78r1)⟩
def z278r0:IC:=.reg [⟨some 10, none,.mv (.t 1)⟩,⟨some 11, none,.bin .add (.t 10) (.c (vi 1))⟩,⟨some 8, none,.asg (.t 11)⟩] [0,1,2,3,8] []
def z278r1:IC:=.reg [⟨some 12, none,.mv (.t 8)⟩,⟨some 13, none,.mv (.t 2)⟩,⟨some 14, none,.bin .lss (.t 12) (.t 13)⟩] [0,1,2,3,8,14] []
def z278r2:IC:=.reg [⟨some 17, none,.mv (.t 8)⟩,⟨some 9, none,.asg (.t 17)⟩] [0,1,2,3,8,9] []
def z278r3:IC:=.reg [⟨some 18, none,.mv (.t 9)⟩,⟨some 19, none,.mv (.t 1)⟩,⟨some 20, none,.bin .gtr (.t 18) (.t 19)⟩,⟨some 21, none,.asg (.t 20)⟩,⟨some 22, (some (21,true)),.mv (.t 3)⟩,⟨some 23, (some (21,true)),.mv (.t 0)⟩,⟨some 24, (some (21,true)),.mv (.t 9)⟩,⟨some 25, (some (21,true)),.iadr 1 (.t 23) (.t 24)⟩,⟨some 26, (some (21,true)),.load false 1 (.t 25)⟩,⟨some 27, (some (21,true)),.mv (.t 0)⟩,⟨some 28, (some (21,true)),.mv (.t 9)⟩,⟨some 29, (some (21,true)),.bin .sub (.t 28) (.c (vi 1))⟩,⟨some 30, (some (21,true)),.iadr 1 (.t 27) (.t 29)⟩,⟨some 31, (some (21,true)),.load false 1 (.t 30)⟩,⟨some 32, (some (21,true)),.callv (.t 22) [(.val,(.t 26)),(.val,(.t 31))]⟩,⟨some 33, (some (21,true)),.bin .lss (.t 32) (.c (vi 0))⟩,⟨some 34, none,.pick (.t 21) (.t 33) (.c (.bool false))⟩] [0,1,2,3,8,9,34] []
def z278r4:IC:=.reg [⟨some 37, none,.mv (.t 0)⟩,⟨some 38, none,.mv (.t 9)⟩,⟨some 39, none,.mv (.t 0)⟩,⟨some 40, none,.mv (.t 9)⟩,⟨some 41, none,.bin .sub (.t 40) (.c (vi 1))⟩,⟨some 42, none,.mv (.t 0)⟩,⟨some 43, none,.mv (.t 9)⟩,⟨some 44, none,.bin .sub (.t 43) (.c (vi 1))⟩,⟨some 45, none,.iadr 1 (.t 42) (.t 44)⟩,⟨some 46, none,.load false 1 (.t 45)⟩,⟨some 47, none,.mv (.t 0)⟩,⟨some 48, none,.mv (.t 9)⟩,⟨some 49, none,.iadr 1 (.t 47) (.t 48)⟩,⟨some 50, none,.load false 1 (.t 49)⟩,⟨some 51, none,.iadr 1 (.t 37) (.t 38)⟩,⟨none,none,.store 1 (.t 51) (.t 46)⟩,⟨some 52, none,.iadr 1 (.t 39) (.t 41)⟩,⟨none,none,.store 1 (.t 52) (.t 50)⟩] [0,1,2,3,8,9] []
def z278r5:IC:=.reg [⟨some 35, none,.mv (.t 9)⟩,⟨some 36, none,.bin .sub (.t 35) (.c (vi 1))⟩,⟨some 9, none,.asg (.t 36)⟩] [0,1,2,3,8,9] []
def z278l6:IC:=(.seq (.seq z278r3 (.cond (.t 34) .skip (.exit 2))) (.seq (.block 3 z278r4) z278r5))
def z278r7:IC:=.reg [⟨some 15, none,.mv (.t 8)⟩,⟨some 16, none,.bin .add (.t 15) (.c (vi 1))⟩,⟨some 8, none,.asg (.t 16)⟩] [0,1,2,3,8] []
def z278l8:IC:=(.seq (.seq z278r1 (.cond (.t 14) .skip (.exit 0))) (.seq (.block 1 (.seq z278r2 (.block 2 (.loop z278l6)))) z278r7))
def zi278:IFun:=⟨[],[0],(.seq z278r0 (.block 0 (.loop z278l8)))⟩
def z86r0:IC:=.reg [⟨some 8, none,.mv (.t 1)⟩,⟨some 9, none,.bin .add (.t 8) (.c (vi 1))⟩,⟨some 6, none,.asg (.t 9)⟩] [0,1,2,6] []
def z86r1:IC:=.reg [⟨some 10, none,.mv (.t 6)⟩,⟨some 11, none,.mv (.t 2)⟩,⟨some 12, none,.bin .lss (.t 10) (.t 11)⟩] [0,1,2,6,12] []
def z86r2:IC:=.reg [⟨some 15, none,.mv (.t 6)⟩,⟨some 7, none,.asg (.t 15)⟩] [0,1,2,6,7] []
def z86r3:IC:=.reg [⟨some 16, none,.mv (.t 7)⟩,⟨some 17, none,.mv (.t 1)⟩,⟨some 18, none,.bin .gtr (.t 16) (.t 17)⟩,⟨some 19, none,.asg (.t 18)⟩,⟨some 20, (some (19,true)),.mv (.t 0)⟩,⟨some 21, (some (19,true)),.mv (.t 7)⟩,⟨some 22, (some (19,true)),.iadr 1 (.t 20) (.t 21)⟩,⟨some 23, (some (19,true)),.load false 1 (.t 22)⟩,⟨some 24, (some (19,true)),.mv (.t 0)⟩,⟨some 25, (some (19,true)),.mv (.t 7)⟩,⟨some 26, (some (19,true)),.bin .sub (.t 25) (.c (vi 1))⟩,⟨some 27, (some (19,true)),.iadr 1 (.t 24) (.t 26)⟩,⟨some 28, (some (19,true)),.load false 1 (.t 27)⟩,⟨some 29, (some (19,true)),.call zl2 [(.val,(.t 23)),(.val,(.t 28))] true⟩,⟨some 30, none,.pick (.t 19) (.t 29) (.c (.bool false))⟩] [0,1,2,6,7,30] []
def z86r4:IC:=.reg [⟨some 33, none,.mv (.t 0)⟩,⟨some 34, none,.mv (.t 7)⟩,⟨some 35, none,.mv (.t 0)⟩,⟨some 36, none,.mv (.t 7)⟩,⟨some 37, none,.bin .sub (.t 36) (.c (vi 1))⟩,⟨some 38, none,.mv (.t 0)⟩,⟨some 39, none,.mv (.t 7)⟩,⟨some 40, none,.bin .sub (.t 39) (.c (vi 1))⟩,⟨some 41, none,.iadr 1 (.t 38) (.t 40)⟩,⟨some 42, none,.load false 1 (.t 41)⟩,⟨some 43, none,.mv (.t 0)⟩,⟨some 44, none,.mv (.t 7)⟩,⟨some 45, none,.iadr 1 (.t 43) (.t 44)⟩,⟨some 46, none,.load false 1 (.t 45)⟩,⟨some 47, none,.iadr 1 (.t 33) (.t 34)⟩,⟨none,none,.store 1 (.t 47) (.t 42)⟩,⟨some 48, none,.iadr 1 (.t 35) (.t 37)⟩,⟨none,none,.store 1 (.t 48) (.t 46)⟩] [0,1,2,6,7] []
def z86r5:IC:=.reg [⟨some 31, none,.mv (.t 7)⟩,⟨some 32, none,.bin .sub (.t 31) (.c (vi 1))⟩,⟨some 7, none,.asg (.t 32)⟩] [0,1,2,6,7] []
def z86l6:IC:=(.seq (.seq z86r3 (.cond (.t 30) .skip (.exit 2))) (.seq (.block 3 z86r4) z86r5))
def z86r7:IC:=.reg [⟨some 13, none,.mv (.t 6)⟩,⟨some 14, none,.bin .add (.t 13) (.c (vi 1))⟩,⟨some 6, none,.asg (.t 14)⟩] [0,1,2,6] []
def z86l8:IC:=(.seq (.seq z86r1 (.cond (.t 12) .skip (.exit 0))) (.seq (.block 1 (.seq z86r2 (.block 2 (.loop z86l6)))) z86r7))
def zi86:IFun:=⟨[],[0],(.seq z86r0 (.block 0 (.loop z86l8)))⟩
def z101r0:IC:=.reg [⟨some 8, none,.asg (.c (.bool true))⟩] [0,1,2,3,8] []
def z101r1:IC:=.reg [⟨some 9, none,.asg (.c (.bool true))⟩] [0,1,2,3,8,9] []
def z101r2:IC:=.reg [⟨some 19, none,.mv (.t 2)⟩,⟨some 20, none,.mv (.t 1)⟩,⟨some 21, none,.bin .sub (.t 19) (.t 20)⟩,⟨some 10, none,.asg (.t 21)⟩] [0,1,2,3,8,9,10] []
def z101r3:IC:=.reg [⟨some 22, none,.mv (.t 10)⟩,⟨some 23, none,.bin .leq (.t 22) (.c (vi 12))⟩] [0,1,2,3,8,9,10,23] []
def z101r4:IC:=.reg [⟨some 24, none,.mv (.t 0)⟩,⟨some 25, none,.mv (.t 1)⟩,⟨some 26, none,.mv (.t 2)⟩,⟨some 27, none,.call zl86 [(.ld,(.t 24)),(.val,(.t 25)),(.val,(.t 26))] false⟩] [0] []
def z101r5:IC:=.reg [⟨some 28, none,.mv (.t 3)⟩,⟨some 29, none,.bin .eql (.t 28) (.c (vi 0))⟩] [0,1,2,3,8,9,10,29] []
def z101r6:IC:=.reg [⟨some 30, none,.mv (.t 0)⟩,⟨some 31, none,.mv (.t 1)⟩,⟨some 32, none,.mv (.t 2)⟩,⟨some 33, none,.call zl84 [(.ld,(.t 30)),(.val,(.t 31)),(.val,(.t 32))] false⟩] [0] []
def z101r7:IC:=.reg [⟨some 34, none,.mv (.t 8)⟩,⟨some 35, none,.unop .not (.t 34)⟩] [0,1,2,3,8,9,10,35] []
def z101r8:IC:=.reg [⟨some 36, none,.mv (.t 0)⟩,⟨some 37, none,.mv (.t 1)⟩,⟨some 38, none,.mv (.t 2)⟩,⟨some 39, none,.call zl80 [(.ld,(.t 36)),(.val,(.t 37)),(.val,(.t 38))] false⟩] [0,1,2,3,8,9,10] []
def z101r9:IC:=.reg [⟨some 40, none,.mv (.t 3)⟩,⟨some 41, none,.bin .sub (.t 40) (.c (vi 1))⟩,⟨some 3, none,.asg (.t 41)⟩] [0,1,2,3,8,9,10] []
def z101r10:IC:=.reg [⟨some 43, none,.mv (.t 0)⟩,⟨some 44, none,.mv (.t 1)⟩,⟨some 45, none,.mv (.t 2)⟩,⟨some 46, none,.call zl82 [(.rd,(.t 43)),(.val,(.t 44)),(.val,(.t 45))] true⟩,⟨some 42, none,.asg (.t 46)⟩,⟨some 47, none,.extr (.t 42) 0⟩,⟨some 48, none,.extr (.t 42) 1⟩,⟨some 11, none,.asg (.t 47)⟩,⟨some 12, none,.asg (.t 48)⟩] [0,1,2,3,8,9,10,11,12] []
def z101r11:IC:=.reg [⟨some 49, none,.mv (.t 12)⟩,⟨some 50, none,.bin .eql (.t 49) (.c (vi 2))⟩] [0,1,2,3,8,9,10,11,12,50] []
def z101r12:IC:=.reg [⟨some 51, none,.mv (.t 0)⟩,⟨some 52, none,.mv (.t 1)⟩,⟨some 53, none,.mv (.t 2)⟩,⟨some 54, none,.call zl103 [(.ld,(.t 51)),(.val,(.t 52)),(.val,(.t 53))] false⟩] [0,1,2,3,8,9,10,11] []
def z101r13:IC:=.reg [⟨some 55, none,.mv (.t 2)⟩,⟨some 56, none,.bin .sub (.t 55) (.c (vi 1))⟩,⟨some 57, none,.mv (.t 11)⟩,⟨some 58, none,.mv (.t 1)⟩,⟨some 59, none,.bin .sub (.t 57) (.t 58)⟩,⟨some 60, none,.bin .sub (.t 56) (.t 59)⟩,⟨some 11, none,.asg (.t 60)⟩] [0,1,2,3,8,9,10,11] []
def z101r14:IC:=.reg [⟨some 12, none,.asg (.c (vi 1))⟩] [0,1,2,3,8,9,10,11,12] []
def z101r15:IC:=.reg [⟨some 61, none,.mv (.t 8)⟩,⟨some 62, none,.asg (.t 61)⟩,⟨some 63, (some (62,true)),.mv (.t 9)⟩,⟨some 64, none,.pick (.t 62) (.t 63) (.c (.bool false))⟩,⟨some 65, none,.asg (.t 64)⟩,⟨some 66, (some (65,true)),.mv (.t 12)⟩,⟨some 67, (some (65,true)),.bin .eql (.t 66) (.c (vi 1))⟩,⟨some 68, none,.pick (.t 65) (.t 67) (.c (.bool false))⟩] [0,1,2,3,8,9,10,11,68] []
def z101r16:IC:=.reg [⟨some 69, none,.mv (.t 0)⟩,⟨some 70, none,.mv (.t 1)⟩,⟨some 71, none,.mv (.t 2)⟩,⟨some 72, none,.call zl95 [(.ld,(.t 69)),(.val,(.t 70)),(.val,(.t 71))] false⟩] [0,1,2,3,8,9,10,11,72] []
def z101r17:IC:=.reg [⟨some 73, none,.mv (.t 1)⟩,⟨some 74, none,.bin .gtr (.t 73) (.c (vi 0))⟩,⟨some 75, none,.asg (.t 74)⟩,⟨some 76, (some (75,true)),.mv (.t 0)⟩,⟨some 77, (some (75,true)),.mv (.t 1)⟩,⟨some 78, (some (75,true)),.bin .sub (.t 77) (.c (vi 1))⟩,⟨some 79, (some (75,true)),.iadr 1 (.t 76) (.t 78)⟩,⟨some 80, (some (75,true)),.load false 1 (.t 79)⟩,⟨some 81, (some (75,true)),.mv (.t 0)⟩,⟨some 82, (some (75,true)),.mv (.t 11)⟩,⟨some 83, (some (75,true)),.iadr 1 (.t 81) (.t 82)⟩,⟨some 84, (some (75,true)),.load false 1 (.t 83)⟩,⟨some 85, (some (75,true)),.call zl2 [(.val,(.t 80)),(.val,(.t 84))] true⟩,⟨some 86, (some (75,true)),.unop .not (.t 85)⟩,⟨some 87, none,.pick (.t 75) (.t 86) (.c (.bool false))⟩] [0,1,2,3,8,9,10,11,87] []
def z101r18:IC:=.reg [⟨some 88, none,.mv (.t 0)⟩,⟨some 89, none,.mv (.t 1)⟩,⟨some 90, none,.mv (.t 2)⟩,⟨some 91, none,.mv (.t 11)⟩,⟨some 92, none,.call zl98 [(.ld,(.t 88)),(.val,(.t 89)),(.val,(.t 90)),(.val,(.t 91))] false⟩,⟨some 13, none,.asg (.t 92)⟩] [0,2,3,8,9,13] []
def z101r19:IC:=.reg [⟨some 93, none,.mv (.t 13)⟩,⟨some 1, none,.asgm (.t 93)⟩] [0,1,2,3,8,9] []
def z101r20:IC:=.reg [⟨some 95, none,.mv (.t 0)⟩,⟨some 96, none,.mv (.t 1)⟩,⟨some 97, none,.mv (.t 2)⟩,⟨some 98, none,.mv (.t 11)⟩,⟨some 99, none,.call zl99 [(.ld,(.t 95)),(.val,(.t 96)),(.val,(.t 97)),(.val,(.t 98))] false⟩,⟨some 94, none,.asg (.t 99)⟩,⟨some 100, none,.extr (.t 94) 0⟩,⟨some 101, none,.extr (.t 94) 1⟩,⟨some 14, none,.asg (.t 100)⟩,⟨some 15, none,.asg (.t 101)⟩] [0,1,2,3,10,14,15] []
def z101r21:IC:=.reg [⟨some 102, none,.mv (.t 15)⟩,⟨some 9, none,.asgm (.t 102)⟩] [0,1,2,3,9,10,14] []
def z101r22:IC:=.reg [⟨some 103, none,.mv (.t 14)⟩,⟨some 104, none,.mv (.t 1)⟩,⟨some 105, none,.bin .sub (.t 103) (.t 104)⟩,⟨some 106, none,.mv (.t 2)⟩,⟨some 107, none,.mv (.t 14)⟩,⟨some 108, none,.bin .sub (.t 106) (.t 107)⟩,⟨some 16, none,.asg (.t 105)⟩,⟨some 17, none,.asg (.t 108)⟩] [0,1,2,3,9,10,14,16,17] []
def z101r23:IC:=.reg [⟨some 109, none,.mv (.t 10)⟩,⟨some 110, none,.bin .quo (.t 109) (.c (vi 8))⟩,⟨some 18, none,.asg (.t 110)⟩] [0,1,2,3,9,14,16,17,18] []
def z101r24:IC:=.reg [⟨some 111, none,.mv (.t 16)⟩,⟨some 112, none,.mv (.t 17)⟩,⟨some 113, none,.bin .lss (.t 111) (.t 112)⟩] [0,1,2,3,9,14,16,17,18,113] []
def z101r25:IC:=.reg [⟨some 114, none,.mv (.t 16)⟩,⟨some 115, none,.mv (.t 18)⟩,⟨some 116, none,.bin .geq (.t 114) (.t 115)⟩,⟨some 8, none,.asg (.t 116)⟩] [0,1,2,3,8,9,14] []
def z101r26:IC:=.reg [⟨some 117, none,.mv (.t 0)⟩,⟨some 118, none,.mv (.t 1)⟩,⟨some 119, none,.mv (.t 14)⟩,⟨some 120, none,.mv (.t 3)⟩,⟨some 121, none,.call zl101 [(.ld,(.t 117)),(.val,(.t 118)),(.val,(.t 119)),(.val,(.t 120))] false⟩] [0,2,3,8,9,14] []
def z101r27:IC:=.reg [⟨some 122, none,.mv (.t 14)⟩,⟨some 123, none,.bin .add (.t 122) (.c (vi 1))⟩,⟨some 1, none,.asg (.t 123)⟩] [0,1,2,3,8,9] []
def z101r28:IC:=.reg [⟨some 124, none,.mv (.t 17)⟩,⟨some 125, none,.mv (.t 18)⟩,⟨some 126, none,.bin .geq (.t 124) (.t 125)⟩,⟨some 8, none,.asg (.t 126)⟩] [0,1,2,3,8,9,14] []
def z101r29:IC:=.reg [⟨some 127, none,.mv (.t 0)⟩,⟨some 128, none,.mv (.t 14)⟩,⟨some 129, none,.bin .add (.t 128) (.c (vi 1))⟩,⟨some 130, none,.mv (.t 2)⟩,⟨some 131, none,.mv (.t 3)⟩,⟨some 132, none,.call zl101 [(.ld,(.t 127)),(.val,(.t 129)),(.val,(.t 130)),(.val,(.t 131))] false⟩] [0,1,3,8,9,14] []
def z101r30:IC:=.reg [⟨some 133, none,.mv (.t 14)⟩,⟨some 2, none,.asgm (.t 133)⟩] [0,1,2,3,8,9] []
def z101l31:IC:=(.block 1 (.seq z101r2 (.seq (.seq z101r3 (.cond (.t 23) (.seq z101r4 .ret) .skip)) (.seq (.seq z101r5 (.cond (.t 29) (.seq z101r6 .ret) .skip)) (.seq (.seq z101r7 (.cond (.t 35) (.seq z101r8 z101r9) .skip)) (.seq z101r10 (.seq (.seq z101r11 (.cond (.t 50) (.seq z101r12 (.seq z101r13 z101r14)) .skip)) (.seq (.seq z101r15 (.cond (.t 68) (.seq z101r16 (.cond (.t 72) .ret .skip)) .skip)) (.seq (.seq z101r17 (.cond (.t 87) (.seq z101r18 (.seq z101r19 (.exit 1))) .skip)) (.seq z101r20 (.seq z101r21 (.seq z101r22 (.seq z101r23 (.seq z101r24 (.cond (.t 113) (.seq z101r25 (.seq z101r26 z101r27)) (.seq z101r28 (.seq z101r29 z101r30)))))))))))))))))
def zi101:IFun:=⟨[],[0],(.seq z101r0 (.seq z101r1 (.block 0 (.loop z101l31))))⟩
def z289r0:IC:=.reg [⟨some 6, none,.asg (.c (vi 20))⟩] [0,1,2,6] []
def z289r1:IC:=.reg [⟨some 10, none,.mv (.t 6)⟩,⟨some 7, none,.asg (.c (vi 0))⟩,⟨some 8, none,.asg (.t 10)⟩] [0,1,2,6,7,8] []
def z289r2:IC:=.reg [⟨some 11, none,.mv (.t 8)⟩,⟨some 12, none,.mv (.t 1)⟩,⟨some 13, none,.bin .leq (.t 11) (.t 12)⟩] [0,1,2,6,7,8,13] []
def z289r3:IC:=.reg [⟨some 14, none,.mv (.t 0)⟩,⟨some 15, none,.mv (.t 7)⟩,⟨some 16, none,.mv (.t 8)⟩,⟨some 17, none,.mv (.t 2)⟩,⟨some 18, none,.call zl278 [(.ld,(.t 14)),(.val,(.t 15)),(.val,(.t 16)),(.val,(.t 17))] false⟩] [0,1,2,6,8] []
def z289r4:IC:=.reg [⟨some 19, none,.mv (.t 8)⟩,⟨some 7, none,.asg (.t 19)⟩] [0,1,2,6,7,8] []
def z289r5:IC:=.reg [⟨some 20, none,.mv (.t 8)⟩,⟨some 21, none,.mv (.t 6)⟩,⟨some 22, none,.bin .add (.t 20) (.t 21)⟩,⟨some 8, none,.asg (.t 22)⟩] [0,1,2,6,7,8] []
def z289l6:IC:=(.seq (.seq z289r2 (.cond (.t 13) .skip (.exit 0))) (.block 1 (.seq z289r3 (.seq z289r4 z289r5))))
def z289r7:IC:=.reg [⟨some 23, none,.mv (.t 0)⟩,⟨some 24, none,.mv (.t 7)⟩,⟨some 25, none,.mv (.t 1)⟩,⟨some 26, none,.mv (.t 2)⟩,⟨some 27, none,.call zl278 [(.ld,(.t 23)),(.val,(.t 24)),(.val,(.t 25)),(.val,(.t 26))] false⟩] [0,1,2,6] []
def z289r8:IC:=.reg [⟨some 28, none,.mv (.t 6)⟩,⟨some 29, none,.mv (.t 1)⟩,⟨some 30, none,.bin .lss (.t 28) (.t 29)⟩] [0,1,2,6,30] []
def z289r9:IC:=.reg [⟨some 31, none,.mv (.t 6)⟩,⟨some 32, none,.bin .mul (.c (vi 2)) (.t 31)⟩,⟨some 7, none,.asg (.c (vi 0))⟩,⟨some 8, none,.asg (.t 32)⟩] [0,1,2,6,7,8] []
def z289r10:IC:=.reg [⟨some 33, none,.mv (.t 8)⟩,⟨some 34, none,.mv (.t 1)⟩,⟨some 35, none,.bin .leq (.t 33) (.t 34)⟩] [0,1,2,6,7,8,35] []
def z289r11:IC:=.reg [⟨some 36, none,.mv (.t 0)⟩,⟨some 37, none,.mv (.t 7)⟩,⟨some 38, none,.mv (.t 7)⟩,⟨some 39, none,.mv (.t 6)⟩,⟨some 40, none,.bin .add (.t 38) (.t 39)⟩,⟨some 41, none,.mv (.t 8)⟩,⟨some 42, none,.mv (.t 2)⟩,⟨some 43, none,.call zl291 [(.ld,(.t 36)),(.val,(.t 37)),(.val,(.t 40)),(.val,(.t 41)),(.val,(.t 42))] false⟩] [0,1,2,6,8] []
def z289r12:IC:=.reg [⟨some 44, none,.mv (.t 8)⟩,⟨some 7, none,.asg (.t 44)⟩] [0,1,2,6,7,8] []
def z289r13:IC:=.reg [⟨some 45, none,.mv (.t 8)⟩,⟨some 46, none,.mv (.t 6)⟩,⟨some 47, none,.bin .mul (.c (vi 2)) (.t 46)⟩,⟨some 48, none,.bin .add (.t 45) (.t 47)⟩,⟨some 8, none,.asg (.t 48)⟩] [0,1,2,6,7,8] []
def z289l14:IC:=(.seq (.seq z289r10 (.cond (.t 35) .skip (.exit 4))) (.block 5 (.seq z289r11 (.seq z289r12 z289r13))))
def z289r15:IC:=.reg [⟨some 49, none,.mv (.t 7)⟩,⟨some 50, none,.mv (.t 6)⟩,⟨some 51, none,.bin .add (.t 49) (.t 50)⟩,⟨some 9, none,.asg (.t 51)⟩] [0,1,2,6,7,9] []
def z289r16:IC:=.reg [⟨some 52, none,.mv (.t 9)⟩,⟨some 53, none,.mv (.t 1)⟩,⟨some 54, none,.bin .lss (.t 52) (.t 53)⟩] [0,1,2,6,7,9,54] []
def z289r17:IC:=.reg [⟨some 55, none,.mv (.t 0)⟩,⟨some 56, none,.mv (.t 7)⟩,⟨some 57, none,.mv (.t 9)⟩,⟨some 58, none,.mv (.t 1)⟩,⟨some 59, none,.mv (.t 2)⟩,⟨some 60, none,.call zl291 [(.ld,(.t 55)),(.val,(.t 56)),(.val,(.t 57)),(.val,(.t 58)),(.val,(.t 59))] false⟩] [0,1,2,6] []
def z289r18:IC:=.reg [⟨some 61, none,.mv (.t 6)⟩,⟨some 62, none,.bin .mul (.t 61) (.c (vi 2))⟩,⟨some 6, none,.asg (.t 62)⟩] [0,1,2,6] []
def z289l19:IC:=(.seq (.seq z289r8 (.cond (.t 30) .skip (.exit 2))) (.block 3 (.seq z289r9 (.seq (.block 4 (.loop z289l14)) (.seq (.seq z289r15 (.seq z289r16 (.cond (.t 54) z289r17 .skip))) z289r18)))))
def zi289:IFun:=⟨[],[0],(.seq z289r0 (.seq z289r1 (.seq (.block 0 (.loop z289l6)) (.seq z289r7 (.block 2 (.loop z289l19))))))⟩
def z304r0:IC:=.reg [⟨some 2, none,.asg (.c (.slice none 0 0))⟩,⟨some 3, none,.asg (.c (.slice none 0 0))⟩] [0] []
def z304r1:IC:=.reg [⟨some 4, none,.mv (.t 0)⟩,⟨some 5, none,.call zl137 [(.rd,(.t 4))] false⟩,⟨some 6, none,.call zl361 [(.val,(.t 5)),(.val,(.c (vi 5)))] false⟩,⟨some 7, none,.extr (.t 6) 0⟩,⟨some 8, none,.extr (.t 6) 1⟩,⟨some 2, none,.asg (.t 7)⟩,⟨some 3, none,.asg (.t 8)⟩] [2,3] []
def zi304:IFun:=⟨[.t 2,.t 3],[],(.seq z304r0 (.seq z304r1 .ret))⟩
def z315r0:IC:=.reg [⟨some 4, none,.asg (.c (.bool false))⟩] [0,1] []
def z315r1:IC:=.reg [⟨some 5, none,.mv (.t 0)⟩,⟨some 6, none,.mv (.t 1)⟩,⟨some 7, none,.call zl387 [(.rd,(.t 5)),(.rd,(.t 6))] true⟩,⟨some 8, none,.asg (.t 7)⟩,⟨some 9, (some (8,true)),.mv (.t 0)⟩,⟨some 10, (some (8,true)),.mv (.t 1)⟩,⟨some 11, (some (8,true)),.call zl353 [(.rd,(.t 9)),(.rd,(.t 10))] true⟩,⟨some 12, none,.pick (.t 8) (.t 11) (.c (.bool false))⟩,⟨some 4, none,.asg (.t 12)⟩] [4] []
def zi315:IFun:=⟨[.t 4],[],(.seq z315r0 (.seq z315r1 .ret))⟩
def z331r0:IC:=.reg [⟨some 6, none,.asg (.c (.slice none 0 0))⟩] [0,1,2] []
def z331r1:IC:=.reg [⟨some 11, none,.bsl 1 [(.slice none 0 0)] 0 []⟩,⟨some 7, none,.asg (.t 11)⟩] [0,1,2,7] []
def z331r2:IC:=.reg [⟨some 8, none,.asg (.c (vi 0))⟩] [0,1,2,7,8] []
def z331r3:IC:=.reg [⟨some 12, none,.mv (.t 8)⟩,⟨some 13, none,.mv (.t 1)⟩,⟨some 14, none,.bin .lss (.t 12) (.t 13)⟩] [0,1,2,7,8,14] []
def z331r4:IC:=.reg [⟨some 17, none,.bsl 1 [(vi 0)] 0 []⟩,⟨some 9, none,.asg (.t 17)⟩] [0,1,2,7,8,9] []
def z331r5:IC:=.reg [⟨some 10, none,.asg (.c (vi 0))⟩] [0,1,2,7,8,9,10] []
def z331r6:IC:=.reg [⟨some 18, none,.mv (.t 10)⟩,⟨some 19, none,.mv (.t 2)⟩,⟨some 20, none,.bin .lss (.t 18) (.t 19)⟩] [0,1,2,7,8,9,10,20] []
def z331r7:IC:=.reg [⟨some 23, none,.mv (.t 9)⟩,⟨some 24, none,.mv (.t 0)⟩,⟨some 25, none,.call zl140 [(.val,(.t 24)),(.val,(.c (vi 2)))] false⟩,⟨some 26, none,.bsl 1 [(vi 0)] 1 [(0,(.t 25))]⟩,⟨some 27, none,.app 1 (.t 23) (.t 26)⟩,⟨some 9, none,.asg (.t 27)⟩] [0,1,2,7,8,9,10] []
def z331r8:IC:=.reg [⟨some 21, none,.mv (.t 10)⟩,⟨some 22, none,.bin .add (.t 21) (.c (vi 1))⟩,⟨some 10, none,.asg (.t 22)⟩] [0,1,2,7,8,9,10] []
def z331l9:IC:=(.seq (.seq z331r6 (.cond (.t 20) .skip (.exit 2))) (.seq (.block 3 z331r7) z331r8))
def z331r10:IC:=.reg [⟨some 28, none,.mv (.t 7)⟩,⟨some 29, none,.mv (.t 9)⟩,⟨some 30, none,.bsl 1 [(.slice none 0 0)] 1 [(0,(.t 29))]⟩,⟨some 31, none,.app 1 (.t 28) (.t 30)⟩,⟨some 7, none,.asg (.t 31)⟩] [0,1,2,7,8] []
def z331r11:IC:=.reg [⟨some 15, none,.mv (.t 8)⟩,⟨some 16, none,.bin .add (.t 15) (.c (vi 1))⟩,⟨some 8, none,.asg (.t 16)⟩] [0,1,2,7,8] []
def z331l12:IC:=(.seq (.seq z331r3 (.cond (.t 14) .skip (.exit 0))) (.seq (.block 1 (.seq z331r4 (.seq (.seq z331r5 (.block 2 (.loop z331l9))) z331r10))) z331r11))
def z331r13:IC:=.reg [⟨some 32, none,.mv (.t 7)⟩,⟨some 6, none,.asgm (.t 32)⟩] [6,7] []
def zi331:IFun:=⟨[.t 6],[],(.seq z331r0 (.seq z331r1 (.seq (.seq z331r2 (.block 0 (.loop z331l12))) (.seq z331r13 .ret))))⟩
def z123r0:IC:=.reg [⟨some 2, none,.asg (.c (.slice none 0 0))⟩] [0] []
def z123r1:IC:=.reg [⟨some 3, none,.bsl 1 [(vi 0)] 0 []⟩,⟨some 4, none,.mv (.t 0)⟩,⟨some 5, none,.app 1 (.t 3) (.t 4)⟩,⟨some 2, none,.asg (.t 5)⟩] [2] []
def zi123:IFun:=⟨[.t 2],[],(.seq z123r0 (.seq z123r1 .ret))⟩
def z127r0:IC:=.reg [⟨some 2, none,.asg (.c (.slice none 0 0))⟩] [0] []
def z127r1:IC:=.reg [⟨some 6, none,.bsl 1 [(vi 0)] 0 []⟩,⟨some 3, none,.asg (.t 6)⟩] [0,3] []
def z127r2:IC:=.reg [⟨some 4, none,.asg (.c (vi 0))⟩] [0,3,4] []
def z127r3:IC:=.reg [⟨some 7, none,.mv (.t 4)⟩,⟨some 8, none,.mv (.t 0)⟩,⟨some 9, none,.len (.t 8)⟩,⟨some 10, none,.bin .lss (.t 7) (.t 9)⟩] [0,3,4,10] []
def z127r4:IC:=.reg [⟨some 5, none,.asg (.c (vi 0))⟩] [0,3,4,5] []
def z127r5:IC:=.reg [⟨some 13, none,.mv (.t 5)⟩,⟨some 14, none,.mv (.t 3)⟩,⟨some 15, none,.len (.t 14)⟩,⟨some 16, none,.bin .lss (.t 13) (.t 15)⟩,⟨some 17, none,.asg (.t 16)⟩,⟨some 18, (some (17,true)),.mv (.t 3)⟩,⟨some 19, (some (17,true)),.mv (.t 5)⟩,⟨some 20, (some (17,true)),.iadr 1 (.t 18) (.t 19)⟩,⟨some 21, (some (17,true)),.load false 1 (.t 20)⟩,⟨some 22, (some (17,true)),.mv (.t 0)⟩,⟨some 23, (some (17,true)),.mv (.t 4)⟩,⟨some 24, (some (17,true)),.iadr 1 (.t 22) (.t 23)⟩,⟨some 25, (some (17,true)),.load false 1 (.t 24)⟩,⟨some 26, (some (17,true)),.bin .geq (.t 21) (.t 25)⟩,⟨some 27, none,.pick (.t 17) (.t 26) (.c (.bool false))⟩] [0,3,4,5,27] []
def z127r6:IC:=.reg [⟨some 28, none,.mv (.t 5)⟩,⟨some 29, none,.bin .add (.t 28) (.c (vi 1))⟩,⟨some 5, none,.asg (.t 29)⟩] [0,3,4,5] []
def z127l7:IC:=(.seq (.seq z127r5 (.cond (.t 27) .skip (.exit 2))) (.block 3 z127r6))
def z127r8:IC:=.reg [⟨some 30, none,.mv (.t 3)⟩,⟨some 31, none,.mv (.t 5)⟩,⟨some 32, none,.slc 1 (.t 30) none (some (.t 31)) none⟩,⟨some 33, none,.call zl123 [(.rd,(.t 32))] true⟩,⟨some 34, none,.mv (.t 0)⟩,⟨some 35, none,.mv (.t 4)⟩,⟨some 36, none,.iadr 1 (.t 34) (.t 35)⟩,⟨some 37, none,.load false 1 (.t 36)⟩,⟨some 38, none,.bsl 1 [(vi 0)] 1 [(0,(.t 37))]⟩,⟨some 39, none,.app 1 (.t 33) (.t 38)⟩,⟨some 40, none,.mv (.t 3)⟩,⟨some 41, none,.mv (.t 5)⟩,⟨some 42, none,.slc 1 (.t 40) (some (.t 41)) none none⟩,⟨some 43, none,.app 1 (.t 39) (.t 42)⟩,⟨some 3, none,.asg (.t 43)⟩] [0,3,4] [[0,1,2,4,5,6,7,3,8,9,10,11,12,13,14],[0,1,2,4,5,6,7,8,3,9,10,11,12,13,14]]
def z127r9:IC:=.reg [⟨some 11, none,.mv (.t 4)⟩,⟨some 12, none,.bin .add (.t 11) (.c (vi 1))⟩,⟨some 4, none,.asg (.t 12)⟩] [0,3,4] []
def z127l10:IC:=(.seq (.seq z127r3 (.cond (.t 10) .skip (.exit 0))) (.seq (.block 1 (.seq z127r4 (.seq (.block 2 (.loop z127l7)) z127r8))) z127r9))
def z127r11:IC:=.reg [⟨some 44, none,.mv (.t 3)⟩,⟨some 2, none,.asgm (.t 44)⟩] [2,3] []
def zi127:IFun:=⟨[.t 2],[],(.seq z127r0 (.seq z127r1 (.seq (.seq z127r2 (.block 0 (.loop z127l10))) (.seq z127r11 .ret))))⟩
def z351r0:IC:=.reg [⟨some 4, none,.asg (.c (.slice none 0 0))⟩] [0,1] []
def z351r1:IC:=.reg [⟨some 10, none,.mv (.t 0)⟩,⟨some 11, none,.call zl127 [(.rd,(.t 10))] true⟩,⟨some 5, none,.asg (.t 11)⟩] [1,5] []
def z351r2:IC:=.reg [⟨some 12, none,.bsl 1 [(vi 0)] 0 []⟩,⟨some 6, none,.asg (.t 12)⟩] [1,5,6] []
def z351r3:IC:=.reg [⟨some 7, none,.asg (.c (vi 1))⟩] [1,5,6,7] []
def z351r4:IC:=.reg [⟨some 13, none,.mv (.t 7)⟩,⟨some 14, none,.mv (.t 5)⟩,⟨some 15, none,.len (.t 14)⟩,⟨some 16, none,.bin .leq (.t 13) (.t 15)⟩] [1,5,6,7,16] []
def z351r5:IC:=.reg [⟨some 8, none,.asg (.c (vi 0))⟩] [1,5,6,7,8] []
def z351r6:IC:=.reg [⟨some 9, none,.asg (.c (vi 0))⟩] [1,5,6,7,8,9] []
def z351r7:IC:=.reg [⟨some 19, none,.mv (.t 9)⟩,⟨some 20, none,.mv (.t 1)⟩,⟨some 21, none,.len (.t 20)⟩,⟨some 22, none,.bin .lss (.t 19) (.t 21)⟩] [1,5,6,7,8,9,22] []
def z351r8:IC:=.reg [⟨some 25, none,.mv (.t 8)⟩,⟨some 26, none,.mv (.t 1)⟩,⟨some 27, none,.mv (.t 9)⟩,⟨some 28, none,.iadr 1 (.t 26) (.t 27)⟩,⟨some 29, none,.load false 1 (.t 28)⟩,⟨some 30, none,.mv (.t 7)⟩,⟨some 31, none,.minmax true (.t 29) (.t 30)⟩,⟨some 32, none,.bin .add (.t 25) (.t 31)⟩,⟨some 8, none,.asg (.t 32)⟩] [1,5,6,7,8,9] []
def z351r9:IC:=.reg [⟨some 23, none,.mv (.t 9)⟩,⟨some 24, none,.bin .add (.t 23) (.c (vi 1))⟩,⟨some 9, none,.asg (.t 24)⟩] [1,5,6,7,8,9] []
def z351l10:IC:=(.seq (.seq z351r7 (.cond (.t 22) .skip (.exit 2))) (.seq (.block 3 z351r8) z351r9))
def z351r11:IC:=.reg [⟨some 33, none,.mv (.t 6)⟩,⟨some 34, none,.mv (.t 8)⟩,⟨some 35, none,.mv (.t 5)⟩,⟨some 36, none,.mv (.t 7)⟩,⟨some 37, none,.slc 1 (.t 35) none (some (.t 36)) none⟩,⟨some 38, none,.call zl382 [(.rd,(.t 37))] true⟩,⟨some 39, none,.bin .sub (.t 34) (.t 38)⟩,⟨some 40, none,.bsl 1 [(vi 0)] 1 [(0,(.t 39))]⟩,⟨some 41, none,.app 1 (.t 33) (.t 40)⟩,⟨some 6, none,.asg (.t 41)⟩] [1,5,6,7] []
def z351r12:IC:=.reg [⟨some 17, none,.mv (.t 7)⟩,⟨some 18, none,.bin .add (.t 17) (.c (vi 1))⟩,⟨some 7, none,.asg (.t 18)⟩] [1,5,6,7] []
def z351l13:IC:=(.seq (.seq z351r4 (.cond (.t 16) .skip (.exit 0))) (.seq (.block 1 (.seq z351r5 (.seq (.seq z351r6 (.block 2 (.loop z351l10))) z351r11))) z351r12))
def z351r14:IC:=.reg [⟨some 42, none,.mv (.t 6)⟩,⟨some 4, none,.asgm (.t 42)⟩] [4,6] []
def zi351:IFun:=⟨[.t 4],[],(.seq z351r0 (.seq z351r1 (.seq z351r2 (.seq (.seq z351r3 (.block 0 (.loop z351l13))) (.seq z351r14 .ret)))))⟩
def z132r0:IC:=.reg [⟨some 6, none,.asg (.c (.bool false))⟩] [0,1,2] []
def z132r1:IC:=.reg [⟨some 7, none,.mv (.t 1)⟩,⟨some 8, none,.mv (.t 0)⟩,⟨some 9, none,.bin .leq (.t 7) (.t 8)⟩,⟨some 10, none,.asg (.t 9)⟩,⟨some 11, (some (10,true)),.mv (.t 0)⟩,⟨some 12, (some (10,true)),.mv (.t 2)⟩,⟨some 13, (some (10,true)),.bin .leq (.t 11) (.t 12)⟩,⟨some 14, none,.pick (.t 10) (.t 13) (.c (.bool false))⟩,⟨some 6, none,.asg (.t 14)⟩] [6] []
def zi132:IFun:=⟨[.t 6],[],(.seq z132r0 (.seq z132r1 .ret))⟩
def z353r0:IC:=.reg [⟨some 4, none,.asg (.c (.bool false))⟩] [0,1] []
def z353r1:IC:=.reg [⟨some 5, none,.mv (.t 0)⟩,⟨some 6, none,.call zl382 [(.rd,(.t 5))] true⟩,⟨some 7, none,.mv (.t 1)⟩,⟨some 8, none,.call zl382 [(.rd,(.t 7))] true⟩,⟨some 9, none,.bin .eql (.t 6) (.t 8)⟩,⟨some 10, none,.asg (.t 9)⟩,⟨some 11, (some (10,true)),.mv (.t 0)⟩,⟨some 12, (some (10,true)),.mv (.t 1)⟩,⟨some 13, (some (10,true)),.call zl351 [(.rd,(.t 11)),(.rd,(.t 12))] true⟩,⟨some 14, (some (10,true)),.call zl360 [(.rd,(.t 13))] true⟩,⟨some 15, (some (10,true)),.bin .eql (.t 14) (.c (vi 0))⟩,⟨some 16, none,.pick (.t 10) (.t 15) (.c (.bool false))⟩,⟨some 4, none,.asg (.t 16)⟩] [4] []
def zi353:IFun:=⟨[.t 4],[],(.seq z353r0 (.seq z353r1 .ret))⟩
def z360r0:IC:=.reg [⟨some 2, none,.asg (.c (vi 0))⟩] [0] []
def z360r1:IC:=.reg [⟨some 3, none,.asg (.c (vi 0))⟩] [0,3] []
def z360r2:IC:=.reg [⟨some 4, none,.asg (.c (vi 0))⟩] [0,3,4] []
def z360r3:IC:=.reg [⟨some 5, none,.mv (.t 4)⟩,⟨some 6, none,.mv (.t 0)⟩,⟨some 7, none,.len (.t 6)⟩,⟨some 8, none,.bin .lss (.t 5) (.t 7)⟩] [0,3,4,8] []
def z360r4:IC:=.reg [⟨some 11, none,.mv (.t 3)⟩,⟨some 12, none,.mv (.t 0)⟩,⟨some 13, none,.mv (.t 4)⟩,⟨some 14, none,.iadr 1 (.t 12) (.t 13)⟩,⟨some 15, none,.load false 1 (.t 14)⟩,⟨some 16, none,.minmax true (.t 11) (.t 15)⟩,⟨some 3, none,.asg (.t 16)⟩] [0,3,4] []
def z360r5:IC:=.reg [⟨some 9, none,.mv (.t 4)⟩,⟨some 10, none,.bin .add (.t 9) (.c (vi 1))⟩,⟨some 4, none,.asg (.t 10)⟩] [0,3,4] []
def z360l6:IC:=(.seq (.seq z360r3 (.cond (.t 8) .skip (.exit 0))) (.seq (.block 1 z360r4) z360r5))
def z360r7:IC:=.reg [⟨some 17, none,.mv (.t 3)⟩,⟨some 2, none,.asgm (.t 17)⟩] [2] []
def zi360:IFun:=⟨[.t 2],[],(.seq z360r0 (.seq z360r1 (.seq (.seq z360r2 (.block 0 (.loop z360l6))) (.seq z360r7 .ret))))⟩
def z361r0:IC:=.reg [⟨some 4, none,.asg (.c (.slice none 0 0))⟩,⟨some 5, none,.asg (.c (.slice none 0 0))⟩] [0,1] []
def z361r1:IC:=.reg [⟨some 10, none,.mv (.t 0)⟩,⟨some 11, none,.mv (.t 0)⟩,⟨some 12, none,.mv (.t 1)⟩,⟨some 13, none,.call zl140 [(.val,(.t 11)),(.val,(.t 12))] false⟩,⟨some 14, none,.bin .add (.c (vi 1)) (.t 13)⟩,⟨some 15, none,.mv (.t 0)⟩,⟨some 16, none,.mv (.t 1)⟩,⟨some 17, none,.call zl140 [(.val,(.t 15)),(.val,(.t 16))] false⟩,⟨some 18, none,.bin .add (.c (vi 1)) (.t 17)⟩,⟨some 19, none,.call zl331 [(.val,(.t 10)),(.val,(.t 14)),(.val,(.t 18))] false⟩,⟨some 6, none,.asg (.t 19)⟩] [0,6] []
def z361r2:IC:=.reg [⟨some 20, none,.mv (.t 6)⟩,⟨some 21, none,.call zl371 [(.rd,(.t 20))] true⟩,⟨some 7, none,.asg (.t 21)⟩] [0,6,7] []
def z361r3:IC:=.reg [⟨some 22, none,.mv (.t 6)⟩,⟨some 23, none,.call zl385 [(.rd,(.t 22))] true⟩,⟨some 24, none,.call zl371 [(.rd,(.t 23))] true⟩,⟨some 8, none,.asg (.t 24)⟩] [0,7,8] []
def z361r4:IC:=.reg [⟨some 25, none,.mv (.t 0)⟩,⟨some 26, none,.call zl140 [(.val,(.t 25)),(.val,(.c (vi 3)))] false⟩,⟨some 27, none,.bin .eql (.t 26) (.c (vi 0))⟩] [0,7,8,27] []
def z361r5:IC:=.reg [⟨some 28, none,.mv (.t 0)⟩,⟨some 29, none,.mv (.t 7)⟩,⟨some 30, none,.len (.t 29)⟩,⟨some 31, none,.call zl140 [(.val,(.t 28)),(.val,(.t 30))] false⟩,⟨some 9, none,.asg (.t 31)⟩] [0,7,8,9] []
def z361r6:IC:=.reg [⟨some 32, none,.mv (.t 7)⟩,⟨some 33, none,.mv (.t 9)⟩,⟨some 34, none,.mv (.t 7)⟩,⟨some 35, none,.mv (.t 9)⟩,⟨some 36, none,.iadr 1 (.t 34) (.t 35)⟩,⟨some 37, none,.load false 1 (.t 36)⟩,⟨some 38, none,.mv (.t 0)⟩,⟨some 39, none,.bsl 1 [(vi 0)] 3 [(0,(.c (vi 1))),(1,(.c (vi (-1)))),(2,(.c (vi 2)))]⟩,⟨some 40, none,.call zl139 [(.val,(.t 38)),(.rd,(.t 39))] false⟩,⟨some 41, none,.bin .add (.t 37) (.t 40)⟩,⟨some 42, none,.minmax false (.t 41) (.c (vi 0))⟩,⟨some 43, none,.mv (.t 8)⟩,⟨some 44, none,.len (.t 43)⟩,⟨some 45, none,.minmax true (.t 42) (.t 44)⟩,⟨some 46, none,.iadr 1 (.t 32) (.t 33)⟩,⟨none,none,.store 1 (.t 46) (.t 45)⟩] [0,7,8] [[0,1,2,3,4,6,7,5,8,9,10,11,12,13,14,15],[0,1,2,3,4,6,7,8,5,9,10,11,12,13,14,15]]
def z361r7:IC:=.reg [⟨some 47, none,.mv (.t 0)⟩,⟨some 48, none,.mv (.t 8)⟩,⟨some 49, none,.len (.t 48)⟩,⟨some 50, none,.call zl140 [(.val,(.t 47)),(.val,(.t 49))] false⟩,⟨some 9, none,.asg (.t 50)⟩] [0,7,8,9] []
def z361r8:IC:=.reg [⟨some 51, none,.mv (.t 8)⟩,⟨some 52, none,.mv (.t 9)⟩,⟨some 53, none,.mv (.t 8)⟩,⟨some 54, none,.mv (.t 9)⟩,⟨some 55, none,.iadr 1 (.t 53) (.t 54)⟩,⟨some 56, none,.load false 1 (.t 55)⟩,⟨some 57, none,.mv (.t 0)⟩,⟨some 58, none,.bsl 1 [(vi 0)] 3 [(0,(.c (vi 1))),(1,(.c (vi (-1)))),(2,(.c (vi 2)))]⟩,⟨some 59, none,.call zl139 [(.val,(.t 57)),(.rd,(.t 58))] false⟩,⟨some 60, none,.bin .add (.t 56) (.t 59)⟩,⟨some 61, none,.minmax false (.t 60) (.c (vi 0))⟩,⟨some 62, none,.mv (.t 7)⟩,⟨some 63, none,.len (.t 62)⟩,⟨some 64, none,.minmax true (.t 61) (.t 63)⟩,⟨some 65, none,.iadr 1 (.t 51) (.t 52)⟩,⟨none,none,.store 1 (.t 65) (.t 64)⟩] [0,7,8] [[0,1,2,3,4,6,7,5,8,9,10,11,12,13,14,15],[0,1,2,3,4,6,7,8,5,9,10,11,12,13,14,15]]
def z361r9:IC:=.reg [⟨some 66, none,.mv (.t 0)⟩,⟨some 67, none,.call zl140 [(.val,(.t 66)),(.val,(.c (vi 30)))] false⟩] [0,7,8,67] []
def z361r10:IC:=.reg [⟨some 69, none,.bin .eql (.t 67) (.c (vi 0))⟩,⟨some 68, none,.asg (.t 69)⟩] [0,7,8,67,68] []
def z361r11:IC:=.reg [⟨some 70, none,.mv (.t 7)⟩,⟨some 71, none,.mv (.t 0)⟩,⟨some 72, none,.bsl 1 [(vi 0)] 2 [(0,(.c (vi (-1)))),(1,(.c (vi 6)))]⟩,⟨some 73, none,.call zl139 [(.val,(.t 71)),(.rd,(.t 72))] false⟩,⟨some 74, none,.iadr 1 (.t 70) (.c (vi 0))⟩,⟨none,none,.store 1 (.t 74) (.t 73)⟩] [7,8] []
def z361r12:IC:=.reg [⟨some 76, none,.bin .eql (.t 67) (.c (vi 1))⟩,⟨some 75, none,.asg (.t 76)⟩] [7,8,75] []
def z361r13:IC:=.reg [⟨some 77, none,.mv (.t 8)⟩,⟨some 78, none,.bsl 1 [(vi 0)] 5 [(0,(.c (vi 0))),(1,(.c (vi 0))),(2,(.c (vi 0))),(3,(.c (vi 0))),(4,(.c (vi 0)))]⟩,⟨some 79, none,.app 1 (.t 77) (.t 78)⟩,⟨some 8, none,.asg (.t 79)⟩] [7,8] []
def z361r14:IC:=.reg [⟨some 80, none,.mv (.t 7)⟩,⟨some 81, none,.mv (.t 8)⟩,⟨some 4, none,.asgm (.t 80)⟩,⟨some 5, none,.asgm (.t 81)⟩] [4,5,7,8] []
def zi361:IFun:=⟨[.t 4,.t 5],[],(.seq z361r0 (.seq z361r1 (.seq z361r2 (.seq z361r3 (.seq (.seq z361r4 (.cond (.t 27) (.seq z361r5 (.seq z361r6 (.seq z361r7 z361r8))) .skip)) (.seq (.seq z361r9 (.block 0 (.seq z361r10 (.cond (.t 68) z361r11 (.seq z361r12 (.cond (.t 75) z361r13 .skip)))))) (.seq z361r14 .ret)))))))⟩
def z137r0:IC:=.reg [⟨some 2, none,.asg (.c (.pointer none))⟩] [0] []
def z137r1:IC:=.reg [⟨some 3, none,.mv (.t 0)⟩,⟨some 4, none,.len (.t 3)⟩,⟨some 5, none,.bin .gtr (.t 4) (.c (vi 2000))⟩] [0,5] []
def z137r2:IC:=.reg [⟨some 6, none,.mv (.t 0)⟩,⟨some 7, none,.slc 1 (.t 6) none (some (.c (vi 2000))) none⟩,⟨some 0, none,.asgm (.t 7)⟩] [0] []
def z137r3:IC:=.reg [⟨some 8, none,.mv (.t 0)⟩,⟨some 9, none,.build [(.slice none 0 0),(vi 0)] [(0,1,(.t 8))]⟩,⟨some 10, none,.box (.t 9)⟩,⟨some 2, none,.asg (.t 10)⟩] [2] []
def zi137:IFun:=⟨[.t 2],[],(.seq z137r0 (.seq (.seq z137r1 (.cond (.t 5) z137r2 .skip)) (.seq z137r3 .ret)))⟩
def z139r0:IC:=.reg [⟨some 4, none,.asg (.c (vi 0))⟩] [0,1] []
def z139r1:IC:=.reg [⟨some 5, none,.mv (.t 1)⟩,⟨some 6, none,.mv (.t 0)⟩,⟨some 7, none,.mv (.t 1)⟩,⟨some 8, none,.len (.t 7)⟩,⟨some 9, none,.call zl140 [(.val,(.t 6)),(.val,(.t 8))] false⟩,⟨some 10, none,.iadr 1 (.t 5) (.t 9)⟩,⟨some 11, none,.load false 1 (.t 10)⟩,⟨some 4, none,.asg (.t 11)⟩] [4] []
def zi139:IFun:=⟨[.t 4],[],(.seq z139r0 (.seq z139r1 .ret))⟩
def z140r0:IC:=.reg [⟨some 4, none,.asg (.c (vi 0))⟩] [0,1] []
def z140r1:IC:=.reg [⟨some 7, none,.mv (.t 0)⟩,⟨some 8, none,.mv (.t 0)⟩,⟨some 9, none,.nilck (.t 8)⟩,⟨some 10, none,.fadr 1 (.t 9)⟩,⟨some 11, none,.load false 1 (.t 10)⟩,⟨some 12, none,.bin .add (.t 11) (.c (vi 1))⟩,⟨some 13, none,.nilck (.t 7)⟩,⟨some 14, none,.fadr 1 (.t 13)⟩,⟨none,none,.store 1 (.t 14) (.t 12)⟩] [0,1] []
def z140r2:IC:=.reg [⟨some 15, none,.mv (.t 1)⟩,⟨some 16, none,.bin .lss (.t 15) (.c (vi 1))⟩,⟨some 17, none,.asg (.t 16)⟩,⟨some 18, (some (17,false)),.mv (.t 0)⟩,⟨some 19, (some (17,false)),.nilck (.t 18)⟩,⟨some 20, (some (17,false)),.fadr 0 (.t 19)⟩,⟨some 21, (some (17,false)),.load false 1 (.t 20)⟩,⟨some 22, (some (17,false)),.len (.t 21)⟩,⟨some 23, (some (17,false)),.bin .eql (.t 22) (.c (vi 0))⟩,⟨some 24, none,.pick (.t 17) (.c (.bool true)) (.t 23)⟩] [0,1,24] []
def z140r3:IC:=.reg [⟨some 4, none,.asg (.c (vi 0))⟩] [4] []
def z140r4:IC:=.reg [⟨some 25, none,.mv (.t 0)⟩,⟨some 26, none,.nilck (.t 25)⟩,⟨some 27, none,.fadr 1 (.t 26)⟩,⟨some 28, none,.load false 1 (.t 27)⟩,⟨some 29, none,.bin .sub (.t 28) (.c (vi 1))⟩,⟨some 5, none,.asg (.t 29)⟩] [0,1,5] []
def z140r5:IC:=.reg [⟨some 30, none,.mv (.t 5)⟩,⟨some 31, none,.mv (.t 0)⟩,⟨some 32, none,.nilck (.t 31)⟩,⟨some 33, none,.fadr 0 (.t 32)⟩,⟨some 34, none,.load false 1 (.t 33)⟩,⟨some 35, none,.len (.t 34)⟩,⟨some 36, none,.bin .lss (.t 30) (.t 35)⟩] [0,1,5,36] []
def z140r6:IC:=.reg [⟨some 37, none,.mv (.t 0)⟩,⟨some 38, none,.nilck (.t 37)⟩,⟨some 39, none,.fadr 0 (.t 38)⟩,⟨some 40, none,.load false 1 (.t 39)⟩,⟨some 41, none,.mv (.t 5)⟩,⟨some 42, none,.iadr 1 (.t 40) (.t 41)⟩,⟨some 43, none,.load false 1 (.t 42)⟩,⟨some 44, none,.conv .i64 (.t 43)⟩,⟨some 45, none,.mv (.t 1)⟩,⟨some 46, none,.bin .rem (.t 44) (.t 45)⟩,⟨some 4, none,.asg (.t 46)⟩] [4] []
def z140r7:IC:=.reg [⟨some 47, none,.mv (.t 0)⟩,⟨some 48, none,.nilck (.t 47)⟩,⟨some 49, none,.fadr 0 (.t 48)⟩,⟨some 50, none,.load false 1 (.t 49)⟩,⟨some 51, none,.mv (.t 5)⟩,⟨some 52, none,.mv (.t 0)⟩,⟨some 53, none,.nilck (.t 52)⟩,⟨some 54, none,.fadr 0 (.t 53)⟩,⟨some 55, none,.load false 1 (.t 54)⟩,⟨some 56, none,.len (.t 55)⟩,⟨some 57, none,.bin .rem (.t 51) (.t 56)⟩,⟨some 58, none,.iadr 1 (.t 50) (.t 57)⟩,⟨some 59, none,.load false 1 (.t 58)⟩,⟨some 60, none,.conv .i64 (.t 59)⟩,⟨some 61, none,.bin .mul (.t 60) (.c (vi 131))⟩,⟨some 62, none,.mv (.t 0)⟩,⟨some 63, none,.nilck (.t 62)⟩,⟨some 64, none,.fadr 0 (.t 63)⟩,⟨some 65, none,.load false 1 (.t 64)⟩,⟨some 66, none,.mv (.t 5)⟩,⟨some 67, none,.bin .mul (.t 66) (.c (vi 7))⟩,⟨some 68, none,.bin .add (.t 67) (.c (vi 3))⟩,⟨some 69, none,.mv (.t 0)⟩,⟨some 70, none,.nilck (.t 69)⟩,⟨some 71, none,.fadr 0 (.t 70)⟩,
    ⟨some 72, none,.load false 1 (.t 71)⟩,⟨some 73, none,.len (.t 72)⟩,⟨some 74, none,.bin .rem (.t 68) (.t 73)⟩,⟨some 75, none,.iadr 1 (.t 65) (.t 74)⟩,⟨some 76, none,.load false 1 (.t 75)⟩,⟨some 77, none,.conv .i64 (.t 76)⟩,⟨some 78, none,.bin .mul (.t 77) (.c (vi 1117))⟩,⟨some 79, none,.bin .add (.t 61) (.t 78)⟩,⟨some 80, none,.mv (.t 5)⟩,⟨some 81, none,.bin .mul (.t 80) (.c (vi 29))⟩,⟨some 82, none,.bin .add (.t 79) (.t 81)⟩,⟨some 83, none,.mv (.t 5)⟩,⟨some 84, none,.mv (.t 0)⟩,⟨some 85, none,.nilck (.t 84)⟩,⟨some 86, none,.fadr 0 (.t 85)⟩,⟨some 87, none,.load false 1 (.t 86)⟩,⟨some 88, none,.len (.t 87)⟩,⟨some 89, none,.bin .quo (.t 83) (.t 88)⟩,⟨some 90, none,.bin .mul (.t 89) (.c (vi 53))⟩,⟨some 91, none,.bin .add (.t 82) (.t 90)⟩,⟨some 6, none,.asg (.t 91)⟩] [1,6] []
def z140r8:IC:=.reg [⟨some 92, none,.mv (.t 6)⟩,⟨some 93, none,.mv (.t 6)⟩,⟨some 94, none,.bin .quo (.t 93) (.c (vi 64))⟩,⟨some 95, none,.bin .xor (.t 92) (.t 94)⟩,⟨some 6, none,.asg (.t 95)⟩] [1,6] []
def z140r9:IC:=.reg [⟨some 96, none,.mv (.t 6)⟩,⟨some 97, none,.mv (.t 1)⟩,⟨some 98, none,.bin .rem (.t 96) (.t 97)⟩,⟨some 4, none,.asg (.t 98)⟩] [4] []
def zi140:IFun:=⟨[.t 4],[],(.seq z140r0 (.seq z140r1 (.seq (.seq z140r2 (.cond (.t 24) (.seq z140r3 .ret) .skip)) (.seq z140r4 (.seq (.seq z140r5 (.cond (.t 36) (.seq z140r6 .ret) .skip)) (.seq z140r7 (.seq z140r8 (.seq z140r9 .ret))))))))⟩
def z371r0:IC:=.reg [⟨some 2, none,.asg (.c (.slice none 0 0))⟩] [0] []
def z371r1:IC:=.reg [⟨some 5, none,.bsl 1 [(vi 0)] 0 []⟩,⟨some 3, none,.asg (.t 5)⟩] [0,3] []
def z371r2:IC:=.reg [⟨some 4, none,.asg (.c (vi 0))⟩] [0,3,4] []
def z371r3:IC:=.reg [⟨some 6, none,.mv (.t 4)⟩,⟨some 7, none,.mv (.t 0)⟩,⟨some 8, none,.len (.t 7)⟩,⟨some 9, none,.bin .lss (.t 6) (.t 8)⟩] [0,3,4,9] []
def z371r4:IC:=.reg [⟨some 12, none,.mv (.t 3)⟩,⟨some 13, none,.mv (.t 0)⟩,⟨some 14, none,.mv (.t 4)⟩,⟨some 15, none,.iadr 1 (.t 13) (.t 14)⟩,⟨some 16, none,.load false 1 (.t 15)⟩,⟨some 17, none,.call zl382 [(.rd,(.t 16))] true⟩,⟨some 18, none,.bsl 1 [(vi 0)] 1 [(0,(.t 17))]⟩,⟨some 19, none,.app 1 (.t 12) (.t 18)⟩,⟨some 3, none,.asg (.t 19)⟩] [0,3,4] []
def z371r5:IC:=.reg [⟨some 10, none,.mv (.t 4)⟩,⟨some 11, none,.bin .add (.t 10) (.c (vi 1))⟩,⟨some 4, none,.asg (.t 11)⟩] [0,3,4] []
def z371l6:IC:=(.seq (.seq z371r3 (.cond (.t 9) .skip (.exit 0))) (.seq (.block 1 z371r4) z371r5))
def z371r7:IC:=.reg [⟨some 20, none,.mv (.t 3)⟩,⟨some 2, none,.asgm (.t 20)⟩] [2,3] []
def zi371:IFun:=⟨[.t 2],[],(.seq z371r0 (.seq z371r1 (.seq (.seq z371r2 (.block 0 (.loop z371l6))) (.seq z371r7 .ret))))⟩
def z382r0:IC:=.reg [⟨some 2, none,.asg (.c (vi 0))⟩] [0] []
def z382r1:IC:=.reg [⟨some 3, none,.asg (.c (vi 0))⟩] [0,3] []
def z382r2:IC:=.reg [⟨some 4, none,.asg (.c (vi 0))⟩] [0,3,4] []
def z382r3:IC:=.reg [⟨some 5, none,.mv (.t 4)⟩,⟨some 6, none,.mv (.t 0)⟩,⟨some 7, none,.len (.t 6)⟩,⟨some 8, none,.bin .lss (.t 5) (.t 7)⟩] [0,3,4,8] []
def z382r4:IC:=.reg [⟨some 11, none,.mv (.t 3)⟩,⟨some 12, none,.mv (.t 0)⟩,⟨some 13, none,.mv (.t 4)⟩,⟨some 14, none,.iadr 1 (.t 12) (.t 13)⟩,⟨some 15, none,.load false 1 (.t 14)⟩,⟨some 16, none,.bin .add (.t 11) (.t 15)⟩,⟨some 3, none,.asg (.t 16)⟩] [0,3,4] []
def z382r5:IC:=.reg [⟨some 9, none,.mv (.t 4)⟩,⟨some 10, none,.bin .add (.t 9) (.c (vi 1))⟩,⟨some 4, none,.asg (.t 10)⟩] [0,3,4] []
def z382l6:IC:=(.seq (.seq z382r3 (.cond (.t 8) .skip (.exit 0))) (.seq (.block 1 z382r4) z382r5))
def z382r7:IC:=.reg [⟨some 17, none,.mv (.t 3)⟩,⟨some 2, none,.asgm (.t 17)⟩] [2] []
def zi382:IFun:=⟨[.t 2],[],(.seq z382r0 (.seq z382r1 (.seq (.seq z382r2 (.block 0 (.loop z382l6))) (.seq z382r7 .ret))))⟩
def z385r0:IC:=.reg [⟨some 2, none,.asg (.c (.slice none 0 0))⟩] [0] []
def z385r1:IC:=.reg [⟨some 7, none,.bsl 1 [(.slice none 0 0)] 0 []⟩,⟨some 3, none,.asg (.t 7)⟩] [0,3] []
def z385r2:IC:=.reg [⟨some 4, none,.asg (.c (vi 0))⟩] [0,3,4] []
def z385r3:IC:=.reg [⟨some 8, none,.mv (.t 4)⟩,⟨some 9, none,.mv (.t 0)⟩,⟨some 10, none,.iadr 1 (.t 9) (.c (vi 0))⟩,⟨some 11, none,.load false 1 (.t 10)⟩,⟨some 12, none,.len (.t 11)⟩,⟨some 13, none,.bin .lss (.t 8) (.t 12)⟩] [0,3,4,13] []
def z385r4:IC:=.reg [⟨some 16, none,.bsl 1 [(vi 0)] 0 []⟩,⟨some 5, none,.asg (.t 16)⟩] [0,3,4,5] []
def z385r5:IC:=.reg [⟨some 6, none,.asg (.c (vi 0))⟩] [0,3,4,5,6] []
def z385r6:IC:=.reg [⟨some 17, none,.mv (.t 6)⟩,⟨some 18, none,.mv (.t 0)⟩,⟨some 19, none,.len (.t 18)⟩,⟨some 20, none,.bin .lss (.t 17) (.t 19)⟩] [0,3,4,5,6,20] []
def z385r7:IC:=.reg [⟨some 23, none,.mv (.t 5)⟩,⟨some 24, none,.mv (.t 0)⟩,⟨some 25, none,.mv (.t 6)⟩,⟨some 26, none,.iadr 1 (.t 24) (.t 25)⟩,⟨some 27, none,.load false 1 (.t 26)⟩,⟨some 28, none,.mv (.t 4)⟩,⟨some 29, none,.iadr 1 (.t 27) (.t 28)⟩,⟨some 30, none,.load false 1 (.t 29)⟩,⟨some 31, none,.bsl 1 [(vi 0)] 1 [(0,(.t 30))]⟩,⟨some 32, none,.app 1 (.t 23) (.t 31)⟩,⟨some 5, none,.asg (.t 32)⟩] [0,3,4,5,6] []
def z385r8:IC:=.reg [⟨some 21, none,.mv (.t 6)⟩,⟨some 22, none,.bin .add (.t 21) (.c (vi 1))⟩,⟨some 6, none,.asg (.t 22)⟩] [0,3,4,5,6] []
def z385l9:IC:=(.seq (.seq z385r6 (.cond (.t 20) .skip (.exit 2))) (.seq (.block 3 z385r7) z385r8))
def z385r10:IC:=.reg [⟨some 33, none,.mv (.t 3)⟩,⟨some 34, none,.mv (.t 5)⟩,⟨some 35, none,.bsl 1 [(.slice none 0 0)] 1 [(0,(.t 34))]⟩,⟨some 36, none,.app 1 (.t 33) (.t 35)⟩,⟨some 3, none,.asg (.t 36)⟩] [0,3,4] []
def z385r11:IC:=.reg [⟨some 14, none,.mv (.t 4)⟩,⟨some 15, none,.bin .add (.t 14) (.c (vi 1))⟩,⟨some 4, none,.asg (.t 15)⟩] [0,3,4] []
def z385l12:IC:=(.seq (.seq z385r3 (.cond (.t 13) .skip (.exit 0))) (.seq (.block 1 (.seq z385r4 (.seq (.seq z385r5 (.block 2 (.loop z385l9))) z385r10))) z385r11))
def z385r13:IC:=.reg [⟨some 37, none,.mv (.t 3)⟩,⟨some 2, none,.asgm (.t 37)⟩] [2,3] []
def zi385:IFun:=⟨[.t 2],[],(.seq z385r0 (.seq z385r1 (.seq (.seq z385r2 (.block 0 (.loop z385l12))) (.seq z385r13 .ret))))⟩
def z387r0:IC:=.reg [⟨some 4, none,.asg (.c (.bool false))⟩] [0,1] []
def z387r1:IC:=.reg [⟨some 5, none,.asg (.c (vi 0))⟩] [0,1,5] []
def z387r2:IC:=.reg [⟨some 7, none,.mv (.t 5)⟩,⟨some 8, none,.mv (.t 0)⟩,⟨some 9, none,.len (.t 8)⟩,⟨some 10, none,.bin .lss (.t 7) (.t 9)⟩] [0,1,5,10] []
def z387r3:IC:=.reg [⟨some 13, none,.mv (.t 0)⟩,⟨some 14, none,.mv (.t 5)⟩,⟨some 15, none,.iadr 1 (.t 13) (.t 14)⟩,⟨some 16, none,.load false 1 (.t 15)⟩,⟨some 17, none,.mv (.t 1)⟩,⟨some 18, none,.len (.t 17)⟩,⟨some 19, none,.call zl132 [(.val,(.t 16)),(.val,(.c (vi 0))),(.val,(.t 18))] true⟩,⟨some 20, none,.unop .not (.t 19)⟩] [0,1,5,20] []
def z387r4:IC:=.reg [⟨some 4, none,.asg (.c (.bool false))⟩] [4] []
def z387r5:IC:=.reg [⟨some 11, none,.mv (.t 5)⟩,⟨some 12, none,.bin .add (.t 11) (.c (vi 1))⟩,⟨some 5, none,.asg (.t 12)⟩] [0,1,5] []
def z387l6:IC:=(.seq (.seq z387r2 (.cond (.t 10) .skip (.exit 0))) (.seq (.block 1 (.seq z387r3 (.cond (.t 20) (.seq z387r4 .ret) .skip))) z387r5))
def z387r7:IC:=.reg [⟨some 6, none,.asg (.c (vi 0))⟩] [0,1,6] []
def z387r8:IC:=.reg [⟨some 21, none,.mv (.t 6)⟩,⟨some 22, none,.mv (.t 1)⟩,⟨some 23, none,.len (.t 22)⟩,⟨some 24, none,.bin .lss (.t 21) (.t 23)⟩] [0,1,6,24] []
def z387r9:IC:=.reg [⟨some 27, none,.mv (.t 1)⟩,⟨some 28, none,.mv (.t 6)⟩,⟨some 29, none,.iadr 1 (.t 27) (.t 28)⟩,⟨some 30, none,.load false 1 (.t 29)⟩,⟨some 31, none,.mv (.t 0)⟩,⟨some 32, none,.len (.t 31)⟩,⟨some 33, none,.call zl132 [(.val,(.t 30)),(.val,(.c (vi 0))),(.val,(.t 32))] true⟩,⟨some 34, none,.unop .not (.t 33)⟩] [0,1,6,34] []
def z387r10:IC:=.reg [⟨some 4, none,.asg (.c (.bool false))⟩] [4] []
def z387r11:IC:=.reg [⟨some 25, none,.mv (.t 6)⟩,⟨some 26, none,.bin .add (.t 25) (.c (vi 1))⟩,⟨some 6, none,.asg (.t 26)⟩] [0,1,6] []
def z387l12:IC:=(.seq (.seq z387r8 (.cond (.t 24) .skip (.exit 2))) (.seq (.block 3 (.seq z387r9 (.cond (.t 34) (.seq z387r10 .ret) .skip))) z387r11))
def z387r13:IC:=.reg [⟨some 35, none,.mv (.t 0)⟩,⟨some 36, none,.len (.t 35)⟩,⟨some 37, none,.call zl132 [(.val,(.t 36)),(.val,(.c (vi 1))),(.val,(.c (vi 5)))] true⟩,⟨some 38, none,.asg (.t 37)⟩,⟨some 39, (some (38,true)),.mv (.t 1)⟩,⟨some 40, (some (38,true)),.len (.t 39)⟩,⟨some 41, (some (38,true)),.call zl132 [(.val,(.t 40)),(.val,(.c (vi 1))),(.val,(.c (vi 5)))] true⟩,⟨some 42, none,.pick (.t 38) (.t 41) (.c (.bool false))⟩,⟨some 4, none,.asg (.t 42)⟩] [4] []
def zi387:IFun:=⟨[.t 4],[],(.seq z387r0 (.seq (.seq z387r1 (.block 0 (.loop z387l6))) (.seq (.seq z387r7 (.block 2 (.loop z387l12))) (.seq z387r13 .ret))))⟩
def tbl:List (Nat×IFun):=[(zl2,zi2),(zl4,zi4),(zl504,zi504),(zl505,zi505),(zl165,zi165),(zl176,zi176),(zl200,zi200),(zl29,zi29),(zl30,zi30),(zl31,zi31),(zl37,zi37),(zl210,zi210),(zl211,zi211),(zl38,zi38),(zl212,zi212),(zl40,zi40),(zl41,zi41),(zl532,zi532),(zl66,zi66),(zl68,zi68),(zl70,zi70),(zl71,zi71),(zl72,zi72),(zl73,zi73),(zl75,zi75),(zl76,zi76),(zl273,zi273),(zl78,zi78),(zl278,zi278),(zl86,zi86),(zl101,zi101),(zl289,zi289),(zl304,zi304),(zl315,zi315),(zl331,zi331),(zl123,zi123),(zl127,zi127),(zl351,zi351),(zl132,zi132),(zl353,zi353),(zl360,zi360),(zl361,zi361),(zl137,zi137),(zl139,zi139),(zl140,zi140),(zl371,zi371),(zl382,zi382),(zl385,zi385),(zl387,zi387)]
def tb:Tbl:=tbOf tbl
theorem zt2:tb zl2=some zi2:=by kernel_rfl
theorem zt4:tb zl4=some zi4:=by kernel_rfl
theorem zt504:tb zl504=some zi504:=by kernel_rfl
theorem zt505:tb zl505=some zi505:=by kernel_rfl
theorem zt165:tb zl165=some zi165:=by kernel_rfl
theorem zt176:tb zl176=some zi176:=by kernel_rfl
theorem zt200:tb zl200=some zi200:=by kernel_rfl
theorem zt29:tb zl29=some zi29:=by kernel_rfl
theorem zt30:tb zl30=some zi30:=by kernel_rfl
theorem zt31:tb zl31=some zi31:=by kernel_rfl
theorem zt37:tb zl37=some zi37:=by kernel_rfl
theorem zt210:tb zl210=some zi210:=by kernel_rfl
theorem zt211:tb zl211=some zi211:=by kernel_rfl
theorem zt38:tb zl38=some zi38:=by kernel_rfl
theorem zt212:tb zl212=some zi212:=by kernel_rfl
theorem zt40:tb zl40=some zi40:=by kernel_rfl
theorem zt41:tb zl41=some zi41:=by kernel_rfl
theorem zt532:tb zl532=some zi532:=by kernel_rfl
theorem zt66:tb zl66=some zi66:=by kernel_rfl
theorem zt68:tb zl68=some zi68:=by kernel_rfl
theorem zt70:tb zl70=some zi70:=by kernel_rfl
theorem zt71:tb zl71=some zi71:=by kernel_rfl
theorem zt72:tb zl72=some zi72:=by kernel_rfl
theorem zt73:tb zl73=some zi73:=by kernel_rfl
theorem zt75:tb zl75=some zi75:=by kernel_rfl
theorem zt76:tb zl76=some zi76:=by kernel_rfl
theorem zt273:tb zl273=some zi273:=by kernel_rfl
theorem zt78:tb zl78=some zi78:=by kernel_rfl
theorem zt278:tb zl278=some zi278:=by kernel_rfl
theorem zt86:tb zl86=some zi86:=by kernel_rfl
theorem zt101:tb zl101=some zi101:=by kernel_rfl
theorem zt289:tb zl289=some zi289:=by kernel_rfl
theorem zt304:tb zl304=some zi304:=by kernel_rfl
theorem zt315:tb zl315=some zi315:=by kernel_rfl
theorem zt331:tb zl331=some zi331:=by kernel_rfl
theorem zt123:tb zl123=some zi123:=by kernel_rfl
theorem zt127:tb zl127=some zi127:=by kernel_rfl
theorem zt351:tb zl351=some zi351:=by kernel_rfl
theorem zt132:tb zl132=some zi132:=by kernel_rfl
theorem zt353:tb zl353=some zi353:=by kernel_rfl
theorem zt360:tb zl360=some zi360:=by kernel_rfl
theorem zt361:tb zl361=some zi361:=by kernel_rfl
theorem zt137:tb zl137=some zi137:=by kernel_rfl
theorem zt139:tb zl139=some zi139:=by kernel_rfl
theorem zt140:tb zl140=some zi140:=by kernel_rfl
theorem zt371:tb zl371=some zi371:=by kernel_rfl
theorem zt382:tb zl382=some zi382:=by kernel_rfl
theorem zt385:tb zl385=some zi385:=by kernel_rfl
theorem zt387:tb zl387=some zi387:=by kernel_rfl
end Go.Idl
