/- Part 4 of a proof by an ideal interpreter of the code: its definitions and lemmas. Conditions: none. -/
import Derived.KernelRfl
import Derived.Test.YtmhcaeaomjegmaaA3
set_option linter.all false
set_option linter.unusedVariables false
set_option linter.unusedSimpArgs false
namespace Go.Idl
open Go
abbrev vi (n:Int):Value:=.int .i64 n
abbrev zl2:Lab:=2
abbrev zl4:Lab:=4
abbrev zl9:Lab:=9
abbrev zl20:Lab:=20
abbrev zl25:Lab:=25
abbrev zl26:Lab:=26
abbrev zl29:Lab:=29
abbrev zl30:Lab:=30
abbrev zl31:Lab:=31
abbrev zl32:Lab:=32
abbrev zl36:Lab:=36
abbrev zl37:Lab:=37
abbrev zl38:Lab:=38
abbrev zl48:Lab:=48
abbrev zl49:Lab:=49
abbrev zl50:Lab:=50
abbrev zl56:Lab:=56
abbrev zl57:Lab:=57
abbrev zl60:Lab:=60
abbrev zl61:Lab:=61
abbrev zl62:Lab:=62
abbrev zl63:Lab:=63
abbrev zl64:Lab:=64
abbrev zl66:Lab:=66
abbrev zl67:Lab:=67
abbrev zl68:Lab:=68
abbrev zl70:Lab:=70
abbrev zl71:Lab:=71
abbrev zl72:Lab:=72
abbrev zl73:Lab:=73
abbrev zl74:Lab:=74
abbrev zl76:Lab:=76
abbrev zl78:Lab:=78
abbrev zl80:Lab:=80
abbrev zl82:Lab:=82
abbrev zl84:Lab:=84
abbrev zl86:Lab:=86
abbrev zl95:Lab:=95
abbrev zl98:Lab:=98
abbrev zl99:Lab:=99
abbrev zl101:Lab:=101
abbrev zl103:Lab:=103
abbrev zl123:Lab:=123
abbrev zl125:Lab:=125
abbrev zl126:Lab:=126
abbrev zl127:Lab:=127
abbrev zl130:Lab:=130
abbrev zl131:Lab:=131
abbrev zl132:Lab:=132
abbrev zl138:Lab:=138
abbrev zl145:Lab:=145
abbrev zl164:Lab:=164
abbrev zl171:Lab:=171
abbrev zl210:Lab:=210
abbrev zl211:Lab:=211
abbrev zl212:Lab:=212
abbrev zl216:Lab:=216
abbrev zl233:Lab:=233
abbrev zl241:Lab:=241
abbrev zl243:Lab:=243
abbrev zl263:Lab:=263
abbrev zl266:Lab:=266
abbrev zl269:Lab:=269
abbrev zl273:Lab:=273
abbrev zl278:Lab:=278
abbrev zl289:Lab:=289
abbrev zl291:Lab:=291
abbrev zl349:Lab:=349
abbrev zl449:Lab:=449
abbrev zl515:Lab:=515
abbrev zl516:Lab:=516
abbrev zl529:Lab:=529
abbrev zl551:Lab:=551
abbrev zl578:Lab:=578
abbrev zl587:Lab:=587
abbrev zl589:Lab:=589
def z2r0:IC:=.reg [⟨some 4, none,.asg (.c (.bool false))⟩] [0,1] []
def z2r1:IC:=.reg [⟨some 5, none,.mv (.t 0)⟩,⟨some 6, none,.call zl4 [(.val,(.t 5))] true⟩,⟨some 7, none,.asg (.t 6)⟩,⟨some 8, (some (7,true)),.mv (.t 1)⟩,⟨some 9, (some (7,true)),.call zl4 [(.val,(.t 8))] true⟩,⟨some 10, (some (7,true)),.unop .not (.t 9)⟩,⟨some 11, none,.pick (.t 7) (.t 10) (.c (.bool false))⟩,⟨some 12, none,.asg (.t 11)⟩,⟨some 13, (some (12,false)),.mv (.t 0)⟩,⟨some 14, (some (12,false)),.mv (.t 1)⟩,⟨some 15, (some (12,false)),.bin .lss (.t 13) (.t 14)⟩,⟨some 16, none,.pick (.t 12) (.c (.bool true)) (.t 15)⟩,⟨some 4, none,.asg (.t 16)⟩] [4] []
def zi2:IFun:=⟨[.t 4],[],(.seq z2r0 (.seq z2r1 .ret))⟩
def z4r0:IC:=.reg [⟨some 2, none,.asg (.c (.bool false))⟩] [0] []
def z4r1:IC:=.reg [⟨some 3, none,.mv (.t 0)⟩,⟨some 4, none,.mv (.t 0)⟩,⟨some 5, none,.bin .neq (.t 3) (.t 4)⟩,⟨some 2, none,.asg (.t 5)⟩] [2] []
def zi4:IFun:=⟨[.t 2],[],(.seq z4r0 (.seq z4r1 .ret))⟩
def z164r0:IC:=.reg [⟨some 2, none,.asg (.c (vi 0))⟩] [0] []
def z164r1:IC:=.reg [⟨some 3, none,.asg (.c (vi 0))⟩] [0,3] []
def z164r2:IC:=.reg [⟨some 6, none,.mv (.t 0)⟩,⟨some 7, none,.call zl20 [(.rd,(.t 6))] true⟩,⟨some 8, none,.len (.t 7)⟩,⟨some 9, none,.mv (.c (vi 0))⟩] [3,7,8,9] []
def z164r3:IC:=.reg [⟨some 10, none,.bin .lss (.t 9) (.t 8)⟩] [3,7,8,9,10] []
def z164r4:IC:=.reg [⟨some 11, none,.asg (.t 9)⟩,⟨some 12, none,.iadr 1 (.t 7) (.t 9)⟩,⟨some 13, none,.load false 1 (.t 12)⟩,⟨some 4, none,.asg (.t 11)⟩,⟨some 5, none,.asg (.t 13)⟩] [3,4,5,7,8,9] []
def z164r5:IC:=.reg [⟨some 14, none,.mv (.t 5)⟩,⟨some 15, none,.mv (.t 4)⟩,⟨some 16, none,.bin .geq (.t 14) (.t 15)⟩] [3,4,7,8,9,16] []
def z164r6:IC:=.reg [⟨some 17, none,.mv (.t 4)⟩,⟨some 18, none,.bin .add (.t 17) (.c (vi 1))⟩,⟨some 3, none,.asg (.t 18)⟩] [3,7,8,9] []
def z164r7:IC:=.reg [⟨some 19, none,.bin .add (.t 9) (.c (vi 1))⟩,⟨some 9, none,.asg (.t 19)⟩] [3,7,8,9] []
def z164l8:IC:=(.seq z164r3 (.seq (.cond (.t 10) .skip (.exit 0)) (.seq (.block 1 (.seq z164r4 (.seq z164r5 (.cond (.t 16) z164r6 .skip)))) z164r7)))
def z164r9:IC:=.reg [⟨some 20, none,.mv (.t 3)⟩,⟨some 2, none,.asgm (.t 20)⟩] [2] []
def zi164:IFun:=⟨[.t 2],[],(.seq z164r0 (.seq z164r1 (.seq (.seq z164r2 (.block 0 (.loop z164l8))) (.seq z164r9 .ret))))⟩
def z9r0:IC:=.reg [⟨some 1, none,.box (.t 0)⟩,⟨some 2, none,.asg (.c (.slice none 0 0))⟩] [1] []
def z9r1:IC:=.reg [⟨some 6, none,.fadr 0 (.t 1)⟩,⟨some 7, none,.load false 1 (.t 6)⟩,⟨some 8, none,.mksl 1 [(vi 0)] (.t 7) (.t 7)⟩,⟨some 3, none,.asg (.t 8)⟩] [1,3] []
def z9r2:IC:=.reg [⟨some 9, none,.fadr 1 (.t 1)⟩,⟨some 10, none,.load false 1 (.t 9)⟩,⟨some 11, none,.len (.t 10)⟩,⟨some 12, none,.mv (.c (vi 0))⟩] [1,3,10,11,12] []
def z9r3:IC:=.reg [⟨some 13, none,.bin .lss (.t 12) (.t 11)⟩] [1,3,10,11,12,13] []
def z9r4:IC:=.reg [⟨some 14, none,.iadr 2 (.t 10) (.t 12)⟩,⟨some 15, none,.load true 2 (.t 14)⟩,⟨some 5, none,.alloc [(vi 0),(vi 0)]⟩,⟨none,none,.store 2 (.t 5) (.t 15)⟩] [1,3,5,10,11,12] []
def z9r5:IC:=.reg [⟨some 16, none,.mv (.t 3)⟩,⟨some 17, none,.fadr 0 (.t 5)⟩,⟨some 18, none,.load false 1 (.t 17)⟩,⟨some 19, none,.iadr 1 (.t 16) (.t 18)⟩,⟨some 20, none,.load false 1 (.t 19)⟩,⟨some 21, none,.bin .add (.t 20) (.c (vi 1))⟩,⟨some 22, none,.iadr 1 (.t 16) (.t 18)⟩,⟨none,none,.store 1 (.t 22) (.t 21)⟩] [1,3,5,10,11,12] []
def z9r6:IC:=.reg [⟨some 23, none,.mv (.t 3)⟩,⟨some 24, none,.fadr 1 (.t 5)⟩,⟨some 25, none,.load false 1 (.t 24)⟩,⟨some 26, none,.iadr 1 (.t 23) (.t 25)⟩,⟨some 27, none,.load false 1 (.t 26)⟩,⟨some 28, none,.bin .add (.t 27) (.c (vi 1))⟩,⟨some 29, none,.iadr 1 (.t 23) (.t 25)⟩,⟨none,none,.store 1 (.t 29) (.t 28)⟩] [1,3,10,11,12] []
def z9r7:IC:=.reg [⟨some 30, none,.bin .add (.t 12) (.c (vi 1))⟩,⟨some 12, none,.asg (.t 30)⟩] [1,3,10,11,12] []
def z9l8:IC:=(.seq z9r3 (.seq (.cond (.t 13) .skip (.exit 0)) (.seq (.block 1 (.seq z9r4 (.seq z9r5 z9r6))) z9r7)))
def z9r9:IC:=.reg [⟨some 31, none,.mv (.t 3)⟩,⟨some 2, none,.asgm (.t 31)⟩] [2,3] []
def zi9:IFun:=⟨[.t 2],[],(.seq z9r0 (.seq z9r1 (.seq (.seq z9r2 (.block 0 (.loop z9l8))) (.seq z9r9 .ret))))⟩
def z171r0:IC:=.reg [⟨some 3, none,.box (.t 0)⟩,⟨some 6, none,.asg (.c (.bool false))⟩] [1,2,3] []
def z171r1:IC:=.reg [⟨some 7, none,.fadr 1 (.t 3)⟩,⟨some 8, none,.load false 1 (.t 7)⟩,⟨some 9, none,.mv (.t 1)⟩,⟨some 10, none,.mv (.t 2)⟩,⟨some 11, none,.call zl36 [(.val,(.t 9)),(.val,(.t 10))] true⟩,⟨some 12, none,.call zl263 [(.rd,(.t 8)),(.val,(.t 11))] true⟩,⟨some 6, none,.asg (.t 12)⟩] [6] [[0,2,3,4,1,5,6]]
def zi171:IFun:=⟨[.t 6],[],(.seq z171r0 (.seq z171r1 .ret))⟩
def z20r0:IC:=.reg [⟨some 2, none,.asg (.c (.slice none 0 0))⟩] [0] []
def z20r1:IC:=.reg [⟨some 3, none,.mv (.t 0)⟩,⟨some 4, none,.call zl25 [(.rd,(.t 3))] true⟩,⟨some 5, none,.unop .not (.t 4)⟩] [0,5] []
def z20r2:IC:=.reg [⟨some 2, none,.asg (.c (.slice none 0 0))⟩] [2] []
def z20r3:IC:=.reg [⟨some 6, none,.mv (.t 0)⟩,⟨some 7, none,.call zl37 [(.rd,(.t 6))] true⟩,⟨some 2, none,.asg (.t 7)⟩] [2] []
def zi20:IFun:=⟨[.t 2],[],(.seq z20r0 (.seq (.seq z20r1 (.cond (.t 5) (.seq z20r2 .ret) .skip)) (.seq z20r3 .ret)))⟩
def z515r0:IC:=.reg [⟨some 1, none,.box (.t 0)⟩,⟨some 2, none,.asg (.c (.slice none 0 0))⟩,⟨some 3, none,.asg (.c (.slice none 0 0))⟩,⟨some 4, none,.asg (.c (.bool false))⟩] [1] []
def z515r1:IC:=.reg [⟨some 12, none,.load true 2 (.t 1)⟩,⟨some 13, none,.call zl26 [(.rd,(.t 12))] true⟩,⟨some 14, none,.unop .not (.t 13)⟩] [1,14] []
def z515r2:IC:=.reg [⟨some 2, none,.asg (.c (.slice none 0 0))⟩,⟨some 3, none,.asg (.c (.slice none 0 0))⟩,⟨some 4, none,.asg (.c (.bool false))⟩] [2,3,4] []
def z515r3:IC:=.reg [⟨some 15, none,.load true 2 (.t 1)⟩,⟨some 16, none,.call zl9 [(.rd,(.t 15))] true⟩,⟨some 5, none,.asg (.t 16)⟩] [1,5] []
def z515r4:IC:=.reg [⟨some 17, none,.mv (.t 5)⟩,⟨some 18, none,.fadr 0 (.t 1)⟩,⟨some 19, none,.load false 1 (.t 18)⟩,⟨some 20, none,.call zl212 [(.val,(.t 19)),(.val,(.c (vi (-1))))] true⟩,⟨some 21, none,.mv (.t 5)⟩,⟨some 22, none,.call zl164 [(.rd,(.t 21))] true⟩,⟨some 23, none,.call zl210 [(.rd,(.t 17)),(.rd,(.t 20)),(.val,(.t 22))] true⟩,⟨some 6, none,.alloc [(.slice none 0 0)]⟩,⟨none,none,.store 1 (.t 6) (.t 23)⟩] [1,6] []
def z515r5:IC:=.reg [⟨some 24, none,.load false 1 (.t 6)⟩,⟨some 25, none,.callp zl78 (.t 24)⟩] [1,6] []
def z515r6:IC:=.reg [⟨some 26, none,.fadr 0 (.t 1)⟩,⟨some 27, none,.load false 1 (.t 26)⟩,⟨some 28, none,.call zl212 [(.val,(.t 27)),(.val,(.c (vi (-1))))] true⟩,⟨some 29, none,.mkfn zl516 [(.t 6)]⟩,⟨some 30, none,.call zl266 [(.tk,(.t 28)),(.val,(.t 29))] false⟩,⟨some 7, none,.asg (.t 30)⟩] [1,6,7] []
def z515r7:IC:=.reg [⟨some 31, none,.fadr 0 (.t 1)⟩,⟨some 32, none,.load false 1 (.t 31)⟩,⟨some 33, none,.call zl216 [(.val,(.t 32))] true⟩,⟨some 34, none,.len (.t 33)⟩,⟨some 35, none,.mv (.c (vi 0))⟩] [1,6,7,33,34,35] []
def z515r8:IC:=.reg [⟨some 36, none,.bin .lss (.t 35) (.t 34)⟩] [1,6,7,33,34,35,36] []
def z515r9:IC:=.reg [⟨some 37, none,.iadr 2 (.t 33) (.t 35)⟩,⟨some 38, none,.load true 2 (.t 37)⟩,⟨some 9, none,.alloc [(vi 0),(vi 0)]⟩,⟨none,none,.store 2 (.t 9) (.t 38)⟩] [1,6,7,9,33,34,35] []
def z515r10:IC:=.reg [⟨some 39, none,.load false 1 (.t 6)⟩,⟨some 40, none,.fadr 0 (.t 9)⟩,⟨some 41, none,.load false 1 (.t 40)⟩,⟨some 42, none,.call zl551 [(.rd,(.t 39)),(.val,(.t 41))] true⟩,⟨some 43, none,.load false 1 (.t 6)⟩,⟨some 44, none,.fadr 1 (.t 9)⟩,⟨some 45, none,.load false 1 (.t 44)⟩,⟨some 46, none,.call zl551 [(.rd,(.t 43)),(.val,(.t 45))] true⟩,⟨some 10, none,.asg (.t 42)⟩,⟨some 11, none,.asg (.t 46)⟩] [1,6,7,9,10,11,33,34,35] [[0,1,2,5,6,3,4,7,8,9],[0,1,2,4,3,5,6,7,8,9],[0,1,2,4,5,6,3,7,8,9]]
def z515r11:IC:=.reg [⟨some 47, none,.mv (.t 10)⟩,⟨some 48, none,.mv (.t 11)⟩,⟨some 49, none,.eqb false (.t 47) (.t 48)⟩,⟨some 50, none,.asg (.t 49)⟩,⟨some 51, (some (50,true)),.load true 2 (.t 1)⟩,⟨some 52, (some (50,true)),.fadr 0 (.t 9)⟩,⟨some 53, (some (50,true)),.load false 1 (.t 52)⟩,⟨some 54, (some (50,true)),.fadr 1 (.t 9)⟩,⟨some 55, (some (50,true)),.load false 1 (.t 54)⟩,⟨some 56, (some (50,true)),.call zl171 [(.rd,(.t 51)),(.val,(.t 53)),(.val,(.t 55))] true⟩,⟨some 57, (some (50,true)),.mv (.t 10)⟩,⟨some 58, (some (50,true)),.eqb true (.t 56) (.t 57)⟩,⟨some 59, none,.pick (.t 50) (.t 58) (.c (.bool false))⟩] [1,6,7,33,34,35,59] []
def z515r12:IC:=.reg [⟨some 2, none,.asg (.c (.slice none 0 0))⟩,⟨some 3, none,.asg (.c (.slice none 0 0))⟩,⟨some 4, none,.asg (.c (.bool false))⟩] [2,3,4] []
def z515r13:IC:=.reg [⟨some 60, none,.bin .add (.t 35) (.c (vi 1))⟩,⟨some 35, none,.asg (.t 60)⟩] [1,6,7,33,34,35] []
def z515l14:IC:=(.seq z515r8 (.seq (.cond (.t 36) .skip (.exit 0)) (.seq (.block 1 (.seq z515r9 (.seq z515r10 (.seq z515r11 (.cond (.t 59) (.seq z515r12 .ret) .skip))))) z515r13)))
def z515r15:IC:=.reg [⟨some 61, none,.load false 1 (.t 6)⟩,⟨some 62, none,.call zl31 [(.rd,(.t 61))] true⟩,⟨some 63, none,.mv (.t 7)⟩,⟨some 64, none,.call zl31 [(.rd,(.t 63))] true⟩,⟨some 2, none,.asg (.t 62)⟩,⟨some 3, none,.asg (.t 64)⟩,⟨some 4, none,.asg (.c (.bool true))⟩] [2,3,4] []
def zi515:IFun:=⟨[.t 2,.t 3,.t 4],[],(.seq z515r0 (.seq (.seq z515r1 (.cond (.t 14) (.seq z515r2 .ret) .skip)) (.seq z515r3 (.seq z515r4 (.seq z515r5 (.seq z515r6 (.seq (.seq z515r7 (.block 0 (.loop z515l14))) (.seq z515r15 .ret))))))))⟩
def z516r0:IC:=.reg [⟨some 3, none,.asg (.c (.bool false))⟩] [0,1] []
def z516r1:IC:=.reg [⟨some 4, none,.load false 1 (.t 1)⟩,⟨some 5, none,.mv (.t 0)⟩,⟨some 6, none,.call zl551 [(.rd,(.t 4)),(.val,(.t 5))] true⟩,⟨some 3, none,.asg (.t 6)⟩] [3] []
def zi516:IFun:=⟨[.t 3],[],(.seq z516r0 (.seq z516r1 .ret))⟩
def z25r0:IC:=.reg [⟨some 2, none,.asg (.c (.bool false))⟩] [0] []
def z25r1:IC:=.reg [⟨some 3, none,.mv (.t 0)⟩,⟨some 4, none,.len (.t 3)⟩,⟨some 5, none,.bin .leq (.t 4) (.c (vi 7))⟩,⟨some 6, none,.asg (.t 5)⟩,⟨some 7, (some (6,true)),.mv (.t 0)⟩,⟨some 8, (some (6,true)),.mv (.t 0)⟩,⟨some 9, (some (6,true)),.len (.t 8)⟩,⟨some 10, (some (6,true)),.bin .sub (.t 9) (.c (vi 1))⟩,⟨some 11, (some (6,true)),.call zl29 [(.rd,(.t 7)),(.val,(.c (vi 0))),(.val,(.t 10))] true⟩,⟨some 12, none,.pick (.t 6) (.t 11) (.c (.bool false))⟩,⟨some 2, none,.asg (.t 12)⟩] [2] []
def zi25:IFun:=⟨[.t 2],[],(.seq z25r0 (.seq z25r1 .ret))⟩
def z26r0:IC:=.reg [⟨some 1, none,.box (.t 0)⟩,⟨some 2, none,.asg (.c (.bool false))⟩] [1] []
def z26r1:IC:=.reg [⟨some 5, none,.fadr 1 (.t 1)⟩,⟨some 6, none,.load false 1 (.t 5)⟩,⟨some 7, none,.len (.t 6)⟩,⟨some 8, none,.mv (.c (vi 0))⟩] [1,6,7,8] []
def z26r2:IC:=.reg [⟨some 9, none,.bin .lss (.t 8) (.t 7)⟩] [1,6,7,8,9] []
def z26r3:IC:=.reg [⟨some 10, none,.asg (.t 8)⟩,⟨some 11, none,.iadr 2 (.t 6) (.t 8)⟩,⟨some 12, none,.load true 2 (.t 11)⟩,⟨some 4, none,.alloc [(vi 0),(vi 0)]⟩,⟨some 3, none,.asg (.t 10)⟩,⟨none,none,.store 2 (.t 4) (.t 12)⟩] [1,3,4,6,7,8] []
def z26r4:IC:=.reg [⟨some 13, none,.fadr 0 (.t 4)⟩,⟨some 14, none,.load false 1 (.t 13)⟩,⟨some 15, none,.bin .lss (.t 14) (.c (vi 0))⟩,⟨some 16, none,.asg (.t 15)⟩,⟨some 17, (some (16,false)),.fadr 0 (.t 4)⟩,⟨some 18, (some (16,false)),.load false 1 (.t 17)⟩,⟨some 19, (some (16,false)),.fadr 1 (.t 4)⟩,⟨some 20, (some (16,false)),.load false 1 (.t 19)⟩,⟨some 21, (some (16,false)),.bin .geq (.t 18) (.t 20)⟩,⟨some 22, none,.pick (.t 16) (.c (.bool true)) (.t 21)⟩,⟨some 23, none,.asg (.t 22)⟩,⟨some 24, (some (23,false)),.fadr 1 (.t 4)⟩,⟨some 25, (some (23,false)),.load false 1 (.t 24)⟩,⟨some 26, (some (23,false)),.fadr 0 (.t 1)⟩,⟨some 27, (some (23,false)),.load false 1 (.t 26)⟩,⟨some 28, (some (23,false)),.bin .geq (.t 25) (.t 27)⟩,⟨some 29, none,.pick (.t 23) (.c (.bool true)) (.t 28)⟩,⟨some 30, none,.asg (.t 29)⟩,⟨some 31, (some (30,false)),.mv (.t 3)⟩,
    ⟨some 32, (some (30,false)),.bin .gtr (.t 31) (.c (vi 0))⟩,⟨some 33, (some (30,false)),.asg (.t 32)⟩,⟨some 34, (some (33,true)),.fadr 1 (.t 1)⟩,⟨some 35, (some (33,true)),.load false 1 (.t 34)⟩,⟨some 36, (some (33,true)),.mv (.t 3)⟩,⟨some 37, (some (33,true)),.bin .sub (.t 36) (.c (vi 1))⟩,⟨some 38, (some (33,true)),.iadr 2 (.t 35) (.t 37)⟩,⟨some 39, (some (33,true)),.load true 2 (.t 38)⟩,⟨some 40, (some (33,true)),.load true 2 (.t 4)⟩,⟨some 41, (some (33,true)),.call zl32 [(.val,(.t 39)),(.val,(.t 40))] true⟩,⟨some 42, (some (33,true)),.bin .geq (.t 41) (.c (vi 0))⟩,⟨some 43, (some (30,false)),.pick (.t 33) (.t 42) (.c (.bool false))⟩,⟨some 44, none,.pick (.t 30) (.c (.bool true)) (.t 43)⟩] [1,6,7,8,44] []
def z26r5:IC:=.reg [⟨some 2, none,.asg (.c (.bool false))⟩] [2] []
def z26r6:IC:=.reg [⟨some 45, none,.bin .add (.t 8) (.c (vi 1))⟩,⟨some 8, none,.asg (.t 45)⟩] [1,6,7,8] []
def z26l7:IC:=(.seq z26r2 (.seq (.cond (.t 9) .skip (.exit 0)) (.seq (.block 1 (.seq z26r3 (.seq z26r4 (.cond (.t 44) (.seq z26r5 .ret) .skip)))) z26r6)))
def z26r8:IC:=.reg [⟨some 46, none,.fadr 0 (.t 1)⟩,⟨some 47, none,.load false 1 (.t 46)⟩,⟨some 48, none,.call zl38 [(.val,(.t 47)),(.val,(.c (vi 0))),(.val,(.c (vi 7)))] true⟩,⟨some 2, none,.asg (.t 48)⟩] [2] []
def zi26:IFun:=⟨[.t 2],[],(.seq z26r0 (.seq (.seq z26r1 (.block 0 (.loop z26l7))) (.seq z26r8 .ret)))⟩
def z29r0:IC:=.reg [⟨some 4, none,.box (.t 1)⟩,⟨some 5, none,.box (.t 2)⟩,⟨some 6, none,.asg (.c (.bool false))⟩] [0,4,5] []
def z29r1:IC:=.reg [⟨some 7, none,.mv (.t 0)⟩,⟨some 8, none,.mkfn zl30 [(.t 4),(.t 5)]⟩,⟨some 9, none,.call zl72 [(.rd,(.t 7)),(.val,(.t 8))] false⟩,⟨some 10, none,.unop .not (.t 9)⟩,⟨some 6, none,.asg (.t 10)⟩] [6] []
def zi29:IFun:=⟨[.t 6],[],(.seq z29r0 (.seq z29r1 .ret))⟩
def z30r0:IC:=.reg [⟨some 4, none,.asg (.c (.bool false))⟩] [0,1,2] []
def z30r1:IC:=.reg [⟨some 5, none,.mv (.t 0)⟩,⟨some 6, none,.load false 1 (.t 1)⟩,⟨some 7, none,.load false 1 (.t 2)⟩,⟨some 8, none,.call zl38 [(.val,(.t 5)),(.val,(.t 6)),(.val,(.t 7))] true⟩,⟨some 9, none,.unop .not (.t 8)⟩,⟨some 4, none,.asg (.t 9)⟩] [4] []
def zi30:IFun:=⟨[.t 4],[],(.seq z30r0 (.seq z30r1 .ret))⟩
def z31r0:IC:=.reg [⟨some 2, none,.asg (.c (.slice none 0 0))⟩] [0] []
def z31r1:IC:=.reg [⟨some 3, none,.mv (.t 0)⟩,⟨some 4, none,.call zl71 [(.rd,(.t 3))] true⟩,⟨some 5, none,.call zl70 [(.tk,(.t 4))] true⟩,⟨some 2, none,.asg (.t 5)⟩] [2] []
def zi31:IFun:=⟨[.t 2],[],(.seq z31r0 (.seq z31r1 .ret))⟩
def z32r0:IC:=.reg [⟨some 2, none,.box (.t 0)⟩,⟨some 3, none,.box (.t 1)⟩,⟨some 4, none,.asg (.c (vi 0))⟩] [2,3] []
def z32r1:IC:=.reg [⟨some 5, none,.fadr 0 (.t 2)⟩,⟨some 6, none,.load false 1 (.t 5)⟩,⟨some 7, none,.fadr 0 (.t 3)⟩,⟨some 8, none,.load false 1 (.t 7)⟩,⟨some 9, none,.bin .neq (.t 6) (.t 8)⟩] [2,3,9] []
def z32r2:IC:=.reg [⟨some 10, none,.fadr 0 (.t 2)⟩,⟨some 11, none,.load false 1 (.t 10)⟩,⟨some 12, none,.fadr 0 (.t 3)⟩,⟨some 13, none,.load false 1 (.t 12)⟩,⟨some 14, none,.bin .sub (.t 11) (.t 13)⟩,⟨some 4, none,.asg (.t 14)⟩] [4] []
def z32r3:IC:=.reg [⟨some 15, none,.fadr 1 (.t 2)⟩,⟨some 16, none,.load false 1 (.t 15)⟩,⟨some 17, none,.fadr 1 (.t 3)⟩,⟨some 18, none,.load false 1 (.t 17)⟩,⟨some 19, none,.bin .sub (.t 16) (.t 18)⟩,⟨some 4, none,.asg (.t 19)⟩] [4] []
def zi32:IFun:=⟨[.t 4],[],(.seq z32r0 (.seq (.seq z32r1 (.cond (.t 9) (.seq z32r2 .ret) .skip)) (.seq z32r3 .ret)))⟩
def z36r0:IC:=.reg [⟨some 4, none,.alloc [(vi 0),(vi 0)]⟩] [0,1,4] []
def z36r1:IC:=.reg [⟨some 5, none,.mv (.t 0)⟩,⟨some 6, none,.mv (.t 1)⟩,⟨some 7, none,.minmax true (.t 5) (.t 6)⟩,⟨some 8, none,.mv (.t 0)⟩,⟨some 9, none,.mv (.t 1)⟩,⟨some 10, none,.minmax false (.t 8) (.t 9)⟩,⟨some 11, none,.build [(vi 0),(vi 0)] [(0,1,(.t 7)),(1,1,(.t 10))]⟩,⟨none,none,.store 2 (.t 4) (.t 11)⟩] [4] []
def zi36:IFun:=⟨[.c 4 2 true],[],(.seq z36r0 (.seq z36r1 .ret))⟩
def z37r0:IC:=.reg [⟨some 2, none,.asg (.c (.slice none 0 0))⟩] [0] []
def z37r1:IC:=.reg [⟨some 4, none,.mv (.t 0)⟩,⟨some 5, none,.call zl31 [(.rd,(.t 4))] true⟩,⟨some 3, none,.asg (.t 5)⟩] [3] []
def z37r2:IC:=.reg [⟨some 6, none,.mv (.t 3)⟩,⟨some 7, none,.call zl78 [(.ld,(.t 6))] false⟩] [3] []
def z37r3:IC:=.reg [⟨some 8, none,.mv (.t 3)⟩,⟨some 9, none,.call zl76 [(.ld,(.t 8))] false⟩] [3] []
def z37r4:IC:=.reg [⟨some 10, none,.mv (.t 3)⟩,⟨some 2, none,.asgm (.t 10)⟩] [2,3] []
def zi37:IFun:=⟨[.t 2],[],(.seq z37r0 (.seq z37r1 (.seq z37r2 (.seq z37r3 (.seq z37r4 .ret)))))⟩
def z210r0:IC:=.reg [⟨some 3, none,.box (.t 0)⟩,⟨some 6, none,.asg (.c (.slice none 0 0))⟩] [1,2,3] []
def z210r1:IC:=.reg [⟨some 8, none,.mv (.t 1)⟩,⟨some 9, none,.call zl31 [(.rd,(.t 8))] true⟩,⟨some 7, none,.asg (.t 9)⟩] [2,3,7] []
def z210r2:IC:=.reg [⟨some 10, none,.mv (.t 7)⟩,⟨some 11, none,.mkfn zl211 [(.t 3)]⟩,⟨some 12, none,.call zl273 [(.ld,(.t 10)),(.val,(.t 11))] false⟩] [2,7] []
def z210r3:IC:=.reg [⟨some 13, none,.mv (.t 7)⟩,⟨some 14, none,.mv (.t 2)⟩,⟨some 15, none,.slc 1 (.t 13) none (some (.t 14)) none⟩,⟨some 6, none,.asgm (.t 15)⟩] [6,7] []
def zi210:IFun:=⟨[.t 6],[],(.seq z210r0 (.seq z210r1 (.seq z210r2 (.seq z210r3 .ret))))⟩
def z211r0:IC:=.reg [⟨some 5, none,.asg (.c (vi 0))⟩] [0,1,2] []
def z211r1:IC:=.reg [⟨some 6, none,.load false 1 (.t 2)⟩,⟨some 7, none,.mv (.t 1)⟩,⟨some 8, none,.iadr 1 (.t 6) (.t 7)⟩,⟨some 9, none,.load false 1 (.t 8)⟩,⟨some 10, none,.load false 1 (.t 2)⟩,⟨some 11, none,.mv (.t 0)⟩,⟨some 12, none,.iadr 1 (.t 10) (.t 11)⟩,⟨some 13, none,.load false 1 (.t 12)⟩,⟨some 14, none,.bin .sub (.t 9) (.t 13)⟩,⟨some 5, none,.asg (.t 14)⟩] [5] []
def zi211:IFun:=⟨[.t 5],[],(.seq z211r0 (.seq z211r1 .ret))⟩
def z38r0:IC:=.reg [⟨some 6, none,.asg (.c (.bool false))⟩] [0,1,2] []
def z38r1:IC:=.reg [⟨some 7, none,.mv (.t 0)⟩,⟨some 8, none,.mv (.t 1)⟩,⟨some 9, none,.bin .geq (.t 7) (.t 8)⟩,⟨some 10, none,.asg (.t 9)⟩,⟨some 11, (some (10,true)),.mv (.t 0)⟩,⟨some 12, (some (10,true)),.mv (.t 2)⟩,⟨some 13, (some (10,true)),.bin .leq (.t 11) (.t 12)⟩,⟨some 14, none,.pick (.t 10) (.t 13) (.c (.bool false))⟩,⟨some 6, none,.asg (.t 14)⟩] [6] []
def zi38:IFun:=⟨[.t 6],[],(.seq z38r0 (.seq z38r1 .ret))⟩
def z212r0:IC:=.reg [⟨some 4, none,.asg (.c (.slice none 0 0))⟩] [0,1] []
def z212r1:IC:=.reg [⟨some 5, none,.asg (.c (.slice none 0 0))⟩] [0,1,5] []
def z212r2:IC:=.reg [⟨some 7, none,.mv (.t 0)⟩,⟨some 8, none,.mv (.c (vi 0))⟩] [1,5,7,8] []
def z212r3:IC:=.reg [⟨some 9, none,.bin .lss (.t 8) (.t 7)⟩] [1,5,7,8,9] []
def z212r4:IC:=.reg [⟨some 10, none,.asg (.t 8)⟩,⟨some 6, none,.asg (.t 10)⟩] [1,5,6,7,8] []
def z212r5:IC:=.reg [⟨some 11, none,.mv (.t 6)⟩,⟨some 12, none,.mv (.t 1)⟩,⟨some 13, none,.bin .neq (.t 11) (.t 12)⟩] [1,5,6,7,8,13] []
def z212r6:IC:=.reg [⟨some 14, none,.mv (.t 5)⟩,⟨some 15, none,.mv (.t 6)⟩,⟨some 16, none,.bsl 1 [(vi 0)] 1 [(0,(.t 15))]⟩,⟨some 17, none,.app 1 (.t 14) (.t 16)⟩,⟨some 5, none,.asg (.t 17)⟩] [1,5,7,8] []
def z212r7:IC:=.reg [⟨some 18, none,.bin .add (.t 8) (.c (vi 1))⟩,⟨some 8, none,.asg (.t 18)⟩] [1,5,7,8] []
def z212l8:IC:=(.seq z212r3 (.seq (.cond (.t 9) .skip (.exit 0)) (.seq (.block 1 (.seq z212r4 (.seq z212r5 (.cond (.t 13) z212r6 .skip)))) z212r7)))
def z212r9:IC:=.reg [⟨some 19, none,.mv (.t 5)⟩,⟨some 4, none,.asgm (.t 19)⟩] [4,5] []
def zi212:IFun:=⟨[.t 4],[],(.seq z212r0 (.seq z212r1 (.seq (.seq z212r2 (.block 0 (.loop z212l8))) (.seq z212r9 .ret))))⟩
def z216r0:IC:=.reg [⟨some 2, none,.asg (.c (.slice none 0 0))⟩] [0] []
def z216r1:IC:=.reg [⟨some 3, none,.asg (.c (.slice none 0 0))⟩] [0,3] []
def z216r2:IC:=.reg [⟨some 6, none,.mv (.t 0)⟩,⟨some 7, none,.mv (.c (vi 0))⟩] [0,3,6,7] []
def z216r3:IC:=.reg [⟨some 8, none,.bin .lss (.t 7) (.t 6)⟩] [0,3,6,7,8] []
def z216r4:IC:=.reg [⟨some 9, none,.asg (.t 7)⟩,⟨some 4, none,.asg (.t 9)⟩] [0,3,4,6,7] []
def z216r5:IC:=.reg [⟨some 10, none,.mv (.t 4)⟩,⟨some 11, none,.bin .add (.t 10) (.c (vi 1))⟩,⟨some 5, none,.asg (.t 11)⟩] [0,3,4,5,6,7] []
def z216r6:IC:=.reg [⟨some 12, none,.mv (.t 5)⟩,⟨some 13, none,.mv (.t 0)⟩,⟨some 14, none,.bin .lss (.t 12) (.t 13)⟩] [0,3,4,5,6,7,14] []
def z216r7:IC:=.reg [⟨some 17, none,.mv (.t 3)⟩,⟨some 18, none,.mv (.t 4)⟩,⟨some 19, none,.mv (.t 5)⟩,⟨some 20, none,.build [(vi 0),(vi 0)] [(0,1,(.t 18)),(1,1,(.t 19))]⟩,⟨some 21, none,.bsl 2 [(vi 0),(vi 0)] 1 [(0,(.t 20))]⟩,⟨some 22, none,.app 2 (.t 17) (.t 21)⟩,⟨some 3, none,.asg (.t 22)⟩] [0,3,4,5,6,7] []
def z216r8:IC:=.reg [⟨some 15, none,.mv (.t 5)⟩,⟨some 16, none,.bin .add (.t 15) (.c (vi 1))⟩,⟨some 5, none,.asg (.t 16)⟩] [0,3,4,5,6,7] []
def z216l9:IC:=(.seq (.seq z216r6 (.cond (.t 14) .skip (.exit 2))) (.seq (.block 3 z216r7) z216r8))
def z216r10:IC:=.reg [⟨some 23, none,.bin .add (.t 7) (.c (vi 1))⟩,⟨some 7, none,.asg (.t 23)⟩] [0,3,6,7] []
def z216l11:IC:=(.seq z216r3 (.seq (.cond (.t 8) .skip (.exit 0)) (.seq (.block 1 (.seq z216r4 (.seq z216r5 (.block 2 (.loop z216l9))))) z216r10)))
def z216r12:IC:=.reg [⟨some 24, none,.mv (.t 3)⟩,⟨some 2, none,.asgm (.t 24)⟩] [2,3] []
def zi216:IFun:=⟨[.t 2],[],(.seq z216r0 (.seq z216r1 (.seq (.seq z216r2 (.block 0 (.loop z216l11))) (.seq z216r12 .ret))))⟩
def z529r0:IC:=.reg [⟨some 1, none,.box (.t 0)⟩,⟨some 2, none,.asg (.c (.bool false))⟩] [1] []
def z529r1:IC:=.reg [⟨some 3, none,.asg (.c (vi 1048576))⟩] [1,3] []
def z529r2:IC:=.reg [⟨some 17, none,.load true 2 (.t 1)⟩,⟨some 18, none,.mv (.t 3)⟩,⟨some 19, none,.call zl61 [(.rd,(.t 17)),(.val,(.t 18))] true⟩,⟨some 3, none,.asg (.t 19)⟩] [1,3] []
def z529r3:IC:=.reg [⟨some 20, none,.mv (.t 3)⟩,⟨some 21, none,.bin .lss (.t 20) (.c (vi 0))⟩] [1,21] []
def z529r4:IC:=.reg [⟨some 2, none,.asg (.c (.bool true))⟩] [2] []
def z529r5:IC:=.reg [⟨some 23, none,.load true 2 (.t 1)⟩,⟨some 24, none,.call zl64 [(.rd,(.t 23))] true⟩,⟨some 25, none,.call zl578 [(.rd,(.t 24))] true⟩,⟨some 22, none,.asg (.t 25)⟩,⟨some 26, none,.extr (.t 22) 0⟩,⟨some 27, none,.extr (.t 22) 1⟩,⟨some 28, none,.extr (.t 22) 2⟩,⟨some 4, none,.asg (.t 26)⟩,⟨some 5, none,.asg (.t 27)⟩,⟨some 6, none,.asg (.t 28)⟩] [1,4,5,6] []
def z529r6:IC:=.reg [⟨some 29, none,.load true 2 (.t 1)⟩,⟨some 30, none,.call zl64 [(.rd,(.t 29))] true⟩,⟨some 7, none,.alloc [(vi 0),(.slice none 0 0)]⟩,⟨none,none,.store 2 (.t 7) (.t 30)⟩] [1,4,5,6,7] []
def z529r7:IC:=.reg [⟨some 32, none,.load true 2 (.t 7)⟩,⟨some 33, none,.call zl515 [(.rd,(.t 32))] true⟩,⟨some 31, none,.asg (.t 33)⟩,⟨some 34, none,.extr (.t 31) 0⟩,⟨some 35, none,.extr (.t 31) 1⟩,⟨some 36, none,.extr (.t 31) 2⟩,⟨some 8, none,.asg (.t 34)⟩,⟨some 9, none,.asg (.t 35)⟩,⟨some 10, none,.asg (.t 36)⟩] [1,4,5,6,7,8,9,10] []
def z529r8:IC:=.reg [⟨some 37, none,.mv (.t 8)⟩,⟨some 38, none,.mv (.t 4)⟩,⟨some 39, none,.call zl233 [(.rd,(.t 37)),(.rd,(.t 38))] true⟩,⟨some 40, none,.unop .not (.t 39)⟩,⟨some 41, none,.asg (.t 40)⟩,⟨some 42, (some (41,false)),.mv (.t 9)⟩,⟨some 43, (some (41,false)),.mv (.t 5)⟩,⟨some 44, (some (41,false)),.call zl233 [(.rd,(.t 42)),(.rd,(.t 43))] true⟩,⟨some 45, (some (41,false)),.unop .not (.t 44)⟩,⟨some 46, none,.pick (.t 41) (.c (.bool true)) (.t 45)⟩,⟨some 47, none,.asg (.t 46)⟩,⟨some 48, (some (47,false)),.mv (.t 10)⟩,⟨some 49, (some (47,false)),.mv (.t 6)⟩,⟨some 50, (some (47,false)),.eqb true (.t 48) (.t 49)⟩,⟨some 51, none,.pick (.t 47) (.c (.bool true)) (.t 50)⟩] [1,4,5,6,7,8,9,10,51] []
def z529r9:IC:=.reg [⟨some 2, none,.asg (.c (.bool false))⟩] [2] []
def z529r10:IC:=.reg [⟨some 52, none,.load true 2 (.t 7)⟩,⟨some 53, none,.load true 2 (.t 1)⟩,⟨some 54, none,.call zl64 [(.rd,(.t 53))] true⟩,⟨some 55, none,.call zl50 [(.rd,(.t 52)),(.rd,(.t 54))] true⟩,⟨some 56, none,.unop .not (.t 55)⟩] [1,4,5,6,7,8,9,10,56] [[1,2,0,3,4]]
def z529r11:IC:=.reg [⟨some 2, none,.asg (.c (.bool false))⟩] [2] []
def z529r12:IC:=.reg [⟨some 11, none,.asg (.c (vi 1))⟩] [1,4,5,6,7,8,9,10,11] []
def z529r13:IC:=.reg [⟨some 57, none,.load true 2 (.t 7)⟩,⟨some 58, none,.mv (.t 11)⟩,⟨some 59, none,.callm zl57 (.t 57) (.t 58)⟩,⟨some 11, none,.asg (.t 59)⟩] [1,4,5,6,8,9,10,11] []
def z529r14:IC:=.reg [⟨some 60, none,.mv (.t 11)⟩,⟨some 61, none,.bin .lss (.t 60) (.c (vi 0))⟩,⟨some 62, none,.asg (.t 61)⟩,⟨some 63, (some (62,false)),.mv (.t 8)⟩,⟨some 64, (some (62,false)),.mv (.t 4)⟩,⟨some 65, (some (62,false)),.call zl233 [(.rd,(.t 63)),(.rd,(.t 64))] true⟩,⟨some 66, (some (62,false)),.unop .not (.t 65)⟩,⟨some 67, none,.pick (.t 62) (.c (.bool true)) (.t 66)⟩,⟨some 68, none,.asg (.t 67)⟩,⟨some 69, (some (68,false)),.mv (.t 9)⟩,⟨some 70, (some (68,false)),.mv (.t 5)⟩,⟨some 71, (some (68,false)),.call zl233 [(.rd,(.t 69)),(.rd,(.t 70))] true⟩,⟨some 72, (some (68,false)),.unop .not (.t 71)⟩,⟨some 73, none,.pick (.t 68) (.c (.bool true)) (.t 72)⟩,⟨some 74, none,.asg (.t 73)⟩,⟨some 75, (some (74,false)),.mv (.t 10)⟩,⟨some 76, (some (74,false)),.mv (.t 6)⟩,⟨some 77, (some (74,false)),.eqb true (.t 75) (.t 76)⟩,
    ⟨some 78, none,.pick (.t 74) (.c (.bool true)) (.t 77)⟩] [1,4,5,6,8,9,78] []
def z529r15:IC:=.reg [⟨some 2, none,.asg (.c (.bool false))⟩] [2] []
def z529r16:IC:=.reg [⟨some 12, none,.asg (.c (vi 1))⟩] [1,4,5,6,8,9,12] []
def z529r17:IC:=.reg [⟨some 79, none,.mv (.t 8)⟩,⟨some 80, none,.mv (.t 12)⟩,⟨some 81, none,.callm zl243 (.t 79) (.t 80)⟩,⟨some 12, none,.asg (.t 81)⟩] [1,4,5,6,8,9,12] []
def z529r18:IC:=.reg [⟨some 82, none,.mv (.t 9)⟩,⟨some 83, none,.mv (.t 12)⟩,⟨some 84, none,.callm zl243 (.t 82) (.t 83)⟩,⟨some 12, none,.asg (.t 84)⟩] [1,4,5,6,8,9,12] []
def z529r19:IC:=.reg [⟨some 13, none,.asg (.c (vi 1))⟩] [1,4,5,6,8,9,12,13] []
def z529r20:IC:=.reg [⟨some 85, none,.mv (.t 8)⟩,⟨some 86, none,.mv (.t 13)⟩,⟨some 87, none,.call zl241 [(.rd,(.t 85)),(.val,(.t 86))] true⟩,⟨some 13, none,.asg (.t 87)⟩] [1,4,5,6,8,9,12,13] []
def z529r21:IC:=.reg [⟨some 88, none,.mv (.t 13)⟩,⟨some 89, none,.bin .lss (.t 88) (.c (vi 0))⟩] [1,4,5,6,8,9,12,13,89] []
def z529r22:IC:=.reg [⟨some 2, none,.asg (.c (.bool false))⟩] [2] []
def z529r23:IC:=.reg [⟨some 90, none,.mv (.t 9)⟩,⟨some 91, none,.mv (.t 13)⟩,⟨some 92, none,.call zl241 [(.rd,(.t 90)),(.val,(.t 91))] true⟩,⟨some 13, none,.asg (.t 92)⟩] [1,4,5,6,8,9,12,13] []
def z529r24:IC:=.reg [⟨some 93, none,.mv (.t 13)⟩,⟨some 94, none,.bin .lss (.t 93) (.c (vi 0))⟩] [1,4,5,6,8,9,12,13,94] []
def z529r25:IC:=.reg [⟨some 2, none,.asg (.c (.bool false))⟩] [2] []
def z529r26:IC:=.reg [⟨some 95, none,.mv (.t 13)⟩,⟨some 96, none,.mv (.t 12)⟩,⟨some 97, none,.bin .neq (.t 95) (.t 96)⟩] [1,4,5,6,8,9,12,97] []
def z529r27:IC:=.reg [⟨some 2, none,.asg (.c (.bool false))⟩] [2] []
def z529r28:IC:=.reg [⟨some 99, none,.load true 2 (.t 1)⟩,⟨some 100, none,.call zl64 [(.rd,(.t 99))] true⟩,⟨some 101, none,.call zl515 [(.rd,(.t 100))] true⟩,⟨some 98, none,.asg (.t 101)⟩,⟨some 102, none,.extr (.t 98) 0⟩,⟨some 103, none,.extr (.t 98) 1⟩,⟨some 104, none,.extr (.t 98) 2⟩,⟨some 14, none,.asg (.t 102)⟩,⟨some 15, none,.asg (.t 103)⟩,⟨some 16, none,.asg (.t 104)⟩] [4,5,6,8,9,12,14,15,16] []
def z529r29:IC:=.reg [⟨some 105, none,.mv (.t 14)⟩,⟨some 106, none,.mv (.t 4)⟩,⟨some 107, none,.call zl233 [(.rd,(.t 105)),(.rd,(.t 106))] true⟩,⟨some 108, none,.unop .not (.t 107)⟩,⟨some 109, none,.asg (.t 108)⟩,⟨some 110, (some (109,false)),.mv (.t 15)⟩,⟨some 111, (some (109,false)),.mv (.t 5)⟩,⟨some 112, (some (109,false)),.call zl233 [(.rd,(.t 110)),(.rd,(.t 111))] true⟩,⟨some 113, (some (109,false)),.unop .not (.t 112)⟩,⟨some 114, none,.pick (.t 109) (.c (.bool true)) (.t 113)⟩,⟨some 115, none,.asg (.t 114)⟩,⟨some 116, (some (115,false)),.mv (.t 16)⟩,⟨some 117, (some (115,false)),.mv (.t 6)⟩,⟨some 118, (some (115,false)),.eqb true (.t 116) (.t 117)⟩,⟨some 119, none,.pick (.t 115) (.c (.bool true)) (.t 118)⟩] [8,9,12,119] []
def z529r30:IC:=.reg [⟨some 2, none,.asg (.c (.bool false))⟩] [2] []
def z529r31:IC:=.reg [⟨some 13, none,.asg (.c (vi 1))⟩] [8,9,12,13] []
def z529r32:IC:=.reg [⟨some 120, none,.mv (.t 8)⟩,⟨some 121, none,.mv (.t 13)⟩,⟨some 122, none,.call zl241 [(.rd,(.t 120)),(.val,(.t 121))] true⟩,⟨some 13, none,.asg (.t 122)⟩] [9,12,13] []
def z529r33:IC:=.reg [⟨some 123, none,.mv (.t 13)⟩,⟨some 124, none,.bin .lss (.t 123) (.c (vi 0))⟩] [9,12,13,124] []
def z529r34:IC:=.reg [⟨some 2, none,.asg (.c (.bool false))⟩] [2] []
def z529r35:IC:=.reg [⟨some 125, none,.mv (.t 9)⟩,⟨some 126, none,.mv (.t 13)⟩,⟨some 127, none,.call zl241 [(.rd,(.t 125)),(.val,(.t 126))] true⟩,⟨some 13, none,.asg (.t 127)⟩] [12,13] []
def z529r36:IC:=.reg [⟨some 128, none,.mv (.t 13)⟩,⟨some 129, none,.bin .lss (.t 128) (.c (vi 0))⟩] [12,13,129] []
def z529r37:IC:=.reg [⟨some 2, none,.asg (.c (.bool false))⟩] [2] []
def z529r38:IC:=.reg [⟨some 130, none,.mv (.t 13)⟩,⟨some 131, none,.mv (.t 12)⟩,⟨some 132, none,.bin .neq (.t 130) (.t 131)⟩] [132] []
def z529r39:IC:=.reg [⟨some 2, none,.asg (.c (.bool false))⟩] [2] []
def z529r40:IC:=.reg [⟨some 2, none,.asg (.c (.bool true))⟩] [2] []
def zi529:IFun:=⟨[.t 2],[],(.seq z529r0 (.seq z529r1 (.seq z529r2 (.seq (.seq z529r3 (.cond (.t 21) (.seq z529r4 .ret) .skip)) (.seq z529r5 (.seq z529r6 (.seq z529r7 (.seq (.seq z529r8 (.cond (.t 51) (.seq z529r9 .ret) .skip)) (.seq (.seq z529r10 (.cond (.t 56) (.seq z529r11 .ret) .skip)) (.seq z529r12 (.seq z529r13 (.seq (.seq z529r14 (.cond (.t 78) (.seq z529r15 .ret) .skip)) (.seq z529r16 (.seq z529r17 (.seq z529r18 (.seq z529r19 (.seq z529r20 (.seq (.seq z529r21 (.cond (.t 89) (.seq z529r22 .ret) .skip)) (.seq z529r23 (.seq (.seq z529r24 (.cond (.t 94) (.seq z529r25 .ret) .skip)) (.seq (.seq z529r26 (.cond (.t 97) (.seq z529r27 .ret) .skip)) (.seq z529r28 (.seq (.seq z529r29 (.cond (.t 119) (.seq z529r30 .ret) .skip)) (.seq z529r31 (.seq z529r32 (.seq (.seq z529r33 (.cond (.t 124) (.seq z529r34 .ret) .skip)) (.seq z529r35 (.seq (.seq z529r36 (.cond (.t 129) (.seq z529r37 .ret) .skip)) (.seq (.seq z529r38 (.cond (.t 132) (.seq z529r39 .ret) .skip)) (.seq z529r40 .ret))))))))))))))))))))))))))))))⟩
def z48r0:IC:=.reg [⟨some 2, none,.box (.t 0)⟩,⟨some 3, none,.box (.t 1)⟩,⟨some 4, none,.asg (.c (.bool false))⟩] [2,3] []
def z48r1:IC:=.reg [⟨some 5, none,.fadr 0 (.t 2)⟩,⟨some 6, none,.load false 1 (.t 5)⟩,⟨some 7, none,.fadr 0 (.t 3)⟩,⟨some 8, none,.load false 1 (.t 7)⟩,⟨some 9, none,.bin .neq (.t 6) (.t 8)⟩] [2,3,9] []
def z48r2:IC:=.reg [⟨some 4, none,.asg (.c (.bool false))⟩] [4] []
def z48r3:IC:=.reg [⟨some 10, none,.fadr 1 (.t 2)⟩,⟨some 11, none,.load false 1 (.t 10)⟩,⟨some 12, none,.fadr 1 (.t 3)⟩,⟨some 13, none,.load false 1 (.t 12)⟩,⟨some 14, none,.bin .neq (.t 11) (.t 13)⟩] [14] []
def z48r4:IC:=.reg [⟨some 4, none,.asg (.c (.bool false))⟩] [4] []
def z48r5:IC:=.reg [⟨some 4, none,.asg (.c (.bool true))⟩] [4] []
def zi48:IFun:=⟨[.t 4],[],(.seq z48r0 (.seq (.seq z48r1 (.cond (.t 9) (.seq z48r2 .ret) .skip)) (.seq (.seq z48r3 (.cond (.t 14) (.seq z48r4 .ret) .skip)) (.seq z48r5 .ret))))⟩
def z49r0:IC:=.reg [⟨some 4, none,.asg (.c (.bool false))⟩] [0,1] []
def z49r1:IC:=.reg [⟨some 6, none,.mv (.t 0)⟩,⟨some 7, none,.len (.t 6)⟩,⟨some 8, none,.mv (.t 1)⟩,⟨some 9, none,.len (.t 8)⟩,⟨some 10, none,.bin .neq (.t 7) (.t 9)⟩] [0,1,10] []
def z49r2:IC:=.reg [⟨some 4, none,.asg (.c (.bool false))⟩] [4] []
def z49r3:IC:=.reg [⟨some 5, none,.asg (.c (vi 0))⟩] [0,1,5] []
def z49r4:IC:=.reg [⟨some 11, none,.mv (.t 5)⟩,⟨some 12, none,.mv (.t 0)⟩,⟨some 13, none,.len (.t 12)⟩,⟨some 14, none,.bin .lss (.t 11) (.t 13)⟩] [0,1,5,14] []
def z49r5:IC:=.reg [⟨some 17, none,.mv (.t 0)⟩,⟨some 18, none,.mv (.t 5)⟩,⟨some 19, none,.iadr 2 (.t 17) (.t 18)⟩,⟨some 20, none,.load true 2 (.t 19)⟩,⟨some 21, none,.mv (.t 1)⟩,⟨some 22, none,.mv (.t 5)⟩,⟨some 23, none,.iadr 2 (.t 21) (.t 22)⟩,⟨some 24, none,.load true 2 (.t 23)⟩,⟨some 25, none,.call zl48 [(.val,(.t 20)),(.val,(.t 24))] true⟩,⟨some 26, none,.unop .not (.t 25)⟩] [0,1,5,26] []
def z49r6:IC:=.reg [⟨some 4, none,.asg (.c (.bool false))⟩] [4] []
def z49r7:IC:=.reg [⟨some 15, none,.mv (.t 5)⟩,⟨some 16, none,.bin .add (.t 15) (.c (vi 1))⟩,⟨some 5, none,.asg (.t 16)⟩] [0,1,5] []
def z49l8:IC:=(.seq (.seq z49r4 (.cond (.t 14) .skip (.exit 0))) (.seq (.block 1 (.seq z49r5 (.cond (.t 26) (.seq z49r6 .ret) .skip))) z49r7))
def z49r9:IC:=.reg [⟨some 4, none,.asg (.c (.bool true))⟩] [4] []
def zi49:IFun:=⟨[.t 4],[],(.seq z49r0 (.seq (.seq z49r1 (.cond (.t 10) (.seq z49r2 .ret) .skip)) (.seq (.seq z49r3 (.block 0 (.loop z49l8))) (.seq z49r9 .ret))))⟩
def z50r0:IC:=.reg [⟨some 2, none,.box (.t 0)⟩,⟨some 3, none,.box (.t 1)⟩,⟨some 4, none,.asg (.c (.bool false))⟩] [2,3] []
def z50r1:IC:=.reg [⟨some 5, none,.fadr 0 (.t 2)⟩,⟨some 6, none,.load false 1 (.t 5)⟩,⟨some 7, none,.fadr 0 (.t 3)⟩,⟨some 8, none,.load false 1 (.t 7)⟩,⟨some 9, none,.bin .neq (.t 6) (.t 8)⟩] [2,3,9] []
def z50r2:IC:=.reg [⟨some 4, none,.asg (.c (.bool false))⟩] [4] []
def z50r3:IC:=.reg [⟨some 10, none,.fadr 1 (.t 2)⟩,⟨some 11, none,.load false 1 (.t 10)⟩,⟨some 12, none,.fadr 1 (.t 3)⟩,⟨some 13, none,.load false 1 (.t 12)⟩,⟨some 14, none,.call zl49 [(.rd,(.t 11)),(.rd,(.t 13))] true⟩,⟨some 15, none,.unop .not (.t 14)⟩] [15] []
def z50r4:IC:=.reg [⟨some 4, none,.asg (.c (.bool false))⟩] [4] []
def z50r5:IC:=.reg [⟨some 4, none,.asg (.c (.bool true))⟩] [4] []
def zi50:IFun:=⟨[.t 4],[],(.seq z50r0 (.seq (.seq z50r1 (.cond (.t 9) (.seq z50r2 .ret) .skip)) (.seq (.seq z50r3 (.cond (.t 15) (.seq z50r4 .ret) .skip)) (.seq z50r5 .ret))))⟩
def z233r0:IC:=.reg [⟨some 4, none,.asg (.c (.bool false))⟩] [0,1] []
def z233r1:IC:=.reg [⟨some 6, none,.mv (.t 0)⟩,⟨some 7, none,.len (.t 6)⟩,⟨some 8, none,.mv (.t 1)⟩,⟨some 9, none,.len (.t 8)⟩,⟨some 10, none,.bin .neq (.t 7) (.t 9)⟩] [0,1,10] []
def z233r2:IC:=.reg [⟨some 4, none,.asg (.c (.bool false))⟩] [4] []
def z233r3:IC:=.reg [⟨some 5, none,.asg (.c (vi 0))⟩] [0,1,5] []
def z233r4:IC:=.reg [⟨some 11, none,.mv (.t 5)⟩,⟨some 12, none,.mv (.t 0)⟩,⟨some 13, none,.len (.t 12)⟩,⟨some 14, none,.bin .lss (.t 11) (.t 13)⟩] [0,1,5,14] []
def z233r5:IC:=.reg [⟨some 17, none,.mv (.t 0)⟩,⟨some 18, none,.mv (.t 5)⟩,⟨some 19, none,.iadr 1 (.t 17) (.t 18)⟩,⟨some 20, none,.load false 1 (.t 19)⟩,⟨some 21, none,.mv (.t 1)⟩,⟨some 22, none,.mv (.t 5)⟩,⟨some 23, none,.iadr 1 (.t 21) (.t 22)⟩,⟨some 24, none,.load false 1 (.t 23)⟩,⟨some 25, none,.bin .neq (.t 20) (.t 24)⟩] [0,1,5,25] []
def z233r6:IC:=.reg [⟨some 4, none,.asg (.c (.bool false))⟩] [4] []
def z233r7:IC:=.reg [⟨some 15, none,.mv (.t 5)⟩,⟨some 16, none,.bin .add (.t 15) (.c (vi 1))⟩,⟨some 5, none,.asg (.t 16)⟩] [0,1,5] []
def z233l8:IC:=(.seq (.seq z233r4 (.cond (.t 14) .skip (.exit 0))) (.seq (.block 1 (.seq z233r5 (.cond (.t 25) (.seq z233r6 .ret) .skip))) z233r7))
def z233r9:IC:=.reg [⟨some 4, none,.asg (.c (.bool true))⟩] [4] []
def zi233:IFun:=⟨[.t 4],[],(.seq z233r0 (.seq (.seq z233r1 (.cond (.t 10) (.seq z233r2 .ret) .skip)) (.seq (.seq z233r3 (.block 0 (.loop z233l8))) (.seq z233r9 .ret))))⟩
def z241r0:IC:=.reg [⟨some 4, none,.asg (.c (vi 0))⟩] [0,1] []
def z241r1:IC:=.reg [⟨some 5, none,.asg (.c (vi 0))⟩] [0,1,5] []
def z241r2:IC:=.reg [⟨some 6, none,.mv (.t 5)⟩,⟨some 7, none,.mv (.t 0)⟩,⟨some 8, none,.len (.t 7)⟩,⟨some 9, none,.bin .lss (.t 6) (.t 8)⟩] [0,1,5,9] []
def z241r3:IC:=.reg [⟨some 12, none,.mv (.t 0)⟩,⟨some 13, none,.mv (.t 5)⟩,⟨some 14, none,.iadr 1 (.t 12) (.t 13)⟩,⟨some 15, none,.load false 1 (.t 14)⟩,⟨some 16, none,.mv (.t 1)⟩,⟨some 17, none,.bin .neq (.t 15) (.t 16)⟩] [0,1,5,17] []
def z241r4:IC:=.reg [⟨some 4, none,.asg (.c (vi (-1)))⟩] [4] []
def z241r5:IC:=.reg [⟨some 18, none,.mv (.t 1)⟩,⟨some 19, none,.bin .add (.t 18) (.c (vi 1))⟩,⟨some 1, none,.asg (.t 19)⟩] [0,1,5] []
def z241r6:IC:=.reg [⟨some 10, none,.mv (.t 5)⟩,⟨some 11, none,.bin .add (.t 10) (.c (vi 1))⟩,⟨some 5, none,.asg (.t 11)⟩] [0,1,5] []
def z241l7:IC:=(.seq (.seq z241r2 (.cond (.t 9) .skip (.exit 0))) (.seq (.block 1 (.seq (.seq z241r3 (.cond (.t 17) (.seq z241r4 .ret) .skip)) z241r5)) z241r6))
def z241r8:IC:=.reg [⟨some 20, none,.mv (.t 1)⟩,⟨some 4, none,.asgm (.t 20)⟩] [4] []
def zi241:IFun:=⟨[.t 4],[],(.seq z241r0 (.seq (.seq z241r1 (.block 0 (.loop z241l7))) (.seq z241r8 .ret)))⟩
def z56r0:IC:=.reg [⟨some 4, none,.asg (.c (vi 0))⟩] [0,1] []
def z56r1:IC:=.reg [⟨some 5, none,.asg (.c (vi 0))⟩] [0,1,5] []
def z56r2:IC:=.reg [⟨some 6, none,.mv (.t 5)⟩,⟨some 7, none,.mv (.t 0)⟩,⟨some 8, none,.len (.t 7)⟩,⟨some 9, none,.bin .lss (.t 6) (.t 8)⟩] [0,1,5,9] []
def z56r3:IC:=.reg [⟨some 12, none,.mv (.t 0)⟩,⟨some 13, none,.mv (.t 5)⟩,⟨some 14, none,.mv (.t 1)⟩,⟨some 15, none,.iadr 2 (.t 12) (.t 13)⟩,⟨some 16, none,.fadr 0 (.t 15)⟩,⟨none,none,.store 1 (.t 16) (.t 14)⟩] [0,1,5] []
def z56r4:IC:=.reg [⟨some 17, none,.mv (.t 1)⟩,⟨some 18, none,.bin .add (.t 17) (.c (vi 1))⟩,⟨some 1, none,.asg (.t 18)⟩] [0,1,5] []
def z56r5:IC:=.reg [⟨some 19, none,.mv (.t 0)⟩,⟨some 20, none,.mv (.t 5)⟩,⟨some 21, none,.mv (.t 1)⟩,⟨some 22, none,.iadr 2 (.t 19) (.t 20)⟩,⟨some 23, none,.fadr 1 (.t 22)⟩,⟨none,none,.store 1 (.t 23) (.t 21)⟩] [0,1,5] []
def z56r6:IC:=.reg [⟨some 24, none,.mv (.t 1)⟩,⟨some 25, none,.bin .add (.t 24) (.c (vi 1))⟩,⟨some 1, none,.asg (.t 25)⟩] [0,1,5] []
def z56r7:IC:=.reg [⟨some 10, none,.mv (.t 5)⟩,⟨some 11, none,.bin .add (.t 10) (.c (vi 1))⟩,⟨some 5, none,.asg (.t 11)⟩] [0,1,5] []
def z56l8:IC:=(.seq (.seq z56r2 (.cond (.t 9) .skip (.exit 0))) (.seq (.block 1 (.seq z56r3 (.seq z56r4 (.seq z56r5 z56r6)))) z56r7))
def z56r9:IC:=.reg [⟨some 26, none,.mv (.t 1)⟩,⟨some 4, none,.asgm (.t 26)⟩] [0,4] []
def zi56:IFun:=⟨[.t 4],[0],(.seq z56r0 (.seq (.seq z56r1 (.block 0 (.loop z56l8))) (.seq z56r9 .ret)))⟩
def z57r0:List IOp:=[⟨some 2, none,.box (.t 0)⟩,⟨some 4, none,.asg (.c (vi 0))⟩]
def z57r1:List IOp:=[⟨some 5, none,.fadr 1 (.t 2)⟩,⟨some 6, none,.load false 1 (.t 5)⟩,⟨some 7, none,.mv (.t 1)⟩,⟨some 8, none,.callm zl56 (.t 6) (.t 7)⟩,⟨some 1, none,.asg (.t 8)⟩]
def z57r2:IC:=.reg [⟨some 9, none,.mv (.t 1)⟩,⟨some 4, none,.asgm (.t 9)⟩] [0,4] []
def zi57:IFun:=⟨[.t 4],[0],(.ubx z57r0 z57r1 [0,1] (.seq z57r2 .ret))⟩
def z243r0:IC:=.reg [⟨some 4, none,.asg (.c (vi 0))⟩] [0,1] []
def z243r1:IC:=.reg [⟨some 5, none,.asg (.c (vi 0))⟩] [0,1,5] []
def z243r2:IC:=.reg [⟨some 6, none,.mv (.t 5)⟩,⟨some 7, none,.mv (.t 0)⟩,⟨some 8, none,.len (.t 7)⟩,⟨some 9, none,.bin .lss (.t 6) (.t 8)⟩] [0,1,5,9] []
def z243r3:IC:=.reg [⟨some 12, none,.mv (.t 0)⟩,⟨some 13, none,.mv (.t 5)⟩,⟨some 14, none,.mv (.t 1)⟩,⟨some 15, none,.iadr 1 (.t 12) (.t 13)⟩,⟨none,none,.store 1 (.t 15) (.t 14)⟩] [0,1,5] []
def z243r4:IC:=.reg [⟨some 16, none,.mv (.t 1)⟩,⟨some 17, none,.bin .add (.t 16) (.c (vi 1))⟩,⟨some 1, none,.asg (.t 17)⟩] [0,1,5] []
def z243r5:IC:=.reg [⟨some 10, none,.mv (.t 5)⟩,⟨some 11, none,.bin .add (.t 10) (.c (vi 1))⟩,⟨some 5, none,.asg (.t 11)⟩] [0,1,5] []
def z243l6:IC:=(.seq (.seq z243r2 (.cond (.t 9) .skip (.exit 0))) (.seq (.block 1 (.seq z243r3 z243r4)) z243r5))
def z243r7:IC:=.reg [⟨some 18, none,.mv (.t 1)⟩,⟨some 4, none,.asgm (.t 18)⟩] [0,4] []
def zi243:IFun:=⟨[.t 4],[0],(.seq z243r0 (.seq (.seq z243r1 (.block 0 (.loop z243l6))) (.seq z243r7 .ret)))⟩
def z60r0:IC:=.reg [⟨some 4, none,.asg (.c (vi 0))⟩] [0,1] []
def z60r1:IC:=.reg [⟨some 5, none,.mv (.t 1)⟩,⟨some 6, none,.mv (.t 0)⟩,⟨some 7, none,.len (.t 6)⟩,⟨some 8, none,.bin .sub (.t 5) (.t 7)⟩,⟨some 1, none,.asg (.t 8)⟩] [1] []
def z60r2:IC:=.reg [⟨some 9, none,.mv (.t 1)⟩,⟨some 10, none,.bin .lss (.t 9) (.c (vi 0))⟩] [1,10] []
def z60r3:IC:=.reg [⟨some 4, none,.asg (.c (vi (-1)))⟩] [4] []
def z60r4:IC:=.reg [⟨some 11, none,.mv (.t 1)⟩,⟨some 4, none,.asgm (.t 11)⟩] [4] []
def zi60:IFun:=⟨[.t 4],[],(.seq z60r0 (.seq z60r1 (.seq (.seq z60r2 (.cond (.t 10) (.seq z60r3 .ret) .skip)) (.seq z60r4 .ret))))⟩
def z61r0:IC:=.reg [⟨some 2, none,.box (.t 0)⟩,⟨some 4, none,.asg (.c (vi 0))⟩] [1,2] []
def z61r1:IC:=.reg [⟨some 5, none,.fadr 1 (.t 2)⟩,⟨some 6, none,.load false 1 (.t 5)⟩,⟨some 7, none,.mv (.t 1)⟩,⟨some 8, none,.call zl60 [(.rd,(.t 6)),(.val,(.t 7))] true⟩,⟨some 1, none,.asg (.t 8)⟩] [1] []
def z61r2:IC:=.reg [⟨some 9, none,.mv (.t 1)⟩,⟨some 10, none,.bin .lss (.t 9) (.c (vi 0))⟩] [1,10] []
def z61r3:IC:=.reg [⟨some 4, none,.asg (.c (vi (-1)))⟩] [4] []
def z61r4:IC:=.reg [⟨some 11, none,.mv (.t 1)⟩,⟨some 4, none,.asgm (.t 11)⟩] [4] []
def zi61:IFun:=⟨[.t 4],[],(.seq z61r0 (.seq z61r1 (.seq (.seq z61r2 (.cond (.t 10) (.seq z61r3 .ret) .skip)) (.seq z61r4 .ret))))⟩
def z62r0:IC:=.reg [⟨some 1, none,.box (.t 0)⟩,⟨some 2, none,.alloc [(vi 0),(vi 0)]⟩] [1,2] []
def z62r1:IC:=.reg [⟨some 3, none,.alloc [(vi 0),(vi 0)]⟩] [1,2,3] []
def z62r2:IC:=.reg [⟨some 4, none,.fadr 0 (.t 1)⟩,⟨some 5, none,.load false 1 (.t 4)⟩,⟨some 6, none,.fadr 0 (.t 3)⟩,⟨none,none,.store 1 (.t 6) (.t 5)⟩] [1,2,3] []
def z62r3:IC:=.reg [⟨some 7, none,.fadr 1 (.t 1)⟩,⟨some 8, none,.load false 1 (.t 7)⟩,⟨some 9, none,.fadr 1 (.t 3)⟩,⟨none,none,.store 1 (.t 9) (.t 8)⟩] [2,3] []
def z62r4:IC:=.reg [⟨some 10, none,.load true 2 (.t 3)⟩,⟨none,none,.store 2 (.t 2) (.t 10)⟩] [2] []
def zi62:IFun:=⟨[.c 2 2 true],[],(.seq z62r0 (.seq z62r1 (.seq z62r2 (.seq z62r3 (.seq z62r4 .ret)))))⟩
def z63r0:IC:=.reg [⟨some 2, none,.asg (.c (.slice none 0 0))⟩] [0] []
def z63r1:IC:=.reg [⟨some 5, none,.mv (.t 0)⟩,⟨some 6, none,.len (.t 5)⟩,⟨some 7, none,.mksl 2 [(vi 0),(vi 0)] (.t 6) (.t 6)⟩,⟨some 3, none,.asg (.t 7)⟩] [0,3] []
def z63r2:IC:=.reg [⟨some 4, none,.asg (.c (vi 0))⟩] [0,3,4] []
def z63r3:IC:=.reg [⟨some 8, none,.mv (.t 4)⟩,⟨some 9, none,.mv (.t 0)⟩,⟨some 10, none,.len (.t 9)⟩,⟨some 11, none,.bin .lss (.t 8) (.t 10)⟩] [0,3,4,11] []
def z63r4:IC:=.reg [⟨some 14, none,.mv (.t 3)⟩,⟨some 15, none,.mv (.t 4)⟩,⟨some 16, none,.mv (.t 0)⟩,⟨some 17, none,.mv (.t 4)⟩,⟨some 18, none,.iadr 2 (.t 16) (.t 17)⟩,⟨some 19, none,.load true 2 (.t 18)⟩,⟨some 20, none,.call zl62 [(.val,(.t 19))] true⟩,⟨some 21, none,.iadr 2 (.t 14) (.t 15)⟩,⟨none,none,.store 2 (.t 21) (.t 20)⟩] [0,3,4] []
def z63r5:IC:=.reg [⟨some 12, none,.mv (.t 4)⟩,⟨some 13, none,.bin .add (.t 12) (.c (vi 1))⟩,⟨some 4, none,.asg (.t 13)⟩] [0,3,4] []
def z63l6:IC:=(.seq (.seq z63r3 (.cond (.t 11) .skip (.exit 0))) (.seq (.block 1 z63r4) z63r5))
def z63r7:IC:=.reg [⟨some 22, none,.mv (.t 3)⟩,⟨some 2, none,.asgm (.t 22)⟩] [2,3] []
def zi63:IFun:=⟨[.t 2],[],(.seq z63r0 (.seq z63r1 (.seq (.seq z63r2 (.block 0 (.loop z63l6))) (.seq z63r7 .ret))))⟩
def z64r0:IC:=.reg [⟨some 1, none,.box (.t 0)⟩,⟨some 2, none,.alloc [(vi 0),(.slice none 0 0)]⟩] [1,2] []
def z64r1:IC:=.reg [⟨some 3, none,.alloc [(vi 0),(.slice none 0 0)]⟩] [1,2,3] []
def z64r2:IC:=.reg [⟨some 4, none,.fadr 0 (.t 1)⟩,⟨some 5, none,.load false 1 (.t 4)⟩,⟨some 6, none,.fadr 0 (.t 3)⟩,⟨none,none,.store 1 (.t 6) (.t 5)⟩] [1,2,3] []
def z64r3:IC:=.reg [⟨some 7, none,.fadr 1 (.t 1)⟩,⟨some 8, none,.load false 1 (.t 7)⟩,⟨some 9, none,.call zl63 [(.rd,(.t 8))] true⟩,⟨some 10, none,.fadr 1 (.t 3)⟩,⟨none,none,.store 1 (.t 10) (.t 9)⟩] [2,3] []
def z64r4:IC:=.reg [⟨some 11, none,.load true 2 (.t 3)⟩,⟨none,none,.store 2 (.t 2) (.t 11)⟩] [2] []
def zi64:IFun:=⟨[.c 2 2 true],[],(.seq z64r0 (.seq z64r1 (.seq z64r2 (.seq z64r3 (.seq z64r4 .ret)))))⟩
def z66r0:IC:=.reg [⟨some 2, none,.asg (.c (vi 0))⟩] [0] []
def z66r1:IC:=.reg [⟨some 3, none,.mv (.t 0)⟩,⟨some 4, none,.conv .u32 (.t 3)⟩,⟨some 5, none,.call zl67 [(.val,(.t 4))] true⟩,⟨some 2, none,.asg (.t 5)⟩] [2] []
def z66r2:IC:=.reg [⟨some 6, none,.mv (.t 0)⟩,⟨some 7, none,.call zl68 [(.val,(.t 6))] true⟩,⟨some 2, none,.asg (.t 7)⟩] [2] []
def zi66:IFun:=⟨[.t 2],[],(.seq z66r0 (.seq (.cond (.c (.bool false)) (.seq z66r1 .ret) .skip) (.seq z66r2 .ret)))⟩
def z68r0:IC:=.reg [⟨some 2, none,.asg (.c (vi 0))⟩] [0,2] []
def z68r1:IC:=.reg [⟨some 3, none,.mv (.t 0)⟩,⟨some 4, none,.bin .geq (.t 3) (.c (.int .u64 (4294967296)))⟩] [0,2,4] []
def z68r2:IC:=.reg [⟨some 5, none,.mv (.t 0)⟩,⟨some 6, none,.bin .shr (.t 5) (.c (.int .u64 (32)))⟩,⟨some 0, none,.asg (.t 6)⟩] [0] []
def z68r3:IC:=.reg [⟨some 2, none,.asg (.c (vi 32))⟩] [0,2] []
def z68r4:IC:=.reg [⟨some 7, none,.mv (.t 0)⟩,⟨some 8, none,.bin .geq (.t 7) (.c (.int .u64 (65536)))⟩] [0,2,8] []
def z68r5:IC:=.reg [⟨some 9, none,.mv (.t 0)⟩,⟨some 10, none,.bin .shr (.t 9) (.c (.int .u64 (16)))⟩,⟨some 0, none,.asg (.t 10)⟩] [0,2] []
def z68r6:IC:=.reg [⟨some 11, none,.mv (.t 2)⟩,⟨some 12, none,.bin .add (.t 11) (.c (vi 16))⟩,⟨some 2, none,.asg (.t 12)⟩] [0,2] []
def z68r7:IC:=.reg [⟨some 13, none,.mv (.t 0)⟩,⟨some 14, none,.bin .geq (.t 13) (.c (.int .u64 (256)))⟩] [0,2,14] []
def z68r8:IC:=.reg [⟨some 15, none,.mv (.t 0)⟩,⟨some 16, none,.bin .shr (.t 15) (.c (.int .u64 (8)))⟩,⟨some 0, none,.asg (.t 16)⟩] [0,2] []
def z68r9:IC:=.reg [⟨some 17, none,.mv (.t 2)⟩,⟨some 18, none,.bin .add (.t 17) (.c (vi 8))⟩,⟨some 2, none,.asg (.t 18)⟩] [0,2] []
def z68r10:IC:=.reg [⟨some 19, none,.mv (.t 2)⟩,⟨some 20, none,.mv (.t 0)⟩,⟨some 21, none,.conv .u8 (.t 20)⟩,⟨some 22, none,.idxs (.c (.string ⟨#[0,1,2,2,3,3,3,3,4,4,4,4,4,4,4,4,5,5,5,5,5,5,5,5,5,5,5,5,5,5,5,5,6,6,6,6,6,6,6,6,6,6,6,6,6,6,6,6,6,6,6,6,6,6,6,6,6,6,6,6,6,6,6,6,7,7,7,7,7,7,7,7,7,7,7,7,7,7,7,7,7,7,7,7,7,7,7,7,7,7,7,7,7,7,7,7,7,7,7,7,7,7,7,7,7,7,7,7,7,7,7,7,7,7,7,7,7,7,7,7,7,7,7,7,7,7,7,7,8,8,8,8,8,8,8,8,8,8,8,8,8,8,8,8,8,8,8,8,8,8,8,8,8,8,8,8,8,8,8,8,8,8,8,8,8,8,8,8,8,8,8,8,8,8,8,8,8,8,8,8,8,8,8,8,8,8,8,8,8,8,8,8,8,8,8,8,8,8,8,8,8,8,8,8,8,8,8,8,8,8,8,8,8,8,8,8,8,8,8,8,8,8,8,8,8,8,8,8,8,8,8,8,8,8,8,8,8,8,8,8,8,8,8,8,8,8,8,8,8,8,8,8,8,8,8,8]⟩)) (.t 21)⟩,⟨some 23, none,.conv .i64 (.t 22)⟩,⟨some 24, none,.bin .add (.t 19) (.t 23)⟩,⟨some 2, none,.asg (.t 24)⟩] [2] []
def zi68:IFun:=⟨[.t 2],[],(.seq z68r0 (.seq (.seq z68r1 (.cond (.t 4) (.seq z68r2 z68r3) .skip)) (.seq (.seq z68r4 (.cond (.t 8) (.seq z68r5 z68r6) .skip)) (.seq (.seq z68r7 (.cond (.t 14) (.seq z68r8 z68r9) .skip)) (.seq z68r10 .ret)))))⟩
def z70r0:IC:=.reg [⟨some 2, none,.asg (.c (.slice none 0 0))⟩] [0] []
def z70r1:IC:=.reg [⟨some 3, none,.mv (.t 0)⟩,⟨some 4, none,.mv (.t 0)⟩,⟨some 5, none,.len (.t 4)⟩,⟨some 6, none,.mv (.t 0)⟩,⟨some 7, none,.len (.t 6)⟩,⟨some 8, none,.slc 1 (.t 3) none (some (.t 5)) (some (.t 7))⟩,⟨some 2, none,.asgm (.t 8)⟩] [0,2] []
def zi70:IFun:=⟨[.t 2],[],(.seq z70r0 (.seq z70r1 .ret))⟩
def z71r0:IC:=.reg [⟨some 2, none,.nilo 1⟩] [0] []
def z71r1:List IOp:=[⟨some 3, none,.mv (.t 0)⟩]
def z71r2:IC:=.reg [⟨some 2, none,.nilo 1⟩] [2] []
def z71r3:IC:=.reg [⟨some 5, none,.bsl 1 [(vi 0)] 0 []⟩,⟨some 6, none,.mv (.t 0)⟩,⟨some 7, none,.app 1 (.t 5) (.t 6)⟩,⟨some 2, none,.asg (.t 7)⟩] [2] []
def zi71:IFun:=⟨[.t 2],[],(.seq z71r0 (.nilc2 z71r1 (.t 3) 4 [0,4] (.cond (.t 4) (.seq z71r2 .ret) .skip) (.seq z71r3 .ret)))⟩
def z72r0:IC:=.reg [⟨some 4, none,.asg (.c (.bool false))⟩] [0,1] []
def z72r1:IC:=.reg [⟨some 5, none,.mv (.t 0)⟩,⟨some 6, none,.mv (.t 1)⟩,⟨some 7, none,.call zl73 [(.rd,(.t 5)),(.val,(.t 6))] false⟩,⟨some 8, none,.bin .geq (.t 7) (.c (vi 0))⟩,⟨some 4, none,.asg (.t 8)⟩] [4] []
def zi72:IFun:=⟨[.t 4],[],(.seq z72r0 (.seq z72r1 .ret))⟩
def z263r0:IC:=.reg [⟨some 3, none,.box (.t 1)⟩,⟨some 4, none,.asg (.c (.bool false))⟩] [0,3] []
def z263r1:IC:=.reg [⟨some 5, none,.mv (.t 0)⟩,⟨some 6, none,.load true 2 (.t 3)⟩,⟨some 7, none,.call zl269 [(.rd,(.t 5)),(.val,(.t 6))] true⟩,⟨some 8, none,.bin .geq (.t 7) (.c (vi 0))⟩,⟨some 4, none,.asg (.t 8)⟩] [4] []
def zi263:IFun:=⟨[.t 4],[],(.seq z263r0 (.seq z263r1 .ret))⟩
def z551r0:IC:=.reg [⟨some 4, none,.asg (.c (.bool false))⟩] [0,1] []
def z551r1:IC:=.reg [⟨some 5, none,.mv (.t 0)⟩,⟨some 6, none,.mv (.t 1)⟩,⟨some 7, none,.call zl74 [(.rd,(.t 5)),(.val,(.t 6))] true⟩,⟨some 8, none,.bin .geq (.t 7) (.c (vi 0))⟩,⟨some 4, none,.asg (.t 8)⟩] [4] []
def zi551:IFun:=⟨[.t 4],[],(.seq z551r0 (.seq z551r1 .ret))⟩
def z266r0:IC:=.reg [⟨some 4, none,.asg (.c (.slice none 0 0))⟩] [0,1] []
def z266r1:IC:=.reg [⟨some 8, none,.mvo 1 (.t 0)⟩,⟨some 9, none,.mv (.t 1)⟩,⟨some 10, none,.call zl449 [(.ld,(.t 8)),(.val,(.t 9))] false⟩,⟨some 5, none,.asg (.t 10)⟩] [0,1,5] []
def z266r2:IC:=.reg [⟨some 11, none,.mv (.t 5)⟩,⟨some 12, none,.bin .eql (.t 11) (.c (vi (-1)))⟩] [0,1,5,12] []
def z266r3:IC:=.reg [⟨some 13, none,.mv (.t 0)⟩,⟨some 4, none,.asgm (.t 13)⟩] [0,4] []
def z266r4:IC:=.reg [⟨some 14, none,.mv (.t 5)⟩,⟨some 15, none,.bin .add (.t 14) (.c (vi 1))⟩,⟨some 6, none,.asg (.t 15)⟩] [0,1,5,6] []
def z266r5:IC:=.reg [⟨some 16, none,.mv (.t 6)⟩,⟨some 17, none,.mv (.t 0)⟩,⟨some 18, none,.len (.t 17)⟩,⟨some 19, none,.bin .lss (.t 16) (.t 18)⟩] [0,1,5,6,19] []
def z266r6:IC:=.reg [⟨some 22, none,.mv (.t 0)⟩,⟨some 23, none,.mv (.t 6)⟩,⟨some 24, none,.iadr 1 (.t 22) (.t 23)⟩,⟨some 25, none,.load false 1 (.t 24)⟩,⟨some 7, none,.asg (.t 25)⟩] [0,1,5,6,7] []
def z266r7:IC:=.reg [⟨some 26, none,.mv (.t 1)⟩,⟨some 27, none,.mv (.t 7)⟩,⟨some 28, none,.callv (.t 26) [(.val,(.t 27))]⟩,⟨some 29, none,.unop .not (.t 28)⟩] [0,1,5,6,7,29] []
def z266r8:IC:=.reg [⟨some 30, none,.mv (.t 0)⟩,⟨some 31, none,.mv (.t 5)⟩,⟨some 32, none,.mv (.t 7)⟩,⟨some 33, none,.iadr 1 (.t 30) (.t 31)⟩,⟨none,none,.store 1 (.t 33) (.t 32)⟩] [0,1,5,6] []
def z266r9:IC:=.reg [⟨some 34, none,.mv (.t 5)⟩,⟨some 35, none,.bin .add (.t 34) (.c (vi 1))⟩,⟨some 5, none,.asg (.t 35)⟩] [0,1,5,6] []
def z266r10:IC:=.reg [⟨some 20, none,.mv (.t 6)⟩,⟨some 21, none,.bin .add (.t 20) (.c (vi 1))⟩,⟨some 6, none,.asg (.t 21)⟩] [0,1,5,6] []
def z266l11:IC:=(.seq (.seq z266r5 (.cond (.t 19) .skip (.exit 0))) (.seq (.block 1 (.seq z266r6 (.seq z266r7 (.cond (.t 29) (.seq z266r8 z266r9) .skip)))) z266r10))
def z266r12:IC:=.reg [⟨some 36, none,.mv (.t 0)⟩,⟨some 37, none,.mv (.t 5)⟩,⟨some 38, none,.slc 1 (.t 36) (some (.t 37)) none none⟩,⟨none,none,.clr (.t 38) [(vi 0)]⟩] [0,5] []
def z266r13:IC:=.reg [⟨some 39, none,.mv (.t 0)⟩,⟨some 40, none,.mv (.t 5)⟩,⟨some 41, none,.slc 1 (.t 39) none (some (.t 40)) none⟩,⟨some 4, none,.asgm (.t 41)⟩] [0,4] []
def zi266:IFun:=⟨[.t 4],[],(.seq z266r0 (.seq z266r1 (.seq (.seq z266r2 (.cond (.t 12) (.seq z266r3 .ret) .skip)) (.seq (.seq z266r4 (.block 0 (.loop z266l11))) (.seq z266r12 (.seq z266r13 .ret))))))⟩
def z73r0:IC:=.reg [⟨some 4, none,.asg (.c (vi 0))⟩] [0,1] []
def z73r1:IC:=.reg [⟨some 6, none,.mv (.t 0)⟩,⟨some 7, none,.len (.t 6)⟩,⟨some 8, none,.mv (.c (vi 0))⟩] [0,1,7,8] []
def z73r2:IC:=.reg [⟨some 9, none,.bin .lss (.t 8) (.t 7)⟩] [0,1,7,8,9] []
def z73r3:IC:=.reg [⟨some 10, none,.asg (.t 8)⟩,⟨some 5, none,.asg (.t 10)⟩] [0,1,5,7,8] []
def z73r4:IC:=.reg [⟨some 11, none,.mv (.t 1)⟩,⟨some 12, none,.mv (.t 0)⟩,⟨some 13, none,.mv (.t 5)⟩,⟨some 14, none,.iadr 1 (.t 12) (.t 13)⟩,⟨some 15, none,.load false 1 (.t 14)⟩,⟨some 16, none,.callv (.t 11) [(.val,(.t 15))]⟩] [0,1,5,7,8,16] []
def z73r5:IC:=.reg [⟨some 17, none,.mv (.t 5)⟩,⟨some 4, none,.asgm (.t 17)⟩] [4] []
def z73r6:IC:=.reg [⟨some 18, none,.bin .add (.t 8) (.c (vi 1))⟩,⟨some 8, none,.asg (.t 18)⟩] [0,1,7,8] []
def z73l7:IC:=(.seq z73r2 (.seq (.cond (.t 9) .skip (.exit 0)) (.seq (.block 1 (.seq z73r3 (.seq z73r4 (.cond (.t 16) (.seq z73r5 .ret) .skip)))) z73r6)))
def z73r8:IC:=.reg [⟨some 4, none,.asg (.c (vi (-1)))⟩] [4] []
def zi73:IFun:=⟨[.t 4],[],(.seq z73r0 (.seq (.seq z73r1 (.block 0 (.loop z73l7))) (.seq z73r8 .ret)))⟩
def z449r0:IC:=.reg [⟨some 4, none,.asg (.c (vi 0))⟩] [0,1] []
def z449r1:IC:=.reg [⟨some 6, none,.mv (.t 0)⟩,⟨some 7, none,.len (.t 6)⟩,⟨some 8, none,.mv (.c (vi 0))⟩] [0,1,7,8] []
def z449r2:IC:=.reg [⟨some 9, none,.bin .lss (.t 8) (.t 7)⟩] [0,1,7,8,9] []
def z449r3:IC:=.reg [⟨some 10, none,.asg (.t 8)⟩,⟨some 5, none,.asg (.t 10)⟩] [0,1,5,7,8] []
def z449r4:IC:=.reg [⟨some 11, none,.mv (.t 1)⟩,⟨some 12, none,.mv (.t 0)⟩,⟨some 13, none,.mv (.t 5)⟩,⟨some 14, none,.iadr 1 (.t 12) (.t 13)⟩,⟨some 15, none,.load false 1 (.t 14)⟩,⟨some 16, none,.callv (.t 11) [(.val,(.t 15))]⟩] [0,1,5,7,8,16] []
def z449r5:IC:=.reg [⟨some 17, none,.mv (.t 5)⟩,⟨some 4, none,.asgm (.t 17)⟩] [0,4] []
def z449r6:IC:=.reg [⟨some 18, none,.bin .add (.t 8) (.c (vi 1))⟩,⟨some 8, none,.asg (.t 18)⟩] [0,1,7,8] []
def z449l7:IC:=(.seq z449r2 (.seq (.cond (.t 9) .skip (.exit 0)) (.seq (.block 1 (.seq z449r3 (.seq z449r4 (.cond (.t 16) (.seq z449r5 .ret) .skip)))) z449r6)))
def z449r8:IC:=.reg [⟨some 4, none,.asg (.c (vi (-1)))⟩] [0,4] []
def zi449:IFun:=⟨[.t 4],[0],(.seq z449r0 (.seq (.seq z449r1 (.block 0 (.loop z449l7))) (.seq z449r8 .ret)))⟩
def z269r0:IC:=.reg [⟨some 3, none,.box (.t 1)⟩,⟨some 4, none,.asg (.c (vi 0))⟩] [0,3] []
def z269r1:IC:=.reg [⟨some 6, none,.mv (.t 0)⟩,⟨some 7, none,.len (.t 6)⟩,⟨some 8, none,.mv (.c (vi 0))⟩] [0,3,7,8] []
def z269r2:IC:=.reg [⟨some 9, none,.bin .lss (.t 8) (.t 7)⟩] [0,3,7,8,9] []
def z269r3:IC:=.reg [⟨some 10, none,.asg (.t 8)⟩,⟨some 5, none,.asg (.t 10)⟩] [0,3,5,7,8] []
def z269r4:IC:=.reg [⟨some 11, none,.load true 2 (.t 3)⟩,⟨some 12, none,.mv (.t 0)⟩,⟨some 13, none,.mv (.t 5)⟩,⟨some 14, none,.iadr 2 (.t 12) (.t 13)⟩,⟨some 15, none,.load true 2 (.t 14)⟩,⟨some 16, none,.eqa false 2 (.t 11) (.t 15)⟩] [0,3,5,7,8,16] []
def z269r5:IC:=.reg [⟨some 17, none,.mv (.t 5)⟩,⟨some 4, none,.asgm (.t 17)⟩] [4] []
def z269r6:IC:=.reg [⟨some 18, none,.bin .add (.t 8) (.c (vi 1))⟩,⟨some 8, none,.asg (.t 18)⟩] [0,3,7,8] []
def z269l7:IC:=(.seq z269r2 (.seq (.cond (.t 9) .skip (.exit 0)) (.seq (.block 1 (.seq z269r3 (.seq z269r4 (.cond (.t 16) (.seq z269r5 .ret) .skip)))) z269r6)))
def z269r8:IC:=.reg [⟨some 4, none,.asg (.c (vi (-1)))⟩] [4] []
def zi269:IFun:=⟨[.t 4],[],(.seq z269r0 (.seq (.seq z269r1 (.block 0 (.loop z269l7))) (.seq z269r8 .ret)))⟩
def z74r0:IC:=.reg [⟨some 4, none,.asg (.c (vi 0))⟩] [0,1] []
def z74r1:IC:=.reg [⟨some 6, none,.mv (.t 0)⟩,⟨some 7, none,.len (.t 6)⟩,⟨some 8, none,.mv (.c (vi 0))⟩] [0,1,7,8] []
def z74r2:IC:=.reg [⟨some 9, none,.bin .lss (.t 8) (.t 7)⟩] [0,1,7,8,9] []
def z74r3:IC:=.reg [⟨some 10, none,.asg (.t 8)⟩,⟨some 5, none,.asg (.t 10)⟩] [0,1,5,7,8] []
def z74r4:IC:=.reg [⟨some 11, none,.mv (.t 1)⟩,⟨some 12, none,.mv (.t 0)⟩,⟨some 13, none,.mv (.t 5)⟩,⟨some 14, none,.iadr 1 (.t 12) (.t 13)⟩,⟨some 15, none,.load false 1 (.t 14)⟩,⟨some 16, none,.bin .eql (.t 11) (.t 15)⟩] [0,1,5,7,8,16] []
def z74r5:IC:=.reg [⟨some 17, none,.mv (.t 5)⟩,⟨some 4, none,.asgm (.t 17)⟩] [4] []
def z74r6:IC:=.reg [⟨some 18, none,.bin .add (.t 8) (.c (vi 1))⟩,⟨some 8, none,.asg (.t 18)⟩] [0,1,7,8] []
def z74l7:IC:=(.seq z74r2 (.seq (.cond (.t 9) .skip (.exit 0)) (.seq (.block 1 (.seq z74r3 (.seq z74r4 (.cond (.t 16) (.seq z74r5 .ret) .skip)))) z74r6)))
def z74r8:IC:=.reg [⟨some 4, none,.asg (.c (vi (-1)))⟩] [4] []
def zi74:IFun:=⟨[.t 4],[],(.seq z74r0 (.seq (.seq z74r1 (.block 0 (.loop z74l7))) (.seq z74r8 .ret)))⟩
def z76r0:IC:=.reg [⟨some 4, none,.mv (.t 0)⟩,⟨some 5, none,.len (.t 4)⟩,⟨some 6, none,.bin .sub (.t 5) (.c (vi 1))⟩,⟨some 2, none,.asg (.c (vi 0))⟩,⟨some 3, none,.asg (.t 6)⟩] [0,2,3] []
def z76r1:IC:=.reg [⟨some 7, none,.mv (.t 2)⟩,⟨some 8, none,.mv (.t 3)⟩,⟨some 9, none,.bin .lss (.t 7) (.t 8)⟩] [0,2,3,9] []
def z76r2:IC:=.reg [⟨some 14, none,.mv (.t 0)⟩,⟨some 15, none,.mv (.t 2)⟩,⟨some 16, none,.mv (.t 0)⟩,⟨some 17, none,.mv (.t 3)⟩,⟨some 18, none,.mv (.t 0)⟩,⟨some 19, none,.mv (.t 3)⟩,⟨some 20, none,.iadr 1 (.t 18) (.t 19)⟩,⟨some 21, none,.load false 1 (.t 20)⟩,⟨some 22, none,.mv (.t 0)⟩,⟨some 23, none,.mv (.t 2)⟩,⟨some 24, none,.iadr 1 (.t 22) (.t 23)⟩,⟨some 25, none,.load false 1 (.t 24)⟩,⟨some 26, none,.iadr 1 (.t 14) (.t 15)⟩,⟨none,none,.store 1 (.t 26) (.t 21)⟩,⟨some 27, none,.iadr 1 (.t 16) (.t 17)⟩,⟨none,none,.store 1 (.t 27) (.t 25)⟩] [0,2,3] []
def z76r3:IC:=.reg [⟨some 10, none,.mv (.t 2)⟩,⟨some 11, none,.bin .add (.t 10) (.c (vi 1))⟩,⟨some 12, none,.mv (.t 3)⟩,⟨some 13, none,.bin .sub (.t 12) (.c (vi 1))⟩,⟨some 2, none,.asg (.t 11)⟩,⟨some 3, none,.asg (.t 13)⟩] [0,2,3] []
def z76l4:IC:=(.seq (.seq z76r1 (.cond (.t 9) .skip (.exit 0))) (.seq (.block 1 z76r2) z76r3))
def zi76:IFun:=⟨[],[0],(.seq z76r0 (.block 0 (.loop z76l4)))⟩
def z273r0:IC:=.reg [⟨some 4, none,.mv (.t 0)⟩,⟨some 5, none,.mv (.t 0)⟩,⟨some 6, none,.len (.t 5)⟩,⟨some 7, none,.mv (.t 1)⟩,⟨some 8, none,.call zl289 [(.ld,(.t 4)),(.val,(.t 6)),(.val,(.t 7))] false⟩] [0] []
def zi273:IFun:=⟨[],[0],z273r0⟩
def z78r0:IC:=.reg [⟨some 3, none,.mv (.t 0)⟩,⟨some 4, none,.len (.t 3)⟩,⟨some 2, none,.asg (.t 4)⟩] [0,2] []
def z78r1:IC:=.reg [⟨some 5, none,.mv (.t 0)⟩,⟨some 6, none,.mv (.t 2)⟩,⟨some 7, none,.mv (.t 2)⟩,⟨some 8, none,.conv .u64 (.t 7)⟩,⟨some 9, none,.call zl66 [(.val,(.t 8))] true⟩,⟨some 10, none,.call zl101 [(.ld,(.t 5)),(.val,(.c (vi 0))),(.val,(.t 6)),(.val,(.t 9))] false⟩] [0] []
def zi78:IFun:=⟨[],[0],(.seq z78r0 z78r1)⟩
def z278r0:IC:=.reg [⟨some 10, none,.mv (.t 1)⟩,⟨some 11, none,.bin .add (.t 10) (.c (vi 1))⟩,⟨some 8, none,.asg (.t 11)⟩] [0,1,2,3,8] []
def z278r1:IC:=.reg [⟨some 12, none,.mv (.t 8)⟩,⟨some 13, none,.mv (.t 2)⟩,⟨some 14, none,.bin .lss (.t 12) (.t 13)⟩] [0,1,2,3,8,14] []
def z278r2:IC:=.reg [⟨some 17, none,.mv (.t 8)⟩,⟨some 9, none,.asg (.t 17)⟩] [0,1,2,3,8,9] []
def z278r3:IC:=.reg [⟨some 18, none,.mv (.t 9)⟩,⟨some 19, none,.mv (.t 1)⟩,⟨some 20, none,.bin .gtr (.t 18) (.t 19)⟩,⟨some 21, none,.asg (.t 20)⟩,⟨some 22, (some (21,true)),.mv (.t 3)⟩,⟨some 23, (some (21,true)),.mv (.t 0)⟩,⟨some 24, (some (21,true)),.mv (.t 9)⟩,⟨some 25, (some (21,true)),.iadr 1 (.t 23) (.t 24)⟩,⟨some 26, (some (21,true)),.load false 1 (.t 25)⟩,⟨some 27, (some (21,true)),.mv (.t 0)⟩,⟨some 28, (some (21,true)),.mv (.t 9)⟩,⟨some 29, (some (21,true)),.bin .sub (.t 28) (.c (vi 1))⟩,⟨some 30, (some (21,true)),.iadr 1 (.t 27) (.t 29)⟩,⟨some 31, (some (21,true)),.load false 1 (.t 30)⟩,⟨some 32, (some (21,true)),.callv (.t 22) [(.val,(.t 26)),(.val,(.t 31))]⟩,⟨some 33, (some (21,true)),.bin .lss (.t 32) (.c (vi 0))⟩,⟨some 34, none,.pick (.t 21) (.t 33) (.c (.bool false))⟩] [0,1,2,3,8,9,34] []
def z278r4:IC:=.reg [⟨some 37, none,.mv (.t 0)⟩,⟨some 38, none,.mv (.t 9)⟩,⟨some 39, none,.mv (.t 0)⟩,⟨some 40, none,.mv (.t 9)⟩,⟨some 41, none,.bin .sub (.t 40) (.c (vi 1))⟩,⟨some 42, none,.mv (.t 0)⟩,⟨some 43, none,.mv (.t 9)⟩,⟨some 44, none,.bin .sub (.t 43) (.c (vi 1))⟩,⟨some 45, none,.iadr 1 (.t 42) (.t 44)⟩,⟨some 46, none,.load false 1 (.t 45)⟩,⟨some 47, none,.mv (.t 0)⟩,⟨some 48, none,.mv (.t 9)⟩,⟨some 49, none,.iadr 1 (.t 47) (.t 48)⟩,⟨some 50, none,.load false 1 (.t 49)⟩,⟨some 51, none,.iadr 1 (.t 37) (.t 38)⟩,⟨none,none,.store 1 (.t 51) (.t 46)⟩,⟨some 52, none,.iadr 1 (.t 39) (.t 41)⟩,⟨none,none,.store 1 (.t 52) (.t 50)⟩] [0,1,2,3,8,9] []
def z278r5:IC:=.reg [⟨some 35, none,.mv (.t 9)⟩,⟨some 36, none,.bin .sub (.t 35) (.c (vi 1))⟩,⟨some 9, none,.asg (.t 36)⟩] [0,1,2,3,8,9] []
def z278l6:IC:=(.seq (.seq z278r3 (.cond (.t 34) .skip (.exit 2))) (.seq (.block 3 z278r4) z278r5))
def z278r7:IC:=.reg [⟨some 15, none,.mv (.t 8)⟩,⟨some 16, none,.bin .add (.t 15) (.c (vi 1))⟩,⟨some 8, none,.asg (.t 16)⟩] [0,1,2,3,8] []
def z278l8:IC:=(.seq (.seq z278r1 (.cond (.t 14) .skip (.exit 0))) (.seq (.block 1 (.seq z278r2 (.block 2 (.loop z278l6)))) z278r7))
def zi278:IFun:=⟨[],[0],(.seq z278r0 (.block 0 (.loop z278l8)))⟩
def z86r0:IC:=.reg [⟨some 8, none,.mv (.t 1)⟩,⟨some 9, none,.bin .add (.t 8) (.c (vi 1))⟩,⟨some 6, none,.asg (.t 9)⟩] [0,1,2,6] []
def z86r1:IC:=.reg [⟨some 10, none,.mv (.t 6)⟩,⟨some 11, none,.mv (.t 2)⟩,⟨some 12, none,.bin .lss (.t 10) (.t 11)⟩] [0,1,2,6,12] []
def z86r2:IC:=.reg [⟨some 15, none,.mv (.t 6)⟩,⟨some 7, none,.asg (.t 15)⟩] [0,1,2,6,7] []
def z86r3:IC:=.reg [⟨some 16, none,.mv (.t 7)⟩,⟨some 17, none,.mv (.t 1)⟩,⟨some 18, none,.bin .gtr (.t 16) (.t 17)⟩,⟨some 19, none,.asg (.t 18)⟩,⟨some 20, (some (19,true)),.mv (.t 0)⟩,⟨some 21, (some (19,true)),.mv (.t 7)⟩,⟨some 22, (some (19,true)),.iadr 1 (.t 20) (.t 21)⟩,⟨some 23, (some (19,true)),.load false 1 (.t 22)⟩,⟨some 24, (some (19,true)),.mv (.t 0)⟩,⟨some 25, (some (19,true)),.mv (.t 7)⟩,⟨some 26, (some (19,true)),.bin .sub (.t 25) (.c (vi 1))⟩,⟨some 27, (some (19,true)),.iadr 1 (.t 24) (.t 26)⟩,⟨some 28, (some (19,true)),.load false 1 (.t 27)⟩,⟨some 29, (some (19,true)),.call zl2 [(.val,(.t 23)),(.val,(.t 28))] true⟩,⟨some 30, none,.pick (.t 19) (.t 29) (.c (.bool false))⟩] [0,1,2,6,7,30] []
def z86r4:IC:=.reg [⟨some 33, none,.mv (.t 0)⟩,⟨some 34, none,.mv (.t 7)⟩,⟨some 35, none,.mv (.t 0)⟩,⟨some 36, none,.mv (.t 7)⟩,⟨some 37, none,.bin .sub (.t 36) (.c (vi 1))⟩,⟨some 38, none,.mv (.t 0)⟩,⟨some 39, none,.mv (.t 7)⟩,⟨some 40, none,.bin .sub (.t 39) (.c (vi 1))⟩,⟨some 41, none,.iadr 1 (.t 38) (.t 40)⟩,⟨some 42, none,.load false 1 (.t 41)⟩,⟨some 43, none,.mv (.t 0)⟩,⟨some 44, none,.mv (.t 7)⟩,⟨some 45, none,.iadr 1 (.t 43) (.t 44)⟩,⟨some 46, none,.load false 1 (.t 45)⟩,⟨some 47, none,.iadr 1 (.t 33) (.t 34)⟩,⟨none,none,.store 1 (.t 47) (.t 42)⟩,⟨some 48, none,.iadr 1 (.t 35) (.t 37)⟩,⟨none,none,.store 1 (.t 48) (.t 46)⟩] [0,1,2,6,7] []
def z86r5:IC:=.reg [⟨some 31, none,.mv (.t 7)⟩,⟨some 32, none,.bin .sub (.t 31) (.c (vi 1))⟩,⟨some 7, none,.asg (.t 32)⟩] [0,1,2,6,7] []
def z86l6:IC:=(.seq (.seq z86r3 (.cond (.t 30) .skip (.exit 2))) (.seq (.block 3 z86r4) z86r5))
def z86r7:IC:=.reg [⟨some 13, none,.mv (.t 6)⟩,⟨some 14, none,.bin .add (.t 13) (.c (vi 1))⟩,⟨some 6, none,.asg (.t 14)⟩] [0,1,2,6] []
def z86l8:IC:=(.seq (.seq z86r1 (.cond (.t 12) .skip (.exit 0))) (.seq (.block 1 (.seq z86r2 (.block 2 (.loop z86l6)))) z86r7))
def zi86:IFun:=⟨[],[0],(.seq z86r0 (.block 0 (.loop z86l8)))⟩
def z101r0:IC:=.reg [⟨some 8, none,.asg (.c (.bool true))⟩] [0,1,2,3,8] []
def z101r1:IC:=.reg [⟨some 9, none,.asg (.c (.bool true))⟩] [0,1,2,3,8,9] []
def z101r2:IC:=.reg [⟨some 19, none,.mv (.t 2)⟩,⟨some 20, none,.mv (.t 1)⟩,⟨some 21, none,.bin .sub (.t 19) (.t 20)⟩,⟨some 10, none,.asg (.t 21)⟩] [0,1,2,3,8,9,10] []
def z101r3:IC:=.reg [⟨some 22, none,.mv (.t 10)⟩,⟨some 23, none,.bin .leq (.t 22) (.c (vi 12))⟩] [0,1,2,3,8,9,10,23] []
def z101r4:IC:=.reg [⟨some 24, none,.mv (.t 0)⟩,⟨some 25, none,.mv (.t 1)⟩,⟨some 26, none,.mv (.t 2)⟩,⟨some 27, none,.call zl86 [(.ld,(.t 24)),(.val,(.t 25)),(.val,(.t 26))] false⟩] [0] []
def z101r5:IC:=.reg [⟨some 28, none,.mv (.t 3)⟩,⟨some 29, none,.bin .eql (.t 28) (.c (vi 0))⟩] [0,1,2,3,8,9,10,29] []
def z101r6:IC:=.reg [⟨some 30, none,.mv (.t 0)⟩,⟨some 31, none,.mv (.t 1)⟩,⟨some 32, none,.mv (.t 2)⟩,⟨some 33, none,.call zl84 [(.ld,(.t 30)),(.val,(.t 31)),(.val,(.t 32))] false⟩] [0] []
def z101r7:IC:=.reg [⟨some 34, none,.mv (.t 8)⟩,⟨some 35, none,.unop .not (.t 34)⟩] [0,1,2,3,8,9,10,35] []
def z101r8:IC:=.reg [⟨some 36, none,.mv (.t 0)⟩,⟨some 37, none,.mv (.t 1)⟩,⟨some 38, none,.mv (.t 2)⟩,⟨some 39, none,.call zl80 [(.ld,(.t 36)),(.val,(.t 37)),(.val,(.t 38))] false⟩] [0,1,2,3,8,9,10] []
def z101r9:IC:=.reg [⟨some 40, none,.mv (.t 3)⟩,⟨some 41, none,.bin .sub (.t 40) (.c (vi 1))⟩,⟨some 3, none,.asg (.t 41)⟩] [0,1,2,3,8,9,10] []
def z101r10:IC:=.reg [⟨some 43, none,.mv (.t 0)⟩,⟨some 44, none,.mv (.t 1)⟩,⟨some 45, none,.mv (.t 2)⟩,⟨some 46, none,.call zl82 [(.rd,(.t 43)),(.val,(.t 44)),(.val,(.t 45))] true⟩,⟨some 42, none,.asg (.t 46)⟩,⟨some 47, none,.extr (.t 42) 0⟩,⟨some 48, none,.extr (.t 42) 1⟩,⟨some 11, none,.asg (.t 47)⟩,⟨some 12, none,.asg (.t 48)⟩] [0,1,2,3,8,9,10,11,12] []
def z101r11:IC:=.reg [⟨some 49, none,.mv (.t 12)⟩,⟨some 50, none,.bin .eql (.t 49) (.c (vi 2))⟩] [0,1,2,3,8,9,10,11,12,50] []
def z101r12:IC:=.reg [⟨some 51, none,.mv (.t 0)⟩,⟨some 52, none,.mv (.t 1)⟩,⟨some 53, none,.mv (.t 2)⟩,⟨some 54, none,.call zl103 [(.ld,(.t 51)),(.val,(.t 52)),(.val,(.t 53))] false⟩] [0,1,2,3,8,9,10,11] []
def z101r13:IC:=.reg [⟨some 55, none,.mv (.t 2)⟩,⟨some 56, none,.bin .sub (.t 55) (.c (vi 1))⟩,⟨some 57, none,.mv (.t 11)⟩,⟨some 58, none,.mv (.t 1)⟩,⟨some 59, none,.bin .sub (.t 57) (.t 58)⟩,⟨some 60, none,.bin .sub (.t 56) (.t 59)⟩,⟨some 11, none,.asg (.t 60)⟩] [0,1,2,3,8,9,10,11] []
def z101r14:IC:=.reg [⟨some 12, none,.asg (.c (vi 1))⟩] [0,1,2,3,8,9,10,11,12] []
def z101r15:IC:=.reg [⟨some 61, none,.mv (.t 8)⟩,⟨some 62, none,.asg (.t 61)⟩,⟨some 63, (some (62,true)),.mv (.t 9)⟩,⟨some 64, none,.pick (.t 62) (.t 63) (.c (.bool false))⟩,⟨some 65, none,.asg (.t 64)⟩,⟨some 66, (some (65,true)),.mv (.t 12)⟩,⟨some 67, (some (65,true)),.bin .eql (.t 66) (.c (vi 1))⟩,⟨some 68, none,.pick (.t 65) (.t 67) (.c (.bool false))⟩] [0,1,2,3,8,9,10,11,68] []
def z101r16:IC:=.reg [⟨some 69, none,.mv (.t 0)⟩,⟨some 70, none,.mv (.t 1)⟩,⟨some 71, none,.mv (.t 2)⟩,⟨some 72, none,.call zl95 [(.ld,(.t 69)),(.val,(.t 70)),(.val,(.t 71))] false⟩] [0,1,2,3,8,9,10,11,72] []
def z101r17:IC:=.reg [⟨some 73, none,.mv (.t 1)⟩,⟨some 74, none,.bin .gtr (.t 73) (.c (vi 0))⟩,⟨some 75, none,.asg (.t 74)⟩,⟨some 76, (some (75,true)),.mv (.t 0)⟩,⟨some 77, (some (75,true)),.mv (.t 1)⟩,⟨some 78, (some (75,true)),.bin .sub (.t 77) (.c (vi 1))⟩,⟨some 79, (some (75,true)),.iadr 1 (.t 76) (.t 78)⟩,⟨some 80, (some (75,true)),.load false 1 (.t 79)⟩,⟨some 81, (some (75,true)),.mv (.t 0)⟩,⟨some 82, (some (75,true)),.mv (.t 11)⟩,⟨some 83, (some (75,true)),.iadr 1 (.t 81) (.t 82)⟩,⟨some 84, (some (75,true)),.load false 1 (.t 83)⟩,⟨some 85, (some (75,true)),.call zl2 [(.val,(.t 80)),(.val,(.t 84))] true⟩,⟨some 86, (some (75,true)),.unop .not (.t 85)⟩,⟨some 87, none,.pick (.t 75) (.t 86) (.c (.bool false))⟩] [0,1,2,3,8,9,10,11,87] []
def z101r18:IC:=.reg [⟨some 88, none,.mv (.t 0)⟩,⟨some 89, none,.mv (.t 1)⟩,⟨some 90, none,.mv (.t 2)⟩,⟨some 91, none,.mv (.t 11)⟩,⟨some 92, none,.call zl98 [(.ld,(.t 88)),(.val,(.t 89)),(.val,(.t 90)),(.val,(.t 91))] false⟩,⟨some 13, none,.asg (.t 92)⟩] [0,2,3,8,9,13] []
def z101r19:IC:=.reg [⟨some 93, none,.mv (.t 13)⟩,⟨some 1, none,.asgm (.t 93)⟩] [0,1,2,3,8,9] []
def z101r20:IC:=.reg [⟨some 95, none,.mv (.t 0)⟩,⟨some 96, none,.mv (.t 1)⟩,⟨some 97, none,.mv (.t 2)⟩,⟨some 98, none,.mv (.t 11)⟩,⟨some 99, none,.call zl99 [(.ld,(.t 95)),(.val,(.t 96)),(.val,(.t 97)),(.val,(.t 98))] false⟩,⟨some 94, none,.asg (.t 99)⟩,⟨some 100, none,.extr (.t 94) 0⟩,⟨some 101, none,.extr (.t 94) 1⟩,⟨some 14, none,.asg (.t 100)⟩,⟨some 15, none,.asg (.t 101)⟩] [0,1,2,3,10,14,15] []
def z101r21:IC:=.reg [⟨some 102, none,.mv (.t 15)⟩,⟨some 9, none,.asgm (.t 102)⟩] [0,1,2,3,9,10,14] []
def z101r22:IC:=.reg [⟨some 103, none,.mv (.t 14)⟩,⟨some 104, none,.mv (.t 1)⟩,⟨some 105, none,.bin .sub (.t 103) (.t 104)⟩,⟨some 106, none,.mv (.t 2)⟩,⟨some 107, none,.mv (.t 14)⟩,⟨some 108, none,.bin .sub (.t 106) (.t 107)⟩,⟨some 16, none,.asg (.t 105)⟩,⟨some 17, none,.asg (.t 108)⟩] [0,1,2,3,9,10,14,16,17] []
def z101r23:IC:=.reg [⟨some 109, none,.mv (.t 10)⟩,⟨some 110, none,.bin .quo (.t 109) (.c (vi 8))⟩,⟨some 18, none,.asg (.t 110)⟩] [0,1,2,3,9,14,16,17,18] []
def z101r24:IC:=.reg [⟨some 111, none,.mv (.t 16)⟩,⟨some 112, none,.mv (.t 17)⟩,⟨some 113, none,.bin .lss (.t 111) (.t 112)⟩] [0,1,2,3,9,14,16,17,18,113] []
def z101r25:IC:=.reg [⟨some 114, none,.mv (.t 16)⟩,⟨some 115, none,.mv (.t 18)⟩,⟨some 116, none,.bin .geq (.t 114) (.t 115)⟩,⟨some 8, none,.asg (.t 116)⟩] [0,1,2,3,8,9,14] []
def z101r26:IC:=.reg [⟨some 117, none,.mv (.t 0)⟩,⟨some 118, none,.mv (.t 1)⟩,⟨some 119, none,.mv (.t 14)⟩,⟨some 120, none,.mv (.t 3)⟩,⟨some 121, none,.call zl101 [(.ld,(.t 117)),(.val,(.t 118)),(.val,(.t 119)),(.val,(.t 120))] false⟩] [0,2,3,8,9,14] []
def z101r27:IC:=.reg [⟨some 122, none,.mv (.t 14)⟩,⟨some 123, none,.bin .add (.t 122) (.c (vi 1))⟩,⟨some 1, none,.asg (.t 123)⟩] [0,1,2,3,8,9] []
def z101r28:IC:=.reg [⟨some 124, none,.mv (.t 17)⟩,⟨some 125, none,.mv (.t 18)⟩,⟨some 126, none,.bin .geq (.t 124) (.t 125)⟩,⟨some 8, none,.asg (.t 126)⟩] [0,1,2,3,8,9,14] []
def z101r29:IC:=.reg [⟨some 127, none,.mv (.t 0)⟩,⟨some 128, none,.mv (.t 14)⟩,⟨some 129, none,.bin .add (.t 128) (.c (vi 1))⟩,⟨some 130, none,.mv (.t 2)⟩,⟨some 131, none,.mv (.t 3)⟩,⟨some 132, none,.call zl101 [(.ld,(.t 127)),(.val,(.t 129)),(.val,(.t 130)),(.val,(.t 131))] false⟩] [0,1,3,8,9,14] []
def z101r30:IC:=.reg [⟨some 133, none,.mv (.t 14)⟩,⟨some 2, none,.asgm (.t 133)⟩] [0,1,2,3,8,9] []
def z101l31:IC:=(.block 1 (.seq z101r2 (.seq (.seq z101r3 (.cond (.t 23) (.seq z101r4 .ret) .skip)) (.seq (.seq z101r5 (.cond (.t 29) (.seq z101r6 .ret) .skip)) (.seq (.seq z101r7 (.cond (.t 35) (.seq z101r8 z101r9) .skip)) (.seq z101r10 (.seq (.seq z101r11 (.cond (.t 50) (.seq z101r12 (.seq z101r13 z101r14)) .skip)) (.seq (.seq z101r15 (.cond (.t 68) (.seq z101r16 (.cond (.t 72) .ret .skip)) .skip)) (.seq (.seq z101r17 (.cond (.t 87) (.seq z101r18 (.seq z101r19 (.exit 1))) .skip)) (.seq z101r20 (.seq z101r21 (.seq z101r22 (.seq z101r23 (.seq z101r24 (.cond (.t 113) (.seq z101r25 (.seq z101r26 z101r27)) (.seq z101r28 (.seq z101r29 z101r30)))))))))))))))))
def zi101:IFun:=⟨[],[0],(.seq z101r0 (.seq z101r1 (.block 0 (.loop z101l31))))⟩
def z289r0:IC:=.reg [⟨some 6, none,.asg (.c (vi 20))⟩] [0,1,2,6] []
def z289r1:IC:=.reg [⟨some 10, none,.mv (.t 6)⟩,⟨some 7, none,.asg (.c (vi 0))⟩,⟨some 8, none,.asg (.t 10)⟩] [0,1,2,6,7,8] []
def z289r2:IC:=.reg [⟨some 11, none,.mv (.t 8)⟩,⟨some 12, none,.mv (.t 1)⟩,⟨some 13, none,.bin .leq (.t 11) (.t 12)⟩] [0,1,2,6,7,8,13] []
def z289r3:IC:=.reg [⟨some 14, none,.mv (.t 0)⟩,⟨some 15, none,.mv (.t 7)⟩,⟨some 16, none,.mv (.t 8)⟩,⟨some 17, none,.mv (.t 2)⟩,⟨some 18, none,.call zl278 [(.ld,(.t 14)),(.val,(.t 15)),(.val,(.t 16)),(.val,(.t 17))] false⟩] [0,1,2,6,8] []
def z289r4:IC:=.reg [⟨some 19, none,.mv (.t 8)⟩,⟨some 7, none,.asg (.t 19)⟩] [0,1,2,6,7,8] []
def z289r5:IC:=.reg [⟨some 20, none,.mv (.t 8)⟩,⟨some 21, none,.mv (.t 6)⟩,⟨some 22, none,.bin .add (.t 20) (.t 21)⟩,⟨some 8, none,.asg (.t 22)⟩] [0,1,2,6,7,8] []
def z289l6:IC:=(.seq (.seq z289r2 (.cond (.t 13) .skip (.exit 0))) (.block 1 (.seq z289r3 (.seq z289r4 z289r5))))
def z289r7:IC:=.reg [⟨some 23, none,.mv (.t 0)⟩,⟨some 24, none,.mv (.t 7)⟩,⟨some 25, none,.mv (.t 1)⟩,⟨some 26, none,.mv (.t 2)⟩,⟨some 27, none,.call zl278 [(.ld,(.t 23)),(.val,(.t 24)),(.val,(.t 25)),(.val,(.t 26))] false⟩] [0,1,2,6] []
def z289r8:IC:=.reg [⟨some 28, none,.mv (.t 6)⟩,⟨some 29, none,.mv (.t 1)⟩,⟨some 30, none,.bin .lss (.t 28) (.t 29)⟩] [0,1,2,6,30] []
def z289r9:IC:=.reg [⟨some 31, none,.mv (.t 6)⟩,⟨some 32, none,.bin .mul (.c (vi 2)) (.t 31)⟩,⟨some 7, none,.asg (.c (vi 0))⟩,⟨some 8, none,.asg (.t 32)⟩] [0,1,2,6,7,8] []
def z289r10:IC:=.reg [⟨some 33, none,.mv (.t 8)⟩,⟨some 34, none,.mv (.t 1)⟩,⟨some 35, none,.bin .leq (.t 33) (.t 34)⟩] [0,1,2,6,7,8,35] []
def z289r11:IC:=.reg [⟨some 36, none,.mv (.t 0)⟩,⟨some 37, none,.mv (.t 7)⟩,⟨some 38, none,.mv (.t 7)⟩,⟨some 39, none,.mv (.t 6)⟩,⟨some 40, none,.bin .add (.t 38) (.t 39)⟩,⟨some 41, none,.mv (.t 8)⟩,⟨some 42, none,.mv (.t 2)⟩,⟨some 43, none,.call zl291 [(.ld,(.t 36)),(.val,(.t 37)),(.val,(.t 40)),(.val,(.t 41)),(.val,(.t 42))] false⟩] [0,1,2,6,8] []
def z289r12:IC:=.reg [⟨some 44, none,.mv (.t 8)⟩,⟨some 7, none,.asg (.t 44)⟩] [0,1,2,6,7,8] []
def z289r13:IC:=.reg [⟨some 45, none,.mv (.t 8)⟩,⟨some 46, none,.mv (.t 6)⟩,⟨some 47, none,.bin .mul (.c (vi 2)) (.t 46)⟩,⟨some 48, none,.bin .add (.t 45) (.t 47)⟩,⟨some 8, none,.asg (.t 48)⟩] [0,1,2,6,7,8] []
def z289l14:IC:=(.seq (.seq z289r10 (.cond (.t 35) .skip (.exit 4))) (.block 5 (.seq z289r11 (.seq z289r12 z289r13))))
def z289r15:IC:=.reg [⟨some 49, none,.mv (.t 7)⟩,⟨some 50, none,.mv (.t 6)⟩,⟨some 51, none,.bin .add (.t 49) (.t 50)⟩,⟨some 9, none,.asg (.t 51)⟩] [0,1,2,6,7,9] []
def z289r16:IC:=.reg [⟨some 52, none,.mv (.t 9)⟩,⟨some 53, none,.mv (.t 1)⟩,⟨some 54, none,.bin .lss (.t 52) (.t 53)⟩] [0,1,2,6,7,9,54] []
def z289r17:IC:=.reg [⟨some 55, none,.mv (.t 0)⟩,⟨some 56, none,.mv (.t 7)⟩,⟨some 57, none,.mv (.t 9)⟩,⟨some 58, none,.mv (.t 1)⟩,⟨some 59, none,.mv (.t 2)⟩,⟨some 60, none,.call zl291 [(.ld,(.t 55)),(.val,(.t 56)),(.val,(.t 57)),(.val,(.t 58)),(.val,(.t 59))] false⟩] [0,1,2,6] []
def z289r18:IC:=.reg [⟨some 61, none,.mv (.t 6)⟩,⟨some 62, none,.bin .mul (.t 61) (.c (vi 2))⟩,⟨some 6, none,.asg (.t 62)⟩] [0,1,2,6] []
def z289l19:IC:=(.seq (.seq z289r8 (.cond (.t 30) .skip (.exit 2))) (.block 3 (.seq z289r9 (.seq (.block 4 (.loop z289l14)) (.seq (.seq z289r15 (.seq z289r16 (.cond (.t 54) z289r17 .skip))) z289r18)))))
def zi289:IFun:=⟨[],[0],(.seq z289r0 (.seq z289r1 (.seq (.block 0 (.loop z289l6)) (.seq z289r7 (.block 2 (.loop z289l19))))))⟩
def z578r0:IC:=.reg [⟨some 1, none,.box (.t 0)⟩,⟨some 2, none,.asg (.c (.slice none 0 0))⟩,⟨some 3, none,.asg (.c (.slice none 0 0))⟩,⟨some 4, none,.asg (.c (.bool false))⟩] [1] []
def z578r1:IC:=.reg [⟨some 10, none,.load true 2 (.t 1)⟩,⟨some 11, none,.call zl145 [(.rd,(.t 10))] true⟩,⟨some 12, none,.unop .not (.t 11)⟩] [1,12] []
def z578r2:IC:=.reg [⟨some 2, none,.asg (.c (.slice none 0 0))⟩,⟨some 3, none,.asg (.c (.slice none 0 0))⟩,⟨some 4, none,.asg (.c (.bool false))⟩] [2,3,4,7,8] []
def z578r3:IC:=.reg [⟨some 13, none,.load true 2 (.t 1)⟩,⟨some 14, none,.call zl125 [(.rd,(.t 13))] true⟩,⟨some 5, none,.asg (.t 14)⟩] [1,5] []
def z578r4:IC:=.reg [⟨some 15, none,.mv (.t 5)⟩,⟨some 16, none,.mv (.t 5)⟩,⟨some 17, none,.call zl349 [(.rd,(.t 16))] true⟩,⟨some 18, none,.call zl587 [(.rd,(.t 15)),(.val,(.c (vi (-1)))),(.val,(.t 17))] true⟩,⟨some 6, none,.asg (.t 18)⟩] [1,6] []
def z578r5:IC:=.reg [⟨some 19, none,.load true 2 (.t 1)⟩,⟨some 20, none,.mv (.t 6)⟩,⟨some 21, none,.call zl589 [(.rd,(.t 19)),(.rd,(.t 20))] true⟩,⟨some 22, none,.unop .not (.t 21)⟩] [1,6,22] []
def z578r6:IC:=.reg [⟨some 2, none,.asg (.c (.slice none 0 0))⟩,⟨some 3, none,.asg (.c (.slice none 0 0))⟩,⟨some 4, none,.asg (.c (.bool false))⟩] [2,3,4,7,8] []
def z578r7:IC:=.reg [⟨some 23, none,.bsl 1 [(vi 0)] 0 []⟩,⟨some 7, none,.asg (.t 23)⟩] [1,6,7] []
def z578r8:IC:=.reg [⟨some 24, none,.bsl 1 [(vi 0)] 0 []⟩,⟨some 8, none,.asg (.t 24)⟩] [1,6,7,8] []
def z578r9:IC:=.reg [⟨some 9, none,.asg (.c (vi 0))⟩] [1,6,7,8,9] []
def z578r10:IC:=.reg [⟨some 25, none,.mv (.t 9)⟩,⟨some 26, none,.fadr 0 (.t 1)⟩,⟨some 27, none,.load false 1 (.t 26)⟩,⟨some 28, none,.bin .lss (.t 25) (.t 27)⟩] [1,6,7,8,9,28] []
def z578r11:IC:=.reg [⟨some 31, none,.mv (.t 6)⟩,⟨some 32, none,.mv (.t 9)⟩,⟨some 33, none,.call zl131 [(.rd,(.t 31)),(.val,(.t 32))] true⟩] [1,6,7,8,9,33] []
def z578r12:IC:=.reg [⟨some 34, none,.mv (.t 7)⟩,⟨some 35, none,.mv (.t 9)⟩,⟨some 36, none,.bsl 1 [(vi 0)] 1 [(0,(.t 35))]⟩,⟨some 37, none,.app 1 (.t 34) (.t 36)⟩,⟨some 7, none,.asg (.t 37)⟩] [1,6,7,8,9] []
def z578r13:IC:=.reg [⟨some 38, none,.mv (.t 8)⟩,⟨some 39, none,.mv (.t 9)⟩,⟨some 40, none,.bsl 1 [(vi 0)] 1 [(0,(.t 39))]⟩,⟨some 41, none,.app 1 (.t 38) (.t 40)⟩,⟨some 8, none,.asg (.t 41)⟩] [1,6,7,8,9] []
def z578r14:IC:=.reg [⟨some 29, none,.mv (.t 9)⟩,⟨some 30, none,.bin .add (.t 29) (.c (vi 1))⟩,⟨some 9, none,.asg (.t 30)⟩] [1,6,7,8,9] []
def z578l15:IC:=(.seq (.seq z578r10 (.cond (.t 28) .skip (.exit 0))) (.seq (.block 1 (.seq z578r11 (.cond (.t 33) z578r12 z578r13))) z578r14))
def z578r16:IC:=.reg [⟨some 42, none,.mv (.t 7)⟩,⟨some 43, none,.mv (.t 8)⟩,⟨some 2, none,.asgm (.t 42)⟩,⟨some 3, none,.asgm (.t 43)⟩,⟨some 4, none,.asg (.c (.bool true))⟩] [2,3,4,7,8] []
def zi578:IFun:=⟨[.t 2,.t 3,.t 4],[],(.seq z578r0 (.seq (.seq z578r1 (.cond (.t 12) (.seq z578r2 .ret) .skip)) (.seq z578r3 (.seq z578r4 (.seq (.seq z578r5 (.cond (.t 22) (.seq z578r6 .ret) .skip)) (.seq z578r7 (.seq z578r8 (.seq (.seq z578r9 (.block 0 (.loop z578l15))) (.seq z578r16 .ret)))))))))⟩
def z123r0:IC:=.reg [⟨some 2, none,.asg (.c (.slice none 0 0))⟩] [0] []
def z123r1:IC:=.reg [⟨some 3, none,.bsl 1 [(vi 0)] 0 []⟩,⟨some 4, none,.mv (.t 0)⟩,⟨some 5, none,.app 1 (.t 3) (.t 4)⟩,⟨some 2, none,.asg (.t 5)⟩] [2] []
def zi123:IFun:=⟨[.t 2],[],(.seq z123r0 (.seq z123r1 .ret))⟩
def z125r0:IC:=.reg [⟨some 1, none,.box (.t 0)⟩,⟨some 2, none,.asg (.c (.slice none 0 0))⟩] [1] []
def z125r1:IC:=.reg [⟨some 5, none,.fadr 0 (.t 1)⟩,⟨some 6, none,.load false 1 (.t 5)⟩,⟨some 7, none,.mksl 1 [(vi 0)] (.t 6) (.t 6)⟩,⟨some 3, none,.asg (.t 7)⟩] [1,3] []
def z125r2:IC:=.reg [⟨some 4, none,.asg (.c (vi 0))⟩] [1,3,4] []
def z125r3:IC:=.reg [⟨some 8, none,.mv (.t 4)⟩,⟨some 9, none,.fadr 1 (.t 1)⟩,⟨some 10, none,.load false 1 (.t 9)⟩,⟨some 11, none,.len (.t 10)⟩,⟨some 12, none,.bin .lss (.t 8) (.t 11)⟩] [1,3,4,12] []
def z125r4:IC:=.reg [⟨some 15, none,.mv (.t 3)⟩,⟨some 16, none,.fadr 1 (.t 1)⟩,⟨some 17, none,.load false 1 (.t 16)⟩,⟨some 18, none,.mv (.t 4)⟩,⟨some 19, none,.iadr 2 (.t 17) (.t 18)⟩,⟨some 20, none,.fadr 0 (.t 19)⟩,⟨some 21, none,.load false 1 (.t 20)⟩,⟨some 22, none,.mv (.t 3)⟩,⟨some 23, none,.fadr 1 (.t 1)⟩,⟨some 24, none,.load false 1 (.t 23)⟩,⟨some 25, none,.mv (.t 4)⟩,⟨some 26, none,.iadr 2 (.t 24) (.t 25)⟩,⟨some 27, none,.fadr 0 (.t 26)⟩,⟨some 28, none,.load false 1 (.t 27)⟩,⟨some 29, none,.iadr 1 (.t 22) (.t 28)⟩,⟨some 30, none,.load false 1 (.t 29)⟩,⟨some 31, none,.bin .add (.t 30) (.c (vi 1))⟩,⟨some 32, none,.iadr 1 (.t 15) (.t 21)⟩,⟨none,none,.store 1 (.t 32) (.t 31)⟩] [1,3,4] []
def z125r5:IC:=.reg [⟨some 33, none,.mv (.t 3)⟩,⟨some 34, none,.fadr 1 (.t 1)⟩,⟨some 35, none,.load false 1 (.t 34)⟩,⟨some 36, none,.mv (.t 4)⟩,⟨some 37, none,.iadr 2 (.t 35) (.t 36)⟩,⟨some 38, none,.fadr 1 (.t 37)⟩,⟨some 39, none,.load false 1 (.t 38)⟩,⟨some 40, none,.mv (.t 3)⟩,⟨some 41, none,.fadr 1 (.t 1)⟩,⟨some 42, none,.load false 1 (.t 41)⟩,⟨some 43, none,.mv (.t 4)⟩,⟨some 44, none,.iadr 2 (.t 42) (.t 43)⟩,⟨some 45, none,.fadr 1 (.t 44)⟩,⟨some 46, none,.load false 1 (.t 45)⟩,⟨some 47, none,.iadr 1 (.t 40) (.t 46)⟩,⟨some 48, none,.load false 1 (.t 47)⟩,⟨some 49, none,.bin .add (.t 48) (.c (vi 1))⟩,⟨some 50, none,.iadr 1 (.t 33) (.t 39)⟩,⟨none,none,.store 1 (.t 50) (.t 49)⟩] [1,3,4] []
def z125r6:IC:=.reg [⟨some 13, none,.mv (.t 4)⟩,⟨some 14, none,.bin .add (.t 13) (.c (vi 1))⟩,⟨some 4, none,.asg (.t 14)⟩] [1,3,4] []
def z125l7:IC:=(.seq (.seq z125r3 (.cond (.t 12) .skip (.exit 0))) (.seq (.block 1 (.seq z125r4 z125r5)) z125r6))
def z125r8:IC:=.reg [⟨some 51, none,.mv (.t 3)⟩,⟨some 2, none,.asgm (.t 51)⟩] [2,3] []
def zi125:IFun:=⟨[.t 2],[],(.seq z125r0 (.seq z125r1 (.seq (.seq z125r2 (.block 0 (.loop z125l7))) (.seq z125r8 .ret))))⟩
def z349r0:IC:=.reg [⟨some 2, none,.asg (.c (vi 0))⟩] [0] []
def z349r1:IC:=.reg [⟨some 6, none,.mv (.t 0)⟩,⟨some 7, none,.call zl127 [(.rd,(.t 6))] true⟩,⟨some 3, none,.asg (.t 7)⟩] [3] []
def z349r2:IC:=.reg [⟨some 4, none,.asg (.c (vi 0))⟩] [3,4] []
def z349r3:IC:=.reg [⟨some 5, none,.asg (.c (vi 0))⟩] [3,4,5] []
def z349r4:IC:=.reg [⟨some 8, none,.mv (.t 5)⟩,⟨some 9, none,.mv (.t 3)⟩,⟨some 10, none,.len (.t 9)⟩,⟨some 11, none,.bin .lss (.t 8) (.t 10)⟩] [3,4,5,11] []
def z349r5:IC:=.reg [⟨some 14, none,.mv (.t 3)⟩,⟨some 15, none,.mv (.t 5)⟩,⟨some 16, none,.iadr 1 (.t 14) (.t 15)⟩,⟨some 17, none,.load false 1 (.t 16)⟩,⟨some 18, none,.mv (.t 5)⟩,⟨some 19, none,.bin .geq (.t 17) (.t 18)⟩] [3,4,5,19] []
def z349r6:IC:=.reg [⟨some 20, none,.mv (.t 5)⟩,⟨some 21, none,.bin .add (.t 20) (.c (vi 1))⟩,⟨some 4, none,.asg (.t 21)⟩] [3,4,5] []
def z349r7:IC:=.reg [⟨some 12, none,.mv (.t 5)⟩,⟨some 13, none,.bin .add (.t 12) (.c (vi 1))⟩,⟨some 5, none,.asg (.t 13)⟩] [3,4,5] []
def z349l8:IC:=(.seq (.seq z349r4 (.cond (.t 11) .skip (.exit 0))) (.seq (.block 1 (.seq z349r5 (.cond (.t 19) z349r6 .skip))) z349r7))
def z349r9:IC:=.reg [⟨some 22, none,.mv (.t 4)⟩,⟨some 2, none,.asgm (.t 22)⟩] [2] []
def zi349:IFun:=⟨[.t 2],[],(.seq z349r0 (.seq z349r1 (.seq z349r2 (.seq (.seq z349r3 (.block 0 (.loop z349l8))) (.seq z349r9 .ret)))))⟩
def z126r0:IC:=.reg [⟨some 2, none,.box (.t 0)⟩,⟨some 3, none,.box (.t 1)⟩,⟨some 4, none,.asg (.c (.bool false))⟩] [2,3] []
def z126r1:IC:=.reg [⟨some 5, none,.fadr 0 (.t 2)⟩,⟨some 6, none,.load false 1 (.t 5)⟩,⟨some 7, none,.fadr 0 (.t 3)⟩,⟨some 8, none,.load false 1 (.t 7)⟩,⟨some 9, none,.bin .lss (.t 6) (.t 8)⟩,⟨some 10, none,.asg (.t 9)⟩,⟨some 11, (some (10,false)),.fadr 0 (.t 2)⟩,⟨some 12, (some (10,false)),.load false 1 (.t 11)⟩,⟨some 13, (some (10,false)),.fadr 0 (.t 3)⟩,⟨some 14, (some (10,false)),.load false 1 (.t 13)⟩,⟨some 15, (some (10,false)),.bin .eql (.t 12) (.t 14)⟩,⟨some 16, (some (10,false)),.asg (.t 15)⟩,⟨some 17, (some (16,true)),.fadr 1 (.t 2)⟩,⟨some 18, (some (16,true)),.load false 1 (.t 17)⟩,⟨some 19, (some (16,true)),.fadr 1 (.t 3)⟩,⟨some 20, (some (16,true)),.load false 1 (.t 19)⟩,⟨some 21, (some (16,true)),.bin .lss (.t 18) (.t 20)⟩,⟨some 22, (some (10,false)),.pick (.t 16) (.t 21) (.c (.bool false))⟩,⟨some 23, none,.pick (.t 10) (.c (.bool true)) (.t 22)⟩,
    ⟨some 4, none,.asg (.t 23)⟩] [4] []
def zi126:IFun:=⟨[.t 4],[],(.seq z126r0 (.seq z126r1 .ret))⟩
def z127r0:IC:=.reg [⟨some 2, none,.asg (.c (.slice none 0 0))⟩] [0] []
def z127r1:IC:=.reg [⟨some 6, none,.bsl 1 [(vi 0)] 0 []⟩,⟨some 3, none,.asg (.t 6)⟩] [0,3] []
def z127r2:IC:=.reg [⟨some 4, none,.asg (.c (vi 0))⟩] [0,3,4] []
def z127r3:IC:=.reg [⟨some 7, none,.mv (.t 4)⟩,⟨some 8, none,.mv (.t 0)⟩,⟨some 9, none,.len (.t 8)⟩,⟨some 10, none,.bin .lss (.t 7) (.t 9)⟩] [0,3,4,10] []
def z127r4:IC:=.reg [⟨some 5, none,.asg (.c (vi 0))⟩] [0,3,4,5] []
def z127r5:IC:=.reg [⟨some 13, none,.mv (.t 5)⟩,⟨some 14, none,.mv (.t 3)⟩,⟨some 15, none,.len (.t 14)⟩,⟨some 16, none,.bin .lss (.t 13) (.t 15)⟩,⟨some 17, none,.asg (.t 16)⟩,⟨some 18, (some (17,true)),.mv (.t 3)⟩,⟨some 19, (some (17,true)),.mv (.t 5)⟩,⟨some 20, (some (17,true)),.iadr 1 (.t 18) (.t 19)⟩,⟨some 21, (some (17,true)),.load false 1 (.t 20)⟩,⟨some 22, (some (17,true)),.mv (.t 0)⟩,⟨some 23, (some (17,true)),.mv (.t 4)⟩,⟨some 24, (some (17,true)),.iadr 1 (.t 22) (.t 23)⟩,⟨some 25, (some (17,true)),.load false 1 (.t 24)⟩,⟨some 26, (some (17,true)),.bin .geq (.t 21) (.t 25)⟩,⟨some 27, none,.pick (.t 17) (.t 26) (.c (.bool false))⟩] [0,3,4,5,27] []
def z127r6:IC:=.reg [⟨some 28, none,.mv (.t 5)⟩,⟨some 29, none,.bin .add (.t 28) (.c (vi 1))⟩,⟨some 5, none,.asg (.t 29)⟩] [0,3,4,5] []
def z127l7:IC:=(.seq (.seq z127r5 (.cond (.t 27) .skip (.exit 2))) (.block 3 z127r6))
def z127r8:IC:=.reg [⟨some 30, none,.mv (.t 3)⟩,⟨some 31, none,.mv (.t 5)⟩,⟨some 32, none,.slc 1 (.t 30) none (some (.t 31)) none⟩,⟨some 33, none,.call zl123 [(.rd,(.t 32))] true⟩,⟨some 34, none,.mv (.t 0)⟩,⟨some 35, none,.mv (.t 4)⟩,⟨some 36, none,.iadr 1 (.t 34) (.t 35)⟩,⟨some 37, none,.load false 1 (.t 36)⟩,⟨some 38, none,.bsl 1 [(vi 0)] 1 [(0,(.t 37))]⟩,⟨some 39, none,.app 1 (.t 33) (.t 38)⟩,⟨some 40, none,.mv (.t 3)⟩,⟨some 41, none,.mv (.t 5)⟩,⟨some 42, none,.slc 1 (.t 40) (some (.t 41)) none none⟩,⟨some 43, none,.app 1 (.t 39) (.t 42)⟩,⟨some 3, none,.asg (.t 43)⟩] [0,3,4] [[0,1,2,4,5,6,7,3,8,9,10,11,12,13,14],[0,1,2,4,5,6,7,8,3,9,10,11,12,13,14]]
def z127r9:IC:=.reg [⟨some 11, none,.mv (.t 4)⟩,⟨some 12, none,.bin .add (.t 11) (.c (vi 1))⟩,⟨some 4, none,.asg (.t 12)⟩] [0,3,4] []
def z127l10:IC:=(.seq (.seq z127r3 (.cond (.t 10) .skip (.exit 0))) (.seq (.block 1 (.seq z127r4 (.seq (.block 2 (.loop z127l7)) z127r8))) z127r9))
def z127r11:IC:=.reg [⟨some 44, none,.mv (.t 3)⟩,⟨some 2, none,.asgm (.t 44)⟩] [2,3] []
def zi127:IFun:=⟨[.t 2],[],(.seq z127r0 (.seq z127r1 (.seq (.seq z127r2 (.block 0 (.loop z127l10))) (.seq z127r11 .ret))))⟩
def z587r0:IC:=.reg [⟨some 6, none,.asg (.c (.slice none 0 0))⟩] [0,1,2] []
def z587r1:IC:=.reg [⟨some 10, none,.bsl 1 [(vi 0)] 0 []⟩,⟨some 7, none,.asg (.t 10)⟩] [0,1,2,7] []
def z587r2:IC:=.reg [⟨some 11, none,.mv (.t 7)⟩,⟨some 12, none,.len (.t 11)⟩,⟨some 13, none,.mv (.t 2)⟩,⟨some 14, none,.bin .lss (.t 12) (.t 13)⟩] [0,1,2,7,14] []
def z587r3:IC:=.reg [⟨some 8, none,.asg (.c (vi (-1)))⟩] [0,1,2,7,8] []
def z587r4:IC:=.reg [⟨some 9, none,.asg (.c (vi 0))⟩] [0,1,2,7,8,9] []
def z587r5:IC:=.reg [⟨some 15, none,.mv (.t 9)⟩,⟨some 16, none,.mv (.t 0)⟩,⟨some 17, none,.len (.t 16)⟩,⟨some 18, none,.bin .lss (.t 15) (.t 17)⟩] [0,1,2,7,8,9,18] []
def z587r6:IC:=.reg [⟨some 21, none,.mv (.t 9)⟩,⟨some 22, none,.mv (.t 1)⟩,⟨some 23, none,.bin .neq (.t 21) (.t 22)⟩,⟨some 24, none,.asg (.t 23)⟩,⟨some 25, (some (24,true)),.mv (.t 7)⟩,⟨some 26, (some (24,true)),.mv (.t 9)⟩,⟨some 27, (some (24,true)),.call zl131 [(.rd,(.t 25)),(.val,(.t 26))] true⟩,⟨some 28, (some (24,true)),.unop .not (.t 27)⟩,⟨some 29, none,.pick (.t 24) (.t 28) (.c (.bool false))⟩,⟨some 30, none,.asg (.t 29)⟩,⟨some 31, (some (30,true)),.mv (.t 8)⟩,⟨some 32, (some (30,true)),.bin .lss (.t 31) (.c (vi 0))⟩,⟨some 33, (some (30,true)),.asg (.t 32)⟩,⟨some 34, (some (33,false)),.mv (.t 0)⟩,⟨some 35, (some (33,false)),.mv (.t 9)⟩,⟨some 36, (some (33,false)),.iadr 1 (.t 34) (.t 35)⟩,⟨some 37, (some (33,false)),.load false 1 (.t 36)⟩,⟨some 38, (some (33,false)),.mv (.t 0)⟩,⟨some 39, (some (33,false)),.mv (.t 8)⟩,⟨some 40, (some (33,false)),.iadr 1 (.t 38) (.t 39)⟩,
    ⟨some 41, (some (33,false)),.load false 1 (.t 40)⟩,⟨some 42, (some (33,false)),.bin .gtr (.t 37) (.t 41)⟩,⟨some 43, (some (30,true)),.pick (.t 33) (.c (.bool true)) (.t 42)⟩,⟨some 44, none,.pick (.t 30) (.t 43) (.c (.bool false))⟩] [0,1,2,7,8,9,44] []
def z587r7:IC:=.reg [⟨some 45, none,.mv (.t 9)⟩,⟨some 8, none,.asg (.t 45)⟩] [0,1,2,7,8,9] []
def z587r8:IC:=.reg [⟨some 19, none,.mv (.t 9)⟩,⟨some 20, none,.bin .add (.t 19) (.c (vi 1))⟩,⟨some 9, none,.asg (.t 20)⟩] [0,1,2,7,8,9] []
def z587l9:IC:=(.seq (.seq z587r5 (.cond (.t 18) .skip (.exit 2))) (.seq (.block 3 (.seq z587r6 (.cond (.t 44) z587r7 .skip))) z587r8))
def z587r10:IC:=.reg [⟨some 46, none,.mv (.t 7)⟩,⟨some 47, none,.mv (.t 8)⟩,⟨some 48, none,.bsl 1 [(vi 0)] 1 [(0,(.t 47))]⟩,⟨some 49, none,.app 1 (.t 46) (.t 48)⟩,⟨some 7, none,.asg (.t 49)⟩] [0,1,2,7] []
def z587l11:IC:=(.seq (.seq z587r2 (.cond (.t 14) .skip (.exit 0))) (.block 1 (.seq z587r3 (.seq (.seq z587r4 (.block 2 (.loop z587l9))) z587r10))))
def z587r12:IC:=.reg [⟨some 50, none,.mv (.t 7)⟩,⟨some 6, none,.asgm (.t 50)⟩] [6,7] []
def zi587:IFun:=⟨[.t 6],[],(.seq z587r0 (.seq z587r1 (.seq (.block 0 (.loop z587l11)) (.seq z587r12 .ret))))⟩
def z130r0:IC:=.reg [⟨some 3, none,.box (.t 0)⟩,⟨some 6, none,.asg (.c (.bool false))⟩] [1,2,3] []
def z130r1:IC:=.reg [⟨some 7, none,.asg (.c (vi 0))⟩] [1,2,3,7] []
def z130r2:IC:=.reg [⟨some 9, none,.mv (.t 7)⟩,⟨some 10, none,.fadr 1 (.t 3)⟩,⟨some 11, none,.load false 1 (.t 10)⟩,⟨some 12, none,.len (.t 11)⟩,⟨some 13, none,.bin .lss (.t 9) (.t 12)⟩] [1,2,3,7,13] []
def z130r3:IC:=.reg [⟨some 16, none,.fadr 1 (.t 3)⟩,⟨some 17, none,.load false 1 (.t 16)⟩,⟨some 18, none,.mv (.t 7)⟩,⟨some 19, none,.iadr 2 (.t 17) (.t 18)⟩,⟨some 20, none,.load true 2 (.t 19)⟩,⟨some 8, none,.alloc [(vi 0),(vi 0)]⟩,⟨none,none,.store 2 (.t 8) (.t 20)⟩] [1,2,3,7,8] []
def z130r4:IC:=.reg [⟨some 21, none,.fadr 0 (.t 8)⟩,⟨some 22, none,.load false 1 (.t 21)⟩,⟨some 23, none,.mv (.t 1)⟩,⟨some 24, none,.bin .eql (.t 22) (.t 23)⟩,⟨some 25, none,.asg (.t 24)⟩,⟨some 26, (some (25,true)),.fadr 1 (.t 8)⟩,⟨some 27, (some (25,true)),.load false 1 (.t 26)⟩,⟨some 28, (some (25,true)),.mv (.t 2)⟩,⟨some 29, (some (25,true)),.bin .eql (.t 27) (.t 28)⟩,⟨some 30, none,.pick (.t 25) (.t 29) (.c (.bool false))⟩,⟨some 31, none,.asg (.t 30)⟩,⟨some 32, (some (31,false)),.fadr 0 (.t 8)⟩,⟨some 33, (some (31,false)),.load false 1 (.t 32)⟩,⟨some 34, (some (31,false)),.mv (.t 2)⟩,⟨some 35, (some (31,false)),.bin .eql (.t 33) (.t 34)⟩,⟨some 36, (some (31,false)),.asg (.t 35)⟩,⟨some 37, (some (36,true)),.fadr 1 (.t 8)⟩,⟨some 38, (some (36,true)),.load false 1 (.t 37)⟩,⟨some 39, (some (36,true)),.mv (.t 1)⟩,⟨some 40, (some (36,true)),.bin .eql (.t 38) (.t 39)⟩,
    ⟨some 41, (some (31,false)),.pick (.t 36) (.t 40) (.c (.bool false))⟩,⟨some 42, none,.pick (.t 31) (.c (.bool true)) (.t 41)⟩] [1,2,3,7,42] []
def z130r5:IC:=.reg [⟨some 6, none,.asg (.c (.bool true))⟩] [6] []
def z130r6:IC:=.reg [⟨some 14, none,.mv (.t 7)⟩,⟨some 15, none,.bin .add (.t 14) (.c (vi 1))⟩,⟨some 7, none,.asg (.t 15)⟩] [1,2,3,7] []
def z130l7:IC:=(.seq (.seq z130r2 (.cond (.t 13) .skip (.exit 0))) (.seq (.block 1 (.seq z130r3 (.seq z130r4 (.cond (.t 42) (.seq z130r5 .ret) .skip)))) z130r6))
def z130r8:IC:=.reg [⟨some 6, none,.asg (.c (.bool false))⟩] [6] []
def zi130:IFun:=⟨[.t 6],[],(.seq z130r0 (.seq (.seq z130r1 (.block 0 (.loop z130l7))) (.seq z130r8 .ret)))⟩
def z131r0:IC:=.reg [⟨some 4, none,.asg (.c (.bool false))⟩] [0,1] []
def z131r1:IC:=.reg [⟨some 5, none,.asg (.c (vi 0))⟩] [0,1,5] []
def z131r2:IC:=.reg [⟨some 6, none,.mv (.t 5)⟩,⟨some 7, none,.mv (.t 0)⟩,⟨some 8, none,.len (.t 7)⟩,⟨some 9, none,.bin .lss (.t 6) (.t 8)⟩] [0,1,5,9] []
def z131r3:IC:=.reg [⟨some 12, none,.mv (.t 0)⟩,⟨some 13, none,.mv (.t 5)⟩,⟨some 14, none,.iadr 1 (.t 12) (.t 13)⟩,⟨some 15, none,.load false 1 (.t 14)⟩,⟨some 16, none,.mv (.t 1)⟩,⟨some 17, none,.bin .eql (.t 15) (.t 16)⟩] [0,1,5,17] []
def z131r4:IC:=.reg [⟨some 4, none,.asg (.c (.bool true))⟩] [4] []
def z131r5:IC:=.reg [⟨some 10, none,.mv (.t 5)⟩,⟨some 11, none,.bin .add (.t 10) (.c (vi 1))⟩,⟨some 5, none,.asg (.t 11)⟩] [0,1,5] []
def z131l6:IC:=(.seq (.seq z131r2 (.cond (.t 9) .skip (.exit 0))) (.seq (.block 1 (.seq z131r3 (.cond (.t 17) (.seq z131r4 .ret) .skip))) z131r5))
def z131r7:IC:=.reg [⟨some 4, none,.asg (.c (.bool false))⟩] [4] []
def zi131:IFun:=⟨[.t 4],[],(.seq z131r0 (.seq (.seq z131r1 (.block 0 (.loop z131l6))) (.seq z131r7 .ret)))⟩
def z132r0:IC:=.reg [⟨some 6, none,.asg (.c (.bool false))⟩] [0,1,2] []
def z132r1:IC:=.reg [⟨some 7, none,.mv (.t 1)⟩,⟨some 8, none,.mv (.t 0)⟩,⟨some 9, none,.bin .leq (.t 7) (.t 8)⟩,⟨some 10, none,.asg (.t 9)⟩,⟨some 11, (some (10,true)),.mv (.t 0)⟩,⟨some 12, (some (10,true)),.mv (.t 2)⟩,⟨some 13, (some (10,true)),.bin .leq (.t 11) (.t 12)⟩,⟨some 14, none,.pick (.t 10) (.t 13) (.c (.bool false))⟩,⟨some 6, none,.asg (.t 14)⟩] [6] []
def zi132:IFun:=⟨[.t 6],[],(.seq z132r0 (.seq z132r1 .ret))⟩
def z589r0:IC:=.reg [⟨some 2, none,.box (.t 0)⟩,⟨some 4, none,.asg (.c (.bool false))⟩] [1,2] []
def z589r1:IC:=.reg [⟨some 10, none,.fadr 0 (.t 2)⟩,⟨some 11, none,.load false 1 (.t 10)⟩,⟨some 12, none,.call zl138 [(.val,(.t 11))] true⟩,⟨some 5, none,.asg (.t 12)⟩] [1,2,5] []
def z589r2:IC:=.reg [⟨some 6, none,.asg (.c (vi 0))⟩] [1,2,5,6] []
def z589r3:IC:=.reg [⟨some 13, none,.mv (.t 6)⟩,⟨some 14, none,.mv (.t 5)⟩,⟨some 15, none,.len (.t 14)⟩,⟨some 16, none,.bin .lss (.t 13) (.t 15)⟩] [1,2,5,6,16] []
def z589r4:IC:=.reg [⟨some 19, none,.mv (.t 1)⟩,⟨some 20, none,.mv (.t 5)⟩,⟨some 21, none,.mv (.t 6)⟩,⟨some 22, none,.iadr 2 (.t 20) (.t 21)⟩,⟨some 23, none,.fadr 0 (.t 22)⟩,⟨some 24, none,.load false 1 (.t 23)⟩,⟨some 25, none,.call zl131 [(.rd,(.t 19)),(.val,(.t 24))] true⟩,⟨some 7, none,.asg (.t 25)⟩] [1,2,5,6,7] []
def z589r5:IC:=.reg [⟨some 26, none,.mv (.t 1)⟩,⟨some 27, none,.mv (.t 5)⟩,⟨some 28, none,.mv (.t 6)⟩,⟨some 29, none,.iadr 2 (.t 27) (.t 28)⟩,⟨some 30, none,.fadr 1 (.t 29)⟩,⟨some 31, none,.load false 1 (.t 30)⟩,⟨some 32, none,.call zl131 [(.rd,(.t 26)),(.val,(.t 31))] true⟩,⟨some 8, none,.asg (.t 32)⟩] [1,2,5,6,7,8] []
def z589r6:IC:=.reg [⟨some 33, none,.load true 2 (.t 2)⟩,⟨some 34, none,.mv (.t 5)⟩,⟨some 35, none,.mv (.t 6)⟩,⟨some 36, none,.iadr 2 (.t 34) (.t 35)⟩,⟨some 37, none,.fadr 0 (.t 36)⟩,⟨some 38, none,.load false 1 (.t 37)⟩,⟨some 39, none,.mv (.t 5)⟩,⟨some 40, none,.mv (.t 6)⟩,⟨some 41, none,.iadr 2 (.t 39) (.t 40)⟩,⟨some 42, none,.fadr 1 (.t 41)⟩,⟨some 43, none,.load false 1 (.t 42)⟩,⟨some 44, none,.call zl130 [(.rd,(.t 33)),(.val,(.t 38)),(.val,(.t 43))] true⟩,⟨some 9, none,.asg (.t 44)⟩] [1,2,5,6,7,8,9] []
def z589r7:IC:=.reg [⟨some 45, none,.mv (.t 7)⟩,⟨some 46, none,.asg (.t 45)⟩,⟨some 47, (some (46,true)),.mv (.t 8)⟩,⟨some 48, none,.pick (.t 46) (.t 47) (.c (.bool false))⟩,⟨some 49, none,.asg (.t 48)⟩,⟨some 50, (some (49,true)),.mv (.t 9)⟩,⟨some 51, (some (49,true)),.unop .not (.t 50)⟩,⟨some 52, none,.pick (.t 49) (.t 51) (.c (.bool false))⟩,⟨some 53, none,.asg (.t 52)⟩,⟨some 54, (some (53,false)),.mv (.t 7)⟩,⟨some 55, (some (53,false)),.unop .not (.t 54)⟩,⟨some 56, (some (53,false)),.asg (.t 55)⟩,⟨some 57, (some (56,true)),.mv (.t 8)⟩,⟨some 58, (some (56,true)),.unop .not (.t 57)⟩,⟨some 59, (some (53,false)),.pick (.t 56) (.t 58) (.c (.bool false))⟩,⟨some 60, (some (53,false)),.asg (.t 59)⟩,⟨some 61, (some (60,true)),.mv (.t 9)⟩,⟨some 62, (some (53,false)),.pick (.t 60) (.t 61) (.c (.bool false))⟩,⟨some 63, none,.pick (.t 53) (.c (.bool true)) (.t 62)⟩] [1,2,5,6,63] []
def z589r8:IC:=.reg [⟨some 4, none,.asg (.c (.bool false))⟩] [4] []
def z589r9:IC:=.reg [⟨some 17, none,.mv (.t 6)⟩,⟨some 18, none,.bin .add (.t 17) (.c (vi 1))⟩,⟨some 6, none,.asg (.t 18)⟩] [1,2,5,6] []
def z589l10:IC:=(.seq (.seq z589r3 (.cond (.t 16) .skip (.exit 0))) (.seq (.block 1 (.seq z589r4 (.seq z589r5 (.seq z589r6 (.seq z589r7 (.cond (.t 63) (.seq z589r8 .ret) .skip)))))) z589r9))
def z589r11:IC:=.reg [⟨some 4, none,.asg (.c (.bool true))⟩] [4] []
def zi589:IFun:=⟨[.t 4],[],(.seq z589r0 (.seq z589r1 (.seq (.seq z589r2 (.block 0 (.loop z589l10))) (.seq z589r11 .ret))))⟩
def z138r0:IC:=.reg [⟨some 2, none,.asg (.c (.slice none 0 0))⟩] [0] []
def z138r1:IC:=.reg [⟨some 6, none,.bsl 2 [(vi 0),(vi 0)] 0 []⟩,⟨some 3, none,.asg (.t 6)⟩] [0,3] []
def z138r2:IC:=.reg [⟨some 4, none,.asg (.c (vi 0))⟩] [0,3,4] []
def z138r3:IC:=.reg [⟨some 7, none,.mv (.t 4)⟩,⟨some 8, none,.mv (.t 0)⟩,⟨some 9, none,.bin .lss (.t 7) (.t 8)⟩] [0,3,4,9] []
def z138r4:IC:=.reg [⟨some 12, none,.mv (.t 4)⟩,⟨some 13, none,.bin .add (.t 12) (.c (vi 1))⟩,⟨some 5, none,.asg (.t 13)⟩] [0,3,4,5] []
def z138r5:IC:=.reg [⟨some 14, none,.mv (.t 5)⟩,⟨some 15, none,.mv (.t 0)⟩,⟨some 16, none,.bin .lss (.t 14) (.t 15)⟩] [0,3,4,5,16] []
def z138r6:IC:=.reg [⟨some 19, none,.mv (.t 3)⟩,⟨some 20, none,.mv (.t 4)⟩,⟨some 21, none,.mv (.t 5)⟩,⟨some 22, none,.build [(vi 0),(vi 0)] [(0,1,(.t 20)),(1,1,(.t 21))]⟩,⟨some 23, none,.bsl 2 [(vi 0),(vi 0)] 1 [(0,(.t 22))]⟩,⟨some 24, none,.app 2 (.t 19) (.t 23)⟩,⟨some 3, none,.asg (.t 24)⟩] [0,3,4,5] []
def z138r7:IC:=.reg [⟨some 17, none,.mv (.t 5)⟩,⟨some 18, none,.bin .add (.t 17) (.c (vi 1))⟩,⟨some 5, none,.asg (.t 18)⟩] [0,3,4,5] []
def z138l8:IC:=(.seq (.seq z138r5 (.cond (.t 16) .skip (.exit 2))) (.seq (.block 3 z138r6) z138r7))
def z138r9:IC:=.reg [⟨some 10, none,.mv (.t 4)⟩,⟨some 11, none,.bin .add (.t 10) (.c (vi 1))⟩,⟨some 4, none,.asg (.t 11)⟩] [0,3,4] []
def z138l10:IC:=(.seq (.seq z138r3 (.cond (.t 9) .skip (.exit 0))) (.seq (.block 1 (.seq z138r4 (.block 2 (.loop z138l8)))) z138r9))
def z138r11:IC:=.reg [⟨some 25, none,.mv (.t 3)⟩,⟨some 2, none,.asgm (.t 25)⟩] [2,3] []
def zi138:IFun:=⟨[.t 2],[],(.seq z138r0 (.seq z138r1 (.seq (.seq z138r2 (.block 0 (.loop z138l10))) (.seq z138r11 .ret))))⟩
def z145r0:IC:=.reg [⟨some 1, none,.box (.t 0)⟩,⟨some 2, none,.asg (.c (.bool false))⟩] [1] []
def z145r1:IC:=.reg [⟨some 3, none,.asg (.c (vi 0))⟩] [1,3] []
def z145r2:IC:=.reg [⟨some 5, none,.mv (.t 3)⟩,⟨some 6, none,.fadr 1 (.t 1)⟩,⟨some 7, none,.load false 1 (.t 6)⟩,⟨some 8, none,.len (.t 7)⟩,⟨some 9, none,.bin .lss (.t 5) (.t 8)⟩] [1,3,9] []
def z145r3:IC:=.reg [⟨some 12, none,.fadr 1 (.t 1)⟩,⟨some 13, none,.load false 1 (.t 12)⟩,⟨some 14, none,.mv (.t 3)⟩,⟨some 15, none,.iadr 2 (.t 13) (.t 14)⟩,⟨some 16, none,.load true 2 (.t 15)⟩,⟨some 4, none,.alloc [(vi 0),(vi 0)]⟩,⟨none,none,.store 2 (.t 4) (.t 16)⟩] [1,3,4] []
def z145r4:IC:=.reg [⟨some 17, none,.fadr 0 (.t 4)⟩,⟨some 18, none,.load false 1 (.t 17)⟩,⟨some 19, none,.bin .lss (.t 18) (.c (vi 0))⟩,⟨some 20, none,.asg (.t 19)⟩,⟨some 21, (some (20,false)),.fadr 0 (.t 4)⟩,⟨some 22, (some (20,false)),.load false 1 (.t 21)⟩,⟨some 23, (some (20,false)),.fadr 1 (.t 4)⟩,⟨some 24, (some (20,false)),.load false 1 (.t 23)⟩,⟨some 25, (some (20,false)),.bin .geq (.t 22) (.t 24)⟩,⟨some 26, none,.pick (.t 20) (.c (.bool true)) (.t 25)⟩,⟨some 27, none,.asg (.t 26)⟩,⟨some 28, (some (27,false)),.fadr 1 (.t 4)⟩,⟨some 29, (some (27,false)),.load false 1 (.t 28)⟩,⟨some 30, (some (27,false)),.fadr 0 (.t 1)⟩,⟨some 31, (some (27,false)),.load false 1 (.t 30)⟩,⟨some 32, (some (27,false)),.bin .geq (.t 29) (.t 31)⟩,⟨some 33, none,.pick (.t 27) (.c (.bool true)) (.t 32)⟩,⟨some 34, none,.asg (.t 33)⟩,⟨some 35, (some (34,false)),.mv (.t 3)⟩,
    ⟨some 36, (some (34,false)),.bin .gtr (.t 35) (.c (vi 0))⟩,⟨some 37, (some (34,false)),.asg (.t 36)⟩,⟨some 38, (some (37,true)),.fadr 1 (.t 1)⟩,⟨some 39, (some (37,true)),.load false 1 (.t 38)⟩,⟨some 40, (some (37,true)),.mv (.t 3)⟩,⟨some 41, (some (37,true)),.bin .sub (.t 40) (.c (vi 1))⟩,⟨some 42, (some (37,true)),.iadr 2 (.t 39) (.t 41)⟩,⟨some 43, (some (37,true)),.load true 2 (.t 42)⟩,⟨some 44, (some (37,true)),.load true 2 (.t 4)⟩,⟨some 45, (some (37,true)),.call zl126 [(.val,(.t 43)),(.val,(.t 44))] true⟩,⟨some 46, (some (37,true)),.unop .not (.t 45)⟩,⟨some 47, (some (34,false)),.pick (.t 37) (.t 46) (.c (.bool false))⟩,⟨some 48, none,.pick (.t 34) (.c (.bool true)) (.t 47)⟩] [1,3,48] []
def z145r5:IC:=.reg [⟨some 2, none,.asg (.c (.bool false))⟩] [2] []
def z145r6:IC:=.reg [⟨some 10, none,.mv (.t 3)⟩,⟨some 11, none,.bin .add (.t 10) (.c (vi 1))⟩,⟨some 3, none,.asg (.t 11)⟩] [1,3] []
def z145l7:IC:=(.seq (.seq z145r2 (.cond (.t 9) .skip (.exit 0))) (.seq (.block 1 (.seq z145r3 (.seq z145r4 (.cond (.t 48) (.seq z145r5 .ret) .skip)))) z145r6))
def z145r8:IC:=.reg [⟨some 49, none,.fadr 0 (.t 1)⟩,⟨some 50, none,.load false 1 (.t 49)⟩,⟨some 51, none,.call zl132 [(.val,(.t 50)),(.val,(.c (vi 0))),(.val,(.c (vi 7)))] true⟩,⟨some 2, none,.asg (.t 51)⟩] [2] []
def zi145:IFun:=⟨[.t 2],[],(.seq z145r0 (.seq (.seq z145r1 (.block 0 (.loop z145l7))) (.seq z145r8 .ret)))⟩
def tbl:List (Nat×IFun):=[(zl2,zi2),(zl4,zi4),(zl164,zi164),(zl9,zi9),(zl171,zi171),(zl20,zi20),(zl515,zi515),(zl516,zi516),(zl25,zi25),(zl26,zi26),(zl29,zi29),(zl30,zi30),(zl31,zi31),(zl32,zi32),(zl36,zi36),(zl37,zi37),(zl210,zi210),(zl211,zi211),(zl38,zi38),(zl212,zi212),(zl216,zi216),(zl529,zi529),(zl48,zi48),(zl49,zi49),(zl50,zi50),(zl233,zi233),(zl241,zi241),(zl56,zi56),(zl57,zi57),(zl243,zi243),(zl60,zi60),(zl61,zi61),(zl62,zi62),(zl63,zi63),(zl64,zi64),(zl66,zi66),(zl68,zi68),(zl70,zi70),(zl71,zi71),(zl72,zi72),(zl263,zi263),(zl551,zi551),(zl266,zi266),(zl73,zi73),(zl449,zi449),(zl269,zi269),(zl74,zi74),(zl76,zi76),(zl273,zi273),(zl78,zi78),(zl278,zi278),(zl86,zi86),(zl101,zi101),(zl289,zi289),(zl578,zi578),(zl123,zi123),(zl125,zi125),(zl349,zi349),(zl126,zi126),(zl127,zi127),(zl587,zi587),(zl130,zi130),(zl131,zi131),(zl132,zi132),(zl589,zi589),(zl138,zi138),(zl145,zi145)]
def tb:Tbl:=tbOf tbl
theorem zt2:tb zl2=some zi2:=by kernel_rfl
theorem zt4:tb zl4=some zi4:=by kernel_rfl
theorem zt164:tb zl164=some zi164:=by kernel_rfl
theorem zt9:tb zl9=some zi9:=by kernel_rfl
theorem zt171:tb zl171=some zi171:=by kernel_rfl
theorem zt20:tb zl20=some zi20:=by kernel_rfl
theorem zt515:tb zl515=some zi515:=by kernel_rfl
theorem zt516:tb zl516=some zi516:=by kernel_rfl
theorem zt25:tb zl25=some zi25:=by kernel_rfl
theorem zt26:tb zl26=some zi26:=by kernel_rfl
theorem zt29:tb zl29=some zi29:=by kernel_rfl
theorem zt30:tb zl30=some zi30:=by kernel_rfl
theorem zt31:tb zl31=some zi31:=by kernel_rfl
theorem zt32:tb zl32=some zi32:=by kernel_rfl
theorem zt36:tb zl36=some zi36:=by kernel_rfl
theorem zt37:tb zl37=some zi37:=by kernel_rfl
theorem zt210:tb zl210=some zi210:=by kernel_rfl
theorem zt211:tb zl211=some zi211:=by kernel_rfl
theorem zt38:tb zl38=some zi38:=by kernel_rfl
theorem zt212:tb zl212=some zi212:=by kernel_rfl
theorem zt216:tb zl216=some zi216:=by kernel_rfl
theorem zt529:tb zl529=some zi529:=by kernel_rfl
theorem zt48:tb zl48=some zi48:=by kernel_rfl
theorem zt49:tb zl49=some zi49:=by kernel_rfl
theorem zt50:tb zl50=some zi50:=by kernel_rfl
theorem zt233:tb zl233=some zi233:=by kernel_rfl
theorem zt241:tb zl241=some zi241:=by kernel_rfl
theorem zt56:tb zl56=some zi56:=by kernel_rfl
theorem zt57:tb zl57=some zi57:=by kernel_rfl
theorem zt243:tb zl243=some zi243:=by kernel_rfl
theorem zt60:tb zl60=some zi60:=by kernel_rfl
theorem zt61:tb zl61=some zi61:=by kernel_rfl
theorem zt62:tb zl62=some zi62:=by kernel_rfl
theorem zt63:tb zl63=some zi63:=by kernel_rfl
theorem zt64:tb zl64=some zi64:=by kernel_rfl
theorem zt66:tb zl66=some zi66:=by kernel_rfl
theorem zt68:tb zl68=some zi68:=by kernel_rfl
theorem zt70:tb zl70=some zi70:=by kernel_rfl
theorem zt71:tb zl71=some zi71:=by kernel_rfl
theorem zt72:tb zl72=some zi72:=by kernel_rfl
theorem zt263:tb zl263=some zi263:=by kernel_rfl
theorem zt551:tb zl551=some zi551:=by kernel_rfl
theorem zt266:tb zl266=some zi266:=by kernel_rfl
theorem zt73:tb zl73=some zi73:=by kernel_rfl
theorem zt449:tb zl449=some zi449:=by kernel_rfl
theorem zt269:tb zl269=some zi269:=by kernel_rfl
theorem zt74:tb zl74=some zi74:=by kernel_rfl
theorem zt76:tb zl76=some zi76:=by kernel_rfl
theorem zt273:tb zl273=some zi273:=by kernel_rfl
theorem zt78:tb zl78=some zi78:=by kernel_rfl
theorem zt278:tb zl278=some zi278:=by kernel_rfl
theorem zt86:tb zl86=some zi86:=by kernel_rfl
theorem zt101:tb zl101=some zi101:=by kernel_rfl
theorem zt289:tb zl289=some zi289:=by kernel_rfl
theorem zt578:tb zl578=some zi578:=by kernel_rfl
theorem zt123:tb zl123=some zi123:=by kernel_rfl
theorem zt125:tb zl125=some zi125:=by kernel_rfl
theorem zt349:tb zl349=some zi349:=by kernel_rfl
theorem zt126:tb zl126=some zi126:=by kernel_rfl
theorem zt127:tb zl127=some zi127:=by kernel_rfl
theorem zt587:tb zl587=some zi587:=by kernel_rfl
theorem zt130:tb zl130=some zi130:=by kernel_rfl
theorem zt131:tb zl131=some zi131:=by kernel_rfl
theorem zt132:tb zl132=some zi132:=by kernel_rfl
theorem zt589:tb zl589=some zi589:=by kernel_rfl
theorem zt138:tb zl138=some zi138:=by kernel_rfl
theorem zt145:tb zl145=some zi145:=by kernel_rfl
end Go.Idl
