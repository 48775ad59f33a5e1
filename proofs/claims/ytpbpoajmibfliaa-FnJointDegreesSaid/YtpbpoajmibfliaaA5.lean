/- Part 5 of a proof by an ideal interpreter of the code: its definitions and lemmas. Conditions: none. -/
import Derived.KernelRfl
import Derived.Test.YtpbpoajmibfliaaA4
set_option linter.all false
set_option linter.unusedVariables false
set_option linter.unusedSimpArgs false
namespace Go.Idl
open Go
abbrev vi (n:Int):Value:=.int .i64 n
abbrev zl1:Lab:=1
abbrev zl2:Lab:=2
abbrev zl3:Lab:=3
abbrev zl4:Lab:=4
abbrev zl9:Lab:=9
abbrev zl14:Lab:=14
abbrev zl20:Lab:=20
abbrev zl25:Lab:=25
abbrev zl26:Lab:=26
abbrev zl29:Lab:=29
abbrev zl30:Lab:=30
abbrev zl31:Lab:=31
abbrev zl32:Lab:=32
abbrev zl37:Lab:=37
abbrev zl38:Lab:=38
abbrev zl53:Lab:=53
abbrev zl66:Lab:=66
abbrev zl67:Lab:=67
abbrev zl68:Lab:=68
abbrev zl70:Lab:=70
abbrev zl71:Lab:=71
abbrev zl72:Lab:=72
abbrev zl73:Lab:=73
abbrev zl76:Lab:=76
abbrev zl77:Lab:=77
abbrev zl78:Lab:=78
abbrev zl79:Lab:=79
abbrev zl80:Lab:=80
abbrev zl82:Lab:=82
abbrev zl83:Lab:=83
abbrev zl84:Lab:=84
abbrev zl85:Lab:=85
abbrev zl86:Lab:=86
abbrev zl94:Lab:=94
abbrev zl95:Lab:=95
abbrev zl96:Lab:=96
abbrev zl97:Lab:=97
abbrev zl98:Lab:=98
abbrev zl99:Lab:=99
abbrev zl100:Lab:=100
abbrev zl101:Lab:=101
abbrev zl102:Lab:=102
abbrev zl103:Lab:=103
abbrev zl118:Lab:=118
abbrev zl122:Lab:=122
abbrev zl125:Lab:=125
abbrev zl126:Lab:=126
abbrev zl129:Lab:=129
abbrev zl130:Lab:=130
abbrev zl132:Lab:=132
abbrev zl133:Lab:=133
abbrev zl134:Lab:=134
abbrev zl137:Lab:=137
abbrev zl138:Lab:=138
abbrev zl139:Lab:=139
abbrev zl140:Lab:=140
abbrev zl145:Lab:=145
abbrev zl161:Lab:=161
abbrev zl189:Lab:=189
abbrev zl190:Lab:=190
abbrev zl271:Lab:=271
abbrev zl322:Lab:=322
abbrev zl378:Lab:=378
abbrev zl451:Lab:=451
abbrev zl535:Lab:=535
abbrev zl564:Lab:=564
def z1r0:IC:=.reg [⟨some 4, none,.asg (.c (vi 0))⟩] [0,1] []
def z1r1:IC:=.reg [⟨some 7, none,.mv (.t 0)⟩,⟨some 8, none,.call zl4 [(.val,(.t 7))] true⟩,⟨some 5, none,.asg (.t 8)⟩] [0,1,5] []
def z1r2:IC:=.reg [⟨some 9, none,.mv (.t 1)⟩,⟨some 10, none,.call zl4 [(.val,(.t 9))] true⟩,⟨some 6, none,.asg (.t 10)⟩] [0,1,5,6] []
def z1r3:IC:=.reg [⟨some 11, none,.mv (.t 5)⟩] [0,1,6,11] []
def z1r4:IC:=.reg [⟨some 12, none,.mv (.t 6)⟩] [12] []
def z1r5:IC:=.reg [⟨some 4, none,.asg (.c (vi 0))⟩] [4] []
def z1r6:IC:=.reg [⟨some 4, none,.asg (.c (vi (-1)))⟩] [4] []
def z1r7:IC:=.reg [⟨some 13, none,.mv (.t 6)⟩] [0,1,13] []
def z1r8:IC:=.reg [⟨some 4, none,.asg (.c (vi 1))⟩] [4] []
def z1r9:IC:=.reg [⟨some 14, none,.mv (.t 0)⟩,⟨some 15, none,.mv (.t 1)⟩,⟨some 16, none,.bin .lss (.t 14) (.t 15)⟩] [0,1,16] []
def z1r10:IC:=.reg [⟨some 4, none,.asg (.c (vi (-1)))⟩] [4] []
def z1r11:IC:=.reg [⟨some 17, none,.mv (.t 0)⟩,⟨some 18, none,.mv (.t 1)⟩,⟨some 19, none,.bin .gtr (.t 17) (.t 18)⟩] [19] []
def z1r12:IC:=.reg [⟨some 4, none,.asg (.c (vi 1))⟩] [4] []
def z1r13:IC:=.reg [⟨some 4, none,.asg (.c (vi 0))⟩] [4] []
def zi1:IFun:=⟨[.t 4],[],(.seq z1r0 (.seq z1r1 (.seq z1r2 (.seq (.seq z1r3 (.cond (.t 11) (.seq (.seq z1r4 (.cond (.t 12) (.seq z1r5 .ret) .skip)) (.seq z1r6 .ret)) .skip)) (.seq (.seq z1r7 (.cond (.t 13) (.seq z1r8 .ret) .skip)) (.seq (.seq z1r9 (.cond (.t 16) (.seq z1r10 .ret) .skip)) (.seq (.seq z1r11 (.cond (.t 19) (.seq z1r12 .ret) .skip)) (.seq z1r13 .ret))))))))⟩
def z2r0:IC:=.reg [⟨some 4, none,.asg (.c (.bool false))⟩] [0,1] []
def z2r1:IC:=.reg [⟨some 5, none,.mv (.t 0)⟩,⟨some 6, none,.call zl4 [(.val,(.t 5))] true⟩,⟨some 7, none,.asg (.t 6)⟩,⟨some 8, (some (7,true)),.mv (.t 1)⟩,⟨some 9, (some (7,true)),.call zl4 [(.val,(.t 8))] true⟩,⟨some 10, (some (7,true)),.unop .not (.t 9)⟩,⟨some 11, none,.pick (.t 7) (.t 10) (.c (.bool false))⟩,⟨some 12, none,.asg (.t 11)⟩,⟨some 13, (some (12,false)),.mv (.t 0)⟩,⟨some 14, (some (12,false)),.mv (.t 1)⟩,⟨some 15, (some (12,false)),.bin .lss (.t 13) (.t 14)⟩,⟨some 16, none,.pick (.t 12) (.c (.bool true)) (.t 15)⟩,⟨some 4, none,.asg (.t 16)⟩] [4] []
def zi2:IFun:=⟨[.t 4],[],(.seq z2r0 (.seq z2r1 .ret))⟩
def z3r0:IC:=.reg [⟨some 2, none,.asg (.c (vi 0))⟩] [0] []
def z3r1:IC:=.reg [⟨some 3, none,.asg (.c (vi 0))⟩] [0,3] []
def z3r2:IC:=.reg [⟨some 6, none,.mv (.t 0)⟩,⟨some 7, none,.len (.t 6)⟩,⟨some 8, none,.mv (.c (vi 0))⟩] [0,3,6,7,8] []
def z3r3:IC:=.reg [⟨some 9, none,.bin .lss (.t 8) (.t 7)⟩] [0,3,6,7,8,9] []
def z3r4:IC:=.reg [⟨some 10, none,.iadr 1 (.t 6) (.t 8)⟩,⟨some 11, none,.load false 1 (.t 10)⟩,⟨some 5, none,.asg (.t 11)⟩] [0,3,5,6,7,8] []
def z3r5:IC:=.reg [⟨some 12, none,.mv (.t 5)⟩,⟨some 13, none,.mv (.t 3)⟩,⟨some 14, none,.bin .neq (.t 12) (.t 13)⟩] [0,3,5,6,7,8,14] []
def z3r6:IC:=.reg [⟨some 15, none,.mv (.t 5)⟩,⟨some 2, none,.asgm (.t 15)⟩] [2] []
def z3r7:IC:=.reg [⟨some 16, none,.bin .add (.t 8) (.c (vi 1))⟩,⟨some 8, none,.asg (.t 16)⟩] [0,3,6,7,8] []
def z3l8:IC:=(.seq z3r3 (.seq (.cond (.t 9) .skip (.exit 0)) (.seq (.block 1 (.seq z3r4 (.seq z3r5 (.cond (.t 14) (.seq z3r6 .ret) .skip)))) z3r7)))
def z3r9:IC:=.reg [⟨some 17, none,.mv (.t 3)⟩,⟨some 2, none,.asgm (.t 17)⟩] [2] []
def zi3:IFun:=⟨[.t 2],[],(.seq z3r0 (.seq z3r1 (.seq (.seq z3r2 (.block 0 (.loop z3l8))) (.seq z3r9 .ret))))⟩
def z4r0:IC:=.reg [⟨some 2, none,.asg (.c (.bool false))⟩] [0] []
def z4r1:IC:=.reg [⟨some 3, none,.mv (.t 0)⟩,⟨some 4, none,.mv (.t 0)⟩,⟨some 5, none,.bin .neq (.t 3) (.t 4)⟩,⟨some 2, none,.asg (.t 5)⟩] [2] []
def zi4:IFun:=⟨[.t 2],[],(.seq z4r0 (.seq z4r1 .ret))⟩
def z161r0:IC:=.reg [⟨some 1, none,.box (.t 0)⟩,⟨some 2, none,.asg (.c (.slice none 0 0))⟩] [1] []
def z161r1:IC:=.reg [⟨some 3, none,.load true 2 (.t 1)⟩,⟨some 4, none,.call zl26 [(.rd,(.t 3))] true⟩,⟨some 5, none,.unop .not (.t 4)⟩] [1,5] []
def z161r2:IC:=.reg [⟨some 2, none,.asg (.c (.slice none 0 0))⟩] [2] []
def z161r3:IC:=.reg [⟨some 6, none,.load true 2 (.t 1)⟩,⟨some 7, none,.call zl9 [(.rd,(.t 6))] true⟩,⟨some 2, none,.asg (.t 7)⟩] [2] []
def zi161:IFun:=⟨[.t 2],[],(.seq z161r0 (.seq (.seq z161r1 (.cond (.t 5) (.seq z161r2 .ret) .skip)) (.seq z161r3 .ret)))⟩
def z9r0:IC:=.reg [⟨some 1, none,.box (.t 0)⟩,⟨some 2, none,.asg (.c (.slice none 0 0))⟩] [1] []
def z9r1:IC:=.reg [⟨some 6, none,.fadr 0 (.t 1)⟩,⟨some 7, none,.load false 1 (.t 6)⟩,⟨some 8, none,.mksl 1 [(vi 0)] (.t 7) (.t 7)⟩,⟨some 3, none,.asg (.t 8)⟩] [1,3] []
def z9r2:IC:=.reg [⟨some 9, none,.fadr 1 (.t 1)⟩,⟨some 10, none,.load false 1 (.t 9)⟩,⟨some 11, none,.len (.t 10)⟩,⟨some 12, none,.mv (.c (vi 0))⟩] [1,3,10,11,12] []
def z9r3:IC:=.reg [⟨some 13, none,.bin .lss (.t 12) (.t 11)⟩] [1,3,10,11,12,13] []
def z9r4:IC:=.reg [⟨some 14, none,.iadr 2 (.t 10) (.t 12)⟩,⟨some 15, none,.load true 2 (.t 14)⟩,⟨some 5, none,.alloc [(vi 0),(vi 0)]⟩,⟨none,none,.store 2 (.t 5) (.t 15)⟩] [1,3,5,10,11,12] []
def z9r5:IC:=.reg [⟨some 16, none,.mv (.t 3)⟩,⟨some 17, none,.fadr 0 (.t 5)⟩,⟨some 18, none,.load false 1 (.t 17)⟩,⟨some 19, none,.iadr 1 (.t 16) (.t 18)⟩,⟨some 20, none,.load false 1 (.t 19)⟩,⟨some 21, none,.bin .add (.t 20) (.c (vi 1))⟩,⟨some 22, none,.iadr 1 (.t 16) (.t 18)⟩,⟨none,none,.store 1 (.t 22) (.t 21)⟩] [1,3,5,10,11,12] []
def z9r6:IC:=.reg [⟨some 23, none,.mv (.t 3)⟩,⟨some 24, none,.fadr 1 (.t 5)⟩,⟨some 25, none,.load false 1 (.t 24)⟩,⟨some 26, none,.iadr 1 (.t 23) (.t 25)⟩,⟨some 27, none,.load false 1 (.t 26)⟩,⟨some 28, none,.bin .add (.t 27) (.c (vi 1))⟩,⟨some 29, none,.iadr 1 (.t 23) (.t 25)⟩,⟨none,none,.store 1 (.t 29) (.t 28)⟩] [1,3,10,11,12] []
def z9r7:IC:=.reg [⟨some 30, none,.bin .add (.t 12) (.c (vi 1))⟩,⟨some 12, none,.asg (.t 30)⟩] [1,3,10,11,12] []
def z9l8:IC:=(.seq z9r3 (.seq (.cond (.t 13) .skip (.exit 0)) (.seq (.block 1 (.seq z9r4 (.seq z9r5 z9r6))) z9r7)))
def z9r9:IC:=.reg [⟨some 31, none,.mv (.t 3)⟩,⟨some 2, none,.asgm (.t 31)⟩] [2,3] []
def zi9:IFun:=⟨[.t 2],[],(.seq z9r0 (.seq z9r1 (.seq (.seq z9r2 (.block 0 (.loop z9l8))) (.seq z9r9 .ret))))⟩
def z189r0:IC:=.reg [⟨some 1, none,.box (.t 0)⟩,⟨some 2, none,.asg (.c (.slice none 0 0))⟩] [1] []
def z189r1:IC:=.reg [⟨some 3, none,.asg (.c (.slice none 0 0))⟩] [1,3] []
def z189r2:IC:=.reg [⟨some 9, none,.load true 2 (.t 1)⟩,⟨some 10, none,.call zl190 [(.rd,(.t 9))] true⟩,⟨some 4, none,.asg (.t 10)⟩] [3,4] []
def z189r3:IC:=.reg [⟨some 5, none,.asg (.c (vi 6))⟩] [3,4,5] []
def z189r4:IC:=.reg [⟨some 11, none,.mv (.t 5)⟩,⟨some 12, none,.bin .gtr (.t 11) (.c (vi 0))⟩] [3,4,5,12] []
def z189r5:IC:=.reg [⟨some 6, none,.asg (.c (vi 0))⟩] [3,4,5,6] []
def z189r6:IC:=.reg [⟨some 15, none,.mv (.t 4)⟩,⟨some 16, none,.len (.t 15)⟩,⟨some 17, none,.mv (.c (vi 0))⟩] [3,4,5,6,15,16,17] []
def z189r7:IC:=.reg [⟨some 18, none,.bin .lss (.t 17) (.t 16)⟩] [3,4,5,6,15,16,17,18] []
def z189r8:IC:=.reg [⟨some 19, none,.iadr 3 (.t 15) (.t 17)⟩,⟨some 20, none,.load true 3 (.t 19)⟩,⟨some 8, none,.alloc [(vi 0),(vi 0),(vi 0)]⟩,⟨none,none,.store 3 (.t 8) (.t 20)⟩] [3,4,5,6,8,15,16,17] []
def z189r9:IC:=.reg [⟨some 21, none,.fadr 0 (.t 8)⟩,⟨some 22, none,.load false 1 (.t 21)⟩,⟨some 23, none,.mv (.t 5)⟩,⟨some 24, none,.bin .eql (.t 22) (.t 23)⟩] [3,4,5,6,8,15,16,17,24] []
def z189r10:IC:=.reg [⟨some 25, none,.mv (.t 6)⟩,⟨some 26, none,.fadr 2 (.t 8)⟩,⟨some 27, none,.load false 1 (.t 26)⟩,⟨some 28, none,.bin .add (.t 25) (.t 27)⟩,⟨some 6, none,.asg (.t 28)⟩] [3,4,5,6,8,15,16,17] []
def z189r11:IC:=.reg [⟨some 29, none,.fadr 1 (.t 8)⟩,⟨some 30, none,.load false 1 (.t 29)⟩,⟨some 31, none,.mv (.t 5)⟩,⟨some 32, none,.bin .eql (.t 30) (.t 31)⟩] [3,4,5,6,8,15,16,17,32] []
def z189r12:IC:=.reg [⟨some 33, none,.mv (.t 6)⟩,⟨some 34, none,.fadr 2 (.t 8)⟩,⟨some 35, none,.load false 1 (.t 34)⟩,⟨some 36, none,.bin .add (.t 33) (.t 35)⟩,⟨some 6, none,.asg (.t 36)⟩] [3,4,5,6,15,16,17] []
def z189r13:IC:=.reg [⟨some 37, none,.bin .add (.t 17) (.c (vi 1))⟩,⟨some 17, none,.asg (.t 37)⟩] [3,4,5,6,15,16,17] []
def z189l14:IC:=(.seq z189r7 (.seq (.cond (.t 18) .skip (.exit 2)) (.seq (.block 3 (.seq z189r8 (.seq (.seq z189r9 (.cond (.t 24) z189r10 .skip)) (.seq z189r11 (.cond (.t 32) z189r12 .skip))))) z189r13)))
def z189r15:IC:=.reg [⟨some 38, none,.mv (.t 3)⟩,⟨some 39, none,.mv (.t 5)⟩,⟨some 40, none,.bsl 1 [(vi 0)] 1 [(0,(.t 39))]⟩,⟨some 41, none,.mv (.t 6)⟩,⟨some 42, none,.mv (.t 5)⟩,⟨some 43, none,.bin .quo (.t 41) (.t 42)⟩,⟨some 44, none,.call zl271 [(.rd,(.t 40)),(.val,(.t 43))] true⟩,⟨some 45, none,.app 1 (.t 38) (.t 44)⟩,⟨some 3, none,.asg (.t 45)⟩] [3,4,5] []
def z189r16:IC:=.reg [⟨some 13, none,.mv (.t 5)⟩,⟨some 14, none,.bin .sub (.t 13) (.c (vi 1))⟩,⟨some 5, none,.asg (.t 14)⟩] [3,4,5] []
def z189l17:IC:=(.seq (.seq z189r4 (.cond (.t 12) .skip (.exit 0))) (.seq (.block 1 (.seq z189r5 (.seq (.seq z189r6 (.block 2 (.loop z189l14))) z189r15))) z189r16))
def z189r18:IC:=.reg [⟨some 46, none,.mv (.t 3)⟩,⟨some 47, none,.call zl31 [(.rd,(.t 46))] true⟩,⟨some 2, none,.asg (.t 47)⟩] [2] []
def zi189:IFun:=⟨[.t 2],[],(.seq z189r0 (.seq z189r1 (.seq z189r2 (.seq (.seq z189r3 (.block 0 (.loop z189l17))) (.seq z189r18 .ret)))))⟩
noncomputable def zi190:IFun:=⟨[.t 0],[],.ext (ext_impl_JointOf zl26 zl9 zl77 zl14)⟩
def z14r0:IC:=.reg [⟨some 2, none,.box (.t 0)⟩,⟨some 3, none,.box (.t 1)⟩,⟨some 4, none,.asg (.c (vi 0))⟩] [2,3] []
def z14r1:IC:=.reg [⟨some 5, none,.fadr 0 (.t 2)⟩,⟨some 6, none,.load false 1 (.t 5)⟩,⟨some 7, none,.fadr 0 (.t 3)⟩,⟨some 8, none,.load false 1 (.t 7)⟩,⟨some 9, none,.call zl1 [(.val,(.t 6)),(.val,(.t 8))] true⟩,⟨some 10, none,.fadr 1 (.t 2)⟩,⟨some 11, none,.load false 1 (.t 10)⟩,⟨some 12, none,.fadr 1 (.t 3)⟩,⟨some 13, none,.load false 1 (.t 12)⟩,⟨some 14, none,.call zl1 [(.val,(.t 11)),(.val,(.t 13))] true⟩,⟨some 15, none,.bsl 1 [(vi 0)] 2 [(0,(.t 9)),(1,(.t 14))]⟩,⟨some 16, none,.call zl3 [(.rd,(.t 15))] true⟩,⟨some 4, none,.asg (.t 16)⟩] [4] [[0,1,2,3,5,7,8,4,6,9,10,11,12],[0,1,2,3,5,6,4,7,8,9,10,11,12],[0,1,2,3,5,6,7,8,4,9,10,11,12]]
def zi14:IFun:=⟨[.t 4],[],(.seq z14r0 (.seq z14r1 .ret))⟩
def z20r0:IC:=.reg [⟨some 2, none,.asg (.c (.slice none 0 0))⟩] [0] []
def z20r1:IC:=.reg [⟨some 3, none,.mv (.t 0)⟩,⟨some 4, none,.call zl25 [(.rd,(.t 3))] true⟩,⟨some 5, none,.unop .not (.t 4)⟩] [0,5] []
def z20r2:IC:=.reg [⟨some 2, none,.asg (.c (.slice none 0 0))⟩] [2] []
def z20r3:IC:=.reg [⟨some 6, none,.mv (.t 0)⟩,⟨some 7, none,.call zl37 [(.rd,(.t 6))] true⟩,⟨some 2, none,.asg (.t 7)⟩] [2] []
def zi20:IFun:=⟨[.t 2],[],(.seq z20r0 (.seq (.seq z20r1 (.cond (.t 5) (.seq z20r2 .ret) .skip)) (.seq z20r3 .ret)))⟩
def z25r0:IC:=.reg [⟨some 2, none,.asg (.c (.bool false))⟩] [0] []
def z25r1:IC:=.reg [⟨some 3, none,.mv (.t 0)⟩,⟨some 4, none,.len (.t 3)⟩,⟨some 5, none,.bin .leq (.t 4) (.c (vi 7))⟩,⟨some 6, none,.asg (.t 5)⟩,⟨some 7, (some (6,true)),.mv (.t 0)⟩,⟨some 8, (some (6,true)),.mv (.t 0)⟩,⟨some 9, (some (6,true)),.len (.t 8)⟩,⟨some 10, (some (6,true)),.bin .sub (.t 9) (.c (vi 1))⟩,⟨some 11, (some (6,true)),.call zl29 [(.rd,(.t 7)),(.val,(.c (vi 0))),(.val,(.t 10))] true⟩,⟨some 12, none,.pick (.t 6) (.t 11) (.c (.bool false))⟩,⟨some 2, none,.asg (.t 12)⟩] [2] []
def zi25:IFun:=⟨[.t 2],[],(.seq z25r0 (.seq z25r1 .ret))⟩
def z26r0:IC:=.reg [⟨some 1, none,.box (.t 0)⟩,⟨some 2, none,.asg (.c (.bool false))⟩] [1] []
def z26r1:IC:=.reg [⟨some 5, none,.fadr 1 (.t 1)⟩,⟨some 6, none,.load false 1 (.t 5)⟩,⟨some 7, none,.len (.t 6)⟩,⟨some 8, none,.mv (.c (vi 0))⟩] [1,6,7,8] []
def z26r2:IC:=.reg [⟨some 9, none,.bin .lss (.t 8) (.t 7)⟩] [1,6,7,8,9] []
def z26r3:IC:=.reg [⟨some 10, none,.asg (.t 8)⟩,⟨some 11, none,.iadr 2 (.t 6) (.t 8)⟩,⟨some 12, none,.load true 2 (.t 11)⟩,⟨some 4, none,.alloc [(vi 0),(vi 0)]⟩,⟨some 3, none,.asg (.t 10)⟩,⟨none,none,.store 2 (.t 4) (.t 12)⟩] [1,3,4,6,7,8] []
def z26r4:IC:=.reg [⟨some 13, none,.fadr 0 (.t 4)⟩,⟨some 14, none,.load false 1 (.t 13)⟩,⟨some 15, none,.bin .lss (.t 14) (.c (vi 0))⟩,⟨some 16, none,.asg (.t 15)⟩,⟨some 17, (some (16,false)),.fadr 0 (.t 4)⟩,⟨some 18, (some (16,false)),.load false 1 (.t 17)⟩,⟨some 19, (some (16,false)),.fadr 1 (.t 4)⟩,⟨some 20, (some (16,false)),.load false 1 (.t 19)⟩,⟨some 21, (some (16,false)),.bin .geq (.t 18) (.t 20)⟩,⟨some 22, none,.pick (.t 16) (.c (.bool true)) (.t 21)⟩,⟨some 23, none,.asg (.t 22)⟩,⟨some 24, (some (23,false)),.fadr 1 (.t 4)⟩,⟨some 25, (some (23,false)),.load false 1 (.t 24)⟩,⟨some 26, (some (23,false)),.fadr 0 (.t 1)⟩,⟨some 27, (some (23,false)),.load false 1 (.t 26)⟩,⟨some 28, (some (23,false)),.bin .geq (.t 25) (.t 27)⟩,⟨some 29, none,.pick (.t 23) (.c (.bool true)) (.t 28)⟩,⟨some 30, none,.asg (.t 29)⟩,⟨some 31, (some (30,false)),.mv (.t 3)⟩,
    ⟨some 32, (some (30,false)),.bin .gtr (.t 31) (.c (vi 0))⟩,⟨some 33, (some (30,false)),.asg (.t 32)⟩,⟨some 34, (some (33,true)),.fadr 1 (.t 1)⟩,⟨some 35, (some (33,true)),.load false 1 (.t 34)⟩,⟨some 36, (some (33,true)),.mv (.t 3)⟩,⟨some 37, (some (33,true)),.bin .sub (.t 36) (.c (vi 1))⟩,⟨some 38, (some (33,true)),.iadr 2 (.t 35) (.t 37)⟩,⟨some 39, (some (33,true)),.load true 2 (.t 38)⟩,⟨some 40, (some (33,true)),.load true 2 (.t 4)⟩,⟨some 41, (some (33,true)),.call zl32 [(.val,(.t 39)),(.val,(.t 40))] true⟩,⟨some 42, (some (33,true)),.bin .geq (.t 41) (.c (vi 0))⟩,⟨some 43, (some (30,false)),.pick (.t 33) (.t 42) (.c (.bool false))⟩,⟨some 44, none,.pick (.t 30) (.c (.bool true)) (.t 43)⟩] [1,6,7,8,44] []
def z26r5:IC:=.reg [⟨some 2, none,.asg (.c (.bool false))⟩] [2] []
def z26r6:IC:=.reg [⟨some 45, none,.bin .add (.t 8) (.c (vi 1))⟩,⟨some 8, none,.asg (.t 45)⟩] [1,6,7,8] []
def z26l7:IC:=(.seq z26r2 (.seq (.cond (.t 9) .skip (.exit 0)) (.seq (.block 1 (.seq z26r3 (.seq z26r4 (.cond (.t 44) (.seq z26r5 .ret) .skip)))) z26r6)))
def z26r8:IC:=.reg [⟨some 46, none,.fadr 0 (.t 1)⟩,⟨some 47, none,.load false 1 (.t 46)⟩,⟨some 48, none,.call zl38 [(.val,(.t 47)),(.val,(.c (vi 0))),(.val,(.c (vi 7)))] true⟩,⟨some 2, none,.asg (.t 48)⟩] [2] []
def zi26:IFun:=⟨[.t 2],[],(.seq z26r0 (.seq (.seq z26r1 (.block 0 (.loop z26l7))) (.seq z26r8 .ret)))⟩
def z29r0:IC:=.reg [⟨some 4, none,.box (.t 1)⟩,⟨some 5, none,.box (.t 2)⟩,⟨some 6, none,.asg (.c (.bool false))⟩] [0,4,5] []
def z29r1:IC:=.reg [⟨some 7, none,.mv (.t 0)⟩,⟨some 8, none,.mkfn zl30 [(.t 4),(.t 5)]⟩,⟨some 9, none,.call zl72 [(.rd,(.t 7)),(.val,(.t 8))] false⟩,⟨some 10, none,.unop .not (.t 9)⟩,⟨some 6, none,.asg (.t 10)⟩] [6] []
def zi29:IFun:=⟨[.t 6],[],(.seq z29r0 (.seq z29r1 .ret))⟩
def z30r0:IC:=.reg [⟨some 4, none,.asg (.c (.bool false))⟩] [0,1,2] []
def z30r1:IC:=.reg [⟨some 5, none,.mv (.t 0)⟩,⟨some 6, none,.load false 1 (.t 1)⟩,⟨some 7, none,.load false 1 (.t 2)⟩,⟨some 8, none,.call zl38 [(.val,(.t 5)),(.val,(.t 6)),(.val,(.t 7))] true⟩,⟨some 9, none,.unop .not (.t 8)⟩,⟨some 4, none,.asg (.t 9)⟩] [4] []
def zi30:IFun:=⟨[.t 4],[],(.seq z30r0 (.seq z30r1 .ret))⟩
def z31r0:IC:=.reg [⟨some 2, none,.asg (.c (.slice none 0 0))⟩] [0] []
def z31r1:IC:=.reg [⟨some 3, none,.mv (.t 0)⟩,⟨some 4, none,.call zl71 [(.rd,(.t 3))] true⟩,⟨some 5, none,.call zl70 [(.tk,(.t 4))] true⟩,⟨some 2, none,.asg (.t 5)⟩] [2] []
def zi31:IFun:=⟨[.t 2],[],(.seq z31r0 (.seq z31r1 .ret))⟩
def z32r0:IC:=.reg [⟨some 2, none,.box (.t 0)⟩,⟨some 3, none,.box (.t 1)⟩,⟨some 4, none,.asg (.c (vi 0))⟩] [2,3] []
def z32r1:IC:=.reg [⟨some 5, none,.fadr 0 (.t 2)⟩,⟨some 6, none,.load false 1 (.t 5)⟩,⟨some 7, none,.fadr 0 (.t 3)⟩,⟨some 8, none,.load false 1 (.t 7)⟩,⟨some 9, none,.bin .neq (.t 6) (.t 8)⟩] [2,3,9] []
def z32r2:IC:=.reg [⟨some 10, none,.fadr 0 (.t 2)⟩,⟨some 11, none,.load false 1 (.t 10)⟩,⟨some 12, none,.fadr 0 (.t 3)⟩,⟨some 13, none,.load false 1 (.t 12)⟩,⟨some 14, none,.bin .sub (.t 11) (.t 13)⟩,⟨some 4, none,.asg (.t 14)⟩] [4] []
def z32r3:IC:=.reg [⟨some 15, none,.fadr 1 (.t 2)⟩,⟨some 16, none,.load false 1 (.t 15)⟩,⟨some 17, none,.fadr 1 (.t 3)⟩,⟨some 18, none,.load false 1 (.t 17)⟩,⟨some 19, none,.bin .sub (.t 16) (.t 18)⟩,⟨some 4, none,.asg (.t 19)⟩] [4] []
def zi32:IFun:=⟨[.t 4],[],(.seq z32r0 (.seq (.seq z32r1 (.cond (.t 9) (.seq z32r2 .ret) .skip)) (.seq z32r3 .ret)))⟩
def z37r0:IC:=.reg [⟨some 2, none,.asg (.c (.slice none 0 0))⟩] [0] []
def z37r1:IC:=.reg [⟨some 4, none,.mv (.t 0)⟩,⟨some 5, none,.call zl31 [(.rd,(.t 4))] true⟩,⟨some 3, none,.asg (.t 5)⟩] [3] []
def z37r2:IC:=.reg [⟨some 6, none,.mv (.t 3)⟩,⟨some 7, none,.call zl78 [(.ld,(.t 6))] false⟩] [3] []
def z37r3:IC:=.reg [⟨some 8, none,.mv (.t 3)⟩,⟨some 9, none,.call zl76 [(.ld,(.t 8))] false⟩] [3] []
def z37r4:IC:=.reg [⟨some 10, none,.mv (.t 3)⟩,⟨some 2, none,.asgm (.t 10)⟩] [2,3] []
def zi37:IFun:=⟨[.t 2],[],(.seq z37r0 (.seq z37r1 (.seq z37r2 (.seq z37r3 (.seq z37r4 .ret)))))⟩
def z38r0:IC:=.reg [⟨some 6, none,.asg (.c (.bool false))⟩] [0,1,2] []
def z38r1:IC:=.reg [⟨some 7, none,.mv (.t 0)⟩,⟨some 8, none,.mv (.t 1)⟩,⟨some 9, none,.bin .geq (.t 7) (.t 8)⟩,⟨some 10, none,.asg (.t 9)⟩,⟨some 11, (some (10,true)),.mv (.t 0)⟩,⟨some 12, (some (10,true)),.mv (.t 2)⟩,⟨some 13, (some (10,true)),.bin .leq (.t 11) (.t 12)⟩,⟨some 14, none,.pick (.t 10) (.t 13) (.c (.bool false))⟩,⟨some 6, none,.asg (.t 14)⟩] [6] []
def zi38:IFun:=⟨[.t 6],[],(.seq z38r0 (.seq z38r1 .ret))⟩
def z535r0:IC:=.reg [⟨some 2, none,.asg (.c (.bool false))⟩] [0] []
def z535r1:IC:=.reg [⟨some 7, none,.mv (.t 0)⟩,⟨some 8, none,.len (.t 7)⟩,⟨some 9, none,.bin .gtr (.t 8) (.c (vi 1048576))⟩] [0,9] []
def z535r2:IC:=.reg [⟨some 2, none,.asg (.c (.bool true))⟩] [2] []
def z535r3:IC:=.reg [⟨some 10, none,.mv (.t 0)⟩,⟨some 11, none,.call zl564 [(.rd,(.t 10))] true⟩,⟨some 3, none,.alloc [(vi 0),(.slice none 0 0)]⟩,⟨none,none,.storef 2 (.t 3) (.t 11)⟩] [3] []
def z535r4:IC:=.reg [⟨some 12, none,.load true 2 (.t 3)⟩,⟨some 13, none,.call zl189 [(.rd,(.t 12))] true⟩,⟨some 4, none,.asg (.t 13)⟩] [3,4] []
def z535r5:IC:=.reg [⟨some 14, none,.mv (.t 4)⟩,⟨some 15, none,.load true 2 (.t 3)⟩,⟨some 16, none,.call zl322 [(.rd,(.t 15))] true⟩,⟨some 17, none,.call zl53 [(.rd,(.t 14)),(.rd,(.t 16))] true⟩,⟨some 18, none,.unop .not (.t 17)⟩,⟨some 19, none,.asg (.t 18)⟩,⟨some 20, (some (19,false)),.load true 2 (.t 3)⟩,⟨some 21, (some (19,false)),.call zl26 [(.rd,(.t 20))] true⟩,⟨some 22, (some (19,false)),.unop .not (.t 21)⟩,⟨some 23, none,.pick (.t 19) (.c (.bool true)) (.t 22)⟩] [3,4,23] []
def z535r6:IC:=.reg [⟨some 24, none,.mv (.t 4)⟩,⟨some 25, none,.load true 2 (.t 3)⟩,⟨some 26, none,.call zl322 [(.rd,(.t 25))] true⟩,⟨some 27, none,.call zl53 [(.rd,(.t 24)),(.rd,(.t 26))] true⟩,⟨some 2, none,.asg (.t 27)⟩] [2] []
def z535r7:IC:=.reg [⟨some 28, none,.load true 2 (.t 3)⟩,⟨some 29, none,.call zl161 [(.rd,(.t 28))] true⟩,⟨some 30, none,.call zl20 [(.rd,(.t 29))] true⟩,⟨some 5, none,.asg (.t 30)⟩] [4,5] []
def z535r8:IC:=.reg [⟨some 6, none,.asg (.c (vi 0))⟩] [4,5,6] []
def z535r9:IC:=.reg [⟨some 31, none,.mv (.t 6)⟩,⟨some 32, none,.mv (.t 5)⟩,⟨some 33, none,.len (.t 32)⟩,⟨some 34, none,.bin .lss (.t 31) (.t 33)⟩,⟨some 35, none,.asg (.t 34)⟩,⟨some 36, (some (35,true)),.mv (.t 5)⟩,⟨some 37, (some (35,true)),.mv (.t 6)⟩,⟨some 38, (some (35,true)),.iadr 1 (.t 36) (.t 37)⟩,⟨some 39, (some (35,true)),.load false 1 (.t 38)⟩,⟨some 40, (some (35,true)),.bin .gtr (.t 39) (.c (vi 0))⟩,⟨some 41, none,.pick (.t 35) (.t 40) (.c (.bool false))⟩] [4,5,6,41] []
def z535r10:IC:=.reg [⟨some 42, none,.mv (.t 6)⟩,⟨some 43, none,.bin .add (.t 42) (.c (vi 1))⟩,⟨some 6, none,.asg (.t 43)⟩] [4,5,6] []
def z535l11:IC:=(.seq (.seq z535r9 (.cond (.t 41) .skip (.exit 0))) (.block 1 z535r10))
def z535r12:IC:=.reg [⟨some 44, none,.mv (.t 4)⟩,⟨some 45, none,.mv (.t 5)⟩,⟨some 46, none,.mv (.t 6)⟩,⟨some 47, none,.slc 1 (.t 45) none (some (.t 46)) none⟩,⟨some 48, none,.call zl53 [(.rd,(.t 44)),(.rd,(.t 47))] true⟩,⟨some 2, none,.asg (.t 48)⟩] [2] []
def zi535:IFun:=⟨[.t 2],[],(.seq z535r0 (.seq (.seq z535r1 (.cond (.t 9) (.seq z535r2 .ret) .skip)) (.seq z535r3 (.seq z535r4 (.seq (.seq z535r5 (.cond (.t 23) (.seq z535r6 .ret) .skip)) (.seq z535r7 (.seq z535r8 (.seq (.block 0 (.loop z535l11)) (.seq z535r12 .ret)))))))))⟩
def z53r0:IC:=.reg [⟨some 4, none,.asg (.c (.bool false))⟩] [0,1] []
def z53r1:IC:=.reg [⟨some 6, none,.mv (.t 0)⟩,⟨some 7, none,.len (.t 6)⟩,⟨some 8, none,.mv (.t 1)⟩,⟨some 9, none,.len (.t 8)⟩,⟨some 10, none,.bin .neq (.t 7) (.t 9)⟩] [0,1,10] []
def z53r2:IC:=.reg [⟨some 4, none,.asg (.c (.bool false))⟩] [4] []
def z53r3:IC:=.reg [⟨some 5, none,.asg (.c (vi 0))⟩] [0,1,5] []
def z53r4:IC:=.reg [⟨some 11, none,.mv (.t 5)⟩,⟨some 12, none,.mv (.t 0)⟩,⟨some 13, none,.len (.t 12)⟩,⟨some 14, none,.bin .lss (.t 11) (.t 13)⟩] [0,1,5,14] []
def z53r5:IC:=.reg [⟨some 17, none,.mv (.t 0)⟩,⟨some 18, none,.mv (.t 5)⟩,⟨some 19, none,.iadr 1 (.t 17) (.t 18)⟩,⟨some 20, none,.load false 1 (.t 19)⟩,⟨some 21, none,.mv (.t 1)⟩,⟨some 22, none,.mv (.t 5)⟩,⟨some 23, none,.iadr 1 (.t 21) (.t 22)⟩,⟨some 24, none,.load false 1 (.t 23)⟩,⟨some 25, none,.bin .neq (.t 20) (.t 24)⟩] [0,1,5,25] []
def z53r6:IC:=.reg [⟨some 4, none,.asg (.c (.bool false))⟩] [4] []
def z53r7:IC:=.reg [⟨some 15, none,.mv (.t 5)⟩,⟨some 16, none,.bin .add (.t 15) (.c (vi 1))⟩,⟨some 5, none,.asg (.t 16)⟩] [0,1,5] []
def z53l8:IC:=(.seq (.seq z53r4 (.cond (.t 14) .skip (.exit 0))) (.seq (.block 1 (.seq z53r5 (.cond (.t 25) (.seq z53r6 .ret) .skip))) z53r7))
def z53r9:IC:=.reg [⟨some 4, none,.asg (.c (.bool true))⟩] [4] []
def zi53:IFun:=⟨[.t 4],[],(.seq z53r0 (.seq (.seq z53r1 (.cond (.t 10) (.seq z53r2 .ret) .skip)) (.seq (.seq z53r3 (.block 0 (.loop z53l8))) (.seq z53r9 .ret))))⟩
def z66r0:IC:=.reg [⟨some 2, none,.asg (.c (vi 0))⟩] [0] []
def z66r1:IC:=.reg [⟨some 3, none,.mv (.t 0)⟩,⟨some 4, none,.conv .u32 (.t 3)⟩,⟨some 5, none,.call zl67 [(.val,(.t 4))] true⟩,⟨some 2, none,.asg (.t 5)⟩] [2] []
def z66r2:IC:=.reg [⟨some 6, none,.mv (.t 0)⟩,⟨some 7, none,.call zl68 [(.val,(.t 6))] true⟩,⟨some 2, none,.asg (.t 7)⟩] [2] []
def zi66:IFun:=⟨[.t 2],[],(.seq z66r0 (.seq (.cond (.c (.bool false)) (.seq z66r1 .ret) .skip) (.seq z66r2 .ret)))⟩
def z68r0:IC:=.reg [⟨some 2, none,.asg (.c (vi 0))⟩] [0,2] []
def z68r1:IC:=.reg [⟨some 3, none,.mv (.t 0)⟩,⟨some 4, none,.bin .geq (.t 3) (.c (.int .u64 (4294967296)))⟩] [0,2,4] []
def z68r2:IC:=.reg [⟨some 5, none,.mv (.t 0)⟩,⟨some 6, none,.bin .shr (.t 5) (.c (.int .u64 (32)))⟩,⟨some 0, none,.asg (.t 6)⟩] [0] []
def z68r3:IC:=.reg [⟨some 2, none,.asg (.c (vi 32))⟩] [0,2] []
def z68r4:IC:=.reg [⟨some 7, none,.mv (.t 0)⟩,⟨some 8, none,.bin .geq (.t 7) (.c (.int .u64 (65536)))⟩] [0,2,8] []
def z68r5:IC:=.reg [⟨some 9, none,.mv (.t 0)⟩,⟨some 10, none,.bin .shr (.t 9) (.c (.int .u64 (16)))⟩,⟨some 0, none,.asg (.t 10)⟩] [0,2] []
def z68r6:IC:=.reg [⟨some 11, none,.mv (.t 2)⟩,⟨some 12, none,.bin .add (.t 11) (.c (vi 16))⟩,⟨some 2, none,.asg (.t 12)⟩] [0,2] []
def z68r7:IC:=.reg [⟨some 13, none,.mv (.t 0)⟩,⟨some 14, none,.bin .geq (.t 13) (.c (.int .u64 (256)))⟩] [0,2,14] []
def z68r8:IC:=.reg [⟨some 15, none,.mv (.t 0)⟩,⟨some 16, none,.bin .shr (.t 15) (.c (.int .u64 (8)))⟩,⟨some 0, none,.asg (.t 16)⟩] [0,2] []
def z68r9:IC:=.reg [⟨some 17, none,.mv (.t 2)⟩,⟨some 18, none,.bin .add (.t 17) (.c (vi 8))⟩,⟨some 2, none,.asg (.t 18)⟩] [0,2] []
def z68r10:IC:=.reg [⟨some 19, none,.mv (.t 2)⟩,⟨some 20, none,.mv (.t 0)⟩,⟨some 21, none,.conv .u8 (.t 20)⟩,⟨some 22, none,.idxs (.c (.string ⟨#[0,1,2,2,3,3,3,3,4,4,4,4,4,4,4,4,5,5,5,5,5,5,5,5,5,5,5,5,5,5,5,5,6,6,6,6,6,6,6,6,6,6,6,6,6,6,6,6,6,6,6,6,6,6,6,6,6,6,6,6,6,6,6,6,7,7,7,7,7,7,7,7,7,7,7,7,7,7,7,7,7,7,7,7,7,7,7,7,7,7,7,7,7,7,7,7,7,7,7,7,7,7,7,7,7,7,7,7,7,7,7,7,7,7,7,7,7,7,7,7,7,7,7,7,7,7,7,7,8,8,8,8,8,8,8,8,8,8,8,8,8,8,8,8,8,8,8,8,8,8,8,8,8,8,8,8,8,8,8,8,8,8,8,8,8,8,8,8,8,8,8,8,8,8,8,8,8,8,8,8,8,8,8,8,8,8,8,8,8,8,8,8,8,8,8,8,8,8,8,8,8,8,8,8,8,8,8,8,8,8,8,8,8,8,8,8,8,8,8,8,8,8,8,8,8,8,8,8,8,8,8,8,8,8,8,8,8,8,8,8,8,8,8,8,8,8,8,8,8,8,8,8,8,8,8,8]⟩)) (.t 21)⟩,⟨some 23, none,.conv .i64 (.t 22)⟩,⟨some 24, none,.bin .add (.t 19) (.t 23)⟩,⟨some 2, none,.asg (.t 24)⟩] [2] []
def zi68:IFun:=⟨[.t 2],[],(.seq z68r0 (.seq (.seq z68r1 (.cond (.t 4) (.seq z68r2 z68r3) .skip)) (.seq (.seq z68r4 (.cond (.t 8) (.seq z68r5 z68r6) .skip)) (.seq (.seq z68r7 (.cond (.t 14) (.seq z68r8 z68r9) .skip)) (.seq z68r10 .ret)))))⟩
def z70r0:IC:=.reg [⟨some 2, none,.asg (.c (.slice none 0 0))⟩] [0] []
def z70r1:IC:=.reg [⟨some 3, none,.mv (.t 0)⟩,⟨some 4, none,.mv (.t 0)⟩,⟨some 5, none,.len (.t 4)⟩,⟨some 6, none,.mv (.t 0)⟩,⟨some 7, none,.len (.t 6)⟩,⟨some 8, none,.slc 1 (.t 3) none (some (.t 5)) (some (.t 7))⟩,⟨some 2, none,.asgm (.t 8)⟩] [0,2] []
def zi70:IFun:=⟨[.t 2],[],(.seq z70r0 (.seq z70r1 .ret))⟩
def z71r0:IC:=.reg [⟨some 2, none,.nilo 1⟩] [0] []
def z71r1:List IOp:=[⟨some 3, none,.mv (.t 0)⟩]
def z71r2:IC:=.reg [⟨some 2, none,.nilo 1⟩] [2] []
def z71r3:IC:=.reg [⟨some 5, none,.bsl 1 [(vi 0)] 0 []⟩,⟨some 6, none,.mv (.t 0)⟩,⟨some 7, none,.app 1 (.t 5) (.t 6)⟩,⟨some 2, none,.asg (.t 7)⟩] [2] []
def zi71:IFun:=⟨[.t 2],[],(.seq z71r0 (.nilc2 z71r1 (.t 3) 4 [0,4] (.cond (.t 4) (.seq z71r2 .ret) .skip) (.seq z71r3 .ret)))⟩
def z72r0:IC:=.reg [⟨some 4, none,.asg (.c (.bool false))⟩] [0,1] []
def z72r1:IC:=.reg [⟨some 5, none,.mv (.t 0)⟩,⟨some 6, none,.mv (.t 1)⟩,⟨some 7, none,.call zl73 [(.rd,(.t 5)),(.val,(.t 6))] false⟩,⟨some 8, none,.bin .geq (.t 7) (.c (vi 0))⟩,⟨some 4, none,.asg (.t 8)⟩] [4] []
def zi72:IFun:=⟨[.t 4],[],(.seq z72r0 (.seq z72r1 .ret))⟩
def z73r0:IC:=.reg [⟨some 4, none,.asg (.c (vi 0))⟩] [0,1] []
def z73r1:IC:=.reg [⟨some 6, none,.mv (.t 0)⟩,⟨some 7, none,.len (.t 6)⟩,⟨some 8, none,.mv (.c (vi 0))⟩] [0,1,7,8] []
def z73r2:IC:=.reg [⟨some 9, none,.bin .lss (.t 8) (.t 7)⟩] [0,1,7,8,9] []
def z73r3:IC:=.reg [⟨some 10, none,.asg (.t 8)⟩,⟨some 5, none,.asg (.t 10)⟩] [0,1,5,7,8] []
def z73r4:IC:=.reg [⟨some 11, none,.mv (.t 1)⟩,⟨some 12, none,.mv (.t 0)⟩,⟨some 13, none,.mv (.t 5)⟩,⟨some 14, none,.iadr 1 (.t 12) (.t 13)⟩,⟨some 15, none,.load false 1 (.t 14)⟩,⟨some 16, none,.callv (.t 11) [(.val,(.t 15))]⟩] [0,1,5,7,8,16] []
def z73r5:IC:=.reg [⟨some 17, none,.mv (.t 5)⟩,⟨some 4, none,.asgm (.t 17)⟩] [4] []
def z73r6:IC:=.reg [⟨some 18, none,.bin .add (.t 8) (.c (vi 1))⟩,⟨some 8, none,.asg (.t 18)⟩] [0,1,7,8] []
def z73l7:IC:=(.seq z73r2 (.seq (.cond (.t 9) .skip (.exit 0)) (.seq (.block 1 (.seq z73r3 (.seq z73r4 (.cond (.t 16) (.seq z73r5 .ret) .skip)))) z73r6)))
def z73r8:IC:=.reg [⟨some 4, none,.asg (.c (vi (-1)))⟩] [4] []
def zi73:IFun:=⟨[.t 4],[],(.seq z73r0 (.seq (.seq z73r1 (.block 0 (.loop z73l7))) (.seq z73r8 .ret)))⟩
def zi271:IFun:=⟨[.t 0],[],.ext (ext_slices_Repeat_Sint_int_)⟩
def z76r0:IC:=.reg [⟨some 4, none,.mv (.t 0)⟩,⟨some 5, none,.len (.t 4)⟩,⟨some 6, none,.bin .sub (.t 5) (.c (vi 1))⟩,⟨some 2, none,.asg (.c (vi 0))⟩,⟨some 3, none,.asg (.t 6)⟩] [0,2,3] []
def z76r1:IC:=.reg [⟨some 7, none,.mv (.t 2)⟩,⟨some 8, none,.mv (.t 3)⟩,⟨some 9, none,.bin .lss (.t 7) (.t 8)⟩] [0,2,3,9] []
def z76r2:IC:=.reg [⟨some 14, none,.mv (.t 0)⟩,⟨some 15, none,.mv (.t 2)⟩,⟨some 16, none,.mv (.t 0)⟩,⟨some 17, none,.mv (.t 3)⟩,⟨some 18, none,.mv (.t 0)⟩,⟨some 19, none,.mv (.t 3)⟩,⟨some 20, none,.iadr 1 (.t 18) (.t 19)⟩,⟨some 21, none,.load false 1 (.t 20)⟩,⟨some 22, none,.mv (.t 0)⟩,⟨some 23, none,.mv (.t 2)⟩,⟨some 24, none,.iadr 1 (.t 22) (.t 23)⟩,⟨some 25, none,.load false 1 (.t 24)⟩,⟨some 26, none,.iadr 1 (.t 14) (.t 15)⟩,⟨none,none,.store 1 (.t 26) (.t 21)⟩,⟨some 27, none,.iadr 1 (.t 16) (.t 17)⟩,⟨none,none,.store 1 (.t 27) (.t 25)⟩] [0,2,3] []
def z76r3:IC:=.reg [⟨some 10, none,.mv (.t 2)⟩,⟨some 11, none,.bin .add (.t 10) (.c (vi 1))⟩,⟨some 12, none,.mv (.t 3)⟩,⟨some 13, none,.bin .sub (.t 12) (.c (vi 1))⟩,⟨some 2, none,.asg (.t 11)⟩,⟨some 3, none,.asg (.t 13)⟩] [0,2,3] []
def z76l4:IC:=(.seq (.seq z76r1 (.cond (.t 9) .skip (.exit 0))) (.seq (.block 1 z76r2) z76r3))
def zi76:IFun:=⟨[],[0],(.seq z76r0 (.block 0 (.loop z76l4)))⟩
def z77r0:IC:=.reg [⟨some 5, none,.mv (.t 0)⟩,⟨some 6, none,.len (.t 5)⟩,⟨some 4, none,.asg (.t 6)⟩] [0,1,4] []
def z77r1:IC:=.reg [⟨some 7, none,.mv (.t 0)⟩,⟨some 8, none,.mv (.t 4)⟩,⟨some 9, none,.mv (.t 4)⟩,⟨some 10, none,.conv .u64 (.t 9)⟩,⟨some 11, none,.call zl66 [(.val,(.t 10))] true⟩,⟨some 12, none,.mv (.t 1)⟩,⟨some 13, none,.call zl100 [(.ld,(.t 7)),(.val,(.c (vi 0))),(.val,(.t 8)),(.val,(.t 11)),(.val,(.t 12))] false⟩] [0] []
def zi77:IFun:=⟨[],[0],(.seq z77r0 z77r1)⟩
def z78r0:IC:=.reg [⟨some 3, none,.mv (.t 0)⟩,⟨some 4, none,.len (.t 3)⟩,⟨some 2, none,.asg (.t 4)⟩] [0,2] []
def z78r1:IC:=.reg [⟨some 5, none,.mv (.t 0)⟩,⟨some 6, none,.mv (.t 2)⟩,⟨some 7, none,.mv (.t 2)⟩,⟨some 8, none,.conv .u64 (.t 7)⟩,⟨some 9, none,.call zl66 [(.val,(.t 8))] true⟩,⟨some 10, none,.call zl101 [(.ld,(.t 5)),(.val,(.c (vi 0))),(.val,(.t 6)),(.val,(.t 9))] false⟩] [0] []
def zi78:IFun:=⟨[],[0],(.seq z78r0 z78r1)⟩
def z85r0:IC:=.reg [⟨some 10, none,.mv (.t 1)⟩,⟨some 11, none,.bin .add (.t 10) (.c (vi 1))⟩,⟨some 8, none,.asg (.t 11)⟩] [0,1,2,3,8] []
def z85r1:IC:=.reg [⟨some 12, none,.mv (.t 8)⟩,⟨some 13, none,.mv (.t 2)⟩,⟨some 14, none,.bin .lss (.t 12) (.t 13)⟩] [0,1,2,3,8,14] []
def z85r2:IC:=.reg [⟨some 17, none,.mv (.t 8)⟩,⟨some 9, none,.asg (.t 17)⟩] [0,1,2,3,8,9] []
def z85r3:IC:=.reg [⟨some 18, none,.mv (.t 9)⟩,⟨some 19, none,.mv (.t 1)⟩,⟨some 20, none,.bin .gtr (.t 18) (.t 19)⟩,⟨some 21, none,.asg (.t 20)⟩,⟨some 22, (some (21,true)),.mv (.t 3)⟩,⟨some 23, (some (21,true)),.mv (.t 0)⟩,⟨some 24, (some (21,true)),.mv (.t 9)⟩,⟨some 25, (some (21,true)),.iadr 3 (.t 23) (.t 24)⟩,⟨some 26, (some (21,true)),.load true 3 (.t 25)⟩,⟨some 27, (some (21,true)),.mv (.t 0)⟩,⟨some 28, (some (21,true)),.mv (.t 9)⟩,⟨some 29, (some (21,true)),.bin .sub (.t 28) (.c (vi 1))⟩,⟨some 30, (some (21,true)),.iadr 3 (.t 27) (.t 29)⟩,⟨some 31, (some (21,true)),.load true 3 (.t 30)⟩,⟨some 32, (some (21,true)),.callv (.t 22) [(.val,(.t 26)),(.val,(.t 31))]⟩,⟨some 33, (some (21,true)),.bin .lss (.t 32) (.c (vi 0))⟩,⟨some 34, none,.pick (.t 21) (.t 33) (.c (.bool false))⟩] [0,1,2,3,8,9,34] []
def z85r4:IC:=.reg [⟨some 37, none,.mv (.t 0)⟩,⟨some 38, none,.mv (.t 9)⟩,⟨some 39, none,.mv (.t 0)⟩,⟨some 40, none,.mv (.t 9)⟩,⟨some 41, none,.bin .sub (.t 40) (.c (vi 1))⟩,⟨some 42, none,.mv (.t 0)⟩,⟨some 43, none,.mv (.t 9)⟩,⟨some 44, none,.bin .sub (.t 43) (.c (vi 1))⟩,⟨some 45, none,.iadr 3 (.t 42) (.t 44)⟩,⟨some 46, none,.load true 3 (.t 45)⟩,⟨some 47, none,.mv (.t 0)⟩,⟨some 48, none,.mv (.t 9)⟩,⟨some 49, none,.iadr 3 (.t 47) (.t 48)⟩,⟨some 50, none,.load true 3 (.t 49)⟩,⟨some 51, none,.iadr 3 (.t 37) (.t 38)⟩,⟨none,none,.store 3 (.t 51) (.t 46)⟩,⟨some 52, none,.iadr 3 (.t 39) (.t 41)⟩,⟨none,none,.store 3 (.t 52) (.t 50)⟩] [0,1,2,3,8,9] []
def z85r5:IC:=.reg [⟨some 35, none,.mv (.t 9)⟩,⟨some 36, none,.bin .sub (.t 35) (.c (vi 1))⟩,⟨some 9, none,.asg (.t 36)⟩] [0,1,2,3,8,9] []
def z85l6:IC:=(.seq (.seq z85r3 (.cond (.t 34) .skip (.exit 2))) (.seq (.block 3 z85r4) z85r5))
def z85r7:IC:=.reg [⟨some 15, none,.mv (.t 8)⟩,⟨some 16, none,.bin .add (.t 15) (.c (vi 1))⟩,⟨some 8, none,.asg (.t 16)⟩] [0,1,2,3,8] []
def z85l8:IC:=(.seq (.seq z85r1 (.cond (.t 14) .skip (.exit 0))) (.seq (.block 1 (.seq z85r2 (.block 2 (.loop z85l6)))) z85r7))
def zi85:IFun:=⟨[],[0],(.seq z85r0 (.block 0 (.loop z85l8)))⟩
def z86r0:IC:=.reg [⟨some 8, none,.mv (.t 1)⟩,⟨some 9, none,.bin .add (.t 8) (.c (vi 1))⟩,⟨some 6, none,.asg (.t 9)⟩] [0,1,2,6] []
def z86r1:IC:=.reg [⟨some 10, none,.mv (.t 6)⟩,⟨some 11, none,.mv (.t 2)⟩,⟨some 12, none,.bin .lss (.t 10) (.t 11)⟩] [0,1,2,6,12] []
def z86r2:IC:=.reg [⟨some 15, none,.mv (.t 6)⟩,⟨some 7, none,.asg (.t 15)⟩] [0,1,2,6,7] []
def z86r3:IC:=.reg [⟨some 16, none,.mv (.t 7)⟩,⟨some 17, none,.mv (.t 1)⟩,⟨some 18, none,.bin .gtr (.t 16) (.t 17)⟩,⟨some 19, none,.asg (.t 18)⟩,⟨some 20, (some (19,true)),.mv (.t 0)⟩,⟨some 21, (some (19,true)),.mv (.t 7)⟩,⟨some 22, (some (19,true)),.iadr 1 (.t 20) (.t 21)⟩,⟨some 23, (some (19,true)),.load false 1 (.t 22)⟩,⟨some 24, (some (19,true)),.mv (.t 0)⟩,⟨some 25, (some (19,true)),.mv (.t 7)⟩,⟨some 26, (some (19,true)),.bin .sub (.t 25) (.c (vi 1))⟩,⟨some 27, (some (19,true)),.iadr 1 (.t 24) (.t 26)⟩,⟨some 28, (some (19,true)),.load false 1 (.t 27)⟩,⟨some 29, (some (19,true)),.call zl2 [(.val,(.t 23)),(.val,(.t 28))] true⟩,⟨some 30, none,.pick (.t 19) (.t 29) (.c (.bool false))⟩] [0,1,2,6,7,30] []
def z86r4:IC:=.reg [⟨some 33, none,.mv (.t 0)⟩,⟨some 34, none,.mv (.t 7)⟩,⟨some 35, none,.mv (.t 0)⟩,⟨some 36, none,.mv (.t 7)⟩,⟨some 37, none,.bin .sub (.t 36) (.c (vi 1))⟩,⟨some 38, none,.mv (.t 0)⟩,⟨some 39, none,.mv (.t 7)⟩,⟨some 40, none,.bin .sub (.t 39) (.c (vi 1))⟩,⟨some 41, none,.iadr 1 (.t 38) (.t 40)⟩,⟨some 42, none,.load false 1 (.t 41)⟩,⟨some 43, none,.mv (.t 0)⟩,⟨some 44, none,.mv (.t 7)⟩,⟨some 45, none,.iadr 1 (.t 43) (.t 44)⟩,⟨some 46, none,.load false 1 (.t 45)⟩,⟨some 47, none,.iadr 1 (.t 33) (.t 34)⟩,⟨none,none,.store 1 (.t 47) (.t 42)⟩,⟨some 48, none,.iadr 1 (.t 35) (.t 37)⟩,⟨none,none,.store 1 (.t 48) (.t 46)⟩] [0,1,2,6,7] []
def z86r5:IC:=.reg [⟨some 31, none,.mv (.t 7)⟩,⟨some 32, none,.bin .sub (.t 31) (.c (vi 1))⟩,⟨some 7, none,.asg (.t 32)⟩] [0,1,2,6,7] []
def z86l6:IC:=(.seq (.seq z86r3 (.cond (.t 30) .skip (.exit 2))) (.seq (.block 3 z86r4) z86r5))
def z86r7:IC:=.reg [⟨some 13, none,.mv (.t 6)⟩,⟨some 14, none,.bin .add (.t 13) (.c (vi 1))⟩,⟨some 6, none,.asg (.t 14)⟩] [0,1,2,6] []
def z86l8:IC:=(.seq (.seq z86r1 (.cond (.t 12) .skip (.exit 0))) (.seq (.block 1 (.seq z86r2 (.block 2 (.loop z86l6)))) z86r7))
def zi86:IFun:=⟨[],[0],(.seq z86r0 (.block 0 (.loop z86l8)))⟩
def z100r0:IC:=.reg [⟨some 10, none,.asg (.c (.bool true))⟩] [0,1,2,3,4,10] []
def z100r1:IC:=.reg [⟨some 11, none,.asg (.c (.bool true))⟩] [0,1,2,3,4,10,11] []
def z100r2:IC:=.reg [⟨some 21, none,.mv (.t 2)⟩,⟨some 22, none,.mv (.t 1)⟩,⟨some 23, none,.bin .sub (.t 21) (.t 22)⟩,⟨some 12, none,.asg (.t 23)⟩] [0,1,2,3,4,10,11,12] []
def z100r3:IC:=.reg [⟨some 24, none,.mv (.t 12)⟩,⟨some 25, none,.bin .leq (.t 24) (.c (vi 12))⟩] [0,1,2,3,4,10,11,12,25] []
def z100r4:IC:=.reg [⟨some 26, none,.mv (.t 0)⟩,⟨some 27, none,.mv (.t 1)⟩,⟨some 28, none,.mv (.t 2)⟩,⟨some 29, none,.mv (.t 4)⟩,⟨some 30, none,.call zl85 [(.ld,(.t 26)),(.val,(.t 27)),(.val,(.t 28)),(.val,(.t 29))] false⟩] [0] []
def z100r5:IC:=.reg [⟨some 31, none,.mv (.t 3)⟩,⟨some 32, none,.bin .eql (.t 31) (.c (vi 0))⟩] [0,1,2,3,4,10,11,12,32] []
def z100r6:IC:=.reg [⟨some 33, none,.mv (.t 0)⟩,⟨some 34, none,.mv (.t 1)⟩,⟨some 35, none,.mv (.t 2)⟩,⟨some 36, none,.mv (.t 4)⟩,⟨some 37, none,.call zl83 [(.ld,(.t 33)),(.val,(.t 34)),(.val,(.t 35)),(.val,(.t 36))] false⟩] [0] []
def z100r7:IC:=.reg [⟨some 38, none,.mv (.t 10)⟩,⟨some 39, none,.unop .not (.t 38)⟩] [0,1,2,3,4,10,11,12,39] []
def z100r8:IC:=.reg [⟨some 40, none,.mv (.t 0)⟩,⟨some 41, none,.mv (.t 1)⟩,⟨some 42, none,.mv (.t 2)⟩,⟨some 43, none,.mv (.t 4)⟩,⟨some 44, none,.call zl79 [(.ld,(.t 40)),(.val,(.t 41)),(.val,(.t 42)),(.val,(.t 43))] false⟩] [0,1,2,3,4,10,11,12] []
def z100r9:IC:=.reg [⟨some 45, none,.mv (.t 3)⟩,⟨some 46, none,.bin .sub (.t 45) (.c (vi 1))⟩,⟨some 3, none,.asg (.t 46)⟩] [0,1,2,3,4,10,11,12] []
def z100r10:IC:=.reg [⟨some 48, none,.mv (.t 0)⟩,⟨some 49, none,.mv (.t 1)⟩,⟨some 50, none,.mv (.t 2)⟩,⟨some 51, none,.mv (.t 4)⟩,⟨some 52, none,.call zl451 [(.ld,(.t 48)),(.val,(.t 49)),(.val,(.t 50)),(.val,(.t 51))] false⟩,⟨some 47, none,.asg (.t 52)⟩,⟨some 53, none,.extr (.t 47) 0⟩,⟨some 54, none,.extr (.t 47) 1⟩,⟨some 13, none,.asg (.t 53)⟩,⟨some 14, none,.asg (.t 54)⟩] [0,1,2,3,4,10,11,12,13,14] []
def z100r11:IC:=.reg [⟨some 55, none,.mv (.t 14)⟩,⟨some 56, none,.bin .eql (.t 55) (.c (vi 2))⟩] [0,1,2,3,4,10,11,12,13,14,56] []
def z100r12:IC:=.reg [⟨some 57, none,.mv (.t 0)⟩,⟨some 58, none,.mv (.t 1)⟩,⟨some 59, none,.mv (.t 2)⟩,⟨some 60, none,.mv (.t 4)⟩,⟨some 61, none,.call zl102 [(.ld,(.t 57)),(.val,(.t 58)),(.val,(.t 59)),(.val,(.t 60))] false⟩] [0,1,2,3,4,10,11,12,13] []
def z100r13:IC:=.reg [⟨some 62, none,.mv (.t 2)⟩,⟨some 63, none,.bin .sub (.t 62) (.c (vi 1))⟩,⟨some 64, none,.mv (.t 13)⟩,⟨some 65, none,.mv (.t 1)⟩,⟨some 66, none,.bin .sub (.t 64) (.t 65)⟩,⟨some 67, none,.bin .sub (.t 63) (.t 66)⟩,⟨some 13, none,.asg (.t 67)⟩] [0,1,2,3,4,10,11,12,13] []
def z100r14:IC:=.reg [⟨some 14, none,.asg (.c (vi 1))⟩] [0,1,2,3,4,10,11,12,13,14] []
def z100r15:IC:=.reg [⟨some 68, none,.mv (.t 10)⟩,⟨some 69, none,.asg (.t 68)⟩,⟨some 70, (some (69,true)),.mv (.t 11)⟩,⟨some 71, none,.pick (.t 69) (.t 70) (.c (.bool false))⟩,⟨some 72, none,.asg (.t 71)⟩,⟨some 73, (some (72,true)),.mv (.t 14)⟩,⟨some 74, (some (72,true)),.bin .eql (.t 73) (.c (vi 1))⟩,⟨some 75, none,.pick (.t 72) (.t 74) (.c (.bool false))⟩] [0,1,2,3,4,10,11,12,13,75] []
def z100r16:IC:=.reg [⟨some 76, none,.mv (.t 0)⟩,⟨some 77, none,.mv (.t 1)⟩,⟨some 78, none,.mv (.t 2)⟩,⟨some 79, none,.mv (.t 4)⟩,⟨some 80, none,.call zl94 [(.ld,(.t 76)),(.val,(.t 77)),(.val,(.t 78)),(.val,(.t 79))] false⟩] [0,1,2,3,4,10,11,12,13,80] []
def z100r17:IC:=.reg [⟨some 81, none,.mv (.t 1)⟩,⟨some 82, none,.bin .gtr (.t 81) (.c (vi 0))⟩,⟨some 83, none,.asg (.t 82)⟩,⟨some 84, (some (83,true)),.mv (.t 4)⟩,⟨some 85, (some (83,true)),.mv (.t 0)⟩,⟨some 86, (some (83,true)),.mv (.t 1)⟩,⟨some 87, (some (83,true)),.bin .sub (.t 86) (.c (vi 1))⟩,⟨some 88, (some (83,true)),.iadr 3 (.t 85) (.t 87)⟩,⟨some 89, (some (83,true)),.load true 3 (.t 88)⟩,⟨some 90, (some (83,true)),.mv (.t 0)⟩,⟨some 91, (some (83,true)),.mv (.t 13)⟩,⟨some 92, (some (83,true)),.iadr 3 (.t 90) (.t 91)⟩,⟨some 93, (some (83,true)),.load true 3 (.t 92)⟩,⟨some 94, (some (83,true)),.callv (.t 84) [(.val,(.t 89)),(.val,(.t 93))]⟩,⟨some 95, (some (83,true)),.bin .lss (.t 94) (.c (vi 0))⟩,⟨some 96, (some (83,true)),.unop .not (.t 95)⟩,⟨some 97, none,.pick (.t 83) (.t 96) (.c (.bool false))⟩] [0,1,2,3,4,10,11,12,13,97] []
def z100r18:IC:=.reg [⟨some 98, none,.mv (.t 0)⟩,⟨some 99, none,.mv (.t 1)⟩,⟨some 100, none,.mv (.t 2)⟩,⟨some 101, none,.mv (.t 13)⟩,⟨some 102, none,.mv (.t 4)⟩,⟨some 103, none,.call zl97 [(.ld,(.t 98)),(.val,(.t 99)),(.val,(.t 100)),(.val,(.t 101)),(.val,(.t 102))] false⟩,⟨some 15, none,.asg (.t 103)⟩] [0,2,3,4,10,11,15] []
def z100r19:IC:=.reg [⟨some 104, none,.mv (.t 15)⟩,⟨some 1, none,.asgm (.t 104)⟩] [0,1,2,3,4,10,11] []
def z100r20:IC:=.reg [⟨some 106, none,.mv (.t 0)⟩,⟨some 107, none,.mv (.t 1)⟩,⟨some 108, none,.mv (.t 2)⟩,⟨some 109, none,.mv (.t 13)⟩,⟨some 110, none,.mv (.t 4)⟩,⟨some 111, none,.call zl96 [(.ld,(.t 106)),(.val,(.t 107)),(.val,(.t 108)),(.val,(.t 109)),(.val,(.t 110))] false⟩,⟨some 105, none,.asg (.t 111)⟩,⟨some 112, none,.extr (.t 105) 0⟩,⟨some 113, none,.extr (.t 105) 1⟩,⟨some 16, none,.asg (.t 112)⟩,⟨some 17, none,.asg (.t 113)⟩] [0,1,2,3,4,12,16,17] []
def z100r21:IC:=.reg [⟨some 114, none,.mv (.t 17)⟩,⟨some 11, none,.asgm (.t 114)⟩] [0,1,2,3,4,11,12,16] []
def z100r22:IC:=.reg [⟨some 115, none,.mv (.t 16)⟩,⟨some 116, none,.mv (.t 1)⟩,⟨some 117, none,.bin .sub (.t 115) (.t 116)⟩,⟨some 118, none,.mv (.t 2)⟩,⟨some 119, none,.mv (.t 16)⟩,⟨some 120, none,.bin .sub (.t 118) (.t 119)⟩,⟨some 18, none,.asg (.t 117)⟩,⟨some 19, none,.asg (.t 120)⟩] [0,1,2,3,4,11,12,16,18,19] []
def z100r23:IC:=.reg [⟨some 121, none,.mv (.t 12)⟩,⟨some 122, none,.bin .quo (.t 121) (.c (vi 8))⟩,⟨some 20, none,.asg (.t 122)⟩] [0,1,2,3,4,11,16,18,19,20] []
def z100r24:IC:=.reg [⟨some 123, none,.mv (.t 18)⟩,⟨some 124, none,.mv (.t 19)⟩,⟨some 125, none,.bin .lss (.t 123) (.t 124)⟩] [0,1,2,3,4,11,16,18,19,20,125] []
def z100r25:IC:=.reg [⟨some 126, none,.mv (.t 18)⟩,⟨some 127, none,.mv (.t 20)⟩,⟨some 128, none,.bin .geq (.t 126) (.t 127)⟩,⟨some 10, none,.asg (.t 128)⟩] [0,1,2,3,4,10,11,16] []
def z100r26:IC:=.reg [⟨some 129, none,.mv (.t 0)⟩,⟨some 130, none,.mv (.t 1)⟩,⟨some 131, none,.mv (.t 16)⟩,⟨some 132, none,.mv (.t 3)⟩,⟨some 133, none,.mv (.t 4)⟩,⟨some 134, none,.call zl100 [(.ld,(.t 129)),(.val,(.t 130)),(.val,(.t 131)),(.val,(.t 132)),(.val,(.t 133))] false⟩] [0,2,3,4,10,11,16] []
def z100r27:IC:=.reg [⟨some 135, none,.mv (.t 16)⟩,⟨some 136, none,.bin .add (.t 135) (.c (vi 1))⟩,⟨some 1, none,.asg (.t 136)⟩] [0,1,2,3,4,10,11] []
def z100r28:IC:=.reg [⟨some 137, none,.mv (.t 19)⟩,⟨some 138, none,.mv (.t 20)⟩,⟨some 139, none,.bin .geq (.t 137) (.t 138)⟩,⟨some 10, none,.asg (.t 139)⟩] [0,1,2,3,4,10,11,16] []
def z100r29:IC:=.reg [⟨some 140, none,.mv (.t 0)⟩,⟨some 141, none,.mv (.t 16)⟩,⟨some 142, none,.bin .add (.t 141) (.c (vi 1))⟩,⟨some 143, none,.mv (.t 2)⟩,⟨some 144, none,.mv (.t 3)⟩,⟨some 145, none,.mv (.t 4)⟩,⟨some 146, none,.call zl100 [(.ld,(.t 140)),(.val,(.t 142)),(.val,(.t 143)),(.val,(.t 144)),(.val,(.t 145))] false⟩] [0,1,3,4,10,11,16] []
def z100r30:IC:=.reg [⟨some 147, none,.mv (.t 16)⟩,⟨some 2, none,.asgm (.t 147)⟩] [0,1,2,3,4,10,11] []
def z100l31:IC:=(.block 1 (.seq z100r2 (.seq (.seq z100r3 (.cond (.t 25) (.seq z100r4 .ret) .skip)) (.seq (.seq z100r5 (.cond (.t 32) (.seq z100r6 .ret) .skip)) (.seq (.seq z100r7 (.cond (.t 39) (.seq z100r8 z100r9) .skip)) (.seq z100r10 (.seq (.seq z100r11 (.cond (.t 56) (.seq z100r12 (.seq z100r13 z100r14)) .skip)) (.seq (.seq z100r15 (.cond (.t 75) (.seq z100r16 (.cond (.t 80) .ret .skip)) .skip)) (.seq (.seq z100r17 (.cond (.t 97) (.seq z100r18 (.seq z100r19 (.exit 1))) .skip)) (.seq z100r20 (.seq z100r21 (.seq z100r22 (.seq z100r23 (.seq z100r24 (.cond (.t 125) (.seq z100r25 (.seq z100r26 z100r27)) (.seq z100r28 (.seq z100r29 z100r30)))))))))))))))))
def zi100:IFun:=⟨[],[0],(.seq z100r0 (.seq z100r1 (.block 0 (.loop z100l31))))⟩
def z101r0:IC:=.reg [⟨some 8, none,.asg (.c (.bool true))⟩] [0,1,2,3,8] []
def z101r1:IC:=.reg [⟨some 9, none,.asg (.c (.bool true))⟩] [0,1,2,3,8,9] []
def z101r2:IC:=.reg [⟨some 19, none,.mv (.t 2)⟩,⟨some 20, none,.mv (.t 1)⟩,⟨some 21, none,.bin .sub (.t 19) (.t 20)⟩,⟨some 10, none,.asg (.t 21)⟩] [0,1,2,3,8,9,10] []
def z101r3:IC:=.reg [⟨some 22, none,.mv (.t 10)⟩,⟨some 23, none,.bin .leq (.t 22) (.c (vi 12))⟩] [0,1,2,3,8,9,10,23] []
def z101r4:IC:=.reg [⟨some 24, none,.mv (.t 0)⟩,⟨some 25, none,.mv (.t 1)⟩,⟨some 26, none,.mv (.t 2)⟩,⟨some 27, none,.call zl86 [(.ld,(.t 24)),(.val,(.t 25)),(.val,(.t 26))] false⟩] [0] []
def z101r5:IC:=.reg [⟨some 28, none,.mv (.t 3)⟩,⟨some 29, none,.bin .eql (.t 28) (.c (vi 0))⟩] [0,1,2,3,8,9,10,29] []
def z101r6:IC:=.reg [⟨some 30, none,.mv (.t 0)⟩,⟨some 31, none,.mv (.t 1)⟩,⟨some 32, none,.mv (.t 2)⟩,⟨some 33, none,.call zl84 [(.ld,(.t 30)),(.val,(.t 31)),(.val,(.t 32))] false⟩] [0] []
def z101r7:IC:=.reg [⟨some 34, none,.mv (.t 8)⟩,⟨some 35, none,.unop .not (.t 34)⟩] [0,1,2,3,8,9,10,35] []
def z101r8:IC:=.reg [⟨some 36, none,.mv (.t 0)⟩,⟨some 37, none,.mv (.t 1)⟩,⟨some 38, none,.mv (.t 2)⟩,⟨some 39, none,.call zl80 [(.ld,(.t 36)),(.val,(.t 37)),(.val,(.t 38))] false⟩] [0,1,2,3,8,9,10] []
def z101r9:IC:=.reg [⟨some 40, none,.mv (.t 3)⟩,⟨some 41, none,.bin .sub (.t 40) (.c (vi 1))⟩,⟨some 3, none,.asg (.t 41)⟩] [0,1,2,3,8,9,10] []
def z101r10:IC:=.reg [⟨some 43, none,.mv (.t 0)⟩,⟨some 44, none,.mv (.t 1)⟩,⟨some 45, none,.mv (.t 2)⟩,⟨some 46, none,.call zl82 [(.rd,(.t 43)),(.val,(.t 44)),(.val,(.t 45))] true⟩,⟨some 42, none,.asg (.t 46)⟩,⟨some 47, none,.extr (.t 42) 0⟩,⟨some 48, none,.extr (.t 42) 1⟩,⟨some 11, none,.asg (.t 47)⟩,⟨some 12, none,.asg (.t 48)⟩] [0,1,2,3,8,9,10,11,12] []
def z101r11:IC:=.reg [⟨some 49, none,.mv (.t 12)⟩,⟨some 50, none,.bin .eql (.t 49) (.c (vi 2))⟩] [0,1,2,3,8,9,10,11,12,50] []
def z101r12:IC:=.reg [⟨some 51, none,.mv (.t 0)⟩,⟨some 52, none,.mv (.t 1)⟩,⟨some 53, none,.mv (.t 2)⟩,⟨some 54, none,.call zl103 [(.ld,(.t 51)),(.val,(.t 52)),(.val,(.t 53))] false⟩] [0,1,2,3,8,9,10,11] []
def z101r13:IC:=.reg [⟨some 55, none,.mv (.t 2)⟩,⟨some 56, none,.bin .sub (.t 55) (.c (vi 1))⟩,⟨some 57, none,.mv (.t 11)⟩,⟨some 58, none,.mv (.t 1)⟩,⟨some 59, none,.bin .sub (.t 57) (.t 58)⟩,⟨some 60, none,.bin .sub (.t 56) (.t 59)⟩,⟨some 11, none,.asg (.t 60)⟩] [0,1,2,3,8,9,10,11] []
def z101r14:IC:=.reg [⟨some 12, none,.asg (.c (vi 1))⟩] [0,1,2,3,8,9,10,11,12] []
def z101r15:IC:=.reg [⟨some 61, none,.mv (.t 8)⟩,⟨some 62, none,.asg (.t 61)⟩,⟨some 63, (some (62,true)),.mv (.t 9)⟩,⟨some 64, none,.pick (.t 62) (.t 63) (.c (.bool false))⟩,⟨some 65, none,.asg (.t 64)⟩,⟨some 66, (some (65,true)),.mv (.t 12)⟩,⟨some 67, (some (65,true)),.bin .eql (.t 66) (.c (vi 1))⟩,⟨some 68, none,.pick (.t 65) (.t 67) (.c (.bool false))⟩] [0,1,2,3,8,9,10,11,68] []
def z101r16:IC:=.reg [⟨some 69, none,.mv (.t 0)⟩,⟨some 70, none,.mv (.t 1)⟩,⟨some 71, none,.mv (.t 2)⟩,⟨some 72, none,.call zl95 [(.ld,(.t 69)),(.val,(.t 70)),(.val,(.t 71))] false⟩] [0,1,2,3,8,9,10,11,72] []
def z101r17:IC:=.reg [⟨some 73, none,.mv (.t 1)⟩,⟨some 74, none,.bin .gtr (.t 73) (.c (vi 0))⟩,⟨some 75, none,.asg (.t 74)⟩,⟨some 76, (some (75,true)),.mv (.t 0)⟩,⟨some 77, (some (75,true)),.mv (.t 1)⟩,⟨some 78, (some (75,true)),.bin .sub (.t 77) (.c (vi 1))⟩,⟨some 79, (some (75,true)),.iadr 1 (.t 76) (.t 78)⟩,⟨some 80, (some (75,true)),.load false 1 (.t 79)⟩,⟨some 81, (some (75,true)),.mv (.t 0)⟩,⟨some 82, (some (75,true)),.mv (.t 11)⟩,⟨some 83, (some (75,true)),.iadr 1 (.t 81) (.t 82)⟩,⟨some 84, (some (75,true)),.load false 1 (.t 83)⟩,⟨some 85, (some (75,true)),.call zl2 [(.val,(.t 80)),(.val,(.t 84))] true⟩,⟨some 86, (some (75,true)),.unop .not (.t 85)⟩,⟨some 87, none,.pick (.t 75) (.t 86) (.c (.bool false))⟩] [0,1,2,3,8,9,10,11,87] []
def z101r18:IC:=.reg [⟨some 88, none,.mv (.t 0)⟩,⟨some 89, none,.mv (.t 1)⟩,⟨some 90, none,.mv (.t 2)⟩,⟨some 91, none,.mv (.t 11)⟩,⟨some 92, none,.call zl98 [(.ld,(.t 88)),(.val,(.t 89)),(.val,(.t 90)),(.val,(.t 91))] false⟩,⟨some 13, none,.asg (.t 92)⟩] [0,2,3,8,9,13] []
def z101r19:IC:=.reg [⟨some 93, none,.mv (.t 13)⟩,⟨some 1, none,.asgm (.t 93)⟩] [0,1,2,3,8,9] []
def z101r20:IC:=.reg [⟨some 95, none,.mv (.t 0)⟩,⟨some 96, none,.mv (.t 1)⟩,⟨some 97, none,.mv (.t 2)⟩,⟨some 98, none,.mv (.t 11)⟩,⟨some 99, none,.call zl99 [(.ld,(.t 95)),(.val,(.t 96)),(.val,(.t 97)),(.val,(.t 98))] false⟩,⟨some 94, none,.asg (.t 99)⟩,⟨some 100, none,.extr (.t 94) 0⟩,⟨some 101, none,.extr (.t 94) 1⟩,⟨some 14, none,.asg (.t 100)⟩,⟨some 15, none,.asg (.t 101)⟩] [0,1,2,3,10,14,15] []
def z101r21:IC:=.reg [⟨some 102, none,.mv (.t 15)⟩,⟨some 9, none,.asgm (.t 102)⟩] [0,1,2,3,9,10,14] []
def z101r22:IC:=.reg [⟨some 103, none,.mv (.t 14)⟩,⟨some 104, none,.mv (.t 1)⟩,⟨some 105, none,.bin .sub (.t 103) (.t 104)⟩,⟨some 106, none,.mv (.t 2)⟩,⟨some 107, none,.mv (.t 14)⟩,⟨some 108, none,.bin .sub (.t 106) (.t 107)⟩,⟨some 16, none,.asg (.t 105)⟩,⟨some 17, none,.asg (.t 108)⟩] [0,1,2,3,9,10,14,16,17] []
def z101r23:IC:=.reg [⟨some 109, none,.mv (.t 10)⟩,⟨some 110, none,.bin .quo (.t 109) (.c (vi 8))⟩,⟨some 18, none,.asg (.t 110)⟩] [0,1,2,3,9,14,16,17,18] []
def z101r24:IC:=.reg [⟨some 111, none,.mv (.t 16)⟩,⟨some 112, none,.mv (.t 17)⟩,⟨some 113, none,.bin .lss (.t 111) (.t 112)⟩] [0,1,2,3,9,14,16,17,18,113] []
def z101r25:IC:=.reg [⟨some 114, none,.mv (.t 16)⟩,⟨some 115, none,.mv (.t 18)⟩,⟨some 116, none,.bin .geq (.t 114) (.t 115)⟩,⟨some 8, none,.asg (.t 116)⟩] [0,1,2,3,8,9,14] []
def z101r26:IC:=.reg [⟨some 117, none,.mv (.t 0)⟩,⟨some 118, none,.mv (.t 1)⟩,⟨some 119, none,.mv (.t 14)⟩,⟨some 120, none,.mv (.t 3)⟩,⟨some 121, none,.call zl101 [(.ld,(.t 117)),(.val,(.t 118)),(.val,(.t 119)),(.val,(.t 120))] false⟩] [0,2,3,8,9,14] []
def z101r27:IC:=.reg [⟨some 122, none,.mv (.t 14)⟩,⟨some 123, none,.bin .add (.t 122) (.c (vi 1))⟩,⟨some 1, none,.asg (.t 123)⟩] [0,1,2,3,8,9] []
def z101r28:IC:=.reg [⟨some 124, none,.mv (.t 17)⟩,⟨some 125, none,.mv (.t 18)⟩,⟨some 126, none,.bin .geq (.t 124) (.t 125)⟩,⟨some 8, none,.asg (.t 126)⟩] [0,1,2,3,8,9,14] []
def z101r29:IC:=.reg [⟨some 127, none,.mv (.t 0)⟩,⟨some 128, none,.mv (.t 14)⟩,⟨some 129, none,.bin .add (.t 128) (.c (vi 1))⟩,⟨some 130, none,.mv (.t 2)⟩,⟨some 131, none,.mv (.t 3)⟩,⟨some 132, none,.call zl101 [(.ld,(.t 127)),(.val,(.t 129)),(.val,(.t 130)),(.val,(.t 131))] false⟩] [0,1,3,8,9,14] []
def z101r30:IC:=.reg [⟨some 133, none,.mv (.t 14)⟩,⟨some 2, none,.asgm (.t 133)⟩] [0,1,2,3,8,9] []
def z101l31:IC:=(.block 1 (.seq z101r2 (.seq (.seq z101r3 (.cond (.t 23) (.seq z101r4 .ret) .skip)) (.seq (.seq z101r5 (.cond (.t 29) (.seq z101r6 .ret) .skip)) (.seq (.seq z101r7 (.cond (.t 35) (.seq z101r8 z101r9) .skip)) (.seq z101r10 (.seq (.seq z101r11 (.cond (.t 50) (.seq z101r12 (.seq z101r13 z101r14)) .skip)) (.seq (.seq z101r15 (.cond (.t 68) (.seq z101r16 (.cond (.t 72) .ret .skip)) .skip)) (.seq (.seq z101r17 (.cond (.t 87) (.seq z101r18 (.seq z101r19 (.exit 1))) .skip)) (.seq z101r20 (.seq z101r21 (.seq z101r22 (.seq z101r23 (.seq z101r24 (.cond (.t 113) (.seq z101r25 (.seq z101r26 z101r27)) (.seq z101r28 (.seq z101r29 z101r30)))))))))))))))))
def zi101:IFun:=⟨[],[0],(.seq z101r0 (.seq z101r1 (.block 0 (.loop z101l31))))⟩
def z564r0:IC:=.reg [⟨some 2, none,.alloc [(vi 0),(.slice none 0 0)]⟩] [0,2] []
def z564r1:IC:=.reg [⟨some 3, none,.mv (.t 0)⟩,⟨some 4, none,.call zl137 [(.rd,(.t 3))] false⟩,⟨some 5, none,.call zl378 [(.val,(.t 4))] false⟩,⟨none,none,.storef 2 (.t 2) (.t 5)⟩] [2] []
def zi564:IFun:=⟨[.c 2 2 true],[],(.seq z564r0 (.seq z564r1 .ret))⟩
def z322r0:IC:=.reg [⟨some 1, none,.box (.t 0)⟩,⟨some 2, none,.asg (.c (.slice none 0 0))⟩] [1] []
def z322r1:IC:=.reg [⟨some 8, none,.load true 2 (.t 1)⟩,⟨some 9, none,.call zl145 [(.rd,(.t 8))] true⟩,⟨some 10, none,.unop .not (.t 9)⟩] [1,10] []
def z322r2:IC:=.reg [⟨some 2, none,.asg (.c (.slice none 0 0))⟩] [2,4] []
def z322r3:IC:=.reg [⟨some 11, none,.load true 2 (.t 1)⟩,⟨some 12, none,.call zl134 [(.rd,(.t 11))] true⟩,⟨some 3, none,.asg (.t 12)⟩] [1,3] []
def z322r4:IC:=.reg [⟨some 13, none,.bsl 1 [(vi 0)] 0 []⟩,⟨some 4, none,.asg (.t 13)⟩] [1,3,4] []
def z322r5:IC:=.reg [⟨some 14, none,.fadr 0 (.t 1)⟩,⟨some 15, none,.load false 1 (.t 14)⟩,⟨some 16, none,.bin .sub (.t 15) (.c (vi 1))⟩,⟨some 5, none,.asg (.t 16)⟩] [3,4,5] []
def z322r6:IC:=.reg [⟨some 17, none,.mv (.t 5)⟩,⟨some 18, none,.bin .gtr (.t 17) (.c (vi 0))⟩] [3,4,5,18] []
def z322r7:IC:=.reg [⟨some 6, none,.asg (.c (vi 0))⟩] [3,4,5,6] []
def z322r8:IC:=.reg [⟨some 7, none,.asg (.c (vi 0))⟩] [3,4,5,6,7] []
def z322r9:IC:=.reg [⟨some 21, none,.mv (.t 7)⟩,⟨some 22, none,.mv (.t 3)⟩,⟨some 23, none,.len (.t 22)⟩,⟨some 24, none,.bin .lss (.t 21) (.t 23)⟩] [3,4,5,6,7,24] []
def z322r10:IC:=.reg [⟨some 27, none,.mv (.t 3)⟩,⟨some 28, none,.mv (.t 7)⟩,⟨some 29, none,.iadr 3 (.t 27) (.t 28)⟩,⟨some 30, none,.fadr 0 (.t 29)⟩,⟨some 31, none,.load false 1 (.t 30)⟩,⟨some 32, none,.mv (.t 5)⟩,⟨some 33, none,.bin .eql (.t 31) (.t 32)⟩] [3,4,5,6,7,33] []
def z322r11:IC:=.reg [⟨some 34, none,.mv (.t 6)⟩,⟨some 35, none,.mv (.t 3)⟩,⟨some 36, none,.mv (.t 7)⟩,⟨some 37, none,.iadr 3 (.t 35) (.t 36)⟩,⟨some 38, none,.fadr 2 (.t 37)⟩,⟨some 39, none,.load false 1 (.t 38)⟩,⟨some 40, none,.bin .add (.t 34) (.t 39)⟩,⟨some 6, none,.asg (.t 40)⟩] [3,4,5,6,7] []
def z322r12:IC:=.reg [⟨some 41, none,.mv (.t 3)⟩,⟨some 42, none,.mv (.t 7)⟩,⟨some 43, none,.iadr 3 (.t 41) (.t 42)⟩,⟨some 44, none,.fadr 1 (.t 43)⟩,⟨some 45, none,.load false 1 (.t 44)⟩,⟨some 46, none,.mv (.t 5)⟩,⟨some 47, none,.bin .eql (.t 45) (.t 46)⟩] [3,4,5,6,7,47] []
def z322r13:IC:=.reg [⟨some 48, none,.mv (.t 6)⟩,⟨some 49, none,.mv (.t 3)⟩,⟨some 50, none,.mv (.t 7)⟩,⟨some 51, none,.iadr 3 (.t 49) (.t 50)⟩,⟨some 52, none,.fadr 2 (.t 51)⟩,⟨some 53, none,.load false 1 (.t 52)⟩,⟨some 54, none,.bin .add (.t 48) (.t 53)⟩,⟨some 6, none,.asg (.t 54)⟩] [3,4,5,6,7] []
def z322r14:IC:=.reg [⟨some 25, none,.mv (.t 7)⟩,⟨some 26, none,.bin .add (.t 25) (.c (vi 1))⟩,⟨some 7, none,.asg (.t 26)⟩] [3,4,5,6,7] []
def z322l15:IC:=(.seq (.seq z322r9 (.cond (.t 24) .skip (.exit 2))) (.seq (.block 3 (.seq (.seq z322r10 (.cond (.t 33) z322r11 .skip)) (.seq z322r12 (.cond (.t 47) z322r13 .skip)))) z322r14))
def z322r16:IC:=.reg [⟨some 55, none,.mv (.t 6)⟩,⟨some 56, none,.bin .gtr (.t 55) (.c (vi 0))⟩] [3,4,5,6,56] []
def z322r17:IC:=.reg [⟨some 60, none,.mv (.t 4)⟩,⟨some 61, none,.mv (.t 5)⟩,⟨some 62, none,.bsl 1 [(vi 0)] 1 [(0,(.t 61))]⟩,⟨some 63, none,.app 1 (.t 60) (.t 62)⟩,⟨some 4, none,.asg (.t 63)⟩] [3,4,5,6] []
def z322r18:IC:=.reg [⟨some 57, none,.mv (.t 6)⟩,⟨some 58, none,.mv (.t 5)⟩,⟨some 59, none,.bin .sub (.t 57) (.t 58)⟩,⟨some 6, none,.asg (.t 59)⟩] [3,4,5,6] []
def z322l19:IC:=(.seq (.seq z322r16 (.cond (.t 56) .skip (.exit 4))) (.seq (.block 5 z322r17) z322r18))
def z322r20:IC:=.reg [⟨some 19, none,.mv (.t 5)⟩,⟨some 20, none,.bin .sub (.t 19) (.c (vi 1))⟩,⟨some 5, none,.asg (.t 20)⟩] [3,4,5] []
def z322l21:IC:=(.seq (.seq z322r6 (.cond (.t 18) .skip (.exit 0))) (.seq (.block 1 (.seq z322r7 (.seq (.seq z322r8 (.block 2 (.loop z322l15))) (.block 4 (.loop z322l19))))) z322r20))
def z322r22:IC:=.reg [⟨some 64, none,.mv (.t 4)⟩,⟨some 2, none,.asgm (.t 64)⟩] [2,4] []
def zi322:IFun:=⟨[.t 2],[],(.seq z322r0 (.seq (.seq z322r1 (.cond (.t 10) (.seq z322r2 .ret) .skip)) (.seq z322r3 (.seq z322r4 (.seq (.seq z322r5 (.block 0 (.loop z322l21))) (.seq z322r22 .ret))))))⟩
def z118r0:IC:=.reg [⟨some 4, none,.alloc [(vi 0),(.slice none 0 0)]⟩] [0,1,4] []
def z118r1:IC:=.reg [⟨some 9, none,.mv (.t 1)⟩,⟨some 10, none,.bsl 2 [(vi 0),(vi 0)] 0 []⟩,⟨some 11, none,.build [(vi 0),(.slice none 0 0)] [(0,1,(.t 9)),(1,1,(.t 10))]⟩,⟨some 5, none,.alloc [(vi 0),(.slice none 0 0)]⟩,⟨none,none,.store 2 (.t 5) (.t 11)⟩] [0,1,4,5] []
def z118r2:IC:=.reg [⟨some 12, none,.mv (.t 1)⟩,⟨some 13, none,.call zl138 [(.val,(.t 12))] true⟩,⟨some 6, none,.asg (.t 13)⟩] [0,4,5,6] []
def z118r3:IC:=.reg [⟨some 14, none,.mv (.t 0)⟩,⟨some 15, none,.call zl140 [(.val,(.t 14)),(.val,(.c (vi 3)))] false⟩,⟨some 16, none,.bin .add (.c (vi 2)) (.t 15)⟩,⟨some 7, none,.asg (.t 16)⟩] [0,4,5,6,7] []
def z118r4:IC:=.reg [⟨some 8, none,.asg (.c (vi 0))⟩] [0,4,5,6,7,8] []
def z118r5:IC:=.reg [⟨some 17, none,.mv (.t 8)⟩,⟨some 18, none,.mv (.t 6)⟩,⟨some 19, none,.len (.t 18)⟩,⟨some 20, none,.bin .lss (.t 17) (.t 19)⟩] [0,4,5,6,7,8,20] []
def z118r6:IC:=.reg [⟨some 23, none,.mv (.t 0)⟩,⟨some 24, none,.mv (.t 7)⟩,⟨some 25, none,.call zl140 [(.val,(.t 23)),(.val,(.t 24))] false⟩,⟨some 26, none,.bin .eql (.t 25) (.c (vi 0))⟩] [0,4,5,6,7,8,26] []
def z118r7:IC:=.reg [⟨some 27, none,.fadr 1 (.t 5)⟩,⟨some 28, none,.load false 1 (.t 27)⟩,⟨some 29, none,.mv (.t 6)⟩,⟨some 30, none,.mv (.t 8)⟩,⟨some 31, none,.iadr 2 (.t 29) (.t 30)⟩,⟨some 32, none,.load true 2 (.t 31)⟩,⟨some 33, none,.bsl 2 [(vi 0),(vi 0)] 1 [(0,(.t 32))]⟩,⟨some 34, none,.app 2 (.t 28) (.t 33)⟩,⟨some 35, none,.fadr 1 (.t 5)⟩,⟨none,none,.store 1 (.t 35) (.t 34)⟩] [0,4,5,6,7,8] [[0,2,3,4,5,6,1,7,8,9]]
def z118r8:IC:=.reg [⟨some 21, none,.mv (.t 8)⟩,⟨some 22, none,.bin .add (.t 21) (.c (vi 1))⟩,⟨some 8, none,.asg (.t 22)⟩] [0,4,5,6,7,8] []
def z118l9:IC:=(.seq (.seq z118r5 (.cond (.t 20) .skip (.exit 0))) (.seq (.block 1 (.seq z118r6 (.cond (.t 26) z118r7 .skip))) z118r8))
def z118r10:IC:=.reg [⟨some 36, none,.mv (.t 0)⟩,⟨some 37, none,.call zl140 [(.val,(.t 36)),(.val,(.c (vi 4)))] false⟩,⟨some 38, none,.bin .eql (.t 37) (.c (vi 0))⟩] [4,5,38] []
def z118r11:IC:=.reg [⟨some 39, none,.load true 2 (.t 5)⟩,⟨some 40, none,.call zl122 [(.rd,(.t 39))] true⟩,⟨none,none,.store 2 (.t 4) (.t 40)⟩] [4] []
def z118r12:IC:=.reg [⟨some 41, none,.load true 2 (.t 5)⟩,⟨none,none,.store 2 (.t 4) (.t 41)⟩] [4] []
def zi118:IFun:=⟨[.c 4 2 true],[],(.seq z118r0 (.seq z118r1 (.seq z118r2 (.seq z118r3 (.seq (.seq z118r4 (.block 0 (.loop z118l9))) (.seq (.seq z118r10 (.cond (.t 38) (.seq z118r11 .ret) .skip)) (.seq z118r12 .ret)))))))⟩
def z122r0:IC:=.reg [⟨some 1, none,.box (.t 0)⟩,⟨some 2, none,.alloc [(vi 0),(.slice none 0 0)]⟩] [1,2] []
def z122r1:IC:=.reg [⟨some 6, none,.fadr 0 (.t 1)⟩,⟨some 7, none,.load false 1 (.t 6)⟩,⟨some 8, none,.bsl 2 [(vi 0),(vi 0)] 0 []⟩,⟨some 9, none,.build [(vi 0),(.slice none 0 0)] [(0,1,(.t 7)),(1,1,(.t 8))]⟩,⟨some 3, none,.alloc [(vi 0),(.slice none 0 0)]⟩,⟨none,none,.store 2 (.t 3) (.t 9)⟩] [1,2,3] []
def z122r2:IC:=.reg [⟨some 10, none,.fadr 0 (.t 1)⟩,⟨some 11, none,.load false 1 (.t 10)⟩,⟨some 12, none,.call zl138 [(.val,(.t 11))] true⟩,⟨some 4, none,.asg (.t 12)⟩] [1,2,3,4] []
def z122r3:IC:=.reg [⟨some 5, none,.asg (.c (vi 0))⟩] [1,2,3,4,5] []
def z122r4:IC:=.reg [⟨some 13, none,.mv (.t 5)⟩,⟨some 14, none,.mv (.t 4)⟩,⟨some 15, none,.len (.t 14)⟩,⟨some 16, none,.bin .lss (.t 13) (.t 15)⟩] [1,2,3,4,5,16] []
def z122r5:IC:=.reg [⟨some 19, none,.load true 2 (.t 1)⟩,⟨some 20, none,.mv (.t 4)⟩,⟨some 21, none,.mv (.t 5)⟩,⟨some 22, none,.iadr 2 (.t 20) (.t 21)⟩,⟨some 23, none,.fadr 0 (.t 22)⟩,⟨some 24, none,.load false 1 (.t 23)⟩,⟨some 25, none,.mv (.t 4)⟩,⟨some 26, none,.mv (.t 5)⟩,⟨some 27, none,.iadr 2 (.t 25) (.t 26)⟩,⟨some 28, none,.fadr 1 (.t 27)⟩,⟨some 29, none,.load false 1 (.t 28)⟩,⟨some 30, none,.call zl130 [(.rd,(.t 19)),(.val,(.t 24)),(.val,(.t 29))] true⟩,⟨some 31, none,.unop .not (.t 30)⟩] [1,2,3,4,5,31] []
def z122r6:IC:=.reg [⟨some 32, none,.fadr 1 (.t 3)⟩,⟨some 33, none,.load false 1 (.t 32)⟩,⟨some 34, none,.mv (.t 4)⟩,⟨some 35, none,.mv (.t 5)⟩,⟨some 36, none,.iadr 2 (.t 34) (.t 35)⟩,⟨some 37, none,.load true 2 (.t 36)⟩,⟨some 38, none,.bsl 2 [(vi 0),(vi 0)] 1 [(0,(.t 37))]⟩,⟨some 39, none,.app 2 (.t 33) (.t 38)⟩,⟨some 40, none,.fadr 1 (.t 3)⟩,⟨none,none,.store 1 (.t 40) (.t 39)⟩] [1,2,3,4,5] [[0,2,3,4,5,6,1,7,8,9]]
def z122r7:IC:=.reg [⟨some 17, none,.mv (.t 5)⟩,⟨some 18, none,.bin .add (.t 17) (.c (vi 1))⟩,⟨some 5, none,.asg (.t 18)⟩] [1,2,3,4,5] []
def z122l8:IC:=(.seq (.seq z122r4 (.cond (.t 16) .skip (.exit 0))) (.seq (.block 1 (.seq z122r5 (.cond (.t 31) z122r6 .skip))) z122r7))
def z122r9:IC:=.reg [⟨some 41, none,.load true 2 (.t 3)⟩,⟨none,none,.store 2 (.t 2) (.t 41)⟩] [2] []
def zi122:IFun:=⟨[.c 2 2 true],[],(.seq z122r0 (.seq z122r1 (.seq z122r2 (.seq (.seq z122r3 (.block 0 (.loop z122l8))) (.seq z122r9 .ret)))))⟩
def z125r0:IC:=.reg [⟨some 1, none,.box (.t 0)⟩,⟨some 2, none,.asg (.c (.slice none 0 0))⟩] [1] []
def z125r1:IC:=.reg [⟨some 5, none,.fadr 0 (.t 1)⟩,⟨some 6, none,.load false 1 (.t 5)⟩,⟨some 7, none,.mksl 1 [(vi 0)] (.t 6) (.t 6)⟩,⟨some 3, none,.asg (.t 7)⟩] [1,3] []
def z125r2:IC:=.reg [⟨some 4, none,.asg (.c (vi 0))⟩] [1,3,4] []
def z125r3:IC:=.reg [⟨some 8, none,.mv (.t 4)⟩,⟨some 9, none,.fadr 1 (.t 1)⟩,⟨some 10, none,.load false 1 (.t 9)⟩,⟨some 11, none,.len (.t 10)⟩,⟨some 12, none,.bin .lss (.t 8) (.t 11)⟩] [1,3,4,12] []
def z125r4:IC:=.reg [⟨some 15, none,.mv (.t 3)⟩,⟨some 16, none,.fadr 1 (.t 1)⟩,⟨some 17, none,.load false 1 (.t 16)⟩,⟨some 18, none,.mv (.t 4)⟩,⟨some 19, none,.iadr 2 (.t 17) (.t 18)⟩,⟨some 20, none,.fadr 0 (.t 19)⟩,⟨some 21, none,.load false 1 (.t 20)⟩,⟨some 22, none,.mv (.t 3)⟩,⟨some 23, none,.fadr 1 (.t 1)⟩,⟨some 24, none,.load false 1 (.t 23)⟩,⟨some 25, none,.mv (.t 4)⟩,⟨some 26, none,.iadr 2 (.t 24) (.t 25)⟩,⟨some 27, none,.fadr 0 (.t 26)⟩,⟨some 28, none,.load false 1 (.t 27)⟩,⟨some 29, none,.iadr 1 (.t 22) (.t 28)⟩,⟨some 30, none,.load false 1 (.t 29)⟩,⟨some 31, none,.bin .add (.t 30) (.c (vi 1))⟩,⟨some 32, none,.iadr 1 (.t 15) (.t 21)⟩,⟨none,none,.store 1 (.t 32) (.t 31)⟩] [1,3,4] []
def z125r5:IC:=.reg [⟨some 33, none,.mv (.t 3)⟩,⟨some 34, none,.fadr 1 (.t 1)⟩,⟨some 35, none,.load false 1 (.t 34)⟩,⟨some 36, none,.mv (.t 4)⟩,⟨some 37, none,.iadr 2 (.t 35) (.t 36)⟩,⟨some 38, none,.fadr 1 (.t 37)⟩,⟨some 39, none,.load false 1 (.t 38)⟩,⟨some 40, none,.mv (.t 3)⟩,⟨some 41, none,.fadr 1 (.t 1)⟩,⟨some 42, none,.load false 1 (.t 41)⟩,⟨some 43, none,.mv (.t 4)⟩,⟨some 44, none,.iadr 2 (.t 42) (.t 43)⟩,⟨some 45, none,.fadr 1 (.t 44)⟩,⟨some 46, none,.load false 1 (.t 45)⟩,⟨some 47, none,.iadr 1 (.t 40) (.t 46)⟩,⟨some 48, none,.load false 1 (.t 47)⟩,⟨some 49, none,.bin .add (.t 48) (.c (vi 1))⟩,⟨some 50, none,.iadr 1 (.t 33) (.t 39)⟩,⟨none,none,.store 1 (.t 50) (.t 49)⟩] [1,3,4] []
def z125r6:IC:=.reg [⟨some 13, none,.mv (.t 4)⟩,⟨some 14, none,.bin .add (.t 13) (.c (vi 1))⟩,⟨some 4, none,.asg (.t 14)⟩] [1,3,4] []
def z125l7:IC:=(.seq (.seq z125r3 (.cond (.t 12) .skip (.exit 0))) (.seq (.block 1 (.seq z125r4 z125r5)) z125r6))
def z125r8:IC:=.reg [⟨some 51, none,.mv (.t 3)⟩,⟨some 2, none,.asgm (.t 51)⟩] [2,3] []
def zi125:IFun:=⟨[.t 2],[],(.seq z125r0 (.seq z125r1 (.seq (.seq z125r2 (.block 0 (.loop z125l7))) (.seq z125r8 .ret))))⟩
def z126r0:IC:=.reg [⟨some 2, none,.box (.t 0)⟩,⟨some 3, none,.box (.t 1)⟩,⟨some 4, none,.asg (.c (.bool false))⟩] [2,3] []
def z126r1:IC:=.reg [⟨some 5, none,.fadr 0 (.t 2)⟩,⟨some 6, none,.load false 1 (.t 5)⟩,⟨some 7, none,.fadr 0 (.t 3)⟩,⟨some 8, none,.load false 1 (.t 7)⟩,⟨some 9, none,.bin .lss (.t 6) (.t 8)⟩,⟨some 10, none,.asg (.t 9)⟩,⟨some 11, (some (10,false)),.fadr 0 (.t 2)⟩,⟨some 12, (some (10,false)),.load false 1 (.t 11)⟩,⟨some 13, (some (10,false)),.fadr 0 (.t 3)⟩,⟨some 14, (some (10,false)),.load false 1 (.t 13)⟩,⟨some 15, (some (10,false)),.bin .eql (.t 12) (.t 14)⟩,⟨some 16, (some (10,false)),.asg (.t 15)⟩,⟨some 17, (some (16,true)),.fadr 1 (.t 2)⟩,⟨some 18, (some (16,true)),.load false 1 (.t 17)⟩,⟨some 19, (some (16,true)),.fadr 1 (.t 3)⟩,⟨some 20, (some (16,true)),.load false 1 (.t 19)⟩,⟨some 21, (some (16,true)),.bin .lss (.t 18) (.t 20)⟩,⟨some 22, (some (10,false)),.pick (.t 16) (.t 21) (.c (.bool false))⟩,⟨some 23, none,.pick (.t 10) (.c (.bool true)) (.t 22)⟩,
    ⟨some 4, none,.asg (.t 23)⟩] [4] []
def zi126:IFun:=⟨[.t 4],[],(.seq z126r0 (.seq z126r1 .ret))⟩
def z129r0:IC:=.reg [⟨some 2, none,.alloc [(vi 0),(.slice none 0 0)]⟩] [0,2] []
def z129r1:IC:=.reg [⟨some 3, none,.mv (.t 0)⟩,⟨some 4, none,.mv (.t 0)⟩,⟨some 5, none,.bsl 1 [(vi 0)] 9 [(0,(.c (vi 5))),(1,(.c (vi 4))),(2,(.c (vi 6))),(3,(.c (vi 3))),(4,(.c (vi 5))),(5,(.c (vi 2))),(6,(.c (vi 7))),(7,(.c (vi 1))),(8,(.c (vi 0)))]⟩,⟨some 6, none,.call zl139 [(.val,(.t 4)),(.rd,(.t 5))] false⟩,⟨some 7, none,.call zl118 [(.val,(.t 3)),(.val,(.t 6))] false⟩,⟨none,none,.store 2 (.t 2) (.t 7)⟩] [2] []
def zi129:IFun:=⟨[.c 2 2 true],[],(.seq z129r0 (.seq z129r1 .ret))⟩
def z130r0:IC:=.reg [⟨some 3, none,.box (.t 0)⟩,⟨some 6, none,.asg (.c (.bool false))⟩] [1,2,3] []
def z130r1:IC:=.reg [⟨some 7, none,.asg (.c (vi 0))⟩] [1,2,3,7] []
def z130r2:IC:=.reg [⟨some 9, none,.mv (.t 7)⟩,⟨some 10, none,.fadr 1 (.t 3)⟩,⟨some 11, none,.load false 1 (.t 10)⟩,⟨some 12, none,.len (.t 11)⟩,⟨some 13, none,.bin .lss (.t 9) (.t 12)⟩] [1,2,3,7,13] []
def z130r3:IC:=.reg [⟨some 16, none,.fadr 1 (.t 3)⟩,⟨some 17, none,.load false 1 (.t 16)⟩,⟨some 18, none,.mv (.t 7)⟩,⟨some 19, none,.iadr 2 (.t 17) (.t 18)⟩,⟨some 20, none,.load true 2 (.t 19)⟩,⟨some 8, none,.alloc [(vi 0),(vi 0)]⟩,⟨none,none,.store 2 (.t 8) (.t 20)⟩] [1,2,3,7,8] []
def z130r4:IC:=.reg [⟨some 21, none,.fadr 0 (.t 8)⟩,⟨some 22, none,.load false 1 (.t 21)⟩,⟨some 23, none,.mv (.t 1)⟩,⟨some 24, none,.bin .eql (.t 22) (.t 23)⟩,⟨some 25, none,.asg (.t 24)⟩,⟨some 26, (some (25,true)),.fadr 1 (.t 8)⟩,⟨some 27, (some (25,true)),.load false 1 (.t 26)⟩,⟨some 28, (some (25,true)),.mv (.t 2)⟩,⟨some 29, (some (25,true)),.bin .eql (.t 27) (.t 28)⟩,⟨some 30, none,.pick (.t 25) (.t 29) (.c (.bool false))⟩,⟨some 31, none,.asg (.t 30)⟩,⟨some 32, (some (31,false)),.fadr 0 (.t 8)⟩,⟨some 33, (some (31,false)),.load false 1 (.t 32)⟩,⟨some 34, (some (31,false)),.mv (.t 2)⟩,⟨some 35, (some (31,false)),.bin .eql (.t 33) (.t 34)⟩,⟨some 36, (some (31,false)),.asg (.t 35)⟩,⟨some 37, (some (36,true)),.fadr 1 (.t 8)⟩,⟨some 38, (some (36,true)),.load false 1 (.t 37)⟩,⟨some 39, (some (36,true)),.mv (.t 1)⟩,⟨some 40, (some (36,true)),.bin .eql (.t 38) (.t 39)⟩,
    ⟨some 41, (some (31,false)),.pick (.t 36) (.t 40) (.c (.bool false))⟩,⟨some 42, none,.pick (.t 31) (.c (.bool true)) (.t 41)⟩] [1,2,3,7,42] []
def z130r5:IC:=.reg [⟨some 6, none,.asg (.c (.bool true))⟩] [6] []
def z130r6:IC:=.reg [⟨some 14, none,.mv (.t 7)⟩,⟨some 15, none,.bin .add (.t 14) (.c (vi 1))⟩,⟨some 7, none,.asg (.t 15)⟩] [1,2,3,7] []
def z130l7:IC:=(.seq (.seq z130r2 (.cond (.t 13) .skip (.exit 0))) (.seq (.block 1 (.seq z130r3 (.seq z130r4 (.cond (.t 42) (.seq z130r5 .ret) .skip)))) z130r6))
def z130r8:IC:=.reg [⟨some 6, none,.asg (.c (.bool false))⟩] [6] []
def zi130:IFun:=⟨[.t 6],[],(.seq z130r0 (.seq (.seq z130r1 (.block 0 (.loop z130l7))) (.seq z130r8 .ret)))⟩
def z132r0:IC:=.reg [⟨some 6, none,.asg (.c (.bool false))⟩] [0,1,2] []
def z132r1:IC:=.reg [⟨some 7, none,.mv (.t 1)⟩,⟨some 8, none,.mv (.t 0)⟩,⟨some 9, none,.bin .leq (.t 7) (.t 8)⟩,⟨some 10, none,.asg (.t 9)⟩,⟨some 11, (some (10,true)),.mv (.t 0)⟩,⟨some 12, (some (10,true)),.mv (.t 2)⟩,⟨some 13, (some (10,true)),.bin .leq (.t 11) (.t 12)⟩,⟨some 14, none,.pick (.t 10) (.t 13) (.c (.bool false))⟩,⟨some 6, none,.asg (.t 14)⟩] [6] []
def zi132:IFun:=⟨[.t 6],[],(.seq z132r0 (.seq z132r1 .ret))⟩
def z133r0:IC:=.reg [⟨some 4, none,.box (.t 0)⟩,⟨some 8, none,.asg (.c (vi 0))⟩] [1,2,3,4] []
def z133r1:IC:=.reg [⟨some 9, none,.asg (.c (vi 0))⟩] [1,2,3,4,9] []
def z133r2:IC:=.reg [⟨some 10, none,.asg (.c (vi 0))⟩] [1,2,3,4,9,10] []
def z133r3:IC:=.reg [⟨some 13, none,.mv (.t 10)⟩,⟨some 14, none,.fadr 1 (.t 4)⟩,⟨some 15, none,.load false 1 (.t 14)⟩,⟨some 16, none,.len (.t 15)⟩,⟨some 17, none,.bin .lss (.t 13) (.t 16)⟩] [1,2,3,4,9,10,17] []
def z133r4:IC:=.reg [⟨some 20, none,.mv (.t 1)⟩,⟨some 21, none,.fadr 1 (.t 4)⟩,⟨some 22, none,.load false 1 (.t 21)⟩,⟨some 23, none,.mv (.t 10)⟩,⟨some 24, none,.iadr 2 (.t 22) (.t 23)⟩,⟨some 25, none,.fadr 0 (.t 24)⟩,⟨some 26, none,.load false 1 (.t 25)⟩,⟨some 27, none,.iadr 1 (.t 20) (.t 26)⟩,⟨some 28, none,.load false 1 (.t 27)⟩,⟨some 11, none,.asg (.t 28)⟩] [1,2,3,4,9,10,11] []
def z133r5:IC:=.reg [⟨some 29, none,.mv (.t 1)⟩,⟨some 30, none,.fadr 1 (.t 4)⟩,⟨some 31, none,.load false 1 (.t 30)⟩,⟨some 32, none,.mv (.t 10)⟩,⟨some 33, none,.iadr 2 (.t 31) (.t 32)⟩,⟨some 34, none,.fadr 1 (.t 33)⟩,⟨some 35, none,.load false 1 (.t 34)⟩,⟨some 36, none,.iadr 1 (.t 29) (.t 35)⟩,⟨some 37, none,.load false 1 (.t 36)⟩,⟨some 12, none,.asg (.t 37)⟩] [1,2,3,4,9,10,11,12] []
def z133r6:IC:=.reg [⟨some 38, none,.mv (.t 11)⟩,⟨some 39, none,.mv (.t 12)⟩,⟨some 40, none,.minmax true (.t 38) (.t 39)⟩,⟨some 41, none,.mv (.t 2)⟩,⟨some 42, none,.bin .eql (.t 40) (.t 41)⟩,⟨some 43, none,.asg (.t 42)⟩,⟨some 44, (some (43,true)),.mv (.t 11)⟩,⟨some 45, (some (43,true)),.mv (.t 12)⟩,⟨some 46, (some (43,true)),.minmax false (.t 44) (.t 45)⟩,⟨some 47, (some (43,true)),.mv (.t 3)⟩,⟨some 48, (some (43,true)),.bin .eql (.t 46) (.t 47)⟩,⟨some 49, none,.pick (.t 43) (.t 48) (.c (.bool false))⟩] [1,2,3,4,9,10,49] []
def z133r7:IC:=.reg [⟨some 50, none,.mv (.t 9)⟩,⟨some 51, none,.bin .add (.t 50) (.c (vi 1))⟩,⟨some 9, none,.asg (.t 51)⟩] [1,2,3,4,9,10] []
def z133r8:IC:=.reg [⟨some 18, none,.mv (.t 10)⟩,⟨some 19, none,.bin .add (.t 18) (.c (vi 1))⟩,⟨some 10, none,.asg (.t 19)⟩] [1,2,3,4,9,10] []
def z133l9:IC:=(.seq (.seq z133r3 (.cond (.t 17) .skip (.exit 0))) (.seq (.block 1 (.seq z133r4 (.seq z133r5 (.seq z133r6 (.cond (.t 49) z133r7 .skip))))) z133r8))
def z133r10:IC:=.reg [⟨some 52, none,.mv (.t 9)⟩,⟨some 8, none,.asgm (.t 52)⟩] [8] []
def zi133:IFun:=⟨[.t 8],[],(.seq z133r0 (.seq z133r1 (.seq (.seq z133r2 (.block 0 (.loop z133l9))) (.seq z133r10 .ret))))⟩
def z134r0:IC:=.reg [⟨some 1, none,.box (.t 0)⟩,⟨some 2, none,.asg (.c (.slice none 0 0))⟩] [1] []
def z134r1:IC:=.reg [⟨some 8, none,.load true 2 (.t 1)⟩,⟨some 9, none,.call zl125 [(.rd,(.t 8))] true⟩,⟨some 3, none,.asg (.t 9)⟩] [1,3] []
def z134r2:IC:=.reg [⟨some 10, none,.bsl 3 [(vi 0),(vi 0),(vi 0)] 0 []⟩,⟨some 4, none,.asg (.t 10)⟩] [1,3,4] []
def z134r3:IC:=.reg [⟨some 5, none,.asg (.c (vi 1))⟩] [1,3,4,5] []
def z134r4:IC:=.reg [⟨some 11, none,.mv (.t 5)⟩,⟨some 12, none,.fadr 0 (.t 1)⟩,⟨some 13, none,.load false 1 (.t 12)⟩,⟨some 14, none,.bin .lss (.t 11) (.t 13)⟩] [1,3,4,5,14] []
def z134r5:IC:=.reg [⟨some 17, none,.mv (.t 5)⟩,⟨some 6, none,.asg (.t 17)⟩] [1,3,4,5,6] []
def z134r6:IC:=.reg [⟨some 18, none,.mv (.t 6)⟩,⟨some 19, none,.fadr 0 (.t 1)⟩,⟨some 20, none,.load false 1 (.t 19)⟩,⟨some 21, none,.bin .lss (.t 18) (.t 20)⟩] [1,3,4,5,6,21] []
def z134r7:IC:=.reg [⟨some 24, none,.load true 2 (.t 1)⟩,⟨some 25, none,.mv (.t 3)⟩,⟨some 26, none,.mv (.t 5)⟩,⟨some 27, none,.mv (.t 6)⟩,⟨some 28, none,.call zl133 [(.rd,(.t 24)),(.rd,(.t 25)),(.val,(.t 26)),(.val,(.t 27))] true⟩,⟨some 7, none,.asg (.t 28)⟩] [1,3,4,5,6,7] []
def z134r8:IC:=.reg [⟨some 29, none,.mv (.t 7)⟩,⟨some 30, none,.bin .gtr (.t 29) (.c (vi 0))⟩] [1,3,4,5,6,7,30] []
def z134r9:IC:=.reg [⟨some 31, none,.mv (.t 4)⟩,⟨some 32, none,.mv (.t 5)⟩,⟨some 33, none,.mv (.t 6)⟩,⟨some 34, none,.mv (.t 7)⟩,⟨some 35, none,.build [(vi 0),(vi 0),(vi 0)] [(0,1,(.t 32)),(1,1,(.t 33)),(2,1,(.t 34))]⟩,⟨some 36, none,.bsl 3 [(vi 0),(vi 0),(vi 0)] 1 [(0,(.t 35))]⟩,⟨some 37, none,.app 3 (.t 31) (.t 36)⟩,⟨some 4, none,.asg (.t 37)⟩] [1,3,4,5,6] []
def z134r10:IC:=.reg [⟨some 22, none,.mv (.t 6)⟩,⟨some 23, none,.bin .add (.t 22) (.c (vi 1))⟩,⟨some 6, none,.asg (.t 23)⟩] [1,3,4,5,6] []
def z134l11:IC:=(.seq (.seq z134r6 (.cond (.t 21) .skip (.exit 2))) (.seq (.block 3 (.seq z134r7 (.seq z134r8 (.cond (.t 30) z134r9 .skip)))) z134r10))
def z134r12:IC:=.reg [⟨some 15, none,.mv (.t 5)⟩,⟨some 16, none,.bin .add (.t 15) (.c (vi 1))⟩,⟨some 5, none,.asg (.t 16)⟩] [1,3,4,5] []
def z134l13:IC:=(.seq (.seq z134r4 (.cond (.t 14) .skip (.exit 0))) (.seq (.block 1 (.seq z134r5 (.block 2 (.loop z134l11)))) z134r12))
def z134r14:IC:=.reg [⟨some 38, none,.mv (.t 4)⟩,⟨some 2, none,.asgm (.t 38)⟩] [2,4] []
def zi134:IFun:=⟨[.t 2],[],(.seq z134r0 (.seq z134r1 (.seq z134r2 (.seq (.seq z134r3 (.block 0 (.loop z134l13))) (.seq z134r14 .ret)))))⟩
def z137r0:IC:=.reg [⟨some 2, none,.asg (.c (.pointer none))⟩] [0] []
def z137r1:IC:=.reg [⟨some 3, none,.mv (.t 0)⟩,⟨some 4, none,.len (.t 3)⟩,⟨some 5, none,.bin .gtr (.t 4) (.c (vi 2000))⟩] [0,5] []
def z137r2:IC:=.reg [⟨some 6, none,.mv (.t 0)⟩,⟨some 7, none,.slc 1 (.t 6) none (some (.c (vi 2000))) none⟩,⟨some 0, none,.asgm (.t 7)⟩] [0] []
def z137r3:IC:=.reg [⟨some 8, none,.mv (.t 0)⟩,⟨some 9, none,.build [(.slice none 0 0),(vi 0)] [(0,1,(.t 8))]⟩,⟨some 10, none,.box (.t 9)⟩,⟨some 2, none,.asg (.t 10)⟩] [2] []
def zi137:IFun:=⟨[.t 2],[],(.seq z137r0 (.seq (.seq z137r1 (.cond (.t 5) z137r2 .skip)) (.seq z137r3 .ret)))⟩
def z138r0:IC:=.reg [⟨some 2, none,.asg (.c (.slice none 0 0))⟩] [0] []
def z138r1:IC:=.reg [⟨some 6, none,.bsl 2 [(vi 0),(vi 0)] 0 []⟩,⟨some 3, none,.asg (.t 6)⟩] [0,3] []
def z138r2:IC:=.reg [⟨some 4, none,.asg (.c (vi 0))⟩] [0,3,4] []
def z138r3:IC:=.reg [⟨some 7, none,.mv (.t 4)⟩,⟨some 8, none,.mv (.t 0)⟩,⟨some 9, none,.bin .lss (.t 7) (.t 8)⟩] [0,3,4,9] []
def z138r4:IC:=.reg [⟨some 12, none,.mv (.t 4)⟩,⟨some 13, none,.bin .add (.t 12) (.c (vi 1))⟩,⟨some 5, none,.asg (.t 13)⟩] [0,3,4,5] []
def z138r5:IC:=.reg [⟨some 14, none,.mv (.t 5)⟩,⟨some 15, none,.mv (.t 0)⟩,⟨some 16, none,.bin .lss (.t 14) (.t 15)⟩] [0,3,4,5,16] []
def z138r6:IC:=.reg [⟨some 19, none,.mv (.t 3)⟩,⟨some 20, none,.mv (.t 4)⟩,⟨some 21, none,.mv (.t 5)⟩,⟨some 22, none,.build [(vi 0),(vi 0)] [(0,1,(.t 20)),(1,1,(.t 21))]⟩,⟨some 23, none,.bsl 2 [(vi 0),(vi 0)] 1 [(0,(.t 22))]⟩,⟨some 24, none,.app 2 (.t 19) (.t 23)⟩,⟨some 3, none,.asg (.t 24)⟩] [0,3,4,5] []
def z138r7:IC:=.reg [⟨some 17, none,.mv (.t 5)⟩,⟨some 18, none,.bin .add (.t 17) (.c (vi 1))⟩,⟨some 5, none,.asg (.t 18)⟩] [0,3,4,5] []
def z138l8:IC:=(.seq (.seq z138r5 (.cond (.t 16) .skip (.exit 2))) (.seq (.block 3 z138r6) z138r7))
def z138r9:IC:=.reg [⟨some 10, none,.mv (.t 4)⟩,⟨some 11, none,.bin .add (.t 10) (.c (vi 1))⟩,⟨some 4, none,.asg (.t 11)⟩] [0,3,4] []
def z138l10:IC:=(.seq (.seq z138r3 (.cond (.t 9) .skip (.exit 0))) (.seq (.block 1 (.seq z138r4 (.block 2 (.loop z138l8)))) z138r9))
def z138r11:IC:=.reg [⟨some 25, none,.mv (.t 3)⟩,⟨some 2, none,.asgm (.t 25)⟩] [2,3] []
def zi138:IFun:=⟨[.t 2],[],(.seq z138r0 (.seq z138r1 (.seq (.seq z138r2 (.block 0 (.loop z138l10))) (.seq z138r11 .ret))))⟩
def z139r0:IC:=.reg [⟨some 4, none,.asg (.c (vi 0))⟩] [0,1] []
def z139r1:IC:=.reg [⟨some 5, none,.mv (.t 1)⟩,⟨some 6, none,.mv (.t 0)⟩,⟨some 7, none,.mv (.t 1)⟩,⟨some 8, none,.len (.t 7)⟩,⟨some 9, none,.call zl140 [(.val,(.t 6)),(.val,(.t 8))] false⟩,⟨some 10, none,.iadr 1 (.t 5) (.t 9)⟩,⟨some 11, none,.load false 1 (.t 10)⟩,⟨some 4, none,.asg (.t 11)⟩] [4] []
def zi139:IFun:=⟨[.t 4],[],(.seq z139r0 (.seq z139r1 .ret))⟩
def z140r0:IC:=.reg [⟨some 4, none,.asg (.c (vi 0))⟩] [0,1] []
def z140r1:IC:=.reg [⟨some 7, none,.mv (.t 0)⟩,⟨some 8, none,.mv (.t 0)⟩,⟨some 9, none,.nilck (.t 8)⟩,⟨some 10, none,.fadr 1 (.t 9)⟩,⟨some 11, none,.load false 1 (.t 10)⟩,⟨some 12, none,.bin .add (.t 11) (.c (vi 1))⟩,⟨some 13, none,.nilck (.t 7)⟩,⟨some 14, none,.fadr 1 (.t 13)⟩,⟨none,none,.store 1 (.t 14) (.t 12)⟩] [0,1] []
def z140r2:IC:=.reg [⟨some 15, none,.mv (.t 1)⟩,⟨some 16, none,.bin .lss (.t 15) (.c (vi 1))⟩,⟨some 17, none,.asg (.t 16)⟩,⟨some 18, (some (17,false)),.mv (.t 0)⟩,⟨some 19, (some (17,false)),.nilck (.t 18)⟩,⟨some 20, (some (17,false)),.fadr 0 (.t 19)⟩,⟨some 21, (some (17,false)),.load false 1 (.t 20)⟩,⟨some 22, (some (17,false)),.len (.t 21)⟩,⟨some 23, (some (17,false)),.bin .eql (.t 22) (.c (vi 0))⟩,⟨some 24, none,.pick (.t 17) (.c (.bool true)) (.t 23)⟩] [0,1,24] []
def z140r3:IC:=.reg [⟨some 4, none,.asg (.c (vi 0))⟩] [4] []
def z140r4:IC:=.reg [⟨some 25, none,.mv (.t 0)⟩,⟨some 26, none,.nilck (.t 25)⟩,⟨some 27, none,.fadr 1 (.t 26)⟩,⟨some 28, none,.load false 1 (.t 27)⟩,⟨some 29, none,.bin .sub (.t 28) (.c (vi 1))⟩,⟨some 5, none,.asg (.t 29)⟩] [0,1,5] []
def z140r5:IC:=.reg [⟨some 30, none,.mv (.t 5)⟩,⟨some 31, none,.mv (.t 0)⟩,⟨some 32, none,.nilck (.t 31)⟩,⟨some 33, none,.fadr 0 (.t 32)⟩,⟨some 34, none,.load false 1 (.t 33)⟩,⟨some 35, none,.len (.t 34)⟩,⟨some 36, none,.bin .lss (.t 30) (.t 35)⟩] [0,1,5,36] []
def z140r6:IC:=.reg [⟨some 37, none,.mv (.t 0)⟩,⟨some 38, none,.nilck (.t 37)⟩,⟨some 39, none,.fadr 0 (.t 38)⟩,⟨some 40, none,.load false 1 (.t 39)⟩,⟨some 41, none,.mv (.t 5)⟩,⟨some 42, none,.iadr 1 (.t 40) (.t 41)⟩,⟨some 43, none,.load false 1 (.t 42)⟩,⟨some 44, none,.conv .i64 (.t 43)⟩,⟨some 45, none,.mv (.t 1)⟩,⟨some 46, none,.bin .rem (.t 44) (.t 45)⟩,⟨some 4, none,.asg (.t 46)⟩] [4] []
def z140r7:IC:=.reg [⟨some 47, none,.mv (.t 0)⟩,⟨some 48, none,.nilck (.t 47)⟩,⟨some 49, none,.fadr 0 (.t 48)⟩,⟨some 50, none,.load false 1 (.t 49)⟩,⟨some 51, none,.mv (.t 5)⟩,⟨some 52, none,.mv (.t 0)⟩,⟨some 53, none,.nilck (.t 52)⟩,⟨some 54, none,.fadr 0 (.t 53)⟩,⟨some 55, none,.load false 1 (.t 54)⟩,⟨some 56, none,.len (.t 55)⟩,⟨some 57, none,.bin .rem (.t 51) (.t 56)⟩,⟨some 58, none,.iadr 1 (.t 50) (.t 57)⟩,⟨some 59, none,.load false 1 (.t 58)⟩,⟨some 60, none,.conv .i64 (.t 59)⟩,⟨some 61, none,.bin .mul (.t 60) (.c (vi 131))⟩,⟨some 62, none,.mv (.t 0)⟩,⟨some 63, none,.nilck (.t 62)⟩,⟨some 64, none,.fadr 0 (.t 63)⟩,⟨some 65, none,.load false 1 (.t 64)⟩,⟨some 66, none,.mv (.t 5)⟩,⟨some 67, none,.bin .mul (.t 66) (.c (vi 7))⟩,⟨some 68, none,.bin .add (.t 67) (.c (vi 3))⟩,⟨some 69, none,.mv (.t 0)⟩,⟨some 70, none,.nilck (.t 69)⟩,⟨some 71, none,.fadr 0 (.t 70)⟩,
    ⟨some 72, none,.load false 1 (.t 71)⟩,⟨some 73, none,.len (.t 72)⟩,⟨some 74, none,.bin .rem (.t 68) (.t 73)⟩,⟨some 75, none,.iadr 1 (.t 65) (.t 74)⟩,⟨some 76, none,.load false 1 (.t 75)⟩,⟨some 77, none,.conv .i64 (.t 76)⟩,⟨some 78, none,.bin .mul (.t 77) (.c (vi 1117))⟩,⟨some 79, none,.bin .add (.t 61) (.t 78)⟩,⟨some 80, none,.mv (.t 5)⟩,⟨some 81, none,.bin .mul (.t 80) (.c (vi 29))⟩,⟨some 82, none,.bin .add (.t 79) (.t 81)⟩,⟨some 83, none,.mv (.t 5)⟩,⟨some 84, none,.mv (.t 0)⟩,⟨some 85, none,.nilck (.t 84)⟩,⟨some 86, none,.fadr 0 (.t 85)⟩,⟨some 87, none,.load false 1 (.t 86)⟩,⟨some 88, none,.len (.t 87)⟩,⟨some 89, none,.bin .quo (.t 83) (.t 88)⟩,⟨some 90, none,.bin .mul (.t 89) (.c (vi 53))⟩,⟨some 91, none,.bin .add (.t 82) (.t 90)⟩,⟨some 6, none,.asg (.t 91)⟩] [1,6] []
def z140r8:IC:=.reg [⟨some 92, none,.mv (.t 6)⟩,⟨some 93, none,.mv (.t 6)⟩,⟨some 94, none,.bin .quo (.t 93) (.c (vi 64))⟩,⟨some 95, none,.bin .xor (.t 92) (.t 94)⟩,⟨some 6, none,.asg (.t 95)⟩] [1,6] []
def z140r9:IC:=.reg [⟨some 96, none,.mv (.t 6)⟩,⟨some 97, none,.mv (.t 1)⟩,⟨some 98, none,.bin .rem (.t 96) (.t 97)⟩,⟨some 4, none,.asg (.t 98)⟩] [4] []
def zi140:IFun:=⟨[.t 4],[],(.seq z140r0 (.seq z140r1 (.seq (.seq z140r2 (.cond (.t 24) (.seq z140r3 .ret) .skip)) (.seq z140r4 (.seq (.seq z140r5 (.cond (.t 36) (.seq z140r6 .ret) .skip)) (.seq z140r7 (.seq z140r8 (.seq z140r9 .ret))))))))⟩
def z378r0:IC:=.reg [⟨some 2, none,.alloc [(vi 0),(.slice none 0 0)]⟩] [0,2] []
def z378r1:IC:=.reg [⟨some 5, none,.mv (.t 0)⟩,⟨some 6, none,.callh zl129 [(.val,(.t 5))]⟩,⟨some 3, none,.alloc [(vi 0),(.slice none 0 0)]⟩,⟨none,none,.store 2 (.t 3) (.t 6)⟩] [0,2,3] []
def z378r2:IC:=.reg [⟨some 7, none,.fadr 1 (.t 3)⟩,⟨some 8, none,.load false 1 (.t 7)⟩,⟨some 9, none,.len (.t 8)⟩,⟨some 10, none,.bin .gtr (.t 9) (.c (vi 0))⟩] [0,2,3,10] []
def z378r3:IC:=.reg [⟨some 11, none,.mv (.t 0)⟩,⟨some 12, none,.fadr 1 (.t 3)⟩,⟨some 13, none,.load false 1 (.t 12)⟩,⟨some 14, none,.len (.t 13)⟩,⟨some 15, none,.callh zl140 [(.val,(.t 11)),(.val,(.t 14))]⟩,⟨some 4, none,.asg (.t 15)⟩] [0,2,3,4] []
def z378r4:IC:=.reg [⟨some 16, none,.mv (.t 0)⟩,⟨some 17, none,.callh zl140 [(.val,(.t 16)),(.val,(.c (vi 30)))]⟩] [0,2,3,4,17] []
def z378r5:IC:=.reg [⟨some 19, none,.bin .eql (.t 17) (.c (vi 0))⟩,⟨some 18, none,.asg (.t 19)⟩] [0,2,3,4,17,18] []
def z378r6:IC:=.reg [⟨some 20, none,.fadr 1 (.t 3)⟩,⟨some 21, none,.load false 1 (.t 20)⟩,⟨some 22, none,.mv (.t 4)⟩,⟨some 23, none,.mv (.t 0)⟩,⟨some 24, none,.fadr 1 (.t 3)⟩,⟨some 25, none,.load false 1 (.t 24)⟩,⟨some 26, none,.mv (.t 4)⟩,⟨some 27, none,.iadr 2 (.t 25) (.t 26)⟩,⟨some 28, none,.fadr 1 (.t 27)⟩,⟨some 29, none,.load false 1 (.t 28)⟩,⟨some 30, none,.bsl 1 [(vi 0)] 3 [(0,(.c (vi (-1)))),(1,(.c (vi 7))),(2,(.t 29))]⟩,⟨some 31, none,.callh zl139 [(.val,(.t 23)),(.rd,(.t 30))]⟩,⟨some 32, none,.iadr 2 (.t 21) (.t 22)⟩,⟨some 33, none,.fadr 0 (.t 32)⟩,⟨none,none,.store 1 (.t 33) (.t 31)⟩] [2,3] [[0,2,3,4,5,6,7,8,9,10,1,11,12,13,14],[0,2,3,4,5,6,7,8,9,10,11,1,12,13,14]]
def z378r7:IC:=.reg [⟨some 35, none,.bin .eql (.t 17) (.c (vi 1))⟩,⟨some 34, none,.asg (.t 35)⟩] [0,2,3,4,17,34] []
def z378r8:IC:=.reg [⟨some 36, none,.fadr 1 (.t 3)⟩,⟨some 37, none,.load false 1 (.t 36)⟩,⟨some 38, none,.fadr 1 (.t 3)⟩,⟨some 39, none,.load false 1 (.t 38)⟩,⟨some 40, none,.mv (.t 4)⟩,⟨some 41, none,.iadr 2 (.t 39) (.t 40)⟩,⟨some 42, none,.load true 2 (.t 41)⟩,⟨some 43, none,.bsl 2 [(vi 0),(vi 0)] 1 [(0,(.t 42))]⟩,⟨some 44, none,.app 2 (.t 37) (.t 43)⟩,⟨some 45, none,.fadr 1 (.t 3)⟩,⟨none,none,.store 1 (.t 45) (.t 44)⟩] [2,3] [[0,2,3,4,5,6,7,1,8,9,10]]
def z378r9:IC:=.reg [⟨some 47, none,.bin .eql (.t 17) (.c (vi 2))⟩,⟨some 46, none,.asg (.t 47)⟩] [0,2,3,46] []
def z378r10:IC:=.reg [⟨some 48, none,.mv (.t 0)⟩,⟨some 49, none,.bsl 1 [(vi 0)] 3 [(0,(.c (vi (-1)))),(1,(.c (vi 8))),(2,(.c (vi 2)))]⟩,⟨some 50, none,.callh zl139 [(.val,(.t 48)),(.rd,(.t 49))]⟩,⟨some 51, none,.fadr 0 (.t 3)⟩,⟨none,none,.store 1 (.t 51) (.t 50)⟩] [2,3] []
def z378r11:IC:=.reg [⟨some 52, none,.load true 2 (.t 3)⟩,⟨none,none,.store 2 (.t 2) (.t 52)⟩] [2] []
def zi378:IFun:=⟨[.c 2 2 true],[],(.seq z378r0 (.seq z378r1 (.seq (.seq z378r2 (.cond (.t 10) (.seq z378r3 (.seq z378r4 (.block 0 (.seq z378r5 (.cond (.t 18) z378r6 (.seq z378r7 (.cond (.t 34) z378r8 (.seq z378r9 (.cond (.t 46) z378r10 .skip))))))))) .skip)) (.seq z378r11 .ret))))⟩
def z145r0:IC:=.reg [⟨some 1, none,.box (.t 0)⟩,⟨some 2, none,.asg (.c (.bool false))⟩] [1] []
def z145r1:IC:=.reg [⟨some 3, none,.asg (.c (vi 0))⟩] [1,3] []
def z145r2:IC:=.reg [⟨some 5, none,.mv (.t 3)⟩,⟨some 6, none,.fadr 1 (.t 1)⟩,⟨some 7, none,.load false 1 (.t 6)⟩,⟨some 8, none,.len (.t 7)⟩,⟨some 9, none,.bin .lss (.t 5) (.t 8)⟩] [1,3,9] []
def z145r3:IC:=.reg [⟨some 12, none,.fadr 1 (.t 1)⟩,⟨some 13, none,.load false 1 (.t 12)⟩,⟨some 14, none,.mv (.t 3)⟩,⟨some 15, none,.iadr 2 (.t 13) (.t 14)⟩,⟨some 16, none,.load true 2 (.t 15)⟩,⟨some 4, none,.alloc [(vi 0),(vi 0)]⟩,⟨none,none,.store 2 (.t 4) (.t 16)⟩] [1,3,4] []
def z145r4:IC:=.reg [⟨some 17, none,.fadr 0 (.t 4)⟩,⟨some 18, none,.load false 1 (.t 17)⟩,⟨some 19, none,.bin .lss (.t 18) (.c (vi 0))⟩,⟨some 20, none,.asg (.t 19)⟩,⟨some 21, (some (20,false)),.fadr 0 (.t 4)⟩,⟨some 22, (some (20,false)),.load false 1 (.t 21)⟩,⟨some 23, (some (20,false)),.fadr 1 (.t 4)⟩,⟨some 24, (some (20,false)),.load false 1 (.t 23)⟩,⟨some 25, (some (20,false)),.bin .geq (.t 22) (.t 24)⟩,⟨some 26, none,.pick (.t 20) (.c (.bool true)) (.t 25)⟩,⟨some 27, none,.asg (.t 26)⟩,⟨some 28, (some (27,false)),.fadr 1 (.t 4)⟩,⟨some 29, (some (27,false)),.load false 1 (.t 28)⟩,⟨some 30, (some (27,false)),.fadr 0 (.t 1)⟩,⟨some 31, (some (27,false)),.load false 1 (.t 30)⟩,⟨some 32, (some (27,false)),.bin .geq (.t 29) (.t 31)⟩,⟨some 33, none,.pick (.t 27) (.c (.bool true)) (.t 32)⟩,⟨some 34, none,.asg (.t 33)⟩,⟨some 35, (some (34,false)),.mv (.t 3)⟩,
    ⟨some 36, (some (34,false)),.bin .gtr (.t 35) (.c (vi 0))⟩,⟨some 37, (some (34,false)),.asg (.t 36)⟩,⟨some 38, (some (37,true)),.fadr 1 (.t 1)⟩,⟨some 39, (some (37,true)),.load false 1 (.t 38)⟩,⟨some 40, (some (37,true)),.mv (.t 3)⟩,⟨some 41, (some (37,true)),.bin .sub (.t 40) (.c (vi 1))⟩,⟨some 42, (some (37,true)),.iadr 2 (.t 39) (.t 41)⟩,⟨some 43, (some (37,true)),.load true 2 (.t 42)⟩,⟨some 44, (some (37,true)),.load true 2 (.t 4)⟩,⟨some 45, (some (37,true)),.call zl126 [(.val,(.t 43)),(.val,(.t 44))] true⟩,⟨some 46, (some (37,true)),.unop .not (.t 45)⟩,⟨some 47, (some (34,false)),.pick (.t 37) (.t 46) (.c (.bool false))⟩,⟨some 48, none,.pick (.t 34) (.c (.bool true)) (.t 47)⟩] [1,3,48] []
def z145r5:IC:=.reg [⟨some 2, none,.asg (.c (.bool false))⟩] [2] []
def z145r6:IC:=.reg [⟨some 10, none,.mv (.t 3)⟩,⟨some 11, none,.bin .add (.t 10) (.c (vi 1))⟩,⟨some 3, none,.asg (.t 11)⟩] [1,3] []
def z145l7:IC:=(.seq (.seq z145r2 (.cond (.t 9) .skip (.exit 0))) (.seq (.block 1 (.seq z145r3 (.seq z145r4 (.cond (.t 48) (.seq z145r5 .ret) .skip)))) z145r6))
def z145r8:IC:=.reg [⟨some 49, none,.fadr 0 (.t 1)⟩,⟨some 50, none,.load false 1 (.t 49)⟩,⟨some 51, none,.call zl132 [(.val,(.t 50)),(.val,(.c (vi 0))),(.val,(.c (vi 7)))] true⟩,⟨some 2, none,.asg (.t 51)⟩] [2] []
def zi145:IFun:=⟨[.t 2],[],(.seq z145r0 (.seq (.seq z145r1 (.block 0 (.loop z145l7))) (.seq z145r8 .ret)))⟩
noncomputable def tbl:List (Nat×IFun):=[(zl1,zi1),(zl2,zi2),(zl3,zi3),(zl4,zi4),(zl161,zi161),(zl9,zi9),(zl189,zi189),(zl190,zi190),(zl14,zi14),(zl20,zi20),(zl25,zi25),(zl26,zi26),(zl29,zi29),(zl30,zi30),(zl31,zi31),(zl32,zi32),(zl37,zi37),(zl38,zi38),(zl535,zi535),(zl53,zi53),(zl66,zi66),(zl68,zi68),(zl70,zi70),(zl71,zi71),(zl72,zi72),(zl73,zi73),(zl271,zi271),(zl76,zi76),(zl77,zi77),(zl78,zi78),(zl85,zi85),(zl86,zi86),(zl100,zi100),(zl101,zi101),(zl564,zi564),(zl322,zi322),(zl118,zi118),(zl122,zi122),(zl125,zi125),(zl126,zi126),(zl129,zi129),(zl130,zi130),(zl132,zi132),(zl133,zi133),(zl134,zi134),(zl137,zi137),(zl138,zi138),(zl139,zi139),(zl140,zi140),(zl378,zi378),(zl145,zi145)]
noncomputable def tb:Tbl:=tbOf tbl
theorem zt1:tb zl1=some zi1:=by kernel_rfl
theorem zt2:tb zl2=some zi2:=by kernel_rfl
theorem zt3:tb zl3=some zi3:=by kernel_rfl
theorem zt4:tb zl4=some zi4:=by kernel_rfl
theorem zt161:tb zl161=some zi161:=by kernel_rfl
theorem zt9:tb zl9=some zi9:=by kernel_rfl
theorem zt189:tb zl189=some zi189:=by kernel_rfl
theorem zt190:tb zl190=some zi190:=by kernel_rfl
theorem zt14:tb zl14=some zi14:=by kernel_rfl
theorem zt20:tb zl20=some zi20:=by kernel_rfl
theorem zt25:tb zl25=some zi25:=by kernel_rfl
theorem zt26:tb zl26=some zi26:=by kernel_rfl
theorem zt29:tb zl29=some zi29:=by kernel_rfl
theorem zt30:tb zl30=some zi30:=by kernel_rfl
theorem zt31:tb zl31=some zi31:=by kernel_rfl
theorem zt32:tb zl32=some zi32:=by kernel_rfl
theorem zt37:tb zl37=some zi37:=by kernel_rfl
theorem zt38:tb zl38=some zi38:=by kernel_rfl
theorem zt535:tb zl535=some zi535:=by kernel_rfl
theorem zt53:tb zl53=some zi53:=by kernel_rfl
theorem zt66:tb zl66=some zi66:=by kernel_rfl
theorem zt68:tb zl68=some zi68:=by kernel_rfl
theorem zt70:tb zl70=some zi70:=by kernel_rfl
theorem zt71:tb zl71=some zi71:=by kernel_rfl
theorem zt72:tb zl72=some zi72:=by kernel_rfl
theorem zt73:tb zl73=some zi73:=by kernel_rfl
theorem zt271:tb zl271=some zi271:=by kernel_rfl
theorem zt76:tb zl76=some zi76:=by kernel_rfl
theorem zt77:tb zl77=some zi77:=by kernel_rfl
theorem zt78:tb zl78=some zi78:=by kernel_rfl
theorem zt85:tb zl85=some zi85:=by kernel_rfl
theorem zt86:tb zl86=some zi86:=by kernel_rfl
theorem zt100:tb zl100=some zi100:=by kernel_rfl
theorem zt101:tb zl101=some zi101:=by kernel_rfl
theorem zt564:tb zl564=some zi564:=by kernel_rfl
theorem zt322:tb zl322=some zi322:=by kernel_rfl
theorem zt118:tb zl118=some zi118:=by kernel_rfl
theorem zt122:tb zl122=some zi122:=by kernel_rfl
theorem zt125:tb zl125=some zi125:=by kernel_rfl
theorem zt126:tb zl126=some zi126:=by kernel_rfl
theorem zt129:tb zl129=some zi129:=by kernel_rfl
theorem zt130:tb zl130=some zi130:=by kernel_rfl
theorem zt132:tb zl132=some zi132:=by kernel_rfl
theorem zt133:tb zl133=some zi133:=by kernel_rfl
theorem zt134:tb zl134=some zi134:=by kernel_rfl
theorem zt137:tb zl137=some zi137:=by kernel_rfl
theorem zt138:tb zl138=some zi138:=by kernel_rfl
theorem zt139:tb zl139=some zi139:=by kernel_rfl
theorem zt140:tb zl140=some zi140:=by kernel_rfl
theorem zt378:tb zl378=some zi378:=by kernel_rfl
theorem zt145:tb zl145=some zi145:=by kernel_rfl
end Go.Idl
