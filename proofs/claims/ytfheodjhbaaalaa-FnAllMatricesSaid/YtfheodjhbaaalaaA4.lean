/- Part 4 of a proof by an ideal interpreter of the code: its definitions and lemmas. Conditions: none. -/
import Derived.KernelRfl
import Derived.Test.YtfheodjhbaaalaaA3
set_option linter.all false
set_option linter.unusedVariables false
set_option linter.unusedSimpArgs false
namespace Go.Idl
open Go
abbrev vi (n:Int):Value:=.int .i64 n
abbrev zl2:Lab:=2
abbrev zl4:Lab:=4
abbrev zl16:Lab:=16
abbrev zl25:Lab:=25
abbrev zl27:Lab:=27
abbrev zl29:Lab:=29
abbrev zl30:Lab:=30
abbrev zl31:Lab:=31
abbrev zl33:Lab:=33
abbrev zl34:Lab:=34
abbrev zl37:Lab:=37
abbrev zl38:Lab:=38
abbrev zl40:Lab:=40
abbrev zl41:Lab:=41
abbrev zl53:Lab:=53
abbrev zl54:Lab:=54
abbrev zl65:Lab:=65
abbrev zl66:Lab:=66
abbrev zl67:Lab:=67
abbrev zl68:Lab:=68
abbrev zl70:Lab:=70
abbrev zl71:Lab:=71
abbrev zl72:Lab:=72
abbrev zl73:Lab:=73
abbrev zl75:Lab:=75
abbrev zl76:Lab:=76
abbrev zl78:Lab:=78
abbrev zl80:Lab:=80
abbrev zl82:Lab:=82
abbrev zl84:Lab:=84
abbrev zl86:Lab:=86
abbrev zl95:Lab:=95
abbrev zl98:Lab:=98
abbrev zl99:Lab:=99
abbrev zl101:Lab:=101
abbrev zl103:Lab:=103
abbrev zl123:Lab:=123
abbrev zl132:Lab:=132
abbrev zl137:Lab:=137
abbrev zl139:Lab:=139
abbrev zl140:Lab:=140
abbrev zl158:Lab:=158
abbrev zl159:Lab:=159
abbrev zl165:Lab:=165
abbrev zl176:Lab:=176
abbrev zl200:Lab:=200
abbrev zl204:Lab:=204
abbrev zl213:Lab:=213
abbrev zl215:Lab:=215
abbrev zl216:Lab:=216
abbrev zl218:Lab:=218
abbrev zl219:Lab:=219
abbrev zl258:Lab:=258
abbrev zl261:Lab:=261
abbrev zl331:Lab:=331
abbrev zl360:Lab:=360
abbrev zl361:Lab:=361
abbrev zl371:Lab:=371
abbrev zl382:Lab:=382
abbrev zl385:Lab:=385
abbrev zl387:Lab:=387
abbrev zl412:Lab:=412
abbrev zl413:Lab:=413
abbrev zl496:Lab:=496
abbrev zl497:Lab:=497
abbrev zl498:Lab:=498
abbrev zl525:Lab:=525
abbrev zl543:Lab:=543
abbrev zl547:Lab:=547
abbrev zl556:Lab:=556
abbrev zl559:Lab:=559
abbrev zl584:Lab:=584
abbrev zl594:Lab:=594
def z2r0:IC:=.reg [⟨some 4, none,.asg (.c (.bool false))⟩] [0,1] []
def z2r1:IC:=.reg [⟨some 5, none,.mv (.t 0)⟩,⟨some 6, none,.call zl4 [(.val,(.t 5))] true⟩,⟨some 7, none,.asg (.t 6)⟩,⟨some 8, (some (7,true)),.mv (.t 1)⟩,⟨some 9, (some (7,true)),.call zl4 [(.val,(.t 8))] true⟩,⟨some 10, (some (7,true)),.unop .not (.t 9)⟩,⟨some 11, none,.pick (.t 7) (.t 10) (.c (.bool false))⟩,⟨some 12, none,.asg (.t 11)⟩,⟨some 13, (some (12,false)),.mv (.t 0)⟩,⟨some 14, (some (12,false)),.mv (.t 1)⟩,⟨some 15, (some (12,false)),.bin .lss (.t 13) (.t 14)⟩,⟨some 16, none,.pick (.t 12) (.c (.bool true)) (.t 15)⟩,⟨some 4, none,.asg (.t 16)⟩] [4] []
def zi2:IFun:=⟨[.t 4],[],(.seq z2r0 (.seq z2r1 .ret))⟩
def z4r0:IC:=.reg [⟨some 2, none,.asg (.c (.bool false))⟩] [0] []
def z4r1:IC:=.reg [⟨some 3, none,.mv (.t 0)⟩,⟨some 4, none,.mv (.t 0)⟩,⟨some 5, none,.bin .neq (.t 3) (.t 4)⟩,⟨some 2, none,.asg (.t 5)⟩] [2] []
def zi4:IFun:=⟨[.t 2],[],(.seq z4r0 (.seq z4r1 .ret))⟩
def z496r0:IC:=.reg [⟨some 4, none,.asg (.c (.slice none 0 0))⟩] [0,1] []
def z496r1:IC:=.reg [⟨some 6, none,.mv (.t 0)⟩,⟨some 7, none,.mv (.t 1)⟩,⟨some 8, none,.call zl200 [(.rd,(.t 6)),(.rd,(.t 7))] true⟩,⟨some 9, none,.unop .not (.t 8)⟩,⟨some 10, none,.asg (.t 9)⟩,⟨some 11, (some (10,false)),.mv (.t 0)⟩,⟨some 12, (some (10,false)),.len (.t 11)⟩,⟨some 13, (some (10,false)),.bin .gtr (.t 12) (.c (vi 4))⟩,⟨some 14, none,.pick (.t 10) (.c (.bool true)) (.t 13)⟩,⟨some 15, none,.asg (.t 14)⟩,⟨some 16, (some (15,false)),.mv (.t 1)⟩,⟨some 17, (some (15,false)),.len (.t 16)⟩,⟨some 18, (some (15,false)),.bin .gtr (.t 17) (.c (vi 4))⟩,⟨some 19, none,.pick (.t 15) (.c (.bool true)) (.t 18)⟩] [0,1,19] []
def z496r2:IC:=.reg [⟨some 4, none,.asg (.c (.slice none 0 0))⟩] [4] []
def z496r3:IC:=.reg [⟨some 5, none,.alloc [(.slice none 0 0)]⟩] [0,1,5] []
def z496r4:IC:=.reg [⟨some 20, none,.mv (.t 0)⟩,⟨some 21, none,.mv (.t 1)⟩,⟨some 22, none,.mkfn zl498 [(.t 5)]⟩,⟨some 23, none,.call zl215 [(.rd,(.t 20)),(.rd,(.t 21)),(.val,(.f zl497)),(.val,(.t 22))] false⟩] [5] []
def z496r5:IC:=.reg [⟨some 24, none,.load false 1 (.t 5)⟩,⟨some 25, none,.call zl547 [(.tk,(.t 24))] true⟩,⟨some 4, none,.asg (.t 25)⟩] [4] []
def zi496:IFun:=⟨[.t 4],[],(.seq z496r0 (.seq (.seq z496r1 (.cond (.t 19) (.seq z496r2 .ret) .skip)) (.seq z496r3 (.seq z496r4 (.seq z496r5 .ret)))))⟩
def z497r0:IC:=.reg [⟨some 4, none,.asg (.c (.bool false))⟩] [] []
def z497r1:IC:=.reg [⟨some 4, none,.asg (.c (.bool true))⟩] [4] []
def zi497:IFun:=⟨[.t 4],[],(.seq z497r0 (.seq z497r1 .ret))⟩
def z498r0:IC:=.reg [⟨some 3, none,.asg (.c (.bool false))⟩] [0,1] []
def z498r1:IC:=.reg [⟨some 4, none,.load false 1 (.t 1)⟩,⟨some 5, none,.mv (.t 0)⟩,⟨some 6, none,.bsl 1 [(.slice none 0 0)] 1 [(0,(.t 5))]⟩,⟨some 7, none,.app 1 (.t 4) (.t 6)⟩,⟨none,none,.store 1 (.t 1) (.t 7)⟩] [] []
def z498r2:IC:=.reg [⟨some 3, none,.asg (.c (.bool true))⟩] [3] []
def zi498:IFun:=⟨[.t 3],[],(.seq z498r0 (.seq z498r1 (.seq z498r2 .ret)))⟩
def z158r0:IC:=.reg [⟨some 2, none,.asg (.c (vi 0))⟩] [0] []
def z158r1:IC:=.reg [⟨some 4, none,.mv (.t 0)⟩,⟨some 5, none,.call zl213 [(.rd,(.t 4)),(.val,(.c (vi 6)))] true⟩,⟨some 6, none,.unop .not (.t 5)⟩] [0,6] []
def z158r2:IC:=.reg [⟨some 2, none,.asg (.c (vi (-1)))⟩] [2] []
def z158r3:IC:=.reg [⟨some 3, none,.alloc [(vi 0)]⟩,⟨none,none,.store 1 (.t 3) (.c (vi 0))⟩] [0,3] []
def z158r4:IC:=.reg [⟨some 7, none,.mv (.t 0)⟩,⟨some 8, none,.len (.t 7)⟩,⟨some 9, none,.mv (.t 0)⟩,⟨some 10, none,.len (.t 9)⟩,⟨some 11, none,.call zl216 [(.val,(.t 10))] true⟩,⟨some 12, none,.mv (.t 0)⟩,⟨some 13, none,.mkfn zl159 [(.t 3)]⟩,⟨some 14, none,.call zl218 [(.val,(.t 8)),(.rd,(.t 11)),(.rd,(.t 12)),(.val,(.t 13))] false⟩] [3] []
def z158r5:IC:=.reg [⟨some 15, none,.load false 1 (.t 3)⟩,⟨some 2, none,.asg (.t 15)⟩] [2] []
def zi158:IFun:=⟨[.t 2],[],(.seq z158r0 (.seq (.seq z158r1 (.cond (.t 6) (.seq z158r2 .ret) .skip)) (.seq z158r3 (.seq z158r4 (.seq z158r5 .ret)))))⟩
def z159r0:IC:=.reg [⟨some 2, none,.box (.t 0)⟩,⟨some 3, none,.asg (.c (.bool false))⟩] [1] []
def z159r1:IC:=.reg [⟨some 4, none,.load false 1 (.t 1)⟩,⟨some 5, none,.bin .add (.t 4) (.c (vi 1))⟩,⟨none,none,.store 1 (.t 1) (.t 5)⟩] [] []
def z159r2:IC:=.reg [⟨some 3, none,.asg (.c (.bool true))⟩] [3] []
def zi159:IFun:=⟨[.t 3],[],(.seq z159r0 (.seq z159r1 (.seq z159r2 .ret)))⟩
def z165r0:IC:=.reg [⟨some 4, none,.asg (.c (.slice none 0 0))⟩] [0,1] []
def z165r1:IC:=.reg [⟨some 10, none,.mv (.t 0)⟩,⟨some 11, none,.mv (.t 1)⟩,⟨some 12, none,.call zl200 [(.rd,(.t 10)),(.rd,(.t 11))] true⟩,⟨some 13, none,.unop .not (.t 12)⟩] [0,1,13] []
def z165r2:IC:=.reg [⟨some 4, none,.asg (.c (.slice none 0 0))⟩] [4,6] []
def z165r3:IC:=.reg [⟨some 14, none,.mv (.t 0)⟩,⟨some 15, none,.call zl37 [(.rd,(.t 14))] true⟩,⟨some 5, none,.asg (.t 15)⟩] [0,1,5] []
def z165r4:IC:=.reg [⟨some 16, none,.mv (.t 0)⟩,⟨some 17, none,.len (.t 16)⟩,⟨some 18, none,.mksl 1 [(vi 0)] (.t 17) (.t 17)⟩,⟨some 6, none,.asg (.t 18)⟩] [1,5,6] []
def z165r5:IC:=.reg [⟨some 19, none,.mv (.t 6)⟩,⟨some 20, none,.len (.t 19)⟩,⟨some 21, none,.mv (.c (vi 0))⟩] [1,5,6,20,21] []
def z165r6:IC:=.reg [⟨some 22, none,.bin .lss (.t 21) (.t 20)⟩] [1,5,6,20,21,22] []
def z165r7:IC:=.reg [⟨some 23, none,.asg (.t 21)⟩,⟨some 7, none,.asg (.t 23)⟩] [1,5,6,7,20,21] []
def z165r8:IC:=.reg [⟨some 24, none,.mv (.t 6)⟩,⟨some 25, none,.mv (.t 7)⟩,⟨some 26, none,.mv (.t 5)⟩,⟨some 27, none,.mv (.t 7)⟩,⟨some 28, none,.bin .add (.t 27) (.c (vi 1))⟩,⟨some 29, none,.slc 1 (.t 26) none (some (.t 28)) none⟩,⟨some 30, none,.call zl40 [(.rd,(.t 29))] true⟩,⟨some 31, none,.unop .neg (.t 30)⟩,⟨some 32, none,.iadr 1 (.t 24) (.t 25)⟩,⟨none,none,.store 1 (.t 32) (.t 31)⟩] [1,5,6,7,20,21] []
def z165r9:IC:=.reg [⟨some 33, none,.mv (.t 1)⟩,⟨some 34, none,.len (.t 33)⟩,⟨some 35, none,.mv (.c (vi 0))⟩] [1,5,6,7,20,21,33,34,35] []
def z165r10:IC:=.reg [⟨some 36, none,.bin .lss (.t 35) (.t 34)⟩] [1,5,6,7,20,21,33,34,35,36] []
def z165r11:IC:=.reg [⟨some 37, none,.iadr 1 (.t 33) (.t 35)⟩,⟨some 38, none,.load false 1 (.t 37)⟩,⟨some 9, none,.asg (.t 38)⟩] [1,5,6,7,9,20,21,33,34,35] []
def z165r12:IC:=.reg [⟨some 39, none,.mv (.t 6)⟩,⟨some 40, none,.mv (.t 7)⟩,⟨some 41, none,.iadr 1 (.t 39) (.t 40)⟩,⟨some 42, none,.load false 1 (.t 41)⟩,⟨some 43, none,.mv (.t 9)⟩,⟨some 44, none,.mv (.t 7)⟩,⟨some 45, none,.bin .add (.t 44) (.c (vi 1))⟩,⟨some 46, none,.minmax true (.t 43) (.t 45)⟩,⟨some 47, none,.bin .add (.t 42) (.t 46)⟩,⟨some 48, none,.iadr 1 (.t 39) (.t 40)⟩,⟨none,none,.store 1 (.t 48) (.t 47)⟩] [1,5,6,7,20,21,33,34,35] []
def z165r13:IC:=.reg [⟨some 49, none,.bin .add (.t 35) (.c (vi 1))⟩,⟨some 35, none,.asg (.t 49)⟩] [1,5,6,7,20,21,33,34,35] []
def z165l14:IC:=(.seq z165r10 (.seq (.cond (.t 36) .skip (.exit 2)) (.seq (.block 3 (.seq z165r11 z165r12)) z165r13)))
def z165r15:IC:=.reg [⟨some 50, none,.bin .add (.t 21) (.c (vi 1))⟩,⟨some 21, none,.asg (.t 50)⟩] [1,5,6,20,21] []
def z165l16:IC:=(.seq z165r6 (.seq (.cond (.t 22) .skip (.exit 0)) (.seq (.block 1 (.seq z165r7 (.seq z165r8 (.seq z165r9 (.block 2 (.loop z165l14)))))) z165r15)))
def z165r17:IC:=.reg [⟨some 51, none,.mv (.t 6)⟩,⟨some 4, none,.asgm (.t 51)⟩] [4,6] []
def zi165:IFun:=⟨[.t 4],[],(.seq z165r0 (.seq (.seq z165r1 (.cond (.t 13) (.seq z165r2 .ret) .skip)) (.seq z165r3 (.seq z165r4 (.seq (.seq z165r5 (.block 0 (.loop z165l16))) (.seq z165r17 .ret))))))⟩
def z176r0:IC:=.reg [⟨some 4, none,.asg (.c (.bool false))⟩] [0,1] []
def z176r1:IC:=.reg [⟨some 5, none,.mv (.t 0)⟩,⟨some 6, none,.mv (.t 1)⟩,⟨some 7, none,.call zl200 [(.rd,(.t 5)),(.rd,(.t 6))] true⟩,⟨some 8, none,.asg (.t 7)⟩,⟨some 9, (some (8,true)),.mv (.t 0)⟩,⟨some 10, (some (8,true)),.call zl40 [(.rd,(.t 9))] true⟩,⟨some 11, (some (8,true)),.mv (.t 1)⟩,⟨some 12, (some (8,true)),.call zl40 [(.rd,(.t 11))] true⟩,⟨some 13, (some (8,true)),.bin .eql (.t 10) (.t 12)⟩,⟨some 14, none,.pick (.t 8) (.t 13) (.c (.bool false))⟩,⟨some 15, none,.asg (.t 14)⟩,⟨some 16, (some (15,true)),.mv (.t 0)⟩,⟨some 17, (some (15,true)),.mv (.t 1)⟩,⟨some 18, (some (15,true)),.call zl165 [(.rd,(.t 16)),(.rd,(.t 17))] true⟩,⟨some 19, (some (15,true)),.call zl75 [(.rd,(.t 18))] true⟩,⟨some 20, (some (15,true)),.bin .geq (.t 19) (.c (vi 0))⟩,⟨some 21, none,.pick (.t 15) (.t 20) (.c (.bool false))⟩,⟨some 4, none,.asg (.t 21)⟩] [4] []
def zi176:IFun:=⟨[.t 4],[],(.seq z176r0 (.seq z176r1 .ret))⟩
def z16r0:IC:=.reg [⟨some 2, none,.asg (.c (.slice none 0 0))⟩,⟨some 3, none,.asg (.c (.slice none 0 0))⟩] [0] []
def z16r1:IC:=.reg [⟨some 10, none,.mv (.t 0)⟩,⟨some 11, none,.call zl27 [(.rd,(.t 10))] true⟩,⟨some 12, none,.unop .not (.t 11)⟩] [0,12] []
def z16r2:IC:=.reg [⟨some 2, none,.asg (.c (.slice none 0 0))⟩,⟨some 3, none,.asg (.c (.slice none 0 0))⟩] [2,3,4,5] []
def z16r3:IC:=.reg [⟨some 13, none,.mv (.t 0)⟩,⟨some 14, none,.len (.t 13)⟩,⟨some 15, none,.mksl 1 [(vi 0)] (.t 14) (.t 14)⟩,⟨some 16, none,.mv (.t 0)⟩,⟨some 17, none,.iadr 1 (.t 16) (.c (vi 0))⟩,⟨some 18, none,.load false 1 (.t 17)⟩,⟨some 19, none,.len (.t 18)⟩,⟨some 20, none,.mksl 1 [(vi 0)] (.t 19) (.t 19)⟩,⟨some 4, none,.asg (.t 15)⟩,⟨some 5, none,.asg (.t 20)⟩] [0,4,5] [[0,1,2,3,4,5,6,8,7,9],[0,1,2,3,4,8,5,6,7,9],[0,1,3,4,5,2,6,7,8,9],[0,1,3,4,5,2,6,8,7,9],[0,1,3,4,5,6,7,2,8,9]]
def z16r4:IC:=.reg [⟨some 21, none,.mv (.t 0)⟩,⟨some 22, none,.len (.t 21)⟩,⟨some 23, none,.mv (.c (vi 0))⟩] [0,4,5,21,22,23] []
def z16r5:IC:=.reg [⟨some 24, none,.bin .lss (.t 23) (.t 22)⟩] [0,4,5,21,22,23,24] []
def z16r6:IC:=.reg [⟨some 25, none,.asg (.t 23)⟩,⟨some 26, none,.iadr 1 (.t 21) (.t 23)⟩,⟨some 27, none,.load false 1 (.t 26)⟩,⟨some 6, none,.asg (.t 25)⟩,⟨some 7, none,.asg (.t 27)⟩] [0,4,5,6,7,21,22,23] []
def z16r7:IC:=.reg [⟨some 28, none,.mv (.t 7)⟩,⟨some 29, none,.len (.t 28)⟩,⟨some 30, none,.mv (.c (vi 0))⟩] [0,4,5,6,7,21,22,23,28,29,30] []
def z16r8:IC:=.reg [⟨some 31, none,.bin .lss (.t 30) (.t 29)⟩] [0,4,5,6,7,21,22,23,28,29,30,31] []
def z16r9:IC:=.reg [⟨some 32, none,.asg (.t 30)⟩,⟨some 33, none,.iadr 1 (.t 28) (.t 30)⟩,⟨some 34, none,.load false 1 (.t 33)⟩,⟨some 8, none,.asg (.t 32)⟩,⟨some 9, none,.asg (.t 34)⟩] [0,4,5,6,7,8,9,21,22,23,28,29,30] []
def z16r10:IC:=.reg [⟨some 35, none,.mv (.t 4)⟩,⟨some 36, none,.mv (.t 6)⟩,⟨some 37, none,.iadr 1 (.t 35) (.t 36)⟩,⟨some 38, none,.load false 1 (.t 37)⟩,⟨some 39, none,.mv (.t 9)⟩,⟨some 40, none,.bin .add (.t 38) (.t 39)⟩,⟨some 41, none,.iadr 1 (.t 35) (.t 36)⟩,⟨none,none,.store 1 (.t 41) (.t 40)⟩] [0,4,5,6,7,8,9,21,22,23,28,29,30] []
def z16r11:IC:=.reg [⟨some 42, none,.mv (.t 5)⟩,⟨some 43, none,.mv (.t 8)⟩,⟨some 44, none,.iadr 1 (.t 42) (.t 43)⟩,⟨some 45, none,.load false 1 (.t 44)⟩,⟨some 46, none,.mv (.t 9)⟩,⟨some 47, none,.bin .add (.t 45) (.t 46)⟩,⟨some 48, none,.iadr 1 (.t 42) (.t 43)⟩,⟨none,none,.store 1 (.t 48) (.t 47)⟩] [0,4,5,6,7,21,22,23,28,29,30] []
def z16r12:IC:=.reg [⟨some 49, none,.bin .add (.t 30) (.c (vi 1))⟩,⟨some 30, none,.asg (.t 49)⟩] [0,4,5,6,7,21,22,23,28,29,30] []
def z16l13:IC:=(.seq z16r8 (.seq (.cond (.t 31) .skip (.exit 2)) (.seq (.block 3 (.seq z16r9 (.seq z16r10 z16r11))) z16r12)))
def z16r14:IC:=.reg [⟨some 50, none,.bin .add (.t 23) (.c (vi 1))⟩,⟨some 23, none,.asg (.t 50)⟩] [0,4,5,21,22,23] []
def z16l15:IC:=(.seq z16r5 (.seq (.cond (.t 24) .skip (.exit 0)) (.seq (.block 1 (.seq z16r6 (.seq z16r7 (.block 2 (.loop z16l13))))) z16r14)))
def z16r16:IC:=.reg [⟨some 51, none,.mv (.t 4)⟩,⟨some 52, none,.mv (.t 5)⟩,⟨some 2, none,.asgm (.t 51)⟩,⟨some 3, none,.asgm (.t 52)⟩] [2,3,4,5] []
def zi16:IFun:=⟨[.t 2,.t 3],[],(.seq z16r0 (.seq (.seq z16r1 (.cond (.t 12) (.seq z16r2 .ret) .skip)) (.seq z16r3 (.seq (.seq z16r4 (.block 0 (.loop z16l15))) (.seq z16r16 .ret)))))⟩
def z25r0:IC:=.reg [⟨some 2, none,.asg (.c (.bool false))⟩] [0] []
def z25r1:IC:=.reg [⟨some 3, none,.mv (.t 0)⟩,⟨some 4, none,.len (.t 3)⟩,⟨some 5, none,.bin .leq (.t 4) (.c (vi 7))⟩,⟨some 6, none,.asg (.t 5)⟩,⟨some 7, (some (6,true)),.mv (.t 0)⟩,⟨some 8, (some (6,true)),.mv (.t 0)⟩,⟨some 9, (some (6,true)),.len (.t 8)⟩,⟨some 10, (some (6,true)),.bin .sub (.t 9) (.c (vi 1))⟩,⟨some 11, (some (6,true)),.call zl29 [(.rd,(.t 7)),(.val,(.c (vi 0))),(.val,(.t 10))] true⟩,⟨some 12, none,.pick (.t 6) (.t 11) (.c (.bool false))⟩,⟨some 2, none,.asg (.t 12)⟩] [2] []
def zi25:IFun:=⟨[.t 2],[],(.seq z25r0 (.seq z25r1 .ret))⟩
def z200r0:IC:=.reg [⟨some 4, none,.asg (.c (.bool false))⟩] [0,1] []
def z200r1:IC:=.reg [⟨some 5, none,.mv (.t 0)⟩,⟨some 6, none,.len (.t 5)⟩,⟨some 7, none,.call zl38 [(.val,(.t 6)),(.val,(.c (vi 1))),(.val,(.c (vi 5)))] true⟩,⟨some 8, none,.asg (.t 7)⟩,⟨some 9, (some (8,true)),.mv (.t 1)⟩,⟨some 10, (some (8,true)),.len (.t 9)⟩,⟨some 11, (some (8,true)),.call zl38 [(.val,(.t 10)),(.val,(.c (vi 1))),(.val,(.c (vi 5)))] true⟩,⟨some 12, none,.pick (.t 8) (.t 11) (.c (.bool false))⟩,⟨some 13, none,.asg (.t 12)⟩,⟨some 14, (some (13,true)),.mv (.t 0)⟩,⟨some 15, (some (13,true)),.mv (.t 1)⟩,⟨some 16, (some (13,true)),.len (.t 15)⟩,⟨some 17, (some (13,true)),.call zl29 [(.rd,(.t 14)),(.val,(.c (vi 0))),(.val,(.t 16))] true⟩,⟨some 18, none,.pick (.t 13) (.t 17) (.c (.bool false))⟩,⟨some 19, none,.asg (.t 18)⟩,⟨some 20, (some (19,true)),.mv (.t 1)⟩,⟨some 21, (some (19,true)),.mv (.t 0)⟩,⟨some 22, (some (19,true)),.len (.t 21)⟩,
    ⟨some 23, (some (19,true)),.call zl29 [(.rd,(.t 20)),(.val,(.c (vi 0))),(.val,(.t 22))] true⟩,⟨some 24, none,.pick (.t 19) (.t 23) (.c (.bool false))⟩,⟨some 4, none,.asg (.t 24)⟩] [4] []
def zi200:IFun:=⟨[.t 4],[],(.seq z200r0 (.seq z200r1 .ret))⟩
def z27r0:IC:=.reg [⟨some 2, none,.asg (.c (.bool false))⟩] [0] []
def z27r1:IC:=.reg [⟨some 5, none,.mv (.t 0)⟩,⟨some 6, none,.len (.t 5)⟩,⟨some 7, none,.mv (.c (vi 0))⟩] [0,5,6,7] []
def z27r2:IC:=.reg [⟨some 8, none,.bin .lss (.t 7) (.t 6)⟩] [0,5,6,7,8] []
def z27r3:IC:=.reg [⟨some 9, none,.iadr 1 (.t 5) (.t 7)⟩,⟨some 10, none,.load false 1 (.t 9)⟩,⟨some 4, none,.asg (.t 10)⟩] [0,4,5,6,7] []
def z27r4:IC:=.reg [⟨some 11, none,.mv (.t 4)⟩,⟨some 12, none,.len (.t 11)⟩,⟨some 13, none,.mv (.t 0)⟩,⟨some 14, none,.iadr 1 (.t 13) (.c (vi 0))⟩,⟨some 15, none,.load false 1 (.t 14)⟩,⟨some 16, none,.len (.t 15)⟩,⟨some 17, none,.bin .neq (.t 12) (.t 16)⟩,⟨some 18, none,.asg (.t 17)⟩,⟨some 19, (some (18,false)),.mv (.t 4)⟩,⟨some 20, (some (18,false)),.len (.t 19)⟩,⟨some 21, (some (18,false)),.call zl38 [(.val,(.t 20)),(.val,(.c (vi 1))),(.val,(.c (vi 5)))] true⟩,⟨some 22, (some (18,false)),.unop .not (.t 21)⟩,⟨some 23, none,.pick (.t 18) (.c (.bool true)) (.t 22)⟩,⟨some 24, none,.asg (.t 23)⟩,⟨some 25, (some (24,false)),.mv (.t 4)⟩,⟨some 26, (some (24,false)),.call zl29 [(.rd,(.t 25)),(.val,(.c (vi 0))),(.val,(.c (vi 1)))] true⟩,⟨some 27, (some (24,false)),.unop .not (.t 26)⟩,⟨some 28, none,.pick (.t 24) (.c (.bool true)) (.t 27)⟩] [0,5,6,7,28] []
def z27r5:IC:=.reg [⟨some 2, none,.asg (.c (.bool false))⟩] [2] []
def z27r6:IC:=.reg [⟨some 29, none,.bin .add (.t 7) (.c (vi 1))⟩,⟨some 7, none,.asg (.t 29)⟩] [0,5,6,7] []
def z27l7:IC:=(.seq z27r2 (.seq (.cond (.t 8) .skip (.exit 0)) (.seq (.block 1 (.seq z27r3 (.seq z27r4 (.cond (.t 28) (.seq z27r5 .ret) .skip)))) z27r6)))
def z27r8:IC:=.reg [⟨some 30, none,.mv (.t 0)⟩,⟨some 31, none,.len (.t 30)⟩,⟨some 32, none,.call zl38 [(.val,(.t 31)),(.val,(.c (vi 1))),(.val,(.c (vi 5)))] true⟩,⟨some 2, none,.asg (.t 32)⟩] [2] []
def zi27:IFun:=⟨[.t 2],[],(.seq z27r0 (.seq (.seq z27r1 (.block 0 (.loop z27l7))) (.seq z27r8 .ret)))⟩
def z29r0:IC:=.reg [⟨some 4, none,.box (.t 1)⟩,⟨some 5, none,.box (.t 2)⟩,⟨some 6, none,.asg (.c (.bool false))⟩] [0,4,5] []
def z29r1:IC:=.reg [⟨some 7, none,.mv (.t 0)⟩,⟨some 8, none,.mkfn zl30 [(.t 4),(.t 5)]⟩,⟨some 9, none,.call zl72 [(.rd,(.t 7)),(.val,(.t 8))] false⟩,⟨some 10, none,.unop .not (.t 9)⟩,⟨some 6, none,.asg (.t 10)⟩] [6] []
def zi29:IFun:=⟨[.t 6],[],(.seq z29r0 (.seq z29r1 .ret))⟩
def z30r0:IC:=.reg [⟨some 4, none,.asg (.c (.bool false))⟩] [0,1,2] []
def z30r1:IC:=.reg [⟨some 5, none,.mv (.t 0)⟩,⟨some 6, none,.load false 1 (.t 1)⟩,⟨some 7, none,.load false 1 (.t 2)⟩,⟨some 8, none,.call zl38 [(.val,(.t 5)),(.val,(.t 6)),(.val,(.t 7))] true⟩,⟨some 9, none,.unop .not (.t 8)⟩,⟨some 4, none,.asg (.t 9)⟩] [4] []
def zi30:IFun:=⟨[.t 4],[],(.seq z30r0 (.seq z30r1 .ret))⟩
def z204r0:IC:=.reg [⟨some 2, none,.asg (.c (.slice none 0 0))⟩] [0] []
def z204r1:IC:=.reg [⟨some 3, none,.mv (.t 0)⟩,⟨some 4, none,.call zl261 [(.rd,(.t 3))] true⟩,⟨some 5, none,.call zl258 [(.tk,(.t 4))] true⟩,⟨some 2, none,.asg (.t 5)⟩] [2] []
def zi204:IFun:=⟨[.t 2],[],(.seq z204r0 (.seq z204r1 .ret))⟩
def z31r0:IC:=.reg [⟨some 2, none,.asg (.c (.slice none 0 0))⟩] [0] []
def z31r1:IC:=.reg [⟨some 3, none,.mv (.t 0)⟩,⟨some 4, none,.call zl71 [(.rd,(.t 3))] true⟩,⟨some 5, none,.call zl70 [(.tk,(.t 4))] true⟩,⟨some 2, none,.asg (.t 5)⟩] [2] []
def zi31:IFun:=⟨[.t 2],[],(.seq z31r0 (.seq z31r1 .ret))⟩
def z33r0:IC:=.reg [⟨some 1, none,.box (.t 0)⟩,⟨some 2, none,.asg (.c (.slice none 0 0))⟩] [1] []
def z33r1:IC:=.reg [⟨some 3, none,.load false 1 (.t 1)⟩,⟨some 4, none,.len (.t 3)⟩,⟨some 5, none,.load false 1 (.t 1)⟩,⟨some 6, none,.iadr 1 (.t 5) (.c (vi 0))⟩,⟨some 7, none,.load false 1 (.t 6)⟩,⟨some 8, none,.len (.t 7)⟩,⟨some 9, none,.mkfn zl34 [(.t 1)]⟩,⟨some 10, none,.call zl41 [(.val,(.t 4)),(.val,(.t 8)),(.val,(.t 9))] false⟩,⟨some 2, none,.asg (.t 10)⟩] [2] []
def zi33:IFun:=⟨[.t 2],[],(.seq z33r0 (.seq z33r1 .ret))⟩
def z34r0:IC:=.reg [⟨some 5, none,.asg (.c (vi 0))⟩] [0,1,2] []
def z34r1:IC:=.reg [⟨some 6, none,.load false 1 (.t 2)⟩,⟨some 7, none,.mv (.t 0)⟩,⟨some 8, none,.iadr 1 (.t 6) (.t 7)⟩,⟨some 9, none,.load false 1 (.t 8)⟩,⟨some 10, none,.mv (.t 1)⟩,⟨some 11, none,.iadr 1 (.t 9) (.t 10)⟩,⟨some 12, none,.load false 1 (.t 11)⟩,⟨some 5, none,.asg (.t 12)⟩] [5] []
def zi34:IFun:=⟨[.t 5],[],(.seq z34r0 (.seq z34r1 .ret))⟩
def z37r0:IC:=.reg [⟨some 2, none,.asg (.c (.slice none 0 0))⟩] [0] []
def z37r1:IC:=.reg [⟨some 4, none,.mv (.t 0)⟩,⟨some 5, none,.call zl31 [(.rd,(.t 4))] true⟩,⟨some 3, none,.asg (.t 5)⟩] [3] []
def z37r2:IC:=.reg [⟨some 6, none,.mv (.t 3)⟩,⟨some 7, none,.call zl78 [(.ld,(.t 6))] false⟩] [3] []
def z37r3:IC:=.reg [⟨some 8, none,.mv (.t 3)⟩,⟨some 9, none,.call zl76 [(.ld,(.t 8))] false⟩] [3] []
def z37r4:IC:=.reg [⟨some 10, none,.mv (.t 3)⟩,⟨some 2, none,.asgm (.t 10)⟩] [2,3] []
def zi37:IFun:=⟨[.t 2],[],(.seq z37r0 (.seq z37r1 (.seq z37r2 (.seq z37r3 (.seq z37r4 .ret)))))⟩
def z38r0:IC:=.reg [⟨some 6, none,.asg (.c (.bool false))⟩] [0,1,2] []
def z38r1:IC:=.reg [⟨some 7, none,.mv (.t 0)⟩,⟨some 8, none,.mv (.t 1)⟩,⟨some 9, none,.bin .geq (.t 7) (.t 8)⟩,⟨some 10, none,.asg (.t 9)⟩,⟨some 11, (some (10,true)),.mv (.t 0)⟩,⟨some 12, (some (10,true)),.mv (.t 2)⟩,⟨some 13, (some (10,true)),.bin .leq (.t 11) (.t 12)⟩,⟨some 14, none,.pick (.t 10) (.t 13) (.c (.bool false))⟩,⟨some 6, none,.asg (.t 14)⟩] [6] []
def zi38:IFun:=⟨[.t 6],[],(.seq z38r0 (.seq z38r1 .ret))⟩
def z213r0:IC:=.reg [⟨some 4, none,.asg (.c (.bool false))⟩] [0,1] []
def z213r1:IC:=.reg [⟨some 5, none,.mv (.t 0)⟩,⟨some 6, none,.call zl25 [(.rd,(.t 5))] true⟩,⟨some 7, none,.asg (.t 6)⟩,⟨some 8, (some (7,true)),.mv (.t 0)⟩,⟨some 9, (some (7,true)),.len (.t 8)⟩,⟨some 10, (some (7,true)),.mv (.t 1)⟩,⟨some 11, (some (7,true)),.bin .leq (.t 9) (.t 10)⟩,⟨some 12, none,.pick (.t 7) (.t 11) (.c (.bool false))⟩,⟨some 4, none,.asg (.t 12)⟩] [4] []
def zi213:IFun:=⟨[.t 4],[],(.seq z213r0 (.seq z213r1 .ret))⟩
def z215r0:IC:=.reg [⟨some 4, none,.box (.t 0)⟩,⟨some 5, none,.box (.t 1)⟩,⟨some 6, none,.box (.t 2)⟩,⟨some 7, none,.box (.t 3)⟩] [4,5,6,7] []
def z215r1:IC:=.regd [⟨some 12, none,.load false 1 (.t 4)⟩,⟨some 13, none,.callq zl31 [(.rv,(.t 12))]⟩,⟨some 14, none,.load false 1 (.t 5)⟩,⟨some 15, none,.callq zl31 [(.rv,(.t 14))]⟩,⟨some 8, none,.alloc [(.slice none 0 0)]⟩,⟨some 9, none,.alloc [(.slice none 0 0)]⟩,⟨none,none,.store 1 (.t 8) (.t 13)⟩,⟨none,none,.store 1 (.t 9) (.t 15)⟩] [0,2,1,3,4,5,6,7] [4,5,6,7,8,9] [[0,2,1,3,5,4,6,7]]
def z215r2:IC:=.reg [⟨some 16, none,.load false 1 (.t 4)⟩,⟨some 17, none,.len (.t 16)⟩,⟨some 18, none,.load false 1 (.t 5)⟩,⟨some 19, none,.len (.t 18)⟩,⟨some 20, none,.call zl41 [(.val,(.t 17)),(.val,(.t 19)),(.val,(.f zl412))] false⟩,⟨some 10, none,.alloc [(.slice none 0 0)]⟩,⟨none,none,.store 1 (.t 10) (.t 20)⟩] [4,5,6,7,8,9,10] []
def z215r3:IC:=.reg [⟨some 11, none,.alloc [.nilFunc]⟩] [4,5,6,7,8,9,10,11] []
def z215r4:IC:=.reg [⟨some 21, none,.mkfn zl413 [(.t 4),(.t 5),(.t 8),(.t 9),(.t 7),(.t 10),(.t 6),(.t 11)]⟩,⟨none,none,.store 1 (.t 11) (.t 21)⟩] [11] []
def z215r5:IC:=.reg [⟨some 22, none,.load false 1 (.t 11)⟩,⟨some 23, none,.callv (.t 22) [(.val,(.c (vi 0)))]⟩] [] []
def zi215:IFun:=⟨[],[],(.seq z215r0 (.seq z215r1 (.seq z215r2 (.seq z215r3 (.seq z215r4 z215r5)))))⟩
def z412r0:IC:=.reg [⟨some 4, none,.asg (.c (vi 0))⟩] [] []
def z412r1:IC:=.reg [⟨some 4, none,.asg (.c (vi 0))⟩] [4] []
def zi412:IFun:=⟨[.t 4],[],(.seq z412r0 (.seq z412r1 .ret))⟩
def z413r0:IC:=.reg [⟨some 10, none,.asg (.c (.bool false))⟩] [0,1,2,3,4,5,6,7,8] []
def z413r1:IC:=.reg [⟨some 14, none,.mv (.t 0)⟩,⟨some 15, none,.load false 1 (.t 1)⟩,⟨some 16, none,.len (.t 15)⟩,⟨some 17, none,.load false 1 (.t 2)⟩,⟨some 18, none,.len (.t 17)⟩,⟨some 19, none,.bin .mul (.t 16) (.t 18)⟩,⟨some 20, none,.bin .eql (.t 14) (.t 19)⟩] [0,2,3,4,5,6,7,8,20] []
def z413r2:IC:=.reg [⟨some 21, none,.load false 1 (.t 3)⟩,⟨some 22, none,.call zl40 [(.rd,(.t 21))] true⟩,⟨some 23, none,.bin .gtr (.t 22) (.c (vi 0))⟩,⟨some 24, none,.asg (.t 23)⟩,⟨some 25, (some (24,false)),.load false 1 (.t 4)⟩,⟨some 26, (some (24,false)),.call zl40 [(.rd,(.t 25))] true⟩,⟨some 27, (some (24,false)),.bin .gtr (.t 26) (.c (vi 0))⟩,⟨some 28, none,.pick (.t 24) (.c (.bool true)) (.t 27)⟩,⟨some 29, none,.asg (.t 28)⟩,⟨some 30, (some (29,false)),.load false 1 (.t 5)⟩,⟨some 31, (some (29,false)),.load false 1 (.t 6)⟩,⟨some 32, (some (29,false)),.call zl33 [(.rd,(.t 31))] true⟩,⟨some 33, (some (29,false)),.callv (.t 30) [(.tk,(.t 32))]⟩,⟨some 34, none,.pick (.t 29) (.c (.bool true)) (.t 33)⟩,⟨some 10, none,.asg (.t 34)⟩] [10] [[0,1,2,3,4,5,6,7,8,10,11,9,12,13,14]]
def z413r3:IC:=.reg [⟨some 35, none,.mv (.t 0)⟩,⟨some 36, none,.load false 1 (.t 2)⟩,⟨some 37, none,.len (.t 36)⟩,⟨some 38, none,.bin .quo (.t 35) (.t 37)⟩,⟨some 39, none,.mv (.t 0)⟩,⟨some 40, none,.load false 1 (.t 2)⟩,⟨some 41, none,.len (.t 40)⟩,⟨some 42, none,.bin .rem (.t 39) (.t 41)⟩,⟨some 11, none,.asg (.t 38)⟩,⟨some 12, none,.asg (.t 42)⟩] [0,2,3,4,6,7,8,11,12] [[0,1,2,3,4,8,5,6,7,9]]
def z413r4:IC:=.reg [⟨some 43, none,.load false 1 (.t 3)⟩,⟨some 44, none,.mv (.t 11)⟩,⟨some 45, none,.iadr 1 (.t 43) (.t 44)⟩,⟨some 46, none,.load false 1 (.t 45)⟩,⟨some 47, none,.load false 1 (.t 2)⟩,⟨some 48, none,.len (.t 47)⟩,⟨some 49, none,.mv (.t 12)⟩,⟨some 50, none,.bin .sub (.t 48) (.t 49)⟩,⟨some 51, none,.bin .gtr (.t 46) (.t 50)⟩] [0,3,4,6,7,8,11,12,51] []
def z413r5:IC:=.reg [⟨some 10, none,.asg (.c (.bool true))⟩] [10] []
def z413r6:IC:=.reg [⟨some 52, none,.load false 1 (.t 7)⟩,⟨some 53, none,.mv (.t 11)⟩,⟨some 54, none,.mv (.t 12)⟩,⟨some 55, none,.callv (.t 52) [(.val,(.t 53)),(.val,(.t 54))]⟩,⟨some 56, none,.asg (.t 55)⟩,⟨some 57, (some (56,true)),.load false 1 (.t 3)⟩,⟨some 58, (some (56,true)),.mv (.t 11)⟩,⟨some 59, (some (56,true)),.iadr 1 (.t 57) (.t 58)⟩,⟨some 60, (some (56,true)),.load false 1 (.t 59)⟩,⟨some 61, (some (56,true)),.bin .gtr (.t 60) (.c (vi 0))⟩,⟨some 62, none,.pick (.t 56) (.t 61) (.c (.bool false))⟩,⟨some 63, none,.asg (.t 62)⟩,⟨some 64, (some (63,true)),.load false 1 (.t 4)⟩,⟨some 65, (some (63,true)),.mv (.t 12)⟩,⟨some 66, (some (63,true)),.iadr 1 (.t 64) (.t 65)⟩,⟨some 67, (some (63,true)),.load false 1 (.t 66)⟩,⟨some 68, (some (63,true)),.bin .gtr (.t 67) (.c (vi 0))⟩,⟨some 69, none,.pick (.t 63) (.t 68) (.c (.bool false))⟩] [0,3,4,6,8,11,12,69] []
def z413r7:IC:=.reg [⟨some 70, none,.load false 1 (.t 3)⟩,⟨some 71, none,.mv (.t 11)⟩,⟨some 72, none,.iadr 1 (.t 70) (.t 71)⟩,⟨some 73, none,.load false 1 (.t 72)⟩,⟨some 74, none,.bin .sub (.t 73) (.c (vi 1))⟩,⟨some 75, none,.iadr 1 (.t 70) (.t 71)⟩,⟨none,none,.store 1 (.t 75) (.t 74)⟩] [0,3,4,6,8,11,12] []
def z413r8:IC:=.reg [⟨some 76, none,.load false 1 (.t 4)⟩,⟨some 77, none,.mv (.t 12)⟩,⟨some 78, none,.iadr 1 (.t 76) (.t 77)⟩,⟨some 79, none,.load false 1 (.t 78)⟩,⟨some 80, none,.bin .sub (.t 79) (.c (vi 1))⟩,⟨some 81, none,.iadr 1 (.t 76) (.t 77)⟩,⟨none,none,.store 1 (.t 81) (.t 80)⟩] [0,3,4,6,8,11,12] []
def z413r9:IC:=.reg [⟨some 82, none,.load false 1 (.t 6)⟩,⟨some 83, none,.mv (.t 11)⟩,⟨some 84, none,.iadr 1 (.t 82) (.t 83)⟩,⟨some 85, none,.load false 1 (.t 84)⟩,⟨some 86, none,.mv (.t 12)⟩,⟨some 87, none,.iadr 1 (.t 85) (.t 86)⟩,⟨none,none,.store 1 (.t 87) (.c (vi 1))⟩] [0,3,4,6,8,11,12] []
def z413r10:IC:=.reg [⟨some 88, none,.load false 1 (.t 8)⟩,⟨some 89, none,.mv (.t 0)⟩,⟨some 90, none,.bin .add (.t 89) (.c (vi 1))⟩,⟨some 91, none,.callv (.t 88) [(.val,(.t 90))]⟩,⟨some 13, none,.asg (.t 91)⟩] [0,3,4,6,8,11,12,13] []
def z413r11:IC:=.reg [⟨some 92, none,.load false 1 (.t 6)⟩,⟨some 93, none,.mv (.t 11)⟩,⟨some 94, none,.iadr 1 (.t 92) (.t 93)⟩,⟨some 95, none,.load false 1 (.t 94)⟩,⟨some 96, none,.mv (.t 12)⟩,⟨some 97, none,.iadr 1 (.t 95) (.t 96)⟩,⟨none,none,.store 1 (.t 97) (.c (vi 0))⟩] [0,3,4,8,11,12,13] []
def z413r12:IC:=.reg [⟨some 98, none,.load false 1 (.t 3)⟩,⟨some 99, none,.mv (.t 11)⟩,⟨some 100, none,.iadr 1 (.t 98) (.t 99)⟩,⟨some 101, none,.load false 1 (.t 100)⟩,⟨some 102, none,.bin .add (.t 101) (.c (vi 1))⟩,⟨some 103, none,.iadr 1 (.t 98) (.t 99)⟩,⟨none,none,.store 1 (.t 103) (.t 102)⟩] [0,4,8,12,13] []
def z413r13:IC:=.reg [⟨some 104, none,.load false 1 (.t 4)⟩,⟨some 105, none,.mv (.t 12)⟩,⟨some 106, none,.iadr 1 (.t 104) (.t 105)⟩,⟨some 107, none,.load false 1 (.t 106)⟩,⟨some 108, none,.bin .add (.t 107) (.c (vi 1))⟩,⟨some 109, none,.iadr 1 (.t 104) (.t 105)⟩,⟨none,none,.store 1 (.t 109) (.t 108)⟩] [0,8,13] []
def z413r14:IC:=.reg [⟨some 110, none,.mv (.t 13)⟩,⟨some 111, none,.unop .not (.t 110)⟩] [0,8,111] []
def z413r15:IC:=.reg [⟨some 10, none,.asg (.c (.bool false))⟩] [10] []
def z413r16:IC:=.reg [⟨some 112, none,.load false 1 (.t 8)⟩,⟨some 113, none,.mv (.t 0)⟩,⟨some 114, none,.bin .add (.t 113) (.c (vi 1))⟩,⟨some 115, none,.callv (.t 112) [(.val,(.t 114))]⟩,⟨some 10, none,.asg (.t 115)⟩] [10] []
def zi413:IFun:=⟨[.t 10],[],(.seq z413r0 (.seq (.seq z413r1 (.cond (.t 20) (.seq z413r2 .ret) .skip)) (.seq z413r3 (.seq (.seq z413r4 (.cond (.t 51) (.seq z413r5 .ret) .skip)) (.seq (.seq z413r6 (.cond (.t 69) (.seq z413r7 (.seq z413r8 (.seq z413r9 (.seq z413r10 (.seq z413r11 (.seq z413r12 (.seq z413r13 (.seq z413r14 (.cond (.t 111) (.seq z413r15 .ret) .skip))))))))) .skip)) (.seq z413r16 .ret))))))⟩
def z216r0:IC:=.reg [⟨some 2, none,.asg (.c (.slice none 0 0))⟩] [0] []
def z216r1:IC:=.reg [⟨some 3, none,.asg (.c (.slice none 0 0))⟩] [0,3] []
def z216r2:IC:=.reg [⟨some 6, none,.mv (.t 0)⟩,⟨some 7, none,.mv (.c (vi 0))⟩] [0,3,6,7] []
def z216r3:IC:=.reg [⟨some 8, none,.bin .lss (.t 7) (.t 6)⟩] [0,3,6,7,8] []
def z216r4:IC:=.reg [⟨some 9, none,.asg (.t 7)⟩,⟨some 4, none,.asg (.t 9)⟩] [0,3,4,6,7] []
def z216r5:IC:=.reg [⟨some 10, none,.mv (.t 4)⟩,⟨some 11, none,.bin .add (.t 10) (.c (vi 1))⟩,⟨some 5, none,.asg (.t 11)⟩] [0,3,4,5,6,7] []
def z216r6:IC:=.reg [⟨some 12, none,.mv (.t 5)⟩,⟨some 13, none,.mv (.t 0)⟩,⟨some 14, none,.bin .lss (.t 12) (.t 13)⟩] [0,3,4,5,6,7,14] []
def z216r7:IC:=.reg [⟨some 17, none,.mv (.t 3)⟩,⟨some 18, none,.mv (.t 4)⟩,⟨some 19, none,.mv (.t 5)⟩,⟨some 20, none,.build [(vi 0),(vi 0)] [(0,1,(.t 18)),(1,1,(.t 19))]⟩,⟨some 21, none,.bsl 2 [(vi 0),(vi 0)] 1 [(0,(.t 20))]⟩,⟨some 22, none,.app 2 (.t 17) (.t 21)⟩,⟨some 3, none,.asg (.t 22)⟩] [0,3,4,5,6,7] []
def z216r8:IC:=.reg [⟨some 15, none,.mv (.t 5)⟩,⟨some 16, none,.bin .add (.t 15) (.c (vi 1))⟩,⟨some 5, none,.asg (.t 16)⟩] [0,3,4,5,6,7] []
def z216l9:IC:=(.seq (.seq z216r6 (.cond (.t 14) .skip (.exit 2))) (.seq (.block 3 z216r7) z216r8))
def z216r10:IC:=.reg [⟨some 23, none,.bin .add (.t 7) (.c (vi 1))⟩,⟨some 7, none,.asg (.t 23)⟩] [0,3,6,7] []
def z216l11:IC:=(.seq z216r3 (.seq (.cond (.t 8) .skip (.exit 0)) (.seq (.block 1 (.seq z216r4 (.seq z216r5 (.block 2 (.loop z216l9))))) z216r10)))
def z216r12:IC:=.reg [⟨some 24, none,.mv (.t 3)⟩,⟨some 2, none,.asgm (.t 24)⟩] [2,3] []
def zi216:IFun:=⟨[.t 2],[],(.seq z216r0 (.seq z216r1 (.seq (.seq z216r2 (.block 0 (.loop z216l11))) (.seq z216r12 .ret))))⟩
def z218r0:IC:=.reg [⟨some 4, none,.box (.t 0)⟩,⟨some 5, none,.box (.t 1)⟩,⟨some 7, none,.box (.t 3)⟩] [2,4,5,7] []
def z218r1:IC:=.reg [⟨some 11, none,.mv (.t 2)⟩,⟨some 12, none,.call zl31 [(.rd,(.t 11))] true⟩,⟨some 8, none,.alloc [(.slice none 0 0)]⟩,⟨none,none,.store 1 (.t 8) (.t 12)⟩] [4,5,7,8] []
def z218r2:IC:=.reg [⟨some 9, none,.alloc [(.slice none 0 0)]⟩] [4,5,7,8,9] []
def z218r3:IC:=.reg [⟨some 10, none,.alloc [.nilFunc]⟩] [4,5,7,8,9,10] []
def z218r4:IC:=.reg [⟨some 13, none,.mkfn zl219 [(.t 5),(.t 8),(.t 7),(.t 4),(.t 9),(.t 10)]⟩,⟨none,none,.store 1 (.t 10) (.t 13)⟩] [10] []
def z218r5:IC:=.reg [⟨some 14, none,.load false 1 (.t 10)⟩,⟨some 15, none,.callv (.t 14) [(.val,(.c (vi 0)))]⟩] [] []
def zi218:IFun:=⟨[],[],(.seq z218r0 (.seq z218r1 (.seq z218r2 (.seq z218r3 (.seq z218r4 z218r5)))))⟩
def z219r0:IC:=.reg [⟨some 8, none,.asg (.c (.bool false))⟩] [0,1,2,3,4,5,6] []
def z219r1:IC:=.reg [⟨some 11, none,.mv (.t 0)⟩,⟨some 12, none,.load false 1 (.t 1)⟩,⟨some 13, none,.len (.t 12)⟩,⟨some 14, none,.bin .eql (.t 11) (.t 13)⟩] [0,1,2,3,4,5,6,14] []
def z219r2:IC:=.reg [⟨some 15, none,.load false 1 (.t 2)⟩,⟨some 16, none,.call zl29 [(.rd,(.t 15)),(.val,(.c (vi 0))),(.val,(.c (vi 0)))] true⟩,⟨some 17, none,.unop .not (.t 16)⟩,⟨some 18, none,.asg (.t 17)⟩,⟨some 19, (some (18,false)),.load false 1 (.t 3)⟩,⟨some 20, (some (18,false)),.load false 1 (.t 4)⟩,⟨some 21, (some (18,false)),.load false 1 (.t 5)⟩,⟨some 22, (some (18,false)),.call zl204 [(.rd,(.t 21))] true⟩,⟨some 23, (some (18,false)),.build [(vi 0),(.slice none 0 0)] [(0,1,(.t 20)),(1,1,(.t 22))]⟩,⟨some 24, (some (18,false)),.callv (.t 19) [(.tk,(.t 23))]⟩,⟨some 25, none,.pick (.t 18) (.c (.bool true)) (.t 24)⟩,⟨some 8, none,.asg (.t 25)⟩] [8] [[0,1,2,3,4,6,7,5,8,9,10,11],[0,1,2,3,5,6,7,4,8,9,10,11],[0,1,2,3,5,6,7,8,4,9,10,11],[0,1,2,3,6,7,4,5,8,9,10,11],[0,1,2,3,6,7,5,8,4,9,10,11]]
def z219r3:IC:=.reg [⟨some 26, none,.load false 1 (.t 1)⟩,⟨some 27, none,.mv (.t 0)⟩,⟨some 28, none,.iadr 2 (.t 26) (.t 27)⟩,⟨some 29, none,.load true 2 (.t 28)⟩,⟨some 9, none,.alloc [(vi 0),(vi 0)]⟩,⟨none,none,.store 2 (.t 9) (.t 29)⟩] [0,2,5,6,9] []
def z219r4:IC:=.reg [⟨some 30, none,.load false 1 (.t 2)⟩,⟨some 31, none,.fadr 0 (.t 9)⟩,⟨some 32, none,.load false 1 (.t 31)⟩,⟨some 33, none,.iadr 1 (.t 30) (.t 32)⟩,⟨some 34, none,.load false 1 (.t 33)⟩,⟨some 35, none,.bin .gtr (.t 34) (.c (vi 0))⟩,⟨some 36, none,.asg (.t 35)⟩,⟨some 37, (some (36,true)),.load false 1 (.t 2)⟩,⟨some 38, (some (36,true)),.fadr 1 (.t 9)⟩,⟨some 39, (some (36,true)),.load false 1 (.t 38)⟩,⟨some 40, (some (36,true)),.iadr 1 (.t 37) (.t 39)⟩,⟨some 41, (some (36,true)),.load false 1 (.t 40)⟩,⟨some 42, (some (36,true)),.bin .gtr (.t 41) (.c (vi 0))⟩,⟨some 43, none,.pick (.t 36) (.t 42) (.c (.bool false))⟩] [0,2,5,6,9,43] []
def z219r5:IC:=.reg [⟨some 44, none,.load false 1 (.t 2)⟩,⟨some 45, none,.fadr 0 (.t 9)⟩,⟨some 46, none,.load false 1 (.t 45)⟩,⟨some 47, none,.iadr 1 (.t 44) (.t 46)⟩,⟨some 48, none,.load false 1 (.t 47)⟩,⟨some 49, none,.bin .sub (.t 48) (.c (vi 1))⟩,⟨some 50, none,.iadr 1 (.t 44) (.t 46)⟩,⟨none,none,.store 1 (.t 50) (.t 49)⟩] [0,2,5,6,9] []
def z219r6:IC:=.reg [⟨some 51, none,.load false 1 (.t 2)⟩,⟨some 52, none,.fadr 1 (.t 9)⟩,⟨some 53, none,.load false 1 (.t 52)⟩,⟨some 54, none,.iadr 1 (.t 51) (.t 53)⟩,⟨some 55, none,.load false 1 (.t 54)⟩,⟨some 56, none,.bin .sub (.t 55) (.c (vi 1))⟩,⟨some 57, none,.iadr 1 (.t 51) (.t 53)⟩,⟨none,none,.store 1 (.t 57) (.t 56)⟩] [0,2,5,6,9] []
def z219r7:IC:=.reg [⟨some 58, none,.load false 1 (.t 5)⟩,⟨some 59, none,.load true 2 (.t 9)⟩,⟨some 60, none,.bsl 2 [(vi 0),(vi 0)] 1 [(0,(.t 59))]⟩,⟨some 61, none,.app 2 (.t 58) (.t 60)⟩,⟨none,none,.store 1 (.t 5) (.t 61)⟩] [0,2,5,6,9] []
def z219r8:IC:=.reg [⟨some 62, none,.load false 1 (.t 6)⟩,⟨some 63, none,.mv (.t 0)⟩,⟨some 64, none,.bin .add (.t 63) (.c (vi 1))⟩,⟨some 65, none,.callv (.t 62) [(.val,(.t 64))]⟩,⟨some 10, none,.asg (.t 65)⟩] [0,2,5,6,9,10] []
def z219r9:IC:=.reg [⟨some 66, none,.load false 1 (.t 5)⟩,⟨some 67, none,.load false 1 (.t 5)⟩,⟨some 68, none,.len (.t 67)⟩,⟨some 69, none,.bin .sub (.t 68) (.c (vi 1))⟩,⟨some 70, none,.slc 2 (.t 66) none (some (.t 69)) none⟩,⟨none,none,.store 1 (.t 5) (.t 70)⟩] [0,2,6,9,10] []
def z219r10:IC:=.reg [⟨some 71, none,.load false 1 (.t 2)⟩,⟨some 72, none,.fadr 0 (.t 9)⟩,⟨some 73, none,.load false 1 (.t 72)⟩,⟨some 74, none,.iadr 1 (.t 71) (.t 73)⟩,⟨some 75, none,.load false 1 (.t 74)⟩,⟨some 76, none,.bin .add (.t 75) (.c (vi 1))⟩,⟨some 77, none,.iadr 1 (.t 71) (.t 73)⟩,⟨none,none,.store 1 (.t 77) (.t 76)⟩] [0,2,6,9,10] []
def z219r11:IC:=.reg [⟨some 78, none,.load false 1 (.t 2)⟩,⟨some 79, none,.fadr 1 (.t 9)⟩,⟨some 80, none,.load false 1 (.t 79)⟩,⟨some 81, none,.iadr 1 (.t 78) (.t 80)⟩,⟨some 82, none,.load false 1 (.t 81)⟩,⟨some 83, none,.bin .add (.t 82) (.c (vi 1))⟩,⟨some 84, none,.iadr 1 (.t 78) (.t 80)⟩,⟨none,none,.store 1 (.t 84) (.t 83)⟩] [0,6,10] []
def z219r12:IC:=.reg [⟨some 85, none,.mv (.t 10)⟩,⟨some 86, none,.unop .not (.t 85)⟩] [0,6,86] []
def z219r13:IC:=.reg [⟨some 8, none,.asg (.c (.bool false))⟩] [8] []
def z219r14:IC:=.reg [⟨some 87, none,.load false 1 (.t 6)⟩,⟨some 88, none,.mv (.t 0)⟩,⟨some 89, none,.bin .add (.t 88) (.c (vi 1))⟩,⟨some 90, none,.callv (.t 87) [(.val,(.t 89))]⟩,⟨some 8, none,.asg (.t 90)⟩] [8] []
def zi219:IFun:=⟨[.t 8],[],(.seq z219r0 (.seq (.seq z219r1 (.cond (.t 14) (.seq z219r2 .ret) .skip)) (.seq z219r3 (.seq (.seq z219r4 (.cond (.t 43) (.seq z219r5 (.seq z219r6 (.seq z219r7 (.seq z219r8 (.seq z219r9 (.seq z219r10 (.seq z219r11 (.seq z219r12 (.cond (.t 86) (.seq z219r13 .ret) .skip))))))))) .skip)) (.seq z219r14 .ret)))))⟩
def z40r0:IC:=.reg [⟨some 2, none,.asg (.c (vi 0))⟩] [0] []
def z40r1:IC:=.reg [⟨some 3, none,.asg (.c (vi 0))⟩] [0,3] []
def z40r2:IC:=.reg [⟨some 6, none,.mv (.t 0)⟩,⟨some 7, none,.len (.t 6)⟩,⟨some 8, none,.mv (.c (vi 0))⟩] [0,3,6,7,8] []
def z40r3:IC:=.reg [⟨some 9, none,.bin .lss (.t 8) (.t 7)⟩] [0,3,6,7,8,9] []
def z40r4:IC:=.reg [⟨some 10, none,.iadr 1 (.t 6) (.t 8)⟩,⟨some 11, none,.load false 1 (.t 10)⟩,⟨some 5, none,.asg (.t 11)⟩] [0,3,5,6,7,8] []
def z40r5:IC:=.reg [⟨some 12, none,.mv (.t 3)⟩,⟨some 13, none,.mv (.t 5)⟩,⟨some 14, none,.bin .add (.t 12) (.t 13)⟩,⟨some 3, none,.asg (.t 14)⟩] [0,3,6,7,8] []
def z40r6:IC:=.reg [⟨some 15, none,.bin .add (.t 8) (.c (vi 1))⟩,⟨some 8, none,.asg (.t 15)⟩] [0,3,6,7,8] []
def z40l7:IC:=(.seq z40r3 (.seq (.cond (.t 9) .skip (.exit 0)) (.seq (.block 1 (.seq z40r4 z40r5)) z40r6)))
def z40r8:IC:=.reg [⟨some 16, none,.mv (.t 3)⟩,⟨some 2, none,.asgm (.t 16)⟩] [2] []
def zi40:IFun:=⟨[.t 2],[],(.seq z40r0 (.seq z40r1 (.seq (.seq z40r2 (.block 0 (.loop z40l7))) (.seq z40r8 .ret))))⟩
def z41r0:IC:=.reg [⟨some 6, none,.asg (.c (.slice none 0 0))⟩] [0,1,2] []
def z41r1:IC:=.reg [⟨some 10, none,.mv (.t 0)⟩,⟨some 11, none,.mksl 1 [(.slice none 0 0)] (.t 10) (.t 10)⟩,⟨some 7, none,.asg (.t 11)⟩] [1,2,7] []
def z41r2:IC:=.reg [⟨some 12, none,.mv (.t 7)⟩,⟨some 13, none,.len (.t 12)⟩,⟨some 14, none,.mv (.c (vi 0))⟩] [1,2,7,13,14] []
def z41r3:IC:=.reg [⟨some 15, none,.bin .lss (.t 14) (.t 13)⟩] [1,2,7,13,14,15] []
def z41r4:IC:=.reg [⟨some 16, none,.asg (.t 14)⟩,⟨some 8, none,.asg (.t 16)⟩] [1,2,7,8,13,14] []
def z41r5:IC:=.reg [⟨some 17, none,.mv (.t 7)⟩,⟨some 18, none,.mv (.t 8)⟩,⟨some 19, none,.mv (.t 1)⟩,⟨some 20, none,.mksl 1 [(vi 0)] (.t 19) (.t 19)⟩,⟨some 21, none,.iadr 1 (.t 17) (.t 18)⟩,⟨none,none,.store 1 (.t 21) (.t 20)⟩] [1,2,7,8,13,14] []
def z41r6:IC:=.reg [⟨some 22, none,.mv (.t 7)⟩,⟨some 23, none,.mv (.t 8)⟩,⟨some 24, none,.iadr 1 (.t 22) (.t 23)⟩,⟨some 25, none,.load false 1 (.t 24)⟩,⟨some 26, none,.len (.t 25)⟩,⟨some 27, none,.mv (.c (vi 0))⟩] [1,2,7,8,13,14,26,27] []
def z41r7:IC:=.reg [⟨some 28, none,.bin .lss (.t 27) (.t 26)⟩] [1,2,7,8,13,14,26,27,28] []
def z41r8:IC:=.reg [⟨some 29, none,.asg (.t 27)⟩,⟨some 9, none,.asg (.t 29)⟩] [1,2,7,8,9,13,14,26,27] []
def z41r9:IC:=.reg [⟨some 30, none,.mv (.t 7)⟩,⟨some 31, none,.mv (.t 8)⟩,⟨some 32, none,.iadr 1 (.t 30) (.t 31)⟩,⟨some 33, none,.load false 1 (.t 32)⟩,⟨some 34, none,.mv (.t 9)⟩,⟨some 35, none,.mv (.t 2)⟩,⟨some 36, none,.mv (.t 8)⟩,⟨some 37, none,.mv (.t 9)⟩,⟨some 38, none,.callv (.t 35) [(.val,(.t 36)),(.val,(.t 37))]⟩,⟨some 39, none,.iadr 1 (.t 33) (.t 34)⟩,⟨none,none,.store 1 (.t 39) (.t 38)⟩] [1,2,7,8,13,14,26,27] [[0,1,2,4,5,6,7,8,3,9,10]]
def z41r10:IC:=.reg [⟨some 40, none,.bin .add (.t 27) (.c (vi 1))⟩,⟨some 27, none,.asg (.t 40)⟩] [1,2,7,8,13,14,26,27] []
def z41l11:IC:=(.seq z41r7 (.seq (.cond (.t 28) .skip (.exit 2)) (.seq (.block 3 (.seq z41r8 z41r9)) z41r10)))
def z41r12:IC:=.reg [⟨some 41, none,.bin .add (.t 14) (.c (vi 1))⟩,⟨some 14, none,.asg (.t 41)⟩] [1,2,7,13,14] []
def z41l13:IC:=(.seq z41r3 (.seq (.cond (.t 15) .skip (.exit 0)) (.seq (.block 1 (.seq z41r4 (.seq z41r5 (.seq z41r6 (.block 2 (.loop z41l11)))))) z41r12)))
def z41r14:IC:=.reg [⟨some 42, none,.mv (.t 7)⟩,⟨some 6, none,.asgm (.t 42)⟩] [6,7] []
def zi41:IFun:=⟨[.t 6],[],(.seq z41r0 (.seq z41r1 (.seq (.seq z41r2 (.block 0 (.loop z41l13))) (.seq z41r14 .ret))))⟩
def z525r0:IC:=.reg [⟨some 2, none,.asg (.c (.bool false))⟩] [0] []
def z525r1:IC:=.reg [⟨some 11, none,.mv (.t 0)⟩,⟨some 12, none,.len (.t 11)⟩,⟨some 13, none,.bin .gtr (.t 12) (.c (vi 1048576))⟩] [0,13] []
def z525r2:IC:=.reg [⟨some 2, none,.asg (.c (.bool true))⟩] [2] []
def z525r3:IC:=.reg [⟨some 15, none,.mv (.t 0)⟩,⟨some 16, none,.call zl559 [(.rd,(.t 15))] true⟩,⟨some 14, none,.asg (.t 16)⟩,⟨some 17, none,.extr (.t 14) 0⟩,⟨some 18, none,.extr (.t 14) 1⟩,⟨some 3, none,.asg (.t 17)⟩,⟨some 4, none,.asg (.t 18)⟩] [3,4] []
def z525r4:IC:=.reg [⟨some 19, none,.mv (.t 3)⟩,⟨some 20, none,.mv (.t 4)⟩,⟨some 21, none,.call zl496 [(.rd,(.t 19)),(.rd,(.t 20))] true⟩,⟨some 5, none,.asg (.t 21)⟩] [3,4,5] []
def z525r5:IC:=.reg [⟨some 22, none,.mv (.t 5)⟩,⟨some 23, none,.mv (.t 3)⟩,⟨some 24, none,.mv (.t 4)⟩,⟨some 25, none,.call zl556 [(.rd,(.t 23)),(.rd,(.t 24))] true⟩,⟨some 26, none,.call zl543 [(.rd,(.t 22)),(.rd,(.t 25))] true⟩,⟨some 27, none,.unop .not (.t 26)⟩,⟨some 28, none,.asg (.t 27)⟩,⟨some 29, (some (28,false)),.mv (.t 3)⟩,⟨some 30, (some (28,false)),.mv (.t 4)⟩,⟨some 31, (some (28,false)),.call zl200 [(.rd,(.t 29)),(.rd,(.t 30))] true⟩,⟨some 32, (some (28,false)),.unop .not (.t 31)⟩,⟨some 33, none,.pick (.t 28) (.c (.bool true)) (.t 32)⟩,⟨some 34, none,.asg (.t 33)⟩,⟨some 35, (some (34,false)),.mv (.t 3)⟩,⟨some 36, (some (34,false)),.len (.t 35)⟩,⟨some 37, (some (34,false)),.bin .gtr (.t 36) (.c (vi 4))⟩,⟨some 38, none,.pick (.t 34) (.c (.bool true)) (.t 37)⟩,⟨some 39, none,.asg (.t 38)⟩,⟨some 40, (some (39,false)),.mv (.t 4)⟩,⟨some 41, (some (39,false)),.len (.t 40)⟩,
    ⟨some 42, (some (39,false)),.bin .gtr (.t 41) (.c (vi 4))⟩,⟨some 43, none,.pick (.t 39) (.c (.bool true)) (.t 42)⟩] [3,4,5,43] []
def z525r6:IC:=.reg [⟨some 44, none,.mv (.t 5)⟩,⟨some 45, none,.mv (.t 3)⟩,⟨some 46, none,.mv (.t 4)⟩,⟨some 47, none,.call zl556 [(.rd,(.t 45)),(.rd,(.t 46))] true⟩,⟨some 48, none,.call zl543 [(.rd,(.t 44)),(.rd,(.t 47))] true⟩,⟨some 2, none,.asg (.t 48)⟩] [2] []
def z525r7:IC:=.reg [⟨some 6, none,.asg (.c (vi 0))⟩] [3,4,5,6] []
def z525r8:IC:=.reg [⟨some 49, none,.mv (.t 6)⟩,⟨some 50, none,.mv (.t 5)⟩,⟨some 51, none,.len (.t 50)⟩,⟨some 52, none,.bin .lss (.t 49) (.t 51)⟩] [3,4,5,6,52] []
def z525r9:IC:=.reg [⟨some 56, none,.mv (.t 5)⟩,⟨some 57, none,.mv (.t 6)⟩,⟨some 58, none,.iadr 1 (.t 56) (.t 57)⟩,⟨some 59, none,.load false 1 (.t 58)⟩,⟨some 60, none,.call zl16 [(.rd,(.t 59))] true⟩,⟨some 55, none,.asg (.t 60)⟩,⟨some 61, none,.extr (.t 55) 0⟩,⟨some 62, none,.extr (.t 55) 1⟩,⟨some 7, none,.asg (.t 61)⟩,⟨some 8, none,.asg (.t 62)⟩] [3,4,5,6,7,8] []
def z525r10:IC:=.reg [⟨some 63, none,.mv (.t 7)⟩,⟨some 64, none,.mv (.t 3)⟩,⟨some 65, none,.call zl53 [(.rd,(.t 63)),(.rd,(.t 64))] true⟩,⟨some 66, none,.unop .not (.t 65)⟩,⟨some 67, none,.asg (.t 66)⟩,⟨some 68, (some (67,false)),.mv (.t 8)⟩,⟨some 69, (some (67,false)),.mv (.t 4)⟩,⟨some 70, (some (67,false)),.call zl53 [(.rd,(.t 68)),(.rd,(.t 69))] true⟩,⟨some 71, (some (67,false)),.unop .not (.t 70)⟩,⟨some 72, none,.pick (.t 67) (.c (.bool true)) (.t 71)⟩,⟨some 73, none,.asg (.t 72)⟩,⟨some 74, (some (73,false)),.mv (.t 6)⟩,⟨some 75, (some (73,false)),.bin .gtr (.t 74) (.c (vi 0))⟩,⟨some 76, (some (73,false)),.asg (.t 75)⟩,⟨some 77, (some (76,true)),.mv (.t 5)⟩,⟨some 78, (some (76,true)),.mv (.t 6)⟩,⟨some 79, (some (76,true)),.bin .sub (.t 78) (.c (vi 1))⟩,⟨some 80, (some (76,true)),.iadr 1 (.t 77) (.t 79)⟩,⟨some 81, (some (76,true)),.load false 1 (.t 80)⟩,
    ⟨some 82, (some (76,true)),.mv (.t 5)⟩,⟨some 83, (some (76,true)),.mv (.t 6)⟩,⟨some 84, (some (76,true)),.iadr 1 (.t 82) (.t 83)⟩,⟨some 85, (some (76,true)),.load false 1 (.t 84)⟩,⟨some 86, (some (76,true)),.call zl54 [(.rd,(.t 81)),(.rd,(.t 85))] true⟩,⟨some 87, (some (73,false)),.pick (.t 76) (.t 86) (.c (.bool false))⟩,⟨some 88, none,.pick (.t 73) (.c (.bool true)) (.t 87)⟩] [3,4,5,6,88] []
def z525r11:IC:=.reg [⟨some 2, none,.asg (.c (.bool false))⟩] [2] []
def z525r12:IC:=.reg [⟨some 53, none,.mv (.t 6)⟩,⟨some 54, none,.bin .add (.t 53) (.c (vi 1))⟩,⟨some 6, none,.asg (.t 54)⟩] [3,4,5,6] []
def z525l13:IC:=(.seq (.seq z525r8 (.cond (.t 52) .skip (.exit 0))) (.seq (.block 1 (.seq z525r9 (.seq z525r10 (.cond (.t 88) (.seq z525r11 .ret) .skip)))) z525r12))
def z525r14:IC:=.reg [⟨some 89, none,.bsl 1 [(vi 0)] 0 []⟩,⟨some 9, none,.asg (.t 89)⟩] [3,4,5,9] []
def z525r15:IC:=.reg [⟨some 10, none,.asg (.c (vi 0))⟩] [3,4,5,9,10] []
def z525r16:IC:=.reg [⟨some 90, none,.mv (.t 10)⟩,⟨some 91, none,.mv (.t 3)⟩,⟨some 92, none,.len (.t 91)⟩,⟨some 93, none,.bin .lss (.t 90) (.t 92)⟩] [3,4,5,9,10,93] []
def z525r17:IC:=.reg [⟨some 96, none,.mv (.t 9)⟩,⟨some 97, none,.mv (.t 3)⟩,⟨some 98, none,.mv (.t 10)⟩,⟨some 99, none,.iadr 1 (.t 97) (.t 98)⟩,⟨some 100, none,.load false 1 (.t 99)⟩,⟨some 101, none,.mv (.t 3)⟩,⟨some 102, none,.len (.t 101)⟩,⟨some 103, none,.bin .add (.t 100) (.t 102)⟩,⟨some 104, none,.bin .sub (.t 103) (.c (vi 1))⟩,⟨some 105, none,.bsl 1 [(vi 0)] 1 [(0,(.t 104))]⟩,⟨some 106, none,.app 1 (.t 96) (.t 105)⟩,⟨some 9, none,.asg (.t 106)⟩] [3,4,5,9,10] []
def z525r18:IC:=.reg [⟨some 94, none,.mv (.t 10)⟩,⟨some 95, none,.bin .add (.t 94) (.c (vi 1))⟩,⟨some 10, none,.asg (.t 95)⟩] [3,4,5,9,10] []
def z525l19:IC:=(.seq (.seq z525r16 (.cond (.t 93) .skip (.exit 2))) (.seq (.block 3 z525r17) z525r18))
def z525r20:IC:=.reg [⟨some 107, none,.mv (.t 9)⟩,⟨some 108, none,.mv (.t 4)⟩,⟨some 109, none,.app 1 (.t 107) (.t 108)⟩,⟨some 9, none,.asg (.t 109)⟩] [3,4,5,9] []
def z525r21:IC:=.reg [⟨some 110, none,.mv (.t 5)⟩,⟨some 111, none,.len (.t 110)⟩,⟨some 112, none,.bin .gtr (.t 111) (.c (vi 0))⟩,⟨some 113, none,.mv (.t 3)⟩,⟨some 114, none,.mv (.t 4)⟩,⟨some 115, none,.call zl176 [(.rd,(.t 113)),(.rd,(.t 114))] true⟩,⟨some 116, none,.eqb false (.t 112) (.t 115)⟩,⟨some 117, none,.asg (.t 116)⟩,⟨some 118, (some (117,true)),.mv (.t 4)⟩,⟨some 119, (some (117,true)),.mv (.t 3)⟩,⟨some 120, (some (117,true)),.call zl496 [(.rd,(.t 118)),(.rd,(.t 119))] true⟩,⟨some 121, (some (117,true)),.len (.t 120)⟩,⟨some 122, (some (117,true)),.mv (.t 5)⟩,⟨some 123, (some (117,true)),.len (.t 122)⟩,⟨some 124, (some (117,true)),.bin .eql (.t 121) (.t 123)⟩,⟨some 125, none,.pick (.t 117) (.t 124) (.c (.bool false))⟩,⟨some 126, none,.asg (.t 125)⟩,⟨some 127, (some (126,true)),.mv (.t 9)⟩,⟨some 128, (some (126,true)),.len (.t 127)⟩,
    ⟨some 129, (some (126,true)),.bin .gtr (.t 128) (.c (vi 6))⟩,⟨some 130, (some (126,true)),.asg (.t 129)⟩,⟨some 131, (some (130,false)),.mv (.t 3)⟩,⟨some 132, (some (130,false)),.call zl65 [(.rd,(.t 131))] true⟩,⟨some 133, (some (130,false)),.mv (.t 4)⟩,⟨some 134, (some (130,false)),.call zl65 [(.rd,(.t 133))] true⟩,⟨some 135, (some (130,false)),.bin .neq (.t 132) (.t 134)⟩,⟨some 136, (some (126,true)),.pick (.t 130) (.c (.bool true)) (.t 135)⟩,⟨some 137, (some (126,true)),.asg (.t 136)⟩,⟨some 138, (some (137,false)),.mv (.t 9)⟩,⟨some 139, (some (137,false)),.call zl158 [(.rd,(.t 138))] true⟩,⟨some 140, (some (137,false)),.mv (.t 5)⟩,⟨some 141, (some (137,false)),.len (.t 140)⟩,⟨some 142, (some (137,false)),.bin .eql (.t 139) (.t 141)⟩,⟨some 143, (some (126,true)),.pick (.t 137) (.c (.bool true)) (.t 142)⟩,⟨some 144, none,.pick (.t 126) (.t 143) (.c (.bool false))⟩,
    ⟨some 2, none,.asg (.t 144)⟩] [2] []
def zi525:IFun:=⟨[.t 2],[],(.seq z525r0 (.seq (.seq z525r1 (.cond (.t 13) (.seq z525r2 .ret) .skip)) (.seq z525r3 (.seq z525r4 (.seq (.seq z525r5 (.cond (.t 43) (.seq z525r6 .ret) .skip)) (.seq (.seq z525r7 (.block 0 (.loop z525l13))) (.seq z525r14 (.seq (.seq z525r15 (.block 2 (.loop z525l19))) (.seq z525r20 (.seq z525r21 .ret))))))))))⟩
def z543r0:IC:=.reg [⟨some 4, none,.asg (.c (.bool false))⟩] [0,1] []
def z543r1:IC:=.reg [⟨some 6, none,.mv (.t 0)⟩,⟨some 7, none,.len (.t 6)⟩,⟨some 8, none,.mv (.t 1)⟩,⟨some 9, none,.len (.t 8)⟩,⟨some 10, none,.bin .neq (.t 7) (.t 9)⟩] [0,1,10] []
def z543r2:IC:=.reg [⟨some 4, none,.asg (.c (.bool false))⟩] [4] []
def z543r3:IC:=.reg [⟨some 5, none,.asg (.c (vi 0))⟩] [0,1,5] []
def z543r4:IC:=.reg [⟨some 11, none,.mv (.t 5)⟩,⟨some 12, none,.mv (.t 0)⟩,⟨some 13, none,.len (.t 12)⟩,⟨some 14, none,.bin .lss (.t 11) (.t 13)⟩] [0,1,5,14] []
def z543r5:IC:=.reg [⟨some 17, none,.mv (.t 0)⟩,⟨some 18, none,.mv (.t 5)⟩,⟨some 19, none,.iadr 1 (.t 17) (.t 18)⟩,⟨some 20, none,.load false 1 (.t 19)⟩,⟨some 21, none,.mv (.t 1)⟩,⟨some 22, none,.mv (.t 5)⟩,⟨some 23, none,.iadr 1 (.t 21) (.t 22)⟩,⟨some 24, none,.load false 1 (.t 23)⟩,⟨some 25, none,.call zl54 [(.rd,(.t 20)),(.rd,(.t 24))] true⟩,⟨some 26, none,.unop .not (.t 25)⟩] [0,1,5,26] []
def z543r6:IC:=.reg [⟨some 4, none,.asg (.c (.bool false))⟩] [4] []
def z543r7:IC:=.reg [⟨some 15, none,.mv (.t 5)⟩,⟨some 16, none,.bin .add (.t 15) (.c (vi 1))⟩,⟨some 5, none,.asg (.t 16)⟩] [0,1,5] []
def z543l8:IC:=(.seq (.seq z543r4 (.cond (.t 14) .skip (.exit 0))) (.seq (.block 1 (.seq z543r5 (.cond (.t 26) (.seq z543r6 .ret) .skip))) z543r7))
def z543r9:IC:=.reg [⟨some 4, none,.asg (.c (.bool true))⟩] [4] []
def zi543:IFun:=⟨[.t 4],[],(.seq z543r0 (.seq (.seq z543r1 (.cond (.t 10) (.seq z543r2 .ret) .skip)) (.seq (.seq z543r3 (.block 0 (.loop z543l8))) (.seq z543r9 .ret))))⟩
def z53r0:IC:=.reg [⟨some 4, none,.asg (.c (.bool false))⟩] [0,1] []
def z53r1:IC:=.reg [⟨some 6, none,.mv (.t 0)⟩,⟨some 7, none,.len (.t 6)⟩,⟨some 8, none,.mv (.t 1)⟩,⟨some 9, none,.len (.t 8)⟩,⟨some 10, none,.bin .neq (.t 7) (.t 9)⟩] [0,1,10] []
def z53r2:IC:=.reg [⟨some 4, none,.asg (.c (.bool false))⟩] [4] []
def z53r3:IC:=.reg [⟨some 5, none,.asg (.c (vi 0))⟩] [0,1,5] []
def z53r4:IC:=.reg [⟨some 11, none,.mv (.t 5)⟩,⟨some 12, none,.mv (.t 0)⟩,⟨some 13, none,.len (.t 12)⟩,⟨some 14, none,.bin .lss (.t 11) (.t 13)⟩] [0,1,5,14] []
def z53r5:IC:=.reg [⟨some 17, none,.mv (.t 0)⟩,⟨some 18, none,.mv (.t 5)⟩,⟨some 19, none,.iadr 1 (.t 17) (.t 18)⟩,⟨some 20, none,.load false 1 (.t 19)⟩,⟨some 21, none,.mv (.t 1)⟩,⟨some 22, none,.mv (.t 5)⟩,⟨some 23, none,.iadr 1 (.t 21) (.t 22)⟩,⟨some 24, none,.load false 1 (.t 23)⟩,⟨some 25, none,.bin .neq (.t 20) (.t 24)⟩] [0,1,5,25] []
def z53r6:IC:=.reg [⟨some 4, none,.asg (.c (.bool false))⟩] [4] []
def z53r7:IC:=.reg [⟨some 15, none,.mv (.t 5)⟩,⟨some 16, none,.bin .add (.t 15) (.c (vi 1))⟩,⟨some 5, none,.asg (.t 16)⟩] [0,1,5] []
def z53l8:IC:=(.seq (.seq z53r4 (.cond (.t 14) .skip (.exit 0))) (.seq (.block 1 (.seq z53r5 (.cond (.t 25) (.seq z53r6 .ret) .skip))) z53r7))
def z53r9:IC:=.reg [⟨some 4, none,.asg (.c (.bool true))⟩] [4] []
def zi53:IFun:=⟨[.t 4],[],(.seq z53r0 (.seq (.seq z53r1 (.cond (.t 10) (.seq z53r2 .ret) .skip)) (.seq (.seq z53r3 (.block 0 (.loop z53l8))) (.seq z53r9 .ret))))⟩
def z54r0:IC:=.reg [⟨some 4, none,.asg (.c (.bool false))⟩] [0,1] []
def z54r1:IC:=.reg [⟨some 6, none,.mv (.t 0)⟩,⟨some 7, none,.len (.t 6)⟩,⟨some 8, none,.mv (.t 1)⟩,⟨some 9, none,.len (.t 8)⟩,⟨some 10, none,.bin .neq (.t 7) (.t 9)⟩] [0,1,10] []
def z54r2:IC:=.reg [⟨some 4, none,.asg (.c (.bool false))⟩] [4] []
def z54r3:IC:=.reg [⟨some 5, none,.asg (.c (vi 0))⟩] [0,1,5] []
def z54r4:IC:=.reg [⟨some 11, none,.mv (.t 5)⟩,⟨some 12, none,.mv (.t 0)⟩,⟨some 13, none,.len (.t 12)⟩,⟨some 14, none,.bin .lss (.t 11) (.t 13)⟩] [0,1,5,14] []
def z54r5:IC:=.reg [⟨some 17, none,.mv (.t 0)⟩,⟨some 18, none,.mv (.t 5)⟩,⟨some 19, none,.iadr 1 (.t 17) (.t 18)⟩,⟨some 20, none,.load false 1 (.t 19)⟩,⟨some 21, none,.mv (.t 1)⟩,⟨some 22, none,.mv (.t 5)⟩,⟨some 23, none,.iadr 1 (.t 21) (.t 22)⟩,⟨some 24, none,.load false 1 (.t 23)⟩,⟨some 25, none,.call zl53 [(.rd,(.t 20)),(.rd,(.t 24))] true⟩,⟨some 26, none,.unop .not (.t 25)⟩] [0,1,5,26] []
def z54r6:IC:=.reg [⟨some 4, none,.asg (.c (.bool false))⟩] [4] []
def z54r7:IC:=.reg [⟨some 15, none,.mv (.t 5)⟩,⟨some 16, none,.bin .add (.t 15) (.c (vi 1))⟩,⟨some 5, none,.asg (.t 16)⟩] [0,1,5] []
def z54l8:IC:=(.seq (.seq z54r4 (.cond (.t 14) .skip (.exit 0))) (.seq (.block 1 (.seq z54r5 (.cond (.t 26) (.seq z54r6 .ret) .skip))) z54r7))
def z54r9:IC:=.reg [⟨some 4, none,.asg (.c (.bool true))⟩] [4] []
def zi54:IFun:=⟨[.t 4],[],(.seq z54r0 (.seq (.seq z54r1 (.cond (.t 10) (.seq z54r2 .ret) .skip)) (.seq (.seq z54r3 (.block 0 (.loop z54l8))) (.seq z54r9 .ret))))⟩
def z65r0:IC:=.reg [⟨some 2, none,.asg (.c (vi 0))⟩] [0] []
def z65r1:IC:=.reg [⟨some 3, none,.asg (.c (vi 0))⟩] [0,3] []
def z65r2:IC:=.reg [⟨some 4, none,.asg (.c (vi 0))⟩] [0,3,4] []
def z65r3:IC:=.reg [⟨some 5, none,.mv (.t 4)⟩,⟨some 6, none,.mv (.t 0)⟩,⟨some 7, none,.len (.t 6)⟩,⟨some 8, none,.bin .lss (.t 5) (.t 7)⟩] [0,3,4,8] []
def z65r4:IC:=.reg [⟨some 11, none,.mv (.t 3)⟩,⟨some 12, none,.mv (.t 0)⟩,⟨some 13, none,.mv (.t 4)⟩,⟨some 14, none,.iadr 1 (.t 12) (.t 13)⟩,⟨some 15, none,.load false 1 (.t 14)⟩,⟨some 16, none,.bin .add (.t 11) (.t 15)⟩,⟨some 3, none,.asg (.t 16)⟩] [0,3,4] []
def z65r5:IC:=.reg [⟨some 9, none,.mv (.t 4)⟩,⟨some 10, none,.bin .add (.t 9) (.c (vi 1))⟩,⟨some 4, none,.asg (.t 10)⟩] [0,3,4] []
def z65l6:IC:=(.seq (.seq z65r3 (.cond (.t 8) .skip (.exit 0))) (.seq (.block 1 z65r4) z65r5))
def z65r7:IC:=.reg [⟨some 17, none,.mv (.t 3)⟩,⟨some 2, none,.asgm (.t 17)⟩] [2] []
def zi65:IFun:=⟨[.t 2],[],(.seq z65r0 (.seq z65r1 (.seq (.seq z65r2 (.block 0 (.loop z65l6))) (.seq z65r7 .ret))))⟩
def z66r0:IC:=.reg [⟨some 2, none,.asg (.c (vi 0))⟩] [0] []
def z66r1:IC:=.reg [⟨some 3, none,.mv (.t 0)⟩,⟨some 4, none,.conv .u32 (.t 3)⟩,⟨some 5, none,.call zl67 [(.val,(.t 4))] true⟩,⟨some 2, none,.asg (.t 5)⟩] [2] []
def z66r2:IC:=.reg [⟨some 6, none,.mv (.t 0)⟩,⟨some 7, none,.call zl68 [(.val,(.t 6))] true⟩,⟨some 2, none,.asg (.t 7)⟩] [2] []
def zi66:IFun:=⟨[.t 2],[],(.seq z66r0 (.seq (.cond (.c (.bool false)) (.seq z66r1 .ret) .skip) (.seq z66r2 .ret)))⟩
def z68r0:IC:=.reg [⟨some 2, none,.asg (.c (vi 0))⟩] [0,2] []
def z68r1:IC:=.reg [⟨some 3, none,.mv (.t 0)⟩,⟨some 4, none,.bin .geq (.t 3) (.c (.int .u64 (4294967296)))⟩] [0,2,4] []
def z68r2:IC:=.reg [⟨some 5, none,.mv (.t 0)⟩,⟨some 6, none,.bin .shr (.t 5) (.c (.int .u64 (32)))⟩,⟨some 0, none,.asg (.t 6)⟩] [0] []
def z68r3:IC:=.reg [⟨some 2, none,.asg (.c (vi 32))⟩] [0,2] []
def z68r4:IC:=.reg [⟨some 7, none,.mv (.t 0)⟩,⟨some 8, none,.bin .geq (.t 7) (.c (.int .u64 (65536)))⟩] [0,2,8] []
def z68r5:IC:=.reg [⟨some 9, none,.mv (.t 0)⟩,⟨some 10, none,.bin .shr (.t 9) (.c (.int .u64 (16)))⟩,⟨some 0, none,.asg (.t 10)⟩] [0,2] []
def z68r6:IC:=.reg [⟨some 11, none,.mv (.t 2)⟩,⟨some 12, none,.bin .add (.t 11) (.c (vi 16))⟩,⟨some 2, none,.asg (.t 12)⟩] [0,2] []
def z68r7:IC:=.reg [⟨some 13, none,.mv (.t 0)⟩,⟨some 14, none,.bin .geq (.t 13) (.c (.int .u64 (256)))⟩] [0,2,14] []
def z68r8:IC:=.reg [⟨some 15, none,.mv (.t 0)⟩,⟨some 16, none,.bin .shr (.t 15) (.c (.int .u64 (8)))⟩,⟨some 0, none,.asg (.t 16)⟩] [0,2] []
def z68r9:IC:=.reg [⟨some 17, none,.mv (.t 2)⟩,⟨some 18, none,.bin .add (.t 17) (.c (vi 8))⟩,⟨some 2, none,.asg (.t 18)⟩] [0,2] []
def z68r10:IC:=.reg [⟨some 19, none,.mv (.t 2)⟩,⟨some 20, none,.mv (.t 0)⟩,⟨some 21, none,.conv .u8 (.t 20)⟩,⟨some 22, none,.idxs (.c (.string ⟨#[0,1,2,2,3,3,3,3,4,4,4,4,4,4,4,4,5,5,5,5,5,5,5,5,5,5,5,5,5,5,5,5,6,6,6,6,6,6,6,6,6,6,6,6,6,6,6,6,6,6,6,6,6,6,6,6,6,6,6,6,6,6,6,6,7,7,7,7,7,7,7,7,7,7,7,7,7,7,7,7,7,7,7,7,7,7,7,7,7,7,7,7,7,7,7,7,7,7,7,7,7,7,7,7,7,7,7,7,7,7,7,7,7,7,7,7,7,7,7,7,7,7,7,7,7,7,7,7,8,8,8,8,8,8,8,8,8,8,8,8,8,8,8,8,8,8,8,8,8,8,8,8,8,8,8,8,8,8,8,8,8,8,8,8,8,8,8,8,8,8,8,8,8,8,8,8,8,8,8,8,8,8,8,8,8,8,8,8,8,8,8,8,8,8,8,8,8,8,8,8,8,8,8,8,8,8,8,8,8,8,8,8,8,8,8,8,8,8,8,8,8,8,8,8,8,8,8,8,8,8,8,8,8,8,8,8,8,8,8,8,8,8,8,8,8,8,8,8,8,8,8,8,8,8,8,8]⟩)) (.t 21)⟩,⟨some 23, none,.conv .i64 (.t 22)⟩,⟨some 24, none,.bin .add (.t 19) (.t 23)⟩,⟨some 2, none,.asg (.t 24)⟩] [2] []
def zi68:IFun:=⟨[.t 2],[],(.seq z68r0 (.seq (.seq z68r1 (.cond (.t 4) (.seq z68r2 z68r3) .skip)) (.seq (.seq z68r4 (.cond (.t 8) (.seq z68r5 z68r6) .skip)) (.seq (.seq z68r7 (.cond (.t 14) (.seq z68r8 z68r9) .skip)) (.seq z68r10 .ret)))))⟩
def z547r0:IC:=.reg [⟨some 2, none,.asg (.c (.slice none 0 0))⟩] [0] []
def z547r1:IC:=.reg [⟨some 3, none,.mv (.t 0)⟩,⟨some 4, none,.mv (.t 0)⟩,⟨some 5, none,.len (.t 4)⟩,⟨some 6, none,.mv (.t 0)⟩,⟨some 7, none,.len (.t 6)⟩,⟨some 8, none,.slc 1 (.t 3) none (some (.t 5)) (some (.t 7))⟩,⟨some 2, none,.asgm (.t 8)⟩] [0,2] []
def zi547:IFun:=⟨[.t 2],[],(.seq z547r0 (.seq z547r1 .ret))⟩
def z258r0:IC:=.reg [⟨some 2, none,.asg (.c (.slice none 0 0))⟩] [0] []
def z258r1:IC:=.reg [⟨some 3, none,.mv (.t 0)⟩,⟨some 4, none,.mv (.t 0)⟩,⟨some 5, none,.len (.t 4)⟩,⟨some 6, none,.mv (.t 0)⟩,⟨some 7, none,.len (.t 6)⟩,⟨some 8, none,.slc 2 (.t 3) none (some (.t 5)) (some (.t 7))⟩,⟨some 2, none,.asgm (.t 8)⟩] [0,2] []
def zi258:IFun:=⟨[.t 2],[],(.seq z258r0 (.seq z258r1 .ret))⟩
def z70r0:IC:=.reg [⟨some 2, none,.asg (.c (.slice none 0 0))⟩] [0] []
def z70r1:IC:=.reg [⟨some 3, none,.mv (.t 0)⟩,⟨some 4, none,.mv (.t 0)⟩,⟨some 5, none,.len (.t 4)⟩,⟨some 6, none,.mv (.t 0)⟩,⟨some 7, none,.len (.t 6)⟩,⟨some 8, none,.slc 1 (.t 3) none (some (.t 5)) (some (.t 7))⟩,⟨some 2, none,.asgm (.t 8)⟩] [0,2] []
def zi70:IFun:=⟨[.t 2],[],(.seq z70r0 (.seq z70r1 .ret))⟩
def z261r0:IC:=.reg [⟨some 2, none,.nilo 2⟩] [0] []
def z261r1:List IOp:=[⟨some 3, none,.mv (.t 0)⟩]
def z261r2:IC:=.reg [⟨some 2, none,.nilo 2⟩] [2] []
def z261r3:IC:=.reg [⟨some 5, none,.bsl 2 [(vi 0),(vi 0)] 0 []⟩,⟨some 6, none,.mv (.t 0)⟩,⟨some 7, none,.app 2 (.t 5) (.t 6)⟩,⟨some 2, none,.asg (.t 7)⟩] [2] []
def zi261:IFun:=⟨[.t 2],[],(.seq z261r0 (.nilc2 z261r1 (.t 3) 4 [0,4] (.cond (.t 4) (.seq z261r2 .ret) .skip) (.seq z261r3 .ret)))⟩
def z71r0:IC:=.reg [⟨some 2, none,.nilo 1⟩] [0] []
def z71r1:List IOp:=[⟨some 3, none,.mv (.t 0)⟩]
def z71r2:IC:=.reg [⟨some 2, none,.nilo 1⟩] [2] []
def z71r3:IC:=.reg [⟨some 5, none,.bsl 1 [(vi 0)] 0 []⟩,⟨some 6, none,.mv (.t 0)⟩,⟨some 7, none,.app 1 (.t 5) (.t 6)⟩,⟨some 2, none,.asg (.t 7)⟩] [2] []
def zi71:IFun:=⟨[.t 2],[],(.seq z71r0 (.nilc2 z71r1 (.t 3) 4 [0,4] (.cond (.t 4) (.seq z71r2 .ret) .skip) (.seq z71r3 .ret)))⟩
def z72r0:IC:=.reg [⟨some 4, none,.asg (.c (.bool false))⟩] [0,1] []
def z72r1:IC:=.reg [⟨some 5, none,.mv (.t 0)⟩,⟨some 6, none,.mv (.t 1)⟩,⟨some 7, none,.call zl73 [(.rd,(.t 5)),(.val,(.t 6))] false⟩,⟨some 8, none,.bin .geq (.t 7) (.c (vi 0))⟩,⟨some 4, none,.asg (.t 8)⟩] [4] []
def zi72:IFun:=⟨[.t 4],[],(.seq z72r0 (.seq z72r1 .ret))⟩
def z73r0:IC:=.reg [⟨some 4, none,.asg (.c (vi 0))⟩] [0,1] []
def z73r1:IC:=.reg [⟨some 6, none,.mv (.t 0)⟩,⟨some 7, none,.len (.t 6)⟩,⟨some 8, none,.mv (.c (vi 0))⟩] [0,1,7,8] []
def z73r2:IC:=.reg [⟨some 9, none,.bin .lss (.t 8) (.t 7)⟩] [0,1,7,8,9] []
def z73r3:IC:=.reg [⟨some 10, none,.asg (.t 8)⟩,⟨some 5, none,.asg (.t 10)⟩] [0,1,5,7,8] []
def z73r4:IC:=.reg [⟨some 11, none,.mv (.t 1)⟩,⟨some 12, none,.mv (.t 0)⟩,⟨some 13, none,.mv (.t 5)⟩,⟨some 14, none,.iadr 1 (.t 12) (.t 13)⟩,⟨some 15, none,.load false 1 (.t 14)⟩,⟨some 16, none,.callv (.t 11) [(.val,(.t 15))]⟩] [0,1,5,7,8,16] []
def z73r5:IC:=.reg [⟨some 17, none,.mv (.t 5)⟩,⟨some 4, none,.asgm (.t 17)⟩] [4] []
def z73r6:IC:=.reg [⟨some 18, none,.bin .add (.t 8) (.c (vi 1))⟩,⟨some 8, none,.asg (.t 18)⟩] [0,1,7,8] []
def z73l7:IC:=(.seq z73r2 (.seq (.cond (.t 9) .skip (.exit 0)) (.seq (.block 1 (.seq z73r3 (.seq z73r4 (.cond (.t 16) (.seq z73r5 .ret) .skip)))) z73r6)))
def z73r8:IC:=.reg [⟨some 4, none,.asg (.c (vi (-1)))⟩] [4] []
def zi73:IFun:=⟨[.t 4],[],(.seq z73r0 (.seq (.seq z73r1 (.block 0 (.loop z73l7))) (.seq z73r8 .ret)))⟩
def z75r0:IC:=.reg [⟨some 2, none,.asg (.c (vi 0))⟩] [0] []
def z75r1:IC:=.reg [⟨some 5, none,.mv (.t 0)⟩,⟨some 6, none,.len (.t 5)⟩,⟨some 7, none,.bin .lss (.t 6) (.c (vi 1))⟩] [0,7] []
def z75r2:IC:=.reg [⟨some 8, none,.halt⟩,⟨none,none,.halt⟩] [0] []
def z75r3:IC:=.reg [⟨some 9, none,.mv (.t 0)⟩,⟨some 10, none,.iadr 1 (.t 9) (.c (vi 0))⟩,⟨some 11, none,.load false 1 (.t 10)⟩,⟨some 3, none,.asg (.t 11)⟩] [0,3] []
def z75r4:IC:=.reg [⟨some 4, none,.asg (.c (vi 1))⟩] [0,3,4] []
def z75r5:IC:=.reg [⟨some 12, none,.mv (.t 4)⟩,⟨some 13, none,.mv (.t 0)⟩,⟨some 14, none,.len (.t 13)⟩,⟨some 15, none,.bin .lss (.t 12) (.t 14)⟩] [0,3,4,15] []
def z75r6:IC:=.reg [⟨some 18, none,.mv (.t 3)⟩,⟨some 19, none,.mv (.t 0)⟩,⟨some 20, none,.mv (.t 4)⟩,⟨some 21, none,.iadr 1 (.t 19) (.t 20)⟩,⟨some 22, none,.load false 1 (.t 21)⟩,⟨some 23, none,.minmax true (.t 18) (.t 22)⟩,⟨some 3, none,.asg (.t 23)⟩] [0,3,4] []
def z75r7:IC:=.reg [⟨some 16, none,.mv (.t 4)⟩,⟨some 17, none,.bin .add (.t 16) (.c (vi 1))⟩,⟨some 4, none,.asg (.t 17)⟩] [0,3,4] []
def z75l8:IC:=(.seq (.seq z75r5 (.cond (.t 15) .skip (.exit 0))) (.seq (.block 1 z75r6) z75r7))
def z75r9:IC:=.reg [⟨some 24, none,.mv (.t 3)⟩,⟨some 2, none,.asgm (.t 24)⟩] [2] []
def zi75:IFun:=⟨[.t 2],[],(.seq z75r0 (.seq (.seq z75r1 (.cond (.t 7) z75r2 .skip)) (.seq z75r3 (.seq (.seq z75r4 (.block 0 (.loop z75l8))) (.seq z75r9 .ret)))))⟩
def z76r0:IC:=.reg [⟨some 4, none,.mv (.t 0)⟩,⟨some 5, none,.len (.t 4)⟩,⟨some 6, none,.bin .sub (.t 5) (.c (vi 1))⟩,⟨some 2, none,.asg (.c (vi 0))⟩,⟨some 3, none,.asg (.t 6)⟩] [0,2,3] []
def z76r1:IC:=.reg [⟨some 7, none,.mv (.t 2)⟩,⟨some 8, none,.mv (.t 3)⟩,⟨some 9, none,.bin .lss (.t 7) (.t 8)⟩] [0,2,3,9] []
def z76r2:IC:=.reg [⟨some 14, none,.mv (.t 0)⟩,⟨some 15, none,.mv (.t 2)⟩,⟨some 16, none,.mv (.t 0)⟩,⟨some 17, none,.mv (.t 3)⟩,⟨some 18, none,.mv (.t 0)⟩,⟨some 19, none,.mv (.t 3)⟩,⟨some 20, none,.iadr 1 (.t 18) (.t 19)⟩,⟨some 21, none,.load false 1 (.t 20)⟩,⟨some 22, none,.mv (.t 0)⟩,⟨some 23, none,.mv (.t 2)⟩,⟨some 24, none,.iadr 1 (.t 22) (.t 23)⟩,⟨some 25, none,.load false 1 (.t 24)⟩,⟨some 26, none,.iadr 1 (.t 14) (.t 15)⟩,⟨none,none,.store 1 (.t 26) (.t 21)⟩,⟨some 27, none,.iadr 1 (.t 16) (.t 17)⟩,⟨none,none,.store 1 (.t 27) (.t 25)⟩] [0,2,3] []
def z76r3:IC:=.reg [⟨some 10, none,.mv (.t 2)⟩,⟨some 11, none,.bin .add (.t 10) (.c (vi 1))⟩,⟨some 12, none,.mv (.t 3)⟩,⟨some 13, none,.bin .sub (.t 12) (.c (vi 1))⟩,⟨some 2, none,.asg (.t 11)⟩,⟨some 3, none,.asg (.t 13)⟩] [0,2,3] []
def z76l4:IC:=(.seq (.seq z76r1 (.cond (.t 9) .skip (.exit 0))) (.seq (.block 1 z76r2) z76r3))
def zi76:IFun:=⟨[],[0],(.seq z76r0 (.block 0 (.loop z76l4)))⟩
def z78r0:IC:=.reg [⟨some 3, none,.mv (.t 0)⟩,⟨some 4, none,.len (.t 3)⟩,⟨some 2, none,.asg (.t 4)⟩] [0,2] []
def z78r1:IC:=.reg [⟨some 5, none,.mv (.t 0)⟩,⟨some 6, none,.mv (.t 2)⟩,⟨some 7, none,.mv (.t 2)⟩,⟨some 8, none,.conv .u64 (.t 7)⟩,⟨some 9, none,.call zl66 [(.val,(.t 8))] true⟩,⟨some 10, none,.call zl101 [(.ld,(.t 5)),(.val,(.c (vi 0))),(.val,(.t 6)),(.val,(.t 9))] false⟩] [0] []
def zi78:IFun:=⟨[],[0],(.seq z78r0 z78r1)⟩
def z86r0:IC:=.reg [⟨some 8, none,.mv (.t 1)⟩,⟨some 9, none,.bin .add (.t 8) (.c (vi 1))⟩,⟨some 6, none,.asg (.t 9)⟩] [0,1,2,6] []
def z86r1:IC:=.reg [⟨some 10, none,.mv (.t 6)⟩,⟨some 11, none,.mv (.t 2)⟩,⟨some 12, none,.bin .lss (.t 10) (.t 11)⟩] [0,1,2,6,12] []
def z86r2:IC:=.reg [⟨some 15, none,.mv (.t 6)⟩,⟨some 7, none,.asg (.t 15)⟩] [0,1,2,6,7] []
def z86r3:IC:=.reg [⟨some 16, none,.mv (.t 7)⟩,⟨some 17, none,.mv (.t 1)⟩,⟨some 18, none,.bin .gtr (.t 16) (.t 17)⟩,⟨some 19, none,.asg (.t 18)⟩,⟨some 20, (some (19,true)),.mv (.t 0)⟩,⟨some 21, (some (19,true)),.mv (.t 7)⟩,⟨some 22, (some (19,true)),.iadr 1 (.t 20) (.t 21)⟩,⟨some 23, (some (19,true)),.load false 1 (.t 22)⟩,⟨some 24, (some (19,true)),.mv (.t 0)⟩,⟨some 25, (some (19,true)),.mv (.t 7)⟩,⟨some 26, (some (19,true)),.bin .sub (.t 25) (.c (vi 1))⟩,⟨some 27, (some (19,true)),.iadr 1 (.t 24) (.t 26)⟩,⟨some 28, (some (19,true)),.load false 1 (.t 27)⟩,⟨some 29, (some (19,true)),.call zl2 [(.val,(.t 23)),(.val,(.t 28))] true⟩,⟨some 30, none,.pick (.t 19) (.t 29) (.c (.bool false))⟩] [0,1,2,6,7,30] []
def z86r4:IC:=.reg [⟨some 33, none,.mv (.t 0)⟩,⟨some 34, none,.mv (.t 7)⟩,⟨some 35, none,.mv (.t 0)⟩,⟨some 36, none,.mv (.t 7)⟩,⟨some 37, none,.bin .sub (.t 36) (.c (vi 1))⟩,⟨some 38, none,.mv (.t 0)⟩,⟨some 39, none,.mv (.t 7)⟩,⟨some 40, none,.bin .sub (.t 39) (.c (vi 1))⟩,⟨some 41, none,.iadr 1 (.t 38) (.t 40)⟩,⟨some 42, none,.load false 1 (.t 41)⟩,⟨some 43, none,.mv (.t 0)⟩,⟨some 44, none,.mv (.t 7)⟩,⟨some 45, none,.iadr 1 (.t 43) (.t 44)⟩,⟨some 46, none,.load false 1 (.t 45)⟩,⟨some 47, none,.iadr 1 (.t 33) (.t 34)⟩,⟨none,none,.store 1 (.t 47) (.t 42)⟩,⟨some 48, none,.iadr 1 (.t 35) (.t 37)⟩,⟨none,none,.store 1 (.t 48) (.t 46)⟩] [0,1,2,6,7] []
def z86r5:IC:=.reg [⟨some 31, none,.mv (.t 7)⟩,⟨some 32, none,.bin .sub (.t 31) (.c (vi 1))⟩,⟨some 7, none,.asg (.t 32)⟩] [0,1,2,6,7] []
def z86l6:IC:=(.seq (.seq z86r3 (.cond (.t 30) .skip (.exit 2))) (.seq (.block 3 z86r4) z86r5))
def z86r7:IC:=.reg [⟨some 13, none,.mv (.t 6)⟩,⟨some 14, none,.bin .add (.t 13) (.c (vi 1))⟩,⟨some 6, none,.asg (.t 14)⟩] [0,1,2,6] []
def z86l8:IC:=(.seq (.seq z86r1 (.cond (.t 12) .skip (.exit 0))) (.seq (.block 1 (.seq z86r2 (.block 2 (.loop z86l6)))) z86r7))
def zi86:IFun:=⟨[],[0],(.seq z86r0 (.block 0 (.loop z86l8)))⟩
def z101r0:IC:=.reg [⟨some 8, none,.asg (.c (.bool true))⟩] [0,1,2,3,8] []
def z101r1:IC:=.reg [⟨some 9, none,.asg (.c (.bool true))⟩] [0,1,2,3,8,9] []
def z101r2:IC:=.reg [⟨some 19, none,.mv (.t 2)⟩,⟨some 20, none,.mv (.t 1)⟩,⟨some 21, none,.bin .sub (.t 19) (.t 20)⟩,⟨some 10, none,.asg (.t 21)⟩] [0,1,2,3,8,9,10] []
def z101r3:IC:=.reg [⟨some 22, none,.mv (.t 10)⟩,⟨some 23, none,.bin .leq (.t 22) (.c (vi 12))⟩] [0,1,2,3,8,9,10,23] []
def z101r4:IC:=.reg [⟨some 24, none,.mv (.t 0)⟩,⟨some 25, none,.mv (.t 1)⟩,⟨some 26, none,.mv (.t 2)⟩,⟨some 27, none,.call zl86 [(.ld,(.t 24)),(.val,(.t 25)),(.val,(.t 26))] false⟩] [0] []
def z101r5:IC:=.reg [⟨some 28, none,.mv (.t 3)⟩,⟨some 29, none,.bin .eql (.t 28) (.c (vi 0))⟩] [0,1,2,3,8,9,10,29] []
def z101r6:IC:=.reg [⟨some 30, none,.mv (.t 0)⟩,⟨some 31, none,.mv (.t 1)⟩,⟨some 32, none,.mv (.t 2)⟩,⟨some 33, none,.call zl84 [(.ld,(.t 30)),(.val,(.t 31)),(.val,(.t 32))] false⟩] [0] []
def z101r7:IC:=.reg [⟨some 34, none,.mv (.t 8)⟩,⟨some 35, none,.unop .not (.t 34)⟩] [0,1,2,3,8,9,10,35] []
def z101r8:IC:=.reg [⟨some 36, none,.mv (.t 0)⟩,⟨some 37, none,.mv (.t 1)⟩,⟨some 38, none,.mv (.t 2)⟩,⟨some 39, none,.call zl80 [(.ld,(.t 36)),(.val,(.t 37)),(.val,(.t 38))] false⟩] [0,1,2,3,8,9,10] []
def z101r9:IC:=.reg [⟨some 40, none,.mv (.t 3)⟩,⟨some 41, none,.bin .sub (.t 40) (.c (vi 1))⟩,⟨some 3, none,.asg (.t 41)⟩] [0,1,2,3,8,9,10] []
def z101r10:IC:=.reg [⟨some 43, none,.mv (.t 0)⟩,⟨some 44, none,.mv (.t 1)⟩,⟨some 45, none,.mv (.t 2)⟩,⟨some 46, none,.call zl82 [(.rd,(.t 43)),(.val,(.t 44)),(.val,(.t 45))] true⟩,⟨some 42, none,.asg (.t 46)⟩,⟨some 47, none,.extr (.t 42) 0⟩,⟨some 48, none,.extr (.t 42) 1⟩,⟨some 11, none,.asg (.t 47)⟩,⟨some 12, none,.asg (.t 48)⟩] [0,1,2,3,8,9,10,11,12] []
def z101r11:IC:=.reg [⟨some 49, none,.mv (.t 12)⟩,⟨some 50, none,.bin .eql (.t 49) (.c (vi 2))⟩] [0,1,2,3,8,9,10,11,12,50] []
def z101r12:IC:=.reg [⟨some 51, none,.mv (.t 0)⟩,⟨some 52, none,.mv (.t 1)⟩,⟨some 53, none,.mv (.t 2)⟩,⟨some 54, none,.call zl103 [(.ld,(.t 51)),(.val,(.t 52)),(.val,(.t 53))] false⟩] [0,1,2,3,8,9,10,11] []
def z101r13:IC:=.reg [⟨some 55, none,.mv (.t 2)⟩,⟨some 56, none,.bin .sub (.t 55) (.c (vi 1))⟩,⟨some 57, none,.mv (.t 11)⟩,⟨some 58, none,.mv (.t 1)⟩,⟨some 59, none,.bin .sub (.t 57) (.t 58)⟩,⟨some 60, none,.bin .sub (.t 56) (.t 59)⟩,⟨some 11, none,.asg (.t 60)⟩] [0,1,2,3,8,9,10,11] []
def z101r14:IC:=.reg [⟨some 12, none,.asg (.c (vi 1))⟩] [0,1,2,3,8,9,10,11,12] []
def z101r15:IC:=.reg [⟨some 61, none,.mv (.t 8)⟩,⟨some 62, none,.asg (.t 61)⟩,⟨some 63, (some (62,true)),.mv (.t 9)⟩,⟨some 64, none,.pick (.t 62) (.t 63) (.c (.bool false))⟩,⟨some 65, none,.asg (.t 64)⟩,⟨some 66, (some (65,true)),.mv (.t 12)⟩,⟨some 67, (some (65,true)),.bin .eql (.t 66) (.c (vi 1))⟩,⟨some 68, none,.pick (.t 65) (.t 67) (.c (.bool false))⟩] [0,1,2,3,8,9,10,11,68] []
def z101r16:IC:=.reg [⟨some 69, none,.mv (.t 0)⟩,⟨some 70, none,.mv (.t 1)⟩,⟨some 71, none,.mv (.t 2)⟩,⟨some 72, none,.call zl95 [(.ld,(.t 69)),(.val,(.t 70)),(.val,(.t 71))] false⟩] [0,1,2,3,8,9,10,11,72] []
def z101r17:IC:=.reg [⟨some 73, none,.mv (.t 1)⟩,⟨some 74, none,.bin .gtr (.t 73) (.c (vi 0))⟩,⟨some 75, none,.asg (.t 74)⟩,⟨some 76, (some (75,true)),.mv (.t 0)⟩,⟨some 77, (some (75,true)),.mv (.t 1)⟩,⟨some 78, (some (75,true)),.bin .sub (.t 77) (.c (vi 1))⟩,⟨some 79, (some (75,true)),.iadr 1 (.t 76) (.t 78)⟩,⟨some 80, (some (75,true)),.load false 1 (.t 79)⟩,⟨some 81, (some (75,true)),.mv (.t 0)⟩,⟨some 82, (some (75,true)),.mv (.t 11)⟩,⟨some 83, (some (75,true)),.iadr 1 (.t 81) (.t 82)⟩,⟨some 84, (some (75,true)),.load false 1 (.t 83)⟩,⟨some 85, (some (75,true)),.call zl2 [(.val,(.t 80)),(.val,(.t 84))] true⟩,⟨some 86, (some (75,true)),.unop .not (.t 85)⟩,⟨some 87, none,.pick (.t 75) (.t 86) (.c (.bool false))⟩] [0,1,2,3,8,9,10,11,87] []
def z101r18:IC:=.reg [⟨some 88, none,.mv (.t 0)⟩,⟨some 89, none,.mv (.t 1)⟩,⟨some 90, none,.mv (.t 2)⟩,⟨some 91, none,.mv (.t 11)⟩,⟨some 92, none,.call zl98 [(.ld,(.t 88)),(.val,(.t 89)),(.val,(.t 90)),(.val,(.t 91))] false⟩,⟨some 13, none,.asg (.t 92)⟩] [0,2,3,8,9,13] []
def z101r19:IC:=.reg [⟨some 93, none,.mv (.t 13)⟩,⟨some 1, none,.asgm (.t 93)⟩] [0,1,2,3,8,9] []
def z101r20:IC:=.reg [⟨some 95, none,.mv (.t 0)⟩,⟨some 96, none,.mv (.t 1)⟩,⟨some 97, none,.mv (.t 2)⟩,⟨some 98, none,.mv (.t 11)⟩,⟨some 99, none,.call zl99 [(.ld,(.t 95)),(.val,(.t 96)),(.val,(.t 97)),(.val,(.t 98))] false⟩,⟨some 94, none,.asg (.t 99)⟩,⟨some 100, none,.extr (.t 94) 0⟩,⟨some 101, none,.extr (.t 94) 1⟩,⟨some 14, none,.asg (.t 100)⟩,⟨some 15, none,.asg (.t 101)⟩] [0,1,2,3,10,14,15] []
def z101r21:IC:=.reg [⟨some 102, none,.mv (.t 15)⟩,⟨some 9, none,.asgm (.t 102)⟩] [0,1,2,3,9,10,14] []
def z101r22:IC:=.reg [⟨some 103, none,.mv (.t 14)⟩,⟨some 104, none,.mv (.t 1)⟩,⟨some 105, none,.bin .sub (.t 103) (.t 104)⟩,⟨some 106, none,.mv (.t 2)⟩,⟨some 107, none,.mv (.t 14)⟩,⟨some 108, none,.bin .sub (.t 106) (.t 107)⟩,⟨some 16, none,.asg (.t 105)⟩,⟨some 17, none,.asg (.t 108)⟩] [0,1,2,3,9,10,14,16,17] []
def z101r23:IC:=.reg [⟨some 109, none,.mv (.t 10)⟩,⟨some 110, none,.bin .quo (.t 109) (.c (vi 8))⟩,⟨some 18, none,.asg (.t 110)⟩] [0,1,2,3,9,14,16,17,18] []
def z101r24:IC:=.reg [⟨some 111, none,.mv (.t 16)⟩,⟨some 112, none,.mv (.t 17)⟩,⟨some 113, none,.bin .lss (.t 111) (.t 112)⟩] [0,1,2,3,9,14,16,17,18,113] []
def z101r25:IC:=.reg [⟨some 114, none,.mv (.t 16)⟩,⟨some 115, none,.mv (.t 18)⟩,⟨some 116, none,.bin .geq (.t 114) (.t 115)⟩,⟨some 8, none,.asg (.t 116)⟩] [0,1,2,3,8,9,14] []
def z101r26:IC:=.reg [⟨some 117, none,.mv (.t 0)⟩,⟨some 118, none,.mv (.t 1)⟩,⟨some 119, none,.mv (.t 14)⟩,⟨some 120, none,.mv (.t 3)⟩,⟨some 121, none,.call zl101 [(.ld,(.t 117)),(.val,(.t 118)),(.val,(.t 119)),(.val,(.t 120))] false⟩] [0,2,3,8,9,14] []
def z101r27:IC:=.reg [⟨some 122, none,.mv (.t 14)⟩,⟨some 123, none,.bin .add (.t 122) (.c (vi 1))⟩,⟨some 1, none,.asg (.t 123)⟩] [0,1,2,3,8,9] []
def z101r28:IC:=.reg [⟨some 124, none,.mv (.t 17)⟩,⟨some 125, none,.mv (.t 18)⟩,⟨some 126, none,.bin .geq (.t 124) (.t 125)⟩,⟨some 8, none,.asg (.t 126)⟩] [0,1,2,3,8,9,14] []
def z101r29:IC:=.reg [⟨some 127, none,.mv (.t 0)⟩,⟨some 128, none,.mv (.t 14)⟩,⟨some 129, none,.bin .add (.t 128) (.c (vi 1))⟩,⟨some 130, none,.mv (.t 2)⟩,⟨some 131, none,.mv (.t 3)⟩,⟨some 132, none,.call zl101 [(.ld,(.t 127)),(.val,(.t 129)),(.val,(.t 130)),(.val,(.t 131))] false⟩] [0,1,3,8,9,14] []
def z101r30:IC:=.reg [⟨some 133, none,.mv (.t 14)⟩,⟨some 2, none,.asgm (.t 133)⟩] [0,1,2,3,8,9] []
def z101l31:IC:=(.block 1 (.seq z101r2 (.seq (.seq z101r3 (.cond (.t 23) (.seq z101r4 .ret) .skip)) (.seq (.seq z101r5 (.cond (.t 29) (.seq z101r6 .ret) .skip)) (.seq (.seq z101r7 (.cond (.t 35) (.seq z101r8 z101r9) .skip)) (.seq z101r10 (.seq (.seq z101r11 (.cond (.t 50) (.seq z101r12 (.seq z101r13 z101r14)) .skip)) (.seq (.seq z101r15 (.cond (.t 68) (.seq z101r16 (.cond (.t 72) .ret .skip)) .skip)) (.seq (.seq z101r17 (.cond (.t 87) (.seq z101r18 (.seq z101r19 (.exit 1))) .skip)) (.seq z101r20 (.seq z101r21 (.seq z101r22 (.seq z101r23 (.seq z101r24 (.cond (.t 113) (.seq z101r25 (.seq z101r26 z101r27)) (.seq z101r28 (.seq z101r29 z101r30)))))))))))))))))
def zi101:IFun:=⟨[],[0],(.seq z101r0 (.seq z101r1 (.block 0 (.loop z101l31))))⟩
def z556r0:IC:=.reg [⟨some 4, none,.asg (.c (.slice none 0 0))⟩] [0,1] []
def z556r1:IC:=.reg [⟨some 5, none,.mv (.t 0)⟩,⟨some 6, none,.mv (.t 1)⟩,⟨some 7, none,.call zl387 [(.rd,(.t 5)),(.rd,(.t 6))] true⟩,⟨some 8, none,.unop .not (.t 7)⟩,⟨some 9, none,.asg (.t 8)⟩,⟨some 10, (some (9,false)),.mv (.t 0)⟩,⟨some 11, (some (9,false)),.len (.t 10)⟩,⟨some 12, (some (9,false)),.bin .gtr (.t 11) (.c (vi 4))⟩,⟨some 13, none,.pick (.t 9) (.c (.bool true)) (.t 12)⟩,⟨some 14, none,.asg (.t 13)⟩,⟨some 15, (some (14,false)),.mv (.t 1)⟩,⟨some 16, (some (14,false)),.len (.t 15)⟩,⟨some 17, (some (14,false)),.bin .gtr (.t 16) (.c (vi 4))⟩,⟨some 18, none,.pick (.t 14) (.c (.bool true)) (.t 17)⟩] [0,1,18] []
def z556r2:IC:=.reg [⟨some 4, none,.asg (.c (.slice none 0 0))⟩] [4] []
def z556r3:IC:=.reg [⟨some 19, none,.bsl 1 [(.slice none 0 0)] 0 []⟩,⟨some 20, none,.mv (.t 0)⟩,⟨some 21, none,.mv (.t 1)⟩,⟨some 22, none,.call zl584 [(.rd,(.t 19)),(.rd,(.t 20)),(.rd,(.t 21))] true⟩,⟨some 4, none,.asg (.t 22)⟩] [4] []
def zi556:IFun:=⟨[.t 4],[],(.seq z556r0 (.seq (.seq z556r1 (.cond (.t 18) (.seq z556r2 .ret) .skip)) (.seq z556r3 .ret)))⟩
def z559r0:IC:=.reg [⟨some 2, none,.asg (.c (.slice none 0 0))⟩,⟨some 3, none,.asg (.c (.slice none 0 0))⟩] [0] []
def z559r1:IC:=.reg [⟨some 5, none,.mv (.t 0)⟩,⟨some 6, none,.call zl137 [(.rd,(.t 5))] false⟩,⟨some 4, none,.asg (.t 6)⟩] [4] []
def z559r2:IC:=.reg [⟨some 7, none,.mv (.t 4)⟩,⟨some 8, none,.call zl140 [(.val,(.t 7)),(.val,(.c (vi 24)))] false⟩,⟨some 9, none,.bin .eql (.t 8) (.c (vi 0))⟩] [4,9] []
def z559r3:IC:=.reg [⟨some 10, none,.mv (.t 4)⟩,⟨some 11, none,.call zl361 [(.val,(.t 10)),(.val,(.c (vi 5)))] false⟩,⟨some 12, none,.extr (.t 11) 0⟩,⟨some 13, none,.extr (.t 11) 1⟩,⟨some 2, none,.asg (.t 12)⟩,⟨some 3, none,.asg (.t 13)⟩] [2,3] []
def z559r4:IC:=.reg [⟨some 14, none,.mv (.t 4)⟩,⟨some 15, none,.call zl361 [(.val,(.t 14)),(.val,(.c (vi 4)))] false⟩,⟨some 16, none,.extr (.t 15) 0⟩,⟨some 17, none,.extr (.t 15) 1⟩,⟨some 2, none,.asg (.t 16)⟩,⟨some 3, none,.asg (.t 17)⟩] [2,3] []
def zi559:IFun:=⟨[.t 2,.t 3],[],(.seq z559r0 (.seq z559r1 (.seq (.seq z559r2 (.cond (.t 9) (.seq z559r3 .ret) .skip)) (.seq z559r4 .ret))))⟩
def z331r0:IC:=.reg [⟨some 6, none,.asg (.c (.slice none 0 0))⟩] [0,1,2] []
def z331r1:IC:=.reg [⟨some 11, none,.bsl 1 [(.slice none 0 0)] 0 []⟩,⟨some 7, none,.asg (.t 11)⟩] [0,1,2,7] []
def z331r2:IC:=.reg [⟨some 8, none,.asg (.c (vi 0))⟩] [0,1,2,7,8] []
def z331r3:IC:=.reg [⟨some 12, none,.mv (.t 8)⟩,⟨some 13, none,.mv (.t 1)⟩,⟨some 14, none,.bin .lss (.t 12) (.t 13)⟩] [0,1,2,7,8,14] []
def z331r4:IC:=.reg [⟨some 17, none,.bsl 1 [(vi 0)] 0 []⟩,⟨some 9, none,.asg (.t 17)⟩] [0,1,2,7,8,9] []
def z331r5:IC:=.reg [⟨some 10, none,.asg (.c (vi 0))⟩] [0,1,2,7,8,9,10] []
def z331r6:IC:=.reg [⟨some 18, none,.mv (.t 10)⟩,⟨some 19, none,.mv (.t 2)⟩,⟨some 20, none,.bin .lss (.t 18) (.t 19)⟩] [0,1,2,7,8,9,10,20] []
def z331r7:IC:=.reg [⟨some 23, none,.mv (.t 9)⟩,⟨some 24, none,.mv (.t 0)⟩,⟨some 25, none,.call zl140 [(.val,(.t 24)),(.val,(.c (vi 2)))] false⟩,⟨some 26, none,.bsl 1 [(vi 0)] 1 [(0,(.t 25))]⟩,⟨some 27, none,.app 1 (.t 23) (.t 26)⟩,⟨some 9, none,.asg (.t 27)⟩] [0,1,2,7,8,9,10] []
def z331r8:IC:=.reg [⟨some 21, none,.mv (.t 10)⟩,⟨some 22, none,.bin .add (.t 21) (.c (vi 1))⟩,⟨some 10, none,.asg (.t 22)⟩] [0,1,2,7,8,9,10] []
def z331l9:IC:=(.seq (.seq z331r6 (.cond (.t 20) .skip (.exit 2))) (.seq (.block 3 z331r7) z331r8))
def z331r10:IC:=.reg [⟨some 28, none,.mv (.t 7)⟩,⟨some 29, none,.mv (.t 9)⟩,⟨some 30, none,.bsl 1 [(.slice none 0 0)] 1 [(0,(.t 29))]⟩,⟨some 31, none,.app 1 (.t 28) (.t 30)⟩,⟨some 7, none,.asg (.t 31)⟩] [0,1,2,7,8] []
def z331r11:IC:=.reg [⟨some 15, none,.mv (.t 8)⟩,⟨some 16, none,.bin .add (.t 15) (.c (vi 1))⟩,⟨some 8, none,.asg (.t 16)⟩] [0,1,2,7,8] []
def z331l12:IC:=(.seq (.seq z331r3 (.cond (.t 14) .skip (.exit 0))) (.seq (.block 1 (.seq z331r4 (.seq (.seq z331r5 (.block 2 (.loop z331l9))) z331r10))) z331r11))
def z331r13:IC:=.reg [⟨some 32, none,.mv (.t 7)⟩,⟨some 6, none,.asgm (.t 32)⟩] [6,7] []
def zi331:IFun:=⟨[.t 6],[],(.seq z331r0 (.seq z331r1 (.seq (.seq z331r2 (.block 0 (.loop z331l12))) (.seq z331r13 .ret))))⟩
def z123r0:IC:=.reg [⟨some 2, none,.asg (.c (.slice none 0 0))⟩] [0] []
def z123r1:IC:=.reg [⟨some 3, none,.bsl 1 [(vi 0)] 0 []⟩,⟨some 4, none,.mv (.t 0)⟩,⟨some 5, none,.app 1 (.t 3) (.t 4)⟩,⟨some 2, none,.asg (.t 5)⟩] [2] []
def zi123:IFun:=⟨[.t 2],[],(.seq z123r0 (.seq z123r1 .ret))⟩
def z584r0:IC:=.reg [⟨some 6, none,.asg (.c (.slice none 0 0))⟩] [0,1,2] []
def z584r1:IC:=.reg [⟨some 14, none,.mv (.t 0)⟩,⟨some 15, none,.len (.t 14)⟩,⟨some 16, none,.mv (.t 1)⟩,⟨some 17, none,.len (.t 16)⟩,⟨some 18, none,.bin .eql (.t 15) (.t 17)⟩] [0,1,2,18] []
def z584r2:IC:=.reg [⟨some 19, none,.mv (.t 2)⟩,⟨some 20, none,.call zl382 [(.rd,(.t 19))] true⟩,⟨some 21, none,.bin .eql (.t 20) (.c (vi 0))⟩] [0,21] []
def z584r3:IC:=.reg [⟨some 22, none,.bsl 1 [(.slice none 0 0)] 0 []⟩,⟨some 7, none,.asg (.t 22)⟩] [0,7] []
def z584r4:IC:=.reg [⟨some 8, none,.asg (.c (vi 0))⟩] [0,7,8] []
def z584r5:IC:=.reg [⟨some 23, none,.mv (.t 8)⟩,⟨some 24, none,.mv (.t 0)⟩,⟨some 25, none,.len (.t 24)⟩,⟨some 26, none,.bin .lss (.t 23) (.t 25)⟩] [0,7,8,26] []
def z584r6:IC:=.reg [⟨some 29, none,.mv (.t 7)⟩,⟨some 30, none,.bsl 1 [(vi 0)] 0 []⟩,⟨some 31, none,.mv (.t 0)⟩,⟨some 32, none,.mv (.t 8)⟩,⟨some 33, none,.iadr 1 (.t 31) (.t 32)⟩,⟨some 34, none,.load false 1 (.t 33)⟩,⟨some 35, none,.app 1 (.t 30) (.t 34)⟩,⟨some 36, none,.bsl 1 [(.slice none 0 0)] 1 [(0,(.t 35))]⟩,⟨some 37, none,.app 1 (.t 29) (.t 36)⟩,⟨some 7, none,.asg (.t 37)⟩] [0,7,8] []
def z584r7:IC:=.reg [⟨some 27, none,.mv (.t 8)⟩,⟨some 28, none,.bin .add (.t 27) (.c (vi 1))⟩,⟨some 8, none,.asg (.t 28)⟩] [0,7,8] []
def z584l8:IC:=(.seq (.seq z584r5 (.cond (.t 26) .skip (.exit 0))) (.seq (.block 1 z584r6) z584r7))
def z584r9:IC:=.reg [⟨some 38, none,.mv (.t 7)⟩,⟨some 39, none,.bsl 1 [(.slice none 0 0)] 1 [(0,(.t 38))]⟩,⟨some 6, none,.asg (.t 39)⟩] [6,9] []
def z584r10:IC:=.reg [⟨some 40, none,.bsl 1 [(.slice none 0 0)] 0 []⟩,⟨some 6, none,.asg (.t 40)⟩] [6,9] []
def z584r11:IC:=.reg [⟨some 41, none,.bsl 1 [(.slice none 0 0)] 0 []⟩,⟨some 9, none,.asg (.t 41)⟩] [0,1,2,9] []
def z584r12:IC:=.reg [⟨some 42, none,.bsl 1 [(vi 0)] 0 []⟩,⟨some 43, none,.mv (.t 2)⟩,⟨some 44, none,.len (.t 43)⟩,⟨some 45, none,.mv (.t 1)⟩,⟨some 46, none,.mv (.t 0)⟩,⟨some 47, none,.len (.t 46)⟩,⟨some 48, none,.iadr 1 (.t 45) (.t 47)⟩,⟨some 49, none,.load false 1 (.t 48)⟩,⟨some 50, none,.call zl594 [(.rd,(.t 42)),(.val,(.t 44)),(.val,(.t 49))] true⟩,⟨some 10, none,.asg (.t 50)⟩] [0,1,2,9,10] []
def z584r13:IC:=.reg [⟨some 11, none,.asg (.c (vi 0))⟩] [0,1,2,9,10,11] []
def z584r14:IC:=.reg [⟨some 51, none,.mv (.t 11)⟩,⟨some 52, none,.mv (.t 10)⟩,⟨some 53, none,.len (.t 52)⟩,⟨some 54, none,.bin .lss (.t 51) (.t 53)⟩] [0,1,2,9,10,11,54] []
def z584r15:IC:=.reg [⟨some 57, none,.bsl 1 [(vi 0)] 0 []⟩,⟨some 12, none,.asg (.t 57)⟩] [0,1,2,9,10,11,12] []
def z584r16:IC:=.reg [⟨some 13, none,.asg (.c (vi 0))⟩] [0,1,2,9,10,11,12,13] []
def z584r17:IC:=.reg [⟨some 58, none,.mv (.t 13)⟩,⟨some 59, none,.mv (.t 2)⟩,⟨some 60, none,.len (.t 59)⟩,⟨some 61, none,.bin .lss (.t 58) (.t 60)⟩] [0,1,2,9,10,11,12,13,61] []
def z584r18:IC:=.reg [⟨some 64, none,.mv (.t 12)⟩,⟨some 65, none,.mv (.t 2)⟩,⟨some 66, none,.mv (.t 13)⟩,⟨some 67, none,.iadr 1 (.t 65) (.t 66)⟩,⟨some 68, none,.load false 1 (.t 67)⟩,⟨some 69, none,.mv (.t 10)⟩,⟨some 70, none,.mv (.t 11)⟩,⟨some 71, none,.iadr 1 (.t 69) (.t 70)⟩,⟨some 72, none,.load false 1 (.t 71)⟩,⟨some 73, none,.mv (.t 13)⟩,⟨some 74, none,.iadr 1 (.t 72) (.t 73)⟩,⟨some 75, none,.load false 1 (.t 74)⟩,⟨some 76, none,.bin .sub (.t 68) (.t 75)⟩,⟨some 77, none,.bsl 1 [(vi 0)] 1 [(0,(.t 76))]⟩,⟨some 78, none,.app 1 (.t 64) (.t 77)⟩,⟨some 12, none,.asg (.t 78)⟩] [0,1,2,9,10,11,12,13] []
def z584r19:IC:=.reg [⟨some 62, none,.mv (.t 13)⟩,⟨some 63, none,.bin .add (.t 62) (.c (vi 1))⟩,⟨some 13, none,.asg (.t 63)⟩] [0,1,2,9,10,11,12,13] []
def z584l20:IC:=(.seq (.seq z584r17 (.cond (.t 61) .skip (.exit 4))) (.seq (.block 5 z584r18) z584r19))
def z584r21:IC:=.reg [⟨some 79, none,.mv (.t 12)⟩,⟨some 80, none,.call zl360 [(.rd,(.t 79))] true⟩,⟨some 81, none,.bin .eql (.t 80) (.c (vi 0))⟩] [0,1,2,9,10,11,12,81] []
def z584r22:IC:=.reg [⟨some 82, none,.mv (.t 9)⟩,⟨some 83, none,.bsl 1 [(.slice none 0 0)] 0 []⟩,⟨some 84, none,.mv (.t 0)⟩,⟨some 85, none,.app 1 (.t 83) (.t 84)⟩,⟨some 86, none,.mv (.t 10)⟩,⟨some 87, none,.mv (.t 11)⟩,⟨some 88, none,.iadr 1 (.t 86) (.t 87)⟩,⟨some 89, none,.load false 1 (.t 88)⟩,⟨some 90, none,.bsl 1 [(.slice none 0 0)] 1 [(0,(.t 89))]⟩,⟨some 91, none,.app 1 (.t 85) (.t 90)⟩,⟨some 92, none,.mv (.t 1)⟩,⟨some 93, none,.mv (.t 12)⟩,⟨some 94, none,.call zl584 [(.rd,(.t 91)),(.rd,(.t 92)),(.rd,(.t 93))] true⟩,⟨some 95, none,.app 1 (.t 82) (.t 94)⟩,⟨some 9, none,.asg (.t 95)⟩] [0,1,2,9,10,11] [[0,1,2,4,5,6,7,3,8,9,10,11,12,13,14],[0,1,2,4,5,6,7,8,3,9,10,11,12,13,14],[0,2,4,5,6,7,1,3,8,9,10,11,12,13,14],[0,2,4,5,6,7,1,8,3,9,10,11,12,13,14],[0,2,4,5,6,7,8,1,3,9,10,11,12,13,14]]
def z584r23:IC:=.reg [⟨some 55, none,.mv (.t 11)⟩,⟨some 56, none,.bin .add (.t 55) (.c (vi 1))⟩,⟨some 11, none,.asg (.t 56)⟩] [0,1,2,9,10,11] []
def z584l24:IC:=(.seq (.seq z584r14 (.cond (.t 54) .skip (.exit 2))) (.seq (.block 3 (.seq z584r15 (.seq (.seq z584r16 (.block 4 (.loop z584l20))) (.seq z584r21 (.cond (.t 81) z584r22 .skip))))) z584r23))
def z584r25:IC:=.reg [⟨some 96, none,.mv (.t 9)⟩,⟨some 6, none,.asgm (.t 96)⟩] [6,9] []
def zi584:IFun:=⟨[.t 6],[],(.seq z584r0 (.seq (.seq z584r1 (.cond (.t 18) (.seq (.seq z584r2 (.cond (.t 21) (.seq z584r3 (.seq (.seq z584r4 (.block 0 (.loop z584l8))) (.seq z584r9 .ret))) .skip)) (.seq z584r10 .ret)) .skip)) (.seq z584r11 (.seq z584r12 (.seq (.seq z584r13 (.block 2 (.loop z584l24))) (.seq z584r25 .ret))))))⟩
def z132r0:IC:=.reg [⟨some 6, none,.asg (.c (.bool false))⟩] [0,1,2] []
def z132r1:IC:=.reg [⟨some 7, none,.mv (.t 1)⟩,⟨some 8, none,.mv (.t 0)⟩,⟨some 9, none,.bin .leq (.t 7) (.t 8)⟩,⟨some 10, none,.asg (.t 9)⟩,⟨some 11, (some (10,true)),.mv (.t 0)⟩,⟨some 12, (some (10,true)),.mv (.t 2)⟩,⟨some 13, (some (10,true)),.bin .leq (.t 11) (.t 12)⟩,⟨some 14, none,.pick (.t 10) (.t 13) (.c (.bool false))⟩,⟨some 6, none,.asg (.t 14)⟩] [6] []
def zi132:IFun:=⟨[.t 6],[],(.seq z132r0 (.seq z132r1 .ret))⟩
def z360r0:IC:=.reg [⟨some 2, none,.asg (.c (vi 0))⟩] [0] []
def z360r1:IC:=.reg [⟨some 3, none,.asg (.c (vi 0))⟩] [0,3] []
def z360r2:IC:=.reg [⟨some 4, none,.asg (.c (vi 0))⟩] [0,3,4] []
def z360r3:IC:=.reg [⟨some 5, none,.mv (.t 4)⟩,⟨some 6, none,.mv (.t 0)⟩,⟨some 7, none,.len (.t 6)⟩,⟨some 8, none,.bin .lss (.t 5) (.t 7)⟩] [0,3,4,8] []
def z360r4:IC:=.reg [⟨some 11, none,.mv (.t 3)⟩,⟨some 12, none,.mv (.t 0)⟩,⟨some 13, none,.mv (.t 4)⟩,⟨some 14, none,.iadr 1 (.t 12) (.t 13)⟩,⟨some 15, none,.load false 1 (.t 14)⟩,⟨some 16, none,.minmax true (.t 11) (.t 15)⟩,⟨some 3, none,.asg (.t 16)⟩] [0,3,4] []
def z360r5:IC:=.reg [⟨some 9, none,.mv (.t 4)⟩,⟨some 10, none,.bin .add (.t 9) (.c (vi 1))⟩,⟨some 4, none,.asg (.t 10)⟩] [0,3,4] []
def z360l6:IC:=(.seq (.seq z360r3 (.cond (.t 8) .skip (.exit 0))) (.seq (.block 1 z360r4) z360r5))
def z360r7:IC:=.reg [⟨some 17, none,.mv (.t 3)⟩,⟨some 2, none,.asgm (.t 17)⟩] [2] []
def zi360:IFun:=⟨[.t 2],[],(.seq z360r0 (.seq z360r1 (.seq (.seq z360r2 (.block 0 (.loop z360l6))) (.seq z360r7 .ret))))⟩
def z361r0:IC:=.reg [⟨some 4, none,.asg (.c (.slice none 0 0))⟩,⟨some 5, none,.asg (.c (.slice none 0 0))⟩] [0,1] []
def z361r1:IC:=.reg [⟨some 10, none,.mv (.t 0)⟩,⟨some 11, none,.mv (.t 0)⟩,⟨some 12, none,.mv (.t 1)⟩,⟨some 13, none,.call zl140 [(.val,(.t 11)),(.val,(.t 12))] false⟩,⟨some 14, none,.bin .add (.c (vi 1)) (.t 13)⟩,⟨some 15, none,.mv (.t 0)⟩,⟨some 16, none,.mv (.t 1)⟩,⟨some 17, none,.call zl140 [(.val,(.t 15)),(.val,(.t 16))] false⟩,⟨some 18, none,.bin .add (.c (vi 1)) (.t 17)⟩,⟨some 19, none,.call zl331 [(.val,(.t 10)),(.val,(.t 14)),(.val,(.t 18))] false⟩,⟨some 6, none,.asg (.t 19)⟩] [0,6] []
def z361r2:IC:=.reg [⟨some 20, none,.mv (.t 6)⟩,⟨some 21, none,.call zl371 [(.rd,(.t 20))] true⟩,⟨some 7, none,.asg (.t 21)⟩] [0,6,7] []
def z361r3:IC:=.reg [⟨some 22, none,.mv (.t 6)⟩,⟨some 23, none,.call zl385 [(.rd,(.t 22))] true⟩,⟨some 24, none,.call zl371 [(.rd,(.t 23))] true⟩,⟨some 8, none,.asg (.t 24)⟩] [0,7,8] []
def z361r4:IC:=.reg [⟨some 25, none,.mv (.t 0)⟩,⟨some 26, none,.call zl140 [(.val,(.t 25)),(.val,(.c (vi 3)))] false⟩,⟨some 27, none,.bin .eql (.t 26) (.c (vi 0))⟩] [0,7,8,27] []
def z361r5:IC:=.reg [⟨some 28, none,.mv (.t 0)⟩,⟨some 29, none,.mv (.t 7)⟩,⟨some 30, none,.len (.t 29)⟩,⟨some 31, none,.call zl140 [(.val,(.t 28)),(.val,(.t 30))] false⟩,⟨some 9, none,.asg (.t 31)⟩] [0,7,8,9] []
def z361r6:IC:=.reg [⟨some 32, none,.mv (.t 7)⟩,⟨some 33, none,.mv (.t 9)⟩,⟨some 34, none,.mv (.t 7)⟩,⟨some 35, none,.mv (.t 9)⟩,⟨some 36, none,.iadr 1 (.t 34) (.t 35)⟩,⟨some 37, none,.load false 1 (.t 36)⟩,⟨some 38, none,.mv (.t 0)⟩,⟨some 39, none,.bsl 1 [(vi 0)] 3 [(0,(.c (vi 1))),(1,(.c (vi (-1)))),(2,(.c (vi 2)))]⟩,⟨some 40, none,.call zl139 [(.val,(.t 38)),(.rd,(.t 39))] false⟩,⟨some 41, none,.bin .add (.t 37) (.t 40)⟩,⟨some 42, none,.minmax false (.t 41) (.c (vi 0))⟩,⟨some 43, none,.mv (.t 8)⟩,⟨some 44, none,.len (.t 43)⟩,⟨some 45, none,.minmax true (.t 42) (.t 44)⟩,⟨some 46, none,.iadr 1 (.t 32) (.t 33)⟩,⟨none,none,.store 1 (.t 46) (.t 45)⟩] [0,7,8] [[0,1,2,3,4,6,7,5,8,9,10,11,12,13,14,15],[0,1,2,3,4,6,7,8,5,9,10,11,12,13,14,15]]
def z361r7:IC:=.reg [⟨some 47, none,.mv (.t 0)⟩,⟨some 48, none,.mv (.t 8)⟩,⟨some 49, none,.len (.t 48)⟩,⟨some 50, none,.call zl140 [(.val,(.t 47)),(.val,(.t 49))] false⟩,⟨some 9, none,.asg (.t 50)⟩] [0,7,8,9] []
def z361r8:IC:=.reg [⟨some 51, none,.mv (.t 8)⟩,⟨some 52, none,.mv (.t 9)⟩,⟨some 53, none,.mv (.t 8)⟩,⟨some 54, none,.mv (.t 9)⟩,⟨some 55, none,.iadr 1 (.t 53) (.t 54)⟩,⟨some 56, none,.load false 1 (.t 55)⟩,⟨some 57, none,.mv (.t 0)⟩,⟨some 58, none,.bsl 1 [(vi 0)] 3 [(0,(.c (vi 1))),(1,(.c (vi (-1)))),(2,(.c (vi 2)))]⟩,⟨some 59, none,.call zl139 [(.val,(.t 57)),(.rd,(.t 58))] false⟩,⟨some 60, none,.bin .add (.t 56) (.t 59)⟩,⟨some 61, none,.minmax false (.t 60) (.c (vi 0))⟩,⟨some 62, none,.mv (.t 7)⟩,⟨some 63, none,.len (.t 62)⟩,⟨some 64, none,.minmax true (.t 61) (.t 63)⟩,⟨some 65, none,.iadr 1 (.t 51) (.t 52)⟩,⟨none,none,.store 1 (.t 65) (.t 64)⟩] [0,7,8] [[0,1,2,3,4,6,7,5,8,9,10,11,12,13,14,15],[0,1,2,3,4,6,7,8,5,9,10,11,12,13,14,15]]
def z361r9:IC:=.reg [⟨some 66, none,.mv (.t 0)⟩,⟨some 67, none,.call zl140 [(.val,(.t 66)),(.val,(.c (vi 30)))] false⟩] [0,7,8,67] []
def z361r10:IC:=.reg [⟨some 69, none,.bin .eql (.t 67) (.c (vi 0))⟩,⟨some 68, none,.asg (.t 69)⟩] [0,7,8,67,68] []
def z361r11:IC:=.reg [⟨some 70, none,.mv (.t 7)⟩,⟨some 71, none,.mv (.t 0)⟩,⟨some 72, none,.bsl 1 [(vi 0)] 2 [(0,(.c (vi (-1)))),(1,(.c (vi 6)))]⟩,⟨some 73, none,.call zl139 [(.val,(.t 71)),(.rd,(.t 72))] false⟩,⟨some 74, none,.iadr 1 (.t 70) (.c (vi 0))⟩,⟨none,none,.store 1 (.t 74) (.t 73)⟩] [7,8] []
def z361r12:IC:=.reg [⟨some 76, none,.bin .eql (.t 67) (.c (vi 1))⟩,⟨some 75, none,.asg (.t 76)⟩] [7,8,75] []
def z361r13:IC:=.reg [⟨some 77, none,.mv (.t 8)⟩,⟨some 78, none,.bsl 1 [(vi 0)] 5 [(0,(.c (vi 0))),(1,(.c (vi 0))),(2,(.c (vi 0))),(3,(.c (vi 0))),(4,(.c (vi 0)))]⟩,⟨some 79, none,.app 1 (.t 77) (.t 78)⟩,⟨some 8, none,.asg (.t 79)⟩] [7,8] []
def z361r14:IC:=.reg [⟨some 80, none,.mv (.t 7)⟩,⟨some 81, none,.mv (.t 8)⟩,⟨some 4, none,.asgm (.t 80)⟩,⟨some 5, none,.asgm (.t 81)⟩] [4,5,7,8] []
def zi361:IFun:=⟨[.t 4,.t 5],[],(.seq z361r0 (.seq z361r1 (.seq z361r2 (.seq z361r3 (.seq (.seq z361r4 (.cond (.t 27) (.seq z361r5 (.seq z361r6 (.seq z361r7 z361r8))) .skip)) (.seq (.seq z361r9 (.block 0 (.seq z361r10 (.cond (.t 68) z361r11 (.seq z361r12 (.cond (.t 75) z361r13 .skip)))))) (.seq z361r14 .ret)))))))⟩
def z137r0:IC:=.reg [⟨some 2, none,.asg (.c (.pointer none))⟩] [0] []
def z137r1:IC:=.reg [⟨some 3, none,.mv (.t 0)⟩,⟨some 4, none,.len (.t 3)⟩,⟨some 5, none,.bin .gtr (.t 4) (.c (vi 2000))⟩] [0,5] []
def z137r2:IC:=.reg [⟨some 6, none,.mv (.t 0)⟩,⟨some 7, none,.slc 1 (.t 6) none (some (.c (vi 2000))) none⟩,⟨some 0, none,.asgm (.t 7)⟩] [0] []
def z137r3:IC:=.reg [⟨some 8, none,.mv (.t 0)⟩,⟨some 9, none,.build [(.slice none 0 0),(vi 0)] [(0,1,(.t 8))]⟩,⟨some 10, none,.box (.t 9)⟩,⟨some 2, none,.asg (.t 10)⟩] [2] []
def zi137:IFun:=⟨[.t 2],[],(.seq z137r0 (.seq (.seq z137r1 (.cond (.t 5) z137r2 .skip)) (.seq z137r3 .ret)))⟩
def z139r0:IC:=.reg [⟨some 4, none,.asg (.c (vi 0))⟩] [0,1] []
def z139r1:IC:=.reg [⟨some 5, none,.mv (.t 1)⟩,⟨some 6, none,.mv (.t 0)⟩,⟨some 7, none,.mv (.t 1)⟩,⟨some 8, none,.len (.t 7)⟩,⟨some 9, none,.call zl140 [(.val,(.t 6)),(.val,(.t 8))] false⟩,⟨some 10, none,.iadr 1 (.t 5) (.t 9)⟩,⟨some 11, none,.load false 1 (.t 10)⟩,⟨some 4, none,.asg (.t 11)⟩] [4] []
def zi139:IFun:=⟨[.t 4],[],(.seq z139r0 (.seq z139r1 .ret))⟩
def z140r0:IC:=.reg [⟨some 4, none,.asg (.c (vi 0))⟩] [0,1] []
def z140r1:IC:=.reg [⟨some 7, none,.mv (.t 0)⟩,⟨some 8, none,.mv (.t 0)⟩,⟨some 9, none,.nilck (.t 8)⟩,⟨some 10, none,.fadr 1 (.t 9)⟩,⟨some 11, none,.load false 1 (.t 10)⟩,⟨some 12, none,.bin .add (.t 11) (.c (vi 1))⟩,⟨some 13, none,.nilck (.t 7)⟩,⟨some 14, none,.fadr 1 (.t 13)⟩,⟨none,none,.store 1 (.t 14) (.t 12)⟩] [0,1] []
def z140r2:IC:=.reg [⟨some 15, none,.mv (.t 1)⟩,⟨some 16, none,.bin .lss (.t 15) (.c (vi 1))⟩,⟨some 17, none,.asg (.t 16)⟩,⟨some 18, (some (17,false)),.mv (.t 0)⟩,⟨some 19, (some (17,false)),.nilck (.t 18)⟩,⟨some 20, (some (17,false)),.fadr 0 (.t 19)⟩,⟨some 21, (some (17,false)),.load false 1 (.t 20)⟩,⟨some 22, (some (17,false)),.len (.t 21)⟩,⟨some 23, (some (17,false)),.bin .eql (.t 22) (.c (vi 0))⟩,⟨some 24, none,.pick (.t 17) (.c (.bool true)) (.t 23)⟩] [0,1,24] []
def z140r3:IC:=.reg [⟨some 4, none,.asg (.c (vi 0))⟩] [4] []
def z140r4:IC:=.reg [⟨some 25, none,.mv (.t 0)⟩,⟨some 26, none,.nilck (.t 25)⟩,⟨some 27, none,.fadr 1 (.t 26)⟩,⟨some 28, none,.load false 1 (.t 27)⟩,⟨some 29, none,.bin .sub (.t 28) (.c (vi 1))⟩,⟨some 5, none,.asg (.t 29)⟩] [0,1,5] []
def z140r5:IC:=.reg [⟨some 30, none,.mv (.t 5)⟩,⟨some 31, none,.mv (.t 0)⟩,⟨some 32, none,.nilck (.t 31)⟩,⟨some 33, none,.fadr 0 (.t 32)⟩,⟨some 34, none,.load false 1 (.t 33)⟩,⟨some 35, none,.len (.t 34)⟩,⟨some 36, none,.bin .lss (.t 30) (.t 35)⟩] [0,1,5,36] []
def z140r6:IC:=.reg [⟨some 37, none,.mv (.t 0)⟩,⟨some 38, none,.nilck (.t 37)⟩,⟨some 39, none,.fadr 0 (.t 38)⟩,⟨some 40, none,.load false 1 (.t 39)⟩,⟨some 41, none,.mv (.t 5)⟩,⟨some 42, none,.iadr 1 (.t 40) (.t 41)⟩,⟨some 43, none,.load false 1 (.t 42)⟩,⟨some 44, none,.conv .i64 (.t 43)⟩,⟨some 45, none,.mv (.t 1)⟩,⟨some 46, none,.bin .rem (.t 44) (.t 45)⟩,⟨some 4, none,.asg (.t 46)⟩] [4] []
def z140r7:IC:=.reg [⟨some 47, none,.mv (.t 0)⟩,⟨some 48, none,.nilck (.t 47)⟩,⟨some 49, none,.fadr 0 (.t 48)⟩,⟨some 50, none,.load false 1 (.t 49)⟩,⟨some 51, none,.mv (.t 5)⟩,⟨some 52, none,.mv (.t 0)⟩,⟨some 53, none,.nilck (.t 52)⟩,⟨some 54, none,.fadr 0 (.t 53)⟩,⟨some 55, none,.load false 1 (.t 54)⟩,⟨some 56, none,.len (.t 55)⟩,⟨some 57, none,.bin .rem (.t 51) (.t 56)⟩,⟨some 58, none,.iadr 1 (.t 50) (.t 57)⟩,⟨some 59, none,.load false 1 (.t 58)⟩,⟨some 60, none,.conv .i64 (.t 59)⟩,⟨some 61, none,.bin .mul (.t 60) (.c (vi 131))⟩,⟨some 62, none,.mv (.t 0)⟩,⟨some 63, none,.nilck (.t 62)⟩,⟨some 64, none,.fadr 0 (.t 63)⟩,⟨some 65, none,.load false 1 (.t 64)⟩,⟨some 66, none,.mv (.t 5)⟩,⟨some 67, none,.bin .mul (.t 66) (.c (vi 7))⟩,⟨some 68, none,.bin .add (.t 67) (.c (vi 3))⟩,⟨some 69, none,.mv (.t 0)⟩,⟨some 70, none,.nilck (.t 69)⟩,⟨some 71, none,.fadr 0 (.t 70)⟩,
    ⟨some 72, none,.load false 1 (.t 71)⟩,⟨some 73, none,.len (.t 72)⟩,⟨some 74, none,.bin .rem (.t 68) (.t 73)⟩,⟨some 75, none,.iadr 1 (.t 65) (.t 74)⟩,⟨some 76, none,.load false 1 (.t 75)⟩,⟨some 77, none,.conv .i64 (.t 76)⟩,⟨some 78, none,.bin .mul (.t 77) (.c (vi 1117))⟩,⟨some 79, none,.bin .add (.t 61) (.t 78)⟩,⟨some 80, none,.mv (.t 5)⟩,⟨some 81, none,.bin .mul (.t 80) (.c (vi 29))⟩,⟨some 82, none,.bin .add (.t 79) (.t 81)⟩,⟨some 83, none,.mv (.t 5)⟩,⟨some 84, none,.mv (.t 0)⟩,⟨some 85, none,.nilck (.t 84)⟩,⟨some 86, none,.fadr 0 (.t 85)⟩,⟨some 87, none,.load false 1 (.t 86)⟩,⟨some 88, none,.len (.t 87)⟩,⟨some 89, none,.bin .quo (.t 83) (.t 88)⟩,⟨some 90, none,.bin .mul (.t 89) (.c (vi 53))⟩,⟨some 91, none,.bin .add (.t 82) (.t 90)⟩,⟨some 6, none,.asg (.t 91)⟩] [1,6] []
def z140r8:IC:=.reg [⟨some 92, none,.mv (.t 6)⟩,⟨some 93, none,.mv (.t 6)⟩,⟨some 94, none,.bin .quo (.t 93) (.c (vi 64))⟩,⟨some 95, none,.bin .xor (.t 92) (.t 94)⟩,⟨some 6, none,.asg (.t 95)⟩] [1,6] []
def z140r9:IC:=.reg [⟨some 96, none,.mv (.t 6)⟩,⟨some 97, none,.mv (.t 1)⟩,⟨some 98, none,.bin .rem (.t 96) (.t 97)⟩,⟨some 4, none,.asg (.t 98)⟩] [4] []
def zi140:IFun:=⟨[.t 4],[],(.seq z140r0 (.seq z140r1 (.seq (.seq z140r2 (.cond (.t 24) (.seq z140r3 .ret) .skip)) (.seq z140r4 (.seq (.seq z140r5 (.cond (.t 36) (.seq z140r6 .ret) .skip)) (.seq z140r7 (.seq z140r8 (.seq z140r9 .ret))))))))⟩
def z371r0:IC:=.reg [⟨some 2, none,.asg (.c (.slice none 0 0))⟩] [0] []
def z371r1:IC:=.reg [⟨some 5, none,.bsl 1 [(vi 0)] 0 []⟩,⟨some 3, none,.asg (.t 5)⟩] [0,3] []
def z371r2:IC:=.reg [⟨some 4, none,.asg (.c (vi 0))⟩] [0,3,4] []
def z371r3:IC:=.reg [⟨some 6, none,.mv (.t 4)⟩,⟨some 7, none,.mv (.t 0)⟩,⟨some 8, none,.len (.t 7)⟩,⟨some 9, none,.bin .lss (.t 6) (.t 8)⟩] [0,3,4,9] []
def z371r4:IC:=.reg [⟨some 12, none,.mv (.t 3)⟩,⟨some 13, none,.mv (.t 0)⟩,⟨some 14, none,.mv (.t 4)⟩,⟨some 15, none,.iadr 1 (.t 13) (.t 14)⟩,⟨some 16, none,.load false 1 (.t 15)⟩,⟨some 17, none,.call zl382 [(.rd,(.t 16))] true⟩,⟨some 18, none,.bsl 1 [(vi 0)] 1 [(0,(.t 17))]⟩,⟨some 19, none,.app 1 (.t 12) (.t 18)⟩,⟨some 3, none,.asg (.t 19)⟩] [0,3,4] []
def z371r5:IC:=.reg [⟨some 10, none,.mv (.t 4)⟩,⟨some 11, none,.bin .add (.t 10) (.c (vi 1))⟩,⟨some 4, none,.asg (.t 11)⟩] [0,3,4] []
def z371l6:IC:=(.seq (.seq z371r3 (.cond (.t 9) .skip (.exit 0))) (.seq (.block 1 z371r4) z371r5))
def z371r7:IC:=.reg [⟨some 20, none,.mv (.t 3)⟩,⟨some 2, none,.asgm (.t 20)⟩] [2,3] []
def zi371:IFun:=⟨[.t 2],[],(.seq z371r0 (.seq z371r1 (.seq (.seq z371r2 (.block 0 (.loop z371l6))) (.seq z371r7 .ret))))⟩
def z594r0:IC:=.reg [⟨some 6, none,.asg (.c (.slice none 0 0))⟩] [0,1,2] []
def z594r1:IC:=.reg [⟨some 8, none,.mv (.t 0)⟩,⟨some 9, none,.len (.t 8)⟩,⟨some 10, none,.mv (.t 1)⟩,⟨some 11, none,.bin .eql (.t 9) (.t 10)⟩] [0,1,2,11] []
def z594r2:IC:=.reg [⟨some 12, none,.mv (.t 2)⟩,⟨some 13, none,.bin .eql (.t 12) (.c (vi 0))⟩] [0,13] []
def z594r3:IC:=.reg [⟨some 14, none,.mv (.t 0)⟩,⟨some 15, none,.call zl123 [(.rd,(.t 14))] true⟩,⟨some 16, none,.bsl 1 [(.slice none 0 0)] 1 [(0,(.t 15))]⟩,⟨some 6, none,.asg (.t 16)⟩] [6] []
def z594r4:IC:=.reg [⟨some 17, none,.bsl 1 [(.slice none 0 0)] 0 []⟩,⟨some 6, none,.asg (.t 17)⟩] [6] []
def z594r5:IC:=.reg [⟨some 18, none,.bsl 1 [(.slice none 0 0)] 0 []⟩,⟨some 7, none,.asg (.t 18)⟩] [0,1,2,7] []
def z594r6:IC:=.reg [⟨some 19, none,.mv (.t 2)⟩,⟨some 20, none,.bin .gtr (.t 19) (.c (vi 0))⟩] [0,1,2,7,20] []
def z594r7:IC:=.reg [⟨some 21, none,.mv (.t 7)⟩,⟨some 22, none,.mv (.t 0)⟩,⟨some 23, none,.call zl123 [(.rd,(.t 22))] true⟩,⟨some 24, none,.bsl 1 [(vi 0)] 1 [(0,(.c (vi 1)))]⟩,⟨some 25, none,.app 1 (.t 23) (.t 24)⟩,⟨some 26, none,.mv (.t 1)⟩,⟨some 27, none,.mv (.t 2)⟩,⟨some 28, none,.bin .sub (.t 27) (.c (vi 1))⟩,⟨some 29, none,.call zl594 [(.rd,(.t 25)),(.val,(.t 26)),(.val,(.t 28))] true⟩,⟨some 30, none,.app 1 (.t 21) (.t 29)⟩,⟨some 7, none,.asg (.t 30)⟩] [0,1,2,7] []
def z594r8:IC:=.reg [⟨some 31, none,.mv (.t 7)⟩,⟨some 32, none,.mv (.t 0)⟩,⟨some 33, none,.call zl123 [(.rd,(.t 32))] true⟩,⟨some 34, none,.bsl 1 [(vi 0)] 1 [(0,(.c (vi 0)))]⟩,⟨some 35, none,.app 1 (.t 33) (.t 34)⟩,⟨some 36, none,.mv (.t 1)⟩,⟨some 37, none,.mv (.t 2)⟩,⟨some 38, none,.call zl594 [(.rd,(.t 35)),(.val,(.t 36)),(.val,(.t 37))] true⟩,⟨some 39, none,.app 1 (.t 31) (.t 38)⟩,⟨some 6, none,.asg (.t 39)⟩] [6] []
def zi594:IFun:=⟨[.t 6],[],(.seq z594r0 (.seq (.seq z594r1 (.cond (.t 11) (.seq (.seq z594r2 (.cond (.t 13) (.seq z594r3 .ret) .skip)) (.seq z594r4 .ret)) .skip)) (.seq z594r5 (.seq (.seq z594r6 (.cond (.t 20) z594r7 .skip)) (.seq z594r8 .ret)))))⟩
def z382r0:IC:=.reg [⟨some 2, none,.asg (.c (vi 0))⟩] [0] []
def z382r1:IC:=.reg [⟨some 3, none,.asg (.c (vi 0))⟩] [0,3] []
def z382r2:IC:=.reg [⟨some 4, none,.asg (.c (vi 0))⟩] [0,3,4] []
def z382r3:IC:=.reg [⟨some 5, none,.mv (.t 4)⟩,⟨some 6, none,.mv (.t 0)⟩,⟨some 7, none,.len (.t 6)⟩,⟨some 8, none,.bin .lss (.t 5) (.t 7)⟩] [0,3,4,8] []
def z382r4:IC:=.reg [⟨some 11, none,.mv (.t 3)⟩,⟨some 12, none,.mv (.t 0)⟩,⟨some 13, none,.mv (.t 4)⟩,⟨some 14, none,.iadr 1 (.t 12) (.t 13)⟩,⟨some 15, none,.load false 1 (.t 14)⟩,⟨some 16, none,.bin .add (.t 11) (.t 15)⟩,⟨some 3, none,.asg (.t 16)⟩] [0,3,4] []
def z382r5:IC:=.reg [⟨some 9, none,.mv (.t 4)⟩,⟨some 10, none,.bin .add (.t 9) (.c (vi 1))⟩,⟨some 4, none,.asg (.t 10)⟩] [0,3,4] []
def z382l6:IC:=(.seq (.seq z382r3 (.cond (.t 8) .skip (.exit 0))) (.seq (.block 1 z382r4) z382r5))
def z382r7:IC:=.reg [⟨some 17, none,.mv (.t 3)⟩,⟨some 2, none,.asgm (.t 17)⟩] [2] []
def zi382:IFun:=⟨[.t 2],[],(.seq z382r0 (.seq z382r1 (.seq (.seq z382r2 (.block 0 (.loop z382l6))) (.seq z382r7 .ret))))⟩
def z385r0:IC:=.reg [⟨some 2, none,.asg (.c (.slice none 0 0))⟩] [0] []
def z385r1:IC:=.reg [⟨some 7, none,.bsl 1 [(.slice none 0 0)] 0 []⟩,⟨some 3, none,.asg (.t 7)⟩] [0,3] []
def z385r2:IC:=.reg [⟨some 4, none,.asg (.c (vi 0))⟩] [0,3,4] []
def z385r3:IC:=.reg [⟨some 8, none,.mv (.t 4)⟩,⟨some 9, none,.mv (.t 0)⟩,⟨some 10, none,.iadr 1 (.t 9) (.c (vi 0))⟩,⟨some 11, none,.load false 1 (.t 10)⟩,⟨some 12, none,.len (.t 11)⟩,⟨some 13, none,.bin .lss (.t 8) (.t 12)⟩] [0,3,4,13] []
def z385r4:IC:=.reg [⟨some 16, none,.bsl 1 [(vi 0)] 0 []⟩,⟨some 5, none,.asg (.t 16)⟩] [0,3,4,5] []
def z385r5:IC:=.reg [⟨some 6, none,.asg (.c (vi 0))⟩] [0,3,4,5,6] []
def z385r6:IC:=.reg [⟨some 17, none,.mv (.t 6)⟩,⟨some 18, none,.mv (.t 0)⟩,⟨some 19, none,.len (.t 18)⟩,⟨some 20, none,.bin .lss (.t 17) (.t 19)⟩] [0,3,4,5,6,20] []
def z385r7:IC:=.reg [⟨some 23, none,.mv (.t 5)⟩,⟨some 24, none,.mv (.t 0)⟩,⟨some 25, none,.mv (.t 6)⟩,⟨some 26, none,.iadr 1 (.t 24) (.t 25)⟩,⟨some 27, none,.load false 1 (.t 26)⟩,⟨some 28, none,.mv (.t 4)⟩,⟨some 29, none,.iadr 1 (.t 27) (.t 28)⟩,⟨some 30, none,.load false 1 (.t 29)⟩,⟨some 31, none,.bsl 1 [(vi 0)] 1 [(0,(.t 30))]⟩,⟨some 32, none,.app 1 (.t 23) (.t 31)⟩,⟨some 5, none,.asg (.t 32)⟩] [0,3,4,5,6] []
def z385r8:IC:=.reg [⟨some 21, none,.mv (.t 6)⟩,⟨some 22, none,.bin .add (.t 21) (.c (vi 1))⟩,⟨some 6, none,.asg (.t 22)⟩] [0,3,4,5,6] []
def z385l9:IC:=(.seq (.seq z385r6 (.cond (.t 20) .skip (.exit 2))) (.seq (.block 3 z385r7) z385r8))
def z385r10:IC:=.reg [⟨some 33, none,.mv (.t 3)⟩,⟨some 34, none,.mv (.t 5)⟩,⟨some 35, none,.bsl 1 [(.slice none 0 0)] 1 [(0,(.t 34))]⟩,⟨some 36, none,.app 1 (.t 33) (.t 35)⟩,⟨some 3, none,.asg (.t 36)⟩] [0,3,4] []
def z385r11:IC:=.reg [⟨some 14, none,.mv (.t 4)⟩,⟨some 15, none,.bin .add (.t 14) (.c (vi 1))⟩,⟨some 4, none,.asg (.t 15)⟩] [0,3,4] []
def z385l12:IC:=(.seq (.seq z385r3 (.cond (.t 13) .skip (.exit 0))) (.seq (.block 1 (.seq z385r4 (.seq (.seq z385r5 (.block 2 (.loop z385l9))) z385r10))) z385r11))
def z385r13:IC:=.reg [⟨some 37, none,.mv (.t 3)⟩,⟨some 2, none,.asgm (.t 37)⟩] [2,3] []
def zi385:IFun:=⟨[.t 2],[],(.seq z385r0 (.seq z385r1 (.seq (.seq z385r2 (.block 0 (.loop z385l12))) (.seq z385r13 .ret))))⟩
def z387r0:IC:=.reg [⟨some 4, none,.asg (.c (.bool false))⟩] [0,1] []
def z387r1:IC:=.reg [⟨some 5, none,.asg (.c (vi 0))⟩] [0,1,5] []
def z387r2:IC:=.reg [⟨some 7, none,.mv (.t 5)⟩,⟨some 8, none,.mv (.t 0)⟩,⟨some 9, none,.len (.t 8)⟩,⟨some 10, none,.bin .lss (.t 7) (.t 9)⟩] [0,1,5,10] []
def z387r3:IC:=.reg [⟨some 13, none,.mv (.t 0)⟩,⟨some 14, none,.mv (.t 5)⟩,⟨some 15, none,.iadr 1 (.t 13) (.t 14)⟩,⟨some 16, none,.load false 1 (.t 15)⟩,⟨some 17, none,.mv (.t 1)⟩,⟨some 18, none,.len (.t 17)⟩,⟨some 19, none,.call zl132 [(.val,(.t 16)),(.val,(.c (vi 0))),(.val,(.t 18))] true⟩,⟨some 20, none,.unop .not (.t 19)⟩] [0,1,5,20] []
def z387r4:IC:=.reg [⟨some 4, none,.asg (.c (.bool false))⟩] [4] []
def z387r5:IC:=.reg [⟨some 11, none,.mv (.t 5)⟩,⟨some 12, none,.bin .add (.t 11) (.c (vi 1))⟩,⟨some 5, none,.asg (.t 12)⟩] [0,1,5] []
def z387l6:IC:=(.seq (.seq z387r2 (.cond (.t 10) .skip (.exit 0))) (.seq (.block 1 (.seq z387r3 (.cond (.t 20) (.seq z387r4 .ret) .skip))) z387r5))
def z387r7:IC:=.reg [⟨some 6, none,.asg (.c (vi 0))⟩] [0,1,6] []
def z387r8:IC:=.reg [⟨some 21, none,.mv (.t 6)⟩,⟨some 22, none,.mv (.t 1)⟩,⟨some 23, none,.len (.t 22)⟩,⟨some 24, none,.bin .lss (.t 21) (.t 23)⟩] [0,1,6,24] []
def z387r9:IC:=.reg [⟨some 27, none,.mv (.t 1)⟩,⟨some 28, none,.mv (.t 6)⟩,⟨some 29, none,.iadr 1 (.t 27) (.t 28)⟩,⟨some 30, none,.load false 1 (.t 29)⟩,⟨some 31, none,.mv (.t 0)⟩,⟨some 32, none,.len (.t 31)⟩,⟨some 33, none,.call zl132 [(.val,(.t 30)),(.val,(.c (vi 0))),(.val,(.t 32))] true⟩,⟨some 34, none,.unop .not (.t 33)⟩] [0,1,6,34] []
def z387r10:IC:=.reg [⟨some 4, none,.asg (.c (.bool false))⟩] [4] []
def z387r11:IC:=.reg [⟨some 25, none,.mv (.t 6)⟩,⟨some 26, none,.bin .add (.t 25) (.c (vi 1))⟩,⟨some 6, none,.asg (.t 26)⟩] [0,1,6] []
def z387l12:IC:=(.seq (.seq z387r8 (.cond (.t 24) .skip (.exit 2))) (.seq (.block 3 (.seq z387r9 (.cond (.t 34) (.seq z387r10 .ret) .skip))) z387r11))
def z387r13:IC:=.reg [⟨some 35, none,.mv (.t 0)⟩,⟨some 36, none,.len (.t 35)⟩,⟨some 37, none,.call zl132 [(.val,(.t 36)),(.val,(.c (vi 1))),(.val,(.c (vi 5)))] true⟩,⟨some 38, none,.asg (.t 37)⟩,⟨some 39, (some (38,true)),.mv (.t 1)⟩,⟨some 40, (some (38,true)),.len (.t 39)⟩,⟨some 41, (some (38,true)),.call zl132 [(.val,(.t 40)),(.val,(.c (vi 1))),(.val,(.c (vi 5)))] true⟩,⟨some 42, none,.pick (.t 38) (.t 41) (.c (.bool false))⟩,⟨some 4, none,.asg (.t 42)⟩] [4] []
def zi387:IFun:=⟨[.t 4],[],(.seq z387r0 (.seq (.seq z387r1 (.block 0 (.loop z387l6))) (.seq (.seq z387r7 (.block 2 (.loop z387l12))) (.seq z387r13 .ret))))⟩
def tbl:List (Nat×IFun):=[(zl2,zi2),(zl4,zi4),(zl496,zi496),(zl497,zi497),(zl498,zi498),(zl158,zi158),(zl159,zi159),(zl165,zi165),(zl176,zi176),(zl16,zi16),(zl25,zi25),(zl200,zi200),(zl27,zi27),(zl29,zi29),(zl30,zi30),(zl204,zi204),(zl31,zi31),(zl33,zi33),(zl34,zi34),(zl37,zi37),(zl38,zi38),(zl213,zi213),(zl215,zi215),(zl412,zi412),(zl413,zi413),(zl216,zi216),(zl218,zi218),(zl219,zi219),(zl40,zi40),(zl41,zi41),(zl525,zi525),(zl543,zi543),(zl53,zi53),(zl54,zi54),(zl65,zi65),(zl66,zi66),(zl68,zi68),(zl547,zi547),(zl258,zi258),(zl70,zi70),(zl261,zi261),(zl71,zi71),(zl72,zi72),(zl73,zi73),(zl75,zi75),(zl76,zi76),(zl78,zi78),(zl86,zi86),(zl101,zi101),(zl556,zi556),(zl559,zi559),(zl331,zi331),(zl123,zi123),(zl584,zi584),(zl132,zi132),(zl360,zi360),(zl361,zi361),(zl137,zi137),(zl139,zi139),(zl140,zi140),(zl371,zi371),(zl594,zi594),(zl382,zi382),(zl385,zi385),(zl387,zi387)]
def tb:Tbl:=tbOf tbl
theorem zt2:tb zl2=some zi2:=by kernel_rfl
theorem zt4:tb zl4=some zi4:=by kernel_rfl
theorem zt496:tb zl496=some zi496:=by kernel_rfl
theorem zt497:tb zl497=some zi497:=by kernel_rfl
theorem zt498:tb zl498=some zi498:=by kernel_rfl
theorem zt158:tb zl158=some zi158:=by kernel_rfl
theorem zt159:tb zl159=some zi159:=by kernel_rfl
theorem zt165:tb zl165=some zi165:=by kernel_rfl
theorem zt176:tb zl176=some zi176:=by kernel_rfl
theorem zt16:tb zl16=some zi16:=by kernel_rfl
theorem zt25:tb zl25=some zi25:=by kernel_rfl
theorem zt200:tb zl200=some zi200:=by kernel_rfl
theorem zt27:tb zl27=some zi27:=by kernel_rfl
theorem zt29:tb zl29=some zi29:=by kernel_rfl
theorem zt30:tb zl30=some zi30:=by kernel_rfl
theorem zt204:tb zl204=some zi204:=by kernel_rfl
theorem zt31:tb zl31=some zi31:=by kernel_rfl
theorem zt33:tb zl33=some zi33:=by kernel_rfl
theorem zt34:tb zl34=some zi34:=by kernel_rfl
theorem zt37:tb zl37=some zi37:=by kernel_rfl
theorem zt38:tb zl38=some zi38:=by kernel_rfl
theorem zt213:tb zl213=some zi213:=by kernel_rfl
theorem zt215:tb zl215=some zi215:=by kernel_rfl
theorem zt412:tb zl412=some zi412:=by kernel_rfl
theorem zt413:tb zl413=some zi413:=by kernel_rfl
theorem zt216:tb zl216=some zi216:=by kernel_rfl
theorem zt218:tb zl218=some zi218:=by kernel_rfl
theorem zt219:tb zl219=some zi219:=by kernel_rfl
theorem zt40:tb zl40=some zi40:=by kernel_rfl
theorem zt41:tb zl41=some zi41:=by kernel_rfl
theorem zt525:tb zl525=some zi525:=by kernel_rfl
theorem zt543:tb zl543=some zi543:=by kernel_rfl
theorem zt53:tb zl53=some zi53:=by kernel_rfl
theorem zt54:tb zl54=some zi54:=by kernel_rfl
theorem zt65:tb zl65=some zi65:=by kernel_rfl
theorem zt66:tb zl66=some zi66:=by kernel_rfl
theorem zt68:tb zl68=some zi68:=by kernel_rfl
theorem zt547:tb zl547=some zi547:=by kernel_rfl
theorem zt258:tb zl258=some zi258:=by kernel_rfl
theorem zt70:tb zl70=some zi70:=by kernel_rfl
theorem zt261:tb zl261=some zi261:=by kernel_rfl
theorem zt71:tb zl71=some zi71:=by kernel_rfl
theorem zt72:tb zl72=some zi72:=by kernel_rfl
theorem zt73:tb zl73=some zi73:=by kernel_rfl
theorem zt75:tb zl75=some zi75:=by kernel_rfl
theorem zt76:tb zl76=some zi76:=by kernel_rfl
theorem zt78:tb zl78=some zi78:=by kernel_rfl
theorem zt86:tb zl86=some zi86:=by kernel_rfl
theorem zt101:tb zl101=some zi101:=by kernel_rfl
theorem zt556:tb zl556=some zi556:=by kernel_rfl
theorem zt559:tb zl559=some zi559:=by kernel_rfl
theorem zt331:tb zl331=some zi331:=by kernel_rfl
theorem zt123:tb zl123=some zi123:=by kernel_rfl
theorem zt584:tb zl584=some zi584:=by kernel_rfl
theorem zt132:tb zl132=some zi132:=by kernel_rfl
theorem zt360:tb zl360=some zi360:=by kernel_rfl
theorem zt361:tb zl361=some zi361:=by kernel_rfl
theorem zt137:tb zl137=some zi137:=by kernel_rfl
theorem zt139:tb zl139=some zi139:=by kernel_rfl
theorem zt140:tb zl140=some zi140:=by kernel_rfl
theorem zt371:tb zl371=some zi371:=by kernel_rfl
theorem zt594:tb zl594=some zi594:=by kernel_rfl
theorem zt382:tb zl382=some zi382:=by kernel_rfl
theorem zt385:tb zl385=some zi385:=by kernel_rfl
theorem zt387:tb zl387=some zi387:=by kernel_rfl
end Go.Idl
