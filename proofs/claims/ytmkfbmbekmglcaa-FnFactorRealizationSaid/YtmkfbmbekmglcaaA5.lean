/- Part 5 of a proof by an ideal interpreter of the code: its definitions and lemmas. Conditions: none. -/
import Derived.KernelRfl
import Derived.Test.YtmkfbmbekmglcaaA4
set_option linter.all false
set_option linter.unusedVariables false
set_option linter.unusedSimpArgs false
namespace Go.Idl
open Go
abbrev vi (n:Int):Value:=.int .i64 n
abbrev zl2:Lab:=2
abbrev zl4:Lab:=4
abbrev zl7:Lab:=7
abbrev zl8:Lab:=8
abbrev zl9:Lab:=9
abbrev zl10:Lab:=10
abbrev zl18:Lab:=18
abbrev zl19:Lab:=19
abbrev zl25:Lab:=25
abbrev zl26:Lab:=26
abbrev zl29:Lab:=29
abbrev zl30:Lab:=30
abbrev zl31:Lab:=31
abbrev zl32:Lab:=32
abbrev zl35:Lab:=35
abbrev zl37:Lab:=37
abbrev zl38:Lab:=38
abbrev zl40:Lab:=40
abbrev zl53:Lab:=53
abbrev zl66:Lab:=66
abbrev zl67:Lab:=67
abbrev zl68:Lab:=68
abbrev zl70:Lab:=70
abbrev zl71:Lab:=71
abbrev zl72:Lab:=72
abbrev zl73:Lab:=73
abbrev zl76:Lab:=76
abbrev zl78:Lab:=78
abbrev zl80:Lab:=80
abbrev zl82:Lab:=82
abbrev zl84:Lab:=84
abbrev zl86:Lab:=86
abbrev zl95:Lab:=95
abbrev zl98:Lab:=98
abbrev zl99:Lab:=99
abbrev zl101:Lab:=101
abbrev zl103:Lab:=103
abbrev zl118:Lab:=118
abbrev zl121:Lab:=121
abbrev zl122:Lab:=122
abbrev zl123:Lab:=123
abbrev zl125:Lab:=125
abbrev zl126:Lab:=126
abbrev zl130:Lab:=130
abbrev zl132:Lab:=132
abbrev zl135:Lab:=135
abbrev zl137:Lab:=137
abbrev zl138:Lab:=138
abbrev zl139:Lab:=139
abbrev zl140:Lab:=140
abbrev zl144:Lab:=144
abbrev zl145:Lab:=145
abbrev zl147:Lab:=147
abbrev zl148:Lab:=148
abbrev zl161:Lab:=161
abbrev zl203:Lab:=203
abbrev zl204:Lab:=204
abbrev zl213:Lab:=213
abbrev zl216:Lab:=216
abbrev zl218:Lab:=218
abbrev zl219:Lab:=219
abbrev zl237:Lab:=237
abbrev zl238:Lab:=238
abbrev zl258:Lab:=258
abbrev zl259:Lab:=259
abbrev zl261:Lab:=261
abbrev zl262:Lab:=262
abbrev zl263:Lab:=263
abbrev zl268:Lab:=268
abbrev zl269:Lab:=269
abbrev zl335:Lab:=335
abbrev zl369:Lab:=369
abbrev zl373:Lab:=373
abbrev zl375:Lab:=375
abbrev zl382:Lab:=382
abbrev zl502:Lab:=502
abbrev zl503:Lab:=503
abbrev zl506:Lab:=506
abbrev zl507:Lab:=507
abbrev zl509:Lab:=509
abbrev zl510:Lab:=510
abbrev zl524:Lab:=524
abbrev zl531:Lab:=531
abbrev zl561:Lab:=561
abbrev zl572:Lab:=572
abbrev zl583:Lab:=583
abbrev zl585:Lab:=585
abbrev zl592:Lab:=592
def z2r0:IC:=.reg [⟨some 4, none,.asg (.c (.bool false))⟩] [0,1] []
def z2r1:IC:=.reg [⟨some 5, none,.mv (.t 0)⟩,⟨some 6, none,.call zl4 [(.val,(.t 5))] true⟩,⟨some 7, none,.asg (.t 6)⟩,⟨some 8, (some (7,true)),.mv (.t 1)⟩,⟨some 9, (some (7,true)),.call zl4 [(.val,(.t 8))] true⟩,⟨some 10, (some (7,true)),.unop .not (.t 9)⟩,⟨some 11, none,.pick (.t 7) (.t 10) (.c (.bool false))⟩,⟨some 12, none,.asg (.t 11)⟩,⟨some 13, (some (12,false)),.mv (.t 0)⟩,⟨some 14, (some (12,false)),.mv (.t 1)⟩,⟨some 15, (some (12,false)),.bin .lss (.t 13) (.t 14)⟩,⟨some 16, none,.pick (.t 12) (.c (.bool true)) (.t 15)⟩,⟨some 4, none,.asg (.t 16)⟩] [4] []
def zi2:IFun:=⟨[.t 4],[],(.seq z2r0 (.seq z2r1 .ret))⟩
def z4r0:IC:=.reg [⟨some 2, none,.asg (.c (.bool false))⟩] [0] []
def z4r1:IC:=.reg [⟨some 3, none,.mv (.t 0)⟩,⟨some 4, none,.mv (.t 0)⟩,⟨some 5, none,.bin .neq (.t 3) (.t 4)⟩,⟨some 2, none,.asg (.t 5)⟩] [2] []
def zi4:IFun:=⟨[.t 2],[],(.seq z4r0 (.seq z4r1 .ret))⟩
def z147r0:IC:=.reg [⟨some 2, none,.asg (.c (.slice none 0 0))⟩] [0] []
def z147r1:IC:=.reg [⟨some 4, none,.mv (.t 0)⟩,⟨some 5, none,.call zl213 [(.rd,(.t 4)),(.val,(.c (vi 5)))] true⟩,⟨some 6, none,.unop .not (.t 5)⟩] [0,6] []
def z147r2:IC:=.reg [⟨some 2, none,.asg (.c (.slice none 0 0))⟩] [2] []
def z147r3:IC:=.reg [⟨some 3, none,.alloc [(.slice none 0 0)]⟩] [0,3] []
def z147r4:IC:=.reg [⟨some 7, none,.mv (.t 0)⟩,⟨some 8, none,.len (.t 7)⟩,⟨some 9, none,.mv (.t 0)⟩,⟨some 10, none,.len (.t 9)⟩,⟨some 11, none,.call zl216 [(.val,(.t 10))] true⟩,⟨some 12, none,.mv (.t 0)⟩,⟨some 13, none,.mkfn zl148 [(.t 3)]⟩,⟨some 14, none,.call zl218 [(.val,(.t 8)),(.rd,(.t 11)),(.rd,(.t 12)),(.val,(.t 13))] false⟩] [3] []
def z147r5:IC:=.reg [⟨some 15, none,.load false 1 (.t 3)⟩,⟨some 16, none,.call zl259 [(.tk,(.t 15))] true⟩,⟨some 2, none,.asg (.t 16)⟩] [2] []
def zi147:IFun:=⟨[.t 2],[],(.seq z147r0 (.seq (.seq z147r1 (.cond (.t 6) (.seq z147r2 .ret) .skip)) (.seq z147r3 (.seq z147r4 (.seq z147r5 .ret)))))⟩
def z148r0:IC:=.reg [⟨some 2, none,.box (.t 0)⟩,⟨some 3, none,.asg (.c (.bool false))⟩] [1,2] []
def z148r1:IC:=.reg [⟨some 4, none,.load false 1 (.t 1)⟩,⟨some 5, none,.load true 2 (.t 2)⟩,⟨some 6, none,.bsl 2 [(vi 0),(.slice none 0 0)] 1 [(0,(.t 5))]⟩,⟨some 7, none,.app 2 (.t 4) (.t 6)⟩,⟨none,none,.store 1 (.t 1) (.t 7)⟩] [] []
def z148r2:IC:=.reg [⟨some 3, none,.asg (.c (.bool true))⟩] [3] []
def zi148:IFun:=⟨[.t 3],[],(.seq z148r0 (.seq z148r1 (.seq z148r2 .ret)))⟩
def z161r0:IC:=.reg [⟨some 1, none,.box (.t 0)⟩,⟨some 2, none,.asg (.c (.slice none 0 0))⟩] [1] []
def z161r1:IC:=.reg [⟨some 3, none,.load true 2 (.t 1)⟩,⟨some 4, none,.call zl26 [(.rd,(.t 3))] true⟩,⟨some 5, none,.unop .not (.t 4)⟩] [1,5] []
def z161r2:IC:=.reg [⟨some 2, none,.asg (.c (.slice none 0 0))⟩] [2] []
def z161r3:IC:=.reg [⟨some 6, none,.load true 2 (.t 1)⟩,⟨some 7, none,.call zl9 [(.rd,(.t 6))] true⟩,⟨some 2, none,.asg (.t 7)⟩] [2] []
def zi161:IFun:=⟨[.t 2],[],(.seq z161r0 (.seq (.seq z161r1 (.cond (.t 5) (.seq z161r2 .ret) .skip)) (.seq z161r3 .ret)))⟩
def z502r0:IC:=.reg [⟨some 4, none,.alloc [(vi 0),(.slice none 0 0)]⟩,⟨some 5, none,.alloc [(vi 0),(.slice none 0 0)]⟩,⟨some 6, none,.asg (.c (.bool false))⟩] [0,1,4,5] []
def z502r1:IC:=.reg [⟨some 7, none,.mv (.t 0)⟩,⟨some 8, none,.mv (.t 1)⟩,⟨some 9, none,.call zl524 [(.rd,(.t 7)),(.rd,(.t 8)),(.val,(.f zl503))] false⟩,⟨some 10, none,.extr (.t 9) 0⟩,⟨some 11, none,.extr (.t 9) 1⟩,⟨some 12, none,.extr (.t 9) 2⟩,⟨none,none,.store 2 (.t 4) (.t 10)⟩,⟨none,none,.store 2 (.t 5) (.t 11)⟩,⟨some 6, none,.asg (.t 12)⟩] [4,5,6] []
def zi502:IFun:=⟨[.c 4 2 true,.c 5 2 true,.t 6],[],(.seq z502r0 (.seq z502r1 .ret))⟩
def z503r0:IC:=.reg [⟨some 1, none,.box (.t 0)⟩,⟨some 2, none,.alloc [(vi 0),(.slice none 0 0)]⟩] [1,2] []
def z503r1:IC:=.reg [⟨some 3, none,.load true 2 (.t 1)⟩,⟨none,none,.store 2 (.t 2) (.t 3)⟩] [2] []
def zi503:IFun:=⟨[.c 2 2 true],[],(.seq z503r0 (.seq z503r1 .ret))⟩
def z7r0:IC:=.reg [⟨some 2, none,.asg (.c (vi 0))⟩] [0] []
def z7r1:IC:=.reg [⟨some 3, none,.mv (.t 0)⟩,⟨some 4, none,.call zl18 [(.rd,(.t 3))] true⟩,⟨some 5, none,.call zl73 [(.rd,(.t 4)),(.val,(.f zl8))] false⟩,⟨some 6, none,.bin .add (.t 5) (.c (vi 1))⟩,⟨some 2, none,.asg (.t 6)⟩] [2] []
def zi7:IFun:=⟨[.t 2],[],(.seq z7r0 (.seq z7r1 .ret))⟩
def z8r0:IC:=.reg [⟨some 2, none,.asg (.c (.bool false))⟩] [0] []
def z8r1:IC:=.reg [⟨some 3, none,.mv (.t 0)⟩,⟨some 4, none,.bin .lss (.t 3) (.c (vi 0))⟩,⟨some 2, none,.asg (.t 4)⟩] [2] []
def zi8:IFun:=⟨[.t 2],[],(.seq z8r0 (.seq z8r1 .ret))⟩
def z9r0:IC:=.reg [⟨some 1, none,.box (.t 0)⟩,⟨some 2, none,.asg (.c (.slice none 0 0))⟩] [1] []
def z9r1:IC:=.reg [⟨some 6, none,.fadr 0 (.t 1)⟩,⟨some 7, none,.load false 1 (.t 6)⟩,⟨some 8, none,.mksl 1 [(vi 0)] (.t 7) (.t 7)⟩,⟨some 3, none,.asg (.t 8)⟩] [1,3] []
def z9r2:IC:=.reg [⟨some 9, none,.fadr 1 (.t 1)⟩,⟨some 10, none,.load false 1 (.t 9)⟩,⟨some 11, none,.len (.t 10)⟩,⟨some 12, none,.mv (.c (vi 0))⟩] [1,3,10,11,12] []
def z9r3:IC:=.reg [⟨some 13, none,.bin .lss (.t 12) (.t 11)⟩] [1,3,10,11,12,13] []
def z9r4:IC:=.reg [⟨some 14, none,.iadr 2 (.t 10) (.t 12)⟩,⟨some 15, none,.load true 2 (.t 14)⟩,⟨some 5, none,.alloc [(vi 0),(vi 0)]⟩,⟨none,none,.store 2 (.t 5) (.t 15)⟩] [1,3,5,10,11,12] []
def z9r5:IC:=.reg [⟨some 16, none,.mv (.t 3)⟩,⟨some 17, none,.fadr 0 (.t 5)⟩,⟨some 18, none,.load false 1 (.t 17)⟩,⟨some 19, none,.iadr 1 (.t 16) (.t 18)⟩,⟨some 20, none,.load false 1 (.t 19)⟩,⟨some 21, none,.bin .add (.t 20) (.c (vi 1))⟩,⟨some 22, none,.iadr 1 (.t 16) (.t 18)⟩,⟨none,none,.store 1 (.t 22) (.t 21)⟩] [1,3,5,10,11,12] []
def z9r6:IC:=.reg [⟨some 23, none,.mv (.t 3)⟩,⟨some 24, none,.fadr 1 (.t 5)⟩,⟨some 25, none,.load false 1 (.t 24)⟩,⟨some 26, none,.iadr 1 (.t 23) (.t 25)⟩,⟨some 27, none,.load false 1 (.t 26)⟩,⟨some 28, none,.bin .add (.t 27) (.c (vi 1))⟩,⟨some 29, none,.iadr 1 (.t 23) (.t 25)⟩,⟨none,none,.store 1 (.t 29) (.t 28)⟩] [1,3,10,11,12] []
def z9r7:IC:=.reg [⟨some 30, none,.bin .add (.t 12) (.c (vi 1))⟩,⟨some 12, none,.asg (.t 30)⟩] [1,3,10,11,12] []
def z9l8:IC:=(.seq z9r3 (.seq (.cond (.t 13) .skip (.exit 0)) (.seq (.block 1 (.seq z9r4 (.seq z9r5 z9r6))) z9r7)))
def z9r9:IC:=.reg [⟨some 31, none,.mv (.t 3)⟩,⟨some 2, none,.asgm (.t 31)⟩] [2,3] []
def zi9:IFun:=⟨[.t 2],[],(.seq z9r0 (.seq z9r1 (.seq (.seq z9r2 (.block 0 (.loop z9l8))) (.seq z9r9 .ret))))⟩
def z506r0:IC:=.reg [⟨some 2, none,.box (.t 0)⟩,⟨some 4, none,.alloc [(vi 0),(.slice none 0 0)]⟩,⟨some 5, none,.asg (.c (.bool false))⟩] [1,2,4] []
def z506r1:IC:=.reg [⟨some 6, none,.alloc [(vi 0),(.slice none 0 0)]⟩] [1,2,4,6] []
def z506r2:IC:=.reg [⟨some 7, none,.alloc [(.bool false)]⟩,⟨none,none,.store 1 (.t 7) (.c (.bool false))⟩] [1,2,4,6,7] []
def z506r3:IC:=.reg [⟨some 8, none,.fadr 0 (.t 2)⟩,⟨some 9, none,.load false 1 (.t 8)⟩,⟨some 10, none,.fadr 1 (.t 2)⟩,⟨some 11, none,.load false 1 (.t 10)⟩,⟨some 12, none,.mv (.t 1)⟩,⟨some 13, none,.mkfn zl507 [(.t 6),(.t 7)]⟩,⟨some 14, none,.call zl218 [(.val,(.t 9)),(.rd,(.t 11)),(.rd,(.t 12)),(.val,(.t 13))] false⟩] [4,6,7] []
def z506r4:IC:=.reg [⟨some 15, none,.load true 2 (.t 6)⟩,⟨some 16, none,.load false 1 (.t 7)⟩,⟨none,none,.store 2 (.t 4) (.t 15)⟩,⟨some 5, none,.asg (.t 16)⟩] [4,5] [[0,2,1,3]]
def zi506:IFun:=⟨[.c 4 2 true,.t 5],[],(.seq z506r0 (.seq z506r1 (.seq z506r2 (.seq z506r3 (.seq z506r4 .ret)))))⟩
def z507r0:IC:=.reg [⟨some 3, none,.box (.t 0)⟩,⟨some 4, none,.asg (.c (.bool false))⟩] [1,2,3] []
def z507r1:IC:=.reg [⟨some 5, none,.load true 2 (.t 3)⟩,⟨none,none,.store 2 (.t 1) (.t 5)⟩,⟨none,none,.store 1 (.t 2) (.c (.bool true))⟩] [] []
def z507r2:IC:=.reg [⟨some 4, none,.asg (.c (.bool false))⟩] [4] []
def zi507:IFun:=⟨[.t 4],[],(.seq z507r0 (.seq z507r1 (.seq z507r2 .ret)))⟩
def z10r0:IC:=.reg [⟨some 2, none,.asg (.c (.bool false))⟩] [0] []
def z10r1:IC:=.reg [⟨some 3, none,.mv (.t 0)⟩,⟨some 4, none,.call zl25 [(.rd,(.t 3))] true⟩,⟨some 5, none,.asg (.t 4)⟩,⟨some 6, (some (5,true)),.mv (.t 0)⟩,⟨some 7, (some (5,true)),.call zl40 [(.rd,(.t 6))] true⟩,⟨some 8, (some (5,true)),.bin .rem (.t 7) (.c (vi 2))⟩,⟨some 9, (some (5,true)),.bin .eql (.t 8) (.c (vi 0))⟩,⟨some 10, none,.pick (.t 5) (.t 9) (.c (.bool false))⟩,⟨some 11, none,.asg (.t 10)⟩,⟨some 12, (some (11,true)),.mv (.t 0)⟩,⟨some 13, (some (11,true)),.call zl7 [(.rd,(.t 12))] true⟩,⟨some 14, (some (11,true)),.bin .eql (.t 13) (.c (vi 0))⟩,⟨some 15, none,.pick (.t 11) (.t 14) (.c (.bool false))⟩,⟨some 2, none,.asg (.t 15)⟩] [2] []
def zi10:IFun:=⟨[.t 2],[],(.seq z10r0 (.seq z10r1 .ret))⟩
def z509r0:IC:=.reg [⟨some 2, none,.box (.t 0)⟩,⟨some 3, none,.box (.t 1)⟩,⟨some 4, none,.asg (.c (.bool false))⟩] [2,3] []
def z509r1:IC:=.reg [⟨some 5, none,.load true 2 (.t 3)⟩,⟨some 6, none,.load true 2 (.t 2)⟩,⟨some 7, none,.call zl203 [(.rd,(.t 5)),(.rd,(.t 6))] true⟩,⟨some 8, none,.asg (.t 7)⟩,⟨some 9, (some (8,true)),.fadr 1 (.t 2)⟩,⟨some 10, (some (8,true)),.load false 1 (.t 9)⟩,⟨some 11, (some (8,true)),.mkfn zl510 [(.t 3)]⟩,⟨some 12, (some (8,true)),.call zl262 [(.rd,(.t 10)),(.val,(.t 11))] false⟩,⟨some 13, (some (8,true)),.unop .not (.t 12)⟩,⟨some 14, none,.pick (.t 8) (.t 13) (.c (.bool false))⟩,⟨some 4, none,.asg (.t 14)⟩] [4] []
def zi509:IFun:=⟨[.t 4],[],(.seq z509r0 (.seq z509r1 .ret))⟩
def z510r0:IC:=.reg [⟨some 2, none,.box (.t 0)⟩,⟨some 3, none,.asg (.c (.bool false))⟩] [1,2] []
def z510r1:IC:=.reg [⟨some 4, none,.fadr 1 (.t 1)⟩,⟨some 5, none,.load false 1 (.t 4)⟩,⟨some 6, none,.load true 2 (.t 2)⟩,⟨some 7, none,.call zl263 [(.rd,(.t 5)),(.val,(.t 6))] true⟩,⟨some 8, none,.unop .not (.t 7)⟩,⟨some 3, none,.asg (.t 8)⟩] [3] []
def zi510:IFun:=⟨[.t 3],[],(.seq z510r0 (.seq z510r1 .ret))⟩
def z18r0:IC:=.reg [⟨some 2, none,.asg (.c (.slice none 0 0))⟩] [0] []
def z18r1:IC:=.reg [⟨some 4, none,.mv (.t 0)⟩,⟨some 5, none,.call zl37 [(.rd,(.t 4))] true⟩,⟨some 3, none,.alloc [(.slice none 0 0)]⟩,⟨none,none,.store 1 (.t 3) (.t 5)⟩] [0,3] []
def z18r2:IC:=.reg [⟨some 6, none,.mv (.t 0)⟩,⟨some 7, none,.mkfn zl19 [(.t 3)]⟩,⟨some 8, none,.call zl35 [(.rd,(.t 6)),(.val,(.t 7))] false⟩,⟨some 2, none,.asg (.t 8)⟩] [2] []
def zi18:IFun:=⟨[.t 2],[],(.seq z18r0 (.seq z18r1 (.seq z18r2 .ret)))⟩
def z19r0:IC:=.reg [⟨some 3, none,.asg (.c (vi 0))⟩] [0,1] []
def z19r1:IC:=.reg [⟨some 8, none,.mv (.t 0)⟩,⟨some 9, none,.bin .add (.t 8) (.c (vi 1))⟩,⟨some 4, none,.asg (.t 9)⟩] [1,4] []
def z19r2:IC:=.reg [⟨some 10, none,.mv (.t 4)⟩,⟨some 11, none,.mv (.t 4)⟩,⟨some 12, none,.bin .sub (.t 11) (.c (vi 1))⟩,⟨some 13, none,.bin .mul (.t 10) (.t 12)⟩,⟨some 14, none,.load false 1 (.t 1)⟩,⟨some 15, none,.mv (.t 4)⟩,⟨some 16, none,.slc 1 (.t 14) none (some (.t 15)) none⟩,⟨some 17, none,.call zl40 [(.rd,(.t 16))] true⟩,⟨some 18, none,.bin .sub (.t 13) (.t 17)⟩,⟨some 5, none,.asg (.t 18)⟩] [1,4,5] []
def z19r3:IC:=.reg [⟨some 19, none,.load false 1 (.t 1)⟩,⟨some 20, none,.mv (.t 4)⟩,⟨some 21, none,.slc 1 (.t 19) (some (.t 20)) none none⟩,⟨some 22, none,.len (.t 21)⟩,⟨some 23, none,.mv (.c (vi 0))⟩] [1,4,5,21,22,23] []
def z19r4:IC:=.reg [⟨some 24, none,.bin .lss (.t 23) (.t 22)⟩] [1,4,5,21,22,23,24] []
def z19r5:IC:=.reg [⟨some 25, none,.iadr 1 (.t 21) (.t 23)⟩,⟨some 26, none,.load false 1 (.t 25)⟩,⟨some 7, none,.asg (.t 26)⟩] [1,4,5,7,21,22,23] []
def z19r6:IC:=.reg [⟨some 27, none,.mv (.t 5)⟩,⟨some 28, none,.mv (.t 7)⟩,⟨some 29, none,.mv (.t 4)⟩,⟨some 30, none,.minmax true (.t 28) (.t 29)⟩,⟨some 31, none,.bin .add (.t 27) (.t 30)⟩,⟨some 5, none,.asg (.t 31)⟩] [1,4,5,21,22,23] []
def z19r7:IC:=.reg [⟨some 32, none,.bin .add (.t 23) (.c (vi 1))⟩,⟨some 23, none,.asg (.t 32)⟩] [1,4,5,21,22,23] []
def z19l8:IC:=(.seq z19r4 (.seq (.cond (.t 24) .skip (.exit 0)) (.seq (.block 1 (.seq z19r5 z19r6)) z19r7)))
def z19r9:IC:=.reg [⟨some 33, none,.mv (.t 5)⟩,⟨some 3, none,.asgm (.t 33)⟩] [3] []
def zi19:IFun:=⟨[.t 3],[],(.seq z19r0 (.seq z19r1 (.seq z19r2 (.seq (.seq z19r3 (.block 0 (.loop z19l8))) (.seq z19r9 .ret)))))⟩
def z25r0:IC:=.reg [⟨some 2, none,.asg (.c (.bool false))⟩] [0] []
def z25r1:IC:=.reg [⟨some 3, none,.mv (.t 0)⟩,⟨some 4, none,.len (.t 3)⟩,⟨some 5, none,.bin .leq (.t 4) (.c (vi 7))⟩,⟨some 6, none,.asg (.t 5)⟩,⟨some 7, (some (6,true)),.mv (.t 0)⟩,⟨some 8, (some (6,true)),.mv (.t 0)⟩,⟨some 9, (some (6,true)),.len (.t 8)⟩,⟨some 10, (some (6,true)),.bin .sub (.t 9) (.c (vi 1))⟩,⟨some 11, (some (6,true)),.call zl29 [(.rd,(.t 7)),(.val,(.c (vi 0))),(.val,(.t 10))] true⟩,⟨some 12, none,.pick (.t 6) (.t 11) (.c (.bool false))⟩,⟨some 2, none,.asg (.t 12)⟩] [2] []
def zi25:IFun:=⟨[.t 2],[],(.seq z25r0 (.seq z25r1 .ret))⟩
def z26r0:IC:=.reg [⟨some 1, none,.box (.t 0)⟩,⟨some 2, none,.asg (.c (.bool false))⟩] [1] []
def z26r1:IC:=.reg [⟨some 5, none,.fadr 1 (.t 1)⟩,⟨some 6, none,.load false 1 (.t 5)⟩,⟨some 7, none,.len (.t 6)⟩,⟨some 8, none,.mv (.c (vi 0))⟩] [1,6,7,8] []
def z26r2:IC:=.reg [⟨some 9, none,.bin .lss (.t 8) (.t 7)⟩] [1,6,7,8,9] []
def z26r3:IC:=.reg [⟨some 10, none,.asg (.t 8)⟩,⟨some 11, none,.iadr 2 (.t 6) (.t 8)⟩,⟨some 12, none,.load true 2 (.t 11)⟩,⟨some 4, none,.alloc [(vi 0),(vi 0)]⟩,⟨some 3, none,.asg (.t 10)⟩,⟨none,none,.store 2 (.t 4) (.t 12)⟩] [1,3,4,6,7,8] []
def z26r4:IC:=.reg [⟨some 13, none,.fadr 0 (.t 4)⟩,⟨some 14, none,.load false 1 (.t 13)⟩,⟨some 15, none,.bin .lss (.t 14) (.c (vi 0))⟩,⟨some 16, none,.asg (.t 15)⟩,⟨some 17, (some (16,false)),.fadr 0 (.t 4)⟩,⟨some 18, (some (16,false)),.load false 1 (.t 17)⟩,⟨some 19, (some (16,false)),.fadr 1 (.t 4)⟩,⟨some 20, (some (16,false)),.load false 1 (.t 19)⟩,⟨some 21, (some (16,false)),.bin .geq (.t 18) (.t 20)⟩,⟨some 22, none,.pick (.t 16) (.c (.bool true)) (.t 21)⟩,⟨some 23, none,.asg (.t 22)⟩,⟨some 24, (some (23,false)),.fadr 1 (.t 4)⟩,⟨some 25, (some (23,false)),.load false 1 (.t 24)⟩,⟨some 26, (some (23,false)),.fadr 0 (.t 1)⟩,⟨some 27, (some (23,false)),.load false 1 (.t 26)⟩,⟨some 28, (some (23,false)),.bin .geq (.t 25) (.t 27)⟩,⟨some 29, none,.pick (.t 23) (.c (.bool true)) (.t 28)⟩,⟨some 30, none,.asg (.t 29)⟩,⟨some 31, (some (30,false)),.mv (.t 3)⟩,
    ⟨some 32, (some (30,false)),.bin .gtr (.t 31) (.c (vi 0))⟩,⟨some 33, (some (30,false)),.asg (.t 32)⟩,⟨some 34, (some (33,true)),.fadr 1 (.t 1)⟩,⟨some 35, (some (33,true)),.load false 1 (.t 34)⟩,⟨some 36, (some (33,true)),.mv (.t 3)⟩,⟨some 37, (some (33,true)),.bin .sub (.t 36) (.c (vi 1))⟩,⟨some 38, (some (33,true)),.iadr 2 (.t 35) (.t 37)⟩,⟨some 39, (some (33,true)),.load true 2 (.t 38)⟩,⟨some 40, (some (33,true)),.load true 2 (.t 4)⟩,⟨some 41, (some (33,true)),.call zl32 [(.val,(.t 39)),(.val,(.t 40))] true⟩,⟨some 42, (some (33,true)),.bin .geq (.t 41) (.c (vi 0))⟩,⟨some 43, (some (30,false)),.pick (.t 33) (.t 42) (.c (.bool false))⟩,⟨some 44, none,.pick (.t 30) (.c (.bool true)) (.t 43)⟩] [1,6,7,8,44] []
def z26r5:IC:=.reg [⟨some 2, none,.asg (.c (.bool false))⟩] [2] []
def z26r6:IC:=.reg [⟨some 45, none,.bin .add (.t 8) (.c (vi 1))⟩,⟨some 8, none,.asg (.t 45)⟩] [1,6,7,8] []
def z26l7:IC:=(.seq z26r2 (.seq (.cond (.t 9) .skip (.exit 0)) (.seq (.block 1 (.seq z26r3 (.seq z26r4 (.cond (.t 44) (.seq z26r5 .ret) .skip)))) z26r6)))
def z26r8:IC:=.reg [⟨some 46, none,.fadr 0 (.t 1)⟩,⟨some 47, none,.load false 1 (.t 46)⟩,⟨some 48, none,.call zl38 [(.val,(.t 47)),(.val,(.c (vi 0))),(.val,(.c (vi 7)))] true⟩,⟨some 2, none,.asg (.t 48)⟩] [2] []
def zi26:IFun:=⟨[.t 2],[],(.seq z26r0 (.seq (.seq z26r1 (.block 0 (.loop z26l7))) (.seq z26r8 .ret)))⟩
def z29r0:IC:=.reg [⟨some 4, none,.box (.t 1)⟩,⟨some 5, none,.box (.t 2)⟩,⟨some 6, none,.asg (.c (.bool false))⟩] [0,4,5] []
def z29r1:IC:=.reg [⟨some 7, none,.mv (.t 0)⟩,⟨some 8, none,.mkfn zl30 [(.t 4),(.t 5)]⟩,⟨some 9, none,.call zl72 [(.rd,(.t 7)),(.val,(.t 8))] false⟩,⟨some 10, none,.unop .not (.t 9)⟩,⟨some 6, none,.asg (.t 10)⟩] [6] []
def zi29:IFun:=⟨[.t 6],[],(.seq z29r0 (.seq z29r1 .ret))⟩
def z30r0:IC:=.reg [⟨some 4, none,.asg (.c (.bool false))⟩] [0,1,2] []
def z30r1:IC:=.reg [⟨some 5, none,.mv (.t 0)⟩,⟨some 6, none,.load false 1 (.t 1)⟩,⟨some 7, none,.load false 1 (.t 2)⟩,⟨some 8, none,.call zl38 [(.val,(.t 5)),(.val,(.t 6)),(.val,(.t 7))] true⟩,⟨some 9, none,.unop .not (.t 8)⟩,⟨some 4, none,.asg (.t 9)⟩] [4] []
def zi30:IFun:=⟨[.t 4],[],(.seq z30r0 (.seq z30r1 .ret))⟩
def z203r0:IC:=.reg [⟨some 2, none,.box (.t 0)⟩,⟨some 3, none,.box (.t 1)⟩,⟨some 4, none,.asg (.c (.bool false))⟩] [2,3] []
def z203r1:IC:=.reg [⟨some 5, none,.load true 2 (.t 2)⟩,⟨some 6, none,.call zl26 [(.rd,(.t 5))] true⟩,⟨some 7, none,.asg (.t 6)⟩,⟨some 8, (some (7,true)),.load true 2 (.t 3)⟩,⟨some 9, (some (7,true)),.call zl26 [(.rd,(.t 8))] true⟩,⟨some 10, none,.pick (.t 7) (.t 9) (.c (.bool false))⟩,⟨some 11, none,.asg (.t 10)⟩,⟨some 12, (some (11,true)),.fadr 0 (.t 2)⟩,⟨some 13, (some (11,true)),.load false 1 (.t 12)⟩,⟨some 14, (some (11,true)),.fadr 0 (.t 3)⟩,⟨some 15, (some (11,true)),.load false 1 (.t 14)⟩,⟨some 16, (some (11,true)),.bin .eql (.t 13) (.t 15)⟩,⟨some 17, none,.pick (.t 11) (.t 16) (.c (.bool false))⟩,⟨some 4, none,.asg (.t 17)⟩] [4] []
def zi203:IFun:=⟨[.t 4],[],(.seq z203r0 (.seq z203r1 .ret))⟩
def z204r0:IC:=.reg [⟨some 2, none,.asg (.c (.slice none 0 0))⟩] [0] []
def z204r1:IC:=.reg [⟨some 3, none,.mv (.t 0)⟩,⟨some 4, none,.call zl261 [(.rd,(.t 3))] true⟩,⟨some 5, none,.call zl258 [(.tk,(.t 4))] true⟩,⟨some 2, none,.asg (.t 5)⟩] [2] []
def zi204:IFun:=⟨[.t 2],[],(.seq z204r0 (.seq z204r1 .ret))⟩
def z31r0:IC:=.reg [⟨some 2, none,.asg (.c (.slice none 0 0))⟩] [0] []
def z31r1:IC:=.reg [⟨some 3, none,.mv (.t 0)⟩,⟨some 4, none,.call zl71 [(.rd,(.t 3))] true⟩,⟨some 5, none,.call zl70 [(.tk,(.t 4))] true⟩,⟨some 2, none,.asg (.t 5)⟩] [2] []
def zi31:IFun:=⟨[.t 2],[],(.seq z31r0 (.seq z31r1 .ret))⟩
def z32r0:IC:=.reg [⟨some 2, none,.box (.t 0)⟩,⟨some 3, none,.box (.t 1)⟩,⟨some 4, none,.asg (.c (vi 0))⟩] [2,3] []
def z32r1:IC:=.reg [⟨some 5, none,.fadr 0 (.t 2)⟩,⟨some 6, none,.load false 1 (.t 5)⟩,⟨some 7, none,.fadr 0 (.t 3)⟩,⟨some 8, none,.load false 1 (.t 7)⟩,⟨some 9, none,.bin .neq (.t 6) (.t 8)⟩] [2,3,9] []
def z32r2:IC:=.reg [⟨some 10, none,.fadr 0 (.t 2)⟩,⟨some 11, none,.load false 1 (.t 10)⟩,⟨some 12, none,.fadr 0 (.t 3)⟩,⟨some 13, none,.load false 1 (.t 12)⟩,⟨some 14, none,.bin .sub (.t 11) (.t 13)⟩,⟨some 4, none,.asg (.t 14)⟩] [4] []
def z32r3:IC:=.reg [⟨some 15, none,.fadr 1 (.t 2)⟩,⟨some 16, none,.load false 1 (.t 15)⟩,⟨some 17, none,.fadr 1 (.t 3)⟩,⟨some 18, none,.load false 1 (.t 17)⟩,⟨some 19, none,.bin .sub (.t 16) (.t 18)⟩,⟨some 4, none,.asg (.t 19)⟩] [4] []
def zi32:IFun:=⟨[.t 4],[],(.seq z32r0 (.seq (.seq z32r1 (.cond (.t 9) (.seq z32r2 .ret) .skip)) (.seq z32r3 .ret)))⟩
def z35r0:IC:=.reg [⟨some 4, none,.asg (.c (.slice none 0 0))⟩] [0,1] []
def z35r1:IC:=.reg [⟨some 7, none,.mv (.t 0)⟩,⟨some 8, none,.call zl25 [(.rd,(.t 7))] true⟩,⟨some 9, none,.unop .not (.t 8)⟩] [0,1,9] []
def z35r2:IC:=.reg [⟨some 4, none,.asg (.c (.slice none 0 0))⟩] [4,5] []
def z35r3:IC:=.reg [⟨some 10, none,.mv (.t 0)⟩,⟨some 11, none,.len (.t 10)⟩,⟨some 12, none,.mksl 1 [(vi 0)] (.t 11) (.t 11)⟩,⟨some 5, none,.asg (.t 12)⟩] [1,5] []
def z35r4:IC:=.reg [⟨some 13, none,.mv (.t 5)⟩,⟨some 14, none,.len (.t 13)⟩,⟨some 15, none,.mv (.c (vi 0))⟩] [1,5,14,15] []
def z35r5:IC:=.reg [⟨some 16, none,.bin .lss (.t 15) (.t 14)⟩] [1,5,14,15,16] []
def z35r6:IC:=.reg [⟨some 17, none,.asg (.t 15)⟩,⟨some 6, none,.asg (.t 17)⟩] [1,5,6,14,15] []
def z35r7:IC:=.reg [⟨some 18, none,.mv (.t 5)⟩,⟨some 19, none,.mv (.t 6)⟩,⟨some 20, none,.mv (.t 1)⟩,⟨some 21, none,.mv (.t 6)⟩,⟨some 22, none,.callv (.t 20) [(.val,(.t 21))]⟩,⟨some 23, none,.iadr 1 (.t 18) (.t 19)⟩,⟨none,none,.store 1 (.t 23) (.t 22)⟩] [1,5,14,15] []
def z35r8:IC:=.reg [⟨some 24, none,.bin .add (.t 15) (.c (vi 1))⟩,⟨some 15, none,.asg (.t 24)⟩] [1,5,14,15] []
def z35l9:IC:=(.seq z35r5 (.seq (.cond (.t 16) .skip (.exit 0)) (.seq (.block 1 (.seq z35r6 z35r7)) z35r8)))
def z35r10:IC:=.reg [⟨some 25, none,.mv (.t 5)⟩,⟨some 4, none,.asgm (.t 25)⟩] [4,5] []
def zi35:IFun:=⟨[.t 4],[],(.seq z35r0 (.seq (.seq z35r1 (.cond (.t 9) (.seq z35r2 .ret) .skip)) (.seq z35r3 (.seq (.seq z35r4 (.block 0 (.loop z35l9))) (.seq z35r10 .ret)))))⟩
def z37r0:IC:=.reg [⟨some 2, none,.asg (.c (.slice none 0 0))⟩] [0] []
def z37r1:IC:=.reg [⟨some 4, none,.mv (.t 0)⟩,⟨some 5, none,.call zl31 [(.rd,(.t 4))] true⟩,⟨some 3, none,.asg (.t 5)⟩] [3] []
def z37r2:IC:=.reg [⟨some 6, none,.mv (.t 3)⟩,⟨some 7, none,.call zl78 [(.ld,(.t 6))] false⟩] [3] []
def z37r3:IC:=.reg [⟨some 8, none,.mv (.t 3)⟩,⟨some 9, none,.call zl76 [(.ld,(.t 8))] false⟩] [3] []
def z37r4:IC:=.reg [⟨some 10, none,.mv (.t 3)⟩,⟨some 2, none,.asgm (.t 10)⟩] [2,3] []
def zi37:IFun:=⟨[.t 2],[],(.seq z37r0 (.seq z37r1 (.seq z37r2 (.seq z37r3 (.seq z37r4 .ret)))))⟩
def z38r0:IC:=.reg [⟨some 6, none,.asg (.c (.bool false))⟩] [0,1,2] []
def z38r1:IC:=.reg [⟨some 7, none,.mv (.t 0)⟩,⟨some 8, none,.mv (.t 1)⟩,⟨some 9, none,.bin .geq (.t 7) (.t 8)⟩,⟨some 10, none,.asg (.t 9)⟩,⟨some 11, (some (10,true)),.mv (.t 0)⟩,⟨some 12, (some (10,true)),.mv (.t 2)⟩,⟨some 13, (some (10,true)),.bin .leq (.t 11) (.t 12)⟩,⟨some 14, none,.pick (.t 10) (.t 13) (.c (.bool false))⟩,⟨some 6, none,.asg (.t 14)⟩] [6] []
def zi38:IFun:=⟨[.t 6],[],(.seq z38r0 (.seq z38r1 .ret))⟩
def z213r0:IC:=.reg [⟨some 4, none,.asg (.c (.bool false))⟩] [0,1] []
def z213r1:IC:=.reg [⟨some 5, none,.mv (.t 0)⟩,⟨some 6, none,.call zl25 [(.rd,(.t 5))] true⟩,⟨some 7, none,.asg (.t 6)⟩,⟨some 8, (some (7,true)),.mv (.t 0)⟩,⟨some 9, (some (7,true)),.len (.t 8)⟩,⟨some 10, (some (7,true)),.mv (.t 1)⟩,⟨some 11, (some (7,true)),.bin .leq (.t 9) (.t 10)⟩,⟨some 12, none,.pick (.t 7) (.t 11) (.c (.bool false))⟩,⟨some 4, none,.asg (.t 12)⟩] [4] []
def zi213:IFun:=⟨[.t 4],[],(.seq z213r0 (.seq z213r1 .ret))⟩
def z216r0:IC:=.reg [⟨some 2, none,.asg (.c (.slice none 0 0))⟩] [0] []
def z216r1:IC:=.reg [⟨some 3, none,.asg (.c (.slice none 0 0))⟩] [0,3] []
def z216r2:IC:=.reg [⟨some 6, none,.mv (.t 0)⟩,⟨some 7, none,.mv (.c (vi 0))⟩] [0,3,6,7] []
def z216r3:IC:=.reg [⟨some 8, none,.bin .lss (.t 7) (.t 6)⟩] [0,3,6,7,8] []
def z216r4:IC:=.reg [⟨some 9, none,.asg (.t 7)⟩,⟨some 4, none,.asg (.t 9)⟩] [0,3,4,6,7] []
def z216r5:IC:=.reg [⟨some 10, none,.mv (.t 4)⟩,⟨some 11, none,.bin .add (.t 10) (.c (vi 1))⟩,⟨some 5, none,.asg (.t 11)⟩] [0,3,4,5,6,7] []
def z216r6:IC:=.reg [⟨some 12, none,.mv (.t 5)⟩,⟨some 13, none,.mv (.t 0)⟩,⟨some 14, none,.bin .lss (.t 12) (.t 13)⟩] [0,3,4,5,6,7,14] []
def z216r7:IC:=.reg [⟨some 17, none,.mv (.t 3)⟩,⟨some 18, none,.mv (.t 4)⟩,⟨some 19, none,.mv (.t 5)⟩,⟨some 20, none,.build [(vi 0),(vi 0)] [(0,1,(.t 18)),(1,1,(.t 19))]⟩,⟨some 21, none,.bsl 2 [(vi 0),(vi 0)] 1 [(0,(.t 20))]⟩,⟨some 22, none,.app 2 (.t 17) (.t 21)⟩,⟨some 3, none,.asg (.t 22)⟩] [0,3,4,5,6,7] []
def z216r8:IC:=.reg [⟨some 15, none,.mv (.t 5)⟩,⟨some 16, none,.bin .add (.t 15) (.c (vi 1))⟩,⟨some 5, none,.asg (.t 16)⟩] [0,3,4,5,6,7] []
def z216l9:IC:=(.seq (.seq z216r6 (.cond (.t 14) .skip (.exit 2))) (.seq (.block 3 z216r7) z216r8))
def z216r10:IC:=.reg [⟨some 23, none,.bin .add (.t 7) (.c (vi 1))⟩,⟨some 7, none,.asg (.t 23)⟩] [0,3,6,7] []
def z216l11:IC:=(.seq z216r3 (.seq (.cond (.t 8) .skip (.exit 0)) (.seq (.block 1 (.seq z216r4 (.seq z216r5 (.block 2 (.loop z216l9))))) z216r10)))
def z216r12:IC:=.reg [⟨some 24, none,.mv (.t 3)⟩,⟨some 2, none,.asgm (.t 24)⟩] [2,3] []
def zi216:IFun:=⟨[.t 2],[],(.seq z216r0 (.seq z216r1 (.seq (.seq z216r2 (.block 0 (.loop z216l11))) (.seq z216r12 .ret))))⟩
def z524r0:IC:=.reg [⟨some 6, none,.alloc [(vi 0),(.slice none 0 0)]⟩,⟨some 7, none,.alloc [(vi 0),(.slice none 0 0)]⟩,⟨some 8, none,.asg (.c (.bool false))⟩] [0,1,2,6,7] []
def z524r1:IC:=.reg [⟨some 13, none,.mv (.t 0)⟩,⟨some 14, none,.call zl213 [(.rd,(.t 13)),(.val,(.c (vi 5)))] true⟩,⟨some 15, none,.unop .not (.t 14)⟩,⟨some 16, none,.asg (.t 15)⟩,⟨some 17, (some (16,false)),.mv (.t 1)⟩,⟨some 18, (some (16,false)),.call zl213 [(.rd,(.t 17)),(.val,(.c (vi 5)))] true⟩,⟨some 19, (some (16,false)),.unop .not (.t 18)⟩,⟨some 20, none,.pick (.t 16) (.c (.bool true)) (.t 19)⟩,⟨some 21, none,.asg (.t 20)⟩,⟨some 22, (some (21,false)),.mv (.t 0)⟩,⟨some 23, (some (21,false)),.len (.t 22)⟩,⟨some 24, (some (21,false)),.mv (.t 1)⟩,⟨some 25, (some (21,false)),.len (.t 24)⟩,⟨some 26, (some (21,false)),.bin .neq (.t 23) (.t 25)⟩,⟨some 27, none,.pick (.t 21) (.c (.bool true)) (.t 26)⟩] [0,1,2,6,7,27] []
def z524r2:IC:=.reg [⟨some 28, none,.build [(vi 0),(.slice none 0 0)] []⟩,⟨some 29, none,.build [(vi 0),(.slice none 0 0)] []⟩,⟨none,none,.storef 2 (.t 6) (.t 28)⟩,⟨none,none,.storef 2 (.t 7) (.t 29)⟩,⟨some 8, none,.asg (.c (.bool false))⟩] [6,7,8] []
def z524r3:IC:=.reg [⟨some 30, none,.mv (.t 0)⟩,⟨some 31, none,.call zl147 [(.rd,(.t 30))] true⟩,⟨some 32, none,.len (.t 31)⟩,⟨some 33, none,.mv (.c (vi 0))⟩] [1,2,6,7,31,32,33] []
def z524r4:IC:=.reg [⟨some 34, none,.bin .lss (.t 33) (.t 32)⟩] [1,2,6,7,31,32,33,34] []
def z524r5:IC:=.reg [⟨some 35, none,.iadr 2 (.t 31) (.t 33)⟩,⟨some 36, none,.load true 2 (.t 35)⟩,⟨some 10, none,.alloc [(vi 0),(.slice none 0 0)]⟩,⟨none,none,.storef 2 (.t 10) (.t 36)⟩] [1,2,6,7,10,31,32,33] []
def z524r6:IC:=.reg [⟨some 38, none,.mv (.t 2)⟩,⟨some 39, none,.load true 2 (.t 10)⟩,⟨some 40, none,.callv (.t 38) [(.tk,(.t 39))]⟩,⟨some 41, none,.mv (.t 1)⟩,⟨some 42, none,.call zl506 [(.rd,(.t 40)),(.rd,(.t 41))] true⟩,⟨some 37, none,.asg (.t 42)⟩,⟨some 43, none,.extr (.t 37) 0⟩,⟨some 44, none,.extr (.t 37) 1⟩,⟨some 11, none,.alloc [(vi 0),(.slice none 0 0)]⟩,⟨none,none,.storef 2 (.t 11) (.t 43)⟩,⟨some 12, none,.asg (.t 44)⟩] [1,2,6,7,10,11,12,31,32,33] []
def z524r7:IC:=.reg [⟨some 45, none,.mv (.t 12)⟩] [1,2,6,7,10,11,31,32,33,45] []
def z524r8:IC:=.reg [⟨some 46, none,.load true 2 (.t 10)⟩,⟨some 47, none,.load true 2 (.t 11)⟩,⟨none,none,.storef 2 (.t 6) (.t 46)⟩,⟨none,none,.storef 2 (.t 7) (.t 47)⟩,⟨some 8, none,.asg (.c (.bool true))⟩] [6,7,8] [[0,2,1,3,4]]
def z524r9:IC:=.reg [⟨some 48, none,.bin .add (.t 33) (.c (vi 1))⟩,⟨some 33, none,.asg (.t 48)⟩] [1,2,6,7,31,32,33] []
def z524l10:IC:=(.seq z524r4 (.seq (.cond (.t 34) .skip (.exit 0)) (.seq (.block 1 (.seq z524r5 (.seq z524r6 (.seq z524r7 (.cond (.t 45) (.seq z524r8 .ret) .skip))))) z524r9)))
def z524r11:IC:=.reg [⟨some 49, none,.build [(vi 0),(.slice none 0 0)] []⟩,⟨some 50, none,.build [(vi 0),(.slice none 0 0)] []⟩,⟨none,none,.storef 2 (.t 6) (.t 49)⟩,⟨none,none,.storef 2 (.t 7) (.t 50)⟩,⟨some 8, none,.asg (.c (.bool false))⟩] [6,7,8] []
def zi524:IFun:=⟨[.c 6 2 true,.c 7 2 true,.t 8],[],(.seq z524r0 (.seq (.seq z524r1 (.cond (.t 27) (.seq z524r2 .ret) .skip)) (.seq (.seq z524r3 (.block 0 (.loop z524l10))) (.seq z524r11 .ret))))⟩
def z218r0:IC:=.reg [⟨some 4, none,.box (.t 0)⟩,⟨some 5, none,.box (.t 1)⟩,⟨some 7, none,.box (.t 3)⟩] [2,4,5,7] []
def z218r1:IC:=.reg [⟨some 11, none,.mv (.t 2)⟩,⟨some 12, none,.call zl31 [(.rd,(.t 11))] true⟩,⟨some 8, none,.alloc [(.slice none 0 0)]⟩,⟨none,none,.store 1 (.t 8) (.t 12)⟩] [4,5,7,8] []
def z218r2:IC:=.reg [⟨some 9, none,.alloc [(.slice none 0 0)]⟩] [4,5,7,8,9] []
def z218r3:IC:=.reg [⟨some 10, none,.alloc [.nilFunc]⟩] [4,5,7,8,9,10] []
def z218r4:IC:=.reg [⟨some 13, none,.mkfn zl219 [(.t 5),(.t 8),(.t 7),(.t 4),(.t 9),(.t 10)]⟩,⟨none,none,.store 1 (.t 10) (.t 13)⟩] [10] []
def z218r5:IC:=.reg [⟨some 14, none,.load false 1 (.t 10)⟩,⟨some 15, none,.callv (.t 14) [(.val,(.c (vi 0)))]⟩] [] []
def zi218:IFun:=⟨[],[],(.seq z218r0 (.seq z218r1 (.seq z218r2 (.seq z218r3 (.seq z218r4 z218r5)))))⟩
def z219r0:IC:=.reg [⟨some 8, none,.asg (.c (.bool false))⟩] [0,1,2,3,4,5,6] []
def z219r1:IC:=.reg [⟨some 11, none,.mv (.t 0)⟩,⟨some 12, none,.load false 1 (.t 1)⟩,⟨some 13, none,.len (.t 12)⟩,⟨some 14, none,.bin .eql (.t 11) (.t 13)⟩] [0,1,2,3,4,5,6,14] []
def z219r2:IC:=.reg [⟨some 15, none,.load false 1 (.t 2)⟩,⟨some 16, none,.call zl29 [(.rd,(.t 15)),(.val,(.c (vi 0))),(.val,(.c (vi 0)))] true⟩,⟨some 17, none,.unop .not (.t 16)⟩,⟨some 18, none,.asg (.t 17)⟩,⟨some 19, (some (18,false)),.load false 1 (.t 3)⟩,⟨some 20, (some (18,false)),.load false 1 (.t 4)⟩,⟨some 21, (some (18,false)),.load false 1 (.t 5)⟩,⟨some 22, (some (18,false)),.call zl204 [(.rd,(.t 21))] true⟩,⟨some 23, (some (18,false)),.build [(vi 0),(.slice none 0 0)] [(0,1,(.t 20)),(1,1,(.t 22))]⟩,⟨some 24, (some (18,false)),.callv (.t 19) [(.tk,(.t 23))]⟩,⟨some 25, none,.pick (.t 18) (.c (.bool true)) (.t 24)⟩,⟨some 8, none,.asg (.t 25)⟩] [8] [[0,1,2,3,4,6,7,5,8,9,10,11],[0,1,2,3,5,6,7,4,8,9,10,11],[0,1,2,3,5,6,7,8,4,9,10,11],[0,1,2,3,6,7,4,5,8,9,10,11],[0,1,2,3,6,7,5,8,4,9,10,11]]
def z219r3:IC:=.reg [⟨some 26, none,.load false 1 (.t 1)⟩,⟨some 27, none,.mv (.t 0)⟩,⟨some 28, none,.iadr 2 (.t 26) (.t 27)⟩,⟨some 29, none,.load true 2 (.t 28)⟩,⟨some 9, none,.alloc [(vi 0),(vi 0)]⟩,⟨none,none,.store 2 (.t 9) (.t 29)⟩] [0,2,5,6,9] []
def z219r4:IC:=.reg [⟨some 30, none,.load false 1 (.t 2)⟩,⟨some 31, none,.fadr 0 (.t 9)⟩,⟨some 32, none,.load false 1 (.t 31)⟩,⟨some 33, none,.iadr 1 (.t 30) (.t 32)⟩,⟨some 34, none,.load false 1 (.t 33)⟩,⟨some 35, none,.bin .gtr (.t 34) (.c (vi 0))⟩,⟨some 36, none,.asg (.t 35)⟩,⟨some 37, (some (36,true)),.load false 1 (.t 2)⟩,⟨some 38, (some (36,true)),.fadr 1 (.t 9)⟩,⟨some 39, (some (36,true)),.load false 1 (.t 38)⟩,⟨some 40, (some (36,true)),.iadr 1 (.t 37) (.t 39)⟩,⟨some 41, (some (36,true)),.load false 1 (.t 40)⟩,⟨some 42, (some (36,true)),.bin .gtr (.t 41) (.c (vi 0))⟩,⟨some 43, none,.pick (.t 36) (.t 42) (.c (.bool false))⟩] [0,2,5,6,9,43] []
def z219r5:IC:=.reg [⟨some 44, none,.load false 1 (.t 2)⟩,⟨some 45, none,.fadr 0 (.t 9)⟩,⟨some 46, none,.load false 1 (.t 45)⟩,⟨some 47, none,.iadr 1 (.t 44) (.t 46)⟩,⟨some 48, none,.load false 1 (.t 47)⟩,⟨some 49, none,.bin .sub (.t 48) (.c (vi 1))⟩,⟨some 50, none,.iadr 1 (.t 44) (.t 46)⟩,⟨none,none,.store 1 (.t 50) (.t 49)⟩] [0,2,5,6,9] []
def z219r6:IC:=.reg [⟨some 51, none,.load false 1 (.t 2)⟩,⟨some 52, none,.fadr 1 (.t 9)⟩,⟨some 53, none,.load false 1 (.t 52)⟩,⟨some 54, none,.iadr 1 (.t 51) (.t 53)⟩,⟨some 55, none,.load false 1 (.t 54)⟩,⟨some 56, none,.bin .sub (.t 55) (.c (vi 1))⟩,⟨some 57, none,.iadr 1 (.t 51) (.t 53)⟩,⟨none,none,.store 1 (.t 57) (.t 56)⟩] [0,2,5,6,9] []
def z219r7:IC:=.reg [⟨some 58, none,.load false 1 (.t 5)⟩,⟨some 59, none,.load true 2 (.t 9)⟩,⟨some 60, none,.bsl 2 [(vi 0),(vi 0)] 1 [(0,(.t 59))]⟩,⟨some 61, none,.app 2 (.t 58) (.t 60)⟩,⟨none,none,.store 1 (.t 5) (.t 61)⟩] [0,2,5,6,9] []
def z219r8:IC:=.reg [⟨some 62, none,.load false 1 (.t 6)⟩,⟨some 63, none,.mv (.t 0)⟩,⟨some 64, none,.bin .add (.t 63) (.c (vi 1))⟩,⟨some 65, none,.callv (.t 62) [(.val,(.t 64))]⟩,⟨some 10, none,.asg (.t 65)⟩] [0,2,5,6,9,10] []
def z219r9:IC:=.reg [⟨some 66, none,.load false 1 (.t 5)⟩,⟨some 67, none,.load false 1 (.t 5)⟩,⟨some 68, none,.len (.t 67)⟩,⟨some 69, none,.bin .sub (.t 68) (.c (vi 1))⟩,⟨some 70, none,.slc 2 (.t 66) none (some (.t 69)) none⟩,⟨none,none,.store 1 (.t 5) (.t 70)⟩] [0,2,6,9,10] []
def z219r10:IC:=.reg [⟨some 71, none,.load false 1 (.t 2)⟩,⟨some 72, none,.fadr 0 (.t 9)⟩,⟨some 73, none,.load false 1 (.t 72)⟩,⟨some 74, none,.iadr 1 (.t 71) (.t 73)⟩,⟨some 75, none,.load false 1 (.t 74)⟩,⟨some 76, none,.bin .add (.t 75) (.c (vi 1))⟩,⟨some 77, none,.iadr 1 (.t 71) (.t 73)⟩,⟨none,none,.store 1 (.t 77) (.t 76)⟩] [0,2,6,9,10] []
def z219r11:IC:=.reg [⟨some 78, none,.load false 1 (.t 2)⟩,⟨some 79, none,.fadr 1 (.t 9)⟩,⟨some 80, none,.load false 1 (.t 79)⟩,⟨some 81, none,.iadr 1 (.t 78) (.t 80)⟩,⟨some 82, none,.load false 1 (.t 81)⟩,⟨some 83, none,.bin .add (.t 82) (.c (vi 1))⟩,⟨some 84, none,.iadr 1 (.t 78) (.t 80)⟩,⟨none,none,.store 1 (.t 84) (.t 83)⟩] [0,6,10] []
def z219r12:IC:=.reg [⟨some 85, none,.mv (.t 10)⟩,⟨some 86, none,.unop .not (.t 85)⟩] [0,6,86] []
def z219r13:IC:=.reg [⟨some 8, none,.asg (.c (.bool false))⟩] [8] []
def z219r14:IC:=.reg [⟨some 87, none,.load false 1 (.t 6)⟩,⟨some 88, none,.mv (.t 0)⟩,⟨some 89, none,.bin .add (.t 88) (.c (vi 1))⟩,⟨some 90, none,.callv (.t 87) [(.val,(.t 89))]⟩,⟨some 8, none,.asg (.t 90)⟩] [8] []
def zi219:IFun:=⟨[.t 8],[],(.seq z219r0 (.seq (.seq z219r1 (.cond (.t 14) (.seq z219r2 .ret) .skip)) (.seq z219r3 (.seq (.seq z219r4 (.cond (.t 43) (.seq z219r5 (.seq z219r6 (.seq z219r7 (.seq z219r8 (.seq z219r9 (.seq z219r10 (.seq z219r11 (.seq z219r12 (.cond (.t 86) (.seq z219r13 .ret) .skip))))))))) .skip)) (.seq z219r14 .ret)))))⟩
def z40r0:IC:=.reg [⟨some 2, none,.asg (.c (vi 0))⟩] [0] []
def z40r1:IC:=.reg [⟨some 3, none,.asg (.c (vi 0))⟩] [0,3] []
def z40r2:IC:=.reg [⟨some 6, none,.mv (.t 0)⟩,⟨some 7, none,.len (.t 6)⟩,⟨some 8, none,.mv (.c (vi 0))⟩] [0,3,6,7,8] []
def z40r3:IC:=.reg [⟨some 9, none,.bin .lss (.t 8) (.t 7)⟩] [0,3,6,7,8,9] []
def z40r4:IC:=.reg [⟨some 10, none,.iadr 1 (.t 6) (.t 8)⟩,⟨some 11, none,.load false 1 (.t 10)⟩,⟨some 5, none,.asg (.t 11)⟩] [0,3,5,6,7,8] []
def z40r5:IC:=.reg [⟨some 12, none,.mv (.t 3)⟩,⟨some 13, none,.mv (.t 5)⟩,⟨some 14, none,.bin .add (.t 12) (.t 13)⟩,⟨some 3, none,.asg (.t 14)⟩] [0,3,6,7,8] []
def z40r6:IC:=.reg [⟨some 15, none,.bin .add (.t 8) (.c (vi 1))⟩,⟨some 8, none,.asg (.t 15)⟩] [0,3,6,7,8] []
def z40l7:IC:=(.seq z40r3 (.seq (.cond (.t 9) .skip (.exit 0)) (.seq (.block 1 (.seq z40r4 z40r5)) z40r6)))
def z40r8:IC:=.reg [⟨some 16, none,.mv (.t 3)⟩,⟨some 2, none,.asgm (.t 16)⟩] [2] []
def zi40:IFun:=⟨[.t 2],[],(.seq z40r0 (.seq z40r1 (.seq (.seq z40r2 (.block 0 (.loop z40l7))) (.seq z40r8 .ret))))⟩
def z531r0:IC:=.reg [⟨some 2, none,.asg (.c (.bool false))⟩] [0] []
def z531r1:IC:=.reg [⟨some 14, none,.mv (.t 0)⟩,⟨some 15, none,.len (.t 14)⟩,⟨some 16, none,.bin .gtr (.t 15) (.c (vi 1048576))⟩] [0,16] []
def z531r2:IC:=.reg [⟨some 2, none,.asg (.c (.bool true))⟩] [2] []
def z531r3:IC:=.reg [⟨some 18, none,.mv (.t 0)⟩,⟨some 19, none,.call zl561 [(.rd,(.t 18))] true⟩,⟨some 17, none,.asg (.t 19)⟩,⟨some 20, none,.extr (.t 17) 0⟩,⟨some 21, none,.extr (.t 17) 1⟩,⟨some 3, none,.asgf (.t 20)⟩,⟨some 4, none,.asgf (.t 21)⟩] [3,4] []
def z531r4:IC:=.reg [⟨some 23, none,.mv (.t 3)⟩,⟨some 24, none,.mv (.t 4)⟩,⟨some 25, none,.call zl502 [(.rd,(.t 23)),(.rd,(.t 24))] true⟩,⟨some 22, none,.asg (.t 25)⟩,⟨some 26, none,.extr (.t 22) 0⟩,⟨some 27, none,.extr (.t 22) 1⟩,⟨some 28, none,.extr (.t 22) 2⟩,⟨some 5, none,.alloc [(vi 0),(.slice none 0 0)]⟩,⟨some 6, none,.alloc [(vi 0),(.slice none 0 0)]⟩,⟨none,none,.storef 2 (.t 5) (.t 26)⟩,⟨none,none,.storef 2 (.t 6) (.t 27)⟩,⟨some 7, none,.asgf (.t 28)⟩] [3,4,5,6,7] []
def z531r5:IC:=.reg [⟨some 30, none,.mv (.t 3)⟩,⟨some 31, none,.mv (.t 4)⟩,⟨some 32, none,.call zl572 [(.rd,(.t 30)),(.rd,(.t 31))] true⟩,⟨some 29, none,.asg (.t 32)⟩,⟨some 33, none,.extr (.t 29) 0⟩,⟨some 34, none,.extr (.t 29) 1⟩,⟨some 35, none,.extr (.t 29) 2⟩,⟨some 8, none,.alloc [(vi 0),(.slice none 0 0)]⟩,⟨some 9, none,.alloc [(vi 0),(.slice none 0 0)]⟩,⟨none,none,.storef 2 (.t 8) (.t 33)⟩,⟨none,none,.storef 2 (.t 9) (.t 34)⟩,⟨some 10, none,.asgf (.t 35)⟩] [3,4,5,6,7,8,9,10] []
def z531r6:IC:=.reg [⟨some 36, none,.load true 2 (.t 5)⟩,⟨some 37, none,.load true 2 (.t 8)⟩,⟨some 38, none,.call zl238 [(.rd,(.t 36)),(.rd,(.t 37))] true⟩,⟨some 39, none,.unop .not (.t 38)⟩,⟨some 40, none,.asg (.t 39)⟩,⟨some 41, (some (40,false)),.load true 2 (.t 6)⟩,⟨some 42, (some (40,false)),.load true 2 (.t 9)⟩,⟨some 43, (some (40,false)),.call zl238 [(.rd,(.t 41)),(.rd,(.t 42))] true⟩,⟨some 44, (some (40,false)),.unop .not (.t 43)⟩,⟨some 45, none,.pick (.t 40) (.c (.bool true)) (.t 44)⟩,⟨some 46, none,.asg (.t 45)⟩,⟨some 47, (some (46,false)),.mv (.t 7)⟩,⟨some 48, (some (46,false)),.mv (.t 10)⟩,⟨some 49, (some (46,false)),.eqb true (.t 47) (.t 48)⟩,⟨some 50, none,.pick (.t 46) (.c (.bool true)) (.t 49)⟩,⟨some 51, none,.asg (.t 50)⟩,⟨some 52, (some (51,false)),.mv (.t 3)⟩,⟨some 53, (some (51,false)),.call zl25 [(.rd,(.t 52))] true⟩,
    ⟨some 54, (some (51,false)),.unop .not (.t 53)⟩,⟨some 55, none,.pick (.t 51) (.c (.bool true)) (.t 54)⟩,⟨some 56, none,.asg (.t 55)⟩,⟨some 57, (some (56,false)),.mv (.t 4)⟩,⟨some 58, (some (56,false)),.call zl25 [(.rd,(.t 57))] true⟩,⟨some 59, (some (56,false)),.unop .not (.t 58)⟩,⟨some 60, none,.pick (.t 56) (.c (.bool true)) (.t 59)⟩,⟨some 61, none,.asg (.t 60)⟩,⟨some 62, (some (61,false)),.mv (.t 3)⟩,⟨some 63, (some (61,false)),.len (.t 62)⟩,⟨some 64, (some (61,false)),.mv (.t 4)⟩,⟨some 65, (some (61,false)),.len (.t 64)⟩,⟨some 66, (some (61,false)),.bin .neq (.t 63) (.t 65)⟩,⟨some 67, none,.pick (.t 61) (.c (.bool true)) (.t 66)⟩,⟨some 68, none,.asg (.t 67)⟩,⟨some 69, (some (68,false)),.mv (.t 3)⟩,⟨some 70, (some (68,false)),.len (.t 69)⟩,⟨some 71, (some (68,false)),.bin .gtr (.t 70) (.c (vi 5))⟩,
    ⟨some 72, none,.pick (.t 68) (.c (.bool true)) (.t 71)⟩] [3,4,5,6,7,8,9,10,72] []
def z531r7:IC:=.reg [⟨some 73, none,.load true 2 (.t 5)⟩,⟨some 74, none,.load true 2 (.t 8)⟩,⟨some 75, none,.call zl238 [(.rd,(.t 73)),(.rd,(.t 74))] true⟩,⟨some 76, none,.asg (.t 75)⟩,⟨some 77, (some (76,true)),.load true 2 (.t 6)⟩,⟨some 78, (some (76,true)),.load true 2 (.t 9)⟩,⟨some 79, (some (76,true)),.call zl238 [(.rd,(.t 77)),(.rd,(.t 78))] true⟩,⟨some 80, none,.pick (.t 76) (.t 79) (.c (.bool false))⟩,⟨some 81, none,.asg (.t 80)⟩,⟨some 82, (some (81,true)),.mv (.t 7)⟩,⟨some 83, (some (81,true)),.mv (.t 10)⟩,⟨some 84, (some (81,true)),.eqb false (.t 82) (.t 83)⟩,⟨some 85, none,.pick (.t 81) (.t 84) (.c (.bool false))⟩,⟨some 2, none,.asg (.t 85)⟩] [2] []
def z531r8:IC:=.reg [⟨some 86, none,.mv (.t 7)⟩,⟨some 87, none,.asg (.t 86)⟩,⟨some 88, (some (87,true)),.load true 2 (.t 5)⟩,⟨some 89, (some (87,true)),.call zl161 [(.rd,(.t 88))] true⟩,⟨some 90, (some (87,true)),.mv (.t 3)⟩,⟨some 91, (some (87,true)),.call zl53 [(.rd,(.t 89)),(.rd,(.t 90))] true⟩,⟨some 92, (some (87,true)),.unop .not (.t 91)⟩,⟨some 93, (some (87,true)),.asg (.t 92)⟩,⟨some 94, (some (93,false)),.load true 2 (.t 6)⟩,⟨some 95, (some (93,false)),.call zl161 [(.rd,(.t 94))] true⟩,⟨some 96, (some (93,false)),.mv (.t 4)⟩,⟨some 97, (some (93,false)),.call zl53 [(.rd,(.t 95)),(.rd,(.t 96))] true⟩,⟨some 98, (some (93,false)),.unop .not (.t 97)⟩,⟨some 99, (some (87,true)),.pick (.t 93) (.c (.bool true)) (.t 98)⟩,⟨some 100, (some (87,true)),.asg (.t 99)⟩,⟨some 101, (some (100,false)),.load true 2 (.t 6)⟩,⟨some 102, (some (100,false)),.load true 2 (.t 5)⟩,
    ⟨some 103, (some (100,false)),.call zl509 [(.rd,(.t 101)),(.rd,(.t 102))] true⟩,⟨some 104, (some (100,false)),.unop .not (.t 103)⟩,⟨some 105, (some (87,true)),.pick (.t 100) (.c (.bool true)) (.t 104)⟩,⟨some 106, none,.pick (.t 87) (.t 105) (.c (.bool false))⟩] [3,4,7,106] []
def z531r9:IC:=.reg [⟨some 2, none,.asg (.c (.bool false))⟩] [2] []
def z531r10:IC:=.reg [⟨some 107, none,.bsl 1 [(vi 0)] 0 []⟩,⟨some 11, none,.asg (.t 107)⟩] [3,4,7,11] []
def z531r11:IC:=.reg [⟨some 12, none,.asg (.c (.bool true))⟩] [3,4,7,11,12] []
def z531r12:IC:=.reg [⟨some 13, none,.asg (.c (vi 0))⟩] [3,4,7,11,12,13] []
def z531r13:IC:=.reg [⟨some 108, none,.mv (.t 13)⟩,⟨some 109, none,.mv (.t 3)⟩,⟨some 110, none,.len (.t 109)⟩,⟨some 111, none,.bin .lss (.t 108) (.t 110)⟩] [3,4,7,11,12,13,111] []
def z531r14:IC:=.reg [⟨some 114, none,.mv (.t 11)⟩,⟨some 115, none,.mv (.t 3)⟩,⟨some 116, none,.mv (.t 13)⟩,⟨some 117, none,.iadr 1 (.t 115) (.t 116)⟩,⟨some 118, none,.load false 1 (.t 117)⟩,⟨some 119, none,.mv (.t 4)⟩,⟨some 120, none,.mv (.t 13)⟩,⟨some 121, none,.iadr 1 (.t 119) (.t 120)⟩,⟨some 122, none,.load false 1 (.t 121)⟩,⟨some 123, none,.bin .sub (.t 118) (.t 122)⟩,⟨some 124, none,.bsl 1 [(vi 0)] 1 [(0,(.t 123))]⟩,⟨some 125, none,.app 1 (.t 114) (.t 124)⟩,⟨some 11, none,.asg (.t 125)⟩] [3,4,7,11,12,13] []
def z531r15:IC:=.reg [⟨some 126, none,.mv (.t 12)⟩,⟨some 127, none,.asgm (.t 126)⟩,⟨some 128, (some (127,true)),.mv (.t 4)⟩,⟨some 129, (some (127,true)),.mv (.t 13)⟩,⟨some 130, (some (127,true)),.iadr 1 (.t 128) (.t 129)⟩,⟨some 131, (some (127,true)),.load false 1 (.t 130)⟩,⟨some 132, (some (127,true)),.mv (.t 4)⟩,⟨some 133, (some (127,true)),.iadr 1 (.t 132) (.c (vi 0))⟩,⟨some 134, (some (127,true)),.load false 1 (.t 133)⟩,⟨some 135, (some (127,true)),.bin .eql (.t 131) (.t 134)⟩,⟨some 136, none,.pick (.t 127) (.t 135) (.c (.bool false))⟩,⟨some 12, none,.asg (.t 136)⟩] [3,4,7,11,12,13] []
def z531r16:IC:=.reg [⟨some 112, none,.mv (.t 13)⟩,⟨some 113, none,.bin .add (.t 112) (.c (vi 1))⟩,⟨some 13, none,.asg (.t 113)⟩] [3,4,7,11,12,13] []
def z531l17:IC:=(.seq (.seq z531r13 (.cond (.t 111) .skip (.exit 0))) (.seq (.block 1 (.seq z531r14 z531r15)) z531r16))
def z531r18:IC:=.reg [⟨some 137, none,.mv (.t 12)⟩,⟨some 138, none,.unop .not (.t 137)⟩,⟨some 139, none,.asg (.t 138)⟩,⟨some 140, (some (139,false)),.mv (.t 7)⟩,⟨some 141, (some (139,false)),.mv (.t 3)⟩,⟨some 142, (some (139,false)),.call zl10 [(.rd,(.t 141))] true⟩,⟨some 143, (some (139,false)),.asg (.t 142)⟩,⟨some 144, (some (143,true)),.mv (.t 4)⟩,⟨some 145, (some (143,true)),.call zl10 [(.rd,(.t 144))] true⟩,⟨some 146, (some (139,false)),.pick (.t 143) (.t 145) (.c (.bool false))⟩,⟨some 147, (some (139,false)),.asg (.t 146)⟩,⟨some 148, (some (147,true)),.mv (.t 11)⟩,⟨some 149, (some (147,true)),.call zl10 [(.rd,(.t 148))] true⟩,⟨some 150, (some (139,false)),.pick (.t 147) (.t 149) (.c (.bool false))⟩,⟨some 151, (some (139,false)),.eqb false (.t 140) (.t 150)⟩,⟨some 152, none,.pick (.t 139) (.c (.bool true)) (.t 151)⟩,⟨some 2, none,.asg (.t 152)⟩] [2] []
def zi531:IFun:=⟨[.t 2],[],(.seq z531r0 (.seq (.seq z531r1 (.cond (.t 16) (.seq z531r2 .ret) .skip)) (.seq z531r3 (.seq z531r4 (.seq z531r5 (.seq (.seq z531r6 (.cond (.t 72) (.seq z531r7 .ret) .skip)) (.seq (.seq z531r8 (.cond (.t 106) (.seq z531r9 .ret) .skip)) (.seq z531r10 (.seq z531r11 (.seq (.seq z531r12 (.block 0 (.loop z531l17))) (.seq z531r18 .ret)))))))))))⟩
def z237r0:IC:=.reg [⟨some 4, none,.asg (.c (.bool false))⟩] [0,1] []
def z237r1:IC:=.reg [⟨some 6, none,.mv (.t 0)⟩,⟨some 7, none,.len (.t 6)⟩,⟨some 8, none,.mv (.t 1)⟩,⟨some 9, none,.len (.t 8)⟩,⟨some 10, none,.bin .neq (.t 7) (.t 9)⟩] [0,1,10] []
def z237r2:IC:=.reg [⟨some 4, none,.asg (.c (.bool false))⟩] [4] []
def z237r3:IC:=.reg [⟨some 5, none,.asg (.c (vi 0))⟩] [0,1,5] []
def z237r4:IC:=.reg [⟨some 11, none,.mv (.t 5)⟩,⟨some 12, none,.mv (.t 0)⟩,⟨some 13, none,.len (.t 12)⟩,⟨some 14, none,.bin .lss (.t 11) (.t 13)⟩] [0,1,5,14] []
def z237r5:IC:=.reg [⟨some 17, none,.mv (.t 0)⟩,⟨some 18, none,.mv (.t 5)⟩,⟨some 19, none,.iadr 2 (.t 17) (.t 18)⟩,⟨some 20, none,.load true 2 (.t 19)⟩,⟨some 21, none,.mv (.t 1)⟩,⟨some 22, none,.mv (.t 5)⟩,⟨some 23, none,.iadr 2 (.t 21) (.t 22)⟩,⟨some 24, none,.load true 2 (.t 23)⟩,⟨some 25, none,.eqa true 2 (.t 20) (.t 24)⟩] [0,1,5,25] []
def z237r6:IC:=.reg [⟨some 4, none,.asg (.c (.bool false))⟩] [4] []
def z237r7:IC:=.reg [⟨some 15, none,.mv (.t 5)⟩,⟨some 16, none,.bin .add (.t 15) (.c (vi 1))⟩,⟨some 5, none,.asg (.t 16)⟩] [0,1,5] []
def z237l8:IC:=(.seq (.seq z237r4 (.cond (.t 14) .skip (.exit 0))) (.seq (.block 1 (.seq z237r5 (.cond (.t 25) (.seq z237r6 .ret) .skip))) z237r7))
def z237r9:IC:=.reg [⟨some 4, none,.asg (.c (.bool true))⟩] [4] []
def zi237:IFun:=⟨[.t 4],[],(.seq z237r0 (.seq (.seq z237r1 (.cond (.t 10) (.seq z237r2 .ret) .skip)) (.seq (.seq z237r3 (.block 0 (.loop z237l8))) (.seq z237r9 .ret))))⟩
def z238r0:IC:=.reg [⟨some 2, none,.box (.t 0)⟩,⟨some 3, none,.box (.t 1)⟩,⟨some 4, none,.asg (.c (.bool false))⟩] [2,3] []
def z238r1:IC:=.reg [⟨some 5, none,.fadr 0 (.t 2)⟩,⟨some 6, none,.load false 1 (.t 5)⟩,⟨some 7, none,.fadr 0 (.t 3)⟩,⟨some 8, none,.load false 1 (.t 7)⟩,⟨some 9, none,.bin .eql (.t 6) (.t 8)⟩,⟨some 10, none,.asg (.t 9)⟩,⟨some 11, (some (10,true)),.fadr 1 (.t 2)⟩,⟨some 12, (some (10,true)),.load false 1 (.t 11)⟩,⟨some 13, (some (10,true)),.fadr 1 (.t 3)⟩,⟨some 14, (some (10,true)),.load false 1 (.t 13)⟩,⟨some 15, (some (10,true)),.call zl237 [(.rd,(.t 12)),(.rd,(.t 14))] true⟩,⟨some 16, none,.pick (.t 10) (.t 15) (.c (.bool false))⟩,⟨some 4, none,.asg (.t 16)⟩] [4] []
def zi238:IFun:=⟨[.t 4],[],(.seq z238r0 (.seq z238r1 .ret))⟩
def z53r0:IC:=.reg [⟨some 4, none,.asg (.c (.bool false))⟩] [0,1] []
def z53r1:IC:=.reg [⟨some 6, none,.mv (.t 0)⟩,⟨some 7, none,.len (.t 6)⟩,⟨some 8, none,.mv (.t 1)⟩,⟨some 9, none,.len (.t 8)⟩,⟨some 10, none,.bin .neq (.t 7) (.t 9)⟩] [0,1,10] []
def z53r2:IC:=.reg [⟨some 4, none,.asg (.c (.bool false))⟩] [4] []
def z53r3:IC:=.reg [⟨some 5, none,.asg (.c (vi 0))⟩] [0,1,5] []
def z53r4:IC:=.reg [⟨some 11, none,.mv (.t 5)⟩,⟨some 12, none,.mv (.t 0)⟩,⟨some 13, none,.len (.t 12)⟩,⟨some 14, none,.bin .lss (.t 11) (.t 13)⟩] [0,1,5,14] []
def z53r5:IC:=.reg [⟨some 17, none,.mv (.t 0)⟩,⟨some 18, none,.mv (.t 5)⟩,⟨some 19, none,.iadr 1 (.t 17) (.t 18)⟩,⟨some 20, none,.load false 1 (.t 19)⟩,⟨some 21, none,.mv (.t 1)⟩,⟨some 22, none,.mv (.t 5)⟩,⟨some 23, none,.iadr 1 (.t 21) (.t 22)⟩,⟨some 24, none,.load false 1 (.t 23)⟩,⟨some 25, none,.bin .neq (.t 20) (.t 24)⟩] [0,1,5,25] []
def z53r6:IC:=.reg [⟨some 4, none,.asg (.c (.bool false))⟩] [4] []
def z53r7:IC:=.reg [⟨some 15, none,.mv (.t 5)⟩,⟨some 16, none,.bin .add (.t 15) (.c (vi 1))⟩,⟨some 5, none,.asg (.t 16)⟩] [0,1,5] []
def z53l8:IC:=(.seq (.seq z53r4 (.cond (.t 14) .skip (.exit 0))) (.seq (.block 1 (.seq z53r5 (.cond (.t 25) (.seq z53r6 .ret) .skip))) z53r7))
def z53r9:IC:=.reg [⟨some 4, none,.asg (.c (.bool true))⟩] [4] []
def zi53:IFun:=⟨[.t 4],[],(.seq z53r0 (.seq (.seq z53r1 (.cond (.t 10) (.seq z53r2 .ret) .skip)) (.seq (.seq z53r3 (.block 0 (.loop z53l8))) (.seq z53r9 .ret))))⟩
def z66r0:IC:=.reg [⟨some 2, none,.asg (.c (vi 0))⟩] [0] []
def z66r1:IC:=.reg [⟨some 3, none,.mv (.t 0)⟩,⟨some 4, none,.conv .u32 (.t 3)⟩,⟨some 5, none,.call zl67 [(.val,(.t 4))] true⟩,⟨some 2, none,.asg (.t 5)⟩] [2] []
def z66r2:IC:=.reg [⟨some 6, none,.mv (.t 0)⟩,⟨some 7, none,.call zl68 [(.val,(.t 6))] true⟩,⟨some 2, none,.asg (.t 7)⟩] [2] []
def zi66:IFun:=⟨[.t 2],[],(.seq z66r0 (.seq (.cond (.c (.bool false)) (.seq z66r1 .ret) .skip) (.seq z66r2 .ret)))⟩
def z68r0:IC:=.reg [⟨some 2, none,.asg (.c (vi 0))⟩] [0,2] []
def z68r1:IC:=.reg [⟨some 3, none,.mv (.t 0)⟩,⟨some 4, none,.bin .geq (.t 3) (.c (.int .u64 (4294967296)))⟩] [0,2,4] []
def z68r2:IC:=.reg [⟨some 5, none,.mv (.t 0)⟩,⟨some 6, none,.bin .shr (.t 5) (.c (.int .u64 (32)))⟩,⟨some 0, none,.asg (.t 6)⟩] [0] []
def z68r3:IC:=.reg [⟨some 2, none,.asg (.c (vi 32))⟩] [0,2] []
def z68r4:IC:=.reg [⟨some 7, none,.mv (.t 0)⟩,⟨some 8, none,.bin .geq (.t 7) (.c (.int .u64 (65536)))⟩] [0,2,8] []
def z68r5:IC:=.reg [⟨some 9, none,.mv (.t 0)⟩,⟨some 10, none,.bin .shr (.t 9) (.c (.int .u64 (16)))⟩,⟨some 0, none,.asg (.t 10)⟩] [0,2] []
def z68r6:IC:=.reg [⟨some 11, none,.mv (.t 2)⟩,⟨some 12, none,.bin .add (.t 11) (.c (vi 16))⟩,⟨some 2, none,.asg (.t 12)⟩] [0,2] []
def z68r7:IC:=.reg [⟨some 13, none,.mv (.t 0)⟩,⟨some 14, none,.bin .geq (.t 13) (.c (.int .u64 (256)))⟩] [0,2,14] []
def z68r8:IC:=.reg [⟨some 15, none,.mv (.t 0)⟩,⟨some 16, none,.bin .shr (.t 15) (.c (.int .u64 (8)))⟩,⟨some 0, none,.asg (.t 16)⟩] [0,2] []
def z68r9:IC:=.reg [⟨some 17, none,.mv (.t 2)⟩,⟨some 18, none,.bin .add (.t 17) (.c (vi 8))⟩,⟨some 2, none,.asg (.t 18)⟩] [0,2] []
def z68r10:IC:=.reg [⟨some 19, none,.mv (.t 2)⟩,⟨some 20, none,.mv (.t 0)⟩,⟨some 21, none,.conv .u8 (.t 20)⟩,⟨some 22, none,.idxs (.c (.string ⟨#[0,1,2,2,3,3,3,3,4,4,4,4,4,4,4,4,5,5,5,5,5,5,5,5,5,5,5,5,5,5,5,5,6,6,6,6,6,6,6,6,6,6,6,6,6,6,6,6,6,6,6,6,6,6,6,6,6,6,6,6,6,6,6,6,7,7,7,7,7,7,7,7,7,7,7,7,7,7,7,7,7,7,7,7,7,7,7,7,7,7,7,7,7,7,7,7,7,7,7,7,7,7,7,7,7,7,7,7,7,7,7,7,7,7,7,7,7,7,7,7,7,7,7,7,7,7,7,7,8,8,8,8,8,8,8,8,8,8,8,8,8,8,8,8,8,8,8,8,8,8,8,8,8,8,8,8,8,8,8,8,8,8,8,8,8,8,8,8,8,8,8,8,8,8,8,8,8,8,8,8,8,8,8,8,8,8,8,8,8,8,8,8,8,8,8,8,8,8,8,8,8,8,8,8,8,8,8,8,8,8,8,8,8,8,8,8,8,8,8,8,8,8,8,8,8,8,8,8,8,8,8,8,8,8,8,8,8,8,8,8,8,8,8,8,8,8,8,8,8,8,8,8,8,8,8,8]⟩)) (.t 21)⟩,⟨some 23, none,.conv .i64 (.t 22)⟩,⟨some 24, none,.bin .add (.t 19) (.t 23)⟩,⟨some 2, none,.asg (.t 24)⟩] [2] []
def zi68:IFun:=⟨[.t 2],[],(.seq z68r0 (.seq (.seq z68r1 (.cond (.t 4) (.seq z68r2 z68r3) .skip)) (.seq (.seq z68r4 (.cond (.t 8) (.seq z68r5 z68r6) .skip)) (.seq (.seq z68r7 (.cond (.t 14) (.seq z68r8 z68r9) .skip)) (.seq z68r10 .ret)))))⟩
def z258r0:IC:=.reg [⟨some 2, none,.asg (.c (.slice none 0 0))⟩] [0] []
def z258r1:IC:=.reg [⟨some 3, none,.mv (.t 0)⟩,⟨some 4, none,.mv (.t 0)⟩,⟨some 5, none,.len (.t 4)⟩,⟨some 6, none,.mv (.t 0)⟩,⟨some 7, none,.len (.t 6)⟩,⟨some 8, none,.slc 2 (.t 3) none (some (.t 5)) (some (.t 7))⟩,⟨some 2, none,.asgm (.t 8)⟩] [0,2] []
def zi258:IFun:=⟨[.t 2],[],(.seq z258r0 (.seq z258r1 .ret))⟩
def z259r0:IC:=.reg [⟨some 2, none,.asg (.c (.slice none 0 0))⟩] [0] []
def z259r1:IC:=.reg [⟨some 3, none,.mv (.t 0)⟩,⟨some 4, none,.mv (.t 0)⟩,⟨some 5, none,.len (.t 4)⟩,⟨some 6, none,.mv (.t 0)⟩,⟨some 7, none,.len (.t 6)⟩,⟨some 8, none,.slc 2 (.t 3) none (some (.t 5)) (some (.t 7))⟩,⟨some 2, none,.asgm (.t 8)⟩] [0,2] []
def zi259:IFun:=⟨[.t 2],[],(.seq z259r0 (.seq z259r1 .ret))⟩
def z70r0:IC:=.reg [⟨some 2, none,.asg (.c (.slice none 0 0))⟩] [0] []
def z70r1:IC:=.reg [⟨some 3, none,.mv (.t 0)⟩,⟨some 4, none,.mv (.t 0)⟩,⟨some 5, none,.len (.t 4)⟩,⟨some 6, none,.mv (.t 0)⟩,⟨some 7, none,.len (.t 6)⟩,⟨some 8, none,.slc 1 (.t 3) none (some (.t 5)) (some (.t 7))⟩,⟨some 2, none,.asgm (.t 8)⟩] [0,2] []
def zi70:IFun:=⟨[.t 2],[],(.seq z70r0 (.seq z70r1 .ret))⟩
def z261r0:IC:=.reg [⟨some 2, none,.nilo 2⟩] [0] []
def z261r1:List IOp:=[⟨some 3, none,.mv (.t 0)⟩]
def z261r2:IC:=.reg [⟨some 2, none,.nilo 2⟩] [2] []
def z261r3:IC:=.reg [⟨some 5, none,.bsl 2 [(vi 0),(vi 0)] 0 []⟩,⟨some 6, none,.mv (.t 0)⟩,⟨some 7, none,.app 2 (.t 5) (.t 6)⟩,⟨some 2, none,.asg (.t 7)⟩] [2] []
def zi261:IFun:=⟨[.t 2],[],(.seq z261r0 (.nilc2 z261r1 (.t 3) 4 [0,4] (.cond (.t 4) (.seq z261r2 .ret) .skip) (.seq z261r3 .ret)))⟩
def z71r0:IC:=.reg [⟨some 2, none,.nilo 1⟩] [0] []
def z71r1:List IOp:=[⟨some 3, none,.mv (.t 0)⟩]
def z71r2:IC:=.reg [⟨some 2, none,.nilo 1⟩] [2] []
def z71r3:IC:=.reg [⟨some 5, none,.bsl 1 [(vi 0)] 0 []⟩,⟨some 6, none,.mv (.t 0)⟩,⟨some 7, none,.app 1 (.t 5) (.t 6)⟩,⟨some 2, none,.asg (.t 7)⟩] [2] []
def zi71:IFun:=⟨[.t 2],[],(.seq z71r0 (.nilc2 z71r1 (.t 3) 4 [0,4] (.cond (.t 4) (.seq z71r2 .ret) .skip) (.seq z71r3 .ret)))⟩
def z262r0:IC:=.reg [⟨some 4, none,.asg (.c (.bool false))⟩] [0,1] []
def z262r1:IC:=.reg [⟨some 5, none,.mv (.t 0)⟩,⟨some 6, none,.mv (.t 1)⟩,⟨some 7, none,.call zl268 [(.rd,(.t 5)),(.val,(.t 6))] false⟩,⟨some 8, none,.bin .geq (.t 7) (.c (vi 0))⟩,⟨some 4, none,.asg (.t 8)⟩] [4] []
def zi262:IFun:=⟨[.t 4],[],(.seq z262r0 (.seq z262r1 .ret))⟩
def z72r0:IC:=.reg [⟨some 4, none,.asg (.c (.bool false))⟩] [0,1] []
def z72r1:IC:=.reg [⟨some 5, none,.mv (.t 0)⟩,⟨some 6, none,.mv (.t 1)⟩,⟨some 7, none,.call zl73 [(.rd,(.t 5)),(.val,(.t 6))] false⟩,⟨some 8, none,.bin .geq (.t 7) (.c (vi 0))⟩,⟨some 4, none,.asg (.t 8)⟩] [4] []
def zi72:IFun:=⟨[.t 4],[],(.seq z72r0 (.seq z72r1 .ret))⟩
def z263r0:IC:=.reg [⟨some 3, none,.box (.t 1)⟩,⟨some 4, none,.asg (.c (.bool false))⟩] [0,3] []
def z263r1:IC:=.reg [⟨some 5, none,.mv (.t 0)⟩,⟨some 6, none,.load true 2 (.t 3)⟩,⟨some 7, none,.call zl269 [(.rd,(.t 5)),(.val,(.t 6))] true⟩,⟨some 8, none,.bin .geq (.t 7) (.c (vi 0))⟩,⟨some 4, none,.asg (.t 8)⟩] [4] []
def zi263:IFun:=⟨[.t 4],[],(.seq z263r0 (.seq z263r1 .ret))⟩
def z268r0:IC:=.reg [⟨some 4, none,.asg (.c (vi 0))⟩] [0,1] []
def z268r1:IC:=.reg [⟨some 6, none,.mv (.t 0)⟩,⟨some 7, none,.len (.t 6)⟩,⟨some 8, none,.mv (.c (vi 0))⟩] [0,1,7,8] []
def z268r2:IC:=.reg [⟨some 9, none,.bin .lss (.t 8) (.t 7)⟩] [0,1,7,8,9] []
def z268r3:IC:=.reg [⟨some 10, none,.asg (.t 8)⟩,⟨some 5, none,.asg (.t 10)⟩] [0,1,5,7,8] []
def z268r4:IC:=.reg [⟨some 11, none,.mv (.t 1)⟩,⟨some 12, none,.mv (.t 0)⟩,⟨some 13, none,.mv (.t 5)⟩,⟨some 14, none,.iadr 2 (.t 12) (.t 13)⟩,⟨some 15, none,.load true 2 (.t 14)⟩,⟨some 16, none,.callv (.t 11) [(.val,(.t 15))]⟩] [0,1,5,7,8,16] []
def z268r5:IC:=.reg [⟨some 17, none,.mv (.t 5)⟩,⟨some 4, none,.asgm (.t 17)⟩] [4] []
def z268r6:IC:=.reg [⟨some 18, none,.bin .add (.t 8) (.c (vi 1))⟩,⟨some 8, none,.asg (.t 18)⟩] [0,1,7,8] []
def z268l7:IC:=(.seq z268r2 (.seq (.cond (.t 9) .skip (.exit 0)) (.seq (.block 1 (.seq z268r3 (.seq z268r4 (.cond (.t 16) (.seq z268r5 .ret) .skip)))) z268r6)))
def z268r8:IC:=.reg [⟨some 4, none,.asg (.c (vi (-1)))⟩] [4] []
def zi268:IFun:=⟨[.t 4],[],(.seq z268r0 (.seq (.seq z268r1 (.block 0 (.loop z268l7))) (.seq z268r8 .ret)))⟩
def z73r0:IC:=.reg [⟨some 4, none,.asg (.c (vi 0))⟩] [0,1] []
def z73r1:IC:=.reg [⟨some 6, none,.mv (.t 0)⟩,⟨some 7, none,.len (.t 6)⟩,⟨some 8, none,.mv (.c (vi 0))⟩] [0,1,7,8] []
def z73r2:IC:=.reg [⟨some 9, none,.bin .lss (.t 8) (.t 7)⟩] [0,1,7,8,9] []
def z73r3:IC:=.reg [⟨some 10, none,.asg (.t 8)⟩,⟨some 5, none,.asg (.t 10)⟩] [0,1,5,7,8] []
def z73r4:IC:=.reg [⟨some 11, none,.mv (.t 1)⟩,⟨some 12, none,.mv (.t 0)⟩,⟨some 13, none,.mv (.t 5)⟩,⟨some 14, none,.iadr 1 (.t 12) (.t 13)⟩,⟨some 15, none,.load false 1 (.t 14)⟩,⟨some 16, none,.callv (.t 11) [(.val,(.t 15))]⟩] [0,1,5,7,8,16] []
def z73r5:IC:=.reg [⟨some 17, none,.mv (.t 5)⟩,⟨some 4, none,.asgm (.t 17)⟩] [4] []
def z73r6:IC:=.reg [⟨some 18, none,.bin .add (.t 8) (.c (vi 1))⟩,⟨some 8, none,.asg (.t 18)⟩] [0,1,7,8] []
def z73l7:IC:=(.seq z73r2 (.seq (.cond (.t 9) .skip (.exit 0)) (.seq (.block 1 (.seq z73r3 (.seq z73r4 (.cond (.t 16) (.seq z73r5 .ret) .skip)))) z73r6)))
def z73r8:IC:=.reg [⟨some 4, none,.asg (.c (vi (-1)))⟩] [4] []
def zi73:IFun:=⟨[.t 4],[],(.seq z73r0 (.seq (.seq z73r1 (.block 0 (.loop z73l7))) (.seq z73r8 .ret)))⟩
def z269r0:IC:=.reg [⟨some 3, none,.box (.t 1)⟩,⟨some 4, none,.asg (.c (vi 0))⟩] [0,3] []
def z269r1:IC:=.reg [⟨some 6, none,.mv (.t 0)⟩,⟨some 7, none,.len (.t 6)⟩,⟨some 8, none,.mv (.c (vi 0))⟩] [0,3,7,8] []
def z269r2:IC:=.reg [⟨some 9, none,.bin .lss (.t 8) (.t 7)⟩] [0,3,7,8,9] []
def z269r3:IC:=.reg [⟨some 10, none,.asg (.t 8)⟩,⟨some 5, none,.asg (.t 10)⟩] [0,3,5,7,8] []
def z269r4:IC:=.reg [⟨some 11, none,.load true 2 (.t 3)⟩,⟨some 12, none,.mv (.t 0)⟩,⟨some 13, none,.mv (.t 5)⟩,⟨some 14, none,.iadr 2 (.t 12) (.t 13)⟩,⟨some 15, none,.load true 2 (.t 14)⟩,⟨some 16, none,.eqa false 2 (.t 11) (.t 15)⟩] [0,3,5,7,8,16] []
def z269r5:IC:=.reg [⟨some 17, none,.mv (.t 5)⟩,⟨some 4, none,.asgm (.t 17)⟩] [4] []
def z269r6:IC:=.reg [⟨some 18, none,.bin .add (.t 8) (.c (vi 1))⟩,⟨some 8, none,.asg (.t 18)⟩] [0,3,7,8] []
def z269l7:IC:=(.seq z269r2 (.seq (.cond (.t 9) .skip (.exit 0)) (.seq (.block 1 (.seq z269r3 (.seq z269r4 (.cond (.t 16) (.seq z269r5 .ret) .skip)))) z269r6)))
def z269r8:IC:=.reg [⟨some 4, none,.asg (.c (vi (-1)))⟩] [4] []
def zi269:IFun:=⟨[.t 4],[],(.seq z269r0 (.seq (.seq z269r1 (.block 0 (.loop z269l7))) (.seq z269r8 .ret)))⟩
def z76r0:IC:=.reg [⟨some 4, none,.mv (.t 0)⟩,⟨some 5, none,.len (.t 4)⟩,⟨some 6, none,.bin .sub (.t 5) (.c (vi 1))⟩,⟨some 2, none,.asg (.c (vi 0))⟩,⟨some 3, none,.asg (.t 6)⟩] [0,2,3] []
def z76r1:IC:=.reg [⟨some 7, none,.mv (.t 2)⟩,⟨some 8, none,.mv (.t 3)⟩,⟨some 9, none,.bin .lss (.t 7) (.t 8)⟩] [0,2,3,9] []
def z76r2:IC:=.reg [⟨some 14, none,.mv (.t 0)⟩,⟨some 15, none,.mv (.t 2)⟩,⟨some 16, none,.mv (.t 0)⟩,⟨some 17, none,.mv (.t 3)⟩,⟨some 18, none,.mv (.t 0)⟩,⟨some 19, none,.mv (.t 3)⟩,⟨some 20, none,.iadr 1 (.t 18) (.t 19)⟩,⟨some 21, none,.load false 1 (.t 20)⟩,⟨some 22, none,.mv (.t 0)⟩,⟨some 23, none,.mv (.t 2)⟩,⟨some 24, none,.iadr 1 (.t 22) (.t 23)⟩,⟨some 25, none,.load false 1 (.t 24)⟩,⟨some 26, none,.iadr 1 (.t 14) (.t 15)⟩,⟨none,none,.store 1 (.t 26) (.t 21)⟩,⟨some 27, none,.iadr 1 (.t 16) (.t 17)⟩,⟨none,none,.store 1 (.t 27) (.t 25)⟩] [0,2,3] []
def z76r3:IC:=.reg [⟨some 10, none,.mv (.t 2)⟩,⟨some 11, none,.bin .add (.t 10) (.c (vi 1))⟩,⟨some 12, none,.mv (.t 3)⟩,⟨some 13, none,.bin .sub (.t 12) (.c (vi 1))⟩,⟨some 2, none,.asg (.t 11)⟩,⟨some 3, none,.asg (.t 13)⟩] [0,2,3] []
def z76l4:IC:=(.seq (.seq z76r1 (.cond (.t 9) .skip (.exit 0))) (.seq (.block 1 z76r2) z76r3))
def zi76:IFun:=⟨[],[0],(.seq z76r0 (.block 0 (.loop z76l4)))⟩
def z78r0:IC:=.reg [⟨some 3, none,.mv (.t 0)⟩,⟨some 4, none,.len (.t 3)⟩,⟨some 2, none,.asg (.t 4)⟩] [0,2] []
def z78r1:IC:=.reg [⟨some 5, none,.mv (.t 0)⟩,⟨some 6, none,.mv (.t 2)⟩,⟨some 7, none,.mv (.t 2)⟩,⟨some 8, none,.conv .u64 (.t 7)⟩,⟨some 9, none,.call zl66 [(.val,(.t 8))] true⟩,⟨some 10, none,.call zl101 [(.ld,(.t 5)),(.val,(.c (vi 0))),(.val,(.t 6)),(.val,(.t 9))] false⟩] [0] []
def zi78:IFun:=⟨[],[0],(.seq z78r0 z78r1)⟩
def z86r0:IC:=.reg [⟨some 8, none,.mv (.t 1)⟩,⟨some 9, none,.bin .add (.t 8) (.c (vi 1))⟩,⟨some 6, none,.asg (.t 9)⟩] [0,1,2,6] []
def z86r1:IC:=.reg [⟨some 10, none,.mv (.t 6)⟩,⟨some 11, none,.mv (.t 2)⟩,⟨some 12, none,.bin .lss (.t 10) (.t 11)⟩] [0,1,2,6,12] []
def z86r2:IC:=.reg [⟨some 15, none,.mv (.t 6)⟩,⟨some 7, none,.asg (.t 15)⟩] [0,1,2,6,7] []
def z86r3:IC:=.reg [⟨some 16, none,.mv (.t 7)⟩,⟨some 17, none,.mv (.t 1)⟩,⟨some 18, none,.bin .gtr (.t 16) (.t 17)⟩,⟨some 19, none,.asg (.t 18)⟩,⟨some 20, (some (19,true)),.mv (.t 0)⟩,⟨some 21, (some (19,true)),.mv (.t 7)⟩,⟨some 22, (some (19,true)),.iadr 1 (.t 20) (.t 21)⟩,⟨some 23, (some (19,true)),.load false 1 (.t 22)⟩,⟨some 24, (some (19,true)),.mv (.t 0)⟩,⟨some 25, (some (19,true)),.mv (.t 7)⟩,⟨some 26, (some (19,true)),.bin .sub (.t 25) (.c (vi 1))⟩,⟨some 27, (some (19,true)),.iadr 1 (.t 24) (.t 26)⟩,⟨some 28, (some (19,true)),.load false 1 (.t 27)⟩,⟨some 29, (some (19,true)),.call zl2 [(.val,(.t 23)),(.val,(.t 28))] true⟩,⟨some 30, none,.pick (.t 19) (.t 29) (.c (.bool false))⟩] [0,1,2,6,7,30] []
def z86r4:IC:=.reg [⟨some 33, none,.mv (.t 0)⟩,⟨some 34, none,.mv (.t 7)⟩,⟨some 35, none,.mv (.t 0)⟩,⟨some 36, none,.mv (.t 7)⟩,⟨some 37, none,.bin .sub (.t 36) (.c (vi 1))⟩,⟨some 38, none,.mv (.t 0)⟩,⟨some 39, none,.mv (.t 7)⟩,⟨some 40, none,.bin .sub (.t 39) (.c (vi 1))⟩,⟨some 41, none,.iadr 1 (.t 38) (.t 40)⟩,⟨some 42, none,.load false 1 (.t 41)⟩,⟨some 43, none,.mv (.t 0)⟩,⟨some 44, none,.mv (.t 7)⟩,⟨some 45, none,.iadr 1 (.t 43) (.t 44)⟩,⟨some 46, none,.load false 1 (.t 45)⟩,⟨some 47, none,.iadr 1 (.t 33) (.t 34)⟩,⟨none,none,.store 1 (.t 47) (.t 42)⟩,⟨some 48, none,.iadr 1 (.t 35) (.t 37)⟩,⟨none,none,.store 1 (.t 48) (.t 46)⟩] [0,1,2,6,7] []
def z86r5:IC:=.reg [⟨some 31, none,.mv (.t 7)⟩,⟨some 32, none,.bin .sub (.t 31) (.c (vi 1))⟩,⟨some 7, none,.asg (.t 32)⟩] [0,1,2,6,7] []
def z86l6:IC:=(.seq (.seq z86r3 (.cond (.t 30) .skip (.exit 2))) (.seq (.block 3 z86r4) z86r5))
def z86r7:IC:=.reg [⟨some 13, none,.mv (.t 6)⟩,⟨some 14, none,.bin .add (.t 13) (.c (vi 1))⟩,⟨some 6, none,.asg (.t 14)⟩] [0,1,2,6] []
def z86l8:IC:=(.seq (.seq z86r1 (.cond (.t 12) .skip (.exit 0))) (.seq (.block 1 (.seq z86r2 (.block 2 (.loop z86l6)))) z86r7))
def zi86:IFun:=⟨[],[0],(.seq z86r0 (.block 0 (.loop z86l8)))⟩
def z101r0:IC:=.reg [⟨some 8, none,.asg (.c (.bool true))⟩] [0,1,2,3,8] []
def z101r1:IC:=.reg [⟨some 9, none,.asg (.c (.bool true))⟩] [0,1,2,3,8,9] []
def z101r2:IC:=.reg [⟨some 19, none,.mv (.t 2)⟩,⟨some 20, none,.mv (.t 1)⟩,⟨some 21, none,.bin .sub (.t 19) (.t 20)⟩,⟨some 10, none,.asg (.t 21)⟩] [0,1,2,3,8,9,10] []
def z101r3:IC:=.reg [⟨some 22, none,.mv (.t 10)⟩,⟨some 23, none,.bin .leq (.t 22) (.c (vi 12))⟩] [0,1,2,3,8,9,10,23] []
def z101r4:IC:=.reg [⟨some 24, none,.mv (.t 0)⟩,⟨some 25, none,.mv (.t 1)⟩,⟨some 26, none,.mv (.t 2)⟩,⟨some 27, none,.call zl86 [(.ld,(.t 24)),(.val,(.t 25)),(.val,(.t 26))] false⟩] [0] []
def z101r5:IC:=.reg [⟨some 28, none,.mv (.t 3)⟩,⟨some 29, none,.bin .eql (.t 28) (.c (vi 0))⟩] [0,1,2,3,8,9,10,29] []
def z101r6:IC:=.reg [⟨some 30, none,.mv (.t 0)⟩,⟨some 31, none,.mv (.t 1)⟩,⟨some 32, none,.mv (.t 2)⟩,⟨some 33, none,.call zl84 [(.ld,(.t 30)),(.val,(.t 31)),(.val,(.t 32))] false⟩] [0] []
def z101r7:IC:=.reg [⟨some 34, none,.mv (.t 8)⟩,⟨some 35, none,.unop .not (.t 34)⟩] [0,1,2,3,8,9,10,35] []
def z101r8:IC:=.reg [⟨some 36, none,.mv (.t 0)⟩,⟨some 37, none,.mv (.t 1)⟩,⟨some 38, none,.mv (.t 2)⟩,⟨some 39, none,.call zl80 [(.ld,(.t 36)),(.val,(.t 37)),(.val,(.t 38))] false⟩] [0,1,2,3,8,9,10] []
def z101r9:IC:=.reg [⟨some 40, none,.mv (.t 3)⟩,⟨some 41, none,.bin .sub (.t 40) (.c (vi 1))⟩,⟨some 3, none,.asg (.t 41)⟩] [0,1,2,3,8,9,10] []
def z101r10:IC:=.reg [⟨some 43, none,.mv (.t 0)⟩,⟨some 44, none,.mv (.t 1)⟩,⟨some 45, none,.mv (.t 2)⟩,⟨some 46, none,.call zl82 [(.rd,(.t 43)),(.val,(.t 44)),(.val,(.t 45))] true⟩,⟨some 42, none,.asg (.t 46)⟩,⟨some 47, none,.extr (.t 42) 0⟩,⟨some 48, none,.extr (.t 42) 1⟩,⟨some 11, none,.asg (.t 47)⟩,⟨some 12, none,.asg (.t 48)⟩] [0,1,2,3,8,9,10,11,12] []
def z101r11:IC:=.reg [⟨some 49, none,.mv (.t 12)⟩,⟨some 50, none,.bin .eql (.t 49) (.c (vi 2))⟩] [0,1,2,3,8,9,10,11,12,50] []
def z101r12:IC:=.reg [⟨some 51, none,.mv (.t 0)⟩,⟨some 52, none,.mv (.t 1)⟩,⟨some 53, none,.mv (.t 2)⟩,⟨some 54, none,.call zl103 [(.ld,(.t 51)),(.val,(.t 52)),(.val,(.t 53))] false⟩] [0,1,2,3,8,9,10,11] []
def z101r13:IC:=.reg [⟨some 55, none,.mv (.t 2)⟩,⟨some 56, none,.bin .sub (.t 55) (.c (vi 1))⟩,⟨some 57, none,.mv (.t 11)⟩,⟨some 58, none,.mv (.t 1)⟩,⟨some 59, none,.bin .sub (.t 57) (.t 58)⟩,⟨some 60, none,.bin .sub (.t 56) (.t 59)⟩,⟨some 11, none,.asg (.t 60)⟩] [0,1,2,3,8,9,10,11] []
def z101r14:IC:=.reg [⟨some 12, none,.asg (.c (vi 1))⟩] [0,1,2,3,8,9,10,11,12] []
def z101r15:IC:=.reg [⟨some 61, none,.mv (.t 8)⟩,⟨some 62, none,.asg (.t 61)⟩,⟨some 63, (some (62,true)),.mv (.t 9)⟩,⟨some 64, none,.pick (.t 62) (.t 63) (.c (.bool false))⟩,⟨some 65, none,.asg (.t 64)⟩,⟨some 66, (some (65,true)),.mv (.t 12)⟩,⟨some 67, (some (65,true)),.bin .eql (.t 66) (.c (vi 1))⟩,⟨some 68, none,.pick (.t 65) (.t 67) (.c (.bool false))⟩] [0,1,2,3,8,9,10,11,68] []
def z101r16:IC:=.reg [⟨some 69, none,.mv (.t 0)⟩,⟨some 70, none,.mv (.t 1)⟩,⟨some 71, none,.mv (.t 2)⟩,⟨some 72, none,.call zl95 [(.ld,(.t 69)),(.val,(.t 70)),(.val,(.t 71))] false⟩] [0,1,2,3,8,9,10,11,72] []
def z101r17:IC:=.reg [⟨some 73, none,.mv (.t 1)⟩,⟨some 74, none,.bin .gtr (.t 73) (.c (vi 0))⟩,⟨some 75, none,.asg (.t 74)⟩,⟨some 76, (some (75,true)),.mv (.t 0)⟩,⟨some 77, (some (75,true)),.mv (.t 1)⟩,⟨some 78, (some (75,true)),.bin .sub (.t 77) (.c (vi 1))⟩,⟨some 79, (some (75,true)),.iadr 1 (.t 76) (.t 78)⟩,⟨some 80, (some (75,true)),.load false 1 (.t 79)⟩,⟨some 81, (some (75,true)),.mv (.t 0)⟩,⟨some 82, (some (75,true)),.mv (.t 11)⟩,⟨some 83, (some (75,true)),.iadr 1 (.t 81) (.t 82)⟩,⟨some 84, (some (75,true)),.load false 1 (.t 83)⟩,⟨some 85, (some (75,true)),.call zl2 [(.val,(.t 80)),(.val,(.t 84))] true⟩,⟨some 86, (some (75,true)),.unop .not (.t 85)⟩,⟨some 87, none,.pick (.t 75) (.t 86) (.c (.bool false))⟩] [0,1,2,3,8,9,10,11,87] []
def z101r18:IC:=.reg [⟨some 88, none,.mv (.t 0)⟩,⟨some 89, none,.mv (.t 1)⟩,⟨some 90, none,.mv (.t 2)⟩,⟨some 91, none,.mv (.t 11)⟩,⟨some 92, none,.call zl98 [(.ld,(.t 88)),(.val,(.t 89)),(.val,(.t 90)),(.val,(.t 91))] false⟩,⟨some 13, none,.asg (.t 92)⟩] [0,2,3,8,9,13] []
def z101r19:IC:=.reg [⟨some 93, none,.mv (.t 13)⟩,⟨some 1, none,.asgm (.t 93)⟩] [0,1,2,3,8,9] []
def z101r20:IC:=.reg [⟨some 95, none,.mv (.t 0)⟩,⟨some 96, none,.mv (.t 1)⟩,⟨some 97, none,.mv (.t 2)⟩,⟨some 98, none,.mv (.t 11)⟩,⟨some 99, none,.call zl99 [(.ld,(.t 95)),(.val,(.t 96)),(.val,(.t 97)),(.val,(.t 98))] false⟩,⟨some 94, none,.asg (.t 99)⟩,⟨some 100, none,.extr (.t 94) 0⟩,⟨some 101, none,.extr (.t 94) 1⟩,⟨some 14, none,.asg (.t 100)⟩,⟨some 15, none,.asg (.t 101)⟩] [0,1,2,3,10,14,15] []
def z101r21:IC:=.reg [⟨some 102, none,.mv (.t 15)⟩,⟨some 9, none,.asgm (.t 102)⟩] [0,1,2,3,9,10,14] []
def z101r22:IC:=.reg [⟨some 103, none,.mv (.t 14)⟩,⟨some 104, none,.mv (.t 1)⟩,⟨some 105, none,.bin .sub (.t 103) (.t 104)⟩,⟨some 106, none,.mv (.t 2)⟩,⟨some 107, none,.mv (.t 14)⟩,⟨some 108, none,.bin .sub (.t 106) (.t 107)⟩,⟨some 16, none,.asg (.t 105)⟩,⟨some 17, none,.asg (.t 108)⟩] [0,1,2,3,9,10,14,16,17] []
def z101r23:IC:=.reg [⟨some 109, none,.mv (.t 10)⟩,⟨some 110, none,.bin .quo (.t 109) (.c (vi 8))⟩,⟨some 18, none,.asg (.t 110)⟩] [0,1,2,3,9,14,16,17,18] []
def z101r24:IC:=.reg [⟨some 111, none,.mv (.t 16)⟩,⟨some 112, none,.mv (.t 17)⟩,⟨some 113, none,.bin .lss (.t 111) (.t 112)⟩] [0,1,2,3,9,14,16,17,18,113] []
def z101r25:IC:=.reg [⟨some 114, none,.mv (.t 16)⟩,⟨some 115, none,.mv (.t 18)⟩,⟨some 116, none,.bin .geq (.t 114) (.t 115)⟩,⟨some 8, none,.asg (.t 116)⟩] [0,1,2,3,8,9,14] []
def z101r26:IC:=.reg [⟨some 117, none,.mv (.t 0)⟩,⟨some 118, none,.mv (.t 1)⟩,⟨some 119, none,.mv (.t 14)⟩,⟨some 120, none,.mv (.t 3)⟩,⟨some 121, none,.call zl101 [(.ld,(.t 117)),(.val,(.t 118)),(.val,(.t 119)),(.val,(.t 120))] false⟩] [0,2,3,8,9,14] []
def z101r27:IC:=.reg [⟨some 122, none,.mv (.t 14)⟩,⟨some 123, none,.bin .add (.t 122) (.c (vi 1))⟩,⟨some 1, none,.asg (.t 123)⟩] [0,1,2,3,8,9] []
def z101r28:IC:=.reg [⟨some 124, none,.mv (.t 17)⟩,⟨some 125, none,.mv (.t 18)⟩,⟨some 126, none,.bin .geq (.t 124) (.t 125)⟩,⟨some 8, none,.asg (.t 126)⟩] [0,1,2,3,8,9,14] []
def z101r29:IC:=.reg [⟨some 127, none,.mv (.t 0)⟩,⟨some 128, none,.mv (.t 14)⟩,⟨some 129, none,.bin .add (.t 128) (.c (vi 1))⟩,⟨some 130, none,.mv (.t 2)⟩,⟨some 131, none,.mv (.t 3)⟩,⟨some 132, none,.call zl101 [(.ld,(.t 127)),(.val,(.t 129)),(.val,(.t 130)),(.val,(.t 131))] false⟩] [0,1,3,8,9,14] []
def z101r30:IC:=.reg [⟨some 133, none,.mv (.t 14)⟩,⟨some 2, none,.asgm (.t 133)⟩] [0,1,2,3,8,9] []
def z101l31:IC:=(.block 1 (.seq z101r2 (.seq (.seq z101r3 (.cond (.t 23) (.seq z101r4 .ret) .skip)) (.seq (.seq z101r5 (.cond (.t 29) (.seq z101r6 .ret) .skip)) (.seq (.seq z101r7 (.cond (.t 35) (.seq z101r8 z101r9) .skip)) (.seq z101r10 (.seq (.seq z101r11 (.cond (.t 50) (.seq z101r12 (.seq z101r13 z101r14)) .skip)) (.seq (.seq z101r15 (.cond (.t 68) (.seq z101r16 (.cond (.t 72) .ret .skip)) .skip)) (.seq (.seq z101r17 (.cond (.t 87) (.seq z101r18 (.seq z101r19 (.exit 1))) .skip)) (.seq z101r20 (.seq z101r21 (.seq z101r22 (.seq z101r23 (.seq z101r24 (.cond (.t 113) (.seq z101r25 (.seq z101r26 z101r27)) (.seq z101r28 (.seq z101r29 z101r30)))))))))))))))))
def zi101:IFun:=⟨[],[0],(.seq z101r0 (.seq z101r1 (.block 0 (.loop z101l31))))⟩
def z561r0:IC:=.reg [⟨some 2, none,.asg (.c (.slice none 0 0))⟩,⟨some 3, none,.asg (.c (.slice none 0 0))⟩] [0] []
def z561r1:IC:=.reg [⟨some 7, none,.mv (.t 0)⟩,⟨some 8, none,.call zl137 [(.rd,(.t 7))] false⟩,⟨some 4, none,.asg (.t 8)⟩] [4] []
def z561r2:IC:=.reg [⟨some 10, none,.mv (.t 4)⟩,⟨some 11, none,.mv (.t 4)⟩,⟨some 12, none,.call zl375 [(.val,(.t 11))] false⟩,⟨some 13, none,.call zl592 [(.val,(.t 10)),(.rd,(.t 12))] false⟩,⟨some 9, none,.asg (.t 13)⟩,⟨some 14, none,.extr (.t 9) 0⟩,⟨some 15, none,.extr (.t 9) 1⟩,⟨some 5, none,.alloc [(vi 0),(.slice none 0 0)]⟩,⟨none,none,.storef 2 (.t 5) (.t 14)⟩,⟨some 6, none,.asg (.t 15)⟩] [5,6] []
def z561r3:IC:=.reg [⟨some 16, none,.load true 2 (.t 5)⟩,⟨some 17, none,.call zl125 [(.rd,(.t 16))] true⟩,⟨some 18, none,.mv (.t 6)⟩,⟨some 2, none,.asg (.t 17)⟩,⟨some 3, none,.asgm (.t 18)⟩] [2,3,6] []
def zi561:IFun:=⟨[.t 2,.t 3],[],(.seq z561r0 (.seq z561r1 (.seq z561r2 (.seq z561r3 .ret))))⟩
def z572r0:IC:=.reg [⟨some 4, none,.alloc [(vi 0),(.slice none 0 0)]⟩,⟨some 5, none,.alloc [(vi 0),(.slice none 0 0)]⟩,⟨some 6, none,.asg (.c (.bool false))⟩] [0,1,4,5] []
def z572r1:IC:=.reg [⟨some 11, none,.mv (.t 0)⟩,⟨some 12, none,.call zl144 [(.rd,(.t 11))] true⟩,⟨some 13, none,.unop .not (.t 12)⟩,⟨some 14, none,.asg (.t 13)⟩,⟨some 15, (some (14,false)),.mv (.t 1)⟩,⟨some 16, (some (14,false)),.call zl144 [(.rd,(.t 15))] true⟩,⟨some 17, (some (14,false)),.unop .not (.t 16)⟩,⟨some 18, none,.pick (.t 14) (.c (.bool true)) (.t 17)⟩,⟨some 19, none,.asg (.t 18)⟩,⟨some 20, (some (19,false)),.mv (.t 0)⟩,⟨some 21, (some (19,false)),.len (.t 20)⟩,⟨some 22, (some (19,false)),.mv (.t 1)⟩,⟨some 23, (some (19,false)),.len (.t 22)⟩,⟨some 24, (some (19,false)),.bin .neq (.t 21) (.t 23)⟩,⟨some 25, none,.pick (.t 19) (.c (.bool true)) (.t 24)⟩,⟨some 26, none,.asg (.t 25)⟩,⟨some 27, (some (26,false)),.mv (.t 0)⟩,⟨some 28, (some (26,false)),.len (.t 27)⟩,⟨some 29, (some (26,false)),.bin .gtr (.t 28) (.c (vi 5))⟩,
    ⟨some 30, none,.pick (.t 26) (.c (.bool true)) (.t 29)⟩] [0,1,4,5,30] []
def z572r2:IC:=.reg [⟨some 31, none,.build [(vi 0),(.slice none 0 0)] []⟩,⟨some 32, none,.build [(vi 0),(.slice none 0 0)] []⟩,⟨none,none,.store 2 (.t 4) (.t 31)⟩,⟨none,none,.store 2 (.t 5) (.t 32)⟩,⟨some 6, none,.asg (.c (.bool false))⟩] [4,5,6] []
def z572r3:IC:=.reg [⟨some 33, none,.mv (.t 0)⟩,⟨some 34, none,.call zl369 [(.rd,(.t 33))] true⟩,⟨some 7, none,.asg (.t 34)⟩] [1,4,5,7] []
def z572r4:IC:=.reg [⟨some 8, none,.asg (.c (vi 0))⟩] [1,4,5,7,8] []
def z572r5:IC:=.reg [⟨some 35, none,.mv (.t 8)⟩,⟨some 36, none,.mv (.t 7)⟩,⟨some 37, none,.len (.t 36)⟩,⟨some 38, none,.bin .lss (.t 35) (.t 37)⟩] [1,4,5,7,8,38] []
def z572r6:IC:=.reg [⟨some 42, none,.mv (.t 7)⟩,⟨some 43, none,.mv (.t 8)⟩,⟨some 44, none,.iadr 2 (.t 42) (.t 43)⟩,⟨some 45, none,.load true 2 (.t 44)⟩,⟨some 46, none,.mv (.t 1)⟩,⟨some 47, none,.call zl583 [(.rd,(.t 45)),(.rd,(.t 46))] true⟩,⟨some 41, none,.asg (.t 47)⟩,⟨some 48, none,.extr (.t 41) 0⟩,⟨some 49, none,.extr (.t 41) 1⟩,⟨some 9, none,.alloc [(vi 0),(.slice none 0 0)]⟩,⟨none,none,.store 2 (.t 9) (.t 48)⟩,⟨some 10, none,.asg (.t 49)⟩] [1,4,5,7,8,9,10] []
def z572r7:IC:=.reg [⟨some 50, none,.mv (.t 10)⟩] [1,4,5,7,8,9,50] []
def z572r8:IC:=.reg [⟨some 51, none,.mv (.t 7)⟩,⟨some 52, none,.mv (.t 8)⟩,⟨some 53, none,.iadr 2 (.t 51) (.t 52)⟩,⟨some 54, none,.load true 2 (.t 53)⟩,⟨some 55, none,.load true 2 (.t 9)⟩,⟨none,none,.store 2 (.t 4) (.t 54)⟩,⟨none,none,.store 2 (.t 5) (.t 55)⟩,⟨some 6, none,.asg (.c (.bool true))⟩] [4,5,6] [[0,1,2,3,5,4,6,7]]
def z572r9:IC:=.reg [⟨some 39, none,.mv (.t 8)⟩,⟨some 40, none,.bin .add (.t 39) (.c (vi 1))⟩,⟨some 8, none,.asg (.t 40)⟩] [1,4,5,7,8] []
def z572l10:IC:=(.seq (.seq z572r5 (.cond (.t 38) .skip (.exit 0))) (.seq (.block 1 (.seq z572r6 (.seq z572r7 (.cond (.t 50) (.seq z572r8 .ret) .skip)))) z572r9))
def z572r11:IC:=.reg [⟨some 56, none,.build [(vi 0),(.slice none 0 0)] []⟩,⟨some 57, none,.build [(vi 0),(.slice none 0 0)] []⟩,⟨none,none,.store 2 (.t 4) (.t 56)⟩,⟨none,none,.store 2 (.t 5) (.t 57)⟩,⟨some 6, none,.asg (.c (.bool false))⟩] [4,5,6] []
def zi572:IFun:=⟨[.c 4 2 true,.c 5 2 true,.t 6],[],(.seq z572r0 (.seq (.seq z572r1 (.cond (.t 30) (.seq z572r2 .ret) .skip)) (.seq z572r3 (.seq (.seq z572r4 (.block 0 (.loop z572l10))) (.seq z572r11 .ret)))))⟩
def z118r0:IC:=.reg [⟨some 4, none,.alloc [(vi 0),(.slice none 0 0)]⟩] [0,1,4] []
def z118r1:IC:=.reg [⟨some 9, none,.mv (.t 1)⟩,⟨some 10, none,.bsl 2 [(vi 0),(vi 0)] 0 []⟩,⟨some 11, none,.build [(vi 0),(.slice none 0 0)] [(0,1,(.t 9)),(1,1,(.t 10))]⟩,⟨some 5, none,.alloc [(vi 0),(.slice none 0 0)]⟩,⟨none,none,.store 2 (.t 5) (.t 11)⟩] [0,1,4,5] []
def z118r2:IC:=.reg [⟨some 12, none,.mv (.t 1)⟩,⟨some 13, none,.call zl138 [(.val,(.t 12))] true⟩,⟨some 6, none,.asg (.t 13)⟩] [0,4,5,6] []
def z118r3:IC:=.reg [⟨some 14, none,.mv (.t 0)⟩,⟨some 15, none,.call zl140 [(.val,(.t 14)),(.val,(.c (vi 3)))] false⟩,⟨some 16, none,.bin .add (.c (vi 2)) (.t 15)⟩,⟨some 7, none,.asg (.t 16)⟩] [0,4,5,6,7] []
def z118r4:IC:=.reg [⟨some 8, none,.asg (.c (vi 0))⟩] [0,4,5,6,7,8] []
def z118r5:IC:=.reg [⟨some 17, none,.mv (.t 8)⟩,⟨some 18, none,.mv (.t 6)⟩,⟨some 19, none,.len (.t 18)⟩,⟨some 20, none,.bin .lss (.t 17) (.t 19)⟩] [0,4,5,6,7,8,20] []
def z118r6:IC:=.reg [⟨some 23, none,.mv (.t 0)⟩,⟨some 24, none,.mv (.t 7)⟩,⟨some 25, none,.call zl140 [(.val,(.t 23)),(.val,(.t 24))] false⟩,⟨some 26, none,.bin .eql (.t 25) (.c (vi 0))⟩] [0,4,5,6,7,8,26] []
def z118r7:IC:=.reg [⟨some 27, none,.fadr 1 (.t 5)⟩,⟨some 28, none,.load false 1 (.t 27)⟩,⟨some 29, none,.mv (.t 6)⟩,⟨some 30, none,.mv (.t 8)⟩,⟨some 31, none,.iadr 2 (.t 29) (.t 30)⟩,⟨some 32, none,.load true 2 (.t 31)⟩,⟨some 33, none,.bsl 2 [(vi 0),(vi 0)] 1 [(0,(.t 32))]⟩,⟨some 34, none,.app 2 (.t 28) (.t 33)⟩,⟨some 35, none,.fadr 1 (.t 5)⟩,⟨none,none,.store 1 (.t 35) (.t 34)⟩] [0,4,5,6,7,8] [[0,2,3,4,5,6,1,7,8,9]]
def z118r8:IC:=.reg [⟨some 21, none,.mv (.t 8)⟩,⟨some 22, none,.bin .add (.t 21) (.c (vi 1))⟩,⟨some 8, none,.asg (.t 22)⟩] [0,4,5,6,7,8] []
def z118l9:IC:=(.seq (.seq z118r5 (.cond (.t 20) .skip (.exit 0))) (.seq (.block 1 (.seq z118r6 (.cond (.t 26) z118r7 .skip))) z118r8))
def z118r10:IC:=.reg [⟨some 36, none,.mv (.t 0)⟩,⟨some 37, none,.call zl140 [(.val,(.t 36)),(.val,(.c (vi 4)))] false⟩,⟨some 38, none,.bin .eql (.t 37) (.c (vi 0))⟩] [4,5,38] []
def z118r11:IC:=.reg [⟨some 39, none,.load true 2 (.t 5)⟩,⟨some 40, none,.call zl122 [(.rd,(.t 39))] true⟩,⟨none,none,.store 2 (.t 4) (.t 40)⟩] [4] []
def z118r12:IC:=.reg [⟨some 41, none,.load true 2 (.t 5)⟩,⟨none,none,.store 2 (.t 4) (.t 41)⟩] [4] []
def zi118:IFun:=⟨[.c 4 2 true],[],(.seq z118r0 (.seq z118r1 (.seq z118r2 (.seq z118r3 (.seq (.seq z118r4 (.block 0 (.loop z118l9))) (.seq (.seq z118r10 (.cond (.t 38) (.seq z118r11 .ret) .skip)) (.seq z118r12 .ret)))))))⟩
def z335r0:IC:=.reg [⟨some 3, none,.box (.t 0)⟩,⟨some 6, none,.alloc [(vi 0),(.slice none 0 0)]⟩] [1,2,3,6] []
def z335r1:IC:=.reg [⟨some 10, none,.mv (.t 1)⟩,⟨some 11, none,.mv (.t 2)⟩,⟨some 12, none,.minmax true (.t 10) (.t 11)⟩,⟨some 13, none,.mv (.t 1)⟩,⟨some 14, none,.mv (.t 2)⟩,⟨some 15, none,.minmax false (.t 13) (.t 14)⟩,⟨some 16, none,.build [(vi 0),(vi 0)] [(0,1,(.t 12)),(1,1,(.t 15))]⟩,⟨some 7, none,.alloc [(vi 0),(vi 0)]⟩,⟨none,none,.store 2 (.t 7) (.t 16)⟩] [3,6,7] []
def z335r2:IC:=.reg [⟨some 8, none,.asg (.c (vi 0))⟩] [3,6,7,8] []
def z335r3:IC:=.reg [⟨some 17, none,.mv (.t 8)⟩,⟨some 18, none,.fadr 1 (.t 3)⟩,⟨some 19, none,.load false 1 (.t 18)⟩,⟨some 20, none,.len (.t 19)⟩,⟨some 21, none,.bin .lss (.t 17) (.t 20)⟩,⟨some 22, none,.asg (.t 21)⟩,⟨some 23, (some (22,true)),.fadr 1 (.t 3)⟩,⟨some 24, (some (22,true)),.load false 1 (.t 23)⟩,⟨some 25, (some (22,true)),.mv (.t 8)⟩,⟨some 26, (some (22,true)),.iadr 2 (.t 24) (.t 25)⟩,⟨some 27, (some (22,true)),.load true 2 (.t 26)⟩,⟨some 28, (some (22,true)),.load true 2 (.t 7)⟩,⟨some 29, (some (22,true)),.call zl126 [(.val,(.t 27)),(.val,(.t 28))] true⟩,⟨some 30, none,.pick (.t 22) (.t 29) (.c (.bool false))⟩] [3,6,7,8,30] []
def z335r4:IC:=.reg [⟨some 31, none,.mv (.t 8)⟩,⟨some 32, none,.bin .add (.t 31) (.c (vi 1))⟩,⟨some 8, none,.asg (.t 32)⟩] [3,6,7,8] []
def z335l5:IC:=(.seq (.seq z335r3 (.cond (.t 30) .skip (.exit 0))) (.block 1 z335r4))
def z335r6:IC:=.reg [⟨some 33, none,.bsl 2 [(vi 0),(vi 0)] 0 []⟩,⟨some 34, none,.fadr 1 (.t 3)⟩,⟨some 35, none,.load false 1 (.t 34)⟩,⟨some 36, none,.mv (.t 8)⟩,⟨some 37, none,.slc 2 (.t 35) none (some (.t 36)) none⟩,⟨some 38, none,.app 2 (.t 33) (.t 37)⟩,⟨some 9, none,.asg (.t 38)⟩] [3,6,7,8,9] []
def z335r7:IC:=.reg [⟨some 39, none,.fadr 0 (.t 3)⟩,⟨some 40, none,.load false 1 (.t 39)⟩,⟨some 41, none,.mv (.t 9)⟩,⟨some 42, none,.load true 2 (.t 7)⟩,⟨some 43, none,.bsl 2 [(vi 0),(vi 0)] 1 [(0,(.t 42))]⟩,⟨some 44, none,.app 2 (.t 41) (.t 43)⟩,⟨some 45, none,.fadr 1 (.t 3)⟩,⟨some 46, none,.load false 1 (.t 45)⟩,⟨some 47, none,.mv (.t 8)⟩,⟨some 48, none,.slc 2 (.t 46) (some (.t 47)) none none⟩,⟨some 49, none,.app 2 (.t 44) (.t 48)⟩,⟨some 50, none,.build [(vi 0),(.slice none 0 0)] [(0,1,(.t 40)),(1,1,(.t 49))]⟩,
    ⟨none,none,.store 2 (.t 6) (.t 50)⟩] [6] [[0,1,2,3,4,6,7,5,8,9,10,11,12],[0,1,2,3,6,7,4,5,8,9,10,11,12],[0,2,3,4,1,5,6,7,8,9,10,11,12],[0,2,3,4,1,6,7,5,8,9,10,11,12],[0,2,3,6,7,4,1,5,8,9,10,11,12],[0,2,3,4,5,1,6,7,8,9,10,11,12],[0,2,3,4,5,6,7,8,9,10,1,11,12],[0,2,3,4,6,7,5,1,8,9,10,11,12],[0,2,3,4,6,7,5,8,9,10,1,11,12],[0,2,3,6,7,4,5,1,8,9,10,11,12],[0,2,3,6,7,4,5,8,9,10,1,11,12]]
def zi335:IFun:=⟨[.c 6 2 true],[],(.seq z335r0 (.seq z335r1 (.seq z335r2 (.seq (.block 0 (.loop z335l5)) (.seq z335r6 (.seq z335r7 .ret))))))⟩
def z121r0:IC:=.reg [⟨some 4, none,.asg (.c (.slice none 0 0))⟩] [0,1] []
def z121r1:IC:=.reg [⟨some 5, none,.mv (.t 0)⟩,⟨some 6, none,.call zl140 [(.val,(.t 5)),(.val,(.c (vi 24)))] false⟩,⟨some 7, none,.bin .eql (.t 6) (.c (vi 0))⟩] [0,1,7] []
def z121r2:IC:=.reg [⟨some 8, none,.mv (.t 1)⟩,⟨some 9, none,.mv (.t 0)⟩,⟨some 10, none,.bsl 1 [(vi 0)] 4 [(0,(.c (vi (-1)))),(1,(.c (vi 7))),(2,(.c (vi 8))),(3,(.c (vi 0)))]⟩,⟨some 11, none,.call zl139 [(.val,(.t 9)),(.rd,(.t 10))] false⟩,⟨some 12, none,.bsl 1 [(vi 0)] 1 [(0,(.t 11))]⟩,⟨some 13, none,.app 1 (.t 8) (.t 12)⟩,⟨some 4, none,.asg (.t 13)⟩] [1,4] []
def z121r3:IC:=.reg [⟨some 14, none,.mv (.t 1)⟩,⟨some 15, none,.len (.t 14)⟩,⟨some 16, none,.bin .gtr (.t 15) (.c (vi 0))⟩,⟨some 17, none,.asg (.t 16)⟩,⟨some 18, (some (17,true)),.mv (.t 0)⟩,⟨some 19, (some (17,true)),.call zl140 [(.val,(.t 18)),(.val,(.c (vi 30)))] false⟩,⟨some 20, (some (17,true)),.bin .eql (.t 19) (.c (vi 0))⟩,⟨some 21, none,.pick (.t 17) (.t 20) (.c (.bool false))⟩] [0,1,21] []
def z121r4:IC:=.reg [⟨some 22, none,.mv (.t 1)⟩,⟨some 23, none,.mv (.t 0)⟩,⟨some 24, none,.mv (.t 1)⟩,⟨some 25, none,.len (.t 24)⟩,⟨some 26, none,.call zl140 [(.val,(.t 23)),(.val,(.t 25))] false⟩,⟨some 27, none,.mv (.t 0)⟩,⟨some 28, none,.bsl 1 [(vi 0)] 3 [(0,(.c (vi (-1)))),(1,(.c (vi 7))),(2,(.c (vi 6)))]⟩,⟨some 29, none,.call zl139 [(.val,(.t 27)),(.rd,(.t 28))] false⟩,⟨some 30, none,.iadr 1 (.t 22) (.t 26)⟩,⟨none,none,.store 1 (.t 30) (.t 29)⟩] [1] []
def z121r5:IC:=.reg [⟨some 31, none,.mv (.t 1)⟩,⟨some 4, none,.asgm (.t 31)⟩] [1,4] []
def zi121:IFun:=⟨[.t 4],[],(.seq z121r0 (.seq (.seq z121r1 (.cond (.t 7) (.seq z121r2 .ret) .skip)) (.seq (.seq z121r3 (.cond (.t 21) z121r4 .skip)) (.seq z121r5 .ret))))⟩
def z122r0:IC:=.reg [⟨some 1, none,.box (.t 0)⟩,⟨some 2, none,.alloc [(vi 0),(.slice none 0 0)]⟩] [1,2] []
def z122r1:IC:=.reg [⟨some 6, none,.fadr 0 (.t 1)⟩,⟨some 7, none,.load false 1 (.t 6)⟩,⟨some 8, none,.bsl 2 [(vi 0),(vi 0)] 0 []⟩,⟨some 9, none,.build [(vi 0),(.slice none 0 0)] [(0,1,(.t 7)),(1,1,(.t 8))]⟩,⟨some 3, none,.alloc [(vi 0),(.slice none 0 0)]⟩,⟨none,none,.store 2 (.t 3) (.t 9)⟩] [1,2,3] []
def z122r2:IC:=.reg [⟨some 10, none,.fadr 0 (.t 1)⟩,⟨some 11, none,.load false 1 (.t 10)⟩,⟨some 12, none,.call zl138 [(.val,(.t 11))] true⟩,⟨some 4, none,.asg (.t 12)⟩] [1,2,3,4] []
def z122r3:IC:=.reg [⟨some 5, none,.asg (.c (vi 0))⟩] [1,2,3,4,5] []
def z122r4:IC:=.reg [⟨some 13, none,.mv (.t 5)⟩,⟨some 14, none,.mv (.t 4)⟩,⟨some 15, none,.len (.t 14)⟩,⟨some 16, none,.bin .lss (.t 13) (.t 15)⟩] [1,2,3,4,5,16] []
def z122r5:IC:=.reg [⟨some 19, none,.load true 2 (.t 1)⟩,⟨some 20, none,.mv (.t 4)⟩,⟨some 21, none,.mv (.t 5)⟩,⟨some 22, none,.iadr 2 (.t 20) (.t 21)⟩,⟨some 23, none,.fadr 0 (.t 22)⟩,⟨some 24, none,.load false 1 (.t 23)⟩,⟨some 25, none,.mv (.t 4)⟩,⟨some 26, none,.mv (.t 5)⟩,⟨some 27, none,.iadr 2 (.t 25) (.t 26)⟩,⟨some 28, none,.fadr 1 (.t 27)⟩,⟨some 29, none,.load false 1 (.t 28)⟩,⟨some 30, none,.call zl130 [(.rd,(.t 19)),(.val,(.t 24)),(.val,(.t 29))] true⟩,⟨some 31, none,.unop .not (.t 30)⟩] [1,2,3,4,5,31] []
def z122r6:IC:=.reg [⟨some 32, none,.fadr 1 (.t 3)⟩,⟨some 33, none,.load false 1 (.t 32)⟩,⟨some 34, none,.mv (.t 4)⟩,⟨some 35, none,.mv (.t 5)⟩,⟨some 36, none,.iadr 2 (.t 34) (.t 35)⟩,⟨some 37, none,.load true 2 (.t 36)⟩,⟨some 38, none,.bsl 2 [(vi 0),(vi 0)] 1 [(0,(.t 37))]⟩,⟨some 39, none,.app 2 (.t 33) (.t 38)⟩,⟨some 40, none,.fadr 1 (.t 3)⟩,⟨none,none,.store 1 (.t 40) (.t 39)⟩] [1,2,3,4,5] [[0,2,3,4,5,6,1,7,8,9]]
def z122r7:IC:=.reg [⟨some 17, none,.mv (.t 5)⟩,⟨some 18, none,.bin .add (.t 17) (.c (vi 1))⟩,⟨some 5, none,.asg (.t 18)⟩] [1,2,3,4,5] []
def z122l8:IC:=(.seq (.seq z122r4 (.cond (.t 16) .skip (.exit 0))) (.seq (.block 1 (.seq z122r5 (.cond (.t 31) z122r6 .skip))) z122r7))
def z122r9:IC:=.reg [⟨some 41, none,.load true 2 (.t 3)⟩,⟨none,none,.store 2 (.t 2) (.t 41)⟩] [2] []
def zi122:IFun:=⟨[.c 2 2 true],[],(.seq z122r0 (.seq z122r1 (.seq z122r2 (.seq (.seq z122r3 (.block 0 (.loop z122l8))) (.seq z122r9 .ret)))))⟩
def z123r0:IC:=.reg [⟨some 2, none,.asg (.c (.slice none 0 0))⟩] [0] []
def z123r1:IC:=.reg [⟨some 3, none,.bsl 1 [(vi 0)] 0 []⟩,⟨some 4, none,.mv (.t 0)⟩,⟨some 5, none,.app 1 (.t 3) (.t 4)⟩,⟨some 2, none,.asg (.t 5)⟩] [2] []
def zi123:IFun:=⟨[.t 2],[],(.seq z123r0 (.seq z123r1 .ret))⟩
def z125r0:IC:=.reg [⟨some 1, none,.box (.t 0)⟩,⟨some 2, none,.asg (.c (.slice none 0 0))⟩] [1] []
def z125r1:IC:=.reg [⟨some 5, none,.fadr 0 (.t 1)⟩,⟨some 6, none,.load false 1 (.t 5)⟩,⟨some 7, none,.mksl 1 [(vi 0)] (.t 6) (.t 6)⟩,⟨some 3, none,.asg (.t 7)⟩] [1,3] []
def z125r2:IC:=.reg [⟨some 4, none,.asg (.c (vi 0))⟩] [1,3,4] []
def z125r3:IC:=.reg [⟨some 8, none,.mv (.t 4)⟩,⟨some 9, none,.fadr 1 (.t 1)⟩,⟨some 10, none,.load false 1 (.t 9)⟩,⟨some 11, none,.len (.t 10)⟩,⟨some 12, none,.bin .lss (.t 8) (.t 11)⟩] [1,3,4,12] []
def z125r4:IC:=.reg [⟨some 15, none,.mv (.t 3)⟩,⟨some 16, none,.fadr 1 (.t 1)⟩,⟨some 17, none,.load false 1 (.t 16)⟩,⟨some 18, none,.mv (.t 4)⟩,⟨some 19, none,.iadr 2 (.t 17) (.t 18)⟩,⟨some 20, none,.fadr 0 (.t 19)⟩,⟨some 21, none,.load false 1 (.t 20)⟩,⟨some 22, none,.mv (.t 3)⟩,⟨some 23, none,.fadr 1 (.t 1)⟩,⟨some 24, none,.load false 1 (.t 23)⟩,⟨some 25, none,.mv (.t 4)⟩,⟨some 26, none,.iadr 2 (.t 24) (.t 25)⟩,⟨some 27, none,.fadr 0 (.t 26)⟩,⟨some 28, none,.load false 1 (.t 27)⟩,⟨some 29, none,.iadr 1 (.t 22) (.t 28)⟩,⟨some 30, none,.load false 1 (.t 29)⟩,⟨some 31, none,.bin .add (.t 30) (.c (vi 1))⟩,⟨some 32, none,.iadr 1 (.t 15) (.t 21)⟩,⟨none,none,.store 1 (.t 32) (.t 31)⟩] [1,3,4] []
def z125r5:IC:=.reg [⟨some 33, none,.mv (.t 3)⟩,⟨some 34, none,.fadr 1 (.t 1)⟩,⟨some 35, none,.load false 1 (.t 34)⟩,⟨some 36, none,.mv (.t 4)⟩,⟨some 37, none,.iadr 2 (.t 35) (.t 36)⟩,⟨some 38, none,.fadr 1 (.t 37)⟩,⟨some 39, none,.load false 1 (.t 38)⟩,⟨some 40, none,.mv (.t 3)⟩,⟨some 41, none,.fadr 1 (.t 1)⟩,⟨some 42, none,.load false 1 (.t 41)⟩,⟨some 43, none,.mv (.t 4)⟩,⟨some 44, none,.iadr 2 (.t 42) (.t 43)⟩,⟨some 45, none,.fadr 1 (.t 44)⟩,⟨some 46, none,.load false 1 (.t 45)⟩,⟨some 47, none,.iadr 1 (.t 40) (.t 46)⟩,⟨some 48, none,.load false 1 (.t 47)⟩,⟨some 49, none,.bin .add (.t 48) (.c (vi 1))⟩,⟨some 50, none,.iadr 1 (.t 33) (.t 39)⟩,⟨none,none,.store 1 (.t 50) (.t 49)⟩] [1,3,4] []
def z125r6:IC:=.reg [⟨some 13, none,.mv (.t 4)⟩,⟨some 14, none,.bin .add (.t 13) (.c (vi 1))⟩,⟨some 4, none,.asg (.t 14)⟩] [1,3,4] []
def z125l7:IC:=(.seq (.seq z125r3 (.cond (.t 12) .skip (.exit 0))) (.seq (.block 1 (.seq z125r4 z125r5)) z125r6))
def z125r8:IC:=.reg [⟨some 51, none,.mv (.t 3)⟩,⟨some 2, none,.asgm (.t 51)⟩] [2,3] []
def zi125:IFun:=⟨[.t 2],[],(.seq z125r0 (.seq z125r1 (.seq (.seq z125r2 (.block 0 (.loop z125l7))) (.seq z125r8 .ret))))⟩
def z126r0:IC:=.reg [⟨some 2, none,.box (.t 0)⟩,⟨some 3, none,.box (.t 1)⟩,⟨some 4, none,.asg (.c (.bool false))⟩] [2,3] []
def z126r1:IC:=.reg [⟨some 5, none,.fadr 0 (.t 2)⟩,⟨some 6, none,.load false 1 (.t 5)⟩,⟨some 7, none,.fadr 0 (.t 3)⟩,⟨some 8, none,.load false 1 (.t 7)⟩,⟨some 9, none,.bin .lss (.t 6) (.t 8)⟩,⟨some 10, none,.asg (.t 9)⟩,⟨some 11, (some (10,false)),.fadr 0 (.t 2)⟩,⟨some 12, (some (10,false)),.load false 1 (.t 11)⟩,⟨some 13, (some (10,false)),.fadr 0 (.t 3)⟩,⟨some 14, (some (10,false)),.load false 1 (.t 13)⟩,⟨some 15, (some (10,false)),.bin .eql (.t 12) (.t 14)⟩,⟨some 16, (some (10,false)),.asg (.t 15)⟩,⟨some 17, (some (16,true)),.fadr 1 (.t 2)⟩,⟨some 18, (some (16,true)),.load false 1 (.t 17)⟩,⟨some 19, (some (16,true)),.fadr 1 (.t 3)⟩,⟨some 20, (some (16,true)),.load false 1 (.t 19)⟩,⟨some 21, (some (16,true)),.bin .lss (.t 18) (.t 20)⟩,⟨some 22, (some (10,false)),.pick (.t 16) (.t 21) (.c (.bool false))⟩,⟨some 23, none,.pick (.t 10) (.c (.bool true)) (.t 22)⟩,
    ⟨some 4, none,.asg (.t 23)⟩] [4] []
def zi126:IFun:=⟨[.t 4],[],(.seq z126r0 (.seq z126r1 .ret))⟩
def z583r0:IC:=.reg [⟨some 2, none,.box (.t 0)⟩,⟨some 4, none,.alloc [(vi 0),(.slice none 0 0)]⟩,⟨some 5, none,.asg (.c (.bool false))⟩] [1,2,4] []
def z583r1:IC:=.reg [⟨some 6, none,.fadr 0 (.t 2)⟩,⟨some 7, none,.load false 1 (.t 6)⟩,⟨some 8, none,.bsl 2 [(vi 0),(vi 0)] 0 []⟩,⟨some 9, none,.build [(vi 0),(.slice none 0 0)] [(0,1,(.t 7)),(1,1,(.t 8))]⟩,⟨some 10, none,.mv (.t 1)⟩,⟨some 11, none,.fadr 1 (.t 2)⟩,⟨some 12, none,.load false 1 (.t 11)⟩,⟨some 13, none,.call zl585 [(.tk,(.t 9)),(.rd,(.t 10)),(.rd,(.t 12)),(.val,(.c (vi 0)))] true⟩,⟨some 14, none,.extr (.t 13) 0⟩,⟨some 15, none,.extr (.t 13) 1⟩,⟨none,none,.store 2 (.t 4) (.t 14)⟩,⟨some 5, none,.asg (.t 15)⟩] [4,5] []
def zi583:IFun:=⟨[.c 4 2 true,.t 5],[],(.seq z583r0 (.seq z583r1 .ret))⟩
def z585r0:IC:=.reg [⟨some 4, none,.box (.t 0)⟩,⟨some 8, none,.alloc [(vi 0),(.slice none 0 0)]⟩,⟨some 9, none,.asg (.c (.bool false))⟩] [1,2,3,4,8] []
def z585r1:IC:=.reg [⟨some 14, none,.mv (.t 1)⟩,⟨some 15, none,.call zl382 [(.rd,(.t 14))] true⟩,⟨some 16, none,.bin .eql (.t 15) (.c (vi 0))⟩] [1,2,3,4,8,16] []
def z585r2:IC:=.reg [⟨some 17, none,.load true 2 (.t 4)⟩,⟨none,none,.store 2 (.t 8) (.t 17)⟩,⟨some 9, none,.asg (.c (.bool true))⟩] [8,9] []
def z585r3:IC:=.reg [⟨some 18, none,.mv (.t 3)⟩,⟨some 19, none,.mv (.t 2)⟩,⟨some 20, none,.len (.t 19)⟩,⟨some 21, none,.bin .eql (.t 18) (.t 20)⟩] [1,2,3,4,8,21] []
def z585r4:IC:=.reg [⟨some 22, none,.build [(vi 0),(.slice none 0 0)] []⟩,⟨none,none,.store 2 (.t 8) (.t 22)⟩,⟨some 9, none,.asg (.c (.bool false))⟩] [8,9] []
def z585r5:IC:=.reg [⟨some 23, none,.mv (.t 2)⟩,⟨some 24, none,.mv (.t 3)⟩,⟨some 25, none,.iadr 2 (.t 23) (.t 24)⟩,⟨some 26, none,.load true 2 (.t 25)⟩,⟨some 10, none,.alloc [(vi 0),(vi 0)]⟩,⟨none,none,.store 2 (.t 10) (.t 26)⟩] [1,2,3,4,8,10] []
def z585r6:IC:=.reg [⟨some 27, none,.mv (.t 1)⟩,⟨some 28, none,.fadr 0 (.t 10)⟩,⟨some 29, none,.load false 1 (.t 28)⟩,⟨some 30, none,.slc 1 (.t 27) none (some (.t 29)) none⟩,⟨some 31, none,.call zl382 [(.rd,(.t 30))] true⟩,⟨some 32, none,.bin .gtr (.t 31) (.c (vi 0))⟩] [1,2,3,4,8,10,32] []
def z585r7:IC:=.reg [⟨some 33, none,.build [(vi 0),(.slice none 0 0)] []⟩,⟨none,none,.store 2 (.t 8) (.t 33)⟩,⟨some 9, none,.asg (.c (.bool false))⟩] [8,9] []
def z585r8:IC:=.reg [⟨some 34, none,.mv (.t 1)⟩,⟨some 35, none,.fadr 0 (.t 10)⟩,⟨some 36, none,.load false 1 (.t 35)⟩,⟨some 37, none,.iadr 1 (.t 34) (.t 36)⟩,⟨some 38, none,.load false 1 (.t 37)⟩,⟨some 39, none,.bin .gtr (.t 38) (.c (vi 0))⟩,⟨some 40, none,.asg (.t 39)⟩,⟨some 41, (some (40,true)),.mv (.t 1)⟩,⟨some 42, (some (40,true)),.fadr 1 (.t 10)⟩,⟨some 43, (some (40,true)),.load false 1 (.t 42)⟩,⟨some 44, (some (40,true)),.iadr 1 (.t 41) (.t 43)⟩,⟨some 45, (some (40,true)),.load false 1 (.t 44)⟩,⟨some 46, (some (40,true)),.bin .gtr (.t 45) (.c (vi 0))⟩,⟨some 47, none,.pick (.t 40) (.t 46) (.c (.bool false))⟩] [1,2,3,4,8,10,47] []
def z585r9:IC:=.reg [⟨some 48, none,.mv (.t 1)⟩,⟨some 49, none,.call zl123 [(.rd,(.t 48))] true⟩,⟨some 11, none,.asg (.t 49)⟩] [1,2,3,4,8,10,11] []
def z585r10:IC:=.reg [⟨some 50, none,.mv (.t 11)⟩,⟨some 51, none,.fadr 0 (.t 10)⟩,⟨some 52, none,.load false 1 (.t 51)⟩,⟨some 53, none,.mv (.t 11)⟩,⟨some 54, none,.fadr 0 (.t 10)⟩,⟨some 55, none,.load false 1 (.t 54)⟩,⟨some 56, none,.iadr 1 (.t 53) (.t 55)⟩,⟨some 57, none,.load false 1 (.t 56)⟩,⟨some 58, none,.bin .sub (.t 57) (.c (vi 1))⟩,⟨some 59, none,.iadr 1 (.t 50) (.t 52)⟩,⟨none,none,.store 1 (.t 59) (.t 58)⟩] [1,2,3,4,8,10,11] []
def z585r11:IC:=.reg [⟨some 60, none,.mv (.t 11)⟩,⟨some 61, none,.fadr 1 (.t 10)⟩,⟨some 62, none,.load false 1 (.t 61)⟩,⟨some 63, none,.mv (.t 11)⟩,⟨some 64, none,.fadr 1 (.t 10)⟩,⟨some 65, none,.load false 1 (.t 64)⟩,⟨some 66, none,.iadr 1 (.t 63) (.t 65)⟩,⟨some 67, none,.load false 1 (.t 66)⟩,⟨some 68, none,.bin .sub (.t 67) (.c (vi 1))⟩,⟨some 69, none,.iadr 1 (.t 60) (.t 62)⟩,⟨none,none,.store 1 (.t 69) (.t 68)⟩] [1,2,3,4,8,10,11] []
def z585r12:IC:=.reg [⟨some 71, none,.load true 2 (.t 4)⟩,⟨some 72, none,.fadr 0 (.t 10)⟩,⟨some 73, none,.load false 1 (.t 72)⟩,⟨some 74, none,.fadr 1 (.t 10)⟩,⟨some 75, none,.load false 1 (.t 74)⟩,⟨some 76, none,.call zl335 [(.rd,(.t 71)),(.val,(.t 73)),(.val,(.t 75))] true⟩,⟨some 77, none,.mv (.t 11)⟩,⟨some 78, none,.mv (.t 2)⟩,⟨some 79, none,.mv (.t 3)⟩,⟨some 80, none,.bin .add (.t 79) (.c (vi 1))⟩,⟨some 81, none,.call zl585 [(.tk,(.t 76)),(.rd,(.t 77)),(.rd,(.t 78)),(.val,(.t 80))] true⟩,⟨some 70, none,.asg (.t 81)⟩,⟨some 82, none,.extr (.t 70) 0⟩,⟨some 83, none,.extr (.t 70) 1⟩,⟨some 12, none,.alloc [(vi 0),(.slice none 0 0)]⟩,⟨none,none,.store 2 (.t 12) (.t 82)⟩,⟨some 13, none,.asg (.t 83)⟩] [1,2,3,4,8,12,13] []
def z585r13:IC:=.reg [⟨some 84, none,.mv (.t 13)⟩] [1,2,3,4,8,12,84] []
def z585r14:IC:=.reg [⟨some 85, none,.load true 2 (.t 12)⟩,⟨none,none,.store 2 (.t 8) (.t 85)⟩,⟨some 9, none,.asg (.c (.bool true))⟩] [8,9] []
def z585r15:IC:=.reg [⟨some 86, none,.load true 2 (.t 4)⟩,⟨some 87, none,.mv (.t 1)⟩,⟨some 88, none,.mv (.t 2)⟩,⟨some 89, none,.mv (.t 3)⟩,⟨some 90, none,.bin .add (.t 89) (.c (vi 1))⟩,⟨some 91, none,.call zl585 [(.tk,(.t 86)),(.rd,(.t 87)),(.rd,(.t 88)),(.val,(.t 90))] true⟩,⟨some 92, none,.extr (.t 91) 0⟩,⟨some 93, none,.extr (.t 91) 1⟩,⟨none,none,.store 2 (.t 8) (.t 92)⟩,⟨some 9, none,.asg (.t 93)⟩] [8,9] []
def zi585:IFun:=⟨[.c 8 2 true,.t 9],[],(.seq z585r0 (.seq (.seq z585r1 (.cond (.t 16) (.seq z585r2 .ret) .skip)) (.seq (.seq z585r3 (.cond (.t 21) (.seq z585r4 .ret) .skip)) (.seq z585r5 (.seq (.seq z585r6 (.cond (.t 32) (.seq z585r7 .ret) .skip)) (.seq (.seq z585r8 (.cond (.t 47) (.seq z585r9 (.seq z585r10 (.seq z585r11 (.seq z585r12 (.seq z585r13 (.cond (.t 84) (.seq z585r14 .ret) .skip)))))) .skip)) (.seq z585r15 .ret)))))))⟩
def z130r0:IC:=.reg [⟨some 3, none,.box (.t 0)⟩,⟨some 6, none,.asg (.c (.bool false))⟩] [1,2,3] []
def z130r1:IC:=.reg [⟨some 7, none,.asg (.c (vi 0))⟩] [1,2,3,7] []
def z130r2:IC:=.reg [⟨some 9, none,.mv (.t 7)⟩,⟨some 10, none,.fadr 1 (.t 3)⟩,⟨some 11, none,.load false 1 (.t 10)⟩,⟨some 12, none,.len (.t 11)⟩,⟨some 13, none,.bin .lss (.t 9) (.t 12)⟩] [1,2,3,7,13] []
def z130r3:IC:=.reg [⟨some 16, none,.fadr 1 (.t 3)⟩,⟨some 17, none,.load false 1 (.t 16)⟩,⟨some 18, none,.mv (.t 7)⟩,⟨some 19, none,.iadr 2 (.t 17) (.t 18)⟩,⟨some 20, none,.load true 2 (.t 19)⟩,⟨some 8, none,.alloc [(vi 0),(vi 0)]⟩,⟨none,none,.store 2 (.t 8) (.t 20)⟩] [1,2,3,7,8] []
def z130r4:IC:=.reg [⟨some 21, none,.fadr 0 (.t 8)⟩,⟨some 22, none,.load false 1 (.t 21)⟩,⟨some 23, none,.mv (.t 1)⟩,⟨some 24, none,.bin .eql (.t 22) (.t 23)⟩,⟨some 25, none,.asg (.t 24)⟩,⟨some 26, (some (25,true)),.fadr 1 (.t 8)⟩,⟨some 27, (some (25,true)),.load false 1 (.t 26)⟩,⟨some 28, (some (25,true)),.mv (.t 2)⟩,⟨some 29, (some (25,true)),.bin .eql (.t 27) (.t 28)⟩,⟨some 30, none,.pick (.t 25) (.t 29) (.c (.bool false))⟩,⟨some 31, none,.asg (.t 30)⟩,⟨some 32, (some (31,false)),.fadr 0 (.t 8)⟩,⟨some 33, (some (31,false)),.load false 1 (.t 32)⟩,⟨some 34, (some (31,false)),.mv (.t 2)⟩,⟨some 35, (some (31,false)),.bin .eql (.t 33) (.t 34)⟩,⟨some 36, (some (31,false)),.asg (.t 35)⟩,⟨some 37, (some (36,true)),.fadr 1 (.t 8)⟩,⟨some 38, (some (36,true)),.load false 1 (.t 37)⟩,⟨some 39, (some (36,true)),.mv (.t 1)⟩,⟨some 40, (some (36,true)),.bin .eql (.t 38) (.t 39)⟩,
    ⟨some 41, (some (31,false)),.pick (.t 36) (.t 40) (.c (.bool false))⟩,⟨some 42, none,.pick (.t 31) (.c (.bool true)) (.t 41)⟩] [1,2,3,7,42] []
def z130r5:IC:=.reg [⟨some 6, none,.asg (.c (.bool true))⟩] [6] []
def z130r6:IC:=.reg [⟨some 14, none,.mv (.t 7)⟩,⟨some 15, none,.bin .add (.t 14) (.c (vi 1))⟩,⟨some 7, none,.asg (.t 15)⟩] [1,2,3,7] []
def z130l7:IC:=(.seq (.seq z130r2 (.cond (.t 13) .skip (.exit 0))) (.seq (.block 1 (.seq z130r3 (.seq z130r4 (.cond (.t 42) (.seq z130r5 .ret) .skip)))) z130r6))
def z130r8:IC:=.reg [⟨some 6, none,.asg (.c (.bool false))⟩] [6] []
def zi130:IFun:=⟨[.t 6],[],(.seq z130r0 (.seq (.seq z130r1 (.block 0 (.loop z130l7))) (.seq z130r8 .ret)))⟩
def z132r0:IC:=.reg [⟨some 6, none,.asg (.c (.bool false))⟩] [0,1,2] []
def z132r1:IC:=.reg [⟨some 7, none,.mv (.t 1)⟩,⟨some 8, none,.mv (.t 0)⟩,⟨some 9, none,.bin .leq (.t 7) (.t 8)⟩,⟨some 10, none,.asg (.t 9)⟩,⟨some 11, (some (10,true)),.mv (.t 0)⟩,⟨some 12, (some (10,true)),.mv (.t 2)⟩,⟨some 13, (some (10,true)),.bin .leq (.t 11) (.t 12)⟩,⟨some 14, none,.pick (.t 10) (.t 13) (.c (.bool false))⟩,⟨some 6, none,.asg (.t 14)⟩] [6] []
def zi132:IFun:=⟨[.t 6],[],(.seq z132r0 (.seq z132r1 .ret))⟩
def z135r0:IC:=.reg [⟨some 4, none,.asg (.c (.slice none 0 0))⟩] [0,1] []
def z135r1:IC:=.reg [⟨some 7, none,.mv (.t 1)⟩,⟨some 8, none,.len (.t 7)⟩,⟨some 9, none,.bin .lss (.t 8) (.c (vi 2))⟩] [0,1,9] []
def z135r2:IC:=.reg [⟨some 10, none,.mv (.t 1)⟩,⟨some 4, none,.asgm (.t 10)⟩] [1,4] []
def z135r3:IC:=.reg [⟨some 11, none,.mv (.t 0)⟩,⟨some 12, none,.bsl 1 [(vi 0)] 5 [(0,(.c (vi 0))),(1,(.c (vi 1))),(2,(.c (vi 2))),(3,(.c (vi 2))),(4,(.c (vi 3)))]⟩,⟨some 13, none,.call zl139 [(.val,(.t 11)),(.rd,(.t 12))] false⟩,⟨some 5, none,.asg (.t 13)⟩] [0,1,5] []
def z135r4:IC:=.reg [⟨some 14, none,.mv (.t 5)⟩,⟨some 15, none,.bin .gtr (.t 14) (.c (vi 0))⟩] [0,1,5,15] []
def z135r5:IC:=.reg [⟨some 18, none,.mv (.t 0)⟩,⟨some 19, none,.mv (.t 1)⟩,⟨some 20, none,.len (.t 19)⟩,⟨some 21, none,.call zl140 [(.val,(.t 18)),(.val,(.t 20))] false⟩,⟨some 6, none,.asg (.t 21)⟩] [0,1,5,6] []
def z135r6:IC:=.reg [⟨some 22, none,.mv (.t 1)⟩,⟨some 23, none,.mv (.t 6)⟩,⟨some 24, none,.mv (.t 1)⟩,⟨some 25, none,.mv (.t 6)⟩,⟨some 26, none,.iadr 1 (.t 24) (.t 25)⟩,⟨some 27, none,.load false 1 (.t 26)⟩,⟨some 28, none,.mv (.t 0)⟩,⟨some 29, none,.bsl 1 [(vi 0)] 4 [(0,(.c (vi 1))),(1,(.c (vi (-1)))),(2,(.c (vi 1))),(3,(.c (vi 2)))]⟩,⟨some 30, none,.call zl139 [(.val,(.t 28)),(.rd,(.t 29))] false⟩,⟨some 31, none,.bin .add (.t 27) (.t 30)⟩,⟨some 32, none,.minmax false (.t 31) (.c (vi 0))⟩,⟨some 33, none,.mv (.t 1)⟩,⟨some 34, none,.len (.t 33)⟩,⟨some 35, none,.bin .sub (.t 34) (.c (vi 1))⟩,⟨some 36, none,.minmax true (.t 32) (.t 35)⟩,⟨some 37, none,.iadr 1 (.t 22) (.t 23)⟩,⟨none,none,.store 1 (.t 37) (.t 36)⟩] [0,1,5] [[0,1,2,3,4,6,7,5,8,9,10,11,12,13,14,15,16],[0,1,2,3,4,6,7,8,5,9,10,11,12,13,14,15,16]]
def z135r7:IC:=.reg [⟨some 16, none,.mv (.t 5)⟩,⟨some 17, none,.bin .sub (.t 16) (.c (vi 1))⟩,⟨some 5, none,.asg (.t 17)⟩] [0,1,5] []
def z135l8:IC:=(.seq (.seq z135r4 (.cond (.t 15) .skip (.exit 0))) (.seq (.block 1 (.seq z135r5 z135r6)) z135r7))
def z135r9:IC:=.reg [⟨some 38, none,.mv (.t 1)⟩,⟨some 4, none,.asgm (.t 38)⟩] [1,4] []
def zi135:IFun:=⟨[.t 4],[],(.seq z135r0 (.seq (.seq z135r1 (.cond (.t 9) (.seq z135r2 .ret) .skip)) (.seq (.seq z135r3 (.block 0 (.loop z135l8))) (.seq z135r9 .ret))))⟩
def z137r0:IC:=.reg [⟨some 2, none,.asg (.c (.pointer none))⟩] [0] []
def z137r1:IC:=.reg [⟨some 3, none,.mv (.t 0)⟩,⟨some 4, none,.len (.t 3)⟩,⟨some 5, none,.bin .gtr (.t 4) (.c (vi 2000))⟩] [0,5] []
def z137r2:IC:=.reg [⟨some 6, none,.mv (.t 0)⟩,⟨some 7, none,.slc 1 (.t 6) none (some (.c (vi 2000))) none⟩,⟨some 0, none,.asgm (.t 7)⟩] [0] []
def z137r3:IC:=.reg [⟨some 8, none,.mv (.t 0)⟩,⟨some 9, none,.build [(.slice none 0 0),(vi 0)] [(0,1,(.t 8))]⟩,⟨some 10, none,.box (.t 9)⟩,⟨some 2, none,.asg (.t 10)⟩] [2] []
def zi137:IFun:=⟨[.t 2],[],(.seq z137r0 (.seq (.seq z137r1 (.cond (.t 5) z137r2 .skip)) (.seq z137r3 .ret)))⟩
def z138r0:IC:=.reg [⟨some 2, none,.asg (.c (.slice none 0 0))⟩] [0] []
def z138r1:IC:=.reg [⟨some 6, none,.bsl 2 [(vi 0),(vi 0)] 0 []⟩,⟨some 3, none,.asg (.t 6)⟩] [0,3] []
def z138r2:IC:=.reg [⟨some 4, none,.asg (.c (vi 0))⟩] [0,3,4] []
def z138r3:IC:=.reg [⟨some 7, none,.mv (.t 4)⟩,⟨some 8, none,.mv (.t 0)⟩,⟨some 9, none,.bin .lss (.t 7) (.t 8)⟩] [0,3,4,9] []
def z138r4:IC:=.reg [⟨some 12, none,.mv (.t 4)⟩,⟨some 13, none,.bin .add (.t 12) (.c (vi 1))⟩,⟨some 5, none,.asg (.t 13)⟩] [0,3,4,5] []
def z138r5:IC:=.reg [⟨some 14, none,.mv (.t 5)⟩,⟨some 15, none,.mv (.t 0)⟩,⟨some 16, none,.bin .lss (.t 14) (.t 15)⟩] [0,3,4,5,16] []
def z138r6:IC:=.reg [⟨some 19, none,.mv (.t 3)⟩,⟨some 20, none,.mv (.t 4)⟩,⟨some 21, none,.mv (.t 5)⟩,⟨some 22, none,.build [(vi 0),(vi 0)] [(0,1,(.t 20)),(1,1,(.t 21))]⟩,⟨some 23, none,.bsl 2 [(vi 0),(vi 0)] 1 [(0,(.t 22))]⟩,⟨some 24, none,.app 2 (.t 19) (.t 23)⟩,⟨some 3, none,.asg (.t 24)⟩] [0,3,4,5] []
def z138r7:IC:=.reg [⟨some 17, none,.mv (.t 5)⟩,⟨some 18, none,.bin .add (.t 17) (.c (vi 1))⟩,⟨some 5, none,.asg (.t 18)⟩] [0,3,4,5] []
def z138l8:IC:=(.seq (.seq z138r5 (.cond (.t 16) .skip (.exit 2))) (.seq (.block 3 z138r6) z138r7))
def z138r9:IC:=.reg [⟨some 10, none,.mv (.t 4)⟩,⟨some 11, none,.bin .add (.t 10) (.c (vi 1))⟩,⟨some 4, none,.asg (.t 11)⟩] [0,3,4] []
def z138l10:IC:=(.seq (.seq z138r3 (.cond (.t 9) .skip (.exit 0))) (.seq (.block 1 (.seq z138r4 (.block 2 (.loop z138l8)))) z138r9))
def z138r11:IC:=.reg [⟨some 25, none,.mv (.t 3)⟩,⟨some 2, none,.asgm (.t 25)⟩] [2,3] []
def zi138:IFun:=⟨[.t 2],[],(.seq z138r0 (.seq z138r1 (.seq (.seq z138r2 (.block 0 (.loop z138l10))) (.seq z138r11 .ret))))⟩
def z592r0:IC:=.reg [⟨some 3, none,.box (.t 1)⟩,⟨some 4, none,.alloc [(vi 0),(.slice none 0 0)]⟩,⟨some 5, none,.asg (.c (.slice none 0 0))⟩] [0,3,4] []
def z592r1:IC:=.reg [⟨some 10, none,.load true 2 (.t 3)⟩,⟨some 11, none,.call zl145 [(.rd,(.t 10))] true⟩,⟨some 12, none,.unop .not (.t 11)⟩] [0,3,4,12] []
def z592r2:IC:=.reg [⟨some 13, none,.load true 2 (.t 3)⟩,⟨some 14, none,.bsl 1 [(vi 0)] 0 []⟩,⟨none,none,.store 2 (.t 4) (.t 13)⟩,⟨some 5, none,.asg (.t 14)⟩] [4,5,8] []
def z592r3:IC:=.reg [⟨some 15, none,.fadr 0 (.t 3)⟩,⟨some 16, none,.load false 1 (.t 15)⟩,⟨some 17, none,.bsl 2 [(vi 0),(vi 0)] 0 []⟩,⟨some 18, none,.build [(vi 0),(.slice none 0 0)] [(0,1,(.t 16)),(1,1,(.t 17))]⟩,⟨some 6, none,.alloc [(vi 0),(.slice none 0 0)]⟩,⟨none,none,.store 2 (.t 6) (.t 18)⟩] [0,3,4,6] []
def z592r4:IC:=.reg [⟨some 7, none,.asg (.c (vi 0))⟩] [0,3,4,6,7] []
def z592r5:IC:=.reg [⟨some 19, none,.mv (.t 7)⟩,⟨some 20, none,.fadr 1 (.t 3)⟩,⟨some 21, none,.load false 1 (.t 20)⟩,⟨some 22, none,.len (.t 21)⟩,⟨some 23, none,.bin .lss (.t 19) (.t 22)⟩] [0,3,4,6,7,23] []
def z592r6:IC:=.reg [⟨some 26, none,.mv (.t 0)⟩,⟨some 27, none,.call zl140 [(.val,(.t 26)),(.val,(.c (vi 2)))] false⟩,⟨some 28, none,.bin .eql (.t 27) (.c (vi 0))⟩] [0,3,4,6,7,28] []
def z592r7:IC:=.reg [⟨some 29, none,.fadr 1 (.t 6)⟩,⟨some 30, none,.load false 1 (.t 29)⟩,⟨some 31, none,.fadr 1 (.t 3)⟩,⟨some 32, none,.load false 1 (.t 31)⟩,⟨some 33, none,.mv (.t 7)⟩,⟨some 34, none,.iadr 2 (.t 32) (.t 33)⟩,⟨some 35, none,.load true 2 (.t 34)⟩,⟨some 36, none,.bsl 2 [(vi 0),(vi 0)] 1 [(0,(.t 35))]⟩,⟨some 37, none,.app 2 (.t 30) (.t 36)⟩,⟨some 38, none,.fadr 1 (.t 6)⟩,⟨none,none,.store 1 (.t 38) (.t 37)⟩] [0,3,4,6,7] [[0,2,3,4,5,6,7,1,8,9,10]]
def z592r8:IC:=.reg [⟨some 24, none,.mv (.t 7)⟩,⟨some 25, none,.bin .add (.t 24) (.c (vi 1))⟩,⟨some 7, none,.asg (.t 25)⟩] [0,3,4,6,7] []
def z592l9:IC:=(.seq (.seq z592r5 (.cond (.t 23) .skip (.exit 0))) (.seq (.block 1 (.seq z592r6 (.cond (.t 28) z592r7 .skip))) z592r8))
def z592r10:IC:=.reg [⟨some 39, none,.load true 2 (.t 6)⟩,⟨some 40, none,.call zl125 [(.rd,(.t 39))] true⟩,⟨some 8, none,.asg (.t 40)⟩] [0,3,4,8] []
def z592r11:IC:=.reg [⟨some 41, none,.mv (.t 0)⟩,⟨some 42, none,.call zl140 [(.val,(.t 41)),(.val,(.c (vi 6)))] false⟩] [0,3,4,8,42] []
def z592r12:IC:=.reg [⟨some 44, none,.bin .eql (.t 42) (.c (vi 0))⟩,⟨some 43, none,.asg (.t 44)⟩] [0,3,4,8,42,43] []
def z592r13:IC:=.reg [⟨some 45, none,.load true 2 (.t 3)⟩,⟨some 46, none,.mv (.t 0)⟩,⟨some 47, none,.mv (.t 8)⟩,⟨some 48, none,.call zl135 [(.val,(.t 46)),(.tk,(.t 47))] false⟩,⟨none,none,.store 2 (.t 4) (.t 45)⟩,⟨some 5, none,.asg (.t 48)⟩] [4,5,8] [[1,2,3,0,4,5]]
def z592r14:IC:=.reg [⟨some 50, none,.bin .eql (.t 42) (.c (vi 1))⟩,⟨some 49, none,.asg (.t 50)⟩] [0,3,4,8,42,49] []
def z592r15:IC:=.reg [⟨some 9, none,.asg (.c (vi 0))⟩] [3,4,8,9] []
def z592r16:IC:=.reg [⟨some 51, none,.mv (.t 9)⟩,⟨some 52, none,.mv (.t 8)⟩,⟨some 53, none,.len (.t 52)⟩,⟨some 54, none,.bin .lss (.t 51) (.t 53)⟩] [3,4,8,9,54] []
def z592r17:IC:=.reg [⟨some 57, none,.mv (.t 8)⟩,⟨some 58, none,.mv (.t 9)⟩,⟨some 59, none,.mv (.t 8)⟩,⟨some 60, none,.len (.t 59)⟩,⟨some 61, none,.bin .sub (.t 60) (.c (vi 1))⟩,⟨some 62, none,.minmax true (.c (vi 1)) (.t 61)⟩,⟨some 63, none,.iadr 1 (.t 57) (.t 58)⟩,⟨none,none,.store 1 (.t 63) (.t 62)⟩] [3,4,8,9] []
def z592r18:IC:=.reg [⟨some 55, none,.mv (.t 9)⟩,⟨some 56, none,.bin .add (.t 55) (.c (vi 1))⟩,⟨some 9, none,.asg (.t 56)⟩] [3,4,8,9] []
def z592l19:IC:=(.seq (.seq z592r16 (.cond (.t 54) .skip (.exit 3))) (.seq (.block 4 z592r17) z592r18))
def z592r20:IC:=.reg [⟨some 65, none,.bin .eql (.t 42) (.c (vi 2))⟩,⟨some 64, none,.asg (.t 65)⟩] [0,3,4,8,64] []
def z592r21:IC:=.reg [⟨some 66, none,.load true 2 (.t 3)⟩,⟨some 67, none,.mv (.t 0)⟩,⟨some 68, none,.mv (.t 8)⟩,⟨some 69, none,.call zl121 [(.val,(.t 67)),(.tk,(.t 68))] false⟩,⟨none,none,.store 2 (.t 4) (.t 66)⟩,⟨some 5, none,.asg (.t 69)⟩] [4,5,8] [[1,2,3,0,4,5]]
def z592r22:IC:=.reg [⟨some 70, none,.load true 2 (.t 3)⟩,⟨some 71, none,.mv (.t 8)⟩,⟨none,none,.store 2 (.t 4) (.t 70)⟩,⟨some 5, none,.asgm (.t 71)⟩] [4,5,8] []
def zi592:IFun:=⟨[.c 4 2 true,.t 5],[],(.seq z592r0 (.seq (.seq z592r1 (.cond (.t 12) (.seq z592r2 .ret) .skip)) (.seq z592r3 (.seq (.seq z592r4 (.block 0 (.loop z592l9))) (.seq z592r10 (.seq (.seq z592r11 (.block 2 (.seq z592r12 (.cond (.t 43) (.seq z592r13 .ret) (.seq z592r14 (.cond (.t 49) (.seq z592r15 (.block 3 (.loop z592l19))) (.seq z592r20 (.cond (.t 64) (.seq z592r21 .ret) .skip)))))))) (.seq z592r22 .ret)))))))⟩
def z139r0:IC:=.reg [⟨some 4, none,.asg (.c (vi 0))⟩] [0,1] []
def z139r1:IC:=.reg [⟨some 5, none,.mv (.t 1)⟩,⟨some 6, none,.mv (.t 0)⟩,⟨some 7, none,.mv (.t 1)⟩,⟨some 8, none,.len (.t 7)⟩,⟨some 9, none,.call zl140 [(.val,(.t 6)),(.val,(.t 8))] false⟩,⟨some 10, none,.iadr 1 (.t 5) (.t 9)⟩,⟨some 11, none,.load false 1 (.t 10)⟩,⟨some 4, none,.asg (.t 11)⟩] [4] []
def zi139:IFun:=⟨[.t 4],[],(.seq z139r0 (.seq z139r1 .ret))⟩
def z140r0:IC:=.reg [⟨some 4, none,.asg (.c (vi 0))⟩] [0,1] []
def z140r1:IC:=.reg [⟨some 7, none,.mv (.t 0)⟩,⟨some 8, none,.mv (.t 0)⟩,⟨some 9, none,.nilck (.t 8)⟩,⟨some 10, none,.fadr 1 (.t 9)⟩,⟨some 11, none,.load false 1 (.t 10)⟩,⟨some 12, none,.bin .add (.t 11) (.c (vi 1))⟩,⟨some 13, none,.nilck (.t 7)⟩,⟨some 14, none,.fadr 1 (.t 13)⟩,⟨none,none,.store 1 (.t 14) (.t 12)⟩] [0,1] []
def z140r2:IC:=.reg [⟨some 15, none,.mv (.t 1)⟩,⟨some 16, none,.bin .lss (.t 15) (.c (vi 1))⟩,⟨some 17, none,.asg (.t 16)⟩,⟨some 18, (some (17,false)),.mv (.t 0)⟩,⟨some 19, (some (17,false)),.nilck (.t 18)⟩,⟨some 20, (some (17,false)),.fadr 0 (.t 19)⟩,⟨some 21, (some (17,false)),.load false 1 (.t 20)⟩,⟨some 22, (some (17,false)),.len (.t 21)⟩,⟨some 23, (some (17,false)),.bin .eql (.t 22) (.c (vi 0))⟩,⟨some 24, none,.pick (.t 17) (.c (.bool true)) (.t 23)⟩] [0,1,24] []
def z140r3:IC:=.reg [⟨some 4, none,.asg (.c (vi 0))⟩] [4] []
def z140r4:IC:=.reg [⟨some 25, none,.mv (.t 0)⟩,⟨some 26, none,.nilck (.t 25)⟩,⟨some 27, none,.fadr 1 (.t 26)⟩,⟨some 28, none,.load false 1 (.t 27)⟩,⟨some 29, none,.bin .sub (.t 28) (.c (vi 1))⟩,⟨some 5, none,.asg (.t 29)⟩] [0,1,5] []
def z140r5:IC:=.reg [⟨some 30, none,.mv (.t 5)⟩,⟨some 31, none,.mv (.t 0)⟩,⟨some 32, none,.nilck (.t 31)⟩,⟨some 33, none,.fadr 0 (.t 32)⟩,⟨some 34, none,.load false 1 (.t 33)⟩,⟨some 35, none,.len (.t 34)⟩,⟨some 36, none,.bin .lss (.t 30) (.t 35)⟩] [0,1,5,36] []
def z140r6:IC:=.reg [⟨some 37, none,.mv (.t 0)⟩,⟨some 38, none,.nilck (.t 37)⟩,⟨some 39, none,.fadr 0 (.t 38)⟩,⟨some 40, none,.load false 1 (.t 39)⟩,⟨some 41, none,.mv (.t 5)⟩,⟨some 42, none,.iadr 1 (.t 40) (.t 41)⟩,⟨some 43, none,.load false 1 (.t 42)⟩,⟨some 44, none,.conv .i64 (.t 43)⟩,⟨some 45, none,.mv (.t 1)⟩,⟨some 46, none,.bin .rem (.t 44) (.t 45)⟩,⟨some 4, none,.asg (.t 46)⟩] [4] []
def z140r7:IC:=.reg [⟨some 47, none,.mv (.t 0)⟩,⟨some 48, none,.nilck (.t 47)⟩,⟨some 49, none,.fadr 0 (.t 48)⟩,⟨some 50, none,.load false 1 (.t 49)⟩,⟨some 51, none,.mv (.t 5)⟩,⟨some 52, none,.mv (.t 0)⟩,⟨some 53, none,.nilck (.t 52)⟩,⟨some 54, none,.fadr 0 (.t 53)⟩,⟨some 55, none,.load false 1 (.t 54)⟩,⟨some 56, none,.len (.t 55)⟩,⟨some 57, none,.bin .rem (.t 51) (.t 56)⟩,⟨some 58, none,.iadr 1 (.t 50) (.t 57)⟩,⟨some 59, none,.load false 1 (.t 58)⟩,⟨some 60, none,.conv .i64 (.t 59)⟩,⟨some 61, none,.bin .mul (.t 60) (.c (vi 131))⟩,⟨some 62, none,.mv (.t 0)⟩,⟨some 63, none,.nilck (.t 62)⟩,⟨some 64, none,.fadr 0 (.t 63)⟩,⟨some 65, none,.load false 1 (.t 64)⟩,⟨some 66, none,.mv (.t 5)⟩,⟨some 67, none,.bin .mul (.t 66) (.c (vi 7))⟩,⟨some 68, none,.bin .add (.t 67) (.c (vi 3))⟩,⟨some 69, none,.mv (.t 0)⟩,⟨some 70, none,.nilck (.t 69)⟩,⟨some 71, none,.fadr 0 (.t 70)⟩,
    ⟨some 72, none,.load false 1 (.t 71)⟩,⟨some 73, none,.len (.t 72)⟩,⟨some 74, none,.bin .rem (.t 68) (.t 73)⟩,⟨some 75, none,.iadr 1 (.t 65) (.t 74)⟩,⟨some 76, none,.load false 1 (.t 75)⟩,⟨some 77, none,.conv .i64 (.t 76)⟩,⟨some 78, none,.bin .mul (.t 77) (.c (vi 1117))⟩,⟨some 79, none,.bin .add (.t 61) (.t 78)⟩,⟨some 80, none,.mv (.t 5)⟩,⟨some 81, none,.bin .mul (.t 80) (.c (vi 29))⟩,⟨some 82, none,.bin .add (.t 79) (.t 81)⟩,⟨some 83, none,.mv (.t 5)⟩,⟨some 84, none,.mv (.t 0)⟩,⟨some 85, none,.nilck (.t 84)⟩,⟨some 86, none,.fadr 0 (.t 85)⟩,⟨some 87, none,.load false 1 (.t 86)⟩,⟨some 88, none,.len (.t 87)⟩,⟨some 89, none,.bin .quo (.t 83) (.t 88)⟩,⟨some 90, none,.bin .mul (.t 89) (.c (vi 53))⟩,⟨some 91, none,.bin .add (.t 82) (.t 90)⟩,⟨some 6, none,.asg (.t 91)⟩] [1,6] []
def z140r8:IC:=.reg [⟨some 92, none,.mv (.t 6)⟩,⟨some 93, none,.mv (.t 6)⟩,⟨some 94, none,.bin .quo (.t 93) (.c (vi 64))⟩,⟨some 95, none,.bin .xor (.t 92) (.t 94)⟩,⟨some 6, none,.asg (.t 95)⟩] [1,6] []
def z140r9:IC:=.reg [⟨some 96, none,.mv (.t 6)⟩,⟨some 97, none,.mv (.t 1)⟩,⟨some 98, none,.bin .rem (.t 96) (.t 97)⟩,⟨some 4, none,.asg (.t 98)⟩] [4] []
def zi140:IFun:=⟨[.t 4],[],(.seq z140r0 (.seq z140r1 (.seq (.seq z140r2 (.cond (.t 24) (.seq z140r3 .ret) .skip)) (.seq z140r4 (.seq (.seq z140r5 (.cond (.t 36) (.seq z140r6 .ret) .skip)) (.seq z140r7 (.seq z140r8 (.seq z140r9 .ret))))))))⟩
def z369r0:IC:=.reg [⟨some 2, none,.asg (.c (.slice none 0 0))⟩] [0] []
def z369r1:IC:=.reg [⟨some 3, none,.mv (.t 0)⟩,⟨some 4, none,.len (.t 3)⟩,⟨some 5, none,.bsl 2 [(vi 0),(vi 0)] 0 []⟩,⟨some 6, none,.build [(vi 0),(.slice none 0 0)] [(0,1,(.t 4)),(1,1,(.t 5))]⟩,⟨some 7, none,.mv (.t 0)⟩,⟨some 8, none,.mv (.t 0)⟩,⟨some 9, none,.len (.t 8)⟩,⟨some 10, none,.call zl138 [(.val,(.t 9))] true⟩,⟨some 11, none,.call zl373 [(.rd,(.t 6)),(.rd,(.t 7)),(.rd,(.t 10)),(.val,(.c (vi 0)))] true⟩,⟨some 2, none,.asg (.t 11)⟩] [2] []
def zi369:IFun:=⟨[.t 2],[],(.seq z369r0 (.seq z369r1 .ret))⟩
def z373r0:IC:=.reg [⟨some 4, none,.box (.t 0)⟩,⟨some 8, none,.asg (.c (.slice none 0 0))⟩] [1,2,3,4] []
def z373r1:IC:=.reg [⟨some 12, none,.mv (.t 3)⟩,⟨some 13, none,.mv (.t 2)⟩,⟨some 14, none,.len (.t 13)⟩,⟨some 15, none,.bin .eql (.t 12) (.t 14)⟩] [1,2,3,4,15] []
def z373r2:IC:=.reg [⟨some 16, none,.asgm (.t 1)⟩,⟨some 17, none,.call zl382 [(.rd,(.t 16))] true⟩,⟨some 18, none,.bin .eql (.t 17) (.c (vi 0))⟩] [4,18] []
def z373r3:IC:=.reg [⟨some 19, none,.load true 2 (.t 4)⟩,⟨some 20, none,.bsl 2 [(vi 0),(.slice none 0 0)] 1 [(0,(.t 19))]⟩,⟨some 8, none,.asg (.t 20)⟩] [8,10] []
def z373r4:IC:=.reg [⟨some 21, none,.bsl 2 [(vi 0),(.slice none 0 0)] 0 []⟩,⟨some 8, none,.asg (.t 21)⟩] [8,10] []
def z373r5:IC:=.reg [⟨some 22, none,.mv (.t 2)⟩,⟨some 23, none,.mv (.t 3)⟩,⟨some 24, none,.iadr 2 (.t 22) (.t 23)⟩,⟨some 25, none,.load true 2 (.t 24)⟩,⟨some 9, none,.alloc [(vi 0),(vi 0)]⟩,⟨none,none,.store 2 (.t 9) (.t 25)⟩] [1,2,3,4,9] []
def z373r6:IC:=.reg [⟨some 26, none,.bsl 2 [(vi 0),(.slice none 0 0)] 0 []⟩,⟨some 10, none,.asg (.t 26)⟩] [1,2,3,4,9,10] []
def z373r7:IC:=.reg [⟨some 27, none,.mv (.t 1)⟩,⟨some 28, none,.fadr 0 (.t 9)⟩,⟨some 29, none,.load false 1 (.t 28)⟩,⟨some 30, none,.iadr 1 (.t 27) (.t 29)⟩,⟨some 31, none,.load false 1 (.t 30)⟩,⟨some 32, none,.bin .gtr (.t 31) (.c (vi 0))⟩,⟨some 33, none,.asg (.t 32)⟩,⟨some 34, (some (33,true)),.mv (.t 1)⟩,⟨some 35, (some (33,true)),.fadr 1 (.t 9)⟩,⟨some 36, (some (33,true)),.load false 1 (.t 35)⟩,⟨some 37, (some (33,true)),.iadr 1 (.t 34) (.t 36)⟩,⟨some 38, (some (33,true)),.load false 1 (.t 37)⟩,⟨some 39, (some (33,true)),.bin .gtr (.t 38) (.c (vi 0))⟩,⟨some 40, none,.pick (.t 33) (.t 39) (.c (.bool false))⟩] [1,2,3,4,9,10,40] []
def z373r8:IC:=.reg [⟨some 41, none,.mv (.t 1)⟩,⟨some 42, none,.call zl123 [(.rd,(.t 41))] true⟩,⟨some 11, none,.asg (.t 42)⟩] [1,2,3,4,9,10,11] []
def z373r9:IC:=.reg [⟨some 43, none,.mv (.t 11)⟩,⟨some 44, none,.fadr 0 (.t 9)⟩,⟨some 45, none,.load false 1 (.t 44)⟩,⟨some 46, none,.mv (.t 11)⟩,⟨some 47, none,.fadr 0 (.t 9)⟩,⟨some 48, none,.load false 1 (.t 47)⟩,⟨some 49, none,.iadr 1 (.t 46) (.t 48)⟩,⟨some 50, none,.load false 1 (.t 49)⟩,⟨some 51, none,.bin .sub (.t 50) (.c (vi 1))⟩,⟨some 52, none,.iadr 1 (.t 43) (.t 45)⟩,⟨none,none,.store 1 (.t 52) (.t 51)⟩] [1,2,3,4,9,10,11] []
def z373r10:IC:=.reg [⟨some 53, none,.mv (.t 11)⟩,⟨some 54, none,.fadr 1 (.t 9)⟩,⟨some 55, none,.load false 1 (.t 54)⟩,⟨some 56, none,.mv (.t 11)⟩,⟨some 57, none,.fadr 1 (.t 9)⟩,⟨some 58, none,.load false 1 (.t 57)⟩,⟨some 59, none,.iadr 1 (.t 56) (.t 58)⟩,⟨some 60, none,.load false 1 (.t 59)⟩,⟨some 61, none,.bin .sub (.t 60) (.c (vi 1))⟩,⟨some 62, none,.iadr 1 (.t 53) (.t 55)⟩,⟨none,none,.store 1 (.t 62) (.t 61)⟩] [1,2,3,4,9,10,11] []
def z373r11:IC:=.reg [⟨some 63, none,.mv (.t 10)⟩,⟨some 64, none,.load true 2 (.t 4)⟩,⟨some 65, none,.fadr 0 (.t 9)⟩,⟨some 66, none,.load false 1 (.t 65)⟩,⟨some 67, none,.fadr 1 (.t 9)⟩,⟨some 68, none,.load false 1 (.t 67)⟩,⟨some 69, none,.call zl335 [(.rd,(.t 64)),(.val,(.t 66)),(.val,(.t 68))] true⟩,⟨some 70, none,.asgm (.t 11)⟩,⟨some 71, none,.mv (.t 2)⟩,⟨some 72, none,.mv (.t 3)⟩,⟨some 73, none,.bin .add (.t 72) (.c (vi 1))⟩,⟨some 74, none,.call zl373 [(.rd,(.t 69)),(.rd,(.t 70)),(.rd,(.t 71)),(.val,(.t 73))] true⟩,⟨some 75, none,.app 2 (.t 63) (.t 74)⟩,⟨some 10, none,.asg (.t 75)⟩] [1,2,3,4,9,10] []
def z373r12:IC:=.reg [⟨some 76, none,.fadr 1 (.t 9)⟩,⟨some 77, none,.load false 1 (.t 76)⟩,⟨some 78, none,.bin .add (.t 77) (.c (vi 1))⟩,⟨some 79, none,.fadr 0 (.t 4)⟩,⟨some 80, none,.load false 1 (.t 79)⟩,⟨some 81, none,.bin .lss (.t 78) (.t 80)⟩,⟨some 82, none,.asg (.t 81)⟩,⟨some 83, (some (82,false)),.mv (.t 1)⟩,⟨some 84, (some (82,false)),.fadr 0 (.t 9)⟩,⟨some 85, (some (82,false)),.load false 1 (.t 84)⟩,⟨some 86, (some (82,false)),.iadr 1 (.t 83) (.t 85)⟩,⟨some 87, (some (82,false)),.load false 1 (.t 86)⟩,⟨some 88, (some (82,false)),.bin .eql (.t 87) (.c (vi 0))⟩,⟨some 89, none,.pick (.t 82) (.c (.bool true)) (.t 88)⟩] [1,2,3,4,10,89] []
def z373r13:IC:=.reg [⟨some 90, none,.mv (.t 10)⟩,⟨some 91, none,.load true 2 (.t 4)⟩,⟨some 92, none,.asgm (.t 1)⟩,⟨some 93, none,.asgm (.t 2)⟩,⟨some 94, none,.mv (.t 3)⟩,⟨some 95, none,.bin .add (.t 94) (.c (vi 1))⟩,⟨some 96, none,.call zl373 [(.rd,(.t 91)),(.rd,(.t 92)),(.rd,(.t 93)),(.val,(.t 95))] true⟩,⟨some 97, none,.app 2 (.t 90) (.t 96)⟩,⟨some 10, none,.asg (.t 97)⟩] [10] []
def z373r14:IC:=.reg [⟨some 98, none,.mv (.t 10)⟩,⟨some 8, none,.asgm (.t 98)⟩] [8,10] []
def zi373:IFun:=⟨[.t 8],[],(.seq z373r0 (.seq (.seq z373r1 (.cond (.t 15) (.seq (.seq z373r2 (.cond (.t 18) (.seq z373r3 .ret) .skip)) (.seq z373r4 .ret)) .skip)) (.seq z373r5 (.seq z373r6 (.seq (.seq z373r7 (.cond (.t 40) (.seq z373r8 (.seq z373r9 (.seq z373r10 z373r11))) .skip)) (.seq (.seq z373r12 (.cond (.t 89) z373r13 .skip)) (.seq z373r14 .ret)))))))⟩
def z375r0:IC:=.reg [⟨some 2, none,.alloc [(vi 0),(.slice none 0 0)]⟩] [0,2] []
def z375r1:IC:=.reg [⟨some 3, none,.mv (.t 0)⟩,⟨some 4, none,.mv (.t 0)⟩,⟨some 5, none,.bsl 1 [(vi 0)] 6 [(0,(.c (vi 5))),(1,(.c (vi 4))),(2,(.c (vi 5))),(3,(.c (vi 3))),(4,(.c (vi 2))),(5,(.c (vi 1)))]⟩,⟨some 6, none,.call zl139 [(.val,(.t 4)),(.rd,(.t 5))] false⟩,⟨some 7, none,.call zl118 [(.val,(.t 3)),(.val,(.t 6))] false⟩,⟨none,none,.store 2 (.t 2) (.t 7)⟩] [2] []
def zi375:IFun:=⟨[.c 2 2 true],[],(.seq z375r0 (.seq z375r1 .ret))⟩
def z382r0:IC:=.reg [⟨some 2, none,.asg (.c (vi 0))⟩] [0] []
def z382r1:IC:=.reg [⟨some 3, none,.asg (.c (vi 0))⟩] [0,3] []
def z382r2:IC:=.reg [⟨some 4, none,.asg (.c (vi 0))⟩] [0,3,4] []
def z382r3:IC:=.reg [⟨some 5, none,.mv (.t 4)⟩,⟨some 6, none,.mv (.t 0)⟩,⟨some 7, none,.len (.t 6)⟩,⟨some 8, none,.bin .lss (.t 5) (.t 7)⟩] [0,3,4,8] []
def z382r4:IC:=.reg [⟨some 11, none,.mv (.t 3)⟩,⟨some 12, none,.mv (.t 0)⟩,⟨some 13, none,.mv (.t 4)⟩,⟨some 14, none,.iadr 1 (.t 12) (.t 13)⟩,⟨some 15, none,.load false 1 (.t 14)⟩,⟨some 16, none,.bin .add (.t 11) (.t 15)⟩,⟨some 3, none,.asg (.t 16)⟩] [0,3,4] []
def z382r5:IC:=.reg [⟨some 9, none,.mv (.t 4)⟩,⟨some 10, none,.bin .add (.t 9) (.c (vi 1))⟩,⟨some 4, none,.asg (.t 10)⟩] [0,3,4] []
def z382l6:IC:=(.seq (.seq z382r3 (.cond (.t 8) .skip (.exit 0))) (.seq (.block 1 z382r4) z382r5))
def z382r7:IC:=.reg [⟨some 17, none,.mv (.t 3)⟩,⟨some 2, none,.asgm (.t 17)⟩] [2] []
def zi382:IFun:=⟨[.t 2],[],(.seq z382r0 (.seq z382r1 (.seq (.seq z382r2 (.block 0 (.loop z382l6))) (.seq z382r7 .ret))))⟩
def z144r0:IC:=.reg [⟨some 2, none,.asg (.c (.bool false))⟩] [0] []
def z144r1:IC:=.reg [⟨some 3, none,.asg (.c (vi 0))⟩] [0,3] []
def z144r2:IC:=.reg [⟨some 4, none,.mv (.t 3)⟩,⟨some 5, none,.mv (.t 0)⟩,⟨some 6, none,.len (.t 5)⟩,⟨some 7, none,.bin .lss (.t 4) (.t 6)⟩] [0,3,7] []
def z144r3:IC:=.reg [⟨some 10, none,.mv (.t 0)⟩,⟨some 11, none,.mv (.t 3)⟩,⟨some 12, none,.iadr 1 (.t 10) (.t 11)⟩,⟨some 13, none,.load false 1 (.t 12)⟩,⟨some 14, none,.mv (.t 0)⟩,⟨some 15, none,.len (.t 14)⟩,⟨some 16, none,.bin .sub (.t 15) (.c (vi 1))⟩,⟨some 17, none,.call zl132 [(.val,(.t 13)),(.val,(.c (vi 0))),(.val,(.t 16))] true⟩,⟨some 18, none,.unop .not (.t 17)⟩] [0,3,18] []
def z144r4:IC:=.reg [⟨some 2, none,.asg (.c (.bool false))⟩] [2] []
def z144r5:IC:=.reg [⟨some 8, none,.mv (.t 3)⟩,⟨some 9, none,.bin .add (.t 8) (.c (vi 1))⟩,⟨some 3, none,.asg (.t 9)⟩] [0,3] []
def z144l6:IC:=(.seq (.seq z144r2 (.cond (.t 7) .skip (.exit 0))) (.seq (.block 1 (.seq z144r3 (.cond (.t 18) (.seq z144r4 .ret) .skip))) z144r5))
def z144r7:IC:=.reg [⟨some 19, none,.mv (.t 0)⟩,⟨some 20, none,.len (.t 19)⟩,⟨some 21, none,.bin .leq (.t 20) (.c (vi 7))⟩,⟨some 2, none,.asg (.t 21)⟩] [2] []
def zi144:IFun:=⟨[.t 2],[],(.seq z144r0 (.seq (.seq z144r1 (.block 0 (.loop z144l6))) (.seq z144r7 .ret)))⟩
def z145r0:IC:=.reg [⟨some 1, none,.box (.t 0)⟩,⟨some 2, none,.asg (.c (.bool false))⟩] [1] []
def z145r1:IC:=.reg [⟨some 3, none,.asg (.c (vi 0))⟩] [1,3] []
def z145r2:IC:=.reg [⟨some 5, none,.mv (.t 3)⟩,⟨some 6, none,.fadr 1 (.t 1)⟩,⟨some 7, none,.load false 1 (.t 6)⟩,⟨some 8, none,.len (.t 7)⟩,⟨some 9, none,.bin .lss (.t 5) (.t 8)⟩] [1,3,9] []
def z145r3:IC:=.reg [⟨some 12, none,.fadr 1 (.t 1)⟩,⟨some 13, none,.load false 1 (.t 12)⟩,⟨some 14, none,.mv (.t 3)⟩,⟨some 15, none,.iadr 2 (.t 13) (.t 14)⟩,⟨some 16, none,.load true 2 (.t 15)⟩,⟨some 4, none,.alloc [(vi 0),(vi 0)]⟩,⟨none,none,.store 2 (.t 4) (.t 16)⟩] [1,3,4] []
def z145r4:IC:=.reg [⟨some 17, none,.fadr 0 (.t 4)⟩,⟨some 18, none,.load false 1 (.t 17)⟩,⟨some 19, none,.bin .lss (.t 18) (.c (vi 0))⟩,⟨some 20, none,.asg (.t 19)⟩,⟨some 21, (some (20,false)),.fadr 0 (.t 4)⟩,⟨some 22, (some (20,false)),.load false 1 (.t 21)⟩,⟨some 23, (some (20,false)),.fadr 1 (.t 4)⟩,⟨some 24, (some (20,false)),.load false 1 (.t 23)⟩,⟨some 25, (some (20,false)),.bin .geq (.t 22) (.t 24)⟩,⟨some 26, none,.pick (.t 20) (.c (.bool true)) (.t 25)⟩,⟨some 27, none,.asg (.t 26)⟩,⟨some 28, (some (27,false)),.fadr 1 (.t 4)⟩,⟨some 29, (some (27,false)),.load false 1 (.t 28)⟩,⟨some 30, (some (27,false)),.fadr 0 (.t 1)⟩,⟨some 31, (some (27,false)),.load false 1 (.t 30)⟩,⟨some 32, (some (27,false)),.bin .geq (.t 29) (.t 31)⟩,⟨some 33, none,.pick (.t 27) (.c (.bool true)) (.t 32)⟩,⟨some 34, none,.asg (.t 33)⟩,⟨some 35, (some (34,false)),.mv (.t 3)⟩,
    ⟨some 36, (some (34,false)),.bin .gtr (.t 35) (.c (vi 0))⟩,⟨some 37, (some (34,false)),.asg (.t 36)⟩,⟨some 38, (some (37,true)),.fadr 1 (.t 1)⟩,⟨some 39, (some (37,true)),.load false 1 (.t 38)⟩,⟨some 40, (some (37,true)),.mv (.t 3)⟩,⟨some 41, (some (37,true)),.bin .sub (.t 40) (.c (vi 1))⟩,⟨some 42, (some (37,true)),.iadr 2 (.t 39) (.t 41)⟩,⟨some 43, (some (37,true)),.load true 2 (.t 42)⟩,⟨some 44, (some (37,true)),.load true 2 (.t 4)⟩,⟨some 45, (some (37,true)),.call zl126 [(.val,(.t 43)),(.val,(.t 44))] true⟩,⟨some 46, (some (37,true)),.unop .not (.t 45)⟩,⟨some 47, (some (34,false)),.pick (.t 37) (.t 46) (.c (.bool false))⟩,⟨some 48, none,.pick (.t 34) (.c (.bool true)) (.t 47)⟩] [1,3,48] []
def z145r5:IC:=.reg [⟨some 2, none,.asg (.c (.bool false))⟩] [2] []
def z145r6:IC:=.reg [⟨some 10, none,.mv (.t 3)⟩,⟨some 11, none,.bin .add (.t 10) (.c (vi 1))⟩,⟨some 3, none,.asg (.t 11)⟩] [1,3] []
def z145l7:IC:=(.seq (.seq z145r2 (.cond (.t 9) .skip (.exit 0))) (.seq (.block 1 (.seq z145r3 (.seq z145r4 (.cond (.t 48) (.seq z145r5 .ret) .skip)))) z145r6))
def z145r8:IC:=.reg [⟨some 49, none,.fadr 0 (.t 1)⟩,⟨some 50, none,.load false 1 (.t 49)⟩,⟨some 51, none,.call zl132 [(.val,(.t 50)),(.val,(.c (vi 0))),(.val,(.c (vi 7)))] true⟩,⟨some 2, none,.asg (.t 51)⟩] [2] []
def zi145:IFun:=⟨[.t 2],[],(.seq z145r0 (.seq (.seq z145r1 (.block 0 (.loop z145l7))) (.seq z145r8 .ret)))⟩
def tbl:List (Nat×IFun):=[(zl2,zi2),(zl4,zi4),(zl147,zi147),(zl148,zi148),(zl161,zi161),(zl502,zi502),(zl503,zi503),(zl7,zi7),(zl8,zi8),(zl9,zi9),(zl506,zi506),(zl507,zi507),(zl10,zi10),(zl509,zi509),(zl510,zi510),(zl18,zi18),(zl19,zi19),(zl25,zi25),(zl26,zi26),(zl29,zi29),(zl30,zi30),(zl203,zi203),(zl204,zi204),(zl31,zi31),(zl32,zi32),(zl35,zi35),(zl37,zi37),(zl38,zi38),(zl213,zi213),(zl216,zi216),(zl524,zi524),(zl218,zi218),(zl219,zi219),(zl40,zi40),(zl531,zi531),(zl237,zi237),(zl238,zi238),(zl53,zi53),(zl66,zi66),(zl68,zi68),(zl258,zi258),(zl259,zi259),(zl70,zi70),(zl261,zi261),(zl71,zi71),(zl262,zi262),(zl72,zi72),(zl263,zi263),(zl268,zi268),(zl73,zi73),(zl269,zi269),(zl76,zi76),(zl78,zi78),(zl86,zi86),(zl101,zi101),(zl561,zi561),(zl572,zi572),(zl118,zi118),(zl335,zi335),(zl121,zi121),(zl122,zi122),(zl123,zi123),(zl125,zi125),(zl126,zi126),(zl583,zi583),(zl585,zi585),(zl130,zi130),(zl132,zi132),(zl135,zi135),(zl137,zi137),(zl138,zi138),(zl592,zi592),(zl139,zi139),(zl140,zi140),(zl369,zi369),(zl373,zi373),(zl375,zi375),(zl382,zi382),(zl144,zi144),(zl145,zi145)]
def tb:Tbl:=tbOf tbl
theorem zt2:tb zl2=some zi2:=by kernel_rfl
theorem zt4:tb zl4=some zi4:=by kernel_rfl
theorem zt147:tb zl147=some zi147:=by kernel_rfl
theorem zt148:tb zl148=some zi148:=by kernel_rfl
theorem zt161:tb zl161=some zi161:=by kernel_rfl
theorem zt502:tb zl502=some zi502:=by kernel_rfl
theorem zt503:tb zl503=some zi503:=by kernel_rfl
theorem zt7:tb zl7=some zi7:=by kernel_rfl
theorem zt8:tb zl8=some zi8:=by kernel_rfl
theorem zt9:tb zl9=some zi9:=by kernel_rfl
theorem zt506:tb zl506=some zi506:=by kernel_rfl
theorem zt507:tb zl507=some zi507:=by kernel_rfl
theorem zt10:tb zl10=some zi10:=by kernel_rfl
theorem zt509:tb zl509=some zi509:=by kernel_rfl
theorem zt510:tb zl510=some zi510:=by kernel_rfl
theorem zt18:tb zl18=some zi18:=by kernel_rfl
theorem zt19:tb zl19=some zi19:=by kernel_rfl
theorem zt25:tb zl25=some zi25:=by kernel_rfl
theorem zt26:tb zl26=some zi26:=by kernel_rfl
theorem zt29:tb zl29=some zi29:=by kernel_rfl
theorem zt30:tb zl30=some zi30:=by kernel_rfl
theorem zt203:tb zl203=some zi203:=by kernel_rfl
theorem zt204:tb zl204=some zi204:=by kernel_rfl
theorem zt31:tb zl31=some zi31:=by kernel_rfl
theorem zt32:tb zl32=some zi32:=by kernel_rfl
theorem zt35:tb zl35=some zi35:=by kernel_rfl
theorem zt37:tb zl37=some zi37:=by kernel_rfl
theorem zt38:tb zl38=some zi38:=by kernel_rfl
theorem zt213:tb zl213=some zi213:=by kernel_rfl
theorem zt216:tb zl216=some zi216:=by kernel_rfl
theorem zt524:tb zl524=some zi524:=by kernel_rfl
theorem zt218:tb zl218=some zi218:=by kernel_rfl
theorem zt219:tb zl219=some zi219:=by kernel_rfl
theorem zt40:tb zl40=some zi40:=by kernel_rfl
theorem zt531:tb zl531=some zi531:=by kernel_rfl
theorem zt237:tb zl237=some zi237:=by kernel_rfl
theorem zt238:tb zl238=some zi238:=by kernel_rfl
theorem zt53:tb zl53=some zi53:=by kernel_rfl
theorem zt66:tb zl66=some zi66:=by kernel_rfl
theorem zt68:tb zl68=some zi68:=by kernel_rfl
theorem zt258:tb zl258=some zi258:=by kernel_rfl
theorem zt259:tb zl259=some zi259:=by kernel_rfl
theorem zt70:tb zl70=some zi70:=by kernel_rfl
theorem zt261:tb zl261=some zi261:=by kernel_rfl
theorem zt71:tb zl71=some zi71:=by kernel_rfl
theorem zt262:tb zl262=some zi262:=by kernel_rfl
theorem zt72:tb zl72=some zi72:=by kernel_rfl
theorem zt263:tb zl263=some zi263:=by kernel_rfl
theorem zt268:tb zl268=some zi268:=by kernel_rfl
theorem zt73:tb zl73=some zi73:=by kernel_rfl
theorem zt269:tb zl269=some zi269:=by kernel_rfl
theorem zt76:tb zl76=some zi76:=by kernel_rfl
theorem zt78:tb zl78=some zi78:=by kernel_rfl
theorem zt86:tb zl86=some zi86:=by kernel_rfl
theorem zt101:tb zl101=some zi101:=by kernel_rfl
theorem zt561:tb zl561=some zi561:=by kernel_rfl
theorem zt572:tb zl572=some zi572:=by kernel_rfl
theorem zt118:tb zl118=some zi118:=by kernel_rfl
theorem zt335:tb zl335=some zi335:=by kernel_rfl
theorem zt121:tb zl121=some zi121:=by kernel_rfl
theorem zt122:tb zl122=some zi122:=by kernel_rfl
theorem zt123:tb zl123=some zi123:=by kernel_rfl
theorem zt125:tb zl125=some zi125:=by kernel_rfl
theorem zt126:tb zl126=some zi126:=by kernel_rfl
theorem zt583:tb zl583=some zi583:=by kernel_rfl
theorem zt585:tb zl585=some zi585:=by kernel_rfl
theorem zt130:tb zl130=some zi130:=by kernel_rfl
theorem zt132:tb zl132=some zi132:=by kernel_rfl
theorem zt135:tb zl135=some zi135:=by kernel_rfl
theorem zt137:tb zl137=some zi137:=by kernel_rfl
theorem zt138:tb zl138=some zi138:=by kernel_rfl
theorem zt592:tb zl592=some zi592:=by kernel_rfl
theorem zt139:tb zl139=some zi139:=by kernel_rfl
theorem zt140:tb zl140=some zi140:=by kernel_rfl
theorem zt369:tb zl369=some zi369:=by kernel_rfl
theorem zt373:tb zl373=some zi373:=by kernel_rfl
theorem zt375:tb zl375=some zi375:=by kernel_rfl
theorem zt382:tb zl382=some zi382:=by kernel_rfl
theorem zt144:tb zl144=some zi144:=by kernel_rfl
theorem zt145:tb zl145=some zi145:=by kernel_rfl
end Go.Idl
