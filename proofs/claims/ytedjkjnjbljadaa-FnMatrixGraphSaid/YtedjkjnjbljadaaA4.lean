/- Part 4 of a proof by an ideal interpreter of the code: its definitions and lemmas. Conditions: none. -/
import Derived.KernelRfl
import Derived.Test.YtedjkjnjbljadaaA3
set_option linter.all false
set_option linter.unusedVariables false
set_option linter.unusedSimpArgs false
namespace Go.Idl
open Go
abbrev vi (n:Int):Value:=.int .i64 n
abbrev zl2:Lab:=2
abbrev zl4:Lab:=4
abbrev zl7:Lab:=7
abbrev zl8:Lab:=8
abbrev zl9:Lab:=9
abbrev zl10:Lab:=10
abbrev zl16:Lab:=16
abbrev zl18:Lab:=18
abbrev zl19:Lab:=19
abbrev zl20:Lab:=20
abbrev zl25:Lab:=25
abbrev zl26:Lab:=26
abbrev zl27:Lab:=27
abbrev zl29:Lab:=29
abbrev zl30:Lab:=30
abbrev zl31:Lab:=31
abbrev zl32:Lab:=32
abbrev zl35:Lab:=35
abbrev zl36:Lab:=36
abbrev zl37:Lab:=37
abbrev zl38:Lab:=38
abbrev zl40:Lab:=40
abbrev zl53:Lab:=53
abbrev zl66:Lab:=66
abbrev zl67:Lab:=67
abbrev zl68:Lab:=68
abbrev zl70:Lab:=70
abbrev zl71:Lab:=71
abbrev zl72:Lab:=72
abbrev zl73:Lab:=73
abbrev zl76:Lab:=76
abbrev zl78:Lab:=78
abbrev zl80:Lab:=80
abbrev zl82:Lab:=82
abbrev zl84:Lab:=84
abbrev zl86:Lab:=86
abbrev zl91:Lab:=91
abbrev zl95:Lab:=95
abbrev zl98:Lab:=98
abbrev zl99:Lab:=99
abbrev zl101:Lab:=101
abbrev zl103:Lab:=103
abbrev zl106:Lab:=106
abbrev zl132:Lab:=132
abbrev zl137:Lab:=137
abbrev zl138:Lab:=138
abbrev zl139:Lab:=139
abbrev zl140:Lab:=140
abbrev zl161:Lab:=161
abbrev zl164:Lab:=164
abbrev zl167:Lab:=167
abbrev zl171:Lab:=171
abbrev zl173:Lab:=173
abbrev zl186:Lab:=186
abbrev zl197:Lab:=197
abbrev zl199:Lab:=199
abbrev zl204:Lab:=204
abbrev zl214:Lab:=214
abbrev zl216:Lab:=216
abbrev zl220:Lab:=220
abbrev zl237:Lab:=237
abbrev zl238:Lab:=238
abbrev zl258:Lab:=258
abbrev zl260:Lab:=260
abbrev zl261:Lab:=261
abbrev zl263:Lab:=263
abbrev zl265:Lab:=265
abbrev zl269:Lab:=269
abbrev zl272:Lab:=272
abbrev zl274:Lab:=274
abbrev zl276:Lab:=276
abbrev zl277:Lab:=277
abbrev zl282:Lab:=282
abbrev zl283:Lab:=283
abbrev zl284:Lab:=284
abbrev zl285:Lab:=285
abbrev zl286:Lab:=286
abbrev zl331:Lab:=331
abbrev zl380:Lab:=380
abbrev zl410:Lab:=410
abbrev zl411:Lab:=411
abbrev zl448:Lab:=448
abbrev zl450:Lab:=450
abbrev zl452:Lab:=452
abbrev zl454:Lab:=454
abbrev zl456:Lab:=456
abbrev zl508:Lab:=508
abbrev zl513:Lab:=513
abbrev zl514:Lab:=514
abbrev zl521:Lab:=521
abbrev zl537:Lab:=537
abbrev zl566:Lab:=566
abbrev zl576:Lab:=576
abbrev zl595:Lab:=595
abbrev zl598:Lab:=598
def z2r0:IC:=.reg [⟨some 4, none,.asg (.c (.bool false))⟩] [0,1] []
def z2r1:IC:=.reg [⟨some 5, none,.mv (.t 0)⟩,⟨some 6, none,.call zl4 [(.val,(.t 5))] true⟩,⟨some 7, none,.asg (.t 6)⟩,⟨some 8, (some (7,true)),.mv (.t 1)⟩,⟨some 9, (some (7,true)),.call zl4 [(.val,(.t 8))] true⟩,⟨some 10, (some (7,true)),.unop .not (.t 9)⟩,⟨some 11, none,.pick (.t 7) (.t 10) (.c (.bool false))⟩,⟨some 12, none,.asg (.t 11)⟩,⟨some 13, (some (12,false)),.mv (.t 0)⟩,⟨some 14, (some (12,false)),.mv (.t 1)⟩,⟨some 15, (some (12,false)),.bin .lss (.t 13) (.t 14)⟩,⟨some 16, none,.pick (.t 12) (.c (.bool true)) (.t 15)⟩,⟨some 4, none,.asg (.t 16)⟩] [4] []
def zi2:IFun:=⟨[.t 4],[],(.seq z2r0 (.seq z2r1 .ret))⟩
def z4r0:IC:=.reg [⟨some 2, none,.asg (.c (.bool false))⟩] [0] []
def z4r1:IC:=.reg [⟨some 3, none,.mv (.t 0)⟩,⟨some 4, none,.mv (.t 0)⟩,⟨some 5, none,.bin .neq (.t 3) (.t 4)⟩,⟨some 2, none,.asg (.t 5)⟩] [2] []
def zi4:IFun:=⟨[.t 2],[],(.seq z4r0 (.seq z4r1 .ret))⟩
def z161r0:IC:=.reg [⟨some 1, none,.box (.t 0)⟩,⟨some 2, none,.asg (.c (.slice none 0 0))⟩] [1] []
def z161r1:IC:=.reg [⟨some 3, none,.load true 2 (.t 1)⟩,⟨some 4, none,.call zl26 [(.rd,(.t 3))] true⟩,⟨some 5, none,.unop .not (.t 4)⟩] [1,5] []
def z161r2:IC:=.reg [⟨some 2, none,.asg (.c (.slice none 0 0))⟩] [2] []
def z161r3:IC:=.reg [⟨some 6, none,.load true 2 (.t 1)⟩,⟨some 7, none,.call zl9 [(.rd,(.t 6))] true⟩,⟨some 2, none,.asg (.t 7)⟩] [2] []
def zi161:IFun:=⟨[.t 2],[],(.seq z161r0 (.seq (.seq z161r1 (.cond (.t 5) (.seq z161r2 .ret) .skip)) (.seq z161r3 .ret)))⟩
def z164r0:IC:=.reg [⟨some 2, none,.asg (.c (vi 0))⟩] [0] []
def z164r1:IC:=.reg [⟨some 3, none,.asg (.c (vi 0))⟩] [0,3] []
def z164r2:IC:=.reg [⟨some 6, none,.mv (.t 0)⟩,⟨some 7, none,.call zl20 [(.rd,(.t 6))] true⟩,⟨some 8, none,.len (.t 7)⟩,⟨some 9, none,.mv (.c (vi 0))⟩] [3,7,8,9] []
def z164r3:IC:=.reg [⟨some 10, none,.bin .lss (.t 9) (.t 8)⟩] [3,7,8,9,10] []
def z164r4:IC:=.reg [⟨some 11, none,.asg (.t 9)⟩,⟨some 12, none,.iadr 1 (.t 7) (.t 9)⟩,⟨some 13, none,.load false 1 (.t 12)⟩,⟨some 4, none,.asg (.t 11)⟩,⟨some 5, none,.asg (.t 13)⟩] [3,4,5,7,8,9] []
def z164r5:IC:=.reg [⟨some 14, none,.mv (.t 5)⟩,⟨some 15, none,.mv (.t 4)⟩,⟨some 16, none,.bin .geq (.t 14) (.t 15)⟩] [3,4,7,8,9,16] []
def z164r6:IC:=.reg [⟨some 17, none,.mv (.t 4)⟩,⟨some 18, none,.bin .add (.t 17) (.c (vi 1))⟩,⟨some 3, none,.asg (.t 18)⟩] [3,7,8,9] []
def z164r7:IC:=.reg [⟨some 19, none,.bin .add (.t 9) (.c (vi 1))⟩,⟨some 9, none,.asg (.t 19)⟩] [3,7,8,9] []
def z164l8:IC:=(.seq z164r3 (.seq (.cond (.t 10) .skip (.exit 0)) (.seq (.block 1 (.seq z164r4 (.seq z164r5 (.cond (.t 16) z164r6 .skip)))) z164r7)))
def z164r9:IC:=.reg [⟨some 20, none,.mv (.t 3)⟩,⟨some 2, none,.asgm (.t 20)⟩] [2] []
def zi164:IFun:=⟨[.t 2],[],(.seq z164r0 (.seq z164r1 (.seq (.seq z164r2 (.block 0 (.loop z164l8))) (.seq z164r9 .ret))))⟩
def z7r0:IC:=.reg [⟨some 2, none,.asg (.c (vi 0))⟩] [0] []
def z7r1:IC:=.reg [⟨some 3, none,.mv (.t 0)⟩,⟨some 4, none,.call zl18 [(.rd,(.t 3))] true⟩,⟨some 5, none,.call zl73 [(.rd,(.t 4)),(.val,(.f zl8))] false⟩,⟨some 6, none,.bin .add (.t 5) (.c (vi 1))⟩,⟨some 2, none,.asg (.t 6)⟩] [2] []
def zi7:IFun:=⟨[.t 2],[],(.seq z7r0 (.seq z7r1 .ret))⟩
def z8r0:IC:=.reg [⟨some 2, none,.asg (.c (.bool false))⟩] [0] []
def z8r1:IC:=.reg [⟨some 3, none,.mv (.t 0)⟩,⟨some 4, none,.bin .lss (.t 3) (.c (vi 0))⟩,⟨some 2, none,.asg (.t 4)⟩] [2] []
def zi8:IFun:=⟨[.t 2],[],(.seq z8r0 (.seq z8r1 .ret))⟩
def z167r0:IC:=.reg [⟨some 2, none,.box (.t 0)⟩,⟨some 3, none,.box (.t 1)⟩,⟨some 4, none,.alloc [(vi 0),(.slice none 0 0)]⟩,⟨some 5, none,.asg (.c (.bool false))⟩] [2,3,4] []
def z167r1:IC:=.reg [⟨some 8, none,.load true 4 (.t 3)⟩,⟨some 9, none,.call zl411 [(.val,(.t 8))] true⟩,⟨some 10, none,.unop .not (.t 9)⟩,⟨some 11, none,.asg (.t 10)⟩,⟨some 12, (some (11,false)),.load true 2 (.t 2)⟩,⟨some 13, (some (11,false)),.fadr 0 (.t 3)⟩,⟨some 14, (some (11,false)),.load false 1 (.t 13)⟩,⟨some 15, (some (11,false)),.fadr 1 (.t 3)⟩,⟨some 16, (some (11,false)),.load false 1 (.t 15)⟩,⟨some 17, (some (11,false)),.call zl171 [(.rd,(.t 12)),(.val,(.t 14)),(.val,(.t 16))] true⟩,⟨some 18, (some (11,false)),.unop .not (.t 17)⟩,⟨some 19, none,.pick (.t 11) (.c (.bool true)) (.t 18)⟩,⟨some 20, none,.asg (.t 19)⟩,⟨some 21, (some (20,false)),.load true 2 (.t 2)⟩,⟨some 22, (some (20,false)),.fadr 2 (.t 3)⟩,⟨some 23, (some (20,false)),.load false 1 (.t 22)⟩,⟨some 24, (some (20,false)),.fadr 3 (.t 3)⟩,⟨some 25, (some (20,false)),.load false 1 (.t 24)⟩,
    ⟨some 26, (some (20,false)),.call zl171 [(.rd,(.t 21)),(.val,(.t 23)),(.val,(.t 25))] true⟩,⟨some 27, (some (20,false)),.unop .not (.t 26)⟩,⟨some 28, none,.pick (.t 20) (.c (.bool true)) (.t 27)⟩,⟨some 29, none,.asg (.t 28)⟩,⟨some 30, (some (29,false)),.load true 2 (.t 2)⟩,⟨some 31, (some (29,false)),.fadr 0 (.t 3)⟩,⟨some 32, (some (29,false)),.load false 1 (.t 31)⟩,⟨some 33, (some (29,false)),.fadr 2 (.t 3)⟩,⟨some 34, (some (29,false)),.load false 1 (.t 33)⟩,⟨some 35, (some (29,false)),.call zl171 [(.rd,(.t 30)),(.val,(.t 32)),(.val,(.t 34))] true⟩,⟨some 36, none,.pick (.t 29) (.c (.bool true)) (.t 35)⟩,⟨some 37, none,.asg (.t 36)⟩,⟨some 38, (some (37,false)),.load true 2 (.t 2)⟩,⟨some 39, (some (37,false)),.fadr 1 (.t 3)⟩,⟨some 40, (some (37,false)),.load false 1 (.t 39)⟩,⟨some 41, (some (37,false)),.fadr 3 (.t 3)⟩,⟨some 42, (some (37,false)),.load false 1 (.t 41)⟩,
    ⟨some 43, (some (37,false)),.call zl171 [(.rd,(.t 38)),(.val,(.t 40)),(.val,(.t 42))] true⟩,⟨some 44, none,.pick (.t 37) (.c (.bool true)) (.t 43)⟩] [2,3,4,44] []
def z167r2:IC:=.reg [⟨some 45, none,.build [(vi 0),(.slice none 0 0)] []⟩,⟨none,none,.store 2 (.t 4) (.t 45)⟩,⟨some 5, none,.asg (.c (.bool false))⟩] [4,5] []
def z167r3:IC:=.reg [⟨some 46, none,.fadr 1 (.t 2)⟩,⟨some 47, none,.load false 1 (.t 46)⟩,⟨some 48, none,.call zl261 [(.rd,(.t 47))] true⟩,⟨some 49, none,.mkfn zl410 [(.t 3)]⟩,⟨some 50, none,.call zl265 [(.tk,(.t 48)),(.val,(.t 49))] false⟩,⟨some 6, none,.asg (.t 50)⟩] [2,3,4,6] []
def z167r4:IC:=.regd [⟨some 51, none,.fadr 0 (.t 2)⟩,⟨some 52, none,.load false 1 (.t 51)⟩,⟨some 53, none,.mv (.t 6)⟩,⟨some 54, none,.fadr 0 (.t 3)⟩,⟨some 55, none,.load false 1 (.t 54)⟩,⟨some 56, none,.fadr 2 (.t 3)⟩,⟨some 57, none,.load false 1 (.t 56)⟩,⟨some 58, none,.call zl36 [(.val,(.t 55)),(.val,(.t 57))] true⟩,⟨some 59, none,.fadr 1 (.t 3)⟩,⟨some 60, none,.load false 1 (.t 59)⟩,⟨some 61, none,.fadr 3 (.t 3)⟩,⟨some 62, none,.load false 1 (.t 61)⟩,⟨some 63, none,.call zl36 [(.val,(.t 60)),(.val,(.t 62))] true⟩,⟨some 64, none,.bsl 2 [(vi 0),(vi 0)] 2 [(0,(.t 58)),(1,(.t 63))]⟩,⟨some 65, none,.app 2 (.t 53) (.t 64)⟩,⟨some 66, none,.callq zl214 [(.val,(.t 52)),(.rv,(.t 65))]⟩,⟨some 7, none,.alloc [(vi 0),(.slice none 0 0)]⟩,
    ⟨none,none,.store 2 (.t 7) (.t 66)⟩] [0,1,2,3,4,5,6,7,8,9,10,11,12,13,14,15,16,17] [4,7] [[0,1,3,4,5,6,7,8,9,10,11,12,13,2,14,15,16,17],[0,2,3,4,5,6,7,8,9,10,11,12,13,1,14,15,16,17],[0,2,3,4,5,6,7,8,9,10,11,12,13,14,1,15,16,17],[0,3,4,5,6,7,8,9,10,11,12,13,1,2,14,15,16,17],[0,3,4,5,6,7,8,9,10,11,12,13,2,14,1,15,16,17],[2,3,4,5,6,7,8,9,10,11,12,13,0,1,14,15,16,17],[2,3,4,5,6,7,8,9,10,11,12,13,0,14,1,15,16,17],[2,3,4,5,6,7,8,9,10,11,12,13,14,0,1,15,16,17],[3,4,5,6,7,8,9,10,11,12,13,0,1,2,14,15,16,17],[3,4,5,6,7,8,9,10,11,12,13,0,2,14,1,15,16,17],[3,4,5,6,7,8,9,10,11,12,13,2,14,0,1,15,16,17]]
def z167r5:IC:=.reg [⟨some 67, none,.load true 2 (.t 7)⟩,⟨some 68, none,.load true 2 (.t 7)⟩,⟨some 69, none,.call zl26 [(.rd,(.t 68))] true⟩,⟨none,none,.store 2 (.t 4) (.t 67)⟩,⟨some 5, none,.asg (.t 69)⟩] [4,5] [[1,2,0,3,4]]
def zi167:IFun:=⟨[.c 4 2 true,.t 5],[],(.seq z167r0 (.seq (.seq z167r1 (.cond (.t 44) (.seq z167r2 .ret) .skip)) (.seq z167r3 (.seq z167r4 (.seq z167r5 .ret)))))⟩
def z410r0:IC:=.reg [⟨some 2, none,.box (.t 0)⟩,⟨some 3, none,.asg (.c (.bool false))⟩] [1,2] []
def z410r1:IC:=.reg [⟨some 4, none,.load true 2 (.t 2)⟩,⟨some 5, none,.fadr 0 (.t 1)⟩,⟨some 6, none,.load false 1 (.t 5)⟩,⟨some 7, none,.fadr 1 (.t 1)⟩,⟨some 8, none,.load false 1 (.t 7)⟩,⟨some 9, none,.call zl36 [(.val,(.t 6)),(.val,(.t 8))] true⟩,⟨some 10, none,.eqa false 2 (.t 4) (.t 9)⟩,⟨some 11, none,.asg (.t 10)⟩,⟨some 12, (some (11,false)),.load true 2 (.t 2)⟩,⟨some 13, (some (11,false)),.fadr 2 (.t 1)⟩,⟨some 14, (some (11,false)),.load false 1 (.t 13)⟩,⟨some 15, (some (11,false)),.fadr 3 (.t 1)⟩,⟨some 16, (some (11,false)),.load false 1 (.t 15)⟩,⟨some 17, (some (11,false)),.call zl36 [(.val,(.t 14)),(.val,(.t 16))] true⟩,⟨some 18, (some (11,false)),.eqa false 2 (.t 12) (.t 17)⟩,⟨some 19, none,.pick (.t 11) (.c (.bool true)) (.t 18)⟩,
    ⟨some 3, none,.asg (.t 19)⟩] [3] [[0,1,2,3,4,5,6,7,9,10,11,12,13,8,14,15,16],[1,2,3,4,5,0,6,7,8,9,10,11,12,13,14,15,16],[1,2,3,4,5,0,6,7,9,10,11,12,13,8,14,15,16]]
def zi410:IFun:=⟨[.t 3],[],(.seq z410r0 (.seq z410r1 .ret))⟩
def z9r0:IC:=.reg [⟨some 1, none,.box (.t 0)⟩,⟨some 2, none,.asg (.c (.slice none 0 0))⟩] [1] []
def z9r1:IC:=.reg [⟨some 6, none,.fadr 0 (.t 1)⟩,⟨some 7, none,.load false 1 (.t 6)⟩,⟨some 8, none,.mksl 1 [(vi 0)] (.t 7) (.t 7)⟩,⟨some 3, none,.asg (.t 8)⟩] [1,3] []
def z9r2:IC:=.reg [⟨some 9, none,.fadr 1 (.t 1)⟩,⟨some 10, none,.load false 1 (.t 9)⟩,⟨some 11, none,.len (.t 10)⟩,⟨some 12, none,.mv (.c (vi 0))⟩] [1,3,10,11,12] []
def z9r3:IC:=.reg [⟨some 13, none,.bin .lss (.t 12) (.t 11)⟩] [1,3,10,11,12,13] []
def z9r4:IC:=.reg [⟨some 14, none,.iadr 2 (.t 10) (.t 12)⟩,⟨some 15, none,.load true 2 (.t 14)⟩,⟨some 5, none,.alloc [(vi 0),(vi 0)]⟩,⟨none,none,.store 2 (.t 5) (.t 15)⟩] [1,3,5,10,11,12] []
def z9r5:IC:=.reg [⟨some 16, none,.mv (.t 3)⟩,⟨some 17, none,.fadr 0 (.t 5)⟩,⟨some 18, none,.load false 1 (.t 17)⟩,⟨some 19, none,.iadr 1 (.t 16) (.t 18)⟩,⟨some 20, none,.load false 1 (.t 19)⟩,⟨some 21, none,.bin .add (.t 20) (.c (vi 1))⟩,⟨some 22, none,.iadr 1 (.t 16) (.t 18)⟩,⟨none,none,.store 1 (.t 22) (.t 21)⟩] [1,3,5,10,11,12] []
def z9r6:IC:=.reg [⟨some 23, none,.mv (.t 3)⟩,⟨some 24, none,.fadr 1 (.t 5)⟩,⟨some 25, none,.load false 1 (.t 24)⟩,⟨some 26, none,.iadr 1 (.t 23) (.t 25)⟩,⟨some 27, none,.load false 1 (.t 26)⟩,⟨some 28, none,.bin .add (.t 27) (.c (vi 1))⟩,⟨some 29, none,.iadr 1 (.t 23) (.t 25)⟩,⟨none,none,.store 1 (.t 29) (.t 28)⟩] [1,3,10,11,12] []
def z9r7:IC:=.reg [⟨some 30, none,.bin .add (.t 12) (.c (vi 1))⟩,⟨some 12, none,.asg (.t 30)⟩] [1,3,10,11,12] []
def z9l8:IC:=(.seq z9r3 (.seq (.cond (.t 13) .skip (.exit 0)) (.seq (.block 1 (.seq z9r4 (.seq z9r5 z9r6))) z9r7)))
def z9r9:IC:=.reg [⟨some 31, none,.mv (.t 3)⟩,⟨some 2, none,.asgm (.t 31)⟩] [2,3] []
def zi9:IFun:=⟨[.t 2],[],(.seq z9r0 (.seq z9r1 (.seq (.seq z9r2 (.block 0 (.loop z9l8))) (.seq z9r9 .ret))))⟩
def z171r0:IC:=.reg [⟨some 3, none,.box (.t 0)⟩,⟨some 6, none,.asg (.c (.bool false))⟩] [1,2,3] []
def z171r1:IC:=.reg [⟨some 7, none,.fadr 1 (.t 3)⟩,⟨some 8, none,.load false 1 (.t 7)⟩,⟨some 9, none,.mv (.t 1)⟩,⟨some 10, none,.mv (.t 2)⟩,⟨some 11, none,.call zl36 [(.val,(.t 9)),(.val,(.t 10))] true⟩,⟨some 12, none,.call zl263 [(.rd,(.t 8)),(.val,(.t 11))] true⟩,⟨some 6, none,.asg (.t 12)⟩] [6] [[0,2,3,4,1,5,6]]
def zi171:IFun:=⟨[.t 6],[],(.seq z171r0 (.seq z171r1 .ret))⟩
def z173r0:IC:=.reg [⟨some 1, none,.box (.t 0)⟩,⟨some 2, none,.asg (.c (.slice none 0 0))⟩] [1] []
def z173r1:IC:=.reg [⟨some 3, none,.asg (.c (.slice none 0 0))⟩] [1,3] []
def z173r2:IC:=.reg [⟨some 12, none,.fadr 1 (.t 1)⟩,⟨some 13, none,.load false 1 (.t 12)⟩,⟨some 14, none,.len (.t 13)⟩,⟨some 15, none,.mv (.c (vi 0))⟩] [1,3,13,14,15] []
def z173r3:IC:=.reg [⟨some 16, none,.bin .lss (.t 15) (.t 14)⟩] [1,3,13,14,15,16] []
def z173r4:IC:=.reg [⟨some 17, none,.asg (.t 15)⟩,⟨some 18, none,.iadr 2 (.t 13) (.t 15)⟩,⟨some 19, none,.load true 2 (.t 18)⟩,⟨some 5, none,.alloc [(vi 0),(vi 0)]⟩,⟨some 4, none,.asg (.t 17)⟩,⟨none,none,.store 2 (.t 5) (.t 19)⟩] [1,3,4,5,13,14,15] []
def z173r5:IC:=.reg [⟨some 20, none,.fadr 1 (.t 1)⟩,⟨some 21, none,.load false 1 (.t 20)⟩,⟨some 22, none,.mv (.t 4)⟩,⟨some 23, none,.bin .add (.t 22) (.c (vi 1))⟩,⟨some 24, none,.slc 2 (.t 21) (some (.t 23)) none none⟩,⟨some 25, none,.len (.t 24)⟩,⟨some 26, none,.mv (.c (vi 0))⟩] [1,3,5,13,14,15,24,25,26] []
def z173r6:IC:=.reg [⟨some 27, none,.bin .lss (.t 26) (.t 25)⟩] [1,3,5,13,14,15,24,25,26,27] []
def z173r7:IC:=.reg [⟨some 28, none,.iadr 2 (.t 24) (.t 26)⟩,⟨some 29, none,.load true 2 (.t 28)⟩,⟨some 7, none,.alloc [(vi 0),(vi 0)]⟩,⟨none,none,.store 2 (.t 7) (.t 29)⟩] [1,3,5,7,13,14,15,24,25,26] []
def z173r8:IC:=.reg [⟨some 30, none,.fadr 0 (.t 5)⟩,⟨some 31, none,.load false 1 (.t 30)⟩,⟨some 32, none,.fadr 1 (.t 5)⟩,⟨some 33, none,.load false 1 (.t 32)⟩,⟨some 34, none,.fadr 0 (.t 7)⟩,⟨some 35, none,.load false 1 (.t 34)⟩,⟨some 36, none,.fadr 1 (.t 7)⟩,⟨some 37, none,.load false 1 (.t 36)⟩,⟨some 38, none,.build [(vi 0),(vi 0),(vi 0),(vi 0)] [(0,1,(.t 31)),(1,1,(.t 33)),(2,1,(.t 35)),(3,1,(.t 37))]⟩,⟨some 39, none,.fadr 0 (.t 5)⟩,⟨some 40, none,.load false 1 (.t 39)⟩,⟨some 41, none,.fadr 1 (.t 5)⟩,⟨some 42, none,.load false 1 (.t 41)⟩,⟨some 43, none,.fadr 1 (.t 7)⟩,⟨some 44, none,.load false 1 (.t 43)⟩,⟨some 45, none,.fadr 0 (.t 7)⟩,⟨some 46, none,.load false 1 (.t 45)⟩,⟨some 47, none,.build [(vi 0),(vi 0),(vi 0),(vi 0)] [(0,1,(.t 40)),(1,1,(.t 42)),(2,1,(.t 44)),(3,1,(.t 46))]⟩,⟨some 48, none,.bsl 4 [(vi 0),(vi 0),(vi 0),(vi 0)] 2 [(0,(.t 38)),(1,(.t 47))]⟩,
    ⟨some 49, none,.len (.t 48)⟩,⟨some 50, none,.mv (.c (vi 0))⟩] [1,3,5,13,14,15,24,25,26,48,49,50] []
def z173r9:IC:=.reg [⟨some 51, none,.bin .lss (.t 50) (.t 49)⟩] [1,3,5,13,14,15,24,25,26,48,49,50,51] []
def z173r10:IC:=.reg [⟨some 52, none,.iadr 4 (.t 48) (.t 50)⟩,⟨some 53, none,.load true 4 (.t 52)⟩,⟨some 9, none,.alloc [(vi 0),(vi 0),(vi 0),(vi 0)]⟩,⟨none,none,.store 4 (.t 9) (.t 53)⟩] [1,3,5,9,13,14,15,24,25,26,48,49,50] []
def z173r11:IC:=.reg [⟨some 55, none,.load true 2 (.t 1)⟩,⟨some 56, none,.load true 4 (.t 9)⟩,⟨some 57, none,.call zl167 [(.rd,(.t 55)),(.val,(.t 56))] true⟩,⟨some 54, none,.asg (.t 57)⟩,⟨some 58, none,.extr (.t 54) 0⟩,⟨some 59, none,.extr (.t 54) 1⟩,⟨some 10, none,.alloc [(vi 0),(.slice none 0 0)]⟩,⟨none,none,.store 2 (.t 10) (.t 58)⟩,⟨some 11, none,.asg (.t 59)⟩] [1,3,5,9,11,13,14,15,24,25,26,48,49,50] []
def z173r12:IC:=.reg [⟨some 60, none,.mv (.t 11)⟩] [1,3,5,9,13,14,15,24,25,26,48,49,50,60] []
def z173r13:IC:=.reg [⟨some 61, none,.mv (.t 3)⟩,⟨some 62, none,.load true 4 (.t 9)⟩,⟨some 63, none,.bsl 4 [(vi 0),(vi 0),(vi 0),(vi 0)] 1 [(0,(.t 62))]⟩,⟨some 64, none,.app 4 (.t 61) (.t 63)⟩,⟨some 3, none,.asg (.t 64)⟩] [1,3,5,13,14,15,24,25,26,48,49,50] []
def z173r14:IC:=.reg [⟨some 65, none,.bin .add (.t 50) (.c (vi 1))⟩,⟨some 50, none,.asg (.t 65)⟩] [1,3,5,13,14,15,24,25,26,48,49,50] []
def z173l15:IC:=(.seq z173r9 (.seq (.cond (.t 51) .skip (.exit 4)) (.seq (.block 5 (.seq z173r10 (.seq z173r11 (.seq z173r12 (.cond (.t 60) z173r13 .skip))))) z173r14)))
def z173r16:IC:=.reg [⟨some 66, none,.bin .add (.t 26) (.c (vi 1))⟩,⟨some 26, none,.asg (.t 66)⟩] [1,3,5,13,14,15,24,25,26] []
def z173l17:IC:=(.seq z173r6 (.seq (.cond (.t 27) .skip (.exit 2)) (.seq (.block 3 (.seq z173r7 (.seq z173r8 (.block 4 (.loop z173l15))))) z173r16)))
def z173r18:IC:=.reg [⟨some 67, none,.bin .add (.t 15) (.c (vi 1))⟩,⟨some 15, none,.asg (.t 67)⟩] [1,3,13,14,15] []
def z173l19:IC:=(.seq z173r3 (.seq (.cond (.t 16) .skip (.exit 0)) (.seq (.block 1 (.seq z173r4 (.seq z173r5 (.block 2 (.loop z173l17))))) z173r18)))
def z173r20:IC:=.reg [⟨some 68, none,.mv (.t 3)⟩,⟨some 69, none,.call zl260 [(.tk,(.t 68))] true⟩,⟨some 2, none,.asg (.t 69)⟩] [2] []
def zi173:IFun:=⟨[.t 2],[],(.seq z173r0 (.seq z173r1 (.seq (.seq z173r2 (.block 0 (.loop z173l19))) (.seq z173r20 .ret))))⟩
def z508r0:IC:=.reg [⟨some 2, none,.asg (.c (.slice none 0 0))⟩] [0] []
def z508r1:IC:=.reg [⟨some 9, none,.mv (.t 0)⟩,⟨some 10, none,.call zl27 [(.rd,(.t 9))] true⟩,⟨some 11, none,.unop .not (.t 10)⟩] [0,11] []
def z508r2:IC:=.reg [⟨some 2, none,.asg (.c (.slice none 0 0))⟩] [2] []
def z508r3:IC:=.reg [⟨some 3, none,.asg (.c (.slice none 0 0))⟩] [0,3] []
def z508r4:IC:=.reg [⟨some 12, none,.mv (.t 0)⟩,⟨some 13, none,.len (.t 12)⟩,⟨some 14, none,.mv (.c (vi 0))⟩] [0,3,13,14] []
def z508r5:IC:=.reg [⟨some 15, none,.bin .lss (.t 14) (.t 13)⟩] [0,3,13,14,15] []
def z508r6:IC:=.reg [⟨some 16, none,.asg (.t 14)⟩,⟨some 4, none,.asg (.t 16)⟩] [0,3,4,13,14] []
def z508r7:IC:=.reg [⟨some 17, none,.mv (.t 4)⟩,⟨some 18, none,.bin .add (.t 17) (.c (vi 1))⟩,⟨some 5, none,.asg (.t 18)⟩] [0,3,4,5,13,14] []
def z508r8:IC:=.reg [⟨some 19, none,.mv (.t 5)⟩,⟨some 20, none,.mv (.t 0)⟩,⟨some 21, none,.len (.t 20)⟩,⟨some 22, none,.bin .lss (.t 19) (.t 21)⟩] [0,3,4,5,13,14,22] []
def z508r9:IC:=.reg [⟨some 25, none,.mv (.t 0)⟩,⟨some 26, none,.iadr 1 (.t 25) (.c (vi 0))⟩,⟨some 27, none,.load false 1 (.t 26)⟩,⟨some 28, none,.len (.t 27)⟩,⟨some 29, none,.mv (.c (vi 0))⟩] [0,3,4,5,13,14,28,29] []
def z508r10:IC:=.reg [⟨some 30, none,.bin .lss (.t 29) (.t 28)⟩] [0,3,4,5,13,14,28,29,30] []
def z508r11:IC:=.reg [⟨some 31, none,.asg (.t 29)⟩,⟨some 6, none,.asg (.t 31)⟩] [0,3,4,5,6,13,14,28,29] []
def z508r12:IC:=.reg [⟨some 32, none,.mv (.t 0)⟩,⟨some 33, none,.iadr 1 (.t 32) (.c (vi 0))⟩,⟨some 34, none,.load false 1 (.t 33)⟩,⟨some 35, none,.len (.t 34)⟩,⟨some 36, none,.mv (.c (vi 0))⟩] [0,3,4,5,6,13,14,28,29,35,36] []
def z508r13:IC:=.reg [⟨some 37, none,.bin .lss (.t 36) (.t 35)⟩] [0,3,4,5,6,13,14,28,29,35,36,37] []
def z508r14:IC:=.reg [⟨some 38, none,.asg (.t 36)⟩,⟨some 7, none,.asg (.t 38)⟩] [0,3,4,5,6,7,13,14,28,29,35,36] []
def z508r15:IC:=.reg [⟨some 39, none,.mv (.t 4)⟩,⟨some 40, none,.mv (.t 6)⟩,⟨some 41, none,.mv (.t 5)⟩,⟨some 42, none,.mv (.t 7)⟩,⟨some 43, none,.build [(vi 0),(vi 0),(vi 0),(vi 0)] [(0,1,(.t 39)),(1,1,(.t 40)),(2,1,(.t 41)),(3,1,(.t 42))]⟩,⟨some 8, none,.alloc [(vi 0),(vi 0),(vi 0),(vi 0)]⟩,⟨none,none,.store 4 (.t 8) (.t 43)⟩] [0,3,4,5,6,8,13,14,28,29,35,36] []
def z508r16:IC:=.reg [⟨some 44, none,.mv (.t 0)⟩,⟨some 45, none,.load true 4 (.t 8)⟩,⟨some 46, none,.call zl521 [(.rd,(.t 44)),(.val,(.t 45))] true⟩] [0,3,4,5,6,8,13,14,28,29,35,36,46] []
def z508r17:IC:=.reg [⟨some 47, none,.mv (.t 3)⟩,⟨some 48, none,.load true 4 (.t 8)⟩,⟨some 49, none,.bsl 4 [(vi 0),(vi 0),(vi 0),(vi 0)] 1 [(0,(.t 48))]⟩,⟨some 50, none,.app 4 (.t 47) (.t 49)⟩,⟨some 3, none,.asg (.t 50)⟩] [0,3,4,5,6,13,14,28,29,35,36] []
def z508r18:IC:=.reg [⟨some 51, none,.bin .add (.t 36) (.c (vi 1))⟩,⟨some 36, none,.asg (.t 51)⟩] [0,3,4,5,6,13,14,28,29,35,36] []
def z508l19:IC:=(.seq z508r13 (.seq (.cond (.t 37) .skip (.exit 6)) (.seq (.block 7 (.seq z508r14 (.seq z508r15 (.seq z508r16 (.cond (.t 46) z508r17 .skip))))) z508r18)))
def z508r20:IC:=.reg [⟨some 52, none,.bin .add (.t 29) (.c (vi 1))⟩,⟨some 29, none,.asg (.t 52)⟩] [0,3,4,5,13,14,28,29] []
def z508l21:IC:=(.seq z508r10 (.seq (.cond (.t 30) .skip (.exit 4)) (.seq (.block 5 (.seq z508r11 (.seq z508r12 (.block 6 (.loop z508l19))))) z508r20)))
def z508r22:IC:=.reg [⟨some 23, none,.mv (.t 5)⟩,⟨some 24, none,.bin .add (.t 23) (.c (vi 1))⟩,⟨some 5, none,.asg (.t 24)⟩] [0,3,4,5,13,14] []
def z508l23:IC:=(.seq (.seq z508r8 (.cond (.t 22) .skip (.exit 2))) (.seq (.block 3 (.seq z508r9 (.block 4 (.loop z508l21)))) z508r22))
def z508r24:IC:=.reg [⟨some 53, none,.bin .add (.t 14) (.c (vi 1))⟩,⟨some 14, none,.asg (.t 53)⟩] [0,3,13,14] []
def z508l25:IC:=(.seq z508r5 (.seq (.cond (.t 15) .skip (.exit 0)) (.seq (.block 1 (.seq z508r6 (.seq z508r7 (.block 2 (.loop z508l23))))) z508r24)))
def z508r26:IC:=.reg [⟨some 54, none,.mv (.t 3)⟩,⟨some 55, none,.call zl260 [(.tk,(.t 54))] true⟩,⟨some 2, none,.asg (.t 55)⟩] [2] []
def zi508:IFun:=⟨[.t 2],[],(.seq z508r0 (.seq (.seq z508r1 (.cond (.t 11) (.seq z508r2 .ret) .skip)) (.seq z508r3 (.seq (.seq z508r4 (.block 0 (.loop z508l25))) (.seq z508r26 .ret)))))⟩
def z10r0:IC:=.reg [⟨some 2, none,.asg (.c (.bool false))⟩] [0] []
def z10r1:IC:=.reg [⟨some 3, none,.mv (.t 0)⟩,⟨some 4, none,.call zl25 [(.rd,(.t 3))] true⟩,⟨some 5, none,.asg (.t 4)⟩,⟨some 6, (some (5,true)),.mv (.t 0)⟩,⟨some 7, (some (5,true)),.call zl40 [(.rd,(.t 6))] true⟩,⟨some 8, (some (5,true)),.bin .rem (.t 7) (.c (vi 2))⟩,⟨some 9, (some (5,true)),.bin .eql (.t 8) (.c (vi 0))⟩,⟨some 10, none,.pick (.t 5) (.t 9) (.c (.bool false))⟩,⟨some 11, none,.asg (.t 10)⟩,⟨some 12, (some (11,true)),.mv (.t 0)⟩,⟨some 13, (some (11,true)),.call zl7 [(.rd,(.t 12))] true⟩,⟨some 14, (some (11,true)),.bin .eql (.t 13) (.c (vi 0))⟩,⟨some 15, none,.pick (.t 11) (.t 14) (.c (.bool false))⟩,⟨some 2, none,.asg (.t 15)⟩] [2] []
def zi10:IFun:=⟨[.t 2],[],(.seq z10r0 (.seq z10r1 .ret))⟩
def z186r0:IC:=.reg [⟨some 2, none,.asg (.c (.bool false))⟩] [0] []
def z186r1:IC:=.reg [⟨some 3, none,.mv (.t 0)⟩,⟨some 4, none,.call zl197 [(.rd,(.t 3))] true⟩,⟨some 5, none,.bin .eql (.t 4) (.c (vi 0))⟩,⟨some 2, none,.asg (.t 5)⟩] [2] []
def zi186:IFun:=⟨[.t 2],[],(.seq z186r0 (.seq z186r1 .ret))⟩
def z16r0:IC:=.reg [⟨some 2, none,.asg (.c (.slice none 0 0))⟩,⟨some 3, none,.asg (.c (.slice none 0 0))⟩] [0] []
def z16r1:IC:=.reg [⟨some 10, none,.mv (.t 0)⟩,⟨some 11, none,.call zl27 [(.rd,(.t 10))] true⟩,⟨some 12, none,.unop .not (.t 11)⟩] [0,12] []
def z16r2:IC:=.reg [⟨some 2, none,.asg (.c (.slice none 0 0))⟩,⟨some 3, none,.asg (.c (.slice none 0 0))⟩] [2,3,4,5] []
def z16r3:IC:=.reg [⟨some 13, none,.mv (.t 0)⟩,⟨some 14, none,.len (.t 13)⟩,⟨some 15, none,.mksl 1 [(vi 0)] (.t 14) (.t 14)⟩,⟨some 16, none,.mv (.t 0)⟩,⟨some 17, none,.iadr 1 (.t 16) (.c (vi 0))⟩,⟨some 18, none,.load false 1 (.t 17)⟩,⟨some 19, none,.len (.t 18)⟩,⟨some 20, none,.mksl 1 [(vi 0)] (.t 19) (.t 19)⟩,⟨some 4, none,.asg (.t 15)⟩,⟨some 5, none,.asg (.t 20)⟩] [0,4,5] [[0,1,2,3,4,5,6,8,7,9],[0,1,2,3,4,8,5,6,7,9],[0,1,3,4,5,2,6,7,8,9],[0,1,3,4,5,2,6,8,7,9],[0,1,3,4,5,6,7,2,8,9]]
def z16r4:IC:=.reg [⟨some 21, none,.mv (.t 0)⟩,⟨some 22, none,.len (.t 21)⟩,⟨some 23, none,.mv (.c (vi 0))⟩] [0,4,5,21,22,23] []
def z16r5:IC:=.reg [⟨some 24, none,.bin .lss (.t 23) (.t 22)⟩] [0,4,5,21,22,23,24] []
def z16r6:IC:=.reg [⟨some 25, none,.asg (.t 23)⟩,⟨some 26, none,.iadr 1 (.t 21) (.t 23)⟩,⟨some 27, none,.load false 1 (.t 26)⟩,⟨some 6, none,.asg (.t 25)⟩,⟨some 7, none,.asg (.t 27)⟩] [0,4,5,6,7,21,22,23] []
def z16r7:IC:=.reg [⟨some 28, none,.mv (.t 7)⟩,⟨some 29, none,.len (.t 28)⟩,⟨some 30, none,.mv (.c (vi 0))⟩] [0,4,5,6,7,21,22,23,28,29,30] []
def z16r8:IC:=.reg [⟨some 31, none,.bin .lss (.t 30) (.t 29)⟩] [0,4,5,6,7,21,22,23,28,29,30,31] []
def z16r9:IC:=.reg [⟨some 32, none,.asg (.t 30)⟩,⟨some 33, none,.iadr 1 (.t 28) (.t 30)⟩,⟨some 34, none,.load false 1 (.t 33)⟩,⟨some 8, none,.asg (.t 32)⟩,⟨some 9, none,.asg (.t 34)⟩] [0,4,5,6,7,8,9,21,22,23,28,29,30] []
def z16r10:IC:=.reg [⟨some 35, none,.mv (.t 4)⟩,⟨some 36, none,.mv (.t 6)⟩,⟨some 37, none,.iadr 1 (.t 35) (.t 36)⟩,⟨some 38, none,.load false 1 (.t 37)⟩,⟨some 39, none,.mv (.t 9)⟩,⟨some 40, none,.bin .add (.t 38) (.t 39)⟩,⟨some 41, none,.iadr 1 (.t 35) (.t 36)⟩,⟨none,none,.store 1 (.t 41) (.t 40)⟩] [0,4,5,6,7,8,9,21,22,23,28,29,30] []
def z16r11:IC:=.reg [⟨some 42, none,.mv (.t 5)⟩,⟨some 43, none,.mv (.t 8)⟩,⟨some 44, none,.iadr 1 (.t 42) (.t 43)⟩,⟨some 45, none,.load false 1 (.t 44)⟩,⟨some 46, none,.mv (.t 9)⟩,⟨some 47, none,.bin .add (.t 45) (.t 46)⟩,⟨some 48, none,.iadr 1 (.t 42) (.t 43)⟩,⟨none,none,.store 1 (.t 48) (.t 47)⟩] [0,4,5,6,7,21,22,23,28,29,30] []
def z16r12:IC:=.reg [⟨some 49, none,.bin .add (.t 30) (.c (vi 1))⟩,⟨some 30, none,.asg (.t 49)⟩] [0,4,5,6,7,21,22,23,28,29,30] []
def z16l13:IC:=(.seq z16r8 (.seq (.cond (.t 31) .skip (.exit 2)) (.seq (.block 3 (.seq z16r9 (.seq z16r10 z16r11))) z16r12)))
def z16r14:IC:=.reg [⟨some 50, none,.bin .add (.t 23) (.c (vi 1))⟩,⟨some 23, none,.asg (.t 50)⟩] [0,4,5,21,22,23] []
def z16l15:IC:=(.seq z16r5 (.seq (.cond (.t 24) .skip (.exit 0)) (.seq (.block 1 (.seq z16r6 (.seq z16r7 (.block 2 (.loop z16l13))))) z16r14)))
def z16r16:IC:=.reg [⟨some 51, none,.mv (.t 4)⟩,⟨some 52, none,.mv (.t 5)⟩,⟨some 2, none,.asgm (.t 51)⟩,⟨some 3, none,.asgm (.t 52)⟩] [2,3,4,5] []
def zi16:IFun:=⟨[.t 2,.t 3],[],(.seq z16r0 (.seq (.seq z16r1 (.cond (.t 12) (.seq z16r2 .ret) .skip)) (.seq z16r3 (.seq (.seq z16r4 (.block 0 (.loop z16l15))) (.seq z16r16 .ret)))))⟩
def z513r0:IC:=.reg [⟨some 1, none,.box (.t 0)⟩,⟨some 2, none,.alloc [(vi 0),(.slice none 0 0)]⟩,⟨some 3, none,.asg (.c (.bool false))⟩] [1,2] []
def z513r1:IC:=.reg [⟨some 5, none,.load false 1 (.t 1)⟩,⟨some 6, none,.call zl27 [(.rd,(.t 5))] true⟩,⟨some 7, none,.unop .not (.t 6)⟩,⟨some 8, none,.asg (.t 7)⟩,⟨some 9, (some (8,false)),.load false 1 (.t 1)⟩,⟨some 10, (some (8,false)),.len (.t 9)⟩,⟨some 11, (some (8,false)),.load false 1 (.t 1)⟩,⟨some 12, (some (8,false)),.iadr 1 (.t 11) (.c (vi 0))⟩,⟨some 13, (some (8,false)),.load false 1 (.t 12)⟩,⟨some 14, (some (8,false)),.len (.t 13)⟩,⟨some 15, (some (8,false)),.bin .add (.t 10) (.t 14)⟩,⟨some 16, (some (8,false)),.bin .gtr (.t 15) (.c (vi 7))⟩,⟨some 17, none,.pick (.t 8) (.c (.bool true)) (.t 16)⟩] [1,2,17] []
def z513r2:IC:=.reg [⟨some 18, none,.build [(vi 0),(.slice none 0 0)] []⟩,⟨none,none,.store 2 (.t 2) (.t 18)⟩,⟨some 3, none,.asg (.c (.bool false))⟩] [2,3] []
def z513r3:IC:=.reg [⟨some 19, none,.load false 1 (.t 1)⟩,⟨some 20, none,.len (.t 19)⟩,⟨some 4, none,.alloc [(vi 0)]⟩,⟨none,none,.store 1 (.t 4) (.t 20)⟩] [1,2,4] []
def z513r4:IC:=.reg [⟨some 21, none,.load false 1 (.t 4)⟩,⟨some 22, none,.load false 1 (.t 1)⟩,⟨some 23, none,.iadr 1 (.t 22) (.c (vi 0))⟩,⟨some 24, none,.load false 1 (.t 23)⟩,⟨some 25, none,.len (.t 24)⟩,⟨some 26, none,.bin .add (.t 21) (.t 25)⟩,⟨some 27, none,.mkfn zl514 [(.t 4),(.t 1)]⟩,⟨some 28, none,.call zl220 [(.val,(.t 26)),(.val,(.t 27))] false⟩,⟨none,none,.store 2 (.t 2) (.t 28)⟩,⟨some 3, none,.asg (.c (.bool true))⟩] [2,3] []
def zi513:IFun:=⟨[.c 2 2 true,.t 3],[],(.seq z513r0 (.seq (.seq z513r1 (.cond (.t 17) (.seq z513r2 .ret) .skip)) (.seq z513r3 (.seq z513r4 .ret))))⟩
def z514r0:IC:=.reg [⟨some 6, none,.asg (.c (.bool false))⟩] [0,1,2,3] []
def z514r1:IC:=.reg [⟨some 7, none,.mv (.t 1)⟩,⟨some 8, none,.load false 1 (.t 2)⟩,⟨some 9, none,.bin .lss (.t 7) (.t 8)⟩,⟨some 10, none,.asg (.t 9)⟩,⟨some 11, (some (10,false)),.mv (.t 0)⟩,⟨some 12, (some (10,false)),.load false 1 (.t 2)⟩,⟨some 13, (some (10,false)),.bin .lss (.t 11) (.t 12)⟩,⟨some 14, (some (10,false)),.asg (.t 13)⟩,⟨some 15, (some (14,true)),.load false 1 (.t 3)⟩,⟨some 16, (some (14,true)),.mv (.t 0)⟩,⟨some 17, (some (14,true)),.iadr 1 (.t 15) (.t 16)⟩,⟨some 18, (some (14,true)),.load false 1 (.t 17)⟩,⟨some 19, (some (14,true)),.mv (.t 1)⟩,⟨some 20, (some (14,true)),.load false 1 (.t 2)⟩,⟨some 21, (some (14,true)),.bin .sub (.t 19) (.t 20)⟩,⟨some 22, (some (14,true)),.iadr 1 (.t 18) (.t 21)⟩,⟨some 23, (some (14,true)),.load false 1 (.t 22)⟩,⟨some 24, (some (14,true)),.bin .eql (.t 23) (.c (vi 1))⟩,
    ⟨some 25, (some (10,false)),.pick (.t 14) (.t 24) (.c (.bool false))⟩,⟨some 26, none,.pick (.t 10) (.c (.bool true)) (.t 25)⟩,⟨some 6, none,.asg (.t 26)⟩] [6] []
def zi514:IFun:=⟨[.t 6],[],(.seq z514r0 (.seq z514r1 .ret))⟩
def z18r0:IC:=.reg [⟨some 2, none,.asg (.c (.slice none 0 0))⟩] [0] []
def z18r1:IC:=.reg [⟨some 4, none,.mv (.t 0)⟩,⟨some 5, none,.call zl37 [(.rd,(.t 4))] true⟩,⟨some 3, none,.alloc [(.slice none 0 0)]⟩,⟨none,none,.store 1 (.t 3) (.t 5)⟩] [0,3] []
def z18r2:IC:=.reg [⟨some 6, none,.mv (.t 0)⟩,⟨some 7, none,.mkfn zl19 [(.t 3)]⟩,⟨some 8, none,.call zl35 [(.rd,(.t 6)),(.val,(.t 7))] false⟩,⟨some 2, none,.asg (.t 8)⟩] [2] []
def zi18:IFun:=⟨[.t 2],[],(.seq z18r0 (.seq z18r1 (.seq z18r2 .ret)))⟩
def z19r0:IC:=.reg [⟨some 3, none,.asg (.c (vi 0))⟩] [0,1] []
def z19r1:IC:=.reg [⟨some 8, none,.mv (.t 0)⟩,⟨some 9, none,.bin .add (.t 8) (.c (vi 1))⟩,⟨some 4, none,.asg (.t 9)⟩] [1,4] []
def z19r2:IC:=.reg [⟨some 10, none,.mv (.t 4)⟩,⟨some 11, none,.mv (.t 4)⟩,⟨some 12, none,.bin .sub (.t 11) (.c (vi 1))⟩,⟨some 13, none,.bin .mul (.t 10) (.t 12)⟩,⟨some 14, none,.load false 1 (.t 1)⟩,⟨some 15, none,.mv (.t 4)⟩,⟨some 16, none,.slc 1 (.t 14) none (some (.t 15)) none⟩,⟨some 17, none,.call zl40 [(.rd,(.t 16))] true⟩,⟨some 18, none,.bin .sub (.t 13) (.t 17)⟩,⟨some 5, none,.asg (.t 18)⟩] [1,4,5] []
def z19r3:IC:=.reg [⟨some 19, none,.load false 1 (.t 1)⟩,⟨some 20, none,.mv (.t 4)⟩,⟨some 21, none,.slc 1 (.t 19) (some (.t 20)) none none⟩,⟨some 22, none,.len (.t 21)⟩,⟨some 23, none,.mv (.c (vi 0))⟩] [1,4,5,21,22,23] []
def z19r4:IC:=.reg [⟨some 24, none,.bin .lss (.t 23) (.t 22)⟩] [1,4,5,21,22,23,24] []
def z19r5:IC:=.reg [⟨some 25, none,.iadr 1 (.t 21) (.t 23)⟩,⟨some 26, none,.load false 1 (.t 25)⟩,⟨some 7, none,.asg (.t 26)⟩] [1,4,5,7,21,22,23] []
def z19r6:IC:=.reg [⟨some 27, none,.mv (.t 5)⟩,⟨some 28, none,.mv (.t 7)⟩,⟨some 29, none,.mv (.t 4)⟩,⟨some 30, none,.minmax true (.t 28) (.t 29)⟩,⟨some 31, none,.bin .add (.t 27) (.t 30)⟩,⟨some 5, none,.asg (.t 31)⟩] [1,4,5,21,22,23] []
def z19r7:IC:=.reg [⟨some 32, none,.bin .add (.t 23) (.c (vi 1))⟩,⟨some 23, none,.asg (.t 32)⟩] [1,4,5,21,22,23] []
def z19l8:IC:=(.seq z19r4 (.seq (.cond (.t 24) .skip (.exit 0)) (.seq (.block 1 (.seq z19r5 z19r6)) z19r7)))
def z19r9:IC:=.reg [⟨some 33, none,.mv (.t 5)⟩,⟨some 3, none,.asgm (.t 33)⟩] [3] []
def zi19:IFun:=⟨[.t 3],[],(.seq z19r0 (.seq z19r1 (.seq z19r2 (.seq (.seq z19r3 (.block 0 (.loop z19l8))) (.seq z19r9 .ret)))))⟩
def z20r0:IC:=.reg [⟨some 2, none,.asg (.c (.slice none 0 0))⟩] [0] []
def z20r1:IC:=.reg [⟨some 3, none,.mv (.t 0)⟩,⟨some 4, none,.call zl25 [(.rd,(.t 3))] true⟩,⟨some 5, none,.unop .not (.t 4)⟩] [0,5] []
def z20r2:IC:=.reg [⟨some 2, none,.asg (.c (.slice none 0 0))⟩] [2] []
def z20r3:IC:=.reg [⟨some 6, none,.mv (.t 0)⟩,⟨some 7, none,.call zl37 [(.rd,(.t 6))] true⟩,⟨some 2, none,.asg (.t 7)⟩] [2] []
def zi20:IFun:=⟨[.t 2],[],(.seq z20r0 (.seq (.seq z20r1 (.cond (.t 5) (.seq z20r2 .ret) .skip)) (.seq z20r3 .ret)))⟩
def z197r0:IC:=.reg [⟨some 2, none,.asg (.c (vi 0))⟩] [0] []
def z197r1:IC:=.reg [⟨some 4, none,.mv (.t 0)⟩,⟨some 5, none,.call zl10 [(.rd,(.t 4))] true⟩,⟨some 6, none,.unop .not (.t 5)⟩,⟨some 3, none,.asg (.t 6)⟩] [0,3] []
def z197r2:IC:=.reg [⟨some 2, none,.asg (.c (vi (-1)))⟩] [2] []
def z197r3:IC:=.reg [⟨some 8, none,.mv (.t 0)⟩,⟨some 9, none,.len (.t 8)⟩,⟨some 10, none,.bin .eql (.t 9) (.c (vi 0))⟩,⟨some 7, none,.asg (.t 10)⟩] [0,7] []
def z197r4:IC:=.reg [⟨some 2, none,.asg (.c (vi 0))⟩] [2] []
def z197r5:IC:=.reg [⟨some 11, none,.mv (.t 0)⟩,⟨some 12, none,.call zl18 [(.rd,(.t 11))] true⟩,⟨some 13, none,.mv (.t 0)⟩,⟨some 14, none,.call zl164 [(.rd,(.t 13))] true⟩,⟨some 15, none,.bin .sub (.t 14) (.c (vi 1))⟩,⟨some 16, none,.iadr 1 (.t 12) (.t 15)⟩,⟨some 17, none,.load false 1 (.t 16)⟩,⟨some 18, none,.bin .quo (.t 17) (.c (vi 2))⟩,⟨some 2, none,.asg (.t 18)⟩] [2] []
def zi197:IFun:=⟨[.t 2],[],(.seq z197r0 (.seq (.block 0 (.seq z197r1 (.cond (.t 3) (.seq z197r2 .ret) (.seq z197r3 (.cond (.t 7) (.seq z197r4 .ret) .skip))))) (.seq z197r5 .ret)))⟩
def z411r0:IC:=.reg [⟨some 1, none,.box (.t 0)⟩,⟨some 2, none,.asg (.c (.bool false))⟩] [1] []
def z411r1:IC:=.reg [⟨some 3, none,.fadr 0 (.t 1)⟩,⟨some 4, none,.load false 1 (.t 3)⟩,⟨some 5, none,.fadr 1 (.t 1)⟩,⟨some 6, none,.load false 1 (.t 5)⟩,⟨some 7, none,.bin .neq (.t 4) (.t 6)⟩,⟨some 8, none,.asg (.t 7)⟩,⟨some 9, (some (8,true)),.fadr 0 (.t 1)⟩,⟨some 10, (some (8,true)),.load false 1 (.t 9)⟩,⟨some 11, (some (8,true)),.fadr 2 (.t 1)⟩,⟨some 12, (some (8,true)),.load false 1 (.t 11)⟩,⟨some 13, (some (8,true)),.bin .neq (.t 10) (.t 12)⟩,⟨some 14, none,.pick (.t 8) (.t 13) (.c (.bool false))⟩,⟨some 15, none,.asg (.t 14)⟩,⟨some 16, (some (15,true)),.fadr 0 (.t 1)⟩,⟨some 17, (some (15,true)),.load false 1 (.t 16)⟩,⟨some 18, (some (15,true)),.fadr 3 (.t 1)⟩,⟨some 19, (some (15,true)),.load false 1 (.t 18)⟩,⟨some 20, (some (15,true)),.bin .neq (.t 17) (.t 19)⟩,⟨some 21, none,.pick (.t 15) (.t 20) (.c (.bool false))⟩,⟨some 22, none,.asg (.t 21)⟩,
    ⟨some 23, (some (22,true)),.fadr 1 (.t 1)⟩,⟨some 24, (some (22,true)),.load false 1 (.t 23)⟩,⟨some 25, (some (22,true)),.fadr 2 (.t 1)⟩,⟨some 26, (some (22,true)),.load false 1 (.t 25)⟩,⟨some 27, (some (22,true)),.bin .neq (.t 24) (.t 26)⟩,⟨some 28, none,.pick (.t 22) (.t 27) (.c (.bool false))⟩,⟨some 29, none,.asg (.t 28)⟩,⟨some 30, (some (29,true)),.fadr 1 (.t 1)⟩,⟨some 31, (some (29,true)),.load false 1 (.t 30)⟩,⟨some 32, (some (29,true)),.fadr 3 (.t 1)⟩,⟨some 33, (some (29,true)),.load false 1 (.t 32)⟩,⟨some 34, (some (29,true)),.bin .neq (.t 31) (.t 33)⟩,⟨some 35, none,.pick (.t 29) (.t 34) (.c (.bool false))⟩,⟨some 36, none,.asg (.t 35)⟩,⟨some 37, (some (36,true)),.fadr 2 (.t 1)⟩,⟨some 38, (some (36,true)),.load false 1 (.t 37)⟩,⟨some 39, (some (36,true)),.fadr 3 (.t 1)⟩,⟨some 40, (some (36,true)),.load false 1 (.t 39)⟩,
    ⟨some 41, (some (36,true)),.bin .neq (.t 38) (.t 40)⟩,⟨some 42, none,.pick (.t 36) (.t 41) (.c (.bool false))⟩,⟨some 2, none,.asg (.t 42)⟩] [2] []
def zi411:IFun:=⟨[.t 2],[],(.seq z411r0 (.seq z411r1 .ret))⟩
def z199r0:IC:=.reg [⟨some 1, none,.box (.t 0)⟩,⟨some 2, none,.asg (.c (.slice none 0 0))⟩] [1] []
def z199r1:IC:=.reg [⟨some 3, none,.load true 2 (.t 1)⟩,⟨some 4, none,.call zl26 [(.rd,(.t 3))] true⟩,⟨some 5, none,.unop .not (.t 4)⟩] [1,5] []
def z199r2:IC:=.reg [⟨some 2, none,.asg (.c (.slice none 0 0))⟩] [2] []
def z199r3:IC:=.reg [⟨some 6, none,.load true 2 (.t 1)⟩,⟨some 7, none,.call zl173 [(.rd,(.t 6))] true⟩,⟨some 2, none,.asg (.t 7)⟩] [2] []
def zi199:IFun:=⟨[.t 2],[],(.seq z199r0 (.seq (.seq z199r1 (.cond (.t 5) (.seq z199r2 .ret) .skip)) (.seq z199r3 .ret)))⟩
def z25r0:IC:=.reg [⟨some 2, none,.asg (.c (.bool false))⟩] [0] []
def z25r1:IC:=.reg [⟨some 3, none,.mv (.t 0)⟩,⟨some 4, none,.len (.t 3)⟩,⟨some 5, none,.bin .leq (.t 4) (.c (vi 7))⟩,⟨some 6, none,.asg (.t 5)⟩,⟨some 7, (some (6,true)),.mv (.t 0)⟩,⟨some 8, (some (6,true)),.mv (.t 0)⟩,⟨some 9, (some (6,true)),.len (.t 8)⟩,⟨some 10, (some (6,true)),.bin .sub (.t 9) (.c (vi 1))⟩,⟨some 11, (some (6,true)),.call zl29 [(.rd,(.t 7)),(.val,(.c (vi 0))),(.val,(.t 10))] true⟩,⟨some 12, none,.pick (.t 6) (.t 11) (.c (.bool false))⟩,⟨some 2, none,.asg (.t 12)⟩] [2] []
def zi25:IFun:=⟨[.t 2],[],(.seq z25r0 (.seq z25r1 .ret))⟩
def z26r0:IC:=.reg [⟨some 1, none,.box (.t 0)⟩,⟨some 2, none,.asg (.c (.bool false))⟩] [1] []
def z26r1:IC:=.reg [⟨some 5, none,.fadr 1 (.t 1)⟩,⟨some 6, none,.load false 1 (.t 5)⟩,⟨some 7, none,.len (.t 6)⟩,⟨some 8, none,.mv (.c (vi 0))⟩] [1,6,7,8] []
def z26r2:IC:=.reg [⟨some 9, none,.bin .lss (.t 8) (.t 7)⟩] [1,6,7,8,9] []
def z26r3:IC:=.reg [⟨some 10, none,.asg (.t 8)⟩,⟨some 11, none,.iadr 2 (.t 6) (.t 8)⟩,⟨some 12, none,.load true 2 (.t 11)⟩,⟨some 4, none,.alloc [(vi 0),(vi 0)]⟩,⟨some 3, none,.asg (.t 10)⟩,⟨none,none,.store 2 (.t 4) (.t 12)⟩] [1,3,4,6,7,8] []
def z26r4:IC:=.reg [⟨some 13, none,.fadr 0 (.t 4)⟩,⟨some 14, none,.load false 1 (.t 13)⟩,⟨some 15, none,.bin .lss (.t 14) (.c (vi 0))⟩,⟨some 16, none,.asg (.t 15)⟩,⟨some 17, (some (16,false)),.fadr 0 (.t 4)⟩,⟨some 18, (some (16,false)),.load false 1 (.t 17)⟩,⟨some 19, (some (16,false)),.fadr 1 (.t 4)⟩,⟨some 20, (some (16,false)),.load false 1 (.t 19)⟩,⟨some 21, (some (16,false)),.bin .geq (.t 18) (.t 20)⟩,⟨some 22, none,.pick (.t 16) (.c (.bool true)) (.t 21)⟩,⟨some 23, none,.asg (.t 22)⟩,⟨some 24, (some (23,false)),.fadr 1 (.t 4)⟩,⟨some 25, (some (23,false)),.load false 1 (.t 24)⟩,⟨some 26, (some (23,false)),.fadr 0 (.t 1)⟩,⟨some 27, (some (23,false)),.load false 1 (.t 26)⟩,⟨some 28, (some (23,false)),.bin .geq (.t 25) (.t 27)⟩,⟨some 29, none,.pick (.t 23) (.c (.bool true)) (.t 28)⟩,⟨some 30, none,.asg (.t 29)⟩,⟨some 31, (some (30,false)),.mv (.t 3)⟩,
    ⟨some 32, (some (30,false)),.bin .gtr (.t 31) (.c (vi 0))⟩,⟨some 33, (some (30,false)),.asg (.t 32)⟩,⟨some 34, (some (33,true)),.fadr 1 (.t 1)⟩,⟨some 35, (some (33,true)),.load false 1 (.t 34)⟩,⟨some 36, (some (33,true)),.mv (.t 3)⟩,⟨some 37, (some (33,true)),.bin .sub (.t 36) (.c (vi 1))⟩,⟨some 38, (some (33,true)),.iadr 2 (.t 35) (.t 37)⟩,⟨some 39, (some (33,true)),.load true 2 (.t 38)⟩,⟨some 40, (some (33,true)),.load true 2 (.t 4)⟩,⟨some 41, (some (33,true)),.call zl32 [(.val,(.t 39)),(.val,(.t 40))] true⟩,⟨some 42, (some (33,true)),.bin .geq (.t 41) (.c (vi 0))⟩,⟨some 43, (some (30,false)),.pick (.t 33) (.t 42) (.c (.bool false))⟩,⟨some 44, none,.pick (.t 30) (.c (.bool true)) (.t 43)⟩] [1,6,7,8,44] []
def z26r5:IC:=.reg [⟨some 2, none,.asg (.c (.bool false))⟩] [2] []
def z26r6:IC:=.reg [⟨some 45, none,.bin .add (.t 8) (.c (vi 1))⟩,⟨some 8, none,.asg (.t 45)⟩] [1,6,7,8] []
def z26l7:IC:=(.seq z26r2 (.seq (.cond (.t 9) .skip (.exit 0)) (.seq (.block 1 (.seq z26r3 (.seq z26r4 (.cond (.t 44) (.seq z26r5 .ret) .skip)))) z26r6)))
def z26r8:IC:=.reg [⟨some 46, none,.fadr 0 (.t 1)⟩,⟨some 47, none,.load false 1 (.t 46)⟩,⟨some 48, none,.call zl38 [(.val,(.t 47)),(.val,(.c (vi 0))),(.val,(.c (vi 7)))] true⟩,⟨some 2, none,.asg (.t 48)⟩] [2] []
def zi26:IFun:=⟨[.t 2],[],(.seq z26r0 (.seq (.seq z26r1 (.block 0 (.loop z26l7))) (.seq z26r8 .ret)))⟩
def z27r0:IC:=.reg [⟨some 2, none,.asg (.c (.bool false))⟩] [0] []
def z27r1:IC:=.reg [⟨some 5, none,.mv (.t 0)⟩,⟨some 6, none,.len (.t 5)⟩,⟨some 7, none,.mv (.c (vi 0))⟩] [0,5,6,7] []
def z27r2:IC:=.reg [⟨some 8, none,.bin .lss (.t 7) (.t 6)⟩] [0,5,6,7,8] []
def z27r3:IC:=.reg [⟨some 9, none,.iadr 1 (.t 5) (.t 7)⟩,⟨some 10, none,.load false 1 (.t 9)⟩,⟨some 4, none,.asg (.t 10)⟩] [0,4,5,6,7] []
def z27r4:IC:=.reg [⟨some 11, none,.mv (.t 4)⟩,⟨some 12, none,.len (.t 11)⟩,⟨some 13, none,.mv (.t 0)⟩,⟨some 14, none,.iadr 1 (.t 13) (.c (vi 0))⟩,⟨some 15, none,.load false 1 (.t 14)⟩,⟨some 16, none,.len (.t 15)⟩,⟨some 17, none,.bin .neq (.t 12) (.t 16)⟩,⟨some 18, none,.asg (.t 17)⟩,⟨some 19, (some (18,false)),.mv (.t 4)⟩,⟨some 20, (some (18,false)),.len (.t 19)⟩,⟨some 21, (some (18,false)),.call zl38 [(.val,(.t 20)),(.val,(.c (vi 1))),(.val,(.c (vi 5)))] true⟩,⟨some 22, (some (18,false)),.unop .not (.t 21)⟩,⟨some 23, none,.pick (.t 18) (.c (.bool true)) (.t 22)⟩,⟨some 24, none,.asg (.t 23)⟩,⟨some 25, (some (24,false)),.mv (.t 4)⟩,⟨some 26, (some (24,false)),.call zl29 [(.rd,(.t 25)),(.val,(.c (vi 0))),(.val,(.c (vi 1)))] true⟩,⟨some 27, (some (24,false)),.unop .not (.t 26)⟩,⟨some 28, none,.pick (.t 24) (.c (.bool true)) (.t 27)⟩] [0,5,6,7,28] []
def z27r5:IC:=.reg [⟨some 2, none,.asg (.c (.bool false))⟩] [2] []
def z27r6:IC:=.reg [⟨some 29, none,.bin .add (.t 7) (.c (vi 1))⟩,⟨some 7, none,.asg (.t 29)⟩] [0,5,6,7] []
def z27l7:IC:=(.seq z27r2 (.seq (.cond (.t 8) .skip (.exit 0)) (.seq (.block 1 (.seq z27r3 (.seq z27r4 (.cond (.t 28) (.seq z27r5 .ret) .skip)))) z27r6)))
def z27r8:IC:=.reg [⟨some 30, none,.mv (.t 0)⟩,⟨some 31, none,.len (.t 30)⟩,⟨some 32, none,.call zl38 [(.val,(.t 31)),(.val,(.c (vi 1))),(.val,(.c (vi 5)))] true⟩,⟨some 2, none,.asg (.t 32)⟩] [2] []
def zi27:IFun:=⟨[.t 2],[],(.seq z27r0 (.seq (.seq z27r1 (.block 0 (.loop z27l7))) (.seq z27r8 .ret)))⟩
def z29r0:IC:=.reg [⟨some 4, none,.box (.t 1)⟩,⟨some 5, none,.box (.t 2)⟩,⟨some 6, none,.asg (.c (.bool false))⟩] [0,4,5] []
def z29r1:IC:=.reg [⟨some 7, none,.mv (.t 0)⟩,⟨some 8, none,.mkfn zl30 [(.t 4),(.t 5)]⟩,⟨some 9, none,.call zl72 [(.rd,(.t 7)),(.val,(.t 8))] false⟩,⟨some 10, none,.unop .not (.t 9)⟩,⟨some 6, none,.asg (.t 10)⟩] [6] []
def zi29:IFun:=⟨[.t 6],[],(.seq z29r0 (.seq z29r1 .ret))⟩
def z30r0:IC:=.reg [⟨some 4, none,.asg (.c (.bool false))⟩] [0,1,2] []
def z30r1:IC:=.reg [⟨some 5, none,.mv (.t 0)⟩,⟨some 6, none,.load false 1 (.t 1)⟩,⟨some 7, none,.load false 1 (.t 2)⟩,⟨some 8, none,.call zl38 [(.val,(.t 5)),(.val,(.t 6)),(.val,(.t 7))] true⟩,⟨some 9, none,.unop .not (.t 8)⟩,⟨some 4, none,.asg (.t 9)⟩] [4] []
def zi30:IFun:=⟨[.t 4],[],(.seq z30r0 (.seq z30r1 .ret))⟩
def z521r0:IC:=.reg [⟨some 3, none,.box (.t 1)⟩,⟨some 4, none,.asg (.c (.bool false))⟩] [0,3] []
def z521r1:IC:=.reg [⟨some 7, none,.mv (.t 0)⟩,⟨some 8, none,.len (.t 7)⟩,⟨some 9, none,.bin .sub (.t 8) (.c (vi 1))⟩,⟨some 10, none,.mv (.t 0)⟩,⟨some 11, none,.iadr 1 (.t 10) (.c (vi 0))⟩,⟨some 12, none,.load false 1 (.t 11)⟩,⟨some 13, none,.len (.t 12)⟩,⟨some 14, none,.bin .sub (.t 13) (.c (vi 1))⟩,⟨some 5, none,.asg (.t 9)⟩,⟨some 6, none,.asg (.t 14)⟩] [0,3,5,6] [[0,1,2,3,4,8,5,6,7,9]]
def z521r2:IC:=.reg [⟨some 15, none,.fadr 0 (.t 3)⟩,⟨some 16, none,.load false 1 (.t 15)⟩,⟨some 17, none,.mv (.t 5)⟩,⟨some 18, none,.call zl38 [(.val,(.t 16)),(.val,(.c (vi 0))),(.val,(.t 17))] true⟩,⟨some 19, none,.asg (.t 18)⟩,⟨some 20, (some (19,true)),.fadr 2 (.t 3)⟩,⟨some 21, (some (19,true)),.load false 1 (.t 20)⟩,⟨some 22, (some (19,true)),.mv (.t 5)⟩,⟨some 23, (some (19,true)),.call zl38 [(.val,(.t 21)),(.val,(.c (vi 0))),(.val,(.t 22))] true⟩,⟨some 24, none,.pick (.t 19) (.t 23) (.c (.bool false))⟩,⟨some 25, none,.asg (.t 24)⟩,⟨some 26, (some (25,true)),.fadr 1 (.t 3)⟩,⟨some 27, (some (25,true)),.load false 1 (.t 26)⟩,⟨some 28, (some (25,true)),.mv (.t 6)⟩,⟨some 29, (some (25,true)),.call zl38 [(.val,(.t 27)),(.val,(.c (vi 0))),(.val,(.t 28))] true⟩,⟨some 30, none,.pick (.t 25) (.t 29) (.c (.bool false))⟩,⟨some 31, none,.asg (.t 30)⟩,
    ⟨some 32, (some (31,true)),.fadr 3 (.t 3)⟩,⟨some 33, (some (31,true)),.load false 1 (.t 32)⟩,⟨some 34, (some (31,true)),.mv (.t 6)⟩,⟨some 35, (some (31,true)),.call zl38 [(.val,(.t 33)),(.val,(.c (vi 0))),(.val,(.t 34))] true⟩,⟨some 36, none,.pick (.t 31) (.t 35) (.c (.bool false))⟩,⟨some 37, none,.asg (.t 36)⟩,⟨some 38, (some (37,true)),.mv (.t 0)⟩,⟨some 39, (some (37,true)),.fadr 0 (.t 3)⟩,⟨some 40, (some (37,true)),.load false 1 (.t 39)⟩,⟨some 41, (some (37,true)),.iadr 1 (.t 38) (.t 40)⟩,⟨some 42, (some (37,true)),.load false 1 (.t 41)⟩,⟨some 43, (some (37,true)),.fadr 1 (.t 3)⟩,⟨some 44, (some (37,true)),.load false 1 (.t 43)⟩,⟨some 45, (some (37,true)),.iadr 1 (.t 42) (.t 44)⟩,⟨some 46, (some (37,true)),.load false 1 (.t 45)⟩,⟨some 47, (some (37,true)),.bin .eql (.t 46) (.c (vi 1))⟩,⟨some 48, none,.pick (.t 37) (.t 47) (.c (.bool false))⟩,⟨some 49, none,.asg (.t 48)⟩,
    ⟨some 50, (some (49,true)),.mv (.t 0)⟩,⟨some 51, (some (49,true)),.fadr 2 (.t 3)⟩,⟨some 52, (some (49,true)),.load false 1 (.t 51)⟩,⟨some 53, (some (49,true)),.iadr 1 (.t 50) (.t 52)⟩,⟨some 54, (some (49,true)),.load false 1 (.t 53)⟩,⟨some 55, (some (49,true)),.fadr 3 (.t 3)⟩,⟨some 56, (some (49,true)),.load false 1 (.t 55)⟩,⟨some 57, (some (49,true)),.iadr 1 (.t 54) (.t 56)⟩,⟨some 58, (some (49,true)),.load false 1 (.t 57)⟩,⟨some 59, (some (49,true)),.bin .eql (.t 58) (.c (vi 1))⟩,⟨some 60, none,.pick (.t 49) (.t 59) (.c (.bool false))⟩,⟨some 61, none,.asg (.t 60)⟩,⟨some 62, (some (61,true)),.mv (.t 0)⟩,⟨some 63, (some (61,true)),.fadr 0 (.t 3)⟩,⟨some 64, (some (61,true)),.load false 1 (.t 63)⟩,⟨some 65, (some (61,true)),.iadr 1 (.t 62) (.t 64)⟩,⟨some 66, (some (61,true)),.load false 1 (.t 65)⟩,⟨some 67, (some (61,true)),.fadr 3 (.t 3)⟩,
    ⟨some 68, (some (61,true)),.load false 1 (.t 67)⟩,⟨some 69, (some (61,true)),.iadr 1 (.t 66) (.t 68)⟩,⟨some 70, (some (61,true)),.load false 1 (.t 69)⟩,⟨some 71, (some (61,true)),.bin .eql (.t 70) (.c (vi 0))⟩,⟨some 72, none,.pick (.t 61) (.t 71) (.c (.bool false))⟩,⟨some 73, none,.asg (.t 72)⟩,⟨some 74, (some (73,true)),.mv (.t 0)⟩,⟨some 75, (some (73,true)),.fadr 2 (.t 3)⟩,⟨some 76, (some (73,true)),.load false 1 (.t 75)⟩,⟨some 77, (some (73,true)),.iadr 1 (.t 74) (.t 76)⟩,⟨some 78, (some (73,true)),.load false 1 (.t 77)⟩,⟨some 79, (some (73,true)),.fadr 1 (.t 3)⟩,⟨some 80, (some (73,true)),.load false 1 (.t 79)⟩,⟨some 81, (some (73,true)),.iadr 1 (.t 78) (.t 80)⟩,⟨some 82, (some (73,true)),.load false 1 (.t 81)⟩,⟨some 83, (some (73,true)),.bin .eql (.t 82) (.c (vi 0))⟩,⟨some 84, none,.pick (.t 73) (.t 83) (.c (.bool false))⟩,⟨some 4, none,.asg (.t 84)⟩] [4] []
def zi521:IFun:=⟨[.t 4],[],(.seq z521r0 (.seq z521r1 (.seq z521r2 .ret)))⟩
def z204r0:IC:=.reg [⟨some 2, none,.asg (.c (.slice none 0 0))⟩] [0] []
def z204r1:IC:=.reg [⟨some 3, none,.mv (.t 0)⟩,⟨some 4, none,.call zl261 [(.rd,(.t 3))] true⟩,⟨some 5, none,.call zl258 [(.tk,(.t 4))] true⟩,⟨some 2, none,.asg (.t 5)⟩] [2] []
def zi204:IFun:=⟨[.t 2],[],(.seq z204r0 (.seq z204r1 .ret))⟩
def z31r0:IC:=.reg [⟨some 2, none,.asg (.c (.slice none 0 0))⟩] [0] []
def z31r1:IC:=.reg [⟨some 3, none,.mv (.t 0)⟩,⟨some 4, none,.call zl71 [(.rd,(.t 3))] true⟩,⟨some 5, none,.call zl70 [(.tk,(.t 4))] true⟩,⟨some 2, none,.asg (.t 5)⟩] [2] []
def zi31:IFun:=⟨[.t 2],[],(.seq z31r0 (.seq z31r1 .ret))⟩
def z32r0:IC:=.reg [⟨some 2, none,.box (.t 0)⟩,⟨some 3, none,.box (.t 1)⟩,⟨some 4, none,.asg (.c (vi 0))⟩] [2,3] []
def z32r1:IC:=.reg [⟨some 5, none,.fadr 0 (.t 2)⟩,⟨some 6, none,.load false 1 (.t 5)⟩,⟨some 7, none,.fadr 0 (.t 3)⟩,⟨some 8, none,.load false 1 (.t 7)⟩,⟨some 9, none,.bin .neq (.t 6) (.t 8)⟩] [2,3,9] []
def z32r2:IC:=.reg [⟨some 10, none,.fadr 0 (.t 2)⟩,⟨some 11, none,.load false 1 (.t 10)⟩,⟨some 12, none,.fadr 0 (.t 3)⟩,⟨some 13, none,.load false 1 (.t 12)⟩,⟨some 14, none,.bin .sub (.t 11) (.t 13)⟩,⟨some 4, none,.asg (.t 14)⟩] [4] []
def z32r3:IC:=.reg [⟨some 15, none,.fadr 1 (.t 2)⟩,⟨some 16, none,.load false 1 (.t 15)⟩,⟨some 17, none,.fadr 1 (.t 3)⟩,⟨some 18, none,.load false 1 (.t 17)⟩,⟨some 19, none,.bin .sub (.t 16) (.t 18)⟩,⟨some 4, none,.asg (.t 19)⟩] [4] []
def zi32:IFun:=⟨[.t 4],[],(.seq z32r0 (.seq (.seq z32r1 (.cond (.t 9) (.seq z32r2 .ret) .skip)) (.seq z32r3 .ret)))⟩
def z35r0:IC:=.reg [⟨some 4, none,.asg (.c (.slice none 0 0))⟩] [0,1] []
def z35r1:IC:=.reg [⟨some 7, none,.mv (.t 0)⟩,⟨some 8, none,.call zl25 [(.rd,(.t 7))] true⟩,⟨some 9, none,.unop .not (.t 8)⟩] [0,1,9] []
def z35r2:IC:=.reg [⟨some 4, none,.asg (.c (.slice none 0 0))⟩] [4,5] []
def z35r3:IC:=.reg [⟨some 10, none,.mv (.t 0)⟩,⟨some 11, none,.len (.t 10)⟩,⟨some 12, none,.mksl 1 [(vi 0)] (.t 11) (.t 11)⟩,⟨some 5, none,.asg (.t 12)⟩] [1,5] []
def z35r4:IC:=.reg [⟨some 13, none,.mv (.t 5)⟩,⟨some 14, none,.len (.t 13)⟩,⟨some 15, none,.mv (.c (vi 0))⟩] [1,5,14,15] []
def z35r5:IC:=.reg [⟨some 16, none,.bin .lss (.t 15) (.t 14)⟩] [1,5,14,15,16] []
def z35r6:IC:=.reg [⟨some 17, none,.asg (.t 15)⟩,⟨some 6, none,.asg (.t 17)⟩] [1,5,6,14,15] []
def z35r7:IC:=.reg [⟨some 18, none,.mv (.t 5)⟩,⟨some 19, none,.mv (.t 6)⟩,⟨some 20, none,.mv (.t 1)⟩,⟨some 21, none,.mv (.t 6)⟩,⟨some 22, none,.callv (.t 20) [(.val,(.t 21))]⟩,⟨some 23, none,.iadr 1 (.t 18) (.t 19)⟩,⟨none,none,.store 1 (.t 23) (.t 22)⟩] [1,5,14,15] []
def z35r8:IC:=.reg [⟨some 24, none,.bin .add (.t 15) (.c (vi 1))⟩,⟨some 15, none,.asg (.t 24)⟩] [1,5,14,15] []
def z35l9:IC:=(.seq z35r5 (.seq (.cond (.t 16) .skip (.exit 0)) (.seq (.block 1 (.seq z35r6 z35r7)) z35r8)))
def z35r10:IC:=.reg [⟨some 25, none,.mv (.t 5)⟩,⟨some 4, none,.asgm (.t 25)⟩] [4,5] []
def zi35:IFun:=⟨[.t 4],[],(.seq z35r0 (.seq (.seq z35r1 (.cond (.t 9) (.seq z35r2 .ret) .skip)) (.seq z35r3 (.seq (.seq z35r4 (.block 0 (.loop z35l9))) (.seq z35r10 .ret)))))⟩
def z36r0:IC:=.reg [⟨some 4, none,.alloc [(vi 0),(vi 0)]⟩] [0,1,4] []
def z36r1:IC:=.reg [⟨some 5, none,.mv (.t 0)⟩,⟨some 6, none,.mv (.t 1)⟩,⟨some 7, none,.minmax true (.t 5) (.t 6)⟩,⟨some 8, none,.mv (.t 0)⟩,⟨some 9, none,.mv (.t 1)⟩,⟨some 10, none,.minmax false (.t 8) (.t 9)⟩,⟨some 11, none,.build [(vi 0),(vi 0)] [(0,1,(.t 7)),(1,1,(.t 10))]⟩,⟨none,none,.store 2 (.t 4) (.t 11)⟩] [4] []
def zi36:IFun:=⟨[.c 4 2 true],[],(.seq z36r0 (.seq z36r1 .ret))⟩
def z37r0:IC:=.reg [⟨some 2, none,.asg (.c (.slice none 0 0))⟩] [0] []
def z37r1:IC:=.reg [⟨some 4, none,.mv (.t 0)⟩,⟨some 5, none,.call zl31 [(.rd,(.t 4))] true⟩,⟨some 3, none,.asg (.t 5)⟩] [3] []
def z37r2:IC:=.reg [⟨some 6, none,.mv (.t 3)⟩,⟨some 7, none,.call zl78 [(.ld,(.t 6))] false⟩] [3] []
def z37r3:IC:=.reg [⟨some 8, none,.mv (.t 3)⟩,⟨some 9, none,.call zl76 [(.ld,(.t 8))] false⟩] [3] []
def z37r4:IC:=.reg [⟨some 10, none,.mv (.t 3)⟩,⟨some 2, none,.asgm (.t 10)⟩] [2,3] []
def zi37:IFun:=⟨[.t 2],[],(.seq z37r0 (.seq z37r1 (.seq z37r2 (.seq z37r3 (.seq z37r4 .ret)))))⟩
def z38r0:IC:=.reg [⟨some 6, none,.asg (.c (.bool false))⟩] [0,1,2] []
def z38r1:IC:=.reg [⟨some 7, none,.mv (.t 0)⟩,⟨some 8, none,.mv (.t 1)⟩,⟨some 9, none,.bin .geq (.t 7) (.t 8)⟩,⟨some 10, none,.asg (.t 9)⟩,⟨some 11, (some (10,true)),.mv (.t 0)⟩,⟨some 12, (some (10,true)),.mv (.t 2)⟩,⟨some 13, (some (10,true)),.bin .leq (.t 11) (.t 12)⟩,⟨some 14, none,.pick (.t 10) (.t 13) (.c (.bool false))⟩,⟨some 6, none,.asg (.t 14)⟩] [6] []
def zi38:IFun:=⟨[.t 6],[],(.seq z38r0 (.seq z38r1 .ret))⟩
def z214r0:IC:=.reg [⟨some 4, none,.alloc [(vi 0),(.slice none 0 0)]⟩] [0,1,4] []
def z214r1:IC:=.reg [⟨some 6, none,.mv (.t 1)⟩,⟨some 7, none,.call zl204 [(.rd,(.t 6))] true⟩,⟨some 5, none,.asg (.t 7)⟩] [0,4,5] []
def z214r2:IC:=.reg [⟨some 8, none,.mv (.t 5)⟩,⟨some 9, none,.call zl272 [(.ld,(.t 8)),(.val,(.f zl32))] false⟩] [0,4,5] []
def z214r3:IC:=.reg [⟨some 10, none,.mv (.t 0)⟩,⟨some 11, none,.mv (.t 5)⟩,⟨some 12, none,.build [(vi 0),(.slice none 0 0)] [(0,1,(.t 10)),(1,1,(.t 11))]⟩,⟨none,none,.store 2 (.t 4) (.t 12)⟩] [4] []
def zi214:IFun:=⟨[.c 4 2 true],[],(.seq z214r0 (.seq z214r1 (.seq z214r2 (.seq z214r3 .ret))))⟩
def z216r0:IC:=.reg [⟨some 2, none,.asg (.c (.slice none 0 0))⟩] [0] []
def z216r1:IC:=.reg [⟨some 3, none,.asg (.c (.slice none 0 0))⟩] [0,3] []
def z216r2:IC:=.reg [⟨some 6, none,.mv (.t 0)⟩,⟨some 7, none,.mv (.c (vi 0))⟩] [0,3,6,7] []
def z216r3:IC:=.reg [⟨some 8, none,.bin .lss (.t 7) (.t 6)⟩] [0,3,6,7,8] []
def z216r4:IC:=.reg [⟨some 9, none,.asg (.t 7)⟩,⟨some 4, none,.asg (.t 9)⟩] [0,3,4,6,7] []
def z216r5:IC:=.reg [⟨some 10, none,.mv (.t 4)⟩,⟨some 11, none,.bin .add (.t 10) (.c (vi 1))⟩,⟨some 5, none,.asg (.t 11)⟩] [0,3,4,5,6,7] []
def z216r6:IC:=.reg [⟨some 12, none,.mv (.t 5)⟩,⟨some 13, none,.mv (.t 0)⟩,⟨some 14, none,.bin .lss (.t 12) (.t 13)⟩] [0,3,4,5,6,7,14] []
def z216r7:IC:=.reg [⟨some 17, none,.mv (.t 3)⟩,⟨some 18, none,.mv (.t 4)⟩,⟨some 19, none,.mv (.t 5)⟩,⟨some 20, none,.build [(vi 0),(vi 0)] [(0,1,(.t 18)),(1,1,(.t 19))]⟩,⟨some 21, none,.bsl 2 [(vi 0),(vi 0)] 1 [(0,(.t 20))]⟩,⟨some 22, none,.app 2 (.t 17) (.t 21)⟩,⟨some 3, none,.asg (.t 22)⟩] [0,3,4,5,6,7] []
def z216r8:IC:=.reg [⟨some 15, none,.mv (.t 5)⟩,⟨some 16, none,.bin .add (.t 15) (.c (vi 1))⟩,⟨some 5, none,.asg (.t 16)⟩] [0,3,4,5,6,7] []
def z216l9:IC:=(.seq (.seq z216r6 (.cond (.t 14) .skip (.exit 2))) (.seq (.block 3 z216r7) z216r8))
def z216r10:IC:=.reg [⟨some 23, none,.bin .add (.t 7) (.c (vi 1))⟩,⟨some 7, none,.asg (.t 23)⟩] [0,3,6,7] []
def z216l11:IC:=(.seq z216r3 (.seq (.cond (.t 8) .skip (.exit 0)) (.seq (.block 1 (.seq z216r4 (.seq z216r5 (.block 2 (.loop z216l9))))) z216r10)))
def z216r12:IC:=.reg [⟨some 24, none,.mv (.t 3)⟩,⟨some 2, none,.asgm (.t 24)⟩] [2,3] []
def zi216:IFun:=⟨[.t 2],[],(.seq z216r0 (.seq z216r1 (.seq (.seq z216r2 (.block 0 (.loop z216l11))) (.seq z216r12 .ret))))⟩
def z40r0:IC:=.reg [⟨some 2, none,.asg (.c (vi 0))⟩] [0] []
def z40r1:IC:=.reg [⟨some 3, none,.asg (.c (vi 0))⟩] [0,3] []
def z40r2:IC:=.reg [⟨some 6, none,.mv (.t 0)⟩,⟨some 7, none,.len (.t 6)⟩,⟨some 8, none,.mv (.c (vi 0))⟩] [0,3,6,7,8] []
def z40r3:IC:=.reg [⟨some 9, none,.bin .lss (.t 8) (.t 7)⟩] [0,3,6,7,8,9] []
def z40r4:IC:=.reg [⟨some 10, none,.iadr 1 (.t 6) (.t 8)⟩,⟨some 11, none,.load false 1 (.t 10)⟩,⟨some 5, none,.asg (.t 11)⟩] [0,3,5,6,7,8] []
def z40r5:IC:=.reg [⟨some 12, none,.mv (.t 3)⟩,⟨some 13, none,.mv (.t 5)⟩,⟨some 14, none,.bin .add (.t 12) (.t 13)⟩,⟨some 3, none,.asg (.t 14)⟩] [0,3,6,7,8] []
def z40r6:IC:=.reg [⟨some 15, none,.bin .add (.t 8) (.c (vi 1))⟩,⟨some 8, none,.asg (.t 15)⟩] [0,3,6,7,8] []
def z40l7:IC:=(.seq z40r3 (.seq (.cond (.t 9) .skip (.exit 0)) (.seq (.block 1 (.seq z40r4 z40r5)) z40r6)))
def z40r8:IC:=.reg [⟨some 16, none,.mv (.t 3)⟩,⟨some 2, none,.asgm (.t 16)⟩] [2] []
def zi40:IFun:=⟨[.t 2],[],(.seq z40r0 (.seq z40r1 (.seq (.seq z40r2 (.block 0 (.loop z40l7))) (.seq z40r8 .ret))))⟩
def z220r0:IC:=.reg [⟨some 4, none,.alloc [(vi 0),(.slice none 0 0)]⟩] [0,1,4] []
def z220r1:IC:=.reg [⟨some 5, none,.asg (.c (.slice none 0 0))⟩] [0,1,4,5] []
def z220r2:IC:=.reg [⟨some 8, none,.mv (.t 0)⟩,⟨some 9, none,.call zl216 [(.val,(.t 8))] true⟩,⟨some 10, none,.len (.t 9)⟩,⟨some 11, none,.mv (.c (vi 0))⟩] [0,1,4,5,9,10,11] []
def z220r3:IC:=.reg [⟨some 12, none,.bin .lss (.t 11) (.t 10)⟩] [0,1,4,5,9,10,11,12] []
def z220r4:IC:=.reg [⟨some 13, none,.iadr 2 (.t 9) (.t 11)⟩,⟨some 14, none,.load true 2 (.t 13)⟩,⟨some 7, none,.alloc [(vi 0),(vi 0)]⟩,⟨none,none,.store 2 (.t 7) (.t 14)⟩] [0,1,4,5,7,9,10,11] []
def z220r5:IC:=.reg [⟨some 15, none,.mv (.t 1)⟩,⟨some 16, none,.fadr 0 (.t 7)⟩,⟨some 17, none,.load false 1 (.t 16)⟩,⟨some 18, none,.fadr 1 (.t 7)⟩,⟨some 19, none,.load false 1 (.t 18)⟩,⟨some 20, none,.callv (.t 15) [(.val,(.t 17)),(.val,(.t 19))]⟩] [0,1,4,5,7,9,10,11,20] []
def z220r6:IC:=.reg [⟨some 21, none,.mv (.t 5)⟩,⟨some 22, none,.load true 2 (.t 7)⟩,⟨some 23, none,.bsl 2 [(vi 0),(vi 0)] 1 [(0,(.t 22))]⟩,⟨some 24, none,.app 2 (.t 21) (.t 23)⟩,⟨some 5, none,.asg (.t 24)⟩] [0,1,4,5,9,10,11] []
def z220r7:IC:=.reg [⟨some 25, none,.bin .add (.t 11) (.c (vi 1))⟩,⟨some 11, none,.asg (.t 25)⟩] [0,1,4,5,9,10,11] []
def z220l8:IC:=(.seq z220r3 (.seq (.cond (.t 12) .skip (.exit 0)) (.seq (.block 1 (.seq z220r4 (.seq z220r5 (.cond (.t 20) z220r6 .skip)))) z220r7)))
def z220r9:IC:=.reg [⟨some 26, none,.mv (.t 0)⟩,⟨some 27, none,.mv (.t 5)⟩,⟨some 28, none,.call zl258 [(.tk,(.t 27))] true⟩,⟨some 29, none,.build [(vi 0),(.slice none 0 0)] [(0,1,(.t 26)),(1,1,(.t 28))]⟩,⟨none,none,.store 2 (.t 4) (.t 29)⟩] [4] []
def zi220:IFun:=⟨[.c 4 2 true],[],(.seq z220r0 (.seq z220r1 (.seq (.seq z220r2 (.block 0 (.loop z220l8))) (.seq z220r9 .ret))))⟩
def z537r0:IC:=.reg [⟨some 2, none,.asg (.c (.bool false))⟩] [0] []
def z537r1:IC:=.reg [⟨some 12, none,.mv (.t 0)⟩,⟨some 13, none,.len (.t 12)⟩,⟨some 14, none,.bin .gtr (.t 13) (.c (vi 1048576))⟩] [0,14] []
def z537r2:IC:=.reg [⟨some 2, none,.asg (.c (.bool true))⟩] [2] []
def z537r3:IC:=.reg [⟨some 15, none,.mv (.t 0)⟩,⟨some 16, none,.call zl566 [(.rd,(.t 15))] true⟩,⟨some 3, none,.asg (.t 16)⟩] [3] []
def z537r4:IC:=.reg [⟨some 18, none,.mv (.t 3)⟩,⟨some 19, none,.call zl513 [(.rd,(.t 18))] true⟩,⟨some 17, none,.asg (.t 19)⟩,⟨some 20, none,.extr (.t 17) 0⟩,⟨some 21, none,.extr (.t 17) 1⟩,⟨some 4, none,.alloc [(vi 0),(.slice none 0 0)]⟩,⟨none,none,.storef 2 (.t 4) (.t 20)⟩,⟨some 5, none,.asg (.t 21)⟩] [3,4,5] []
def z537r5:IC:=.reg [⟨some 23, none,.mv (.t 3)⟩,⟨some 24, none,.call zl576 [(.rd,(.t 23))] true⟩,⟨some 22, none,.asg (.t 24)⟩,⟨some 25, none,.extr (.t 22) 0⟩,⟨some 26, none,.extr (.t 22) 1⟩,⟨some 6, none,.alloc [(vi 0),(.slice none 0 0)]⟩,⟨none,none,.storef 2 (.t 6) (.t 25)⟩,⟨some 7, none,.asg (.t 26)⟩] [3,4,5,6,7] []
def z537r6:IC:=.reg [⟨some 27, none,.load true 2 (.t 4)⟩,⟨some 28, none,.load true 2 (.t 6)⟩,⟨some 29, none,.call zl238 [(.rd,(.t 27)),(.rd,(.t 28))] true⟩,⟨some 30, none,.unop .not (.t 29)⟩,⟨some 31, none,.asg (.t 30)⟩,⟨some 32, (some (31,false)),.mv (.t 5)⟩,⟨some 33, (some (31,false)),.mv (.t 7)⟩,⟨some 34, (some (31,false)),.eqb true (.t 32) (.t 33)⟩,⟨some 35, none,.pick (.t 31) (.c (.bool true)) (.t 34)⟩,⟨some 36, none,.asg (.t 35)⟩,⟨some 37, (some (36,false)),.mv (.t 5)⟩,⟨some 38, (some (36,false)),.unop .not (.t 37)⟩,⟨some 39, none,.pick (.t 36) (.c (.bool true)) (.t 38)⟩] [3,4,5,6,7,39] []
def z537r7:IC:=.reg [⟨some 40, none,.load true 2 (.t 4)⟩,⟨some 41, none,.load true 2 (.t 6)⟩,⟨some 42, none,.call zl238 [(.rd,(.t 40)),(.rd,(.t 41))] true⟩,⟨some 43, none,.asg (.t 42)⟩,⟨some 44, (some (43,true)),.mv (.t 5)⟩,⟨some 45, (some (43,true)),.mv (.t 7)⟩,⟨some 46, (some (43,true)),.eqb false (.t 44) (.t 45)⟩,⟨some 47, none,.pick (.t 43) (.t 46) (.c (.bool false))⟩,⟨some 2, none,.asg (.t 47)⟩] [2] []
def z537r8:IC:=.reg [⟨some 49, none,.mv (.t 3)⟩,⟨some 50, none,.call zl16 [(.rd,(.t 49))] true⟩,⟨some 48, none,.asg (.t 50)⟩,⟨some 51, none,.extr (.t 48) 0⟩,⟨some 52, none,.extr (.t 48) 1⟩,⟨some 8, none,.asg (.t 51)⟩,⟨some 9, none,.asg (.t 52)⟩] [3,4,8,9] []
def z537r9:IC:=.reg [⟨some 53, none,.load true 2 (.t 4)⟩,⟨some 54, none,.call zl161 [(.rd,(.t 53))] true⟩,⟨some 10, none,.asg (.t 54)⟩] [3,4,8,9,10] []
def z537r10:IC:=.reg [⟨some 11, none,.asg (.c (vi 0))⟩] [3,4,8,9,10,11] []
def z537r11:IC:=.reg [⟨some 55, none,.mv (.t 11)⟩,⟨some 56, none,.mv (.t 8)⟩,⟨some 57, none,.len (.t 56)⟩,⟨some 58, none,.bin .lss (.t 55) (.t 57)⟩] [3,4,8,9,10,11,58] []
def z537r12:IC:=.reg [⟨some 61, none,.mv (.t 10)⟩,⟨some 62, none,.mv (.t 11)⟩,⟨some 63, none,.iadr 1 (.t 61) (.t 62)⟩,⟨some 64, none,.load false 1 (.t 63)⟩,⟨some 65, none,.mv (.t 8)⟩,⟨some 66, none,.mv (.t 11)⟩,⟨some 67, none,.iadr 1 (.t 65) (.t 66)⟩,⟨some 68, none,.load false 1 (.t 67)⟩,⟨some 69, none,.mv (.t 8)⟩,⟨some 70, none,.len (.t 69)⟩,⟨some 71, none,.bin .add (.t 68) (.t 70)⟩,⟨some 72, none,.bin .sub (.t 71) (.c (vi 1))⟩,⟨some 73, none,.bin .neq (.t 64) (.t 72)⟩] [3,4,8,9,10,11,73] []
def z537r13:IC:=.reg [⟨some 2, none,.asg (.c (.bool false))⟩] [2] []
def z537r14:IC:=.reg [⟨some 59, none,.mv (.t 11)⟩,⟨some 60, none,.bin .add (.t 59) (.c (vi 1))⟩,⟨some 11, none,.asg (.t 60)⟩] [3,4,8,9,10,11] []
def z537l15:IC:=(.seq (.seq z537r11 (.cond (.t 58) .skip (.exit 0))) (.seq (.block 1 (.seq z537r12 (.cond (.t 73) (.seq z537r13 .ret) .skip))) z537r14))
def z537r16:IC:=.reg [⟨some 74, none,.mv (.t 10)⟩,⟨some 75, none,.mv (.t 8)⟩,⟨some 76, none,.len (.t 75)⟩,⟨some 77, none,.slc 1 (.t 74) (some (.t 76)) none none⟩,⟨some 78, none,.mv (.t 9)⟩,⟨some 79, none,.call zl53 [(.rd,(.t 77)),(.rd,(.t 78))] true⟩,⟨some 80, none,.asg (.t 79)⟩,⟨some 81, (some (80,true)),.mv (.t 10)⟩,⟨some 82, (some (80,true)),.call zl186 [(.rd,(.t 81))] true⟩,⟨some 83, none,.pick (.t 80) (.t 82) (.c (.bool false))⟩,⟨some 84, none,.asg (.t 83)⟩,⟨some 85, (some (84,true)),.load true 2 (.t 4)⟩,⟨some 86, (some (84,true)),.call zl199 [(.rd,(.t 85))] true⟩,⟨some 87, (some (84,true)),.len (.t 86)⟩,⟨some 88, (some (84,true)),.mv (.t 3)⟩,⟨some 89, (some (84,true)),.call zl508 [(.rd,(.t 88))] true⟩,⟨some 90, (some (84,true)),.len (.t 89)⟩,⟨some 91, (some (84,true)),.bin .eql (.t 87) (.t 90)⟩,⟨some 92, none,.pick (.t 84) (.t 91) (.c (.bool false))⟩,
    ⟨some 2, none,.asg (.t 92)⟩] [2] []
def zi537:IFun:=⟨[.t 2],[],(.seq z537r0 (.seq (.seq z537r1 (.cond (.t 14) (.seq z537r2 .ret) .skip)) (.seq z537r3 (.seq z537r4 (.seq z537r5 (.seq (.seq z537r6 (.cond (.t 39) (.seq z537r7 .ret) .skip)) (.seq z537r8 (.seq z537r9 (.seq (.seq z537r10 (.block 0 (.loop z537l15))) (.seq z537r16 .ret))))))))))⟩
def z237r0:IC:=.reg [⟨some 4, none,.asg (.c (.bool false))⟩] [0,1] []
def z237r1:IC:=.reg [⟨some 6, none,.mv (.t 0)⟩,⟨some 7, none,.len (.t 6)⟩,⟨some 8, none,.mv (.t 1)⟩,⟨some 9, none,.len (.t 8)⟩,⟨some 10, none,.bin .neq (.t 7) (.t 9)⟩] [0,1,10] []
def z237r2:IC:=.reg [⟨some 4, none,.asg (.c (.bool false))⟩] [4] []
def z237r3:IC:=.reg [⟨some 5, none,.asg (.c (vi 0))⟩] [0,1,5] []
def z237r4:IC:=.reg [⟨some 11, none,.mv (.t 5)⟩,⟨some 12, none,.mv (.t 0)⟩,⟨some 13, none,.len (.t 12)⟩,⟨some 14, none,.bin .lss (.t 11) (.t 13)⟩] [0,1,5,14] []
def z237r5:IC:=.reg [⟨some 17, none,.mv (.t 0)⟩,⟨some 18, none,.mv (.t 5)⟩,⟨some 19, none,.iadr 2 (.t 17) (.t 18)⟩,⟨some 20, none,.load true 2 (.t 19)⟩,⟨some 21, none,.mv (.t 1)⟩,⟨some 22, none,.mv (.t 5)⟩,⟨some 23, none,.iadr 2 (.t 21) (.t 22)⟩,⟨some 24, none,.load true 2 (.t 23)⟩,⟨some 25, none,.eqa true 2 (.t 20) (.t 24)⟩] [0,1,5,25] []
def z237r6:IC:=.reg [⟨some 4, none,.asg (.c (.bool false))⟩] [4] []
def z237r7:IC:=.reg [⟨some 15, none,.mv (.t 5)⟩,⟨some 16, none,.bin .add (.t 15) (.c (vi 1))⟩,⟨some 5, none,.asg (.t 16)⟩] [0,1,5] []
def z237l8:IC:=(.seq (.seq z237r4 (.cond (.t 14) .skip (.exit 0))) (.seq (.block 1 (.seq z237r5 (.cond (.t 25) (.seq z237r6 .ret) .skip))) z237r7))
def z237r9:IC:=.reg [⟨some 4, none,.asg (.c (.bool true))⟩] [4] []
def zi237:IFun:=⟨[.t 4],[],(.seq z237r0 (.seq (.seq z237r1 (.cond (.t 10) (.seq z237r2 .ret) .skip)) (.seq (.seq z237r3 (.block 0 (.loop z237l8))) (.seq z237r9 .ret))))⟩
def z238r0:IC:=.reg [⟨some 2, none,.box (.t 0)⟩,⟨some 3, none,.box (.t 1)⟩,⟨some 4, none,.asg (.c (.bool false))⟩] [2,3] []
def z238r1:IC:=.reg [⟨some 5, none,.fadr 0 (.t 2)⟩,⟨some 6, none,.load false 1 (.t 5)⟩,⟨some 7, none,.fadr 0 (.t 3)⟩,⟨some 8, none,.load false 1 (.t 7)⟩,⟨some 9, none,.bin .eql (.t 6) (.t 8)⟩,⟨some 10, none,.asg (.t 9)⟩,⟨some 11, (some (10,true)),.fadr 1 (.t 2)⟩,⟨some 12, (some (10,true)),.load false 1 (.t 11)⟩,⟨some 13, (some (10,true)),.fadr 1 (.t 3)⟩,⟨some 14, (some (10,true)),.load false 1 (.t 13)⟩,⟨some 15, (some (10,true)),.call zl237 [(.rd,(.t 12)),(.rd,(.t 14))] true⟩,⟨some 16, none,.pick (.t 10) (.t 15) (.c (.bool false))⟩,⟨some 4, none,.asg (.t 16)⟩] [4] []
def zi238:IFun:=⟨[.t 4],[],(.seq z238r0 (.seq z238r1 .ret))⟩
def z53r0:IC:=.reg [⟨some 4, none,.asg (.c (.bool false))⟩] [0,1] []
def z53r1:IC:=.reg [⟨some 6, none,.mv (.t 0)⟩,⟨some 7, none,.len (.t 6)⟩,⟨some 8, none,.mv (.t 1)⟩,⟨some 9, none,.len (.t 8)⟩,⟨some 10, none,.bin .neq (.t 7) (.t 9)⟩] [0,1,10] []
def z53r2:IC:=.reg [⟨some 4, none,.asg (.c (.bool false))⟩] [4] []
def z53r3:IC:=.reg [⟨some 5, none,.asg (.c (vi 0))⟩] [0,1,5] []
def z53r4:IC:=.reg [⟨some 11, none,.mv (.t 5)⟩,⟨some 12, none,.mv (.t 0)⟩,⟨some 13, none,.len (.t 12)⟩,⟨some 14, none,.bin .lss (.t 11) (.t 13)⟩] [0,1,5,14] []
def z53r5:IC:=.reg [⟨some 17, none,.mv (.t 0)⟩,⟨some 18, none,.mv (.t 5)⟩,⟨some 19, none,.iadr 1 (.t 17) (.t 18)⟩,⟨some 20, none,.load false 1 (.t 19)⟩,⟨some 21, none,.mv (.t 1)⟩,⟨some 22, none,.mv (.t 5)⟩,⟨some 23, none,.iadr 1 (.t 21) (.t 22)⟩,⟨some 24, none,.load false 1 (.t 23)⟩,⟨some 25, none,.bin .neq (.t 20) (.t 24)⟩] [0,1,5,25] []
def z53r6:IC:=.reg [⟨some 4, none,.asg (.c (.bool false))⟩] [4] []
def z53r7:IC:=.reg [⟨some 15, none,.mv (.t 5)⟩,⟨some 16, none,.bin .add (.t 15) (.c (vi 1))⟩,⟨some 5, none,.asg (.t 16)⟩] [0,1,5] []
def z53l8:IC:=(.seq (.seq z53r4 (.cond (.t 14) .skip (.exit 0))) (.seq (.block 1 (.seq z53r5 (.cond (.t 25) (.seq z53r6 .ret) .skip))) z53r7))
def z53r9:IC:=.reg [⟨some 4, none,.asg (.c (.bool true))⟩] [4] []
def zi53:IFun:=⟨[.t 4],[],(.seq z53r0 (.seq (.seq z53r1 (.cond (.t 10) (.seq z53r2 .ret) .skip)) (.seq (.seq z53r3 (.block 0 (.loop z53l8))) (.seq z53r9 .ret))))⟩
def z66r0:IC:=.reg [⟨some 2, none,.asg (.c (vi 0))⟩] [0] []
def z66r1:IC:=.reg [⟨some 3, none,.mv (.t 0)⟩,⟨some 4, none,.conv .u32 (.t 3)⟩,⟨some 5, none,.call zl67 [(.val,(.t 4))] true⟩,⟨some 2, none,.asg (.t 5)⟩] [2] []
def z66r2:IC:=.reg [⟨some 6, none,.mv (.t 0)⟩,⟨some 7, none,.call zl68 [(.val,(.t 6))] true⟩,⟨some 2, none,.asg (.t 7)⟩] [2] []
def zi66:IFun:=⟨[.t 2],[],(.seq z66r0 (.seq (.cond (.c (.bool false)) (.seq z66r1 .ret) .skip) (.seq z66r2 .ret)))⟩
def z68r0:IC:=.reg [⟨some 2, none,.asg (.c (vi 0))⟩] [0,2] []
def z68r1:IC:=.reg [⟨some 3, none,.mv (.t 0)⟩,⟨some 4, none,.bin .geq (.t 3) (.c (.int .u64 (4294967296)))⟩] [0,2,4] []
def z68r2:IC:=.reg [⟨some 5, none,.mv (.t 0)⟩,⟨some 6, none,.bin .shr (.t 5) (.c (.int .u64 (32)))⟩,⟨some 0, none,.asg (.t 6)⟩] [0] []
def z68r3:IC:=.reg [⟨some 2, none,.asg (.c (vi 32))⟩] [0,2] []
def z68r4:IC:=.reg [⟨some 7, none,.mv (.t 0)⟩,⟨some 8, none,.bin .geq (.t 7) (.c (.int .u64 (65536)))⟩] [0,2,8] []
def z68r5:IC:=.reg [⟨some 9, none,.mv (.t 0)⟩,⟨some 10, none,.bin .shr (.t 9) (.c (.int .u64 (16)))⟩,⟨some 0, none,.asg (.t 10)⟩] [0,2] []
def z68r6:IC:=.reg [⟨some 11, none,.mv (.t 2)⟩,⟨some 12, none,.bin .add (.t 11) (.c (vi 16))⟩,⟨some 2, none,.asg (.t 12)⟩] [0,2] []
def z68r7:IC:=.reg [⟨some 13, none,.mv (.t 0)⟩,⟨some 14, none,.bin .geq (.t 13) (.c (.int .u64 (256)))⟩] [0,2,14] []
def z68r8:IC:=.reg [⟨some 15, none,.mv (.t 0)⟩,⟨some 16, none,.bin .shr (.t 15) (.c (.int .u64 (8)))⟩,⟨some 0, none,.asg (.t 16)⟩] [0,2] []
def z68r9:IC:=.reg [⟨some 17, none,.mv (.t 2)⟩,⟨some 18, none,.bin .add (.t 17) (.c (vi 8))⟩,⟨some 2, none,.asg (.t 18)⟩] [0,2] []
def z68r10:IC:=.reg [⟨some 19, none,.mv (.t 2)⟩,⟨some 20, none,.mv (.t 0)⟩,⟨some 21, none,.conv .u8 (.t 20)⟩,⟨some 22, none,.idxs (.c (.string ⟨#[0,1,2,2,3,3,3,3,4,4,4,4,4,4,4,4,5,5,5,5,5,5,5,5,5,5,5,5,5,5,5,5,6,6,6,6,6,6,6,6,6,6,6,6,6,6,6,6,6,6,6,6,6,6,6,6,6,6,6,6,6,6,6,6,7,7,7,7,7,7,7,7,7,7,7,7,7,7,7,7,7,7,7,7,7,7,7,7,7,7,7,7,7,7,7,7,7,7,7,7,7,7,7,7,7,7,7,7,7,7,7,7,7,7,7,7,7,7,7,7,7,7,7,7,7,7,7,7,8,8,8,8,8,8,8,8,8,8,8,8,8,8,8,8,8,8,8,8,8,8,8,8,8,8,8,8,8,8,8,8,8,8,8,8,8,8,8,8,8,8,8,8,8,8,8,8,8,8,8,8,8,8,8,8,8,8,8,8,8,8,8,8,8,8,8,8,8,8,8,8,8,8,8,8,8,8,8,8,8,8,8,8,8,8,8,8,8,8,8,8,8,8,8,8,8,8,8,8,8,8,8,8,8,8,8,8,8,8,8,8,8,8,8,8,8,8,8,8,8,8,8,8,8,8,8,8]⟩)) (.t 21)⟩,⟨some 23, none,.conv .i64 (.t 22)⟩,⟨some 24, none,.bin .add (.t 19) (.t 23)⟩,⟨some 2, none,.asg (.t 24)⟩] [2] []
def zi68:IFun:=⟨[.t 2],[],(.seq z68r0 (.seq (.seq z68r1 (.cond (.t 4) (.seq z68r2 z68r3) .skip)) (.seq (.seq z68r4 (.cond (.t 8) (.seq z68r5 z68r6) .skip)) (.seq (.seq z68r7 (.cond (.t 14) (.seq z68r8 z68r9) .skip)) (.seq z68r10 .ret)))))⟩
def z258r0:IC:=.reg [⟨some 2, none,.asg (.c (.slice none 0 0))⟩] [0] []
def z258r1:IC:=.reg [⟨some 3, none,.mv (.t 0)⟩,⟨some 4, none,.mv (.t 0)⟩,⟨some 5, none,.len (.t 4)⟩,⟨some 6, none,.mv (.t 0)⟩,⟨some 7, none,.len (.t 6)⟩,⟨some 8, none,.slc 2 (.t 3) none (some (.t 5)) (some (.t 7))⟩,⟨some 2, none,.asgm (.t 8)⟩] [0,2] []
def zi258:IFun:=⟨[.t 2],[],(.seq z258r0 (.seq z258r1 .ret))⟩
def z260r0:IC:=.reg [⟨some 2, none,.asg (.c (.slice none 0 0))⟩] [0] []
def z260r1:IC:=.reg [⟨some 3, none,.mv (.t 0)⟩,⟨some 4, none,.mv (.t 0)⟩,⟨some 5, none,.len (.t 4)⟩,⟨some 6, none,.mv (.t 0)⟩,⟨some 7, none,.len (.t 6)⟩,⟨some 8, none,.slc 4 (.t 3) none (some (.t 5)) (some (.t 7))⟩,⟨some 2, none,.asgm (.t 8)⟩] [0,2] []
def zi260:IFun:=⟨[.t 2],[],(.seq z260r0 (.seq z260r1 .ret))⟩
def z70r0:IC:=.reg [⟨some 2, none,.asg (.c (.slice none 0 0))⟩] [0] []
def z70r1:IC:=.reg [⟨some 3, none,.mv (.t 0)⟩,⟨some 4, none,.mv (.t 0)⟩,⟨some 5, none,.len (.t 4)⟩,⟨some 6, none,.mv (.t 0)⟩,⟨some 7, none,.len (.t 6)⟩,⟨some 8, none,.slc 1 (.t 3) none (some (.t 5)) (some (.t 7))⟩,⟨some 2, none,.asgm (.t 8)⟩] [0,2] []
def zi70:IFun:=⟨[.t 2],[],(.seq z70r0 (.seq z70r1 .ret))⟩
def z261r0:IC:=.reg [⟨some 2, none,.nilo 2⟩] [0] []
def z261r1:List IOp:=[⟨some 3, none,.mv (.t 0)⟩]
def z261r2:IC:=.reg [⟨some 2, none,.nilo 2⟩] [2] []
def z261r3:IC:=.reg [⟨some 5, none,.bsl 2 [(vi 0),(vi 0)] 0 []⟩,⟨some 6, none,.mv (.t 0)⟩,⟨some 7, none,.app 2 (.t 5) (.t 6)⟩,⟨some 2, none,.asg (.t 7)⟩] [2] []
def zi261:IFun:=⟨[.t 2],[],(.seq z261r0 (.nilc2 z261r1 (.t 3) 4 [0,4] (.cond (.t 4) (.seq z261r2 .ret) .skip) (.seq z261r3 .ret)))⟩
def z71r0:IC:=.reg [⟨some 2, none,.nilo 1⟩] [0] []
def z71r1:List IOp:=[⟨some 3, none,.mv (.t 0)⟩]
def z71r2:IC:=.reg [⟨some 2, none,.nilo 1⟩] [2] []
def z71r3:IC:=.reg [⟨some 5, none,.bsl 1 [(vi 0)] 0 []⟩,⟨some 6, none,.mv (.t 0)⟩,⟨some 7, none,.app 1 (.t 5) (.t 6)⟩,⟨some 2, none,.asg (.t 7)⟩] [2] []
def zi71:IFun:=⟨[.t 2],[],(.seq z71r0 (.nilc2 z71r1 (.t 3) 4 [0,4] (.cond (.t 4) (.seq z71r2 .ret) .skip) (.seq z71r3 .ret)))⟩
def z72r0:IC:=.reg [⟨some 4, none,.asg (.c (.bool false))⟩] [0,1] []
def z72r1:IC:=.reg [⟨some 5, none,.mv (.t 0)⟩,⟨some 6, none,.mv (.t 1)⟩,⟨some 7, none,.call zl73 [(.rd,(.t 5)),(.val,(.t 6))] false⟩,⟨some 8, none,.bin .geq (.t 7) (.c (vi 0))⟩,⟨some 4, none,.asg (.t 8)⟩] [4] []
def zi72:IFun:=⟨[.t 4],[],(.seq z72r0 (.seq z72r1 .ret))⟩
def z263r0:IC:=.reg [⟨some 3, none,.box (.t 1)⟩,⟨some 4, none,.asg (.c (.bool false))⟩] [0,3] []
def z263r1:IC:=.reg [⟨some 5, none,.mv (.t 0)⟩,⟨some 6, none,.load true 2 (.t 3)⟩,⟨some 7, none,.call zl269 [(.rd,(.t 5)),(.val,(.t 6))] true⟩,⟨some 8, none,.bin .geq (.t 7) (.c (vi 0))⟩,⟨some 4, none,.asg (.t 8)⟩] [4] []
def zi263:IFun:=⟨[.t 4],[],(.seq z263r0 (.seq z263r1 .ret))⟩
def z265r0:IC:=.reg [⟨some 4, none,.asg (.c (.slice none 0 0))⟩] [0,1] []
def z265r1:IC:=.reg [⟨some 8, none,.mv (.t 0)⟩,⟨some 9, none,.mv (.t 1)⟩,⟨some 10, none,.call zl448 [(.ld,(.t 8)),(.val,(.t 9))] false⟩,⟨some 5, none,.asg (.t 10)⟩] [0,1,5] []
def z265r2:IC:=.reg [⟨some 11, none,.mv (.t 5)⟩,⟨some 12, none,.bin .eql (.t 11) (.c (vi (-1)))⟩] [0,1,5,12] []
def z265r3:IC:=.reg [⟨some 13, none,.mv (.t 0)⟩,⟨some 4, none,.asgm (.t 13)⟩] [0,4] []
def z265r4:IC:=.reg [⟨some 14, none,.mv (.t 5)⟩,⟨some 15, none,.bin .add (.t 14) (.c (vi 1))⟩,⟨some 6, none,.asg (.t 15)⟩] [0,1,5,6] []
def z265r5:IC:=.reg [⟨some 16, none,.mv (.t 6)⟩,⟨some 17, none,.mv (.t 0)⟩,⟨some 18, none,.len (.t 17)⟩,⟨some 19, none,.bin .lss (.t 16) (.t 18)⟩] [0,1,5,6,19] []
def z265r6:IC:=.reg [⟨some 22, none,.mv (.t 0)⟩,⟨some 23, none,.mv (.t 6)⟩,⟨some 24, none,.iadr 2 (.t 22) (.t 23)⟩,⟨some 25, none,.load true 2 (.t 24)⟩,⟨some 7, none,.alloc [(vi 0),(vi 0)]⟩,⟨none,none,.store 2 (.t 7) (.t 25)⟩] [0,1,5,6,7] []
def z265r7:IC:=.reg [⟨some 26, none,.mv (.t 1)⟩,⟨some 27, none,.load true 2 (.t 7)⟩,⟨some 28, none,.callv (.t 26) [(.val,(.t 27))]⟩,⟨some 29, none,.unop .not (.t 28)⟩] [0,1,5,6,7,29] []
def z265r8:IC:=.reg [⟨some 30, none,.mv (.t 0)⟩,⟨some 31, none,.mv (.t 5)⟩,⟨some 32, none,.load true 2 (.t 7)⟩,⟨some 33, none,.iadr 2 (.t 30) (.t 31)⟩,⟨none,none,.store 2 (.t 33) (.t 32)⟩] [0,1,5,6] []
def z265r9:IC:=.reg [⟨some 34, none,.mv (.t 5)⟩,⟨some 35, none,.bin .add (.t 34) (.c (vi 1))⟩,⟨some 5, none,.asg (.t 35)⟩] [0,1,5,6] []
def z265r10:IC:=.reg [⟨some 20, none,.mv (.t 6)⟩,⟨some 21, none,.bin .add (.t 20) (.c (vi 1))⟩,⟨some 6, none,.asg (.t 21)⟩] [0,1,5,6] []
def z265l11:IC:=(.seq (.seq z265r5 (.cond (.t 19) .skip (.exit 0))) (.seq (.block 1 (.seq z265r6 (.seq z265r7 (.cond (.t 29) (.seq z265r8 z265r9) .skip)))) z265r10))
def z265r12:IC:=.reg [⟨some 36, none,.mv (.t 0)⟩,⟨some 37, none,.mv (.t 5)⟩,⟨some 38, none,.slc 2 (.t 36) (some (.t 37)) none none⟩,⟨none,none,.clr (.t 38) [(vi 0),(vi 0)]⟩] [0,5] []
def z265r13:IC:=.reg [⟨some 39, none,.mv (.t 0)⟩,⟨some 40, none,.mv (.t 5)⟩,⟨some 41, none,.slc 2 (.t 39) none (some (.t 40)) none⟩,⟨some 4, none,.asgm (.t 41)⟩] [0,4] []
def zi265:IFun:=⟨[.t 4],[],(.seq z265r0 (.seq z265r1 (.seq (.seq z265r2 (.cond (.t 12) (.seq z265r3 .ret) .skip)) (.seq (.seq z265r4 (.block 0 (.loop z265l11))) (.seq z265r12 (.seq z265r13 .ret))))))⟩
def z448r0:IC:=.reg [⟨some 4, none,.asg (.c (vi 0))⟩] [0,1] []
def z448r1:IC:=.reg [⟨some 6, none,.mv (.t 0)⟩,⟨some 7, none,.len (.t 6)⟩,⟨some 8, none,.mv (.c (vi 0))⟩] [0,1,7,8] []
def z448r2:IC:=.reg [⟨some 9, none,.bin .lss (.t 8) (.t 7)⟩] [0,1,7,8,9] []
def z448r3:IC:=.reg [⟨some 10, none,.asg (.t 8)⟩,⟨some 5, none,.asg (.t 10)⟩] [0,1,5,7,8] []
def z448r4:IC:=.reg [⟨some 11, none,.mv (.t 1)⟩,⟨some 12, none,.mv (.t 0)⟩,⟨some 13, none,.mv (.t 5)⟩,⟨some 14, none,.iadr 2 (.t 12) (.t 13)⟩,⟨some 15, none,.load true 2 (.t 14)⟩,⟨some 16, none,.callv (.t 11) [(.val,(.t 15))]⟩] [0,1,5,7,8,16] []
def z448r5:IC:=.reg [⟨some 17, none,.mv (.t 5)⟩,⟨some 4, none,.asgm (.t 17)⟩] [0,4] []
def z448r6:IC:=.reg [⟨some 18, none,.bin .add (.t 8) (.c (vi 1))⟩,⟨some 8, none,.asg (.t 18)⟩] [0,1,7,8] []
def z448l7:IC:=(.seq z448r2 (.seq (.cond (.t 9) .skip (.exit 0)) (.seq (.block 1 (.seq z448r3 (.seq z448r4 (.cond (.t 16) (.seq z448r5 .ret) .skip)))) z448r6)))
def z448r8:IC:=.reg [⟨some 4, none,.asg (.c (vi (-1)))⟩] [0,4] []
def zi448:IFun:=⟨[.t 4],[0],(.seq z448r0 (.seq (.seq z448r1 (.block 0 (.loop z448l7))) (.seq z448r8 .ret)))⟩
def z73r0:IC:=.reg [⟨some 4, none,.asg (.c (vi 0))⟩] [0,1] []
def z73r1:IC:=.reg [⟨some 6, none,.mv (.t 0)⟩,⟨some 7, none,.len (.t 6)⟩,⟨some 8, none,.mv (.c (vi 0))⟩] [0,1,7,8] []
def z73r2:IC:=.reg [⟨some 9, none,.bin .lss (.t 8) (.t 7)⟩] [0,1,7,8,9] []
def z73r3:IC:=.reg [⟨some 10, none,.asg (.t 8)⟩,⟨some 5, none,.asg (.t 10)⟩] [0,1,5,7,8] []
def z73r4:IC:=.reg [⟨some 11, none,.mv (.t 1)⟩,⟨some 12, none,.mv (.t 0)⟩,⟨some 13, none,.mv (.t 5)⟩,⟨some 14, none,.iadr 1 (.t 12) (.t 13)⟩,⟨some 15, none,.load false 1 (.t 14)⟩,⟨some 16, none,.callv (.t 11) [(.val,(.t 15))]⟩] [0,1,5,7,8,16] []
def z73r5:IC:=.reg [⟨some 17, none,.mv (.t 5)⟩,⟨some 4, none,.asgm (.t 17)⟩] [4] []
def z73r6:IC:=.reg [⟨some 18, none,.bin .add (.t 8) (.c (vi 1))⟩,⟨some 8, none,.asg (.t 18)⟩] [0,1,7,8] []
def z73l7:IC:=(.seq z73r2 (.seq (.cond (.t 9) .skip (.exit 0)) (.seq (.block 1 (.seq z73r3 (.seq z73r4 (.cond (.t 16) (.seq z73r5 .ret) .skip)))) z73r6)))
def z73r8:IC:=.reg [⟨some 4, none,.asg (.c (vi (-1)))⟩] [4] []
def zi73:IFun:=⟨[.t 4],[],(.seq z73r0 (.seq (.seq z73r1 (.block 0 (.loop z73l7))) (.seq z73r8 .ret)))⟩
def z269r0:IC:=.reg [⟨some 3, none,.box (.t 1)⟩,⟨some 4, none,.asg (.c (vi 0))⟩] [0,3] []
def z269r1:IC:=.reg [⟨some 6, none,.mv (.t 0)⟩,⟨some 7, none,.len (.t 6)⟩,⟨some 8, none,.mv (.c (vi 0))⟩] [0,3,7,8] []
def z269r2:IC:=.reg [⟨some 9, none,.bin .lss (.t 8) (.t 7)⟩] [0,3,7,8,9] []
def z269r3:IC:=.reg [⟨some 10, none,.asg (.t 8)⟩,⟨some 5, none,.asg (.t 10)⟩] [0,3,5,7,8] []
def z269r4:IC:=.reg [⟨some 11, none,.load true 2 (.t 3)⟩,⟨some 12, none,.mv (.t 0)⟩,⟨some 13, none,.mv (.t 5)⟩,⟨some 14, none,.iadr 2 (.t 12) (.t 13)⟩,⟨some 15, none,.load true 2 (.t 14)⟩,⟨some 16, none,.eqa false 2 (.t 11) (.t 15)⟩] [0,3,5,7,8,16] []
def z269r5:IC:=.reg [⟨some 17, none,.mv (.t 5)⟩,⟨some 4, none,.asgm (.t 17)⟩] [4] []
def z269r6:IC:=.reg [⟨some 18, none,.bin .add (.t 8) (.c (vi 1))⟩,⟨some 8, none,.asg (.t 18)⟩] [0,3,7,8] []
def z269l7:IC:=(.seq z269r2 (.seq (.cond (.t 9) .skip (.exit 0)) (.seq (.block 1 (.seq z269r3 (.seq z269r4 (.cond (.t 16) (.seq z269r5 .ret) .skip)))) z269r6)))
def z269r8:IC:=.reg [⟨some 4, none,.asg (.c (vi (-1)))⟩] [4] []
def zi269:IFun:=⟨[.t 4],[],(.seq z269r0 (.seq (.seq z269r1 (.block 0 (.loop z269l7))) (.seq z269r8 .ret)))⟩
def z76r0:IC:=.reg [⟨some 4, none,.mv (.t 0)⟩,⟨some 5, none,.len (.t 4)⟩,⟨some 6, none,.bin .sub (.t 5) (.c (vi 1))⟩,⟨some 2, none,.asg (.c (vi 0))⟩,⟨some 3, none,.asg (.t 6)⟩] [0,2,3] []
def z76r1:IC:=.reg [⟨some 7, none,.mv (.t 2)⟩,⟨some 8, none,.mv (.t 3)⟩,⟨some 9, none,.bin .lss (.t 7) (.t 8)⟩] [0,2,3,9] []
def z76r2:IC:=.reg [⟨some 14, none,.mv (.t 0)⟩,⟨some 15, none,.mv (.t 2)⟩,⟨some 16, none,.mv (.t 0)⟩,⟨some 17, none,.mv (.t 3)⟩,⟨some 18, none,.mv (.t 0)⟩,⟨some 19, none,.mv (.t 3)⟩,⟨some 20, none,.iadr 1 (.t 18) (.t 19)⟩,⟨some 21, none,.load false 1 (.t 20)⟩,⟨some 22, none,.mv (.t 0)⟩,⟨some 23, none,.mv (.t 2)⟩,⟨some 24, none,.iadr 1 (.t 22) (.t 23)⟩,⟨some 25, none,.load false 1 (.t 24)⟩,⟨some 26, none,.iadr 1 (.t 14) (.t 15)⟩,⟨none,none,.store 1 (.t 26) (.t 21)⟩,⟨some 27, none,.iadr 1 (.t 16) (.t 17)⟩,⟨none,none,.store 1 (.t 27) (.t 25)⟩] [0,2,3] []
def z76r3:IC:=.reg [⟨some 10, none,.mv (.t 2)⟩,⟨some 11, none,.bin .add (.t 10) (.c (vi 1))⟩,⟨some 12, none,.mv (.t 3)⟩,⟨some 13, none,.bin .sub (.t 12) (.c (vi 1))⟩,⟨some 2, none,.asg (.t 11)⟩,⟨some 3, none,.asg (.t 13)⟩] [0,2,3] []
def z76l4:IC:=(.seq (.seq z76r1 (.cond (.t 9) .skip (.exit 0))) (.seq (.block 1 z76r2) z76r3))
def zi76:IFun:=⟨[],[0],(.seq z76r0 (.block 0 (.loop z76l4)))⟩
def z272r0:IC:=.reg [⟨some 5, none,.mv (.t 0)⟩,⟨some 6, none,.len (.t 5)⟩,⟨some 4, none,.asg (.t 6)⟩] [0,1,4] []
def z272r1:IC:=.reg [⟨some 7, none,.mv (.t 0)⟩,⟨some 8, none,.mv (.t 4)⟩,⟨some 9, none,.mv (.t 4)⟩,⟨some 10, none,.conv .u64 (.t 9)⟩,⟨some 11, none,.call zl66 [(.val,(.t 10))] true⟩,⟨some 12, none,.mv (.t 1)⟩,⟨some 13, none,.call zl285 [(.ld,(.t 7)),(.val,(.c (vi 0))),(.val,(.t 8)),(.val,(.t 11)),(.val,(.t 12))] false⟩] [0] []
def zi272:IFun:=⟨[],[0],(.seq z272r0 z272r1)⟩
def z78r0:IC:=.reg [⟨some 3, none,.mv (.t 0)⟩,⟨some 4, none,.len (.t 3)⟩,⟨some 2, none,.asg (.t 4)⟩] [0,2] []
def z78r1:IC:=.reg [⟨some 5, none,.mv (.t 0)⟩,⟨some 6, none,.mv (.t 2)⟩,⟨some 7, none,.mv (.t 2)⟩,⟨some 8, none,.conv .u64 (.t 7)⟩,⟨some 9, none,.call zl66 [(.val,(.t 8))] true⟩,⟨some 10, none,.call zl101 [(.ld,(.t 5)),(.val,(.c (vi 0))),(.val,(.t 6)),(.val,(.t 9))] false⟩] [0] []
def zi78:IFun:=⟨[],[0],(.seq z78r0 z78r1)⟩
def z274r0:IC:=.reg [⟨some 13, none,.mv (.t 2)⟩,⟨some 14, none,.mv (.t 1)⟩,⟨some 15, none,.bin .sub (.t 13) (.t 14)⟩,⟨some 8, none,.asg (.t 15)⟩] [0,1,8] []
def z274r1:IC:=.reg [⟨some 16, none,.mv (.t 8)⟩,⟨some 17, none,.bin .geq (.t 16) (.c (vi 8))⟩] [0,1,8,17] []
def z274r2:IC:=.reg [⟨some 18, none,.mv (.t 8)⟩,⟨some 19, none,.conv .u64 (.t 18)⟩,⟨some 9, none,.alloc [(.int .u64 (0))]⟩,⟨none,none,.store 1 (.t 9) (.t 19)⟩] [0,1,8,9] []
def z274r3:IC:=.reg [⟨some 20, none,.mv (.t 8)⟩,⟨some 21, none,.call zl91 [(.val,(.t 20))] true⟩,⟨some 10, none,.asg (.t 21)⟩] [0,1,8,9,10] []
def z274r4:IC:=.reg [⟨some 22, none,.mv (.t 1)⟩,⟨some 23, none,.mv (.t 8)⟩,⟨some 24, none,.bin .quo (.t 23) (.c (vi 4))⟩,⟨some 25, none,.bin .mul (.t 24) (.c (vi 2))⟩,⟨some 26, none,.bin .add (.t 22) (.t 25)⟩,⟨some 27, none,.bin .sub (.t 26) (.c (vi 1))⟩,⟨some 11, none,.asg (.t 27)⟩] [0,1,8,9,10,11] []
def z274r5:IC:=.reg [⟨some 28, none,.mv (.t 11)⟩,⟨some 29, none,.mv (.t 1)⟩,⟨some 30, none,.mv (.t 8)⟩,⟨some 31, none,.bin .quo (.t 30) (.c (vi 4))⟩,⟨some 32, none,.bin .mul (.t 31) (.c (vi 2))⟩,⟨some 33, none,.bin .add (.t 29) (.t 32)⟩,⟨some 34, none,.bin .add (.t 33) (.c (vi 1))⟩,⟨some 35, none,.bin .leq (.t 28) (.t 34)⟩] [0,1,8,9,10,11,35] []
def z274r6:IC:=.reg [⟨some 38, none,.call zl106 [(.val,(.t 9))] false⟩,⟨some 39, none,.mv (.t 10)⟩,⟨some 40, none,.bin .sub (.t 39) (.c (.int .u64 (1)))⟩,⟨some 41, none,.bin .and (.t 38) (.t 40)⟩,⟨some 42, none,.conv .i64 (.t 41)⟩,⟨some 12, none,.asg (.t 42)⟩] [0,1,8,9,10,11,12] []
def z274r7:IC:=.reg [⟨some 43, none,.mv (.t 12)⟩,⟨some 44, none,.mv (.t 8)⟩,⟨some 45, none,.bin .geq (.t 43) (.t 44)⟩] [0,1,8,9,10,11,12,45] []
def z274r8:IC:=.reg [⟨some 46, none,.mv (.t 12)⟩,⟨some 47, none,.mv (.t 8)⟩,⟨some 48, none,.bin .sub (.t 46) (.t 47)⟩,⟨some 12, none,.asg (.t 48)⟩] [0,1,8,9,10,11,12] []
def z274r9:IC:=.reg [⟨some 49, none,.mv (.t 0)⟩,⟨some 50, none,.mv (.t 11)⟩,⟨some 51, none,.mv (.t 0)⟩,⟨some 52, none,.mv (.t 1)⟩,⟨some 53, none,.mv (.t 12)⟩,⟨some 54, none,.bin .add (.t 52) (.t 53)⟩,⟨some 55, none,.mv (.t 0)⟩,⟨some 56, none,.mv (.t 1)⟩,⟨some 57, none,.mv (.t 12)⟩,⟨some 58, none,.bin .add (.t 56) (.t 57)⟩,⟨some 59, none,.iadr 2 (.t 55) (.t 58)⟩,⟨some 60, none,.load true 2 (.t 59)⟩,⟨some 61, none,.mv (.t 0)⟩,⟨some 62, none,.mv (.t 11)⟩,⟨some 63, none,.iadr 2 (.t 61) (.t 62)⟩,⟨some 64, none,.load true 2 (.t 63)⟩,⟨some 65, none,.iadr 2 (.t 49) (.t 50)⟩,⟨none,none,.store 2 (.t 65) (.t 60)⟩,⟨some 66, none,.iadr 2 (.t 51) (.t 54)⟩,⟨none,none,.store 2 (.t 66) (.t 64)⟩] [0,1,8,9,10,11] []
def z274r10:IC:=.reg [⟨some 36, none,.mv (.t 11)⟩,⟨some 37, none,.bin .add (.t 36) (.c (vi 1))⟩,⟨some 11, none,.asg (.t 37)⟩] [0,1,8,9,10,11] []
def z274l11:IC:=(.seq (.seq z274r5 (.cond (.t 35) .skip (.exit 0))) (.seq (.block 1 (.seq z274r6 (.seq (.seq z274r7 (.cond (.t 45) z274r8 .skip)) z274r9))) z274r10))
def zi274:IFun:=⟨[],[0],(.seq z274r0 (.seq z274r1 (.cond (.t 17) (.seq z274r2 (.seq z274r3 (.seq z274r4 (.block 0 (.loop z274l11))))) .skip)))⟩
def z450r0:IC:=.reg [⟨some 8, none,.asg (.c (vi 0))⟩,⟨some 9, none,.asg (.c (vi 0))⟩] [0,1,2,3] []
def z450r1:IC:=.reg [⟨some 15, none,.mv (.t 2)⟩,⟨some 16, none,.mv (.t 1)⟩,⟨some 17, none,.bin .sub (.t 15) (.t 16)⟩,⟨some 10, none,.asg (.t 17)⟩] [0,1,3,10] []
def z450r2:IC:=.reg [⟨some 11, none,.alloc [(vi 0)]⟩] [0,1,3,10,11] []
def z450r3:IC:=.reg [⟨some 18, none,.mv (.t 1)⟩,⟨some 19, none,.mv (.t 10)⟩,⟨some 20, none,.bin .quo (.t 19) (.c (vi 4))⟩,⟨some 21, none,.bin .mul (.t 20) (.c (vi 1))⟩,⟨some 22, none,.bin .add (.t 18) (.t 21)⟩,⟨some 12, none,.asg (.t 22)⟩] [0,1,3,10,11,12] []
def z450r4:IC:=.reg [⟨some 23, none,.mv (.t 1)⟩,⟨some 24, none,.mv (.t 10)⟩,⟨some 25, none,.bin .quo (.t 24) (.c (vi 4))⟩,⟨some 26, none,.bin .mul (.t 25) (.c (vi 2))⟩,⟨some 27, none,.bin .add (.t 23) (.t 26)⟩,⟨some 13, none,.asg (.t 27)⟩] [0,1,3,10,11,12,13] []
def z450r5:IC:=.reg [⟨some 28, none,.mv (.t 1)⟩,⟨some 29, none,.mv (.t 10)⟩,⟨some 30, none,.bin .quo (.t 29) (.c (vi 4))⟩,⟨some 31, none,.bin .mul (.t 30) (.c (vi 3))⟩,⟨some 32, none,.bin .add (.t 28) (.t 31)⟩,⟨some 14, none,.asg (.t 32)⟩] [0,3,10,11,12,13,14] []
def z450r6:IC:=.reg [⟨some 33, none,.mv (.t 10)⟩,⟨some 34, none,.bin .geq (.t 33) (.c (vi 8))⟩] [0,3,10,11,12,13,14,34] []
def z450r7:IC:=.reg [⟨some 35, none,.mv (.t 10)⟩,⟨some 36, none,.bin .geq (.t 35) (.c (vi 50))⟩] [0,3,11,12,13,14,36] []
def z450r8:IC:=.reg [⟨some 37, none,.mv (.t 0)⟩,⟨some 38, none,.mv (.t 12)⟩,⟨some 39, none,.mv (.t 3)⟩,⟨some 40, none,.call zl452 [(.ld,(.t 37)),(.val,(.t 38)),(.val,(.t 11)),(.val,(.t 39))] false⟩,⟨some 12, none,.asg (.t 40)⟩] [0,3,11,12,13,14] []
def z450r9:IC:=.reg [⟨some 41, none,.mv (.t 0)⟩,⟨some 42, none,.mv (.t 13)⟩,⟨some 43, none,.mv (.t 3)⟩,⟨some 44, none,.call zl452 [(.ld,(.t 41)),(.val,(.t 42)),(.val,(.t 11)),(.val,(.t 43))] false⟩,⟨some 13, none,.asg (.t 44)⟩] [0,3,11,12,13,14] []
def z450r10:IC:=.reg [⟨some 45, none,.mv (.t 0)⟩,⟨some 46, none,.mv (.t 14)⟩,⟨some 47, none,.mv (.t 3)⟩,⟨some 48, none,.call zl452 [(.ld,(.t 45)),(.val,(.t 46)),(.val,(.t 11)),(.val,(.t 47))] false⟩,⟨some 14, none,.asg (.t 48)⟩] [0,3,11,12,13,14] []
def z450r11:IC:=.reg [⟨some 49, none,.mv (.t 0)⟩,⟨some 50, none,.mv (.t 12)⟩,⟨some 51, none,.mv (.t 13)⟩,⟨some 52, none,.mv (.t 14)⟩,⟨some 53, none,.mv (.t 3)⟩,⟨some 54, none,.call zl454 [(.ld,(.t 49)),(.val,(.t 50)),(.val,(.t 51)),(.val,(.t 52)),(.val,(.t 11)),(.val,(.t 53))] false⟩,⟨some 13, none,.asg (.t 54)⟩] [0,11,13] []
def z450r12:IC:=.reg [⟨some 55, none,.load false 1 (.t 11)⟩] [0,13,55] []
def z450r13:IC:=.reg [⟨some 58, none,.bin .eql (.t 55) (.c (vi 0))⟩,⟨some 57, none,.asg (.t 58)⟩] [0,13,55,57] []
def z450r14:IC:=.reg [⟨some 59, none,.mv (.t 13)⟩,⟨some 8, none,.asgm (.t 59)⟩,⟨some 9, none,.asg (.c (vi 1))⟩] [0,8,9] []
def z450r15:IC:=.reg [⟨some 61, none,.bin .eql (.t 55) (.c (vi 12))⟩,⟨some 60, none,.asg (.t 61)⟩] [0,13,60] []
def z450r16:IC:=.reg [⟨some 62, none,.mv (.t 13)⟩,⟨some 8, none,.asgm (.t 62)⟩,⟨some 9, none,.asg (.c (vi 2))⟩] [0,8,9] []
def z450r17:IC:=.reg [⟨some 56, none,.mv (.t 13)⟩,⟨some 8, none,.asgm (.t 56)⟩,⟨some 9, none,.asg (.c (vi 0))⟩] [0,8,9] []
def zi450:IFun:=⟨[.t 8,.t 9],[0],(.seq z450r0 (.seq z450r1 (.seq z450r2 (.seq z450r3 (.seq z450r4 (.seq z450r5 (.seq (.seq z450r6 (.cond (.t 34) (.seq (.seq z450r7 (.cond (.t 36) (.seq z450r8 (.seq z450r9 z450r10)) .skip)) z450r11) .skip)) (.seq z450r12 (.block 0 (.seq z450r13 (.cond (.t 57) (.seq z450r14 .ret) (.seq z450r15 (.cond (.t 60) (.seq z450r16 .ret) (.seq z450r17 .ret))))))))))))))⟩
def z277r0:IC:=.reg [⟨some 10, none,.mv (.t 1)⟩,⟨some 11, none,.bin .add (.t 10) (.c (vi 1))⟩,⟨some 8, none,.asg (.t 11)⟩] [0,1,2,3,8] []
def z277r1:IC:=.reg [⟨some 12, none,.mv (.t 8)⟩,⟨some 13, none,.mv (.t 2)⟩,⟨some 14, none,.bin .lss (.t 12) (.t 13)⟩] [0,1,2,3,8,14] []
def z277r2:IC:=.reg [⟨some 17, none,.mv (.t 8)⟩,⟨some 9, none,.asg (.t 17)⟩] [0,1,2,3,8,9] []
def z277r3:IC:=.reg [⟨some 18, none,.mv (.t 9)⟩,⟨some 19, none,.mv (.t 1)⟩,⟨some 20, none,.bin .gtr (.t 18) (.t 19)⟩,⟨some 21, none,.asg (.t 20)⟩,⟨some 22, (some (21,true)),.mv (.t 3)⟩,⟨some 23, (some (21,true)),.mv (.t 0)⟩,⟨some 24, (some (21,true)),.mv (.t 9)⟩,⟨some 25, (some (21,true)),.iadr 2 (.t 23) (.t 24)⟩,⟨some 26, (some (21,true)),.load true 2 (.t 25)⟩,⟨some 27, (some (21,true)),.mv (.t 0)⟩,⟨some 28, (some (21,true)),.mv (.t 9)⟩,⟨some 29, (some (21,true)),.bin .sub (.t 28) (.c (vi 1))⟩,⟨some 30, (some (21,true)),.iadr 2 (.t 27) (.t 29)⟩,⟨some 31, (some (21,true)),.load true 2 (.t 30)⟩,⟨some 32, (some (21,true)),.callv (.t 22) [(.val,(.t 26)),(.val,(.t 31))]⟩,⟨some 33, (some (21,true)),.bin .lss (.t 32) (.c (vi 0))⟩,⟨some 34, none,.pick (.t 21) (.t 33) (.c (.bool false))⟩] [0,1,2,3,8,9,34] []
def z277r4:IC:=.reg [⟨some 37, none,.mv (.t 0)⟩,⟨some 38, none,.mv (.t 9)⟩,⟨some 39, none,.mv (.t 0)⟩,⟨some 40, none,.mv (.t 9)⟩,⟨some 41, none,.bin .sub (.t 40) (.c (vi 1))⟩,⟨some 42, none,.mv (.t 0)⟩,⟨some 43, none,.mv (.t 9)⟩,⟨some 44, none,.bin .sub (.t 43) (.c (vi 1))⟩,⟨some 45, none,.iadr 2 (.t 42) (.t 44)⟩,⟨some 46, none,.load true 2 (.t 45)⟩,⟨some 47, none,.mv (.t 0)⟩,⟨some 48, none,.mv (.t 9)⟩,⟨some 49, none,.iadr 2 (.t 47) (.t 48)⟩,⟨some 50, none,.load true 2 (.t 49)⟩,⟨some 51, none,.iadr 2 (.t 37) (.t 38)⟩,⟨none,none,.store 2 (.t 51) (.t 46)⟩,⟨some 52, none,.iadr 2 (.t 39) (.t 41)⟩,⟨none,none,.store 2 (.t 52) (.t 50)⟩] [0,1,2,3,8,9] []
def z277r5:IC:=.reg [⟨some 35, none,.mv (.t 9)⟩,⟨some 36, none,.bin .sub (.t 35) (.c (vi 1))⟩,⟨some 9, none,.asg (.t 36)⟩] [0,1,2,3,8,9] []
def z277l6:IC:=(.seq (.seq z277r3 (.cond (.t 34) .skip (.exit 2))) (.seq (.block 3 z277r4) z277r5))
def z277r7:IC:=.reg [⟨some 15, none,.mv (.t 8)⟩,⟨some 16, none,.bin .add (.t 15) (.c (vi 1))⟩,⟨some 8, none,.asg (.t 16)⟩] [0,1,2,3,8] []
def z277l8:IC:=(.seq (.seq z277r1 (.cond (.t 14) .skip (.exit 0))) (.seq (.block 1 (.seq z277r2 (.block 2 (.loop z277l6)))) z277r7))
def zi277:IFun:=⟨[],[0],(.seq z277r0 (.block 0 (.loop z277l8)))⟩
def z86r0:IC:=.reg [⟨some 8, none,.mv (.t 1)⟩,⟨some 9, none,.bin .add (.t 8) (.c (vi 1))⟩,⟨some 6, none,.asg (.t 9)⟩] [0,1,2,6] []
def z86r1:IC:=.reg [⟨some 10, none,.mv (.t 6)⟩,⟨some 11, none,.mv (.t 2)⟩,⟨some 12, none,.bin .lss (.t 10) (.t 11)⟩] [0,1,2,6,12] []
def z86r2:IC:=.reg [⟨some 15, none,.mv (.t 6)⟩,⟨some 7, none,.asg (.t 15)⟩] [0,1,2,6,7] []
def z86r3:IC:=.reg [⟨some 16, none,.mv (.t 7)⟩,⟨some 17, none,.mv (.t 1)⟩,⟨some 18, none,.bin .gtr (.t 16) (.t 17)⟩,⟨some 19, none,.asg (.t 18)⟩,⟨some 20, (some (19,true)),.mv (.t 0)⟩,⟨some 21, (some (19,true)),.mv (.t 7)⟩,⟨some 22, (some (19,true)),.iadr 1 (.t 20) (.t 21)⟩,⟨some 23, (some (19,true)),.load false 1 (.t 22)⟩,⟨some 24, (some (19,true)),.mv (.t 0)⟩,⟨some 25, (some (19,true)),.mv (.t 7)⟩,⟨some 26, (some (19,true)),.bin .sub (.t 25) (.c (vi 1))⟩,⟨some 27, (some (19,true)),.iadr 1 (.t 24) (.t 26)⟩,⟨some 28, (some (19,true)),.load false 1 (.t 27)⟩,⟨some 29, (some (19,true)),.call zl2 [(.val,(.t 23)),(.val,(.t 28))] true⟩,⟨some 30, none,.pick (.t 19) (.t 29) (.c (.bool false))⟩] [0,1,2,6,7,30] []
def z86r4:IC:=.reg [⟨some 33, none,.mv (.t 0)⟩,⟨some 34, none,.mv (.t 7)⟩,⟨some 35, none,.mv (.t 0)⟩,⟨some 36, none,.mv (.t 7)⟩,⟨some 37, none,.bin .sub (.t 36) (.c (vi 1))⟩,⟨some 38, none,.mv (.t 0)⟩,⟨some 39, none,.mv (.t 7)⟩,⟨some 40, none,.bin .sub (.t 39) (.c (vi 1))⟩,⟨some 41, none,.iadr 1 (.t 38) (.t 40)⟩,⟨some 42, none,.load false 1 (.t 41)⟩,⟨some 43, none,.mv (.t 0)⟩,⟨some 44, none,.mv (.t 7)⟩,⟨some 45, none,.iadr 1 (.t 43) (.t 44)⟩,⟨some 46, none,.load false 1 (.t 45)⟩,⟨some 47, none,.iadr 1 (.t 33) (.t 34)⟩,⟨none,none,.store 1 (.t 47) (.t 42)⟩,⟨some 48, none,.iadr 1 (.t 35) (.t 37)⟩,⟨none,none,.store 1 (.t 48) (.t 46)⟩] [0,1,2,6,7] []
def z86r5:IC:=.reg [⟨some 31, none,.mv (.t 7)⟩,⟨some 32, none,.bin .sub (.t 31) (.c (vi 1))⟩,⟨some 7, none,.asg (.t 32)⟩] [0,1,2,6,7] []
def z86l6:IC:=(.seq (.seq z86r3 (.cond (.t 30) .skip (.exit 2))) (.seq (.block 3 z86r4) z86r5))
def z86r7:IC:=.reg [⟨some 13, none,.mv (.t 6)⟩,⟨some 14, none,.bin .add (.t 13) (.c (vi 1))⟩,⟨some 6, none,.asg (.t 14)⟩] [0,1,2,6] []
def z86l8:IC:=(.seq (.seq z86r1 (.cond (.t 12) .skip (.exit 0))) (.seq (.block 1 (.seq z86r2 (.block 2 (.loop z86l6)))) z86r7))
def zi86:IFun:=⟨[],[0],(.seq z86r0 (.block 0 (.loop z86l8)))⟩
def z454r0:IC:=.reg [⟨some 12, none,.asg (.c (vi 0))⟩] [0,1,2,3,4,5] []
def z454r1:IC:=.reg [⟨some 14, none,.mv (.t 0)⟩,⟨some 15, none,.mv (.t 1)⟩,⟨some 16, none,.mv (.t 2)⟩,⟨some 17, none,.mv (.t 4)⟩,⟨some 18, none,.mv (.t 5)⟩,⟨some 19, none,.call zl456 [(.ld,(.t 14)),(.val,(.t 15)),(.val,(.t 16)),(.val,(.t 17)),(.val,(.t 18))] false⟩,⟨some 13, none,.asg (.t 19)⟩,⟨some 20, none,.extr (.t 13) 0⟩,⟨some 21, none,.extr (.t 13) 1⟩,⟨some 1, none,.asg (.t 20)⟩,⟨some 2, none,.asg (.t 21)⟩] [0,1,2,3,4,5] []
def z454r2:IC:=.reg [⟨some 23, none,.mv (.t 0)⟩,⟨some 24, none,.mv (.t 2)⟩,⟨some 25, none,.mv (.t 3)⟩,⟨some 26, none,.mv (.t 4)⟩,⟨some 27, none,.mv (.t 5)⟩,⟨some 28, none,.call zl456 [(.ld,(.t 23)),(.val,(.t 24)),(.val,(.t 25)),(.val,(.t 26)),(.val,(.t 27))] false⟩,⟨some 22, none,.asg (.t 28)⟩,⟨some 29, none,.extr (.t 22) 0⟩,⟨some 30, none,.extr (.t 22) 1⟩,⟨some 2, none,.asg (.t 29)⟩,⟨some 3, none,.asg (.t 30)⟩] [0,1,2,4,5] []
def z454r3:IC:=.reg [⟨some 32, none,.mv (.t 0)⟩,⟨some 33, none,.mv (.t 1)⟩,⟨some 34, none,.mv (.t 2)⟩,⟨some 35, none,.mv (.t 4)⟩,⟨some 36, none,.mv (.t 5)⟩,⟨some 37, none,.call zl456 [(.ld,(.t 32)),(.val,(.t 33)),(.val,(.t 34)),(.val,(.t 35)),(.val,(.t 36))] false⟩,⟨some 31, none,.asg (.t 37)⟩,⟨some 38, none,.extr (.t 31) 0⟩,⟨some 39, none,.extr (.t 31) 1⟩,⟨some 1, none,.asg (.t 38)⟩,⟨some 2, none,.asg (.t 39)⟩] [0,2] []
def z454r4:IC:=.reg [⟨some 40, none,.mv (.t 2)⟩,⟨some 12, none,.asgm (.t 40)⟩] [0,12] []
def zi454:IFun:=⟨[.t 12],[0],(.seq z454r0 (.seq z454r1 (.seq z454r2 (.seq z454r3 (.seq z454r4 .ret)))))⟩
def z91r0:IC:=.reg [⟨some 2, none,.asg (.c (.int .u64 (0)))⟩] [0] []
def z91r1:IC:=.reg [⟨some 3, none,.mv (.t 0)⟩,⟨some 4, none,.conv .u64 (.t 3)⟩,⟨some 5, none,.call zl66 [(.val,(.t 4))] true⟩,⟨some 6, none,.bin .shl (.c (.int .u64 (1))) (.t 5)⟩,⟨some 2, none,.asg (.t 6)⟩] [2] []
def zi91:IFun:=⟨[.t 2],[],(.seq z91r0 (.seq z91r1 .ret))⟩
def z456r0:IC:=.reg [⟨some 10, none,.asg (.c (vi 0))⟩,⟨some 11, none,.asg (.c (vi 0))⟩] [0,1,2,3,4] []
def z456r1:IC:=.reg [⟨some 12, none,.mv (.t 4)⟩,⟨some 13, none,.mv (.t 0)⟩,⟨some 14, none,.mv (.t 2)⟩,⟨some 15, none,.iadr 2 (.t 13) (.t 14)⟩,⟨some 16, none,.load true 2 (.t 15)⟩,⟨some 17, none,.mv (.t 0)⟩,⟨some 18, none,.mv (.t 1)⟩,⟨some 19, none,.iadr 2 (.t 17) (.t 18)⟩,⟨some 20, none,.load true 2 (.t 19)⟩,⟨some 21, none,.callv (.t 12) [(.val,(.t 16)),(.val,(.t 20))]⟩,⟨some 22, none,.bin .lss (.t 21) (.c (vi 0))⟩] [0,1,2,3,22] []
def z456r2:IC:=.reg [⟨some 23, none,.mv (.t 3)⟩,⟨some 24, none,.nilck (.t 23)⟩,⟨some 25, none,.load false 1 (.t 24)⟩,⟨some 26, none,.bin .add (.t 25) (.c (vi 1))⟩,⟨some 27, none,.nilck (.t 23)⟩,⟨none,none,.store 1 (.t 27) (.t 26)⟩] [0,1,2] []
def z456r3:IC:=.reg [⟨some 28, none,.mv (.t 2)⟩,⟨some 29, none,.mv (.t 1)⟩,⟨some 10, none,.asgm (.t 28)⟩,⟨some 11, none,.asgm (.t 29)⟩] [0,10,11] []
def z456r4:IC:=.reg [⟨some 30, none,.mv (.t 1)⟩,⟨some 31, none,.mv (.t 2)⟩,⟨some 10, none,.asgm (.t 30)⟩,⟨some 11, none,.asgm (.t 31)⟩] [0,10,11] []
def zi456:IFun:=⟨[.t 10,.t 11],[0],(.seq z456r0 (.seq (.seq z456r1 (.cond (.t 22) (.seq z456r2 (.seq z456r3 .ret)) .skip)) (.seq z456r4 .ret)))⟩
def z282r0:IC:=.reg [⟨some 8, none,.asg (.c (.bool false))⟩] [0,1,2,3] []
def z282r1:IC:=.reg [⟨some 13, none,.mv (.t 1)⟩,⟨some 14, none,.bin .add (.t 13) (.c (vi 1))⟩,⟨some 9, none,.asg (.t 14)⟩] [0,1,2,3,9] []
def z282r2:IC:=.reg [⟨some 10, none,.asg (.c (vi 0))⟩] [0,1,2,3,9,10] []
def z282r3:IC:=.reg [⟨some 15, none,.mv (.t 10)⟩,⟨some 16, none,.bin .lss (.t 15) (.c (vi 5))⟩] [0,1,2,3,9,10,16] []
def z282r4:IC:=.reg [⟨some 19, none,.mv (.t 9)⟩,⟨some 20, none,.mv (.t 2)⟩,⟨some 21, none,.bin .lss (.t 19) (.t 20)⟩,⟨some 22, none,.asg (.t 21)⟩,⟨some 23, (some (22,true)),.mv (.t 3)⟩,⟨some 24, (some (22,true)),.mv (.t 0)⟩,⟨some 25, (some (22,true)),.mv (.t 9)⟩,⟨some 26, (some (22,true)),.iadr 2 (.t 24) (.t 25)⟩,⟨some 27, (some (22,true)),.load true 2 (.t 26)⟩,⟨some 28, (some (22,true)),.mv (.t 0)⟩,⟨some 29, (some (22,true)),.mv (.t 9)⟩,⟨some 30, (some (22,true)),.bin .sub (.t 29) (.c (vi 1))⟩,⟨some 31, (some (22,true)),.iadr 2 (.t 28) (.t 30)⟩,⟨some 32, (some (22,true)),.load true 2 (.t 31)⟩,⟨some 33, (some (22,true)),.callv (.t 23) [(.val,(.t 27)),(.val,(.t 32))]⟩,⟨some 34, (some (22,true)),.bin .lss (.t 33) (.c (vi 0))⟩,⟨some 35, (some (22,true)),.unop .not (.t 34)⟩,⟨some 36, none,.pick (.t 22) (.t 35) (.c (.bool false))⟩] [0,1,2,3,9,10,36] []
def z282r5:IC:=.reg [⟨some 37, none,.mv (.t 9)⟩,⟨some 38, none,.bin .add (.t 37) (.c (vi 1))⟩,⟨some 9, none,.asg (.t 38)⟩] [0,1,2,3,9,10] []
def z282l6:IC:=(.seq (.seq z282r4 (.cond (.t 36) .skip (.exit 2))) (.block 3 z282r5))
def z282r7:IC:=.reg [⟨some 39, none,.mv (.t 9)⟩,⟨some 40, none,.mv (.t 2)⟩,⟨some 41, none,.bin .eql (.t 39) (.t 40)⟩] [0,1,2,3,9,10,41] []
def z282r8:IC:=.reg [⟨some 8, none,.asg (.c (.bool true))⟩] [0,8] []
def z282r9:IC:=.reg [⟨some 42, none,.mv (.t 2)⟩,⟨some 43, none,.mv (.t 1)⟩,⟨some 44, none,.bin .sub (.t 42) (.t 43)⟩,⟨some 45, none,.bin .lss (.t 44) (.c (vi 50))⟩] [0,1,2,3,9,10,45] []
def z282r10:IC:=.reg [⟨some 8, none,.asg (.c (.bool false))⟩] [0,8] []
def z282r11:IC:=.reg [⟨some 46, none,.mv (.t 0)⟩,⟨some 47, none,.mv (.t 9)⟩,⟨some 48, none,.mv (.t 0)⟩,⟨some 49, none,.mv (.t 9)⟩,⟨some 50, none,.bin .sub (.t 49) (.c (vi 1))⟩,⟨some 51, none,.mv (.t 0)⟩,⟨some 52, none,.mv (.t 9)⟩,⟨some 53, none,.bin .sub (.t 52) (.c (vi 1))⟩,⟨some 54, none,.iadr 2 (.t 51) (.t 53)⟩,⟨some 55, none,.load true 2 (.t 54)⟩,⟨some 56, none,.mv (.t 0)⟩,⟨some 57, none,.mv (.t 9)⟩,⟨some 58, none,.iadr 2 (.t 56) (.t 57)⟩,⟨some 59, none,.load true 2 (.t 58)⟩,⟨some 60, none,.iadr 2 (.t 46) (.t 47)⟩,⟨none,none,.store 2 (.t 60) (.t 55)⟩,⟨some 61, none,.iadr 2 (.t 48) (.t 50)⟩,⟨none,none,.store 2 (.t 61) (.t 59)⟩] [0,1,2,3,9,10] []
def z282r12:IC:=.reg [⟨some 62, none,.mv (.t 9)⟩,⟨some 63, none,.mv (.t 1)⟩,⟨some 64, none,.bin .sub (.t 62) (.t 63)⟩,⟨some 65, none,.bin .geq (.t 64) (.c (vi 2))⟩] [0,1,2,3,9,10,65] []
def z282r13:IC:=.reg [⟨some 66, none,.mv (.t 9)⟩,⟨some 67, none,.bin .sub (.t 66) (.c (vi 1))⟩,⟨some 11, none,.asg (.t 67)⟩] [0,1,2,3,9,10,11] []
def z282r14:IC:=.reg [⟨some 68, none,.mv (.t 11)⟩,⟨some 69, none,.bin .geq (.t 68) (.c (vi 1))⟩] [0,1,2,3,9,10,11,69] []
def z282r15:IC:=.reg [⟨some 72, none,.mv (.t 3)⟩,⟨some 73, none,.mv (.t 0)⟩,⟨some 74, none,.mv (.t 11)⟩,⟨some 75, none,.iadr 2 (.t 73) (.t 74)⟩,⟨some 76, none,.load true 2 (.t 75)⟩,⟨some 77, none,.mv (.t 0)⟩,⟨some 78, none,.mv (.t 11)⟩,⟨some 79, none,.bin .sub (.t 78) (.c (vi 1))⟩,⟨some 80, none,.iadr 2 (.t 77) (.t 79)⟩,⟨some 81, none,.load true 2 (.t 80)⟩,⟨some 82, none,.callv (.t 72) [(.val,(.t 76)),(.val,(.t 81))]⟩,⟨some 83, none,.bin .lss (.t 82) (.c (vi 0))⟩,⟨some 84, none,.unop .not (.t 83)⟩] [0,1,2,3,9,10,11,84] []
def z282r16:IC:=.reg [⟨some 85, none,.mv (.t 0)⟩,⟨some 86, none,.mv (.t 11)⟩,⟨some 87, none,.mv (.t 0)⟩,⟨some 88, none,.mv (.t 11)⟩,⟨some 89, none,.bin .sub (.t 88) (.c (vi 1))⟩,⟨some 90, none,.mv (.t 0)⟩,⟨some 91, none,.mv (.t 11)⟩,⟨some 92, none,.bin .sub (.t 91) (.c (vi 1))⟩,⟨some 93, none,.iadr 2 (.t 90) (.t 92)⟩,⟨some 94, none,.load true 2 (.t 93)⟩,⟨some 95, none,.mv (.t 0)⟩,⟨some 96, none,.mv (.t 11)⟩,⟨some 97, none,.iadr 2 (.t 95) (.t 96)⟩,⟨some 98, none,.load true 2 (.t 97)⟩,⟨some 99, none,.iadr 2 (.t 85) (.t 86)⟩,⟨none,none,.store 2 (.t 99) (.t 94)⟩,⟨some 100, none,.iadr 2 (.t 87) (.t 89)⟩,⟨none,none,.store 2 (.t 100) (.t 98)⟩] [0,1,2,3,9,10,11] []
def z282r17:IC:=.reg [⟨some 70, none,.mv (.t 11)⟩,⟨some 71, none,.bin .sub (.t 70) (.c (vi 1))⟩,⟨some 11, none,.asg (.t 71)⟩] [0,1,2,3,9,10,11] []
def z282l18:IC:=(.seq (.seq z282r14 (.cond (.t 69) .skip (.exit 4))) (.seq (.block 5 (.seq (.seq z282r15 (.cond (.t 84) (.exit 4) .skip)) z282r16)) z282r17))
def z282r19:IC:=.reg [⟨some 101, none,.mv (.t 2)⟩,⟨some 102, none,.mv (.t 9)⟩,⟨some 103, none,.bin .sub (.t 101) (.t 102)⟩,⟨some 104, none,.bin .geq (.t 103) (.c (vi 2))⟩] [0,1,2,3,9,10,104] []
def z282r20:IC:=.reg [⟨some 105, none,.mv (.t 9)⟩,⟨some 106, none,.bin .add (.t 105) (.c (vi 1))⟩,⟨some 12, none,.asg (.t 106)⟩] [0,1,2,3,9,10,12] []
def z282r21:IC:=.reg [⟨some 107, none,.mv (.t 12)⟩,⟨some 108, none,.mv (.t 2)⟩,⟨some 109, none,.bin .lss (.t 107) (.t 108)⟩] [0,1,2,3,9,10,12,109] []
def z282r22:IC:=.reg [⟨some 112, none,.mv (.t 3)⟩,⟨some 113, none,.mv (.t 0)⟩,⟨some 114, none,.mv (.t 12)⟩,⟨some 115, none,.iadr 2 (.t 113) (.t 114)⟩,⟨some 116, none,.load true 2 (.t 115)⟩,⟨some 117, none,.mv (.t 0)⟩,⟨some 118, none,.mv (.t 12)⟩,⟨some 119, none,.bin .sub (.t 118) (.c (vi 1))⟩,⟨some 120, none,.iadr 2 (.t 117) (.t 119)⟩,⟨some 121, none,.load true 2 (.t 120)⟩,⟨some 122, none,.callv (.t 112) [(.val,(.t 116)),(.val,(.t 121))]⟩,⟨some 123, none,.bin .lss (.t 122) (.c (vi 0))⟩,⟨some 124, none,.unop .not (.t 123)⟩] [0,1,2,3,9,10,12,124] []
def z282r23:IC:=.reg [⟨some 125, none,.mv (.t 0)⟩,⟨some 126, none,.mv (.t 12)⟩,⟨some 127, none,.mv (.t 0)⟩,⟨some 128, none,.mv (.t 12)⟩,⟨some 129, none,.bin .sub (.t 128) (.c (vi 1))⟩,⟨some 130, none,.mv (.t 0)⟩,⟨some 131, none,.mv (.t 12)⟩,⟨some 132, none,.bin .sub (.t 131) (.c (vi 1))⟩,⟨some 133, none,.iadr 2 (.t 130) (.t 132)⟩,⟨some 134, none,.load true 2 (.t 133)⟩,⟨some 135, none,.mv (.t 0)⟩,⟨some 136, none,.mv (.t 12)⟩,⟨some 137, none,.iadr 2 (.t 135) (.t 136)⟩,⟨some 138, none,.load true 2 (.t 137)⟩,⟨some 139, none,.iadr 2 (.t 125) (.t 126)⟩,⟨none,none,.store 2 (.t 139) (.t 134)⟩,⟨some 140, none,.iadr 2 (.t 127) (.t 129)⟩,⟨none,none,.store 2 (.t 140) (.t 138)⟩] [0,1,2,3,9,10,12] []
def z282r24:IC:=.reg [⟨some 110, none,.mv (.t 12)⟩,⟨some 111, none,.bin .add (.t 110) (.c (vi 1))⟩,⟨some 12, none,.asg (.t 111)⟩] [0,1,2,3,9,10,12] []
def z282l25:IC:=(.seq (.seq z282r21 (.cond (.t 109) .skip (.exit 6))) (.seq (.block 7 (.seq (.seq z282r22 (.cond (.t 124) (.exit 6) .skip)) z282r23)) z282r24))
def z282r26:IC:=.reg [⟨some 17, none,.mv (.t 10)⟩,⟨some 18, none,.bin .add (.t 17) (.c (vi 1))⟩,⟨some 10, none,.asg (.t 18)⟩] [0,1,2,3,9,10] []
def z282l27:IC:=(.seq (.seq z282r3 (.cond (.t 16) .skip (.exit 0))) (.seq (.block 1 (.seq (.block 2 (.loop z282l6)) (.seq (.seq z282r7 (.cond (.t 41) (.seq z282r8 .ret) .skip)) (.seq (.seq z282r9 (.cond (.t 45) (.seq z282r10 .ret) .skip)) (.seq z282r11 (.seq (.seq z282r12 (.cond (.t 65) (.seq z282r13 (.block 4 (.loop z282l18))) .skip)) (.seq z282r19 (.cond (.t 104) (.seq z282r20 (.block 6 (.loop z282l25))) .skip)))))))) z282r26))
def z282r28:IC:=.reg [⟨some 8, none,.asg (.c (.bool false))⟩] [0,8] []
def zi282:IFun:=⟨[.t 8],[0],(.seq z282r0 (.seq z282r1 (.seq (.seq z282r2 (.block 0 (.loop z282l27))) (.seq z282r28 .ret))))⟩
def z283r0:IC:=.reg [⟨some 10, none,.asg (.c (vi 0))⟩,⟨some 11, none,.asg (.c (.bool false))⟩] [0,1,2,3,4] []
def z283r1:IC:=.reg [⟨some 14, none,.mv (.t 0)⟩,⟨some 15, none,.mv (.t 1)⟩,⟨some 16, none,.mv (.t 0)⟩,⟨some 17, none,.mv (.t 3)⟩,⟨some 18, none,.mv (.t 0)⟩,⟨some 19, none,.mv (.t 3)⟩,⟨some 20, none,.iadr 2 (.t 18) (.t 19)⟩,⟨some 21, none,.load true 2 (.t 20)⟩,⟨some 22, none,.mv (.t 0)⟩,⟨some 23, none,.mv (.t 1)⟩,⟨some 24, none,.iadr 2 (.t 22) (.t 23)⟩,⟨some 25, none,.load true 2 (.t 24)⟩,⟨some 26, none,.iadr 2 (.t 14) (.t 15)⟩,⟨none,none,.store 2 (.t 26) (.t 21)⟩,⟨some 27, none,.iadr 2 (.t 16) (.t 17)⟩,⟨none,none,.store 2 (.t 27) (.t 25)⟩] [0,1,2,4] []
def z283r2:IC:=.reg [⟨some 28, none,.mv (.t 1)⟩,⟨some 29, none,.bin .add (.t 28) (.c (vi 1))⟩,⟨some 30, none,.mv (.t 2)⟩,⟨some 31, none,.bin .sub (.t 30) (.c (vi 1))⟩,⟨some 12, none,.asg (.t 29)⟩,⟨some 13, none,.asg (.t 31)⟩] [0,1,4,12,13] []
def z283r3:IC:=.reg [⟨some 32, none,.mv (.t 12)⟩,⟨some 33, none,.mv (.t 13)⟩,⟨some 34, none,.bin .leq (.t 32) (.t 33)⟩,⟨some 35, none,.asg (.t 34)⟩,⟨some 36, (some (35,true)),.mv (.t 4)⟩,⟨some 37, (some (35,true)),.mv (.t 0)⟩,⟨some 38, (some (35,true)),.mv (.t 12)⟩,⟨some 39, (some (35,true)),.iadr 2 (.t 37) (.t 38)⟩,⟨some 40, (some (35,true)),.load true 2 (.t 39)⟩,⟨some 41, (some (35,true)),.mv (.t 0)⟩,⟨some 42, (some (35,true)),.mv (.t 1)⟩,⟨some 43, (some (35,true)),.iadr 2 (.t 41) (.t 42)⟩,⟨some 44, (some (35,true)),.load true 2 (.t 43)⟩,⟨some 45, (some (35,true)),.callv (.t 36) [(.val,(.t 40)),(.val,(.t 44))]⟩,⟨some 46, (some (35,true)),.bin .lss (.t 45) (.c (vi 0))⟩,⟨some 47, none,.pick (.t 35) (.t 46) (.c (.bool false))⟩] [0,1,4,12,13,47] []
def z283r4:IC:=.reg [⟨some 48, none,.mv (.t 12)⟩,⟨some 49, none,.bin .add (.t 48) (.c (vi 1))⟩,⟨some 12, none,.asg (.t 49)⟩] [0,1,4,12,13] []
def z283l5:IC:=(.seq (.seq z283r3 (.cond (.t 47) .skip (.exit 0))) (.block 1 z283r4))
def z283r6:IC:=.reg [⟨some 50, none,.mv (.t 12)⟩,⟨some 51, none,.mv (.t 13)⟩,⟨some 52, none,.bin .leq (.t 50) (.t 51)⟩,⟨some 53, none,.asg (.t 52)⟩,⟨some 54, (some (53,true)),.mv (.t 4)⟩,⟨some 55, (some (53,true)),.mv (.t 0)⟩,⟨some 56, (some (53,true)),.mv (.t 13)⟩,⟨some 57, (some (53,true)),.iadr 2 (.t 55) (.t 56)⟩,⟨some 58, (some (53,true)),.load true 2 (.t 57)⟩,⟨some 59, (some (53,true)),.mv (.t 0)⟩,⟨some 60, (some (53,true)),.mv (.t 1)⟩,⟨some 61, (some (53,true)),.iadr 2 (.t 59) (.t 60)⟩,⟨some 62, (some (53,true)),.load true 2 (.t 61)⟩,⟨some 63, (some (53,true)),.callv (.t 54) [(.val,(.t 58)),(.val,(.t 62))]⟩,⟨some 64, (some (53,true)),.bin .lss (.t 63) (.c (vi 0))⟩,⟨some 65, (some (53,true)),.unop .not (.t 64)⟩,⟨some 66, none,.pick (.t 53) (.t 65) (.c (.bool false))⟩] [0,1,4,12,13,66] []
def z283r7:IC:=.reg [⟨some 67, none,.mv (.t 13)⟩,⟨some 68, none,.bin .sub (.t 67) (.c (vi 1))⟩,⟨some 13, none,.asg (.t 68)⟩] [0,1,4,12,13] []
def z283l8:IC:=(.seq (.seq z283r6 (.cond (.t 66) .skip (.exit 2))) (.block 3 z283r7))
def z283r9:IC:=.reg [⟨some 69, none,.mv (.t 12)⟩,⟨some 70, none,.mv (.t 13)⟩,⟨some 71, none,.bin .gtr (.t 69) (.t 70)⟩] [0,1,4,12,13,71] []
def z283r10:IC:=.reg [⟨some 72, none,.mv (.t 0)⟩,⟨some 73, none,.mv (.t 13)⟩,⟨some 74, none,.mv (.t 0)⟩,⟨some 75, none,.mv (.t 1)⟩,⟨some 76, none,.mv (.t 0)⟩,⟨some 77, none,.mv (.t 1)⟩,⟨some 78, none,.iadr 2 (.t 76) (.t 77)⟩,⟨some 79, none,.load true 2 (.t 78)⟩,⟨some 80, none,.mv (.t 0)⟩,⟨some 81, none,.mv (.t 13)⟩,⟨some 82, none,.iadr 2 (.t 80) (.t 81)⟩,⟨some 83, none,.load true 2 (.t 82)⟩,⟨some 84, none,.iadr 2 (.t 72) (.t 73)⟩,⟨none,none,.store 2 (.t 84) (.t 79)⟩,⟨some 85, none,.iadr 2 (.t 74) (.t 75)⟩,⟨none,none,.store 2 (.t 85) (.t 83)⟩] [0,13] []
def z283r11:IC:=.reg [⟨some 86, none,.mv (.t 13)⟩,⟨some 10, none,.asgm (.t 86)⟩,⟨some 11, none,.asg (.c (.bool true))⟩] [0,10,11] []
def z283r12:IC:=.reg [⟨some 87, none,.mv (.t 0)⟩,⟨some 88, none,.mv (.t 12)⟩,⟨some 89, none,.mv (.t 0)⟩,⟨some 90, none,.mv (.t 13)⟩,⟨some 91, none,.mv (.t 0)⟩,⟨some 92, none,.mv (.t 13)⟩,⟨some 93, none,.iadr 2 (.t 91) (.t 92)⟩,⟨some 94, none,.load true 2 (.t 93)⟩,⟨some 95, none,.mv (.t 0)⟩,⟨some 96, none,.mv (.t 12)⟩,⟨some 97, none,.iadr 2 (.t 95) (.t 96)⟩,⟨some 98, none,.load true 2 (.t 97)⟩,⟨some 99, none,.iadr 2 (.t 87) (.t 88)⟩,⟨none,none,.store 2 (.t 99) (.t 94)⟩,⟨some 100, none,.iadr 2 (.t 89) (.t 90)⟩,⟨none,none,.store 2 (.t 100) (.t 98)⟩] [0,1,4,12,13] []
def z283r13:IC:=.reg [⟨some 101, none,.mv (.t 12)⟩,⟨some 102, none,.bin .add (.t 101) (.c (vi 1))⟩,⟨some 12, none,.asg (.t 102)⟩] [0,1,4,12,13] []
def z283r14:IC:=.reg [⟨some 103, none,.mv (.t 13)⟩,⟨some 104, none,.bin .sub (.t 103) (.c (vi 1))⟩,⟨some 13, none,.asg (.t 104)⟩] [0,1,4,12,13] []
def z283r15:IC:=.reg [⟨some 105, none,.mv (.t 12)⟩,⟨some 106, none,.mv (.t 13)⟩,⟨some 107, none,.bin .leq (.t 105) (.t 106)⟩,⟨some 108, none,.asg (.t 107)⟩,⟨some 109, (some (108,true)),.mv (.t 4)⟩,⟨some 110, (some (108,true)),.mv (.t 0)⟩,⟨some 111, (some (108,true)),.mv (.t 12)⟩,⟨some 112, (some (108,true)),.iadr 2 (.t 110) (.t 111)⟩,⟨some 113, (some (108,true)),.load true 2 (.t 112)⟩,⟨some 114, (some (108,true)),.mv (.t 0)⟩,⟨some 115, (some (108,true)),.mv (.t 1)⟩,⟨some 116, (some (108,true)),.iadr 2 (.t 114) (.t 115)⟩,⟨some 117, (some (108,true)),.load true 2 (.t 116)⟩,⟨some 118, (some (108,true)),.callv (.t 109) [(.val,(.t 113)),(.val,(.t 117))]⟩,⟨some 119, (some (108,true)),.bin .lss (.t 118) (.c (vi 0))⟩,⟨some 120, none,.pick (.t 108) (.t 119) (.c (.bool false))⟩] [0,1,4,12,13,120] []
def z283r16:IC:=.reg [⟨some 121, none,.mv (.t 12)⟩,⟨some 122, none,.bin .add (.t 121) (.c (vi 1))⟩,⟨some 12, none,.asg (.t 122)⟩] [0,1,4,12,13] []
def z283l17:IC:=(.seq (.seq z283r15 (.cond (.t 120) .skip (.exit 6))) (.block 7 z283r16))
def z283r18:IC:=.reg [⟨some 123, none,.mv (.t 12)⟩,⟨some 124, none,.mv (.t 13)⟩,⟨some 125, none,.bin .leq (.t 123) (.t 124)⟩,⟨some 126, none,.asg (.t 125)⟩,⟨some 127, (some (126,true)),.mv (.t 4)⟩,⟨some 128, (some (126,true)),.mv (.t 0)⟩,⟨some 129, (some (126,true)),.mv (.t 13)⟩,⟨some 130, (some (126,true)),.iadr 2 (.t 128) (.t 129)⟩,⟨some 131, (some (126,true)),.load true 2 (.t 130)⟩,⟨some 132, (some (126,true)),.mv (.t 0)⟩,⟨some 133, (some (126,true)),.mv (.t 1)⟩,⟨some 134, (some (126,true)),.iadr 2 (.t 132) (.t 133)⟩,⟨some 135, (some (126,true)),.load true 2 (.t 134)⟩,⟨some 136, (some (126,true)),.callv (.t 127) [(.val,(.t 131)),(.val,(.t 135))]⟩,⟨some 137, (some (126,true)),.bin .lss (.t 136) (.c (vi 0))⟩,⟨some 138, (some (126,true)),.unop .not (.t 137)⟩,⟨some 139, none,.pick (.t 126) (.t 138) (.c (.bool false))⟩] [0,1,4,12,13,139] []
def z283r19:IC:=.reg [⟨some 140, none,.mv (.t 13)⟩,⟨some 141, none,.bin .sub (.t 140) (.c (vi 1))⟩,⟨some 13, none,.asg (.t 141)⟩] [0,1,4,12,13] []
def z283l20:IC:=(.seq (.seq z283r18 (.cond (.t 139) .skip (.exit 8))) (.block 9 z283r19))
def z283r21:IC:=.reg [⟨some 142, none,.mv (.t 12)⟩,⟨some 143, none,.mv (.t 13)⟩,⟨some 144, none,.bin .gtr (.t 142) (.t 143)⟩] [0,1,4,12,13,144] []
def z283r22:IC:=.reg [⟨some 145, none,.mv (.t 0)⟩,⟨some 146, none,.mv (.t 12)⟩,⟨some 147, none,.mv (.t 0)⟩,⟨some 148, none,.mv (.t 13)⟩,⟨some 149, none,.mv (.t 0)⟩,⟨some 150, none,.mv (.t 13)⟩,⟨some 151, none,.iadr 2 (.t 149) (.t 150)⟩,⟨some 152, none,.load true 2 (.t 151)⟩,⟨some 153, none,.mv (.t 0)⟩,⟨some 154, none,.mv (.t 12)⟩,⟨some 155, none,.iadr 2 (.t 153) (.t 154)⟩,⟨some 156, none,.load true 2 (.t 155)⟩,⟨some 157, none,.iadr 2 (.t 145) (.t 146)⟩,⟨none,none,.store 2 (.t 157) (.t 152)⟩,⟨some 158, none,.iadr 2 (.t 147) (.t 148)⟩,⟨none,none,.store 2 (.t 158) (.t 156)⟩] [0,1,4,12,13] []
def z283r23:IC:=.reg [⟨some 159, none,.mv (.t 12)⟩,⟨some 160, none,.bin .add (.t 159) (.c (vi 1))⟩,⟨some 12, none,.asg (.t 160)⟩] [0,1,4,12,13] []
def z283r24:IC:=.reg [⟨some 161, none,.mv (.t 13)⟩,⟨some 162, none,.bin .sub (.t 161) (.c (vi 1))⟩,⟨some 13, none,.asg (.t 162)⟩] [0,1,4,12,13] []
def z283l25:IC:=(.block 5 (.seq (.block 6 (.loop z283l17)) (.seq (.block 8 (.loop z283l20)) (.seq (.seq z283r21 (.cond (.t 144) (.exit 4) .skip)) (.seq z283r22 (.seq z283r23 z283r24))))))
def z283r26:IC:=.reg [⟨some 163, none,.mv (.t 0)⟩,⟨some 164, none,.mv (.t 13)⟩,⟨some 165, none,.mv (.t 0)⟩,⟨some 166, none,.mv (.t 1)⟩,⟨some 167, none,.mv (.t 0)⟩,⟨some 168, none,.mv (.t 1)⟩,⟨some 169, none,.iadr 2 (.t 167) (.t 168)⟩,⟨some 170, none,.load true 2 (.t 169)⟩,⟨some 171, none,.mv (.t 0)⟩,⟨some 172, none,.mv (.t 13)⟩,⟨some 173, none,.iadr 2 (.t 171) (.t 172)⟩,⟨some 174, none,.load true 2 (.t 173)⟩,⟨some 175, none,.iadr 2 (.t 163) (.t 164)⟩,⟨none,none,.store 2 (.t 175) (.t 170)⟩,⟨some 176, none,.iadr 2 (.t 165) (.t 166)⟩,⟨none,none,.store 2 (.t 176) (.t 174)⟩] [0,13] []
def z283r27:IC:=.reg [⟨some 177, none,.mv (.t 13)⟩,⟨some 10, none,.asgm (.t 177)⟩,⟨some 11, none,.asg (.c (.bool false))⟩] [0,10,11] []
def zi283:IFun:=⟨[.t 10,.t 11],[0],(.seq z283r0 (.seq z283r1 (.seq z283r2 (.seq (.block 0 (.loop z283l5)) (.seq (.block 2 (.loop z283l8)) (.seq (.seq z283r9 (.cond (.t 71) (.seq z283r10 (.seq z283r11 .ret)) .skip)) (.seq z283r12 (.seq z283r13 (.seq z283r14 (.seq (.block 4 (.loop z283l25)) (.seq z283r26 (.seq z283r27 .ret))))))))))))⟩
def z285r0:IC:=.reg [⟨some 10, none,.asg (.c (.bool true))⟩] [0,1,2,3,4,10] []
def z285r1:IC:=.reg [⟨some 11, none,.asg (.c (.bool true))⟩] [0,1,2,3,4,10,11] []
def z285r2:IC:=.reg [⟨some 21, none,.mv (.t 2)⟩,⟨some 22, none,.mv (.t 1)⟩,⟨some 23, none,.bin .sub (.t 21) (.t 22)⟩,⟨some 12, none,.asg (.t 23)⟩] [0,1,2,3,4,10,11,12] []
def z285r3:IC:=.reg [⟨some 24, none,.mv (.t 12)⟩,⟨some 25, none,.bin .leq (.t 24) (.c (vi 12))⟩] [0,1,2,3,4,10,11,12,25] []
def z285r4:IC:=.reg [⟨some 26, none,.mv (.t 0)⟩,⟨some 27, none,.mv (.t 1)⟩,⟨some 28, none,.mv (.t 2)⟩,⟨some 29, none,.mv (.t 4)⟩,⟨some 30, none,.call zl277 [(.ld,(.t 26)),(.val,(.t 27)),(.val,(.t 28)),(.val,(.t 29))] false⟩] [0] []
def z285r5:IC:=.reg [⟨some 31, none,.mv (.t 3)⟩,⟨some 32, none,.bin .eql (.t 31) (.c (vi 0))⟩] [0,1,2,3,4,10,11,12,32] []
def z285r6:IC:=.reg [⟨some 33, none,.mv (.t 0)⟩,⟨some 34, none,.mv (.t 1)⟩,⟨some 35, none,.mv (.t 2)⟩,⟨some 36, none,.mv (.t 4)⟩,⟨some 37, none,.call zl276 [(.ld,(.t 33)),(.val,(.t 34)),(.val,(.t 35)),(.val,(.t 36))] false⟩] [0] []
def z285r7:IC:=.reg [⟨some 38, none,.mv (.t 10)⟩,⟨some 39, none,.unop .not (.t 38)⟩] [0,1,2,3,4,10,11,12,39] []
def z285r8:IC:=.reg [⟨some 40, none,.mv (.t 0)⟩,⟨some 41, none,.mv (.t 1)⟩,⟨some 42, none,.mv (.t 2)⟩,⟨some 43, none,.mv (.t 4)⟩,⟨some 44, none,.call zl274 [(.ld,(.t 40)),(.val,(.t 41)),(.val,(.t 42)),(.val,(.t 43))] false⟩] [0,1,2,3,4,10,11,12] []
def z285r9:IC:=.reg [⟨some 45, none,.mv (.t 3)⟩,⟨some 46, none,.bin .sub (.t 45) (.c (vi 1))⟩,⟨some 3, none,.asg (.t 46)⟩] [0,1,2,3,4,10,11,12] []
def z285r10:IC:=.reg [⟨some 48, none,.mv (.t 0)⟩,⟨some 49, none,.mv (.t 1)⟩,⟨some 50, none,.mv (.t 2)⟩,⟨some 51, none,.mv (.t 4)⟩,⟨some 52, none,.call zl450 [(.ld,(.t 48)),(.val,(.t 49)),(.val,(.t 50)),(.val,(.t 51))] false⟩,⟨some 47, none,.asg (.t 52)⟩,⟨some 53, none,.extr (.t 47) 0⟩,⟨some 54, none,.extr (.t 47) 1⟩,⟨some 13, none,.asg (.t 53)⟩,⟨some 14, none,.asg (.t 54)⟩] [0,1,2,3,4,10,11,12,13,14] []
def z285r11:IC:=.reg [⟨some 55, none,.mv (.t 14)⟩,⟨some 56, none,.bin .eql (.t 55) (.c (vi 2))⟩] [0,1,2,3,4,10,11,12,13,14,56] []
def z285r12:IC:=.reg [⟨some 57, none,.mv (.t 0)⟩,⟨some 58, none,.mv (.t 1)⟩,⟨some 59, none,.mv (.t 2)⟩,⟨some 60, none,.mv (.t 4)⟩,⟨some 61, none,.call zl286 [(.ld,(.t 57)),(.val,(.t 58)),(.val,(.t 59)),(.val,(.t 60))] false⟩] [0,1,2,3,4,10,11,12,13] []
def z285r13:IC:=.reg [⟨some 62, none,.mv (.t 2)⟩,⟨some 63, none,.bin .sub (.t 62) (.c (vi 1))⟩,⟨some 64, none,.mv (.t 13)⟩,⟨some 65, none,.mv (.t 1)⟩,⟨some 66, none,.bin .sub (.t 64) (.t 65)⟩,⟨some 67, none,.bin .sub (.t 63) (.t 66)⟩,⟨some 13, none,.asg (.t 67)⟩] [0,1,2,3,4,10,11,12,13] []
def z285r14:IC:=.reg [⟨some 14, none,.asg (.c (vi 1))⟩] [0,1,2,3,4,10,11,12,13,14] []
def z285r15:IC:=.reg [⟨some 68, none,.mv (.t 10)⟩,⟨some 69, none,.asg (.t 68)⟩,⟨some 70, (some (69,true)),.mv (.t 11)⟩,⟨some 71, none,.pick (.t 69) (.t 70) (.c (.bool false))⟩,⟨some 72, none,.asg (.t 71)⟩,⟨some 73, (some (72,true)),.mv (.t 14)⟩,⟨some 74, (some (72,true)),.bin .eql (.t 73) (.c (vi 1))⟩,⟨some 75, none,.pick (.t 72) (.t 74) (.c (.bool false))⟩] [0,1,2,3,4,10,11,12,13,75] []
def z285r16:IC:=.reg [⟨some 76, none,.mv (.t 0)⟩,⟨some 77, none,.mv (.t 1)⟩,⟨some 78, none,.mv (.t 2)⟩,⟨some 79, none,.mv (.t 4)⟩,⟨some 80, none,.call zl282 [(.ld,(.t 76)),(.val,(.t 77)),(.val,(.t 78)),(.val,(.t 79))] false⟩] [0,1,2,3,4,10,11,12,13,80] []
def z285r17:IC:=.reg [⟨some 81, none,.mv (.t 1)⟩,⟨some 82, none,.bin .gtr (.t 81) (.c (vi 0))⟩,⟨some 83, none,.asg (.t 82)⟩,⟨some 84, (some (83,true)),.mv (.t 4)⟩,⟨some 85, (some (83,true)),.mv (.t 0)⟩,⟨some 86, (some (83,true)),.mv (.t 1)⟩,⟨some 87, (some (83,true)),.bin .sub (.t 86) (.c (vi 1))⟩,⟨some 88, (some (83,true)),.iadr 2 (.t 85) (.t 87)⟩,⟨some 89, (some (83,true)),.load true 2 (.t 88)⟩,⟨some 90, (some (83,true)),.mv (.t 0)⟩,⟨some 91, (some (83,true)),.mv (.t 13)⟩,⟨some 92, (some (83,true)),.iadr 2 (.t 90) (.t 91)⟩,⟨some 93, (some (83,true)),.load true 2 (.t 92)⟩,⟨some 94, (some (83,true)),.callv (.t 84) [(.val,(.t 89)),(.val,(.t 93))]⟩,⟨some 95, (some (83,true)),.bin .lss (.t 94) (.c (vi 0))⟩,⟨some 96, (some (83,true)),.unop .not (.t 95)⟩,⟨some 97, none,.pick (.t 83) (.t 96) (.c (.bool false))⟩] [0,1,2,3,4,10,11,12,13,97] []
def z285r18:IC:=.reg [⟨some 98, none,.mv (.t 0)⟩,⟨some 99, none,.mv (.t 1)⟩,⟨some 100, none,.mv (.t 2)⟩,⟨some 101, none,.mv (.t 13)⟩,⟨some 102, none,.mv (.t 4)⟩,⟨some 103, none,.call zl284 [(.ld,(.t 98)),(.val,(.t 99)),(.val,(.t 100)),(.val,(.t 101)),(.val,(.t 102))] false⟩,⟨some 15, none,.asg (.t 103)⟩] [0,2,3,4,10,11,15] []
def z285r19:IC:=.reg [⟨some 104, none,.mv (.t 15)⟩,⟨some 1, none,.asgm (.t 104)⟩] [0,1,2,3,4,10,11] []
def z285r20:IC:=.reg [⟨some 106, none,.mv (.t 0)⟩,⟨some 107, none,.mv (.t 1)⟩,⟨some 108, none,.mv (.t 2)⟩,⟨some 109, none,.mv (.t 13)⟩,⟨some 110, none,.mv (.t 4)⟩,⟨some 111, none,.call zl283 [(.ld,(.t 106)),(.val,(.t 107)),(.val,(.t 108)),(.val,(.t 109)),(.val,(.t 110))] false⟩,⟨some 105, none,.asg (.t 111)⟩,⟨some 112, none,.extr (.t 105) 0⟩,⟨some 113, none,.extr (.t 105) 1⟩,⟨some 16, none,.asg (.t 112)⟩,⟨some 17, none,.asg (.t 113)⟩] [0,1,2,3,4,12,16,17] []
def z285r21:IC:=.reg [⟨some 114, none,.mv (.t 17)⟩,⟨some 11, none,.asgm (.t 114)⟩] [0,1,2,3,4,11,12,16] []
def z285r22:IC:=.reg [⟨some 115, none,.mv (.t 16)⟩,⟨some 116, none,.mv (.t 1)⟩,⟨some 117, none,.bin .sub (.t 115) (.t 116)⟩,⟨some 118, none,.mv (.t 2)⟩,⟨some 119, none,.mv (.t 16)⟩,⟨some 120, none,.bin .sub (.t 118) (.t 119)⟩,⟨some 18, none,.asg (.t 117)⟩,⟨some 19, none,.asg (.t 120)⟩] [0,1,2,3,4,11,12,16,18,19] []
def z285r23:IC:=.reg [⟨some 121, none,.mv (.t 12)⟩,⟨some 122, none,.bin .quo (.t 121) (.c (vi 8))⟩,⟨some 20, none,.asg (.t 122)⟩] [0,1,2,3,4,11,16,18,19,20] []
def z285r24:IC:=.reg [⟨some 123, none,.mv (.t 18)⟩,⟨some 124, none,.mv (.t 19)⟩,⟨some 125, none,.bin .lss (.t 123) (.t 124)⟩] [0,1,2,3,4,11,16,18,19,20,125] []
def z285r25:IC:=.reg [⟨some 126, none,.mv (.t 18)⟩,⟨some 127, none,.mv (.t 20)⟩,⟨some 128, none,.bin .geq (.t 126) (.t 127)⟩,⟨some 10, none,.asg (.t 128)⟩] [0,1,2,3,4,10,11,16] []
def z285r26:IC:=.reg [⟨some 129, none,.mv (.t 0)⟩,⟨some 130, none,.mv (.t 1)⟩,⟨some 131, none,.mv (.t 16)⟩,⟨some 132, none,.mv (.t 3)⟩,⟨some 133, none,.mv (.t 4)⟩,⟨some 134, none,.call zl285 [(.ld,(.t 129)),(.val,(.t 130)),(.val,(.t 131)),(.val,(.t 132)),(.val,(.t 133))] false⟩] [0,2,3,4,10,11,16] []
def z285r27:IC:=.reg [⟨some 135, none,.mv (.t 16)⟩,⟨some 136, none,.bin .add (.t 135) (.c (vi 1))⟩,⟨some 1, none,.asg (.t 136)⟩] [0,1,2,3,4,10,11] []
def z285r28:IC:=.reg [⟨some 137, none,.mv (.t 19)⟩,⟨some 138, none,.mv (.t 20)⟩,⟨some 139, none,.bin .geq (.t 137) (.t 138)⟩,⟨some 10, none,.asg (.t 139)⟩] [0,1,2,3,4,10,11,16] []
def z285r29:IC:=.reg [⟨some 140, none,.mv (.t 0)⟩,⟨some 141, none,.mv (.t 16)⟩,⟨some 142, none,.bin .add (.t 141) (.c (vi 1))⟩,⟨some 143, none,.mv (.t 2)⟩,⟨some 144, none,.mv (.t 3)⟩,⟨some 145, none,.mv (.t 4)⟩,⟨some 146, none,.call zl285 [(.ld,(.t 140)),(.val,(.t 142)),(.val,(.t 143)),(.val,(.t 144)),(.val,(.t 145))] false⟩] [0,1,3,4,10,11,16] []
def z285r30:IC:=.reg [⟨some 147, none,.mv (.t 16)⟩,⟨some 2, none,.asgm (.t 147)⟩] [0,1,2,3,4,10,11] []
def z285l31:IC:=(.block 1 (.seq z285r2 (.seq (.seq z285r3 (.cond (.t 25) (.seq z285r4 .ret) .skip)) (.seq (.seq z285r5 (.cond (.t 32) (.seq z285r6 .ret) .skip)) (.seq (.seq z285r7 (.cond (.t 39) (.seq z285r8 z285r9) .skip)) (.seq z285r10 (.seq (.seq z285r11 (.cond (.t 56) (.seq z285r12 (.seq z285r13 z285r14)) .skip)) (.seq (.seq z285r15 (.cond (.t 75) (.seq z285r16 (.cond (.t 80) .ret .skip)) .skip)) (.seq (.seq z285r17 (.cond (.t 97) (.seq z285r18 (.seq z285r19 (.exit 1))) .skip)) (.seq z285r20 (.seq z285r21 (.seq z285r22 (.seq z285r23 (.seq z285r24 (.cond (.t 125) (.seq z285r25 (.seq z285r26 z285r27)) (.seq z285r28 (.seq z285r29 z285r30)))))))))))))))))
def zi285:IFun:=⟨[],[0],(.seq z285r0 (.seq z285r1 (.block 0 (.loop z285l31))))⟩
def z101r0:IC:=.reg [⟨some 8, none,.asg (.c (.bool true))⟩] [0,1,2,3,8] []
def z101r1:IC:=.reg [⟨some 9, none,.asg (.c (.bool true))⟩] [0,1,2,3,8,9] []
def z101r2:IC:=.reg [⟨some 19, none,.mv (.t 2)⟩,⟨some 20, none,.mv (.t 1)⟩,⟨some 21, none,.bin .sub (.t 19) (.t 20)⟩,⟨some 10, none,.asg (.t 21)⟩] [0,1,2,3,8,9,10] []
def z101r3:IC:=.reg [⟨some 22, none,.mv (.t 10)⟩,⟨some 23, none,.bin .leq (.t 22) (.c (vi 12))⟩] [0,1,2,3,8,9,10,23] []
def z101r4:IC:=.reg [⟨some 24, none,.mv (.t 0)⟩,⟨some 25, none,.mv (.t 1)⟩,⟨some 26, none,.mv (.t 2)⟩,⟨some 27, none,.call zl86 [(.ld,(.t 24)),(.val,(.t 25)),(.val,(.t 26))] false⟩] [0] []
def z101r5:IC:=.reg [⟨some 28, none,.mv (.t 3)⟩,⟨some 29, none,.bin .eql (.t 28) (.c (vi 0))⟩] [0,1,2,3,8,9,10,29] []
def z101r6:IC:=.reg [⟨some 30, none,.mv (.t 0)⟩,⟨some 31, none,.mv (.t 1)⟩,⟨some 32, none,.mv (.t 2)⟩,⟨some 33, none,.call zl84 [(.ld,(.t 30)),(.val,(.t 31)),(.val,(.t 32))] false⟩] [0] []
def z101r7:IC:=.reg [⟨some 34, none,.mv (.t 8)⟩,⟨some 35, none,.unop .not (.t 34)⟩] [0,1,2,3,8,9,10,35] []
def z101r8:IC:=.reg [⟨some 36, none,.mv (.t 0)⟩,⟨some 37, none,.mv (.t 1)⟩,⟨some 38, none,.mv (.t 2)⟩,⟨some 39, none,.call zl80 [(.ld,(.t 36)),(.val,(.t 37)),(.val,(.t 38))] false⟩] [0,1,2,3,8,9,10] []
def z101r9:IC:=.reg [⟨some 40, none,.mv (.t 3)⟩,⟨some 41, none,.bin .sub (.t 40) (.c (vi 1))⟩,⟨some 3, none,.asg (.t 41)⟩] [0,1,2,3,8,9,10] []
def z101r10:IC:=.reg [⟨some 43, none,.mv (.t 0)⟩,⟨some 44, none,.mv (.t 1)⟩,⟨some 45, none,.mv (.t 2)⟩,⟨some 46, none,.call zl82 [(.rd,(.t 43)),(.val,(.t 44)),(.val,(.t 45))] true⟩,⟨some 42, none,.asg (.t 46)⟩,⟨some 47, none,.extr (.t 42) 0⟩,⟨some 48, none,.extr (.t 42) 1⟩,⟨some 11, none,.asg (.t 47)⟩,⟨some 12, none,.asg (.t 48)⟩] [0,1,2,3,8,9,10,11,12] []
def z101r11:IC:=.reg [⟨some 49, none,.mv (.t 12)⟩,⟨some 50, none,.bin .eql (.t 49) (.c (vi 2))⟩] [0,1,2,3,8,9,10,11,12,50] []
def z101r12:IC:=.reg [⟨some 51, none,.mv (.t 0)⟩,⟨some 52, none,.mv (.t 1)⟩,⟨some 53, none,.mv (.t 2)⟩,⟨some 54, none,.call zl103 [(.ld,(.t 51)),(.val,(.t 52)),(.val,(.t 53))] false⟩] [0,1,2,3,8,9,10,11] []
def z101r13:IC:=.reg [⟨some 55, none,.mv (.t 2)⟩,⟨some 56, none,.bin .sub (.t 55) (.c (vi 1))⟩,⟨some 57, none,.mv (.t 11)⟩,⟨some 58, none,.mv (.t 1)⟩,⟨some 59, none,.bin .sub (.t 57) (.t 58)⟩,⟨some 60, none,.bin .sub (.t 56) (.t 59)⟩,⟨some 11, none,.asg (.t 60)⟩] [0,1,2,3,8,9,10,11] []
def z101r14:IC:=.reg [⟨some 12, none,.asg (.c (vi 1))⟩] [0,1,2,3,8,9,10,11,12] []
def z101r15:IC:=.reg [⟨some 61, none,.mv (.t 8)⟩,⟨some 62, none,.asg (.t 61)⟩,⟨some 63, (some (62,true)),.mv (.t 9)⟩,⟨some 64, none,.pick (.t 62) (.t 63) (.c (.bool false))⟩,⟨some 65, none,.asg (.t 64)⟩,⟨some 66, (some (65,true)),.mv (.t 12)⟩,⟨some 67, (some (65,true)),.bin .eql (.t 66) (.c (vi 1))⟩,⟨some 68, none,.pick (.t 65) (.t 67) (.c (.bool false))⟩] [0,1,2,3,8,9,10,11,68] []
def z101r16:IC:=.reg [⟨some 69, none,.mv (.t 0)⟩,⟨some 70, none,.mv (.t 1)⟩,⟨some 71, none,.mv (.t 2)⟩,⟨some 72, none,.call zl95 [(.ld,(.t 69)),(.val,(.t 70)),(.val,(.t 71))] false⟩] [0,1,2,3,8,9,10,11,72] []
def z101r17:IC:=.reg [⟨some 73, none,.mv (.t 1)⟩,⟨some 74, none,.bin .gtr (.t 73) (.c (vi 0))⟩,⟨some 75, none,.asg (.t 74)⟩,⟨some 76, (some (75,true)),.mv (.t 0)⟩,⟨some 77, (some (75,true)),.mv (.t 1)⟩,⟨some 78, (some (75,true)),.bin .sub (.t 77) (.c (vi 1))⟩,⟨some 79, (some (75,true)),.iadr 1 (.t 76) (.t 78)⟩,⟨some 80, (some (75,true)),.load false 1 (.t 79)⟩,⟨some 81, (some (75,true)),.mv (.t 0)⟩,⟨some 82, (some (75,true)),.mv (.t 11)⟩,⟨some 83, (some (75,true)),.iadr 1 (.t 81) (.t 82)⟩,⟨some 84, (some (75,true)),.load false 1 (.t 83)⟩,⟨some 85, (some (75,true)),.call zl2 [(.val,(.t 80)),(.val,(.t 84))] true⟩,⟨some 86, (some (75,true)),.unop .not (.t 85)⟩,⟨some 87, none,.pick (.t 75) (.t 86) (.c (.bool false))⟩] [0,1,2,3,8,9,10,11,87] []
def z101r18:IC:=.reg [⟨some 88, none,.mv (.t 0)⟩,⟨some 89, none,.mv (.t 1)⟩,⟨some 90, none,.mv (.t 2)⟩,⟨some 91, none,.mv (.t 11)⟩,⟨some 92, none,.call zl98 [(.ld,(.t 88)),(.val,(.t 89)),(.val,(.t 90)),(.val,(.t 91))] false⟩,⟨some 13, none,.asg (.t 92)⟩] [0,2,3,8,9,13] []
def z101r19:IC:=.reg [⟨some 93, none,.mv (.t 13)⟩,⟨some 1, none,.asgm (.t 93)⟩] [0,1,2,3,8,9] []
def z101r20:IC:=.reg [⟨some 95, none,.mv (.t 0)⟩,⟨some 96, none,.mv (.t 1)⟩,⟨some 97, none,.mv (.t 2)⟩,⟨some 98, none,.mv (.t 11)⟩,⟨some 99, none,.call zl99 [(.ld,(.t 95)),(.val,(.t 96)),(.val,(.t 97)),(.val,(.t 98))] false⟩,⟨some 94, none,.asg (.t 99)⟩,⟨some 100, none,.extr (.t 94) 0⟩,⟨some 101, none,.extr (.t 94) 1⟩,⟨some 14, none,.asg (.t 100)⟩,⟨some 15, none,.asg (.t 101)⟩] [0,1,2,3,10,14,15] []
def z101r21:IC:=.reg [⟨some 102, none,.mv (.t 15)⟩,⟨some 9, none,.asgm (.t 102)⟩] [0,1,2,3,9,10,14] []
def z101r22:IC:=.reg [⟨some 103, none,.mv (.t 14)⟩,⟨some 104, none,.mv (.t 1)⟩,⟨some 105, none,.bin .sub (.t 103) (.t 104)⟩,⟨some 106, none,.mv (.t 2)⟩,⟨some 107, none,.mv (.t 14)⟩,⟨some 108, none,.bin .sub (.t 106) (.t 107)⟩,⟨some 16, none,.asg (.t 105)⟩,⟨some 17, none,.asg (.t 108)⟩] [0,1,2,3,9,10,14,16,17] []
def z101r23:IC:=.reg [⟨some 109, none,.mv (.t 10)⟩,⟨some 110, none,.bin .quo (.t 109) (.c (vi 8))⟩,⟨some 18, none,.asg (.t 110)⟩] [0,1,2,3,9,14,16,17,18] []
def z101r24:IC:=.reg [⟨some 111, none,.mv (.t 16)⟩,⟨some 112, none,.mv (.t 17)⟩,⟨some 113, none,.bin .lss (.t 111) (.t 112)⟩] [0,1,2,3,9,14,16,17,18,113] []
def z101r25:IC:=.reg [⟨some 114, none,.mv (.t 16)⟩,⟨some 115, none,.mv (.t 18)⟩,⟨some 116, none,.bin .geq (.t 114) (.t 115)⟩,⟨some 8, none,.asg (.t 116)⟩] [0,1,2,3,8,9,14] []
def z101r26:IC:=.reg [⟨some 117, none,.mv (.t 0)⟩,⟨some 118, none,.mv (.t 1)⟩,⟨some 119, none,.mv (.t 14)⟩,⟨some 120, none,.mv (.t 3)⟩,⟨some 121, none,.call zl101 [(.ld,(.t 117)),(.val,(.t 118)),(.val,(.t 119)),(.val,(.t 120))] false⟩] [0,2,3,8,9,14] []
def z101r27:IC:=.reg [⟨some 122, none,.mv (.t 14)⟩,⟨some 123, none,.bin .add (.t 122) (.c (vi 1))⟩,⟨some 1, none,.asg (.t 123)⟩] [0,1,2,3,8,9] []
def z101r28:IC:=.reg [⟨some 124, none,.mv (.t 17)⟩,⟨some 125, none,.mv (.t 18)⟩,⟨some 126, none,.bin .geq (.t 124) (.t 125)⟩,⟨some 8, none,.asg (.t 126)⟩] [0,1,2,3,8,9,14] []
def z101r29:IC:=.reg [⟨some 127, none,.mv (.t 0)⟩,⟨some 128, none,.mv (.t 14)⟩,⟨some 129, none,.bin .add (.t 128) (.c (vi 1))⟩,⟨some 130, none,.mv (.t 2)⟩,⟨some 131, none,.mv (.t 3)⟩,⟨some 132, none,.call zl101 [(.ld,(.t 127)),(.val,(.t 129)),(.val,(.t 130)),(.val,(.t 131))] false⟩] [0,1,3,8,9,14] []
def z101r30:IC:=.reg [⟨some 133, none,.mv (.t 14)⟩,⟨some 2, none,.asgm (.t 133)⟩] [0,1,2,3,8,9] []
def z101l31:IC:=(.block 1 (.seq z101r2 (.seq (.seq z101r3 (.cond (.t 23) (.seq z101r4 .ret) .skip)) (.seq (.seq z101r5 (.cond (.t 29) (.seq z101r6 .ret) .skip)) (.seq (.seq z101r7 (.cond (.t 35) (.seq z101r8 z101r9) .skip)) (.seq z101r10 (.seq (.seq z101r11 (.cond (.t 50) (.seq z101r12 (.seq z101r13 z101r14)) .skip)) (.seq (.seq z101r15 (.cond (.t 68) (.seq z101r16 (.cond (.t 72) .ret .skip)) .skip)) (.seq (.seq z101r17 (.cond (.t 87) (.seq z101r18 (.seq z101r19 (.exit 1))) .skip)) (.seq z101r20 (.seq z101r21 (.seq z101r22 (.seq z101r23 (.seq z101r24 (.cond (.t 113) (.seq z101r25 (.seq z101r26 z101r27)) (.seq z101r28 (.seq z101r29 z101r30)))))))))))))))))
def zi101:IFun:=⟨[],[0],(.seq z101r0 (.seq z101r1 (.block 0 (.loop z101l31))))⟩
def z106r0:IC:=.reg [⟨some 2, none,.asg (.c (.int .u64 (0)))⟩] [0] []
def z106r1:IC:=.reg [⟨some 3, none,.mv (.t 0)⟩,⟨some 4, none,.nilck (.t 3)⟩,⟨some 5, none,.load false 1 (.t 4)⟩,⟨some 6, none,.mv (.t 0)⟩,⟨some 7, none,.nilck (.t 6)⟩,⟨some 8, none,.load false 1 (.t 7)⟩,⟨some 9, none,.bin .shl (.t 8) (.c (.int .u64 (13)))⟩,⟨some 10, none,.bin .xor (.t 5) (.t 9)⟩,⟨some 11, none,.nilck (.t 3)⟩,⟨none,none,.store 1 (.t 11) (.t 10)⟩] [0] []
def z106r2:IC:=.reg [⟨some 12, none,.mv (.t 0)⟩,⟨some 13, none,.nilck (.t 12)⟩,⟨some 14, none,.load false 1 (.t 13)⟩,⟨some 15, none,.mv (.t 0)⟩,⟨some 16, none,.nilck (.t 15)⟩,⟨some 17, none,.load false 1 (.t 16)⟩,⟨some 18, none,.bin .shr (.t 17) (.c (.int .u64 (7)))⟩,⟨some 19, none,.bin .xor (.t 14) (.t 18)⟩,⟨some 20, none,.nilck (.t 12)⟩,⟨none,none,.store 1 (.t 20) (.t 19)⟩] [0] []
def z106r3:IC:=.reg [⟨some 21, none,.mv (.t 0)⟩,⟨some 22, none,.nilck (.t 21)⟩,⟨some 23, none,.load false 1 (.t 22)⟩,⟨some 24, none,.mv (.t 0)⟩,⟨some 25, none,.nilck (.t 24)⟩,⟨some 26, none,.load false 1 (.t 25)⟩,⟨some 27, none,.bin .shl (.t 26) (.c (.int .u64 (17)))⟩,⟨some 28, none,.bin .xor (.t 23) (.t 27)⟩,⟨some 29, none,.nilck (.t 21)⟩,⟨none,none,.store 1 (.t 29) (.t 28)⟩] [0] []
def z106r4:IC:=.reg [⟨some 30, none,.mv (.t 0)⟩,⟨some 31, none,.nilck (.t 30)⟩,⟨some 32, none,.load false 1 (.t 31)⟩,⟨some 2, none,.asg (.t 32)⟩] [2] []
def zi106:IFun:=⟨[.t 2],[],(.seq z106r0 (.seq z106r1 (.seq z106r2 (.seq z106r3 (.seq z106r4 .ret)))))⟩
def z566r0:IC:=.reg [⟨some 2, none,.asg (.c (.slice none 0 0))⟩] [0] []
def z566r1:IC:=.reg [⟨some 4, none,.mv (.t 0)⟩,⟨some 5, none,.call zl137 [(.rd,(.t 4))] false⟩,⟨some 3, none,.asg (.t 5)⟩] [3] []
def z566r2:IC:=.reg [⟨some 6, none,.mv (.t 3)⟩,⟨some 7, none,.call zl140 [(.val,(.t 6)),(.val,(.c (vi 6)))] false⟩,⟨some 8, none,.bin .eql (.t 7) (.c (vi 0))⟩] [3,8] []
def z566r3:IC:=.reg [⟨some 9, none,.mv (.t 3)⟩,⟨some 10, none,.call zl595 [(.val,(.t 9))] false⟩,⟨some 2, none,.asg (.t 10)⟩] [2] []
def z566r4:IC:=.reg [⟨some 11, none,.mv (.t 3)⟩,⟨some 12, none,.mv (.t 3)⟩,⟨some 13, none,.call zl140 [(.val,(.t 12)),(.val,(.c (vi 3)))] false⟩,⟨some 14, none,.bin .add (.c (vi 1)) (.t 13)⟩,⟨some 15, none,.mv (.t 3)⟩,⟨some 16, none,.call zl140 [(.val,(.t 15)),(.val,(.c (vi 4)))] false⟩,⟨some 17, none,.bin .add (.c (vi 1)) (.t 16)⟩,⟨some 18, none,.call zl331 [(.val,(.t 11)),(.val,(.t 14)),(.val,(.t 17))] false⟩,⟨some 2, none,.asg (.t 18)⟩] [2] []
def zi566:IFun:=⟨[.t 2],[],(.seq z566r0 (.seq z566r1 (.seq (.seq z566r2 (.cond (.t 8) (.seq z566r3 .ret) .skip)) (.seq z566r4 .ret))))⟩
def z576r0:IC:=.reg [⟨some 2, none,.alloc [(vi 0),(.slice none 0 0)]⟩,⟨some 3, none,.asg (.c (.bool false))⟩] [0,2] []
def z576r1:IC:=.reg [⟨some 4, none,.mv (.t 0)⟩,⟨some 5, none,.call zl598 [(.rd,(.t 4))] true⟩,⟨some 6, none,.unop .not (.t 5)⟩,⟨some 7, none,.asg (.t 6)⟩,⟨some 8, (some (7,false)),.mv (.t 0)⟩,⟨some 9, (some (7,false)),.len (.t 8)⟩,⟨some 10, (some (7,false)),.mv (.t 0)⟩,⟨some 11, (some (7,false)),.iadr 1 (.t 10) (.c (vi 0))⟩,⟨some 12, (some (7,false)),.load false 1 (.t 11)⟩,⟨some 13, (some (7,false)),.len (.t 12)⟩,⟨some 14, (some (7,false)),.bin .add (.t 9) (.t 13)⟩,⟨some 15, (some (7,false)),.bin .gtr (.t 14) (.c (vi 7))⟩,⟨some 16, none,.pick (.t 7) (.c (.bool true)) (.t 15)⟩] [0,2,16] []
def z576r2:IC:=.reg [⟨some 17, none,.build [(vi 0),(.slice none 0 0)] []⟩,⟨none,none,.store 2 (.t 2) (.t 17)⟩,⟨some 3, none,.asg (.c (.bool false))⟩] [2,3] []
def z576r3:IC:=.reg [⟨some 18, none,.mv (.t 0)⟩,⟨some 19, none,.call zl380 [(.rd,(.t 18))] true⟩,⟨none,none,.store 2 (.t 2) (.t 19)⟩,⟨some 3, none,.asg (.c (.bool true))⟩] [2,3] []
def zi576:IFun:=⟨[.c 2 2 true,.t 3],[],(.seq z576r0 (.seq (.seq z576r1 (.cond (.t 16) (.seq z576r2 .ret) .skip)) (.seq z576r3 .ret)))⟩
def z331r0:IC:=.reg [⟨some 6, none,.asg (.c (.slice none 0 0))⟩] [0,1,2] []
def z331r1:IC:=.reg [⟨some 11, none,.bsl 1 [(.slice none 0 0)] 0 []⟩,⟨some 7, none,.asg (.t 11)⟩] [0,1,2,7] []
def z331r2:IC:=.reg [⟨some 8, none,.asg (.c (vi 0))⟩] [0,1,2,7,8] []
def z331r3:IC:=.reg [⟨some 12, none,.mv (.t 8)⟩,⟨some 13, none,.mv (.t 1)⟩,⟨some 14, none,.bin .lss (.t 12) (.t 13)⟩] [0,1,2,7,8,14] []
def z331r4:IC:=.reg [⟨some 17, none,.bsl 1 [(vi 0)] 0 []⟩,⟨some 9, none,.asg (.t 17)⟩] [0,1,2,7,8,9] []
def z331r5:IC:=.reg [⟨some 10, none,.asg (.c (vi 0))⟩] [0,1,2,7,8,9,10] []
def z331r6:IC:=.reg [⟨some 18, none,.mv (.t 10)⟩,⟨some 19, none,.mv (.t 2)⟩,⟨some 20, none,.bin .lss (.t 18) (.t 19)⟩] [0,1,2,7,8,9,10,20] []
def z331r7:IC:=.reg [⟨some 23, none,.mv (.t 9)⟩,⟨some 24, none,.mv (.t 0)⟩,⟨some 25, none,.call zl140 [(.val,(.t 24)),(.val,(.c (vi 2)))] false⟩,⟨some 26, none,.bsl 1 [(vi 0)] 1 [(0,(.t 25))]⟩,⟨some 27, none,.app 1 (.t 23) (.t 26)⟩,⟨some 9, none,.asg (.t 27)⟩] [0,1,2,7,8,9,10] []
def z331r8:IC:=.reg [⟨some 21, none,.mv (.t 10)⟩,⟨some 22, none,.bin .add (.t 21) (.c (vi 1))⟩,⟨some 10, none,.asg (.t 22)⟩] [0,1,2,7,8,9,10] []
def z331l9:IC:=(.seq (.seq z331r6 (.cond (.t 20) .skip (.exit 2))) (.seq (.block 3 z331r7) z331r8))
def z331r10:IC:=.reg [⟨some 28, none,.mv (.t 7)⟩,⟨some 29, none,.mv (.t 9)⟩,⟨some 30, none,.bsl 1 [(.slice none 0 0)] 1 [(0,(.t 29))]⟩,⟨some 31, none,.app 1 (.t 28) (.t 30)⟩,⟨some 7, none,.asg (.t 31)⟩] [0,1,2,7,8] []
def z331r11:IC:=.reg [⟨some 15, none,.mv (.t 8)⟩,⟨some 16, none,.bin .add (.t 15) (.c (vi 1))⟩,⟨some 8, none,.asg (.t 16)⟩] [0,1,2,7,8] []
def z331l12:IC:=(.seq (.seq z331r3 (.cond (.t 14) .skip (.exit 0))) (.seq (.block 1 (.seq z331r4 (.seq (.seq z331r5 (.block 2 (.loop z331l9))) z331r10))) z331r11))
def z331r13:IC:=.reg [⟨some 32, none,.mv (.t 7)⟩,⟨some 6, none,.asgm (.t 32)⟩] [6,7] []
def zi331:IFun:=⟨[.t 6],[],(.seq z331r0 (.seq z331r1 (.seq (.seq z331r2 (.block 0 (.loop z331l12))) (.seq z331r13 .ret))))⟩
def z132r0:IC:=.reg [⟨some 6, none,.asg (.c (.bool false))⟩] [0,1,2] []
def z132r1:IC:=.reg [⟨some 7, none,.mv (.t 1)⟩,⟨some 8, none,.mv (.t 0)⟩,⟨some 9, none,.bin .leq (.t 7) (.t 8)⟩,⟨some 10, none,.asg (.t 9)⟩,⟨some 11, (some (10,true)),.mv (.t 0)⟩,⟨some 12, (some (10,true)),.mv (.t 2)⟩,⟨some 13, (some (10,true)),.bin .leq (.t 11) (.t 12)⟩,⟨some 14, none,.pick (.t 10) (.t 13) (.c (.bool false))⟩,⟨some 6, none,.asg (.t 14)⟩] [6] []
def zi132:IFun:=⟨[.t 6],[],(.seq z132r0 (.seq z132r1 .ret))⟩
def z137r0:IC:=.reg [⟨some 2, none,.asg (.c (.pointer none))⟩] [0] []
def z137r1:IC:=.reg [⟨some 3, none,.mv (.t 0)⟩,⟨some 4, none,.len (.t 3)⟩,⟨some 5, none,.bin .gtr (.t 4) (.c (vi 2000))⟩] [0,5] []
def z137r2:IC:=.reg [⟨some 6, none,.mv (.t 0)⟩,⟨some 7, none,.slc 1 (.t 6) none (some (.c (vi 2000))) none⟩,⟨some 0, none,.asgm (.t 7)⟩] [0] []
def z137r3:IC:=.reg [⟨some 8, none,.mv (.t 0)⟩,⟨some 9, none,.build [(.slice none 0 0),(vi 0)] [(0,1,(.t 8))]⟩,⟨some 10, none,.box (.t 9)⟩,⟨some 2, none,.asg (.t 10)⟩] [2] []
def zi137:IFun:=⟨[.t 2],[],(.seq z137r0 (.seq (.seq z137r1 (.cond (.t 5) z137r2 .skip)) (.seq z137r3 .ret)))⟩
def z138r0:IC:=.reg [⟨some 2, none,.asg (.c (.slice none 0 0))⟩] [0] []
def z138r1:IC:=.reg [⟨some 6, none,.bsl 2 [(vi 0),(vi 0)] 0 []⟩,⟨some 3, none,.asg (.t 6)⟩] [0,3] []
def z138r2:IC:=.reg [⟨some 4, none,.asg (.c (vi 0))⟩] [0,3,4] []
def z138r3:IC:=.reg [⟨some 7, none,.mv (.t 4)⟩,⟨some 8, none,.mv (.t 0)⟩,⟨some 9, none,.bin .lss (.t 7) (.t 8)⟩] [0,3,4,9] []
def z138r4:IC:=.reg [⟨some 12, none,.mv (.t 4)⟩,⟨some 13, none,.bin .add (.t 12) (.c (vi 1))⟩,⟨some 5, none,.asg (.t 13)⟩] [0,3,4,5] []
def z138r5:IC:=.reg [⟨some 14, none,.mv (.t 5)⟩,⟨some 15, none,.mv (.t 0)⟩,⟨some 16, none,.bin .lss (.t 14) (.t 15)⟩] [0,3,4,5,16] []
def z138r6:IC:=.reg [⟨some 19, none,.mv (.t 3)⟩,⟨some 20, none,.mv (.t 4)⟩,⟨some 21, none,.mv (.t 5)⟩,⟨some 22, none,.build [(vi 0),(vi 0)] [(0,1,(.t 20)),(1,1,(.t 21))]⟩,⟨some 23, none,.bsl 2 [(vi 0),(vi 0)] 1 [(0,(.t 22))]⟩,⟨some 24, none,.app 2 (.t 19) (.t 23)⟩,⟨some 3, none,.asg (.t 24)⟩] [0,3,4,5] []
def z138r7:IC:=.reg [⟨some 17, none,.mv (.t 5)⟩,⟨some 18, none,.bin .add (.t 17) (.c (vi 1))⟩,⟨some 5, none,.asg (.t 18)⟩] [0,3,4,5] []
def z138l8:IC:=(.seq (.seq z138r5 (.cond (.t 16) .skip (.exit 2))) (.seq (.block 3 z138r6) z138r7))
def z138r9:IC:=.reg [⟨some 10, none,.mv (.t 4)⟩,⟨some 11, none,.bin .add (.t 10) (.c (vi 1))⟩,⟨some 4, none,.asg (.t 11)⟩] [0,3,4] []
def z138l10:IC:=(.seq (.seq z138r3 (.cond (.t 9) .skip (.exit 0))) (.seq (.block 1 (.seq z138r4 (.block 2 (.loop z138l8)))) z138r9))
def z138r11:IC:=.reg [⟨some 25, none,.mv (.t 3)⟩,⟨some 2, none,.asgm (.t 25)⟩] [2,3] []
def zi138:IFun:=⟨[.t 2],[],(.seq z138r0 (.seq z138r1 (.seq (.seq z138r2 (.block 0 (.loop z138l10))) (.seq z138r11 .ret))))⟩
def z139r0:IC:=.reg [⟨some 4, none,.asg (.c (vi 0))⟩] [0,1] []
def z139r1:IC:=.reg [⟨some 5, none,.mv (.t 1)⟩,⟨some 6, none,.mv (.t 0)⟩,⟨some 7, none,.mv (.t 1)⟩,⟨some 8, none,.len (.t 7)⟩,⟨some 9, none,.call zl140 [(.val,(.t 6)),(.val,(.t 8))] false⟩,⟨some 10, none,.iadr 1 (.t 5) (.t 9)⟩,⟨some 11, none,.load false 1 (.t 10)⟩,⟨some 4, none,.asg (.t 11)⟩] [4] []
def zi139:IFun:=⟨[.t 4],[],(.seq z139r0 (.seq z139r1 .ret))⟩
def z140r0:IC:=.reg [⟨some 4, none,.asg (.c (vi 0))⟩] [0,1] []
def z140r1:IC:=.reg [⟨some 7, none,.mv (.t 0)⟩,⟨some 8, none,.mv (.t 0)⟩,⟨some 9, none,.nilck (.t 8)⟩,⟨some 10, none,.fadr 1 (.t 9)⟩,⟨some 11, none,.load false 1 (.t 10)⟩,⟨some 12, none,.bin .add (.t 11) (.c (vi 1))⟩,⟨some 13, none,.nilck (.t 7)⟩,⟨some 14, none,.fadr 1 (.t 13)⟩,⟨none,none,.store 1 (.t 14) (.t 12)⟩] [0,1] []
def z140r2:IC:=.reg [⟨some 15, none,.mv (.t 1)⟩,⟨some 16, none,.bin .lss (.t 15) (.c (vi 1))⟩,⟨some 17, none,.asg (.t 16)⟩,⟨some 18, (some (17,false)),.mv (.t 0)⟩,⟨some 19, (some (17,false)),.nilck (.t 18)⟩,⟨some 20, (some (17,false)),.fadr 0 (.t 19)⟩,⟨some 21, (some (17,false)),.load false 1 (.t 20)⟩,⟨some 22, (some (17,false)),.len (.t 21)⟩,⟨some 23, (some (17,false)),.bin .eql (.t 22) (.c (vi 0))⟩,⟨some 24, none,.pick (.t 17) (.c (.bool true)) (.t 23)⟩] [0,1,24] []
def z140r3:IC:=.reg [⟨some 4, none,.asg (.c (vi 0))⟩] [4] []
def z140r4:IC:=.reg [⟨some 25, none,.mv (.t 0)⟩,⟨some 26, none,.nilck (.t 25)⟩,⟨some 27, none,.fadr 1 (.t 26)⟩,⟨some 28, none,.load false 1 (.t 27)⟩,⟨some 29, none,.bin .sub (.t 28) (.c (vi 1))⟩,⟨some 5, none,.asg (.t 29)⟩] [0,1,5] []
def z140r5:IC:=.reg [⟨some 30, none,.mv (.t 5)⟩,⟨some 31, none,.mv (.t 0)⟩,⟨some 32, none,.nilck (.t 31)⟩,⟨some 33, none,.fadr 0 (.t 32)⟩,⟨some 34, none,.load false 1 (.t 33)⟩,⟨some 35, none,.len (.t 34)⟩,⟨some 36, none,.bin .lss (.t 30) (.t 35)⟩] [0,1,5,36] []
def z140r6:IC:=.reg [⟨some 37, none,.mv (.t 0)⟩,⟨some 38, none,.nilck (.t 37)⟩,⟨some 39, none,.fadr 0 (.t 38)⟩,⟨some 40, none,.load false 1 (.t 39)⟩,⟨some 41, none,.mv (.t 5)⟩,⟨some 42, none,.iadr 1 (.t 40) (.t 41)⟩,⟨some 43, none,.load false 1 (.t 42)⟩,⟨some 44, none,.conv .i64 (.t 43)⟩,⟨some 45, none,.mv (.t 1)⟩,⟨some 46, none,.bin .rem (.t 44) (.t 45)⟩,⟨some 4, none,.asg (.t 46)⟩] [4] []
def z140r7:IC:=.reg [⟨some 47, none,.mv (.t 0)⟩,⟨some 48, none,.nilck (.t 47)⟩,⟨some 49, none,.fadr 0 (.t 48)⟩,⟨some 50, none,.load false 1 (.t 49)⟩,⟨some 51, none,.mv (.t 5)⟩,⟨some 52, none,.mv (.t 0)⟩,⟨some 53, none,.nilck (.t 52)⟩,⟨some 54, none,.fadr 0 (.t 53)⟩,⟨some 55, none,.load false 1 (.t 54)⟩,⟨some 56, none,.len (.t 55)⟩,⟨some 57, none,.bin .rem (.t 51) (.t 56)⟩,⟨some 58, none,.iadr 1 (.t 50) (.t 57)⟩,⟨some 59, none,.load false 1 (.t 58)⟩,⟨some 60, none,.conv .i64 (.t 59)⟩,⟨some 61, none,.bin .mul (.t 60) (.c (vi 131))⟩,⟨some 62, none,.mv (.t 0)⟩,⟨some 63, none,.nilck (.t 62)⟩,⟨some 64, none,.fadr 0 (.t 63)⟩,⟨some 65, none,.load false 1 (.t 64)⟩,⟨some 66, none,.mv (.t 5)⟩,⟨some 67, none,.bin .mul (.t 66) (.c (vi 7))⟩,⟨some 68, none,.bin .add (.t 67) (.c (vi 3))⟩,⟨some 69, none,.mv (.t 0)⟩,⟨some 70, none,.nilck (.t 69)⟩,⟨some 71, none,.fadr 0 (.t 70)⟩,
    ⟨some 72, none,.load false 1 (.t 71)⟩,⟨some 73, none,.len (.t 72)⟩,⟨some 74, none,.bin .rem (.t 68) (.t 73)⟩,⟨some 75, none,.iadr 1 (.t 65) (.t 74)⟩,⟨some 76, none,.load false 1 (.t 75)⟩,⟨some 77, none,.conv .i64 (.t 76)⟩,⟨some 78, none,.bin .mul (.t 77) (.c (vi 1117))⟩,⟨some 79, none,.bin .add (.t 61) (.t 78)⟩,⟨some 80, none,.mv (.t 5)⟩,⟨some 81, none,.bin .mul (.t 80) (.c (vi 29))⟩,⟨some 82, none,.bin .add (.t 79) (.t 81)⟩,⟨some 83, none,.mv (.t 5)⟩,⟨some 84, none,.mv (.t 0)⟩,⟨some 85, none,.nilck (.t 84)⟩,⟨some 86, none,.fadr 0 (.t 85)⟩,⟨some 87, none,.load false 1 (.t 86)⟩,⟨some 88, none,.len (.t 87)⟩,⟨some 89, none,.bin .quo (.t 83) (.t 88)⟩,⟨some 90, none,.bin .mul (.t 89) (.c (vi 53))⟩,⟨some 91, none,.bin .add (.t 82) (.t 90)⟩,⟨some 6, none,.asg (.t 91)⟩] [1,6] []
def z140r8:IC:=.reg [⟨some 92, none,.mv (.t 6)⟩,⟨some 93, none,.mv (.t 6)⟩,⟨some 94, none,.bin .quo (.t 93) (.c (vi 64))⟩,⟨some 95, none,.bin .xor (.t 92) (.t 94)⟩,⟨some 6, none,.asg (.t 95)⟩] [1,6] []
def z140r9:IC:=.reg [⟨some 96, none,.mv (.t 6)⟩,⟨some 97, none,.mv (.t 1)⟩,⟨some 98, none,.bin .rem (.t 96) (.t 97)⟩,⟨some 4, none,.asg (.t 98)⟩] [4] []
def zi140:IFun:=⟨[.t 4],[],(.seq z140r0 (.seq z140r1 (.seq (.seq z140r2 (.cond (.t 24) (.seq z140r3 .ret) .skip)) (.seq z140r4 (.seq (.seq z140r5 (.cond (.t 36) (.seq z140r6 .ret) .skip)) (.seq z140r7 (.seq z140r8 (.seq z140r9 .ret))))))))⟩
def z595r0:IC:=.reg [⟨some 2, none,.asg (.c (.slice none 0 0))⟩] [0] []
def z595r1:IC:=.reg [⟨some 4, none,.mv (.t 0)⟩,⟨some 5, none,.mv (.t 0)⟩,⟨some 6, none,.call zl140 [(.val,(.t 5)),(.val,(.c (vi 5)))] false⟩,⟨some 7, none,.bin .add (.c (vi 1)) (.t 6)⟩,⟨some 8, none,.mv (.t 0)⟩,⟨some 9, none,.call zl140 [(.val,(.t 8)),(.val,(.c (vi 5)))] false⟩,⟨some 10, none,.bin .add (.c (vi 1)) (.t 9)⟩,⟨some 11, none,.call zl331 [(.val,(.t 4)),(.val,(.t 7)),(.val,(.t 10))] false⟩,⟨some 3, none,.asg (.t 11)⟩] [0,3] []
def z595r2:IC:=.reg [⟨some 12, none,.mv (.t 0)⟩,⟨some 13, none,.call zl140 [(.val,(.t 12)),(.val,(.c (vi 30)))] false⟩] [0,3,13] []
def z595r3:IC:=.reg [⟨some 15, none,.bin .eql (.t 13) (.c (vi 0))⟩,⟨some 14, none,.asg (.t 15)⟩] [0,3,13,14] []
def z595r4:IC:=.reg [⟨some 16, none,.mv (.t 3)⟩,⟨some 17, none,.iadr 1 (.t 16) (.c (vi 0))⟩,⟨some 18, none,.load false 1 (.t 17)⟩,⟨some 19, none,.mv (.t 0)⟩,⟨some 20, none,.bsl 1 [(vi 0)] 2 [(0,(.c (vi 2))),(1,(.c (vi (-1))))]⟩,⟨some 21, none,.call zl139 [(.val,(.t 19)),(.rd,(.t 20))] false⟩,⟨some 22, none,.iadr 1 (.t 18) (.c (vi 0))⟩,⟨none,none,.store 1 (.t 22) (.t 21)⟩] [3] [[0,1,3,4,2,5,6,7],[0,1,3,4,5,2,6,7]]
def z595r5:IC:=.reg [⟨some 24, none,.bin .eql (.t 13) (.c (vi 1))⟩,⟨some 23, none,.asg (.t 24)⟩] [3,13,23] []
def z595r6:IC:=.reg [⟨some 25, none,.mv (.t 3)⟩,⟨some 26, none,.bsl 1 [(vi 0)] 1 [(0,(.c (vi 1)))]⟩,⟨some 27, none,.bsl 1 [(.slice none 0 0)] 1 [(0,(.t 26))]⟩,⟨some 28, none,.app 1 (.t 25) (.t 27)⟩,⟨some 3, none,.asg (.t 28)⟩] [3] []
def z595r7:IC:=.reg [⟨some 30, none,.bin .eql (.t 13) (.c (vi 2))⟩,⟨some 29, none,.asg (.t 30)⟩] [3,29] []
def z595r8:IC:=.reg [⟨some 31, none,.bsl 1 [(.slice none 0 0)] 0 []⟩,⟨some 3, none,.asg (.t 31)⟩] [3] []
def z595r9:IC:=.reg [⟨some 32, none,.mv (.t 3)⟩,⟨some 2, none,.asgm (.t 32)⟩] [2,3] []
def zi595:IFun:=⟨[.t 2],[],(.seq z595r0 (.seq z595r1 (.seq (.seq z595r2 (.block 0 (.seq z595r3 (.cond (.t 14) z595r4 (.seq z595r5 (.cond (.t 23) z595r6 (.seq z595r7 (.cond (.t 29) z595r8 .skip)))))))) (.seq z595r9 .ret))))⟩
def z380r0:IC:=.reg [⟨some 2, none,.alloc [(vi 0),(.slice none 0 0)]⟩] [0,2] []
def z380r1:IC:=.reg [⟨some 7, none,.mv (.t 0)⟩,⟨some 8, none,.len (.t 7)⟩,⟨some 9, none,.mv (.t 0)⟩,⟨some 10, none,.iadr 1 (.t 9) (.c (vi 0))⟩,⟨some 11, none,.load false 1 (.t 10)⟩,⟨some 12, none,.len (.t 11)⟩,⟨some 13, none,.bin .add (.t 8) (.t 12)⟩,⟨some 14, none,.bsl 2 [(vi 0),(vi 0)] 0 []⟩,⟨some 15, none,.build [(vi 0),(.slice none 0 0)] [(0,1,(.t 13)),(1,1,(.t 14))]⟩,⟨some 3, none,.alloc [(vi 0),(.slice none 0 0)]⟩,⟨none,none,.store 2 (.t 3) (.t 15)⟩] [0,2,3] []
def z380r2:IC:=.reg [⟨some 16, none,.fadr 0 (.t 3)⟩,⟨some 17, none,.load false 1 (.t 16)⟩,⟨some 18, none,.call zl138 [(.val,(.t 17))] true⟩,⟨some 4, none,.asg (.t 18)⟩] [0,2,3,4] []
def z380r3:IC:=.reg [⟨some 5, none,.asg (.c (vi 0))⟩] [0,2,3,4,5] []
def z380r4:IC:=.reg [⟨some 19, none,.mv (.t 5)⟩,⟨some 20, none,.mv (.t 4)⟩,⟨some 21, none,.len (.t 20)⟩,⟨some 22, none,.bin .lss (.t 19) (.t 21)⟩] [0,2,3,4,5,22] []
def z380r5:IC:=.reg [⟨some 25, none,.mv (.t 4)⟩,⟨some 26, none,.mv (.t 5)⟩,⟨some 27, none,.iadr 2 (.t 25) (.t 26)⟩,⟨some 28, none,.load true 2 (.t 27)⟩,⟨some 6, none,.alloc [(vi 0),(vi 0)]⟩,⟨none,none,.store 2 (.t 6) (.t 28)⟩] [0,2,3,4,5,6] []
def z380r6:IC:=.reg [⟨some 29, none,.fadr 1 (.t 6)⟩,⟨some 30, none,.load false 1 (.t 29)⟩,⟨some 31, none,.mv (.t 0)⟩,⟨some 32, none,.len (.t 31)⟩,⟨some 33, none,.bin .lss (.t 30) (.t 32)⟩,⟨some 34, none,.asg (.t 33)⟩,⟨some 35, (some (34,false)),.fadr 0 (.t 6)⟩,⟨some 36, (some (34,false)),.load false 1 (.t 35)⟩,⟨some 37, (some (34,false)),.mv (.t 0)⟩,⟨some 38, (some (34,false)),.len (.t 37)⟩,⟨some 39, (some (34,false)),.bin .lss (.t 36) (.t 38)⟩,⟨some 40, (some (34,false)),.asg (.t 39)⟩,⟨some 41, (some (40,true)),.mv (.t 0)⟩,⟨some 42, (some (40,true)),.fadr 0 (.t 6)⟩,⟨some 43, (some (40,true)),.load false 1 (.t 42)⟩,⟨some 44, (some (40,true)),.iadr 1 (.t 41) (.t 43)⟩,⟨some 45, (some (40,true)),.load false 1 (.t 44)⟩,⟨some 46, (some (40,true)),.fadr 1 (.t 6)⟩,⟨some 47, (some (40,true)),.load false 1 (.t 46)⟩,⟨some 48, (some (40,true)),.mv (.t 0)⟩,
    ⟨some 49, (some (40,true)),.len (.t 48)⟩,⟨some 50, (some (40,true)),.bin .sub (.t 47) (.t 49)⟩,⟨some 51, (some (40,true)),.iadr 1 (.t 45) (.t 50)⟩,⟨some 52, (some (40,true)),.load false 1 (.t 51)⟩,⟨some 53, (some (40,true)),.bin .eql (.t 52) (.c (vi 1))⟩,⟨some 54, (some (34,false)),.pick (.t 40) (.t 53) (.c (.bool false))⟩,⟨some 55, none,.pick (.t 34) (.c (.bool true)) (.t 54)⟩] [0,2,3,4,5,6,55] []
def z380r7:IC:=.reg [⟨some 56, none,.fadr 1 (.t 3)⟩,⟨some 57, none,.load false 1 (.t 56)⟩,⟨some 58, none,.load true 2 (.t 6)⟩,⟨some 59, none,.bsl 2 [(vi 0),(vi 0)] 1 [(0,(.t 58))]⟩,⟨some 60, none,.app 2 (.t 57) (.t 59)⟩,⟨some 61, none,.fadr 1 (.t 3)⟩,⟨none,none,.store 1 (.t 61) (.t 60)⟩] [0,2,3,4,5] []
def z380r8:IC:=.reg [⟨some 23, none,.mv (.t 5)⟩,⟨some 24, none,.bin .add (.t 23) (.c (vi 1))⟩,⟨some 5, none,.asg (.t 24)⟩] [0,2,3,4,5] []
def z380l9:IC:=(.seq (.seq z380r4 (.cond (.t 22) .skip (.exit 0))) (.seq (.block 1 (.seq z380r5 (.seq z380r6 (.cond (.t 55) z380r7 .skip)))) z380r8))
def z380r10:IC:=.reg [⟨some 62, none,.load true 2 (.t 3)⟩,⟨none,none,.store 2 (.t 2) (.t 62)⟩] [2] []
def zi380:IFun:=⟨[.c 2 2 true],[],(.seq z380r0 (.seq z380r1 (.seq z380r2 (.seq (.seq z380r3 (.block 0 (.loop z380l9))) (.seq z380r10 .ret)))))⟩
def z598r0:IC:=.reg [⟨some 2, none,.asg (.c (.bool false))⟩] [0] []
def z598r1:IC:=.reg [⟨some 3, none,.asg (.c (vi 0))⟩] [0,3] []
def z598r2:IC:=.reg [⟨some 5, none,.mv (.t 3)⟩,⟨some 6, none,.mv (.t 0)⟩,⟨some 7, none,.len (.t 6)⟩,⟨some 8, none,.bin .lss (.t 5) (.t 7)⟩] [0,3,8] []
def z598r3:IC:=.reg [⟨some 11, none,.mv (.t 0)⟩,⟨some 12, none,.mv (.t 3)⟩,⟨some 13, none,.iadr 1 (.t 11) (.t 12)⟩,⟨some 14, none,.load false 1 (.t 13)⟩,⟨some 15, none,.len (.t 14)⟩,⟨some 16, none,.mv (.t 0)⟩,⟨some 17, none,.iadr 1 (.t 16) (.c (vi 0))⟩,⟨some 18, none,.load false 1 (.t 17)⟩,⟨some 19, none,.len (.t 18)⟩,⟨some 20, none,.bin .neq (.t 15) (.t 19)⟩,⟨some 21, none,.asg (.t 20)⟩,⟨some 22, (some (21,false)),.mv (.t 0)⟩,⟨some 23, (some (21,false)),.mv (.t 3)⟩,⟨some 24, (some (21,false)),.iadr 1 (.t 22) (.t 23)⟩,⟨some 25, (some (21,false)),.load false 1 (.t 24)⟩,⟨some 26, (some (21,false)),.len (.t 25)⟩,⟨some 27, (some (21,false)),.call zl132 [(.val,(.t 26)),(.val,(.c (vi 1))),(.val,(.c (vi 5)))] true⟩,⟨some 28, (some (21,false)),.unop .not (.t 27)⟩,⟨some 29, none,.pick (.t 21) (.c (.bool true)) (.t 28)⟩] [0,3,29] []
def z598r4:IC:=.reg [⟨some 2, none,.asg (.c (.bool false))⟩] [2] []
def z598r5:IC:=.reg [⟨some 4, none,.asg (.c (vi 0))⟩] [0,3,4] []
def z598r6:IC:=.reg [⟨some 30, none,.mv (.t 4)⟩,⟨some 31, none,.mv (.t 0)⟩,⟨some 32, none,.mv (.t 3)⟩,⟨some 33, none,.iadr 1 (.t 31) (.t 32)⟩,⟨some 34, none,.load false 1 (.t 33)⟩,⟨some 35, none,.len (.t 34)⟩,⟨some 36, none,.bin .lss (.t 30) (.t 35)⟩] [0,3,4,36] []
def z598r7:IC:=.reg [⟨some 39, none,.mv (.t 0)⟩,⟨some 40, none,.mv (.t 3)⟩,⟨some 41, none,.iadr 1 (.t 39) (.t 40)⟩,⟨some 42, none,.load false 1 (.t 41)⟩,⟨some 43, none,.mv (.t 4)⟩,⟨some 44, none,.iadr 1 (.t 42) (.t 43)⟩,⟨some 45, none,.load false 1 (.t 44)⟩,⟨some 46, none,.call zl132 [(.val,(.t 45)),(.val,(.c (vi 0))),(.val,(.c (vi 1)))] true⟩,⟨some 47, none,.unop .not (.t 46)⟩] [0,3,4,47] []
def z598r8:IC:=.reg [⟨some 2, none,.asg (.c (.bool false))⟩] [2] []
def z598r9:IC:=.reg [⟨some 37, none,.mv (.t 4)⟩,⟨some 38, none,.bin .add (.t 37) (.c (vi 1))⟩,⟨some 4, none,.asg (.t 38)⟩] [0,3,4] []
def z598l10:IC:=(.seq (.seq z598r6 (.cond (.t 36) .skip (.exit 2))) (.seq (.block 3 (.seq z598r7 (.cond (.t 47) (.seq z598r8 .ret) .skip))) z598r9))
def z598r11:IC:=.reg [⟨some 9, none,.mv (.t 3)⟩,⟨some 10, none,.bin .add (.t 9) (.c (vi 1))⟩,⟨some 3, none,.asg (.t 10)⟩] [0,3] []
def z598l12:IC:=(.seq (.seq z598r2 (.cond (.t 8) .skip (.exit 0))) (.seq (.block 1 (.seq (.seq z598r3 (.cond (.t 29) (.seq z598r4 .ret) .skip)) (.seq z598r5 (.block 2 (.loop z598l10))))) z598r11))
def z598r13:IC:=.reg [⟨some 48, none,.mv (.t 0)⟩,⟨some 49, none,.len (.t 48)⟩,⟨some 50, none,.call zl132 [(.val,(.t 49)),(.val,(.c (vi 1))),(.val,(.c (vi 5)))] true⟩,⟨some 2, none,.asg (.t 50)⟩] [2] []
def zi598:IFun:=⟨[.t 2],[],(.seq z598r0 (.seq (.seq z598r1 (.block 0 (.loop z598l12))) (.seq z598r13 .ret)))⟩
def tbl:List (Nat×IFun):=[(zl2,zi2),(zl4,zi4),(zl161,zi161),(zl164,zi164),(zl7,zi7),(zl8,zi8),(zl167,zi167),(zl410,zi410),(zl9,zi9),(zl171,zi171),(zl173,zi173),(zl508,zi508),(zl10,zi10),(zl186,zi186),(zl16,zi16),(zl513,zi513),(zl514,zi514),(zl18,zi18),(zl19,zi19),(zl20,zi20),(zl197,zi197),(zl411,zi411),(zl199,zi199),(zl25,zi25),(zl26,zi26),(zl27,zi27),(zl29,zi29),(zl30,zi30),(zl521,zi521),(zl204,zi204),(zl31,zi31),(zl32,zi32),(zl35,zi35),(zl36,zi36),(zl37,zi37),(zl38,zi38),(zl214,zi214),(zl216,zi216),(zl40,zi40),(zl220,zi220),(zl537,zi537),(zl237,zi237),(zl238,zi238),(zl53,zi53),(zl66,zi66),(zl68,zi68),(zl258,zi258),(zl260,zi260),(zl70,zi70),(zl261,zi261),(zl71,zi71),(zl72,zi72),(zl263,zi263),(zl265,zi265),(zl448,zi448),(zl73,zi73),(zl269,zi269),(zl76,zi76),(zl272,zi272),(zl78,zi78),(zl274,zi274),(zl450,zi450),(zl277,zi277),(zl86,zi86),(zl454,zi454),(zl91,zi91),(zl456,zi456),(zl282,zi282),(zl283,zi283),(zl285,zi285),(zl101,zi101),(zl106,zi106),(zl566,zi566),(zl576,zi576),(zl331,zi331),(zl132,zi132),(zl137,zi137),(zl138,zi138),(zl139,zi139),(zl140,zi140),(zl595,zi595),(zl380,zi380),(zl598,zi598)]
def tb:Tbl:=tbOf tbl
theorem zt2:tb zl2=some zi2:=by kernel_rfl
theorem zt4:tb zl4=some zi4:=by kernel_rfl
theorem zt161:tb zl161=some zi161:=by kernel_rfl
theorem zt164:tb zl164=some zi164:=by kernel_rfl
theorem zt7:tb zl7=some zi7:=by kernel_rfl
theorem zt8:tb zl8=some zi8:=by kernel_rfl
theorem zt167:tb zl167=some zi167:=by kernel_rfl
theorem zt410:tb zl410=some zi410:=by kernel_rfl
theorem zt9:tb zl9=some zi9:=by kernel_rfl
theorem zt171:tb zl171=some zi171:=by kernel_rfl
theorem zt173:tb zl173=some zi173:=by kernel_rfl
theorem zt508:tb zl508=some zi508:=by kernel_rfl
theorem zt10:tb zl10=some zi10:=by kernel_rfl
theorem zt186:tb zl186=some zi186:=by kernel_rfl
theorem zt16:tb zl16=some zi16:=by kernel_rfl
theorem zt513:tb zl513=some zi513:=by kernel_rfl
theorem zt514:tb zl514=some zi514:=by kernel_rfl
theorem zt18:tb zl18=some zi18:=by kernel_rfl
theorem zt19:tb zl19=some zi19:=by kernel_rfl
theorem zt20:tb zl20=some zi20:=by kernel_rfl
theorem zt197:tb zl197=some zi197:=by kernel_rfl
theorem zt411:tb zl411=some zi411:=by kernel_rfl
theorem zt199:tb zl199=some zi199:=by kernel_rfl
theorem zt25:tb zl25=some zi25:=by kernel_rfl
theorem zt26:tb zl26=some zi26:=by kernel_rfl
theorem zt27:tb zl27=some zi27:=by kernel_rfl
theorem zt29:tb zl29=some zi29:=by kernel_rfl
theorem zt30:tb zl30=some zi30:=by kernel_rfl
theorem zt521:tb zl521=some zi521:=by kernel_rfl
theorem zt204:tb zl204=some zi204:=by kernel_rfl
theorem zt31:tb zl31=some zi31:=by kernel_rfl
theorem zt32:tb zl32=some zi32:=by kernel_rfl
theorem zt35:tb zl35=some zi35:=by kernel_rfl
theorem zt36:tb zl36=some zi36:=by kernel_rfl
theorem zt37:tb zl37=some zi37:=by kernel_rfl
theorem zt38:tb zl38=some zi38:=by kernel_rfl
theorem zt214:tb zl214=some zi214:=by kernel_rfl
theorem zt216:tb zl216=some zi216:=by kernel_rfl
theorem zt40:tb zl40=some zi40:=by kernel_rfl
theorem zt220:tb zl220=some zi220:=by kernel_rfl
theorem zt537:tb zl537=some zi537:=by kernel_rfl
theorem zt237:tb zl237=some zi237:=by kernel_rfl
theorem zt238:tb zl238=some zi238:=by kernel_rfl
theorem zt53:tb zl53=some zi53:=by kernel_rfl
theorem zt66:tb zl66=some zi66:=by kernel_rfl
theorem zt68:tb zl68=some zi68:=by kernel_rfl
theorem zt258:tb zl258=some zi258:=by kernel_rfl
theorem zt260:tb zl260=some zi260:=by kernel_rfl
theorem zt70:tb zl70=some zi70:=by kernel_rfl
theorem zt261:tb zl261=some zi261:=by kernel_rfl
theorem zt71:tb zl71=some zi71:=by kernel_rfl
theorem zt72:tb zl72=some zi72:=by kernel_rfl
theorem zt263:tb zl263=some zi263:=by kernel_rfl
theorem zt265:tb zl265=some zi265:=by kernel_rfl
theorem zt448:tb zl448=some zi448:=by kernel_rfl
theorem zt73:tb zl73=some zi73:=by kernel_rfl
theorem zt269:tb zl269=some zi269:=by kernel_rfl
theorem zt76:tb zl76=some zi76:=by kernel_rfl
theorem zt272:tb zl272=some zi272:=by kernel_rfl
theorem zt78:tb zl78=some zi78:=by kernel_rfl
theorem zt274:tb zl274=some zi274:=by kernel_rfl
theorem zt450:tb zl450=some zi450:=by kernel_rfl
theorem zt277:tb zl277=some zi277:=by kernel_rfl
theorem zt86:tb zl86=some zi86:=by kernel_rfl
theorem zt454:tb zl454=some zi454:=by kernel_rfl
theorem zt91:tb zl91=some zi91:=by kernel_rfl
theorem zt456:tb zl456=some zi456:=by kernel_rfl
theorem zt282:tb zl282=some zi282:=by kernel_rfl
theorem zt283:tb zl283=some zi283:=by kernel_rfl
theorem zt285:tb zl285=some zi285:=by kernel_rfl
theorem zt101:tb zl101=some zi101:=by kernel_rfl
theorem zt106:tb zl106=some zi106:=by kernel_rfl
theorem zt566:tb zl566=some zi566:=by kernel_rfl
theorem zt576:tb zl576=some zi576:=by kernel_rfl
theorem zt331:tb zl331=some zi331:=by kernel_rfl
theorem zt132:tb zl132=some zi132:=by kernel_rfl
theorem zt137:tb zl137=some zi137:=by kernel_rfl
theorem zt138:tb zl138=some zi138:=by kernel_rfl
theorem zt139:tb zl139=some zi139:=by kernel_rfl
theorem zt140:tb zl140=some zi140:=by kernel_rfl
theorem zt595:tb zl595=some zi595:=by kernel_rfl
theorem zt380:tb zl380=some zi380:=by kernel_rfl
theorem zt598:tb zl598=some zi598:=by kernel_rfl
end Go.Idl
