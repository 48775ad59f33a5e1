/- Part 5 of a proof by an ideal interpreter of the code: its definitions and lemmas. Conditions: none. -/
import Derived.KernelRfl
import Derived.Test.YtfheodjhbaaalaaA4
set_option linter.all false
set_option linter.unusedVariables false
set_option linter.unusedSimpArgs false
namespace Go.Idl
open Go
abbrev vi (n:Int):Value:=.int .i64 n
abbrev zl26:Lab:=26
abbrev zl32:Lab:=32
abbrev zl36:Lab:=36
abbrev zl38:Lab:=38
abbrev zl48:Lab:=48
abbrev zl49:Lab:=49
abbrev zl50:Lab:=50
abbrev zl56:Lab:=56
abbrev zl57:Lab:=57
abbrev zl60:Lab:=60
abbrev zl61:Lab:=61
abbrev zl62:Lab:=62
abbrev zl63:Lab:=63
abbrev zl64:Lab:=64
abbrev zl66:Lab:=66
abbrev zl67:Lab:=67
abbrev zl68:Lab:=68
abbrev zl70:Lab:=70
abbrev zl91:Lab:=91
abbrev zl106:Lab:=106
abbrev zl126:Lab:=126
abbrev zl131:Lab:=131
abbrev zl132:Lab:=132
abbrev zl145:Lab:=145
abbrev zl153:Lab:=153
abbrev zl167:Lab:=167
abbrev zl170:Lab:=170
abbrev zl171:Lab:=171
abbrev zl172:Lab:=172
abbrev zl174:Lab:=174
abbrev zl175:Lab:=175
abbrev zl204:Lab:=204
abbrev zl212:Lab:=212
abbrev zl214:Lab:=214
abbrev zl239:Lab:=239
abbrev zl240:Lab:=240
abbrev zl257:Lab:=257
abbrev zl258:Lab:=258
abbrev zl261:Lab:=261
abbrev zl263:Lab:=263
abbrev zl265:Lab:=265
abbrev zl268:Lab:=268
abbrev zl269:Lab:=269
abbrev zl272:Lab:=272
abbrev zl274:Lab:=274
abbrev zl276:Lab:=276
abbrev zl277:Lab:=277
abbrev zl282:Lab:=282
abbrev zl283:Lab:=283
abbrev zl284:Lab:=284
abbrev zl285:Lab:=285
abbrev zl286:Lab:=286
abbrev zl293:Lab:=293
abbrev zl335:Lab:=335
abbrev zl342:Lab:=342
abbrev zl343:Lab:=343
abbrev zl348:Lab:=348
abbrev zl354:Lab:=354
abbrev zl383:Lab:=383
abbrev zl408:Lab:=408
abbrev zl409:Lab:=409
abbrev zl410:Lab:=410
abbrev zl411:Lab:=411
abbrev zl423:Lab:=423
abbrev zl445:Lab:=445
abbrev zl448:Lab:=448
abbrev zl450:Lab:=450
abbrev zl452:Lab:=452
abbrev zl454:Lab:=454
abbrev zl456:Lab:=456
def z153r0:IC:=.reg [⟨some 1, none,.box (.t 0)⟩,⟨some 2, none,.alloc [(vi 0),(.slice none 0 0)]⟩,⟨some 3, none,.asg (.c (.bool false))⟩] [1,2] []
def z153r1:IC:=.reg [⟨some 10, none,.load true 2 (.t 1)⟩,⟨some 11, none,.call zl26 [(.rd,(.t 10))] true⟩,⟨some 12, none,.unop .not (.t 11)⟩] [1,2,12] []
def z153r2:IC:=.reg [⟨some 13, none,.build [(vi 0),(.slice none 0 0)] []⟩,⟨none,none,.store 2 (.t 2) (.t 13)⟩,⟨some 3, none,.asg (.c (.bool false))⟩] [2,3] []
def z153r3:IC:=.regd [⟨some 14, none,.fadr 0 (.t 1)⟩,⟨some 15, none,.load false 1 (.t 14)⟩,⟨some 16, none,.fadr 1 (.t 1)⟩,⟨some 17, none,.load false 1 (.t 16)⟩,⟨some 18, none,.callq zl204 [(.rv,(.t 17))]⟩,⟨some 19, none,.build [(vi 0),(.slice none 0 0)] [(0,1,(.t 15)),(1,1,(.t 18))]⟩,⟨some 4, none,.alloc [(vi 0),(.slice none 0 0)]⟩,⟨none,none,.store 2 (.t 4) (.t 19)⟩] [0,1,2,3,4,5,6,7] [2,4] []
def z153r4:IC:=.reg [⟨some 20, none,.load true 2 (.t 4)⟩,⟨some 21, none,.call zl170 [(.rd,(.t 20))] true⟩,⟨some 22, none,.len (.t 21)⟩,⟨some 23, none,.bin .neq (.t 22) (.c (vi 1))⟩] [2,4,23] []
def z153r5:IC:=.reg [⟨some 24, none,.load true 2 (.t 4)⟩,⟨some 25, none,.call zl172 [(.rd,(.t 24))] true⟩,⟨some 5, none,.alloc [(.slice none 0 0)]⟩,⟨none,none,.storef 1 (.t 5) (.t 25)⟩] [2,4,5] []
def z153r6:IC:=.reg [⟨some 26, none,.fadr 1 (.t 4)⟩,⟨some 27, none,.loadf false 1 (.t 26)⟩,⟨some 28, none,.mkfn zl408 [(.t 4)]⟩,⟨some 29, none,.call zl268 [(.rd,(.t 27)),(.val,(.t 28))] false⟩,⟨some 6, none,.asg (.t 29)⟩] [2,4,5,6] []
def z153r7:IC:=.reg [⟨some 30, none,.mv (.t 6)⟩,⟨some 31, none,.bin .lss (.t 30) (.c (vi 0))⟩] [2,4,5,6,31] []
def z153r8:IC:=.reg [⟨some 32, none,.build [(vi 0),(.slice none 0 0)] []⟩,⟨none,none,.store 2 (.t 2) (.t 32)⟩,⟨some 3, none,.asg (.c (.bool false))⟩] [2,3] []
def z153r9:IC:=.reg [⟨some 33, none,.fadr 1 (.t 4)⟩,⟨some 34, none,.load false 1 (.t 33)⟩,⟨some 35, none,.mv (.t 6)⟩,⟨some 36, none,.iadr 2 (.t 34) (.t 35)⟩,⟨some 37, none,.load true 2 (.t 36)⟩,⟨some 7, none,.alloc [(vi 0),(vi 0)]⟩,⟨none,none,.store 2 (.t 7) (.t 37)⟩] [2,4,5,7] []
def z153r10:IC:=.reg [⟨some 38, none,.fadr 1 (.t 4)⟩,⟨some 39, none,.loadf false 1 (.t 38)⟩,⟨some 40, none,.mkfn zl409 [(.t 5),(.t 7)]⟩,⟨some 41, none,.call zl268 [(.rd,(.t 39)),(.val,(.t 40))] false⟩,⟨some 8, none,.asg (.t 41)⟩] [2,4,7,8] []
def z153r11:IC:=.reg [⟨some 42, none,.mv (.t 8)⟩,⟨some 43, none,.bin .lss (.t 42) (.c (vi 0))⟩] [2,4,7,8,43] []
def z153r12:IC:=.reg [⟨some 44, none,.build [(vi 0),(.slice none 0 0)] []⟩,⟨none,none,.store 2 (.t 2) (.t 44)⟩,⟨some 3, none,.asg (.c (.bool false))⟩] [2,3] []
def z153r13:IC:=.reg [⟨some 45, none,.fadr 1 (.t 4)⟩,⟨some 46, none,.load false 1 (.t 45)⟩,⟨some 47, none,.mv (.t 8)⟩,⟨some 48, none,.iadr 2 (.t 46) (.t 47)⟩,⟨some 49, none,.load true 2 (.t 48)⟩,⟨some 9, none,.alloc [(vi 0),(vi 0)]⟩,⟨none,none,.store 2 (.t 9) (.t 49)⟩] [2,4,7,9] []
def z153r14:IC:=.reg [⟨some 51, none,.load true 2 (.t 4)⟩,⟨some 52, none,.fadr 0 (.t 7)⟩,⟨some 53, none,.load false 1 (.t 52)⟩,⟨some 54, none,.fadr 1 (.t 7)⟩,⟨some 55, none,.load false 1 (.t 54)⟩,⟨some 56, none,.fadr 0 (.t 9)⟩,⟨some 57, none,.load false 1 (.t 56)⟩,⟨some 58, none,.fadr 1 (.t 9)⟩,⟨some 59, none,.load false 1 (.t 58)⟩,⟨some 60, none,.build [(vi 0),(vi 0),(vi 0),(vi 0)] [(0,1,(.t 53)),(1,1,(.t 55)),(2,1,(.t 57)),(3,1,(.t 59))]⟩,⟨some 61, none,.call zl167 [(.rd,(.t 51)),(.val,(.t 60))] true⟩,⟨some 50, none,.asg (.t 61)⟩,⟨some 62, none,.extr (.t 50) 0⟩,⟨some 63, none,.extr (.t 50) 1⟩,⟨none,none,.store 2 (.t 4) (.t 62)⟩] [2,4] []
def z153l15:IC:=(.seq (.seq z153r4 (.cond (.t 23) .skip (.exit 0))) (.block 1 (.seq z153r5 (.seq z153r6 (.seq (.seq z153r7 (.cond (.t 31) (.seq z153r8 .ret) .skip)) (.seq z153r9 (.seq z153r10 (.seq (.seq z153r11 (.cond (.t 43) (.seq z153r12 .ret) .skip)) (.seq z153r13 z153r14)))))))))
def z153r16:IC:=.reg [⟨some 64, none,.load true 2 (.t 4)⟩,⟨none,none,.store 2 (.t 2) (.t 64)⟩,⟨some 3, none,.asg (.c (.bool true))⟩] [2,3] []
def zi153:IFun:=⟨[.c 2 2 true,.t 3],[],(.seq z153r0 (.seq (.seq z153r1 (.cond (.t 12) (.seq z153r2 .ret) .skip)) (.seq z153r3 (.seq (.block 0 (.loop z153l15)) (.seq z153r16 .ret)))))⟩
def z408r0:IC:=.reg [⟨some 2, none,.box (.t 0)⟩,⟨some 3, none,.asg (.c (.bool false))⟩] [1,2] []
def z408r1:IC:=.reg [⟨some 5, none,.load true 2 (.t 1)⟩,⟨some 6, none,.load true 2 (.t 2)⟩,⟨some 7, none,.call zl174 [(.rd,(.t 5)),(.val,(.t 6))] true⟩,⟨some 8, none,.call zl172 [(.rd,(.t 7))] true⟩,⟨some 4, none,.asg (.t 8)⟩] [2,4] []
def z408r2:IC:=.reg [⟨some 9, none,.mv (.t 4)⟩,⟨some 10, none,.fadr 0 (.t 2)⟩,⟨some 11, none,.load false 1 (.t 10)⟩,⟨some 12, none,.iadr 1 (.t 9) (.t 11)⟩,⟨some 13, none,.load false 1 (.t 12)⟩,⟨some 14, none,.mv (.t 4)⟩,⟨some 15, none,.fadr 1 (.t 2)⟩,⟨some 16, none,.load false 1 (.t 15)⟩,⟨some 17, none,.iadr 1 (.t 14) (.t 16)⟩,⟨some 18, none,.load false 1 (.t 17)⟩,⟨some 19, none,.bin .eql (.t 13) (.t 18)⟩,⟨some 3, none,.asg (.t 19)⟩] [3] []
def zi408:IFun:=⟨[.t 3],[],(.seq z408r0 (.seq z408r1 (.seq z408r2 .ret)))⟩
def z409r0:IC:=.reg [⟨some 3, none,.box (.t 0)⟩,⟨some 4, none,.asg (.c (.bool false))⟩] [1,2,3] []
def z409r1:IC:=.reg [⟨some 5, none,.load false 1 (.t 1)⟩,⟨some 6, none,.fadr 0 (.t 3)⟩,⟨some 7, none,.load false 1 (.t 6)⟩,⟨some 8, none,.iadr 1 (.t 5) (.t 7)⟩,⟨some 9, none,.load false 1 (.t 8)⟩,⟨some 10, none,.load false 1 (.t 1)⟩,⟨some 11, none,.fadr 0 (.t 2)⟩,⟨some 12, none,.load false 1 (.t 11)⟩,⟨some 13, none,.iadr 1 (.t 10) (.t 12)⟩,⟨some 14, none,.load false 1 (.t 13)⟩,⟨some 15, none,.bin .neq (.t 9) (.t 14)⟩,⟨some 4, none,.asg (.t 15)⟩] [4] []
def zi409:IFun:=⟨[.t 4],[],(.seq z409r0 (.seq z409r1 .ret))⟩
def z167r0:IC:=.reg [⟨some 2, none,.box (.t 0)⟩,⟨some 3, none,.box (.t 1)⟩,⟨some 4, none,.alloc [(vi 0),(.slice none 0 0)]⟩,⟨some 5, none,.asg (.c (.bool false))⟩] [2,3,4] []
def z167r1:IC:=.reg [⟨some 8, none,.load true 4 (.t 3)⟩,⟨some 9, none,.call zl411 [(.val,(.t 8))] true⟩,⟨some 10, none,.unop .not (.t 9)⟩,⟨some 11, none,.asg (.t 10)⟩,⟨some 12, (some (11,false)),.load true 2 (.t 2)⟩,⟨some 13, (some (11,false)),.fadr 0 (.t 3)⟩,⟨some 14, (some (11,false)),.load false 1 (.t 13)⟩,⟨some 15, (some (11,false)),.fadr 1 (.t 3)⟩,⟨some 16, (some (11,false)),.load false 1 (.t 15)⟩,⟨some 17, (some (11,false)),.call zl171 [(.rd,(.t 12)),(.val,(.t 14)),(.val,(.t 16))] true⟩,⟨some 18, (some (11,false)),.unop .not (.t 17)⟩,⟨some 19, none,.pick (.t 11) (.c (.bool true)) (.t 18)⟩,⟨some 20, none,.asg (.t 19)⟩,⟨some 21, (some (20,false)),.load true 2 (.t 2)⟩,⟨some 22, (some (20,false)),.fadr 2 (.t 3)⟩,⟨some 23, (some (20,false)),.load false 1 (.t 22)⟩,⟨some 24, (some (20,false)),.fadr 3 (.t 3)⟩,⟨some 25, (some (20,false)),.load false 1 (.t 24)⟩,
    ⟨some 26, (some (20,false)),.call zl171 [(.rd,(.t 21)),(.val,(.t 23)),(.val,(.t 25))] true⟩,⟨some 27, (some (20,false)),.unop .not (.t 26)⟩,⟨some 28, none,.pick (.t 20) (.c (.bool true)) (.t 27)⟩,⟨some 29, none,.asg (.t 28)⟩,⟨some 30, (some (29,false)),.load true 2 (.t 2)⟩,⟨some 31, (some (29,false)),.fadr 0 (.t 3)⟩,⟨some 32, (some (29,false)),.load false 1 (.t 31)⟩,⟨some 33, (some (29,false)),.fadr 2 (.t 3)⟩,⟨some 34, (some (29,false)),.load false 1 (.t 33)⟩,⟨some 35, (some (29,false)),.call zl171 [(.rd,(.t 30)),(.val,(.t 32)),(.val,(.t 34))] true⟩,⟨some 36, none,.pick (.t 29) (.c (.bool true)) (.t 35)⟩,⟨some 37, none,.asg (.t 36)⟩,⟨some 38, (some (37,false)),.load true 2 (.t 2)⟩,⟨some 39, (some (37,false)),.fadr 1 (.t 3)⟩,⟨some 40, (some (37,false)),.load false 1 (.t 39)⟩,⟨some 41, (some (37,false)),.fadr 3 (.t 3)⟩,⟨some 42, (some (37,false)),.load false 1 (.t 41)⟩,
    ⟨some 43, (some (37,false)),.call zl171 [(.rd,(.t 38)),(.val,(.t 40)),(.val,(.t 42))] true⟩,⟨some 44, none,.pick (.t 37) (.c (.bool true)) (.t 43)⟩] [2,3,4,44] []
def z167r2:IC:=.reg [⟨some 45, none,.build [(vi 0),(.slice none 0 0)] []⟩,⟨none,none,.store 2 (.t 4) (.t 45)⟩,⟨some 5, none,.asg (.c (.bool false))⟩] [4,5] []
def z167r3:IC:=.reg [⟨some 46, none,.fadr 1 (.t 2)⟩,⟨some 47, none,.load false 1 (.t 46)⟩,⟨some 48, none,.call zl261 [(.rd,(.t 47))] true⟩,⟨some 49, none,.mkfn zl410 [(.t 3)]⟩,⟨some 50, none,.call zl265 [(.tk,(.t 48)),(.val,(.t 49))] false⟩,⟨some 6, none,.asg (.t 50)⟩] [2,3,4,6] []
def z167r4:IC:=.regd [⟨some 51, none,.fadr 0 (.t 2)⟩,⟨some 52, none,.load false 1 (.t 51)⟩,⟨some 53, none,.mv (.t 6)⟩,⟨some 54, none,.fadr 0 (.t 3)⟩,⟨some 55, none,.load false 1 (.t 54)⟩,⟨some 56, none,.fadr 2 (.t 3)⟩,⟨some 57, none,.load false 1 (.t 56)⟩,⟨some 58, none,.call zl36 [(.val,(.t 55)),(.val,(.t 57))] true⟩,⟨some 59, none,.fadr 1 (.t 3)⟩,⟨some 60, none,.load false 1 (.t 59)⟩,⟨some 61, none,.fadr 3 (.t 3)⟩,⟨some 62, none,.load false 1 (.t 61)⟩,⟨some 63, none,.call zl36 [(.val,(.t 60)),(.val,(.t 62))] true⟩,⟨some 64, none,.bsl 2 [(vi 0),(vi 0)] 2 [(0,(.t 58)),(1,(.t 63))]⟩,⟨some 65, none,.app 2 (.t 53) (.t 64)⟩,⟨some 66, none,.callq zl214 [(.val,(.t 52)),(.rv,(.t 65))]⟩,⟨some 7, none,.alloc [(vi 0),(.slice none 0 0)]⟩,
    ⟨none,none,.store 2 (.t 7) (.t 66)⟩] [0,1,2,3,4,5,6,7,8,9,10,11,12,13,14,15,16,17] [4,7] [[0,1,3,4,5,6,7,8,9,10,11,12,13,2,14,15,16,17],[0,2,3,4,5,6,7,8,9,10,11,12,13,1,14,15,16,17],[0,2,3,4,5,6,7,8,9,10,11,12,13,14,1,15,16,17],[0,3,4,5,6,7,8,9,10,11,12,13,1,2,14,15,16,17],[0,3,4,5,6,7,8,9,10,11,12,13,2,14,1,15,16,17],[2,3,4,5,6,7,8,9,10,11,12,13,0,1,14,15,16,17],[2,3,4,5,6,7,8,9,10,11,12,13,0,14,1,15,16,17],[2,3,4,5,6,7,8,9,10,11,12,13,14,0,1,15,16,17],[3,4,5,6,7,8,9,10,11,12,13,0,1,2,14,15,16,17],[3,4,5,6,7,8,9,10,11,12,13,0,2,14,1,15,16,17],[3,4,5,6,7,8,9,10,11,12,13,2,14,0,1,15,16,17]]
def z167r5:IC:=.reg [⟨some 67, none,.load true 2 (.t 7)⟩,⟨some 68, none,.load true 2 (.t 7)⟩,⟨some 69, none,.call zl26 [(.rd,(.t 68))] true⟩,⟨none,none,.store 2 (.t 4) (.t 67)⟩,⟨some 5, none,.asg (.t 69)⟩] [4,5] [[1,2,0,3,4]]
def zi167:IFun:=⟨[.c 4 2 true,.t 5],[],(.seq z167r0 (.seq (.seq z167r1 (.cond (.t 44) (.seq z167r2 .ret) .skip)) (.seq z167r3 (.seq z167r4 (.seq z167r5 .ret)))))⟩
def z410r0:IC:=.reg [⟨some 2, none,.box (.t 0)⟩,⟨some 3, none,.asg (.c (.bool false))⟩] [1,2] []
def z410r1:IC:=.reg [⟨some 4, none,.load true 2 (.t 2)⟩,⟨some 5, none,.fadr 0 (.t 1)⟩,⟨some 6, none,.load false 1 (.t 5)⟩,⟨some 7, none,.fadr 1 (.t 1)⟩,⟨some 8, none,.load false 1 (.t 7)⟩,⟨some 9, none,.call zl36 [(.val,(.t 6)),(.val,(.t 8))] true⟩,⟨some 10, none,.eqa false 2 (.t 4) (.t 9)⟩,⟨some 11, none,.asg (.t 10)⟩,⟨some 12, (some (11,false)),.load true 2 (.t 2)⟩,⟨some 13, (some (11,false)),.fadr 2 (.t 1)⟩,⟨some 14, (some (11,false)),.load false 1 (.t 13)⟩,⟨some 15, (some (11,false)),.fadr 3 (.t 1)⟩,⟨some 16, (some (11,false)),.load false 1 (.t 15)⟩,⟨some 17, (some (11,false)),.call zl36 [(.val,(.t 14)),(.val,(.t 16))] true⟩,⟨some 18, (some (11,false)),.eqa false 2 (.t 12) (.t 17)⟩,⟨some 19, none,.pick (.t 11) (.c (.bool true)) (.t 18)⟩,
    ⟨some 3, none,.asg (.t 19)⟩] [3] [[0,1,2,3,4,5,6,7,9,10,11,12,13,8,14,15,16],[1,2,3,4,5,0,6,7,8,9,10,11,12,13,14,15,16],[1,2,3,4,5,0,6,7,9,10,11,12,13,8,14,15,16]]
def zi410:IFun:=⟨[.t 3],[],(.seq z410r0 (.seq z410r1 .ret))⟩
def z170r0:IC:=.reg [⟨some 1, none,.box (.t 0)⟩,⟨some 2, none,.asg (.c (.slice none 0 0))⟩] [1] []
def z170r1:IC:=.reg [⟨some 3, none,.asg (.c (.slice none 0 0))⟩] [1,3] []
def z170r2:IC:=.reg [⟨some 9, none,.load true 2 (.t 1)⟩,⟨some 10, none,.call zl172 [(.rd,(.t 9))] true⟩,⟨some 4, none,.asg (.t 10)⟩] [1,3,4] []
def z170r3:IC:=.reg [⟨some 11, none,.fadr 0 (.t 1)⟩,⟨some 12, none,.load false 1 (.t 11)⟩,⟨some 13, none,.mv (.c (vi 0))⟩] [3,4,12,13] []
def z170r4:IC:=.reg [⟨some 14, none,.bin .lss (.t 13) (.t 12)⟩] [3,4,12,13,14] []
def z170r5:IC:=.reg [⟨some 15, none,.asg (.t 13)⟩,⟨some 5, none,.asg (.t 15)⟩] [3,4,5,12,13] []
def z170r6:IC:=.reg [⟨some 16, none,.mv (.t 4)⟩,⟨some 17, none,.mv (.t 5)⟩,⟨some 18, none,.iadr 1 (.t 16) (.t 17)⟩,⟨some 19, none,.load false 1 (.t 18)⟩,⟨some 20, none,.mv (.t 5)⟩,⟨some 21, none,.bin .neq (.t 19) (.t 20)⟩] [3,4,5,12,13,21] []
def z170r7:IC:=.reg [⟨some 6, none,.asg (.c (.slice none 0 0))⟩] [3,4,5,6,12,13] []
def z170r8:IC:=.reg [⟨some 22, none,.mv (.t 4)⟩,⟨some 23, none,.len (.t 22)⟩,⟨some 24, none,.mv (.c (vi 0))⟩] [3,4,5,6,12,13,22,23,24] []
def z170r9:IC:=.reg [⟨some 25, none,.bin .lss (.t 24) (.t 23)⟩] [3,4,5,6,12,13,22,23,24,25] []
def z170r10:IC:=.reg [⟨some 26, none,.asg (.t 24)⟩,⟨some 27, none,.iadr 1 (.t 22) (.t 24)⟩,⟨some 28, none,.load false 1 (.t 27)⟩,⟨some 7, none,.asg (.t 26)⟩,⟨some 8, none,.asg (.t 28)⟩] [3,4,5,6,7,8,12,13,22,23,24] []
def z170r11:IC:=.reg [⟨some 29, none,.mv (.t 8)⟩,⟨some 30, none,.mv (.t 5)⟩,⟨some 31, none,.bin .eql (.t 29) (.t 30)⟩] [3,4,5,6,7,12,13,22,23,24,31] []
def z170r12:IC:=.reg [⟨some 32, none,.mv (.t 6)⟩,⟨some 33, none,.mv (.t 7)⟩,⟨some 34, none,.bsl 1 [(vi 0)] 1 [(0,(.t 33))]⟩,⟨some 35, none,.app 1 (.t 32) (.t 34)⟩,⟨some 6, none,.asg (.t 35)⟩] [3,4,5,6,12,13,22,23,24] []
def z170r13:IC:=.reg [⟨some 36, none,.bin .add (.t 24) (.c (vi 1))⟩,⟨some 24, none,.asg (.t 36)⟩] [3,4,5,6,12,13,22,23,24] []
def z170l14:IC:=(.seq z170r9 (.seq (.cond (.t 25) .skip (.exit 2)) (.seq (.block 3 (.seq z170r10 (.seq z170r11 (.cond (.t 31) z170r12 .skip)))) z170r13)))
def z170r15:IC:=.reg [⟨some 37, none,.mv (.t 3)⟩,⟨some 38, none,.mv (.t 6)⟩,⟨some 39, none,.call zl70 [(.tk,(.t 38))] true⟩,⟨some 40, none,.bsl 1 [(.slice none 0 0)] 1 [(0,(.t 39))]⟩,⟨some 41, none,.app 1 (.t 37) (.t 40)⟩,⟨some 3, none,.asg (.t 41)⟩] [3,4,12,13] []
def z170r16:IC:=.reg [⟨some 42, none,.bin .add (.t 13) (.c (vi 1))⟩,⟨some 13, none,.asg (.t 42)⟩] [3,4,12,13] []
def z170l17:IC:=(.seq z170r4 (.seq (.cond (.t 14) .skip (.exit 0)) (.seq (.block 1 (.seq z170r5 (.seq (.seq z170r6 (.cond (.t 21) (.exit 1) .skip)) (.seq z170r7 (.seq (.seq z170r8 (.block 2 (.loop z170l14))) z170r15))))) z170r16)))
def z170r18:IC:=.reg [⟨some 43, none,.mv (.t 3)⟩,⟨some 44, none,.call zl257 [(.tk,(.t 43))] true⟩,⟨some 2, none,.asg (.t 44)⟩] [2] []
def zi170:IFun:=⟨[.t 2],[],(.seq z170r0 (.seq z170r1 (.seq z170r2 (.seq (.seq z170r3 (.block 0 (.loop z170l17))) (.seq z170r18 .ret)))))⟩
def z171r0:IC:=.reg [⟨some 3, none,.box (.t 0)⟩,⟨some 6, none,.asg (.c (.bool false))⟩] [1,2,3] []
def z171r1:IC:=.reg [⟨some 7, none,.fadr 1 (.t 3)⟩,⟨some 8, none,.load false 1 (.t 7)⟩,⟨some 9, none,.mv (.t 1)⟩,⟨some 10, none,.mv (.t 2)⟩,⟨some 11, none,.call zl36 [(.val,(.t 9)),(.val,(.t 10))] true⟩,⟨some 12, none,.call zl263 [(.rd,(.t 8)),(.val,(.t 11))] true⟩,⟨some 6, none,.asg (.t 12)⟩] [6] [[0,2,3,4,1,5,6]]
def zi171:IFun:=⟨[.t 6],[],(.seq z171r0 (.seq z171r1 .ret))⟩
def z172r0:IC:=.reg [⟨some 1, none,.box (.t 0)⟩,⟨some 2, none,.asg (.c (.slice none 0 0))⟩] [1] []
def z172r1:IC:=.reg [⟨some 7, none,.fadr 0 (.t 1)⟩,⟨some 8, none,.load false 1 (.t 7)⟩,⟨some 9, none,.call zl212 [(.val,(.t 8)),(.val,(.c (vi (-1))))] true⟩,⟨some 3, none,.asg (.t 9)⟩] [1,3] []
def z172r2:IC:=.reg [⟨some 10, none,.fadr 0 (.t 1)⟩,⟨some 11, none,.load false 1 (.t 10)⟩,⟨some 12, none,.mv (.c (vi 0))⟩] [1,3,11,12] []
def z172r3:IC:=.reg [⟨some 13, none,.bin .lss (.t 12) (.t 11)⟩] [1,3,11,12,13] []
def z172r4:IC:=.reg [⟨some 14, none,.fadr 1 (.t 1)⟩,⟨some 15, none,.load false 1 (.t 14)⟩,⟨some 16, none,.len (.t 15)⟩,⟨some 17, none,.mv (.c (vi 0))⟩] [1,3,11,12,15,16,17] []
def z172r5:IC:=.reg [⟨some 18, none,.bin .lss (.t 17) (.t 16)⟩] [1,3,11,12,15,16,17,18] []
def z172r6:IC:=.reg [⟨some 19, none,.iadr 2 (.t 15) (.t 17)⟩,⟨some 20, none,.load true 2 (.t 19)⟩,⟨some 5, none,.alloc [(vi 0),(vi 0)]⟩,⟨none,none,.store 2 (.t 5) (.t 20)⟩] [1,3,5,11,12,15,16,17] []
def z172r7:IC:=.reg [⟨some 21, none,.mv (.t 3)⟩,⟨some 22, none,.fadr 0 (.t 5)⟩,⟨some 23, none,.load false 1 (.t 22)⟩,⟨some 24, none,.iadr 1 (.t 21) (.t 23)⟩,⟨some 25, none,.load false 1 (.t 24)⟩,⟨some 26, none,.mv (.t 3)⟩,⟨some 27, none,.fadr 1 (.t 5)⟩,⟨some 28, none,.load false 1 (.t 27)⟩,⟨some 29, none,.iadr 1 (.t 26) (.t 28)⟩,⟨some 30, none,.load false 1 (.t 29)⟩,⟨some 31, none,.minmax true (.t 25) (.t 30)⟩,⟨some 6, none,.asg (.t 31)⟩] [1,3,5,6,11,12,15,16,17] []
def z172r8:IC:=.reg [⟨some 32, none,.mv (.t 3)⟩,⟨some 33, none,.fadr 0 (.t 5)⟩,⟨some 34, none,.load false 1 (.t 33)⟩,⟨some 35, none,.mv (.t 3)⟩,⟨some 36, none,.fadr 1 (.t 5)⟩,⟨some 37, none,.load false 1 (.t 36)⟩,⟨some 38, none,.mv (.t 6)⟩,⟨some 39, none,.mv (.t 6)⟩,⟨some 40, none,.iadr 1 (.t 32) (.t 34)⟩,⟨none,none,.store 1 (.t 40) (.t 38)⟩,⟨some 41, none,.iadr 1 (.t 35) (.t 37)⟩,⟨none,none,.store 1 (.t 41) (.t 39)⟩] [1,3,11,12,15,16,17] [[0,1,2,3,4,6,7,8,9,5,10,11]]
def z172r9:IC:=.reg [⟨some 42, none,.bin .add (.t 17) (.c (vi 1))⟩,⟨some 17, none,.asg (.t 42)⟩] [1,3,11,12,15,16,17] []
def z172l10:IC:=(.seq z172r5 (.seq (.cond (.t 18) .skip (.exit 2)) (.seq (.block 3 (.seq z172r6 (.seq z172r7 z172r8))) z172r9)))
def z172r11:IC:=.reg [⟨some 43, none,.bin .add (.t 12) (.c (vi 1))⟩,⟨some 12, none,.asg (.t 43)⟩] [1,3,11,12] []
def z172l12:IC:=(.seq z172r3 (.seq (.cond (.t 13) .skip (.exit 0)) (.seq (.block 1 (.seq z172r4 (.block 2 (.loop z172l10)))) z172r11)))
def z172r13:IC:=.reg [⟨some 44, none,.mv (.t 3)⟩,⟨some 2, none,.asgm (.t 44)⟩] [2,3] []
def zi172:IFun:=⟨[.t 2],[],(.seq z172r0 (.seq z172r1 (.seq (.seq z172r2 (.block 0 (.loop z172l12))) (.seq z172r13 .ret))))⟩
def z174r0:IC:=.reg [⟨some 2, none,.box (.t 0)⟩,⟨some 3, none,.box (.t 1)⟩,⟨some 4, none,.alloc [(vi 0),(.slice none 0 0)]⟩] [2,3,4] []
def z174r1:IC:=.reg [⟨some 5, none,.fadr 0 (.t 2)⟩,⟨some 6, none,.load false 1 (.t 5)⟩,⟨some 7, none,.fadr 1 (.t 2)⟩,⟨some 8, none,.load false 1 (.t 7)⟩,⟨some 9, none,.call zl261 [(.rd,(.t 8))] true⟩,⟨some 10, none,.mkfn zl175 [(.t 3)]⟩,⟨some 11, none,.call zl265 [(.tk,(.t 9)),(.val,(.t 10))] false⟩,⟨some 12, none,.build [(vi 0),(.slice none 0 0)] [(0,1,(.t 6)),(1,1,(.t 11))]⟩,⟨none,none,.store 2 (.t 4) (.t 12)⟩] [4] [[0,2,3,4,1,5,6,7,8],[0,2,3,4,5,6,1,7,8]]
def zi174:IFun:=⟨[.c 4 2 true],[],(.seq z174r0 (.seq z174r1 .ret))⟩
def z175r0:IC:=.reg [⟨some 2, none,.box (.t 0)⟩,⟨some 3, none,.asg (.c (.bool false))⟩] [1,2] []
def z175r1:IC:=.reg [⟨some 4, none,.load true 2 (.t 2)⟩,⟨some 5, none,.load true 2 (.t 1)⟩,⟨some 6, none,.eqa false 2 (.t 4) (.t 5)⟩,⟨some 3, none,.asg (.t 6)⟩] [3] []
def zi175:IFun:=⟨[.t 3],[],(.seq z175r0 (.seq z175r1 .ret))⟩
def z411r0:IC:=.reg [⟨some 1, none,.box (.t 0)⟩,⟨some 2, none,.asg (.c (.bool false))⟩] [1] []
def z411r1:IC:=.reg [⟨some 3, none,.fadr 0 (.t 1)⟩,⟨some 4, none,.load false 1 (.t 3)⟩,⟨some 5, none,.fadr 1 (.t 1)⟩,⟨some 6, none,.load false 1 (.t 5)⟩,⟨some 7, none,.bin .neq (.t 4) (.t 6)⟩,⟨some 8, none,.asg (.t 7)⟩,⟨some 9, (some (8,true)),.fadr 0 (.t 1)⟩,⟨some 10, (some (8,true)),.load false 1 (.t 9)⟩,⟨some 11, (some (8,true)),.fadr 2 (.t 1)⟩,⟨some 12, (some (8,true)),.load false 1 (.t 11)⟩,⟨some 13, (some (8,true)),.bin .neq (.t 10) (.t 12)⟩,⟨some 14, none,.pick (.t 8) (.t 13) (.c (.bool false))⟩,⟨some 15, none,.asg (.t 14)⟩,⟨some 16, (some (15,true)),.fadr 0 (.t 1)⟩,⟨some 17, (some (15,true)),.load false 1 (.t 16)⟩,⟨some 18, (some (15,true)),.fadr 3 (.t 1)⟩,⟨some 19, (some (15,true)),.load false 1 (.t 18)⟩,⟨some 20, (some (15,true)),.bin .neq (.t 17) (.t 19)⟩,⟨some 21, none,.pick (.t 15) (.t 20) (.c (.bool false))⟩,⟨some 22, none,.asg (.t 21)⟩,
    ⟨some 23, (some (22,true)),.fadr 1 (.t 1)⟩,⟨some 24, (some (22,true)),.load false 1 (.t 23)⟩,⟨some 25, (some (22,true)),.fadr 2 (.t 1)⟩,⟨some 26, (some (22,true)),.load false 1 (.t 25)⟩,⟨some 27, (some (22,true)),.bin .neq (.t 24) (.t 26)⟩,⟨some 28, none,.pick (.t 22) (.t 27) (.c (.bool false))⟩,⟨some 29, none,.asg (.t 28)⟩,⟨some 30, (some (29,true)),.fadr 1 (.t 1)⟩,⟨some 31, (some (29,true)),.load false 1 (.t 30)⟩,⟨some 32, (some (29,true)),.fadr 3 (.t 1)⟩,⟨some 33, (some (29,true)),.load false 1 (.t 32)⟩,⟨some 34, (some (29,true)),.bin .neq (.t 31) (.t 33)⟩,⟨some 35, none,.pick (.t 29) (.t 34) (.c (.bool false))⟩,⟨some 36, none,.asg (.t 35)⟩,⟨some 37, (some (36,true)),.fadr 2 (.t 1)⟩,⟨some 38, (some (36,true)),.load false 1 (.t 37)⟩,⟨some 39, (some (36,true)),.fadr 3 (.t 1)⟩,⟨some 40, (some (36,true)),.load false 1 (.t 39)⟩,
    ⟨some 41, (some (36,true)),.bin .neq (.t 38) (.t 40)⟩,⟨some 42, none,.pick (.t 36) (.t 41) (.c (.bool false))⟩,⟨some 2, none,.asg (.t 42)⟩] [2] []
def zi411:IFun:=⟨[.t 2],[],(.seq z411r0 (.seq z411r1 .ret))⟩
def z26r0:IC:=.reg [⟨some 1, none,.box (.t 0)⟩,⟨some 2, none,.asg (.c (.bool false))⟩] [1] []
def z26r1:IC:=.reg [⟨some 5, none,.fadr 1 (.t 1)⟩,⟨some 6, none,.load false 1 (.t 5)⟩,⟨some 7, none,.len (.t 6)⟩,⟨some 8, none,.mv (.c (vi 0))⟩] [1,6,7,8] []
def z26r2:IC:=.reg [⟨some 9, none,.bin .lss (.t 8) (.t 7)⟩] [1,6,7,8,9] []
def z26r3:IC:=.reg [⟨some 10, none,.asg (.t 8)⟩,⟨some 11, none,.iadr 2 (.t 6) (.t 8)⟩,⟨some 12, none,.load true 2 (.t 11)⟩,⟨some 4, none,.alloc [(vi 0),(vi 0)]⟩,⟨some 3, none,.asg (.t 10)⟩,⟨none,none,.store 2 (.t 4) (.t 12)⟩] [1,3,4,6,7,8] []
def z26r4:IC:=.reg [⟨some 13, none,.fadr 0 (.t 4)⟩,⟨some 14, none,.load false 1 (.t 13)⟩,⟨some 15, none,.bin .lss (.t 14) (.c (vi 0))⟩,⟨some 16, none,.asg (.t 15)⟩,⟨some 17, (some (16,false)),.fadr 0 (.t 4)⟩,⟨some 18, (some (16,false)),.load false 1 (.t 17)⟩,⟨some 19, (some (16,false)),.fadr 1 (.t 4)⟩,⟨some 20, (some (16,false)),.load false 1 (.t 19)⟩,⟨some 21, (some (16,false)),.bin .geq (.t 18) (.t 20)⟩,⟨some 22, none,.pick (.t 16) (.c (.bool true)) (.t 21)⟩,⟨some 23, none,.asg (.t 22)⟩,⟨some 24, (some (23,false)),.fadr 1 (.t 4)⟩,⟨some 25, (some (23,false)),.load false 1 (.t 24)⟩,⟨some 26, (some (23,false)),.fadr 0 (.t 1)⟩,⟨some 27, (some (23,false)),.load false 1 (.t 26)⟩,⟨some 28, (some (23,false)),.bin .geq (.t 25) (.t 27)⟩,⟨some 29, none,.pick (.t 23) (.c (.bool true)) (.t 28)⟩,⟨some 30, none,.asg (.t 29)⟩,⟨some 31, (some (30,false)),.mv (.t 3)⟩,
    ⟨some 32, (some (30,false)),.bin .gtr (.t 31) (.c (vi 0))⟩,⟨some 33, (some (30,false)),.asg (.t 32)⟩,⟨some 34, (some (33,true)),.fadr 1 (.t 1)⟩,⟨some 35, (some (33,true)),.load false 1 (.t 34)⟩,⟨some 36, (some (33,true)),.mv (.t 3)⟩,⟨some 37, (some (33,true)),.bin .sub (.t 36) (.c (vi 1))⟩,⟨some 38, (some (33,true)),.iadr 2 (.t 35) (.t 37)⟩,⟨some 39, (some (33,true)),.load true 2 (.t 38)⟩,⟨some 40, (some (33,true)),.load true 2 (.t 4)⟩,⟨some 41, (some (33,true)),.call zl32 [(.val,(.t 39)),(.val,(.t 40))] true⟩,⟨some 42, (some (33,true)),.bin .geq (.t 41) (.c (vi 0))⟩,⟨some 43, (some (30,false)),.pick (.t 33) (.t 42) (.c (.bool false))⟩,⟨some 44, none,.pick (.t 30) (.c (.bool true)) (.t 43)⟩] [1,6,7,8,44] []
def z26r5:IC:=.reg [⟨some 2, none,.asg (.c (.bool false))⟩] [2] []
def z26r6:IC:=.reg [⟨some 45, none,.bin .add (.t 8) (.c (vi 1))⟩,⟨some 8, none,.asg (.t 45)⟩] [1,6,7,8] []
def z26l7:IC:=(.seq z26r2 (.seq (.cond (.t 9) .skip (.exit 0)) (.seq (.block 1 (.seq z26r3 (.seq z26r4 (.cond (.t 44) (.seq z26r5 .ret) .skip)))) z26r6)))
def z26r8:IC:=.reg [⟨some 46, none,.fadr 0 (.t 1)⟩,⟨some 47, none,.load false 1 (.t 46)⟩,⟨some 48, none,.call zl38 [(.val,(.t 47)),(.val,(.c (vi 0))),(.val,(.c (vi 7)))] true⟩,⟨some 2, none,.asg (.t 48)⟩] [2] []
def zi26:IFun:=⟨[.t 2],[],(.seq z26r0 (.seq (.seq z26r1 (.block 0 (.loop z26l7))) (.seq z26r8 .ret)))⟩
def z204r0:IC:=.reg [⟨some 2, none,.asg (.c (.slice none 0 0))⟩] [0] []
def z204r1:IC:=.reg [⟨some 3, none,.mv (.t 0)⟩,⟨some 4, none,.call zl261 [(.rd,(.t 3))] true⟩,⟨some 5, none,.call zl258 [(.tk,(.t 4))] true⟩,⟨some 2, none,.asg (.t 5)⟩] [2] []
def zi204:IFun:=⟨[.t 2],[],(.seq z204r0 (.seq z204r1 .ret))⟩
def z32r0:IC:=.reg [⟨some 2, none,.box (.t 0)⟩,⟨some 3, none,.box (.t 1)⟩,⟨some 4, none,.asg (.c (vi 0))⟩] [2,3] []
def z32r1:IC:=.reg [⟨some 5, none,.fadr 0 (.t 2)⟩,⟨some 6, none,.load false 1 (.t 5)⟩,⟨some 7, none,.fadr 0 (.t 3)⟩,⟨some 8, none,.load false 1 (.t 7)⟩,⟨some 9, none,.bin .neq (.t 6) (.t 8)⟩] [2,3,9] []
def z32r2:IC:=.reg [⟨some 10, none,.fadr 0 (.t 2)⟩,⟨some 11, none,.load false 1 (.t 10)⟩,⟨some 12, none,.fadr 0 (.t 3)⟩,⟨some 13, none,.load false 1 (.t 12)⟩,⟨some 14, none,.bin .sub (.t 11) (.t 13)⟩,⟨some 4, none,.asg (.t 14)⟩] [4] []
def z32r3:IC:=.reg [⟨some 15, none,.fadr 1 (.t 2)⟩,⟨some 16, none,.load false 1 (.t 15)⟩,⟨some 17, none,.fadr 1 (.t 3)⟩,⟨some 18, none,.load false 1 (.t 17)⟩,⟨some 19, none,.bin .sub (.t 16) (.t 18)⟩,⟨some 4, none,.asg (.t 19)⟩] [4] []
def zi32:IFun:=⟨[.t 4],[],(.seq z32r0 (.seq (.seq z32r1 (.cond (.t 9) (.seq z32r2 .ret) .skip)) (.seq z32r3 .ret)))⟩
def z36r0:IC:=.reg [⟨some 4, none,.alloc [(vi 0),(vi 0)]⟩] [0,1,4] []
def z36r1:IC:=.reg [⟨some 5, none,.mv (.t 0)⟩,⟨some 6, none,.mv (.t 1)⟩,⟨some 7, none,.minmax true (.t 5) (.t 6)⟩,⟨some 8, none,.mv (.t 0)⟩,⟨some 9, none,.mv (.t 1)⟩,⟨some 10, none,.minmax false (.t 8) (.t 9)⟩,⟨some 11, none,.build [(vi 0),(vi 0)] [(0,1,(.t 7)),(1,1,(.t 10))]⟩,⟨none,none,.store 2 (.t 4) (.t 11)⟩] [4] []
def zi36:IFun:=⟨[.c 4 2 true],[],(.seq z36r0 (.seq z36r1 .ret))⟩
def z38r0:IC:=.reg [⟨some 6, none,.asg (.c (.bool false))⟩] [0,1,2] []
def z38r1:IC:=.reg [⟨some 7, none,.mv (.t 0)⟩,⟨some 8, none,.mv (.t 1)⟩,⟨some 9, none,.bin .geq (.t 7) (.t 8)⟩,⟨some 10, none,.asg (.t 9)⟩,⟨some 11, (some (10,true)),.mv (.t 0)⟩,⟨some 12, (some (10,true)),.mv (.t 2)⟩,⟨some 13, (some (10,true)),.bin .leq (.t 11) (.t 12)⟩,⟨some 14, none,.pick (.t 10) (.t 13) (.c (.bool false))⟩,⟨some 6, none,.asg (.t 14)⟩] [6] []
def zi38:IFun:=⟨[.t 6],[],(.seq z38r0 (.seq z38r1 .ret))⟩
def z212r0:IC:=.reg [⟨some 4, none,.asg (.c (.slice none 0 0))⟩] [0,1] []
def z212r1:IC:=.reg [⟨some 5, none,.asg (.c (.slice none 0 0))⟩] [0,1,5] []
def z212r2:IC:=.reg [⟨some 7, none,.mv (.t 0)⟩,⟨some 8, none,.mv (.c (vi 0))⟩] [1,5,7,8] []
def z212r3:IC:=.reg [⟨some 9, none,.bin .lss (.t 8) (.t 7)⟩] [1,5,7,8,9] []
def z212r4:IC:=.reg [⟨some 10, none,.asg (.t 8)⟩,⟨some 6, none,.asg (.t 10)⟩] [1,5,6,7,8] []
def z212r5:IC:=.reg [⟨some 11, none,.mv (.t 6)⟩,⟨some 12, none,.mv (.t 1)⟩,⟨some 13, none,.bin .neq (.t 11) (.t 12)⟩] [1,5,6,7,8,13] []
def z212r6:IC:=.reg [⟨some 14, none,.mv (.t 5)⟩,⟨some 15, none,.mv (.t 6)⟩,⟨some 16, none,.bsl 1 [(vi 0)] 1 [(0,(.t 15))]⟩,⟨some 17, none,.app 1 (.t 14) (.t 16)⟩,⟨some 5, none,.asg (.t 17)⟩] [1,5,7,8] []
def z212r7:IC:=.reg [⟨some 18, none,.bin .add (.t 8) (.c (vi 1))⟩,⟨some 8, none,.asg (.t 18)⟩] [1,5,7,8] []
def z212l8:IC:=(.seq z212r3 (.seq (.cond (.t 9) .skip (.exit 0)) (.seq (.block 1 (.seq z212r4 (.seq z212r5 (.cond (.t 13) z212r6 .skip)))) z212r7)))
def z212r9:IC:=.reg [⟨some 19, none,.mv (.t 5)⟩,⟨some 4, none,.asgm (.t 19)⟩] [4,5] []
def zi212:IFun:=⟨[.t 4],[],(.seq z212r0 (.seq z212r1 (.seq (.seq z212r2 (.block 0 (.loop z212l8))) (.seq z212r9 .ret))))⟩
def z214r0:IC:=.reg [⟨some 4, none,.alloc [(vi 0),(.slice none 0 0)]⟩] [0,1,4] []
def z214r1:IC:=.reg [⟨some 6, none,.mv (.t 1)⟩,⟨some 7, none,.call zl204 [(.rd,(.t 6))] true⟩,⟨some 5, none,.asg (.t 7)⟩] [0,4,5] []
def z214r2:IC:=.reg [⟨some 8, none,.mv (.t 5)⟩,⟨some 9, none,.call zl272 [(.ld,(.t 8)),(.val,(.f zl32))] false⟩] [0,4,5] []
def z214r3:IC:=.reg [⟨some 10, none,.mv (.t 0)⟩,⟨some 11, none,.mv (.t 5)⟩,⟨some 12, none,.build [(vi 0),(.slice none 0 0)] [(0,1,(.t 10)),(1,1,(.t 11))]⟩,⟨none,none,.store 2 (.t 4) (.t 12)⟩] [4] []
def zi214:IFun:=⟨[.c 4 2 true],[],(.seq z214r0 (.seq z214r1 (.seq z214r2 (.seq z214r3 .ret))))⟩
def z423r0:IC:=.reg [⟨some 1, none,.box (.t 0)⟩,⟨some 2, none,.asg (.c (.bool false))⟩] [1] []
def z423r1:IC:=.reg [⟨some 3, none,.asg (.c (vi 1048576))⟩] [1,3] []
def z423r2:IC:=.reg [⟨some 14, none,.load true 2 (.t 1)⟩,⟨some 15, none,.mv (.t 3)⟩,⟨some 16, none,.call zl61 [(.rd,(.t 14)),(.val,(.t 15))] true⟩,⟨some 3, none,.asg (.t 16)⟩] [1,3] []
def z423r3:IC:=.reg [⟨some 17, none,.mv (.t 3)⟩,⟨some 18, none,.bin .lss (.t 17) (.c (vi 0))⟩] [1,18] []
def z423r4:IC:=.reg [⟨some 2, none,.asg (.c (.bool true))⟩] [2] []
def z423r5:IC:=.reg [⟨some 20, none,.load true 2 (.t 1)⟩,⟨some 21, none,.call zl64 [(.rd,(.t 20))] true⟩,⟨some 22, none,.call zl293 [(.rd,(.t 21))] true⟩,⟨some 19, none,.asg (.t 22)⟩,⟨some 23, none,.extr (.t 19) 0⟩,⟨some 24, none,.extr (.t 19) 1⟩,⟨some 4, none,.alloc [(vi 0),(.slice none 0 0)]⟩,⟨none,none,.store 2 (.t 4) (.t 23)⟩,⟨some 5, none,.asg (.t 24)⟩] [1,4,5] []
def z423r6:IC:=.reg [⟨some 25, none,.load true 2 (.t 1)⟩,⟨some 26, none,.call zl64 [(.rd,(.t 25))] true⟩,⟨some 6, none,.alloc [(vi 0),(.slice none 0 0)]⟩,⟨none,none,.store 2 (.t 6) (.t 26)⟩] [1,4,5,6] []
def z423r7:IC:=.reg [⟨some 28, none,.load true 2 (.t 6)⟩,⟨some 29, none,.call zl153 [(.rd,(.t 28))] true⟩,⟨some 27, none,.asg (.t 29)⟩,⟨some 30, none,.extr (.t 27) 0⟩,⟨some 31, none,.extr (.t 27) 1⟩,⟨some 7, none,.alloc [(vi 0),(.slice none 0 0)]⟩,⟨none,none,.store 2 (.t 7) (.t 30)⟩,⟨some 8, none,.asg (.t 31)⟩] [1,4,5,6,7,8] []
def z423r8:IC:=.reg [⟨some 32, none,.load true 2 (.t 7)⟩,⟨some 33, none,.load true 2 (.t 4)⟩,⟨some 34, none,.call zl50 [(.rd,(.t 32)),(.rd,(.t 33))] true⟩,⟨some 35, none,.unop .not (.t 34)⟩,⟨some 36, none,.asg (.t 35)⟩,⟨some 37, (some (36,false)),.mv (.t 8)⟩,⟨some 38, (some (36,false)),.mv (.t 5)⟩,⟨some 39, (some (36,false)),.eqb true (.t 37) (.t 38)⟩,⟨some 40, none,.pick (.t 36) (.c (.bool true)) (.t 39)⟩] [1,4,5,6,7,8,40] []
def z423r9:IC:=.reg [⟨some 2, none,.asg (.c (.bool false))⟩] [2] []
def z423r10:IC:=.reg [⟨some 41, none,.load true 2 (.t 6)⟩,⟨some 42, none,.load true 2 (.t 1)⟩,⟨some 43, none,.call zl64 [(.rd,(.t 42))] true⟩,⟨some 44, none,.call zl50 [(.rd,(.t 41)),(.rd,(.t 43))] true⟩,⟨some 45, none,.unop .not (.t 44)⟩] [1,4,5,6,7,8,45] [[1,2,0,3,4]]
def z423r11:IC:=.reg [⟨some 2, none,.asg (.c (.bool false))⟩] [2] []
def z423r12:IC:=.reg [⟨some 9, none,.asg (.c (vi 1))⟩] [1,4,5,6,7,8,9] []
def z423r13:IC:=.reg [⟨some 46, none,.load true 2 (.t 6)⟩,⟨some 47, none,.mv (.t 9)⟩,⟨some 48, none,.callm zl57 (.t 46) (.t 47)⟩,⟨some 9, none,.asg (.t 48)⟩] [1,4,5,7,8,9] []
def z423r14:IC:=.reg [⟨some 49, none,.mv (.t 9)⟩,⟨some 50, none,.bin .lss (.t 49) (.c (vi 0))⟩,⟨some 51, none,.asg (.t 50)⟩,⟨some 52, (some (51,false)),.load true 2 (.t 7)⟩,⟨some 53, (some (51,false)),.load true 2 (.t 4)⟩,⟨some 54, (some (51,false)),.call zl50 [(.rd,(.t 52)),(.rd,(.t 53))] true⟩,⟨some 55, (some (51,false)),.unop .not (.t 54)⟩,⟨some 56, none,.pick (.t 51) (.c (.bool true)) (.t 55)⟩,⟨some 57, none,.asg (.t 56)⟩,⟨some 58, (some (57,false)),.mv (.t 8)⟩,⟨some 59, (some (57,false)),.mv (.t 5)⟩,⟨some 60, (some (57,false)),.eqb true (.t 58) (.t 59)⟩,⟨some 61, none,.pick (.t 57) (.c (.bool true)) (.t 60)⟩] [1,4,5,7,61] []
def z423r15:IC:=.reg [⟨some 2, none,.asg (.c (.bool false))⟩] [2] []
def z423r16:IC:=.reg [⟨some 10, none,.asg (.c (vi 1))⟩] [1,4,5,7,10] []
def z423r17:IC:=.reg [⟨some 62, none,.load true 2 (.t 7)⟩,⟨some 63, none,.mv (.t 10)⟩,⟨some 64, none,.callm zl57 (.t 62) (.t 63)⟩,⟨some 10, none,.asg (.t 64)⟩] [1,4,5,7,10] []
def z423r18:IC:=.reg [⟨some 11, none,.asg (.c (vi 1))⟩] [1,4,5,7,10,11] []
def z423r19:IC:=.reg [⟨some 65, none,.load true 2 (.t 7)⟩,⟨some 66, none,.mv (.t 11)⟩,⟨some 67, none,.call zl240 [(.rd,(.t 65)),(.val,(.t 66))] true⟩,⟨some 11, none,.asg (.t 67)⟩] [1,4,5,7,10,11] []
def z423r20:IC:=.reg [⟨some 68, none,.mv (.t 11)⟩,⟨some 69, none,.bin .lss (.t 68) (.c (vi 0))⟩] [1,4,5,7,10,11,69] []
def z423r21:IC:=.reg [⟨some 2, none,.asg (.c (.bool false))⟩] [2] []
def z423r22:IC:=.reg [⟨some 70, none,.mv (.t 11)⟩,⟨some 71, none,.mv (.t 10)⟩,⟨some 72, none,.bin .neq (.t 70) (.t 71)⟩] [1,4,5,7,10,72] []
def z423r23:IC:=.reg [⟨some 2, none,.asg (.c (.bool false))⟩] [2] []
def z423r24:IC:=.reg [⟨some 74, none,.load true 2 (.t 1)⟩,⟨some 75, none,.call zl64 [(.rd,(.t 74))] true⟩,⟨some 76, none,.call zl153 [(.rd,(.t 75))] true⟩,⟨some 73, none,.asg (.t 76)⟩,⟨some 77, none,.extr (.t 73) 0⟩,⟨some 78, none,.extr (.t 73) 1⟩,⟨some 12, none,.alloc [(vi 0),(.slice none 0 0)]⟩,⟨none,none,.store 2 (.t 12) (.t 77)⟩,⟨some 13, none,.asg (.t 78)⟩] [4,5,7,10,12,13] []
def z423r25:IC:=.reg [⟨some 79, none,.load true 2 (.t 12)⟩,⟨some 80, none,.load true 2 (.t 4)⟩,⟨some 81, none,.call zl50 [(.rd,(.t 79)),(.rd,(.t 80))] true⟩,⟨some 82, none,.unop .not (.t 81)⟩,⟨some 83, none,.asg (.t 82)⟩,⟨some 84, (some (83,false)),.mv (.t 13)⟩,⟨some 85, (some (83,false)),.mv (.t 5)⟩,⟨some 86, (some (83,false)),.eqb true (.t 84) (.t 85)⟩,⟨some 87, none,.pick (.t 83) (.c (.bool true)) (.t 86)⟩] [7,10,87] []
def z423r26:IC:=.reg [⟨some 2, none,.asg (.c (.bool false))⟩] [2] []
def z423r27:IC:=.reg [⟨some 11, none,.asg (.c (vi 1))⟩] [7,10,11] []
def z423r28:IC:=.reg [⟨some 88, none,.load true 2 (.t 7)⟩,⟨some 89, none,.mv (.t 11)⟩,⟨some 90, none,.call zl240 [(.rd,(.t 88)),(.val,(.t 89))] true⟩,⟨some 11, none,.asg (.t 90)⟩] [10,11] []
def z423r29:IC:=.reg [⟨some 91, none,.mv (.t 11)⟩,⟨some 92, none,.bin .lss (.t 91) (.c (vi 0))⟩] [10,11,92] []
def z423r30:IC:=.reg [⟨some 2, none,.asg (.c (.bool false))⟩] [2] []
def z423r31:IC:=.reg [⟨some 93, none,.mv (.t 11)⟩,⟨some 94, none,.mv (.t 10)⟩,⟨some 95, none,.bin .neq (.t 93) (.t 94)⟩] [95] []
def z423r32:IC:=.reg [⟨some 2, none,.asg (.c (.bool false))⟩] [2] []
def z423r33:IC:=.reg [⟨some 2, none,.asg (.c (.bool true))⟩] [2] []
def zi423:IFun:=⟨[.t 2],[],(.seq z423r0 (.seq z423r1 (.seq z423r2 (.seq (.seq z423r3 (.cond (.t 18) (.seq z423r4 .ret) .skip)) (.seq z423r5 (.seq z423r6 (.seq z423r7 (.seq (.seq z423r8 (.cond (.t 40) (.seq z423r9 .ret) .skip)) (.seq (.seq z423r10 (.cond (.t 45) (.seq z423r11 .ret) .skip)) (.seq z423r12 (.seq z423r13 (.seq (.seq z423r14 (.cond (.t 61) (.seq z423r15 .ret) .skip)) (.seq z423r16 (.seq z423r17 (.seq z423r18 (.seq z423r19 (.seq (.seq z423r20 (.cond (.t 69) (.seq z423r21 .ret) .skip)) (.seq (.seq z423r22 (.cond (.t 72) (.seq z423r23 .ret) .skip)) (.seq z423r24 (.seq (.seq z423r25 (.cond (.t 87) (.seq z423r26 .ret) .skip)) (.seq z423r27 (.seq z423r28 (.seq (.seq z423r29 (.cond (.t 92) (.seq z423r30 .ret) .skip)) (.seq (.seq z423r31 (.cond (.t 95) (.seq z423r32 .ret) .skip)) (.seq z423r33 .ret)))))))))))))))))))))))))⟩
def z48r0:IC:=.reg [⟨some 2, none,.box (.t 0)⟩,⟨some 3, none,.box (.t 1)⟩,⟨some 4, none,.asg (.c (.bool false))⟩] [2,3] []
def z48r1:IC:=.reg [⟨some 5, none,.fadr 0 (.t 2)⟩,⟨some 6, none,.load false 1 (.t 5)⟩,⟨some 7, none,.fadr 0 (.t 3)⟩,⟨some 8, none,.load false 1 (.t 7)⟩,⟨some 9, none,.bin .neq (.t 6) (.t 8)⟩] [2,3,9] []
def z48r2:IC:=.reg [⟨some 4, none,.asg (.c (.bool false))⟩] [4] []
def z48r3:IC:=.reg [⟨some 10, none,.fadr 1 (.t 2)⟩,⟨some 11, none,.load false 1 (.t 10)⟩,⟨some 12, none,.fadr 1 (.t 3)⟩,⟨some 13, none,.load false 1 (.t 12)⟩,⟨some 14, none,.bin .neq (.t 11) (.t 13)⟩] [14] []
def z48r4:IC:=.reg [⟨some 4, none,.asg (.c (.bool false))⟩] [4] []
def z48r5:IC:=.reg [⟨some 4, none,.asg (.c (.bool true))⟩] [4] []
def zi48:IFun:=⟨[.t 4],[],(.seq z48r0 (.seq (.seq z48r1 (.cond (.t 9) (.seq z48r2 .ret) .skip)) (.seq (.seq z48r3 (.cond (.t 14) (.seq z48r4 .ret) .skip)) (.seq z48r5 .ret))))⟩
def z49r0:IC:=.reg [⟨some 4, none,.asg (.c (.bool false))⟩] [0,1] []
def z49r1:IC:=.reg [⟨some 6, none,.mv (.t 0)⟩,⟨some 7, none,.len (.t 6)⟩,⟨some 8, none,.mv (.t 1)⟩,⟨some 9, none,.len (.t 8)⟩,⟨some 10, none,.bin .neq (.t 7) (.t 9)⟩] [0,1,10] []
def z49r2:IC:=.reg [⟨some 4, none,.asg (.c (.bool false))⟩] [4] []
def z49r3:IC:=.reg [⟨some 5, none,.asg (.c (vi 0))⟩] [0,1,5] []
def z49r4:IC:=.reg [⟨some 11, none,.mv (.t 5)⟩,⟨some 12, none,.mv (.t 0)⟩,⟨some 13, none,.len (.t 12)⟩,⟨some 14, none,.bin .lss (.t 11) (.t 13)⟩] [0,1,5,14] []
def z49r5:IC:=.reg [⟨some 17, none,.mv (.t 0)⟩,⟨some 18, none,.mv (.t 5)⟩,⟨some 19, none,.iadr 2 (.t 17) (.t 18)⟩,⟨some 20, none,.load true 2 (.t 19)⟩,⟨some 21, none,.mv (.t 1)⟩,⟨some 22, none,.mv (.t 5)⟩,⟨some 23, none,.iadr 2 (.t 21) (.t 22)⟩,⟨some 24, none,.load true 2 (.t 23)⟩,⟨some 25, none,.call zl48 [(.val,(.t 20)),(.val,(.t 24))] true⟩,⟨some 26, none,.unop .not (.t 25)⟩] [0,1,5,26] []
def z49r6:IC:=.reg [⟨some 4, none,.asg (.c (.bool false))⟩] [4] []
def z49r7:IC:=.reg [⟨some 15, none,.mv (.t 5)⟩,⟨some 16, none,.bin .add (.t 15) (.c (vi 1))⟩,⟨some 5, none,.asg (.t 16)⟩] [0,1,5] []
def z49l8:IC:=(.seq (.seq z49r4 (.cond (.t 14) .skip (.exit 0))) (.seq (.block 1 (.seq z49r5 (.cond (.t 26) (.seq z49r6 .ret) .skip))) z49r7))
def z49r9:IC:=.reg [⟨some 4, none,.asg (.c (.bool true))⟩] [4] []
def zi49:IFun:=⟨[.t 4],[],(.seq z49r0 (.seq (.seq z49r1 (.cond (.t 10) (.seq z49r2 .ret) .skip)) (.seq (.seq z49r3 (.block 0 (.loop z49l8))) (.seq z49r9 .ret))))⟩
def z50r0:IC:=.reg [⟨some 2, none,.box (.t 0)⟩,⟨some 3, none,.box (.t 1)⟩,⟨some 4, none,.asg (.c (.bool false))⟩] [2,3] []
def z50r1:IC:=.reg [⟨some 5, none,.fadr 0 (.t 2)⟩,⟨some 6, none,.load false 1 (.t 5)⟩,⟨some 7, none,.fadr 0 (.t 3)⟩,⟨some 8, none,.load false 1 (.t 7)⟩,⟨some 9, none,.bin .neq (.t 6) (.t 8)⟩] [2,3,9] []
def z50r2:IC:=.reg [⟨some 4, none,.asg (.c (.bool false))⟩] [4] []
def z50r3:IC:=.reg [⟨some 10, none,.fadr 1 (.t 2)⟩,⟨some 11, none,.load false 1 (.t 10)⟩,⟨some 12, none,.fadr 1 (.t 3)⟩,⟨some 13, none,.load false 1 (.t 12)⟩,⟨some 14, none,.call zl49 [(.rd,(.t 11)),(.rd,(.t 13))] true⟩,⟨some 15, none,.unop .not (.t 14)⟩] [15] []
def z50r4:IC:=.reg [⟨some 4, none,.asg (.c (.bool false))⟩] [4] []
def z50r5:IC:=.reg [⟨some 4, none,.asg (.c (.bool true))⟩] [4] []
def zi50:IFun:=⟨[.t 4],[],(.seq z50r0 (.seq (.seq z50r1 (.cond (.t 9) (.seq z50r2 .ret) .skip)) (.seq (.seq z50r3 (.cond (.t 15) (.seq z50r4 .ret) .skip)) (.seq z50r5 .ret))))⟩
def z239r0:IC:=.reg [⟨some 4, none,.asg (.c (vi 0))⟩] [0,1] []
def z239r1:IC:=.reg [⟨some 5, none,.asg (.c (vi 0))⟩] [0,1,5] []
def z239r2:IC:=.reg [⟨some 6, none,.mv (.t 5)⟩,⟨some 7, none,.mv (.t 0)⟩,⟨some 8, none,.len (.t 7)⟩,⟨some 9, none,.bin .lss (.t 6) (.t 8)⟩] [0,1,5,9] []
def z239r3:IC:=.reg [⟨some 12, none,.mv (.t 0)⟩,⟨some 13, none,.mv (.t 5)⟩,⟨some 14, none,.iadr 2 (.t 12) (.t 13)⟩,⟨some 15, none,.fadr 0 (.t 14)⟩,⟨some 16, none,.load false 1 (.t 15)⟩,⟨some 17, none,.mv (.t 1)⟩,⟨some 18, none,.bin .neq (.t 16) (.t 17)⟩] [0,1,5,18] []
def z239r4:IC:=.reg [⟨some 4, none,.asg (.c (vi (-1)))⟩] [4] []
def z239r5:IC:=.reg [⟨some 19, none,.mv (.t 1)⟩,⟨some 20, none,.bin .add (.t 19) (.c (vi 1))⟩,⟨some 1, none,.asg (.t 20)⟩] [0,1,5] []
def z239r6:IC:=.reg [⟨some 21, none,.mv (.t 0)⟩,⟨some 22, none,.mv (.t 5)⟩,⟨some 23, none,.iadr 2 (.t 21) (.t 22)⟩,⟨some 24, none,.fadr 1 (.t 23)⟩,⟨some 25, none,.load false 1 (.t 24)⟩,⟨some 26, none,.mv (.t 1)⟩,⟨some 27, none,.bin .neq (.t 25) (.t 26)⟩] [0,1,5,27] []
def z239r7:IC:=.reg [⟨some 4, none,.asg (.c (vi (-1)))⟩] [4] []
def z239r8:IC:=.reg [⟨some 28, none,.mv (.t 1)⟩,⟨some 29, none,.bin .add (.t 28) (.c (vi 1))⟩,⟨some 1, none,.asg (.t 29)⟩] [0,1,5] []
def z239r9:IC:=.reg [⟨some 10, none,.mv (.t 5)⟩,⟨some 11, none,.bin .add (.t 10) (.c (vi 1))⟩,⟨some 5, none,.asg (.t 11)⟩] [0,1,5] []
def z239l10:IC:=(.seq (.seq z239r2 (.cond (.t 9) .skip (.exit 0))) (.seq (.block 1 (.seq (.seq z239r3 (.cond (.t 18) (.seq z239r4 .ret) .skip)) (.seq z239r5 (.seq (.seq z239r6 (.cond (.t 27) (.seq z239r7 .ret) .skip)) z239r8)))) z239r9))
def z239r11:IC:=.reg [⟨some 30, none,.mv (.t 1)⟩,⟨some 4, none,.asgm (.t 30)⟩] [4] []
def zi239:IFun:=⟨[.t 4],[],(.seq z239r0 (.seq (.seq z239r1 (.block 0 (.loop z239l10))) (.seq z239r11 .ret)))⟩
def z240r0:IC:=.reg [⟨some 2, none,.box (.t 0)⟩,⟨some 4, none,.asg (.c (vi 0))⟩] [1,2] []
def z240r1:IC:=.reg [⟨some 5, none,.fadr 1 (.t 2)⟩,⟨some 6, none,.load false 1 (.t 5)⟩,⟨some 7, none,.mv (.t 1)⟩,⟨some 8, none,.call zl239 [(.rd,(.t 6)),(.val,(.t 7))] true⟩,⟨some 1, none,.asg (.t 8)⟩] [1] []
def z240r2:IC:=.reg [⟨some 9, none,.mv (.t 1)⟩,⟨some 10, none,.bin .lss (.t 9) (.c (vi 0))⟩] [1,10] []
def z240r3:IC:=.reg [⟨some 4, none,.asg (.c (vi (-1)))⟩] [4] []
def z240r4:IC:=.reg [⟨some 11, none,.mv (.t 1)⟩,⟨some 4, none,.asgm (.t 11)⟩] [4] []
def zi240:IFun:=⟨[.t 4],[],(.seq z240r0 (.seq z240r1 (.seq (.seq z240r2 (.cond (.t 10) (.seq z240r3 .ret) .skip)) (.seq z240r4 .ret))))⟩
def z56r0:IC:=.reg [⟨some 4, none,.asg (.c (vi 0))⟩] [0,1] []
def z56r1:IC:=.reg [⟨some 5, none,.asg (.c (vi 0))⟩] [0,1,5] []
def z56r2:IC:=.reg [⟨some 6, none,.mv (.t 5)⟩,⟨some 7, none,.mv (.t 0)⟩,⟨some 8, none,.len (.t 7)⟩,⟨some 9, none,.bin .lss (.t 6) (.t 8)⟩] [0,1,5,9] []
def z56r3:IC:=.reg [⟨some 12, none,.mv (.t 0)⟩,⟨some 13, none,.mv (.t 5)⟩,⟨some 14, none,.mv (.t 1)⟩,⟨some 15, none,.iadr 2 (.t 12) (.t 13)⟩,⟨some 16, none,.fadr 0 (.t 15)⟩,⟨none,none,.store 1 (.t 16) (.t 14)⟩] [0,1,5] []
def z56r4:IC:=.reg [⟨some 17, none,.mv (.t 1)⟩,⟨some 18, none,.bin .add (.t 17) (.c (vi 1))⟩,⟨some 1, none,.asg (.t 18)⟩] [0,1,5] []
def z56r5:IC:=.reg [⟨some 19, none,.mv (.t 0)⟩,⟨some 20, none,.mv (.t 5)⟩,⟨some 21, none,.mv (.t 1)⟩,⟨some 22, none,.iadr 2 (.t 19) (.t 20)⟩,⟨some 23, none,.fadr 1 (.t 22)⟩,⟨none,none,.store 1 (.t 23) (.t 21)⟩] [0,1,5] []
def z56r6:IC:=.reg [⟨some 24, none,.mv (.t 1)⟩,⟨some 25, none,.bin .add (.t 24) (.c (vi 1))⟩,⟨some 1, none,.asg (.t 25)⟩] [0,1,5] []
def z56r7:IC:=.reg [⟨some 10, none,.mv (.t 5)⟩,⟨some 11, none,.bin .add (.t 10) (.c (vi 1))⟩,⟨some 5, none,.asg (.t 11)⟩] [0,1,5] []
def z56l8:IC:=(.seq (.seq z56r2 (.cond (.t 9) .skip (.exit 0))) (.seq (.block 1 (.seq z56r3 (.seq z56r4 (.seq z56r5 z56r6)))) z56r7))
def z56r9:IC:=.reg [⟨some 26, none,.mv (.t 1)⟩,⟨some 4, none,.asgm (.t 26)⟩] [0,4] []
def zi56:IFun:=⟨[.t 4],[0],(.seq z56r0 (.seq (.seq z56r1 (.block 0 (.loop z56l8))) (.seq z56r9 .ret)))⟩
def z57r0:List IOp:=[⟨some 2, none,.box (.t 0)⟩,⟨some 4, none,.asg (.c (vi 0))⟩]
def z57r1:List IOp:=[⟨some 5, none,.fadr 1 (.t 2)⟩,⟨some 6, none,.load false 1 (.t 5)⟩,⟨some 7, none,.mv (.t 1)⟩,⟨some 8, none,.callm zl56 (.t 6) (.t 7)⟩,⟨some 1, none,.asg (.t 8)⟩]
def z57r2:IC:=.reg [⟨some 9, none,.mv (.t 1)⟩,⟨some 4, none,.asgm (.t 9)⟩] [0,4] []
def zi57:IFun:=⟨[.t 4],[0],(.ubx z57r0 z57r1 [0,1] (.seq z57r2 .ret))⟩
def z60r0:IC:=.reg [⟨some 4, none,.asg (.c (vi 0))⟩] [0,1] []
def z60r1:IC:=.reg [⟨some 5, none,.mv (.t 1)⟩,⟨some 6, none,.mv (.t 0)⟩,⟨some 7, none,.len (.t 6)⟩,⟨some 8, none,.bin .sub (.t 5) (.t 7)⟩,⟨some 1, none,.asg (.t 8)⟩] [1] []
def z60r2:IC:=.reg [⟨some 9, none,.mv (.t 1)⟩,⟨some 10, none,.bin .lss (.t 9) (.c (vi 0))⟩] [1,10] []
def z60r3:IC:=.reg [⟨some 4, none,.asg (.c (vi (-1)))⟩] [4] []
def z60r4:IC:=.reg [⟨some 11, none,.mv (.t 1)⟩,⟨some 4, none,.asgm (.t 11)⟩] [4] []
def zi60:IFun:=⟨[.t 4],[],(.seq z60r0 (.seq z60r1 (.seq (.seq z60r2 (.cond (.t 10) (.seq z60r3 .ret) .skip)) (.seq z60r4 .ret))))⟩
def z61r0:IC:=.reg [⟨some 2, none,.box (.t 0)⟩,⟨some 4, none,.asg (.c (vi 0))⟩] [1,2] []
def z61r1:IC:=.reg [⟨some 5, none,.fadr 1 (.t 2)⟩,⟨some 6, none,.load false 1 (.t 5)⟩,⟨some 7, none,.mv (.t 1)⟩,⟨some 8, none,.call zl60 [(.rd,(.t 6)),(.val,(.t 7))] true⟩,⟨some 1, none,.asg (.t 8)⟩] [1] []
def z61r2:IC:=.reg [⟨some 9, none,.mv (.t 1)⟩,⟨some 10, none,.bin .lss (.t 9) (.c (vi 0))⟩] [1,10] []
def z61r3:IC:=.reg [⟨some 4, none,.asg (.c (vi (-1)))⟩] [4] []
def z61r4:IC:=.reg [⟨some 11, none,.mv (.t 1)⟩,⟨some 4, none,.asgm (.t 11)⟩] [4] []
def zi61:IFun:=⟨[.t 4],[],(.seq z61r0 (.seq z61r1 (.seq (.seq z61r2 (.cond (.t 10) (.seq z61r3 .ret) .skip)) (.seq z61r4 .ret))))⟩
def z62r0:IC:=.reg [⟨some 1, none,.box (.t 0)⟩,⟨some 2, none,.alloc [(vi 0),(vi 0)]⟩] [1,2] []
def z62r1:IC:=.reg [⟨some 3, none,.alloc [(vi 0),(vi 0)]⟩] [1,2,3] []
def z62r2:IC:=.reg [⟨some 4, none,.fadr 0 (.t 1)⟩,⟨some 5, none,.load false 1 (.t 4)⟩,⟨some 6, none,.fadr 0 (.t 3)⟩,⟨none,none,.store 1 (.t 6) (.t 5)⟩] [1,2,3] []
def z62r3:IC:=.reg [⟨some 7, none,.fadr 1 (.t 1)⟩,⟨some 8, none,.load false 1 (.t 7)⟩,⟨some 9, none,.fadr 1 (.t 3)⟩,⟨none,none,.store 1 (.t 9) (.t 8)⟩] [2,3] []
def z62r4:IC:=.reg [⟨some 10, none,.load true 2 (.t 3)⟩,⟨none,none,.store 2 (.t 2) (.t 10)⟩] [2] []
def zi62:IFun:=⟨[.c 2 2 true],[],(.seq z62r0 (.seq z62r1 (.seq z62r2 (.seq z62r3 (.seq z62r4 .ret)))))⟩
def z63r0:IC:=.reg [⟨some 2, none,.asg (.c (.slice none 0 0))⟩] [0] []
def z63r1:IC:=.reg [⟨some 5, none,.mv (.t 0)⟩,⟨some 6, none,.len (.t 5)⟩,⟨some 7, none,.mksl 2 [(vi 0),(vi 0)] (.t 6) (.t 6)⟩,⟨some 3, none,.asg (.t 7)⟩] [0,3] []
def z63r2:IC:=.reg [⟨some 4, none,.asg (.c (vi 0))⟩] [0,3,4] []
def z63r3:IC:=.reg [⟨some 8, none,.mv (.t 4)⟩,⟨some 9, none,.mv (.t 0)⟩,⟨some 10, none,.len (.t 9)⟩,⟨some 11, none,.bin .lss (.t 8) (.t 10)⟩] [0,3,4,11] []
def z63r4:IC:=.reg [⟨some 14, none,.mv (.t 3)⟩,⟨some 15, none,.mv (.t 4)⟩,⟨some 16, none,.mv (.t 0)⟩,⟨some 17, none,.mv (.t 4)⟩,⟨some 18, none,.iadr 2 (.t 16) (.t 17)⟩,⟨some 19, none,.load true 2 (.t 18)⟩,⟨some 20, none,.call zl62 [(.val,(.t 19))] true⟩,⟨some 21, none,.iadr 2 (.t 14) (.t 15)⟩,⟨none,none,.store 2 (.t 21) (.t 20)⟩] [0,3,4] []
def z63r5:IC:=.reg [⟨some 12, none,.mv (.t 4)⟩,⟨some 13, none,.bin .add (.t 12) (.c (vi 1))⟩,⟨some 4, none,.asg (.t 13)⟩] [0,3,4] []
def z63l6:IC:=(.seq (.seq z63r3 (.cond (.t 11) .skip (.exit 0))) (.seq (.block 1 z63r4) z63r5))
def z63r7:IC:=.reg [⟨some 22, none,.mv (.t 3)⟩,⟨some 2, none,.asgm (.t 22)⟩] [2,3] []
def zi63:IFun:=⟨[.t 2],[],(.seq z63r0 (.seq z63r1 (.seq (.seq z63r2 (.block 0 (.loop z63l6))) (.seq z63r7 .ret))))⟩
def z64r0:IC:=.reg [⟨some 1, none,.box (.t 0)⟩,⟨some 2, none,.alloc [(vi 0),(.slice none 0 0)]⟩] [1,2] []
def z64r1:IC:=.reg [⟨some 3, none,.alloc [(vi 0),(.slice none 0 0)]⟩] [1,2,3] []
def z64r2:IC:=.reg [⟨some 4, none,.fadr 0 (.t 1)⟩,⟨some 5, none,.load false 1 (.t 4)⟩,⟨some 6, none,.fadr 0 (.t 3)⟩,⟨none,none,.store 1 (.t 6) (.t 5)⟩] [1,2,3] []
def z64r3:IC:=.reg [⟨some 7, none,.fadr 1 (.t 1)⟩,⟨some 8, none,.load false 1 (.t 7)⟩,⟨some 9, none,.call zl63 [(.rd,(.t 8))] true⟩,⟨some 10, none,.fadr 1 (.t 3)⟩,⟨none,none,.store 1 (.t 10) (.t 9)⟩] [2,3] []
def z64r4:IC:=.reg [⟨some 11, none,.load true 2 (.t 3)⟩,⟨none,none,.store 2 (.t 2) (.t 11)⟩] [2] []
def zi64:IFun:=⟨[.c 2 2 true],[],(.seq z64r0 (.seq z64r1 (.seq z64r2 (.seq z64r3 (.seq z64r4 .ret)))))⟩
def z66r0:IC:=.reg [⟨some 2, none,.asg (.c (vi 0))⟩] [0] []
def z66r1:IC:=.reg [⟨some 3, none,.mv (.t 0)⟩,⟨some 4, none,.conv .u32 (.t 3)⟩,⟨some 5, none,.call zl67 [(.val,(.t 4))] true⟩,⟨some 2, none,.asg (.t 5)⟩] [2] []
def z66r2:IC:=.reg [⟨some 6, none,.mv (.t 0)⟩,⟨some 7, none,.call zl68 [(.val,(.t 6))] true⟩,⟨some 2, none,.asg (.t 7)⟩] [2] []
def zi66:IFun:=⟨[.t 2],[],(.seq z66r0 (.seq (.cond (.c (.bool false)) (.seq z66r1 .ret) .skip) (.seq z66r2 .ret)))⟩
def z68r0:IC:=.reg [⟨some 2, none,.asg (.c (vi 0))⟩] [0,2] []
def z68r1:IC:=.reg [⟨some 3, none,.mv (.t 0)⟩,⟨some 4, none,.bin .geq (.t 3) (.c (.int .u64 (4294967296)))⟩] [0,2,4] []
def z68r2:IC:=.reg [⟨some 5, none,.mv (.t 0)⟩,⟨some 6, none,.bin .shr (.t 5) (.c (.int .u64 (32)))⟩,⟨some 0, none,.asg (.t 6)⟩] [0] []
def z68r3:IC:=.reg [⟨some 2, none,.asg (.c (vi 32))⟩] [0,2] []
def z68r4:IC:=.reg [⟨some 7, none,.mv (.t 0)⟩,⟨some 8, none,.bin .geq (.t 7) (.c (.int .u64 (65536)))⟩] [0,2,8] []
def z68r5:IC:=.reg [⟨some 9, none,.mv (.t 0)⟩,⟨some 10, none,.bin .shr (.t 9) (.c (.int .u64 (16)))⟩,⟨some 0, none,.asg (.t 10)⟩] [0,2] []
def z68r6:IC:=.reg [⟨some 11, none,.mv (.t 2)⟩,⟨some 12, none,.bin .add (.t 11) (.c (vi 16))⟩,⟨some 2, none,.asg (.t 12)⟩] [0,2] []
def z68r7:IC:=.reg [⟨some 13, none,.mv (.t 0)⟩,⟨some 14, none,.bin .geq (.t 13) (.c (.int .u64 (256)))⟩] [0,2,14] []
def z68r8:IC:=.reg [⟨some 15, none,.mv (.t 0)⟩,⟨some 16, none,.bin .shr (.t 15) (.c (.int .u64 (8)))⟩,⟨some 0, none,.asg (.t 16)⟩] [0,2] []
def z68r9:IC:=.reg [⟨some 17, none,.mv (.t 2)⟩,⟨some 18, none,.bin .add (.t 17) (.c (vi 8))⟩,⟨some 2, none,.asg (.t 18)⟩] [0,2] []
def z68r10:IC:=.reg [⟨some 19, none,.mv (.t 2)⟩,⟨some 20, none,.mv (.t 0)⟩,⟨some 21, none,.conv .u8 (.t 20)⟩,⟨some 22, none,.idxs (.c (.string ⟨#[0,1,2,2,3,3,3,3,4,4,4,4,4,4,4,4,5,5,5,5,5,5,5,5,5,5,5,5,5,5,5,5,6,6,6,6,6,6,6,6,6,6,6,6,6,6,6,6,6,6,6,6,6,6,6,6,6,6,6,6,6,6,6,6,7,7,7,7,7,7,7,7,7,7,7,7,7,7,7,7,7,7,7,7,7,7,7,7,7,7,7,7,7,7,7,7,7,7,7,7,7,7,7,7,7,7,7,7,7,7,7,7,7,7,7,7,7,7,7,7,7,7,7,7,7,7,7,7,8,8,8,8,8,8,8,8,8,8,8,8,8,8,8,8,8,8,8,8,8,8,8,8,8,8,8,8,8,8,8,8,8,8,8,8,8,8,8,8,8,8,8,8,8,8,8,8,8,8,8,8,8,8,8,8,8,8,8,8,8,8,8,8,8,8,8,8,8,8,8,8,8,8,8,8,8,8,8,8,8,8,8,8,8,8,8,8,8,8,8,8,8,8,8,8,8,8,8,8,8,8,8,8,8,8,8,8,8,8,8,8,8,8,8,8,8,8,8,8,8,8,8,8,8,8,8,8]⟩)) (.t 21)⟩,⟨some 23, none,.conv .i64 (.t 22)⟩,⟨some 24, none,.bin .add (.t 19) (.t 23)⟩,⟨some 2, none,.asg (.t 24)⟩] [2] []
def zi68:IFun:=⟨[.t 2],[],(.seq z68r0 (.seq (.seq z68r1 (.cond (.t 4) (.seq z68r2 z68r3) .skip)) (.seq (.seq z68r4 (.cond (.t 8) (.seq z68r5 z68r6) .skip)) (.seq (.seq z68r7 (.cond (.t 14) (.seq z68r8 z68r9) .skip)) (.seq z68r10 .ret)))))⟩
def z257r0:IC:=.reg [⟨some 2, none,.asg (.c (.slice none 0 0))⟩] [0] []
def z257r1:IC:=.reg [⟨some 3, none,.mv (.t 0)⟩,⟨some 4, none,.mv (.t 0)⟩,⟨some 5, none,.len (.t 4)⟩,⟨some 6, none,.mv (.t 0)⟩,⟨some 7, none,.len (.t 6)⟩,⟨some 8, none,.slc 1 (.t 3) none (some (.t 5)) (some (.t 7))⟩,⟨some 2, none,.asgm (.t 8)⟩] [0,2] []
def zi257:IFun:=⟨[.t 2],[],(.seq z257r0 (.seq z257r1 .ret))⟩
def z258r0:IC:=.reg [⟨some 2, none,.asg (.c (.slice none 0 0))⟩] [0] []
def z258r1:IC:=.reg [⟨some 3, none,.mv (.t 0)⟩,⟨some 4, none,.mv (.t 0)⟩,⟨some 5, none,.len (.t 4)⟩,⟨some 6, none,.mv (.t 0)⟩,⟨some 7, none,.len (.t 6)⟩,⟨some 8, none,.slc 2 (.t 3) none (some (.t 5)) (some (.t 7))⟩,⟨some 2, none,.asgm (.t 8)⟩] [0,2] []
def zi258:IFun:=⟨[.t 2],[],(.seq z258r0 (.seq z258r1 .ret))⟩
def z70r0:IC:=.reg [⟨some 2, none,.asg (.c (.slice none 0 0))⟩] [0] []
def z70r1:IC:=.reg [⟨some 3, none,.mv (.t 0)⟩,⟨some 4, none,.mv (.t 0)⟩,⟨some 5, none,.len (.t 4)⟩,⟨some 6, none,.mv (.t 0)⟩,⟨some 7, none,.len (.t 6)⟩,⟨some 8, none,.slc 1 (.t 3) none (some (.t 5)) (some (.t 7))⟩,⟨some 2, none,.asgm (.t 8)⟩] [0,2] []
def zi70:IFun:=⟨[.t 2],[],(.seq z70r0 (.seq z70r1 .ret))⟩
def z261r0:IC:=.reg [⟨some 2, none,.nilo 2⟩] [0] []
def z261r1:List IOp:=[⟨some 3, none,.mv (.t 0)⟩]
def z261r2:IC:=.reg [⟨some 2, none,.nilo 2⟩] [2] []
def z261r3:IC:=.reg [⟨some 5, none,.bsl 2 [(vi 0),(vi 0)] 0 []⟩,⟨some 6, none,.mv (.t 0)⟩,⟨some 7, none,.app 2 (.t 5) (.t 6)⟩,⟨some 2, none,.asg (.t 7)⟩] [2] []
def zi261:IFun:=⟨[.t 2],[],(.seq z261r0 (.nilc2 z261r1 (.t 3) 4 [0,4] (.cond (.t 4) (.seq z261r2 .ret) .skip) (.seq z261r3 .ret)))⟩
def z263r0:IC:=.reg [⟨some 3, none,.box (.t 1)⟩,⟨some 4, none,.asg (.c (.bool false))⟩] [0,3] []
def z263r1:IC:=.reg [⟨some 5, none,.mv (.t 0)⟩,⟨some 6, none,.load true 2 (.t 3)⟩,⟨some 7, none,.call zl269 [(.rd,(.t 5)),(.val,(.t 6))] true⟩,⟨some 8, none,.bin .geq (.t 7) (.c (vi 0))⟩,⟨some 4, none,.asg (.t 8)⟩] [4] []
def zi263:IFun:=⟨[.t 4],[],(.seq z263r0 (.seq z263r1 .ret))⟩
def z265r0:IC:=.reg [⟨some 4, none,.asg (.c (.slice none 0 0))⟩] [0,1] []
def z265r1:IC:=.reg [⟨some 8, none,.mv (.t 0)⟩,⟨some 9, none,.mv (.t 1)⟩,⟨some 10, none,.call zl448 [(.ld,(.t 8)),(.val,(.t 9))] false⟩,⟨some 5, none,.asg (.t 10)⟩] [0,1,5] []
def z265r2:IC:=.reg [⟨some 11, none,.mv (.t 5)⟩,⟨some 12, none,.bin .eql (.t 11) (.c (vi (-1)))⟩] [0,1,5,12] []
def z265r3:IC:=.reg [⟨some 13, none,.mv (.t 0)⟩,⟨some 4, none,.asgm (.t 13)⟩] [0,4] []
def z265r4:IC:=.reg [⟨some 14, none,.mv (.t 5)⟩,⟨some 15, none,.bin .add (.t 14) (.c (vi 1))⟩,⟨some 6, none,.asg (.t 15)⟩] [0,1,5,6] []
def z265r5:IC:=.reg [⟨some 16, none,.mv (.t 6)⟩,⟨some 17, none,.mv (.t 0)⟩,⟨some 18, none,.len (.t 17)⟩,⟨some 19, none,.bin .lss (.t 16) (.t 18)⟩] [0,1,5,6,19] []
def z265r6:IC:=.reg [⟨some 22, none,.mv (.t 0)⟩,⟨some 23, none,.mv (.t 6)⟩,⟨some 24, none,.iadr 2 (.t 22) (.t 23)⟩,⟨some 25, none,.load true 2 (.t 24)⟩,⟨some 7, none,.alloc [(vi 0),(vi 0)]⟩,⟨none,none,.store 2 (.t 7) (.t 25)⟩] [0,1,5,6,7] []
def z265r7:IC:=.reg [⟨some 26, none,.mv (.t 1)⟩,⟨some 27, none,.load true 2 (.t 7)⟩,⟨some 28, none,.callv (.t 26) [(.val,(.t 27))]⟩,⟨some 29, none,.unop .not (.t 28)⟩] [0,1,5,6,7,29] []
def z265r8:IC:=.reg [⟨some 30, none,.mv (.t 0)⟩,⟨some 31, none,.mv (.t 5)⟩,⟨some 32, none,.load true 2 (.t 7)⟩,⟨some 33, none,.iadr 2 (.t 30) (.t 31)⟩,⟨none,none,.store 2 (.t 33) (.t 32)⟩] [0,1,5,6] []
def z265r9:IC:=.reg [⟨some 34, none,.mv (.t 5)⟩,⟨some 35, none,.bin .add (.t 34) (.c (vi 1))⟩,⟨some 5, none,.asg (.t 35)⟩] [0,1,5,6] []
def z265r10:IC:=.reg [⟨some 20, none,.mv (.t 6)⟩,⟨some 21, none,.bin .add (.t 20) (.c (vi 1))⟩,⟨some 6, none,.asg (.t 21)⟩] [0,1,5,6] []
def z265l11:IC:=(.seq (.seq z265r5 (.cond (.t 19) .skip (.exit 0))) (.seq (.block 1 (.seq z265r6 (.seq z265r7 (.cond (.t 29) (.seq z265r8 z265r9) .skip)))) z265r10))
def z265r12:IC:=.reg [⟨some 36, none,.mv (.t 0)⟩,⟨some 37, none,.mv (.t 5)⟩,⟨some 38, none,.slc 2 (.t 36) (some (.t 37)) none none⟩,⟨none,none,.clr (.t 38) [(vi 0),(vi 0)]⟩] [0,5] []
def z265r13:IC:=.reg [⟨some 39, none,.mv (.t 0)⟩,⟨some 40, none,.mv (.t 5)⟩,⟨some 41, none,.slc 2 (.t 39) none (some (.t 40)) none⟩,⟨some 4, none,.asgm (.t 41)⟩] [0,4] []
def zi265:IFun:=⟨[.t 4],[],(.seq z265r0 (.seq z265r1 (.seq (.seq z265r2 (.cond (.t 12) (.seq z265r3 .ret) .skip)) (.seq (.seq z265r4 (.block 0 (.loop z265l11))) (.seq z265r12 (.seq z265r13 .ret))))))⟩
def z268r0:IC:=.reg [⟨some 4, none,.asg (.c (vi 0))⟩] [0,1] []
def z268r1:IC:=.reg [⟨some 6, none,.mv (.t 0)⟩,⟨some 7, none,.len (.t 6)⟩,⟨some 8, none,.mv (.c (vi 0))⟩] [0,1,7,8] []
def z268r2:IC:=.reg [⟨some 9, none,.bin .lss (.t 8) (.t 7)⟩] [0,1,7,8,9] []
def z268r3:IC:=.reg [⟨some 10, none,.asg (.t 8)⟩,⟨some 5, none,.asg (.t 10)⟩] [0,1,5,7,8] []
def z268r4:IC:=.reg [⟨some 11, none,.mv (.t 1)⟩,⟨some 12, none,.mv (.t 0)⟩,⟨some 13, none,.mv (.t 5)⟩,⟨some 14, none,.iadr 2 (.t 12) (.t 13)⟩,⟨some 15, none,.load true 2 (.t 14)⟩,⟨some 16, none,.callv (.t 11) [(.val,(.t 15))]⟩] [0,1,5,7,8,16] []
def z268r5:IC:=.reg [⟨some 17, none,.mv (.t 5)⟩,⟨some 4, none,.asgm (.t 17)⟩] [4] []
def z268r6:IC:=.reg [⟨some 18, none,.bin .add (.t 8) (.c (vi 1))⟩,⟨some 8, none,.asg (.t 18)⟩] [0,1,7,8] []
def z268l7:IC:=(.seq z268r2 (.seq (.cond (.t 9) .skip (.exit 0)) (.seq (.block 1 (.seq z268r3 (.seq z268r4 (.cond (.t 16) (.seq z268r5 .ret) .skip)))) z268r6)))
def z268r8:IC:=.reg [⟨some 4, none,.asg (.c (vi (-1)))⟩] [4] []
def zi268:IFun:=⟨[.t 4],[],(.seq z268r0 (.seq (.seq z268r1 (.block 0 (.loop z268l7))) (.seq z268r8 .ret)))⟩
def z448r0:IC:=.reg [⟨some 4, none,.asg (.c (vi 0))⟩] [0,1] []
def z448r1:IC:=.reg [⟨some 6, none,.mv (.t 0)⟩,⟨some 7, none,.len (.t 6)⟩,⟨some 8, none,.mv (.c (vi 0))⟩] [0,1,7,8] []
def z448r2:IC:=.reg [⟨some 9, none,.bin .lss (.t 8) (.t 7)⟩] [0,1,7,8,9] []
def z448r3:IC:=.reg [⟨some 10, none,.asg (.t 8)⟩,⟨some 5, none,.asg (.t 10)⟩] [0,1,5,7,8] []
def z448r4:IC:=.reg [⟨some 11, none,.mv (.t 1)⟩,⟨some 12, none,.mv (.t 0)⟩,⟨some 13, none,.mv (.t 5)⟩,⟨some 14, none,.iadr 2 (.t 12) (.t 13)⟩,⟨some 15, none,.load true 2 (.t 14)⟩,⟨some 16, none,.callv (.t 11) [(.val,(.t 15))]⟩] [0,1,5,7,8,16] []
def z448r5:IC:=.reg [⟨some 17, none,.mv (.t 5)⟩,⟨some 4, none,.asgm (.t 17)⟩] [0,4] []
def z448r6:IC:=.reg [⟨some 18, none,.bin .add (.t 8) (.c (vi 1))⟩,⟨some 8, none,.asg (.t 18)⟩] [0,1,7,8] []
def z448l7:IC:=(.seq z448r2 (.seq (.cond (.t 9) .skip (.exit 0)) (.seq (.block 1 (.seq z448r3 (.seq z448r4 (.cond (.t 16) (.seq z448r5 .ret) .skip)))) z448r6)))
def z448r8:IC:=.reg [⟨some 4, none,.asg (.c (vi (-1)))⟩] [0,4] []
def zi448:IFun:=⟨[.t 4],[0],(.seq z448r0 (.seq (.seq z448r1 (.block 0 (.loop z448l7))) (.seq z448r8 .ret)))⟩
def z269r0:IC:=.reg [⟨some 3, none,.box (.t 1)⟩,⟨some 4, none,.asg (.c (vi 0))⟩] [0,3] []
def z269r1:IC:=.reg [⟨some 6, none,.mv (.t 0)⟩,⟨some 7, none,.len (.t 6)⟩,⟨some 8, none,.mv (.c (vi 0))⟩] [0,3,7,8] []
def z269r2:IC:=.reg [⟨some 9, none,.bin .lss (.t 8) (.t 7)⟩] [0,3,7,8,9] []
def z269r3:IC:=.reg [⟨some 10, none,.asg (.t 8)⟩,⟨some 5, none,.asg (.t 10)⟩] [0,3,5,7,8] []
def z269r4:IC:=.reg [⟨some 11, none,.load true 2 (.t 3)⟩,⟨some 12, none,.mv (.t 0)⟩,⟨some 13, none,.mv (.t 5)⟩,⟨some 14, none,.iadr 2 (.t 12) (.t 13)⟩,⟨some 15, none,.load true 2 (.t 14)⟩,⟨some 16, none,.eqa false 2 (.t 11) (.t 15)⟩] [0,3,5,7,8,16] []
def z269r5:IC:=.reg [⟨some 17, none,.mv (.t 5)⟩,⟨some 4, none,.asgm (.t 17)⟩] [4] []
def z269r6:IC:=.reg [⟨some 18, none,.bin .add (.t 8) (.c (vi 1))⟩,⟨some 8, none,.asg (.t 18)⟩] [0,3,7,8] []
def z269l7:IC:=(.seq z269r2 (.seq (.cond (.t 9) .skip (.exit 0)) (.seq (.block 1 (.seq z269r3 (.seq z269r4 (.cond (.t 16) (.seq z269r5 .ret) .skip)))) z269r6)))
def z269r8:IC:=.reg [⟨some 4, none,.asg (.c (vi (-1)))⟩] [4] []
def zi269:IFun:=⟨[.t 4],[],(.seq z269r0 (.seq (.seq z269r1 (.block 0 (.loop z269l7))) (.seq z269r8 .ret)))⟩
def z272r0:IC:=.reg [⟨some 5, none,.mv (.t 0)⟩,⟨some 6, none,.len (.t 5)⟩,⟨some 4, none,.asg (.t 6)⟩] [0,1,4] []
def z272r1:IC:=.reg [⟨some 7, none,.mv (.t 0)⟩,⟨some 8, none,.mv (.t 4)⟩,⟨some 9, none,.mv (.t 4)⟩,⟨some 10, none,.conv .u64 (.t 9)⟩,⟨some 11, none,.call zl66 [(.val,(.t 10))] true⟩,⟨some 12, none,.mv (.t 1)⟩,⟨some 13, none,.call zl285 [(.ld,(.t 7)),(.val,(.c (vi 0))),(.val,(.t 8)),(.val,(.t 11)),(.val,(.t 12))] false⟩] [0] []
def zi272:IFun:=⟨[],[0],(.seq z272r0 z272r1)⟩
def z274r0:IC:=.reg [⟨some 13, none,.mv (.t 2)⟩,⟨some 14, none,.mv (.t 1)⟩,⟨some 15, none,.bin .sub (.t 13) (.t 14)⟩,⟨some 8, none,.asg (.t 15)⟩] [0,1,8] []
def z274r1:IC:=.reg [⟨some 16, none,.mv (.t 8)⟩,⟨some 17, none,.bin .geq (.t 16) (.c (vi 8))⟩] [0,1,8,17] []
def z274r2:IC:=.reg [⟨some 18, none,.mv (.t 8)⟩,⟨some 19, none,.conv .u64 (.t 18)⟩,⟨some 9, none,.alloc [(.int .u64 (0))]⟩,⟨none,none,.store 1 (.t 9) (.t 19)⟩] [0,1,8,9] []
def z274r3:IC:=.reg [⟨some 20, none,.mv (.t 8)⟩,⟨some 21, none,.call zl91 [(.val,(.t 20))] true⟩,⟨some 10, none,.asg (.t 21)⟩] [0,1,8,9,10] []
def z274r4:IC:=.reg [⟨some 22, none,.mv (.t 1)⟩,⟨some 23, none,.mv (.t 8)⟩,⟨some 24, none,.bin .quo (.t 23) (.c (vi 4))⟩,⟨some 25, none,.bin .mul (.t 24) (.c (vi 2))⟩,⟨some 26, none,.bin .add (.t 22) (.t 25)⟩,⟨some 27, none,.bin .sub (.t 26) (.c (vi 1))⟩,⟨some 11, none,.asg (.t 27)⟩] [0,1,8,9,10,11] []
def z274r5:IC:=.reg [⟨some 28, none,.mv (.t 11)⟩,⟨some 29, none,.mv (.t 1)⟩,⟨some 30, none,.mv (.t 8)⟩,⟨some 31, none,.bin .quo (.t 30) (.c (vi 4))⟩,⟨some 32, none,.bin .mul (.t 31) (.c (vi 2))⟩,⟨some 33, none,.bin .add (.t 29) (.t 32)⟩,⟨some 34, none,.bin .add (.t 33) (.c (vi 1))⟩,⟨some 35, none,.bin .leq (.t 28) (.t 34)⟩] [0,1,8,9,10,11,35] []
def z274r6:IC:=.reg [⟨some 38, none,.call zl106 [(.val,(.t 9))] false⟩,⟨some 39, none,.mv (.t 10)⟩,⟨some 40, none,.bin .sub (.t 39) (.c (.int .u64 (1)))⟩,⟨some 41, none,.bin .and (.t 38) (.t 40)⟩,⟨some 42, none,.conv .i64 (.t 41)⟩,⟨some 12, none,.asg (.t 42)⟩] [0,1,8,9,10,11,12] []
def z274r7:IC:=.reg [⟨some 43, none,.mv (.t 12)⟩,⟨some 44, none,.mv (.t 8)⟩,⟨some 45, none,.bin .geq (.t 43) (.t 44)⟩] [0,1,8,9,10,11,12,45] []
def z274r8:IC:=.reg [⟨some 46, none,.mv (.t 12)⟩,⟨some 47, none,.mv (.t 8)⟩,⟨some 48, none,.bin .sub (.t 46) (.t 47)⟩,⟨some 12, none,.asg (.t 48)⟩] [0,1,8,9,10,11,12] []
def z274r9:IC:=.reg [⟨some 49, none,.mv (.t 0)⟩,⟨some 50, none,.mv (.t 11)⟩,⟨some 51, none,.mv (.t 0)⟩,⟨some 52, none,.mv (.t 1)⟩,⟨some 53, none,.mv (.t 12)⟩,⟨some 54, none,.bin .add (.t 52) (.t 53)⟩,⟨some 55, none,.mv (.t 0)⟩,⟨some 56, none,.mv (.t 1)⟩,⟨some 57, none,.mv (.t 12)⟩,⟨some 58, none,.bin .add (.t 56) (.t 57)⟩,⟨some 59, none,.iadr 2 (.t 55) (.t 58)⟩,⟨some 60, none,.load true 2 (.t 59)⟩,⟨some 61, none,.mv (.t 0)⟩,⟨some 62, none,.mv (.t 11)⟩,⟨some 63, none,.iadr 2 (.t 61) (.t 62)⟩,⟨some 64, none,.load true 2 (.t 63)⟩,⟨some 65, none,.iadr 2 (.t 49) (.t 50)⟩,⟨none,none,.store 2 (.t 65) (.t 60)⟩,⟨some 66, none,.iadr 2 (.t 51) (.t 54)⟩,⟨none,none,.store 2 (.t 66) (.t 64)⟩] [0,1,8,9,10,11] []
def z274r10:IC:=.reg [⟨some 36, none,.mv (.t 11)⟩,⟨some 37, none,.bin .add (.t 36) (.c (vi 1))⟩,⟨some 11, none,.asg (.t 37)⟩] [0,1,8,9,10,11] []
def z274l11:IC:=(.seq (.seq z274r5 (.cond (.t 35) .skip (.exit 0))) (.seq (.block 1 (.seq z274r6 (.seq (.seq z274r7 (.cond (.t 45) z274r8 .skip)) z274r9))) z274r10))
def zi274:IFun:=⟨[],[0],(.seq z274r0 (.seq z274r1 (.cond (.t 17) (.seq z274r2 (.seq z274r3 (.seq z274r4 (.block 0 (.loop z274l11))))) .skip)))⟩
def z450r0:IC:=.reg [⟨some 8, none,.asg (.c (vi 0))⟩,⟨some 9, none,.asg (.c (vi 0))⟩] [0,1,2,3] []
def z450r1:IC:=.reg [⟨some 15, none,.mv (.t 2)⟩,⟨some 16, none,.mv (.t 1)⟩,⟨some 17, none,.bin .sub (.t 15) (.t 16)⟩,⟨some 10, none,.asg (.t 17)⟩] [0,1,3,10] []
def z450r2:IC:=.reg [⟨some 11, none,.alloc [(vi 0)]⟩] [0,1,3,10,11] []
def z450r3:IC:=.reg [⟨some 18, none,.mv (.t 1)⟩,⟨some 19, none,.mv (.t 10)⟩,⟨some 20, none,.bin .quo (.t 19) (.c (vi 4))⟩,⟨some 21, none,.bin .mul (.t 20) (.c (vi 1))⟩,⟨some 22, none,.bin .add (.t 18) (.t 21)⟩,⟨some 12, none,.asg (.t 22)⟩] [0,1,3,10,11,12] []
def z450r4:IC:=.reg [⟨some 23, none,.mv (.t 1)⟩,⟨some 24, none,.mv (.t 10)⟩,⟨some 25, none,.bin .quo (.t 24) (.c (vi 4))⟩,⟨some 26, none,.bin .mul (.t 25) (.c (vi 2))⟩,⟨some 27, none,.bin .add (.t 23) (.t 26)⟩,⟨some 13, none,.asg (.t 27)⟩] [0,1,3,10,11,12,13] []
def z450r5:IC:=.reg [⟨some 28, none,.mv (.t 1)⟩,⟨some 29, none,.mv (.t 10)⟩,⟨some 30, none,.bin .quo (.t 29) (.c (vi 4))⟩,⟨some 31, none,.bin .mul (.t 30) (.c (vi 3))⟩,⟨some 32, none,.bin .add (.t 28) (.t 31)⟩,⟨some 14, none,.asg (.t 32)⟩] [0,3,10,11,12,13,14] []
def z450r6:IC:=.reg [⟨some 33, none,.mv (.t 10)⟩,⟨some 34, none,.bin .geq (.t 33) (.c (vi 8))⟩] [0,3,10,11,12,13,14,34] []
def z450r7:IC:=.reg [⟨some 35, none,.mv (.t 10)⟩,⟨some 36, none,.bin .geq (.t 35) (.c (vi 50))⟩] [0,3,11,12,13,14,36] []
def z450r8:IC:=.reg [⟨some 37, none,.mv (.t 0)⟩,⟨some 38, none,.mv (.t 12)⟩,⟨some 39, none,.mv (.t 3)⟩,⟨some 40, none,.call zl452 [(.ld,(.t 37)),(.val,(.t 38)),(.val,(.t 11)),(.val,(.t 39))] false⟩,⟨some 12, none,.asg (.t 40)⟩] [0,3,11,12,13,14] []
def z450r9:IC:=.reg [⟨some 41, none,.mv (.t 0)⟩,⟨some 42, none,.mv (.t 13)⟩,⟨some 43, none,.mv (.t 3)⟩,⟨some 44, none,.call zl452 [(.ld,(.t 41)),(.val,(.t 42)),(.val,(.t 11)),(.val,(.t 43))] false⟩,⟨some 13, none,.asg (.t 44)⟩] [0,3,11,12,13,14] []
def z450r10:IC:=.reg [⟨some 45, none,.mv (.t 0)⟩,⟨some 46, none,.mv (.t 14)⟩,⟨some 47, none,.mv (.t 3)⟩,⟨some 48, none,.call zl452 [(.ld,(.t 45)),(.val,(.t 46)),(.val,(.t 11)),(.val,(.t 47))] false⟩,⟨some 14, none,.asg (.t 48)⟩] [0,3,11,12,13,14] []
def z450r11:IC:=.reg [⟨some 49, none,.mv (.t 0)⟩,⟨some 50, none,.mv (.t 12)⟩,⟨some 51, none,.mv (.t 13)⟩,⟨some 52, none,.mv (.t 14)⟩,⟨some 53, none,.mv (.t 3)⟩,⟨some 54, none,.call zl454 [(.ld,(.t 49)),(.val,(.t 50)),(.val,(.t 51)),(.val,(.t 52)),(.val,(.t 11)),(.val,(.t 53))] false⟩,⟨some 13, none,.asg (.t 54)⟩] [0,11,13] []
def z450r12:IC:=.reg [⟨some 55, none,.load false 1 (.t 11)⟩] [0,13,55] []
def z450r13:IC:=.reg [⟨some 58, none,.bin .eql (.t 55) (.c (vi 0))⟩,⟨some 57, none,.asg (.t 58)⟩] [0,13,55,57] []
def z450r14:IC:=.reg [⟨some 59, none,.mv (.t 13)⟩,⟨some 8, none,.asgm (.t 59)⟩,⟨some 9, none,.asg (.c (vi 1))⟩] [0,8,9] []
def z450r15:IC:=.reg [⟨some 61, none,.bin .eql (.t 55) (.c (vi 12))⟩,⟨some 60, none,.asg (.t 61)⟩] [0,13,60] []
def z450r16:IC:=.reg [⟨some 62, none,.mv (.t 13)⟩,⟨some 8, none,.asgm (.t 62)⟩,⟨some 9, none,.asg (.c (vi 2))⟩] [0,8,9] []
def z450r17:IC:=.reg [⟨some 56, none,.mv (.t 13)⟩,⟨some 8, none,.asgm (.t 56)⟩,⟨some 9, none,.asg (.c (vi 0))⟩] [0,8,9] []
def zi450:IFun:=⟨[.t 8,.t 9],[0],(.seq z450r0 (.seq z450r1 (.seq z450r2 (.seq z450r3 (.seq z450r4 (.seq z450r5 (.seq (.seq z450r6 (.cond (.t 34) (.seq (.seq z450r7 (.cond (.t 36) (.seq z450r8 (.seq z450r9 z450r10)) .skip)) z450r11) .skip)) (.seq z450r12 (.block 0 (.seq z450r13 (.cond (.t 57) (.seq z450r14 .ret) (.seq z450r15 (.cond (.t 60) (.seq z450r16 .ret) (.seq z450r17 .ret))))))))))))))⟩
def z277r0:IC:=.reg [⟨some 10, none,.mv (.t 1)⟩,⟨some 11, none,.bin .add (.t 10) (.c (vi 1))⟩,⟨some 8, none,.asg (.t 11)⟩] [0,1,2,3,8] []
def z277r1:IC:=.reg [⟨some 12, none,.mv (.t 8)⟩,⟨some 13, none,.mv (.t 2)⟩,⟨some 14, none,.bin .lss (.t 12) (.t 13)⟩] [0,1,2,3,8,14] []
def z277r2:IC:=.reg [⟨some 17, none,.mv (.t 8)⟩,⟨some 9, none,.asg (.t 17)⟩] [0,1,2,3,8,9] []
def z277r3:IC:=.reg [⟨some 18, none,.mv (.t 9)⟩,⟨some 19, none,.mv (.t 1)⟩,⟨some 20, none,.bin .gtr (.t 18) (.t 19)⟩,⟨some 21, none,.asg (.t 20)⟩,⟨some 22, (some (21,true)),.mv (.t 3)⟩,⟨some 23, (some (21,true)),.mv (.t 0)⟩,⟨some 24, (some (21,true)),.mv (.t 9)⟩,⟨some 25, (some (21,true)),.iadr 2 (.t 23) (.t 24)⟩,⟨some 26, (some (21,true)),.load true 2 (.t 25)⟩,⟨some 27, (some (21,true)),.mv (.t 0)⟩,⟨some 28, (some (21,true)),.mv (.t 9)⟩,⟨some 29, (some (21,true)),.bin .sub (.t 28) (.c (vi 1))⟩,⟨some 30, (some (21,true)),.iadr 2 (.t 27) (.t 29)⟩,⟨some 31, (some (21,true)),.load true 2 (.t 30)⟩,⟨some 32, (some (21,true)),.callv (.t 22) [(.val,(.t 26)),(.val,(.t 31))]⟩,⟨some 33, (some (21,true)),.bin .lss (.t 32) (.c (vi 0))⟩,⟨some 34, none,.pick (.t 21) (.t 33) (.c (.bool false))⟩] [0,1,2,3,8,9,34] []
def z277r4:IC:=.reg [⟨some 37, none,.mv (.t 0)⟩,⟨some 38, none,.mv (.t 9)⟩,⟨some 39, none,.mv (.t 0)⟩,⟨some 40, none,.mv (.t 9)⟩,⟨some 41, none,.bin .sub (.t 40) (.c (vi 1))⟩,⟨some 42, none,.mv (.t 0)⟩,⟨some 43, none,.mv (.t 9)⟩,⟨some 44, none,.bin .sub (.t 43) (.c (vi 1))⟩,⟨some 45, none,.iadr 2 (.t 42) (.t 44)⟩,⟨some 46, none,.load true 2 (.t 45)⟩,⟨some 47, none,.mv (.t 0)⟩,⟨some 48, none,.mv (.t 9)⟩,⟨some 49, none,.iadr 2 (.t 47) (.t 48)⟩,⟨some 50, none,.load true 2 (.t 49)⟩,⟨some 51, none,.iadr 2 (.t 37) (.t 38)⟩,⟨none,none,.store 2 (.t 51) (.t 46)⟩,⟨some 52, none,.iadr 2 (.t 39) (.t 41)⟩,⟨none,none,.store 2 (.t 52) (.t 50)⟩] [0,1,2,3,8,9] []
def z277r5:IC:=.reg [⟨some 35, none,.mv (.t 9)⟩,⟨some 36, none,.bin .sub (.t 35) (.c (vi 1))⟩,⟨some 9, none,.asg (.t 36)⟩] [0,1,2,3,8,9] []
def z277l6:IC:=(.seq (.seq z277r3 (.cond (.t 34) .skip (.exit 2))) (.seq (.block 3 z277r4) z277r5))
def z277r7:IC:=.reg [⟨some 15, none,.mv (.t 8)⟩,⟨some 16, none,.bin .add (.t 15) (.c (vi 1))⟩,⟨some 8, none,.asg (.t 16)⟩] [0,1,2,3,8] []
def z277l8:IC:=(.seq (.seq z277r1 (.cond (.t 14) .skip (.exit 0))) (.seq (.block 1 (.seq z277r2 (.block 2 (.loop z277l6)))) z277r7))
def zi277:IFun:=⟨[],[0],(.seq z277r0 (.block 0 (.loop z277l8)))⟩
def z454r0:IC:=.reg [⟨some 12, none,.asg (.c (vi 0))⟩] [0,1,2,3,4,5] []
def z454r1:IC:=.reg [⟨some 14, none,.mv (.t 0)⟩,⟨some 15, none,.mv (.t 1)⟩,⟨some 16, none,.mv (.t 2)⟩,⟨some 17, none,.mv (.t 4)⟩,⟨some 18, none,.mv (.t 5)⟩,⟨some 19, none,.call zl456 [(.ld,(.t 14)),(.val,(.t 15)),(.val,(.t 16)),(.val,(.t 17)),(.val,(.t 18))] false⟩,⟨some 13, none,.asg (.t 19)⟩,⟨some 20, none,.extr (.t 13) 0⟩,⟨some 21, none,.extr (.t 13) 1⟩,⟨some 1, none,.asg (.t 20)⟩,⟨some 2, none,.asg (.t 21)⟩] [0,1,2,3,4,5] []
def z454r2:IC:=.reg [⟨some 23, none,.mv (.t 0)⟩,⟨some 24, none,.mv (.t 2)⟩,⟨some 25, none,.mv (.t 3)⟩,⟨some 26, none,.mv (.t 4)⟩,⟨some 27, none,.mv (.t 5)⟩,⟨some 28, none,.call zl456 [(.ld,(.t 23)),(.val,(.t 24)),(.val,(.t 25)),(.val,(.t 26)),(.val,(.t 27))] false⟩,⟨some 22, none,.asg (.t 28)⟩,⟨some 29, none,.extr (.t 22) 0⟩,⟨some 30, none,.extr (.t 22) 1⟩,⟨some 2, none,.asg (.t 29)⟩,⟨some 3, none,.asg (.t 30)⟩] [0,1,2,4,5] []
def z454r3:IC:=.reg [⟨some 32, none,.mv (.t 0)⟩,⟨some 33, none,.mv (.t 1)⟩,⟨some 34, none,.mv (.t 2)⟩,⟨some 35, none,.mv (.t 4)⟩,⟨some 36, none,.mv (.t 5)⟩,⟨some 37, none,.call zl456 [(.ld,(.t 32)),(.val,(.t 33)),(.val,(.t 34)),(.val,(.t 35)),(.val,(.t 36))] false⟩,⟨some 31, none,.asg (.t 37)⟩,⟨some 38, none,.extr (.t 31) 0⟩,⟨some 39, none,.extr (.t 31) 1⟩,⟨some 1, none,.asg (.t 38)⟩,⟨some 2, none,.asg (.t 39)⟩] [0,2] []
def z454r4:IC:=.reg [⟨some 40, none,.mv (.t 2)⟩,⟨some 12, none,.asgm (.t 40)⟩] [0,12] []
def zi454:IFun:=⟨[.t 12],[0],(.seq z454r0 (.seq z454r1 (.seq z454r2 (.seq z454r3 (.seq z454r4 .ret)))))⟩
def z91r0:IC:=.reg [⟨some 2, none,.asg (.c (.int .u64 (0)))⟩] [0] []
def z91r1:IC:=.reg [⟨some 3, none,.mv (.t 0)⟩,⟨some 4, none,.conv .u64 (.t 3)⟩,⟨some 5, none,.call zl66 [(.val,(.t 4))] true⟩,⟨some 6, none,.bin .shl (.c (.int .u64 (1))) (.t 5)⟩,⟨some 2, none,.asg (.t 6)⟩] [2] []
def zi91:IFun:=⟨[.t 2],[],(.seq z91r0 (.seq z91r1 .ret))⟩
def z456r0:IC:=.reg [⟨some 10, none,.asg (.c (vi 0))⟩,⟨some 11, none,.asg (.c (vi 0))⟩] [0,1,2,3,4] []
def z456r1:IC:=.reg [⟨some 12, none,.mv (.t 4)⟩,⟨some 13, none,.mv (.t 0)⟩,⟨some 14, none,.mv (.t 2)⟩,⟨some 15, none,.iadr 2 (.t 13) (.t 14)⟩,⟨some 16, none,.load true 2 (.t 15)⟩,⟨some 17, none,.mv (.t 0)⟩,⟨some 18, none,.mv (.t 1)⟩,⟨some 19, none,.iadr 2 (.t 17) (.t 18)⟩,⟨some 20, none,.load true 2 (.t 19)⟩,⟨some 21, none,.callv (.t 12) [(.val,(.t 16)),(.val,(.t 20))]⟩,⟨some 22, none,.bin .lss (.t 21) (.c (vi 0))⟩] [0,1,2,3,22] []
def z456r2:IC:=.reg [⟨some 23, none,.mv (.t 3)⟩,⟨some 24, none,.nilck (.t 23)⟩,⟨some 25, none,.load false 1 (.t 24)⟩,⟨some 26, none,.bin .add (.t 25) (.c (vi 1))⟩,⟨some 27, none,.nilck (.t 23)⟩,⟨none,none,.store 1 (.t 27) (.t 26)⟩] [0,1,2] []
def z456r3:IC:=.reg [⟨some 28, none,.mv (.t 2)⟩,⟨some 29, none,.mv (.t 1)⟩,⟨some 10, none,.asgm (.t 28)⟩,⟨some 11, none,.asgm (.t 29)⟩] [0,10,11] []
def z456r4:IC:=.reg [⟨some 30, none,.mv (.t 1)⟩,⟨some 31, none,.mv (.t 2)⟩,⟨some 10, none,.asgm (.t 30)⟩,⟨some 11, none,.asgm (.t 31)⟩] [0,10,11] []
def zi456:IFun:=⟨[.t 10,.t 11],[0],(.seq z456r0 (.seq (.seq z456r1 (.cond (.t 22) (.seq z456r2 (.seq z456r3 .ret)) .skip)) (.seq z456r4 .ret)))⟩
def z282r0:IC:=.reg [⟨some 8, none,.asg (.c (.bool false))⟩] [0,1,2,3] []
def z282r1:IC:=.reg [⟨some 13, none,.mv (.t 1)⟩,⟨some 14, none,.bin .add (.t 13) (.c (vi 1))⟩,⟨some 9, none,.asg (.t 14)⟩] [0,1,2,3,9] []
def z282r2:IC:=.reg [⟨some 10, none,.asg (.c (vi 0))⟩] [0,1,2,3,9,10] []
def z282r3:IC:=.reg [⟨some 15, none,.mv (.t 10)⟩,⟨some 16, none,.bin .lss (.t 15) (.c (vi 5))⟩] [0,1,2,3,9,10,16] []
def z282r4:IC:=.reg [⟨some 19, none,.mv (.t 9)⟩,⟨some 20, none,.mv (.t 2)⟩,⟨some 21, none,.bin .lss (.t 19) (.t 20)⟩,⟨some 22, none,.asg (.t 21)⟩,⟨some 23, (some (22,true)),.mv (.t 3)⟩,⟨some 24, (some (22,true)),.mv (.t 0)⟩,⟨some 25, (some (22,true)),.mv (.t 9)⟩,⟨some 26, (some (22,true)),.iadr 2 (.t 24) (.t 25)⟩,⟨some 27, (some (22,true)),.load true 2 (.t 26)⟩,⟨some 28, (some (22,true)),.mv (.t 0)⟩,⟨some 29, (some (22,true)),.mv (.t 9)⟩,⟨some 30, (some (22,true)),.bin .sub (.t 29) (.c (vi 1))⟩,⟨some 31, (some (22,true)),.iadr 2 (.t 28) (.t 30)⟩,⟨some 32, (some (22,true)),.load true 2 (.t 31)⟩,⟨some 33, (some (22,true)),.callv (.t 23) [(.val,(.t 27)),(.val,(.t 32))]⟩,⟨some 34, (some (22,true)),.bin .lss (.t 33) (.c (vi 0))⟩,⟨some 35, (some (22,true)),.unop .not (.t 34)⟩,⟨some 36, none,.pick (.t 22) (.t 35) (.c (.bool false))⟩] [0,1,2,3,9,10,36] []
def z282r5:IC:=.reg [⟨some 37, none,.mv (.t 9)⟩,⟨some 38, none,.bin .add (.t 37) (.c (vi 1))⟩,⟨some 9, none,.asg (.t 38)⟩] [0,1,2,3,9,10] []
def z282l6:IC:=(.seq (.seq z282r4 (.cond (.t 36) .skip (.exit 2))) (.block 3 z282r5))
def z282r7:IC:=.reg [⟨some 39, none,.mv (.t 9)⟩,⟨some 40, none,.mv (.t 2)⟩,⟨some 41, none,.bin .eql (.t 39) (.t 40)⟩] [0,1,2,3,9,10,41] []
def z282r8:IC:=.reg [⟨some 8, none,.asg (.c (.bool true))⟩] [0,8] []
def z282r9:IC:=.reg [⟨some 42, none,.mv (.t 2)⟩,⟨some 43, none,.mv (.t 1)⟩,⟨some 44, none,.bin .sub (.t 42) (.t 43)⟩,⟨some 45, none,.bin .lss (.t 44) (.c (vi 50))⟩] [0,1,2,3,9,10,45] []
def z282r10:IC:=.reg [⟨some 8, none,.asg (.c (.bool false))⟩] [0,8] []
def z282r11:IC:=.reg [⟨some 46, none,.mv (.t 0)⟩,⟨some 47, none,.mv (.t 9)⟩,⟨some 48, none,.mv (.t 0)⟩,⟨some 49, none,.mv (.t 9)⟩,⟨some 50, none,.bin .sub (.t 49) (.c (vi 1))⟩,⟨some 51, none,.mv (.t 0)⟩,⟨some 52, none,.mv (.t 9)⟩,⟨some 53, none,.bin .sub (.t 52) (.c (vi 1))⟩,⟨some 54, none,.iadr 2 (.t 51) (.t 53)⟩,⟨some 55, none,.load true 2 (.t 54)⟩,⟨some 56, none,.mv (.t 0)⟩,⟨some 57, none,.mv (.t 9)⟩,⟨some 58, none,.iadr 2 (.t 56) (.t 57)⟩,⟨some 59, none,.load true 2 (.t 58)⟩,⟨some 60, none,.iadr 2 (.t 46) (.t 47)⟩,⟨none,none,.store 2 (.t 60) (.t 55)⟩,⟨some 61, none,.iadr 2 (.t 48) (.t 50)⟩,⟨none,none,.store 2 (.t 61) (.t 59)⟩] [0,1,2,3,9,10] []
def z282r12:IC:=.reg [⟨some 62, none,.mv (.t 9)⟩,⟨some 63, none,.mv (.t 1)⟩,⟨some 64, none,.bin .sub (.t 62) (.t 63)⟩,⟨some 65, none,.bin .geq (.t 64) (.c (vi 2))⟩] [0,1,2,3,9,10,65] []
def z282r13:IC:=.reg [⟨some 66, none,.mv (.t 9)⟩,⟨some 67, none,.bin .sub (.t 66) (.c (vi 1))⟩,⟨some 11, none,.asg (.t 67)⟩] [0,1,2,3,9,10,11] []
def z282r14:IC:=.reg [⟨some 68, none,.mv (.t 11)⟩,⟨some 69, none,.bin .geq (.t 68) (.c (vi 1))⟩] [0,1,2,3,9,10,11,69] []
def z282r15:IC:=.reg [⟨some 72, none,.mv (.t 3)⟩,⟨some 73, none,.mv (.t 0)⟩,⟨some 74, none,.mv (.t 11)⟩,⟨some 75, none,.iadr 2 (.t 73) (.t 74)⟩,⟨some 76, none,.load true 2 (.t 75)⟩,⟨some 77, none,.mv (.t 0)⟩,⟨some 78, none,.mv (.t 11)⟩,⟨some 79, none,.bin .sub (.t 78) (.c (vi 1))⟩,⟨some 80, none,.iadr 2 (.t 77) (.t 79)⟩,⟨some 81, none,.load true 2 (.t 80)⟩,⟨some 82, none,.callv (.t 72) [(.val,(.t 76)),(.val,(.t 81))]⟩,⟨some 83, none,.bin .lss (.t 82) (.c (vi 0))⟩,⟨some 84, none,.unop .not (.t 83)⟩] [0,1,2,3,9,10,11,84] []
def z282r16:IC:=.reg [⟨some 85, none,.mv (.t 0)⟩,⟨some 86, none,.mv (.t 11)⟩,⟨some 87, none,.mv (.t 0)⟩,⟨some 88, none,.mv (.t 11)⟩,⟨some 89, none,.bin .sub (.t 88) (.c (vi 1))⟩,⟨some 90, none,.mv (.t 0)⟩,⟨some 91, none,.mv (.t 11)⟩,⟨some 92, none,.bin .sub (.t 91) (.c (vi 1))⟩,⟨some 93, none,.iadr 2 (.t 90) (.t 92)⟩,⟨some 94, none,.load true 2 (.t 93)⟩,⟨some 95, none,.mv (.t 0)⟩,⟨some 96, none,.mv (.t 11)⟩,⟨some 97, none,.iadr 2 (.t 95) (.t 96)⟩,⟨some 98, none,.load true 2 (.t 97)⟩,⟨some 99, none,.iadr 2 (.t 85) (.t 86)⟩,⟨none,none,.store 2 (.t 99) (.t 94)⟩,⟨some 100, none,.iadr 2 (.t 87) (.t 89)⟩,⟨none,none,.store 2 (.t 100) (.t 98)⟩] [0,1,2,3,9,10,11] []
def z282r17:IC:=.reg [⟨some 70, none,.mv (.t 11)⟩,⟨some 71, none,.bin .sub (.t 70) (.c (vi 1))⟩,⟨some 11, none,.asg (.t 71)⟩] [0,1,2,3,9,10,11] []
def z282l18:IC:=(.seq (.seq z282r14 (.cond (.t 69) .skip (.exit 4))) (.seq (.block 5 (.seq (.seq z282r15 (.cond (.t 84) (.exit 4) .skip)) z282r16)) z282r17))
def z282r19:IC:=.reg [⟨some 101, none,.mv (.t 2)⟩,⟨some 102, none,.mv (.t 9)⟩,⟨some 103, none,.bin .sub (.t 101) (.t 102)⟩,⟨some 104, none,.bin .geq (.t 103) (.c (vi 2))⟩] [0,1,2,3,9,10,104] []
def z282r20:IC:=.reg [⟨some 105, none,.mv (.t 9)⟩,⟨some 106, none,.bin .add (.t 105) (.c (vi 1))⟩,⟨some 12, none,.asg (.t 106)⟩] [0,1,2,3,9,10,12] []
def z282r21:IC:=.reg [⟨some 107, none,.mv (.t 12)⟩,⟨some 108, none,.mv (.t 2)⟩,⟨some 109, none,.bin .lss (.t 107) (.t 108)⟩] [0,1,2,3,9,10,12,109] []
def z282r22:IC:=.reg [⟨some 112, none,.mv (.t 3)⟩,⟨some 113, none,.mv (.t 0)⟩,⟨some 114, none,.mv (.t 12)⟩,⟨some 115, none,.iadr 2 (.t 113) (.t 114)⟩,⟨some 116, none,.load true 2 (.t 115)⟩,⟨some 117, none,.mv (.t 0)⟩,⟨some 118, none,.mv (.t 12)⟩,⟨some 119, none,.bin .sub (.t 118) (.c (vi 1))⟩,⟨some 120, none,.iadr 2 (.t 117) (.t 119)⟩,⟨some 121, none,.load true 2 (.t 120)⟩,⟨some 122, none,.callv (.t 112) [(.val,(.t 116)),(.val,(.t 121))]⟩,⟨some 123, none,.bin .lss (.t 122) (.c (vi 0))⟩,⟨some 124, none,.unop .not (.t 123)⟩] [0,1,2,3,9,10,12,124] []
def z282r23:IC:=.reg [⟨some 125, none,.mv (.t 0)⟩,⟨some 126, none,.mv (.t 12)⟩,⟨some 127, none,.mv (.t 0)⟩,⟨some 128, none,.mv (.t 12)⟩,⟨some 129, none,.bin .sub (.t 128) (.c (vi 1))⟩,⟨some 130, none,.mv (.t 0)⟩,⟨some 131, none,.mv (.t 12)⟩,⟨some 132, none,.bin .sub (.t 131) (.c (vi 1))⟩,⟨some 133, none,.iadr 2 (.t 130) (.t 132)⟩,⟨some 134, none,.load true 2 (.t 133)⟩,⟨some 135, none,.mv (.t 0)⟩,⟨some 136, none,.mv (.t 12)⟩,⟨some 137, none,.iadr 2 (.t 135) (.t 136)⟩,⟨some 138, none,.load true 2 (.t 137)⟩,⟨some 139, none,.iadr 2 (.t 125) (.t 126)⟩,⟨none,none,.store 2 (.t 139) (.t 134)⟩,⟨some 140, none,.iadr 2 (.t 127) (.t 129)⟩,⟨none,none,.store 2 (.t 140) (.t 138)⟩] [0,1,2,3,9,10,12] []
def z282r24:IC:=.reg [⟨some 110, none,.mv (.t 12)⟩,⟨some 111, none,.bin .add (.t 110) (.c (vi 1))⟩,⟨some 12, none,.asg (.t 111)⟩] [0,1,2,3,9,10,12] []
def z282l25:IC:=(.seq (.seq z282r21 (.cond (.t 109) .skip (.exit 6))) (.seq (.block 7 (.seq (.seq z282r22 (.cond (.t 124) (.exit 6) .skip)) z282r23)) z282r24))
def z282r26:IC:=.reg [⟨some 17, none,.mv (.t 10)⟩,⟨some 18, none,.bin .add (.t 17) (.c (vi 1))⟩,⟨some 10, none,.asg (.t 18)⟩] [0,1,2,3,9,10] []
def z282l27:IC:=(.seq (.seq z282r3 (.cond (.t 16) .skip (.exit 0))) (.seq (.block 1 (.seq (.block 2 (.loop z282l6)) (.seq (.seq z282r7 (.cond (.t 41) (.seq z282r8 .ret) .skip)) (.seq (.seq z282r9 (.cond (.t 45) (.seq z282r10 .ret) .skip)) (.seq z282r11 (.seq (.seq z282r12 (.cond (.t 65) (.seq z282r13 (.block 4 (.loop z282l18))) .skip)) (.seq z282r19 (.cond (.t 104) (.seq z282r20 (.block 6 (.loop z282l25))) .skip)))))))) z282r26))
def z282r28:IC:=.reg [⟨some 8, none,.asg (.c (.bool false))⟩] [0,8] []
def zi282:IFun:=⟨[.t 8],[0],(.seq z282r0 (.seq z282r1 (.seq (.seq z282r2 (.block 0 (.loop z282l27))) (.seq z282r28 .ret))))⟩
def z283r0:IC:=.reg [⟨some 10, none,.asg (.c (vi 0))⟩,⟨some 11, none,.asg (.c (.bool false))⟩] [0,1,2,3,4] []
def z283r1:IC:=.reg [⟨some 14, none,.mv (.t 0)⟩,⟨some 15, none,.mv (.t 1)⟩,⟨some 16, none,.mv (.t 0)⟩,⟨some 17, none,.mv (.t 3)⟩,⟨some 18, none,.mv (.t 0)⟩,⟨some 19, none,.mv (.t 3)⟩,⟨some 20, none,.iadr 2 (.t 18) (.t 19)⟩,⟨some 21, none,.load true 2 (.t 20)⟩,⟨some 22, none,.mv (.t 0)⟩,⟨some 23, none,.mv (.t 1)⟩,⟨some 24, none,.iadr 2 (.t 22) (.t 23)⟩,⟨some 25, none,.load true 2 (.t 24)⟩,⟨some 26, none,.iadr 2 (.t 14) (.t 15)⟩,⟨none,none,.store 2 (.t 26) (.t 21)⟩,⟨some 27, none,.iadr 2 (.t 16) (.t 17)⟩,⟨none,none,.store 2 (.t 27) (.t 25)⟩] [0,1,2,4] []
def z283r2:IC:=.reg [⟨some 28, none,.mv (.t 1)⟩,⟨some 29, none,.bin .add (.t 28) (.c (vi 1))⟩,⟨some 30, none,.mv (.t 2)⟩,⟨some 31, none,.bin .sub (.t 30) (.c (vi 1))⟩,⟨some 12, none,.asg (.t 29)⟩,⟨some 13, none,.asg (.t 31)⟩] [0,1,4,12,13] []
def z283r3:IC:=.reg [⟨some 32, none,.mv (.t 12)⟩,⟨some 33, none,.mv (.t 13)⟩,⟨some 34, none,.bin .leq (.t 32) (.t 33)⟩,⟨some 35, none,.asg (.t 34)⟩,⟨some 36, (some (35,true)),.mv (.t 4)⟩,⟨some 37, (some (35,true)),.mv (.t 0)⟩,⟨some 38, (some (35,true)),.mv (.t 12)⟩,⟨some 39, (some (35,true)),.iadr 2 (.t 37) (.t 38)⟩,⟨some 40, (some (35,true)),.load true 2 (.t 39)⟩,⟨some 41, (some (35,true)),.mv (.t 0)⟩,⟨some 42, (some (35,true)),.mv (.t 1)⟩,⟨some 43, (some (35,true)),.iadr 2 (.t 41) (.t 42)⟩,⟨some 44, (some (35,true)),.load true 2 (.t 43)⟩,⟨some 45, (some (35,true)),.callv (.t 36) [(.val,(.t 40)),(.val,(.t 44))]⟩,⟨some 46, (some (35,true)),.bin .lss (.t 45) (.c (vi 0))⟩,⟨some 47, none,.pick (.t 35) (.t 46) (.c (.bool false))⟩] [0,1,4,12,13,47] []
def z283r4:IC:=.reg [⟨some 48, none,.mv (.t 12)⟩,⟨some 49, none,.bin .add (.t 48) (.c (vi 1))⟩,⟨some 12, none,.asg (.t 49)⟩] [0,1,4,12,13] []
def z283l5:IC:=(.seq (.seq z283r3 (.cond (.t 47) .skip (.exit 0))) (.block 1 z283r4))
def z283r6:IC:=.reg [⟨some 50, none,.mv (.t 12)⟩,⟨some 51, none,.mv (.t 13)⟩,⟨some 52, none,.bin .leq (.t 50) (.t 51)⟩,⟨some 53, none,.asg (.t 52)⟩,⟨some 54, (some (53,true)),.mv (.t 4)⟩,⟨some 55, (some (53,true)),.mv (.t 0)⟩,⟨some 56, (some (53,true)),.mv (.t 13)⟩,⟨some 57, (some (53,true)),.iadr 2 (.t 55) (.t 56)⟩,⟨some 58, (some (53,true)),.load true 2 (.t 57)⟩,⟨some 59, (some (53,true)),.mv (.t 0)⟩,⟨some 60, (some (53,true)),.mv (.t 1)⟩,⟨some 61, (some (53,true)),.iadr 2 (.t 59) (.t 60)⟩,⟨some 62, (some (53,true)),.load true 2 (.t 61)⟩,⟨some 63, (some (53,true)),.callv (.t 54) [(.val,(.t 58)),(.val,(.t 62))]⟩,⟨some 64, (some (53,true)),.bin .lss (.t 63) (.c (vi 0))⟩,⟨some 65, (some (53,true)),.unop .not (.t 64)⟩,⟨some 66, none,.pick (.t 53) (.t 65) (.c (.bool false))⟩] [0,1,4,12,13,66] []
def z283r7:IC:=.reg [⟨some 67, none,.mv (.t 13)⟩,⟨some 68, none,.bin .sub (.t 67) (.c (vi 1))⟩,⟨some 13, none,.asg (.t 68)⟩] [0,1,4,12,13] []
def z283l8:IC:=(.seq (.seq z283r6 (.cond (.t 66) .skip (.exit 2))) (.block 3 z283r7))
def z283r9:IC:=.reg [⟨some 69, none,.mv (.t 12)⟩,⟨some 70, none,.mv (.t 13)⟩,⟨some 71, none,.bin .gtr (.t 69) (.t 70)⟩] [0,1,4,12,13,71] []
def z283r10:IC:=.reg [⟨some 72, none,.mv (.t 0)⟩,⟨some 73, none,.mv (.t 13)⟩,⟨some 74, none,.mv (.t 0)⟩,⟨some 75, none,.mv (.t 1)⟩,⟨some 76, none,.mv (.t 0)⟩,⟨some 77, none,.mv (.t 1)⟩,⟨some 78, none,.iadr 2 (.t 76) (.t 77)⟩,⟨some 79, none,.load true 2 (.t 78)⟩,⟨some 80, none,.mv (.t 0)⟩,⟨some 81, none,.mv (.t 13)⟩,⟨some 82, none,.iadr 2 (.t 80) (.t 81)⟩,⟨some 83, none,.load true 2 (.t 82)⟩,⟨some 84, none,.iadr 2 (.t 72) (.t 73)⟩,⟨none,none,.store 2 (.t 84) (.t 79)⟩,⟨some 85, none,.iadr 2 (.t 74) (.t 75)⟩,⟨none,none,.store 2 (.t 85) (.t 83)⟩] [0,13] []
def z283r11:IC:=.reg [⟨some 86, none,.mv (.t 13)⟩,⟨some 10, none,.asgm (.t 86)⟩,⟨some 11, none,.asg (.c (.bool true))⟩] [0,10,11] []
def z283r12:IC:=.reg [⟨some 87, none,.mv (.t 0)⟩,⟨some 88, none,.mv (.t 12)⟩,⟨some 89, none,.mv (.t 0)⟩,⟨some 90, none,.mv (.t 13)⟩,⟨some 91, none,.mv (.t 0)⟩,⟨some 92, none,.mv (.t 13)⟩,⟨some 93, none,.iadr 2 (.t 91) (.t 92)⟩,⟨some 94, none,.load true 2 (.t 93)⟩,⟨some 95, none,.mv (.t 0)⟩,⟨some 96, none,.mv (.t 12)⟩,⟨some 97, none,.iadr 2 (.t 95) (.t 96)⟩,⟨some 98, none,.load true 2 (.t 97)⟩,⟨some 99, none,.iadr 2 (.t 87) (.t 88)⟩,⟨none,none,.store 2 (.t 99) (.t 94)⟩,⟨some 100, none,.iadr 2 (.t 89) (.t 90)⟩,⟨none,none,.store 2 (.t 100) (.t 98)⟩] [0,1,4,12,13] []
def z283r13:IC:=.reg [⟨some 101, none,.mv (.t 12)⟩,⟨some 102, none,.bin .add (.t 101) (.c (vi 1))⟩,⟨some 12, none,.asg (.t 102)⟩] [0,1,4,12,13] []
def z283r14:IC:=.reg [⟨some 103, none,.mv (.t 13)⟩,⟨some 104, none,.bin .sub (.t 103) (.c (vi 1))⟩,⟨some 13, none,.asg (.t 104)⟩] [0,1,4,12,13] []
def z283r15:IC:=.reg [⟨some 105, none,.mv (.t 12)⟩,⟨some 106, none,.mv (.t 13)⟩,⟨some 107, none,.bin .leq (.t 105) (.t 106)⟩,⟨some 108, none,.asg (.t 107)⟩,⟨some 109, (some (108,true)),.mv (.t 4)⟩,⟨some 110, (some (108,true)),.mv (.t 0)⟩,⟨some 111, (some (108,true)),.mv (.t 12)⟩,⟨some 112, (some (108,true)),.iadr 2 (.t 110) (.t 111)⟩,⟨some 113, (some (108,true)),.load true 2 (.t 112)⟩,⟨some 114, (some (108,true)),.mv (.t 0)⟩,⟨some 115, (some (108,true)),.mv (.t 1)⟩,⟨some 116, (some (108,true)),.iadr 2 (.t 114) (.t 115)⟩,⟨some 117, (some (108,true)),.load true 2 (.t 116)⟩,⟨some 118, (some (108,true)),.callv (.t 109) [(.val,(.t 113)),(.val,(.t 117))]⟩,⟨some 119, (some (108,true)),.bin .lss (.t 118) (.c (vi 0))⟩,⟨some 120, none,.pick (.t 108) (.t 119) (.c (.bool false))⟩] [0,1,4,12,13,120] []
def z283r16:IC:=.reg [⟨some 121, none,.mv (.t 12)⟩,⟨some 122, none,.bin .add (.t 121) (.c (vi 1))⟩,⟨some 12, none,.asg (.t 122)⟩] [0,1,4,12,13] []
def z283l17:IC:=(.seq (.seq z283r15 (.cond (.t 120) .skip (.exit 6))) (.block 7 z283r16))
def z283r18:IC:=.reg [⟨some 123, none,.mv (.t 12)⟩,⟨some 124, none,.mv (.t 13)⟩,⟨some 125, none,.bin .leq (.t 123) (.t 124)⟩,⟨some 126, none,.asg (.t 125)⟩,⟨some 127, (some (126,true)),.mv (.t 4)⟩,⟨some 128, (some (126,true)),.mv (.t 0)⟩,⟨some 129, (some (126,true)),.mv (.t 13)⟩,⟨some 130, (some (126,true)),.iadr 2 (.t 128) (.t 129)⟩,⟨some 131, (some (126,true)),.load true 2 (.t 130)⟩,⟨some 132, (some (126,true)),.mv (.t 0)⟩,⟨some 133, (some (126,true)),.mv (.t 1)⟩,⟨some 134, (some (126,true)),.iadr 2 (.t 132) (.t 133)⟩,⟨some 135, (some (126,true)),.load true 2 (.t 134)⟩,⟨some 136, (some (126,true)),.callv (.t 127) [(.val,(.t 131)),(.val,(.t 135))]⟩,⟨some 137, (some (126,true)),.bin .lss (.t 136) (.c (vi 0))⟩,⟨some 138, (some (126,true)),.unop .not (.t 137)⟩,⟨some 139, none,.pick (.t 126) (.t 138) (.c (.bool false))⟩] [0,1,4,12,13,139] []
def z283r19:IC:=.reg [⟨some 140, none,.mv (.t 13)⟩,⟨some 141, none,.bin .sub (.t 140) (.c (vi 1))⟩,⟨some 13, none,.asg (.t 141)⟩] [0,1,4,12,13] []
def z283l20:IC:=(.seq (.seq z283r18 (.cond (.t 139) .skip (.exit 8))) (.block 9 z283r19))
def z283r21:IC:=.reg [⟨some 142, none,.mv (.t 12)⟩,⟨some 143, none,.mv (.t 13)⟩,⟨some 144, none,.bin .gtr (.t 142) (.t 143)⟩] [0,1,4,12,13,144] []
def z283r22:IC:=.reg [⟨some 145, none,.mv (.t 0)⟩,⟨some 146, none,.mv (.t 12)⟩,⟨some 147, none,.mv (.t 0)⟩,⟨some 148, none,.mv (.t 13)⟩,⟨some 149, none,.mv (.t 0)⟩,⟨some 150, none,.mv (.t 13)⟩,⟨some 151, none,.iadr 2 (.t 149) (.t 150)⟩,⟨some 152, none,.load true 2 (.t 151)⟩,⟨some 153, none,.mv (.t 0)⟩,⟨some 154, none,.mv (.t 12)⟩,⟨some 155, none,.iadr 2 (.t 153) (.t 154)⟩,⟨some 156, none,.load true 2 (.t 155)⟩,⟨some 157, none,.iadr 2 (.t 145) (.t 146)⟩,⟨none,none,.store 2 (.t 157) (.t 152)⟩,⟨some 158, none,.iadr 2 (.t 147) (.t 148)⟩,⟨none,none,.store 2 (.t 158) (.t 156)⟩] [0,1,4,12,13] []
def z283r23:IC:=.reg [⟨some 159, none,.mv (.t 12)⟩,⟨some 160, none,.bin .add (.t 159) (.c (vi 1))⟩,⟨some 12, none,.asg (.t 160)⟩] [0,1,4,12,13] []
def z283r24:IC:=.reg [⟨some 161, none,.mv (.t 13)⟩,⟨some 162, none,.bin .sub (.t 161) (.c (vi 1))⟩,⟨some 13, none,.asg (.t 162)⟩] [0,1,4,12,13] []
def z283l25:IC:=(.block 5 (.seq (.block 6 (.loop z283l17)) (.seq (.block 8 (.loop z283l20)) (.seq (.seq z283r21 (.cond (.t 144) (.exit 4) .skip)) (.seq z283r22 (.seq z283r23 z283r24))))))
def z283r26:IC:=.reg [⟨some 163, none,.mv (.t 0)⟩,⟨some 164, none,.mv (.t 13)⟩,⟨some 165, none,.mv (.t 0)⟩,⟨some 166, none,.mv (.t 1)⟩,⟨some 167, none,.mv (.t 0)⟩,⟨some 168, none,.mv (.t 1)⟩,⟨some 169, none,.iadr 2 (.t 167) (.t 168)⟩,⟨some 170, none,.load true 2 (.t 169)⟩,⟨some 171, none,.mv (.t 0)⟩,⟨some 172, none,.mv (.t 13)⟩,⟨some 173, none,.iadr 2 (.t 171) (.t 172)⟩,⟨some 174, none,.load true 2 (.t 173)⟩,⟨some 175, none,.iadr 2 (.t 163) (.t 164)⟩,⟨none,none,.store 2 (.t 175) (.t 170)⟩,⟨some 176, none,.iadr 2 (.t 165) (.t 166)⟩,⟨none,none,.store 2 (.t 176) (.t 174)⟩] [0,13] []
def z283r27:IC:=.reg [⟨some 177, none,.mv (.t 13)⟩,⟨some 10, none,.asgm (.t 177)⟩,⟨some 11, none,.asg (.c (.bool false))⟩] [0,10,11] []
def zi283:IFun:=⟨[.t 10,.t 11],[0],(.seq z283r0 (.seq z283r1 (.seq z283r2 (.seq (.block 0 (.loop z283l5)) (.seq (.block 2 (.loop z283l8)) (.seq (.seq z283r9 (.cond (.t 71) (.seq z283r10 (.seq z283r11 .ret)) .skip)) (.seq z283r12 (.seq z283r13 (.seq z283r14 (.seq (.block 4 (.loop z283l25)) (.seq z283r26 (.seq z283r27 .ret))))))))))))⟩
def z285r0:IC:=.reg [⟨some 10, none,.asg (.c (.bool true))⟩] [0,1,2,3,4,10] []
def z285r1:IC:=.reg [⟨some 11, none,.asg (.c (.bool true))⟩] [0,1,2,3,4,10,11] []
def z285r2:IC:=.reg [⟨some 21, none,.mv (.t 2)⟩,⟨some 22, none,.mv (.t 1)⟩,⟨some 23, none,.bin .sub (.t 21) (.t 22)⟩,⟨some 12, none,.asg (.t 23)⟩] [0,1,2,3,4,10,11,12] []
def z285r3:IC:=.reg [⟨some 24, none,.mv (.t 12)⟩,⟨some 25, none,.bin .leq (.t 24) (.c (vi 12))⟩] [0,1,2,3,4,10,11,12,25] []
def z285r4:IC:=.reg [⟨some 26, none,.mv (.t 0)⟩,⟨some 27, none,.mv (.t 1)⟩,⟨some 28, none,.mv (.t 2)⟩,⟨some 29, none,.mv (.t 4)⟩,⟨some 30, none,.call zl277 [(.ld,(.t 26)),(.val,(.t 27)),(.val,(.t 28)),(.val,(.t 29))] false⟩] [0] []
def z285r5:IC:=.reg [⟨some 31, none,.mv (.t 3)⟩,⟨some 32, none,.bin .eql (.t 31) (.c (vi 0))⟩] [0,1,2,3,4,10,11,12,32] []
def z285r6:IC:=.reg [⟨some 33, none,.mv (.t 0)⟩,⟨some 34, none,.mv (.t 1)⟩,⟨some 35, none,.mv (.t 2)⟩,⟨some 36, none,.mv (.t 4)⟩,⟨some 37, none,.call zl276 [(.ld,(.t 33)),(.val,(.t 34)),(.val,(.t 35)),(.val,(.t 36))] false⟩] [0] []
def z285r7:IC:=.reg [⟨some 38, none,.mv (.t 10)⟩,⟨some 39, none,.unop .not (.t 38)⟩] [0,1,2,3,4,10,11,12,39] []
def z285r8:IC:=.reg [⟨some 40, none,.mv (.t 0)⟩,⟨some 41, none,.mv (.t 1)⟩,⟨some 42, none,.mv (.t 2)⟩,⟨some 43, none,.mv (.t 4)⟩,⟨some 44, none,.call zl274 [(.ld,(.t 40)),(.val,(.t 41)),(.val,(.t 42)),(.val,(.t 43))] false⟩] [0,1,2,3,4,10,11,12] []
def z285r9:IC:=.reg [⟨some 45, none,.mv (.t 3)⟩,⟨some 46, none,.bin .sub (.t 45) (.c (vi 1))⟩,⟨some 3, none,.asg (.t 46)⟩] [0,1,2,3,4,10,11,12] []
def z285r10:IC:=.reg [⟨some 48, none,.mv (.t 0)⟩,⟨some 49, none,.mv (.t 1)⟩,⟨some 50, none,.mv (.t 2)⟩,⟨some 51, none,.mv (.t 4)⟩,⟨some 52, none,.call zl450 [(.ld,(.t 48)),(.val,(.t 49)),(.val,(.t 50)),(.val,(.t 51))] false⟩,⟨some 47, none,.asg (.t 52)⟩,⟨some 53, none,.extr (.t 47) 0⟩,⟨some 54, none,.extr (.t 47) 1⟩,⟨some 13, none,.asg (.t 53)⟩,⟨some 14, none,.asg (.t 54)⟩] [0,1,2,3,4,10,11,12,13,14] []
def z285r11:IC:=.reg [⟨some 55, none,.mv (.t 14)⟩,⟨some 56, none,.bin .eql (.t 55) (.c (vi 2))⟩] [0,1,2,3,4,10,11,12,13,14,56] []
def z285r12:IC:=.reg [⟨some 57, none,.mv (.t 0)⟩,⟨some 58, none,.mv (.t 1)⟩,⟨some 59, none,.mv (.t 2)⟩,⟨some 60, none,.mv (.t 4)⟩,⟨some 61, none,.call zl286 [(.ld,(.t 57)),(.val,(.t 58)),(.val,(.t 59)),(.val,(.t 60))] false⟩] [0,1,2,3,4,10,11,12,13] []
def z285r13:IC:=.reg [⟨some 62, none,.mv (.t 2)⟩,⟨some 63, none,.bin .sub (.t 62) (.c (vi 1))⟩,⟨some 64, none,.mv (.t 13)⟩,⟨some 65, none,.mv (.t 1)⟩,⟨some 66, none,.bin .sub (.t 64) (.t 65)⟩,⟨some 67, none,.bin .sub (.t 63) (.t 66)⟩,⟨some 13, none,.asg (.t 67)⟩] [0,1,2,3,4,10,11,12,13] []
def z285r14:IC:=.reg [⟨some 14, none,.asg (.c (vi 1))⟩] [0,1,2,3,4,10,11,12,13,14] []
def z285r15:IC:=.reg [⟨some 68, none,.mv (.t 10)⟩,⟨some 69, none,.asg (.t 68)⟩,⟨some 70, (some (69,true)),.mv (.t 11)⟩,⟨some 71, none,.pick (.t 69) (.t 70) (.c (.bool false))⟩,⟨some 72, none,.asg (.t 71)⟩,⟨some 73, (some (72,true)),.mv (.t 14)⟩,⟨some 74, (some (72,true)),.bin .eql (.t 73) (.c (vi 1))⟩,⟨some 75, none,.pick (.t 72) (.t 74) (.c (.bool false))⟩] [0,1,2,3,4,10,11,12,13,75] []
def z285r16:IC:=.reg [⟨some 76, none,.mv (.t 0)⟩,⟨some 77, none,.mv (.t 1)⟩,⟨some 78, none,.mv (.t 2)⟩,⟨some 79, none,.mv (.t 4)⟩,⟨some 80, none,.call zl282 [(.ld,(.t 76)),(.val,(.t 77)),(.val,(.t 78)),(.val,(.t 79))] false⟩] [0,1,2,3,4,10,11,12,13,80] []
def z285r17:IC:=.reg [⟨some 81, none,.mv (.t 1)⟩,⟨some 82, none,.bin .gtr (.t 81) (.c (vi 0))⟩,⟨some 83, none,.asg (.t 82)⟩,⟨some 84, (some (83,true)),.mv (.t 4)⟩,⟨some 85, (some (83,true)),.mv (.t 0)⟩,⟨some 86, (some (83,true)),.mv (.t 1)⟩,⟨some 87, (some (83,true)),.bin .sub (.t 86) (.c (vi 1))⟩,⟨some 88, (some (83,true)),.iadr 2 (.t 85) (.t 87)⟩,⟨some 89, (some (83,true)),.load true 2 (.t 88)⟩,⟨some 90, (some (83,true)),.mv (.t 0)⟩,⟨some 91, (some (83,true)),.mv (.t 13)⟩,⟨some 92, (some (83,true)),.iadr 2 (.t 90) (.t 91)⟩,⟨some 93, (some (83,true)),.load true 2 (.t 92)⟩,⟨some 94, (some (83,true)),.callv (.t 84) [(.val,(.t 89)),(.val,(.t 93))]⟩,⟨some 95, (some (83,true)),.bin .lss (.t 94) (.c (vi 0))⟩,⟨some 96, (some (83,true)),.unop .not (.t 95)⟩,⟨some 97, none,.pick (.t 83) (.t 96) (.c (.bool false))⟩] [0,1,2,3,4,10,11,12,13,97] []
def z285r18:IC:=.reg [⟨some 98, none,.mv (.t 0)⟩,⟨some 99, none,.mv (.t 1)⟩,⟨some 100, none,.mv (.t 2)⟩,⟨some 101, none,.mv (.t 13)⟩,⟨some 102, none,.mv (.t 4)⟩,⟨some 103, none,.call zl284 [(.ld,(.t 98)),(.val,(.t 99)),(.val,(.t 100)),(.val,(.t 101)),(.val,(.t 102))] false⟩,⟨some 15, none,.asg (.t 103)⟩] [0,2,3,4,10,11,15] []
def z285r19:IC:=.reg [⟨some 104, none,.mv (.t 15)⟩,⟨some 1, none,.asgm (.t 104)⟩] [0,1,2,3,4,10,11] []
def z285r20:IC:=.reg [⟨some 106, none,.mv (.t 0)⟩,⟨some 107, none,.mv (.t 1)⟩,⟨some 108, none,.mv (.t 2)⟩,⟨some 109, none,.mv (.t 13)⟩,⟨some 110, none,.mv (.t 4)⟩,⟨some 111, none,.call zl283 [(.ld,(.t 106)),(.val,(.t 107)),(.val,(.t 108)),(.val,(.t 109)),(.val,(.t 110))] false⟩,⟨some 105, none,.asg (.t 111)⟩,⟨some 112, none,.extr (.t 105) 0⟩,⟨some 113, none,.extr (.t 105) 1⟩,⟨some 16, none,.asg (.t 112)⟩,⟨some 17, none,.asg (.t 113)⟩] [0,1,2,3,4,12,16,17] []
def z285r21:IC:=.reg [⟨some 114, none,.mv (.t 17)⟩,⟨some 11, none,.asgm (.t 114)⟩] [0,1,2,3,4,11,12,16] []
def z285r22:IC:=.reg [⟨some 115, none,.mv (.t 16)⟩,⟨some 116, none,.mv (.t 1)⟩,⟨some 117, none,.bin .sub (.t 115) (.t 116)⟩,⟨some 118, none,.mv (.t 2)⟩,⟨some 119, none,.mv (.t 16)⟩,⟨some 120, none,.bin .sub (.t 118) (.t 119)⟩,⟨some 18, none,.asg (.t 117)⟩,⟨some 19, none,.asg (.t 120)⟩] [0,1,2,3,4,11,12,16,18,19] []
def z285r23:IC:=.reg [⟨some 121, none,.mv (.t 12)⟩,⟨some 122, none,.bin .quo (.t 121) (.c (vi 8))⟩,⟨some 20, none,.asg (.t 122)⟩] [0,1,2,3,4,11,16,18,19,20] []
def z285r24:IC:=.reg [⟨some 123, none,.mv (.t 18)⟩,⟨some 124, none,.mv (.t 19)⟩,⟨some 125, none,.bin .lss (.t 123) (.t 124)⟩] [0,1,2,3,4,11,16,18,19,20,125] []
def z285r25:IC:=.reg [⟨some 126, none,.mv (.t 18)⟩,⟨some 127, none,.mv (.t 20)⟩,⟨some 128, none,.bin .geq (.t 126) (.t 127)⟩,⟨some 10, none,.asg (.t 128)⟩] [0,1,2,3,4,10,11,16] []
def z285r26:IC:=.reg [⟨some 129, none,.mv (.t 0)⟩,⟨some 130, none,.mv (.t 1)⟩,⟨some 131, none,.mv (.t 16)⟩,⟨some 132, none,.mv (.t 3)⟩,⟨some 133, none,.mv (.t 4)⟩,⟨some 134, none,.call zl285 [(.ld,(.t 129)),(.val,(.t 130)),(.val,(.t 131)),(.val,(.t 132)),(.val,(.t 133))] false⟩] [0,2,3,4,10,11,16] []
def z285r27:IC:=.reg [⟨some 135, none,.mv (.t 16)⟩,⟨some 136, none,.bin .add (.t 135) (.c (vi 1))⟩,⟨some 1, none,.asg (.t 136)⟩] [0,1,2,3,4,10,11] []
def z285r28:IC:=.reg [⟨some 137, none,.mv (.t 19)⟩,⟨some 138, none,.mv (.t 20)⟩,⟨some 139, none,.bin .geq (.t 137) (.t 138)⟩,⟨some 10, none,.asg (.t 139)⟩] [0,1,2,3,4,10,11,16] []
def z285r29:IC:=.reg [⟨some 140, none,.mv (.t 0)⟩,⟨some 141, none,.mv (.t 16)⟩,⟨some 142, none,.bin .add (.t 141) (.c (vi 1))⟩,⟨some 143, none,.mv (.t 2)⟩,⟨some 144, none,.mv (.t 3)⟩,⟨some 145, none,.mv (.t 4)⟩,⟨some 146, none,.call zl285 [(.ld,(.t 140)),(.val,(.t 142)),(.val,(.t 143)),(.val,(.t 144)),(.val,(.t 145))] false⟩] [0,1,3,4,10,11,16] []
def z285r30:IC:=.reg [⟨some 147, none,.mv (.t 16)⟩,⟨some 2, none,.asgm (.t 147)⟩] [0,1,2,3,4,10,11] []
def z285l31:IC:=(.block 1 (.seq z285r2 (.seq (.seq z285r3 (.cond (.t 25) (.seq z285r4 .ret) .skip)) (.seq (.seq z285r5 (.cond (.t 32) (.seq z285r6 .ret) .skip)) (.seq (.seq z285r7 (.cond (.t 39) (.seq z285r8 z285r9) .skip)) (.seq z285r10 (.seq (.seq z285r11 (.cond (.t 56) (.seq z285r12 (.seq z285r13 z285r14)) .skip)) (.seq (.seq z285r15 (.cond (.t 75) (.seq z285r16 (.cond (.t 80) .ret .skip)) .skip)) (.seq (.seq z285r17 (.cond (.t 97) (.seq z285r18 (.seq z285r19 (.exit 1))) .skip)) (.seq z285r20 (.seq z285r21 (.seq z285r22 (.seq z285r23 (.seq z285r24 (.cond (.t 125) (.seq z285r25 (.seq z285r26 z285r27)) (.seq z285r28 (.seq z285r29 z285r30)))))))))))))))))
def zi285:IFun:=⟨[],[0],(.seq z285r0 (.seq z285r1 (.block 0 (.loop z285l31))))⟩
def z106r0:IC:=.reg [⟨some 2, none,.asg (.c (.int .u64 (0)))⟩] [0] []
def z106r1:IC:=.reg [⟨some 3, none,.mv (.t 0)⟩,⟨some 4, none,.nilck (.t 3)⟩,⟨some 5, none,.load false 1 (.t 4)⟩,⟨some 6, none,.mv (.t 0)⟩,⟨some 7, none,.nilck (.t 6)⟩,⟨some 8, none,.load false 1 (.t 7)⟩,⟨some 9, none,.bin .shl (.t 8) (.c (.int .u64 (13)))⟩,⟨some 10, none,.bin .xor (.t 5) (.t 9)⟩,⟨some 11, none,.nilck (.t 3)⟩,⟨none,none,.store 1 (.t 11) (.t 10)⟩] [0] []
def z106r2:IC:=.reg [⟨some 12, none,.mv (.t 0)⟩,⟨some 13, none,.nilck (.t 12)⟩,⟨some 14, none,.load false 1 (.t 13)⟩,⟨some 15, none,.mv (.t 0)⟩,⟨some 16, none,.nilck (.t 15)⟩,⟨some 17, none,.load false 1 (.t 16)⟩,⟨some 18, none,.bin .shr (.t 17) (.c (.int .u64 (7)))⟩,⟨some 19, none,.bin .xor (.t 14) (.t 18)⟩,⟨some 20, none,.nilck (.t 12)⟩,⟨none,none,.store 1 (.t 20) (.t 19)⟩] [0] []
def z106r3:IC:=.reg [⟨some 21, none,.mv (.t 0)⟩,⟨some 22, none,.nilck (.t 21)⟩,⟨some 23, none,.load false 1 (.t 22)⟩,⟨some 24, none,.mv (.t 0)⟩,⟨some 25, none,.nilck (.t 24)⟩,⟨some 26, none,.load false 1 (.t 25)⟩,⟨some 27, none,.bin .shl (.t 26) (.c (.int .u64 (17)))⟩,⟨some 28, none,.bin .xor (.t 23) (.t 27)⟩,⟨some 29, none,.nilck (.t 21)⟩,⟨none,none,.store 1 (.t 29) (.t 28)⟩] [0] []
def z106r4:IC:=.reg [⟨some 30, none,.mv (.t 0)⟩,⟨some 31, none,.nilck (.t 30)⟩,⟨some 32, none,.load false 1 (.t 31)⟩,⟨some 2, none,.asg (.t 32)⟩] [2] []
def zi106:IFun:=⟨[.t 2],[],(.seq z106r0 (.seq z106r1 (.seq z106r2 (.seq z106r3 (.seq z106r4 .ret)))))⟩
def z293r0:IC:=.reg [⟨some 1, none,.box (.t 0)⟩,⟨some 2, none,.alloc [(vi 0),(.slice none 0 0)]⟩,⟨some 3, none,.asg (.c (.bool false))⟩] [1,2] []
def z293r1:IC:=.reg [⟨some 7, none,.load true 2 (.t 1)⟩,⟨some 8, none,.call zl145 [(.rd,(.t 7))] true⟩,⟨some 9, none,.unop .not (.t 8)⟩] [1,2,9] []
def z293r2:IC:=.reg [⟨some 10, none,.build [(vi 0),(.slice none 0 0)] []⟩,⟨none,none,.store 2 (.t 2) (.t 10)⟩,⟨some 3, none,.asg (.c (.bool false))⟩] [2,3] []
def z293r3:IC:=.regd [⟨some 11, none,.fadr 0 (.t 1)⟩,⟨some 12, none,.load false 1 (.t 11)⟩,⟨some 13, none,.bsl 2 [(vi 0),(vi 0)] 0 []⟩,⟨some 14, none,.fadr 1 (.t 1)⟩,⟨some 15, none,.load false 1 (.t 14)⟩,⟨some 16, none,.app 2 (.t 13) (.t 15)⟩,⟨some 17, none,.build [(vi 0),(.slice none 0 0)] [(0,1,(.t 12)),(1,1,(.t 16))]⟩,⟨some 4, none,.alloc [(vi 0),(.slice none 0 0)]⟩,⟨none,none,.store 2 (.t 4) (.t 17)⟩] [0,1,3,4,2,5,6,7,8] [2,4] [[0,1,2,3,4,5,6,7,8],[0,1,3,2,4,5,6,7,8],[0,2,1,3,4,5,6,7,8],[0,2,3,4,5,1,6,7,8],[0,3,2,1,4,5,6,7,8],[0,3,2,4,5,1,6,7,8],[0,3,4,2,1,5,6,7,8],[0,3,4,2,5,1,6,7,8],[2,0,1,3,4,5,6,7,8],[2,0,3,4,5,1,6,7,8],[2,3,4,5,0,1,6,7,8],[3,2,0,1,4,5,6,7,8],[3,2,0,4,5,1,6,7,8],[3,2,4,5,0,1,6,7,8],[3,4,2,0,1,5,6,7,8],[3,4,2,0,5,1,6,7,8],[3,4,2,5,0,1,6,7,8]]
def z293r4:IC:=.reg [⟨some 18, none,.load true 2 (.t 4)⟩,⟨some 19, none,.call zl343 [(.rd,(.t 18))] true⟩,⟨some 20, none,.len (.t 19)⟩,⟨some 21, none,.bin .gtr (.t 20) (.c (vi 1))⟩] [2,4,21] []
def z293r5:IC:=.reg [⟨some 23, none,.load true 2 (.t 4)⟩,⟨some 24, none,.call zl445 [(.rd,(.t 23))] true⟩,⟨some 22, none,.asg (.t 24)⟩,⟨some 25, none,.extr (.t 22) 0⟩,⟨some 26, none,.extr (.t 22) 1⟩,⟨some 5, none,.alloc [(vi 0),(vi 0),(vi 0),(vi 0)]⟩,⟨none,none,.store 4 (.t 5) (.t 25)⟩,⟨some 6, none,.asg (.t 26)⟩] [2,4,5,6] []
def z293r6:IC:=.reg [⟨some 27, none,.mv (.t 6)⟩,⟨some 28, none,.unop .not (.t 27)⟩] [2,4,5,28] []
def z293r7:IC:=.reg [⟨some 29, none,.build [(vi 0),(.slice none 0 0)] []⟩,⟨none,none,.store 2 (.t 2) (.t 29)⟩,⟨some 3, none,.asg (.c (.bool false))⟩] [2,3] []
def z293r8:IC:=.reg [⟨some 30, none,.load true 2 (.t 4)⟩,⟨some 31, none,.load true 4 (.t 5)⟩,⟨some 32, none,.call zl383 [(.rd,(.t 30)),(.val,(.t 31))] true⟩,⟨none,none,.store 2 (.t 4) (.t 32)⟩] [2,4] []
def z293l9:IC:=(.seq (.seq z293r4 (.cond (.t 21) .skip (.exit 0))) (.block 1 (.seq z293r5 (.seq (.seq z293r6 (.cond (.t 28) (.seq z293r7 .ret) .skip)) z293r8))))
def z293r10:IC:=.reg [⟨some 33, none,.load true 2 (.t 4)⟩,⟨some 34, none,.load true 2 (.t 4)⟩,⟨some 35, none,.call zl343 [(.rd,(.t 34))] true⟩,⟨some 36, none,.len (.t 35)⟩,⟨some 37, none,.bin .eql (.t 36) (.c (vi 1))⟩,⟨none,none,.store 2 (.t 2) (.t 33)⟩,⟨some 3, none,.asg (.t 37)⟩] [2,3] [[1,2,0,3,4,5,6]]
def zi293:IFun:=⟨[.c 2 2 true,.t 3],[],(.seq z293r0 (.seq (.seq z293r1 (.cond (.t 9) (.seq z293r2 .ret) .skip)) (.seq z293r3 (.seq (.block 0 (.loop z293l9)) (.seq z293r10 .ret)))))⟩
def z335r0:IC:=.reg [⟨some 3, none,.box (.t 0)⟩,⟨some 6, none,.alloc [(vi 0),(.slice none 0 0)]⟩] [1,2,3,6] []
def z335r1:IC:=.reg [⟨some 10, none,.mv (.t 1)⟩,⟨some 11, none,.mv (.t 2)⟩,⟨some 12, none,.minmax true (.t 10) (.t 11)⟩,⟨some 13, none,.mv (.t 1)⟩,⟨some 14, none,.mv (.t 2)⟩,⟨some 15, none,.minmax false (.t 13) (.t 14)⟩,⟨some 16, none,.build [(vi 0),(vi 0)] [(0,1,(.t 12)),(1,1,(.t 15))]⟩,⟨some 7, none,.alloc [(vi 0),(vi 0)]⟩,⟨none,none,.store 2 (.t 7) (.t 16)⟩] [3,6,7] []
def z335r2:IC:=.reg [⟨some 8, none,.asg (.c (vi 0))⟩] [3,6,7,8] []
def z335r3:IC:=.reg [⟨some 17, none,.mv (.t 8)⟩,⟨some 18, none,.fadr 1 (.t 3)⟩,⟨some 19, none,.load false 1 (.t 18)⟩,⟨some 20, none,.len (.t 19)⟩,⟨some 21, none,.bin .lss (.t 17) (.t 20)⟩,⟨some 22, none,.asg (.t 21)⟩,⟨some 23, (some (22,true)),.fadr 1 (.t 3)⟩,⟨some 24, (some (22,true)),.load false 1 (.t 23)⟩,⟨some 25, (some (22,true)),.mv (.t 8)⟩,⟨some 26, (some (22,true)),.iadr 2 (.t 24) (.t 25)⟩,⟨some 27, (some (22,true)),.load true 2 (.t 26)⟩,⟨some 28, (some (22,true)),.load true 2 (.t 7)⟩,⟨some 29, (some (22,true)),.call zl126 [(.val,(.t 27)),(.val,(.t 28))] true⟩,⟨some 30, none,.pick (.t 22) (.t 29) (.c (.bool false))⟩] [3,6,7,8,30] []
def z335r4:IC:=.reg [⟨some 31, none,.mv (.t 8)⟩,⟨some 32, none,.bin .add (.t 31) (.c (vi 1))⟩,⟨some 8, none,.asg (.t 32)⟩] [3,6,7,8] []
def z335l5:IC:=(.seq (.seq z335r3 (.cond (.t 30) .skip (.exit 0))) (.block 1 z335r4))
def z335r6:IC:=.reg [⟨some 33, none,.bsl 2 [(vi 0),(vi 0)] 0 []⟩,⟨some 34, none,.fadr 1 (.t 3)⟩,⟨some 35, none,.load false 1 (.t 34)⟩,⟨some 36, none,.mv (.t 8)⟩,⟨some 37, none,.slc 2 (.t 35) none (some (.t 36)) none⟩,⟨some 38, none,.app 2 (.t 33) (.t 37)⟩,⟨some 9, none,.asg (.t 38)⟩] [3,6,7,8,9] []
def z335r7:IC:=.reg [⟨some 39, none,.fadr 0 (.t 3)⟩,⟨some 40, none,.load false 1 (.t 39)⟩,⟨some 41, none,.mv (.t 9)⟩,⟨some 42, none,.load true 2 (.t 7)⟩,⟨some 43, none,.bsl 2 [(vi 0),(vi 0)] 1 [(0,(.t 42))]⟩,⟨some 44, none,.app 2 (.t 41) (.t 43)⟩,⟨some 45, none,.fadr 1 (.t 3)⟩,⟨some 46, none,.load false 1 (.t 45)⟩,⟨some 47, none,.mv (.t 8)⟩,⟨some 48, none,.slc 2 (.t 46) (some (.t 47)) none none⟩,⟨some 49, none,.app 2 (.t 44) (.t 48)⟩,⟨some 50, none,.build [(vi 0),(.slice none 0 0)] [(0,1,(.t 40)),(1,1,(.t 49))]⟩,
    ⟨none,none,.store 2 (.t 6) (.t 50)⟩] [6] [[0,1,2,3,4,6,7,5,8,9,10,11,12],[0,1,2,3,6,7,4,5,8,9,10,11,12],[0,2,3,4,1,5,6,7,8,9,10,11,12],[0,2,3,4,1,6,7,5,8,9,10,11,12],[0,2,3,6,7,4,1,5,8,9,10,11,12],[0,2,3,4,5,1,6,7,8,9,10,11,12],[0,2,3,4,5,6,7,8,9,10,1,11,12],[0,2,3,4,6,7,5,1,8,9,10,11,12],[0,2,3,4,6,7,5,8,9,10,1,11,12],[0,2,3,6,7,4,5,1,8,9,10,11,12],[0,2,3,6,7,4,5,8,9,10,1,11,12]]
def zi335:IFun:=⟨[.c 6 2 true],[],(.seq z335r0 (.seq z335r1 (.seq z335r2 (.seq (.block 0 (.loop z335l5)) (.seq z335r6 (.seq z335r7 .ret))))))⟩
def z342r0:IC:=.reg [⟨some 2, none,.box (.t 0)⟩,⟨some 4, none,.asg (.c (.slice none 0 0))⟩] [1,2] []
def z342r1:IC:=.reg [⟨some 11, none,.fadr 0 (.t 2)⟩,⟨some 12, none,.load false 1 (.t 11)⟩,⟨some 13, none,.mksl 1 [(.bool false)] (.t 12) (.t 12)⟩,⟨some 5, none,.asg (.t 13)⟩] [1,2,5] []
def z342r2:IC:=.reg [⟨some 14, none,.mv (.t 5)⟩,⟨some 15, none,.mv (.t 1)⟩,⟨some 16, none,.iadr 1 (.t 14) (.t 15)⟩,⟨none,none,.store 1 (.t 16) (.c (.bool true))⟩] [2,5] []
def z342r3:IC:=.reg [⟨some 6, none,.asg (.c (vi 0))⟩] [2,5,6] []
def z342r4:IC:=.reg [⟨some 17, none,.mv (.t 6)⟩,⟨some 18, none,.fadr 0 (.t 2)⟩,⟨some 19, none,.load false 1 (.t 18)⟩,⟨some 20, none,.bin .lss (.t 17) (.t 19)⟩] [2,5,6,20] []
def z342r5:IC:=.reg [⟨some 7, none,.asg (.c (vi 0))⟩] [2,5,6,7] []
def z342r6:IC:=.reg [⟨some 23, none,.mv (.t 7)⟩,⟨some 24, none,.fadr 1 (.t 2)⟩,⟨some 25, none,.load false 1 (.t 24)⟩,⟨some 26, none,.len (.t 25)⟩,⟨some 27, none,.bin .lss (.t 23) (.t 26)⟩] [2,5,6,7,27] []
def z342r7:IC:=.reg [⟨some 30, none,.fadr 1 (.t 2)⟩,⟨some 31, none,.load false 1 (.t 30)⟩,⟨some 32, none,.mv (.t 7)⟩,⟨some 33, none,.iadr 2 (.t 31) (.t 32)⟩,⟨some 34, none,.load true 2 (.t 33)⟩,⟨some 8, none,.alloc [(vi 0),(vi 0)]⟩,⟨none,none,.store 2 (.t 8) (.t 34)⟩] [2,5,6,7,8] []
def z342r8:IC:=.reg [⟨some 35, none,.mv (.t 5)⟩,⟨some 36, none,.fadr 0 (.t 8)⟩,⟨some 37, none,.load false 1 (.t 36)⟩,⟨some 38, none,.iadr 1 (.t 35) (.t 37)⟩,⟨some 39, none,.load false 1 (.t 38)⟩,⟨some 40, none,.asg (.t 39)⟩,⟨some 41, (some (40,false)),.mv (.t 5)⟩,⟨some 42, (some (40,false)),.fadr 1 (.t 8)⟩,⟨some 43, (some (40,false)),.load false 1 (.t 42)⟩,⟨some 44, (some (40,false)),.iadr 1 (.t 41) (.t 43)⟩,⟨some 45, (some (40,false)),.load false 1 (.t 44)⟩,⟨some 46, none,.pick (.t 40) (.c (.bool true)) (.t 45)⟩] [2,5,6,7,8,46] []
def z342r9:IC:=.reg [⟨some 47, none,.mv (.t 5)⟩,⟨some 48, none,.fadr 0 (.t 8)⟩,⟨some 49, none,.load false 1 (.t 48)⟩,⟨some 50, none,.iadr 1 (.t 47) (.t 49)⟩,⟨none,none,.store 1 (.t 50) (.c (.bool true))⟩] [2,5,6,7,8] []
def z342r10:IC:=.reg [⟨some 51, none,.mv (.t 5)⟩,⟨some 52, none,.fadr 1 (.t 8)⟩,⟨some 53, none,.load false 1 (.t 52)⟩,⟨some 54, none,.iadr 1 (.t 51) (.t 53)⟩,⟨none,none,.store 1 (.t 54) (.c (.bool true))⟩] [2,5,6,7] []
def z342r11:IC:=.reg [⟨some 28, none,.mv (.t 7)⟩,⟨some 29, none,.bin .add (.t 28) (.c (vi 1))⟩,⟨some 7, none,.asg (.t 29)⟩] [2,5,6,7] []
def z342l12:IC:=(.seq (.seq z342r6 (.cond (.t 27) .skip (.exit 2))) (.seq (.block 3 (.seq z342r7 (.seq z342r8 (.cond (.t 46) (.seq z342r9 z342r10) .skip)))) z342r11))
def z342r13:IC:=.reg [⟨some 21, none,.mv (.t 6)⟩,⟨some 22, none,.bin .add (.t 21) (.c (vi 1))⟩,⟨some 6, none,.asg (.t 22)⟩] [2,5,6] []
def z342l14:IC:=(.seq (.seq z342r4 (.cond (.t 20) .skip (.exit 0))) (.seq (.block 1 (.seq z342r5 (.block 2 (.loop z342l12)))) z342r13))
def z342r15:IC:=.reg [⟨some 55, none,.bsl 1 [(vi 0)] 0 []⟩,⟨some 9, none,.asg (.t 55)⟩] [2,5,9] []
def z342r16:IC:=.reg [⟨some 10, none,.asg (.c (vi 0))⟩] [2,5,9,10] []
def z342r17:IC:=.reg [⟨some 56, none,.mv (.t 10)⟩,⟨some 57, none,.fadr 0 (.t 2)⟩,⟨some 58, none,.load false 1 (.t 57)⟩,⟨some 59, none,.bin .lss (.t 56) (.t 58)⟩] [2,5,9,10,59] []
def z342r18:IC:=.reg [⟨some 62, none,.mv (.t 5)⟩,⟨some 63, none,.mv (.t 10)⟩,⟨some 64, none,.iadr 1 (.t 62) (.t 63)⟩,⟨some 65, none,.load false 1 (.t 64)⟩] [2,5,9,10,65] []
def z342r19:IC:=.reg [⟨some 66, none,.mv (.t 9)⟩,⟨some 67, none,.mv (.t 10)⟩,⟨some 68, none,.bsl 1 [(vi 0)] 1 [(0,(.t 67))]⟩,⟨some 69, none,.app 1 (.t 66) (.t 68)⟩,⟨some 9, none,.asg (.t 69)⟩] [2,5,9,10] []
def z342r20:IC:=.reg [⟨some 60, none,.mv (.t 10)⟩,⟨some 61, none,.bin .add (.t 60) (.c (vi 1))⟩,⟨some 10, none,.asg (.t 61)⟩] [2,5,9,10] []
def z342l21:IC:=(.seq (.seq z342r17 (.cond (.t 59) .skip (.exit 4))) (.seq (.block 5 (.seq z342r18 (.cond (.t 65) z342r19 .skip))) z342r20))
def z342r22:IC:=.reg [⟨some 70, none,.mv (.t 9)⟩,⟨some 4, none,.asgm (.t 70)⟩] [4,9] []
def zi342:IFun:=⟨[.t 4],[],(.seq z342r0 (.seq z342r1 (.seq z342r2 (.seq (.seq z342r3 (.block 0 (.loop z342l14))) (.seq z342r15 (.seq (.seq z342r16 (.block 4 (.loop z342l21))) (.seq z342r22 .ret)))))))⟩
def z343r0:IC:=.reg [⟨some 1, none,.box (.t 0)⟩,⟨some 2, none,.asg (.c (.slice none 0 0))⟩] [1] []
def z343r1:IC:=.reg [⟨some 6, none,.bsl 1 [(.slice none 0 0)] 0 []⟩,⟨some 3, none,.asg (.t 6)⟩] [1,3] []
def z343r2:IC:=.reg [⟨some 4, none,.asg (.c (vi 0))⟩] [1,3,4] []
def z343r3:IC:=.reg [⟨some 7, none,.mv (.t 4)⟩,⟨some 8, none,.fadr 0 (.t 1)⟩,⟨some 9, none,.load false 1 (.t 8)⟩,⟨some 10, none,.bin .lss (.t 7) (.t 9)⟩] [1,3,4,10] []
def z343r4:IC:=.reg [⟨some 13, none,.load true 2 (.t 1)⟩,⟨some 14, none,.mv (.t 4)⟩,⟨some 15, none,.call zl342 [(.rd,(.t 13)),(.val,(.t 14))] true⟩,⟨some 5, none,.asg (.t 15)⟩] [1,3,4,5] []
def z343r5:IC:=.reg [⟨some 16, none,.mv (.t 5)⟩,⟨some 17, none,.iadr 1 (.t 16) (.c (vi 0))⟩,⟨some 18, none,.load false 1 (.t 17)⟩,⟨some 19, none,.mv (.t 4)⟩,⟨some 20, none,.bin .eql (.t 18) (.t 19)⟩] [1,3,4,5,20] []
def z343r6:IC:=.reg [⟨some 21, none,.mv (.t 3)⟩,⟨some 22, none,.mv (.t 5)⟩,⟨some 23, none,.bsl 1 [(.slice none 0 0)] 1 [(0,(.t 22))]⟩,⟨some 24, none,.app 1 (.t 21) (.t 23)⟩,⟨some 3, none,.asg (.t 24)⟩] [1,3,4] []
def z343r7:IC:=.reg [⟨some 11, none,.mv (.t 4)⟩,⟨some 12, none,.bin .add (.t 11) (.c (vi 1))⟩,⟨some 4, none,.asg (.t 12)⟩] [1,3,4] []
def z343l8:IC:=(.seq (.seq z343r3 (.cond (.t 10) .skip (.exit 0))) (.seq (.block 1 (.seq z343r4 (.seq z343r5 (.cond (.t 20) z343r6 .skip)))) z343r7))
def z343r9:IC:=.reg [⟨some 25, none,.mv (.t 3)⟩,⟨some 2, none,.asgm (.t 25)⟩] [2,3] []
def zi343:IFun:=⟨[.t 2],[],(.seq z343r0 (.seq z343r1 (.seq (.seq z343r2 (.block 0 (.loop z343l8))) (.seq z343r9 .ret))))⟩
def z348r0:IC:=.reg [⟨some 3, none,.box (.t 0)⟩,⟨some 6, none,.alloc [(vi 0),(.slice none 0 0)]⟩] [1,2,3,6] []
def z348r1:IC:=.reg [⟨some 10, none,.fadr 0 (.t 3)⟩,⟨some 11, none,.load false 1 (.t 10)⟩,⟨some 12, none,.bsl 2 [(vi 0),(vi 0)] 0 []⟩,⟨some 13, none,.build [(vi 0),(.slice none 0 0)] [(0,1,(.t 11)),(1,1,(.t 12))]⟩,⟨some 7, none,.alloc [(vi 0),(.slice none 0 0)]⟩,⟨none,none,.store 2 (.t 7) (.t 13)⟩] [1,2,3,6,7] []
def z348r2:IC:=.reg [⟨some 8, none,.asg (.c (vi 0))⟩] [1,2,3,6,7,8] []
def z348r3:IC:=.reg [⟨some 14, none,.mv (.t 8)⟩,⟨some 15, none,.fadr 1 (.t 3)⟩,⟨some 16, none,.load false 1 (.t 15)⟩,⟨some 17, none,.len (.t 16)⟩,⟨some 18, none,.bin .lss (.t 14) (.t 17)⟩] [1,2,3,6,7,8,18] []
def z348r4:IC:=.reg [⟨some 21, none,.fadr 1 (.t 3)⟩,⟨some 22, none,.load false 1 (.t 21)⟩,⟨some 23, none,.mv (.t 8)⟩,⟨some 24, none,.iadr 2 (.t 22) (.t 23)⟩,⟨some 25, none,.load true 2 (.t 24)⟩,⟨some 9, none,.alloc [(vi 0),(vi 0)]⟩,⟨none,none,.store 2 (.t 9) (.t 25)⟩] [1,2,3,6,7,8,9] []
def z348r5:IC:=.reg [⟨some 26, none,.fadr 0 (.t 9)⟩,⟨some 27, none,.load false 1 (.t 26)⟩,⟨some 28, none,.mv (.t 1)⟩,⟨some 29, none,.mv (.t 2)⟩,⟨some 30, none,.minmax true (.t 28) (.t 29)⟩,⟨some 31, none,.bin .neq (.t 27) (.t 30)⟩,⟨some 32, none,.asg (.t 31)⟩,⟨some 33, (some (32,false)),.fadr 1 (.t 9)⟩,⟨some 34, (some (32,false)),.load false 1 (.t 33)⟩,⟨some 35, (some (32,false)),.mv (.t 1)⟩,⟨some 36, (some (32,false)),.mv (.t 2)⟩,⟨some 37, (some (32,false)),.minmax false (.t 35) (.t 36)⟩,⟨some 38, (some (32,false)),.bin .neq (.t 34) (.t 37)⟩,⟨some 39, none,.pick (.t 32) (.c (.bool true)) (.t 38)⟩] [1,2,3,6,7,8,9,39] []
def z348r6:IC:=.reg [⟨some 40, none,.fadr 1 (.t 7)⟩,⟨some 41, none,.load false 1 (.t 40)⟩,⟨some 42, none,.load true 2 (.t 9)⟩,⟨some 43, none,.bsl 2 [(vi 0),(vi 0)] 1 [(0,(.t 42))]⟩,⟨some 44, none,.app 2 (.t 41) (.t 43)⟩,⟨some 45, none,.fadr 1 (.t 7)⟩,⟨none,none,.store 1 (.t 45) (.t 44)⟩] [1,2,3,6,7,8] []
def z348r7:IC:=.reg [⟨some 19, none,.mv (.t 8)⟩,⟨some 20, none,.bin .add (.t 19) (.c (vi 1))⟩,⟨some 8, none,.asg (.t 20)⟩] [1,2,3,6,7,8] []
def z348l8:IC:=(.seq (.seq z348r3 (.cond (.t 18) .skip (.exit 0))) (.seq (.block 1 (.seq z348r4 (.seq z348r5 (.cond (.t 39) z348r6 .skip)))) z348r7))
def z348r9:IC:=.reg [⟨some 46, none,.load true 2 (.t 7)⟩,⟨none,none,.store 2 (.t 6) (.t 46)⟩] [6] []
def zi348:IFun:=⟨[.c 6 2 true],[],(.seq z348r0 (.seq z348r1 (.seq (.seq z348r2 (.block 0 (.loop z348l8))) (.seq z348r9 .ret))))⟩
def z126r0:IC:=.reg [⟨some 2, none,.box (.t 0)⟩,⟨some 3, none,.box (.t 1)⟩,⟨some 4, none,.asg (.c (.bool false))⟩] [2,3] []
def z126r1:IC:=.reg [⟨some 5, none,.fadr 0 (.t 2)⟩,⟨some 6, none,.load false 1 (.t 5)⟩,⟨some 7, none,.fadr 0 (.t 3)⟩,⟨some 8, none,.load false 1 (.t 7)⟩,⟨some 9, none,.bin .lss (.t 6) (.t 8)⟩,⟨some 10, none,.asg (.t 9)⟩,⟨some 11, (some (10,false)),.fadr 0 (.t 2)⟩,⟨some 12, (some (10,false)),.load false 1 (.t 11)⟩,⟨some 13, (some (10,false)),.fadr 0 (.t 3)⟩,⟨some 14, (some (10,false)),.load false 1 (.t 13)⟩,⟨some 15, (some (10,false)),.bin .eql (.t 12) (.t 14)⟩,⟨some 16, (some (10,false)),.asg (.t 15)⟩,⟨some 17, (some (16,true)),.fadr 1 (.t 2)⟩,⟨some 18, (some (16,true)),.load false 1 (.t 17)⟩,⟨some 19, (some (16,true)),.fadr 1 (.t 3)⟩,⟨some 20, (some (16,true)),.load false 1 (.t 19)⟩,⟨some 21, (some (16,true)),.bin .lss (.t 18) (.t 20)⟩,⟨some 22, (some (10,false)),.pick (.t 16) (.t 21) (.c (.bool false))⟩,⟨some 23, none,.pick (.t 10) (.c (.bool true)) (.t 22)⟩,
    ⟨some 4, none,.asg (.t 23)⟩] [4] []
def zi126:IFun:=⟨[.t 4],[],(.seq z126r0 (.seq z126r1 .ret))⟩
def z131r0:IC:=.reg [⟨some 4, none,.asg (.c (.bool false))⟩] [0,1] []
def z131r1:IC:=.reg [⟨some 5, none,.asg (.c (vi 0))⟩] [0,1,5] []
def z131r2:IC:=.reg [⟨some 6, none,.mv (.t 5)⟩,⟨some 7, none,.mv (.t 0)⟩,⟨some 8, none,.len (.t 7)⟩,⟨some 9, none,.bin .lss (.t 6) (.t 8)⟩] [0,1,5,9] []
def z131r3:IC:=.reg [⟨some 12, none,.mv (.t 0)⟩,⟨some 13, none,.mv (.t 5)⟩,⟨some 14, none,.iadr 1 (.t 12) (.t 13)⟩,⟨some 15, none,.load false 1 (.t 14)⟩,⟨some 16, none,.mv (.t 1)⟩,⟨some 17, none,.bin .eql (.t 15) (.t 16)⟩] [0,1,5,17] []
def z131r4:IC:=.reg [⟨some 4, none,.asg (.c (.bool true))⟩] [4] []
def z131r5:IC:=.reg [⟨some 10, none,.mv (.t 5)⟩,⟨some 11, none,.bin .add (.t 10) (.c (vi 1))⟩,⟨some 5, none,.asg (.t 11)⟩] [0,1,5] []
def z131l6:IC:=(.seq (.seq z131r2 (.cond (.t 9) .skip (.exit 0))) (.seq (.block 1 (.seq z131r3 (.cond (.t 17) (.seq z131r4 .ret) .skip))) z131r5))
def z131r7:IC:=.reg [⟨some 4, none,.asg (.c (.bool false))⟩] [4] []
def zi131:IFun:=⟨[.t 4],[],(.seq z131r0 (.seq (.seq z131r1 (.block 0 (.loop z131l6))) (.seq z131r7 .ret)))⟩
def z132r0:IC:=.reg [⟨some 6, none,.asg (.c (.bool false))⟩] [0,1,2] []
def z132r1:IC:=.reg [⟨some 7, none,.mv (.t 1)⟩,⟨some 8, none,.mv (.t 0)⟩,⟨some 9, none,.bin .leq (.t 7) (.t 8)⟩,⟨some 10, none,.asg (.t 9)⟩,⟨some 11, (some (10,true)),.mv (.t 0)⟩,⟨some 12, (some (10,true)),.mv (.t 2)⟩,⟨some 13, (some (10,true)),.bin .leq (.t 11) (.t 12)⟩,⟨some 14, none,.pick (.t 10) (.t 13) (.c (.bool false))⟩,⟨some 6, none,.asg (.t 14)⟩] [6] []
def zi132:IFun:=⟨[.t 6],[],(.seq z132r0 (.seq z132r1 .ret))⟩
def z354r0:IC:=.reg [⟨some 2, none,.box (.t 0)⟩,⟨some 3, none,.box (.t 1)⟩,⟨some 4, none,.asg (.c (.bool false))⟩] [2,3] []
def z354r1:IC:=.reg [⟨some 5, none,.load true 2 (.t 2)⟩,⟨some 6, none,.fadr 0 (.t 3)⟩,⟨some 7, none,.load false 1 (.t 6)⟩,⟨some 8, none,.fadr 1 (.t 3)⟩,⟨some 9, none,.load false 1 (.t 8)⟩,⟨some 10, none,.call zl348 [(.rd,(.t 5)),(.val,(.t 7)),(.val,(.t 9))] true⟩,⟨some 11, none,.fadr 0 (.t 3)⟩,⟨some 12, none,.load false 1 (.t 11)⟩,⟨some 13, none,.call zl342 [(.rd,(.t 10)),(.val,(.t 12))] true⟩,⟨some 14, none,.fadr 1 (.t 3)⟩,⟨some 15, none,.load false 1 (.t 14)⟩,⟨some 16, none,.call zl131 [(.rd,(.t 13)),(.val,(.t 15))] true⟩,⟨some 17, none,.unop .not (.t 16)⟩,⟨some 4, none,.asg (.t 17)⟩] [4] [[0,1,2,3,4,5,6,7,9,10,8,11,12,13],[0,1,2,3,4,6,9,10,5,7,8,11,12,13],[0,1,2,3,4,6,7,5,8,9,10,11,12,13],[0,1,2,3,4,6,7,5,9,10,8,11,12,13],[0,1,2,3,4,6,7,9,10,5,8,11,12,13]]
def zi354:IFun:=⟨[.t 4],[],(.seq z354r0 (.seq z354r1 .ret))⟩
def z445r0:IC:=.reg [⟨some 1, none,.box (.t 0)⟩,⟨some 2, none,.alloc [(vi 0),(vi 0),(vi 0),(vi 0)]⟩,⟨some 3, none,.asg (.c (.bool false))⟩] [1,2] []
def z445r1:IC:=.reg [⟨some 4, none,.asg (.c (vi 0))⟩] [1,2,4] []
def z445r2:IC:=.reg [⟨some 8, none,.mv (.t 4)⟩,⟨some 9, none,.fadr 1 (.t 1)⟩,⟨some 10, none,.load false 1 (.t 9)⟩,⟨some 11, none,.len (.t 10)⟩,⟨some 12, none,.bin .lss (.t 8) (.t 11)⟩] [1,2,4,12] []
def z445r3:IC:=.reg [⟨some 15, none,.fadr 1 (.t 1)⟩,⟨some 16, none,.load false 1 (.t 15)⟩,⟨some 17, none,.mv (.t 4)⟩,⟨some 18, none,.iadr 2 (.t 16) (.t 17)⟩,⟨some 19, none,.load true 2 (.t 18)⟩,⟨some 5, none,.alloc [(vi 0),(vi 0)]⟩,⟨none,none,.store 2 (.t 5) (.t 19)⟩] [1,2,4,5] []
def z445r4:IC:=.reg [⟨some 20, none,.load true 2 (.t 1)⟩,⟨some 21, none,.load true 2 (.t 5)⟩,⟨some 22, none,.call zl354 [(.rd,(.t 20)),(.val,(.t 21))] true⟩] [1,2,4,5,22] []
def z445r5:IC:=.reg [⟨some 6, none,.asg (.c (vi 0))⟩] [1,2,4,5,6] []
def z445r6:IC:=.reg [⟨some 23, none,.mv (.t 6)⟩,⟨some 24, none,.fadr 1 (.t 1)⟩,⟨some 25, none,.load false 1 (.t 24)⟩,⟨some 26, none,.len (.t 25)⟩,⟨some 27, none,.bin .lss (.t 23) (.t 26)⟩] [1,2,4,5,6,27] []
def z445r7:IC:=.reg [⟨some 30, none,.fadr 1 (.t 1)⟩,⟨some 31, none,.load false 1 (.t 30)⟩,⟨some 32, none,.mv (.t 6)⟩,⟨some 33, none,.iadr 2 (.t 31) (.t 32)⟩,⟨some 34, none,.load true 2 (.t 33)⟩,⟨some 7, none,.alloc [(vi 0),(vi 0)]⟩,⟨none,none,.store 2 (.t 7) (.t 34)⟩] [1,2,4,5,6,7] []
def z445r8:IC:=.reg [⟨some 35, none,.load true 2 (.t 1)⟩,⟨some 36, none,.fadr 0 (.t 5)⟩,⟨some 37, none,.load false 1 (.t 36)⟩,⟨some 38, none,.call zl342 [(.rd,(.t 35)),(.val,(.t 37))] true⟩,⟨some 39, none,.fadr 0 (.t 7)⟩,⟨some 40, none,.load false 1 (.t 39)⟩,⟨some 41, none,.call zl131 [(.rd,(.t 38)),(.val,(.t 40))] true⟩,⟨some 42, none,.unop .not (.t 41)⟩] [1,2,4,5,6,7,42] [[0,1,2,4,5,3,6,7]]
def z445r9:IC:=.reg [⟨some 43, none,.fadr 0 (.t 5)⟩,⟨some 44, none,.load false 1 (.t 43)⟩,⟨some 45, none,.fadr 1 (.t 5)⟩,⟨some 46, none,.load false 1 (.t 45)⟩,⟨some 47, none,.fadr 0 (.t 7)⟩,⟨some 48, none,.load false 1 (.t 47)⟩,⟨some 49, none,.fadr 1 (.t 7)⟩,⟨some 50, none,.load false 1 (.t 49)⟩,⟨some 51, none,.build [(vi 0),(vi 0),(vi 0),(vi 0)] [(0,1,(.t 44)),(1,1,(.t 46)),(2,1,(.t 48)),(3,1,(.t 50))]⟩,⟨none,none,.store 4 (.t 2) (.t 51)⟩,⟨some 3, none,.asg (.c (.bool true))⟩] [2,3] []
def z445r10:IC:=.reg [⟨some 28, none,.mv (.t 6)⟩,⟨some 29, none,.bin .add (.t 28) (.c (vi 1))⟩,⟨some 6, none,.asg (.t 29)⟩] [1,2,4,5,6] []
def z445l11:IC:=(.seq (.seq z445r6 (.cond (.t 27) .skip (.exit 2))) (.seq (.block 3 (.seq z445r7 (.seq z445r8 (.cond (.t 42) (.seq z445r9 .ret) .skip)))) z445r10))
def z445r12:IC:=.reg [⟨some 13, none,.mv (.t 4)⟩,⟨some 14, none,.bin .add (.t 13) (.c (vi 1))⟩,⟨some 4, none,.asg (.t 14)⟩] [1,2,4] []
def z445l13:IC:=(.seq (.seq z445r2 (.cond (.t 12) .skip (.exit 0))) (.seq (.block 1 (.seq z445r3 (.seq (.seq z445r4 (.cond (.t 22) (.exit 1) .skip)) (.seq z445r5 (.block 2 (.loop z445l11)))))) z445r12))
def z445r14:IC:=.reg [⟨some 52, none,.build [(vi 0),(vi 0),(vi 0),(vi 0)] []⟩,⟨none,none,.store 4 (.t 2) (.t 52)⟩,⟨some 3, none,.asg (.c (.bool false))⟩] [2,3] []
def zi445:IFun:=⟨[.c 2 4 true,.t 3],[],(.seq z445r0 (.seq (.seq z445r1 (.block 0 (.loop z445l13))) (.seq z445r14 .ret)))⟩
def z383r0:IC:=.reg [⟨some 2, none,.box (.t 0)⟩,⟨some 3, none,.box (.t 1)⟩,⟨some 4, none,.alloc [(vi 0),(.slice none 0 0)]⟩] [2,3,4] []
def z383r1:IC:=.regd [⟨some 5, none,.load true 2 (.t 2)⟩,⟨some 6, none,.fadr 0 (.t 3)⟩,⟨some 7, none,.load false 1 (.t 6)⟩,⟨some 8, none,.fadr 1 (.t 3)⟩,⟨some 9, none,.load false 1 (.t 8)⟩,⟨some 10, none,.callq zl348 [(.rv,(.t 5)),(.val,(.t 7)),(.val,(.t 9))]⟩,⟨some 11, none,.fadr 2 (.t 3)⟩,⟨some 12, none,.load false 1 (.t 11)⟩,⟨some 13, none,.fadr 3 (.t 3)⟩,⟨some 14, none,.load false 1 (.t 13)⟩,⟨some 15, none,.callq zl348 [(.rv,(.t 10)),(.val,(.t 12)),(.val,(.t 14))]⟩,⟨some 16, none,.fadr 0 (.t 3)⟩,⟨some 17, none,.load false 1 (.t 16)⟩,⟨some 18, none,.fadr 2 (.t 3)⟩,⟨some 19, none,.load false 1 (.t 18)⟩,⟨some 20, none,.callq zl335 [(.rv,(.t 15)),(.val,(.t 17)),(.val,(.t 19))]⟩,⟨some 21, none,.fadr 1 (.t 3)⟩,⟨some 22, none,.load false 1 (.t 21)⟩,⟨some 23, none,.fadr 3 (.t 3)⟩,⟨some 24, none,.load false 1 (.t 23)⟩,
    ⟨some 25, none,.callq zl335 [(.rv,(.t 20)),(.val,(.t 22)),(.val,(.t 24))]⟩,⟨none,none,.store 2 (.t 4) (.t 25)⟩] [0,1,2,3,4,6,7,8,9,11,12,13,14,16,17,18,19,5,10,15,20,21] [4] []
def zi383:IFun:=⟨[.c 4 2 true],[],(.seq z383r0 (.seq z383r1 .ret))⟩
def z145r0:IC:=.reg [⟨some 1, none,.box (.t 0)⟩,⟨some 2, none,.asg (.c (.bool false))⟩] [1] []
def z145r1:IC:=.reg [⟨some 3, none,.asg (.c (vi 0))⟩] [1,3] []
def z145r2:IC:=.reg [⟨some 5, none,.mv (.t 3)⟩,⟨some 6, none,.fadr 1 (.t 1)⟩,⟨some 7, none,.load false 1 (.t 6)⟩,⟨some 8, none,.len (.t 7)⟩,⟨some 9, none,.bin .lss (.t 5) (.t 8)⟩] [1,3,9] []
def z145r3:IC:=.reg [⟨some 12, none,.fadr 1 (.t 1)⟩,⟨some 13, none,.load false 1 (.t 12)⟩,⟨some 14, none,.mv (.t 3)⟩,⟨some 15, none,.iadr 2 (.t 13) (.t 14)⟩,⟨some 16, none,.load true 2 (.t 15)⟩,⟨some 4, none,.alloc [(vi 0),(vi 0)]⟩,⟨none,none,.store 2 (.t 4) (.t 16)⟩] [1,3,4] []
def z145r4:IC:=.reg [⟨some 17, none,.fadr 0 (.t 4)⟩,⟨some 18, none,.load false 1 (.t 17)⟩,⟨some 19, none,.bin .lss (.t 18) (.c (vi 0))⟩,⟨some 20, none,.asg (.t 19)⟩,⟨some 21, (some (20,false)),.fadr 0 (.t 4)⟩,⟨some 22, (some (20,false)),.load false 1 (.t 21)⟩,⟨some 23, (some (20,false)),.fadr 1 (.t 4)⟩,⟨some 24, (some (20,false)),.load false 1 (.t 23)⟩,⟨some 25, (some (20,false)),.bin .geq (.t 22) (.t 24)⟩,⟨some 26, none,.pick (.t 20) (.c (.bool true)) (.t 25)⟩,⟨some 27, none,.asg (.t 26)⟩,⟨some 28, (some (27,false)),.fadr 1 (.t 4)⟩,⟨some 29, (some (27,false)),.load false 1 (.t 28)⟩,⟨some 30, (some (27,false)),.fadr 0 (.t 1)⟩,⟨some 31, (some (27,false)),.load false 1 (.t 30)⟩,⟨some 32, (some (27,false)),.bin .geq (.t 29) (.t 31)⟩,⟨some 33, none,.pick (.t 27) (.c (.bool true)) (.t 32)⟩,⟨some 34, none,.asg (.t 33)⟩,⟨some 35, (some (34,false)),.mv (.t 3)⟩,
    ⟨some 36, (some (34,false)),.bin .gtr (.t 35) (.c (vi 0))⟩,⟨some 37, (some (34,false)),.asg (.t 36)⟩,⟨some 38, (some (37,true)),.fadr 1 (.t 1)⟩,⟨some 39, (some (37,true)),.load false 1 (.t 38)⟩,⟨some 40, (some (37,true)),.mv (.t 3)⟩,⟨some 41, (some (37,true)),.bin .sub (.t 40) (.c (vi 1))⟩,⟨some 42, (some (37,true)),.iadr 2 (.t 39) (.t 41)⟩,⟨some 43, (some (37,true)),.load true 2 (.t 42)⟩,⟨some 44, (some (37,true)),.load true 2 (.t 4)⟩,⟨some 45, (some (37,true)),.call zl126 [(.val,(.t 43)),(.val,(.t 44))] true⟩,⟨some 46, (some (37,true)),.unop .not (.t 45)⟩,⟨some 47, (some (34,false)),.pick (.t 37) (.t 46) (.c (.bool false))⟩,⟨some 48, none,.pick (.t 34) (.c (.bool true)) (.t 47)⟩] [1,3,48] []
def z145r5:IC:=.reg [⟨some 2, none,.asg (.c (.bool false))⟩] [2] []
def z145r6:IC:=.reg [⟨some 10, none,.mv (.t 3)⟩,⟨some 11, none,.bin .add (.t 10) (.c (vi 1))⟩,⟨some 3, none,.asg (.t 11)⟩] [1,3] []
def z145l7:IC:=(.seq (.seq z145r2 (.cond (.t 9) .skip (.exit 0))) (.seq (.block 1 (.seq z145r3 (.seq z145r4 (.cond (.t 48) (.seq z145r5 .ret) .skip)))) z145r6))
def z145r8:IC:=.reg [⟨some 49, none,.fadr 0 (.t 1)⟩,⟨some 50, none,.load false 1 (.t 49)⟩,⟨some 51, none,.call zl132 [(.val,(.t 50)),(.val,(.c (vi 0))),(.val,(.c (vi 7)))] true⟩,⟨some 2, none,.asg (.t 51)⟩] [2] []
def zi145:IFun:=⟨[.t 2],[],(.seq z145r0 (.seq (.seq z145r1 (.block 0 (.loop z145l7))) (.seq z145r8 .ret)))⟩
def tbl:List (Nat×IFun):=[(zl153,zi153),(zl408,zi408),(zl409,zi409),(zl167,zi167),(zl410,zi410),(zl170,zi170),(zl171,zi171),(zl172,zi172),(zl174,zi174),(zl175,zi175),(zl411,zi411),(zl26,zi26),(zl204,zi204),(zl32,zi32),(zl36,zi36),(zl38,zi38),(zl212,zi212),(zl214,zi214),(zl423,zi423),(zl48,zi48),(zl49,zi49),(zl50,zi50),(zl239,zi239),(zl240,zi240),(zl56,zi56),(zl57,zi57),(zl60,zi60),(zl61,zi61),(zl62,zi62),(zl63,zi63),(zl64,zi64),(zl66,zi66),(zl68,zi68),(zl257,zi257),(zl258,zi258),(zl70,zi70),(zl261,zi261),(zl263,zi263),(zl265,zi265),(zl268,zi268),(zl448,zi448),(zl269,zi269),(zl272,zi272),(zl274,zi274),(zl450,zi450),(zl277,zi277),(zl454,zi454),(zl91,zi91),(zl456,zi456),(zl282,zi282),(zl283,zi283),(zl285,zi285),(zl106,zi106),(zl293,zi293),(zl335,zi335),(zl342,zi342),(zl343,zi343),(zl348,zi348),(zl126,zi126),(zl131,zi131),(zl132,zi132),(zl354,zi354),(zl445,zi445),(zl383,zi383),(zl145,zi145)]
def tb:Tbl:=tbOf tbl
theorem zt153:tb zl153=some zi153:=by kernel_rfl
theorem zt408:tb zl408=some zi408:=by kernel_rfl
theorem zt409:tb zl409=some zi409:=by kernel_rfl
theorem zt167:tb zl167=some zi167:=by kernel_rfl
theorem zt410:tb zl410=some zi410:=by kernel_rfl
theorem zt170:tb zl170=some zi170:=by kernel_rfl
theorem zt171:tb zl171=some zi171:=by kernel_rfl
theorem zt172:tb zl172=some zi172:=by kernel_rfl
theorem zt174:tb zl174=some zi174:=by kernel_rfl
theorem zt175:tb zl175=some zi175:=by kernel_rfl
theorem zt411:tb zl411=some zi411:=by kernel_rfl
theorem zt26:tb zl26=some zi26:=by kernel_rfl
theorem zt204:tb zl204=some zi204:=by kernel_rfl
theorem zt32:tb zl32=some zi32:=by kernel_rfl
theorem zt36:tb zl36=some zi36:=by kernel_rfl
theorem zt38:tb zl38=some zi38:=by kernel_rfl
theorem zt212:tb zl212=some zi212:=by kernel_rfl
theorem zt214:tb zl214=some zi214:=by kernel_rfl
theorem zt423:tb zl423=some zi423:=by kernel_rfl
theorem zt48:tb zl48=some zi48:=by kernel_rfl
theorem zt49:tb zl49=some zi49:=by kernel_rfl
theorem zt50:tb zl50=some zi50:=by kernel_rfl
theorem zt239:tb zl239=some zi239:=by kernel_rfl
theorem zt240:tb zl240=some zi240:=by kernel_rfl
theorem zt56:tb zl56=some zi56:=by kernel_rfl
theorem zt57:tb zl57=some zi57:=by kernel_rfl
theorem zt60:tb zl60=some zi60:=by kernel_rfl
theorem zt61:tb zl61=some zi61:=by kernel_rfl
theorem zt62:tb zl62=some zi62:=by kernel_rfl
theorem zt63:tb zl63=some zi63:=by kernel_rfl
theorem zt64:tb zl64=some zi64:=by kernel_rfl
theorem zt66:tb zl66=some zi66:=by kernel_rfl
theorem zt68:tb zl68=some zi68:=by kernel_rfl
theorem zt257:tb zl257=some zi257:=by kernel_rfl
theorem zt258:tb zl258=some zi258:=by kernel_rfl
theorem zt70:tb zl70=some zi70:=by kernel_rfl
theorem zt261:tb zl261=some zi261:=by kernel_rfl
theorem zt263:tb zl263=some zi263:=by kernel_rfl
theorem zt265:tb zl265=some zi265:=by kernel_rfl
theorem zt268:tb zl268=some zi268:=by kernel_rfl
theorem zt448:tb zl448=some zi448:=by kernel_rfl
theorem zt269:tb zl269=some zi269:=by kernel_rfl
theorem zt272:tb zl272=some zi272:=by kernel_rfl
theorem zt274:tb zl274=some zi274:=by kernel_rfl
theorem zt450:tb zl450=some zi450:=by kernel_rfl
theorem zt277:tb zl277=some zi277:=by kernel_rfl
theorem zt454:tb zl454=some zi454:=by kernel_rfl
theorem zt91:tb zl91=some zi91:=by kernel_rfl
theorem zt456:tb zl456=some zi456:=by kernel_rfl
theorem zt282:tb zl282=some zi282:=by kernel_rfl
theorem zt283:tb zl283=some zi283:=by kernel_rfl
theorem zt285:tb zl285=some zi285:=by kernel_rfl
theorem zt106:tb zl106=some zi106:=by kernel_rfl
theorem zt293:tb zl293=some zi293:=by kernel_rfl
theorem zt335:tb zl335=some zi335:=by kernel_rfl
theorem zt342:tb zl342=some zi342:=by kernel_rfl
theorem zt343:tb zl343=some zi343:=by kernel_rfl
theorem zt348:tb zl348=some zi348:=by kernel_rfl
theorem zt126:tb zl126=some zi126:=by kernel_rfl
theorem zt131:tb zl131=some zi131:=by kernel_rfl
theorem zt132:tb zl132=some zi132:=by kernel_rfl
theorem zt354:tb zl354=some zi354:=by kernel_rfl
theorem zt445:tb zl445=some zi445:=by kernel_rfl
theorem zt383:tb zl383=some zi383:=by kernel_rfl
theorem zt145:tb zl145=some zi145:=by kernel_rfl
end Go.Idl
