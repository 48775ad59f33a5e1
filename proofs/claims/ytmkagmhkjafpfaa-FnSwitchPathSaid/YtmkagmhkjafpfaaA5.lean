/- Part 5 of a proof by an ideal interpreter of the code: its definitions and lemmas. Conditions: none. -/
import Derived.KernelRfl
import Derived.Test.YtmkagmhkjafpfaaA4
set_option linter.all false
set_option linter.unusedVariables false
set_option linter.unusedSimpArgs false
namespace Go.Idl
open Go
abbrev vi (n:Int):Value:=.int .i64 n
abbrev zl9:Lab:=9
abbrev Qy2:Lab:=26
abbrev Jal:Lab:=32
abbrev Jbh:Lab:=36
abbrev Jmz:Lab:=38
abbrev Jos:Lab:=53
abbrev Jkz:Lab:=66
abbrev zl67:Lab:=67
abbrev Jqa:Lab:=68
abbrev Jth:Lab:=91
abbrev Qwl:Lab:=106
abbrev Qo9:Lab:=118
abbrev Qv7:Lab:=122
abbrev Qs2:Lab:=126
abbrev Qyq:Lab:=129
abbrev Qjh:Lab:=130
abbrev Qy3:Lab:=132
abbrev Qyr:Lab:=137
abbrev Qty:Lab:=138
abbrev Qmm:Lab:=139
abbrev Qgh:Lab:=140
abbrev Qpl:Lab:=145
abbrev Qta:Lab:=161
abbrev Qp4:Lab:=163
abbrev Qqe:Lab:=167
abbrev Qkz:Lab:=171
abbrev Qxa:Lab:=173
abbrev Qye:Lab:=196
abbrev Qqh:Lab:=203
abbrev Qub:Lab:=204
abbrev Quq:Lab:=214
abbrev Qxf:Lab:=216
abbrev Qss:Lab:=237
abbrev Qx5:Lab:=238
abbrev Qzk:Lab:=258
abbrev Qqp:Lab:=260
abbrev Qtu:Lab:=261
abbrev Qyj:Lab:=263
abbrev Qwv:Lab:=265
abbrev Qwp:Lab:=269
abbrev Qte:Lab:=272
abbrev Quf:Lab:=274
abbrev Jv9:Lab:=276
abbrev Qt7:Lab:=277
abbrev Qua:Lab:=282
abbrev Quk:Lab:=283
abbrev Jqh:Lab:=284
abbrev Qm7:Lab:=285
abbrev Jvh:Lab:=286
abbrev Qt0:Lab:=335
abbrev Qt4:Lab:=348
abbrev Qt8:Lab:=362
abbrev Qtk:Lab:=375
abbrev Qtc:Lab:=378
abbrev Qtr:Lab:=383
abbrev Qsw:Lab:=384
abbrev Qud:Lab:=410
abbrev Qx0:Lab:=411
abbrev Qz3:Lab:=448
abbrev Qyc:Lab:=450
abbrev Jdx:Lab:=452
abbrev Jaf:Lab:=454
abbrev Qnz:Lab:=456
abbrev Qtq:Lab:=458
abbrev Qlu:Lab:=464
abbrev Qsu:Lab:=465
abbrev Jbz:Lab:=471
abbrev Qqf:Lab:=472
abbrev Qup:Lab:=475
abbrev Qvw:Lab:=477
abbrev Qtl:Lab:=479
abbrev Qvb:Lab:=480
abbrev Qx7:Lab:=487
abbrev Qqy:Lab:=489
abbrev Qsq:Lab:=490
abbrev Qsr:Lab:=491
abbrev Quh:Lab:=495
def Jwf:IC:=.reg [⟨some 1, none,.box (.t 0)⟩,⟨some 2, none,.asg (.c (.slice none 0 0))⟩] [1] []
def Jnr:IC:=.reg [⟨some 3, none,.load true 2 (.t 1)⟩,⟨some 4, none,.call Qy2 [(.rd,(.t 3))] true⟩,⟨some 5, none,.unop .not (.t 4)⟩] [1,5] []
def Jnp:IC:=.reg [⟨some 2, none,.asg (.c (.slice none 0 0))⟩] [2] []
def Jxq:IC:=.reg [⟨some 6, none,.load true 2 (.t 1)⟩,⟨some 7, none,.call zl9 [(.rd,(.t 6))] true⟩,⟨some 2, none,.asg (.t 7)⟩] [2] []
def Jds:Qbl:=⟨[.t 2],[],(.seq Jwf (.seq (.seq Jnr (.cond (.t 5) (.seq Jnp .ret) .skip)) (.seq Jxq .ret)))⟩
def Jtg:IC:=.reg [⟨some 2, none,.box (.t 0)⟩,⟨some 3, none,.box (.t 1)⟩,⟨some 4, none,.asg (.c (vi 0))⟩] [2,3] []
def Jwc:IC:=.reg [⟨some 8, none,.load true 2 (.t 2)⟩,⟨some 9, none,.load true 2 (.t 3)⟩,⟨some 10, none,.call Qqh [(.rd,(.t 8)),(.rd,(.t 9))] true⟩,⟨some 11, none,.unop .not (.t 10)⟩] [2,3,11] []
def Jmq:IC:=.reg [⟨some 4, none,.asg (.c (vi (-1)))⟩] [4] []
def Jsl:IC:=.reg [⟨some 5, none,.asg (.c (vi 0))⟩] [2,3,5] []
def Jtl:IC:=.reg [⟨some 12, none,.fadr 0 (.t 2)⟩,⟨some 13, none,.load false 1 (.t 12)⟩,⟨some 14, none,.call Qxf [(.val,(.t 13))] true⟩,⟨some 15, none,.len (.t 14)⟩,⟨some 16, none,.mv (.c (vi 0))⟩] [2,3,5,14,15,16] []
def Jwg:IC:=.reg [⟨some 17, none,.bin .lss (.t 16) (.t 15)⟩] [2,3,5,14,15,16,17] []
def Jwl:IC:=.reg [⟨some 18, none,.iadr 2 (.t 14) (.t 16)⟩,⟨some 19, none,.load true 2 (.t 18)⟩,⟨some 7, none,.alloc [(vi 0),(vi 0)]⟩,⟨none,none,.store 2 (.t 7) (.t 19)⟩] [2,3,5,7,14,15,16] []
def Jp6:IC:=.reg [⟨some 20, none,.load true 2 (.t 2)⟩,⟨some 21, none,.fadr 0 (.t 7)⟩,⟨some 22, none,.load false 1 (.t 21)⟩,⟨some 23, none,.fadr 1 (.t 7)⟩,⟨some 24, none,.load false 1 (.t 23)⟩,⟨some 25, none,.call Qkz [(.rd,(.t 20)),(.val,(.t 22)),(.val,(.t 24))] true⟩,⟨some 26, none,.load true 2 (.t 3)⟩,⟨some 27, none,.fadr 0 (.t 7)⟩,⟨some 28, none,.load false 1 (.t 27)⟩,⟨some 29, none,.fadr 1 (.t 7)⟩,⟨some 30, none,.load false 1 (.t 29)⟩,⟨some 31, none,.call Qkz [(.rd,(.t 26)),(.val,(.t 28)),(.val,(.t 30))] true⟩,⟨some 32, none,.eqb true (.t 25) (.t 31)⟩] [2,3,5,14,15,16,32] [[0,1,2,3,4,7,9,10,5,6,8,11,12],[0,1,2,3,4,7,8,5,6,9,10,11,12],[0,1,2,3,4,7,8,9,10,5,6,11,12],[0,1,2,3,4,6,5,7,8,9,10,11,12],[0,1,2,3,4,6,7,9,10,5,8,11,12],[0,1,2,3,4,6,7,8,5,9,10,11,12],[0,1,2,3,4,6,7,8,9,10,5,11,12]]
def Juv:IC:=.reg [⟨some 33, none,.mv (.t 5)⟩,⟨some 34, none,.bin .add (.t 33) (.c (vi 1))⟩,⟨some 5, none,.asg (.t 34)⟩] [2,3,5,14,15,16] []
def Jvm:IC:=.reg [⟨some 35, none,.bin .add (.t 16) (.c (vi 1))⟩,⟨some 16, none,.asg (.t 35)⟩] [2,3,5,14,15,16] []
def Qwy:IC:=(.seq Jwg (.seq (.cond (.t 17) .skip (.exit 0)) (.seq (.block 1 (.seq Jwl (.seq Jp6 (.cond (.t 32) Juv .skip)))) Jvm)))
def Jgq:IC:=.reg [⟨some 36, none,.mv (.t 5)⟩,⟨some 4, none,.asgm (.t 36)⟩] [4] []
def Qw9:Qbl:=⟨[.t 4],[],(.seq Jtg (.seq (.seq Jwc (.cond (.t 11) (.seq Jmq .ret) .skip)) (.seq Jsl (.seq (.seq Jtl (.block 0 (.loop Qwy))) (.seq Jgq .ret)))))⟩
def Jxn:IC:=.reg [⟨some 2, none,.box (.t 0)⟩,⟨some 3, none,.box (.t 1)⟩,⟨some 4, none,.alloc [(vi 0),(.slice none 0 0)]⟩,⟨some 5, none,.asg (.c (.bool false))⟩] [2,3,4] []
def Jvx:IC:=.reg [⟨some 8, none,.load true 4 (.t 3)⟩,⟨some 9, none,.call Qx0 [(.val,(.t 8))] true⟩,⟨some 10, none,.unop .not (.t 9)⟩,⟨some 11, none,.asg (.t 10)⟩,⟨some 12, (some (11,false)),.load true 2 (.t 2)⟩,⟨some 13, (some (11,false)),.fadr 0 (.t 3)⟩,⟨some 14, (some (11,false)),.load false 1 (.t 13)⟩,⟨some 15, (some (11,false)),.fadr 1 (.t 3)⟩,⟨some 16, (some (11,false)),.load false 1 (.t 15)⟩,⟨some 17, (some (11,false)),.call Qkz [(.rd,(.t 12)),(.val,(.t 14)),(.val,(.t 16))] true⟩,⟨some 18, (some (11,false)),.unop .not (.t 17)⟩,⟨some 19, none,.pick (.t 11) (.c (.bool true)) (.t 18)⟩,⟨some 20, none,.asg (.t 19)⟩,⟨some 21, (some (20,false)),.load true 2 (.t 2)⟩,⟨some 22, (some (20,false)),.fadr 2 (.t 3)⟩,⟨some 23, (some (20,false)),.load false 1 (.t 22)⟩,⟨some 24, (some (20,false)),.fadr 3 (.t 3)⟩,⟨some 25, (some (20,false)),.load false 1 (.t 24)⟩,
    ⟨some 26, (some (20,false)),.call Qkz [(.rd,(.t 21)),(.val,(.t 23)),(.val,(.t 25))] true⟩,⟨some 27, (some (20,false)),.unop .not (.t 26)⟩,⟨some 28, none,.pick (.t 20) (.c (.bool true)) (.t 27)⟩,⟨some 29, none,.asg (.t 28)⟩,⟨some 30, (some (29,false)),.load true 2 (.t 2)⟩,⟨some 31, (some (29,false)),.fadr 0 (.t 3)⟩,⟨some 32, (some (29,false)),.load false 1 (.t 31)⟩,⟨some 33, (some (29,false)),.fadr 2 (.t 3)⟩,⟨some 34, (some (29,false)),.load false 1 (.t 33)⟩,⟨some 35, (some (29,false)),.call Qkz [(.rd,(.t 30)),(.val,(.t 32)),(.val,(.t 34))] true⟩,⟨some 36, none,.pick (.t 29) (.c (.bool true)) (.t 35)⟩,⟨some 37, none,.asg (.t 36)⟩,⟨some 38, (some (37,false)),.load true 2 (.t 2)⟩,⟨some 39, (some (37,false)),.fadr 1 (.t 3)⟩,⟨some 40, (some (37,false)),.load false 1 (.t 39)⟩,⟨some 41, (some (37,false)),.fadr 3 (.t 3)⟩,⟨some 42, (some (37,false)),.load false 1 (.t 41)⟩,
    ⟨some 43, (some (37,false)),.call Qkz [(.rd,(.t 38)),(.val,(.t 40)),(.val,(.t 42))] true⟩,⟨some 44, none,.pick (.t 37) (.c (.bool true)) (.t 43)⟩] [2,3,4,44] []
def Jrg:IC:=.reg [⟨some 45, none,.build [(vi 0),(.slice none 0 0)] []⟩,⟨none,none,.store 2 (.t 4) (.t 45)⟩,⟨some 5, none,.asg (.c (.bool false))⟩] [4,5] []
def Jlx:IC:=.reg [⟨some 46, none,.fadr 1 (.t 2)⟩,⟨some 47, none,.load false 1 (.t 46)⟩,⟨some 48, none,.call Qtu [(.rd,(.t 47))] true⟩,⟨some 49, none,.mkfn Qud [(.t 3)]⟩,⟨some 50, none,.call Qwv [(.tk,(.t 48)),(.val,(.t 49))] false⟩,⟨some 6, none,.asg (.t 50)⟩] [2,3,4,6] []
def Jvc:IC:=.regd [⟨some 51, none,.fadr 0 (.t 2)⟩,⟨some 52, none,.load false 1 (.t 51)⟩,⟨some 53, none,.mv (.t 6)⟩,⟨some 54, none,.fadr 0 (.t 3)⟩,⟨some 55, none,.load false 1 (.t 54)⟩,⟨some 56, none,.fadr 2 (.t 3)⟩,⟨some 57, none,.load false 1 (.t 56)⟩,⟨some 58, none,.call Jbh [(.val,(.t 55)),(.val,(.t 57))] true⟩,⟨some 59, none,.fadr 1 (.t 3)⟩,⟨some 60, none,.load false 1 (.t 59)⟩,⟨some 61, none,.fadr 3 (.t 3)⟩,⟨some 62, none,.load false 1 (.t 61)⟩,⟨some 63, none,.call Jbh [(.val,(.t 60)),(.val,(.t 62))] true⟩,⟨some 64, none,.bsl 2 [(vi 0),(vi 0)] 2 [(0,(.t 58)),(1,(.t 63))]⟩,⟨some 65, none,.app 2 (.t 53) (.t 64)⟩,⟨some 66, none,.callq Quq [(.val,(.t 52)),(.rv,(.t 65))]⟩,⟨some 7, none,.alloc [(vi 0),(.slice none 0 0)]⟩,
    ⟨none,none,.store 2 (.t 7) (.t 66)⟩] [0,1,2,3,4,5,6,7,8,9,10,11,12,13,14,15,16,17] [4,7] [[0,1,3,4,5,6,7,8,9,10,11,12,13,2,14,15,16,17],[0,2,3,4,5,6,7,8,9,10,11,12,13,1,14,15,16,17],[0,2,3,4,5,6,7,8,9,10,11,12,13,14,1,15,16,17],[0,3,4,5,6,7,8,9,10,11,12,13,1,2,14,15,16,17],[0,3,4,5,6,7,8,9,10,11,12,13,2,14,1,15,16,17],[2,3,4,5,6,7,8,9,10,11,12,13,0,1,14,15,16,17],[2,3,4,5,6,7,8,9,10,11,12,13,0,14,1,15,16,17],[2,3,4,5,6,7,8,9,10,11,12,13,14,0,1,15,16,17],[3,4,5,6,7,8,9,10,11,12,13,0,1,2,14,15,16,17],[3,4,5,6,7,8,9,10,11,12,13,0,2,14,1,15,16,17],[3,4,5,6,7,8,9,10,11,12,13,2,14,0,1,15,16,17]]
def Jlk:IC:=.reg [⟨some 67, none,.load true 2 (.t 7)⟩,⟨some 68, none,.load true 2 (.t 7)⟩,⟨some 69, none,.call Qy2 [(.rd,(.t 68))] true⟩,⟨none,none,.store 2 (.t 4) (.t 67)⟩,⟨some 5, none,.asg (.t 69)⟩] [4,5] [[1,2,0,3,4]]
def Ql3:Qbl:=⟨[.c 4 2 true,.t 5],[],(.seq Jxn (.seq (.seq Jvx (.cond (.t 44) (.seq Jrg .ret) .skip)) (.seq Jlx (.seq Jvc (.seq Jlk .ret)))))⟩
def Jqm:IC:=.reg [⟨some 2, none,.box (.t 0)⟩,⟨some 3, none,.asg (.c (.bool false))⟩] [1,2] []
def Jmj:IC:=.reg [⟨some 4, none,.load true 2 (.t 2)⟩,⟨some 5, none,.fadr 0 (.t 1)⟩,⟨some 6, none,.load false 1 (.t 5)⟩,⟨some 7, none,.fadr 1 (.t 1)⟩,⟨some 8, none,.load false 1 (.t 7)⟩,⟨some 9, none,.call Jbh [(.val,(.t 6)),(.val,(.t 8))] true⟩,⟨some 10, none,.eqa false 2 (.t 4) (.t 9)⟩,⟨some 11, none,.asg (.t 10)⟩,⟨some 12, (some (11,false)),.load true 2 (.t 2)⟩,⟨some 13, (some (11,false)),.fadr 2 (.t 1)⟩,⟨some 14, (some (11,false)),.load false 1 (.t 13)⟩,⟨some 15, (some (11,false)),.fadr 3 (.t 1)⟩,⟨some 16, (some (11,false)),.load false 1 (.t 15)⟩,⟨some 17, (some (11,false)),.call Jbh [(.val,(.t 14)),(.val,(.t 16))] true⟩,⟨some 18, (some (11,false)),.eqa false 2 (.t 12) (.t 17)⟩,⟨some 19, none,.pick (.t 11) (.c (.bool true)) (.t 18)⟩,
    ⟨some 3, none,.asg (.t 19)⟩] [3] [[0,1,2,3,4,5,6,7,9,10,11,12,13,8,14,15,16],[1,2,3,4,5,0,6,7,8,9,10,11,12,13,14,15,16],[1,2,3,4,5,0,6,7,9,10,11,12,13,8,14,15,16]]
def Qkx:Qbl:=⟨[.t 3],[],(.seq Jqm (.seq Jmj .ret))⟩
def z9r0:IC:=.reg [⟨some 1, none,.box (.t 0)⟩,⟨some 2, none,.asg (.c (.slice none 0 0))⟩] [1] []
def z9r1:IC:=.reg [⟨some 6, none,.fadr 0 (.t 1)⟩,⟨some 7, none,.load false 1 (.t 6)⟩,⟨some 8, none,.mksl 1 [(vi 0)] (.t 7) (.t 7)⟩,⟨some 3, none,.asg (.t 8)⟩] [1,3] []
def z9r2:IC:=.reg [⟨some 9, none,.fadr 1 (.t 1)⟩,⟨some 10, none,.load false 1 (.t 9)⟩,⟨some 11, none,.len (.t 10)⟩,⟨some 12, none,.mv (.c (vi 0))⟩] [1,3,10,11,12] []
def z9r3:IC:=.reg [⟨some 13, none,.bin .lss (.t 12) (.t 11)⟩] [1,3,10,11,12,13] []
def z9r4:IC:=.reg [⟨some 14, none,.iadr 2 (.t 10) (.t 12)⟩,⟨some 15, none,.load true 2 (.t 14)⟩,⟨some 5, none,.alloc [(vi 0),(vi 0)]⟩,⟨none,none,.store 2 (.t 5) (.t 15)⟩] [1,3,5,10,11,12] []
def z9r5:IC:=.reg [⟨some 16, none,.mv (.t 3)⟩,⟨some 17, none,.fadr 0 (.t 5)⟩,⟨some 18, none,.load false 1 (.t 17)⟩,⟨some 19, none,.iadr 1 (.t 16) (.t 18)⟩,⟨some 20, none,.load false 1 (.t 19)⟩,⟨some 21, none,.bin .add (.t 20) (.c (vi 1))⟩,⟨some 22, none,.iadr 1 (.t 16) (.t 18)⟩,⟨none,none,.store 1 (.t 22) (.t 21)⟩] [1,3,5,10,11,12] []
def z9r6:IC:=.reg [⟨some 23, none,.mv (.t 3)⟩,⟨some 24, none,.fadr 1 (.t 5)⟩,⟨some 25, none,.load false 1 (.t 24)⟩,⟨some 26, none,.iadr 1 (.t 23) (.t 25)⟩,⟨some 27, none,.load false 1 (.t 26)⟩,⟨some 28, none,.bin .add (.t 27) (.c (vi 1))⟩,⟨some 29, none,.iadr 1 (.t 23) (.t 25)⟩,⟨none,none,.store 1 (.t 29) (.t 28)⟩] [1,3,10,11,12] []
def z9r7:IC:=.reg [⟨some 30, none,.bin .add (.t 12) (.c (vi 1))⟩,⟨some 12, none,.asg (.t 30)⟩] [1,3,10,11,12] []
def z9l8:IC:=(.seq z9r3 (.seq (.cond (.t 13) .skip (.exit 0)) (.seq (.block 1 (.seq z9r4 (.seq z9r5 z9r6))) z9r7)))
def z9r9:IC:=.reg [⟨some 31, none,.mv (.t 3)⟩,⟨some 2, none,.asgm (.t 31)⟩] [2,3] []
def zi9:Qbl:=⟨[.t 2],[],(.seq z9r0 (.seq z9r1 (.seq (.seq z9r2 (.block 0 (.loop z9l8))) (.seq z9r9 .ret))))⟩
def Jqc:IC:=.reg [⟨some 3, none,.box (.t 0)⟩,⟨some 6, none,.asg (.c (.bool false))⟩] [1,2,3] []
def Jvu:IC:=.reg [⟨some 7, none,.fadr 1 (.t 3)⟩,⟨some 8, none,.load false 1 (.t 7)⟩,⟨some 9, none,.mv (.t 1)⟩,⟨some 10, none,.mv (.t 2)⟩,⟨some 11, none,.call Jbh [(.val,(.t 9)),(.val,(.t 10))] true⟩,⟨some 12, none,.call Qyj [(.rd,(.t 8)),(.val,(.t 11))] true⟩,⟨some 6, none,.asg (.t 12)⟩] [6] [[0,2,3,4,1,5,6]]
def Jdc:Qbl:=⟨[.t 6],[],(.seq Jqc (.seq Jvu .ret))⟩
def Jt8:IC:=.reg [⟨some 2, none,.box (.t 0)⟩,⟨some 3, none,.box (.t 1)⟩,⟨some 4, none,.asg (.c (.bool false))⟩] [2,3] []
def Jl6:IC:=.reg [⟨some 5, none,.fadr 0 (.t 2)⟩,⟨some 6, none,.load false 1 (.t 5)⟩,⟨some 7, none,.fadr 0 (.t 3)⟩,⟨some 8, none,.load false 1 (.t 7)⟩,⟨some 9, none,.bin .eql (.t 6) (.t 8)⟩,⟨some 10, none,.asg (.t 9)⟩,⟨some 11, (some (10,true)),.fadr 1 (.t 2)⟩,⟨some 12, (some (10,true)),.load false 1 (.t 11)⟩,⟨some 13, (some (10,true)),.fadr 1 (.t 3)⟩,⟨some 14, (some (10,true)),.load false 1 (.t 13)⟩,⟨some 15, (some (10,true)),.call Qvw [(.rd,(.t 12)),(.rd,(.t 14))] true⟩,⟨some 16, none,.pick (.t 10) (.t 15) (.c (.bool false))⟩,⟨some 4, none,.asg (.t 16)⟩] [4] []
def Qw6:Qbl:=⟨[.t 4],[],(.seq Jt8 (.seq Jl6 .ret))⟩
def Jr6:IC:=.reg [⟨some 1, none,.box (.t 0)⟩,⟨some 2, none,.asg (.c (.slice none 0 0))⟩] [1] []
def Jw4:IC:=.reg [⟨some 3, none,.asg (.c (.slice none 0 0))⟩] [1,3] []
def Jtr:IC:=.reg [⟨some 12, none,.fadr 1 (.t 1)⟩,⟨some 13, none,.load false 1 (.t 12)⟩,⟨some 14, none,.len (.t 13)⟩,⟨some 15, none,.mv (.c (vi 0))⟩] [1,3,13,14,15] []
def Jxl:IC:=.reg [⟨some 16, none,.bin .lss (.t 15) (.t 14)⟩] [1,3,13,14,15,16] []
def Jno:IC:=.reg [⟨some 17, none,.asg (.t 15)⟩,⟨some 18, none,.iadr 2 (.t 13) (.t 15)⟩,⟨some 19, none,.load true 2 (.t 18)⟩,⟨some 5, none,.alloc [(vi 0),(vi 0)]⟩,⟨some 4, none,.asg (.t 17)⟩,⟨none,none,.store 2 (.t 5) (.t 19)⟩] [1,3,4,5,13,14,15] []
def Juq:IC:=.reg [⟨some 20, none,.fadr 1 (.t 1)⟩,⟨some 21, none,.load false 1 (.t 20)⟩,⟨some 22, none,.mv (.t 4)⟩,⟨some 23, none,.bin .add (.t 22) (.c (vi 1))⟩,⟨some 24, none,.slc 2 (.t 21) (some (.t 23)) none none⟩,⟨some 25, none,.len (.t 24)⟩,⟨some 26, none,.mv (.c (vi 0))⟩] [1,3,5,13,14,15,24,25,26] []
def Jo1:IC:=.reg [⟨some 27, none,.bin .lss (.t 26) (.t 25)⟩] [1,3,5,13,14,15,24,25,26,27] []
def Jq2:IC:=.reg [⟨some 28, none,.iadr 2 (.t 24) (.t 26)⟩,⟨some 29, none,.load true 2 (.t 28)⟩,⟨some 7, none,.alloc [(vi 0),(vi 0)]⟩,⟨none,none,.store 2 (.t 7) (.t 29)⟩] [1,3,5,7,13,14,15,24,25,26] []
def Jrr:IC:=.reg [⟨some 30, none,.fadr 0 (.t 5)⟩,⟨some 31, none,.load false 1 (.t 30)⟩,⟨some 32, none,.fadr 1 (.t 5)⟩,⟨some 33, none,.load false 1 (.t 32)⟩,⟨some 34, none,.fadr 0 (.t 7)⟩,⟨some 35, none,.load false 1 (.t 34)⟩,⟨some 36, none,.fadr 1 (.t 7)⟩,⟨some 37, none,.load false 1 (.t 36)⟩,⟨some 38, none,.build [(vi 0),(vi 0),(vi 0),(vi 0)] [(0,1,(.t 31)),(1,1,(.t 33)),(2,1,(.t 35)),(3,1,(.t 37))]⟩,⟨some 39, none,.fadr 0 (.t 5)⟩,⟨some 40, none,.load false 1 (.t 39)⟩,⟨some 41, none,.fadr 1 (.t 5)⟩,⟨some 42, none,.load false 1 (.t 41)⟩,⟨some 43, none,.fadr 1 (.t 7)⟩,⟨some 44, none,.load false 1 (.t 43)⟩,⟨some 45, none,.fadr 0 (.t 7)⟩,⟨some 46, none,.load false 1 (.t 45)⟩,⟨some 47, none,.build [(vi 0),(vi 0),(vi 0),(vi 0)] [(0,1,(.t 40)),(1,1,(.t 42)),(2,1,(.t 44)),(3,1,(.t 46))]⟩,⟨some 48, none,.bsl 4 [(vi 0),(vi 0),(vi 0),(vi 0)] 2 [(0,(.t 38)),(1,(.t 47))]⟩,
    ⟨some 49, none,.len (.t 48)⟩,⟨some 50, none,.mv (.c (vi 0))⟩] [1,3,5,13,14,15,24,25,26,48,49,50] []
def Jrv:IC:=.reg [⟨some 51, none,.bin .lss (.t 50) (.t 49)⟩] [1,3,5,13,14,15,24,25,26,48,49,50,51] []
def Jht:IC:=.reg [⟨some 52, none,.iadr 4 (.t 48) (.t 50)⟩,⟨some 53, none,.load true 4 (.t 52)⟩,⟨some 9, none,.alloc [(vi 0),(vi 0),(vi 0),(vi 0)]⟩,⟨none,none,.store 4 (.t 9) (.t 53)⟩] [1,3,5,9,13,14,15,24,25,26,48,49,50] []
def Jkc:IC:=.reg [⟨some 55, none,.load true 2 (.t 1)⟩,⟨some 56, none,.load true 4 (.t 9)⟩,⟨some 57, none,.call Qqe [(.rd,(.t 55)),(.val,(.t 56))] true⟩,⟨some 54, none,.asg (.t 57)⟩,⟨some 58, none,.extr (.t 54) 0⟩,⟨some 59, none,.extr (.t 54) 1⟩,⟨some 10, none,.alloc [(vi 0),(.slice none 0 0)]⟩,⟨none,none,.store 2 (.t 10) (.t 58)⟩,⟨some 11, none,.asg (.t 59)⟩] [1,3,5,9,11,13,14,15,24,25,26,48,49,50] []
def Jh5:IC:=.reg [⟨some 60, none,.mv (.t 11)⟩] [1,3,5,9,13,14,15,24,25,26,48,49,50,60] []
def Jhm:IC:=.reg [⟨some 61, none,.mv (.t 3)⟩,⟨some 62, none,.load true 4 (.t 9)⟩,⟨some 63, none,.bsl 4 [(vi 0),(vi 0),(vi 0),(vi 0)] 1 [(0,(.t 62))]⟩,⟨some 64, none,.app 4 (.t 61) (.t 63)⟩,⟨some 3, none,.asg (.t 64)⟩] [1,3,5,13,14,15,24,25,26,48,49,50] []
def Jho:IC:=.reg [⟨some 65, none,.bin .add (.t 50) (.c (vi 1))⟩,⟨some 50, none,.asg (.t 65)⟩] [1,3,5,13,14,15,24,25,26,48,49,50] []
def Qm5:IC:=(.seq Jrv (.seq (.cond (.t 51) .skip (.exit 4)) (.seq (.block 5 (.seq Jht (.seq Jkc (.seq Jh5 (.cond (.t 60) Jhm .skip))))) Jho)))
def Jja:IC:=.reg [⟨some 66, none,.bin .add (.t 26) (.c (vi 1))⟩,⟨some 26, none,.asg (.t 66)⟩] [1,3,5,13,14,15,24,25,26] []
def Qqw:IC:=(.seq Jo1 (.seq (.cond (.t 27) .skip (.exit 2)) (.seq (.block 3 (.seq Jq2 (.seq Jrr (.block 4 (.loop Qm5))))) Jja)))
def Jhi:IC:=.reg [⟨some 67, none,.bin .add (.t 15) (.c (vi 1))⟩,⟨some 15, none,.asg (.t 67)⟩] [1,3,13,14,15] []
def Qxq:IC:=(.seq Jxl (.seq (.cond (.t 16) .skip (.exit 0)) (.seq (.block 1 (.seq Jno (.seq Juq (.block 2 (.loop Qqw))))) Jhi)))
def Jf7:IC:=.reg [⟨some 68, none,.mv (.t 3)⟩,⟨some 69, none,.call Qqp [(.tk,(.t 68))] true⟩,⟨some 2, none,.asg (.t 69)⟩] [2] []
def Qvq:Qbl:=⟨[.t 2],[],(.seq Jr6 (.seq Jw4 (.seq (.seq Jtr (.block 0 (.loop Qxq))) (.seq Jf7 .ret))))⟩
def Jsh:IC:=.reg [⟨some 2, none,.box (.t 0)⟩,⟨some 4, none,.alloc [(vi 0),(.slice none 0 0)]⟩,⟨some 5, none,.asg (.c (.bool false))⟩] [1,2,4] []
def Jvg:IC:=.reg [⟨some 11, none,.load true 2 (.t 2)⟩,⟨some 12, none,.call Qy2 [(.rd,(.t 11))] true⟩,⟨some 13, none,.unop .not (.t 12)⟩] [1,2,4,13] []
def Jon:IC:=.reg [⟨some 14, none,.build [(vi 0),(.slice none 0 0)] []⟩,⟨none,none,.store 2 (.t 4) (.t 14)⟩,⟨some 5, none,.asg (.c (.bool false))⟩] [4,5] []
def Jv4:IC:=.regd [⟨some 15, none,.fadr 0 (.t 2)⟩,⟨some 16, none,.load false 1 (.t 15)⟩,⟨some 17, none,.fadr 1 (.t 2)⟩,⟨some 18, none,.load false 1 (.t 17)⟩,⟨some 19, none,.callq Qub [(.rv,(.t 18))]⟩,⟨some 20, none,.build [(vi 0),(.slice none 0 0)] [(0,1,(.t 16)),(1,1,(.t 19))]⟩,⟨some 6, none,.alloc [(vi 0),(.slice none 0 0)]⟩,⟨none,none,.store 2 (.t 6) (.t 20)⟩] [0,1,2,3,4,5,6,7] [1,4,6] []
def Jv8:IC:=.reg [⟨some 21, none,.mv (.t 1)⟩,⟨some 22, none,.len (.t 21)⟩,⟨some 23, none,.mv (.c (vi 0))⟩] [1,4,6,21,22,23] []
def Jqo:IC:=.reg [⟨some 24, none,.bin .lss (.t 23) (.t 22)⟩] [1,4,6,21,22,23,24] []
def Jwj:IC:=.reg [⟨some 25, none,.iadr 4 (.t 21) (.t 23)⟩,⟨some 26, none,.load true 4 (.t 25)⟩,⟨some 8, none,.alloc [(vi 0),(vi 0),(vi 0),(vi 0)]⟩,⟨none,none,.store 4 (.t 8) (.t 26)⟩] [1,4,6,8,21,22,23] []
def Jt4:IC:=.reg [⟨some 28, none,.load true 2 (.t 6)⟩,⟨some 29, none,.load true 4 (.t 8)⟩,⟨some 30, none,.call Qqe [(.rd,(.t 28)),(.val,(.t 29))] true⟩,⟨some 27, none,.asg (.t 30)⟩,⟨some 31, none,.extr (.t 27) 0⟩,⟨some 32, none,.extr (.t 27) 1⟩,⟨some 9, none,.alloc [(vi 0),(.slice none 0 0)]⟩,⟨none,none,.store 2 (.t 9) (.t 31)⟩,⟨some 10, none,.asg (.t 32)⟩] [1,4,6,9,10,21,22,23] []
def Jxj:IC:=.reg [⟨some 33, none,.mv (.t 10)⟩,⟨some 34, none,.unop .not (.t 33)⟩] [1,4,6,9,21,22,23,34] []
def Jlm:IC:=.reg [⟨some 35, none,.build [(vi 0),(.slice none 0 0)] []⟩,⟨none,none,.store 2 (.t 4) (.t 35)⟩,⟨some 5, none,.asg (.c (.bool false))⟩] [4,5] []
def Jfv:IC:=.reg [⟨some 36, none,.load true 2 (.t 9)⟩,⟨none,none,.store 2 (.t 6) (.t 36)⟩] [1,4,6,21,22,23] []
def Jkf:IC:=.reg [⟨some 37, none,.bin .add (.t 23) (.c (vi 1))⟩,⟨some 23, none,.asg (.t 37)⟩] [1,4,6,21,22,23] []
def Qy4:IC:=(.seq Jqo (.seq (.cond (.t 24) .skip (.exit 0)) (.seq (.block 1 (.seq Jwj (.seq Jt4 (.seq (.seq Jxj (.cond (.t 34) (.seq Jlm .ret) .skip)) Jfv)))) Jkf)))
def Jh9:IC:=.reg [⟨some 38, none,.load true 2 (.t 6)⟩,⟨none,none,.store 2 (.t 4) (.t 38)⟩,⟨some 5, none,.asg (.c (.bool true))⟩] [4,5] []
def Qy5:Qbl:=⟨[.c 4 2 true,.t 5],[],(.seq Jsh (.seq (.seq Jvg (.cond (.t 13) (.seq Jon .ret) .skip)) (.seq Jv4 (.seq (.seq Jv8 (.block 0 (.loop Qy4))) (.seq Jh9 .ret)))))⟩
def Joc:IC:=.reg [⟨some 2, none,.box (.t 0)⟩,⟨some 3, none,.box (.t 1)⟩,⟨some 4, none,.nilo 4⟩,⟨some 5, none,.asg (.c (.bool false))⟩] [2,3] []
def Jst:IC:=.reg [⟨some 14, none,.load true 2 (.t 2)⟩,⟨some 15, none,.load true 2 (.t 3)⟩,⟨some 16, none,.call Qqh [(.rd,(.t 14)),(.rd,(.t 15))] true⟩,⟨some 17, none,.unop .not (.t 16)⟩,⟨some 18, none,.asg (.t 17)⟩,⟨some 19, (some (18,false)),.fadr 0 (.t 2)⟩,⟨some 20, (some (18,false)),.load false 1 (.t 19)⟩,⟨some 21, (some (18,false)),.bin .gtr (.t 20) (.c (vi 5))⟩,⟨some 22, none,.pick (.t 18) (.c (.bool true)) (.t 21)⟩] [2,3,22] []
def Jnx:IC:=.reg [⟨some 4, none,.nilo 4⟩,⟨some 5, none,.asg (.c (.bool false))⟩] [4,5] []
def Jp7:IC:=.reg [⟨some 23, none,.load true 2 (.t 2)⟩,⟨some 24, none,.build [(vi 0),(.slice none 0 0),(vi 0),(vi 0),(vi 0),(vi 0),(vi 0)] [(0,2,(.t 23)),(2,1,(.c (vi (-1))))]⟩,⟨some 25, none,.bsl 7 [(vi 0),(.slice none 0 0),(vi 0),(vi 0),(vi 0),(vi 0),(vi 0)] 1 [(0,(.t 24))]⟩,⟨some 6, none,.asg (.t 25)⟩] [3,6] []
def Jup:IC:=.reg [⟨some 7, none,.asg (.c (vi 0))⟩] [3,6,7] []
def Jp2:IC:=.reg [⟨some 26, none,.mv (.t 7)⟩,⟨some 27, none,.mv (.t 6)⟩,⟨some 28, none,.len (.t 27)⟩,⟨some 29, none,.bin .lss (.t 26) (.t 28)⟩] [3,6,7,29] []
def Jla:IC:=.reg [⟨some 32, none,.mv (.t 6)⟩,⟨some 33, none,.mv (.t 7)⟩,⟨some 34, none,.iadr 7 (.t 32) (.t 33)⟩,⟨some 35, none,.fadr 0 (.t 34)⟩,⟨some 36, none,.load true 2 (.t 35)⟩,⟨some 37, none,.load true 2 (.t 3)⟩,⟨some 38, none,.call Qtq [(.rd,(.t 36)),(.rd,(.t 37))] true⟩] [3,6,7,38] []
def Jrl:IC:=.reg [⟨some 8, none,.nilo 4⟩] [6,7,8] []
def Jp0:IC:=.reg [⟨some 39, none,.mv (.t 7)⟩,⟨some 9, none,.asgm (.t 39)⟩] [6,8,9] []
def Jw7:IC:=.reg [⟨some 40, none,.mv (.t 6)⟩,⟨some 41, none,.mv (.t 9)⟩,⟨some 42, none,.iadr 7 (.t 40) (.t 41)⟩,⟨some 43, none,.fadr 2 (.t 42)⟩,⟨some 44, none,.load false 1 (.t 43)⟩,⟨some 45, none,.bin .geq (.t 44) (.c (vi 0))⟩] [6,8,9,45] []
def Jhr:IC:=.reg [⟨some 51, none,.mv (.t 8)⟩,⟨some 52, none,.mv (.t 6)⟩,⟨some 53, none,.mv (.t 9)⟩,⟨some 54, none,.iadr 7 (.t 52) (.t 53)⟩,⟨some 55, none,.fadr 3 (.t 54)⟩,⟨some 56, none,.load true 4 (.t 55)⟩,⟨some 57, none,.bsl 4 [(vi 0),(vi 0),(vi 0),(vi 0)] 1 [(0,(.t 56))]⟩,⟨some 58, none,.app 4 (.t 51) (.t 57)⟩,⟨some 8, none,.asg (.t 58)⟩] [6,8,9] []
def Jis:IC:=.reg [⟨some 46, none,.mv (.t 6)⟩,⟨some 47, none,.mv (.t 9)⟩,⟨some 48, none,.iadr 7 (.t 46) (.t 47)⟩,⟨some 49, none,.fadr 2 (.t 48)⟩,⟨some 50, none,.load false 1 (.t 49)⟩,⟨some 9, none,.asg (.t 50)⟩] [6,8,9] []
def Qzu:IC:=(.seq (.seq Jw7 (.cond (.t 45) .skip (.exit 2))) (.seq (.block 3 Jhr) Jis))
def Jgp:IC:=.reg [⟨some 59, none,.mv (.t 8)⟩,⟨some 60, none,.call Qvb [(.ld,(.t 59))] false⟩] [8] []
def Jgs:IC:=.reg [⟨some 61, none,.mv (.t 8)⟩,⟨some 62, none,.call Qqp [(.tk,(.t 61))] true⟩,⟨some 4, none,.asg (.t 62)⟩,⟨some 5, none,.asg (.c (.bool true))⟩] [4,5] []
def Jh1:IC:=.reg [⟨some 63, none,.mv (.t 6)⟩,⟨some 64, none,.mv (.t 7)⟩,⟨some 65, none,.iadr 7 (.t 63) (.t 64)⟩,⟨some 66, none,.fadr 0 (.t 65)⟩,⟨some 67, none,.load true 2 (.t 66)⟩,⟨some 68, none,.call Qxa [(.rd,(.t 67))] true⟩,⟨some 69, none,.len (.t 68)⟩,⟨some 70, none,.mv (.c (vi 0))⟩] [3,6,7,68,69,70] []
def Jh4:IC:=.reg [⟨some 71, none,.bin .lss (.t 70) (.t 69)⟩] [3,6,7,68,69,70,71] []
def Jkp:IC:=.reg [⟨some 72, none,.iadr 4 (.t 68) (.t 70)⟩,⟨some 73, none,.load true 4 (.t 72)⟩,⟨some 11, none,.alloc [(vi 0),(vi 0),(vi 0),(vi 0)]⟩,⟨none,none,.store 4 (.t 11) (.t 73)⟩] [3,6,7,11,68,69,70] []
def Jhj:IC:=.regd [⟨some 75, none,.mv (.t 6)⟩,⟨some 76, none,.mv (.t 7)⟩,⟨some 77, none,.iadr 7 (.t 75) (.t 76)⟩,⟨some 78, none,.fadr 0 (.t 77)⟩,⟨some 79, none,.load true 2 (.t 78)⟩,⟨some 80, none,.load true 4 (.t 11)⟩,⟨some 81, none,.callq Qqe [(.rv,(.t 79)),(.val,(.t 80))]⟩,⟨some 74, none,.asg (.t 81)⟩,⟨some 82, none,.extr (.t 74) 0⟩,⟨some 83, none,.extr (.t 74) 1⟩,⟨some 12, none,.alloc [(vi 0),(.slice none 0 0)]⟩,⟨none,none,.storef 2 (.t 12) (.t 82)⟩,⟨some 13, none,.asg (.t 83)⟩] [0,1,2,3,4,5,6,7,8,9,10,11,12] [3,6,7,11,12,68,69,70] [[0,1,2,3,4,5,6,7,8,10,11,9,12],[0,1,2,3,4,5,6,7,9,8,10,11,12]]
def Jf0:IC:=.reg [⟨some 84, none,.mv (.t 6)⟩,⟨some 85, none,.mkfn Qsu [(.t 12)]⟩,⟨some 86, none,.call Qup [(.ld,(.t 84)),(.val,(.t 85))] false⟩,⟨some 87, none,.unop .not (.t 86)⟩] [3,6,7,11,12,68,69,70,87] []
def Jfb:IC:=.reg [⟨some 88, none,.mv (.t 6)⟩,⟨some 89, none,.load true 2 (.t 12)⟩,⟨some 90, none,.mv (.t 7)⟩,⟨some 91, none,.load true 4 (.t 11)⟩,⟨some 92, none,.build [(vi 0),(.slice none 0 0),(vi 0),(vi 0),(vi 0),(vi 0),(vi 0)] [(0,2,(.t 89)),(2,1,(.t 90)),(3,4,(.t 91))]⟩,⟨some 93, none,.bsl 7 [(vi 0),(.slice none 0 0),(vi 0),(vi 0),(vi 0),(vi 0),(vi 0)] 1 [(0,(.t 92))]⟩,⟨some 94, none,.app 7 (.t 88) (.t 93)⟩,⟨some 6, none,.asg (.t 94)⟩] [3,6,7,68,69,70] []
def Jft:IC:=.reg [⟨some 95, none,.bin .add (.t 70) (.c (vi 1))⟩,⟨some 70, none,.asg (.t 95)⟩] [3,6,7,68,69,70] []
def Qvr:IC:=(.seq Jh4 (.seq (.cond (.t 71) .skip (.exit 4)) (.seq (.block 5 (.seq Jkp (.seq Jhj (.seq Jf0 (.cond (.t 87) Jfb .skip))))) Jft)))
def Jhg:IC:=.reg [⟨some 30, none,.mv (.t 7)⟩,⟨some 31, none,.bin .add (.t 30) (.c (vi 1))⟩,⟨some 7, none,.asg (.t 31)⟩] [3,6,7] []
def Qx8:IC:=(.seq (.seq Jp2 (.cond (.t 29) .skip (.exit 0))) (.seq (.block 1 (.seq (.seq Jla (.cond (.t 38) (.seq Jrl (.seq (.seq Jp0 (.block 2 (.loop Qzu))) (.seq Jgp (.seq Jgs .ret)))) .skip)) (.seq Jh1 (.block 4 (.loop Qvr))))) Jhg))
def Jhv:IC:=.reg [⟨some 4, none,.nilo 4⟩,⟨some 5, none,.asg (.c (.bool false))⟩] [4,5] []
def Qpp:Qbl:=⟨[.t 4,.t 5],[],(.seq Joc (.seq (.seq Jst (.cond (.t 22) (.seq Jnx .ret) .skip)) (.seq Jp7 (.seq (.seq Jup (.block 0 (.loop Qx8))) (.seq Jhv .ret)))))⟩
def Jlw:IC:=.reg [⟨some 2, none,.box (.t 0)⟩,⟨some 3, none,.asg (.c (.bool false))⟩] [1,2] []
def Js0:IC:=.reg [⟨some 4, none,.fadr 0 (.t 2)⟩,⟨some 5, none,.load true 2 (.t 4)⟩,⟨some 6, none,.load true 2 (.t 1)⟩,⟨some 7, none,.call Qtq [(.rd,(.t 5)),(.rd,(.t 6))] true⟩,⟨some 3, none,.asg (.t 7)⟩] [3] []
def Jd1:Qbl:=⟨[.t 3],[],(.seq Jlw (.seq Js0 .ret))⟩
def Jrb:IC:=.reg [⟨some 1, none,.box (.t 0)⟩,⟨some 2, none,.asg (.c (.bool false))⟩] [1] []
def Jq1:IC:=.reg [⟨some 3, none,.fadr 0 (.t 1)⟩,⟨some 4, none,.load false 1 (.t 3)⟩,⟨some 5, none,.fadr 1 (.t 1)⟩,⟨some 6, none,.load false 1 (.t 5)⟩,⟨some 7, none,.bin .neq (.t 4) (.t 6)⟩,⟨some 8, none,.asg (.t 7)⟩,⟨some 9, (some (8,true)),.fadr 0 (.t 1)⟩,⟨some 10, (some (8,true)),.load false 1 (.t 9)⟩,⟨some 11, (some (8,true)),.fadr 2 (.t 1)⟩,⟨some 12, (some (8,true)),.load false 1 (.t 11)⟩,⟨some 13, (some (8,true)),.bin .neq (.t 10) (.t 12)⟩,⟨some 14, none,.pick (.t 8) (.t 13) (.c (.bool false))⟩,⟨some 15, none,.asg (.t 14)⟩,⟨some 16, (some (15,true)),.fadr 0 (.t 1)⟩,⟨some 17, (some (15,true)),.load false 1 (.t 16)⟩,⟨some 18, (some (15,true)),.fadr 3 (.t 1)⟩,⟨some 19, (some (15,true)),.load false 1 (.t 18)⟩,⟨some 20, (some (15,true)),.bin .neq (.t 17) (.t 19)⟩,⟨some 21, none,.pick (.t 15) (.t 20) (.c (.bool false))⟩,⟨some 22, none,.asg (.t 21)⟩,
    ⟨some 23, (some (22,true)),.fadr 1 (.t 1)⟩,⟨some 24, (some (22,true)),.load false 1 (.t 23)⟩,⟨some 25, (some (22,true)),.fadr 2 (.t 1)⟩,⟨some 26, (some (22,true)),.load false 1 (.t 25)⟩,⟨some 27, (some (22,true)),.bin .neq (.t 24) (.t 26)⟩,⟨some 28, none,.pick (.t 22) (.t 27) (.c (.bool false))⟩,⟨some 29, none,.asg (.t 28)⟩,⟨some 30, (some (29,true)),.fadr 1 (.t 1)⟩,⟨some 31, (some (29,true)),.load false 1 (.t 30)⟩,⟨some 32, (some (29,true)),.fadr 3 (.t 1)⟩,⟨some 33, (some (29,true)),.load false 1 (.t 32)⟩,⟨some 34, (some (29,true)),.bin .neq (.t 31) (.t 33)⟩,⟨some 35, none,.pick (.t 29) (.t 34) (.c (.bool false))⟩,⟨some 36, none,.asg (.t 35)⟩,⟨some 37, (some (36,true)),.fadr 2 (.t 1)⟩,⟨some 38, (some (36,true)),.load false 1 (.t 37)⟩,⟨some 39, (some (36,true)),.fadr 3 (.t 1)⟩,⟨some 40, (some (36,true)),.load false 1 (.t 39)⟩,
    ⟨some 41, (some (36,true)),.bin .neq (.t 38) (.t 40)⟩,⟨some 42, none,.pick (.t 36) (.t 41) (.c (.bool false))⟩,⟨some 2, none,.asg (.t 42)⟩] [2] []
def Qkq:Qbl:=⟨[.t 2],[],(.seq Jrb (.seq Jq1 .ret))⟩
def Jze:IC:=.reg [⟨some 1, none,.box (.t 0)⟩,⟨some 2, none,.asg (.c (.bool false))⟩] [1] []
def z26r1:IC:=.reg [⟨some 5, none,.fadr 1 (.t 1)⟩,⟨some 6, none,.load false 1 (.t 5)⟩,⟨some 7, none,.len (.t 6)⟩,⟨some 8, none,.mv (.c (vi 0))⟩] [1,6,7,8] []
def Jzh:IC:=.reg [⟨some 9, none,.bin .lss (.t 8) (.t 7)⟩] [1,6,7,8,9] []
def z26r3:IC:=.reg [⟨some 10, none,.asg (.t 8)⟩,⟨some 11, none,.iadr 2 (.t 6) (.t 8)⟩,⟨some 12, none,.load true 2 (.t 11)⟩,⟨some 4, none,.alloc [(vi 0),(vi 0)]⟩,⟨some 3, none,.asg (.t 10)⟩,⟨none,none,.store 2 (.t 4) (.t 12)⟩] [1,3,4,6,7,8] []
def z26r4:IC:=.reg [⟨some 13, none,.fadr 0 (.t 4)⟩,⟨some 14, none,.load false 1 (.t 13)⟩,⟨some 15, none,.bin .lss (.t 14) (.c (vi 0))⟩,⟨some 16, none,.asg (.t 15)⟩,⟨some 17, (some (16,false)),.fadr 0 (.t 4)⟩,⟨some 18, (some (16,false)),.load false 1 (.t 17)⟩,⟨some 19, (some (16,false)),.fadr 1 (.t 4)⟩,⟨some 20, (some (16,false)),.load false 1 (.t 19)⟩,⟨some 21, (some (16,false)),.bin .geq (.t 18) (.t 20)⟩,⟨some 22, none,.pick (.t 16) (.c (.bool true)) (.t 21)⟩,⟨some 23, none,.asg (.t 22)⟩,⟨some 24, (some (23,false)),.fadr 1 (.t 4)⟩,⟨some 25, (some (23,false)),.load false 1 (.t 24)⟩,⟨some 26, (some (23,false)),.fadr 0 (.t 1)⟩,⟨some 27, (some (23,false)),.load false 1 (.t 26)⟩,⟨some 28, (some (23,false)),.bin .geq (.t 25) (.t 27)⟩,⟨some 29, none,.pick (.t 23) (.c (.bool true)) (.t 28)⟩,⟨some 30, none,.asg (.t 29)⟩,⟨some 31, (some (30,false)),.mv (.t 3)⟩,
    ⟨some 32, (some (30,false)),.bin .gtr (.t 31) (.c (vi 0))⟩,⟨some 33, (some (30,false)),.asg (.t 32)⟩,⟨some 34, (some (33,true)),.fadr 1 (.t 1)⟩,⟨some 35, (some (33,true)),.load false 1 (.t 34)⟩,⟨some 36, (some (33,true)),.mv (.t 3)⟩,⟨some 37, (some (33,true)),.bin .sub (.t 36) (.c (vi 1))⟩,⟨some 38, (some (33,true)),.iadr 2 (.t 35) (.t 37)⟩,⟨some 39, (some (33,true)),.load true 2 (.t 38)⟩,⟨some 40, (some (33,true)),.load true 2 (.t 4)⟩,⟨some 41, (some (33,true)),.call Jal [(.val,(.t 39)),(.val,(.t 40))] true⟩,⟨some 42, (some (33,true)),.bin .geq (.t 41) (.c (vi 0))⟩,⟨some 43, (some (30,false)),.pick (.t 33) (.t 42) (.c (.bool false))⟩,⟨some 44, none,.pick (.t 30) (.c (.bool true)) (.t 43)⟩] [1,6,7,8,44] []
def z26r5:IC:=.reg [⟨some 2, none,.asg (.c (.bool false))⟩] [2] []
def z26r6:IC:=.reg [⟨some 45, none,.bin .add (.t 8) (.c (vi 1))⟩,⟨some 8, none,.asg (.t 45)⟩] [1,6,7,8] []
def Jtp:IC:=(.seq Jzh (.seq (.cond (.t 9) .skip (.exit 0)) (.seq (.block 1 (.seq z26r3 (.seq z26r4 (.cond (.t 44) (.seq z26r5 .ret) .skip)))) z26r6)))
def Jzb:IC:=.reg [⟨some 46, none,.fadr 0 (.t 1)⟩,⟨some 47, none,.load false 1 (.t 46)⟩,⟨some 48, none,.call Jmz [(.val,(.t 47)),(.val,(.c (vi 0))),(.val,(.c (vi 7)))] true⟩,⟨some 2, none,.asg (.t 48)⟩] [2] []
def Jta:Qbl:=⟨[.t 2],[],(.seq Jze (.seq (.seq z26r1 (.block 0 (.loop Jtp))) (.seq Jzb .ret)))⟩
def Jl2:IC:=.reg [⟨some 2, none,.box (.t 0)⟩,⟨some 3, none,.box (.t 1)⟩,⟨some 4, none,.asg (.c (.bool false))⟩] [2,3] []
def Jrk:IC:=.reg [⟨some 5, none,.load true 2 (.t 2)⟩,⟨some 6, none,.call Qy2 [(.rd,(.t 5))] true⟩,⟨some 7, none,.asg (.t 6)⟩,⟨some 8, (some (7,true)),.load true 2 (.t 3)⟩,⟨some 9, (some (7,true)),.call Qy2 [(.rd,(.t 8))] true⟩,⟨some 10, none,.pick (.t 7) (.t 9) (.c (.bool false))⟩,⟨some 11, none,.asg (.t 10)⟩,⟨some 12, (some (11,true)),.fadr 0 (.t 2)⟩,⟨some 13, (some (11,true)),.load false 1 (.t 12)⟩,⟨some 14, (some (11,true)),.fadr 0 (.t 3)⟩,⟨some 15, (some (11,true)),.load false 1 (.t 14)⟩,⟨some 16, (some (11,true)),.bin .eql (.t 13) (.t 15)⟩,⟨some 17, none,.pick (.t 11) (.t 16) (.c (.bool false))⟩,⟨some 4, none,.asg (.t 17)⟩] [4] []
def Qoc:Qbl:=⟨[.t 4],[],(.seq Jl2 (.seq Jrk .ret))⟩
def Jrp:IC:=.reg [⟨some 2, none,.asg (.c (.slice none 0 0))⟩] [0] []
def Jxg:IC:=.reg [⟨some 3, none,.mv (.t 0)⟩,⟨some 4, none,.call Qtu [(.rd,(.t 3))] true⟩,⟨some 5, none,.call Qzk [(.tk,(.t 4))] true⟩,⟨some 2, none,.asg (.t 5)⟩] [2] []
def Jdi:Qbl:=⟨[.t 2],[],(.seq Jrp (.seq Jxg .ret))⟩
def z32r0:IC:=.reg [⟨some 2, none,.box (.t 0)⟩,⟨some 3, none,.box (.t 1)⟩,⟨some 4, none,.asg (.c (vi 0))⟩] [2,3] []
def Jy0:IC:=.reg [⟨some 5, none,.fadr 0 (.t 2)⟩,⟨some 6, none,.load false 1 (.t 5)⟩,⟨some 7, none,.fadr 0 (.t 3)⟩,⟨some 8, none,.load false 1 (.t 7)⟩,⟨some 9, none,.bin .neq (.t 6) (.t 8)⟩] [2,3,9] []
def z32r2:IC:=.reg [⟨some 10, none,.fadr 0 (.t 2)⟩,⟨some 11, none,.load false 1 (.t 10)⟩,⟨some 12, none,.fadr 0 (.t 3)⟩,⟨some 13, none,.load false 1 (.t 12)⟩,⟨some 14, none,.bin .sub (.t 11) (.t 13)⟩,⟨some 4, none,.asg (.t 14)⟩] [4] []
def z32r3:IC:=.reg [⟨some 15, none,.fadr 1 (.t 2)⟩,⟨some 16, none,.load false 1 (.t 15)⟩,⟨some 17, none,.fadr 1 (.t 3)⟩,⟨some 18, none,.load false 1 (.t 17)⟩,⟨some 19, none,.bin .sub (.t 16) (.t 18)⟩,⟨some 4, none,.asg (.t 19)⟩] [4] []
def Js2:Qbl:=⟨[.t 4],[],(.seq z32r0 (.seq (.seq Jy0 (.cond (.t 9) (.seq z32r2 .ret) .skip)) (.seq z32r3 .ret)))⟩
def Jy9:IC:=.reg [⟨some 4, none,.alloc [(vi 0),(vi 0)]⟩] [0,1,4] []
def z36r1:IC:=.reg [⟨some 5, none,.mv (.t 0)⟩,⟨some 6, none,.mv (.t 1)⟩,⟨some 7, none,.minmax true (.t 5) (.t 6)⟩,⟨some 8, none,.mv (.t 0)⟩,⟨some 9, none,.mv (.t 1)⟩,⟨some 10, none,.minmax false (.t 8) (.t 9)⟩,⟨some 11, none,.build [(vi 0),(vi 0)] [(0,1,(.t 7)),(1,1,(.t 10))]⟩,⟨none,none,.store 2 (.t 4) (.t 11)⟩] [4] []
def Jxu:Qbl:=⟨[.c 4 2 true],[],(.seq Jy9 (.seq z36r1 .ret))⟩
def z38r0:IC:=.reg [⟨some 6, none,.asg (.c (.bool false))⟩] [0,1,2] []
def z38r1:IC:=.reg [⟨some 7, none,.mv (.t 0)⟩,⟨some 8, none,.mv (.t 1)⟩,⟨some 9, none,.bin .geq (.t 7) (.t 8)⟩,⟨some 10, none,.asg (.t 9)⟩,⟨some 11, (some (10,true)),.mv (.t 0)⟩,⟨some 12, (some (10,true)),.mv (.t 2)⟩,⟨some 13, (some (10,true)),.bin .leq (.t 11) (.t 12)⟩,⟨some 14, none,.pick (.t 10) (.t 13) (.c (.bool false))⟩,⟨some 6, none,.asg (.t 14)⟩] [6] []
def Jtt:Qbl:=⟨[.t 6],[],(.seq z38r0 (.seq z38r1 .ret))⟩
def Joo:IC:=.reg [⟨some 4, none,.alloc [(vi 0),(.slice none 0 0)]⟩] [0,1,4] []
def Jr8:IC:=.reg [⟨some 6, none,.mv (.t 1)⟩,⟨some 7, none,.call Qub [(.rd,(.t 6))] true⟩,⟨some 5, none,.asg (.t 7)⟩] [0,4,5] []
def Jq7:IC:=.reg [⟨some 8, none,.mv (.t 5)⟩,⟨some 9, none,.call Qte [(.ld,(.t 8)),(.val,(.f Jal))] false⟩] [0,4,5] []
def Jsv:IC:=.reg [⟨some 10, none,.mv (.t 0)⟩,⟨some 11, none,.mv (.t 5)⟩,⟨some 12, none,.build [(vi 0),(.slice none 0 0)] [(0,1,(.t 10)),(1,1,(.t 11))]⟩,⟨none,none,.store 2 (.t 4) (.t 12)⟩] [4] []
def Jci:Qbl:=⟨[.c 4 2 true],[],(.seq Joo (.seq Jr8 (.seq Jq7 (.seq Jsv .ret))))⟩
def Jly:IC:=.reg [⟨some 2, none,.asg (.c (.slice none 0 0))⟩] [0] []
def Jsc:IC:=.reg [⟨some 3, none,.asg (.c (.slice none 0 0))⟩] [0,3] []
def Jm8:IC:=.reg [⟨some 6, none,.mv (.t 0)⟩,⟨some 7, none,.mv (.c (vi 0))⟩] [0,3,6,7] []
def Jr7:IC:=.reg [⟨some 8, none,.bin .lss (.t 7) (.t 6)⟩] [0,3,6,7,8] []
def Jvp:IC:=.reg [⟨some 9, none,.asg (.t 7)⟩,⟨some 4, none,.asg (.t 9)⟩] [0,3,4,6,7] []
def Jr0:IC:=.reg [⟨some 10, none,.mv (.t 4)⟩,⟨some 11, none,.bin .add (.t 10) (.c (vi 1))⟩,⟨some 5, none,.asg (.t 11)⟩] [0,3,4,5,6,7] []
def Jmo:IC:=.reg [⟨some 12, none,.mv (.t 5)⟩,⟨some 13, none,.mv (.t 0)⟩,⟨some 14, none,.bin .lss (.t 12) (.t 13)⟩] [0,3,4,5,6,7,14] []
def Jph:IC:=.reg [⟨some 17, none,.mv (.t 3)⟩,⟨some 18, none,.mv (.t 4)⟩,⟨some 19, none,.mv (.t 5)⟩,⟨some 20, none,.build [(vi 0),(vi 0)] [(0,1,(.t 18)),(1,1,(.t 19))]⟩,⟨some 21, none,.bsl 2 [(vi 0),(vi 0)] 1 [(0,(.t 20))]⟩,⟨some 22, none,.app 2 (.t 17) (.t 21)⟩,⟨some 3, none,.asg (.t 22)⟩] [0,3,4,5,6,7] []
def Jqu:IC:=.reg [⟨some 15, none,.mv (.t 5)⟩,⟨some 16, none,.bin .add (.t 15) (.c (vi 1))⟩,⟨some 5, none,.asg (.t 16)⟩] [0,3,4,5,6,7] []
def Jex:IC:=(.seq (.seq Jmo (.cond (.t 14) .skip (.exit 2))) (.seq (.block 3 Jph) Jqu))
def Jgx:IC:=.reg [⟨some 23, none,.bin .add (.t 7) (.c (vi 1))⟩,⟨some 7, none,.asg (.t 23)⟩] [0,3,6,7] []
def Qy9:IC:=(.seq Jr7 (.seq (.cond (.t 8) .skip (.exit 0)) (.seq (.block 1 (.seq Jvp (.seq Jr0 (.block 2 (.loop Jex))))) Jgx)))
def Jjn:IC:=.reg [⟨some 24, none,.mv (.t 3)⟩,⟨some 2, none,.asgm (.t 24)⟩] [2,3] []
def Qxy:Qbl:=⟨[.t 2],[],(.seq Jly (.seq Jsc (.seq (.seq Jm8 (.block 0 (.loop Qy9))) (.seq Jjn .ret))))⟩
def Jpc:IC:=.reg [⟨some 2, none,.asg (.c (.bool false))⟩] [0] []
def Jqi:IC:=.reg [⟨some 13, none,.mv (.t 0)⟩,⟨some 14, none,.len (.t 13)⟩,⟨some 15, none,.bin .gtr (.t 14) (.c (vi 1048576))⟩] [0,15] []
def Jnu:IC:=.reg [⟨some 2, none,.asg (.c (.bool true))⟩] [2] []
def Jpn:IC:=.reg [⟨some 17, none,.mv (.t 0)⟩,⟨some 18, none,.call Qx7 [(.rd,(.t 17))] true⟩,⟨some 16, none,.asg (.t 18)⟩,⟨some 19, none,.extr (.t 16) 0⟩,⟨some 20, none,.extr (.t 16) 1⟩,⟨some 3, none,.alloc [(vi 0),(.slice none 0 0)]⟩,⟨some 4, none,.alloc [(vi 0),(.slice none 0 0)]⟩,⟨none,none,.storef 2 (.t 3) (.t 19)⟩,⟨none,none,.storef 2 (.t 4) (.t 20)⟩] [3,4] []
def Joy:IC:=.reg [⟨some 22, none,.load true 2 (.t 3)⟩,⟨some 23, none,.load true 2 (.t 4)⟩,⟨some 24, none,.call Qlu [(.rd,(.t 22)),(.rd,(.t 23))] true⟩,⟨some 21, none,.asg (.t 24)⟩,⟨some 25, none,.extr (.t 21) 0⟩,⟨some 26, none,.extr (.t 21) 1⟩,⟨some 5, none,.asg (.t 25)⟩,⟨some 6, none,.asg (.t 26)⟩] [3,4,5,6] []
def Jmv:IC:=.reg [⟨some 28, none,.load true 2 (.t 3)⟩,⟨some 29, none,.load true 2 (.t 4)⟩,⟨some 30, none,.call Qqy [(.rd,(.t 28)),(.rd,(.t 29))] true⟩,⟨some 27, none,.asg (.t 30)⟩,⟨some 31, none,.extr (.t 27) 0⟩,⟨some 32, none,.extr (.t 27) 1⟩,⟨some 7, none,.asg (.t 31)⟩,⟨some 8, none,.asg (.t 32)⟩] [3,4,5,6,7,8] []
def Jpi:IC:=.reg [⟨some 33, none,.mv (.t 5)⟩,⟨some 34, none,.mv (.t 7)⟩,⟨some 35, none,.call Qqf [(.rd,(.t 33)),(.rd,(.t 34))] true⟩,⟨some 36, none,.unop .not (.t 35)⟩,⟨some 37, none,.asg (.t 36)⟩,⟨some 38, (some (37,false)),.mv (.t 6)⟩,⟨some 39, (some (37,false)),.mv (.t 8)⟩,⟨some 40, (some (37,false)),.eqb true (.t 38) (.t 39)⟩,⟨some 41, none,.pick (.t 37) (.c (.bool true)) (.t 40)⟩,⟨some 42, none,.asg (.t 41)⟩,⟨some 43, (some (42,false)),.load true 2 (.t 3)⟩,⟨some 44, (some (42,false)),.call Qy2 [(.rd,(.t 43))] true⟩,⟨some 45, (some (42,false)),.unop .not (.t 44)⟩,⟨some 46, none,.pick (.t 42) (.c (.bool true)) (.t 45)⟩,⟨some 47, none,.asg (.t 46)⟩,⟨some 48, (some (47,false)),.load true 2 (.t 4)⟩,⟨some 49, (some (47,false)),.call Qy2 [(.rd,(.t 48))] true⟩,⟨some 50, (some (47,false)),.unop .not (.t 49)⟩,⟨some 51, none,.pick (.t 47) (.c (.bool true)) (.t 50)⟩,
    ⟨some 52, none,.asg (.t 51)⟩,⟨some 53, (some (52,false)),.fadr 0 (.t 3)⟩,⟨some 54, (some (52,false)),.load false 1 (.t 53)⟩,⟨some 55, (some (52,false)),.fadr 0 (.t 4)⟩,⟨some 56, (some (52,false)),.load false 1 (.t 55)⟩,⟨some 57, (some (52,false)),.bin .neq (.t 54) (.t 56)⟩,⟨some 58, none,.pick (.t 52) (.c (.bool true)) (.t 57)⟩,⟨some 59, none,.asg (.t 58)⟩,⟨some 60, (some (59,false)),.fadr 0 (.t 3)⟩,⟨some 61, (some (59,false)),.load false 1 (.t 60)⟩,⟨some 62, (some (59,false)),.bin .gtr (.t 61) (.c (vi 5))⟩,⟨some 63, none,.pick (.t 59) (.c (.bool true)) (.t 62)⟩] [3,4,5,6,7,8,63] []
def Ju9:IC:=.reg [⟨some 64, none,.mv (.t 5)⟩,⟨some 65, none,.mv (.t 7)⟩,⟨some 66, none,.call Qqf [(.rd,(.t 64)),(.rd,(.t 65))] true⟩,⟨some 67, none,.asg (.t 66)⟩,⟨some 68, (some (67,true)),.mv (.t 6)⟩,⟨some 69, (some (67,true)),.mv (.t 8)⟩,⟨some 70, (some (67,true)),.eqb false (.t 68) (.t 69)⟩,⟨some 71, none,.pick (.t 67) (.t 70) (.c (.bool false))⟩,⟨some 2, none,.asg (.t 71)⟩] [2] []
def Jwm:IC:=.reg [⟨some 72, none,.mv (.t 6)⟩,⟨some 73, none,.load true 2 (.t 3)⟩,⟨some 74, none,.call Qta [(.rd,(.t 73))] true⟩,⟨some 75, none,.load true 2 (.t 4)⟩,⟨some 76, none,.call Qta [(.rd,(.t 75))] true⟩,⟨some 77, none,.call Jos [(.rd,(.t 74)),(.rd,(.t 76))] true⟩,⟨some 78, none,.eqb true (.t 72) (.t 77)⟩] [3,4,5,6,78] [[0,1,3,2,4,5,6]]
def Js4:IC:=.reg [⟨some 2, none,.asg (.c (.bool false))⟩] [2] []
def Jfg:IC:=.reg [⟨some 79, none,.mv (.t 6)⟩,⟨some 80, none,.unop .not (.t 79)⟩] [3,4,5,80] []
def Jfo:IC:=.reg [⟨some 2, none,.asg (.c (.bool true))⟩] [2] []
def Jj0:IC:=.reg [⟨some 82, none,.load true 2 (.t 3)⟩,⟨some 83, none,.mv (.t 5)⟩,⟨some 84, none,.call Qye [(.rd,(.t 82)),(.rd,(.t 83))] true⟩,⟨some 81, none,.asg (.t 84)⟩,⟨some 85, none,.extr (.t 81) 0⟩,⟨some 86, none,.extr (.t 81) 1⟩,⟨some 9, none,.alloc [(vi 0),(.slice none 0 0)]⟩,⟨none,none,.storef 2 (.t 9) (.t 85)⟩,⟨some 10, none,.asg (.t 86)⟩] [3,4,5,9,10] []
def Jiy:IC:=.reg [⟨some 88, none,.load true 2 (.t 4)⟩,⟨some 89, none,.load true 2 (.t 3)⟩,⟨some 90, none,.call Qlu [(.rd,(.t 88)),(.rd,(.t 89))] true⟩,⟨some 87, none,.asg (.t 90)⟩,⟨some 91, none,.extr (.t 87) 0⟩,⟨some 92, none,.extr (.t 87) 1⟩,⟨some 11, none,.asg (.t 91)⟩,⟨some 12, none,.asg (.t 92)⟩] [3,4,5,9,10,11,12] []
def Jhw:IC:=.reg [⟨some 93, none,.mv (.t 10)⟩,⟨some 94, none,.asgm (.t 93)⟩,⟨some 95, (some (94,true)),.load true 2 (.t 9)⟩,⟨some 96, (some (94,true)),.load true 2 (.t 4)⟩,⟨some 97, (some (94,true)),.call Qx5 [(.rd,(.t 95)),(.rd,(.t 96))] true⟩,⟨some 98, none,.pick (.t 94) (.t 97) (.c (.bool false))⟩,⟨some 99, none,.asg (.t 98)⟩,⟨some 100, (some (99,true)),.mv (.t 12)⟩,⟨some 101, none,.pick (.t 99) (.t 100) (.c (.bool false))⟩,⟨some 102, none,.asg (.t 101)⟩,⟨some 103, (some (102,true)),.mv (.t 11)⟩,⟨some 104, (some (102,true)),.len (.t 103)⟩,⟨some 105, (some (102,true)),.mv (.t 5)⟩,⟨some 106, (some (102,true)),.len (.t 105)⟩,⟨some 107, (some (102,true)),.bin .eql (.t 104) (.t 106)⟩,⟨some 108, none,.pick (.t 102) (.t 107) (.c (.bool false))⟩,⟨some 109, none,.asg (.t 108)⟩,⟨some 110, (some (109,true)),.mv (.t 5)⟩,⟨some 111, (some (109,true)),.len (.t 110)⟩,
    ⟨some 112, (some (109,true)),.bin .mul (.c (vi 4)) (.t 111)⟩,⟨some 113, (some (109,true)),.load true 2 (.t 3)⟩,⟨some 114, (some (109,true)),.load true 2 (.t 4)⟩,⟨some 115, (some (109,true)),.call Qp4 [(.rd,(.t 113)),(.rd,(.t 114))] true⟩,⟨some 116, (some (109,true)),.bin .geq (.t 112) (.t 115)⟩,⟨some 117, none,.pick (.t 109) (.t 116) (.c (.bool false))⟩,⟨some 2, none,.asg (.t 117)⟩] [2] []
def Qor:Qbl:=⟨[.t 2],[],(.seq Jpc (.seq (.seq Jqi (.cond (.t 15) (.seq Jnu .ret) .skip)) (.seq Jpn (.seq Joy (.seq Jmv (.seq (.seq Jpi (.cond (.t 63) (.seq Ju9 .ret) .skip)) (.seq (.seq Jwm (.cond (.t 78) (.seq Js4 .ret) .skip)) (.seq (.seq Jfg (.cond (.t 80) (.seq Jfo .ret) .skip)) (.seq Jj0 (.seq Jiy (.seq Jhw .ret)))))))))))⟩
def Jor:IC:=.reg [⟨some 4, none,.asg (.c (.bool false))⟩] [0,1] []
def Jt7:IC:=.reg [⟨some 6, none,.mv (.t 0)⟩,⟨some 7, none,.len (.t 6)⟩,⟨some 8, none,.mv (.t 1)⟩,⟨some 9, none,.len (.t 8)⟩,⟨some 10, none,.bin .neq (.t 7) (.t 9)⟩] [0,1,10] []
def Jmf:IC:=.reg [⟨some 4, none,.asg (.c (.bool false))⟩] [4] []
def Jmc:IC:=.reg [⟨some 5, none,.asg (.c (vi 0))⟩] [0,1,5] []
def Jn4:IC:=.reg [⟨some 11, none,.mv (.t 5)⟩,⟨some 12, none,.mv (.t 0)⟩,⟨some 13, none,.len (.t 12)⟩,⟨some 14, none,.bin .lss (.t 11) (.t 13)⟩] [0,1,5,14] []
def Jxf:IC:=.reg [⟨some 17, none,.mv (.t 0)⟩,⟨some 18, none,.mv (.t 5)⟩,⟨some 19, none,.iadr 2 (.t 17) (.t 18)⟩,⟨some 20, none,.load true 2 (.t 19)⟩,⟨some 21, none,.mv (.t 1)⟩,⟨some 22, none,.mv (.t 5)⟩,⟨some 23, none,.iadr 2 (.t 21) (.t 22)⟩,⟨some 24, none,.load true 2 (.t 23)⟩,⟨some 25, none,.eqa true 2 (.t 20) (.t 24)⟩] [0,1,5,25] []
def Jns:IC:=.reg [⟨some 4, none,.asg (.c (.bool false))⟩] [4] []
def Juw:IC:=.reg [⟨some 15, none,.mv (.t 5)⟩,⟨some 16, none,.bin .add (.t 15) (.c (vi 1))⟩,⟨some 5, none,.asg (.t 16)⟩] [0,1,5] []
def Jd5:IC:=(.seq (.seq Jn4 (.cond (.t 14) .skip (.exit 0))) (.seq (.block 1 (.seq Jxf (.cond (.t 25) (.seq Jns .ret) .skip))) Juw))
def Jo9:IC:=.reg [⟨some 4, none,.asg (.c (.bool true))⟩] [4] []
def Qkf:Qbl:=⟨[.t 4],[],(.seq Jor (.seq (.seq Jt7 (.cond (.t 10) (.seq Jmf .ret) .skip)) (.seq (.seq Jmc (.block 0 (.loop Jd5))) (.seq Jo9 .ret))))⟩
def Jpd:IC:=.reg [⟨some 2, none,.box (.t 0)⟩,⟨some 3, none,.box (.t 1)⟩,⟨some 4, none,.asg (.c (.bool false))⟩] [2,3] []
def Jnk:IC:=.reg [⟨some 5, none,.fadr 0 (.t 2)⟩,⟨some 6, none,.load false 1 (.t 5)⟩,⟨some 7, none,.fadr 0 (.t 3)⟩,⟨some 8, none,.load false 1 (.t 7)⟩,⟨some 9, none,.bin .eql (.t 6) (.t 8)⟩,⟨some 10, none,.asg (.t 9)⟩,⟨some 11, (some (10,true)),.fadr 1 (.t 2)⟩,⟨some 12, (some (10,true)),.load false 1 (.t 11)⟩,⟨some 13, (some (10,true)),.fadr 1 (.t 3)⟩,⟨some 14, (some (10,true)),.load false 1 (.t 13)⟩,⟨some 15, (some (10,true)),.call Qss [(.rd,(.t 12)),(.rd,(.t 14))] true⟩,⟨some 16, none,.pick (.t 10) (.t 15) (.c (.bool false))⟩,⟨some 4, none,.asg (.t 16)⟩] [4] []
def Qjp:Qbl:=⟨[.t 4],[],(.seq Jpd (.seq Jnk .ret))⟩
def z53r0:IC:=.reg [⟨some 4, none,.asg (.c (.bool false))⟩] [0,1] []
def Jzv:IC:=.reg [⟨some 6, none,.mv (.t 0)⟩,⟨some 7, none,.len (.t 6)⟩,⟨some 8, none,.mv (.t 1)⟩,⟨some 9, none,.len (.t 8)⟩,⟨some 10, none,.bin .neq (.t 7) (.t 9)⟩] [0,1,10] []
def z53r2:IC:=.reg [⟨some 4, none,.asg (.c (.bool false))⟩] [4] []
def z53r3:IC:=.reg [⟨some 5, none,.asg (.c (vi 0))⟩] [0,1,5] []
def z53r4:IC:=.reg [⟨some 11, none,.mv (.t 5)⟩,⟨some 12, none,.mv (.t 0)⟩,⟨some 13, none,.len (.t 12)⟩,⟨some 14, none,.bin .lss (.t 11) (.t 13)⟩] [0,1,5,14] []
def Jzk:IC:=.reg [⟨some 17, none,.mv (.t 0)⟩,⟨some 18, none,.mv (.t 5)⟩,⟨some 19, none,.iadr 1 (.t 17) (.t 18)⟩,⟨some 20, none,.load false 1 (.t 19)⟩,⟨some 21, none,.mv (.t 1)⟩,⟨some 22, none,.mv (.t 5)⟩,⟨some 23, none,.iadr 1 (.t 21) (.t 22)⟩,⟨some 24, none,.load false 1 (.t 23)⟩,⟨some 25, none,.bin .neq (.t 20) (.t 24)⟩] [0,1,5,25] []
def z53r6:IC:=.reg [⟨some 4, none,.asg (.c (.bool false))⟩] [4] []
def z53r7:IC:=.reg [⟨some 15, none,.mv (.t 5)⟩,⟨some 16, none,.bin .add (.t 15) (.c (vi 1))⟩,⟨some 5, none,.asg (.t 16)⟩] [0,1,5] []
def Jwb:IC:=(.seq (.seq z53r4 (.cond (.t 14) .skip (.exit 0))) (.seq (.block 1 (.seq Jzk (.cond (.t 25) (.seq z53r6 .ret) .skip))) z53r7))
def z53r9:IC:=.reg [⟨some 4, none,.asg (.c (.bool true))⟩] [4] []
def Jkx:Qbl:=⟨[.t 4],[],(.seq z53r0 (.seq (.seq Jzv (.cond (.t 10) (.seq z53r2 .ret) .skip)) (.seq (.seq z53r3 (.block 0 (.loop Jwb))) (.seq z53r9 .ret))))⟩
def Jl9:IC:=.reg [⟨some 4, none,.asg (.c (.bool false))⟩] [0,1] []
def Jle:IC:=.reg [⟨some 6, none,.mv (.t 0)⟩,⟨some 7, none,.len (.t 6)⟩,⟨some 8, none,.mv (.t 1)⟩,⟨some 9, none,.len (.t 8)⟩,⟨some 10, none,.bin .neq (.t 7) (.t 9)⟩] [0,1,10] []
def Jlj:IC:=.reg [⟨some 4, none,.asg (.c (.bool false))⟩] [4] []
def Jl7:IC:=.reg [⟨some 5, none,.asg (.c (vi 0))⟩] [0,1,5] []
def Jp3:IC:=.reg [⟨some 11, none,.mv (.t 5)⟩,⟨some 12, none,.mv (.t 0)⟩,⟨some 13, none,.len (.t 12)⟩,⟨some 14, none,.bin .lss (.t 11) (.t 13)⟩] [0,1,5,14] []
def Jl0:IC:=.reg [⟨some 17, none,.mv (.t 0)⟩,⟨some 18, none,.mv (.t 5)⟩,⟨some 19, none,.iadr 4 (.t 17) (.t 18)⟩,⟨some 20, none,.load true 4 (.t 19)⟩,⟨some 21, none,.mv (.t 1)⟩,⟨some 22, none,.mv (.t 5)⟩,⟨some 23, none,.iadr 4 (.t 21) (.t 22)⟩,⟨some 24, none,.load true 4 (.t 23)⟩,⟨some 25, none,.eqa true 4 (.t 20) (.t 24)⟩] [0,1,5,25] []
def Jog:IC:=.reg [⟨some 4, none,.asg (.c (.bool false))⟩] [4] []
def Jr2:IC:=.reg [⟨some 15, none,.mv (.t 5)⟩,⟨some 16, none,.bin .add (.t 15) (.c (vi 1))⟩,⟨some 5, none,.asg (.t 16)⟩] [0,1,5] []
def Jeh:IC:=(.seq (.seq Jp3 (.cond (.t 14) .skip (.exit 0))) (.seq (.block 1 (.seq Jl0 (.cond (.t 25) (.seq Jog .ret) .skip))) Jr2))
def Jsi:IC:=.reg [⟨some 4, none,.asg (.c (.bool true))⟩] [4] []
def Qzz:Qbl:=⟨[.t 4],[],(.seq Jl9 (.seq (.seq Jle (.cond (.t 10) (.seq Jlj .ret) .skip)) (.seq (.seq Jl7 (.block 0 (.loop Jeh))) (.seq Jsi .ret))))⟩
def z66r0:IC:=.reg [⟨some 2, none,.asg (.c (vi 0))⟩] [0] []
def Jzt:IC:=.reg [⟨some 3, none,.mv (.t 0)⟩,⟨some 4, none,.conv .u32 (.t 3)⟩,⟨some 5, none,.call zl67 [(.val,(.t 4))] true⟩,⟨some 2, none,.asg (.t 5)⟩] [2] []
def Jy4:IC:=.reg [⟨some 6, none,.mv (.t 0)⟩,⟨some 7, none,.call Jqa [(.val,(.t 6))] true⟩,⟨some 2, none,.asg (.t 7)⟩] [2] []
def Jx9:Qbl:=⟨[.t 2],[],(.seq z66r0 (.seq (.cond (.c (.bool false)) (.seq Jzt .ret) .skip) (.seq Jy4 .ret)))⟩
def Jzs:IC:=.reg [⟨some 2, none,.asg (.c (vi 0))⟩] [0,2] []
def z68r1:IC:=.reg [⟨some 3, none,.mv (.t 0)⟩,⟨some 4, none,.bin .geq (.t 3) (.c (.int .u64 (4294967296)))⟩] [0,2,4] []
def Jz5:IC:=.reg [⟨some 5, none,.mv (.t 0)⟩,⟨some 6, none,.bin .shr (.t 5) (.c (.int .u64 (32)))⟩,⟨some 0, none,.asg (.t 6)⟩] [0] []
def z68r3:IC:=.reg [⟨some 2, none,.asg (.c (vi 32))⟩] [0,2] []
def z68r4:IC:=.reg [⟨some 7, none,.mv (.t 0)⟩,⟨some 8, none,.bin .geq (.t 7) (.c (.int .u64 (65536)))⟩] [0,2,8] []
def z68r5:IC:=.reg [⟨some 9, none,.mv (.t 0)⟩,⟨some 10, none,.bin .shr (.t 9) (.c (.int .u64 (16)))⟩,⟨some 0, none,.asg (.t 10)⟩] [0,2] []
def Jz1:IC:=.reg [⟨some 11, none,.mv (.t 2)⟩,⟨some 12, none,.bin .add (.t 11) (.c (vi 16))⟩,⟨some 2, none,.asg (.t 12)⟩] [0,2] []
def Jyy:IC:=.reg [⟨some 13, none,.mv (.t 0)⟩,⟨some 14, none,.bin .geq (.t 13) (.c (.int .u64 (256)))⟩] [0,2,14] []
def z68r8:IC:=.reg [⟨some 15, none,.mv (.t 0)⟩,⟨some 16, none,.bin .shr (.t 15) (.c (.int .u64 (8)))⟩,⟨some 0, none,.asg (.t 16)⟩] [0,2] []
def Jzy:IC:=.reg [⟨some 17, none,.mv (.t 2)⟩,⟨some 18, none,.bin .add (.t 17) (.c (vi 8))⟩,⟨some 2, none,.asg (.t 18)⟩] [0,2] []
def Je2:IC:=.reg [⟨some 19, none,.mv (.t 2)⟩,⟨some 20, none,.mv (.t 0)⟩,⟨some 21, none,.conv .u8 (.t 20)⟩,⟨some 22, none,.idxs (.c (.string ⟨#[0,1,2,2,3,3,3,3,4,4,4,4,4,4,4,4,5,5,5,5,5,5,5,5,5,5,5,5,5,5,5,5,6,6,6,6,6,6,6,6,6,6,6,6,6,6,6,6,6,6,6,6,6,6,6,6,6,6,6,6,6,6,6,6,7,7,7,7,7,7,7,7,7,7,7,7,7,7,7,7,7,7,7,7,7,7,7,7,7,7,7,7,7,7,7,7,7,7,7,7,7,7,7,7,7,7,7,7,7,7,7,7,7,7,7,7,7,7,7,7,7,7,7,7,7,7,7,7,8,8,8,8,8,8,8,8,8,8,8,8,8,8,8,8,8,8,8,8,8,8,8,8,8,8,8,8,8,8,8,8,8,8,8,8,8,8,8,8,8,8,8,8,8,8,8,8,8,8,8,8,8,8,8,8,8,8,8,8,8,8,8,8,8,8,8,8,8,8,8,8,8,8,8,8,8,8,8,8,8,8,8,8,8,8,8,8,8,8,8,8,8,8,8,8,8,8,8,8,8,8,8,8,8,8,8,8,8,8,8,8,8,8,8,8,8,8,8,8,8,8,8,8,8,8,8,8]⟩)) (.t 21)⟩,⟨some 23, none,.conv .i64 (.t 22)⟩,⟨some 24, none,.bin .add (.t 19) (.t 23)⟩,⟨some 2, none,.asg (.t 24)⟩] [2] []
def Jyl:Qbl:=⟨[.t 2],[],(.seq Jzs (.seq (.seq z68r1 (.cond (.t 4) (.seq Jz5 z68r3) .skip)) (.seq (.seq z68r4 (.cond (.t 8) (.seq z68r5 Jz1) .skip)) (.seq (.seq Jyy (.cond (.t 14) (.seq z68r8 Jzy) .skip)) (.seq Je2 .ret)))))⟩
def Jw0:IC:=.reg [⟨some 2, none,.asg (.c (.slice none 0 0))⟩] [0] []
def Jse:IC:=.reg [⟨some 3, none,.mv (.t 0)⟩,⟨some 4, none,.mv (.t 0)⟩,⟨some 5, none,.len (.t 4)⟩,⟨some 6, none,.mv (.t 0)⟩,⟨some 7, none,.len (.t 6)⟩,⟨some 8, none,.slc 2 (.t 3) none (some (.t 5)) (some (.t 7))⟩,⟨some 2, none,.asgm (.t 8)⟩] [0,2] []
def Jb1:Qbl:=⟨[.t 2],[],(.seq Jw0 (.seq Jse .ret))⟩
def Jqe:IC:=.reg [⟨some 2, none,.asg (.c (.slice none 0 0))⟩] [0] []
def Jvo:IC:=.reg [⟨some 3, none,.mv (.t 0)⟩,⟨some 4, none,.mv (.t 0)⟩,⟨some 5, none,.len (.t 4)⟩,⟨some 6, none,.mv (.t 0)⟩,⟨some 7, none,.len (.t 6)⟩,⟨some 8, none,.slc 4 (.t 3) none (some (.t 5)) (some (.t 7))⟩,⟨some 2, none,.asgm (.t 8)⟩] [0,2] []
def Qts:Qbl:=⟨[.t 2],[],(.seq Jqe (.seq Jvo .ret))⟩
def Jq5:IC:=.reg [⟨some 2, none,.nilo 2⟩] [0] []
def Qvl:List IOp:=[⟨some 3, none,.mv (.t 0)⟩]
def Jra:IC:=.reg [⟨some 2, none,.nilo 2⟩] [2] []
def Joa:IC:=.reg [⟨some 5, none,.bsl 2 [(vi 0),(vi 0)] 0 []⟩,⟨some 6, none,.mv (.t 0)⟩,⟨some 7, none,.app 2 (.t 5) (.t 6)⟩,⟨some 2, none,.asg (.t 7)⟩] [2] []
def Qwj:Qbl:=⟨[.t 2],[],(.seq Jq5 (.nilc2 Qvl (.t 3) 4 [0,4] (.cond (.t 4) (.seq Jra .ret) .skip) (.seq Joa .ret)))⟩
def Jvk:IC:=.reg [⟨some 4, none,.asg (.c (.bool false))⟩] [0,1] []
def Jn5:IC:=.reg [⟨some 5, none,.mv (.t 0)⟩,⟨some 6, none,.mv (.t 1)⟩,⟨some 7, none,.call Qtl [(.ld,(.t 5)),(.val,(.t 6))] false⟩,⟨some 8, none,.bin .geq (.t 7) (.c (vi 0))⟩,⟨some 4, none,.asg (.t 8)⟩] [0,4] []
def Qvc:Qbl:=⟨[.t 4],[0],(.seq Jvk (.seq Jn5 .ret))⟩
def Jtk:IC:=.reg [⟨some 3, none,.box (.t 1)⟩,⟨some 4, none,.asg (.c (.bool false))⟩] [0,3] []
def Jk5:IC:=.reg [⟨some 5, none,.mv (.t 0)⟩,⟨some 6, none,.load true 2 (.t 3)⟩,⟨some 7, none,.call Qwp [(.rd,(.t 5)),(.val,(.t 6))] true⟩,⟨some 8, none,.bin .geq (.t 7) (.c (vi 0))⟩,⟨some 4, none,.asg (.t 8)⟩] [4] []
def Jde:Qbl:=⟨[.t 4],[],(.seq Jtk (.seq Jk5 .ret))⟩
def Jo7:IC:=.reg [⟨some 4, none,.asg (.c (.slice none 0 0))⟩] [0,1] []
def Jud:IC:=.reg [⟨some 8, none,.mv (.t 0)⟩,⟨some 9, none,.mv (.t 1)⟩,⟨some 10, none,.call Qz3 [(.ld,(.t 8)),(.val,(.t 9))] false⟩,⟨some 5, none,.asg (.t 10)⟩] [0,1,5] []
def Jm2:IC:=.reg [⟨some 11, none,.mv (.t 5)⟩,⟨some 12, none,.bin .eql (.t 11) (.c (vi (-1)))⟩] [0,1,5,12] []
def Jwx:IC:=.reg [⟨some 13, none,.mv (.t 0)⟩,⟨some 4, none,.asgm (.t 13)⟩] [0,4] []
def Jxo:IC:=.reg [⟨some 14, none,.mv (.t 5)⟩,⟨some 15, none,.bin .add (.t 14) (.c (vi 1))⟩,⟨some 6, none,.asg (.t 15)⟩] [0,1,5,6] []
def Jna:IC:=.reg [⟨some 16, none,.mv (.t 6)⟩,⟨some 17, none,.mv (.t 0)⟩,⟨some 18, none,.len (.t 17)⟩,⟨some 19, none,.bin .lss (.t 16) (.t 18)⟩] [0,1,5,6,19] []
def Jo3:IC:=.reg [⟨some 22, none,.mv (.t 0)⟩,⟨some 23, none,.mv (.t 6)⟩,⟨some 24, none,.iadr 2 (.t 22) (.t 23)⟩,⟨some 25, none,.load true 2 (.t 24)⟩,⟨some 7, none,.alloc [(vi 0),(vi 0)]⟩,⟨none,none,.store 2 (.t 7) (.t 25)⟩] [0,1,5,6,7] []
def Jqv:IC:=.reg [⟨some 26, none,.mv (.t 1)⟩,⟨some 27, none,.load true 2 (.t 7)⟩,⟨some 28, none,.callv (.t 26) [(.val,(.t 27))]⟩,⟨some 29, none,.unop .not (.t 28)⟩] [0,1,5,6,7,29] []
def Jt5:IC:=.reg [⟨some 30, none,.mv (.t 0)⟩,⟨some 31, none,.mv (.t 5)⟩,⟨some 32, none,.load true 2 (.t 7)⟩,⟨some 33, none,.iadr 2 (.t 30) (.t 31)⟩,⟨none,none,.store 2 (.t 33) (.t 32)⟩] [0,1,5,6] []
def Jw3:IC:=.reg [⟨some 34, none,.mv (.t 5)⟩,⟨some 35, none,.bin .add (.t 34) (.c (vi 1))⟩,⟨some 5, none,.asg (.t 35)⟩] [0,1,5,6] []
def Jjq:IC:=.reg [⟨some 20, none,.mv (.t 6)⟩,⟨some 21, none,.bin .add (.t 20) (.c (vi 1))⟩,⟨some 6, none,.asg (.t 21)⟩] [0,1,5,6] []
def Qw0:IC:=(.seq (.seq Jna (.cond (.t 19) .skip (.exit 0))) (.seq (.block 1 (.seq Jo3 (.seq Jqv (.cond (.t 29) (.seq Jt5 Jw3) .skip)))) Jjq))
def Jit:IC:=.reg [⟨some 36, none,.mv (.t 0)⟩,⟨some 37, none,.mv (.t 5)⟩,⟨some 38, none,.slc 2 (.t 36) (some (.t 37)) none none⟩,⟨none,none,.clr (.t 38) [(vi 0),(vi 0)]⟩] [0,5] []
def Jkd:IC:=.reg [⟨some 39, none,.mv (.t 0)⟩,⟨some 40, none,.mv (.t 5)⟩,⟨some 41, none,.slc 2 (.t 39) none (some (.t 40)) none⟩,⟨some 4, none,.asgm (.t 41)⟩] [0,4] []
def Qzq:Qbl:=⟨[.t 4],[],(.seq Jo7 (.seq Jud (.seq (.seq Jm2 (.cond (.t 12) (.seq Jwx .ret) .skip)) (.seq (.seq Jxo (.block 0 (.loop Qw0))) (.seq Jit (.seq Jkd .ret))))))⟩
def Jwr:IC:=.reg [⟨some 4, none,.asg (.c (.bool false))⟩] [0,1] []
def Jue:IC:=.reg [⟨some 6, none,.mv (.t 0)⟩,⟨some 7, none,.len (.t 6)⟩,⟨some 8, none,.mv (.t 1)⟩,⟨some 9, none,.len (.t 8)⟩,⟨some 10, none,.bin .neq (.t 7) (.t 9)⟩] [0,1,10] []
def Jmw:IC:=.reg [⟨some 4, none,.asg (.c (.bool false))⟩] [4] []
def Jl8:IC:=.reg [⟨some 11, none,.mv (.t 0)⟩,⟨some 12, none,.len (.t 11)⟩,⟨some 13, none,.mv (.c (vi 0))⟩] [0,1,12,13] []
def Jv0:IC:=.reg [⟨some 14, none,.bin .lss (.t 13) (.t 12)⟩] [0,1,12,13,14] []
def Jrm:IC:=.reg [⟨some 15, none,.asg (.t 13)⟩,⟨some 5, none,.asg (.t 15)⟩] [0,1,5,12,13] []
def Jsk:IC:=.reg [⟨some 16, none,.mv (.t 0)⟩,⟨some 17, none,.mv (.t 5)⟩,⟨some 18, none,.iadr 2 (.t 16) (.t 17)⟩,⟨some 19, none,.load true 2 (.t 18)⟩,⟨some 20, none,.mv (.t 1)⟩,⟨some 21, none,.mv (.t 5)⟩,⟨some 22, none,.iadr 2 (.t 20) (.t 21)⟩,⟨some 23, none,.load true 2 (.t 22)⟩,⟨some 24, none,.eqa true 2 (.t 19) (.t 23)⟩] [0,1,12,13,24] []
def Jt1:IC:=.reg [⟨some 4, none,.asg (.c (.bool false))⟩] [4] []
def Jlg:IC:=.reg [⟨some 25, none,.bin .add (.t 13) (.c (vi 1))⟩,⟨some 13, none,.asg (.t 25)⟩] [0,1,12,13] []
def Jea:IC:=(.seq Jv0 (.seq (.cond (.t 14) .skip (.exit 0)) (.seq (.block 1 (.seq Jrm (.seq Jsk (.cond (.t 24) (.seq Jt1 .ret) .skip)))) Jlg)))
def Jie:IC:=.reg [⟨some 4, none,.asg (.c (.bool true))⟩] [4] []
def Qt6:Qbl:=⟨[.t 4],[],(.seq Jwr (.seq (.seq Jue (.cond (.t 10) (.seq Jmw .ret) .skip)) (.seq (.seq Jl8 (.block 0 (.loop Jea))) (.seq Jie .ret))))⟩
def Jlh:IC:=.reg [⟨some 4, none,.asg (.c (vi 0))⟩] [0,1] []
def Jwt:IC:=.reg [⟨some 6, none,.mv (.t 0)⟩,⟨some 7, none,.len (.t 6)⟩,⟨some 8, none,.mv (.c (vi 0))⟩] [0,1,7,8] []
def Jpu:IC:=.reg [⟨some 9, none,.bin .lss (.t 8) (.t 7)⟩] [0,1,7,8,9] []
def Jwv:IC:=.reg [⟨some 10, none,.asg (.t 8)⟩,⟨some 5, none,.asg (.t 10)⟩] [0,1,5,7,8] []
def Jmp:IC:=.reg [⟨some 11, none,.mv (.t 1)⟩,⟨some 12, none,.mv (.t 0)⟩,⟨some 13, none,.mv (.t 5)⟩,⟨some 14, none,.iadr 2 (.t 12) (.t 13)⟩,⟨some 15, none,.load true 2 (.t 14)⟩,⟨some 16, none,.callv (.t 11) [(.val,(.t 15))]⟩] [0,1,5,7,8,16] []
def Jk6:IC:=.reg [⟨some 17, none,.mv (.t 5)⟩,⟨some 4, none,.asgm (.t 17)⟩] [0,4] []
def Jxc:IC:=.reg [⟨some 18, none,.bin .add (.t 8) (.c (vi 1))⟩,⟨some 8, none,.asg (.t 18)⟩] [0,1,7,8] []
def Jes:IC:=(.seq Jpu (.seq (.cond (.t 9) .skip (.exit 0)) (.seq (.block 1 (.seq Jwv (.seq Jmp (.cond (.t 16) (.seq Jk6 .ret) .skip)))) Jxc)))
def Jrc:IC:=.reg [⟨some 4, none,.asg (.c (vi (-1)))⟩] [0,4] []
def Qww:Qbl:=⟨[.t 4],[0],(.seq Jlh (.seq (.seq Jwt (.block 0 (.loop Jes))) (.seq Jrc .ret)))⟩
def Jri:IC:=.reg [⟨some 4, none,.asg (.c (vi 0))⟩] [0,1] []
def Jow:IC:=.reg [⟨some 6, none,.mv (.t 0)⟩,⟨some 7, none,.len (.t 6)⟩,⟨some 8, none,.mv (.c (vi 0))⟩] [0,1,7,8] []
def Jnj:IC:=.reg [⟨some 9, none,.bin .lss (.t 8) (.t 7)⟩] [0,1,7,8,9] []
def Jqp:IC:=.reg [⟨some 10, none,.asg (.t 8)⟩,⟨some 5, none,.asg (.t 10)⟩] [0,1,5,7,8] []
def Jso:IC:=.reg [⟨some 11, none,.mv (.t 1)⟩,⟨some 12, none,.mv (.t 0)⟩,⟨some 13, none,.mv (.t 5)⟩,⟨some 14, none,.iadr 7 (.t 12) (.t 13)⟩,⟨some 15, none,.load true 7 (.t 14)⟩,⟨some 16, none,.callv (.t 11) [(.tk,(.t 15))]⟩] [0,1,5,7,8,16] []
def Jqy:IC:=.reg [⟨some 17, none,.mv (.t 5)⟩,⟨some 4, none,.asgm (.t 17)⟩] [0,4] []
def Juz:IC:=.reg [⟨some 18, none,.bin .add (.t 8) (.c (vi 1))⟩,⟨some 8, none,.asg (.t 18)⟩] [0,1,7,8] []
def Jev:IC:=(.seq Jnj (.seq (.cond (.t 9) .skip (.exit 0)) (.seq (.block 1 (.seq Jqp (.seq Jso (.cond (.t 16) (.seq Jqy .ret) .skip)))) Juz)))
def Jsx:IC:=.reg [⟨some 4, none,.asg (.c (vi (-1)))⟩] [0,4] []
def Qwo:Qbl:=⟨[.t 4],[0],(.seq Jri (.seq (.seq Jow (.block 0 (.loop Jev))) (.seq Jsx .ret)))⟩
def Jlu:IC:=.reg [⟨some 3, none,.box (.t 1)⟩,⟨some 4, none,.asg (.c (vi 0))⟩] [0,3] []
def Jn7:IC:=.reg [⟨some 6, none,.mv (.t 0)⟩,⟨some 7, none,.len (.t 6)⟩,⟨some 8, none,.mv (.c (vi 0))⟩] [0,3,7,8] []
def Jsg:IC:=.reg [⟨some 9, none,.bin .lss (.t 8) (.t 7)⟩] [0,3,7,8,9] []
def Jlq:IC:=.reg [⟨some 10, none,.asg (.t 8)⟩,⟨some 5, none,.asg (.t 10)⟩] [0,3,5,7,8] []
def Jof:IC:=.reg [⟨some 11, none,.load true 2 (.t 3)⟩,⟨some 12, none,.mv (.t 0)⟩,⟨some 13, none,.mv (.t 5)⟩,⟨some 14, none,.iadr 2 (.t 12) (.t 13)⟩,⟨some 15, none,.load true 2 (.t 14)⟩,⟨some 16, none,.eqa false 2 (.t 11) (.t 15)⟩] [0,3,5,7,8,16] []
def Jsu:IC:=.reg [⟨some 17, none,.mv (.t 5)⟩,⟨some 4, none,.asgm (.t 17)⟩] [4] []
def Jr3:IC:=.reg [⟨some 18, none,.bin .add (.t 8) (.c (vi 1))⟩,⟨some 8, none,.asg (.t 18)⟩] [0,3,7,8] []
def Jem:IC:=(.seq Jsg (.seq (.cond (.t 9) .skip (.exit 0)) (.seq (.block 1 (.seq Jlq (.seq Jof (.cond (.t 16) (.seq Jsu .ret) .skip)))) Jr3)))
def Jt6:IC:=.reg [⟨some 4, none,.asg (.c (vi (-1)))⟩] [4] []
def Qwu:Qbl:=⟨[.t 4],[],(.seq Jlu (.seq (.seq Jn7 (.block 0 (.loop Jem))) (.seq Jt6 .ret)))⟩
def Ju6:IC:=.reg [⟨some 4, none,.mv (.t 0)⟩,⟨some 5, none,.len (.t 4)⟩,⟨some 6, none,.bin .sub (.t 5) (.c (vi 1))⟩,⟨some 2, none,.asg (.c (vi 0))⟩,⟨some 3, none,.asg (.t 6)⟩] [0,2,3] []
def Juo:IC:=.reg [⟨some 7, none,.mv (.t 2)⟩,⟨some 8, none,.mv (.t 3)⟩,⟨some 9, none,.bin .lss (.t 7) (.t 8)⟩] [0,2,3,9] []
def Jwz:IC:=.reg [⟨some 14, none,.mv (.t 0)⟩,⟨some 15, none,.mv (.t 2)⟩,⟨some 16, none,.mv (.t 0)⟩,⟨some 17, none,.mv (.t 3)⟩,⟨some 18, none,.mv (.t 0)⟩,⟨some 19, none,.mv (.t 3)⟩,⟨some 20, none,.iadr 4 (.t 18) (.t 19)⟩,⟨some 21, none,.load true 4 (.t 20)⟩,⟨some 22, none,.mv (.t 0)⟩,⟨some 23, none,.mv (.t 2)⟩,⟨some 24, none,.iadr 4 (.t 22) (.t 23)⟩,⟨some 25, none,.load true 4 (.t 24)⟩,⟨some 26, none,.iadr 4 (.t 14) (.t 15)⟩,⟨none,none,.store 4 (.t 26) (.t 21)⟩,⟨some 27, none,.iadr 4 (.t 16) (.t 17)⟩,⟨none,none,.store 4 (.t 27) (.t 25)⟩] [0,2,3] []
def Jn8:IC:=.reg [⟨some 10, none,.mv (.t 2)⟩,⟨some 11, none,.bin .add (.t 10) (.c (vi 1))⟩,⟨some 12, none,.mv (.t 3)⟩,⟨some 13, none,.bin .sub (.t 12) (.c (vi 1))⟩,⟨some 2, none,.asg (.t 11)⟩,⟨some 3, none,.asg (.t 13)⟩] [0,2,3] []
def Jew:IC:=(.seq (.seq Juo (.cond (.t 9) .skip (.exit 0))) (.seq (.block 1 Jwz) Jn8))
def Jdw:Qbl:=⟨[],[0],(.seq Ju6 (.block 0 (.loop Jew)))⟩
def Jr9:IC:=.reg [⟨some 5, none,.mv (.t 0)⟩,⟨some 6, none,.len (.t 5)⟩,⟨some 4, none,.asg (.t 6)⟩] [0,1,4] []
def Jnc:IC:=.reg [⟨some 7, none,.mv (.t 0)⟩,⟨some 8, none,.mv (.t 4)⟩,⟨some 9, none,.mv (.t 4)⟩,⟨some 10, none,.conv .u64 (.t 9)⟩,⟨some 11, none,.call Jkz [(.val,(.t 10))] true⟩,⟨some 12, none,.mv (.t 1)⟩,⟨some 13, none,.call Qm7 [(.ld,(.t 7)),(.val,(.c (vi 0))),(.val,(.t 8)),(.val,(.t 11)),(.val,(.t 12))] false⟩] [0] []
def Ja6:Qbl:=⟨[],[0],(.seq Jr9 Jnc)⟩
def Jnn:IC:=.reg [⟨some 13, none,.mv (.t 2)⟩,⟨some 14, none,.mv (.t 1)⟩,⟨some 15, none,.bin .sub (.t 13) (.t 14)⟩,⟨some 8, none,.asg (.t 15)⟩] [0,1,8] []
def Jsz:IC:=.reg [⟨some 16, none,.mv (.t 8)⟩,⟨some 17, none,.bin .geq (.t 16) (.c (vi 8))⟩] [0,1,8,17] []
def Jw2:IC:=.reg [⟨some 18, none,.mv (.t 8)⟩,⟨some 19, none,.conv .u64 (.t 18)⟩,⟨some 9, none,.alloc [(.int .u64 (0))]⟩,⟨none,none,.store 1 (.t 9) (.t 19)⟩] [0,1,8,9] []
def Jw8:IC:=.reg [⟨some 20, none,.mv (.t 8)⟩,⟨some 21, none,.call Jth [(.val,(.t 20))] true⟩,⟨some 10, none,.asg (.t 21)⟩] [0,1,8,9,10] []
def Jne:IC:=.reg [⟨some 22, none,.mv (.t 1)⟩,⟨some 23, none,.mv (.t 8)⟩,⟨some 24, none,.bin .quo (.t 23) (.c (vi 4))⟩,⟨some 25, none,.bin .mul (.t 24) (.c (vi 2))⟩,⟨some 26, none,.bin .add (.t 22) (.t 25)⟩,⟨some 27, none,.bin .sub (.t 26) (.c (vi 1))⟩,⟨some 11, none,.asg (.t 27)⟩] [0,1,8,9,10,11] []
def Jn2:IC:=.reg [⟨some 28, none,.mv (.t 11)⟩,⟨some 29, none,.mv (.t 1)⟩,⟨some 30, none,.mv (.t 8)⟩,⟨some 31, none,.bin .quo (.t 30) (.c (vi 4))⟩,⟨some 32, none,.bin .mul (.t 31) (.c (vi 2))⟩,⟨some 33, none,.bin .add (.t 29) (.t 32)⟩,⟨some 34, none,.bin .add (.t 33) (.c (vi 1))⟩,⟨some 35, none,.bin .leq (.t 28) (.t 34)⟩] [0,1,8,9,10,11,35] []
def Jmm:IC:=.reg [⟨some 38, none,.call Qwl [(.val,(.t 9))] false⟩,⟨some 39, none,.mv (.t 10)⟩,⟨some 40, none,.bin .sub (.t 39) (.c (.int .u64 (1)))⟩,⟨some 41, none,.bin .and (.t 38) (.t 40)⟩,⟨some 42, none,.conv .i64 (.t 41)⟩,⟨some 12, none,.asg (.t 42)⟩] [0,1,8,9,10,11,12] []
def Jsw:IC:=.reg [⟨some 43, none,.mv (.t 12)⟩,⟨some 44, none,.mv (.t 8)⟩,⟨some 45, none,.bin .geq (.t 43) (.t 44)⟩] [0,1,8,9,10,11,12,45] []
def Jm6:IC:=.reg [⟨some 46, none,.mv (.t 12)⟩,⟨some 47, none,.mv (.t 8)⟩,⟨some 48, none,.bin .sub (.t 46) (.t 47)⟩,⟨some 12, none,.asg (.t 48)⟩] [0,1,8,9,10,11,12] []
def Jsn:IC:=.reg [⟨some 49, none,.mv (.t 0)⟩,⟨some 50, none,.mv (.t 11)⟩,⟨some 51, none,.mv (.t 0)⟩,⟨some 52, none,.mv (.t 1)⟩,⟨some 53, none,.mv (.t 12)⟩,⟨some 54, none,.bin .add (.t 52) (.t 53)⟩,⟨some 55, none,.mv (.t 0)⟩,⟨some 56, none,.mv (.t 1)⟩,⟨some 57, none,.mv (.t 12)⟩,⟨some 58, none,.bin .add (.t 56) (.t 57)⟩,⟨some 59, none,.iadr 2 (.t 55) (.t 58)⟩,⟨some 60, none,.load true 2 (.t 59)⟩,⟨some 61, none,.mv (.t 0)⟩,⟨some 62, none,.mv (.t 11)⟩,⟨some 63, none,.iadr 2 (.t 61) (.t 62)⟩,⟨some 64, none,.load true 2 (.t 63)⟩,⟨some 65, none,.iadr 2 (.t 49) (.t 50)⟩,⟨none,none,.store 2 (.t 65) (.t 60)⟩,⟨some 66, none,.iadr 2 (.t 51) (.t 54)⟩,⟨none,none,.store 2 (.t 66) (.t 64)⟩] [0,1,8,9,10,11] []
def Jga:IC:=.reg [⟨some 36, none,.mv (.t 11)⟩,⟨some 37, none,.bin .add (.t 36) (.c (vi 1))⟩,⟨some 11, none,.asg (.t 37)⟩] [0,1,8,9,10,11] []
def Qy7:IC:=(.seq (.seq Jn2 (.cond (.t 35) .skip (.exit 0))) (.seq (.block 1 (.seq Jmm (.seq (.seq Jsw (.cond (.t 45) Jm6 .skip)) Jsn))) Jga))
def Jc0:Qbl:=⟨[],[0],(.seq Jnn (.seq Jsz (.cond (.t 17) (.seq Jw2 (.seq Jw8 (.seq Jne (.block 0 (.loop Qy7))))) .skip)))⟩
def Jus:IC:=.reg [⟨some 8, none,.asg (.c (vi 0))⟩,⟨some 9, none,.asg (.c (vi 0))⟩] [0,1,2,3] []
def Js8:IC:=.reg [⟨some 15, none,.mv (.t 2)⟩,⟨some 16, none,.mv (.t 1)⟩,⟨some 17, none,.bin .sub (.t 15) (.t 16)⟩,⟨some 10, none,.asg (.t 17)⟩] [0,1,3,10] []
def Jtb:IC:=.reg [⟨some 11, none,.alloc [(vi 0)]⟩] [0,1,3,10,11] []
def Jqd:IC:=.reg [⟨some 18, none,.mv (.t 1)⟩,⟨some 19, none,.mv (.t 10)⟩,⟨some 20, none,.bin .quo (.t 19) (.c (vi 4))⟩,⟨some 21, none,.bin .mul (.t 20) (.c (vi 1))⟩,⟨some 22, none,.bin .add (.t 18) (.t 21)⟩,⟨some 12, none,.asg (.t 22)⟩] [0,1,3,10,11,12] []
def Jq9:IC:=.reg [⟨some 23, none,.mv (.t 1)⟩,⟨some 24, none,.mv (.t 10)⟩,⟨some 25, none,.bin .quo (.t 24) (.c (vi 4))⟩,⟨some 26, none,.bin .mul (.t 25) (.c (vi 2))⟩,⟨some 27, none,.bin .add (.t 23) (.t 26)⟩,⟨some 13, none,.asg (.t 27)⟩] [0,1,3,10,11,12,13] []
def Jlr:IC:=.reg [⟨some 28, none,.mv (.t 1)⟩,⟨some 29, none,.mv (.t 10)⟩,⟨some 30, none,.bin .quo (.t 29) (.c (vi 4))⟩,⟨some 31, none,.bin .mul (.t 30) (.c (vi 3))⟩,⟨some 32, none,.bin .add (.t 28) (.t 31)⟩,⟨some 14, none,.asg (.t 32)⟩] [0,3,10,11,12,13,14] []
def Jm9:IC:=.reg [⟨some 33, none,.mv (.t 10)⟩,⟨some 34, none,.bin .geq (.t 33) (.c (vi 8))⟩] [0,3,10,11,12,13,14,34] []
def Jli:IC:=.reg [⟨some 35, none,.mv (.t 10)⟩,⟨some 36, none,.bin .geq (.t 35) (.c (vi 50))⟩] [0,3,11,12,13,14,36] []
def Jlf:IC:=.reg [⟨some 37, none,.mv (.t 0)⟩,⟨some 38, none,.mv (.t 12)⟩,⟨some 39, none,.mv (.t 3)⟩,⟨some 40, none,.call Jdx [(.ld,(.t 37)),(.val,(.t 38)),(.val,(.t 11)),(.val,(.t 39))] false⟩,⟨some 12, none,.asg (.t 40)⟩] [0,3,11,12,13,14] []
def Jol:IC:=.reg [⟨some 41, none,.mv (.t 0)⟩,⟨some 42, none,.mv (.t 13)⟩,⟨some 43, none,.mv (.t 3)⟩,⟨some 44, none,.call Jdx [(.ld,(.t 41)),(.val,(.t 42)),(.val,(.t 11)),(.val,(.t 43))] false⟩,⟨some 13, none,.asg (.t 44)⟩] [0,3,11,12,13,14] []
def Jhu:IC:=.reg [⟨some 45, none,.mv (.t 0)⟩,⟨some 46, none,.mv (.t 14)⟩,⟨some 47, none,.mv (.t 3)⟩,⟨some 48, none,.call Jdx [(.ld,(.t 45)),(.val,(.t 46)),(.val,(.t 11)),(.val,(.t 47))] false⟩,⟨some 14, none,.asg (.t 48)⟩] [0,3,11,12,13,14] []
def Jfu:IC:=.reg [⟨some 49, none,.mv (.t 0)⟩,⟨some 50, none,.mv (.t 12)⟩,⟨some 51, none,.mv (.t 13)⟩,⟨some 52, none,.mv (.t 14)⟩,⟨some 53, none,.mv (.t 3)⟩,⟨some 54, none,.call Jaf [(.ld,(.t 49)),(.val,(.t 50)),(.val,(.t 51)),(.val,(.t 52)),(.val,(.t 11)),(.val,(.t 53))] false⟩,⟨some 13, none,.asg (.t 54)⟩] [0,11,13] []
def Jgr:IC:=.reg [⟨some 55, none,.load false 1 (.t 11)⟩] [0,13,55] []
def Jhn:IC:=.reg [⟨some 58, none,.bin .eql (.t 55) (.c (vi 0))⟩,⟨some 57, none,.asg (.t 58)⟩] [0,13,55,57] []
def Jf6:IC:=.reg [⟨some 59, none,.mv (.t 13)⟩,⟨some 8, none,.asgm (.t 59)⟩,⟨some 9, none,.asg (.c (vi 1))⟩] [0,8,9] []
def Jii:IC:=.reg [⟨some 61, none,.bin .eql (.t 55) (.c (vi 12))⟩,⟨some 60, none,.asg (.t 61)⟩] [0,13,60] []
def Jfh:IC:=.reg [⟨some 62, none,.mv (.t 13)⟩,⟨some 8, none,.asgm (.t 62)⟩,⟨some 9, none,.asg (.c (vi 2))⟩] [0,8,9] []
def Jjj:IC:=.reg [⟨some 56, none,.mv (.t 13)⟩,⟨some 8, none,.asgm (.t 56)⟩,⟨some 9, none,.asg (.c (vi 0))⟩] [0,8,9] []
def Qus:Qbl:=⟨[.t 8,.t 9],[0],(.seq Jus (.seq Js8 (.seq Jtb (.seq Jqd (.seq Jq9 (.seq Jlr (.seq (.seq Jm9 (.cond (.t 34) (.seq (.seq Jli (.cond (.t 36) (.seq Jlf (.seq Jol Jhu)) .skip)) Jfu) .skip)) (.seq Jgr (.block 0 (.seq Jhn (.cond (.t 57) (.seq Jf6 .ret) (.seq Jii (.cond (.t 60) (.seq Jfh .ret) (.seq Jjj .ret))))))))))))))⟩
def Jpg:IC:=.reg [⟨some 10, none,.mv (.t 1)⟩,⟨some 11, none,.bin .add (.t 10) (.c (vi 1))⟩,⟨some 8, none,.asg (.t 11)⟩] [0,1,2,3,8] []
def Jsf:IC:=.reg [⟨some 12, none,.mv (.t 8)⟩,⟨some 13, none,.mv (.t 2)⟩,⟨some 14, none,.bin .lss (.t 12) (.t 13)⟩] [0,1,2,3,8,14] []
def Jpy:IC:=.reg [⟨some 17, none,.mv (.t 8)⟩,⟨some 9, none,.asg (.t 17)⟩] [0,1,2,3,8,9] []
def Jmx:IC:=.reg [⟨some 18, none,.mv (.t 9)⟩,⟨some 19, none,.mv (.t 1)⟩,⟨some 20, none,.bin .gtr (.t 18) (.t 19)⟩,⟨some 21, none,.asg (.t 20)⟩,⟨some 22, (some (21,true)),.mv (.t 3)⟩,⟨some 23, (some (21,true)),.mv (.t 0)⟩,⟨some 24, (some (21,true)),.mv (.t 9)⟩,⟨some 25, (some (21,true)),.iadr 2 (.t 23) (.t 24)⟩,⟨some 26, (some (21,true)),.load true 2 (.t 25)⟩,⟨some 27, (some (21,true)),.mv (.t 0)⟩,⟨some 28, (some (21,true)),.mv (.t 9)⟩,⟨some 29, (some (21,true)),.bin .sub (.t 28) (.c (vi 1))⟩,⟨some 30, (some (21,true)),.iadr 2 (.t 27) (.t 29)⟩,⟨some 31, (some (21,true)),.load true 2 (.t 30)⟩,⟨some 32, (some (21,true)),.callv (.t 22) [(.val,(.t 26)),(.val,(.t 31))]⟩,⟨some 33, (some (21,true)),.bin .lss (.t 32) (.c (vi 0))⟩,⟨some 34, none,.pick (.t 21) (.t 33) (.c (.bool false))⟩] [0,1,2,3,8,9,34] []
def Jve:IC:=.reg [⟨some 37, none,.mv (.t 0)⟩,⟨some 38, none,.mv (.t 9)⟩,⟨some 39, none,.mv (.t 0)⟩,⟨some 40, none,.mv (.t 9)⟩,⟨some 41, none,.bin .sub (.t 40) (.c (vi 1))⟩,⟨some 42, none,.mv (.t 0)⟩,⟨some 43, none,.mv (.t 9)⟩,⟨some 44, none,.bin .sub (.t 43) (.c (vi 1))⟩,⟨some 45, none,.iadr 2 (.t 42) (.t 44)⟩,⟨some 46, none,.load true 2 (.t 45)⟩,⟨some 47, none,.mv (.t 0)⟩,⟨some 48, none,.mv (.t 9)⟩,⟨some 49, none,.iadr 2 (.t 47) (.t 48)⟩,⟨some 50, none,.load true 2 (.t 49)⟩,⟨some 51, none,.iadr 2 (.t 37) (.t 38)⟩,⟨none,none,.store 2 (.t 51) (.t 46)⟩,⟨some 52, none,.iadr 2 (.t 39) (.t 41)⟩,⟨none,none,.store 2 (.t 52) (.t 50)⟩] [0,1,2,3,8,9] []
def Jqz:IC:=.reg [⟨some 35, none,.mv (.t 9)⟩,⟨some 36, none,.bin .sub (.t 35) (.c (vi 1))⟩,⟨some 9, none,.asg (.t 36)⟩] [0,1,2,3,8,9] []
def Jet:IC:=(.seq (.seq Jmx (.cond (.t 34) .skip (.exit 2))) (.seq (.block 3 Jve) Jqz))
def Jp9:IC:=.reg [⟨some 15, none,.mv (.t 8)⟩,⟨some 16, none,.bin .add (.t 15) (.c (vi 1))⟩,⟨some 8, none,.asg (.t 16)⟩] [0,1,2,3,8] []
def Jd6:IC:=(.seq (.seq Jsf (.cond (.t 14) .skip (.exit 0))) (.seq (.block 1 (.seq Jpy (.block 2 (.loop Jet)))) Jp9))
def Qxn:Qbl:=⟨[],[0],(.seq Jpg (.block 0 (.loop Jd6)))⟩
def Jmk:IC:=.reg [⟨some 12, none,.asg (.c (vi 0))⟩] [0,1,2,3,4,5] []
def Jmb:IC:=.reg [⟨some 14, none,.mv (.t 0)⟩,⟨some 15, none,.mv (.t 1)⟩,⟨some 16, none,.mv (.t 2)⟩,⟨some 17, none,.mv (.t 4)⟩,⟨some 18, none,.mv (.t 5)⟩,⟨some 19, none,.call Qnz [(.ld,(.t 14)),(.val,(.t 15)),(.val,(.t 16)),(.val,(.t 17)),(.val,(.t 18))] false⟩,⟨some 13, none,.asg (.t 19)⟩,⟨some 20, none,.extr (.t 13) 0⟩,⟨some 21, none,.extr (.t 13) 1⟩,⟨some 1, none,.asg (.t 20)⟩,⟨some 2, none,.asg (.t 21)⟩] [0,1,2,3,4,5] []
def Jo0:IC:=.reg [⟨some 23, none,.mv (.t 0)⟩,⟨some 24, none,.mv (.t 2)⟩,⟨some 25, none,.mv (.t 3)⟩,⟨some 26, none,.mv (.t 4)⟩,⟨some 27, none,.mv (.t 5)⟩,⟨some 28, none,.call Qnz [(.ld,(.t 23)),(.val,(.t 24)),(.val,(.t 25)),(.val,(.t 26)),(.val,(.t 27))] false⟩,⟨some 22, none,.asg (.t 28)⟩,⟨some 29, none,.extr (.t 22) 0⟩,⟨some 30, none,.extr (.t 22) 1⟩,⟨some 2, none,.asg (.t 29)⟩,⟨some 3, none,.asg (.t 30)⟩] [0,1,2,4,5] []
def Jsp:IC:=.reg [⟨some 32, none,.mv (.t 0)⟩,⟨some 33, none,.mv (.t 1)⟩,⟨some 34, none,.mv (.t 2)⟩,⟨some 35, none,.mv (.t 4)⟩,⟨some 36, none,.mv (.t 5)⟩,⟨some 37, none,.call Qnz [(.ld,(.t 32)),(.val,(.t 33)),(.val,(.t 34)),(.val,(.t 35)),(.val,(.t 36))] false⟩,⟨some 31, none,.asg (.t 37)⟩,⟨some 38, none,.extr (.t 31) 0⟩,⟨some 39, none,.extr (.t 31) 1⟩,⟨some 1, none,.asg (.t 38)⟩,⟨some 2, none,.asg (.t 39)⟩] [0,2] []
def Jpk:IC:=.reg [⟨some 40, none,.mv (.t 2)⟩,⟨some 12, none,.asgm (.t 40)⟩] [0,12] []
def Jc4:Qbl:=⟨[.t 12],[0],(.seq Jmk (.seq Jmb (.seq Jo0 (.seq Jsp (.seq Jpk .ret)))))⟩
def z91r0:IC:=.reg [⟨some 2, none,.asg (.c (.int .u64 (0)))⟩] [0] []
def z91r1:IC:=.reg [⟨some 3, none,.mv (.t 0)⟩,⟨some 4, none,.conv .u64 (.t 3)⟩,⟨some 5, none,.call Jkz [(.val,(.t 4))] true⟩,⟨some 6, none,.bin .shl (.c (.int .u64 (1))) (.t 5)⟩,⟨some 2, none,.asg (.t 6)⟩] [2] []
def Jwh:Qbl:=⟨[.t 2],[],(.seq z91r0 (.seq z91r1 .ret))⟩
def Jnm:IC:=.reg [⟨some 10, none,.asg (.c (vi 0))⟩,⟨some 11, none,.asg (.c (vi 0))⟩] [0,1,2,3,4] []
def Js3:IC:=.reg [⟨some 12, none,.mv (.t 4)⟩,⟨some 13, none,.mv (.t 0)⟩,⟨some 14, none,.mv (.t 2)⟩,⟨some 15, none,.iadr 2 (.t 13) (.t 14)⟩,⟨some 16, none,.load true 2 (.t 15)⟩,⟨some 17, none,.mv (.t 0)⟩,⟨some 18, none,.mv (.t 1)⟩,⟨some 19, none,.iadr 2 (.t 17) (.t 18)⟩,⟨some 20, none,.load true 2 (.t 19)⟩,⟨some 21, none,.callv (.t 12) [(.val,(.t 16)),(.val,(.t 20))]⟩,⟨some 22, none,.bin .lss (.t 21) (.c (vi 0))⟩] [0,1,2,3,22] []
def Jmh:IC:=.reg [⟨some 23, none,.mv (.t 3)⟩,⟨some 24, none,.nilck (.t 23)⟩,⟨some 25, none,.load false 1 (.t 24)⟩,⟨some 26, none,.bin .add (.t 25) (.c (vi 1))⟩,⟨some 27, none,.nilck (.t 23)⟩,⟨none,none,.store 1 (.t 27) (.t 26)⟩] [0,1,2] []
def Jua:IC:=.reg [⟨some 28, none,.mv (.t 2)⟩,⟨some 29, none,.mv (.t 1)⟩,⟨some 10, none,.asgm (.t 28)⟩,⟨some 11, none,.asgm (.t 29)⟩] [0,10,11] []
def Jpe:IC:=.reg [⟨some 30, none,.mv (.t 1)⟩,⟨some 31, none,.mv (.t 2)⟩,⟨some 10, none,.asgm (.t 30)⟩,⟨some 11, none,.asgm (.t 31)⟩] [0,10,11] []
def Qyn:Qbl:=⟨[.t 10,.t 11],[0],(.seq Jnm (.seq (.seq Js3 (.cond (.t 22) (.seq Jmh (.seq Jua .ret)) .skip)) (.seq Jpe .ret)))⟩
def Jw5:IC:=.reg [⟨some 8, none,.asg (.c (.bool false))⟩] [0,1,2,3] []
def Js5:IC:=.reg [⟨some 13, none,.mv (.t 1)⟩,⟨some 14, none,.bin .add (.t 13) (.c (vi 1))⟩,⟨some 9, none,.asg (.t 14)⟩] [0,1,2,3,9] []
def Jm3:IC:=.reg [⟨some 10, none,.asg (.c (vi 0))⟩] [0,1,2,3,9,10] []
def Jv2:IC:=.reg [⟨some 15, none,.mv (.t 10)⟩,⟨some 16, none,.bin .lss (.t 15) (.c (vi 5))⟩] [0,1,2,3,9,10,16] []
def Ju4:IC:=.reg [⟨some 19, none,.mv (.t 9)⟩,⟨some 20, none,.mv (.t 2)⟩,⟨some 21, none,.bin .lss (.t 19) (.t 20)⟩,⟨some 22, none,.asg (.t 21)⟩,⟨some 23, (some (22,true)),.mv (.t 3)⟩,⟨some 24, (some (22,true)),.mv (.t 0)⟩,⟨some 25, (some (22,true)),.mv (.t 9)⟩,⟨some 26, (some (22,true)),.iadr 2 (.t 24) (.t 25)⟩,⟨some 27, (some (22,true)),.load true 2 (.t 26)⟩,⟨some 28, (some (22,true)),.mv (.t 0)⟩,⟨some 29, (some (22,true)),.mv (.t 9)⟩,⟨some 30, (some (22,true)),.bin .sub (.t 29) (.c (vi 1))⟩,⟨some 31, (some (22,true)),.iadr 2 (.t 28) (.t 30)⟩,⟨some 32, (some (22,true)),.load true 2 (.t 31)⟩,⟨some 33, (some (22,true)),.callv (.t 23) [(.val,(.t 27)),(.val,(.t 32))]⟩,⟨some 34, (some (22,true)),.bin .lss (.t 33) (.c (vi 0))⟩,⟨some 35, (some (22,true)),.unop .not (.t 34)⟩,⟨some 36, none,.pick (.t 22) (.t 35) (.c (.bool false))⟩] [0,1,2,3,9,10,36] []
def Jum:IC:=.reg [⟨some 37, none,.mv (.t 9)⟩,⟨some 38, none,.bin .add (.t 37) (.c (vi 1))⟩,⟨some 9, none,.asg (.t 38)⟩] [0,1,2,3,9,10] []
def Jee:IC:=(.seq (.seq Ju4 (.cond (.t 36) .skip (.exit 2))) (.block 3 Jum))
def Jrt:IC:=.reg [⟨some 39, none,.mv (.t 9)⟩,⟨some 40, none,.mv (.t 2)⟩,⟨some 41, none,.bin .eql (.t 39) (.t 40)⟩] [0,1,2,3,9,10,41] []
def Jl1:IC:=.reg [⟨some 8, none,.asg (.c (.bool true))⟩] [0,8] []
def Js7:IC:=.reg [⟨some 42, none,.mv (.t 2)⟩,⟨some 43, none,.mv (.t 1)⟩,⟨some 44, none,.bin .sub (.t 42) (.t 43)⟩,⟨some 45, none,.bin .lss (.t 44) (.c (vi 50))⟩] [0,1,2,3,9,10,45] []
def Jf8:IC:=.reg [⟨some 8, none,.asg (.c (.bool false))⟩] [0,8] []
def Jjt:IC:=.reg [⟨some 46, none,.mv (.t 0)⟩,⟨some 47, none,.mv (.t 9)⟩,⟨some 48, none,.mv (.t 0)⟩,⟨some 49, none,.mv (.t 9)⟩,⟨some 50, none,.bin .sub (.t 49) (.c (vi 1))⟩,⟨some 51, none,.mv (.t 0)⟩,⟨some 52, none,.mv (.t 9)⟩,⟨some 53, none,.bin .sub (.t 52) (.c (vi 1))⟩,⟨some 54, none,.iadr 2 (.t 51) (.t 53)⟩,⟨some 55, none,.load true 2 (.t 54)⟩,⟨some 56, none,.mv (.t 0)⟩,⟨some 57, none,.mv (.t 9)⟩,⟨some 58, none,.iadr 2 (.t 56) (.t 57)⟩,⟨some 59, none,.load true 2 (.t 58)⟩,⟨some 60, none,.iadr 2 (.t 46) (.t 47)⟩,⟨none,none,.store 2 (.t 60) (.t 55)⟩,⟨some 61, none,.iadr 2 (.t 48) (.t 50)⟩,⟨none,none,.store 2 (.t 61) (.t 59)⟩] [0,1,2,3,9,10] []
def Jgc:IC:=.reg [⟨some 62, none,.mv (.t 9)⟩,⟨some 63, none,.mv (.t 1)⟩,⟨some 64, none,.bin .sub (.t 62) (.t 63)⟩,⟨some 65, none,.bin .geq (.t 64) (.c (vi 2))⟩] [0,1,2,3,9,10,65] []
def Jgd:IC:=.reg [⟨some 66, none,.mv (.t 9)⟩,⟨some 67, none,.bin .sub (.t 66) (.c (vi 1))⟩,⟨some 11, none,.asg (.t 67)⟩] [0,1,2,3,9,10,11] []
def Jib:IC:=.reg [⟨some 68, none,.mv (.t 11)⟩,⟨some 69, none,.bin .geq (.t 68) (.c (vi 1))⟩] [0,1,2,3,9,10,11,69] []
def Jj9:IC:=.reg [⟨some 72, none,.mv (.t 3)⟩,⟨some 73, none,.mv (.t 0)⟩,⟨some 74, none,.mv (.t 11)⟩,⟨some 75, none,.iadr 2 (.t 73) (.t 74)⟩,⟨some 76, none,.load true 2 (.t 75)⟩,⟨some 77, none,.mv (.t 0)⟩,⟨some 78, none,.mv (.t 11)⟩,⟨some 79, none,.bin .sub (.t 78) (.c (vi 1))⟩,⟨some 80, none,.iadr 2 (.t 77) (.t 79)⟩,⟨some 81, none,.load true 2 (.t 80)⟩,⟨some 82, none,.callv (.t 72) [(.val,(.t 76)),(.val,(.t 81))]⟩,⟨some 83, none,.bin .lss (.t 82) (.c (vi 0))⟩,⟨some 84, none,.unop .not (.t 83)⟩] [0,1,2,3,9,10,11,84] []
def Jke:IC:=.reg [⟨some 85, none,.mv (.t 0)⟩,⟨some 86, none,.mv (.t 11)⟩,⟨some 87, none,.mv (.t 0)⟩,⟨some 88, none,.mv (.t 11)⟩,⟨some 89, none,.bin .sub (.t 88) (.c (vi 1))⟩,⟨some 90, none,.mv (.t 0)⟩,⟨some 91, none,.mv (.t 11)⟩,⟨some 92, none,.bin .sub (.t 91) (.c (vi 1))⟩,⟨some 93, none,.iadr 2 (.t 90) (.t 92)⟩,⟨some 94, none,.load true 2 (.t 93)⟩,⟨some 95, none,.mv (.t 0)⟩,⟨some 96, none,.mv (.t 11)⟩,⟨some 97, none,.iadr 2 (.t 95) (.t 96)⟩,⟨some 98, none,.load true 2 (.t 97)⟩,⟨some 99, none,.iadr 2 (.t 85) (.t 86)⟩,⟨none,none,.store 2 (.t 99) (.t 94)⟩,⟨some 100, none,.iadr 2 (.t 87) (.t 89)⟩,⟨none,none,.store 2 (.t 100) (.t 98)⟩] [0,1,2,3,9,10,11] []
def Jgf:IC:=.reg [⟨some 70, none,.mv (.t 11)⟩,⟨some 71, none,.bin .sub (.t 70) (.c (vi 1))⟩,⟨some 11, none,.asg (.t 71)⟩] [0,1,2,3,9,10,11] []
def Jg3:IC:=(.seq (.seq Jib (.cond (.t 69) .skip (.exit 4))) (.seq (.block 5 (.seq (.seq Jj9 (.cond (.t 84) (.exit 4) .skip)) Jke)) Jgf))
def Jjc:IC:=.reg [⟨some 101, none,.mv (.t 2)⟩,⟨some 102, none,.mv (.t 9)⟩,⟨some 103, none,.bin .sub (.t 101) (.t 102)⟩,⟨some 104, none,.bin .geq (.t 103) (.c (vi 2))⟩] [0,1,2,3,9,10,104] []
def Jgj:IC:=.reg [⟨some 105, none,.mv (.t 9)⟩,⟨some 106, none,.bin .add (.t 105) (.c (vi 1))⟩,⟨some 12, none,.asg (.t 106)⟩] [0,1,2,3,9,10,12] []
def Jhc:IC:=.reg [⟨some 107, none,.mv (.t 12)⟩,⟨some 108, none,.mv (.t 2)⟩,⟨some 109, none,.bin .lss (.t 107) (.t 108)⟩] [0,1,2,3,9,10,12,109] []
def Jgh:IC:=.reg [⟨some 112, none,.mv (.t 3)⟩,⟨some 113, none,.mv (.t 0)⟩,⟨some 114, none,.mv (.t 12)⟩,⟨some 115, none,.iadr 2 (.t 113) (.t 114)⟩,⟨some 116, none,.load true 2 (.t 115)⟩,⟨some 117, none,.mv (.t 0)⟩,⟨some 118, none,.mv (.t 12)⟩,⟨some 119, none,.bin .sub (.t 118) (.c (vi 1))⟩,⟨some 120, none,.iadr 2 (.t 117) (.t 119)⟩,⟨some 121, none,.load true 2 (.t 120)⟩,⟨some 122, none,.callv (.t 112) [(.val,(.t 116)),(.val,(.t 121))]⟩,⟨some 123, none,.bin .lss (.t 122) (.c (vi 0))⟩,⟨some 124, none,.unop .not (.t 123)⟩] [0,1,2,3,9,10,12,124] []
def Jkl:IC:=.reg [⟨some 125, none,.mv (.t 0)⟩,⟨some 126, none,.mv (.t 12)⟩,⟨some 127, none,.mv (.t 0)⟩,⟨some 128, none,.mv (.t 12)⟩,⟨some 129, none,.bin .sub (.t 128) (.c (vi 1))⟩,⟨some 130, none,.mv (.t 0)⟩,⟨some 131, none,.mv (.t 12)⟩,⟨some 132, none,.bin .sub (.t 131) (.c (vi 1))⟩,⟨some 133, none,.iadr 2 (.t 130) (.t 132)⟩,⟨some 134, none,.load true 2 (.t 133)⟩,⟨some 135, none,.mv (.t 0)⟩,⟨some 136, none,.mv (.t 12)⟩,⟨some 137, none,.iadr 2 (.t 135) (.t 136)⟩,⟨some 138, none,.load true 2 (.t 137)⟩,⟨some 139, none,.iadr 2 (.t 125) (.t 126)⟩,⟨none,none,.store 2 (.t 139) (.t 134)⟩,⟨some 140, none,.iadr 2 (.t 127) (.t 129)⟩,⟨none,none,.store 2 (.t 140) (.t 138)⟩] [0,1,2,3,9,10,12] []
def Jif:IC:=.reg [⟨some 110, none,.mv (.t 12)⟩,⟨some 111, none,.bin .add (.t 110) (.c (vi 1))⟩,⟨some 12, none,.asg (.t 111)⟩] [0,1,2,3,9,10,12] []
def Jfl:IC:=(.seq (.seq Jhc (.cond (.t 109) .skip (.exit 6))) (.seq (.block 7 (.seq (.seq Jgh (.cond (.t 124) (.exit 6) .skip)) Jkl)) Jif))
def Jfq:IC:=.reg [⟨some 17, none,.mv (.t 10)⟩,⟨some 18, none,.bin .add (.t 17) (.c (vi 1))⟩,⟨some 10, none,.asg (.t 18)⟩] [0,1,2,3,9,10] []
def Jfp:IC:=(.seq (.seq Jv2 (.cond (.t 16) .skip (.exit 0))) (.seq (.block 1 (.seq (.block 2 (.loop Jee)) (.seq (.seq Jrt (.cond (.t 41) (.seq Jl1 .ret) .skip)) (.seq (.seq Js7 (.cond (.t 45) (.seq Jf8 .ret) .skip)) (.seq Jjt (.seq (.seq Jgc (.cond (.t 65) (.seq Jgd (.block 4 (.loop Jg3))) .skip)) (.seq Jjc (.cond (.t 104) (.seq Jgj (.block 6 (.loop Jfl))) .skip)))))))) Jfq))
def Jjk:IC:=.reg [⟨some 8, none,.asg (.c (.bool false))⟩] [0,8] []
def Qy8:Qbl:=⟨[.t 8],[0],(.seq Jw5 (.seq Js5 (.seq (.seq Jm3 (.block 0 (.loop Jfp))) (.seq Jjk .ret))))⟩
def Jmd:IC:=.reg [⟨some 10, none,.asg (.c (vi 0))⟩,⟨some 11, none,.asg (.c (.bool false))⟩] [0,1,2,3,4] []
def Jsj:IC:=.reg [⟨some 14, none,.mv (.t 0)⟩,⟨some 15, none,.mv (.t 1)⟩,⟨some 16, none,.mv (.t 0)⟩,⟨some 17, none,.mv (.t 3)⟩,⟨some 18, none,.mv (.t 0)⟩,⟨some 19, none,.mv (.t 3)⟩,⟨some 20, none,.iadr 2 (.t 18) (.t 19)⟩,⟨some 21, none,.load true 2 (.t 20)⟩,⟨some 22, none,.mv (.t 0)⟩,⟨some 23, none,.mv (.t 1)⟩,⟨some 24, none,.iadr 2 (.t 22) (.t 23)⟩,⟨some 25, none,.load true 2 (.t 24)⟩,⟨some 26, none,.iadr 2 (.t 14) (.t 15)⟩,⟨none,none,.store 2 (.t 26) (.t 21)⟩,⟨some 27, none,.iadr 2 (.t 16) (.t 17)⟩,⟨none,none,.store 2 (.t 27) (.t 25)⟩] [0,1,2,4] []
def Jpr:IC:=.reg [⟨some 28, none,.mv (.t 1)⟩,⟨some 29, none,.bin .add (.t 28) (.c (vi 1))⟩,⟨some 30, none,.mv (.t 2)⟩,⟨some 31, none,.bin .sub (.t 30) (.c (vi 1))⟩,⟨some 12, none,.asg (.t 29)⟩,⟨some 13, none,.asg (.t 31)⟩] [0,1,4,12,13] []
def Ju8:IC:=.reg [⟨some 32, none,.mv (.t 12)⟩,⟨some 33, none,.mv (.t 13)⟩,⟨some 34, none,.bin .leq (.t 32) (.t 33)⟩,⟨some 35, none,.asg (.t 34)⟩,⟨some 36, (some (35,true)),.mv (.t 4)⟩,⟨some 37, (some (35,true)),.mv (.t 0)⟩,⟨some 38, (some (35,true)),.mv (.t 12)⟩,⟨some 39, (some (35,true)),.iadr 2 (.t 37) (.t 38)⟩,⟨some 40, (some (35,true)),.load true 2 (.t 39)⟩,⟨some 41, (some (35,true)),.mv (.t 0)⟩,⟨some 42, (some (35,true)),.mv (.t 1)⟩,⟨some 43, (some (35,true)),.iadr 2 (.t 41) (.t 42)⟩,⟨some 44, (some (35,true)),.load true 2 (.t 43)⟩,⟨some 45, (some (35,true)),.callv (.t 36) [(.val,(.t 40)),(.val,(.t 44))]⟩,⟨some 46, (some (35,true)),.bin .lss (.t 45) (.c (vi 0))⟩,⟨some 47, none,.pick (.t 35) (.t 46) (.c (.bool false))⟩] [0,1,4,12,13,47] []
def Jom:IC:=.reg [⟨some 48, none,.mv (.t 12)⟩,⟨some 49, none,.bin .add (.t 48) (.c (vi 1))⟩,⟨some 12, none,.asg (.t 49)⟩] [0,1,4,12,13] []
def Je4:IC:=(.seq (.seq Ju8 (.cond (.t 47) .skip (.exit 0))) (.block 1 Jom))
def Jmr:IC:=.reg [⟨some 50, none,.mv (.t 12)⟩,⟨some 51, none,.mv (.t 13)⟩,⟨some 52, none,.bin .leq (.t 50) (.t 51)⟩,⟨some 53, none,.asg (.t 52)⟩,⟨some 54, (some (53,true)),.mv (.t 4)⟩,⟨some 55, (some (53,true)),.mv (.t 0)⟩,⟨some 56, (some (53,true)),.mv (.t 13)⟩,⟨some 57, (some (53,true)),.iadr 2 (.t 55) (.t 56)⟩,⟨some 58, (some (53,true)),.load true 2 (.t 57)⟩,⟨some 59, (some (53,true)),.mv (.t 0)⟩,⟨some 60, (some (53,true)),.mv (.t 1)⟩,⟨some 61, (some (53,true)),.iadr 2 (.t 59) (.t 60)⟩,⟨some 62, (some (53,true)),.load true 2 (.t 61)⟩,⟨some 63, (some (53,true)),.callv (.t 54) [(.val,(.t 58)),(.val,(.t 62))]⟩,⟨some 64, (some (53,true)),.bin .lss (.t 63) (.c (vi 0))⟩,⟨some 65, (some (53,true)),.unop .not (.t 64)⟩,⟨some 66, none,.pick (.t 53) (.t 65) (.c (.bool false))⟩] [0,1,4,12,13,66] []
def Jqk:IC:=.reg [⟨some 67, none,.mv (.t 13)⟩,⟨some 68, none,.bin .sub (.t 67) (.c (vi 1))⟩,⟨some 13, none,.asg (.t 68)⟩] [0,1,4,12,13] []
def Jec:IC:=(.seq (.seq Jmr (.cond (.t 66) .skip (.exit 2))) (.block 3 Jqk))
def Jtw:IC:=.reg [⟨some 69, none,.mv (.t 12)⟩,⟨some 70, none,.mv (.t 13)⟩,⟨some 71, none,.bin .gtr (.t 69) (.t 70)⟩] [0,1,4,12,13,71] []
def Jj3:IC:=.reg [⟨some 72, none,.mv (.t 0)⟩,⟨some 73, none,.mv (.t 13)⟩,⟨some 74, none,.mv (.t 0)⟩,⟨some 75, none,.mv (.t 1)⟩,⟨some 76, none,.mv (.t 0)⟩,⟨some 77, none,.mv (.t 1)⟩,⟨some 78, none,.iadr 2 (.t 76) (.t 77)⟩,⟨some 79, none,.load true 2 (.t 78)⟩,⟨some 80, none,.mv (.t 0)⟩,⟨some 81, none,.mv (.t 13)⟩,⟨some 82, none,.iadr 2 (.t 80) (.t 81)⟩,⟨some 83, none,.load true 2 (.t 82)⟩,⟨some 84, none,.iadr 2 (.t 72) (.t 73)⟩,⟨none,none,.store 2 (.t 84) (.t 79)⟩,⟨some 85, none,.iadr 2 (.t 74) (.t 75)⟩,⟨none,none,.store 2 (.t 85) (.t 83)⟩] [0,13] []
def Jg2:IC:=.reg [⟨some 86, none,.mv (.t 13)⟩,⟨some 10, none,.asgm (.t 86)⟩,⟨some 11, none,.asg (.c (.bool true))⟩] [0,10,11] []
def Jh7:IC:=.reg [⟨some 87, none,.mv (.t 0)⟩,⟨some 88, none,.mv (.t 12)⟩,⟨some 89, none,.mv (.t 0)⟩,⟨some 90, none,.mv (.t 13)⟩,⟨some 91, none,.mv (.t 0)⟩,⟨some 92, none,.mv (.t 13)⟩,⟨some 93, none,.iadr 2 (.t 91) (.t 92)⟩,⟨some 94, none,.load true 2 (.t 93)⟩,⟨some 95, none,.mv (.t 0)⟩,⟨some 96, none,.mv (.t 12)⟩,⟨some 97, none,.iadr 2 (.t 95) (.t 96)⟩,⟨some 98, none,.load true 2 (.t 97)⟩,⟨some 99, none,.iadr 2 (.t 87) (.t 88)⟩,⟨none,none,.store 2 (.t 99) (.t 94)⟩,⟨some 100, none,.iadr 2 (.t 89) (.t 90)⟩,⟨none,none,.store 2 (.t 100) (.t 98)⟩] [0,1,4,12,13] []
def Jgb:IC:=.reg [⟨some 101, none,.mv (.t 12)⟩,⟨some 102, none,.bin .add (.t 101) (.c (vi 1))⟩,⟨some 12, none,.asg (.t 102)⟩] [0,1,4,12,13] []
def Jg9:IC:=.reg [⟨some 103, none,.mv (.t 13)⟩,⟨some 104, none,.bin .sub (.t 103) (.c (vi 1))⟩,⟨some 13, none,.asg (.t 104)⟩] [0,1,4,12,13] []
def Jgo:IC:=.reg [⟨some 105, none,.mv (.t 12)⟩,⟨some 106, none,.mv (.t 13)⟩,⟨some 107, none,.bin .leq (.t 105) (.t 106)⟩,⟨some 108, none,.asg (.t 107)⟩,⟨some 109, (some (108,true)),.mv (.t 4)⟩,⟨some 110, (some (108,true)),.mv (.t 0)⟩,⟨some 111, (some (108,true)),.mv (.t 12)⟩,⟨some 112, (some (108,true)),.iadr 2 (.t 110) (.t 111)⟩,⟨some 113, (some (108,true)),.load true 2 (.t 112)⟩,⟨some 114, (some (108,true)),.mv (.t 0)⟩,⟨some 115, (some (108,true)),.mv (.t 1)⟩,⟨some 116, (some (108,true)),.iadr 2 (.t 114) (.t 115)⟩,⟨some 117, (some (108,true)),.load true 2 (.t 116)⟩,⟨some 118, (some (108,true)),.callv (.t 109) [(.val,(.t 113)),(.val,(.t 117))]⟩,⟨some 119, (some (108,true)),.bin .lss (.t 118) (.c (vi 0))⟩,⟨some 120, none,.pick (.t 108) (.t 119) (.c (.bool false))⟩] [0,1,4,12,13,120] []
def Jfd:IC:=.reg [⟨some 121, none,.mv (.t 12)⟩,⟨some 122, none,.bin .add (.t 121) (.c (vi 1))⟩,⟨some 12, none,.asg (.t 122)⟩] [0,1,4,12,13] []
def Qvu:IC:=(.seq (.seq Jgo (.cond (.t 120) .skip (.exit 6))) (.block 7 Jfd))
def Jjp:IC:=.reg [⟨some 123, none,.mv (.t 12)⟩,⟨some 124, none,.mv (.t 13)⟩,⟨some 125, none,.bin .leq (.t 123) (.t 124)⟩,⟨some 126, none,.asg (.t 125)⟩,⟨some 127, (some (126,true)),.mv (.t 4)⟩,⟨some 128, (some (126,true)),.mv (.t 0)⟩,⟨some 129, (some (126,true)),.mv (.t 13)⟩,⟨some 130, (some (126,true)),.iadr 2 (.t 128) (.t 129)⟩,⟨some 131, (some (126,true)),.load true 2 (.t 130)⟩,⟨some 132, (some (126,true)),.mv (.t 0)⟩,⟨some 133, (some (126,true)),.mv (.t 1)⟩,⟨some 134, (some (126,true)),.iadr 2 (.t 132) (.t 133)⟩,⟨some 135, (some (126,true)),.load true 2 (.t 134)⟩,⟨some 136, (some (126,true)),.callv (.t 127) [(.val,(.t 131)),(.val,(.t 135))]⟩,⟨some 137, (some (126,true)),.bin .lss (.t 136) (.c (vi 0))⟩,⟨some 138, (some (126,true)),.unop .not (.t 137)⟩,⟨some 139, none,.pick (.t 126) (.t 138) (.c (.bool false))⟩] [0,1,4,12,13,139] []
def Jha:IC:=.reg [⟨some 140, none,.mv (.t 13)⟩,⟨some 141, none,.bin .sub (.t 140) (.c (vi 1))⟩,⟨some 13, none,.asg (.t 141)⟩] [0,1,4,12,13] []
def Qvf:IC:=(.seq (.seq Jjp (.cond (.t 139) .skip (.exit 8))) (.block 9 Jha))
def Jh8:IC:=.reg [⟨some 142, none,.mv (.t 12)⟩,⟨some 143, none,.mv (.t 13)⟩,⟨some 144, none,.bin .gtr (.t 142) (.t 143)⟩] [0,1,4,12,13,144] []
def Jh2:IC:=.reg [⟨some 145, none,.mv (.t 0)⟩,⟨some 146, none,.mv (.t 12)⟩,⟨some 147, none,.mv (.t 0)⟩,⟨some 148, none,.mv (.t 13)⟩,⟨some 149, none,.mv (.t 0)⟩,⟨some 150, none,.mv (.t 13)⟩,⟨some 151, none,.iadr 2 (.t 149) (.t 150)⟩,⟨some 152, none,.load true 2 (.t 151)⟩,⟨some 153, none,.mv (.t 0)⟩,⟨some 154, none,.mv (.t 12)⟩,⟨some 155, none,.iadr 2 (.t 153) (.t 154)⟩,⟨some 156, none,.load true 2 (.t 155)⟩,⟨some 157, none,.iadr 2 (.t 145) (.t 146)⟩,⟨none,none,.store 2 (.t 157) (.t 152)⟩,⟨some 158, none,.iadr 2 (.t 147) (.t 148)⟩,⟨none,none,.store 2 (.t 158) (.t 156)⟩] [0,1,4,12,13] []
def Jjy:IC:=.reg [⟨some 159, none,.mv (.t 12)⟩,⟨some 160, none,.bin .add (.t 159) (.c (vi 1))⟩,⟨some 12, none,.asg (.t 160)⟩] [0,1,4,12,13] []
def Jfx:IC:=.reg [⟨some 161, none,.mv (.t 13)⟩,⟨some 162, none,.bin .sub (.t 161) (.c (vi 1))⟩,⟨some 13, none,.asg (.t 162)⟩] [0,1,4,12,13] []
def Qwk:IC:=(.block 5 (.seq (.block 6 (.loop Qvu)) (.seq (.block 8 (.loop Qvf)) (.seq (.seq Jh8 (.cond (.t 144) (.exit 4) .skip)) (.seq Jh2 (.seq Jjy Jfx))))))
def Jko:IC:=.reg [⟨some 163, none,.mv (.t 0)⟩,⟨some 164, none,.mv (.t 13)⟩,⟨some 165, none,.mv (.t 0)⟩,⟨some 166, none,.mv (.t 1)⟩,⟨some 167, none,.mv (.t 0)⟩,⟨some 168, none,.mv (.t 1)⟩,⟨some 169, none,.iadr 2 (.t 167) (.t 168)⟩,⟨some 170, none,.load true 2 (.t 169)⟩,⟨some 171, none,.mv (.t 0)⟩,⟨some 172, none,.mv (.t 13)⟩,⟨some 173, none,.iadr 2 (.t 171) (.t 172)⟩,⟨some 174, none,.load true 2 (.t 173)⟩,⟨some 175, none,.iadr 2 (.t 163) (.t 164)⟩,⟨none,none,.store 2 (.t 175) (.t 170)⟩,⟨some 176, none,.iadr 2 (.t 165) (.t 166)⟩,⟨none,none,.store 2 (.t 176) (.t 174)⟩] [0,13] []
def Jhz:IC:=.reg [⟨some 177, none,.mv (.t 13)⟩,⟨some 10, none,.asgm (.t 177)⟩,⟨some 11, none,.asg (.c (.bool false))⟩] [0,10,11] []
def Qzg:Qbl:=⟨[.t 10,.t 11],[0],(.seq Jmd (.seq Jsj (.seq Jpr (.seq (.block 0 (.loop Je4)) (.seq (.block 2 (.loop Jec)) (.seq (.seq Jtw (.cond (.t 71) (.seq Jj3 (.seq Jg2 .ret)) .skip)) (.seq Jh7 (.seq Jgb (.seq Jg9 (.seq (.block 4 (.loop Qwk)) (.seq Jko (.seq Jhz .ret))))))))))))⟩
def Jr1:IC:=.reg [⟨some 10, none,.asg (.c (.bool true))⟩] [0,1,2,3,4,10] []
def Jq8:IC:=.reg [⟨some 11, none,.asg (.c (.bool true))⟩] [0,1,2,3,4,10,11] []
def Jme:IC:=.reg [⟨some 21, none,.mv (.t 2)⟩,⟨some 22, none,.mv (.t 1)⟩,⟨some 23, none,.bin .sub (.t 21) (.t 22)⟩,⟨some 12, none,.asg (.t 23)⟩] [0,1,2,3,4,10,11,12] []
def Jou:IC:=.reg [⟨some 24, none,.mv (.t 12)⟩,⟨some 25, none,.bin .leq (.t 24) (.c (vi 12))⟩] [0,1,2,3,4,10,11,12,25] []
def Jk9:IC:=.reg [⟨some 26, none,.mv (.t 0)⟩,⟨some 27, none,.mv (.t 1)⟩,⟨some 28, none,.mv (.t 2)⟩,⟨some 29, none,.mv (.t 4)⟩,⟨some 30, none,.call Qt7 [(.ld,(.t 26)),(.val,(.t 27)),(.val,(.t 28)),(.val,(.t 29))] false⟩] [0] []
def Jsd:IC:=.reg [⟨some 31, none,.mv (.t 3)⟩,⟨some 32, none,.bin .eql (.t 31) (.c (vi 0))⟩] [0,1,2,3,4,10,11,12,32] []
def Jmn:IC:=.reg [⟨some 33, none,.mv (.t 0)⟩,⟨some 34, none,.mv (.t 1)⟩,⟨some 35, none,.mv (.t 2)⟩,⟨some 36, none,.mv (.t 4)⟩,⟨some 37, none,.call Jv9 [(.ld,(.t 33)),(.val,(.t 34)),(.val,(.t 35)),(.val,(.t 36))] false⟩] [0] []
def Juy:IC:=.reg [⟨some 38, none,.mv (.t 10)⟩,⟨some 39, none,.unop .not (.t 38)⟩] [0,1,2,3,4,10,11,12,39] []
def Jwk:IC:=.reg [⟨some 40, none,.mv (.t 0)⟩,⟨some 41, none,.mv (.t 1)⟩,⟨some 42, none,.mv (.t 2)⟩,⟨some 43, none,.mv (.t 4)⟩,⟨some 44, none,.call Quf [(.ld,(.t 40)),(.val,(.t 41)),(.val,(.t 42)),(.val,(.t 43))] false⟩] [0,1,2,3,4,10,11,12] []
def Joz:IC:=.reg [⟨some 45, none,.mv (.t 3)⟩,⟨some 46, none,.bin .sub (.t 45) (.c (vi 1))⟩,⟨some 3, none,.asg (.t 46)⟩] [0,1,2,3,4,10,11,12] []
def Qun:IC:=.reg [⟨some 48, none,.mv (.t 0)⟩,⟨some 49, none,.mv (.t 1)⟩,⟨some 50, none,.mv (.t 2)⟩,⟨some 51, none,.mv (.t 4)⟩,⟨some 52, none,.call Qyc [(.ld,(.t 48)),(.val,(.t 49)),(.val,(.t 50)),(.val,(.t 51))] false⟩,⟨some 47, none,.asg (.t 52)⟩,⟨some 53, none,.extr (.t 47) 0⟩,⟨some 54, none,.extr (.t 47) 1⟩,⟨some 13, none,.asg (.t 53)⟩,⟨some 14, none,.asg (.t 54)⟩] [0,1,2,3,4,10,11,12,13,14] []
def Jad:IC:=.reg [⟨some 55, none,.mv (.t 14)⟩,⟨some 56, none,.bin .eql (.t 55) (.c (vi 2))⟩] [0,1,2,3,4,10,11,12,13,14,56] []
def Jac:IC:=.reg [⟨some 57, none,.mv (.t 0)⟩,⟨some 58, none,.mv (.t 1)⟩,⟨some 59, none,.mv (.t 2)⟩,⟨some 60, none,.mv (.t 4)⟩,⟨some 61, none,.call Jvh [(.ld,(.t 57)),(.val,(.t 58)),(.val,(.t 59)),(.val,(.t 60))] false⟩] [0,1,2,3,4,10,11,12,13] []
def Qvk:IC:=.reg [⟨some 62, none,.mv (.t 2)⟩,⟨some 63, none,.bin .sub (.t 62) (.c (vi 1))⟩,⟨some 64, none,.mv (.t 13)⟩,⟨some 65, none,.mv (.t 1)⟩,⟨some 66, none,.bin .sub (.t 64) (.t 65)⟩,⟨some 67, none,.bin .sub (.t 63) (.t 66)⟩,⟨some 13, none,.asg (.t 67)⟩] [0,1,2,3,4,10,11,12,13] []
def Qwz:IC:=.reg [⟨some 14, none,.asg (.c (vi 1))⟩] [0,1,2,3,4,10,11,12,13,14] []
def Qzr:IC:=.reg [⟨some 68, none,.mv (.t 10)⟩,⟨some 69, none,.asg (.t 68)⟩,⟨some 70, (some (69,true)),.mv (.t 11)⟩,⟨some 71, none,.pick (.t 69) (.t 70) (.c (.bool false))⟩,⟨some 72, none,.asg (.t 71)⟩,⟨some 73, (some (72,true)),.mv (.t 14)⟩,⟨some 74, (some (72,true)),.bin .eql (.t 73) (.c (vi 1))⟩,⟨some 75, none,.pick (.t 72) (.t 74) (.c (.bool false))⟩] [0,1,2,3,4,10,11,12,13,75] []
def Qvm:IC:=.reg [⟨some 76, none,.mv (.t 0)⟩,⟨some 77, none,.mv (.t 1)⟩,⟨some 78, none,.mv (.t 2)⟩,⟨some 79, none,.mv (.t 4)⟩,⟨some 80, none,.call Qua [(.ld,(.t 76)),(.val,(.t 77)),(.val,(.t 78)),(.val,(.t 79))] false⟩] [0,1,2,3,4,10,11,12,13,80] []
def Qxz:IC:=.reg [⟨some 81, none,.mv (.t 1)⟩,⟨some 82, none,.bin .gtr (.t 81) (.c (vi 0))⟩,⟨some 83, none,.asg (.t 82)⟩,⟨some 84, (some (83,true)),.mv (.t 4)⟩,⟨some 85, (some (83,true)),.mv (.t 0)⟩,⟨some 86, (some (83,true)),.mv (.t 1)⟩,⟨some 87, (some (83,true)),.bin .sub (.t 86) (.c (vi 1))⟩,⟨some 88, (some (83,true)),.iadr 2 (.t 85) (.t 87)⟩,⟨some 89, (some (83,true)),.load true 2 (.t 88)⟩,⟨some 90, (some (83,true)),.mv (.t 0)⟩,⟨some 91, (some (83,true)),.mv (.t 13)⟩,⟨some 92, (some (83,true)),.iadr 2 (.t 90) (.t 91)⟩,⟨some 93, (some (83,true)),.load true 2 (.t 92)⟩,⟨some 94, (some (83,true)),.callv (.t 84) [(.val,(.t 89)),(.val,(.t 93))]⟩,⟨some 95, (some (83,true)),.bin .lss (.t 94) (.c (vi 0))⟩,⟨some 96, (some (83,true)),.unop .not (.t 95)⟩,⟨some 97, none,.pick (.t 83) (.t 96) (.c (.bool false))⟩] [0,1,2,3,4,10,11,12,13,97] []
def Jag:IC:=.reg [⟨some 98, none,.mv (.t 0)⟩,⟨some 99, none,.mv (.t 1)⟩,⟨some 100, none,.mv (.t 2)⟩,⟨some 101, none,.mv (.t 13)⟩,⟨some 102, none,.mv (.t 4)⟩,⟨some 103, none,.call Jqh [(.ld,(.t 98)),(.val,(.t 99)),(.val,(.t 100)),(.val,(.t 101)),(.val,(.t 102))] false⟩,⟨some 15, none,.asg (.t 103)⟩] [0,2,3,4,10,11,15] []
def Qzs:IC:=.reg [⟨some 104, none,.mv (.t 15)⟩,⟨some 1, none,.asgm (.t 104)⟩] [0,1,2,3,4,10,11] []
def Qxe:IC:=.reg [⟨some 106, none,.mv (.t 0)⟩,⟨some 107, none,.mv (.t 1)⟩,⟨some 108, none,.mv (.t 2)⟩,⟨some 109, none,.mv (.t 13)⟩,⟨some 110, none,.mv (.t 4)⟩,⟨some 111, none,.call Quk [(.ld,(.t 106)),(.val,(.t 107)),(.val,(.t 108)),(.val,(.t 109)),(.val,(.t 110))] false⟩,⟨some 105, none,.asg (.t 111)⟩,⟨some 112, none,.extr (.t 105) 0⟩,⟨some 113, none,.extr (.t 105) 1⟩,⟨some 16, none,.asg (.t 112)⟩,⟨some 17, none,.asg (.t 113)⟩] [0,1,2,3,4,12,16,17] []
def Quz:IC:=.reg [⟨some 114, none,.mv (.t 17)⟩,⟨some 11, none,.asgm (.t 114)⟩] [0,1,2,3,4,11,12,16] []
def Qwx:IC:=.reg [⟨some 115, none,.mv (.t 16)⟩,⟨some 116, none,.mv (.t 1)⟩,⟨some 117, none,.bin .sub (.t 115) (.t 116)⟩,⟨some 118, none,.mv (.t 2)⟩,⟨some 119, none,.mv (.t 16)⟩,⟨some 120, none,.bin .sub (.t 118) (.t 119)⟩,⟨some 18, none,.asg (.t 117)⟩,⟨some 19, none,.asg (.t 120)⟩] [0,1,2,3,4,11,12,16,18,19] []
def Qxr:IC:=.reg [⟨some 121, none,.mv (.t 12)⟩,⟨some 122, none,.bin .quo (.t 121) (.c (vi 8))⟩,⟨some 20, none,.asg (.t 122)⟩] [0,1,2,3,4,11,16,18,19,20] []
def Qx3:IC:=.reg [⟨some 123, none,.mv (.t 18)⟩,⟨some 124, none,.mv (.t 19)⟩,⟨some 125, none,.bin .lss (.t 123) (.t 124)⟩] [0,1,2,3,4,11,16,18,19,20,125] []
def Qwg:IC:=.reg [⟨some 126, none,.mv (.t 18)⟩,⟨some 127, none,.mv (.t 20)⟩,⟨some 128, none,.bin .geq (.t 126) (.t 127)⟩,⟨some 10, none,.asg (.t 128)⟩] [0,1,2,3,4,10,11,16] []
def Qya:IC:=.reg [⟨some 129, none,.mv (.t 0)⟩,⟨some 130, none,.mv (.t 1)⟩,⟨some 131, none,.mv (.t 16)⟩,⟨some 132, none,.mv (.t 3)⟩,⟨some 133, none,.mv (.t 4)⟩,⟨some 134, none,.call Qm7 [(.ld,(.t 129)),(.val,(.t 130)),(.val,(.t 131)),(.val,(.t 132)),(.val,(.t 133))] false⟩] [0,2,3,4,10,11,16] []
def Qw5:IC:=.reg [⟨some 135, none,.mv (.t 16)⟩,⟨some 136, none,.bin .add (.t 135) (.c (vi 1))⟩,⟨some 1, none,.asg (.t 136)⟩] [0,1,2,3,4,10,11] []
def Qzd:IC:=.reg [⟨some 137, none,.mv (.t 19)⟩,⟨some 138, none,.mv (.t 20)⟩,⟨some 139, none,.bin .geq (.t 137) (.t 138)⟩,⟨some 10, none,.asg (.t 139)⟩] [0,1,2,3,4,10,11,16] []
def Quw:IC:=.reg [⟨some 140, none,.mv (.t 0)⟩,⟨some 141, none,.mv (.t 16)⟩,⟨some 142, none,.bin .add (.t 141) (.c (vi 1))⟩,⟨some 143, none,.mv (.t 2)⟩,⟨some 144, none,.mv (.t 3)⟩,⟨some 145, none,.mv (.t 4)⟩,⟨some 146, none,.call Qm7 [(.ld,(.t 140)),(.val,(.t 142)),(.val,(.t 143)),(.val,(.t 144)),(.val,(.t 145))] false⟩] [0,1,3,4,10,11,16] []
def Qv4:IC:=.reg [⟨some 147, none,.mv (.t 16)⟩,⟨some 2, none,.asgm (.t 147)⟩] [0,1,2,3,4,10,11] []
def Qhv:IC:=(.block 1 (.seq Jme (.seq (.seq Jou (.cond (.t 25) (.seq Jk9 .ret) .skip)) (.seq (.seq Jsd (.cond (.t 32) (.seq Jmn .ret) .skip)) (.seq (.seq Juy (.cond (.t 39) (.seq Jwk Joz) .skip)) (.seq Qun (.seq (.seq Jad (.cond (.t 56) (.seq Jac (.seq Qvk Qwz)) .skip)) (.seq (.seq Qzr (.cond (.t 75) (.seq Qvm (.cond (.t 80) .ret .skip)) .skip)) (.seq (.seq Qxz (.cond (.t 97) (.seq Jag (.seq Qzs (.exit 1))) .skip)) (.seq Qxe (.seq Quz (.seq Qwx (.seq Qxr (.seq Qx3 (.cond (.t 125) (.seq Qwg (.seq Qya Qw5)) (.seq Qzd (.seq Quw Qv4)))))))))))))))))
def Qob:Qbl:=⟨[],[0],(.seq Jr1 (.seq Jq8 (.block 0 (.loop Qhv))))⟩
def Jvn:IC:=.reg [⟨some 2, none,.asg (.c (.int .u64 (0)))⟩] [0] []
def Jrn:IC:=.reg [⟨some 3, none,.mv (.t 0)⟩,⟨some 4, none,.nilck (.t 3)⟩,⟨some 5, none,.load false 1 (.t 4)⟩,⟨some 6, none,.mv (.t 0)⟩,⟨some 7, none,.nilck (.t 6)⟩,⟨some 8, none,.load false 1 (.t 7)⟩,⟨some 9, none,.bin .shl (.t 8) (.c (.int .u64 (13)))⟩,⟨some 10, none,.bin .xor (.t 5) (.t 9)⟩,⟨some 11, none,.nilck (.t 3)⟩,⟨none,none,.store 1 (.t 11) (.t 10)⟩] [0] []
def Jnz:IC:=.reg [⟨some 12, none,.mv (.t 0)⟩,⟨some 13, none,.nilck (.t 12)⟩,⟨some 14, none,.load false 1 (.t 13)⟩,⟨some 15, none,.mv (.t 0)⟩,⟨some 16, none,.nilck (.t 15)⟩,⟨some 17, none,.load false 1 (.t 16)⟩,⟨some 18, none,.bin .shr (.t 17) (.c (.int .u64 (7)))⟩,⟨some 19, none,.bin .xor (.t 14) (.t 18)⟩,⟨some 20, none,.nilck (.t 12)⟩,⟨none,none,.store 1 (.t 20) (.t 19)⟩] [0] []
def Jsq:IC:=.reg [⟨some 21, none,.mv (.t 0)⟩,⟨some 22, none,.nilck (.t 21)⟩,⟨some 23, none,.load false 1 (.t 22)⟩,⟨some 24, none,.mv (.t 0)⟩,⟨some 25, none,.nilck (.t 24)⟩,⟨some 26, none,.load false 1 (.t 25)⟩,⟨some 27, none,.bin .shl (.t 26) (.c (.int .u64 (17)))⟩,⟨some 28, none,.bin .xor (.t 23) (.t 27)⟩,⟨some 29, none,.nilck (.t 21)⟩,⟨none,none,.store 1 (.t 29) (.t 28)⟩] [0] []
def Jw9:IC:=.reg [⟨some 30, none,.mv (.t 0)⟩,⟨some 31, none,.nilck (.t 30)⟩,⟨some 32, none,.load false 1 (.t 31)⟩,⟨some 2, none,.asg (.t 32)⟩] [2] []
def Jay:Qbl:=⟨[.t 2],[],(.seq Jvn (.seq Jrn (.seq Jnz (.seq Jsq (.seq Jw9 .ret)))))⟩
def Jwu:IC:=.reg [⟨some 2, none,.alloc [(vi 0),(.slice none 0 0)]⟩,⟨some 3, none,.alloc [(vi 0),(.slice none 0 0)]⟩] [0,2,3] []
def Js9:IC:=.reg [⟨some 5, none,.mv (.t 0)⟩,⟨some 6, none,.call Qyr [(.rd,(.t 5))] false⟩,⟨some 4, none,.asg (.t 6)⟩] [2,3,4] []
def Jq3:IC:=.reg [⟨some 7, none,.mv (.t 4)⟩,⟨some 8, none,.mv (.t 4)⟩,⟨some 9, none,.call Qtk [(.val,(.t 8))] false⟩,⟨some 10, none,.call Quh [(.val,(.t 7)),(.rd,(.t 9))] false⟩,⟨some 11, none,.extr (.t 10) 0⟩,⟨some 12, none,.extr (.t 10) 1⟩,⟨none,none,.storef 2 (.t 2) (.t 11)⟩,⟨none,none,.storef 2 (.t 3) (.t 12)⟩] [2,3] []
def Jc7:Qbl:=⟨[.c 2 2 true,.c 3 2 true],[],(.seq Jwu (.seq Js9 (.seq Jq3 .ret)))⟩
def Jrx:IC:=.reg [⟨some 2, none,.box (.t 0)⟩,⟨some 3, none,.box (.t 1)⟩,⟨some 4, none,.asg (.c (.slice none 0 0))⟩,⟨some 5, none,.asg (.c (.bool false))⟩] [2,3] []
def Jn6:IC:=.reg [⟨some 11, none,.load true 2 (.t 2)⟩,⟨some 12, none,.call Qpl [(.rd,(.t 11))] true⟩,⟨some 13, none,.unop .not (.t 12)⟩,⟨some 14, none,.asg (.t 13)⟩,⟨some 15, (some (14,false)),.load true 2 (.t 3)⟩,⟨some 16, (some (14,false)),.call Qpl [(.rd,(.t 15))] true⟩,⟨some 17, (some (14,false)),.unop .not (.t 16)⟩,⟨some 18, none,.pick (.t 14) (.c (.bool true)) (.t 17)⟩,⟨some 19, none,.asg (.t 18)⟩,⟨some 20, (some (19,false)),.fadr 0 (.t 2)⟩,⟨some 21, (some (19,false)),.load false 1 (.t 20)⟩,⟨some 22, (some (19,false)),.fadr 0 (.t 3)⟩,⟨some 23, (some (19,false)),.load false 1 (.t 22)⟩,⟨some 24, (some (19,false)),.bin .neq (.t 21) (.t 23)⟩,⟨some 25, none,.pick (.t 19) (.c (.bool true)) (.t 24)⟩,⟨some 26, none,.asg (.t 25)⟩,⟨some 27, (some (26,false)),.fadr 0 (.t 2)⟩,⟨some 28, (some (26,false)),.load false 1 (.t 27)⟩,
    ⟨some 29, (some (26,false)),.bin .gtr (.t 28) (.c (vi 5))⟩,⟨some 30, none,.pick (.t 26) (.c (.bool true)) (.t 29)⟩] [2,3,30] []
def Ju3:IC:=.reg [⟨some 4, none,.asg (.c (.slice none 0 0))⟩,⟨some 5, none,.asg (.c (.bool false))⟩] [4,5,6] []
def Jtx:IC:=.reg [⟨some 31, none,.load true 2 (.t 2)⟩,⟨some 32, none,.bsl 4 [(vi 0),(vi 0),(vi 0),(vi 0)] 0 []⟩,⟨some 33, none,.build [(vi 0),(.slice none 0 0),(.slice none 0 0)] [(0,2,(.t 31)),(2,1,(.t 32))]⟩,⟨some 34, none,.bsl 3 [(vi 0),(.slice none 0 0),(.slice none 0 0)] 1 [(0,(.t 33))]⟩,⟨some 6, none,.asg (.t 34)⟩] [3,6] []
def Jlp:IC:=.reg [⟨some 7, none,.asg (.c (vi 0))⟩] [3,6,7] []
def Jnh:IC:=.reg [⟨some 35, none,.mv (.t 7)⟩,⟨some 36, none,.mv (.t 6)⟩,⟨some 37, none,.len (.t 36)⟩,⟨some 38, none,.bin .lss (.t 35) (.t 37)⟩] [3,6,7,38] []
def Jts:IC:=.reg [⟨some 41, none,.mv (.t 6)⟩,⟨some 42, none,.mv (.t 7)⟩,⟨some 43, none,.iadr 3 (.t 41) (.t 42)⟩,⟨some 44, none,.fadr 0 (.t 43)⟩,⟨some 45, none,.load true 2 (.t 44)⟩,⟨some 46, none,.load true 2 (.t 3)⟩,⟨some 47, none,.call Qsq [(.rd,(.t 45)),(.rd,(.t 46))] true⟩,⟨some 48, none,.bin .eql (.t 47) (.c (vi 0))⟩] [3,6,7,48] []
def Jug:IC:=.reg [⟨some 49, none,.mv (.t 6)⟩,⟨some 50, none,.mv (.t 7)⟩,⟨some 51, none,.iadr 3 (.t 49) (.t 50)⟩,⟨some 52, none,.fadr 2 (.t 51)⟩,⟨some 53, none,.load false 1 (.t 52)⟩,⟨some 4, none,.asg (.t 53)⟩,⟨some 5, none,.asg (.c (.bool true))⟩] [4,5,6] []
def Jn1:IC:=.reg [⟨some 54, none,.mv (.t 6)⟩,⟨some 55, none,.mv (.t 7)⟩,⟨some 56, none,.iadr 3 (.t 54) (.t 55)⟩,⟨some 57, none,.fadr 0 (.t 56)⟩,⟨some 58, none,.load true 2 (.t 57)⟩,⟨some 59, none,.call Qsw [(.rd,(.t 58))] true⟩,⟨some 8, none,.asg (.t 59)⟩] [3,6,7,8] []
def Jwy:IC:=.reg [⟨some 9, none,.asg (.c (vi 0))⟩] [3,6,7,8,9] []
def Jhe:IC:=.reg [⟨some 60, none,.mv (.t 9)⟩,⟨some 61, none,.mv (.t 8)⟩,⟨some 62, none,.len (.t 61)⟩,⟨some 63, none,.bin .lss (.t 60) (.t 62)⟩] [3,6,7,8,9,63] []
def Jio:IC:=.reg [⟨some 66, none,.mv (.t 6)⟩,⟨some 67, none,.mv (.t 7)⟩,⟨some 68, none,.iadr 3 (.t 66) (.t 67)⟩,⟨some 69, none,.fadr 0 (.t 68)⟩,⟨some 70, none,.load true 2 (.t 69)⟩,⟨some 71, none,.mv (.t 8)⟩,⟨some 72, none,.mv (.t 9)⟩,⟨some 73, none,.iadr 4 (.t 71) (.t 72)⟩,⟨some 74, none,.load true 4 (.t 73)⟩,⟨some 75, none,.call Qtr [(.rd,(.t 70)),(.val,(.t 74))] true⟩,⟨some 10, none,.alloc [(vi 0),(.slice none 0 0)]⟩,⟨none,none,.storef 2 (.t 10) (.t 75)⟩] [3,6,7,8,9,10] [[0,1,2,3,4,5,6,7,8,10,9,11],[0,1,2,3,4,5,6,7,10,8,9,11],[0,1,2,3,5,6,7,8,10,4,9,11],[0,1,2,3,5,6,7,10,4,8,9,11]]
def Jjm:IC:=.reg [⟨some 76, none,.mv (.t 6)⟩,⟨some 77, none,.load true 2 (.t 10)⟩,⟨some 78, none,.call Qsr [(.rd,(.t 76)),(.rd,(.t 77))] true⟩,⟨some 79, none,.bin .lss (.t 78) (.c (vi 0))⟩] [3,6,7,8,9,10,79] []
def Ji5:IC:=.regx [⟨some 80, none,.mv (.t 6)⟩,⟨some 81, none,.load true 2 (.t 10)⟩,⟨some 82, none,.bsls 4 [(vi 0),(vi 0),(vi 0),(vi 0)] 0 []⟩,⟨some 83, none,.mv (.t 6)⟩,⟨some 84, none,.mv (.t 7)⟩,⟨some 85, none,.iadr 3 (.t 83) (.t 84)⟩,⟨some 86, none,.fadr 2 (.t 85)⟩,⟨some 87, none,.load false 1 (.t 86)⟩,⟨some 88, none,.app 4 (.t 82) (.t 87)⟩,⟨some 89, none,.mv (.t 8)⟩,⟨some 90, none,.mv (.t 9)⟩,⟨some 91, none,.iadr 4 (.t 89) (.t 90)⟩,⟨some 92, none,.load true 4 (.t 91)⟩,⟨some 93, none,.bsls 4 [(vi 0),(vi 0),(vi 0),(vi 0)] 1 [(0,(.t 92))]⟩,⟨some 94, none,.app 4 (.t 88) (.t 93)⟩,⟨some 95, none,.build [(vi 0),(.slice none 0 0),(.slice none 0 0)] [(0,2,(.t 81)),(2,1,(.t 94))]⟩,⟨some 96, none,.bsl 3 [(vi 0),(.slice none 0 0),(.slice none 0 0)] 1 [(0,(.t 95))]⟩,⟨some 97, none,.app 3 (.t 80) (.t 96)⟩,
    ⟨some 6, none,.asg (.t 97)⟩] [0,1,3,4,5,6,7,9,10,11,12,2,8,13,14,15,16,17,18] [3,6,7,8,9] [80,81,82,83,84,85,86,87,88,89,90,91,92,93,94,95,96] []
def Jia:IC:=.reg [⟨some 64, none,.mv (.t 9)⟩,⟨some 65, none,.bin .add (.t 64) (.c (vi 1))⟩,⟨some 9, none,.asg (.t 65)⟩] [3,6,7,8,9] []
def Qv1:IC:=(.seq (.seq Jhe (.cond (.t 63) .skip (.exit 2))) (.seq (.block 3 (.seq Jio (.seq Jjm (.cond (.t 79) Ji5 .skip)))) Jia))
def Jfi:IC:=.reg [⟨some 39, none,.mv (.t 7)⟩,⟨some 40, none,.bin .add (.t 39) (.c (vi 1))⟩,⟨some 7, none,.asg (.t 40)⟩] [3,6,7] []
def Qu3:IC:=(.seq (.seq Jnh (.cond (.t 38) .skip (.exit 0))) (.seq (.block 1 (.seq (.seq Jts (.cond (.t 48) (.seq Jug .ret) .skip)) (.seq Jn1 (.seq Jwy (.block 2 (.loop Qv1)))))) Jfi))
def Jjv:IC:=.reg [⟨some 4, none,.asg (.c (.slice none 0 0))⟩,⟨some 5, none,.asg (.c (.bool false))⟩] [4,5,6] []
def Qnd:Qbl:=⟨[.t 4,.t 5],[],(.seq Jrx (.seq (.seq Jn6 (.cond (.t 30) (.seq Ju3 .ret) .skip)) (.seq Jtx (.seq (.seq Jlp (.block 0 (.loop Qu3))) (.seq Jjv .ret)))))⟩
def Jp8:IC:=.reg [⟨some 4, none,.alloc [(vi 0),(.slice none 0 0)]⟩] [0,1,4] []
def Jnv:IC:=.reg [⟨some 9, none,.mv (.t 1)⟩,⟨some 10, none,.bsl 2 [(vi 0),(vi 0)] 0 []⟩,⟨some 11, none,.build [(vi 0),(.slice none 0 0)] [(0,1,(.t 9)),(1,1,(.t 10))]⟩,⟨some 5, none,.alloc [(vi 0),(.slice none 0 0)]⟩,⟨none,none,.store 2 (.t 5) (.t 11)⟩] [0,1,4,5] []
def Jtj:IC:=.reg [⟨some 12, none,.mv (.t 1)⟩,⟨some 13, none,.call Qty [(.val,(.t 12))] true⟩,⟨some 6, none,.asg (.t 13)⟩] [0,4,5,6] []
def Jt0:IC:=.reg [⟨some 14, none,.mv (.t 0)⟩,⟨some 15, none,.call Qgh [(.val,(.t 14)),(.val,(.c (vi 3)))] false⟩,⟨some 16, none,.bin .add (.c (vi 2)) (.t 15)⟩,⟨some 7, none,.asg (.t 16)⟩] [0,4,5,6,7] []
def Jot:IC:=.reg [⟨some 8, none,.asg (.c (vi 0))⟩] [0,4,5,6,7,8] []
def Jnb:IC:=.reg [⟨some 17, none,.mv (.t 8)⟩,⟨some 18, none,.mv (.t 6)⟩,⟨some 19, none,.len (.t 18)⟩,⟨some 20, none,.bin .lss (.t 17) (.t 19)⟩] [0,4,5,6,7,8,20] []
def Jvd:IC:=.reg [⟨some 23, none,.mv (.t 0)⟩,⟨some 24, none,.mv (.t 7)⟩,⟨some 25, none,.call Qgh [(.val,(.t 23)),(.val,(.t 24))] false⟩,⟨some 26, none,.bin .eql (.t 25) (.c (vi 0))⟩] [0,4,5,6,7,8,26] []
def Jt9:IC:=.reg [⟨some 27, none,.fadr 1 (.t 5)⟩,⟨some 28, none,.load false 1 (.t 27)⟩,⟨some 29, none,.mv (.t 6)⟩,⟨some 30, none,.mv (.t 8)⟩,⟨some 31, none,.iadr 2 (.t 29) (.t 30)⟩,⟨some 32, none,.load true 2 (.t 31)⟩,⟨some 33, none,.bsl 2 [(vi 0),(vi 0)] 1 [(0,(.t 32))]⟩,⟨some 34, none,.app 2 (.t 28) (.t 33)⟩,⟨some 35, none,.fadr 1 (.t 5)⟩,⟨none,none,.store 1 (.t 35) (.t 34)⟩] [0,4,5,6,7,8] [[0,2,3,4,5,6,1,7,8,9]]
def Jq0:IC:=.reg [⟨some 21, none,.mv (.t 8)⟩,⟨some 22, none,.bin .add (.t 21) (.c (vi 1))⟩,⟨some 8, none,.asg (.t 22)⟩] [0,4,5,6,7,8] []
def Je6:IC:=(.seq (.seq Jnb (.cond (.t 20) .skip (.exit 0))) (.seq (.block 1 (.seq Jvd (.cond (.t 26) Jt9 .skip))) Jq0))
def Jg8:IC:=.reg [⟨some 36, none,.mv (.t 0)⟩,⟨some 37, none,.call Qgh [(.val,(.t 36)),(.val,(.c (vi 4)))] false⟩,⟨some 38, none,.bin .eql (.t 37) (.c (vi 0))⟩] [4,5,38] []
def Jjg:IC:=.reg [⟨some 39, none,.load true 2 (.t 5)⟩,⟨some 40, none,.call Qv7 [(.rd,(.t 39))] true⟩,⟨none,none,.store 2 (.t 4) (.t 40)⟩] [4] []
def Jgw:IC:=.reg [⟨some 41, none,.load true 2 (.t 5)⟩,⟨none,none,.store 2 (.t 4) (.t 41)⟩] [4] []
def Qyo:Qbl:=⟨[.c 4 2 true],[],(.seq Jp8 (.seq Jnv (.seq Jtj (.seq Jt0 (.seq (.seq Jot (.block 0 (.loop Je6))) (.seq (.seq Jg8 (.cond (.t 38) (.seq Jjg .ret) .skip)) (.seq Jgw .ret)))))))⟩
def Jnt:IC:=.reg [⟨some 3, none,.box (.t 0)⟩,⟨some 6, none,.alloc [(vi 0),(.slice none 0 0)]⟩] [1,2,3,6] []
def Jnf:IC:=.reg [⟨some 10, none,.mv (.t 1)⟩,⟨some 11, none,.mv (.t 2)⟩,⟨some 12, none,.minmax true (.t 10) (.t 11)⟩,⟨some 13, none,.mv (.t 1)⟩,⟨some 14, none,.mv (.t 2)⟩,⟨some 15, none,.minmax false (.t 13) (.t 14)⟩,⟨some 16, none,.build [(vi 0),(vi 0)] [(0,1,(.t 12)),(1,1,(.t 15))]⟩,⟨some 7, none,.alloc [(vi 0),(vi 0)]⟩,⟨none,none,.store 2 (.t 7) (.t 16)⟩] [3,6,7] []
def Jv3:IC:=.reg [⟨some 8, none,.asg (.c (vi 0))⟩] [3,6,7,8] []
def Jrz:IC:=.reg [⟨some 17, none,.mv (.t 8)⟩,⟨some 18, none,.fadr 1 (.t 3)⟩,⟨some 19, none,.load false 1 (.t 18)⟩,⟨some 20, none,.len (.t 19)⟩,⟨some 21, none,.bin .lss (.t 17) (.t 20)⟩,⟨some 22, none,.asg (.t 21)⟩,⟨some 23, (some (22,true)),.fadr 1 (.t 3)⟩,⟨some 24, (some (22,true)),.load false 1 (.t 23)⟩,⟨some 25, (some (22,true)),.mv (.t 8)⟩,⟨some 26, (some (22,true)),.iadr 2 (.t 24) (.t 25)⟩,⟨some 27, (some (22,true)),.load true 2 (.t 26)⟩,⟨some 28, (some (22,true)),.load true 2 (.t 7)⟩,⟨some 29, (some (22,true)),.call Qs2 [(.val,(.t 27)),(.val,(.t 28))] true⟩,⟨some 30, none,.pick (.t 22) (.t 29) (.c (.bool false))⟩] [3,6,7,8,30] []
def Jtu:IC:=.reg [⟨some 31, none,.mv (.t 8)⟩,⟨some 32, none,.bin .add (.t 31) (.c (vi 1))⟩,⟨some 8, none,.asg (.t 32)⟩] [3,6,7,8] []
def Je1:IC:=(.seq (.seq Jrz (.cond (.t 30) .skip (.exit 0))) (.block 1 Jtu))
def Jva:IC:=.reg [⟨some 33, none,.bsl 2 [(vi 0),(vi 0)] 0 []⟩,⟨some 34, none,.fadr 1 (.t 3)⟩,⟨some 35, none,.load false 1 (.t 34)⟩,⟨some 36, none,.mv (.t 8)⟩,⟨some 37, none,.slc 2 (.t 35) none (some (.t 36)) none⟩,⟨some 38, none,.app 2 (.t 33) (.t 37)⟩,⟨some 9, none,.asg (.t 38)⟩] [3,6,7,8,9] []
def Jqw:IC:=.reg [⟨some 39, none,.fadr 0 (.t 3)⟩,⟨some 40, none,.load false 1 (.t 39)⟩,⟨some 41, none,.mv (.t 9)⟩,⟨some 42, none,.load true 2 (.t 7)⟩,⟨some 43, none,.bsl 2 [(vi 0),(vi 0)] 1 [(0,(.t 42))]⟩,⟨some 44, none,.app 2 (.t 41) (.t 43)⟩,⟨some 45, none,.fadr 1 (.t 3)⟩,⟨some 46, none,.load false 1 (.t 45)⟩,⟨some 47, none,.mv (.t 8)⟩,⟨some 48, none,.slc 2 (.t 46) (some (.t 47)) none none⟩,⟨some 49, none,.app 2 (.t 44) (.t 48)⟩,⟨some 50, none,.build [(vi 0),(.slice none 0 0)] [(0,1,(.t 40)),(1,1,(.t 49))]⟩,
    ⟨none,none,.store 2 (.t 6) (.t 50)⟩] [6] [[0,1,2,3,4,6,7,5,8,9,10,11,12],[0,1,2,3,6,7,4,5,8,9,10,11,12],[0,2,3,4,1,5,6,7,8,9,10,11,12],[0,2,3,4,1,6,7,5,8,9,10,11,12],[0,2,3,6,7,4,1,5,8,9,10,11,12],[0,2,3,4,5,1,6,7,8,9,10,11,12],[0,2,3,4,5,6,7,8,9,10,1,11,12],[0,2,3,4,6,7,5,1,8,9,10,11,12],[0,2,3,4,6,7,5,8,9,10,1,11,12],[0,2,3,6,7,4,5,1,8,9,10,11,12],[0,2,3,6,7,4,5,8,9,10,1,11,12]]
def Jdv:Qbl:=⟨[.c 6 2 true],[],(.seq Jnt (.seq Jnf (.seq Jv3 (.seq (.block 0 (.loop Je1)) (.seq Jva (.seq Jqw .ret))))))⟩
def Jwo:IC:=.reg [⟨some 1, none,.box (.t 0)⟩,⟨some 2, none,.alloc [(vi 0),(.slice none 0 0)]⟩] [1,2] []
def Jp4:IC:=.reg [⟨some 6, none,.fadr 0 (.t 1)⟩,⟨some 7, none,.load false 1 (.t 6)⟩,⟨some 8, none,.bsl 2 [(vi 0),(vi 0)] 0 []⟩,⟨some 9, none,.build [(vi 0),(.slice none 0 0)] [(0,1,(.t 7)),(1,1,(.t 8))]⟩,⟨some 3, none,.alloc [(vi 0),(.slice none 0 0)]⟩,⟨none,none,.store 2 (.t 3) (.t 9)⟩] [1,2,3] []
def Jpt:IC:=.reg [⟨some 10, none,.fadr 0 (.t 1)⟩,⟨some 11, none,.load false 1 (.t 10)⟩,⟨some 12, none,.call Qty [(.val,(.t 11))] true⟩,⟨some 4, none,.asg (.t 12)⟩] [1,2,3,4] []
def Jww:IC:=.reg [⟨some 5, none,.asg (.c (vi 0))⟩] [1,2,3,4,5] []
def Jxd:IC:=.reg [⟨some 13, none,.mv (.t 5)⟩,⟨some 14, none,.mv (.t 4)⟩,⟨some 15, none,.len (.t 14)⟩,⟨some 16, none,.bin .lss (.t 13) (.t 15)⟩] [1,2,3,4,5,16] []
def Jxi:IC:=.reg [⟨some 19, none,.load true 2 (.t 1)⟩,⟨some 20, none,.mv (.t 4)⟩,⟨some 21, none,.mv (.t 5)⟩,⟨some 22, none,.iadr 2 (.t 20) (.t 21)⟩,⟨some 23, none,.fadr 0 (.t 22)⟩,⟨some 24, none,.load false 1 (.t 23)⟩,⟨some 25, none,.mv (.t 4)⟩,⟨some 26, none,.mv (.t 5)⟩,⟨some 27, none,.iadr 2 (.t 25) (.t 26)⟩,⟨some 28, none,.fadr 1 (.t 27)⟩,⟨some 29, none,.load false 1 (.t 28)⟩,⟨some 30, none,.call Qjh [(.rd,(.t 19)),(.val,(.t 24)),(.val,(.t 29))] true⟩,⟨some 31, none,.unop .not (.t 30)⟩] [1,2,3,4,5,31] []
def Jpj:IC:=.reg [⟨some 32, none,.fadr 1 (.t 3)⟩,⟨some 33, none,.load false 1 (.t 32)⟩,⟨some 34, none,.mv (.t 4)⟩,⟨some 35, none,.mv (.t 5)⟩,⟨some 36, none,.iadr 2 (.t 34) (.t 35)⟩,⟨some 37, none,.load true 2 (.t 36)⟩,⟨some 38, none,.bsl 2 [(vi 0),(vi 0)] 1 [(0,(.t 37))]⟩,⟨some 39, none,.app 2 (.t 33) (.t 38)⟩,⟨some 40, none,.fadr 1 (.t 3)⟩,⟨none,none,.store 1 (.t 40) (.t 39)⟩] [1,2,3,4,5] [[0,2,3,4,5,6,1,7,8,9]]
def Jwn:IC:=.reg [⟨some 17, none,.mv (.t 5)⟩,⟨some 18, none,.bin .add (.t 17) (.c (vi 1))⟩,⟨some 5, none,.asg (.t 18)⟩] [1,2,3,4,5] []
def Jed:IC:=(.seq (.seq Jxd (.cond (.t 16) .skip (.exit 0))) (.seq (.block 1 (.seq Jxi (.cond (.t 31) Jpj .skip))) Jwn))
def Jlo:IC:=.reg [⟨some 41, none,.load true 2 (.t 3)⟩,⟨none,none,.store 2 (.t 2) (.t 41)⟩] [2] []
def Ja1:Qbl:=⟨[.c 2 2 true],[],(.seq Jwo (.seq Jp4 (.seq Jpt (.seq (.seq Jww (.block 0 (.loop Jed))) (.seq Jlo .ret)))))⟩
def Jnw:IC:=.reg [⟨some 2, none,.box (.t 0)⟩,⟨some 3, none,.box (.t 1)⟩,⟨some 4, none,.asg (.c (vi 0))⟩] [2,3] []
def Jux:IC:=.reg [⟨some 5, none,.asg (.c (vi 0))⟩] [2,3,5] []
def Jrs:IC:=.reg [⟨some 6, none,.asg (.c (vi 0))⟩] [2,3,5,6] []
def Jmg:IC:=.reg [⟨some 8, none,.mv (.t 6)⟩,⟨some 9, none,.fadr 1 (.t 2)⟩,⟨some 10, none,.load false 1 (.t 9)⟩,⟨some 11, none,.len (.t 10)⟩,⟨some 12, none,.bin .lss (.t 8) (.t 11)⟩] [2,3,5,6,12] []
def Jm0:IC:=.reg [⟨some 15, none,.load true 2 (.t 3)⟩,⟨some 16, none,.fadr 1 (.t 2)⟩,⟨some 17, none,.load false 1 (.t 16)⟩,⟨some 18, none,.mv (.t 6)⟩,⟨some 19, none,.iadr 2 (.t 17) (.t 18)⟩,⟨some 20, none,.fadr 0 (.t 19)⟩,⟨some 21, none,.load false 1 (.t 20)⟩,⟨some 22, none,.fadr 1 (.t 2)⟩,⟨some 23, none,.load false 1 (.t 22)⟩,⟨some 24, none,.mv (.t 6)⟩,⟨some 25, none,.iadr 2 (.t 23) (.t 24)⟩,⟨some 26, none,.fadr 1 (.t 25)⟩,⟨some 27, none,.load false 1 (.t 26)⟩,⟨some 28, none,.call Qjh [(.rd,(.t 15)),(.val,(.t 21)),(.val,(.t 27))] true⟩,⟨some 29, none,.unop .not (.t 28)⟩] [2,3,5,6,29] []
def Jxe:IC:=.reg [⟨some 30, none,.mv (.t 5)⟩,⟨some 31, none,.bin .add (.t 30) (.c (vi 1))⟩,⟨some 5, none,.asg (.t 31)⟩] [2,3,5,6] []
def Jqn:IC:=.reg [⟨some 13, none,.mv (.t 6)⟩,⟨some 14, none,.bin .add (.t 13) (.c (vi 1))⟩,⟨some 6, none,.asg (.t 14)⟩] [2,3,5,6] []
def Jey:IC:=(.seq (.seq Jmg (.cond (.t 12) .skip (.exit 0))) (.seq (.block 1 (.seq Jm0 (.cond (.t 29) Jxe .skip))) Jqn))
def Jti:IC:=.reg [⟨some 7, none,.asg (.c (vi 0))⟩] [2,3,5,7] []
def Jm5:IC:=.reg [⟨some 32, none,.mv (.t 7)⟩,⟨some 33, none,.fadr 1 (.t 3)⟩,⟨some 34, none,.load false 1 (.t 33)⟩,⟨some 35, none,.len (.t 34)⟩,⟨some 36, none,.bin .lss (.t 32) (.t 35)⟩] [2,3,5,7,36] []
def Ji2:IC:=.reg [⟨some 39, none,.load true 2 (.t 2)⟩,⟨some 40, none,.fadr 1 (.t 3)⟩,⟨some 41, none,.load false 1 (.t 40)⟩,⟨some 42, none,.mv (.t 7)⟩,⟨some 43, none,.iadr 2 (.t 41) (.t 42)⟩,⟨some 44, none,.fadr 0 (.t 43)⟩,⟨some 45, none,.load false 1 (.t 44)⟩,⟨some 46, none,.fadr 1 (.t 3)⟩,⟨some 47, none,.load false 1 (.t 46)⟩,⟨some 48, none,.mv (.t 7)⟩,⟨some 49, none,.iadr 2 (.t 47) (.t 48)⟩,⟨some 50, none,.fadr 1 (.t 49)⟩,⟨some 51, none,.load false 1 (.t 50)⟩,⟨some 52, none,.call Qjh [(.rd,(.t 39)),(.val,(.t 45)),(.val,(.t 51))] true⟩,⟨some 53, none,.unop .not (.t 52)⟩] [2,3,5,7,53] []
def Jhs:IC:=.reg [⟨some 54, none,.mv (.t 5)⟩,⟨some 55, none,.bin .add (.t 54) (.c (vi 1))⟩,⟨some 5, none,.asg (.t 55)⟩] [2,3,5,7] []
def Jiv:IC:=.reg [⟨some 37, none,.mv (.t 7)⟩,⟨some 38, none,.bin .add (.t 37) (.c (vi 1))⟩,⟨some 7, none,.asg (.t 38)⟩] [2,3,5,7] []
def Qys:IC:=(.seq (.seq Jm5 (.cond (.t 36) .skip (.exit 2))) (.seq (.block 3 (.seq Ji2 (.cond (.t 53) Jhs .skip))) Jiv))
def Jjf:IC:=.reg [⟨some 56, none,.mv (.t 5)⟩,⟨some 4, none,.asgm (.t 56)⟩] [4] []
def Jce:Qbl:=⟨[.t 4],[],(.seq Jnw (.seq Jux (.seq (.seq Jrs (.block 0 (.loop Jey))) (.seq (.seq Jti (.block 2 (.loop Qys))) (.seq Jjf .ret)))))⟩
def Jvt:IC:=.reg [⟨some 3, none,.box (.t 0)⟩,⟨some 6, none,.alloc [(vi 0),(.slice none 0 0)]⟩] [1,2,3,6] []
def Jma:IC:=.reg [⟨some 10, none,.fadr 0 (.t 3)⟩,⟨some 11, none,.load false 1 (.t 10)⟩,⟨some 12, none,.bsl 2 [(vi 0),(vi 0)] 0 []⟩,⟨some 13, none,.build [(vi 0),(.slice none 0 0)] [(0,1,(.t 11)),(1,1,(.t 12))]⟩,⟨some 7, none,.alloc [(vi 0),(.slice none 0 0)]⟩,⟨none,none,.store 2 (.t 7) (.t 13)⟩] [1,2,3,6,7] []
def Jox:IC:=.reg [⟨some 8, none,.asg (.c (vi 0))⟩] [1,2,3,6,7,8] []
def Jul:IC:=.reg [⟨some 14, none,.mv (.t 8)⟩,⟨some 15, none,.fadr 1 (.t 3)⟩,⟨some 16, none,.load false 1 (.t 15)⟩,⟨some 17, none,.len (.t 16)⟩,⟨some 18, none,.bin .lss (.t 14) (.t 17)⟩] [1,2,3,6,7,8,18] []
def Jtm:IC:=.reg [⟨some 21, none,.fadr 1 (.t 3)⟩,⟨some 22, none,.load false 1 (.t 21)⟩,⟨some 23, none,.mv (.t 8)⟩,⟨some 24, none,.iadr 2 (.t 22) (.t 23)⟩,⟨some 25, none,.load true 2 (.t 24)⟩,⟨some 9, none,.alloc [(vi 0),(vi 0)]⟩,⟨none,none,.store 2 (.t 9) (.t 25)⟩] [1,2,3,6,7,8,9] []
def Jt3:IC:=.reg [⟨some 26, none,.fadr 0 (.t 9)⟩,⟨some 27, none,.load false 1 (.t 26)⟩,⟨some 28, none,.mv (.t 1)⟩,⟨some 29, none,.mv (.t 2)⟩,⟨some 30, none,.minmax true (.t 28) (.t 29)⟩,⟨some 31, none,.bin .neq (.t 27) (.t 30)⟩,⟨some 32, none,.asg (.t 31)⟩,⟨some 33, (some (32,false)),.fadr 1 (.t 9)⟩,⟨some 34, (some (32,false)),.load false 1 (.t 33)⟩,⟨some 35, (some (32,false)),.mv (.t 1)⟩,⟨some 36, (some (32,false)),.mv (.t 2)⟩,⟨some 37, (some (32,false)),.minmax false (.t 35) (.t 36)⟩,⟨some 38, (some (32,false)),.bin .neq (.t 34) (.t 37)⟩,⟨some 39, none,.pick (.t 32) (.c (.bool true)) (.t 38)⟩] [1,2,3,6,7,8,9,39] []
def Jut:IC:=.reg [⟨some 40, none,.fadr 1 (.t 7)⟩,⟨some 41, none,.load false 1 (.t 40)⟩,⟨some 42, none,.load true 2 (.t 9)⟩,⟨some 43, none,.bsl 2 [(vi 0),(vi 0)] 1 [(0,(.t 42))]⟩,⟨some 44, none,.app 2 (.t 41) (.t 43)⟩,⟨some 45, none,.fadr 1 (.t 7)⟩,⟨none,none,.store 1 (.t 45) (.t 44)⟩] [1,2,3,6,7,8] []
def Jxr:IC:=.reg [⟨some 19, none,.mv (.t 8)⟩,⟨some 20, none,.bin .add (.t 19) (.c (vi 1))⟩,⟨some 8, none,.asg (.t 20)⟩] [1,2,3,6,7,8] []
def Jd7:IC:=(.seq (.seq Jul (.cond (.t 18) .skip (.exit 0))) (.seq (.block 1 (.seq Jtm (.seq Jt3 (.cond (.t 39) Jut .skip)))) Jxr))
def Joq:IC:=.reg [⟨some 46, none,.load true 2 (.t 7)⟩,⟨none,none,.store 2 (.t 6) (.t 46)⟩] [6] []
def Jdb:Qbl:=⟨[.c 6 2 true],[],(.seq Jvt (.seq Jma (.seq (.seq Jox (.block 0 (.loop Jd7))) (.seq Joq .ret))))⟩
def Jre:IC:=.reg [⟨some 2, none,.box (.t 0)⟩,⟨some 3, none,.box (.t 1)⟩,⟨some 4, none,.asg (.c (.bool false))⟩] [2,3] []
def Jlv:IC:=.reg [⟨some 5, none,.fadr 0 (.t 2)⟩,⟨some 6, none,.load false 1 (.t 5)⟩,⟨some 7, none,.fadr 0 (.t 3)⟩,⟨some 8, none,.load false 1 (.t 7)⟩,⟨some 9, none,.bin .lss (.t 6) (.t 8)⟩,⟨some 10, none,.asg (.t 9)⟩,⟨some 11, (some (10,false)),.fadr 0 (.t 2)⟩,⟨some 12, (some (10,false)),.load false 1 (.t 11)⟩,⟨some 13, (some (10,false)),.fadr 0 (.t 3)⟩,⟨some 14, (some (10,false)),.load false 1 (.t 13)⟩,⟨some 15, (some (10,false)),.bin .eql (.t 12) (.t 14)⟩,⟨some 16, (some (10,false)),.asg (.t 15)⟩,⟨some 17, (some (16,true)),.fadr 1 (.t 2)⟩,⟨some 18, (some (16,true)),.load false 1 (.t 17)⟩,⟨some 19, (some (16,true)),.fadr 1 (.t 3)⟩,⟨some 20, (some (16,true)),.load false 1 (.t 19)⟩,⟨some 21, (some (16,true)),.bin .lss (.t 18) (.t 20)⟩,⟨some 22, (some (10,false)),.pick (.t 16) (.t 21) (.c (.bool false))⟩,⟨some 23, none,.pick (.t 10) (.c (.bool true)) (.t 22)⟩,
    ⟨some 4, none,.asg (.t 23)⟩] [4] []
def Qt1:Qbl:=⟨[.t 4],[],(.seq Jre (.seq Jlv .ret))⟩
def Jn3:IC:=.reg [⟨some 3, none,.box (.t 1)⟩,⟨some 4, none,.asg (.c (vi 0))⟩] [0,3] []
def Jrd:IC:=.reg [⟨some 5, none,.asg (.c (vi 0))⟩] [0,3,5] []
def Jur:IC:=.reg [⟨some 6, none,.mv (.t 5)⟩,⟨some 7, none,.mv (.t 0)⟩,⟨some 8, none,.len (.t 7)⟩,⟨some 9, none,.bin .lss (.t 6) (.t 8)⟩] [0,3,5,9] []
def Jtf:IC:=.reg [⟨some 12, none,.mv (.t 0)⟩,⟨some 13, none,.mv (.t 5)⟩,⟨some 14, none,.iadr 3 (.t 12) (.t 13)⟩,⟨some 15, none,.fadr 0 (.t 14)⟩,⟨some 16, none,.load true 2 (.t 15)⟩,⟨some 17, none,.load true 2 (.t 3)⟩,⟨some 18, none,.call Qsq [(.rd,(.t 16)),(.rd,(.t 17))] true⟩,⟨some 19, none,.bin .eql (.t 18) (.c (vi 0))⟩] [0,3,5,19] []
def Jls:IC:=.reg [⟨some 20, none,.mv (.t 5)⟩,⟨some 4, none,.asgm (.t 20)⟩] [4] []
def Joi:IC:=.reg [⟨some 10, none,.mv (.t 5)⟩,⟨some 11, none,.bin .add (.t 10) (.c (vi 1))⟩,⟨some 5, none,.asg (.t 11)⟩] [0,3,5] []
def Jen:IC:=(.seq (.seq Jur (.cond (.t 9) .skip (.exit 0))) (.seq (.block 1 (.seq Jtf (.cond (.t 19) (.seq Jls .ret) .skip))) Joi))
def Jpq:IC:=.reg [⟨some 4, none,.asg (.c (vi (-1)))⟩] [4] []
def Qxk:Qbl:=⟨[.t 4],[],(.seq Jn3 (.seq (.seq Jrd (.block 0 (.loop Jen))) (.seq Jpq .ret)))⟩
def Jss:IC:=.reg [⟨some 2, none,.alloc [(vi 0),(.slice none 0 0)]⟩] [0,2] []
def Jmi:IC:=.reg [⟨some 3, none,.mv (.t 0)⟩,⟨some 4, none,.mv (.t 0)⟩,⟨some 5, none,.bsl 1 [(vi 0)] 9 [(0,(.c (vi 5))),(1,(.c (vi 4))),(2,(.c (vi 6))),(3,(.c (vi 3))),(4,(.c (vi 5))),(5,(.c (vi 2))),(6,(.c (vi 7))),(7,(.c (vi 1))),(8,(.c (vi 0)))]⟩,⟨some 6, none,.call Qmm [(.val,(.t 4)),(.rd,(.t 5))] false⟩,⟨some 7, none,.call Qo9 [(.val,(.t 3)),(.val,(.t 6))] false⟩,⟨none,none,.store 2 (.t 2) (.t 7)⟩] [2] []
def Jbd:Qbl:=⟨[.c 2 2 true],[],(.seq Jss (.seq Jmi .ret))⟩
def Jr5:IC:=.reg [⟨some 3, none,.box (.t 0)⟩,⟨some 6, none,.asg (.c (.bool false))⟩] [1,2,3] []
def Juf:IC:=.reg [⟨some 7, none,.asg (.c (vi 0))⟩] [1,2,3,7] []
def Jsm:IC:=.reg [⟨some 9, none,.mv (.t 7)⟩,⟨some 10, none,.fadr 1 (.t 3)⟩,⟨some 11, none,.load false 1 (.t 10)⟩,⟨some 12, none,.len (.t 11)⟩,⟨some 13, none,.bin .lss (.t 9) (.t 12)⟩] [1,2,3,7,13] []
def Jp5:IC:=.reg [⟨some 16, none,.fadr 1 (.t 3)⟩,⟨some 17, none,.load false 1 (.t 16)⟩,⟨some 18, none,.mv (.t 7)⟩,⟨some 19, none,.iadr 2 (.t 17) (.t 18)⟩,⟨some 20, none,.load true 2 (.t 19)⟩,⟨some 8, none,.alloc [(vi 0),(vi 0)]⟩,⟨none,none,.store 2 (.t 8) (.t 20)⟩] [1,2,3,7,8] []
def Qig:IC:=.reg [⟨some 21, none,.fadr 0 (.t 8)⟩,⟨some 22, none,.load false 1 (.t 21)⟩,⟨some 23, none,.mv (.t 1)⟩,⟨some 24, none,.bin .eql (.t 22) (.t 23)⟩,⟨some 25, none,.asg (.t 24)⟩,⟨some 26, (some (25,true)),.fadr 1 (.t 8)⟩,⟨some 27, (some (25,true)),.load false 1 (.t 26)⟩,⟨some 28, (some (25,true)),.mv (.t 2)⟩,⟨some 29, (some (25,true)),.bin .eql (.t 27) (.t 28)⟩,⟨some 30, none,.pick (.t 25) (.t 29) (.c (.bool false))⟩,⟨some 31, none,.asg (.t 30)⟩,⟨some 32, (some (31,false)),.fadr 0 (.t 8)⟩,⟨some 33, (some (31,false)),.load false 1 (.t 32)⟩,⟨some 34, (some (31,false)),.mv (.t 2)⟩,⟨some 35, (some (31,false)),.bin .eql (.t 33) (.t 34)⟩,⟨some 36, (some (31,false)),.asg (.t 35)⟩,⟨some 37, (some (36,true)),.fadr 1 (.t 8)⟩,⟨some 38, (some (36,true)),.load false 1 (.t 37)⟩,⟨some 39, (some (36,true)),.mv (.t 1)⟩,⟨some 40, (some (36,true)),.bin .eql (.t 38) (.t 39)⟩,
    ⟨some 41, (some (31,false)),.pick (.t 36) (.t 40) (.c (.bool false))⟩,⟨some 42, none,.pick (.t 31) (.c (.bool true)) (.t 41)⟩] [1,2,3,7,42] []
def Jtd:IC:=.reg [⟨some 6, none,.asg (.c (.bool true))⟩] [6] []
def Jsr:IC:=.reg [⟨some 14, none,.mv (.t 7)⟩,⟨some 15, none,.bin .add (.t 14) (.c (vi 1))⟩,⟨some 7, none,.asg (.t 15)⟩] [1,2,3,7] []
def Je0:IC:=(.seq (.seq Jsm (.cond (.t 13) .skip (.exit 0))) (.seq (.block 1 (.seq Jp5 (.seq Qig (.cond (.t 42) (.seq Jtd .ret) .skip)))) Jsr))
def Jt2:IC:=.reg [⟨some 6, none,.asg (.c (.bool false))⟩] [6] []
def Qvx:Qbl:=⟨[.t 6],[],(.seq Jr5 (.seq (.seq Juf (.block 0 (.loop Je0))) (.seq Jt2 .ret)))⟩
def Jll:IC:=.reg [⟨some 6, none,.asg (.c (.bool false))⟩] [0,1,2] []
def Jmy:IC:=.reg [⟨some 7, none,.mv (.t 1)⟩,⟨some 8, none,.mv (.t 0)⟩,⟨some 9, none,.bin .leq (.t 7) (.t 8)⟩,⟨some 10, none,.asg (.t 9)⟩,⟨some 11, (some (10,true)),.mv (.t 0)⟩,⟨some 12, (some (10,true)),.mv (.t 2)⟩,⟨some 13, (some (10,true)),.bin .leq (.t 11) (.t 12)⟩,⟨some 14, none,.pick (.t 10) (.t 13) (.c (.bool false))⟩,⟨some 6, none,.asg (.t 14)⟩] [6] []
def Qzh:Qbl:=⟨[.t 6],[],(.seq Jll (.seq Jmy .ret))⟩
def Jv1:IC:=.reg [⟨some 2, none,.box (.t 0)⟩,⟨some 3, none,.box (.t 1)⟩,⟨some 4, none,.asg (.c (.bool false))⟩] [2,3] []
def Jvw:IC:=.reg [⟨some 5, none,.fadr 0 (.t 3)⟩,⟨some 6, none,.load false 1 (.t 5)⟩,⟨some 7, none,.fadr 2 (.t 3)⟩,⟨some 8, none,.load false 1 (.t 7)⟩,⟨some 9, none,.bin .neq (.t 6) (.t 8)⟩,⟨some 10, none,.asg (.t 9)⟩,⟨some 11, (some (10,true)),.fadr 1 (.t 3)⟩,⟨some 12, (some (10,true)),.load false 1 (.t 11)⟩,⟨some 13, (some (10,true)),.fadr 3 (.t 3)⟩,⟨some 14, (some (10,true)),.load false 1 (.t 13)⟩,⟨some 15, (some (10,true)),.bin .neq (.t 12) (.t 14)⟩,⟨some 16, none,.pick (.t 10) (.t 15) (.c (.bool false))⟩,⟨some 17, none,.asg (.t 16)⟩,⟨some 18, (some (17,true)),.fadr 0 (.t 3)⟩,⟨some 19, (some (17,true)),.load false 1 (.t 18)⟩,⟨some 20, (some (17,true)),.fadr 3 (.t 3)⟩,⟨some 21, (some (17,true)),.load false 1 (.t 20)⟩,⟨some 22, (some (17,true)),.bin .neq (.t 19) (.t 21)⟩,⟨some 23, none,.pick (.t 17) (.t 22) (.c (.bool false))⟩,⟨some 24, none,.asg (.t 23)⟩,
    ⟨some 25, (some (24,true)),.fadr 1 (.t 3)⟩,⟨some 26, (some (24,true)),.load false 1 (.t 25)⟩,⟨some 27, (some (24,true)),.fadr 2 (.t 3)⟩,⟨some 28, (some (24,true)),.load false 1 (.t 27)⟩,⟨some 29, (some (24,true)),.bin .neq (.t 26) (.t 28)⟩,⟨some 30, none,.pick (.t 24) (.t 29) (.c (.bool false))⟩,⟨some 31, none,.asg (.t 30)⟩,⟨some 32, (some (31,true)),.load true 2 (.t 2)⟩,⟨some 33, (some (31,true)),.fadr 0 (.t 3)⟩,⟨some 34, (some (31,true)),.load false 1 (.t 33)⟩,⟨some 35, (some (31,true)),.fadr 1 (.t 3)⟩,⟨some 36, (some (31,true)),.load false 1 (.t 35)⟩,⟨some 37, (some (31,true)),.call Qjh [(.rd,(.t 32)),(.val,(.t 34)),(.val,(.t 36))] true⟩,⟨some 38, none,.pick (.t 31) (.t 37) (.c (.bool false))⟩,⟨some 39, none,.asg (.t 38)⟩,⟨some 40, (some (39,true)),.load true 2 (.t 2)⟩,⟨some 41, (some (39,true)),.fadr 2 (.t 3)⟩,⟨some 42, (some (39,true)),.load false 1 (.t 41)⟩,
    ⟨some 43, (some (39,true)),.fadr 3 (.t 3)⟩,⟨some 44, (some (39,true)),.load false 1 (.t 43)⟩,⟨some 45, (some (39,true)),.call Qjh [(.rd,(.t 40)),(.val,(.t 42)),(.val,(.t 44))] true⟩,⟨some 46, none,.pick (.t 39) (.t 45) (.c (.bool false))⟩,⟨some 47, none,.asg (.t 46)⟩,⟨some 48, (some (47,true)),.load true 2 (.t 2)⟩,⟨some 49, (some (47,true)),.fadr 0 (.t 3)⟩,⟨some 50, (some (47,true)),.load false 1 (.t 49)⟩,⟨some 51, (some (47,true)),.fadr 2 (.t 3)⟩,⟨some 52, (some (47,true)),.load false 1 (.t 51)⟩,⟨some 53, (some (47,true)),.call Qjh [(.rd,(.t 48)),(.val,(.t 50)),(.val,(.t 52))] true⟩,⟨some 54, (some (47,true)),.unop .not (.t 53)⟩,⟨some 55, none,.pick (.t 47) (.t 54) (.c (.bool false))⟩,⟨some 56, none,.asg (.t 55)⟩,⟨some 57, (some (56,true)),.load true 2 (.t 2)⟩,⟨some 58, (some (56,true)),.fadr 1 (.t 3)⟩,⟨some 59, (some (56,true)),.load false 1 (.t 58)⟩,
    ⟨some 60, (some (56,true)),.fadr 3 (.t 3)⟩,⟨some 61, (some (56,true)),.load false 1 (.t 60)⟩,⟨some 62, (some (56,true)),.call Qjh [(.rd,(.t 57)),(.val,(.t 59)),(.val,(.t 61))] true⟩,⟨some 63, (some (56,true)),.unop .not (.t 62)⟩,⟨some 64, none,.pick (.t 56) (.t 63) (.c (.bool false))⟩,⟨some 4, none,.asg (.t 64)⟩] [4] []
def Qkm:Qbl:=⟨[.t 4],[],(.seq Jv1 (.seq Jvw .ret))⟩
def Jnq:IC:=.reg [⟨some 2, none,.asg (.c (.pointer none))⟩] [0] []
def Jn9:IC:=.reg [⟨some 3, none,.mv (.t 0)⟩,⟨some 4, none,.len (.t 3)⟩,⟨some 5, none,.bin .gtr (.t 4) (.c (vi 2000))⟩] [0,5] []
def Jxb:IC:=.reg [⟨some 6, none,.mv (.t 0)⟩,⟨some 7, none,.slc 1 (.t 6) none (some (.c (vi 2000))) none⟩,⟨some 0, none,.asgm (.t 7)⟩] [0] []
def Jun:IC:=.reg [⟨some 8, none,.mv (.t 0)⟩,⟨some 9, none,.build [(.slice none 0 0),(vi 0)] [(0,1,(.t 8))]⟩,⟨some 10, none,.box (.t 9)⟩,⟨some 2, none,.asg (.t 10)⟩] [2] []
def Qzc:Qbl:=⟨[.t 2],[],(.seq Jnq (.seq (.seq Jn9 (.cond (.t 5) Jxb .skip)) (.seq Jun .ret)))⟩
def Jo5:IC:=.reg [⟨some 2, none,.asg (.c (.slice none 0 0))⟩] [0] []
def Ju1:IC:=.reg [⟨some 6, none,.bsl 2 [(vi 0),(vi 0)] 0 []⟩,⟨some 3, none,.asg (.t 6)⟩] [0,3] []
def Jqb:IC:=.reg [⟨some 4, none,.asg (.c (vi 0))⟩] [0,3,4] []
def Juh:IC:=.reg [⟨some 7, none,.mv (.t 4)⟩,⟨some 8, none,.mv (.t 0)⟩,⟨some 9, none,.bin .lss (.t 7) (.t 8)⟩] [0,3,4,9] []
def Jvz:IC:=.reg [⟨some 12, none,.mv (.t 4)⟩,⟨some 13, none,.bin .add (.t 12) (.c (vi 1))⟩,⟨some 5, none,.asg (.t 13)⟩] [0,3,4,5] []
def Jvv:IC:=.reg [⟨some 14, none,.mv (.t 5)⟩,⟨some 15, none,.mv (.t 0)⟩,⟨some 16, none,.bin .lss (.t 14) (.t 15)⟩] [0,3,4,5,16] []
def Jqg:IC:=.reg [⟨some 19, none,.mv (.t 3)⟩,⟨some 20, none,.mv (.t 4)⟩,⟨some 21, none,.mv (.t 5)⟩,⟨some 22, none,.build [(vi 0),(vi 0)] [(0,1,(.t 20)),(1,1,(.t 21))]⟩,⟨some 23, none,.bsl 2 [(vi 0),(vi 0)] 1 [(0,(.t 22))]⟩,⟨some 24, none,.app 2 (.t 19) (.t 23)⟩,⟨some 3, none,.asg (.t 24)⟩] [0,3,4,5] []
def Jqj:IC:=.reg [⟨some 17, none,.mv (.t 5)⟩,⟨some 18, none,.bin .add (.t 17) (.c (vi 1))⟩,⟨some 5, none,.asg (.t 18)⟩] [0,3,4,5] []
def Jeu:IC:=(.seq (.seq Jvv (.cond (.t 16) .skip (.exit 2))) (.seq (.block 3 Jqg) Jqj))
def Jny:IC:=.reg [⟨some 10, none,.mv (.t 4)⟩,⟨some 11, none,.bin .add (.t 10) (.c (vi 1))⟩,⟨some 4, none,.asg (.t 11)⟩] [0,3,4] []
def Qu5:IC:=(.seq (.seq Juh (.cond (.t 9) .skip (.exit 0))) (.seq (.block 1 (.seq Jvz (.block 2 (.loop Jeu)))) Jny))
def Ji1:IC:=.reg [⟨some 25, none,.mv (.t 3)⟩,⟨some 2, none,.asgm (.t 25)⟩] [2,3] []
def Jcz:Qbl:=⟨[.t 2],[],(.seq Jo5 (.seq Ju1 (.seq (.seq Jqb (.block 0 (.loop Qu5))) (.seq Ji1 .ret))))⟩
def Jrw:IC:=.reg [⟨some 4, none,.asg (.c (vi 0))⟩] [0,1] []
def Jov:IC:=.reg [⟨some 5, none,.mv (.t 1)⟩,⟨some 6, none,.mv (.t 0)⟩,⟨some 7, none,.mv (.t 1)⟩,⟨some 8, none,.len (.t 7)⟩,⟨some 9, none,.call Qgh [(.val,(.t 6)),(.val,(.t 8))] false⟩,⟨some 10, none,.iadr 1 (.t 5) (.t 9)⟩,⟨some 11, none,.load false 1 (.t 10)⟩,⟨some 4, none,.asg (.t 11)⟩] [4] []
def Jbn:Qbl:=⟨[.t 4],[],(.seq Jrw (.seq Jov .ret))⟩
def Jlc:IC:=.reg [⟨some 4, none,.asg (.c (vi 0))⟩] [0,1] []
def Js6:IC:=.reg [⟨some 7, none,.mv (.t 0)⟩,⟨some 8, none,.mv (.t 0)⟩,⟨some 9, none,.nilck (.t 8)⟩,⟨some 10, none,.fadr 1 (.t 9)⟩,⟨some 11, none,.load false 1 (.t 10)⟩,⟨some 12, none,.bin .add (.t 11) (.c (vi 1))⟩,⟨some 13, none,.nilck (.t 7)⟩,⟨some 14, none,.fadr 1 (.t 13)⟩,⟨none,none,.store 1 (.t 14) (.t 12)⟩] [0,1] []
def Jnd:IC:=.reg [⟨some 15, none,.mv (.t 1)⟩,⟨some 16, none,.bin .lss (.t 15) (.c (vi 1))⟩,⟨some 17, none,.asg (.t 16)⟩,⟨some 18, (some (17,false)),.mv (.t 0)⟩,⟨some 19, (some (17,false)),.nilck (.t 18)⟩,⟨some 20, (some (17,false)),.fadr 0 (.t 19)⟩,⟨some 21, (some (17,false)),.load false 1 (.t 20)⟩,⟨some 22, (some (17,false)),.len (.t 21)⟩,⟨some 23, (some (17,false)),.bin .eql (.t 22) (.c (vi 0))⟩,⟨some 24, none,.pick (.t 17) (.c (.bool true)) (.t 23)⟩] [0,1,24] []
def Jwq:IC:=.reg [⟨some 4, none,.asg (.c (vi 0))⟩] [4] []
def Jtz:IC:=.reg [⟨some 25, none,.mv (.t 0)⟩,⟨some 26, none,.nilck (.t 25)⟩,⟨some 27, none,.fadr 1 (.t 26)⟩,⟨some 28, none,.load false 1 (.t 27)⟩,⟨some 29, none,.bin .sub (.t 28) (.c (vi 1))⟩,⟨some 5, none,.asg (.t 29)⟩] [0,1,5] []
def Jrf:IC:=.reg [⟨some 30, none,.mv (.t 5)⟩,⟨some 31, none,.mv (.t 0)⟩,⟨some 32, none,.nilck (.t 31)⟩,⟨some 33, none,.fadr 0 (.t 32)⟩,⟨some 34, none,.load false 1 (.t 33)⟩,⟨some 35, none,.len (.t 34)⟩,⟨some 36, none,.bin .lss (.t 30) (.t 35)⟩] [0,1,5,36] []
def Jto:IC:=.reg [⟨some 37, none,.mv (.t 0)⟩,⟨some 38, none,.nilck (.t 37)⟩,⟨some 39, none,.fadr 0 (.t 38)⟩,⟨some 40, none,.load false 1 (.t 39)⟩,⟨some 41, none,.mv (.t 5)⟩,⟨some 42, none,.iadr 1 (.t 40) (.t 41)⟩,⟨some 43, none,.load false 1 (.t 42)⟩,⟨some 44, none,.conv .i64 (.t 43)⟩,⟨some 45, none,.mv (.t 1)⟩,⟨some 46, none,.bin .rem (.t 44) (.t 45)⟩,⟨some 4, none,.asg (.t 46)⟩] [4] []
def Jl5:IC:=.reg [⟨some 47, none,.mv (.t 0)⟩,⟨some 48, none,.nilck (.t 47)⟩,⟨some 49, none,.fadr 0 (.t 48)⟩,⟨some 50, none,.load false 1 (.t 49)⟩,⟨some 51, none,.mv (.t 5)⟩,⟨some 52, none,.mv (.t 0)⟩,⟨some 53, none,.nilck (.t 52)⟩,⟨some 54, none,.fadr 0 (.t 53)⟩,⟨some 55, none,.load false 1 (.t 54)⟩,⟨some 56, none,.len (.t 55)⟩,⟨some 57, none,.bin .rem (.t 51) (.t 56)⟩,⟨some 58, none,.iadr 1 (.t 50) (.t 57)⟩,⟨some 59, none,.load false 1 (.t 58)⟩,⟨some 60, none,.conv .i64 (.t 59)⟩,⟨some 61, none,.bin .mul (.t 60) (.c (vi 131))⟩,⟨some 62, none,.mv (.t 0)⟩,⟨some 63, none,.nilck (.t 62)⟩,⟨some 64, none,.fadr 0 (.t 63)⟩,⟨some 65, none,.load false 1 (.t 64)⟩,⟨some 66, none,.mv (.t 5)⟩,⟨some 67, none,.bin .mul (.t 66) (.c (vi 7))⟩,⟨some 68, none,.bin .add (.t 67) (.c (vi 3))⟩,⟨some 69, none,.mv (.t 0)⟩,⟨some 70, none,.nilck (.t 69)⟩,⟨some 71, none,.fadr 0 (.t 70)⟩,
    ⟨some 72, none,.load false 1 (.t 71)⟩,⟨some 73, none,.len (.t 72)⟩,⟨some 74, none,.bin .rem (.t 68) (.t 73)⟩,⟨some 75, none,.iadr 1 (.t 65) (.t 74)⟩,⟨some 76, none,.load false 1 (.t 75)⟩,⟨some 77, none,.conv .i64 (.t 76)⟩,⟨some 78, none,.bin .mul (.t 77) (.c (vi 1117))⟩,⟨some 79, none,.bin .add (.t 61) (.t 78)⟩,⟨some 80, none,.mv (.t 5)⟩,⟨some 81, none,.bin .mul (.t 80) (.c (vi 29))⟩,⟨some 82, none,.bin .add (.t 79) (.t 81)⟩,⟨some 83, none,.mv (.t 5)⟩,⟨some 84, none,.mv (.t 0)⟩,⟨some 85, none,.nilck (.t 84)⟩,⟨some 86, none,.fadr 0 (.t 85)⟩,⟨some 87, none,.load false 1 (.t 86)⟩,⟨some 88, none,.len (.t 87)⟩,⟨some 89, none,.bin .quo (.t 83) (.t 88)⟩,⟨some 90, none,.bin .mul (.t 89) (.c (vi 53))⟩,⟨some 91, none,.bin .add (.t 82) (.t 90)⟩,⟨some 6, none,.asg (.t 91)⟩] [1,6] []
def Jxp:IC:=.reg [⟨some 92, none,.mv (.t 6)⟩,⟨some 93, none,.mv (.t 6)⟩,⟨some 94, none,.bin .quo (.t 93) (.c (vi 64))⟩,⟨some 95, none,.bin .xor (.t 92) (.t 94)⟩,⟨some 6, none,.asg (.t 95)⟩] [1,6] []
def Juk:IC:=.reg [⟨some 96, none,.mv (.t 6)⟩,⟨some 97, none,.mv (.t 1)⟩,⟨some 98, none,.bin .rem (.t 96) (.t 97)⟩,⟨some 4, none,.asg (.t 98)⟩] [4] []
def Qqu:Qbl:=⟨[.t 4],[],(.seq Jlc (.seq Js6 (.seq (.seq Jnd (.cond (.t 24) (.seq Jwq .ret) .skip)) (.seq Jtz (.seq (.seq Jrf (.cond (.t 36) (.seq Jto .ret) .skip)) (.seq Jl5 (.seq Jxp (.seq Juk .ret))))))))⟩
def Joj:IC:=.reg [⟨some 2, none,.alloc [(vi 0),(.slice none 0 0)]⟩] [0,2] []
def Jod:IC:=.reg [⟨some 3, none,.mv (.t 0)⟩,⟨some 4, none,.mv (.t 0)⟩,⟨some 5, none,.bsl 1 [(vi 0)] 6 [(0,(.c (vi 5))),(1,(.c (vi 4))),(2,(.c (vi 5))),(3,(.c (vi 3))),(4,(.c (vi 2))),(5,(.c (vi 1)))]⟩,⟨some 6, none,.call Qmm [(.val,(.t 4)),(.rd,(.t 5))] false⟩,⟨some 7, none,.call Qo9 [(.val,(.t 3)),(.val,(.t 6))] false⟩,⟨none,none,.store 2 (.t 2) (.t 7)⟩] [2] []
def Jbw:Qbl:=⟨[.c 2 2 true],[],(.seq Joj (.seq Jod .ret))⟩
def Jpf:IC:=.reg [⟨some 2, none,.alloc [(vi 0),(.slice none 0 0)]⟩] [0,2] []
def Jl4:IC:=.reg [⟨some 5, none,.mv (.t 0)⟩,⟨some 6, none,.callh Qyq [(.val,(.t 5))]⟩,⟨some 3, none,.alloc [(vi 0),(.slice none 0 0)]⟩,⟨none,none,.store 2 (.t 3) (.t 6)⟩] [0,2,3] []
def Jwd:IC:=.reg [⟨some 7, none,.fadr 1 (.t 3)⟩,⟨some 8, none,.load false 1 (.t 7)⟩,⟨some 9, none,.len (.t 8)⟩,⟨some 10, none,.bin .gtr (.t 9) (.c (vi 0))⟩] [0,2,3,10] []
def Jvb:IC:=.reg [⟨some 11, none,.mv (.t 0)⟩,⟨some 12, none,.fadr 1 (.t 3)⟩,⟨some 13, none,.load false 1 (.t 12)⟩,⟨some 14, none,.len (.t 13)⟩,⟨some 15, none,.callh Qgh [(.val,(.t 11)),(.val,(.t 14))]⟩,⟨some 4, none,.asg (.t 15)⟩] [0,2,3,4] []
def Ju0:IC:=.reg [⟨some 16, none,.mv (.t 0)⟩,⟨some 17, none,.callh Qgh [(.val,(.t 16)),(.val,(.c (vi 30)))]⟩] [0,2,3,4,17] []
def Jwe:IC:=.reg [⟨some 19, none,.bin .eql (.t 17) (.c (vi 0))⟩,⟨some 18, none,.asg (.t 19)⟩] [0,2,3,4,17,18] []
def Jv5:IC:=.reg [⟨some 20, none,.fadr 1 (.t 3)⟩,⟨some 21, none,.load false 1 (.t 20)⟩,⟨some 22, none,.mv (.t 4)⟩,⟨some 23, none,.mv (.t 0)⟩,⟨some 24, none,.fadr 1 (.t 3)⟩,⟨some 25, none,.load false 1 (.t 24)⟩,⟨some 26, none,.mv (.t 4)⟩,⟨some 27, none,.iadr 2 (.t 25) (.t 26)⟩,⟨some 28, none,.fadr 1 (.t 27)⟩,⟨some 29, none,.load false 1 (.t 28)⟩,⟨some 30, none,.bsl 1 [(vi 0)] 3 [(0,(.c (vi (-1)))),(1,(.c (vi 7))),(2,(.t 29))]⟩,⟨some 31, none,.callh Qmm [(.val,(.t 23)),(.rd,(.t 30))]⟩,⟨some 32, none,.iadr 2 (.t 21) (.t 22)⟩,⟨some 33, none,.fadr 0 (.t 32)⟩,⟨none,none,.store 1 (.t 33) (.t 31)⟩] [2,3] [[0,2,3,4,5,6,7,8,9,10,1,11,12,13,14],[0,2,3,4,5,6,7,8,9,10,11,1,12,13,14]]
def Jmt:IC:=.reg [⟨some 35, none,.bin .eql (.t 17) (.c (vi 1))⟩,⟨some 34, none,.asg (.t 35)⟩] [0,2,3,4,17,34] []
def Jpb:IC:=.reg [⟨some 36, none,.fadr 1 (.t 3)⟩,⟨some 37, none,.load false 1 (.t 36)⟩,⟨some 38, none,.fadr 1 (.t 3)⟩,⟨some 39, none,.load false 1 (.t 38)⟩,⟨some 40, none,.mv (.t 4)⟩,⟨some 41, none,.iadr 2 (.t 39) (.t 40)⟩,⟨some 42, none,.load true 2 (.t 41)⟩,⟨some 43, none,.bsl 2 [(vi 0),(vi 0)] 1 [(0,(.t 42))]⟩,⟨some 44, none,.app 2 (.t 37) (.t 43)⟩,⟨some 45, none,.fadr 1 (.t 3)⟩,⟨none,none,.store 1 (.t 45) (.t 44)⟩] [2,3] [[0,2,3,4,5,6,7,1,8,9,10]]
def Jqt:IC:=.reg [⟨some 47, none,.bin .eql (.t 17) (.c (vi 2))⟩,⟨some 46, none,.asg (.t 47)⟩] [0,2,3,46] []
def Jih:IC:=.reg [⟨some 48, none,.mv (.t 0)⟩,⟨some 49, none,.bsl 1 [(vi 0)] 3 [(0,(.c (vi (-1)))),(1,(.c (vi 8))),(2,(.c (vi 2)))]⟩,⟨some 50, none,.callh Qmm [(.val,(.t 48)),(.rd,(.t 49))]⟩,⟨some 51, none,.fadr 0 (.t 3)⟩,⟨none,none,.store 1 (.t 51) (.t 50)⟩] [2,3] []
def Jhh:IC:=.reg [⟨some 52, none,.load true 2 (.t 3)⟩,⟨none,none,.store 2 (.t 2) (.t 52)⟩] [2] []
def Qnm:Qbl:=⟨[.c 2 2 true],[],(.seq Jpf (.seq Jl4 (.seq (.seq Jwd (.cond (.t 10) (.seq Jvb (.seq Ju0 (.block 0 (.seq Jwe (.cond (.t 18) Jv5 (.seq Jmt (.cond (.t 34) Jpb (.seq Jqt (.cond (.t 46) Jih .skip))))))))) .skip)) (.seq Jhh .ret))))⟩
def Jl3:IC:=.reg [⟨some 2, none,.box (.t 0)⟩,⟨some 3, none,.box (.t 1)⟩,⟨some 4, none,.alloc [(vi 0),(.slice none 0 0)]⟩] [2,3,4] []
def Jn0:IC:=.regd [⟨some 5, none,.load true 2 (.t 2)⟩,⟨some 6, none,.fadr 0 (.t 3)⟩,⟨some 7, none,.load false 1 (.t 6)⟩,⟨some 8, none,.fadr 1 (.t 3)⟩,⟨some 9, none,.load false 1 (.t 8)⟩,⟨some 10, none,.callq Qt4 [(.rv,(.t 5)),(.val,(.t 7)),(.val,(.t 9))]⟩,⟨some 11, none,.fadr 2 (.t 3)⟩,⟨some 12, none,.load false 1 (.t 11)⟩,⟨some 13, none,.fadr 3 (.t 3)⟩,⟨some 14, none,.load false 1 (.t 13)⟩,⟨some 15, none,.callq Qt4 [(.rv,(.t 10)),(.val,(.t 12)),(.val,(.t 14))]⟩,⟨some 16, none,.fadr 0 (.t 3)⟩,⟨some 17, none,.load false 1 (.t 16)⟩,⟨some 18, none,.fadr 2 (.t 3)⟩,⟨some 19, none,.load false 1 (.t 18)⟩,⟨some 20, none,.callq Qt0 [(.rv,(.t 15)),(.val,(.t 17)),(.val,(.t 19))]⟩,⟨some 21, none,.fadr 1 (.t 3)⟩,⟨some 22, none,.load false 1 (.t 21)⟩,⟨some 23, none,.fadr 3 (.t 3)⟩,⟨some 24, none,.load false 1 (.t 23)⟩,
    ⟨some 25, none,.callq Qt0 [(.rv,(.t 20)),(.val,(.t 22)),(.val,(.t 24))]⟩,⟨none,none,.store 2 (.t 4) (.t 25)⟩] [0,1,2,3,4,6,7,8,9,11,12,13,14,16,17,18,19,5,10,15,20,21] [4] []
def Jdf:Qbl:=⟨[.c 4 2 true],[],(.seq Jl3 (.seq Jn0 .ret))⟩
def Jmu:IC:=.reg [⟨some 1, none,.box (.t 0)⟩,⟨some 2, none,.asg (.c (.slice none 0 0))⟩] [1] []
def Jwp:IC:=.reg [⟨some 10, none,.bsl 4 [(vi 0),(vi 0),(vi 0),(vi 0)] 0 []⟩,⟨some 3, none,.asg (.t 10)⟩] [1,3] []
def Jln:IC:=.reg [⟨some 4, none,.asg (.c (vi 0))⟩] [1,3,4] []
def Jxk:IC:=.reg [⟨some 11, none,.mv (.t 4)⟩,⟨some 12, none,.fadr 1 (.t 1)⟩,⟨some 13, none,.load false 1 (.t 12)⟩,⟨some 14, none,.len (.t 13)⟩,⟨some 15, none,.bin .lss (.t 11) (.t 14)⟩] [1,3,4,15] []
def Juc:IC:=.reg [⟨some 18, none,.mv (.t 4)⟩,⟨some 19, none,.bin .add (.t 18) (.c (vi 1))⟩,⟨some 5, none,.asg (.t 19)⟩] [1,3,4,5] []
def Jm1:IC:=.reg [⟨some 20, none,.mv (.t 5)⟩,⟨some 21, none,.fadr 1 (.t 1)⟩,⟨some 22, none,.load false 1 (.t 21)⟩,⟨some 23, none,.len (.t 22)⟩,⟨some 24, none,.bin .lss (.t 20) (.t 23)⟩] [1,3,4,5,24] []
def Jpw:IC:=.reg [⟨some 27, none,.fadr 1 (.t 1)⟩,⟨some 28, none,.load false 1 (.t 27)⟩,⟨some 29, none,.mv (.t 4)⟩,⟨some 30, none,.iadr 2 (.t 28) (.t 29)⟩,⟨some 31, none,.load true 2 (.t 30)⟩,⟨some 6, none,.alloc [(vi 0),(vi 0)]⟩,⟨none,none,.store 2 (.t 6) (.t 31)⟩] [1,3,4,5,6] []
def Jru:IC:=.reg [⟨some 32, none,.fadr 1 (.t 1)⟩,⟨some 33, none,.load false 1 (.t 32)⟩,⟨some 34, none,.mv (.t 5)⟩,⟨some 35, none,.iadr 2 (.t 33) (.t 34)⟩,⟨some 36, none,.load true 2 (.t 35)⟩,⟨some 7, none,.alloc [(vi 0),(vi 0)]⟩,⟨none,none,.store 2 (.t 7) (.t 36)⟩] [1,3,4,5,6,7] []
def Jui:IC:=.reg [⟨some 37, none,.fadr 0 (.t 6)⟩,⟨some 38, none,.load false 1 (.t 37)⟩,⟨some 39, none,.fadr 1 (.t 6)⟩,⟨some 40, none,.load false 1 (.t 39)⟩,⟨some 41, none,.fadr 0 (.t 7)⟩,⟨some 42, none,.load false 1 (.t 41)⟩,⟨some 43, none,.fadr 1 (.t 7)⟩,⟨some 44, none,.load false 1 (.t 43)⟩,⟨some 45, none,.build [(vi 0),(vi 0),(vi 0),(vi 0)] [(0,1,(.t 38)),(1,1,(.t 40)),(2,1,(.t 42)),(3,1,(.t 44))]⟩,⟨some 8, none,.alloc [(vi 0),(vi 0),(vi 0),(vi 0)]⟩,⟨none,none,.store 4 (.t 8) (.t 45)⟩] [1,3,4,5,6,7,8] []
def Jq4:IC:=.reg [⟨some 46, none,.fadr 0 (.t 6)⟩,⟨some 47, none,.load false 1 (.t 46)⟩,⟨some 48, none,.fadr 1 (.t 6)⟩,⟨some 49, none,.load false 1 (.t 48)⟩,⟨some 50, none,.fadr 1 (.t 7)⟩,⟨some 51, none,.load false 1 (.t 50)⟩,⟨some 52, none,.fadr 0 (.t 7)⟩,⟨some 53, none,.load false 1 (.t 52)⟩,⟨some 54, none,.build [(vi 0),(vi 0),(vi 0),(vi 0)] [(0,1,(.t 47)),(1,1,(.t 49)),(2,1,(.t 51)),(3,1,(.t 53))]⟩,⟨some 9, none,.alloc [(vi 0),(vi 0),(vi 0),(vi 0)]⟩,⟨none,none,.store 4 (.t 9) (.t 54)⟩] [1,3,4,5,8,9] []
def Ji7:IC:=.reg [⟨some 55, none,.load true 2 (.t 1)⟩,⟨some 56, none,.load true 4 (.t 8)⟩,⟨some 57, none,.call Qt8 [(.rd,(.t 55)),(.val,(.t 56))] true⟩] [1,3,4,5,8,9,57] []
def Jf4:IC:=.reg [⟨some 58, none,.mv (.t 3)⟩,⟨some 59, none,.load true 4 (.t 8)⟩,⟨some 60, none,.bsl 4 [(vi 0),(vi 0),(vi 0),(vi 0)] 1 [(0,(.t 59))]⟩,⟨some 61, none,.app 4 (.t 58) (.t 60)⟩,⟨some 3, none,.asg (.t 61)⟩] [1,3,4,5,9] []
def Jkm:IC:=.reg [⟨some 62, none,.load true 2 (.t 1)⟩,⟨some 63, none,.load true 4 (.t 9)⟩,⟨some 64, none,.call Qt8 [(.rd,(.t 62)),(.val,(.t 63))] true⟩] [1,3,4,5,9,64] []
def Jj5:IC:=.reg [⟨some 65, none,.mv (.t 3)⟩,⟨some 66, none,.load true 4 (.t 9)⟩,⟨some 67, none,.bsl 4 [(vi 0),(vi 0),(vi 0),(vi 0)] 1 [(0,(.t 66))]⟩,⟨some 68, none,.app 4 (.t 65) (.t 67)⟩,⟨some 3, none,.asg (.t 68)⟩] [1,3,4,5] []
def Jju:IC:=.reg [⟨some 25, none,.mv (.t 5)⟩,⟨some 26, none,.bin .add (.t 25) (.c (vi 1))⟩,⟨some 5, none,.asg (.t 26)⟩] [1,3,4,5] []
def Qxj:IC:=(.seq (.seq Jm1 (.cond (.t 24) .skip (.exit 2))) (.seq (.block 3 (.seq Jpw (.seq Jru (.seq Jui (.seq Jq4 (.seq (.seq Ji7 (.cond (.t 57) Jf4 .skip)) (.seq Jkm (.cond (.t 64) Jj5 .skip)))))))) Jju))
def Jge:IC:=.reg [⟨some 16, none,.mv (.t 4)⟩,⟨some 17, none,.bin .add (.t 16) (.c (vi 1))⟩,⟨some 4, none,.asg (.t 17)⟩] [1,3,4] []
def Qyv:IC:=(.seq (.seq Jxk (.cond (.t 15) .skip (.exit 0))) (.seq (.block 1 (.seq Juc (.block 2 (.loop Qxj)))) Jge))
def Ji9:IC:=.reg [⟨some 69, none,.mv (.t 3)⟩,⟨some 2, none,.asgm (.t 69)⟩] [2,3] []
def Jba:Qbl:=⟨[.t 2],[],(.seq Jmu (.seq Jwp (.seq (.seq Jln (.block 0 (.loop Qyv))) (.seq Ji9 .ret))))⟩
def Jvi:IC:=.reg [⟨some 3, none,.box (.t 1)⟩,⟨some 4, none,.alloc [(vi 0),(.slice none 0 0)]⟩,⟨some 5, none,.alloc [(vi 0),(.slice none 0 0)]⟩] [0,3,4,5] []
def Jr4:IC:=.regd [⟨some 9, none,.fadr 0 (.t 3)⟩,⟨some 10, none,.load false 1 (.t 9)⟩,⟨some 11, none,.bsl 2 [(vi 0),(vi 0)] 0 []⟩,⟨some 12, none,.fadr 1 (.t 3)⟩,⟨some 13, none,.load false 1 (.t 12)⟩,⟨some 14, none,.app 2 (.t 11) (.t 13)⟩,⟨some 15, none,.build [(vi 0),(.slice none 0 0)] [(0,1,(.t 10)),(1,1,(.t 14))]⟩,⟨some 6, none,.alloc [(vi 0),(.slice none 0 0)]⟩,⟨none,none,.storef 2 (.t 6) (.t 15)⟩] [0,1,3,4,2,5,6,7,8] [0,3,4,5,6] [[0,1,2,3,4,5,6,7,8],[0,1,3,2,4,5,6,7,8],[0,2,1,3,4,5,6,7,8],[0,2,3,4,5,1,6,7,8],[0,3,2,1,4,5,6,7,8],[0,3,2,4,5,1,6,7,8],[0,3,4,2,1,5,6,7,8],[0,3,4,2,5,1,6,7,8],[2,0,1,3,4,5,6,7,8],[2,0,3,4,5,1,6,7,8],[2,3,4,5,0,1,6,7,8],[3,2,0,1,4,5,6,7,8],[3,2,0,4,5,1,6,7,8],[3,2,4,5,0,1,6,7,8],[3,4,2,0,1,5,6,7,8],[3,4,2,0,5,1,6,7,8],[3,4,2,5,0,1,6,7,8]]
def Jql:IC:=.reg [⟨some 16, none,.load true 2 (.t 3)⟩,⟨some 17, none,.call Qpl [(.rd,(.t 16))] true⟩,⟨some 18, none,.unop .not (.t 17)⟩] [0,3,4,5,6,18] []
def Ju2:IC:=.reg [⟨some 19, none,.load true 2 (.t 3)⟩,⟨some 20, none,.load true 2 (.t 6)⟩,⟨none,none,.storef 2 (.t 4) (.t 19)⟩,⟨none,none,.storef 2 (.t 5) (.t 20)⟩] [4,5] [[0,2,1,3]]
def Jqs:IC:=.reg [⟨some 21, none,.mv (.t 0)⟩,⟨some 22, none,.call Qgh [(.val,(.t 21)),(.val,(.c (vi 4)))] false⟩,⟨some 7, none,.asg (.t 22)⟩] [0,3,4,5,6,7] []
def Jpm:IC:=.reg [⟨some 23, none,.mv (.t 7)⟩,⟨some 24, none,.bin .gtr (.t 23) (.c (vi 0))⟩] [0,3,4,5,6,7,24] []
def Jvl:IC:=.reg [⟨some 27, none,.load true 2 (.t 6)⟩,⟨some 28, none,.call Qsw [(.rd,(.t 27))] true⟩,⟨some 8, none,.asg (.t 28)⟩] [0,3,4,5,6,7,8] []
def Jvq:IC:=.reg [⟨some 29, none,.mv (.t 8)⟩,⟨some 30, none,.len (.t 29)⟩,⟨some 31, none,.bin .gtr (.t 30) (.c (vi 0))⟩] [0,3,4,5,6,7,8,31] []
def Jry:IC:=.reg [⟨some 32, none,.load true 2 (.t 6)⟩,⟨some 33, none,.mv (.t 8)⟩,⟨some 34, none,.mv (.t 0)⟩,⟨some 35, none,.mv (.t 8)⟩,⟨some 36, none,.len (.t 35)⟩,⟨some 37, none,.call Qgh [(.val,(.t 34)),(.val,(.t 36))] false⟩,⟨some 38, none,.iadr 4 (.t 33) (.t 37)⟩,⟨some 39, none,.load true 4 (.t 38)⟩,⟨some 40, none,.call Qtr [(.rd,(.t 32)),(.val,(.t 39))] true⟩,⟨none,none,.storef 2 (.t 6) (.t 40)⟩] [0,3,4,5,6,7] [[1,2,3,4,5,0,6,7,8,9]]
def Jk8:IC:=.reg [⟨some 25, none,.mv (.t 7)⟩,⟨some 26, none,.bin .sub (.t 25) (.c (vi 1))⟩,⟨some 7, none,.asg (.t 26)⟩] [0,3,4,5,6,7] []
def Qzx:IC:=(.seq (.seq Jpm (.cond (.t 24) .skip (.exit 0))) (.seq (.block 1 (.seq Jvl (.seq Jvq (.cond (.t 31) Jry .skip)))) Jk8))
def Jj8:IC:=.reg [⟨some 41, none,.mv (.t 0)⟩,⟨some 42, none,.call Qgh [(.val,(.t 41)),(.val,(.c (vi 8)))] false⟩] [0,3,4,5,6,42] []
def Jg5:IC:=.reg [⟨some 44, none,.bin .eql (.t 42) (.c (vi 0))⟩,⟨some 43, none,.asg (.t 44)⟩] [0,3,4,5,6,42,43] []
def Jfj:IC:=.reg [⟨some 45, none,.load true 2 (.t 3)⟩,⟨some 46, none,.mv (.t 0)⟩,⟨some 47, none,.fadr 0 (.t 3)⟩,⟨some 48, none,.load false 1 (.t 47)⟩,⟨some 49, none,.call Qo9 [(.val,(.t 46)),(.val,(.t 48))] false⟩,⟨none,none,.storef 2 (.t 4) (.t 45)⟩,⟨none,none,.storef 2 (.t 5) (.t 49)⟩] [4,5] [[1,2,3,4,0,5,6]]
def Jhy:IC:=.reg [⟨some 51, none,.bin .eql (.t 42) (.c (vi 1))⟩,⟨some 50, none,.asg (.t 51)⟩] [0,3,4,5,6,50] []
def Jip:IC:=.reg [⟨some 52, none,.load true 2 (.t 3)⟩,⟨some 53, none,.mv (.t 0)⟩,⟨some 54, none,.call Qtc [(.val,(.t 53))] false⟩,⟨none,none,.storef 2 (.t 4) (.t 52)⟩,⟨none,none,.storef 2 (.t 5) (.t 54)⟩] [4,5] [[1,2,0,3,4]]
def Jfn:IC:=.reg [⟨some 55, none,.load true 2 (.t 3)⟩,⟨some 56, none,.load true 2 (.t 6)⟩,⟨none,none,.storef 2 (.t 4) (.t 55)⟩,⟨none,none,.storef 2 (.t 5) (.t 56)⟩] [4,5] [[0,2,1,3]]
def Qtp:Qbl:=⟨[.c 4 2 true,.c 5 2 true],[],(.seq Jvi (.seq Jr4 (.seq (.seq Jql (.cond (.t 18) (.seq Ju2 .ret) .skip)) (.seq (.seq Jqs (.block 0 (.loop Qzx))) (.seq (.seq Jj8 (.block 2 (.seq Jg5 (.cond (.t 43) (.seq Jfj .ret) (.seq Jhy (.cond (.t 50) (.seq Jip .ret) .skip)))))) (.seq Jfn .ret))))))⟩
def Jsa:IC:=.reg [⟨some 1, none,.box (.t 0)⟩,⟨some 2, none,.asg (.c (.bool false))⟩] [1] []
def Jo8:IC:=.reg [⟨some 3, none,.asg (.c (vi 0))⟩] [1,3] []
def Jte:IC:=.reg [⟨some 5, none,.mv (.t 3)⟩,⟨some 6, none,.fadr 1 (.t 1)⟩,⟨some 7, none,.load false 1 (.t 6)⟩,⟨some 8, none,.len (.t 7)⟩,⟨some 9, none,.bin .lss (.t 5) (.t 8)⟩] [1,3,9] []
def Jwi:IC:=.reg [⟨some 12, none,.fadr 1 (.t 1)⟩,⟨some 13, none,.load false 1 (.t 12)⟩,⟨some 14, none,.mv (.t 3)⟩,⟨some 15, none,.iadr 2 (.t 13) (.t 14)⟩,⟨some 16, none,.load true 2 (.t 15)⟩,⟨some 4, none,.alloc [(vi 0),(vi 0)]⟩,⟨none,none,.store 2 (.t 4) (.t 16)⟩] [1,3,4] []
def Jm7:IC:=.reg [⟨some 17, none,.fadr 0 (.t 4)⟩,⟨some 18, none,.load false 1 (.t 17)⟩,⟨some 19, none,.bin .lss (.t 18) (.c (vi 0))⟩,⟨some 20, none,.asg (.t 19)⟩,⟨some 21, (some (20,false)),.fadr 0 (.t 4)⟩,⟨some 22, (some (20,false)),.load false 1 (.t 21)⟩,⟨some 23, (some (20,false)),.fadr 1 (.t 4)⟩,⟨some 24, (some (20,false)),.load false 1 (.t 23)⟩,⟨some 25, (some (20,false)),.bin .geq (.t 22) (.t 24)⟩,⟨some 26, none,.pick (.t 20) (.c (.bool true)) (.t 25)⟩,⟨some 27, none,.asg (.t 26)⟩,⟨some 28, (some (27,false)),.fadr 1 (.t 4)⟩,⟨some 29, (some (27,false)),.load false 1 (.t 28)⟩,⟨some 30, (some (27,false)),.fadr 0 (.t 1)⟩,⟨some 31, (some (27,false)),.load false 1 (.t 30)⟩,⟨some 32, (some (27,false)),.bin .geq (.t 29) (.t 31)⟩,⟨some 33, none,.pick (.t 27) (.c (.bool true)) (.t 32)⟩,⟨some 34, none,.asg (.t 33)⟩,⟨some 35, (some (34,false)),.mv (.t 3)⟩,
    ⟨some 36, (some (34,false)),.bin .gtr (.t 35) (.c (vi 0))⟩,⟨some 37, (some (34,false)),.asg (.t 36)⟩,⟨some 38, (some (37,true)),.fadr 1 (.t 1)⟩,⟨some 39, (some (37,true)),.load false 1 (.t 38)⟩,⟨some 40, (some (37,true)),.mv (.t 3)⟩,⟨some 41, (some (37,true)),.bin .sub (.t 40) (.c (vi 1))⟩,⟨some 42, (some (37,true)),.iadr 2 (.t 39) (.t 41)⟩,⟨some 43, (some (37,true)),.load true 2 (.t 42)⟩,⟨some 44, (some (37,true)),.load true 2 (.t 4)⟩,⟨some 45, (some (37,true)),.call Qs2 [(.val,(.t 43)),(.val,(.t 44))] true⟩,⟨some 46, (some (37,true)),.unop .not (.t 45)⟩,⟨some 47, (some (34,false)),.pick (.t 37) (.t 46) (.c (.bool false))⟩,⟨some 48, none,.pick (.t 34) (.c (.bool true)) (.t 47)⟩] [1,3,48] []
def Jxh:IC:=.reg [⟨some 2, none,.asg (.c (.bool false))⟩] [2] []
def Jok:IC:=.reg [⟨some 10, none,.mv (.t 3)⟩,⟨some 11, none,.bin .add (.t 10) (.c (vi 1))⟩,⟨some 3, none,.asg (.t 11)⟩] [1,3] []
def Jeb:IC:=(.seq (.seq Jte (.cond (.t 9) .skip (.exit 0))) (.seq (.block 1 (.seq Jwi (.seq Jm7 (.cond (.t 48) (.seq Jxh .ret) .skip)))) Jok))
def Ju5:IC:=.reg [⟨some 49, none,.fadr 0 (.t 1)⟩,⟨some 50, none,.load false 1 (.t 49)⟩,⟨some 51, none,.call Qy3 [(.val,(.t 50)),(.val,(.c (vi 0))),(.val,(.c (vi 7)))] true⟩,⟨some 2, none,.asg (.t 51)⟩] [2] []
def Qym:Qbl:=⟨[.t 2],[],(.seq Jsa (.seq (.seq Jo8 (.block 0 (.loop Jeb))) (.seq Ju5 .ret)))⟩
def tbl:List (Nat×Qbl):=[(Qta,Jds),(Qp4,Qw9),(Qqe,Ql3),(Qud,Qkx),(zl9,zi9),(Qkz,Jdc),(Qtq,Qw6),(Qxa,Qvq),(Qye,Qy5),(Qlu,Qpp),(Qsu,Jd1),(Qx0,Qkq),(Qy2,Jta),(Qqh,Qoc),(Qub,Jdi),(Jal,Js2),(Jbh,Jxu),(Jmz,Jtt),(Quq,Jci),(Qxf,Qxy),(Jbz,Qor),(Qss,Qkf),(Qx5,Qjp),(Jos,Jkx),(Qqf,Qzz),(Jkz,Jx9),(Jqa,Jyl),(Qzk,Jb1),(Qqp,Qts),(Qtu,Qwj),(Qup,Qvc),(Qyj,Jde),(Qwv,Qzq),(Qvw,Qt6),(Qz3,Qww),(Qtl,Qwo),(Qwp,Qwu),(Qvb,Jdw),(Qte,Ja6),(Quf,Jc0),(Qyc,Qus),(Qt7,Qxn),(Jaf,Jc4),(Jth,Jwh),(Qnz,Qyn),(Qua,Qy8),(Quk,Qzg),(Qm7,Qob),(Qwl,Jay),(Qx7,Jc7),(Qqy,Qnd),(Qo9,Qyo),(Qt0,Jdv),(Qv7,Ja1),(Qsq,Jce),(Qt4,Jdb),(Qs2,Qt1),(Qsr,Qxk),(Qyq,Jbd),(Qjh,Qvx),(Qy3,Qzh),(Qt8,Qkm),(Qyr,Qzc),(Qty,Jcz),(Qmm,Jbn),(Qgh,Qqu),(Qtk,Jbw),(Qtc,Qnm),(Qtr,Jdf),(Qsw,Jba),(Quh,Qtp),(Qpl,Qym)]
def tb:Tbl:=Jub tbl
theorem Jzw:tb Qta=some Jds:=by kernel_rfl
theorem Jrj:tb Qp4=some Qw9:=by kernel_rfl
theorem Qs1:tb Qqe=some Ql3:=by kernel_rfl
theorem Qql:tb Qud=some Qkx:=by kernel_rfl
theorem zt9:tb zl9=some zi9:=by kernel_rfl
theorem zt171:tb Qkz=some Jdc:=by kernel_rfl
theorem Job:tb Qtq=some Qw6:=by kernel_rfl
theorem Juj:tb Qxa=some Qvq:=by kernel_rfl
theorem zt196:tb Qye=some Qy5:=by kernel_rfl
theorem Jct:tb Qlu=some Qpp:=by kernel_rfl
theorem zt465:tb Qsu=some Jd1:=by kernel_rfl
theorem Qp5:tb Qx0=some Qkq:=by kernel_rfl
theorem zt26:tb Qy2=some Jta:=by kernel_rfl
theorem Qwb:tb Qqh=some Qoc:=by kernel_rfl
theorem Jyw:tb Qub=some Jdi:=by kernel_rfl
theorem zt32:tb Jal=some Js2:=by kernel_rfl
theorem zt36:tb Jbh=some Jxu:=by kernel_rfl
theorem zt38:tb Jmz=some Jtt:=by kernel_rfl
theorem zt214:tb Quq=some Jci:=by kernel_rfl
theorem Jz8:tb Qxf=some Qxy:=by kernel_rfl
theorem Qwt:tb Jbz=some Qor:=by kernel_rfl
theorem Qqa:tb Qss=some Qkf:=by kernel_rfl
theorem Qns:tb Qx5=some Qjp:=by kernel_rfl
theorem zt53:tb Jos=some Jkx:=by kernel_rfl
theorem Jo2:tb Qqf=some Qzz:=by kernel_rfl
theorem zt66:tb Jkz=some Jx9:=by kernel_rfl
theorem zt68:tb Jqa=some Jyl:=by kernel_rfl
theorem zt258:tb Qzk=some Jb1:=by kernel_rfl
theorem Jh6:tb Qqp=some Qts:=by kernel_rfl
theorem Jqf:tb Qtu=some Qwj:=by kernel_rfl
theorem Jxm:tb Qup=some Qvc:=by kernel_rfl
theorem zt263:tb Qyj=some Jde:=by kernel_rfl
theorem Ju7:tb Qwv=some Qzq:=by kernel_rfl
theorem Jop:tb Qvw=some Qt6:=by kernel_rfl
theorem Jz3:tb Qz3=some Qww:=by kernel_rfl
theorem zt479:tb Qtl=some Qwo:=by kernel_rfl
theorem zt269:tb Qwp=some Qwu:=by kernel_rfl
theorem zt480:tb Qvb=some Jdw:=by kernel_rfl
theorem zt272:tb Qte=some Ja6:=by kernel_rfl
theorem zt274:tb Quf=some Jc0:=by kernel_rfl
theorem Jpp:tb Qyc=some Qus:=by kernel_rfl
theorem Jxa:tb Qt7=some Qxn:=by kernel_rfl
theorem Jyz:tb Jaf=some Jc4:=by kernel_rfl
theorem zt91:tb Jth=some Jwh:=by kernel_rfl
theorem Juu:tb Qnz=some Qyn:=by kernel_rfl
theorem Jzx:tb Qua=some Qy8:=by kernel_rfl
theorem Jy7:tb Quk=some Qzg:=by kernel_rfl
theorem zt285:tb Qm7=some Qob:=by kernel_rfl
theorem zt106:tb Qwl=some Jay:=by kernel_rfl
theorem zt487:tb Qx7=some Jc7:=by kernel_rfl
theorem Qs6:tb Qqy=some Qnd:=by kernel_rfl
theorem Jzu:tb Qo9=some Qyo:=by kernel_rfl
theorem zt335:tb Qt0=some Jdv:=by kernel_rfl
theorem zt122:tb Qv7=some Ja1:=by kernel_rfl
theorem Jzm:tb Qsq=some Jce:=by kernel_rfl
theorem zt348:tb Qt4=some Jdb:=by kernel_rfl
theorem Jiq:tb Qs2=some Qt1:=by kernel_rfl
theorem zt491:tb Qsr=some Qxk:=by kernel_rfl
theorem zt129:tb Qyq=some Jbd:=by kernel_rfl
theorem zt130:tb Qjh=some Qvx:=by kernel_rfl
theorem zt132:tb Qy3=some Qzh:=by kernel_rfl
theorem Qow:tb Qt8=some Qkm:=by kernel_rfl
theorem Jnl:tb Qyr=some Qzc:=by kernel_rfl
theorem zt138:tb Qty=some Jcz:=by kernel_rfl
theorem zt139:tb Qmm=some Jbn:=by kernel_rfl
theorem Jck:tb Qgh=some Qqu:=by kernel_rfl
theorem zt375:tb Qtk=some Jbw:=by kernel_rfl
theorem zt378:tb Qtc=some Qnm:=by kernel_rfl
theorem zt383:tb Qtr=some Jdf:=by kernel_rfl
theorem Jzc:tb Qsw=some Jba:=by kernel_rfl
theorem zt495:tb Quh=some Qtp:=by kernel_rfl
theorem zt145:tb Qpl=some Qym:=by kernel_rfl
end Go.Idl
