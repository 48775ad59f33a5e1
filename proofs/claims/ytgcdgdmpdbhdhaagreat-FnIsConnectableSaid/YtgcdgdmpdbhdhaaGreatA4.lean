/- Part 4 of a proof by an ideal interpreter of the code: its definitions and lemmas. Conditions: none. -/
import Derived.KernelRfl
import Derived.Test.YtgcdgdmpdbhdhaaGreatA3
set_option linter.all false
set_option linter.unusedVariables false
set_option linter.unusedSimpArgs false
namespace Go.Idl
open Go
abbrev vi (n:Int):Value:=.int .i64 n
abbrev zl2:Lab:=2
abbrev zl4:Lab:=4
abbrev zl7:Lab:=7
abbrev zl8:Lab:=8
abbrev zl9:Lab:=9
abbrev Jsa:Lab:=10
abbrev Ju7:Lab:=18
abbrev Jn6:Lab:=19
abbrev Jf7:Lab:=25
abbrev Qzx:Lab:=26
abbrev zl29:Lab:=29
abbrev Jn3:Lab:=30
abbrev Jda:Lab:=31
abbrev Jb2:Lab:=32
abbrev Jpr:Lab:=35
abbrev Jb1:Lab:=36
abbrev zl37:Lab:=37
abbrev Jnv:Lab:=38
abbrev Jkg:Lab:=40
abbrev Jxy:Lab:=53
abbrev Jgi:Lab:=66
abbrev zl67:Lab:=67
abbrev Jnr:Lab:=68
abbrev Jnz:Lab:=70
abbrev Jny:Lab:=71
abbrev Jzj:Lab:=72
abbrev Jnt:Lab:=73
abbrev Jpb:Lab:=75
abbrev Jow:Lab:=76
abbrev Jwy:Lab:=78
abbrev zl80:Lab:=80
abbrev zl82:Lab:=82
abbrev zl84:Lab:=84
abbrev Jx6:Lab:=86
abbrev Juo:Lab:=91
abbrev zl95:Lab:=95
abbrev zl98:Lab:=98
abbrev zl99:Lab:=99
abbrev Qrs:Lab:=101
abbrev Jxz:Lab:=103
abbrev Qwv:Lab:=106
abbrev Qq6:Lab:=118
abbrev Qua:Lab:=121
abbrev Qya:Lab:=122
abbrev Qvz:Lab:=123
abbrev Qq9:Lab:=125
abbrev Qyn:Lab:=126
abbrev Jbc:Lab:=127
abbrev Qza:Lab:=128
abbrev Qz5:Lab:=129
abbrev Qw2:Lab:=130
abbrev Quq:Lab:=131
abbrev Qzd:Lab:=132
abbrev Qpq:Lab:=135
abbrev Qxl:Lab:=137
abbrev Qvi:Lab:=138
abbrev Qi5:Lab:=139
abbrev Qey:Lab:=140
abbrev Jbu:Lab:=141
abbrev Qw6:Lab:=142
abbrev Qx2:Lab:=144
abbrev Qrv:Lab:=153
abbrev Qy1:Lab:=161
abbrev Qzf:Lab:=167
abbrev Qrt:Lab:=170
abbrev Qo1:Lab:=171
abbrev Qms:Lab:=172
abbrev Jby:Lab:=174
abbrev Qtv:Lab:=175
abbrev Qzb:Lab:=177
abbrev Qx5:Lab:=178
abbrev Qva:Lab:=193
abbrev Qu9:Lab:=194
abbrev Qtx:Lab:=204
abbrev Qvy:Lab:=210
abbrev Qri:Lab:=211
abbrev Qp2:Lab:=212
abbrev Qp0:Lab:=214
abbrev Qxm:Lab:=257
abbrev Qz4:Lab:=258
abbrev Qqu:Lab:=261
abbrev Jaq:Lab:=263
abbrev Qvm:Lab:=265
abbrev Qwu:Lab:=266
abbrev Qt4:Lab:=268
abbrev Qxs:Lab:=269
abbrev Qub:Lab:=272
abbrev Qwd:Lab:=273
abbrev Qtq:Lab:=274
abbrev Jvk:Lab:=276
abbrev Qtw:Lab:=277
abbrev Qu4:Lab:=278
abbrev Qt9:Lab:=282
abbrev Quw:Lab:=283
abbrev Ju9:Lab:=284
abbrev Qn8:Lab:=285
abbrev zl286:Lab:=286
abbrev Qw5:Lab:=289
abbrev Jly:Lab:=291
abbrev Qwi:Lab:=305
abbrev Qt5:Lab:=316
abbrev Qu7:Lab:=334
abbrev Qun:Lab:=335
abbrev Qwl:Lab:=341
abbrev Qz7:Lab:=350
abbrev Qww:Lab:=355
abbrev Qxj:Lab:=357
abbrev Qwj:Lab:=360
abbrev Qzr:Lab:=374
abbrev Qwf:Lab:=375
abbrev Qz3:Lab:=376
abbrev Qvo:Lab:=382
abbrev Qrz:Lab:=408
abbrev Qtr:Lab:=409
abbrev Qtp:Lab:=410
abbrev Jbn:Lab:=411
abbrev Jdd:Lab:=432
abbrev Qxh:Lab:=448
abbrev Jay:Lab:=449
abbrev Qwq:Lab:=450
abbrev Jfg:Lab:=452
abbrev Jaf:Lab:=454
abbrev Qp7:Lab:=456
def z2r0:IC:=.reg [⟨some 4, none,.asg (.c (.bool false))⟩] [0,1] []
def z2r1:IC:=.reg [⟨some 5, none,.mv (.t 0)⟩,⟨some 6, none,.call zl4 [(.val,(.t 5))] true⟩,⟨some 7, none,.asg (.t 6)⟩,⟨some 8, (some (7,true)),.mv (.t 1)⟩,⟨some 9, (some (7,true)),.call zl4 [(.val,(.t 8))] true⟩,⟨some 10, (some (7,true)),.unop .not (.t 9)⟩,⟨some 11, none,.pick (.t 7) (.t 10) (.c (.bool false))⟩,⟨some 12, none,.asg (.t 11)⟩,⟨some 13, (some (12,false)),.mv (.t 0)⟩,⟨some 14, (some (12,false)),.mv (.t 1)⟩,⟨some 15, (some (12,false)),.bin .lss (.t 13) (.t 14)⟩,⟨some 16, none,.pick (.t 12) (.c (.bool true)) (.t 15)⟩,⟨some 4, none,.asg (.t 16)⟩] [4] []
def zi2:Qa1:=⟨[.t 4],[],(.seq z2r0 (.seq z2r1 .ret))⟩
def z4r0:IC:=.reg [⟨some 2, none,.asg (.c (.bool false))⟩] [0] []
def z4r1:IC:=.reg [⟨some 3, none,.mv (.t 0)⟩,⟨some 4, none,.mv (.t 0)⟩,⟨some 5, none,.bin .neq (.t 3) (.t 4)⟩,⟨some 2, none,.asg (.t 5)⟩] [2] []
def zi4:Qa1:=⟨[.t 2],[],(.seq z4r0 (.seq z4r1 .ret))⟩
def Joz:IC:=.reg [⟨some 1, none,.box (.t 0)⟩,⟨some 2, none,.alloc [(vi 0),(.slice none 0 0)]⟩,⟨some 3, none,.asg (.c (.bool false))⟩] [1,2] []
def Jsg:IC:=.reg [⟨some 10, none,.load true 2 (.t 1)⟩,⟨some 11, none,.call Qzx [(.rd,(.t 10))] true⟩,⟨some 12, none,.unop .not (.t 11)⟩] [1,2,12] []
def Jvi:IC:=.reg [⟨some 13, none,.build [(vi 0),(.slice none 0 0)] []⟩,⟨none,none,.storef 2 (.t 2) (.t 13)⟩,⟨some 3, none,.asg (.c (.bool false))⟩] [2,3] []
def Jvm:IC:=.regd [⟨some 14, none,.fadr 0 (.t 1)⟩,⟨some 15, none,.load false 1 (.t 14)⟩,⟨some 16, none,.fadr 1 (.t 1)⟩,⟨some 17, none,.load false 1 (.t 16)⟩,⟨some 18, none,.callq Qtx [(.rv,(.t 17))]⟩,⟨some 19, none,.build [(vi 0),(.slice none 0 0)] [(0,1,(.t 15)),(1,1,(.t 18))]⟩,⟨some 4, none,.alloc [(vi 0),(.slice none 0 0)]⟩,⟨none,none,.storef 2 (.t 4) (.t 19)⟩] [0,1,2,3,4,5,6,7] [2,4] []
def Jxc:IC:=.reg [⟨some 20, none,.load true 2 (.t 4)⟩,⟨some 21, none,.call Qrt [(.rd,(.t 20))] true⟩,⟨some 22, none,.len (.t 21)⟩,⟨some 23, none,.bin .neq (.t 22) (.c (vi 1))⟩] [2,4,23] []
def Juz:IC:=.reg [⟨some 24, none,.load true 2 (.t 4)⟩,⟨some 25, none,.call Qms [(.rd,(.t 24))] true⟩,⟨some 5, none,.alloc [(.slice none 0 0)]⟩,⟨none,none,.storef 1 (.t 5) (.t 25)⟩] [2,4,5] []
def Jqt:IC:=.reg [⟨some 26, none,.fadr 1 (.t 4)⟩,⟨some 27, none,.load false 1 (.t 26)⟩,⟨some 28, none,.mkfn Qrz [(.t 4)]⟩,⟨some 29, none,.call Qt4 [(.rd,(.t 27)),(.val,(.t 28))] false⟩,⟨some 6, none,.asg (.t 29)⟩] [2,4,5,6] []
def Jti:IC:=.reg [⟨some 30, none,.mv (.t 6)⟩,⟨some 31, none,.bin .lss (.t 30) (.c (vi 0))⟩] [2,4,5,6,31] []
def Jtv:IC:=.reg [⟨some 32, none,.build [(vi 0),(.slice none 0 0)] []⟩,⟨none,none,.storef 2 (.t 2) (.t 32)⟩,⟨some 3, none,.asg (.c (.bool false))⟩] [2,3] []
def Jsu:IC:=.reg [⟨some 33, none,.fadr 1 (.t 4)⟩,⟨some 34, none,.load false 1 (.t 33)⟩,⟨some 35, none,.mv (.t 6)⟩,⟨some 36, none,.iadr 2 (.t 34) (.t 35)⟩,⟨some 37, none,.load true 2 (.t 36)⟩,⟨some 7, none,.alloc [(vi 0),(vi 0)]⟩,⟨none,none,.store 2 (.t 7) (.t 37)⟩] [2,4,5,7] []
def Jkf:IC:=.reg [⟨some 38, none,.fadr 1 (.t 4)⟩,⟨some 39, none,.load false 1 (.t 38)⟩,⟨some 40, none,.mkfn Qtr [(.t 5),(.t 7)]⟩,⟨some 41, none,.call Qt4 [(.rd,(.t 39)),(.val,(.t 40))] false⟩,⟨some 8, none,.asg (.t 41)⟩] [2,4,7,8] []
def Jks:IC:=.reg [⟨some 42, none,.mv (.t 8)⟩,⟨some 43, none,.bin .lss (.t 42) (.c (vi 0))⟩] [2,4,7,8,43] []
def Jhp:IC:=.reg [⟨some 44, none,.build [(vi 0),(.slice none 0 0)] []⟩,⟨none,none,.storef 2 (.t 2) (.t 44)⟩,⟨some 3, none,.asg (.c (.bool false))⟩] [2,3] []
def Jmr:IC:=.reg [⟨some 45, none,.fadr 1 (.t 4)⟩,⟨some 46, none,.load false 1 (.t 45)⟩,⟨some 47, none,.mv (.t 8)⟩,⟨some 48, none,.iadr 2 (.t 46) (.t 47)⟩,⟨some 49, none,.load true 2 (.t 48)⟩,⟨some 9, none,.alloc [(vi 0),(vi 0)]⟩,⟨none,none,.store 2 (.t 9) (.t 49)⟩] [2,4,7,9] []
def Jhg:IC:=.reg [⟨some 51, none,.load true 2 (.t 4)⟩,⟨some 52, none,.fadr 0 (.t 7)⟩,⟨some 53, none,.load false 1 (.t 52)⟩,⟨some 54, none,.fadr 1 (.t 7)⟩,⟨some 55, none,.load false 1 (.t 54)⟩,⟨some 56, none,.fadr 0 (.t 9)⟩,⟨some 57, none,.load false 1 (.t 56)⟩,⟨some 58, none,.fadr 1 (.t 9)⟩,⟨some 59, none,.load false 1 (.t 58)⟩,⟨some 60, none,.build [(vi 0),(vi 0),(vi 0),(vi 0)] [(0,1,(.t 53)),(1,1,(.t 55)),(2,1,(.t 57)),(3,1,(.t 59))]⟩,⟨some 61, none,.call Qzf [(.rd,(.t 51)),(.val,(.t 60))] true⟩,⟨some 50, none,.asg (.t 61)⟩,⟨some 62, none,.extr (.t 50) 0⟩,⟨some 63, none,.extr (.t 50) 1⟩,⟨none,none,.storef 2 (.t 4) (.t 62)⟩] [2,4] []
def Qyx:IC:=(.seq (.seq Jxc (.cond (.t 23) .skip (.exit 0))) (.block 1 (.seq Juz (.seq Jqt (.seq (.seq Jti (.cond (.t 31) (.seq Jtv .ret) .skip)) (.seq Jsu (.seq Jkf (.seq (.seq Jks (.cond (.t 43) (.seq Jhp .ret) .skip)) (.seq Jmr Jhg)))))))))
def Jjp:IC:=.reg [⟨some 64, none,.load true 2 (.t 4)⟩,⟨none,none,.storef 2 (.t 2) (.t 64)⟩,⟨some 3, none,.asg (.c (.bool true))⟩] [2,3] []
def Qu2:Qa1:=⟨[.c 2 2 true,.t 3],[],(.seq Joz (.seq (.seq Jsg (.cond (.t 12) (.seq Jvi .ret) .skip)) (.seq Jvm (.seq (.block 0 (.loop Qyx)) (.seq Jjp .ret)))))⟩
def Jq7:IC:=.reg [⟨some 2, none,.box (.t 0)⟩,⟨some 3, none,.asg (.c (.bool false))⟩] [1,2] []
def Jsw:IC:=.reg [⟨some 5, none,.load true 2 (.t 1)⟩,⟨some 6, none,.load true 2 (.t 2)⟩,⟨some 7, none,.call Jby [(.rd,(.t 5)),(.val,(.t 6))] true⟩,⟨some 8, none,.call Qms [(.rd,(.t 7))] true⟩,⟨some 4, none,.asg (.t 8)⟩] [2,4] []
def Jsk:IC:=.reg [⟨some 9, none,.mv (.t 4)⟩,⟨some 10, none,.fadr 0 (.t 2)⟩,⟨some 11, none,.load false 1 (.t 10)⟩,⟨some 12, none,.iadr 1 (.t 9) (.t 11)⟩,⟨some 13, none,.load false 1 (.t 12)⟩,⟨some 14, none,.mv (.t 4)⟩,⟨some 15, none,.fadr 1 (.t 2)⟩,⟨some 16, none,.load false 1 (.t 15)⟩,⟨some 17, none,.iadr 1 (.t 14) (.t 16)⟩,⟨some 18, none,.load false 1 (.t 17)⟩,⟨some 19, none,.bin .eql (.t 13) (.t 18)⟩,⟨some 3, none,.asg (.t 19)⟩] [3] []
def Qz2:Qa1:=⟨[.t 3],[],(.seq Jq7 (.seq Jsw (.seq Jsk .ret)))⟩
def Jq9:IC:=.reg [⟨some 3, none,.box (.t 0)⟩,⟨some 4, none,.asg (.c (.bool false))⟩] [1,2,3] []
def Jvw:IC:=.reg [⟨some 5, none,.load false 1 (.t 1)⟩,⟨some 6, none,.fadr 0 (.t 3)⟩,⟨some 7, none,.load false 1 (.t 6)⟩,⟨some 8, none,.iadr 1 (.t 5) (.t 7)⟩,⟨some 9, none,.load false 1 (.t 8)⟩,⟨some 10, none,.load false 1 (.t 1)⟩,⟨some 11, none,.fadr 0 (.t 2)⟩,⟨some 12, none,.load false 1 (.t 11)⟩,⟨some 13, none,.iadr 1 (.t 10) (.t 12)⟩,⟨some 14, none,.load false 1 (.t 13)⟩,⟨some 15, none,.bin .neq (.t 9) (.t 14)⟩,⟨some 4, none,.asg (.t 15)⟩] [4] []
def Qw7:Qa1:=⟨[.t 4],[],(.seq Jq9 (.seq Jvw .ret))⟩
def Jyb:IC:=.reg [⟨some 1, none,.box (.t 0)⟩,⟨some 2, none,.asg (.c (.slice none 0 0))⟩] [1] []
def Jxo:IC:=.reg [⟨some 3, none,.load true 2 (.t 1)⟩,⟨some 4, none,.call Qzx [(.rd,(.t 3))] true⟩,⟨some 5, none,.unop .not (.t 4)⟩] [1,5] []
def Jpf:IC:=.reg [⟨some 2, none,.asg (.c (.slice none 0 0))⟩] [2] []
def Jwo:IC:=.reg [⟨some 6, none,.load true 2 (.t 1)⟩,⟨some 7, none,.call zl9 [(.rd,(.t 6))] true⟩,⟨some 2, none,.asg (.t 7)⟩] [2] []
def Jdb:Qa1:=⟨[.t 2],[],(.seq Jyb (.seq (.seq Jxo (.cond (.t 5) (.seq Jpf .ret) .skip)) (.seq Jwo .ret)))⟩
def z7r0:IC:=.reg [⟨some 2, none,.asg (.c (vi 0))⟩] [0] []
def z7r1:IC:=.reg [⟨some 3, none,.mv (.t 0)⟩,⟨some 4, none,.call Ju7 [(.rd,(.t 3))] true⟩,⟨some 5, none,.call Jnt [(.rd,(.t 4)),(.val,(.f zl8))] false⟩,⟨some 6, none,.bin .add (.t 5) (.c (vi 1))⟩,⟨some 2, none,.asg (.t 6)⟩] [2] []
def zi7:Qa1:=⟨[.t 2],[],(.seq z7r0 (.seq z7r1 .ret))⟩
def z8r0:IC:=.reg [⟨some 2, none,.asg (.c (.bool false))⟩] [0] []
def z8r1:IC:=.reg [⟨some 3, none,.mv (.t 0)⟩,⟨some 4, none,.bin .lss (.t 3) (.c (vi 0))⟩,⟨some 2, none,.asg (.t 4)⟩] [2] []
def zi8:Qa1:=⟨[.t 2],[],(.seq z8r0 (.seq z8r1 .ret))⟩
def z167r0:IC:=.reg [⟨some 2, none,.box (.t 0)⟩,⟨some 3, none,.box (.t 1)⟩,⟨some 4, none,.alloc [(vi 0),(.slice none 0 0)]⟩,⟨some 5, none,.asg (.c (.bool false))⟩] [2,3,4] []
def z167r1:IC:=.reg [⟨some 8, none,.load true 4 (.t 3)⟩,⟨some 9, none,.call Jbn [(.val,(.t 8))] true⟩,⟨some 10, none,.unop .not (.t 9)⟩,⟨some 11, none,.asg (.t 10)⟩,⟨some 12, (some (11,false)),.load true 2 (.t 2)⟩,⟨some 13, (some (11,false)),.fadr 0 (.t 3)⟩,⟨some 14, (some (11,false)),.load false 1 (.t 13)⟩,⟨some 15, (some (11,false)),.fadr 1 (.t 3)⟩,⟨some 16, (some (11,false)),.load false 1 (.t 15)⟩,⟨some 17, (some (11,false)),.call Qo1 [(.rd,(.t 12)),(.val,(.t 14)),(.val,(.t 16))] true⟩,⟨some 18, (some (11,false)),.unop .not (.t 17)⟩,⟨some 19, none,.pick (.t 11) (.c (.bool true)) (.t 18)⟩,⟨some 20, none,.asg (.t 19)⟩,⟨some 21, (some (20,false)),.load true 2 (.t 2)⟩,⟨some 22, (some (20,false)),.fadr 2 (.t 3)⟩,⟨some 23, (some (20,false)),.load false 1 (.t 22)⟩,⟨some 24, (some (20,false)),.fadr 3 (.t 3)⟩,⟨some 25, (some (20,false)),.load false 1 (.t 24)⟩,
    ⟨some 26, (some (20,false)),.call Qo1 [(.rd,(.t 21)),(.val,(.t 23)),(.val,(.t 25))] true⟩,⟨some 27, (some (20,false)),.unop .not (.t 26)⟩,⟨some 28, none,.pick (.t 20) (.c (.bool true)) (.t 27)⟩,⟨some 29, none,.asg (.t 28)⟩,⟨some 30, (some (29,false)),.load true 2 (.t 2)⟩,⟨some 31, (some (29,false)),.fadr 0 (.t 3)⟩,⟨some 32, (some (29,false)),.load false 1 (.t 31)⟩,⟨some 33, (some (29,false)),.fadr 2 (.t 3)⟩,⟨some 34, (some (29,false)),.load false 1 (.t 33)⟩,⟨some 35, (some (29,false)),.call Qo1 [(.rd,(.t 30)),(.val,(.t 32)),(.val,(.t 34))] true⟩,⟨some 36, none,.pick (.t 29) (.c (.bool true)) (.t 35)⟩,⟨some 37, none,.asg (.t 36)⟩,⟨some 38, (some (37,false)),.load true 2 (.t 2)⟩,⟨some 39, (some (37,false)),.fadr 1 (.t 3)⟩,⟨some 40, (some (37,false)),.load false 1 (.t 39)⟩,⟨some 41, (some (37,false)),.fadr 3 (.t 3)⟩,⟨some 42, (some (37,false)),.load false 1 (.t 41)⟩,
    ⟨some 43, (some (37,false)),.call Qo1 [(.rd,(.t 38)),(.val,(.t 40)),(.val,(.t 42))] true⟩,⟨some 44, none,.pick (.t 37) (.c (.bool true)) (.t 43)⟩] [2,3,4,44] []
def Jo8:IC:=.reg [⟨some 45, none,.build [(vi 0),(.slice none 0 0)] []⟩,⟨none,none,.store 2 (.t 4) (.t 45)⟩,⟨some 5, none,.asg (.c (.bool false))⟩] [4,5] []
def z167r3:IC:=.reg [⟨some 46, none,.fadr 1 (.t 2)⟩,⟨some 47, none,.load false 1 (.t 46)⟩,⟨some 48, none,.call Qqu [(.rd,(.t 47))] true⟩,⟨some 49, none,.mkfn Qtp [(.t 3)]⟩,⟨some 50, none,.call Qvm [(.tk,(.t 48)),(.val,(.t 49))] false⟩,⟨some 6, none,.asg (.t 50)⟩] [2,3,4,6] []
def Jzb:IC:=.regd [⟨some 51, none,.fadr 0 (.t 2)⟩,⟨some 52, none,.load false 1 (.t 51)⟩,⟨some 53, none,.mv (.t 6)⟩,⟨some 54, none,.fadr 0 (.t 3)⟩,⟨some 55, none,.load false 1 (.t 54)⟩,⟨some 56, none,.fadr 2 (.t 3)⟩,⟨some 57, none,.load false 1 (.t 56)⟩,⟨some 58, none,.call Jb1 [(.val,(.t 55)),(.val,(.t 57))] true⟩,⟨some 59, none,.fadr 1 (.t 3)⟩,⟨some 60, none,.load false 1 (.t 59)⟩,⟨some 61, none,.fadr 3 (.t 3)⟩,⟨some 62, none,.load false 1 (.t 61)⟩,⟨some 63, none,.call Jb1 [(.val,(.t 60)),(.val,(.t 62))] true⟩,⟨some 64, none,.bsl 2 [(vi 0),(vi 0)] 2 [(0,(.t 58)),(1,(.t 63))]⟩,⟨some 65, none,.app 2 (.t 53) (.t 64)⟩,⟨some 66, none,.callq Qp0 [(.val,(.t 52)),(.rv,(.t 65))]⟩,⟨some 7, none,.alloc [(vi 0),(.slice none 0 0)]⟩,
    ⟨none,none,.store 2 (.t 7) (.t 66)⟩] [0,1,2,3,4,5,6,7,8,9,10,11,12,13,14,15,16,17] [4,7] [[0,1,3,4,5,6,7,8,9,10,11,12,13,2,14,15,16,17],[0,2,3,4,5,6,7,8,9,10,11,12,13,1,14,15,16,17],[0,2,3,4,5,6,7,8,9,10,11,12,13,14,1,15,16,17],[0,3,4,5,6,7,8,9,10,11,12,13,1,2,14,15,16,17],[0,3,4,5,6,7,8,9,10,11,12,13,2,14,1,15,16,17],[2,3,4,5,6,7,8,9,10,11,12,13,0,1,14,15,16,17],[2,3,4,5,6,7,8,9,10,11,12,13,0,14,1,15,16,17],[2,3,4,5,6,7,8,9,10,11,12,13,14,0,1,15,16,17],[3,4,5,6,7,8,9,10,11,12,13,0,1,2,14,15,16,17],[3,4,5,6,7,8,9,10,11,12,13,0,2,14,1,15,16,17],[3,4,5,6,7,8,9,10,11,12,13,2,14,0,1,15,16,17]]
def Jth:IC:=.reg [⟨some 67, none,.load true 2 (.t 7)⟩,⟨some 68, none,.load true 2 (.t 7)⟩,⟨some 69, none,.call Qzx [(.rd,(.t 68))] true⟩,⟨none,none,.store 2 (.t 4) (.t 67)⟩,⟨some 5, none,.asg (.t 69)⟩] [4,5] [[1,2,0,3,4]]
def Qna:Qa1:=⟨[.c 4 2 true,.t 5],[],(.seq z167r0 (.seq (.seq z167r1 (.cond (.t 44) (.seq Jo8 .ret) .skip)) (.seq z167r3 (.seq Jzb (.seq Jth .ret)))))⟩
def z410r0:IC:=.reg [⟨some 2, none,.box (.t 0)⟩,⟨some 3, none,.asg (.c (.bool false))⟩] [1,2] []
def z410r1:IC:=.reg [⟨some 4, none,.load true 2 (.t 2)⟩,⟨some 5, none,.fadr 0 (.t 1)⟩,⟨some 6, none,.load false 1 (.t 5)⟩,⟨some 7, none,.fadr 1 (.t 1)⟩,⟨some 8, none,.load false 1 (.t 7)⟩,⟨some 9, none,.call Jb1 [(.val,(.t 6)),(.val,(.t 8))] true⟩,⟨some 10, none,.eqa false 2 (.t 4) (.t 9)⟩,⟨some 11, none,.asg (.t 10)⟩,⟨some 12, (some (11,false)),.load true 2 (.t 2)⟩,⟨some 13, (some (11,false)),.fadr 2 (.t 1)⟩,⟨some 14, (some (11,false)),.load false 1 (.t 13)⟩,⟨some 15, (some (11,false)),.fadr 3 (.t 1)⟩,⟨some 16, (some (11,false)),.load false 1 (.t 15)⟩,⟨some 17, (some (11,false)),.call Jb1 [(.val,(.t 14)),(.val,(.t 16))] true⟩,⟨some 18, (some (11,false)),.eqa false 2 (.t 12) (.t 17)⟩,⟨some 19, none,.pick (.t 11) (.c (.bool true)) (.t 18)⟩,
    ⟨some 3, none,.asg (.t 19)⟩] [3] [[0,1,2,3,4,5,6,7,9,10,11,12,13,8,14,15,16],[1,2,3,4,5,0,6,7,8,9,10,11,12,13,14,15,16],[1,2,3,4,5,0,6,7,9,10,11,12,13,8,14,15,16]]
def Qln:Qa1:=⟨[.t 3],[],(.seq z410r0 (.seq z410r1 .ret))⟩
def Juw:IC:=.reg [⟨some 1, none,.box (.t 0)⟩,⟨some 2, none,.asg (.c (.slice none 0 0))⟩] [1] []
def Jsq:IC:=.reg [⟨some 3, none,.asg (.c (.slice none 0 0))⟩] [1,3] []
def Jql:IC:=.reg [⟨some 9, none,.load true 2 (.t 1)⟩,⟨some 10, none,.call Qms [(.rd,(.t 9))] true⟩,⟨some 4, none,.asg (.t 10)⟩] [1,3,4] []
def Jzh:IC:=.reg [⟨some 11, none,.fadr 0 (.t 1)⟩,⟨some 12, none,.load false 1 (.t 11)⟩,⟨some 13, none,.mv (.c (vi 0))⟩] [3,4,12,13] []
def Jwn:IC:=.reg [⟨some 14, none,.bin .lss (.t 13) (.t 12)⟩] [3,4,12,13,14] []
def Jo4:IC:=.reg [⟨some 15, none,.asg (.t 13)⟩,⟨some 5, none,.asg (.t 15)⟩] [3,4,5,12,13] []
def z170r6:IC:=.reg [⟨some 16, none,.mv (.t 4)⟩,⟨some 17, none,.mv (.t 5)⟩,⟨some 18, none,.iadr 1 (.t 16) (.t 17)⟩,⟨some 19, none,.load false 1 (.t 18)⟩,⟨some 20, none,.mv (.t 5)⟩,⟨some 21, none,.bin .neq (.t 19) (.t 20)⟩] [3,4,5,12,13,21] []
def Jwi:IC:=.reg [⟨some 6, none,.asg (.c (.slice none 0 0))⟩] [3,4,5,6,12,13] []
def z170r8:IC:=.reg [⟨some 22, none,.mv (.t 4)⟩,⟨some 23, none,.len (.t 22)⟩,⟨some 24, none,.mv (.c (vi 0))⟩] [3,4,5,6,12,13,22,23,24] []
def Jpk:IC:=.reg [⟨some 25, none,.bin .lss (.t 24) (.t 23)⟩] [3,4,5,6,12,13,22,23,24,25] []
def Jkl:IC:=.reg [⟨some 26, none,.asg (.t 24)⟩,⟨some 27, none,.iadr 1 (.t 22) (.t 24)⟩,⟨some 28, none,.load false 1 (.t 27)⟩,⟨some 7, none,.asg (.t 26)⟩,⟨some 8, none,.asg (.t 28)⟩] [3,4,5,6,7,8,12,13,22,23,24] []
def Jio:IC:=.reg [⟨some 29, none,.mv (.t 8)⟩,⟨some 30, none,.mv (.t 5)⟩,⟨some 31, none,.bin .eql (.t 29) (.t 30)⟩] [3,4,5,6,7,12,13,22,23,24,31] []
def Jlm:IC:=.reg [⟨some 32, none,.mv (.t 6)⟩,⟨some 33, none,.mv (.t 7)⟩,⟨some 34, none,.bsl 1 [(vi 0)] 1 [(0,(.t 33))]⟩,⟨some 35, none,.app 1 (.t 32) (.t 34)⟩,⟨some 6, none,.asg (.t 35)⟩] [3,4,5,6,12,13,22,23,24] []
def Jji:IC:=.reg [⟨some 36, none,.bin .add (.t 24) (.c (vi 1))⟩,⟨some 24, none,.asg (.t 36)⟩] [3,4,5,6,12,13,22,23,24] []
def Qnr:IC:=(.seq Jpk (.seq (.cond (.t 25) .skip (.exit 2)) (.seq (.block 3 (.seq Jkl (.seq Jio (.cond (.t 31) Jlm .skip)))) Jji)))
def Ji1:IC:=.reg [⟨some 37, none,.mv (.t 3)⟩,⟨some 38, none,.mv (.t 6)⟩,⟨some 39, none,.call Jnz [(.tk,(.t 38))] true⟩,⟨some 40, none,.bsl 1 [(.slice none 0 0)] 1 [(0,(.t 39))]⟩,⟨some 41, none,.app 1 (.t 37) (.t 40)⟩,⟨some 3, none,.asg (.t 41)⟩] [3,4,12,13] []
def Jnb:IC:=.reg [⟨some 42, none,.bin .add (.t 13) (.c (vi 1))⟩,⟨some 13, none,.asg (.t 42)⟩] [3,4,12,13] []
def Qzz:IC:=(.seq Jwn (.seq (.cond (.t 14) .skip (.exit 0)) (.seq (.block 1 (.seq Jo4 (.seq (.seq z170r6 (.cond (.t 21) (.exit 1) .skip)) (.seq Jwi (.seq (.seq z170r8 (.block 2 (.loop Qnr))) Ji1))))) Jnb)))
def Jia:IC:=.reg [⟨some 43, none,.mv (.t 3)⟩,⟨some 44, none,.call Qxm [(.tk,(.t 43))] true⟩,⟨some 2, none,.asg (.t 44)⟩] [2] []
def Qup:Qa1:=⟨[.t 2],[],(.seq Juw (.seq Jsq (.seq Jql (.seq (.seq Jzh (.block 0 (.loop Qzz))) (.seq Jia .ret)))))⟩
def z9r0:IC:=.reg [⟨some 1, none,.box (.t 0)⟩,⟨some 2, none,.asg (.c (.slice none 0 0))⟩] [1] []
def z9r1:IC:=.reg [⟨some 6, none,.fadr 0 (.t 1)⟩,⟨some 7, none,.load false 1 (.t 6)⟩,⟨some 8, none,.mksl 1 [(vi 0)] (.t 7) (.t 7)⟩,⟨some 3, none,.asg (.t 8)⟩] [1,3] []
def z9r2:IC:=.reg [⟨some 9, none,.fadr 1 (.t 1)⟩,⟨some 10, none,.load false 1 (.t 9)⟩,⟨some 11, none,.len (.t 10)⟩,⟨some 12, none,.mv (.c (vi 0))⟩] [1,3,10,11,12] []
def z9r3:IC:=.reg [⟨some 13, none,.bin .lss (.t 12) (.t 11)⟩] [1,3,10,11,12,13] []
def z9r4:IC:=.reg [⟨some 14, none,.iadr 2 (.t 10) (.t 12)⟩,⟨some 15, none,.load true 2 (.t 14)⟩,⟨some 5, none,.alloc [(vi 0),(vi 0)]⟩,⟨none,none,.store 2 (.t 5) (.t 15)⟩] [1,3,5,10,11,12] []
def z9r5:IC:=.reg [⟨some 16, none,.mv (.t 3)⟩,⟨some 17, none,.fadr 0 (.t 5)⟩,⟨some 18, none,.load false 1 (.t 17)⟩,⟨some 19, none,.iadr 1 (.t 16) (.t 18)⟩,⟨some 20, none,.load false 1 (.t 19)⟩,⟨some 21, none,.bin .add (.t 20) (.c (vi 1))⟩,⟨some 22, none,.iadr 1 (.t 16) (.t 18)⟩,⟨none,none,.store 1 (.t 22) (.t 21)⟩] [1,3,5,10,11,12] []
def z9r6:IC:=.reg [⟨some 23, none,.mv (.t 3)⟩,⟨some 24, none,.fadr 1 (.t 5)⟩,⟨some 25, none,.load false 1 (.t 24)⟩,⟨some 26, none,.iadr 1 (.t 23) (.t 25)⟩,⟨some 27, none,.load false 1 (.t 26)⟩,⟨some 28, none,.bin .add (.t 27) (.c (vi 1))⟩,⟨some 29, none,.iadr 1 (.t 23) (.t 25)⟩,⟨none,none,.store 1 (.t 29) (.t 28)⟩] [1,3,10,11,12] []
def z9r7:IC:=.reg [⟨some 30, none,.bin .add (.t 12) (.c (vi 1))⟩,⟨some 12, none,.asg (.t 30)⟩] [1,3,10,11,12] []
def z9l8:IC:=(.seq z9r3 (.seq (.cond (.t 13) .skip (.exit 0)) (.seq (.block 1 (.seq z9r4 (.seq z9r5 z9r6))) z9r7)))
def z9r9:IC:=.reg [⟨some 31, none,.mv (.t 3)⟩,⟨some 2, none,.asgm (.t 31)⟩] [2,3] []
def zi9:Qa1:=⟨[.t 2],[],(.seq z9r0 (.seq z9r1 (.seq (.seq z9r2 (.block 0 (.loop z9l8))) (.seq z9r9 .ret))))⟩
def z171r0:IC:=.reg [⟨some 3, none,.box (.t 0)⟩,⟨some 6, none,.asg (.c (.bool false))⟩] [1,2,3] []
def Jp1:IC:=.reg [⟨some 7, none,.fadr 1 (.t 3)⟩,⟨some 8, none,.load false 1 (.t 7)⟩,⟨some 9, none,.mv (.t 1)⟩,⟨some 10, none,.mv (.t 2)⟩,⟨some 11, none,.call Jb1 [(.val,(.t 9)),(.val,(.t 10))] true⟩,⟨some 12, none,.call Jaq [(.rd,(.t 8)),(.val,(.t 11))] true⟩,⟨some 6, none,.asg (.t 12)⟩] [6] [[0,2,3,4,1,5,6]]
def Jel:Qa1:=⟨[.t 6],[],(.seq z171r0 (.seq Jp1 .ret))⟩
def z172r0:IC:=.reg [⟨some 1, none,.box (.t 0)⟩,⟨some 2, none,.asg (.c (.slice none 0 0))⟩] [1] []
def z172r1:IC:=.reg [⟨some 7, none,.fadr 0 (.t 1)⟩,⟨some 8, none,.load false 1 (.t 7)⟩,⟨some 9, none,.call Qp2 [(.val,(.t 8)),(.val,(.c (vi (-1))))] true⟩,⟨some 3, none,.asg (.t 9)⟩] [1,3] []
def Jwu:IC:=.reg [⟨some 10, none,.fadr 0 (.t 1)⟩,⟨some 11, none,.load false 1 (.t 10)⟩,⟨some 12, none,.mv (.c (vi 0))⟩] [1,3,11,12] []
def Jo1:IC:=.reg [⟨some 13, none,.bin .lss (.t 12) (.t 11)⟩] [1,3,11,12,13] []
def Jsr:IC:=.reg [⟨some 14, none,.fadr 1 (.t 1)⟩,⟨some 15, none,.load false 1 (.t 14)⟩,⟨some 16, none,.len (.t 15)⟩,⟨some 17, none,.mv (.c (vi 0))⟩] [1,3,11,12,15,16,17] []
def Jzq:IC:=.reg [⟨some 18, none,.bin .lss (.t 17) (.t 16)⟩] [1,3,11,12,15,16,17,18] []
def Jrw:IC:=.reg [⟨some 19, none,.iadr 2 (.t 15) (.t 17)⟩,⟨some 20, none,.load true 2 (.t 19)⟩,⟨some 5, none,.alloc [(vi 0),(vi 0)]⟩,⟨none,none,.store 2 (.t 5) (.t 20)⟩] [1,3,5,11,12,15,16,17] []
def Jsd:IC:=.reg [⟨some 21, none,.mv (.t 3)⟩,⟨some 22, none,.fadr 0 (.t 5)⟩,⟨some 23, none,.load false 1 (.t 22)⟩,⟨some 24, none,.iadr 1 (.t 21) (.t 23)⟩,⟨some 25, none,.load false 1 (.t 24)⟩,⟨some 26, none,.mv (.t 3)⟩,⟨some 27, none,.fadr 1 (.t 5)⟩,⟨some 28, none,.load false 1 (.t 27)⟩,⟨some 29, none,.iadr 1 (.t 26) (.t 28)⟩,⟨some 30, none,.load false 1 (.t 29)⟩,⟨some 31, none,.minmax true (.t 25) (.t 30)⟩,⟨some 6, none,.asg (.t 31)⟩] [1,3,5,6,11,12,15,16,17] []
def Jta:IC:=.reg [⟨some 32, none,.mv (.t 3)⟩,⟨some 33, none,.fadr 0 (.t 5)⟩,⟨some 34, none,.load false 1 (.t 33)⟩,⟨some 35, none,.mv (.t 3)⟩,⟨some 36, none,.fadr 1 (.t 5)⟩,⟨some 37, none,.load false 1 (.t 36)⟩,⟨some 38, none,.mv (.t 6)⟩,⟨some 39, none,.mv (.t 6)⟩,⟨some 40, none,.iadr 1 (.t 32) (.t 34)⟩,⟨none,none,.store 1 (.t 40) (.t 38)⟩,⟨some 41, none,.iadr 1 (.t 35) (.t 37)⟩,⟨none,none,.store 1 (.t 41) (.t 39)⟩] [1,3,11,12,15,16,17] [[0,1,2,3,4,6,7,8,9,5,10,11]]
def Jzo:IC:=.reg [⟨some 42, none,.bin .add (.t 17) (.c (vi 1))⟩,⟨some 17, none,.asg (.t 42)⟩] [1,3,11,12,15,16,17] []
def Qxx:IC:=(.seq Jzq (.seq (.cond (.t 18) .skip (.exit 2)) (.seq (.block 3 (.seq Jrw (.seq Jsd Jta))) Jzo)))
def Jmu:IC:=.reg [⟨some 43, none,.bin .add (.t 12) (.c (vi 1))⟩,⟨some 12, none,.asg (.t 43)⟩] [1,3,11,12] []
def Qwh:IC:=(.seq Jo1 (.seq (.cond (.t 13) .skip (.exit 0)) (.seq (.block 1 (.seq Jsr (.block 2 (.loop Qxx)))) Jmu)))
def Jhx:IC:=.reg [⟨some 44, none,.mv (.t 3)⟩,⟨some 2, none,.asgm (.t 44)⟩] [2,3] []
def Quy:Qa1:=⟨[.t 2],[],(.seq z172r0 (.seq z172r1 (.seq (.seq Jwu (.block 0 (.loop Qwh))) (.seq Jhx .ret))))⟩
def Jri:IC:=.reg [⟨some 2, none,.box (.t 0)⟩,⟨some 3, none,.box (.t 1)⟩,⟨some 4, none,.alloc [(vi 0),(.slice none 0 0)]⟩] [2,3,4] []
def Jwq:IC:=.reg [⟨some 5, none,.fadr 0 (.t 2)⟩,⟨some 6, none,.load false 1 (.t 5)⟩,⟨some 7, none,.fadr 1 (.t 2)⟩,⟨some 8, none,.load false 1 (.t 7)⟩,⟨some 9, none,.call Qqu [(.rd,(.t 8))] true⟩,⟨some 10, none,.mkfn Qtv [(.t 3)]⟩,⟨some 11, none,.call Qvm [(.tk,(.t 9)),(.val,(.t 10))] false⟩,⟨some 12, none,.build [(vi 0),(.slice none 0 0)] [(0,1,(.t 6)),(1,1,(.t 11))]⟩,⟨none,none,.store 2 (.t 4) (.t 12)⟩] [4] [[0,2,3,4,1,5,6,7,8],[0,2,3,4,5,6,1,7,8]]
def Jc4:Qa1:=⟨[.c 4 2 true],[],(.seq Jri (.seq Jwq .ret))⟩
def Jpc:IC:=.reg [⟨some 2, none,.box (.t 0)⟩,⟨some 3, none,.asg (.c (.bool false))⟩] [1,2] []
def z175r1:IC:=.reg [⟨some 4, none,.load true 2 (.t 2)⟩,⟨some 5, none,.load true 2 (.t 1)⟩,⟨some 6, none,.eqa false 2 (.t 4) (.t 5)⟩,⟨some 3, none,.asg (.t 6)⟩] [3] []
def Qt3:Qa1:=⟨[.t 3],[],(.seq Jpc (.seq z175r1 .ret))⟩
def Jsb:IC:=.reg [⟨some 2, none,.asg (.c (.bool false))⟩] [0] []
def Jsz:IC:=.reg [⟨some 4, none,.mv (.t 0)⟩,⟨some 5, none,.len (.t 4)⟩,⟨some 3, none,.asg (.t 5)⟩] [0,3] []
def z177r2:IC:=.reg [⟨some 6, none,.mv (.t 0)⟩,⟨some 7, none,.call Jsa [(.rd,(.t 6))] true⟩,⟨some 8, none,.asg (.t 7)⟩,⟨some 9, (some (8,true)),.mv (.t 3)⟩,⟨some 10, (some (8,true)),.bin .gtr (.t 9) (.c (vi 0))⟩,⟨some 11, none,.pick (.t 8) (.t 10) (.c (.bool false))⟩,⟨some 12, none,.asg (.t 11)⟩,⟨some 13, (some (12,true)),.mv (.t 3)⟩,⟨some 14, (some (12,true)),.bin .eql (.t 13) (.c (vi 1))⟩,⟨some 15, (some (12,true)),.asg (.t 14)⟩,⟨some 16, (some (15,false)),.mv (.t 0)⟩,⟨some 17, (some (15,false)),.call Jpb [(.rd,(.t 16))] true⟩,⟨some 18, (some (15,false)),.bin .gtr (.t 17) (.c (vi 0))⟩,⟨some 19, (some (12,true)),.pick (.t 15) (.c (.bool true)) (.t 18)⟩,⟨some 20, none,.pick (.t 12) (.t 19) (.c (.bool false))⟩,⟨some 21, none,.asg (.t 20)⟩,⟨some 22, (some (21,true)),.mv (.t 0)⟩,⟨some 23, (some (21,true)),.call Jkg [(.rd,(.t 22))] true⟩,⟨some 24, (some (21,true)),.mv (.t 3)⟩,
    ⟨some 25, (some (21,true)),.bin .mul (.c (vi 2)) (.t 24)⟩,⟨some 26, (some (21,true)),.bin .sub (.t 25) (.c (vi 2))⟩,⟨some 27, (some (21,true)),.bin .geq (.t 23) (.t 26)⟩,⟨some 28, none,.pick (.t 21) (.t 27) (.c (.bool false))⟩,⟨some 2, none,.asg (.t 28)⟩] [2] []
def Qpe:Qa1:=⟨[.t 2],[],(.seq Jsb (.seq Jsz (.seq z177r2 .ret)))⟩
def Jrs:IC:=.reg [⟨some 1, none,.box (.t 0)⟩,⟨some 2, none,.asg (.c (.bool false))⟩] [1] []
def Jts:IC:=.reg [⟨some 3, none,.load true 2 (.t 1)⟩,⟨some 4, none,.call Qzx [(.rd,(.t 3))] true⟩,⟨some 5, none,.asg (.t 4)⟩,⟨some 6, (some (5,true)),.load true 2 (.t 1)⟩,⟨some 7, (some (5,true)),.call Qrt [(.rd,(.t 6))] true⟩,⟨some 8, (some (5,true)),.len (.t 7)⟩,⟨some 9, (some (5,true)),.bin .eql (.t 8) (.c (vi 1))⟩,⟨some 10, none,.pick (.t 5) (.t 9) (.c (.bool false))⟩,⟨some 2, none,.asg (.t 10)⟩] [2] []
def Qvg:Qa1:=⟨[.t 2],[],(.seq Jrs (.seq Jts .ret))⟩
def z10r0:IC:=.reg [⟨some 2, none,.asg (.c (.bool false))⟩] [0] []
def z10r1:IC:=.reg [⟨some 3, none,.mv (.t 0)⟩,⟨some 4, none,.call Jf7 [(.rd,(.t 3))] true⟩,⟨some 5, none,.asg (.t 4)⟩,⟨some 6, (some (5,true)),.mv (.t 0)⟩,⟨some 7, (some (5,true)),.call Jkg [(.rd,(.t 6))] true⟩,⟨some 8, (some (5,true)),.bin .rem (.t 7) (.c (vi 2))⟩,⟨some 9, (some (5,true)),.bin .eql (.t 8) (.c (vi 0))⟩,⟨some 10, none,.pick (.t 5) (.t 9) (.c (.bool false))⟩,⟨some 11, none,.asg (.t 10)⟩,⟨some 12, (some (11,true)),.mv (.t 0)⟩,⟨some 13, (some (11,true)),.call zl7 [(.rd,(.t 12))] true⟩,⟨some 14, (some (11,true)),.bin .eql (.t 13) (.c (vi 0))⟩,⟨some 15, none,.pick (.t 11) (.t 14) (.c (.bool false))⟩,⟨some 2, none,.asg (.t 15)⟩] [2] []
def Jnw:Qa1:=⟨[.t 2],[],(.seq z10r0 (.seq z10r1 .ret))⟩
def Jve:IC:=.reg [⟨some 2, none,.alloc [(vi 0),(.slice none 0 0)]⟩,⟨some 3, none,.asg (.c (.bool false))⟩] [0,2] []
def z193r1:IC:=.reg [⟨some 10, none,.mv (.t 0)⟩,⟨some 11, none,.call Jf7 [(.rd,(.t 10))] true⟩,⟨some 12, none,.unop .not (.t 11)⟩] [0,2,12] []
def Jzi:IC:=.reg [⟨some 13, none,.build [(vi 0),(.slice none 0 0)] []⟩,⟨none,none,.store 2 (.t 2) (.t 13)⟩,⟨some 3, none,.asg (.c (.bool false))⟩] [2,3] []
def Jw3:IC:=.reg [⟨some 14, none,.mv (.t 0)⟩,⟨some 15, none,.call Jda [(.rd,(.t 14))] true⟩,⟨some 16, none,.mv (.t 0)⟩,⟨some 17, none,.len (.t 16)⟩,⟨some 18, none,.call Qp2 [(.val,(.t 17)),(.val,(.c (vi (-1))))] true⟩,⟨some 4, none,.asg (.t 15)⟩,⟨some 5, none,.asg (.t 18)⟩] [0,2,4,5] []
def Jp8:IC:=.reg [⟨some 6, none,.asg (.c (.slice none 0 0))⟩] [0,2,4,5,6] []
def Jwp:IC:=.reg [⟨some 19, none,.mv (.t 5)⟩,⟨some 20, none,.len (.t 19)⟩,⟨some 21, none,.bin .gtr (.t 20) (.c (vi 0))⟩] [0,2,4,5,6,21] []
def Jxh:IC:=.reg [⟨some 22, none,.mv (.t 4)⟩,⟨some 23, none,.mv (.t 5)⟩,⟨some 24, none,.call Qvy [(.rd,(.t 22)),(.rd,(.t 23)),(.val,(.c (vi 1)))] true⟩,⟨some 25, none,.iadr 1 (.t 24) (.c (vi 0))⟩,⟨some 26, none,.load false 1 (.t 25)⟩,⟨some 7, none,.alloc [(vi 0)]⟩,⟨none,none,.store 1 (.t 7) (.t 26)⟩] [0,2,4,5,6,7] []
def Jz8:IC:=.reg [⟨some 27, none,.mv (.t 5)⟩,⟨some 28, none,.mkfn Qu9 [(.t 7)]⟩,⟨some 29, none,.call Qwu [(.tk,(.t 27)),(.val,(.t 28))] false⟩,⟨some 5, none,.asg (.t 29)⟩] [0,2,4,5,6,7] []
def Jqi:IC:=.reg [⟨some 30, none,.mv (.t 4)⟩,⟨some 31, none,.load false 1 (.t 7)⟩,⟨some 32, none,.iadr 1 (.t 30) (.t 31)⟩,⟨some 33, none,.load false 1 (.t 32)⟩,⟨some 34, none,.mv (.t 5)⟩,⟨some 35, none,.len (.t 34)⟩,⟨some 36, none,.bin .gtr (.t 33) (.t 35)⟩] [0,2,4,5,6,7,36] []
def Jyi:IC:=.reg [⟨some 37, none,.build [(vi 0),(.slice none 0 0)] []⟩,⟨none,none,.store 2 (.t 2) (.t 37)⟩,⟨some 3, none,.asg (.c (.bool false))⟩] [2,3] []
def Jk6:IC:=.reg [⟨some 38, none,.mv (.t 4)⟩,⟨some 39, none,.mv (.t 5)⟩,⟨some 40, none,.mv (.t 4)⟩,⟨some 41, none,.load false 1 (.t 7)⟩,⟨some 42, none,.iadr 1 (.t 40) (.t 41)⟩,⟨some 43, none,.load false 1 (.t 42)⟩,⟨some 44, none,.call Qvy [(.rd,(.t 38)),(.rd,(.t 39)),(.val,(.t 43))] true⟩,⟨some 45, none,.len (.t 44)⟩,⟨some 46, none,.mv (.c (vi 0))⟩] [0,2,4,5,6,7,44,45,46] []
def Jlc:IC:=.reg [⟨some 47, none,.bin .lss (.t 46) (.t 45)⟩] [0,2,4,5,6,7,44,45,46,47] []
def Jlg:IC:=.reg [⟨some 48, none,.iadr 1 (.t 44) (.t 46)⟩,⟨some 49, none,.load false 1 (.t 48)⟩,⟨some 9, none,.asg (.t 49)⟩] [0,2,4,5,6,7,9,44,45,46] []
def Jmi:IC:=.reg [⟨some 50, none,.mv (.t 4)⟩,⟨some 51, none,.mv (.t 9)⟩,⟨some 52, none,.iadr 1 (.t 50) (.t 51)⟩,⟨some 53, none,.load false 1 (.t 52)⟩,⟨some 54, none,.bin .eql (.t 53) (.c (vi 0))⟩] [0,2,4,5,6,7,9,44,45,46,54] []
def Jmh:IC:=.reg [⟨some 55, none,.build [(vi 0),(.slice none 0 0)] []⟩,⟨none,none,.store 2 (.t 2) (.t 55)⟩,⟨some 3, none,.asg (.c (.bool false))⟩] [2,3] []
def Jhs:IC:=.reg [⟨some 56, none,.mv (.t 4)⟩,⟨some 57, none,.mv (.t 9)⟩,⟨some 58, none,.iadr 1 (.t 56) (.t 57)⟩,⟨some 59, none,.load false 1 (.t 58)⟩,⟨some 60, none,.bin .sub (.t 59) (.c (vi 1))⟩,⟨some 61, none,.iadr 1 (.t 56) (.t 57)⟩,⟨none,none,.store 1 (.t 61) (.t 60)⟩] [0,2,4,5,6,7,9,44,45,46] []
def Jm6:IC:=.reg [⟨some 62, none,.mv (.t 6)⟩,⟨some 63, none,.load false 1 (.t 7)⟩,⟨some 64, none,.mv (.t 9)⟩,⟨some 65, none,.call Jb1 [(.val,(.t 63)),(.val,(.t 64))] true⟩,⟨some 66, none,.bsl 2 [(vi 0),(vi 0)] 1 [(0,(.t 65))]⟩,⟨some 67, none,.app 2 (.t 62) (.t 66)⟩,⟨some 6, none,.asg (.t 67)⟩] [0,2,4,5,6,7,44,45,46] []
def Jiy:IC:=.reg [⟨some 68, none,.bin .add (.t 46) (.c (vi 1))⟩,⟨some 46, none,.asg (.t 68)⟩] [0,2,4,5,6,7,44,45,46] []
def Qzi:IC:=(.seq Jlc (.seq (.cond (.t 47) .skip (.exit 2)) (.seq (.block 3 (.seq Jlg (.seq (.seq Jmi (.cond (.t 54) (.seq Jmh .ret) .skip)) (.seq Jhs Jm6)))) Jiy)))
def Qrk:IC:=(.seq (.seq Jwp (.cond (.t 21) .skip (.exit 0))) (.block 1 (.seq Jxh (.seq Jz8 (.seq (.seq Jqi (.cond (.t 36) (.seq Jyi .ret) .skip)) (.seq Jk6 (.block 2 (.loop Qzi))))))))
def Jmp:IC:=.reg [⟨some 69, none,.mv (.t 0)⟩,⟨some 70, none,.len (.t 69)⟩,⟨some 71, none,.mv (.t 6)⟩,⟨some 72, none,.call Qp0 [(.val,(.t 70)),(.rd,(.t 71))] true⟩,⟨none,none,.store 2 (.t 2) (.t 72)⟩,⟨some 3, none,.asg (.c (.bool true))⟩] [2,3] []
def Qro:Qa1:=⟨[.c 2 2 true,.t 3],[],(.seq Jve (.seq (.seq z193r1 (.cond (.t 12) (.seq Jzi .ret) .skip)) (.seq Jw3 (.seq Jp8 (.seq (.block 0 (.loop Qrk)) (.seq Jmp .ret))))))⟩
def Joc:IC:=.reg [⟨some 3, none,.asg (.c (.bool false))⟩] [0,1] []
def Jou:IC:=.reg [⟨some 4, none,.mv (.t 0)⟩,⟨some 5, none,.load false 1 (.t 1)⟩,⟨some 6, none,.bin .eql (.t 4) (.t 5)⟩,⟨some 3, none,.asg (.t 6)⟩] [3] []
def Jcs:Qa1:=⟨[.t 3],[],(.seq Joc (.seq Jou .ret))⟩
def z18r0:IC:=.reg [⟨some 2, none,.asg (.c (.slice none 0 0))⟩] [0] []
def z18r1:IC:=.reg [⟨some 4, none,.mv (.t 0)⟩,⟨some 5, none,.call zl37 [(.rd,(.t 4))] true⟩,⟨some 3, none,.alloc [(.slice none 0 0)]⟩,⟨none,none,.store 1 (.t 3) (.t 5)⟩] [0,3] []
def z18r2:IC:=.reg [⟨some 6, none,.mv (.t 0)⟩,⟨some 7, none,.mkfn Jn6 [(.t 3)]⟩,⟨some 8, none,.call Jpr [(.rd,(.t 6)),(.val,(.t 7))] false⟩,⟨some 2, none,.asg (.t 8)⟩] [2] []
def zi18:Qa1:=⟨[.t 2],[],(.seq z18r0 (.seq z18r1 (.seq z18r2 .ret)))⟩
def z19r0:IC:=.reg [⟨some 3, none,.asg (.c (vi 0))⟩] [0,1] []
def z19r1:IC:=.reg [⟨some 8, none,.mv (.t 0)⟩,⟨some 9, none,.bin .add (.t 8) (.c (vi 1))⟩,⟨some 4, none,.asg (.t 9)⟩] [1,4] []
def z19r2:IC:=.reg [⟨some 10, none,.mv (.t 4)⟩,⟨some 11, none,.mv (.t 4)⟩,⟨some 12, none,.bin .sub (.t 11) (.c (vi 1))⟩,⟨some 13, none,.bin .mul (.t 10) (.t 12)⟩,⟨some 14, none,.load false 1 (.t 1)⟩,⟨some 15, none,.mv (.t 4)⟩,⟨some 16, none,.slc 1 (.t 14) none (some (.t 15)) none⟩,⟨some 17, none,.call Jkg [(.rd,(.t 16))] true⟩,⟨some 18, none,.bin .sub (.t 13) (.t 17)⟩,⟨some 5, none,.asg (.t 18)⟩] [1,4,5] []
def z19r3:IC:=.reg [⟨some 19, none,.load false 1 (.t 1)⟩,⟨some 20, none,.mv (.t 4)⟩,⟨some 21, none,.slc 1 (.t 19) (some (.t 20)) none none⟩,⟨some 22, none,.len (.t 21)⟩,⟨some 23, none,.mv (.c (vi 0))⟩] [1,4,5,21,22,23] []
def z19r4:IC:=.reg [⟨some 24, none,.bin .lss (.t 23) (.t 22)⟩] [1,4,5,21,22,23,24] []
def z19r5:IC:=.reg [⟨some 25, none,.iadr 1 (.t 21) (.t 23)⟩,⟨some 26, none,.load false 1 (.t 25)⟩,⟨some 7, none,.asg (.t 26)⟩] [1,4,5,7,21,22,23] []
def z19r6:IC:=.reg [⟨some 27, none,.mv (.t 5)⟩,⟨some 28, none,.mv (.t 7)⟩,⟨some 29, none,.mv (.t 4)⟩,⟨some 30, none,.minmax true (.t 28) (.t 29)⟩,⟨some 31, none,.bin .add (.t 27) (.t 30)⟩,⟨some 5, none,.asg (.t 31)⟩] [1,4,5,21,22,23] []
def z19r7:IC:=.reg [⟨some 32, none,.bin .add (.t 23) (.c (vi 1))⟩,⟨some 23, none,.asg (.t 32)⟩] [1,4,5,21,22,23] []
def Jwt:IC:=(.seq z19r4 (.seq (.cond (.t 24) .skip (.exit 0)) (.seq (.block 1 (.seq z19r5 z19r6)) z19r7)))
def z19r9:IC:=.reg [⟨some 33, none,.mv (.t 5)⟩,⟨some 3, none,.asgm (.t 33)⟩] [3] []
def zi19:Qa1:=⟨[.t 3],[],(.seq z19r0 (.seq z19r1 (.seq z19r2 (.seq (.seq z19r3 (.block 0 (.loop Jwt))) (.seq z19r9 .ret)))))⟩
def Jtb:IC:=.reg [⟨some 1, none,.box (.t 0)⟩,⟨some 2, none,.asg (.c (.bool false))⟩] [1] []
def Jvc:IC:=.reg [⟨some 3, none,.fadr 0 (.t 1)⟩,⟨some 4, none,.load false 1 (.t 3)⟩,⟨some 5, none,.fadr 1 (.t 1)⟩,⟨some 6, none,.load false 1 (.t 5)⟩,⟨some 7, none,.bin .neq (.t 4) (.t 6)⟩,⟨some 8, none,.asg (.t 7)⟩,⟨some 9, (some (8,true)),.fadr 0 (.t 1)⟩,⟨some 10, (some (8,true)),.load false 1 (.t 9)⟩,⟨some 11, (some (8,true)),.fadr 2 (.t 1)⟩,⟨some 12, (some (8,true)),.load false 1 (.t 11)⟩,⟨some 13, (some (8,true)),.bin .neq (.t 10) (.t 12)⟩,⟨some 14, none,.pick (.t 8) (.t 13) (.c (.bool false))⟩,⟨some 15, none,.asg (.t 14)⟩,⟨some 16, (some (15,true)),.fadr 0 (.t 1)⟩,⟨some 17, (some (15,true)),.load false 1 (.t 16)⟩,⟨some 18, (some (15,true)),.fadr 3 (.t 1)⟩,⟨some 19, (some (15,true)),.load false 1 (.t 18)⟩,⟨some 20, (some (15,true)),.bin .neq (.t 17) (.t 19)⟩,⟨some 21, none,.pick (.t 15) (.t 20) (.c (.bool false))⟩,⟨some 22, none,.asg (.t 21)⟩,
    ⟨some 23, (some (22,true)),.fadr 1 (.t 1)⟩,⟨some 24, (some (22,true)),.load false 1 (.t 23)⟩,⟨some 25, (some (22,true)),.fadr 2 (.t 1)⟩,⟨some 26, (some (22,true)),.load false 1 (.t 25)⟩,⟨some 27, (some (22,true)),.bin .neq (.t 24) (.t 26)⟩,⟨some 28, none,.pick (.t 22) (.t 27) (.c (.bool false))⟩,⟨some 29, none,.asg (.t 28)⟩,⟨some 30, (some (29,true)),.fadr 1 (.t 1)⟩,⟨some 31, (some (29,true)),.load false 1 (.t 30)⟩,⟨some 32, (some (29,true)),.fadr 3 (.t 1)⟩,⟨some 33, (some (29,true)),.load false 1 (.t 32)⟩,⟨some 34, (some (29,true)),.bin .neq (.t 31) (.t 33)⟩,⟨some 35, none,.pick (.t 29) (.t 34) (.c (.bool false))⟩,⟨some 36, none,.asg (.t 35)⟩,⟨some 37, (some (36,true)),.fadr 2 (.t 1)⟩,⟨some 38, (some (36,true)),.load false 1 (.t 37)⟩,⟨some 39, (some (36,true)),.fadr 3 (.t 1)⟩,⟨some 40, (some (36,true)),.load false 1 (.t 39)⟩,
    ⟨some 41, (some (36,true)),.bin .neq (.t 38) (.t 40)⟩,⟨some 42, none,.pick (.t 36) (.t 41) (.c (.bool false))⟩,⟨some 2, none,.asg (.t 42)⟩] [2] []
def Qk8:Qa1:=⟨[.t 2],[],(.seq Jtb (.seq Jvc .ret))⟩
def z25r0:IC:=.reg [⟨some 2, none,.asg (.c (.bool false))⟩] [0] []
def z25r1:IC:=.reg [⟨some 3, none,.mv (.t 0)⟩,⟨some 4, none,.len (.t 3)⟩,⟨some 5, none,.bin .leq (.t 4) (.c (vi 7))⟩,⟨some 6, none,.asg (.t 5)⟩,⟨some 7, (some (6,true)),.mv (.t 0)⟩,⟨some 8, (some (6,true)),.mv (.t 0)⟩,⟨some 9, (some (6,true)),.len (.t 8)⟩,⟨some 10, (some (6,true)),.bin .sub (.t 9) (.c (vi 1))⟩,⟨some 11, (some (6,true)),.call zl29 [(.rd,(.t 7)),(.val,(.c (vi 0))),(.val,(.t 10))] true⟩,⟨some 12, none,.pick (.t 6) (.t 11) (.c (.bool false))⟩,⟨some 2, none,.asg (.t 12)⟩] [2] []
def Joj:Qa1:=⟨[.t 2],[],(.seq z25r0 (.seq z25r1 .ret))⟩
def z26r0:IC:=.reg [⟨some 1, none,.box (.t 0)⟩,⟨some 2, none,.asg (.c (.bool false))⟩] [1] []
def z26r1:IC:=.reg [⟨some 5, none,.fadr 1 (.t 1)⟩,⟨some 6, none,.load false 1 (.t 5)⟩,⟨some 7, none,.len (.t 6)⟩,⟨some 8, none,.mv (.c (vi 0))⟩] [1,6,7,8] []
def z26r2:IC:=.reg [⟨some 9, none,.bin .lss (.t 8) (.t 7)⟩] [1,6,7,8,9] []
def z26r3:IC:=.reg [⟨some 10, none,.asg (.t 8)⟩,⟨some 11, none,.iadr 2 (.t 6) (.t 8)⟩,⟨some 12, none,.load true 2 (.t 11)⟩,⟨some 4, none,.alloc [(vi 0),(vi 0)]⟩,⟨some 3, none,.asg (.t 10)⟩,⟨none,none,.store 2 (.t 4) (.t 12)⟩] [1,3,4,6,7,8] []
def z26r4:IC:=.reg [⟨some 13, none,.fadr 0 (.t 4)⟩,⟨some 14, none,.load false 1 (.t 13)⟩,⟨some 15, none,.bin .lss (.t 14) (.c (vi 0))⟩,⟨some 16, none,.asg (.t 15)⟩,⟨some 17, (some (16,false)),.fadr 0 (.t 4)⟩,⟨some 18, (some (16,false)),.load false 1 (.t 17)⟩,⟨some 19, (some (16,false)),.fadr 1 (.t 4)⟩,⟨some 20, (some (16,false)),.load false 1 (.t 19)⟩,⟨some 21, (some (16,false)),.bin .geq (.t 18) (.t 20)⟩,⟨some 22, none,.pick (.t 16) (.c (.bool true)) (.t 21)⟩,⟨some 23, none,.asg (.t 22)⟩,⟨some 24, (some (23,false)),.fadr 1 (.t 4)⟩,⟨some 25, (some (23,false)),.load false 1 (.t 24)⟩,⟨some 26, (some (23,false)),.fadr 0 (.t 1)⟩,⟨some 27, (some (23,false)),.load false 1 (.t 26)⟩,⟨some 28, (some (23,false)),.bin .geq (.t 25) (.t 27)⟩,⟨some 29, none,.pick (.t 23) (.c (.bool true)) (.t 28)⟩,⟨some 30, none,.asg (.t 29)⟩,⟨some 31, (some (30,false)),.mv (.t 3)⟩,
    ⟨some 32, (some (30,false)),.bin .gtr (.t 31) (.c (vi 0))⟩,⟨some 33, (some (30,false)),.asg (.t 32)⟩,⟨some 34, (some (33,true)),.fadr 1 (.t 1)⟩,⟨some 35, (some (33,true)),.load false 1 (.t 34)⟩,⟨some 36, (some (33,true)),.mv (.t 3)⟩,⟨some 37, (some (33,true)),.bin .sub (.t 36) (.c (vi 1))⟩,⟨some 38, (some (33,true)),.iadr 2 (.t 35) (.t 37)⟩,⟨some 39, (some (33,true)),.load true 2 (.t 38)⟩,⟨some 40, (some (33,true)),.load true 2 (.t 4)⟩,⟨some 41, (some (33,true)),.call Jb2 [(.val,(.t 39)),(.val,(.t 40))] true⟩,⟨some 42, (some (33,true)),.bin .geq (.t 41) (.c (vi 0))⟩,⟨some 43, (some (30,false)),.pick (.t 33) (.t 42) (.c (.bool false))⟩,⟨some 44, none,.pick (.t 30) (.c (.bool true)) (.t 43)⟩] [1,6,7,8,44] []
def z26r5:IC:=.reg [⟨some 2, none,.asg (.c (.bool false))⟩] [2] []
def z26r6:IC:=.reg [⟨some 45, none,.bin .add (.t 8) (.c (vi 1))⟩,⟨some 8, none,.asg (.t 45)⟩] [1,6,7,8] []
def Jyc:IC:=(.seq z26r2 (.seq (.cond (.t 9) .skip (.exit 0)) (.seq (.block 1 (.seq z26r3 (.seq z26r4 (.cond (.t 44) (.seq z26r5 .ret) .skip)))) z26r6)))
def z26r8:IC:=.reg [⟨some 46, none,.fadr 0 (.t 1)⟩,⟨some 47, none,.load false 1 (.t 46)⟩,⟨some 48, none,.call Jnv [(.val,(.t 47)),(.val,(.c (vi 0))),(.val,(.c (vi 7)))] true⟩,⟨some 2, none,.asg (.t 48)⟩] [2] []
def Jn2:Qa1:=⟨[.t 2],[],(.seq z26r0 (.seq (.seq z26r1 (.block 0 (.loop Jyc))) (.seq z26r8 .ret)))⟩
def z29r0:IC:=.reg [⟨some 4, none,.box (.t 1)⟩,⟨some 5, none,.box (.t 2)⟩,⟨some 6, none,.asg (.c (.bool false))⟩] [0,4,5] []
def z29r1:IC:=.reg [⟨some 7, none,.mv (.t 0)⟩,⟨some 8, none,.mkfn Jn3 [(.t 4),(.t 5)]⟩,⟨some 9, none,.call Jzj [(.rd,(.t 7)),(.val,(.t 8))] false⟩,⟨some 10, none,.unop .not (.t 9)⟩,⟨some 6, none,.asg (.t 10)⟩] [6] []
def zi29:Qa1:=⟨[.t 6],[],(.seq z29r0 (.seq z29r1 .ret))⟩
def z30r0:IC:=.reg [⟨some 4, none,.asg (.c (.bool false))⟩] [0,1,2] []
def z30r1:IC:=.reg [⟨some 5, none,.mv (.t 0)⟩,⟨some 6, none,.load false 1 (.t 1)⟩,⟨some 7, none,.load false 1 (.t 2)⟩,⟨some 8, none,.call Jnv [(.val,(.t 5)),(.val,(.t 6)),(.val,(.t 7))] true⟩,⟨some 9, none,.unop .not (.t 8)⟩,⟨some 4, none,.asg (.t 9)⟩] [4] []
def zi30:Qa1:=⟨[.t 4],[],(.seq z30r0 (.seq z30r1 .ret))⟩
def Jyw:IC:=.reg [⟨some 2, none,.asg (.c (.slice none 0 0))⟩] [0] []
def Jz5:IC:=.reg [⟨some 3, none,.mv (.t 0)⟩,⟨some 4, none,.call Qqu [(.rd,(.t 3))] true⟩,⟨some 5, none,.call Qz4 [(.tk,(.t 4))] true⟩,⟨some 2, none,.asg (.t 5)⟩] [2] []
def Jdl:Qa1:=⟨[.t 2],[],(.seq Jyw (.seq Jz5 .ret))⟩
def z31r0:IC:=.reg [⟨some 2, none,.asg (.c (.slice none 0 0))⟩] [0] []
def z31r1:IC:=.reg [⟨some 3, none,.mv (.t 0)⟩,⟨some 4, none,.call Jny [(.rd,(.t 3))] true⟩,⟨some 5, none,.call Jnz [(.tk,(.t 4))] true⟩,⟨some 2, none,.asg (.t 5)⟩] [2] []
def Jqy:Qa1:=⟨[.t 2],[],(.seq z31r0 (.seq z31r1 .ret))⟩
def z32r0:IC:=.reg [⟨some 2, none,.box (.t 0)⟩,⟨some 3, none,.box (.t 1)⟩,⟨some 4, none,.asg (.c (vi 0))⟩] [2,3] []
def z32r1:IC:=.reg [⟨some 5, none,.fadr 0 (.t 2)⟩,⟨some 6, none,.load false 1 (.t 5)⟩,⟨some 7, none,.fadr 0 (.t 3)⟩,⟨some 8, none,.load false 1 (.t 7)⟩,⟨some 9, none,.bin .neq (.t 6) (.t 8)⟩] [2,3,9] []
def z32r2:IC:=.reg [⟨some 10, none,.fadr 0 (.t 2)⟩,⟨some 11, none,.load false 1 (.t 10)⟩,⟨some 12, none,.fadr 0 (.t 3)⟩,⟨some 13, none,.load false 1 (.t 12)⟩,⟨some 14, none,.bin .sub (.t 11) (.t 13)⟩,⟨some 4, none,.asg (.t 14)⟩] [4] []
def z32r3:IC:=.reg [⟨some 15, none,.fadr 1 (.t 2)⟩,⟨some 16, none,.load false 1 (.t 15)⟩,⟨some 17, none,.fadr 1 (.t 3)⟩,⟨some 18, none,.load false 1 (.t 17)⟩,⟨some 19, none,.bin .sub (.t 16) (.t 18)⟩,⟨some 4, none,.asg (.t 19)⟩] [4] []
def Js2:Qa1:=⟨[.t 4],[],(.seq z32r0 (.seq (.seq z32r1 (.cond (.t 9) (.seq z32r2 .ret) .skip)) (.seq z32r3 .ret)))⟩
def z35r0:IC:=.reg [⟨some 4, none,.asg (.c (.slice none 0 0))⟩] [0,1] []
def z35r1:IC:=.reg [⟨some 7, none,.mv (.t 0)⟩,⟨some 8, none,.call Jf7 [(.rd,(.t 7))] true⟩,⟨some 9, none,.unop .not (.t 8)⟩] [0,1,9] []
def z35r2:IC:=.reg [⟨some 4, none,.asg (.c (.slice none 0 0))⟩] [4,5] []
def z35r3:IC:=.reg [⟨some 10, none,.mv (.t 0)⟩,⟨some 11, none,.len (.t 10)⟩,⟨some 12, none,.mksl 1 [(vi 0)] (.t 11) (.t 11)⟩,⟨some 5, none,.asg (.t 12)⟩] [1,5] []
def z35r4:IC:=.reg [⟨some 13, none,.mv (.t 5)⟩,⟨some 14, none,.len (.t 13)⟩,⟨some 15, none,.mv (.c (vi 0))⟩] [1,5,14,15] []
def z35r5:IC:=.reg [⟨some 16, none,.bin .lss (.t 15) (.t 14)⟩] [1,5,14,15,16] []
def z35r6:IC:=.reg [⟨some 17, none,.asg (.t 15)⟩,⟨some 6, none,.asg (.t 17)⟩] [1,5,6,14,15] []
def z35r7:IC:=.reg [⟨some 18, none,.mv (.t 5)⟩,⟨some 19, none,.mv (.t 6)⟩,⟨some 20, none,.mv (.t 1)⟩,⟨some 21, none,.mv (.t 6)⟩,⟨some 22, none,.callv (.t 20) [(.val,(.t 21))]⟩,⟨some 23, none,.iadr 1 (.t 18) (.t 19)⟩,⟨none,none,.store 1 (.t 23) (.t 22)⟩] [1,5,14,15] []
def z35r8:IC:=.reg [⟨some 24, none,.bin .add (.t 15) (.c (vi 1))⟩,⟨some 15, none,.asg (.t 24)⟩] [1,5,14,15] []
def Jwj:IC:=(.seq z35r5 (.seq (.cond (.t 16) .skip (.exit 0)) (.seq (.block 1 (.seq z35r6 z35r7)) z35r8)))
def Jvf:IC:=.reg [⟨some 25, none,.mv (.t 5)⟩,⟨some 4, none,.asgm (.t 25)⟩] [4,5] []
def zi35:Qa1:=⟨[.t 4],[],(.seq z35r0 (.seq (.seq z35r1 (.cond (.t 9) (.seq z35r2 .ret) .skip)) (.seq z35r3 (.seq (.seq z35r4 (.block 0 (.loop Jwj))) (.seq Jvf .ret)))))⟩
def z36r0:IC:=.reg [⟨some 4, none,.alloc [(vi 0),(vi 0)]⟩] [0,1,4] []
def z36r1:IC:=.reg [⟨some 5, none,.mv (.t 0)⟩,⟨some 6, none,.mv (.t 1)⟩,⟨some 7, none,.minmax true (.t 5) (.t 6)⟩,⟨some 8, none,.mv (.t 0)⟩,⟨some 9, none,.mv (.t 1)⟩,⟨some 10, none,.minmax false (.t 8) (.t 9)⟩,⟨some 11, none,.build [(vi 0),(vi 0)] [(0,1,(.t 7)),(1,1,(.t 10))]⟩,⟨none,none,.store 2 (.t 4) (.t 11)⟩] [4] []
def zi36:Qa1:=⟨[.c 4 2 true],[],(.seq z36r0 (.seq z36r1 .ret))⟩
def z37r0:IC:=.reg [⟨some 2, none,.asg (.c (.slice none 0 0))⟩] [0] []
def z37r1:IC:=.reg [⟨some 4, none,.mv (.t 0)⟩,⟨some 5, none,.call Jda [(.rd,(.t 4))] true⟩,⟨some 3, none,.asg (.t 5)⟩] [3] []
def z37r2:IC:=.reg [⟨some 6, none,.mv (.t 3)⟩,⟨some 7, none,.call Jwy [(.ld,(.t 6))] false⟩] [3] []
def z37r3:IC:=.reg [⟨some 8, none,.mv (.t 3)⟩,⟨some 9, none,.call Jow [(.ld,(.t 8))] false⟩] [3] []
def z37r4:IC:=.reg [⟨some 10, none,.mv (.t 3)⟩,⟨some 2, none,.asgm (.t 10)⟩] [2,3] []
def zi37:Qa1:=⟨[.t 2],[],(.seq z37r0 (.seq z37r1 (.seq z37r2 (.seq z37r3 (.seq z37r4 .ret)))))⟩
def z210r0:IC:=.reg [⟨some 3, none,.box (.t 0)⟩,⟨some 6, none,.asg (.c (.slice none 0 0))⟩] [1,2,3] []
def z210r1:IC:=.reg [⟨some 8, none,.mv (.t 1)⟩,⟨some 9, none,.call Jda [(.rd,(.t 8))] true⟩,⟨some 7, none,.asg (.t 9)⟩] [2,3,7] []
def Jub:IC:=.reg [⟨some 10, none,.mv (.t 7)⟩,⟨some 11, none,.mkfn Qri [(.t 3)]⟩,⟨some 12, none,.call Qwd [(.ld,(.t 10)),(.val,(.t 11))] false⟩] [2,7] []
def z210r3:IC:=.reg [⟨some 13, none,.mv (.t 7)⟩,⟨some 14, none,.mv (.t 2)⟩,⟨some 15, none,.slc 1 (.t 13) none (some (.t 14)) none⟩,⟨some 6, none,.asgm (.t 15)⟩] [6,7] []
def Qx7:Qa1:=⟨[.t 6],[],(.seq z210r0 (.seq z210r1 (.seq Jub (.seq z210r3 .ret))))⟩
def Jpn:IC:=.reg [⟨some 5, none,.asg (.c (vi 0))⟩] [0,1,2] []
def z211r1:IC:=.reg [⟨some 6, none,.load false 1 (.t 2)⟩,⟨some 7, none,.mv (.t 1)⟩,⟨some 8, none,.iadr 1 (.t 6) (.t 7)⟩,⟨some 9, none,.load false 1 (.t 8)⟩,⟨some 10, none,.load false 1 (.t 2)⟩,⟨some 11, none,.mv (.t 0)⟩,⟨some 12, none,.iadr 1 (.t 10) (.t 11)⟩,⟨some 13, none,.load false 1 (.t 12)⟩,⟨some 14, none,.bin .sub (.t 9) (.t 13)⟩,⟨some 5, none,.asg (.t 14)⟩] [5] []
def Jfo:Qa1:=⟨[.t 5],[],(.seq Jpn (.seq z211r1 .ret))⟩
def z38r0:IC:=.reg [⟨some 6, none,.asg (.c (.bool false))⟩] [0,1,2] []
def z38r1:IC:=.reg [⟨some 7, none,.mv (.t 0)⟩,⟨some 8, none,.mv (.t 1)⟩,⟨some 9, none,.bin .geq (.t 7) (.t 8)⟩,⟨some 10, none,.asg (.t 9)⟩,⟨some 11, (some (10,true)),.mv (.t 0)⟩,⟨some 12, (some (10,true)),.mv (.t 2)⟩,⟨some 13, (some (10,true)),.bin .leq (.t 11) (.t 12)⟩,⟨some 14, none,.pick (.t 10) (.t 13) (.c (.bool false))⟩,⟨some 6, none,.asg (.t 14)⟩] [6] []
def Jy5:Qa1:=⟨[.t 6],[],(.seq z38r0 (.seq z38r1 .ret))⟩
def Jtj:IC:=.reg [⟨some 4, none,.asg (.c (.slice none 0 0))⟩] [0,1] []
def Jr7:IC:=.reg [⟨some 5, none,.asg (.c (.slice none 0 0))⟩] [0,1,5] []
def Ju2:IC:=.reg [⟨some 7, none,.mv (.t 0)⟩,⟨some 8, none,.mv (.c (vi 0))⟩] [1,5,7,8] []
def Jqw:IC:=.reg [⟨some 9, none,.bin .lss (.t 8) (.t 7)⟩] [1,5,7,8,9] []
def Jvv:IC:=.reg [⟨some 10, none,.asg (.t 8)⟩,⟨some 6, none,.asg (.t 10)⟩] [1,5,6,7,8] []
def z212r5:IC:=.reg [⟨some 11, none,.mv (.t 6)⟩,⟨some 12, none,.mv (.t 1)⟩,⟨some 13, none,.bin .neq (.t 11) (.t 12)⟩] [1,5,6,7,8,13] []
def Jvb:IC:=.reg [⟨some 14, none,.mv (.t 5)⟩,⟨some 15, none,.mv (.t 6)⟩,⟨some 16, none,.bsl 1 [(vi 0)] 1 [(0,(.t 15))]⟩,⟨some 17, none,.app 1 (.t 14) (.t 16)⟩,⟨some 5, none,.asg (.t 17)⟩] [1,5,7,8] []
def Jsy:IC:=.reg [⟨some 18, none,.bin .add (.t 8) (.c (vi 1))⟩,⟨some 8, none,.asg (.t 18)⟩] [1,5,7,8] []
def Jfz:IC:=(.seq Jqw (.seq (.cond (.t 9) .skip (.exit 0)) (.seq (.block 1 (.seq Jvv (.seq z212r5 (.cond (.t 13) Jvb .skip)))) Jsy)))
def Jxr:IC:=.reg [⟨some 19, none,.mv (.t 5)⟩,⟨some 4, none,.asgm (.t 19)⟩] [4,5] []
def Ja7:Qa1:=⟨[.t 4],[],(.seq Jtj (.seq Jr7 (.seq (.seq Ju2 (.block 0 (.loop Jfz))) (.seq Jxr .ret))))⟩
def z214r0:IC:=.reg [⟨some 4, none,.alloc [(vi 0),(.slice none 0 0)]⟩] [0,1,4] []
def z214r1:IC:=.reg [⟨some 6, none,.mv (.t 1)⟩,⟨some 7, none,.call Qtx [(.rd,(.t 6))] true⟩,⟨some 5, none,.asg (.t 7)⟩] [0,4,5] []
def Jvu:IC:=.reg [⟨some 8, none,.mv (.t 5)⟩,⟨some 9, none,.call Qub [(.ld,(.t 8)),(.val,(.f Jb2))] false⟩] [0,4,5] []
def z214r3:IC:=.reg [⟨some 10, none,.mv (.t 0)⟩,⟨some 11, none,.mv (.t 5)⟩,⟨some 12, none,.build [(vi 0),(.slice none 0 0)] [(0,1,(.t 10)),(1,1,(.t 11))]⟩,⟨none,none,.store 2 (.t 4) (.t 12)⟩] [4] []
def Je5:Qa1:=⟨[.c 4 2 true],[],(.seq z214r0 (.seq z214r1 (.seq Jvu (.seq z214r3 .ret))))⟩
def z40r0:IC:=.reg [⟨some 2, none,.asg (.c (vi 0))⟩] [0] []
def z40r1:IC:=.reg [⟨some 3, none,.asg (.c (vi 0))⟩] [0,3] []
def z40r2:IC:=.reg [⟨some 6, none,.mv (.t 0)⟩,⟨some 7, none,.len (.t 6)⟩,⟨some 8, none,.mv (.c (vi 0))⟩] [0,3,6,7,8] []
def z40r3:IC:=.reg [⟨some 9, none,.bin .lss (.t 8) (.t 7)⟩] [0,3,6,7,8,9] []
def z40r4:IC:=.reg [⟨some 10, none,.iadr 1 (.t 6) (.t 8)⟩,⟨some 11, none,.load false 1 (.t 10)⟩,⟨some 5, none,.asg (.t 11)⟩] [0,3,5,6,7,8] []
def z40r5:IC:=.reg [⟨some 12, none,.mv (.t 3)⟩,⟨some 13, none,.mv (.t 5)⟩,⟨some 14, none,.bin .add (.t 12) (.t 13)⟩,⟨some 3, none,.asg (.t 14)⟩] [0,3,6,7,8] []
def z40r6:IC:=.reg [⟨some 15, none,.bin .add (.t 8) (.c (vi 1))⟩,⟨some 8, none,.asg (.t 15)⟩] [0,3,6,7,8] []
def Jy4:IC:=(.seq z40r3 (.seq (.cond (.t 9) .skip (.exit 0)) (.seq (.block 1 (.seq z40r4 z40r5)) z40r6)))
def z40r8:IC:=.reg [⟨some 16, none,.mv (.t 3)⟩,⟨some 2, none,.asgm (.t 16)⟩] [2] []
def zi40:Qa1:=⟨[.t 2],[],(.seq z40r0 (.seq z40r1 (.seq (.seq z40r2 (.block 0 (.loop Jy4))) (.seq z40r8 .ret))))⟩
def z432r0:IC:=.reg [⟨some 2, none,.asg (.c (.bool false))⟩] [0] []
def z432r1:IC:=.reg [⟨some 9, none,.mv (.t 0)⟩,⟨some 10, none,.len (.t 9)⟩,⟨some 11, none,.bin .gtr (.t 10) (.c (vi 1048576))⟩] [0,11] []
def Jtp:IC:=.reg [⟨some 2, none,.asg (.c (.bool true))⟩] [2] []
def Js1:IC:=.reg [⟨some 12, none,.mv (.t 0)⟩,⟨some 13, none,.call Qwi [(.rd,(.t 12))] true⟩,⟨some 3, none,.asg (.t 13)⟩] [3] []
def Jtl:IC:=.reg [⟨some 14, none,.mv (.t 3)⟩,⟨some 15, none,.call Qzb [(.rd,(.t 14))] true⟩,⟨some 4, none,.asg (.t 15)⟩] [3,4] []
def Jva:IC:=.reg [⟨some 16, none,.mv (.t 4)⟩,⟨some 17, none,.mv (.t 3)⟩,⟨some 18, none,.call Qt5 [(.rd,(.t 17))] true⟩,⟨some 19, none,.eqb true (.t 16) (.t 18)⟩,⟨some 20, none,.asg (.t 19)⟩,⟨some 21, (some (20,false)),.mv (.t 3)⟩,⟨some 22, (some (20,false)),.call Jf7 [(.rd,(.t 21))] true⟩,⟨some 23, (some (20,false)),.unop .not (.t 22)⟩,⟨some 24, none,.pick (.t 20) (.c (.bool true)) (.t 23)⟩] [3,4,24] []
def Jqh:IC:=.reg [⟨some 25, none,.mv (.t 4)⟩,⟨some 26, none,.mv (.t 3)⟩,⟨some 27, none,.call Qt5 [(.rd,(.t 26))] true⟩,⟨some 28, none,.eqb false (.t 25) (.t 27)⟩,⟨some 2, none,.asg (.t 28)⟩] [2] []
def Jwf:IC:=.reg [⟨some 30, none,.mv (.t 3)⟩,⟨some 31, none,.call Qva [(.rd,(.t 30))] true⟩,⟨some 29, none,.asg (.t 31)⟩,⟨some 32, none,.extr (.t 29) 0⟩,⟨some 33, none,.extr (.t 29) 1⟩,⟨some 5, none,.alloc [(vi 0),(.slice none 0 0)]⟩,⟨none,none,.storef 2 (.t 5) (.t 32)⟩,⟨some 6, none,.asg (.t 33)⟩] [3,4,5,6] []
def Juu:IC:=.reg [⟨some 35, none,.load true 2 (.t 5)⟩,⟨some 36, none,.call Qrv [(.rd,(.t 35))] true⟩,⟨some 34, none,.asg (.t 36)⟩,⟨some 37, none,.extr (.t 34) 0⟩,⟨some 38, none,.extr (.t 34) 1⟩,⟨some 7, none,.alloc [(vi 0),(.slice none 0 0)]⟩,⟨none,none,.storef 2 (.t 7) (.t 37)⟩,⟨some 8, none,.asg (.t 38)⟩] [3,4,6,7,8] []
def Juj:IC:=.reg [⟨some 39, none,.mv (.t 4)⟩,⟨some 40, none,.unop .not (.t 39)⟩] [3,6,7,8,40] []
def Jhz:IC:=.reg [⟨some 41, none,.mv (.t 6)⟩,⟨some 42, none,.unop .not (.t 41)⟩,⟨some 43, none,.asg (.t 42)⟩,⟨some 44, (some (43,false)),.mv (.t 8)⟩,⟨some 45, (some (43,false)),.unop .not (.t 44)⟩,⟨some 46, none,.pick (.t 43) (.c (.bool true)) (.t 45)⟩,⟨some 2, none,.asg (.t 46)⟩] [2] []
def Jjx:IC:=.reg [⟨some 47, none,.mv (.t 6)⟩,⟨some 48, none,.asgm (.t 47)⟩,⟨some 49, (some (48,true)),.mv (.t 8)⟩,⟨some 50, none,.pick (.t 48) (.t 49) (.c (.bool false))⟩,⟨some 51, none,.asg (.t 50)⟩,⟨some 52, (some (51,true)),.load true 2 (.t 7)⟩,⟨some 53, (some (51,true)),.call Qx5 [(.rd,(.t 52))] true⟩,⟨some 54, none,.pick (.t 51) (.t 53) (.c (.bool false))⟩,⟨some 55, none,.asg (.t 54)⟩,⟨some 56, (some (55,true)),.load true 2 (.t 7)⟩,⟨some 57, (some (55,true)),.call Qy1 [(.rd,(.t 56))] true⟩,⟨some 58, (some (55,true)),.mv (.t 3)⟩,⟨some 59, (some (55,true)),.call Jxy [(.rd,(.t 57)),(.rd,(.t 58))] true⟩,⟨some 60, none,.pick (.t 55) (.t 59) (.c (.bool false))⟩,⟨some 2, none,.asg (.t 60)⟩] [2] []
def Qnt:Qa1:=⟨[.t 2],[],(.seq z432r0 (.seq (.seq z432r1 (.cond (.t 11) (.seq Jtp .ret) .skip)) (.seq Js1 (.seq Jtl (.seq (.seq Jva (.cond (.t 24) (.seq Jqh .ret) .skip)) (.seq Jwf (.seq Juu (.seq (.seq Juj (.cond (.t 40) (.seq Jhz .ret) .skip)) (.seq Jjx .ret)))))))))⟩
def z53r0:IC:=.reg [⟨some 4, none,.asg (.c (.bool false))⟩] [0,1] []
def z53r1:IC:=.reg [⟨some 6, none,.mv (.t 0)⟩,⟨some 7, none,.len (.t 6)⟩,⟨some 8, none,.mv (.t 1)⟩,⟨some 9, none,.len (.t 8)⟩,⟨some 10, none,.bin .neq (.t 7) (.t 9)⟩] [0,1,10] []
def z53r2:IC:=.reg [⟨some 4, none,.asg (.c (.bool false))⟩] [4] []
def z53r3:IC:=.reg [⟨some 5, none,.asg (.c (vi 0))⟩] [0,1,5] []
def z53r4:IC:=.reg [⟨some 11, none,.mv (.t 5)⟩,⟨some 12, none,.mv (.t 0)⟩,⟨some 13, none,.len (.t 12)⟩,⟨some 14, none,.bin .lss (.t 11) (.t 13)⟩] [0,1,5,14] []
def z53r5:IC:=.reg [⟨some 17, none,.mv (.t 0)⟩,⟨some 18, none,.mv (.t 5)⟩,⟨some 19, none,.iadr 1 (.t 17) (.t 18)⟩,⟨some 20, none,.load false 1 (.t 19)⟩,⟨some 21, none,.mv (.t 1)⟩,⟨some 22, none,.mv (.t 5)⟩,⟨some 23, none,.iadr 1 (.t 21) (.t 22)⟩,⟨some 24, none,.load false 1 (.t 23)⟩,⟨some 25, none,.bin .neq (.t 20) (.t 24)⟩] [0,1,5,25] []
def z53r6:IC:=.reg [⟨some 4, none,.asg (.c (.bool false))⟩] [4] []
def z53r7:IC:=.reg [⟨some 15, none,.mv (.t 5)⟩,⟨some 16, none,.bin .add (.t 15) (.c (vi 1))⟩,⟨some 5, none,.asg (.t 16)⟩] [0,1,5] []
def Jo2:IC:=(.seq (.seq z53r4 (.cond (.t 14) .skip (.exit 0))) (.seq (.block 1 (.seq z53r5 (.cond (.t 25) (.seq z53r6 .ret) .skip))) z53r7))
def z53r9:IC:=.reg [⟨some 4, none,.asg (.c (.bool true))⟩] [4] []
def Jns:Qa1:=⟨[.t 4],[],(.seq z53r0 (.seq (.seq z53r1 (.cond (.t 10) (.seq z53r2 .ret) .skip)) (.seq (.seq z53r3 (.block 0 (.loop Jo2))) (.seq z53r9 .ret))))⟩
def z66r0:IC:=.reg [⟨some 2, none,.asg (.c (vi 0))⟩] [0] []
def z66r1:IC:=.reg [⟨some 3, none,.mv (.t 0)⟩,⟨some 4, none,.conv .u32 (.t 3)⟩,⟨some 5, none,.call zl67 [(.val,(.t 4))] true⟩,⟨some 2, none,.asg (.t 5)⟩] [2] []
def z66r2:IC:=.reg [⟨some 6, none,.mv (.t 0)⟩,⟨some 7, none,.call Jnr [(.val,(.t 6))] true⟩,⟨some 2, none,.asg (.t 7)⟩] [2] []
def zi66:Qa1:=⟨[.t 2],[],(.seq z66r0 (.seq (.cond (.c (.bool false)) (.seq z66r1 .ret) .skip) (.seq z66r2 .ret)))⟩
def z68r0:IC:=.reg [⟨some 2, none,.asg (.c (vi 0))⟩] [0,2] []
def z68r1:IC:=.reg [⟨some 3, none,.mv (.t 0)⟩,⟨some 4, none,.bin .geq (.t 3) (.c (.int .u64 (4294967296)))⟩] [0,2,4] []
def z68r2:IC:=.reg [⟨some 5, none,.mv (.t 0)⟩,⟨some 6, none,.bin .shr (.t 5) (.c (.int .u64 (32)))⟩,⟨some 0, none,.asg (.t 6)⟩] [0] []
def z68r3:IC:=.reg [⟨some 2, none,.asg (.c (vi 32))⟩] [0,2] []
def z68r4:IC:=.reg [⟨some 7, none,.mv (.t 0)⟩,⟨some 8, none,.bin .geq (.t 7) (.c (.int .u64 (65536)))⟩] [0,2,8] []
def z68r5:IC:=.reg [⟨some 9, none,.mv (.t 0)⟩,⟨some 10, none,.bin .shr (.t 9) (.c (.int .u64 (16)))⟩,⟨some 0, none,.asg (.t 10)⟩] [0,2] []
def z68r6:IC:=.reg [⟨some 11, none,.mv (.t 2)⟩,⟨some 12, none,.bin .add (.t 11) (.c (vi 16))⟩,⟨some 2, none,.asg (.t 12)⟩] [0,2] []
def z68r7:IC:=.reg [⟨some 13, none,.mv (.t 0)⟩,⟨some 14, none,.bin .geq (.t 13) (.c (.int .u64 (256)))⟩] [0,2,14] []
def z68r8:IC:=.reg [⟨some 15, none,.mv (.t 0)⟩,⟨some 16, none,.bin .shr (.t 15) (.c (.int .u64 (8)))⟩,⟨some 0, none,.asg (.t 16)⟩] [0,2] []
def z68r9:IC:=.reg [⟨some 17, none,.mv (.t 2)⟩,⟨some 18, none,.bin .add (.t 17) (.c (vi 8))⟩,⟨some 2, none,.asg (.t 18)⟩] [0,2] []
def Qxy:IC:=.reg [⟨some 19, none,.mv (.t 2)⟩,⟨some 20, none,.mv (.t 0)⟩,⟨some 21, none,.conv .u8 (.t 20)⟩,⟨some 22, none,.idxs (.c (.string ⟨#[0,1,2,2,3,3,3,3,4,4,4,4,4,4,4,4,5,5,5,5,5,5,5,5,5,5,5,5,5,5,5,5,6,6,6,6,6,6,6,6,6,6,6,6,6,6,6,6,6,6,6,6,6,6,6,6,6,6,6,6,6,6,6,6,7,7,7,7,7,7,7,7,7,7,7,7,7,7,7,7,7,7,7,7,7,7,7,7,7,7,7,7,7,7,7,7,7,7,7,7,7,7,7,7,7,7,7,7,7,7,7,7,7,7,7,7,7,7,7,7,7,7,7,7,7,7,7,7,8,8,8,8,8,8,8,8,8,8,8,8,8,8,8,8,8,8,8,8,8,8,8,8,8,8,8,8,8,8,8,8,8,8,8,8,8,8,8,8,8,8,8,8,8,8,8,8,8,8,8,8,8,8,8,8,8,8,8,8,8,8,8,8,8,8,8,8,8,8,8,8,8,8,8,8,8,8,8,8,8,8,8,8,8,8,8,8,8,8,8,8,8,8,8,8,8,8,8,8,8,8,8,8,8,8,8,8,8,8,8,8,8,8,8,8,8,8,8,8,8,8,8,8,8,8,8,8]⟩)) (.t 21)⟩,⟨some 23, none,.conv .i64 (.t 22)⟩,⟨some 24, none,.bin .add (.t 19) (.t 23)⟩,⟨some 2, none,.asg (.t 24)⟩] [2] []
def Jtc:Qa1:=⟨[.t 2],[],(.seq z68r0 (.seq (.seq z68r1 (.cond (.t 4) (.seq z68r2 z68r3) .skip)) (.seq (.seq z68r4 (.cond (.t 8) (.seq z68r5 z68r6) .skip)) (.seq (.seq z68r7 (.cond (.t 14) (.seq z68r8 z68r9) .skip)) (.seq Qxy .ret)))))⟩
def Jqx:IC:=.reg [⟨some 2, none,.asg (.c (.slice none 0 0))⟩] [0] []
def Jv1:IC:=.reg [⟨some 3, none,.mv (.t 0)⟩,⟨some 4, none,.mv (.t 0)⟩,⟨some 5, none,.len (.t 4)⟩,⟨some 6, none,.mv (.t 0)⟩,⟨some 7, none,.len (.t 6)⟩,⟨some 8, none,.slc 1 (.t 3) none (some (.t 5)) (some (.t 7))⟩,⟨some 2, none,.asgm (.t 8)⟩] [0,2] []
def Jbk:Qa1:=⟨[.t 2],[],(.seq Jqx (.seq Jv1 .ret))⟩
def Jrj:IC:=.reg [⟨some 2, none,.asg (.c (.slice none 0 0))⟩] [0] []
def Jwx:IC:=.reg [⟨some 3, none,.mv (.t 0)⟩,⟨some 4, none,.mv (.t 0)⟩,⟨some 5, none,.len (.t 4)⟩,⟨some 6, none,.mv (.t 0)⟩,⟨some 7, none,.len (.t 6)⟩,⟨some 8, none,.slc 2 (.t 3) none (some (.t 5)) (some (.t 7))⟩,⟨some 2, none,.asgm (.t 8)⟩] [0,2] []
def Jcz:Qa1:=⟨[.t 2],[],(.seq Jrj (.seq Jwx .ret))⟩
def z70r0:IC:=.reg [⟨some 2, none,.asg (.c (.slice none 0 0))⟩] [0] []
def z70r1:IC:=.reg [⟨some 3, none,.mv (.t 0)⟩,⟨some 4, none,.mv (.t 0)⟩,⟨some 5, none,.len (.t 4)⟩,⟨some 6, none,.mv (.t 0)⟩,⟨some 7, none,.len (.t 6)⟩,⟨some 8, none,.slc 1 (.t 3) none (some (.t 5)) (some (.t 7))⟩,⟨some 2, none,.asgm (.t 8)⟩] [0,2] []
def zi70:Qa1:=⟨[.t 2],[],(.seq z70r0 (.seq z70r1 .ret))⟩
def z261r0:IC:=.reg [⟨some 2, none,.nilo 2⟩] [0] []
def Qy8:List IOp:=[⟨some 3, none,.mv (.t 0)⟩]
def Jph:IC:=.reg [⟨some 2, none,.nilo 2⟩] [2] []
def Jqe:IC:=.reg [⟨some 5, none,.bsl 2 [(vi 0),(vi 0)] 0 []⟩,⟨some 6, none,.mv (.t 0)⟩,⟨some 7, none,.app 2 (.t 5) (.t 6)⟩,⟨some 2, none,.asg (.t 7)⟩] [2] []
def Qys:Qa1:=⟨[.t 2],[],(.seq z261r0 (.nilc2 Qy8 (.t 3) 4 [0,4] (.cond (.t 4) (.seq Jph .ret) .skip) (.seq Jqe .ret)))⟩
def z71r0:IC:=.reg [⟨some 2, none,.nilo 1⟩] [0] []
def Jj8:List IOp:=[⟨some 3, none,.mv (.t 0)⟩]
def z71r2:IC:=.reg [⟨some 2, none,.nilo 1⟩] [2] []
def z71r3:IC:=.reg [⟨some 5, none,.bsl 1 [(vi 0)] 0 []⟩,⟨some 6, none,.mv (.t 0)⟩,⟨some 7, none,.app 1 (.t 5) (.t 6)⟩,⟨some 2, none,.asg (.t 7)⟩] [2] []
def zi71:Qa1:=⟨[.t 2],[],(.seq z71r0 (.nilc2 Jj8 (.t 3) 4 [0,4] (.cond (.t 4) (.seq z71r2 .ret) .skip) (.seq z71r3 .ret)))⟩
def z72r0:IC:=.reg [⟨some 4, none,.asg (.c (.bool false))⟩] [0,1] []
def z72r1:IC:=.reg [⟨some 5, none,.mv (.t 0)⟩,⟨some 6, none,.mv (.t 1)⟩,⟨some 7, none,.call Jnt [(.rd,(.t 5)),(.val,(.t 6))] false⟩,⟨some 8, none,.bin .geq (.t 7) (.c (vi 0))⟩,⟨some 4, none,.asg (.t 8)⟩] [4] []
def zi72:Qa1:=⟨[.t 4],[],(.seq z72r0 (.seq z72r1 .ret))⟩
def Jxn:IC:=.reg [⟨some 3, none,.box (.t 1)⟩,⟨some 4, none,.asg (.c (.bool false))⟩] [0,3] []
def Jrz:IC:=.reg [⟨some 5, none,.mv (.t 0)⟩,⟨some 6, none,.load true 2 (.t 3)⟩,⟨some 7, none,.call Qxs [(.rd,(.t 5)),(.val,(.t 6))] true⟩,⟨some 8, none,.bin .geq (.t 7) (.c (vi 0))⟩,⟨some 4, none,.asg (.t 8)⟩] [4] []
def Jd3:Qa1:=⟨[.t 4],[],(.seq Jxn (.seq Jrz .ret))⟩
def Jvn:IC:=.reg [⟨some 4, none,.asg (.c (.slice none 0 0))⟩] [0,1] []
def Jpo:IC:=.reg [⟨some 8, none,.mv (.t 0)⟩,⟨some 9, none,.mv (.t 1)⟩,⟨some 10, none,.call Qxh [(.ld,(.t 8)),(.val,(.t 9))] false⟩,⟨some 5, none,.asg (.t 10)⟩] [0,1,5] []
def Jpd:IC:=.reg [⟨some 11, none,.mv (.t 5)⟩,⟨some 12, none,.bin .eql (.t 11) (.c (vi (-1)))⟩] [0,1,5,12] []
def Jol:IC:=.reg [⟨some 13, none,.mv (.t 0)⟩,⟨some 4, none,.asgm (.t 13)⟩] [0,4] []
def Jon:IC:=.reg [⟨some 14, none,.mv (.t 5)⟩,⟨some 15, none,.bin .add (.t 14) (.c (vi 1))⟩,⟨some 6, none,.asg (.t 15)⟩] [0,1,5,6] []
def z265r5:IC:=.reg [⟨some 16, none,.mv (.t 6)⟩,⟨some 17, none,.mv (.t 0)⟩,⟨some 18, none,.len (.t 17)⟩,⟨some 19, none,.bin .lss (.t 16) (.t 18)⟩] [0,1,5,6,19] []
def Jrv:IC:=.reg [⟨some 22, none,.mv (.t 0)⟩,⟨some 23, none,.mv (.t 6)⟩,⟨some 24, none,.iadr 2 (.t 22) (.t 23)⟩,⟨some 25, none,.load true 2 (.t 24)⟩,⟨some 7, none,.alloc [(vi 0),(vi 0)]⟩,⟨none,none,.store 2 (.t 7) (.t 25)⟩] [0,1,5,6,7] []
def Jvs:IC:=.reg [⟨some 26, none,.mv (.t 1)⟩,⟨some 27, none,.load true 2 (.t 7)⟩,⟨some 28, none,.callv (.t 26) [(.val,(.t 27))]⟩,⟨some 29, none,.unop .not (.t 28)⟩] [0,1,5,6,7,29] []
def Jsx:IC:=.reg [⟨some 30, none,.mv (.t 0)⟩,⟨some 31, none,.mv (.t 5)⟩,⟨some 32, none,.load true 2 (.t 7)⟩,⟨some 33, none,.iadr 2 (.t 30) (.t 31)⟩,⟨none,none,.store 2 (.t 33) (.t 32)⟩] [0,1,5,6] []
def Jr1:IC:=.reg [⟨some 34, none,.mv (.t 5)⟩,⟨some 35, none,.bin .add (.t 34) (.c (vi 1))⟩,⟨some 5, none,.asg (.t 35)⟩] [0,1,5,6] []
def Jjw:IC:=.reg [⟨some 20, none,.mv (.t 6)⟩,⟨some 21, none,.bin .add (.t 20) (.c (vi 1))⟩,⟨some 6, none,.asg (.t 21)⟩] [0,1,5,6] []
def Ja6:IC:=(.seq (.seq z265r5 (.cond (.t 19) .skip (.exit 0))) (.seq (.block 1 (.seq Jrv (.seq Jvs (.cond (.t 29) (.seq Jsx Jr1) .skip)))) Jjw))
def Jm3:IC:=.reg [⟨some 36, none,.mv (.t 0)⟩,⟨some 37, none,.mv (.t 5)⟩,⟨some 38, none,.slc 2 (.t 36) (some (.t 37)) none none⟩,⟨none,none,.clr (.t 38) [(vi 0),(vi 0)]⟩] [0,5] []
def Jlf:IC:=.reg [⟨some 39, none,.mv (.t 0)⟩,⟨some 40, none,.mv (.t 5)⟩,⟨some 41, none,.slc 2 (.t 39) none (some (.t 40)) none⟩,⟨some 4, none,.asgm (.t 41)⟩] [0,4] []
def Qzn:Qa1:=⟨[.t 4],[],(.seq Jvn (.seq Jpo (.seq (.seq Jpd (.cond (.t 12) (.seq Jol .ret) .skip)) (.seq (.seq Jon (.block 0 (.loop Ja6))) (.seq Jm3 (.seq Jlf .ret))))))⟩
def z266r0:IC:=.reg [⟨some 4, none,.asg (.c (.slice none 0 0))⟩] [0,1] []
def Jpv:IC:=.reg [⟨some 8, none,.mv (.t 0)⟩,⟨some 9, none,.mv (.t 1)⟩,⟨some 10, none,.call Jay [(.ld,(.t 8)),(.val,(.t 9))] false⟩,⟨some 5, none,.asg (.t 10)⟩] [0,1,5] []
def Jrq:IC:=.reg [⟨some 11, none,.mv (.t 5)⟩,⟨some 12, none,.bin .eql (.t 11) (.c (vi (-1)))⟩] [0,1,5,12] []
def Jyq:IC:=.reg [⟨some 13, none,.mv (.t 0)⟩,⟨some 4, none,.asgm (.t 13)⟩] [0,4] []
def z266r4:IC:=.reg [⟨some 14, none,.mv (.t 5)⟩,⟨some 15, none,.bin .add (.t 14) (.c (vi 1))⟩,⟨some 6, none,.asg (.t 15)⟩] [0,1,5,6] []
def z266r5:IC:=.reg [⟨some 16, none,.mv (.t 6)⟩,⟨some 17, none,.mv (.t 0)⟩,⟨some 18, none,.len (.t 17)⟩,⟨some 19, none,.bin .lss (.t 16) (.t 18)⟩] [0,1,5,6,19] []
def z266r6:IC:=.reg [⟨some 22, none,.mv (.t 0)⟩,⟨some 23, none,.mv (.t 6)⟩,⟨some 24, none,.iadr 1 (.t 22) (.t 23)⟩,⟨some 25, none,.load false 1 (.t 24)⟩,⟨some 7, none,.asg (.t 25)⟩] [0,1,5,6,7] []
def Jrf:IC:=.reg [⟨some 26, none,.mv (.t 1)⟩,⟨some 27, none,.mv (.t 7)⟩,⟨some 28, none,.callv (.t 26) [(.val,(.t 27))]⟩,⟨some 29, none,.unop .not (.t 28)⟩] [0,1,5,6,7,29] []
def z266r8:IC:=.reg [⟨some 30, none,.mv (.t 0)⟩,⟨some 31, none,.mv (.t 5)⟩,⟨some 32, none,.mv (.t 7)⟩,⟨some 33, none,.iadr 1 (.t 30) (.t 31)⟩,⟨none,none,.store 1 (.t 33) (.t 32)⟩] [0,1,5,6] []
def Jy2:IC:=.reg [⟨some 34, none,.mv (.t 5)⟩,⟨some 35, none,.bin .add (.t 34) (.c (vi 1))⟩,⟨some 5, none,.asg (.t 35)⟩] [0,1,5,6] []
def Ji3:IC:=.reg [⟨some 20, none,.mv (.t 6)⟩,⟨some 21, none,.bin .add (.t 20) (.c (vi 1))⟩,⟨some 6, none,.asg (.t 21)⟩] [0,1,5,6] []
def Jbe:IC:=(.seq (.seq z266r5 (.cond (.t 19) .skip (.exit 0))) (.seq (.block 1 (.seq z266r6 (.seq Jrf (.cond (.t 29) (.seq z266r8 Jy2) .skip)))) Ji3))
def Jlp:IC:=.reg [⟨some 36, none,.mv (.t 0)⟩,⟨some 37, none,.mv (.t 5)⟩,⟨some 38, none,.slc 1 (.t 36) (some (.t 37)) none none⟩,⟨none,none,.clr (.t 38) [(vi 0)]⟩] [0,5] []
def Jmn:IC:=.reg [⟨some 39, none,.mv (.t 0)⟩,⟨some 40, none,.mv (.t 5)⟩,⟨some 41, none,.slc 1 (.t 39) none (some (.t 40)) none⟩,⟨some 4, none,.asgm (.t 41)⟩] [0,4] []
def Qwk:Qa1:=⟨[.t 4],[],(.seq z266r0 (.seq Jpv (.seq (.seq Jrq (.cond (.t 12) (.seq Jyq .ret) .skip)) (.seq (.seq z266r4 (.block 0 (.loop Jbe))) (.seq Jlp (.seq Jmn .ret))))))⟩
def z268r0:IC:=.reg [⟨some 4, none,.asg (.c (vi 0))⟩] [0,1] []
def Jwe:IC:=.reg [⟨some 6, none,.mv (.t 0)⟩,⟨some 7, none,.len (.t 6)⟩,⟨some 8, none,.mv (.c (vi 0))⟩] [0,1,7,8] []
def Jsp:IC:=.reg [⟨some 9, none,.bin .lss (.t 8) (.t 7)⟩] [0,1,7,8,9] []
def Jv3:IC:=.reg [⟨some 10, none,.asg (.t 8)⟩,⟨some 5, none,.asg (.t 10)⟩] [0,1,5,7,8] []
def z268r4:IC:=.reg [⟨some 11, none,.mv (.t 1)⟩,⟨some 12, none,.mv (.t 0)⟩,⟨some 13, none,.mv (.t 5)⟩,⟨some 14, none,.iadr 2 (.t 12) (.t 13)⟩,⟨some 15, none,.load true 2 (.t 14)⟩,⟨some 16, none,.callv (.t 11) [(.val,(.t 15))]⟩] [0,1,5,7,8,16] []
def Jvd:IC:=.reg [⟨some 17, none,.mv (.t 5)⟩,⟨some 4, none,.asgm (.t 17)⟩] [4] []
def Jur:IC:=.reg [⟨some 18, none,.bin .add (.t 8) (.c (vi 1))⟩,⟨some 8, none,.asg (.t 18)⟩] [0,1,7,8] []
def Jf9:IC:=(.seq Jsp (.seq (.cond (.t 9) .skip (.exit 0)) (.seq (.block 1 (.seq Jv3 (.seq z268r4 (.cond (.t 16) (.seq Jvd .ret) .skip)))) Jur)))
def z268r8:IC:=.reg [⟨some 4, none,.asg (.c (vi (-1)))⟩] [4] []
def Qy5:Qa1:=⟨[.t 4],[],(.seq z268r0 (.seq (.seq Jwe (.block 0 (.loop Jf9))) (.seq z268r8 .ret)))⟩
def Jq5:IC:=.reg [⟨some 4, none,.asg (.c (vi 0))⟩] [0,1] []
def z448r1:IC:=.reg [⟨some 6, none,.mv (.t 0)⟩,⟨some 7, none,.len (.t 6)⟩,⟨some 8, none,.mv (.c (vi 0))⟩] [0,1,7,8] []
def Js3:IC:=.reg [⟨some 9, none,.bin .lss (.t 8) (.t 7)⟩] [0,1,7,8,9] []
def z448r3:IC:=.reg [⟨some 10, none,.asg (.t 8)⟩,⟨some 5, none,.asg (.t 10)⟩] [0,1,5,7,8] []
def z448r4:IC:=.reg [⟨some 11, none,.mv (.t 1)⟩,⟨some 12, none,.mv (.t 0)⟩,⟨some 13, none,.mv (.t 5)⟩,⟨some 14, none,.iadr 2 (.t 12) (.t 13)⟩,⟨some 15, none,.load true 2 (.t 14)⟩,⟨some 16, none,.callv (.t 11) [(.val,(.t 15))]⟩] [0,1,5,7,8,16] []
def Jzk:IC:=.reg [⟨some 17, none,.mv (.t 5)⟩,⟨some 4, none,.asgm (.t 17)⟩] [0,4] []
def Jv5:IC:=.reg [⟨some 18, none,.bin .add (.t 8) (.c (vi 1))⟩,⟨some 8, none,.asg (.t 18)⟩] [0,1,7,8] []
def Jgz:IC:=(.seq Js3 (.seq (.cond (.t 9) .skip (.exit 0)) (.seq (.block 1 (.seq z448r3 (.seq z448r4 (.cond (.t 16) (.seq Jzk .ret) .skip)))) Jv5)))
def Jq4:IC:=.reg [⟨some 4, none,.asg (.c (vi (-1)))⟩] [0,4] []
def Jaa:Qa1:=⟨[.t 4],[0],(.seq Jq5 (.seq (.seq z448r1 (.block 0 (.loop Jgz))) (.seq Jq4 .ret)))⟩
def z73r0:IC:=.reg [⟨some 4, none,.asg (.c (vi 0))⟩] [0,1] []
def z73r1:IC:=.reg [⟨some 6, none,.mv (.t 0)⟩,⟨some 7, none,.len (.t 6)⟩,⟨some 8, none,.mv (.c (vi 0))⟩] [0,1,7,8] []
def z73r2:IC:=.reg [⟨some 9, none,.bin .lss (.t 8) (.t 7)⟩] [0,1,7,8,9] []
def z73r3:IC:=.reg [⟨some 10, none,.asg (.t 8)⟩,⟨some 5, none,.asg (.t 10)⟩] [0,1,5,7,8] []
def z73r4:IC:=.reg [⟨some 11, none,.mv (.t 1)⟩,⟨some 12, none,.mv (.t 0)⟩,⟨some 13, none,.mv (.t 5)⟩,⟨some 14, none,.iadr 1 (.t 12) (.t 13)⟩,⟨some 15, none,.load false 1 (.t 14)⟩,⟨some 16, none,.callv (.t 11) [(.val,(.t 15))]⟩] [0,1,5,7,8,16] []
def z73r5:IC:=.reg [⟨some 17, none,.mv (.t 5)⟩,⟨some 4, none,.asgm (.t 17)⟩] [4] []
def z73r6:IC:=.reg [⟨some 18, none,.bin .add (.t 8) (.c (vi 1))⟩,⟨some 8, none,.asg (.t 18)⟩] [0,1,7,8] []
def Jr4:IC:=(.seq z73r2 (.seq (.cond (.t 9) .skip (.exit 0)) (.seq (.block 1 (.seq z73r3 (.seq z73r4 (.cond (.t 16) (.seq z73r5 .ret) .skip)))) z73r6)))
def z73r8:IC:=.reg [⟨some 4, none,.asg (.c (vi (-1)))⟩] [4] []
def Jso:Qa1:=⟨[.t 4],[],(.seq z73r0 (.seq (.seq z73r1 (.block 0 (.loop Jr4))) (.seq z73r8 .ret)))⟩
def Jo7:IC:=.reg [⟨some 4, none,.asg (.c (vi 0))⟩] [0,1] []
def z449r1:IC:=.reg [⟨some 6, none,.mv (.t 0)⟩,⟨some 7, none,.len (.t 6)⟩,⟨some 8, none,.mv (.c (vi 0))⟩] [0,1,7,8] []
def Ju3:IC:=.reg [⟨some 9, none,.bin .lss (.t 8) (.t 7)⟩] [0,1,7,8,9] []
def Jz3:IC:=.reg [⟨some 10, none,.asg (.t 8)⟩,⟨some 5, none,.asg (.t 10)⟩] [0,1,5,7,8] []
def z449r4:IC:=.reg [⟨some 11, none,.mv (.t 1)⟩,⟨some 12, none,.mv (.t 0)⟩,⟨some 13, none,.mv (.t 5)⟩,⟨some 14, none,.iadr 1 (.t 12) (.t 13)⟩,⟨some 15, none,.load false 1 (.t 14)⟩,⟨some 16, none,.callv (.t 11) [(.val,(.t 15))]⟩] [0,1,5,7,8,16] []
def Jw1:IC:=.reg [⟨some 17, none,.mv (.t 5)⟩,⟨some 4, none,.asgm (.t 17)⟩] [0,4] []
def Jz1:IC:=.reg [⟨some 18, none,.bin .add (.t 8) (.c (vi 1))⟩,⟨some 8, none,.asg (.t 18)⟩] [0,1,7,8] []
def Jg0:IC:=(.seq Ju3 (.seq (.cond (.t 9) .skip (.exit 0)) (.seq (.block 1 (.seq Jz3 (.seq z449r4 (.cond (.t 16) (.seq Jw1 .ret) .skip)))) Jz1)))
def Jq3:IC:=.reg [⟨some 4, none,.asg (.c (vi (-1)))⟩] [0,4] []
def Qyv:Qa1:=⟨[.t 4],[0],(.seq Jo7 (.seq (.seq z449r1 (.block 0 (.loop Jg0))) (.seq Jq3 .ret)))⟩
def Jp9:IC:=.reg [⟨some 3, none,.box (.t 1)⟩,⟨some 4, none,.asg (.c (vi 0))⟩] [0,3] []
def Jt7:IC:=.reg [⟨some 6, none,.mv (.t 0)⟩,⟨some 7, none,.len (.t 6)⟩,⟨some 8, none,.mv (.c (vi 0))⟩] [0,3,7,8] []
def Ju1:IC:=.reg [⟨some 9, none,.bin .lss (.t 8) (.t 7)⟩] [0,3,7,8,9] []
def Jxm:IC:=.reg [⟨some 10, none,.asg (.t 8)⟩,⟨some 5, none,.asg (.t 10)⟩] [0,3,5,7,8] []
def Jst:IC:=.reg [⟨some 11, none,.load true 2 (.t 3)⟩,⟨some 12, none,.mv (.t 0)⟩,⟨some 13, none,.mv (.t 5)⟩,⟨some 14, none,.iadr 2 (.t 12) (.t 13)⟩,⟨some 15, none,.load true 2 (.t 14)⟩,⟨some 16, none,.eqa false 2 (.t 11) (.t 15)⟩] [0,3,5,7,8,16] []
def Jxd:IC:=.reg [⟨some 17, none,.mv (.t 5)⟩,⟨some 4, none,.asgm (.t 17)⟩] [4] []
def z269r6:IC:=.reg [⟨some 18, none,.bin .add (.t 8) (.c (vi 1))⟩,⟨some 8, none,.asg (.t 18)⟩] [0,3,7,8] []
def Jgx:IC:=(.seq Ju1 (.seq (.cond (.t 9) .skip (.exit 0)) (.seq (.block 1 (.seq Jxm (.seq Jst (.cond (.t 16) (.seq Jxd .ret) .skip)))) z269r6)))
def Jok:IC:=.reg [⟨some 4, none,.asg (.c (vi (-1)))⟩] [4] []
def Qwt:Qa1:=⟨[.t 4],[],(.seq Jp9 (.seq (.seq Jt7 (.block 0 (.loop Jgx))) (.seq Jok .ret)))⟩
def z75r0:IC:=.reg [⟨some 2, none,.asg (.c (vi 0))⟩] [0] []
def z75r1:IC:=.reg [⟨some 5, none,.mv (.t 0)⟩,⟨some 6, none,.len (.t 5)⟩,⟨some 7, none,.bin .lss (.t 6) (.c (vi 1))⟩] [0,7] []
def z75r2:IC:=.reg [⟨some 8, none,.halt⟩,⟨none,none,.halt⟩] [0] []
def z75r3:IC:=.reg [⟨some 9, none,.mv (.t 0)⟩,⟨some 10, none,.iadr 1 (.t 9) (.c (vi 0))⟩,⟨some 11, none,.load false 1 (.t 10)⟩,⟨some 3, none,.asg (.t 11)⟩] [0,3] []
def z75r4:IC:=.reg [⟨some 4, none,.asg (.c (vi 1))⟩] [0,3,4] []
def z75r5:IC:=.reg [⟨some 12, none,.mv (.t 4)⟩,⟨some 13, none,.mv (.t 0)⟩,⟨some 14, none,.len (.t 13)⟩,⟨some 15, none,.bin .lss (.t 12) (.t 14)⟩] [0,3,4,15] []
def z75r6:IC:=.reg [⟨some 18, none,.mv (.t 3)⟩,⟨some 19, none,.mv (.t 0)⟩,⟨some 20, none,.mv (.t 4)⟩,⟨some 21, none,.iadr 1 (.t 19) (.t 20)⟩,⟨some 22, none,.load false 1 (.t 21)⟩,⟨some 23, none,.minmax true (.t 18) (.t 22)⟩,⟨some 3, none,.asg (.t 23)⟩] [0,3,4] []
def z75r7:IC:=.reg [⟨some 16, none,.mv (.t 4)⟩,⟨some 17, none,.bin .add (.t 16) (.c (vi 1))⟩,⟨some 4, none,.asg (.t 17)⟩] [0,3,4] []
def Jus:IC:=(.seq (.seq z75r5 (.cond (.t 15) .skip (.exit 0))) (.seq (.block 1 z75r6) z75r7))
def z75r9:IC:=.reg [⟨some 24, none,.mv (.t 3)⟩,⟨some 2, none,.asgm (.t 24)⟩] [2] []
def zi75:Qa1:=⟨[.t 2],[],(.seq z75r0 (.seq (.seq z75r1 (.cond (.t 7) z75r2 .skip)) (.seq z75r3 (.seq (.seq z75r4 (.block 0 (.loop Jus))) (.seq z75r9 .ret)))))⟩
def z76r0:IC:=.reg [⟨some 4, none,.mv (.t 0)⟩,⟨some 5, none,.len (.t 4)⟩,⟨some 6, none,.bin .sub (.t 5) (.c (vi 1))⟩,⟨some 2, none,.asg (.c (vi 0))⟩,⟨some 3, none,.asg (.t 6)⟩] [0,2,3] []
def z76r1:IC:=.reg [⟨some 7, none,.mv (.t 2)⟩,⟨some 8, none,.mv (.t 3)⟩,⟨some 9, none,.bin .lss (.t 7) (.t 8)⟩] [0,2,3,9] []
def z76r2:IC:=.reg [⟨some 14, none,.mv (.t 0)⟩,⟨some 15, none,.mv (.t 2)⟩,⟨some 16, none,.mv (.t 0)⟩,⟨some 17, none,.mv (.t 3)⟩,⟨some 18, none,.mv (.t 0)⟩,⟨some 19, none,.mv (.t 3)⟩,⟨some 20, none,.iadr 1 (.t 18) (.t 19)⟩,⟨some 21, none,.load false 1 (.t 20)⟩,⟨some 22, none,.mv (.t 0)⟩,⟨some 23, none,.mv (.t 2)⟩,⟨some 24, none,.iadr 1 (.t 22) (.t 23)⟩,⟨some 25, none,.load false 1 (.t 24)⟩,⟨some 26, none,.iadr 1 (.t 14) (.t 15)⟩,⟨none,none,.store 1 (.t 26) (.t 21)⟩,⟨some 27, none,.iadr 1 (.t 16) (.t 17)⟩,⟨none,none,.store 1 (.t 27) (.t 25)⟩] [0,2,3] []
def z76r3:IC:=.reg [⟨some 10, none,.mv (.t 2)⟩,⟨some 11, none,.bin .add (.t 10) (.c (vi 1))⟩,⟨some 12, none,.mv (.t 3)⟩,⟨some 13, none,.bin .sub (.t 12) (.c (vi 1))⟩,⟨some 2, none,.asg (.t 11)⟩,⟨some 3, none,.asg (.t 13)⟩] [0,2,3] []
def Jpw:IC:=(.seq (.seq z76r1 (.cond (.t 9) .skip (.exit 0))) (.seq (.block 1 z76r2) z76r3))
def zi76:Qa1:=⟨[],[0],(.seq z76r0 (.block 0 (.loop Jpw)))⟩
def Jr0:IC:=.reg [⟨some 5, none,.mv (.t 0)⟩,⟨some 6, none,.len (.t 5)⟩,⟨some 4, none,.asg (.t 6)⟩] [0,1,4] []
def z272r1:IC:=.reg [⟨some 7, none,.mv (.t 0)⟩,⟨some 8, none,.mv (.t 4)⟩,⟨some 9, none,.mv (.t 4)⟩,⟨some 10, none,.conv .u64 (.t 9)⟩,⟨some 11, none,.call Jgi [(.val,(.t 10))] true⟩,⟨some 12, none,.mv (.t 1)⟩,⟨some 13, none,.call Qn8 [(.ld,(.t 7)),(.val,(.c (vi 0))),(.val,(.t 8)),(.val,(.t 11)),(.val,(.t 12))] false⟩] [0] []
def Jds:Qa1:=⟨[],[0],(.seq Jr0 z272r1)⟩
def Jqa:IC:=.reg [⟨some 4, none,.mv (.t 0)⟩,⟨some 5, none,.mv (.t 0)⟩,⟨some 6, none,.len (.t 5)⟩,⟨some 7, none,.mv (.t 1)⟩,⟨some 8, none,.call Qw5 [(.ld,(.t 4)),(.val,(.t 6)),(.val,(.t 7))] false⟩] [0] []
def Jea:Qa1:=⟨[],[0],Jqa⟩
def z78r0:IC:=.reg [⟨some 3, none,.mv (.t 0)⟩,⟨some 4, none,.len (.t 3)⟩,⟨some 2, none,.asg (.t 4)⟩] [0,2] []
def z78r1:IC:=.reg [⟨some 5, none,.mv (.t 0)⟩,⟨some 6, none,.mv (.t 2)⟩,⟨some 7, none,.mv (.t 2)⟩,⟨some 8, none,.conv .u64 (.t 7)⟩,⟨some 9, none,.call Jgi [(.val,(.t 8))] true⟩,⟨some 10, none,.call Qrs [(.ld,(.t 5)),(.val,(.c (vi 0))),(.val,(.t 6)),(.val,(.t 9))] false⟩] [0] []
def zi78:Qa1:=⟨[],[0],(.seq z78r0 z78r1)⟩
def Jwk:IC:=.reg [⟨some 13, none,.mv (.t 2)⟩,⟨some 14, none,.mv (.t 1)⟩,⟨some 15, none,.bin .sub (.t 13) (.t 14)⟩,⟨some 8, none,.asg (.t 15)⟩] [0,1,8] []
def Jx2:IC:=.reg [⟨some 16, none,.mv (.t 8)⟩,⟨some 17, none,.bin .geq (.t 16) (.c (vi 8))⟩] [0,1,8,17] []
def Jwb:IC:=.reg [⟨some 18, none,.mv (.t 8)⟩,⟨some 19, none,.conv .u64 (.t 18)⟩,⟨some 9, none,.alloc [(.int .u64 (0))]⟩,⟨none,none,.store 1 (.t 9) (.t 19)⟩] [0,1,8,9] []
def Jx4:IC:=.reg [⟨some 20, none,.mv (.t 8)⟩,⟨some 21, none,.call Juo [(.val,(.t 20))] true⟩,⟨some 10, none,.asg (.t 21)⟩] [0,1,8,9,10] []
def Jog:IC:=.reg [⟨some 22, none,.mv (.t 1)⟩,⟨some 23, none,.mv (.t 8)⟩,⟨some 24, none,.bin .quo (.t 23) (.c (vi 4))⟩,⟨some 25, none,.bin .mul (.t 24) (.c (vi 2))⟩,⟨some 26, none,.bin .add (.t 22) (.t 25)⟩,⟨some 27, none,.bin .sub (.t 26) (.c (vi 1))⟩,⟨some 11, none,.asg (.t 27)⟩] [0,1,8,9,10,11] []
def Js0:IC:=.reg [⟨some 28, none,.mv (.t 11)⟩,⟨some 29, none,.mv (.t 1)⟩,⟨some 30, none,.mv (.t 8)⟩,⟨some 31, none,.bin .quo (.t 30) (.c (vi 4))⟩,⟨some 32, none,.bin .mul (.t 31) (.c (vi 2))⟩,⟨some 33, none,.bin .add (.t 29) (.t 32)⟩,⟨some 34, none,.bin .add (.t 33) (.c (vi 1))⟩,⟨some 35, none,.bin .leq (.t 28) (.t 34)⟩] [0,1,8,9,10,11,35] []
def Jsn:IC:=.reg [⟨some 38, none,.call Qwv [(.val,(.t 9))] false⟩,⟨some 39, none,.mv (.t 10)⟩,⟨some 40, none,.bin .sub (.t 39) (.c (.int .u64 (1)))⟩,⟨some 41, none,.bin .and (.t 38) (.t 40)⟩,⟨some 42, none,.conv .i64 (.t 41)⟩,⟨some 12, none,.asg (.t 42)⟩] [0,1,8,9,10,11,12] []
def Jze:IC:=.reg [⟨some 43, none,.mv (.t 12)⟩,⟨some 44, none,.mv (.t 8)⟩,⟨some 45, none,.bin .geq (.t 43) (.t 44)⟩] [0,1,8,9,10,11,12,45] []
def Jw4:IC:=.reg [⟨some 46, none,.mv (.t 12)⟩,⟨some 47, none,.mv (.t 8)⟩,⟨some 48, none,.bin .sub (.t 46) (.t 47)⟩,⟨some 12, none,.asg (.t 48)⟩] [0,1,8,9,10,11,12] []
def Joh:IC:=.reg [⟨some 49, none,.mv (.t 0)⟩,⟨some 50, none,.mv (.t 11)⟩,⟨some 51, none,.mv (.t 0)⟩,⟨some 52, none,.mv (.t 1)⟩,⟨some 53, none,.mv (.t 12)⟩,⟨some 54, none,.bin .add (.t 52) (.t 53)⟩,⟨some 55, none,.mv (.t 0)⟩,⟨some 56, none,.mv (.t 1)⟩,⟨some 57, none,.mv (.t 12)⟩,⟨some 58, none,.bin .add (.t 56) (.t 57)⟩,⟨some 59, none,.iadr 2 (.t 55) (.t 58)⟩,⟨some 60, none,.load true 2 (.t 59)⟩,⟨some 61, none,.mv (.t 0)⟩,⟨some 62, none,.mv (.t 11)⟩,⟨some 63, none,.iadr 2 (.t 61) (.t 62)⟩,⟨some 64, none,.load true 2 (.t 63)⟩,⟨some 65, none,.iadr 2 (.t 49) (.t 50)⟩,⟨none,none,.store 2 (.t 65) (.t 60)⟩,⟨some 66, none,.iadr 2 (.t 51) (.t 54)⟩,⟨none,none,.store 2 (.t 66) (.t 64)⟩] [0,1,8,9,10,11] []
def Jh7:IC:=.reg [⟨some 36, none,.mv (.t 11)⟩,⟨some 37, none,.bin .add (.t 36) (.c (vi 1))⟩,⟨some 11, none,.asg (.t 37)⟩] [0,1,8,9,10,11] []
def Qw1:IC:=(.seq (.seq Js0 (.cond (.t 35) .skip (.exit 0))) (.seq (.block 1 (.seq Jsn (.seq (.seq Jze (.cond (.t 45) Jw4 .skip)) Joh))) Jh7))
def Je1:Qa1:=⟨[],[0],(.seq Jwk (.seq Jx2 (.cond (.t 17) (.seq Jwb (.seq Jx4 (.seq Jog (.block 0 (.loop Qw1))))) .skip)))⟩
def z450r0:IC:=.reg [⟨some 8, none,.asg (.c (vi 0))⟩,⟨some 9, none,.asg (.c (vi 0))⟩] [0,1,2,3] []
def Jx1:IC:=.reg [⟨some 15, none,.mv (.t 2)⟩,⟨some 16, none,.mv (.t 1)⟩,⟨some 17, none,.bin .sub (.t 15) (.t 16)⟩,⟨some 10, none,.asg (.t 17)⟩] [0,1,3,10] []
def Jy0:IC:=.reg [⟨some 11, none,.alloc [(vi 0)]⟩] [0,1,3,10,11] []
def Jyy:IC:=.reg [⟨some 18, none,.mv (.t 1)⟩,⟨some 19, none,.mv (.t 10)⟩,⟨some 20, none,.bin .quo (.t 19) (.c (vi 4))⟩,⟨some 21, none,.bin .mul (.t 20) (.c (vi 1))⟩,⟨some 22, none,.bin .add (.t 18) (.t 21)⟩,⟨some 12, none,.asg (.t 22)⟩] [0,1,3,10,11,12] []
def Jx3:IC:=.reg [⟨some 23, none,.mv (.t 1)⟩,⟨some 24, none,.mv (.t 10)⟩,⟨some 25, none,.bin .quo (.t 24) (.c (vi 4))⟩,⟨some 26, none,.bin .mul (.t 25) (.c (vi 2))⟩,⟨some 27, none,.bin .add (.t 23) (.t 26)⟩,⟨some 13, none,.asg (.t 27)⟩] [0,1,3,10,11,12,13] []
def z450r5:IC:=.reg [⟨some 28, none,.mv (.t 1)⟩,⟨some 29, none,.mv (.t 10)⟩,⟨some 30, none,.bin .quo (.t 29) (.c (vi 4))⟩,⟨some 31, none,.bin .mul (.t 30) (.c (vi 3))⟩,⟨some 32, none,.bin .add (.t 28) (.t 31)⟩,⟨some 14, none,.asg (.t 32)⟩] [0,3,10,11,12,13,14] []
def Jyf:IC:=.reg [⟨some 33, none,.mv (.t 10)⟩,⟨some 34, none,.bin .geq (.t 33) (.c (vi 8))⟩] [0,3,10,11,12,13,14,34] []
def Jy7:IC:=.reg [⟨some 35, none,.mv (.t 10)⟩,⟨some 36, none,.bin .geq (.t 35) (.c (vi 50))⟩] [0,3,11,12,13,14,36] []
def Jqb:IC:=.reg [⟨some 37, none,.mv (.t 0)⟩,⟨some 38, none,.mv (.t 12)⟩,⟨some 39, none,.mv (.t 3)⟩,⟨some 40, none,.call Jfg [(.ld,(.t 37)),(.val,(.t 38)),(.val,(.t 11)),(.val,(.t 39))] false⟩,⟨some 12, none,.asg (.t 40)⟩] [0,3,11,12,13,14] []
def Jzp:IC:=.reg [⟨some 41, none,.mv (.t 0)⟩,⟨some 42, none,.mv (.t 13)⟩,⟨some 43, none,.mv (.t 3)⟩,⟨some 44, none,.call Jfg [(.ld,(.t 41)),(.val,(.t 42)),(.val,(.t 11)),(.val,(.t 43))] false⟩,⟨some 13, none,.asg (.t 44)⟩] [0,3,11,12,13,14] []
def Jlq:IC:=.reg [⟨some 45, none,.mv (.t 0)⟩,⟨some 46, none,.mv (.t 14)⟩,⟨some 47, none,.mv (.t 3)⟩,⟨some 48, none,.call Jfg [(.ld,(.t 45)),(.val,(.t 46)),(.val,(.t 11)),(.val,(.t 47))] false⟩,⟨some 14, none,.asg (.t 48)⟩] [0,3,11,12,13,14] []
def Jl6:IC:=.reg [⟨some 49, none,.mv (.t 0)⟩,⟨some 50, none,.mv (.t 12)⟩,⟨some 51, none,.mv (.t 13)⟩,⟨some 52, none,.mv (.t 14)⟩,⟨some 53, none,.mv (.t 3)⟩,⟨some 54, none,.call Jaf [(.ld,(.t 49)),(.val,(.t 50)),(.val,(.t 51)),(.val,(.t 52)),(.val,(.t 11)),(.val,(.t 53))] false⟩,⟨some 13, none,.asg (.t 54)⟩] [0,11,13] []
def Jmd:IC:=.reg [⟨some 55, none,.load false 1 (.t 11)⟩] [0,13,55] []
def Jiz:IC:=.reg [⟨some 58, none,.bin .eql (.t 55) (.c (vi 0))⟩,⟨some 57, none,.asg (.t 58)⟩] [0,13,55,57] []
def Jmf:IC:=.reg [⟨some 59, none,.mv (.t 13)⟩,⟨some 8, none,.asgm (.t 59)⟩,⟨some 9, none,.asg (.c (vi 1))⟩] [0,8,9] []
def Jjv:IC:=.reg [⟨some 61, none,.bin .eql (.t 55) (.c (vi 12))⟩,⟨some 60, none,.asg (.t 61)⟩] [0,13,60] []
def Jl7:IC:=.reg [⟨some 62, none,.mv (.t 13)⟩,⟨some 8, none,.asgm (.t 62)⟩,⟨some 9, none,.asg (.c (vi 2))⟩] [0,8,9] []
def Jkt:IC:=.reg [⟨some 56, none,.mv (.t 13)⟩,⟨some 8, none,.asgm (.t 56)⟩,⟨some 9, none,.asg (.c (vi 0))⟩] [0,8,9] []
def Jau:Qa1:=⟨[.t 8,.t 9],[0],(.seq z450r0 (.seq Jx1 (.seq Jy0 (.seq Jyy (.seq Jx3 (.seq z450r5 (.seq (.seq Jyf (.cond (.t 34) (.seq (.seq Jy7 (.cond (.t 36) (.seq Jqb (.seq Jzp Jlq)) .skip)) Jl6) .skip)) (.seq Jmd (.block 0 (.seq Jiz (.cond (.t 57) (.seq Jmf .ret) (.seq Jjv (.cond (.t 60) (.seq Jl7 .ret) (.seq Jkt .ret))))))))))))))⟩
def z277r0:IC:=.reg [⟨some 10, none,.mv (.t 1)⟩,⟨some 11, none,.bin .add (.t 10) (.c (vi 1))⟩,⟨some 8, none,.asg (.t 11)⟩] [0,1,2,3,8] []
def Jv9:IC:=.reg [⟨some 12, none,.mv (.t 8)⟩,⟨some 13, none,.mv (.t 2)⟩,⟨some 14, none,.bin .lss (.t 12) (.t 13)⟩] [0,1,2,3,8,14] []
def Jqd:IC:=.reg [⟨some 17, none,.mv (.t 8)⟩,⟨some 9, none,.asg (.t 17)⟩] [0,1,2,3,8,9] []
def Jrn:IC:=.reg [⟨some 18, none,.mv (.t 9)⟩,⟨some 19, none,.mv (.t 1)⟩,⟨some 20, none,.bin .gtr (.t 18) (.t 19)⟩,⟨some 21, none,.asg (.t 20)⟩,⟨some 22, (some (21,true)),.mv (.t 3)⟩,⟨some 23, (some (21,true)),.mv (.t 0)⟩,⟨some 24, (some (21,true)),.mv (.t 9)⟩,⟨some 25, (some (21,true)),.iadr 2 (.t 23) (.t 24)⟩,⟨some 26, (some (21,true)),.load true 2 (.t 25)⟩,⟨some 27, (some (21,true)),.mv (.t 0)⟩,⟨some 28, (some (21,true)),.mv (.t 9)⟩,⟨some 29, (some (21,true)),.bin .sub (.t 28) (.c (vi 1))⟩,⟨some 30, (some (21,true)),.iadr 2 (.t 27) (.t 29)⟩,⟨some 31, (some (21,true)),.load true 2 (.t 30)⟩,⟨some 32, (some (21,true)),.callv (.t 22) [(.val,(.t 26)),(.val,(.t 31))]⟩,⟨some 33, (some (21,true)),.bin .lss (.t 32) (.c (vi 0))⟩,⟨some 34, none,.pick (.t 21) (.t 33) (.c (.bool false))⟩] [0,1,2,3,8,9,34] []
def z277r4:IC:=.reg [⟨some 37, none,.mv (.t 0)⟩,⟨some 38, none,.mv (.t 9)⟩,⟨some 39, none,.mv (.t 0)⟩,⟨some 40, none,.mv (.t 9)⟩,⟨some 41, none,.bin .sub (.t 40) (.c (vi 1))⟩,⟨some 42, none,.mv (.t 0)⟩,⟨some 43, none,.mv (.t 9)⟩,⟨some 44, none,.bin .sub (.t 43) (.c (vi 1))⟩,⟨some 45, none,.iadr 2 (.t 42) (.t 44)⟩,⟨some 46, none,.load true 2 (.t 45)⟩,⟨some 47, none,.mv (.t 0)⟩,⟨some 48, none,.mv (.t 9)⟩,⟨some 49, none,.iadr 2 (.t 47) (.t 48)⟩,⟨some 50, none,.load true 2 (.t 49)⟩,⟨some 51, none,.iadr 2 (.t 37) (.t 38)⟩,⟨none,none,.store 2 (.t 51) (.t 46)⟩,⟨some 52, none,.iadr 2 (.t 39) (.t 41)⟩,⟨none,none,.store 2 (.t 52) (.t 50)⟩] [0,1,2,3,8,9] []
def Jy3:IC:=.reg [⟨some 35, none,.mv (.t 9)⟩,⟨some 36, none,.bin .sub (.t 35) (.c (vi 1))⟩,⟨some 9, none,.asg (.t 36)⟩] [0,1,2,3,8,9] []
def Jf0:IC:=(.seq (.seq Jrn (.cond (.t 34) .skip (.exit 2))) (.seq (.block 3 z277r4) Jy3))
def z277r7:IC:=.reg [⟨some 15, none,.mv (.t 8)⟩,⟨some 16, none,.bin .add (.t 15) (.c (vi 1))⟩,⟨some 8, none,.asg (.t 16)⟩] [0,1,2,3,8] []
def Jgo:IC:=(.seq (.seq Jv9 (.cond (.t 14) .skip (.exit 0))) (.seq (.block 1 (.seq Jqd (.block 2 (.loop Jf0)))) z277r7))
def Qv7:Qa1:=⟨[],[0],(.seq z277r0 (.block 0 (.loop Jgo)))⟩
def Js5:IC:=.reg [⟨some 10, none,.mv (.t 1)⟩,⟨some 11, none,.bin .add (.t 10) (.c (vi 1))⟩,⟨some 8, none,.asg (.t 11)⟩] [0,1,2,3,8] []
def Jrg:IC:=.reg [⟨some 12, none,.mv (.t 8)⟩,⟨some 13, none,.mv (.t 2)⟩,⟨some 14, none,.bin .lss (.t 12) (.t 13)⟩] [0,1,2,3,8,14] []
def z278r2:IC:=.reg [⟨some 17, none,.mv (.t 8)⟩,⟨some 9, none,.asg (.t 17)⟩] [0,1,2,3,8,9] []
def Jq8:IC:=.reg [⟨some 18, none,.mv (.t 9)⟩,⟨some 19, none,.mv (.t 1)⟩,⟨some 20, none,.bin .gtr (.t 18) (.t 19)⟩,⟨some 21, none,.asg (.t 20)⟩,⟨some 22, (some (21,true)),.mv (.t 3)⟩,⟨some 23, (some (21,true)),.mv (.t 0)⟩,⟨some 24, (some (21,true)),.mv (.t 9)⟩,⟨some 25, (some (21,true)),.iadr 1 (.t 23) (.t 24)⟩,⟨some 26, (some (21,true)),.load false 1 (.t 25)⟩,⟨some 27, (some (21,true)),.mv (.t 0)⟩,⟨some 28, (some (21,true)),.mv (.t 9)⟩,⟨some 29, (some (21,true)),.bin .sub (.t 28) (.c (vi 1))⟩,⟨some 30, (some (21,true)),.iadr 1 (.t 27) (.t 29)⟩,⟨some 31, (some (21,true)),.load false 1 (.t 30)⟩,⟨some 32, (some (21,true)),.callv (.t 22) [(.val,(.t 26)),(.val,(.t 31))]⟩,⟨some 33, (some (21,true)),.bin .lss (.t 32) (.c (vi 0))⟩,⟨some 34, none,.pick (.t 21) (.t 33) (.c (.bool false))⟩] [0,1,2,3,8,9,34] []
def Jos:IC:=.reg [⟨some 37, none,.mv (.t 0)⟩,⟨some 38, none,.mv (.t 9)⟩,⟨some 39, none,.mv (.t 0)⟩,⟨some 40, none,.mv (.t 9)⟩,⟨some 41, none,.bin .sub (.t 40) (.c (vi 1))⟩,⟨some 42, none,.mv (.t 0)⟩,⟨some 43, none,.mv (.t 9)⟩,⟨some 44, none,.bin .sub (.t 43) (.c (vi 1))⟩,⟨some 45, none,.iadr 1 (.t 42) (.t 44)⟩,⟨some 46, none,.load false 1 (.t 45)⟩,⟨some 47, none,.mv (.t 0)⟩,⟨some 48, none,.mv (.t 9)⟩,⟨some 49, none,.iadr 1 (.t 47) (.t 48)⟩,⟨some 50, none,.load false 1 (.t 49)⟩,⟨some 51, none,.iadr 1 (.t 37) (.t 38)⟩,⟨none,none,.store 1 (.t 51) (.t 46)⟩,⟨some 52, none,.iadr 1 (.t 39) (.t 41)⟩,⟨none,none,.store 1 (.t 52) (.t 50)⟩] [0,1,2,3,8,9] []
def Jza:IC:=.reg [⟨some 35, none,.mv (.t 9)⟩,⟨some 36, none,.bin .sub (.t 35) (.c (vi 1))⟩,⟨some 9, none,.asg (.t 36)⟩] [0,1,2,3,8,9] []
def Jg8:IC:=(.seq (.seq Jq8 (.cond (.t 34) .skip (.exit 2))) (.seq (.block 3 Jos) Jza))
def Jsm:IC:=.reg [⟨some 15, none,.mv (.t 8)⟩,⟨some 16, none,.bin .add (.t 15) (.c (vi 1))⟩,⟨some 8, none,.asg (.t 16)⟩] [0,1,2,3,8] []
def Jhd:IC:=(.seq (.seq Jrg (.cond (.t 14) .skip (.exit 0))) (.seq (.block 1 (.seq z278r2 (.block 2 (.loop Jg8)))) Jsm))
def Qv6:Qa1:=⟨[],[0],(.seq Js5 (.block 0 (.loop Jhd)))⟩
def z86r0:IC:=.reg [⟨some 8, none,.mv (.t 1)⟩,⟨some 9, none,.bin .add (.t 8) (.c (vi 1))⟩,⟨some 6, none,.asg (.t 9)⟩] [0,1,2,6] []
def z86r1:IC:=.reg [⟨some 10, none,.mv (.t 6)⟩,⟨some 11, none,.mv (.t 2)⟩,⟨some 12, none,.bin .lss (.t 10) (.t 11)⟩] [0,1,2,6,12] []
def z86r2:IC:=.reg [⟨some 15, none,.mv (.t 6)⟩,⟨some 7, none,.asg (.t 15)⟩] [0,1,2,6,7] []
def z86r3:IC:=.reg [⟨some 16, none,.mv (.t 7)⟩,⟨some 17, none,.mv (.t 1)⟩,⟨some 18, none,.bin .gtr (.t 16) (.t 17)⟩,⟨some 19, none,.asg (.t 18)⟩,⟨some 20, (some (19,true)),.mv (.t 0)⟩,⟨some 21, (some (19,true)),.mv (.t 7)⟩,⟨some 22, (some (19,true)),.iadr 1 (.t 20) (.t 21)⟩,⟨some 23, (some (19,true)),.load false 1 (.t 22)⟩,⟨some 24, (some (19,true)),.mv (.t 0)⟩,⟨some 25, (some (19,true)),.mv (.t 7)⟩,⟨some 26, (some (19,true)),.bin .sub (.t 25) (.c (vi 1))⟩,⟨some 27, (some (19,true)),.iadr 1 (.t 24) (.t 26)⟩,⟨some 28, (some (19,true)),.load false 1 (.t 27)⟩,⟨some 29, (some (19,true)),.call zl2 [(.val,(.t 23)),(.val,(.t 28))] true⟩,⟨some 30, none,.pick (.t 19) (.t 29) (.c (.bool false))⟩] [0,1,2,6,7,30] []
def z86r4:IC:=.reg [⟨some 33, none,.mv (.t 0)⟩,⟨some 34, none,.mv (.t 7)⟩,⟨some 35, none,.mv (.t 0)⟩,⟨some 36, none,.mv (.t 7)⟩,⟨some 37, none,.bin .sub (.t 36) (.c (vi 1))⟩,⟨some 38, none,.mv (.t 0)⟩,⟨some 39, none,.mv (.t 7)⟩,⟨some 40, none,.bin .sub (.t 39) (.c (vi 1))⟩,⟨some 41, none,.iadr 1 (.t 38) (.t 40)⟩,⟨some 42, none,.load false 1 (.t 41)⟩,⟨some 43, none,.mv (.t 0)⟩,⟨some 44, none,.mv (.t 7)⟩,⟨some 45, none,.iadr 1 (.t 43) (.t 44)⟩,⟨some 46, none,.load false 1 (.t 45)⟩,⟨some 47, none,.iadr 1 (.t 33) (.t 34)⟩,⟨none,none,.store 1 (.t 47) (.t 42)⟩,⟨some 48, none,.iadr 1 (.t 35) (.t 37)⟩,⟨none,none,.store 1 (.t 48) (.t 46)⟩] [0,1,2,6,7] []
def z86r5:IC:=.reg [⟨some 31, none,.mv (.t 7)⟩,⟨some 32, none,.bin .sub (.t 31) (.c (vi 1))⟩,⟨some 7, none,.asg (.t 32)⟩] [0,1,2,6,7] []
def Job:IC:=(.seq (.seq z86r3 (.cond (.t 30) .skip (.exit 2))) (.seq (.block 3 z86r4) z86r5))
def z86r7:IC:=.reg [⟨some 13, none,.mv (.t 6)⟩,⟨some 14, none,.bin .add (.t 13) (.c (vi 1))⟩,⟨some 6, none,.asg (.t 14)⟩] [0,1,2,6] []
def Ju8:IC:=(.seq (.seq z86r1 (.cond (.t 12) .skip (.exit 0))) (.seq (.block 1 (.seq z86r2 (.block 2 (.loop Job)))) z86r7))
def zi86:Qa1:=⟨[],[0],(.seq z86r0 (.block 0 (.loop Ju8)))⟩
def Jw9:IC:=.reg [⟨some 12, none,.asg (.c (vi 0))⟩] [0,1,2,3,4,5] []
def z454r1:IC:=.reg [⟨some 14, none,.mv (.t 0)⟩,⟨some 15, none,.mv (.t 1)⟩,⟨some 16, none,.mv (.t 2)⟩,⟨some 17, none,.mv (.t 4)⟩,⟨some 18, none,.mv (.t 5)⟩,⟨some 19, none,.call Qp7 [(.ld,(.t 14)),(.val,(.t 15)),(.val,(.t 16)),(.val,(.t 17)),(.val,(.t 18))] false⟩,⟨some 13, none,.asg (.t 19)⟩,⟨some 20, none,.extr (.t 13) 0⟩,⟨some 21, none,.extr (.t 13) 1⟩,⟨some 1, none,.asg (.t 20)⟩,⟨some 2, none,.asg (.t 21)⟩] [0,1,2,3,4,5] []
def Joy:IC:=.reg [⟨some 23, none,.mv (.t 0)⟩,⟨some 24, none,.mv (.t 2)⟩,⟨some 25, none,.mv (.t 3)⟩,⟨some 26, none,.mv (.t 4)⟩,⟨some 27, none,.mv (.t 5)⟩,⟨some 28, none,.call Qp7 [(.ld,(.t 23)),(.val,(.t 24)),(.val,(.t 25)),(.val,(.t 26)),(.val,(.t 27))] false⟩,⟨some 22, none,.asg (.t 28)⟩,⟨some 29, none,.extr (.t 22) 0⟩,⟨some 30, none,.extr (.t 22) 1⟩,⟨some 2, none,.asg (.t 29)⟩,⟨some 3, none,.asg (.t 30)⟩] [0,1,2,4,5] []
def Jul:IC:=.reg [⟨some 32, none,.mv (.t 0)⟩,⟨some 33, none,.mv (.t 1)⟩,⟨some 34, none,.mv (.t 2)⟩,⟨some 35, none,.mv (.t 4)⟩,⟨some 36, none,.mv (.t 5)⟩,⟨some 37, none,.call Qp7 [(.ld,(.t 32)),(.val,(.t 33)),(.val,(.t 34)),(.val,(.t 35)),(.val,(.t 36))] false⟩,⟨some 31, none,.asg (.t 37)⟩,⟨some 38, none,.extr (.t 31) 0⟩,⟨some 39, none,.extr (.t 31) 1⟩,⟨some 1, none,.asg (.t 38)⟩,⟨some 2, none,.asg (.t 39)⟩] [0,2] []
def Jqq:IC:=.reg [⟨some 40, none,.mv (.t 2)⟩,⟨some 12, none,.asgm (.t 40)⟩] [0,12] []
def Jcr:Qa1:=⟨[.t 12],[0],(.seq Jw9 (.seq z454r1 (.seq Joy (.seq Jul (.seq Jqq .ret)))))⟩
def z91r0:IC:=.reg [⟨some 2, none,.asg (.c (.int .u64 (0)))⟩] [0] []
def z91r1:IC:=.reg [⟨some 3, none,.mv (.t 0)⟩,⟨some 4, none,.conv .u64 (.t 3)⟩,⟨some 5, none,.call Jgi [(.val,(.t 4))] true⟩,⟨some 6, none,.bin .shl (.c (.int .u64 (1))) (.t 5)⟩,⟨some 2, none,.asg (.t 6)⟩] [2] []
def Jom:Qa1:=⟨[.t 2],[],(.seq z91r0 (.seq z91r1 .ret))⟩
def Jvr:IC:=.reg [⟨some 10, none,.asg (.c (vi 0))⟩,⟨some 11, none,.asg (.c (vi 0))⟩] [0,1,2,3,4] []
def Jtx:IC:=.reg [⟨some 12, none,.mv (.t 4)⟩,⟨some 13, none,.mv (.t 0)⟩,⟨some 14, none,.mv (.t 2)⟩,⟨some 15, none,.iadr 2 (.t 13) (.t 14)⟩,⟨some 16, none,.load true 2 (.t 15)⟩,⟨some 17, none,.mv (.t 0)⟩,⟨some 18, none,.mv (.t 1)⟩,⟨some 19, none,.iadr 2 (.t 17) (.t 18)⟩,⟨some 20, none,.load true 2 (.t 19)⟩,⟨some 21, none,.callv (.t 12) [(.val,(.t 16)),(.val,(.t 20))]⟩,⟨some 22, none,.bin .lss (.t 21) (.c (vi 0))⟩] [0,1,2,3,22] []
def Juc:IC:=.reg [⟨some 23, none,.mv (.t 3)⟩,⟨some 24, none,.nilck (.t 23)⟩,⟨some 25, none,.load false 1 (.t 24)⟩,⟨some 26, none,.bin .add (.t 25) (.c (vi 1))⟩,⟨some 27, none,.nilck (.t 23)⟩,⟨none,none,.store 1 (.t 27) (.t 26)⟩] [0,1,2] []
def Jt0:IC:=.reg [⟨some 28, none,.mv (.t 2)⟩,⟨some 29, none,.mv (.t 1)⟩,⟨some 10, none,.asgm (.t 28)⟩,⟨some 11, none,.asgm (.t 29)⟩] [0,10,11] []
def Jvz:IC:=.reg [⟨some 30, none,.mv (.t 1)⟩,⟨some 31, none,.mv (.t 2)⟩,⟨some 10, none,.asgm (.t 30)⟩,⟨some 11, none,.asgm (.t 31)⟩] [0,10,11] []
def Jbw:Qa1:=⟨[.t 10,.t 11],[0],(.seq Jvr (.seq (.seq Jtx (.cond (.t 22) (.seq Juc (.seq Jt0 .ret)) .skip)) (.seq Jvz .ret)))⟩
def Jsv:IC:=.reg [⟨some 8, none,.asg (.c (.bool false))⟩] [0,1,2,3] []
def Jtw:IC:=.reg [⟨some 13, none,.mv (.t 1)⟩,⟨some 14, none,.bin .add (.t 13) (.c (vi 1))⟩,⟨some 9, none,.asg (.t 14)⟩] [0,1,2,3,9] []
def z282r2:IC:=.reg [⟨some 10, none,.asg (.c (vi 0))⟩] [0,1,2,3,9,10] []
def z282r3:IC:=.reg [⟨some 15, none,.mv (.t 10)⟩,⟨some 16, none,.bin .lss (.t 15) (.c (vi 5))⟩] [0,1,2,3,9,10,16] []
def Jzw:IC:=.reg [⟨some 19, none,.mv (.t 9)⟩,⟨some 20, none,.mv (.t 2)⟩,⟨some 21, none,.bin .lss (.t 19) (.t 20)⟩,⟨some 22, none,.asg (.t 21)⟩,⟨some 23, (some (22,true)),.mv (.t 3)⟩,⟨some 24, (some (22,true)),.mv (.t 0)⟩,⟨some 25, (some (22,true)),.mv (.t 9)⟩,⟨some 26, (some (22,true)),.iadr 2 (.t 24) (.t 25)⟩,⟨some 27, (some (22,true)),.load true 2 (.t 26)⟩,⟨some 28, (some (22,true)),.mv (.t 0)⟩,⟨some 29, (some (22,true)),.mv (.t 9)⟩,⟨some 30, (some (22,true)),.bin .sub (.t 29) (.c (vi 1))⟩,⟨some 31, (some (22,true)),.iadr 2 (.t 28) (.t 30)⟩,⟨some 32, (some (22,true)),.load true 2 (.t 31)⟩,⟨some 33, (some (22,true)),.callv (.t 23) [(.val,(.t 27)),(.val,(.t 32))]⟩,⟨some 34, (some (22,true)),.bin .lss (.t 33) (.c (vi 0))⟩,⟨some 35, (some (22,true)),.unop .not (.t 34)⟩,⟨some 36, none,.pick (.t 22) (.t 35) (.c (.bool false))⟩] [0,1,2,3,9,10,36] []
def Jzs:IC:=.reg [⟨some 37, none,.mv (.t 9)⟩,⟨some 38, none,.bin .add (.t 37) (.c (vi 1))⟩,⟨some 9, none,.asg (.t 38)⟩] [0,1,2,3,9,10] []
def Jgj:IC:=(.seq (.seq Jzw (.cond (.t 36) .skip (.exit 2))) (.block 3 Jzs))
def Jw8:IC:=.reg [⟨some 39, none,.mv (.t 9)⟩,⟨some 40, none,.mv (.t 2)⟩,⟨some 41, none,.bin .eql (.t 39) (.t 40)⟩] [0,1,2,3,9,10,41] []
def Jr5:IC:=.reg [⟨some 8, none,.asg (.c (.bool true))⟩] [0,8] []
def Jr9:IC:=.reg [⟨some 42, none,.mv (.t 2)⟩,⟨some 43, none,.mv (.t 1)⟩,⟨some 44, none,.bin .sub (.t 42) (.t 43)⟩,⟨some 45, none,.bin .lss (.t 44) (.c (vi 50))⟩] [0,1,2,3,9,10,45] []
def Jlr:IC:=.reg [⟨some 8, none,.asg (.c (.bool false))⟩] [0,8] []
def Jj5:IC:=.reg [⟨some 46, none,.mv (.t 0)⟩,⟨some 47, none,.mv (.t 9)⟩,⟨some 48, none,.mv (.t 0)⟩,⟨some 49, none,.mv (.t 9)⟩,⟨some 50, none,.bin .sub (.t 49) (.c (vi 1))⟩,⟨some 51, none,.mv (.t 0)⟩,⟨some 52, none,.mv (.t 9)⟩,⟨some 53, none,.bin .sub (.t 52) (.c (vi 1))⟩,⟨some 54, none,.iadr 2 (.t 51) (.t 53)⟩,⟨some 55, none,.load true 2 (.t 54)⟩,⟨some 56, none,.mv (.t 0)⟩,⟨some 57, none,.mv (.t 9)⟩,⟨some 58, none,.iadr 2 (.t 56) (.t 57)⟩,⟨some 59, none,.load true 2 (.t 58)⟩,⟨some 60, none,.iadr 2 (.t 46) (.t 47)⟩,⟨none,none,.store 2 (.t 60) (.t 55)⟩,⟨some 61, none,.iadr 2 (.t 48) (.t 50)⟩,⟨none,none,.store 2 (.t 61) (.t 59)⟩] [0,1,2,3,9,10] []
def Jja:IC:=.reg [⟨some 62, none,.mv (.t 9)⟩,⟨some 63, none,.mv (.t 1)⟩,⟨some 64, none,.bin .sub (.t 62) (.t 63)⟩,⟨some 65, none,.bin .geq (.t 64) (.c (vi 2))⟩] [0,1,2,3,9,10,65] []
def Jm5:IC:=.reg [⟨some 66, none,.mv (.t 9)⟩,⟨some 67, none,.bin .sub (.t 66) (.c (vi 1))⟩,⟨some 11, none,.asg (.t 67)⟩] [0,1,2,3,9,10,11] []
def Jms:IC:=.reg [⟨some 68, none,.mv (.t 11)⟩,⟨some 69, none,.bin .geq (.t 68) (.c (vi 1))⟩] [0,1,2,3,9,10,11,69] []
def Jjl:IC:=.reg [⟨some 72, none,.mv (.t 3)⟩,⟨some 73, none,.mv (.t 0)⟩,⟨some 74, none,.mv (.t 11)⟩,⟨some 75, none,.iadr 2 (.t 73) (.t 74)⟩,⟨some 76, none,.load true 2 (.t 75)⟩,⟨some 77, none,.mv (.t 0)⟩,⟨some 78, none,.mv (.t 11)⟩,⟨some 79, none,.bin .sub (.t 78) (.c (vi 1))⟩,⟨some 80, none,.iadr 2 (.t 77) (.t 79)⟩,⟨some 81, none,.load true 2 (.t 80)⟩,⟨some 82, none,.callv (.t 72) [(.val,(.t 76)),(.val,(.t 81))]⟩,⟨some 83, none,.bin .lss (.t 82) (.c (vi 0))⟩,⟨some 84, none,.unop .not (.t 83)⟩] [0,1,2,3,9,10,11,84] []
def Jk4:IC:=.reg [⟨some 85, none,.mv (.t 0)⟩,⟨some 86, none,.mv (.t 11)⟩,⟨some 87, none,.mv (.t 0)⟩,⟨some 88, none,.mv (.t 11)⟩,⟨some 89, none,.bin .sub (.t 88) (.c (vi 1))⟩,⟨some 90, none,.mv (.t 0)⟩,⟨some 91, none,.mv (.t 11)⟩,⟨some 92, none,.bin .sub (.t 91) (.c (vi 1))⟩,⟨some 93, none,.iadr 2 (.t 90) (.t 92)⟩,⟨some 94, none,.load true 2 (.t 93)⟩,⟨some 95, none,.mv (.t 0)⟩,⟨some 96, none,.mv (.t 11)⟩,⟨some 97, none,.iadr 2 (.t 95) (.t 96)⟩,⟨some 98, none,.load true 2 (.t 97)⟩,⟨some 99, none,.iadr 2 (.t 85) (.t 86)⟩,⟨none,none,.store 2 (.t 99) (.t 94)⟩,⟨some 100, none,.iadr 2 (.t 87) (.t 89)⟩,⟨none,none,.store 2 (.t 100) (.t 98)⟩] [0,1,2,3,9,10,11] []
def Jit:IC:=.reg [⟨some 70, none,.mv (.t 11)⟩,⟨some 71, none,.bin .sub (.t 70) (.c (vi 1))⟩,⟨some 11, none,.asg (.t 71)⟩] [0,1,2,3,9,10,11] []
def Jhu:IC:=(.seq (.seq Jms (.cond (.t 69) .skip (.exit 4))) (.seq (.block 5 (.seq (.seq Jjl (.cond (.t 84) (.exit 4) .skip)) Jk4)) Jit))
def Ji4:IC:=.reg [⟨some 101, none,.mv (.t 2)⟩,⟨some 102, none,.mv (.t 9)⟩,⟨some 103, none,.bin .sub (.t 101) (.t 102)⟩,⟨some 104, none,.bin .geq (.t 103) (.c (vi 2))⟩] [0,1,2,3,9,10,104] []
def Jim:IC:=.reg [⟨some 105, none,.mv (.t 9)⟩,⟨some 106, none,.bin .add (.t 105) (.c (vi 1))⟩,⟨some 12, none,.asg (.t 106)⟩] [0,1,2,3,9,10,12] []
def Jie:IC:=.reg [⟨some 107, none,.mv (.t 12)⟩,⟨some 108, none,.mv (.t 2)⟩,⟨some 109, none,.bin .lss (.t 107) (.t 108)⟩] [0,1,2,3,9,10,12,109] []
def Jl2:IC:=.reg [⟨some 112, none,.mv (.t 3)⟩,⟨some 113, none,.mv (.t 0)⟩,⟨some 114, none,.mv (.t 12)⟩,⟨some 115, none,.iadr 2 (.t 113) (.t 114)⟩,⟨some 116, none,.load true 2 (.t 115)⟩,⟨some 117, none,.mv (.t 0)⟩,⟨some 118, none,.mv (.t 12)⟩,⟨some 119, none,.bin .sub (.t 118) (.c (vi 1))⟩,⟨some 120, none,.iadr 2 (.t 117) (.t 119)⟩,⟨some 121, none,.load true 2 (.t 120)⟩,⟨some 122, none,.callv (.t 112) [(.val,(.t 116)),(.val,(.t 121))]⟩,⟨some 123, none,.bin .lss (.t 122) (.c (vi 0))⟩,⟨some 124, none,.unop .not (.t 123)⟩] [0,1,2,3,9,10,12,124] []
def Jmm:IC:=.reg [⟨some 125, none,.mv (.t 0)⟩,⟨some 126, none,.mv (.t 12)⟩,⟨some 127, none,.mv (.t 0)⟩,⟨some 128, none,.mv (.t 12)⟩,⟨some 129, none,.bin .sub (.t 128) (.c (vi 1))⟩,⟨some 130, none,.mv (.t 0)⟩,⟨some 131, none,.mv (.t 12)⟩,⟨some 132, none,.bin .sub (.t 131) (.c (vi 1))⟩,⟨some 133, none,.iadr 2 (.t 130) (.t 132)⟩,⟨some 134, none,.load true 2 (.t 133)⟩,⟨some 135, none,.mv (.t 0)⟩,⟨some 136, none,.mv (.t 12)⟩,⟨some 137, none,.iadr 2 (.t 135) (.t 136)⟩,⟨some 138, none,.load true 2 (.t 137)⟩,⟨some 139, none,.iadr 2 (.t 125) (.t 126)⟩,⟨none,none,.store 2 (.t 139) (.t 134)⟩,⟨some 140, none,.iadr 2 (.t 127) (.t 129)⟩,⟨none,none,.store 2 (.t 140) (.t 138)⟩] [0,1,2,3,9,10,12] []
def Jjo:IC:=.reg [⟨some 110, none,.mv (.t 12)⟩,⟨some 111, none,.bin .add (.t 110) (.c (vi 1))⟩,⟨some 12, none,.asg (.t 111)⟩] [0,1,2,3,9,10,12] []
def Jmg:IC:=(.seq (.seq Jie (.cond (.t 109) .skip (.exit 6))) (.seq (.block 7 (.seq (.seq Jl2 (.cond (.t 124) (.exit 6) .skip)) Jmm)) Jjo))
def Jib:IC:=.reg [⟨some 17, none,.mv (.t 10)⟩,⟨some 18, none,.bin .add (.t 17) (.c (vi 1))⟩,⟨some 10, none,.asg (.t 18)⟩] [0,1,2,3,9,10] []
def Jid:IC:=(.seq (.seq z282r3 (.cond (.t 16) .skip (.exit 0))) (.seq (.block 1 (.seq (.block 2 (.loop Jgj)) (.seq (.seq Jw8 (.cond (.t 41) (.seq Jr5 .ret) .skip)) (.seq (.seq Jr9 (.cond (.t 45) (.seq Jlr .ret) .skip)) (.seq Jj5 (.seq (.seq Jja (.cond (.t 65) (.seq Jm5 (.block 4 (.loop Jhu))) .skip)) (.seq Ji4 (.cond (.t 104) (.seq Jim (.block 6 (.loop Jmg))) .skip)))))))) Jib))
def Jkw:IC:=.reg [⟨some 8, none,.asg (.c (.bool false))⟩] [0,8] []
def Qz8:Qa1:=⟨[.t 8],[0],(.seq Jsv (.seq Jtw (.seq (.seq z282r2 (.block 0 (.loop Jid))) (.seq Jkw .ret))))⟩
def Joa:IC:=.reg [⟨some 10, none,.asg (.c (vi 0))⟩,⟨some 11, none,.asg (.c (.bool false))⟩] [0,1,2,3,4] []
def Juh:IC:=.reg [⟨some 14, none,.mv (.t 0)⟩,⟨some 15, none,.mv (.t 1)⟩,⟨some 16, none,.mv (.t 0)⟩,⟨some 17, none,.mv (.t 3)⟩,⟨some 18, none,.mv (.t 0)⟩,⟨some 19, none,.mv (.t 3)⟩,⟨some 20, none,.iadr 2 (.t 18) (.t 19)⟩,⟨some 21, none,.load true 2 (.t 20)⟩,⟨some 22, none,.mv (.t 0)⟩,⟨some 23, none,.mv (.t 1)⟩,⟨some 24, none,.iadr 2 (.t 22) (.t 23)⟩,⟨some 25, none,.load true 2 (.t 24)⟩,⟨some 26, none,.iadr 2 (.t 14) (.t 15)⟩,⟨none,none,.store 2 (.t 26) (.t 21)⟩,⟨some 27, none,.iadr 2 (.t 16) (.t 17)⟩,⟨none,none,.store 2 (.t 27) (.t 25)⟩] [0,1,2,4] []
def Jy1:IC:=.reg [⟨some 28, none,.mv (.t 1)⟩,⟨some 29, none,.bin .add (.t 28) (.c (vi 1))⟩,⟨some 30, none,.mv (.t 2)⟩,⟨some 31, none,.bin .sub (.t 30) (.c (vi 1))⟩,⟨some 12, none,.asg (.t 29)⟩,⟨some 13, none,.asg (.t 31)⟩] [0,1,4,12,13] []
def Jr8:IC:=.reg [⟨some 32, none,.mv (.t 12)⟩,⟨some 33, none,.mv (.t 13)⟩,⟨some 34, none,.bin .leq (.t 32) (.t 33)⟩,⟨some 35, none,.asg (.t 34)⟩,⟨some 36, (some (35,true)),.mv (.t 4)⟩,⟨some 37, (some (35,true)),.mv (.t 0)⟩,⟨some 38, (some (35,true)),.mv (.t 12)⟩,⟨some 39, (some (35,true)),.iadr 2 (.t 37) (.t 38)⟩,⟨some 40, (some (35,true)),.load true 2 (.t 39)⟩,⟨some 41, (some (35,true)),.mv (.t 0)⟩,⟨some 42, (some (35,true)),.mv (.t 1)⟩,⟨some 43, (some (35,true)),.iadr 2 (.t 41) (.t 42)⟩,⟨some 44, (some (35,true)),.load true 2 (.t 43)⟩,⟨some 45, (some (35,true)),.callv (.t 36) [(.val,(.t 40)),(.val,(.t 44))]⟩,⟨some 46, (some (35,true)),.bin .lss (.t 45) (.c (vi 0))⟩,⟨some 47, none,.pick (.t 35) (.t 46) (.c (.bool false))⟩] [0,1,4,12,13,47] []
def Jor:IC:=.reg [⟨some 48, none,.mv (.t 12)⟩,⟨some 49, none,.bin .add (.t 48) (.c (vi 1))⟩,⟨some 12, none,.asg (.t 49)⟩] [0,1,4,12,13] []
def Jgw:IC:=(.seq (.seq Jr8 (.cond (.t 47) .skip (.exit 0))) (.block 1 Jor))
def Jtr:IC:=.reg [⟨some 50, none,.mv (.t 12)⟩,⟨some 51, none,.mv (.t 13)⟩,⟨some 52, none,.bin .leq (.t 50) (.t 51)⟩,⟨some 53, none,.asg (.t 52)⟩,⟨some 54, (some (53,true)),.mv (.t 4)⟩,⟨some 55, (some (53,true)),.mv (.t 0)⟩,⟨some 56, (some (53,true)),.mv (.t 13)⟩,⟨some 57, (some (53,true)),.iadr 2 (.t 55) (.t 56)⟩,⟨some 58, (some (53,true)),.load true 2 (.t 57)⟩,⟨some 59, (some (53,true)),.mv (.t 0)⟩,⟨some 60, (some (53,true)),.mv (.t 1)⟩,⟨some 61, (some (53,true)),.iadr 2 (.t 59) (.t 60)⟩,⟨some 62, (some (53,true)),.load true 2 (.t 61)⟩,⟨some 63, (some (53,true)),.callv (.t 54) [(.val,(.t 58)),(.val,(.t 62))]⟩,⟨some 64, (some (53,true)),.bin .lss (.t 63) (.c (vi 0))⟩,⟨some 65, (some (53,true)),.unop .not (.t 64)⟩,⟨some 66, none,.pick (.t 53) (.t 65) (.c (.bool false))⟩] [0,1,4,12,13,66] []
def Jyh:IC:=.reg [⟨some 67, none,.mv (.t 13)⟩,⟨some 68, none,.bin .sub (.t 67) (.c (vi 1))⟩,⟨some 13, none,.asg (.t 68)⟩] [0,1,4,12,13] []
def Jgv:IC:=(.seq (.seq Jtr (.cond (.t 66) .skip (.exit 2))) (.block 3 Jyh))
def Jq2:IC:=.reg [⟨some 69, none,.mv (.t 12)⟩,⟨some 70, none,.mv (.t 13)⟩,⟨some 71, none,.bin .gtr (.t 69) (.t 70)⟩] [0,1,4,12,13,71] []
def Jne:IC:=.reg [⟨some 72, none,.mv (.t 0)⟩,⟨some 73, none,.mv (.t 13)⟩,⟨some 74, none,.mv (.t 0)⟩,⟨some 75, none,.mv (.t 1)⟩,⟨some 76, none,.mv (.t 0)⟩,⟨some 77, none,.mv (.t 1)⟩,⟨some 78, none,.iadr 2 (.t 76) (.t 77)⟩,⟨some 79, none,.load true 2 (.t 78)⟩,⟨some 80, none,.mv (.t 0)⟩,⟨some 81, none,.mv (.t 13)⟩,⟨some 82, none,.iadr 2 (.t 80) (.t 81)⟩,⟨some 83, none,.load true 2 (.t 82)⟩,⟨some 84, none,.iadr 2 (.t 72) (.t 73)⟩,⟨none,none,.store 2 (.t 84) (.t 79)⟩,⟨some 85, none,.iadr 2 (.t 74) (.t 75)⟩,⟨none,none,.store 2 (.t 85) (.t 83)⟩] [0,13] []
def Jkb:IC:=.reg [⟨some 86, none,.mv (.t 13)⟩,⟨some 10, none,.asgm (.t 86)⟩,⟨some 11, none,.asg (.c (.bool true))⟩] [0,10,11] []
def Jkd:IC:=.reg [⟨some 87, none,.mv (.t 0)⟩,⟨some 88, none,.mv (.t 12)⟩,⟨some 89, none,.mv (.t 0)⟩,⟨some 90, none,.mv (.t 13)⟩,⟨some 91, none,.mv (.t 0)⟩,⟨some 92, none,.mv (.t 13)⟩,⟨some 93, none,.iadr 2 (.t 91) (.t 92)⟩,⟨some 94, none,.load true 2 (.t 93)⟩,⟨some 95, none,.mv (.t 0)⟩,⟨some 96, none,.mv (.t 12)⟩,⟨some 97, none,.iadr 2 (.t 95) (.t 96)⟩,⟨some 98, none,.load true 2 (.t 97)⟩,⟨some 99, none,.iadr 2 (.t 87) (.t 88)⟩,⟨none,none,.store 2 (.t 99) (.t 94)⟩,⟨some 100, none,.iadr 2 (.t 89) (.t 90)⟩,⟨none,none,.store 2 (.t 100) (.t 98)⟩] [0,1,4,12,13] []
def Jlh:IC:=.reg [⟨some 101, none,.mv (.t 12)⟩,⟨some 102, none,.bin .add (.t 101) (.c (vi 1))⟩,⟨some 12, none,.asg (.t 102)⟩] [0,1,4,12,13] []
def Jlu:IC:=.reg [⟨some 103, none,.mv (.t 13)⟩,⟨some 104, none,.bin .sub (.t 103) (.c (vi 1))⟩,⟨some 13, none,.asg (.t 104)⟩] [0,1,4,12,13] []
def Jje:IC:=.reg [⟨some 105, none,.mv (.t 12)⟩,⟨some 106, none,.mv (.t 13)⟩,⟨some 107, none,.bin .leq (.t 105) (.t 106)⟩,⟨some 108, none,.asg (.t 107)⟩,⟨some 109, (some (108,true)),.mv (.t 4)⟩,⟨some 110, (some (108,true)),.mv (.t 0)⟩,⟨some 111, (some (108,true)),.mv (.t 12)⟩,⟨some 112, (some (108,true)),.iadr 2 (.t 110) (.t 111)⟩,⟨some 113, (some (108,true)),.load true 2 (.t 112)⟩,⟨some 114, (some (108,true)),.mv (.t 0)⟩,⟨some 115, (some (108,true)),.mv (.t 1)⟩,⟨some 116, (some (108,true)),.iadr 2 (.t 114) (.t 115)⟩,⟨some 117, (some (108,true)),.load true 2 (.t 116)⟩,⟨some 118, (some (108,true)),.callv (.t 109) [(.val,(.t 113)),(.val,(.t 117))]⟩,⟨some 119, (some (108,true)),.bin .lss (.t 118) (.c (vi 0))⟩,⟨some 120, none,.pick (.t 108) (.t 119) (.c (.bool false))⟩] [0,1,4,12,13,120] []
def Jl0:IC:=.reg [⟨some 121, none,.mv (.t 12)⟩,⟨some 122, none,.bin .add (.t 121) (.c (vi 1))⟩,⟨some 12, none,.asg (.t 122)⟩] [0,1,4,12,13] []
def Qwy:IC:=(.seq (.seq Jje (.cond (.t 120) .skip (.exit 6))) (.block 7 Jl0))
def Jlv:IC:=.reg [⟨some 123, none,.mv (.t 12)⟩,⟨some 124, none,.mv (.t 13)⟩,⟨some 125, none,.bin .leq (.t 123) (.t 124)⟩,⟨some 126, none,.asg (.t 125)⟩,⟨some 127, (some (126,true)),.mv (.t 4)⟩,⟨some 128, (some (126,true)),.mv (.t 0)⟩,⟨some 129, (some (126,true)),.mv (.t 13)⟩,⟨some 130, (some (126,true)),.iadr 2 (.t 128) (.t 129)⟩,⟨some 131, (some (126,true)),.load true 2 (.t 130)⟩,⟨some 132, (some (126,true)),.mv (.t 0)⟩,⟨some 133, (some (126,true)),.mv (.t 1)⟩,⟨some 134, (some (126,true)),.iadr 2 (.t 132) (.t 133)⟩,⟨some 135, (some (126,true)),.load true 2 (.t 134)⟩,⟨some 136, (some (126,true)),.callv (.t 127) [(.val,(.t 131)),(.val,(.t 135))]⟩,⟨some 137, (some (126,true)),.bin .lss (.t 136) (.c (vi 0))⟩,⟨some 138, (some (126,true)),.unop .not (.t 137)⟩,⟨some 139, none,.pick (.t 126) (.t 138) (.c (.bool false))⟩] [0,1,4,12,13,139] []
def Jkc:IC:=.reg [⟨some 140, none,.mv (.t 13)⟩,⟨some 141, none,.bin .sub (.t 140) (.c (vi 1))⟩,⟨some 13, none,.asg (.t 141)⟩] [0,1,4,12,13] []
def Qv4:IC:=(.seq (.seq Jlv (.cond (.t 139) .skip (.exit 8))) (.block 9 Jkc))
def Jjz:IC:=.reg [⟨some 142, none,.mv (.t 12)⟩,⟨some 143, none,.mv (.t 13)⟩,⟨some 144, none,.bin .gtr (.t 142) (.t 143)⟩] [0,1,4,12,13,144] []
def Jng:IC:=.reg [⟨some 145, none,.mv (.t 0)⟩,⟨some 146, none,.mv (.t 12)⟩,⟨some 147, none,.mv (.t 0)⟩,⟨some 148, none,.mv (.t 13)⟩,⟨some 149, none,.mv (.t 0)⟩,⟨some 150, none,.mv (.t 13)⟩,⟨some 151, none,.iadr 2 (.t 149) (.t 150)⟩,⟨some 152, none,.load true 2 (.t 151)⟩,⟨some 153, none,.mv (.t 0)⟩,⟨some 154, none,.mv (.t 12)⟩,⟨some 155, none,.iadr 2 (.t 153) (.t 154)⟩,⟨some 156, none,.load true 2 (.t 155)⟩,⟨some 157, none,.iadr 2 (.t 145) (.t 146)⟩,⟨none,none,.store 2 (.t 157) (.t 152)⟩,⟨some 158, none,.iadr 2 (.t 147) (.t 148)⟩,⟨none,none,.store 2 (.t 158) (.t 156)⟩] [0,1,4,12,13] []
def Jm0:IC:=.reg [⟨some 159, none,.mv (.t 12)⟩,⟨some 160, none,.bin .add (.t 159) (.c (vi 1))⟩,⟨some 12, none,.asg (.t 160)⟩] [0,1,4,12,13] []
def Jnf:IC:=.reg [⟨some 161, none,.mv (.t 13)⟩,⟨some 162, none,.bin .sub (.t 161) (.c (vi 1))⟩,⟨some 13, none,.asg (.t 162)⟩] [0,1,4,12,13] []
def Jbj:IC:=(.block 5 (.seq (.block 6 (.loop Qwy)) (.seq (.block 8 (.loop Qv4)) (.seq (.seq Jjz (.cond (.t 144) (.exit 4) .skip)) (.seq Jng (.seq Jm0 Jnf))))))
def Jic:IC:=.reg [⟨some 163, none,.mv (.t 0)⟩,⟨some 164, none,.mv (.t 13)⟩,⟨some 165, none,.mv (.t 0)⟩,⟨some 166, none,.mv (.t 1)⟩,⟨some 167, none,.mv (.t 0)⟩,⟨some 168, none,.mv (.t 1)⟩,⟨some 169, none,.iadr 2 (.t 167) (.t 168)⟩,⟨some 170, none,.load true 2 (.t 169)⟩,⟨some 171, none,.mv (.t 0)⟩,⟨some 172, none,.mv (.t 13)⟩,⟨some 173, none,.iadr 2 (.t 171) (.t 172)⟩,⟨some 174, none,.load true 2 (.t 173)⟩,⟨some 175, none,.iadr 2 (.t 163) (.t 164)⟩,⟨none,none,.store 2 (.t 175) (.t 170)⟩,⟨some 176, none,.iadr 2 (.t 165) (.t 166)⟩,⟨none,none,.store 2 (.t 176) (.t 174)⟩] [0,13] []
def Jjc:IC:=.reg [⟨some 177, none,.mv (.t 13)⟩,⟨some 10, none,.asgm (.t 177)⟩,⟨some 11, none,.asg (.c (.bool false))⟩] [0,10,11] []
def Jaz:Qa1:=⟨[.t 10,.t 11],[0],(.seq Joa (.seq Juh (.seq Jy1 (.seq (.block 0 (.loop Jgw)) (.seq (.block 2 (.loop Jgv)) (.seq (.seq Jq2 (.cond (.t 71) (.seq Jne (.seq Jkb .ret)) .skip)) (.seq Jkd (.seq Jlh (.seq Jlu (.seq (.block 4 (.loop Jbj)) (.seq Jic (.seq Jjc .ret))))))))))))⟩
def Jx8:IC:=.reg [⟨some 10, none,.asg (.c (.bool true))⟩] [0,1,2,3,4,10] []
def Juv:IC:=.reg [⟨some 11, none,.asg (.c (.bool true))⟩] [0,1,2,3,4,10,11] []
def z285r2:IC:=.reg [⟨some 21, none,.mv (.t 2)⟩,⟨some 22, none,.mv (.t 1)⟩,⟨some 23, none,.bin .sub (.t 21) (.t 22)⟩,⟨some 12, none,.asg (.t 23)⟩] [0,1,2,3,4,10,11,12] []
def Jrp:IC:=.reg [⟨some 24, none,.mv (.t 12)⟩,⟨some 25, none,.bin .leq (.t 24) (.c (vi 12))⟩] [0,1,2,3,4,10,11,12,25] []
def Jrb:IC:=.reg [⟨some 26, none,.mv (.t 0)⟩,⟨some 27, none,.mv (.t 1)⟩,⟨some 28, none,.mv (.t 2)⟩,⟨some 29, none,.mv (.t 4)⟩,⟨some 30, none,.call Qtw [(.ld,(.t 26)),(.val,(.t 27)),(.val,(.t 28)),(.val,(.t 29))] false⟩] [0] []
def Jvp:IC:=.reg [⟨some 31, none,.mv (.t 3)⟩,⟨some 32, none,.bin .eql (.t 31) (.c (vi 0))⟩] [0,1,2,3,4,10,11,12,32] []
def Jtq:IC:=.reg [⟨some 33, none,.mv (.t 0)⟩,⟨some 34, none,.mv (.t 1)⟩,⟨some 35, none,.mv (.t 2)⟩,⟨some 36, none,.mv (.t 4)⟩,⟨some 37, none,.call Jvk [(.ld,(.t 33)),(.val,(.t 34)),(.val,(.t 35)),(.val,(.t 36))] false⟩] [0] []
def z285r7:IC:=.reg [⟨some 38, none,.mv (.t 10)⟩,⟨some 39, none,.unop .not (.t 38)⟩] [0,1,2,3,4,10,11,12,39] []
def z285r8:IC:=.reg [⟨some 40, none,.mv (.t 0)⟩,⟨some 41, none,.mv (.t 1)⟩,⟨some 42, none,.mv (.t 2)⟩,⟨some 43, none,.mv (.t 4)⟩,⟨some 44, none,.call Qtq [(.ld,(.t 40)),(.val,(.t 41)),(.val,(.t 42)),(.val,(.t 43))] false⟩] [0,1,2,3,4,10,11,12] []
def Jq0:IC:=.reg [⟨some 45, none,.mv (.t 3)⟩,⟨some 46, none,.bin .sub (.t 45) (.c (vi 1))⟩,⟨some 3, none,.asg (.t 46)⟩] [0,1,2,3,4,10,11,12] []
def Ja9:IC:=.reg [⟨some 48, none,.mv (.t 0)⟩,⟨some 49, none,.mv (.t 1)⟩,⟨some 50, none,.mv (.t 2)⟩,⟨some 51, none,.mv (.t 4)⟩,⟨some 52, none,.call Qwq [(.ld,(.t 48)),(.val,(.t 49)),(.val,(.t 50)),(.val,(.t 51))] false⟩,⟨some 47, none,.asg (.t 52)⟩,⟨some 53, none,.extr (.t 47) 0⟩,⟨some 54, none,.extr (.t 47) 1⟩,⟨some 13, none,.asg (.t 53)⟩,⟨some 14, none,.asg (.t 54)⟩] [0,1,2,3,4,10,11,12,13,14] []
def Jbo:IC:=.reg [⟨some 55, none,.mv (.t 14)⟩,⟨some 56, none,.bin .eql (.t 55) (.c (vi 2))⟩] [0,1,2,3,4,10,11,12,13,14,56] []
def Qxt:IC:=.reg [⟨some 57, none,.mv (.t 0)⟩,⟨some 58, none,.mv (.t 1)⟩,⟨some 59, none,.mv (.t 2)⟩,⟨some 60, none,.mv (.t 4)⟩,⟨some 61, none,.call zl286 [(.ld,(.t 57)),(.val,(.t 58)),(.val,(.t 59)),(.val,(.t 60))] false⟩] [0,1,2,3,4,10,11,12,13] []
def Qzl:IC:=.reg [⟨some 62, none,.mv (.t 2)⟩,⟨some 63, none,.bin .sub (.t 62) (.c (vi 1))⟩,⟨some 64, none,.mv (.t 13)⟩,⟨some 65, none,.mv (.t 1)⟩,⟨some 66, none,.bin .sub (.t 64) (.t 65)⟩,⟨some 67, none,.bin .sub (.t 63) (.t 66)⟩,⟨some 13, none,.asg (.t 67)⟩] [0,1,2,3,4,10,11,12,13] []
def Qym:IC:=.reg [⟨some 14, none,.asg (.c (vi 1))⟩] [0,1,2,3,4,10,11,12,13,14] []
def Qz9:IC:=.reg [⟨some 68, none,.mv (.t 10)⟩,⟨some 69, none,.asg (.t 68)⟩,⟨some 70, (some (69,true)),.mv (.t 11)⟩,⟨some 71, none,.pick (.t 69) (.t 70) (.c (.bool false))⟩,⟨some 72, none,.asg (.t 71)⟩,⟨some 73, (some (72,true)),.mv (.t 14)⟩,⟨some 74, (some (72,true)),.bin .eql (.t 73) (.c (vi 1))⟩,⟨some 75, none,.pick (.t 72) (.t 74) (.c (.bool false))⟩] [0,1,2,3,4,10,11,12,13,75] []
def Jbl:IC:=.reg [⟨some 76, none,.mv (.t 0)⟩,⟨some 77, none,.mv (.t 1)⟩,⟨some 78, none,.mv (.t 2)⟩,⟨some 79, none,.mv (.t 4)⟩,⟨some 80, none,.call Qt9 [(.ld,(.t 76)),(.val,(.t 77)),(.val,(.t 78)),(.val,(.t 79))] false⟩] [0,1,2,3,4,10,11,12,13,80] []
def Jbv:IC:=.reg [⟨some 81, none,.mv (.t 1)⟩,⟨some 82, none,.bin .gtr (.t 81) (.c (vi 0))⟩,⟨some 83, none,.asg (.t 82)⟩,⟨some 84, (some (83,true)),.mv (.t 4)⟩,⟨some 85, (some (83,true)),.mv (.t 0)⟩,⟨some 86, (some (83,true)),.mv (.t 1)⟩,⟨some 87, (some (83,true)),.bin .sub (.t 86) (.c (vi 1))⟩,⟨some 88, (some (83,true)),.iadr 2 (.t 85) (.t 87)⟩,⟨some 89, (some (83,true)),.load true 2 (.t 88)⟩,⟨some 90, (some (83,true)),.mv (.t 0)⟩,⟨some 91, (some (83,true)),.mv (.t 13)⟩,⟨some 92, (some (83,true)),.iadr 2 (.t 90) (.t 91)⟩,⟨some 93, (some (83,true)),.load true 2 (.t 92)⟩,⟨some 94, (some (83,true)),.callv (.t 84) [(.val,(.t 89)),(.val,(.t 93))]⟩,⟨some 95, (some (83,true)),.bin .lss (.t 94) (.c (vi 0))⟩,⟨some 96, (some (83,true)),.unop .not (.t 95)⟩,⟨some 97, none,.pick (.t 83) (.t 96) (.c (.bool false))⟩] [0,1,2,3,4,10,11,12,13,97] []
def Qxw:IC:=.reg [⟨some 98, none,.mv (.t 0)⟩,⟨some 99, none,.mv (.t 1)⟩,⟨some 100, none,.mv (.t 2)⟩,⟨some 101, none,.mv (.t 13)⟩,⟨some 102, none,.mv (.t 4)⟩,⟨some 103, none,.call Ju9 [(.ld,(.t 98)),(.val,(.t 99)),(.val,(.t 100)),(.val,(.t 101)),(.val,(.t 102))] false⟩,⟨some 15, none,.asg (.t 103)⟩] [0,2,3,4,10,11,15] []
def Qxa:IC:=.reg [⟨some 104, none,.mv (.t 15)⟩,⟨some 1, none,.asgm (.t 104)⟩] [0,1,2,3,4,10,11] []
def Qz0:IC:=.reg [⟨some 106, none,.mv (.t 0)⟩,⟨some 107, none,.mv (.t 1)⟩,⟨some 108, none,.mv (.t 2)⟩,⟨some 109, none,.mv (.t 13)⟩,⟨some 110, none,.mv (.t 4)⟩,⟨some 111, none,.call Quw [(.ld,(.t 106)),(.val,(.t 107)),(.val,(.t 108)),(.val,(.t 109)),(.val,(.t 110))] false⟩,⟨some 105, none,.asg (.t 111)⟩,⟨some 112, none,.extr (.t 105) 0⟩,⟨some 113, none,.extr (.t 105) 1⟩,⟨some 16, none,.asg (.t 112)⟩,⟨some 17, none,.asg (.t 113)⟩] [0,1,2,3,4,12,16,17] []
def Jao:IC:=.reg [⟨some 114, none,.mv (.t 17)⟩,⟨some 11, none,.asgm (.t 114)⟩] [0,1,2,3,4,11,12,16] []
def Qwp:IC:=.reg [⟨some 115, none,.mv (.t 16)⟩,⟨some 116, none,.mv (.t 1)⟩,⟨some 117, none,.bin .sub (.t 115) (.t 116)⟩,⟨some 118, none,.mv (.t 2)⟩,⟨some 119, none,.mv (.t 16)⟩,⟨some 120, none,.bin .sub (.t 118) (.t 119)⟩,⟨some 18, none,.asg (.t 117)⟩,⟨some 19, none,.asg (.t 120)⟩] [0,1,2,3,4,11,12,16,18,19] []
def Qzw:IC:=.reg [⟨some 121, none,.mv (.t 12)⟩,⟨some 122, none,.bin .quo (.t 121) (.c (vi 8))⟩,⟨some 20, none,.asg (.t 122)⟩] [0,1,2,3,4,11,16,18,19,20] []
def Qxo:IC:=.reg [⟨some 123, none,.mv (.t 18)⟩,⟨some 124, none,.mv (.t 19)⟩,⟨some 125, none,.bin .lss (.t 123) (.t 124)⟩] [0,1,2,3,4,11,16,18,19,20,125] []
def Jap:IC:=.reg [⟨some 126, none,.mv (.t 18)⟩,⟨some 127, none,.mv (.t 20)⟩,⟨some 128, none,.bin .geq (.t 126) (.t 127)⟩,⟨some 10, none,.asg (.t 128)⟩] [0,1,2,3,4,10,11,16] []
def Qzh:IC:=.reg [⟨some 129, none,.mv (.t 0)⟩,⟨some 130, none,.mv (.t 1)⟩,⟨some 131, none,.mv (.t 16)⟩,⟨some 132, none,.mv (.t 3)⟩,⟨some 133, none,.mv (.t 4)⟩,⟨some 134, none,.call Qn8 [(.ld,(.t 129)),(.val,(.t 130)),(.val,(.t 131)),(.val,(.t 132)),(.val,(.t 133))] false⟩] [0,2,3,4,10,11,16] []
def Jba:IC:=.reg [⟨some 135, none,.mv (.t 16)⟩,⟨some 136, none,.bin .add (.t 135) (.c (vi 1))⟩,⟨some 1, none,.asg (.t 136)⟩] [0,1,2,3,4,10,11] []
def Jae:IC:=.reg [⟨some 137, none,.mv (.t 19)⟩,⟨some 138, none,.mv (.t 20)⟩,⟨some 139, none,.bin .geq (.t 137) (.t 138)⟩,⟨some 10, none,.asg (.t 139)⟩] [0,1,2,3,4,10,11,16] []
def Qwn:IC:=.reg [⟨some 140, none,.mv (.t 0)⟩,⟨some 141, none,.mv (.t 16)⟩,⟨some 142, none,.bin .add (.t 141) (.c (vi 1))⟩,⟨some 143, none,.mv (.t 2)⟩,⟨some 144, none,.mv (.t 3)⟩,⟨some 145, none,.mv (.t 4)⟩,⟨some 146, none,.call Qn8 [(.ld,(.t 140)),(.val,(.t 142)),(.val,(.t 143)),(.val,(.t 144)),(.val,(.t 145))] false⟩] [0,1,3,4,10,11,16] []
def Qzc:IC:=.reg [⟨some 147, none,.mv (.t 16)⟩,⟨some 2, none,.asgm (.t 147)⟩] [0,1,2,3,4,10,11] []
def Qh1:IC:=(.block 1 (.seq z285r2 (.seq (.seq Jrp (.cond (.t 25) (.seq Jrb .ret) .skip)) (.seq (.seq Jvp (.cond (.t 32) (.seq Jtq .ret) .skip)) (.seq (.seq z285r7 (.cond (.t 39) (.seq z285r8 Jq0) .skip)) (.seq Ja9 (.seq (.seq Jbo (.cond (.t 56) (.seq Qxt (.seq Qzl Qym)) .skip)) (.seq (.seq Qz9 (.cond (.t 75) (.seq Jbl (.cond (.t 80) .ret .skip)) .skip)) (.seq (.seq Jbv (.cond (.t 97) (.seq Qxw (.seq Qxa (.exit 1))) .skip)) (.seq Qz0 (.seq Jao (.seq Qwp (.seq Qzw (.seq Qxo (.cond (.t 125) (.seq Jap (.seq Qzh Jba)) (.seq Jae (.seq Qwn Qzc)))))))))))))))))
def Qoq:Qa1:=⟨[],[0],(.seq Jx8 (.seq Juv (.block 0 (.loop Qh1))))⟩
def Jv0:IC:=.reg [⟨some 8, none,.asg (.c (.bool true))⟩] [0,1,2,3,8] []
def Jy9:IC:=.reg [⟨some 9, none,.asg (.c (.bool true))⟩] [0,1,2,3,8,9] []
def Jtu:IC:=.reg [⟨some 19, none,.mv (.t 2)⟩,⟨some 20, none,.mv (.t 1)⟩,⟨some 21, none,.bin .sub (.t 19) (.t 20)⟩,⟨some 10, none,.asg (.t 21)⟩] [0,1,2,3,8,9,10] []
def z101r3:IC:=.reg [⟨some 22, none,.mv (.t 10)⟩,⟨some 23, none,.bin .leq (.t 22) (.c (vi 12))⟩] [0,1,2,3,8,9,10,23] []
def z101r4:IC:=.reg [⟨some 24, none,.mv (.t 0)⟩,⟨some 25, none,.mv (.t 1)⟩,⟨some 26, none,.mv (.t 2)⟩,⟨some 27, none,.call Jx6 [(.ld,(.t 24)),(.val,(.t 25)),(.val,(.t 26))] false⟩] [0] []
def z101r5:IC:=.reg [⟨some 28, none,.mv (.t 3)⟩,⟨some 29, none,.bin .eql (.t 28) (.c (vi 0))⟩] [0,1,2,3,8,9,10,29] []
def z101r6:IC:=.reg [⟨some 30, none,.mv (.t 0)⟩,⟨some 31, none,.mv (.t 1)⟩,⟨some 32, none,.mv (.t 2)⟩,⟨some 33, none,.call zl84 [(.ld,(.t 30)),(.val,(.t 31)),(.val,(.t 32))] false⟩] [0] []
def Jru:IC:=.reg [⟨some 34, none,.mv (.t 8)⟩,⟨some 35, none,.unop .not (.t 34)⟩] [0,1,2,3,8,9,10,35] []
def Jrd:IC:=.reg [⟨some 36, none,.mv (.t 0)⟩,⟨some 37, none,.mv (.t 1)⟩,⟨some 38, none,.mv (.t 2)⟩,⟨some 39, none,.call zl80 [(.ld,(.t 36)),(.val,(.t 37)),(.val,(.t 38))] false⟩] [0,1,2,3,8,9,10] []
def Jn9:IC:=.reg [⟨some 40, none,.mv (.t 3)⟩,⟨some 41, none,.bin .sub (.t 40) (.c (vi 1))⟩,⟨some 3, none,.asg (.t 41)⟩] [0,1,2,3,8,9,10] []
def Jh9:IC:=.reg [⟨some 43, none,.mv (.t 0)⟩,⟨some 44, none,.mv (.t 1)⟩,⟨some 45, none,.mv (.t 2)⟩,⟨some 46, none,.call zl82 [(.rd,(.t 43)),(.val,(.t 44)),(.val,(.t 45))] true⟩,⟨some 42, none,.asg (.t 46)⟩,⟨some 47, none,.extr (.t 42) 0⟩,⟨some 48, none,.extr (.t 42) 1⟩,⟨some 11, none,.asg (.t 47)⟩,⟨some 12, none,.asg (.t 48)⟩] [0,1,2,3,8,9,10,11,12] []
def Jls:IC:=.reg [⟨some 49, none,.mv (.t 12)⟩,⟨some 50, none,.bin .eql (.t 49) (.c (vi 2))⟩] [0,1,2,3,8,9,10,11,12,50] []
def Ji7:IC:=.reg [⟨some 51, none,.mv (.t 0)⟩,⟨some 52, none,.mv (.t 1)⟩,⟨some 53, none,.mv (.t 2)⟩,⟨some 54, none,.call Jxz [(.ld,(.t 51)),(.val,(.t 52)),(.val,(.t 53))] false⟩] [0,1,2,3,8,9,10,11] []
def Jna:IC:=.reg [⟨some 55, none,.mv (.t 2)⟩,⟨some 56, none,.bin .sub (.t 55) (.c (vi 1))⟩,⟨some 57, none,.mv (.t 11)⟩,⟨some 58, none,.mv (.t 1)⟩,⟨some 59, none,.bin .sub (.t 57) (.t 58)⟩,⟨some 60, none,.bin .sub (.t 56) (.t 59)⟩,⟨some 11, none,.asg (.t 60)⟩] [0,1,2,3,8,9,10,11] []
def Jkn:IC:=.reg [⟨some 12, none,.asg (.c (vi 1))⟩] [0,1,2,3,8,9,10,11,12] []
def Jh2:IC:=.reg [⟨some 61, none,.mv (.t 8)⟩,⟨some 62, none,.asg (.t 61)⟩,⟨some 63, (some (62,true)),.mv (.t 9)⟩,⟨some 64, none,.pick (.t 62) (.t 63) (.c (.bool false))⟩,⟨some 65, none,.asg (.t 64)⟩,⟨some 66, (some (65,true)),.mv (.t 12)⟩,⟨some 67, (some (65,true)),.bin .eql (.t 66) (.c (vi 1))⟩,⟨some 68, none,.pick (.t 65) (.t 67) (.c (.bool false))⟩] [0,1,2,3,8,9,10,11,68] []
def Jmy:IC:=.reg [⟨some 69, none,.mv (.t 0)⟩,⟨some 70, none,.mv (.t 1)⟩,⟨some 71, none,.mv (.t 2)⟩,⟨some 72, none,.call zl95 [(.ld,(.t 69)),(.val,(.t 70)),(.val,(.t 71))] false⟩] [0,1,2,3,8,9,10,11,72] []
def Jii:IC:=.reg [⟨some 73, none,.mv (.t 1)⟩,⟨some 74, none,.bin .gtr (.t 73) (.c (vi 0))⟩,⟨some 75, none,.asg (.t 74)⟩,⟨some 76, (some (75,true)),.mv (.t 0)⟩,⟨some 77, (some (75,true)),.mv (.t 1)⟩,⟨some 78, (some (75,true)),.bin .sub (.t 77) (.c (vi 1))⟩,⟨some 79, (some (75,true)),.iadr 1 (.t 76) (.t 78)⟩,⟨some 80, (some (75,true)),.load false 1 (.t 79)⟩,⟨some 81, (some (75,true)),.mv (.t 0)⟩,⟨some 82, (some (75,true)),.mv (.t 11)⟩,⟨some 83, (some (75,true)),.iadr 1 (.t 81) (.t 82)⟩,⟨some 84, (some (75,true)),.load false 1 (.t 83)⟩,⟨some 85, (some (75,true)),.call zl2 [(.val,(.t 80)),(.val,(.t 84))] true⟩,⟨some 86, (some (75,true)),.unop .not (.t 85)⟩,⟨some 87, none,.pick (.t 75) (.t 86) (.c (.bool false))⟩] [0,1,2,3,8,9,10,11,87] []
def Jky:IC:=.reg [⟨some 88, none,.mv (.t 0)⟩,⟨some 89, none,.mv (.t 1)⟩,⟨some 90, none,.mv (.t 2)⟩,⟨some 91, none,.mv (.t 11)⟩,⟨some 92, none,.call zl98 [(.ld,(.t 88)),(.val,(.t 89)),(.val,(.t 90)),(.val,(.t 91))] false⟩,⟨some 13, none,.asg (.t 92)⟩] [0,2,3,8,9,13] []
def Jml:IC:=.reg [⟨some 93, none,.mv (.t 13)⟩,⟨some 1, none,.asgm (.t 93)⟩] [0,1,2,3,8,9] []
def Jmb:IC:=.reg [⟨some 95, none,.mv (.t 0)⟩,⟨some 96, none,.mv (.t 1)⟩,⟨some 97, none,.mv (.t 2)⟩,⟨some 98, none,.mv (.t 11)⟩,⟨some 99, none,.call zl99 [(.ld,(.t 95)),(.val,(.t 96)),(.val,(.t 97)),(.val,(.t 98))] false⟩,⟨some 94, none,.asg (.t 99)⟩,⟨some 100, none,.extr (.t 94) 0⟩,⟨some 101, none,.extr (.t 94) 1⟩,⟨some 14, none,.asg (.t 100)⟩,⟨some 15, none,.asg (.t 101)⟩] [0,1,2,3,10,14,15] []
def Jmc:IC:=.reg [⟨some 102, none,.mv (.t 15)⟩,⟨some 9, none,.asgm (.t 102)⟩] [0,1,2,3,9,10,14] []
def Jh4:IC:=.reg [⟨some 103, none,.mv (.t 14)⟩,⟨some 104, none,.mv (.t 1)⟩,⟨some 105, none,.bin .sub (.t 103) (.t 104)⟩,⟨some 106, none,.mv (.t 2)⟩,⟨some 107, none,.mv (.t 14)⟩,⟨some 108, none,.bin .sub (.t 106) (.t 107)⟩,⟨some 16, none,.asg (.t 105)⟩,⟨some 17, none,.asg (.t 108)⟩] [0,1,2,3,9,10,14,16,17] []
def Jiw:IC:=.reg [⟨some 109, none,.mv (.t 10)⟩,⟨some 110, none,.bin .quo (.t 109) (.c (vi 8))⟩,⟨some 18, none,.asg (.t 110)⟩] [0,1,2,3,9,14,16,17,18] []
def Jij:IC:=.reg [⟨some 111, none,.mv (.t 16)⟩,⟨some 112, none,.mv (.t 17)⟩,⟨some 113, none,.bin .lss (.t 111) (.t 112)⟩] [0,1,2,3,9,14,16,17,18,113] []
def Jih:IC:=.reg [⟨some 114, none,.mv (.t 16)⟩,⟨some 115, none,.mv (.t 18)⟩,⟨some 116, none,.bin .geq (.t 114) (.t 115)⟩,⟨some 8, none,.asg (.t 116)⟩] [0,1,2,3,8,9,14] []
def Jhn:IC:=.reg [⟨some 117, none,.mv (.t 0)⟩,⟨some 118, none,.mv (.t 1)⟩,⟨some 119, none,.mv (.t 14)⟩,⟨some 120, none,.mv (.t 3)⟩,⟨some 121, none,.call Qrs [(.ld,(.t 117)),(.val,(.t 118)),(.val,(.t 119)),(.val,(.t 120))] false⟩] [0,2,3,8,9,14] []
def Jhw:IC:=.reg [⟨some 122, none,.mv (.t 14)⟩,⟨some 123, none,.bin .add (.t 122) (.c (vi 1))⟩,⟨some 1, none,.asg (.t 123)⟩] [0,1,2,3,8,9] []
def Jil:IC:=.reg [⟨some 124, none,.mv (.t 17)⟩,⟨some 125, none,.mv (.t 18)⟩,⟨some 126, none,.bin .geq (.t 124) (.t 125)⟩,⟨some 8, none,.asg (.t 126)⟩] [0,1,2,3,8,9,14] []
def Jjt:IC:=.reg [⟨some 127, none,.mv (.t 0)⟩,⟨some 128, none,.mv (.t 14)⟩,⟨some 129, none,.bin .add (.t 128) (.c (vi 1))⟩,⟨some 130, none,.mv (.t 2)⟩,⟨some 131, none,.mv (.t 3)⟩,⟨some 132, none,.call Qrs [(.ld,(.t 127)),(.val,(.t 129)),(.val,(.t 130)),(.val,(.t 131))] false⟩] [0,1,3,8,9,14] []
def Jhy:IC:=.reg [⟨some 133, none,.mv (.t 14)⟩,⟨some 2, none,.asgm (.t 133)⟩] [0,1,2,3,8,9] []
def Jhl:IC:=(.block 1 (.seq Jtu (.seq (.seq z101r3 (.cond (.t 23) (.seq z101r4 .ret) .skip)) (.seq (.seq z101r5 (.cond (.t 29) (.seq z101r6 .ret) .skip)) (.seq (.seq Jru (.cond (.t 35) (.seq Jrd Jn9) .skip)) (.seq Jh9 (.seq (.seq Jls (.cond (.t 50) (.seq Ji7 (.seq Jna Jkn)) .skip)) (.seq (.seq Jh2 (.cond (.t 68) (.seq Jmy (.cond (.t 72) .ret .skip)) .skip)) (.seq (.seq Jii (.cond (.t 87) (.seq Jky (.seq Jml (.exit 1))) .skip)) (.seq Jmb (.seq Jmc (.seq Jh4 (.seq Jiw (.seq Jij (.cond (.t 113) (.seq Jih (.seq Jhn Jhw)) (.seq Jil (.seq Jjt Jhy)))))))))))))))))
def Jc2:Qa1:=⟨[],[0],(.seq Jv0 (.seq Jy9 (.block 0 (.loop Jhl))))⟩
def Jxj:IC:=.reg [⟨some 6, none,.asg (.c (vi 20))⟩] [0,1,2,6] []
def Jud:IC:=.reg [⟨some 10, none,.mv (.t 6)⟩,⟨some 7, none,.asg (.c (vi 0))⟩,⟨some 8, none,.asg (.t 10)⟩] [0,1,2,6,7,8] []
def z289r2:IC:=.reg [⟨some 11, none,.mv (.t 8)⟩,⟨some 12, none,.mv (.t 1)⟩,⟨some 13, none,.bin .leq (.t 11) (.t 12)⟩] [0,1,2,6,7,8,13] []
def Jt5:IC:=.reg [⟨some 14, none,.mv (.t 0)⟩,⟨some 15, none,.mv (.t 7)⟩,⟨some 16, none,.mv (.t 8)⟩,⟨some 17, none,.mv (.t 2)⟩,⟨some 18, none,.call Qu4 [(.ld,(.t 14)),(.val,(.t 15)),(.val,(.t 16)),(.val,(.t 17))] false⟩] [0,1,2,6,8] []
def Jw0:IC:=.reg [⟨some 19, none,.mv (.t 8)⟩,⟨some 7, none,.asg (.t 19)⟩] [0,1,2,6,7,8] []
def z289r5:IC:=.reg [⟨some 20, none,.mv (.t 8)⟩,⟨some 21, none,.mv (.t 6)⟩,⟨some 22, none,.bin .add (.t 20) (.t 21)⟩,⟨some 8, none,.asg (.t 22)⟩] [0,1,2,6,7,8] []
def z289l6:IC:=(.seq (.seq z289r2 (.cond (.t 13) .skip (.exit 0))) (.block 1 (.seq Jt5 (.seq Jw0 z289r5))))
def z289r7:IC:=.reg [⟨some 23, none,.mv (.t 0)⟩,⟨some 24, none,.mv (.t 7)⟩,⟨some 25, none,.mv (.t 1)⟩,⟨some 26, none,.mv (.t 2)⟩,⟨some 27, none,.call Qu4 [(.ld,(.t 23)),(.val,(.t 24)),(.val,(.t 25)),(.val,(.t 26))] false⟩] [0,1,2,6] []
def Jxw:IC:=.reg [⟨some 28, none,.mv (.t 6)⟩,⟨some 29, none,.mv (.t 1)⟩,⟨some 30, none,.bin .lss (.t 28) (.t 29)⟩] [0,1,2,6,30] []
def Jx5:IC:=.reg [⟨some 31, none,.mv (.t 6)⟩,⟨some 32, none,.bin .mul (.c (vi 2)) (.t 31)⟩,⟨some 7, none,.asg (.c (vi 0))⟩,⟨some 8, none,.asg (.t 32)⟩] [0,1,2,6,7,8] []
def Ji0:IC:=.reg [⟨some 33, none,.mv (.t 8)⟩,⟨some 34, none,.mv (.t 1)⟩,⟨some 35, none,.bin .leq (.t 33) (.t 34)⟩] [0,1,2,6,7,8,35] []
def Jl4:IC:=.reg [⟨some 36, none,.mv (.t 0)⟩,⟨some 37, none,.mv (.t 7)⟩,⟨some 38, none,.mv (.t 7)⟩,⟨some 39, none,.mv (.t 6)⟩,⟨some 40, none,.bin .add (.t 38) (.t 39)⟩,⟨some 41, none,.mv (.t 8)⟩,⟨some 42, none,.mv (.t 2)⟩,⟨some 43, none,.call Jly [(.ld,(.t 36)),(.val,(.t 37)),(.val,(.t 40)),(.val,(.t 41)),(.val,(.t 42))] false⟩] [0,1,2,6,8] []
def Jk7:IC:=.reg [⟨some 44, none,.mv (.t 8)⟩,⟨some 7, none,.asg (.t 44)⟩] [0,1,2,6,7,8] []
def Jjy:IC:=.reg [⟨some 45, none,.mv (.t 8)⟩,⟨some 46, none,.mv (.t 6)⟩,⟨some 47, none,.bin .mul (.c (vi 2)) (.t 46)⟩,⟨some 48, none,.bin .add (.t 45) (.t 47)⟩,⟨some 8, none,.asg (.t 48)⟩] [0,1,2,6,7,8] []
def Jjb:IC:=(.seq (.seq Ji0 (.cond (.t 35) .skip (.exit 4))) (.block 5 (.seq Jl4 (.seq Jk7 Jjy))))
def Jkh:IC:=.reg [⟨some 49, none,.mv (.t 7)⟩,⟨some 50, none,.mv (.t 6)⟩,⟨some 51, none,.bin .add (.t 49) (.t 50)⟩,⟨some 9, none,.asg (.t 51)⟩] [0,1,2,6,7,9] []
def Jm4:IC:=.reg [⟨some 52, none,.mv (.t 9)⟩,⟨some 53, none,.mv (.t 1)⟩,⟨some 54, none,.bin .lss (.t 52) (.t 53)⟩] [0,1,2,6,7,9,54] []
def Jkm:IC:=.reg [⟨some 55, none,.mv (.t 0)⟩,⟨some 56, none,.mv (.t 7)⟩,⟨some 57, none,.mv (.t 9)⟩,⟨some 58, none,.mv (.t 1)⟩,⟨some 59, none,.mv (.t 2)⟩,⟨some 60, none,.call Jly [(.ld,(.t 55)),(.val,(.t 56)),(.val,(.t 57)),(.val,(.t 58)),(.val,(.t 59))] false⟩] [0,1,2,6] []
def Jj1:IC:=.reg [⟨some 61, none,.mv (.t 6)⟩,⟨some 62, none,.bin .mul (.t 61) (.c (vi 2))⟩,⟨some 6, none,.asg (.t 62)⟩] [0,1,2,6] []
def Jjn:IC:=(.seq (.seq Jxw (.cond (.t 30) .skip (.exit 2))) (.block 3 (.seq Jx5 (.seq (.block 4 (.loop Jjb)) (.seq (.seq Jkh (.seq Jm4 (.cond (.t 54) Jkm .skip))) Jj1)))))
def Jb6:Qa1:=⟨[],[0],(.seq Jxj (.seq Jud (.seq (.block 0 (.loop z289l6)) (.seq z289r7 (.block 2 (.loop Jjn))))))⟩
def Jvq:IC:=.reg [⟨some 2, none,.asg (.c (.int .u64 (0)))⟩] [0] []
def z106r1:IC:=.reg [⟨some 3, none,.mv (.t 0)⟩,⟨some 4, none,.nilck (.t 3)⟩,⟨some 5, none,.load false 1 (.t 4)⟩,⟨some 6, none,.mv (.t 0)⟩,⟨some 7, none,.nilck (.t 6)⟩,⟨some 8, none,.load false 1 (.t 7)⟩,⟨some 9, none,.bin .shl (.t 8) (.c (.int .u64 (13)))⟩,⟨some 10, none,.bin .xor (.t 5) (.t 9)⟩,⟨some 11, none,.nilck (.t 3)⟩,⟨none,none,.store 1 (.t 11) (.t 10)⟩] [0] []
def z106r2:IC:=.reg [⟨some 12, none,.mv (.t 0)⟩,⟨some 13, none,.nilck (.t 12)⟩,⟨some 14, none,.load false 1 (.t 13)⟩,⟨some 15, none,.mv (.t 0)⟩,⟨some 16, none,.nilck (.t 15)⟩,⟨some 17, none,.load false 1 (.t 16)⟩,⟨some 18, none,.bin .shr (.t 17) (.c (.int .u64 (7)))⟩,⟨some 19, none,.bin .xor (.t 14) (.t 18)⟩,⟨some 20, none,.nilck (.t 12)⟩,⟨none,none,.store 1 (.t 20) (.t 19)⟩] [0] []
def Jui:IC:=.reg [⟨some 21, none,.mv (.t 0)⟩,⟨some 22, none,.nilck (.t 21)⟩,⟨some 23, none,.load false 1 (.t 22)⟩,⟨some 24, none,.mv (.t 0)⟩,⟨some 25, none,.nilck (.t 24)⟩,⟨some 26, none,.load false 1 (.t 25)⟩,⟨some 27, none,.bin .shl (.t 26) (.c (.int .u64 (17)))⟩,⟨some 28, none,.bin .xor (.t 23) (.t 27)⟩,⟨some 29, none,.nilck (.t 21)⟩,⟨none,none,.store 1 (.t 29) (.t 28)⟩] [0] []
def Jvj:IC:=.reg [⟨some 30, none,.mv (.t 0)⟩,⟨some 31, none,.nilck (.t 30)⟩,⟨some 32, none,.load false 1 (.t 31)⟩,⟨some 2, none,.asg (.t 32)⟩] [2] []
def Jcu:Qa1:=⟨[.t 2],[],(.seq Jvq (.seq z106r1 (.seq z106r2 (.seq Jui (.seq Jvj .ret)))))⟩
def Jz0:IC:=.reg [⟨some 2, none,.asg (.c (.slice none 0 0))⟩] [0] []
def z305r1:IC:=.reg [⟨some 4, none,.mv (.t 0)⟩,⟨some 5, none,.call Qxl [(.rd,(.t 4))] false⟩,⟨some 3, none,.asg (.t 5)⟩] [3] []
def z305r2:IC:=.reg [⟨some 6, none,.mv (.t 3)⟩,⟨some 7, none,.call Qey [(.val,(.t 6)),(.val,(.c (vi 4)))] false⟩,⟨some 8, none,.bin .eql (.t 7) (.c (vi 0))⟩] [3,8] []
def Jwd:IC:=.reg [⟨some 9, none,.mv (.t 3)⟩,⟨some 10, none,.mv (.t 3)⟩,⟨some 11, none,.call Qu7 [(.val,(.t 10))] false⟩,⟨some 12, none,.call Qpq [(.val,(.t 9)),(.tk,(.t 11))] false⟩,⟨some 2, none,.asg (.t 12)⟩] [2] []
def Jux:IC:=.reg [⟨some 13, none,.mv (.t 3)⟩,⟨some 14, none,.call Qz7 [(.val,(.t 13))] false⟩,⟨some 2, none,.asg (.t 14)⟩] [2] []
def Jaw:Qa1:=⟨[.t 2],[],(.seq Jz0 (.seq z305r1 (.seq (.seq z305r2 (.cond (.t 8) (.seq Jwd .ret) .skip)) (.seq Jux .ret))))⟩
def Jxe:IC:=.reg [⟨some 2, none,.asg (.c (.bool false))⟩] [0] []
def Jo9:IC:=.reg [⟨some 3, none,.mv (.t 0)⟩,⟨some 4, none,.call Qx2 [(.rd,(.t 3))] true⟩,⟨some 5, none,.asg (.t 4)⟩,⟨some 6, (some (5,true)),.mv (.t 0)⟩,⟨some 7, (some (5,true)),.call Qww [(.rd,(.t 6))] true⟩,⟨some 8, none,.pick (.t 5) (.t 7) (.c (.bool false))⟩,⟨some 2, none,.asg (.t 8)⟩] [2] []
def Qws:Qa1:=⟨[.t 2],[],(.seq Jxe (.seq Jo9 .ret))⟩
def Jty:IC:=.reg [⟨some 4, none,.alloc [(vi 0),(.slice none 0 0)]⟩] [0,1,4] []
def Jug:IC:=.reg [⟨some 9, none,.mv (.t 1)⟩,⟨some 10, none,.bsl 2 [(vi 0),(vi 0)] 0 []⟩,⟨some 11, none,.build [(vi 0),(.slice none 0 0)] [(0,1,(.t 9)),(1,1,(.t 10))]⟩,⟨some 5, none,.alloc [(vi 0),(.slice none 0 0)]⟩,⟨none,none,.store 2 (.t 5) (.t 11)⟩] [0,1,4,5] []
def Jyu:IC:=.reg [⟨some 12, none,.mv (.t 1)⟩,⟨some 13, none,.call Qvi [(.val,(.t 12))] true⟩,⟨some 6, none,.asg (.t 13)⟩] [0,4,5,6] []
def Jzu:IC:=.reg [⟨some 14, none,.mv (.t 0)⟩,⟨some 15, none,.call Qey [(.val,(.t 14)),(.val,(.c (vi 3)))] false⟩,⟨some 16, none,.bin .add (.c (vi 2)) (.t 15)⟩,⟨some 7, none,.asg (.t 16)⟩] [0,4,5,6,7] []
def Jyd:IC:=.reg [⟨some 8, none,.asg (.c (vi 0))⟩] [0,4,5,6,7,8] []
def Jp3:IC:=.reg [⟨some 17, none,.mv (.t 8)⟩,⟨some 18, none,.mv (.t 6)⟩,⟨some 19, none,.len (.t 18)⟩,⟨some 20, none,.bin .lss (.t 17) (.t 19)⟩] [0,4,5,6,7,8,20] []
def Jqg:IC:=.reg [⟨some 23, none,.mv (.t 0)⟩,⟨some 24, none,.mv (.t 7)⟩,⟨some 25, none,.call Qey [(.val,(.t 23)),(.val,(.t 24))] false⟩,⟨some 26, none,.bin .eql (.t 25) (.c (vi 0))⟩] [0,4,5,6,7,8,26] []
def Jys:IC:=.reg [⟨some 27, none,.fadr 1 (.t 5)⟩,⟨some 28, none,.load false 1 (.t 27)⟩,⟨some 29, none,.mv (.t 6)⟩,⟨some 30, none,.mv (.t 8)⟩,⟨some 31, none,.iadr 2 (.t 29) (.t 30)⟩,⟨some 32, none,.load true 2 (.t 31)⟩,⟨some 33, none,.bsl 2 [(vi 0),(vi 0)] 1 [(0,(.t 32))]⟩,⟨some 34, none,.app 2 (.t 28) (.t 33)⟩,⟨some 35, none,.fadr 1 (.t 5)⟩,⟨none,none,.store 1 (.t 35) (.t 34)⟩] [0,4,5,6,7,8] [[0,2,3,4,5,6,1,7,8,9]]
def Joi:IC:=.reg [⟨some 21, none,.mv (.t 8)⟩,⟨some 22, none,.bin .add (.t 21) (.c (vi 1))⟩,⟨some 8, none,.asg (.t 22)⟩] [0,4,5,6,7,8] []
def Jfw:IC:=(.seq (.seq Jp3 (.cond (.t 20) .skip (.exit 0))) (.seq (.block 1 (.seq Jqg (.cond (.t 26) Jys .skip))) Joi))
def Jjm:IC:=.reg [⟨some 36, none,.mv (.t 0)⟩,⟨some 37, none,.call Qey [(.val,(.t 36)),(.val,(.c (vi 4)))] false⟩,⟨some 38, none,.bin .eql (.t 37) (.c (vi 0))⟩] [4,5,38] []
def Jnk:IC:=.reg [⟨some 39, none,.load true 2 (.t 5)⟩,⟨some 40, none,.call Qya [(.rd,(.t 39))] true⟩,⟨none,none,.store 2 (.t 4) (.t 40)⟩] [4] []
def Jj9:IC:=.reg [⟨some 41, none,.load true 2 (.t 5)⟩,⟨none,none,.store 2 (.t 4) (.t 41)⟩] [4] []
def Qz6:Qa1:=⟨[.c 4 2 true],[],(.seq Jty (.seq Jug (.seq Jyu (.seq Jzu (.seq (.seq Jyd (.block 0 (.loop Jfw))) (.seq (.seq Jjm (.cond (.t 38) (.seq Jnk .ret) .skip)) (.seq Jj9 .ret)))))))⟩
def Jpq:IC:=.reg [⟨some 2, none,.asg (.c (.slice none 0 0))⟩] [0] []
def Jsh:IC:=.reg [⟨some 6, none,.bsl 1 [(vi 0)] 0 []⟩,⟨some 3, none,.asg (.t 6)⟩] [0,3] []
def Jzm:IC:=.reg [⟨some 7, none,.mv (.t 0)⟩,⟨some 8, none,.call Qey [(.val,(.t 7)),(.val,(.c (vi 6)))] false⟩,⟨some 4, none,.asg (.t 8)⟩] [0,3,4] []
def Jrx:IC:=.reg [⟨some 5, none,.asg (.c (vi 0))⟩] [0,3,4,5] []
def Jot:IC:=.reg [⟨some 9, none,.mv (.t 5)⟩,⟨some 10, none,.mv (.t 4)⟩,⟨some 11, none,.bin .lss (.t 9) (.t 10)⟩] [0,3,4,5,11] []
def Jzt:IC:=.reg [⟨some 14, none,.mv (.t 3)⟩,⟨some 15, none,.mv (.t 0)⟩,⟨some 16, none,.mv (.t 4)⟩,⟨some 17, none,.bin .add (.t 16) (.c (vi 2))⟩,⟨some 18, none,.call Qey [(.val,(.t 15)),(.val,(.t 17))] false⟩,⟨some 19, none,.bsl 1 [(vi 0)] 1 [(0,(.t 18))]⟩,⟨some 20, none,.app 1 (.t 14) (.t 19)⟩,⟨some 3, none,.asg (.t 20)⟩] [0,3,4,5] []
def z334r6:IC:=.reg [⟨some 12, none,.mv (.t 5)⟩,⟨some 13, none,.bin .add (.t 12) (.c (vi 1))⟩,⟨some 5, none,.asg (.t 13)⟩] [0,3,4,5] []
def Jgg:IC:=(.seq (.seq Jot (.cond (.t 11) .skip (.exit 0))) (.seq (.block 1 Jzt) z334r6))
def Jrc:IC:=.reg [⟨some 21, none,.mv (.t 3)⟩,⟨some 22, none,.call Qwl [(.rd,(.t 21))] true⟩,⟨some 23, none,.call Qq9 [(.rd,(.t 22))] true⟩,⟨some 2, none,.asg (.t 23)⟩] [2] []
def Jfj:Qa1:=⟨[.t 2],[],(.seq Jpq (.seq Jsh (.seq Jzm (.seq (.seq Jrx (.block 0 (.loop Jgg))) (.seq Jrc .ret)))))⟩
def z335r0:IC:=.reg [⟨some 3, none,.box (.t 0)⟩,⟨some 6, none,.alloc [(vi 0),(.slice none 0 0)]⟩] [1,2,3,6] []
def Jyo:IC:=.reg [⟨some 10, none,.mv (.t 1)⟩,⟨some 11, none,.mv (.t 2)⟩,⟨some 12, none,.minmax true (.t 10) (.t 11)⟩,⟨some 13, none,.mv (.t 1)⟩,⟨some 14, none,.mv (.t 2)⟩,⟨some 15, none,.minmax false (.t 13) (.t 14)⟩,⟨some 16, none,.build [(vi 0),(vi 0)] [(0,1,(.t 12)),(1,1,(.t 15))]⟩,⟨some 7, none,.alloc [(vi 0),(vi 0)]⟩,⟨none,none,.store 2 (.t 7) (.t 16)⟩] [3,6,7] []
def z335r2:IC:=.reg [⟨some 8, none,.asg (.c (vi 0))⟩] [3,6,7,8] []
def Jxv:IC:=.reg [⟨some 17, none,.mv (.t 8)⟩,⟨some 18, none,.fadr 1 (.t 3)⟩,⟨some 19, none,.load false 1 (.t 18)⟩,⟨some 20, none,.len (.t 19)⟩,⟨some 21, none,.bin .lss (.t 17) (.t 20)⟩,⟨some 22, none,.asg (.t 21)⟩,⟨some 23, (some (22,true)),.fadr 1 (.t 3)⟩,⟨some 24, (some (22,true)),.load false 1 (.t 23)⟩,⟨some 25, (some (22,true)),.mv (.t 8)⟩,⟨some 26, (some (22,true)),.iadr 2 (.t 24) (.t 25)⟩,⟨some 27, (some (22,true)),.load true 2 (.t 26)⟩,⟨some 28, (some (22,true)),.load true 2 (.t 7)⟩,⟨some 29, (some (22,true)),.call Qyn [(.val,(.t 27)),(.val,(.t 28))] true⟩,⟨some 30, none,.pick (.t 22) (.t 29) (.c (.bool false))⟩] [3,6,7,8,30] []
def z335r4:IC:=.reg [⟨some 31, none,.mv (.t 8)⟩,⟨some 32, none,.bin .add (.t 31) (.c (vi 1))⟩,⟨some 8, none,.asg (.t 32)⟩] [3,6,7,8] []
def Jg1:IC:=(.seq (.seq Jxv (.cond (.t 30) .skip (.exit 0))) (.block 1 z335r4))
def Jqm:IC:=.reg [⟨some 33, none,.bsl 2 [(vi 0),(vi 0)] 0 []⟩,⟨some 34, none,.fadr 1 (.t 3)⟩,⟨some 35, none,.load false 1 (.t 34)⟩,⟨some 36, none,.mv (.t 8)⟩,⟨some 37, none,.slc 2 (.t 35) none (some (.t 36)) none⟩,⟨some 38, none,.app 2 (.t 33) (.t 37)⟩,⟨some 9, none,.asg (.t 38)⟩] [3,6,7,8,9] []
def z335r7:IC:=.reg [⟨some 39, none,.fadr 0 (.t 3)⟩,⟨some 40, none,.load false 1 (.t 39)⟩,⟨some 41, none,.mv (.t 9)⟩,⟨some 42, none,.load true 2 (.t 7)⟩,⟨some 43, none,.bsl 2 [(vi 0),(vi 0)] 1 [(0,(.t 42))]⟩,⟨some 44, none,.app 2 (.t 41) (.t 43)⟩,⟨some 45, none,.fadr 1 (.t 3)⟩,⟨some 46, none,.load false 1 (.t 45)⟩,⟨some 47, none,.mv (.t 8)⟩,⟨some 48, none,.slc 2 (.t 46) (some (.t 47)) none none⟩,⟨some 49, none,.app 2 (.t 44) (.t 48)⟩,⟨some 50, none,.build [(vi 0),(.slice none 0 0)] [(0,1,(.t 40)),(1,1,(.t 49))]⟩,
    ⟨none,none,.store 2 (.t 6) (.t 50)⟩] [6] [[0,1,2,3,4,6,7,5,8,9,10,11,12],[0,1,2,3,6,7,4,5,8,9,10,11,12],[0,2,3,4,1,5,6,7,8,9,10,11,12],[0,2,3,4,1,6,7,5,8,9,10,11,12],[0,2,3,6,7,4,1,5,8,9,10,11,12],[0,2,3,4,5,1,6,7,8,9,10,11,12],[0,2,3,4,5,6,7,8,9,10,1,11,12],[0,2,3,4,6,7,5,1,8,9,10,11,12],[0,2,3,4,6,7,5,8,9,10,1,11,12],[0,2,3,6,7,4,5,1,8,9,10,11,12],[0,2,3,6,7,4,5,8,9,10,1,11,12]]
def Jdv:Qa1:=⟨[.c 6 2 true],[],(.seq z335r0 (.seq Jyo (.seq z335r2 (.seq (.block 0 (.loop Jg1)) (.seq Jqm (.seq z335r7 .ret))))))⟩
def Jxf:IC:=.reg [⟨some 4, none,.asg (.c (.slice none 0 0))⟩] [0,1] []
def Jrm:IC:=.reg [⟨some 5, none,.mv (.t 0)⟩,⟨some 6, none,.call Qey [(.val,(.t 5)),(.val,(.c (vi 24)))] false⟩,⟨some 7, none,.bin .eql (.t 6) (.c (vi 0))⟩] [0,1,7] []
def z121r2:IC:=.reg [⟨some 8, none,.mv (.t 1)⟩,⟨some 9, none,.mv (.t 0)⟩,⟨some 10, none,.bsl 1 [(vi 0)] 4 [(0,(.c (vi (-1)))),(1,(.c (vi 7))),(2,(.c (vi 8))),(3,(.c (vi 0)))]⟩,⟨some 11, none,.call Qi5 [(.val,(.t 9)),(.rd,(.t 10))] false⟩,⟨some 12, none,.bsl 1 [(vi 0)] 1 [(0,(.t 11))]⟩,⟨some 13, none,.app 1 (.t 8) (.t 12)⟩,⟨some 4, none,.asg (.t 13)⟩] [1,4] []
def z121r3:IC:=.reg [⟨some 14, none,.mv (.t 1)⟩,⟨some 15, none,.len (.t 14)⟩,⟨some 16, none,.bin .gtr (.t 15) (.c (vi 0))⟩,⟨some 17, none,.asg (.t 16)⟩,⟨some 18, (some (17,true)),.mv (.t 0)⟩,⟨some 19, (some (17,true)),.call Qey [(.val,(.t 18)),(.val,(.c (vi 30)))] false⟩,⟨some 20, (some (17,true)),.bin .eql (.t 19) (.c (vi 0))⟩,⟨some 21, none,.pick (.t 17) (.t 20) (.c (.bool false))⟩] [0,1,21] []
def Jto:IC:=.reg [⟨some 22, none,.mv (.t 1)⟩,⟨some 23, none,.mv (.t 0)⟩,⟨some 24, none,.mv (.t 1)⟩,⟨some 25, none,.len (.t 24)⟩,⟨some 26, none,.call Qey [(.val,(.t 23)),(.val,(.t 25))] false⟩,⟨some 27, none,.mv (.t 0)⟩,⟨some 28, none,.bsl 1 [(vi 0)] 3 [(0,(.c (vi (-1)))),(1,(.c (vi 7))),(2,(.c (vi 6)))]⟩,⟨some 29, none,.call Qi5 [(.val,(.t 27)),(.rd,(.t 28))] false⟩,⟨some 30, none,.iadr 1 (.t 22) (.t 26)⟩,⟨none,none,.store 1 (.t 30) (.t 29)⟩] [1] []
def Jup:IC:=.reg [⟨some 31, none,.mv (.t 1)⟩,⟨some 4, none,.asgm (.t 31)⟩] [1,4] []
def Qq8:Qa1:=⟨[.t 4],[],(.seq Jxf (.seq (.seq Jrm (.cond (.t 7) (.seq z121r2 .ret) .skip)) (.seq (.seq z121r3 (.cond (.t 21) Jto .skip)) (.seq Jup .ret))))⟩
def Juq:IC:=.reg [⟨some 2, none,.alloc [(vi 0),(.slice none 0 0)]⟩] [0,2] []
def z341r1:IC:=.reg [⟨some 12, none,.mv (.t 0)⟩,⟨some 13, none,.len (.t 12)⟩,⟨some 14, none,.bin .add (.t 13) (.c (vi 2))⟩,⟨some 3, none,.asg (.t 14)⟩] [0,2,3] []
def Jqf:IC:=.reg [⟨some 15, none,.mv (.t 3)⟩,⟨some 16, none,.bsl 2 [(vi 0),(vi 0)] 0 []⟩,⟨some 17, none,.build [(vi 0),(.slice none 0 0)] [(0,1,(.t 15)),(1,1,(.t 16))]⟩,⟨some 4, none,.alloc [(vi 0),(.slice none 0 0)]⟩,⟨none,none,.store 2 (.t 4) (.t 17)⟩] [0,2,3,4] []
def Jps:IC:=.reg [⟨some 18, none,.mv (.t 3)⟩,⟨some 19, none,.mksl 1 [(vi 0)] (.t 18) (.t 18)⟩,⟨some 5, none,.asg (.t 19)⟩] [0,2,3,4,5] []
def Jw2:IC:=.reg [⟨some 6, none,.asg (.c (vi 0))⟩] [0,2,3,4,5,6] []
def Jx7:IC:=.reg [⟨some 20, none,.mv (.t 6)⟩,⟨some 21, none,.mv (.t 0)⟩,⟨some 22, none,.len (.t 21)⟩,⟨some 23, none,.bin .lss (.t 20) (.t 22)⟩] [0,2,3,4,5,6,23] []
def z341r6:IC:=.reg [⟨some 26, none,.mv (.t 5)⟩,⟨some 27, none,.mv (.t 0)⟩,⟨some 28, none,.mv (.t 6)⟩,⟨some 29, none,.iadr 1 (.t 27) (.t 28)⟩,⟨some 30, none,.load false 1 (.t 29)⟩,⟨some 31, none,.mv (.t 5)⟩,⟨some 32, none,.mv (.t 0)⟩,⟨some 33, none,.mv (.t 6)⟩,⟨some 34, none,.iadr 1 (.t 32) (.t 33)⟩,⟨some 35, none,.load false 1 (.t 34)⟩,⟨some 36, none,.iadr 1 (.t 31) (.t 35)⟩,⟨some 37, none,.load false 1 (.t 36)⟩,⟨some 38, none,.bin .add (.t 37) (.c (vi 1))⟩,⟨some 39, none,.iadr 1 (.t 26) (.t 30)⟩,⟨none,none,.store 1 (.t 39) (.t 38)⟩] [0,2,3,4,5,6] []
def Jod:IC:=.reg [⟨some 24, none,.mv (.t 6)⟩,⟨some 25, none,.bin .add (.t 24) (.c (vi 1))⟩,⟨some 6, none,.asg (.t 25)⟩] [0,2,3,4,5,6] []
def Jhc:IC:=(.seq (.seq Jx7 (.cond (.t 23) .skip (.exit 0))) (.seq (.block 1 z341r6) Jod))
def z341r9:IC:=.reg [⟨some 40, none,.bsl 1 [(vi 0)] 0 []⟩,⟨some 7, none,.asg (.t 40)⟩] [0,2,3,4,5,7] []
def Jig:IC:=.reg [⟨some 8, none,.asg (.c (vi 0))⟩] [0,2,3,4,5,7,8] []
def Jnl:IC:=.reg [⟨some 41, none,.mv (.t 8)⟩,⟨some 42, none,.mv (.t 0)⟩,⟨some 43, none,.len (.t 42)⟩,⟨some 44, none,.bin .lss (.t 41) (.t 43)⟩] [0,2,3,4,5,7,8,44] []
def Jk9:IC:=.reg [⟨some 9, none,.asg (.c (vi 0))⟩] [0,2,3,4,5,7,8,9] []
def Jla:IC:=.reg [⟨some 47, none,.mv (.t 5)⟩,⟨some 48, none,.mv (.t 9)⟩,⟨some 49, none,.iadr 1 (.t 47) (.t 48)⟩,⟨some 50, none,.load false 1 (.t 49)⟩,⟨some 51, none,.bin .gtr (.t 50) (.c (vi 0))⟩,⟨some 52, none,.asg (.t 51)⟩,⟨some 53, (some (52,false)),.mv (.t 7)⟩,⟨some 54, (some (52,false)),.mv (.t 9)⟩,⟨some 55, (some (52,false)),.call Quq [(.rd,(.t 53)),(.val,(.t 54))] true⟩,⟨some 56, none,.pick (.t 52) (.c (.bool true)) (.t 55)⟩] [0,2,3,4,5,7,8,9,56] []
def Jkz:IC:=.reg [⟨some 57, none,.mv (.t 9)⟩,⟨some 58, none,.bin .add (.t 57) (.c (vi 1))⟩,⟨some 9, none,.asg (.t 58)⟩] [0,2,3,4,5,7,8,9] []
def Ja5:IC:=(.seq (.seq Jla (.cond (.t 56) .skip (.exit 4))) (.block 5 Jkz))
def Jl5:IC:=.reg [⟨some 59, none,.load true 2 (.t 4)⟩,⟨some 60, none,.mv (.t 9)⟩,⟨some 61, none,.mv (.t 0)⟩,⟨some 62, none,.mv (.t 8)⟩,⟨some 63, none,.iadr 1 (.t 61) (.t 62)⟩,⟨some 64, none,.load false 1 (.t 63)⟩,⟨some 65, none,.call Qun [(.rd,(.t 59)),(.val,(.t 60)),(.val,(.t 64))] true⟩,⟨none,none,.store 2 (.t 4) (.t 65)⟩] [0,2,3,4,5,7,8,9] []
def Jjg:IC:=.reg [⟨some 66, none,.mv (.t 7)⟩,⟨some 67, none,.mv (.t 9)⟩,⟨some 68, none,.bsl 1 [(vi 0)] 1 [(0,(.t 67))]⟩,⟨some 69, none,.app 1 (.t 66) (.t 68)⟩,⟨some 7, none,.asg (.t 69)⟩] [0,2,3,4,5,7,8] []
def Jjs:IC:=.reg [⟨some 70, none,.mv (.t 5)⟩,⟨some 71, none,.mv (.t 0)⟩,⟨some 72, none,.mv (.t 8)⟩,⟨some 73, none,.iadr 1 (.t 71) (.t 72)⟩,⟨some 74, none,.load false 1 (.t 73)⟩,⟨some 75, none,.mv (.t 5)⟩,⟨some 76, none,.mv (.t 0)⟩,⟨some 77, none,.mv (.t 8)⟩,⟨some 78, none,.iadr 1 (.t 76) (.t 77)⟩,⟨some 79, none,.load false 1 (.t 78)⟩,⟨some 80, none,.iadr 1 (.t 75) (.t 79)⟩,⟨some 81, none,.load false 1 (.t 80)⟩,⟨some 82, none,.bin .sub (.t 81) (.c (vi 1))⟩,⟨some 83, none,.iadr 1 (.t 70) (.t 74)⟩,⟨none,none,.store 1 (.t 83) (.t 82)⟩] [0,2,3,4,5,7,8] []
def Jmz:IC:=.reg [⟨some 45, none,.mv (.t 8)⟩,⟨some 46, none,.bin .add (.t 45) (.c (vi 1))⟩,⟨some 8, none,.asg (.t 46)⟩] [0,2,3,4,5,7,8] []
def Qy4:IC:=(.seq (.seq Jnl (.cond (.t 44) .skip (.exit 2))) (.seq (.block 3 (.seq Jk9 (.seq (.block 4 (.loop Ja5)) (.seq Jl5 (.seq Jjg Jjs))))) Jmz))
def Jm1:IC:=.reg [⟨some 84, none,.bsl 1 [(vi 0)] 0 []⟩,⟨some 10, none,.asg (.t 84)⟩] [2,3,4,7,10] []
def Jiu:IC:=.reg [⟨some 11, none,.asg (.c (vi 0))⟩] [2,3,4,7,10,11] []
def Jnh:IC:=.reg [⟨some 85, none,.mv (.t 11)⟩,⟨some 86, none,.mv (.t 3)⟩,⟨some 87, none,.bin .lss (.t 85) (.t 86)⟩] [2,3,4,7,10,11,87] []
def Jhr:IC:=.reg [⟨some 90, none,.mv (.t 7)⟩,⟨some 91, none,.mv (.t 11)⟩,⟨some 92, none,.call Quq [(.rd,(.t 90)),(.val,(.t 91))] true⟩,⟨some 93, none,.unop .not (.t 92)⟩] [2,3,4,7,10,11,93] []
def Jk2:IC:=.reg [⟨some 94, none,.mv (.t 10)⟩,⟨some 95, none,.mv (.t 11)⟩,⟨some 96, none,.bsl 1 [(vi 0)] 1 [(0,(.t 95))]⟩,⟨some 97, none,.app 1 (.t 94) (.t 96)⟩,⟨some 10, none,.asg (.t 97)⟩] [2,3,4,7,10,11] []
def Jle:IC:=.reg [⟨some 88, none,.mv (.t 11)⟩,⟨some 89, none,.bin .add (.t 88) (.c (vi 1))⟩,⟨some 11, none,.asg (.t 89)⟩] [2,3,4,7,10,11] []
def Jak:IC:=(.seq (.seq Jnh (.cond (.t 87) .skip (.exit 6))) (.seq (.block 7 (.seq Jhr (.cond (.t 93) Jk2 .skip))) Jle))
def Ji6:IC:=.reg [⟨some 98, none,.load true 2 (.t 4)⟩,⟨some 99, none,.mv (.t 10)⟩,⟨some 100, none,.iadr 1 (.t 99) (.c (vi 0))⟩,⟨some 101, none,.load false 1 (.t 100)⟩,⟨some 102, none,.mv (.t 10)⟩,⟨some 103, none,.iadr 1 (.t 102) (.c (vi 1))⟩,⟨some 104, none,.load false 1 (.t 103)⟩,⟨some 105, none,.call Qun [(.rd,(.t 98)),(.val,(.t 101)),(.val,(.t 104))] true⟩,⟨none,none,.store 2 (.t 2) (.t 105)⟩] [2] []
def Jce:Qa1:=⟨[.c 2 2 true],[],(.seq Juq (.seq z341r1 (.seq Jqf (.seq Jps (.seq (.seq Jw2 (.block 0 (.loop Jhc))) (.seq z341r9 (.seq (.seq Jig (.block 2 (.loop Qy4))) (.seq Jm1 (.seq (.seq Jiu (.block 6 (.loop Jak))) (.seq Ji6 .ret))))))))))⟩
def z122r0:IC:=.reg [⟨some 1, none,.box (.t 0)⟩,⟨some 2, none,.alloc [(vi 0),(.slice none 0 0)]⟩] [1,2] []
def z122r1:IC:=.reg [⟨some 6, none,.fadr 0 (.t 1)⟩,⟨some 7, none,.load false 1 (.t 6)⟩,⟨some 8, none,.bsl 2 [(vi 0),(vi 0)] 0 []⟩,⟨some 9, none,.build [(vi 0),(.slice none 0 0)] [(0,1,(.t 7)),(1,1,(.t 8))]⟩,⟨some 3, none,.alloc [(vi 0),(.slice none 0 0)]⟩,⟨none,none,.store 2 (.t 3) (.t 9)⟩] [1,2,3] []
def Jvy:IC:=.reg [⟨some 10, none,.fadr 0 (.t 1)⟩,⟨some 11, none,.load false 1 (.t 10)⟩,⟨some 12, none,.call Qvi [(.val,(.t 11))] true⟩,⟨some 4, none,.asg (.t 12)⟩] [1,2,3,4] []
def Js9:IC:=.reg [⟨some 5, none,.asg (.c (vi 0))⟩] [1,2,3,4,5] []
def Jwz:IC:=.reg [⟨some 13, none,.mv (.t 5)⟩,⟨some 14, none,.mv (.t 4)⟩,⟨some 15, none,.len (.t 14)⟩,⟨some 16, none,.bin .lss (.t 13) (.t 15)⟩] [1,2,3,4,5,16] []
def Jvx:IC:=.reg [⟨some 19, none,.load true 2 (.t 1)⟩,⟨some 20, none,.mv (.t 4)⟩,⟨some 21, none,.mv (.t 5)⟩,⟨some 22, none,.iadr 2 (.t 20) (.t 21)⟩,⟨some 23, none,.fadr 0 (.t 22)⟩,⟨some 24, none,.load false 1 (.t 23)⟩,⟨some 25, none,.mv (.t 4)⟩,⟨some 26, none,.mv (.t 5)⟩,⟨some 27, none,.iadr 2 (.t 25) (.t 26)⟩,⟨some 28, none,.fadr 1 (.t 27)⟩,⟨some 29, none,.load false 1 (.t 28)⟩,⟨some 30, none,.call Qw2 [(.rd,(.t 19)),(.val,(.t 24)),(.val,(.t 29))] true⟩,⟨some 31, none,.unop .not (.t 30)⟩] [1,2,3,4,5,31] []
def Jo5:IC:=.reg [⟨some 32, none,.fadr 1 (.t 3)⟩,⟨some 33, none,.load false 1 (.t 32)⟩,⟨some 34, none,.mv (.t 4)⟩,⟨some 35, none,.mv (.t 5)⟩,⟨some 36, none,.iadr 2 (.t 34) (.t 35)⟩,⟨some 37, none,.load true 2 (.t 36)⟩,⟨some 38, none,.bsl 2 [(vi 0),(vi 0)] 1 [(0,(.t 37))]⟩,⟨some 39, none,.app 2 (.t 33) (.t 38)⟩,⟨some 40, none,.fadr 1 (.t 3)⟩,⟨none,none,.store 1 (.t 40) (.t 39)⟩] [1,2,3,4,5] [[0,2,3,4,5,6,1,7,8,9]]
def Jw5:IC:=.reg [⟨some 17, none,.mv (.t 5)⟩,⟨some 18, none,.bin .add (.t 17) (.c (vi 1))⟩,⟨some 5, none,.asg (.t 18)⟩] [1,2,3,4,5] []
def Jha:IC:=(.seq (.seq Jwz (.cond (.t 16) .skip (.exit 0))) (.seq (.block 1 (.seq Jvx (.cond (.t 31) Jo5 .skip))) Jw5))
def Jzx:IC:=.reg [⟨some 41, none,.load true 2 (.t 3)⟩,⟨none,none,.store 2 (.t 2) (.t 41)⟩] [2] []
def Jev:Qa1:=⟨[.c 2 2 true],[],(.seq z122r0 (.seq z122r1 (.seq Jvy (.seq (.seq Js9 (.block 0 (.loop Jha))) (.seq Jzx .ret)))))⟩
def Jt6:IC:=.reg [⟨some 2, none,.asg (.c (.slice none 0 0))⟩] [0] []
def Jqz:IC:=.reg [⟨some 3, none,.bsl 1 [(vi 0)] 0 []⟩,⟨some 4, none,.mv (.t 0)⟩,⟨some 5, none,.app 1 (.t 3) (.t 4)⟩,⟨some 2, none,.asg (.t 5)⟩] [2] []
def Jdq:Qa1:=⟨[.t 2],[],(.seq Jt6 (.seq Jqz .ret))⟩
def z125r0:IC:=.reg [⟨some 1, none,.box (.t 0)⟩,⟨some 2, none,.asg (.c (.slice none 0 0))⟩] [1] []
def Jv2:IC:=.reg [⟨some 5, none,.fadr 0 (.t 1)⟩,⟨some 6, none,.load false 1 (.t 5)⟩,⟨some 7, none,.mksl 1 [(vi 0)] (.t 6) (.t 6)⟩,⟨some 3, none,.asg (.t 7)⟩] [1,3] []
def Jpm:IC:=.reg [⟨some 4, none,.asg (.c (vi 0))⟩] [1,3,4] []
def Jzl:IC:=.reg [⟨some 8, none,.mv (.t 4)⟩,⟨some 9, none,.fadr 1 (.t 1)⟩,⟨some 10, none,.load false 1 (.t 9)⟩,⟨some 11, none,.len (.t 10)⟩,⟨some 12, none,.bin .lss (.t 8) (.t 11)⟩] [1,3,4,12] []
def Jpa:IC:=.reg [⟨some 15, none,.mv (.t 3)⟩,⟨some 16, none,.fadr 1 (.t 1)⟩,⟨some 17, none,.load false 1 (.t 16)⟩,⟨some 18, none,.mv (.t 4)⟩,⟨some 19, none,.iadr 2 (.t 17) (.t 18)⟩,⟨some 20, none,.fadr 0 (.t 19)⟩,⟨some 21, none,.load false 1 (.t 20)⟩,⟨some 22, none,.mv (.t 3)⟩,⟨some 23, none,.fadr 1 (.t 1)⟩,⟨some 24, none,.load false 1 (.t 23)⟩,⟨some 25, none,.mv (.t 4)⟩,⟨some 26, none,.iadr 2 (.t 24) (.t 25)⟩,⟨some 27, none,.fadr 0 (.t 26)⟩,⟨some 28, none,.load false 1 (.t 27)⟩,⟨some 29, none,.iadr 1 (.t 22) (.t 28)⟩,⟨some 30, none,.load false 1 (.t 29)⟩,⟨some 31, none,.bin .add (.t 30) (.c (vi 1))⟩,⟨some 32, none,.iadr 1 (.t 15) (.t 21)⟩,⟨none,none,.store 1 (.t 32) (.t 31)⟩] [1,3,4] []
def Jp4:IC:=.reg [⟨some 33, none,.mv (.t 3)⟩,⟨some 34, none,.fadr 1 (.t 1)⟩,⟨some 35, none,.load false 1 (.t 34)⟩,⟨some 36, none,.mv (.t 4)⟩,⟨some 37, none,.iadr 2 (.t 35) (.t 36)⟩,⟨some 38, none,.fadr 1 (.t 37)⟩,⟨some 39, none,.load false 1 (.t 38)⟩,⟨some 40, none,.mv (.t 3)⟩,⟨some 41, none,.fadr 1 (.t 1)⟩,⟨some 42, none,.load false 1 (.t 41)⟩,⟨some 43, none,.mv (.t 4)⟩,⟨some 44, none,.iadr 2 (.t 42) (.t 43)⟩,⟨some 45, none,.fadr 1 (.t 44)⟩,⟨some 46, none,.load false 1 (.t 45)⟩,⟨some 47, none,.iadr 1 (.t 40) (.t 46)⟩,⟨some 48, none,.load false 1 (.t 47)⟩,⟨some 49, none,.bin .add (.t 48) (.c (vi 1))⟩,⟨some 50, none,.iadr 1 (.t 33) (.t 39)⟩,⟨none,none,.store 1 (.t 50) (.t 49)⟩] [1,3,4] []
def Jr2:IC:=.reg [⟨some 13, none,.mv (.t 4)⟩,⟨some 14, none,.bin .add (.t 13) (.c (vi 1))⟩,⟨some 4, none,.asg (.t 14)⟩] [1,3,4] []
def Jgh:IC:=(.seq (.seq Jzl (.cond (.t 12) .skip (.exit 0))) (.seq (.block 1 (.seq Jpa Jp4)) Jr2))
def Jvh:IC:=.reg [⟨some 51, none,.mv (.t 3)⟩,⟨some 2, none,.asgm (.t 51)⟩] [2,3] []
def Jfi:Qa1:=⟨[.t 2],[],(.seq z125r0 (.seq Jv2 (.seq (.seq Jpm (.block 0 (.loop Jgh))) (.seq Jvh .ret))))⟩
def Js4:IC:=.reg [⟨some 2, none,.box (.t 0)⟩,⟨some 3, none,.box (.t 1)⟩,⟨some 4, none,.asg (.c (.bool false))⟩] [2,3] []
def Jum:IC:=.reg [⟨some 5, none,.fadr 0 (.t 2)⟩,⟨some 6, none,.load false 1 (.t 5)⟩,⟨some 7, none,.fadr 0 (.t 3)⟩,⟨some 8, none,.load false 1 (.t 7)⟩,⟨some 9, none,.bin .lss (.t 6) (.t 8)⟩,⟨some 10, none,.asg (.t 9)⟩,⟨some 11, (some (10,false)),.fadr 0 (.t 2)⟩,⟨some 12, (some (10,false)),.load false 1 (.t 11)⟩,⟨some 13, (some (10,false)),.fadr 0 (.t 3)⟩,⟨some 14, (some (10,false)),.load false 1 (.t 13)⟩,⟨some 15, (some (10,false)),.bin .eql (.t 12) (.t 14)⟩,⟨some 16, (some (10,false)),.asg (.t 15)⟩,⟨some 17, (some (16,true)),.fadr 1 (.t 2)⟩,⟨some 18, (some (16,true)),.load false 1 (.t 17)⟩,⟨some 19, (some (16,true)),.fadr 1 (.t 3)⟩,⟨some 20, (some (16,true)),.load false 1 (.t 19)⟩,⟨some 21, (some (16,true)),.bin .lss (.t 18) (.t 20)⟩,⟨some 22, (some (10,false)),.pick (.t 16) (.t 21) (.c (.bool false))⟩,⟨some 23, none,.pick (.t 10) (.c (.bool true)) (.t 22)⟩,
    ⟨some 4, none,.asg (.t 23)⟩] [4] []
def Qt2:Qa1:=⟨[.t 4],[],(.seq Js4 (.seq Jum .ret))⟩
def Jzd:IC:=.reg [⟨some 2, none,.asg (.c (.slice none 0 0))⟩] [0] []
def Jo0:IC:=.reg [⟨some 6, none,.bsl 1 [(vi 0)] 0 []⟩,⟨some 3, none,.asg (.t 6)⟩] [0,3] []
def Jx9:IC:=.reg [⟨some 4, none,.asg (.c (vi 0))⟩] [0,3,4] []
def Jua:IC:=.reg [⟨some 7, none,.mv (.t 4)⟩,⟨some 8, none,.mv (.t 0)⟩,⟨some 9, none,.len (.t 8)⟩,⟨some 10, none,.bin .lss (.t 7) (.t 9)⟩] [0,3,4,10] []
def Jqu:IC:=.reg [⟨some 5, none,.asg (.c (vi 0))⟩] [0,3,4,5] []
def Jpz:IC:=.reg [⟨some 13, none,.mv (.t 5)⟩,⟨some 14, none,.mv (.t 3)⟩,⟨some 15, none,.len (.t 14)⟩,⟨some 16, none,.bin .lss (.t 13) (.t 15)⟩,⟨some 17, none,.asg (.t 16)⟩,⟨some 18, (some (17,true)),.mv (.t 3)⟩,⟨some 19, (some (17,true)),.mv (.t 5)⟩,⟨some 20, (some (17,true)),.iadr 1 (.t 18) (.t 19)⟩,⟨some 21, (some (17,true)),.load false 1 (.t 20)⟩,⟨some 22, (some (17,true)),.mv (.t 0)⟩,⟨some 23, (some (17,true)),.mv (.t 4)⟩,⟨some 24, (some (17,true)),.iadr 1 (.t 22) (.t 23)⟩,⟨some 25, (some (17,true)),.load false 1 (.t 24)⟩,⟨some 26, (some (17,true)),.bin .geq (.t 21) (.t 25)⟩,⟨some 27, none,.pick (.t 17) (.t 26) (.c (.bool false))⟩] [0,3,4,5,27] []
def Jp7:IC:=.reg [⟨some 28, none,.mv (.t 5)⟩,⟨some 29, none,.bin .add (.t 28) (.c (vi 1))⟩,⟨some 5, none,.asg (.t 29)⟩] [0,3,4,5] []
def Jgl:IC:=(.seq (.seq Jpz (.cond (.t 27) .skip (.exit 2))) (.block 3 Jp7))
def Juy:IC:=.reg [⟨some 30, none,.mv (.t 3)⟩,⟨some 31, none,.mv (.t 5)⟩,⟨some 32, none,.slc 1 (.t 30) none (some (.t 31)) none⟩,⟨some 33, none,.call Qvz [(.rd,(.t 32))] true⟩,⟨some 34, none,.mv (.t 0)⟩,⟨some 35, none,.mv (.t 4)⟩,⟨some 36, none,.iadr 1 (.t 34) (.t 35)⟩,⟨some 37, none,.load false 1 (.t 36)⟩,⟨some 38, none,.bsl 1 [(vi 0)] 1 [(0,(.t 37))]⟩,⟨some 39, none,.app 1 (.t 33) (.t 38)⟩,⟨some 40, none,.mv (.t 3)⟩,⟨some 41, none,.mv (.t 5)⟩,⟨some 42, none,.slc 1 (.t 40) (some (.t 41)) none none⟩,⟨some 43, none,.app 1 (.t 39) (.t 42)⟩,⟨some 3, none,.asg (.t 43)⟩] [0,3,4] [[0,1,2,4,5,6,7,3,8,9,10,11,12,13,14],[0,1,2,4,5,6,7,8,3,9,10,11,12,13,14]]
def Jxs:IC:=.reg [⟨some 11, none,.mv (.t 4)⟩,⟨some 12, none,.bin .add (.t 11) (.c (vi 1))⟩,⟨some 4, none,.asg (.t 12)⟩] [0,3,4] []
def Qyd:IC:=(.seq (.seq Jua (.cond (.t 10) .skip (.exit 0))) (.seq (.block 1 (.seq Jqu (.seq (.block 2 (.loop Jgl)) Juy))) Jxs))
def Jh6:IC:=.reg [⟨some 44, none,.mv (.t 3)⟩,⟨some 2, none,.asgm (.t 44)⟩] [2,3] []
def Jeg:Qa1:=⟨[.t 2],[],(.seq Jzd (.seq Jo0 (.seq (.seq Jx9 (.block 0 (.loop Qyd))) (.seq Jh6 .ret))))⟩
def z350r0:IC:=.reg [⟨some 2, none,.asg (.c (.slice none 0 0))⟩] [0] []
def Jyp:IC:=.reg [⟨some 3, none,.mv (.t 0)⟩,⟨some 4, none,.call Qey [(.val,(.t 3)),(.val,(.c (vi 24)))] false⟩,⟨some 5, none,.bin .eql (.t 4) (.c (vi 0))⟩] [0,5] []
def Jvl:IC:=.reg [⟨some 6, none,.mv (.t 0)⟩,⟨some 7, none,.call Qw6 [(.val,(.t 6))] false⟩,⟨some 2, none,.asg (.t 7)⟩] [2] []
def z350r3:IC:=.reg [⟨some 8, none,.mv (.t 0)⟩,⟨some 9, none,.mv (.t 0)⟩,⟨some 10, none,.call Qzr [(.val,(.t 9))] false⟩,⟨some 11, none,.call Qua [(.val,(.t 8)),(.tk,(.t 10))] false⟩,⟨some 2, none,.asg (.t 11)⟩] [2] []
def Ja8:Qa1:=⟨[.t 2],[],(.seq z350r0 (.seq (.seq Jyp (.cond (.t 5) (.seq Jvl .ret) .skip)) (.seq z350r3 .ret)))⟩
def Jtk:IC:=.reg [⟨some 2, none,.asg (.c (.slice none 0 0))⟩] [0] []
def Jpj:IC:=.reg [⟨some 4, none,.mv (.t 0)⟩,⟨some 5, none,.call Qz5 [(.val,(.t 4))] false⟩,⟨some 6, none,.call Qq9 [(.rd,(.t 5))] true⟩,⟨some 3, none,.asg (.t 6)⟩] [0,3] []
def Jws:IC:=.reg [⟨some 7, none,.mv (.t 0)⟩,⟨some 8, none,.call Qey [(.val,(.t 7)),(.val,(.c (vi 2)))] false⟩,⟨some 9, none,.bin .eql (.t 8) (.c (vi 0))⟩] [0,3,9] []
def Jzv:IC:=.reg [⟨some 10, none,.mv (.t 0)⟩,⟨some 11, none,.mv (.t 3)⟩,⟨some 12, none,.call Qpq [(.val,(.t 10)),(.tk,(.t 11))] false⟩,⟨some 2, none,.asg (.t 12)⟩] [2,3] []
def Jq6:IC:=.reg [⟨some 13, none,.mv (.t 3)⟩,⟨some 2, none,.asgm (.t 13)⟩] [2,3] []
def Qye:Qa1:=⟨[.t 2],[],(.seq Jtk (.seq Jpj (.seq (.seq Jws (.cond (.t 9) (.seq Jzv .ret) .skip)) (.seq Jq6 .ret))))⟩
def Jo3:IC:=.reg [⟨some 2, none,.alloc [(vi 0),(.slice none 0 0)]⟩] [0,2] []
def Ju5:IC:=.reg [⟨some 3, none,.mv (.t 0)⟩,⟨some 4, none,.mv (.t 0)⟩,⟨some 5, none,.bsl 1 [(vi 0)] 9 [(0,(.c (vi 5))),(1,(.c (vi 4))),(2,(.c (vi 6))),(3,(.c (vi 3))),(4,(.c (vi 5))),(5,(.c (vi 2))),(6,(.c (vi 7))),(7,(.c (vi 1))),(8,(.c (vi 0)))]⟩,⟨some 6, none,.call Qi5 [(.val,(.t 4)),(.rd,(.t 5))] false⟩,⟨some 7, none,.call Qq6 [(.val,(.t 3)),(.val,(.t 6))] false⟩,⟨none,none,.store 2 (.t 2) (.t 7)⟩] [2] []
def Jez:Qa1:=⟨[.c 2 2 true],[],(.seq Jo3 (.seq Ju5 .ret))⟩
def z130r0:IC:=.reg [⟨some 3, none,.box (.t 0)⟩,⟨some 6, none,.asg (.c (.bool false))⟩] [1,2,3] []
def z130r1:IC:=.reg [⟨some 7, none,.asg (.c (vi 0))⟩] [1,2,3,7] []
def Jn8:IC:=.reg [⟨some 9, none,.mv (.t 7)⟩,⟨some 10, none,.fadr 1 (.t 3)⟩,⟨some 11, none,.load false 1 (.t 10)⟩,⟨some 12, none,.len (.t 11)⟩,⟨some 13, none,.bin .lss (.t 9) (.t 12)⟩] [1,2,3,7,13] []
def Jqc:IC:=.reg [⟨some 16, none,.fadr 1 (.t 3)⟩,⟨some 17, none,.load false 1 (.t 16)⟩,⟨some 18, none,.mv (.t 7)⟩,⟨some 19, none,.iadr 2 (.t 17) (.t 18)⟩,⟨some 20, none,.load true 2 (.t 19)⟩,⟨some 8, none,.alloc [(vi 0),(vi 0)]⟩,⟨none,none,.store 2 (.t 8) (.t 20)⟩] [1,2,3,7,8] []
def Qiw:IC:=.reg [⟨some 21, none,.fadr 0 (.t 8)⟩,⟨some 22, none,.load false 1 (.t 21)⟩,⟨some 23, none,.mv (.t 1)⟩,⟨some 24, none,.bin .eql (.t 22) (.t 23)⟩,⟨some 25, none,.asg (.t 24)⟩,⟨some 26, (some (25,true)),.fadr 1 (.t 8)⟩,⟨some 27, (some (25,true)),.load false 1 (.t 26)⟩,⟨some 28, (some (25,true)),.mv (.t 2)⟩,⟨some 29, (some (25,true)),.bin .eql (.t 27) (.t 28)⟩,⟨some 30, none,.pick (.t 25) (.t 29) (.c (.bool false))⟩,⟨some 31, none,.asg (.t 30)⟩,⟨some 32, (some (31,false)),.fadr 0 (.t 8)⟩,⟨some 33, (some (31,false)),.load false 1 (.t 32)⟩,⟨some 34, (some (31,false)),.mv (.t 2)⟩,⟨some 35, (some (31,false)),.bin .eql (.t 33) (.t 34)⟩,⟨some 36, (some (31,false)),.asg (.t 35)⟩,⟨some 37, (some (36,true)),.fadr 1 (.t 8)⟩,⟨some 38, (some (36,true)),.load false 1 (.t 37)⟩,⟨some 39, (some (36,true)),.mv (.t 1)⟩,⟨some 40, (some (36,true)),.bin .eql (.t 38) (.t 39)⟩,
    ⟨some 41, (some (31,false)),.pick (.t 36) (.t 40) (.c (.bool false))⟩,⟨some 42, none,.pick (.t 31) (.c (.bool true)) (.t 41)⟩] [1,2,3,7,42] []
def Jya:IC:=.reg [⟨some 6, none,.asg (.c (.bool true))⟩] [6] []
def Jqp:IC:=.reg [⟨some 14, none,.mv (.t 7)⟩,⟨some 15, none,.bin .add (.t 14) (.c (vi 1))⟩,⟨some 7, none,.asg (.t 15)⟩] [1,2,3,7] []
def Jf4:IC:=(.seq (.seq Jn8 (.cond (.t 13) .skip (.exit 0))) (.seq (.block 1 (.seq Jqc (.seq Qiw (.cond (.t 42) (.seq Jya .ret) .skip)))) Jqp))
def Jx0:IC:=.reg [⟨some 6, none,.asg (.c (.bool false))⟩] [6] []
def Jbf:Qa1:=⟨[.t 6],[],(.seq z130r0 (.seq (.seq z130r1 (.block 0 (.loop Jf4))) (.seq Jx0 .ret)))⟩
def z131r0:IC:=.reg [⟨some 4, none,.asg (.c (.bool false))⟩] [0,1] []
def Jry:IC:=.reg [⟨some 5, none,.asg (.c (vi 0))⟩] [0,1,5] []
def z131r2:IC:=.reg [⟨some 6, none,.mv (.t 5)⟩,⟨some 7, none,.mv (.t 0)⟩,⟨some 8, none,.len (.t 7)⟩,⟨some 9, none,.bin .lss (.t 6) (.t 8)⟩] [0,1,5,9] []
def z131r3:IC:=.reg [⟨some 12, none,.mv (.t 0)⟩,⟨some 13, none,.mv (.t 5)⟩,⟨some 14, none,.iadr 1 (.t 12) (.t 13)⟩,⟨some 15, none,.load false 1 (.t 14)⟩,⟨some 16, none,.mv (.t 1)⟩,⟨some 17, none,.bin .eql (.t 15) (.t 16)⟩] [0,1,5,17] []
def Jsi:IC:=.reg [⟨some 4, none,.asg (.c (.bool true))⟩] [4] []
def Js6:IC:=.reg [⟨some 10, none,.mv (.t 5)⟩,⟨some 11, none,.bin .add (.t 10) (.c (vi 1))⟩,⟨some 5, none,.asg (.t 11)⟩] [0,1,5] []
def Jgr:IC:=(.seq (.seq z131r2 (.cond (.t 9) .skip (.exit 0))) (.seq (.block 1 (.seq z131r3 (.cond (.t 17) (.seq Jsi .ret) .skip))) Js6))
def z131r7:IC:=.reg [⟨some 4, none,.asg (.c (.bool false))⟩] [4] []
def Qyj:Qa1:=⟨[.t 4],[],(.seq z131r0 (.seq (.seq Jry (.block 0 (.loop Jgr))) (.seq z131r7 .ret)))⟩
def Jv8:IC:=.reg [⟨some 6, none,.asg (.c (.bool false))⟩] [0,1,2] []
def Jxg:IC:=.reg [⟨some 7, none,.mv (.t 1)⟩,⟨some 8, none,.mv (.t 0)⟩,⟨some 9, none,.bin .leq (.t 7) (.t 8)⟩,⟨some 10, none,.asg (.t 9)⟩,⟨some 11, (some (10,true)),.mv (.t 0)⟩,⟨some 12, (some (10,true)),.mv (.t 2)⟩,⟨some 13, (some (10,true)),.bin .leq (.t 11) (.t 12)⟩,⟨some 14, none,.pick (.t 10) (.t 13) (.c (.bool false))⟩,⟨some 6, none,.asg (.t 14)⟩] [6] []
def Qxb:Qa1:=⟨[.t 6],[],(.seq Jv8 (.seq Jxg .ret))⟩
def Jxt:IC:=.reg [⟨some 2, none,.asg (.c (.bool false))⟩] [0] []
def z355r1:IC:=.reg [⟨some 3, none,.mv (.t 0)⟩,⟨some 4, none,.len (.t 3)⟩,⟨some 5, none,.bin .eql (.t 4) (.c (vi 1))⟩,⟨some 6, none,.asg (.t 5)⟩,⟨some 7, (some (6,false)),.mv (.t 0)⟩,⟨some 8, (some (6,false)),.len (.t 7)⟩,⟨some 9, (some (6,false)),.bin .gtr (.t 8) (.c (vi 1))⟩,⟨some 10, (some (6,false)),.asg (.t 9)⟩,⟨some 11, (some (10,true)),.mv (.t 0)⟩,⟨some 12, (some (10,true)),.call Qxj [(.rd,(.t 11))] true⟩,⟨some 13, (some (6,false)),.pick (.t 10) (.t 12) (.c (.bool false))⟩,⟨some 14, (some (6,false)),.asg (.t 13)⟩,⟨some 15, (some (14,true)),.mv (.t 0)⟩,⟨some 16, (some (14,true)),.call Qz3 [(.rd,(.t 15))] true⟩,⟨some 17, (some (14,true)),.bin .gtr (.t 16) (.c (vi 0))⟩,⟨some 18, (some (6,false)),.pick (.t 14) (.t 17) (.c (.bool false))⟩,⟨some 19, (some (6,false)),.asg (.t 18)⟩,⟨some 20, (some (19,true)),.mv (.t 0)⟩,
    ⟨some 21, (some (19,true)),.call Qvo [(.rd,(.t 20))] true⟩,⟨some 22, (some (19,true)),.mv (.t 0)⟩,⟨some 23, (some (19,true)),.len (.t 22)⟩,⟨some 24, (some (19,true)),.bin .sub (.t 23) (.c (vi 1))⟩,⟨some 25, (some (19,true)),.bin .mul (.c (vi 2)) (.t 24)⟩,⟨some 26, (some (19,true)),.bin .geq (.t 21) (.t 25)⟩,⟨some 27, (some (6,false)),.pick (.t 19) (.t 26) (.c (.bool false))⟩,⟨some 28, none,.pick (.t 6) (.c (.bool true)) (.t 27)⟩,⟨some 2, none,.asg (.t 28)⟩] [2] []
def Qmp:Qa1:=⟨[.t 2],[],(.seq Jxt (.seq z355r1 .ret))⟩
def z357r0:IC:=.reg [⟨some 2, none,.asg (.c (.bool false))⟩] [0] []
def Ju6:IC:=.reg [⟨some 3, none,.mv (.t 0)⟩,⟨some 4, none,.call Qvo [(.rd,(.t 3))] true⟩,⟨some 5, none,.bin .rem (.t 4) (.c (vi 2))⟩,⟨some 6, none,.bin .eql (.t 5) (.c (vi 0))⟩,⟨some 7, none,.asg (.t 6)⟩,⟨some 8, (some (7,true)),.mv (.t 0)⟩,⟨some 9, (some (7,true)),.call Jbu [(.rd,(.t 8))] true⟩,⟨some 10, (some (7,true)),.call Qwj [(.rd,(.t 9))] true⟩,⟨some 11, (some (7,true)),.bin .eql (.t 10) (.c (vi 0))⟩,⟨some 12, none,.pick (.t 7) (.t 11) (.c (.bool false))⟩,⟨some 2, none,.asg (.t 12)⟩] [2] []
def Qxc:Qa1:=⟨[.t 2],[],(.seq z357r0 (.seq Ju6 .ret))⟩
def Juk:IC:=.reg [⟨some 2, none,.asg (.c (vi 0))⟩] [0] []
def Jwv:IC:=.reg [⟨some 3, none,.asg (.c (vi 0))⟩] [0,3] []
def Jv6:IC:=.reg [⟨some 4, none,.asg (.c (vi 0))⟩] [0,3,4] []
def Jtf:IC:=.reg [⟨some 5, none,.mv (.t 4)⟩,⟨some 6, none,.mv (.t 0)⟩,⟨some 7, none,.len (.t 6)⟩,⟨some 8, none,.bin .lss (.t 5) (.t 7)⟩] [0,3,4,8] []
def Jre:IC:=.reg [⟨some 11, none,.mv (.t 3)⟩,⟨some 12, none,.mv (.t 0)⟩,⟨some 13, none,.mv (.t 4)⟩,⟨some 14, none,.iadr 1 (.t 12) (.t 13)⟩,⟨some 15, none,.load false 1 (.t 14)⟩,⟨some 16, none,.minmax true (.t 11) (.t 15)⟩,⟨some 3, none,.asg (.t 16)⟩] [0,3,4] []
def Jzg:IC:=.reg [⟨some 9, none,.mv (.t 4)⟩,⟨some 10, none,.bin .add (.t 9) (.c (vi 1))⟩,⟨some 4, none,.asg (.t 10)⟩] [0,3,4] []
def Jgq:IC:=(.seq (.seq Jtf (.cond (.t 8) .skip (.exit 0))) (.seq (.block 1 Jre) Jzg))
def z360r7:IC:=.reg [⟨some 17, none,.mv (.t 3)⟩,⟨some 2, none,.asgm (.t 17)⟩] [2] []
def Jd4:Qa1:=⟨[.t 2],[],(.seq Juk (.seq Jwv (.seq (.seq Jv6 (.block 0 (.loop Jgq))) (.seq z360r7 .ret))))⟩
def Jyr:IC:=.reg [⟨some 4, none,.asg (.c (.slice none 0 0))⟩] [0,1] []
def Jxx:IC:=.reg [⟨some 7, none,.mv (.t 1)⟩,⟨some 8, none,.len (.t 7)⟩,⟨some 9, none,.bin .lss (.t 8) (.c (vi 2))⟩] [0,1,9] []
def Jp0:IC:=.reg [⟨some 10, none,.mv (.t 1)⟩,⟨some 4, none,.asgm (.t 10)⟩] [1,4] []
def Jtn:IC:=.reg [⟨some 11, none,.mv (.t 0)⟩,⟨some 12, none,.bsl 1 [(vi 0)] 5 [(0,(.c (vi 0))),(1,(.c (vi 1))),(2,(.c (vi 2))),(3,(.c (vi 2))),(4,(.c (vi 3)))]⟩,⟨some 13, none,.call Qi5 [(.val,(.t 11)),(.rd,(.t 12))] false⟩,⟨some 5, none,.asg (.t 13)⟩] [0,1,5] []
def Jq1:IC:=.reg [⟨some 14, none,.mv (.t 5)⟩,⟨some 15, none,.bin .gtr (.t 14) (.c (vi 0))⟩] [0,1,5,15] []
def Jy8:IC:=.reg [⟨some 18, none,.mv (.t 0)⟩,⟨some 19, none,.mv (.t 1)⟩,⟨some 20, none,.len (.t 19)⟩,⟨some 21, none,.call Qey [(.val,(.t 18)),(.val,(.t 20))] false⟩,⟨some 6, none,.asg (.t 21)⟩] [0,1,5,6] []
def z135r6:IC:=.reg [⟨some 22, none,.mv (.t 1)⟩,⟨some 23, none,.mv (.t 6)⟩,⟨some 24, none,.mv (.t 1)⟩,⟨some 25, none,.mv (.t 6)⟩,⟨some 26, none,.iadr 1 (.t 24) (.t 25)⟩,⟨some 27, none,.load false 1 (.t 26)⟩,⟨some 28, none,.mv (.t 0)⟩,⟨some 29, none,.bsl 1 [(vi 0)] 4 [(0,(.c (vi 1))),(1,(.c (vi (-1)))),(2,(.c (vi 1))),(3,(.c (vi 2)))]⟩,⟨some 30, none,.call Qi5 [(.val,(.t 28)),(.rd,(.t 29))] false⟩,⟨some 31, none,.bin .add (.t 27) (.t 30)⟩,⟨some 32, none,.minmax false (.t 31) (.c (vi 0))⟩,⟨some 33, none,.mv (.t 1)⟩,⟨some 34, none,.len (.t 33)⟩,⟨some 35, none,.bin .sub (.t 34) (.c (vi 1))⟩,⟨some 36, none,.minmax true (.t 32) (.t 35)⟩,⟨some 37, none,.iadr 1 (.t 22) (.t 23)⟩,⟨none,none,.store 1 (.t 37) (.t 36)⟩] [0,1,5] [[0,1,2,3,4,6,7,5,8,9,10,11,12,13,14,15,16],[0,1,2,3,4,6,7,8,5,9,10,11,12,13,14,15,16]]
def Jpi:IC:=.reg [⟨some 16, none,.mv (.t 5)⟩,⟨some 17, none,.bin .sub (.t 16) (.c (vi 1))⟩,⟨some 5, none,.asg (.t 17)⟩] [0,1,5] []
def Jg5:IC:=(.seq (.seq Jq1 (.cond (.t 15) .skip (.exit 0))) (.seq (.block 1 (.seq Jy8 z135r6)) Jpi))
def z135r9:IC:=.reg [⟨some 38, none,.mv (.t 1)⟩,⟨some 4, none,.asgm (.t 38)⟩] [1,4] []
def Jbx:Qa1:=⟨[.t 4],[],(.seq Jyr (.seq (.seq Jxx (.cond (.t 9) (.seq Jp0 .ret) .skip)) (.seq (.seq Jtn (.block 0 (.loop Jg5))) (.seq z135r9 .ret))))⟩
def Jqk:IC:=.reg [⟨some 2, none,.asg (.c (.pointer none))⟩] [0] []
def Jpe:IC:=.reg [⟨some 3, none,.mv (.t 0)⟩,⟨some 4, none,.len (.t 3)⟩,⟨some 5, none,.bin .gtr (.t 4) (.c (vi 2000))⟩] [0,5] []
def z137r2:IC:=.reg [⟨some 6, none,.mv (.t 0)⟩,⟨some 7, none,.slc 1 (.t 6) none (some (.c (vi 2000))) none⟩,⟨some 0, none,.asgm (.t 7)⟩] [0] []
def Jro:IC:=.reg [⟨some 8, none,.mv (.t 0)⟩,⟨some 9, none,.build [(.slice none 0 0),(vi 0)] [(0,1,(.t 8))]⟩,⟨some 10, none,.box (.t 9)⟩,⟨some 2, none,.asg (.t 10)⟩] [2] []
def Qzt:Qa1:=⟨[.t 2],[],(.seq Jqk (.seq (.seq Jpe (.cond (.t 5) z137r2 .skip)) (.seq Jro .ret)))⟩
def z138r0:IC:=.reg [⟨some 2, none,.asg (.c (.slice none 0 0))⟩] [0] []
def z138r1:IC:=.reg [⟨some 6, none,.bsl 2 [(vi 0),(vi 0)] 0 []⟩,⟨some 3, none,.asg (.t 6)⟩] [0,3] []
def Js8:IC:=.reg [⟨some 4, none,.asg (.c (vi 0))⟩] [0,3,4] []
def z138r3:IC:=.reg [⟨some 7, none,.mv (.t 4)⟩,⟨some 8, none,.mv (.t 0)⟩,⟨some 9, none,.bin .lss (.t 7) (.t 8)⟩] [0,3,4,9] []
def Jp5:IC:=.reg [⟨some 12, none,.mv (.t 4)⟩,⟨some 13, none,.bin .add (.t 12) (.c (vi 1))⟩,⟨some 5, none,.asg (.t 13)⟩] [0,3,4,5] []
def Jsf:IC:=.reg [⟨some 14, none,.mv (.t 5)⟩,⟨some 15, none,.mv (.t 0)⟩,⟨some 16, none,.bin .lss (.t 14) (.t 15)⟩] [0,3,4,5,16] []
def Jwc:IC:=.reg [⟨some 19, none,.mv (.t 3)⟩,⟨some 20, none,.mv (.t 4)⟩,⟨some 21, none,.mv (.t 5)⟩,⟨some 22, none,.build [(vi 0),(vi 0)] [(0,1,(.t 20)),(1,1,(.t 21))]⟩,⟨some 23, none,.bsl 2 [(vi 0),(vi 0)] 1 [(0,(.t 22))]⟩,⟨some 24, none,.app 2 (.t 19) (.t 23)⟩,⟨some 3, none,.asg (.t 24)⟩] [0,3,4,5] []
def Jox:IC:=.reg [⟨some 17, none,.mv (.t 5)⟩,⟨some 18, none,.bin .add (.t 17) (.c (vi 1))⟩,⟨some 5, none,.asg (.t 18)⟩] [0,3,4,5] []
def Jgt:IC:=(.seq (.seq Jsf (.cond (.t 16) .skip (.exit 2))) (.seq (.block 3 Jwc) Jox))
def z138r9:IC:=.reg [⟨some 10, none,.mv (.t 4)⟩,⟨some 11, none,.bin .add (.t 10) (.c (vi 1))⟩,⟨some 4, none,.asg (.t 11)⟩] [0,3,4] []
def Qzq:IC:=(.seq (.seq z138r3 (.cond (.t 9) .skip (.exit 0))) (.seq (.block 1 (.seq Jp5 (.block 2 (.loop Jgt)))) z138r9))
def Jll:IC:=.reg [⟨some 25, none,.mv (.t 3)⟩,⟨some 2, none,.asgm (.t 25)⟩] [2,3] []
def Jdu:Qa1:=⟨[.t 2],[],(.seq z138r0 (.seq z138r1 (.seq (.seq Js8 (.block 0 (.loop Qzq))) (.seq Jll .ret))))⟩
def Jp6:IC:=.reg [⟨some 4, none,.asg (.c (vi 0))⟩] [0,1] []
def Jra:IC:=.reg [⟨some 5, none,.mv (.t 1)⟩,⟨some 6, none,.mv (.t 0)⟩,⟨some 7, none,.mv (.t 1)⟩,⟨some 8, none,.len (.t 7)⟩,⟨some 9, none,.call Qey [(.val,(.t 6)),(.val,(.t 8))] false⟩,⟨some 10, none,.iadr 1 (.t 5) (.t 9)⟩,⟨some 11, none,.load false 1 (.t 10)⟩,⟨some 4, none,.asg (.t 11)⟩] [4] []
def Jed:Qa1:=⟨[.t 4],[],(.seq Jp6 (.seq Jra .ret))⟩
def Jqo:IC:=.reg [⟨some 4, none,.asg (.c (vi 0))⟩] [0,1] []
def Jrr:IC:=.reg [⟨some 7, none,.mv (.t 0)⟩,⟨some 8, none,.mv (.t 0)⟩,⟨some 9, none,.nilck (.t 8)⟩,⟨some 10, none,.fadr 1 (.t 9)⟩,⟨some 11, none,.load false 1 (.t 10)⟩,⟨some 12, none,.bin .add (.t 11) (.c (vi 1))⟩,⟨some 13, none,.nilck (.t 7)⟩,⟨some 14, none,.fadr 1 (.t 13)⟩,⟨none,none,.store 1 (.t 14) (.t 12)⟩] [0,1] []
def Jxi:IC:=.reg [⟨some 15, none,.mv (.t 1)⟩,⟨some 16, none,.bin .lss (.t 15) (.c (vi 1))⟩,⟨some 17, none,.asg (.t 16)⟩,⟨some 18, (some (17,false)),.mv (.t 0)⟩,⟨some 19, (some (17,false)),.nilck (.t 18)⟩,⟨some 20, (some (17,false)),.fadr 0 (.t 19)⟩,⟨some 21, (some (17,false)),.load false 1 (.t 20)⟩,⟨some 22, (some (17,false)),.len (.t 21)⟩,⟨some 23, (some (17,false)),.bin .eql (.t 22) (.c (vi 0))⟩,⟨some 24, none,.pick (.t 17) (.c (.bool true)) (.t 23)⟩] [0,1,24] []
def Jtt:IC:=.reg [⟨some 4, none,.asg (.c (vi 0))⟩] [4] []
def Jwm:IC:=.reg [⟨some 25, none,.mv (.t 0)⟩,⟨some 26, none,.nilck (.t 25)⟩,⟨some 27, none,.fadr 1 (.t 26)⟩,⟨some 28, none,.load false 1 (.t 27)⟩,⟨some 29, none,.bin .sub (.t 28) (.c (vi 1))⟩,⟨some 5, none,.asg (.t 29)⟩] [0,1,5] []
def Jxp:IC:=.reg [⟨some 30, none,.mv (.t 5)⟩,⟨some 31, none,.mv (.t 0)⟩,⟨some 32, none,.nilck (.t 31)⟩,⟨some 33, none,.fadr 0 (.t 32)⟩,⟨some 34, none,.load false 1 (.t 33)⟩,⟨some 35, none,.len (.t 34)⟩,⟨some 36, none,.bin .lss (.t 30) (.t 35)⟩] [0,1,5,36] []
def Jv7:IC:=.reg [⟨some 37, none,.mv (.t 0)⟩,⟨some 38, none,.nilck (.t 37)⟩,⟨some 39, none,.fadr 0 (.t 38)⟩,⟨some 40, none,.load false 1 (.t 39)⟩,⟨some 41, none,.mv (.t 5)⟩,⟨some 42, none,.iadr 1 (.t 40) (.t 41)⟩,⟨some 43, none,.load false 1 (.t 42)⟩,⟨some 44, none,.conv .i64 (.t 43)⟩,⟨some 45, none,.mv (.t 1)⟩,⟨some 46, none,.bin .rem (.t 44) (.t 45)⟩,⟨some 4, none,.asg (.t 46)⟩] [4] []
def Jyk:IC:=.reg [⟨some 47, none,.mv (.t 0)⟩,⟨some 48, none,.nilck (.t 47)⟩,⟨some 49, none,.fadr 0 (.t 48)⟩,⟨some 50, none,.load false 1 (.t 49)⟩,⟨some 51, none,.mv (.t 5)⟩,⟨some 52, none,.mv (.t 0)⟩,⟨some 53, none,.nilck (.t 52)⟩,⟨some 54, none,.fadr 0 (.t 53)⟩,⟨some 55, none,.load false 1 (.t 54)⟩,⟨some 56, none,.len (.t 55)⟩,⟨some 57, none,.bin .rem (.t 51) (.t 56)⟩,⟨some 58, none,.iadr 1 (.t 50) (.t 57)⟩,⟨some 59, none,.load false 1 (.t 58)⟩,⟨some 60, none,.conv .i64 (.t 59)⟩,⟨some 61, none,.bin .mul (.t 60) (.c (vi 131))⟩,⟨some 62, none,.mv (.t 0)⟩,⟨some 63, none,.nilck (.t 62)⟩,⟨some 64, none,.fadr 0 (.t 63)⟩,⟨some 65, none,.load false 1 (.t 64)⟩,⟨some 66, none,.mv (.t 5)⟩,⟨some 67, none,.bin .mul (.t 66) (.c (vi 7))⟩,⟨some 68, none,.bin .add (.t 67) (.c (vi 3))⟩,⟨some 69, none,.mv (.t 0)⟩,⟨some 70, none,.nilck (.t 69)⟩,⟨some 71, none,.fadr 0 (.t 70)⟩,
    ⟨some 72, none,.load false 1 (.t 71)⟩,⟨some 73, none,.len (.t 72)⟩,⟨some 74, none,.bin .rem (.t 68) (.t 73)⟩,⟨some 75, none,.iadr 1 (.t 65) (.t 74)⟩,⟨some 76, none,.load false 1 (.t 75)⟩,⟨some 77, none,.conv .i64 (.t 76)⟩,⟨some 78, none,.bin .mul (.t 77) (.c (vi 1117))⟩,⟨some 79, none,.bin .add (.t 61) (.t 78)⟩,⟨some 80, none,.mv (.t 5)⟩,⟨some 81, none,.bin .mul (.t 80) (.c (vi 29))⟩,⟨some 82, none,.bin .add (.t 79) (.t 81)⟩,⟨some 83, none,.mv (.t 5)⟩,⟨some 84, none,.mv (.t 0)⟩,⟨some 85, none,.nilck (.t 84)⟩,⟨some 86, none,.fadr 0 (.t 85)⟩,⟨some 87, none,.load false 1 (.t 86)⟩,⟨some 88, none,.len (.t 87)⟩,⟨some 89, none,.bin .quo (.t 83) (.t 88)⟩,⟨some 90, none,.bin .mul (.t 89) (.c (vi 53))⟩,⟨some 91, none,.bin .add (.t 82) (.t 90)⟩,⟨some 6, none,.asg (.t 91)⟩] [1,6] []
def Jwr:IC:=.reg [⟨some 92, none,.mv (.t 6)⟩,⟨some 93, none,.mv (.t 6)⟩,⟨some 94, none,.bin .quo (.t 93) (.c (vi 64))⟩,⟨some 95, none,.bin .xor (.t 92) (.t 94)⟩,⟨some 6, none,.asg (.t 95)⟩] [1,6] []
def Jz4:IC:=.reg [⟨some 96, none,.mv (.t 6)⟩,⟨some 97, none,.mv (.t 1)⟩,⟨some 98, none,.bin .rem (.t 96) (.t 97)⟩,⟨some 4, none,.asg (.t 98)⟩] [4] []
def Qqq:Qa1:=⟨[.t 4],[],(.seq Jqo (.seq Jrr (.seq (.seq Jxi (.cond (.t 24) (.seq Jtt .ret) .skip)) (.seq Jwm (.seq (.seq Jxp (.cond (.t 36) (.seq Jv7 .ret) .skip)) (.seq Jyk (.seq Jwr (.seq Jz4 .ret))))))))⟩
def Jrl:IC:=.reg [⟨some 2, none,.asg (.c (.slice none 0 0))⟩] [0] []
def Jym:IC:=.reg [⟨some 8, none,.mv (.t 0)⟩,⟨some 9, none,.call Jbc [(.rd,(.t 8))] true⟩,⟨some 3, none,.asg (.t 9)⟩] [3] []
def Jof:IC:=.reg [⟨some 10, none,.bsl 1 [(vi 0)] 0 []⟩,⟨some 4, none,.asg (.t 10)⟩] [3,4] []
def z141r3:IC:=.reg [⟨some 5, none,.asg (.c (vi 1))⟩] [3,4,5] []
def Jop:IC:=.reg [⟨some 11, none,.mv (.t 5)⟩,⟨some 12, none,.mv (.t 3)⟩,⟨some 13, none,.len (.t 12)⟩,⟨some 14, none,.bin .leq (.t 11) (.t 13)⟩] [3,4,5,14] []
def Jut:IC:=.reg [⟨some 17, none,.mv (.t 5)⟩,⟨some 18, none,.mv (.t 5)⟩,⟨some 19, none,.bin .sub (.t 18) (.c (vi 1))⟩,⟨some 20, none,.bin .mul (.t 17) (.t 19)⟩,⟨some 6, none,.asg (.t 20)⟩] [3,4,5,6] []
def Jvg:IC:=.reg [⟨some 7, none,.asg (.c (vi 0))⟩] [3,4,5,6,7] []
def z141r7:IC:=.reg [⟨some 21, none,.mv (.t 7)⟩,⟨some 22, none,.mv (.t 3)⟩,⟨some 23, none,.len (.t 22)⟩,⟨some 24, none,.bin .lss (.t 21) (.t 23)⟩] [3,4,5,6,7,24] []
def z141r8:IC:=.reg [⟨some 27, none,.mv (.t 7)⟩,⟨some 28, none,.mv (.t 5)⟩,⟨some 29, none,.bin .lss (.t 27) (.t 28)⟩] [3,4,5,6,7,29] []
def z141r9:IC:=.reg [⟨some 30, none,.mv (.t 6)⟩,⟨some 31, none,.mv (.t 3)⟩,⟨some 32, none,.mv (.t 7)⟩,⟨some 33, none,.iadr 1 (.t 31) (.t 32)⟩,⟨some 34, none,.load false 1 (.t 33)⟩,⟨some 35, none,.bin .sub (.t 30) (.t 34)⟩,⟨some 6, none,.asg (.t 35)⟩] [3,4,5,6,7] []
def Jlk:IC:=.reg [⟨some 36, none,.mv (.t 6)⟩,⟨some 37, none,.mv (.t 3)⟩,⟨some 38, none,.mv (.t 7)⟩,⟨some 39, none,.iadr 1 (.t 37) (.t 38)⟩,⟨some 40, none,.load false 1 (.t 39)⟩,⟨some 41, none,.mv (.t 5)⟩,⟨some 42, none,.minmax true (.t 40) (.t 41)⟩,⟨some 43, none,.bin .add (.t 36) (.t 42)⟩,⟨some 6, none,.asg (.t 43)⟩] [3,4,5,6,7] []
def Jkj:IC:=.reg [⟨some 25, none,.mv (.t 7)⟩,⟨some 26, none,.bin .add (.t 25) (.c (vi 1))⟩,⟨some 7, none,.asg (.t 26)⟩] [3,4,5,6,7] []
def Jad:IC:=(.seq (.seq z141r7 (.cond (.t 24) .skip (.exit 2))) (.seq (.block 3 (.seq z141r8 (.cond (.t 29) z141r9 Jlk))) Jkj))
def Jjd:IC:=.reg [⟨some 44, none,.mv (.t 4)⟩,⟨some 45, none,.mv (.t 6)⟩,⟨some 46, none,.bsl 1 [(vi 0)] 1 [(0,(.t 45))]⟩,⟨some 47, none,.app 1 (.t 44) (.t 46)⟩,⟨some 4, none,.asg (.t 47)⟩] [3,4,5] []
def Jku:IC:=.reg [⟨some 15, none,.mv (.t 5)⟩,⟨some 16, none,.bin .add (.t 15) (.c (vi 1))⟩,⟨some 5, none,.asg (.t 16)⟩] [3,4,5] []
def Qxu:IC:=(.seq (.seq Jop (.cond (.t 14) .skip (.exit 0))) (.seq (.block 1 (.seq Jut (.seq (.seq Jvg (.block 2 (.loop Jad))) Jjd))) Jku))
def Jhk:IC:=.reg [⟨some 48, none,.mv (.t 4)⟩,⟨some 2, none,.asgm (.t 48)⟩] [2,4] []
def Jfn:Qa1:=⟨[.t 2],[],(.seq Jrl (.seq Jym (.seq Jof (.seq (.seq z141r3 (.block 0 (.loop Qxu))) (.seq Jhk .ret)))))⟩
def z374r0:IC:=.reg [⟨some 2, none,.asg (.c (.slice none 0 0))⟩] [0] []
def z374r1:IC:=.reg [⟨some 4, none,.mv (.t 0)⟩,⟨some 5, none,.call Qwf [(.val,(.t 4))] false⟩,⟨some 6, none,.call Qq9 [(.rd,(.t 5))] true⟩,⟨some 3, none,.asg (.t 6)⟩] [0,3] []
def z374r2:IC:=.reg [⟨some 7, none,.mv (.t 0)⟩,⟨some 8, none,.call Qey [(.val,(.t 7)),(.val,(.c (vi 3)))] false⟩,⟨some 9, none,.bin .eql (.t 8) (.c (vi 0))⟩] [0,3,9] []
def Jyx:IC:=.reg [⟨some 10, none,.mv (.t 0)⟩,⟨some 11, none,.mv (.t 3)⟩,⟨some 12, none,.call Qpq [(.val,(.t 10)),(.tk,(.t 11))] false⟩,⟨some 2, none,.asg (.t 12)⟩] [2,3] []
def Jwg:IC:=.reg [⟨some 13, none,.mv (.t 3)⟩,⟨some 2, none,.asgm (.t 13)⟩] [2,3] []
def Qwm:Qa1:=⟨[.t 2],[],(.seq z374r0 (.seq z374r1 (.seq (.seq z374r2 (.cond (.t 9) (.seq Jyx .ret) .skip)) (.seq Jwg .ret))))⟩
def Jvo:IC:=.reg [⟨some 2, none,.alloc [(vi 0),(.slice none 0 0)]⟩] [0,2] []
def Jpl:IC:=.reg [⟨some 3, none,.mv (.t 0)⟩,⟨some 4, none,.mv (.t 0)⟩,⟨some 5, none,.bsl 1 [(vi 0)] 6 [(0,(.c (vi 5))),(1,(.c (vi 4))),(2,(.c (vi 5))),(3,(.c (vi 3))),(4,(.c (vi 2))),(5,(.c (vi 1)))]⟩,⟨some 6, none,.call Qi5 [(.val,(.t 4)),(.rd,(.t 5))] false⟩,⟨some 7, none,.call Qq6 [(.val,(.t 3)),(.val,(.t 6))] false⟩,⟨none,none,.store 2 (.t 2) (.t 7)⟩] [2] []
def Jfk:Qa1:=⟨[.c 2 2 true],[],(.seq Jvo (.seq Jpl .ret))⟩
def Juf:IC:=.reg [⟨some 2, none,.asg (.c (vi 0))⟩] [0] []
def Jyj:IC:=.reg [⟨some 5, none,.mv (.t 0)⟩,⟨some 6, none,.iadr 1 (.t 5) (.c (vi 0))⟩,⟨some 7, none,.load false 1 (.t 6)⟩,⟨some 3, none,.asg (.t 7)⟩] [0,3] []
def Jrk:IC:=.reg [⟨some 4, none,.asg (.c (vi 0))⟩] [0,3,4] []
def Jyg:IC:=.reg [⟨some 8, none,.mv (.t 4)⟩,⟨some 9, none,.mv (.t 0)⟩,⟨some 10, none,.len (.t 9)⟩,⟨some 11, none,.bin .lss (.t 8) (.t 10)⟩] [0,3,4,11] []
def Jp2:IC:=.reg [⟨some 14, none,.mv (.t 3)⟩,⟨some 15, none,.mv (.t 0)⟩,⟨some 16, none,.mv (.t 4)⟩,⟨some 17, none,.iadr 1 (.t 15) (.t 16)⟩,⟨some 18, none,.load false 1 (.t 17)⟩,⟨some 19, none,.minmax true (.t 14) (.t 18)⟩,⟨some 3, none,.asg (.t 19)⟩] [0,3,4] []
def Jqj:IC:=.reg [⟨some 12, none,.mv (.t 4)⟩,⟨some 13, none,.bin .add (.t 12) (.c (vi 1))⟩,⟨some 4, none,.asg (.t 13)⟩] [0,3,4] []
def Jg7:IC:=(.seq (.seq Jyg (.cond (.t 11) .skip (.exit 0))) (.seq (.block 1 Jp2) Jqj))
def Jqv:IC:=.reg [⟨some 20, none,.mv (.t 3)⟩,⟨some 2, none,.asgm (.t 20)⟩] [2] []
def Jd2:Qa1:=⟨[.t 2],[],(.seq Juf (.seq Jyj (.seq (.seq Jrk (.block 0 (.loop Jg7))) (.seq Jqv .ret))))⟩
def Jun:IC:=.reg [⟨some 2, none,.asg (.c (.slice none 0 0))⟩] [0] []
def Jov:IC:=.reg [⟨some 3, none,.mv (.t 0)⟩,⟨some 4, none,.mv (.t 0)⟩,⟨some 5, none,.call Qza [(.val,(.t 4))] false⟩,⟨some 6, none,.call Qua [(.val,(.t 3)),(.tk,(.t 5))] false⟩,⟨some 2, none,.asg (.t 6)⟩] [2] []
def Jd1:Qa1:=⟨[.t 2],[],(.seq Jun (.seq Jov .ret))⟩
def Jxk:IC:=.reg [⟨some 2, none,.asg (.c (vi 0))⟩] [0] []
def Jse:IC:=.reg [⟨some 3, none,.asg (.c (vi 0))⟩] [0,3] []
def Jt9:IC:=.reg [⟨some 4, none,.asg (.c (vi 0))⟩] [0,3,4] []
def Jtd:IC:=.reg [⟨some 5, none,.mv (.t 4)⟩,⟨some 6, none,.mv (.t 0)⟩,⟨some 7, none,.len (.t 6)⟩,⟨some 8, none,.bin .lss (.t 5) (.t 7)⟩] [0,3,4,8] []
def Jyl:IC:=.reg [⟨some 11, none,.mv (.t 3)⟩,⟨some 12, none,.mv (.t 0)⟩,⟨some 13, none,.mv (.t 4)⟩,⟨some 14, none,.iadr 1 (.t 12) (.t 13)⟩,⟨some 15, none,.load false 1 (.t 14)⟩,⟨some 16, none,.bin .add (.t 11) (.t 15)⟩,⟨some 3, none,.asg (.t 16)⟩] [0,3,4] []
def Jye:IC:=.reg [⟨some 9, none,.mv (.t 4)⟩,⟨some 10, none,.bin .add (.t 9) (.c (vi 1))⟩,⟨some 4, none,.asg (.t 10)⟩] [0,3,4] []
def Jfu:IC:=(.seq (.seq Jtd (.cond (.t 8) .skip (.exit 0))) (.seq (.block 1 Jyl) Jye))
def z382r7:IC:=.reg [⟨some 17, none,.mv (.t 3)⟩,⟨some 2, none,.asgm (.t 17)⟩] [2] []
def Je7:Qa1:=⟨[.t 2],[],(.seq Jxk (.seq Jse (.seq (.seq Jt9 (.block 0 (.loop Jfu))) (.seq z382r7 .ret))))⟩
def Jt3:IC:=.reg [⟨some 2, none,.asg (.c (.bool false))⟩] [0] []
def Ju0:IC:=.reg [⟨some 3, none,.asg (.c (vi 0))⟩] [0,3] []
def Joq:IC:=.reg [⟨some 4, none,.mv (.t 3)⟩,⟨some 5, none,.mv (.t 0)⟩,⟨some 6, none,.len (.t 5)⟩,⟨some 7, none,.bin .lss (.t 4) (.t 6)⟩] [0,3,7] []
def z144r3:IC:=.reg [⟨some 10, none,.mv (.t 0)⟩,⟨some 11, none,.mv (.t 3)⟩,⟨some 12, none,.iadr 1 (.t 10) (.t 11)⟩,⟨some 13, none,.load false 1 (.t 12)⟩,⟨some 14, none,.mv (.t 0)⟩,⟨some 15, none,.len (.t 14)⟩,⟨some 16, none,.bin .sub (.t 15) (.c (vi 1))⟩,⟨some 17, none,.call Qzd [(.val,(.t 13)),(.val,(.c (vi 0))),(.val,(.t 16))] true⟩,⟨some 18, none,.unop .not (.t 17)⟩] [0,3,18] []
def Jpu:IC:=.reg [⟨some 2, none,.asg (.c (.bool false))⟩] [2] []
def z144r5:IC:=.reg [⟨some 8, none,.mv (.t 3)⟩,⟨some 9, none,.bin .add (.t 8) (.c (vi 1))⟩,⟨some 3, none,.asg (.t 9)⟩] [0,3] []
def Jgb:IC:=(.seq (.seq Joq (.cond (.t 7) .skip (.exit 0))) (.seq (.block 1 (.seq z144r3 (.cond (.t 18) (.seq Jpu .ret) .skip))) z144r5))
def Jxu:IC:=.reg [⟨some 19, none,.mv (.t 0)⟩,⟨some 20, none,.len (.t 19)⟩,⟨some 21, none,.bin .leq (.t 20) (.c (vi 7))⟩,⟨some 2, none,.asg (.t 21)⟩] [2] []
def Qx1:Qa1:=⟨[.t 2],[],(.seq Jt3 (.seq (.seq Ju0 (.block 0 (.loop Jgb))) (.seq Jxu .ret)))⟩
def tbl:List (Nat×Qa1):=[(zl2,zi2),(zl4,zi4),(Qrv,Qu2),(Qrz,Qz2),(Qtr,Qw7),(Qy1,Jdb),(zl7,zi7),(zl8,zi8),(Qzf,Qna),(Qtp,Qln),(Qrt,Qup),(zl9,zi9),(Qo1,Jel),(Qms,Quy),(Jby,Jc4),(Qtv,Qt3),(Qzb,Qpe),(Qx5,Qvg),(Jsa,Jnw),(Qva,Qro),(Qu9,Jcs),(Ju7,zi18),(Jn6,zi19),(Jbn,Qk8),(Jf7,Joj),(Qzx,Jn2),(zl29,zi29),(Jn3,zi30),(Qtx,Jdl),(Jda,Jqy),(Jb2,Js2),(Jpr,zi35),(Jb1,zi36),(zl37,zi37),(Qvy,Qx7),(Qri,Jfo),(Jnv,Jy5),(Qp2,Ja7),(Qp0,Je5),(Jkg,zi40),(Jdd,Qnt),(Jxy,Jns),(Jgi,zi66),(Jnr,Jtc),(Qxm,Jbk),(Qz4,Jcz),(Jnz,zi70),(Qqu,Qys),(Jny,zi71),(Jzj,zi72),(Jaq,Jd3),(Qvm,Qzn),(Qwu,Qwk),(Qt4,Qy5),(Qxh,Jaa),(Jnt,Jso),(Jay,Qyv),(Qxs,Qwt),(Jpb,zi75),(Jow,zi76),(Qub,Jds),(Qwd,Jea),(Jwy,zi78),(Qtq,Je1),(Qwq,Jau),(Qtw,Qv7),(Qu4,Qv6),(Jx6,zi86),(Jaf,Jcr),(Juo,Jom),(Qp7,Jbw),(Qt9,Qz8),(Quw,Jaz),(Qn8,Qoq),(Qrs,Jc2),(Qw5,Jb6),(Qwv,Jcu),(Qwi,Jaw),(Qt5,Qws),(Qq6,Qz6),(Qu7,Jfj),(Qun,Jdv),(Qua,Qq8),(Qwl,Jce),(Qya,Jev),(Qvz,Jdq),(Qq9,Jfi),(Qyn,Qt2),(Jbc,Jeg),(Qz7,Ja8),(Qza,Qye),(Qz5,Jez),(Qw2,Jbf),(Quq,Qyj),(Qzd,Qxb),(Qww,Qmp),(Qxj,Qxc),(Qwj,Jd4),(Qpq,Jbx),(Qxl,Qzt),(Qvi,Jdu),(Qi5,Jed),(Qey,Qqq),(Jbu,Jfn),(Qzr,Qwm),(Qwf,Jfk),(Qz3,Jd2),(Qw6,Jd1),(Qvo,Je7),(Qx2,Qx1)]
def tb:Tbl:=tbOf tbl
theorem zt2:tb zl2=some zi2:=by kernel_rfl
theorem zt4:tb zl4=some zi4:=by kernel_rfl
theorem Jr3:tb Qrv=some Qu2:=by kernel_rfl
theorem Jzf:tb Qrz=some Qz2:=by kernel_rfl
theorem Joo:tb Qtr=some Qw7:=by kernel_rfl
theorem zt161:tb Qy1=some Jdb:=by kernel_rfl
theorem zt7:tb zl7=some zi7:=by kernel_rfl
theorem zt8:tb zl8=some zi8:=by kernel_rfl
theorem Qvp:tb Qzf=some Qna:=by kernel_rfl
theorem Qry:tb Qtp=some Qln:=by kernel_rfl
theorem Jz7:tb Qrt=some Qup:=by kernel_rfl
theorem zt9:tb zl9=some zi9:=by kernel_rfl
theorem zt171:tb Qo1=some Jel:=by kernel_rfl
theorem Jh1:tb Qms=some Quy:=by kernel_rfl
theorem zt174:tb Jby=some Jc4:=by kernel_rfl
theorem Jh8:tb Qtv=some Qt3:=by kernel_rfl
theorem Qyh:tb Qzb=some Qpe:=by kernel_rfl
theorem Jkx:tb Qx5=some Qvg:=by kernel_rfl
theorem zt10:tb Jsa=some Jnw:=by kernel_rfl
theorem Jcf:tb Qva=some Qro:=by kernel_rfl
theorem zt194:tb Qu9=some Jcs:=by kernel_rfl
theorem zt18:tb Ju7=some zi18:=by kernel_rfl
theorem zt19:tb Jn6=some zi19:=by kernel_rfl
theorem Qqy:tb Jbn=some Qk8:=by kernel_rfl
theorem zt25:tb Jf7=some Joj:=by kernel_rfl
theorem zt26:tb Qzx=some Jn2:=by kernel_rfl
theorem zt29:tb zl29=some zi29:=by kernel_rfl
theorem zt30:tb Jn3=some zi30:=by kernel_rfl
theorem zt204:tb Qtx=some Jdl:=by kernel_rfl
theorem zt31:tb Jda=some Jqy:=by kernel_rfl
theorem zt32:tb Jb2=some Js2:=by kernel_rfl
theorem zt35:tb Jpr=some zi35:=by kernel_rfl
theorem zt36:tb Jb1=some zi36:=by kernel_rfl
theorem zt37:tb zl37=some zi37:=by kernel_rfl
theorem zt210:tb Qvy=some Qx7:=by kernel_rfl
theorem zt211:tb Qri=some Jfo:=by kernel_rfl
theorem zt38:tb Jnv=some Jy5:=by kernel_rfl
theorem zt212:tb Qp2=some Ja7:=by kernel_rfl
theorem zt214:tb Qp0=some Je5:=by kernel_rfl
theorem zt40:tb Jkg=some zi40:=by kernel_rfl
theorem Qus:tb Jdd=some Qnt:=by kernel_rfl
theorem zt53:tb Jxy=some Jns:=by kernel_rfl
theorem zt66:tb Jgi=some zi66:=by kernel_rfl
theorem zt68:tb Jnr=some Jtc:=by kernel_rfl
theorem Joe:tb Qxm=some Jbk:=by kernel_rfl
theorem zt258:tb Qz4=some Jcz:=by kernel_rfl
theorem zt70:tb Jnz=some zi70:=by kernel_rfl
theorem Jt8:tb Qqu=some Qys:=by kernel_rfl
theorem zt71:tb Jny=some zi71:=by kernel_rfl
theorem zt72:tb Jzj=some zi72:=by kernel_rfl
theorem zt263:tb Jaq=some Jd3:=by kernel_rfl
theorem Jz6:tb Qvm=some Qzn:=by kernel_rfl
theorem zt266:tb Qwu=some Qwk:=by kernel_rfl
theorem zt268:tb Qt4=some Qy5:=by kernel_rfl
theorem zt448:tb Qxh=some Jaa:=by kernel_rfl
theorem zt73:tb Jnt=some Jso:=by kernel_rfl
theorem zt449:tb Jay=some Qyv:=by kernel_rfl
theorem zt269:tb Qxs=some Qwt:=by kernel_rfl
theorem zt75:tb Jpb=some zi75:=by kernel_rfl
theorem zt76:tb Jow=some zi76:=by kernel_rfl
theorem zt272:tb Qub=some Jds:=by kernel_rfl
theorem zt273:tb Qwd=some Jea:=by kernel_rfl
theorem zt78:tb Jwy=some zi78:=by kernel_rfl
theorem zt274:tb Qtq=some Je1:=by kernel_rfl
theorem Jv4:tb Qwq=some Jau:=by kernel_rfl
theorem Jrh:tb Qtw=some Qv7:=by kernel_rfl
theorem Jpg:tb Qu4=some Qv6:=by kernel_rfl
theorem zt86:tb Jx6=some zi86:=by kernel_rfl
theorem zt454:tb Jaf=some Jcr:=by kernel_rfl
theorem zt91:tb Juo=some Jom:=by kernel_rfl
theorem Jtz:tb Qp7=some Jbw:=by kernel_rfl
theorem zt282:tb Qt9=some Qz8:=by kernel_rfl
theorem zt283:tb Quw=some Jaz:=by kernel_rfl
theorem zt285:tb Qn8=some Qoq:=by kernel_rfl
theorem zt101:tb Qrs=some Jc2:=by kernel_rfl
theorem zt289:tb Qw5=some Jb6:=by kernel_rfl
theorem zt106:tb Qwv=some Jcu:=by kernel_rfl
theorem Jzn:tb Qwi=some Jaw:=by kernel_rfl
theorem Jxq:tb Qt5=some Qws:=by kernel_rfl
theorem zt118:tb Qq6=some Qz6:=by kernel_rfl
theorem zt334:tb Qu7=some Jfj:=by kernel_rfl
theorem zt335:tb Qun=some Jdv:=by kernel_rfl
theorem Jep:tb Qua=some Qq8:=by kernel_rfl
theorem zt341:tb Qwl=some Jce:=by kernel_rfl
theorem zt122:tb Qya=some Jev:=by kernel_rfl
theorem zt123:tb Qvz=some Jdq:=by kernel_rfl
theorem zt125:tb Qq9=some Jfi:=by kernel_rfl
theorem Jk0:tb Qyn=some Qt2:=by kernel_rfl
theorem zt127:tb Jbc=some Jeg:=by kernel_rfl
theorem Jww:tb Qz7=some Ja8:=by kernel_rfl
theorem Jyz:tb Qza=some Qye:=by kernel_rfl
theorem zt129:tb Qz5=some Jez:=by kernel_rfl
theorem zt130:tb Qw2=some Jbf:=by kernel_rfl
theorem zt131:tb Quq=some Qyj:=by kernel_rfl
theorem zt132:tb Qzd=some Qxb:=by kernel_rfl
theorem Que:tb Qww=some Qmp:=by kernel_rfl
theorem Jt4:tb Qxj=some Qxc:=by kernel_rfl
theorem zt360:tb Qwj=some Jd4:=by kernel_rfl
theorem zt135:tb Qpq=some Jbx:=by kernel_rfl
theorem zt137:tb Qxl=some Qzt:=by kernel_rfl
theorem zt138:tb Qvi=some Jdu:=by kernel_rfl
theorem zt139:tb Qi5=some Jed:=by kernel_rfl
theorem Jeq:tb Qey=some Qqq:=by kernel_rfl
theorem zt141:tb Jbu=some Jfn:=by kernel_rfl
theorem zt374:tb Qzr=some Qwm:=by kernel_rfl
theorem zt375:tb Qwf=some Jfk:=by kernel_rfl
theorem zt376:tb Qz3=some Jd2:=by kernel_rfl
theorem zt142:tb Qw6=some Jd1:=by kernel_rfl
theorem zt382:tb Qvo=some Je7:=by kernel_rfl
theorem zt144:tb Qx2=some Qx1:=by kernel_rfl
end Go.Idl
