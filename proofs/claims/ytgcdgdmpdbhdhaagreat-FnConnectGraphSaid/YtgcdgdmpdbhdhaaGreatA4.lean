/- Part 4 of a proof by an ideal interpreter of the code: its definitions and lemmas. Conditions: none. -/
import Derived.KernelRfl
import Derived.Test.YtgcdgdmpdbhdhaaGreatA3
set_option linter.all false
set_option linter.unusedVariables false
set_option linter.unusedSimpArgs false
namespace Go.Idl
open Go
abbrev vi (n:Int):Value:=.int .i64 n
abbrev zl2:Lab:=2
abbrev zl4:Lab:=4
abbrev zl7:Lab:=7
abbrev zl8:Lab:=8
abbrev zl9:Lab:=9
abbrev Joi:Lab:=10
abbrev Jvt:Lab:=18
abbrev Jjv:Lab:=19
abbrev Jjk:Lab:=25
abbrev Qui:Lab:=26
abbrev Jnd:Lab:=29
abbrev Jjr:Lab:=30
abbrev Jkl:Lab:=31
abbrev Qzo:Lab:=32
abbrev Jqv:Lab:=35
abbrev Jaa:Lab:=36
abbrev Jsp:Lab:=37
abbrev Jjy:Lab:=38
abbrev Jg9:Lab:=40
abbrev Jsm:Lab:=53
abbrev Jd3:Lab:=66
abbrev zl67:Lab:=67
abbrev Jjn:Lab:=68
abbrev Jjw:Lab:=70
abbrev Jtp:Lab:=71
abbrev Js2:Lab:=72
abbrev Jjm:Lab:=73
abbrev Jnw:Lab:=75
abbrev Jpt:Lab:=76
abbrev Jqe:Lab:=78
abbrev zl80:Lab:=80
abbrev zl82:Lab:=82
abbrev zl84:Lab:=84
abbrev Jwe:Lab:=86
abbrev Jl1:Lab:=91
abbrev zl95:Lab:=95
abbrev zl98:Lab:=98
abbrev zl99:Lab:=99
abbrev Qpu:Lab:=101
abbrev Jk7:Lab:=103
abbrev Qu2:Lab:=106
abbrev Qs0:Lab:=118
abbrev Qxo:Lab:=122
abbrev Qsy:Lab:=126
abbrev Qya:Lab:=129
abbrev Qyh:Lab:=130
abbrev Qss:Lab:=131
abbrev Quy:Lab:=132
abbrev Qvd:Lab:=137
abbrev Qsz:Lab:=138
abbrev Qoj:Lab:=139
abbrev Qhx:Lab:=140
abbrev Qwn:Lab:=145
abbrev Qq0:Lab:=153
abbrev Qsx:Lab:=161
abbrev Qyt:Lab:=167
abbrev Qo0:Lab:=170
abbrev Qng:Lab:=171
abbrev Qkx:Lab:=172
abbrev Qyk:Lab:=174
abbrev Qtq:Lab:=175
abbrev Qxc:Lab:=177
abbrev Qqm:Lab:=178
abbrev Qtf:Lab:=204
abbrev Qo4:Lab:=212
abbrev Qx5:Lab:=214
abbrev Qt7:Lab:=237
abbrev Qp2:Lab:=238
abbrev Qva:Lab:=257
abbrev Qy1:Lab:=258
abbrev Qqs:Lab:=261
abbrev Qux:Lab:=263
abbrev Qtk:Lab:=265
abbrev Qua:Lab:=268
abbrev Qwu:Lab:=269
abbrev Qug:Lab:=272
abbrev Qs4:Lab:=274
abbrev Js4:Lab:=276
abbrev Qt9:Lab:=277
abbrev Qub:Lab:=282
abbrev Qs2:Lab:=283
abbrev Jvj:Lab:=284
abbrev Qmz:Lab:=285
abbrev Ju9:Lab:=286
abbrev Qqy:Lab:=293
abbrev Qqg:Lab:=335
abbrev Qqw:Lab:=342
abbrev Qst:Lab:=343
abbrev Qq5:Lab:=348
abbrev Qwo:Lab:=354
abbrev Qta:Lab:=378
abbrev Qxd:Lab:=383
abbrev Qqa:Lab:=408
abbrev Qsq:Lab:=409
abbrev Qtx:Lab:=410
abbrev Qyf:Lab:=411
abbrev Qyj:Lab:=445
abbrev Qvk:Lab:=448
abbrev Quw:Lab:=450
abbrev Ja9:Lab:=452
abbrev Qy8:Lab:=454
abbrev Qno:Lab:=456
abbrev Jcx:Lab:=599
abbrev Qs7:Lab:=602
def z2r0:IC:=.reg [⟨some 4, none,.asg (.c (.bool false))⟩] [0,1] []
def z2r1:IC:=.reg [⟨some 5, none,.mv (.t 0)⟩,⟨some 6, none,.call zl4 [(.val,(.t 5))] true⟩,⟨some 7, none,.asg (.t 6)⟩,⟨some 8, (some (7,true)),.mv (.t 1)⟩,⟨some 9, (some (7,true)),.call zl4 [(.val,(.t 8))] true⟩,⟨some 10, (some (7,true)),.unop .not (.t 9)⟩,⟨some 11, none,.pick (.t 7) (.t 10) (.c (.bool false))⟩,⟨some 12, none,.asg (.t 11)⟩,⟨some 13, (some (12,false)),.mv (.t 0)⟩,⟨some 14, (some (12,false)),.mv (.t 1)⟩,⟨some 15, (some (12,false)),.bin .lss (.t 13) (.t 14)⟩,⟨some 16, none,.pick (.t 12) (.c (.bool true)) (.t 15)⟩,⟨some 4, none,.asg (.t 16)⟩] [4] []
def zi2:Qa4:=⟨[.t 4],[],(.seq z2r0 (.seq z2r1 .ret))⟩
def z4r0:IC:=.reg [⟨some 2, none,.asg (.c (.bool false))⟩] [0] []
def z4r1:IC:=.reg [⟨some 3, none,.mv (.t 0)⟩,⟨some 4, none,.mv (.t 0)⟩,⟨some 5, none,.bin .neq (.t 3) (.t 4)⟩,⟨some 2, none,.asg (.t 5)⟩] [2] []
def zi4:Qa4:=⟨[.t 2],[],(.seq z4r0 (.seq z4r1 .ret))⟩
def Jsf:IC:=.reg [⟨some 1, none,.box (.t 0)⟩,⟨some 2, none,.alloc [(vi 0),(.slice none 0 0)]⟩,⟨some 3, none,.asg (.c (.bool false))⟩] [1,2] []
def Jqf:IC:=.reg [⟨some 10, none,.load true 2 (.t 1)⟩,⟨some 11, none,.call Qui [(.rd,(.t 10))] true⟩,⟨some 12, none,.unop .not (.t 11)⟩] [1,2,12] []
def Jlb:IC:=.reg [⟨some 13, none,.build [(vi 0),(.slice none 0 0)] []⟩,⟨none,none,.storef 2 (.t 2) (.t 13)⟩,⟨some 3, none,.asg (.c (.bool false))⟩] [2,3] []
def Jtv:IC:=.regd [⟨some 14, none,.fadr 0 (.t 1)⟩,⟨some 15, none,.load false 1 (.t 14)⟩,⟨some 16, none,.fadr 1 (.t 1)⟩,⟨some 17, none,.load false 1 (.t 16)⟩,⟨some 18, none,.callq Qtf [(.rv,(.t 17))]⟩,⟨some 19, none,.build [(vi 0),(.slice none 0 0)] [(0,1,(.t 15)),(1,1,(.t 18))]⟩,⟨some 4, none,.alloc [(vi 0),(.slice none 0 0)]⟩,⟨none,none,.storef 2 (.t 4) (.t 19)⟩] [0,1,2,3,4,5,6,7] [2,4] []
def Juz:IC:=.reg [⟨some 20, none,.load true 2 (.t 4)⟩,⟨some 21, none,.call Qo0 [(.rd,(.t 20))] true⟩,⟨some 22, none,.len (.t 21)⟩,⟨some 23, none,.bin .neq (.t 22) (.c (vi 1))⟩] [2,4,23] []
def Jvg:IC:=.reg [⟨some 24, none,.load true 2 (.t 4)⟩,⟨some 25, none,.call Qkx [(.rd,(.t 24))] true⟩,⟨some 5, none,.alloc [(.slice none 0 0)]⟩,⟨none,none,.storef 1 (.t 5) (.t 25)⟩] [2,4,5] []
def Jnk:IC:=.reg [⟨some 26, none,.fadr 1 (.t 4)⟩,⟨some 27, none,.load false 1 (.t 26)⟩,⟨some 28, none,.mkfn Qqa [(.t 4)]⟩,⟨some 29, none,.call Qua [(.rd,(.t 27)),(.val,(.t 28))] false⟩,⟨some 6, none,.asg (.t 29)⟩] [2,4,5,6] []
def Jqb:IC:=.reg [⟨some 30, none,.mv (.t 6)⟩,⟨some 31, none,.bin .lss (.t 30) (.c (vi 0))⟩] [2,4,5,6,31] []
def Jkc:IC:=.reg [⟨some 32, none,.build [(vi 0),(.slice none 0 0)] []⟩,⟨none,none,.storef 2 (.t 2) (.t 32)⟩,⟨some 3, none,.asg (.c (.bool false))⟩] [2,3] []
def Jvi:IC:=.reg [⟨some 33, none,.fadr 1 (.t 4)⟩,⟨some 34, none,.load false 1 (.t 33)⟩,⟨some 35, none,.mv (.t 6)⟩,⟨some 36, none,.iadr 2 (.t 34) (.t 35)⟩,⟨some 37, none,.load true 2 (.t 36)⟩,⟨some 7, none,.alloc [(vi 0),(vi 0)]⟩,⟨none,none,.store 2 (.t 7) (.t 37)⟩] [2,4,5,7] []
def Jhq:IC:=.reg [⟨some 38, none,.fadr 1 (.t 4)⟩,⟨some 39, none,.load false 1 (.t 38)⟩,⟨some 40, none,.mkfn Qsq [(.t 5),(.t 7)]⟩,⟨some 41, none,.call Qua [(.rd,(.t 39)),(.val,(.t 40))] false⟩,⟨some 8, none,.asg (.t 41)⟩] [2,4,7,8] []
def Jf4:IC:=.reg [⟨some 42, none,.mv (.t 8)⟩,⟨some 43, none,.bin .lss (.t 42) (.c (vi 0))⟩] [2,4,7,8,43] []
def Jgv:IC:=.reg [⟨some 44, none,.build [(vi 0),(.slice none 0 0)] []⟩,⟨none,none,.storef 2 (.t 2) (.t 44)⟩,⟨some 3, none,.asg (.c (.bool false))⟩] [2,3] []
def Jez:IC:=.reg [⟨some 45, none,.fadr 1 (.t 4)⟩,⟨some 46, none,.load false 1 (.t 45)⟩,⟨some 47, none,.mv (.t 8)⟩,⟨some 48, none,.iadr 2 (.t 46) (.t 47)⟩,⟨some 49, none,.load true 2 (.t 48)⟩,⟨some 9, none,.alloc [(vi 0),(vi 0)]⟩,⟨none,none,.store 2 (.t 9) (.t 49)⟩] [2,4,7,9] []
def Jh8:IC:=.reg [⟨some 51, none,.load true 2 (.t 4)⟩,⟨some 52, none,.fadr 0 (.t 7)⟩,⟨some 53, none,.load false 1 (.t 52)⟩,⟨some 54, none,.fadr 1 (.t 7)⟩,⟨some 55, none,.load false 1 (.t 54)⟩,⟨some 56, none,.fadr 0 (.t 9)⟩,⟨some 57, none,.load false 1 (.t 56)⟩,⟨some 58, none,.fadr 1 (.t 9)⟩,⟨some 59, none,.load false 1 (.t 58)⟩,⟨some 60, none,.build [(vi 0),(vi 0),(vi 0),(vi 0)] [(0,1,(.t 53)),(1,1,(.t 55)),(2,1,(.t 57)),(3,1,(.t 59))]⟩,⟨some 61, none,.call Qyt [(.rd,(.t 51)),(.val,(.t 60))] true⟩,⟨some 50, none,.asg (.t 61)⟩,⟨some 62, none,.extr (.t 50) 0⟩,⟨some 63, none,.extr (.t 50) 1⟩,⟨none,none,.storef 2 (.t 4) (.t 62)⟩] [2,4] []
def Qys:IC:=(.seq (.seq Juz (.cond (.t 23) .skip (.exit 0))) (.block 1 (.seq Jvg (.seq Jnk (.seq (.seq Jqb (.cond (.t 31) (.seq Jkc .ret) .skip)) (.seq Jvi (.seq Jhq (.seq (.seq Jf4 (.cond (.t 43) (.seq Jgv .ret) .skip)) (.seq Jez Jh8)))))))))
def Jf6:IC:=.reg [⟨some 64, none,.load true 2 (.t 4)⟩,⟨none,none,.storef 2 (.t 2) (.t 64)⟩,⟨some 3, none,.asg (.c (.bool true))⟩] [2,3] []
def Qqu:Qa4:=⟨[.c 2 2 true,.t 3],[],(.seq Jsf (.seq (.seq Jqf (.cond (.t 12) (.seq Jlb .ret) .skip)) (.seq Jtv (.seq (.block 0 (.loop Qys)) (.seq Jf6 .ret)))))⟩
def Jo6:IC:=.reg [⟨some 2, none,.box (.t 0)⟩,⟨some 3, none,.asg (.c (.bool false))⟩] [1,2] []
def Jqn:IC:=.reg [⟨some 5, none,.load true 2 (.t 1)⟩,⟨some 6, none,.load true 2 (.t 2)⟩,⟨some 7, none,.call Qyk [(.rd,(.t 5)),(.val,(.t 6))] true⟩,⟨some 8, none,.call Qkx [(.rd,(.t 7))] true⟩,⟨some 4, none,.asg (.t 8)⟩] [2,4] []
def Jof:IC:=.reg [⟨some 9, none,.mv (.t 4)⟩,⟨some 10, none,.fadr 0 (.t 2)⟩,⟨some 11, none,.load false 1 (.t 10)⟩,⟨some 12, none,.iadr 1 (.t 9) (.t 11)⟩,⟨some 13, none,.load false 1 (.t 12)⟩,⟨some 14, none,.mv (.t 4)⟩,⟨some 15, none,.fadr 1 (.t 2)⟩,⟨some 16, none,.load false 1 (.t 15)⟩,⟨some 17, none,.iadr 1 (.t 14) (.t 16)⟩,⟨some 18, none,.load false 1 (.t 17)⟩,⟨some 19, none,.bin .eql (.t 13) (.t 18)⟩,⟨some 3, none,.asg (.t 19)⟩] [3] []
def Qyu:Qa4:=⟨[.t 3],[],(.seq Jo6 (.seq Jqn (.seq Jof .ret)))⟩
def Jlf:IC:=.reg [⟨some 3, none,.box (.t 0)⟩,⟨some 4, none,.asg (.c (.bool false))⟩] [1,2,3] []
def Ju5:IC:=.reg [⟨some 5, none,.load false 1 (.t 1)⟩,⟨some 6, none,.fadr 0 (.t 3)⟩,⟨some 7, none,.load false 1 (.t 6)⟩,⟨some 8, none,.iadr 1 (.t 5) (.t 7)⟩,⟨some 9, none,.load false 1 (.t 8)⟩,⟨some 10, none,.load false 1 (.t 1)⟩,⟨some 11, none,.fadr 0 (.t 2)⟩,⟨some 12, none,.load false 1 (.t 11)⟩,⟨some 13, none,.iadr 1 (.t 10) (.t 12)⟩,⟨some 14, none,.load false 1 (.t 13)⟩,⟨some 15, none,.bin .neq (.t 9) (.t 14)⟩,⟨some 4, none,.asg (.t 15)⟩] [4] []
def Qwz:Qa4:=⟨[.t 4],[],(.seq Jlf (.seq Ju5 .ret))⟩
def Jr4:IC:=.reg [⟨some 1, none,.box (.t 0)⟩,⟨some 2, none,.asg (.c (.slice none 0 0))⟩] [1] []
def Jn1:IC:=.reg [⟨some 3, none,.load true 2 (.t 1)⟩,⟨some 4, none,.call Qui [(.rd,(.t 3))] true⟩,⟨some 5, none,.unop .not (.t 4)⟩] [1,5] []
def Jmu:IC:=.reg [⟨some 2, none,.asg (.c (.slice none 0 0))⟩] [2] []
def Jv4:IC:=.reg [⟨some 6, none,.load true 2 (.t 1)⟩,⟨some 7, none,.call zl9 [(.rd,(.t 6))] true⟩,⟨some 2, none,.asg (.t 7)⟩] [2] []
def Jct:Qa4:=⟨[.t 2],[],(.seq Jr4 (.seq (.seq Jn1 (.cond (.t 5) (.seq Jmu .ret) .skip)) (.seq Jv4 .ret)))⟩
def z7r0:IC:=.reg [⟨some 2, none,.asg (.c (vi 0))⟩] [0] []
def z7r1:IC:=.reg [⟨some 3, none,.mv (.t 0)⟩,⟨some 4, none,.call Jvt [(.rd,(.t 3))] true⟩,⟨some 5, none,.call Jjm [(.rd,(.t 4)),(.val,(.f zl8))] false⟩,⟨some 6, none,.bin .add (.t 5) (.c (vi 1))⟩,⟨some 2, none,.asg (.t 6)⟩] [2] []
def zi7:Qa4:=⟨[.t 2],[],(.seq z7r0 (.seq z7r1 .ret))⟩
def z8r0:IC:=.reg [⟨some 2, none,.asg (.c (.bool false))⟩] [0] []
def z8r1:IC:=.reg [⟨some 3, none,.mv (.t 0)⟩,⟨some 4, none,.bin .lss (.t 3) (.c (vi 0))⟩,⟨some 2, none,.asg (.t 4)⟩] [2] []
def zi8:Qa4:=⟨[.t 2],[],(.seq z8r0 (.seq z8r1 .ret))⟩
def Ju7:IC:=.reg [⟨some 2, none,.box (.t 0)⟩,⟨some 3, none,.box (.t 1)⟩,⟨some 4, none,.alloc [(vi 0),(.slice none 0 0)]⟩,⟨some 5, none,.asg (.c (.bool false))⟩] [2,3,4] []
def Jrv:IC:=.reg [⟨some 8, none,.load true 4 (.t 3)⟩,⟨some 9, none,.call Qyf [(.val,(.t 8))] true⟩,⟨some 10, none,.unop .not (.t 9)⟩,⟨some 11, none,.asg (.t 10)⟩,⟨some 12, (some (11,false)),.load true 2 (.t 2)⟩,⟨some 13, (some (11,false)),.fadr 0 (.t 3)⟩,⟨some 14, (some (11,false)),.load false 1 (.t 13)⟩,⟨some 15, (some (11,false)),.fadr 1 (.t 3)⟩,⟨some 16, (some (11,false)),.load false 1 (.t 15)⟩,⟨some 17, (some (11,false)),.call Qng [(.rd,(.t 12)),(.val,(.t 14)),(.val,(.t 16))] true⟩,⟨some 18, (some (11,false)),.unop .not (.t 17)⟩,⟨some 19, none,.pick (.t 11) (.c (.bool true)) (.t 18)⟩,⟨some 20, none,.asg (.t 19)⟩,⟨some 21, (some (20,false)),.load true 2 (.t 2)⟩,⟨some 22, (some (20,false)),.fadr 2 (.t 3)⟩,⟨some 23, (some (20,false)),.load false 1 (.t 22)⟩,⟨some 24, (some (20,false)),.fadr 3 (.t 3)⟩,⟨some 25, (some (20,false)),.load false 1 (.t 24)⟩,
    ⟨some 26, (some (20,false)),.call Qng [(.rd,(.t 21)),(.val,(.t 23)),(.val,(.t 25))] true⟩,⟨some 27, (some (20,false)),.unop .not (.t 26)⟩,⟨some 28, none,.pick (.t 20) (.c (.bool true)) (.t 27)⟩,⟨some 29, none,.asg (.t 28)⟩,⟨some 30, (some (29,false)),.load true 2 (.t 2)⟩,⟨some 31, (some (29,false)),.fadr 0 (.t 3)⟩,⟨some 32, (some (29,false)),.load false 1 (.t 31)⟩,⟨some 33, (some (29,false)),.fadr 2 (.t 3)⟩,⟨some 34, (some (29,false)),.load false 1 (.t 33)⟩,⟨some 35, (some (29,false)),.call Qng [(.rd,(.t 30)),(.val,(.t 32)),(.val,(.t 34))] true⟩,⟨some 36, none,.pick (.t 29) (.c (.bool true)) (.t 35)⟩,⟨some 37, none,.asg (.t 36)⟩,⟨some 38, (some (37,false)),.load true 2 (.t 2)⟩,⟨some 39, (some (37,false)),.fadr 1 (.t 3)⟩,⟨some 40, (some (37,false)),.load false 1 (.t 39)⟩,⟨some 41, (some (37,false)),.fadr 3 (.t 3)⟩,⟨some 42, (some (37,false)),.load false 1 (.t 41)⟩,
    ⟨some 43, (some (37,false)),.call Qng [(.rd,(.t 38)),(.val,(.t 40)),(.val,(.t 42))] true⟩,⟨some 44, none,.pick (.t 37) (.c (.bool true)) (.t 43)⟩] [2,3,4,44] []
def Jpu:IC:=.reg [⟨some 45, none,.build [(vi 0),(.slice none 0 0)] []⟩,⟨none,none,.store 2 (.t 4) (.t 45)⟩,⟨some 5, none,.asg (.c (.bool false))⟩] [4,5] []
def Jp3:IC:=.reg [⟨some 46, none,.fadr 1 (.t 2)⟩,⟨some 47, none,.load false 1 (.t 46)⟩,⟨some 48, none,.call Qqs [(.rd,(.t 47))] true⟩,⟨some 49, none,.mkfn Qtx [(.t 3)]⟩,⟨some 50, none,.call Qtk [(.tk,(.t 48)),(.val,(.t 49))] false⟩,⟨some 6, none,.asg (.t 50)⟩] [2,3,4,6] []
def Juy:IC:=.regd [⟨some 51, none,.fadr 0 (.t 2)⟩,⟨some 52, none,.load false 1 (.t 51)⟩,⟨some 53, none,.mv (.t 6)⟩,⟨some 54, none,.fadr 0 (.t 3)⟩,⟨some 55, none,.load false 1 (.t 54)⟩,⟨some 56, none,.fadr 2 (.t 3)⟩,⟨some 57, none,.load false 1 (.t 56)⟩,⟨some 58, none,.call Jaa [(.val,(.t 55)),(.val,(.t 57))] true⟩,⟨some 59, none,.fadr 1 (.t 3)⟩,⟨some 60, none,.load false 1 (.t 59)⟩,⟨some 61, none,.fadr 3 (.t 3)⟩,⟨some 62, none,.load false 1 (.t 61)⟩,⟨some 63, none,.call Jaa [(.val,(.t 60)),(.val,(.t 62))] true⟩,⟨some 64, none,.bsl 2 [(vi 0),(vi 0)] 2 [(0,(.t 58)),(1,(.t 63))]⟩,⟨some 65, none,.app 2 (.t 53) (.t 64)⟩,⟨some 66, none,.callq Qx5 [(.val,(.t 52)),(.rv,(.t 65))]⟩,⟨some 7, none,.alloc [(vi 0),(.slice none 0 0)]⟩,
    ⟨none,none,.store 2 (.t 7) (.t 66)⟩] [0,1,2,3,4,5,6,7,8,9,10,11,12,13,14,15,16,17] [4,7] [[0,1,3,4,5,6,7,8,9,10,11,12,13,2,14,15,16,17],[0,2,3,4,5,6,7,8,9,10,11,12,13,1,14,15,16,17],[0,2,3,4,5,6,7,8,9,10,11,12,13,14,1,15,16,17],[0,3,4,5,6,7,8,9,10,11,12,13,1,2,14,15,16,17],[0,3,4,5,6,7,8,9,10,11,12,13,2,14,1,15,16,17],[2,3,4,5,6,7,8,9,10,11,12,13,0,1,14,15,16,17],[2,3,4,5,6,7,8,9,10,11,12,13,0,14,1,15,16,17],[2,3,4,5,6,7,8,9,10,11,12,13,14,0,1,15,16,17],[3,4,5,6,7,8,9,10,11,12,13,0,1,2,14,15,16,17],[3,4,5,6,7,8,9,10,11,12,13,0,2,14,1,15,16,17],[3,4,5,6,7,8,9,10,11,12,13,2,14,0,1,15,16,17]]
def Jqs:IC:=.reg [⟨some 67, none,.load true 2 (.t 7)⟩,⟨some 68, none,.load true 2 (.t 7)⟩,⟨some 69, none,.call Qui [(.rd,(.t 68))] true⟩,⟨none,none,.store 2 (.t 4) (.t 67)⟩,⟨some 5, none,.asg (.t 69)⟩] [4,5] [[1,2,0,3,4]]
def Qmg:Qa4:=⟨[.c 4 2 true,.t 5],[],(.seq Ju7 (.seq (.seq Jrv (.cond (.t 44) (.seq Jpu .ret) .skip)) (.seq Jp3 (.seq Juy (.seq Jqs .ret)))))⟩
def Joc:IC:=.reg [⟨some 2, none,.box (.t 0)⟩,⟨some 3, none,.asg (.c (.bool false))⟩] [1,2] []
def Jqg:IC:=.reg [⟨some 4, none,.load true 2 (.t 2)⟩,⟨some 5, none,.fadr 0 (.t 1)⟩,⟨some 6, none,.load false 1 (.t 5)⟩,⟨some 7, none,.fadr 1 (.t 1)⟩,⟨some 8, none,.load false 1 (.t 7)⟩,⟨some 9, none,.call Jaa [(.val,(.t 6)),(.val,(.t 8))] true⟩,⟨some 10, none,.eqa false 2 (.t 4) (.t 9)⟩,⟨some 11, none,.asg (.t 10)⟩,⟨some 12, (some (11,false)),.load true 2 (.t 2)⟩,⟨some 13, (some (11,false)),.fadr 2 (.t 1)⟩,⟨some 14, (some (11,false)),.load false 1 (.t 13)⟩,⟨some 15, (some (11,false)),.fadr 3 (.t 1)⟩,⟨some 16, (some (11,false)),.load false 1 (.t 15)⟩,⟨some 17, (some (11,false)),.call Jaa [(.val,(.t 14)),(.val,(.t 16))] true⟩,⟨some 18, (some (11,false)),.eqa false 2 (.t 12) (.t 17)⟩,⟨some 19, none,.pick (.t 11) (.c (.bool true)) (.t 18)⟩,
    ⟨some 3, none,.asg (.t 19)⟩] [3] [[0,1,2,3,4,5,6,7,9,10,11,12,13,8,14,15,16],[1,2,3,4,5,0,6,7,8,9,10,11,12,13,14,15,16],[1,2,3,4,5,0,6,7,9,10,11,12,13,8,14,15,16]]
def Qkp:Qa4:=⟨[.t 3],[],(.seq Joc (.seq Jqg .ret))⟩
def Jtz:IC:=.reg [⟨some 1, none,.box (.t 0)⟩,⟨some 2, none,.asg (.c (.slice none 0 0))⟩] [1] []
def Jq3:IC:=.reg [⟨some 3, none,.asg (.c (.slice none 0 0))⟩] [1,3] []
def Jwf:IC:=.reg [⟨some 9, none,.load true 2 (.t 1)⟩,⟨some 10, none,.call Qkx [(.rd,(.t 9))] true⟩,⟨some 4, none,.asg (.t 10)⟩] [1,3,4] []
def Jpq:IC:=.reg [⟨some 11, none,.fadr 0 (.t 1)⟩,⟨some 12, none,.load false 1 (.t 11)⟩,⟨some 13, none,.mv (.c (vi 0))⟩] [3,4,12,13] []
def Jli:IC:=.reg [⟨some 14, none,.bin .lss (.t 13) (.t 12)⟩] [3,4,12,13,14] []
def Jwn:IC:=.reg [⟨some 15, none,.asg (.t 13)⟩,⟨some 5, none,.asg (.t 15)⟩] [3,4,5,12,13] []
def Jrc:IC:=.reg [⟨some 16, none,.mv (.t 4)⟩,⟨some 17, none,.mv (.t 5)⟩,⟨some 18, none,.iadr 1 (.t 16) (.t 17)⟩,⟨some 19, none,.load false 1 (.t 18)⟩,⟨some 20, none,.mv (.t 5)⟩,⟨some 21, none,.bin .neq (.t 19) (.t 20)⟩] [3,4,5,12,13,21] []
def Joq:IC:=.reg [⟨some 6, none,.asg (.c (.slice none 0 0))⟩] [3,4,5,6,12,13] []
def Jq4:IC:=.reg [⟨some 22, none,.mv (.t 4)⟩,⟨some 23, none,.len (.t 22)⟩,⟨some 24, none,.mv (.c (vi 0))⟩] [3,4,5,6,12,13,22,23,24] []
def Jj4:IC:=.reg [⟨some 25, none,.bin .lss (.t 24) (.t 23)⟩] [3,4,5,6,12,13,22,23,24,25] []
def Jip:IC:=.reg [⟨some 26, none,.asg (.t 24)⟩,⟨some 27, none,.iadr 1 (.t 22) (.t 24)⟩,⟨some 28, none,.load false 1 (.t 27)⟩,⟨some 7, none,.asg (.t 26)⟩,⟨some 8, none,.asg (.t 28)⟩] [3,4,5,6,7,8,12,13,22,23,24] []
def Jgi:IC:=.reg [⟨some 29, none,.mv (.t 8)⟩,⟨some 30, none,.mv (.t 5)⟩,⟨some 31, none,.bin .eql (.t 29) (.t 30)⟩] [3,4,5,6,7,12,13,22,23,24,31] []
def Jin:IC:=.reg [⟨some 32, none,.mv (.t 6)⟩,⟨some 33, none,.mv (.t 7)⟩,⟨some 34, none,.bsl 1 [(vi 0)] 1 [(0,(.t 33))]⟩,⟨some 35, none,.app 1 (.t 32) (.t 34)⟩,⟨some 6, none,.asg (.t 35)⟩] [3,4,5,6,12,13,22,23,24] []
def Jf1:IC:=.reg [⟨some 36, none,.bin .add (.t 24) (.c (vi 1))⟩,⟨some 24, none,.asg (.t 36)⟩] [3,4,5,6,12,13,22,23,24] []
def Ql6:IC:=(.seq Jj4 (.seq (.cond (.t 25) .skip (.exit 2)) (.seq (.block 3 (.seq Jip (.seq Jgi (.cond (.t 31) Jin .skip)))) Jf1)))
def Jgr:IC:=.reg [⟨some 37, none,.mv (.t 3)⟩,⟨some 38, none,.mv (.t 6)⟩,⟨some 39, none,.call Jjw [(.tk,(.t 38))] true⟩,⟨some 40, none,.bsl 1 [(.slice none 0 0)] 1 [(0,(.t 39))]⟩,⟨some 41, none,.app 1 (.t 37) (.t 40)⟩,⟨some 3, none,.asg (.t 41)⟩] [3,4,12,13] []
def Jgp:IC:=.reg [⟨some 42, none,.bin .add (.t 13) (.c (vi 1))⟩,⟨some 13, none,.asg (.t 42)⟩] [3,4,12,13] []
def Qxy:IC:=(.seq Jli (.seq (.cond (.t 14) .skip (.exit 0)) (.seq (.block 1 (.seq Jwn (.seq (.seq Jrc (.cond (.t 21) (.exit 1) .skip)) (.seq Joq (.seq (.seq Jq4 (.block 2 (.loop Ql6))) Jgr))))) Jgp)))
def Jik:IC:=.reg [⟨some 43, none,.mv (.t 3)⟩,⟨some 44, none,.call Qva [(.tk,(.t 43))] true⟩,⟨some 2, none,.asg (.t 44)⟩] [2] []
def Qqo:Qa4:=⟨[.t 2],[],(.seq Jtz (.seq Jq3 (.seq Jwf (.seq (.seq Jpq (.block 0 (.loop Qxy))) (.seq Jik .ret)))))⟩
def z9r0:IC:=.reg [⟨some 1, none,.box (.t 0)⟩,⟨some 2, none,.asg (.c (.slice none 0 0))⟩] [1] []
def z9r1:IC:=.reg [⟨some 6, none,.fadr 0 (.t 1)⟩,⟨some 7, none,.load false 1 (.t 6)⟩,⟨some 8, none,.mksl 1 [(vi 0)] (.t 7) (.t 7)⟩,⟨some 3, none,.asg (.t 8)⟩] [1,3] []
def z9r2:IC:=.reg [⟨some 9, none,.fadr 1 (.t 1)⟩,⟨some 10, none,.load false 1 (.t 9)⟩,⟨some 11, none,.len (.t 10)⟩,⟨some 12, none,.mv (.c (vi 0))⟩] [1,3,10,11,12] []
def z9r3:IC:=.reg [⟨some 13, none,.bin .lss (.t 12) (.t 11)⟩] [1,3,10,11,12,13] []
def z9r4:IC:=.reg [⟨some 14, none,.iadr 2 (.t 10) (.t 12)⟩,⟨some 15, none,.load true 2 (.t 14)⟩,⟨some 5, none,.alloc [(vi 0),(vi 0)]⟩,⟨none,none,.store 2 (.t 5) (.t 15)⟩] [1,3,5,10,11,12] []
def z9r5:IC:=.reg [⟨some 16, none,.mv (.t 3)⟩,⟨some 17, none,.fadr 0 (.t 5)⟩,⟨some 18, none,.load false 1 (.t 17)⟩,⟨some 19, none,.iadr 1 (.t 16) (.t 18)⟩,⟨some 20, none,.load false 1 (.t 19)⟩,⟨some 21, none,.bin .add (.t 20) (.c (vi 1))⟩,⟨some 22, none,.iadr 1 (.t 16) (.t 18)⟩,⟨none,none,.store 1 (.t 22) (.t 21)⟩] [1,3,5,10,11,12] []
def z9r6:IC:=.reg [⟨some 23, none,.mv (.t 3)⟩,⟨some 24, none,.fadr 1 (.t 5)⟩,⟨some 25, none,.load false 1 (.t 24)⟩,⟨some 26, none,.iadr 1 (.t 23) (.t 25)⟩,⟨some 27, none,.load false 1 (.t 26)⟩,⟨some 28, none,.bin .add (.t 27) (.c (vi 1))⟩,⟨some 29, none,.iadr 1 (.t 23) (.t 25)⟩,⟨none,none,.store 1 (.t 29) (.t 28)⟩] [1,3,10,11,12] []
def z9r7:IC:=.reg [⟨some 30, none,.bin .add (.t 12) (.c (vi 1))⟩,⟨some 12, none,.asg (.t 30)⟩] [1,3,10,11,12] []
def z9l8:IC:=(.seq z9r3 (.seq (.cond (.t 13) .skip (.exit 0)) (.seq (.block 1 (.seq z9r4 (.seq z9r5 z9r6))) z9r7)))
def z9r9:IC:=.reg [⟨some 31, none,.mv (.t 3)⟩,⟨some 2, none,.asgm (.t 31)⟩] [2,3] []
def zi9:Qa4:=⟨[.t 2],[],(.seq z9r0 (.seq z9r1 (.seq (.seq z9r2 (.block 0 (.loop z9l8))) (.seq z9r9 .ret))))⟩
def Jp6:IC:=.reg [⟨some 3, none,.box (.t 0)⟩,⟨some 6, none,.asg (.c (.bool false))⟩] [1,2,3] []
def Jox:IC:=.reg [⟨some 7, none,.fadr 1 (.t 3)⟩,⟨some 8, none,.load false 1 (.t 7)⟩,⟨some 9, none,.mv (.t 1)⟩,⟨some 10, none,.mv (.t 2)⟩,⟨some 11, none,.call Jaa [(.val,(.t 9)),(.val,(.t 10))] true⟩,⟨some 12, none,.call Qux [(.rd,(.t 8)),(.val,(.t 11))] true⟩,⟨some 6, none,.asg (.t 12)⟩] [6] [[0,2,3,4,1,5,6]]
def Jca:Qa4:=⟨[.t 6],[],(.seq Jp6 (.seq Jox .ret))⟩
def Jmm:IC:=.reg [⟨some 1, none,.box (.t 0)⟩,⟨some 2, none,.asg (.c (.slice none 0 0))⟩] [1] []
def Jrh:IC:=.reg [⟨some 7, none,.fadr 0 (.t 1)⟩,⟨some 8, none,.load false 1 (.t 7)⟩,⟨some 9, none,.call Qo4 [(.val,(.t 8)),(.val,(.c (vi (-1))))] true⟩,⟨some 3, none,.asg (.t 9)⟩] [1,3] []
def Jls:IC:=.reg [⟨some 10, none,.fadr 0 (.t 1)⟩,⟨some 11, none,.load false 1 (.t 10)⟩,⟨some 12, none,.mv (.c (vi 0))⟩] [1,3,11,12] []
def Jlj:IC:=.reg [⟨some 13, none,.bin .lss (.t 12) (.t 11)⟩] [1,3,11,12,13] []
def Jq1:IC:=.reg [⟨some 14, none,.fadr 1 (.t 1)⟩,⟨some 15, none,.load false 1 (.t 14)⟩,⟨some 16, none,.len (.t 15)⟩,⟨some 17, none,.mv (.c (vi 0))⟩] [1,3,11,12,15,16,17] []
def Jqx:IC:=.reg [⟨some 18, none,.bin .lss (.t 17) (.t 16)⟩] [1,3,11,12,15,16,17,18] []
def Jl3:IC:=.reg [⟨some 19, none,.iadr 2 (.t 15) (.t 17)⟩,⟨some 20, none,.load true 2 (.t 19)⟩,⟨some 5, none,.alloc [(vi 0),(vi 0)]⟩,⟨none,none,.store 2 (.t 5) (.t 20)⟩] [1,3,5,11,12,15,16,17] []
def Jon:IC:=.reg [⟨some 21, none,.mv (.t 3)⟩,⟨some 22, none,.fadr 0 (.t 5)⟩,⟨some 23, none,.load false 1 (.t 22)⟩,⟨some 24, none,.iadr 1 (.t 21) (.t 23)⟩,⟨some 25, none,.load false 1 (.t 24)⟩,⟨some 26, none,.mv (.t 3)⟩,⟨some 27, none,.fadr 1 (.t 5)⟩,⟨some 28, none,.load false 1 (.t 27)⟩,⟨some 29, none,.iadr 1 (.t 26) (.t 28)⟩,⟨some 30, none,.load false 1 (.t 29)⟩,⟨some 31, none,.minmax true (.t 25) (.t 30)⟩,⟨some 6, none,.asg (.t 31)⟩] [1,3,5,6,11,12,15,16,17] []
def Jmk:IC:=.reg [⟨some 32, none,.mv (.t 3)⟩,⟨some 33, none,.fadr 0 (.t 5)⟩,⟨some 34, none,.load false 1 (.t 33)⟩,⟨some 35, none,.mv (.t 3)⟩,⟨some 36, none,.fadr 1 (.t 5)⟩,⟨some 37, none,.load false 1 (.t 36)⟩,⟨some 38, none,.mv (.t 6)⟩,⟨some 39, none,.mv (.t 6)⟩,⟨some 40, none,.iadr 1 (.t 32) (.t 34)⟩,⟨none,none,.store 1 (.t 40) (.t 38)⟩,⟨some 41, none,.iadr 1 (.t 35) (.t 37)⟩,⟨none,none,.store 1 (.t 41) (.t 39)⟩] [1,3,11,12,15,16,17] [[0,1,2,3,4,6,7,8,9,5,10,11]]
def Jq8:IC:=.reg [⟨some 42, none,.bin .add (.t 17) (.c (vi 1))⟩,⟨some 17, none,.asg (.t 42)⟩] [1,3,11,12,15,16,17] []
def Qu8:IC:=(.seq Jqx (.seq (.cond (.t 18) .skip (.exit 2)) (.seq (.block 3 (.seq Jl3 (.seq Jon Jmk))) Jq8)))
def Jfr:IC:=.reg [⟨some 43, none,.bin .add (.t 12) (.c (vi 1))⟩,⟨some 12, none,.asg (.t 43)⟩] [1,3,11,12] []
def Qve:IC:=(.seq Jlj (.seq (.cond (.t 13) .skip (.exit 0)) (.seq (.block 1 (.seq Jq1 (.block 2 (.loop Qu8)))) Jfr)))
def Jgg:IC:=.reg [⟨some 44, none,.mv (.t 3)⟩,⟨some 2, none,.asgm (.t 44)⟩] [2,3] []
def Qqv:Qa4:=⟨[.t 2],[],(.seq Jmm (.seq Jrh (.seq (.seq Jls (.block 0 (.loop Qve))) (.seq Jgg .ret))))⟩
def Jk4:IC:=.reg [⟨some 2, none,.box (.t 0)⟩,⟨some 3, none,.box (.t 1)⟩,⟨some 4, none,.alloc [(vi 0),(.slice none 0 0)]⟩] [2,3,4] []
def Jrz:IC:=.reg [⟨some 5, none,.fadr 0 (.t 2)⟩,⟨some 6, none,.load false 1 (.t 5)⟩,⟨some 7, none,.fadr 1 (.t 2)⟩,⟨some 8, none,.load false 1 (.t 7)⟩,⟨some 9, none,.call Qqs [(.rd,(.t 8))] true⟩,⟨some 10, none,.mkfn Qtq [(.t 3)]⟩,⟨some 11, none,.call Qtk [(.tk,(.t 9)),(.val,(.t 10))] false⟩,⟨some 12, none,.build [(vi 0),(.slice none 0 0)] [(0,1,(.t 6)),(1,1,(.t 11))]⟩,⟨none,none,.store 2 (.t 4) (.t 12)⟩] [4] [[0,2,3,4,1,5,6,7,8],[0,2,3,4,5,6,1,7,8]]
def Qz0:Qa4:=⟨[.c 4 2 true],[],(.seq Jk4 (.seq Jrz .ret))⟩
def Juh:IC:=.reg [⟨some 2, none,.box (.t 0)⟩,⟨some 3, none,.asg (.c (.bool false))⟩] [1,2] []
def Jsi:IC:=.reg [⟨some 4, none,.load true 2 (.t 2)⟩,⟨some 5, none,.load true 2 (.t 1)⟩,⟨some 6, none,.eqa false 2 (.t 4) (.t 5)⟩,⟨some 3, none,.asg (.t 6)⟩] [3] []
def Qsn:Qa4:=⟨[.t 3],[],(.seq Juh (.seq Jsi .ret))⟩
def Jkp:IC:=.reg [⟨some 2, none,.asg (.c (.bool false))⟩] [0] []
def Jn6:IC:=.reg [⟨some 4, none,.mv (.t 0)⟩,⟨some 5, none,.len (.t 4)⟩,⟨some 3, none,.asg (.t 5)⟩] [0,3] []
def Jn9:IC:=.reg [⟨some 6, none,.mv (.t 0)⟩,⟨some 7, none,.call Joi [(.rd,(.t 6))] true⟩,⟨some 8, none,.asg (.t 7)⟩,⟨some 9, (some (8,true)),.mv (.t 3)⟩,⟨some 10, (some (8,true)),.bin .gtr (.t 9) (.c (vi 0))⟩,⟨some 11, none,.pick (.t 8) (.t 10) (.c (.bool false))⟩,⟨some 12, none,.asg (.t 11)⟩,⟨some 13, (some (12,true)),.mv (.t 3)⟩,⟨some 14, (some (12,true)),.bin .eql (.t 13) (.c (vi 1))⟩,⟨some 15, (some (12,true)),.asg (.t 14)⟩,⟨some 16, (some (15,false)),.mv (.t 0)⟩,⟨some 17, (some (15,false)),.call Jnw [(.rd,(.t 16))] true⟩,⟨some 18, (some (15,false)),.bin .gtr (.t 17) (.c (vi 0))⟩,⟨some 19, (some (12,true)),.pick (.t 15) (.c (.bool true)) (.t 18)⟩,⟨some 20, none,.pick (.t 12) (.t 19) (.c (.bool false))⟩,⟨some 21, none,.asg (.t 20)⟩,⟨some 22, (some (21,true)),.mv (.t 0)⟩,⟨some 23, (some (21,true)),.call Jg9 [(.rd,(.t 22))] true⟩,⟨some 24, (some (21,true)),.mv (.t 3)⟩,
    ⟨some 25, (some (21,true)),.bin .mul (.c (vi 2)) (.t 24)⟩,⟨some 26, (some (21,true)),.bin .sub (.t 25) (.c (vi 2))⟩,⟨some 27, (some (21,true)),.bin .geq (.t 23) (.t 26)⟩,⟨some 28, none,.pick (.t 21) (.t 27) (.c (.bool false))⟩,⟨some 2, none,.asg (.t 28)⟩] [2] []
def Qo5:Qa4:=⟨[.t 2],[],(.seq Jkp (.seq Jn6 (.seq Jn9 .ret)))⟩
def Jrm:IC:=.reg [⟨some 1, none,.box (.t 0)⟩,⟨some 2, none,.asg (.c (.bool false))⟩] [1] []
def Jph:IC:=.reg [⟨some 3, none,.load true 2 (.t 1)⟩,⟨some 4, none,.call Qui [(.rd,(.t 3))] true⟩,⟨some 5, none,.asg (.t 4)⟩,⟨some 6, (some (5,true)),.load true 2 (.t 1)⟩,⟨some 7, (some (5,true)),.call Qo0 [(.rd,(.t 6))] true⟩,⟨some 8, (some (5,true)),.len (.t 7)⟩,⟨some 9, (some (5,true)),.bin .eql (.t 8) (.c (vi 1))⟩,⟨some 10, none,.pick (.t 5) (.t 9) (.c (.bool false))⟩,⟨some 2, none,.asg (.t 10)⟩] [2] []
def Qqi:Qa4:=⟨[.t 2],[],(.seq Jrm (.seq Jph .ret))⟩
def Jz4:IC:=.reg [⟨some 2, none,.asg (.c (.bool false))⟩] [0] []
def z10r1:IC:=.reg [⟨some 3, none,.mv (.t 0)⟩,⟨some 4, none,.call Jjk [(.rd,(.t 3))] true⟩,⟨some 5, none,.asg (.t 4)⟩,⟨some 6, (some (5,true)),.mv (.t 0)⟩,⟨some 7, (some (5,true)),.call Jg9 [(.rd,(.t 6))] true⟩,⟨some 8, (some (5,true)),.bin .rem (.t 7) (.c (vi 2))⟩,⟨some 9, (some (5,true)),.bin .eql (.t 8) (.c (vi 0))⟩,⟨some 10, none,.pick (.t 5) (.t 9) (.c (.bool false))⟩,⟨some 11, none,.asg (.t 10)⟩,⟨some 12, (some (11,true)),.mv (.t 0)⟩,⟨some 13, (some (11,true)),.call zl7 [(.rd,(.t 12))] true⟩,⟨some 14, (some (11,true)),.bin .eql (.t 13) (.c (vi 0))⟩,⟨some 15, none,.pick (.t 11) (.t 14) (.c (.bool false))⟩,⟨some 2, none,.asg (.t 15)⟩] [2] []
def Jjl:Qa4:=⟨[.t 2],[],(.seq Jz4 (.seq z10r1 .ret))⟩
def Jzz:IC:=.reg [⟨some 2, none,.asg (.c (.slice none 0 0))⟩] [0] []
def Jy7:IC:=.reg [⟨some 4, none,.mv (.t 0)⟩,⟨some 5, none,.call Jsp [(.rd,(.t 4))] true⟩,⟨some 3, none,.alloc [(.slice none 0 0)]⟩,⟨none,none,.store 1 (.t 3) (.t 5)⟩] [0,3] []
def z18r2:IC:=.reg [⟨some 6, none,.mv (.t 0)⟩,⟨some 7, none,.mkfn Jjv [(.t 3)]⟩,⟨some 8, none,.call Jqv [(.rd,(.t 6)),(.val,(.t 7))] false⟩,⟨some 2, none,.asg (.t 8)⟩] [2] []
def Jx2:Qa4:=⟨[.t 2],[],(.seq Jzz (.seq Jy7 (.seq z18r2 .ret)))⟩
def z19r0:IC:=.reg [⟨some 3, none,.asg (.c (vi 0))⟩] [0,1] []
def z19r1:IC:=.reg [⟨some 8, none,.mv (.t 0)⟩,⟨some 9, none,.bin .add (.t 8) (.c (vi 1))⟩,⟨some 4, none,.asg (.t 9)⟩] [1,4] []
def z19r2:IC:=.reg [⟨some 10, none,.mv (.t 4)⟩,⟨some 11, none,.mv (.t 4)⟩,⟨some 12, none,.bin .sub (.t 11) (.c (vi 1))⟩,⟨some 13, none,.bin .mul (.t 10) (.t 12)⟩,⟨some 14, none,.load false 1 (.t 1)⟩,⟨some 15, none,.mv (.t 4)⟩,⟨some 16, none,.slc 1 (.t 14) none (some (.t 15)) none⟩,⟨some 17, none,.call Jg9 [(.rd,(.t 16))] true⟩,⟨some 18, none,.bin .sub (.t 13) (.t 17)⟩,⟨some 5, none,.asg (.t 18)⟩] [1,4,5] []
def z19r3:IC:=.reg [⟨some 19, none,.load false 1 (.t 1)⟩,⟨some 20, none,.mv (.t 4)⟩,⟨some 21, none,.slc 1 (.t 19) (some (.t 20)) none none⟩,⟨some 22, none,.len (.t 21)⟩,⟨some 23, none,.mv (.c (vi 0))⟩] [1,4,5,21,22,23] []
def z19r4:IC:=.reg [⟨some 24, none,.bin .lss (.t 23) (.t 22)⟩] [1,4,5,21,22,23,24] []
def Jz6:IC:=.reg [⟨some 25, none,.iadr 1 (.t 21) (.t 23)⟩,⟨some 26, none,.load false 1 (.t 25)⟩,⟨some 7, none,.asg (.t 26)⟩] [1,4,5,7,21,22,23] []
def z19r6:IC:=.reg [⟨some 27, none,.mv (.t 5)⟩,⟨some 28, none,.mv (.t 7)⟩,⟨some 29, none,.mv (.t 4)⟩,⟨some 30, none,.minmax true (.t 28) (.t 29)⟩,⟨some 31, none,.bin .add (.t 27) (.t 30)⟩,⟨some 5, none,.asg (.t 31)⟩] [1,4,5,21,22,23] []
def Jy1:IC:=.reg [⟨some 32, none,.bin .add (.t 23) (.c (vi 1))⟩,⟨some 23, none,.asg (.t 32)⟩] [1,4,5,21,22,23] []
def Ju8:IC:=(.seq z19r4 (.seq (.cond (.t 24) .skip (.exit 0)) (.seq (.block 1 (.seq Jz6 z19r6)) Jy1)))
def Jzo:IC:=.reg [⟨some 33, none,.mv (.t 5)⟩,⟨some 3, none,.asgm (.t 33)⟩] [3] []
def Jx0:Qa4:=⟨[.t 3],[],(.seq z19r0 (.seq z19r1 (.seq z19r2 (.seq (.seq z19r3 (.block 0 (.loop Ju8))) (.seq Jzo .ret)))))⟩
def Jnu:IC:=.reg [⟨some 1, none,.box (.t 0)⟩,⟨some 2, none,.asg (.c (.bool false))⟩] [1] []
def Jt8:IC:=.reg [⟨some 3, none,.fadr 0 (.t 1)⟩,⟨some 4, none,.load false 1 (.t 3)⟩,⟨some 5, none,.fadr 1 (.t 1)⟩,⟨some 6, none,.load false 1 (.t 5)⟩,⟨some 7, none,.bin .neq (.t 4) (.t 6)⟩,⟨some 8, none,.asg (.t 7)⟩,⟨some 9, (some (8,true)),.fadr 0 (.t 1)⟩,⟨some 10, (some (8,true)),.load false 1 (.t 9)⟩,⟨some 11, (some (8,true)),.fadr 2 (.t 1)⟩,⟨some 12, (some (8,true)),.load false 1 (.t 11)⟩,⟨some 13, (some (8,true)),.bin .neq (.t 10) (.t 12)⟩,⟨some 14, none,.pick (.t 8) (.t 13) (.c (.bool false))⟩,⟨some 15, none,.asg (.t 14)⟩,⟨some 16, (some (15,true)),.fadr 0 (.t 1)⟩,⟨some 17, (some (15,true)),.load false 1 (.t 16)⟩,⟨some 18, (some (15,true)),.fadr 3 (.t 1)⟩,⟨some 19, (some (15,true)),.load false 1 (.t 18)⟩,⟨some 20, (some (15,true)),.bin .neq (.t 17) (.t 19)⟩,⟨some 21, none,.pick (.t 15) (.t 20) (.c (.bool false))⟩,⟨some 22, none,.asg (.t 21)⟩,
    ⟨some 23, (some (22,true)),.fadr 1 (.t 1)⟩,⟨some 24, (some (22,true)),.load false 1 (.t 23)⟩,⟨some 25, (some (22,true)),.fadr 2 (.t 1)⟩,⟨some 26, (some (22,true)),.load false 1 (.t 25)⟩,⟨some 27, (some (22,true)),.bin .neq (.t 24) (.t 26)⟩,⟨some 28, none,.pick (.t 22) (.t 27) (.c (.bool false))⟩,⟨some 29, none,.asg (.t 28)⟩,⟨some 30, (some (29,true)),.fadr 1 (.t 1)⟩,⟨some 31, (some (29,true)),.load false 1 (.t 30)⟩,⟨some 32, (some (29,true)),.fadr 3 (.t 1)⟩,⟨some 33, (some (29,true)),.load false 1 (.t 32)⟩,⟨some 34, (some (29,true)),.bin .neq (.t 31) (.t 33)⟩,⟨some 35, none,.pick (.t 29) (.t 34) (.c (.bool false))⟩,⟨some 36, none,.asg (.t 35)⟩,⟨some 37, (some (36,true)),.fadr 2 (.t 1)⟩,⟨some 38, (some (36,true)),.load false 1 (.t 37)⟩,⟨some 39, (some (36,true)),.fadr 3 (.t 1)⟩,⟨some 40, (some (36,true)),.load false 1 (.t 39)⟩,
    ⟨some 41, (some (36,true)),.bin .neq (.t 38) (.t 40)⟩,⟨some 42, none,.pick (.t 36) (.t 41) (.c (.bool false))⟩,⟨some 2, none,.asg (.t 42)⟩] [2] []
def Qko:Qa4:=⟨[.t 2],[],(.seq Jnu (.seq Jt8 .ret))⟩
def z25r0:IC:=.reg [⟨some 2, none,.asg (.c (.bool false))⟩] [0] []
def z25r1:IC:=.reg [⟨some 3, none,.mv (.t 0)⟩,⟨some 4, none,.len (.t 3)⟩,⟨some 5, none,.bin .leq (.t 4) (.c (vi 7))⟩,⟨some 6, none,.asg (.t 5)⟩,⟨some 7, (some (6,true)),.mv (.t 0)⟩,⟨some 8, (some (6,true)),.mv (.t 0)⟩,⟨some 9, (some (6,true)),.len (.t 8)⟩,⟨some 10, (some (6,true)),.bin .sub (.t 9) (.c (vi 1))⟩,⟨some 11, (some (6,true)),.call Jnd [(.rd,(.t 7)),(.val,(.c (vi 0))),(.val,(.t 10))] true⟩,⟨some 12, none,.pick (.t 6) (.t 11) (.c (.bool false))⟩,⟨some 2, none,.asg (.t 12)⟩] [2] []
def Jtk:Qa4:=⟨[.t 2],[],(.seq z25r0 (.seq z25r1 .ret))⟩
def z26r0:IC:=.reg [⟨some 1, none,.box (.t 0)⟩,⟨some 2, none,.asg (.c (.bool false))⟩] [1] []
def Jzb:IC:=.reg [⟨some 5, none,.fadr 1 (.t 1)⟩,⟨some 6, none,.load false 1 (.t 5)⟩,⟨some 7, none,.len (.t 6)⟩,⟨some 8, none,.mv (.c (vi 0))⟩] [1,6,7,8] []
def Jza:IC:=.reg [⟨some 9, none,.bin .lss (.t 8) (.t 7)⟩] [1,6,7,8,9] []
def z26r3:IC:=.reg [⟨some 10, none,.asg (.t 8)⟩,⟨some 11, none,.iadr 2 (.t 6) (.t 8)⟩,⟨some 12, none,.load true 2 (.t 11)⟩,⟨some 4, none,.alloc [(vi 0),(vi 0)]⟩,⟨some 3, none,.asg (.t 10)⟩,⟨none,none,.store 2 (.t 4) (.t 12)⟩] [1,3,4,6,7,8] []
def Jzt:IC:=.reg [⟨some 13, none,.fadr 0 (.t 4)⟩,⟨some 14, none,.load false 1 (.t 13)⟩,⟨some 15, none,.bin .lss (.t 14) (.c (vi 0))⟩,⟨some 16, none,.asg (.t 15)⟩,⟨some 17, (some (16,false)),.fadr 0 (.t 4)⟩,⟨some 18, (some (16,false)),.load false 1 (.t 17)⟩,⟨some 19, (some (16,false)),.fadr 1 (.t 4)⟩,⟨some 20, (some (16,false)),.load false 1 (.t 19)⟩,⟨some 21, (some (16,false)),.bin .geq (.t 18) (.t 20)⟩,⟨some 22, none,.pick (.t 16) (.c (.bool true)) (.t 21)⟩,⟨some 23, none,.asg (.t 22)⟩,⟨some 24, (some (23,false)),.fadr 1 (.t 4)⟩,⟨some 25, (some (23,false)),.load false 1 (.t 24)⟩,⟨some 26, (some (23,false)),.fadr 0 (.t 1)⟩,⟨some 27, (some (23,false)),.load false 1 (.t 26)⟩,⟨some 28, (some (23,false)),.bin .geq (.t 25) (.t 27)⟩,⟨some 29, none,.pick (.t 23) (.c (.bool true)) (.t 28)⟩,⟨some 30, none,.asg (.t 29)⟩,⟨some 31, (some (30,false)),.mv (.t 3)⟩,
    ⟨some 32, (some (30,false)),.bin .gtr (.t 31) (.c (vi 0))⟩,⟨some 33, (some (30,false)),.asg (.t 32)⟩,⟨some 34, (some (33,true)),.fadr 1 (.t 1)⟩,⟨some 35, (some (33,true)),.load false 1 (.t 34)⟩,⟨some 36, (some (33,true)),.mv (.t 3)⟩,⟨some 37, (some (33,true)),.bin .sub (.t 36) (.c (vi 1))⟩,⟨some 38, (some (33,true)),.iadr 2 (.t 35) (.t 37)⟩,⟨some 39, (some (33,true)),.load true 2 (.t 38)⟩,⟨some 40, (some (33,true)),.load true 2 (.t 4)⟩,⟨some 41, (some (33,true)),.call Qzo [(.val,(.t 39)),(.val,(.t 40))] true⟩,⟨some 42, (some (33,true)),.bin .geq (.t 41) (.c (vi 0))⟩,⟨some 43, (some (30,false)),.pick (.t 33) (.t 42) (.c (.bool false))⟩,⟨some 44, none,.pick (.t 30) (.c (.bool true)) (.t 43)⟩] [1,6,7,8,44] []
def Jyk:IC:=.reg [⟨some 2, none,.asg (.c (.bool false))⟩] [2] []
def z26r6:IC:=.reg [⟨some 45, none,.bin .add (.t 8) (.c (vi 1))⟩,⟨some 8, none,.asg (.t 45)⟩] [1,6,7,8] []
def Jo7:IC:=(.seq Jza (.seq (.cond (.t 9) .skip (.exit 0)) (.seq (.block 1 (.seq z26r3 (.seq Jzt (.cond (.t 44) (.seq Jyk .ret) .skip)))) z26r6)))
def Jy0:IC:=.reg [⟨some 46, none,.fadr 0 (.t 1)⟩,⟨some 47, none,.load false 1 (.t 46)⟩,⟨some 48, none,.call Jjy [(.val,(.t 47)),(.val,(.c (vi 0))),(.val,(.c (vi 7)))] true⟩,⟨some 2, none,.asg (.t 48)⟩] [2] []
def Jve:Qa4:=⟨[.t 2],[],(.seq z26r0 (.seq (.seq Jzb (.block 0 (.loop Jo7))) (.seq Jy0 .ret)))⟩
def z29r0:IC:=.reg [⟨some 4, none,.box (.t 1)⟩,⟨some 5, none,.box (.t 2)⟩,⟨some 6, none,.asg (.c (.bool false))⟩] [0,4,5] []
def z29r1:IC:=.reg [⟨some 7, none,.mv (.t 0)⟩,⟨some 8, none,.mkfn Jjr [(.t 4),(.t 5)]⟩,⟨some 9, none,.call Js2 [(.rd,(.t 7)),(.val,(.t 8))] false⟩,⟨some 10, none,.unop .not (.t 9)⟩,⟨some 6, none,.asg (.t 10)⟩] [6] []
def Jxq:Qa4:=⟨[.t 6],[],(.seq z29r0 (.seq z29r1 .ret))⟩
def z30r0:IC:=.reg [⟨some 4, none,.asg (.c (.bool false))⟩] [0,1,2] []
def Jyq:IC:=.reg [⟨some 5, none,.mv (.t 0)⟩,⟨some 6, none,.load false 1 (.t 1)⟩,⟨some 7, none,.load false 1 (.t 2)⟩,⟨some 8, none,.call Jjy [(.val,(.t 5)),(.val,(.t 6)),(.val,(.t 7))] true⟩,⟨some 9, none,.unop .not (.t 8)⟩,⟨some 4, none,.asg (.t 9)⟩] [4] []
def Jx1:Qa4:=⟨[.t 4],[],(.seq z30r0 (.seq Jyq .ret))⟩
def Jlt:IC:=.reg [⟨some 2, none,.asg (.c (.slice none 0 0))⟩] [0] []
def Jnp:IC:=.reg [⟨some 3, none,.mv (.t 0)⟩,⟨some 4, none,.call Qqs [(.rd,(.t 3))] true⟩,⟨some 5, none,.call Qy1 [(.tk,(.t 4))] true⟩,⟨some 2, none,.asg (.t 5)⟩] [2] []
def Jb3:Qa4:=⟨[.t 2],[],(.seq Jlt (.seq Jnp .ret))⟩
def Jzp:IC:=.reg [⟨some 2, none,.asg (.c (.slice none 0 0))⟩] [0] []
def Jzi:IC:=.reg [⟨some 3, none,.mv (.t 0)⟩,⟨some 4, none,.call Jtp [(.rd,(.t 3))] true⟩,⟨some 5, none,.call Jjw [(.tk,(.t 4))] true⟩,⟨some 2, none,.asg (.t 5)⟩] [2] []
def Jxc:Qa4:=⟨[.t 2],[],(.seq Jzp (.seq Jzi .ret))⟩
def Jyx:IC:=.reg [⟨some 2, none,.box (.t 0)⟩,⟨some 3, none,.box (.t 1)⟩,⟨some 4, none,.asg (.c (vi 0))⟩] [2,3] []
def Jzh:IC:=.reg [⟨some 5, none,.fadr 0 (.t 2)⟩,⟨some 6, none,.load false 1 (.t 5)⟩,⟨some 7, none,.fadr 0 (.t 3)⟩,⟨some 8, none,.load false 1 (.t 7)⟩,⟨some 9, none,.bin .neq (.t 6) (.t 8)⟩] [2,3,9] []
def z32r2:IC:=.reg [⟨some 10, none,.fadr 0 (.t 2)⟩,⟨some 11, none,.load false 1 (.t 10)⟩,⟨some 12, none,.fadr 0 (.t 3)⟩,⟨some 13, none,.load false 1 (.t 12)⟩,⟨some 14, none,.bin .sub (.t 11) (.t 13)⟩,⟨some 4, none,.asg (.t 14)⟩] [4] []
def z32r3:IC:=.reg [⟨some 15, none,.fadr 1 (.t 2)⟩,⟨some 16, none,.load false 1 (.t 15)⟩,⟨some 17, none,.fadr 1 (.t 3)⟩,⟨some 18, none,.load false 1 (.t 17)⟩,⟨some 19, none,.bin .sub (.t 16) (.t 18)⟩,⟨some 4, none,.asg (.t 19)⟩] [4] []
def Jj2:Qa4:=⟨[.t 4],[],(.seq Jyx (.seq (.seq Jzh (.cond (.t 9) (.seq z32r2 .ret) .skip)) (.seq z32r3 .ret)))⟩
def z35r0:IC:=.reg [⟨some 4, none,.asg (.c (.slice none 0 0))⟩] [0,1] []
def z35r1:IC:=.reg [⟨some 7, none,.mv (.t 0)⟩,⟨some 8, none,.call Jjk [(.rd,(.t 7))] true⟩,⟨some 9, none,.unop .not (.t 8)⟩] [0,1,9] []
def z35r2:IC:=.reg [⟨some 4, none,.asg (.c (.slice none 0 0))⟩] [4,5] []
def Jy5:IC:=.reg [⟨some 10, none,.mv (.t 0)⟩,⟨some 11, none,.len (.t 10)⟩,⟨some 12, none,.mksl 1 [(vi 0)] (.t 11) (.t 11)⟩,⟨some 5, none,.asg (.t 12)⟩] [1,5] []
def z35r4:IC:=.reg [⟨some 13, none,.mv (.t 5)⟩,⟨some 14, none,.len (.t 13)⟩,⟨some 15, none,.mv (.c (vi 0))⟩] [1,5,14,15] []
def z35r5:IC:=.reg [⟨some 16, none,.bin .lss (.t 15) (.t 14)⟩] [1,5,14,15,16] []
def z35r6:IC:=.reg [⟨some 17, none,.asg (.t 15)⟩,⟨some 6, none,.asg (.t 17)⟩] [1,5,6,14,15] []
def Jyl:IC:=.reg [⟨some 18, none,.mv (.t 5)⟩,⟨some 19, none,.mv (.t 6)⟩,⟨some 20, none,.mv (.t 1)⟩,⟨some 21, none,.mv (.t 6)⟩,⟨some 22, none,.callv (.t 20) [(.val,(.t 21))]⟩,⟨some 23, none,.iadr 1 (.t 18) (.t 19)⟩,⟨none,none,.store 1 (.t 23) (.t 22)⟩] [1,5,14,15] []
def Jzv:IC:=.reg [⟨some 24, none,.bin .add (.t 15) (.c (vi 1))⟩,⟨some 15, none,.asg (.t 24)⟩] [1,5,14,15] []
def Jqj:IC:=(.seq z35r5 (.seq (.cond (.t 16) .skip (.exit 0)) (.seq (.block 1 (.seq z35r6 Jyl)) Jzv)))
def Jtl:IC:=.reg [⟨some 25, none,.mv (.t 5)⟩,⟨some 4, none,.asgm (.t 25)⟩] [4,5] []
def Jw9:Qa4:=⟨[.t 4],[],(.seq z35r0 (.seq (.seq z35r1 (.cond (.t 9) (.seq z35r2 .ret) .skip)) (.seq Jy5 (.seq (.seq z35r4 (.block 0 (.loop Jqj))) (.seq Jtl .ret)))))⟩
def z36r0:IC:=.reg [⟨some 4, none,.alloc [(vi 0),(vi 0)]⟩] [0,1,4] []
def z36r1:IC:=.reg [⟨some 5, none,.mv (.t 0)⟩,⟨some 6, none,.mv (.t 1)⟩,⟨some 7, none,.minmax true (.t 5) (.t 6)⟩,⟨some 8, none,.mv (.t 0)⟩,⟨some 9, none,.mv (.t 1)⟩,⟨some 10, none,.minmax false (.t 8) (.t 9)⟩,⟨some 11, none,.build [(vi 0),(vi 0)] [(0,1,(.t 7)),(1,1,(.t 10))]⟩,⟨none,none,.store 2 (.t 4) (.t 11)⟩] [4] []
def Jxv:Qa4:=⟨[.c 4 2 true],[],(.seq z36r0 (.seq z36r1 .ret))⟩
def z37r0:IC:=.reg [⟨some 2, none,.asg (.c (.slice none 0 0))⟩] [0] []
def Jyh:IC:=.reg [⟨some 4, none,.mv (.t 0)⟩,⟨some 5, none,.call Jkl [(.rd,(.t 4))] true⟩,⟨some 3, none,.asg (.t 5)⟩] [3] []
def Jyn:IC:=.reg [⟨some 6, none,.mv (.t 3)⟩,⟨some 7, none,.call Jqe [(.ld,(.t 6))] false⟩] [3] []
def Jx9:IC:=.reg [⟨some 8, none,.mv (.t 3)⟩,⟨some 9, none,.call Jpt [(.ld,(.t 8))] false⟩] [3] []
def Jyg:IC:=.reg [⟨some 10, none,.mv (.t 3)⟩,⟨some 2, none,.asgm (.t 10)⟩] [2,3] []
def Jw8:Qa4:=⟨[.t 2],[],(.seq z37r0 (.seq Jyh (.seq Jyn (.seq Jx9 (.seq Jyg .ret)))))⟩
def Jye:IC:=.reg [⟨some 6, none,.asg (.c (.bool false))⟩] [0,1,2] []
def z38r1:IC:=.reg [⟨some 7, none,.mv (.t 0)⟩,⟨some 8, none,.mv (.t 1)⟩,⟨some 9, none,.bin .geq (.t 7) (.t 8)⟩,⟨some 10, none,.asg (.t 9)⟩,⟨some 11, (some (10,true)),.mv (.t 0)⟩,⟨some 12, (some (10,true)),.mv (.t 2)⟩,⟨some 13, (some (10,true)),.bin .leq (.t 11) (.t 12)⟩,⟨some 14, none,.pick (.t 10) (.t 13) (.c (.bool false))⟩,⟨some 6, none,.asg (.t 14)⟩] [6] []
def Jvc:Qa4:=⟨[.t 6],[],(.seq Jye (.seq z38r1 .ret))⟩
def Jun:IC:=.reg [⟨some 4, none,.asg (.c (.slice none 0 0))⟩] [0,1] []
def Ju1:IC:=.reg [⟨some 5, none,.asg (.c (.slice none 0 0))⟩] [0,1,5] []
def Jsz:IC:=.reg [⟨some 7, none,.mv (.t 0)⟩,⟨some 8, none,.mv (.c (vi 0))⟩] [1,5,7,8] []
def Jrl:IC:=.reg [⟨some 9, none,.bin .lss (.t 8) (.t 7)⟩] [1,5,7,8,9] []
def Jub:IC:=.reg [⟨some 10, none,.asg (.t 8)⟩,⟨some 6, none,.asg (.t 10)⟩] [1,5,6,7,8] []
def Joe:IC:=.reg [⟨some 11, none,.mv (.t 6)⟩,⟨some 12, none,.mv (.t 1)⟩,⟨some 13, none,.bin .neq (.t 11) (.t 12)⟩] [1,5,6,7,8,13] []
def Jvb:IC:=.reg [⟨some 14, none,.mv (.t 5)⟩,⟨some 15, none,.mv (.t 6)⟩,⟨some 16, none,.bsl 1 [(vi 0)] 1 [(0,(.t 15))]⟩,⟨some 17, none,.app 1 (.t 14) (.t 16)⟩,⟨some 5, none,.asg (.t 17)⟩] [1,5,7,8] []
def Jqd:IC:=.reg [⟨some 18, none,.bin .add (.t 8) (.c (vi 1))⟩,⟨some 8, none,.asg (.t 18)⟩] [1,5,7,8] []
def Jdm:IC:=(.seq Jrl (.seq (.cond (.t 9) .skip (.exit 0)) (.seq (.block 1 (.seq Jub (.seq Joe (.cond (.t 13) Jvb .skip)))) Jqd)))
def Jqo:IC:=.reg [⟨some 19, none,.mv (.t 5)⟩,⟨some 4, none,.asgm (.t 19)⟩] [4,5] []
def Qu6:Qa4:=⟨[.t 4],[],(.seq Jun (.seq Ju1 (.seq (.seq Jsz (.block 0 (.loop Jdm))) (.seq Jqo .ret))))⟩
def Jlc:IC:=.reg [⟨some 4, none,.alloc [(vi 0),(.slice none 0 0)]⟩] [0,1,4] []
def Jth:IC:=.reg [⟨some 6, none,.mv (.t 1)⟩,⟨some 7, none,.call Qtf [(.rd,(.t 6))] true⟩,⟨some 5, none,.asg (.t 7)⟩] [0,4,5] []
def Jpf:IC:=.reg [⟨some 8, none,.mv (.t 5)⟩,⟨some 9, none,.call Qug [(.ld,(.t 8)),(.val,(.f Qzo))] false⟩] [0,4,5] []
def Jnh:IC:=.reg [⟨some 10, none,.mv (.t 0)⟩,⟨some 11, none,.mv (.t 5)⟩,⟨some 12, none,.build [(vi 0),(.slice none 0 0)] [(0,1,(.t 10)),(1,1,(.t 11))]⟩,⟨none,none,.store 2 (.t 4) (.t 12)⟩] [4] []
def Jaf:Qa4:=⟨[.c 4 2 true],[],(.seq Jlc (.seq Jth (.seq Jpf (.seq Jnh .ret))))⟩
def Jyd:IC:=.reg [⟨some 2, none,.asg (.c (vi 0))⟩] [0] []
def Jzq:IC:=.reg [⟨some 3, none,.asg (.c (vi 0))⟩] [0,3] []
def z40r2:IC:=.reg [⟨some 6, none,.mv (.t 0)⟩,⟨some 7, none,.len (.t 6)⟩,⟨some 8, none,.mv (.c (vi 0))⟩] [0,3,6,7,8] []
def z40r3:IC:=.reg [⟨some 9, none,.bin .lss (.t 8) (.t 7)⟩] [0,3,6,7,8,9] []
def Jzw:IC:=.reg [⟨some 10, none,.iadr 1 (.t 6) (.t 8)⟩,⟨some 11, none,.load false 1 (.t 10)⟩,⟨some 5, none,.asg (.t 11)⟩] [0,3,5,6,7,8] []
def z40r5:IC:=.reg [⟨some 12, none,.mv (.t 3)⟩,⟨some 13, none,.mv (.t 5)⟩,⟨some 14, none,.bin .add (.t 12) (.t 13)⟩,⟨some 3, none,.asg (.t 14)⟩] [0,3,6,7,8] []
def Jzk:IC:=.reg [⟨some 15, none,.bin .add (.t 8) (.c (vi 1))⟩,⟨some 8, none,.asg (.t 15)⟩] [0,3,6,7,8] []
def Jkk:IC:=(.seq z40r3 (.seq (.cond (.t 9) .skip (.exit 0)) (.seq (.block 1 (.seq Jzw z40r5)) Jzk)))
def z40r8:IC:=.reg [⟨some 16, none,.mv (.t 3)⟩,⟨some 2, none,.asgm (.t 16)⟩] [2] []
def Jxg:Qa4:=⟨[.t 2],[],(.seq Jyd (.seq Jzq (.seq (.seq z40r2 (.block 0 (.loop Jkk))) (.seq z40r8 .ret))))⟩
def Jq6:IC:=.reg [⟨some 2, none,.asg (.c (.bool false))⟩] [0] []
def Jqh:IC:=.reg [⟨some 9, none,.mv (.t 0)⟩,⟨some 10, none,.len (.t 9)⟩,⟨some 11, none,.bin .gtr (.t 10) (.c (vi 1048576))⟩] [0,11] []
def Jpp:IC:=.reg [⟨some 2, none,.asg (.c (.bool true))⟩] [2] []
def Jrf:IC:=.reg [⟨some 12, none,.mv (.t 0)⟩,⟨some 13, none,.call Qs7 [(.rd,(.t 12))] true⟩,⟨some 3, none,.alloc [(vi 0),(.slice none 0 0)]⟩,⟨none,none,.storef 2 (.t 3) (.t 13)⟩] [3] []
def Jsg:IC:=.reg [⟨some 15, none,.load true 2 (.t 3)⟩,⟨some 16, none,.call Qq0 [(.rd,(.t 15))] true⟩,⟨some 14, none,.asg (.t 16)⟩,⟨some 17, none,.extr (.t 14) 0⟩,⟨some 18, none,.extr (.t 14) 1⟩,⟨some 4, none,.alloc [(vi 0),(.slice none 0 0)]⟩,⟨none,none,.storef 2 (.t 4) (.t 17)⟩,⟨some 5, none,.asg (.t 18)⟩] [3,4,5] []
def Juo:IC:=.reg [⟨some 20, none,.load true 2 (.t 3)⟩,⟨some 21, none,.call Qqy [(.rd,(.t 20))] true⟩,⟨some 19, none,.asg (.t 21)⟩,⟨some 22, none,.extr (.t 19) 0⟩,⟨some 23, none,.extr (.t 19) 1⟩,⟨some 6, none,.alloc [(vi 0),(.slice none 0 0)]⟩,⟨none,none,.storef 2 (.t 6) (.t 22)⟩,⟨some 7, none,.asg (.t 23)⟩] [3,4,5,6,7] []
def Jvv:IC:=.reg [⟨some 24, none,.load true 2 (.t 4)⟩,⟨some 25, none,.load true 2 (.t 6)⟩,⟨some 26, none,.call Qp2 [(.rd,(.t 24)),(.rd,(.t 25))] true⟩,⟨some 27, none,.unop .not (.t 26)⟩,⟨some 28, none,.asg (.t 27)⟩,⟨some 29, (some (28,false)),.mv (.t 5)⟩,⟨some 30, (some (28,false)),.mv (.t 7)⟩,⟨some 31, (some (28,false)),.eqb true (.t 29) (.t 30)⟩,⟨some 32, none,.pick (.t 28) (.c (.bool true)) (.t 31)⟩,⟨some 33, none,.asg (.t 32)⟩,⟨some 34, (some (33,false)),.load true 2 (.t 3)⟩,⟨some 35, (some (33,false)),.call Qui [(.rd,(.t 34))] true⟩,⟨some 36, (some (33,false)),.unop .not (.t 35)⟩,⟨some 37, none,.pick (.t 33) (.c (.bool true)) (.t 36)⟩] [3,4,5,6,7,37] []
def Jwb:IC:=.reg [⟨some 38, none,.load true 2 (.t 4)⟩,⟨some 39, none,.load true 2 (.t 6)⟩,⟨some 40, none,.call Qp2 [(.rd,(.t 38)),(.rd,(.t 39))] true⟩,⟨some 41, none,.asg (.t 40)⟩,⟨some 42, (some (41,true)),.mv (.t 5)⟩,⟨some 43, (some (41,true)),.mv (.t 7)⟩,⟨some 44, (some (41,true)),.eqb false (.t 42) (.t 43)⟩,⟨some 45, none,.pick (.t 41) (.t 44) (.c (.bool false))⟩,⟨some 2, none,.asg (.t 45)⟩] [2] []
def Jr9:IC:=.reg [⟨some 46, none,.load true 2 (.t 3)⟩,⟨some 47, none,.call Qsx [(.rd,(.t 46))] true⟩,⟨some 8, none,.asg (.t 47)⟩] [3,4,5,8] []
def Jqq:IC:=.reg [⟨some 48, none,.mv (.t 5)⟩,⟨some 49, none,.mv (.t 8)⟩,⟨some 50, none,.call Qxc [(.rd,(.t 49))] true⟩,⟨some 51, none,.eqb false (.t 48) (.t 50)⟩,⟨some 52, none,.asg (.t 51)⟩,⟨some 53, (some (52,true)),.mv (.t 5)⟩,⟨some 54, (some (52,true)),.unop .not (.t 53)⟩,⟨some 55, (some (52,true)),.asg (.t 54)⟩,⟨some 56, (some (55,false)),.load true 2 (.t 4)⟩,⟨some 57, (some (55,false)),.call Qqm [(.rd,(.t 56))] true⟩,⟨some 58, (some (55,false)),.asg (.t 57)⟩,⟨some 59, (some (58,true)),.load true 2 (.t 4)⟩,⟨some 60, (some (58,true)),.call Qsx [(.rd,(.t 59))] true⟩,⟨some 61, (some (58,true)),.mv (.t 8)⟩,⟨some 62, (some (58,true)),.call Jsm [(.rd,(.t 60)),(.rd,(.t 61))] true⟩,⟨some 63, (some (55,false)),.pick (.t 58) (.t 62) (.c (.bool false))⟩,⟨some 64, (some (52,true)),.pick (.t 55) (.c (.bool true)) (.t 63)⟩,⟨some 65, none,.pick (.t 52) (.t 64) (.c (.bool false))⟩,
    ⟨some 66, none,.asg (.t 65)⟩,⟨some 67, (some (66,true)),.load true 2 (.t 3)⟩,⟨some 68, (some (66,true)),.call Qqm [(.rd,(.t 67))] true⟩,⟨some 69, (some (66,true)),.unop .not (.t 68)⟩,⟨some 70, (some (66,true)),.asg (.t 69)⟩,⟨some 71, (some (70,false)),.load true 2 (.t 4)⟩,⟨some 72, (some (70,false)),.load true 2 (.t 3)⟩,⟨some 73, (some (70,false)),.call Qp2 [(.rd,(.t 71)),(.rd,(.t 72))] true⟩,⟨some 74, (some (66,true)),.pick (.t 70) (.c (.bool true)) (.t 73)⟩,⟨some 75, none,.pick (.t 66) (.t 74) (.c (.bool false))⟩,⟨some 2, none,.asg (.t 75)⟩] [2] []
def Qmn:Qa4:=⟨[.t 2],[],(.seq Jq6 (.seq (.seq Jqh (.cond (.t 11) (.seq Jpp .ret) .skip)) (.seq Jrf (.seq Jsg (.seq Juo (.seq (.seq Jvv (.cond (.t 37) (.seq Jwb .ret) .skip)) (.seq Jr9 (.seq Jqq .ret))))))))⟩
def Jmp:IC:=.reg [⟨some 4, none,.asg (.c (.bool false))⟩] [0,1] []
def Jsc:IC:=.reg [⟨some 6, none,.mv (.t 0)⟩,⟨some 7, none,.len (.t 6)⟩,⟨some 8, none,.mv (.t 1)⟩,⟨some 9, none,.len (.t 8)⟩,⟨some 10, none,.bin .neq (.t 7) (.t 9)⟩] [0,1,10] []
def Jr7:IC:=.reg [⟨some 4, none,.asg (.c (.bool false))⟩] [4] []
def Jku:IC:=.reg [⟨some 5, none,.asg (.c (vi 0))⟩] [0,1,5] []
def Jni:IC:=.reg [⟨some 11, none,.mv (.t 5)⟩,⟨some 12, none,.mv (.t 0)⟩,⟨some 13, none,.len (.t 12)⟩,⟨some 14, none,.bin .lss (.t 11) (.t 13)⟩] [0,1,5,14] []
def Jk3:IC:=.reg [⟨some 17, none,.mv (.t 0)⟩,⟨some 18, none,.mv (.t 5)⟩,⟨some 19, none,.iadr 2 (.t 17) (.t 18)⟩,⟨some 20, none,.load true 2 (.t 19)⟩,⟨some 21, none,.mv (.t 1)⟩,⟨some 22, none,.mv (.t 5)⟩,⟨some 23, none,.iadr 2 (.t 21) (.t 22)⟩,⟨some 24, none,.load true 2 (.t 23)⟩,⟨some 25, none,.eqa true 2 (.t 20) (.t 24)⟩] [0,1,5,25] []
def Joj:IC:=.reg [⟨some 4, none,.asg (.c (.bool false))⟩] [4] []
def Jsb:IC:=.reg [⟨some 15, none,.mv (.t 5)⟩,⟨some 16, none,.bin .add (.t 15) (.c (vi 1))⟩,⟨some 5, none,.asg (.t 16)⟩] [0,1,5] []
def Jdf:IC:=(.seq (.seq Jni (.cond (.t 14) .skip (.exit 0))) (.seq (.block 1 (.seq Jk3 (.cond (.t 25) (.seq Joj .ret) .skip))) Jsb))
def Jqu:IC:=.reg [⟨some 4, none,.asg (.c (.bool true))⟩] [4] []
def Qjw:Qa4:=⟨[.t 4],[],(.seq Jmp (.seq (.seq Jsc (.cond (.t 10) (.seq Jr7 .ret) .skip)) (.seq (.seq Jku (.block 0 (.loop Jdf))) (.seq Jqu .ret))))⟩
def Jvs:IC:=.reg [⟨some 2, none,.box (.t 0)⟩,⟨some 3, none,.box (.t 1)⟩,⟨some 4, none,.asg (.c (.bool false))⟩] [2,3] []
def Jn2:IC:=.reg [⟨some 5, none,.fadr 0 (.t 2)⟩,⟨some 6, none,.load false 1 (.t 5)⟩,⟨some 7, none,.fadr 0 (.t 3)⟩,⟨some 8, none,.load false 1 (.t 7)⟩,⟨some 9, none,.bin .eql (.t 6) (.t 8)⟩,⟨some 10, none,.asg (.t 9)⟩,⟨some 11, (some (10,true)),.fadr 1 (.t 2)⟩,⟨some 12, (some (10,true)),.load false 1 (.t 11)⟩,⟨some 13, (some (10,true)),.fadr 1 (.t 3)⟩,⟨some 14, (some (10,true)),.load false 1 (.t 13)⟩,⟨some 15, (some (10,true)),.call Qt7 [(.rd,(.t 12)),(.rd,(.t 14))] true⟩,⟨some 16, none,.pick (.t 10) (.t 15) (.c (.bool false))⟩,⟨some 4, none,.asg (.t 16)⟩] [4] []
def Qkl:Qa4:=⟨[.t 4],[],(.seq Jvs (.seq Jn2 .ret))⟩
def z53r0:IC:=.reg [⟨some 4, none,.asg (.c (.bool false))⟩] [0,1] []
def Jyi:IC:=.reg [⟨some 6, none,.mv (.t 0)⟩,⟨some 7, none,.len (.t 6)⟩,⟨some 8, none,.mv (.t 1)⟩,⟨some 9, none,.len (.t 8)⟩,⟨some 10, none,.bin .neq (.t 7) (.t 9)⟩] [0,1,10] []
def z53r2:IC:=.reg [⟨some 4, none,.asg (.c (.bool false))⟩] [4] []
def z53r3:IC:=.reg [⟨some 5, none,.asg (.c (vi 0))⟩] [0,1,5] []
def z53r4:IC:=.reg [⟨some 11, none,.mv (.t 5)⟩,⟨some 12, none,.mv (.t 0)⟩,⟨some 13, none,.len (.t 12)⟩,⟨some 14, none,.bin .lss (.t 11) (.t 13)⟩] [0,1,5,14] []
def z53r5:IC:=.reg [⟨some 17, none,.mv (.t 0)⟩,⟨some 18, none,.mv (.t 5)⟩,⟨some 19, none,.iadr 1 (.t 17) (.t 18)⟩,⟨some 20, none,.load false 1 (.t 19)⟩,⟨some 21, none,.mv (.t 1)⟩,⟨some 22, none,.mv (.t 5)⟩,⟨some 23, none,.iadr 1 (.t 21) (.t 22)⟩,⟨some 24, none,.load false 1 (.t 23)⟩,⟨some 25, none,.bin .neq (.t 20) (.t 24)⟩] [0,1,5,25] []
def z53r6:IC:=.reg [⟨some 4, none,.asg (.c (.bool false))⟩] [4] []
def z53r7:IC:=.reg [⟨some 15, none,.mv (.t 5)⟩,⟨some 16, none,.bin .add (.t 15) (.c (vi 1))⟩,⟨some 5, none,.asg (.t 16)⟩] [0,1,5] []
def Jqc:IC:=(.seq (.seq z53r4 (.cond (.t 14) .skip (.exit 0))) (.seq (.block 1 (.seq z53r5 (.cond (.t 25) (.seq z53r6 .ret) .skip))) z53r7))
def z53r9:IC:=.reg [⟨some 4, none,.asg (.c (.bool true))⟩] [4] []
def Jj0:Qa4:=⟨[.t 4],[],(.seq z53r0 (.seq (.seq Jyi (.cond (.t 10) (.seq z53r2 .ret) .skip)) (.seq (.seq z53r3 (.block 0 (.loop Jqc))) (.seq z53r9 .ret))))⟩
def Jy4:IC:=.reg [⟨some 2, none,.asg (.c (vi 0))⟩] [0] []
def z66r1:IC:=.reg [⟨some 3, none,.mv (.t 0)⟩,⟨some 4, none,.conv .u32 (.t 3)⟩,⟨some 5, none,.call zl67 [(.val,(.t 4))] true⟩,⟨some 2, none,.asg (.t 5)⟩] [2] []
def Jze:IC:=.reg [⟨some 6, none,.mv (.t 0)⟩,⟨some 7, none,.call Jjn [(.val,(.t 6))] true⟩,⟨some 2, none,.asg (.t 7)⟩] [2] []
def Jn5:Qa4:=⟨[.t 2],[],(.seq Jy4 (.seq (.cond (.c (.bool false)) (.seq z66r1 .ret) .skip) (.seq Jze .ret)))⟩
def z68r0:IC:=.reg [⟨some 2, none,.asg (.c (vi 0))⟩] [0,2] []
def z68r1:IC:=.reg [⟨some 3, none,.mv (.t 0)⟩,⟨some 4, none,.bin .geq (.t 3) (.c (.int .u64 (4294967296)))⟩] [0,2,4] []
def z68r2:IC:=.reg [⟨some 5, none,.mv (.t 0)⟩,⟨some 6, none,.bin .shr (.t 5) (.c (.int .u64 (32)))⟩,⟨some 0, none,.asg (.t 6)⟩] [0] []
def Jzf:IC:=.reg [⟨some 2, none,.asg (.c (vi 32))⟩] [0,2] []
def z68r4:IC:=.reg [⟨some 7, none,.mv (.t 0)⟩,⟨some 8, none,.bin .geq (.t 7) (.c (.int .u64 (65536)))⟩] [0,2,8] []
def z68r5:IC:=.reg [⟨some 9, none,.mv (.t 0)⟩,⟨some 10, none,.bin .shr (.t 9) (.c (.int .u64 (16)))⟩,⟨some 0, none,.asg (.t 10)⟩] [0,2] []
def Jz0:IC:=.reg [⟨some 11, none,.mv (.t 2)⟩,⟨some 12, none,.bin .add (.t 11) (.c (vi 16))⟩,⟨some 2, none,.asg (.t 12)⟩] [0,2] []
def z68r7:IC:=.reg [⟨some 13, none,.mv (.t 0)⟩,⟨some 14, none,.bin .geq (.t 13) (.c (.int .u64 (256)))⟩] [0,2,14] []
def Jzn:IC:=.reg [⟨some 15, none,.mv (.t 0)⟩,⟨some 16, none,.bin .shr (.t 15) (.c (.int .u64 (8)))⟩,⟨some 0, none,.asg (.t 16)⟩] [0,2] []
def z68r9:IC:=.reg [⟨some 17, none,.mv (.t 2)⟩,⟨some 18, none,.bin .add (.t 17) (.c (vi 8))⟩,⟨some 2, none,.asg (.t 18)⟩] [0,2] []
def Qwp:IC:=.reg [⟨some 19, none,.mv (.t 2)⟩,⟨some 20, none,.mv (.t 0)⟩,⟨some 21, none,.conv .u8 (.t 20)⟩,⟨some 22, none,.idxs (.c (.string ⟨#[0,1,2,2,3,3,3,3,4,4,4,4,4,4,4,4,5,5,5,5,5,5,5,5,5,5,5,5,5,5,5,5,6,6,6,6,6,6,6,6,6,6,6,6,6,6,6,6,6,6,6,6,6,6,6,6,6,6,6,6,6,6,6,6,7,7,7,7,7,7,7,7,7,7,7,7,7,7,7,7,7,7,7,7,7,7,7,7,7,7,7,7,7,7,7,7,7,7,7,7,7,7,7,7,7,7,7,7,7,7,7,7,7,7,7,7,7,7,7,7,7,7,7,7,7,7,7,7,8,8,8,8,8,8,8,8,8,8,8,8,8,8,8,8,8,8,8,8,8,8,8,8,8,8,8,8,8,8,8,8,8,8,8,8,8,8,8,8,8,8,8,8,8,8,8,8,8,8,8,8,8,8,8,8,8,8,8,8,8,8,8,8,8,8,8,8,8,8,8,8,8,8,8,8,8,8,8,8,8,8,8,8,8,8,8,8,8,8,8,8,8,8,8,8,8,8,8,8,8,8,8,8,8,8,8,8,8,8,8,8,8,8,8,8,8,8,8,8,8,8,8,8,8,8,8,8]⟩)) (.t 21)⟩,⟨some 23, none,.conv .i64 (.t 22)⟩,⟨some 24, none,.bin .add (.t 19) (.t 23)⟩,⟨some 2, none,.asg (.t 24)⟩] [2] []
def Jqz:Qa4:=⟨[.t 2],[],(.seq z68r0 (.seq (.seq z68r1 (.cond (.t 4) (.seq z68r2 Jzf) .skip)) (.seq (.seq z68r4 (.cond (.t 8) (.seq z68r5 Jz0) .skip)) (.seq (.seq z68r7 (.cond (.t 14) (.seq Jzn z68r9) .skip)) (.seq Qwp .ret)))))⟩
def Jn7:IC:=.reg [⟨some 2, none,.asg (.c (.slice none 0 0))⟩] [0] []
def Joy:IC:=.reg [⟨some 3, none,.mv (.t 0)⟩,⟨some 4, none,.mv (.t 0)⟩,⟨some 5, none,.len (.t 4)⟩,⟨some 6, none,.mv (.t 0)⟩,⟨some 7, none,.len (.t 6)⟩,⟨some 8, none,.slc 1 (.t 3) none (some (.t 5)) (some (.t 7))⟩,⟨some 2, none,.asgm (.t 8)⟩] [0,2] []
def Qwy:Qa4:=⟨[.t 2],[],(.seq Jn7 (.seq Joy .ret))⟩
def Jlh:IC:=.reg [⟨some 2, none,.asg (.c (.slice none 0 0))⟩] [0] []
def Jpn:IC:=.reg [⟨some 3, none,.mv (.t 0)⟩,⟨some 4, none,.mv (.t 0)⟩,⟨some 5, none,.len (.t 4)⟩,⟨some 6, none,.mv (.t 0)⟩,⟨some 7, none,.len (.t 6)⟩,⟨some 8, none,.slc 2 (.t 3) none (some (.t 5)) (some (.t 7))⟩,⟨some 2, none,.asgm (.t 8)⟩] [0,2] []
def Jah:Qa4:=⟨[.t 2],[],(.seq Jlh (.seq Jpn .ret))⟩
def z70r0:IC:=.reg [⟨some 2, none,.asg (.c (.slice none 0 0))⟩] [0] []
def z70r1:IC:=.reg [⟨some 3, none,.mv (.t 0)⟩,⟨some 4, none,.mv (.t 0)⟩,⟨some 5, none,.len (.t 4)⟩,⟨some 6, none,.mv (.t 0)⟩,⟨some 7, none,.len (.t 6)⟩,⟨some 8, none,.slc 1 (.t 3) none (some (.t 5)) (some (.t 7))⟩,⟨some 2, none,.asgm (.t 8)⟩] [0,2] []
def Jxz:Qa4:=⟨[.t 2],[],(.seq z70r0 (.seq z70r1 .ret))⟩
def Jv0:IC:=.reg [⟨some 2, none,.nilo 2⟩] [0] []
def Qwd:List IOp:=[⟨some 3, none,.mv (.t 0)⟩]
def Jpa:IC:=.reg [⟨some 2, none,.nilo 2⟩] [2] []
def Jwi:IC:=.reg [⟨some 5, none,.bsl 2 [(vi 0),(vi 0)] 0 []⟩,⟨some 6, none,.mv (.t 0)⟩,⟨some 7, none,.app 2 (.t 5) (.t 6)⟩,⟨some 2, none,.asg (.t 7)⟩] [2] []
def Qy2:Qa4:=⟨[.t 2],[],(.seq Jv0 (.nilc2 Qwd (.t 3) 4 [0,4] (.cond (.t 4) (.seq Jpa .ret) .skip) (.seq Jwi .ret)))⟩
def z71r0:IC:=.reg [⟨some 2, none,.nilo 1⟩] [0] []
def Jj7:List IOp:=[⟨some 3, none,.mv (.t 0)⟩]
def z71r2:IC:=.reg [⟨some 2, none,.nilo 1⟩] [2] []
def Jz5:IC:=.reg [⟨some 5, none,.bsl 1 [(vi 0)] 0 []⟩,⟨some 6, none,.mv (.t 0)⟩,⟨some 7, none,.app 1 (.t 5) (.t 6)⟩,⟨some 2, none,.asg (.t 7)⟩] [2] []
def Jxj:Qa4:=⟨[.t 2],[],(.seq z71r0 (.nilc2 Jj7 (.t 3) 4 [0,4] (.cond (.t 4) (.seq z71r2 .ret) .skip) (.seq Jz5 .ret)))⟩
def z72r0:IC:=.reg [⟨some 4, none,.asg (.c (.bool false))⟩] [0,1] []
def z72r1:IC:=.reg [⟨some 5, none,.mv (.t 0)⟩,⟨some 6, none,.mv (.t 1)⟩,⟨some 7, none,.call Jjm [(.rd,(.t 5)),(.val,(.t 6))] false⟩,⟨some 8, none,.bin .geq (.t 7) (.c (vi 0))⟩,⟨some 4, none,.asg (.t 8)⟩] [4] []
def Jxt:Qa4:=⟨[.t 4],[],(.seq z72r0 (.seq z72r1 .ret))⟩
def Jrr:IC:=.reg [⟨some 3, none,.box (.t 1)⟩,⟨some 4, none,.asg (.c (.bool false))⟩] [0,3] []
def Jm1:IC:=.reg [⟨some 5, none,.mv (.t 0)⟩,⟨some 6, none,.load true 2 (.t 3)⟩,⟨some 7, none,.call Qwu [(.rd,(.t 5)),(.val,(.t 6))] true⟩,⟨some 8, none,.bin .geq (.t 7) (.c (vi 0))⟩,⟨some 4, none,.asg (.t 8)⟩] [4] []
def Jbh:Qa4:=⟨[.t 4],[],(.seq Jrr (.seq Jm1 .ret))⟩
def Jta:IC:=.reg [⟨some 4, none,.asg (.c (.slice none 0 0))⟩] [0,1] []
def Jtb:IC:=.reg [⟨some 8, none,.mv (.t 0)⟩,⟨some 9, none,.mv (.t 1)⟩,⟨some 10, none,.call Qvk [(.ld,(.t 8)),(.val,(.t 9))] false⟩,⟨some 5, none,.asg (.t 10)⟩] [0,1,5] []
def Jv2:IC:=.reg [⟨some 11, none,.mv (.t 5)⟩,⟨some 12, none,.bin .eql (.t 11) (.c (vi (-1)))⟩] [0,1,5,12] []
def Jre:IC:=.reg [⟨some 13, none,.mv (.t 0)⟩,⟨some 4, none,.asgm (.t 13)⟩] [0,4] []
def Jv5:IC:=.reg [⟨some 14, none,.mv (.t 5)⟩,⟨some 15, none,.bin .add (.t 14) (.c (vi 1))⟩,⟨some 6, none,.asg (.t 15)⟩] [0,1,5,6] []
def Jqm:IC:=.reg [⟨some 16, none,.mv (.t 6)⟩,⟨some 17, none,.mv (.t 0)⟩,⟨some 18, none,.len (.t 17)⟩,⟨some 19, none,.bin .lss (.t 16) (.t 18)⟩] [0,1,5,6,19] []
def Jry:IC:=.reg [⟨some 22, none,.mv (.t 0)⟩,⟨some 23, none,.mv (.t 6)⟩,⟨some 24, none,.iadr 2 (.t 22) (.t 23)⟩,⟨some 25, none,.load true 2 (.t 24)⟩,⟨some 7, none,.alloc [(vi 0),(vi 0)]⟩,⟨none,none,.store 2 (.t 7) (.t 25)⟩] [0,1,5,6,7] []
def Jpz:IC:=.reg [⟨some 26, none,.mv (.t 1)⟩,⟨some 27, none,.load true 2 (.t 7)⟩,⟨some 28, none,.callv (.t 26) [(.val,(.t 27))]⟩,⟨some 29, none,.unop .not (.t 28)⟩] [0,1,5,6,7,29] []
def Jl5:IC:=.reg [⟨some 30, none,.mv (.t 0)⟩,⟨some 31, none,.mv (.t 5)⟩,⟨some 32, none,.load true 2 (.t 7)⟩,⟨some 33, none,.iadr 2 (.t 30) (.t 31)⟩,⟨none,none,.store 2 (.t 33) (.t 32)⟩] [0,1,5,6] []
def Jmw:IC:=.reg [⟨some 34, none,.mv (.t 5)⟩,⟨some 35, none,.bin .add (.t 34) (.c (vi 1))⟩,⟨some 5, none,.asg (.t 35)⟩] [0,1,5,6] []
def Jem:IC:=.reg [⟨some 20, none,.mv (.t 6)⟩,⟨some 21, none,.bin .add (.t 20) (.c (vi 1))⟩,⟨some 6, none,.asg (.t 21)⟩] [0,1,5,6] []
def Qxu:IC:=(.seq (.seq Jqm (.cond (.t 19) .skip (.exit 0))) (.seq (.block 1 (.seq Jry (.seq Jpz (.cond (.t 29) (.seq Jl5 Jmw) .skip)))) Jem))
def Jf2:IC:=.reg [⟨some 36, none,.mv (.t 0)⟩,⟨some 37, none,.mv (.t 5)⟩,⟨some 38, none,.slc 2 (.t 36) (some (.t 37)) none none⟩,⟨none,none,.clr (.t 38) [(vi 0),(vi 0)]⟩] [0,5] []
def Je4:IC:=.reg [⟨some 39, none,.mv (.t 0)⟩,⟨some 40, none,.mv (.t 5)⟩,⟨some 41, none,.slc 2 (.t 39) none (some (.t 40)) none⟩,⟨some 4, none,.asgm (.t 41)⟩] [0,4] []
def Qv1:Qa4:=⟨[.t 4],[],(.seq Jta (.seq Jtb (.seq (.seq Jv2 (.cond (.t 12) (.seq Jre .ret) .skip)) (.seq (.seq Jv5 (.block 0 (.loop Qxu))) (.seq Jf2 (.seq Je4 .ret))))))⟩
def Jrg:IC:=.reg [⟨some 4, none,.asg (.c (vi 0))⟩] [0,1] []
def Jrn:IC:=.reg [⟨some 6, none,.mv (.t 0)⟩,⟨some 7, none,.len (.t 6)⟩,⟨some 8, none,.mv (.c (vi 0))⟩] [0,1,7,8] []
def Jpj:IC:=.reg [⟨some 9, none,.bin .lss (.t 8) (.t 7)⟩] [0,1,7,8,9] []
def Jk2:IC:=.reg [⟨some 10, none,.asg (.t 8)⟩,⟨some 5, none,.asg (.t 10)⟩] [0,1,5,7,8] []
def Jmv:IC:=.reg [⟨some 11, none,.mv (.t 1)⟩,⟨some 12, none,.mv (.t 0)⟩,⟨some 13, none,.mv (.t 5)⟩,⟨some 14, none,.iadr 2 (.t 12) (.t 13)⟩,⟨some 15, none,.load true 2 (.t 14)⟩,⟨some 16, none,.callv (.t 11) [(.val,(.t 15))]⟩] [0,1,5,7,8,16] []
def Jwp:IC:=.reg [⟨some 17, none,.mv (.t 5)⟩,⟨some 4, none,.asgm (.t 17)⟩] [4] []
def Jnx:IC:=.reg [⟨some 18, none,.bin .add (.t 8) (.c (vi 1))⟩,⟨some 8, none,.asg (.t 18)⟩] [0,1,7,8] []
def Jd0:IC:=(.seq Jpj (.seq (.cond (.t 9) .skip (.exit 0)) (.seq (.block 1 (.seq Jk2 (.seq Jmv (.cond (.t 16) (.seq Jwp .ret) .skip)))) Jnx)))
def Jlg:IC:=.reg [⟨some 4, none,.asg (.c (vi (-1)))⟩] [4] []
def Qx9:Qa4:=⟨[.t 4],[],(.seq Jrg (.seq (.seq Jrn (.block 0 (.loop Jd0))) (.seq Jlg .ret)))⟩
def Jpi:IC:=.reg [⟨some 4, none,.asg (.c (vi 0))⟩] [0,1] []
def Jqy:IC:=.reg [⟨some 6, none,.mv (.t 0)⟩,⟨some 7, none,.len (.t 6)⟩,⟨some 8, none,.mv (.c (vi 0))⟩] [0,1,7,8] []
def Jtg:IC:=.reg [⟨some 9, none,.bin .lss (.t 8) (.t 7)⟩] [0,1,7,8,9] []
def Jtd:IC:=.reg [⟨some 10, none,.asg (.t 8)⟩,⟨some 5, none,.asg (.t 10)⟩] [0,1,5,7,8] []
def Jqr:IC:=.reg [⟨some 11, none,.mv (.t 1)⟩,⟨some 12, none,.mv (.t 0)⟩,⟨some 13, none,.mv (.t 5)⟩,⟨some 14, none,.iadr 2 (.t 12) (.t 13)⟩,⟨some 15, none,.load true 2 (.t 14)⟩,⟨some 16, none,.callv (.t 11) [(.val,(.t 15))]⟩] [0,1,5,7,8,16] []
def Juk:IC:=.reg [⟨some 17, none,.mv (.t 5)⟩,⟨some 4, none,.asgm (.t 17)⟩] [0,4] []
def Jui:IC:=.reg [⟨some 18, none,.bin .add (.t 8) (.c (vi 1))⟩,⟨some 8, none,.asg (.t 18)⟩] [0,1,7,8] []
def Jc2:IC:=(.seq Jtg (.seq (.cond (.t 9) .skip (.exit 0)) (.seq (.block 1 (.seq Jtd (.seq Jqr (.cond (.t 16) (.seq Juk .ret) .skip)))) Jui)))
def Jwq:IC:=.reg [⟨some 4, none,.asg (.c (vi (-1)))⟩] [0,4] []
def Qus:Qa4:=⟨[.t 4],[0],(.seq Jpi (.seq (.seq Jqy (.block 0 (.loop Jc2))) (.seq Jwq .ret)))⟩
def z73r0:IC:=.reg [⟨some 4, none,.asg (.c (vi 0))⟩] [0,1] []
def Jy9:IC:=.reg [⟨some 6, none,.mv (.t 0)⟩,⟨some 7, none,.len (.t 6)⟩,⟨some 8, none,.mv (.c (vi 0))⟩] [0,1,7,8] []
def z73r2:IC:=.reg [⟨some 9, none,.bin .lss (.t 8) (.t 7)⟩] [0,1,7,8,9] []
def z73r3:IC:=.reg [⟨some 10, none,.asg (.t 8)⟩,⟨some 5, none,.asg (.t 10)⟩] [0,1,5,7,8] []
def Jz8:IC:=.reg [⟨some 11, none,.mv (.t 1)⟩,⟨some 12, none,.mv (.t 0)⟩,⟨some 13, none,.mv (.t 5)⟩,⟨some 14, none,.iadr 1 (.t 12) (.t 13)⟩,⟨some 15, none,.load false 1 (.t 14)⟩,⟨some 16, none,.callv (.t 11) [(.val,(.t 15))]⟩] [0,1,5,7,8,16] []
def z73r5:IC:=.reg [⟨some 17, none,.mv (.t 5)⟩,⟨some 4, none,.asgm (.t 17)⟩] [4] []
def z73r6:IC:=.reg [⟨some 18, none,.bin .add (.t 8) (.c (vi 1))⟩,⟨some 8, none,.asg (.t 18)⟩] [0,1,7,8] []
def Jp2:IC:=(.seq z73r2 (.seq (.cond (.t 9) .skip (.exit 0)) (.seq (.block 1 (.seq z73r3 (.seq Jz8 (.cond (.t 16) (.seq z73r5 .ret) .skip)))) z73r6)))
def z73r8:IC:=.reg [⟨some 4, none,.asg (.c (vi (-1)))⟩] [4] []
def Jr8:Qa4:=⟨[.t 4],[],(.seq z73r0 (.seq (.seq Jy9 (.block 0 (.loop Jp2))) (.seq z73r8 .ret)))⟩
def Jrt:IC:=.reg [⟨some 3, none,.box (.t 1)⟩,⟨some 4, none,.asg (.c (vi 0))⟩] [0,3] []
def Jkw:IC:=.reg [⟨some 6, none,.mv (.t 0)⟩,⟨some 7, none,.len (.t 6)⟩,⟨some 8, none,.mv (.c (vi 0))⟩] [0,3,7,8] []
def Jnt:IC:=.reg [⟨some 9, none,.bin .lss (.t 8) (.t 7)⟩] [0,3,7,8,9] []
def Jko:IC:=.reg [⟨some 10, none,.asg (.t 8)⟩,⟨some 5, none,.asg (.t 10)⟩] [0,3,5,7,8] []
def Jj9:IC:=.reg [⟨some 11, none,.load true 2 (.t 3)⟩,⟨some 12, none,.mv (.t 0)⟩,⟨some 13, none,.mv (.t 5)⟩,⟨some 14, none,.iadr 2 (.t 12) (.t 13)⟩,⟨some 15, none,.load true 2 (.t 14)⟩,⟨some 16, none,.eqa false 2 (.t 11) (.t 15)⟩] [0,3,5,7,8,16] []
def Jto:IC:=.reg [⟨some 17, none,.mv (.t 5)⟩,⟨some 4, none,.asgm (.t 17)⟩] [4] []
def Jtt:IC:=.reg [⟨some 18, none,.bin .add (.t 8) (.c (vi 1))⟩,⟨some 8, none,.asg (.t 18)⟩] [0,3,7,8] []
def Jc9:IC:=(.seq Jnt (.seq (.cond (.t 9) .skip (.exit 0)) (.seq (.block 1 (.seq Jko (.seq Jj9 (.cond (.t 16) (.seq Jto .ret) .skip)))) Jtt)))
def Jsq:IC:=.reg [⟨some 4, none,.asg (.c (vi (-1)))⟩] [4] []
def Qxv:Qa4:=⟨[.t 4],[],(.seq Jrt (.seq (.seq Jkw (.block 0 (.loop Jc9))) (.seq Jsq .ret)))⟩
def z75r0:IC:=.reg [⟨some 2, none,.asg (.c (vi 0))⟩] [0] []
def z75r1:IC:=.reg [⟨some 5, none,.mv (.t 0)⟩,⟨some 6, none,.len (.t 5)⟩,⟨some 7, none,.bin .lss (.t 6) (.c (vi 1))⟩] [0,7] []
def z75r2:IC:=.reg [⟨some 8, none,.halt⟩,⟨none,none,.halt⟩] [0] []
def z75r3:IC:=.reg [⟨some 9, none,.mv (.t 0)⟩,⟨some 10, none,.iadr 1 (.t 9) (.c (vi 0))⟩,⟨some 11, none,.load false 1 (.t 10)⟩,⟨some 3, none,.asg (.t 11)⟩] [0,3] []
def Jzs:IC:=.reg [⟨some 4, none,.asg (.c (vi 1))⟩] [0,3,4] []
def z75r5:IC:=.reg [⟨some 12, none,.mv (.t 4)⟩,⟨some 13, none,.mv (.t 0)⟩,⟨some 14, none,.len (.t 13)⟩,⟨some 15, none,.bin .lss (.t 12) (.t 14)⟩] [0,3,4,15] []
def Jy6:IC:=.reg [⟨some 18, none,.mv (.t 3)⟩,⟨some 19, none,.mv (.t 0)⟩,⟨some 20, none,.mv (.t 4)⟩,⟨some 21, none,.iadr 1 (.t 19) (.t 20)⟩,⟨some 22, none,.load false 1 (.t 21)⟩,⟨some 23, none,.minmax true (.t 18) (.t 22)⟩,⟨some 3, none,.asg (.t 23)⟩] [0,3,4] []
def Jym:IC:=.reg [⟨some 16, none,.mv (.t 4)⟩,⟨some 17, none,.bin .add (.t 16) (.c (vi 1))⟩,⟨some 4, none,.asg (.t 17)⟩] [0,3,4] []
def Jl9:IC:=(.seq (.seq z75r5 (.cond (.t 15) .skip (.exit 0))) (.seq (.block 1 Jy6) Jym))
def z75r9:IC:=.reg [⟨some 24, none,.mv (.t 3)⟩,⟨some 2, none,.asgm (.t 24)⟩] [2] []
def Jw3:Qa4:=⟨[.t 2],[],(.seq z75r0 (.seq (.seq z75r1 (.cond (.t 7) z75r2 .skip)) (.seq z75r3 (.seq (.seq Jzs (.block 0 (.loop Jl9))) (.seq z75r9 .ret)))))⟩
def z76r0:IC:=.reg [⟨some 4, none,.mv (.t 0)⟩,⟨some 5, none,.len (.t 4)⟩,⟨some 6, none,.bin .sub (.t 5) (.c (vi 1))⟩,⟨some 2, none,.asg (.c (vi 0))⟩,⟨some 3, none,.asg (.t 6)⟩] [0,2,3] []
def Jzc:IC:=.reg [⟨some 7, none,.mv (.t 2)⟩,⟨some 8, none,.mv (.t 3)⟩,⟨some 9, none,.bin .lss (.t 7) (.t 8)⟩] [0,2,3,9] []
def z76r2:IC:=.reg [⟨some 14, none,.mv (.t 0)⟩,⟨some 15, none,.mv (.t 2)⟩,⟨some 16, none,.mv (.t 0)⟩,⟨some 17, none,.mv (.t 3)⟩,⟨some 18, none,.mv (.t 0)⟩,⟨some 19, none,.mv (.t 3)⟩,⟨some 20, none,.iadr 1 (.t 18) (.t 19)⟩,⟨some 21, none,.load false 1 (.t 20)⟩,⟨some 22, none,.mv (.t 0)⟩,⟨some 23, none,.mv (.t 2)⟩,⟨some 24, none,.iadr 1 (.t 22) (.t 23)⟩,⟨some 25, none,.load false 1 (.t 24)⟩,⟨some 26, none,.iadr 1 (.t 14) (.t 15)⟩,⟨none,none,.store 1 (.t 26) (.t 21)⟩,⟨some 27, none,.iadr 1 (.t 16) (.t 17)⟩,⟨none,none,.store 1 (.t 27) (.t 25)⟩] [0,2,3] []
def z76r3:IC:=.reg [⟨some 10, none,.mv (.t 2)⟩,⟨some 11, none,.bin .add (.t 10) (.c (vi 1))⟩,⟨some 12, none,.mv (.t 3)⟩,⟨some 13, none,.bin .sub (.t 12) (.c (vi 1))⟩,⟨some 2, none,.asg (.t 11)⟩,⟨some 3, none,.asg (.t 13)⟩] [0,2,3] []
def Ju6:IC:=(.seq (.seq Jzc (.cond (.t 9) .skip (.exit 0))) (.seq (.block 1 z76r2) z76r3))
def Jxh:Qa4:=⟨[],[0],(.seq z76r0 (.block 0 (.loop Ju6)))⟩
def Jww:IC:=.reg [⟨some 5, none,.mv (.t 0)⟩,⟨some 6, none,.len (.t 5)⟩,⟨some 4, none,.asg (.t 6)⟩] [0,1,4] []
def Jka:IC:=.reg [⟨some 7, none,.mv (.t 0)⟩,⟨some 8, none,.mv (.t 4)⟩,⟨some 9, none,.mv (.t 4)⟩,⟨some 10, none,.conv .u64 (.t 9)⟩,⟨some 11, none,.call Jd3 [(.val,(.t 10))] true⟩,⟨some 12, none,.mv (.t 1)⟩,⟨some 13, none,.call Qmz [(.ld,(.t 7)),(.val,(.c (vi 0))),(.val,(.t 8)),(.val,(.t 11)),(.val,(.t 12))] false⟩] [0] []
def Jcw:Qa4:=⟨[],[0],(.seq Jww Jka)⟩
def Jyu:IC:=.reg [⟨some 3, none,.mv (.t 0)⟩,⟨some 4, none,.len (.t 3)⟩,⟨some 2, none,.asg (.t 4)⟩] [0,2] []
def Jyr:IC:=.reg [⟨some 5, none,.mv (.t 0)⟩,⟨some 6, none,.mv (.t 2)⟩,⟨some 7, none,.mv (.t 2)⟩,⟨some 8, none,.conv .u64 (.t 7)⟩,⟨some 9, none,.call Jd3 [(.val,(.t 8))] true⟩,⟨some 10, none,.call Qpu [(.ld,(.t 5)),(.val,(.c (vi 0))),(.val,(.t 6)),(.val,(.t 9))] false⟩] [0] []
def Jxm:Qa4:=⟨[],[0],(.seq Jyu Jyr)⟩
def Ju0:IC:=.reg [⟨some 13, none,.mv (.t 2)⟩,⟨some 14, none,.mv (.t 1)⟩,⟨some 15, none,.bin .sub (.t 13) (.t 14)⟩,⟨some 8, none,.asg (.t 15)⟩] [0,1,8] []
def Jt0:IC:=.reg [⟨some 16, none,.mv (.t 8)⟩,⟨some 17, none,.bin .geq (.t 16) (.c (vi 8))⟩] [0,1,8,17] []
def Jms:IC:=.reg [⟨some 18, none,.mv (.t 8)⟩,⟨some 19, none,.conv .u64 (.t 18)⟩,⟨some 9, none,.alloc [(.int .u64 (0))]⟩,⟨none,none,.store 1 (.t 9) (.t 19)⟩] [0,1,8,9] []
def Jra:IC:=.reg [⟨some 20, none,.mv (.t 8)⟩,⟨some 21, none,.call Jl1 [(.val,(.t 20))] true⟩,⟨some 10, none,.asg (.t 21)⟩] [0,1,8,9,10] []
def Jok:IC:=.reg [⟨some 22, none,.mv (.t 1)⟩,⟨some 23, none,.mv (.t 8)⟩,⟨some 24, none,.bin .quo (.t 23) (.c (vi 4))⟩,⟨some 25, none,.bin .mul (.t 24) (.c (vi 2))⟩,⟨some 26, none,.bin .add (.t 22) (.t 25)⟩,⟨some 27, none,.bin .sub (.t 26) (.c (vi 1))⟩,⟨some 11, none,.asg (.t 27)⟩] [0,1,8,9,10,11] []
def Jmi:IC:=.reg [⟨some 28, none,.mv (.t 11)⟩,⟨some 29, none,.mv (.t 1)⟩,⟨some 30, none,.mv (.t 8)⟩,⟨some 31, none,.bin .quo (.t 30) (.c (vi 4))⟩,⟨some 32, none,.bin .mul (.t 31) (.c (vi 2))⟩,⟨some 33, none,.bin .add (.t 29) (.t 32)⟩,⟨some 34, none,.bin .add (.t 33) (.c (vi 1))⟩,⟨some 35, none,.bin .leq (.t 28) (.t 34)⟩] [0,1,8,9,10,11,35] []
def Jnz:IC:=.reg [⟨some 38, none,.call Qu2 [(.val,(.t 9))] false⟩,⟨some 39, none,.mv (.t 10)⟩,⟨some 40, none,.bin .sub (.t 39) (.c (.int .u64 (1)))⟩,⟨some 41, none,.bin .and (.t 38) (.t 40)⟩,⟨some 42, none,.conv .i64 (.t 41)⟩,⟨some 12, none,.asg (.t 42)⟩] [0,1,8,9,10,11,12] []
def Jmd:IC:=.reg [⟨some 43, none,.mv (.t 12)⟩,⟨some 44, none,.mv (.t 8)⟩,⟨some 45, none,.bin .geq (.t 43) (.t 44)⟩] [0,1,8,9,10,11,12,45] []
def Jwd:IC:=.reg [⟨some 46, none,.mv (.t 12)⟩,⟨some 47, none,.mv (.t 8)⟩,⟨some 48, none,.bin .sub (.t 46) (.t 47)⟩,⟨some 12, none,.asg (.t 48)⟩] [0,1,8,9,10,11,12] []
def Jml:IC:=.reg [⟨some 49, none,.mv (.t 0)⟩,⟨some 50, none,.mv (.t 11)⟩,⟨some 51, none,.mv (.t 0)⟩,⟨some 52, none,.mv (.t 1)⟩,⟨some 53, none,.mv (.t 12)⟩,⟨some 54, none,.bin .add (.t 52) (.t 53)⟩,⟨some 55, none,.mv (.t 0)⟩,⟨some 56, none,.mv (.t 1)⟩,⟨some 57, none,.mv (.t 12)⟩,⟨some 58, none,.bin .add (.t 56) (.t 57)⟩,⟨some 59, none,.iadr 2 (.t 55) (.t 58)⟩,⟨some 60, none,.load true 2 (.t 59)⟩,⟨some 61, none,.mv (.t 0)⟩,⟨some 62, none,.mv (.t 11)⟩,⟨some 63, none,.iadr 2 (.t 61) (.t 62)⟩,⟨some 64, none,.load true 2 (.t 63)⟩,⟨some 65, none,.iadr 2 (.t 49) (.t 50)⟩,⟨none,none,.store 2 (.t 65) (.t 60)⟩,⟨some 66, none,.iadr 2 (.t 51) (.t 54)⟩,⟨none,none,.store 2 (.t 66) (.t 64)⟩] [0,1,8,9,10,11] []
def Jd7:IC:=.reg [⟨some 36, none,.mv (.t 11)⟩,⟨some 37, none,.bin .add (.t 36) (.c (vi 1))⟩,⟨some 11, none,.asg (.t 37)⟩] [0,1,8,9,10,11] []
def Qvn:IC:=(.seq (.seq Jmi (.cond (.t 35) .skip (.exit 0))) (.seq (.block 1 (.seq Jnz (.seq (.seq Jmd (.cond (.t 45) Jwd .skip)) Jml))) Jd7))
def Jch:Qa4:=⟨[],[0],(.seq Ju0 (.seq Jt0 (.cond (.t 17) (.seq Jms (.seq Jra (.seq Jok (.block 0 (.loop Qvn))))) .skip)))⟩
def Jpe:IC:=.reg [⟨some 8, none,.asg (.c (vi 0))⟩,⟨some 9, none,.asg (.c (vi 0))⟩] [0,1,2,3] []
def Jnj:IC:=.reg [⟨some 15, none,.mv (.t 2)⟩,⟨some 16, none,.mv (.t 1)⟩,⟨some 17, none,.bin .sub (.t 15) (.t 16)⟩,⟨some 10, none,.asg (.t 17)⟩] [0,1,3,10] []
def Jsr:IC:=.reg [⟨some 11, none,.alloc [(vi 0)]⟩] [0,1,3,10,11] []
def Jkm:IC:=.reg [⟨some 18, none,.mv (.t 1)⟩,⟨some 19, none,.mv (.t 10)⟩,⟨some 20, none,.bin .quo (.t 19) (.c (vi 4))⟩,⟨some 21, none,.bin .mul (.t 20) (.c (vi 1))⟩,⟨some 22, none,.bin .add (.t 18) (.t 21)⟩,⟨some 12, none,.asg (.t 22)⟩] [0,1,3,10,11,12] []
def Jow:IC:=.reg [⟨some 23, none,.mv (.t 1)⟩,⟨some 24, none,.mv (.t 10)⟩,⟨some 25, none,.bin .quo (.t 24) (.c (vi 4))⟩,⟨some 26, none,.bin .mul (.t 25) (.c (vi 2))⟩,⟨some 27, none,.bin .add (.t 23) (.t 26)⟩,⟨some 13, none,.asg (.t 27)⟩] [0,1,3,10,11,12,13] []
def Jnv:IC:=.reg [⟨some 28, none,.mv (.t 1)⟩,⟨some 29, none,.mv (.t 10)⟩,⟨some 30, none,.bin .quo (.t 29) (.c (vi 4))⟩,⟨some 31, none,.bin .mul (.t 30) (.c (vi 3))⟩,⟨some 32, none,.bin .add (.t 28) (.t 31)⟩,⟨some 14, none,.asg (.t 32)⟩] [0,3,10,11,12,13,14] []
def Js8:IC:=.reg [⟨some 33, none,.mv (.t 10)⟩,⟨some 34, none,.bin .geq (.t 33) (.c (vi 8))⟩] [0,3,10,11,12,13,14,34] []
def Jug:IC:=.reg [⟨some 35, none,.mv (.t 10)⟩,⟨some 36, none,.bin .geq (.t 35) (.c (vi 50))⟩] [0,3,11,12,13,14,36] []
def Jr6:IC:=.reg [⟨some 37, none,.mv (.t 0)⟩,⟨some 38, none,.mv (.t 12)⟩,⟨some 39, none,.mv (.t 3)⟩,⟨some 40, none,.call Ja9 [(.ld,(.t 37)),(.val,(.t 38)),(.val,(.t 11)),(.val,(.t 39))] false⟩,⟨some 12, none,.asg (.t 40)⟩] [0,3,11,12,13,14] []
def Jme:IC:=.reg [⟨some 41, none,.mv (.t 0)⟩,⟨some 42, none,.mv (.t 13)⟩,⟨some 43, none,.mv (.t 3)⟩,⟨some 44, none,.call Ja9 [(.ld,(.t 41)),(.val,(.t 42)),(.val,(.t 11)),(.val,(.t 43))] false⟩,⟨some 13, none,.asg (.t 44)⟩] [0,3,11,12,13,14] []
def Jfp:IC:=.reg [⟨some 45, none,.mv (.t 0)⟩,⟨some 46, none,.mv (.t 14)⟩,⟨some 47, none,.mv (.t 3)⟩,⟨some 48, none,.call Ja9 [(.ld,(.t 45)),(.val,(.t 46)),(.val,(.t 11)),(.val,(.t 47))] false⟩,⟨some 14, none,.asg (.t 48)⟩] [0,3,11,12,13,14] []
def Jgj:IC:=.reg [⟨some 49, none,.mv (.t 0)⟩,⟨some 50, none,.mv (.t 12)⟩,⟨some 51, none,.mv (.t 13)⟩,⟨some 52, none,.mv (.t 14)⟩,⟨some 53, none,.mv (.t 3)⟩,⟨some 54, none,.call Qy8 [(.ld,(.t 49)),(.val,(.t 50)),(.val,(.t 51)),(.val,(.t 52)),(.val,(.t 11)),(.val,(.t 53))] false⟩,⟨some 13, none,.asg (.t 54)⟩] [0,11,13] []
def Jhz:IC:=.reg [⟨some 55, none,.load false 1 (.t 11)⟩] [0,13,55] []
def Jes:IC:=.reg [⟨some 58, none,.bin .eql (.t 55) (.c (vi 0))⟩,⟨some 57, none,.asg (.t 58)⟩] [0,13,55,57] []
def Jh9:IC:=.reg [⟨some 59, none,.mv (.t 13)⟩,⟨some 8, none,.asgm (.t 59)⟩,⟨some 9, none,.asg (.c (vi 1))⟩] [0,8,9] []
def Jfg:IC:=.reg [⟨some 61, none,.bin .eql (.t 55) (.c (vi 12))⟩,⟨some 60, none,.asg (.t 61)⟩] [0,13,60] []
def Jhu:IC:=.reg [⟨some 62, none,.mv (.t 13)⟩,⟨some 8, none,.asgm (.t 62)⟩,⟨some 9, none,.asg (.c (vi 2))⟩] [0,8,9] []
def Jep:IC:=.reg [⟨some 56, none,.mv (.t 13)⟩,⟨some 8, none,.asgm (.t 56)⟩,⟨some 9, none,.asg (.c (vi 0))⟩] [0,8,9] []
def Qu3:Qa4:=⟨[.t 8,.t 9],[0],(.seq Jpe (.seq Jnj (.seq Jsr (.seq Jkm (.seq Jow (.seq Jnv (.seq (.seq Js8 (.cond (.t 34) (.seq (.seq Jug (.cond (.t 36) (.seq Jr6 (.seq Jme Jfp)) .skip)) Jgj) .skip)) (.seq Jhz (.block 0 (.seq Jes (.cond (.t 57) (.seq Jh9 .ret) (.seq Jfg (.cond (.t 60) (.seq Jhu .ret) (.seq Jep .ret))))))))))))))⟩
def Jpy:IC:=.reg [⟨some 10, none,.mv (.t 1)⟩,⟨some 11, none,.bin .add (.t 10) (.c (vi 1))⟩,⟨some 8, none,.asg (.t 11)⟩] [0,1,2,3,8] []
def Jrk:IC:=.reg [⟨some 12, none,.mv (.t 8)⟩,⟨some 13, none,.mv (.t 2)⟩,⟨some 14, none,.bin .lss (.t 12) (.t 13)⟩] [0,1,2,3,8,14] []
def Jm8:IC:=.reg [⟨some 17, none,.mv (.t 8)⟩,⟨some 9, none,.asg (.t 17)⟩] [0,1,2,3,8,9] []
def Jwh:IC:=.reg [⟨some 18, none,.mv (.t 9)⟩,⟨some 19, none,.mv (.t 1)⟩,⟨some 20, none,.bin .gtr (.t 18) (.t 19)⟩,⟨some 21, none,.asg (.t 20)⟩,⟨some 22, (some (21,true)),.mv (.t 3)⟩,⟨some 23, (some (21,true)),.mv (.t 0)⟩,⟨some 24, (some (21,true)),.mv (.t 9)⟩,⟨some 25, (some (21,true)),.iadr 2 (.t 23) (.t 24)⟩,⟨some 26, (some (21,true)),.load true 2 (.t 25)⟩,⟨some 27, (some (21,true)),.mv (.t 0)⟩,⟨some 28, (some (21,true)),.mv (.t 9)⟩,⟨some 29, (some (21,true)),.bin .sub (.t 28) (.c (vi 1))⟩,⟨some 30, (some (21,true)),.iadr 2 (.t 27) (.t 29)⟩,⟨some 31, (some (21,true)),.load true 2 (.t 30)⟩,⟨some 32, (some (21,true)),.callv (.t 22) [(.val,(.t 26)),(.val,(.t 31))]⟩,⟨some 33, (some (21,true)),.bin .lss (.t 32) (.c (vi 0))⟩,⟨some 34, none,.pick (.t 21) (.t 33) (.c (.bool false))⟩] [0,1,2,3,8,9,34] []
def Jsj:IC:=.reg [⟨some 37, none,.mv (.t 0)⟩,⟨some 38, none,.mv (.t 9)⟩,⟨some 39, none,.mv (.t 0)⟩,⟨some 40, none,.mv (.t 9)⟩,⟨some 41, none,.bin .sub (.t 40) (.c (vi 1))⟩,⟨some 42, none,.mv (.t 0)⟩,⟨some 43, none,.mv (.t 9)⟩,⟨some 44, none,.bin .sub (.t 43) (.c (vi 1))⟩,⟨some 45, none,.iadr 2 (.t 42) (.t 44)⟩,⟨some 46, none,.load true 2 (.t 45)⟩,⟨some 47, none,.mv (.t 0)⟩,⟨some 48, none,.mv (.t 9)⟩,⟨some 49, none,.iadr 2 (.t 47) (.t 48)⟩,⟨some 50, none,.load true 2 (.t 49)⟩,⟨some 51, none,.iadr 2 (.t 37) (.t 38)⟩,⟨none,none,.store 2 (.t 51) (.t 46)⟩,⟨some 52, none,.iadr 2 (.t 39) (.t 41)⟩,⟨none,none,.store 2 (.t 52) (.t 50)⟩] [0,1,2,3,8,9] []
def Jw0:IC:=.reg [⟨some 35, none,.mv (.t 9)⟩,⟨some 36, none,.bin .sub (.t 35) (.c (vi 1))⟩,⟨some 9, none,.asg (.t 36)⟩] [0,1,2,3,8,9] []
def Jde:IC:=(.seq (.seq Jwh (.cond (.t 34) .skip (.exit 2))) (.seq (.block 3 Jsj) Jw0))
def Jlw:IC:=.reg [⟨some 15, none,.mv (.t 8)⟩,⟨some 16, none,.bin .add (.t 15) (.c (vi 1))⟩,⟨some 8, none,.asg (.t 16)⟩] [0,1,2,3,8] []
def Jd2:IC:=(.seq (.seq Jrk (.cond (.t 14) .skip (.exit 0))) (.seq (.block 1 (.seq Jm8 (.block 2 (.loop Jde)))) Jlw))
def Qx8:Qa4:=⟨[],[0],(.seq Jpy (.block 0 (.loop Jd2)))⟩
def z86r0:IC:=.reg [⟨some 8, none,.mv (.t 1)⟩,⟨some 9, none,.bin .add (.t 8) (.c (vi 1))⟩,⟨some 6, none,.asg (.t 9)⟩] [0,1,2,6] []
def z86r1:IC:=.reg [⟨some 10, none,.mv (.t 6)⟩,⟨some 11, none,.mv (.t 2)⟩,⟨some 12, none,.bin .lss (.t 10) (.t 11)⟩] [0,1,2,6,12] []
def z86r2:IC:=.reg [⟨some 15, none,.mv (.t 6)⟩,⟨some 7, none,.asg (.t 15)⟩] [0,1,2,6,7] []
def z86r3:IC:=.reg [⟨some 16, none,.mv (.t 7)⟩,⟨some 17, none,.mv (.t 1)⟩,⟨some 18, none,.bin .gtr (.t 16) (.t 17)⟩,⟨some 19, none,.asg (.t 18)⟩,⟨some 20, (some (19,true)),.mv (.t 0)⟩,⟨some 21, (some (19,true)),.mv (.t 7)⟩,⟨some 22, (some (19,true)),.iadr 1 (.t 20) (.t 21)⟩,⟨some 23, (some (19,true)),.load false 1 (.t 22)⟩,⟨some 24, (some (19,true)),.mv (.t 0)⟩,⟨some 25, (some (19,true)),.mv (.t 7)⟩,⟨some 26, (some (19,true)),.bin .sub (.t 25) (.c (vi 1))⟩,⟨some 27, (some (19,true)),.iadr 1 (.t 24) (.t 26)⟩,⟨some 28, (some (19,true)),.load false 1 (.t 27)⟩,⟨some 29, (some (19,true)),.call zl2 [(.val,(.t 23)),(.val,(.t 28))] true⟩,⟨some 30, none,.pick (.t 19) (.t 29) (.c (.bool false))⟩] [0,1,2,6,7,30] []
def z86r4:IC:=.reg [⟨some 33, none,.mv (.t 0)⟩,⟨some 34, none,.mv (.t 7)⟩,⟨some 35, none,.mv (.t 0)⟩,⟨some 36, none,.mv (.t 7)⟩,⟨some 37, none,.bin .sub (.t 36) (.c (vi 1))⟩,⟨some 38, none,.mv (.t 0)⟩,⟨some 39, none,.mv (.t 7)⟩,⟨some 40, none,.bin .sub (.t 39) (.c (vi 1))⟩,⟨some 41, none,.iadr 1 (.t 38) (.t 40)⟩,⟨some 42, none,.load false 1 (.t 41)⟩,⟨some 43, none,.mv (.t 0)⟩,⟨some 44, none,.mv (.t 7)⟩,⟨some 45, none,.iadr 1 (.t 43) (.t 44)⟩,⟨some 46, none,.load false 1 (.t 45)⟩,⟨some 47, none,.iadr 1 (.t 33) (.t 34)⟩,⟨none,none,.store 1 (.t 47) (.t 42)⟩,⟨some 48, none,.iadr 1 (.t 35) (.t 37)⟩,⟨none,none,.store 1 (.t 48) (.t 46)⟩] [0,1,2,6,7] []
def z86r5:IC:=.reg [⟨some 31, none,.mv (.t 7)⟩,⟨some 32, none,.bin .sub (.t 31) (.c (vi 1))⟩,⟨some 7, none,.asg (.t 32)⟩] [0,1,2,6,7] []
def Jt2:IC:=(.seq (.seq z86r3 (.cond (.t 30) .skip (.exit 2))) (.seq (.block 3 z86r4) z86r5))
def z86r7:IC:=.reg [⟨some 13, none,.mv (.t 6)⟩,⟨some 14, none,.bin .add (.t 13) (.c (vi 1))⟩,⟨some 6, none,.asg (.t 14)⟩] [0,1,2,6] []
def Jmh:IC:=(.seq (.seq z86r1 (.cond (.t 12) .skip (.exit 0))) (.seq (.block 1 (.seq z86r2 (.block 2 (.loop Jt2)))) z86r7))
def Jtn:Qa4:=⟨[],[0],(.seq z86r0 (.block 0 (.loop Jmh)))⟩
def Joz:IC:=.reg [⟨some 12, none,.asg (.c (vi 0))⟩] [0,1,2,3,4,5] []
def Jm0:IC:=.reg [⟨some 14, none,.mv (.t 0)⟩,⟨some 15, none,.mv (.t 1)⟩,⟨some 16, none,.mv (.t 2)⟩,⟨some 17, none,.mv (.t 4)⟩,⟨some 18, none,.mv (.t 5)⟩,⟨some 19, none,.call Qno [(.ld,(.t 14)),(.val,(.t 15)),(.val,(.t 16)),(.val,(.t 17)),(.val,(.t 18))] false⟩,⟨some 13, none,.asg (.t 19)⟩,⟨some 20, none,.extr (.t 13) 0⟩,⟨some 21, none,.extr (.t 13) 1⟩,⟨some 1, none,.asg (.t 20)⟩,⟨some 2, none,.asg (.t 21)⟩] [0,1,2,3,4,5] []
def Jv6:IC:=.reg [⟨some 23, none,.mv (.t 0)⟩,⟨some 24, none,.mv (.t 2)⟩,⟨some 25, none,.mv (.t 3)⟩,⟨some 26, none,.mv (.t 4)⟩,⟨some 27, none,.mv (.t 5)⟩,⟨some 28, none,.call Qno [(.ld,(.t 23)),(.val,(.t 24)),(.val,(.t 25)),(.val,(.t 26)),(.val,(.t 27))] false⟩,⟨some 22, none,.asg (.t 28)⟩,⟨some 29, none,.extr (.t 22) 0⟩,⟨some 30, none,.extr (.t 22) 1⟩,⟨some 2, none,.asg (.t 29)⟩,⟨some 3, none,.asg (.t 30)⟩] [0,1,2,4,5] []
def Jvq:IC:=.reg [⟨some 32, none,.mv (.t 0)⟩,⟨some 33, none,.mv (.t 1)⟩,⟨some 34, none,.mv (.t 2)⟩,⟨some 35, none,.mv (.t 4)⟩,⟨some 36, none,.mv (.t 5)⟩,⟨some 37, none,.call Qno [(.ld,(.t 32)),(.val,(.t 33)),(.val,(.t 34)),(.val,(.t 35)),(.val,(.t 36))] false⟩,⟨some 31, none,.asg (.t 37)⟩,⟨some 38, none,.extr (.t 31) 0⟩,⟨some 39, none,.extr (.t 31) 1⟩,⟨some 1, none,.asg (.t 38)⟩,⟨some 2, none,.asg (.t 39)⟩] [0,2] []
def Jn3:IC:=.reg [⟨some 40, none,.mv (.t 2)⟩,⟨some 12, none,.asgm (.t 40)⟩] [0,12] []
def Jbd:Qa4:=⟨[.t 12],[0],(.seq Joz (.seq Jm0 (.seq Jv6 (.seq Jvq (.seq Jn3 .ret)))))⟩
def Jz1:IC:=.reg [⟨some 2, none,.asg (.c (.int .u64 (0)))⟩] [0] []
def z91r1:IC:=.reg [⟨some 3, none,.mv (.t 0)⟩,⟨some 4, none,.conv .u64 (.t 3)⟩,⟨some 5, none,.call Jd3 [(.val,(.t 4))] true⟩,⟨some 6, none,.bin .shl (.c (.int .u64 (1))) (.t 5)⟩,⟨some 2, none,.asg (.t 6)⟩] [2] []
def Jwy:Qa4:=⟨[.t 2],[],(.seq Jz1 (.seq z91r1 .ret))⟩
def Jle:IC:=.reg [⟨some 10, none,.asg (.c (vi 0))⟩,⟨some 11, none,.asg (.c (vi 0))⟩] [0,1,2,3,4] []
def Jlo:IC:=.reg [⟨some 12, none,.mv (.t 4)⟩,⟨some 13, none,.mv (.t 0)⟩,⟨some 14, none,.mv (.t 2)⟩,⟨some 15, none,.iadr 2 (.t 13) (.t 14)⟩,⟨some 16, none,.load true 2 (.t 15)⟩,⟨some 17, none,.mv (.t 0)⟩,⟨some 18, none,.mv (.t 1)⟩,⟨some 19, none,.iadr 2 (.t 17) (.t 18)⟩,⟨some 20, none,.load true 2 (.t 19)⟩,⟨some 21, none,.callv (.t 12) [(.val,(.t 16)),(.val,(.t 20))]⟩,⟨some 22, none,.bin .lss (.t 21) (.c (vi 0))⟩] [0,1,2,3,22] []
def Jwg:IC:=.reg [⟨some 23, none,.mv (.t 3)⟩,⟨some 24, none,.nilck (.t 23)⟩,⟨some 25, none,.load false 1 (.t 24)⟩,⟨some 26, none,.bin .add (.t 25) (.c (vi 1))⟩,⟨some 27, none,.nilck (.t 23)⟩,⟨none,none,.store 1 (.t 27) (.t 26)⟩] [0,1,2] []
def Ju2:IC:=.reg [⟨some 28, none,.mv (.t 2)⟩,⟨some 29, none,.mv (.t 1)⟩,⟨some 10, none,.asgm (.t 28)⟩,⟨some 11, none,.asgm (.t 29)⟩] [0,10,11] []
def Jty:IC:=.reg [⟨some 30, none,.mv (.t 1)⟩,⟨some 31, none,.mv (.t 2)⟩,⟨some 10, none,.asgm (.t 30)⟩,⟨some 11, none,.asgm (.t 31)⟩] [0,10,11] []
def Qyy:Qa4:=⟨[.t 10,.t 11],[0],(.seq Jle (.seq (.seq Jlo (.cond (.t 22) (.seq Jwg (.seq Ju2 .ret)) .skip)) (.seq Jty .ret)))⟩
def Jmb:IC:=.reg [⟨some 8, none,.asg (.c (.bool false))⟩] [0,1,2,3] []
def Jvu:IC:=.reg [⟨some 13, none,.mv (.t 1)⟩,⟨some 14, none,.bin .add (.t 13) (.c (vi 1))⟩,⟨some 9, none,.asg (.t 14)⟩] [0,1,2,3,9] []
def Jvl:IC:=.reg [⟨some 10, none,.asg (.c (vi 0))⟩] [0,1,2,3,9,10] []
def Jrd:IC:=.reg [⟨some 15, none,.mv (.t 10)⟩,⟨some 16, none,.bin .lss (.t 15) (.c (vi 5))⟩] [0,1,2,3,9,10,16] []
def Js5:IC:=.reg [⟨some 19, none,.mv (.t 9)⟩,⟨some 20, none,.mv (.t 2)⟩,⟨some 21, none,.bin .lss (.t 19) (.t 20)⟩,⟨some 22, none,.asg (.t 21)⟩,⟨some 23, (some (22,true)),.mv (.t 3)⟩,⟨some 24, (some (22,true)),.mv (.t 0)⟩,⟨some 25, (some (22,true)),.mv (.t 9)⟩,⟨some 26, (some (22,true)),.iadr 2 (.t 24) (.t 25)⟩,⟨some 27, (some (22,true)),.load true 2 (.t 26)⟩,⟨some 28, (some (22,true)),.mv (.t 0)⟩,⟨some 29, (some (22,true)),.mv (.t 9)⟩,⟨some 30, (some (22,true)),.bin .sub (.t 29) (.c (vi 1))⟩,⟨some 31, (some (22,true)),.iadr 2 (.t 28) (.t 30)⟩,⟨some 32, (some (22,true)),.load true 2 (.t 31)⟩,⟨some 33, (some (22,true)),.callv (.t 23) [(.val,(.t 27)),(.val,(.t 32))]⟩,⟨some 34, (some (22,true)),.bin .lss (.t 33) (.c (vi 0))⟩,⟨some 35, (some (22,true)),.unop .not (.t 34)⟩,⟨some 36, none,.pick (.t 22) (.t 35) (.c (.bool false))⟩] [0,1,2,3,9,10,36] []
def Jsa:IC:=.reg [⟨some 37, none,.mv (.t 9)⟩,⟨some 38, none,.bin .add (.t 37) (.c (vi 1))⟩,⟨some 9, none,.asg (.t 38)⟩] [0,1,2,3,9,10] []
def Jc3:IC:=(.seq (.seq Js5 (.cond (.t 36) .skip (.exit 2))) (.block 3 Jsa))
def Jq5:IC:=.reg [⟨some 39, none,.mv (.t 9)⟩,⟨some 40, none,.mv (.t 2)⟩,⟨some 41, none,.bin .eql (.t 39) (.t 40)⟩] [0,1,2,3,9,10,41] []
def Jm3:IC:=.reg [⟨some 8, none,.asg (.c (.bool true))⟩] [0,8] []
def Jwv:IC:=.reg [⟨some 42, none,.mv (.t 2)⟩,⟨some 43, none,.mv (.t 1)⟩,⟨some 44, none,.bin .sub (.t 42) (.t 43)⟩,⟨some 45, none,.bin .lss (.t 44) (.c (vi 50))⟩] [0,1,2,3,9,10,45] []
def Jhy:IC:=.reg [⟨some 8, none,.asg (.c (.bool false))⟩] [0,8] []
def Jex:IC:=.reg [⟨some 46, none,.mv (.t 0)⟩,⟨some 47, none,.mv (.t 9)⟩,⟨some 48, none,.mv (.t 0)⟩,⟨some 49, none,.mv (.t 9)⟩,⟨some 50, none,.bin .sub (.t 49) (.c (vi 1))⟩,⟨some 51, none,.mv (.t 0)⟩,⟨some 52, none,.mv (.t 9)⟩,⟨some 53, none,.bin .sub (.t 52) (.c (vi 1))⟩,⟨some 54, none,.iadr 2 (.t 51) (.t 53)⟩,⟨some 55, none,.load true 2 (.t 54)⟩,⟨some 56, none,.mv (.t 0)⟩,⟨some 57, none,.mv (.t 9)⟩,⟨some 58, none,.iadr 2 (.t 56) (.t 57)⟩,⟨some 59, none,.load true 2 (.t 58)⟩,⟨some 60, none,.iadr 2 (.t 46) (.t 47)⟩,⟨none,none,.store 2 (.t 60) (.t 55)⟩,⟨some 61, none,.iadr 2 (.t 48) (.t 50)⟩,⟨none,none,.store 2 (.t 61) (.t 59)⟩] [0,1,2,3,9,10] []
def Jja:IC:=.reg [⟨some 62, none,.mv (.t 9)⟩,⟨some 63, none,.mv (.t 1)⟩,⟨some 64, none,.bin .sub (.t 62) (.t 63)⟩,⟨some 65, none,.bin .geq (.t 64) (.c (vi 2))⟩] [0,1,2,3,9,10,65] []
def Je0:IC:=.reg [⟨some 66, none,.mv (.t 9)⟩,⟨some 67, none,.bin .sub (.t 66) (.c (vi 1))⟩,⟨some 11, none,.asg (.t 67)⟩] [0,1,2,3,9,10,11] []
def Jeb:IC:=.reg [⟨some 68, none,.mv (.t 11)⟩,⟨some 69, none,.bin .geq (.t 68) (.c (vi 1))⟩] [0,1,2,3,9,10,11,69] []
def Jij:IC:=.reg [⟨some 72, none,.mv (.t 3)⟩,⟨some 73, none,.mv (.t 0)⟩,⟨some 74, none,.mv (.t 11)⟩,⟨some 75, none,.iadr 2 (.t 73) (.t 74)⟩,⟨some 76, none,.load true 2 (.t 75)⟩,⟨some 77, none,.mv (.t 0)⟩,⟨some 78, none,.mv (.t 11)⟩,⟨some 79, none,.bin .sub (.t 78) (.c (vi 1))⟩,⟨some 80, none,.iadr 2 (.t 77) (.t 79)⟩,⟨some 81, none,.load true 2 (.t 80)⟩,⟨some 82, none,.callv (.t 72) [(.val,(.t 76)),(.val,(.t 81))]⟩,⟨some 83, none,.bin .lss (.t 82) (.c (vi 0))⟩,⟨some 84, none,.unop .not (.t 83)⟩] [0,1,2,3,9,10,11,84] []
def Jjc:IC:=.reg [⟨some 85, none,.mv (.t 0)⟩,⟨some 86, none,.mv (.t 11)⟩,⟨some 87, none,.mv (.t 0)⟩,⟨some 88, none,.mv (.t 11)⟩,⟨some 89, none,.bin .sub (.t 88) (.c (vi 1))⟩,⟨some 90, none,.mv (.t 0)⟩,⟨some 91, none,.mv (.t 11)⟩,⟨some 92, none,.bin .sub (.t 91) (.c (vi 1))⟩,⟨some 93, none,.iadr 2 (.t 90) (.t 92)⟩,⟨some 94, none,.load true 2 (.t 93)⟩,⟨some 95, none,.mv (.t 0)⟩,⟨some 96, none,.mv (.t 11)⟩,⟨some 97, none,.iadr 2 (.t 95) (.t 96)⟩,⟨some 98, none,.load true 2 (.t 97)⟩,⟨some 99, none,.iadr 2 (.t 85) (.t 86)⟩,⟨none,none,.store 2 (.t 99) (.t 94)⟩,⟨some 100, none,.iadr 2 (.t 87) (.t 89)⟩,⟨none,none,.store 2 (.t 100) (.t 98)⟩] [0,1,2,3,9,10,11] []
def Jek:IC:=.reg [⟨some 70, none,.mv (.t 11)⟩,⟨some 71, none,.bin .sub (.t 70) (.c (vi 1))⟩,⟨some 11, none,.asg (.t 71)⟩] [0,1,2,3,9,10,11] []
def Ji7:IC:=(.seq (.seq Jeb (.cond (.t 69) .skip (.exit 4))) (.seq (.block 5 (.seq (.seq Jij (.cond (.t 84) (.exit 4) .skip)) Jjc)) Jek))
def Je7:IC:=.reg [⟨some 101, none,.mv (.t 2)⟩,⟨some 102, none,.mv (.t 9)⟩,⟨some 103, none,.bin .sub (.t 101) (.t 102)⟩,⟨some 104, none,.bin .geq (.t 103) (.c (vi 2))⟩] [0,1,2,3,9,10,104] []
def Je2:IC:=.reg [⟨some 105, none,.mv (.t 9)⟩,⟨some 106, none,.bin .add (.t 105) (.c (vi 1))⟩,⟨some 12, none,.asg (.t 106)⟩] [0,1,2,3,9,10,12] []
def Jjg:IC:=.reg [⟨some 107, none,.mv (.t 12)⟩,⟨some 108, none,.mv (.t 2)⟩,⟨some 109, none,.bin .lss (.t 107) (.t 108)⟩] [0,1,2,3,9,10,12,109] []
def Jh3:IC:=.reg [⟨some 112, none,.mv (.t 3)⟩,⟨some 113, none,.mv (.t 0)⟩,⟨some 114, none,.mv (.t 12)⟩,⟨some 115, none,.iadr 2 (.t 113) (.t 114)⟩,⟨some 116, none,.load true 2 (.t 115)⟩,⟨some 117, none,.mv (.t 0)⟩,⟨some 118, none,.mv (.t 12)⟩,⟨some 119, none,.bin .sub (.t 118) (.c (vi 1))⟩,⟨some 120, none,.iadr 2 (.t 117) (.t 119)⟩,⟨some 121, none,.load true 2 (.t 120)⟩,⟨some 122, none,.callv (.t 112) [(.val,(.t 116)),(.val,(.t 121))]⟩,⟨some 123, none,.bin .lss (.t 122) (.c (vi 0))⟩,⟨some 124, none,.unop .not (.t 123)⟩] [0,1,2,3,9,10,12,124] []
def Jhc:IC:=.reg [⟨some 125, none,.mv (.t 0)⟩,⟨some 126, none,.mv (.t 12)⟩,⟨some 127, none,.mv (.t 0)⟩,⟨some 128, none,.mv (.t 12)⟩,⟨some 129, none,.bin .sub (.t 128) (.c (vi 1))⟩,⟨some 130, none,.mv (.t 0)⟩,⟨some 131, none,.mv (.t 12)⟩,⟨some 132, none,.bin .sub (.t 131) (.c (vi 1))⟩,⟨some 133, none,.iadr 2 (.t 130) (.t 132)⟩,⟨some 134, none,.load true 2 (.t 133)⟩,⟨some 135, none,.mv (.t 0)⟩,⟨some 136, none,.mv (.t 12)⟩,⟨some 137, none,.iadr 2 (.t 135) (.t 136)⟩,⟨some 138, none,.load true 2 (.t 137)⟩,⟨some 139, none,.iadr 2 (.t 125) (.t 126)⟩,⟨none,none,.store 2 (.t 139) (.t 134)⟩,⟨some 140, none,.iadr 2 (.t 127) (.t 129)⟩,⟨none,none,.store 2 (.t 140) (.t 138)⟩] [0,1,2,3,9,10,12] []
def Jgx:IC:=.reg [⟨some 110, none,.mv (.t 12)⟩,⟨some 111, none,.bin .add (.t 110) (.c (vi 1))⟩,⟨some 12, none,.asg (.t 111)⟩] [0,1,2,3,9,10,12] []
def Jen:IC:=(.seq (.seq Jjg (.cond (.t 109) .skip (.exit 6))) (.seq (.block 7 (.seq (.seq Jh3 (.cond (.t 124) (.exit 6) .skip)) Jhc)) Jgx))
def Jgn:IC:=.reg [⟨some 17, none,.mv (.t 10)⟩,⟨some 18, none,.bin .add (.t 17) (.c (vi 1))⟩,⟨some 10, none,.asg (.t 18)⟩] [0,1,2,3,9,10] []
def Jge:IC:=(.seq (.seq Jrd (.cond (.t 16) .skip (.exit 0))) (.seq (.block 1 (.seq (.block 2 (.loop Jc3)) (.seq (.seq Jq5 (.cond (.t 41) (.seq Jm3 .ret) .skip)) (.seq (.seq Jwv (.cond (.t 45) (.seq Jhy .ret) .skip)) (.seq Jex (.seq (.seq Jja (.cond (.t 65) (.seq Je0 (.block 4 (.loop Ji7))) .skip)) (.seq Je7 (.cond (.t 104) (.seq Je2 (.block 6 (.loop Jen))) .skip)))))))) Jgn))
def Jhe:IC:=.reg [⟨some 8, none,.asg (.c (.bool false))⟩] [0,8] []
def Qw3:Qa4:=⟨[.t 8],[0],(.seq Jmb (.seq Jvu (.seq (.seq Jvl (.block 0 (.loop Jge))) (.seq Jhe .ret))))⟩
def Jte:IC:=.reg [⟨some 10, none,.asg (.c (vi 0))⟩,⟨some 11, none,.asg (.c (.bool false))⟩] [0,1,2,3,4] []
def Jul:IC:=.reg [⟨some 14, none,.mv (.t 0)⟩,⟨some 15, none,.mv (.t 1)⟩,⟨some 16, none,.mv (.t 0)⟩,⟨some 17, none,.mv (.t 3)⟩,⟨some 18, none,.mv (.t 0)⟩,⟨some 19, none,.mv (.t 3)⟩,⟨some 20, none,.iadr 2 (.t 18) (.t 19)⟩,⟨some 21, none,.load true 2 (.t 20)⟩,⟨some 22, none,.mv (.t 0)⟩,⟨some 23, none,.mv (.t 1)⟩,⟨some 24, none,.iadr 2 (.t 22) (.t 23)⟩,⟨some 25, none,.load true 2 (.t 24)⟩,⟨some 26, none,.iadr 2 (.t 14) (.t 15)⟩,⟨none,none,.store 2 (.t 26) (.t 21)⟩,⟨some 27, none,.iadr 2 (.t 16) (.t 17)⟩,⟨none,none,.store 2 (.t 27) (.t 25)⟩] [0,1,2,4] []
def Jvf:IC:=.reg [⟨some 28, none,.mv (.t 1)⟩,⟨some 29, none,.bin .add (.t 28) (.c (vi 1))⟩,⟨some 30, none,.mv (.t 2)⟩,⟨some 31, none,.bin .sub (.t 30) (.c (vi 1))⟩,⟨some 12, none,.asg (.t 29)⟩,⟨some 13, none,.asg (.t 31)⟩] [0,1,4,12,13] []
def Jo0:IC:=.reg [⟨some 32, none,.mv (.t 12)⟩,⟨some 33, none,.mv (.t 13)⟩,⟨some 34, none,.bin .leq (.t 32) (.t 33)⟩,⟨some 35, none,.asg (.t 34)⟩,⟨some 36, (some (35,true)),.mv (.t 4)⟩,⟨some 37, (some (35,true)),.mv (.t 0)⟩,⟨some 38, (some (35,true)),.mv (.t 12)⟩,⟨some 39, (some (35,true)),.iadr 2 (.t 37) (.t 38)⟩,⟨some 40, (some (35,true)),.load true 2 (.t 39)⟩,⟨some 41, (some (35,true)),.mv (.t 0)⟩,⟨some 42, (some (35,true)),.mv (.t 1)⟩,⟨some 43, (some (35,true)),.iadr 2 (.t 41) (.t 42)⟩,⟨some 44, (some (35,true)),.load true 2 (.t 43)⟩,⟨some 45, (some (35,true)),.callv (.t 36) [(.val,(.t 40)),(.val,(.t 44))]⟩,⟨some 46, (some (35,true)),.bin .lss (.t 45) (.c (vi 0))⟩,⟨some 47, none,.pick (.t 35) (.t 46) (.c (.bool false))⟩] [0,1,4,12,13,47] []
def Jv8:IC:=.reg [⟨some 48, none,.mv (.t 12)⟩,⟨some 49, none,.bin .add (.t 48) (.c (vi 1))⟩,⟨some 12, none,.asg (.t 49)⟩] [0,1,4,12,13] []
def Jdu:IC:=(.seq (.seq Jo0 (.cond (.t 47) .skip (.exit 0))) (.block 1 Jv8))
def Jk0:IC:=.reg [⟨some 50, none,.mv (.t 12)⟩,⟨some 51, none,.mv (.t 13)⟩,⟨some 52, none,.bin .leq (.t 50) (.t 51)⟩,⟨some 53, none,.asg (.t 52)⟩,⟨some 54, (some (53,true)),.mv (.t 4)⟩,⟨some 55, (some (53,true)),.mv (.t 0)⟩,⟨some 56, (some (53,true)),.mv (.t 13)⟩,⟨some 57, (some (53,true)),.iadr 2 (.t 55) (.t 56)⟩,⟨some 58, (some (53,true)),.load true 2 (.t 57)⟩,⟨some 59, (some (53,true)),.mv (.t 0)⟩,⟨some 60, (some (53,true)),.mv (.t 1)⟩,⟨some 61, (some (53,true)),.iadr 2 (.t 59) (.t 60)⟩,⟨some 62, (some (53,true)),.load true 2 (.t 61)⟩,⟨some 63, (some (53,true)),.callv (.t 54) [(.val,(.t 58)),(.val,(.t 62))]⟩,⟨some 64, (some (53,true)),.bin .lss (.t 63) (.c (vi 0))⟩,⟨some 65, (some (53,true)),.unop .not (.t 64)⟩,⟨some 66, none,.pick (.t 53) (.t 65) (.c (.bool false))⟩] [0,1,4,12,13,66] []
def Jru:IC:=.reg [⟨some 67, none,.mv (.t 13)⟩,⟨some 68, none,.bin .sub (.t 67) (.c (vi 1))⟩,⟨some 13, none,.asg (.t 68)⟩] [0,1,4,12,13] []
def Jdt:IC:=(.seq (.seq Jk0 (.cond (.t 66) .skip (.exit 2))) (.block 3 Jru))
def Jo8:IC:=.reg [⟨some 69, none,.mv (.t 12)⟩,⟨some 70, none,.mv (.t 13)⟩,⟨some 71, none,.bin .gtr (.t 69) (.t 70)⟩] [0,1,4,12,13,71] []
def Jfz:IC:=.reg [⟨some 72, none,.mv (.t 0)⟩,⟨some 73, none,.mv (.t 13)⟩,⟨some 74, none,.mv (.t 0)⟩,⟨some 75, none,.mv (.t 1)⟩,⟨some 76, none,.mv (.t 0)⟩,⟨some 77, none,.mv (.t 1)⟩,⟨some 78, none,.iadr 2 (.t 76) (.t 77)⟩,⟨some 79, none,.load true 2 (.t 78)⟩,⟨some 80, none,.mv (.t 0)⟩,⟨some 81, none,.mv (.t 13)⟩,⟨some 82, none,.iadr 2 (.t 80) (.t 81)⟩,⟨some 83, none,.load true 2 (.t 82)⟩,⟨some 84, none,.iadr 2 (.t 72) (.t 73)⟩,⟨none,none,.store 2 (.t 84) (.t 79)⟩,⟨some 85, none,.iadr 2 (.t 74) (.t 75)⟩,⟨none,none,.store 2 (.t 85) (.t 83)⟩] [0,13] []
def Jhb:IC:=.reg [⟨some 86, none,.mv (.t 13)⟩,⟨some 10, none,.asgm (.t 86)⟩,⟨some 11, none,.asg (.c (.bool true))⟩] [0,10,11] []
def Ji2:IC:=.reg [⟨some 87, none,.mv (.t 0)⟩,⟨some 88, none,.mv (.t 12)⟩,⟨some 89, none,.mv (.t 0)⟩,⟨some 90, none,.mv (.t 13)⟩,⟨some 91, none,.mv (.t 0)⟩,⟨some 92, none,.mv (.t 13)⟩,⟨some 93, none,.iadr 2 (.t 91) (.t 92)⟩,⟨some 94, none,.load true 2 (.t 93)⟩,⟨some 95, none,.mv (.t 0)⟩,⟨some 96, none,.mv (.t 12)⟩,⟨some 97, none,.iadr 2 (.t 95) (.t 96)⟩,⟨some 98, none,.load true 2 (.t 97)⟩,⟨some 99, none,.iadr 2 (.t 87) (.t 88)⟩,⟨none,none,.store 2 (.t 99) (.t 94)⟩,⟨some 100, none,.iadr 2 (.t 89) (.t 90)⟩,⟨none,none,.store 2 (.t 100) (.t 98)⟩] [0,1,4,12,13] []
def Jfc:IC:=.reg [⟨some 101, none,.mv (.t 12)⟩,⟨some 102, none,.bin .add (.t 101) (.c (vi 1))⟩,⟨some 12, none,.asg (.t 102)⟩] [0,1,4,12,13] []
def Jjj:IC:=.reg [⟨some 103, none,.mv (.t 13)⟩,⟨some 104, none,.bin .sub (.t 103) (.c (vi 1))⟩,⟨some 13, none,.asg (.t 104)⟩] [0,1,4,12,13] []
def Jic:IC:=.reg [⟨some 105, none,.mv (.t 12)⟩,⟨some 106, none,.mv (.t 13)⟩,⟨some 107, none,.bin .leq (.t 105) (.t 106)⟩,⟨some 108, none,.asg (.t 107)⟩,⟨some 109, (some (108,true)),.mv (.t 4)⟩,⟨some 110, (some (108,true)),.mv (.t 0)⟩,⟨some 111, (some (108,true)),.mv (.t 12)⟩,⟨some 112, (some (108,true)),.iadr 2 (.t 110) (.t 111)⟩,⟨some 113, (some (108,true)),.load true 2 (.t 112)⟩,⟨some 114, (some (108,true)),.mv (.t 0)⟩,⟨some 115, (some (108,true)),.mv (.t 1)⟩,⟨some 116, (some (108,true)),.iadr 2 (.t 114) (.t 115)⟩,⟨some 117, (some (108,true)),.load true 2 (.t 116)⟩,⟨some 118, (some (108,true)),.callv (.t 109) [(.val,(.t 113)),(.val,(.t 117))]⟩,⟨some 119, (some (108,true)),.bin .lss (.t 118) (.c (vi 0))⟩,⟨some 120, none,.pick (.t 108) (.t 119) (.c (.bool false))⟩] [0,1,4,12,13,120] []
def Jhi:IC:=.reg [⟨some 121, none,.mv (.t 12)⟩,⟨some 122, none,.bin .add (.t 121) (.c (vi 1))⟩,⟨some 12, none,.asg (.t 122)⟩] [0,1,4,12,13] []
def Qyq:IC:=(.seq (.seq Jic (.cond (.t 120) .skip (.exit 6))) (.block 7 Jhi))
def Jil:IC:=.reg [⟨some 123, none,.mv (.t 12)⟩,⟨some 124, none,.mv (.t 13)⟩,⟨some 125, none,.bin .leq (.t 123) (.t 124)⟩,⟨some 126, none,.asg (.t 125)⟩,⟨some 127, (some (126,true)),.mv (.t 4)⟩,⟨some 128, (some (126,true)),.mv (.t 0)⟩,⟨some 129, (some (126,true)),.mv (.t 13)⟩,⟨some 130, (some (126,true)),.iadr 2 (.t 128) (.t 129)⟩,⟨some 131, (some (126,true)),.load true 2 (.t 130)⟩,⟨some 132, (some (126,true)),.mv (.t 0)⟩,⟨some 133, (some (126,true)),.mv (.t 1)⟩,⟨some 134, (some (126,true)),.iadr 2 (.t 132) (.t 133)⟩,⟨some 135, (some (126,true)),.load true 2 (.t 134)⟩,⟨some 136, (some (126,true)),.callv (.t 127) [(.val,(.t 131)),(.val,(.t 135))]⟩,⟨some 137, (some (126,true)),.bin .lss (.t 136) (.c (vi 0))⟩,⟨some 138, (some (126,true)),.unop .not (.t 137)⟩,⟨some 139, none,.pick (.t 126) (.t 138) (.c (.bool false))⟩] [0,1,4,12,13,139] []
def Jgw:IC:=.reg [⟨some 140, none,.mv (.t 13)⟩,⟨some 141, none,.bin .sub (.t 140) (.c (vi 1))⟩,⟨some 13, none,.asg (.t 141)⟩] [0,1,4,12,13] []
def Qxi:IC:=(.seq (.seq Jil (.cond (.t 139) .skip (.exit 8))) (.block 9 Jgw))
def Jim:IC:=.reg [⟨some 142, none,.mv (.t 12)⟩,⟨some 143, none,.mv (.t 13)⟩,⟨some 144, none,.bin .gtr (.t 142) (.t 143)⟩] [0,1,4,12,13,144] []
def Jgc:IC:=.reg [⟨some 145, none,.mv (.t 0)⟩,⟨some 146, none,.mv (.t 12)⟩,⟨some 147, none,.mv (.t 0)⟩,⟨some 148, none,.mv (.t 13)⟩,⟨some 149, none,.mv (.t 0)⟩,⟨some 150, none,.mv (.t 13)⟩,⟨some 151, none,.iadr 2 (.t 149) (.t 150)⟩,⟨some 152, none,.load true 2 (.t 151)⟩,⟨some 153, none,.mv (.t 0)⟩,⟨some 154, none,.mv (.t 12)⟩,⟨some 155, none,.iadr 2 (.t 153) (.t 154)⟩,⟨some 156, none,.load true 2 (.t 155)⟩,⟨some 157, none,.iadr 2 (.t 145) (.t 146)⟩,⟨none,none,.store 2 (.t 157) (.t 152)⟩,⟨some 158, none,.iadr 2 (.t 147) (.t 148)⟩,⟨none,none,.store 2 (.t 158) (.t 156)⟩] [0,1,4,12,13] []
def Jix:IC:=.reg [⟨some 159, none,.mv (.t 12)⟩,⟨some 160, none,.bin .add (.t 159) (.c (vi 1))⟩,⟨some 12, none,.asg (.t 160)⟩] [0,1,4,12,13] []
def Jed:IC:=.reg [⟨some 161, none,.mv (.t 13)⟩,⟨some 162, none,.bin .sub (.t 161) (.c (vi 1))⟩,⟨some 13, none,.asg (.t 162)⟩] [0,1,4,12,13] []
def Qvv:IC:=(.block 5 (.seq (.block 6 (.loop Qyq)) (.seq (.block 8 (.loop Qxi)) (.seq (.seq Jim (.cond (.t 144) (.exit 4) .skip)) (.seq Jgc (.seq Jix Jed))))))
def Jeq:IC:=.reg [⟨some 163, none,.mv (.t 0)⟩,⟨some 164, none,.mv (.t 13)⟩,⟨some 165, none,.mv (.t 0)⟩,⟨some 166, none,.mv (.t 1)⟩,⟨some 167, none,.mv (.t 0)⟩,⟨some 168, none,.mv (.t 1)⟩,⟨some 169, none,.iadr 2 (.t 167) (.t 168)⟩,⟨some 170, none,.load true 2 (.t 169)⟩,⟨some 171, none,.mv (.t 0)⟩,⟨some 172, none,.mv (.t 13)⟩,⟨some 173, none,.iadr 2 (.t 171) (.t 172)⟩,⟨some 174, none,.load true 2 (.t 173)⟩,⟨some 175, none,.iadr 2 (.t 163) (.t 164)⟩,⟨none,none,.store 2 (.t 175) (.t 170)⟩,⟨some 176, none,.iadr 2 (.t 165) (.t 166)⟩,⟨none,none,.store 2 (.t 176) (.t 174)⟩] [0,13] []
def Jg5:IC:=.reg [⟨some 177, none,.mv (.t 13)⟩,⟨some 10, none,.asgm (.t 177)⟩,⟨some 11, none,.asg (.c (.bool false))⟩] [0,10,11] []
def Qwe:Qa4:=⟨[.t 10,.t 11],[0],(.seq Jte (.seq Jul (.seq Jvf (.seq (.block 0 (.loop Jdu)) (.seq (.block 2 (.loop Jdt)) (.seq (.seq Jo8 (.cond (.t 71) (.seq Jfz (.seq Jhb .ret)) .skip)) (.seq Ji2 (.seq Jfc (.seq Jjj (.seq (.block 4 (.loop Qvv)) (.seq Jeq (.seq Jg5 .ret))))))))))))⟩
def Jma:IC:=.reg [⟨some 10, none,.asg (.c (.bool true))⟩] [0,1,2,3,4,10] []
def Jv9:IC:=.reg [⟨some 11, none,.asg (.c (.bool true))⟩] [0,1,2,3,4,10,11] []
def Jln:IC:=.reg [⟨some 21, none,.mv (.t 2)⟩,⟨some 22, none,.mv (.t 1)⟩,⟨some 23, none,.bin .sub (.t 21) (.t 22)⟩,⟨some 12, none,.asg (.t 23)⟩] [0,1,2,3,4,10,11,12] []
def Jnq:IC:=.reg [⟨some 24, none,.mv (.t 12)⟩,⟨some 25, none,.bin .leq (.t 24) (.c (vi 12))⟩] [0,1,2,3,4,10,11,12,25] []
def Jnl:IC:=.reg [⟨some 26, none,.mv (.t 0)⟩,⟨some 27, none,.mv (.t 1)⟩,⟨some 28, none,.mv (.t 2)⟩,⟨some 29, none,.mv (.t 4)⟩,⟨some 30, none,.call Qt9 [(.ld,(.t 26)),(.val,(.t 27)),(.val,(.t 28)),(.val,(.t 29))] false⟩] [0] []
def Jrb:IC:=.reg [⟨some 31, none,.mv (.t 3)⟩,⟨some 32, none,.bin .eql (.t 31) (.c (vi 0))⟩] [0,1,2,3,4,10,11,12,32] []
def Jti:IC:=.reg [⟨some 33, none,.mv (.t 0)⟩,⟨some 34, none,.mv (.t 1)⟩,⟨some 35, none,.mv (.t 2)⟩,⟨some 36, none,.mv (.t 4)⟩,⟨some 37, none,.call Js4 [(.ld,(.t 33)),(.val,(.t 34)),(.val,(.t 35)),(.val,(.t 36))] false⟩] [0] []
def Jvp:IC:=.reg [⟨some 38, none,.mv (.t 10)⟩,⟨some 39, none,.unop .not (.t 38)⟩] [0,1,2,3,4,10,11,12,39] []
def Jsl:IC:=.reg [⟨some 40, none,.mv (.t 0)⟩,⟨some 41, none,.mv (.t 1)⟩,⟨some 42, none,.mv (.t 2)⟩,⟨some 43, none,.mv (.t 4)⟩,⟨some 44, none,.call Qs4 [(.ld,(.t 40)),(.val,(.t 41)),(.val,(.t 42)),(.val,(.t 43))] false⟩] [0,1,2,3,4,10,11,12] []
def Jrj:IC:=.reg [⟨some 45, none,.mv (.t 3)⟩,⟨some 46, none,.bin .sub (.t 45) (.c (vi 1))⟩,⟨some 3, none,.asg (.t 46)⟩] [0,1,2,3,4,10,11,12] []
def Qy7:IC:=.reg [⟨some 48, none,.mv (.t 0)⟩,⟨some 49, none,.mv (.t 1)⟩,⟨some 50, none,.mv (.t 2)⟩,⟨some 51, none,.mv (.t 4)⟩,⟨some 52, none,.call Quw [(.ld,(.t 48)),(.val,(.t 49)),(.val,(.t 50)),(.val,(.t 51))] false⟩,⟨some 47, none,.asg (.t 52)⟩,⟨some 53, none,.extr (.t 47) 0⟩,⟨some 54, none,.extr (.t 47) 1⟩,⟨some 13, none,.asg (.t 53)⟩,⟨some 14, none,.asg (.t 54)⟩] [0,1,2,3,4,10,11,12,13,14] []
def Qxq:IC:=.reg [⟨some 55, none,.mv (.t 14)⟩,⟨some 56, none,.bin .eql (.t 55) (.c (vi 2))⟩] [0,1,2,3,4,10,11,12,13,14,56] []
def Qw2:IC:=.reg [⟨some 57, none,.mv (.t 0)⟩,⟨some 58, none,.mv (.t 1)⟩,⟨some 59, none,.mv (.t 2)⟩,⟨some 60, none,.mv (.t 4)⟩,⟨some 61, none,.call Ju9 [(.ld,(.t 57)),(.val,(.t 58)),(.val,(.t 59)),(.val,(.t 60))] false⟩] [0,1,2,3,4,10,11,12,13] []
def Qws:IC:=.reg [⟨some 62, none,.mv (.t 2)⟩,⟨some 63, none,.bin .sub (.t 62) (.c (vi 1))⟩,⟨some 64, none,.mv (.t 13)⟩,⟨some 65, none,.mv (.t 1)⟩,⟨some 66, none,.bin .sub (.t 64) (.t 65)⟩,⟨some 67, none,.bin .sub (.t 63) (.t 66)⟩,⟨some 13, none,.asg (.t 67)⟩] [0,1,2,3,4,10,11,12,13] []
def Qww:IC:=.reg [⟨some 14, none,.asg (.c (vi 1))⟩] [0,1,2,3,4,10,11,12,13,14] []
def Qyo:IC:=.reg [⟨some 68, none,.mv (.t 10)⟩,⟨some 69, none,.asg (.t 68)⟩,⟨some 70, (some (69,true)),.mv (.t 11)⟩,⟨some 71, none,.pick (.t 69) (.t 70) (.c (.bool false))⟩,⟨some 72, none,.asg (.t 71)⟩,⟨some 73, (some (72,true)),.mv (.t 14)⟩,⟨some 74, (some (72,true)),.bin .eql (.t 73) (.c (vi 1))⟩,⟨some 75, none,.pick (.t 72) (.t 74) (.c (.bool false))⟩] [0,1,2,3,4,10,11,12,13,75] []
def Qu9:IC:=.reg [⟨some 76, none,.mv (.t 0)⟩,⟨some 77, none,.mv (.t 1)⟩,⟨some 78, none,.mv (.t 2)⟩,⟨some 79, none,.mv (.t 4)⟩,⟨some 80, none,.call Qub [(.ld,(.t 76)),(.val,(.t 77)),(.val,(.t 78)),(.val,(.t 79))] false⟩] [0,1,2,3,4,10,11,12,13,80] []
def Qyx:IC:=.reg [⟨some 81, none,.mv (.t 1)⟩,⟨some 82, none,.bin .gtr (.t 81) (.c (vi 0))⟩,⟨some 83, none,.asg (.t 82)⟩,⟨some 84, (some (83,true)),.mv (.t 4)⟩,⟨some 85, (some (83,true)),.mv (.t 0)⟩,⟨some 86, (some (83,true)),.mv (.t 1)⟩,⟨some 87, (some (83,true)),.bin .sub (.t 86) (.c (vi 1))⟩,⟨some 88, (some (83,true)),.iadr 2 (.t 85) (.t 87)⟩,⟨some 89, (some (83,true)),.load true 2 (.t 88)⟩,⟨some 90, (some (83,true)),.mv (.t 0)⟩,⟨some 91, (some (83,true)),.mv (.t 13)⟩,⟨some 92, (some (83,true)),.iadr 2 (.t 90) (.t 91)⟩,⟨some 93, (some (83,true)),.load true 2 (.t 92)⟩,⟨some 94, (some (83,true)),.callv (.t 84) [(.val,(.t 89)),(.val,(.t 93))]⟩,⟨some 95, (some (83,true)),.bin .lss (.t 94) (.c (vi 0))⟩,⟨some 96, (some (83,true)),.unop .not (.t 95)⟩,⟨some 97, none,.pick (.t 83) (.t 96) (.c (.bool false))⟩] [0,1,2,3,4,10,11,12,13,97] []
def Qxk:IC:=.reg [⟨some 98, none,.mv (.t 0)⟩,⟨some 99, none,.mv (.t 1)⟩,⟨some 100, none,.mv (.t 2)⟩,⟨some 101, none,.mv (.t 13)⟩,⟨some 102, none,.mv (.t 4)⟩,⟨some 103, none,.call Jvj [(.ld,(.t 98)),(.val,(.t 99)),(.val,(.t 100)),(.val,(.t 101)),(.val,(.t 102))] false⟩,⟨some 15, none,.asg (.t 103)⟩] [0,2,3,4,10,11,15] []
def Qyl:IC:=.reg [⟨some 104, none,.mv (.t 15)⟩,⟨some 1, none,.asgm (.t 104)⟩] [0,1,2,3,4,10,11] []
def Qwf:IC:=.reg [⟨some 106, none,.mv (.t 0)⟩,⟨some 107, none,.mv (.t 1)⟩,⟨some 108, none,.mv (.t 2)⟩,⟨some 109, none,.mv (.t 13)⟩,⟨some 110, none,.mv (.t 4)⟩,⟨some 111, none,.call Qs2 [(.ld,(.t 106)),(.val,(.t 107)),(.val,(.t 108)),(.val,(.t 109)),(.val,(.t 110))] false⟩,⟨some 105, none,.asg (.t 111)⟩,⟨some 112, none,.extr (.t 105) 0⟩,⟨some 113, none,.extr (.t 105) 1⟩,⟨some 16, none,.asg (.t 112)⟩,⟨some 17, none,.asg (.t 113)⟩] [0,1,2,3,4,12,16,17] []
def Qzc:IC:=.reg [⟨some 114, none,.mv (.t 17)⟩,⟨some 11, none,.asgm (.t 114)⟩] [0,1,2,3,4,11,12,16] []
def Qvj:IC:=.reg [⟨some 115, none,.mv (.t 16)⟩,⟨some 116, none,.mv (.t 1)⟩,⟨some 117, none,.bin .sub (.t 115) (.t 116)⟩,⟨some 118, none,.mv (.t 2)⟩,⟨some 119, none,.mv (.t 16)⟩,⟨some 120, none,.bin .sub (.t 118) (.t 119)⟩,⟨some 18, none,.asg (.t 117)⟩,⟨some 19, none,.asg (.t 120)⟩] [0,1,2,3,4,11,12,16,18,19] []
def Qxm:IC:=.reg [⟨some 121, none,.mv (.t 12)⟩,⟨some 122, none,.bin .quo (.t 121) (.c (vi 8))⟩,⟨some 20, none,.asg (.t 122)⟩] [0,1,2,3,4,11,16,18,19,20] []
def Qw7:IC:=.reg [⟨some 123, none,.mv (.t 18)⟩,⟨some 124, none,.mv (.t 19)⟩,⟨some 125, none,.bin .lss (.t 123) (.t 124)⟩] [0,1,2,3,4,11,16,18,19,20,125] []
def Qv7:IC:=.reg [⟨some 126, none,.mv (.t 18)⟩,⟨some 127, none,.mv (.t 20)⟩,⟨some 128, none,.bin .geq (.t 126) (.t 127)⟩,⟨some 10, none,.asg (.t 128)⟩] [0,1,2,3,4,10,11,16] []
def Qur:IC:=.reg [⟨some 129, none,.mv (.t 0)⟩,⟨some 130, none,.mv (.t 1)⟩,⟨some 131, none,.mv (.t 16)⟩,⟨some 132, none,.mv (.t 3)⟩,⟨some 133, none,.mv (.t 4)⟩,⟨some 134, none,.call Qmz [(.ld,(.t 129)),(.val,(.t 130)),(.val,(.t 131)),(.val,(.t 132)),(.val,(.t 133))] false⟩] [0,2,3,4,10,11,16] []
def Qv3:IC:=.reg [⟨some 135, none,.mv (.t 16)⟩,⟨some 136, none,.bin .add (.t 135) (.c (vi 1))⟩,⟨some 1, none,.asg (.t 136)⟩] [0,1,2,3,4,10,11] []
def Qxp:IC:=.reg [⟨some 137, none,.mv (.t 19)⟩,⟨some 138, none,.mv (.t 20)⟩,⟨some 139, none,.bin .geq (.t 137) (.t 138)⟩,⟨some 10, none,.asg (.t 139)⟩] [0,1,2,3,4,10,11,16] []
def Qyd:IC:=.reg [⟨some 140, none,.mv (.t 0)⟩,⟨some 141, none,.mv (.t 16)⟩,⟨some 142, none,.bin .add (.t 141) (.c (vi 1))⟩,⟨some 143, none,.mv (.t 2)⟩,⟨some 144, none,.mv (.t 3)⟩,⟨some 145, none,.mv (.t 4)⟩,⟨some 146, none,.call Qmz [(.ld,(.t 140)),(.val,(.t 142)),(.val,(.t 143)),(.val,(.t 144)),(.val,(.t 145))] false⟩] [0,1,3,4,10,11,16] []
def Qvg:IC:=.reg [⟨some 147, none,.mv (.t 16)⟩,⟨some 2, none,.asgm (.t 147)⟩] [0,1,2,3,4,10,11] []
def Qhy:IC:=(.block 1 (.seq Jln (.seq (.seq Jnq (.cond (.t 25) (.seq Jnl .ret) .skip)) (.seq (.seq Jrb (.cond (.t 32) (.seq Jti .ret) .skip)) (.seq (.seq Jvp (.cond (.t 39) (.seq Jsl Jrj) .skip)) (.seq Qy7 (.seq (.seq Qxq (.cond (.t 56) (.seq Qw2 (.seq Qws Qww)) .skip)) (.seq (.seq Qyo (.cond (.t 75) (.seq Qu9 (.cond (.t 80) .ret .skip)) .skip)) (.seq (.seq Qyx (.cond (.t 97) (.seq Qxk (.seq Qyl (.exit 1))) .skip)) (.seq Qwf (.seq Qzc (.seq Qvj (.seq Qxm (.seq Qw7 (.cond (.t 125) (.seq Qv7 (.seq Qur Qv3)) (.seq Qxp (.seq Qyd Qvg)))))))))))))))))
def Qo1:Qa4:=⟨[],[0],(.seq Jma (.seq Jv9 (.block 0 (.loop Qhy))))⟩
def Jmo:IC:=.reg [⟨some 8, none,.asg (.c (.bool true))⟩] [0,1,2,3,8] []
def Jp5:IC:=.reg [⟨some 9, none,.asg (.c (.bool true))⟩] [0,1,2,3,8,9] []
def Jm5:IC:=.reg [⟨some 19, none,.mv (.t 2)⟩,⟨some 20, none,.mv (.t 1)⟩,⟨some 21, none,.bin .sub (.t 19) (.t 20)⟩,⟨some 10, none,.asg (.t 21)⟩] [0,1,2,3,8,9,10] []
def Jov:IC:=.reg [⟨some 22, none,.mv (.t 10)⟩,⟨some 23, none,.bin .leq (.t 22) (.c (vi 12))⟩] [0,1,2,3,8,9,10,23] []
def Jmr:IC:=.reg [⟨some 24, none,.mv (.t 0)⟩,⟨some 25, none,.mv (.t 1)⟩,⟨some 26, none,.mv (.t 2)⟩,⟨some 27, none,.call Jwe [(.ld,(.t 24)),(.val,(.t 25)),(.val,(.t 26))] false⟩] [0] []
def Jj5:IC:=.reg [⟨some 28, none,.mv (.t 3)⟩,⟨some 29, none,.bin .eql (.t 28) (.c (vi 0))⟩] [0,1,2,3,8,9,10,29] []
def Jup:IC:=.reg [⟨some 30, none,.mv (.t 0)⟩,⟨some 31, none,.mv (.t 1)⟩,⟨some 32, none,.mv (.t 2)⟩,⟨some 33, none,.call zl84 [(.ld,(.t 30)),(.val,(.t 31)),(.val,(.t 32))] false⟩] [0] []
def Jn0:IC:=.reg [⟨some 34, none,.mv (.t 8)⟩,⟨some 35, none,.unop .not (.t 34)⟩] [0,1,2,3,8,9,10,35] []
def Jvh:IC:=.reg [⟨some 36, none,.mv (.t 0)⟩,⟨some 37, none,.mv (.t 1)⟩,⟨some 38, none,.mv (.t 2)⟩,⟨some 39, none,.call zl80 [(.ld,(.t 36)),(.val,(.t 37)),(.val,(.t 38))] false⟩] [0,1,2,3,8,9,10] []
def Jwj:IC:=.reg [⟨some 40, none,.mv (.t 3)⟩,⟨some 41, none,.bin .sub (.t 40) (.c (vi 1))⟩,⟨some 3, none,.asg (.t 41)⟩] [0,1,2,3,8,9,10] []
def Jgd:IC:=.reg [⟨some 43, none,.mv (.t 0)⟩,⟨some 44, none,.mv (.t 1)⟩,⟨some 45, none,.mv (.t 2)⟩,⟨some 46, none,.call zl82 [(.rd,(.t 43)),(.val,(.t 44)),(.val,(.t 45))] true⟩,⟨some 42, none,.asg (.t 46)⟩,⟨some 47, none,.extr (.t 42) 0⟩,⟨some 48, none,.extr (.t 42) 1⟩,⟨some 11, none,.asg (.t 47)⟩,⟨some 12, none,.asg (.t 48)⟩] [0,1,2,3,8,9,10,11,12] []
def Jhr:IC:=.reg [⟨some 49, none,.mv (.t 12)⟩,⟨some 50, none,.bin .eql (.t 49) (.c (vi 2))⟩] [0,1,2,3,8,9,10,11,12,50] []
def Jh5:IC:=.reg [⟨some 51, none,.mv (.t 0)⟩,⟨some 52, none,.mv (.t 1)⟩,⟨some 53, none,.mv (.t 2)⟩,⟨some 54, none,.call Jk7 [(.ld,(.t 51)),(.val,(.t 52)),(.val,(.t 53))] false⟩] [0,1,2,3,8,9,10,11] []
def Jh0:IC:=.reg [⟨some 55, none,.mv (.t 2)⟩,⟨some 56, none,.bin .sub (.t 55) (.c (vi 1))⟩,⟨some 57, none,.mv (.t 11)⟩,⟨some 58, none,.mv (.t 1)⟩,⟨some 59, none,.bin .sub (.t 57) (.t 58)⟩,⟨some 60, none,.bin .sub (.t 56) (.t 59)⟩,⟨some 11, none,.asg (.t 60)⟩] [0,1,2,3,8,9,10,11] []
def Jhh:IC:=.reg [⟨some 12, none,.asg (.c (vi 1))⟩] [0,1,2,3,8,9,10,11,12] []
def Jeu:IC:=.reg [⟨some 61, none,.mv (.t 8)⟩,⟨some 62, none,.asg (.t 61)⟩,⟨some 63, (some (62,true)),.mv (.t 9)⟩,⟨some 64, none,.pick (.t 62) (.t 63) (.c (.bool false))⟩,⟨some 65, none,.asg (.t 64)⟩,⟨some 66, (some (65,true)),.mv (.t 12)⟩,⟨some 67, (some (65,true)),.bin .eql (.t 66) (.c (vi 1))⟩,⟨some 68, none,.pick (.t 65) (.t 67) (.c (.bool false))⟩] [0,1,2,3,8,9,10,11,68] []
def Jhv:IC:=.reg [⟨some 69, none,.mv (.t 0)⟩,⟨some 70, none,.mv (.t 1)⟩,⟨some 71, none,.mv (.t 2)⟩,⟨some 72, none,.call zl95 [(.ld,(.t 69)),(.val,(.t 70)),(.val,(.t 71))] false⟩] [0,1,2,3,8,9,10,11,72] []
def Jg7:IC:=.reg [⟨some 73, none,.mv (.t 1)⟩,⟨some 74, none,.bin .gtr (.t 73) (.c (vi 0))⟩,⟨some 75, none,.asg (.t 74)⟩,⟨some 76, (some (75,true)),.mv (.t 0)⟩,⟨some 77, (some (75,true)),.mv (.t 1)⟩,⟨some 78, (some (75,true)),.bin .sub (.t 77) (.c (vi 1))⟩,⟨some 79, (some (75,true)),.iadr 1 (.t 76) (.t 78)⟩,⟨some 80, (some (75,true)),.load false 1 (.t 79)⟩,⟨some 81, (some (75,true)),.mv (.t 0)⟩,⟨some 82, (some (75,true)),.mv (.t 11)⟩,⟨some 83, (some (75,true)),.iadr 1 (.t 81) (.t 82)⟩,⟨some 84, (some (75,true)),.load false 1 (.t 83)⟩,⟨some 85, (some (75,true)),.call zl2 [(.val,(.t 80)),(.val,(.t 84))] true⟩,⟨some 86, (some (75,true)),.unop .not (.t 85)⟩,⟨some 87, none,.pick (.t 75) (.t 86) (.c (.bool false))⟩] [0,1,2,3,8,9,10,11,87] []
def Jgh:IC:=.reg [⟨some 88, none,.mv (.t 0)⟩,⟨some 89, none,.mv (.t 1)⟩,⟨some 90, none,.mv (.t 2)⟩,⟨some 91, none,.mv (.t 11)⟩,⟨some 92, none,.call zl98 [(.ld,(.t 88)),(.val,(.t 89)),(.val,(.t 90)),(.val,(.t 91))] false⟩,⟨some 13, none,.asg (.t 92)⟩] [0,2,3,8,9,13] []
def Jgq:IC:=.reg [⟨some 93, none,.mv (.t 13)⟩,⟨some 1, none,.asgm (.t 93)⟩] [0,1,2,3,8,9] []
def Jhk:IC:=.reg [⟨some 95, none,.mv (.t 0)⟩,⟨some 96, none,.mv (.t 1)⟩,⟨some 97, none,.mv (.t 2)⟩,⟨some 98, none,.mv (.t 11)⟩,⟨some 99, none,.call zl99 [(.ld,(.t 95)),(.val,(.t 96)),(.val,(.t 97)),(.val,(.t 98))] false⟩,⟨some 94, none,.asg (.t 99)⟩,⟨some 100, none,.extr (.t 94) 0⟩,⟨some 101, none,.extr (.t 94) 1⟩,⟨some 14, none,.asg (.t 100)⟩,⟨some 15, none,.asg (.t 101)⟩] [0,1,2,3,10,14,15] []
def Jhd:IC:=.reg [⟨some 102, none,.mv (.t 15)⟩,⟨some 9, none,.asgm (.t 102)⟩] [0,1,2,3,9,10,14] []
def Jiv:IC:=.reg [⟨some 103, none,.mv (.t 14)⟩,⟨some 104, none,.mv (.t 1)⟩,⟨some 105, none,.bin .sub (.t 103) (.t 104)⟩,⟨some 106, none,.mv (.t 2)⟩,⟨some 107, none,.mv (.t 14)⟩,⟨some 108, none,.bin .sub (.t 106) (.t 107)⟩,⟨some 16, none,.asg (.t 105)⟩,⟨some 17, none,.asg (.t 108)⟩] [0,1,2,3,9,10,14,16,17] []
def Jjf:IC:=.reg [⟨some 109, none,.mv (.t 10)⟩,⟨some 110, none,.bin .quo (.t 109) (.c (vi 8))⟩,⟨some 18, none,.asg (.t 110)⟩] [0,1,2,3,9,14,16,17,18] []
def Jfu:IC:=.reg [⟨some 111, none,.mv (.t 16)⟩,⟨some 112, none,.mv (.t 17)⟩,⟨some 113, none,.bin .lss (.t 111) (.t 112)⟩] [0,1,2,3,9,14,16,17,18,113] []
def Jjh:IC:=.reg [⟨some 114, none,.mv (.t 16)⟩,⟨some 115, none,.mv (.t 18)⟩,⟨some 116, none,.bin .geq (.t 114) (.t 115)⟩,⟨some 8, none,.asg (.t 116)⟩] [0,1,2,3,8,9,14] []
def Jhm:IC:=.reg [⟨some 117, none,.mv (.t 0)⟩,⟨some 118, none,.mv (.t 1)⟩,⟨some 119, none,.mv (.t 14)⟩,⟨some 120, none,.mv (.t 3)⟩,⟨some 121, none,.call Qpu [(.ld,(.t 117)),(.val,(.t 118)),(.val,(.t 119)),(.val,(.t 120))] false⟩] [0,2,3,8,9,14] []
def Jga:IC:=.reg [⟨some 122, none,.mv (.t 14)⟩,⟨some 123, none,.bin .add (.t 122) (.c (vi 1))⟩,⟨some 1, none,.asg (.t 123)⟩] [0,1,2,3,8,9] []
def Jfl:IC:=.reg [⟨some 124, none,.mv (.t 17)⟩,⟨some 125, none,.mv (.t 18)⟩,⟨some 126, none,.bin .geq (.t 124) (.t 125)⟩,⟨some 8, none,.asg (.t 126)⟩] [0,1,2,3,8,9,14] []
def Jet:IC:=.reg [⟨some 127, none,.mv (.t 0)⟩,⟨some 128, none,.mv (.t 14)⟩,⟨some 129, none,.bin .add (.t 128) (.c (vi 1))⟩,⟨some 130, none,.mv (.t 2)⟩,⟨some 131, none,.mv (.t 3)⟩,⟨some 132, none,.call Qpu [(.ld,(.t 127)),(.val,(.t 129)),(.val,(.t 130)),(.val,(.t 131))] false⟩] [0,1,3,8,9,14] []
def Jh2:IC:=.reg [⟨some 133, none,.mv (.t 14)⟩,⟨some 2, none,.asgm (.t 133)⟩] [0,1,2,3,8,9] []
def Ji1:IC:=(.block 1 (.seq Jm5 (.seq (.seq Jov (.cond (.t 23) (.seq Jmr .ret) .skip)) (.seq (.seq Jj5 (.cond (.t 29) (.seq Jup .ret) .skip)) (.seq (.seq Jn0 (.cond (.t 35) (.seq Jvh Jwj) .skip)) (.seq Jgd (.seq (.seq Jhr (.cond (.t 50) (.seq Jh5 (.seq Jh0 Jhh)) .skip)) (.seq (.seq Jeu (.cond (.t 68) (.seq Jhv (.cond (.t 72) .ret .skip)) .skip)) (.seq (.seq Jg7 (.cond (.t 87) (.seq Jgh (.seq Jgq (.exit 1))) .skip)) (.seq Jhk (.seq Jhd (.seq Jiv (.seq Jjf (.seq Jfu (.cond (.t 113) (.seq Jjh (.seq Jhm Jga)) (.seq Jfl (.seq Jet Jh2)))))))))))))))))
def Ja2:Qa4:=⟨[],[0],(.seq Jmo (.seq Jp5 (.block 0 (.loop Ji1))))⟩
def Jut:IC:=.reg [⟨some 2, none,.asg (.c (.int .u64 (0)))⟩] [0] []
def Jpo:IC:=.reg [⟨some 3, none,.mv (.t 0)⟩,⟨some 4, none,.nilck (.t 3)⟩,⟨some 5, none,.load false 1 (.t 4)⟩,⟨some 6, none,.mv (.t 0)⟩,⟨some 7, none,.nilck (.t 6)⟩,⟨some 8, none,.load false 1 (.t 7)⟩,⟨some 9, none,.bin .shl (.t 8) (.c (.int .u64 (13)))⟩,⟨some 10, none,.bin .xor (.t 5) (.t 9)⟩,⟨some 11, none,.nilck (.t 3)⟩,⟨none,none,.store 1 (.t 11) (.t 10)⟩] [0] []
def Jt5:IC:=.reg [⟨some 12, none,.mv (.t 0)⟩,⟨some 13, none,.nilck (.t 12)⟩,⟨some 14, none,.load false 1 (.t 13)⟩,⟨some 15, none,.mv (.t 0)⟩,⟨some 16, none,.nilck (.t 15)⟩,⟨some 17, none,.load false 1 (.t 16)⟩,⟨some 18, none,.bin .shr (.t 17) (.c (.int .u64 (7)))⟩,⟨some 19, none,.bin .xor (.t 14) (.t 18)⟩,⟨some 20, none,.nilck (.t 12)⟩,⟨none,none,.store 1 (.t 20) (.t 19)⟩] [0] []
def Jur:IC:=.reg [⟨some 21, none,.mv (.t 0)⟩,⟨some 22, none,.nilck (.t 21)⟩,⟨some 23, none,.load false 1 (.t 22)⟩,⟨some 24, none,.mv (.t 0)⟩,⟨some 25, none,.nilck (.t 24)⟩,⟨some 26, none,.load false 1 (.t 25)⟩,⟨some 27, none,.bin .shl (.t 26) (.c (.int .u64 (17)))⟩,⟨some 28, none,.bin .xor (.t 23) (.t 27)⟩,⟨some 29, none,.nilck (.t 21)⟩,⟨none,none,.store 1 (.t 29) (.t 28)⟩] [0] []
def Jos:IC:=.reg [⟨some 30, none,.mv (.t 0)⟩,⟨some 31, none,.nilck (.t 30)⟩,⟨some 32, none,.load false 1 (.t 31)⟩,⟨some 2, none,.asg (.t 32)⟩] [2] []
def Ja0:Qa4:=⟨[.t 2],[],(.seq Jut (.seq Jpo (.seq Jt5 (.seq Jur (.seq Jos .ret)))))⟩
def Jlq:IC:=.reg [⟨some 1, none,.box (.t 0)⟩,⟨some 2, none,.alloc [(vi 0),(.slice none 0 0)]⟩,⟨some 3, none,.asg (.c (.bool false))⟩] [1,2] []
def Jsh:IC:=.reg [⟨some 7, none,.load true 2 (.t 1)⟩,⟨some 8, none,.call Qwn [(.rd,(.t 7))] true⟩,⟨some 9, none,.unop .not (.t 8)⟩] [1,2,9] []
def Jl6:IC:=.reg [⟨some 10, none,.build [(vi 0),(.slice none 0 0)] []⟩,⟨none,none,.store 2 (.t 2) (.t 10)⟩,⟨some 3, none,.asg (.c (.bool false))⟩] [2,3] []
def Jr2:IC:=.regd [⟨some 11, none,.fadr 0 (.t 1)⟩,⟨some 12, none,.load false 1 (.t 11)⟩,⟨some 13, none,.bsl 2 [(vi 0),(vi 0)] 0 []⟩,⟨some 14, none,.fadr 1 (.t 1)⟩,⟨some 15, none,.load false 1 (.t 14)⟩,⟨some 16, none,.app 2 (.t 13) (.t 15)⟩,⟨some 17, none,.build [(vi 0),(.slice none 0 0)] [(0,1,(.t 12)),(1,1,(.t 16))]⟩,⟨some 4, none,.alloc [(vi 0),(.slice none 0 0)]⟩,⟨none,none,.store 2 (.t 4) (.t 17)⟩] [0,1,3,4,2,5,6,7,8] [2,4] [[0,1,2,3,4,5,6,7,8],[0,1,3,2,4,5,6,7,8],[0,2,1,3,4,5,6,7,8],[0,2,3,4,5,1,6,7,8],[0,3,2,1,4,5,6,7,8],[0,3,2,4,5,1,6,7,8],[0,3,4,2,1,5,6,7,8],[0,3,4,2,5,1,6,7,8],[2,0,1,3,4,5,6,7,8],[2,0,3,4,5,1,6,7,8],[2,3,4,5,0,1,6,7,8],[3,2,0,1,4,5,6,7,8],[3,2,0,4,5,1,6,7,8],[3,2,4,5,0,1,6,7,8],[3,4,2,0,1,5,6,7,8],[3,4,2,0,5,1,6,7,8],[3,4,2,5,0,1,6,7,8]]
def Jq0:IC:=.reg [⟨some 18, none,.load true 2 (.t 4)⟩,⟨some 19, none,.call Qst [(.rd,(.t 18))] true⟩,⟨some 20, none,.len (.t 19)⟩,⟨some 21, none,.bin .gtr (.t 20) (.c (vi 1))⟩] [2,4,21] []
def Jpk:IC:=.reg [⟨some 23, none,.load true 2 (.t 4)⟩,⟨some 24, none,.call Qyj [(.rd,(.t 23))] true⟩,⟨some 22, none,.asg (.t 24)⟩,⟨some 25, none,.extr (.t 22) 0⟩,⟨some 26, none,.extr (.t 22) 1⟩,⟨some 5, none,.alloc [(vi 0),(vi 0),(vi 0),(vi 0)]⟩,⟨none,none,.store 4 (.t 5) (.t 25)⟩,⟨some 6, none,.asg (.t 26)⟩] [2,4,5,6] []
def Jlk:IC:=.reg [⟨some 27, none,.mv (.t 6)⟩,⟨some 28, none,.unop .not (.t 27)⟩] [2,4,5,28] []
def Jri:IC:=.reg [⟨some 29, none,.build [(vi 0),(.slice none 0 0)] []⟩,⟨none,none,.store 2 (.t 2) (.t 29)⟩,⟨some 3, none,.asg (.c (.bool false))⟩] [2,3] []
def Jst:IC:=.reg [⟨some 30, none,.load true 2 (.t 4)⟩,⟨some 31, none,.load true 4 (.t 5)⟩,⟨some 32, none,.call Qxd [(.rd,(.t 30)),(.val,(.t 31))] true⟩,⟨none,none,.store 2 (.t 4) (.t 32)⟩] [2,4] []
def Jdi:IC:=(.seq (.seq Jq0 (.cond (.t 21) .skip (.exit 0))) (.block 1 (.seq Jpk (.seq (.seq Jlk (.cond (.t 28) (.seq Jri .ret) .skip)) Jst))))
def Jg6:IC:=.reg [⟨some 33, none,.load true 2 (.t 4)⟩,⟨some 34, none,.load true 2 (.t 4)⟩,⟨some 35, none,.call Qst [(.rd,(.t 34))] true⟩,⟨some 36, none,.len (.t 35)⟩,⟨some 37, none,.bin .eql (.t 36) (.c (vi 1))⟩,⟨none,none,.store 2 (.t 2) (.t 33)⟩,⟨some 3, none,.asg (.t 37)⟩] [2,3] [[1,2,0,3,4,5,6]]
def Qq4:Qa4:=⟨[.c 2 2 true,.t 3],[],(.seq Jlq (.seq (.seq Jsh (.cond (.t 9) (.seq Jl6 .ret) .skip)) (.seq Jr2 (.seq (.block 0 (.loop Jdi)) (.seq Jg6 .ret)))))⟩
def Jki:IC:=.reg [⟨some 2, none,.alloc [(vi 0),(.slice none 0 0)]⟩] [0,2] []
def Jp7:IC:=.reg [⟨some 7, none,.mv (.t 0)⟩,⟨some 8, none,.call Qvd [(.rd,(.t 7))] false⟩,⟨some 3, none,.asg (.t 8)⟩] [2,3] []
def Jts:IC:=.reg [⟨some 9, none,.mv (.t 3)⟩,⟨some 10, none,.call Qhx [(.val,(.t 9)),(.val,(.c (vi 2)))] false⟩,⟨some 11, none,.bin .eql (.t 10) (.c (vi 0))⟩] [2,3,11] []
def Jqa:IC:=.reg [⟨some 12, none,.bsl 2 [(vi 0),(vi 0)] 0 []⟩,⟨some 13, none,.build [(vi 0),(.slice none 0 0)] [(0,1,(.c (vi 7))),(1,1,(.t 12))]⟩,⟨some 4, none,.alloc [(vi 0),(.slice none 0 0)]⟩,⟨none,none,.storef 2 (.t 4) (.t 13)⟩] [2,3,4] []
def Jo3:IC:=.reg [⟨some 14, none,.build [(vi 0),(vi 0)] [(0,1,(.c (vi 0))),(1,1,(.c (vi 1)))]⟩,⟨some 15, none,.build [(vi 0),(vi 0)] [(0,1,(.c (vi 0))),(1,1,(.c (vi 2)))]⟩,⟨some 16, none,.build [(vi 0),(vi 0)] [(0,1,(.c (vi 1))),(1,1,(.c (vi 2)))]⟩,⟨some 17, none,.build [(vi 0),(vi 0)] [(0,1,(.c (vi 3))),(1,1,(.c (vi 4)))]⟩,⟨some 18, none,.build [(vi 0),(vi 0)] [(0,1,(.c (vi 3))),(1,1,(.c (vi 5)))]⟩,⟨some 19, none,.build [(vi 0),(vi 0)] [(0,1,(.c (vi 4))),(1,1,(.c (vi 5)))]⟩,⟨some 20, none,.build [(vi 0),(vi 0)] [(0,1,(.c (vi 5))),(1,1,(.c (vi 6)))]⟩,⟨some 21, none,.bsl 2 [(vi 0),(vi 0)] 7 [(0,(.t 14)),(1,(.t 15)),(2,(.t 16)),(3,(.t 17)),(4,(.t 18)),(5,(.t 19)),(6,(.t 20))]⟩,⟨some 5, none,.asg (.t 21)⟩] [2,3,4,5] []
def Jna:IC:=.reg [⟨some 6, none,.asg (.c (vi 0))⟩] [2,3,4,5,6] []
def Jvr:IC:=.reg [⟨some 22, none,.mv (.t 6)⟩,⟨some 23, none,.mv (.t 5)⟩,⟨some 24, none,.len (.t 23)⟩,⟨some 25, none,.bin .lss (.t 22) (.t 24)⟩] [2,3,4,5,6,25] []
def Jlp:IC:=.reg [⟨some 28, none,.mv (.t 3)⟩,⟨some 29, none,.call Qhx [(.val,(.t 28)),(.val,(.c (vi 8)))] false⟩,⟨some 30, none,.bin .gtr (.t 29) (.c (vi 0))⟩] [2,3,4,5,6,30] []
def Jr5:IC:=.reg [⟨some 31, none,.load true 2 (.t 4)⟩,⟨some 32, none,.mv (.t 5)⟩,⟨some 33, none,.mv (.t 6)⟩,⟨some 34, none,.iadr 2 (.t 32) (.t 33)⟩,⟨some 35, none,.fadr 0 (.t 34)⟩,⟨some 36, none,.load false 1 (.t 35)⟩,⟨some 37, none,.mv (.t 5)⟩,⟨some 38, none,.mv (.t 6)⟩,⟨some 39, none,.iadr 2 (.t 37) (.t 38)⟩,⟨some 40, none,.fadr 1 (.t 39)⟩,⟨some 41, none,.load false 1 (.t 40)⟩,⟨some 42, none,.call Qqg [(.rd,(.t 31)),(.val,(.t 36)),(.val,(.t 41))] true⟩,⟨none,none,.storef 2 (.t 4) (.t 42)⟩] [2,3,4,5,6] []
def Jkt:IC:=.reg [⟨some 26, none,.mv (.t 6)⟩,⟨some 27, none,.bin .add (.t 26) (.c (vi 1))⟩,⟨some 6, none,.asg (.t 27)⟩] [2,3,4,5,6] []
def Qwg:IC:=(.seq (.seq Jvr (.cond (.t 25) .skip (.exit 0))) (.seq (.block 1 (.seq Jlp (.cond (.t 30) Jr5 .skip))) Jkt))
def Ji0:IC:=.reg [⟨some 43, none,.load true 2 (.t 4)⟩,⟨none,none,.storef 2 (.t 2) (.t 43)⟩] [2] []
def Je9:IC:=.reg [⟨some 44, none,.mv (.t 3)⟩,⟨some 45, none,.call Qta [(.val,(.t 44))] false⟩,⟨none,none,.storef 2 (.t 2) (.t 45)⟩] [2] []
def Qx3:Qa4:=⟨[.c 2 2 true],[],(.seq Jki (.seq Jp7 (.seq (.seq Jts (.cond (.t 11) (.seq Jqa (.seq Jo3 (.seq (.seq Jna (.block 0 (.loop Qwg))) (.seq Ji0 .ret)))) .skip)) (.seq Je9 .ret))))⟩
def Jkg:IC:=.reg [⟨some 4, none,.alloc [(vi 0),(.slice none 0 0)]⟩] [0,1,4] []
def Jnf:IC:=.reg [⟨some 9, none,.mv (.t 1)⟩,⟨some 10, none,.bsl 2 [(vi 0),(vi 0)] 0 []⟩,⟨some 11, none,.build [(vi 0),(.slice none 0 0)] [(0,1,(.t 9)),(1,1,(.t 10))]⟩,⟨some 5, none,.alloc [(vi 0),(.slice none 0 0)]⟩,⟨none,none,.store 2 (.t 5) (.t 11)⟩] [0,1,4,5] []
def Jmg:IC:=.reg [⟨some 12, none,.mv (.t 1)⟩,⟨some 13, none,.call Qsz [(.val,(.t 12))] true⟩,⟨some 6, none,.asg (.t 13)⟩] [0,4,5,6] []
def Jtq:IC:=.reg [⟨some 14, none,.mv (.t 0)⟩,⟨some 15, none,.call Qhx [(.val,(.t 14)),(.val,(.c (vi 3)))] false⟩,⟨some 16, none,.bin .add (.c (vi 2)) (.t 15)⟩,⟨some 7, none,.asg (.t 16)⟩] [0,4,5,6,7] []
def Jlr:IC:=.reg [⟨some 8, none,.asg (.c (vi 0))⟩] [0,4,5,6,7,8] []
def Jny:IC:=.reg [⟨some 17, none,.mv (.t 8)⟩,⟨some 18, none,.mv (.t 6)⟩,⟨some 19, none,.len (.t 18)⟩,⟨some 20, none,.bin .lss (.t 17) (.t 19)⟩] [0,4,5,6,7,8,20] []
def Jss:IC:=.reg [⟨some 23, none,.mv (.t 0)⟩,⟨some 24, none,.mv (.t 7)⟩,⟨some 25, none,.call Qhx [(.val,(.t 23)),(.val,(.t 24))] false⟩,⟨some 26, none,.bin .eql (.t 25) (.c (vi 0))⟩] [0,4,5,6,7,8,26] []
def Jq2:IC:=.reg [⟨some 27, none,.fadr 1 (.t 5)⟩,⟨some 28, none,.load false 1 (.t 27)⟩,⟨some 29, none,.mv (.t 6)⟩,⟨some 30, none,.mv (.t 8)⟩,⟨some 31, none,.iadr 2 (.t 29) (.t 30)⟩,⟨some 32, none,.load true 2 (.t 31)⟩,⟨some 33, none,.bsl 2 [(vi 0),(vi 0)] 1 [(0,(.t 32))]⟩,⟨some 34, none,.app 2 (.t 28) (.t 33)⟩,⟨some 35, none,.fadr 1 (.t 5)⟩,⟨none,none,.store 1 (.t 35) (.t 34)⟩] [0,4,5,6,7,8] [[0,2,3,4,5,6,1,7,8,9]]
def Job:IC:=.reg [⟨some 21, none,.mv (.t 8)⟩,⟨some 22, none,.bin .add (.t 21) (.c (vi 1))⟩,⟨some 8, none,.asg (.t 22)⟩] [0,4,5,6,7,8] []
def Jdw:IC:=(.seq (.seq Jny (.cond (.t 20) .skip (.exit 0))) (.seq (.block 1 (.seq Jss (.cond (.t 26) Jq2 .skip))) Job))
def Jgy:IC:=.reg [⟨some 36, none,.mv (.t 0)⟩,⟨some 37, none,.call Qhx [(.val,(.t 36)),(.val,(.c (vi 4)))] false⟩,⟨some 38, none,.bin .eql (.t 37) (.c (vi 0))⟩] [4,5,38] []
def Jiw:IC:=.reg [⟨some 39, none,.load true 2 (.t 5)⟩,⟨some 40, none,.call Qxo [(.rd,(.t 39))] true⟩,⟨none,none,.store 2 (.t 4) (.t 40)⟩] [4] []
def Jho:IC:=.reg [⟨some 41, none,.load true 2 (.t 5)⟩,⟨none,none,.store 2 (.t 4) (.t 41)⟩] [4] []
def Qx2:Qa4:=⟨[.c 4 2 true],[],(.seq Jkg (.seq Jnf (.seq Jmg (.seq Jtq (.seq (.seq Jlr (.block 0 (.loop Jdw))) (.seq (.seq Jgy (.cond (.t 38) (.seq Jiw .ret) .skip)) (.seq Jho .ret)))))))⟩
def Jkr:IC:=.reg [⟨some 3, none,.box (.t 0)⟩,⟨some 6, none,.alloc [(vi 0),(.slice none 0 0)]⟩] [1,2,3,6] []
def Jrq:IC:=.reg [⟨some 10, none,.mv (.t 1)⟩,⟨some 11, none,.mv (.t 2)⟩,⟨some 12, none,.minmax true (.t 10) (.t 11)⟩,⟨some 13, none,.mv (.t 1)⟩,⟨some 14, none,.mv (.t 2)⟩,⟨some 15, none,.minmax false (.t 13) (.t 14)⟩,⟨some 16, none,.build [(vi 0),(vi 0)] [(0,1,(.t 12)),(1,1,(.t 15))]⟩,⟨some 7, none,.alloc [(vi 0),(vi 0)]⟩,⟨none,none,.store 2 (.t 7) (.t 16)⟩] [3,6,7] []
def Jpv:IC:=.reg [⟨some 8, none,.asg (.c (vi 0))⟩] [3,6,7,8] []
def Jva:IC:=.reg [⟨some 17, none,.mv (.t 8)⟩,⟨some 18, none,.fadr 1 (.t 3)⟩,⟨some 19, none,.load false 1 (.t 18)⟩,⟨some 20, none,.len (.t 19)⟩,⟨some 21, none,.bin .lss (.t 17) (.t 20)⟩,⟨some 22, none,.asg (.t 21)⟩,⟨some 23, (some (22,true)),.fadr 1 (.t 3)⟩,⟨some 24, (some (22,true)),.load false 1 (.t 23)⟩,⟨some 25, (some (22,true)),.mv (.t 8)⟩,⟨some 26, (some (22,true)),.iadr 2 (.t 24) (.t 25)⟩,⟨some 27, (some (22,true)),.load true 2 (.t 26)⟩,⟨some 28, (some (22,true)),.load true 2 (.t 7)⟩,⟨some 29, (some (22,true)),.call Qsy [(.val,(.t 27)),(.val,(.t 28))] true⟩,⟨some 30, none,.pick (.t 22) (.t 29) (.c (.bool false))⟩] [3,6,7,8,30] []
def Jue:IC:=.reg [⟨some 31, none,.mv (.t 8)⟩,⟨some 32, none,.bin .add (.t 31) (.c (vi 1))⟩,⟨some 8, none,.asg (.t 32)⟩] [3,6,7,8] []
def Jdj:IC:=(.seq (.seq Jva (.cond (.t 30) .skip (.exit 0))) (.block 1 Jue))
def Jvd:IC:=.reg [⟨some 33, none,.bsl 2 [(vi 0),(vi 0)] 0 []⟩,⟨some 34, none,.fadr 1 (.t 3)⟩,⟨some 35, none,.load false 1 (.t 34)⟩,⟨some 36, none,.mv (.t 8)⟩,⟨some 37, none,.slc 2 (.t 35) none (some (.t 36)) none⟩,⟨some 38, none,.app 2 (.t 33) (.t 37)⟩,⟨some 9, none,.asg (.t 38)⟩] [3,6,7,8,9] []
def Jsu:IC:=.reg [⟨some 39, none,.fadr 0 (.t 3)⟩,⟨some 40, none,.load false 1 (.t 39)⟩,⟨some 41, none,.mv (.t 9)⟩,⟨some 42, none,.load true 2 (.t 7)⟩,⟨some 43, none,.bsl 2 [(vi 0),(vi 0)] 1 [(0,(.t 42))]⟩,⟨some 44, none,.app 2 (.t 41) (.t 43)⟩,⟨some 45, none,.fadr 1 (.t 3)⟩,⟨some 46, none,.load false 1 (.t 45)⟩,⟨some 47, none,.mv (.t 8)⟩,⟨some 48, none,.slc 2 (.t 46) (some (.t 47)) none none⟩,⟨some 49, none,.app 2 (.t 44) (.t 48)⟩,⟨some 50, none,.build [(vi 0),(.slice none 0 0)] [(0,1,(.t 40)),(1,1,(.t 49))]⟩,
    ⟨none,none,.store 2 (.t 6) (.t 50)⟩] [6] [[0,1,2,3,4,6,7,5,8,9,10,11,12],[0,1,2,3,6,7,4,5,8,9,10,11,12],[0,2,3,4,1,5,6,7,8,9,10,11,12],[0,2,3,4,1,6,7,5,8,9,10,11,12],[0,2,3,6,7,4,1,5,8,9,10,11,12],[0,2,3,4,5,1,6,7,8,9,10,11,12],[0,2,3,4,5,6,7,8,9,10,1,11,12],[0,2,3,4,6,7,5,1,8,9,10,11,12],[0,2,3,4,6,7,5,8,9,10,1,11,12],[0,2,3,6,7,4,5,1,8,9,10,11,12],[0,2,3,6,7,4,5,8,9,10,1,11,12]]
def Jay:Qa4:=⟨[.c 6 2 true],[],(.seq Jkr (.seq Jrq (.seq Jpv (.seq (.block 0 (.loop Jdj)) (.seq Jvd (.seq Jsu .ret))))))⟩
def Jn4:IC:=.reg [⟨some 1, none,.box (.t 0)⟩,⟨some 2, none,.alloc [(vi 0),(.slice none 0 0)]⟩] [1,2] []
def Jt6:IC:=.reg [⟨some 6, none,.fadr 0 (.t 1)⟩,⟨some 7, none,.load false 1 (.t 6)⟩,⟨some 8, none,.bsl 2 [(vi 0),(vi 0)] 0 []⟩,⟨some 9, none,.build [(vi 0),(.slice none 0 0)] [(0,1,(.t 7)),(1,1,(.t 8))]⟩,⟨some 3, none,.alloc [(vi 0),(.slice none 0 0)]⟩,⟨none,none,.store 2 (.t 3) (.t 9)⟩] [1,2,3] []
def Jwc:IC:=.reg [⟨some 10, none,.fadr 0 (.t 1)⟩,⟨some 11, none,.load false 1 (.t 10)⟩,⟨some 12, none,.call Qsz [(.val,(.t 11))] true⟩,⟨some 4, none,.asg (.t 12)⟩] [1,2,3,4] []
def Jsk:IC:=.reg [⟨some 5, none,.asg (.c (vi 0))⟩] [1,2,3,4,5] []
def Jvn:IC:=.reg [⟨some 13, none,.mv (.t 5)⟩,⟨some 14, none,.mv (.t 4)⟩,⟨some 15, none,.len (.t 14)⟩,⟨some 16, none,.bin .lss (.t 13) (.t 15)⟩] [1,2,3,4,5,16] []
def Js9:IC:=.reg [⟨some 19, none,.load true 2 (.t 1)⟩,⟨some 20, none,.mv (.t 4)⟩,⟨some 21, none,.mv (.t 5)⟩,⟨some 22, none,.iadr 2 (.t 20) (.t 21)⟩,⟨some 23, none,.fadr 0 (.t 22)⟩,⟨some 24, none,.load false 1 (.t 23)⟩,⟨some 25, none,.mv (.t 4)⟩,⟨some 26, none,.mv (.t 5)⟩,⟨some 27, none,.iadr 2 (.t 25) (.t 26)⟩,⟨some 28, none,.fadr 1 (.t 27)⟩,⟨some 29, none,.load false 1 (.t 28)⟩,⟨some 30, none,.call Qyh [(.rd,(.t 19)),(.val,(.t 24)),(.val,(.t 29))] true⟩,⟨some 31, none,.unop .not (.t 30)⟩] [1,2,3,4,5,31] []
def Jlz:IC:=.reg [⟨some 32, none,.fadr 1 (.t 3)⟩,⟨some 33, none,.load false 1 (.t 32)⟩,⟨some 34, none,.mv (.t 4)⟩,⟨some 35, none,.mv (.t 5)⟩,⟨some 36, none,.iadr 2 (.t 34) (.t 35)⟩,⟨some 37, none,.load true 2 (.t 36)⟩,⟨some 38, none,.bsl 2 [(vi 0),(vi 0)] 1 [(0,(.t 37))]⟩,⟨some 39, none,.app 2 (.t 33) (.t 38)⟩,⟨some 40, none,.fadr 1 (.t 3)⟩,⟨none,none,.store 1 (.t 40) (.t 39)⟩] [1,2,3,4,5] [[0,2,3,4,5,6,1,7,8,9]]
def Jlx:IC:=.reg [⟨some 17, none,.mv (.t 5)⟩,⟨some 18, none,.bin .add (.t 17) (.c (vi 1))⟩,⟨some 5, none,.asg (.t 18)⟩] [1,2,3,4,5] []
def Jc4:IC:=(.seq (.seq Jvn (.cond (.t 16) .skip (.exit 0))) (.seq (.block 1 (.seq Js9 (.cond (.t 31) Jlz .skip))) Jlx))
def Jsn:IC:=.reg [⟨some 41, none,.load true 2 (.t 3)⟩,⟨none,none,.store 2 (.t 2) (.t 41)⟩] [2] []
def Qzp:Qa4:=⟨[.c 2 2 true],[],(.seq Jn4 (.seq Jt6 (.seq Jwc (.seq (.seq Jsk (.block 0 (.loop Jc4))) (.seq Jsn .ret)))))⟩
def Jt1:IC:=.reg [⟨some 2, none,.box (.t 0)⟩,⟨some 4, none,.asg (.c (.slice none 0 0))⟩] [1,2] []
def Jnm:IC:=.reg [⟨some 11, none,.fadr 0 (.t 2)⟩,⟨some 12, none,.load false 1 (.t 11)⟩,⟨some 13, none,.mksl 1 [(.bool false)] (.t 12) (.t 12)⟩,⟨some 5, none,.asg (.t 13)⟩] [1,2,5] []
def Jua:IC:=.reg [⟨some 14, none,.mv (.t 5)⟩,⟨some 15, none,.mv (.t 1)⟩,⟨some 16, none,.iadr 1 (.t 14) (.t 15)⟩,⟨none,none,.store 1 (.t 16) (.c (.bool true))⟩] [2,5] []
def Jmt:IC:=.reg [⟨some 6, none,.asg (.c (vi 0))⟩] [2,5,6] []
def Jk5:IC:=.reg [⟨some 17, none,.mv (.t 6)⟩,⟨some 18, none,.fadr 0 (.t 2)⟩,⟨some 19, none,.load false 1 (.t 18)⟩,⟨some 20, none,.bin .lss (.t 17) (.t 19)⟩] [2,5,6,20] []
def Juc:IC:=.reg [⟨some 7, none,.asg (.c (vi 0))⟩] [2,5,6,7] []
def Jtf:IC:=.reg [⟨some 23, none,.mv (.t 7)⟩,⟨some 24, none,.fadr 1 (.t 2)⟩,⟨some 25, none,.load false 1 (.t 24)⟩,⟨some 26, none,.len (.t 25)⟩,⟨some 27, none,.bin .lss (.t 23) (.t 26)⟩] [2,5,6,7,27] []
def Jkq:IC:=.reg [⟨some 30, none,.fadr 1 (.t 2)⟩,⟨some 31, none,.load false 1 (.t 30)⟩,⟨some 32, none,.mv (.t 7)⟩,⟨some 33, none,.iadr 2 (.t 31) (.t 32)⟩,⟨some 34, none,.load true 2 (.t 33)⟩,⟨some 8, none,.alloc [(vi 0),(vi 0)]⟩,⟨none,none,.store 2 (.t 8) (.t 34)⟩] [2,5,6,7,8] []
def Jl8:IC:=.reg [⟨some 35, none,.mv (.t 5)⟩,⟨some 36, none,.fadr 0 (.t 8)⟩,⟨some 37, none,.load false 1 (.t 36)⟩,⟨some 38, none,.iadr 1 (.t 35) (.t 37)⟩,⟨some 39, none,.load false 1 (.t 38)⟩,⟨some 40, none,.asg (.t 39)⟩,⟨some 41, (some (40,false)),.mv (.t 5)⟩,⟨some 42, (some (40,false)),.fadr 1 (.t 8)⟩,⟨some 43, (some (40,false)),.load false 1 (.t 42)⟩,⟨some 44, (some (40,false)),.iadr 1 (.t 41) (.t 43)⟩,⟨some 45, (some (40,false)),.load false 1 (.t 44)⟩,⟨some 46, none,.pick (.t 40) (.c (.bool true)) (.t 45)⟩] [2,5,6,7,8,46] []
def Joo:IC:=.reg [⟨some 47, none,.mv (.t 5)⟩,⟨some 48, none,.fadr 0 (.t 8)⟩,⟨some 49, none,.load false 1 (.t 48)⟩,⟨some 50, none,.iadr 1 (.t 47) (.t 49)⟩,⟨none,none,.store 1 (.t 50) (.c (.bool true))⟩] [2,5,6,7,8] []
def Jf7:IC:=.reg [⟨some 51, none,.mv (.t 5)⟩,⟨some 52, none,.fadr 1 (.t 8)⟩,⟨some 53, none,.load false 1 (.t 52)⟩,⟨some 54, none,.iadr 1 (.t 51) (.t 53)⟩,⟨none,none,.store 1 (.t 54) (.c (.bool true))⟩] [2,5,6,7] []
def Je1:IC:=.reg [⟨some 28, none,.mv (.t 7)⟩,⟨some 29, none,.bin .add (.t 28) (.c (vi 1))⟩,⟨some 7, none,.asg (.t 29)⟩] [2,5,6,7] []
def Qyb:IC:=(.seq (.seq Jtf (.cond (.t 27) .skip (.exit 2))) (.seq (.block 3 (.seq Jkq (.seq Jl8 (.cond (.t 46) (.seq Joo Jf7) .skip)))) Je1))
def Jh7:IC:=.reg [⟨some 21, none,.mv (.t 6)⟩,⟨some 22, none,.bin .add (.t 21) (.c (vi 1))⟩,⟨some 6, none,.asg (.t 22)⟩] [2,5,6] []
def Qzi:IC:=(.seq (.seq Jk5 (.cond (.t 20) .skip (.exit 0))) (.seq (.block 1 (.seq Juc (.block 2 (.loop Qyb)))) Jh7))
def Jgo:IC:=.reg [⟨some 55, none,.bsl 1 [(vi 0)] 0 []⟩,⟨some 9, none,.asg (.t 55)⟩] [2,5,9] []
def Jfi:IC:=.reg [⟨some 10, none,.asg (.c (vi 0))⟩] [2,5,9,10] []
def Jd8:IC:=.reg [⟨some 56, none,.mv (.t 10)⟩,⟨some 57, none,.fadr 0 (.t 2)⟩,⟨some 58, none,.load false 1 (.t 57)⟩,⟨some 59, none,.bin .lss (.t 56) (.t 58)⟩] [2,5,9,10,59] []
def Jjd:IC:=.reg [⟨some 62, none,.mv (.t 5)⟩,⟨some 63, none,.mv (.t 10)⟩,⟨some 64, none,.iadr 1 (.t 62) (.t 63)⟩,⟨some 65, none,.load false 1 (.t 64)⟩] [2,5,9,10,65] []
def Jea:IC:=.reg [⟨some 66, none,.mv (.t 9)⟩,⟨some 67, none,.mv (.t 10)⟩,⟨some 68, none,.bsl 1 [(vi 0)] 1 [(0,(.t 67))]⟩,⟨some 69, none,.app 1 (.t 66) (.t 68)⟩,⟨some 9, none,.asg (.t 69)⟩] [2,5,9,10] []
def Ji3:IC:=.reg [⟨some 60, none,.mv (.t 10)⟩,⟨some 61, none,.bin .add (.t 60) (.c (vi 1))⟩,⟨some 10, none,.asg (.t 61)⟩] [2,5,9,10] []
def Qwv:IC:=(.seq (.seq Jd8 (.cond (.t 59) .skip (.exit 4))) (.seq (.block 5 (.seq Jjd (.cond (.t 65) Jea .skip))) Ji3))
def Jer:IC:=.reg [⟨some 70, none,.mv (.t 9)⟩,⟨some 4, none,.asgm (.t 70)⟩] [4,9] []
def Jat:Qa4:=⟨[.t 4],[],(.seq Jt1 (.seq Jnm (.seq Jua (.seq (.seq Jmt (.block 0 (.loop Qzi))) (.seq Jgo (.seq (.seq Jfi (.block 4 (.loop Qwv))) (.seq Jer .ret)))))))⟩
def Jns:IC:=.reg [⟨some 1, none,.box (.t 0)⟩,⟨some 2, none,.asg (.c (.slice none 0 0))⟩] [1] []
def Jky:IC:=.reg [⟨some 6, none,.bsl 1 [(.slice none 0 0)] 0 []⟩,⟨some 3, none,.asg (.t 6)⟩] [1,3] []
def Jlv:IC:=.reg [⟨some 4, none,.asg (.c (vi 0))⟩] [1,3,4] []
def Jly:IC:=.reg [⟨some 7, none,.mv (.t 4)⟩,⟨some 8, none,.fadr 0 (.t 1)⟩,⟨some 9, none,.load false 1 (.t 8)⟩,⟨some 10, none,.bin .lss (.t 7) (.t 9)⟩] [1,3,4,10] []
def Jqp:IC:=.reg [⟨some 13, none,.load true 2 (.t 1)⟩,⟨some 14, none,.mv (.t 4)⟩,⟨some 15, none,.call Qqw [(.rd,(.t 13)),(.val,(.t 14))] true⟩,⟨some 5, none,.asg (.t 15)⟩] [1,3,4,5] []
def Jqk:IC:=.reg [⟨some 16, none,.mv (.t 5)⟩,⟨some 17, none,.iadr 1 (.t 16) (.c (vi 0))⟩,⟨some 18, none,.load false 1 (.t 17)⟩,⟨some 19, none,.mv (.t 4)⟩,⟨some 20, none,.bin .eql (.t 18) (.t 19)⟩] [1,3,4,5,20] []
def Jl7:IC:=.reg [⟨some 21, none,.mv (.t 3)⟩,⟨some 22, none,.mv (.t 5)⟩,⟨some 23, none,.bsl 1 [(.slice none 0 0)] 1 [(0,(.t 22))]⟩,⟨some 24, none,.app 1 (.t 21) (.t 23)⟩,⟨some 3, none,.asg (.t 24)⟩] [1,3,4] []
def Juf:IC:=.reg [⟨some 11, none,.mv (.t 4)⟩,⟨some 12, none,.bin .add (.t 11) (.c (vi 1))⟩,⟨some 4, none,.asg (.t 12)⟩] [1,3,4] []
def Jc5:IC:=(.seq (.seq Jly (.cond (.t 10) .skip (.exit 0))) (.seq (.block 1 (.seq Jqp (.seq Jqk (.cond (.t 20) Jl7 .skip)))) Juf))
def Jmj:IC:=.reg [⟨some 25, none,.mv (.t 3)⟩,⟨some 2, none,.asgm (.t 25)⟩] [2,3] []
def Jbw:Qa4:=⟨[.t 2],[],(.seq Jns (.seq Jky (.seq (.seq Jlv (.block 0 (.loop Jc5))) (.seq Jmj .ret))))⟩
def Jsy:IC:=.reg [⟨some 3, none,.box (.t 0)⟩,⟨some 6, none,.alloc [(vi 0),(.slice none 0 0)]⟩] [1,2,3,6] []
def Jkz:IC:=.reg [⟨some 10, none,.fadr 0 (.t 3)⟩,⟨some 11, none,.load false 1 (.t 10)⟩,⟨some 12, none,.bsl 2 [(vi 0),(vi 0)] 0 []⟩,⟨some 13, none,.build [(vi 0),(.slice none 0 0)] [(0,1,(.t 11)),(1,1,(.t 12))]⟩,⟨some 7, none,.alloc [(vi 0),(.slice none 0 0)]⟩,⟨none,none,.store 2 (.t 7) (.t 13)⟩] [1,2,3,6,7] []
def Js7:IC:=.reg [⟨some 8, none,.asg (.c (vi 0))⟩] [1,2,3,6,7,8] []
def Jj6:IC:=.reg [⟨some 14, none,.mv (.t 8)⟩,⟨some 15, none,.fadr 1 (.t 3)⟩,⟨some 16, none,.load false 1 (.t 15)⟩,⟨some 17, none,.len (.t 16)⟩,⟨some 18, none,.bin .lss (.t 14) (.t 17)⟩] [1,2,3,6,7,8,18] []
def Jro:IC:=.reg [⟨some 21, none,.fadr 1 (.t 3)⟩,⟨some 22, none,.load false 1 (.t 21)⟩,⟨some 23, none,.mv (.t 8)⟩,⟨some 24, none,.iadr 2 (.t 22) (.t 23)⟩,⟨some 25, none,.load true 2 (.t 24)⟩,⟨some 9, none,.alloc [(vi 0),(vi 0)]⟩,⟨none,none,.store 2 (.t 9) (.t 25)⟩] [1,2,3,6,7,8,9] []
def Jr3:IC:=.reg [⟨some 26, none,.fadr 0 (.t 9)⟩,⟨some 27, none,.load false 1 (.t 26)⟩,⟨some 28, none,.mv (.t 1)⟩,⟨some 29, none,.mv (.t 2)⟩,⟨some 30, none,.minmax true (.t 28) (.t 29)⟩,⟨some 31, none,.bin .neq (.t 27) (.t 30)⟩,⟨some 32, none,.asg (.t 31)⟩,⟨some 33, (some (32,false)),.fadr 1 (.t 9)⟩,⟨some 34, (some (32,false)),.load false 1 (.t 33)⟩,⟨some 35, (some (32,false)),.mv (.t 1)⟩,⟨some 36, (some (32,false)),.mv (.t 2)⟩,⟨some 37, (some (32,false)),.minmax false (.t 35) (.t 36)⟩,⟨some 38, (some (32,false)),.bin .neq (.t 34) (.t 37)⟩,⟨some 39, none,.pick (.t 32) (.c (.bool true)) (.t 38)⟩] [1,2,3,6,7,8,9,39] []
def Jor:IC:=.reg [⟨some 40, none,.fadr 1 (.t 7)⟩,⟨some 41, none,.load false 1 (.t 40)⟩,⟨some 42, none,.load true 2 (.t 9)⟩,⟨some 43, none,.bsl 2 [(vi 0),(vi 0)] 1 [(0,(.t 42))]⟩,⟨some 44, none,.app 2 (.t 41) (.t 43)⟩,⟨some 45, none,.fadr 1 (.t 7)⟩,⟨none,none,.store 1 (.t 45) (.t 44)⟩] [1,2,3,6,7,8] []
def Jnc:IC:=.reg [⟨some 19, none,.mv (.t 8)⟩,⟨some 20, none,.bin .add (.t 19) (.c (vi 1))⟩,⟨some 8, none,.asg (.t 20)⟩] [1,2,3,6,7,8] []
def Jdc:IC:=(.seq (.seq Jj6 (.cond (.t 18) .skip (.exit 0))) (.seq (.block 1 (.seq Jro (.seq Jr3 (.cond (.t 39) Jor .skip)))) Jnc))
def Jol:IC:=.reg [⟨some 46, none,.load true 2 (.t 7)⟩,⟨none,none,.store 2 (.t 6) (.t 46)⟩] [6] []
def Jax:Qa4:=⟨[.c 6 2 true],[],(.seq Jsy (.seq Jkz (.seq (.seq Js7 (.block 0 (.loop Jdc))) (.seq Jol .ret))))⟩
def Jod:IC:=.reg [⟨some 2, none,.box (.t 0)⟩,⟨some 3, none,.box (.t 1)⟩,⟨some 4, none,.asg (.c (.bool false))⟩] [2,3] []
def Jo2:IC:=.reg [⟨some 5, none,.fadr 0 (.t 2)⟩,⟨some 6, none,.load false 1 (.t 5)⟩,⟨some 7, none,.fadr 0 (.t 3)⟩,⟨some 8, none,.load false 1 (.t 7)⟩,⟨some 9, none,.bin .lss (.t 6) (.t 8)⟩,⟨some 10, none,.asg (.t 9)⟩,⟨some 11, (some (10,false)),.fadr 0 (.t 2)⟩,⟨some 12, (some (10,false)),.load false 1 (.t 11)⟩,⟨some 13, (some (10,false)),.fadr 0 (.t 3)⟩,⟨some 14, (some (10,false)),.load false 1 (.t 13)⟩,⟨some 15, (some (10,false)),.bin .eql (.t 12) (.t 14)⟩,⟨some 16, (some (10,false)),.asg (.t 15)⟩,⟨some 17, (some (16,true)),.fadr 1 (.t 2)⟩,⟨some 18, (some (16,true)),.load false 1 (.t 17)⟩,⟨some 19, (some (16,true)),.fadr 1 (.t 3)⟩,⟨some 20, (some (16,true)),.load false 1 (.t 19)⟩,⟨some 21, (some (16,true)),.bin .lss (.t 18) (.t 20)⟩,⟨some 22, (some (10,false)),.pick (.t 16) (.t 21) (.c (.bool false))⟩,⟨some 23, none,.pick (.t 10) (.c (.bool true)) (.t 22)⟩,
    ⟨some 4, none,.asg (.t 23)⟩] [4] []
def Qs5:Qa4:=⟨[.t 4],[],(.seq Jod (.seq Jo2 .ret))⟩
def Jm9:IC:=.reg [⟨some 2, none,.alloc [(vi 0),(.slice none 0 0)]⟩] [0,2] []
def Jps:IC:=.reg [⟨some 3, none,.mv (.t 0)⟩,⟨some 4, none,.mv (.t 0)⟩,⟨some 5, none,.bsl 1 [(vi 0)] 9 [(0,(.c (vi 5))),(1,(.c (vi 4))),(2,(.c (vi 6))),(3,(.c (vi 3))),(4,(.c (vi 5))),(5,(.c (vi 2))),(6,(.c (vi 7))),(7,(.c (vi 1))),(8,(.c (vi 0)))]⟩,⟨some 6, none,.call Qoj [(.val,(.t 4)),(.rd,(.t 5))] false⟩,⟨some 7, none,.call Qs0 [(.val,(.t 3)),(.val,(.t 6))] false⟩,⟨none,none,.store 2 (.t 2) (.t 7)⟩] [2] []
def Jcy:Qa4:=⟨[.c 2 2 true],[],(.seq Jm9 (.seq Jps .ret))⟩
def Js6:IC:=.reg [⟨some 3, none,.box (.t 0)⟩,⟨some 6, none,.asg (.c (.bool false))⟩] [1,2,3] []
def Jqi:IC:=.reg [⟨some 7, none,.asg (.c (vi 0))⟩] [1,2,3,7] []
def Jo4:IC:=.reg [⟨some 9, none,.mv (.t 7)⟩,⟨some 10, none,.fadr 1 (.t 3)⟩,⟨some 11, none,.load false 1 (.t 10)⟩,⟨some 12, none,.len (.t 11)⟩,⟨some 13, none,.bin .lss (.t 9) (.t 12)⟩] [1,2,3,7,13] []
def Jtm:IC:=.reg [⟨some 16, none,.fadr 1 (.t 3)⟩,⟨some 17, none,.load false 1 (.t 16)⟩,⟨some 18, none,.mv (.t 7)⟩,⟨some 19, none,.iadr 2 (.t 17) (.t 18)⟩,⟨some 20, none,.load true 2 (.t 19)⟩,⟨some 8, none,.alloc [(vi 0),(vi 0)]⟩,⟨none,none,.store 2 (.t 8) (.t 20)⟩] [1,2,3,7,8] []
def Qik:IC:=.reg [⟨some 21, none,.fadr 0 (.t 8)⟩,⟨some 22, none,.load false 1 (.t 21)⟩,⟨some 23, none,.mv (.t 1)⟩,⟨some 24, none,.bin .eql (.t 22) (.t 23)⟩,⟨some 25, none,.asg (.t 24)⟩,⟨some 26, (some (25,true)),.fadr 1 (.t 8)⟩,⟨some 27, (some (25,true)),.load false 1 (.t 26)⟩,⟨some 28, (some (25,true)),.mv (.t 2)⟩,⟨some 29, (some (25,true)),.bin .eql (.t 27) (.t 28)⟩,⟨some 30, none,.pick (.t 25) (.t 29) (.c (.bool false))⟩,⟨some 31, none,.asg (.t 30)⟩,⟨some 32, (some (31,false)),.fadr 0 (.t 8)⟩,⟨some 33, (some (31,false)),.load false 1 (.t 32)⟩,⟨some 34, (some (31,false)),.mv (.t 2)⟩,⟨some 35, (some (31,false)),.bin .eql (.t 33) (.t 34)⟩,⟨some 36, (some (31,false)),.asg (.t 35)⟩,⟨some 37, (some (36,true)),.fadr 1 (.t 8)⟩,⟨some 38, (some (36,true)),.load false 1 (.t 37)⟩,⟨some 39, (some (36,true)),.mv (.t 1)⟩,⟨some 40, (some (36,true)),.bin .eql (.t 38) (.t 39)⟩,
    ⟨some 41, (some (31,false)),.pick (.t 36) (.t 40) (.c (.bool false))⟩,⟨some 42, none,.pick (.t 31) (.c (.bool true)) (.t 41)⟩] [1,2,3,7,42] []
def Jpg:IC:=.reg [⟨some 6, none,.asg (.c (.bool true))⟩] [6] []
def Jpr:IC:=.reg [⟨some 14, none,.mv (.t 7)⟩,⟨some 15, none,.bin .add (.t 14) (.c (vi 1))⟩,⟨some 7, none,.asg (.t 15)⟩] [1,2,3,7] []
def Jc7:IC:=(.seq (.seq Jo4 (.cond (.t 13) .skip (.exit 0))) (.seq (.block 1 (.seq Jtm (.seq Qik (.cond (.t 42) (.seq Jpg .ret) .skip)))) Jpr))
def Jkj:IC:=.reg [⟨some 6, none,.asg (.c (.bool false))⟩] [6] []
def Qvr:Qa4:=⟨[.t 6],[],(.seq Js6 (.seq (.seq Jqi (.block 0 (.loop Jc7))) (.seq Jkj .ret)))⟩
def Js3:IC:=.reg [⟨some 4, none,.asg (.c (.bool false))⟩] [0,1] []
def Jk8:IC:=.reg [⟨some 5, none,.asg (.c (vi 0))⟩] [0,1,5] []
def Jrs:IC:=.reg [⟨some 6, none,.mv (.t 5)⟩,⟨some 7, none,.mv (.t 0)⟩,⟨some 8, none,.len (.t 7)⟩,⟨some 9, none,.bin .lss (.t 6) (.t 8)⟩] [0,1,5,9] []
def Jrw:IC:=.reg [⟨some 12, none,.mv (.t 0)⟩,⟨some 13, none,.mv (.t 5)⟩,⟨some 14, none,.iadr 1 (.t 12) (.t 13)⟩,⟨some 15, none,.load false 1 (.t 14)⟩,⟨some 16, none,.mv (.t 1)⟩,⟨some 17, none,.bin .eql (.t 15) (.t 16)⟩] [0,1,5,17] []
def Jr0:IC:=.reg [⟨some 4, none,.asg (.c (.bool true))⟩] [4] []
def Jke:IC:=.reg [⟨some 10, none,.mv (.t 5)⟩,⟨some 11, none,.bin .add (.t 10) (.c (vi 1))⟩,⟨some 5, none,.asg (.t 11)⟩] [0,1,5] []
def Jdp:IC:=(.seq (.seq Jrs (.cond (.t 9) .skip (.exit 0))) (.seq (.block 1 (.seq Jrw (.cond (.t 17) (.seq Jr0 .ret) .skip))) Jke))
def Jkd:IC:=.reg [⟨some 4, none,.asg (.c (.bool false))⟩] [4] []
def Qxn:Qa4:=⟨[.t 4],[],(.seq Js3 (.seq (.seq Jk8 (.block 0 (.loop Jdp))) (.seq Jkd .ret)))⟩
def Jkx:IC:=.reg [⟨some 6, none,.asg (.c (.bool false))⟩] [0,1,2] []
def Jk9:IC:=.reg [⟨some 7, none,.mv (.t 1)⟩,⟨some 8, none,.mv (.t 0)⟩,⟨some 9, none,.bin .leq (.t 7) (.t 8)⟩,⟨some 10, none,.asg (.t 9)⟩,⟨some 11, (some (10,true)),.mv (.t 0)⟩,⟨some 12, (some (10,true)),.mv (.t 2)⟩,⟨some 13, (some (10,true)),.bin .leq (.t 11) (.t 12)⟩,⟨some 14, none,.pick (.t 10) (.t 13) (.c (.bool false))⟩,⟨some 6, none,.asg (.t 14)⟩] [6] []
def Qy5:Qa4:=⟨[.t 6],[],(.seq Jkx (.seq Jk9 .ret))⟩
def Jom:IC:=.reg [⟨some 2, none,.box (.t 0)⟩,⟨some 3, none,.box (.t 1)⟩,⟨some 4, none,.asg (.c (.bool false))⟩] [2,3] []
def Jp1:IC:=.reg [⟨some 5, none,.load true 2 (.t 2)⟩,⟨some 6, none,.fadr 0 (.t 3)⟩,⟨some 7, none,.load false 1 (.t 6)⟩,⟨some 8, none,.fadr 1 (.t 3)⟩,⟨some 9, none,.load false 1 (.t 8)⟩,⟨some 10, none,.call Qq5 [(.rd,(.t 5)),(.val,(.t 7)),(.val,(.t 9))] true⟩,⟨some 11, none,.fadr 0 (.t 3)⟩,⟨some 12, none,.load false 1 (.t 11)⟩,⟨some 13, none,.call Qqw [(.rd,(.t 10)),(.val,(.t 12))] true⟩,⟨some 14, none,.fadr 1 (.t 3)⟩,⟨some 15, none,.load false 1 (.t 14)⟩,⟨some 16, none,.call Qss [(.rd,(.t 13)),(.val,(.t 15))] true⟩,⟨some 17, none,.unop .not (.t 16)⟩,⟨some 4, none,.asg (.t 17)⟩] [4] [[0,1,2,3,4,5,6,7,9,10,8,11,12,13],[0,1,2,3,4,6,9,10,5,7,8,11,12,13],[0,1,2,3,4,6,7,5,8,9,10,11,12,13],[0,1,2,3,4,6,7,5,9,10,8,11,12,13],[0,1,2,3,4,6,7,9,10,5,8,11,12,13]]
def Jb8:Qa4:=⟨[.t 4],[],(.seq Jom (.seq Jp1 .ret))⟩
def Jtx:IC:=.reg [⟨some 1, none,.box (.t 0)⟩,⟨some 2, none,.alloc [(vi 0),(vi 0),(vi 0),(vi 0)]⟩,⟨some 3, none,.asg (.c (.bool false))⟩] [1,2] []
def Jkn:IC:=.reg [⟨some 4, none,.asg (.c (vi 0))⟩] [1,2,4] []
def Jvz:IC:=.reg [⟨some 8, none,.mv (.t 4)⟩,⟨some 9, none,.fadr 1 (.t 1)⟩,⟨some 10, none,.load false 1 (.t 9)⟩,⟨some 11, none,.len (.t 10)⟩,⟨some 12, none,.bin .lss (.t 8) (.t 11)⟩] [1,2,4,12] []
def Jsd:IC:=.reg [⟨some 15, none,.fadr 1 (.t 1)⟩,⟨some 16, none,.load false 1 (.t 15)⟩,⟨some 17, none,.mv (.t 4)⟩,⟨some 18, none,.iadr 2 (.t 16) (.t 17)⟩,⟨some 19, none,.load true 2 (.t 18)⟩,⟨some 5, none,.alloc [(vi 0),(vi 0)]⟩,⟨none,none,.store 2 (.t 5) (.t 19)⟩] [1,2,4,5] []
def Jm6:IC:=.reg [⟨some 20, none,.load true 2 (.t 1)⟩,⟨some 21, none,.load true 2 (.t 5)⟩,⟨some 22, none,.call Qwo [(.rd,(.t 20)),(.val,(.t 21))] true⟩] [1,2,4,5,22] []
def Jpx:IC:=.reg [⟨some 6, none,.asg (.c (vi 0))⟩] [1,2,4,5,6] []
def Joa:IC:=.reg [⟨some 23, none,.mv (.t 6)⟩,⟨some 24, none,.fadr 1 (.t 1)⟩,⟨some 25, none,.load false 1 (.t 24)⟩,⟨some 26, none,.len (.t 25)⟩,⟨some 27, none,.bin .lss (.t 23) (.t 26)⟩] [1,2,4,5,6,27] []
def Jwm:IC:=.reg [⟨some 30, none,.fadr 1 (.t 1)⟩,⟨some 31, none,.load false 1 (.t 30)⟩,⟨some 32, none,.mv (.t 6)⟩,⟨some 33, none,.iadr 2 (.t 31) (.t 32)⟩,⟨some 34, none,.load true 2 (.t 33)⟩,⟨some 7, none,.alloc [(vi 0),(vi 0)]⟩,⟨none,none,.store 2 (.t 7) (.t 34)⟩] [1,2,4,5,6,7] []
def Jl4:IC:=.reg [⟨some 35, none,.load true 2 (.t 1)⟩,⟨some 36, none,.fadr 0 (.t 5)⟩,⟨some 37, none,.load false 1 (.t 36)⟩,⟨some 38, none,.call Qqw [(.rd,(.t 35)),(.val,(.t 37))] true⟩,⟨some 39, none,.fadr 0 (.t 7)⟩,⟨some 40, none,.load false 1 (.t 39)⟩,⟨some 41, none,.call Qss [(.rd,(.t 38)),(.val,(.t 40))] true⟩,⟨some 42, none,.unop .not (.t 41)⟩] [1,2,4,5,6,7,42] [[0,1,2,4,5,3,6,7]]
def Jvy:IC:=.reg [⟨some 43, none,.fadr 0 (.t 5)⟩,⟨some 44, none,.load false 1 (.t 43)⟩,⟨some 45, none,.fadr 1 (.t 5)⟩,⟨some 46, none,.load false 1 (.t 45)⟩,⟨some 47, none,.fadr 0 (.t 7)⟩,⟨some 48, none,.load false 1 (.t 47)⟩,⟨some 49, none,.fadr 1 (.t 7)⟩,⟨some 50, none,.load false 1 (.t 49)⟩,⟨some 51, none,.build [(vi 0),(vi 0),(vi 0),(vi 0)] [(0,1,(.t 44)),(1,1,(.t 46)),(2,1,(.t 48)),(3,1,(.t 50))]⟩,⟨none,none,.store 4 (.t 2) (.t 51)⟩,⟨some 3, none,.asg (.c (.bool true))⟩] [2,3] []
def Jha:IC:=.reg [⟨some 28, none,.mv (.t 6)⟩,⟨some 29, none,.bin .add (.t 28) (.c (vi 1))⟩,⟨some 6, none,.asg (.t 29)⟩] [1,2,4,5,6] []
def Qy4:IC:=(.seq (.seq Joa (.cond (.t 27) .skip (.exit 2))) (.seq (.block 3 (.seq Jwm (.seq Jl4 (.cond (.t 42) (.seq Jvy .ret) .skip)))) Jha))
def Jje:IC:=.reg [⟨some 13, none,.mv (.t 4)⟩,⟨some 14, none,.bin .add (.t 13) (.c (vi 1))⟩,⟨some 4, none,.asg (.t 14)⟩] [1,2,4] []
def Qv6:IC:=(.seq (.seq Jvz (.cond (.t 12) .skip (.exit 0))) (.seq (.block 1 (.seq Jsd (.seq (.seq Jm6 (.cond (.t 22) (.exit 1) .skip)) (.seq Jpx (.block 2 (.loop Qy4)))))) Jje))
def Jef:IC:=.reg [⟨some 52, none,.build [(vi 0),(vi 0),(vi 0),(vi 0)] []⟩,⟨none,none,.store 4 (.t 2) (.t 52)⟩,⟨some 3, none,.asg (.c (.bool false))⟩] [2,3] []
def Qyn:Qa4:=⟨[.c 2 4 true,.t 3],[],(.seq Jtx (.seq (.seq Jkn (.block 0 (.loop Qv6))) (.seq Jef .ret)))⟩
def Jwu:IC:=.reg [⟨some 2, none,.asg (.c (.pointer none))⟩] [0] []
def Jud:IC:=.reg [⟨some 3, none,.mv (.t 0)⟩,⟨some 4, none,.len (.t 3)⟩,⟨some 5, none,.bin .gtr (.t 4) (.c (vi 2000))⟩] [0,5] []
def Jwk:IC:=.reg [⟨some 6, none,.mv (.t 0)⟩,⟨some 7, none,.slc 1 (.t 6) none (some (.c (vi 2000))) none⟩,⟨some 0, none,.asgm (.t 7)⟩] [0] []
def Jux:IC:=.reg [⟨some 8, none,.mv (.t 0)⟩,⟨some 9, none,.build [(.slice none 0 0),(vi 0)] [(0,1,(.t 8))]⟩,⟨some 10, none,.box (.t 9)⟩,⟨some 2, none,.asg (.t 10)⟩] [2] []
def Qw0:Qa4:=⟨[.t 2],[],(.seq Jwu (.seq (.seq Jud (.cond (.t 5) Jwk .skip)) (.seq Jux .ret)))⟩
def Juv:IC:=.reg [⟨some 2, none,.asg (.c (.slice none 0 0))⟩] [0] []
def Jmx:IC:=.reg [⟨some 6, none,.bsl 2 [(vi 0),(vi 0)] 0 []⟩,⟨some 3, none,.asg (.t 6)⟩] [0,3] []
def Jm7:IC:=.reg [⟨some 4, none,.asg (.c (vi 0))⟩] [0,3,4] []
def Jo5:IC:=.reg [⟨some 7, none,.mv (.t 4)⟩,⟨some 8, none,.mv (.t 0)⟩,⟨some 9, none,.bin .lss (.t 7) (.t 8)⟩] [0,3,4,9] []
def Jlu:IC:=.reg [⟨some 12, none,.mv (.t 4)⟩,⟨some 13, none,.bin .add (.t 12) (.c (vi 1))⟩,⟨some 5, none,.asg (.t 13)⟩] [0,3,4,5] []
def Jtu:IC:=.reg [⟨some 14, none,.mv (.t 5)⟩,⟨some 15, none,.mv (.t 0)⟩,⟨some 16, none,.bin .lss (.t 14) (.t 15)⟩] [0,3,4,5,16] []
def Jk1:IC:=.reg [⟨some 19, none,.mv (.t 3)⟩,⟨some 20, none,.mv (.t 4)⟩,⟨some 21, none,.mv (.t 5)⟩,⟨some 22, none,.build [(vi 0),(vi 0)] [(0,1,(.t 20)),(1,1,(.t 21))]⟩,⟨some 23, none,.bsl 2 [(vi 0),(vi 0)] 1 [(0,(.t 22))]⟩,⟨some 24, none,.app 2 (.t 19) (.t 23)⟩,⟨some 3, none,.asg (.t 24)⟩] [0,3,4,5] []
def Jm2:IC:=.reg [⟨some 17, none,.mv (.t 5)⟩,⟨some 18, none,.bin .add (.t 17) (.c (vi 1))⟩,⟨some 5, none,.asg (.t 18)⟩] [0,3,4,5] []
def Jdy:IC:=(.seq (.seq Jtu (.cond (.t 16) .skip (.exit 2))) (.seq (.block 3 Jk1) Jm2))
def Jl0:IC:=.reg [⟨some 10, none,.mv (.t 4)⟩,⟨some 11, none,.bin .add (.t 10) (.c (vi 1))⟩,⟨some 4, none,.asg (.t 11)⟩] [0,3,4] []
def Qw5:IC:=(.seq (.seq Jo5 (.cond (.t 9) .skip (.exit 0))) (.seq (.block 1 (.seq Jlu (.block 2 (.loop Jdy)))) Jl0))
def Jht:IC:=.reg [⟨some 25, none,.mv (.t 3)⟩,⟨some 2, none,.asgm (.t 25)⟩] [2,3] []
def Jau:Qa4:=⟨[.t 2],[],(.seq Juv (.seq Jmx (.seq (.seq Jm7 (.block 0 (.loop Qw5))) (.seq Jht .ret))))⟩
def Juq:IC:=.reg [⟨some 4, none,.asg (.c (vi 0))⟩] [0,1] []
def Jpc:IC:=.reg [⟨some 5, none,.mv (.t 1)⟩,⟨some 6, none,.mv (.t 0)⟩,⟨some 7, none,.mv (.t 1)⟩,⟨some 8, none,.len (.t 7)⟩,⟨some 9, none,.call Qhx [(.val,(.t 6)),(.val,(.t 8))] false⟩,⟨some 10, none,.iadr 1 (.t 5) (.t 9)⟩,⟨some 11, none,.load false 1 (.t 10)⟩,⟨some 4, none,.asg (.t 11)⟩] [4] []
def Jby:Qa4:=⟨[.t 4],[],(.seq Juq (.seq Jpc .ret))⟩
def Jnb:IC:=.reg [⟨some 4, none,.asg (.c (vi 0))⟩] [0,1] []
def Jne:IC:=.reg [⟨some 7, none,.mv (.t 0)⟩,⟨some 8, none,.mv (.t 0)⟩,⟨some 9, none,.nilck (.t 8)⟩,⟨some 10, none,.fadr 1 (.t 9)⟩,⟨some 11, none,.load false 1 (.t 10)⟩,⟨some 12, none,.bin .add (.t 11) (.c (vi 1))⟩,⟨some 13, none,.nilck (.t 7)⟩,⟨some 14, none,.fadr 1 (.t 13)⟩,⟨none,none,.store 1 (.t 14) (.t 12)⟩] [0,1] []
def Juw:IC:=.reg [⟨some 15, none,.mv (.t 1)⟩,⟨some 16, none,.bin .lss (.t 15) (.c (vi 1))⟩,⟨some 17, none,.asg (.t 16)⟩,⟨some 18, (some (17,false)),.mv (.t 0)⟩,⟨some 19, (some (17,false)),.nilck (.t 18)⟩,⟨some 20, (some (17,false)),.fadr 0 (.t 19)⟩,⟨some 21, (some (17,false)),.load false 1 (.t 20)⟩,⟨some 22, (some (17,false)),.len (.t 21)⟩,⟨some 23, (some (17,false)),.bin .eql (.t 22) (.c (vi 0))⟩,⟨some 24, none,.pick (.t 17) (.c (.bool true)) (.t 23)⟩] [0,1,24] []
def Jv3:IC:=.reg [⟨some 4, none,.asg (.c (vi 0))⟩] [4] []
def Jq7:IC:=.reg [⟨some 25, none,.mv (.t 0)⟩,⟨some 26, none,.nilck (.t 25)⟩,⟨some 27, none,.fadr 1 (.t 26)⟩,⟨some 28, none,.load false 1 (.t 27)⟩,⟨some 29, none,.bin .sub (.t 28) (.c (vi 1))⟩,⟨some 5, none,.asg (.t 29)⟩] [0,1,5] []
def Jso:IC:=.reg [⟨some 30, none,.mv (.t 5)⟩,⟨some 31, none,.mv (.t 0)⟩,⟨some 32, none,.nilck (.t 31)⟩,⟨some 33, none,.fadr 0 (.t 32)⟩,⟨some 34, none,.load false 1 (.t 33)⟩,⟨some 35, none,.len (.t 34)⟩,⟨some 36, none,.bin .lss (.t 30) (.t 35)⟩] [0,1,5,36] []
def Jrp:IC:=.reg [⟨some 37, none,.mv (.t 0)⟩,⟨some 38, none,.nilck (.t 37)⟩,⟨some 39, none,.fadr 0 (.t 38)⟩,⟨some 40, none,.load false 1 (.t 39)⟩,⟨some 41, none,.mv (.t 5)⟩,⟨some 42, none,.iadr 1 (.t 40) (.t 41)⟩,⟨some 43, none,.load false 1 (.t 42)⟩,⟨some 44, none,.conv .i64 (.t 43)⟩,⟨some 45, none,.mv (.t 1)⟩,⟨some 46, none,.bin .rem (.t 44) (.t 45)⟩,⟨some 4, none,.asg (.t 46)⟩] [4] []
def Jse:IC:=.reg [⟨some 47, none,.mv (.t 0)⟩,⟨some 48, none,.nilck (.t 47)⟩,⟨some 49, none,.fadr 0 (.t 48)⟩,⟨some 50, none,.load false 1 (.t 49)⟩,⟨some 51, none,.mv (.t 5)⟩,⟨some 52, none,.mv (.t 0)⟩,⟨some 53, none,.nilck (.t 52)⟩,⟨some 54, none,.fadr 0 (.t 53)⟩,⟨some 55, none,.load false 1 (.t 54)⟩,⟨some 56, none,.len (.t 55)⟩,⟨some 57, none,.bin .rem (.t 51) (.t 56)⟩,⟨some 58, none,.iadr 1 (.t 50) (.t 57)⟩,⟨some 59, none,.load false 1 (.t 58)⟩,⟨some 60, none,.conv .i64 (.t 59)⟩,⟨some 61, none,.bin .mul (.t 60) (.c (vi 131))⟩,⟨some 62, none,.mv (.t 0)⟩,⟨some 63, none,.nilck (.t 62)⟩,⟨some 64, none,.fadr 0 (.t 63)⟩,⟨some 65, none,.load false 1 (.t 64)⟩,⟨some 66, none,.mv (.t 5)⟩,⟨some 67, none,.bin .mul (.t 66) (.c (vi 7))⟩,⟨some 68, none,.bin .add (.t 67) (.c (vi 3))⟩,⟨some 69, none,.mv (.t 0)⟩,⟨some 70, none,.nilck (.t 69)⟩,⟨some 71, none,.fadr 0 (.t 70)⟩,
    ⟨some 72, none,.load false 1 (.t 71)⟩,⟨some 73, none,.len (.t 72)⟩,⟨some 74, none,.bin .rem (.t 68) (.t 73)⟩,⟨some 75, none,.iadr 1 (.t 65) (.t 74)⟩,⟨some 76, none,.load false 1 (.t 75)⟩,⟨some 77, none,.conv .i64 (.t 76)⟩,⟨some 78, none,.bin .mul (.t 77) (.c (vi 1117))⟩,⟨some 79, none,.bin .add (.t 61) (.t 78)⟩,⟨some 80, none,.mv (.t 5)⟩,⟨some 81, none,.bin .mul (.t 80) (.c (vi 29))⟩,⟨some 82, none,.bin .add (.t 79) (.t 81)⟩,⟨some 83, none,.mv (.t 5)⟩,⟨some 84, none,.mv (.t 0)⟩,⟨some 85, none,.nilck (.t 84)⟩,⟨some 86, none,.fadr 0 (.t 85)⟩,⟨some 87, none,.load false 1 (.t 86)⟩,⟨some 88, none,.len (.t 87)⟩,⟨some 89, none,.bin .quo (.t 83) (.t 88)⟩,⟨some 90, none,.bin .mul (.t 89) (.c (vi 53))⟩,⟨some 91, none,.bin .add (.t 82) (.t 90)⟩,⟨some 6, none,.asg (.t 91)⟩] [1,6] []
def Jt7:IC:=.reg [⟨some 92, none,.mv (.t 6)⟩,⟨some 93, none,.mv (.t 6)⟩,⟨some 94, none,.bin .quo (.t 93) (.c (vi 64))⟩,⟨some 95, none,.bin .xor (.t 92) (.t 94)⟩,⟨some 6, none,.asg (.t 95)⟩] [1,6] []
def Jpm:IC:=.reg [⟨some 96, none,.mv (.t 6)⟩,⟨some 97, none,.mv (.t 1)⟩,⟨some 98, none,.bin .rem (.t 96) (.t 97)⟩,⟨some 4, none,.asg (.t 98)⟩] [4] []
def Qqp:Qa4:=⟨[.t 4],[],(.seq Jnb (.seq Jne (.seq (.seq Juw (.cond (.t 24) (.seq Jv3 .ret) .skip)) (.seq Jq7 (.seq (.seq Jso (.cond (.t 36) (.seq Jrp .ret) .skip)) (.seq Jse (.seq Jt7 (.seq Jpm .ret))))))))⟩
def Jwa:IC:=.reg [⟨some 2, none,.alloc [(vi 0),(.slice none 0 0)]⟩] [0,2] []
def Jno:IC:=.reg [⟨some 5, none,.mv (.t 0)⟩,⟨some 6, none,.callh Qya [(.val,(.t 5))]⟩,⟨some 3, none,.alloc [(vi 0),(.slice none 0 0)]⟩,⟨none,none,.store 2 (.t 3) (.t 6)⟩] [0,2,3] []
def Jj3:IC:=.reg [⟨some 7, none,.fadr 1 (.t 3)⟩,⟨some 8, none,.load false 1 (.t 7)⟩,⟨some 9, none,.len (.t 8)⟩,⟨some 10, none,.bin .gtr (.t 9) (.c (vi 0))⟩] [0,2,3,10] []
def Jmz:IC:=.reg [⟨some 11, none,.mv (.t 0)⟩,⟨some 12, none,.fadr 1 (.t 3)⟩,⟨some 13, none,.load false 1 (.t 12)⟩,⟨some 14, none,.len (.t 13)⟩,⟨some 15, none,.callh Qhx [(.val,(.t 11)),(.val,(.t 14))]⟩,⟨some 4, none,.asg (.t 15)⟩] [0,2,3,4] []
def Jt4:IC:=.reg [⟨some 16, none,.mv (.t 0)⟩,⟨some 17, none,.callh Qhx [(.val,(.t 16)),(.val,(.c (vi 30)))]⟩] [0,2,3,4,17] []
def Jwz:IC:=.reg [⟨some 19, none,.bin .eql (.t 17) (.c (vi 0))⟩,⟨some 18, none,.asg (.t 19)⟩] [0,2,3,4,17,18] []
def Jq9:IC:=.reg [⟨some 20, none,.fadr 1 (.t 3)⟩,⟨some 21, none,.load false 1 (.t 20)⟩,⟨some 22, none,.mv (.t 4)⟩,⟨some 23, none,.mv (.t 0)⟩,⟨some 24, none,.fadr 1 (.t 3)⟩,⟨some 25, none,.load false 1 (.t 24)⟩,⟨some 26, none,.mv (.t 4)⟩,⟨some 27, none,.iadr 2 (.t 25) (.t 26)⟩,⟨some 28, none,.fadr 1 (.t 27)⟩,⟨some 29, none,.load false 1 (.t 28)⟩,⟨some 30, none,.bsl 1 [(vi 0)] 3 [(0,(.c (vi (-1)))),(1,(.c (vi 7))),(2,(.t 29))]⟩,⟨some 31, none,.callh Qoj [(.val,(.t 23)),(.rd,(.t 30))]⟩,⟨some 32, none,.iadr 2 (.t 21) (.t 22)⟩,⟨some 33, none,.fadr 0 (.t 32)⟩,⟨none,none,.store 1 (.t 33) (.t 31)⟩] [2,3] [[0,2,3,4,5,6,7,8,9,10,1,11,12,13,14],[0,2,3,4,5,6,7,8,9,10,11,1,12,13,14]]
def Jv1:IC:=.reg [⟨some 35, none,.bin .eql (.t 17) (.c (vi 1))⟩,⟨some 34, none,.asg (.t 35)⟩] [0,2,3,4,17,34] []
def Jsw:IC:=.reg [⟨some 36, none,.fadr 1 (.t 3)⟩,⟨some 37, none,.load false 1 (.t 36)⟩,⟨some 38, none,.fadr 1 (.t 3)⟩,⟨some 39, none,.load false 1 (.t 38)⟩,⟨some 40, none,.mv (.t 4)⟩,⟨some 41, none,.iadr 2 (.t 39) (.t 40)⟩,⟨some 42, none,.load true 2 (.t 41)⟩,⟨some 43, none,.bsl 2 [(vi 0),(vi 0)] 1 [(0,(.t 42))]⟩,⟨some 44, none,.app 2 (.t 37) (.t 43)⟩,⟨some 45, none,.fadr 1 (.t 3)⟩,⟨none,none,.store 1 (.t 45) (.t 44)⟩] [2,3] [[0,2,3,4,5,6,7,1,8,9,10]]
def Js0:IC:=.reg [⟨some 47, none,.bin .eql (.t 17) (.c (vi 2))⟩,⟨some 46, none,.asg (.t 47)⟩] [0,2,3,46] []
def Jig:IC:=.reg [⟨some 48, none,.mv (.t 0)⟩,⟨some 49, none,.bsl 1 [(vi 0)] 3 [(0,(.c (vi (-1)))),(1,(.c (vi 8))),(2,(.c (vi 2)))]⟩,⟨some 50, none,.callh Qoj [(.val,(.t 48)),(.rd,(.t 49))]⟩,⟨some 51, none,.fadr 0 (.t 3)⟩,⟨none,none,.store 1 (.t 51) (.t 50)⟩] [2,3] []
def Jio:IC:=.reg [⟨some 52, none,.load true 2 (.t 3)⟩,⟨none,none,.store 2 (.t 2) (.t 52)⟩] [2] []
def Qog:Qa4:=⟨[.c 2 2 true],[],(.seq Jwa (.seq Jno (.seq (.seq Jj3 (.cond (.t 10) (.seq Jmz (.seq Jt4 (.block 0 (.seq Jwz (.cond (.t 18) Jq9 (.seq Jv1 (.cond (.t 34) Jsw (.seq Js0 (.cond (.t 46) Jig .skip))))))))) .skip)) (.seq Jio .ret))))⟩
def Jpd:IC:=.reg [⟨some 2, none,.box (.t 0)⟩,⟨some 3, none,.box (.t 1)⟩,⟨some 4, none,.alloc [(vi 0),(.slice none 0 0)]⟩] [2,3,4] []
def Jp4:IC:=.regd [⟨some 5, none,.load true 2 (.t 2)⟩,⟨some 6, none,.fadr 0 (.t 3)⟩,⟨some 7, none,.load false 1 (.t 6)⟩,⟨some 8, none,.fadr 1 (.t 3)⟩,⟨some 9, none,.load false 1 (.t 8)⟩,⟨some 10, none,.callq Qq5 [(.rv,(.t 5)),(.val,(.t 7)),(.val,(.t 9))]⟩,⟨some 11, none,.fadr 2 (.t 3)⟩,⟨some 12, none,.load false 1 (.t 11)⟩,⟨some 13, none,.fadr 3 (.t 3)⟩,⟨some 14, none,.load false 1 (.t 13)⟩,⟨some 15, none,.callq Qq5 [(.rv,(.t 10)),(.val,(.t 12)),(.val,(.t 14))]⟩,⟨some 16, none,.fadr 0 (.t 3)⟩,⟨some 17, none,.load false 1 (.t 16)⟩,⟨some 18, none,.fadr 2 (.t 3)⟩,⟨some 19, none,.load false 1 (.t 18)⟩,⟨some 20, none,.callq Qqg [(.rv,(.t 15)),(.val,(.t 17)),(.val,(.t 19))]⟩,⟨some 21, none,.fadr 1 (.t 3)⟩,⟨some 22, none,.load false 1 (.t 21)⟩,⟨some 23, none,.fadr 3 (.t 3)⟩,⟨some 24, none,.load false 1 (.t 23)⟩,
    ⟨some 25, none,.callq Qqg [(.rv,(.t 20)),(.val,(.t 22)),(.val,(.t 24))]⟩,⟨none,none,.store 2 (.t 4) (.t 25)⟩] [0,1,2,3,4,6,7,8,9,11,12,13,14,16,17,18,19,5,10,15,20,21] [4] []
def Jcp:Qa4:=⟨[.c 4 2 true],[],(.seq Jpd (.seq Jp4 .ret))⟩
def Jum:IC:=.reg [⟨some 1, none,.box (.t 0)⟩,⟨some 2, none,.asg (.c (.bool false))⟩] [1] []
def Jsv:IC:=.reg [⟨some 3, none,.asg (.c (vi 0))⟩] [1,3] []
def Jmn:IC:=.reg [⟨some 5, none,.mv (.t 3)⟩,⟨some 6, none,.fadr 1 (.t 1)⟩,⟨some 7, none,.load false 1 (.t 6)⟩,⟨some 8, none,.len (.t 7)⟩,⟨some 9, none,.bin .lss (.t 5) (.t 8)⟩] [1,3,9] []
def Jmc:IC:=.reg [⟨some 12, none,.fadr 1 (.t 1)⟩,⟨some 13, none,.load false 1 (.t 12)⟩,⟨some 14, none,.mv (.t 3)⟩,⟨some 15, none,.iadr 2 (.t 13) (.t 14)⟩,⟨some 16, none,.load true 2 (.t 15)⟩,⟨some 4, none,.alloc [(vi 0),(vi 0)]⟩,⟨none,none,.store 2 (.t 4) (.t 16)⟩] [1,3,4] []
def Ju4:IC:=.reg [⟨some 17, none,.fadr 0 (.t 4)⟩,⟨some 18, none,.load false 1 (.t 17)⟩,⟨some 19, none,.bin .lss (.t 18) (.c (vi 0))⟩,⟨some 20, none,.asg (.t 19)⟩,⟨some 21, (some (20,false)),.fadr 0 (.t 4)⟩,⟨some 22, (some (20,false)),.load false 1 (.t 21)⟩,⟨some 23, (some (20,false)),.fadr 1 (.t 4)⟩,⟨some 24, (some (20,false)),.load false 1 (.t 23)⟩,⟨some 25, (some (20,false)),.bin .geq (.t 22) (.t 24)⟩,⟨some 26, none,.pick (.t 20) (.c (.bool true)) (.t 25)⟩,⟨some 27, none,.asg (.t 26)⟩,⟨some 28, (some (27,false)),.fadr 1 (.t 4)⟩,⟨some 29, (some (27,false)),.load false 1 (.t 28)⟩,⟨some 30, (some (27,false)),.fadr 0 (.t 1)⟩,⟨some 31, (some (27,false)),.load false 1 (.t 30)⟩,⟨some 32, (some (27,false)),.bin .geq (.t 29) (.t 31)⟩,⟨some 33, none,.pick (.t 27) (.c (.bool true)) (.t 32)⟩,⟨some 34, none,.asg (.t 33)⟩,⟨some 35, (some (34,false)),.mv (.t 3)⟩,
    ⟨some 36, (some (34,false)),.bin .gtr (.t 35) (.c (vi 0))⟩,⟨some 37, (some (34,false)),.asg (.t 36)⟩,⟨some 38, (some (37,true)),.fadr 1 (.t 1)⟩,⟨some 39, (some (37,true)),.load false 1 (.t 38)⟩,⟨some 40, (some (37,true)),.mv (.t 3)⟩,⟨some 41, (some (37,true)),.bin .sub (.t 40) (.c (vi 1))⟩,⟨some 42, (some (37,true)),.iadr 2 (.t 39) (.t 41)⟩,⟨some 43, (some (37,true)),.load true 2 (.t 42)⟩,⟨some 44, (some (37,true)),.load true 2 (.t 4)⟩,⟨some 45, (some (37,true)),.call Qsy [(.val,(.t 43)),(.val,(.t 44))] true⟩,⟨some 46, (some (37,true)),.unop .not (.t 45)⟩,⟨some 47, (some (34,false)),.pick (.t 37) (.t 46) (.c (.bool false))⟩,⟨some 48, none,.pick (.t 34) (.c (.bool true)) (.t 47)⟩] [1,3,48] []
def Jr1:IC:=.reg [⟨some 2, none,.asg (.c (.bool false))⟩] [2] []
def Jl2:IC:=.reg [⟨some 10, none,.mv (.t 3)⟩,⟨some 11, none,.bin .add (.t 10) (.c (vi 1))⟩,⟨some 3, none,.asg (.t 11)⟩] [1,3] []
def Jda:IC:=(.seq (.seq Jmn (.cond (.t 9) .skip (.exit 0))) (.seq (.block 1 (.seq Jmc (.seq Ju4 (.cond (.t 48) (.seq Jr1 .ret) .skip)))) Jl2))
def Jog:IC:=.reg [⟨some 49, none,.fadr 0 (.t 1)⟩,⟨some 50, none,.load false 1 (.t 49)⟩,⟨some 51, none,.call Quy [(.val,(.t 50)),(.val,(.c (vi 0))),(.val,(.c (vi 7)))] true⟩,⟨some 2, none,.asg (.t 51)⟩] [2] []
def Qxe:Qa4:=⟨[.t 2],[],(.seq Jum (.seq (.seq Jsv (.block 0 (.loop Jda))) (.seq Jog .ret)))⟩
def tbl:List (Nat×Qa4):=[(zl2,zi2),(zl4,zi4),(Qq0,Qqu),(Qqa,Qyu),(Qsq,Qwz),(Qsx,Jct),(zl7,zi7),(zl8,zi8),(Qyt,Qmg),(Qtx,Qkp),(Qo0,Qqo),(zl9,zi9),(Qng,Jca),(Qkx,Qqv),(Qyk,Qz0),(Qtq,Qsn),(Qxc,Qo5),(Qqm,Qqi),(Joi,Jjl),(Jvt,Jx2),(Jjv,Jx0),(Qyf,Qko),(Jjk,Jtk),(Qui,Jve),(Jnd,Jxq),(Jjr,Jx1),(Qtf,Jb3),(Jkl,Jxc),(Qzo,Jj2),(Jqv,Jw9),(Jaa,Jxv),(Jsp,Jw8),(Jjy,Jvc),(Qo4,Qu6),(Qx5,Jaf),(Jg9,Jxg),(Jcx,Qmn),(Qt7,Qjw),(Qp2,Qkl),(Jsm,Jj0),(Jd3,Jn5),(Jjn,Jqz),(Qva,Qwy),(Qy1,Jah),(Jjw,Jxz),(Qqs,Qy2),(Jtp,Jxj),(Js2,Jxt),(Qux,Jbh),(Qtk,Qv1),(Qua,Qx9),(Qvk,Qus),(Jjm,Jr8),(Qwu,Qxv),(Jnw,Jw3),(Jpt,Jxh),(Qug,Jcw),(Jqe,Jxm),(Qs4,Jch),(Quw,Qu3),(Qt9,Qx8),(Jwe,Jtn),(Qy8,Jbd),(Jl1,Jwy),(Qno,Qyy),(Qub,Qw3),(Qs2,Qwe),(Qmz,Qo1),(Qpu,Ja2),(Qu2,Ja0),(Qqy,Qq4),(Qs7,Qx3),(Qs0,Qx2),(Qqg,Jay),(Qxo,Qzp),(Qqw,Jat),(Qst,Jbw),(Qq5,Jax),(Qsy,Qs5),(Qya,Jcy),(Qyh,Qvr),(Qss,Qxn),(Quy,Qy5),(Qwo,Jb8),(Qyj,Qyn),(Qvd,Qw0),(Qsz,Jau),(Qoj,Jby),(Qhx,Qqp),(Qta,Qog),(Qxd,Jcp),(Qwn,Qxe)]
def tb:Tbl:=Jxo tbl
theorem zt2:tb zl2=some zi2:=by kernel_rfl
theorem zt4:tb zl4=some zi4:=by kernel_rfl
theorem Jas:tb Qq0=some Qqu:=by kernel_rfl
theorem Jvx:tb Qqa=some Qyu:=by kernel_rfl
theorem Jtr:tb Qsq=some Qwz:=by kernel_rfl
theorem zt161:tb Qsx=some Jct:=by kernel_rfl
theorem zt7:tb zl7=some zi7:=by kernel_rfl
theorem zt8:tb zl8=some zi8:=by kernel_rfl
theorem Qtj:tb Qyt=some Qmg:=by kernel_rfl
theorem Qpw:tb Qtx=some Qkp:=by kernel_rfl
theorem Jg2:tb Qo0=some Qqo:=by kernel_rfl
theorem zt9:tb zl9=some zi9:=by kernel_rfl
theorem Jyv:tb Qng=some Jca:=by kernel_rfl
theorem Jaj:tb Qkx=some Qqv:=by kernel_rfl
theorem Jyy:tb Qyk=some Qz0:=by kernel_rfl
theorem Ji4:tb Qtq=some Qsn:=by kernel_rfl
theorem Quu:tb Qxc=some Qo5:=by kernel_rfl
theorem Jcg:tb Qqm=some Qqi:=by kernel_rfl
theorem zt10:tb Joi=some Jjl:=by kernel_rfl
theorem zt18:tb Jvt=some Jx2:=by kernel_rfl
theorem zt19:tb Jjv=some Jx0:=by kernel_rfl
theorem Qpz:tb Qyf=some Qko:=by kernel_rfl
theorem zt25:tb Jjk=some Jtk:=by kernel_rfl
theorem zt26:tb Qui=some Jve:=by kernel_rfl
theorem zt29:tb Jnd=some Jxq:=by kernel_rfl
theorem zt30:tb Jjr=some Jx1:=by kernel_rfl
theorem zt204:tb Qtf=some Jb3:=by kernel_rfl
theorem zt31:tb Jkl=some Jxc:=by kernel_rfl
theorem zt32:tb Qzo=some Jj2:=by kernel_rfl
theorem zt35:tb Jqv=some Jw9:=by kernel_rfl
theorem zt36:tb Jaa=some Jxv:=by kernel_rfl
theorem zt37:tb Jsp=some Jw8:=by kernel_rfl
theorem zt38:tb Jjy=some Jvc:=by kernel_rfl
theorem zt212:tb Qo4=some Qu6:=by kernel_rfl
theorem zt214:tb Qx5=some Jaf:=by kernel_rfl
theorem zt40:tb Jg9=some Jxg:=by kernel_rfl
theorem Qtc:tb Jcx=some Qmn:=by kernel_rfl
theorem Qp6:tb Qt7=some Qjw:=by kernel_rfl
theorem Qny:tb Qp2=some Qkl:=by kernel_rfl
theorem zt53:tb Jsm=some Jj0:=by kernel_rfl
theorem zt66:tb Jd3=some Jn5:=by kernel_rfl
theorem zt68:tb Jjn=some Jqz:=by kernel_rfl
theorem Jwo:tb Qva=some Qwy:=by kernel_rfl
theorem Jyt:tb Qy1=some Jah:=by kernel_rfl
theorem zt70:tb Jjw=some Jxz:=by kernel_rfl
theorem Jus:tb Qqs=some Qy2:=by kernel_rfl
theorem zt71:tb Jtp=some Jxj:=by kernel_rfl
theorem zt72:tb Js2=some Jxt:=by kernel_rfl
theorem Jyb:tb Qux=some Jbh:=by kernel_rfl
theorem Jn8:tb Qtk=some Qv1:=by kernel_rfl
theorem Jz7:tb Qua=some Qx9:=by kernel_rfl
theorem zt448:tb Qvk=some Qus:=by kernel_rfl
theorem zt73:tb Jjm=some Jr8:=by kernel_rfl
theorem zt269:tb Qwu=some Qxv:=by kernel_rfl
theorem zt75:tb Jnw=some Jw3:=by kernel_rfl
theorem zt76:tb Jpt=some Jxh:=by kernel_rfl
theorem Jzg:tb Qug=some Jcw:=by kernel_rfl
theorem zt78:tb Jqe=some Jxm:=by kernel_rfl
theorem Jzu:tb Qs4=some Jch:=by kernel_rfl
theorem Jpb:tb Quw=some Qu3:=by kernel_rfl
theorem Jtj:tb Qt9=some Qx8:=by kernel_rfl
theorem zt86:tb Jwe=some Jtn:=by kernel_rfl
theorem zt454:tb Qy8=some Jbd:=by kernel_rfl
theorem zt91:tb Jl1=some Jwy:=by kernel_rfl
theorem Jt9:tb Qno=some Qyy:=by kernel_rfl
theorem zt282:tb Qub=some Qw3:=by kernel_rfl
theorem zt283:tb Qs2=some Qwe:=by kernel_rfl
theorem zt285:tb Qmz=some Qo1:=by kernel_rfl
theorem zt101:tb Qpu=some Ja2:=by kernel_rfl
theorem zt106:tb Qu2=some Ja0:=by kernel_rfl
theorem Jbt:tb Qqy=some Qq4:=by kernel_rfl
theorem Jp8:tb Qs7=some Qx3:=by kernel_rfl
theorem Jy3:tb Qs0=some Qx2:=by kernel_rfl
theorem zt335:tb Qqg=some Jay:=by kernel_rfl
theorem zt122:tb Qxo=some Qzp:=by kernel_rfl
theorem zt342:tb Qqw=some Jat:=by kernel_rfl
theorem zt343:tb Qst=some Jbw:=by kernel_rfl
theorem zt348:tb Qq5=some Jax:=by kernel_rfl
theorem Jgb:tb Qsy=some Qs5:=by kernel_rfl
theorem zt129:tb Qya=some Jcy:=by kernel_rfl
theorem zt130:tb Qyh=some Qvr:=by kernel_rfl
theorem zt131:tb Qss=some Qxn:=by kernel_rfl
theorem zt132:tb Quy=some Qy5:=by kernel_rfl
theorem zt354:tb Qwo=some Jb8:=by kernel_rfl
theorem Jla:tb Qyj=some Qyn:=by kernel_rfl
theorem Jwl:tb Qvd=some Qw0:=by kernel_rfl
theorem Jya:tb Qsz=some Jau:=by kernel_rfl
theorem zt139:tb Qoj=some Jby:=by kernel_rfl
theorem Jb7:tb Qhx=some Qqp:=by kernel_rfl
theorem Jzj:tb Qta=some Qog:=by kernel_rfl
theorem zt383:tb Qxd=some Jcp:=by kernel_rfl
theorem zt145:tb Qwn=some Qxe:=by kernel_rfl
end Go.Idl
