/- Part 5 of a proof by an ideal interpreter of the code: its definitions and lemmas. Conditions: none. -/
import Derived.KernelRfl
import Derived.Test.YtfheodjhbaaalaaA4
set_option linter.all false
set_option linter.unusedVariables false
set_option linter.unusedSimpArgs false
namespace Go.Idl
open Go
abbrev vi (n:Int):Value:=.int .i64 n
abbrev Jf0:Lab:=26
abbrev Qy0:Lab:=32
abbrev Jba:Lab:=36
abbrev Jpt:Lab:=38
abbrev Jo7:Lab:=48
abbrev Jq7:Lab:=49
abbrev Jj1:Lab:=50
abbrev Jkr:Lab:=56
abbrev Jj2:Lab:=57
abbrev Jjs:Lab:=60
abbrev Jed:Lab:=61
abbrev Jnh:Lab:=62
abbrev Jlx:Lab:=63
abbrev Qtj:Lab:=64
abbrev Jjx:Lab:=66
abbrev zl67:Lab:=67
abbrev Jkm:Lab:=68
abbrev Jtt:Lab:=91
abbrev Qwr:Lab:=106
abbrev Qsg:Lab:=126
abbrev Qkc:Lab:=130
abbrev Qvx:Lab:=132
abbrev Qs1:Lab:=145
abbrev Qta:Lab:=167
abbrev Qnb:Lab:=171
abbrev Qvz:Lab:=173
abbrev Qx8:Lab:=203
abbrev Qw2:Lab:=204
abbrev Qv4:Lab:=214
abbrev Qw9:Lab:=235
abbrev Qnf:Lab:=236
abbrev Qo0:Lab:=242
abbrev Qs0:Lab:=244
abbrev Qu2:Lab:=258
abbrev Qph:Lab:=260
abbrev Qsy:Lab:=261
abbrev Qxm:Lab:=263
abbrev Quh:Lab:=265
abbrev Qvv:Lab:=269
abbrev Qs9:Lab:=272
abbrev Qs6:Lab:=274
abbrev Jos:Lab:=276
abbrev Qso:Lab:=277
abbrev Qss:Lab:=282
abbrev Qrx:Lab:=283
abbrev Jp8:Lab:=284
abbrev Qlp:Lab:=285
abbrev Jsu:Lab:=286
abbrev Qru:Lab:=335
abbrev Qry:Lab:=348
abbrev Qr9:Lab:=362
abbrev Qum:Lab:=383
abbrev Qv3:Lab:=384
abbrev Qr8:Lab:=410
abbrev Qui:Lab:=411
abbrev Qup:Lab:=448
abbrev Qxr:Lab:=450
abbrev Qzp:Lab:=452
abbrev Qwh:Lab:=454
abbrev Qnp:Lab:=456
abbrev Qs4:Lab:=458
abbrev Qlj:Lab:=464
abbrev Qtd:Lab:=465
abbrev Qxq:Lab:=475
abbrev Qwz:Lab:=477
abbrev Qsc:Lab:=479
abbrev Qyw:Lab:=480
abbrev Qon:Lab:=489
abbrev Qsh:Lab:=490
abbrev Qse:Lab:=491
abbrev Qyl:Lab:=530
def Jpn:IC:=.reg [⟨some 2, none,.box (.t 0)⟩,⟨some 3, none,.box (.t 1)⟩,⟨some 4, none,.alloc [(vi 0),(.slice none 0 0)]⟩,⟨some 5, none,.asg (.c (.bool false))⟩] [2,3,4] []
def Jl9:IC:=.reg [⟨some 8, none,.load true 4 (.t 3)⟩,⟨some 9, none,.call Qui [(.val,(.t 8))] true⟩,⟨some 10, none,.unop .not (.t 9)⟩,⟨some 11, none,.asg (.t 10)⟩,⟨some 12, (some (11,false)),.load true 2 (.t 2)⟩,⟨some 13, (some (11,false)),.fadr 0 (.t 3)⟩,⟨some 14, (some (11,false)),.load false 1 (.t 13)⟩,⟨some 15, (some (11,false)),.fadr 1 (.t 3)⟩,⟨some 16, (some (11,false)),.load false 1 (.t 15)⟩,⟨some 17, (some (11,false)),.call Qnb [(.rd,(.t 12)),(.val,(.t 14)),(.val,(.t 16))] true⟩,⟨some 18, (some (11,false)),.unop .not (.t 17)⟩,⟨some 19, none,.pick (.t 11) (.c (.bool true)) (.t 18)⟩,⟨some 20, none,.asg (.t 19)⟩,⟨some 21, (some (20,false)),.load true 2 (.t 2)⟩,⟨some 22, (some (20,false)),.fadr 2 (.t 3)⟩,⟨some 23, (some (20,false)),.load false 1 (.t 22)⟩,⟨some 24, (some (20,false)),.fadr 3 (.t 3)⟩,⟨some 25, (some (20,false)),.load false 1 (.t 24)⟩,
    ⟨some 26, (some (20,false)),.call Qnb [(.rd,(.t 21)),(.val,(.t 23)),(.val,(.t 25))] true⟩,⟨some 27, (some (20,false)),.unop .not (.t 26)⟩,⟨some 28, none,.pick (.t 20) (.c (.bool true)) (.t 27)⟩,⟨some 29, none,.asg (.t 28)⟩,⟨some 30, (some (29,false)),.load true 2 (.t 2)⟩,⟨some 31, (some (29,false)),.fadr 0 (.t 3)⟩,⟨some 32, (some (29,false)),.load false 1 (.t 31)⟩,⟨some 33, (some (29,false)),.fadr 2 (.t 3)⟩,⟨some 34, (some (29,false)),.load false 1 (.t 33)⟩,⟨some 35, (some (29,false)),.call Qnb [(.rd,(.t 30)),(.val,(.t 32)),(.val,(.t 34))] true⟩,⟨some 36, none,.pick (.t 29) (.c (.bool true)) (.t 35)⟩,⟨some 37, none,.asg (.t 36)⟩,⟨some 38, (some (37,false)),.load true 2 (.t 2)⟩,⟨some 39, (some (37,false)),.fadr 1 (.t 3)⟩,⟨some 40, (some (37,false)),.load false 1 (.t 39)⟩,⟨some 41, (some (37,false)),.fadr 3 (.t 3)⟩,⟨some 42, (some (37,false)),.load false 1 (.t 41)⟩,
    ⟨some 43, (some (37,false)),.call Qnb [(.rd,(.t 38)),(.val,(.t 40)),(.val,(.t 42))] true⟩,⟨some 44, none,.pick (.t 37) (.c (.bool true)) (.t 43)⟩] [2,3,4,44] []
def Jp0:IC:=.reg [⟨some 45, none,.build [(vi 0),(.slice none 0 0)] []⟩,⟨none,none,.store 2 (.t 4) (.t 45)⟩,⟨some 5, none,.asg (.c (.bool false))⟩] [4,5] []
def Jj8:IC:=.reg [⟨some 46, none,.fadr 1 (.t 2)⟩,⟨some 47, none,.load false 1 (.t 46)⟩,⟨some 48, none,.call Qsy [(.rd,(.t 47))] true⟩,⟨some 49, none,.mkfn Qr8 [(.t 3)]⟩,⟨some 50, none,.call Quh [(.tk,(.t 48)),(.val,(.t 49))] false⟩,⟨some 6, none,.asg (.t 50)⟩] [2,3,4,6] []
def Js5:IC:=.regd [⟨some 51, none,.fadr 0 (.t 2)⟩,⟨some 52, none,.load false 1 (.t 51)⟩,⟨some 53, none,.mv (.t 6)⟩,⟨some 54, none,.fadr 0 (.t 3)⟩,⟨some 55, none,.load false 1 (.t 54)⟩,⟨some 56, none,.fadr 2 (.t 3)⟩,⟨some 57, none,.load false 1 (.t 56)⟩,⟨some 58, none,.call Jba [(.val,(.t 55)),(.val,(.t 57))] true⟩,⟨some 59, none,.fadr 1 (.t 3)⟩,⟨some 60, none,.load false 1 (.t 59)⟩,⟨some 61, none,.fadr 3 (.t 3)⟩,⟨some 62, none,.load false 1 (.t 61)⟩,⟨some 63, none,.call Jba [(.val,(.t 60)),(.val,(.t 62))] true⟩,⟨some 64, none,.bsl 2 [(vi 0),(vi 0)] 2 [(0,(.t 58)),(1,(.t 63))]⟩,⟨some 65, none,.app 2 (.t 53) (.t 64)⟩,⟨some 66, none,.callq Qv4 [(.val,(.t 52)),(.rv,(.t 65))]⟩,⟨some 7, none,.alloc [(vi 0),(.slice none 0 0)]⟩,
    ⟨none,none,.store 2 (.t 7) (.t 66)⟩] [0,1,2,3,4,5,6,7,8,9,10,11,12,13,14,15,16,17] [4,7] [[0,1,3,4,5,6,7,8,9,10,11,12,13,2,14,15,16,17],[0,2,3,4,5,6,7,8,9,10,11,12,13,1,14,15,16,17],[0,2,3,4,5,6,7,8,9,10,11,12,13,14,1,15,16,17],[0,3,4,5,6,7,8,9,10,11,12,13,1,2,14,15,16,17],[0,3,4,5,6,7,8,9,10,11,12,13,2,14,1,15,16,17],[2,3,4,5,6,7,8,9,10,11,12,13,0,1,14,15,16,17],[2,3,4,5,6,7,8,9,10,11,12,13,0,14,1,15,16,17],[2,3,4,5,6,7,8,9,10,11,12,13,14,0,1,15,16,17],[3,4,5,6,7,8,9,10,11,12,13,0,1,2,14,15,16,17],[3,4,5,6,7,8,9,10,11,12,13,0,2,14,1,15,16,17],[3,4,5,6,7,8,9,10,11,12,13,2,14,0,1,15,16,17]]
def Jqf:IC:=.reg [⟨some 67, none,.load true 2 (.t 7)⟩,⟨some 68, none,.load true 2 (.t 7)⟩,⟨some 69, none,.call Jf0 [(.rd,(.t 68))] true⟩,⟨none,none,.store 2 (.t 4) (.t 67)⟩,⟨some 5, none,.asg (.t 69)⟩] [4,5] [[1,2,0,3,4]]
def Qmb:Qbu:=⟨[.c 4 2 true,.t 5],[],(.seq Jpn (.seq (.seq Jl9 (.cond (.t 44) (.seq Jp0 .ret) .skip)) (.seq Jj8 (.seq Js5 (.seq Jqf .ret)))))⟩
def Jmk:IC:=.reg [⟨some 2, none,.box (.t 0)⟩,⟨some 3, none,.asg (.c (.bool false))⟩] [1,2] []
def Jr6:IC:=.reg [⟨some 4, none,.load true 2 (.t 2)⟩,⟨some 5, none,.fadr 0 (.t 1)⟩,⟨some 6, none,.load false 1 (.t 5)⟩,⟨some 7, none,.fadr 1 (.t 1)⟩,⟨some 8, none,.load false 1 (.t 7)⟩,⟨some 9, none,.call Jba [(.val,(.t 6)),(.val,(.t 8))] true⟩,⟨some 10, none,.eqa false 2 (.t 4) (.t 9)⟩,⟨some 11, none,.asg (.t 10)⟩,⟨some 12, (some (11,false)),.load true 2 (.t 2)⟩,⟨some 13, (some (11,false)),.fadr 2 (.t 1)⟩,⟨some 14, (some (11,false)),.load false 1 (.t 13)⟩,⟨some 15, (some (11,false)),.fadr 3 (.t 1)⟩,⟨some 16, (some (11,false)),.load false 1 (.t 15)⟩,⟨some 17, (some (11,false)),.call Jba [(.val,(.t 14)),(.val,(.t 16))] true⟩,⟨some 18, (some (11,false)),.eqa false 2 (.t 12) (.t 17)⟩,⟨some 19, none,.pick (.t 11) (.c (.bool true)) (.t 18)⟩,
    ⟨some 3, none,.asg (.t 19)⟩] [3] [[0,1,2,3,4,5,6,7,9,10,11,12,13,8,14,15,16],[1,2,3,4,5,0,6,7,8,9,10,11,12,13,14,15,16],[1,2,3,4,5,0,6,7,9,10,11,12,13,8,14,15,16]]
def Qj4:Qbu:=⟨[.t 3],[],(.seq Jmk (.seq Jr6 .ret))⟩
def Js8:IC:=.reg [⟨some 3, none,.box (.t 0)⟩,⟨some 6, none,.asg (.c (.bool false))⟩] [1,2,3] []
def Jte:IC:=.reg [⟨some 7, none,.fadr 1 (.t 3)⟩,⟨some 8, none,.load false 1 (.t 7)⟩,⟨some 9, none,.mv (.t 1)⟩,⟨some 10, none,.mv (.t 2)⟩,⟨some 11, none,.call Jba [(.val,(.t 9)),(.val,(.t 10))] true⟩,⟨some 12, none,.call Qxm [(.rd,(.t 8)),(.val,(.t 11))] true⟩,⟨some 6, none,.asg (.t 12)⟩] [6] [[0,2,3,4,1,5,6]]
def Qzx:Qbu:=⟨[.t 6],[],(.seq Js8 (.seq Jte .ret))⟩
def Jtx:IC:=.reg [⟨some 2, none,.box (.t 0)⟩,⟨some 3, none,.box (.t 1)⟩,⟨some 4, none,.asg (.c (.bool false))⟩] [2,3] []
def Jla:IC:=.reg [⟨some 5, none,.fadr 0 (.t 2)⟩,⟨some 6, none,.load false 1 (.t 5)⟩,⟨some 7, none,.fadr 0 (.t 3)⟩,⟨some 8, none,.load false 1 (.t 7)⟩,⟨some 9, none,.bin .eql (.t 6) (.t 8)⟩,⟨some 10, none,.asg (.t 9)⟩,⟨some 11, (some (10,true)),.fadr 1 (.t 2)⟩,⟨some 12, (some (10,true)),.load false 1 (.t 11)⟩,⟨some 13, (some (10,true)),.fadr 1 (.t 3)⟩,⟨some 14, (some (10,true)),.load false 1 (.t 13)⟩,⟨some 15, (some (10,true)),.call Qwz [(.rd,(.t 12)),(.rd,(.t 14))] true⟩,⟨some 16, none,.pick (.t 10) (.t 15) (.c (.bool false))⟩,⟨some 4, none,.asg (.t 16)⟩] [4] []
def Qyc:Qbu:=⟨[.t 4],[],(.seq Jtx (.seq Jla .ret))⟩
def Jkj:IC:=.reg [⟨some 1, none,.box (.t 0)⟩,⟨some 2, none,.asg (.c (.slice none 0 0))⟩] [1] []
def Jnz:IC:=.reg [⟨some 3, none,.asg (.c (.slice none 0 0))⟩] [1,3] []
def Jti:IC:=.reg [⟨some 12, none,.fadr 1 (.t 1)⟩,⟨some 13, none,.load false 1 (.t 12)⟩,⟨some 14, none,.len (.t 13)⟩,⟨some 15, none,.mv (.c (vi 0))⟩] [1,3,13,14,15] []
def Jne:IC:=.reg [⟨some 16, none,.bin .lss (.t 15) (.t 14)⟩] [1,3,13,14,15,16] []
def Jsh:IC:=.reg [⟨some 17, none,.asg (.t 15)⟩,⟨some 18, none,.iadr 2 (.t 13) (.t 15)⟩,⟨some 19, none,.load true 2 (.t 18)⟩,⟨some 5, none,.alloc [(vi 0),(vi 0)]⟩,⟨some 4, none,.asg (.t 17)⟩,⟨none,none,.store 2 (.t 5) (.t 19)⟩] [1,3,4,5,13,14,15] []
def Jkf:IC:=.reg [⟨some 20, none,.fadr 1 (.t 1)⟩,⟨some 21, none,.load false 1 (.t 20)⟩,⟨some 22, none,.mv (.t 4)⟩,⟨some 23, none,.bin .add (.t 22) (.c (vi 1))⟩,⟨some 24, none,.slc 2 (.t 21) (some (.t 23)) none none⟩,⟨some 25, none,.len (.t 24)⟩,⟨some 26, none,.mv (.c (vi 0))⟩] [1,3,5,13,14,15,24,25,26] []
def Jn6:IC:=.reg [⟨some 27, none,.bin .lss (.t 26) (.t 25)⟩] [1,3,5,13,14,15,24,25,26,27] []
def Jkw:IC:=.reg [⟨some 28, none,.iadr 2 (.t 24) (.t 26)⟩,⟨some 29, none,.load true 2 (.t 28)⟩,⟨some 7, none,.alloc [(vi 0),(vi 0)]⟩,⟨none,none,.store 2 (.t 7) (.t 29)⟩] [1,3,5,7,13,14,15,24,25,26] []
def Js4:IC:=.reg [⟨some 30, none,.fadr 0 (.t 5)⟩,⟨some 31, none,.load false 1 (.t 30)⟩,⟨some 32, none,.fadr 1 (.t 5)⟩,⟨some 33, none,.load false 1 (.t 32)⟩,⟨some 34, none,.fadr 0 (.t 7)⟩,⟨some 35, none,.load false 1 (.t 34)⟩,⟨some 36, none,.fadr 1 (.t 7)⟩,⟨some 37, none,.load false 1 (.t 36)⟩,⟨some 38, none,.build [(vi 0),(vi 0),(vi 0),(vi 0)] [(0,1,(.t 31)),(1,1,(.t 33)),(2,1,(.t 35)),(3,1,(.t 37))]⟩,⟨some 39, none,.fadr 0 (.t 5)⟩,⟨some 40, none,.load false 1 (.t 39)⟩,⟨some 41, none,.fadr 1 (.t 5)⟩,⟨some 42, none,.load false 1 (.t 41)⟩,⟨some 43, none,.fadr 1 (.t 7)⟩,⟨some 44, none,.load false 1 (.t 43)⟩,⟨some 45, none,.fadr 0 (.t 7)⟩,⟨some 46, none,.load false 1 (.t 45)⟩,⟨some 47, none,.build [(vi 0),(vi 0),(vi 0),(vi 0)] [(0,1,(.t 40)),(1,1,(.t 42)),(2,1,(.t 44)),(3,1,(.t 46))]⟩,⟨some 48, none,.bsl 4 [(vi 0),(vi 0),(vi 0),(vi 0)] 2 [(0,(.t 38)),(1,(.t 47))]⟩,
    ⟨some 49, none,.len (.t 48)⟩,⟨some 50, none,.mv (.c (vi 0))⟩] [1,3,5,13,14,15,24,25,26,48,49,50] []
def Jrw:IC:=.reg [⟨some 51, none,.bin .lss (.t 50) (.t 49)⟩] [1,3,5,13,14,15,24,25,26,48,49,50,51] []
def Je6:IC:=.reg [⟨some 52, none,.iadr 4 (.t 48) (.t 50)⟩,⟨some 53, none,.load true 4 (.t 52)⟩,⟨some 9, none,.alloc [(vi 0),(vi 0),(vi 0),(vi 0)]⟩,⟨none,none,.store 4 (.t 9) (.t 53)⟩] [1,3,5,9,13,14,15,24,25,26,48,49,50] []
def Jdo:IC:=.reg [⟨some 55, none,.load true 2 (.t 1)⟩,⟨some 56, none,.load true 4 (.t 9)⟩,⟨some 57, none,.call Qta [(.rd,(.t 55)),(.val,(.t 56))] true⟩,⟨some 54, none,.asg (.t 57)⟩,⟨some 58, none,.extr (.t 54) 0⟩,⟨some 59, none,.extr (.t 54) 1⟩,⟨some 10, none,.alloc [(vi 0),(.slice none 0 0)]⟩,⟨none,none,.store 2 (.t 10) (.t 58)⟩,⟨some 11, none,.asg (.t 59)⟩] [1,3,5,9,11,13,14,15,24,25,26,48,49,50] []
def Jgv:IC:=.reg [⟨some 60, none,.mv (.t 11)⟩] [1,3,5,9,13,14,15,24,25,26,48,49,50,60] []
def Jhi:IC:=.reg [⟨some 61, none,.mv (.t 3)⟩,⟨some 62, none,.load true 4 (.t 9)⟩,⟨some 63, none,.bsl 4 [(vi 0),(vi 0),(vi 0),(vi 0)] 1 [(0,(.t 62))]⟩,⟨some 64, none,.app 4 (.t 61) (.t 63)⟩,⟨some 3, none,.asg (.t 64)⟩] [1,3,5,13,14,15,24,25,26,48,49,50] []
def Jiv:IC:=.reg [⟨some 65, none,.bin .add (.t 50) (.c (vi 1))⟩,⟨some 50, none,.asg (.t 65)⟩] [1,3,5,13,14,15,24,25,26,48,49,50] []
def Qln:IC:=(.seq Jrw (.seq (.cond (.t 51) .skip (.exit 4)) (.seq (.block 5 (.seq Je6 (.seq Jdo (.seq Jgv (.cond (.t 60) Jhi .skip))))) Jiv)))
def Jia:IC:=.reg [⟨some 66, none,.bin .add (.t 26) (.c (vi 1))⟩,⟨some 26, none,.asg (.t 66)⟩] [1,3,5,13,14,15,24,25,26] []
def Qos:IC:=(.seq Jn6 (.seq (.cond (.t 27) .skip (.exit 2)) (.seq (.block 3 (.seq Jkw (.seq Js4 (.block 4 (.loop Qln))))) Jia)))
def Jfo:IC:=.reg [⟨some 67, none,.bin .add (.t 15) (.c (vi 1))⟩,⟨some 15, none,.asg (.t 67)⟩] [1,3,13,14,15] []
def Qxu:IC:=(.seq Jne (.seq (.cond (.t 16) .skip (.exit 0)) (.seq (.block 1 (.seq Jsh (.seq Jkf (.block 2 (.loop Qos))))) Jfo)))
def Ji7:IC:=.reg [⟨some 68, none,.mv (.t 3)⟩,⟨some 69, none,.call Qph [(.tk,(.t 68))] true⟩,⟨some 2, none,.asg (.t 69)⟩] [2] []
def Qvn:Qbu:=⟨[.t 2],[],(.seq Jkj (.seq Jnz (.seq (.seq Jti (.block 0 (.loop Qxu))) (.seq Ji7 .ret))))⟩
def Jj9:IC:=.reg [⟨some 2, none,.box (.t 0)⟩,⟨some 3, none,.box (.t 1)⟩,⟨some 4, none,.nilo 4⟩,⟨some 5, none,.asg (.c (.bool false))⟩] [2,3] []
def Jk4:IC:=.reg [⟨some 14, none,.load true 2 (.t 2)⟩,⟨some 15, none,.load true 2 (.t 3)⟩,⟨some 16, none,.call Qx8 [(.rd,(.t 14)),(.rd,(.t 15))] true⟩,⟨some 17, none,.unop .not (.t 16)⟩,⟨some 18, none,.asg (.t 17)⟩,⟨some 19, (some (18,false)),.fadr 0 (.t 2)⟩,⟨some 20, (some (18,false)),.load false 1 (.t 19)⟩,⟨some 21, (some (18,false)),.bin .gtr (.t 20) (.c (vi 5))⟩,⟨some 22, none,.pick (.t 18) (.c (.bool true)) (.t 21)⟩] [2,3,22] []
def Jl3:IC:=.reg [⟨some 4, none,.nilo 4⟩,⟨some 5, none,.asg (.c (.bool false))⟩] [4,5] []
def Jql:IC:=.reg [⟨some 23, none,.load true 2 (.t 2)⟩,⟨some 24, none,.build [(vi 0),(.slice none 0 0),(vi 0),(vi 0),(vi 0),(vi 0),(vi 0)] [(0,2,(.t 23)),(2,1,(.c (vi (-1))))]⟩,⟨some 25, none,.bsl 7 [(vi 0),(.slice none 0 0),(vi 0),(vi 0),(vi 0),(vi 0),(vi 0)] 1 [(0,(.t 24))]⟩,⟨some 6, none,.asg (.t 25)⟩] [3,6] []
def Jo4:IC:=.reg [⟨some 7, none,.asg (.c (vi 0))⟩] [3,6,7] []
def Jon:IC:=.reg [⟨some 26, none,.mv (.t 7)⟩,⟨some 27, none,.mv (.t 6)⟩,⟨some 28, none,.len (.t 27)⟩,⟨some 29, none,.bin .lss (.t 26) (.t 28)⟩] [3,6,7,29] []
def Jlk:IC:=.reg [⟨some 32, none,.mv (.t 6)⟩,⟨some 33, none,.mv (.t 7)⟩,⟨some 34, none,.iadr 7 (.t 32) (.t 33)⟩,⟨some 35, none,.fadr 0 (.t 34)⟩,⟨some 36, none,.load true 2 (.t 35)⟩,⟨some 37, none,.load true 2 (.t 3)⟩,⟨some 38, none,.call Qs4 [(.rd,(.t 36)),(.rd,(.t 37))] true⟩] [3,6,7,38] []
def Jp9:IC:=.reg [⟨some 8, none,.nilo 4⟩] [6,7,8] []
def Jlz:IC:=.reg [⟨some 39, none,.mv (.t 7)⟩,⟨some 9, none,.asgm (.t 39)⟩] [6,8,9] []
def Jmx:IC:=.reg [⟨some 40, none,.mv (.t 6)⟩,⟨some 41, none,.mv (.t 9)⟩,⟨some 42, none,.iadr 7 (.t 40) (.t 41)⟩,⟨some 43, none,.fadr 2 (.t 42)⟩,⟨some 44, none,.load false 1 (.t 43)⟩,⟨some 45, none,.bin .geq (.t 44) (.c (vi 0))⟩] [6,8,9,45] []
def Jfw:IC:=.reg [⟨some 51, none,.mv (.t 8)⟩,⟨some 52, none,.mv (.t 6)⟩,⟨some 53, none,.mv (.t 9)⟩,⟨some 54, none,.iadr 7 (.t 52) (.t 53)⟩,⟨some 55, none,.fadr 3 (.t 54)⟩,⟨some 56, none,.load true 4 (.t 55)⟩,⟨some 57, none,.bsl 4 [(vi 0),(vi 0),(vi 0),(vi 0)] 1 [(0,(.t 56))]⟩,⟨some 58, none,.app 4 (.t 51) (.t 57)⟩,⟨some 8, none,.asg (.t 58)⟩] [6,8,9] []
def Jdp:IC:=.reg [⟨some 46, none,.mv (.t 6)⟩,⟨some 47, none,.mv (.t 9)⟩,⟨some 48, none,.iadr 7 (.t 46) (.t 47)⟩,⟨some 49, none,.fadr 2 (.t 48)⟩,⟨some 50, none,.load false 1 (.t 49)⟩,⟨some 9, none,.asg (.t 50)⟩] [6,8,9] []
def Qwl:IC:=(.seq (.seq Jmx (.cond (.t 45) .skip (.exit 2))) (.seq (.block 3 Jfw) Jdp))
def Jhw:IC:=.reg [⟨some 59, none,.mv (.t 8)⟩,⟨some 60, none,.call Qyw [(.ld,(.t 59))] false⟩] [8] []
def Jhf:IC:=.reg [⟨some 61, none,.mv (.t 8)⟩,⟨some 62, none,.call Qph [(.tk,(.t 61))] true⟩,⟨some 4, none,.asg (.t 62)⟩,⟨some 5, none,.asg (.c (.bool true))⟩] [4,5] []
def Jiz:IC:=.reg [⟨some 63, none,.mv (.t 6)⟩,⟨some 64, none,.mv (.t 7)⟩,⟨some 65, none,.iadr 7 (.t 63) (.t 64)⟩,⟨some 66, none,.fadr 0 (.t 65)⟩,⟨some 67, none,.load true 2 (.t 66)⟩,⟨some 68, none,.call Qvz [(.rd,(.t 67))] true⟩,⟨some 69, none,.len (.t 68)⟩,⟨some 70, none,.mv (.c (vi 0))⟩] [3,6,7,68,69,70] []
def Jje:IC:=.reg [⟨some 71, none,.bin .lss (.t 70) (.t 69)⟩] [3,6,7,68,69,70,71] []
def Ji2:IC:=.reg [⟨some 72, none,.iadr 4 (.t 68) (.t 70)⟩,⟨some 73, none,.load true 4 (.t 72)⟩,⟨some 11, none,.alloc [(vi 0),(vi 0),(vi 0),(vi 0)]⟩,⟨none,none,.store 4 (.t 11) (.t 73)⟩] [3,6,7,11,68,69,70] []
def Jil:IC:=.regd [⟨some 75, none,.mv (.t 6)⟩,⟨some 76, none,.mv (.t 7)⟩,⟨some 77, none,.iadr 7 (.t 75) (.t 76)⟩,⟨some 78, none,.fadr 0 (.t 77)⟩,⟨some 79, none,.load true 2 (.t 78)⟩,⟨some 80, none,.load true 4 (.t 11)⟩,⟨some 81, none,.callq Qta [(.rv,(.t 79)),(.val,(.t 80))]⟩,⟨some 74, none,.asg (.t 81)⟩,⟨some 82, none,.extr (.t 74) 0⟩,⟨some 83, none,.extr (.t 74) 1⟩,⟨some 12, none,.alloc [(vi 0),(.slice none 0 0)]⟩,⟨none,none,.storef 2 (.t 12) (.t 82)⟩,⟨some 13, none,.asg (.t 83)⟩] [0,1,2,3,4,5,6,7,8,9,10,11,12] [3,6,7,11,12,68,69,70] [[0,1,2,3,4,5,6,7,8,10,11,9,12],[0,1,2,3,4,5,6,7,9,8,10,11,12]]
def Jhc:IC:=.reg [⟨some 84, none,.mv (.t 6)⟩,⟨some 85, none,.mkfn Qtd [(.t 12)]⟩,⟨some 86, none,.call Qxq [(.ld,(.t 84)),(.val,(.t 85))] false⟩,⟨some 87, none,.unop .not (.t 86)⟩] [3,6,7,11,12,68,69,70,87] []
def Jh6:IC:=.reg [⟨some 88, none,.mv (.t 6)⟩,⟨some 89, none,.load true 2 (.t 12)⟩,⟨some 90, none,.mv (.t 7)⟩,⟨some 91, none,.load true 4 (.t 11)⟩,⟨some 92, none,.build [(vi 0),(.slice none 0 0),(vi 0),(vi 0),(vi 0),(vi 0),(vi 0)] [(0,2,(.t 89)),(2,1,(.t 90)),(3,4,(.t 91))]⟩,⟨some 93, none,.bsl 7 [(vi 0),(.slice none 0 0),(vi 0),(vi 0),(vi 0),(vi 0),(vi 0)] 1 [(0,(.t 92))]⟩,⟨some 94, none,.app 7 (.t 88) (.t 93)⟩,⟨some 6, none,.asg (.t 94)⟩] [3,6,7,68,69,70] []
def Jiy:IC:=.reg [⟨some 95, none,.bin .add (.t 70) (.c (vi 1))⟩,⟨some 70, none,.asg (.t 95)⟩] [3,6,7,68,69,70] []
def Qxw:IC:=(.seq Jje (.seq (.cond (.t 71) .skip (.exit 4)) (.seq (.block 5 (.seq Ji2 (.seq Jil (.seq Jhc (.cond (.t 87) Jh6 .skip))))) Jiy)))
def Jgd:IC:=.reg [⟨some 30, none,.mv (.t 7)⟩,⟨some 31, none,.bin .add (.t 30) (.c (vi 1))⟩,⟨some 7, none,.asg (.t 31)⟩] [3,6,7] []
def Qxp:IC:=(.seq (.seq Jon (.cond (.t 29) .skip (.exit 0))) (.seq (.block 1 (.seq (.seq Jlk (.cond (.t 38) (.seq Jp9 (.seq (.seq Jlz (.block 2 (.loop Qwl))) (.seq Jhw (.seq Jhf .ret)))) .skip)) (.seq Jiz (.block 4 (.loop Qxw))))) Jgd))
def Jic:IC:=.reg [⟨some 4, none,.nilo 4⟩,⟨some 5, none,.asg (.c (.bool false))⟩] [4,5] []
def Qo5:Qbu:=⟨[.t 4,.t 5],[],(.seq Jj9 (.seq (.seq Jk4 (.cond (.t 22) (.seq Jl3 .ret) .skip)) (.seq Jql (.seq (.seq Jo4 (.block 0 (.loop Qxp))) (.seq Jic .ret)))))⟩
def Jls:IC:=.reg [⟨some 2, none,.box (.t 0)⟩,⟨some 3, none,.asg (.c (.bool false))⟩] [1,2] []
def Jkq:IC:=.reg [⟨some 4, none,.fadr 0 (.t 2)⟩,⟨some 5, none,.load true 2 (.t 4)⟩,⟨some 6, none,.load true 2 (.t 1)⟩,⟨some 7, none,.call Qs4 [(.rd,(.t 5)),(.rd,(.t 6))] true⟩,⟨some 3, none,.asg (.t 7)⟩] [3] []
def Jaw:Qbu:=⟨[.t 3],[],(.seq Jls (.seq Jkq .ret))⟩
def Jom:IC:=.reg [⟨some 1, none,.box (.t 0)⟩,⟨some 2, none,.asg (.c (.bool false))⟩] [1] []
def Jtb:IC:=.reg [⟨some 3, none,.fadr 0 (.t 1)⟩,⟨some 4, none,.load false 1 (.t 3)⟩,⟨some 5, none,.fadr 1 (.t 1)⟩,⟨some 6, none,.load false 1 (.t 5)⟩,⟨some 7, none,.bin .neq (.t 4) (.t 6)⟩,⟨some 8, none,.asg (.t 7)⟩,⟨some 9, (some (8,true)),.fadr 0 (.t 1)⟩,⟨some 10, (some (8,true)),.load false 1 (.t 9)⟩,⟨some 11, (some (8,true)),.fadr 2 (.t 1)⟩,⟨some 12, (some (8,true)),.load false 1 (.t 11)⟩,⟨some 13, (some (8,true)),.bin .neq (.t 10) (.t 12)⟩,⟨some 14, none,.pick (.t 8) (.t 13) (.c (.bool false))⟩,⟨some 15, none,.asg (.t 14)⟩,⟨some 16, (some (15,true)),.fadr 0 (.t 1)⟩,⟨some 17, (some (15,true)),.load false 1 (.t 16)⟩,⟨some 18, (some (15,true)),.fadr 3 (.t 1)⟩,⟨some 19, (some (15,true)),.load false 1 (.t 18)⟩,⟨some 20, (some (15,true)),.bin .neq (.t 17) (.t 19)⟩,⟨some 21, none,.pick (.t 15) (.t 20) (.c (.bool false))⟩,⟨some 22, none,.asg (.t 21)⟩,
    ⟨some 23, (some (22,true)),.fadr 1 (.t 1)⟩,⟨some 24, (some (22,true)),.load false 1 (.t 23)⟩,⟨some 25, (some (22,true)),.fadr 2 (.t 1)⟩,⟨some 26, (some (22,true)),.load false 1 (.t 25)⟩,⟨some 27, (some (22,true)),.bin .neq (.t 24) (.t 26)⟩,⟨some 28, none,.pick (.t 22) (.t 27) (.c (.bool false))⟩,⟨some 29, none,.asg (.t 28)⟩,⟨some 30, (some (29,true)),.fadr 1 (.t 1)⟩,⟨some 31, (some (29,true)),.load false 1 (.t 30)⟩,⟨some 32, (some (29,true)),.fadr 3 (.t 1)⟩,⟨some 33, (some (29,true)),.load false 1 (.t 32)⟩,⟨some 34, (some (29,true)),.bin .neq (.t 31) (.t 33)⟩,⟨some 35, none,.pick (.t 29) (.t 34) (.c (.bool false))⟩,⟨some 36, none,.asg (.t 35)⟩,⟨some 37, (some (36,true)),.fadr 2 (.t 1)⟩,⟨some 38, (some (36,true)),.load false 1 (.t 37)⟩,⟨some 39, (some (36,true)),.fadr 3 (.t 1)⟩,⟨some 40, (some (36,true)),.load false 1 (.t 39)⟩,
    ⟨some 41, (some (36,true)),.bin .neq (.t 38) (.t 40)⟩,⟨some 42, none,.pick (.t 36) (.t 41) (.c (.bool false))⟩,⟨some 2, none,.asg (.t 42)⟩] [2] []
def Qkb:Qbu:=⟨[.t 2],[],(.seq Jom (.seq Jtb .ret))⟩
def Jyk:IC:=.reg [⟨some 1, none,.box (.t 0)⟩,⟨some 2, none,.asg (.c (.bool false))⟩] [1] []
def Jw9:IC:=.reg [⟨some 5, none,.fadr 1 (.t 1)⟩,⟨some 6, none,.load false 1 (.t 5)⟩,⟨some 7, none,.len (.t 6)⟩,⟨some 8, none,.mv (.c (vi 0))⟩] [1,6,7,8] []
def Jz9:IC:=.reg [⟨some 9, none,.bin .lss (.t 8) (.t 7)⟩] [1,6,7,8,9] []
def Jw2:IC:=.reg [⟨some 10, none,.asg (.t 8)⟩,⟨some 11, none,.iadr 2 (.t 6) (.t 8)⟩,⟨some 12, none,.load true 2 (.t 11)⟩,⟨some 4, none,.alloc [(vi 0),(vi 0)]⟩,⟨some 3, none,.asg (.t 10)⟩,⟨none,none,.store 2 (.t 4) (.t 12)⟩] [1,3,4,6,7,8] []
def Jxe:IC:=.reg [⟨some 13, none,.fadr 0 (.t 4)⟩,⟨some 14, none,.load false 1 (.t 13)⟩,⟨some 15, none,.bin .lss (.t 14) (.c (vi 0))⟩,⟨some 16, none,.asg (.t 15)⟩,⟨some 17, (some (16,false)),.fadr 0 (.t 4)⟩,⟨some 18, (some (16,false)),.load false 1 (.t 17)⟩,⟨some 19, (some (16,false)),.fadr 1 (.t 4)⟩,⟨some 20, (some (16,false)),.load false 1 (.t 19)⟩,⟨some 21, (some (16,false)),.bin .geq (.t 18) (.t 20)⟩,⟨some 22, none,.pick (.t 16) (.c (.bool true)) (.t 21)⟩,⟨some 23, none,.asg (.t 22)⟩,⟨some 24, (some (23,false)),.fadr 1 (.t 4)⟩,⟨some 25, (some (23,false)),.load false 1 (.t 24)⟩,⟨some 26, (some (23,false)),.fadr 0 (.t 1)⟩,⟨some 27, (some (23,false)),.load false 1 (.t 26)⟩,⟨some 28, (some (23,false)),.bin .geq (.t 25) (.t 27)⟩,⟨some 29, none,.pick (.t 23) (.c (.bool true)) (.t 28)⟩,⟨some 30, none,.asg (.t 29)⟩,⟨some 31, (some (30,false)),.mv (.t 3)⟩,
    ⟨some 32, (some (30,false)),.bin .gtr (.t 31) (.c (vi 0))⟩,⟨some 33, (some (30,false)),.asg (.t 32)⟩,⟨some 34, (some (33,true)),.fadr 1 (.t 1)⟩,⟨some 35, (some (33,true)),.load false 1 (.t 34)⟩,⟨some 36, (some (33,true)),.mv (.t 3)⟩,⟨some 37, (some (33,true)),.bin .sub (.t 36) (.c (vi 1))⟩,⟨some 38, (some (33,true)),.iadr 2 (.t 35) (.t 37)⟩,⟨some 39, (some (33,true)),.load true 2 (.t 38)⟩,⟨some 40, (some (33,true)),.load true 2 (.t 4)⟩,⟨some 41, (some (33,true)),.call Qy0 [(.val,(.t 39)),(.val,(.t 40))] true⟩,⟨some 42, (some (33,true)),.bin .geq (.t 41) (.c (vi 0))⟩,⟨some 43, (some (30,false)),.pick (.t 33) (.t 42) (.c (.bool false))⟩,⟨some 44, none,.pick (.t 30) (.c (.bool true)) (.t 43)⟩] [1,6,7,8,44] []
def Jzo:IC:=.reg [⟨some 2, none,.asg (.c (.bool false))⟩] [2] []
def Jv0:IC:=.reg [⟨some 45, none,.bin .add (.t 8) (.c (vi 1))⟩,⟨some 8, none,.asg (.t 45)⟩] [1,6,7,8] []
def Jpx:IC:=(.seq Jz9 (.seq (.cond (.t 9) .skip (.exit 0)) (.seq (.block 1 (.seq Jw2 (.seq Jxe (.cond (.t 44) (.seq Jzo .ret) .skip)))) Jv0)))
def Jyn:IC:=.reg [⟨some 46, none,.fadr 0 (.t 1)⟩,⟨some 47, none,.load false 1 (.t 46)⟩,⟨some 48, none,.call Jpt [(.val,(.t 47)),(.val,(.c (vi 0))),(.val,(.c (vi 7)))] true⟩,⟨some 2, none,.asg (.t 48)⟩] [2] []
def Jmv:Qbu:=⟨[.t 2],[],(.seq Jyk (.seq (.seq Jw9 (.block 0 (.loop Jpx))) (.seq Jyn .ret)))⟩
def Jmn:IC:=.reg [⟨some 2, none,.box (.t 0)⟩,⟨some 3, none,.box (.t 1)⟩,⟨some 4, none,.asg (.c (.bool false))⟩] [2,3] []
def Jm7:IC:=.reg [⟨some 5, none,.load true 2 (.t 2)⟩,⟨some 6, none,.call Jf0 [(.rd,(.t 5))] true⟩,⟨some 7, none,.asg (.t 6)⟩,⟨some 8, (some (7,true)),.load true 2 (.t 3)⟩,⟨some 9, (some (7,true)),.call Jf0 [(.rd,(.t 8))] true⟩,⟨some 10, none,.pick (.t 7) (.t 9) (.c (.bool false))⟩,⟨some 11, none,.asg (.t 10)⟩,⟨some 12, (some (11,true)),.fadr 0 (.t 2)⟩,⟨some 13, (some (11,true)),.load false 1 (.t 12)⟩,⟨some 14, (some (11,true)),.fadr 0 (.t 3)⟩,⟨some 15, (some (11,true)),.load false 1 (.t 14)⟩,⟨some 16, (some (11,true)),.bin .eql (.t 13) (.t 15)⟩,⟨some 17, none,.pick (.t 11) (.t 16) (.c (.bool false))⟩,⟨some 4, none,.asg (.t 17)⟩] [4] []
def Qpx:Qbu:=⟨[.t 4],[],(.seq Jmn (.seq Jm7 .ret))⟩
def Jth:IC:=.reg [⟨some 2, none,.asg (.c (.slice none 0 0))⟩] [0] []
def Jrs:IC:=.reg [⟨some 3, none,.mv (.t 0)⟩,⟨some 4, none,.call Qsy [(.rd,(.t 3))] true⟩,⟨some 5, none,.call Qu2 [(.tk,(.t 4))] true⟩,⟨some 2, none,.asg (.t 5)⟩] [2] []
def Jal:Qbu:=⟨[.t 2],[],(.seq Jth (.seq Jrs .ret))⟩
def z32r0:IC:=.reg [⟨some 2, none,.box (.t 0)⟩,⟨some 3, none,.box (.t 1)⟩,⟨some 4, none,.asg (.c (vi 0))⟩] [2,3] []
def Jwr:IC:=.reg [⟨some 5, none,.fadr 0 (.t 2)⟩,⟨some 6, none,.load false 1 (.t 5)⟩,⟨some 7, none,.fadr 0 (.t 3)⟩,⟨some 8, none,.load false 1 (.t 7)⟩,⟨some 9, none,.bin .neq (.t 6) (.t 8)⟩] [2,3,9] []
def z32r2:IC:=.reg [⟨some 10, none,.fadr 0 (.t 2)⟩,⟨some 11, none,.load false 1 (.t 10)⟩,⟨some 12, none,.fadr 0 (.t 3)⟩,⟨some 13, none,.load false 1 (.t 12)⟩,⟨some 14, none,.bin .sub (.t 11) (.t 13)⟩,⟨some 4, none,.asg (.t 14)⟩] [4] []
def z32r3:IC:=.reg [⟨some 15, none,.fadr 1 (.t 2)⟩,⟨some 16, none,.load false 1 (.t 15)⟩,⟨some 17, none,.fadr 1 (.t 3)⟩,⟨some 18, none,.load false 1 (.t 17)⟩,⟨some 19, none,.bin .sub (.t 16) (.t 18)⟩,⟨some 4, none,.asg (.t 19)⟩] [4] []
def Jq3:Qbu:=⟨[.t 4],[],(.seq z32r0 (.seq (.seq Jwr (.cond (.t 9) (.seq z32r2 .ret) .skip)) (.seq z32r3 .ret)))⟩
def Jv9:IC:=.reg [⟨some 4, none,.alloc [(vi 0),(vi 0)]⟩] [0,1,4] []
def Jzb:IC:=.reg [⟨some 5, none,.mv (.t 0)⟩,⟨some 6, none,.mv (.t 1)⟩,⟨some 7, none,.minmax true (.t 5) (.t 6)⟩,⟨some 8, none,.mv (.t 0)⟩,⟨some 9, none,.mv (.t 1)⟩,⟨some 10, none,.minmax false (.t 8) (.t 9)⟩,⟨some 11, none,.build [(vi 0),(vi 0)] [(0,1,(.t 7)),(1,1,(.t 10))]⟩,⟨none,none,.store 2 (.t 4) (.t 11)⟩] [4] []
def Ju2:Qbu:=⟨[.c 4 2 true],[],(.seq Jv9 (.seq Jzb .ret))⟩
def Jwx:IC:=.reg [⟨some 6, none,.asg (.c (.bool false))⟩] [0,1,2] []
def Jv1:IC:=.reg [⟨some 7, none,.mv (.t 0)⟩,⟨some 8, none,.mv (.t 1)⟩,⟨some 9, none,.bin .geq (.t 7) (.t 8)⟩,⟨some 10, none,.asg (.t 9)⟩,⟨some 11, (some (10,true)),.mv (.t 0)⟩,⟨some 12, (some (10,true)),.mv (.t 2)⟩,⟨some 13, (some (10,true)),.bin .leq (.t 11) (.t 12)⟩,⟨some 14, none,.pick (.t 10) (.t 13) (.c (.bool false))⟩,⟨some 6, none,.asg (.t 14)⟩] [6] []
def Jkl:Qbu:=⟨[.t 6],[],(.seq Jwx (.seq Jv1 .ret))⟩
def Js1:IC:=.reg [⟨some 4, none,.alloc [(vi 0),(.slice none 0 0)]⟩] [0,1,4] []
def Jn8:IC:=.reg [⟨some 6, none,.mv (.t 1)⟩,⟨some 7, none,.call Qw2 [(.rd,(.t 6))] true⟩,⟨some 5, none,.asg (.t 7)⟩] [0,4,5] []
def Jr8:IC:=.reg [⟨some 8, none,.mv (.t 5)⟩,⟨some 9, none,.call Qs9 [(.ld,(.t 8)),(.val,(.f Qy0))] false⟩] [0,4,5] []
def Jts:IC:=.reg [⟨some 10, none,.mv (.t 0)⟩,⟨some 11, none,.mv (.t 5)⟩,⟨some 12, none,.build [(vi 0),(.slice none 0 0)] [(0,1,(.t 10)),(1,1,(.t 11))]⟩,⟨none,none,.store 2 (.t 4) (.t 12)⟩] [4] []
def Jcf:Qbu:=⟨[.c 4 2 true],[],(.seq Js1 (.seq Jn8 (.seq Jr8 (.seq Jts .ret))))⟩
def Jmg:IC:=.reg [⟨some 2, none,.box (.t 0)⟩,⟨some 3, none,.box (.t 1)⟩,⟨some 4, none,.asg (.c (.bool false))⟩] [2,3] []
def Jp6:IC:=.reg [⟨some 5, none,.asg (.c (vi 1048576))⟩] [2,3,5] []
def Jj3:IC:=.reg [⟨some 17, none,.load true 2 (.t 2)⟩,⟨some 18, none,.mv (.t 5)⟩,⟨some 19, none,.call Jed [(.rd,(.t 17)),(.val,(.t 18))] true⟩,⟨some 5, none,.asg (.t 19)⟩] [2,3,5] []
def Joe:IC:=.reg [⟨some 20, none,.mv (.t 5)⟩,⟨some 21, none,.bin .lss (.t 20) (.c (vi 0))⟩] [2,3,5,21] []
def Jm2:IC:=.reg [⟨some 4, none,.asg (.c (.bool true))⟩] [4] []
def Jsk:IC:=.reg [⟨some 22, none,.load true 2 (.t 3)⟩,⟨some 23, none,.mv (.t 5)⟩,⟨some 24, none,.call Jed [(.rd,(.t 22)),(.val,(.t 23))] true⟩,⟨some 5, none,.asg (.t 24)⟩] [2,3,5] []
def Jtk:IC:=.reg [⟨some 25, none,.mv (.t 5)⟩,⟨some 26, none,.bin .lss (.t 25) (.c (vi 0))⟩] [2,3,26] []
def Jt2:IC:=.reg [⟨some 4, none,.asg (.c (.bool true))⟩] [4] []
def Jtg:IC:=.reg [⟨some 28, none,.load true 2 (.t 2)⟩,⟨some 29, none,.call Qtj [(.rd,(.t 28))] true⟩,⟨some 30, none,.load true 2 (.t 3)⟩,⟨some 31, none,.call Qtj [(.rd,(.t 30))] true⟩,⟨some 32, none,.call Qon [(.rd,(.t 29)),(.rd,(.t 31))] true⟩,⟨some 27, none,.asg (.t 32)⟩,⟨some 33, none,.extr (.t 27) 0⟩,⟨some 34, none,.extr (.t 27) 1⟩,⟨some 6, none,.asg (.t 33)⟩,⟨some 7, none,.asg (.t 34)⟩] [2,3,6,7] [[0,1,2,3,4,5,6,8,7,9],[0,1,2,3,4,5,7,6,8,9],[0,2,1,3,4,5,6,7,8,9],[0,2,1,3,4,5,6,8,7,9],[0,2,1,3,4,5,7,6,8,9]]
def Jtu:IC:=.reg [⟨some 35, none,.load true 2 (.t 2)⟩,⟨some 36, none,.call Qtj [(.rd,(.t 35))] true⟩,⟨some 8, none,.alloc [(vi 0),(.slice none 0 0)]⟩,⟨none,none,.store 2 (.t 8) (.t 36)⟩] [2,3,6,7,8] []
def Jen:IC:=.reg [⟨some 37, none,.load true 2 (.t 3)⟩,⟨some 38, none,.call Qtj [(.rd,(.t 37))] true⟩,⟨some 9, none,.alloc [(vi 0),(.slice none 0 0)]⟩,⟨none,none,.store 2 (.t 9) (.t 38)⟩] [2,3,6,7,8,9] []
def Jg1:IC:=.reg [⟨some 40, none,.load true 2 (.t 8)⟩,⟨some 41, none,.load true 2 (.t 9)⟩,⟨some 42, none,.call Qlj [(.rd,(.t 40)),(.rd,(.t 41))] true⟩,⟨some 39, none,.asg (.t 42)⟩,⟨some 43, none,.extr (.t 39) 0⟩,⟨some 44, none,.extr (.t 39) 1⟩,⟨some 10, none,.asg (.t 43)⟩,⟨some 11, none,.asg (.t 44)⟩] [2,3,6,7,8,9,10,11] []
def Jeg:IC:=.reg [⟨some 45, none,.mv (.t 10)⟩,⟨some 46, none,.mv (.t 6)⟩,⟨some 47, none,.call Qnf [(.rd,(.t 45)),(.rd,(.t 46))] true⟩,⟨some 48, none,.unop .not (.t 47)⟩,⟨some 49, none,.asg (.t 48)⟩,⟨some 50, (some (49,false)),.mv (.t 11)⟩,⟨some 51, (some (49,false)),.mv (.t 7)⟩,⟨some 52, (some (49,false)),.eqb true (.t 50) (.t 51)⟩,⟨some 53, none,.pick (.t 49) (.c (.bool true)) (.t 52)⟩] [2,3,6,7,8,9,10,11,53] []
def Jem:IC:=.reg [⟨some 4, none,.asg (.c (.bool false))⟩] [4] []
def Jd9:IC:=.reg [⟨some 54, none,.load true 2 (.t 8)⟩,⟨some 55, none,.load true 2 (.t 2)⟩,⟨some 56, none,.call Qtj [(.rd,(.t 55))] true⟩,⟨some 57, none,.call Jj1 [(.rd,(.t 54)),(.rd,(.t 56))] true⟩,⟨some 58, none,.unop .not (.t 57)⟩] [2,3,6,7,8,9,10,11,58] [[1,2,0,3,4]]
def Jgp:IC:=.reg [⟨some 4, none,.asg (.c (.bool false))⟩] [4] []
def Jd8:IC:=.reg [⟨some 59, none,.load true 2 (.t 9)⟩,⟨some 60, none,.load true 2 (.t 3)⟩,⟨some 61, none,.call Qtj [(.rd,(.t 60))] true⟩,⟨some 62, none,.call Jj1 [(.rd,(.t 59)),(.rd,(.t 61))] true⟩,⟨some 63, none,.unop .not (.t 62)⟩] [2,3,6,7,8,9,10,11,63] [[1,2,0,3,4]]
def Jit:IC:=.reg [⟨some 4, none,.asg (.c (.bool false))⟩] [4] []
def Jgw:IC:=.reg [⟨some 12, none,.asg (.c (vi 1))⟩] [2,3,6,7,8,9,10,11,12] []
def Jel:IC:=.reg [⟨some 64, none,.load true 2 (.t 8)⟩,⟨some 65, none,.mv (.t 12)⟩,⟨some 66, none,.callm Jj2 (.t 64) (.t 65)⟩,⟨some 12, none,.asg (.t 66)⟩] [2,3,6,7,9,10,11,12] []
def Jes:IC:=.reg [⟨some 67, none,.load true 2 (.t 9)⟩,⟨some 68, none,.mv (.t 12)⟩,⟨some 69, none,.callm Jj2 (.t 67) (.t 68)⟩,⟨some 12, none,.asg (.t 69)⟩] [2,3,6,7,10,11,12] []
def Jjh:IC:=.reg [⟨some 70, none,.mv (.t 12)⟩,⟨some 71, none,.bin .lss (.t 70) (.c (vi 0))⟩,⟨some 72, none,.asg (.t 71)⟩,⟨some 73, (some (72,false)),.mv (.t 10)⟩,⟨some 74, (some (72,false)),.mv (.t 6)⟩,⟨some 75, (some (72,false)),.call Qnf [(.rd,(.t 73)),(.rd,(.t 74))] true⟩,⟨some 76, (some (72,false)),.unop .not (.t 75)⟩,⟨some 77, none,.pick (.t 72) (.c (.bool true)) (.t 76)⟩,⟨some 78, none,.asg (.t 77)⟩,⟨some 79, (some (78,false)),.mv (.t 11)⟩,⟨some 80, (some (78,false)),.mv (.t 7)⟩,⟨some 81, (some (78,false)),.eqb true (.t 79) (.t 80)⟩,⟨some 82, none,.pick (.t 78) (.c (.bool true)) (.t 81)⟩] [2,3,6,7,10,82] []
def Jhb:IC:=.reg [⟨some 4, none,.asg (.c (.bool false))⟩] [4] []
def Jhk:IC:=.reg [⟨some 13, none,.asg (.c (vi 1))⟩] [2,3,6,7,10,13] []
def Jg9:IC:=.reg [⟨some 83, none,.mv (.t 10)⟩,⟨some 84, none,.mv (.t 13)⟩,⟨some 85, none,.callm Qs0 (.t 83) (.t 84)⟩,⟨some 13, none,.asg (.t 85)⟩] [2,3,6,7,10,13] []
def Jdv:IC:=.reg [⟨some 14, none,.asg (.c (vi 1))⟩] [2,3,6,7,10,13,14] []
def Ji1:IC:=.reg [⟨some 86, none,.mv (.t 10)⟩,⟨some 87, none,.mv (.t 14)⟩,⟨some 88, none,.call Qo0 [(.rd,(.t 86)),(.val,(.t 87))] true⟩,⟨some 14, none,.asg (.t 88)⟩] [2,3,6,7,10,13,14] []
def Jiq:IC:=.reg [⟨some 89, none,.mv (.t 14)⟩,⟨some 90, none,.bin .lss (.t 89) (.c (vi 0))⟩] [2,3,6,7,10,13,14,90] []
def Jfy:IC:=.reg [⟨some 4, none,.asg (.c (.bool false))⟩] [4] []
def Jd1:IC:=.reg [⟨some 91, none,.mv (.t 14)⟩,⟨some 92, none,.mv (.t 13)⟩,⟨some 93, none,.bin .neq (.t 91) (.t 92)⟩] [2,3,6,7,10,13,93] []
def Jg6:IC:=.reg [⟨some 4, none,.asg (.c (.bool false))⟩] [4] []
def Jf6:IC:=.reg [⟨some 95, none,.load true 2 (.t 2)⟩,⟨some 96, none,.call Qtj [(.rd,(.t 95))] true⟩,⟨some 97, none,.load true 2 (.t 3)⟩,⟨some 98, none,.call Qtj [(.rd,(.t 97))] true⟩,⟨some 99, none,.call Qlj [(.rd,(.t 96)),(.rd,(.t 98))] true⟩,⟨some 94, none,.asg (.t 99)⟩,⟨some 100, none,.extr (.t 94) 0⟩,⟨some 101, none,.extr (.t 94) 1⟩,⟨some 15, none,.asg (.t 100)⟩,⟨some 16, none,.asg (.t 101)⟩] [6,7,10,13,15,16] [[0,1,2,3,4,5,6,8,7,9],[0,1,2,3,4,5,7,6,8,9],[0,2,1,3,4,5,6,7,8,9],[0,2,1,3,4,5,6,8,7,9],[0,2,1,3,4,5,7,6,8,9]]
def Jh7:IC:=.reg [⟨some 102, none,.mv (.t 15)⟩,⟨some 103, none,.mv (.t 6)⟩,⟨some 104, none,.call Qnf [(.rd,(.t 102)),(.rd,(.t 103))] true⟩,⟨some 105, none,.unop .not (.t 104)⟩,⟨some 106, none,.asg (.t 105)⟩,⟨some 107, (some (106,false)),.mv (.t 16)⟩,⟨some 108, (some (106,false)),.mv (.t 7)⟩,⟨some 109, (some (106,false)),.eqb true (.t 107) (.t 108)⟩,⟨some 110, none,.pick (.t 106) (.c (.bool true)) (.t 109)⟩] [10,13,110] []
def Je5:IC:=.reg [⟨some 4, none,.asg (.c (.bool false))⟩] [4] []
def Jga:IC:=.reg [⟨some 14, none,.asg (.c (vi 1))⟩] [10,13,14] []
def Jgt:IC:=.reg [⟨some 111, none,.mv (.t 10)⟩,⟨some 112, none,.mv (.t 14)⟩,⟨some 113, none,.call Qo0 [(.rd,(.t 111)),(.val,(.t 112))] true⟩,⟨some 14, none,.asg (.t 113)⟩] [13,14] []
def Jgl:IC:=.reg [⟨some 114, none,.mv (.t 14)⟩,⟨some 115, none,.bin .lss (.t 114) (.c (vi 0))⟩] [13,14,115] []
def Je0:IC:=.reg [⟨some 4, none,.asg (.c (.bool false))⟩] [4] []
def Jji:IC:=.reg [⟨some 116, none,.mv (.t 14)⟩,⟨some 117, none,.mv (.t 13)⟩,⟨some 118, none,.bin .neq (.t 116) (.t 117)⟩] [118] []
def Jgi:IC:=.reg [⟨some 4, none,.asg (.c (.bool false))⟩] [4] []
def Jiu:IC:=.reg [⟨some 4, none,.asg (.c (.bool true))⟩] [4] []
def Qp3:Qbu:=⟨[.t 4],[],(.seq Jmg (.seq Jp6 (.seq Jj3 (.seq (.seq Joe (.cond (.t 21) (.seq Jm2 .ret) .skip)) (.seq Jsk (.seq (.seq Jtk (.cond (.t 26) (.seq Jt2 .ret) .skip)) (.seq Jtg (.seq Jtu (.seq Jen (.seq Jg1 (.seq (.seq Jeg (.cond (.t 53) (.seq Jem .ret) .skip)) (.seq (.seq Jd9 (.cond (.t 58) (.seq Jgp .ret) .skip)) (.seq (.seq Jd8 (.cond (.t 63) (.seq Jit .ret) .skip)) (.seq Jgw (.seq Jel (.seq Jes (.seq (.seq Jjh (.cond (.t 82) (.seq Jhb .ret) .skip)) (.seq Jhk (.seq Jg9 (.seq Jdv (.seq Ji1 (.seq (.seq Jiq (.cond (.t 90) (.seq Jfy .ret) .skip)) (.seq (.seq Jd1 (.cond (.t 93) (.seq Jg6 .ret) .skip)) (.seq Jf6 (.seq (.seq Jh7 (.cond (.t 110) (.seq Je5 .ret) .skip)) (.seq Jga (.seq Jgt (.seq (.seq Jgl (.cond (.t 115) (.seq Je0 .ret) .skip)) (.seq (.seq Jji (.cond (.t 118) (.seq Jgi .ret) .skip)) (.seq Jiu .ret))))))))))))))))))))))))))))))⟩
def Jwc:IC:=.reg [⟨some 2, none,.box (.t 0)⟩,⟨some 3, none,.box (.t 1)⟩,⟨some 4, none,.asg (.c (.bool false))⟩] [2,3] []
def Jyt:IC:=.reg [⟨some 5, none,.fadr 0 (.t 2)⟩,⟨some 6, none,.load false 1 (.t 5)⟩,⟨some 7, none,.fadr 0 (.t 3)⟩,⟨some 8, none,.load false 1 (.t 7)⟩,⟨some 9, none,.bin .neq (.t 6) (.t 8)⟩] [2,3,9] []
def Jy3:IC:=.reg [⟨some 4, none,.asg (.c (.bool false))⟩] [4] []
def z48r3:IC:=.reg [⟨some 10, none,.fadr 1 (.t 2)⟩,⟨some 11, none,.load false 1 (.t 10)⟩,⟨some 12, none,.fadr 1 (.t 3)⟩,⟨some 13, none,.load false 1 (.t 12)⟩,⟨some 14, none,.bin .neq (.t 11) (.t 13)⟩] [14] []
def Jyc:IC:=.reg [⟨some 4, none,.asg (.c (.bool false))⟩] [4] []
def Jys:IC:=.reg [⟨some 4, none,.asg (.c (.bool true))⟩] [4] []
def Juu:Qbu:=⟨[.t 4],[],(.seq Jwc (.seq (.seq Jyt (.cond (.t 9) (.seq Jy3 .ret) .skip)) (.seq (.seq z48r3 (.cond (.t 14) (.seq Jyc .ret) .skip)) (.seq Jys .ret))))⟩
def z49r0:IC:=.reg [⟨some 4, none,.asg (.c (.bool false))⟩] [0,1] []
def Jwu:IC:=.reg [⟨some 6, none,.mv (.t 0)⟩,⟨some 7, none,.len (.t 6)⟩,⟨some 8, none,.mv (.t 1)⟩,⟨some 9, none,.len (.t 8)⟩,⟨some 10, none,.bin .neq (.t 7) (.t 9)⟩] [0,1,10] []
def z49r2:IC:=.reg [⟨some 4, none,.asg (.c (.bool false))⟩] [4] []
def Jv2:IC:=.reg [⟨some 5, none,.asg (.c (vi 0))⟩] [0,1,5] []
def Jy9:IC:=.reg [⟨some 11, none,.mv (.t 5)⟩,⟨some 12, none,.mv (.t 0)⟩,⟨some 13, none,.len (.t 12)⟩,⟨some 14, none,.bin .lss (.t 11) (.t 13)⟩] [0,1,5,14] []
def Jz1:IC:=.reg [⟨some 17, none,.mv (.t 0)⟩,⟨some 18, none,.mv (.t 5)⟩,⟨some 19, none,.iadr 2 (.t 17) (.t 18)⟩,⟨some 20, none,.load true 2 (.t 19)⟩,⟨some 21, none,.mv (.t 1)⟩,⟨some 22, none,.mv (.t 5)⟩,⟨some 23, none,.iadr 2 (.t 21) (.t 22)⟩,⟨some 24, none,.load true 2 (.t 23)⟩,⟨some 25, none,.call Jo7 [(.val,(.t 20)),(.val,(.t 24))] true⟩,⟨some 26, none,.unop .not (.t 25)⟩] [0,1,5,26] []
def z49r6:IC:=.reg [⟨some 4, none,.asg (.c (.bool false))⟩] [4] []
def Jwv:IC:=.reg [⟨some 15, none,.mv (.t 5)⟩,⟨some 16, none,.bin .add (.t 15) (.c (vi 1))⟩,⟨some 5, none,.asg (.t 16)⟩] [0,1,5] []
def Jqz:IC:=(.seq (.seq Jy9 (.cond (.t 14) .skip (.exit 0))) (.seq (.block 1 (.seq Jz1 (.cond (.t 26) (.seq z49r6 .ret) .skip))) Jwv))
def Jzr:IC:=.reg [⟨some 4, none,.asg (.c (.bool true))⟩] [4] []
def Jvj:Qbu:=⟨[.t 4],[],(.seq z49r0 (.seq (.seq Jwu (.cond (.t 10) (.seq z49r2 .ret) .skip)) (.seq (.seq Jv2 (.block 0 (.loop Jqz))) (.seq Jzr .ret))))⟩
def Jv7:IC:=.reg [⟨some 2, none,.box (.t 0)⟩,⟨some 3, none,.box (.t 1)⟩,⟨some 4, none,.asg (.c (.bool false))⟩] [2,3] []
def Jxr:IC:=.reg [⟨some 5, none,.fadr 0 (.t 2)⟩,⟨some 6, none,.load false 1 (.t 5)⟩,⟨some 7, none,.fadr 0 (.t 3)⟩,⟨some 8, none,.load false 1 (.t 7)⟩,⟨some 9, none,.bin .neq (.t 6) (.t 8)⟩] [2,3,9] []
def z50r2:IC:=.reg [⟨some 4, none,.asg (.c (.bool false))⟩] [4] []
def Jye:IC:=.reg [⟨some 10, none,.fadr 1 (.t 2)⟩,⟨some 11, none,.load false 1 (.t 10)⟩,⟨some 12, none,.fadr 1 (.t 3)⟩,⟨some 13, none,.load false 1 (.t 12)⟩,⟨some 14, none,.call Jq7 [(.rd,(.t 11)),(.rd,(.t 13))] true⟩,⟨some 15, none,.unop .not (.t 14)⟩] [15] []
def Jyp:IC:=.reg [⟨some 4, none,.asg (.c (.bool false))⟩] [4] []
def Jw1:IC:=.reg [⟨some 4, none,.asg (.c (.bool true))⟩] [4] []
def Jvc:Qbu:=⟨[.t 4],[],(.seq Jv7 (.seq (.seq Jxr (.cond (.t 9) (.seq z50r2 .ret) .skip)) (.seq (.seq Jye (.cond (.t 15) (.seq Jyp .ret) .skip)) (.seq Jw1 .ret))))⟩
def Jqs:IC:=.reg [⟨some 2, none,.box (.t 0)⟩,⟨some 3, none,.box (.t 1)⟩,⟨some 4, none,.asg (.c (.bool false))⟩] [2,3] []
def Jm0:IC:=.reg [⟨some 5, none,.fadr 0 (.t 2)⟩,⟨some 6, none,.load false 1 (.t 5)⟩,⟨some 7, none,.fadr 0 (.t 3)⟩,⟨some 8, none,.load false 1 (.t 7)⟩,⟨some 9, none,.bin .neq (.t 6) (.t 8)⟩] [2,3,9] []
def Jkd:IC:=.reg [⟨some 4, none,.asg (.c (.bool false))⟩] [4] []
def Jtr:IC:=.reg [⟨some 10, none,.fadr 1 (.t 2)⟩,⟨some 11, none,.load false 1 (.t 10)⟩,⟨some 12, none,.fadr 1 (.t 3)⟩,⟨some 13, none,.load false 1 (.t 12)⟩,⟨some 14, none,.bin .neq (.t 11) (.t 13)⟩] [2,3,14] []
def Jll:IC:=.reg [⟨some 4, none,.asg (.c (.bool false))⟩] [4] []
def Jsg:IC:=.reg [⟨some 15, none,.fadr 2 (.t 2)⟩,⟨some 16, none,.load false 1 (.t 15)⟩,⟨some 17, none,.fadr 2 (.t 3)⟩,⟨some 18, none,.load false 1 (.t 17)⟩,⟨some 19, none,.bin .neq (.t 16) (.t 18)⟩] [2,3,19] []
def Jue:IC:=.reg [⟨some 4, none,.asg (.c (.bool false))⟩] [4] []
def Jph:IC:=.reg [⟨some 20, none,.fadr 3 (.t 2)⟩,⟨some 21, none,.load false 1 (.t 20)⟩,⟨some 22, none,.fadr 3 (.t 3)⟩,⟨some 23, none,.load false 1 (.t 22)⟩,⟨some 24, none,.bin .neq (.t 21) (.t 23)⟩] [24] []
def Jre:IC:=.reg [⟨some 4, none,.asg (.c (.bool false))⟩] [4] []
def Jqr:IC:=.reg [⟨some 4, none,.asg (.c (.bool true))⟩] [4] []
def Qz4:Qbu:=⟨[.t 4],[],(.seq Jqs (.seq (.seq Jm0 (.cond (.t 9) (.seq Jkd .ret) .skip)) (.seq (.seq Jtr (.cond (.t 14) (.seq Jll .ret) .skip)) (.seq (.seq Jsg (.cond (.t 19) (.seq Jue .ret) .skip)) (.seq (.seq Jph (.cond (.t 24) (.seq Jre .ret) .skip)) (.seq Jqr .ret))))))⟩
def Jmq:IC:=.reg [⟨some 4, none,.asg (.c (.bool false))⟩] [0,1] []
def Jo0:IC:=.reg [⟨some 6, none,.mv (.t 0)⟩,⟨some 7, none,.len (.t 6)⟩,⟨some 8, none,.mv (.t 1)⟩,⟨some 9, none,.len (.t 8)⟩,⟨some 10, none,.bin .neq (.t 7) (.t 9)⟩] [0,1,10] []
def Jle:IC:=.reg [⟨some 4, none,.asg (.c (.bool false))⟩] [4] []
def Jnr:IC:=.reg [⟨some 5, none,.asg (.c (vi 0))⟩] [0,1,5] []
def Jqi:IC:=.reg [⟨some 11, none,.mv (.t 5)⟩,⟨some 12, none,.mv (.t 0)⟩,⟨some 13, none,.len (.t 12)⟩,⟨some 14, none,.bin .lss (.t 11) (.t 13)⟩] [0,1,5,14] []
def Jqd:IC:=.reg [⟨some 17, none,.mv (.t 0)⟩,⟨some 18, none,.mv (.t 5)⟩,⟨some 19, none,.iadr 4 (.t 17) (.t 18)⟩,⟨some 20, none,.load true 4 (.t 19)⟩,⟨some 21, none,.mv (.t 1)⟩,⟨some 22, none,.mv (.t 5)⟩,⟨some 23, none,.iadr 4 (.t 21) (.t 22)⟩,⟨some 24, none,.load true 4 (.t 23)⟩,⟨some 25, none,.call Qw9 [(.val,(.t 20)),(.val,(.t 24))] true⟩,⟨some 26, none,.unop .not (.t 25)⟩] [0,1,5,26] []
def Jrk:IC:=.reg [⟨some 4, none,.asg (.c (.bool false))⟩] [4] []
def Jn1:IC:=.reg [⟨some 15, none,.mv (.t 5)⟩,⟨some 16, none,.bin .add (.t 15) (.c (vi 1))⟩,⟨some 5, none,.asg (.t 16)⟩] [0,1,5] []
def Jdl:IC:=(.seq (.seq Jqi (.cond (.t 14) .skip (.exit 0))) (.seq (.block 1 (.seq Jqd (.cond (.t 26) (.seq Jrk .ret) .skip))) Jn1))
def Jok:IC:=.reg [⟨some 4, none,.asg (.c (.bool true))⟩] [4] []
def Qw4:Qbu:=⟨[.t 4],[],(.seq Jmq (.seq (.seq Jo0 (.cond (.t 10) (.seq Jle .ret) .skip)) (.seq (.seq Jnr (.block 0 (.loop Jdl))) (.seq Jok .ret))))⟩
def Jn5:IC:=.reg [⟨some 4, none,.asg (.c (vi 0))⟩] [0,1] []
def Jnf:IC:=.reg [⟨some 5, none,.asg (.c (vi 0))⟩] [0,1,5] []
def Jnj:IC:=.reg [⟨some 6, none,.mv (.t 5)⟩,⟨some 7, none,.mv (.t 0)⟩,⟨some 8, none,.len (.t 7)⟩,⟨some 9, none,.bin .lss (.t 6) (.t 8)⟩] [0,1,5,9] []
def Jl1:IC:=.reg [⟨some 12, none,.mv (.t 0)⟩,⟨some 13, none,.mv (.t 5)⟩,⟨some 14, none,.iadr 4 (.t 12) (.t 13)⟩,⟨some 15, none,.fadr 0 (.t 14)⟩,⟨some 16, none,.load false 1 (.t 15)⟩,⟨some 17, none,.mv (.t 1)⟩,⟨some 18, none,.bin .neq (.t 16) (.t 17)⟩] [0,1,5,18] []
def Jq8:IC:=.reg [⟨some 4, none,.asg (.c (vi (-1)))⟩] [4] []
def Jmo:IC:=.reg [⟨some 19, none,.mv (.t 1)⟩,⟨some 20, none,.bin .add (.t 19) (.c (vi 1))⟩,⟨some 1, none,.asg (.t 20)⟩] [0,1,5] []
def Jkv:IC:=.reg [⟨some 21, none,.mv (.t 0)⟩,⟨some 22, none,.mv (.t 5)⟩,⟨some 23, none,.iadr 4 (.t 21) (.t 22)⟩,⟨some 24, none,.fadr 1 (.t 23)⟩,⟨some 25, none,.load false 1 (.t 24)⟩,⟨some 26, none,.mv (.t 1)⟩,⟨some 27, none,.bin .neq (.t 25) (.t 26)⟩] [0,1,5,27] []
def Jsb:IC:=.reg [⟨some 4, none,.asg (.c (vi (-1)))⟩] [4] []
def Jlt:IC:=.reg [⟨some 28, none,.mv (.t 1)⟩,⟨some 29, none,.bin .add (.t 28) (.c (vi 1))⟩,⟨some 1, none,.asg (.t 29)⟩] [0,1,5] []
def Js3:IC:=.reg [⟨some 30, none,.mv (.t 0)⟩,⟨some 31, none,.mv (.t 5)⟩,⟨some 32, none,.iadr 4 (.t 30) (.t 31)⟩,⟨some 33, none,.fadr 2 (.t 32)⟩,⟨some 34, none,.load false 1 (.t 33)⟩,⟨some 35, none,.mv (.t 1)⟩,⟨some 36, none,.bin .neq (.t 34) (.t 35)⟩] [0,1,5,36] []
def Jhm:IC:=.reg [⟨some 4, none,.asg (.c (vi (-1)))⟩] [4] []
def Jif:IC:=.reg [⟨some 37, none,.mv (.t 1)⟩,⟨some 38, none,.bin .add (.t 37) (.c (vi 1))⟩,⟨some 1, none,.asg (.t 38)⟩] [0,1,5] []
def Jjl:IC:=.reg [⟨some 39, none,.mv (.t 0)⟩,⟨some 40, none,.mv (.t 5)⟩,⟨some 41, none,.iadr 4 (.t 39) (.t 40)⟩,⟨some 42, none,.fadr 3 (.t 41)⟩,⟨some 43, none,.load false 1 (.t 42)⟩,⟨some 44, none,.mv (.t 1)⟩,⟨some 45, none,.bin .neq (.t 43) (.t 44)⟩] [0,1,5,45] []
def Jg3:IC:=.reg [⟨some 4, none,.asg (.c (vi (-1)))⟩] [4] []
def Jgn:IC:=.reg [⟨some 46, none,.mv (.t 1)⟩,⟨some 47, none,.bin .add (.t 46) (.c (vi 1))⟩,⟨some 1, none,.asg (.t 47)⟩] [0,1,5] []
def Jip:IC:=.reg [⟨some 10, none,.mv (.t 5)⟩,⟨some 11, none,.bin .add (.t 10) (.c (vi 1))⟩,⟨some 5, none,.asg (.t 11)⟩] [0,1,5] []
def Qxo:IC:=(.seq (.seq Jnj (.cond (.t 9) .skip (.exit 0))) (.seq (.block 1 (.seq (.seq Jl1 (.cond (.t 18) (.seq Jq8 .ret) .skip)) (.seq Jmo (.seq (.seq Jkv (.cond (.t 27) (.seq Jsb .ret) .skip)) (.seq Jlt (.seq (.seq Js3 (.cond (.t 36) (.seq Jhm .ret) .skip)) (.seq Jif (.seq (.seq Jjl (.cond (.t 45) (.seq Jg3 .ret) .skip)) Jgn)))))))) Jip))
def Jdq:IC:=.reg [⟨some 48, none,.mv (.t 1)⟩,⟨some 4, none,.asgm (.t 48)⟩] [4] []
def Jas:Qbu:=⟨[.t 4],[],(.seq Jn5 (.seq (.seq Jnf (.block 0 (.loop Qxo))) (.seq Jdq .ret)))⟩
def Jv4:IC:=.reg [⟨some 4, none,.asg (.c (vi 0))⟩] [0,1] []
def Jzn:IC:=.reg [⟨some 5, none,.asg (.c (vi 0))⟩] [0,1,5] []
def z56r2:IC:=.reg [⟨some 6, none,.mv (.t 5)⟩,⟨some 7, none,.mv (.t 0)⟩,⟨some 8, none,.len (.t 7)⟩,⟨some 9, none,.bin .lss (.t 6) (.t 8)⟩] [0,1,5,9] []
def z56r3:IC:=.reg [⟨some 12, none,.mv (.t 0)⟩,⟨some 13, none,.mv (.t 5)⟩,⟨some 14, none,.mv (.t 1)⟩,⟨some 15, none,.iadr 2 (.t 12) (.t 13)⟩,⟨some 16, none,.fadr 0 (.t 15)⟩,⟨none,none,.store 1 (.t 16) (.t 14)⟩] [0,1,5] []
def Jxv:IC:=.reg [⟨some 17, none,.mv (.t 1)⟩,⟨some 18, none,.bin .add (.t 17) (.c (vi 1))⟩,⟨some 1, none,.asg (.t 18)⟩] [0,1,5] []
def Jy6:IC:=.reg [⟨some 19, none,.mv (.t 0)⟩,⟨some 20, none,.mv (.t 5)⟩,⟨some 21, none,.mv (.t 1)⟩,⟨some 22, none,.iadr 2 (.t 19) (.t 20)⟩,⟨some 23, none,.fadr 1 (.t 22)⟩,⟨none,none,.store 1 (.t 23) (.t 21)⟩] [0,1,5] []
def Jwj:IC:=.reg [⟨some 24, none,.mv (.t 1)⟩,⟨some 25, none,.bin .add (.t 24) (.c (vi 1))⟩,⟨some 1, none,.asg (.t 25)⟩] [0,1,5] []
def Jy1:IC:=.reg [⟨some 10, none,.mv (.t 5)⟩,⟨some 11, none,.bin .add (.t 10) (.c (vi 1))⟩,⟨some 5, none,.asg (.t 11)⟩] [0,1,5] []
def Jkc:IC:=(.seq (.seq z56r2 (.cond (.t 9) .skip (.exit 0))) (.seq (.block 1 (.seq z56r3 (.seq Jxv (.seq Jy6 Jwj)))) Jy1))
def Jxg:IC:=.reg [⟨some 26, none,.mv (.t 1)⟩,⟨some 4, none,.asgm (.t 26)⟩] [0,4] []
def Jvm:Qbu:=⟨[.t 4],[0],(.seq Jv4 (.seq (.seq Jzn (.block 0 (.loop Jkc))) (.seq Jxg .ret)))⟩
def Jsn:List IOp:=[⟨some 2, none,.box (.t 0)⟩,⟨some 4, none,.asg (.c (vi 0))⟩]
def Jrm:List IOp:=[⟨some 5, none,.fadr 1 (.t 2)⟩,⟨some 6, none,.load false 1 (.t 5)⟩,⟨some 7, none,.mv (.t 1)⟩,⟨some 8, none,.callm Jkr (.t 6) (.t 7)⟩,⟨some 1, none,.asg (.t 8)⟩]
def Jwb:IC:=.reg [⟨some 9, none,.mv (.t 1)⟩,⟨some 4, none,.asgm (.t 9)⟩] [0,4] []
def Ju7:Qbu:=⟨[.t 4],[0],(.ubx Jsn Jrm [0,1] (.seq Jwb .ret))⟩
def Jtm:IC:=.reg [⟨some 4, none,.asg (.c (vi 0))⟩] [0,1] []
def Jrx:IC:=.reg [⟨some 5, none,.asg (.c (vi 0))⟩] [0,1,5] []
def Jr3:IC:=.reg [⟨some 6, none,.mv (.t 5)⟩,⟨some 7, none,.mv (.t 0)⟩,⟨some 8, none,.len (.t 7)⟩,⟨some 9, none,.bin .lss (.t 6) (.t 8)⟩] [0,1,5,9] []
def Jmy:IC:=.reg [⟨some 12, none,.mv (.t 0)⟩,⟨some 13, none,.mv (.t 5)⟩,⟨some 14, none,.mv (.t 1)⟩,⟨some 15, none,.iadr 4 (.t 12) (.t 13)⟩,⟨some 16, none,.fadr 0 (.t 15)⟩,⟨none,none,.store 1 (.t 16) (.t 14)⟩] [0,1,5] []
def Jkb:IC:=.reg [⟨some 17, none,.mv (.t 1)⟩,⟨some 18, none,.bin .add (.t 17) (.c (vi 1))⟩,⟨some 1, none,.asg (.t 18)⟩] [0,1,5] []
def Jpd:IC:=.reg [⟨some 19, none,.mv (.t 0)⟩,⟨some 20, none,.mv (.t 5)⟩,⟨some 21, none,.mv (.t 1)⟩,⟨some 22, none,.iadr 4 (.t 19) (.t 20)⟩,⟨some 23, none,.fadr 1 (.t 22)⟩,⟨none,none,.store 1 (.t 23) (.t 21)⟩] [0,1,5] []
def Jnm:IC:=.reg [⟨some 24, none,.mv (.t 1)⟩,⟨some 25, none,.bin .add (.t 24) (.c (vi 1))⟩,⟨some 1, none,.asg (.t 25)⟩] [0,1,5] []
def Jlb:IC:=.reg [⟨some 26, none,.mv (.t 0)⟩,⟨some 27, none,.mv (.t 5)⟩,⟨some 28, none,.mv (.t 1)⟩,⟨some 29, none,.iadr 4 (.t 26) (.t 27)⟩,⟨some 30, none,.fadr 2 (.t 29)⟩,⟨none,none,.store 1 (.t 30) (.t 28)⟩] [0,1,5] []
def Jp2:IC:=.reg [⟨some 31, none,.mv (.t 1)⟩,⟨some 32, none,.bin .add (.t 31) (.c (vi 1))⟩,⟨some 1, none,.asg (.t 32)⟩] [0,1,5] []
def Jn9:IC:=.reg [⟨some 33, none,.mv (.t 0)⟩,⟨some 34, none,.mv (.t 5)⟩,⟨some 35, none,.mv (.t 1)⟩,⟨some 36, none,.iadr 4 (.t 33) (.t 34)⟩,⟨some 37, none,.fadr 3 (.t 36)⟩,⟨none,none,.store 1 (.t 37) (.t 35)⟩] [0,1,5] []
def Jdy:IC:=.reg [⟨some 38, none,.mv (.t 1)⟩,⟨some 39, none,.bin .add (.t 38) (.c (vi 1))⟩,⟨some 1, none,.asg (.t 39)⟩] [0,1,5] []
def Jio:IC:=.reg [⟨some 10, none,.mv (.t 5)⟩,⟨some 11, none,.bin .add (.t 10) (.c (vi 1))⟩,⟨some 5, none,.asg (.t 11)⟩] [0,1,5] []
def Qxn:IC:=(.seq (.seq Jr3 (.cond (.t 9) .skip (.exit 0))) (.seq (.block 1 (.seq Jmy (.seq Jkb (.seq Jpd (.seq Jnm (.seq Jlb (.seq Jp2 (.seq Jn9 Jdy)))))))) Jio))
def Jfg:IC:=.reg [⟨some 40, none,.mv (.t 1)⟩,⟨some 4, none,.asgm (.t 40)⟩] [0,4] []
def Jbv:Qbu:=⟨[.t 4],[0],(.seq Jtm (.seq (.seq Jrx (.block 0 (.loop Qxn))) (.seq Jfg .ret)))⟩
def Jwf:IC:=.reg [⟨some 4, none,.asg (.c (vi 0))⟩] [0,1] []
def Jvy:IC:=.reg [⟨some 5, none,.mv (.t 1)⟩,⟨some 6, none,.mv (.t 0)⟩,⟨some 7, none,.len (.t 6)⟩,⟨some 8, none,.bin .sub (.t 5) (.t 7)⟩,⟨some 1, none,.asg (.t 8)⟩] [1] []
def Jxz:IC:=.reg [⟨some 9, none,.mv (.t 1)⟩,⟨some 10, none,.bin .lss (.t 9) (.c (vi 0))⟩] [1,10] []
def Jw5:IC:=.reg [⟨some 4, none,.asg (.c (vi (-1)))⟩] [4] []
def Jyu:IC:=.reg [⟨some 11, none,.mv (.t 1)⟩,⟨some 4, none,.asgm (.t 11)⟩] [4] []
def Joj:Qbu:=⟨[.t 4],[],(.seq Jwf (.seq Jvy (.seq (.seq Jxz (.cond (.t 10) (.seq Jw5 .ret) .skip)) (.seq Jyu .ret))))⟩
def Jx9:IC:=.reg [⟨some 2, none,.box (.t 0)⟩,⟨some 4, none,.asg (.c (vi 0))⟩] [1,2] []
def Jyb:IC:=.reg [⟨some 5, none,.fadr 1 (.t 2)⟩,⟨some 6, none,.load false 1 (.t 5)⟩,⟨some 7, none,.mv (.t 1)⟩,⟨some 8, none,.call Jjs [(.rd,(.t 6)),(.val,(.t 7))] true⟩,⟨some 1, none,.asg (.t 8)⟩] [1] []
def z61r2:IC:=.reg [⟨some 9, none,.mv (.t 1)⟩,⟨some 10, none,.bin .lss (.t 9) (.c (vi 0))⟩] [1,10] []
def Jv8:IC:=.reg [⟨some 4, none,.asg (.c (vi (-1)))⟩] [4] []
def Jwq:IC:=.reg [⟨some 11, none,.mv (.t 1)⟩,⟨some 4, none,.asgm (.t 11)⟩] [4] []
def Jqe:Qbu:=⟨[.t 4],[],(.seq Jx9 (.seq Jyb (.seq (.seq z61r2 (.cond (.t 10) (.seq Jv8 .ret) .skip)) (.seq Jwq .ret))))⟩
def z62r0:IC:=.reg [⟨some 1, none,.box (.t 0)⟩,⟨some 2, none,.alloc [(vi 0),(vi 0)]⟩] [1,2] []
def Jx1:IC:=.reg [⟨some 3, none,.alloc [(vi 0),(vi 0)]⟩] [1,2,3] []
def Jy0:IC:=.reg [⟨some 4, none,.fadr 0 (.t 1)⟩,⟨some 5, none,.load false 1 (.t 4)⟩,⟨some 6, none,.fadr 0 (.t 3)⟩,⟨none,none,.store 1 (.t 6) (.t 5)⟩] [1,2,3] []
def z62r3:IC:=.reg [⟨some 7, none,.fadr 1 (.t 1)⟩,⟨some 8, none,.load false 1 (.t 7)⟩,⟨some 9, none,.fadr 1 (.t 3)⟩,⟨none,none,.store 1 (.t 9) (.t 8)⟩] [2,3] []
def z62r4:IC:=.reg [⟨some 10, none,.load true 2 (.t 3)⟩,⟨none,none,.store 2 (.t 2) (.t 10)⟩] [2] []
def Ju0:Qbu:=⟨[.c 2 2 true],[],(.seq z62r0 (.seq Jx1 (.seq Jy0 (.seq z62r3 (.seq z62r4 .ret)))))⟩
def Jym:IC:=.reg [⟨some 2, none,.asg (.c (.slice none 0 0))⟩] [0] []
def Jyg:IC:=.reg [⟨some 5, none,.mv (.t 0)⟩,⟨some 6, none,.len (.t 5)⟩,⟨some 7, none,.mksl 2 [(vi 0),(vi 0)] (.t 6) (.t 6)⟩,⟨some 3, none,.asg (.t 7)⟩] [0,3] []
def Jw3:IC:=.reg [⟨some 4, none,.asg (.c (vi 0))⟩] [0,3,4] []
def Jwt:IC:=.reg [⟨some 8, none,.mv (.t 4)⟩,⟨some 9, none,.mv (.t 0)⟩,⟨some 10, none,.len (.t 9)⟩,⟨some 11, none,.bin .lss (.t 8) (.t 10)⟩] [0,3,4,11] []
def Jv5:IC:=.reg [⟨some 14, none,.mv (.t 3)⟩,⟨some 15, none,.mv (.t 4)⟩,⟨some 16, none,.mv (.t 0)⟩,⟨some 17, none,.mv (.t 4)⟩,⟨some 18, none,.iadr 2 (.t 16) (.t 17)⟩,⟨some 19, none,.load true 2 (.t 18)⟩,⟨some 20, none,.call Jnh [(.val,(.t 19))] true⟩,⟨some 21, none,.iadr 2 (.t 14) (.t 15)⟩,⟨none,none,.store 2 (.t 21) (.t 20)⟩] [0,3,4] []
def Jyy:IC:=.reg [⟨some 12, none,.mv (.t 4)⟩,⟨some 13, none,.bin .add (.t 12) (.c (vi 1))⟩,⟨some 4, none,.asg (.t 13)⟩] [0,3,4] []
def Jto:IC:=(.seq (.seq Jwt (.cond (.t 11) .skip (.exit 0))) (.seq (.block 1 Jv5) Jyy))
def Jz3:IC:=.reg [⟨some 22, none,.mv (.t 3)⟩,⟨some 2, none,.asgm (.t 22)⟩] [2,3] []
def Ju8:Qbu:=⟨[.t 2],[],(.seq Jym (.seq Jyg (.seq (.seq Jw3 (.block 0 (.loop Jto))) (.seq Jz3 .ret))))⟩
def Jx6:IC:=.reg [⟨some 1, none,.box (.t 0)⟩,⟨some 2, none,.alloc [(vi 0),(.slice none 0 0)]⟩] [1,2] []
def Jyh:IC:=.reg [⟨some 3, none,.alloc [(vi 0),(.slice none 0 0)]⟩] [1,2,3] []
def Jz2:IC:=.reg [⟨some 4, none,.fadr 0 (.t 1)⟩,⟨some 5, none,.load false 1 (.t 4)⟩,⟨some 6, none,.fadr 0 (.t 3)⟩,⟨none,none,.store 1 (.t 6) (.t 5)⟩] [1,2,3] []
def z64r3:IC:=.reg [⟨some 7, none,.fadr 1 (.t 1)⟩,⟨some 8, none,.load false 1 (.t 7)⟩,⟨some 9, none,.call Jlx [(.rd,(.t 8))] true⟩,⟨some 10, none,.fadr 1 (.t 3)⟩,⟨none,none,.store 1 (.t 10) (.t 9)⟩] [2,3] []
def Jxm:IC:=.reg [⟨some 11, none,.load true 2 (.t 3)⟩,⟨none,none,.store 2 (.t 2) (.t 11)⟩] [2] []
def Jvp:Qbu:=⟨[.c 2 2 true],[],(.seq Jx6 (.seq Jyh (.seq Jz2 (.seq z64r3 (.seq Jxm .ret)))))⟩
def Jwk:IC:=.reg [⟨some 2, none,.asg (.c (vi 0))⟩] [0] []
def Jxd:IC:=.reg [⟨some 3, none,.mv (.t 0)⟩,⟨some 4, none,.conv .u32 (.t 3)⟩,⟨some 5, none,.call zl67 [(.val,(.t 4))] true⟩,⟨some 2, none,.asg (.t 5)⟩] [2] []
def Jwe:IC:=.reg [⟨some 6, none,.mv (.t 0)⟩,⟨some 7, none,.call Jkm [(.val,(.t 6))] true⟩,⟨some 2, none,.asg (.t 7)⟩] [2] []
def Jup:Qbu:=⟨[.t 2],[],(.seq Jwk (.seq (.cond (.c (.bool false)) (.seq Jxd .ret) .skip) (.seq Jwe .ret)))⟩
def Jxw:IC:=.reg [⟨some 2, none,.asg (.c (vi 0))⟩] [0,2] []
def Jy7:IC:=.reg [⟨some 3, none,.mv (.t 0)⟩,⟨some 4, none,.bin .geq (.t 3) (.c (.int .u64 (4294967296)))⟩] [0,2,4] []
def Jwl:IC:=.reg [⟨some 5, none,.mv (.t 0)⟩,⟨some 6, none,.bin .shr (.t 5) (.c (.int .u64 (32)))⟩,⟨some 0, none,.asg (.t 6)⟩] [0] []
def Jyz:IC:=.reg [⟨some 2, none,.asg (.c (vi 32))⟩] [0,2] []
def Jxo:IC:=.reg [⟨some 7, none,.mv (.t 0)⟩,⟨some 8, none,.bin .geq (.t 7) (.c (.int .u64 (65536)))⟩] [0,2,8] []
def z68r5:IC:=.reg [⟨some 9, none,.mv (.t 0)⟩,⟨some 10, none,.bin .shr (.t 9) (.c (.int .u64 (16)))⟩,⟨some 0, none,.asg (.t 10)⟩] [0,2] []
def Jwy:IC:=.reg [⟨some 11, none,.mv (.t 2)⟩,⟨some 12, none,.bin .add (.t 11) (.c (vi 16))⟩,⟨some 2, none,.asg (.t 12)⟩] [0,2] []
def Jwh:IC:=.reg [⟨some 13, none,.mv (.t 0)⟩,⟨some 14, none,.bin .geq (.t 13) (.c (.int .u64 (256)))⟩] [0,2,14] []
def Jwi:IC:=.reg [⟨some 15, none,.mv (.t 0)⟩,⟨some 16, none,.bin .shr (.t 15) (.c (.int .u64 (8)))⟩,⟨some 0, none,.asg (.t 16)⟩] [0,2] []
def Jxi:IC:=.reg [⟨some 17, none,.mv (.t 2)⟩,⟨some 18, none,.bin .add (.t 17) (.c (vi 8))⟩,⟨some 2, none,.asg (.t 18)⟩] [0,2] []
def Jcz:IC:=.reg [⟨some 19, none,.mv (.t 2)⟩,⟨some 20, none,.mv (.t 0)⟩,⟨some 21, none,.conv .u8 (.t 20)⟩,⟨some 22, none,.idxs (.c (.string ⟨#[0,1,2,2,3,3,3,3,4,4,4,4,4,4,4,4,5,5,5,5,5,5,5,5,5,5,5,5,5,5,5,5,6,6,6,6,6,6,6,6,6,6,6,6,6,6,6,6,6,6,6,6,6,6,6,6,6,6,6,6,6,6,6,6,7,7,7,7,7,7,7,7,7,7,7,7,7,7,7,7,7,7,7,7,7,7,7,7,7,7,7,7,7,7,7,7,7,7,7,7,7,7,7,7,7,7,7,7,7,7,7,7,7,7,7,7,7,7,7,7,7,7,7,7,7,7,7,7,8,8,8,8,8,8,8,8,8,8,8,8,8,8,8,8,8,8,8,8,8,8,8,8,8,8,8,8,8,8,8,8,8,8,8,8,8,8,8,8,8,8,8,8,8,8,8,8,8,8,8,8,8,8,8,8,8,8,8,8,8,8,8,8,8,8,8,8,8,8,8,8,8,8,8,8,8,8,8,8,8,8,8,8,8,8,8,8,8,8,8,8,8,8,8,8,8,8,8,8,8,8,8,8,8,8,8,8,8,8,8,8,8,8,8,8,8,8,8,8,8,8,8,8,8,8,8,8]⟩)) (.t 21)⟩,⟨some 23, none,.conv .i64 (.t 22)⟩,⟨some 24, none,.bin .add (.t 19) (.t 23)⟩,⟨some 2, none,.asg (.t 24)⟩] [2] []
def Jus:Qbu:=⟨[.t 2],[],(.seq Jxw (.seq (.seq Jy7 (.cond (.t 4) (.seq Jwl Jyz) .skip)) (.seq (.seq Jxo (.cond (.t 8) (.seq z68r5 Jwy) .skip)) (.seq (.seq Jwh (.cond (.t 14) (.seq Jwi Jxi) .skip)) (.seq Jcz .ret)))))⟩
def Jo5:IC:=.reg [⟨some 2, none,.asg (.c (.slice none 0 0))⟩] [0] []
def Jm4:IC:=.reg [⟨some 3, none,.mv (.t 0)⟩,⟨some 4, none,.mv (.t 0)⟩,⟨some 5, none,.len (.t 4)⟩,⟨some 6, none,.mv (.t 0)⟩,⟨some 7, none,.len (.t 6)⟩,⟨some 8, none,.slc 2 (.t 3) none (some (.t 5)) (some (.t 7))⟩,⟨some 2, none,.asgm (.t 8)⟩] [0,2] []
def Jby:Qbu:=⟨[.t 2],[],(.seq Jo5 (.seq Jm4 .ret))⟩
def Jt0:IC:=.reg [⟨some 2, none,.asg (.c (.slice none 0 0))⟩] [0] []
def Jtd:IC:=.reg [⟨some 3, none,.mv (.t 0)⟩,⟨some 4, none,.mv (.t 0)⟩,⟨some 5, none,.len (.t 4)⟩,⟨some 6, none,.mv (.t 0)⟩,⟨some 7, none,.len (.t 6)⟩,⟨some 8, none,.slc 4 (.t 3) none (some (.t 5)) (some (.t 7))⟩,⟨some 2, none,.asgm (.t 8)⟩] [0,2] []
def Qs3:Qbu:=⟨[.t 2],[],(.seq Jt0 (.seq Jtd .ret))⟩
def Jr2:IC:=.reg [⟨some 2, none,.nilo 2⟩] [0] []
def Qx3:List IOp:=[⟨some 3, none,.mv (.t 0)⟩]
def Jn0:IC:=.reg [⟨some 2, none,.nilo 2⟩] [2] []
def Jsr:IC:=.reg [⟨some 5, none,.bsl 2 [(vi 0),(vi 0)] 0 []⟩,⟨some 6, none,.mv (.t 0)⟩,⟨some 7, none,.app 2 (.t 5) (.t 6)⟩,⟨some 2, none,.asg (.t 7)⟩] [2] []
def Qtw:Qbu:=⟨[.t 2],[],(.seq Jr2 (.nilc2 Qx3 (.t 3) 4 [0,4] (.cond (.t 4) (.seq Jn0 .ret) .skip) (.seq Jsr .ret)))⟩
def Jrg:IC:=.reg [⟨some 4, none,.asg (.c (.bool false))⟩] [0,1] []
def Jpz:IC:=.reg [⟨some 5, none,.mv (.t 0)⟩,⟨some 6, none,.mv (.t 1)⟩,⟨some 7, none,.call Qsc [(.ld,(.t 5)),(.val,(.t 6))] false⟩,⟨some 8, none,.bin .geq (.t 7) (.c (vi 0))⟩,⟨some 4, none,.asg (.t 8)⟩] [0,4] []
def Qtp:Qbu:=⟨[.t 4],[0],(.seq Jrg (.seq Jpz .ret))⟩
def Jlo:IC:=.reg [⟨some 3, none,.box (.t 1)⟩,⟨some 4, none,.asg (.c (.bool false))⟩] [0,3] []
def Jkh:IC:=.reg [⟨some 5, none,.mv (.t 0)⟩,⟨some 6, none,.load true 2 (.t 3)⟩,⟨some 7, none,.call Qvv [(.rd,(.t 5)),(.val,(.t 6))] true⟩,⟨some 8, none,.bin .geq (.t 7) (.c (vi 0))⟩,⟨some 4, none,.asg (.t 8)⟩] [4] []
def Qzl:Qbu:=⟨[.t 4],[],(.seq Jlo (.seq Jkh .ret))⟩
def Jr7:IC:=.reg [⟨some 4, none,.asg (.c (.slice none 0 0))⟩] [0,1] []
def Jki:IC:=.reg [⟨some 8, none,.mv (.t 0)⟩,⟨some 9, none,.mv (.t 1)⟩,⟨some 10, none,.call Qup [(.ld,(.t 8)),(.val,(.t 9))] false⟩,⟨some 5, none,.asg (.t 10)⟩] [0,1,5] []
def Jq2:IC:=.reg [⟨some 11, none,.mv (.t 5)⟩,⟨some 12, none,.bin .eql (.t 11) (.c (vi (-1)))⟩] [0,1,5,12] []
def Jqp:IC:=.reg [⟨some 13, none,.mv (.t 0)⟩,⟨some 4, none,.asgm (.t 13)⟩] [0,4] []
def Jkt:IC:=.reg [⟨some 14, none,.mv (.t 5)⟩,⟨some 15, none,.bin .add (.t 14) (.c (vi 1))⟩,⟨some 6, none,.asg (.t 15)⟩] [0,1,5,6] []
def Jky:IC:=.reg [⟨some 16, none,.mv (.t 6)⟩,⟨some 17, none,.mv (.t 0)⟩,⟨some 18, none,.len (.t 17)⟩,⟨some 19, none,.bin .lss (.t 16) (.t 18)⟩] [0,1,5,6,19] []
def Jno:IC:=.reg [⟨some 22, none,.mv (.t 0)⟩,⟨some 23, none,.mv (.t 6)⟩,⟨some 24, none,.iadr 2 (.t 22) (.t 23)⟩,⟨some 25, none,.load true 2 (.t 24)⟩,⟨some 7, none,.alloc [(vi 0),(vi 0)]⟩,⟨none,none,.store 2 (.t 7) (.t 25)⟩] [0,1,5,6,7] []
def Jtz:IC:=.reg [⟨some 26, none,.mv (.t 1)⟩,⟨some 27, none,.load true 2 (.t 7)⟩,⟨some 28, none,.callv (.t 26) [(.val,(.t 27))]⟩,⟨some 29, none,.unop .not (.t 28)⟩] [0,1,5,6,7,29] []
def Jr5:IC:=.reg [⟨some 30, none,.mv (.t 0)⟩,⟨some 31, none,.mv (.t 5)⟩,⟨some 32, none,.load true 2 (.t 7)⟩,⟨some 33, none,.iadr 2 (.t 30) (.t 31)⟩,⟨none,none,.store 2 (.t 33) (.t 32)⟩] [0,1,5,6] []
def Jpr:IC:=.reg [⟨some 34, none,.mv (.t 5)⟩,⟨some 35, none,.bin .add (.t 34) (.c (vi 1))⟩,⟨some 5, none,.asg (.t 35)⟩] [0,1,5,6] []
def Jdx:IC:=.reg [⟨some 20, none,.mv (.t 6)⟩,⟨some 21, none,.bin .add (.t 20) (.c (vi 1))⟩,⟨some 6, none,.asg (.t 21)⟩] [0,1,5,6] []
def Qxv:IC:=(.seq (.seq Jky (.cond (.t 19) .skip (.exit 0))) (.seq (.block 1 (.seq Jno (.seq Jtz (.cond (.t 29) (.seq Jr5 Jpr) .skip)))) Jdx))
def Jee:IC:=.reg [⟨some 36, none,.mv (.t 0)⟩,⟨some 37, none,.mv (.t 5)⟩,⟨some 38, none,.slc 2 (.t 36) (some (.t 37)) none none⟩,⟨none,none,.clr (.t 38) [(vi 0),(vi 0)]⟩] [0,5] []
def Jfi:IC:=.reg [⟨some 39, none,.mv (.t 0)⟩,⟨some 40, none,.mv (.t 5)⟩,⟨some 41, none,.slc 2 (.t 39) none (some (.t 40)) none⟩,⟨some 4, none,.asgm (.t 41)⟩] [0,4] []
def Quv:Qbu:=⟨[.t 4],[],(.seq Jr7 (.seq Jki (.seq (.seq Jq2 (.cond (.t 12) (.seq Jqp .ret) .skip)) (.seq (.seq Jkt (.block 0 (.loop Qxv))) (.seq Jee (.seq Jfi .ret))))))⟩
def Jln:IC:=.reg [⟨some 4, none,.asg (.c (.bool false))⟩] [0,1] []
def Jmw:IC:=.reg [⟨some 6, none,.mv (.t 0)⟩,⟨some 7, none,.len (.t 6)⟩,⟨some 8, none,.mv (.t 1)⟩,⟨some 9, none,.len (.t 8)⟩,⟨some 10, none,.bin .neq (.t 7) (.t 9)⟩] [0,1,10] []
def Jst:IC:=.reg [⟨some 4, none,.asg (.c (.bool false))⟩] [4] []
def Jmd:IC:=.reg [⟨some 11, none,.mv (.t 0)⟩,⟨some 12, none,.len (.t 11)⟩,⟨some 13, none,.mv (.c (vi 0))⟩] [0,1,12,13] []
def Jro:IC:=.reg [⟨some 14, none,.bin .lss (.t 13) (.t 12)⟩] [0,1,12,13,14] []
def Jpc:IC:=.reg [⟨some 15, none,.asg (.t 13)⟩,⟨some 5, none,.asg (.t 15)⟩] [0,1,5,12,13] []
def Jog:IC:=.reg [⟨some 16, none,.mv (.t 0)⟩,⟨some 17, none,.mv (.t 5)⟩,⟨some 18, none,.iadr 2 (.t 16) (.t 17)⟩,⟨some 19, none,.load true 2 (.t 18)⟩,⟨some 20, none,.mv (.t 1)⟩,⟨some 21, none,.mv (.t 5)⟩,⟨some 22, none,.iadr 2 (.t 20) (.t 21)⟩,⟨some 23, none,.load true 2 (.t 22)⟩,⟨some 24, none,.eqa true 2 (.t 19) (.t 23)⟩] [0,1,12,13,24] []
def Jny:IC:=.reg [⟨some 4, none,.asg (.c (.bool false))⟩] [4] []
def Jry:IC:=.reg [⟨some 25, none,.bin .add (.t 13) (.c (vi 1))⟩,⟨some 13, none,.asg (.t 25)⟩] [0,1,12,13] []
def Jcr:IC:=(.seq Jro (.seq (.cond (.t 14) .skip (.exit 0)) (.seq (.block 1 (.seq Jpc (.seq Jog (.cond (.t 24) (.seq Jny .ret) .skip)))) Jry)))
def Jdu:IC:=.reg [⟨some 4, none,.asg (.c (.bool true))⟩] [4] []
def Qrz:Qbu:=⟨[.t 4],[],(.seq Jln (.seq (.seq Jmw (.cond (.t 10) (.seq Jst .ret) .skip)) (.seq (.seq Jmd (.block 0 (.loop Jcr))) (.seq Jdu .ret))))⟩
def Jra:IC:=.reg [⟨some 4, none,.asg (.c (vi 0))⟩] [0,1] []
def Jtp:IC:=.reg [⟨some 6, none,.mv (.t 0)⟩,⟨some 7, none,.len (.t 6)⟩,⟨some 8, none,.mv (.c (vi 0))⟩] [0,1,7,8] []
def Juh:IC:=.reg [⟨some 9, none,.bin .lss (.t 8) (.t 7)⟩] [0,1,7,8,9] []
def Joz:IC:=.reg [⟨some 10, none,.asg (.t 8)⟩,⟨some 5, none,.asg (.t 10)⟩] [0,1,5,7,8] []
def Jko:IC:=.reg [⟨some 11, none,.mv (.t 1)⟩,⟨some 12, none,.mv (.t 0)⟩,⟨some 13, none,.mv (.t 5)⟩,⟨some 14, none,.iadr 2 (.t 12) (.t 13)⟩,⟨some 15, none,.load true 2 (.t 14)⟩,⟨some 16, none,.callv (.t 11) [(.val,(.t 15))]⟩] [0,1,5,7,8,16] []
def Jlm:IC:=.reg [⟨some 17, none,.mv (.t 5)⟩,⟨some 4, none,.asgm (.t 17)⟩] [0,4] []
def Joa:IC:=.reg [⟨some 18, none,.bin .add (.t 8) (.c (vi 1))⟩,⟨some 8, none,.asg (.t 18)⟩] [0,1,7,8] []
def Jdh:IC:=(.seq Juh (.seq (.cond (.t 9) .skip (.exit 0)) (.seq (.block 1 (.seq Joz (.seq Jko (.cond (.t 16) (.seq Jlm .ret) .skip)))) Joa)))
def Js6:IC:=.reg [⟨some 4, none,.asg (.c (vi (-1)))⟩] [0,4] []
def Quq:Qbu:=⟨[.t 4],[0],(.seq Jra (.seq (.seq Jtp (.block 0 (.loop Jdh))) (.seq Js6 .ret)))⟩
def Jt4:IC:=.reg [⟨some 4, none,.asg (.c (vi 0))⟩] [0,1] []
def Jn7:IC:=.reg [⟨some 6, none,.mv (.t 0)⟩,⟨some 7, none,.len (.t 6)⟩,⟨some 8, none,.mv (.c (vi 0))⟩] [0,1,7,8] []
def Jrh:IC:=.reg [⟨some 9, none,.bin .lss (.t 8) (.t 7)⟩] [0,1,7,8,9] []
def Jj5:IC:=.reg [⟨some 10, none,.asg (.t 8)⟩,⟨some 5, none,.asg (.t 10)⟩] [0,1,5,7,8] []
def Juf:IC:=.reg [⟨some 11, none,.mv (.t 1)⟩,⟨some 12, none,.mv (.t 0)⟩,⟨some 13, none,.mv (.t 5)⟩,⟨some 14, none,.iadr 7 (.t 12) (.t 13)⟩,⟨some 15, none,.load true 7 (.t 14)⟩,⟨some 16, none,.callv (.t 11) [(.tk,(.t 15))]⟩] [0,1,5,7,8,16] []
def Jmu:IC:=.reg [⟨some 17, none,.mv (.t 5)⟩,⟨some 4, none,.asgm (.t 17)⟩] [0,4] []
def Jpa:IC:=.reg [⟨some 18, none,.bin .add (.t 8) (.c (vi 1))⟩,⟨some 8, none,.asg (.t 18)⟩] [0,1,7,8] []
def Jdb:IC:=(.seq Jrh (.seq (.cond (.t 9) .skip (.exit 0)) (.seq (.block 1 (.seq Jj5 (.seq Juf (.cond (.t 16) (.seq Jmu .ret) .skip)))) Jpa)))
def Jrc:IC:=.reg [⟨some 4, none,.asg (.c (vi (-1)))⟩] [0,4] []
def Qyt:Qbu:=⟨[.t 4],[0],(.seq Jt4 (.seq (.seq Jn7 (.block 0 (.loop Jdb))) (.seq Jrc .ret)))⟩
def Jk8:IC:=.reg [⟨some 3, none,.box (.t 1)⟩,⟨some 4, none,.asg (.c (vi 0))⟩] [0,3] []
def Jop:IC:=.reg [⟨some 6, none,.mv (.t 0)⟩,⟨some 7, none,.len (.t 6)⟩,⟨some 8, none,.mv (.c (vi 0))⟩] [0,3,7,8] []
def Jnt:IC:=.reg [⟨some 9, none,.bin .lss (.t 8) (.t 7)⟩] [0,3,7,8,9] []
def Jkp:IC:=.reg [⟨some 10, none,.asg (.t 8)⟩,⟨some 5, none,.asg (.t 10)⟩] [0,3,5,7,8] []
def Jov:IC:=.reg [⟨some 11, none,.load true 2 (.t 3)⟩,⟨some 12, none,.mv (.t 0)⟩,⟨some 13, none,.mv (.t 5)⟩,⟨some 14, none,.iadr 2 (.t 12) (.t 13)⟩,⟨some 15, none,.load true 2 (.t 14)⟩,⟨some 16, none,.eqa false 2 (.t 11) (.t 15)⟩] [0,3,5,7,8,16] []
def Jrb:IC:=.reg [⟨some 17, none,.mv (.t 5)⟩,⟨some 4, none,.asgm (.t 17)⟩] [4] []
def Jsv:IC:=.reg [⟨some 18, none,.bin .add (.t 8) (.c (vi 1))⟩,⟨some 8, none,.asg (.t 18)⟩] [0,3,7,8] []
def Jco:IC:=(.seq Jnt (.seq (.cond (.t 9) .skip (.exit 0)) (.seq (.block 1 (.seq Jkp (.seq Jov (.cond (.t 16) (.seq Jrb .ret) .skip)))) Jsv)))
def Jug:IC:=.reg [⟨some 4, none,.asg (.c (vi (-1)))⟩] [4] []
def Qxc:Qbu:=⟨[.t 4],[],(.seq Jk8 (.seq (.seq Jop (.block 0 (.loop Jco))) (.seq Jug .ret)))⟩
def Jsd:IC:=.reg [⟨some 4, none,.mv (.t 0)⟩,⟨some 5, none,.len (.t 4)⟩,⟨some 6, none,.bin .sub (.t 5) (.c (vi 1))⟩,⟨some 2, none,.asg (.c (vi 0))⟩,⟨some 3, none,.asg (.t 6)⟩] [0,2,3] []
def Jsm:IC:=.reg [⟨some 7, none,.mv (.t 2)⟩,⟨some 8, none,.mv (.t 3)⟩,⟨some 9, none,.bin .lss (.t 7) (.t 8)⟩] [0,2,3,9] []
def Jld:IC:=.reg [⟨some 14, none,.mv (.t 0)⟩,⟨some 15, none,.mv (.t 2)⟩,⟨some 16, none,.mv (.t 0)⟩,⟨some 17, none,.mv (.t 3)⟩,⟨some 18, none,.mv (.t 0)⟩,⟨some 19, none,.mv (.t 3)⟩,⟨some 20, none,.iadr 4 (.t 18) (.t 19)⟩,⟨some 21, none,.load true 4 (.t 20)⟩,⟨some 22, none,.mv (.t 0)⟩,⟨some 23, none,.mv (.t 2)⟩,⟨some 24, none,.iadr 4 (.t 22) (.t 23)⟩,⟨some 25, none,.load true 4 (.t 24)⟩,⟨some 26, none,.iadr 4 (.t 14) (.t 15)⟩,⟨none,none,.store 4 (.t 26) (.t 21)⟩,⟨some 27, none,.iadr 4 (.t 16) (.t 17)⟩,⟨none,none,.store 4 (.t 27) (.t 25)⟩] [0,2,3] []
def Jlj:IC:=.reg [⟨some 10, none,.mv (.t 2)⟩,⟨some 11, none,.bin .add (.t 10) (.c (vi 1))⟩,⟨some 12, none,.mv (.t 3)⟩,⟨some 13, none,.bin .sub (.t 12) (.c (vi 1))⟩,⟨some 2, none,.asg (.t 11)⟩,⟨some 3, none,.asg (.t 13)⟩] [0,2,3] []
def Jdm:IC:=(.seq (.seq Jsm (.cond (.t 9) .skip (.exit 0))) (.seq (.block 1 Jld) Jlj))
def Qz7:Qbu:=⟨[],[0],(.seq Jsd (.block 0 (.loop Jdm)))⟩
def Jnw:IC:=.reg [⟨some 5, none,.mv (.t 0)⟩,⟨some 6, none,.len (.t 5)⟩,⟨some 4, none,.asg (.t 6)⟩] [0,1,4] []
def Jlv:IC:=.reg [⟨some 7, none,.mv (.t 0)⟩,⟨some 8, none,.mv (.t 4)⟩,⟨some 9, none,.mv (.t 4)⟩,⟨some 10, none,.conv .u64 (.t 9)⟩,⟨some 11, none,.call Jjx [(.val,(.t 10))] true⟩,⟨some 12, none,.mv (.t 1)⟩,⟨some 13, none,.call Qlp [(.ld,(.t 7)),(.val,(.c (vi 0))),(.val,(.t 8)),(.val,(.t 11)),(.val,(.t 12))] false⟩] [0] []
def Jb7:Qbu:=⟨[],[0],(.seq Jnw Jlv)⟩
def Jk5:IC:=.reg [⟨some 13, none,.mv (.t 2)⟩,⟨some 14, none,.mv (.t 1)⟩,⟨some 15, none,.bin .sub (.t 13) (.t 14)⟩,⟨some 8, none,.asg (.t 15)⟩] [0,1,8] []
def Jpu:IC:=.reg [⟨some 16, none,.mv (.t 8)⟩,⟨some 17, none,.bin .geq (.t 16) (.c (vi 8))⟩] [0,1,8,17] []
def Jks:IC:=.reg [⟨some 18, none,.mv (.t 8)⟩,⟨some 19, none,.conv .u64 (.t 18)⟩,⟨some 9, none,.alloc [(.int .u64 (0))]⟩,⟨none,none,.store 1 (.t 9) (.t 19)⟩] [0,1,8,9] []
def Jmb:IC:=.reg [⟨some 20, none,.mv (.t 8)⟩,⟨some 21, none,.call Jtt [(.val,(.t 20))] true⟩,⟨some 10, none,.asg (.t 21)⟩] [0,1,8,9,10] []
def Jnn:IC:=.reg [⟨some 22, none,.mv (.t 1)⟩,⟨some 23, none,.mv (.t 8)⟩,⟨some 24, none,.bin .quo (.t 23) (.c (vi 4))⟩,⟨some 25, none,.bin .mul (.t 24) (.c (vi 2))⟩,⟨some 26, none,.bin .add (.t 22) (.t 25)⟩,⟨some 27, none,.bin .sub (.t 26) (.c (vi 1))⟩,⟨some 11, none,.asg (.t 27)⟩] [0,1,8,9,10,11] []
def Joh:IC:=.reg [⟨some 28, none,.mv (.t 11)⟩,⟨some 29, none,.mv (.t 1)⟩,⟨some 30, none,.mv (.t 8)⟩,⟨some 31, none,.bin .quo (.t 30) (.c (vi 4))⟩,⟨some 32, none,.bin .mul (.t 31) (.c (vi 2))⟩,⟨some 33, none,.bin .add (.t 29) (.t 32)⟩,⟨some 34, none,.bin .add (.t 33) (.c (vi 1))⟩,⟨some 35, none,.bin .leq (.t 28) (.t 34)⟩] [0,1,8,9,10,11,35] []
def Joo:IC:=.reg [⟨some 38, none,.call Qwr [(.val,(.t 9))] false⟩,⟨some 39, none,.mv (.t 10)⟩,⟨some 40, none,.bin .sub (.t 39) (.c (.int .u64 (1)))⟩,⟨some 41, none,.bin .and (.t 38) (.t 40)⟩,⟨some 42, none,.conv .i64 (.t 41)⟩,⟨some 12, none,.asg (.t 42)⟩] [0,1,8,9,10,11,12] []
def Jn4:IC:=.reg [⟨some 43, none,.mv (.t 12)⟩,⟨some 44, none,.mv (.t 8)⟩,⟨some 45, none,.bin .geq (.t 43) (.t 44)⟩] [0,1,8,9,10,11,12,45] []
def Jtn:IC:=.reg [⟨some 46, none,.mv (.t 12)⟩,⟨some 47, none,.mv (.t 8)⟩,⟨some 48, none,.bin .sub (.t 46) (.t 47)⟩,⟨some 12, none,.asg (.t 48)⟩] [0,1,8,9,10,11,12] []
def Jrl:IC:=.reg [⟨some 49, none,.mv (.t 0)⟩,⟨some 50, none,.mv (.t 11)⟩,⟨some 51, none,.mv (.t 0)⟩,⟨some 52, none,.mv (.t 1)⟩,⟨some 53, none,.mv (.t 12)⟩,⟨some 54, none,.bin .add (.t 52) (.t 53)⟩,⟨some 55, none,.mv (.t 0)⟩,⟨some 56, none,.mv (.t 1)⟩,⟨some 57, none,.mv (.t 12)⟩,⟨some 58, none,.bin .add (.t 56) (.t 57)⟩,⟨some 59, none,.iadr 2 (.t 55) (.t 58)⟩,⟨some 60, none,.load true 2 (.t 59)⟩,⟨some 61, none,.mv (.t 0)⟩,⟨some 62, none,.mv (.t 11)⟩,⟨some 63, none,.iadr 2 (.t 61) (.t 62)⟩,⟨some 64, none,.load true 2 (.t 63)⟩,⟨some 65, none,.iadr 2 (.t 49) (.t 50)⟩,⟨none,none,.store 2 (.t 65) (.t 60)⟩,⟨some 66, none,.iadr 2 (.t 51) (.t 54)⟩,⟨none,none,.store 2 (.t 66) (.t 64)⟩] [0,1,8,9,10,11] []
def Jjg:IC:=.reg [⟨some 36, none,.mv (.t 11)⟩,⟨some 37, none,.bin .add (.t 36) (.c (vi 1))⟩,⟨some 11, none,.asg (.t 37)⟩] [0,1,8,9,10,11] []
def Qwf:IC:=(.seq (.seq Joh (.cond (.t 35) .skip (.exit 0))) (.seq (.block 1 (.seq Joo (.seq (.seq Jn4 (.cond (.t 45) Jtn .skip)) Jrl))) Jjg))
def Qz6:Qbu:=⟨[],[0],(.seq Jk5 (.seq Jpu (.cond (.t 17) (.seq Jks (.seq Jmb (.seq Jnn (.block 0 (.loop Qwf))))) .skip)))⟩
def Jkk:IC:=.reg [⟨some 8, none,.asg (.c (vi 0))⟩,⟨some 9, none,.asg (.c (vi 0))⟩] [0,1,2,3] []
def Jqk:IC:=.reg [⟨some 15, none,.mv (.t 2)⟩,⟨some 16, none,.mv (.t 1)⟩,⟨some 17, none,.bin .sub (.t 15) (.t 16)⟩,⟨some 10, none,.asg (.t 17)⟩] [0,1,3,10] []
def Jtf:IC:=.reg [⟨some 11, none,.alloc [(vi 0)]⟩] [0,1,3,10,11] []
def Jt7:IC:=.reg [⟨some 18, none,.mv (.t 1)⟩,⟨some 19, none,.mv (.t 10)⟩,⟨some 20, none,.bin .quo (.t 19) (.c (vi 4))⟩,⟨some 21, none,.bin .mul (.t 20) (.c (vi 1))⟩,⟨some 22, none,.bin .add (.t 18) (.t 21)⟩,⟨some 12, none,.asg (.t 22)⟩] [0,1,3,10,11,12] []
def Jma:IC:=.reg [⟨some 23, none,.mv (.t 1)⟩,⟨some 24, none,.mv (.t 10)⟩,⟨some 25, none,.bin .quo (.t 24) (.c (vi 4))⟩,⟨some 26, none,.bin .mul (.t 25) (.c (vi 2))⟩,⟨some 27, none,.bin .add (.t 23) (.t 26)⟩,⟨some 13, none,.asg (.t 27)⟩] [0,1,3,10,11,12,13] []
def Jq0:IC:=.reg [⟨some 28, none,.mv (.t 1)⟩,⟨some 29, none,.mv (.t 10)⟩,⟨some 30, none,.bin .quo (.t 29) (.c (vi 4))⟩,⟨some 31, none,.bin .mul (.t 30) (.c (vi 3))⟩,⟨some 32, none,.bin .add (.t 28) (.t 31)⟩,⟨some 14, none,.asg (.t 32)⟩] [0,3,10,11,12,13,14] []
def Jq9:IC:=.reg [⟨some 33, none,.mv (.t 10)⟩,⟨some 34, none,.bin .geq (.t 33) (.c (vi 8))⟩] [0,3,10,11,12,13,14,34] []
def Jpk:IC:=.reg [⟨some 35, none,.mv (.t 10)⟩,⟨some 36, none,.bin .geq (.t 35) (.c (vi 50))⟩] [0,3,11,12,13,14,36] []
def Jso:IC:=.reg [⟨some 37, none,.mv (.t 0)⟩,⟨some 38, none,.mv (.t 12)⟩,⟨some 39, none,.mv (.t 3)⟩,⟨some 40, none,.call Qzp [(.ld,(.t 37)),(.val,(.t 38)),(.val,(.t 11)),(.val,(.t 39))] false⟩,⟨some 12, none,.asg (.t 40)⟩] [0,3,11,12,13,14] []
def Jn2:IC:=.reg [⟨some 41, none,.mv (.t 0)⟩,⟨some 42, none,.mv (.t 13)⟩,⟨some 43, none,.mv (.t 3)⟩,⟨some 44, none,.call Qzp [(.ld,(.t 41)),(.val,(.t 42)),(.val,(.t 11)),(.val,(.t 43))] false⟩,⟨some 13, none,.asg (.t 44)⟩] [0,3,11,12,13,14] []
def Jhn:IC:=.reg [⟨some 45, none,.mv (.t 0)⟩,⟨some 46, none,.mv (.t 14)⟩,⟨some 47, none,.mv (.t 3)⟩,⟨some 48, none,.call Qzp [(.ld,(.t 45)),(.val,(.t 46)),(.val,(.t 11)),(.val,(.t 47))] false⟩,⟨some 14, none,.asg (.t 48)⟩] [0,3,11,12,13,14] []
def Jdz:IC:=.reg [⟨some 49, none,.mv (.t 0)⟩,⟨some 50, none,.mv (.t 12)⟩,⟨some 51, none,.mv (.t 13)⟩,⟨some 52, none,.mv (.t 14)⟩,⟨some 53, none,.mv (.t 3)⟩,⟨some 54, none,.call Qwh [(.ld,(.t 49)),(.val,(.t 50)),(.val,(.t 51)),(.val,(.t 52)),(.val,(.t 11)),(.val,(.t 53))] false⟩,⟨some 13, none,.asg (.t 54)⟩] [0,11,13] []
def Jgo:IC:=.reg [⟨some 55, none,.load false 1 (.t 11)⟩] [0,13,55] []
def Jex:IC:=.reg [⟨some 58, none,.bin .eql (.t 55) (.c (vi 0))⟩,⟨some 57, none,.asg (.t 58)⟩] [0,13,55,57] []
def Jhv:IC:=.reg [⟨some 59, none,.mv (.t 13)⟩,⟨some 8, none,.asgm (.t 59)⟩,⟨some 9, none,.asg (.c (vi 1))⟩] [0,8,9] []
def Jii:IC:=.reg [⟨some 61, none,.bin .eql (.t 55) (.c (vi 12))⟩,⟨some 60, none,.asg (.t 61)⟩] [0,13,60] []
def Jjf:IC:=.reg [⟨some 62, none,.mv (.t 13)⟩,⟨some 8, none,.asgm (.t 62)⟩,⟨some 9, none,.asg (.c (vi 2))⟩] [0,8,9] []
def Jfn:IC:=.reg [⟨some 56, none,.mv (.t 13)⟩,⟨some 8, none,.asgm (.t 56)⟩,⟨some 9, none,.asg (.c (vi 0))⟩] [0,8,9] []
def Qu3:Qbu:=⟨[.t 8,.t 9],[0],(.seq Jkk (.seq Jqk (.seq Jtf (.seq Jt7 (.seq Jma (.seq Jq0 (.seq (.seq Jq9 (.cond (.t 34) (.seq (.seq Jpk (.cond (.t 36) (.seq Jso (.seq Jn2 Jhn)) .skip)) Jdz) .skip)) (.seq Jgo (.block 0 (.seq Jex (.cond (.t 57) (.seq Jhv .ret) (.seq Jii (.cond (.t 60) (.seq Jjf .ret) (.seq Jfn .ret))))))))))))))⟩
def Jod:IC:=.reg [⟨some 10, none,.mv (.t 1)⟩,⟨some 11, none,.bin .add (.t 10) (.c (vi 1))⟩,⟨some 8, none,.asg (.t 11)⟩] [0,1,2,3,8] []
def Jrt:IC:=.reg [⟨some 12, none,.mv (.t 8)⟩,⟨some 13, none,.mv (.t 2)⟩,⟨some 14, none,.bin .lss (.t 12) (.t 13)⟩] [0,1,2,3,8,14] []
def Jm5:IC:=.reg [⟨some 17, none,.mv (.t 8)⟩,⟨some 9, none,.asg (.t 17)⟩] [0,1,2,3,8,9] []
def Jns:IC:=.reg [⟨some 18, none,.mv (.t 9)⟩,⟨some 19, none,.mv (.t 1)⟩,⟨some 20, none,.bin .gtr (.t 18) (.t 19)⟩,⟨some 21, none,.asg (.t 20)⟩,⟨some 22, (some (21,true)),.mv (.t 3)⟩,⟨some 23, (some (21,true)),.mv (.t 0)⟩,⟨some 24, (some (21,true)),.mv (.t 9)⟩,⟨some 25, (some (21,true)),.iadr 2 (.t 23) (.t 24)⟩,⟨some 26, (some (21,true)),.load true 2 (.t 25)⟩,⟨some 27, (some (21,true)),.mv (.t 0)⟩,⟨some 28, (some (21,true)),.mv (.t 9)⟩,⟨some 29, (some (21,true)),.bin .sub (.t 28) (.c (vi 1))⟩,⟨some 30, (some (21,true)),.iadr 2 (.t 27) (.t 29)⟩,⟨some 31, (some (21,true)),.load true 2 (.t 30)⟩,⟨some 32, (some (21,true)),.callv (.t 22) [(.val,(.t 26)),(.val,(.t 31))]⟩,⟨some 33, (some (21,true)),.bin .lss (.t 32) (.c (vi 0))⟩,⟨some 34, none,.pick (.t 21) (.t 33) (.c (.bool false))⟩] [0,1,2,3,8,9,34] []
def Jpl:IC:=.reg [⟨some 37, none,.mv (.t 0)⟩,⟨some 38, none,.mv (.t 9)⟩,⟨some 39, none,.mv (.t 0)⟩,⟨some 40, none,.mv (.t 9)⟩,⟨some 41, none,.bin .sub (.t 40) (.c (vi 1))⟩,⟨some 42, none,.mv (.t 0)⟩,⟨some 43, none,.mv (.t 9)⟩,⟨some 44, none,.bin .sub (.t 43) (.c (vi 1))⟩,⟨some 45, none,.iadr 2 (.t 42) (.t 44)⟩,⟨some 46, none,.load true 2 (.t 45)⟩,⟨some 47, none,.mv (.t 0)⟩,⟨some 48, none,.mv (.t 9)⟩,⟨some 49, none,.iadr 2 (.t 47) (.t 48)⟩,⟨some 50, none,.load true 2 (.t 49)⟩,⟨some 51, none,.iadr 2 (.t 37) (.t 38)⟩,⟨none,none,.store 2 (.t 51) (.t 46)⟩,⟨some 52, none,.iadr 2 (.t 39) (.t 41)⟩,⟨none,none,.store 2 (.t 52) (.t 50)⟩] [0,1,2,3,8,9] []
def Jpm:IC:=.reg [⟨some 35, none,.mv (.t 9)⟩,⟨some 36, none,.bin .sub (.t 35) (.c (vi 1))⟩,⟨some 9, none,.asg (.t 36)⟩] [0,1,2,3,8,9] []
def Jct:IC:=(.seq (.seq Jns (.cond (.t 34) .skip (.exit 2))) (.seq (.block 3 Jpl) Jpm))
def Jnc:IC:=.reg [⟨some 15, none,.mv (.t 8)⟩,⟨some 16, none,.bin .add (.t 15) (.c (vi 1))⟩,⟨some 8, none,.asg (.t 16)⟩] [0,1,2,3,8] []
def Jdg:IC:=(.seq (.seq Jrt (.cond (.t 14) .skip (.exit 0))) (.seq (.block 1 (.seq Jm5 (.block 2 (.loop Jct)))) Jnc))
def Quf:Qbu:=⟨[],[0],(.seq Jod (.block 0 (.loop Jdg)))⟩
def Jnu:IC:=.reg [⟨some 12, none,.asg (.c (vi 0))⟩] [0,1,2,3,4,5] []
def Jl8:IC:=.reg [⟨some 14, none,.mv (.t 0)⟩,⟨some 15, none,.mv (.t 1)⟩,⟨some 16, none,.mv (.t 2)⟩,⟨some 17, none,.mv (.t 4)⟩,⟨some 18, none,.mv (.t 5)⟩,⟨some 19, none,.call Qnp [(.ld,(.t 14)),(.val,(.t 15)),(.val,(.t 16)),(.val,(.t 17)),(.val,(.t 18))] false⟩,⟨some 13, none,.asg (.t 19)⟩,⟨some 20, none,.extr (.t 13) 0⟩,⟨some 21, none,.extr (.t 13) 1⟩,⟨some 1, none,.asg (.t 20)⟩,⟨some 2, none,.asg (.t 21)⟩] [0,1,2,3,4,5] []
def Jm9:IC:=.reg [⟨some 23, none,.mv (.t 0)⟩,⟨some 24, none,.mv (.t 2)⟩,⟨some 25, none,.mv (.t 3)⟩,⟨some 26, none,.mv (.t 4)⟩,⟨some 27, none,.mv (.t 5)⟩,⟨some 28, none,.call Qnp [(.ld,(.t 23)),(.val,(.t 24)),(.val,(.t 25)),(.val,(.t 26)),(.val,(.t 27))] false⟩,⟨some 22, none,.asg (.t 28)⟩,⟨some 29, none,.extr (.t 22) 0⟩,⟨some 30, none,.extr (.t 22) 1⟩,⟨some 2, none,.asg (.t 29)⟩,⟨some 3, none,.asg (.t 30)⟩] [0,1,2,4,5] []
def Jr0:IC:=.reg [⟨some 32, none,.mv (.t 0)⟩,⟨some 33, none,.mv (.t 1)⟩,⟨some 34, none,.mv (.t 2)⟩,⟨some 35, none,.mv (.t 4)⟩,⟨some 36, none,.mv (.t 5)⟩,⟨some 37, none,.call Qnp [(.ld,(.t 32)),(.val,(.t 33)),(.val,(.t 34)),(.val,(.t 35)),(.val,(.t 36))] false⟩,⟨some 31, none,.asg (.t 37)⟩,⟨some 38, none,.extr (.t 31) 0⟩,⟨some 39, none,.extr (.t 31) 1⟩,⟨some 1, none,.asg (.t 38)⟩,⟨some 2, none,.asg (.t 39)⟩] [0,2] []
def Jnx:IC:=.reg [⟨some 40, none,.mv (.t 2)⟩,⟨some 12, none,.asgm (.t 40)⟩] [0,12] []
def Jb9:Qbu:=⟨[.t 12],[0],(.seq Jnu (.seq Jl8 (.seq Jm9 (.seq Jr0 (.seq Jnx .ret)))))⟩
def Jxb:IC:=.reg [⟨some 2, none,.asg (.c (.int .u64 (0)))⟩] [0] []
def Jzd:IC:=.reg [⟨some 3, none,.mv (.t 0)⟩,⟨some 4, none,.conv .u64 (.t 3)⟩,⟨some 5, none,.call Jjx [(.val,(.t 4))] true⟩,⟨some 6, none,.bin .shl (.c (.int .u64 (1))) (.t 5)⟩,⟨some 2, none,.asg (.t 6)⟩] [2] []
def Juk:Qbu:=⟨[.t 2],[],(.seq Jxb (.seq Jzd .ret))⟩
def Jqu:IC:=.reg [⟨some 10, none,.asg (.c (vi 0))⟩,⟨some 11, none,.asg (.c (vi 0))⟩] [0,1,2,3,4] []
def Jtc:IC:=.reg [⟨some 12, none,.mv (.t 4)⟩,⟨some 13, none,.mv (.t 0)⟩,⟨some 14, none,.mv (.t 2)⟩,⟨some 15, none,.iadr 2 (.t 13) (.t 14)⟩,⟨some 16, none,.load true 2 (.t 15)⟩,⟨some 17, none,.mv (.t 0)⟩,⟨some 18, none,.mv (.t 1)⟩,⟨some 19, none,.iadr 2 (.t 17) (.t 18)⟩,⟨some 20, none,.load true 2 (.t 19)⟩,⟨some 21, none,.callv (.t 12) [(.val,(.t 16)),(.val,(.t 20))]⟩,⟨some 22, none,.bin .lss (.t 21) (.c (vi 0))⟩] [0,1,2,3,22] []
def Jk3:IC:=.reg [⟨some 23, none,.mv (.t 3)⟩,⟨some 24, none,.nilck (.t 23)⟩,⟨some 25, none,.load false 1 (.t 24)⟩,⟨some 26, none,.bin .add (.t 25) (.c (vi 1))⟩,⟨some 27, none,.nilck (.t 23)⟩,⟨none,none,.store 1 (.t 27) (.t 26)⟩] [0,1,2] []
def Jni:IC:=.reg [⟨some 28, none,.mv (.t 2)⟩,⟨some 29, none,.mv (.t 1)⟩,⟨some 10, none,.asgm (.t 28)⟩,⟨some 11, none,.asgm (.t 29)⟩] [0,10,11] []
def Jmc:IC:=.reg [⟨some 30, none,.mv (.t 1)⟩,⟨some 31, none,.mv (.t 2)⟩,⟨some 10, none,.asgm (.t 30)⟩,⟨some 11, none,.asgm (.t 31)⟩] [0,10,11] []
def Qv2:Qbu:=⟨[.t 10,.t 11],[0],(.seq Jqu (.seq (.seq Jtc (.cond (.t 22) (.seq Jk3 (.seq Jni .ret)) .skip)) (.seq Jmc .ret)))⟩
def Jke:IC:=.reg [⟨some 8, none,.asg (.c (.bool false))⟩] [0,1,2,3] []
def Jp7:IC:=.reg [⟨some 13, none,.mv (.t 1)⟩,⟨some 14, none,.bin .add (.t 13) (.c (vi 1))⟩,⟨some 9, none,.asg (.t 14)⟩] [0,1,2,3,9] []
def Job:IC:=.reg [⟨some 10, none,.asg (.c (vi 0))⟩] [0,1,2,3,9,10] []
def Jm6:IC:=.reg [⟨some 15, none,.mv (.t 10)⟩,⟨some 16, none,.bin .lss (.t 15) (.c (vi 5))⟩] [0,1,2,3,9,10,16] []
def Js7:IC:=.reg [⟨some 19, none,.mv (.t 9)⟩,⟨some 20, none,.mv (.t 2)⟩,⟨some 21, none,.bin .lss (.t 19) (.t 20)⟩,⟨some 22, none,.asg (.t 21)⟩,⟨some 23, (some (22,true)),.mv (.t 3)⟩,⟨some 24, (some (22,true)),.mv (.t 0)⟩,⟨some 25, (some (22,true)),.mv (.t 9)⟩,⟨some 26, (some (22,true)),.iadr 2 (.t 24) (.t 25)⟩,⟨some 27, (some (22,true)),.load true 2 (.t 26)⟩,⟨some 28, (some (22,true)),.mv (.t 0)⟩,⟨some 29, (some (22,true)),.mv (.t 9)⟩,⟨some 30, (some (22,true)),.bin .sub (.t 29) (.c (vi 1))⟩,⟨some 31, (some (22,true)),.iadr 2 (.t 28) (.t 30)⟩,⟨some 32, (some (22,true)),.load true 2 (.t 31)⟩,⟨some 33, (some (22,true)),.callv (.t 23) [(.val,(.t 27)),(.val,(.t 32))]⟩,⟨some 34, (some (22,true)),.bin .lss (.t 33) (.c (vi 0))⟩,⟨some 35, (some (22,true)),.unop .not (.t 34)⟩,⟨some 36, none,.pick (.t 22) (.t 35) (.c (.bool false))⟩] [0,1,2,3,9,10,36] []
def Jt8:IC:=.reg [⟨some 37, none,.mv (.t 9)⟩,⟨some 38, none,.bin .add (.t 37) (.c (vi 1))⟩,⟨some 9, none,.asg (.t 38)⟩] [0,1,2,3,9,10] []
def Jdi:IC:=(.seq (.seq Js7 (.cond (.t 36) .skip (.exit 2))) (.block 3 Jt8))
def Jmj:IC:=.reg [⟨some 39, none,.mv (.t 9)⟩,⟨some 40, none,.mv (.t 2)⟩,⟨some 41, none,.bin .eql (.t 39) (.t 40)⟩] [0,1,2,3,9,10,41] []
def Jpg:IC:=.reg [⟨some 8, none,.asg (.c (.bool true))⟩] [0,8] []
def Jk2:IC:=.reg [⟨some 42, none,.mv (.t 2)⟩,⟨some 43, none,.mv (.t 1)⟩,⟨some 44, none,.bin .sub (.t 42) (.t 43)⟩,⟨some 45, none,.bin .lss (.t 44) (.c (vi 50))⟩] [0,1,2,3,9,10,45] []
def Jfq:IC:=.reg [⟨some 8, none,.asg (.c (.bool false))⟩] [0,8] []
def Jja:IC:=.reg [⟨some 46, none,.mv (.t 0)⟩,⟨some 47, none,.mv (.t 9)⟩,⟨some 48, none,.mv (.t 0)⟩,⟨some 49, none,.mv (.t 9)⟩,⟨some 50, none,.bin .sub (.t 49) (.c (vi 1))⟩,⟨some 51, none,.mv (.t 0)⟩,⟨some 52, none,.mv (.t 9)⟩,⟨some 53, none,.bin .sub (.t 52) (.c (vi 1))⟩,⟨some 54, none,.iadr 2 (.t 51) (.t 53)⟩,⟨some 55, none,.load true 2 (.t 54)⟩,⟨some 56, none,.mv (.t 0)⟩,⟨some 57, none,.mv (.t 9)⟩,⟨some 58, none,.iadr 2 (.t 56) (.t 57)⟩,⟨some 59, none,.load true 2 (.t 58)⟩,⟨some 60, none,.iadr 2 (.t 46) (.t 47)⟩,⟨none,none,.store 2 (.t 60) (.t 55)⟩,⟨some 61, none,.iadr 2 (.t 48) (.t 50)⟩,⟨none,none,.store 2 (.t 61) (.t 59)⟩] [0,1,2,3,9,10] []
def Jg0:IC:=.reg [⟨some 62, none,.mv (.t 9)⟩,⟨some 63, none,.mv (.t 1)⟩,⟨some 64, none,.bin .sub (.t 62) (.t 63)⟩,⟨some 65, none,.bin .geq (.t 64) (.c (vi 2))⟩] [0,1,2,3,9,10,65] []
def Ji9:IC:=.reg [⟨some 66, none,.mv (.t 9)⟩,⟨some 67, none,.bin .sub (.t 66) (.c (vi 1))⟩,⟨some 11, none,.asg (.t 67)⟩] [0,1,2,3,9,10,11] []
def Jfd:IC:=.reg [⟨some 68, none,.mv (.t 11)⟩,⟨some 69, none,.bin .geq (.t 68) (.c (vi 1))⟩] [0,1,2,3,9,10,11,69] []
def Jg7:IC:=.reg [⟨some 72, none,.mv (.t 3)⟩,⟨some 73, none,.mv (.t 0)⟩,⟨some 74, none,.mv (.t 11)⟩,⟨some 75, none,.iadr 2 (.t 73) (.t 74)⟩,⟨some 76, none,.load true 2 (.t 75)⟩,⟨some 77, none,.mv (.t 0)⟩,⟨some 78, none,.mv (.t 11)⟩,⟨some 79, none,.bin .sub (.t 78) (.c (vi 1))⟩,⟨some 80, none,.iadr 2 (.t 77) (.t 79)⟩,⟨some 81, none,.load true 2 (.t 80)⟩,⟨some 82, none,.callv (.t 72) [(.val,(.t 76)),(.val,(.t 81))]⟩,⟨some 83, none,.bin .lss (.t 82) (.c (vi 0))⟩,⟨some 84, none,.unop .not (.t 83)⟩] [0,1,2,3,9,10,11,84] []
def Jjj:IC:=.reg [⟨some 85, none,.mv (.t 0)⟩,⟨some 86, none,.mv (.t 11)⟩,⟨some 87, none,.mv (.t 0)⟩,⟨some 88, none,.mv (.t 11)⟩,⟨some 89, none,.bin .sub (.t 88) (.c (vi 1))⟩,⟨some 90, none,.mv (.t 0)⟩,⟨some 91, none,.mv (.t 11)⟩,⟨some 92, none,.bin .sub (.t 91) (.c (vi 1))⟩,⟨some 93, none,.iadr 2 (.t 90) (.t 92)⟩,⟨some 94, none,.load true 2 (.t 93)⟩,⟨some 95, none,.mv (.t 0)⟩,⟨some 96, none,.mv (.t 11)⟩,⟨some 97, none,.iadr 2 (.t 95) (.t 96)⟩,⟨some 98, none,.load true 2 (.t 97)⟩,⟨some 99, none,.iadr 2 (.t 85) (.t 86)⟩,⟨none,none,.store 2 (.t 99) (.t 94)⟩,⟨some 100, none,.iadr 2 (.t 87) (.t 89)⟩,⟨none,none,.store 2 (.t 100) (.t 98)⟩] [0,1,2,3,9,10,11] []
def Jhg:IC:=.reg [⟨some 70, none,.mv (.t 11)⟩,⟨some 71, none,.bin .sub (.t 70) (.c (vi 1))⟩,⟨some 11, none,.asg (.t 71)⟩] [0,1,2,3,9,10,11] []
def Jeh:IC:=(.seq (.seq Jfd (.cond (.t 69) .skip (.exit 4))) (.seq (.block 5 (.seq (.seq Jg7 (.cond (.t 84) (.exit 4) .skip)) Jjj)) Jhg))
def Jhd:IC:=.reg [⟨some 101, none,.mv (.t 2)⟩,⟨some 102, none,.mv (.t 9)⟩,⟨some 103, none,.bin .sub (.t 101) (.t 102)⟩,⟨some 104, none,.bin .geq (.t 103) (.c (vi 2))⟩] [0,1,2,3,9,10,104] []
def Jhx:IC:=.reg [⟨some 105, none,.mv (.t 9)⟩,⟨some 106, none,.bin .add (.t 105) (.c (vi 1))⟩,⟨some 12, none,.asg (.t 106)⟩] [0,1,2,3,9,10,12] []
def Jgk:IC:=.reg [⟨some 107, none,.mv (.t 12)⟩,⟨some 108, none,.mv (.t 2)⟩,⟨some 109, none,.bin .lss (.t 107) (.t 108)⟩] [0,1,2,3,9,10,12,109] []
def Jih:IC:=.reg [⟨some 112, none,.mv (.t 3)⟩,⟨some 113, none,.mv (.t 0)⟩,⟨some 114, none,.mv (.t 12)⟩,⟨some 115, none,.iadr 2 (.t 113) (.t 114)⟩,⟨some 116, none,.load true 2 (.t 115)⟩,⟨some 117, none,.mv (.t 0)⟩,⟨some 118, none,.mv (.t 12)⟩,⟨some 119, none,.bin .sub (.t 118) (.c (vi 1))⟩,⟨some 120, none,.iadr 2 (.t 117) (.t 119)⟩,⟨some 121, none,.load true 2 (.t 120)⟩,⟨some 122, none,.callv (.t 112) [(.val,(.t 116)),(.val,(.t 121))]⟩,⟨some 123, none,.bin .lss (.t 122) (.c (vi 0))⟩,⟨some 124, none,.unop .not (.t 123)⟩] [0,1,2,3,9,10,12,124] []
def Jd5:IC:=.reg [⟨some 125, none,.mv (.t 0)⟩,⟨some 126, none,.mv (.t 12)⟩,⟨some 127, none,.mv (.t 0)⟩,⟨some 128, none,.mv (.t 12)⟩,⟨some 129, none,.bin .sub (.t 128) (.c (vi 1))⟩,⟨some 130, none,.mv (.t 0)⟩,⟨some 131, none,.mv (.t 12)⟩,⟨some 132, none,.bin .sub (.t 131) (.c (vi 1))⟩,⟨some 133, none,.iadr 2 (.t 130) (.t 132)⟩,⟨some 134, none,.load true 2 (.t 133)⟩,⟨some 135, none,.mv (.t 0)⟩,⟨some 136, none,.mv (.t 12)⟩,⟨some 137, none,.iadr 2 (.t 135) (.t 136)⟩,⟨some 138, none,.load true 2 (.t 137)⟩,⟨some 139, none,.iadr 2 (.t 125) (.t 126)⟩,⟨none,none,.store 2 (.t 139) (.t 134)⟩,⟨some 140, none,.iadr 2 (.t 127) (.t 129)⟩,⟨none,none,.store 2 (.t 140) (.t 138)⟩] [0,1,2,3,9,10,12] []
def Jfm:IC:=.reg [⟨some 110, none,.mv (.t 12)⟩,⟨some 111, none,.bin .add (.t 110) (.c (vi 1))⟩,⟨some 12, none,.asg (.t 111)⟩] [0,1,2,3,9,10,12] []
def Jh5:IC:=(.seq (.seq Jgk (.cond (.t 109) .skip (.exit 6))) (.seq (.block 7 (.seq (.seq Jih (.cond (.t 124) (.exit 6) .skip)) Jd5)) Jfm))
def Jho:IC:=.reg [⟨some 17, none,.mv (.t 10)⟩,⟨some 18, none,.bin .add (.t 17) (.c (vi 1))⟩,⟨some 10, none,.asg (.t 18)⟩] [0,1,2,3,9,10] []
def Jgu:IC:=(.seq (.seq Jm6 (.cond (.t 16) .skip (.exit 0))) (.seq (.block 1 (.seq (.block 2 (.loop Jdi)) (.seq (.seq Jmj (.cond (.t 41) (.seq Jpg .ret) .skip)) (.seq (.seq Jk2 (.cond (.t 45) (.seq Jfq .ret) .skip)) (.seq Jja (.seq (.seq Jg0 (.cond (.t 65) (.seq Ji9 (.block 4 (.loop Jeh))) .skip)) (.seq Jhd (.cond (.t 104) (.seq Jhx (.block 6 (.loop Jh5))) .skip)))))))) Jho))
def Jie:IC:=.reg [⟨some 8, none,.asg (.c (.bool false))⟩] [0,8] []
def Qxe:Qbu:=⟨[.t 8],[0],(.seq Jke (.seq Jp7 (.seq (.seq Job (.block 0 (.loop Jgu))) (.seq Jie .ret))))⟩
def Jlp:IC:=.reg [⟨some 10, none,.asg (.c (vi 0))⟩,⟨some 11, none,.asg (.c (.bool false))⟩] [0,1,2,3,4] []
def Jnl:IC:=.reg [⟨some 14, none,.mv (.t 0)⟩,⟨some 15, none,.mv (.t 1)⟩,⟨some 16, none,.mv (.t 0)⟩,⟨some 17, none,.mv (.t 3)⟩,⟨some 18, none,.mv (.t 0)⟩,⟨some 19, none,.mv (.t 3)⟩,⟨some 20, none,.iadr 2 (.t 18) (.t 19)⟩,⟨some 21, none,.load true 2 (.t 20)⟩,⟨some 22, none,.mv (.t 0)⟩,⟨some 23, none,.mv (.t 1)⟩,⟨some 24, none,.iadr 2 (.t 22) (.t 23)⟩,⟨some 25, none,.load true 2 (.t 24)⟩,⟨some 26, none,.iadr 2 (.t 14) (.t 15)⟩,⟨none,none,.store 2 (.t 26) (.t 21)⟩,⟨some 27, none,.iadr 2 (.t 16) (.t 17)⟩,⟨none,none,.store 2 (.t 27) (.t 25)⟩] [0,1,2,4] []
def Jt5:IC:=.reg [⟨some 28, none,.mv (.t 1)⟩,⟨some 29, none,.bin .add (.t 28) (.c (vi 1))⟩,⟨some 30, none,.mv (.t 2)⟩,⟨some 31, none,.bin .sub (.t 30) (.c (vi 1))⟩,⟨some 12, none,.asg (.t 29)⟩,⟨some 13, none,.asg (.t 31)⟩] [0,1,4,12,13] []
def Jtl:IC:=.reg [⟨some 32, none,.mv (.t 12)⟩,⟨some 33, none,.mv (.t 13)⟩,⟨some 34, none,.bin .leq (.t 32) (.t 33)⟩,⟨some 35, none,.asg (.t 34)⟩,⟨some 36, (some (35,true)),.mv (.t 4)⟩,⟨some 37, (some (35,true)),.mv (.t 0)⟩,⟨some 38, (some (35,true)),.mv (.t 12)⟩,⟨some 39, (some (35,true)),.iadr 2 (.t 37) (.t 38)⟩,⟨some 40, (some (35,true)),.load true 2 (.t 39)⟩,⟨some 41, (some (35,true)),.mv (.t 0)⟩,⟨some 42, (some (35,true)),.mv (.t 1)⟩,⟨some 43, (some (35,true)),.iadr 2 (.t 41) (.t 42)⟩,⟨some 44, (some (35,true)),.load true 2 (.t 43)⟩,⟨some 45, (some (35,true)),.callv (.t 36) [(.val,(.t 40)),(.val,(.t 44))]⟩,⟨some 46, (some (35,true)),.bin .lss (.t 45) (.c (vi 0))⟩,⟨some 47, none,.pick (.t 35) (.t 46) (.c (.bool false))⟩] [0,1,4,12,13,47] []
def Jqo:IC:=.reg [⟨some 48, none,.mv (.t 12)⟩,⟨some 49, none,.bin .add (.t 48) (.c (vi 1))⟩,⟨some 12, none,.asg (.t 49)⟩] [0,1,4,12,13] []
def Jde:IC:=(.seq (.seq Jtl (.cond (.t 47) .skip (.exit 0))) (.block 1 Jqo))
def Jk1:IC:=.reg [⟨some 50, none,.mv (.t 12)⟩,⟨some 51, none,.mv (.t 13)⟩,⟨some 52, none,.bin .leq (.t 50) (.t 51)⟩,⟨some 53, none,.asg (.t 52)⟩,⟨some 54, (some (53,true)),.mv (.t 4)⟩,⟨some 55, (some (53,true)),.mv (.t 0)⟩,⟨some 56, (some (53,true)),.mv (.t 13)⟩,⟨some 57, (some (53,true)),.iadr 2 (.t 55) (.t 56)⟩,⟨some 58, (some (53,true)),.load true 2 (.t 57)⟩,⟨some 59, (some (53,true)),.mv (.t 0)⟩,⟨some 60, (some (53,true)),.mv (.t 1)⟩,⟨some 61, (some (53,true)),.iadr 2 (.t 59) (.t 60)⟩,⟨some 62, (some (53,true)),.load true 2 (.t 61)⟩,⟨some 63, (some (53,true)),.callv (.t 54) [(.val,(.t 58)),(.val,(.t 62))]⟩,⟨some 64, (some (53,true)),.bin .lss (.t 63) (.c (vi 0))⟩,⟨some 65, (some (53,true)),.unop .not (.t 64)⟩,⟨some 66, none,.pick (.t 53) (.t 65) (.c (.bool false))⟩] [0,1,4,12,13,66] []
def Jqy:IC:=.reg [⟨some 67, none,.mv (.t 13)⟩,⟨some 68, none,.bin .sub (.t 67) (.c (vi 1))⟩,⟨some 13, none,.asg (.t 68)⟩] [0,1,4,12,13] []
def Jc4:IC:=(.seq (.seq Jk1 (.cond (.t 66) .skip (.exit 2))) (.block 3 Jqy))
def Jpe:IC:=.reg [⟨some 69, none,.mv (.t 12)⟩,⟨some 70, none,.mv (.t 13)⟩,⟨some 71, none,.bin .gtr (.t 69) (.t 70)⟩] [0,1,4,12,13,71] []
def Je2:IC:=.reg [⟨some 72, none,.mv (.t 0)⟩,⟨some 73, none,.mv (.t 13)⟩,⟨some 74, none,.mv (.t 0)⟩,⟨some 75, none,.mv (.t 1)⟩,⟨some 76, none,.mv (.t 0)⟩,⟨some 77, none,.mv (.t 1)⟩,⟨some 78, none,.iadr 2 (.t 76) (.t 77)⟩,⟨some 79, none,.load true 2 (.t 78)⟩,⟨some 80, none,.mv (.t 0)⟩,⟨some 81, none,.mv (.t 13)⟩,⟨some 82, none,.iadr 2 (.t 80) (.t 81)⟩,⟨some 83, none,.load true 2 (.t 82)⟩,⟨some 84, none,.iadr 2 (.t 72) (.t 73)⟩,⟨none,none,.store 2 (.t 84) (.t 79)⟩,⟨some 85, none,.iadr 2 (.t 74) (.t 75)⟩,⟨none,none,.store 2 (.t 85) (.t 83)⟩] [0,13] []
def Jjk:IC:=.reg [⟨some 86, none,.mv (.t 13)⟩,⟨some 10, none,.asgm (.t 86)⟩,⟨some 11, none,.asg (.c (.bool true))⟩] [0,10,11] []
def Jfk:IC:=.reg [⟨some 87, none,.mv (.t 0)⟩,⟨some 88, none,.mv (.t 12)⟩,⟨some 89, none,.mv (.t 0)⟩,⟨some 90, none,.mv (.t 13)⟩,⟨some 91, none,.mv (.t 0)⟩,⟨some 92, none,.mv (.t 13)⟩,⟨some 93, none,.iadr 2 (.t 91) (.t 92)⟩,⟨some 94, none,.load true 2 (.t 93)⟩,⟨some 95, none,.mv (.t 0)⟩,⟨some 96, none,.mv (.t 12)⟩,⟨some 97, none,.iadr 2 (.t 95) (.t 96)⟩,⟨some 98, none,.load true 2 (.t 97)⟩,⟨some 99, none,.iadr 2 (.t 87) (.t 88)⟩,⟨none,none,.store 2 (.t 99) (.t 94)⟩,⟨some 100, none,.iadr 2 (.t 89) (.t 90)⟩,⟨none,none,.store 2 (.t 100) (.t 98)⟩] [0,1,4,12,13] []
def Jhl:IC:=.reg [⟨some 101, none,.mv (.t 12)⟩,⟨some 102, none,.bin .add (.t 101) (.c (vi 1))⟩,⟨some 12, none,.asg (.t 102)⟩] [0,1,4,12,13] []
def Jgq:IC:=.reg [⟨some 103, none,.mv (.t 13)⟩,⟨some 104, none,.bin .sub (.t 103) (.c (vi 1))⟩,⟨some 13, none,.asg (.t 104)⟩] [0,1,4,12,13] []
def Jf7:IC:=.reg [⟨some 105, none,.mv (.t 12)⟩,⟨some 106, none,.mv (.t 13)⟩,⟨some 107, none,.bin .leq (.t 105) (.t 106)⟩,⟨some 108, none,.asg (.t 107)⟩,⟨some 109, (some (108,true)),.mv (.t 4)⟩,⟨some 110, (some (108,true)),.mv (.t 0)⟩,⟨some 111, (some (108,true)),.mv (.t 12)⟩,⟨some 112, (some (108,true)),.iadr 2 (.t 110) (.t 111)⟩,⟨some 113, (some (108,true)),.load true 2 (.t 112)⟩,⟨some 114, (some (108,true)),.mv (.t 0)⟩,⟨some 115, (some (108,true)),.mv (.t 1)⟩,⟨some 116, (some (108,true)),.iadr 2 (.t 114) (.t 115)⟩,⟨some 117, (some (108,true)),.load true 2 (.t 116)⟩,⟨some 118, (some (108,true)),.callv (.t 109) [(.val,(.t 113)),(.val,(.t 117))]⟩,⟨some 119, (some (108,true)),.bin .lss (.t 118) (.c (vi 0))⟩,⟨some 120, none,.pick (.t 108) (.t 119) (.c (.bool false))⟩] [0,1,4,12,13,120] []
def Jdt:IC:=.reg [⟨some 121, none,.mv (.t 12)⟩,⟨some 122, none,.bin .add (.t 121) (.c (vi 1))⟩,⟨some 12, none,.asg (.t 122)⟩] [0,1,4,12,13] []
def Qwm:IC:=(.seq (.seq Jf7 (.cond (.t 120) .skip (.exit 6))) (.block 7 Jdt))
def Je8:IC:=.reg [⟨some 123, none,.mv (.t 12)⟩,⟨some 124, none,.mv (.t 13)⟩,⟨some 125, none,.bin .leq (.t 123) (.t 124)⟩,⟨some 126, none,.asg (.t 125)⟩,⟨some 127, (some (126,true)),.mv (.t 4)⟩,⟨some 128, (some (126,true)),.mv (.t 0)⟩,⟨some 129, (some (126,true)),.mv (.t 13)⟩,⟨some 130, (some (126,true)),.iadr 2 (.t 128) (.t 129)⟩,⟨some 131, (some (126,true)),.load true 2 (.t 130)⟩,⟨some 132, (some (126,true)),.mv (.t 0)⟩,⟨some 133, (some (126,true)),.mv (.t 1)⟩,⟨some 134, (some (126,true)),.iadr 2 (.t 132) (.t 133)⟩,⟨some 135, (some (126,true)),.load true 2 (.t 134)⟩,⟨some 136, (some (126,true)),.callv (.t 127) [(.val,(.t 131)),(.val,(.t 135))]⟩,⟨some 137, (some (126,true)),.bin .lss (.t 136) (.c (vi 0))⟩,⟨some 138, (some (126,true)),.unop .not (.t 137)⟩,⟨some 139, none,.pick (.t 126) (.t 138) (.c (.bool false))⟩] [0,1,4,12,13,139] []
def Je7:IC:=.reg [⟨some 140, none,.mv (.t 13)⟩,⟨some 141, none,.bin .sub (.t 140) (.c (vi 1))⟩,⟨some 13, none,.asg (.t 141)⟩] [0,1,4,12,13] []
def Qtl:IC:=(.seq (.seq Je8 (.cond (.t 139) .skip (.exit 8))) (.block 9 Je7))
def Jjc:IC:=.reg [⟨some 142, none,.mv (.t 12)⟩,⟨some 143, none,.mv (.t 13)⟩,⟨some 144, none,.bin .gtr (.t 142) (.t 143)⟩] [0,1,4,12,13,144] []
def Jik:IC:=.reg [⟨some 145, none,.mv (.t 0)⟩,⟨some 146, none,.mv (.t 12)⟩,⟨some 147, none,.mv (.t 0)⟩,⟨some 148, none,.mv (.t 13)⟩,⟨some 149, none,.mv (.t 0)⟩,⟨some 150, none,.mv (.t 13)⟩,⟨some 151, none,.iadr 2 (.t 149) (.t 150)⟩,⟨some 152, none,.load true 2 (.t 151)⟩,⟨some 153, none,.mv (.t 0)⟩,⟨some 154, none,.mv (.t 12)⟩,⟨some 155, none,.iadr 2 (.t 153) (.t 154)⟩,⟨some 156, none,.load true 2 (.t 155)⟩,⟨some 157, none,.iadr 2 (.t 145) (.t 146)⟩,⟨none,none,.store 2 (.t 157) (.t 152)⟩,⟨some 158, none,.iadr 2 (.t 147) (.t 148)⟩,⟨none,none,.store 2 (.t 158) (.t 156)⟩] [0,1,4,12,13] []
def Jf8:IC:=.reg [⟨some 159, none,.mv (.t 12)⟩,⟨some 160, none,.bin .add (.t 159) (.c (vi 1))⟩,⟨some 12, none,.asg (.t 160)⟩] [0,1,4,12,13] []
def Jfx:IC:=.reg [⟨some 161, none,.mv (.t 13)⟩,⟨some 162, none,.bin .sub (.t 161) (.c (vi 1))⟩,⟨some 13, none,.asg (.t 162)⟩] [0,1,4,12,13] []
def Qwn:IC:=(.block 5 (.seq (.block 6 (.loop Qwm)) (.seq (.block 8 (.loop Qtl)) (.seq (.seq Jjc (.cond (.t 144) (.exit 4) .skip)) (.seq Jik (.seq Jf8 Jfx))))))
def Jh3:IC:=.reg [⟨some 163, none,.mv (.t 0)⟩,⟨some 164, none,.mv (.t 13)⟩,⟨some 165, none,.mv (.t 0)⟩,⟨some 166, none,.mv (.t 1)⟩,⟨some 167, none,.mv (.t 0)⟩,⟨some 168, none,.mv (.t 1)⟩,⟨some 169, none,.iadr 2 (.t 167) (.t 168)⟩,⟨some 170, none,.load true 2 (.t 169)⟩,⟨some 171, none,.mv (.t 0)⟩,⟨some 172, none,.mv (.t 13)⟩,⟨some 173, none,.iadr 2 (.t 171) (.t 172)⟩,⟨some 174, none,.load true 2 (.t 173)⟩,⟨some 175, none,.iadr 2 (.t 163) (.t 164)⟩,⟨none,none,.store 2 (.t 175) (.t 170)⟩,⟨some 176, none,.iadr 2 (.t 165) (.t 166)⟩,⟨none,none,.store 2 (.t 176) (.t 174)⟩] [0,13] []
def Jer:IC:=.reg [⟨some 177, none,.mv (.t 13)⟩,⟨some 10, none,.asgm (.t 177)⟩,⟨some 11, none,.asg (.c (.bool false))⟩] [0,10,11] []
def Qw5:Qbu:=⟨[.t 10,.t 11],[0],(.seq Jlp (.seq Jnl (.seq Jt5 (.seq (.block 0 (.loop Jde)) (.seq (.block 2 (.loop Jc4)) (.seq (.seq Jpe (.cond (.t 71) (.seq Je2 (.seq Jjk .ret)) .skip)) (.seq Jfk (.seq Jhl (.seq Jgq (.seq (.block 4 (.loop Qwn)) (.seq Jh3 (.seq Jer .ret))))))))))))⟩
def Jrv:IC:=.reg [⟨some 10, none,.asg (.c (.bool true))⟩] [0,1,2,3,4,10] []
def Joi:IC:=.reg [⟨some 11, none,.asg (.c (.bool true))⟩] [0,1,2,3,4,10,11] []
def Jsj:IC:=.reg [⟨some 21, none,.mv (.t 2)⟩,⟨some 22, none,.mv (.t 1)⟩,⟨some 23, none,.bin .sub (.t 21) (.t 22)⟩,⟨some 12, none,.asg (.t 23)⟩] [0,1,2,3,4,10,11,12] []
def Jlg:IC:=.reg [⟨some 24, none,.mv (.t 12)⟩,⟨some 25, none,.bin .leq (.t 24) (.c (vi 12))⟩] [0,1,2,3,4,10,11,12,25] []
def Jqj:IC:=.reg [⟨some 26, none,.mv (.t 0)⟩,⟨some 27, none,.mv (.t 1)⟩,⟨some 28, none,.mv (.t 2)⟩,⟨some 29, none,.mv (.t 4)⟩,⟨some 30, none,.call Qso [(.ld,(.t 26)),(.val,(.t 27)),(.val,(.t 28)),(.val,(.t 29))] false⟩] [0] []
def Jm1:IC:=.reg [⟨some 31, none,.mv (.t 3)⟩,⟨some 32, none,.bin .eql (.t 31) (.c (vi 0))⟩] [0,1,2,3,4,10,11,12,32] []
def Jnk:IC:=.reg [⟨some 33, none,.mv (.t 0)⟩,⟨some 34, none,.mv (.t 1)⟩,⟨some 35, none,.mv (.t 2)⟩,⟨some 36, none,.mv (.t 4)⟩,⟨some 37, none,.call Jos [(.ld,(.t 33)),(.val,(.t 34)),(.val,(.t 35)),(.val,(.t 36))] false⟩] [0] []
def Jkz:IC:=.reg [⟨some 38, none,.mv (.t 10)⟩,⟨some 39, none,.unop .not (.t 38)⟩] [0,1,2,3,4,10,11,12,39] []
def Jr9:IC:=.reg [⟨some 40, none,.mv (.t 0)⟩,⟨some 41, none,.mv (.t 1)⟩,⟨some 42, none,.mv (.t 2)⟩,⟨some 43, none,.mv (.t 4)⟩,⟨some 44, none,.call Qs6 [(.ld,(.t 40)),(.val,(.t 41)),(.val,(.t 42)),(.val,(.t 43))] false⟩] [0,1,2,3,4,10,11,12] []
def Jl6:IC:=.reg [⟨some 45, none,.mv (.t 3)⟩,⟨some 46, none,.bin .sub (.t 45) (.c (vi 1))⟩,⟨some 3, none,.asg (.t 46)⟩] [0,1,2,3,4,10,11,12] []
def Qwc:IC:=.reg [⟨some 48, none,.mv (.t 0)⟩,⟨some 49, none,.mv (.t 1)⟩,⟨some 50, none,.mv (.t 2)⟩,⟨some 51, none,.mv (.t 4)⟩,⟨some 52, none,.call Qxr [(.ld,(.t 48)),(.val,(.t 49)),(.val,(.t 50)),(.val,(.t 51))] false⟩,⟨some 47, none,.asg (.t 52)⟩,⟨some 53, none,.extr (.t 47) 0⟩,⟨some 54, none,.extr (.t 47) 1⟩,⟨some 13, none,.asg (.t 53)⟩,⟨some 14, none,.asg (.t 54)⟩] [0,1,2,3,4,10,11,12,13,14] []
def Qwe:IC:=.reg [⟨some 55, none,.mv (.t 14)⟩,⟨some 56, none,.bin .eql (.t 55) (.c (vi 2))⟩] [0,1,2,3,4,10,11,12,13,14,56] []
def Qt4:IC:=.reg [⟨some 57, none,.mv (.t 0)⟩,⟨some 58, none,.mv (.t 1)⟩,⟨some 59, none,.mv (.t 2)⟩,⟨some 60, none,.mv (.t 4)⟩,⟨some 61, none,.call Jsu [(.ld,(.t 57)),(.val,(.t 58)),(.val,(.t 59)),(.val,(.t 60))] false⟩] [0,1,2,3,4,10,11,12,13] []
def Qxj:IC:=.reg [⟨some 62, none,.mv (.t 2)⟩,⟨some 63, none,.bin .sub (.t 62) (.c (vi 1))⟩,⟨some 64, none,.mv (.t 13)⟩,⟨some 65, none,.mv (.t 1)⟩,⟨some 66, none,.bin .sub (.t 64) (.t 65)⟩,⟨some 67, none,.bin .sub (.t 63) (.t 66)⟩,⟨some 13, none,.asg (.t 67)⟩] [0,1,2,3,4,10,11,12,13] []
def Qvd:IC:=.reg [⟨some 14, none,.asg (.c (vi 1))⟩] [0,1,2,3,4,10,11,12,13,14] []
def Qtu:IC:=.reg [⟨some 68, none,.mv (.t 10)⟩,⟨some 69, none,.asg (.t 68)⟩,⟨some 70, (some (69,true)),.mv (.t 11)⟩,⟨some 71, none,.pick (.t 69) (.t 70) (.c (.bool false))⟩,⟨some 72, none,.asg (.t 71)⟩,⟨some 73, (some (72,true)),.mv (.t 14)⟩,⟨some 74, (some (72,true)),.bin .eql (.t 73) (.c (vi 1))⟩,⟨some 75, none,.pick (.t 72) (.t 74) (.c (.bool false))⟩] [0,1,2,3,4,10,11,12,13,75] []
def Qtn:IC:=.reg [⟨some 76, none,.mv (.t 0)⟩,⟨some 77, none,.mv (.t 1)⟩,⟨some 78, none,.mv (.t 2)⟩,⟨some 79, none,.mv (.t 4)⟩,⟨some 80, none,.call Qss [(.ld,(.t 76)),(.val,(.t 77)),(.val,(.t 78)),(.val,(.t 79))] false⟩] [0,1,2,3,4,10,11,12,13,80] []
def Qvl:IC:=.reg [⟨some 81, none,.mv (.t 1)⟩,⟨some 82, none,.bin .gtr (.t 81) (.c (vi 0))⟩,⟨some 83, none,.asg (.t 82)⟩,⟨some 84, (some (83,true)),.mv (.t 4)⟩,⟨some 85, (some (83,true)),.mv (.t 0)⟩,⟨some 86, (some (83,true)),.mv (.t 1)⟩,⟨some 87, (some (83,true)),.bin .sub (.t 86) (.c (vi 1))⟩,⟨some 88, (some (83,true)),.iadr 2 (.t 85) (.t 87)⟩,⟨some 89, (some (83,true)),.load true 2 (.t 88)⟩,⟨some 90, (some (83,true)),.mv (.t 0)⟩,⟨some 91, (some (83,true)),.mv (.t 13)⟩,⟨some 92, (some (83,true)),.iadr 2 (.t 90) (.t 91)⟩,⟨some 93, (some (83,true)),.load true 2 (.t 92)⟩,⟨some 94, (some (83,true)),.callv (.t 84) [(.val,(.t 89)),(.val,(.t 93))]⟩,⟨some 95, (some (83,true)),.bin .lss (.t 94) (.c (vi 0))⟩,⟨some 96, (some (83,true)),.unop .not (.t 95)⟩,⟨some 97, none,.pick (.t 83) (.t 96) (.c (.bool false))⟩] [0,1,2,3,4,10,11,12,13,97] []
def Qun:IC:=.reg [⟨some 98, none,.mv (.t 0)⟩,⟨some 99, none,.mv (.t 1)⟩,⟨some 100, none,.mv (.t 2)⟩,⟨some 101, none,.mv (.t 13)⟩,⟨some 102, none,.mv (.t 4)⟩,⟨some 103, none,.call Jp8 [(.ld,(.t 98)),(.val,(.t 99)),(.val,(.t 100)),(.val,(.t 101)),(.val,(.t 102))] false⟩,⟨some 15, none,.asg (.t 103)⟩] [0,2,3,4,10,11,15] []
def Qyv:IC:=.reg [⟨some 104, none,.mv (.t 15)⟩,⟨some 1, none,.asgm (.t 104)⟩] [0,1,2,3,4,10,11] []
def Quo:IC:=.reg [⟨some 106, none,.mv (.t 0)⟩,⟨some 107, none,.mv (.t 1)⟩,⟨some 108, none,.mv (.t 2)⟩,⟨some 109, none,.mv (.t 13)⟩,⟨some 110, none,.mv (.t 4)⟩,⟨some 111, none,.call Qrx [(.ld,(.t 106)),(.val,(.t 107)),(.val,(.t 108)),(.val,(.t 109)),(.val,(.t 110))] false⟩,⟨some 105, none,.asg (.t 111)⟩,⟨some 112, none,.extr (.t 105) 0⟩,⟨some 113, none,.extr (.t 105) 1⟩,⟨some 16, none,.asg (.t 112)⟩,⟨some 17, none,.asg (.t 113)⟩] [0,1,2,3,4,12,16,17] []
def Qyj:IC:=.reg [⟨some 114, none,.mv (.t 17)⟩,⟨some 11, none,.asgm (.t 114)⟩] [0,1,2,3,4,11,12,16] []
def Que:IC:=.reg [⟨some 115, none,.mv (.t 16)⟩,⟨some 116, none,.mv (.t 1)⟩,⟨some 117, none,.bin .sub (.t 115) (.t 116)⟩,⟨some 118, none,.mv (.t 2)⟩,⟨some 119, none,.mv (.t 16)⟩,⟨some 120, none,.bin .sub (.t 118) (.t 119)⟩,⟨some 18, none,.asg (.t 117)⟩,⟨some 19, none,.asg (.t 120)⟩] [0,1,2,3,4,11,12,16,18,19] []
def Qxi:IC:=.reg [⟨some 121, none,.mv (.t 12)⟩,⟨some 122, none,.bin .quo (.t 121) (.c (vi 8))⟩,⟨some 20, none,.asg (.t 122)⟩] [0,1,2,3,4,11,16,18,19,20] []
def Qx6:IC:=.reg [⟨some 123, none,.mv (.t 18)⟩,⟨some 124, none,.mv (.t 19)⟩,⟨some 125, none,.bin .lss (.t 123) (.t 124)⟩] [0,1,2,3,4,11,16,18,19,20,125] []
def Qts:IC:=.reg [⟨some 126, none,.mv (.t 18)⟩,⟨some 127, none,.mv (.t 20)⟩,⟨some 128, none,.bin .geq (.t 126) (.t 127)⟩,⟨some 10, none,.asg (.t 128)⟩] [0,1,2,3,4,10,11,16] []
def Qxf:IC:=.reg [⟨some 129, none,.mv (.t 0)⟩,⟨some 130, none,.mv (.t 1)⟩,⟨some 131, none,.mv (.t 16)⟩,⟨some 132, none,.mv (.t 3)⟩,⟨some 133, none,.mv (.t 4)⟩,⟨some 134, none,.call Qlp [(.ld,(.t 129)),(.val,(.t 130)),(.val,(.t 131)),(.val,(.t 132)),(.val,(.t 133))] false⟩] [0,2,3,4,10,11,16] []
def Qt1:IC:=.reg [⟨some 135, none,.mv (.t 16)⟩,⟨some 136, none,.bin .add (.t 135) (.c (vi 1))⟩,⟨some 1, none,.asg (.t 136)⟩] [0,1,2,3,4,10,11] []
def Qws:IC:=.reg [⟨some 137, none,.mv (.t 19)⟩,⟨some 138, none,.mv (.t 20)⟩,⟨some 139, none,.bin .geq (.t 137) (.t 138)⟩,⟨some 10, none,.asg (.t 139)⟩] [0,1,2,3,4,10,11,16] []
def Qxd:IC:=.reg [⟨some 140, none,.mv (.t 0)⟩,⟨some 141, none,.mv (.t 16)⟩,⟨some 142, none,.bin .add (.t 141) (.c (vi 1))⟩,⟨some 143, none,.mv (.t 2)⟩,⟨some 144, none,.mv (.t 3)⟩,⟨some 145, none,.mv (.t 4)⟩,⟨some 146, none,.call Qlp [(.ld,(.t 140)),(.val,(.t 142)),(.val,(.t 143)),(.val,(.t 144)),(.val,(.t 145))] false⟩] [0,1,3,4,10,11,16] []
def Qtm:IC:=.reg [⟨some 147, none,.mv (.t 16)⟩,⟨some 2, none,.asgm (.t 147)⟩] [0,1,2,3,4,10,11] []
def Qhx:IC:=(.block 1 (.seq Jsj (.seq (.seq Jlg (.cond (.t 25) (.seq Jqj .ret) .skip)) (.seq (.seq Jm1 (.cond (.t 32) (.seq Jnk .ret) .skip)) (.seq (.seq Jkz (.cond (.t 39) (.seq Jr9 Jl6) .skip)) (.seq Qwc (.seq (.seq Qwe (.cond (.t 56) (.seq Qt4 (.seq Qxj Qvd)) .skip)) (.seq (.seq Qtu (.cond (.t 75) (.seq Qtn (.cond (.t 80) .ret .skip)) .skip)) (.seq (.seq Qvl (.cond (.t 97) (.seq Qun (.seq Qyv (.exit 1))) .skip)) (.seq Quo (.seq Qyj (.seq Que (.seq Qxi (.seq Qx6 (.cond (.t 125) (.seq Qts (.seq Qxf Qt1)) (.seq Qws (.seq Qxd Qtm)))))))))))))))))
def Qn5:Qbu:=⟨[],[0],(.seq Jrv (.seq Joi (.block 0 (.loop Qhx))))⟩
def Jqg:IC:=.reg [⟨some 2, none,.asg (.c (.int .u64 (0)))⟩] [0] []
def Jmr:IC:=.reg [⟨some 3, none,.mv (.t 0)⟩,⟨some 4, none,.nilck (.t 3)⟩,⟨some 5, none,.load false 1 (.t 4)⟩,⟨some 6, none,.mv (.t 0)⟩,⟨some 7, none,.nilck (.t 6)⟩,⟨some 8, none,.load false 1 (.t 7)⟩,⟨some 9, none,.bin .shl (.t 8) (.c (.int .u64 (13)))⟩,⟨some 10, none,.bin .xor (.t 5) (.t 9)⟩,⟨some 11, none,.nilck (.t 3)⟩,⟨none,none,.store 1 (.t 11) (.t 10)⟩] [0] []
def Jo3:IC:=.reg [⟨some 12, none,.mv (.t 0)⟩,⟨some 13, none,.nilck (.t 12)⟩,⟨some 14, none,.load false 1 (.t 13)⟩,⟨some 15, none,.mv (.t 0)⟩,⟨some 16, none,.nilck (.t 15)⟩,⟨some 17, none,.load false 1 (.t 16)⟩,⟨some 18, none,.bin .shr (.t 17) (.c (.int .u64 (7)))⟩,⟨some 19, none,.bin .xor (.t 14) (.t 18)⟩,⟨some 20, none,.nilck (.t 12)⟩,⟨none,none,.store 1 (.t 20) (.t 19)⟩] [0] []
def Jtw:IC:=.reg [⟨some 21, none,.mv (.t 0)⟩,⟨some 22, none,.nilck (.t 21)⟩,⟨some 23, none,.load false 1 (.t 22)⟩,⟨some 24, none,.mv (.t 0)⟩,⟨some 25, none,.nilck (.t 24)⟩,⟨some 26, none,.load false 1 (.t 25)⟩,⟨some 27, none,.bin .shl (.t 26) (.c (.int .u64 (17)))⟩,⟨some 28, none,.bin .xor (.t 23) (.t 27)⟩,⟨some 29, none,.nilck (.t 21)⟩,⟨none,none,.store 1 (.t 29) (.t 28)⟩] [0] []
def Jl0:IC:=.reg [⟨some 30, none,.mv (.t 0)⟩,⟨some 31, none,.nilck (.t 30)⟩,⟨some 32, none,.load false 1 (.t 31)⟩,⟨some 2, none,.asg (.t 32)⟩] [2] []
def Jam:Qbu:=⟨[.t 2],[],(.seq Jqg (.seq Jmr (.seq Jo3 (.seq Jtw (.seq Jl0 .ret)))))⟩
def Jsp:IC:=.reg [⟨some 2, none,.box (.t 0)⟩,⟨some 3, none,.box (.t 1)⟩,⟨some 4, none,.asg (.c (.slice none 0 0))⟩,⟨some 5, none,.asg (.c (.bool false))⟩] [2,3] []
def Jr4:IC:=.reg [⟨some 11, none,.load true 2 (.t 2)⟩,⟨some 12, none,.call Qs1 [(.rd,(.t 11))] true⟩,⟨some 13, none,.unop .not (.t 12)⟩,⟨some 14, none,.asg (.t 13)⟩,⟨some 15, (some (14,false)),.load true 2 (.t 3)⟩,⟨some 16, (some (14,false)),.call Qs1 [(.rd,(.t 15))] true⟩,⟨some 17, (some (14,false)),.unop .not (.t 16)⟩,⟨some 18, none,.pick (.t 14) (.c (.bool true)) (.t 17)⟩,⟨some 19, none,.asg (.t 18)⟩,⟨some 20, (some (19,false)),.fadr 0 (.t 2)⟩,⟨some 21, (some (19,false)),.load false 1 (.t 20)⟩,⟨some 22, (some (19,false)),.fadr 0 (.t 3)⟩,⟨some 23, (some (19,false)),.load false 1 (.t 22)⟩,⟨some 24, (some (19,false)),.bin .neq (.t 21) (.t 23)⟩,⟨some 25, none,.pick (.t 19) (.c (.bool true)) (.t 24)⟩,⟨some 26, none,.asg (.t 25)⟩,⟨some 27, (some (26,false)),.fadr 0 (.t 2)⟩,⟨some 28, (some (26,false)),.load false 1 (.t 27)⟩,
    ⟨some 29, (some (26,false)),.bin .gtr (.t 28) (.c (vi 5))⟩,⟨some 30, none,.pick (.t 26) (.c (.bool true)) (.t 29)⟩] [2,3,30] []
def Jpv:IC:=.reg [⟨some 4, none,.asg (.c (.slice none 0 0))⟩,⟨some 5, none,.asg (.c (.bool false))⟩] [4,5,6] []
def Jkx:IC:=.reg [⟨some 31, none,.load true 2 (.t 2)⟩,⟨some 32, none,.bsl 4 [(vi 0),(vi 0),(vi 0),(vi 0)] 0 []⟩,⟨some 33, none,.build [(vi 0),(.slice none 0 0),(.slice none 0 0)] [(0,2,(.t 31)),(2,1,(.t 32))]⟩,⟨some 34, none,.bsl 3 [(vi 0),(.slice none 0 0),(.slice none 0 0)] 1 [(0,(.t 33))]⟩,⟨some 6, none,.asg (.t 34)⟩] [3,6] []
def Jka:IC:=.reg [⟨some 7, none,.asg (.c (vi 0))⟩] [3,6,7] []
def Jp5:IC:=.reg [⟨some 35, none,.mv (.t 7)⟩,⟨some 36, none,.mv (.t 6)⟩,⟨some 37, none,.len (.t 36)⟩,⟨some 38, none,.bin .lss (.t 35) (.t 37)⟩] [3,6,7,38] []
def Jud:IC:=.reg [⟨some 41, none,.mv (.t 6)⟩,⟨some 42, none,.mv (.t 7)⟩,⟨some 43, none,.iadr 3 (.t 41) (.t 42)⟩,⟨some 44, none,.fadr 0 (.t 43)⟩,⟨some 45, none,.load true 2 (.t 44)⟩,⟨some 46, none,.load true 2 (.t 3)⟩,⟨some 47, none,.call Qsh [(.rd,(.t 45)),(.rd,(.t 46))] true⟩,⟨some 48, none,.bin .eql (.t 47) (.c (vi 0))⟩] [3,6,7,48] []
def Joy:IC:=.reg [⟨some 49, none,.mv (.t 6)⟩,⟨some 50, none,.mv (.t 7)⟩,⟨some 51, none,.iadr 3 (.t 49) (.t 50)⟩,⟨some 52, none,.fadr 2 (.t 51)⟩,⟨some 53, none,.load false 1 (.t 52)⟩,⟨some 4, none,.asg (.t 53)⟩,⟨some 5, none,.asg (.c (.bool true))⟩] [4,5,6] []
def Jmm:IC:=.reg [⟨some 54, none,.mv (.t 6)⟩,⟨some 55, none,.mv (.t 7)⟩,⟨some 56, none,.iadr 3 (.t 54) (.t 55)⟩,⟨some 57, none,.fadr 0 (.t 56)⟩,⟨some 58, none,.load true 2 (.t 57)⟩,⟨some 59, none,.call Qv3 [(.rd,(.t 58))] true⟩,⟨some 8, none,.asg (.t 59)⟩] [3,6,7,8] []
def Jk9:IC:=.reg [⟨some 9, none,.asg (.c (vi 0))⟩] [3,6,7,8,9] []
def Jec:IC:=.reg [⟨some 60, none,.mv (.t 9)⟩,⟨some 61, none,.mv (.t 8)⟩,⟨some 62, none,.len (.t 61)⟩,⟨some 63, none,.bin .lss (.t 60) (.t 62)⟩] [3,6,7,8,9,63] []
def Jei:IC:=.reg [⟨some 66, none,.mv (.t 6)⟩,⟨some 67, none,.mv (.t 7)⟩,⟨some 68, none,.iadr 3 (.t 66) (.t 67)⟩,⟨some 69, none,.fadr 0 (.t 68)⟩,⟨some 70, none,.load true 2 (.t 69)⟩,⟨some 71, none,.mv (.t 8)⟩,⟨some 72, none,.mv (.t 9)⟩,⟨some 73, none,.iadr 4 (.t 71) (.t 72)⟩,⟨some 74, none,.load true 4 (.t 73)⟩,⟨some 75, none,.call Qum [(.rd,(.t 70)),(.val,(.t 74))] true⟩,⟨some 10, none,.alloc [(vi 0),(.slice none 0 0)]⟩,⟨none,none,.storef 2 (.t 10) (.t 75)⟩] [3,6,7,8,9,10] [[0,1,2,3,4,5,6,7,8,10,9,11],[0,1,2,3,4,5,6,7,10,8,9,11],[0,1,2,3,5,6,7,8,10,4,9,11],[0,1,2,3,5,6,7,10,4,8,9,11]]
def Jgx:IC:=.reg [⟨some 76, none,.mv (.t 6)⟩,⟨some 77, none,.load true 2 (.t 10)⟩,⟨some 78, none,.call Qse [(.rd,(.t 76)),(.rd,(.t 77))] true⟩,⟨some 79, none,.bin .lss (.t 78) (.c (vi 0))⟩] [3,6,7,8,9,10,79] []
def Jd3:IC:=.regx [⟨some 80, none,.mv (.t 6)⟩,⟨some 81, none,.load true 2 (.t 10)⟩,⟨some 82, none,.bsls 4 [(vi 0),(vi 0),(vi 0),(vi 0)] 0 []⟩,⟨some 83, none,.mv (.t 6)⟩,⟨some 84, none,.mv (.t 7)⟩,⟨some 85, none,.iadr 3 (.t 83) (.t 84)⟩,⟨some 86, none,.fadr 2 (.t 85)⟩,⟨some 87, none,.load false 1 (.t 86)⟩,⟨some 88, none,.app 4 (.t 82) (.t 87)⟩,⟨some 89, none,.mv (.t 8)⟩,⟨some 90, none,.mv (.t 9)⟩,⟨some 91, none,.iadr 4 (.t 89) (.t 90)⟩,⟨some 92, none,.load true 4 (.t 91)⟩,⟨some 93, none,.bsls 4 [(vi 0),(vi 0),(vi 0),(vi 0)] 1 [(0,(.t 92))]⟩,⟨some 94, none,.app 4 (.t 88) (.t 93)⟩,⟨some 95, none,.build [(vi 0),(.slice none 0 0),(.slice none 0 0)] [(0,2,(.t 81)),(2,1,(.t 94))]⟩,⟨some 96, none,.bsl 3 [(vi 0),(.slice none 0 0),(.slice none 0 0)] 1 [(0,(.t 95))]⟩,⟨some 97, none,.app 3 (.t 80) (.t 96)⟩,
    ⟨some 6, none,.asg (.t 97)⟩] [0,1,3,4,5,6,7,9,10,11,12,2,8,13,14,15,16,17,18] [3,6,7,8,9] [80,81,82,83,84,85,86,87,88,89,90,91,92,93,94,95,96] []
def Jh2:IC:=.reg [⟨some 64, none,.mv (.t 9)⟩,⟨some 65, none,.bin .add (.t 64) (.c (vi 1))⟩,⟨some 9, none,.asg (.t 65)⟩] [3,6,7,8,9] []
def Qu8:IC:=(.seq (.seq Jec (.cond (.t 63) .skip (.exit 2))) (.seq (.block 3 (.seq Jei (.seq Jgx (.cond (.t 79) Jd3 .skip)))) Jh2))
def Jha:IC:=.reg [⟨some 39, none,.mv (.t 7)⟩,⟨some 40, none,.bin .add (.t 39) (.c (vi 1))⟩,⟨some 7, none,.asg (.t 40)⟩] [3,6,7] []
def Qxh:IC:=(.seq (.seq Jp5 (.cond (.t 38) .skip (.exit 0))) (.seq (.block 1 (.seq (.seq Jud (.cond (.t 48) (.seq Joy .ret) .skip)) (.seq Jmm (.seq Jk9 (.block 2 (.loop Qu8)))))) Jha))
def Jd0:IC:=.reg [⟨some 4, none,.asg (.c (.slice none 0 0))⟩,⟨some 5, none,.asg (.c (.bool false))⟩] [4,5,6] []
def Qmi:Qbu:=⟨[.t 4,.t 5],[],(.seq Jsp (.seq (.seq Jr4 (.cond (.t 30) (.seq Jpv .ret) .skip)) (.seq Jkx (.seq (.seq Jka (.block 0 (.loop Qxh))) (.seq Jd0 .ret)))))⟩
def Jpo:IC:=.reg [⟨some 3, none,.box (.t 0)⟩,⟨some 6, none,.alloc [(vi 0),(.slice none 0 0)]⟩] [1,2,3,6] []
def Jq4:IC:=.reg [⟨some 10, none,.mv (.t 1)⟩,⟨some 11, none,.mv (.t 2)⟩,⟨some 12, none,.minmax true (.t 10) (.t 11)⟩,⟨some 13, none,.mv (.t 1)⟩,⟨some 14, none,.mv (.t 2)⟩,⟨some 15, none,.minmax false (.t 13) (.t 14)⟩,⟨some 16, none,.build [(vi 0),(vi 0)] [(0,1,(.t 12)),(1,1,(.t 15))]⟩,⟨some 7, none,.alloc [(vi 0),(vi 0)]⟩,⟨none,none,.store 2 (.t 7) (.t 16)⟩] [3,6,7] []
def Jpw:IC:=.reg [⟨some 8, none,.asg (.c (vi 0))⟩] [3,6,7,8] []
def Juj:IC:=.reg [⟨some 17, none,.mv (.t 8)⟩,⟨some 18, none,.fadr 1 (.t 3)⟩,⟨some 19, none,.load false 1 (.t 18)⟩,⟨some 20, none,.len (.t 19)⟩,⟨some 21, none,.bin .lss (.t 17) (.t 20)⟩,⟨some 22, none,.asg (.t 21)⟩,⟨some 23, (some (22,true)),.fadr 1 (.t 3)⟩,⟨some 24, (some (22,true)),.load false 1 (.t 23)⟩,⟨some 25, (some (22,true)),.mv (.t 8)⟩,⟨some 26, (some (22,true)),.iadr 2 (.t 24) (.t 25)⟩,⟨some 27, (some (22,true)),.load true 2 (.t 26)⟩,⟨some 28, (some (22,true)),.load true 2 (.t 7)⟩,⟨some 29, (some (22,true)),.call Qsg [(.val,(.t 27)),(.val,(.t 28))] true⟩,⟨some 30, none,.pick (.t 22) (.t 29) (.c (.bool false))⟩] [3,6,7,8,30] []
def Jta:IC:=.reg [⟨some 31, none,.mv (.t 8)⟩,⟨some 32, none,.bin .add (.t 31) (.c (vi 1))⟩,⟨some 8, none,.asg (.t 32)⟩] [3,6,7,8] []
def Jdf:IC:=(.seq (.seq Juj (.cond (.t 30) .skip (.exit 0))) (.block 1 Jta))
def Jlf:IC:=.reg [⟨some 33, none,.bsl 2 [(vi 0),(vi 0)] 0 []⟩,⟨some 34, none,.fadr 1 (.t 3)⟩,⟨some 35, none,.load false 1 (.t 34)⟩,⟨some 36, none,.mv (.t 8)⟩,⟨some 37, none,.slc 2 (.t 35) none (some (.t 36)) none⟩,⟨some 38, none,.app 2 (.t 33) (.t 37)⟩,⟨some 9, none,.asg (.t 38)⟩] [3,6,7,8,9] []
def Jme:IC:=.reg [⟨some 39, none,.fadr 0 (.t 3)⟩,⟨some 40, none,.load false 1 (.t 39)⟩,⟨some 41, none,.mv (.t 9)⟩,⟨some 42, none,.load true 2 (.t 7)⟩,⟨some 43, none,.bsl 2 [(vi 0),(vi 0)] 1 [(0,(.t 42))]⟩,⟨some 44, none,.app 2 (.t 41) (.t 43)⟩,⟨some 45, none,.fadr 1 (.t 3)⟩,⟨some 46, none,.load false 1 (.t 45)⟩,⟨some 47, none,.mv (.t 8)⟩,⟨some 48, none,.slc 2 (.t 46) (some (.t 47)) none none⟩,⟨some 49, none,.app 2 (.t 44) (.t 48)⟩,⟨some 50, none,.build [(vi 0),(.slice none 0 0)] [(0,1,(.t 40)),(1,1,(.t 49))]⟩,
    ⟨none,none,.store 2 (.t 6) (.t 50)⟩] [6] [[0,1,2,3,4,6,7,5,8,9,10,11,12],[0,1,2,3,6,7,4,5,8,9,10,11,12],[0,2,3,4,1,5,6,7,8,9,10,11,12],[0,2,3,4,1,6,7,5,8,9,10,11,12],[0,2,3,6,7,4,1,5,8,9,10,11,12],[0,2,3,4,5,1,6,7,8,9,10,11,12],[0,2,3,4,5,6,7,8,9,10,1,11,12],[0,2,3,4,6,7,5,1,8,9,10,11,12],[0,2,3,4,6,7,5,8,9,10,1,11,12],[0,2,3,6,7,4,5,1,8,9,10,11,12],[0,2,3,6,7,4,5,8,9,10,1,11,12]]
def Qzr:Qbu:=⟨[.c 6 2 true],[],(.seq Jpo (.seq Jq4 (.seq Jpw (.seq (.block 0 (.loop Jdf)) (.seq Jlf (.seq Jme .ret))))))⟩
def Jrn:IC:=.reg [⟨some 2, none,.box (.t 0)⟩,⟨some 3, none,.box (.t 1)⟩,⟨some 4, none,.asg (.c (vi 0))⟩] [2,3] []
def Jmi:IC:=.reg [⟨some 5, none,.asg (.c (vi 0))⟩] [2,3,5] []
def Jly:IC:=.reg [⟨some 6, none,.asg (.c (vi 0))⟩] [2,3,5,6] []
def Jq6:IC:=.reg [⟨some 8, none,.mv (.t 6)⟩,⟨some 9, none,.fadr 1 (.t 2)⟩,⟨some 10, none,.load false 1 (.t 9)⟩,⟨some 11, none,.len (.t 10)⟩,⟨some 12, none,.bin .lss (.t 8) (.t 11)⟩] [2,3,5,6,12] []
def Jk0:IC:=.reg [⟨some 15, none,.load true 2 (.t 3)⟩,⟨some 16, none,.fadr 1 (.t 2)⟩,⟨some 17, none,.load false 1 (.t 16)⟩,⟨some 18, none,.mv (.t 6)⟩,⟨some 19, none,.iadr 2 (.t 17) (.t 18)⟩,⟨some 20, none,.fadr 0 (.t 19)⟩,⟨some 21, none,.load false 1 (.t 20)⟩,⟨some 22, none,.fadr 1 (.t 2)⟩,⟨some 23, none,.load false 1 (.t 22)⟩,⟨some 24, none,.mv (.t 6)⟩,⟨some 25, none,.iadr 2 (.t 23) (.t 24)⟩,⟨some 26, none,.fadr 1 (.t 25)⟩,⟨some 27, none,.load false 1 (.t 26)⟩,⟨some 28, none,.call Qkc [(.rd,(.t 15)),(.val,(.t 21)),(.val,(.t 27))] true⟩,⟨some 29, none,.unop .not (.t 28)⟩] [2,3,5,6,29] []
def Jng:IC:=.reg [⟨some 30, none,.mv (.t 5)⟩,⟨some 31, none,.bin .add (.t 30) (.c (vi 1))⟩,⟨some 5, none,.asg (.t 31)⟩] [2,3,5,6] []
def Jrj:IC:=.reg [⟨some 13, none,.mv (.t 6)⟩,⟨some 14, none,.bin .add (.t 13) (.c (vi 1))⟩,⟨some 6, none,.asg (.t 14)⟩] [2,3,5,6] []
def Jcu:IC:=(.seq (.seq Jq6 (.cond (.t 12) .skip (.exit 0))) (.seq (.block 1 (.seq Jk0 (.cond (.t 29) Jng .skip))) Jrj))
def Jk6:IC:=.reg [⟨some 7, none,.asg (.c (vi 0))⟩] [2,3,5,7] []
def Jsw:IC:=.reg [⟨some 32, none,.mv (.t 7)⟩,⟨some 33, none,.fadr 1 (.t 3)⟩,⟨some 34, none,.load false 1 (.t 33)⟩,⟨some 35, none,.len (.t 34)⟩,⟨some 36, none,.bin .lss (.t 32) (.t 35)⟩] [2,3,5,7,36] []
def Jgc:IC:=.reg [⟨some 39, none,.load true 2 (.t 2)⟩,⟨some 40, none,.fadr 1 (.t 3)⟩,⟨some 41, none,.load false 1 (.t 40)⟩,⟨some 42, none,.mv (.t 7)⟩,⟨some 43, none,.iadr 2 (.t 41) (.t 42)⟩,⟨some 44, none,.fadr 0 (.t 43)⟩,⟨some 45, none,.load false 1 (.t 44)⟩,⟨some 46, none,.fadr 1 (.t 3)⟩,⟨some 47, none,.load false 1 (.t 46)⟩,⟨some 48, none,.mv (.t 7)⟩,⟨some 49, none,.iadr 2 (.t 47) (.t 48)⟩,⟨some 50, none,.fadr 1 (.t 49)⟩,⟨some 51, none,.load false 1 (.t 50)⟩,⟨some 52, none,.call Qkc [(.rd,(.t 39)),(.val,(.t 45)),(.val,(.t 51))] true⟩,⟨some 53, none,.unop .not (.t 52)⟩] [2,3,5,7,53] []
def Jfb:IC:=.reg [⟨some 54, none,.mv (.t 5)⟩,⟨some 55, none,.bin .add (.t 54) (.c (vi 1))⟩,⟨some 5, none,.asg (.t 55)⟩] [2,3,5,7] []
def Je4:IC:=.reg [⟨some 37, none,.mv (.t 7)⟩,⟨some 38, none,.bin .add (.t 37) (.c (vi 1))⟩,⟨some 7, none,.asg (.t 38)⟩] [2,3,5,7] []
def Qyp:IC:=(.seq (.seq Jsw (.cond (.t 36) .skip (.exit 2))) (.seq (.block 3 (.seq Jgc (.cond (.t 53) Jfb .skip))) Je4))
def Jf2:IC:=.reg [⟨some 56, none,.mv (.t 5)⟩,⟨some 4, none,.asgm (.t 56)⟩] [4] []
def Jbr:Qbu:=⟨[.t 4],[],(.seq Jrn (.seq Jmi (.seq (.seq Jly (.block 0 (.loop Jcu))) (.seq (.seq Jk6 (.block 2 (.loop Qyp))) (.seq Jf2 .ret)))))⟩
def Jqq:IC:=.reg [⟨some 3, none,.box (.t 0)⟩,⟨some 6, none,.alloc [(vi 0),(.slice none 0 0)]⟩] [1,2,3,6] []
def Jsf:IC:=.reg [⟨some 10, none,.fadr 0 (.t 3)⟩,⟨some 11, none,.load false 1 (.t 10)⟩,⟨some 12, none,.bsl 2 [(vi 0),(vi 0)] 0 []⟩,⟨some 13, none,.build [(vi 0),(.slice none 0 0)] [(0,1,(.t 11)),(1,1,(.t 12))]⟩,⟨some 7, none,.alloc [(vi 0),(.slice none 0 0)]⟩,⟨none,none,.store 2 (.t 7) (.t 13)⟩] [1,2,3,6,7] []
def Jml:IC:=.reg [⟨some 8, none,.asg (.c (vi 0))⟩] [1,2,3,6,7,8] []
def Joc:IC:=.reg [⟨some 14, none,.mv (.t 8)⟩,⟨some 15, none,.fadr 1 (.t 3)⟩,⟨some 16, none,.load false 1 (.t 15)⟩,⟨some 17, none,.len (.t 16)⟩,⟨some 18, none,.bin .lss (.t 14) (.t 17)⟩] [1,2,3,6,7,8,18] []
def Jqm:IC:=.reg [⟨some 21, none,.fadr 1 (.t 3)⟩,⟨some 22, none,.load false 1 (.t 21)⟩,⟨some 23, none,.mv (.t 8)⟩,⟨some 24, none,.iadr 2 (.t 22) (.t 23)⟩,⟨some 25, none,.load true 2 (.t 24)⟩,⟨some 9, none,.alloc [(vi 0),(vi 0)]⟩,⟨none,none,.store 2 (.t 9) (.t 25)⟩] [1,2,3,6,7,8,9] []
def Jot:IC:=.reg [⟨some 26, none,.fadr 0 (.t 9)⟩,⟨some 27, none,.load false 1 (.t 26)⟩,⟨some 28, none,.mv (.t 1)⟩,⟨some 29, none,.mv (.t 2)⟩,⟨some 30, none,.minmax true (.t 28) (.t 29)⟩,⟨some 31, none,.bin .neq (.t 27) (.t 30)⟩,⟨some 32, none,.asg (.t 31)⟩,⟨some 33, (some (32,false)),.fadr 1 (.t 9)⟩,⟨some 34, (some (32,false)),.load false 1 (.t 33)⟩,⟨some 35, (some (32,false)),.mv (.t 1)⟩,⟨some 36, (some (32,false)),.mv (.t 2)⟩,⟨some 37, (some (32,false)),.minmax false (.t 35) (.t 36)⟩,⟨some 38, (some (32,false)),.bin .neq (.t 34) (.t 37)⟩,⟨some 39, none,.pick (.t 32) (.c (.bool true)) (.t 38)⟩] [1,2,3,6,7,8,9,39] []
def Jsz:IC:=.reg [⟨some 40, none,.fadr 1 (.t 7)⟩,⟨some 41, none,.load false 1 (.t 40)⟩,⟨some 42, none,.load true 2 (.t 9)⟩,⟨some 43, none,.bsl 2 [(vi 0),(vi 0)] 1 [(0,(.t 42))]⟩,⟨some 44, none,.app 2 (.t 41) (.t 43)⟩,⟨some 45, none,.fadr 1 (.t 7)⟩,⟨none,none,.store 1 (.t 45) (.t 44)⟩] [1,2,3,6,7,8] []
def Jqv:IC:=.reg [⟨some 19, none,.mv (.t 8)⟩,⟨some 20, none,.bin .add (.t 19) (.c (vi 1))⟩,⟨some 8, none,.asg (.t 20)⟩] [1,2,3,6,7,8] []
def Jc3:IC:=(.seq (.seq Joc (.cond (.t 18) .skip (.exit 0))) (.seq (.block 1 (.seq Jqm (.seq Jot (.cond (.t 39) Jsz .skip)))) Jqv))
def Jqh:IC:=.reg [⟨some 46, none,.load true 2 (.t 7)⟩,⟨none,none,.store 2 (.t 6) (.t 46)⟩] [6] []
def Qzg:Qbu:=⟨[.c 6 2 true],[],(.seq Jqq (.seq Jsf (.seq (.seq Jml (.block 0 (.loop Jc3))) (.seq Jqh .ret))))⟩
def Jox:IC:=.reg [⟨some 2, none,.box (.t 0)⟩,⟨some 3, none,.box (.t 1)⟩,⟨some 4, none,.asg (.c (.bool false))⟩] [2,3] []
def Jnq:IC:=.reg [⟨some 5, none,.fadr 0 (.t 2)⟩,⟨some 6, none,.load false 1 (.t 5)⟩,⟨some 7, none,.fadr 0 (.t 3)⟩,⟨some 8, none,.load false 1 (.t 7)⟩,⟨some 9, none,.bin .lss (.t 6) (.t 8)⟩,⟨some 10, none,.asg (.t 9)⟩,⟨some 11, (some (10,false)),.fadr 0 (.t 2)⟩,⟨some 12, (some (10,false)),.load false 1 (.t 11)⟩,⟨some 13, (some (10,false)),.fadr 0 (.t 3)⟩,⟨some 14, (some (10,false)),.load false 1 (.t 13)⟩,⟨some 15, (some (10,false)),.bin .eql (.t 12) (.t 14)⟩,⟨some 16, (some (10,false)),.asg (.t 15)⟩,⟨some 17, (some (16,true)),.fadr 1 (.t 2)⟩,⟨some 18, (some (16,true)),.load false 1 (.t 17)⟩,⟨some 19, (some (16,true)),.fadr 1 (.t 3)⟩,⟨some 20, (some (16,true)),.load false 1 (.t 19)⟩,⟨some 21, (some (16,true)),.bin .lss (.t 18) (.t 20)⟩,⟨some 22, (some (10,false)),.pick (.t 16) (.t 21) (.c (.bool false))⟩,⟨some 23, none,.pick (.t 10) (.c (.bool true)) (.t 22)⟩,
    ⟨some 4, none,.asg (.t 23)⟩] [4] []
def Qsr:Qbu:=⟨[.t 4],[],(.seq Jox (.seq Jnq .ret))⟩
def Jse:IC:=.reg [⟨some 3, none,.box (.t 1)⟩,⟨some 4, none,.asg (.c (vi 0))⟩] [0,3] []
def Jow:IC:=.reg [⟨some 5, none,.asg (.c (vi 0))⟩] [0,3,5] []
def Jtq:IC:=.reg [⟨some 6, none,.mv (.t 5)⟩,⟨some 7, none,.mv (.t 0)⟩,⟨some 8, none,.len (.t 7)⟩,⟨some 9, none,.bin .lss (.t 6) (.t 8)⟩] [0,3,5,9] []
def Jps:IC:=.reg [⟨some 12, none,.mv (.t 0)⟩,⟨some 13, none,.mv (.t 5)⟩,⟨some 14, none,.iadr 3 (.t 12) (.t 13)⟩,⟨some 15, none,.fadr 0 (.t 14)⟩,⟨some 16, none,.load true 2 (.t 15)⟩,⟨some 17, none,.load true 2 (.t 3)⟩,⟨some 18, none,.call Qsh [(.rd,(.t 16)),(.rd,(.t 17))] true⟩,⟨some 19, none,.bin .eql (.t 18) (.c (vi 0))⟩] [0,3,5,19] []
def Jof:IC:=.reg [⟨some 20, none,.mv (.t 5)⟩,⟨some 4, none,.asgm (.t 20)⟩] [4] []
def Jlq:IC:=.reg [⟨some 10, none,.mv (.t 5)⟩,⟨some 11, none,.bin .add (.t 10) (.c (vi 1))⟩,⟨some 5, none,.asg (.t 11)⟩] [0,3,5] []
def Jda:IC:=(.seq (.seq Jtq (.cond (.t 9) .skip (.exit 0))) (.seq (.block 1 (.seq Jps (.cond (.t 19) (.seq Jof .ret) .skip))) Jlq))
def Jj4:IC:=.reg [⟨some 4, none,.asg (.c (vi (-1)))⟩] [4] []
def Qv5:Qbu:=⟨[.t 4],[],(.seq Jse (.seq (.seq Jow (.block 0 (.loop Jda))) (.seq Jj4 .ret)))⟩
def Jtv:IC:=.reg [⟨some 3, none,.box (.t 0)⟩,⟨some 6, none,.asg (.c (.bool false))⟩] [1,2,3] []
def Jl2:IC:=.reg [⟨some 7, none,.asg (.c (vi 0))⟩] [1,2,3,7] []
def Jo9:IC:=.reg [⟨some 9, none,.mv (.t 7)⟩,⟨some 10, none,.fadr 1 (.t 3)⟩,⟨some 11, none,.load false 1 (.t 10)⟩,⟨some 12, none,.len (.t 11)⟩,⟨some 13, none,.bin .lss (.t 9) (.t 12)⟩] [1,2,3,7,13] []
def Jli:IC:=.reg [⟨some 16, none,.fadr 1 (.t 3)⟩,⟨some 17, none,.load false 1 (.t 16)⟩,⟨some 18, none,.mv (.t 7)⟩,⟨some 19, none,.iadr 2 (.t 17) (.t 18)⟩,⟨some 20, none,.load true 2 (.t 19)⟩,⟨some 8, none,.alloc [(vi 0),(vi 0)]⟩,⟨none,none,.store 2 (.t 8) (.t 20)⟩] [1,2,3,7,8] []
def Qh6:IC:=.reg [⟨some 21, none,.fadr 0 (.t 8)⟩,⟨some 22, none,.load false 1 (.t 21)⟩,⟨some 23, none,.mv (.t 1)⟩,⟨some 24, none,.bin .eql (.t 22) (.t 23)⟩,⟨some 25, none,.asg (.t 24)⟩,⟨some 26, (some (25,true)),.fadr 1 (.t 8)⟩,⟨some 27, (some (25,true)),.load false 1 (.t 26)⟩,⟨some 28, (some (25,true)),.mv (.t 2)⟩,⟨some 29, (some (25,true)),.bin .eql (.t 27) (.t 28)⟩,⟨some 30, none,.pick (.t 25) (.t 29) (.c (.bool false))⟩,⟨some 31, none,.asg (.t 30)⟩,⟨some 32, (some (31,false)),.fadr 0 (.t 8)⟩,⟨some 33, (some (31,false)),.load false 1 (.t 32)⟩,⟨some 34, (some (31,false)),.mv (.t 2)⟩,⟨some 35, (some (31,false)),.bin .eql (.t 33) (.t 34)⟩,⟨some 36, (some (31,false)),.asg (.t 35)⟩,⟨some 37, (some (36,true)),.fadr 1 (.t 8)⟩,⟨some 38, (some (36,true)),.load false 1 (.t 37)⟩,⟨some 39, (some (36,true)),.mv (.t 1)⟩,⟨some 40, (some (36,true)),.bin .eql (.t 38) (.t 39)⟩,
    ⟨some 41, (some (31,false)),.pick (.t 36) (.t 40) (.c (.bool false))⟩,⟨some 42, none,.pick (.t 31) (.c (.bool true)) (.t 41)⟩] [1,2,3,7,42] []
def Jl4:IC:=.reg [⟨some 6, none,.asg (.c (.bool true))⟩] [6] []
def Jlu:IC:=.reg [⟨some 14, none,.mv (.t 7)⟩,⟨some 15, none,.bin .add (.t 14) (.c (vi 1))⟩,⟨some 7, none,.asg (.t 15)⟩] [1,2,3,7] []
def Jcx:IC:=(.seq (.seq Jo9 (.cond (.t 13) .skip (.exit 0))) (.seq (.block 1 (.seq Jli (.seq Qh6 (.cond (.t 42) (.seq Jl4 .ret) .skip)))) Jlu))
def Jku:IC:=.reg [⟨some 6, none,.asg (.c (.bool false))⟩] [6] []
def Qvr:Qbu:=⟨[.t 6],[],(.seq Jtv (.seq (.seq Jl2 (.block 0 (.loop Jcx))) (.seq Jku .ret)))⟩
def Jo8:IC:=.reg [⟨some 6, none,.asg (.c (.bool false))⟩] [0,1,2] []
def Js0:IC:=.reg [⟨some 7, none,.mv (.t 1)⟩,⟨some 8, none,.mv (.t 0)⟩,⟨some 9, none,.bin .leq (.t 7) (.t 8)⟩,⟨some 10, none,.asg (.t 9)⟩,⟨some 11, (some (10,true)),.mv (.t 0)⟩,⟨some 12, (some (10,true)),.mv (.t 2)⟩,⟨some 13, (some (10,true)),.bin .leq (.t 11) (.t 12)⟩,⟨some 14, none,.pick (.t 10) (.t 13) (.c (.bool false))⟩,⟨some 6, none,.asg (.t 14)⟩] [6] []
def Qw3:Qbu:=⟨[.t 6],[],(.seq Jo8 (.seq Js0 .ret))⟩
def Jqc:IC:=.reg [⟨some 2, none,.box (.t 0)⟩,⟨some 3, none,.box (.t 1)⟩,⟨some 4, none,.asg (.c (.bool false))⟩] [2,3] []
def Jo6:IC:=.reg [⟨some 5, none,.fadr 0 (.t 3)⟩,⟨some 6, none,.load false 1 (.t 5)⟩,⟨some 7, none,.fadr 2 (.t 3)⟩,⟨some 8, none,.load false 1 (.t 7)⟩,⟨some 9, none,.bin .neq (.t 6) (.t 8)⟩,⟨some 10, none,.asg (.t 9)⟩,⟨some 11, (some (10,true)),.fadr 1 (.t 3)⟩,⟨some 12, (some (10,true)),.load false 1 (.t 11)⟩,⟨some 13, (some (10,true)),.fadr 3 (.t 3)⟩,⟨some 14, (some (10,true)),.load false 1 (.t 13)⟩,⟨some 15, (some (10,true)),.bin .neq (.t 12) (.t 14)⟩,⟨some 16, none,.pick (.t 10) (.t 15) (.c (.bool false))⟩,⟨some 17, none,.asg (.t 16)⟩,⟨some 18, (some (17,true)),.fadr 0 (.t 3)⟩,⟨some 19, (some (17,true)),.load false 1 (.t 18)⟩,⟨some 20, (some (17,true)),.fadr 3 (.t 3)⟩,⟨some 21, (some (17,true)),.load false 1 (.t 20)⟩,⟨some 22, (some (17,true)),.bin .neq (.t 19) (.t 21)⟩,⟨some 23, none,.pick (.t 17) (.t 22) (.c (.bool false))⟩,⟨some 24, none,.asg (.t 23)⟩,
    ⟨some 25, (some (24,true)),.fadr 1 (.t 3)⟩,⟨some 26, (some (24,true)),.load false 1 (.t 25)⟩,⟨some 27, (some (24,true)),.fadr 2 (.t 3)⟩,⟨some 28, (some (24,true)),.load false 1 (.t 27)⟩,⟨some 29, (some (24,true)),.bin .neq (.t 26) (.t 28)⟩,⟨some 30, none,.pick (.t 24) (.t 29) (.c (.bool false))⟩,⟨some 31, none,.asg (.t 30)⟩,⟨some 32, (some (31,true)),.load true 2 (.t 2)⟩,⟨some 33, (some (31,true)),.fadr 0 (.t 3)⟩,⟨some 34, (some (31,true)),.load false 1 (.t 33)⟩,⟨some 35, (some (31,true)),.fadr 1 (.t 3)⟩,⟨some 36, (some (31,true)),.load false 1 (.t 35)⟩,⟨some 37, (some (31,true)),.call Qkc [(.rd,(.t 32)),(.val,(.t 34)),(.val,(.t 36))] true⟩,⟨some 38, none,.pick (.t 31) (.t 37) (.c (.bool false))⟩,⟨some 39, none,.asg (.t 38)⟩,⟨some 40, (some (39,true)),.load true 2 (.t 2)⟩,⟨some 41, (some (39,true)),.fadr 2 (.t 3)⟩,⟨some 42, (some (39,true)),.load false 1 (.t 41)⟩,
    ⟨some 43, (some (39,true)),.fadr 3 (.t 3)⟩,⟨some 44, (some (39,true)),.load false 1 (.t 43)⟩,⟨some 45, (some (39,true)),.call Qkc [(.rd,(.t 40)),(.val,(.t 42)),(.val,(.t 44))] true⟩,⟨some 46, none,.pick (.t 39) (.t 45) (.c (.bool false))⟩,⟨some 47, none,.asg (.t 46)⟩,⟨some 48, (some (47,true)),.load true 2 (.t 2)⟩,⟨some 49, (some (47,true)),.fadr 0 (.t 3)⟩,⟨some 50, (some (47,true)),.load false 1 (.t 49)⟩,⟨some 51, (some (47,true)),.fadr 2 (.t 3)⟩,⟨some 52, (some (47,true)),.load false 1 (.t 51)⟩,⟨some 53, (some (47,true)),.call Qkc [(.rd,(.t 48)),(.val,(.t 50)),(.val,(.t 52))] true⟩,⟨some 54, (some (47,true)),.unop .not (.t 53)⟩,⟨some 55, none,.pick (.t 47) (.t 54) (.c (.bool false))⟩,⟨some 56, none,.asg (.t 55)⟩,⟨some 57, (some (56,true)),.load true 2 (.t 2)⟩,⟨some 58, (some (56,true)),.fadr 1 (.t 3)⟩,⟨some 59, (some (56,true)),.load false 1 (.t 58)⟩,
    ⟨some 60, (some (56,true)),.fadr 3 (.t 3)⟩,⟨some 61, (some (56,true)),.load false 1 (.t 60)⟩,⟨some 62, (some (56,true)),.call Qkc [(.rd,(.t 57)),(.val,(.t 59)),(.val,(.t 61))] true⟩,⟨some 63, (some (56,true)),.unop .not (.t 62)⟩,⟨some 64, none,.pick (.t 56) (.t 63) (.c (.bool false))⟩,⟨some 4, none,.asg (.t 64)⟩] [4] []
def Qj1:Qbu:=⟨[.t 4],[],(.seq Jqc (.seq Jo6 .ret))⟩
def Jqb:IC:=.reg [⟨some 2, none,.box (.t 0)⟩,⟨some 3, none,.box (.t 1)⟩,⟨some 4, none,.alloc [(vi 0),(.slice none 0 0)]⟩] [2,3,4] []
def Jpj:IC:=.regd [⟨some 5, none,.load true 2 (.t 2)⟩,⟨some 6, none,.fadr 0 (.t 3)⟩,⟨some 7, none,.load false 1 (.t 6)⟩,⟨some 8, none,.fadr 1 (.t 3)⟩,⟨some 9, none,.load false 1 (.t 8)⟩,⟨some 10, none,.callq Qry [(.rv,(.t 5)),(.val,(.t 7)),(.val,(.t 9))]⟩,⟨some 11, none,.fadr 2 (.t 3)⟩,⟨some 12, none,.load false 1 (.t 11)⟩,⟨some 13, none,.fadr 3 (.t 3)⟩,⟨some 14, none,.load false 1 (.t 13)⟩,⟨some 15, none,.callq Qry [(.rv,(.t 10)),(.val,(.t 12)),(.val,(.t 14))]⟩,⟨some 16, none,.fadr 0 (.t 3)⟩,⟨some 17, none,.load false 1 (.t 16)⟩,⟨some 18, none,.fadr 2 (.t 3)⟩,⟨some 19, none,.load false 1 (.t 18)⟩,⟨some 20, none,.callq Qru [(.rv,(.t 15)),(.val,(.t 17)),(.val,(.t 19))]⟩,⟨some 21, none,.fadr 1 (.t 3)⟩,⟨some 22, none,.load false 1 (.t 21)⟩,⟨some 23, none,.fadr 3 (.t 3)⟩,⟨some 24, none,.load false 1 (.t 23)⟩,
    ⟨some 25, none,.callq Qru [(.rv,(.t 20)),(.val,(.t 22)),(.val,(.t 24))]⟩,⟨none,none,.store 2 (.t 4) (.t 25)⟩] [0,1,2,3,4,6,7,8,9,11,12,13,14,16,17,18,19,5,10,15,20,21] [4] []
def Jav:Qbu:=⟨[.c 4 2 true],[],(.seq Jqb (.seq Jpj .ret))⟩
def Jj6:IC:=.reg [⟨some 1, none,.box (.t 0)⟩,⟨some 2, none,.asg (.c (.slice none 0 0))⟩] [1] []
def Jpp:IC:=.reg [⟨some 10, none,.bsl 4 [(vi 0),(vi 0),(vi 0),(vi 0)] 0 []⟩,⟨some 3, none,.asg (.t 10)⟩] [1,3] []
def Jrq:IC:=.reg [⟨some 4, none,.asg (.c (vi 0))⟩] [1,3,4] []
def Jss:IC:=.reg [⟨some 11, none,.mv (.t 4)⟩,⟨some 12, none,.fadr 1 (.t 1)⟩,⟨some 13, none,.load false 1 (.t 12)⟩,⟨some 14, none,.len (.t 13)⟩,⟨some 15, none,.bin .lss (.t 11) (.t 14)⟩] [1,3,4,15] []
def Jms:IC:=.reg [⟨some 18, none,.mv (.t 4)⟩,⟨some 19, none,.bin .add (.t 18) (.c (vi 1))⟩,⟨some 5, none,.asg (.t 19)⟩] [1,3,4,5] []
def Jt6:IC:=.reg [⟨some 20, none,.mv (.t 5)⟩,⟨some 21, none,.fadr 1 (.t 1)⟩,⟨some 22, none,.load false 1 (.t 21)⟩,⟨some 23, none,.len (.t 22)⟩,⟨some 24, none,.bin .lss (.t 20) (.t 23)⟩] [1,3,4,5,24] []
def Jnb:IC:=.reg [⟨some 27, none,.fadr 1 (.t 1)⟩,⟨some 28, none,.load false 1 (.t 27)⟩,⟨some 29, none,.mv (.t 4)⟩,⟨some 30, none,.iadr 2 (.t 28) (.t 29)⟩,⟨some 31, none,.load true 2 (.t 30)⟩,⟨some 6, none,.alloc [(vi 0),(vi 0)]⟩,⟨none,none,.store 2 (.t 6) (.t 31)⟩] [1,3,4,5,6] []
def Jn3:IC:=.reg [⟨some 32, none,.fadr 1 (.t 1)⟩,⟨some 33, none,.load false 1 (.t 32)⟩,⟨some 34, none,.mv (.t 5)⟩,⟨some 35, none,.iadr 2 (.t 33) (.t 34)⟩,⟨some 36, none,.load true 2 (.t 35)⟩,⟨some 7, none,.alloc [(vi 0),(vi 0)]⟩,⟨none,none,.store 2 (.t 7) (.t 36)⟩] [1,3,4,5,6,7] []
def Jpq:IC:=.reg [⟨some 37, none,.fadr 0 (.t 6)⟩,⟨some 38, none,.load false 1 (.t 37)⟩,⟨some 39, none,.fadr 1 (.t 6)⟩,⟨some 40, none,.load false 1 (.t 39)⟩,⟨some 41, none,.fadr 0 (.t 7)⟩,⟨some 42, none,.load false 1 (.t 41)⟩,⟨some 43, none,.fadr 1 (.t 7)⟩,⟨some 44, none,.load false 1 (.t 43)⟩,⟨some 45, none,.build [(vi 0),(vi 0),(vi 0),(vi 0)] [(0,1,(.t 38)),(1,1,(.t 40)),(2,1,(.t 42)),(3,1,(.t 44))]⟩,⟨some 8, none,.alloc [(vi 0),(vi 0),(vi 0),(vi 0)]⟩,⟨none,none,.store 4 (.t 8) (.t 45)⟩] [1,3,4,5,6,7,8] []
def Jsl:IC:=.reg [⟨some 46, none,.fadr 0 (.t 6)⟩,⟨some 47, none,.load false 1 (.t 46)⟩,⟨some 48, none,.fadr 1 (.t 6)⟩,⟨some 49, none,.load false 1 (.t 48)⟩,⟨some 50, none,.fadr 1 (.t 7)⟩,⟨some 51, none,.load false 1 (.t 50)⟩,⟨some 52, none,.fadr 0 (.t 7)⟩,⟨some 53, none,.load false 1 (.t 52)⟩,⟨some 54, none,.build [(vi 0),(vi 0),(vi 0),(vi 0)] [(0,1,(.t 47)),(1,1,(.t 49)),(2,1,(.t 51)),(3,1,(.t 53))]⟩,⟨some 9, none,.alloc [(vi 0),(vi 0),(vi 0),(vi 0)]⟩,⟨none,none,.store 4 (.t 9) (.t 54)⟩] [1,3,4,5,8,9] []
def Jhy:IC:=.reg [⟨some 55, none,.load true 2 (.t 1)⟩,⟨some 56, none,.load true 4 (.t 8)⟩,⟨some 57, none,.call Qr9 [(.rd,(.t 55)),(.val,(.t 56))] true⟩] [1,3,4,5,8,9,57] []
def Jim:IC:=.reg [⟨some 58, none,.mv (.t 3)⟩,⟨some 59, none,.load true 4 (.t 8)⟩,⟨some 60, none,.bsl 4 [(vi 0),(vi 0),(vi 0),(vi 0)] 1 [(0,(.t 59))]⟩,⟨some 61, none,.app 4 (.t 58) (.t 60)⟩,⟨some 3, none,.asg (.t 61)⟩] [1,3,4,5,9] []
def Jhr:IC:=.reg [⟨some 62, none,.load true 2 (.t 1)⟩,⟨some 63, none,.load true 4 (.t 9)⟩,⟨some 64, none,.call Qr9 [(.rd,(.t 62)),(.val,(.t 63))] true⟩] [1,3,4,5,9,64] []
def Jdw:IC:=.reg [⟨some 65, none,.mv (.t 3)⟩,⟨some 66, none,.load true 4 (.t 9)⟩,⟨some 67, none,.bsl 4 [(vi 0),(vi 0),(vi 0),(vi 0)] 1 [(0,(.t 66))]⟩,⟨some 68, none,.app 4 (.t 65) (.t 67)⟩,⟨some 3, none,.asg (.t 68)⟩] [1,3,4,5] []
def Jgm:IC:=.reg [⟨some 25, none,.mv (.t 5)⟩,⟨some 26, none,.bin .add (.t 25) (.c (vi 1))⟩,⟨some 5, none,.asg (.t 26)⟩] [1,3,4,5] []
def Qvu:IC:=(.seq (.seq Jt6 (.cond (.t 24) .skip (.exit 2))) (.seq (.block 3 (.seq Jnb (.seq Jn3 (.seq Jpq (.seq Jsl (.seq (.seq Jhy (.cond (.t 57) Jim .skip)) (.seq Jhr (.cond (.t 64) Jdw .skip)))))))) Jgm))
def Jf3:IC:=.reg [⟨some 16, none,.mv (.t 4)⟩,⟨some 17, none,.bin .add (.t 16) (.c (vi 1))⟩,⟨some 4, none,.asg (.t 17)⟩] [1,3,4] []
def Qwq:IC:=(.seq (.seq Jss (.cond (.t 15) .skip (.exit 0))) (.seq (.block 1 (.seq Jms (.block 2 (.loop Qvu)))) Jf3))
def Jeu:IC:=.reg [⟨some 69, none,.mv (.t 3)⟩,⟨some 2, none,.asgm (.t 69)⟩] [2,3] []
def Jab:Qbu:=⟨[.t 2],[],(.seq Jj6 (.seq Jpp (.seq (.seq Jrq (.block 0 (.loop Qwq))) (.seq Jeu .ret))))⟩
def Jo2:IC:=.reg [⟨some 1, none,.box (.t 0)⟩,⟨some 2, none,.asg (.c (.bool false))⟩] [1] []
def Js9:IC:=.reg [⟨some 3, none,.asg (.c (vi 0))⟩] [1,3] []
def Jlw:IC:=.reg [⟨some 5, none,.mv (.t 3)⟩,⟨some 6, none,.fadr 1 (.t 1)⟩,⟨some 7, none,.load false 1 (.t 6)⟩,⟨some 8, none,.len (.t 7)⟩,⟨some 9, none,.bin .lss (.t 5) (.t 8)⟩] [1,3,9] []
def Jk7:IC:=.reg [⟨some 12, none,.fadr 1 (.t 1)⟩,⟨some 13, none,.load false 1 (.t 12)⟩,⟨some 14, none,.mv (.t 3)⟩,⟨some 15, none,.iadr 2 (.t 13) (.t 14)⟩,⟨some 16, none,.load true 2 (.t 15)⟩,⟨some 4, none,.alloc [(vi 0),(vi 0)]⟩,⟨none,none,.store 2 (.t 4) (.t 16)⟩] [1,3,4] []
def Jpy:IC:=.reg [⟨some 17, none,.fadr 0 (.t 4)⟩,⟨some 18, none,.load false 1 (.t 17)⟩,⟨some 19, none,.bin .lss (.t 18) (.c (vi 0))⟩,⟨some 20, none,.asg (.t 19)⟩,⟨some 21, (some (20,false)),.fadr 0 (.t 4)⟩,⟨some 22, (some (20,false)),.load false 1 (.t 21)⟩,⟨some 23, (some (20,false)),.fadr 1 (.t 4)⟩,⟨some 24, (some (20,false)),.load false 1 (.t 23)⟩,⟨some 25, (some (20,false)),.bin .geq (.t 22) (.t 24)⟩,⟨some 26, none,.pick (.t 20) (.c (.bool true)) (.t 25)⟩,⟨some 27, none,.asg (.t 26)⟩,⟨some 28, (some (27,false)),.fadr 1 (.t 4)⟩,⟨some 29, (some (27,false)),.load false 1 (.t 28)⟩,⟨some 30, (some (27,false)),.fadr 0 (.t 1)⟩,⟨some 31, (some (27,false)),.load false 1 (.t 30)⟩,⟨some 32, (some (27,false)),.bin .geq (.t 29) (.t 31)⟩,⟨some 33, none,.pick (.t 27) (.c (.bool true)) (.t 32)⟩,⟨some 34, none,.asg (.t 33)⟩,⟨some 35, (some (34,false)),.mv (.t 3)⟩,
    ⟨some 36, (some (34,false)),.bin .gtr (.t 35) (.c (vi 0))⟩,⟨some 37, (some (34,false)),.asg (.t 36)⟩,⟨some 38, (some (37,true)),.fadr 1 (.t 1)⟩,⟨some 39, (some (37,true)),.load false 1 (.t 38)⟩,⟨some 40, (some (37,true)),.mv (.t 3)⟩,⟨some 41, (some (37,true)),.bin .sub (.t 40) (.c (vi 1))⟩,⟨some 42, (some (37,true)),.iadr 2 (.t 39) (.t 41)⟩,⟨some 43, (some (37,true)),.load true 2 (.t 42)⟩,⟨some 44, (some (37,true)),.load true 2 (.t 4)⟩,⟨some 45, (some (37,true)),.call Qsg [(.val,(.t 43)),(.val,(.t 44))] true⟩,⟨some 46, (some (37,true)),.unop .not (.t 45)⟩,⟨some 47, (some (34,false)),.pick (.t 37) (.t 46) (.c (.bool false))⟩,⟨some 48, none,.pick (.t 34) (.c (.bool true)) (.t 47)⟩] [1,3,48] []
def Jua:IC:=.reg [⟨some 2, none,.asg (.c (.bool false))⟩] [2] []
def Js2:IC:=.reg [⟨some 10, none,.mv (.t 3)⟩,⟨some 11, none,.bin .add (.t 10) (.c (vi 1))⟩,⟨some 3, none,.asg (.t 11)⟩] [1,3] []
def Jc0:IC:=(.seq (.seq Jlw (.cond (.t 9) .skip (.exit 0))) (.seq (.block 1 (.seq Jk7 (.seq Jpy (.cond (.t 48) (.seq Jua .ret) .skip)))) Js2))
def Jnp:IC:=.reg [⟨some 49, none,.fadr 0 (.t 1)⟩,⟨some 50, none,.load false 1 (.t 49)⟩,⟨some 51, none,.call Qvx [(.val,(.t 50)),(.val,(.c (vi 0))),(.val,(.c (vi 7)))] true⟩,⟨some 2, none,.asg (.t 51)⟩] [2] []
def Qxb:Qbu:=⟨[.t 2],[],(.seq Jo2 (.seq (.seq Js9 (.block 0 (.loop Jc0))) (.seq Jnp .ret)))⟩
def tbl:List (Nat×Qbu):=[(Qta,Qmb),(Qr8,Qj4),(Qnb,Qzx),(Qs4,Qyc),(Qvz,Qvn),(Qlj,Qo5),(Qtd,Jaw),(Qui,Qkb),(Jf0,Jmv),(Qx8,Qpx),(Qw2,Jal),(Qy0,Jq3),(Jba,Ju2),(Jpt,Jkl),(Qv4,Jcf),(Qyl,Qp3),(Jo7,Juu),(Jq7,Jvj),(Jj1,Jvc),(Qw9,Qz4),(Qnf,Qw4),(Qo0,Jas),(Jkr,Jvm),(Jj2,Ju7),(Qs0,Jbv),(Jjs,Joj),(Jed,Jqe),(Jnh,Ju0),(Jlx,Ju8),(Qtj,Jvp),(Jjx,Jup),(Jkm,Jus),(Qu2,Jby),(Qph,Qs3),(Qsy,Qtw),(Qxq,Qtp),(Qxm,Qzl),(Quh,Quv),(Qwz,Qrz),(Qup,Quq),(Qsc,Qyt),(Qvv,Qxc),(Qyw,Qz7),(Qs9,Jb7),(Qs6,Qz6),(Qxr,Qu3),(Qso,Quf),(Qwh,Jb9),(Jtt,Juk),(Qnp,Qv2),(Qss,Qxe),(Qrx,Qw5),(Qlp,Qn5),(Qwr,Jam),(Qon,Qmi),(Qru,Qzr),(Qsh,Jbr),(Qry,Qzg),(Qsg,Qsr),(Qse,Qv5),(Qkc,Qvr),(Qvx,Qw3),(Qr9,Qj1),(Qum,Jav),(Qv3,Jab),(Qs1,Qxb)]
def tb:Tbl:=Jur tbl
theorem Qte:tb Qta=some Qmb:=by kernel_rfl
theorem Qo9:tb Qr8=some Qj4:=by kernel_rfl
theorem Jyj:tb Qnb=some Qzx:=by kernel_rfl
theorem Jpb:tb Qs4=some Qyc:=by kernel_rfl
theorem Jrr:tb Qvz=some Qvn:=by kernel_rfl
theorem Ja4:tb Qlj=some Qo5:=by kernel_rfl
theorem Jyd:tb Qtd=some Jaw:=by kernel_rfl
theorem Qo2:tb Qui=some Qkb:=by kernel_rfl
theorem zt26:tb Jf0=some Jmv:=by kernel_rfl
theorem Qzy:tb Qx8=some Qpx:=by kernel_rfl
theorem zt204:tb Qw2=some Jal:=by kernel_rfl
theorem zt32:tb Qy0=some Jq3:=by kernel_rfl
theorem zt36:tb Jba=some Ju2:=by kernel_rfl
theorem zt38:tb Jpt=some Jkl:=by kernel_rfl
theorem Jyq:tb Qv4=some Jcf:=by kernel_rfl
theorem Jan:tb Qyl=some Qp3:=by kernel_rfl
theorem zt48:tb Jo7=some Juu:=by kernel_rfl
theorem zt49:tb Jq7=some Jvj:=by kernel_rfl
theorem zt50:tb Jj1=some Jvc:=by kernel_rfl
theorem Jvz:tb Qw9=some Qz4:=by kernel_rfl
theorem Jqx:tb Qnf=some Qw4:=by kernel_rfl
theorem Jzy:tb Qo0=some Jas:=by kernel_rfl
theorem zt56:tb Jkr=some Jvm:=by kernel_rfl
theorem zt57:tb Jj2=some Ju7:=by kernel_rfl
theorem Jxf:tb Qs0=some Jbv:=by kernel_rfl
theorem zt60:tb Jjs=some Joj:=by kernel_rfl
theorem zt61:tb Jed=some Jqe:=by kernel_rfl
theorem zt62:tb Jnh=some Ju0:=by kernel_rfl
theorem zt63:tb Jlx=some Ju8:=by kernel_rfl
theorem zt64:tb Qtj=some Jvp:=by kernel_rfl
theorem zt66:tb Jjx=some Jup:=by kernel_rfl
theorem zt68:tb Jkm=some Jus:=by kernel_rfl
theorem Jw0:tb Qu2=some Jby:=by kernel_rfl
theorem Ji8:tb Qph=some Qs3:=by kernel_rfl
theorem Jp1:tb Qsy=some Qtw:=by kernel_rfl
theorem Jsy:tb Qxq=some Qtp:=by kernel_rfl
theorem Jxn:tb Qxm=some Qzl:=by kernel_rfl
theorem Jo1:tb Quh=some Quv:=by kernel_rfl
theorem Jri:tb Qwz=some Qrz:=by kernel_rfl
theorem Jws:tb Qup=some Quq:=by kernel_rfl
theorem Jz8:tb Qsc=some Qyt:=by kernel_rfl
theorem zt269:tb Qvv=some Qxc:=by kernel_rfl
theorem Jzh:tb Qyw=some Qz7:=by kernel_rfl
theorem zt272:tb Qs9=some Jb7:=by kernel_rfl
theorem Jxa:tb Qs6=some Qz6:=by kernel_rfl
theorem Jmf:tb Qxr=some Qu3:=by kernel_rfl
theorem Jrz:tb Qso=some Quf:=by kernel_rfl
theorem Jvw:tb Qwh=some Jb9:=by kernel_rfl
theorem zt91:tb Jtt=some Juk:=by kernel_rfl
theorem Jq5:tb Qnp=some Qv2:=by kernel_rfl
theorem Jzk:tb Qss=some Qxe:=by kernel_rfl
theorem Jzp:tb Qrx=some Qw5:=by kernel_rfl
theorem zt285:tb Qlp=some Qn5:=by kernel_rfl
theorem Jzq:tb Qwr=some Jam:=by kernel_rfl
theorem Qsm:tb Qon=some Qmi:=by kernel_rfl
theorem Jyw:tb Qru=some Qzr:=by kernel_rfl
theorem Jy8:tb Qsh=some Jbr:=by kernel_rfl
theorem Jxx:tb Qry=some Qzg:=by kernel_rfl
theorem Jfj:tb Qsg=some Qsr:=by kernel_rfl
theorem Jwg:tb Qse=some Qv5:=by kernel_rfl
theorem Jzi:tb Qkc=some Qvr:=by kernel_rfl
theorem Jwz:tb Qvx=some Qw3:=by kernel_rfl
theorem Qnu:tb Qr9=some Qj1:=by kernel_rfl
theorem zt383:tb Qum=some Jav:=by kernel_rfl
theorem Jv3:tb Qv3=some Jab:=by kernel_rfl
theorem Jwp:tb Qs1=some Qxb:=by kernel_rfl
end Go.Idl
