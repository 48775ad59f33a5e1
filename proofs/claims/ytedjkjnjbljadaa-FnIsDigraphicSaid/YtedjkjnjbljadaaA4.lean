/- Part 4 of a proof by an ideal interpreter of the code: its definitions and lemmas. Conditions: none. -/
import Derived.KernelRfl
import Derived.Test.YtedjkjnjbljadaaA3
set_option linter.all false
set_option linter.unusedVariables false
set_option linter.unusedSimpArgs false
namespace Go.Idl
open Go
abbrev vi (n:Int):Value:=.int .i64 n
abbrev zl2:Lab:=2
abbrev zl4:Lab:=4
abbrev zl7:Lab:=7
abbrev zl8:Lab:=8
abbrev zl10:Lab:=10
abbrev zl18:Lab:=18
abbrev zl19:Lab:=19
abbrev zl25:Lab:=25
abbrev zl29:Lab:=29
abbrev zl30:Lab:=30
abbrev zl31:Lab:=31
abbrev zl33:Lab:=33
abbrev zl34:Lab:=34
abbrev zl35:Lab:=35
abbrev zl37:Lab:=37
abbrev zl38:Lab:=38
abbrev zl40:Lab:=40
abbrev zl41:Lab:=41
abbrev zl66:Lab:=66
abbrev zl67:Lab:=67
abbrev zl68:Lab:=68
abbrev zl70:Lab:=70
abbrev zl71:Lab:=71
abbrev zl72:Lab:=72
abbrev zl73:Lab:=73
abbrev zl75:Lab:=75
abbrev zl76:Lab:=76
abbrev zl78:Lab:=78
abbrev zl80:Lab:=80
abbrev zl82:Lab:=82
abbrev zl84:Lab:=84
abbrev zl86:Lab:=86
abbrev zl95:Lab:=95
abbrev zl98:Lab:=98
abbrev zl99:Lab:=99
abbrev zl101:Lab:=101
abbrev zl103:Lab:=103
abbrev zl132:Lab:=132
abbrev zl135:Lab:=135
abbrev zl137:Lab:=137
abbrev zl139:Lab:=139
abbrev zl140:Lab:=140
abbrev zl165:Lab:=165
abbrev zl176:Lab:=176
abbrev zl179:Lab:=179
abbrev zl180:Lab:=180
abbrev zl181:Lab:=181
abbrev zl200:Lab:=200
abbrev zl215:Lab:=215
abbrev zl307:Lab:=307
abbrev zl318:Lab:=318
abbrev zl331:Lab:=331
abbrev zl337:Lab:=337
abbrev zl338:Lab:=338
abbrev zl356:Lab:=356
abbrev zl371:Lab:=371
abbrev zl382:Lab:=382
abbrev zl385:Lab:=385
abbrev zl388:Lab:=388
abbrev zl412:Lab:=412
abbrev zl413:Lab:=413
abbrev zl434:Lab:=434
def z2r0:IC:=.reg [⟨some 4, none,.asg (.c (.bool false))⟩] [0,1] []
def z2r1:IC:=.reg [⟨some 5, none,.mv (.t 0)⟩,⟨some 6, none,.call zl4 [(.val,(.t 5))] true⟩,⟨some 7, none,.asg (.t 6)⟩,⟨some 8, (some (7,true)),.mv (.t 1)⟩,⟨some 9, (some (7,true)),.call zl4 [(.val,(.t 8))] true⟩,⟨some 10, (some (7,true)),.unop .not (.t 9)⟩,⟨some 11, none,.pick (.t 7) (.t 10) (.c (.bool false))⟩,⟨some 12, none,.asg (.t 11)⟩,⟨some 13, (some (12,false)),.mv (.t 0)⟩,⟨some 14, (some (12,false)),.mv (.t 1)⟩,⟨some 15, (some (12,false)),.bin .lss (.t 13) (.t 14)⟩,⟨some 16, none,.pick (.t 12) (.c (.bool true)) (.t 15)⟩,⟨some 4, none,.asg (.t 16)⟩] [4] []
def zi2:IFun:=⟨[.t 4],[],(.seq z2r0 (.seq z2r1 .ret))⟩
def z4r0:IC:=.reg [⟨some 2, none,.asg (.c (.bool false))⟩] [0] []
def z4r1:IC:=.reg [⟨some 3, none,.mv (.t 0)⟩,⟨some 4, none,.mv (.t 0)⟩,⟨some 5, none,.bin .neq (.t 3) (.t 4)⟩,⟨some 2, none,.asg (.t 5)⟩] [2] []
def zi4:IFun:=⟨[.t 2],[],(.seq z4r0 (.seq z4r1 .ret))⟩
def z7r0:IC:=.reg [⟨some 2, none,.asg (.c (vi 0))⟩] [0] []
def z7r1:IC:=.reg [⟨some 3, none,.mv (.t 0)⟩,⟨some 4, none,.call zl18 [(.rd,(.t 3))] true⟩,⟨some 5, none,.call zl73 [(.rd,(.t 4)),(.val,(.f zl8))] false⟩,⟨some 6, none,.bin .add (.t 5) (.c (vi 1))⟩,⟨some 2, none,.asg (.t 6)⟩] [2] []
def zi7:IFun:=⟨[.t 2],[],(.seq z7r0 (.seq z7r1 .ret))⟩
def z8r0:IC:=.reg [⟨some 2, none,.asg (.c (.bool false))⟩] [0] []
def z8r1:IC:=.reg [⟨some 3, none,.mv (.t 0)⟩,⟨some 4, none,.bin .lss (.t 3) (.c (vi 0))⟩,⟨some 2, none,.asg (.t 4)⟩] [2] []
def zi8:IFun:=⟨[.t 2],[],(.seq z8r0 (.seq z8r1 .ret))⟩
def z165r0:IC:=.reg [⟨some 4, none,.asg (.c (.slice none 0 0))⟩] [0,1] []
def z165r1:IC:=.reg [⟨some 10, none,.mv (.t 0)⟩,⟨some 11, none,.mv (.t 1)⟩,⟨some 12, none,.call zl200 [(.rd,(.t 10)),(.rd,(.t 11))] true⟩,⟨some 13, none,.unop .not (.t 12)⟩] [0,1,13] []
def z165r2:IC:=.reg [⟨some 4, none,.asg (.c (.slice none 0 0))⟩] [4,6] []
def z165r3:IC:=.reg [⟨some 14, none,.mv (.t 0)⟩,⟨some 15, none,.call zl37 [(.rd,(.t 14))] true⟩,⟨some 5, none,.asg (.t 15)⟩] [0,1,5] []
def z165r4:IC:=.reg [⟨some 16, none,.mv (.t 0)⟩,⟨some 17, none,.len (.t 16)⟩,⟨some 18, none,.mksl 1 [(vi 0)] (.t 17) (.t 17)⟩,⟨some 6, none,.asg (.t 18)⟩] [1,5,6] []
def z165r5:IC:=.reg [⟨some 19, none,.mv (.t 6)⟩,⟨some 20, none,.len (.t 19)⟩,⟨some 21, none,.mv (.c (vi 0))⟩] [1,5,6,20,21] []
def z165r6:IC:=.reg [⟨some 22, none,.bin .lss (.t 21) (.t 20)⟩] [1,5,6,20,21,22] []
def z165r7:IC:=.reg [⟨some 23, none,.asg (.t 21)⟩,⟨some 7, none,.asg (.t 23)⟩] [1,5,6,7,20,21] []
def z165r8:IC:=.reg [⟨some 24, none,.mv (.t 6)⟩,⟨some 25, none,.mv (.t 7)⟩,⟨some 26, none,.mv (.t 5)⟩,⟨some 27, none,.mv (.t 7)⟩,⟨some 28, none,.bin .add (.t 27) (.c (vi 1))⟩,⟨some 29, none,.slc 1 (.t 26) none (some (.t 28)) none⟩,⟨some 30, none,.call zl40 [(.rd,(.t 29))] true⟩,⟨some 31, none,.unop .neg (.t 30)⟩,⟨some 32, none,.iadr 1 (.t 24) (.t 25)⟩,⟨none,none,.store 1 (.t 32) (.t 31)⟩] [1,5,6,7,20,21] []
def z165r9:IC:=.reg [⟨some 33, none,.mv (.t 1)⟩,⟨some 34, none,.len (.t 33)⟩,⟨some 35, none,.mv (.c (vi 0))⟩] [1,5,6,7,20,21,33,34,35] []
def z165r10:IC:=.reg [⟨some 36, none,.bin .lss (.t 35) (.t 34)⟩] [1,5,6,7,20,21,33,34,35,36] []
def z165r11:IC:=.reg [⟨some 37, none,.iadr 1 (.t 33) (.t 35)⟩,⟨some 38, none,.load false 1 (.t 37)⟩,⟨some 9, none,.asg (.t 38)⟩] [1,5,6,7,9,20,21,33,34,35] []
def z165r12:IC:=.reg [⟨some 39, none,.mv (.t 6)⟩,⟨some 40, none,.mv (.t 7)⟩,⟨some 41, none,.iadr 1 (.t 39) (.t 40)⟩,⟨some 42, none,.load false 1 (.t 41)⟩,⟨some 43, none,.mv (.t 9)⟩,⟨some 44, none,.mv (.t 7)⟩,⟨some 45, none,.bin .add (.t 44) (.c (vi 1))⟩,⟨some 46, none,.minmax true (.t 43) (.t 45)⟩,⟨some 47, none,.bin .add (.t 42) (.t 46)⟩,⟨some 48, none,.iadr 1 (.t 39) (.t 40)⟩,⟨none,none,.store 1 (.t 48) (.t 47)⟩] [1,5,6,7,20,21,33,34,35] []
def z165r13:IC:=.reg [⟨some 49, none,.bin .add (.t 35) (.c (vi 1))⟩,⟨some 35, none,.asg (.t 49)⟩] [1,5,6,7,20,21,33,34,35] []
def z165l14:IC:=(.seq z165r10 (.seq (.cond (.t 36) .skip (.exit 2)) (.seq (.block 3 (.seq z165r11 z165r12)) z165r13)))
def z165r15:IC:=.reg [⟨some 50, none,.bin .add (.t 21) (.c (vi 1))⟩,⟨some 21, none,.asg (.t 50)⟩] [1,5,6,20,21] []
def z165l16:IC:=(.seq z165r6 (.seq (.cond (.t 22) .skip (.exit 0)) (.seq (.block 1 (.seq z165r7 (.seq z165r8 (.seq z165r9 (.block 2 (.loop z165l14)))))) z165r15)))
def z165r17:IC:=.reg [⟨some 51, none,.mv (.t 6)⟩,⟨some 4, none,.asgm (.t 51)⟩] [4,6] []
def zi165:IFun:=⟨[.t 4],[],(.seq z165r0 (.seq (.seq z165r1 (.cond (.t 13) (.seq z165r2 .ret) .skip)) (.seq z165r3 (.seq z165r4 (.seq (.seq z165r5 (.block 0 (.loop z165l16))) (.seq z165r17 .ret))))))⟩
def z176r0:IC:=.reg [⟨some 4, none,.asg (.c (.bool false))⟩] [0,1] []
def z176r1:IC:=.reg [⟨some 5, none,.mv (.t 0)⟩,⟨some 6, none,.mv (.t 1)⟩,⟨some 7, none,.call zl200 [(.rd,(.t 5)),(.rd,(.t 6))] true⟩,⟨some 8, none,.asg (.t 7)⟩,⟨some 9, (some (8,true)),.mv (.t 0)⟩,⟨some 10, (some (8,true)),.call zl40 [(.rd,(.t 9))] true⟩,⟨some 11, (some (8,true)),.mv (.t 1)⟩,⟨some 12, (some (8,true)),.call zl40 [(.rd,(.t 11))] true⟩,⟨some 13, (some (8,true)),.bin .eql (.t 10) (.t 12)⟩,⟨some 14, none,.pick (.t 8) (.t 13) (.c (.bool false))⟩,⟨some 15, none,.asg (.t 14)⟩,⟨some 16, (some (15,true)),.mv (.t 0)⟩,⟨some 17, (some (15,true)),.mv (.t 1)⟩,⟨some 18, (some (15,true)),.call zl165 [(.rd,(.t 16)),(.rd,(.t 17))] true⟩,⟨some 19, (some (15,true)),.call zl75 [(.rd,(.t 18))] true⟩,⟨some 20, (some (15,true)),.bin .geq (.t 19) (.c (vi 0))⟩,⟨some 21, none,.pick (.t 15) (.t 20) (.c (.bool false))⟩,⟨some 4, none,.asg (.t 21)⟩] [4] []
def zi176:IFun:=⟨[.t 4],[],(.seq z176r0 (.seq z176r1 .ret))⟩
def z179r0:IC:=.reg [⟨some 4, none,.asg (.c (.bool false))⟩] [0,1] []
def z179r1:IC:=.reg [⟨some 7, none,.mv (.t 0)⟩,⟨some 8, none,.len (.t 7)⟩,⟨some 5, none,.asg (.t 8)⟩] [0,1,5] []
def z179r2:IC:=.reg [⟨some 9, none,.mv (.t 5)⟩,⟨some 10, none,.bin .eql (.t 9) (.c (vi 0))⟩,⟨some 11, none,.asg (.t 10)⟩,⟨some 12, (some (11,false)),.mv (.t 5)⟩,⟨some 13, (some (11,false)),.bin .gtr (.t 12) (.c (vi 5))⟩,⟨some 14, none,.pick (.t 11) (.c (.bool true)) (.t 13)⟩,⟨some 15, none,.asg (.t 14)⟩,⟨some 16, (some (15,false)),.mv (.t 1)⟩,⟨some 17, (some (15,false)),.len (.t 16)⟩,⟨some 18, (some (15,false)),.mv (.t 5)⟩,⟨some 19, (some (15,false)),.bin .neq (.t 17) (.t 18)⟩,⟨some 20, none,.pick (.t 15) (.c (.bool true)) (.t 19)⟩,⟨some 21, none,.asg (.t 20)⟩,⟨some 22, (some (21,false)),.mv (.t 0)⟩,⟨some 23, (some (21,false)),.mv (.t 5)⟩,⟨some 24, (some (21,false)),.bin .sub (.t 23) (.c (vi 1))⟩,⟨some 25, (some (21,false)),.call zl29 [(.rd,(.t 22)),(.val,(.c (vi 0))),(.val,(.t 24))] true⟩,⟨some 26, (some (21,false)),.unop .not (.t 25)⟩,
    ⟨some 27, none,.pick (.t 21) (.c (.bool true)) (.t 26)⟩,⟨some 28, none,.asg (.t 27)⟩,⟨some 29, (some (28,false)),.mv (.t 1)⟩,⟨some 30, (some (28,false)),.mv (.t 5)⟩,⟨some 31, (some (28,false)),.bin .sub (.t 30) (.c (vi 1))⟩,⟨some 32, (some (28,false)),.call zl29 [(.rd,(.t 29)),(.val,(.c (vi 0))),(.val,(.t 31))] true⟩,⟨some 33, (some (28,false)),.unop .not (.t 32)⟩,⟨some 34, none,.pick (.t 28) (.c (.bool true)) (.t 33)⟩] [0,1,34] []
def z179r3:IC:=.reg [⟨some 4, none,.asg (.c (.bool false))⟩] [4] []
def z179r4:IC:=.reg [⟨some 6, none,.alloc [(.bool false)]⟩,⟨none,none,.store 1 (.t 6) (.c (.bool false))⟩] [0,1,6] []
def z179r5:IC:=.reg [⟨some 35, none,.mv (.t 0)⟩,⟨some 36, none,.mv (.t 1)⟩,⟨some 37, none,.mkfn zl181 [(.t 6)]⟩,⟨some 38, none,.call zl215 [(.rd,(.t 35)),(.rd,(.t 36)),(.val,(.f zl180)),(.val,(.t 37))] false⟩] [6] []
def z179r6:IC:=.reg [⟨some 39, none,.load false 1 (.t 6)⟩,⟨some 4, none,.asg (.t 39)⟩] [4] []
def zi179:IFun:=⟨[.t 4],[],(.seq z179r0 (.seq z179r1 (.seq (.seq z179r2 (.cond (.t 34) (.seq z179r3 .ret) .skip)) (.seq z179r4 (.seq z179r5 (.seq z179r6 .ret))))))⟩
def z180r0:IC:=.reg [⟨some 4, none,.asg (.c (.bool false))⟩] [0,1] []
def z180r1:IC:=.reg [⟨some 5, none,.mv (.t 0)⟩,⟨some 6, none,.mv (.t 1)⟩,⟨some 7, none,.bin .neq (.t 5) (.t 6)⟩,⟨some 4, none,.asg (.t 7)⟩] [4] []
def zi180:IFun:=⟨[.t 4],[],(.seq z180r0 (.seq z180r1 .ret))⟩
def z181r0:IC:=.reg [⟨some 3, none,.asg (.c (.bool false))⟩] [1] []
def z181r1:IC:=.reg [⟨none,none,.store 1 (.t 1) (.c (.bool true))⟩] [] []
def z181r2:IC:=.reg [⟨some 3, none,.asg (.c (.bool false))⟩] [3] []
def zi181:IFun:=⟨[.t 3],[],(.seq z181r0 (.seq z181r1 (.seq z181r2 .ret)))⟩
def z10r0:IC:=.reg [⟨some 2, none,.asg (.c (.bool false))⟩] [0] []
def z10r1:IC:=.reg [⟨some 3, none,.mv (.t 0)⟩,⟨some 4, none,.call zl25 [(.rd,(.t 3))] true⟩,⟨some 5, none,.asg (.t 4)⟩,⟨some 6, (some (5,true)),.mv (.t 0)⟩,⟨some 7, (some (5,true)),.call zl40 [(.rd,(.t 6))] true⟩,⟨some 8, (some (5,true)),.bin .rem (.t 7) (.c (vi 2))⟩,⟨some 9, (some (5,true)),.bin .eql (.t 8) (.c (vi 0))⟩,⟨some 10, none,.pick (.t 5) (.t 9) (.c (.bool false))⟩,⟨some 11, none,.asg (.t 10)⟩,⟨some 12, (some (11,true)),.mv (.t 0)⟩,⟨some 13, (some (11,true)),.call zl7 [(.rd,(.t 12))] true⟩,⟨some 14, (some (11,true)),.bin .eql (.t 13) (.c (vi 0))⟩,⟨some 15, none,.pick (.t 11) (.t 14) (.c (.bool false))⟩,⟨some 2, none,.asg (.t 15)⟩] [2] []
def zi10:IFun:=⟨[.t 2],[],(.seq z10r0 (.seq z10r1 .ret))⟩
def z18r0:IC:=.reg [⟨some 2, none,.asg (.c (.slice none 0 0))⟩] [0] []
def z18r1:IC:=.reg [⟨some 4, none,.mv (.t 0)⟩,⟨some 5, none,.call zl37 [(.rd,(.t 4))] true⟩,⟨some 3, none,.alloc [(.slice none 0 0)]⟩,⟨none,none,.store 1 (.t 3) (.t 5)⟩] [0,3] []
def z18r2:IC:=.reg [⟨some 6, none,.mv (.t 0)⟩,⟨some 7, none,.mkfn zl19 [(.t 3)]⟩,⟨some 8, none,.call zl35 [(.rd,(.t 6)),(.val,(.t 7))] false⟩,⟨some 2, none,.asg (.t 8)⟩] [2] []
def zi18:IFun:=⟨[.t 2],[],(.seq z18r0 (.seq z18r1 (.seq z18r2 .ret)))⟩
def z19r0:IC:=.reg [⟨some 3, none,.asg (.c (vi 0))⟩] [0,1] []
def z19r1:IC:=.reg [⟨some 8, none,.mv (.t 0)⟩,⟨some 9, none,.bin .add (.t 8) (.c (vi 1))⟩,⟨some 4, none,.asg (.t 9)⟩] [1,4] []
def z19r2:IC:=.reg [⟨some 10, none,.mv (.t 4)⟩,⟨some 11, none,.mv (.t 4)⟩,⟨some 12, none,.bin .sub (.t 11) (.c (vi 1))⟩,⟨some 13, none,.bin .mul (.t 10) (.t 12)⟩,⟨some 14, none,.load false 1 (.t 1)⟩,⟨some 15, none,.mv (.t 4)⟩,⟨some 16, none,.slc 1 (.t 14) none (some (.t 15)) none⟩,⟨some 17, none,.call zl40 [(.rd,(.t 16))] true⟩,⟨some 18, none,.bin .sub (.t 13) (.t 17)⟩,⟨some 5, none,.asg (.t 18)⟩] [1,4,5] []
def z19r3:IC:=.reg [⟨some 19, none,.load false 1 (.t 1)⟩,⟨some 20, none,.mv (.t 4)⟩,⟨some 21, none,.slc 1 (.t 19) (some (.t 20)) none none⟩,⟨some 22, none,.len (.t 21)⟩,⟨some 23, none,.mv (.c (vi 0))⟩] [1,4,5,21,22,23] []
def z19r4:IC:=.reg [⟨some 24, none,.bin .lss (.t 23) (.t 22)⟩] [1,4,5,21,22,23,24] []
def z19r5:IC:=.reg [⟨some 25, none,.iadr 1 (.t 21) (.t 23)⟩,⟨some 26, none,.load false 1 (.t 25)⟩,⟨some 7, none,.asg (.t 26)⟩] [1,4,5,7,21,22,23] []
def z19r6:IC:=.reg [⟨some 27, none,.mv (.t 5)⟩,⟨some 28, none,.mv (.t 7)⟩,⟨some 29, none,.mv (.t 4)⟩,⟨some 30, none,.minmax true (.t 28) (.t 29)⟩,⟨some 31, none,.bin .add (.t 27) (.t 30)⟩,⟨some 5, none,.asg (.t 31)⟩] [1,4,5,21,22,23] []
def z19r7:IC:=.reg [⟨some 32, none,.bin .add (.t 23) (.c (vi 1))⟩,⟨some 23, none,.asg (.t 32)⟩] [1,4,5,21,22,23] []
def z19l8:IC:=(.seq z19r4 (.seq (.cond (.t 24) .skip (.exit 0)) (.seq (.block 1 (.seq z19r5 z19r6)) z19r7)))
def z19r9:IC:=.reg [⟨some 33, none,.mv (.t 5)⟩,⟨some 3, none,.asgm (.t 33)⟩] [3] []
def zi19:IFun:=⟨[.t 3],[],(.seq z19r0 (.seq z19r1 (.seq z19r2 (.seq (.seq z19r3 (.block 0 (.loop z19l8))) (.seq z19r9 .ret)))))⟩
def z25r0:IC:=.reg [⟨some 2, none,.asg (.c (.bool false))⟩] [0] []
def z25r1:IC:=.reg [⟨some 3, none,.mv (.t 0)⟩,⟨some 4, none,.len (.t 3)⟩,⟨some 5, none,.bin .leq (.t 4) (.c (vi 7))⟩,⟨some 6, none,.asg (.t 5)⟩,⟨some 7, (some (6,true)),.mv (.t 0)⟩,⟨some 8, (some (6,true)),.mv (.t 0)⟩,⟨some 9, (some (6,true)),.len (.t 8)⟩,⟨some 10, (some (6,true)),.bin .sub (.t 9) (.c (vi 1))⟩,⟨some 11, (some (6,true)),.call zl29 [(.rd,(.t 7)),(.val,(.c (vi 0))),(.val,(.t 10))] true⟩,⟨some 12, none,.pick (.t 6) (.t 11) (.c (.bool false))⟩,⟨some 2, none,.asg (.t 12)⟩] [2] []
def zi25:IFun:=⟨[.t 2],[],(.seq z25r0 (.seq z25r1 .ret))⟩
def z200r0:IC:=.reg [⟨some 4, none,.asg (.c (.bool false))⟩] [0,1] []
def z200r1:IC:=.reg [⟨some 5, none,.mv (.t 0)⟩,⟨some 6, none,.len (.t 5)⟩,⟨some 7, none,.call zl38 [(.val,(.t 6)),(.val,(.c (vi 1))),(.val,(.c (vi 5)))] true⟩,⟨some 8, none,.asg (.t 7)⟩,⟨some 9, (some (8,true)),.mv (.t 1)⟩,⟨some 10, (some (8,true)),.len (.t 9)⟩,⟨some 11, (some (8,true)),.call zl38 [(.val,(.t 10)),(.val,(.c (vi 1))),(.val,(.c (vi 5)))] true⟩,⟨some 12, none,.pick (.t 8) (.t 11) (.c (.bool false))⟩,⟨some 13, none,.asg (.t 12)⟩,⟨some 14, (some (13,true)),.mv (.t 0)⟩,⟨some 15, (some (13,true)),.mv (.t 1)⟩,⟨some 16, (some (13,true)),.len (.t 15)⟩,⟨some 17, (some (13,true)),.call zl29 [(.rd,(.t 14)),(.val,(.c (vi 0))),(.val,(.t 16))] true⟩,⟨some 18, none,.pick (.t 13) (.t 17) (.c (.bool false))⟩,⟨some 19, none,.asg (.t 18)⟩,⟨some 20, (some (19,true)),.mv (.t 1)⟩,⟨some 21, (some (19,true)),.mv (.t 0)⟩,⟨some 22, (some (19,true)),.len (.t 21)⟩,
    ⟨some 23, (some (19,true)),.call zl29 [(.rd,(.t 20)),(.val,(.c (vi 0))),(.val,(.t 22))] true⟩,⟨some 24, none,.pick (.t 19) (.t 23) (.c (.bool false))⟩,⟨some 4, none,.asg (.t 24)⟩] [4] []
def zi200:IFun:=⟨[.t 4],[],(.seq z200r0 (.seq z200r1 .ret))⟩
def z29r0:IC:=.reg [⟨some 4, none,.box (.t 1)⟩,⟨some 5, none,.box (.t 2)⟩,⟨some 6, none,.asg (.c (.bool false))⟩] [0,4,5] []
def z29r1:IC:=.reg [⟨some 7, none,.mv (.t 0)⟩,⟨some 8, none,.mkfn zl30 [(.t 4),(.t 5)]⟩,⟨some 9, none,.call zl72 [(.rd,(.t 7)),(.val,(.t 8))] false⟩,⟨some 10, none,.unop .not (.t 9)⟩,⟨some 6, none,.asg (.t 10)⟩] [6] []
def zi29:IFun:=⟨[.t 6],[],(.seq z29r0 (.seq z29r1 .ret))⟩
def z30r0:IC:=.reg [⟨some 4, none,.asg (.c (.bool false))⟩] [0,1,2] []
def z30r1:IC:=.reg [⟨some 5, none,.mv (.t 0)⟩,⟨some 6, none,.load false 1 (.t 1)⟩,⟨some 7, none,.load false 1 (.t 2)⟩,⟨some 8, none,.call zl38 [(.val,(.t 5)),(.val,(.t 6)),(.val,(.t 7))] true⟩,⟨some 9, none,.unop .not (.t 8)⟩,⟨some 4, none,.asg (.t 9)⟩] [4] []
def zi30:IFun:=⟨[.t 4],[],(.seq z30r0 (.seq z30r1 .ret))⟩
def z31r0:IC:=.reg [⟨some 2, none,.asg (.c (.slice none 0 0))⟩] [0] []
def z31r1:IC:=.reg [⟨some 3, none,.mv (.t 0)⟩,⟨some 4, none,.call zl71 [(.rd,(.t 3))] true⟩,⟨some 5, none,.call zl70 [(.tk,(.t 4))] true⟩,⟨some 2, none,.asg (.t 5)⟩] [2] []
def zi31:IFun:=⟨[.t 2],[],(.seq z31r0 (.seq z31r1 .ret))⟩
def z33r0:IC:=.reg [⟨some 1, none,.box (.t 0)⟩,⟨some 2, none,.asg (.c (.slice none 0 0))⟩] [1] []
def z33r1:IC:=.reg [⟨some 3, none,.load false 1 (.t 1)⟩,⟨some 4, none,.len (.t 3)⟩,⟨some 5, none,.load false 1 (.t 1)⟩,⟨some 6, none,.iadr 1 (.t 5) (.c (vi 0))⟩,⟨some 7, none,.load false 1 (.t 6)⟩,⟨some 8, none,.len (.t 7)⟩,⟨some 9, none,.mkfn zl34 [(.t 1)]⟩,⟨some 10, none,.call zl41 [(.val,(.t 4)),(.val,(.t 8)),(.val,(.t 9))] false⟩,⟨some 2, none,.asg (.t 10)⟩] [2] []
def zi33:IFun:=⟨[.t 2],[],(.seq z33r0 (.seq z33r1 .ret))⟩
def z34r0:IC:=.reg [⟨some 5, none,.asg (.c (vi 0))⟩] [0,1,2] []
def z34r1:IC:=.reg [⟨some 6, none,.load false 1 (.t 2)⟩,⟨some 7, none,.mv (.t 0)⟩,⟨some 8, none,.iadr 1 (.t 6) (.t 7)⟩,⟨some 9, none,.load false 1 (.t 8)⟩,⟨some 10, none,.mv (.t 1)⟩,⟨some 11, none,.iadr 1 (.t 9) (.t 10)⟩,⟨some 12, none,.load false 1 (.t 11)⟩,⟨some 5, none,.asg (.t 12)⟩] [5] []
def zi34:IFun:=⟨[.t 5],[],(.seq z34r0 (.seq z34r1 .ret))⟩
def z35r0:IC:=.reg [⟨some 4, none,.asg (.c (.slice none 0 0))⟩] [0,1] []
def z35r1:IC:=.reg [⟨some 7, none,.mv (.t 0)⟩,⟨some 8, none,.call zl25 [(.rd,(.t 7))] true⟩,⟨some 9, none,.unop .not (.t 8)⟩] [0,1,9] []
def z35r2:IC:=.reg [⟨some 4, none,.asg (.c (.slice none 0 0))⟩] [4,5] []
def z35r3:IC:=.reg [⟨some 10, none,.mv (.t 0)⟩,⟨some 11, none,.len (.t 10)⟩,⟨some 12, none,.mksl 1 [(vi 0)] (.t 11) (.t 11)⟩,⟨some 5, none,.asg (.t 12)⟩] [1,5] []
def z35r4:IC:=.reg [⟨some 13, none,.mv (.t 5)⟩,⟨some 14, none,.len (.t 13)⟩,⟨some 15, none,.mv (.c (vi 0))⟩] [1,5,14,15] []
def z35r5:IC:=.reg [⟨some 16, none,.bin .lss (.t 15) (.t 14)⟩] [1,5,14,15,16] []
def z35r6:IC:=.reg [⟨some 17, none,.asg (.t 15)⟩,⟨some 6, none,.asg (.t 17)⟩] [1,5,6,14,15] []
def z35r7:IC:=.reg [⟨some 18, none,.mv (.t 5)⟩,⟨some 19, none,.mv (.t 6)⟩,⟨some 20, none,.mv (.t 1)⟩,⟨some 21, none,.mv (.t 6)⟩,⟨some 22, none,.callv (.t 20) [(.val,(.t 21))]⟩,⟨some 23, none,.iadr 1 (.t 18) (.t 19)⟩,⟨none,none,.store 1 (.t 23) (.t 22)⟩] [1,5,14,15] []
def z35r8:IC:=.reg [⟨some 24, none,.bin .add (.t 15) (.c (vi 1))⟩,⟨some 15, none,.asg (.t 24)⟩] [1,5,14,15] []
def z35l9:IC:=(.seq z35r5 (.seq (.cond (.t 16) .skip (.exit 0)) (.seq (.block 1 (.seq z35r6 z35r7)) z35r8)))
def z35r10:IC:=.reg [⟨some 25, none,.mv (.t 5)⟩,⟨some 4, none,.asgm (.t 25)⟩] [4,5] []
def zi35:IFun:=⟨[.t 4],[],(.seq z35r0 (.seq (.seq z35r1 (.cond (.t 9) (.seq z35r2 .ret) .skip)) (.seq z35r3 (.seq (.seq z35r4 (.block 0 (.loop z35l9))) (.seq z35r10 .ret)))))⟩
def z37r0:IC:=.reg [⟨some 2, none,.asg (.c (.slice none 0 0))⟩] [0] []
def z37r1:IC:=.reg [⟨some 4, none,.mv (.t 0)⟩,⟨some 5, none,.call zl31 [(.rd,(.t 4))] true⟩,⟨some 3, none,.asg (.t 5)⟩] [3] []
def z37r2:IC:=.reg [⟨some 6, none,.mv (.t 3)⟩,⟨some 7, none,.call zl78 [(.ld,(.t 6))] false⟩] [3] []
def z37r3:IC:=.reg [⟨some 8, none,.mv (.t 3)⟩,⟨some 9, none,.call zl76 [(.ld,(.t 8))] false⟩] [3] []
def z37r4:IC:=.reg [⟨some 10, none,.mv (.t 3)⟩,⟨some 2, none,.asgm (.t 10)⟩] [2,3] []
def zi37:IFun:=⟨[.t 2],[],(.seq z37r0 (.seq z37r1 (.seq z37r2 (.seq z37r3 (.seq z37r4 .ret)))))⟩
def z38r0:IC:=.reg [⟨some 6, none,.asg (.c (.bool false))⟩] [0,1,2] []
def z38r1:IC:=.reg [⟨some 7, none,.mv (.t 0)⟩,⟨some 8, none,.mv (.t 1)⟩,⟨some 9, none,.bin .geq (.t 7) (.t 8)⟩,⟨some 10, none,.asg (.t 9)⟩,⟨some 11, (some (10,true)),.mv (.t 0)⟩,⟨some 12, (some (10,true)),.mv (.t 2)⟩,⟨some 13, (some (10,true)),.bin .leq (.t 11) (.t 12)⟩,⟨some 14, none,.pick (.t 10) (.t 13) (.c (.bool false))⟩,⟨some 6, none,.asg (.t 14)⟩] [6] []
def zi38:IFun:=⟨[.t 6],[],(.seq z38r0 (.seq z38r1 .ret))⟩
def z215r0:IC:=.reg [⟨some 4, none,.box (.t 0)⟩,⟨some 5, none,.box (.t 1)⟩,⟨some 6, none,.box (.t 2)⟩,⟨some 7, none,.box (.t 3)⟩] [4,5,6,7] []
def z215r1:IC:=.regd [⟨some 12, none,.load false 1 (.t 4)⟩,⟨some 13, none,.callq zl31 [(.rv,(.t 12))]⟩,⟨some 14, none,.load false 1 (.t 5)⟩,⟨some 15, none,.callq zl31 [(.rv,(.t 14))]⟩,⟨some 8, none,.alloc [(.slice none 0 0)]⟩,⟨some 9, none,.alloc [(.slice none 0 0)]⟩,⟨none,none,.store 1 (.t 8) (.t 13)⟩,⟨none,none,.store 1 (.t 9) (.t 15)⟩] [0,2,1,3,4,5,6,7] [4,5,6,7,8,9] [[0,2,1,3,5,4,6,7]]
def z215r2:IC:=.reg [⟨some 16, none,.load false 1 (.t 4)⟩,⟨some 17, none,.len (.t 16)⟩,⟨some 18, none,.load false 1 (.t 5)⟩,⟨some 19, none,.len (.t 18)⟩,⟨some 20, none,.call zl41 [(.val,(.t 17)),(.val,(.t 19)),(.val,(.f zl412))] false⟩,⟨some 10, none,.alloc [(.slice none 0 0)]⟩,⟨none,none,.store 1 (.t 10) (.t 20)⟩] [4,5,6,7,8,9,10] []
def z215r3:IC:=.reg [⟨some 11, none,.alloc [.nilFunc]⟩] [4,5,6,7,8,9,10,11] []
def z215r4:IC:=.reg [⟨some 21, none,.mkfn zl413 [(.t 4),(.t 5),(.t 8),(.t 9),(.t 7),(.t 10),(.t 6),(.t 11)]⟩,⟨none,none,.store 1 (.t 11) (.t 21)⟩] [11] []
def z215r5:IC:=.reg [⟨some 22, none,.load false 1 (.t 11)⟩,⟨some 23, none,.callv (.t 22) [(.val,(.c (vi 0)))]⟩] [] []
def zi215:IFun:=⟨[],[],(.seq z215r0 (.seq z215r1 (.seq z215r2 (.seq z215r3 (.seq z215r4 z215r5)))))⟩
def z412r0:IC:=.reg [⟨some 4, none,.asg (.c (vi 0))⟩] [] []
def z412r1:IC:=.reg [⟨some 4, none,.asg (.c (vi 0))⟩] [4] []
def zi412:IFun:=⟨[.t 4],[],(.seq z412r0 (.seq z412r1 .ret))⟩
def z413r0:IC:=.reg [⟨some 10, none,.asg (.c (.bool false))⟩] [0,1,2,3,4,5,6,7,8] []
def z413r1:IC:=.reg [⟨some 14, none,.mv (.t 0)⟩,⟨some 15, none,.load false 1 (.t 1)⟩,⟨some 16, none,.len (.t 15)⟩,⟨some 17, none,.load false 1 (.t 2)⟩,⟨some 18, none,.len (.t 17)⟩,⟨some 19, none,.bin .mul (.t 16) (.t 18)⟩,⟨some 20, none,.bin .eql (.t 14) (.t 19)⟩] [0,2,3,4,5,6,7,8,20] []
def z413r2:IC:=.reg [⟨some 21, none,.load false 1 (.t 3)⟩,⟨some 22, none,.call zl40 [(.rd,(.t 21))] true⟩,⟨some 23, none,.bin .gtr (.t 22) (.c (vi 0))⟩,⟨some 24, none,.asg (.t 23)⟩,⟨some 25, (some (24,false)),.load false 1 (.t 4)⟩,⟨some 26, (some (24,false)),.call zl40 [(.rd,(.t 25))] true⟩,⟨some 27, (some (24,false)),.bin .gtr (.t 26) (.c (vi 0))⟩,⟨some 28, none,.pick (.t 24) (.c (.bool true)) (.t 27)⟩,⟨some 29, none,.asg (.t 28)⟩,⟨some 30, (some (29,false)),.load false 1 (.t 5)⟩,⟨some 31, (some (29,false)),.load false 1 (.t 6)⟩,⟨some 32, (some (29,false)),.call zl33 [(.rd,(.t 31))] true⟩,⟨some 33, (some (29,false)),.callv (.t 30) [(.tk,(.t 32))]⟩,⟨some 34, none,.pick (.t 29) (.c (.bool true)) (.t 33)⟩,⟨some 10, none,.asg (.t 34)⟩] [10] [[0,1,2,3,4,5,6,7,8,10,11,9,12,13,14]]
def z413r3:IC:=.reg [⟨some 35, none,.mv (.t 0)⟩,⟨some 36, none,.load false 1 (.t 2)⟩,⟨some 37, none,.len (.t 36)⟩,⟨some 38, none,.bin .quo (.t 35) (.t 37)⟩,⟨some 39, none,.mv (.t 0)⟩,⟨some 40, none,.load false 1 (.t 2)⟩,⟨some 41, none,.len (.t 40)⟩,⟨some 42, none,.bin .rem (.t 39) (.t 41)⟩,⟨some 11, none,.asg (.t 38)⟩,⟨some 12, none,.asg (.t 42)⟩] [0,2,3,4,6,7,8,11,12] [[0,1,2,3,4,8,5,6,7,9]]
def z413r4:IC:=.reg [⟨some 43, none,.load false 1 (.t 3)⟩,⟨some 44, none,.mv (.t 11)⟩,⟨some 45, none,.iadr 1 (.t 43) (.t 44)⟩,⟨some 46, none,.load false 1 (.t 45)⟩,⟨some 47, none,.load false 1 (.t 2)⟩,⟨some 48, none,.len (.t 47)⟩,⟨some 49, none,.mv (.t 12)⟩,⟨some 50, none,.bin .sub (.t 48) (.t 49)⟩,⟨some 51, none,.bin .gtr (.t 46) (.t 50)⟩] [0,3,4,6,7,8,11,12,51] []
def z413r5:IC:=.reg [⟨some 10, none,.asg (.c (.bool true))⟩] [10] []
def z413r6:IC:=.reg [⟨some 52, none,.load false 1 (.t 7)⟩,⟨some 53, none,.mv (.t 11)⟩,⟨some 54, none,.mv (.t 12)⟩,⟨some 55, none,.callv (.t 52) [(.val,(.t 53)),(.val,(.t 54))]⟩,⟨some 56, none,.asg (.t 55)⟩,⟨some 57, (some (56,true)),.load false 1 (.t 3)⟩,⟨some 58, (some (56,true)),.mv (.t 11)⟩,⟨some 59, (some (56,true)),.iadr 1 (.t 57) (.t 58)⟩,⟨some 60, (some (56,true)),.load false 1 (.t 59)⟩,⟨some 61, (some (56,true)),.bin .gtr (.t 60) (.c (vi 0))⟩,⟨some 62, none,.pick (.t 56) (.t 61) (.c (.bool false))⟩,⟨some 63, none,.asg (.t 62)⟩,⟨some 64, (some (63,true)),.load false 1 (.t 4)⟩,⟨some 65, (some (63,true)),.mv (.t 12)⟩,⟨some 66, (some (63,true)),.iadr 1 (.t 64) (.t 65)⟩,⟨some 67, (some (63,true)),.load false 1 (.t 66)⟩,⟨some 68, (some (63,true)),.bin .gtr (.t 67) (.c (vi 0))⟩,⟨some 69, none,.pick (.t 63) (.t 68) (.c (.bool false))⟩] [0,3,4,6,8,11,12,69] []
def z413r7:IC:=.reg [⟨some 70, none,.load false 1 (.t 3)⟩,⟨some 71, none,.mv (.t 11)⟩,⟨some 72, none,.iadr 1 (.t 70) (.t 71)⟩,⟨some 73, none,.load false 1 (.t 72)⟩,⟨some 74, none,.bin .sub (.t 73) (.c (vi 1))⟩,⟨some 75, none,.iadr 1 (.t 70) (.t 71)⟩,⟨none,none,.store 1 (.t 75) (.t 74)⟩] [0,3,4,6,8,11,12] []
def z413r8:IC:=.reg [⟨some 76, none,.load false 1 (.t 4)⟩,⟨some 77, none,.mv (.t 12)⟩,⟨some 78, none,.iadr 1 (.t 76) (.t 77)⟩,⟨some 79, none,.load false 1 (.t 78)⟩,⟨some 80, none,.bin .sub (.t 79) (.c (vi 1))⟩,⟨some 81, none,.iadr 1 (.t 76) (.t 77)⟩,⟨none,none,.store 1 (.t 81) (.t 80)⟩] [0,3,4,6,8,11,12] []
def z413r9:IC:=.reg [⟨some 82, none,.load false 1 (.t 6)⟩,⟨some 83, none,.mv (.t 11)⟩,⟨some 84, none,.iadr 1 (.t 82) (.t 83)⟩,⟨some 85, none,.load false 1 (.t 84)⟩,⟨some 86, none,.mv (.t 12)⟩,⟨some 87, none,.iadr 1 (.t 85) (.t 86)⟩,⟨none,none,.store 1 (.t 87) (.c (vi 1))⟩] [0,3,4,6,8,11,12] []
def z413r10:IC:=.reg [⟨some 88, none,.load false 1 (.t 8)⟩,⟨some 89, none,.mv (.t 0)⟩,⟨some 90, none,.bin .add (.t 89) (.c (vi 1))⟩,⟨some 91, none,.callv (.t 88) [(.val,(.t 90))]⟩,⟨some 13, none,.asg (.t 91)⟩] [0,3,4,6,8,11,12,13] []
def z413r11:IC:=.reg [⟨some 92, none,.load false 1 (.t 6)⟩,⟨some 93, none,.mv (.t 11)⟩,⟨some 94, none,.iadr 1 (.t 92) (.t 93)⟩,⟨some 95, none,.load false 1 (.t 94)⟩,⟨some 96, none,.mv (.t 12)⟩,⟨some 97, none,.iadr 1 (.t 95) (.t 96)⟩,⟨none,none,.store 1 (.t 97) (.c (vi 0))⟩] [0,3,4,8,11,12,13] []
def z413r12:IC:=.reg [⟨some 98, none,.load false 1 (.t 3)⟩,⟨some 99, none,.mv (.t 11)⟩,⟨some 100, none,.iadr 1 (.t 98) (.t 99)⟩,⟨some 101, none,.load false 1 (.t 100)⟩,⟨some 102, none,.bin .add (.t 101) (.c (vi 1))⟩,⟨some 103, none,.iadr 1 (.t 98) (.t 99)⟩,⟨none,none,.store 1 (.t 103) (.t 102)⟩] [0,4,8,12,13] []
def z413r13:IC:=.reg [⟨some 104, none,.load false 1 (.t 4)⟩,⟨some 105, none,.mv (.t 12)⟩,⟨some 106, none,.iadr 1 (.t 104) (.t 105)⟩,⟨some 107, none,.load false 1 (.t 106)⟩,⟨some 108, none,.bin .add (.t 107) (.c (vi 1))⟩,⟨some 109, none,.iadr 1 (.t 104) (.t 105)⟩,⟨none,none,.store 1 (.t 109) (.t 108)⟩] [0,8,13] []
def z413r14:IC:=.reg [⟨some 110, none,.mv (.t 13)⟩,⟨some 111, none,.unop .not (.t 110)⟩] [0,8,111] []
def z413r15:IC:=.reg [⟨some 10, none,.asg (.c (.bool false))⟩] [10] []
def z413r16:IC:=.reg [⟨some 112, none,.load false 1 (.t 8)⟩,⟨some 113, none,.mv (.t 0)⟩,⟨some 114, none,.bin .add (.t 113) (.c (vi 1))⟩,⟨some 115, none,.callv (.t 112) [(.val,(.t 114))]⟩,⟨some 10, none,.asg (.t 115)⟩] [10] []
def zi413:IFun:=⟨[.t 10],[],(.seq z413r0 (.seq (.seq z413r1 (.cond (.t 20) (.seq z413r2 .ret) .skip)) (.seq z413r3 (.seq (.seq z413r4 (.cond (.t 51) (.seq z413r5 .ret) .skip)) (.seq (.seq z413r6 (.cond (.t 69) (.seq z413r7 (.seq z413r8 (.seq z413r9 (.seq z413r10 (.seq z413r11 (.seq z413r12 (.seq z413r13 (.seq z413r14 (.cond (.t 111) (.seq z413r15 .ret) .skip))))))))) .skip)) (.seq z413r16 .ret))))))⟩
def z40r0:IC:=.reg [⟨some 2, none,.asg (.c (vi 0))⟩] [0] []
def z40r1:IC:=.reg [⟨some 3, none,.asg (.c (vi 0))⟩] [0,3] []
def z40r2:IC:=.reg [⟨some 6, none,.mv (.t 0)⟩,⟨some 7, none,.len (.t 6)⟩,⟨some 8, none,.mv (.c (vi 0))⟩] [0,3,6,7,8] []
def z40r3:IC:=.reg [⟨some 9, none,.bin .lss (.t 8) (.t 7)⟩] [0,3,6,7,8,9] []
def z40r4:IC:=.reg [⟨some 10, none,.iadr 1 (.t 6) (.t 8)⟩,⟨some 11, none,.load false 1 (.t 10)⟩,⟨some 5, none,.asg (.t 11)⟩] [0,3,5,6,7,8] []
def z40r5:IC:=.reg [⟨some 12, none,.mv (.t 3)⟩,⟨some 13, none,.mv (.t 5)⟩,⟨some 14, none,.bin .add (.t 12) (.t 13)⟩,⟨some 3, none,.asg (.t 14)⟩] [0,3,6,7,8] []
def z40r6:IC:=.reg [⟨some 15, none,.bin .add (.t 8) (.c (vi 1))⟩,⟨some 8, none,.asg (.t 15)⟩] [0,3,6,7,8] []
def z40l7:IC:=(.seq z40r3 (.seq (.cond (.t 9) .skip (.exit 0)) (.seq (.block 1 (.seq z40r4 z40r5)) z40r6)))
def z40r8:IC:=.reg [⟨some 16, none,.mv (.t 3)⟩,⟨some 2, none,.asgm (.t 16)⟩] [2] []
def zi40:IFun:=⟨[.t 2],[],(.seq z40r0 (.seq z40r1 (.seq (.seq z40r2 (.block 0 (.loop z40l7))) (.seq z40r8 .ret))))⟩
def z41r0:IC:=.reg [⟨some 6, none,.asg (.c (.slice none 0 0))⟩] [0,1,2] []
def z41r1:IC:=.reg [⟨some 10, none,.mv (.t 0)⟩,⟨some 11, none,.mksl 1 [(.slice none 0 0)] (.t 10) (.t 10)⟩,⟨some 7, none,.asg (.t 11)⟩] [1,2,7] []
def z41r2:IC:=.reg [⟨some 12, none,.mv (.t 7)⟩,⟨some 13, none,.len (.t 12)⟩,⟨some 14, none,.mv (.c (vi 0))⟩] [1,2,7,13,14] []
def z41r3:IC:=.reg [⟨some 15, none,.bin .lss (.t 14) (.t 13)⟩] [1,2,7,13,14,15] []
def z41r4:IC:=.reg [⟨some 16, none,.asg (.t 14)⟩,⟨some 8, none,.asg (.t 16)⟩] [1,2,7,8,13,14] []
def z41r5:IC:=.reg [⟨some 17, none,.mv (.t 7)⟩,⟨some 18, none,.mv (.t 8)⟩,⟨some 19, none,.mv (.t 1)⟩,⟨some 20, none,.mksl 1 [(vi 0)] (.t 19) (.t 19)⟩,⟨some 21, none,.iadr 1 (.t 17) (.t 18)⟩,⟨none,none,.store 1 (.t 21) (.t 20)⟩] [1,2,7,8,13,14] []
def z41r6:IC:=.reg [⟨some 22, none,.mv (.t 7)⟩,⟨some 23, none,.mv (.t 8)⟩,⟨some 24, none,.iadr 1 (.t 22) (.t 23)⟩,⟨some 25, none,.load false 1 (.t 24)⟩,⟨some 26, none,.len (.t 25)⟩,⟨some 27, none,.mv (.c (vi 0))⟩] [1,2,7,8,13,14,26,27] []
def z41r7:IC:=.reg [⟨some 28, none,.bin .lss (.t 27) (.t 26)⟩] [1,2,7,8,13,14,26,27,28] []
def z41r8:IC:=.reg [⟨some 29, none,.asg (.t 27)⟩,⟨some 9, none,.asg (.t 29)⟩] [1,2,7,8,9,13,14,26,27] []
def z41r9:IC:=.reg [⟨some 30, none,.mv (.t 7)⟩,⟨some 31, none,.mv (.t 8)⟩,⟨some 32, none,.iadr 1 (.t 30) (.t 31)⟩,⟨some 33, none,.load false 1 (.t 32)⟩,⟨some 34, none,.mv (.t 9)⟩,⟨some 35, none,.mv (.t 2)⟩,⟨some 36, none,.mv (.t 8)⟩,⟨some 37, none,.mv (.t 9)⟩,⟨some 38, none,.callv (.t 35) [(.val,(.t 36)),(.val,(.t 37))]⟩,⟨some 39, none,.iadr 1 (.t 33) (.t 34)⟩,⟨none,none,.store 1 (.t 39) (.t 38)⟩] [1,2,7,8,13,14,26,27] [[0,1,2,4,5,6,7,8,3,9,10]]
def z41r10:IC:=.reg [⟨some 40, none,.bin .add (.t 27) (.c (vi 1))⟩,⟨some 27, none,.asg (.t 40)⟩] [1,2,7,8,13,14,26,27] []
def z41l11:IC:=(.seq z41r7 (.seq (.cond (.t 28) .skip (.exit 2)) (.seq (.block 3 (.seq z41r8 z41r9)) z41r10)))
def z41r12:IC:=.reg [⟨some 41, none,.bin .add (.t 14) (.c (vi 1))⟩,⟨some 14, none,.asg (.t 41)⟩] [1,2,7,13,14] []
def z41l13:IC:=(.seq z41r3 (.seq (.cond (.t 15) .skip (.exit 0)) (.seq (.block 1 (.seq z41r4 (.seq z41r5 (.seq z41r6 (.block 2 (.loop z41l11)))))) z41r12)))
def z41r14:IC:=.reg [⟨some 42, none,.mv (.t 7)⟩,⟨some 6, none,.asgm (.t 42)⟩] [6,7] []
def zi41:IFun:=⟨[.t 6],[],(.seq z41r0 (.seq z41r1 (.seq (.seq z41r2 (.block 0 (.loop z41l13))) (.seq z41r14 .ret))))⟩
def z434r0:IC:=.reg [⟨some 2, none,.asg (.c (.bool false))⟩] [0] []
def z434r1:IC:=.reg [⟨some 6, none,.mv (.t 0)⟩,⟨some 7, none,.len (.t 6)⟩,⟨some 8, none,.bin .gtr (.t 7) (.c (vi 1048576))⟩] [0,8] []
def z434r2:IC:=.reg [⟨some 2, none,.asg (.c (.bool true))⟩] [2] []
def z434r3:IC:=.reg [⟨some 10, none,.mv (.t 0)⟩,⟨some 11, none,.call zl307 [(.rd,(.t 10))] true⟩,⟨some 9, none,.asg (.t 11)⟩,⟨some 12, none,.extr (.t 9) 0⟩,⟨some 13, none,.extr (.t 9) 1⟩,⟨some 3, none,.asg (.t 12)⟩,⟨some 4, none,.asg (.t 13)⟩] [3,4] []
def z434r4:IC:=.reg [⟨some 14, none,.mv (.t 3)⟩,⟨some 15, none,.mv (.t 4)⟩,⟨some 16, none,.call zl179 [(.rd,(.t 14)),(.rd,(.t 15))] true⟩,⟨some 5, none,.asg (.t 16)⟩] [3,4,5] []
def z434r5:IC:=.reg [⟨some 17, none,.mv (.t 5)⟩,⟨some 18, none,.mv (.t 3)⟩,⟨some 19, none,.mv (.t 4)⟩,⟨some 20, none,.call zl318 [(.rd,(.t 18)),(.rd,(.t 19))] true⟩,⟨some 21, none,.eqb true (.t 17) (.t 20)⟩,⟨some 22, none,.asg (.t 21)⟩,⟨some 23, (some (22,false)),.mv (.t 3)⟩,⟨some 24, (some (22,false)),.len (.t 23)⟩,⟨some 25, (some (22,false)),.mv (.t 4)⟩,⟨some 26, (some (22,false)),.len (.t 25)⟩,⟨some 27, (some (22,false)),.bin .neq (.t 24) (.t 26)⟩,⟨some 28, none,.pick (.t 22) (.c (.bool true)) (.t 27)⟩,⟨some 29, none,.asg (.t 28)⟩,⟨some 30, (some (29,false)),.mv (.t 3)⟩,⟨some 31, (some (29,false)),.call zl25 [(.rd,(.t 30))] true⟩,⟨some 32, (some (29,false)),.unop .not (.t 31)⟩,⟨some 33, none,.pick (.t 29) (.c (.bool true)) (.t 32)⟩,⟨some 34, none,.asg (.t 33)⟩,⟨some 35, (some (34,false)),.mv (.t 4)⟩,⟨some 36, (some (34,false)),.call zl25 [(.rd,(.t 35))] true⟩,
    ⟨some 37, (some (34,false)),.unop .not (.t 36)⟩,⟨some 38, none,.pick (.t 34) (.c (.bool true)) (.t 37)⟩,⟨some 39, none,.asg (.t 38)⟩,⟨some 40, (some (39,false)),.mv (.t 3)⟩,⟨some 41, (some (39,false)),.len (.t 40)⟩,⟨some 42, (some (39,false)),.bin .eql (.t 41) (.c (vi 0))⟩,⟨some 43, none,.pick (.t 39) (.c (.bool true)) (.t 42)⟩,⟨some 44, none,.asg (.t 43)⟩,⟨some 45, (some (44,false)),.mv (.t 3)⟩,⟨some 46, (some (44,false)),.len (.t 45)⟩,⟨some 47, (some (44,false)),.bin .gtr (.t 46) (.c (vi 5))⟩,⟨some 48, none,.pick (.t 44) (.c (.bool true)) (.t 47)⟩] [3,4,5,48] []
def z434r6:IC:=.reg [⟨some 49, none,.mv (.t 5)⟩,⟨some 50, none,.mv (.t 3)⟩,⟨some 51, none,.mv (.t 4)⟩,⟨some 52, none,.call zl318 [(.rd,(.t 50)),(.rd,(.t 51))] true⟩,⟨some 53, none,.eqb false (.t 49) (.t 52)⟩,⟨some 2, none,.asg (.t 53)⟩] [2] []
def z434r7:IC:=.reg [⟨some 54, none,.mv (.t 4)⟩,⟨some 55, none,.mv (.t 3)⟩,⟨some 56, none,.call zl179 [(.rd,(.t 54)),(.rd,(.t 55))] true⟩,⟨some 57, none,.mv (.t 5)⟩,⟨some 58, none,.eqb false (.t 56) (.t 57)⟩,⟨some 59, none,.asg (.t 58)⟩,⟨some 60, (some (59,true)),.mv (.t 3)⟩,⟨some 61, (some (59,true)),.call zl10 [(.rd,(.t 60))] true⟩,⟨some 62, (some (59,true)),.unop .not (.t 61)⟩,⟨some 63, (some (59,true)),.asg (.t 62)⟩,⟨some 64, (some (63,false)),.mv (.t 3)⟩,⟨some 65, (some (63,false)),.mv (.t 3)⟩,⟨some 66, (some (63,false)),.call zl179 [(.rd,(.t 64)),(.rd,(.t 65))] true⟩,⟨some 67, (some (59,true)),.pick (.t 63) (.c (.bool true)) (.t 66)⟩,⟨some 68, none,.pick (.t 59) (.t 67) (.c (.bool false))⟩,⟨some 69, none,.asg (.t 68)⟩,⟨some 70, (some (69,true)),.mv (.t 5)⟩,⟨some 71, (some (69,true)),.unop .not (.t 70)⟩,⟨some 72, (some (69,true)),.asg (.t 71)⟩,
    ⟨some 73, (some (72,false)),.mv (.t 3)⟩,⟨some 74, (some (72,false)),.mv (.t 4)⟩,⟨some 75, (some (72,false)),.call zl176 [(.rd,(.t 73)),(.rd,(.t 74))] true⟩,⟨some 76, (some (69,true)),.pick (.t 72) (.c (.bool true)) (.t 75)⟩,⟨some 77, none,.pick (.t 69) (.t 76) (.c (.bool false))⟩,⟨some 2, none,.asg (.t 77)⟩] [2] []
def zi434:IFun:=⟨[.t 2],[],(.seq z434r0 (.seq (.seq z434r1 (.cond (.t 8) (.seq z434r2 .ret) .skip)) (.seq z434r3 (.seq z434r4 (.seq (.seq z434r5 (.cond (.t 48) (.seq z434r6 .ret) .skip)) (.seq z434r7 .ret))))))⟩
def z66r0:IC:=.reg [⟨some 2, none,.asg (.c (vi 0))⟩] [0] []
def z66r1:IC:=.reg [⟨some 3, none,.mv (.t 0)⟩,⟨some 4, none,.conv .u32 (.t 3)⟩,⟨some 5, none,.call zl67 [(.val,(.t 4))] true⟩,⟨some 2, none,.asg (.t 5)⟩] [2] []
def z66r2:IC:=.reg [⟨some 6, none,.mv (.t 0)⟩,⟨some 7, none,.call zl68 [(.val,(.t 6))] true⟩,⟨some 2, none,.asg (.t 7)⟩] [2] []
def zi66:IFun:=⟨[.t 2],[],(.seq z66r0 (.seq (.cond (.c (.bool false)) (.seq z66r1 .ret) .skip) (.seq z66r2 .ret)))⟩
def z68r0:IC:=.reg [⟨some 2, none,.asg (.c (vi 0))⟩] [0,2] []
def z68r1:IC:=.reg [⟨some 3, none,.mv (.t 0)⟩,⟨some 4, none,.bin .geq (.t 3) (.c (.int .u64 (4294967296)))⟩] [0,2,4] []
def z68r2:IC:=.reg [⟨some 5, none,.mv (.t 0)⟩,⟨some 6, none,.bin .shr (.t 5) (.c (.int .u64 (32)))⟩,⟨some 0, none,.asg (.t 6)⟩] [0] []
def z68r3:IC:=.reg [⟨some 2, none,.asg (.c (vi 32))⟩] [0,2] []
def z68r4:IC:=.reg [⟨some 7, none,.mv (.t 0)⟩,⟨some 8, none,.bin .geq (.t 7) (.c (.int .u64 (65536)))⟩] [0,2,8] []
def z68r5:IC:=.reg [⟨some 9, none,.mv (.t 0)⟩,⟨some 10, none,.bin .shr (.t 9) (.c (.int .u64 (16)))⟩,⟨some 0, none,.asg (.t 10)⟩] [0,2] []
def z68r6:IC:=.reg [⟨some 11, none,.mv (.t 2)⟩,⟨some 12, none,.bin .add (.t 11) (.c (vi 16))⟩,⟨some 2, none,.asg (.t 12)⟩] [0,2] []
def z68r7:IC:=.reg [⟨some 13, none,.mv (.t 0)⟩,⟨some 14, none,.bin .geq (.t 13) (.c (.int .u64 (256)))⟩] [0,2,14] []
def z68r8:IC:=.reg [⟨some 15, none,.mv (.t 0)⟩,⟨some 16, none,.bin .shr (.t 15) (.c (.int .u64 (8)))⟩,⟨some 0, none,.asg (.t 16)⟩] [0,2] []
def z68r9:IC:=.reg [⟨some 17, none,.mv (.t 2)⟩,⟨some 18, none,.bin .add (.t 17) (.c (vi 8))⟩,⟨some 2, none,.asg (.t 18)⟩] [0,2] []
def z68r10:IC:=.reg [⟨some 19, none,.mv (.t 2)⟩,⟨some 20, none,.mv (.t 0)⟩,⟨some 21, none,.conv .u8 (.t 20)⟩,⟨some 22, none,.idxs (.c (.string ⟨#[0,1,2,2,3,3,3,3,4,4,4,4,4,4,4,4,5,5,5,5,5,5,5,5,5,5,5,5,5,5,5,5,6,6,6,6,6,6,6,6,6,6,6,6,6,6,6,6,6,6,6,6,6,6,6,6,6,6,6,6,6,6,6,6,7,7,7,7,7,7,7,7,7,7,7,7,7,7,7,7,7,7,7,7,7,7,7,7,7,7,7,7,7,7,7,7,7,7,7,7,7,7,7,7,7,7,7,7,7,7,7,7,7,7,7,7,7,7,7,7,7,7,7,7,7,7,7,7,8,8,8,8,8,8,8,8,8,8,8,8,8,8,8,8,8,8,8,8,8,8,8,8,8,8,8,8,8,8,8,8,8,8,8,8,8,8,8,8,8,8,8,8,8,8,8,8,8,8,8,8,8,8,8,8,8,8,8,8,8,8,8,8,8,8,8,8,8,8,8,8,8,8,8,8,8,8,8,8,8,8,8,8,8,8,8,8,8,8,8,8,8,8,8,8,8,8,8,8,8,8,8,8,8,8,8,8,8,8,8,8,8,8,8,8,8,8,8,8,8,8,8,8,8,8,8,8]⟩)) (.t 21)⟩,⟨some 23, none,.conv .i64 (.t 22)⟩,⟨some 24, none,.bin .add (.t 19) (.t 23)⟩,⟨some 2, none,.asg (.t 24)⟩] [2] []
def zi68:IFun:=⟨[.t 2],[],(.seq z68r0 (.seq (.seq z68r1 (.cond (.t 4) (.seq z68r2 z68r3) .skip)) (.seq (.seq z68r4 (.cond (.t 8) (.seq z68r5 z68r6) .skip)) (.seq (.seq z68r7 (.cond (.t 14) (.seq z68r8 z68r9) .skip)) (.seq z68r10 .ret)))))⟩
def z70r0:IC:=.reg [⟨some 2, none,.asg (.c (.slice none 0 0))⟩] [0] []
def z70r1:IC:=.reg [⟨some 3, none,.mv (.t 0)⟩,⟨some 4, none,.mv (.t 0)⟩,⟨some 5, none,.len (.t 4)⟩,⟨some 6, none,.mv (.t 0)⟩,⟨some 7, none,.len (.t 6)⟩,⟨some 8, none,.slc 1 (.t 3) none (some (.t 5)) (some (.t 7))⟩,⟨some 2, none,.asgm (.t 8)⟩] [0,2] []
def zi70:IFun:=⟨[.t 2],[],(.seq z70r0 (.seq z70r1 .ret))⟩
def z71r0:IC:=.reg [⟨some 2, none,.nilo 1⟩] [0] []
def z71r1:List IOp:=[⟨some 3, none,.mv (.t 0)⟩]
def z71r2:IC:=.reg [⟨some 2, none,.nilo 1⟩] [2] []
def z71r3:IC:=.reg [⟨some 5, none,.bsl 1 [(vi 0)] 0 []⟩,⟨some 6, none,.mv (.t 0)⟩,⟨some 7, none,.app 1 (.t 5) (.t 6)⟩,⟨some 2, none,.asg (.t 7)⟩] [2] []
def zi71:IFun:=⟨[.t 2],[],(.seq z71r0 (.nilc2 z71r1 (.t 3) 4 [0,4] (.cond (.t 4) (.seq z71r2 .ret) .skip) (.seq z71r3 .ret)))⟩
def z72r0:IC:=.reg [⟨some 4, none,.asg (.c (.bool false))⟩] [0,1] []
def z72r1:IC:=.reg [⟨some 5, none,.mv (.t 0)⟩,⟨some 6, none,.mv (.t 1)⟩,⟨some 7, none,.call zl73 [(.rd,(.t 5)),(.val,(.t 6))] false⟩,⟨some 8, none,.bin .geq (.t 7) (.c (vi 0))⟩,⟨some 4, none,.asg (.t 8)⟩] [4] []
def zi72:IFun:=⟨[.t 4],[],(.seq z72r0 (.seq z72r1 .ret))⟩
def z73r0:IC:=.reg [⟨some 4, none,.asg (.c (vi 0))⟩] [0,1] []
def z73r1:IC:=.reg [⟨some 6, none,.mv (.t 0)⟩,⟨some 7, none,.len (.t 6)⟩,⟨some 8, none,.mv (.c (vi 0))⟩] [0,1,7,8] []
def z73r2:IC:=.reg [⟨some 9, none,.bin .lss (.t 8) (.t 7)⟩] [0,1,7,8,9] []
def z73r3:IC:=.reg [⟨some 10, none,.asg (.t 8)⟩,⟨some 5, none,.asg (.t 10)⟩] [0,1,5,7,8] []
def z73r4:IC:=.reg [⟨some 11, none,.mv (.t 1)⟩,⟨some 12, none,.mv (.t 0)⟩,⟨some 13, none,.mv (.t 5)⟩,⟨some 14, none,.iadr 1 (.t 12) (.t 13)⟩,⟨some 15, none,.load false 1 (.t 14)⟩,⟨some 16, none,.callv (.t 11) [(.val,(.t 15))]⟩] [0,1,5,7,8,16] []
def z73r5:IC:=.reg [⟨some 17, none,.mv (.t 5)⟩,⟨some 4, none,.asgm (.t 17)⟩] [4] []
def z73r6:IC:=.reg [⟨some 18, none,.bin .add (.t 8) (.c (vi 1))⟩,⟨some 8, none,.asg (.t 18)⟩] [0,1,7,8] []
def z73l7:IC:=(.seq z73r2 (.seq (.cond (.t 9) .skip (.exit 0)) (.seq (.block 1 (.seq z73r3 (.seq z73r4 (.cond (.t 16) (.seq z73r5 .ret) .skip)))) z73r6)))
def z73r8:IC:=.reg [⟨some 4, none,.asg (.c (vi (-1)))⟩] [4] []
def zi73:IFun:=⟨[.t 4],[],(.seq z73r0 (.seq (.seq z73r1 (.block 0 (.loop z73l7))) (.seq z73r8 .ret)))⟩
def z75r0:IC:=.reg [⟨some 2, none,.asg (.c (vi 0))⟩] [0] []
def z75r1:IC:=.reg [⟨some 5, none,.mv (.t 0)⟩,⟨some 6, none,.len (.t 5)⟩,⟨some 7, none,.bin .lss (.t 6) (.c (vi 1))⟩] [0,7] []
def z75r2:IC:=.reg [⟨some 8, none,.halt⟩,⟨none,none,.halt⟩] [0] []
def z75r3:IC:=.reg [⟨some 9, none,.mv (.t 0)⟩,⟨some 10, none,.iadr 1 (.t 9) (.c (vi 0))⟩,⟨some 11, none,.load false 1 (.t 10)⟩,⟨some 3, none,.asg (.t 11)⟩] [0,3] []
def z75r4:IC:=.reg [⟨some 4, none,.asg (.c (vi 1))⟩] [0,3,4] []
def z75r5:IC:=.reg [⟨some 12, none,.mv (.t 4)⟩,⟨some 13, none,.mv (.t 0)⟩,⟨some 14, none,.len (.t 13)⟩,⟨some 15, none,.bin .lss (.t 12) (.t 14)⟩] [0,3,4,15] []
def z75r6:IC:=.reg [⟨some 18, none,.mv (.t 3)⟩,⟨some 19, none,.mv (.t 0)⟩,⟨some 20, none,.mv (.t 4)⟩,⟨some 21, none,.iadr 1 (.t 19) (.t 20)⟩,⟨some 22, none,.load false 1 (.t 21)⟩,⟨some 23, none,.minmax true (.t 18) (.t 22)⟩,⟨some 3, none,.asg (.t 23)⟩] [0,3,4] []
def z75r7:IC:=.reg [⟨some 16, none,.mv (.t 4)⟩,⟨some 17, none,.bin .add (.t 16) (.c (vi 1))⟩,⟨some 4, none,.asg (.t 17)⟩] [0,3,4] []
def z75l8:IC:=(.seq (.seq z75r5 (.cond (.t 15) .skip (.exit 0))) (.seq (.block 1 z75r6) z75r7))
def z75r9:IC:=.reg [⟨some 24, none,.mv (.t 3)⟩,⟨some 2, none,.asgm (.t 24)⟩] [2] []
def zi75:IFun:=⟨[.t 2],[],(.seq z75r0 (.seq (.seq z75r1 (.cond (.t 7) z75r2 .skip)) (.seq z75r3 (.seq (.seq z75r4 (.block 0 (.loop z75l8))) (.seq z75r9 .ret)))))⟩
def z76r0:IC:=.reg [⟨some 4, none,.mv (.t 0)⟩,⟨some 5, none,.len (.t 4)⟩,⟨some 6, none,.bin .sub (.t 5) (.c (vi 1))⟩,⟨some 2, none,.asg (.c (vi 0))⟩,⟨some 3, none,.asg (.t 6)⟩] [0,2,3] []
def z76r1:IC:=.reg [⟨some 7, none,.mv (.t 2)⟩,⟨some 8, none,.mv (.t 3)⟩,⟨some 9, none,.bin .lss (.t 7) (.t 8)⟩] [0,2,3,9] []
def z76r2:IC:=.reg [⟨some 14, none,.mv (.t 0)⟩,⟨some 15, none,.mv (.t 2)⟩,⟨some 16, none,.mv (.t 0)⟩,⟨some 17, none,.mv (.t 3)⟩,⟨some 18, none,.mv (.t 0)⟩,⟨some 19, none,.mv (.t 3)⟩,⟨some 20, none,.iadr 1 (.t 18) (.t 19)⟩,⟨some 21, none,.load false 1 (.t 20)⟩,⟨some 22, none,.mv (.t 0)⟩,⟨some 23, none,.mv (.t 2)⟩,⟨some 24, none,.iadr 1 (.t 22) (.t 23)⟩,⟨some 25, none,.load false 1 (.t 24)⟩,⟨some 26, none,.iadr 1 (.t 14) (.t 15)⟩,⟨none,none,.store 1 (.t 26) (.t 21)⟩,⟨some 27, none,.iadr 1 (.t 16) (.t 17)⟩,⟨none,none,.store 1 (.t 27) (.t 25)⟩] [0,2,3] []
def z76r3:IC:=.reg [⟨some 10, none,.mv (.t 2)⟩,⟨some 11, none,.bin .add (.t 10) (.c (vi 1))⟩,⟨some 12, none,.mv (.t 3)⟩,⟨some 13, none,.bin .sub (.t 12) (.c (vi 1))⟩,⟨some 2, none,.asg (.t 11)⟩,⟨some 3, none,.asg (.t 13)⟩] [0,2,3] []
def z76l4:IC:=(.seq (.seq z76r1 (.cond (.t 9) .skip (.exit 0))) (.seq (.block 1 z76r2) z76r3))
def zi76:IFun:=⟨[],[0],(.seq z76r0 (.block 0 (.loop z76l4)))⟩
def z78r0:IC:=.reg [⟨some 3, none,.mv (.t 0)⟩,⟨some 4, none,.len (.t 3)⟩,⟨some 2, none,.asg (.t 4)⟩] [0,2] []
def z78r1:IC:=.reg [⟨some 5, none,.mv (.t 0)⟩,⟨some 6, none,.mv (.t 2)⟩,⟨some 7, none,.mv (.t 2)⟩,⟨some 8, none,.conv .u64 (.t 7)⟩,⟨some 9, none,.call zl66 [(.val,(.t 8))] true⟩,⟨some 10, none,.call zl101 [(.ld,(.t 5)),(.val,(.c (vi 0))),(.val,(.t 6)),(.val,(.t 9))] false⟩] [0] []
def zi78:IFun:=⟨[],[0],(.seq z78r0 z78r1)⟩
def z86r0:IC:=.reg [⟨some 8, none,.mv (.t 1)⟩,⟨some 9, none,.bin .add (.t 8) (.c (vi 1))⟩,⟨some 6, none,.asg (.t 9)⟩] [0,1,2,6] []
def z86r1:IC:=.reg [⟨some 10, none,.mv (.t 6)⟩,⟨some 11, none,.mv (.t 2)⟩,⟨some 12, none,.bin .lss (.t 10) (.t 11)⟩] [0,1,2,6,12] []
def z86r2:IC:=.reg [⟨some 15, none,.mv (.t 6)⟩,⟨some 7, none,.asg (.t 15)⟩] [0,1,2,6,7] []
def z86r3:IC:=.reg [⟨some 16, none,.mv (.t 7)⟩,⟨some 17, none,.mv (.t 1)⟩,⟨some 18, none,.bin .gtr (.t 16) (.t 17)⟩,⟨some 19, none,.asg (.t 18)⟩,⟨some 20, (some (19,true)),.mv (.t 0)⟩,⟨some 21, (some (19,true)),.mv (.t 7)⟩,⟨some 22, (some (19,true)),.iadr 1 (.t 20) (.t 21)⟩,⟨some 23, (some (19,true)),.load false 1 (.t 22)⟩,⟨some 24, (some (19,true)),.mv (.t 0)⟩,⟨some 25, (some (19,true)),.mv (.t 7)⟩,⟨some 26, (some (19,true)),.bin .sub (.t 25) (.c (vi 1))⟩,⟨some 27, (some (19,true)),.iadr 1 (.t 24) (.t 26)⟩,⟨some 28, (some (19,true)),.load false 1 (.t 27)⟩,⟨some 29, (some (19,true)),.call zl2 [(.val,(.t 23)),(.val,(.t 28))] true⟩,⟨some 30, none,.pick (.t 19) (.t 29) (.c (.bool false))⟩] [0,1,2,6,7,30] []
def z86r4:IC:=.reg [⟨some 33, none,.mv (.t 0)⟩,⟨some 34, none,.mv (.t 7)⟩,⟨some 35, none,.mv (.t 0)⟩,⟨some 36, none,.mv (.t 7)⟩,⟨some 37, none,.bin .sub (.t 36) (.c (vi 1))⟩,⟨some 38, none,.mv (.t 0)⟩,⟨some 39, none,.mv (.t 7)⟩,⟨some 40, none,.bin .sub (.t 39) (.c (vi 1))⟩,⟨some 41, none,.iadr 1 (.t 38) (.t 40)⟩,⟨some 42, none,.load false 1 (.t 41)⟩,⟨some 43, none,.mv (.t 0)⟩,⟨some 44, none,.mv (.t 7)⟩,⟨some 45, none,.iadr 1 (.t 43) (.t 44)⟩,⟨some 46, none,.load false 1 (.t 45)⟩,⟨some 47, none,.iadr 1 (.t 33) (.t 34)⟩,⟨none,none,.store 1 (.t 47) (.t 42)⟩,⟨some 48, none,.iadr 1 (.t 35) (.t 37)⟩,⟨none,none,.store 1 (.t 48) (.t 46)⟩] [0,1,2,6,7] []
def z86r5:IC:=.reg [⟨some 31, none,.mv (.t 7)⟩,⟨some 32, none,.bin .sub (.t 31) (.c (vi 1))⟩,⟨some 7, none,.asg (.t 32)⟩] [0,1,2,6,7] []
def z86l6:IC:=(.seq (.seq z86r3 (.cond (.t 30) .skip (.exit 2))) (.seq (.block 3 z86r4) z86r5))
def z86r7:IC:=.reg [⟨some 13, none,.mv (.t 6)⟩,⟨some 14, none,.bin .add (.t 13) (.c (vi 1))⟩,⟨some 6, none,.asg (.t 14)⟩] [0,1,2,6] []
def z86l8:IC:=(.seq (.seq z86r1 (.cond (.t 12) .skip (.exit 0))) (.seq (.block 1 (.seq z86r2 (.block 2 (.loop z86l6)))) z86r7))
def zi86:IFun:=⟨[],[0],(.seq z86r0 (.block 0 (.loop z86l8)))⟩
def z101r0:IC:=.reg [⟨some 8, none,.asg (.c (.bool true))⟩] [0,1,2,3,8] []
def z101r1:IC:=.reg [⟨some 9, none,.asg (.c (.bool true))⟩] [0,1,2,3,8,9] []
def z101r2:IC:=.reg [⟨some 19, none,.mv (.t 2)⟩,⟨some 20, none,.mv (.t 1)⟩,⟨some 21, none,.bin .sub (.t 19) (.t 20)⟩,⟨some 10, none,.asg (.t 21)⟩] [0,1,2,3,8,9,10] []
def z101r3:IC:=.reg [⟨some 22, none,.mv (.t 10)⟩,⟨some 23, none,.bin .leq (.t 22) (.c (vi 12))⟩] [0,1,2,3,8,9,10,23] []
def z101r4:IC:=.reg [⟨some 24, none,.mv (.t 0)⟩,⟨some 25, none,.mv (.t 1)⟩,⟨some 26, none,.mv (.t 2)⟩,⟨some 27, none,.call zl86 [(.ld,(.t 24)),(.val,(.t 25)),(.val,(.t 26))] false⟩] [0] []
def z101r5:IC:=.reg [⟨some 28, none,.mv (.t 3)⟩,⟨some 29, none,.bin .eql (.t 28) (.c (vi 0))⟩] [0,1,2,3,8,9,10,29] []
def z101r6:IC:=.reg [⟨some 30, none,.mv (.t 0)⟩,⟨some 31, none,.mv (.t 1)⟩,⟨some 32, none,.mv (.t 2)⟩,⟨some 33, none,.call zl84 [(.ld,(.t 30)),(.val,(.t 31)),(.val,(.t 32))] false⟩] [0] []
def z101r7:IC:=.reg [⟨some 34, none,.mv (.t 8)⟩,⟨some 35, none,.unop .not (.t 34)⟩] [0,1,2,3,8,9,10,35] []
def z101r8:IC:=.reg [⟨some 36, none,.mv (.t 0)⟩,⟨some 37, none,.mv (.t 1)⟩,⟨some 38, none,.mv (.t 2)⟩,⟨some 39, none,.call zl80 [(.ld,(.t 36)),(.val,(.t 37)),(.val,(.t 38))] false⟩] [0,1,2,3,8,9,10] []
def z101r9:IC:=.reg [⟨some 40, none,.mv (.t 3)⟩,⟨some 41, none,.bin .sub (.t 40) (.c (vi 1))⟩,⟨some 3, none,.asg (.t 41)⟩] [0,1,2,3,8,9,10] []
def z101r10:IC:=.reg [⟨some 43, none,.mv (.t 0)⟩,⟨some 44, none,.mv (.t 1)⟩,⟨some 45, none,.mv (.t 2)⟩,⟨some 46, none,.call zl82 [(.rd,(.t 43)),(.val,(.t 44)),(.val,(.t 45))] true⟩,⟨some 42, none,.asg (.t 46)⟩,⟨some 47, none,.extr (.t 42) 0⟩,⟨some 48, none,.extr (.t 42) 1⟩,⟨some 11, none,.asg (.t 47)⟩,⟨some 12, none,.asg (.t 48)⟩] [0,1,2,3,8,9,10,11,12] []
def z101r11:IC:=.reg [⟨some 49, none,.mv (.t 12)⟩,⟨some 50, none,.bin .eql (.t 49) (.c (vi 2))⟩] [0,1,2,3,8,9,10,11,12,50] []
def z101r12:IC:=.reg [⟨some 51, none,.mv (.t 0)⟩,⟨some 52, none,.mv (.t 1)⟩,⟨some 53, none,.mv (.t 2)⟩,⟨some 54, none,.call zl103 [(.ld,(.t 51)),(.val,(.t 52)),(.val,(.t 53))] false⟩] [0,1,2,3,8,9,10,11] []
def z101r13:IC:=.reg [⟨some 55, none,.mv (.t 2)⟩,⟨some 56, none,.bin .sub (.t 55) (.c (vi 1))⟩,⟨some 57, none,.mv (.t 11)⟩,⟨some 58, none,.mv (.t 1)⟩,⟨some 59, none,.bin .sub (.t 57) (.t 58)⟩,⟨some 60, none,.bin .sub (.t 56) (.t 59)⟩,⟨some 11, none,.asg (.t 60)⟩] [0,1,2,3,8,9,10,11] []
def z101r14:IC:=.reg [⟨some 12, none,.asg (.c (vi 1))⟩] [0,1,2,3,8,9,10,11,12] []
def z101r15:IC:=.reg [⟨some 61, none,.mv (.t 8)⟩,⟨some 62, none,.asg (.t 61)⟩,⟨some 63, (some (62,true)),.mv (.t 9)⟩,⟨some 64, none,.pick (.t 62) (.t 63) (.c (.bool false))⟩,⟨some 65, none,.asg (.t 64)⟩,⟨some 66, (some (65,true)),.mv (.t 12)⟩,⟨some 67, (some (65,true)),.bin .eql (.t 66) (.c (vi 1))⟩,⟨some 68, none,.pick (.t 65) (.t 67) (.c (.bool false))⟩] [0,1,2,3,8,9,10,11,68] []
def z101r16:IC:=.reg [⟨some 69, none,.mv (.t 0)⟩,⟨some 70, none,.mv (.t 1)⟩,⟨some 71, none,.mv (.t 2)⟩,⟨some 72, none,.call zl95 [(.ld,(.t 69)),(.val,(.t 70)),(.val,(.t 71))] false⟩] [0,1,2,3,8,9,10,11,72] []
def z101r17:IC:=.reg [⟨some 73, none,.mv (.t 1)⟩,⟨some 74, none,.bin .gtr (.t 73) (.c (vi 0))⟩,⟨some 75, none,.asg (.t 74)⟩,⟨some 76, (some (75,true)),.mv (.t 0)⟩,⟨some 77, (some (75,true)),.mv (.t 1)⟩,⟨some 78, (some (75,true)),.bin .sub (.t 77) (.c (vi 1))⟩,⟨some 79, (some (75,true)),.iadr 1 (.t 76) (.t 78)⟩,⟨some 80, (some (75,true)),.load false 1 (.t 79)⟩,⟨some 81, (some (75,true)),.mv (.t 0)⟩,⟨some 82, (some (75,true)),.mv (.t 11)⟩,⟨some 83, (some (75,true)),.iadr 1 (.t 81) (.t 82)⟩,⟨some 84, (some (75,true)),.load false 1 (.t 83)⟩,⟨some 85, (some (75,true)),.call zl2 [(.val,(.t 80)),(.val,(.t 84))] true⟩,⟨some 86, (some (75,true)),.unop .not (.t 85)⟩,⟨some 87, none,.pick (.t 75) (.t 86) (.c (.bool false))⟩] [0,1,2,3,8,9,10,11,87] []
def z101r18:IC:=.reg [⟨some 88, none,.mv (.t 0)⟩,⟨some 89, none,.mv (.t 1)⟩,⟨some 90, none,.mv (.t 2)⟩,⟨some 91, none,.mv (.t 11)⟩,⟨some 92, none,.call zl98 [(.ld,(.t 88)),(.val,(.t 89)),(.val,(.t 90)),(.val,(.t 91))] false⟩,⟨some 13, none,.asg (.t 92)⟩] [0,2,3,8,9,13] []
def z101r19:IC:=.reg [⟨some 93, none,.mv (.t 13)⟩,⟨some 1, none,.asgm (.t 93)⟩] [0,1,2,3,8,9] []
def z101r20:IC:=.reg [⟨some 95, none,.mv (.t 0)⟩,⟨some 96, none,.mv (.t 1)⟩,⟨some 97, none,.mv (.t 2)⟩,⟨some 98, none,.mv (.t 11)⟩,⟨some 99, none,.call zl99 [(.ld,(.t 95)),(.val,(.t 96)),(.val,(.t 97)),(.val,(.t 98))] false⟩,⟨some 94, none,.asg (.t 99)⟩,⟨some 100, none,.extr (.t 94) 0⟩,⟨some 101, none,.extr (.t 94) 1⟩,⟨some 14, none,.asg (.t 100)⟩,⟨some 15, none,.asg (.t 101)⟩] [0,1,2,3,10,14,15] []
def z101r21:IC:=.reg [⟨some 102, none,.mv (.t 15)⟩,⟨some 9, none,.asgm (.t 102)⟩] [0,1,2,3,9,10,14] []
def z101r22:IC:=.reg [⟨some 103, none,.mv (.t 14)⟩,⟨some 104, none,.mv (.t 1)⟩,⟨some 105, none,.bin .sub (.t 103) (.t 104)⟩,⟨some 106, none,.mv (.t 2)⟩,⟨some 107, none,.mv (.t 14)⟩,⟨some 108, none,.bin .sub (.t 106) (.t 107)⟩,⟨some 16, none,.asg (.t 105)⟩,⟨some 17, none,.asg (.t 108)⟩] [0,1,2,3,9,10,14,16,17] []
def z101r23:IC:=.reg [⟨some 109, none,.mv (.t 10)⟩,⟨some 110, none,.bin .quo (.t 109) (.c (vi 8))⟩,⟨some 18, none,.asg (.t 110)⟩] [0,1,2,3,9,14,16,17,18] []
def z101r24:IC:=.reg [⟨some 111, none,.mv (.t 16)⟩,⟨some 112, none,.mv (.t 17)⟩,⟨some 113, none,.bin .lss (.t 111) (.t 112)⟩] [0,1,2,3,9,14,16,17,18,113] []
def z101r25:IC:=.reg [⟨some 114, none,.mv (.t 16)⟩,⟨some 115, none,.mv (.t 18)⟩,⟨some 116, none,.bin .geq (.t 114) (.t 115)⟩,⟨some 8, none,.asg (.t 116)⟩] [0,1,2,3,8,9,14] []
def z101r26:IC:=.reg [⟨some 117, none,.mv (.t 0)⟩,⟨some 118, none,.mv (.t 1)⟩,⟨some 119, none,.mv (.t 14)⟩,⟨some 120, none,.mv (.t 3)⟩,⟨some 121, none,.call zl101 [(.ld,(.t 117)),(.val,(.t 118)),(.val,(.t 119)),(.val,(.t 120))] false⟩] [0,2,3,8,9,14] []
def z101r27:IC:=.reg [⟨some 122, none,.mv (.t 14)⟩,⟨some 123, none,.bin .add (.t 122) (.c (vi 1))⟩,⟨some 1, none,.asg (.t 123)⟩] [0,1,2,3,8,9] []
def z101r28:IC:=.reg [⟨some 124, none,.mv (.t 17)⟩,⟨some 125, none,.mv (.t 18)⟩,⟨some 126, none,.bin .geq (.t 124) (.t 125)⟩,⟨some 8, none,.asg (.t 126)⟩] [0,1,2,3,8,9,14] []
def z101r29:IC:=.reg [⟨some 127, none,.mv (.t 0)⟩,⟨some 128, none,.mv (.t 14)⟩,⟨some 129, none,.bin .add (.t 128) (.c (vi 1))⟩,⟨some 130, none,.mv (.t 2)⟩,⟨some 131, none,.mv (.t 3)⟩,⟨some 132, none,.call zl101 [(.ld,(.t 127)),(.val,(.t 129)),(.val,(.t 130)),(.val,(.t 131))] false⟩] [0,1,3,8,9,14] []
def z101r30:IC:=.reg [⟨some 133, none,.mv (.t 14)⟩,⟨some 2, none,.asgm (.t 133)⟩] [0,1,2,3,8,9] []
def z101l31:IC:=(.block 1 (.seq z101r2 (.seq (.seq z101r3 (.cond (.t 23) (.seq z101r4 .ret) .skip)) (.seq (.seq z101r5 (.cond (.t 29) (.seq z101r6 .ret) .skip)) (.seq (.seq z101r7 (.cond (.t 35) (.seq z101r8 z101r9) .skip)) (.seq z101r10 (.seq (.seq z101r11 (.cond (.t 50) (.seq z101r12 (.seq z101r13 z101r14)) .skip)) (.seq (.seq z101r15 (.cond (.t 68) (.seq z101r16 (.cond (.t 72) .ret .skip)) .skip)) (.seq (.seq z101r17 (.cond (.t 87) (.seq z101r18 (.seq z101r19 (.exit 1))) .skip)) (.seq z101r20 (.seq z101r21 (.seq z101r22 (.seq z101r23 (.seq z101r24 (.cond (.t 113) (.seq z101r25 (.seq z101r26 z101r27)) (.seq z101r28 (.seq z101r29 z101r30)))))))))))))))))
def zi101:IFun:=⟨[],[0],(.seq z101r0 (.seq z101r1 (.block 0 (.loop z101l31))))⟩
def z307r0:IC:=.reg [⟨some 2, none,.asg (.c (.slice none 0 0))⟩,⟨some 3, none,.asg (.c (.slice none 0 0))⟩] [0] []
def z307r1:IC:=.reg [⟨some 11, none,.mv (.t 0)⟩,⟨some 12, none,.call zl137 [(.rd,(.t 11))] false⟩,⟨some 4, none,.asg (.t 12)⟩] [4] []
def z307r2:IC:=.reg [⟨some 13, none,.mv (.t 4)⟩,⟨some 14, none,.call zl140 [(.val,(.t 13)),(.val,(.c (vi 5)))] false⟩,⟨some 15, none,.bin .add (.c (vi 1)) (.t 14)⟩,⟨some 5, none,.asg (.t 15)⟩] [4,5] []
def z307r3:IC:=.reg [⟨some 16, none,.mv (.t 4)⟩,⟨some 17, none,.mv (.t 5)⟩,⟨some 18, none,.mv (.t 5)⟩,⟨some 19, none,.call zl331 [(.val,(.t 16)),(.val,(.t 17)),(.val,(.t 18))] false⟩,⟨some 6, none,.asg (.t 19)⟩] [4,5,6] []
def z307r4:IC:=.reg [⟨some 7, none,.asg (.c (vi 0))⟩] [4,5,6,7] []
def z307r5:IC:=.reg [⟨some 20, none,.mv (.t 7)⟩,⟨some 21, none,.mv (.t 5)⟩,⟨some 22, none,.bin .lss (.t 20) (.t 21)⟩] [4,5,6,7,22] []
def z307r6:IC:=.reg [⟨some 25, none,.mv (.t 6)⟩,⟨some 26, none,.mv (.t 7)⟩,⟨some 27, none,.iadr 1 (.t 25) (.t 26)⟩,⟨some 28, none,.load false 1 (.t 27)⟩,⟨some 29, none,.mv (.t 7)⟩,⟨some 30, none,.iadr 1 (.t 28) (.t 29)⟩,⟨none,none,.store 1 (.t 30) (.c (vi 0))⟩] [4,5,6,7] []
def z307r7:IC:=.reg [⟨some 23, none,.mv (.t 7)⟩,⟨some 24, none,.bin .add (.t 23) (.c (vi 1))⟩,⟨some 7, none,.asg (.t 24)⟩] [4,5,6,7] []
def z307l8:IC:=(.seq (.seq z307r5 (.cond (.t 22) .skip (.exit 0))) (.seq (.block 1 z307r6) z307r7))
def z307r9:IC:=.reg [⟨some 31, none,.mv (.t 6)⟩,⟨some 32, none,.call zl371 [(.rd,(.t 31))] true⟩,⟨some 8, none,.asg (.t 32)⟩] [4,5,6,8] []
def z307r10:IC:=.reg [⟨some 33, none,.mv (.t 6)⟩,⟨some 34, none,.call zl385 [(.rd,(.t 33))] true⟩,⟨some 35, none,.call zl371 [(.rd,(.t 34))] true⟩,⟨some 9, none,.asg (.t 35)⟩] [4,5,8,9] []
def z307r11:IC:=.reg [⟨some 36, none,.mv (.t 4)⟩,⟨some 37, none,.call zl140 [(.val,(.t 36)),(.val,(.c (vi 6)))] false⟩] [4,5,8,9,37] []
def z307r12:IC:=.reg [⟨some 39, none,.bin .eql (.t 37) (.c (vi 0))⟩,⟨some 38, none,.asg (.t 39)⟩] [4,5,8,9,37,38] []
def z307r13:IC:=.reg [⟨some 40, none,.mv (.t 4)⟩,⟨some 41, none,.mv (.t 8)⟩,⟨some 42, none,.call zl135 [(.val,(.t 40)),(.tk,(.t 41))] false⟩,⟨some 8, none,.asg (.t 42)⟩] [8,9] []
def z307r14:IC:=.reg [⟨some 44, none,.bin .eql (.t 37) (.c (vi 1))⟩,⟨some 43, none,.asg (.t 44)⟩] [4,5,8,9,37,43] []
def z307r15:IC:=.reg [⟨some 45, none,.mv (.t 4)⟩,⟨some 46, none,.mv (.t 9)⟩,⟨some 47, none,.call zl135 [(.val,(.t 45)),(.tk,(.t 46))] false⟩,⟨some 9, none,.asg (.t 47)⟩] [8,9] []
def z307r16:IC:=.reg [⟨some 49, none,.bin .eql (.t 37) (.c (vi 2))⟩,⟨some 48, none,.asg (.t 49)⟩] [4,5,8,9,37,48] []
def z307r17:IC:=.reg [⟨some 50, none,.mv (.t 5)⟩,⟨some 51, none,.bin .gtr (.t 50) (.c (vi 1))⟩] [5,8,9,51] []
def z307r18:IC:=.reg [⟨some 52, none,.mv (.t 9)⟩,⟨some 53, none,.iadr 1 (.t 52) (.c (vi 0))⟩,⟨some 54, none,.load false 1 (.t 53)⟩,⟨some 10, none,.asg (.t 54)⟩] [5,8,9,10] []
def z307r19:IC:=.reg [⟨some 55, none,.mv (.t 9)⟩,⟨some 56, none,.mv (.t 9)⟩,⟨some 57, none,.mv (.t 5)⟩,⟨some 58, none,.bin .sub (.t 57) (.c (vi 1))⟩,⟨some 59, none,.iadr 1 (.t 56) (.t 58)⟩,⟨some 60, none,.load false 1 (.t 59)⟩,⟨some 61, none,.iadr 1 (.t 55) (.c (vi 0))⟩,⟨none,none,.store 1 (.t 61) (.t 60)⟩] [5,8,9,10] []
def z307r20:IC:=.reg [⟨some 62, none,.mv (.t 9)⟩,⟨some 63, none,.mv (.t 5)⟩,⟨some 64, none,.bin .sub (.t 63) (.c (vi 1))⟩,⟨some 65, none,.mv (.t 10)⟩,⟨some 66, none,.iadr 1 (.t 62) (.t 64)⟩,⟨none,none,.store 1 (.t 66) (.t 65)⟩] [8,9] []
def z307r21:IC:=.reg [⟨some 68, none,.bin .eql (.t 37) (.c (vi 3))⟩,⟨some 67, none,.asg (.t 68)⟩] [4,8,9,67] []
def z307r22:IC:=.reg [⟨some 69, none,.mv (.t 4)⟩,⟨some 70, none,.call zl140 [(.val,(.t 69)),(.val,(.c (vi 4)))] false⟩,⟨some 71, none,.bin .eql (.t 70) (.c (vi 0))⟩] [8,9,71] []
def z307r23:IC:=.reg [⟨some 72, none,.mv (.t 8)⟩,⟨some 73, none,.bsl 1 [(vi 0)] 1 [(0,(.c (vi 0)))]⟩,⟨some 74, none,.app 1 (.t 72) (.t 73)⟩,⟨some 8, none,.asg (.t 74)⟩] [8,9] []
def z307r24:IC:=.reg [⟨some 75, none,.mv (.t 8)⟩,⟨some 76, none,.mv (.t 9)⟩,⟨some 2, none,.asgm (.t 75)⟩,⟨some 3, none,.asgm (.t 76)⟩] [2,3,8,9] []
def zi307:IFun:=⟨[.t 2,.t 3],[],(.seq z307r0 (.seq z307r1 (.seq z307r2 (.seq z307r3 (.seq (.seq z307r4 (.block 0 (.loop z307l8))) (.seq z307r9 (.seq z307r10 (.seq (.seq z307r11 (.block 2 (.seq z307r12 (.cond (.t 38) z307r13 (.seq z307r14 (.cond (.t 43) z307r15 (.seq z307r16 (.cond (.t 48) (.seq z307r17 (.cond (.t 51) (.seq z307r18 (.seq z307r19 z307r20)) .skip)) (.seq z307r21 (.cond (.t 67) (.seq z307r22 (.cond (.t 71) z307r23 .skip)) .skip)))))))))) (.seq z307r24 .ret)))))))))⟩
def z318r0:IC:=.reg [⟨some 4, none,.asg (.c (.bool false))⟩] [0,1] []
def z318r1:IC:=.reg [⟨some 5, none,.mv (.t 0)⟩,⟨some 6, none,.len (.t 5)⟩,⟨some 7, none,.mv (.t 1)⟩,⟨some 8, none,.len (.t 7)⟩,⟨some 9, none,.bin .eql (.t 6) (.t 8)⟩,⟨some 10, none,.asg (.t 9)⟩,⟨some 11, (some (10,true)),.mv (.t 0)⟩,⟨some 12, (some (10,true)),.call zl388 [(.rd,(.t 11))] true⟩,⟨some 13, none,.pick (.t 10) (.t 12) (.c (.bool false))⟩,⟨some 14, none,.asg (.t 13)⟩,⟨some 15, (some (14,true)),.mv (.t 1)⟩,⟨some 16, (some (14,true)),.call zl388 [(.rd,(.t 15))] true⟩,⟨some 17, none,.pick (.t 14) (.t 16) (.c (.bool false))⟩,⟨some 18, none,.asg (.t 17)⟩,⟨some 19, (some (18,true)),.mv (.t 0)⟩,⟨some 20, (some (18,true)),.mv (.t 1)⟩,⟨some 21, (some (18,true)),.call zl356 [(.rd,(.t 19)),(.rd,(.t 20))] true⟩,⟨some 22, none,.pick (.t 18) (.t 21) (.c (.bool false))⟩,⟨some 4, none,.asg (.t 22)⟩] [4] []
def zi318:IFun:=⟨[.t 4],[],(.seq z318r0 (.seq z318r1 .ret))⟩
def z331r0:IC:=.reg [⟨some 6, none,.asg (.c (.slice none 0 0))⟩] [0,1,2] []
def z331r1:IC:=.reg [⟨some 11, none,.bsl 1 [(.slice none 0 0)] 0 []⟩,⟨some 7, none,.asg (.t 11)⟩] [0,1,2,7] []
def z331r2:IC:=.reg [⟨some 8, none,.asg (.c (vi 0))⟩] [0,1,2,7,8] []
def z331r3:IC:=.reg [⟨some 12, none,.mv (.t 8)⟩,⟨some 13, none,.mv (.t 1)⟩,⟨some 14, none,.bin .lss (.t 12) (.t 13)⟩] [0,1,2,7,8,14] []
def z331r4:IC:=.reg [⟨some 17, none,.bsl 1 [(vi 0)] 0 []⟩,⟨some 9, none,.asg (.t 17)⟩] [0,1,2,7,8,9] []
def z331r5:IC:=.reg [⟨some 10, none,.asg (.c (vi 0))⟩] [0,1,2,7,8,9,10] []
def z331r6:IC:=.reg [⟨some 18, none,.mv (.t 10)⟩,⟨some 19, none,.mv (.t 2)⟩,⟨some 20, none,.bin .lss (.t 18) (.t 19)⟩] [0,1,2,7,8,9,10,20] []
def z331r7:IC:=.reg [⟨some 23, none,.mv (.t 9)⟩,⟨some 24, none,.mv (.t 0)⟩,⟨some 25, none,.call zl140 [(.val,(.t 24)),(.val,(.c (vi 2)))] false⟩,⟨some 26, none,.bsl 1 [(vi 0)] 1 [(0,(.t 25))]⟩,⟨some 27, none,.app 1 (.t 23) (.t 26)⟩,⟨some 9, none,.asg (.t 27)⟩] [0,1,2,7,8,9,10] []
def z331r8:IC:=.reg [⟨some 21, none,.mv (.t 10)⟩,⟨some 22, none,.bin .add (.t 21) (.c (vi 1))⟩,⟨some 10, none,.asg (.t 22)⟩] [0,1,2,7,8,9,10] []
def z331l9:IC:=(.seq (.seq z331r6 (.cond (.t 20) .skip (.exit 2))) (.seq (.block 3 z331r7) z331r8))
def z331r10:IC:=.reg [⟨some 28, none,.mv (.t 7)⟩,⟨some 29, none,.mv (.t 9)⟩,⟨some 30, none,.bsl 1 [(.slice none 0 0)] 1 [(0,(.t 29))]⟩,⟨some 31, none,.app 1 (.t 28) (.t 30)⟩,⟨some 7, none,.asg (.t 31)⟩] [0,1,2,7,8] []
def z331r11:IC:=.reg [⟨some 15, none,.mv (.t 8)⟩,⟨some 16, none,.bin .add (.t 15) (.c (vi 1))⟩,⟨some 8, none,.asg (.t 16)⟩] [0,1,2,7,8] []
def z331l12:IC:=(.seq (.seq z331r3 (.cond (.t 14) .skip (.exit 0))) (.seq (.block 1 (.seq z331r4 (.seq (.seq z331r5 (.block 2 (.loop z331l9))) z331r10))) z331r11))
def z331r13:IC:=.reg [⟨some 32, none,.mv (.t 7)⟩,⟨some 6, none,.asgm (.t 32)⟩] [6,7] []
def zi331:IFun:=⟨[.t 6],[],(.seq z331r0 (.seq z331r1 (.seq (.seq z331r2 (.block 0 (.loop z331l12))) (.seq z331r13 .ret))))⟩
def z337r0:IC:=.reg [⟨some 2, none,.box (.t 0)⟩,⟨some 3, none,.box (.t 1)⟩,⟨some 4, none,.asg (.c (.bool false))⟩] [2,3] []
def z337r1:IC:=.reg [⟨some 5, none,.fadr 0 (.t 2)⟩,⟨some 6, none,.load false 1 (.t 5)⟩,⟨some 7, none,.fadr 0 (.t 3)⟩,⟨some 8, none,.load false 1 (.t 7)⟩,⟨some 9, none,.bin .gtr (.t 6) (.t 8)⟩,⟨some 10, none,.asg (.t 9)⟩,⟨some 11, (some (10,false)),.fadr 0 (.t 2)⟩,⟨some 12, (some (10,false)),.load false 1 (.t 11)⟩,⟨some 13, (some (10,false)),.fadr 0 (.t 3)⟩,⟨some 14, (some (10,false)),.load false 1 (.t 13)⟩,⟨some 15, (some (10,false)),.bin .eql (.t 12) (.t 14)⟩,⟨some 16, (some (10,false)),.asg (.t 15)⟩,⟨some 17, (some (16,true)),.fadr 1 (.t 2)⟩,⟨some 18, (some (16,true)),.load false 1 (.t 17)⟩,⟨some 19, (some (16,true)),.fadr 1 (.t 3)⟩,⟨some 20, (some (16,true)),.load false 1 (.t 19)⟩,⟨some 21, (some (16,true)),.bin .geq (.t 18) (.t 20)⟩,⟨some 22, (some (10,false)),.pick (.t 16) (.t 21) (.c (.bool false))⟩,⟨some 23, none,.pick (.t 10) (.c (.bool true)) (.t 22)⟩,
    ⟨some 4, none,.asg (.t 23)⟩] [4] []
def zi337:IFun:=⟨[.t 4],[],(.seq z337r0 (.seq z337r1 .ret))⟩
def z338r0:IC:=.reg [⟨some 4, none,.asg (.c (.slice none 0 0))⟩] [0,1] []
def z338r1:IC:=.reg [⟨some 9, none,.bsl 2 [(vi 0),(vi 0)] 0 []⟩,⟨some 5, none,.asg (.t 9)⟩] [0,1,5] []
def z338r2:IC:=.reg [⟨some 6, none,.asg (.c (vi 0))⟩] [0,1,5,6] []
def z338r3:IC:=.reg [⟨some 10, none,.mv (.t 6)⟩,⟨some 11, none,.mv (.t 0)⟩,⟨some 12, none,.len (.t 11)⟩,⟨some 13, none,.bin .lss (.t 10) (.t 12)⟩] [0,1,5,6,13] []
def z338r4:IC:=.reg [⟨some 16, none,.mv (.t 0)⟩,⟨some 17, none,.mv (.t 6)⟩,⟨some 18, none,.iadr 1 (.t 16) (.t 17)⟩,⟨some 19, none,.load false 1 (.t 18)⟩,⟨some 20, none,.mv (.t 1)⟩,⟨some 21, none,.mv (.t 6)⟩,⟨some 22, none,.iadr 1 (.t 20) (.t 21)⟩,⟨some 23, none,.load false 1 (.t 22)⟩,⟨some 24, none,.build [(vi 0),(vi 0)] [(0,1,(.t 19)),(1,1,(.t 23))]⟩,⟨some 7, none,.alloc [(vi 0),(vi 0)]⟩,⟨none,none,.store 2 (.t 7) (.t 24)⟩] [0,1,5,6,7] [[0,1,2,3,4,5,6,7,9,8,10],[0,1,2,3,4,5,6,9,7,8,10],[0,1,2,4,5,6,7,9,3,8,10],[0,1,2,4,5,6,9,3,7,8,10]]
def z338r5:IC:=.reg [⟨some 8, none,.asg (.c (vi 0))⟩] [0,1,5,6,7,8] []
def z338r6:IC:=.reg [⟨some 25, none,.mv (.t 8)⟩,⟨some 26, none,.mv (.t 5)⟩,⟨some 27, none,.len (.t 26)⟩,⟨some 28, none,.bin .lss (.t 25) (.t 27)⟩,⟨some 29, none,.asg (.t 28)⟩,⟨some 30, (some (29,true)),.mv (.t 5)⟩,⟨some 31, (some (29,true)),.mv (.t 8)⟩,⟨some 32, (some (29,true)),.iadr 2 (.t 30) (.t 31)⟩,⟨some 33, (some (29,true)),.load true 2 (.t 32)⟩,⟨some 34, (some (29,true)),.load true 2 (.t 7)⟩,⟨some 35, (some (29,true)),.call zl337 [(.val,(.t 33)),(.val,(.t 34))] true⟩,⟨some 36, none,.pick (.t 29) (.t 35) (.c (.bool false))⟩] [0,1,5,6,7,8,36] []
def z338r7:IC:=.reg [⟨some 37, none,.mv (.t 8)⟩,⟨some 38, none,.bin .add (.t 37) (.c (vi 1))⟩,⟨some 8, none,.asg (.t 38)⟩] [0,1,5,6,7,8] []
def z338l8:IC:=(.seq (.seq z338r6 (.cond (.t 36) .skip (.exit 2))) (.block 3 z338r7))
def z338r9:IC:=.reg [⟨some 39, none,.bsl 2 [(vi 0),(vi 0)] 0 []⟩,⟨some 40, none,.mv (.t 5)⟩,⟨some 41, none,.mv (.t 8)⟩,⟨some 42, none,.slc 2 (.t 40) none (some (.t 41)) none⟩,⟨some 43, none,.app 2 (.t 39) (.t 42)⟩,⟨some 44, none,.load true 2 (.t 7)⟩,⟨some 45, none,.bsl 2 [(vi 0),(vi 0)] 1 [(0,(.t 44))]⟩,⟨some 46, none,.app 2 (.t 43) (.t 45)⟩,⟨some 47, none,.mv (.t 5)⟩,⟨some 48, none,.mv (.t 8)⟩,⟨some 49, none,.slc 2 (.t 47) (some (.t 48)) none none⟩,⟨some 50, none,.app 2 (.t 46) (.t 49)⟩,⟨some 5, none,.asg (.t 50)⟩] [0,1,5,6] [[0,1,2,3,5,4,6,7,8,9,10,11,12],[0,1,2,3,5,6,4,7,8,9,10,11,12],[1,2,3,5,0,4,6,7,8,9,10,11,12],[1,2,3,5,0,6,4,7,8,9,10,11,12],[1,2,3,5,6,0,4,7,8,9,10,11,12]]
def z338r10:IC:=.reg [⟨some 14, none,.mv (.t 6)⟩,⟨some 15, none,.bin .add (.t 14) (.c (vi 1))⟩,⟨some 6, none,.asg (.t 15)⟩] [0,1,5,6] []
def z338l11:IC:=(.seq (.seq z338r3 (.cond (.t 13) .skip (.exit 0))) (.seq (.block 1 (.seq z338r4 (.seq z338r5 (.seq (.block 2 (.loop z338l8)) z338r9)))) z338r10))
def z338r12:IC:=.reg [⟨some 51, none,.mv (.t 5)⟩,⟨some 4, none,.asgm (.t 51)⟩] [4,5] []
def zi338:IFun:=⟨[.t 4],[],(.seq z338r0 (.seq z338r1 (.seq (.seq z338r2 (.block 0 (.loop z338l11))) (.seq z338r12 .ret))))⟩
def z132r0:IC:=.reg [⟨some 6, none,.asg (.c (.bool false))⟩] [0,1,2] []
def z132r1:IC:=.reg [⟨some 7, none,.mv (.t 1)⟩,⟨some 8, none,.mv (.t 0)⟩,⟨some 9, none,.bin .leq (.t 7) (.t 8)⟩,⟨some 10, none,.asg (.t 9)⟩,⟨some 11, (some (10,true)),.mv (.t 0)⟩,⟨some 12, (some (10,true)),.mv (.t 2)⟩,⟨some 13, (some (10,true)),.bin .leq (.t 11) (.t 12)⟩,⟨some 14, none,.pick (.t 10) (.t 13) (.c (.bool false))⟩,⟨some 6, none,.asg (.t 14)⟩] [6] []
def zi132:IFun:=⟨[.t 6],[],(.seq z132r0 (.seq z132r1 .ret))⟩
def z356r0:IC:=.reg [⟨some 4, none,.asg (.c (.bool false))⟩] [0,1] []
def z356r1:IC:=.reg [⟨some 9, none,.mv (.t 0)⟩,⟨some 10, none,.mv (.t 1)⟩,⟨some 11, none,.call zl338 [(.rd,(.t 9)),(.rd,(.t 10))] true⟩,⟨some 5, none,.asg (.t 11)⟩] [0,1,5] []
def z356r2:IC:=.reg [⟨some 6, none,.asg (.c (vi 1))⟩] [0,1,5,6] []
def z356r3:IC:=.reg [⟨some 12, none,.mv (.t 6)⟩,⟨some 13, none,.mv (.t 5)⟩,⟨some 14, none,.len (.t 13)⟩,⟨some 15, none,.bin .leq (.t 12) (.t 14)⟩] [0,1,5,6,15] []
def z356r4:IC:=.reg [⟨some 7, none,.asg (.c (vi 0))⟩] [0,1,5,6,7] []
def z356r5:IC:=.reg [⟨some 8, none,.asg (.c (vi 0))⟩] [0,1,5,6,7,8] []
def z356r6:IC:=.reg [⟨some 18, none,.mv (.t 8)⟩,⟨some 19, none,.mv (.t 5)⟩,⟨some 20, none,.len (.t 19)⟩,⟨some 21, none,.bin .lss (.t 18) (.t 20)⟩] [0,1,5,6,7,8,21] []
def z356r7:IC:=.reg [⟨some 24, none,.mv (.t 8)⟩,⟨some 25, none,.mv (.t 6)⟩,⟨some 26, none,.bin .lss (.t 24) (.t 25)⟩] [0,1,5,6,7,8,26] []
def z356r8:IC:=.reg [⟨some 27, none,.mv (.t 7)⟩,⟨some 28, none,.mv (.t 5)⟩,⟨some 29, none,.mv (.t 8)⟩,⟨some 30, none,.iadr 2 (.t 28) (.t 29)⟩,⟨some 31, none,.fadr 1 (.t 30)⟩,⟨some 32, none,.load false 1 (.t 31)⟩,⟨some 33, none,.mv (.t 6)⟩,⟨some 34, none,.bin .sub (.t 33) (.c (vi 1))⟩,⟨some 35, none,.minmax true (.t 32) (.t 34)⟩,⟨some 36, none,.bin .add (.t 27) (.t 35)⟩,⟨some 37, none,.mv (.t 5)⟩,⟨some 38, none,.mv (.t 8)⟩,⟨some 39, none,.iadr 2 (.t 37) (.t 38)⟩,⟨some 40, none,.fadr 0 (.t 39)⟩,⟨some 41, none,.load false 1 (.t 40)⟩,⟨some 42, none,.bin .sub (.t 36) (.t 41)⟩,⟨some 7, none,.asg (.t 42)⟩] [0,1,5,6,7,8] []
def z356r9:IC:=.reg [⟨some 43, none,.mv (.t 7)⟩,⟨some 44, none,.mv (.t 5)⟩,⟨some 45, none,.mv (.t 8)⟩,⟨some 46, none,.iadr 2 (.t 44) (.t 45)⟩,⟨some 47, none,.fadr 1 (.t 46)⟩,⟨some 48, none,.load false 1 (.t 47)⟩,⟨some 49, none,.mv (.t 6)⟩,⟨some 50, none,.minmax true (.t 48) (.t 49)⟩,⟨some 51, none,.bin .add (.t 43) (.t 50)⟩,⟨some 7, none,.asg (.t 51)⟩] [0,1,5,6,7,8] []
def z356r10:IC:=.reg [⟨some 22, none,.mv (.t 8)⟩,⟨some 23, none,.bin .add (.t 22) (.c (vi 1))⟩,⟨some 8, none,.asg (.t 23)⟩] [0,1,5,6,7,8] []
def z356l11:IC:=(.seq (.seq z356r6 (.cond (.t 21) .skip (.exit 2))) (.seq (.block 3 (.seq z356r7 (.cond (.t 26) z356r8 z356r9))) z356r10))
def z356r12:IC:=.reg [⟨some 52, none,.mv (.t 7)⟩,⟨some 53, none,.bin .lss (.t 52) (.c (vi 0))⟩] [0,1,5,6,53] []
def z356r13:IC:=.reg [⟨some 4, none,.asg (.c (.bool false))⟩] [4] []
def z356r14:IC:=.reg [⟨some 16, none,.mv (.t 6)⟩,⟨some 17, none,.bin .add (.t 16) (.c (vi 1))⟩,⟨some 6, none,.asg (.t 17)⟩] [0,1,5,6] []
def z356l15:IC:=(.seq (.seq z356r3 (.cond (.t 15) .skip (.exit 0))) (.seq (.block 1 (.seq z356r4 (.seq (.seq z356r5 (.block 2 (.loop z356l11))) (.seq z356r12 (.cond (.t 53) (.seq z356r13 .ret) .skip))))) z356r14))
def z356r16:IC:=.reg [⟨some 54, none,.mv (.t 0)⟩,⟨some 55, none,.call zl382 [(.rd,(.t 54))] true⟩,⟨some 56, none,.mv (.t 1)⟩,⟨some 57, none,.call zl382 [(.rd,(.t 56))] true⟩,⟨some 58, none,.bin .eql (.t 55) (.t 57)⟩,⟨some 4, none,.asg (.t 58)⟩] [4] []
def zi356:IFun:=⟨[.t 4],[],(.seq z356r0 (.seq z356r1 (.seq (.seq z356r2 (.block 0 (.loop z356l15))) (.seq z356r16 .ret))))⟩
def z135r0:IC:=.reg [⟨some 4, none,.asg (.c (.slice none 0 0))⟩] [0,1] []
def z135r1:IC:=.reg [⟨some 7, none,.mv (.t 1)⟩,⟨some 8, none,.len (.t 7)⟩,⟨some 9, none,.bin .lss (.t 8) (.c (vi 2))⟩] [0,1,9] []
def z135r2:IC:=.reg [⟨some 10, none,.mv (.t 1)⟩,⟨some 4, none,.asgm (.t 10)⟩] [1,4] []
def z135r3:IC:=.reg [⟨some 11, none,.mv (.t 0)⟩,⟨some 12, none,.bsl 1 [(vi 0)] 5 [(0,(.c (vi 0))),(1,(.c (vi 1))),(2,(.c (vi 2))),(3,(.c (vi 2))),(4,(.c (vi 3)))]⟩,⟨some 13, none,.call zl139 [(.val,(.t 11)),(.rd,(.t 12))] false⟩,⟨some 5, none,.asg (.t 13)⟩] [0,1,5] []
def z135r4:IC:=.reg [⟨some 14, none,.mv (.t 5)⟩,⟨some 15, none,.bin .gtr (.t 14) (.c (vi 0))⟩] [0,1,5,15] []
def z135r5:IC:=.reg [⟨some 18, none,.mv (.t 0)⟩,⟨some 19, none,.mv (.t 1)⟩,⟨some 20, none,.len (.t 19)⟩,⟨some 21, none,.call zl140 [(.val,(.t 18)),(.val,(.t 20))] false⟩,⟨some 6, none,.asg (.t 21)⟩] [0,1,5,6] []
def z135r6:IC:=.reg [⟨some 22, none,.mv (.t 1)⟩,⟨some 23, none,.mv (.t 6)⟩,⟨some 24, none,.mv (.t 1)⟩,⟨some 25, none,.mv (.t 6)⟩,⟨some 26, none,.iadr 1 (.t 24) (.t 25)⟩,⟨some 27, none,.load false 1 (.t 26)⟩,⟨some 28, none,.mv (.t 0)⟩,⟨some 29, none,.bsl 1 [(vi 0)] 4 [(0,(.c (vi 1))),(1,(.c (vi (-1)))),(2,(.c (vi 1))),(3,(.c (vi 2)))]⟩,⟨some 30, none,.call zl139 [(.val,(.t 28)),(.rd,(.t 29))] false⟩,⟨some 31, none,.bin .add (.t 27) (.t 30)⟩,⟨some 32, none,.minmax false (.t 31) (.c (vi 0))⟩,⟨some 33, none,.mv (.t 1)⟩,⟨some 34, none,.len (.t 33)⟩,⟨some 35, none,.bin .sub (.t 34) (.c (vi 1))⟩,⟨some 36, none,.minmax true (.t 32) (.t 35)⟩,⟨some 37, none,.iadr 1 (.t 22) (.t 23)⟩,⟨none,none,.store 1 (.t 37) (.t 36)⟩] [0,1,5] [[0,1,2,3,4,6,7,5,8,9,10,11,12,13,14,15,16],[0,1,2,3,4,6,7,8,5,9,10,11,12,13,14,15,16]]
def z135r7:IC:=.reg [⟨some 16, none,.mv (.t 5)⟩,⟨some 17, none,.bin .sub (.t 16) (.c (vi 1))⟩,⟨some 5, none,.asg (.t 17)⟩] [0,1,5] []
def z135l8:IC:=(.seq (.seq z135r4 (.cond (.t 15) .skip (.exit 0))) (.seq (.block 1 (.seq z135r5 z135r6)) z135r7))
def z135r9:IC:=.reg [⟨some 38, none,.mv (.t 1)⟩,⟨some 4, none,.asgm (.t 38)⟩] [1,4] []
def zi135:IFun:=⟨[.t 4],[],(.seq z135r0 (.seq (.seq z135r1 (.cond (.t 9) (.seq z135r2 .ret) .skip)) (.seq (.seq z135r3 (.block 0 (.loop z135l8))) (.seq z135r9 .ret))))⟩
def z137r0:IC:=.reg [⟨some 2, none,.asg (.c (.pointer none))⟩] [0] []
def z137r1:IC:=.reg [⟨some 3, none,.mv (.t 0)⟩,⟨some 4, none,.len (.t 3)⟩,⟨some 5, none,.bin .gtr (.t 4) (.c (vi 2000))⟩] [0,5] []
def z137r2:IC:=.reg [⟨some 6, none,.mv (.t 0)⟩,⟨some 7, none,.slc 1 (.t 6) none (some (.c (vi 2000))) none⟩,⟨some 0, none,.asgm (.t 7)⟩] [0] []
def z137r3:IC:=.reg [⟨some 8, none,.mv (.t 0)⟩,⟨some 9, none,.build [(.slice none 0 0),(vi 0)] [(0,1,(.t 8))]⟩,⟨some 10, none,.box (.t 9)⟩,⟨some 2, none,.asg (.t 10)⟩] [2] []
def zi137:IFun:=⟨[.t 2],[],(.seq z137r0 (.seq (.seq z137r1 (.cond (.t 5) z137r2 .skip)) (.seq z137r3 .ret)))⟩
def z139r0:IC:=.reg [⟨some 4, none,.asg (.c (vi 0))⟩] [0,1] []
def z139r1:IC:=.reg [⟨some 5, none,.mv (.t 1)⟩,⟨some 6, none,.mv (.t 0)⟩,⟨some 7, none,.mv (.t 1)⟩,⟨some 8, none,.len (.t 7)⟩,⟨some 9, none,.call zl140 [(.val,(.t 6)),(.val,(.t 8))] false⟩,⟨some 10, none,.iadr 1 (.t 5) (.t 9)⟩,⟨some 11, none,.load false 1 (.t 10)⟩,⟨some 4, none,.asg (.t 11)⟩] [4] []
def zi139:IFun:=⟨[.t 4],[],(.seq z139r0 (.seq z139r1 .ret))⟩
def z140r0:IC:=.reg [⟨some 4, none,.asg (.c (vi 0))⟩] [0,1] []
def z140r1:IC:=.reg [⟨some 7, none,.mv (.t 0)⟩,⟨some 8, none,.mv (.t 0)⟩,⟨some 9, none,.nilck (.t 8)⟩,⟨some 10, none,.fadr 1 (.t 9)⟩,⟨some 11, none,.load false 1 (.t 10)⟩,⟨some 12, none,.bin .add (.t 11) (.c (vi 1))⟩,⟨some 13, none,.nilck (.t 7)⟩,⟨some 14, none,.fadr 1 (.t 13)⟩,⟨none,none,.store 1 (.t 14) (.t 12)⟩] [0,1] []
def z140r2:IC:=.reg [⟨some 15, none,.mv (.t 1)⟩,⟨some 16, none,.bin .lss (.t 15) (.c (vi 1))⟩,⟨some 17, none,.asg (.t 16)⟩,⟨some 18, (some (17,false)),.mv (.t 0)⟩,⟨some 19, (some (17,false)),.nilck (.t 18)⟩,⟨some 20, (some (17,false)),.fadr 0 (.t 19)⟩,⟨some 21, (some (17,false)),.load false 1 (.t 20)⟩,⟨some 22, (some (17,false)),.len (.t 21)⟩,⟨some 23, (some (17,false)),.bin .eql (.t 22) (.c (vi 0))⟩,⟨some 24, none,.pick (.t 17) (.c (.bool true)) (.t 23)⟩] [0,1,24] []
def z140r3:IC:=.reg [⟨some 4, none,.asg (.c (vi 0))⟩] [4] []
def z140r4:IC:=.reg [⟨some 25, none,.mv (.t 0)⟩,⟨some 26, none,.nilck (.t 25)⟩,⟨some 27, none,.fadr 1 (.t 26)⟩,⟨some 28, none,.load false 1 (.t 27)⟩,⟨some 29, none,.bin .sub (.t 28) (.c (vi 1))⟩,⟨some 5, none,.asg (.t 29)⟩] [0,1,5] []
def z140r5:IC:=.reg [⟨some 30, none,.mv (.t 5)⟩,⟨some 31, none,.mv (.t 0)⟩,⟨some 32, none,.nilck (.t 31)⟩,⟨some 33, none,.fadr 0 (.t 32)⟩,⟨some 34, none,.load false 1 (.t 33)⟩,⟨some 35, none,.len (.t 34)⟩,⟨some 36, none,.bin .lss (.t 30) (.t 35)⟩] [0,1,5,36] []
def z140r6:IC:=.reg [⟨some 37, none,.mv (.t 0)⟩,⟨some 38, none,.nilck (.t 37)⟩,⟨some 39, none,.fadr 0 (.t 38)⟩,⟨some 40, none,.load false 1 (.t 39)⟩,⟨some 41, none,.mv (.t 5)⟩,⟨some 42, none,.iadr 1 (.t 40) (.t 41)⟩,⟨some 43, none,.load false 1 (.t 42)⟩,⟨some 44, none,.conv .i64 (.t 43)⟩,⟨some 45, none,.mv (.t 1)⟩,⟨some 46, none,.bin .rem (.t 44) (.t 45)⟩,⟨some 4, none,.asg (.t 46)⟩] [4] []
def z140r7:IC:=.reg [⟨some 47, none,.mv (.t 0)⟩,⟨some 48, none,.nilck (.t 47)⟩,⟨some 49, none,.fadr 0 (.t 48)⟩,⟨some 50, none,.load false 1 (.t 49)⟩,⟨some 51, none,.mv (.t 5)⟩,⟨some 52, none,.mv (.t 0)⟩,⟨some 53, none,.nilck (.t 52)⟩,⟨some 54, none,.fadr 0 (.t 53)⟩,⟨some 55, none,.load false 1 (.t 54)⟩,⟨some 56, none,.len (.t 55)⟩,⟨some 57, none,.bin .rem (.t 51) (.t 56)⟩,⟨some 58, none,.iadr 1 (.t 50) (.t 57)⟩,⟨some 59, none,.load false 1 (.t 58)⟩,⟨some 60, none,.conv .i64 (.t 59)⟩,⟨some 61, none,.bin .mul (.t 60) (.c (vi 131))⟩,⟨some 62, none,.mv (.t 0)⟩,⟨some 63, none,.nilck (.t 62)⟩,⟨some 64, none,.fadr 0 (.t 63)⟩,⟨some 65, none,.load false 1 (.t 64)⟩,⟨some 66, none,.mv (.t 5)⟩,⟨some 67, none,.bin .mul (.t 66) (.c (vi 7))⟩,⟨some 68, none,.bin .add (.t 67) (.c (vi 3))⟩,⟨some 69, none,.mv (.t 0)⟩,⟨some 70, none,.nilck (.t 69)⟩,⟨some 71, none,.fadr 0 (.t 70)⟩,
    ⟨some 72, none,.load false 1 (.t 71)⟩,⟨some 73, none,.len (.t 72)⟩,⟨some 74, none,.bin .rem (.t 68) (.t 73)⟩,⟨some 75, none,.iadr 1 (.t 65) (.t 74)⟩,⟨some 76, none,.load false 1 (.t 75)⟩,⟨some 77, none,.conv .i64 (.t 76)⟩,⟨some 78, none,.bin .mul (.t 77) (.c (vi 1117))⟩,⟨some 79, none,.bin .add (.t 61) (.t 78)⟩,⟨some 80, none,.mv (.t 5)⟩,⟨some 81, none,.bin .mul (.t 80) (.c (vi 29))⟩,⟨some 82, none,.bin .add (.t 79) (.t 81)⟩,⟨some 83, none,.mv (.t 5)⟩,⟨some 84, none,.mv (.t 0)⟩,⟨some 85, none,.nilck (.t 84)⟩,⟨some 86, none,.fadr 0 (.t 85)⟩,⟨some 87, none,.load false 1 (.t 86)⟩,⟨some 88, none,.len (.t 87)⟩,⟨some 89, none,.bin .quo (.t 83) (.t 88)⟩,⟨some 90, none,.bin .mul (.t 89) (.c (vi 53))⟩,⟨some 91, none,.bin .add (.t 82) (.t 90)⟩,⟨some 6, none,.asg (.t 91)⟩] [1,6] []
def z140r8:IC:=.reg [⟨some 92, none,.mv (.t 6)⟩,⟨some 93, none,.mv (.t 6)⟩,⟨some 94, none,.bin .quo (.t 93) (.c (vi 64))⟩,⟨some 95, none,.bin .xor (.t 92) (.t 94)⟩,⟨some 6, none,.asg (.t 95)⟩] [1,6] []
def z140r9:IC:=.reg [⟨some 96, none,.mv (.t 6)⟩,⟨some 97, none,.mv (.t 1)⟩,⟨some 98, none,.bin .rem (.t 96) (.t 97)⟩,⟨some 4, none,.asg (.t 98)⟩] [4] []
def zi140:IFun:=⟨[.t 4],[],(.seq z140r0 (.seq z140r1 (.seq (.seq z140r2 (.cond (.t 24) (.seq z140r3 .ret) .skip)) (.seq z140r4 (.seq (.seq z140r5 (.cond (.t 36) (.seq z140r6 .ret) .skip)) (.seq z140r7 (.seq z140r8 (.seq z140r9 .ret))))))))⟩
def z371r0:IC:=.reg [⟨some 2, none,.asg (.c (.slice none 0 0))⟩] [0] []
def z371r1:IC:=.reg [⟨some 5, none,.bsl 1 [(vi 0)] 0 []⟩,⟨some 3, none,.asg (.t 5)⟩] [0,3] []
def z371r2:IC:=.reg [⟨some 4, none,.asg (.c (vi 0))⟩] [0,3,4] []
def z371r3:IC:=.reg [⟨some 6, none,.mv (.t 4)⟩,⟨some 7, none,.mv (.t 0)⟩,⟨some 8, none,.len (.t 7)⟩,⟨some 9, none,.bin .lss (.t 6) (.t 8)⟩] [0,3,4,9] []
def z371r4:IC:=.reg [⟨some 12, none,.mv (.t 3)⟩,⟨some 13, none,.mv (.t 0)⟩,⟨some 14, none,.mv (.t 4)⟩,⟨some 15, none,.iadr 1 (.t 13) (.t 14)⟩,⟨some 16, none,.load false 1 (.t 15)⟩,⟨some 17, none,.call zl382 [(.rd,(.t 16))] true⟩,⟨some 18, none,.bsl 1 [(vi 0)] 1 [(0,(.t 17))]⟩,⟨some 19, none,.app 1 (.t 12) (.t 18)⟩,⟨some 3, none,.asg (.t 19)⟩] [0,3,4] []
def z371r5:IC:=.reg [⟨some 10, none,.mv (.t 4)⟩,⟨some 11, none,.bin .add (.t 10) (.c (vi 1))⟩,⟨some 4, none,.asg (.t 11)⟩] [0,3,4] []
def z371l6:IC:=(.seq (.seq z371r3 (.cond (.t 9) .skip (.exit 0))) (.seq (.block 1 z371r4) z371r5))
def z371r7:IC:=.reg [⟨some 20, none,.mv (.t 3)⟩,⟨some 2, none,.asgm (.t 20)⟩] [2,3] []
def zi371:IFun:=⟨[.t 2],[],(.seq z371r0 (.seq z371r1 (.seq (.seq z371r2 (.block 0 (.loop z371l6))) (.seq z371r7 .ret))))⟩
def z382r0:IC:=.reg [⟨some 2, none,.asg (.c (vi 0))⟩] [0] []
def z382r1:IC:=.reg [⟨some 3, none,.asg (.c (vi 0))⟩] [0,3] []
def z382r2:IC:=.reg [⟨some 4, none,.asg (.c (vi 0))⟩] [0,3,4] []
def z382r3:IC:=.reg [⟨some 5, none,.mv (.t 4)⟩,⟨some 6, none,.mv (.t 0)⟩,⟨some 7, none,.len (.t 6)⟩,⟨some 8, none,.bin .lss (.t 5) (.t 7)⟩] [0,3,4,8] []
def z382r4:IC:=.reg [⟨some 11, none,.mv (.t 3)⟩,⟨some 12, none,.mv (.t 0)⟩,⟨some 13, none,.mv (.t 4)⟩,⟨some 14, none,.iadr 1 (.t 12) (.t 13)⟩,⟨some 15, none,.load false 1 (.t 14)⟩,⟨some 16, none,.bin .add (.t 11) (.t 15)⟩,⟨some 3, none,.asg (.t 16)⟩] [0,3,4] []
def z382r5:IC:=.reg [⟨some 9, none,.mv (.t 4)⟩,⟨some 10, none,.bin .add (.t 9) (.c (vi 1))⟩,⟨some 4, none,.asg (.t 10)⟩] [0,3,4] []
def z382l6:IC:=(.seq (.seq z382r3 (.cond (.t 8) .skip (.exit 0))) (.seq (.block 1 z382r4) z382r5))
def z382r7:IC:=.reg [⟨some 17, none,.mv (.t 3)⟩,⟨some 2, none,.asgm (.t 17)⟩] [2] []
def zi382:IFun:=⟨[.t 2],[],(.seq z382r0 (.seq z382r1 (.seq (.seq z382r2 (.block 0 (.loop z382l6))) (.seq z382r7 .ret))))⟩
def z385r0:IC:=.reg [⟨some 2, none,.asg (.c (.slice none 0 0))⟩] [0] []
def z385r1:IC:=.reg [⟨some 7, none,.bsl 1 [(.slice none 0 0)] 0 []⟩,⟨some 3, none,.asg (.t 7)⟩] [0,3] []
def z385r2:IC:=.reg [⟨some 4, none,.asg (.c (vi 0))⟩] [0,3,4] []
def z385r3:IC:=.reg [⟨some 8, none,.mv (.t 4)⟩,⟨some 9, none,.mv (.t 0)⟩,⟨some 10, none,.iadr 1 (.t 9) (.c (vi 0))⟩,⟨some 11, none,.load false 1 (.t 10)⟩,⟨some 12, none,.len (.t 11)⟩,⟨some 13, none,.bin .lss (.t 8) (.t 12)⟩] [0,3,4,13] []
def z385r4:IC:=.reg [⟨some 16, none,.bsl 1 [(vi 0)] 0 []⟩,⟨some 5, none,.asg (.t 16)⟩] [0,3,4,5] []
def z385r5:IC:=.reg [⟨some 6, none,.asg (.c (vi 0))⟩] [0,3,4,5,6] []
def z385r6:IC:=.reg [⟨some 17, none,.mv (.t 6)⟩,⟨some 18, none,.mv (.t 0)⟩,⟨some 19, none,.len (.t 18)⟩,⟨some 20, none,.bin .lss (.t 17) (.t 19)⟩] [0,3,4,5,6,20] []
def z385r7:IC:=.reg [⟨some 23, none,.mv (.t 5)⟩,⟨some 24, none,.mv (.t 0)⟩,⟨some 25, none,.mv (.t 6)⟩,⟨some 26, none,.iadr 1 (.t 24) (.t 25)⟩,⟨some 27, none,.load false 1 (.t 26)⟩,⟨some 28, none,.mv (.t 4)⟩,⟨some 29, none,.iadr 1 (.t 27) (.t 28)⟩,⟨some 30, none,.load false 1 (.t 29)⟩,⟨some 31, none,.bsl 1 [(vi 0)] 1 [(0,(.t 30))]⟩,⟨some 32, none,.app 1 (.t 23) (.t 31)⟩,⟨some 5, none,.asg (.t 32)⟩] [0,3,4,5,6] []
def z385r8:IC:=.reg [⟨some 21, none,.mv (.t 6)⟩,⟨some 22, none,.bin .add (.t 21) (.c (vi 1))⟩,⟨some 6, none,.asg (.t 22)⟩] [0,3,4,5,6] []
def z385l9:IC:=(.seq (.seq z385r6 (.cond (.t 20) .skip (.exit 2))) (.seq (.block 3 z385r7) z385r8))
def z385r10:IC:=.reg [⟨some 33, none,.mv (.t 3)⟩,⟨some 34, none,.mv (.t 5)⟩,⟨some 35, none,.bsl 1 [(.slice none 0 0)] 1 [(0,(.t 34))]⟩,⟨some 36, none,.app 1 (.t 33) (.t 35)⟩,⟨some 3, none,.asg (.t 36)⟩] [0,3,4] []
def z385r11:IC:=.reg [⟨some 14, none,.mv (.t 4)⟩,⟨some 15, none,.bin .add (.t 14) (.c (vi 1))⟩,⟨some 4, none,.asg (.t 15)⟩] [0,3,4] []
def z385l12:IC:=(.seq (.seq z385r3 (.cond (.t 13) .skip (.exit 0))) (.seq (.block 1 (.seq z385r4 (.seq (.seq z385r5 (.block 2 (.loop z385l9))) z385r10))) z385r11))
def z385r13:IC:=.reg [⟨some 37, none,.mv (.t 3)⟩,⟨some 2, none,.asgm (.t 37)⟩] [2,3] []
def zi385:IFun:=⟨[.t 2],[],(.seq z385r0 (.seq z385r1 (.seq (.seq z385r2 (.block 0 (.loop z385l12))) (.seq z385r13 .ret))))⟩
def z388r0:IC:=.reg [⟨some 2, none,.asg (.c (.bool false))⟩] [0] []
def z388r1:IC:=.reg [⟨some 3, none,.asg (.c (vi 0))⟩] [0,3] []
def z388r2:IC:=.reg [⟨some 4, none,.mv (.t 3)⟩,⟨some 5, none,.mv (.t 0)⟩,⟨some 6, none,.len (.t 5)⟩,⟨some 7, none,.bin .lss (.t 4) (.t 6)⟩] [0,3,7] []
def z388r3:IC:=.reg [⟨some 10, none,.mv (.t 0)⟩,⟨some 11, none,.mv (.t 3)⟩,⟨some 12, none,.iadr 1 (.t 10) (.t 11)⟩,⟨some 13, none,.load false 1 (.t 12)⟩,⟨some 14, none,.mv (.t 0)⟩,⟨some 15, none,.len (.t 14)⟩,⟨some 16, none,.bin .sub (.t 15) (.c (vi 1))⟩,⟨some 17, none,.call zl132 [(.val,(.t 13)),(.val,(.c (vi 0))),(.val,(.t 16))] true⟩,⟨some 18, none,.unop .not (.t 17)⟩] [0,3,18] []
def z388r4:IC:=.reg [⟨some 2, none,.asg (.c (.bool false))⟩] [2] []
def z388r5:IC:=.reg [⟨some 8, none,.mv (.t 3)⟩,⟨some 9, none,.bin .add (.t 8) (.c (vi 1))⟩,⟨some 3, none,.asg (.t 9)⟩] [0,3] []
def z388l6:IC:=(.seq (.seq z388r2 (.cond (.t 7) .skip (.exit 0))) (.seq (.block 1 (.seq z388r3 (.cond (.t 18) (.seq z388r4 .ret) .skip))) z388r5))
def z388r7:IC:=.reg [⟨some 19, none,.mv (.t 0)⟩,⟨some 20, none,.len (.t 19)⟩,⟨some 21, none,.call zl132 [(.val,(.t 20)),(.val,(.c (vi 1))),(.val,(.c (vi 5)))] true⟩,⟨some 2, none,.asg (.t 21)⟩] [2] []
def zi388:IFun:=⟨[.t 2],[],(.seq z388r0 (.seq (.seq z388r1 (.block 0 (.loop z388l6))) (.seq z388r7 .ret)))⟩
def tbl:List (Nat×IFun):=[(zl2,zi2),(zl4,zi4),(zl7,zi7),(zl8,zi8),(zl165,zi165),(zl176,zi176),(zl179,zi179),(zl180,zi180),(zl181,zi181),(zl10,zi10),(zl18,zi18),(zl19,zi19),(zl25,zi25),(zl200,zi200),(zl29,zi29),(zl30,zi30),(zl31,zi31),(zl33,zi33),(zl34,zi34),(zl35,zi35),(zl37,zi37),(zl38,zi38),(zl215,zi215),(zl412,zi412),(zl413,zi413),(zl40,zi40),(zl41,zi41),(zl434,zi434),(zl66,zi66),(zl68,zi68),(zl70,zi70),(zl71,zi71),(zl72,zi72),(zl73,zi73),(zl75,zi75),(zl76,zi76),(zl78,zi78),(zl86,zi86),(zl101,zi101),(zl307,zi307),(zl318,zi318),(zl331,zi331),(zl337,zi337),(zl338,zi338),(zl132,zi132),(zl356,zi356),(zl135,zi135),(zl137,zi137),(zl139,zi139),(zl140,zi140),(zl371,zi371),(zl382,zi382),(zl385,zi385),(zl388,zi388)]
def tb:Tbl:=tbOf tbl
theorem zt2:tb zl2=some zi2:=by kernel_rfl
theorem zt4:tb zl4=some zi4:=by kernel_rfl
theorem zt7:tb zl7=some zi7:=by kernel_rfl
theorem zt8:tb zl8=some zi8:=by kernel_rfl
theorem zt165:tb zl165=some zi165:=by kernel_rfl
theorem zt176:tb zl176=some zi176:=by kernel_rfl
theorem zt179:tb zl179=some zi179:=by kernel_rfl
theorem zt180:tb zl180=some zi180:=by kernel_rfl
theorem zt181:tb zl181=some zi181:=by kernel_rfl
theorem zt10:tb zl10=some zi10:=by kernel_rfl
theorem zt18:tb zl18=some zi18:=by kernel_rfl
theorem zt19:tb zl19=some zi19:=by kernel_rfl
theorem zt25:tb zl25=some zi25:=by kernel_rfl
theorem zt200:tb zl200=some zi200:=by kernel_rfl
theorem zt29:tb zl29=some zi29:=by kernel_rfl
theorem zt30:tb zl30=some zi30:=by kernel_rfl
theorem zt31:tb zl31=some zi31:=by kernel_rfl
theorem zt33:tb zl33=some zi33:=by kernel_rfl
theorem zt34:tb zl34=some zi34:=by kernel_rfl
theorem zt35:tb zl35=some zi35:=by kernel_rfl
theorem zt37:tb zl37=some zi37:=by kernel_rfl
theorem zt38:tb zl38=some zi38:=by kernel_rfl
theorem zt215:tb zl215=some zi215:=by kernel_rfl
theorem zt412:tb zl412=some zi412:=by kernel_rfl
theorem zt413:tb zl413=some zi413:=by kernel_rfl
theorem zt40:tb zl40=some zi40:=by kernel_rfl
theorem zt41:tb zl41=some zi41:=by kernel_rfl
theorem zt434:tb zl434=some zi434:=by kernel_rfl
theorem zt66:tb zl66=some zi66:=by kernel_rfl
theorem zt68:tb zl68=some zi68:=by kernel_rfl
theorem zt70:tb zl70=some zi70:=by kernel_rfl
theorem zt71:tb zl71=some zi71:=by kernel_rfl
theorem zt72:tb zl72=some zi72:=by kernel_rfl
theorem zt73:tb zl73=some zi73:=by kernel_rfl
theorem zt75:tb zl75=some zi75:=by kernel_rfl
theorem zt76:tb zl76=some zi76:=by kernel_rfl
theorem zt78:tb zl78=some zi78:=by kernel_rfl
theorem zt86:tb zl86=some zi86:=by kernel_rfl
theorem zt101:tb zl101=some zi101:=by kernel_rfl
theorem zt307:tb zl307=some zi307:=by kernel_rfl
theorem zt318:tb zl318=some zi318:=by kernel_rfl
theorem zt331:tb zl331=some zi331:=by kernel_rfl
theorem zt337:tb zl337=some zi337:=by kernel_rfl
theorem zt338:tb zl338=some zi338:=by kernel_rfl
theorem zt132:tb zl132=some zi132:=by kernel_rfl
theorem zt356:tb zl356=some zi356:=by kernel_rfl
theorem zt135:tb zl135=some zi135:=by kernel_rfl
theorem zt137:tb zl137=some zi137:=by kernel_rfl
theorem zt139:tb zl139=some zi139:=by kernel_rfl
theorem zt140:tb zl140=some zi140:=by kernel_rfl
theorem zt371:tb zl371=some zi371:=by kernel_rfl
theorem zt382:tb zl382=some zi382:=by kernel_rfl
theorem zt385:tb zl385=some zi385:=by kernel_rfl
theorem zt388:tb zl388=some zi388:=by kernel_rfl
end Go.Idl
