/- Part 9 of a proof by an ideal interpreter of the code: its definitions and lemmas. Conditions: none. -/
import Derived.Test.YtglgfefngeknhaaGreatDoorBk
import Derived.Test.YtglgfefngeknhaaGreatDoorDig
import Derived.Test.YtglgfefngeknhaaGreatDoorRows
import Derived.Test.YtglgfefngeknhaaGreatDoorA8
set_option linter.all false
set_option linter.unusedVariables false
set_option linter.unusedSimpArgs false
namespace Go.Proofs.YtglgfefngeknhaaGreatDoor
open Go Go.Idl
def fids:List (Nat×Nat):=[(zl2,172),(zl4,195),(Qkp,70),(Qwu,117),(Qwq,119),(Jdy,95),(Jcd,136),(Jcg,137),(Jau,138),(Jhw,66),(Jgz,139),(zl7,91),(zl8,131),(Qrz,62),(Jir,69),(Jb0,113),(Qzq,111),(zl9,67),(Jaq,114),(Ja2,147),(Jd7,92),(Qvu,68),(Jwr,57),(Jc6,60),(Jdq,59),(Jkx,58),(Jef,33),(Qth,35),(Qug,61),(Jbq,101),(Qsb,6),(zl18,130),(zl19,154),(zl20,157),(Jg1,96),(Jck,55),(Qrm,65),(zl29,89),(zl30,128),(Jb1,34),(Jkz,36),(Qwb,64),(Jo1,97),(Jle,109),(Qvn,116),(Qog,22),(Ql8,104),(zl35,135),(zl36,102),(Jre,94),(Jao,99),(Qu4,141),(zl38,110),(Qh2,98),(Qvl,103),(Je7,149),(Quq,54),(Jr4,90),(Jdj,112),(Qp5,56),(Jih,51),(Qzf,87),(Jov,3),(Jg2,8),(Jrm,156),(zl67,175),(zl68,176),(Jim,115),(Jf8,148),(Qu7,107),(Jrq,88),(Jcp,108),(Jze,118),(zl72,127),(Jc1,150),(Qtv,32),(Ja6,100),(Jco,93),(zl73,129),(Jei,129),(Jgy,165),(Jbz,53),(zl75,132),(zl76,134),(Jaj,142),(Jj6,140),(zl78,133),(Qz1,181),(zl80,168),(Jer,182),(zl82,169),(zl276,180),(zl84,167),(Qz9,179),(Qzw,177),(zl86,166),(Jmu,198),(Jc7,199),(zl91,191),(Qrp,206),(Jb7,184),(zl95,171),(Ja5,186),(zl284,185),(zl98,173),(zl99,174),(Qqr,159),(Quy,155),(zl286,183),(zl103,170),(Jcy,158),(Jvu,178),(Jg9,192),(Qzp,5),(Jbv,7),(Jcc,28),(Jdm,79),(Jdw,24),(Jdo,48),(Jaa,47),(Jgn,85),(Jhr,46),(Qwr,76),(Ji2,83),(Jbk,122),(Qv5,26),(Jbd,15),(Qtq,25),(Jkv,86),(Jh8,84),(Jab,121),(Qvj,81),(Jf2,16),(Qzt,19),(Qrw,18),(Ja8,78),(Qvh,77),(Qz7,120),(Ja7,41),(Jgu,44),(Jeq,43),(Jjq,74),(Ja3,27),(Qs4,20),(Je6,12),(Jbb,49),(Jas,38),(Quk,39),(Qh0,14),(Qoi,13),(Qgp,17),(Jgl,42),(Jg0,82),(Jbx,75),(Jgh,80),(Jjo,37),(Jh1,45),(Jai,73),(Je0,71),(Jhi,72),(Qpo,40),(Jby,31),(Jba,146),(Qwd,30),(Qvd,52),(Qwh,105),(Jhj,63),(zl401,145),(Jjh,106)]
def fidOf:List (Nat×Nat)->Nat->Nat
 | [],_=>0
 | (k,i)::r,l=>if k=l then i else fidOf r l
noncomputable def cx:Cx:=⟨Tryz.prog,fidOf fids,[Jim]⟩
theorem zc2:Qau cx Tryz.f172 zi2=true:=by kernel_rfl
theorem zc4:Qau cx Tryz.f195 zi4=true:=by kernel_rfl
theorem zc151:Qau cx Tryz.f70 Qgs=true:=by kernel_rfl
theorem zc406:Qau cx Tryz.f117 Jhn=true:=by kernel_rfl
theorem zc407:Qau cx Tryz.f119 Jp4=true:=by kernel_rfl
theorem zc154:Qau cx Tryz.f95 Jp6=true:=by kernel_rfl
theorem zc155:Qau cx Tryz.f136 Jnd=true:=by kernel_rfl
theorem zc156:Qau cx Tryz.f137 Jmj=true:=by kernel_rfl
theorem zc157:Qau cx Tryz.f138 Jmm=true:=by kernel_rfl
theorem zc162:Qau cx Tryz.f66 Jor=true:=by kernel_rfl
theorem zc164:Qau cx Tryz.f139 Jnv=true:=by kernel_rfl
theorem zc7:Qau cx Tryz.f91 zi7=true:=by kernel_rfl
theorem zc8:Qau cx Tryz.f131 zi8=true:=by kernel_rfl
theorem zc166:Qau cx Tryz.f62 Qux=true:=by kernel_rfl
theorem zc168:Qau cx Tryz.f69 Jh4=true:=by kernel_rfl
theorem zc169:Qau cx Tryz.f113 Jos=true:=by kernel_rfl
theorem zc170:Qau cx Tryz.f111 Ja4=true:=by kernel_rfl
theorem zc9:Qau cx Tryz.f67 zi9=true:=by kernel_rfl
theorem zc171:Qau cx Tryz.f114 Jnf=true:=by kernel_rfl
theorem zc172:Qau cx Tryz.f147 Jdx=true:=by kernel_rfl
theorem zc177:Qau cx Tryz.f92 Qs7=true:=by kernel_rfl
theorem zc178:Qau cx Tryz.f68 Qwy=true:=by kernel_rfl
theorem zc10:Qau cx Tryz.f57 zi10=true:=by kernel_rfl
theorem zc186:Qau cx Tryz.f60 Jmx=true:=by kernel_rfl
theorem zc187:Qau cx Tryz.f59 Jiy=true:=by kernel_rfl
theorem zc188:Qau cx Tryz.f58 Jeu=true:=by kernel_rfl
theorem zc191:Qau cx Tryz.f33 Qz0=true:=by kernel_rfl
theorem zc192:Qau cx Tryz.f35 Qmc=true:=by kernel_rfl
theorem zc193:Qau cx Tryz.f61 Qu8=true:=by kernel_rfl
theorem zc194:Qau cx Tryz.f101 Jo9=true:=by kernel_rfl
theorem zc18:Qau cx Tryz.f130 zi18=true:=by kernel_rfl
theorem zc19:Qau cx Tryz.f154 zi19=true:=by kernel_rfl
theorem zc20:Qau cx Tryz.f157 zi20=true:=by kernel_rfl
theorem zc197:Qau cx Tryz.f96 Qz5=true:=by kernel_rfl
theorem zc25:Qau cx Tryz.f55 zi25=true:=by kernel_rfl
theorem zc26:Qau cx Tryz.f65 zi26=true:=by kernel_rfl
theorem zc29:Qau cx Tryz.f89 zi29=true:=by kernel_rfl
theorem zc30:Qau cx Tryz.f128 zi30=true:=by kernel_rfl
theorem zc201:Qau cx Tryz.f34 Qpn=true:=by kernel_rfl
theorem zc202:Qau cx Tryz.f36 Qnt=true:=by kernel_rfl
theorem zc204:Qau cx Tryz.f64 Jlw=true:=by kernel_rfl
theorem zc31:Qau cx Tryz.f97 zi31=true:=by kernel_rfl
theorem zc32:Qau cx Tryz.f109 zi32=true:=by kernel_rfl
theorem zc206:Qau cx Tryz.f116 Jm7=true:=by kernel_rfl
theorem zc207:Qau cx Tryz.f22 Qmv=true:=by kernel_rfl
theorem zc35:Qau cx Tryz.f135 zi35=true:=by kernel_rfl
theorem zc36:Qau cx Tryz.f102 zi36=true:=by kernel_rfl
theorem zc37:Qau cx Tryz.f94 zi37=true:=by kernel_rfl
theorem zc210:Qau cx Tryz.f99 Jf3=true:=by kernel_rfl
theorem zc211:Qau cx Tryz.f141 Jpa=true:=by kernel_rfl
theorem zc38:Qau cx Tryz.f110 zi38=true:=by kernel_rfl
theorem zc212:Qau cx Tryz.f98 Jji=true:=by kernel_rfl
theorem zc214:Qau cx Tryz.f103 Jms=true:=by kernel_rfl
theorem zc216:Qau cx Tryz.f149 Jk7=true:=by kernel_rfl
theorem zc217:Qau cx Tryz.f54 Jhg=true:=by kernel_rfl
theorem zc40:Qau cx Tryz.f90 zi40=true:=by kernel_rfl
theorem zc220:Qau cx Tryz.f112 Jkt=true:=by kernel_rfl
theorem zc221:Qau cx Tryz.f56 Jl6=true:=by kernel_rfl
theorem zc230:Qau cx Tryz.f51 Jen=true:=by kernel_rfl
theorem zc439:Qau cx Tryz.f3 Jat=true:=by kernel_rfl
theorem zc245:Qau cx Tryz.f8 Jp3=true:=by kernel_rfl
theorem zc66:Qau cx Tryz.f156 zi66=true:=by kernel_rfl
theorem zc68:Qau cx Tryz.f176 zi68=true:=by kernel_rfl
theorem zc257:Qau cx Tryz.f148 Jjn=true:=by kernel_rfl
theorem zc258:Qau cx Tryz.f107 Jgq=true:=by kernel_rfl
theorem zc70:Qau cx Tryz.f88 zi70=true:=by kernel_rfl
theorem zc261:Qau cx Tryz.f108 Jg7=true:=by kernel_rfl
theorem zc71:Qau cx Tryz.f118 zi71=true:=by kernel_rfl
theorem zc72:Qau cx Tryz.f127 zi72=true:=by kernel_rfl
theorem zc263:Qau cx Tryz.f150 Jo7=true:=by kernel_rfl
theorem zc264:Qau cx Tryz.f32 Jox=true:=by kernel_rfl
theorem zc266:Qau cx Tryz.f100 Je3=true:=by kernel_rfl
theorem zc267:Qau cx Tryz.f93 Jac=true:=by kernel_rfl
theorem zc73:Qau cx Tryz.f129 zi73=true:=by kernel_rfl
theorem zc449:Qau cx Tryz.f129 Jj0=true:=by kernel_rfl
theorem zc269:Qau cx Tryz.f165 Jhc=true:=by kernel_rfl
theorem zc270:Qau cx Tryz.f53 Jdb=true:=by kernel_rfl
theorem zc75:Qau cx Tryz.f132 zi75=true:=by kernel_rfl
theorem zc76:Qau cx Tryz.f134 zi76=true:=by kernel_rfl
theorem zc272:Qau cx Tryz.f142 Jo5=true:=by kernel_rfl
theorem zc273:Qau cx Tryz.f140 Jmq=true:=by kernel_rfl
theorem zc78:Qau cx Tryz.f133 zi78=true:=by kernel_rfl
theorem zc274:Qau cx Tryz.f181 Jlp=true:=by kernel_rfl
theorem zc450:Qau cx Tryz.f182 Jfc=true:=by kernel_rfl
theorem zc277:Qau cx Tryz.f179 Jfs=true:=by kernel_rfl
theorem zc278:Qau cx Tryz.f177 Jhl=true:=by kernel_rfl
theorem zc86:Qau cx Tryz.f166 zi86=true:=by kernel_rfl
theorem zc454:Qau cx Tryz.f199 Jlj=true:=by kernel_rfl
theorem zc91:Qau cx Tryz.f191 zi91=true:=by kernel_rfl
theorem zc456:Qau cx Tryz.f206 Jh9=true:=by kernel_rfl
theorem zc282:Qau cx Tryz.f184 Jf7=true:=by kernel_rfl
theorem zc283:Qau cx Tryz.f186 Jks=true:=by kernel_rfl
theorem zc285:Qau cx Tryz.f159 Qua=true:=by kernel_rfl
theorem zc101:Qau cx Tryz.f155 Jmf=true:=by kernel_rfl
theorem zc289:Qau cx Tryz.f158 Jnh=true:=by kernel_rfl
theorem zc106:Qau cx Tryz.f192 Jmp=true:=by kernel_rfl
theorem zc311:Qau cx Tryz.f5 Job=true:=by kernel_rfl
theorem zc325:Qau cx Tryz.f7 Jmd=true:=by kernel_rfl
theorem zc118:Qau cx Tryz.f28 Jew=true:=by kernel_rfl
theorem zc335:Qau cx Tryz.f79 Joh=true:=by kernel_rfl
theorem zc336:Qau cx Tryz.f24 Qft=true:=by kernel_rfl
theorem zc340:Qau cx Tryz.f48 Jdz=true:=by kernel_rfl
theorem zc122:Qau cx Tryz.f47 Jpq=true:=by kernel_rfl
theorem zc342:Qau cx Tryz.f85 Jm6=true:=by kernel_rfl
theorem zc343:Qau cx Tryz.f46 Jp5=true:=by kernel_rfl
theorem zc123:Qau cx Tryz.f76 Jpp=true:=by kernel_rfl
theorem zc344:Qau cx Tryz.f83 Jpw=true:=by kernel_rfl
theorem zc345:Qau cx Tryz.f122 Jpc=true:=by kernel_rfl
theorem zc125:Qau cx Tryz.f26 Jnm=true:=by kernel_rfl
theorem zc346:Qau cx Tryz.f15 Jmy=true:=by kernel_rfl
theorem zc347:Qau cx Tryz.f25 Joq=true:=by kernel_rfl
theorem zc348:Qau cx Tryz.f86 Jnu=true:=by kernel_rfl
theorem zc349:Qau cx Tryz.f84 Joj=true:=by kernel_rfl
theorem zc126:Qau cx Tryz.f121 Jb8=true:=by kernel_rfl
theorem zc127:Qau cx Tryz.f81 Jl1=true:=by kernel_rfl
theorem zc128:Qau cx Tryz.f16 Jdt=true:=by kernel_rfl
theorem zc129:Qau cx Tryz.f19 Jlm=true:=by kernel_rfl
theorem zc352:Qau cx Tryz.f18 Jo6=true:=by kernel_rfl
theorem zc130:Qau cx Tryz.f78 Jex=true:=by kernel_rfl
theorem zc131:Qau cx Tryz.f77 Jjc=true:=by kernel_rfl
theorem zc132:Qau cx Tryz.f120 Jkw=true:=by kernel_rfl
theorem zc357:Qau cx Tryz.f41 Jix=true:=by kernel_rfl
theorem zc358:Qau cx Tryz.f44 Jpj=true:=by kernel_rfl
theorem zc359:Qau cx Tryz.f43 Qu1=true:=by kernel_rfl
theorem zc360:Qau cx Tryz.f74 Jmz=true:=by kernel_rfl
theorem zc135:Qau cx Tryz.f27 Jec=true:=by kernel_rfl
theorem zc364:Qau cx Tryz.f20 Qnp=true:=by kernel_rfl
theorem zc137:Qau cx Tryz.f12 Jjr=true:=by kernel_rfl
theorem zc138:Qau cx Tryz.f49 Jng=true:=by kernel_rfl
theorem zc366:Qau cx Tryz.f38 Jls=true:=by kernel_rfl
theorem zc367:Qau cx Tryz.f39 Qzx=true:=by kernel_rfl
theorem zc368:Qau cx Tryz.f14 Joz=true:=by kernel_rfl
theorem zc139:Qau cx Tryz.f13 Jl9=true:=by kernel_rfl
theorem zc140:Qau cx Tryz.f17 Qww=true:=by kernel_rfl
theorem zc370:Qau cx Tryz.f42 Jj4=true:=by kernel_rfl
theorem zc372:Qau cx Tryz.f82 Jaw=true:=by kernel_rfl
theorem zc141:Qau cx Tryz.f75 Jpf=true:=by kernel_rfl
theorem zc376:Qau cx Tryz.f80 Jl7=true:=by kernel_rfl
theorem zc379:Qau cx Tryz.f37 Jm9=true:=by kernel_rfl
theorem zc381:Qau cx Tryz.f45 Jiw=true:=by kernel_rfl
theorem zc382:Qau cx Tryz.f73 Joy=true:=by kernel_rfl
theorem zc144:Qau cx Tryz.f71 Je4=true:=by kernel_rfl
theorem zc145:Qau cx Tryz.f72 Jla=true:=by kernel_rfl
theorem zc389:Qau cx Tryz.f40 Jlu=true:=by kernel_rfl
theorem zc395:Qau cx Tryz.f31 Jfa=true:=by kernel_rfl
theorem zc397:Qau cx Tryz.f30 Jd9=true:=by kernel_rfl
theorem zc400:Qau cx Tryz.f63 Jpz=true:=by kernel_rfl
theorem zc402:Qau cx Tryz.f106 Jlo=true:=by kernel_rfl
theorem xok_impl_RunDesk:Qfx cx Qsb Jps:=by
 have e:cx.fid Qsb=6:=by kernel_rfl
 have e2:cx.fid Qog=22:=by kernel_rfl
 refine Qz8 ?_ ?_ ?_ ?_
 . rw [e];exact ⟨Tryz.f6,Tryz.func6,by kernel_rfl,by kernel_rfl⟩
 . rw [e,e2];exact fun g bk o c xs w h1 h2 h3 h4=>Tryz.desk_row g bk o c xs w h1 h2 h3 h4
 . rw [e];exact Tryz.desk_none
 . rw [e];exact fun a n c hn w=>Tryz.desk_many a n c hn w
theorem xok_impl_digits:Qfx cx Ql8 Jfy:=by
 have e:cx.fid Ql8=104:=by kernel_rfl
 refine Qs0 ?_ ?_ ?_
 . rw [e];exact ⟨Tryz.f104,Tryz.func104,by kernel_rfl,by kernel_rfl⟩
 . rw [e];exact fun bk o c xs w h1 h2 h3 h4=>Tryz.digits_row bk o c xs w h1 h2 h3 h4
 . rw [e];exact Tryz.digits_none
theorem xok_internal_stringslite_Index:Qfx cx Qzf Jmi:=Qtk (ρ:=Tryz.lays219_ren) Tryz.lays219 (by kernel_rfl)
theorem xok_strings_Count:Qfx cx Jba Jl5:=Qsy (ρ:=Tryz.lays138_ren) Tryz.lays138 (by kernel_rfl)
theorem xok_strings_Index:Qfx cx Qvd Jp2:=Qst (ρ:=Tryz.lays143_ren) Tryz.lays143 (by kernel_rfl)
theorem xok_strings_Join:Qfx cx Qwh Jbu:=Quz (ρ:=Tryz.lays156_ren) Tryz.lays156 Tryz.Builder_Extra_156 (by kernel_rfl)
theorem bksOK:Jc4 cx:=by
 intro f hf;have hf:f=Jim:=by cases hf with
  | head=>rfl
  | tail _ h=>cases h
 subst hf;have e:cx.fid Jim=115:=by kernel_rfl
 refine ⟨151,35,?_,?_,fun m l B ad cap vs J Jx hlen hr hY W h0=>Tryz.bk_iter m l B ad cap vs J Jx hlen hr hY W h0,?_⟩
 . rw [e];exact ⟨Tryz.f115,Tryz.func115,by kernel_rfl,by kernel_rfl⟩
 . exact ⟨Tryz.f151,Tryz.func151,by kernel_rfl,by kernel_rfl⟩
 . rw [e];exact Tryz.bk_call
set_option maxRecDepth 100000 in
theorem tblOk:Ji5 cx tb:=by
 refine Jkh bksOK fun p hp=>?_;simp only [tbl,Kaf,Kaw,Kcf] at hp;rcases hp with rfl | rfl | rfl | rfl | rfl | rfl | rfl | rfl | rfl | rfl | rfl | rfl | rfl | rfl | rfl | rfl | rfl | rfl | rfl | rfl | rfl | rfl | rfl | rfl | rfl | rfl | rfl | rfl | rfl | rfl | rfl | rfl | rfl | rfl | rfl | rfl | rfl | rfl | rfl | rfl | rfl | rfl | rfl | rfl | rfl | rfl | rfl | rfl | rfl | rfl | rfl | rfl | rfl | rfl | rfl | rfl | rfl | rfl | rfl | rfl | rfl | rfl | rfl | rfl | rfl | rfl | rfl | rfl | rfl | rfl | rfl | rfl | rfl | rfl | rfl | rfl | rfl | rfl | rfl | rfl | rfl | rfl | rfl | rfl | rfl | rfl | rfl | rfl | rfl | rfl | rfl | rfl | rfl | rfl | rfl | rfl | rfl | rfl | rfl | rfl | rfl | rfl | rfl | rfl | rfl | rfl | rfl | rfl | rfl | rfl | rfl | rfl | rfl | rfl | rfl | rfl | rfl | rfl | rfl | rfl | rfl | rfl | rfl | rfl | rfl | rfl | rfl | rfl | rfl | rfl | rfl | rfl | rfl | rfl | rfl | rfl | rfl | rfl | rfl | rfl | rfl | rfl | rfl | rfl | rfl | rfl | rfl | rfl | rfl | rfl | rfl | rfl | rfl | rfl
 . exact .inl ⟨Tryz.f172,Tryz.func172,zc2⟩
 . exact .inl ⟨Tryz.f195,Tryz.func195,zc4⟩
 . exact .inl ⟨Tryz.f70,Tryz.func70,zc151⟩
 . exact .inl ⟨Tryz.f117,Tryz.func117,zc406⟩
 . exact .inl ⟨Tryz.f119,Tryz.func119,zc407⟩
 . exact .inl ⟨Tryz.f95,Tryz.func95,zc154⟩
 . exact .inl ⟨Tryz.f136,Tryz.func136,zc155⟩
 . exact .inl ⟨Tryz.f137,Tryz.func137,zc156⟩
 . exact .inl ⟨Tryz.f138,Tryz.func138,zc157⟩
 . exact .inl ⟨Tryz.f66,Tryz.func66,zc162⟩
 . exact .inl ⟨Tryz.f139,Tryz.func139,zc164⟩
 . exact .inl ⟨Tryz.f91,Tryz.func91,zc7⟩
 . exact .inl ⟨Tryz.f131,Tryz.func131,zc8⟩
 . exact .inl ⟨Tryz.f62,Tryz.func62,zc166⟩
 . exact .inl ⟨Tryz.f69,Tryz.func69,zc168⟩
 . exact .inl ⟨Tryz.f113,Tryz.func113,zc169⟩
 . exact .inl ⟨Tryz.f111,Tryz.func111,zc170⟩
 . exact .inl ⟨Tryz.f67,Tryz.func67,zc9⟩
 . exact .inl ⟨Tryz.f114,Tryz.func114,zc171⟩
 . exact .inl ⟨Tryz.f147,Tryz.func147,zc172⟩
 . exact .inl ⟨Tryz.f92,Tryz.func92,zc177⟩
 . exact .inl ⟨Tryz.f68,Tryz.func68,zc178⟩
 . exact .inl ⟨Tryz.f57,Tryz.func57,zc10⟩
 . exact .inl ⟨Tryz.f60,Tryz.func60,zc186⟩
 . exact .inl ⟨Tryz.f59,Tryz.func59,zc187⟩
 . exact .inl ⟨Tryz.f58,Tryz.func58,zc188⟩
 . exact .inl ⟨Tryz.f33,Tryz.func33,zc191⟩
 . exact .inl ⟨Tryz.f35,Tryz.func35,zc192⟩
 . exact .inl ⟨Tryz.f61,Tryz.func61,zc193⟩
 . exact .inl ⟨Tryz.f101,Tryz.func101,zc194⟩
 . exact .inr xok_impl_RunDesk
 . exact .inl ⟨Tryz.f130,Tryz.func130,zc18⟩
 . exact .inl ⟨Tryz.f154,Tryz.func154,zc19⟩
 . exact .inl ⟨Tryz.f157,Tryz.func157,zc20⟩
 . exact .inl ⟨Tryz.f96,Tryz.func96,zc197⟩
 . exact .inl ⟨Tryz.f55,Tryz.func55,zc25⟩
 . exact .inl ⟨Tryz.f65,Tryz.func65,zc26⟩
 . exact .inl ⟨Tryz.f89,Tryz.func89,zc29⟩
 . exact .inl ⟨Tryz.f128,Tryz.func128,zc30⟩
 . exact .inl ⟨Tryz.f34,Tryz.func34,zc201⟩
 . exact .inl ⟨Tryz.f36,Tryz.func36,zc202⟩
 . exact .inl ⟨Tryz.f64,Tryz.func64,zc204⟩
 . exact .inl ⟨Tryz.f97,Tryz.func97,zc31⟩
 . exact .inl ⟨Tryz.f109,Tryz.func109,zc32⟩
 . exact .inl ⟨Tryz.f116,Tryz.func116,zc206⟩
 . exact .inl ⟨Tryz.f22,Tryz.func22,zc207⟩
 . exact .inr xok_impl_digits
 . exact .inl ⟨Tryz.f135,Tryz.func135,zc35⟩
 . exact .inl ⟨Tryz.f102,Tryz.func102,zc36⟩
 . exact .inl ⟨Tryz.f94,Tryz.func94,zc37⟩
 . exact .inl ⟨Tryz.f99,Tryz.func99,zc210⟩
 . exact .inl ⟨Tryz.f141,Tryz.func141,zc211⟩
 . exact .inl ⟨Tryz.f110,Tryz.func110,zc38⟩
 . exact .inl ⟨Tryz.f98,Tryz.func98,zc212⟩
 . exact .inl ⟨Tryz.f103,Tryz.func103,zc214⟩
 . exact .inl ⟨Tryz.f149,Tryz.func149,zc216⟩
 . exact .inl ⟨Tryz.f54,Tryz.func54,zc217⟩
 . exact .inl ⟨Tryz.f90,Tryz.func90,zc40⟩
 . exact .inl ⟨Tryz.f112,Tryz.func112,zc220⟩
 . exact .inl ⟨Tryz.f56,Tryz.func56,zc221⟩
 . exact .inl ⟨Tryz.f51,Tryz.func51,zc230⟩
 . exact .inr xok_internal_stringslite_Index
 . exact .inl ⟨Tryz.f3,Tryz.func3,zc439⟩
 . exact .inl ⟨Tryz.f8,Tryz.func8,zc245⟩
 . exact .inl ⟨Tryz.f156,Tryz.func156,zc66⟩
 . exact .inl ⟨Tryz.f176,Tryz.func176,zc68⟩
 . exact .inl ⟨Tryz.f148,Tryz.func148,zc257⟩
 . exact .inl ⟨Tryz.f107,Tryz.func107,zc258⟩
 . exact .inl ⟨Tryz.f88,Tryz.func88,zc70⟩
 . exact .inl ⟨Tryz.f108,Tryz.func108,zc261⟩
 . exact .inl ⟨Tryz.f118,Tryz.func118,zc71⟩
 . exact .inl ⟨Tryz.f127,Tryz.func127,zc72⟩
 . exact .inl ⟨Tryz.f150,Tryz.func150,zc263⟩
 . exact .inl ⟨Tryz.f32,Tryz.func32,zc264⟩
 . exact .inl ⟨Tryz.f100,Tryz.func100,zc266⟩
 . exact .inl ⟨Tryz.f93,Tryz.func93,zc267⟩
 . exact .inl ⟨Tryz.f129,Tryz.func129,zc73⟩
 . exact .inl ⟨Tryz.f129,Tryz.func129,zc449⟩
 . exact .inl ⟨Tryz.f165,Tryz.func165,zc269⟩
 . exact .inl ⟨Tryz.f53,Tryz.func53,zc270⟩
 . exact .inl ⟨Tryz.f132,Tryz.func132,zc75⟩
 . exact .inl ⟨Tryz.f134,Tryz.func134,zc76⟩
 . exact .inl ⟨Tryz.f142,Tryz.func142,zc272⟩
 . exact .inl ⟨Tryz.f140,Tryz.func140,zc273⟩
 . exact .inl ⟨Tryz.f133,Tryz.func133,zc78⟩
 . exact .inl ⟨Tryz.f181,Tryz.func181,zc274⟩
 . exact .inl ⟨Tryz.f182,Tryz.func182,zc450⟩
 . exact .inl ⟨Tryz.f179,Tryz.func179,zc277⟩
 . exact .inl ⟨Tryz.f177,Tryz.func177,zc278⟩
 . exact .inl ⟨Tryz.f166,Tryz.func166,zc86⟩
 . exact .inl ⟨Tryz.f199,Tryz.func199,zc454⟩
 . exact .inl ⟨Tryz.f191,Tryz.func191,zc91⟩
 . exact .inl ⟨Tryz.f206,Tryz.func206,zc456⟩
 . exact .inl ⟨Tryz.f184,Tryz.func184,zc282⟩
 . exact .inl ⟨Tryz.f186,Tryz.func186,zc283⟩
 . exact .inl ⟨Tryz.f159,Tryz.func159,zc285⟩
 . exact .inl ⟨Tryz.f155,Tryz.func155,zc101⟩
 . exact .inl ⟨Tryz.f158,Tryz.func158,zc289⟩
 . exact .inl ⟨Tryz.f192,Tryz.func192,zc106⟩
 . exact .inl ⟨Tryz.f5,Tryz.func5,zc311⟩
 . exact .inl ⟨Tryz.f7,Tryz.func7,zc325⟩
 . exact .inl ⟨Tryz.f28,Tryz.func28,zc118⟩
 . exact .inl ⟨Tryz.f79,Tryz.func79,zc335⟩
 . exact .inl ⟨Tryz.f24,Tryz.func24,zc336⟩
 . exact .inl ⟨Tryz.f48,Tryz.func48,zc340⟩
 . exact .inl ⟨Tryz.f47,Tryz.func47,zc122⟩
 . exact .inl ⟨Tryz.f85,Tryz.func85,zc342⟩
 . exact .inl ⟨Tryz.f46,Tryz.func46,zc343⟩
 . exact .inl ⟨Tryz.f76,Tryz.func76,zc123⟩
 . exact .inl ⟨Tryz.f83,Tryz.func83,zc344⟩
 . exact .inl ⟨Tryz.f122,Tryz.func122,zc345⟩
 . exact .inl ⟨Tryz.f26,Tryz.func26,zc125⟩
 . exact .inl ⟨Tryz.f15,Tryz.func15,zc346⟩
 . exact .inl ⟨Tryz.f25,Tryz.func25,zc347⟩
 . exact .inl ⟨Tryz.f86,Tryz.func86,zc348⟩
 . exact .inl ⟨Tryz.f84,Tryz.func84,zc349⟩
 . exact .inl ⟨Tryz.f121,Tryz.func121,zc126⟩
 . exact .inl ⟨Tryz.f81,Tryz.func81,zc127⟩
 . exact .inl ⟨Tryz.f16,Tryz.func16,zc128⟩
 . exact .inl ⟨Tryz.f19,Tryz.func19,zc129⟩
 . exact .inl ⟨Tryz.f18,Tryz.func18,zc352⟩
 . exact .inl ⟨Tryz.f78,Tryz.func78,zc130⟩
 . exact .inl ⟨Tryz.f77,Tryz.func77,zc131⟩
 . exact .inl ⟨Tryz.f120,Tryz.func120,zc132⟩
 . exact .inl ⟨Tryz.f41,Tryz.func41,zc357⟩
 . exact .inl ⟨Tryz.f44,Tryz.func44,zc358⟩
 . exact .inl ⟨Tryz.f43,Tryz.func43,zc359⟩
 . exact .inl ⟨Tryz.f74,Tryz.func74,zc360⟩
 . exact .inl ⟨Tryz.f27,Tryz.func27,zc135⟩
 . exact .inl ⟨Tryz.f20,Tryz.func20,zc364⟩
 . exact .inl ⟨Tryz.f12,Tryz.func12,zc137⟩
 . exact .inl ⟨Tryz.f49,Tryz.func49,zc138⟩
 . exact .inl ⟨Tryz.f38,Tryz.func38,zc366⟩
 . exact .inl ⟨Tryz.f39,Tryz.func39,zc367⟩
 . exact .inl ⟨Tryz.f14,Tryz.func14,zc368⟩
 . exact .inl ⟨Tryz.f13,Tryz.func13,zc139⟩
 . exact .inl ⟨Tryz.f17,Tryz.func17,zc140⟩
 . exact .inl ⟨Tryz.f42,Tryz.func42,zc370⟩
 . exact .inl ⟨Tryz.f82,Tryz.func82,zc372⟩
 . exact .inl ⟨Tryz.f75,Tryz.func75,zc141⟩
 . exact .inl ⟨Tryz.f80,Tryz.func80,zc376⟩
 . exact .inl ⟨Tryz.f37,Tryz.func37,zc379⟩
 . exact .inl ⟨Tryz.f45,Tryz.func45,zc381⟩
 . exact .inl ⟨Tryz.f73,Tryz.func73,zc382⟩
 . exact .inl ⟨Tryz.f71,Tryz.func71,zc144⟩
 . exact .inl ⟨Tryz.f72,Tryz.func72,zc145⟩
 . exact .inl ⟨Tryz.f40,Tryz.func40,zc389⟩
 . exact .inl ⟨Tryz.f31,Tryz.func31,zc395⟩
 . exact .inr xok_strings_Count
 . exact .inl ⟨Tryz.f30,Tryz.func30,zc397⟩
 . exact .inr xok_strings_Index
 . exact .inr xok_strings_Join
 . exact .inl ⟨Tryz.f63,Tryz.func63,zc400⟩
 . exact .inl ⟨Tryz.f106,Tryz.func106,zc402⟩
end Go.Proofs.YtglgfefngeknhaaGreatDoor
