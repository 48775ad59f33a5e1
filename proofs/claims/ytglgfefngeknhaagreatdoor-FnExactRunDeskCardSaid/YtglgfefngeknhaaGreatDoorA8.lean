/- Part 8 of a proof by an ideal interpreter of the code: its definitions and lemmas. Conditions: none. -/
import Derived.Test.YtglgfefngeknhaaGreatDoorBk
import Derived.Test.YtglgfefngeknhaaGreatDoorDig
import Derived.Test.YtglgfefngeknhaaGreatDoorRows
import Derived.Test.YtglgfefngeknhaaGreatDoorA7
set_option linter.all false
set_option linter.unusedVariables false
set_option linter.unusedSimpArgs false
namespace Go.Proofs.YtglgfefngeknhaaGreatDoor
open Go Go.Idl
def fids:List (Nat×Nat):=[(zl2,172),(zl4,195),(Qkl,70),(Qwa,117),(Qwb,119),(Ji2,95),(Jau,136),(Jav,137),(Jaw,138),(Ji3,66),(Ji4,139),(zl7,91),(zl8,131),(Qtp,62),(Ji5,69),(Jax,113),(Jay,111),(zl9,67),(Jaz,114),(Ja0,147),(Ji6,92),(Qvv,68),(Jz8,57),(Ji7,60),(Ji8,59),(Ji9,58),(Jja,33),(Qtq,35),(Qvw,61),(Ja1,101),(Qq1,6),(zl18,130),(zl19,154),(zl20,157),(Jjb,96),(Jbp,55),(Qq8,65),(zl29,89),(zl30,128),(Ja2,34),(Jjc,36),(Qvx,64),(Jo1,97),(Jkm,109),(Qvy,116),(Qna,22),(Qnb,104),(zl35,135),(zl36,102),(Jra,94),(Ja3,99),(Qvz,141),(zl38,110),(Qhs,98),(Qv0,103),(Jjd,149),(Qv1,54),(Jrb,90),(Jje,112),(Qq2,56),(Jjf,51),(Ja4,87),(Jo2,4),(Jjg,11),(Jjh,9),(Qv2,10),(Jrc,156),(zl67,175),(zl68,176),(Jj8,115),(Jji,148),(Qv3,107),(Jrd,88),(Jjj,108),(zl71,118),(zl72,127),(Jjk,150),(Qtr,32),(Ja5,100),(Jjl,93),(zl73,129),(Jj9,129),(Jjm,165),(Ja6,53),(zl75,132),(zl76,134),(Ja7,142),(Jjn,140),(zl78,133),(Ja8,181),(zl80,168),(Jka,182),(zl82,169),(zl276,180),(zl84,167),(Ja9,179),(Jba,177),(zl86,166),(Jo3,198),(Jkb,199),(zl91,191),(Qtt,206),(Jbb,184),(zl95,171),(Jbc,186),(zl284,185),(zl98,173),(zl99,174),(Qq3,159),(Qvr,155),(zl286,183),(zl103,170),(Jjo,158),(Jz9,178),(Jix,192),(Qv4,7),(Jjp,79),(Jjq,24),(Jjr,48),(Jiy,47),(Jjs,85),(Jjt,46),(Qvs,76),(Jju,83),(Jbd,122),(Jap,26),(Jjv,15),(Qts,25),(Jjw,86),(Jjx,84),(Jaq,121),(Qvt,81),(Qv5,18),(Jar,78),(Qvu,77),(Jas,120),(Jbe,41),(Jjy,44),(Jjz,43),(Jj0,74),(Jiz,49),(Jbf,38),(Qv6,39),(Jj1,42),(Jj2,82),(Jat,75),(Jj3,80),(Jj4,37),(Jj5,45),(Jbg,73),(Ji0,71),(Ji1,72),(Qq4,40),(Jbh,31),(Jbi,146),(Qv7,30),(Qv8,52),(Qv9,105),(Jj6,63),(zl401,145),(Jj7,106)]
def fidOf:List (Nat×Nat)->Nat->Nat
 | [],_=>0
 | (k,i)::r,l=>if k=l then i else fidOf r l
noncomputable def cx:Cx:=⟨Tryz.prog,fidOf fids,[Jj8]⟩
theorem zc2:Qaw cx Tryz.f172 zi2=true:=by kernel_rfl
theorem zc4:Qaw cx Tryz.f195 zi4=true:=by kernel_rfl
theorem zc151:Qaw cx Tryz.f70 Qgf=true:=by kernel_rfl
theorem zc406:Qaw cx Tryz.f117 Jis=true:=by kernel_rfl
theorem zc407:Qaw cx Tryz.f119 Joz=true:=by kernel_rfl
theorem zc154:Qaw cx Tryz.f95 Jnq=true:=by kernel_rfl
theorem zc155:Qaw cx Tryz.f136 Jnr=true:=by kernel_rfl
theorem zc156:Qaw cx Tryz.f137 Jns=true:=by kernel_rfl
theorem zc157:Qaw cx Tryz.f138 Jnt=true:=by kernel_rfl
theorem zc162:Qaw cx Tryz.f66 Jnu=true:=by kernel_rfl
theorem zc164:Qaw cx Tryz.f139 Jnv=true:=by kernel_rfl
theorem zc7:Qaw cx Tryz.f91 zi7=true:=by kernel_rfl
theorem zc8:Qaw cx Tryz.f131 zi8=true:=by kernel_rfl
theorem zc166:Qaw cx Tryz.f62 Qvn=true:=by kernel_rfl
theorem zc168:Qaw cx Tryz.f69 Jhz=true:=by kernel_rfl
theorem zc169:Qaw cx Tryz.f113 Jnw=true:=by kernel_rfl
theorem zc170:Qaw cx Tryz.f111 Jah=true:=by kernel_rfl
theorem zc9:Qaw cx Tryz.f67 zi9=true:=by kernel_rfl
theorem zc171:Qaw cx Tryz.f114 Jnx=true:=by kernel_rfl
theorem zc172:Qaw cx Tryz.f147 Jh0=true:=by kernel_rfl
theorem zc177:Qaw cx Tryz.f92 Qtn=true:=by kernel_rfl
theorem zc178:Qaw cx Tryz.f68 Qvo=true:=by kernel_rfl
theorem zc10:Qaw cx Tryz.f57 zi10=true:=by kernel_rfl
theorem zc186:Qaw cx Tryz.f60 Jny=true:=by kernel_rfl
theorem zc187:Qaw cx Tryz.f59 Jh1=true:=by kernel_rfl
theorem zc188:Qaw cx Tryz.f58 Jh2=true:=by kernel_rfl
theorem zc191:Qaw cx Tryz.f33 Jai=true:=by kernel_rfl
theorem zc192:Qaw cx Tryz.f35 Qm8=true:=by kernel_rfl
theorem zc193:Qaw cx Tryz.f61 Qvp=true:=by kernel_rfl
theorem zc194:Qaw cx Tryz.f101 Jnz=true:=by kernel_rfl
theorem zc18:Qaw cx Tryz.f130 zi18=true:=by kernel_rfl
theorem zc19:Qaw cx Tryz.f154 zi19=true:=by kernel_rfl
theorem zc20:Qaw cx Tryz.f157 zi20=true:=by kernel_rfl
theorem zc197:Qaw cx Tryz.f96 Jaj=true:=by kernel_rfl
theorem zc25:Qaw cx Tryz.f55 zi25=true:=by kernel_rfl
theorem zc26:Qaw cx Tryz.f65 zi26=true:=by kernel_rfl
theorem zc29:Qaw cx Tryz.f89 zi29=true:=by kernel_rfl
theorem zc30:Qaw cx Tryz.f128 zi30=true:=by kernel_rfl
theorem zc201:Qaw cx Tryz.f34 Qq0=true:=by kernel_rfl
theorem zc202:Qaw cx Tryz.f36 Qn6=true:=by kernel_rfl
theorem zc204:Qaw cx Tryz.f64 Jn0=true:=by kernel_rfl
theorem zc31:Qaw cx Tryz.f97 zi31=true:=by kernel_rfl
theorem zc32:Qaw cx Tryz.f109 zi32=true:=by kernel_rfl
theorem zc206:Qaw cx Tryz.f116 Jn1=true:=by kernel_rfl
theorem zc207:Qaw cx Tryz.f22 Qm9=true:=by kernel_rfl
theorem zc35:Qaw cx Tryz.f135 zi35=true:=by kernel_rfl
theorem zc36:Qaw cx Tryz.f102 zi36=true:=by kernel_rfl
theorem zc37:Qaw cx Tryz.f94 zi37=true:=by kernel_rfl
theorem zc210:Qaw cx Tryz.f99 Jh5=true:=by kernel_rfl
theorem zc211:Qaw cx Tryz.f141 Jn2=true:=by kernel_rfl
theorem zc38:Qaw cx Tryz.f110 zi38=true:=by kernel_rfl
theorem zc212:Qaw cx Tryz.f98 Jh6=true:=by kernel_rfl
theorem zc214:Qaw cx Tryz.f103 Jn3=true:=by kernel_rfl
theorem zc216:Qaw cx Tryz.f149 Jh7=true:=by kernel_rfl
theorem zc217:Qaw cx Tryz.f54 Jh8=true:=by kernel_rfl
theorem zc40:Qaw cx Tryz.f90 zi40=true:=by kernel_rfl
theorem zc220:Qaw cx Tryz.f112 Jh9=true:=by kernel_rfl
theorem zc221:Qaw cx Tryz.f56 Jn4=true:=by kernel_rfl
theorem zc230:Qaw cx Tryz.f51 Jia=true:=by kernel_rfl
theorem zc427:Qaw cx Tryz.f4 Jit=true:=by kernel_rfl
theorem zc234:Qaw cx Tryz.f11 Jn6=true:=by kernel_rfl
theorem zc246:Qaw cx Tryz.f9 Jak=true:=by kernel_rfl
theorem zc249:Qaw cx Tryz.f10 Jn7=true:=by kernel_rfl
theorem zc66:Qaw cx Tryz.f156 zi66=true:=by kernel_rfl
theorem zc68:Qaw cx Tryz.f176 zi68=true:=by kernel_rfl
theorem zc257:Qaw cx Tryz.f148 Jib=true:=by kernel_rfl
theorem zc258:Qaw cx Tryz.f107 Jic=true:=by kernel_rfl
theorem zc70:Qaw cx Tryz.f88 zi70=true:=by kernel_rfl
theorem zc261:Qaw cx Tryz.f108 Jid=true:=by kernel_rfl
theorem zc71:Qaw cx Tryz.f118 zi71=true:=by kernel_rfl
theorem zc72:Qaw cx Tryz.f127 zi72=true:=by kernel_rfl
theorem zc263:Qaw cx Tryz.f150 Jn8=true:=by kernel_rfl
theorem zc264:Qaw cx Tryz.f32 Jn9=true:=by kernel_rfl
theorem zc266:Qaw cx Tryz.f100 Jie=true:=by kernel_rfl
theorem zc267:Qaw cx Tryz.f93 Jal=true:=by kernel_rfl
theorem zc73:Qaw cx Tryz.f129 zi73=true:=by kernel_rfl
theorem zc449:Qaw cx Tryz.f129 Jiu=true:=by kernel_rfl
theorem zc269:Qaw cx Tryz.f165 Jif=true:=by kernel_rfl
theorem zc270:Qaw cx Tryz.f53 Jig=true:=by kernel_rfl
theorem zc75:Qaw cx Tryz.f132 zi75=true:=by kernel_rfl
theorem zc76:Qaw cx Tryz.f134 zi76=true:=by kernel_rfl
theorem zc272:Qaw cx Tryz.f142 Joa=true:=by kernel_rfl
theorem zc273:Qaw cx Tryz.f140 Job=true:=by kernel_rfl
theorem zc78:Qaw cx Tryz.f133 zi78=true:=by kernel_rfl
theorem zc274:Qaw cx Tryz.f181 Joc=true:=by kernel_rfl
theorem zc450:Qaw cx Tryz.f182 Jiv=true:=by kernel_rfl
theorem zc277:Qaw cx Tryz.f179 Jih=true:=by kernel_rfl
theorem zc278:Qaw cx Tryz.f177 Jii=true:=by kernel_rfl
theorem zc86:Qaw cx Tryz.f166 zi86=true:=by kernel_rfl
theorem zc454:Qaw cx Tryz.f199 Jo0=true:=by kernel_rfl
theorem zc91:Qaw cx Tryz.f191 zi91=true:=by kernel_rfl
theorem zc456:Qaw cx Tryz.f206 Jiw=true:=by kernel_rfl
theorem zc282:Qaw cx Tryz.f184 Jij=true:=by kernel_rfl
theorem zc283:Qaw cx Tryz.f186 Jik=true:=by kernel_rfl
theorem zc285:Qaw cx Tryz.f159 Qto=true:=by kernel_rfl
theorem zc101:Qaw cx Tryz.f155 Jni=true:=by kernel_rfl
theorem zc289:Qaw cx Tryz.f158 Jod=true:=by kernel_rfl
theorem zc106:Qaw cx Tryz.f192 Jnj=true:=by kernel_rfl
theorem zc325:Qaw cx Tryz.f7 Jil=true:=by kernel_rfl
theorem zc335:Qaw cx Tryz.f79 Joe=true:=by kernel_rfl
theorem zc336:Qaw cx Tryz.f24 Qfm=true:=by kernel_rfl
theorem zc340:Qaw cx Tryz.f48 Jim=true:=by kernel_rfl
theorem zc122:Qaw cx Tryz.f47 Jnk=true:=by kernel_rfl
theorem zc342:Qaw cx Tryz.f85 Jof=true:=by kernel_rfl
theorem zc343:Qaw cx Tryz.f46 Jog=true:=by kernel_rfl
theorem zc123:Qaw cx Tryz.f76 Jnl=true:=by kernel_rfl
theorem zc344:Qaw cx Tryz.f83 Joh=true:=by kernel_rfl
theorem zc345:Qaw cx Tryz.f122 Joi=true:=by kernel_rfl
theorem zc125:Qaw cx Tryz.f26 Jnm=true:=by kernel_rfl
theorem zc346:Qaw cx Tryz.f15 Joj=true:=by kernel_rfl
theorem zc347:Qaw cx Tryz.f25 Jok=true:=by kernel_rfl
theorem zc348:Qaw cx Tryz.f86 Jol=true:=by kernel_rfl
theorem zc349:Qaw cx Tryz.f84 Jom=true:=by kernel_rfl
theorem zc126:Qaw cx Tryz.f121 Jag=true:=by kernel_rfl
theorem zc127:Qaw cx Tryz.f81 Jnn=true:=by kernel_rfl
theorem zc352:Qaw cx Tryz.f18 Jon=true:=by kernel_rfl
theorem zc130:Qaw cx Tryz.f78 Jhu=true:=by kernel_rfl
theorem zc131:Qaw cx Tryz.f77 Jhv=true:=by kernel_rfl
theorem zc132:Qaw cx Tryz.f120 Jhw=true:=by kernel_rfl
theorem zc357:Qaw cx Tryz.f41 Jin=true:=by kernel_rfl
theorem zc358:Qaw cx Tryz.f44 Joo=true:=by kernel_rfl
theorem zc359:Qaw cx Tryz.f43 Qvq=true:=by kernel_rfl
theorem zc360:Qaw cx Tryz.f74 Jop=true:=by kernel_rfl
theorem zc138:Qaw cx Tryz.f49 Jno=true:=by kernel_rfl
theorem zc366:Qaw cx Tryz.f38 Joq=true:=by kernel_rfl
theorem zc367:Qaw cx Tryz.f39 Jam=true:=by kernel_rfl
theorem zc370:Qaw cx Tryz.f42 Jio=true:=by kernel_rfl
theorem zc372:Qaw cx Tryz.f82 Jan=true:=by kernel_rfl
theorem zc141:Qaw cx Tryz.f75 Jnp=true:=by kernel_rfl
theorem zc376:Qaw cx Tryz.f80 Jor=true:=by kernel_rfl
theorem zc379:Qaw cx Tryz.f37 Jos=true:=by kernel_rfl
theorem zc381:Qaw cx Tryz.f45 Jip=true:=by kernel_rfl
theorem zc382:Qaw cx Tryz.f73 Jot=true:=by kernel_rfl
theorem zc144:Qaw cx Tryz.f71 Jhx=true:=by kernel_rfl
theorem zc145:Qaw cx Tryz.f72 Jhy=true:=by kernel_rfl
theorem zc389:Qaw cx Tryz.f40 Jou=true:=by kernel_rfl
theorem zc395:Qaw cx Tryz.f31 Jiq=true:=by kernel_rfl
theorem zc397:Qaw cx Tryz.f30 Jir=true:=by kernel_rfl
theorem zc400:Qaw cx Tryz.f63 Jox=true:=by kernel_rfl
theorem zc402:Qaw cx Tryz.f106 Joy=true:=by kernel_rfl
theorem xok_impl_RunDesk:Qfo cx Qq1 Jh3:=by
 have e:cx.fid Qq1=6:=by kernel_rfl
 have e2:cx.fid Qna=22:=by kernel_rfl
 refine Qzi ?_ ?_ ?_ ?_
 . rw [e];exact ⟨Tryz.f6,Tryz.func6,by kernel_rfl,by kernel_rfl⟩
 . rw [e,e2];exact fun g bk o c xs w h1 h2 h3 h4=>Tryz.desk_row g bk o c xs w h1 h2 h3 h4
 . rw [e];exact Tryz.desk_none
 . rw [e];exact fun a n c hn w=>Tryz.desk_many a n c hn w
theorem xok_impl_digits:Qfo cx Qnb Jh4:=by
 have e:cx.fid Qnb=104:=by kernel_rfl
 refine Qr8 ?_ ?_ ?_
 . rw [e];exact ⟨Tryz.f104,Tryz.func104,by kernel_rfl,by kernel_rfl⟩
 . rw [e];exact fun bk o c xs w h1 h2 h3 h4=>Tryz.digits_row bk o c xs w h1 h2 h3 h4
 . rw [e];exact Tryz.digits_none
theorem xok_internal_stringslite_Index:Qfo cx Ja4 Jn5:=Qr9 (ρ:=Tryz.lays219_ren) Tryz.lays219 (by kernel_rfl)
theorem xok_strings_Count:Qfo cx Jbi Jov:=Qsa (ρ:=Tryz.lays138_ren) Tryz.lays138 (by kernel_rfl)
theorem xok_strings_Index:Qfo cx Qv8 Jow:=Qsb (ρ:=Tryz.lays143_ren) Tryz.lays143 (by kernel_rfl)
theorem xok_strings_Join:Qfo cx Qv9 Jao:=Qus (ρ:=Tryz.lays156_ren) Tryz.lays156 Tryz.Builder_Extra_156 (by kernel_rfl)
theorem bksOK:Jbq cx:=by
 intro f hf;have hf:f=Jj8:=by cases hf with
  | head=>rfl
  | tail _ h=>cases h
 subst hf;have e:cx.fid Jj8=115:=by kernel_rfl
 refine ⟨151,35,?_,?_,fun m l B ad cap vs J Jx hlen hr hY W h0=>Tryz.bk_iter m l B ad cap vs J Jx hlen hr hY W h0,?_⟩
 . rw [e];exact ⟨Tryz.f115,Tryz.func115,by kernel_rfl,by kernel_rfl⟩
 . exact ⟨Tryz.f151,Tryz.func151,by kernel_rfl,by kernel_rfl⟩
 . rw [e];exact Tryz.bk_call
set_option maxRecDepth 100000 in
theorem tblOk:Jbw cx tb:=by
 refine Jft bksOK fun p hp=>?_;simp only [tbl,Kaf,Kaw,Kcf] at hp;rcases hp with rfl | rfl | rfl | rfl | rfl | rfl | rfl | rfl | rfl | rfl | rfl | rfl | rfl | rfl | rfl | rfl | rfl | rfl | rfl | rfl | rfl | rfl | rfl | rfl | rfl | rfl | rfl | rfl | rfl | rfl | rfl | rfl | rfl | rfl | rfl | rfl | rfl | rfl | rfl | rfl | rfl | rfl | rfl | rfl | rfl | rfl | rfl | rfl | rfl | rfl | rfl | rfl | rfl | rfl | rfl | rfl | rfl | rfl | rfl | rfl | rfl | rfl | rfl | rfl | rfl | rfl | rfl | rfl | rfl | rfl | rfl | rfl | rfl | rfl | rfl | rfl | rfl | rfl | rfl | rfl | rfl | rfl | rfl | rfl | rfl | rfl | rfl | rfl | rfl | rfl | rfl | rfl | rfl | rfl | rfl | rfl | rfl | rfl | rfl | rfl | rfl | rfl | rfl | rfl | rfl | rfl | rfl | rfl | rfl | rfl | rfl | rfl | rfl | rfl | rfl | rfl | rfl | rfl | rfl | rfl | rfl | rfl | rfl | rfl | rfl | rfl | rfl | rfl | rfl | rfl | rfl | rfl | rfl | rfl | rfl | rfl | rfl | rfl | rfl | rfl | rfl | rfl | rfl | rfl | rfl | rfl
 . exact .inl ⟨Tryz.f172,Tryz.func172,zc2⟩
 . exact .inl ⟨Tryz.f195,Tryz.func195,zc4⟩
 . exact .inl ⟨Tryz.f70,Tryz.func70,zc151⟩
 . exact .inl ⟨Tryz.f117,Tryz.func117,zc406⟩
 . exact .inl ⟨Tryz.f119,Tryz.func119,zc407⟩
 . exact .inl ⟨Tryz.f95,Tryz.func95,zc154⟩
 . exact .inl ⟨Tryz.f136,Tryz.func136,zc155⟩
 . exact .inl ⟨Tryz.f137,Tryz.func137,zc156⟩
 . exact .inl ⟨Tryz.f138,Tryz.func138,zc157⟩
 . exact .inl ⟨Tryz.f66,Tryz.func66,zc162⟩
 . exact .inl ⟨Tryz.f139,Tryz.func139,zc164⟩
 . exact .inl ⟨Tryz.f91,Tryz.func91,zc7⟩
 . exact .inl ⟨Tryz.f131,Tryz.func131,zc8⟩
 . exact .inl ⟨Tryz.f62,Tryz.func62,zc166⟩
 . exact .inl ⟨Tryz.f69,Tryz.func69,zc168⟩
 . exact .inl ⟨Tryz.f113,Tryz.func113,zc169⟩
 . exact .inl ⟨Tryz.f111,Tryz.func111,zc170⟩
 . exact .inl ⟨Tryz.f67,Tryz.func67,zc9⟩
 . exact .inl ⟨Tryz.f114,Tryz.func114,zc171⟩
 . exact .inl ⟨Tryz.f147,Tryz.func147,zc172⟩
 . exact .inl ⟨Tryz.f92,Tryz.func92,zc177⟩
 . exact .inl ⟨Tryz.f68,Tryz.func68,zc178⟩
 . exact .inl ⟨Tryz.f57,Tryz.func57,zc10⟩
 . exact .inl ⟨Tryz.f60,Tryz.func60,zc186⟩
 . exact .inl ⟨Tryz.f59,Tryz.func59,zc187⟩
 . exact .inl ⟨Tryz.f58,Tryz.func58,zc188⟩
 . exact .inl ⟨Tryz.f33,Tryz.func33,zc191⟩
 . exact .inl ⟨Tryz.f35,Tryz.func35,zc192⟩
 . exact .inl ⟨Tryz.f61,Tryz.func61,zc193⟩
 . exact .inl ⟨Tryz.f101,Tryz.func101,zc194⟩
 . exact .inr xok_impl_RunDesk
 . exact .inl ⟨Tryz.f130,Tryz.func130,zc18⟩
 . exact .inl ⟨Tryz.f154,Tryz.func154,zc19⟩
 . exact .inl ⟨Tryz.f157,Tryz.func157,zc20⟩
 . exact .inl ⟨Tryz.f96,Tryz.func96,zc197⟩
 . exact .inl ⟨Tryz.f55,Tryz.func55,zc25⟩
 . exact .inl ⟨Tryz.f65,Tryz.func65,zc26⟩
 . exact .inl ⟨Tryz.f89,Tryz.func89,zc29⟩
 . exact .inl ⟨Tryz.f128,Tryz.func128,zc30⟩
 . exact .inl ⟨Tryz.f34,Tryz.func34,zc201⟩
 . exact .inl ⟨Tryz.f36,Tryz.func36,zc202⟩
 . exact .inl ⟨Tryz.f64,Tryz.func64,zc204⟩
 . exact .inl ⟨Tryz.f97,Tryz.func97,zc31⟩
 . exact .inl ⟨Tryz.f109,Tryz.func109,zc32⟩
 . exact .inl ⟨Tryz.f116,Tryz.func116,zc206⟩
 . exact .inl ⟨Tryz.f22,Tryz.func22,zc207⟩
 . exact .inr xok_impl_digits
 . exact .inl ⟨Tryz.f135,Tryz.func135,zc35⟩
 . exact .inl ⟨Tryz.f102,Tryz.func102,zc36⟩
 . exact .inl ⟨Tryz.f94,Tryz.func94,zc37⟩
 . exact .inl ⟨Tryz.f99,Tryz.func99,zc210⟩
 . exact .inl ⟨Tryz.f141,Tryz.func141,zc211⟩
 . exact .inl ⟨Tryz.f110,Tryz.func110,zc38⟩
 . exact .inl ⟨Tryz.f98,Tryz.func98,zc212⟩
 . exact .inl ⟨Tryz.f103,Tryz.func103,zc214⟩
 . exact .inl ⟨Tryz.f149,Tryz.func149,zc216⟩
 . exact .inl ⟨Tryz.f54,Tryz.func54,zc217⟩
 . exact .inl ⟨Tryz.f90,Tryz.func90,zc40⟩
 . exact .inl ⟨Tryz.f112,Tryz.func112,zc220⟩
 . exact .inl ⟨Tryz.f56,Tryz.func56,zc221⟩
 . exact .inl ⟨Tryz.f51,Tryz.func51,zc230⟩
 . exact .inr xok_internal_stringslite_Index
 . exact .inl ⟨Tryz.f4,Tryz.func4,zc427⟩
 . exact .inl ⟨Tryz.f11,Tryz.func11,zc234⟩
 . exact .inl ⟨Tryz.f9,Tryz.func9,zc246⟩
 . exact .inl ⟨Tryz.f10,Tryz.func10,zc249⟩
 . exact .inl ⟨Tryz.f156,Tryz.func156,zc66⟩
 . exact .inl ⟨Tryz.f176,Tryz.func176,zc68⟩
 . exact .inl ⟨Tryz.f148,Tryz.func148,zc257⟩
 . exact .inl ⟨Tryz.f107,Tryz.func107,zc258⟩
 . exact .inl ⟨Tryz.f88,Tryz.func88,zc70⟩
 . exact .inl ⟨Tryz.f108,Tryz.func108,zc261⟩
 . exact .inl ⟨Tryz.f118,Tryz.func118,zc71⟩
 . exact .inl ⟨Tryz.f127,Tryz.func127,zc72⟩
 . exact .inl ⟨Tryz.f150,Tryz.func150,zc263⟩
 . exact .inl ⟨Tryz.f32,Tryz.func32,zc264⟩
 . exact .inl ⟨Tryz.f100,Tryz.func100,zc266⟩
 . exact .inl ⟨Tryz.f93,Tryz.func93,zc267⟩
 . exact .inl ⟨Tryz.f129,Tryz.func129,zc73⟩
 . exact .inl ⟨Tryz.f129,Tryz.func129,zc449⟩
 . exact .inl ⟨Tryz.f165,Tryz.func165,zc269⟩
 . exact .inl ⟨Tryz.f53,Tryz.func53,zc270⟩
 . exact .inl ⟨Tryz.f132,Tryz.func132,zc75⟩
 . exact .inl ⟨Tryz.f134,Tryz.func134,zc76⟩
 . exact .inl ⟨Tryz.f142,Tryz.func142,zc272⟩
 . exact .inl ⟨Tryz.f140,Tryz.func140,zc273⟩
 . exact .inl ⟨Tryz.f133,Tryz.func133,zc78⟩
 . exact .inl ⟨Tryz.f181,Tryz.func181,zc274⟩
 . exact .inl ⟨Tryz.f182,Tryz.func182,zc450⟩
 . exact .inl ⟨Tryz.f179,Tryz.func179,zc277⟩
 . exact .inl ⟨Tryz.f177,Tryz.func177,zc278⟩
 . exact .inl ⟨Tryz.f166,Tryz.func166,zc86⟩
 . exact .inl ⟨Tryz.f199,Tryz.func199,zc454⟩
 . exact .inl ⟨Tryz.f191,Tryz.func191,zc91⟩
 . exact .inl ⟨Tryz.f206,Tryz.func206,zc456⟩
 . exact .inl ⟨Tryz.f184,Tryz.func184,zc282⟩
 . exact .inl ⟨Tryz.f186,Tryz.func186,zc283⟩
 . exact .inl ⟨Tryz.f159,Tryz.func159,zc285⟩
 . exact .inl ⟨Tryz.f155,Tryz.func155,zc101⟩
 . exact .inl ⟨Tryz.f158,Tryz.func158,zc289⟩
 . exact .inl ⟨Tryz.f192,Tryz.func192,zc106⟩
 . exact .inl ⟨Tryz.f7,Tryz.func7,zc325⟩
 . exact .inl ⟨Tryz.f79,Tryz.func79,zc335⟩
 . exact .inl ⟨Tryz.f24,Tryz.func24,zc336⟩
 . exact .inl ⟨Tryz.f48,Tryz.func48,zc340⟩
 . exact .inl ⟨Tryz.f47,Tryz.func47,zc122⟩
 . exact .inl ⟨Tryz.f85,Tryz.func85,zc342⟩
 . exact .inl ⟨Tryz.f46,Tryz.func46,zc343⟩
 . exact .inl ⟨Tryz.f76,Tryz.func76,zc123⟩
 . exact .inl ⟨Tryz.f83,Tryz.func83,zc344⟩
 . exact .inl ⟨Tryz.f122,Tryz.func122,zc345⟩
 . exact .inl ⟨Tryz.f26,Tryz.func26,zc125⟩
 . exact .inl ⟨Tryz.f15,Tryz.func15,zc346⟩
 . exact .inl ⟨Tryz.f25,Tryz.func25,zc347⟩
 . exact .inl ⟨Tryz.f86,Tryz.func86,zc348⟩
 . exact .inl ⟨Tryz.f84,Tryz.func84,zc349⟩
 . exact .inl ⟨Tryz.f121,Tryz.func121,zc126⟩
 . exact .inl ⟨Tryz.f81,Tryz.func81,zc127⟩
 . exact .inl ⟨Tryz.f18,Tryz.func18,zc352⟩
 . exact .inl ⟨Tryz.f78,Tryz.func78,zc130⟩
 . exact .inl ⟨Tryz.f77,Tryz.func77,zc131⟩
 . exact .inl ⟨Tryz.f120,Tryz.func120,zc132⟩
 . exact .inl ⟨Tryz.f41,Tryz.func41,zc357⟩
 . exact .inl ⟨Tryz.f44,Tryz.func44,zc358⟩
 . exact .inl ⟨Tryz.f43,Tryz.func43,zc359⟩
 . exact .inl ⟨Tryz.f74,Tryz.func74,zc360⟩
 . exact .inl ⟨Tryz.f49,Tryz.func49,zc138⟩
 . exact .inl ⟨Tryz.f38,Tryz.func38,zc366⟩
 . exact .inl ⟨Tryz.f39,Tryz.func39,zc367⟩
 . exact .inl ⟨Tryz.f42,Tryz.func42,zc370⟩
 . exact .inl ⟨Tryz.f82,Tryz.func82,zc372⟩
 . exact .inl ⟨Tryz.f75,Tryz.func75,zc141⟩
 . exact .inl ⟨Tryz.f80,Tryz.func80,zc376⟩
 . exact .inl ⟨Tryz.f37,Tryz.func37,zc379⟩
 . exact .inl ⟨Tryz.f45,Tryz.func45,zc381⟩
 . exact .inl ⟨Tryz.f73,Tryz.func73,zc382⟩
 . exact .inl ⟨Tryz.f71,Tryz.func71,zc144⟩
 . exact .inl ⟨Tryz.f72,Tryz.func72,zc145⟩
 . exact .inl ⟨Tryz.f40,Tryz.func40,zc389⟩
 . exact .inl ⟨Tryz.f31,Tryz.func31,zc395⟩
 . exact .inr xok_strings_Count
 . exact .inl ⟨Tryz.f30,Tryz.func30,zc397⟩
 . exact .inr xok_strings_Index
 . exact .inr xok_strings_Join
 . exact .inl ⟨Tryz.f63,Tryz.func63,zc400⟩
 . exact .inl ⟨Tryz.f106,Tryz.func106,zc402⟩
end Go.Proofs.YtglgfefngeknhaaGreatDoor
