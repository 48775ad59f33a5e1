/- Part 3 of a proof by an ideal interpreter of the code: its definitions and lemmas. Conditions: none. -/
import Derived.Below
import Derived.Lib.Bytealg
import Derived.LoopN
import Derived.LoopNIn
import Derived.OrdersIn
import Derived.RangeFuncCalls
import Derived.RangeFuncLeaves
import Derived.RangeFuncRecord
import Derived.RangeFuncSeq
import Derived.Scope
import Derived.Shelf.Strings.Count
import Derived.Shelf.Strings.OnBuilder
import Derived.Shelf.Strings.Search3
import Derived.Test.YtglgfefngeknhaaGreatDoorA2
set_option linter.all false
set_option linter.unusedVariables false
set_option linter.unusedSimpArgs false
namespace Go.Idl
open Go
def Jrp (cx:Cx) (ops:Array Oper) (n:Nat) (keep:List Nat):List Oper->List IOp->Bool
 | [],[]=>true
 | o::os,x::xs=>Jkx cx ops n keep o x && Jrp cx ops n keep os xs
 | _,_=>false
def bNil (cx:Cx) (n:Nat) (keep:List Nat):Code->List IOp->Opd->Nat->Bool
 | .region _ ops false,iops,x,t=>Jrp cx ops n keep (ops.toList.take iops.length) iops && ops.size == iops.length+1 && (match ops[iops.length]? with
   | some o=>o.guard.isNone && (match o.dst with | some d=>d == t | none=>false) && decide (t < n) && !keep.contains t && (match o.op with
     | .binOp .eql T a (.const v) _=>vEq v (.slice none 0 0) && Qb2 cx.P T (fun _=>true) && Qc9 cx a x
     | _=>false)
   | none=>false)
 | _,_,_,_=>false
def Qba (cx:Cx) (n:Nat) (keep:List Nat):IC->Code->Bool
 | i,.scope c=>Qba cx n keep i c
 | .skip,.skip=>true
 | .skip,.label _=>true
 | .reg iops _ alts,.region _ ops draw=>Jrp cx ops n keep ops.toList iops && (!draw || Qt9 ops (Qh1 iops) alts)
 | .regd iops ord _ alts,.region _ ops draw=>Jrp cx ops n keep ops.toList iops && draw && Jla ops iops ord alts
 | .seq x y,.seq a b=>Qba cx n keep x a && Qba cx n keep y b
 | .nilc iops x t _ y,.seq a b=>bNil cx n keep a iops x t && Qba cx n keep y b
 | .nilc2 iops x t _ y1 y2,.seq (.seq a1 a2) b=>bNil cx n keep a1 iops x t && Qba cx n keep y1 a2 && Qba cx n keep y2 b
 | .cond d x y,.cond c a b=>Qc9 cx c d && Qba cx n keep x a && Qba cx n keep y b
 | .block id' b',.block id b=>id == id' && Qba cx n keep b' b
 | .loop b',.loop b=>Qba cx n keep b' b
 | .exit id',.exit id=>id == id'
 | .ret,.ret=>true
 | .hole,_=>true
 | _,_=>false
abbrev Qc8 (cx:Cx) (n:Nat) (keep:List Nat) (c:Code) (i:IC):Bool:=Qba cx n keep i c
def Jkh:Ex->Exit
 | .normal=>.normal
 | .exit id=>.exit id
 | .ret=>.ret
section
variable {cx:Cx} {w0:World} {F0:Nat->Prop} {ρ0:Rho} {fp0:Fp} {st0:St} {a0:Act} {keep:List Nat} {n:Nat} {cf:CF}
variable {w:World} {st st':St} {a:Act}
def Jrh (cx:Cx) (w0:World) (F0:Nat->Prop) (ρ0:Rho) (fp0:Fp) (st0:St) (a0:Act) (keep:List Nat) (n:Nat) (ex:Ex) (st':St):Exit->Act->World->Prop :=
 fun e a w=>e=Jkh ex/\Inv cx w0 F0 ρ0 fp0 st0 a0 keep n st' a w
theorem Qfq {ops:Array Oper}:∀ {os:List Oper} {xs:List IOp},Jrp cx ops n keep os xs=true->os.length=xs.length/\∀ (i:Nat) (o:Oper) (x:IOp),os[i]? = some o->xs[i]? = some x->Jkx cx ops n keep o x=true
 | [],[],_=>⟨rfl,by simp⟩
 | o::os,x::xs,h=>by
   simp only [Jrp,Kac] at h;obtain ⟨h1,h2⟩:=Qfq h.2;refine ⟨by simp [h1],fun i o' x' ho hx=>?_⟩;cases i with
   | zero=>simp at ho hx;subst ho hx;exact h.1
   | succ i=>exact h2 i o' x' (by simpa using ho) (by simpa using hx)
 | [],_::_,h=>by cases h
 | _::_,[],h=>by cases h
theorem Qe5 (l:List IOp):Qai l (List.range l.length)=l:=by
 unfold Qai
 induction l with
 | nil=>rfl
 | cons x l ih =>
   rw [Kbc,List.range_succ_eq_map,List.filterMap_cons];simp only [Kcs,List.filterMap_map];congr 1
theorem Qso (h:Inv cx w0 F0 ρ0 fp0 st0 a0 keep n st a w) (k:Nat):Inv cx w0 F0 ρ0 fp0 st0 a0 keep n st a { w with drawn:=k }:=by
 obtain ⟨F,ρ,fp,hR,hE,h1⟩:=h;obtain ⟨hR',-⟩:=hR.grow (w':={ w with drawn:=k }) (fun _ _ _=>rfl) (Kam _) (Y:=[]) .nil (by simp);exact ⟨F,ρ,fp,by simpa using hR',⟨hE.size,hE.keep,hE.fpn,hE.xn,hE.Fm,hE.Fn,hE.rho,hE.env⟩,h1⟩
theorem Qja (h:Inv cx w0 F0 ρ0 fp0 st0 a0 keep n st a w) (live:List Nat):Inv cx w0 F0 ρ0 fp0 st0 a0 keep n (st.cut live) a w:=by
 obtain ⟨F,ρ,fp,hR,hE,hS,h1⟩:=h;obtain ⟨fp',k1,k2,k3⟩:=hR.restrict live;exact ⟨F,ρ,fp',k3,⟨hE.size,hE.keep,fun r b hb=>hE.fpn r b (k1 r b hb),hE.xn,hE.Fm,hE.Fn,hE.rho,hE.env⟩,⟨hS.M,hS.loc⟩,h1⟩
theorem Jsr (h:Inv cx w0 F0 ρ0 fp0 st0 a0 keep n st a w) {k1 k2:Nat} (h1:st0.loc.length<=k1) (h2:st0.loc.length<=k2) (hsw:st.swB k1 k2=some st'):Inv cx w0 F0 ρ0 fp0 st0 a0 keep n st' a w:=by
 obtain ⟨F,ρ,fp,hR,hE,hS,hk⟩:=h;have hMl:st0.M.length=st.M.length:=by have:=congrArg List.length hS.M;simpa using this.symm
 refine ⟨F,_,_,hR.swB hsw,⟨hE.size,hE.keep,fun r b hb=>hE.fpn _ b hb,hE.xn,hE.Fm,hE.Fn,fun l k hex=>?_,hE.env⟩,?_,hk⟩
 . have:=hE.rho l k hex;rw [<- this];simp only [Jad];by_cases hl:l=st.M.length
   . rw [if_pos hl];have hex:(st0.box l k).isSome=true:=hex;rw [St.box,if_pos (by omega)] at hex;have hkl:k < st0.loc.length:=by
      cases hq:st0.loc[k]? with
      | none=>rw [hq] at hex;cases hex
      | some b=>exact (Kak.1 hq).1
     rw [swN,if_neg (by omega),if_neg (by omega)]
   . rw [if_neg hl]
 . unfold St.swB at hsw;split at hsw
   . simp only [Kaa] at hsw;subst hsw;exact ⟨hS.M,by simpa using hS.loc⟩
   . cases hsw
theorem Qr6 (h:Inv cx w0 F0 ρ0 fp0 st0 a0 keep n st a w) {c:Operand} {d:Opd} (hc:Qaz cx c d) {t:Bool} (ht:rd st.T d=.sc (.bool t)):a.eval c=.bool t:=by
 obtain ⟨F,ρ,fp,hR,-⟩:=h;have:=Qa0 hR hc;rw [ht] at this;exact (Qbd this).1
theorem Jf3 {P:Program} {ops:Array Oper} {cls:Nat->Cls} {K K2:Act->World->Prop} {l l2:List Nat} (hK:∀ a w,K2 a w->wpY P ops cls K l2 a w):∀ {a:Act} {w:World},wpY P ops cls K2 l a w->wpY P ops cls K (l++l2) a w:=by
 induction l with
 | nil=>intro a w h;exact hK a w h
 | cons i l ih =>
   intro a w h;obtain ⟨o,ho,h⟩:=h;refine ⟨o,ho,?_⟩;split at h
   . obtain ⟨v,hy,h⟩:=h;exact ⟨v,hy,ih h⟩
   . obtain ⟨v,hy,h⟩:=h;exact ⟨v,hy,ih h⟩
   . exact wpOp_mono (fun _ _=>ih) h
theorem Qy1 {x:IV} {v:Value} {b:Bool} {F:Nat->Prop} {ρ:Rho} {fp:Fp} {X:List Nat} (hR:Rel cx w F ρ fp X st (Qah a)) (h:Qa6 cx w F ρ st (look st (Qah a) ρ w) x v []) (hb:Qlq x=some b) :
 ∃ ad len cap,v=.slice ad len cap/\(b=false->ad.isSome=true):=by
 unfold Qlq at hb;split at hb
 . rename_i e es c;simp only [Kaa] at hb;have hd:RDs w F [.lst e es c] [v] []:=by
    rcases h with ⟨h,_⟩ | h
    . exact h.elim
    . exact h
   obtain ⟨-,h1⟩:=hd.lst_inv;rcases h1 with ⟨rfl,ad,cap,rfl,-⟩ | ⟨b1,o,cap,C,ty,fr,rfl,_⟩
   . exact ⟨ad,0,cap,rfl,fun hf=>by subst hb;simp at hf⟩
   . exact ⟨_,_,_,rfl,fun _=>rfl⟩
 . rename_i r c p e off n cl;simp only [Kaa] at hb;rcases h with ⟨⟨x0,v0,es,A0,N,cap0,A,cap,k1,k2,k3,hA,k5,k6,k7,k8⟩,_⟩ | h
   . refine ⟨A,n,cap,hA,fun hf=>?_⟩;subst hb;have hn:0 < n:=by
      rcases Kdj n with h | h
      . subst h;simp at hf
      . exact h
     obtain ⟨b,o1,-,rfl⟩:=k8.1 (by omega);rfl
   . cases h
 . cases hb
theorem Qz8 {P:Program} {T e:TypeId} (hT:P.underlying T=some (.slice e)) {ad:Option Addr} {len cap:Nat} (w:World) (d:Nat):(Op.equalIn (d+1) T (.slice ad len cap) (.slice none 0 0)).run P w=.ok ad.isNone w:=by
 cases ad <;> simp [Op.equalIn,run_underlying hT]
theorem Jfc {P:Program} {T e:TypeId} (hT:P.underlying T=some (.slice e)) {ad:Option Addr} {len cap:Nat} (w:World):(Op.equal T (.slice ad len cap) (.slice none 0 0)).run P w=.ok ad.isNone w :=
 Qz8 hT w 9999
end
end Go.Idl
namespace Go.Idl
open Go
def FR (r:Option Nat):Fence:={ Fence.wide with round:=r }
def ndOps (ops:Array Oper):Bool:=ops.toList.all fun o=>match o.op with
 | .defer _=>false
 | _=>true
def ndC:Code->Bool
 | .region _ ops _=>ndOps ops
 | .seq x y | .cond _ x y=>ndC x && ndC y
 | .block _ c | .loop c | .scope c=>ndC c
 | .rangeFunc _ _ x y=>ndC x && ndC y
 | _=>true
def Jke (r:Option Nat) (ops:Array Oper):Prop:=r=none \/ ndOps ops=true
theorem Jke.sem {r:Option Nat} {ops:Array Oper} (h:Jke r ops) {i:Nat} {o:Oper} (ho:ops[i]? = some o) (ρ:Operand->Value):Oper.semAt r ρ o=execOp ρ o:=by
 rcases h with rfl | h
 . rfl
 . refine Oper.semAt_eq _ _ _ fun c hc=>?_;have:=Kaj.1 h o (by simpa using Array.mem_of_getElem? ho);simp [hc] at this
section
variable {P:Program} {ops:Array Oper} {cls:Nat->Cls} {K:Act->World->Prop} {a:Act} {w:World} {r:Option Nat} {m:Nat}
theorem Qyu {f:FuncId} {args:Array Value} {R:Ending->World->Prop} (h:Calls P f args w R):CallsIn (FR r) m P f args w R :=
 callsIn_wide.2 h
theorem Jfb {row:String} {args:Array Value} {R:Value->World->Prop} (h:Rows P row args w R):RowsIn (FR r) m P row args w R :=
 fun c cs _=>let ⟨v,w',h1,h2⟩:=h c cs;⟨v,w',h1,(stepsIn_wide.2 h2:StepsIn (Machine.fenced P Fence.wide) P _ _)⟩
theorem Jt4 {i:Nat} (hnd:Jke r ops) (h:wpOp P ops QF i K a w):wpOpIn (FR r) m P ops QF i K a w:=by
 unfold wpOp at h;unfold wpOpIn;cases ho:ops[i]? with
 | none=>simpa only [ho] using h
 | some o =>
   simp only [ho] at h |-;by_cases hw:Region.wanted o (yielded ops a.tmps)=true
   . simp only [hw,if_true] at h |-;rcases h with h | ⟨-,x,y,h⟩
     . refine ⟨fun _ _=>trivial,?_⟩;rw [show (FR r).round=r from rfl,hnd.sem ho];unfold Oper.wp at h;generalize (execOp a.eval o).run P w=res at h |-;have hdep:(FR r).depth.isSome=true->1<=m:=fun h=>by cases h
       cases res with
       | ok x w' =>
         cases x <;> simp only [Oper.upon,Oper.uponIn] at h |-
         all_goals first
          | exact h
          | exact ⟨hdep,Jfb h⟩
          | exact ⟨hdep,CallsIn.mono (Qyu h) fun e w'' he=>by cases e <;> exact he⟩
          | exact h.elim
       | halt x w'=>cases x <;> simp only [Oper.upon,Oper.uponIn] at h |- <;> exact h
     . exact h.elim
   . rw [if_neg hw] at h |-;exact ⟨fun _ _=>trivial,h⟩
theorem QFIn {i:Nat} {Q:Exit->Act->World->Prop} (h:wpOpIn (FR r) m P ops QF i K a w):wpOpIn (FR r) m P ops Q i K a w:=by
 unfold wpOpIn at *
 cases ho:ops[i]? with
 | none=>simpa only [ho] using h
 | some o =>
   simp only [ho] at h |-;by_cases hw:Region.wanted o (yielded ops a.tmps)=true
   . rw [if_pos hw] at h |-;refine ⟨h.1,?_⟩;have h:=h.2;generalize (o.semAt (FR r).round a.eval).run P w=res at h |-;cases res with
     | ok x w' =>
       cases x <;> simp only [Oper.uponIn] at h |-
       all_goals first
        | exact h
        | (refine ⟨h.1,CallsIn.mono h.2 fun e w'' he=>?_⟩
           cases e with
           | returned v=>exact he
           | panicked c=>exact he.elim
           | outgrown=>obtain ⟨_,_,he⟩:=he;exact he.elim)
        | (refine ⟨h.1,RoundIn.mono h.2 fun e w'' he=>?_⟩
           cases e with
           | returned v=>exact he
           | panicked c=>exact he.elim
           | outgrown=>obtain ⟨_,_,he⟩:=he;exact he.elim)
     | halt x w'=>cases x <;> simp only [Oper.uponIn] at h |- <;> exact h.elim
   . rw [if_neg hw] at h |-;exact h
theorem Qm6 {Q:Exit->Act->World->Prop} {l:List Nat} (hnd:Jke r ops) (hK:∀ a w,K a w->Q .normal a w):∀ {a:Act} {w:World},wpY P ops cls K l a w->wpOpsIn (FR r) m P ops Q l a w:=by
 induction l with
 | nil=>intro a w h;exact hK a w h
 | cons i l ih =>
   intro a w h;obtain ⟨o,ho,h⟩:=h;rw [wpOpsIn_cons];refine QFIn (Jt4 hnd ?_);split at h
   . obtain ⟨v,hy,h⟩:=h;exact hy.wpOp ho (ih h)
   . obtain ⟨v,hy,h⟩:=h;exact hy.wpOp ho (ih h)
   . exact wpOp_mono (fun _ _=>ih) h
theorem Qho {id:Nat} {Q:Exit->Act->World->Prop} (hnd:Jke r ops) (hK:∀ a w,K a w->Q .normal a w) (h:wpY P ops cls K (List.range ops.size) a w):(Code.region id ops false).wpIn (FR r) m P Q a w :=
 wpIn_region (Qm6 hnd hK h)
theorem Qvk {id:Nat} {alts:List (List Nat)} {Q:Exit->Act->World->Prop} (hnd:Jke r ops) (hm:P.follows .mixedOrders=true)
 (hd:Qt9 ops cls alts=true) (hK:∀ a w,K a w->Q .normal a w)
 (h:∀ τ ∈ List.range ops.size::alts,wpY P ops cls K τ a { w with drawn:=w.drawn+1 }):(Code.region id ops true).wpIn (FR r) m P Q a w:=by
 refine wpIn_region_draw fun t=>?_;simp only [Region.schedule,hm,Bool.true_or,if_true];have hb:Qo5 .any ops=true:=by
  unfold Qt9 at hd;simp only [Kac] at hd;exact hd.1.1.1
 obtain ⟨τ,hτ,h1,h2,h3⟩:=Qyz hd (Jpo hb t);exact Qm6 hnd hK (Qyn h1 h2 h3 (h τ hτ))
theorem Qcx {b:Frame} {k:List Item} {cs:List Frame} {c:Code}:step P (lone (b.atR a (.code (.scope c)::k)) cs w)=.next (lone (b.atR a (.code c::.inScope c::k)) cs w) :=
 step_lone_go (by simp [stepG,stepG.exec,Frame.atR])
theorem Qqq {b:Frame} {k:List Item} {cs:List Frame} {c:Code}:step P (lone (b.atR a (.inScope c::k)) cs w)=.next (lone (b.atR a k) cs w) :=
 step_lone_go (by simp [stepG,stepG.exec,Frame.atR])
theorem Qdw {F:Fence} {Q:Exit->Act->World->Prop} {c:Code} (h:c.wpIn F m P (Exit.noGoto Q) a w):(Code.scope c).wpIn F m P Q a w:=by
 intro b k cs hro hb hr;have h0:(lone (b.atR a (.code (.scope c)::k)) cs w).fenced P F:=fenced_calm hb hr rfl;obtain ⟨e,a₁,w₁,hq,harr⟩:=h b (.inScope c::k) cs hro hb hr;cases e with
 | normal=>exact ⟨.normal,a₁,w₁,hq,.head h0 Qcx (StepsIn.trans harr (.one (fenced_calm hb hr rfl) Qqq))⟩
 | exit id' =>
   have hx:exitTo id' (.inScope c::k)=exitTo id' k:=by simp [exitTo]
   exact ⟨.exit id',a₁,w₁,hq,fun k' hk=>.head h0 Qcx (harr.1 k' (by rw [hx];exact hk)),
    fun hr' hk=>let ⟨k₁,h1,h2⟩:=harr.2 hr' (by rw [hx];exact hk);⟨k₁,h1,.head h0 Qcx h2⟩⟩
 | goto l=>exact hq.elim
 | ret=>exact ⟨_,a₁,w₁,hq,.of_steps (.one h0 Qcx) harr⟩
 | panic ch=>exact ⟨_,a₁,w₁,hq,.of_steps (.one h0 Qcx) harr⟩
 | outgrown=>exact ⟨_,a₁,w₁,hq,.of_steps (.one h0 Qcx) harr⟩
end
end Go.Idl
namespace Go.Idl
open Go
section
variable {cx:Cx} {w0:World} {F0:Nat->Prop} {ρ0:Rho} {fp0:Fp} {st0:St} {a0:Act} {keep:List Nat} {n:Nat} {cf:CF}
variable {w:World} {st st':St} {a:Act}
variable {r:Option Nat} {dp:Nat}
theorem Qd0 {a b:Bool} (h:(a && b)=true):a=true/\b=true:=by simpa using h
theorem Qmt (hcf:Qcn cx cf) {x:Code} (hnd:r=none \/ ndC x=true) {G:Act->World->Prop} {Q:Exit->Act->World->Prop} {iops:List IOp} {e:Opd} {t:Nat} {live:List Nat} {f:St->Option (Ex×St)} {ex:Ex} (hb:bNil cx n keep x iops e t=true) (hev:Qf4 (Qaf cf st iops) e t live f=some (ex,st'))
 (hI:Inv cx w0 F0 ρ0 fp0 st0 a0 keep n st a w) (hy:∀ {st:St} {a:Act} {w:World},f st=some (ex,st')->Inv cx w0 F0 ρ0 fp0 st0 a0 keep n st a w->G a w) :
 x.wpIn (FR r) dp cx.P (Exit.then G Q) a w:=by
 obtain ⟨id,ops,rfl⟩:∃ id ops,x=.region id ops false:=by
  unfold bNil at hb;split at hb
  . exact ⟨_,_,rfl⟩
  . cases hb
 simp only [bNil,Kac,Kbt] at hb;obtain ⟨⟨hops,hsz⟩,hb⟩:=hb;split at hb;rotate_left
 . cases hb
 rename_i o ho;simp only [Kac,Kai,Kby,Option.isNone_iff_eq_none] at hb;obtain ⟨⟨⟨⟨hg,hd⟩,htn⟩,htk⟩,hop⟩:=hb;split at hd;rotate_left
 . cases hd
 rename_i d hdst;have hdt:d=t:=eq_of_beq hd;subst hdt;split at hop;rotate_left
 . cases hop
 rename_i T xo v yt hopk;simp only [Kac] at hop;obtain ⟨⟨hv,hT⟩,hx⟩:=hop;have hv':=Jfy hv;subst hv';obtain ⟨el,hel,-⟩:=Qbe hT;obtain ⟨hlen,hck⟩:=Qfq hops;have hck':∀ (i:Nat) (o:Oper) (x:IOp),ops[i]? = some o->iops[i]? = some x->Jkx cx ops n keep o x=true:=fun i o x ho hx=>by
  have hi:i < iops.length:=(Kak.1 hx).1;exact hck i o x (by rw [Kbg hi];simpa using ho) hx
 unfold Qf4 at hev;split at hev;rotate_left
 . cases hev
 rename_i st1 h1;obtain ⟨b,hbe,hboth⟩:∃ b,Qlq (rd st1.T e)=some b/\∀ b0,(b=false->b0=false)->f (st1.flag d b0 live)=some (ex,st'):=by
  split at hev
  . rename_i he;exact ⟨false,he,fun b0 h0=>by rw [h0 rfl];exact hev⟩
  . rename_i he;refine ⟨true,he,fun b0 _=>?_⟩;split at hev;rotate_left
    . cases hev
    rename_i r r' hr hr';split at hev;rotate_left
    . cases hev
    rename_i hrr;simp only [Kaa] at hev;subst hrr;cases b0
    . rw [hr',hev]
    . rw [hr,hev]
  . cases hev
 refine Qho (cls:=Qh1 iops) (K:=G) (hnd:Jke r ops) (fun a w h=>h) ?_;rw [hsz,Kff];refine Jf3 (K2:=Inv cx w0 F0 ρ0 fp0 st0 a0 keep n st1) (fun a1 w1 hI1=>?_) (Jec hcf hck' (by omega) (fun i hi=>Kaz.1 hi) hI (by rw [Qe5];exact h1));refine ⟨o,ho,?_⟩;have hcls:Qh1 iops iops.length=.oth:=by simp [Qh1]
 rw [hcls];simp only;have hI1':=hI1;obtain ⟨F,ρ,fp,hR,hE,hS,hn,hdf,hk⟩:=hI1;obtain ⟨ad,len,cap,hval,had⟩:=Qy1 hR (Qa0 hR (Qag hx)) hbe;have hw:Region.wanted o (yielded ops a1.tmps)=true:=by simp [Region.wanted,hg]
 have hrun:(execOp a1.eval o).run cx.P w1=.ok (.value (.bool ad.isNone)) w1:=by
  have he:a1.eval (.const (.slice none 0 0))=.slice none 0 0:=rfl;simp [execOp,hopk,hval,he,eqGuard,binOp,Jfc hel]
 unfold wpOp;simp only [ho,hw,if_true];left;unfold Oper.wp;rw [hrun,Oper.upon_value,hdst];simp only [wpY];have hb0:b=false->ad.isNone=false:=fun h=>by
  have:=had h;cases ad <;> simp_all
 refine hy (hboth ad.isNone hb0) ?_;have:=Qei (cx:=cx) (w0:=w0) (F0:=F0) (ρ0:=ρ0) (fp0:=fp0) (st0:=st0) (a0:=a0) (keep:=keep) (n:=n) (d:=some d) (f':=[]) (v':=.bool ad.isNone) (v:=.sc (.bool ad.isNone)) (by simpa using hR) (Qcy rfl) (by simpa using hE) hS hn hdf hk
  (fun e he=>by cases he;exact ⟨htn,by simpa using htk⟩)
 exact Qja this live
theorem Ql9 (hcf:Qcn cx cf) (hm:cx.P.follows .mixedOrders=true):∀ (N:Nat) (c:Code),SizeOf.sizeOf c < N->(r=none \/ ndC c=true)->∀ {i:IC},Qc8 cx n keep c i=true->∀ {fuel:Nat} {st:St} {ex:Ex} {st':St} {a:Act} {w:World},
 exec cf fuel i st=some (ex,st')->Inv cx w0 F0 ρ0 fp0 st0 a0 keep n st a w->c.wpIn (FR r) dp cx.P (Jrh cx w0 F0 ρ0 fp0 st0 a0 keep n ex st') a w:=by
 intro N
 induction N with
 | zero=>intro c hN;omega
 | succ N ihN =>
 intro c hN hnd;cases c with
 | skip =>
   intro i hb fuel st ex st' a w hev hI;cases i <;> simp only [Qc8,Qba] at hb <;> try (first | (cases hb;done) | (simp only [exec] at hev;cases hev;done))
   simp only [exec,Kaa,Kab] at hev;obtain ⟨rfl,rfl⟩:=hev;exact wpIn_skip ⟨rfl,hI⟩
 | label l =>
   intro i hb fuel st ex st' a w hev hI;cases i <;> simp only [Qc8,Qba] at hb <;> try (first | (cases hb;done) | (simp only [exec] at hev;cases hev;done))
   simp only [exec,Kaa,Kab] at hev;obtain ⟨rfl,rfl⟩:=hev;exact wpIn_label ⟨rfl,hI⟩
 | scope c =>
   have ih:=fun {i:IC}=>ihN c (by simp at hN;omega) hnd (i:=i);intro i hb fuel st ex st' a w hev hI;have hb':Qc8 cx n keep c i=true:=by
    cases i <;> simpa only [Qc8,Qba] using hb
   refine Qdw (wpIn_mono (ih hb' hev hI) ?_);rintro e a w ⟨rfl,h⟩;cases ex <;> exact ⟨rfl,h⟩
 | region id ops draw =>
   intro i hb fuel st ex st' a w hev hI;cases i <;> simp only [Qc8,Qba] at hb <;> try (first | (cases hb;done) | (simp only [exec] at hev;cases hev;done))
   rotate_left
   . rename_i iops ord live alts;simp only [Kac] at hb;obtain ⟨⟨hops,hdraw⟩,hdr'⟩:=hb;subst hdraw;obtain ⟨hlen,hck⟩:=Qfq hops;have hlen':ops.size=iops.length:=by simpa using hlen
     have hck':∀ (i:Nat) (o:Oper) (x:IOp),ops[i]? = some o->iops[i]? = some x->Jkx cx ops n keep o x=true:=fun i o x ho hx=>hck i o x (by simpa using ho) hx;simp only [exec] at hev;split at hev;rotate_left
     . cases hev
     rename_i st1 hreg;simp only [Kaa,Kab] at hev;obtain ⟨rfl,rfl⟩:=hev;unfold Qpu at hreg;split at hreg;rotate_left
     . cases hreg
     rename_i st2 hmain;split at hreg;rotate_left
     . cases hreg
     rename_i hcond;obtain ⟨hnh,hok,halts⟩:=hcond;simp only [Kaa] at hreg;subst hreg
     . refine wpIn_region_draw fun t=>?_;simp only [Region.schedule,hm,Bool.true_or,if_true];have hb:Qo5 .any ops=true:=by
        unfold Jla at hdr';simp only [Kac] at hdr';exact hdr'.1.1.1.1.1
       have hL:=Jpo hb t;obtain ⟨τ,hτ,h1,h2,h3,h4,h5⟩:=Qy0 hdr' hL;have hlt:∀ i ∈ τ,i < iops.length:=fun i hi=>by rw [<- hlen'];exact (hL.mem i).1 (h1.symm.subset hi)
       obtain ⟨sτ,k1,k2,k3⟩:∃ sτ,Qny cf iops st τ=some sτ/\Qg0 cf st (Qai iops τ)/\(sτ.cut live).alike st.loc.length (st2.cut live):=by
        rcases Kaf.1 hτ with rfl | hτ
        . exact ⟨st2,hmain,hok,.inl rfl⟩
        . obtain ⟨g1,st3,g2,g3⟩:=halts τ hτ;exact ⟨st3,g2,g1,g3⟩
       have hF:Jrf cf iops st τ sτ:=⟨hlt,fun i hi x hx hsw d hd=>by
        have:=Kaj.1 hnh x (Kbn hx);simpa [hsw,hd] using this,h3,k2,k1⟩
       obtain ⟨s',r1,r2⟩:=Qsd h1 h2 h4 h5 hF;have:=Jec (l:=Region.linearise .any ops t) hcf hck' (by omega) (fun i hi=>by rw [<- hlen'];exact (hL.mem i).1 hi) (Qso hI (w.drawn+1)) r1;refine Qm6 (hnd:Jke r ops) (fun a w h=>⟨rfl,?_⟩) this;have hcut:=Qja h live;rw [Jtr r2] at hcut;rcases k3 with k3 | ⟨q1,q2,q3,q4,k3⟩
       . rw [<- k3];exact hcut
       . exact Jsr hcut (by obtain ⟨F,ρ,fp,hR,hE,hS,h1⟩:=hI;have:=hS.loc;omega) (by obtain ⟨F,ρ,fp,hR,hE,hS,h1⟩:=hI;have:=hS.loc;omega) k3
   rename_i iops live alts;simp only [Kac,Kbj,Kby] at hb;obtain ⟨hops,hdr⟩:=hb;obtain ⟨hlen,hck⟩:=Qfq hops;have hlen':ops.size=iops.length:=by simpa using hlen
   have hck':∀ (i:Nat) (o:Oper) (x:IOp),ops[i]? = some o->iops[i]? = some x->Jkx cx ops n keep o x=true:=fun i o x ho hx=>hck i o x (by simpa using ho) hx;simp only [exec] at hev;split at hev;rotate_left
   . cases hev
   rename_i st1 hreg;simp only [Kaa,Kab] at hev;obtain ⟨rfl,rfl⟩:=hev;unfold Quq at hreg;split at hreg;rotate_left
   . cases hreg
   rename_i st2 hmain;split at hreg;rotate_left
   . cases hreg
   rename_i halts;simp only [Kaa] at hreg;subst hreg;have run:∀ (τ:List Nat) (w1:World),Inv cx w0 F0 ρ0 fp0 st0 a0 keep n st a w1->τ ∈ List.range ops.size::alts->(∀ i ∈ τ,i < ops.size)->wpY cx.P ops (Qh1 iops) (Inv cx w0 F0 ρ0 fp0 st0 a0 keep n (st2.cut live)) τ a w1:=by
    intro τ w1 hI1 hτ hlt;rcases Kaf.1 hτ with rfl | hτ
    . have:=Jec (l:=List.range ops.size) hcf hck' (by omega) (fun i hi=>by rw [<- hlen'];exact hlt i hi) hI1 (st':=st2) (by rw [hlen',Qe5];exact hmain);exact Qym (fun a w h=>Qja h live) this
    . obtain ⟨st3,h3,h4⟩:=halts τ hτ;have:=Jec (l:=τ) hcf hck' (by omega) (fun i hi=>by rw [<- hlen'];exact hlt i hi) hI1 h3;exact Qym (fun a w h=>by rw [<- h4];exact Qja h live) this
   cases draw with
   | false =>
     exact Qho (hnd:Jke r ops) (fun a w h=>⟨rfl,h⟩) (run (List.range ops.size) w hI (by simp) (fun i hi=>Kaz.1 hi))
   | true =>
     have hdr':Qt9 ops (Qh1 iops) alts=true:=by
      rcases hdr with h | h
      . cases h
      . exact h
     refine Qvk (hnd:Jke r ops) hm hdr' (fun a w h=>⟨rfl,h⟩) fun τ hτ=>run τ _ (Qso hI _) hτ fun i hi=>?_;rcases Kaf.1 hτ with rfl | hτ
     . exact Kaz.1 hi
     . unfold Qt9 at hdr';simp only [Kac] at hdr';have hp:=Kaj.1 hdr'.1.1.2 τ hτ;exact Kaz.1 ((Qjf hp).subset hi)
 | seq x y =>
   have ihx:=fun {i:IC}=>ihN x (by simp at hN;omega) (hnd.imp_right fun h=>(Qd0 h).1) (i:=i);have ihy:=fun {i:IC}=>ihN y (by simp at hN;omega) (hnd.imp_right fun h=>(Qd0 h).2) (i:=i);intro i hb fuel st ex st' a w hev hI;cases i <;> simp only [Qc8,Qba] at hb <;> try (first | (cases hb;done) | (simp only [exec] at hev;cases hev;done))
   rotate_left
   . rename_i iops e t live y';simp only [Kac] at hb;simp only [exec] at hev;exact wpIn_seq (Qmt hcf (hnd.imp_right fun h=>(Qd0 h).1) hb.1 hev hI fun {st a w} hev hI=>ihy hb.2 hev hI)
   . rename_i iops e t live y1 y2;cases x <;> simp only [Qc8,Qba] at hb <;> try (first | (cases hb;done) | (simp only [exec] at hev;cases hev;done))
     rename_i x1 x2;simp only [Kac] at hb;have ih2:=fun {i:IC}=>ihN x2 (by simp at hN;omega) (hnd.imp_right fun h=>(Qd0 (Qd0 h).1).2) (i:=i);simp only [exec] at hev;refine wpIn_seq (wpIn_seq (Qmt hcf (hnd.imp_right fun h=>(Qd0 (Qd0 h).1).1) hb.1.1 hev hI fun {st a w} hev hI=>?_));unfold seqX at hev;cases h1:exec cf fuel y1 st with
     | none=>simp [h1] at hev
     | some p =>
     obtain ⟨ex1,st1⟩:=p;simp only [h1] at hev;refine wpIn_mono (ih2 hb.1.2 h1 hI) ?_;rintro e a1 w1 ⟨rfl,hI1⟩;cases ex1 with
     | normal=>exact ihy hb.2 hev hI1
     | exit id=>simp only [Kaa,Kab] at hev;obtain ⟨rfl,rfl⟩:=hev;exact ⟨rfl,hI1⟩
     | ret=>simp only [Kaa,Kab] at hev;obtain ⟨rfl,rfl⟩:=hev;exact ⟨rfl,hI1⟩
   rename_i x' y';simp only [Kac] at hb;simp only [exec] at hev;cases h1:exec cf fuel x' st with
   | none=>simp [h1] at hev
   | some p =>
   obtain ⟨ex1,st1⟩:=p;simp only [h1] at hev;refine wpIn_seq (wpIn_mono (ihx hb.1 h1 hI) ?_);rintro e a1 w1 ⟨rfl,hI1⟩;cases ex1 with
   | normal=>exact ihy hb.2 hev hI1
   | exit id=>simp only [Kaa,Kab] at hev;obtain ⟨rfl,rfl⟩:=hev;exact ⟨rfl,hI1⟩
   | ret=>simp only [Kaa,Kab] at hev;obtain ⟨rfl,rfl⟩:=hev;exact ⟨rfl,hI1⟩
 | cond c x y =>
   have ihx:=fun {i:IC}=>ihN x (by simp at hN;omega) (hnd.imp_right fun h=>(Qd0 h).1) (i:=i);have ihy:=fun {i:IC}=>ihN y (by simp at hN;omega) (hnd.imp_right fun h=>(Qd0 h).2) (i:=i);intro i hb fuel st ex st' a w hev hI;cases i <;> simp only [Qc8,Qba] at hb <;> try (first | (cases hb;done) | (simp only [exec] at hev;cases hev;done))
   rename_i d x' y';simp only [Kac] at hb;simp only [exec] at hev;split at hev;rotate_left
   . cases hev
   rename_i t ht;have hc:=Qr6 hI (Qag hb.1.1) ht;refine wpIn_cond_split hc (fun h=>?_) (fun h=>?_)
   . subst h;simp only [if_true] at hev;exact ihx hb.1.2 hev hI
   . subst h;simp only [Kap,Kbs] at hev;exact ihy hb.2 hev hI
 | block id b =>
   have ih:=fun {i:IC}=>ihN b (by simp at hN;omega) hnd (i:=i);intro i hb fuel st ex st' a w hev hI;cases i <;> simp only [Qc8,Qba] at hb <;> try (first | (cases hb;done) | (simp only [exec] at hev;cases hev;done))
   rename_i id' b';simp only [Kac,Kbt] at hb;obtain ⟨rfl,hb⟩:=hb;simp only [exec] at hev;cases h1:exec cf fuel b' st with
   | none=>simp [h1] at hev
   | some p =>
   obtain ⟨ex1,st1⟩:=p;simp only [h1] at hev;refine wpIn_block (wpIn_mono (ih hb h1 hI) ?_);rintro e a1 w1 ⟨rfl,hI1⟩;cases ex1 with
   | normal=>simp only [Kaa,Kab] at hev;obtain ⟨rfl,rfl⟩:=hev;exact ⟨rfl,hI1⟩
   | ret=>simp only [Kaa,Kab] at hev;obtain ⟨rfl,rfl⟩:=hev;exact ⟨rfl,hI1⟩
   | exit j =>
     simp only at hev;simp only [Jkh,Exit.inBlock];split at hev
     . rename_i hj;simp only [Kaa,Kab] at hev;obtain ⟨rfl,rfl⟩:=hev;simp only [hj,if_true];exact ⟨rfl,hI1⟩
     . rename_i hj;simp only [Kaa,Kab] at hev;obtain ⟨rfl,rfl⟩:=hev;simp only [hj,Kbs];exact ⟨rfl,hI1⟩
 | loop b =>
   have ih:=fun {i:IC}=>ihN b (by simp at hN;omega) hnd (i:=i);intro i hb fuel st ex st' a w hev hI;cases i <;> simp only [Qc8,Qba] at hb <;> try (first | (cases hb;done) | (simp only [exec] at hev;cases hev;done))
   rename_i b';simp only [exec] at hev;have key:∀ (m:Nat) (st:St) (a:Act) (w:World),Jbn (exec cf fuel b') m st=some (ex,st')->Inv cx w0 F0 ρ0 fp0 st0 a0 keep n st a w->Code.roundsIn (FR r) dp cx.P b (Jrh cx w0 F0 ρ0 fp0 st0 a0 keep n ex st') m a w:=by
    intro m
    induction m with
    | zero=>intro st a w h;simp [Jbn] at h
    | succ m ihm =>
      intro st a w h hI;rw [roundsIn_succ];simp only [Jbn] at h;cases h1:exec cf fuel b' st with
      | none=>simp [h1] at h
      | some p =>
      obtain ⟨ex1,st1⟩:=p;simp only [h1] at h;refine wpIn_mono (ih hb h1 hI) ?_;rintro e a1 w1 ⟨rfl,hI1⟩;cases ex1 with
      | normal=>exact ihm st1 a1 w1 h hI1
      | exit j=>simp only [Kaa,Kab] at h;obtain ⟨rfl,rfl⟩:=h;exact ⟨rfl,hI1⟩
      | ret=>simp only [Kaa,Kab] at h;obtain ⟨rfl,rfl⟩:=h;exact ⟨rfl,hI1⟩
   exact wpIn_loop_rounds fuel (key fuel st a w hev hI)
 | exit id =>
   intro i hb fuel st ex st' a w hev hI;cases i <;> simp only [Qc8,Qba] at hb <;> try (first | (cases hb;done) | (simp only [exec] at hev;cases hev;done))
   simp only [Kbt] at hb;subst hb;simp only [exec,Kaa,Kab] at hev;obtain ⟨rfl,rfl⟩:=hev;exact wpIn_exit ⟨rfl,hI⟩
 | ret =>
   intro i hb fuel st ex st' a w hev hI;cases i <;> simp only [Qc8,Qba] at hb <;> try (first | (cases hb;done) | (simp only [exec] at hev;cases hev;done))
   simp only [exec,Kaa,Kab] at hev;obtain ⟨rfl,rfl⟩:=hev;exact wpIn_ret ⟨rfl,hI⟩
 | rangeFunc f ps x y =>
   intro i hb fuel st ex st' a w hev hI;cases i <;> first | (simp [Qc8,Qba] at hb;done) | (simp only [exec] at hev;cases hev;done)
 | goto l =>
   intro i hb fuel st ex st' a w hev hI;cases i <;> first | (simp [Qc8,Qba] at hb;done) | (simp only [exec] at hev;cases hev;done)
 | refuse s =>
   intro i hb fuel st ex st' a w hev hI;cases i <;> first | (simp [Qc8,Qba] at hb;done) | (simp only [exec] at hev;cases hev;done)
theorem Qhf (hcf:Qcn cx cf) (hm:cx.P.follows .mixedOrders=true) {c:Code} {i:IC} (hnd:r=none \/ ndC c=true) (hb:Qc8 cx n keep c i=true) {fuel:Nat} {st:St} {ex:Ex} {st':St} {a:Act} {w:World}
 (hev:exec cf fuel i st=some (ex,st')) (hI:Inv cx w0 F0 ρ0 fp0 st0 a0 keep n st a w):c.wpIn (FR r) dp cx.P (Jrh cx w0 F0 ρ0 fp0 st0 a0 keep n ex st') a w :=
 Ql9 hcf hm (SizeOf.sizeOf c+1) c (Nat.lt_succ_self _) hnd hb hev hI
end
end Go.Idl
namespace Go.Idl
open Go
section
variable {cx:Cx} {w0:World} {F0:Nat->Prop} {ρ0:Rho} {fp0:Fp} {st0:St} {a0:Act} {keep:List Nat} {n:Nat} {cf:CF}
variable {w w':World} {F F':Nat->Prop} {ρ ρ':Rho} {fp fp':Fp} {st st':St} {a a':Act} {S S':List Nat} {tm tm':Nat->Value}
def Out (S:List Nat) (F:Nat->Prop) (fp:Fp) (w:World):Prop:=∀ b ∈ S,b < w.heap.size/\¬ F b/\∀ r,b ∉ fp r
theorem Out.ext {ex:Nat->Nat->Prop} (h:Out S F fp w) (hE:Ext w F ρ fp [] ex w' F' ρ' fp' []):Out S F' fp' w'/\∀ b ∈ S,w'.heap[b]? = w.heap[b]?:=by
 refine ⟨fun b hb=>?_,fun b hb=>?_⟩
 . obtain ⟨h1,h2,h3⟩:=h b hb;refine ⟨Kcd h1 hE.size,fun hF=>?_,fun r hr=>?_⟩
   . rcases hE.Fn b hF with k | ⟨r,k⟩ | k | k
     . exact h2 k
     . exact h3 r k
     . cases k
     . omega
   . rcases hE.fpn r b hr with ⟨r',k⟩ | k | k
     . exact h3 r' k
     . cases k
     . omega
 . obtain ⟨h1,h2,h3⟩:=h b hb;exact hE.keep b h1 h3 (by simp)
theorem Rel.off (h:Rel cx w F ρ fp [] st tm) (hO:Out S F fp w) (hS:S.Nodup) (hk:∀ b,b < w.heap.size->b ∉ S->w'.heap[b]? = w.heap[b]?) (hs:w.heap.size<=w'.heap.size):Rel cx w' F ρ fp [] st tm:=by
 have h1:Rel cx w F ρ fp S st tm:=h.reX (fun _ h=>h) h.notF h.Flt hS (fun r b hb hb'=>(hO b hb').2.2 r hb) (fun b hb=>(hO b hb).2.1) (fun b hb=>(hO b hb).1);have h2:=(h1.grow (Y:=[]) hk hs .nil (by simp)).1;exact h2.less (List.nil_sublist _)
theorem Ext.off {ex:Nat->Nat->Prop} (h:Ext w0 F0 ρ0 fp0 [] ex w F ρ fp []) (hS:∀ b ∈ S,w0.heap.size<=b) (hk:∀ b,b < w.heap.size->b ∉ S->w'.heap[b]? = w.heap[b]?) (hs:w.heap.size<=w'.heap.size) (he:Env w w') :
 Ext w0 F0 ρ0 fp0 [] ex w' F ρ fp [] :=
 ⟨Kcp h.size hs,fun b hb hr hx=>(hk b (Kcd hb h.size) (fun hm=>by have:=hS b hm;omega)).trans (h.keep b hb hr hx),h.fpn,h.xn,h.Fm,h.Fn,h.rho,h.env.trans he⟩
structure Gd (cx:Cx) (w0:World) (F0:Nat->Prop) (ρ0:Rho) (fp0:Fp) (st0:St) (S:List Nat) (st:St) (tm:Nat->Value) (w:World) (F:Nat->Prop) (ρ:Rho) (fp:Fp):Prop where
 rel:Rel cx w F ρ fp [] st tm
 ext:Ext w0 F0 ρ0 fp0 [] (exB st0) w F ρ fp []
 shp:Qbf st0 st
 out:Out S F fp w
 nd:S.Nodup
 new:∀ b ∈ S,w0.heap.size<=b
theorem Gd.self (h:Gd cx w0 F0 ρ0 fp0 st0 S st (Qah a) w F ρ fp) (hn:n<=a.tmps.size):Inv cx w F ρ fp st a keep n st a w :=
 ⟨F,ρ,fp,h.rel,.refl ..,.refl _,hn,rfl,fun _ _=>rfl⟩
theorem Gd.to (h:Gd cx w0 F0 ρ0 fp0 st0 S st tm w F ρ fp) (hR:Rel cx w' F' ρ' fp' [] st' tm') (hE:Ext w F ρ fp [] (exB st) w' F' ρ' fp' []) (hS:Qbf st st') :
 Gd cx w0 F0 ρ0 fp0 st0 S st' tm' w' F' ρ' fp'/\∀ b ∈ S,w'.heap[b]? = w.heap[b]? :=
 ⟨⟨hR,h.ext.trans hE fun _ _ hb=>h.shp.box hb,h.shp.trans hS,(h.out.ext hE).1,h.nd,h.new⟩,(h.out.ext hE).2⟩
theorem Gd.step (h:Gd cx w0 F0 ρ0 fp0 st0 S st tm w F ρ fp) {a1:Act} (hI:Inv cx w F ρ fp st a1 keep n st' a' w') :
 ∃ F' ρ' fp',Gd cx w0 F0 ρ0 fp0 st0 S st' (Qah a') w' F' ρ' fp'/\(∀ b ∈ S,w'.heap[b]? = w.heap[b]?)/\n<=a'.tmps.size/\Ext w F ρ fp [] (exB st) w' F' ρ' fp' []/\Qbf st st'/\a'.defers=a1.defers/\∀ s ∈ keep,Qah a' s=Qah a1 s:=by
 obtain ⟨F',ρ',fp',hR,hE,hS,hn,hd,hk⟩:=hI;obtain ⟨h1,h2⟩:=h.to hR hE hS;exact ⟨F',ρ',fp',h1,h2,hn,hE,hS,hd,hk⟩
theorem Gd.off (h:Gd cx w0 F0 ρ0 fp0 st0 S st tm w F ρ fp) (hk:∀ b,b < w.heap.size->b ∉ S->w'.heap[b]? = w.heap[b]?) (hs:w.heap.size<=w'.heap.size) (he:Env w w'):Gd cx w0 F0 ρ0 fp0 st0 S st tm w' F ρ fp :=
 ⟨h.rel.off h.out h.nd hk hs,h.ext.off h.new hk hs he,h.shp,fun b hb=>let ⟨x,y,z⟩:=h.out b hb;⟨by omega,y,z⟩,h.nd,h.new⟩
theorem Gd.put1 (h:Gd cx w0 F0 ρ0 fp0 st0 S st tm w F ρ fp) {b:Nat} (hb:b ∈ S) (o:Obj):Gd cx w0 F0 ρ0 fp0 st0 S st tm (w.putObj b o) F ρ fp :=
 h.off (fun k _ hk=>World.putObj_heap_other (fun e=>hk (e ▸ hb))) (by simp) ⟨rfl,rfl,rfl⟩
theorem Gd.alloc (h:Gd cx w0 F0 ρ0 fp0 st0 S st tm w F ρ fp) (o:Obj):Gd cx w0 F0 ρ0 fp0 st0 (w.heap.size::S) st tm (w.alloc o) F ρ fp:=by
 have hk:∀ b,b < w.heap.size->b ∉ S->(w.alloc o).heap[b]? = w.heap[b]?:=fun b hb _=>by
  show (w.heap.push o)[b]? = _;rw [Array.getElem?_push_lt hb];simp [hb]
 have h1:=h.off hk (by simp) ⟨rfl,rfl,rfl⟩;refine ⟨h1.rel,h1.ext,h1.shp,fun b hb=>?_,?_,fun b hb=>?_⟩
 . rcases Kaf.1 hb with rfl | hb
   . refine ⟨by simp,fun hF=>?_,fun r hr=>?_⟩
     . exact absurd (h.rel.Flt _ hF) (by omega)
     . exact absurd (h.rel.lt r _ hr) (by omega)
   . exact h1.out b hb
 . exact Kbq.2 ⟨fun hb=>absurd (h.out _ hb).1 (by omega),h.nd⟩
 . rcases Kaf.1 hb with rfl | hb
   . exact h.ext.size
   . exact h.new b hb
theorem Gd.sub (h:Gd cx w0 F0 ρ0 fp0 st0 S st tm w F ρ fp) (hs:S'.Sublist S):Gd cx w0 F0 ρ0 fp0 st0 S' st tm w F ρ fp :=
 ⟨h.rel,h.ext,h.shp,fun b hb=>h.out b (hs.mem hb),hs.nodup h.nd,fun b hb=>h.new b (hs.mem hb)⟩
theorem Jev {T:Tm} (h:Qn1 T=true) (s:Nat):Jmm (Qav T s)=true:=by
 induction T with
 | nil=>rfl
 | cons p r ih =>
   unfold Qn1 at h;simp only [Kcj,Kac] at h;simp only [Qav];split
   . exact h.1
   . exact ih h.2
structure Mv (w:World) (F:Nat->Prop) (ρ:Rho) (st:St) (w':World) (F':Nat->Prop) (ρ':Rho) (st':St):Prop where
 frz:∀ b,F b->w'.heap[b]? = w.heap[b]?
 Fm:∀ b,F b->F' b
 rho:∀ l k,exB st l k->ρ' l k=ρ l k
 shp:Qbf st st'
theorem Mv.trans {w2:World} {F2:Nat->Prop} {ρ2:Rho} {st2:St} (h:Mv w F ρ st w' F' ρ' st') (k:Mv w' F' ρ' st' w2 F2 ρ2 st2):Mv w F ρ st w2 F2 ρ2 st2 :=
 ⟨fun b hb=>(k.frz b (h.Fm b hb)).trans (h.frz b hb),fun b hb=>k.Fm b (h.Fm b hb),fun l q hq=>(k.rho l q (h.shp.box hq)).trans (h.rho l q hq),h.shp.trans k.shp⟩
theorem Mv.of_ext (h:Rel cx w F ρ fp [] st tm) (hE:Ext w F ρ fp [] (exB st) w' F' ρ' fp' []) (hS:Qbf st st'):Mv w F ρ st w' F' ρ' st' :=
 ⟨fun b hb=>hE.keep b (h.Flt b hb) (fun r hr=>h.notF r b hr hb) (by simp),hE.Fm,hE.rho,hS⟩
theorem Mv.put {b:Nat} (hb:¬ F b) (o:Obj):Mv w F ρ st (w.putObj b o) F ρ st :=
 ⟨fun k hk=>World.putObj_heap_other (fun e=>hb (e ▸ hk)),fun _ h=>h,fun _ _ _=>rfl,.refl _⟩
theorem Rel.back (h0:Rel cx w F ρ fp [] st tm) (hp:Qn1 st.T=true) (h:Rel cx w' F' ρ' fp' [] st' tm') (hM:Mv w F ρ st w' F' ρ' st') :
 ∃ fp'',Rel cx w' F' ρ' fp'' [] { st' with T:=st.T } tm/\∀ r,∀ b ∈ fp'' r,b ∈ fp' r:=by
 have hsub:∀ r,∀ b ∈ (match r with | .S _=>[] | r=>fp' r:List Nat),b ∈ fp' r:=fun r b hb=>by cases r <;> simp_all
 refine ⟨fun r=>match r with | .S _=>[] | r=>fp' r,⟨fun s=>?_,fun l k cs hb=>?_,fun l k hb=>h.nobox l k hb,fun r=>?_,fun r r' hr b hb hb'=>h.disj r r' hr b (hsub r b hb) (hsub r' b hb'),fun r b hb=>h.notF r b (hsub r b hb),
  fun r b hb=>h.lt r b (hsub r b hb),h.Flt,h.xnodup,fun r b hb=>h.xdisj r b (hsub r b hb),h.xF,h.xlt⟩,hsub⟩
 . have hs:=h0.slots s;have hv:=Jev hp s;simp only at hs |-;generalize Qav st.T s=x at hs hv;generalize fp (.S s)=f at hs;cases x <;> simp only [Jmm,Kap] at hv
   . rcases hs with ⟨hs,-⟩ | hs
     . exact hs.elim
     . right;have:=RDs.frame (F':=F') (w':=w') hs (fun b hb=>?_) hM.frz hM.Fm
       . cases this with
         | sc h t=>cases t;exact .sc h .nil
       . cases hs with
         | sc h t=>cases t;cases hb
   . rcases hs with ⟨hs,-⟩ | hs
     . exact hs.elim
     . right;have hf:=(RDs.lst_inv hs).1;subst hf;exact RDs.frame hs (by simp) hM.frz hM.Fm
   . rename_i l k c;rcases hs with ⟨hs,-⟩ | hs
     . refine .inl ⟨⟨?_,?_⟩,rfl⟩
       . rw [hM.rho l k hs.2];exact hs.1
       . exact hM.shp.box hs.2
     . cases hs
   . rfl
 . obtain ⟨C,ty,f,h1,h2,h3⟩:=h.boxes l k cs hb;exact ⟨C,ty,f,h1,h2,h3.mono fun x v f _ hx _=>by
    rcases hx with ⟨hx,hl,hm,hf⟩ | hx
    . refine .inl ⟨?_,hl,hm,hf⟩;cases x <;> simp at hm <;> exact hx
    . exact .inr hx⟩
 . cases r with
   | S s=>exact .nil
   | B l k=>exact h.nodup _
theorem Gd.back (h0:Rel cx w F ρ fp [] st tm) (hp:Qn1 st.T=true) (h:Gd cx w0 F0 ρ0 fp0 st0 S st' tm' w' F' ρ' fp') (hM:Mv w F ρ st w' F' ρ' st') :
 ∃ fp'',Gd cx w0 F0 ρ0 fp0 st0 S { st' with T:=st.T } tm w' F' ρ' fp'':=by
 obtain ⟨fp'',h1,h2⟩:=h0.back hp h.rel hM;exact ⟨fp'',h1,⟨h.ext.size,h.ext.keep,fun r b hb=>h.ext.fpn r b (h2 r b hb),h.ext.xn,h.ext.Fm,h.ext.Fn,h.ext.rho,h.ext.env⟩,⟨h.shp.M,h.shp.loc⟩,fun b hb=>let ⟨x,y,z⟩:=h.out b hb;⟨x,y,fun r hr=>z r (h2 r b hr)⟩,h.nd,h.new⟩
def Qzt (D:Nat):Deferred:={ target:=.collected D,args:=#[] }
def Qyq (cx:Cx) (w0:World) (F0:Nat->Prop) (ρ0:Rho) (fp0:Fp) (st0:St) (a0:Act) (keep:List Nat) (n:Nat) (st:St) (a:Act) (w:World):Prop :=
 ∃ S F ρ fp,Gd cx w0 F0 ρ0 fp0 st0 S st (Qah a) w F ρ fp/\n<=a.tmps.size/\a.defers=S.map Qzt++a0.defers/\(∀ s ∈ keep,Qah a s=Qah a0 s)/\∀ D ∈ S,w.heap[D]? = some (.deferred (some []))
def Jbt (cx:Cx) (w0:World) (F0:Nat->Prop) (ρ0:Rho) (fp0:Fp) (st0:St) (a0:Act) (keep:List Nat) (n:Nat) (ex:Ex) (st':St):Exit->Act->World->Prop :=
 fun e a w=>e=Jkh ex/\Qyq cx w0 F0 ρ0 fp0 st0 a0 keep n st' a w
theorem Qyq.start (hR:Rel cx w F ρ fp [] st (Qah a)) (hn:n<=a.tmps.size):Qyq cx w F ρ fp st a keep n st a w :=
 ⟨[],F,ρ,fp,⟨hR,.refl ..,.refl _,by simp [Out],.nil,by simp⟩,hn,rfl,fun _ _=>rfl,by simp⟩
theorem Qyq.step (h:Qyq cx w0 F0 ρ0 fp0 st0 a0 keep n st a w):∃ F ρ fp,Inv cx w F ρ fp st a keep n st a w/\∀ st' a' w',Inv cx w F ρ fp st a keep n st' a' w'->Qyq cx w0 F0 ρ0 fp0 st0 a0 keep n st' a' w':=by
 obtain ⟨S,F,ρ,fp,hG,hn,hd,hk,hD⟩:=h;refine ⟨F,ρ,fp,hG.self hn,fun st' a' w' hI=>?_⟩;obtain ⟨F',ρ',fp',h1,h2,h3,-,-,h4,h5⟩:=hG.step hI;exact ⟨S,F',ρ',fp',h1,h3,h4.trans hd,fun s hs=>(h5 s hs).trans (hk s hs),fun D hD'=>(h2 D hD').trans (hD D hD')⟩
theorem Qog (hcf:Qcn cx cf) (hm:cx.P.follows .mixedOrders=true) {dp:Nat} {c:Code} {i:IC} (hb:Qc8 cx n keep c i=true) {fuel:Nat} {ex:Ex}
 (hev:exec cf fuel i st=some (ex,st')) (hI:Qyq cx w0 F0 ρ0 fp0 st0 a0 keep n st a w):c.wpIn (FR none) dp cx.P (Jbt cx w0 F0 ρ0 fp0 st0 a0 keep n ex st') a w:=by
 obtain ⟨F,ρ,fp,h1,h2⟩:=hI.step;exact wpIn_mono (Qhf hcf hm (.inl rfl) hb hev h1) fun e a w ⟨he,hq⟩=>⟨he,h2 _ _ _ hq⟩
end
end Go.Idl
namespace Go.Idl
open Go
def Jo8 (P:Program) (g:Nat):Prop:=∀ (m l B:Nat) (ad:Option Addr) (cap:Nat) (vs:List Int) (J:Nat->World->Prop) (Jx:World->Prop),vs.length < 2 ^ 40 ->
 (∀ k W,J k W->W.cell? ⟨B,0,none⟩=some (.slice ad vs.length cap)/\∀ (i:Nat) (v:Int),vs[i]? = some v->∃ b o,ad=some ⟨b,o,none⟩/\W.cell? ⟨b,o+i,none⟩=some (iv v)) ->
 (∀ m (k:Nat) (v:Int) W,J k W->vs.reverse[k]? = some v->YieldAt (FR none) m P l #[iv ((vs.length - 1 - k:Nat):Int),iv v] W fun e W'=>(e=.returned (.bool true)/\J (k+1) W') \/ (e=.returned (.bool false)/\Jx W')) ->
 ∀ W,J 0 W->CallsIn (FR none) m P g #[.func (.yield l) #[] #[],.pointer (some ⟨B,0,none⟩)] W fun e W'=>(∃ v,e=.returned v)/\(J vs.length W' \/ Jx W')
def BkOK (cx:Cx) (f:Lab):Prop:=∃ g ty,Qef cx.P (cx.fid f)/\Qef cx.P g/\Jo8 cx.P g /\
 ∀ ad len cap w,Calls cx.P (cx.fid f) #[.slice ad len cap] w fun e w'=>e=.returned (.func (.func g) #[] #[.pointer (some ⟨w.heap.size,0,none⟩)])/\w'=w.alloc (.cells #[.slice ad len cap] ty)
section
variable {cx:Cx} {w0:World} {F0:Nat->Prop} {ρ0:Rho} {fp0:Fp} {st0:St} {a0:Act} {keep:List Nat} {n:Nat} {cf:CF}
variable {w w':World} {F F':Nat->Prop} {ρ ρ':Rho} {fp fp':Fp} {st st':St} {a a':Act} {S S':List Nat} {tm tm':Nat->Value}
theorem Qvd (hcf:Qcn cx cf) (hm:cx.P.follows .mixedOrders=true) {dp fuel L fn:Nat} {asg body:IC} {Qrd Qfj:Code} {T:Tm} {p q:Nat} {i x:Int} {s1 s2:St} {ex:Ex} {rec:LoopState->Option Code->Loop}
 (hba:Qc8 cx n [] Qrd asg=true) (hbb:Qc8 cx n [] Qfj body=true) (hnda:ndC Qrd=true) (hndb:ndC Qfj=true) (hp:p < n) (hq:q < n)
 (h1:exec cf fuel asg { st with T:=tput (tput T p (.sc (iv i))) q (.sc (iv x)) }=some (.normal,s1)) (h2:exec cf fuel body s1=some (ex,s2)) (hex:ex=.normal \/ ∃ e,ex=.exit e)
 (hrec:∀ s pe,(rec s pe).state=s) (hrec2:∀ s pe s',({ rec s pe with state:=s' }:Loop)=rec s' pe) (hrec3:∀ s pe s' pe',({ rec s pe with state:=s',pending:=pe' }:Loop)=rec s' pe')
 (hT:st.T=T) (hpT:Qn1 T=true) (hG:Gd cx w0 F0 ρ0 fp0 st0 (L::S) st (Qah a) w F ρ fp) (hn:n<=a.tmps.size) (hL:w.heap[L]? = some (.loop (rec .ready none))) :
 RoundIn (FR none) dp cx.P L fn ((a.tmps.setIfInBounds p (iv i)).setIfInBounds q (iv x)) Qrd Qfj w fun e W'=>e=.returned (.bool (ex=.normal))/\∃ F' ρ' fp',Gd cx w0 F0 ρ0 fp0 st0 (L::S) { s2 with T:=T } (Qah a) W' F' ρ' fp' /\
  (∀ b ∈ S,W'.heap[b]? = w.heap[b]?)/\W'.heap[L]? = some (.loop (match ex with | .exit e=>rec .done (some (.exit e)) | _=>rec .ready none)):=by
 refine roundIn_of_wpIn trivial ?_;have hLS:∀ b ∈ S,b ≠ L:=fun b hb e=>(Kbq.1 hG.nd).1 (e ▸ hb)
 let ar:Act:={ tmps:=a.tmps,defers:=[] }
 have hI0:Inv cx w F ρ fp st ar [] n st ar w:=⟨F,ρ,fp,hG.rel,.refl ..,.refl _,hn,rfl,fun _ _=>rfl⟩;have hI1:Inv cx w F ρ fp st ar [] n (putI st (some p) (.sc (iv i))) (ar.put (some p) (iv i)) w :=
  Qei (f':=[]) (show Rel cx w F ρ fp ([]++[]) st (Qah ar) from hG.rel) (.inr (.sc rfl .nil)) (.refl ..) (.refl _) hn rfl (fun _ _=>rfl) (fun e he=>by cases he;exact ⟨hp,by simp⟩)
 have hI2:Inv cx w F ρ fp st ar [] n (putI (putI st (some p) (.sc (iv i))) (some q) (.sc (iv x))) ((ar.put (some p) (iv i)).put (some q) (iv x)) w:=by
  obtain ⟨F1,ρ1,fp1,k1,k2,k3,k4,k5,k6⟩:=hI1;exact Qei (f':=[]) (by simpa using k1) (.inr (.sc rfl .nil)) (by simpa using k2) k3 k4 k5 k6 (fun e he=>by cases he;exact ⟨hq,by simp⟩)
 have hst:putI (putI st (some p) (.sc (iv i))) (some q) (.sc (iv x))={ st with T:=tput (tput T p (.sc (iv i))) q (.sc (iv x)) }:=by simp [putI,hT]
 rw [hst] at hI2;refine wpIn_mono (Qhf (r:=some L) hcf hm (.inr hnda) hba h1 hI2) ?_;rintro e a1 W1 ⟨rfl,hJ1⟩;obtain ⟨F1,ρ1,fp1,hG1,hs1,hn1,hE1,hS1,-,-⟩:=hG.step hJ1;have hL1:W1.heap[L]? = some (.loop (rec .ready none)):=(hs1 L (by simp)).trans hL;have hlt1:L < W1.heap.size:=(Kem.1 hL1).1;have hb:=run_beginRound (P:=cx.P) hL1 (hrec _ _);rw [hrec2] at hb;refine ⟨_,hb,?_⟩;have hG2:=hG1.put1 (b:=L) (by simp) (.loop (rec .busy none));have hL2:(W1.putObj L (.loop (rec .busy none))).heap[L]? = some (.loop (rec .busy none)):=World.putObj_heap_same hlt1;have hM1:Mv w F ρ st W1 F1 ρ1 s1:=.of_ext hG.rel hE1 hS1;have hM2:Mv W1 F1 ρ1 s1 (W1.putObj L (.loop (rec .busy none))) F1 ρ1 s1:=.put (hG1.out L (by simp)).2.1 _;refine wpIn_mono (Qhf (keep:=[]) (n:=n) (r:=some L) hcf hm (.inr hndb) hbb h2 (hG2.self hn1)) ?_;rintro e2 a2 W3 ⟨rfl,hJ2⟩;obtain ⟨F3,ρ3,fp3,hG3,hs3,hn3,hE3,hS3,-,-⟩:=hG2.step hJ2;have hM3:=(hM1.trans hM2).trans (.of_ext hG2.rel hE3 hS3);have hL3:W3.heap[L]? = some (.loop (rec .busy none)):=(hs3 L (by simp)).trans hL2;have hlt3:L < W3.heap.size:=(Kem.1 hL3).1;obtain ⟨fp4,hG4⟩:=Gd.back hG.rel (by rw [hT];exact hpT) hG3 hM3;rw [hT] at hG4;have fin:∀ (jump:Option Code),(Instr.endRound L jump).run cx.P W3=.ok (.bool jump.isNone) (W3.putObj L (.loop (rec (if jump.isNone then .ready else .done) jump))):=fun jump=>by
  have:=run_endRound (P:=cx.P) jump hL3;rw [hrec3] at this;exact this
 have keepS:∀ (o:Obj),∀ b ∈ S,(W3.putObj L o).heap[b]? = w.heap[b]?:=fun o b hb =>
  (World.putObj_heap_other (hLS b hb)).trans ((hs3 b (by simp [hb])).trans ((World.putObj_heap_other (hLS b hb)).trans (hs1 b (by simp [hb]))))
 rcases hex with rfl | ⟨e,rfl⟩
 . exact ⟨_,_,fin none,rfl,F3,ρ3,fp4,hG4.put1 (by simp) _,keepS _,World.putObj_heap_same hlt3⟩
 . exact ⟨_,_,fin (some (.exit e)),rfl,F3,ρ3,fp4,hG4.put1 (by simp) _,keepS _,World.putObj_heap_same hlt3⟩
theorem Jz7 (p q:Nat) (u v:Value) (T:Array Value):((#[p,q]:Array Nat).zip #[u,v]).foldl (fun tmps (t,a)=>tmps.setIfInBounds t a) T=(T.setIfInBounds p u).setIfInBounds q v:=by
 have:(#[p,q]:Array Nat).zip #[u,v]=#[(p,u),(q,v)]:=by rw [<- Array.toList_inj];simp
 rw [this];rfl
theorem Quu {α β:Type} (f:α->β) (xs:List α):(xs.map fun n=>[f n]).flatten=xs.map f:=by
 induction xs with
 | nil=>rfl
 | cons x xs ih=>simp [ih]
theorem Jfa (hcf:Qcn cx cf) (hm:cx.P.follows .mixedOrders=true) {dp fuel:Nat} {asg body:IC} {Qrd Qfj:Code} {p q:Nat} {x:Opd} {xo gop:Operand} {xs:List Int} {clip:Bool} {g B:Nat} {ty:TypeId} {ex:Ex}
 (hba:Qc8 cx n [] Qrd asg=true) (hbb:Qc8 cx n [] Qfj body=true) (hnda:ndC Qrd=true) (hndb:ndC Qfj=true) (hp:p < n) (hq:q < n)
 (hev:Qhm (exec cf fuel asg) (exec cf fuel body) st.T p q xs.reverse st=some (ex,st')) (hpT:Qn1 st.T=true) (hx:Qaz cx xo x) (hrd:rd st.T x=.lst 1 (xs.map fun n=>[.sc (iv n)]) clip) (hxl:xs.length < 2 ^ 40)
 (hg:a.eval gop=.func (.func g) #[] #[.pointer (some ⟨B,0,none⟩)]) (hent:Qef cx.P g) (hbk:Jo8 cx.P g) (hB:B ∈ S) (hBc:w.heap[B]? = some (.cells #[a.eval xo] ty (0,0)))
 (hG:Gd cx w0 F0 ρ0 fp0 st0 S st (Qah a) w F ρ fp) (hn:n<=a.tmps.size) :
 (Code.rangeFunc gop #[p,q] Qrd Qfj).wpIn (FR none) dp cx.P (fun e a' w'=>e=Jkh ex/\∃ D F' ρ' fp',a'={ a with defers:=Qzt D::a.defers }/\Gd cx w0 F0 ρ0 fp0 st0 (D::S) st' (Qah a) w' F' ρ' fp' /\
   (∀ b ∈ S,w'.heap[b]? = w.heap[b]?)/\w'.heap[D]? = some (.deferred (some []))) a w:=by
 refine wpIn_rangeFunc fun fn _=>?_;obtain ⟨rec,hrec⟩:∃ rec:LoopState->Option Code->Loop,rec=fun st pe=>{ state:=st,pending:=pe,fn,tmps:=a.tmps,params:=#[p,q],assign:=Qrd,body:=Qfj,defers:=w.heap.size }:=⟨_,rfl⟩
 obtain ⟨w1,hw1⟩:∃ w1,w1=(w.alloc (.deferred (some []))).alloc (.loop (rec .ready none)):=⟨_,rfl⟩;have hG2:Gd cx w0 F0 ρ0 fp0 st0 ((w.heap.size+1)::w.heap.size::S) st (Qah a) w1 F ρ fp:=by
  have:=(hG.alloc (.deferred (some []))).alloc (.loop (rec .ready none));rw [World.size_alloc,<- hw1] at this;exact this
 have hL1:w1.heap[w.heap.size+1]? = some (.loop (rec .ready none)):=by
  rw [hw1];have:=World.alloc_heap_new (w.alloc (.deferred (some []))) (.loop (rec .ready none));rwa [World.size_alloc] at this
 have halloc:∀ (W:World) (o:Obj) (b:Nat),b < W.heap.size->(W.alloc o).heap[b]? = W.heap[b]?:=fun W o b hb=>by
  show (W.heap.push o)[b]? = _;rw [Array.getElem?_push_lt hb];simp [hb]
 have hD1:w1.heap[w.heap.size]? = some (.deferred (some [])):=by
  rw [hw1,halloc _ _ _ (by simp)];exact World.alloc_heap_new w _
 have hS1:∀ b ∈ S,w1.heap[b]? = w.heap[b]?:=fun b hb=>by
  have:=(hG.out b hb).1;rw [hw1,halloc _ _ _ (by simp;omega),halloc _ _ _ this]
 have hv0:=Qa0 hG.rel hx;rw [hrd] at hv0;have hlst:∀ {W:World} {Fk:Nat->Prop} {ρk:Rho} {fpk:Fp} {stk:St},Rel cx W Fk ρk fpk [] stk (Qah a)->stk.T=st.T->RDs W Fk [.lst 1 (xs.map fun n=>[.sc (iv n)]) clip] [a.eval xo] []:=fun {W Fk ρk fpk stk} hR hT=>by
  have:=Qa0 hR hx;rw [hT,hrd] at this;rcases this with ⟨h,-⟩ | h
  . exact h.elim
  . exact h
 obtain ⟨ad,cap,hv⟩:∃ ad cap,a.eval xo=.slice ad xs.length cap:=by
  rcases (RDs.lst_inv (hlst hG.rel rfl)).2 with ⟨h1,a1,c1,h2,-⟩ | ⟨b,o,c1,C,ty',fr,h2,-⟩
  . have:xs=[]:=by simpa using h1
    subst this;exact ⟨a1,c1,h2⟩
  . exact ⟨_,c1,by simpa using h2⟩
 let J:Nat->World->Prop:=fun k W=>∃ stk,Qhm (exec cf fuel asg) (exec cf fuel body) st.T p q (xs.reverse.drop k) stk=some (ex,st')/\stk.T=st.T/\∃ Fk ρk fpk,Gd cx w0 F0 ρ0 fp0 st0 ((w.heap.size+1)::w.heap.size::S) stk (Qah a) W Fk ρk fpk /\
  (∀ b ∈ w.heap.size::S,W.heap[b]? = w1.heap[b]?)/\W.heap[w.heap.size+1]? = some (.loop (rec .ready none))
 let Jx:World->Prop:=fun W=>∃ e,ex=.exit e/\∃ Fk ρk fpk,Gd cx w0 F0 ρ0 fp0 st0 ((w.heap.size+1)::w.heap.size::S) st' (Qah a) W Fk ρk fpk /\
  (∀ b ∈ w.heap.size::S,W.heap[b]? = w1.heap[b]?)/\W.heap[w.heap.size+1]? = some (.loop (rec .done (some (.exit e))))
 refine ⟨w.heap.size+1,[Qzt w.heap.size],w1,{ target:=.fn (.func g) #[.pointer (some ⟨B,0,none⟩)],args:=#[.func (.yield (w.heap.size+1)) #[] #[]] },w1,g,
  #[.func (.yield (w.heap.size+1)) #[] #[]]++#[.pointer (some ⟨B,0,none⟩)],w1,?_,?_,fun _ _=>trivial,?_,(fun h=>by cases h),?_⟩
 . rw [hw1,hrec];exact run_enterLoop_outer _ _ _ _ _
 . simp only [resolve,hg];simp [go_sem]
 . simp [invoke,go_sem,Qtd hent]
 refine (hbk (dp - 1) (w.heap.size+1) B ad cap xs J Jx hxl ?_ ?_ w1 ⟨st,by simpa using hev,rfl,F,ρ,fp,hG2,fun _ _=>rfl,hL1⟩).mono ?_
 . rintro k W ⟨stk,-,hTk,Fk,ρk,fpk,hGk,hsame,-⟩;refine ⟨?_,fun i u hi=>?_⟩
   . have hb:W.heap[B]? = some (.cells #[a.eval xo] ty (0,0)):=(hsame B (by simp [hB])).trans ((hS1 B hB).trans hBc);rw [Qau hb,<- hv];rfl
   . rcases (RDs.lst_inv (hlst hGk.rel hTk)).2 with ⟨h1,-⟩ | ⟨b,o,c1,C,ty',fr,h2,hF,hb,hd,-⟩
     . have:xs=[]:=by simpa using h1
       subst this;simp at hi
     . rw [hv] at h2;simp only [Kcu,Value.slice.injEq] at h2;refine ⟨b,o,h2.1,?_⟩;rw [Quu] at hd;obtain ⟨u',f1,f,f2,k1,-,k2,-⟩:=hd.at_ (i:=i) (x:=.sc (iv u)) (by simp [hi])
       have hlt:i < (xs.map fun n=>[IV.sc (iv n)]).length * 1:=by
        have:=(Kak.1 hi).1;simpa using this
       rw [Qam hlt] at k1;rw [Qau hb,k1];cases k2;rfl
 . rintro m k u W ⟨stk,hgo,hTk,Fk,ρk,fpk,hGk,hsame,hLk⟩ hku;obtain ⟨hk,hku'⟩:=Kak.1 hku;have hk':k < xs.length:=by simpa using hk
   rw [Kay hk,hku'] at hgo;simp only [Qhm] at hgo;have hlen:(xs.reverse.drop (k+1)).length=xs.length - 1 - k:=by simp;omega
   rw [hlen] at hgo;split at hgo;rotate_left
   . cases hgo
   rename_i s1 h1;have hgo':∃ ex2 s2,exec cf fuel body s1=some (ex2,s2)/\((ex2=.normal/\Qhm (exec cf fuel asg) (exec cf fuel body) st.T p q (xs.reverse.drop (k+1)) { s2 with T:=st.T }=some (ex,st')) \/ ∃ e,ex2=.exit e/\ex=.exit e/\st'={ s2 with T:=st.T }):=by
    split at hgo
    . rename_i s2 h2;exact ⟨_,s2,h2,.inl ⟨rfl,hgo⟩⟩
    . rename_i e s2 h2;simp only [Kaa,Kab] at hgo;exact ⟨_,s2,h2,.inr ⟨e,rfl,hgo.1.symm,hgo.2.symm⟩⟩
    . cases hgo
   obtain ⟨ex2,s2,h2,hcase⟩:=hgo';have hy:=run_yield (P:=cx.P) (args:=#[iv ((xs.length - 1 - k:Nat):Int),iv u]) hLk (by rw [hrec];rfl);have hyt:((rec .ready none).params.zip #[iv ((xs.length - 1 - k:Nat):Int),iv u]).foldl (fun tmps (t,a)=>tmps.setIfInBounds t a) (rec .ready none).tmps=(a.tmps.setIfInBounds p (iv ((xs.length - 1 - k:Nat):Int))).setIfInBounds q (iv u):=by
    rw [hrec];exact Jz7 ..
   rw [hyt] at hy;refine ⟨_,_,_,_,hy,?_⟩;rw [show (rec .ready none).assign=Qrd by rw [hrec],show (rec .ready none).body=Qfj by rw [hrec]];refine (Qvd (fn:=(rec .ready none).fn) hcf hm hba hbb hnda hndb hp hq h1 h2 (hcase.imp (fun h=>h.1) fun ⟨e,h,_⟩=>⟨e,h⟩) (rec:=rec) (fun _ _=>by rw [hrec]) (fun _ _ _=>by rw [hrec]) (fun _ _ _ _=>by rw [hrec]) hTk hpT hGk hn hLk).mono ?_;rintro e' W' ⟨rfl,F',ρ',fp',hG',hs',hL'⟩;have hsame':∀ b ∈ w.heap.size::S,W'.heap[b]? = w1.heap[b]?:=fun b hb=>(hs' b hb).trans (hsame b hb);rcases hcase with ⟨rfl,hgo⟩ | ⟨e,rfl,rfl,rfl⟩
   . exact .inl ⟨by simp,_,hgo,rfl,F',ρ',fp',hG',hsame',hL'⟩
   . exact .inr ⟨by simp,e,rfl,F',ρ',fp',hG',hsame',hL'⟩
 . have fin:∀ {W:World} {s:LoopState} {pe:Option Code},W.heap[w.heap.size+1]? = some (.loop (rec s pe))->s ≠ .busy->(Instr.endLoop (w.heap.size+1)).run cx.P W=.ok pe (W.putObj (w.heap.size+1) (.loop (rec .exhausted pe))):=fun {W s pe} hl hs=>by
    have:=run_endLoop (P:=cx.P) hl (by rw [hrec];exact hs);rw [hrec] at this |-;exact this
   have hDS:∀ (W:World) (o:Obj),(∀ b ∈ w.heap.size::S,W.heap[b]? = w1.heap[b]?)->(∀ b ∈ S,(W.putObj (w.heap.size+1) o).heap[b]? = w.heap[b]?)/\(W.putObj (w.heap.size+1) o).heap[w.heap.size]? = some (.deferred (some [])):=fun W o h=>by
    refine ⟨fun b hb=>?_,?_⟩
    . have:=(hG.out b hb).1;rw [World.putObj_heap_other (by omega),h b (by simp [hb]),hS1 b hb]
    . rw [World.putObj_heap_other (by omega),h _ (by simp),hD1]
   rintro e W2 ⟨⟨v,rfl⟩,⟨stk,hgo,hTk,Fk,ρk,fpk,hGk,hsame,hLk⟩ | ⟨e,rfl,Fk,ρk,fpk,hGk,hsame,hLk⟩⟩
   . rw [Kew (by simp)] at hgo;simp only [Qhm,Kaa,Kab] at hgo;obtain ⟨rfl,rfl⟩:=hgo;have hst:({ stk with T:=st.T }:St)=stk:=by rw [<- hTk]
     rw [hst];obtain ⟨k1,k2⟩:=hDS W2 (.loop (rec .exhausted none)) hsame;exact ⟨none,_,fin hLk (by simp),rfl,w.heap.size,Fk,ρk,fpk,rfl,(hGk.put1 (by simp) _).sub (Kef _ _),k1,k2⟩
   . obtain ⟨k1,k2⟩:=hDS W2 (.loop (rec .exhausted (some (.exit e)))) hsame;exact ⟨some (.exit e),_,fin hLk (by simp),wpIn_exit ⟨rfl,w.heap.size,Fk,ρk,fpk,rfl,(hGk.put1 (by simp) _).sub (Kef _ _),k1,k2⟩⟩
end
end Go.Idl
namespace Go.Idl
open Go
theorem Qu3:∀ {es:List (List IV)} {xs:List Int},Qih es=some xs->es=xs.map fun n=>[.sc (iv n)]:=by
 intro es
 induction es with
 | nil=>intro xs h;simp only [Qih,Kaa] at h;subst h;rfl
 | cons e r ih =>
   intro xs h;unfold Qih at h;split at h
   . rename_i h0;cases h0
   . rename_i n r' h0;cases h0;split at h
     . rename_i ys hy;simp only [Kaa] at h;subst h;rw [ih hy];rfl
     . cases h
   . cases h
def isTmp:Operand->Nat->Bool
 | .tmp t,g=>t == g
 | _,_=>false
def Jee:Opd->Nat->Bool
 | .t s,g=>s != g
 | _,_=>true
def bRng (cx:Cx) (n:Nat) (keep:List Nat) (iops:List IOp) (f:Lab) (x:Opd) (g bid p q:Nat) (ca cb:Code->Bool):Code->Code->Bool
 | .region _ ops false,.block bid' (.rangeFunc go ps Qrd Qfj)=>Jrp cx ops n keep (ops.toList.take iops.length) iops && ops.size == iops.length+1 && (match ops[iops.length]? with
   | some o=>o.guard.isNone && (match o.dst with | some d=>d == g | none=>false) && decide (g < n) && !keep.contains g && (match o.op with
     | .call c=>(match c.callee with | .value (.func k)=>cx.fid f == k | _=>false) && (match c.args.toList with | [y]=>Qc9 cx y x | _=>false)
     | _=>false)
   | none=>false) && bid' == bid && isTmp go g && decide (ps.toList=[p,q]) && decide (p < n) && decide (q < n) && ndC Qrd && ndC Qfj && Jee x g && ca Qrd && cb Qfj
 | _,_=>false
section
variable {cx:Cx} {w0:World} {F0:Nat->Prop} {ρ0:Rho} {fp0:Fp} {st0:St} {a0:Act} {keep:List Nat} {n:Nat} {cf:CF}
variable {w w':World} {F F':Nat->Prop} {ρ ρ':Rho} {fp fp':Fp} {st st':St} {a a':Act} {S S':List Nat} {tm tm':Nat->Value}
theorem Ql8 {y:Operand} {x:Opd} {g:Nat} {v:Value} (h:Qaz cx y x) (hx:Jee x g=true):(a.put (some g) v).eval y=a.eval y:=by
 cases y <;> cases x <;> simp only [Qaz] at h
 . subst h;rename_i t;have hne:g ≠ t:=fun e=>by simp [Jee,e] at hx
   simp [Act.put,Act.eval,Kcc,Key hne]
 . rfl
 . rfl
theorem Qz7 (hcf:Qcn cx cf) (hm:cx.P.follows .mixedOrders=true) {dp fuel:Nat} {iops:List IOp} {f:Lab} {x:Opd} {g bid p q:Nat} {live:List Nat} {asg body:IC} {ca cb:Code->Bool} {cR cB:Code} {ex:Ex}
 (hca:∀ c,ca c=true->Qc8 cx n [] c asg=true) (hcb:∀ c,cb c=true->Qc8 cx n [] c body=true)
 (hb:bRng cx n keep iops f x g bid p q ca cb cR cB=true) (hbk:BkOK cx f) (hev:Qqh cf st iops x g live bid p q (exec cf fuel asg) (exec cf fuel body)=some (ex,st'))
 (hI:Qyq cx w0 F0 ρ0 fp0 st0 a0 keep n st a w):(Code.seq cR cB).wpIn (FR none) dp cx.P (Jbt cx w0 F0 ρ0 fp0 st0 a0 keep n ex st') a w:=by
 unfold bRng at hb;split at hb;rotate_left
 . cases hb
 rename_i id ops bid' go ps Qrd Qfj;simp only [Kac,Kbt,Kai] at hb;obtain ⟨⟨⟨⟨⟨⟨⟨⟨⟨⟨⟨⟨hops,hsz⟩,hb⟩,hbid⟩,hgo⟩,hps⟩,hp⟩,hq⟩,hnda⟩,hndb⟩,hxg⟩,hba⟩,hbb⟩:=hb;subst hbid;split at hb;rotate_left
 . cases hb
 rename_i o ho;simp only [Kac,Kai,Kby,Option.isNone_iff_eq_none] at hb;obtain ⟨⟨⟨⟨hgd,hd⟩,hgn⟩,hgk⟩,hop⟩:=hb;split at hd;rotate_left
 . cases hd
 rename_i d hdst;have hdt:d=g:=eq_of_beq hd;subst hdt;split at hop;rotate_left
 . cases hop
 rename_i c hopc;simp only [Kac] at hop;obtain ⟨hcal,hargs⟩:=hop;split at hcal;rotate_left
 . cases hcal
 rename_i k hck0;have hk0:cx.fid f=k:=eq_of_beq hcal;split at hargs;rotate_left
 . cases hargs
 rename_i y hy;have hyx:=Qag hargs;have hgo':go=.tmp d:=by
  cases go <;> simp [isTmp] at hgo;rw [hgo]
 subst hgo';have hps':ps=#[p,q]:=by rw [<- Array.toList_inj,hps]
 subst hps';obtain ⟨hlen,hck⟩:=Qfq hops;have hck':∀ (i:Nat) (o:Oper) (x:IOp),ops[i]? = some o->iops[i]? = some x->Jkx cx ops n keep o x=true:=fun i o x ho hx=>by
  have hi:i < iops.length:=(Kak.1 hx).1;exact hck i o x (by rw [Kbg hi];simpa using ho) hx
 unfold Qqh at hev;split at hev;rotate_left
 . cases hev
 rename_i s0 h0;simp only at hev;split at hev;rotate_left
 . cases hev
 rename_i es clip hrd;split at hev;rotate_left
 . cases hev
 rename_i xs hxs;split at hev;rotate_left
 . cases hev
 rename_i hcond;obtain ⟨hpT,hxl⟩:=hcond;rw [Qu3 hxs] at hrd;obtain ⟨gi,ty,hent,hentg,hiter,hcall⟩:=hbk;obtain ⟨S,F,ρ,fp,hG,hn,hdf,hkp,hD⟩:=hI;refine wpIn_seq (Qho (.inl rfl) (cls:=Qh1 iops) (K:=fun a w=>(Code.block bid' (.rangeFunc (.tmp d) #[p,q] Qrd Qfj)).wpIn (FR none) dp cx.P (Jbt cx w0 F0 ρ0 fp0 st0 a0 keep n ex st') a w) (fun a w h=>h) ?_);rw [hsz,Kff];refine Jf3 (K2:=Inv cx w F ρ fp st a keep n s0) (fun a1 w1 hI1=>?_) (Jec hcf hck' (by omega) (fun i hi=>Kaz.1 hi) (hG.self hn) (by rw [Qe5];exact h0));refine ⟨o,ho,?_⟩;have hcls:Qh1 iops iops.length=.oth:=by simp [Qh1]
 rw [hcls];simp only;have hw:Region.wanted o (yielded ops a1.tmps)=true:=by simp [Region.wanted,hgd]
 have hrun:=Qqk (a:=a1) (cvs:=[]) (hk0 ▸ hent) hopc hck0 rfl w1;rw [hy] at hrun;unfold wpOp;simp only [ho,hw,if_true];left;unfold Oper.wp;rw [hrun,Oper.upon_enter,<- hk0];obtain ⟨F1,ρ1,fp1,hG1,hs1,hn1,-,-,hd1,hk1⟩:=hG.step hI1;obtain ⟨ad0,len0,cap0,hsl⟩:∃ ad len cap,a1.eval y=.slice ad len cap:=by
  have hIp:=Qja (Qei (cx:=cx) (w0:=w1) (F0:=F1) (ρ0:=ρ1) (fp0:=fp1) (st0:=s0) (a0:=a1) (keep:=keep) (n:=n) (d:=some d) (f':=[]) (v':=undef) (v:=.un)
   (show Rel cx _ F1 ρ1 fp1 ([]++[]) s0 (Qah a1) from hG1.rel) rfl (.refl ..) (.refl _) hn1 rfl (fun _ _=>rfl) (fun e he=>by cases he;exact ⟨hgn,by simpa using hgk⟩)) live
  obtain ⟨Fp,ρp,fpp,hRp,-⟩:=hIp;have hr:=Qa0 hRp hyx;rw [show putI s0 (some d) .un={ s0 with T:=tput s0.T d .un } from rfl,hrd,Ql8 hyx hxg] at hr;rcases hr with ⟨hr,-⟩ | hr
  . exact hr.elim
  . rcases (RDs.lst_inv hr).2 with ⟨-,b1,c1,h,-⟩ | ⟨b1,o1,c1,C,ty',fr,h,-⟩
    . exact ⟨_,_,_,h⟩
    . exact ⟨_,_,_,h⟩
 have hcall0:=hcall ad0 len0 cap0 w1;rw [<- hsl] at hcall0;refine Calls.mono hcall0 ?_;rintro e w2 ⟨rfl,rfl⟩;simp only [wpY,hdst];have hGa:=hG1.alloc (.cells #[a1.eval y] ty);have hIa:=Qei (cx:=cx) (w0:=w1.alloc (.cells #[a1.eval y] ty)) (F0:=F1) (ρ0:=ρ1) (fp0:=fp1) (st0:=s0) (a0:=a1) (keep:=keep) (n:=n) (d:=some d) (f':=[]) (v':=.func (.func gi) #[] #[.pointer (some ⟨w1.heap.size,0,none⟩)]) (v:=.un)
  (show Rel cx _ F1 ρ1 fp1 ([]++[]) s0 (Qah a1) from hGa.rel) rfl (.refl ..) (.refl _) hn1 rfl (fun _ _=>rfl) (fun e he=>by cases he;exact ⟨hgn,by simpa using hgk⟩)
 have hIb:=Qja hIa live;obtain ⟨F2,ρ2,fp2,hG2,hs2,hn2,-,-,hd2,hk2⟩:=hGa.step hIb;have hBnew:(w1.alloc (.cells #[a1.eval y] ty)).heap[w1.heap.size]? = some (.cells #[a1.eval y] ty (0,0)):=World.alloc_heap_new _ _;have hSame:∀ b ∈ S,(w1.alloc (.cells #[a1.eval y] ty)).heap[b]? = w.heap[b]?:=fun b hb=>by
  have hlt:=(hG1.out b hb).1;refine Eq.trans ?_ (hs1 b hb);show (w1.heap.push _)[b]? = _;rw [Array.getElem?_push_lt hlt];simp [hlt]
 have hput:putI s0 (some d) .un={ s0 with T:=tput s0.T d .un }:=rfl;rw [hput] at hG2;have hgv:(a1.put (some d) (.func (.func gi) #[] #[.pointer (some ⟨w1.heap.size,0,none⟩)])).eval (.tmp d)=.func (.func gi) #[] #[.pointer (some ⟨w1.heap.size,0,none⟩)]:=by
  have:d < a1.tmps.size:=Kcd hgn hn1;simp [Act.put,Act.eval,this]
 obtain ⟨ex1,hgoX,hex1⟩:∃ ex1,Qhm (exec cf fuel asg) (exec cf fuel body) ({ s0 with T:=tput s0.T d .un }.cut live:St).T p q xs.reverse ({ s0 with T:=tput s0.T d .un }.cut live)=some (ex1,st')/\Exit.inBlock bid' (fun e _ _=>e=Jkh ex) (Jkh ex1) a w/\(ex1=.normal \/ ∃ e,ex1=.exit e):=by
  have hnr:∀ (l:List Int) (s:St) (e1:Ex) (s2:St),Qhm (exec cf fuel asg) (exec cf fuel body) ({ s0 with T:=tput s0.T d .un }.cut live:St).T p q l s=some (e1,s2)->e1=.normal \/ ∃ e,e1=.exit e:=by
   intro l
   induction l with
   | nil=>intro s e1 s2 h;simp only [Qhm,Kaa,Kab] at h;exact .inl h.1.symm
   | cons x r ih =>
     intro s e1 s2 h;simp only [Qhm] at h;split at h
     . split at h
       . exact ih _ _ _ h
       . simp only [Kaa,Kab] at h;exact .inr ⟨_,h.1.symm⟩
       . cases h
     . cases h
  cases hgg:Qhm (exec cf fuel asg) (exec cf fuel body) ({ s0 with T:=tput s0.T d .un }.cut live:St).T p q xs.reverse ({ s0 with T:=tput s0.T d .un }.cut live) with
  | none=>rw [hgg] at hev;cases hev
  | some pr =>
    obtain ⟨e1,s2⟩:=pr;rw [hgg] at hev;rcases hnr _ _ _ _ hgg with rfl | ⟨e,rfl⟩
    . simp only [Kaa,Kab] at hev;obtain ⟨rfl,rfl⟩:=hev;exact ⟨_,rfl,rfl,.inl rfl⟩
    . simp only [Kaa,Kab] at hev;obtain ⟨rfl,rfl⟩:=hev;refine ⟨_,rfl,?_,.inr ⟨e,rfl⟩⟩;by_cases he:e=bid'
      . simp [he,Jkh,Exit.inBlock]
      . simp [he,Jkh,Exit.inBlock]
 refine wpIn_block (wpIn_mono (Jfa (a:=a1.put (some d) (.func (.func gi) #[] #[.pointer (some ⟨w1.heap.size,0,none⟩)])) hcf hm (hca _ hba) (hcb _ hbb) hnda hndb hp hq hgoX hpT hyx hrd hxl hgv hentg hiter (by simp)
  (ty:=ty) (by rw [Ql8 hyx hxg];exact hBnew) hG2 hn2) ?_)
 rintro e a3 w3 ⟨rfl,D,F3,ρ3,fp3,rfl,hG3,hs3,hD3⟩;have hM:Qyq cx w0 F0 ρ0 fp0 st0 a0 keep n st' { a1.put (some d) (.func (.func gi) #[] #[.pointer (some ⟨w1.heap.size,0,none⟩)]) with defers:=Qzt D::(a1.put (some d) (.func (.func gi) #[] #[.pointer (some ⟨w1.heap.size,0,none⟩)])).defers } w3:=by
  refine ⟨D::S,F3,ρ3,fp3,hG3.sub ((Kef _ S).cons_cons D),hn2,?_,fun s hs=>?_,fun D' hD'=>?_⟩
  . show Qzt D::(a1.put (some d) _).defers=_;rw [hd2,hd1,hdf];rfl
  . exact (hk2 s hs).trans ((hk1 s hs).trans (hkp s hs))
  . rcases Kaf.1 hD' with rfl | hD'
    . exact hD3
    . exact (hs3 D' (by simp [hD'])).trans ((hSame D' hD').trans (hD D' hD'))
 obtain ⟨hex2,hex3⟩:=hex1;rcases hex3 with rfl | ⟨e,rfl⟩
 . exact ⟨hex2,hM⟩
 . simp only [Jkh,Exit.inBlock] at hex2 |-;split
   . rename_i he;simp only [he,if_true] at hex2;exact ⟨hex2,hM⟩
   . rename_i he;simp only [he,Kbs] at hex2;exact ⟨hex2,hM⟩
end
end Go.Idl
namespace Go.Idl
open Go
def Qg2 (cx:Cx) (n:Nat) (keep:List Nat):IC->Code->Bool
 | i,.scope c=>Qba cx n keep i (.scope c) || Qg2 cx n keep i c
 | .seq x y,.seq a b=>Qba cx n keep (.seq x y) (.seq a b) || (Qg2 cx n keep x a && Qg2 cx n keep y b)
 | .rngb iops f x g _ bid p q asg body,.seq a b=>cx.bks.contains f && bRng cx n keep iops f x g bid p q (Qba cx n [] asg) (Qba cx n [] body) a b
 | .cond d x y,.cond c a b=>Qba cx n keep (.cond d x y) (.cond c a b) || (Qc9 cx c d && Qg2 cx n keep x a && Qg2 cx n keep y b)
 | .block id' b',.block id b=>Qba cx n keep (.block id' b') (.block id b) || (id == id' && Qg2 cx n keep b' b)
 | .loop b',.loop b=>Qba cx n keep (.loop b') (.loop b) || Qg2 cx n keep b' b
 | i,c=>Qba cx n keep i c
def Jbq (cx:Cx):Prop:=∀ f ∈ cx.bks,BkOK cx f
section
variable {cx:Cx} {w0:World} {F0:Nat->Prop} {ρ0:Rho} {fp0:Fp} {st0:St} {a0:Act} {keep:List Nat} {n:Nat} {cf:CF}
variable {w:World} {st st':St} {a:Act}
theorem Qzh (hI:Qyq cx w0 F0 ρ0 fp0 st0 a0 keep n st a w) {o:Operand} {x:Opd} (ho:Qaz cx o x) {t:Bool} (h:rd st.T x=.sc (.bool t)):a.eval o=.bool t:=by
 obtain ⟨F,ρ,fp,h1,-⟩:=hI.step;exact Qr6 h1 ho h
theorem Qur (hcf:Qcn cx cf) (hm:cx.P.follows .mixedOrders=true) (hbk:Jbq cx) {dp:Nat}:∀ (N:Nat) (c:Code),SizeOf.sizeOf c < N->∀ {i:IC},Qg2 cx n keep i c=true->∀ {fuel:Nat} {st:St} {ex:Ex} {st':St} {a:Act} {w:World},
 exec cf fuel i st=some (ex,st')->Qyq cx w0 F0 ρ0 fp0 st0 a0 keep n st a w->c.wpIn (FR none) dp cx.P (Jbt cx w0 F0 ρ0 fp0 st0 a0 keep n ex st') a w:=by
 intro N
 induction N with
 | zero=>intro c hN;omega
 | succ N ihN =>
 intro c hN i hb fuel st ex st' a w hev hI;unfold Qg2 at hb;split at hb
 ·
  rename_i c;rcases Kfi.1 hb with hb | hb
  . exact Qog hcf hm hb hev hI
  . refine Qdw (wpIn_mono (ihN c (by simp at hN;omega) hb hev hI) ?_);rintro e a w ⟨rfl,h⟩;cases ex <;> exact ⟨rfl,h⟩
 ·
  rename_i x' y' x y;rcases Kfi.1 hb with hb | hb
  . exact Qog hcf hm hb hev hI
  . obtain ⟨hb1,hb2⟩:=Qd0 hb;simp only [exec] at hev;cases h1:exec cf fuel x' st with
    | none=>simp [h1] at hev
    | some p =>
    obtain ⟨ex1,st1⟩:=p;simp only [h1] at hev;refine wpIn_seq (wpIn_mono (ihN x (by simp at hN;omega) hb1 h1 hI) ?_);rintro e a1 w1 ⟨rfl,hI1⟩;cases ex1 with
    | normal=>exact ihN y (by simp at hN;omega) hb2 hev hI1
    | exit id=>simp only [Kaa,Kab] at hev;obtain ⟨rfl,rfl⟩:=hev;exact ⟨rfl,hI1⟩
    | ret=>simp only [Kaa,Kab] at hev;obtain ⟨rfl,rfl⟩:=hev;exact ⟨rfl,hI1⟩
 ·
  rename_i iops f x g live bid p q asg body ca cb;obtain ⟨hb1,hb2⟩:=Qd0 hb;simp only [exec] at hev;exact Qz7 hcf hm (fun _ h=>h) (fun _ h=>h) hb2 (hbk f (by simpa using hb1)) hev hI
 ·
  rename_i d x' y' c x y;rcases Kfi.1 hb with hb | hb
  . exact Qog hcf hm hb hev hI
  . obtain ⟨hb1,hb2⟩:=Qd0 hb;obtain ⟨hb0,hb1⟩:=Qd0 hb1;simp only [exec] at hev;split at hev;rotate_left
    . cases hev
    rename_i t ht;have hc:=Qzh hI (Qag hb0) ht;refine wpIn_cond_split hc (fun h=>?_) (fun h=>?_)
    . subst h;simp only [if_true] at hev;exact ihN x (by simp at hN;omega) hb1 hev hI
    . subst h;simp only [Kap,Kbs] at hev;exact ihN y (by simp at hN;omega) hb2 hev hI
 ·
  rename_i id' b' id b;rcases Kfi.1 hb with hb | hb
  . exact Qog hcf hm hb hev hI
  . obtain ⟨hid0,hb1⟩:=Qd0 hb;have hid:id=id':=eq_of_beq hid0;subst hid;simp only [exec] at hev;cases h1:exec cf fuel b' st with
    | none=>simp [h1] at hev
    | some p =>
    obtain ⟨ex1,st1⟩:=p;simp only [h1] at hev;refine wpIn_block (wpIn_mono (ihN b (by simp at hN;omega) hb1 h1 hI) ?_);rintro e a1 w1 ⟨rfl,hI1⟩;cases ex1 with
    | normal=>simp only [Kaa,Kab] at hev;obtain ⟨rfl,rfl⟩:=hev;exact ⟨rfl,hI1⟩
    | ret=>simp only [Kaa,Kab] at hev;obtain ⟨rfl,rfl⟩:=hev;exact ⟨rfl,hI1⟩
    | exit j =>
      simp only at hev;simp only [Jkh,Exit.inBlock];split at hev
      . rename_i hj;simp only [Kaa,Kab] at hev;obtain ⟨rfl,rfl⟩:=hev;simp only [hj,if_true];exact ⟨rfl,hI1⟩
      . rename_i hj;simp only [Kaa,Kab] at hev;obtain ⟨rfl,rfl⟩:=hev;simp only [hj,Kbs];exact ⟨rfl,hI1⟩
 ·
  rename_i b' b;rcases Kfi.1 hb with hb | hb
  . exact Qog hcf hm hb hev hI
  . simp only [exec] at hev;have key:∀ (m:Nat) (st:St) (a:Act) (w:World),Jbn (exec cf fuel b') m st=some (ex,st')->Qyq cx w0 F0 ρ0 fp0 st0 a0 keep n st a w->Code.roundsIn (FR none) dp cx.P b (Jbt cx w0 F0 ρ0 fp0 st0 a0 keep n ex st') m a w:=by
     intro m
     induction m with
     | zero=>intro st a w h;simp [Jbn] at h
     | succ m ihm =>
       intro st a w h hI;rw [roundsIn_succ];simp only [Jbn] at h;cases h1:exec cf fuel b' st with
       | none=>simp [h1] at h
       | some p =>
       obtain ⟨ex1,st1⟩:=p;simp only [h1] at h;refine wpIn_mono (ihN b (by simp at hN;omega) hb h1 hI) ?_;rintro e a1 w1 ⟨rfl,hI1⟩;cases ex1 with
       | normal=>exact ihm st1 a1 w1 h hI1
       | exit j=>simp only [Kaa,Kab] at h;obtain ⟨rfl,rfl⟩:=h;exact ⟨rfl,hI1⟩
       | ret=>simp only [Kaa,Kab] at h;obtain ⟨rfl,rfl⟩:=h;exact ⟨rfl,hI1⟩
    exact wpIn_loop_rounds fuel (key fuel st a w hev hI)
 . exact Qog hcf hm hb hev hI
end
end Go.Idl
namespace Go.Idl
open Go
def bRes (P:Program):ResultVar->Jkf->Bool
 | .tmp t,.t s=>t == s
 | .cell a t,.c b sz ag=>a == b && Qnh P t sz && bAgg P t ag
 | _,_=>false
def Jkz (P:Program):List ResultVar->List Jkf->Bool
 | [],[]=>true
 | x::xs,y::ys=>bRes P x y && Jkz P xs ys
 | _,_=>false
theorem Qwl {P:Program}:∀ {xs:List ResultVar} {ys:List Jkf},Jkz P xs ys=true->Qxt P xs ys
 | [],[],_=>trivial
 | x::xs,y::ys,h=>by
   simp only [Jkz,Kac] at h;refine ⟨?_,Qwl h.2⟩;cases x <;> cases y <;> simp only [bRes] at h
   . simpa [Jsx] using h.1
   . exact absurd h.1 (by simp)
   . exact absurd h.1 (by simp)
   . simp only [Kac,Kbt] at h;exact ⟨h.1.1.1,Qd1 h.1.1.2,Jch h.1.2⟩
 | [],_::_,h=>by cases h
 | _::_,[],h=>by cases h
def Qaw (cx:Cx) (rf:Func) (f:Qar):Bool:=(rf.name != "runtime.NumGoroutine") && Jkz cx.P rf.results.toList f.res && (match rf.body with
 | some c=>Qg2 cx rf.ntmps f.keep f.body c
 | none=>false)
def Qwz (v:IV) (M:List Qad):Option Ret:=match ({ T:=[(0,v)],loc:=[],M:=M }:St).retvs [.t 0] with
 | some (vs,st)=>match st.backs [] with
   | some (back,st)=>st.leave (Qbt vs) back
   | none=>none
 | none=>none
def Qfo (cx:Cx) (f:Lab) (fn:Qar):Prop:=∃ g,fn=⟨[.t 0],[],.ext g⟩/\Qef cx.P (cx.fid f)/\∀ cf,Qcn cx cf->∀ args v,g cf args=some v ->
 (∀ M,Qwz v M=some ⟨v,[],M,[]⟩) /\
 ∀ M w F ρ fp vs,vs.length=args.length->Rel cx w F ρ fp [] (Qbp args M) (Qeh vs)->Calls cx.P (cx.fid f) vs.toArray w (Qfp cx w F ρ fp M [] vs ⟨v,[],M,[]⟩)
def Jbw (cx:Cx) (tb:Tbl):Prop:=Jbq cx/\∀ f fn,tb f=some fn->(∃ rf,cx.P.funcs[cx.fid f]? = some rf/\Qaw cx rf fn=true) \/ Qfo cx f fn
theorem Je2 (vs:List Value) (k:Nat):Qah { tmps:=vs.toArray++Array.replicate k undef,defers:=[] }=Qeh vs:=by
 funext s;simp only [Qah,Qeh,Kcc,Kad];by_cases hs:s < vs.length
 . rw [Array.getElem?_append_left (by simpa using hs)];simp
 . rw [Array.getElem?_append_right (by simpa using hs),Kar (by omega)];by_cases h2:s - vs.length < k
   . simp [h2]
   . simp [h2]
theorem Qjv {cx:Cx} {w0:World} {F0:Nat->Prop} {ρ0:Rho} {fp0:Fp} {st0 st:St} {tm:Nat->Value} {fn:Func} {tmps:Array Value} {R:Ending->World->Prop}
 (hgood:∀ w F ρ fp,Gd cx w0 F0 ρ0 fp0 st0 [] st tm w F ρ fp->LeavesIn (FR none) 0 cx.P fn tmps R [] .returning w) :
 ∀ (S:List Nat) (w:World) (F:Nat->Prop) (ρ:Rho) (fp:Fp),Gd cx w0 F0 ρ0 fp0 st0 S st tm w F ρ fp->(∀ D ∈ S,w.heap[D]? = some (.deferred (some [])))->LeavesInM (FR none) 0 cx.P fn tmps R (S.map Qzt) .returning w
 | [],w,F,ρ,fp,hG,_=>hgood w F ρ fp hG
 | D::S,w,F,ρ,fp,hG,hD=>by
   refine ⟨by simp,.inl ⟨D,_,rfl,run_takeDeferred (hD D (by simp)),Qjv hgood S _ F ρ fp ((hG.put1 (by simp) _).sub (Kef _ _)) fun D' hD'=>?_⟩⟩;have hne:D' ≠ D:=fun e=>(Kbq.1 hG.nd).1 (e ▸ hD');rw [World.putObj_heap_other hne];exact hD D' (by simp [hD'])
theorem Qlf {cx:Cx} {tb:Tbl} (htb:Jbw cx tb) (hm:cx.P.follows .mixedOrders=true):∀ n,Qcn cx (Qb1 tb n)
 | 0=>fun f lent args M r h=>by simp [Qb1] at h
 | n+1=>fun f lent args M r h=>by
   have ih:=Qlf htb hm n;simp only [Qb1] at h;split at h;rotate_left
   . cases h
   rename_i fn hfn;rcases htb.2 f fn hfn with ⟨rf,hrf,hb⟩ | ⟨g,rfl,hent,hg⟩;rotate_left
   . refine ⟨hent,?_⟩;intro w F ρ fp vs hlen hR;unfold Qx7 at h;split at h
     . cases h
     rename_i hkeep;have hl0:lent=[]:=by
      cases lent with
      | nil=>rfl
      | cons a l=>simp at hkeep
     subst hl0;have hT:((args.zipIdx.map fun (v,i)=>(i,v)):Tm).map (·.2)=args:=by
      rw [List.map_map];exact (Kdr fun _ _=>rfl).trans (List.zipIdx_map_fst 0 args)
     simp only [exec,hT] at h;cases hq:g (Qb1 tb n) args with
     | none=>simp only [hq] at h;cases h
     | some v =>
     obtain ⟨k1,k2⟩:=hg (Qb1 tb n) ih args v hq;simp only [hq] at h;have h:Qwz v M=some r:=h;rw [k1 M] at h;simp only [Kaa] at h;subst h;exact k2 M w F ρ fp vs hlen hR
   unfold Qaw at hb;simp only [Kac,bne_iff_ne,ne_eq] at hb;obtain ⟨⟨hname,hress⟩,hb⟩:=hb;split at hb;rotate_left
   . cases hb
   rename_i c hc;refine ⟨⟨rf,hrf,by simpa using hname,by rw [hc];rfl⟩,?_⟩;intro w F ρ fp vs hlen hR;unfold Qx7 at h;split at h
   . cases h
   rename_i hkeep;have hkeep':∀ s ∈ lent,s ∈ fn.keep:=by
    simp only [Kby,Bool.not_eq_false,Kaj] at hkeep;intro s hs;simpa using hkeep s hs
   let a0:Act:={ tmps:=vs.toArray++Array.replicate (rf.ntmps - vs.toArray.size) undef,defers:=[] }
   have hregs:Qah a0=Qeh vs:=Je2 vs _;have hI:Qyq cx w F ρ fp (Qbp args M) a0 fn.keep rf.ntmps (Qbp args M) a0 w :=
    .start (by rw [hregs];exact hR) (by simp [a0];omega)
   have body:∀ {ex:Ex} {st1:St},exec (Qb1 tb n) n fn.body (Qbp args M)=some (ex,st1)->(ex=.normal \/ ex=.ret)->∀ {vals st2 back st3},st1.retvs fn.res=some (vals,st2)->st2.backs lent=some (back,st3) ->
    st3.leave (Qbt vals) back=some r->Calls cx.P (cx.fid f) vs.toArray w (Qfp cx w F ρ fp M lent vs r):=by
    intro ex st1 h1 hex vals st2 back st3 h2 h3 h4;refine (callsIn_wide (n:=0)).1 (callsIn_of_wp_marks (F:=FR none) hrf hc trivial ?_);refine wpIn_mono (Qur ih hm htb.1 (SizeOf.sizeOf c+1) c (Nat.lt_succ_self _) hb h1 hI) ?_;rintro e a1 w1 ⟨rfl,S,F1,ρ1,fp1,hG1,-,hd1,hk1,hD1⟩;have hleave:LeavesInM (FR none) 0 cx.P rf a1.tmps (Qfp cx w F ρ fp M lent vs r) a1.defers .returning w1:=by
     rw [hd1,show a0.defers=[] from rfl,Kbb];refine Qjv (fun w2 F2 ρ2 fp2 hG2=>?_) S w1 F1 ρ1 fp1 hG1 hD1;obtain ⟨u,q1,q2⟩:=Jlx rfl hG2.rel hG2.ext hG2.shp (Qwl hress) (fun s hs=>by rw [hk1 s (hkeep' s hs),hregs];rfl) h2 h3 h4;exact ⟨u,q1,q2⟩
    rcases hex with rfl | rfl
    . exact hleave
    . exact hleave
   change (match exec (Qb1 tb n) n fn.body (Qbp args M) with
    | some (.exit _,_)=>none
    | some (_,st)=>_
    | none=>none)=some r at h
   cases h1:exec (Qb1 tb n) n fn.body (Qbp args M) with
   | none=>simp [h1] at h
   | some p =>
   obtain ⟨ex,st1⟩:=p;have rest:(match st1.retvs fn.res with
    | some (vs,st)=>match st.backs lent with
      | some (back,st)=>st.leave (Qbt vs) back
      | none=>none
    | none=>none)=some r->(ex=.normal \/ ex=.ret)->Calls cx.P (cx.fid f) vs.toArray w (Qfp cx w F ρ fp M lent vs r):=by
    intro h hex;split at h;rotate_left
    . cases h
    rename_i vals st2 h2;split at h;rotate_left
    . cases h
    rename_i back st3 h3;exact body h1 hex h2 h3 h
   rw [h1] at h;cases ex with
   | exit j=>simp at h
   | normal=>exact rest h (.inl rfl)
   | ret=>exact rest h (.inr rfl)
end Go.Idl
namespace Go.Idl
open Go
def Jkj (w:World):Nat->Prop:=fun b=>b < w.heap.size
inductive ArgR (w:World):IV->Value->Prop
 | one {x:IV} {v:Value} (h:RDs w (Jkj w) [x] [v] []):ArgR w x v
 | agg {cs:List IV} {C:Array Value} (h:RDs w (Jkj w) cs C.toList []):ArgR w (.agg cs) (.agg C)
inductive Qk9 (w:World):List IV->List Value->Prop
 | nil:Qk9 w [] []
 | cons {x v xs vs} (h:ArgR w x v) (t:Qk9 w xs vs):Qk9 w (x::xs) (v::vs)
theorem Qk9.len {w xs vs} (h:Qk9 w xs vs):xs.length=vs.length:=by
 induction h with
 | nil=>rfl
 | cons _ _ ih=>simp [ih]
section
variable {cx:Cx} {w:World}
theorem Jez {F:Nat->Prop} {ρ:Rho} {st:St} {lk}:∀ {cs:List IV} {vs:List Value},RDs w F cs vs []->Cat (RC cx w F ρ st lk) cs vs []
 | [],vs,h=>by cases h;exact .nil
 | c::cs,vs,h=>by
   obtain ⟨v,us,f1,f2,rfl,hf,h1,h2⟩:=h.cons_inv;obtain ⟨rfl,rfl⟩:=Keg.1 hf.symm;exact Cat.cons (f:=[]) (fp:=[]) (.inr h1) (Jez h2)
theorem ArgR.slot {x v} (h:ArgR w x v) {ρ:Rho} {st:St} {lk}:Qa6 cx w (Jkj w) ρ st lk x v []:=by
 cases h with
 | agg h=>exact ⟨_,rfl,Jez h⟩
 | one h =>
   cases x with
   | tup vs=>cases h
   | agg cs=>cases h
   | un=>exact rfl
   | _=>exact .inr h
theorem Qov {xs:List IV} (s k:Nat):Qav ((xs.zipIdx k).map fun (v,i)=>(i,v)) s=if k<=s then xs.getD (s - k) .un else .un:=by
 induction xs generalizing k with
 | nil=>simp [Qav]
 | cons x xs ih =>
   rw [List.zipIdx_cons,Kbd];simp only [Qav];by_cases hk:k=s
   . subst hk;simp
   . rw [if_neg hk,ih];by_cases h1:k<=s
     . have h2:k+1<=s:=by omega
       rw [if_pos h1,if_pos h2,show s - k=(s - (k+1))+1 by omega];simp
     . have h2:¬ k+1<=s:=by omega
       rw [if_neg h1,if_neg h2]
theorem Qk9.get {xs vs} (h:Qk9 w xs vs):∀ s,(xs.getD s .un=.un/\xs.length<=s) \/ ArgR w (xs.getD s .un) (vs.getD s undef):=by
 induction h with
 | nil=>intro s;exact .inl ⟨by simp,by simp⟩
 | cons h t ih =>
   intro s;cases s with
   | zero=>exact .inr (by simpa using h)
   | succ s =>
     rcases ih s with ⟨h1,h2⟩ | h1
     . exact .inl ⟨by simpa using h1,by simpa using h2⟩
     . exact .inr (by simpa using h1)
theorem Jpc {xs vs} (h:Qk9 w xs vs) (ρ:Rho):Rel cx w (Jkj w) ρ (fun _=>[]) [] (Qbp xs []) (Qeh vs):=by
 have hbox:∀ l k,(Qbp xs []).box l k=none:=fun l k=>by simp [St.box,Qbp]
 refine ⟨fun s=>?_,fun l k cs hb=>(by rw [hbox] at hb;cases hb),fun _ _ _=>rfl,fun _=>Kez,fun _ _ _ _ hb=>absurd hb (by simp),fun _ _ hb=>absurd hb (by simp),fun _ _ hb=>absurd hb (by simp),fun _ hb=>hb,Kez,fun _ _ hb=>absurd hb (by simp),fun _ hb=>absurd hb (by simp),fun _ hb=>absurd hb (by simp)⟩;have:Qav (Qbp xs []).T s=xs.getD s .un:=by
  have:=Qov (xs:=xs) s 0;simpa [Qbp] using this
 rw [this];rcases h.get s with ⟨h1,-⟩ | h1
 . rw [h1];exact Qk5
 . exact h1.slot
theorem law_calls {tb:Tbl} (htb:Jbw cx tb) (hm:cx.P.follows .mixedOrders=true) {f:Lab} {xs:List IV} {vs:List Value} (h:Qk9 w xs vs) {n:Nat} (hc:Qb1 tb n f [] xs []=some ⟨.sc (.bool true),[],[],[]⟩) :
 Calls cx.P (cx.fid f) vs.toArray w (fun e w'=>e=.returned (.bool true)/\RowKit.Below w.heap.size w w'):=by
 refine ((Qlf htb hm n f [] xs [] _ hc).2 w (Jkj w) (fun _ _=>0) (fun _=>[]) vs h.len.symm (Jpc h _)).mono ?_;rintro e w' ⟨v',F',ρ',fp',Xb,rfl,hR,hE,-⟩;have hs:=hR.slots 0;have hv:v'=.bool true:=(Qbd hs).1;subst hv;refine ⟨rfl,⟨hE.env.1,hE.env.2.1,hE.env.2.2,hE.size,fun k hk=>hE.keep k hk (by simp) (by simp)⟩⟩
end
theorem arg_ints {w:World} {k:IntKind} {a:Option Addr} {len cap:Nat} {zs:List Int} (h:(a=none/\len=0/\cap=0/\zs=[]) \/
 ∃ x,a=some x/\len<=cap/\zs.length=cap/\(∀ i,i < zs.length->w.cell? (x.add i)=some (.int k (zs.getD i 0)))) :
 ArgR w (.lst 1 ((zs.take len).map fun n=>[.sc (.int k n)]) false) (.slice a len cap):=by
 rcases h with ⟨rfl,rfl,rfl,rfl⟩ | ⟨x,rfl,h1,h2,h3⟩
 . exact .one (.lst0 (by simp) .nil)
 . rcases Kdj len with h0 | h0
   . subst h0;simp only [Kcz,Kdn];exact .one (.lst0 (by simp) .nil)
   . have hx:=h3 0 (by omega);rw [show x.add 0=x from rfl] at hx;obtain ⟨b,o,sp⟩:=x;unfold World.cell? at hx;split at hx;rotate_left
     . cases hx
     rename_i C ty fr hb;simp only at hb;cases sp with
     | some _=>simp at hx
     | none =>
     have hcell:∀ i,i < zs.length->C[o+i]? = some (.int k (zs.getD i 0)):=fun i hi=>by
      have:=h3 i hi;rw [Qb0,Qau hb] at this;exact this
     have hlen:((zs.take len).map fun n=>[IV.sc (.int k n)]).length=len:=by simp;omega
     have hd:∀ (l:List Int) (m:Nat),(∀ i,i < l.length->C[m+i]? = some (.int k (l.getD i 0)))->RDs w (Jkj w) (l.map fun n=>[IV.sc (.int k n)]).flatten ((C.toList.drop m).take l.length) []:=by
      intro l
      induction l with
      | nil=>intro m _;simp;exact .nil
      | cons n l ih =>
        intro m hl;have h0:=hl 0 (by simp);have hm:C.toList.drop m=.int k n::C.toList.drop (m+1):=by
         rw [List.drop_eq_getElem?_toList_append];have:C.toList[m]? = some (.int k n):=by simpa using h0
         rw [this];rfl
        rw [hm,Kbc,Kfg,Kbd,Kca];refine .sc rfl (ih (m+1) fun i hi=>?_);have:=hl (i+1) (by simp;omega);simpa [Kcq,Nat.add_comm 1 i] using this
     have hb':b < w.heap.size:=by
      rcases Kbw b w.heap.size with h | h
      . exact h
      . rw [Array.getElem?_eq_none h] at hb;cases hb
     have hdd:=hd (zs.take len) o (fun i hi=>by
      rw [Kas] at hi;rw [hcell i (by omega)];simp [Kad,Kbg (show i < len by omega)])
     have hll:(zs.take len).length=len:=by rw [Kas];omega
     rw [hll] at hdd;have:=RDs.lst (w:=w) (F:=Jkj w) (e:=1) (es:=(zs.take len).map fun n=>[IV.sc (.int k n)]) (clip:=false) (b:=b) (o:=o) (cap:=cap) (xs:=[]) (vs:=[]) (fp:=[]) hb' hb
      (by rw [hlen,Nat.mul_one];exact hdd) (fun x hx=>by simp only [Kck] at hx;obtain ⟨n,_,rfl⟩:=hx;rfl) (by simp) (by rw [hlen];exact h1) .nil
     rw [hlen] at this;exact .one this
theorem Jfs {cx:Cx}:∀ {L:List (Nat×Qar)},(∀ p ∈ L,(∃ rf,cx.P.funcs[cx.fid p.1]? = some rf/\Qaw cx rf p.2=true) \/ Qfo cx p.1 p.2) ->
 ∀ f fn,tbOf L f=some fn->(∃ rf,cx.P.funcs[cx.fid f]? = some rf/\Qaw cx rf fn=true) \/ Qfo cx f fn
 | [],_,f,fn,h=>by cases h
 | (k,g)::r,hL,f,fn,h=>by
   simp only [tbOf] at h;split at h
   . rename_i hk;subst hk;simp only [Kaa] at h;subst h;exact hL (k,g) (by simp)
   . exact Jfs (fun p hp=>hL p (by simp [hp])) f fn h
theorem Jft {cx:Cx} {L:List (Nat×Qar)} (hb:Jbq cx) (h:∀ p ∈ L,(∃ rf,cx.P.funcs[cx.fid p.1]? = some rf/\Qaw cx rf p.2=true) \/ Qfo cx p.1 p.2):Jbw cx (tbOf L):=⟨hb,Jfs h⟩
theorem tbl_ok {cx:Cx} {L:List (Nat×Qar)} (hb:Jbq cx) (h:∀ p ∈ L,∃ rf,cx.P.funcs[cx.fid p.1]? = some rf/\Qaw cx rf p.2=true):Jbw cx (tbOf L):=Jft hb fun p hp=>.inl (h p hp)
end Go.Idl
namespace Go.Idl
open Go
def Ev (tb:Tbl) (f:Lab) (lent:List Nat) (args:List IV) (M:List Qad) (r:Ret):Prop:=∃ N,∀ n,N<=n->Qb1 tb n f lent args M=some r
open Classical in
noncomputable def Qbq (tb:Tbl):CF:=fun f lent args M=>if h:∃ r,Ev tb f lent args M r then some (Classical.choose h) else none
def WO (tb:Tbl) (ops:List IOp) (st:St) (Q:St->Prop):Prop:=∃ st',Qaf (Qbq tb) st ops=some st'/\Q st'
def Qp3 (step:St->(Ex->St->Prop)->Prop) (Q:Ex->St->Prop):Nat->St->Prop
 | 0,_=>False
 | k+1,st=>step st fun ex st'=>match ex with
   | .normal=>Qp3 step Q k st'
   | e=>Q e st'
def Jlz (x:Opd) (t:Nat) (live:List Nat) (st:St) (f:St->(Ex->St->Prop)->Prop) (Q:Ex->St->Prop):Prop:=match Qlq (rd st.T x) with
 | some false=>f (st.flag t false live) Q
 | some true=>∃ ex st',f (st.flag t true live) (fun e s=>e=ex/\s=st')/\f (st.flag t false live) (fun e s=>e=ex/\s=st')/\Q ex st'
 | none=>False
def Je9 (wa wb:St->(Ex->St->Prop)->Prop) (T:Tm) (p q:Nat) (Q:Ex->St->Prop):List Int->St->Prop
 | [],st=>Q .normal { st with T:=T }
 | x::r,st=>wa { st with T:=tput (tput T p (.sc (iv r.length))) q (.sc (iv x)) } fun ex s1=>ex=.normal/\wb s1 fun ex2 s2=>match ex2 with
   | .normal=>Je9 wa wb T p q Q r { s2 with T:=T }
   | .exit e=>Q (.exit e) { s2 with T:=T }
   | .ret=>False
def wp (tb:Tbl):IC->St->(Ex->St->Prop)->Prop
 | .skip,st,Q=>Q .normal st
 | .reg ops live alts,st,Q=>WO tb ops st fun st1=>(∀ p ∈ alts,WO tb (Qai ops p) st fun st2=>st2.cut live=st1.cut live)/\Q .normal (st1.cut live)
 | .regd ops ord live alts,st,Q=>Qlb st ops=true/\Qg0 (Qbq tb) st (Qai ops ord)/\WO tb (Qai ops ord) st fun st1=>(∀ p ∈ alts,Qg0 (Qbq tb) st (Qai ops p)/\WO tb (Qai ops p) st fun st2=>(st2.cut live).alike st.loc.length (st1.cut live))/\Q .normal (st1.cut live)
 | .regx ops ord live ds alts,st,Q=>Jdl st ops=true/\okX (Qbq tb) ds st (Qai ops ord)/\WO tb (Qai ops ord) st fun st1=>(∀ p ∈ alts,okX (Qbq tb) ds st (Qai ops p)/\WO tb (Qai ops p) st fun st2=>st2.cut live=st1.cut live)/\Q .normal (st1.cut live)
 | .regw ops s t live,st,Q=>WO tb ops st fun st1=>∃ st2,st1.swapS s t=some st2/\Q .normal (st2.cut live)
 | .seq a b,st,Q=>wp tb a st fun ex st'=>match ex with
   | .normal=>wp tb b st' Q
   | e=>Q e st'
 | .nilc ops x t live y,st,Q=>WO tb ops st fun st1=>Jlz x t live st1 (wp tb y) Q
 | .nilc2 ops x t live y1 y2,st,Q=>WO tb ops st fun st1=>Jlz x t live st1 (fun st Q=>wp tb y1 st fun ex st'=>match ex with
   | .normal=>wp tb y2 st' Q
   | e=>Q e st') Q
 | .ubx ops0 ops1 live y,st,Q=>∃ st1,Qji (Qbq tb) st ops0 ops1=some st1/\wp tb y (st1.cut live) Q
 | .cond c a b,st,Q=>match rd st.T c with
   | .sc (.bool t)=>if t=true then wp tb a st Q else wp tb b st Q
   | _=>False
 | .block id b,st,Q=>wp tb b st fun ex st'=>match ex with
   | .exit i=>if i=id then Q .normal st' else Q (.exit i) st'
   | e=>Q e st'
 | .loop b,st,Q=>∃ k,Qp3 (wp tb b) Q k st
 | .exit id,st,Q=>Q (.exit id) st
 | .ret,st,Q=>Q .ret st
 | .rngb ops _ x g live bid p q asg body,st,Q=>WO tb ops st fun s0=>∃ es c xs,rd ({ s0 with T:=tput s0.T g .un }.cut live:St).T x=.lst 1 es c/\Qih es=some xs/\Qn1 ({ s0 with T:=tput s0.T g .un }.cut live:St).T=true/\xs.length < 2 ^ 40 /\
    Je9 (wp tb asg) (wp tb body) ({ s0 with T:=tput s0.T g .un }.cut live:St).T p q (fun ex s=>match ex with
     | .exit e=>Q (if e=bid then .normal else .exit e) s
     | e=>Q e s) xs.reverse ({ s0 with T:=tput s0.T g .un }.cut live)
 | .hole,_,_=>False
 | .ext g,st,Q=>∃ v,(∃ N,∀ n,N<=n->g (Qb1 tb n) (st.T.map (·.2))=some v)/\Q .ret { st with T:=[(0,v)] }
section
variable {tb:Tbl}
theorem Ev.det {f lent args M r r'} (h:Ev tb f lent args M r) (h':Ev tb f lent args M r'):r=r':=by
 obtain ⟨N,hN⟩:=h;obtain ⟨N',hN'⟩:=h';have h1:=hN (max N N') (by omega);have h2:=hN' (max N N') (by omega);rw [h1] at h2;exact Kda h2
theorem Jpn {f lent args M r} (h:Qbq tb f lent args M=some r):Ev tb f lent args M r:=by
 unfold Qbq at h;split at h
 . rename_i hex;simp only [Kaa] at h;rw [<- h];exact Classical.choose_spec hex
 . cases h
theorem Qaa {f lent args M r} (h:Ev tb f lent args M r):Qbq tb f lent args M=some r:=by
 have hex:∃ r,Ev tb f lent args M r:=⟨r,h⟩;unfold Qbq;rw [dif_pos hex];congr 1;exact (Classical.choose_spec hex).det h
theorem Qjk {st:St} {f:Lab} {caps:List IV} {args:List (Mode×Opd)} {p:Bool} {v:IV} {st':St} (h:st.callWith (Qbq tb) f caps args p=some (v,st')) :
 ∃ N,∀ n,N<=n->st.callWith (Qb1 tb n) f caps args p=some (v,st'):=by
 unfold St.callWith at h |-;split at h;rotate_left
 . cases h
 rename_i vs st1 fz ss hargs;cases p with
 | true =>
   simp only [if_true] at h |-;split at h
   . cases h
   rename_i hc;cases hl:Qbq tb f [] vs [] with
   | none=>simp [hl] at h
   | some r =>
   obtain ⟨N,hN⟩:=Jpn hl;rw [hl] at h;refine ⟨N,fun n hn=>?_⟩;simp only [hc,Kbs,Kap,hN n hn];exact h
 | false =>
   simp only [Kap,Kbs] at h |-;split at h
   . cases h
   rename_i hc;cases hl:Qbq tb f (Qss args 0) (vs++caps) (st1.M++[st1.loc]) with
   | none=>simp [hl] at h
   | some r =>
   obtain ⟨N,hN⟩:=Jpn hl;rw [hl] at h;refine ⟨N,fun n hn=>?_⟩;simp only [hc,Kbs,Kap,hN n hn];exact h
theorem Jsh {st:St} {k:K} {v:IV} {st':St} (h:ev (Qbq tb) st k=some (v,st')):∃ N,∀ n,N<=n->ev (Qb1 tb n) st k=some (v,st'):=by
 cases k with
 | call f args p=>exact Qjk h
 | callv x args =>
   simp only [ev] at h |-;split at h
   . exact Qjk h
   . cases h
 | _=>exact ⟨0,fun n _=>h⟩
theorem Jeb {st:St} {o:IOp} {st':St} (h:Qa1 (Qbq tb) st o=some st'):∃ N,∀ n,N<=n->Qa1 (Qb1 tb n) st o=some st':=by
 unfold Qa1 at h |-;have run:∀ {st'':St},(match ev (Qbq tb) st o.k with
  | some (v,st')=>match o.dst with
    | some d=>some { st' with T:=tput st'.T d v }
    | none=>some st'
  | none=>none)=some st''->∃ N,∀ n,N<=n->(match ev (Qb1 tb n) st o.k with
  | some (v,st')=>match o.dst with
    | some d=>some { st' with T:=tput st'.T d v }
    | none=>some st'
  | none=>none)=some st'':=by
  intro st'' h;cases hl:ev (Qbq tb) st o.k with
  | none=>simp [hl] at h
  | some p =>
    obtain ⟨v,s⟩:=p;obtain ⟨N,hN⟩:=Jsh hl;rw [hl] at h;exact ⟨N,fun n hn=>by rw [hN n hn];exact h⟩
 split at h
 . exact run h
 . split at h
   . split at h
     . rename_i hc;obtain ⟨N,hN⟩:=run h;refine ⟨N,fun n hn=>?_⟩;simp only [hc,if_true];exact hN n hn
     . rename_i hc;exact ⟨0,fun n _=>by simp only [hc,Kbs];exact h⟩
   . exact ⟨0,fun n _=>h⟩
   . cases h
theorem Qf6:∀ {ops:List IOp} {st st':St},Qaf (Qbq tb) st ops=some st'->∃ N,∀ n,N<=n->Qaf (Qb1 tb n) st ops=some st'
 | [],st,st',h=>⟨0,fun _ _=>h⟩
 | o::r,st,st',h=>by
   simp only [Qaf] at h |-;split at h
   . rename_i st1 h1;obtain ⟨N,hN⟩:=Jeb h1;obtain ⟨N',hN'⟩:=Qf6 h;exact ⟨max N N',fun n hn=>by simp only [hN n (by omega),hN' n (by omega)]⟩
   . cases h
theorem Qmv:∀ {ops:List IOp} {st st':St},Qaf (Qbq tb) st ops=some st'->Qg0 (Qbq tb) st ops->∃ N,∀ n,N<=n->Qg0 (Qb1 tb n) st ops
 | [],_,_,_,_=>⟨0,fun _ _=>trivial⟩
 | o::r,st,st',h,hk=>by
   simp only [Qaf] at h;split at h;rotate_left
   . cases h
   rename_i st1 h1;obtain ⟨k1,k2⟩:=hk st1 h1;obtain ⟨N,hN⟩:=Jeb h1;obtain ⟨N',hN'⟩:=Qmv h k2;refine ⟨max N N',fun n hn st2 h2=>?_⟩;rw [hN n (by omega)] at h2;cases h2;exact ⟨k1,hN' n (by omega)⟩
theorem Qu6 {ds:List Nat}:∀ {ops:List IOp} {st st':St},Qaf (Qbq tb) st ops=some st'->okX (Qbq tb) ds st ops->∃ N,∀ n,N<=n->okX (Qb1 tb n) ds st ops
 | [],_,_,_,hk=>⟨0,fun _ _=>hk⟩
 | o::r,st,st',h,hk=>by
   simp only [Qaf] at h;split at h;rotate_left
   . cases h
   rename_i st1 h1;obtain ⟨k01,k02,k⟩:=hk;obtain ⟨k1,k2⟩:=k st1 h1;obtain ⟨N,hN⟩:=Jeb h1;obtain ⟨N',hN'⟩:=Qu6 h k2;refine ⟨max N N',fun n hn=>⟨k01,k02,fun st2 h2=>?_⟩⟩;rw [hN n (by omega)] at h2;cases h2;exact ⟨k1,hN' n (by omega)⟩
theorem Qgg {ops:List IOp} {st:St} {Q:St->Prop} (h:WO tb ops st Q):∃ st',Q st'/\(∃ N,∀ n,N<=n->Qaf (Qb1 tb n) st ops=some st')/\∀ Q':St->Prop,Q' st'->WO tb ops st Q':=by
 obtain ⟨st',h1,h2⟩:=h;exact ⟨st',h2,Qf6 h1,fun Q' hQ'=>⟨st',h1,hQ'⟩⟩
def Runs (tb:Tbl) (c:IC) (st:St) (ex:Ex) (st':St):Prop:=∃ N,∀ n,N<=n->∀ m,N<=m->exec (Qb1 tb n) m c st=some (ex,st')
theorem Jt1 {st st1:St} {ops0 ops1:List IOp} (h:Qji (Qbq tb) st ops0 ops1=some st1):∃ N,∀ n,N<=n->Qji (Qb1 tb n) st ops0 ops1=some st1:=by
 unfold Qji at h |-;split at h;rotate_left
 . cases h
 split at h;rotate_left
 . cases h
 rename_i st2 h1;obtain ⟨N,hN⟩:=Qf6 h1;split at h;rotate_left
 . cases h
 rename_i xs hrd;split at h;rotate_left
 . cases h
 rename_i x hsub;obtain ⟨N2,hN2⟩:=Qf6 h;refine ⟨max N N2,fun n hn=>?_⟩;simp only [hN n (by omega),hrd,hsub];exact hN2 n (by omega)
theorem Qa8:∀ {c:IC} {st:St} {Q:Ex->St->Prop},wp tb c st Q->∃ ex st',Q ex st'/\Runs tb c st ex st'/\∀ Q':Ex->St->Prop,Q' ex st'->wp tb c st Q'
 | .skip,st,Q,h=>⟨.normal,st,h,⟨0,fun _ _ _ _=>rfl⟩,fun _ h=>h⟩
 | .exit id,st,Q,h=>⟨.exit id,st,h,⟨0,fun _ _ _ _=>rfl⟩,fun _ h=>h⟩
 | .ret,st,Q,h=>⟨.ret,st,h,⟨0,fun _ _ _ _=>rfl⟩,fun _ h=>h⟩
 | .reg ops live alts,st,Q,h=>by
   simp only [wp] at h;obtain ⟨st1,⟨h1,h2⟩,⟨N,hN⟩,h3⟩:=Qgg h;have halt:∃ N,∀ n,N<=n->∀ p ∈ alts,∃ st2,Qaf (Qb1 tb n) st (Qai ops p)=some st2/\st2.cut live=st1.cut live:=by
    clear h h3
    induction alts with
    | nil=>exact ⟨0,fun _ _ p hp=>by cases hp⟩
    | cons p ps ih =>
      obtain ⟨N1,hN1⟩:=ih (fun q hq=>h1 q (by simp [hq]));obtain ⟨st2,q1,⟨N2,hN2⟩,-⟩:=Qgg (h1 p (by simp));refine ⟨max N1 N2,fun n hn q hq=>?_⟩;rcases Kaf.1 hq with rfl | hq
      . exact ⟨st2,hN2 n (by omega),q1⟩
      . exact hN1 n (by omega) q hq
   obtain ⟨N',hN'⟩:=halt;refine ⟨.normal,st1.cut live,h2,⟨max N N',fun n hn m hm=>?_⟩,fun Q' hQ'=>?_⟩
   . simp only [exec,Quq,hN n (by omega)];rw [if_pos (hN' n (by omega))]
   . simp only [wp];exact h3 _ ⟨h1,hQ'⟩
 | .regd ops ord live alts,st,Q,h=>by
   simp only [wp] at h;obtain ⟨hn,hok,st1,h0,h1,h2⟩:=h;obtain ⟨N,hN⟩:=Qf6 h0;obtain ⟨N',hN'⟩:=Qmv h0 hok;have halt:∃ N,∀ n,N<=n->∀ p ∈ alts,Qg0 (Qb1 tb n) st (Qai ops p)/\∃ st2,Qaf (Qb1 tb n) st (Qai ops p)=some st2/\(st2.cut live).alike st.loc.length (st1.cut live):=by
    clear h2
    induction alts with
    | nil=>exact ⟨0,fun _ _ p hp=>by cases hp⟩
    | cons p ps ih =>
      obtain ⟨N1,hN1⟩:=ih (fun q hq=>h1 q (by simp [hq]));obtain ⟨g1,st2,g2,g3⟩:=h1 p (by simp);obtain ⟨N2,hN2⟩:=Qf6 g2;obtain ⟨N3,hN3⟩:=Qmv g2 g1;refine ⟨max N1 (max N2 N3),fun n hn q hq=>?_⟩;rcases Kaf.1 hq with rfl | hq
      . exact ⟨hN3 n (by omega),st2,hN2 n (by omega),g3⟩
      . exact hN1 n (by omega) q hq
   obtain ⟨N2,hN2⟩:=halt;refine ⟨.normal,st1.cut live,h2,⟨max N (max N' N2),fun n hn' m hm=>?_⟩,fun Q' hQ'=>?_⟩
   . simp only [exec,Qpu,hN n (by omega)];rw [if_pos ⟨hn,hN' n (by omega),hN2 n (by omega)⟩]
   . simp only [wp];exact ⟨hn,hok,st1,h0,h1,hQ'⟩
 | .regx ops ord live ds alts,st,Q,h=>by
   simp only [wp] at h;obtain ⟨hn,hok,st1,h0,h1,h2⟩:=h;obtain ⟨N,hN⟩:=Qf6 h0;obtain ⟨N',hN'⟩:=Qu6 h0 hok;have halt:∃ N,∀ n,N<=n->∀ p ∈ alts,okX (Qb1 tb n) ds st (Qai ops p)/\∃ st2,Qaf (Qb1 tb n) st (Qai ops p)=some st2/\st2.cut live=st1.cut live:=by
    clear h2
    induction alts with
    | nil=>exact ⟨0,fun _ _ p hp=>by cases hp⟩
    | cons p ps ih =>
      obtain ⟨N1,hN1⟩:=ih (fun q hq=>h1 q (by simp [hq]));obtain ⟨g1,st2,g2,g3⟩:=h1 p (by simp);obtain ⟨N2,hN2⟩:=Qf6 g2;obtain ⟨N3,hN3⟩:=Qu6 g2 g1;refine ⟨max N1 (max N2 N3),fun n hn q hq=>?_⟩;rcases Kaf.1 hq with rfl | hq
      . exact ⟨hN3 n (by omega),st2,hN2 n (by omega),g3⟩
      . exact hN1 n (by omega) q hq
   obtain ⟨N2,hN2⟩:=halt;refine ⟨.normal,st1.cut live,h2,⟨max N (max N' N2),fun n hn' m hm=>?_⟩,fun Q' hQ'=>?_⟩
   . simp only [exec,Qwy,hN n (by omega)];rw [if_pos ⟨hn,hN' n (by omega),hN2 n (by omega)⟩]
   . simp only [wp];exact ⟨hn,hok,st1,h0,h1,hQ'⟩
 | .regw ops s t live,st,Q,h=>by
   simp only [wp] at h;obtain ⟨st1,⟨st2,h1,h2⟩,⟨N,hN⟩,h3⟩:=Qgg h;refine ⟨.normal,st2.cut live,h2,⟨N,fun n hn m hm=>?_⟩,fun Q' hQ'=>?_⟩
   . simp only [exec,hN n hn,h1]
   . simp only [wp];exact h3 _ ⟨st2,h1,hQ'⟩
 | .seq a b,st,Q,h=>by
   simp only [wp] at h;obtain ⟨ex,st1,h1,⟨N,hN⟩,h2⟩:=Qa8 h;cases ex with
   | normal =>
     obtain ⟨ex2,st2,q1,⟨N2,hN2⟩,q2⟩:=Qa8 h1;refine ⟨ex2,st2,q1,⟨max N N2,fun n hn m hm=>?_⟩,fun Q' hQ'=>?_⟩
     . simp only [exec,hN n (by omega) m (by omega),hN2 n (by omega) m (by omega)]
     . simp only [wp];exact h2 _ (q2 _ hQ')
   | exit id =>
     refine ⟨.exit id,st1,h1,⟨N,fun n hn m hm=>?_⟩,fun Q' hQ'=>?_⟩
     . simp only [exec,hN n hn m hm]
     . simp only [wp];exact h2 _ hQ'
   | ret =>
     refine ⟨.ret,st1,h1,⟨N,fun n hn m hm=>?_⟩,fun Q' hQ'=>?_⟩
     . simp only [exec,hN n hn m hm]
     . simp only [wp];exact h2 _ hQ'
 | .cond c a b,st,Q,h=>by
   simp only [wp] at h;split at h;rotate_left
   . exact h.elim
   rename_i t ht;cases t with
   | true =>
     simp only [if_true] at h;obtain ⟨ex,st1,h1,⟨N,hN⟩,h2⟩:=Qa8 h;refine ⟨ex,st1,h1,⟨N,fun n hn m hm=>?_⟩,fun Q' hQ'=>?_⟩
     . simp only [exec,ht,if_true,hN n hn m hm]
     . simp only [wp,ht,if_true];exact h2 _ hQ'
   | false =>
     simp only [Kap,Kbs] at h;obtain ⟨ex,st1,h1,⟨N,hN⟩,h2⟩:=Qa8 h;refine ⟨ex,st1,h1,⟨N,fun n hn m hm=>?_⟩,fun Q' hQ'=>?_⟩
     . simp only [exec,ht,Kap,Kbs,hN n hn m hm]
     . simp only [wp,ht,Kap,Kbs];exact h2 _ hQ'
 | .block id b,st,Q,h=>by
   simp only [wp] at h;obtain ⟨ex,st1,h1,⟨N,hN⟩,h2⟩:=Qa8 h;cases ex with
   | normal =>
     refine ⟨.normal,st1,h1,⟨N,fun n hn m hm=>?_⟩,fun Q' hQ'=>?_⟩
     . simp only [exec,hN n hn m hm]
     . simp only [wp];exact h2 _ hQ'
   | ret =>
     refine ⟨.ret,st1,h1,⟨N,fun n hn m hm=>?_⟩,fun Q' hQ'=>?_⟩
     . simp only [exec,hN n hn m hm]
     . simp only [wp];exact h2 _ hQ'
   | exit i =>
     simp only at h1;by_cases hi:i=id
     . rw [if_pos hi] at h1;refine ⟨.normal,st1,h1,⟨N,fun n hn m hm=>?_⟩,fun Q' hQ'=>?_⟩
       . simp only [exec,hN n hn m hm,hi,if_true]
       . simp only [wp];exact h2 _ (by simp only [hi,if_true];exact hQ')
     . rw [if_neg hi] at h1;refine ⟨.exit i,st1,h1,⟨N,fun n hn m hm=>?_⟩,fun Q' hQ'=>?_⟩
       . simp only [exec,hN n hn m hm,hi,Kbs]
       . simp only [wp];exact h2 _ (by simp only [hi,Kbs];exact hQ')
 | .loop b,st,Q,h=>by
   simp only [wp] at h;obtain ⟨k,h⟩:=h;have key:∀ (k:Nat) (st:St),Qp3 (wp tb b) Q k st->∃ ex st',Q ex st'/\(∃ N,∀ n,N<=n->∀ m,N<=m->∀ j,N<=j->Jbn (exec (Qb1 tb n) m b) j st=some (ex,st'))/\∀ Q':Ex->St->Prop,Q' ex st'->Qp3 (wp tb b) Q' k st:=by
    intro k
    induction k with
    | zero=>intro st h;exact h.elim
    | succ k ih =>
      intro st h;simp only [Qp3] at h;obtain ⟨ex,st1,h1,⟨N,hN⟩,h2⟩:=Qa8 h;cases ex with
      | normal =>
        obtain ⟨ex2,st2,q1,⟨N2,hN2⟩,q2⟩:=ih st1 h1;refine ⟨ex2,st2,q1,⟨max N N2+1,fun n hn m hm j hj=>?_⟩,fun Q' hQ'=>?_⟩
        . obtain ⟨j',rfl⟩:∃ j',j=j'+1:=⟨j - 1,by omega⟩;simp only [Jbn,hN n (by omega) m (by omega),hN2 n (by omega) m (by omega) j' (by omega)]
        . simp only [Qp3];exact h2 _ (q2 _ hQ')
      | exit i =>
        refine ⟨.exit i,st1,h1,⟨N+1,fun n hn m hm j hj=>?_⟩,fun Q' hQ'=>?_⟩
        . obtain ⟨j',rfl⟩:∃ j',j=j'+1:=⟨j - 1,by omega⟩;simp only [Jbn,hN n (by omega) m (by omega)]
        . simp only [Qp3];exact h2 _ hQ'
      | ret =>
        refine ⟨.ret,st1,h1,⟨N+1,fun n hn m hm j hj=>?_⟩,fun Q' hQ'=>?_⟩
        . obtain ⟨j',rfl⟩:∃ j',j=j'+1:=⟨j - 1,by omega⟩;simp only [Jbn,hN n (by omega) m (by omega)]
        . simp only [Qp3];exact h2 _ hQ'
   obtain ⟨ex,st',q1,⟨N,hN⟩,q2⟩:=key k st h;exact ⟨ex,st',q1,⟨N,fun n hn m hm=>by simp only [exec];exact hN n hn m hm m hm⟩,fun Q' hQ'=>by simp only [wp];exact ⟨k,q2 Q' hQ'⟩⟩
 | .nilc ops x t live y,st,Q,h=>by
   simp only [wp] at h;obtain ⟨st1,h1,⟨N,hN⟩,h3⟩:=Qgg h;unfold Jlz at h1;split at h1
   . rename_i he;obtain ⟨ex,st2,q1,⟨N2,hN2⟩,q2⟩:=Qa8 h1;refine ⟨ex,st2,q1,⟨max N N2,fun n hn m hm=>?_⟩,fun Q' hQ'=>?_⟩
     . simp only [exec,Qf4,hN n (by omega),he,hN2 n (by omega) m (by omega)]
     . simp only [wp];exact h3 _ (by unfold Jlz;rw [he];exact q2 _ hQ')
   . rename_i he;obtain ⟨ex,st',h1,h2,hQ⟩:=h1;obtain ⟨_,_,⟨rfl,rfl⟩,⟨N1,hN1⟩,q1⟩:=Qa8 h1;obtain ⟨_,_,⟨rfl,rfl⟩,⟨N2,hN2⟩,q2⟩:=Qa8 h2;refine ⟨_,_,hQ,⟨max N (max N1 N2),fun n hn m hm=>?_⟩,fun Q' hQ'=>?_⟩
     . simp only [exec,Qf4,hN n (by omega),he,hN1 n (by omega) m (by omega),hN2 n (by omega) m (by omega),if_true]
     . simp only [wp];exact h3 _ (by unfold Jlz;rw [he];exact ⟨_,_,h1,h2,hQ'⟩)
   . exact h1.elim
 | .rngb ops f x g live bid p q asg body,st,Q,h=>by
   simp only [wp] at h;obtain ⟨s0,⟨es,c,xs,h1,h2,h3,h4,h5⟩,⟨N,hN⟩,hQ0⟩:=Qgg h;have key:∀ (T:Tm) (R:Ex->St->Prop) (l:List Int) (s:St),Je9 (wp tb asg) (wp tb body) T p q R l s->∃ ex s',R ex s'/\(∃ N,∀ n,N<=n->∀ m,N<=m->Qhm (exec (Qb1 tb n) m asg) (exec (Qb1 tb n) m body) T p q l s=some (ex,s')) /\
    ∀ R':Ex->St->Prop,R' ex s'->Je9 (wp tb asg) (wp tb body) T p q R' l s:=by
    intro T R l
    induction l with
    | nil=>intro s h;exact ⟨.normal,_,h,⟨0,fun _ _ _ _=>rfl⟩,fun _ h=>h⟩
    | cons x r ih =>
      intro s h;simp only [Je9] at h;obtain ⟨exa,s1,⟨rfl,hb⟩,⟨Na,hNa⟩,ha⟩:=Qa8 h;obtain ⟨exb,s2,hc,⟨Nb,hNb⟩,hb'⟩:=Qa8 hb;cases exb with
      | normal =>
        obtain ⟨ex,s',k1,⟨Nc,hNc⟩,k2⟩:=ih _ hc;refine ⟨ex,s',k1,⟨max Na (max Nb Nc),fun n hn m hm=>?_⟩,fun R' hR'=>?_⟩
        . simp only [Qhm,hNa n (by omega) m (by omega),hNb n (by omega) m (by omega),hNc n (by omega) m (by omega)]
        . simp only [Je9];exact ha _ ⟨rfl,hb' _ (k2 _ hR')⟩
      | exit e =>
        refine ⟨.exit e,_,hc,⟨max Na Nb,fun n hn m hm=>?_⟩,fun R' hR'=>?_⟩
        . simp only [Qhm,hNa n (by omega) m (by omega),hNb n (by omega) m (by omega)]
        . simp only [Je9];exact ha _ ⟨rfl,hb' _ hR'⟩
      | ret=>exact hc.elim
   obtain ⟨ex,s',k1,⟨N2,hN2⟩,k2⟩:=key _ _ _ _ h5;have fin:∀ ex' s'',(match ex with | .exit e=>(if e=bid then Ex.normal else .exit e,s') | e=>(e,s'))=(ex',s'')->Q ex' s''->∃ ex st',Q ex st'/\Runs tb (.rngb ops f x g live bid p q asg body) st ex st'/\∀ Q':Ex->St->Prop,Q' ex st'->wp tb (.rngb ops f x g live bid p q asg body) st Q':=by
    intro ex' s'' he hq;refine ⟨ex',s'',hq,⟨max N N2,fun n hn m hm=>?_⟩,fun Q' hQ'=>?_⟩
    . simp only [exec,Qqh,hN n (by omega),h1,h2];rw [if_pos ⟨h3,h4⟩,hN2 n (by omega) m (by omega)];cases ex <;> simp only [Kab] at he |- <;> (obtain ⟨rfl,rfl⟩:=he;rfl)
    . simp only [wp];refine hQ0 _ ⟨es,c,xs,h1,h2,h3,h4,k2 _ ?_⟩;cases ex <;> simp only [Kab] at he |- <;> (obtain ⟨rfl,rfl⟩:=he;exact hQ')
   cases ex with
   | normal=>exact fin _ _ rfl k1
   | exit e=>exact fin _ _ rfl k1
   | ret=>exact fin _ _ rfl k1
 | .hole,st,Q,h=>by
   simp only [wp] at h
 | .ext g,st,Q,h=>by
   simp only [wp] at h;obtain ⟨v,⟨N,h1⟩,h2⟩:=h;exact ⟨.ret,_,h2,⟨N,fun n hn m _=>by simp only [exec,h1 n hn]⟩,fun Q' hQ'=>by simp only [wp];exact ⟨v,⟨N,h1⟩,hQ'⟩⟩
 | .ubx ops0 ops1 live y,st,Q,h=>by
   simp only [wp] at h;obtain ⟨st1,h0,h1⟩:=h;obtain ⟨N,hN⟩:=Jt1 h0;obtain ⟨ex,st2,q1,⟨N2,hN2⟩,q2⟩:=Qa8 h1;refine ⟨ex,st2,q1,⟨max N N2,fun n hn m hm=>?_⟩,fun Q' hQ'=>?_⟩
   . simp only [exec,hN n (by omega)];exact hN2 n (by omega) m (by omega)
   . simp only [wp];exact ⟨st1,h0,q2 _ hQ'⟩
 | .nilc2 ops x t live y1 y2,st,Q,h=>by
   simp only [wp] at h;obtain ⟨st1,h1,⟨N,hN⟩,h3⟩:=Qgg h;have two:∀ {st:St} {Q:Ex->St->Prop},(wp tb y1 st fun ex st'=>match ex with | .normal=>wp tb y2 st' Q | e=>Q e st')->∃ ex st',Q ex st'/\(∃ N,∀ n,N<=n->∀ m,N<=m->seqX (exec (Qb1 tb n) m y1) (exec (Qb1 tb n) m y2) st=some (ex,st'))/\∀ Q':Ex->St->Prop,Q' ex st'->(wp tb y1 st fun ex st'=>match ex with | .normal=>wp tb y2 st' Q' | e=>Q' e st'):=by
    intro st Q h;obtain ⟨ex,st1,h1,⟨N,hN⟩,h2⟩:=Qa8 h;cases ex with
    | normal =>
      obtain ⟨ex2,st2,q1,⟨N2,hN2⟩,q2⟩:=Qa8 h1;exact ⟨ex2,st2,q1,⟨max N N2,fun n hn m hm=>by simp only [seqX,hN n (by omega) m (by omega),hN2 n (by omega) m (by omega)]⟩,fun Q' hQ'=>h2 _ (q2 _ hQ')⟩
    | exit id=>exact ⟨.exit id,st1,h1,⟨N,fun n hn m hm=>by simp only [seqX,hN n hn m hm]⟩,fun Q' hQ'=>h2 _ hQ'⟩
    | ret=>exact ⟨.ret,st1,h1,⟨N,fun n hn m hm=>by simp only [seqX,hN n hn m hm]⟩,fun Q' hQ'=>h2 _ hQ'⟩
   unfold Jlz at h1;split at h1
   . rename_i he;obtain ⟨ex,st2,q1,⟨N2,hN2⟩,q2⟩:=two h1;refine ⟨ex,st2,q1,⟨max N N2,fun n hn m hm=>?_⟩,fun Q' hQ'=>?_⟩
     . simp only [exec,Qf4,hN n (by omega),he];exact hN2 n (by omega) m (by omega)
     . simp only [wp];exact h3 _ (by unfold Jlz;rw [he];exact q2 _ hQ')
   . rename_i he;obtain ⟨ex,st',h1,h2,hQ⟩:=h1;obtain ⟨_,_,⟨rfl,rfl⟩,⟨N1,hN1⟩,q1⟩:=two h1;obtain ⟨_,_,⟨rfl,rfl⟩,⟨N2,hN2⟩,q2⟩:=two h2;refine ⟨_,_,hQ,⟨max N (max N1 N2),fun n hn m hm=>?_⟩,fun Q' hQ'=>?_⟩
     . simp only [exec,Qf4,hN n (by omega),he];rw [hN1 n (by omega) m (by omega),hN2 n (by omega) m (by omega)];simp
     . simp only [wp];exact h3 _ (by unfold Jlz;rw [he];exact ⟨_,_,h1,h2,hQ'⟩)
   . exact h1.elim
theorem jL {b:IC} {st:St} {Q:Ex->St->Prop} (h:wp tb b st fun ex st'=>match ex with
 | .normal=>wp tb (.loop b) st' Q
 | e=>Q e st'):wp tb (.loop b) st Q:=by
 obtain ⟨ex,st',h1,-,h2⟩:=Qa8 h;cases ex with
 | normal =>
   simp only [wp] at h1;obtain ⟨k,hk⟩:=h1;exact ⟨k+1,h2 _ hk⟩
 | exit i=>exact ⟨1,h2 _ h1⟩
 | ret=>exact ⟨1,h2 _ h1⟩
def Qd6 (f:Qar) (lent:List Nat) (st:St):Option Ret:=match st.retvs f.res with
 | some (vs,st)=>match st.backs lent with
   | some (back,st)=>st.leave (Qbt vs) back
   | none=>none
 | none=>none
theorem jC {f:Lab} {fn:Qar} (hf:tb f=some fn) {lent:List Nat} {args:List IV} {M:List Qad} {r:Ret} (hl:lent.all fn.keep.contains=true)
 (h:wp tb fn.body { T:=args.zipIdx.map fun (v,i)=>(i,v),loc:=[],M:=M } fun ex st=>(ex=.normal \/ ex=.ret)/\Qd6 fn lent st=some r):Ev tb f lent args M r:=by
 obtain ⟨ex,st',⟨h1,h2⟩,⟨N,hN⟩,-⟩:=Qa8 h;refine ⟨N+1,fun n hn=>?_⟩;obtain ⟨n',rfl⟩:∃ n',n=n'+1:=⟨n - 1,by omega⟩;simp only [Qb1,hf,Qx7,hl,Kdy,Kap,Kbs,hN n' (by omega) n' (by omega)];unfold Qd6 at h2;rcases h1 with rfl | rfl <;> exact h2
end
end Go.Idl
namespace Go.Idl
open Go
abbrev I (n:Int):IV:=.sc (.int .i64 n)
abbrev Bo (b:Bool):IV:=.sc (.bool b)
def Qb9 (xs:List Int):List (List IV):=xs.map fun n=>[I n]
section
variable {tb:Tbl} {st:St} {Q Q':Ex->St->Prop}
theorem Qm7 {ops live st1 st2} (h:Qaf (Qbq tb) st ops=some st1) (hc:st1.cut live=st2) (hq:Q .normal st2):wp tb (.reg ops live []) st Q:=by
 subst hc;exact ⟨st1,h,by simp,hq⟩
theorem Qbo {ops live b st1 st2} (h:Qaf (Qbq tb) st ops=some st1) (hc:st1.cut live=st2) (hb:wp tb b st2 Q):wp tb (.seq (.reg ops live []) b) st Q :=
 by simp only [wp];exact Qm7 (Q:=fun ex st'=>match ex with | .normal=>wp tb b st' Q | e=>Q e st') h hc hb
theorem Qhp {ops live alts b st1 st2} (h:Qaf (Qbq tb) st ops=some st1) (hc:st1.cut live=st2) (ha:∀ p ∈ alts,∃ st3,Qaf (Qbq tb) st (Qai ops p)=some st3/\st3.cut live=st2) (hb:wp tb b st2 Q):wp tb (.seq (.reg ops live alts) b) st Q:=by
 subst hc;simp only [wp];exact ⟨st1,h,ha,hb⟩
theorem Qhr {ops live alts st1 st2} (h:Qaf (Qbq tb) st ops=some st1) (hc:st1.cut live=st2) (ha:∀ p ∈ alts,∃ st3,Qaf (Qbq tb) st (Qai ops p)=some st3/\st3.cut live=st2) (hq:Q .normal st2):wp tb (.reg ops live alts) st Q:=by
 subst hc;exact ⟨st1,h,ha,hq⟩
theorem jA {a b c} (h:wp tb (.seq a (.seq b c)) st Q):wp tb (.seq (.seq a b) c) st Q:=by
 simp only [wp] at h |-;obtain ⟨ex,st1,h1,-,h2⟩:=Qa8 h;refine h2 _ ?_;cases ex <;> exact h1
theorem Jt7 {a b}:wp tb (.seq a b) st Q=wp tb a st fun ex st'=>match ex with
 | .normal=>wp tb b st' Q
 | e=>Q e st':=rfl
theorem Qab {c} (h:wp tb c st Q) (hq:∀ ex st',Q ex st'->Q' ex st'):wp tb c st Q':=by
 obtain ⟨ex,st',h1,-,h2⟩:=Qa8 h;exact h2 _ (hq _ _ h1)
end
theorem Qac {n:Int} (h:-9223372036854775808<=n) (h':n < 9223372036854775808):IntKind.i64.wrap n=n:=by
 have e1:(2:Int) ^ IntKind.i64.bits=18446744073709551616:=by decide
 have e2:(2:Int) ^ (IntKind.i64.bits - 1)=9223372036854775808:=by decide
 have e3:IntKind.i64.signed=true:=rfl;unfold IntKind.wrap;rw [e1,e2,e3];simp only [Kbx,Kai,ge_iff_le];split <;> omega
theorem Qf3 {k:IntKind} {n:Nat}:Qcc (.sc (.int k (n:Int)))=some n:=by simp [Qcc]
@[simp] theorem ints_get? (xs:List Int) (i:Nat):(Qb9 xs)[i]? = xs[i]?.map fun n=>[IV.sc (.int .i64 n)]:=by simp [Qb9]
@[simp] theorem ints_get (xs:List Int) (i:Nat) (h:i < (Qb9 xs).length):(Qb9 xs)[i]=[IV.sc (.int .i64 (xs[i]'(by simpa [Qb9] using h)))]:=by simp [Qb9]
section
variable {tb:Tbl} {st:St} {Q Q':Ex->St->Prop}
theorem jR (h:Q .ret st):wp tb .ret st Q:=h
theorem jK (h:Q .normal st):wp tb .skip st Q:=h
theorem jE {id} (h:Q (.exit id) st):wp tb (.exit id) st Q:=h
theorem Qge {c a b d t} (hc:rd st.T c=.sc (.bool t)) (h1:t=true->wp tb (.seq a d) st Q) (h2:t=false->wp tb (.seq b d) st Q):wp tb (.seq (.cond c a b) d) st Q:=by
 simp only [wp,hc] at *
 cases t
 . simpa using h2 rfl
 . simpa using h1 rfl
theorem wp_c {c a b t} (hc:rd st.T c=.sc (.bool t)) (h1:t=true->wp tb a st Q) (h2:t=false->wp tb b st Q):wp tb (.cond c a b) st Q:=by
 simp only [wp,hc] at *
 cases t
 . simpa using h2 rfl
 . simpa using h1 rfl
theorem jQ {b} (h:wp tb b st Q):wp tb (.seq .skip b) st Q:=h
theorem jX {b} (h:Q .ret st):wp tb (.seq .ret b) st Q:=h
theorem jY {id b} (h:Q (.exit id) st):wp tb (.seq (.exit id) b) st Q:=h
theorem jB {id b c} (h:wp tb b st fun ex st'=>match ex with
 | .normal=>wp tb c st' Q
 | .exit i=>if i=id then wp tb c st' Q else Q (.exit i) st'
 | .ret=>Q .ret st'):wp tb (.seq (.block id b) c) st Q:=by
 simp only [wp];refine Qab h fun ex st' hh=>?_;cases ex with
 | normal=>exact hh
 | ret=>exact hh
 | exit i =>
   simp only at hh |-;split
   . rename_i hi;rw [if_pos hi] at hh;exact hh
   . rename_i hi;rw [if_neg hi] at hh;exact hh
theorem Jaf {id b} (h:wp tb b st fun ex st'=>match ex with
 | .normal=>Q .normal st'
 | .exit i=>if i=id then Q .normal st' else Q (.exit i) st'
 | .ret=>Q .ret st'):wp tb (.block id b) st Q:=by
 simp only [wp];refine Qab h fun ex st' hh=>?_;cases ex <;> exact hh
theorem Qqy {ops x t live y1 y2 st1 b ex st'} (h:Qaf (Qbq tb) st ops=some st1) (he:Qlq (rd st1.T x)=some b) (hf:wp tb (.seq y1 y2) (st1.flag t false live) (fun e s=>e=ex/\s=st'))
 (ht:b=true->wp tb (.seq y1 y2) (st1.flag t true live) (fun e s=>e=ex/\s=st')) (hq:Q ex st'):wp tb (.nilc2 ops x t live y1 y2) st Q:=by
 simp only [wp] at *
 refine ⟨st1,h,?_⟩;unfold Jlz;cases b with
 | false =>
   rw [he];obtain ⟨e,s,⟨rfl,rfl⟩,-,h2⟩:=Qa8 (c:=.seq y1 y2) (by simp only [wp];exact hf);have:=h2 Q hq;simpa only [wp] using this
 | true=>rw [he];exact ⟨ex,st',ht rfl,hf,hq⟩
end
theorem Qw8 (xs:List Int):Qdq (Qb9 xs)=Qb9 xs:=by
 induction xs with
 | nil=>rfl
 | cons x xs ih=>simp only [Qb9,Kbd,Qdq,Qe4,Qol] at *;rw [ih]
attribute [simp] Qaf Qa1 ev rd Qav Jf1 Jpe tput IV.holds tk cv cv1 Jm9 restrict kl kl1 klc rootOut IV.rooted Qce Qa3 dropSlot St.cut Qg6 Qdn pack sub Qf3 bound Jfh St.sview St.plc St.rcells IV.cells fol St.loadCells Qlq St.flag putI Qai isSc IV.isSc IV.plain1 IV.plain IV.isOwn
@[simp] theorem Qxi (xs:List Int):(Qb9 xs).length=xs.length:=by simp [Qb9]
@[simp] theorem Qkw:Qb9 []=[]:=rfl
@[simp] theorem ints_app (xs ys:List Int):Qb9 xs++Qb9 ys=Qb9 (xs++ys):=by simp [Qb9]
@[simp] theorem ints_one (xs:List Int) (n:Int):Qb9 xs++[[IV.sc (.int .i64 n)]]=Qb9 (xs++[n]):=by simp [Qb9]
@[simp] theorem ints_set (xs:List Int) (i:Nat) (v:Int):(Qb9 xs).set i [IV.sc (.int .i64 v)]=Qb9 (xs.set i v):=by
  simp [Qb9,Ker]
@[simp] theorem ints_take (xs:List Int) (n:Nat):(Qb9 xs).take n=Qb9 (xs.take n):=by simp [Qb9,List.map_take]
@[simp] theorem ints_drop (xs:List Int) (n:Nat):(Qb9 xs).drop n=Qb9 (xs.drop n):=by simp [Qb9,List.map_drop]
@[simp] theorem ints_emp (xs:List Int):(Qb9 xs).isEmpty=xs.isEmpty:=by cases xs <;> rfl
@[simp] theorem ints_all1 (xs:List Int):((Qb9 xs).all fun x=>x.all IV.plain1)=true:=by
  induction xs with
  | nil=>rfl
  | cons x xs ih=>simp only [Qb9,Kbd,Kcj] at *;rw [ih];rfl
@[simp] theorem ints_all2 (xs:List Int):((Qb9 xs).all fun x=>x.all IV.isData)=true:=by
  induction xs with
  | nil=>rfl
  | cons x xs ih=>simp only [Qb9,Kbd,Kcj] at *;rw [ih];rfl
@[simp] theorem Qzl (xs:List Int):Qb7 (Qb9 xs)=true:=by
  induction xs with
  | nil=>rfl
  | cons x xs ih=>simp only [Qb9,Kbd,Qb7,Qbl,Qcr] at *;rw [ih];rfl
@[simp] theorem natOf_succ {k:IntKind} {n:Nat}:Qcc (.sc (.int k ((n:Int)+1)))=some (n+1):=Qf3 (n:=n+1)
@[simp] theorem natOf_zero {k:IntKind}:Qcc (.sc (.int k 0))=some 0:=rfl
@[simp] theorem natOf_one {k:IntKind}:Qcc (.sc (.int k 1))=some 1:=rfl
@[simp] theorem limF_ev {tb:Tbl} {f lent args M r} (h:Ev tb f lent args M r):Qbq tb f lent args M=some r:=Qaa h
theorem Jf6 {n:Nat} (h:n < 9223372036854775808):IntKind.i64.wrap (n:Int)=(n:Int):=Qac (by omega) (by omega)
theorem Qas {n:Nat} (h:n+1 < 9223372036854775808):IntKind.i64.wrap ((n:Int)+1)=((n+1:Nat):Int):=by
 rw [Qac (by omega) (by omega)];rfl
attribute [simp] ownZ IV.isBack Qg9 scEq Qe9 St.fillElems Qae St.news St.append IV.wcells lim fillCells IV.okPart tkKill St.storeCells St.callWith St.args St.args1 St.arg1 Qfe St.args2 St.arg2 St.seen St.seens St.lentBack IV.free IV.free1 Qss isLd Qcr Qbl Qb7 Qol Qe4 Qdq Qw8 Qek IV.isBptr Qae
@[simp] theorem getLast_ca {α} (a x:α) (m:List α):(a::(m++[x])).getLast? = some x:=by
  rw [<- Kbk,List.getLast?_append];rfl
@[simp] theorem Jr7 {α} (a x:α) (m:List α):(a::(m++[x])).dropLast=a::m:=by
  rw [<- Kbk,List.dropLast_concat]
@[simp] theorem unary_not (b:Bool):Op.unary .not (.bool b)=.pure (.bool !b):=rfl
attribute [simp] Qc0 IV.rootB
attribute [simp] Qyk Qji
attribute [simp] Qd6 St.retvs St.retv Qbt St.backs St.leave St.absorb St.absorbs St.absorbsK killOf IV.lvl Qzx IV.okLvl IV.isData St.setPlc Qbv Quz splice St.box St.setBox
def Qub (st:St):Option Nat->Bool
 | some d=>(Qav st.T d).holds
 | none=>false
def Qd5 (cf:CF):St->List IOp->Option St
 | st,[]=>some st
 | st,o::r=>match Qa1 cf st o with
   | some st1=>if (Qio o.k && Qub st1 o.dst)=true then none else Qd5 cf st1 r
   | none=>none
theorem Qpt {cf:CF}:∀ {ops:List IOp} {st s:St},Qd5 cf st ops=some s->Qaf cf st ops=some s/\Qg0 cf st ops
 | [],st,s,h=>⟨h,trivial⟩
 | o::r,st,s,h=>by
   simp only [Qd5] at h;simp only [Qaf];split at h;rotate_left
   . cases h
   rename_i st1 h1;simp only [h1];split at h
   . cases h
   rename_i hq;obtain ⟨q1,q2⟩:=Qpt h;refine ⟨q1,fun st2 h2=>?_⟩;rw [h1] at h2;cases h2;refine ⟨fun hk d hd=>?_,q2⟩;simp only [hk,hd,Kbx,Kep,Qub] at hq;exact hq
section
variable {tb:Tbl} {st:St} {Q:Ex->St->Prop}
theorem wp_rdw {ops ord live alts st1 st2} (hn:Qlb st ops=true) (h:Qd5 (Qbq tb) st (Qai ops ord)=some st1) (hc:st1.cut live=st2) (ha:∀ p ∈ alts,∃ st3,Qd5 (Qbq tb) st (Qai ops p)=some st3/\(st3.cut live).alike st.loc.length st2) (hq:Q .normal st2):wp tb (.regd ops ord live alts) st Q:=by
 subst hc;obtain ⟨h1,h2⟩:=Qpt h;refine ⟨hn,h2,st1,h1,fun p hp=>?_,hq⟩;obtain ⟨st3,g1,g2⟩:=ha p hp;obtain ⟨g3,g4⟩:=Qpt g1;exact ⟨g4,st3,g3,g2⟩
theorem Qhq {ops ord live alts b st1 st2} (hn:Qlb st ops=true) (h:Qd5 (Qbq tb) st (Qai ops ord)=some st1) (hc:st1.cut live=st2) (ha:∀ p ∈ alts,∃ st3,Qd5 (Qbq tb) st (Qai ops p)=some st3/\(st3.cut live).alike st.loc.length st2) (hb:wp tb b st2 Q):wp tb (.seq (.regd ops ord live alts) b) st Q:=by
 simp only [Jt7];exact wp_rdw (Q:=fun ex st'=>match ex with | .normal=>wp tb b st' Q | e=>Q e st') hn h hc ha hb
end
attribute [simp] Qd5 Qdt Qio Qff Qub nrV nrA nr1 effOk Jr9 Jd6 noArr Jd5 effK qX unV Jdl
section
variable {tb:Tbl} {st:St} {Q:Ex->St->Prop}
theorem wr {ops live b st1 st2} (h:Qaf (Qbq tb) st ops=some st1) (hb:wp tb b st2 Q) (hc:st1.cut live=st2:=by simp;with_reducible rfl):wp tb (.seq (.reg ops live []) b) st Q:=Qbo h hc hb
theorem wq {ops live st1 st2} (h:Qaf (Qbq tb) st ops=some st1) (hq:Q .normal st2) (hc:st1.cut live=st2:=by simp;with_reducible rfl):wp tb (.reg ops live []) st Q:=Qm7 h hc hq
theorem wt {c a b d} (hc:rd st.T c=.sc (.bool true)) (h:wp tb (.seq a d) st Q):wp tb (.seq (.cond c a b) d) st Q:=Qge (t:=true) hc (fun _=>h) (fun h=>nomatch h)
theorem wf {c a b d} (hc:rd st.T c=.sc (.bool false)) (h:wp tb (.seq b d) st Q):wp tb (.seq (.cond c a b) d) st Q:=Qge (t:=false) hc (fun h=>nomatch h) (fun _=>h)
theorem xt {c a b} (hc:rd st.T c=.sc (.bool true)) (h:wp tb a st Q):wp tb (.cond c a b) st Q:=wp_c (t:=true) hc (fun _=>h) (fun h=>nomatch h)
theorem xf {c a b} (hc:rd st.T c=.sc (.bool false)) (h:wp tb b st Q):wp tb (.cond c a b) st Q:=wp_c (t:=false) hc (fun h=>nomatch h) (fun _=>h)
end
section
variable {tb:Tbl} {st:St} {Q:Ex->St->Prop}
theorem gor {ops live b st1 st2} (h:Qaf (Qbq tb) st ops=some st1) (hc:st1.cut live=st2):wp tb b st2 Q->wp tb (.seq (.reg ops live []) b) st Q:=Qbo h hc
theorem goq {ops live st1 st2} (h:Qaf (Qbq tb) st ops=some st1) (hc:st1.cut live=st2):Q .normal st2->wp tb (.reg ops live []) st Q:=Qm7 h hc
theorem got {c a b d} (hc:rd st.T c=.sc (.bool true)):wp tb (.seq a d) st Q->wp tb (.seq (.cond c a b) d) st Q:=wt hc
theorem gof {c a b d} (hc:rd st.T c=.sc (.bool false)):wp tb (.seq b d) st Q->wp tb (.seq (.cond c a b) d) st Q:=wf hc
theorem gxt {c a b} (hc:rd st.T c=.sc (.bool true)):wp tb a st Q->wp tb (.cond c a b) st Q:=xt hc
theorem gxf {c a b} (hc:rd st.T c=.sc (.bool false)):wp tb b st Q->wp tb (.cond c a b) st Q:=xf hc
end
theorem go0 {P R:Prop} (k:R) (h:R->P:=by first | exact jA | exact jQ | exact gor (by simp;with_reducible rfl) (by simp;with_reducible rfl) | exact goq (by simp;with_reducible rfl) (by simp;with_reducible rfl) | exact got (by simpa) | exact gof (by simpa) | exact gxt (by simpa) | exact gxf (by simpa) | exact jB | exact Jaf | exact jX | exact jY | exact jR | exact jK | exact jE):P:=h k
theorem go1 {P R:Prop} (k:R) (h:R->P:=by first | exact jA | exact jQ | exact gor (by simp [Hq];with_reducible rfl) (by simp;with_reducible rfl) | exact goq (by simp [Hq];with_reducible rfl) (by simp;with_reducible rfl) | exact got (by simpa [Hq]) | exact gof (by simpa [Hq]) | exact gxt (by simpa [Hq]) | exact gxf (by simpa [Hq]) | exact jB | exact Jaf | exact jX | exact jY | exact jR | exact jK | exact jE):P:=h k
theorem cj2 {A0 A1:Prop} (a0:A0) (a1:A1):A0/\A1:=⟨a0,a1⟩
theorem cj3 {A0 A1 A2:Prop} (a0:A0) (a1:A1) (a2:A2):A0/\A1/\A2:=⟨a0,a1,a2⟩
theorem cj4 {A0 A1 A2 A3:Prop} (a0:A0) (a1:A1) (a2:A2) (a3:A3):A0/\A1/\A2/\A3:=⟨a0,a1,a2,a3⟩
theorem cj5 {A0 A1 A2 A3 A4:Prop} (a0:A0) (a1:A1) (a2:A2) (a3:A3) (a4:A4):A0/\A1/\A2/\A3/\A4:=⟨a0,a1,a2,a3,a4⟩
theorem cj6 {A0 A1 A2 A3 A4 A5:Prop} (a0:A0) (a1:A1) (a2:A2) (a3:A3) (a4:A4) (a5:A5):A0/\A1/\A2/\A3/\A4/\A5:=⟨a0,a1,a2,a3,a4,a5⟩
theorem cj7 {A0 A1 A2 A3 A4 A5 A6:Prop} (a0:A0) (a1:A1) (a2:A2) (a3:A3) (a4:A4) (a5:A5) (a6:A6):A0/\A1/\A2/\A3/\A4/\A5/\A6:=⟨a0,a1,a2,a3,a4,a5,a6⟩
theorem cj8 {A0 A1 A2 A3 A4 A5 A6 A7:Prop} (a0:A0) (a1:A1) (a2:A2) (a3:A3) (a4:A4) (a5:A5) (a6:A6) (a7:A7):A0/\A1/\A2/\A3/\A4/\A5/\A6/\A7:=⟨a0,a1,a2,a3,a4,a5,a6,a7⟩
theorem cj9 {A0 A1 A2 A3 A4 A5 A6 A7 A8:Prop} (a0:A0) (a1:A1) (a2:A2) (a3:A3) (a4:A4) (a5:A5) (a6:A6) (a7:A7) (a8:A8):A0/\A1/\A2/\A3/\A4/\A5/\A6/\A7/\A8:=⟨a0,a1,a2,a3,a4,a5,a6,a7,a8⟩
theorem Qri {A0 A1 A2 A3 A4 A5 A6 A7 A8 A9:Prop} (a0:A0) (a1:A1) (a2:A2) (a3:A3) (a4:A4) (a5:A5) (a6:A6) (a7:A7) (a8:A8) (a9:A9):A0/\A1/\A2/\A3/\A4/\A5/\A6/\A7/\A8/\A9:=⟨a0,a1,a2,a3,a4,a5,a6,a7,a8,a9⟩
theorem Qtv {A0 A1 A2 A3 A4 A5 A6 A7 A8 A9 A10:Prop} (a0:A0) (a1:A1) (a2:A2) (a3:A3) (a4:A4) (a5:A5) (a6:A6) (a7:A7) (a8:A8) (a9:A9) (a10:A10):A0/\A1/\A2/\A3/\A4/\A5/\A6/\A7/\A8/\A9/\A10:=⟨a0,a1,a2,a3,a4,a5,a6,a7,a8,a9,a10⟩
theorem Qwo {A0 A1 A2 A3 A4 A5 A6 A7 A8 A9 A10 A11:Prop} (a0:A0) (a1:A1) (a2:A2) (a3:A3) (a4:A4) (a5:A5) (a6:A6) (a7:A7) (a8:A8) (a9:A9) (a10:A10) (a11:A11):A0/\A1/\A2/\A3/\A4/\A5/\A6/\A7/\A8/\A9/\A10/\A11:=⟨a0,a1,a2,a3,a4,a5,a6,a7,a8,a9,a10,a11⟩
theorem Jrz {A0 A1 A2 A3 A4 A5 A6 A7 A8 A9 A10 A11 A12:Prop} (a0:A0) (a1:A1) (a2:A2) (a3:A3) (a4:A4) (a5:A5) (a6:A6) (a7:A7) (a8:A8) (a9:A9) (a10:A10) (a11:A11) (a12:A12):A0/\A1/\A2/\A3/\A4/\A5/\A6/\A7/\A8/\A9/\A10/\A11/\A12:=⟨a0,a1,a2,a3,a4,a5,a6,a7,a8,a9,a10,a11,a12⟩
theorem cj14 {A0 A1 A2 A3 A4 A5 A6 A7 A8 A9 A10 A11 A12 A13:Prop} (a0:A0) (a1:A1) (a2:A2) (a3:A3) (a4:A4) (a5:A5) (a6:A6) (a7:A7) (a8:A8) (a9:A9) (a10:A10) (a11:A11) (a12:A12) (a13:A13):A0/\A1/\A2/\A3/\A4/\A5/\A6/\A7/\A8/\A9/\A10/\A11/\A12/\A13:=⟨a0,a1,a2,a3,a4,a5,a6,a7,a8,a9,a10,a11,a12,a13⟩
theorem cj15 {A0 A1 A2 A3 A4 A5 A6 A7 A8 A9 A10 A11 A12 A13 A14:Prop} (a0:A0) (a1:A1) (a2:A2) (a3:A3) (a4:A4) (a5:A5) (a6:A6) (a7:A7) (a8:A8) (a9:A9) (a10:A10) (a11:A11) (a12:A12) (a13:A13) (a14:A14):A0/\A1/\A2/\A3/\A4/\A5/\A6/\A7/\A8/\A9/\A10/\A11/\A12/\A13/\A14:=⟨a0,a1,a2,a3,a4,a5,a6,a7,a8,a9,a10,a11,a12,a13,a14⟩
theorem cj17 {A0 A1 A2 A3 A4 A5 A6 A7 A8 A9 A10 A11 A12 A13 A14 A15 A16:Prop} (a0:A0) (a1:A1) (a2:A2) (a3:A3) (a4:A4) (a5:A5) (a6:A6) (a7:A7) (a8:A8) (a9:A9) (a10:A10) (a11:A11) (a12:A12) (a13:A13) (a14:A14) (a15:A15) (a16:A16):A0/\A1/\A2/\A3/\A4/\A5/\A6/\A7/\A8/\A9/\A10/\A11/\A12/\A13/\A14/\A15/\A16:=⟨a0,a1,a2,a3,a4,a5,a6,a7,a8,a9,a10,a11,a12,a13,a14,a15,a16⟩
theorem cj18 {A0 A1 A2 A3 A4 A5 A6 A7 A8 A9 A10 A11 A12 A13 A14 A15 A16 A17:Prop} (a0:A0) (a1:A1) (a2:A2) (a3:A3) (a4:A4) (a5:A5) (a6:A6) (a7:A7) (a8:A8) (a9:A9) (a10:A10) (a11:A11) (a12:A12) (a13:A13) (a14:A14) (a15:A15) (a16:A16) (a17:A17):A0/\A1/\A2/\A3/\A4/\A5/\A6/\A7/\A8/\A9/\A10/\A11/\A12/\A13/\A14/\A15/\A16/\A17:=⟨a0,a1,a2,a3,a4,a5,a6,a7,a8,a9,a10,a11,a12,a13,a14,a15,a16,a17⟩
theorem cj19 {A0 A1 A2 A3 A4 A5 A6 A7 A8 A9 A10 A11 A12 A13 A14 A15 A16 A17 A18:Prop} (a0:A0) (a1:A1) (a2:A2) (a3:A3) (a4:A4) (a5:A5) (a6:A6) (a7:A7) (a8:A8) (a9:A9) (a10:A10) (a11:A11) (a12:A12) (a13:A13) (a14:A14) (a15:A15) (a16:A16) (a17:A17) (a18:A18):A0/\A1/\A2/\A3/\A4/\A5/\A6/\A7/\A8/\A9/\A10/\A11/\A12/\A13/\A14/\A15/\A16/\A17/\A18:=⟨a0,a1,a2,a3,a4,a5,a6,a7,a8,a9,a10,a11,a12,a13,a14,a15,a16,a17,a18⟩
end Go.Idl
namespace Go.Idl
def Qfy:List (List IV)->Option (List ByteArray)
 | []=>some []
 | [.sc (.string s)]::r=>match Qfy r with
   | some l=>some (s::l)
   | none=>none
 | _=>none
def Qfx:List (List IV)->Option (List UInt8)
 | []=>some []
 | [.sc (.int .i64 x)]::r=>if 0<=x/\x < 10 then (match Qfx r with
   | some l=>some (UInt8.ofNat (48+x.toNat)::l)
   | none=>none) else none
 | _=>none
def Qhi (sep:List UInt8):List (List UInt8)->List UInt8
 | []=>[]
 | x::r=>x++(r.map (sep++·)).flatten
def Qa4:List IV->Option IV
 | [.lst 1 es _,.sc (.string sep)]=>match Qfy es with
   | some xs=>if xs.length<=1000000/\(Qhi sep.data.toList (xs.map fun s=>s.data.toList)).length<=1000000000 then some (.sc (.string ⟨(Qhi sep.data.toList (xs.map fun s=>s.data.toList)).toArray⟩)) else none
   | none=>none
 | [.lst _ [] _,.sc (.string _)]=>some (.sc (.string ⟨#[]⟩))
 | _=>none
def Qbi:List IV->Option IV
 | [.lst 1 es _]=>if es.length<=1000 then (match Qfx es with
   | some l=>some (.sc (.string ⟨l.toArray⟩))
   | none=>none) else none
 | [.lst _ [] _]=>some (.sc (.string ⟨#[]⟩))
 | _=>none
def Qbs:List IV->Option IV
 | [.sc (.string s),.sc (.string ⟨⟨[c]⟩⟩)]=>some (.sc (.int .i64 (Go.Lib.indexByte s.data.toList c)))
 | _=>none
def Qaq:List IV->Option IV
 | [.sc (.string s),.sc (.string ⟨⟨[c]⟩⟩)]=>some (.sc (.int .i64 (Go.Lib.indexByte s.data.toList c)))
 | _=>none
def Qbr:List IV->Option IV
 | [.sc (.string s),.sc (.string ⟨⟨[c]⟩⟩)]=>some (.sc (.int .i64 (Go.Lib.countByte s.data.toList c)))
 | _=>none
def Qmb (l:Lab) (cf:CF):List (List IV)->Option (List UInt8)
 | []=>some []
 | [.sc (.string s)]::r=>match cf l [] [.sc (.string s)] [] with
   | some ⟨.sc (.string t),[],[],[]⟩=>if t.size<=1000000 then (match Qmb l cf r with
     | some x=>some (t.data.toList++10::x)
     | none=>none) else none
   | _=>none
 | _=>none
def Qa9 (l:Lab) (cf:CF):List IV->Option IV
 | [.lst e es _]=>if 20 < es.length then some (.sc (.string ByteArray.empty)) else if e=1 \/ es=[] then (match Qmb l cf es with
   | some x=>some (.sc (.string ⟨x.toArray⟩))
   | none=>none) else none
 | _=>none
end Go.Idl
namespace Go.Idl
open Go
section
variable {cx:Cx} {w w':World} {F:Nat->Prop} {ρ:Rho} {fp:Fp} {args:List IV} {M:List Qad} {vs:List Value}
theorem Qrc (s:Nat):Qav (Qbp args M).T s=args.getD s .un:=by
 have:=Qov (xs:=args) s 0;simpa [Qbp] using this
theorem Qmc {u:Value} (M:List Qad):Qwz (.sc u) M=some ⟨.sc u,[],M,[]⟩:=by
 simp [Qwz,St.retvs,St.retv,Qav,kl,kl1,klc,IV.rooted,St.absorb,St.backs,Qbt,St.leave,IV.lvl,dropSlot,Qce,Qa3]
theorem Qg1 (hR:Rel cx w F ρ fp [] (Qbp args M) (Qeh vs)) (hl:vs.length=args.length) {i:Nat} {u:Value} (h:args[i]? = some (.sc u)):vs[i]? = some u:=by
 have hs:=hR.slots i;have hg:Qav (Qbp args M).T i=.sc u:=by rw [Qrc,Kad,h];rfl
 rw [hg] at hs;have h1:=(Qbd hs).1;have hi:i < vs.length:=by rw [hl];exact (Kak.1 h).1
 rw [Kag hi];simp only [Qeh,Kad,Kag hi,Kdf] at h1;rw [h1]
theorem Qi0 (hR:Rel cx w F ρ fp [] (Qbp args M) (Qeh vs)) (hl:vs.length=args.length) {i e:Nat} {es:List (List IV)} {c:Bool} (h:args[i]? = some (.lst e es c)) :
 (es=[]/\∃ a cap,vs[i]? = some (.slice a 0 cap)) \/ ∃ b o cap C ty fr,vs[i]? = some (.slice (some ⟨b,o,none⟩) es.length cap)/\es.length<=cap/\w.heap[b]? = some (.cells C ty fr) /\
   RDs w F es.flatten ((C.toList.drop o).take (es.length * e)) []:=by
 have hs:=hR.slots i;have hg:Qav (Qbp args M).T i=.lst e es c:=by rw [Qrc,Kad,h];rfl
 rw [hg] at hs;have hi:i < vs.length:=by rw [hl];exact (Kak.1 h).1
 have hv:vs[i]? = some (Qeh vs i):=by
  rw [Kag hi];simp only [Qeh,Kad,Kag hi,Kdf]
 rw [hv];generalize Qeh vs i=u at hs;rcases hs with ⟨h1,_⟩ | h1
 . exact h1.elim
 . cases h1 with
   | lst0=>exact .inl ⟨rfl,_,_,rfl⟩
   | lst hF hb hd he hc hn t=>exact .inr ⟨_,_,_,_,_,_,rfl,hn,hb,hd⟩
theorem Qjg {u:Value} (hu:Idl.isSc u=true) (hR:Rel cx w F ρ fp [] (Qbp args M) (Qeh vs)) (hB:RowKit.Below w.heap.size w w'):Qfp cx w F ρ fp M [] vs ⟨.sc u,[],M,[]⟩ (.returned u) w':=by
 have hk:∀ b,b < w.heap.size->w'.heap[b]? = w.heap[b]?:=hB.block;obtain ⟨hR',-⟩:=hR.grow (w':=w') (fun b hb _=>hk b hb) hB.size (Y:=[]) .nil (by simp);have hR':Rel cx w' F ρ fp [] (Qbp args M) (Qeh vs):=by simpa using hR'
 have hbox:∀ l k,(Qb4 ⟨.sc u,[],M,[]⟩).box l k=(Qbp args M).box l k:=fun l k=>rfl
 let fp':Fp:=fun r=>match r with
  | .S _=>[]
  | .B l k=>fp (.B l k)
 have hsub:∀ r,∀ b ∈ fp' r,b ∈ fp r:=fun r b hb=>by
  cases r with
  | S s=>cases hb
  | B l k=>exact hb
 have tr:Tr w' F ρ (Qbp args M) (fun _ _=>none) w' F ρ (Qb4 ⟨.sc u,[],M,[]⟩) (fun _ _=>none) (fun _ _ _=>False):=⟨fun _ _ _ h=>h.elim,fun _ _=>rfl,fun _ h=>h,fun l k h=>⟨rfl,h⟩⟩;refine ⟨u,F,ρ,fp',[],rfl,⟨fun s=>?_,fun l k cs hb=>?_,fun l k hb=>?_,fun r=>?_,fun r r' hne b hb hb'=>hR'.disj r r' hne b (hsub r b hb) (hsub r' b hb'),fun r b hb=>hR'.notF r b (hsub r b hb),
  fun r b hb=>hR'.lt r b (hsub r b hb),hR'.Flt,Kez,fun _ _ _=>by simp,fun _ hb=>(by cases hb),fun _ hb=>(by cases hb)⟩,⟨hB.size,fun b hb _ _=>hk b hb,fun r b hb=>.inl ⟨r,hsub r b hb⟩,fun b hb=>(by cases hb),fun _ h=>h,fun _ h=>.inl h,fun _ _ _=>rfl,⟨hB.os,hB.tape,hB.output⟩⟩,rfl,rfl,rfl,rfl⟩
 . show Qa6 cx w' F ρ _ _ (Qav [(0,.sc u)] s) (Qqf u s) [];simp only [Qav,Qqf];by_cases h0:s=0
   . subst h0;simp only [if_true];exact .inr (.sc hu .nil)
   . rw [if_neg (fun h=>h0 h.symm)];exact Qk5
 . rw [hbox] at hb;obtain ⟨C,ty,f0,k1,k2,k3⟩:=hR'.boxes l k cs hb;exact ⟨C,ty,f0,k1,k2,k3.mono fun x v f _ hx _=>hx.tr tr (fun _ _=>rfl)⟩
 . rw [hbox] at hb;exact hR'.nobox l k hb
 . cases r with
   | S s=>exact Kez
   | B l k=>exact hR'.nodup (.B l k)
theorem Qic {f:Lab} {g:List IV->Option IV} (hent:Qef cx.P (cx.fid f))
 (h:∀ args v,g args=some v->∃ u,v=.sc u/\Idl.isSc u=true/\∀ (M:List Qad) (w:World) (F:Nat->Prop) (ρ:Rho) (fp:Fp) (vs:List Value),vs.length=args.length->Rel cx w F ρ fp [] (Qbp args M) (Qeh vs) ->
   Calls cx.P (cx.fid f) vs.toArray w (fun e w'=>e=.returned u/\RowKit.Below w.heap.size w w')):Qfo cx f ⟨[.t 0],[],.ext fun _=>g⟩:=by
 refine ⟨fun _=>g,rfl,hent,fun _ _ args v hv=>?_⟩;obtain ⟨u,rfl,hu,hc⟩:=h args v hv;refine ⟨Qmc,fun M w F ρ fp vs hl hR=>(hc M w F ρ fp vs hl hR).mono ?_⟩;rintro e w' ⟨rfl,hB⟩;exact Qjg hu hR hB
end
end Go.Idl
namespace Go.Idl
open Go Go.Proofs Go.Shelf
theorem Qfd {vs:List Value} {a b:Value} (hl:vs.length=2) (h0:vs[0]? = some a) (h1:vs[1]? = some b):vs=[a,b]:=by
 match vs,hl with
 | [x,y],_ =>
   simp at h0 h1;rw [h0,h1]
theorem Qqa {vs:List Value} {a:Value} (hl:vs.length=1) (h0:vs[0]? = some a):vs=[a]:=by
 match vs,hl with
 | [x],_ =>
   simp at h0;rw [h0]
theorem Jaa {args:List IV} {v:IV} (h:Qbs args=some v):∃ s c,args=[.sc (.string s),.sc (.string ⟨#[c]⟩)]/\v=.sc (.int .i64 (Go.Lib.indexByte s.data.toList c)):=by
 unfold Qbs at h;split at h
 . rename_i s c;exact ⟨s,c,rfl,(Kda h).symm⟩
 . cases h
theorem Qzo {args:List IV} {v:IV} (h:Qaq args=some v):∃ s c,args=[.sc (.string s),.sc (.string ⟨#[c]⟩)]/\v=.sc (.int .i64 (Go.Lib.indexByte s.data.toList c)):=by
 unfold Qaq at h;split at h
 . rename_i s c;exact ⟨s,c,rfl,(Kda h).symm⟩
 . cases h
theorem Qz9 {args:List IV} {v:IV} (h:Qbr args=some v):∃ s c,args=[.sc (.string s),.sc (.string ⟨#[c]⟩)]/\v=.sc (.int .i64 (Go.Lib.countByte s.data.toList c)):=by
 unfold Qbr at h;split at h
 . rename_i s c;exact ⟨s,c,rfl,(Kda h).symm⟩
 . cases h
section
variable {cx:Cx} {ρ:Ren} {f:Lab}
theorem Qsb (L:Lays.n143 cx.P ρ) (hf:cx.fid f=ρ.f 143):Qfo cx f ⟨[.t 0],[],.ext fun _=>Qbs⟩:=by
 refine Qic ⟨_,by rw [hf];exact L.f143,by kernel_rfl,by kernel_rfl⟩ fun args v h=>?_;obtain ⟨s,c,rfl,rfl⟩:=Jaa h;refine ⟨_,rfl,rfl,fun M w F ρ' fp vs hl hR=>?_⟩;obtain rfl:=Qfd hl (Qg1 hR hl (i:=0) rfl) (Qg1 hR hl (i:=1) rfl);rw [hf];exact (Any.strings_Index_one L s c w).mono fun e w' ⟨he,hw⟩=>⟨he,hw ▸ RowKit.Below.refl _ _⟩
theorem Qr9 (L:Lays.n219 cx.P ρ) (hf:cx.fid f=ρ.f 219):Qfo cx f ⟨[.t 0],[],.ext fun _=>Qaq⟩:=by
 refine Qic ⟨_,by rw [hf];exact L.f219,by kernel_rfl,by kernel_rfl⟩ fun args v h=>?_;obtain ⟨s,c,rfl,rfl⟩:=Qzo h;refine ⟨_,rfl,rfl,fun M w F ρ' fp vs hl hR=>?_⟩;obtain rfl:=Qfd hl (Qg1 hR hl (i:=0) rfl) (Qg1 hR hl (i:=1) rfl);rw [hf];exact (Any.stringslite_Index_one L s c w).mono fun e w' ⟨he,hw⟩=>⟨he,hw ▸ RowKit.Below.refl _ _⟩
theorem Qsa (L:Lays.n138 cx.P ρ) (hf:cx.fid f=ρ.f 138):Qfo cx f ⟨[.t 0],[],.ext fun _=>Qbr⟩:=by
 refine Qic ⟨_,by rw [hf];exact L.f138,by kernel_rfl,by kernel_rfl⟩ fun args v h=>?_;obtain ⟨s,c,rfl,rfl⟩:=Qz9 h;refine ⟨_,rfl,rfl,fun M w F ρ' fp vs hl hR=>?_⟩;obtain rfl:=Qfd hl (Qg1 hR hl (i:=0) rfl) (Qg1 hR hl (i:=1) rfl);rw [hf];exact (Any.strings_Count_one L s c w).mono fun e w' ⟨he,hw⟩=>⟨he,hw ▸ RowKit.Below.refl _ _⟩
theorem Qxj (sep:List UInt8):∀ xs:List (List UInt8),Go.Lib.join xs sep=Qhi sep xs
 | []=>rfl
 | x::r=>by rw [Go.Lib.join_cons];rfl
theorem Qo8 {w:World} {F:Nat->Prop}:∀ {es:List (List IV)} {us vs:List Value},es=us.map (fun u=>[.sc u])->RDs w F es.flatten vs []->vs=us
 | _,[],vs,rfl,h=>by cases h;rfl
 | _,u::us,vs,rfl,h=>by
   have h:RDs w F (.sc u::(us.map fun u=>[IV.sc u]).flatten) vs []:=h;cases h with
   | sc _ t=>rw [Qo8 rfl t]
theorem Qmd:∀ {es:List (List IV)} {xs:List ByteArray},Qfy es=some xs->es=(xs.map Value.string).map fun u=>[.sc u]
 | [],xs,h=>by simp [Qfy] at h;subst h;rfl
 | e::es,xs,h=>by
   unfold Qfy at h;split at h
   . rename_i heq;cases heq
   . rename_i s r heq;simp only [Ket] at heq;obtain ⟨rfl,rfl⟩:=heq;split at h
     . rename_i l hl;simp only [Kaa] at h;subst h;rw [Qmd hl];rfl
     . cases h
   . cases h
theorem Qs9 {w:World} {b o:Nat} {C:Array Value} {ty:TypeId} {fr:Nat×Nat} (hb:w.heap[b]? = some (.cells C ty fr)) {us:List Value} (h:(C.toList.drop o).take us.length=us) (j:Nat) (u:Value) (hj:us[j]? = some u) :
 w.cell? ⟨b,o+j,none⟩=some u:=by
 rw [Qau hb];have hjl:j < us.length:=(Kak.1 hj).1;rw [<- h,Kbg hjl,Kbp] at hj;simpa using hj
theorem Jfd {args:List IV} {v:IV} (h:Qa4 args=some v):(∃ es c sep xs,args=[.lst 1 es c,.sc (.string sep)]/\Qfy es=some xs/\xs.length<=1000000/\(Qhi sep.data.toList (xs.map fun s=>s.data.toList)).length<=1000000000 /\
 v=.sc (.string ⟨(Qhi sep.data.toList (xs.map fun s=>s.data.toList)).toArray⟩)) \/ ∃ e c sep,args=[.lst e [] c,.sc (.string sep)]/\v=.sc (.string ⟨#[]⟩):=by
 unfold Qa4 at h;split at h
 . rename_i es c sep;split at h
   . rename_i xs hx;split at h
     . rename_i hc;exact .inl ⟨es,c,sep,xs,rfl,hx,hc.1,hc.2,(Kda h).symm⟩
     . cases h
   . cases h
 . rename_i e c sep _;exact .inr ⟨e,c,sep,rfl,(Kda h).symm⟩
 . cases h
theorem Qus (L:Lays.n156 cx.P ρ) (X:Builder.Extra cx.P ρ) (hf:cx.fid f=ρ.f 156):Qfo cx f ⟨[.t 0],[],.ext fun _=>Qa4⟩:=by
 refine Qic ⟨_,by rw [hf];exact L.f156,by kernel_rfl,by kernel_rfl⟩ fun args v h=>?_;rcases Jfd h with ⟨es,c,sep,xs,rfl,hx,h1,h2,rfl⟩ | ⟨e,c,sep,rfl,rfl⟩
 . refine ⟨_,rfl,rfl,fun M w F ρ' fp vs hl hR=>?_⟩;have es_eq:=Qmd hx;rw [hf];rcases Qi0 hR hl (i:=0) rfl with ⟨rfl,a,cap,h0⟩ | ⟨b,o,cap,C,ty,fr,h0,hcap,hb,hd⟩
   . obtain rfl:=Qfd hl h0 (Qg1 hR hl (i:=1) rfl);have hx0:xs=[]:=by
      cases xs with
      | nil=>rfl
      | cons x r=>simp at es_eq
     subst hx0;exact (Any.strings_Join_none L X a cap sep w).mono fun e w' ⟨he,hw⟩=>⟨he,hw ▸ RowKit.Below.refl _ _⟩
   . obtain rfl:=Qfd hl h0 (Qg1 hR hl (i:=1) rfl);have hlen:es.length=xs.length:=by rw [es_eq];simp
     have hus:=Qo8 es_eq hd;rw [Nat.mul_one,hlen] at hus;rw [hlen] at hcap |-;have hbk:b < w.heap.size:=by
      rcases Kbw b w.heap.size with h | h
      . exact h
      . rw [Array.getElem?_eq_none h] at hb;cases hb
     have:=Any.strings_Join L X b o cap xs sep w (fun j x hj=>Qs9 hb (us:=xs.map Value.string) (by simpa using hus) j (.string x) (by simp [hj])) hbk (by omega) hcap (by rw [Qxj];omega);rw [Qxj] at this;exact this
 . refine ⟨_,rfl,rfl,fun M w F ρ' fp vs hl hR=>?_⟩;rw [hf];rcases Qi0 hR hl (i:=0) rfl with ⟨-,a,cap,h0⟩ | ⟨b,o,cap,C,ty,fr,h0,hcap,hb,hd⟩
   . obtain rfl:=Qfd hl h0 (Qg1 hR hl (i:=1) rfl);exact (Any.strings_Join_none L X a cap sep w).mono fun e w' ⟨he,hw⟩=>⟨he,hw ▸ RowKit.Below.refl _ _⟩
   . obtain rfl:=Qfd hl h0 (Qg1 hR hl (i:=1) rfl);exact (Any.strings_Join_none L X _ cap sep w).mono fun e w' ⟨he,hw⟩=>⟨he,hw ▸ RowKit.Below.refl _ _⟩
theorem Qma:∀ {es:List (List IV)} {l:List UInt8},Qfx es=some l->∃ xs:List Nat,(∀ x ∈ xs,x < 10)/\es=(xs.map fun x:Nat=>Value.int .i64 (x:Int)).map (fun u=>[.sc u])/\l=xs.map fun x:Nat=>UInt8.ofNat (48+x)
 | [],l,h=>by simp [Qfx] at h;subst h;exact ⟨[],by simp,rfl,rfl⟩
 | e::es,l,h=>by
   unfold Qfx at h;split at h
   . rename_i heq;cases heq
   . rename_i x r heq;simp only [Ket] at heq;obtain ⟨rfl,rfl⟩:=heq;split at h
     . rename_i hx;split at h
       . rename_i l' hl;simp only [Kaa] at h;subst h;obtain ⟨xs,h1,h2,h3⟩:=Qma hl;refine ⟨x.toNat::xs,fun y hy=>?_,?_,?_⟩
         . rcases Kaf.1 hy with rfl | hy
           . omega
           . exact h1 y hy
         . have e:((x.toNat:Nat):Int)=x:=by omega
           rw [h2,Kbd,Kbd,e]
         . rw [h3];rfl
       . cases h
     . cases h
   . cases h
theorem Qyy {args:List IV} {v:IV} (h:Qbi args=some v):(∃ es c l,args=[.lst 1 es c]/\Qfx es=some l/\es.length<=1000/\v=.sc (.string ⟨l.toArray⟩)) \/ ∃ e c,args=[.lst e [] c]/\v=.sc (.string ⟨#[]⟩):=by
 unfold Qbi at h;split at h
 . rename_i es c;split at h
   . rename_i hl;split at h
     . rename_i l hx;exact .inl ⟨es,c,l,rfl,hx,hl,(Kda h).symm⟩
     . cases h
   . cases h
 . rename_i e c _;exact .inr ⟨e,c,rfl,(Kda h).symm⟩
 . cases h
theorem Qr8 (hent:Qef cx.P (cx.fid f))
 (hrow:∀ (bk o c:Nat) (xs:List Nat) (w:World),(∀ (j:Nat) x,xs[j]? = some x->w.cell? ⟨bk,o+j,none⟩=some (.int .i64 x))->(∀ x ∈ xs,x < 10)->bk < w.heap.size->xs.length<=1000 ->
   Calls cx.P (cx.fid f) #[.slice (some ⟨bk,o,none⟩) xs.length c] w fun e w'=>e=.returned (.string ⟨(xs.map fun x:Nat=>UInt8.ofNat (48+x)).toArray⟩)/\RowKit.Below w.heap.size w w')
 (hnone:∀ (a:Option Addr) (c:Nat) (w:World),Calls cx.P (cx.fid f) #[.slice a 0 c] w fun e w'=>e=.returned (.string ⟨#[]⟩)/\RowKit.Below w.heap.size w w'):Qfo cx f ⟨[.t 0],[],.ext fun _=>Qbi⟩:=by
 refine Qic hent fun args v h=>?_;rcases Qyy h with ⟨es,c,l,rfl,hx,h1,rfl⟩ | ⟨e,c,rfl,rfl⟩
 . refine ⟨_,rfl,rfl,fun M w F ρ' fp vs hl hR=>?_⟩;obtain ⟨xs,k1,k2,k3⟩:=Qma hx;have hlen:es.length=xs.length:=by rw [k2];simp
   rcases Qi0 hR hl (i:=0) rfl with ⟨h0',a,cap,h0⟩ | ⟨b,o,cap,C,ty,fr,h0,hcap,hb,hd⟩
   . obtain rfl:=Qqa hl h0;have hx0:xs=[]:=by
      rw [h0'] at hlen;exact Kav.1 hlen.symm
     subst hx0;rw [k3];exact hnone a cap w
   . obtain rfl:=Qqa hl h0;have hus:=Qo8 k2 hd;rw [Nat.mul_one,hlen] at hus;rw [hlen] at hcap |-;have hbk:b < w.heap.size:=by
      rcases Kbw b w.heap.size with h | h
      . exact h
      . rw [Array.getElem?_eq_none h] at hb;cases hb
     rw [k3];exact hrow b o cap xs w (fun j x hj=>Qs9 hb (us:=xs.map fun x:Nat=>Value.int .i64 (x:Int)) (by simpa using hus) j (.int .i64 x) (by simp [hj])) k1 hbk (by omega)
 . refine ⟨_,rfl,rfl,fun M w F ρ' fp vs hl hR=>?_⟩;rcases Qi0 hR hl (i:=0) rfl with ⟨-,a,cap,h0⟩ | ⟨b,o,cap,C,ty,fr,h0,hcap,hb,hd⟩
   . obtain rfl:=Qqa hl h0;exact hnone a cap w
   . obtain rfl:=Qqa hl h0;exact hnone _ cap w
end
end Go.Idl
namespace Go.Idl
open Go
section
variable {cx:Cx}
theorem Jk1 {cf:CF} (hcf:Qcn cx cf) {l:Lab} {xs:List IV} {vs:List Value} {u:Value} {w:World} (h:Qk9 w xs vs) (hc:cf l [] xs []=some ⟨.sc u,[],[],[]⟩) :
 Calls cx.P (cx.fid l) vs.toArray w (fun e w'=>e=.returned u/\RowKit.Below w.heap.size w w'):=by
 refine ((hcf l [] xs [] _ hc).2 w (Jkj w) (fun _ _=>0) (fun _=>[]) vs h.len.symm (Jpc h _)).mono ?_;rintro e w' ⟨v',F',ρ',fp',Xb,rfl,hR,hE,-⟩;have hs:=hR.slots 0;have hv:v'=u:=(Qbd hs).1;subst hv;exact ⟨rfl,⟨hE.env.1,hE.env.2.1,hE.env.2.2,hE.size,fun k hk=>hE.keep k hk (by simp) (by simp)⟩⟩
theorem Jkt {w:World} {u:Value} (hu:Idl.isSc u=true):Qk9 w [.sc u] [u]:=.cons (.one (.sc hu .nil)) .nil
def dskF (l:Lab) (cf:CF) (s:ByteArray):ByteArray:=match cf l [] [.sc (.string s)] [] with
 | some ⟨.sc (.string t),[],[],[]⟩=>t
 | _=>ByteArray.empty
theorem Qoh {l:Lab} {cf:CF}:∀ {es:List (List IV)} {x:List UInt8},Qmb l cf es=some x->∃ xs:List ByteArray,es=(xs.map Value.string).map (fun u=>[.sc u])/\x=(xs.map fun s=>(dskF l cf s).data.toList++[10]).flatten /\
 ∀ s ∈ xs,(dskF l cf s).size<=1000000/\cf l [] [.sc (.string s)] []=some ⟨.sc (.string (dskF l cf s)),[],[],[]⟩
 | [],x,h=>by
   simp only [Qmb,Kaa] at h;subst h;exact ⟨[],rfl,rfl,by simp⟩
 | e::es,x,h=>by
   unfold Qmb at h;split at h
   . rename_i heq;cases heq
   . rename_i s r heq;simp only [Ket] at heq;obtain ⟨rfl,rfl⟩:=heq;split at h
     . rename_i t hc;split at h
       . rename_i ht;split at h
         . rename_i y hy;simp only [Kaa] at h;obtain ⟨xs,h1,h2,h3⟩:=Qoh hy;have hd:dskF l cf s=t:=by rw [dskF,hc]
           refine ⟨s::xs,by rw [h1];rfl,?_,fun z hz=>?_⟩
           . rw [<- h,h2,Kbd,Kca,hd];simp
           . rcases Kaf.1 hz with rfl | hz
             . rw [hd];exact ⟨ht,hc⟩
             . exact h3 z hz
         . cases h
       . cases h
     . cases h
   . cases h
theorem Qzi {f l:Lab} (hent:Qef cx.P (cx.fid f))
 (hrow:∀ (g:ByteArray->ByteArray) (bk o c:Nat) (xs:List ByteArray) (w:World),(∀ (j:Nat) x,xs[j]? = some x->w.cell? ⟨bk,o+j,none⟩=some (.string x)) ->
   (∀ s ∈ xs,(g s).size<=1000000/\∀ w:World,Calls cx.P (cx.fid l) #[.string s] w fun e w'=>e=.returned (.string (g s))/\RowKit.Below w.heap.size w w')->bk < w.heap.size->xs.length<=20 ->
   Calls cx.P (cx.fid f) #[.slice (some ⟨bk,o,none⟩) xs.length c] w fun e w'=>e=.returned (.string ⟨((xs.map fun s=>(g s).data.toList++[10]).flatten).toArray⟩)/\RowKit.Below w.heap.size w w')
 (hnone:∀ (a:Option Addr) (c:Nat) (w:World),Calls cx.P (cx.fid f) #[.slice a 0 c] w fun e w'=>e=.returned (.string ⟨#[]⟩)/\RowKit.Below w.heap.size w w')
 (hmany:∀ (a:Option Addr) (n c:Nat),20 < n->∀ (w:World),Calls cx.P (cx.fid f) #[.slice a n c] w fun e w'=>e=.returned (.string ByteArray.empty)/\RowKit.Below w.heap.size w w') :
 Qfo cx f ⟨[.t 0],[],.ext (Qa9 l)⟩:=by
 refine ⟨_,rfl,hent,fun cf hcf args v h=>?_⟩;unfold Qa9 at h;split at h;rotate_left
 . cases h
 rename_i e es c;have one:∀ {vs:List Value} {a:Value},vs.length=1->vs[0]? = some a->vs=[a]:=fun {vs a} hl h0=>by
  match vs,hl with
  | [x],_ =>
    simp at h0;rw [h0]
 split at h
 . rename_i hm;simp only [Kaa] at h;subst h;refine ⟨Qmc,fun M w F ρ fp vs hl hR=>?_⟩;have key:Calls cx.P (cx.fid f) vs.toArray w fun e w'=>e=.returned (.string ByteArray.empty)/\RowKit.Below w.heap.size w w':=by
    rcases Qi0 hR hl (i:=0) rfl with ⟨h0',a,cap,h0⟩ | ⟨b,o,cap,C,ty,fr,h0,hcap,hb,hd⟩
    . rw [h0'] at hm;simp at hm
    . rw [one hl h0];exact hmany _ _ _ hm w
   refine key.mono ?_;rintro e w' ⟨rfl,hB⟩;exact Qjg rfl hR hB
 . rename_i hm;split at h;rotate_left
   . cases h
   rename_i he1;split at h;rotate_left
   . cases h
   rename_i x hx;simp only [Kaa] at h;subst h;obtain ⟨xs,k1,k2,k3⟩:=Qoh hx;refine ⟨Qmc,fun M w F ρ fp vs hl hR=>?_⟩;have hlen:es.length=xs.length:=by rw [k1];simp
   have key:Calls cx.P (cx.fid f) vs.toArray w fun e w'=>e=.returned (.string ⟨x.toArray⟩)/\RowKit.Below w.heap.size w w':=by
    rcases Qi0 hR hl (i:=0) rfl with ⟨h0',a,cap,h0⟩ | ⟨b,o,cap,C,ty,fr,h0,hcap,hb,hd⟩
    . rw [one hl h0];have hx0:xs=[]:=by
       rw [h0'] at hlen;exact Kav.1 hlen.symm
      subst hx0;rw [k2];exact hnone a cap w
    . rw [one hl h0];rcases he1 with he1 | he1;rotate_left
      . have hx0:xs=[]:=by
         rw [he1] at hlen;exact Kav.1 hlen.symm
        subst hx0;rw [he1,k2];exact hnone _ cap w
      subst he1;have hsc:∀ {es:List (List IV)} {us vs:List Value},es=us.map (fun u=>[.sc u])->RDs w F es.flatten vs []->vs=us:=by
       intro es us
       induction us generalizing es with
       | nil=>rintro vs rfl h;cases h;rfl
       | cons u us ih =>
         rintro vs rfl h;have h:RDs w F (.sc u::(us.map fun u=>[IV.sc u]).flatten) vs []:=h;cases h with
         | sc _ t=>rw [ih rfl t]
      have hus:=hsc k1 hd;rw [Nat.mul_one,hlen] at hus;have hbk:b < w.heap.size:=by
       rcases Kbw b w.heap.size with h | h
       . exact h
       . rw [Array.getElem?_eq_none h] at hb;cases hb
      rw [hlen,k2];refine hrow (dskF l cf) b o cap xs w (fun j y hj=>?_) (fun s hs=>⟨(k3 s hs).1,fun w=>Jk1 hcf (Jkt rfl) (k3 s hs).2⟩) hbk (by omega);rw [Qau hb];have hjl:j < xs.length:=(Kak.1 hj).1;have hj2:(xs.map Value.string)[j]? = some (.string y):=by simp [hj]
      rw [<- hus,Kbg hjl,Kbp] at hj2;simpa using hj2
   refine key.mono ?_;rintro e w' ⟨rfl,hB⟩;exact Qjg rfl hR hB
end
end Go.Idl
