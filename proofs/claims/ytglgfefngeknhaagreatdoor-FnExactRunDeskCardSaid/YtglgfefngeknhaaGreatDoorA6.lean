/- Part 6 of a proof by an ideal interpreter of the code: its definitions and lemmas. Conditions: none. -/
import Derived.KernelRfl
import Derived.Test.YtglgfefngeknhaaGreatDoorA5
set_option linter.all false
set_option linter.unusedVariables false
set_option linter.unusedSimpArgs false
namespace Go.Idl
open Go
def rds (b:UInt8):Int:=(b.toNat:Int) - 48
def Qfi:List UInt8->List (Int×Int)
 | a::b::_::r=>(rds a,rds b)::Qfi r
 | [a,b]=>[(rds a,rds b)]
 | _=>[]
theorem Qyi (a b:UInt8) (r:List UInt8):Qfi (a::b::r)=(rds a,rds b)::Qfi (r.drop 1):=by
 cases r with
 | nil=>rfl
 | cons c r=>rfl
theorem Qyg {l:List UInt8} (h:l.length<=1):Qfi l=[]:=by
 match l,h with
 | [],_=>rfl
 | [_],_=>rfl
theorem Jtu (l:List UInt8) (n0:Int) (hl:l.length<=2000000):∀ (m i:Nat) (acc:List (Int×Int)),l.length<=i+m->2<=i->acc.length<=i->i<=l.length+3 ->
 wp tb (.loop Jq4) { T:=[(0,SB l),(2,.bptr 0 0 0),(4,.bptr 0 1 0),(5,I i)],loc:=[[I 0,Z],[I n0,O2 acc]],M:=[] }
  (fun ex st=>ex=.exit 0/\∃ i':Int,st={ T:=[(0,SB l),(2,.bptr 0 0 0),(4,.bptr 0 1 0),(5,I i'),(20,Bo false)],loc:=[[I 0,Z],[I n0,O2 (acc++Qfi (l.drop i))]],M:=[] }):=by
 intro m
 induction m with
 | zero =>
   intro i acc hi h2 hal hi3;have w1:IntKind.i64.wrap ((i:Int)+1)=((i+1:Nat):Int):=Qas (by omega);have hs:(⟨l.toArray⟩:ByteArray).size=l.length:=rfl;have h3:¬ ((i:Int)+1) < l.length:=by omega
   rw [Qyg (by rw [Kco];omega),Kbb];refine jL ?_;have Hq:=cj3 w1 hs h3;repeat refine go1 ?_
   exact ⟨rfl,_,rfl⟩
 | succ m ih =>
   intro i acc hi h2 hal hi3;have w1:IntKind.i64.wrap ((i:Int)+1)=((i+1:Nat):Int):=Qas (by omega);have hs:(⟨l.toArray⟩:ByteArray).size=l.length:=rfl;by_cases hlt:i+1 < l.length
   . have h3:((i:Int)+1) < l.length:=by omega
     have hi1:i < l.length:=by omega
     have w2:IntKind.i64.wrap ((i:Int)+3)=((i+3:Nat):Int):=by rw [Qac (by omega) (by omega)];omega
     have g1:=bs_get? l i hi1;have g2:=bs_get? l (i+1) hlt;have b1:=l[i].toNat_lt;have b2:=l[i+1].toNat_lt;have x1:IntKind.i64.wrap (l[i].toNat:Int)=l[i].toNat:=Qac (by omega) (by omega);have x2:IntKind.i64.wrap ((l[i].toNat:Int) - 48)=rds l[i]:=Qac (by omega) (by omega);have x3:IntKind.i64.wrap (l[i+1].toNat:Int)=l[i+1].toNat:=Qac (by omega) (by omega);have x4:IntKind.i64.wrap ((l[i+1].toNat:Int) - 48)=rds l[i+1]:=Qac (by omega) (by omega);have hd:Qfi (l.drop i)=(rds l[i],rds l[i+1])::Qfi (l.drop (i+3)):=by
      rw [Kay hi1,Kay hlt,Qyi,Kdo]
     have hn:=ih (i+3) (acc++[(rds l[i],rds l[i+1])]) (by omega) (by omega) (by simp;omega) (by omega);rw [hd,show ∀ T,acc++(rds l[i],rds l[i+1])::T=(acc++[(rds l[i],rds l[i+1])])++T from fun T=>by simp];have hlm:acc.length+1<=274877906944:=by omega
     have htA:acc.take acc.length=acc:=Kae (by omega);refine jL ?_;have Hq:=cj4 w1 hs h3 hlt;repeat refine go1 ?_
     refine Qhr (by simp [w1,g1,g2,x1,x2,x3,x4,hlm,htA];with_reducible rfl) (by simp;with_reducible rfl) ?_ ?_
     . intro p hp;simp only [Kaf,Kaw,Kcf] at hp;rcases hp with rfl | rfl
       . exact ⟨_,by simp [w1,g1,g2,x1,x2,x3,x4,hlm,htA];with_reducible rfl,by simp⟩
       . exact ⟨_,by simp [w1,g1,g2,x1,x2,x3,x4,hlm,htA];with_reducible rfl,by simp⟩
     have Hq:=w2;repeat refine go1 ?_
     exact hn
   . have h3:¬ ((i:Int)+1) < l.length:=by omega
     rw [Qyg (by rw [Kco];omega),Kbb];refine jL ?_;have Hq:=cj4 w1 hs h3 hlt;repeat refine go1 ?_
     exact ⟨rfl,_,rfl⟩
theorem Qyh:∀ (m:Nat) (l:List UInt8),l.length<=m->(Qfi l).length<=l.length
 | 0,l,h=>by have:l=[]:=Kav.1 (by omega);subst this;simp [Qfi]
 | m+1,l,h=>by
   match l,h with
   | [],_=>simp [Qfi]
   | [_],_=>simp [Qfi]
   | a::b::r,h =>
     rw [Qyi];have:=Qyh m (r.drop 1) (by simp at h |-;omega);simp at this |-;omega
def Qyv (l:List UInt8):Option (Int×List (Int×Int)):=match l with
 | h::_::r=>some (rds h,Qfi r)
 | _=>none
def Jmi (l:List UInt8):Option (Int×List (Int×Int)):=match Qyv l with
 | some (n,es)=>if Qak n es=true/\gtx n es=l then some (n,es) else none
 | none=>none
theorem Qpq (l:List UInt8) (h:l.length < 2):Ev tb Qv6 [] [SB l] [] ⟨.tup [.agg [I 0,Z],Bo false],[],[],[]⟩:=by
 have hs:(⟨l.toArray⟩:ByteArray).size=l.length:=rfl;have h2:(l.length:Int) < 2:=by omega
 refine jC zt367 rfl ?_;have Hq:=cj3 hs h h2;repeat refine go1 ?_
 simp [Jam]
set_option maxHeartbeats 1000000 in
theorem Jdh (h0 h1:UInt8) (r:List UInt8) (hl:r.length<=1500000):Ev tb Qv6 [] [SB (h0::h1::r)] []
 ⟨.tup [.agg [I (rds h0),O2 (Qfi r)],Bo (Qak (rds h0) (Qfi r) && decide (gtx (rds h0) (Qfi r)=h0::h1::r))],[],[],[]⟩:=by
 obtain ⟨l,hl'⟩:∃ l,l=h0::h1::r:=⟨_,rfl⟩;have hll:l.length=r.length+2:=by rw [hl'];rfl
 have hs:(⟨l.toArray⟩:ByteArray).size=l.length:=rfl;have hg:=bs_get? l 0 (by omega);rw [show l[0]'(by omega)=h0 by simp [hl']] at hg;have hdr:l.drop 2=r:=by rw [hl'];rfl
 have q:=Jtu l (rds h0) (by omega) l.length 2 [] (by omega) (by omega) (by simp) (by omega);rw [hdr,Kaq,show ((2:Nat):Int)=2 from rfl] at q;rw [<- hl'];have h2:¬ (l.length:Int) < 2:=by omega
 have h2':¬ l.length < 2:=by omega
 have b0:=h0.toNat_lt;have x1:IntKind.i64.wrap (h0.toNat:Int)=h0.toNat:=Qac (by omega) (by omega);have x2:IntKind.i64.wrap ((h0.toNat:Int) - 48)=rds h0:=Qac (by omega) (by omega);have htl:=Qyh r.length r (Kam _);have v1:=Qaa (Qps (rds h0) (Qfi r) false (by omega));have so:=Jfi ⟨(gtx (rds h0) (Qfi r)).toArray⟩ ⟨l.toArray⟩;have hdec:decide ((⟨(gtx (rds h0) (Qfi r)).toArray⟩:ByteArray)=⟨l.toArray⟩)=decide (gtx (rds h0) (Qfi r)=l):=by
  rw [Kfa];constructor
  . intro h;have:=congrArg (fun b:ByteArray=>b.data.toList) h;simpa using this
  . intro h;rw [h]
 rw [hdec] at so;have htA:(Qfi r).take (Qfi r).length=Qfi r:=Kae (by omega);cases hv:Qak (rds h0) (Qfi r) with
 | false =>
   rw [hv] at v1;rw [Kee];generalize rds h0=N at *
   generalize Qfi r=es at *
   refine jC zt367 rfl ?_;have Hq:=cj6 hs h2 h2' hg x1 x2;repeat refine go1 ?_
   refine Qab q ?_;rintro ex st ⟨rfl,i',rfl⟩;simp only [if_true]
   repeat refine go0 ?_
   refine Qhp (by simp [v1,htA];with_reducible rfl) (by simp;with_reducible rfl) ?_ ?_
   . intro p hp;simp only [Kaf,Kaw,Kcf] at hp;rcases hp with rfl | rfl | rfl
     . exact ⟨_,by simp [v1,htA];with_reducible rfl,by simp⟩
     . exact ⟨_,by simp [v1,htA];with_reducible rfl,by simp⟩
     . exact ⟨_,by simp [v1,htA];with_reducible rfl,by simp⟩
   repeat refine go0 ?_
   simp [Jam]
 | true =>
   rw [hv] at v1;rw [Kbx];obtain ⟨m,hm,h7⟩:=Qn4 hv;have hv':Qak (m:Int) (Qfi r)=true:=by rw [<- hm];exact hv
   have hel:=Qev hv';have g1:=Qaa (Qfw m (Qfi r) false (by omega) (by omega) (Qlo h7 hv'));rw [<- hm] at g1;clear hm hv hv' hdec;generalize decide (gtx (rds h0) (Qfi r)=l)=b at *
   generalize gtx (rds h0) (Qfi r)=S at *
   generalize rds h0=N at *
   generalize Qfi r=es at *
   refine jC zt367 rfl ?_;have Hq:=cj6 hs h2 h2' hg x1 x2;repeat refine go1 ?_
   refine Qab q ?_;rintro ex st ⟨rfl,i',rfl⟩;simp only [if_true]
   repeat refine go0 ?_
   refine Qhp (by simp [v1,g1,so,htA];with_reducible rfl) (by simp;with_reducible rfl) ?_ ?_
   . intro p hp;simp only [Kaf,Kaw,Kcf] at hp;rcases hp with rfl | rfl | rfl
     . exact ⟨_,by simp [v1,g1,so,htA];with_reducible rfl,by simp⟩
     . exact ⟨_,by simp [v1,g1,so,htA];with_reducible rfl,by simp⟩
     . exact ⟨_,by simp [v1,g1,so,htA];with_reducible rfl,by simp⟩
   repeat refine go0 ?_
   simp [Jam]
end Go.Idl
namespace Go.Idl
theorem Qt8 {x:Int} (h:0<=x/\x < 10):(dgt x).toNat=48+x.toNat:=by
 rw [dgt,UInt8.toNat_ofNat'];omega
theorem Qmz {x:Int} (h:0<=x/\x < 10):rds (dgt x)=x:=by rw [rds,Qt8 h];omega
theorem Qmy {x:Int} (h:0<=x/\x < 10):rdb (dgt x)=x:=by
 rw [rdb,Qt8 h,if_neg (by omega)];omega
theorem Qrn {x:Int} (h:0<=x/\x < 10):dgt x ≠ 58/\dgt x ≠ 44:=by
 have h1:=Qt8 h;constructor
 . intro hc;rw [hc] at h1;have:(58:UInt8).toNat=58:=rfl;omega
 . intro hc;rw [hc] at h1;have:(44:UInt8).toNat=44:=rfl;omega
theorem Jc2 (e:Int×Int):etx [e]=[dgt e.1,dgt e.2]:=by simp [etx,Qhi]
theorem Jc3 (e f:Int×Int) (r:List (Int×Int)):etx (e::f::r)=dgt e.1::dgt e.2::44::etx (f::r):=by simp [etx,Qhi]
theorem Qro {e:Int×Int} {r:List (Int×Int)} (h:Jo9 (e::r)):Jo9 r:=fun x hx=>h x (by simp [hx])
theorem Jfm:∀ {es:List (Int×Int)},Jo9 es->Qpe (Qck 44 (etx es))=es
 | [],_=>rfl
 | [e],h=>by
   have he:=h e (by simp);have h1:=(Qrn ⟨he.1,he.2.1⟩).2;have h2:=(Qrn ⟨he.2.2.1,he.2.2.2⟩).2;have q1:=Qmy ⟨he.1,he.2.1⟩;have q2:=Qmy ⟨he.2.2.1,he.2.2.2⟩;rw [Jc2];simp only [Qck,if_neg h1,if_neg h2,Qpe,Kcw,List.flatMap_nil,edg,q1,q2,Kbb]
 | e::f::r,h=>by
   have he:=h e (by simp);have h1:=(Qrn ⟨he.1,he.2.1⟩).2;have h2:=(Qrn ⟨he.2.2.1,he.2.2.2⟩).2;have q1:=Qmy ⟨he.1,he.2.1⟩;have q2:=Qmy ⟨he.2.2.1,he.2.2.2⟩;have ih:=Jfm (Qro h);rw [Jc3,Qck,if_neg h1,Qck,if_neg h2,Qck,if_pos rfl];simp only [Qpe,Kcw,edg,q1,q2];rw [<- Qpe,ih];rfl
theorem Qyf:∀ {es:List (Int×Int)},Jo9 es->Qfi (etx es)=es
 | [],_=>rfl
 | [e],h=>by
   have he:=h e (by simp);rw [Jc2];simp only [Qfi,Qmz ⟨he.1,he.2.1⟩,Qmz ⟨he.2.2.1,he.2.2.2⟩]
 | e::f::r,h=>by
   have he:=h e (by simp);rw [Jc3,Qfi,Qyf (Qro h),Qmz ⟨he.1,he.2.1⟩,Qmz ⟨he.2.2.1,he.2.2.2⟩]
theorem Jk2 {n:Int} {es:List (Int×Int)} (hv:Qak n es=true):Qrg (gtx n es)=some (n,es)/\Qyv (gtx n es)=some (n,es):=by
 obtain ⟨m,rfl,h7⟩:=Qn4 hv;have hd:=Qlo h7 hv;have hm:0<=(m:Int)/\(m:Int) < 10:=by omega
 have hg:gtx (m:Int) es=dgt m::58::etx es:=rfl;rw [hg];constructor
 . have hc:Qix 58 (dgt m::58::etx es)=some ([dgt m],etx es):=by
    rw [Qix,if_neg (Qrn hm).1,Qix,if_pos rfl]
   simp only [Qrg,hc,Qmy hm,Jfm hd]
 . simp only [Qyv,Qmz hm,Qyf hd]
theorem Qds {l:List UInt8} {n:Int} {es:List (Int×Int)} (h:Qc7 l=some (n,es)):Qak n es=true/\gtx n es=l:=by
 rw [Qc7] at h;split at h
 . split at h
   . rename_i hc;simp only [Kaa,Kab] at h;obtain ⟨rfl,rfl⟩:=h;exact hc
   . cases h
 . cases h
theorem Jen {l:List UInt8} {n:Int} {es:List (Int×Int)} (h:Jmi l=some (n,es)):Qak n es=true/\gtx n es=l:=by
 rw [Jmi] at h;split at h
 . split at h
   . rename_i hc;simp only [Kaa,Kab] at h;obtain ⟨rfl,rfl⟩:=h;exact hc
   . cases h
 . cases h
theorem Jep {n:Int} {es:List (Int×Int)} (hv:Qak n es=true):Qc7 (gtx n es)=some (n,es)/\Jmi (gtx n es)=some (n,es):=by
 obtain ⟨h1,h2⟩:=Jk2 hv;constructor
 . simp [Qc7,h1,hv]
 . simp [Jmi,h2,hv]
theorem Jeo (l:List UInt8):Qc7 l=Jmi l:=by
 cases h1:Qc7 l with
 | some p =>
   obtain ⟨n,es⟩:=p;obtain ⟨hv,rfl⟩:=Qds h1;exact (Jep hv).2.symm
 | none =>
   cases h2:Jmi l with
   | none=>rfl
   | some p =>
     obtain ⟨n,es⟩:=p;obtain ⟨hv,rfl⟩:=Jen h2;rw [(Jep hv).1] at h1;cases h1
theorem Qh9 (l:List UInt8) (hl:l.length<=1500000):Ev tb Qtq [] [SB l] [] ⟨Jkk (Qc7 l),[],[],[]⟩:=by
 cases h:Qrg l with
 | none =>
   have:Qc7 l=none:=by simp only [Qc7,h]
   rw [this];exact Qi6 l (by omega) h
 | some p=>exact Qh7 l hl p.1 p.2 h
end Go.Idl
namespace Go.Idl
open Go
theorem Qpi (xs:List Int) (F:Lab) (caps:List IV) (M:List Qad) (p:Int->Bool) (hl:xs.length<=2000000)
 (hp:∀ x ∈ xs,Ev tb F [] (I x::caps) (M++[[]]) ⟨Bo (p x),[],M++[[]],[]⟩) :
 Ev tb Jj9 [0] [O xs,.fn F caps] M ⟨I (idx p 0 xs),[O xs],M,[]⟩:=by
 have loop:∀ (m i:Nat),i+m=xs.length->wp tb (.loop Jq9) { T:=[(0,O xs),(1,.fn F caps),(7,I xs.length),(8,I i)],loc:=[],M:=M }
  (fun ex st=>(ex=.exit 0/\idx p i (xs.drop i)=-1/\st={ T:=[(0,O xs),(1,.fn F caps),(7,I xs.length),(8,I xs.length),(9,Bo false)],loc:=[],M:=M }) \/
    ex=.ret/\st={ T:=[(0,O xs),(4,I (idx p i (xs.drop i)))],loc:=[],M:=M }):=by
  intro m
  induction m with
  | zero =>
    intro i hi;obtain ⟨h1,h2⟩:=Qcg hi;have h3:i=xs.length:=hi;subst h3;refine jL ?_
    repeat refine go0 ?_
    refine .inl ⟨rfl,by rw [h2];rfl,rfl⟩
  | succ m ih =>
    intro i hi;obtain ⟨hi2,h2,h3⟩:=Qch hi;have e1:=Qaa (hp _ h3);have w1:IntKind.i64.wrap ((i:Int)+1)=((i+1:Nat):Int):=Qas (by omega);rw [h2];cases hpx:p xs[i] with
    | true =>
      refine jL ?_;have Hq:=cj4 e1 hi2 w1 hpx;repeat refine go1 ?_
      refine .inr ⟨rfl,by simp [idx,hpx]⟩
    | false =>
      refine jL ?_;have Hq:=cj4 e1 hi2 w1 hpx;repeat refine go1 ?_
      have:=ih (i+1) (by omega);simp only [idx,hpx] at this |-;exact this
 refine jC zt449 rfl ?_
 repeat refine go0 ?_
 refine Qab (loop xs.length 0 (by simp)) ?_;rintro ex st (⟨rfl,h,rfl⟩ | ⟨rfl,rfl⟩)
 . simp only [if_true]
   repeat refine go0 ?_
   simp at h;simp [Jiu,h]
 . simp [Jiu]
theorem Qxb (p:Int->Bool):∀ (xs:List Int) (i:Nat),(idx p i xs=-1/\∀ x ∈ xs,p x=false) \/ ∃ k:Nat,∃ h:k < xs.length,idx p i xs=((i+k:Nat):Int)/\p xs[k]=true/\∀ x ∈ xs.take k,p x=false
 | [],i=>.inl ⟨rfl,by simp⟩
 | x::r,i=>by
   cases hp:p x with
   | true=>exact .inr ⟨0,by simp,by simp [idx,hp],hp,by simp⟩
   | false =>
     rcases Qxb p r (i+1) with ⟨h1,h2⟩ | ⟨k,hk,h1,h2,h3⟩
     . refine .inl ⟨?_,fun y hy=>?_⟩
       . simp only [idx,hp,Kap,Kbs];exact h1
       . rcases Kaf.1 hy with rfl | hy
         . exact hp
         . exact h2 y hy
     . refine .inr ⟨k+1,by simp;exact hk,?_,h2,fun y hy=>?_⟩
       . simp only [idx,hp,Kap,Kbs];rw [show ((i:Int)+1)=((i+1:Nat):Int) by omega,h1];omega
       . rw [Kfg] at hy;rcases Kaf.1 hy with rfl | hy
         . exact hp
         . exact h3 y hy
theorem Jk8 (xs:List Int) (F:Lab) (caps:List IV) (M:List Qad) (p:Int->Bool) (hl:xs.length<=2000000)
 (hp:∀ x ∈ xs,Ev tb F [] (I x::caps) (M++[[]]) ⟨Bo (p x),[],M++[[]],[]⟩):∀ (m j i:Nat) (s:List Int),j+m=xs.length->i < j->s.length=xs.length->s.take i=(xs.take j).filter (fun x=>!p x)->s.drop j=xs.drop j ->
 wp tb (.loop Jgt) { T:=[(0,O s),(1,.fn F caps),(5,I i),(6,I j)],loc:=[],M:=M }
  (fun ex st=>ex=.exit 0/\∃ (i:Nat) (s:List Int),(i < xs.length/\s.length=xs.length/\s.take i=xs.filter (fun x=>!p x))/\st={ T:=[(0,O s),(1,.fn F caps),(5,I i),(6,I xs.length),(19,Bo false)],loc:=[],M:=M }):=by
 intro m
 induction m with
 | zero =>
   intro j i s hj hij hs h1 h2;have h3:j=xs.length:=hj;subst h3;rw [Kdb] at h1;refine jL ?_;have Hq:=hs;repeat refine go1 ?_
   exact ⟨rfl,i,s,⟨hij,hs,h1⟩,rfl⟩
 | succ m ih =>
   intro j i s hj hij hs h1 h2;have hjl:j < xs.length:=by omega
   have hjs:j < s.length:=by omega
   have hil:i < s.length:=by omega
   have hil':i < xs.length:=by omega
   have hsj:s[j]=xs[j]:=by
    have h3:s.drop j=s[j]::s.drop (j+1):=Kay hjs;have h4:xs.drop j=xs[j]::xs.drop (j+1):=Kay hjl;rw [h3,h4] at h2;exact (List.cons.inj h2).1
   have hd2:s.drop (j+1)=xs.drop (j+1):=by
    have h3:s.drop j=s[j]::s.drop (j+1):=Kay hjs;have h4:xs.drop j=xs[j]::xs.drop (j+1):=Kay hjl;rw [h3,h4] at h2;exact (List.cons.inj h2).2
   have e1:=Qaa (hp _ (Kao hjl));have w1:IntKind.i64.wrap ((j:Int)+1)=((j+1:Nat):Int):=Qas (by omega);have w2:IntKind.i64.wrap ((i:Int)+1)=((i+1:Nat):Int):=Qas (by omega);have ht:(xs.take (j+1)).filter (fun x=>!p x)=(xs.take j).filter (fun x=>!p x)++(if p xs[j] then [] else [xs[j]]):=by
    rw [Kau hjl,List.filter_append,Kec,Kdw];cases p xs[j] <;> rfl
   cases hpx:p xs[j] with
   | true =>
     rw [hpx,if_pos rfl,Kbb] at ht;have hn:=ih (j+1) i s (by omega) (by omega) hs (by rw [ht];exact h1) hd2;refine jL ?_;have Hq:=cj7 hs hjl hjs hsj e1 hpx w1;repeat refine go1 ?_
     exact hn
   | false =>
     rw [hpx,if_neg (by simp)] at ht;have hn:=ih (j+1) (i+1) (s.set i xs[j]) (by omega) (by omega) (by simpa using hs) (by
      rw [ht,<- h1,Kau (by simpa using hil),List.take_set_of_le (Kam _),List.getElem_set_self]) (by
      rw [List.drop_set_of_lt (by omega)];exact hd2)
     refine jL ?_;have Hq:=Qri hs hjl hjs hsj e1 hpx w1 w2 hil hil';repeat refine go1 ?_
     exact hn
theorem Qep (xs:List Int):((Qb9 xs).all fun x=>x.all IV.isSc)=true:=by
 induction xs with
 | nil=>rfl
 | cons x xs ih=>simp only [Qb9,Kbd,Kcj] at *;rw [ih];rfl
theorem Qe1 (xs:List Int) (F:Lab) (caps:List IV) (M:List Qad) (p:Int->Bool) (hl:xs.length<=2000000)
 (hp:∀ M' x,x ∈ xs->Ev tb F [] (I x::caps) (M++[[]]++M') ⟨Bo (p x),[],M++[[]]++M',[]⟩) :
 Ev tb Ja5 [] [O xs,.fn F caps] M ⟨O (xs.filter fun x=>!p x),[],M,[]⟩:=by
 have e1:=Qaa (Qpi xs F caps (M++[[]]) p hl (fun x hx=>hp [[]] x hx));rcases Qxb p xs 0 with ⟨h1,h2⟩ | ⟨k,hk,h1,h2,h3⟩
 . rw [show ((0:Nat):Int)=0 from rfl] at h1;rw [h1] at e1;have hf:(xs.filter fun x=>!p x)=xs:=Keb.2 fun x hx=>by rw [h2 x hx];rfl
   rw [hf];refine jC zt266 rfl ?_;have Hq:=e1;repeat refine go1 ?_
   simp [Jie]
 . rw [show ((0:Nat):Int)=0 from rfl,Nat.zero_add] at h1;rw [h1] at e1;have hk0:¬ (k:Int)=-1:=by omega
   have w1:IntKind.i64.wrap ((k:Int)+1)=((k+1:Nat):Int):=Qas (by omega);have hlo:=Jk8 xs F caps M p hl (fun x hx=>by simpa using hp [] x hx) (xs.length - (k+1)) (k+1) k xs (by omega) (by omega) rfl (by
    rw [Kau hk,List.filter_append,Kec,h2];simp only [Kdy,Kap,Kbs,Kdw,Kbb];exact (Keb.2 fun x hx=>by rw [h3 x hx];rfl).symm) rfl
   refine jC zt266 rfl ?_;have Hq:=cj3 e1 hk0 w1;repeat refine go1 ?_
   refine Qab hlo ?_;rintro ex st ⟨rfl,i,s,⟨k1,k2,k3⟩,rfl⟩;simp only [if_true];have hil:i<=xs.length:=by omega
   have hz:s.drop xs.length=[]:=Kew (by omega);have hti:(s.take i).length=i:=by simp;omega
   have hfl:(xs.filter fun x=>!p x).length=i:=by rw [<- k3];exact hti
   generalize (xs.filter fun x=>!p x)=G at *
   have htk:∀ Z:List (List IV),(Qb9 G++Z).take i=Qb9 G:=fun Z=>by
    rw [List.take_append_of_le_length (by rw [Qxi];omega),Kae (by rw [Qxi];omega)]
   repeat (first|apply jA|apply jQ|refine wr (by simp [k2,hil,↓Qep,hz,k3,hti,hfl,htk];with_reducible rfl) ?_|refine wq (by simp [k2,hil,↓Qep,hz,k3,hti,hfl,htk];with_reducible rfl) ?_|refine wt (by simpa [k2,hil,↓Qep,hz,k3,hti,hfl,htk]) ?_|refine wf (by simpa [k2,hil,↓Qep,hz,k3,hti,hfl,htk]) ?_|refine xt (by simpa [k2,hil,↓Qep,hz,k3,hti,hfl,htk]) ?_|refine xf (by simpa [k2,hil,↓Qep,hz,k3,hti,hfl,htk]) ?_|apply jB|apply Jaf|refine jX ?_|refine jY ?_|refine jR ?_|refine jK ?_|refine jE ?_)
   simp [Jie]
end Go.Idl
namespace Go.Idl
open Go
theorem Jt5 {tb:Tbl} {ops:List IOp} {f:Lab} {x:Opd} {g:Nat} {live:List Nat} {bid p q:Nat} {asg body:IC} {st s0 s1:St} {Q:Ex->St->Prop} {es:List (List IV)} {c:Bool} {xs:List Int}
 (h0:Qaf (Qbq tb) st ops=some s0) (h1:({ s0 with T:=tput s0.T g .un }.cut live:St)=s1) (h2:rd s1.T x=.lst 1 es c) (h3:Qih es=some xs) (h4:Qn1 s1.T=true) (h5:xs.length < 2 ^ 40)
 (h6:Je9 (wp tb asg) (wp tb body) s1.T p q (fun ex s=>match ex with
   | .exit e=>Q (if e=bid then .normal else .exit e) s
   | e=>Q e s) xs.reverse s1):wp tb (.rngb ops f x g live bid p q asg body) st Q:=by
 subst h1;simp only [wp];exact ⟨s0,h0,es,c,xs,h2,h3,h4,h5,h6⟩
theorem Qu2 (xs:List Int):Qih (Qb9 xs)=some xs:=by
 induction xs with
 | nil=>rfl
 | cons x xs ih =>
   simp only [Qb9,Kbd] at *
   show (match Qih _ with | some ys=>some (x::ys) | none=>none)=_;rw [ih]
abbrev Lx (es:List (Int×Int)) (c:Nat×Bool):IV:=.lst c.1 (eds es) c.2
def Qhc (es:List (Int×Int)) (left:List Int) (v:Int):Nat:=left.countP fun u=>decide (u ≠ v) && Qn0 es u v
theorem Qjm (loc:Qad) (M':List Qad) (kv kg:Nat) (u v n:Int) (es:List (Int×Int)) (c:Nat×Bool) (h1:loc[kv]? = some [I v]) (h2:loc[kg]? = some [I n,Lx es c]) (hl:es.length<=100000000/\(c.1=2 \/ es=[])) :
 Ev tb Qwa [] [I u,.bptr 0 kv 0,.bptr 0 kg 0] (loc::M') ⟨Bo (decide (u ≠ v) && Qn0 es u v),[],loc::M',[]⟩:=by
 have e1:=Qaa (Jpj n c.1 es c.2 u v hl.2 hl.1 []);refine jC zt406 rfl ?_;by_cases hq:u=v
 . subst hq;have Hq:=cj3 h1 h2 e1;repeat refine go1 ?_
   simp [Jis]
 . have Hq:=cj4 h1 h2 e1 hq;repeat refine go1 ?_
   simp [Jis,hq]
theorem Qjn (loc:Qad) (M':List Qad) (kv:Nat) (u v:Int) (h1:loc[kv]? = some [I v]) :
 Ev tb Qwb [] [I u,.bptr 0 kv 0] (loc::M') ⟨Bo (decide (u=v)),[],loc::M',[]⟩:=by
 refine jC zt407 rfl ?_;have Hq:=h1;repeat refine go1 ?_
 by_cases hq:u=v <;> simp [Joz,hq]
theorem Jff {α:Type} (l:List α) (a b:α):(l++[a]).set l.length b=l++[b]:=by
 rw [Kcl _ _ (Kam _)];simp
theorem set232 {α:Type} (l:List α) (a b c:α):((l.set 2 a).set 3 b).set 2 c=(l.set 2 c).set 3 b:=by
 rw [List.set_comm _ _ (by decide),List.set_set]
theorem Qbm {α:Type} {l:List α} {i:Nat} {x:α} (h:l[i]? = some x) (y:List α):(l++y)[i]? = some x:=by
 rw [Kba (Kak.1 h).1,h]
structure Bx (loc:Qad) (n:Int) (es:List (Int×Int)) (c:Nat×Bool) (left:List Int) (cl:Bool) (ls:List Int) (os:List Int) (kk:Nat) (k:Int) (kf:Nat) (fv:Bool):Prop where
 b0:loc[0]? = some [I n,Lx es c]
 b1:loc[1]? = some [L left cl]
 b2:loc[2]? = some [.own 1 (ls.map fun x=>[.sc (.int .u8 x)])]
 b3:loc[3]? = some [O os]
 bk:loc[kk]? = some [I k]
 bf:loc[kf]? = some [Bo fv]
 h4:4<=kk
 h5:4<=kf
 ne:kk ≠ kf
theorem Bx.app {loc n es c left cl ls os kk k kf fv} (h:Bx loc n es c left cl ls os kk k kf fv) (x:List IV):Bx (loc++[x]) n es c left cl ls os kk k kf fv :=
 ⟨Qbm h.b0 _,Qbm h.b1 _,Qbm h.b2 _,Qbm h.b3 _,Qbm h.bk _,Qbm h.bf _,h.h4,h.h5,h.ne⟩
abbrev T6 (kk kf:Nat):Tm:=[(1,.bptr 0 0 0),(5,.bptr 0 1 0),(6,.bptr 0 2 0),(7,.bptr 0 3 0),(8,.bptr 0 kk 0),(9,.bptr 0 kf 0)]
abbrev Qrd:IC:=Jqa
abbrev Qfj:IC:=.block 3 (.seq Jgd (.seq (.seq Jge (.cond (.t 50) (.exit 3) .skip)) (.seq Jgf (.seq (.seq Jgg (.cond (.t 59) Jgh .skip)) (.seq Jgi (.seq Jgj (.exit 2)))))))
theorem asg_C (loc:Qad) (kk kf:Nat) (i v:Int) (left:List Int) (cl:Bool) :
 wp tb Qrd { T:=tput (tput (T6 kk kf++[(37,L left cl)]) 39 (.sc (iv i))) 40 (.sc (iv v)),loc:=loc,M:=[] } fun ex s=>ex=.normal/\s={ T:=T6 kk kf++[(11,.bptr 0 loc.length 0)],loc:=loc++[[I v]],M:=[] }:=by
 refine wq (by simp [Jff,iv];with_reducible rfl) ?_;exact ⟨rfl,rfl⟩
theorem Jru {loc:Qad} {n:Int} {es:List (Int×Int)} {c:Nat×Bool} {left:List Int} {cl:Bool} {ls os:List Int} {kk kf kv:Nat} {k v:Int} (h:Bx loc n es c left cl ls os kk k kf false) (hv:loc[kv]? = some [I v])
 (hl:left.length<=2000000) (he:es.length<=100000000/\(c.1=2 \/ es=[])) (h1:Qhc es left v ≠ 0) (h2:(Qhc es left v:Int) ≠ k) :
 wp tb Qfj { T:=T6 kk kf++[(11,.bptr 0 kv 0)],loc:=loc,M:=[] } fun ex s=>ex=.normal/\∃ T,s={ T:=T,loc:=loc,M:=[] }:=by
 have e1:=Qaa (Qkt left cl Qwa [.bptr 0 kv 0,.bptr 0 0 0] [loc] (fun u=>decide (u ≠ v) && Qn0 es u v) hl (fun u _=>Qjm loc [[]] kv 0 u v n es c hv h.b0 he));rw [show left.countP (fun u=>decide (u ≠ v) && Qn0 es u v)=Qhc es left v from rfl] at e1;have b1:=h.b1;have bk:=h.bk;have Hq:=cj5 e1 b1 bk h1 h2;repeat refine go1 ?_
 exact ⟨rfl,_,rfl⟩
def tkC (loc:Qad) (es:List (Int×Int)) (left ls os:List Int) (kf:Nat) (k:Nat) (v:Int):Qad :=
 (((loc.set 2 [.own 1 ((ls.set k (if 0 < Qhc es left v then 100 else 105)).map fun x=>[.sc (.int .u8 x)])]).set 3 [O (os.set k v)]).set 1 [L (left.filter fun u=>!decide (u=v))]).set kf [Bo true]
theorem Jrv {loc:Qad} {n:Int} {es:List (Int×Int)} {c:Nat×Bool} {left:List Int} {cl:Bool} {ls os:List Int} {kk kf kv:Nat} {k:Nat} {v:Int} (h:Bx loc n es c left cl ls os kk k kf false) (hv:loc[kv]? = some [I v]) (h6:4<=kv) (h7:kv ≠ kk) (h8:kv ≠ kf)
 (hl:left.length<=2000000) (he:es.length<=100000000/\(c.1=2 \/ es=[])) (hk1:k < ls.length) (hk2:k < os.length) (h1:Qhc es left v=0 \/ Qhc es left v=k) :
 wp tb Qfj { T:=T6 kk kf++[(11,.bptr 0 kv 0)],loc:=loc,M:=[] } fun ex s=>ex=.exit 2/\∃ T,s={ T:=T,loc:=tkC loc es left ls os kf k v,M:=[] }:=by
 have e1:=Qaa (Qkt left cl Qwa [.bptr 0 kv 0,.bptr 0 0 0] [loc] (fun u=>decide (u ≠ v) && Qn0 es u v) hl (fun u _=>Qjm loc [[]] kv 0 u v n es c hv h.b0 he));rw [show left.countP (fun u=>decide (u ≠ v) && Qn0 es u v)=Qhc es left v from rfl] at e1;have b1:=h.b1;have b2:=h.b2;have b3:=h.b3;have bk:=h.bk;have bf:=h.bf;have n2:¬ 2=kv:=by omega
 have n3:¬ 3=kv:=by omega
 have n4:¬ 2=kk:=by have:=h.h4;omega
 have n5:¬ 3=kk:=by have:=h.h4;omega
 have n6:¬ 2=kf:=by have:=h.h5;omega
 have n7:¬ 3=kf:=by have:=h.h5;omega
 have n8:¬ 1=kf:=by have:=h.h5;omega
 have n9:¬ 1=kk:=by have:=h.h4;omega
 have e3_105:=fun (q:∀ loc1:Qad,loc1[kv]? = some [I v]->True)=>Qaa (Qe1 left Qwb [.bptr 0 kv 0] [((loc.set 2 [.own 1 ((ls.map fun x=>[IV.sc (.int .u8 x)]).set k [.sc (.int .u8 105)])]).set 3 [O (os.set k v)])] (fun u=>decide (u=v)) hl (fun M' u _=>by have q:=Qjn ((loc.set 2 [.own 1 ((ls.map fun x=>[IV.sc (.int .u8 x)]).set k [.sc (.int .u8 105)])]).set 3 [O (os.set k v)]) ([]::M') kv u v (by simp [n2,n3,hv]);simpa using q));have e3_105:=e3_105 fun _ _=>trivial;have e3_100:=fun (q:∀ loc1:Qad,loc1[kv]? = some [I v]->True)=>Qaa (Qe1 left Qwb [.bptr 0 kv 0] [((loc.set 2 [.own 1 ((ls.map fun x=>[IV.sc (.int .u8 x)]).set k [.sc (.int .u8 100)])]).set 3 [O (os.set k v)])] (fun u=>decide (u=v)) hl (fun M' u _=>by have q:=Qjn ((loc.set 2 [.own 1 ((ls.map fun x=>[IV.sc (.int .u8 x)]).set k [.sc (.int .u8 100)])]).set 3 [O (os.set k v)]) ([]::M') kv u v (by simp [n2,n3,hv]);simpa using q));have e3_100:=e3_100 fun _ _=>trivial;have m2:2 < loc.length:=(Kak.1 b2).1;have e2:=Qaa (Qww left cl hl);rcases Kdj (Qhc es left v) with hz | hz
 . have Hq:=cj4 e1 b1 bk hz;repeat refine go1 ?_
   refine Qhp (st1:=_) (by simp [b1,b2,b3,bk,hv,hk1,hk2];with_reducible rfl) (by simp;with_reducible rfl) ?_ ?_
   . intro p hp;simp only [Kaf,Kaw,Kcf] at hp;rcases hp with rfl | rfl | rfl | rfl | rfl | rfl | rfl <;> exact ⟨_,by simp [b1,b2,b3,bk,hv,hk1,hk2,n2,n3,n4,n5];with_reducible rfl,by simp⟩
   have Hq:=cj15 b1 b2 b3 bk bf n2 n3 n4 n5 n6 n7 n8 n9 e2 e3_105;repeat refine go1 ?_
   exact ⟨rfl,[],by simp [tkC,hz,Ker]⟩
 . have hck:Qhc es left v=k:=by omega
   have hk0:k ≠ 0:=by omega
   have hkp:0 < k:=by omega
   rw [hck] at e1;have Hq:=cj4 e1 b1 bk hk0;repeat refine go1 ?_
   refine Qhp (st1:=_) (by simp [b1,b2,b3,bk,hv,hk1,hk2];with_reducible rfl) (by simp;with_reducible rfl) ?_ ?_
   . intro p hp;simp only [Kaf,Kaw,Kcf] at hp;rcases hp with rfl | rfl | rfl | rfl | rfl | rfl | rfl <;> exact ⟨_,by simp [b1,b2,b3,bk,hv,hk1,hk2,n2,n3,n4,n5];with_reducible rfl,by simp⟩
   have Hq:=cj19 b1 b2 b3 bk bf n2 n3 n4 n5 n6 n7 n8 n9 e2 e3_100 hkp hk1 m2 @set232;repeat refine go1 ?_
   exact ⟨rfl,[],by simp [tkC,hck,hkp,Ker]⟩
def bkF (es:List (Int×Int)) (left:List Int) (k:Nat):List Int->Option Int
 | []=>none
 | v::r=>if Qhc es left v=0 \/ Qhc es left v=k then some v else bkF es left k r
theorem Qx6 {n:Int} {es:List (Int×Int)} {c:Nat×Bool} {left:List Int} {cl:Bool} {ls os:List Int} {kk kf:Nat} {k:Nat} {Q:Ex->St->Prop} (hl:left.length<=2000000) (he:es.length<=100000000/\(c.1=2 \/ es=[])) (hk1:k < ls.length) (hk2:k < os.length) :
 ∀ (l:List Int) (loc:Qad),Bx loc n es c left cl ls os kk k kf false->(bkF es left k l=none->∀ ext,Q .normal { T:=T6 kk kf++[(37,L left cl)],loc:=loc++ext,M:=[] }) ->
   (∀ v,bkF es left k l=some v->∀ ext,Q (.exit 2) { T:=T6 kk kf++[(37,L left cl)],loc:=tkC (loc++ext) es left ls os kf k v,M:=[] }) ->
   Je9 (wp tb Qrd) (wp tb Qfj) (T6 kk kf++[(37,L left cl)]) 39 40 Q l { T:=T6 kk kf++[(37,L left cl)],loc:=loc,M:=[] }
 | [],loc,h,h1,h2=>by
   have:=h1 rfl [];simpa [Je9] using this
 | v::r,loc,h,h1,h2=>by
   simp only [Je9];refine Qab (asg_C loc kk kf r.length v left cl) ?_;rintro ex s ⟨rfl,rfl⟩;refine ⟨rfl,?_⟩;have hv:(loc++[[I v]])[loc.length]? = some [I v]:=by simp
   have hkk:kk < loc.length:=(Kak.1 h.bk).1;have hkf:kf < loc.length:=(Kak.1 h.bf).1;have h4:=h.h4;by_cases hc:Qhc es left v=0 \/ Qhc es left v=k
   . refine Qab (Jrv (h.app [I v]) hv (by omega) (by omega) (by omega) hl he hk1 hk2 hc) ?_;rintro ex s ⟨rfl,T,rfl⟩;exact h2 v (by simp [bkF,hc]) [[I v]]
   . refine Qab (Jru (h.app [I v]) hv hl he (fun e=>hc (.inl e)) (fun e=>hc (.inr (by exact_mod_cast e)))) ?_;rintro ex s ⟨rfl,T,rfl⟩;refine Qx6 hl he hk1 hk2 r (loc++[[I v]]) (h.app [I v]) (fun hn ext=>?_) (fun u hu ext=>?_)
     . rw [Kal];exact h1 (by simp [bkF,hc,hn]) _
     . rw [Kal];exact h2 u (by simp [bkF,hc,hu]) _
end Go.Idl
namespace Go.Idl
open Go
def ltr (es:List (Int×Int)) (left:List Int) (v:Int):Int:=if 0 < Qhc es left v then 100 else 105
def coI (es:List (Int×Int)):Nat->List Int->List Int->List Int->Option (List Int×List Int)
 | 0,_,ls,os=>some (ls,os)
 | k+1,left,ls,os=>match bkF es left k left.reverse with
   | none=>none
   | some v=>coI es k (left.filter fun u=>!decide (u=v)) (ltr es left v::ls) (v::os)
structure Bq (loc:Qad) (n:Int) (es:List (Int×Int)) (c:Nat×Bool) (left:List Int) (cl:Bool) (ls:List Int) (os:List Int) (kk:Nat) (k:Int):Prop where
 b0:loc[0]? = some [I n,Lx es c]
 b1:loc[1]? = some [L left cl]
 b2:loc[2]? = some [.own 1 (ls.map fun x=>[.sc (.int .u8 x)])]
 b3:loc[3]? = some [O os]
 bk:loc[kk]? = some [I k]
 h4:4<=kk
theorem Bq.bx {loc n es c left cl ls os kk k} (h:Bq loc n es c left cl ls os kk k):Bx (loc++[[Bo false]]) n es c left cl ls os kk k loc.length false:=by
 have hk:=(Kak.1 h.bk).1;have h4:=h.h4;exact ⟨Qbm h.b0 _,Qbm h.b1 _,Qbm h.b2 _,Qbm h.b3 _,Qbm h.bk _,by simp,h.h4,by omega,by omega⟩
theorem Bx.apps {loc n es c left cl ls os kk k kf fv} (h:Bx loc n es c left cl ls os kk k kf fv) (x:Qad):Bx (loc++x) n es c left cl ls os kk k kf fv :=
 ⟨Qbm h.b0 _,Qbm h.b1 _,Qbm h.b2 _,Qbm h.b3 _,Qbm h.bk _,Qbm h.bf _,h.h4,h.h5,h.ne⟩
theorem Qax {α:Type} {l:List α} {i j:Nat} {x y:α} (h:l[i]? = some x) (hne:j ≠ i):(l.set j y)[i]? = some x:=by
 rw [Kbi hne,h]
theorem Qgr {α:Type} {l:List α} {i:Nat} {x y:α} (h:l[i]? = some x):(l.set i y)[i]? = some y:=by
 rw [Kbl (Kak.1 h).1]
theorem Bx.tk {loc n es c left cl ls os kk kf} {k:Nat} {v:Int} (h:Bx loc n es c left cl ls os kk k kf false) :
 Bx (tkC loc es left ls os kf k v) n es c (left.filter fun u=>!decide (u=v)) false (ls.set k (ltr es left v)) (os.set k v) kk k kf true:=by
 have h4:=h.h4;have h5:=h.h5;have ne:=h.ne;unfold tkC;refine ⟨?_,?_,?_,?_,?_,?_,h4,h5,ne⟩
 . exact Qax (Qax (Qax (Qax h.b0 (by omega)) (by omega)) (by omega)) (by omega)
 . exact Qax (Qgr (Qax (Qax h.b1 (by omega)) (by omega))) (by omega)
 . exact Qax (Qax (Qax (Qgr h.b2) (by omega)) (by omega)) (by omega)
 . exact Qax (Qax (Qgr (Qax h.b3 (by omega))) (by omega)) (by omega)
 . exact Qax (Qax (Qax (Qax h.bk (by omega)) (by omega)) (by omega)) (by omega)
 . exact Qgr (Qax (Qax (Qax h.bf (by omega)) (by omega)) (by omega))
theorem Je3 {α:Type} (m:Nat) (z x:α) (l:List α):(List.replicate (m+1) z++l).set m x=List.replicate m z++x::l:=by
 rw [List.replicate_succ',Kal];rw [Kcl _ _ (by simp)];simp
theorem Jt6 {tb:Tbl} {a b:IC} {st:St} {Q:Ex->St->Prop} (h:wp tb a st fun ex st'=>match ex with
 | .normal=>wp tb b st' Q
 | e=>Q e st'):wp tb (.seq a b) st Q:=by
 simp only [wp];exact h
abbrev T5 (kk:Nat):Tm:=[(1,.bptr 0 0 0),(5,.bptr 0 1 0),(6,.bptr 0 2 0),(7,.bptr 0 3 0),(8,.bptr 0 kk 0)]
def Jlc (r:Option (List Int×List Int)) (ex:Ex) (st:St):Prop:=match r with
 | some (l,o)=>ex=.exit 0/\∃ loc kk,st={ T:=T5 kk++[(34,Bo false)],loc:=loc,M:=[] }/\loc[2]? = some [.own 1 (l.map fun x=>[.sc (.int .u8 x)])]/\loc[3]? = some [O o]
 | none=>ex=.ret/\∃ loc,st={ T:=[(2,.sc (.string ByteArray.empty)),(3,Z),(4,Bo false),(7,.bptr 0 3 0)],loc:=loc,M:=[] }
theorem Qjw {n:Int} {es:List (Int×Int)} {c:Nat×Bool} (he:es.length<=100000000/\(c.1=2 \/ es=[])):∀ (m:Nat) (left:List Int) (cl:Bool) (lsd osd:List Int) (loc:Qad) (kk:Nat),m<=2000000->left.length<=2000000 ->
 Bq loc n es c left cl (List.replicate m 0++lsd) (List.replicate m 0++osd) kk ((m:Int) - 1)->wp tb (.loop Jgc) { T:=T5 kk,loc:=loc,M:=[] } (Jlc (coI es m left lsd osd))
 | 0,left,cl,lsd,osd,loc,kk,hm,hl,h=>by
   have bk:=h.bk;refine jL ?_;have Hq:=bk;repeat refine go1 ?_
   refine ⟨rfl,loc,kk,by simp,?_,?_⟩
   . simpa using h.b2
   . simpa using h.b3
 | m+1,left,cl,lsd,osd,loc,kk,hm,hl,h=>by
   have bk:=h.bk;have b1:=h.b1;have hb:=h.bx;have hm1:(((m+1:Nat):Int) - 1)=(m:Int):=by omega
   rw [hm1] at bk hb;have bb1:=hb.b1;refine jL ?_;have Hq:=bk;repeat refine go1 ?_
   refine Jt6 (Jt5 (by simp [Jp9,bb1];with_reducible rfl) (by simp;with_reducible rfl) (by simp;with_reducible rfl) (Qu2 left) (by simp [Qn1,Jmm]) (by omega) ?_);refine Qx6 (k:=m) (ls:=List.replicate (m+1) 0++lsd) (os:=List.replicate (m+1) 0++osd) hl he (by simp;omega) (by simp;omega) left.reverse _ hb (fun hn ext=>?_) (fun v hv ext=>?_)
   . show wp tb _ _ _;have bf:((loc++[[IV.sc (.bool false)]])++ext)[loc.length]? = some [Bo false]:=Qbm hb.bf _;have Hq:=bf;repeat refine go1 ?_
     have hc:coI es (m+1) left lsd osd=none:=by simp [coI,hn]
     show Jlc _ .ret _;rw [hc];exact ⟨rfl,_,rfl⟩
   . show wp tb _ _ _;have ht:=Bx.tk (v:=v) (Bx.apps hb ext);have hc:coI es (m+1) left lsd osd=coI es m (left.filter fun u=>!decide (u=v)) (ltr es left v::lsd) (v::osd):=by simp [coI,hv]
     rw [hc];rw [Je3,Je3] at ht;generalize tkC ((loc++[[Bo false]])++ext) es left _ _ _ m v=loc2 at ht |-;have bf:=ht.bf;have bk2:=ht.bk;have w:IntKind.i64.wrap ((m:Int) - 1)=(m:Int) - 1:=Qac (by omega) (by omega);have Hq:=cj3 bf bk2 w;repeat refine go1 ?_
     refine Qjw he m _ false _ _ _ _ (by omega) (Kcp (Kei _ _) hl) ⟨Qbm ht.b0 _,Qbm ht.b1 _,Qbm ht.b2 _,Qbm ht.b3 _,by simp,?_⟩;have:=(Kak.1 ht.bk).1;have:=ht.h4;omega
end Go.Idl
namespace Go.Idl
open Go
def Qiq:Option (List Int×List Int)->IV
 | some (l,o)=>.tup [.sc (.string (Qbj l)),O o,Bo true]
 | none=>.tup [.sc (.string ByteArray.empty),Z,Bo false]
theorem Qcv (l:List Int):Qea (l.map fun x=>[.sc (.int .u8 x)])=some l:=by
 induction l with
 | nil=>rfl
 | cons x l ih =>
   simp only [Kbd];show (match Qea _ with | some xs=>some (x::xs) | none=>none)=_;rw [ih]
theorem Qy3 (es:List (Int×Int)) (c:Nat×Bool) (hl:es.length<=100000000/\(c.1=2 \/ es=[])) (e1:Qbq tb Qq8 [] [.agg [I 1,Lx es c]] []=some ⟨Bo true,[],[],[]⟩) :
 Ev tb Qkl [] [.agg [I 1,Lx es c]] [] ⟨Qiq (coI es 1 (Qbx 1 (-1)) [] []),[],[],[]⟩:=by
 have e2:Qbq tb Qhs [] [I 1,I (-1)] []=some ⟨.own 1 [[I 0]],[],[],[]⟩:=Qaa (Qb6 1 (-1) (by omega));refine jC Qwc rfl ?_;have q3:Qcc (I 1)=some 1:=rfl;have Hq:=cj2 e1 e2;repeat refine go1 ?_
 refine Qhq (by simp [Qlb]) (by simp [Qae,q3];with_reducible rfl) (by simp;with_reducible rfl) ?_ ?_
 . intro p hp;simp only [Kaf,Kaw,Kcf] at hp;have f1:∀ a,IV.noK 0 2 3 (.own 1 a)=true:=fun _=>rfl;have f2:∀ e a c,IV.noK 0 2 3 (.lst e a c)=true:=fun _ _ _=>rfl;have f3:∀ v,IV.noK 0 2 3 (.sc v)=true:=fun _=>rfl;rcases hp with rfl | rfl | rfl | rfl | rfl | rfl | rfl | rfl | rfl
   iterate 3 (exact ⟨_,by simp [Qae,q3];with_reducible rfl,.inl (by simp)⟩)
   iterate 4 (refine ⟨_,by simp [Qae,q3];with_reducible rfl,.inr ⟨2,3,by simp,by simp,by simp [St.swB,f1,f2,f3,IV.flat,IV.swb,swN]⟩⟩)
   . exact ⟨_,by simp [Qae,q3];with_reducible rfl,.inl (by simp)⟩
   . refine ⟨_,by simp [Qae,q3];with_reducible rfl,.inr ⟨2,3,by simp,by simp,by simp [St.swB,f1,f2,f3,IV.flat,IV.swb,swN]⟩⟩
 have w2:IntKind.i64.wrap 0=0:=by decide
 have Hq:=w2;iterate 3 refine go1 ?_
 refine Qab (Qjw hl 1 [0] false [] [] _ 4 (by omega) (by simp) ⟨rfl,rfl,rfl,rfl,rfl,by omega⟩) ?_;intro ex st h;rw [show Qbx 1 (-1)=[0] from rfl];unfold Jlc at h;cases hq:coI es 1 [0] [] [] with
 | none =>
   rw [hq] at h;obtain ⟨rfl,loc,rfl⟩:=h;simp [Qgf,Qiq]
 | some r =>
   obtain ⟨l,o⟩:=r;rw [hq] at h;obtain ⟨rfl,loc,kk,rfl,h2,h3⟩:=h;have hm:Qea (List.take l.length (List.map (fun x=>[IV.sc (.int .u8 x)]) l))=some l:=by rw [Kae (by simp)];exact Qcv l
   show wp tb _ _ _;refine Qhp (st1:=_) (by simp [h2,h3,hm];with_reducible rfl) (by simp;with_reducible rfl) ?_ ?_
   . intro p hp;simp only [Kaf,Kaw,Kcf] at hp;subst hp;exact ⟨_,by simp [h2,h3,hm];with_reducible rfl,by simp⟩
   repeat refine go0 ?_
   simp [Qgf,Qiq,h3]
theorem Qy4 (es:List (Int×Int)) (c:Nat×Bool) (hl:es.length<=100000000/\(c.1=2 \/ es=[])) (e1:Qbq tb Qq8 [] [.agg [I 2,Lx es c]] []=some ⟨Bo true,[],[],[]⟩) :
 Ev tb Qkl [] [.agg [I 2,Lx es c]] [] ⟨Qiq (coI es 2 (Qbx 2 (-1)) [] []),[],[],[]⟩:=by
 have e2:Qbq tb Qhs [] [I 2,I (-1)] []=some ⟨.own 1 [[I 0],[I 1]],[],[],[]⟩:=Qaa (Qb6 2 (-1) (by omega));refine jC Qwc rfl ?_;have q3:Qcc (I 2)=some 2:=rfl;have Hq:=cj2 e1 e2;repeat refine go1 ?_
 refine Qhq (by simp [Qlb]) (by simp [Qae,q3];with_reducible rfl) (by simp;with_reducible rfl) ?_ ?_
 . intro p hp;simp only [Kaf,Kaw,Kcf] at hp;have f1:∀ a,IV.noK 0 2 3 (.own 1 a)=true:=fun _=>rfl;have f2:∀ e a c,IV.noK 0 2 3 (.lst e a c)=true:=fun _ _ _=>rfl;have f3:∀ v,IV.noK 0 2 3 (.sc v)=true:=fun _=>rfl;rcases hp with rfl | rfl | rfl | rfl | rfl | rfl | rfl | rfl | rfl
   iterate 3 (exact ⟨_,by simp [Qae,q3];with_reducible rfl,.inl (by simp)⟩)
   iterate 4 (refine ⟨_,by simp [Qae,q3];with_reducible rfl,.inr ⟨2,3,by simp,by simp,by simp [St.swB,f1,f2,f3,IV.flat,IV.swb,swN]⟩⟩)
   . exact ⟨_,by simp [Qae,q3];with_reducible rfl,.inl (by simp)⟩
   . refine ⟨_,by simp [Qae,q3];with_reducible rfl,.inr ⟨2,3,by simp,by simp,by simp [St.swB,f1,f2,f3,IV.flat,IV.swb,swN]⟩⟩
 have w2:IntKind.i64.wrap 1=1:=by decide
 have Hq:=w2;iterate 3 refine go1 ?_
 refine Qab (Qjw hl 2 [0,1] false [] [] _ 4 (by omega) (by simp) ⟨rfl,rfl,rfl,rfl,rfl,by omega⟩) ?_;intro ex st h;rw [show Qbx 2 (-1)=[0,1] from rfl];unfold Jlc at h;cases hq:coI es 2 [0,1] [] [] with
 | none =>
   rw [hq] at h;obtain ⟨rfl,loc,rfl⟩:=h;simp [Qgf,Qiq]
 | some r =>
   obtain ⟨l,o⟩:=r;rw [hq] at h;obtain ⟨rfl,loc,kk,rfl,h2,h3⟩:=h;have hm:Qea (List.take l.length (List.map (fun x=>[IV.sc (.int .u8 x)]) l))=some l:=by rw [Kae (by simp)];exact Qcv l
   show wp tb _ _ _;refine Qhp (st1:=_) (by simp [h2,h3,hm];with_reducible rfl) (by simp;with_reducible rfl) ?_ ?_
   . intro p hp;simp only [Kaf,Kaw,Kcf] at hp;subst hp;exact ⟨_,by simp [h2,h3,hm];with_reducible rfl,by simp⟩
   repeat refine go0 ?_
   simp [Qgf,Qiq,h3]
theorem Qy5 (es:List (Int×Int)) (c:Nat×Bool) (hl:es.length<=100000000/\(c.1=2 \/ es=[])) (e1:Qbq tb Qq8 [] [.agg [I 3,Lx es c]] []=some ⟨Bo true,[],[],[]⟩) :
 Ev tb Qkl [] [.agg [I 3,Lx es c]] [] ⟨Qiq (coI es 3 (Qbx 3 (-1)) [] []),[],[],[]⟩:=by
 have e2:Qbq tb Qhs [] [I 3,I (-1)] []=some ⟨.own 1 [[I 0],[I 1],[I 2]],[],[],[]⟩:=Qaa (Qb6 3 (-1) (by omega));refine jC Qwc rfl ?_;have q3:Qcc (I 3)=some 3:=rfl;have Hq:=cj2 e1 e2;repeat refine go1 ?_
 refine Qhq (by simp [Qlb]) (by simp [Qae,q3];with_reducible rfl) (by simp;with_reducible rfl) ?_ ?_
 . intro p hp;simp only [Kaf,Kaw,Kcf] at hp;have f1:∀ a,IV.noK 0 2 3 (.own 1 a)=true:=fun _=>rfl;have f2:∀ e a c,IV.noK 0 2 3 (.lst e a c)=true:=fun _ _ _=>rfl;have f3:∀ v,IV.noK 0 2 3 (.sc v)=true:=fun _=>rfl;rcases hp with rfl | rfl | rfl | rfl | rfl | rfl | rfl | rfl | rfl
   iterate 3 (exact ⟨_,by simp [Qae,q3];with_reducible rfl,.inl (by simp)⟩)
   iterate 4 (refine ⟨_,by simp [Qae,q3];with_reducible rfl,.inr ⟨2,3,by simp,by simp,by simp [St.swB,f1,f2,f3,IV.flat,IV.swb,swN]⟩⟩)
   . exact ⟨_,by simp [Qae,q3];with_reducible rfl,.inl (by simp)⟩
   . refine ⟨_,by simp [Qae,q3];with_reducible rfl,.inr ⟨2,3,by simp,by simp,by simp [St.swB,f1,f2,f3,IV.flat,IV.swb,swN]⟩⟩
 have w2:IntKind.i64.wrap 2=2:=by decide
 have Hq:=w2;iterate 3 refine go1 ?_
 refine Qab (Qjw hl 3 [0,1,2] false [] [] _ 4 (by omega) (by simp) ⟨rfl,rfl,rfl,rfl,rfl,by omega⟩) ?_;intro ex st h;rw [show Qbx 3 (-1)=[0,1,2] from rfl];unfold Jlc at h;cases hq:coI es 3 [0,1,2] [] [] with
 | none =>
   rw [hq] at h;obtain ⟨rfl,loc,rfl⟩:=h;simp [Qgf,Qiq]
 | some r =>
   obtain ⟨l,o⟩:=r;rw [hq] at h;obtain ⟨rfl,loc,kk,rfl,h2,h3⟩:=h;have hm:Qea (List.take l.length (List.map (fun x=>[IV.sc (.int .u8 x)]) l))=some l:=by rw [Kae (by simp)];exact Qcv l
   show wp tb _ _ _;refine Qhp (st1:=_) (by simp [h2,h3,hm];with_reducible rfl) (by simp;with_reducible rfl) ?_ ?_
   . intro p hp;simp only [Kaf,Kaw,Kcf] at hp;subst hp;exact ⟨_,by simp [h2,h3,hm];with_reducible rfl,by simp⟩
   repeat refine go0 ?_
   simp [Qgf,Qiq,h3]
theorem Qy6 (es:List (Int×Int)) (c:Nat×Bool) (hl:es.length<=100000000/\(c.1=2 \/ es=[])) (e1:Qbq tb Qq8 [] [.agg [I 4,Lx es c]] []=some ⟨Bo true,[],[],[]⟩) :
 Ev tb Qkl [] [.agg [I 4,Lx es c]] [] ⟨Qiq (coI es 4 (Qbx 4 (-1)) [] []),[],[],[]⟩:=by
 have e2:Qbq tb Qhs [] [I 4,I (-1)] []=some ⟨.own 1 [[I 0],[I 1],[I 2],[I 3]],[],[],[]⟩:=Qaa (Qb6 4 (-1) (by omega));refine jC Qwc rfl ?_;have q3:Qcc (I 4)=some 4:=rfl;have Hq:=cj2 e1 e2;repeat refine go1 ?_
 refine Qhq (by simp [Qlb]) (by simp [Qae,q3];with_reducible rfl) (by simp;with_reducible rfl) ?_ ?_
 . intro p hp;simp only [Kaf,Kaw,Kcf] at hp;have f1:∀ a,IV.noK 0 2 3 (.own 1 a)=true:=fun _=>rfl;have f2:∀ e a c,IV.noK 0 2 3 (.lst e a c)=true:=fun _ _ _=>rfl;have f3:∀ v,IV.noK 0 2 3 (.sc v)=true:=fun _=>rfl;rcases hp with rfl | rfl | rfl | rfl | rfl | rfl | rfl | rfl | rfl
   iterate 3 (exact ⟨_,by simp [Qae,q3];with_reducible rfl,.inl (by simp)⟩)
   iterate 4 (refine ⟨_,by simp [Qae,q3];with_reducible rfl,.inr ⟨2,3,by simp,by simp,by simp [St.swB,f1,f2,f3,IV.flat,IV.swb,swN]⟩⟩)
   . exact ⟨_,by simp [Qae,q3];with_reducible rfl,.inl (by simp)⟩
   . refine ⟨_,by simp [Qae,q3];with_reducible rfl,.inr ⟨2,3,by simp,by simp,by simp [St.swB,f1,f2,f3,IV.flat,IV.swb,swN]⟩⟩
 have w2:IntKind.i64.wrap 3=3:=by decide
 have Hq:=w2;iterate 3 refine go1 ?_
 refine Qab (Qjw hl 4 [0,1,2,3] false [] [] _ 4 (by omega) (by simp) ⟨rfl,rfl,rfl,rfl,rfl,by omega⟩) ?_;intro ex st h;rw [show Qbx 4 (-1)=[0,1,2,3] from rfl];unfold Jlc at h;cases hq:coI es 4 [0,1,2,3] [] [] with
 | none =>
   rw [hq] at h;obtain ⟨rfl,loc,rfl⟩:=h;simp [Qgf,Qiq]
 | some r =>
   obtain ⟨l,o⟩:=r;rw [hq] at h;obtain ⟨rfl,loc,kk,rfl,h2,h3⟩:=h;have hm:Qea (List.take l.length (List.map (fun x=>[IV.sc (.int .u8 x)]) l))=some l:=by rw [Kae (by simp)];exact Qcv l
   show wp tb _ _ _;refine Qhp (st1:=_) (by simp [h2,h3,hm];with_reducible rfl) (by simp;with_reducible rfl) ?_ ?_
   . intro p hp;simp only [Kaf,Kaw,Kcf] at hp;subst hp;exact ⟨_,by simp [h2,h3,hm];with_reducible rfl,by simp⟩
   repeat refine go0 ?_
   simp [Qgf,Qiq,h3]
theorem Qy7 (es:List (Int×Int)) (c:Nat×Bool) (hl:es.length<=100000000/\(c.1=2 \/ es=[])) (e1:Qbq tb Qq8 [] [.agg [I 5,Lx es c]] []=some ⟨Bo true,[],[],[]⟩) :
 Ev tb Qkl [] [.agg [I 5,Lx es c]] [] ⟨Qiq (coI es 5 (Qbx 5 (-1)) [] []),[],[],[]⟩:=by
 have e2:Qbq tb Qhs [] [I 5,I (-1)] []=some ⟨.own 1 [[I 0],[I 1],[I 2],[I 3],[I 4]],[],[],[]⟩:=Qaa (Qb6 5 (-1) (by omega));refine jC Qwc rfl ?_;have q3:Qcc (I 5)=some 5:=rfl;have Hq:=cj2 e1 e2;repeat refine go1 ?_
 refine Qhq (by simp [Qlb]) (by simp [Qae,q3];with_reducible rfl) (by simp;with_reducible rfl) ?_ ?_
 . intro p hp;simp only [Kaf,Kaw,Kcf] at hp;have f1:∀ a,IV.noK 0 2 3 (.own 1 a)=true:=fun _=>rfl;have f2:∀ e a c,IV.noK 0 2 3 (.lst e a c)=true:=fun _ _ _=>rfl;have f3:∀ v,IV.noK 0 2 3 (.sc v)=true:=fun _=>rfl;rcases hp with rfl | rfl | rfl | rfl | rfl | rfl | rfl | rfl | rfl
   iterate 3 (exact ⟨_,by simp [Qae,q3];with_reducible rfl,.inl (by simp)⟩)
   iterate 4 (refine ⟨_,by simp [Qae,q3];with_reducible rfl,.inr ⟨2,3,by simp,by simp,by simp [St.swB,f1,f2,f3,IV.flat,IV.swb,swN]⟩⟩)
   . exact ⟨_,by simp [Qae,q3];with_reducible rfl,.inl (by simp)⟩
   . refine ⟨_,by simp [Qae,q3];with_reducible rfl,.inr ⟨2,3,by simp,by simp,by simp [St.swB,f1,f2,f3,IV.flat,IV.swb,swN]⟩⟩
 have w2:IntKind.i64.wrap 4=4:=by decide
 have Hq:=w2;iterate 3 refine go1 ?_
 refine Qab (Qjw hl 5 [0,1,2,3,4] false [] [] _ 4 (by omega) (by simp) ⟨rfl,rfl,rfl,rfl,rfl,by omega⟩) ?_;intro ex st h;rw [show Qbx 5 (-1)=[0,1,2,3,4] from rfl];unfold Jlc at h;cases hq:coI es 5 [0,1,2,3,4] [] [] with
 | none =>
   rw [hq] at h;obtain ⟨rfl,loc,rfl⟩:=h;simp [Qgf,Qiq]
 | some r =>
   obtain ⟨l,o⟩:=r;rw [hq] at h;obtain ⟨rfl,loc,kk,rfl,h2,h3⟩:=h;have hm:Qea (List.take l.length (List.map (fun x=>[IV.sc (.int .u8 x)]) l))=some l:=by rw [Kae (by simp)];exact Qcv l
   show wp tb _ _ _;refine Qhp (st1:=_) (by simp [h2,h3,hm];with_reducible rfl) (by simp;with_reducible rfl) ?_ ?_
   . intro p hp;simp only [Kaf,Kaw,Kcf] at hp;subst hp;exact ⟨_,by simp [h2,h3,hm];with_reducible rfl,by simp⟩
   repeat refine go0 ?_
   simp [Qgf,Qiq,h3]
theorem Qy8 (es:List (Int×Int)) (c:Nat×Bool) (hl:es.length<=100000000/\(c.1=2 \/ es=[])) (e1:Qbq tb Qq8 [] [.agg [I 6,Lx es c]] []=some ⟨Bo true,[],[],[]⟩) :
 Ev tb Qkl [] [.agg [I 6,Lx es c]] [] ⟨Qiq (coI es 6 (Qbx 6 (-1)) [] []),[],[],[]⟩:=by
 have e2:Qbq tb Qhs [] [I 6,I (-1)] []=some ⟨.own 1 [[I 0],[I 1],[I 2],[I 3],[I 4],[I 5]],[],[],[]⟩:=Qaa (Qb6 6 (-1) (by omega));refine jC Qwc rfl ?_;have q3:Qcc (I 6)=some 6:=rfl;have Hq:=cj2 e1 e2;repeat refine go1 ?_
 refine Qhq (by simp [Qlb]) (by simp [Qae,q3];with_reducible rfl) (by simp;with_reducible rfl) ?_ ?_
 . intro p hp;simp only [Kaf,Kaw,Kcf] at hp;have f1:∀ a,IV.noK 0 2 3 (.own 1 a)=true:=fun _=>rfl;have f2:∀ e a c,IV.noK 0 2 3 (.lst e a c)=true:=fun _ _ _=>rfl;have f3:∀ v,IV.noK 0 2 3 (.sc v)=true:=fun _=>rfl;rcases hp with rfl | rfl | rfl | rfl | rfl | rfl | rfl | rfl | rfl
   iterate 3 (exact ⟨_,by simp [Qae,q3];with_reducible rfl,.inl (by simp)⟩)
   iterate 4 (refine ⟨_,by simp [Qae,q3];with_reducible rfl,.inr ⟨2,3,by simp,by simp,by simp [St.swB,f1,f2,f3,IV.flat,IV.swb,swN]⟩⟩)
   . exact ⟨_,by simp [Qae,q3];with_reducible rfl,.inl (by simp)⟩
   . refine ⟨_,by simp [Qae,q3];with_reducible rfl,.inr ⟨2,3,by simp,by simp,by simp [St.swB,f1,f2,f3,IV.flat,IV.swb,swN]⟩⟩
 have w2:IntKind.i64.wrap 5=5:=by decide
 have Hq:=w2;iterate 3 refine go1 ?_
 refine Qab (Qjw hl 6 [0,1,2,3,4,5] false [] [] _ 4 (by omega) (by simp) ⟨rfl,rfl,rfl,rfl,rfl,by omega⟩) ?_;intro ex st h;rw [show Qbx 6 (-1)=[0,1,2,3,4,5] from rfl];unfold Jlc at h;cases hq:coI es 6 [0,1,2,3,4,5] [] [] with
 | none =>
   rw [hq] at h;obtain ⟨rfl,loc,rfl⟩:=h;simp [Qgf,Qiq]
 | some r =>
   obtain ⟨l,o⟩:=r;rw [hq] at h;obtain ⟨rfl,loc,kk,rfl,h2,h3⟩:=h;have hm:Qea (List.take l.length (List.map (fun x=>[IV.sc (.int .u8 x)]) l))=some l:=by rw [Kae (by simp)];exact Qcv l
   show wp tb _ _ _;refine Qhp (st1:=_) (by simp [h2,h3,hm];with_reducible rfl) (by simp;with_reducible rfl) ?_ ?_
   . intro p hp;simp only [Kaf,Kaw,Kcf] at hp;subst hp;exact ⟨_,by simp [h2,h3,hm];with_reducible rfl,by simp⟩
   repeat refine go0 ?_
   simp [Qgf,Qiq,h3]
theorem Qy9 (es:List (Int×Int)) (c:Nat×Bool) (hl:es.length<=100000000/\(c.1=2 \/ es=[])) (e1:Qbq tb Qq8 [] [.agg [I 7,Lx es c]] []=some ⟨Bo true,[],[],[]⟩) :
 Ev tb Qkl [] [.agg [I 7,Lx es c]] [] ⟨Qiq (coI es 7 (Qbx 7 (-1)) [] []),[],[],[]⟩:=by
 have e2:Qbq tb Qhs [] [I 7,I (-1)] []=some ⟨.own 1 [[I 0],[I 1],[I 2],[I 3],[I 4],[I 5],[I 6]],[],[],[]⟩:=Qaa (Qb6 7 (-1) (by omega));refine jC Qwc rfl ?_;have q3:Qcc (I 7)=some 7:=rfl;have Hq:=cj2 e1 e2;repeat refine go1 ?_
 refine Qhq (by simp [Qlb]) (by simp [Qae,q3];with_reducible rfl) (by simp;with_reducible rfl) ?_ ?_
 . intro p hp;simp only [Kaf,Kaw,Kcf] at hp;have f1:∀ a,IV.noK 0 2 3 (.own 1 a)=true:=fun _=>rfl;have f2:∀ e a c,IV.noK 0 2 3 (.lst e a c)=true:=fun _ _ _=>rfl;have f3:∀ v,IV.noK 0 2 3 (.sc v)=true:=fun _=>rfl;rcases hp with rfl | rfl | rfl | rfl | rfl | rfl | rfl | rfl | rfl
   iterate 3 (exact ⟨_,by simp [Qae,q3];with_reducible rfl,.inl (by simp)⟩)
   iterate 4 (refine ⟨_,by simp [Qae,q3];with_reducible rfl,.inr ⟨2,3,by simp,by simp,by simp [St.swB,f1,f2,f3,IV.flat,IV.swb,swN]⟩⟩)
   . exact ⟨_,by simp [Qae,q3];with_reducible rfl,.inl (by simp)⟩
   . refine ⟨_,by simp [Qae,q3];with_reducible rfl,.inr ⟨2,3,by simp,by simp,by simp [St.swB,f1,f2,f3,IV.flat,IV.swb,swN]⟩⟩
 have w2:IntKind.i64.wrap 6=6:=by decide
 have Hq:=w2;iterate 3 refine go1 ?_
 refine Qab (Qjw hl 7 [0,1,2,3,4,5,6] false [] [] _ 4 (by omega) (by simp) ⟨rfl,rfl,rfl,rfl,rfl,by omega⟩) ?_;intro ex st h;rw [show Qbx 7 (-1)=[0,1,2,3,4,5,6] from rfl];unfold Jlc at h;cases hq:coI es 7 [0,1,2,3,4,5,6] [] [] with
 | none =>
   rw [hq] at h;obtain ⟨rfl,loc,rfl⟩:=h;simp [Qgf,Qiq]
 | some r =>
   obtain ⟨l,o⟩:=r;rw [hq] at h;obtain ⟨rfl,loc,kk,rfl,h2,h3⟩:=h;have hm:Qea (List.take l.length (List.map (fun x=>[IV.sc (.int .u8 x)]) l))=some l:=by rw [Kae (by simp)];exact Qcv l
   show wp tb _ _ _;refine Qhp (st1:=_) (by simp [h2,h3,hm];with_reducible rfl) (by simp;with_reducible rfl) ?_ ?_
   . intro p hp;simp only [Kaf,Kaw,Kcf] at hp;subst hp;exact ⟨_,by simp [h2,h3,hm];with_reducible rfl,by simp⟩
   repeat refine go0 ?_
   simp [Qgf,Qiq,h3]
theorem Qnu (n:Int) (es:List (Int×Int)) (c:Bool) (hf:Fit es) (hl:es.length<=100000000) (hv:Qak n es=true) (hn:n ≠ 0) :
 Ev tb Qkl [] [Gr n es c] [] ⟨Qiq (coI es n.toNat (Qbx n.toNat (-1)) [] []),[],[],[]⟩:=by
 have hv':=hv;simp only [Qak,Kac,Kai] at hv';have e1:=Qaa (Qdb n es c hf hl);rw [hv] at e1;have h7:n=1 \/ n=2 \/ n=3 \/ n=4 \/ n=5 \/ n=6 \/ n=7:=by omega
 rcases h7 with rfl | rfl | rfl | rfl | rfl | rfl | rfl
 . exact Qy3 es (2,c) ⟨hl,.inl rfl⟩ e1
 . exact Qy4 es (2,c) ⟨hl,.inl rfl⟩ e1
 . exact Qy5 es (2,c) ⟨hl,.inl rfl⟩ e1
 . exact Qy6 es (2,c) ⟨hl,.inl rfl⟩ e1
 . exact Qy7 es (2,c) ⟨hl,.inl rfl⟩ e1
 . exact Qy8 es (2,c) ⟨hl,.inl rfl⟩ e1
 . exact Qy9 es (2,c) ⟨hl,.inl rfl⟩ e1
end Go.Idl
namespace Go.Idl
structure Seg {α:Type} (X X':List α) (a b:Nat):Prop where
 perm:X'.Perm X
 out:∀ k,k < a \/ b<=k->X'[k]? = X[k]?
theorem Seg.len {α:Type} {X X':List α} {a b:Nat} (h:Seg X X' a b):X'.length=X.length:=h.perm.length_eq
theorem Seg.refl {α:Type} (X:List α) (a b:Nat):Seg X X a b:=⟨.refl _,fun _ _=>rfl⟩
theorem Seg.trans {α:Type} {X Y Z:List α} {a b:Nat} (h:Seg X Y a b) (k:Seg Y Z a b):Seg X Z a b:=⟨k.perm.trans h.perm,fun i hi=>(k.out i hi).trans (h.out i hi)⟩
theorem Seg.mono {α:Type} {X Y:List α} {a b a' b':Nat} (h:Seg X Y a b) (h1:a'<=a) (h2:b<=b'):Seg X Y a' b':=⟨h.perm,fun i hi=>h.out i (by omega)⟩
theorem Seg.nodup {α:Type} {X Y:List α} {a b:Nat} (h:Seg X Y a b) (hn:X.Nodup):Y.Nodup:=h.perm.nodup_iff.2 hn
def Qfa {α:Type} (X:List α) (i j:Nat) (hi:i < X.length) (hj:j < X.length):List α:=(X.set i X[j]).set j X[i]
theorem Qtk {α:Type} (X:List α) (i j:Nat) (hi hj):(Qfa X i j hi hj).length=X.length:=by simp [Qfa]
theorem Qc3 {α:Type} (X:List α) (i j:Nat) (hi:i < X.length) (hj:j < X.length) (k:Nat):(Qfa X i j hi hj)[k]? = if k=j then some X[i] else if k=i then some X[j] else X[k]?:=by
 rw [Qfa,Kdp,Kdp];by_cases h1:k=j
 . subst h1;simp [hj]
 . by_cases h2:k=i
   . subst h2;simp [hi,h1,Ne.symm h1]
   . simp [h1,h2,Ne.symm h1,Ne.symm h2]
theorem Jae {α:Type} (X:List α) (i j:Nat) (hi:i < X.length) (hj:j < X.length):(Qfa X i j hi hj).Perm X:=by
 exact List.set_set_perm hi hj
theorem Qgd {α:Type} (X:List α) (i j a b:Nat) (hi:i < X.length) (hj:j < X.length) (h1:a<=i/\i < b) (h2:a<=j/\j < b):Seg X (Qfa X i j hi hj) a b :=
 ⟨Jae X i j hi hj,fun k hk=>by rw [Qc3,if_neg (by omega),if_neg (by omega)]⟩
theorem Seg.back {α:Type} {X Y:List α} {a b:Nat} (h:Seg X Y a b) (hn:X.Nodup) {k:Nat} (hk:a<=k/\k < b) {e:α} (he:Y[k]? = some e):∃ l,(a<=l/\l < b)/\X[l]? = some e:=by
 have hm:e ∈ X:=h.perm.mem_iff.1 (Kbn he);obtain ⟨l,hl,rfl⟩:=List.getElem_of_mem hm;by_cases hlb:a<=l/\l < b
 . exact ⟨l,hlb,Kag hl⟩
 . have h1:=h.out l (by omega);rw [Kag hl] at h1;have hny:=h.nodup hn;have hkl:k < Y.length:=(Kak.1 he).1;have hll:l < Y.length:=by rw [h.len];exact hl
   have h2:=(Kak.1 he).2;have h3:=(Kak.1 h1).2;have h4:k=l:=(Keo hny).1 (h2.trans h3.symm);omega
end Go.Idl
namespace Go.Idl
open Go
def DE (x:Int×Int):Prop:=0<=x.1/\x.1 < 9223372036854775808/\0<=x.2/\x.2 < 9223372036854775808
abbrev fcE:IV:=.fn Jkm []
theorem Qft {a b:Int×Int} (ha:DE a) (hb:DE b) (M:List Qad):Ev tb Jkm [] [.agg [I a.1,I a.2],.agg [I b.1,I b.2]] M ⟨I (Qq5 a b),[],M,[]⟩:=Qfu a b ha hb M
theorem Jdf (X:List (Int×Int)) (hX:∀ x ∈ X,DE x) (i j s:Nat) (hi:i < X.length) (hj:j < X.length) (hs:s<=1000) (Ms Es:List Qad) :
 Ev tb Qtt [0] [O2 X,I i,I j,.bptr Ms.length 0 0,fcE] (Ms++[[I s]]::Es)
  ⟨.tup (if Qal X[j] X[i] then [I j,I i] else [I i,I j]),[O2 X],Ms++[[I (if Qal X[j] X[i] then s+1 else s:Nat)]]::Es,[]⟩:=by
 have hb:=Qcb X[j] X[i];have e1:=fun M=>Qaa (Qft (hX _ (Kao hj)) (hX _ (Kao hi)) M);have w1:IntKind.i64.wrap ((s:Int)+1)=(s:Int)+1:=Qac (by omega) (by omega);have hln:Ms.length+(Es.length+1+1)=Ms.length+(Es.length+1)+1:=by omega
 rw [<- hb];by_cases hc:Qq5 X[j] X[i] < 0
 . refine jC zt456 rfl ?_;have Hq:=cj6 hi hj e1 hc w1 hln;repeat refine go1 ?_
   simp [Jiw,hc]
 . refine jC zt456 rfl ?_;have Hq:=cj6 hi hj e1 hc w1 hln;repeat refine go1 ?_
   simp [Jiw,hc]
theorem Qcl {a b:Int×Int} (h:a ≠ b):Qal a b=true \/ Qal b a=true:=by
 simp only [Qal,Kbj,Kac,Kai];have:¬ (a.1=b.1/\a.2=b.2):=fun h2=>h (Prod.ext h2.1 h2.2);omega
theorem Qhb {a b:Int×Int} (h:Qal a b=true):Qal b a=false:=by
 rw [<- Kep];simp only [Qal,Kbj,Kac,Kai] at *
 omega
theorem Qu7 (X:List (Int×Int)) (hX:∀ x ∈ X,DE x) (hn:X.Nodup) (i j s:Nat) (hi:i < X.length) (hj:j < X.length) (hij:i ≠ j) (hs:s<=1000) (Ms Es:List Qad) :
 ∃ a b s':Nat,((a=i/\b=j) \/ (a=j/\b=i))/\s'<=s+1/\(∀ ha hb,Qal (X[a]'ha) (X[b]'hb)=true) /\
   Qbq tb Qtt [0] [O2 X,I i,I j,.bptr Ms.length 0 0,fcE] (Ms++[[I s]]::Es)=some ⟨.tup [I a,I b],[O2 X],Ms++[[I s']]::Es,[]⟩:=by
 have e:=Qaa (Jdf X hX i j s hi hj hs Ms Es);have hne:X[i] ≠ X[j]:=fun h=>hij ((Keo hn).1 h);cases hb:Qal X[j] X[i] with
 | true =>
   rw [hb] at e;exact ⟨j,i,s+1,.inr ⟨rfl,rfl⟩,by omega,fun _ _=>hb,e⟩
 | false =>
   rw [hb] at e;refine ⟨i,j,s,.inl ⟨rfl,rfl⟩,by omega,fun _ _=>?_,e⟩;rcases Qcl hne with h | h
   . exact h
   . rw [hb] at h;cases h
theorem Jde (X:List (Int×Int)) (hX:∀ x ∈ X,DE x) (hn:X.Nodup) (i j k s:Nat) (hi:i < X.length) (hj:j < X.length) (hk:k < X.length) (hij:i ≠ j) (hik:i ≠ k) (hjk:j ≠ k) (hs:s<=900) (Ms Es:List Qad) :
 ∃ m s':Nat,s'<=s+3/\(m=i \/ m=j \/ m=k)/\(∃ p,(p=i \/ p=j \/ p=k)/\∀ h1 h2,Qal (X[p]'h1) (X[m]'h2)=true)/\(∃ p,(p=i \/ p=j \/ p=k)/\∀ h1 h2,Qal (X[m]'h1) (X[p]'h2)=true) /\
   Ev tb Jkb [0] [O2 X,I i,I j,I k,.bptr Ms.length 0 0,fcE] (Ms++[[I s]]::Es) ⟨I m,[O2 X],Ms++[[I s']]::Es,[]⟩:=by
 obtain ⟨a1,b1,s1,h1,k1,o1,e1⟩:=Qu7 X hX hn i j s hi hj hij (by omega) Ms (Es++[[]]);have ha1:a1 < X.length:=by omega
 have hb1:b1 < X.length:=by omega
 obtain ⟨b2,c2,s2,h2,k2,o2,e2⟩:=Qu7 X hX hn b1 k s1 hb1 hk (by omega) (by omega) Ms (Es++[[]]);have hb2:b2 < X.length:=by omega
 have hc2:c2 < X.length:=by omega
 obtain ⟨a3,b3,s3,h3,k3,o3,e3⟩:=Qu7 X hX hn a1 b2 s2 ha1 hb2 (by omega) (by omega) Ms (Es++[[]]);have ha3:a3 < X.length:=by omega
 have hb3:b3 < X.length:=by omega
 refine ⟨b3,s3,by omega,by omega,⟨a3,by omega,fun _ _=>o3 ha3 hb3⟩,?_,?_⟩
 . rcases h3 with ⟨_,rfl⟩ | ⟨_,rfl⟩
   . exact ⟨c2,by omega,fun _ _=>o2 hb2 hc2⟩
   . exact ⟨b1,by omega,fun _ _=>o1 ha1 hb1⟩
 . have hln:Ms.length+(Es.length+1+1)=Ms.length+(Es.length+1)+1:=by omega
   refine jC zt454 rfl ?_;have Hq:=cj4 e1 e2 e3 hln;repeat refine go1 ?_
   simp [Jo0]
set_option maxHeartbeats 2000000 in
theorem Qnr (X:List (Int×Int)) (hX:∀ x ∈ X,DE x) (hn:X.Nodup) (hl:X.length<=2000000) (a n:Nat) (hab:a+n<=X.length) (h13:13<=n) (h49:n<=49) (M:List Qad) :
 ∃ (m:Nat) (hint:Int),(a<=m/\m < a+n)/\(hint=0 \/ hint=1)/\(∃ p,(a<=p/\p < a+n)/\∀ h1 h2,Qal (X[p]'h1) (X[m]'h2)=true)/\(∃ p,(a<=p/\p < a+n)/\∀ h1 h2,Qal (X[m]'h1) (X[p]'h2)=true) /\
   Ev tb Jka [0] [O2 X,I a,I ((a:Int)+n),fcE] M ⟨.tup [I m,I hint],[O2 X],M,[]⟩:=by
 obtain ⟨q,hq⟩:∃ q,q=n / 4:=⟨_,rfl⟩;have hq1:3<=q/\q * 3 < n:=by omega
 obtain ⟨m,s',h1,h2,⟨p1,h3,h4⟩,⟨p2,h5,h6⟩,e⟩:=Jde X hX hn (a+q) (a+q * 2) (a+q * 3) 0 (by omega) (by omega) (by omega) (by omega) (by omega) (by omega) (by omega) M [];have e1:=Qaa e;have t1:(n:Int).tdiv 4=(q:Int):=by rw [Kds (by omega)];omega
 have w0:IntKind.i64.wrap (n:Int)=(n:Int):=Qac (by omega) (by omega);have w00:(a:Int)+n - a=n:=by omega
 have w1:IntKind.i64.wrap (q:Int)=(q:Int):=Qac (by omega) (by omega);have w2:IntKind.i64.wrap ((q:Int) * 2)=(q:Int) * 2:=Qac (by omega) (by omega);have w3:IntKind.i64.wrap ((q:Int) * 3)=(q:Int) * 3:=Qac (by omega) (by omega);have w4:IntKind.i64.wrap ((a:Int)+q)=(a:Int)+q:=Qac (by omega) (by omega);have w5:IntKind.i64.wrap ((a:Int)+q * 2)=(a:Int)+q * 2:=Qac (by omega) (by omega);have w6:IntKind.i64.wrap ((a:Int)+q * 3)=(a:Int)+q * 3:=Qac (by omega) (by omega);have g1:(8:Int)<=n:=by omega
 have g1':8<=n:=by omega
 have g2:¬ (50:Int)<=n:=by omega
 have g2':¬ 50<=n:=by omega
 rw [show ((a+q:Nat):Int)=(a:Int)+q by omega,show ((a+q * 2:Nat):Int)=(a:Int)+q * 2 by omega,show ((a+q * 3:Nat):Int)=(a:Int)+q * 3 by omega,show ((0:Nat):Int)=0 from rfl] at e1;by_cases hs0:s'=0
 . subst hs0;refine ⟨m,1,by omega,.inr rfl,⟨p1,by omega,h4⟩,⟨p2,by omega,h6⟩,?_⟩;refine jC zt450 rfl ?_;have Hq:=cj14 e1 t1 w00 w0 w1 w2 w3 w4 w5 w6 g1 g2 g1' g2';repeat refine go1 ?_
   simp [Jiv]
 . have hs1:¬ (s':Int)=0:=by omega
   have hs2:¬ (s':Int)=12:=by omega
   have hs3:¬ s'=12:=by omega
   refine ⟨m,0,by omega,.inl rfl,⟨p1,by omega,h4⟩,⟨p2,by omega,h6⟩,?_⟩;refine jC zt450 rfl ?_;have Hq:=cj18 e1 t1 w00 w0 w1 w2 w3 w4 w5 w6 g1 g2 g1' g2' hs0 hs1 hs2 hs3;repeat refine go1 ?_
   simp [Jiv]
end Go.Idl
namespace Go.Idl
open Go
def Qiy (X:List (Int×Int)) (lo hi:Nat) (x:Int×Int):Prop:=∀ k e,lo<=k->k < hi->X[k]? = some e->Qal e x=true
def Qex (X:List (Int×Int)) (lo hi:Nat) (x:Int×Int):Prop:=∀ k e,lo<=k->k < hi->X[k]? = some e->Qal e x=false
theorem Qex.cons {X:List (Int×Int)} {lo hi:Nat} {x:Int×Int} (h:Qex X (lo+1) hi x) (hl:lo < X.length) (hb:Qal X[lo] x=false):Qex X lo hi x:=fun k e h1 h2 he=>by
 by_cases hk:k=lo
 . subst hk;rw [Kag hl] at he;cases he;exact hb
 . exact h k e (by omega) h2 he
theorem Js7 (X:List (Int×Int)) (hX:∀ x ∈ X,DE x) (hl:X.length<=2000000) (a j:Nat) (ha:a < X.length) (hj:j < X.length) (M:List Qad):∀ (m i:Nat),i+m=j+1 ->
 wp tb (.loop Jqr) { T:=[(0,O2 X),(1,I a),(4,fcE),(12,I i),(13,I j)],loc:=[],M:=M }
  (fun ex st=>ex=.exit 0/\∃ i':Nat,(i<=i'/\i'<=j+1/\Qiy X i i' X[a]/\(∀ h:i'<=j,Qal (X[i']'(by omega)) X[a]=false)) /\
    st={ T:=[(0,O2 X),(1,I a),(4,fcE),(12,I i'),(13,I j),(47,Bo false)],loc:=[],M:=M }):=by
 intro m
 induction m with
 | zero =>
   intro i hi;have h1:¬ i<=j:=by omega
   have h2:¬ (i:Int)<=j:=by omega
   refine jL ?_;have Hq:=cj2 h1 h2;repeat refine go1 ?_
   exact ⟨rfl,i,⟨Kam _,by omega,fun k e k1 k2 _=>by omega,fun h=>absurd h h1⟩,rfl⟩
 | succ m ih =>
   intro i hi;have h1:i<=j:=by omega
   have h2:(i:Int)<=j:=by omega
   have hi2:i < X.length:=by omega
   have w1:IntKind.i64.wrap ((i:Int)+1)=((i+1:Nat):Int):=Qas (by omega);have hb:=Qcb X[i] X[a];have e1:=fun M=>Qaa (Qft (hX _ (Kao hi2)) (hX _ (Kao ha)) M);by_cases hc:Qq5 X[i] X[a] < 0
   . have hbt:Qal X[i] X[a]=true:=by rw [<- hb];exact Kbo hc
     refine jL ?_;have Hq:=cj7 h1 h2 hi2 ha e1 hc w1;repeat refine go1 ?_
     refine Qab (ih (i+1) (by omega)) ?_;rintro ex st ⟨rfl,i',⟨k1,k2,k3,k4⟩,rfl⟩;refine ⟨rfl,i',⟨by omega,k2,fun k e q1 q2 q3=>?_,k4⟩,rfl⟩;by_cases hk:k=i
     . subst hk;rw [Kag hi2] at q3;cases q3;exact hbt
     . exact k3 k e (by omega) q2 q3
   . have hbt:Qal X[i] X[a]=false:=by rw [<- hb];exact Kbf hc
     refine jL ?_;have Hq:=cj7 h1 h2 hi2 ha e1 hc w1;repeat refine go1 ?_
     exact ⟨rfl,i,⟨Kam _,by omega,fun k e k1 k2 _=>by omega,fun _=>hbt⟩,rfl⟩
theorem Jeq (X:List (Int×Int)) (hX:∀ x ∈ X,DE x) (hl:X.length<=2000000) (a j:Nat) (ha:a < X.length) (hj:j < X.length) (M:List Qad):∀ (m i:Nat),i+m=j+1 ->
 wp tb (.loop Jgv) { T:=[(0,O2 X),(1,I a),(4,fcE),(12,I i),(13,I j)],loc:=[],M:=M }
  (fun ex st=>ex=.exit 6/\∃ i':Nat,(i<=i'/\i'<=j+1/\Qiy X i i' X[a]/\(∀ h:i'<=j,Qal (X[i']'(by omega)) X[a]=false)) /\
    st={ T:=[(0,O2 X),(1,I a),(4,fcE),(12,I i'),(13,I j),(120,Bo false)],loc:=[],M:=M }):=by
 intro m
 induction m with
 | zero =>
   intro i hi;have h1:¬ i<=j:=by omega
   have h2:¬ (i:Int)<=j:=by omega
   refine jL ?_;have Hq:=cj2 h1 h2;repeat refine go1 ?_
   exact ⟨rfl,i,⟨Kam _,by omega,fun k e k1 k2 _=>by omega,fun h=>absurd h h1⟩,rfl⟩
 | succ m ih =>
   intro i hi;have h1:i<=j:=by omega
   have h2:(i:Int)<=j:=by omega
   have hi2:i < X.length:=by omega
   have w1:IntKind.i64.wrap ((i:Int)+1)=((i+1:Nat):Int):=Qas (by omega);have hb:=Qcb X[i] X[a];have e1:=fun M=>Qaa (Qft (hX _ (Kao hi2)) (hX _ (Kao ha)) M);by_cases hc:Qq5 X[i] X[a] < 0
   . have hbt:Qal X[i] X[a]=true:=by rw [<- hb];exact Kbo hc
     refine jL ?_;have Hq:=cj7 h1 h2 hi2 ha e1 hc w1;repeat refine go1 ?_
     refine Qab (ih (i+1) (by omega)) ?_;rintro ex st ⟨rfl,i',⟨k1,k2,k3,k4⟩,rfl⟩;refine ⟨rfl,i',⟨by omega,k2,fun k e q1 q2 q3=>?_,k4⟩,rfl⟩;by_cases hk:k=i
     . subst hk;rw [Kag hi2] at q3;cases q3;exact hbt
     . exact k3 k e (by omega) q2 q3
   . have hbt:Qal X[i] X[a]=false:=by rw [<- hb];exact Kbf hc
     refine jL ?_;have Hq:=cj7 h1 h2 hi2 ha e1 hc w1;repeat refine go1 ?_
     exact ⟨rfl,i,⟨Kam _,by omega,fun k e k1 k2 _=>by omega,fun _=>hbt⟩,rfl⟩
theorem Js8 (X:List (Int×Int)) (hX:∀ x ∈ X,DE x) (hl:X.length<=2000000) (a i:Nat) (ha:a < X.length) (h0:0 < i) (M:List Qad):∀ (m j:Nat) (f:Bool),i+m=j+1->j < X.length ->
 wp tb (.loop Jqs) { T:=[(0,O2 X),(1,I a),(4,fcE),(12,I i),(13,I j)]++(if f then [(47,Bo false)] else []),loc:=[],M:=M }
  (fun ex st=>ex=.exit 2/\∃ j':Nat,(j'<=j/\i<=j'+1/\Qex X (j'+1) (j+1) X[a]/\(i<=j'->∃ h:j' < X.length,Qal X[j'] X[a]=true)) /\
    st={ T:=[(0,O2 X),(1,I a),(4,fcE),(12,I i),(13,I j'),(66,Bo false)],loc:=[],M:=M }):=by
 intro m
 induction m with
 | zero =>
   intro j f hj hjl;have h1:¬ i<=j:=by omega
   have h2:¬ (i:Int)<=j:=by omega
   cases f
   all_goals
    simp only [if_true,Kbs,Kap,Kbb,Kbk,Kaq];refine jL ?_;have Hq:=cj2 h1 h2;repeat refine go1 ?_
    exact ⟨rfl,j,⟨Kam _,by omega,fun k e k1 k2 _=>by omega,fun h=>absurd h h1⟩,rfl⟩
 | succ m ih =>
   intro j f hj hjl;have h1:i<=j:=by omega
   have h2:(i:Int)<=j:=by omega
   obtain ⟨q,rfl⟩:∃ q,j=q+1:=⟨j - 1,by omega⟩;have w1:IntKind.i64.wrap (q:Int)=(q:Int):=Qac (by omega) (by omega);have hb:=Qcb X[q+1] X[a];have e1:=fun M=>Qaa (Qft (hX _ (Kao hjl)) (hX _ (Kao ha)) M);have h3:(i:Int)<=(q:Int)+1:=by omega
   cases f
   all_goals
    simp only [if_true,Kbs,Kap,Kbb,Kbk,Kaq];by_cases hc:Qq5 X[q+1] X[a] < 0
    . have hbt:Qal X[q+1] X[a]=true:=by rw [<- hb];exact Kbo hc
      refine jL ?_;have Hq:=cj8 h1 h2 h3 hjl ha e1 hc w1;repeat refine go1 ?_
      exact ⟨rfl,q+1,⟨Kam _,by omega,fun k e k1 k2 _=>by omega,fun _=>⟨hjl,hbt⟩⟩,rfl⟩
    . have hbt:Qal X[q+1] X[a]=false:=by rw [<- hb];exact Kbf hc
      refine jL ?_;have Hq:=cj8 h1 h2 h3 hjl ha e1 hc w1;repeat refine go1 ?_
      refine Qab ((by simpa using ih q false (by omega) (by omega))) ?_;rintro ex st ⟨rfl,j',⟨k1,k2,k3,k4⟩,rfl⟩;refine ⟨rfl,j',⟨by omega,k2,fun k e q1 q2 q3=>?_,k4⟩,rfl⟩;by_cases hk:k=q+1
      . subst hk;rw [Kag hjl] at q3;cases q3;exact hbt
      . exact k3 k e q1 (by omega) q3
theorem Jer (X:List (Int×Int)) (hX:∀ x ∈ X,DE x) (hl:X.length<=2000000) (a i:Nat) (ha:a < X.length) (h0:0 < i) (M:List Qad):∀ (m j:Nat) (f:Bool),i+m=j+1->j < X.length ->
 wp tb (.loop Jgw) { T:=[(0,O2 X),(1,I a),(4,fcE),(12,I i),(13,I j)]++(if f then [(120,Bo false)] else []),loc:=[],M:=M }
  (fun ex st=>ex=.exit 8/\∃ j':Nat,(j'<=j/\i<=j'+1/\Qex X (j'+1) (j+1) X[a]/\(i<=j'->∃ h:j' < X.length,Qal X[j'] X[a]=true)) /\
    st={ T:=[(0,O2 X),(1,I a),(4,fcE),(12,I i),(13,I j'),(139,Bo false)],loc:=[],M:=M }):=by
 intro m
 induction m with
 | zero =>
   intro j f hj hjl;have h1:¬ i<=j:=by omega
   have h2:¬ (i:Int)<=j:=by omega
   cases f
   all_goals
    simp only [if_true,Kbs,Kap,Kbb,Kbk,Kaq];refine jL ?_;have Hq:=cj2 h1 h2;repeat refine go1 ?_
    exact ⟨rfl,j,⟨Kam _,by omega,fun k e k1 k2 _=>by omega,fun h=>absurd h h1⟩,rfl⟩
 | succ m ih =>
   intro j f hj hjl;have h1:i<=j:=by omega
   have h2:(i:Int)<=j:=by omega
   obtain ⟨q,rfl⟩:∃ q,j=q+1:=⟨j - 1,by omega⟩;have w1:IntKind.i64.wrap (q:Int)=(q:Int):=Qac (by omega) (by omega);have hb:=Qcb X[q+1] X[a];have e1:=fun M=>Qaa (Qft (hX _ (Kao hjl)) (hX _ (Kao ha)) M);have h3:(i:Int)<=(q:Int)+1:=by omega
   cases f
   all_goals
    simp only [if_true,Kbs,Kap,Kbb,Kbk,Kaq];by_cases hc:Qq5 X[q+1] X[a] < 0
    . have hbt:Qal X[q+1] X[a]=true:=by rw [<- hb];exact Kbo hc
      refine jL ?_;have Hq:=cj8 h1 h2 h3 hjl ha e1 hc w1;repeat refine go1 ?_
      exact ⟨rfl,q+1,⟨Kam _,by omega,fun k e k1 k2 _=>by omega,fun _=>⟨hjl,hbt⟩⟩,rfl⟩
    . have hbt:Qal X[q+1] X[a]=false:=by rw [<- hb];exact Kbf hc
      refine jL ?_;have Hq:=cj8 h1 h2 h3 hjl ha e1 hc w1;repeat refine go1 ?_
      refine Qab ((by simpa using ih q false (by omega) (by omega))) ?_;rintro ex st ⟨rfl,j',⟨k1,k2,k3,k4⟩,rfl⟩;refine ⟨rfl,j',⟨by omega,k2,fun k e q1 q2 q3=>?_,k4⟩,rfl⟩;by_cases hk:k=q+1
      . subst hk;rw [Kag hjl] at q3;cases q3;exact hbt
      . exact k3 k e q1 (by omega) q3
structure Qwf (X0 X:List (Int×Int)) (a b i j:Nat) (x:Int×Int):Prop where
 seg:Seg X0 X a b
 piv:X[a]? = some x
 lo:Qiy X (a+1) i x
 hi:Qex X (j+1) b x
 ai:a+1<=i
 ij:i<=j+1
 jb:j < b
 bl:b<=X.length
theorem Qwf.al {X0 X a b i j x} (h:Qwf X0 X a b i j x):a < X.length:=(Kak.1 h.piv).1
theorem Qwf.xa {X0 X a b i j x} (h:Qwf X0 X a b i j x):X[a]'h.al=x:=(Kak.1 h.piv).2
theorem Qwf.swap {X0 X a b i j x} (h:Qwf X0 X a b i j x) (hi:i < X.length) (hj:j < X.length) (hij:i<=j) (h1:Qal X[i] x=false) (h2:Qal X[j] x=true) :
 ∃ q,j=q+1/\i < j/\Qwf X0 (Qfa X i j hi hj) a b (i+1) q x:=by
 have hne:i ≠ j:=by rintro rfl;rw [h1] at h2;cases h2
 have hb:=h.bl;have hjb:=h.jb;have hai:=h.ai;refine ⟨j - 1,by omega,by omega,h.seg.trans (Qgd X i j a b hi hj (by omega) (by omega)),?_,?_,?_,by omega,by omega,by omega,by rw [Qtk];exact hb⟩
 . rw [Qc3,if_neg (by omega),if_neg (by omega)];exact h.piv
 . intro k e k1 k2 he;rw [Qc3,if_neg (by omega)] at he;by_cases hk:k=i
   . rw [if_pos hk] at he;cases he;exact h2
   . rw [if_neg hk] at he;exact h.lo k e k1 (by omega) he
 . intro k e k1 k2 he;rw [Qc3] at he;by_cases hk:k=j
   . rw [if_pos hk] at he;cases he;exact h1
   . rw [if_neg hk,if_neg (by omega)] at he;exact h.hi k e (by omega) k2 he
theorem Jmj (X0:List (Int×Int)) (hX0:∀ x ∈ X0,DE x) (hl:X0.length<=2000000) (a b:Nat) (x:Int×Int) (M:List Qad):∀ (m:Nat) (X:List (Int×Int)) (i j:Nat),j+1<=i+m->Qwf X0 X a b i j x ->
 wp tb (.loop Jgx) { T:=[(0,O2 X),(1,I a),(4,fcE),(12,I i),(13,I j)],loc:=[],M:=M }
  (fun ex st=>ex=.exit 4/\∃ (X':List (Int×Int)) (j':Nat),Qwf X0 X' a b (j'+1) j' x/\st={ T:=[(0,O2 X'),(1,I a),(4,fcE),(12,I (j'+1:Nat)),(13,I j'),(144,Bo true)],loc:=[],M:=M }):=by
 intro m
 induction m with
 | zero =>
   intro X i j hm h;have hij:=h.ij;have hi:i=j+1:=by omega
   subst hi;have hXl:=h.seg.len;have hX:∀ y ∈ X,DE y:=fun y hy=>hX0 y (h.seg.perm.mem_iff.1 hy);have hjl:j < X.length:=by have:=h.jb;have:=h.bl;omega
   have hA:=Jeq X hX (by omega) a j h.al hjl M 0 (j+1) (by omega);have hB:=Jer X hX (by omega) a (j+1) h.al (by omega) M 0 j true (by omega) hjl;have g1:((j+1:Nat):Int) > (j:Int):=by omega
   refine jL ?_
   repeat refine go0 ?_
   refine Qab hA ?_;rintro ex st ⟨rfl,i',⟨k1,k2,-,-⟩,rfl⟩;have:i'=j+1:=by omega
   subst this;simp only [if_true]
   repeat refine go0 ?_
   refine Qab hB ?_;rintro ex st ⟨rfl,j',⟨k1,k2,-,-⟩,rfl⟩;have:j'=j:=by omega
   subst this;simp only [if_true];have g2:(j':Int) < (j':Int)+1:=by omega
   have Hq:=g2;repeat refine go1 ?_
   exact ⟨rfl,X,j',h,rfl⟩
 | succ m ih =>
   intro X i j hm h;have hXl:=h.seg.len;have hX:∀ y ∈ X,DE y:=fun y hy=>hX0 y (h.seg.perm.mem_iff.1 hy);have hjb:=h.jb;have hbl:=h.bl;have hai:=h.ai;have hjl:j < X.length:=by omega
   have hxa:=h.xa;obtain ⟨mm,hmm⟩:∃ mm,i+mm=j+1:=⟨j+1 - i,by have:=h.ij;omega⟩;have hA:=Jeq X hX (by omega) a j h.al hjl M mm i hmm;rw [hxa] at hA;refine jL ?_
   repeat refine go0 ?_
   refine Qab hA ?_;rintro ex st ⟨rfl,i',⟨k1,k2,k3,k4⟩,rfl⟩;simp only [if_true];obtain ⟨m2,hm2⟩:∃ m2,i'+m2=j+1:=⟨j+1 - i',by omega⟩;have hB:=Jer X hX (by omega) a i' h.al (by omega) M m2 j true hm2 hjl;rw [hxa] at hB
   repeat refine go0 ?_
   refine Qab hB ?_;rintro ex st ⟨rfl,j',⟨q1,q2,q3,q4⟩,rfl⟩;simp only [if_true];have h':Qwf X0 X a b i' j' x:=⟨h.seg,h.piv,fun k e a1 a2 a3=>by
    by_cases hk:k < i
    . exact h.lo k e a1 hk a3
    . exact k3 k e (by omega) a2 a3,fun k e a1 a2 a3=>by
    by_cases hk:j < k
    . exact h.hi k e (by omega) a2 a3
    . exact q3 k e a1 (by omega) a3,by omega,by omega,by omega,by omega⟩
   by_cases hij:i'<=j'
   . obtain ⟨hjl',hb2⟩:=q4 hij;have hil':i' < X.length:=by omega
     obtain ⟨q,rfl,hlt,hP⟩:=h'.swap hil' hjl' hij (k4 (by omega)) hb2;have g1:¬ ((q+1:Nat):Int) < (i':Int):=by omega
     have g2:¬ (q:Int)+1 < (i':Int):=by omega
     have w1:IntKind.i64.wrap ((i':Int)+1)=((i'+1:Nat):Int):=Qas (by omega);have w2:IntKind.i64.wrap (q:Int)=(q:Int):=Qac (by omega) (by omega);have hn:=ih (Qfa X i' (q+1) hil' hjl') (i'+1) q (by omega) hP;have Hq:=cj6 g1 g2 hil' hjl' w1 w2;repeat refine go1 ?_
     exact hn
   . have hi3:i'=j'+1:=by omega
     subst hi3;have g2:(j':Int) < (j':Int)+1:=by omega
     have Hq:=g2;repeat refine go1 ?_
     exact ⟨rfl,X,j',h',rfl⟩
theorem Qwf.fin {X0 X a b j x} (h:Qwf X0 X a b (j+1) j x) (hj:j < X.length):Seg X0 (Qfa X j a hj h.al) a b/\(Qfa X j a hj h.al)[j]? = some x/\Qiy (Qfa X j a hj h.al) a j x/\Qex (Qfa X j a hj h.al) (j+1) b x:=by
 have hb:=h.bl;have hjb:=h.jb;have hai:=h.ai;have hxa:=h.xa;refine ⟨h.seg.trans (Qgd X j a a b hj h.al (by omega) (by omega)),?_,fun k e k1 k2 he=>?_,fun k e k1 k2 he=>?_⟩
 . rw [Qc3];by_cases hja:j=a
   . subst hja;rw [if_pos rfl,hxa]
   . rw [if_neg hja,if_pos rfl,hxa]
 . rw [Qc3] at he;by_cases hka:k=a
   . rw [if_pos hka] at he;cases he;exact h.lo j _ (by omega) (by omega) (Kag hj)
   . rw [if_neg hka,if_neg (by omega)] at he;exact h.lo k e (by omega) (by omega) he
 . rw [Qc3,if_neg (by omega),if_neg (by omega)] at he;exact h.hi k e k1 k2 he
theorem Qr0 (X:List (Int×Int)) (hX:∀ x ∈ X,DE x) (hl:X.length<=2000000) (a n p:Nat) (hn:2<=n) (hab:a+n<=X.length) (hp:a<=p/\p < a+n) (M:List Qad) :
 ∃ (X':List (Int×Int)) (mid:Nat) (t:Bool),Seg X X' a (a+n)/\(a<=mid/\mid < a+n)/\X'[mid]? = X[p]?/\(∀ x,X[p]? = some x->Qiy X' a mid x/\Qex X' (mid+1) (a+n) x) /\
   Ev tb Jbc [0] [O2 X,I a,I ((a:Int)+n),I p,fcE] M ⟨.tup [I mid,Bo t],[O2 X'],M,[]⟩:=by
 have hpl:p < X.length:=by omega
 have hal:a < X.length:=by omega
 obtain ⟨x,hx⟩:∃ x,x=X[p]:=⟨_,rfl⟩;obtain ⟨j0,hj0⟩:∃ j0,j0=a+n - 1:=⟨_,rfl⟩;have hP1:Qwf X (Qfa X a p hal hpl) a (a+n) (a+1) j0 x:=by
  refine ⟨Qgd X a p a (a+n) hal hpl (by omega) (by omega),?_,fun k e k1 k2 _=>by omega,fun k e k1 k2 _=>by omega,by omega,by omega,by omega,by rw [Qtk];exact hab⟩;rw [Qc3];by_cases hap:a=p
  . subst hap;rw [if_pos rfl,hx]
  . rw [if_neg hap,if_pos rfl,hx]
 have hXp:X[p]? = some x:=by rw [hx];exact Kag hpl
 rw [hXp];obtain ⟨X1,hX1⟩:∃ X1,X1=Qfa X a p hal hpl:=⟨_,rfl⟩;have hsw:(X.set a X[p]).set p X[a]=X1:=hX1.symm;rw [<- hX1] at hP1;have hX1l:X1.length=X.length:=hP1.seg.len;have hD1:∀ y ∈ X1,DE y:=fun y hy=>hX y (hP1.seg.perm.mem_iff.1 hy);have hj1:j0 < X1.length:=by omega
 have hal1:=hP1.al;have hxa:=hP1.xa;have w1:IntKind.i64.wrap ((a:Int)+1)=((a+1:Nat):Int):=Qas (by omega);have w2:IntKind.i64.wrap ((a:Int)+n - 1)=(j0:Int):=by rw [Qac (by omega) (by omega)];omega
 suffices hh:∃ r,(∃ (X':List (Int×Int)) (mid:Nat) (t:Bool),Seg X X' a (a+n)/\(a<=mid/\mid < a+n)/\X'[mid]? = some x/\(Qiy X' a mid x/\Qex X' (mid+1) (a+n) x)/\r=⟨.tup [I mid,Bo t],[O2 X'],M,[]⟩) /\
  Ev tb Jbc [0] [O2 X,I a,I ((a:Int)+n),I p,fcE] M r by
  obtain ⟨r,⟨X',mid,t,q1,q2,q3,q4,rfl⟩,q5⟩:=hh;exact ⟨X',mid,t,q1,q2,q3,fun y hy=>by cases hy;exact q4,q5⟩
 refine Qlg zt283 rfl ?_;have hA:=Js7 X1 hD1 (by omega) a j0 hal1 hj1 M (j0 - a) (a+1) (by omega);rw [hxa] at hA;have Hq:=cj5 hpl hal hsw w1 w2;repeat refine go1 ?_
 refine Qab hA ?_;rintro ex st ⟨rfl,i',⟨k1,k2,k3,k4⟩,rfl⟩;simp only [if_true];have hB:=Js8 X1 hD1 (by omega) a i' hal1 (by omega) M (j0+1 - i') j0 true (by omega) hj1;rw [hxa] at hB
 repeat refine go0 ?_
 refine Qab hB ?_;rintro ex st ⟨rfl,j',⟨q1,q2,q3,q4⟩,rfl⟩;simp only [if_true];have h':Qwf X X1 a (a+n) i' j' x:=⟨hP1.seg,hP1.piv,k3,fun k e a1 a2 a3=>q3 k e a1 (by omega) a3,by omega,by omega,by omega,by omega⟩;have hjl':j' < X1.length:=by omega
 by_cases hij:i'<=j'
 . obtain ⟨_,hb2⟩:=q4 hij;have hil':i' < X1.length:=by omega
   obtain ⟨q,rfl,hlt,hP⟩:=h'.swap hil' hjl' hij (k4 (by omega)) hb2;have g2:¬ (q:Int)+1 < (i':Int):=by omega
   have w3:IntKind.i64.wrap ((i':Int)+1)=((i'+1:Nat):Int):=Qas (by omega);have w4:IntKind.i64.wrap (q:Int)=(q:Int):=Qac (by omega) (by omega);have Hq:=cj5 g2 hil' hjl' w3 w4;repeat refine go1 ?_
   refine Qab (Jmj X hX hl a (a+n) x M (q+1) (Qfa X1 i' (q+1) hil' hjl') (i'+1) q (by omega) hP) ?_;rintro ex st ⟨rfl,X2,j2,hP2,rfl⟩;simp only [if_true];have hj2:j2 < X2.length:=by have:=hP2.jb;have:=hP2.bl;omega
   have hal2:=hP2.al;obtain ⟨f1,f2,f3,f4⟩:=hP2.fin hj2;obtain ⟨X3,hX3⟩:∃ X3,X3=Qfa X2 j2 a hj2 hal2:=⟨_,rfl⟩;have hsw3:(X2.set j2 X2[a]).set a X2[j2]=X3:=hX3.symm;rw [<- hX3] at f1 f2 f3 f4;have Hq:=cj3 hj2 hal2 hsw3;repeat refine go1 ?_
   refine ⟨.inr rfl,_,⟨X3,j2,false,f1,⟨by have:=hP2.ai;omega,hP2.jb⟩,f2,⟨f3,f4⟩,rfl⟩,?_⟩;simp [Jik]
 . have hi3:i'=j'+1:=by omega
   subst hi3;have g2:(j':Int) < (j':Int)+1:=by omega
   obtain ⟨f1,f2,f3,f4⟩:=h'.fin hjl';obtain ⟨X3,hX3⟩:∃ X3,X3=Qfa X1 j' a hjl' hal1:=⟨_,rfl⟩;have hsw3:(X1.set j' X1[a]).set a X1[j']=X3:=hX3.symm;rw [<- hX3] at f1 f2 f3 f4;have Hq:=cj4 g2 hjl' hal1 hsw3;repeat refine go1 ?_
   refine ⟨.inr rfl,_,⟨X3,j',true,f1,⟨by omega,by omega⟩,f2,⟨f3,f4⟩,rfl⟩,?_⟩;simp [Jik]
end Go.Idl
namespace Go.Idl
open Go
abbrev U (n:Int):IV:=.sc (.int .u64 n)
def wU (n:Int):Int:=IntKind.u64.wrap n
def Jf7 (a b:Int):Int:=wU (BitVec.ofInt 64 a ^^^ BitVec.ofInt 64 b).toNat
def andU (a b:Int):Int:=wU (BitVec.ofInt 64 a &&& BitVec.ofInt 64 b).toNat
theorem Jrs (a b:Int):binOp .xor 0 (.int .u64 a) (.int .u64 b)=.pure (.int .u64 (Jf7 a b)):=rfl
theorem b_and (a b:Int):binOp .and 0 (.int .u64 a) (.int .u64 b)=.pure (.int .u64 (andU a b)):=rfl
theorem Jrq (a:Int):binOp .shl 0 (.int .u64 a) (.int .u64 13)=.pure (.int .u64 (wU (a * 2 ^ 13))):=rfl
theorem Jrr (a:Int):binOp .shl 0 (.int .u64 a) (.int .u64 17)=.pure (.int .u64 (wU (a * 2 ^ 17))):=rfl
theorem b_shr7 (a:Int):binOp .shr 0 (.int .u64 a) (.int .u64 7)=.pure (.int .u64 (a.fdiv (2 ^ 7))):=rfl
theorem wU_eq (n:Int):wU n=n % 18446744073709551616:=rfl
theorem Jrk {a b:Int} (h0:0<=b) (h1:b < 18446744073709551616):0<=andU a b/\andU a b<=b:=by
 have h2:(BitVec.ofInt 64 a &&& BitVec.ofInt 64 b).toNat<=(BitVec.ofInt 64 b).toNat:=by
  rw [BitVec.toNat_and];exact Nat.and_le_right
 have h3:(BitVec.ofInt 64 b).toNat=b.toNat:=by
  rw [BitVec.toNat_ofInt];congr 1;exact Int.emod_eq_of_lt h0 h1
 rw [h3] at h2;rw [andU,wU_eq];generalize (BitVec.ofInt 64 a &&& BitVec.ofInt 64 b).toNat=z at *
 omega
theorem Jsd (s:Int) (Ms Es:List Qad):∃ s':Int,Ev tb Jix [] [.bptr Ms.length 0 0] (Ms++[[U s]]::Es) ⟨U s',[],Ms++[[U s']]::Es,[]⟩:=by
 refine ⟨Jf7 (Jf7 (Jf7 s (wU (s * 2 ^ 13))) ((Jf7 s (wU (s * 2 ^ 13))).fdiv (2 ^ 7))) (wU (Jf7 (Jf7 s (wU (s * 2 ^ 13))) ((Jf7 s (wU (s * 2 ^ 13))).fdiv (2 ^ 7)) * 2 ^ 17)),?_⟩;have x1:=Jrs s (wU (s * 2 ^ 13));have x0:=Jrq s;generalize wU (s * 2 ^ 13)=a at *
 generalize Jf7 s a=b at *
 have y0:=b_shr7 b;generalize b.fdiv (2 ^ 7)=c at *
 have y1:=Jrs b c;generalize Jf7 b c=d at *
 have z0:=Jrr d;generalize wU (d * 2 ^ 17)=e at *
 have z1:=Jrs d e;generalize Jf7 d e=f at *
 refine jC zt106 rfl ?_;have Hq:=cj6 x0 x1 y0 y1 z0 z1;repeat refine go1 ?_
 simp [Jnj]
theorem len_k (cf:CF) (n:Int) (m:Nat) (g:ByteArray) (b:UInt8) (k:Nat) (hw:IntKind.u8.wrap n=(m:Int)) (hb:g[m]? = some b) (hk:b.toNat=k) :
 ∃ st,Qaf cf { T:=[(0,.sc (.int .u64 n)),(2,I 0),(14,Bo false)],loc:=[],M:=[] } [⟨some 19,none,.mv (.t 2)⟩,⟨some 20,none,.mv (.t 0)⟩,⟨some 21,none,.conv .u8 (.t 20)⟩,⟨some 22,none,.idxs (.c (.string g)) (.t 21)⟩,⟨some 23,none,.conv .i64 (.t 22)⟩,⟨some 24,none,.bin .add (.t 19) (.t 23)⟩,⟨some 2,none,.asg (.t 24)⟩]=some st/\st.cut [2]={ T:=[(2,I k)],loc:=[],M:=[] }:=by
 subst hk;have hbl:b.toNat < 256:=b.toNat_lt;have w1:IntKind.i64.wrap (b.toNat:Int)=(b.toNat:Int):=Qac (by omega) (by omega);refine ⟨_,by simp [hw,hb];rfl,by simp [w1]⟩
def Jbo (n:Nat):Nat:=if n<=0 then 0 else if n<=1 then 1 else if n<=3 then 2 else if n<=7 then 3 else if n<=15 then 4 else 5
set_option maxRecDepth 100000 in
set_option maxHeartbeats 4000000 in
theorem Jc7 (n:Nat) (hn:n<=21):Ev tb zl68 [] [.sc (.int .u64 n)] [] ⟨I (Jbo n),[],[],[]⟩:=by
 have cs:n=0 \/ n=1 \/ n=2 \/ n=3 \/ n=4 \/ n=5 \/ n=6 \/ n=7 \/ n=8 \/ n=9 \/ n=10 \/ n=11 \/ n=12 \/ n=13 \/ n=14 \/ n=15 \/ n=16 \/ n=17 \/ n=18 \/ n=19 \/ n=20 \/ n=21:=by omega
 have w8:IntKind.u8.wrap (n:Int)=(n:Int):=by
  rcases cs with rfl | rfl | rfl | rfl | rfl | rfl | rfl | rfl | rfl | rfl | rfl | rfl | rfl | rfl | rfl | rfl | rfl | rfl | rfl | rfl | rfl | rfl <;> rfl
 have key:∃ st,Qaf (Qbq tb) { T:=[(0,.sc (.int .u64 n)),(2,I 0),(14,Bo false)],loc:=[],M:=[] } (match Jht with | .reg ops _ _=>ops | _=>[])=some st/\st.cut [2]={ T:=[(2,I (Jbo n))],loc:=[],M:=[] }:=by
  rcases cs with rfl | rfl | rfl | rfl | rfl | rfl | rfl | rfl | rfl | rfl | rfl | rfl | rfl | rfl | rfl | rfl | rfl | rfl | rfl | rfl | rfl | rfl
  all_goals
   exact len_k (Qbq tb) _ _ _ _ _ w8 rfl rfl
 obtain ⟨st,h1,h2⟩:=key;have g1:¬ (4294967296:Int)<=n:=by omega
 have g2:¬ (65536:Int)<=n:=by omega
 have g3:¬ (256:Int)<=n:=by omega
 refine jC zt68 rfl ?_
 iterate 4 ((first|apply jA|skip);refine Qbo (by simp [g1,g2,g3];rfl) (by simp;rfl) ?_;(first|refine Qge (t:=false) (by simp) (by simp) (fun _=>?_)|skip);(first|apply jQ|skip))
 refine Qbo h1 h2 ?_;refine jR ?_;simp [zi68]
theorem Jc8 (n:Nat) (hn:n<=21):Ev tb Jrc [] [.sc (.int .u64 n)] [] ⟨I (Jbo n),[],[],[]⟩:=by
 have e1:=Qaa (Jc7 n hn);refine jC zt66 rfl ?_;have Hq:=e1;repeat refine go1 ?_
 simp [zi66]
def npo (n:Nat):Int:=if n<=15 then 16 else 32
theorem ev_npo (n:Nat) (h1:13<=n) (h2:n<=21):Ev tb zl91 [] [I n] [] ⟨U (npo n),[],[],[]⟩:=by
 have e1:=Qaa (Jc8 n h2);have w1:=@Jnh n (by omega);by_cases h:n<=15
 . rw [show Jbo n=4 by rw [Jbo,if_neg (by omega),if_neg (by omega),if_neg (by omega),if_neg (by omega),if_pos h],show ((4:Nat):Int)=4 from rfl] at e1;have s1:binOp .shl 0 (.int .u64 1) (.int .i64 4)=.pure (.int .u64 16):=rfl;rw [npo,if_pos h];refine jC zt91 rfl ?_;have Hq:=cj3 e1 w1 s1;repeat refine go1 ?_
   simp [zi91]
   try rfl
 . rw [show Jbo n=5 by rw [Jbo,if_neg (by omega),if_neg (by omega),if_neg (by omega),if_neg (by omega),if_neg h],show ((5:Nat):Int)=5 from rfl] at e1;have s1:binOp .shl 0 (.int .u64 1) (.int .i64 5)=.pure (.int .u64 32):=rfl;rw [npo,if_neg h];refine jC zt91 rfl ?_;have Hq:=cj3 e1 w1 s1;repeat refine go1 ?_
   simp [zi91]
   try rfl
set_option maxHeartbeats 2000000 in
theorem Jrw (X0:List (Int×Int)) (hX0:X0.length<=2000000) (a n q:Nat) (hq:q=n / 4) (h13:13<=n) (h21:n<=21) (hab:a+n<=X0.length) (M:List Qad):∀ (m:Nat) (X:List (Int×Int)) (k:Nat) (s:Int),k+m=a+q * 2+2->a<=k->Seg X0 X a (a+n) ->
 wp tb (.loop Jgu) { T:=[(0,O2 X),(1,I a),(8,I n),(9,.bptr M.length 0 0),(10,U (npo n)),(11,I k)],loc:=[[U s]],M:=M }
  (fun ex st=>ex=.exit 0/\∃ (X':List (Int×Int)) (s':Int) (k':Nat),Seg X0 X' a (a+n)/\st={ T:=[(0,O2 X'),(1,I a),(8,I n),(9,.bptr M.length 0 0),(10,U (npo n)),(11,I k'),(35,Bo false)],loc:=[[U s']],M:=M }):=by
 have t1:(n:Int).tdiv 4=(q:Int):=by rw [Kds (by omega)];omega
 have w1:IntKind.i64.wrap (q:Int)=(q:Int):=Qac (by omega) (by omega);have w2:IntKind.i64.wrap ((q:Int) * 2)=(q:Int) * 2:=Qac (by omega) (by omega);have w3:IntKind.i64.wrap ((a:Int)+q * 2)=(a:Int)+q * 2:=Qac (by omega) (by omega);have w4:IntKind.i64.wrap ((a:Int)+q * 2+1)=(a:Int)+q * 2+1:=Qac (by omega) (by omega);intro m
 induction m with
 | zero =>
   intro X k s hk ha hS;have g1:¬ (k:Int)<=(a:Int)+q * 2+1:=by omega
   refine jL ?_;have Hq:=cj6 t1 w1 w2 w3 w4 g1;repeat refine go1 ?_
   exact ⟨rfl,X,s,k,hS,rfl⟩
 | succ m ih =>
   intro X k s hk ha hS;have hXl:=hS.len;have g1:(k:Int)<=(a:Int)+q * 2+1:=by omega
   have hkl:k < X.length:=by omega
   obtain ⟨s',hs'⟩:=Jsd s M [];have e1:=Qaa hs';have hnp:npo n=16/\n<=15 \/ npo n=32/\16<=n:=by
    rw [npo];split <;> omega
   have wU1:IntKind.u64.wrap (npo n - 1)=npo n - 1:=by
    rcases hnp with ⟨h,_⟩ | ⟨h,_⟩ <;> rw [h] <;> rfl
   have hand:=Jrk (a:=s') (b:=npo n - 1) (by omega) (by omega);have a1:=b_and s' (npo n - 1);generalize andU s' (npo n - 1)=o at *
   obtain ⟨o,rfl⟩:=Kbm hand.1;have w5:IntKind.i64.wrap (o:Int)=(o:Int):=Qac (by omega) (by omega);have w6:IntKind.i64.wrap ((k:Int)+1)=((k+1:Nat):Int):=Qas (by omega);by_cases ho:(n:Int)<=o
   . have ho':n<=o:=by omega
     obtain ⟨p,hp⟩:∃ p,p=o - n:=⟨_,rfl⟩;have w7:IntKind.i64.wrap ((o:Int) - n)=(p:Int):=by rw [Qac (by omega) (by omega)];omega
     have w8:IntKind.i64.wrap ((a:Int)+p)=(a:Int)+p:=Qac (by omega) (by omega);have hno:Qcc (I ((a:Int)+p))=some (a+p):=Qf3 (n:=a+p);have hpl:a+p < X.length:=by omega
     have hS2:=hS.trans (Qgd X k (a+p) a (a+n) hkl hpl (by omega) (by omega));have hn:=ih (Qfa X k (a+p) hkl hpl) (k+1) s' (by omega) (by omega) hS2;refine jL ?_;have Hq:=cj18 t1 w1 w2 w3 w4 g1 e1 wU1 a1 w5 ho ho' w7 w8 hno hkl hpl w6;repeat refine go1 ?_
     exact hn
   . have ho':¬ n<=o:=by omega
     have w8:IntKind.i64.wrap ((a:Int)+o)=(a:Int)+o:=Qac (by omega) (by omega);have hno:Qcc (I ((a:Int)+o))=some (a+o):=Qf3 (n:=a+o);have hpl:a+o < X.length:=by omega
     have hS2:=hS.trans (Qgd X k (a+o) a (a+n) hkl hpl (by omega) (by omega));have hn:=ih (Qfa X k (a+o) hkl hpl) (k+1) s' (by omega) (by omega) hS2;refine jL ?_;have Hq:=cj17 t1 w1 w2 w3 w4 g1 e1 wU1 a1 w5 ho ho' w8 hno hkl hpl w6;repeat refine go1 ?_
     exact hn
set_option maxHeartbeats 2000000 in
theorem Qkd (X:List (Int×Int)) (hl:X.length<=2000000) (a n:Nat) (h13:13<=n) (h21:n<=21) (hab:a+n<=X.length) (M:List Qad) :
 ∃ X':List (Int×Int),Seg X X' a (a+n)/\Ev tb Ja8 [0] [O2 X,I a,I ((a:Int)+n),fcE] M ⟨.tup [],[O2 X'],M,[]⟩:=by
 obtain ⟨q,hq⟩:∃ q,q=n / 4:=⟨_,rfl⟩;have t1:(n:Int).tdiv 4=(q:Int):=by rw [Kds (by omega)];omega
 have w00:(a:Int)+n - a=n:=by omega
 have w0:IntKind.i64.wrap (n:Int)=(n:Int):=Qac (by omega) (by omega);have w1:IntKind.i64.wrap (q:Int)=(q:Int):=Qac (by omega) (by omega);have w2:IntKind.i64.wrap ((q:Int) * 2)=(q:Int) * 2:=Qac (by omega) (by omega);have w3:IntKind.i64.wrap ((a:Int)+q * 2)=(a:Int)+q * 2:=Qac (by omega) (by omega);have w4:IntKind.i64.wrap ((a:Int)+q * 2 - 1)=((a+q * 2 - 1:Nat):Int):=by rw [Qac (by omega) (by omega)];omega
 have wu:=@Jnh n (by omega);have g1:(8:Int)<=n:=by omega
 have g1':8<=n:=by omega
 have e1:=Qaa (ev_npo n h13 h21);have hlo:=Jrw X hl a n q hq h13 h21 hab M 3 X (a+q * 2 - 1) n (by omega) (by omega) (Seg.refl X a (a+n));generalize a+q * 2 - 1=k0 at *
 suffices hh:∃ r,(∃ X':List (Int×Int),Seg X X' a (a+n)/\r=⟨.tup [],[O2 X'],M,[]⟩)/\Ev tb Ja8 [0] [O2 X,I a,I ((a:Int)+n),fcE] M r by
  obtain ⟨r,⟨X',q1,rfl⟩,q2⟩:=hh;exact ⟨X',q1,q2⟩
 refine Qlg zt274 rfl ?_;have Hq:=Qtv t1 w00 w0 w1 w2 w3 w4 wu g1 g1' e1;repeat refine go1 ?_
 refine Qab hlo ?_;rintro ex st ⟨rfl,X',s',k',hS,rfl⟩
 try simp only [if_true]
 repeat refine go0 ?_
 refine ⟨by simp,_,⟨X',hS,rfl⟩,?_⟩;simp [Joc]
theorem Jta (X:List (Int×Int)) (hX:∀ x ∈ X,DE x) (hl:X.length<=2000000) (a b:Nat) (hab:a < b) (hb:b<=X.length) (M:List Qad):∀ (m i:Nat) (f:Bool),i+m=b->a < i ->
 wp tb (.loop Jqq) { T:=[(0,O2 X),(1,I a),(2,I b),(3,fcE),(9,I i),(10,I 0)]++(if f then [(16,Bo true)] else []),loc:=[],M:=M }
  (fun ex st=>ex=.exit 2/\∃ i':Nat,(i<=i'/\i'<=b/\(∀ k,i<=k->k < i'->∀ h1 h2,Qal (X[k]'h1) (X[k - 1]'h2)=false))/\st={ T:=[(0,O2 X),(1,I a),(2,I b),(3,fcE),(9,I i'),(10,I 0),(36,Bo false)],loc:=[],M:=M }):=by
 intro m
 induction m with
 | zero =>
   intro i f hi ha;have g1:¬ i < b:=by omega
   have g1':¬ (i:Int) < b:=by omega
   cases f
   all_goals
    simp only [if_true,Kbs,Kap,Kbb,Kbk,Kaq];refine jL ?_;have Hq:=cj2 g1 g1';repeat refine go1 ?_
    exact ⟨rfl,i,⟨Kam _,by omega,fun k k1 k2=>by omega⟩,rfl⟩
 | succ m ih =>
   intro i f hi ha;obtain ⟨p,rfl⟩:∃ p,i=p+1:=⟨i - 1,by omega⟩;have hil:p+1 < X.length:=by omega
   have hpl:p < X.length:=by omega
   have g1:p+1 < b:=by omega
   have g1':(p:Int)+1 < b:=by omega
   have w1:IntKind.i64.wrap (p:Int)=(p:Int):=Qac (by omega) (by omega);have w2:IntKind.i64.wrap ((p:Int)+1+1)=((p+1+1:Nat):Int):=by rw [Qac (by omega) (by omega)];omega
   have hbl:=Qcb X[p+1] X[p];have e1:=fun M=>Qaa (Qft (hX _ (Kao hil)) (hX _ (Kao hpl)) M);cases f
   all_goals
    simp only [if_true,Kbs,Kap,Kbb,Kbk,Kaq];by_cases hc:Qq5 X[p+1] X[p] < 0
    . refine jL ?_;have Hq:=cj8 g1 g1' hil hpl w1 e1 hc w2;repeat refine go1 ?_
      exact ⟨rfl,p+1,⟨Kam _,by omega,fun k k1 k2=>by omega⟩,rfl⟩
    . have hbt:Qal X[p+1] X[p]=false:=by rw [<- hbl];exact Kbf hc
      refine jL ?_;have Hq:=cj8 g1 g1' hil hpl w1 e1 hc w2;repeat refine go1 ?_
      refine Qab (by simpa using ih (p+1+1) false (by omega) (by omega)) ?_;rintro ex st ⟨rfl,i',⟨k1,k2,k3⟩,rfl⟩;refine ⟨rfl,i',⟨by omega,k2,fun k q1 q2 h1 h2=>?_⟩,rfl⟩;by_cases hk:k=p+1
      . subst hk;exact hbt
      . exact k3 k (by omega) q2 h1 h2
theorem Qpo (X:List (Int×Int)) (hX:∀ x ∈ X,DE x) (hl:X.length<=2000000) (a n:Nat) (h1:1<=n) (h49:n<=49) (hab:a+n<=X.length) (M:List Qad) :
 ∃ t:Bool,(t=true->∀ k,a < k->k < a+n->∀ h1 h2,Qal (X[k]'h1) (X[k - 1]'h2)=false)/\Ev tb Jbb [0] [O2 X,I a,I ((a:Int)+n),fcE] M ⟨Bo t,[O2 X],M,[]⟩:=by
 have w00:(a:Int)+n - a=n:=by omega
 have w0:IntKind.i64.wrap (n:Int)=(n:Int):=Qac (by omega) (by omega);have w1:IntKind.i64.wrap ((a:Int)+1)=((a+1:Nat):Int):=Qas (by omega);have g1:(n:Int) < 50:=by omega
 have g1':n < 50:=by omega
 suffices hh:∃ r,(∃ t:Bool,(t=true->∀ k,a < k->k < a+n->∀ h1 h2,Qal (X[k]'h1) (X[k - 1]'h2)=false)/\r=⟨Bo t,[O2 X],M,[]⟩)/\Ev tb Jbb [0] [O2 X,I a,I ((a:Int)+n),fcE] M r by
  obtain ⟨r,⟨t,q1,rfl⟩,q2⟩:=hh;exact ⟨t,q1,q2⟩
 have hlo:=Jta X hX hl a (a+n) (by omega) hab M (n - 1) (a+1) true (by omega) (by omega);rw [show ((a+n:Nat):Int)=(a:Int)+n by omega] at hlo;refine Qlg zt282 rfl ?_;have Hq:=w1;repeat refine go1 ?_
 refine jL ?_
 repeat refine go0 ?_
 refine Qab hlo ?_;rintro ex st ⟨rfl,i',⟨k1,k2,k3⟩,rfl⟩
 try simp only [if_true]
 by_cases hi:i'=a+n
 . have g2:((i':Nat):Int)=(a:Int)+n:=by omega
   have Hq:=g2;repeat refine go1 ?_
   refine ⟨.inr rfl,_,⟨true,fun _ k q1 q2=>k3 k (by omega) (by omega),rfl⟩,?_⟩;simp [Jij]
 . have g2:¬ ((i':Nat):Int)=(a:Int)+n:=by omega
   have Hq:=cj5 g2 w00 w0 g1 g1';repeat refine go1 ?_
   refine ⟨.inr rfl,_,⟨false,(fun h=>nomatch h),rfl⟩,?_⟩;simp [Jij]
end Go.Idl
namespace Go.Idl
open Go
def Qc4 (X:List (Int×Int)) (a b:Nat):Prop:=∀ k l e f,a<=k->k < l->l < b->X[k]? = some e->X[l]? = some f->Qal e f=true
def Qj6 (X:List (Int×Int)) (a mid b:Nat):Prop:=∀ k l e f,a<=k->k < mid->mid<=l->l < b->X[k]? = some e->X[l]? = some f->Qal e f=true
theorem Qyc {X Y:List (Int×Int)} {a mid b:Nat} (hn:X.Nodup) (h1:Qc4 X a mid) (hc:Qj6 X a mid b) (hs:Seg X Y mid b) (h2:Qc4 Y mid b):Qc4 Y a b:=by
 intro k l e f hk hkl hl he hf;by_cases h:mid<=k
 . exact h2 k l e f h hkl hl he hf
 . have he':X[k]? = some e:=by rw [<- hs.out k (by omega)];exact he
   by_cases h':mid<=l
   . obtain ⟨l',hl',hf'⟩:=hs.back hn ⟨h',hl⟩ hf;exact hc k l' e f hk (by omega) (by omega) (by omega) he' hf'
   . have hf':X[l]? = some f:=by rw [<- hs.out l (by omega)];exact hf
     exact h1 k l e f hk hkl (by omega) he' hf'
theorem Qtg {X Y:List (Int×Int)} {a mid b:Nat} (hn:X.Nodup) (h1:Qc4 X mid b) (hc:Qj6 X a mid b) (hs:Seg X Y a mid) (h2:Qc4 Y a mid):Qc4 Y a b:=by
 intro k l e f hk hkl hl he hf;by_cases h:l < mid
 . exact h2 k l e f hk hkl h he hf
 . have hf':X[l]? = some f:=by rw [<- hs.out l (by omega)];exact hf
   by_cases h':k < mid
   . obtain ⟨k',hk',he'⟩:=hs.back hn ⟨hk,h'⟩ he;exact hc k' l e f (by omega) (by omega) (by omega) hl he' hf'
   . have he':X[k]? = some e:=by rw [<- hs.out k (by omega)];exact he
     exact h1 k l e f (by omega) hkl hl he' hf'
theorem Qwm (a b c:Int×Int) (h1:Qal b a=false) (h2:Qal c b=false):Qal c a=false:=by
 rw [<- Kep] at *
 simp only [Qal,Kbj,Kac,Kai] at *
 omega
theorem Jlv (X:List (Int×Int)) (hX:∀ x ∈ X,DE x) (hn:X.Nodup) (hl:X.length<=700000) (a n:Nat) (hab:a+n<=X.length) (M:List Qad) :
 ∃ X':List (Int×Int),Seg X X' a (a+n)/\Qc4 X' a (a+n)/\Ev tb Ja9 [0] [O2 X,I a,I ((a:Int)+n),fcE] M ⟨.tup [],[O2 X'],M,[]⟩:=by
 have hc:Qnf vE Jkm [] Qal DE M:=fun x y hx hy=>⟨Qq5 x y,Qcb x y,Qft hx hy _⟩;obtain ⟨P,hP⟩:∃ P,P=X.take a:=⟨_,rfl⟩;obtain ⟨S,hS⟩:∃ S,S=(X.drop a).take n:=⟨_,rfl⟩;obtain ⟨Q,hQ⟩:∃ Q,Q=X.drop (a+n):=⟨_,rfl⟩;have hXe:X=P++(S++Q):=by
  rw [hP,hS,hQ,<- Kdo,Kcg,Kcg]
 have hPl:P.length=a:=by rw [hP,Kas];omega
 have hSl:S.length=n:=by rw [hS,Kas,Kco];omega
 have hsrt:=Qvh (lt:=Qal) Qwm (fun a b h=>Qhb h) S [] .nil;have hsp:=hsrt.2;rw [Kaq] at hsp;have hTl:(Qem Qal [] S).length=n:=by rw [hsp.length_eq,hSl]
 have hp:(P++(Qem Qal [] S++Q)).Perm X:=by
  rw [hXe];exact Kek P (hsp.append_right Q)
 refine ⟨P++(Qem Qal [] S++Q),⟨hp,fun k hk=>?_⟩,?_,?_⟩
 . rw [hXe];rcases hk with hk | hk
   . rw [Kba (by omega),Kba (by omega)]
   . rw [Kat (by omega),Kat (by omega),Kat (by omega),Kat (by omega),hTl,hSl]
 . intro k l e f hk hkl hlb he hf;have hny:(P++(Qem Qal [] S++Q)).Nodup:=hp.nodup_iff.2 hn;have hne:e ≠ f:=by
    rintro rfl;obtain ⟨h1,h2⟩:=Kak.1 he;obtain ⟨h3,h4⟩:=Kak.1 hf;have:=(Keo hny).1 (h2.trans h4.symm);omega
   rw [Kat (by omega),Kba (by omega)] at he hf;obtain ⟨h1,h2⟩:=Kak.1 he;obtain ⟨h3,h4⟩:=Kak.1 hf;have:=List.pairwise_iff_getElem.1 hsrt.1 _ _ h1 h3 (by omega);rw [h2,h4] at this;rcases Qcl hne with h | h
   . exact h
   . rw [this] at h;cases h
 . have e:=Jli Jkm [] Qal DE M hc P Q S (by rw [hXe] at hl;simp at hl;omega) (fun x hx=>hX x (by rw [hXe];simp [hx]));rw [<- hXe,hPl,hSl,show ((a+n:Nat):Int)=(a:Int)+n by omega] at e;exact e
def Qwg (n:Nat) (lim:Nat) (M:List Qad):Prop:=∀ (n' a':Nat) (X:List (Int×Int)),n'+2<=n->(∀ x ∈ X,DE x)->X.Nodup->X.length<=700000->a'+n'<=X.length->(a'=0 \/ ∀ k e f,a'<=k->k < a'+n'->X[a' - 1]? = some e->X[k]? = some f->Qal e f=true) ->
 ∃ X':List (Int×Int),Seg X X' a' (a'+n')/\Qc4 X' a' (a'+n')/\Qbq tb Qq3 [0] [O2 X,I a',I ((a':Int)+n'),I lim,fcE] M=some ⟨.tup [],[O2 X'],M,[]⟩
abbrev kcD:IC:=(.seq Jg8 (.seq Jg9 (.seq Jha (.seq Jhb (.seq Jhc (.cond (.t 125) (.seq Jhd (.seq Jhe Jhf)) (.seq Jhg (.seq Jhh Jhi))))))))
set_option maxHeartbeats 2000000 in
theorem pdq_D (X:List (Int×Int)) (hX:∀ x ∈ X,DE x) (hn:X.Nodup) (hl:X.length<=700000) (a n m lim:Nat) (h13:13<=n) (h21:n<=21) (hab:a+n<=X.length) (hm:a<=m/\m < a+n) (M:List Qad) (hrec:Qwg n lim (M++[[]]))
 (h0:a=0 \/ ∀ k e f,a<=k->k < a+n->X[a - 1]? = some e->X[k]? = some f->Qal e f=true)
 (p1:∃ p,(a<=p/\p < a+n)/\∀ h1 h2,Qal (X[p]'h1) (X[m]'h2)=true) (p2:∃ p,(a<=p/\p < a+n)/\∀ h1 h2,Qal (X[m]'h1) (X[p]'h2)=true)
 (bal part:Bool) (Q:Ex->St->Prop)
 (hL:∀ (X3:List (Int×Int)) (mid:Nat) (bal part:Bool),a < mid->mid+1 < a+n->Seg X X3 a (a+n)->Qc4 X3 a (mid+1)->Qj6 X3 a (mid+1) (a+n) ->
   Q .normal { T:=[(0,O2 X3),(1,I (mid+1:Nat)),(2,I ((a:Int)+n)),(3,I lim),(4,fcE),(10,Bo bal),(11,Bo part)],loc:=[],M:=M })
 (hR:∀ (X3:List (Int×Int)) (mid:Nat) (bal part:Bool),a < mid->mid+1 < a+n->Seg X X3 a (a+n)->Qc4 X3 mid (a+n)->Qj6 X3 a mid (a+n) ->
   Q .normal { T:=[(0,O2 X3),(1,I a),(2,I mid),(3,I lim),(4,fcE),(10,Bo bal),(11,Bo part)],loc:=[],M:=M }) :
 wp tb kcD { T:=[(0,O2 X),(1,I a),(2,I ((a:Int)+n)),(3,I lim),(4,fcE),(10,Bo bal),(11,Bo part),(12,I n),(13,I m),(97,Bo false)],loc:=[],M:=M } Q:=by
 obtain ⟨X2,mid,t,hS,hmid,hpv,hcut,hE⟩:=Qr0 X hX (by omega) a n m (by omega) hab hm (M++[[]]);have e1:=Qaa hE;have hml:m < X.length:=by omega
 rw [Kag hml] at hpv hcut;obtain ⟨hlo,hhi⟩:=hcut _ rfl;have hl2:=hS.len;have hn2:=hS.nodup hn;have hX2:∀ x ∈ X2,DE x:=fun x hx=>hX x (hS.perm.mem_iff.1 hx);obtain ⟨p,hp,hp1⟩:=p1;obtain ⟨q,hq,hq1⟩:=p2;have hpl:p < X.length:=by omega
 have hql:q < X.length:=by omega
 have hp1:=hp1 hpl hml;have hq1:=hq1 hml hql;have whereIs:∀ r,(a<=r/\r < a+n)->∀ hr:r < X.length,∃ r',(a<=r'/\r' < a+n)/\X2[r']? = some X[r]:=fun r hr hrl=>by
  have hm2:X[r] ∈ X2:=hS.perm.mem_iff.2 (Kao hrl);obtain ⟨r',hr',he⟩:=List.getElem_of_mem hm2;refine ⟨r',?_,by rw [Kag hr',he]⟩;refine Kcx fun hno=>?_;have h1:=hS.out r' (by omega);rw [Kag hr',he] at h1;obtain ⟨h2,h3⟩:=Kak.1 h1.symm;have:=(Keo hn).1 h3;omega
 obtain ⟨p',hp',hpe⟩:=whereIs p hp hpl;obtain ⟨q',hq',hqe⟩:=whereIs q hq hql;have hamid:a < mid:=by
  refine Kcx fun hno=>?_;have hma:mid=a:=by omega
  by_cases hpm:p'=mid
  . rw [hpm,hpv] at hpe;exact Qkr hp1 (Kda hpe).symm
  . have:=hhi p' _ (by omega) hp'.2 hpe;rw [hp1] at this;cases this
 have hmidb:mid+1 < a+n:=by
  refine Kcx fun hno=>?_;have hma:mid+1=a+n:=by omega
  by_cases hpm:q'=mid
  . rw [hpm,hpv] at hqe;exact Qkr hq1 (Kda hqe)
  . have:=hlo q' _ hq'.1 (by omega) hqe;rw [Qhb hq1] at this;cases this
 have hhi':∀ k e,mid < k->k < a+n->X2[k]? = some e->Qal X[m] e=true:=fun k e k1 k2 he=>by
  have h1:=hhi k e (by omega) k2 he;have hne:X[m] ≠ e:=by
   rintro rfl;obtain ⟨h2,h3⟩:=Kak.1 he;obtain ⟨h4,h5⟩:=Kak.1 hpv;have:=(Keo hn2).1 (h3.trans h5.symm);omega
  rcases Qcl hne with h | h
  . exact h
  . rw [h1] at h;cases h
 have hcutm:Qj6 X2 a mid (a+n):=fun k l e f k1 k2 k3 k4 he hf=>by
  have h1:=hlo k e k1 k2 he;by_cases hlm:l=mid
  . rw [hlm,hpv] at hf;cases hf;exact h1
  . exact Qdm h1 (hhi' l f (by omega) k4 hf)
 have hcutm':Qj6 X2 a (mid+1) (a+n):=fun k l e f k1 k2 k3 k4 he hf=>by
  by_cases hkm:k=mid
  . rw [hkm,hpv] at he;cases he;exact hhi' l f (by omega) k4 hf
  . exact hcutm k l e f k1 (by omega) (by omega) k4 he hf
 obtain ⟨n1,hn1⟩:∃ n1,mid=a+n1:=⟨mid - a,by omega⟩;obtain ⟨n2,hn2'⟩:∃ n2,n=n1+1+n2:=⟨n - (n1+1),by omega⟩;have w1:IntKind.i64.wrap ((mid:Int) - a)=(n1:Int):=by rw [Qac (by omega) (by omega)];omega
 have w2:IntKind.i64.wrap ((a:Int)+n - mid)=((n2+1:Nat):Int):=by rw [Qac (by omega) (by omega)];omega
 have t1:(n:Int).tdiv 8=((n / 8:Nat):Int):=by rw [Kds (by omega)];rfl
 obtain ⟨th,hth⟩:∃ th,th=n / 8:=⟨_,rfl⟩;rw [<- hth] at t1;have w3:IntKind.i64.wrap (th:Int)=(th:Int):=Qac (by omega) (by omega);have w4:IntKind.i64.wrap ((mid:Int)+1)=(mid:Int)+1:=Qac (by omega) (by omega);by_cases hc:(n1:Int) < ((n2+1:Nat):Int)
 . obtain ⟨X3,hS3,hsr,e2⟩:=hrec n1 a X2 (by omega) hX2 hn2 (by omega) (by omega) (by
    rcases h0 with h0 | h0
    . exact .inl h0
    . by_cases ha:a=0
      . exact .inl ha
      . refine .inr fun k e f k1 k2 he hf=>?_;rw [hS.out (a - 1) (by omega)] at he;obtain ⟨k',hk',hf'⟩:=hS.back hn ⟨k1,by omega⟩ hf;exact h0 k' e f hk'.1 hk'.2 he hf')
   rw [show (a:Int)+n1=(mid:Int) by omega] at e2;have hfin:=hL X3 mid (decide (th<=n1)) t hamid hmidb (hS.trans (hS3.mono (Kam _) (by omega))) (Qtg hn2 (fun k l e f k1 k2 k3=>by omega) (fun k l e f k1 k2 k3 k4=>hcutm k l e f k1 (by omega) k3 (by omega)) (by rw [<- hn1] at hS3;exact hS3) (by rw [<- hn1] at hsr;exact hsr)) (fun k l e f k1 k2 k3 k4 he hf=>by
    have hf':X2[l]? = some f:=by rw [<- hS3.out l (by omega)];exact hf
    by_cases hkm:k=mid
    . have he':X2[k]? = some e:=by rw [<- hS3.out k (by omega)];exact he
      exact hcutm' k l e f k1 k2 k3 k4 he' hf'
    . obtain ⟨k',hk',he'⟩:=hS3.back hn2 ⟨k1,by omega⟩ he;exact hcutm' k' l e f hk'.1 (by omega) k3 k4 he' hf')
   rw [show ((mid+1:Nat):Int)=(mid:Int)+1 by omega] at hfin;rw [show ((n2+1:Nat):Int)=(n2:Int)+1 by omega] at hc w2;have Hq:=cj8 e1 e2 w1 w2 w3 w4 t1 hc;repeat refine go1 ?_
   exact hfin
 . obtain ⟨X3,hS3,hsr,e2⟩:=hrec n2 (mid+1) X2 (by omega) hX2 hn2 (by omega) (by omega) (.inr fun k e f k1 k2 he hf=>by
    rw [Nat.add_sub_cancel,hpv] at he;cases he;exact hhi' k f (by omega) (by omega) hf)
   rw [show ((mid+1:Nat):Int)+n2=(a:Int)+n by omega,show ((mid+1:Nat):Int)=(mid:Int)+1 by omega] at e2;have hS3':Seg X2 X3 (mid+1) (a+n):=by rw [show mid+1+n2=a+n by omega] at hS3;exact hS3
   have hsr':Qc4 X3 (mid+1) (a+n):=by rw [show mid+1+n2=a+n by omega] at hsr;exact hsr
   have hfin:=hR X3 mid (decide ((th:Int)<=(n2:Int)+1)) t hamid hmidb (hS.trans (hS3'.mono (by omega) (Kam _))) (Qyc hn2 (mid:=mid+1) (fun k l e f k1 k2 k3=>by omega) (fun k l e f k1 k2 k3 k4=>hcutm' k l e f (by omega) k2 k3 k4) hS3' hsr') (fun k l e f k1 k2 k3 k4 he hf=>by
    have he':X2[k]? = some e:=by rw [<- hS3'.out k (by omega)];exact he
    by_cases hlm:l=mid
    . have hf':X2[l]? = some f:=by rw [<- hS3'.out l (by omega)];exact hf
      exact hcutm k l e f k1 k2 k3 k4 he' hf'
    . obtain ⟨l',hl',hf'⟩:=hS3'.back hn2 ⟨by omega,k4⟩ hf;exact hcutm k l' e f k1 k2 (by omega) hl'.2 he' hf')
   rw [show ((n2+1:Nat):Int)=(n2:Int)+1 by omega] at hc w2;have Hq:=cj8 e1 e2 w1 w2 w3 w4 t1 hc;repeat refine go1 ?_
   exact hfin
end Go.Idl
namespace Go.Idl
open Go
abbrev kcB':IC:=(.seq (.seq Jgz (.cond (.t 56) (.seq Jg0 (.seq Jg1 Jg2)) .skip)) (.seq (.seq Jg3 (.cond (.t 75) (.seq Jg4 (.cond (.t 80) .ret .skip)) .skip)) (.seq (.seq Jg5 (.cond (.t 97) (.seq Jg6 (.seq Jg7 (.exit 1))) .skip)) kcD)))
abbrev kcB:IC:=.seq Jgy kcB'
theorem Jfp {X:List (Int×Int)} {a b:Nat} (hn:X.Nodup) (h:∀ k,a < k->k < b->∀ h1 h2,Qal (X[k]'h1) (X[k - 1]'h2)=false):Qc4 X a b:=by
 have key:∀ (d k:Nat) (e f:Int×Int),a<=k->k+d+1 < b->X[k]? = some e->X[k+d+1]? = some f->Qal e f=true:=by
  intro d
  induction d with
  | zero =>
    intro k e f hk hb he hf;obtain ⟨h1,h2⟩:=Kak.1 he;obtain ⟨h3,h4⟩:=Kak.1 hf;have h5:=h (k+0+1) (by omega) hb h3 (by simpa using h1);simp only [Keh,Nat.add_sub_cancel] at h5 h4;rw [h4,h2] at h5;have hne:e ≠ f:=by
     rintro rfl;have:=(Keo hn).1 (h2.trans h4.symm);omega
    rcases Qcl hne with q | q
    . exact q
    . rw [h5] at q;cases q
  | succ d ih =>
    intro k e f hk hb he hf;have h3:=(Kak.1 hf).1;have hg:k+d+1 < X.length:=by omega
    have q1:=ih k e X[k+d+1] hk (by omega) he (Kag hg);obtain ⟨h3,h4⟩:=Kak.1 hf;have h5:=h (k+(d+1)+1) (by omega) hb h3 (by omega);have hi:k+(d+1)+1 - 1=k+d+1:=by omega
    simp only [hi] at h5;rw [h4] at h5;have hne:X[k+d+1] ≠ f:=by
     intro he2;have:=(Keo hn).1 (he2.trans h4.symm);omega
    rcases Qcl hne with q | q
    . exact Qdm q1 q
    . rw [h5] at q;cases q
 intro k l e f hk hkl hl he hf;obtain ⟨d,rfl⟩:∃ d,l=k+d+1:=⟨l - k - 1,by omega⟩;exact key d k e f hk hl he hf
set_option maxHeartbeats 8000000 in
theorem pdq_B' (X:List (Int×Int)) (hX:∀ x ∈ X,DE x) (hn:X.Nodup) (hl:X.length<=700000) (a n lim:Nat) (h13:13<=n) (h21:n<=21) (hab:a+n<=X.length) (M:List Qad) (hrec:Qwg n lim (M++[[]]))
 (h0:a=0 \/ ∀ k e f,a<=k->k < a+n->X[a - 1]? = some e->X[k]? = some f->Qal e f=true)
 (bal part:Bool) (Q:Ex->St->Prop) (m:Nat) (hint:Int) (hm:a<=m/\m < a+n) (hh:hint=0 \/ hint=1)
 (p1:∃ p,(a<=p/\p < a+n)/\∀ h1 h2,Qal (X[p]'h1) (X[m]'h2)=true) (p2:∃ p,(a<=p/\p < a+n)/\∀ h1 h2,Qal (X[m]'h1) (X[p]'h2)=true)
 (hS:∀ m:Nat,Qc4 X a (a+n)->Q .ret { T:=[(0,O2 X),(1,I a),(2,I ((a:Int)+n)),(3,I lim),(4,fcE),(10,Bo bal),(11,Bo part),(12,I n),(13,I m),(80,Bo true)],loc:=[],M:=M })
 (hL:∀ (X3:List (Int×Int)) (mid:Nat) (bal part:Bool),a < mid->mid+1 < a+n->Seg X X3 a (a+n)->Qc4 X3 a (mid+1)->Qj6 X3 a (mid+1) (a+n) ->
   Q .normal { T:=[(0,O2 X3),(1,I (mid+1:Nat)),(2,I ((a:Int)+n)),(3,I lim),(4,fcE),(10,Bo bal),(11,Bo part)],loc:=[],M:=M })
 (hR:∀ (X3:List (Int×Int)) (mid:Nat) (bal part:Bool),a < mid->mid+1 < a+n->Seg X X3 a (a+n)->Qc4 X3 mid (a+n)->Qj6 X3 a mid (a+n) ->
   Q .normal { T:=[(0,O2 X3),(1,I a),(2,I mid),(3,I lim),(4,fcE),(10,Bo bal),(11,Bo part)],loc:=[],M:=M }) :
 wp tb kcB' { T:=[(0,O2 X),(1,I a),(2,I ((a:Int)+n)),(3,I lim),(4,fcE),(10,Bo bal),(11,Bo part),(12,I n),(13,I m),(14,I hint)],loc:=[],M:=M } Q:=by
 obtain ⟨t,ht,hE2⟩:=Qpo X hX (by omega) a n (by omega) (by omega) hab (M++[[]]);have e2:=Qaa hE2;have hml:m < X.length:=by omega
 have hD:=pdq_D X hX hn hl a n m lim h13 h21 hab hm M hrec h0 p1 p2 bal part Q hL hR;have key:∀ (hq:a=0 \/ ∃ a0,∃ h:a0 < X.length,a=a0+1/\Qq5 X[a0] X[m] < 0),True:=fun _=>trivial;have hq:a=0 \/ ∃ a0,∃ h:a0 < X.length,a=a0+1/\Qq5 X[a0] X[m] < 0:=by
  rcases h0 with h0 | h0
  . exact .inl h0
  . by_cases ha:a=0
    . exact .inl ha
    . refine .inr ⟨a - 1,by omega,by omega,?_⟩;have:=h0 m X[a - 1] X[m] hm.1 hm.2 (Kag (by omega)) (Kag hml);rw [<- Qcb] at this;exact of_decide_eq_true this
 clear key;have hto:X.take X.length=X:=Kae (Kam _);rcases hq with ha | ⟨a0,ha0,ha,hcm⟩
 . have g1:¬ (0:Int) < (a:Int):=by omega
   have g1':¬ 0 < a:=by omega
   clear ha;rcases hh with rfl | rfl
   . cases bal <;> cases part
     all_goals
      have Hq:=cj3 hml g1 g1';repeat refine go1 ?_
      exact hD
   . cases bal <;> cases part
     rotate_right 1
     . cases t with
       | true =>
         have hs:=hS m (Jfp hn (ht rfl));have Hq:=cj4 e2 hml g1 g1';repeat refine go1 ?_
         exact hs
       | false =>
         have Hq:=cj4 e2 hml g1 g1';repeat refine go1 ?_
         exact hD
     all_goals
      have Hq:=cj3 hml g1 g1';repeat refine go1 ?_
      exact hD
 . have e3:=fun M=>Qaa (Qft (hX _ (Kao ha0)) (hX _ (Kao hml)) M);have w1:IntKind.i64.wrap ((a:Int) - 1)=(a0:Int):=by rw [Qac (by omega) (by omega)];omega
   have g1:(0:Int) < (a:Int):=by omega
   have g1':0 < a:=by omega
   rcases hh with rfl | rfl
   . cases bal <;> cases part
     all_goals
      have Hq:=cj7 e3 hml ha0 w1 g1 g1' hcm;repeat refine go1 ?_
      exact hD
   . cases bal <;> cases part
     rotate_right 1
     . cases t with
       | true =>
         have hs:=hS m (Jfp hn (ht rfl));have Hq:=cj8 e2 e3 hml ha0 w1 g1 g1' hcm;repeat refine go1 ?_
         exact hs
       | false =>
         have Hq:=cj8 e2 e3 hml ha0 w1 g1 g1' hcm;repeat refine go1 ?_
         exact hD
     all_goals
      have Hq:=cj7 e3 hml ha0 w1 g1 g1' hcm;repeat refine go1 ?_
      exact hD
set_option maxHeartbeats 2000000 in
theorem pdq_B (X:List (Int×Int)) (hX:∀ x ∈ X,DE x) (hn:X.Nodup) (hl:X.length<=700000) (a n lim:Nat) (h13:13<=n) (h21:n<=21) (hab:a+n<=X.length) (M:List Qad) (hrec:Qwg n lim (M++[[]]))
 (h0:a=0 \/ ∀ k e f,a<=k->k < a+n->X[a - 1]? = some e->X[k]? = some f->Qal e f=true)
 (bal part:Bool) (Q:Ex->St->Prop) (f:Bool)
 (hS:∀ m:Nat,Qc4 X a (a+n)->Q .ret { T:=[(0,O2 X),(1,I a),(2,I ((a:Int)+n)),(3,I lim),(4,fcE),(10,Bo bal),(11,Bo part),(12,I n),(13,I m),(80,Bo true)],loc:=[],M:=M })
 (hL:∀ (X3:List (Int×Int)) (mid:Nat) (bal part:Bool),a < mid->mid+1 < a+n->Seg X X3 a (a+n)->Qc4 X3 a (mid+1)->Qj6 X3 a (mid+1) (a+n) ->
   Q .normal { T:=[(0,O2 X3),(1,I (mid+1:Nat)),(2,I ((a:Int)+n)),(3,I lim),(4,fcE),(10,Bo bal),(11,Bo part)],loc:=[],M:=M })
 (hR:∀ (X3:List (Int×Int)) (mid:Nat) (bal part:Bool),a < mid->mid+1 < a+n->Seg X X3 a (a+n)->Qc4 X3 mid (a+n)->Qj6 X3 a mid (a+n) ->
   Q .normal { T:=[(0,O2 X3),(1,I a),(2,I mid),(3,I lim),(4,fcE),(10,Bo bal),(11,Bo part)],loc:=[],M:=M }) :
 wp tb kcB { T:=[(0,O2 X),(1,I a),(2,I ((a:Int)+n)),(3,I lim),(4,fcE),(10,Bo bal),(11,Bo part),(12,I n)]++(if f then [(39,Bo false)] else []),loc:=[],M:=M } Q:=by
 obtain ⟨m,hint,hm,hh,p1,p2,hE⟩:=Qnr X hX hn (by omega) a n hab h13 (by omega) (M++[[]]);have e1:=Qaa hE;have hB:=pdq_B' X hX hn hl a n lim h13 h21 hab M hrec h0 bal part Q m hint hm hh p1 p2 hS hL hR;cases f
 all_goals
  simp only [if_true,Kbs,Kap,Kbb,Kbk,Kaq];refine wr (by simp [e1];with_reducible rfl) ?_;exact hB
end Go.Idl
namespace Go.Idl
open Go
def pot (n:Nat):Nat:=if n<=12 then 0 else (n - 11) / 2
theorem Qxw {X:List (Int×Int)} {a n lim:Nat} {M:List Qad}
 (h:wp tb (.loop Qjj) { T:=[(0,O2 X),(1,I a),(2,I ((a:Int)+n)),(3,I lim),(4,fcE),(10,Bo true),(11,Bo true)],loc:=[],M:=M }
   (fun ex st=>ex=.ret/\∃ X':List (Int×Int),Seg X X' a (a+n)/\Qc4 X' a (a+n)/\Qd6 Qto [0] st=some ⟨.tup [],[O2 X'],M,[]⟩)) :
 ∃ X':List (Int×Int),Seg X X' a (a+n)/\Qc4 X' a (a+n)/\Ev tb Qq3 [0] [O2 X,I a,I ((a:Int)+n),I lim,fcE] M ⟨.tup [],[O2 X'],M,[]⟩:=by
 suffices hh:∃ r,(∃ X':List (Int×Int),Seg X X' a (a+n)/\Qc4 X' a (a+n)/\r=⟨.tup [],[O2 X'],M,[]⟩)/\Ev tb Qq3 [0] [O2 X,I a,I ((a:Int)+n),I lim,fcE] M r by
  obtain ⟨r,⟨X',q1,q2,rfl⟩,q3⟩:=hh;exact ⟨X',q1,q2,q3⟩
 refine Qlg zt285 rfl ?_
 repeat refine go0 ?_
 refine Qab h ?_;rintro ex st ⟨rfl,X',q1,q2,q3⟩;exact ⟨.inr rfl,_,⟨X',q1,q2,rfl⟩,q3⟩
abbrev Qoy (X:List (Int×Int)) (a n:Nat) (M:List Qad) (ex:Ex) (st:St):Prop :=
 ex=.ret/\∃ X':List (Int×Int),Seg X X' a (a+n)/\Qc4 X' a (a+n)/\Qd6 Qto [0] st=some ⟨.tup [],[O2 X'],M,[]⟩
theorem Jes (n:Nat) (h12:n<=12) (X:List (Int×Int)) (a lim:Nat) (bal part:Bool) (M:List Qad) (hX:∀ x ∈ X,DE x) (hnd:X.Nodup) (hl:X.length<=700000) (hab:a+n<=X.length) :
 wp tb (.loop Qjj) { T:=[(0,O2 X),(1,I a),(2,I ((a:Int)+n)),(3,I lim),(4,fcE),(10,Bo bal),(11,Bo part)],loc:=[],M:=M } (Qoy X a n M):=by
 obtain ⟨X',hS,hs,hE⟩:=Jlv X hX hnd hl a n hab (M++[[]]);have e1:=Qaa hE;have w00:(a:Int)+(n:Int) - a=n:=by omega
 have w0:IntKind.i64.wrap (n:Int)=(n:Int):=Qac (by omega) (by omega);have g1:(n:Int)<=12:=by omega
 refine jL ?_;have Hq:=cj5 w00 w0 g1 h12 e1;repeat refine go1 ?_
 refine ⟨rfl,X',hS,hs,?_⟩;simp [Qto]
set_option maxHeartbeats 4000000 in
theorem Jmk:∀ (N n:Nat),n<=N->n<=21->∀ (X:List (Int×Int)) (a lim:Nat) (bal part:Bool) (M:List Qad),(∀ x ∈ X,DE x)->X.Nodup->X.length<=700000->a+n<=X.length->pot n<=lim->lim<=1000 ->
 (a=0 \/ ∀ k e f,a<=k->k < a+n->X[a - 1]? = some e->X[k]? = some f->Qal e f=true) ->
 wp tb (.loop Qjj) { T:=[(0,O2 X),(1,I a),(2,I ((a:Int)+n)),(3,I lim),(4,fcE),(10,Bo bal),(11,Bo part)],loc:=[],M:=M } (Qoy X a n M):=by
 intro N
 induction N with
 | zero =>
   intro n hn h21 X a lim bal part M hX hnd hl hab hpot hlim h0;exact Jes n (by omega) X a lim bal part M hX hnd hl hab
 | succ N ih =>
   intro n hn h21 X a lim bal part M hX hnd hl hab hpot hlim h0;by_cases h12:n<=12
   . exact Jes n h12 X a lim bal part M hX hnd hl hab
   have hp1:pot n=(n - 11) / 2:=by rw [pot,if_neg h12]
   have hlim1:1<=lim:=by omega
   have hpm:∀ n',n'+2<=n->pot n'<=lim - 1:=fun n' h=>by
    rw [pot];split <;> omega
   have hrec:∀ lim',lim - 1<=lim'->lim'<=1000->∀ M,Qwg n lim' M:=fun lim' h1 h2 M n' a' X hn' hX hnd hl hab h0=>by
    obtain ⟨X',q1,q2,q3⟩:=Qxw (ih n' (by omega) (by omega) X a' lim' true true M hX hnd hl hab (by have:=hpm n' hn';omega) h2 h0);exact ⟨X',q1,q2,Qaa q3⟩
   have w00:(a:Int)+(n:Int) - a=n:=by omega
   have w0:IntKind.i64.wrap (n:Int)=(n:Int):=Qac (by omega) (by omega);have g1:¬ (n:Int)<=12:=by omega
   have g2:¬ (lim:Int)=0:=by omega
   have g2':¬ lim=0:=by omega
   have fin:∀ (X1:List (Int×Int)) (lim1:Nat),Seg X X1 a (a+n)->lim - 1<=lim1->lim1<=1000 ->
    (∀ (X3:List (Int×Int)) (mid:Nat) (bal part:Bool),a < mid->mid+1 < a+n->Seg X1 X3 a (a+n)->Qc4 X3 a (mid+1)->Qj6 X3 a (mid+1) (a+n) ->
      wp tb (.loop Qjj) { T:=[(0,O2 X3),(1,I (mid+1:Nat)),(2,I ((a:Int)+n)),(3,I lim1),(4,fcE),(10,Bo bal),(11,Bo part)],loc:=[],M:=M } (Qoy X a n M)) /\
    (∀ (X3:List (Int×Int)) (mid:Nat) (bal part:Bool),a < mid->mid+1 < a+n->Seg X1 X3 a (a+n)->Qc4 X3 mid (a+n)->Qj6 X3 a mid (a+n) ->
      wp tb (.loop Qjj) { T:=[(0,O2 X3),(1,I a),(2,I mid),(3,I lim1),(4,fcE),(10,Bo bal),(11,Bo part)],loc:=[],M:=M } (Qoy X a n M)):=by
    intro X1 lim1 hS1 hl1 hl2;refine ⟨fun X3 mid bal part h1 h2 hS3 hs hc=>?_,fun X3 mid bal part h1 h2 hS3 hs hc=>?_⟩
    . have hS:=hS1.trans hS3;have hle:=hS.len;obtain ⟨n2,hn2⟩:∃ n2,a+n=mid+1+n2:=⟨a+n - (mid+1),by omega⟩;have:=ih n2 (by omega) (by omega) X3 (mid+1) lim1 bal part M (fun x hx=>hX x (hS.perm.mem_iff.1 hx)) (hS.nodup hnd) (by omega) (by omega) (by have:=hpm n2 (by omega);omega) hl2 (.inr fun k e f k1 k2 he hf=>by
       rw [Nat.add_sub_cancel] at he;exact hc mid k e f (by omega) (by omega) k1 (by omega) he hf)
      rw [show ((mid+1:Nat):Int)+(n2:Int)=(a:Int)+n by omega] at this;refine Qab this ?_;rintro ex st ⟨rfl,X',q1,q2,q3⟩;rw [<- hn2] at q1 q2;exact ⟨rfl,X',hS.trans (q1.mono (by omega) (Kam _)),Qyc (hS.nodup hnd) hs hc q1 q2,q3⟩
    . have hS:=hS1.trans hS3;have hle:=hS.len;obtain ⟨n1,hn1⟩:∃ n1,mid=a+n1:=⟨mid - a,by omega⟩;have:=ih n1 (by omega) (by omega) X3 a lim1 bal part M (fun x hx=>hX x (hS.perm.mem_iff.1 hx)) (hS.nodup hnd) (by omega) (by omega) (by have:=hpm n1 (by omega);omega) hl2 (by
       rcases h0 with h0 | h0
       . exact .inl h0
       . by_cases ha:a=0
         . exact .inl ha
         . refine .inr fun k e f k1 k2 he hf=>?_;rw [hS.out (a - 1) (by omega)] at he;obtain ⟨k',hk',hf'⟩:=hS.back hnd ⟨k1,by omega⟩ hf;exact h0 k' e f hk'.1 hk'.2 he hf')
      rw [show (a:Int)+(n1:Int)=(mid:Int) by omega] at this;refine Qab this ?_;rintro ex st ⟨rfl,X',q1,q2,q3⟩;rw [<- hn1] at q1 q2;exact ⟨rfl,X',hS.trans (q1.mono (Kam _) (by omega)),Qtg (hS.nodup hnd) hs hc q1 q2,q3⟩
   cases bal with
   | true =>
     obtain ⟨fL,fR⟩:=fin X lim (Seg.refl X a (a+n)) (by omega) hlim;refine jL ?_;have Hq:=cj6 w00 w0 g1 h12 g2 g2';iterate 10 refine go1 ?_
     refine jK ?_;refine pdq_B X hX hnd hl a n lim (by omega) h21 hab M (hrec lim (by omega) hlim _) h0 true part _ true ?_ ?_ ?_
     . intro m hs;refine ⟨rfl,X,Seg.refl X a (a+n),hs,?_⟩;simp [Qto]
     . intro X3 mid bal part h1 h2 h3 h4 h5;exact fL X3 mid bal part h1 h2 h3 h4 h5
     . intro X3 mid bal part h1 h2 h3 h4 h5;exact fR X3 mid bal part h1 h2 h3 h4 h5
   | false =>
     obtain ⟨X1,hS1,hE⟩:=Qkd X (by omega) a n (by omega) h21 hab (M++[[]]);have e1:=Qaa hE;obtain ⟨lim1,hlim2⟩:∃ lim1,lim=lim1+1:=⟨lim - 1,by omega⟩;have hle:=hS1.len;have w1:IntKind.i64.wrap ((lim:Int) - 1)=(lim1:Int):=by rw [Qac (by omega) (by omega)];omega
     obtain ⟨fL,fR⟩:=fin X1 lim1 hS1 (by omega) (by omega);refine jL ?_;have Hq:=cj8 w00 w0 g1 h12 g2 g2' e1 w1;iterate 12 refine go1 ?_
     refine pdq_B X1 (fun x hx=>hX x (hS1.perm.mem_iff.1 hx)) (hS1.nodup hnd) (by omega) a n lim1 (by omega) h21 (by omega) M (hrec lim1 (by omega) (by omega) _) ?_ false part _ false ?_ ?_ ?_
     . rcases h0 with h0 | h0
       . exact .inl h0
       . by_cases ha:a=0
         . exact .inl ha
         . refine .inr fun k e f k1 k2 he hf=>?_;rw [hS1.out (a - 1) (by omega)] at he;obtain ⟨k',hk',hf'⟩:=hS1.back hnd ⟨k1,k2⟩ hf;exact h0 k' e f hk'.1 hk'.2 he hf'
     . intro m hs;refine ⟨rfl,X1,hS1,hs,?_⟩;simp [Qto]
     . intro X3 mid bal part h1 h2 h3 h4 h5;exact fL X3 mid bal part h1 h2 h3 h4 h5
     . intro X3 mid bal part h1 h2 h3 h4 h5;exact fR X3 mid bal part h1 h2 h3 h4 h5
theorem Qnq (X:List (Int×Int)) (hX:∀ x ∈ X,DE x) (hn:X.Nodup) (h21:X.length<=21) (M:List Qad) :
 ∃ X':List (Int×Int),X'.Perm X/\Qc4 X' 0 X.length/\Ev tb Ja7 [0] [O2 X,fcE] M ⟨.tup [],[O2 X'],M,[]⟩:=by
 have hb:Jbo X.length<=1000:=by unfold Jbo;(repeat' split) <;> omega
 have hp:pot X.length<=Jbo X.length:=by
  unfold pot Jbo
  (repeat' split) <;> omega
 obtain ⟨X',hS,hs,hE⟩:=Qxw (Jmk X.length X.length (Kam _) h21 X 0 (Jbo X.length) true true (M++[[]]) hX hn (by omega) (by omega) hp hb (.inl rfl));have e1:=Qaa hE;have e2:=Qaa (Jc8 X.length h21);have w1:=@Jnh X.length (by omega);rw [show ((0:Nat):Int)=0 from rfl,Int.zero_add] at e1;rw [Nat.zero_add] at hs;refine ⟨X',hS.perm,hs,?_⟩;refine jC zt272 rfl ?_;have Hq:=cj3 e1 e2 w1;repeat refine go1 ?_
 simp [Joa]
def Qfl (X:List (Int×Int)):List (Int×Int):=Qem Qal [] X
theorem Qqp {X:List (Int×Int)} (hn:X.Nodup):PW (Qfl X):=by
 obtain ⟨h1,h2⟩:=Qvh (lt:=Qal) Qwm (fun a b h=>Qhb h) X [] .nil;have hnd:(Qfl X).Nodup:=h2.nodup_iff.2 (by simpa using hn);refine (h1.and hnd).imp fun {a b} h=>?_;rcases Qcl h.2 with q | q
 . exact q
 . rw [h.1] at q;cases q
theorem Qc2 (X:List (Int×Int)):(Qfl X).Perm X:=by
 have:=Qb5 Qal X []
 rwa [Kaq] at this
theorem Quh (X:List (Int×Int)) (hX:∀ x ∈ X,DE x) (hn:X.Nodup) (h21:X.length<=21) (M:List Qad) :
 Ev tb Ja7 [0] [O2 X,fcE] M ⟨.tup [],[O2 (Qfl X)],M,[]⟩:=by
 obtain ⟨X',hp,hs,hE⟩:=Qnq X hX hn h21 M;have hl:=hp.length_eq;have hpw:PW X':=List.pairwise_iff_getElem.2 fun i j hi hj hij=>hs i j _ _ (by omega) hij (by omega) (Kag hi) (Kag hj);have:X'=Qfl X:=Jew hpw (Qqp hn) fun e=>by rw [hp.mem_iff,(Qc2 X).mem_iff]
 rw [<- this];exact hE
end Go.Idl
namespace Go.Idl
open Go
theorem Qum (n:Int) (e0:Nat) (es:List (Int×Int)) (c:Bool) (he0:e0=2 \/ es=[]) (hX:∀ x ∈ es,DE x) (hn:es.Nodup) (h21:es.length<=21) :
 Ev tb Qv0 [] [I n,.lst e0 (eds es) c] [] ⟨OG n (Qfl es),[],[],[]⟩:=by
 have e1:=Qaa (Qrw e0 es c he0 (by omega));have e2:=Qaa (Quh es hX hn h21 [[[I 0,Z]]]);refine jC zt214 rfl ?_;have Hq:=cj2 e1 e2;repeat refine go1 ?_
 simp [Jn3]
end Go.Idl
namespace Go.Idl
open Go
theorem Quf:Ev tb zl71 [] [Z] [] ⟨O [],[],[],[]⟩:=by
 refine jC zt71 rfl ?_;refine Qbo (by simp;rfl) (by simp;rfl) ?_;refine Qqy (b:=([]:List Int).isEmpty) (by simp [Jz6];rfl) (by simp) ?_ ?_ ?_ (ex:=.ret) (st':={ T:=[(2,.own 1 (Qb9 []))],loc:=[],M:=[] })
 . refine Qge (t:=false) (by simp) (by simp) fun _=>jQ ?_;refine Qbo (by simp;rfl) (by simp;rfl) ?_;refine jR ?_;simp
 . intro he;refine Qge (t:=true) (by simp) (fun _=>jA ?_) (by simp);refine Qbo (by simp;rfl) (by simp;rfl) ?_;refine jX ?_;simp
 . simp [zi71]
theorem Qze:Ev tb Jo1 [] [Z] [] ⟨O [],[],[],[]⟩:=by
 have e1:=Qaa Quf;have e2:=Qaa (Qph []);simp only [O,Qkw] at e1 e2 |-;refine jC zt31 rfl ?_;have Hq:=cj2 e1 e2;repeat refine go1 ?_
 simp [zi31]
def gtD (d:List Int) (a b:Int):Bool:=decide (d.getD b.toNat 0 < d.getD a.toNat 0)
def Qvj (d:List Int) (from_:List Int) (k:Nat):List Int:=(Qem (gtD d) [] from_).take k
theorem Qnt (d:List Int) (c:Bool) (hd:∀ x ∈ d,-1000<=x/\x<=1000) (a b:Nat) (ha:a < d.length) (hb:b < d.length) (Es:List Qad) :
 Ev tb Qvz [] [I a,I b,.bptr 0 0 0] ([[L d c]]::Es) ⟨I (d[b] - d[a]),[],[[L d c]]::Es,[]⟩:=by
 have h1:=hd _ (Kao ha);have h2:=hd _ (Kao hb);have w1:IntKind.i64.wrap (d[b] - d[a])=d[b] - d[a]:=Qac (by omega) (by omega);refine jC zt211 rfl ?_;have Hq:=cj3 ha hb w1;repeat refine go1 ?_
 simp [Jn2]
theorem Qrj (d:List Int) (c:Bool) (hd:∀ x ∈ d,-1000<=x/\x<=1000):Qnf vI Qvz [.bptr 0 0 0] (gtD d) (fun x=>0<=x/\x < d.length) [[[L d c]],[],[]]:=by
 intro x y hx hy;obtain ⟨a,rfl⟩:=Kbm hx.1;obtain ⟨b,rfl⟩:=Kbm hy.1;have ha:a < d.length:=by omega
 have hb:b < d.length:=by omega
 refine ⟨d[b] - d[a],?_,Qnt d c hd a b ha hb [[],[],[]]⟩;simp only [gtD,Kax,Kad,Kag ha,Kag hb,Kdf];rw [Kfa];omega
theorem Qqt (d from_:List Int) (k:Nat):(Qem (gtD d) [] from_).length=from_.length:=by
 simpa using (Qb5 (gtD d) from_ []).length_eq
theorem Ql0 (d:List Int) (c:Bool) (hd:∀ x ∈ d,-1000<=x/\x<=1000) (x:IV) (from_:List Int) (hx:(∃ c',x=L from_ c') \/ (from_=[]/\x=Z)) (hf:from_.length<=19) (hD:∀ v ∈ from_,0<=v/\v < d.length) (k:Nat) (hk:k<=from_.length) :
 Ev tb Ja3 [] [L d c,x,I k] [] ⟨O (Qvj d from_ k),[],[],[]⟩:=by
 have e1:Qbq tb Jo1 [] [x] []=some ⟨O from_,[],[],[]⟩:=by
  rcases hx with ⟨c',rfl⟩ | ⟨rfl,rfl⟩
  . exact Qaa (Qpl from_ c' (by omega))
  . exact Qaa Qze
 have e2:=Qaa (Qpj Qvz [.bptr 0 0 0] (gtD d) (fun x=>0<=x/\x < d.length) [[[L d c]]] (Qrj d c hd) from_ hf hD);have hl:=Qqt d from_ k;unfold Qvj;generalize Qem (gtD d) [] from_=s at *
 have hks:k<=s.length:=by omega
 rcases hx with ⟨c',rfl⟩ | ⟨rfl,rfl⟩
 . refine jC zt210 rfl ?_;have Hq:=cj3 e1 e2 hks;repeat refine go1 ?_
   simp [Jh5]
 . have hs:s=[]:=Kav.1 (by simpa using hl);subst hs;have hk0:k=0:=by simpa using hk
   subst hk0;simp only [O,Qkw] at e1 e2;refine jC zt210 rfl ?_;have Hq:=cj2 e1 e2;repeat refine go1 ?_
   simp [Jh5]
end Go.Idl
namespace Go.Idl
open Go
def Qon (v:Int):List Int->List Int->List (Int×Int)->Option (List Int×List (Int×Int))
 | [],left,es=>some (left,es)
 | i::r,left,es=>if left.getD i.toNat 0=0 then none else Qon v r (Qeo left i.toNat) (es++[(min v i,max v i)])
def Qkk:Nat->List Int->List Int->List (Int×Int)->Option (List (Int×Int))
 | 0,_,_,es=>some es
 | m+1,left,todo,es=>match Qem (gtD left) [] todo with
   | []=>some es
   | v::_ =>
     if (((todo.filter fun x=>!decide (x=v)).length:Nat):Int) < left.getD v.toNat 0 then none else
     match Qon v (Qvj left (todo.filter fun x=>!decide (x=v)) (left.getD v.toNat 0).toNat) left es with
     | none=>none
     | some (left',es')=>Qkk m left' (todo.filter fun x=>!decide (x=v)) es'
theorem Qzb (x v:Int) (B:Qad) (b:Nat) (hb:B[b]? = some [I v]) (Ms:List Qad):Ev tb Ja1 [] [I x,.bptr 0 b 0] (B::Ms) ⟨Bo (decide (x=v)),[],B::Ms,[]⟩:=by
 refine jC zt194 rfl ?_;have Hq:=hb;repeat refine go1 ?_
 simp [Jnz];rfl
theorem Qhg {α:Type} (p:α->Bool) (l:List α):(l.filter p).length+(l.filter fun a=>!p a).length=l.length:=by
 induction l with
 | nil=>rfl
 | cons a l ih=>simp only [Kec];cases p a <;> simp <;> omega
theorem Qiv {tb:Tbl} {ops:List IOp} {live:List Nat} {c rest:IC} {s1 s2 t t1 t2:St} {Q:Ex->St->Prop} (h1:Qaf (Qbq tb) s1 ops=some t1) (c1:t1.cut live=t) (h2:Qaf (Qbq tb) s2 ops=some t2) (c2:t2.cut live=t)
 (h:wp tb (.loop (.seq (.seq (.reg ops live []) c) rest)) s1 Q):wp tb (.loop (.seq (.seq (.reg ops live []) c) rest)) s2 Q:=by
 simp only [wp] at h |-;obtain ⟨k,hk⟩:=h;refine ⟨k,?_⟩;cases k with
 | zero=>exact hk
 | succ k =>
   simp only [Qp3] at hk |-;obtain ⟨st1,q1,q2,q3⟩:=hk;rw [h1] at q1;cases q1;rw [c1,<- c2] at q3;exact ⟨t2,h2,by simp,q3⟩
def Jpa (st:St):Prop:=∃ Bx:Qad,st={ T:=[(2,.bptr 0 0 0),(3,Bo false)],loc:=[I 0,Z]::Bx,M:=[] }
theorem rl_in (d:List Int) (c:Bool) (n:Nat) (hn:n<=7) (v:Nat) (todo:IV) (htd:∃ t,todo=O t) (Qc5:List Int) (htl:Qc5.length<=100) (ht:∀ x ∈ Qc5,0<=x/\x < n) (B:Qad) (b:Nat) (hb:B[b]? = some [I v]) :
 ∀ (m j:Nat) (left:List Int) (es:List (Int×Int)),j+m=Qc5.length->left.length=n->(∀ x ∈ left,0<=x/\x<=1000)->es.length+m<=100000 ->
 wp tb (.loop Jgo) { T:=[(0,L d c),(2,.bptr 0 0 0),(4,O left),(5,todo),(6,nl2 es),(7,.bptr 0 (b+1) 0),(44,O Qc5),(45,I Qc5.length),(46,I j)],loc:=[I 0,Z]::B,M:=[] }
  (fun ex st=>match Qon v (Qc5.drop j) left es with
    | none=>ex=.ret/\Jpa st
    | some (left',es')=>ex=.exit 2/\st={ T:=[(0,L d c),(2,.bptr 0 0 0),(4,O left'),(5,todo),(6,nl2 es'),(7,.bptr 0 (b+1) 0),(44,O Qc5),(45,I Qc5.length),(46,I Qc5.length),(47,Bo false)],loc:=[I 0,Z]::B,M:=[] }):=by
 obtain ⟨t,rfl⟩:=htd;intro m
 induction m with
 | zero =>
   intro j left es hj hl hb2 hes;obtain ⟨h1,h2⟩:=Qcg hj;have h3:j=Qc5.length:=hj;subst h3;rw [h2];cases es with
   | nil =>
     rw [Qcu];refine jL ?_
     repeat refine go0 ?_
     exact ⟨rfl,rfl⟩
   | cons e es =>
     rw [Qcj];refine jL ?_
     repeat refine go0 ?_
     exact ⟨rfl,rfl⟩
 | succ m ih =>
   intro j left es hj hl hb2 hes;obtain ⟨hjl,h2,h3⟩:=Qch hj;have hti:=ht _ h3;obtain ⟨i,hi⟩:=Kbm hti.1;have hil:i < left.length:=by omega
   have hin:i < n:=by omega
   have gi:left.getD i 0=left[i]:=by simp [Kad,Kag hil]
   have hti2:Qc5[j].toNat=i:=by omega
   have bi:=hb2 _ (Kao hil);rw [h2,Qon,hti2,gi];by_cases h0:left[i]=0
   . rw [if_pos h0];cases es with
     | nil =>
       rw [Qcu];refine jL ?_;have Hq:=cj6 hjl hi hil hin hl h0;repeat refine go1 ?_
       exact ⟨rfl,_,rfl⟩
     | cons e es =>
       rw [Qcj];refine jL ?_;have Hq:=cj6 hjl hi hil hin hl h0;repeat refine go1 ?_
       exact ⟨rfl,_,rfl⟩
   . rw [if_neg h0];have hd:Qeo left i=left.set i (left[i] - 1):=by rw [Qeo,gi]
     have w1:IntKind.i64.wrap (left[i] - 1)=left[i] - 1:=Qac (by omega) (by omega);have w2:IntKind.i64.wrap ((j:Int)+1)=((j+1:Nat):Int):=Qas (by omega);have e1:=Qaa (Jdc (v:Int) (i:Int) []);have hn2:=ih (j+1) (Qeo left i) (es++[(min (v:Int) Qc5[j],max (v:Int) Qc5[j])]) (by omega) (by simp [Qeo,hl]) (by
      rw [hd];intro x hx;rcases Kch hx with hx | rfl
      . exact hb2 x hx
      . omega) (by simp;omega)
     rw [hd] at hn2 |-;rw [Qp8,hi] at hn2;rw [hi];cases es with
     | nil =>
       rw [Qcu];rw [Kaq] at hn2;refine jL ?_;have Hq:=Qri hjl hi hil hin hl h0 w1 w2 e1 hb;repeat refine go1 ?_
       exact hn2
     | cons e es =>
       rw [Qcj];have hel:es.length+1+1<=274877906944:=by simp at hes;omega
       have het:(e::es).take (es.length+1)=e::es:=Kae (by simp);refine jL ?_;have Hq:=Qwo hjl hi hil hin hl h0 w1 w2 e1 hb hel het;repeat refine go1 ?_
       exact hn2
theorem Qky (v:Int):∀ (Qc5 left:List Int) (es:List (Int×Int)) (left':List Int) (es':List (Int×Int)),Qon v Qc5 left es=some (left',es')->(∀ x ∈ left,0<=x/\x<=1000) ->
 left'.length=left.length/\(∀ x ∈ left',0<=x/\x<=1000)/\es'=es++Qc5.map fun i=>(min v i,max v i)
 | [],left,es,left',es',h,hb=>by
   simp only [Qon,Kaa,Kab] at h;obtain ⟨rfl,rfl⟩:=h;exact ⟨rfl,hb,by simp⟩
 | i::r,left,es,left',es',h,hb=>by
   rw [Qon] at h;split at h
   . cases h
   . rename_i h0;obtain ⟨k1,k2,k3⟩:=Qky v r _ _ _ _ h (by
      intro x hx;rcases Kch hx with hx | rfl
      . exact hb x hx
      . have hg:∀ y,left[i.toNat]? = some y->0<=y/\y<=1000:=fun y hy=>hb y (Kbn hy);rw [Kad] at h0 |-;cases hq:left[i.toNat]? with
        | none=>rw [hq] at h0;simp at h0
        | some y =>
          rw [hq] at h0;have:=hg y hq;simp only [Kdf] at h0 |-;omega)
     exact ⟨by rw [k1];simp [Qeo],k2,by rw [k3];simp⟩
theorem rl_out (d:List Int) (c:Bool) (n:Nat) (hn:n<=7):∀ (m:Nat) (left todo:List Int) (es:List (Int×Int)) (Bx:Qad),todo.length<=m->left.length=n->(∀ x ∈ left,0<=x/\x<=1000)->(∀ x ∈ todo,0<=x/\x < n)->todo.length<=7->es.length+10 * m<=1000 ->
 wp tb (.loop Qvl) { T:=[(0,L d c),(2,.bptr 0 0 0),(4,O left),(5,O todo),(6,nl2 es)],loc:=[I 0,Z]::Bx,M:=[] }
  (fun ex st=>match Qkk m left todo es with
    | none=>ex=.ret/\Jpa st
    | some es'=>ex=.exit 0/\∃ (left' todo':List Int) (Bx':Qad),st={ T:=[(0,L d c),(2,.bptr 0 0 0),(4,O left'),(5,O todo'),(6,nl2 es'),(21,Bo false)],loc:=[I 0,Z]::Bx',M:=[] }):=by
 have done:∀ (left todo:List Int) (es:List (Int×Int)) (Bx:Qad),todo.length=0->wp tb (.loop Qvl) { T:=[(0,L d c),(2,.bptr 0 0 0),(4,O left),(5,O todo),(6,nl2 es)],loc:=[I 0,Z]::Bx,M:=[] }
  (fun ex st=>ex=.exit 0/\∃ (left' todo':List Int) (Bx':Qad),st={ T:=[(0,L d c),(2,.bptr 0 0 0),(4,O left'),(5,O todo'),(6,nl2 es),(21,Bo false)],loc:=[I 0,Z]::Bx',M:=[] }):=by
  intro left todo es Bx h0;have h0':todo=[]:=Kav.1 h0;cases es with
  | nil =>
    rw [Qcu];refine jL ?_;have Hq:=h0;repeat refine go1 ?_
    exact ⟨rfl,left,todo,Bx,rfl⟩
  | cons e es =>
    rw [Qcj];refine jL ?_;have Hq:=h0;repeat refine go1 ?_
    exact ⟨rfl,left,todo,Bx,rfl⟩
 intro m
 induction m with
 | zero =>
   intro left todo es Bx hm hl hb ht ht7 hes;exact done left todo es Bx (by omega)
 | succ m ih =>
   intro left todo es Bx hm hl hb ht ht7 hes;rw [Qkk];have hsl:=Qqt left todo 1;cases hs:Qem (gtD left) [] todo with
   | nil =>
     rw [hs] at hsl;exact done left todo es Bx (by simpa using hsl.symm)
   | cons v r =>
   simp only;rw [hs] at hsl;have htl:1<=todo.length:=by simp at hsl;omega
   have hv:v ∈ todo:=by
    have:=(Qb5 (gtD left) todo []).mem_iff (a:=v);rw [hs] at this;simpa using this.1 (by simp)
   have hvb:=ht v hv;obtain ⟨p,rfl⟩:=Kbm hvb.1;have hpn:p < n:=by omega
   have hpl:p < left.length:=by omega
   have hb':∀ x ∈ left,-1000<=x/\x<=1000:=fun x hx=>by have:=hb x hx;omega
   have g1:=fun cc c1=>Qaa (Ql0 left cc hb' (L todo c1) todo (.inl ⟨c1,rfl⟩) (by omega) (fun x hx=>by rw [hl];exact ht x hx) 1 htl);have ht1:Qvj left todo 1=[(p:Int)]:=by rw [Qvj,hs];rfl
   rw [ht1] at g1;rw [show ((1:Nat):Int)=1 from rfl] at g1;obtain ⟨t2,ht2⟩:∃ t2,t2=todo.filter fun x=>!decide (x=(p:Int)):=⟨_,rfl⟩
   have hdel:=Qaa (Qe1 todo Ja1 [.bptr 0 (Bx.length+1) 0] [[I 0,Z]::(Bx++[[I p]])] (fun x=>decide (x=(p:Int))) (by omega) (fun M' x _=>by
    rw [show [[I 0,Z]::(Bx++[[I (p:Int)]])]++[[]]++M'=([I 0,Z]::(Bx++[[I (p:Int)]]))::([[]]++M') from rfl];exact Qzb x p ([I 0,Z]::(Bx++[[I p]])) (Bx.length+1) (by simp) ([[]]++M')))
   rw [<- ht2] at hdel |-;have ht2m:∀ x ∈ t2,0<=x/\x < n:=fun x hx=>ht x (by rw [ht2] at hx;exact (Kbr.1 hx).1);have ht2l:t2.length < todo.length:=by
    rw [ht2];have h1:=Qhg (fun x=>!decide (x=(p:Int))) todo;have h2:(p:Int) ∈ todo.filter (fun a=>!!decide (a=(p:Int))):=Kbr.2 ⟨hv,by simp⟩;have:=Kev h2;omega
   have gp:left.getD p 0=left[p]:=by simp [Kad,Kag hpl]
   have htp:(p:Int).toNat=p:=by simp
   rw [htp,gp];have bp:=hb _ (Kao hpl);have htot:todo.take todo.length=todo:=Kae (Kam _);have hlt:left.take n=left:=Kae (by omega);have hgt0:(0:Int) < (todo.length:Int):=by omega
   have hgt0':0 < todo.length:=by omega
   by_cases hfew:(t2.length:Int) < left[p]
   . rw [if_pos hfew];rcases es with _ | ⟨e,es⟩
     . rw [Qcu];refine jL ?_;have Hq:=Qri hgt0 hgt0' g1 hdel hpl hpn hl hfew htot hlt;repeat refine go1 ?_
       exact ⟨rfl,_,rfl⟩
     . rw [Qcj];refine jL ?_;have Hq:=Qri hgt0 hgt0' g1 hdel hpl hpn hl hfew htot hlt;repeat refine go1 ?_
       exact ⟨rfl,_,rfl⟩
   rw [if_neg hfew];obtain ⟨k,hk⟩:=Kbm bp.1;have hkl:k<=t2.length:=by omega
   rw [hk] at hfew;rw [hk,show ((k:Int)).toNat=k by simp];have g2:=fun cc c1=>Qaa (Ql0 left cc hb' (L t2 c1) t2 (.inl ⟨c1,rfl⟩) (by omega) (fun x hx=>by rw [hl];exact ht2m x hx) k hkl);have htopm:∀ x ∈ Qvj left t2 k,0<=x/\x < n:=fun x hx=>ht2m x (by
    have:=Kbv hx;simpa using (Qb5 (gtD left) t2 []).mem_iff.1 this)
   have htopl:(Qvj left t2 k).length<=7:=by
    rw [Qvj,Kas,Qqt left t2 k];omega
   have hlo:=rl_in d c n hn p (O t2) ⟨t2,rfl⟩ (Qvj left t2 k) (by omega) htopm (Bx++[[I p]]) Bx.length (by simp) (Qvj left t2 k).length 0 left es (by simp) hl hb (by omega);rw [Kcb,show ((0:Nat):Int)=0 from rfl] at hlo;generalize Qvj left t2 k=Qc5 at *
   have ht2t:t2.take t2.length=t2:=Kae (Kam _);cases hlay:Qon p Qc5 left es with
   | none =>
     simp only [hlay] at hlo;simp only;rcases es with _ | ⟨e,es⟩
     . rw [Qcu] at hlo |-;refine jL ?_;have Hq:=Jrz hgt0 hgt0' g1 g2 hdel hpl hpn hl hk hfew htot hlt ht2t;repeat refine go1 ?_
       refine Qab hlo ?_;rintro ex st ⟨rfl,hf⟩;exact ⟨rfl,hf⟩
     . rw [Qcj] at hlo |-;refine jL ?_;have Hq:=Jrz hgt0 hgt0' g1 g2 hdel hpl hpn hl hk hfew htot hlt ht2t;repeat refine go1 ?_
       refine Qab hlo ?_;rintro ex st ⟨rfl,hf⟩;exact ⟨rfl,hf⟩
   | some q =>
     obtain ⟨left',es'⟩:=q;simp only [hlay] at hlo;simp only;obtain ⟨q1,q2,q3⟩:=Qky p Qc5 left es left' es' hlay hb;have hn2:=ih left' t2 es' (Bx++[[I p]]) (by omega) (by omega) q2 ht2m (by omega) (by rw [q3];simp;omega);rcases es with _ | ⟨e,es⟩
     . rw [Qcu] at hlo |-;refine jL ?_;have Hq:=Jrz hgt0 hgt0' g1 g2 hdel hpl hpn hl hk hfew htot hlt ht2t;repeat refine go1 ?_
       refine Qab hlo ?_;rintro ex st ⟨rfl,rfl⟩;simp only [if_true];cases es' with
       | nil =>
         rw [Qcu] at hn2 |-;exact Qiv (by simp;with_reducible rfl) rfl (by simp;with_reducible rfl) (by simp) hn2
       | cons e' es' =>
         rw [Qcj] at hn2 |-;exact Qiv (by simp;with_reducible rfl) rfl (by simp;with_reducible rfl) (by simp) hn2
     . rw [Qcj] at hlo |-;refine jL ?_;have Hq:=Jrz hgt0 hgt0' g1 g2 hdel hpl hpn hl hk hfew htot hlt ht2t;repeat refine go1 ?_
       refine Qab hlo ?_;rintro ex st ⟨rfl,rfl⟩;simp only [if_true];cases es' with
       | nil =>
         rw [Qcu] at hn2 |-;exact Qiv (by simp;with_reducible rfl) rfl (by simp;with_reducible rfl) (by simp) hn2
       | cons e' es' =>
         rw [Qcj] at hn2 |-;exact Qiv (by simp;with_reducible rfl) rfl (by simp;with_reducible rfl) (by simp) hn2
end Go.Idl
namespace Go.Idl
open Go
theorem Qhl (n:Nat):∀ (m:Nat) (left todo:List Int) (es es':List (Int×Int)),Qkk m left todo es=some es'->todo.Nodup->(∀ x ∈ todo,0<=x/\x < n) ->
 ∃ new:List (Int×Int),es'=es++new/\new.Nodup/\∀ e ∈ new,e ∈ prs n/\e.1 ∈ todo/\e.2 ∈ todo
 | 0,left,todo,es,es',h,_,_=>by
   simp only [Qkk,Kaa] at h;exact ⟨[],by simp [h],.nil,by simp⟩
 | m+1,left,todo,es,es',h,hn,hb=>by
   rw [Qkk] at h;cases hs:Qem (gtD left) [] todo with
   | nil =>
     rw [hs] at h;simp only [Kaa] at h;exact ⟨[],by simp [h],.nil,by simp⟩
   | cons v r =>
     rw [hs] at h;simp only at h;split at h
     . cases h
     obtain ⟨t2,ht2⟩:∃ t2,t2=todo.filter fun x=>!decide (x=v):=⟨_,rfl⟩
     rw [<- ht2] at h;obtain ⟨Qc5,htops⟩:∃ Qc5,Qc5=Qvj left t2 (left.getD v.toNat 0).toNat:=⟨_,rfl⟩;rw [<- htops] at h;cases hl:Qon v Qc5 left es with
     | none=>rw [hl] at h;cases h
     | some q =>
       obtain ⟨left',es1⟩:=q;rw [hl] at h;simp only at h;have hes1:es1=es++Qc5.map fun i=>(min v i,max v i):=by
        have:∀ (Qc5 left:List Int) (es:List (Int×Int)) (left':List Int) (es1:List (Int×Int)),Qon v Qc5 left es=some (left',es1)->es1=es++Qc5.map fun i=>(min v i,max v i):=by
         intro Qc5
         induction Qc5 with
         | nil=>intro left es left' es1 h;simp only [Qon,Kaa,Kab] at h;simp [h.2]
         | cons i r ih =>
           intro left es left' es1 h;rw [Qon] at h;split at h
           . cases h
           . rw [ih _ _ _ _ h];simp
        exact this _ _ _ _ _ hl
       have hv:v ∈ todo:=by
        have:=(Qb5 (gtD left) todo []).mem_iff (a:=v);rw [hs] at this;simpa using this.1 (by simp)
       have ht2n:t2.Nodup:=by rw [ht2];exact hn.filter _
       have ht2m:∀ x ∈ t2,x ∈ todo/\x ≠ v:=fun x hx=>by
        rw [ht2] at hx;have:=Kbr.1 hx;exact ⟨this.1,by simpa using this.2⟩
       have htm:∀ x ∈ Qc5,x ∈ t2:=fun x hx=>by
        rw [htops] at hx;simpa using (Qb5 (gtD left) t2 []).mem_iff.1 (Kbv hx)
       have htn:Qc5.Nodup:=by
        rw [htops];have:(Qem (gtD left) [] t2).Nodup:=(Qb5 (gtD left) t2 []).nodup_iff.2 (by simpa using ht2n);exact this.sublist (List.take_sublist _ _)
       obtain ⟨new,k1,k2,k3⟩:=Qhl n m left' t2 es1 es' h ht2n (fun x hx=>hb x (ht2m x hx).1);have hvb:=hb v hv;refine ⟨(Qc5.map fun i=>(min v i,max v i))++new,by rw [k1,hes1];simp,Kan.2 ⟨?_,k2,?_⟩,?_⟩
       . rw [List.Nodup,List.pairwise_map];refine List.Pairwise.imp_of_mem (fun {i j} hi hj hij he=>?_) htn;have h1:=(ht2m i (htm i hi)).2;have h2:=(ht2m j (htm j hj)).2;simp only [Kab] at he;omega
       . intro e he e' he' hee;subst hee;obtain ⟨i,hi,rfl⟩:=Kck.1 he;obtain ⟨-,h1,h2⟩:=k3 _ he';have h3:=(ht2m _ h1).2;have h4:=(ht2m _ h2).2;simp only at h3 h4;omega
       . intro e he;rcases Kah.1 he with he | he
         . obtain ⟨i,hi,rfl⟩:=Kck.1 he;have h1:=ht2m i (htm i hi);have h2:=hb i h1.1;refine ⟨Qej.2 ?_,?_,?_⟩
           . simp only;omega
           . simp only;rcases Int.le_total v i with h | h
             . rw [Int.min_eq_left h];exact hv
             . rw [Int.min_eq_right h];exact h1.1
           . simp only;rcases Int.le_total v i with h | h
             . rw [Int.max_eq_right h];exact h1.1
             . rw [Int.max_eq_left h];exact hv
         . obtain ⟨h1,h2,h3⟩:=k3 e he;exact ⟨h1,(ht2m _ h2).1,(ht2m _ h3).1⟩
theorem Qbc (n:Nat):Qbx n (-1)=(List.range n).map fun v:Nat=>(v:Int):=by
 rw [Qbx];refine Keb.2 fun x hx=>?_;obtain ⟨v,_,rfl⟩:=Kck.1 hx;simp
def Qkj (d:List Int):Option (List (Int×Int)):=Qkk d.length d (Qbx d.length (-1)) []
theorem Qqe {d:List Int} (h7:d.length<=7) {es:List (Int×Int)} (h:Qkj d=some es):es.Nodup/\(∀ e ∈ es,e ∈ prs d.length)/\es.length<=21/\Qak d.length (Qfl es)=true:=by
 have hn:(Qbx d.length (-1)).Nodup:=by
  rw [Qbc,List.Nodup,List.pairwise_map];exact List.nodup_range.imp fun h e=>h (by omega)
 have hb:∀ x ∈ Qbx d.length (-1),0<=x/\x < (d.length:Int):=fun x hx=>by
  rw [Qbc] at hx;obtain ⟨v,hv,rfl⟩:=Kck.1 hx;have:=Kaz.1 hv;omega
 obtain ⟨new,k1,k2,k3⟩:=Qhl d.length _ _ _ _ _ h hn hb;rw [Kaq] at k1;subst k1;have hvg:Qak d.length (Qfl es)=true:=Qee.2 ⟨Qqp k2,fun e he=>(k3 e ((Qc2 es).mem_iff.1 he)).1,h7⟩;refine ⟨k2,fun e he=>(k3 e he).1,?_,hvg⟩;have h1:=(Jp0 hvg).length_le;have h2:∀ n,n<=7->(prs n).length<=21:=by decide +kernel
 have h3:=(Qc2 es).length_eq;have:=h2 _ h7;omega
abbrev RR (n:Nat) (o:Option (List (Int×Int))):IV:=match o with
 | none=>.tup [.agg [I 0,Z],Bo false]
 | some es=>.tup [OG n (Qfl es),Bo true]
theorem Qi7 (d:List Int) (c:Bool) (hv:Qbb d=true):Ev tb Qvw [] [L d c] [] ⟨RR d.length (Qkj d),[],[],[]⟩:=by
 have hf:=Qan hv;have h7:=hf.1;have e1:=Qaa (Qbh d c (by omega));rw [hv] at e1;have e2:=Qaa (Qpl d c (by omega));have e3:=Qaa (Qb6 d.length (-1) (by omega));by_cases h0:d.length=0
 . have hd:d=[]:=Kav.1 h0;subst hd;have e4:=Qaa (show Ev tb Qv0 [] [I 0,Z] [] ⟨OG 0 (Qfl []),[],[],[]⟩ from Qum 0 0 [] true (.inr rfl) (by simp) .nil (by simp));rw [show Qbx ([]:List Int).length (-1)=[] from rfl,show nlI []=Z from rfl,show ((([]:List Int).length:Nat):Int)=0 from rfl] at e3;simp only [L,O,Qkw] at e1 e2;show Ev tb Qvw [] [L [] c] [] ⟨.tup [OG 0 (Qfl []),Bo true],[],[],[]⟩;simp only [L,Qkw];refine jC Jo5 rfl ?_;have Hq:=cj3 e1 e2 e3;repeat refine go1 ?_
   refine jL ?_;have Hq:=e4;repeat refine go1 ?_
   simp [Qvp]
 . have hil:(Qbx d.length (-1)).length=d.length:=by rw [Qbc];simp
   have hib:∀ x ∈ Qbx d.length (-1),0<=x/\x < (d.length:Int):=fun x hx=>by
    rw [Qbc] at hx;obtain ⟨v,hv,rfl⟩:=Kck.1 hx;have:=Kaz.1 hv;omega
   have hnl:nlI (Qbx d.length (-1))=O (Qbx d.length (-1)):=by
    cases hq:Qbx d.length (-1) with
    | nil=>rw [hq] at hil;simp at hil;omega
    | cons x r=>rfl
   rw [hnl] at e3;have hlo:=rl_out d c d.length h7 d.length d (Qbx d.length (-1)) [] [] (by omega) rfl (fun x hx=>by have:=hf.2 x hx;omega) hib (by omega) (by simp;omega);rw [Qcu] at hlo;have hok:∀ es,Qkj d=some es->_:=fun es h=>Qqe h7 h;unfold Qkj at hok |-;cases hr:Qkk d.length d (Qbx d.length (-1)) [] with
   | none =>
     simp only [hr] at hlo;refine jC Jo5 rfl ?_;have Hq:=cj3 e1 e2 e3;repeat refine go1 ?_
     refine Qab hlo ?_;rintro ex st ⟨rfl,Bx,rfl⟩;simp [Qvp]
   | some es =>
     obtain ⟨k1,k2,k3,k4⟩:=hok es hr;simp only [hr] at hlo;have hDE:∀ x ∈ es,DE x:=fun x hx=>by have:=Qej.1 (k2 x hx);simp only [DE];omega
     cases es with
     | nil =>
       have e4:=Qaa (show Ev tb Qv0 [] [I d.length,Z] [] ⟨OG d.length (Qfl []),[],[],[]⟩ from Qum d.length 0 [] true (.inr rfl) (by simp) .nil (by simp));rw [Qcu] at hlo;refine jC Jo5 rfl ?_;have Hq:=cj3 e1 e2 e3;repeat refine go1 ?_
       refine Qab hlo ?_;rintro ex st ⟨rfl,left',todo',Bx',rfl⟩;simp only [if_true];have Hq:=e4;repeat refine go1 ?_
       simp [Qvp]
     | cons e es =>
       have e4:=fun cc=>Qaa (Qum d.length 2 (e::es) cc (.inl rfl) hDE k1 k3);rw [Qcj] at hlo;have het:(e::es).take (es.length+1)=e::es:=Kae (by simp);refine jC Jo5 rfl ?_;have Hq:=cj3 e1 e2 e3;repeat refine go1 ?_
       refine Qab hlo ?_;rintro ex st ⟨rfl,left',todo',Bx',rfl⟩;simp only [if_true];have Hq:=cj2 e4 het;repeat refine go1 ?_
       simp [Qvp]
end Go.Idl
namespace Go.Idl
open Go
def apart (a b c d:Int):Bool:=decide (a ≠ b) && decide (a ≠ c) && decide (a ≠ d) && decide (b ≠ c) && decide (b ≠ d) && decide (c ≠ d)
def Jbm (a b c d:Int) (x:Int×Int):Bool:=decide (x=(min a b,max a b)) || decide (x=(min c d,max c d))
end Go.Idl
namespace Go.Idl
open Go
def Qnj (p q:Int) (x:Int×Int):Bool:=!(decide (x.1=p) && decide (x.2=q))
def Qua (a b:Int) (es:List (Int×Int)):List (Int×Int):=es.filter (Qnj (min a b) (max a b))
theorem Qlz (n:Int) (es:List (Int×Int)) (c:Bool) (a b:Int) (hl:es.length<=100000) :
 Ev tb Jjw [] [Gr n es c,I a,I b] [] ⟨OG n (Qua a b es),[],[],[]⟩:=by
 obtain ⟨p,hp⟩:∃ p,p=min a b:=⟨_,rfl⟩;obtain ⟨q,hq⟩:∃ q,q=max a b:=⟨_,rfl⟩;have he1:(if b < a then b else a)=p:=by rw [hp];split <;> omega
 have he2:(if a < b then b else a)=q:=by rw [hq];split <;> omega
 rw [Qua,<- hp,<- hq];have loop:∀ (m i:Nat) (acc:List (Int×Int)) (B:Qad),i+m=es.length->acc.length<=i->wp tb (.loop Jqz) { T:=[(1,I a),(2,I b),(3,.bptr 0 0 0),(6,.bptr 0 1 0),(7,.bptr 0 2 0),(8,I i)],loc:=[I n,L2 es c]::[I 0,Z]::[I n,O2 acc]::B,M:=[] }
  (fun ex st=>ex=.exit 0/\∃ B',st={ T:=[(1,I a),(2,I b),(3,.bptr 0 0 0),(6,.bptr 0 1 0),(7,.bptr 0 2 0),(8,I es.length),(18,Bo false)],loc:=[I n,L2 es c]::[I 0,Z]::[I n,O2 (acc++(es.drop i).filter (Qnj p q))]::B',M:=[] }):=by
  intro m
  induction m with
  | zero =>
    intro i acc B hi ha;have h3:i=es.length:=hi;subst h3;refine jL ?_
    repeat refine go0 ?_
    refine ⟨rfl,_,by simp;rfl⟩
  | succ m ih =>
    intro i acc B hi ha;have hi2:i < es.length:=by omega
    have w1:IntKind.i64.wrap ((i:Int)+1)=((i+1:Nat):Int):=Qas (by omega);have hd:es.drop i=es[i]::es.drop (i+1):=Kay hi2;have hl1:acc.length+1<=274877906944:=by omega
    have hl2:acc.length<=274877906943:=by omega
    have hT:∀ x,List.take (acc.length+1) (acc++[x])=acc++[x]:=fun x=>Kae (by simp);have hT2:List.take acc.length acc=acc:=Kae (Kam _);rw [hd];obtain ⟨⟨x1,x2⟩,hx⟩:∃ x,x=es[i]:=⟨_,rfl⟩;rw [<- hx];have hx2:=hx.symm;by_cases h1:x1=p
    . subst h1;by_cases h2:x2=q
      . subst h2;refine jL ?_;have Hq:=cj5 hi2 w1 hx2 he1 he2;repeat refine go1 ?_
        have hn:=ih (i+1) acc (B++[[I x1,I x2]]) (by omega) (by omega);rw [Keu (by simp [Qnj])];exact hn
      . refine jL ?_;have Hq:=Qri hi2 w1 hx2 he1 he2 h2 hl1 hl2 hT hT2;repeat refine go1 ?_
        have hn:=ih (i+1) (acc++[(x1,x2)]) (B++[[I x1,I x2]]) (by omega) (by simp;omega);rw [Kdd (by simp [Qnj,h2])];simp only [Kal,Kbk,Kaq] at hn;exact hn
    . refine jL ?_;have Hq:=Qri hi2 w1 hx2 he1 he2 h1 hl1 hl2 hT hT2;repeat refine go1 ?_
      have hn:=ih (i+1) (acc++[(x1,x2)]) (B++[[I x1,I x2]]) (by omega) (by simp;omega);rw [Kdd (by simp [Qnj,h1])];simp only [Kal,Kbk,Kaq] at hn;exact hn
 refine jC zt348 rfl ?_
 repeat refine go0 ?_
 refine Qab (loop es.length 0 [] [] (by simp) (by simp)) ?_;rintro ex st ⟨rfl,B',rfl⟩;simp only [if_true]
 repeat refine go0 ?_
 simp [Jol]
end Go.Idl
namespace Go.Idl
open Go
def Qi4 (v:Int):Nat->Nat->List (Int×Int)->List (Int×Int)
 | 0,_,es=>es
 | m+1,u,es=>Qi4 v m (u+1) (Qua v u es)
abbrev TS (s:ByteArray) (o g:List Int) (v:Int) (u:Nat):Tm:=[(1,.bptr 0 0 0),(5,.sc (.string s)),(6,O o),(7,.bptr 0 1 0),(8,O g),(11,I v),(14,I u)]
theorem Qi3 (n:Nat) (hn:n<=7) (es:List (Int×Int)) (c:Bool) (s:ByteArray) (o g:List Int) (v:Int):∀ (m u:Nat) (now:List (Int×Int)),u+m=n->now.length<=1000 ->
 wp tb (.loop Qvm) { T:=TS s o g v u,loc:=[[I n,L2 es c],[I n,O2 now]],M:=[] } fun ex st=>ex=.exit 4/\st={ T:=TS s o g v n++[(79,Bo false)],loc:=[[I n,L2 es c],[I n,O2 (Qi4 v m u now)]],M:=[] }
 | 0,u,now,hm,hl=>by
   have:u=n:=by omega
   subst this;refine jL ?_
   repeat refine go0 ?_
   exact ⟨rfl,rfl⟩
 | m+1,u,now,hm,hl=>by
   have e1:=Qaa (Qlz n now false v u (by omega));have hlt:u < n:=by omega
   have w2:IntKind.i64.wrap ((u:Int)+1)=((u+1:Nat):Int):=Qas (by omega);refine jL ?_;have Hq:=cj3 e1 hlt w2;repeat refine go1 ?_
   refine Qi3 n hn es c s o g v m (u+1) (Qua v u now) (by omega) (Kcp (Kei _ _) hl)
def Qk7 (d Jbm:List Int) (left:Int):Nat->Int
 | 0=>-1
 | u+1=>if (u:Int) ∉ Jbm/\(d.getD u 0=0 \/ d.getD u 0=left - 1) then u else Qk7 d Jbm left u
abbrev TU (s:ByteArray) (o g d:List Int) (left:Int) (v u:Int):Tm:=[(1,.bptr 0 0 0),(5,.sc (.string s)),(6,O o),(7,.bptr 0 1 0),(8,O g),(9,O d),(10,I left),(11,I v),(12,I u)]
abbrev TW (s:ByteArray) (o g d:List Int) (v:Int):Tm:=[(1,.bptr 0 0 0),(5,.sc (.string s)),(6,O o),(7,.bptr 0 1 0),(8,O g),(9,O d),(11,I v)]
theorem sea_S (s:ByteArray) (o g d:List Int) (left:Int) (h1:1<=left) (h2:left<=7) (hg:g.length<=1000) (loc:Qad):∀ (m:Nat),m<=d.length->m<=7 ->
 wp tb (.loop Jhj) { T:=TU s o g d left (-1) ((m:Int) - 1),loc:=loc,M:=[] } fun ex st=>ex=.exit 2 /\
  ((Qk7 d g left m=-1/\st={ T:=TU s o g d left (-1) (-1)++[(34,Bo false)],loc:=loc,M:=[] }) \/ ∃ v:Nat,Qk7 d g left m=v/\st={ T:=TW s o g d v,loc:=loc,M:=[] })
 | 0,hm,hm7=>by
   refine jL ?_
   repeat refine go0 ?_
   exact ⟨rfl,.inl ⟨rfl,rfl⟩⟩
 | m+1,hm,hm7=>by
   have hm1:(((m+1:Nat):Int) - 1)=(m:Int):=by omega
   rw [hm1];have hlt:m < d.length:=by omega
   have w1:IntKind.i64.wrap (left - 1)=left - 1:=Qac (by omega) (by omega);have w2:IntKind.i64.wrap ((m:Int) - 1)=(m:Int) - 1:=Qac (by omega) (by omega);have e1:=Qaa (Ql1 g false m (by omega));have hgd:d.getD m 0=d[m]:=by simp [hlt]
   have ih:=sea_S s o g d left h1 h2 hg loc m (by omega) (by omega);refine jL ?_;by_cases hq:(m:Int) ∈ g
   . have hs:Qk7 d g left (m+1)=Qk7 d g left m:=by simp [Qk7,hq]
     rw [hs];have Hq:=cj5 e1 hlt w1 w2 hq;repeat refine go1 ?_
     exact ih
   . by_cases hz:d[m]=0
     . have hs:Qk7 d g left (m+1)=(m:Int):=by simp only [Qk7,hgd,hz];simp [hq]
       rw [hs];have Hq:=cj6 e1 hlt w1 w2 hq hz;repeat refine go1 ?_
       exact ⟨rfl,.inr ⟨m,rfl,rfl⟩⟩
     . by_cases hy:d[m]=left - 1
       . have hs:Qk7 d g left (m+1)=(m:Int):=by simp only [Qk7,hgd,hy];simp [hq]
         rw [hs];have hz2:¬ left - 1=0:=fun e=>hz (hy.trans e);have Hq:=cj7 e1 hlt w1 w2 hq hz2 hy;repeat refine go1 ?_
         exact ⟨rfl,.inr ⟨m,rfl,rfl⟩⟩
       . have hs:Qk7 d g left (m+1)=Qk7 d g left m:=by simp only [Qk7,hgd];simp [hq,hz,hy]
         rw [hs];have Hq:=cj7 e1 hlt w1 w2 hq hz hy;repeat refine go1 ?_
         exact ih
end Go.Idl
namespace Go.Idl
open Go
theorem Qks (n:Nat) (hn:n<=7) (es:List (Int×Int)) (c:Bool) (s:ByteArray) (o g:List Int) (v:Int) (m:Nat) (hm:m+1=n) (now:List (Int×Int)) (c2:Bool) (hl:now.length<=1000) :
 wp tb (.loop Qvm) { T:=TS s o g v 0,loc:=[[I n,L2 es c],[I n,L2 now c2]],M:=[] } fun ex st=>ex=.exit 4/\st={ T:=TS s o g v n++[(79,Bo false)],loc:=[[I n,L2 es c],[I n,O2 (Qi4 v n 0 now)]],M:=[] }:=by
 have e1:=Qaa (Qlz n now c2 v 0 (by omega));have hlt:0 < n:=by omega
 have w2:IntKind.i64.wrap 1=1:=by decide
 have e3:=Qi3 n hn es c s o g v m 1 (Qua v 0 now) (by omega) (Kcp (Kei _ _) hl);rw [show Qi4 v n 0 now=Qi4 v m 1 (Qua v 0 now) by rw [<- hm];rfl];refine jL ?_;have Hq:=cj3 e1 hlt w2;repeat refine go1 ?_
 exact e3
def Qfn (n:Nat):Nat->List (Int×Int)->List Int->List Int->List Int->Option (List Int×List Int)
 | 0,_,_,ls,os=>some (ls,os)
 | m+1,now,g,ls,os=>if Qk7 (Qdf n now) g ((m:Int)+1) n < 0 then none else
    Qfn n m (Qi4 (Qk7 (Qdf n now) g ((m:Int)+1) n) n 0 now) (g++[Qk7 (Qdf n now) g ((m:Int)+1) n])
     ((if 0 < (Qdf n now).getD (Qk7 (Qdf n now) g ((m:Int)+1) n).toNat 0 then 100 else 105)::ls) (Qk7 (Qdf n now) g ((m:Int)+1) n::os)
abbrev TV (ls o g:List Int):Tm:=[(1,.bptr 0 0 0),(5,.sc (.string (Qbj ls))),(6,O o),(7,.bptr 0 1 0),(8,O g)]
theorem Jtw (x:UInt8) (k:Int) (ls:List Int) (h:UInt8.ofNat k.toNat=x):(⟨#[x]⟩:ByteArray)++Qbj ls=Qbj (k::ls):=by
 subst h;apply ByteArray.ext;simp [Qbj,ByteArray.data_append]
theorem Qh3 (v:Int):∀ (m u:Nat) (es:List (Int×Int)),(Qi4 v m u es).Sublist es
 | 0,_,es=>List.Sublist.refl _
 | m+1,u,es=>(Qh3 v m (u+1) _).trans List.filter_sublist
theorem Jpy (x:UInt8) (k:Int) (ls:List Int) (h:UInt8.ofNat k.toNat=x) (hl:ls.length<=1000):Op.stringOp .add (⟨#[x]⟩:ByteArray) (Qbj ls)=Sem.pure (.string (Qbj (k::ls))):=by
 have hsz:(Qbj ls).size=ls.length:=by simp [Qbj,ByteArray.size]
 have h1:(⟨#[x]⟩:ByteArray).size=1:=rfl;have hno:¬ ((((⟨#[x]⟩:ByteArray).size+(Qbj ls).size:Nat):Int) > IntKind.i64.max):=by rw [show IntKind.i64.max=9223372036854775807 from rfl,hsz,h1];omega
 unfold Op.stringOp;simp only [if_neg hno];rw [Jtw x k ls h];rfl
theorem Qm2 {d g:List Int} {left:Int}:∀ {m:Nat} {v:Nat},Qk7 d g left m=v->v < m
 | 0,v,h=>by simp only [Qk7] at h;omega
 | m+1,v,h=>by
   unfold Qk7 at h;split at h
   . omega
   . exact Nat.lt_succ_of_lt (Qm2 h)
set_option maxHeartbeats 4000000 in
theorem Jef (n:Nat) (hn:n<=7) (es:List (Int×Int)) (c:Bool):∀ (m:Nat) (now:List (Int×Int)) (X:IV) (ls o g:List Int) (f:Bool) (u:Int),((∃ c2,X=L2 now c2) \/ X=O2 now)->g.length+m=n->o.length=g.length->ls.length=g.length->now.length<=1000->Qg7 n now ->
 wp tb (.loop Jhk) { T:=TV ls o g++(if f then [(11,I u),(14,I n),(79,Bo false)] else []),loc:=[[I n,L2 es c],[I n,X]],M:=[] } fun ex st=>match Qfn n m now g ls o with
  | some (l,o')=>ex=.exit 0/\∃ g' B,st={ T:=TV l o' g'++[(22,Bo false)],loc:=[[I n,L2 es c],B],M:=[] }
  | none=>ex=.ret/\∃ T loc,st={ T:=[(2,.sc (.string ByteArray.empty)),(3,Z),(4,Bo false)]++T,loc:=loc,M:=[] }
 | 0,now,X,ls,o,g,f,u,hX,hg,ho,hls,hl,he=>by
   have hgn:g.length=n:=by omega
   subst hgn;refine jL ?_;cases f
   . repeat refine go0 ?_
     exact ⟨rfl,g,_,rfl⟩
   . repeat refine go0 ?_
     exact ⟨rfl,g,_,rfl⟩
 | m+1,now,X,ls,o,g,f,u,hX,hg,ho,hls,hl,he=>by
   have hlt:g.length < n:=by omega
   have w1:IntKind.i64.wrap ((n:Int) - g.length)=(m:Int)+1:=by rw [Qac (by omega) (by omega)];omega
   have w2:IntKind.i64.wrap ((n:Int) - 1)=(n:Int) - 1:=Qac (by omega) (by omega);have e4:=sea_S (Qbj ls) o g (Qdf n now) ((m:Int)+1) (by omega) (by omega) (by omega);have hdl:(Qdf n now).length=n:=by rw [Qdf,Qh2];simp
   have s1:=Jpy 105 105 ls (by decide) (by omega);have s2:=Jpy 100 100 ls (by decide) (by omega);have q1:o.length<=274877906943:=by omega
   have q2:g.length<=274877906943:=by omega
   have q3:1+o.length<=274877906944:=by omega
   have q4:g.length+1<=274877906944:=by omega
   have q5:o.length+1<=274877906944:=by omega
   have q6:List.take o.length o=o:=Kae (Kam _);have q7:List.take g.length g=g:=Kae (Kam _);have q8:List.take (Qb9 o).length (Qb9 o)=Qb9 o:=Kae (Kam _);refine jL ?_;rcases hX with ⟨c2,rfl⟩ | rfl
   . have e1:=Qaa (Qi8 n now c2 (by omega) hl he);cases f
     . have Hq:=cj4 e1 hlt w1 w2;repeat refine go1 ?_
       refine Qab (e4 _ n (by omega) hn) ?_;rintro ex st ⟨rfl,⟨hs,rfl⟩ | ⟨v,hs,rfl⟩⟩
       . show wp tb _ _ _
         repeat refine go0 ?_
         simp [Qfn,hs]
       . show wp tb _ _ _;have hvn:=Qm2 hs;have hvd:v < (Qdf n now).length:=by omega
         have nv:¬ ((v:Int) < 0):=by omega
         have hsub:=Qh3 (v:Int) n 0 now;have hgd:(Qdf n now).getD v 0=(Qdf n now)[v]:=by simp [hvd]
         have ih:=fun k=>Jef n hn es c m (Qi4 v n 0 now) (O2 (Qi4 v n 0 now)) (k::ls) ((v:Int)::o) (g++[(v:Int)]) true v (.inr rfl) (by simp;omega) (by simp;omega) (by simp;omega) (Kcp hsub.length_le hl) (fun e hm=>he e (hsub.mem hm));by_cases hp:0 < (Qdf n now)[v]
         . have hc:Qfn n (m+1) now g ls o=Qfn n m (Qi4 v n 0 now) (g++[(v:Int)]) (100::ls) ((v:Int)::o):=by simp [Qfn,hs,nv,hvd,hp]
           rw [hc];have Hq:=Qwo nv hvd hp s2 q1 q2 q3 q4 q5 q6 q7 q8;repeat refine go1 ?_
           refine Qab (Qks n hn es c (Qbj (100::ls)) ((v:Int)::o) (g++[(v:Int)]) v (n - 1) (by omega) now c2 hl) ?_;rintro ex st ⟨rfl,rfl⟩;exact ih 100
         . have hc:Qfn n (m+1) now g ls o=Qfn n m (Qi4 v n 0 now) (g++[(v:Int)]) (105::ls) ((v:Int)::o):=by simp [Qfn,hs,nv,hvd,hp]
           rw [hc];have Hq:=Qwo nv hvd hp s1 q1 q2 q3 q4 q5 q6 q7 q8;repeat refine go1 ?_
           refine Qab (Qks n hn es c (Qbj (105::ls)) ((v:Int)::o) (g++[(v:Int)]) v (n - 1) (by omega) now c2 hl) ?_;rintro ex st ⟨rfl,rfl⟩;exact ih 105
     . have Hq:=cj4 e1 hlt w1 w2;repeat refine go1 ?_
       refine Qab (e4 _ n (by omega) hn) ?_;rintro ex st ⟨rfl,⟨hs,rfl⟩ | ⟨v,hs,rfl⟩⟩
       . show wp tb _ _ _
         repeat refine go0 ?_
         simp [Qfn,hs]
       . show wp tb _ _ _;have hvn:=Qm2 hs;have hvd:v < (Qdf n now).length:=by omega
         have nv:¬ ((v:Int) < 0):=by omega
         have hsub:=Qh3 (v:Int) n 0 now;have hgd:(Qdf n now).getD v 0=(Qdf n now)[v]:=by simp [hvd]
         have ih:=fun k=>Jef n hn es c m (Qi4 v n 0 now) (O2 (Qi4 v n 0 now)) (k::ls) ((v:Int)::o) (g++[(v:Int)]) true v (.inr rfl) (by simp;omega) (by simp;omega) (by simp;omega) (Kcp hsub.length_le hl) (fun e hm=>he e (hsub.mem hm));by_cases hp:0 < (Qdf n now)[v]
         . have hc:Qfn n (m+1) now g ls o=Qfn n m (Qi4 v n 0 now) (g++[(v:Int)]) (100::ls) ((v:Int)::o):=by simp [Qfn,hs,nv,hvd,hp]
           rw [hc];have Hq:=Qwo nv hvd hp s2 q1 q2 q3 q4 q5 q6 q7 q8;repeat refine go1 ?_
           refine Qab (Qks n hn es c (Qbj (100::ls)) ((v:Int)::o) (g++[(v:Int)]) v (n - 1) (by omega) now c2 hl) ?_;rintro ex st ⟨rfl,rfl⟩;exact ih 100
         . have hc:Qfn n (m+1) now g ls o=Qfn n m (Qi4 v n 0 now) (g++[(v:Int)]) (105::ls) ((v:Int)::o):=by simp [Qfn,hs,nv,hvd,hp]
           rw [hc];have Hq:=Qwo nv hvd hp s1 q1 q2 q3 q4 q5 q6 q7 q8;repeat refine go1 ?_
           refine Qab (Qks n hn es c (Qbj (105::ls)) ((v:Int)::o) (g++[(v:Int)]) v (n - 1) (by omega) now c2 hl) ?_;rintro ex st ⟨rfl,rfl⟩;exact ih 105
   . have e1:=Qaa (Qi8 n now false (by omega) hl he);cases f
     . have Hq:=cj4 e1 hlt w1 w2;repeat refine go1 ?_
       refine Qab (e4 _ n (by omega) hn) ?_;rintro ex st ⟨rfl,⟨hs,rfl⟩ | ⟨v,hs,rfl⟩⟩
       . show wp tb _ _ _
         repeat refine go0 ?_
         simp [Qfn,hs]
       . show wp tb _ _ _;have hvn:=Qm2 hs;have hvd:v < (Qdf n now).length:=by omega
         have nv:¬ ((v:Int) < 0):=by omega
         have hsub:=Qh3 (v:Int) n 0 now;have hgd:(Qdf n now).getD v 0=(Qdf n now)[v]:=by simp [hvd]
         have ih:=fun k=>Jef n hn es c m (Qi4 v n 0 now) (O2 (Qi4 v n 0 now)) (k::ls) ((v:Int)::o) (g++[(v:Int)]) true v (.inr rfl) (by simp;omega) (by simp;omega) (by simp;omega) (Kcp hsub.length_le hl) (fun e hm=>he e (hsub.mem hm));by_cases hp:0 < (Qdf n now)[v]
         . have hc:Qfn n (m+1) now g ls o=Qfn n m (Qi4 v n 0 now) (g++[(v:Int)]) (100::ls) ((v:Int)::o):=by simp [Qfn,hs,nv,hvd,hp]
           rw [hc];have Hq:=Qwo nv hvd hp s2 q1 q2 q3 q4 q5 q6 q7 q8;repeat refine go1 ?_
           refine Qab (Qi3 n hn es c (Qbj (100::ls)) ((v:Int)::o) (g++[(v:Int)]) v n 0 now (by omega) hl) ?_;rintro ex st ⟨rfl,rfl⟩;exact ih 100
         . have hc:Qfn n (m+1) now g ls o=Qfn n m (Qi4 v n 0 now) (g++[(v:Int)]) (105::ls) ((v:Int)::o):=by simp [Qfn,hs,nv,hvd,hp]
           rw [hc];have Hq:=Qwo nv hvd hp s1 q1 q2 q3 q4 q5 q6 q7 q8;repeat refine go1 ?_
           refine Qab (Qi3 n hn es c (Qbj (105::ls)) ((v:Int)::o) (g++[(v:Int)]) v n 0 now (by omega) hl) ?_;rintro ex st ⟨rfl,rfl⟩;exact ih 105
     . have Hq:=cj4 e1 hlt w1 w2;repeat refine go1 ?_
       refine Qab (e4 _ n (by omega) hn) ?_;rintro ex st ⟨rfl,⟨hs,rfl⟩ | ⟨v,hs,rfl⟩⟩
       . show wp tb _ _ _
         repeat refine go0 ?_
         simp [Qfn,hs]
       . show wp tb _ _ _;have hvn:=Qm2 hs;have hvd:v < (Qdf n now).length:=by omega
         have nv:¬ ((v:Int) < 0):=by omega
         have hsub:=Qh3 (v:Int) n 0 now;have hgd:(Qdf n now).getD v 0=(Qdf n now)[v]:=by simp [hvd]
         have ih:=fun k=>Jef n hn es c m (Qi4 v n 0 now) (O2 (Qi4 v n 0 now)) (k::ls) ((v:Int)::o) (g++[(v:Int)]) true v (.inr rfl) (by simp;omega) (by simp;omega) (by simp;omega) (Kcp hsub.length_le hl) (fun e hm=>he e (hsub.mem hm));by_cases hp:0 < (Qdf n now)[v]
         . have hc:Qfn n (m+1) now g ls o=Qfn n m (Qi4 v n 0 now) (g++[(v:Int)]) (100::ls) ((v:Int)::o):=by simp [Qfn,hs,nv,hvd,hp]
           rw [hc];have Hq:=Qwo nv hvd hp s2 q1 q2 q3 q4 q5 q6 q7 q8;repeat refine go1 ?_
           refine Qab (Qi3 n hn es c (Qbj (100::ls)) ((v:Int)::o) (g++[(v:Int)]) v n 0 now (by omega) hl) ?_;rintro ex st ⟨rfl,rfl⟩;exact ih 100
         . have hc:Qfn n (m+1) now g ls o=Qfn n m (Qi4 v n 0 now) (g++[(v:Int)]) (105::ls) ((v:Int)::o):=by simp [Qfn,hs,nv,hvd,hp]
           rw [hc];have Hq:=Qwo nv hvd hp s1 q1 q2 q3 q4 q5 q6 q7 q8;repeat refine go1 ?_
           refine Qab (Qi3 n hn es c (Qbj (105::ls)) ((v:Int)::o) (g++[(v:Int)]) v n 0 now (by omega) hl) ?_;rintro ex st ⟨rfl,rfl⟩;exact ih 105
end Go.Idl
namespace Go.Idl
open Go
theorem Qnx (n:Nat) (hn:n<=7) (es:List (Int×Int)) (c:Bool) (hl:es.length<=1000) (he:Qg7 n es) :
 Ev tb Jjr [] [Gr n es c] [] ⟨Qiq (Qfn n n es [] [] []),[],[],[]⟩:=by
 have e1:=Jef n hn es c n es (L2 es c) [] [] [] false 0 (.inl ⟨c,rfl⟩) (by simp) rfl rfl hl he;have h0:Qbj []=ByteArray.empty:=rfl;refine jC zt340 rfl ?_
 repeat refine go0 ?_
 refine Qab e1 ?_;intro ex st h;cases hq:Qfn n n es [] [] [] with
 | none =>
   rw [hq] at h;obtain ⟨rfl,T,loc,rfl⟩:=h;simp [Jim,Qiq]
 | some r =>
   obtain ⟨l,o⟩:=r;rw [hq] at h;obtain ⟨rfl,g,B,rfl⟩:=h;show wp tb _ _ _
   repeat refine go0 ?_
   simp [Jim,Qiq]
end Go.Idl
namespace Go.Idl
open Go
theorem Jcy {xs ys:List Int} {i:Nat} (h1:i < xs.length) (h2:i < ys.length):(xs.drop i=ys.drop i) <-> xs[i]=ys[i]/\xs.drop (i+1)=ys.drop (i+1):=by
 rw [Kay h1,Kay h2,Ket]
theorem Jc5 (xs ys:List Int) (c1 c2:Bool) (hl:xs.length<=2000000) (hl2:ys.length<=2000000):Ev tb Jjl [] [L xs c1,L ys c2] [] ⟨Bo (decide (xs=ys)),[],[],[]⟩:=by
 by_cases hlen:xs.length=ys.length
 . have loop:∀ (m i:Nat),i+m=xs.length->wp tb (.loop Jqj) { T:=[(0,L xs c1),(1,L ys c2),(12,I xs.length),(13,I i)],loc:=[],M:=[] }
    (fun ex st=>(ex=.exit 0/\xs.drop i=ys.drop i/\st={ T:=[(0,L xs c1),(1,L ys c2),(12,I xs.length),(13,I xs.length),(14,Bo false)],loc:=[],M:=[] }) \/
      ex=.ret/\¬ xs.drop i=ys.drop i/\st={ T:=[(4,Bo false)],loc:=[],M:=[] }):=by
    intro m
    induction m with
    | zero =>
      intro i hi;have h3:i=xs.length:=hi;subst h3;refine jL ?_
      repeat refine go0 ?_
      exact .inl ⟨rfl,by simp [hlen],rfl⟩
    | succ m ih =>
      intro i hi;have hi2:i < xs.length:=by omega
      have hi3:i < ys.length:=by omega
      have w2:IntKind.i64.wrap ((i:Int)+1)=((i+1:Nat):Int):=Qas (by omega);rw [Jcy hi2 hi3];obtain ⟨x,hx⟩:∃ x,x=xs[i]:=⟨_,rfl⟩;obtain ⟨y,hy⟩:∃ y,y=ys[i]:=⟨_,rfl⟩;have hx2:=hx.symm;have hy2:=hy.symm;rw [hx2,hy2];by_cases hxy:x=y
      . subst hxy;refine jL ?_;have Hq:=cj5 hi2 hi3 hx2 hy2 w2;repeat refine go1 ?_
        simpa using ih (i+1) (by omega)
      . refine jL ?_;have Hq:=cj6 hi2 hi3 hx2 hy2 w2 hxy;repeat refine go1 ?_
        exact .inr ⟨rfl,fun h=>hxy h.1,rfl⟩
   have hlen':=hlen.symm;refine jC zt267 rfl ?_;have Hq:=hlen';repeat refine go1 ?_
   refine Qab (loop xs.length 0 (by simp)) ?_;rintro ex st (⟨rfl,h,rfl⟩ | ⟨rfl,h,rfl⟩)
   . simp only [if_true]
     repeat refine go0 ?_
     simp only [Kcb] at h;simp [Jal,h]
   . simp only [Kcb] at h;simp [Jal,h]
 . have hne:¬ xs=ys:=fun h=>hlen (by rw [h]);have h2:¬ (xs.length:Int)=ys.length:=by omega
   rw [Kbf hne];refine jC zt267 rfl ?_;have Hq:=cj2 hlen h2;repeat refine go1 ?_
   simp [Jal]
theorem Jsi (xs ys:List Int) (c1 c2:Bool) (hl:xs.length<=2000000) (hl2:ys.length<=2000000):Ev tb Jj2 [] [L xs c1,L ys c2] [] ⟨Bo (decide (xs=ys)),[],[],[]⟩:=by
 by_cases hlen:xs.length=ys.length
 . have loop:∀ (m i:Nat),i+m=xs.length->wp tb (.loop Jq5) { T:=[(0,L xs c1),(1,L ys c2),(5,I i)],loc:=[],M:=[] }
    (fun ex st=>(ex=.exit 0/\xs.drop i=ys.drop i/\st={ T:=[(0,L xs c1),(1,L ys c2),(5,I xs.length),(14,Bo false)],loc:=[],M:=[] }) \/
      ex=.ret/\¬ xs.drop i=ys.drop i/\st={ T:=[(4,Bo false)],loc:=[],M:=[] }):=by
    intro m
    induction m with
    | zero =>
      intro i hi;have h3:i=xs.length:=hi;subst h3;refine jL ?_
      repeat refine go0 ?_
      exact .inl ⟨rfl,by simp [hlen],rfl⟩
    | succ m ih =>
      intro i hi;have hi2:i < xs.length:=by omega
      have hi3:i < ys.length:=by omega
      have w2:IntKind.i64.wrap ((i:Int)+1)=((i+1:Nat):Int):=Qas (by omega);rw [Jcy hi2 hi3];obtain ⟨x,hx⟩:∃ x,x=xs[i]:=⟨_,rfl⟩;obtain ⟨y,hy⟩:∃ y,y=ys[i]:=⟨_,rfl⟩;have hx2:=hx.symm;have hy2:=hy.symm;rw [hx2,hy2];by_cases hxy:x=y
      . subst hxy;refine jL ?_;have Hq:=cj5 hi2 hi3 hx2 hy2 w2;repeat refine go1 ?_
        simpa using ih (i+1) (by omega)
      . refine jL ?_;have Hq:=cj6 hi2 hi3 hx2 hy2 w2 hxy;repeat refine go1 ?_
        exact .inr ⟨rfl,fun h=>hxy h.1,rfl⟩
   have hlen':=hlen.symm;refine jC zt372 rfl ?_;have Hq:=hlen';repeat refine go1 ?_
   refine Qab (loop xs.length 0 (by simp)) ?_;rintro ex st (⟨rfl,h,rfl⟩ | ⟨rfl,h,rfl⟩)
   . simp only [if_true]
     repeat refine go0 ?_
     simp only [Kcb] at h;simp [Jan,h]
   . simp only [Kcb] at h;simp [Jan,h]
 . have hne:¬ xs=ys:=fun h=>hlen (by rw [h]);have h2:¬ (xs.length:Int)=ys.length:=by omega
   rw [Kbf hne];refine jC zt372 rfl ?_;have Hq:=cj2 hlen h2;repeat refine go1 ?_
   simp [Jan]
def thr (d:List Int):Bool:=Qbb d && decide (fall d=Qda (fall d))
theorem Qnn (d:List Int) (c:Bool) (hl:d.length<=12):Ev tb Ji8 [] [L d c] [] ⟨Bo (thr d),[],[],[]⟩:=by
 have e1:=Qaa (Qbh d c (by omega));rw [thr];cases hv:Qbb d with
 | false =>
   rw [hv] at e1;refine jC zt187 rfl ?_;have Hq:=e1;repeat refine go1 ?_
   simp [Jh1]
 | true =>
 rw [hv] at e1;have e2:=Qaa (Qgl d c (by omega));have e3:=Qaa (Qnk d c hv);have hcl:(Qda (fall d)).length=d.length:=by simp [Qda,Qay]
 have e4:=Qaa (Jc5 (fall d) (Qda (fall d)) false false (by rw [Qay];omega) (by omega));generalize Qda (fall d)=cs at *
 generalize fall d=fs at *
 generalize decide (fs=cs)=b at *
 refine jC zt187 rfl ?_;have Hq:=cj4 e1 e2 e3 e4;repeat refine go1 ?_
 simp [Jh1]
end Go.Idl
namespace Go.Idl
open Go
@[simp] theorem un_neg (n:Int):Op.unary .neg (.int .i64 n)=.pure (.int .i64 (IntKind.i64.wrap (-n))):=by
  rw [<- Int.zero_sub];rfl
def gs (r c:List Int) (i:Nat):Int:=-((fall r).take (i+1)).sum+(c.map fun x:Int=>min x ((i:Int)+1)).sum
end Go.Idl
namespace Go.Idl
open Go
def TT (n:Nat) (t:List (List Int)):Prop:=t.length=n/\∀ r ∈ t,r.length=n/\∀ x ∈ r,0<=x/\x<=1
theorem TT.set {n:Nat} {t:List (List Int)} (h:TT n t) {a b:Nat} {v:Int} (ha:a < t.length) (hv:0<=v/\v<=1):TT n (t.set a (t[a].set b v)):=by
 refine ⟨by simpa using h.1,fun r hr=>?_⟩;have h1:=h.2 _ (Kao ha);rcases Kch hr with hr | rfl
 . exact h.2 r hr
 . refine ⟨by simpa using h1.1,fun x hx=>?_⟩;rcases Kch hx with hx | rfl
   . exact h1.2 x hx
   . exact hv
end Go.Idl
namespace Go.Idl
open Go
def MM (h w:Nat) (t:List (List Int)):Prop:=t.length=h/\∀ r ∈ t,r.length=w/\∀ x ∈ r,0<=x/\x<=1
end Go.Idl
namespace Go.Idl
open Go
theorem MM.sums {h w:Nat} {t:List (List Int)} (ht:MM h w t) (hw:w<=5):∀ x ∈ t.map List.sum,0<=x/\x<=5:=by
 intro x hx;obtain ⟨r,hr,rfl⟩:=Kck.1 hx;have h1:=ht.2 r hr;have:=sum01 r h1.2;omega
end Go.Idl
namespace Go.Idl
open Go
def Qgx:List Int->Nat->Nat->Nat
 | [],_,k=>k
 | x::q,i,k=>Qgx q (i+1) (if (i:Int)<=x then i+1 else k)
def Qd3 (s:List Int):Nat:=Qgx s 0 0
theorem Qws (B:Nat):∀ (s:List Int) (i k:Nat),k<=B->i+s.length<=B->Qgx s i k<=B
 | [],_,_,h,_=>h
 | x::q,i,k,h,hb=>by
   simp only [Kbc] at hb;rw [Qgx];refine Qws B q _ _ ?_ (by omega);split <;> omega
theorem Qwr:∀ (s:List Int) (i k:Nat),1<=k->1<=Qgx s i k
 | [],_,_,h=>h
 | x::q,i,k,h=>by
   rw [Qgx];refine Qwr q _ _ ?_;split <;> omega
theorem Qud (s:List Int):Qd3 s<=s.length:=Qws _ s 0 0 (by omega) (by omega)
theorem Quc {s:List Int} (h:s ≠ []) (h0:∀ x ∈ s,0<=x):1<=Qd3 s:=by
 cases s with
 | nil=>exact absurd rfl h
 | cons x q =>
   have:=h0 x (by simp);simp only [Qd3,Qgx];refine Qwr q _ _ ?_;rw [if_pos (by simpa using this)];omega
theorem Qug (d:List Int) (c:Bool) (hv:Qbb d=true):Ev tb Ji4 [] [L d c] [] ⟨I (Qd3 (fall d)),[],[],[]⟩:=by
 have hl:=(Qan hv).1;have e1:=Qaa (Qnp d c hv);have hfl:=Qay d;generalize fall d=s at *
 have loop:∀ (m i k:Nat),i+m=s.length->k<=i->wp tb (.loop Jqb) { T:=[(3,I k),(7,O s),(8,I s.length),(9,I i)],loc:=[],M:=[] }
  (fun ex st=>ex=.exit 0/\st={ T:=[(3,I (Qgx (s.drop i) i k)),(7,O s),(8,I s.length),(9,I s.length),(10,Bo false)],loc:=[],M:=[] }):=by
  intro m
  induction m with
  | zero =>
    intro i k hi hk;obtain ⟨h1,h2⟩:=Qcg hi;have h3:i=s.length:=hi;subst h3;refine jL ?_
    repeat refine go0 ?_
    rw [h2];exact ⟨rfl,rfl⟩
  | succ m ih =>
    intro i k hi hk;obtain ⟨hi2,h2,h3⟩:=Qch hi;have w2:IntKind.i64.wrap ((i:Int)+1)=((i+1:Nat):Int):=Qas (by omega);rw [h2,Qgx];by_cases hq:(i:Int)<=s[i]
    . rw [if_pos hq];refine jL ?_;have Hq:=cj3 hi2 hq w2;repeat refine go1 ?_
      exact ih (i+1) (i+1) (by omega) (by omega)
    . rw [if_neg hq];refine jL ?_;have Hq:=cj3 hi2 hq w2;repeat refine go1 ?_
      exact ih (i+1) k (by omega) (by omega)
 refine jC zt164 rfl ?_;have Hq:=e1;repeat refine go1 ?_
 refine Qab (loop s.length 0 0 (by simp) (by omega)) ?_;rintro ex st ⟨rfl,rfl⟩
 try simp only [if_true]
 repeat refine go0 ?_
 simp [Jnv,Qd3]
def Qec (d:List Int):Int:=if Qa2 d then (if d.length=0 then 0 else ((Qa7 d).getD (Qd3 (fall d) - 1) 0).tdiv 2) else -1
theorem Qlw (d:List Int) (c:Bool) (hl:d.length<=2000000):Ev tb Jjb [] [L d c] [] ⟨I (Qec d),[],[],[]⟩:=by
 have e1:=Qaa (Qfs d c hl);cases hg:Qa2 d with
 | false =>
   refine jC zt197 rfl ?_;have Hq:=cj2 e1 hg;repeat refine go1 ?_
   simp [Jaj,Qec,hg]
 | true =>
 by_cases h0:d.length=0
 . refine jC zt197 rfl ?_;have Hq:=cj3 e1 hg h0;repeat refine go1 ?_
   simp [Jaj,Qec,hg,h0]
 have hv:Qbb d=true:=by simp only [Qa2,Kac] at hg;exact hg.1.1
 have hf:=Qan hv;have e2:=Qaa (Qlv d c hv);have e3:=Qaa (Qug d c hv);have hd1:=Qud (fall d);have hd2:1<=Qd3 (fall d):=Quc (fun h=>h0 (by rw [<- Qay,h];rfl)) (fun x hx=>(hf.fall.2 x hx).1);rw [Qay] at hd1;have hsl:=Qet d;have hb:∀ x ∈ Qa7 d,-100<=x/\x<=200:=by
  intro x hx;simp only [Qa7,Kck,Kaz] at hx;obtain ⟨i,hi,rfl⟩:=hx;exact Qm4 (by have:=hf.1;omega) hf.fall.1 hf.fall.2
 obtain ⟨k,hk⟩:∃ k,Qd3 (fall d)=k+1:=⟨Qd3 (fall d) - 1,by omega⟩;have w1:IntKind.i64.wrap (k:Int)=(k:Int):=Qac (by omega) (by omega);have hk2:k < (Qa7 d).length:=by omega
 have hx:=hb _ (Kao hk2);have hnn:0<=(Qa7 d)[k]:=by
  have hg2:=hg;simp only [Qa2,Kac,Kaj,Kai] at hg2;exact hg2.2 _ (Kao hk2)
 have w2:IntKind.i64.wrap (((Qa7 d)[k]).tdiv 2)=((Qa7 d)[k]).tdiv 2:=by
  rw [Kds hnn];exact Qac (by omega) (by omega)
 have hs:Qec d=((Qa7 d)[k]).tdiv 2:=by
  rw [Qec,hg,hk,Nat.add_sub_cancel];simp only [if_true,h0,Kbs,Kad,Kag hk2,Kdf]
 rw [hk] at e3;refine jC zt197 rfl ?_;have Hq:=cj8 e1 hg h0 e2 e3 w1 hk2 w2;repeat refine go1 ?_
 simp [Jaj,hs]
theorem Qza (d:List Int) (c:Bool) (hl:d.length<=2000000):Ev tb Ji7 [] [L d c] [] ⟨Bo (decide (Qec d=0)),[],[],[]⟩:=by
 have e1:=Qaa (Qlw d c hl);refine jC zt186 rfl ?_;have Hq:=e1;repeat refine go1 ?_
 simp [Jny];rfl
end Go.Idl
namespace Go.Idl
open Go
structure Jpb (n:Int) (es:List (Int×Int)):Prop where
 n1:-1<=n
 n2:n<=8
 len:es.length<=60
 el:∀ e ∈ es,-1<=e.1/\e.1<=8/\-1<=e.2/\e.2<=8
theorem Jpb.fit {n es} (h:Jpb n es):Fit es:=fun e he=>by have:=h.el e he;omega
end Go.Idl
namespace Go.Idl
open Go
theorem Jk7 (n:Nat) (es:List (Int×Int)):(Qdf n es).length=n:=by rw [Qdf,Qh2];simp
end Go.Idl
namespace Go.Idl
open Go
def rgF (n i:Nat):List Int:=((List.range n).drop i).map fun v:Nat=>(v:Int)
theorem Qgq {n i:Nat} (h:i < n):rgF n i=(i:Int)::rgF n (i+1):=by
 rw [rgF,rgF,Kay (by simpa using h)];simp
theorem Qqg (n:Nat):rgF n n=[]:=by simp [rgF]
theorem Jtn (n:Nat):rgF n 0=Qbx n (-1):=by rw [rgF,Qbc,Kcb]
end Go.Idl
namespace Go.Idl
def insP (x:Nat×Nat):List (Nat×Nat)->List (Nat×Nat)
 | []=>[x]
 | y::r=>if Nat.ble y.1 x.1 then x::y::r else y::insP x r
def hh:Nat->List (Nat×Nat)->List (Nat×Nat)
 | 0,_=>[]
 | _+1,[]=>[]
 | m+1,x::r=>(r.take x.1).map (fun y:Nat×Nat=>(x.2,y.2))++hh m ((((r.take x.1).map (fun y:Nat×Nat=>(y.1 - 1,y.2))++r.drop x.1:List (Nat×Nat))).foldr insP [])
theorem Jcw {o:List Int} {i v:Nat} (hv:v < o.length):(Qeo o i).getD v 0=o.getD v 0 - (if i=v then 1 else 0):=by
 rw [Qeo,Kad,Kdp];by_cases h:i=v
 . subst h;simp [hv,Kad]
 . simp [h,Kad]
theorem Qu4 {α:Type} {p q:Prop} [Decidable p] [Decidable q] (h:p <-> q) (a b:α):(if p then a else b)=if q then a else b:=by
 by_cases hp:p
 . rw [if_pos hp,if_pos (h.1 hp)]
 . rw [if_neg hp,if_neg fun hq=>hp (h.2 hq)]
def mk (u v:Nat):Int×Int:=(min (u:Int) v,max (u:Int) v)
theorem Qzk:(List.range 8).all (fun n=>(prs n).all fun e=>(List.range n).all fun v=>decide (inc v e=S (List.range n) (fun u=>if u=v then 0 else if e=mk u v then 1 else 0)))=true:=by decide +kernel
theorem inc_mk {n:Nat} (hn:n<=7) {e:Int×Int} (he:e ∈ prs n) {v:Nat} (hv:v < n):inc v e=S (List.range n) (fun u=>if u=v then 0 else if e=mk u v then 1 else 0):=by
 have:=Kaj.1 (Kaj.1 (Kaj.1 Qzk n (Kaz.2 (by omega))) e he) v (Kaz.2 hv);exact of_decide_eq_true this
theorem S_ite {α:Type} (l:List α) (p:α->Bool) (f:α->Int):S (l.filter p) f=S l (fun a=>if p a then f a else 0):=by
 induction l with
 | nil=>rfl
 | cons a l ih =>
   rw [Kec,Qdz];split <;> rename_i h
   . rw [Qdz,ih]
   . rw [ih];omega
theorem mk_mem {n u v:Nat} (hu:u < n) (hv:v < n) (h:u ≠ v):mk u v ∈ prs n:=Qej.2 (by simp only [mk];omega)
theorem Qyx {n:Nat} (hn:n<=7) (p:Int×Int->Bool) {v:Nat} (hv:v < n):deg ((prs n).filter p) v=S (List.range n) (fun u=>if u=v then 0 else if p (mk u v) then 1 else 0):=by
 rw [deg,S_ite,Qey (g:=fun e=>S (List.range n) (fun u=>if u=v then 0 else if e=mk u v then (if p (mk u v) then 1 else 0) else 0)) fun e he=>?_,S_swap]
 . refine Qey fun u hu=>?_;have hu:=Kaz.1 hu;by_cases huv:u=v
   . simp only [huv,if_true];exact Qn7 _
   . simp only [if_neg huv];have hm:=mk_mem hu hv huv;have h1:=S_one (Qqd (Jeu n)) (mk u v);rw [if_pos hm] at h1;by_cases hp:p (mk u v)=true
     . simp only [hp,if_true];exact Eq.trans (Qey fun e _=>Qu4 eq_comm _ _) h1
     . simp only [if_neg hp,ite_self];exact Qn7 _
 . rw [inc_mk hn he hv];by_cases hp:p e=true
   . rw [if_pos hp];refine Qey fun u _=>?_;by_cases huv:u=v
     . simp [huv]
     . simp only [if_neg huv];by_cases hem:e=mk u v
       . rw [if_pos hem,if_pos hem,<- hem,if_pos hp]
       . rw [if_neg hem,if_neg hem]
   . rw [if_neg hp]
     symm
     rw [Qey (g:=fun _=>0),Qn7];intro u _;by_cases huv:u=v
     . simp [huv]
     . simp only [if_neg huv];by_cases hem:e=mk u v
       . rw [if_pos hem,<- hem,if_neg hp]
       . rw [if_neg hem]
end Go.Idl
namespace Go.Idl
open Go
def fmx (P:Nat->Bool) (left:List Int):Nat->Int
 | 0=>-1
 | k+1=>if P k && (decide (fmx P left k < 0) || decide (left.getD (fmx P left k).toNat 0 < left.getD k 0)) then (k:Int) else fmx P left k
theorem Qcf (P:Nat->Bool) (left:List Int):∀ k,fmx P left k=-1 \/ ∃ q:Nat,q < k/\fmx P left k=q/\P q=true
 | 0=>.inl rfl
 | k+1=>by
   rw [fmx];split
   . rename_i h;simp only [Kac] at h;exact .inr ⟨k,by omega,rfl,h.1⟩
   . rcases Qcf P left k with h | ⟨q,h1,h2,h3⟩
     . exact .inl h
     . exact .inr ⟨q,by omega,h2,h3⟩
def Qzp (v:Int) (n:Nat) (done:List Int):Nat->List Int->List (Int×Int)->Option (List Int×List (Int×Int))
 | 0,left,es=>some (left,es)
 | k+1,left,es =>
   let b:=fmx (fun i=>!decide ((i:Int) ∈ done) && !has es v i) left n
   if b < 0 \/ left.getD b.toNat 0 < 1 then none else Qzp v n done k (Qeo left b.toNat) (Qtw (min v b,max v b) es)
def Qs7 (n:Nat):Nat->List Int->List Int->List (Int×Int)->Option (List (Int×Int))
 | 0,_,_,es=>some es
 | m+1,left,done,es =>
   let v:=fmx (fun i=>!decide ((i:Int) ∈ done)) left n
   match Qzp v n (done++[v]) (left.getD v.toNat 0).toNat left es with
   | none=>none
   | some (left',es')=>Qs7 n m left' (done++[v]) es'
theorem sr_v (d:List Int) (c:Bool) (n:Nat) (hn:n<=7) (hd:d.length=n) (left done:List Int) (hl:left.length=n) (hdl:done.length<=100) (Bs:Qad):∀ (m i:Nat),i+m=n ->
 wp tb (.loop Jho) { T:=[(0,L d c),(2,.bptr 0 0 0),(4,.bptr 0 1 0),(5,O left),(6,O done),(7,I (fmx (fun i=>!decide ((i:Int) ∈ done)) left i)),(8,I i)],loc:=Bs,M:=[] }
  (fun ex st=>ex=.exit 2/\st={ T:=[(0,L d c),(2,.bptr 0 0 0),(4,.bptr 0 1 0),(5,O left),(6,O done),(7,I (fmx (fun i=>!decide ((i:Int) ∈ done)) left n)),(8,I n),(27,Bo false)],loc:=Bs,M:=[] }):=by
 intro m
 induction m with
 | zero =>
   intro i hi;have h3:i=n:=hi;subst h3;refine jL ?_;have Hq:=hd;repeat refine go1 ?_
   exact ⟨rfl,rfl⟩
 | succ m ih =>
   intro i hi;have hin:i < n:=by omega
   have hil:i < left.length:=by omega
   have e1:=fun cc=>Qaa (Ql1 done cc (i:Int) (by omega));have w2:IntKind.i64.wrap ((i:Int)+1)=((i+1:Nat):Int):=Qas (by omega);have hdt:done.take done.length=done:=Kae (Kam _);have hn2:=ih (i+1) (by omega);rw [fmx] at hn2;have gi:left.getD i 0=left[i]:=by simp [Kad,Kag hil]
   rw [gi] at hn2;have hcs:=Qcf (fun i=>!decide ((i:Int) ∈ done)) left i;generalize fmx (fun i=>!decide ((i:Int) ∈ done)) left i=b at *
   by_cases hdn:(i:Int) ∈ done
   . simp only [hdn,decide_true,Kdy,Kee,Kap,Kbs] at hn2;refine jL ?_;have Hq:=cj6 hd hin e1 hdn hdt w2;repeat refine go1 ?_
     exact hn2
   . simp only [hdn,decide_false,Bool.not_false,Kbx] at hn2;rcases hcs with rfl | ⟨q,hq,rfl,-⟩
     . simp only [show ((-1:Int) < 0) from by decide,decide_true,Bool.true_or,if_true] at hn2;refine jL ?_;have Hq:=cj6 hd hin e1 hdn hdt w2;repeat refine go1 ?_
       exact hn2
     . have hql:q < left.length:=by omega
       have hqn:q < n:=by omega
       have gq:left.getD q 0=left[q]:=by simp [Kad,Kag hql]
       have hq0:¬ (q:Int) < 0:=by omega
       simp only [hq0,decide_false,Kdz,Kax,gq,Kai] at hn2;by_cases hlt:left[q] < left[i]
       . rw [if_pos hlt] at hn2;refine jL ?_;have Hq:=Qtv hd hin hil e1 hdn hdt w2 hql hqn hl hlt;repeat refine go1 ?_
         exact hn2
       . rw [if_neg hlt] at hn2;refine jL ?_;have Hq:=Qtv hd hin hil e1 hdn hdt w2 hql hqn hl hlt;repeat refine go1 ?_
         exact hn2
theorem sr_b (d:List Int) (c:Bool) (n:Nat) (hn:n<=7) (hd:d.length=n) (left done:List Int) (hl:left.length=n) (hdl:done.length<=100) (v k:Int) (es:List (Int×Int)) (hel:es.length<=1000):∀ (m i:Nat),i+m=n ->
 wp tb (.loop Jhp) { T:=[(0,L d c),(2,.bptr 0 0 0),(4,.bptr 0 1 0),(5,O left),(6,O done),(7,I v),(9,I k),(10,I (fmx (fun i=>!decide ((i:Int) ∈ done) && !has es v i) left i)),(11,I i)],loc:=[[I 0,Z],[I n,O2 es]],M:=[] }
  (fun ex st=>ex=.exit 6/\st={ T:=[(0,L d c),(2,.bptr 0 0 0),(4,.bptr 0 1 0),(5,O left),(6,O done),(7,I v),(9,I k),(10,I (fmx (fun i=>!decide ((i:Int) ∈ done) && !has es v i) left n)),(11,I n),(65,Bo false)],loc:=[[I 0,Z],[I n,O2 es]],M:=[] }):=by
 intro m
 induction m with
 | zero =>
   intro i hi;have h3:i=n:=hi;subst h3;refine jL ?_;have Hq:=hd;repeat refine go1 ?_
   exact ⟨rfl,rfl⟩
 | succ m ih =>
   intro i hi;have hin:i < n:=by omega
   have hil:i < left.length:=by omega
   have e1:=fun cc=>Qaa (Ql1 done cc (i:Int) (by omega));have e2:=fun cc=>Qaa (Qoe n es cc v (i:Int) (by omega));have w2:IntKind.i64.wrap ((i:Int)+1)=((i+1:Nat):Int):=Qas (by omega);have hdt:done.take done.length=done:=Kae (Kam _);have het:es.take es.length=es:=Kae (Kam _);have hn2:=ih (i+1) (by omega);rw [fmx] at hn2;have gi:left.getD i 0=left[i]:=by simp [Kad,Kag hil]
   rw [gi] at hn2;have hcs:=Qcf (fun i=>!decide ((i:Int) ∈ done) && !has es v i) left i;generalize fmx (fun i=>!decide ((i:Int) ∈ done) && !has es v i) left i=b at *
   by_cases hdn:(i:Int) ∈ done
   . simp only [hdn,decide_true,Kdy,Kee,Kap,Kbs] at hn2;refine jL ?_;have Hq:=cj6 hd hin e1 hdn hdt w2;repeat refine go1 ?_
     exact hn2
   cases hha:has es v (i:Int) with
   | true =>
     simp only [hdn,hha,decide_false,Bool.not_false,Kdy,Bool.and_false,Kee,Kap,Kbs] at hn2;refine jL ?_;have Hq:=cj9 hd hin e1 e2 hdn hdt het hha w2;repeat refine go1 ?_
     exact hn2
   | false =>
     simp only [hdn,hha,decide_false,Bool.not_false,Kbx] at hn2;rcases hcs with rfl | ⟨q,hq,rfl,-⟩
     . simp only [show ((-1:Int) < 0) from by decide,decide_true,Bool.true_or,if_true] at hn2;refine jL ?_;have Hq:=cj9 hd hin e1 e2 hdn hdt het hha w2;repeat refine go1 ?_
       exact hn2
     . have hql:q < left.length:=by omega
       have hqn:q < n:=by omega
       have gq:left.getD q 0=left[q]:=by simp [Kad,Kag hql]
       have hq0:¬ (q:Int) < 0:=by omega
       simp only [hq0,decide_false,Kdz,Kax,gq,Kai] at hn2;by_cases hlt:left[q] < left[i]
       . rw [if_pos hlt] at hn2;refine jL ?_;have Hq:=cj14 hd hin hil e1 e2 hdn hdt het hha w2 hql hqn hl hlt;repeat refine go1 ?_
         exact hn2
       . rw [if_neg hlt] at hn2;refine jL ?_;have Hq:=cj14 hd hin hil e1 e2 hdn hdt het hha w2 hql hqn hl hlt;repeat refine go1 ?_
         exact hn2
def FailS (n:Nat) (st:St):Prop:=∃ B:List IV,st={ T:=[(2,.bptr 0 0 0),(3,Bo false)],loc:=[[I 0,Z],B],M:=[] }
theorem sr_l (d:List Int) (c:Bool) (n:Nat) (hn:n<=7) (hd:d.length=n) (done:List Int) (hdl:done.length<=100) (v:Nat):∀ (k:Nat) (left:List Int) (es:List (Int×Int)),left.length=n->(∀ x ∈ left,0<=x/\x<=1000)->es.length+k<=900->k<=800 ->
 wp tb (.loop Jhq) { T:=[(0,L d c),(2,.bptr 0 0 0),(4,.bptr 0 1 0),(5,O left),(6,O done),(7,I v),(9,I k)],loc:=[[I 0,Z],[I n,O2 es]],M:=[] }
  (fun ex st=>match Qzp v n done k left es with
    | none=>ex=.ret/\FailS n st
    | some (left',es')=>ex=.exit 4/\st={ T:=[(0,L d c),(2,.bptr 0 0 0),(4,.bptr 0 1 0),(5,O left'),(6,O done),(7,I v),(9,I 0),(59,Bo false)],loc:=[[I 0,Z],[I n,O2 es']],M:=[] }):=by
 intro k
 induction k with
 | zero =>
   intro left es hl hb he hk;simp only [Qzp];rw [show ((0:Nat):Int)=0 from rfl];refine jL ?_
   repeat refine go0 ?_
   exact ⟨rfl,rfl⟩
 | succ k ih =>
   intro left es hl hb he hk;have hB:=sr_b d c n hn hd left done hl hdl (v:Int) ((k+1:Nat):Int) es (by omega) n 0 (by omega);rw [show ((0:Nat):Int)=0 from rfl,show fmx (fun i=>!decide ((i:Int) ∈ done) && !has es (v:Int) i) left 0=-1 from rfl] at hB;rw [Qzp]
   try simp only
   have hcs:=Qcf (fun i=>!decide ((i:Int) ∈ done) && !has es (v:Int) i) left n;generalize fmx (fun i=>!decide ((i:Int) ∈ done) && !has es (v:Int) i) left n=b at *
   have hk0:(0:Int) < (k:Int)+1:=by omega
   rcases hcs with rfl | ⟨q,hq,rfl,-⟩
   . rw [if_pos (.inl (by decide))];refine jL ?_;have Hq:=hk0;repeat refine go1 ?_
     refine Qab hB ?_;rintro ex st ⟨rfl,rfl⟩;simp only [if_true]
     repeat refine go0 ?_
     exact ⟨rfl,_,rfl⟩
   . have hql:q < left.length:=by omega
     have gq:left.getD q 0=left[q]:=by simp [Kad,Kag hql]
     have hq0:¬ (q:Int) < 0:=by omega
     have bq:=hb _ (Kao hql);rw [Kax,gq];by_cases hlt:left[q] < 1
     . rw [if_pos (.inr hlt)];refine jL ?_;have Hq:=hk0;repeat refine go1 ?_
       refine Qab hB ?_;rintro ex st ⟨rfl,rfl⟩;simp only [if_true];have Hq:=cj4 hq hql hl hlt;repeat refine go1 ?_
       exact ⟨rfl,_,rfl⟩
     . rw [if_neg (by omega)];have hd2:Qeo left q=left.set q (left[q] - 1):=by rw [Qeo,gq]
       have e1:=fun cc=>Qaa (Qzd n es cc (v:Int) (q:Int) (by omega));have w1:IntKind.i64.wrap (left[q] - 1)=left[q] - 1:=Qac (by omega) (by omega);have w3:IntKind.i64.wrap (k:Int)=(k:Int):=Qac (by omega) (by omega);have het:es.take es.length=es:=Kae (Kam _);have hn2:=ih (Qeo left q) (Qtw (min (v:Int) q,max (v:Int) q) es) (by simp [Qeo,hl]) (by
        rw [hd2];intro x hx;rcases Kch hx with hx | rfl
        . exact hb x hx
        . omega) (by rw [Qxe];omega) (by omega)
       rw [hd2] at hn2 |-;refine jL ?_;have Hq:=hk0;repeat refine go1 ?_
       refine Qab hB ?_;rintro ex st ⟨rfl,rfl⟩;simp only [if_true];have Hq:=cj8 hq hql hl hlt w1 w3 e1 het;repeat refine go1 ?_
       exact hn2
end Go.Idl
namespace Go.Idl
open Go
theorem Qmg (P:Nat->Bool) (left:List Int):∀ k,fmx P left k=-1->∀ w,w < k->P w=false
 | 0,_,w,hw=>by omega
 | k+1,h,w,hw=>by
   rw [fmx] at h;split at h
   . omega
   . rename_i h2;have h1:=Qmg P left k h;by_cases hwk:w=k
     . subst hwk;cases hp:P w with
       | false=>rfl
       | true =>
         exfalso;apply h2;rw [hp,h];rfl
     . exact h1 w (by omega)
theorem Qxm (v:Int) (n:Nat) (done:List Int):∀ (k:Nat) (left:List Int) (es:List (Int×Int)) (left':List Int) (es':List (Int×Int)),Qzp v n done k left es=some (left',es')->(∀ x ∈ left,0<=x/\x<=10) ->
 left'.length=left.length/\(∀ x ∈ left',0<=x/\x<=10)/\es'.length=es.length+k
 | 0,left,es,left',es',h,hb=>by
   simp only [Qzp,Kaa,Kab] at h;obtain ⟨rfl,rfl⟩:=h;exact ⟨rfl,hb,rfl⟩
 | k+1,left,es,left',es',h,hb=>by
   rw [Qzp] at h
   try simp only at h
   split at h
   . cases h
   . rename_i h0;obtain ⟨q1,q2,q3⟩:=Qxm v n done k _ _ _ _ h (by
      intro x hx;rcases Kch hx with hx | rfl
      . exact hb x hx
      . generalize (fmx (fun i=>!decide ((i:Int) ∈ done) && !has es v i) left n).toNat=j at *
        have hg:∀ y,left[j]? = some y->0<=y/\y<=10:=fun y hy=>hb y (Kbn hy);rw [Kad] at h0 |-;cases hq:left[j]? with
        | none=>rw [hq] at h0;simp at h0
        | some y =>
          rw [hq] at h0;have:=hg y hq;simp only [Kdf] at h0 |-;omega)
     exact ⟨by rw [q1];simp [Qeo],q2,by rw [q3,Qxe];omega⟩
theorem sr_out (d:List Int) (c:Bool) (n:Nat) (hn:n<=7) (hd:d.length=n):∀ (m:Nat) (left done:List Int) (es:List (Int×Int)),done.length+m=n->left.length=n->(∀ x ∈ left,0<=x/\x<=10)->es.length+10 * m<=800 ->
 wp tb (.loop Jhr) { T:=[(0,L d c),(2,.bptr 0 0 0),(4,.bptr 0 1 0),(5,O left),(6,O done)],loc:=[[I 0,Z],[I n,O2 es]],M:=[] }
  (fun ex st=>match Qs7 n m left done es with
    | none=>ex=.ret/\FailS n st
    | some es'=>ex=.exit 0/\∃ (left' done':List Int),st={ T:=[(0,L d c),(2,.bptr 0 0 0),(4,.bptr 0 1 0),(5,O left'),(6,O done'),(23,Bo false)],loc:=[[I 0,Z],[I n,O2 es']],M:=[] }):=by
 intro m
 induction m with
 | zero =>
   intro left done es hm hl hb he;rw [Qs7];have h1:¬ (done.length:Int) < n:=by omega
   have h1':¬ done.length < n:=by omega
   refine jL ?_;have Hq:=cj3 hd h1 h1';repeat refine go1 ?_
   exact ⟨rfl,left,done,rfl⟩
 | succ m ih =>
   intro left done es hm hl hb he;have h1:(done.length:Int) < n:=by omega
   have h1':done.length < n:=by omega
   have hV:=sr_v d c n hn hd left done hl (by omega) [[I 0,Z],[I n,O2 es]] n 0 (by omega);rw [show ((0:Nat):Int)=0 from rfl,show fmx (fun i=>!decide ((i:Int) ∈ done)) left 0=-1 from rfl] at hV;rw [Qs7]
   try simp only
   obtain ⟨v,hvn,hv⟩:∃ v:Nat,v < n/\fmx (fun i=>!decide ((i:Int) ∈ done)) left n=v:=by
    rcases Qcf (fun i=>!decide ((i:Int) ∈ done)) left n with h | ⟨q,h2,h3,-⟩
    . obtain ⟨w,hw1,hw2⟩:=Jsl (N:=n) (rest:=[]) (Jbm:=done) (by simp;omega);have:=Qmg _ _ _ h w hw1;simp [busy] at hw2;simp [hw2] at this
    . exact ⟨q,h2,h3⟩
   rw [hv] at hV |-;have hvl:v < left.length:=by omega
   have gv:left.getD v 0=left[v]:=by simp [Kad,Kag hvl]
   have bv:=hb _ (Kao hvl);rw [Kax,gv];obtain ⟨k,hk⟩:=Kbm bv.1;rw [hk,Kax];have hL:=sr_l d c n hn hd (done++[(v:Int)]) (by simp;omega) v k left es hl (fun x hx=>by have:=hb x hx;omega) (by omega) (by omega);have hdl:done.length+1<=274877906944:=by omega
   have hdt:done.take done.length=done:=Kae (Kam _);cases hlay:Qzp v n (done++[(v:Int)]) k left es with
   | none =>
     simp only [hlay] at hL
     try simp only
     refine jL ?_;have Hq:=cj3 hd h1 h1';repeat refine go1 ?_
     refine Qab hV ?_;rintro ex st ⟨rfl,rfl⟩;simp only [if_true];have Hq:=cj6 hdl hdt hvl hvn hl hk;repeat refine go1 ?_
     refine Qab hL ?_;rintro ex st ⟨rfl,hf⟩;exact ⟨rfl,hf⟩
   | some q =>
     obtain ⟨left',es'⟩:=q;simp only [hlay] at hL
     try simp only
     obtain ⟨q1,q2,q3⟩:=Qxm v n _ k left es left' es' hlay hb;have hn2:=ih left' (done++[(v:Int)]) es' (by simp;omega) (by omega) q2 (by omega);refine jL ?_;have Hq:=cj3 hd h1 h1';repeat refine go1 ?_
     refine Qab hV ?_;rintro ex st ⟨rfl,rfl⟩;simp only [if_true];have Hq:=cj6 hdl hdt hvl hvn hl hk;repeat refine go1 ?_
     refine Qab hL ?_;rintro ex st ⟨rfl,rfl⟩;simp only [if_true];exact Qiv (by simp;with_reducible rfl) rfl (by simp;with_reducible rfl) (by simp) hn2
def Jmp (d:List Int):Option (List (Int×Int)):=Qs7 d.length d.length d [] []
abbrev RS (n:Nat) (o:Option (List (Int×Int))):IV:=match o with
 | none=>.tup [.agg [I 0,Z],Bo false]
 | some es=>.tup [OG n es,Bo true]
end Go.Idl
namespace Go.Idl
open Go
abbrev Jri (d:List Int):Prop:=Jmp d=(Qkj d).map Qfl/\∀ es,Qkj d=some es->Qak d.length (Qfl es)=true/\Qdf d.length (Qfl es)=d
end Go.Idl
