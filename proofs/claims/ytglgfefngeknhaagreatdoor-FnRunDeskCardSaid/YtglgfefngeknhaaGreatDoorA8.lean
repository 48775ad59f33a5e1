/- Part 8 of a proof by an ideal interpreter of the code: its definitions and lemmas. Conditions: none. -/
import Derived.KernelRfl
import Derived.Test.YtglgfefngeknhaaGreatDoorA7
set_option linter.all false
set_option linter.unusedVariables false
set_option linter.unusedSimpArgs false
namespace Go.Idl
open Go
def Lo9 (d:List Int):Prop:=∀ x ∈ d,0<=x/\x<=9
theorem Lo9.set {d:List Int} (h:Lo9 d) {i:Nat} {x:Int} (hx:0<=x/\x<=9):Lo9 (d.set i x):=by
 intro y hy;rcases Kch hy with hy | rfl
 . exact h y hy
 . exact hx
theorem liftl9 (code:List Int) (c:Bool) (hc:Qdv code) (len:Nat) (h2:2<=len) (hl:len<=7) (bs:Qad) (Ms:List Qad):∀ (n cnt:Nat) (d:List Int),cnt+2 * n<=99000->d.length=len->Lo9 d->n<=3 ->
 wp tb (.loop Jqn) { T:=[(0,.bptr 0 0 0),(1,O d),(5,I n)],loc:=[],M:=(R code c cnt::bs)::Ms }
  (fun ex st=>ex=.exit 0/\∃ (d':List Int) (k:Nat),d'.length=len/\Lo9 d'/\k<=cnt+2 * n/\st={ T:=[(0,.bptr 0 0 0),(1,O d'),(5,I 0),(15,Bo false)],loc:=[],M:=(R code c k::bs)::Ms }):=by
 intro n
 induction n with
 | zero =>
   intro cnt d hcn hd hlo hn3;refine jL ?_
   repeat refine go0 ?_
   exact ⟨rfl,d,cnt,hd,hlo,by omega,rfl⟩
 | succ n ih =>
   intro cnt d hcn hd hlo hn3;obtain ⟨v,k1,hv,hk1,e1⟩:=Qlx code c hc cnt (by omega) (len:Int) (by omega) bs (Ms++[[]]);have hv:=hv (by omega);have hvd:v < d.length:=by omega
   obtain ⟨x,k2,hx,hk2,e2⟩:=one2 code c hc k1 (by omega) [1,-1,1,2] (by simp) bs (Ms++[[]]);have hx:-1<=x/\x<=2:=by simp at hx;omega
   have hdv:=hlo d[v] (Kao hvd);have w1:IntKind.i64.wrap (d[v]+x)=d[v]+x:=Qac (by omega) (by omega);have w2:IntKind.i64.wrap ((len:Int) - 1)=(len:Int) - 1:=Qac (by omega) (by omega);have w3:IntKind.i64.wrap (n:Int)=(n:Int):=Qt8 (by omega);have h1:(0:Int) < (n:Int)+1:=by omega
   refine jL ?_;have Hq:=cj3 e1 hd h1;repeat refine go1 ?_
   have hvl:v < len:=by omega
   refine Qfa (by simp [hd,hvl,hvd,e2,w1,w2];with_reducible rfl) (by simp;with_reducible rfl) ?_ ?_
   . intro p hp;simp only [Kaf,Kaw,Kcf] at hp;rcases hp with rfl | rfl
     . exact ⟨_,by simp [hd,hvl,hvd,e2,w1,w2];with_reducible rfl,by simp⟩
     . exact ⟨_,by simp [hd,hvl,hvd,e2,w1,w2];with_reducible rfl,by simp⟩
   have Hq:=w3;repeat refine go1 ?_
   refine Qab (ih k2 _ (by omega) (by simp [hd]) (hlo.set ?_) (by omega)) ?_
   . simp only [Qoo,Jrb]
     first | (split <;> split <;> omega) | (split <;> omega) | omega
   . rintro ex st ⟨rfl,d',k,h1,h2,h3,rfl⟩;exact ⟨rfl,d',k,h1,h2,by omega,rfl⟩
theorem Jbf (code:List Int) (c:Bool) (hc:Qdv code) (cnt:Nat) (hn:cnt<=90000) (d:List Int) (hl:d.length<=7) (hlo:Lo9 d) (bs:Qad) (Ms:List Qad) :
 ∃ (d':List Int) (k:Nat),d'.length=d.length/\Lo9 d'/\k<=cnt+10 /\
   Qbc tb Ja3 [] [.bptr 0 0 0,O d] ((R code c cnt::bs)::Ms)=some ⟨O d',[],(R code c k::bs)::Ms,[]⟩:=by
 suffices h:∃ r,(∃ (d':List Int) (k:Nat),d'.length=d.length/\Lo9 d'/\k<=cnt+10/\r=⟨O d',[],(R code c k::bs)::Ms,[]⟩)/\Ev tb Ja3 [] [.bptr 0 0 0,O d] ((R code c cnt::bs)::Ms) r by
  obtain ⟨r,⟨d',k,h1,h2,h3,rfl⟩,h4⟩:=h;exact ⟨d',k,h1,h2,h3,Qaa h4⟩
 refine Qf5 zt135 rfl ?_;by_cases h2:d.length < 2
 . have h3:(d.length:Int) < 2:=by omega
   have Hq:=cj2 h2 h3;repeat refine go1 ?_
   refine ⟨.inr rfl,_,⟨d,cnt,rfl,hlo,by omega,rfl⟩,by simp [Jec]⟩
 . have h3:¬ (d.length:Int) < 2:=by omega
   obtain ⟨x,k2,hx,hk2,e2⟩:=one2 code c hc cnt (by omega) [0,1,2,2,3] (by simp) bs (Ms++[[]]);obtain ⟨n,rfl,hn3⟩:∃ n:Nat,x=(n:Int)/\n<=3:=by
    simp at hx;exact ⟨x.toNat,by omega,by omega⟩
   have Hq:=cj3 h2 h3 e2;repeat refine go1 ?_
   refine Qab (liftl9 code c hc d.length (by omega) hl bs Ms n k2 d (by omega) rfl hlo hn3) ?_;rintro ex st ⟨rfl,d',k,h1,h2,h3,rfl⟩;simp only [if_true]
   repeat refine go0 ?_
   refine ⟨.inr rfl,_,⟨d',k,h1,h2,by omega,rfl⟩,by simp [Jec]⟩
theorem Ql5 (code:List Int) (c:Bool) (hc:Qdv code) (cnt:Nat) (hn:cnt<=80000) (bs:Qad) (Ms:List Qad) :
 ∃ (d:List Int) (k:Nat),d.length<=7/\Lo9 d/\k<=cnt+200 /\
   Qbc tb Jf2 [] [.bptr 0 0 0] ((R code c cnt::bs)::Ms)=some ⟨O d,[],(R code c k::bs)::Ms,[]⟩:=by
 obtain ⟨n,es,k,hn7,hs,hk,e⟩:=Qj3 code c hc cnt (by omega) bs (Ms++[[]]);have e1:=Qaa e;have hel:=Jdv hn7 hs;have e2:=Qaa (Qgw n es false (by omega) (by omega) (prs_in hs));have hdl:(Qda n es).length=n:=by rw [Qda,Qge];simp
 have hvg:Qak n es=true:=Qcx.2 ⟨(Qs9 n).sublist hs,fun e he=>hs.subset he,hn7⟩;have hlo:Lo9 (Qda n es):=by
  intro x hx;have:=Qcs (Qew hvg) x hx;omega
 obtain ⟨v,k2,hv,hk2,e3⟩:=Qlx code c hc k (by omega) 2 (by omega) bs (Ms++[[]]);generalize Qda n es=d at *
 by_cases hv0:v=0
 . subst hv0;obtain ⟨d',k3,hd',hlo',hk3,e4⟩:=Jbf code c hc k2 (by omega) d (by omega) hlo bs (Ms++[[]]);refine ⟨d',k3,by omega,hlo',by omega,Qaa ?_⟩;refine jC zt128 rfl ?_;have Hq:=cj4 e1 e2 e3 e4;repeat refine go1 ?_
   simp [Jdt]
 . have hv1:¬ (v:Int)=0:=by omega
   refine ⟨d,k2,by omega,hlo,by omega,Qaa ?_⟩;refine jC zt128 rfl ?_;have Hq:=cj5 e1 e2 e3 hv0 hv1;repeat refine go1 ?_
   simp [Jdt]
set_option maxHeartbeats 2000000 in
theorem Qg2 (code:List Int) (c:Bool) (hc:Qdv code) (cnt:Nat) (hn:cnt<=80000) (l:List UInt8) (hl:l.length<=1000) (bs:Qad) (Ms:List Qad) :
 ∃ (l':List UInt8) (k:Nat),l'.length<=1010/\k<=cnt+10/\Qbc tb Qs4 [] [.bptr 0 0 0,SB l] ((R code c cnt::bs)::Ms)=some ⟨SB l',[],(R code c k::bs)::Ms,[]⟩:=by
 obtain ⟨v,k1,hv,hk1,e1⟩:=Qlx code c hc cnt (by omega) ((l.length:Int)+1) (by omega) bs (Ms++[[]]);have hv:=hv (by omega);obtain ⟨v2,k2,hv2,hk2,e2⟩:=Qlx code c hc k1 (by omega) 5 (by omega) bs (Ms++[[]]);have w1:IntKind.i64.wrap ((l.length:Int)+1)=(l.length:Int)+1:=Qac (by omega) (by omega);have hs:(⟨l.toArray⟩:ByteArray).size=l.length:=rfl;have hvl:v<=l.length:=by omega
 have pre:∀ k':Nat,k'<=cnt+10->Qbc tb Qs4 [] [.bptr 0 0 0,SB l] ((R code c cnt::bs)::Ms)=some ⟨SB l,[],(R code c k'::bs)::Ms,[]⟩->∃ (l':List UInt8) (k:Nat),l'.length<=1010/\k<=cnt+10/\Qbc tb Qs4 [] [.bptr 0 0 0,SB l] ((R code c cnt::bs)::Ms)=some ⟨SB l',[],(R code c k::bs)::Ms,[]⟩:=fun k' hk h=>⟨l,k',by omega,hk,h⟩;have one:v < l.length->(v2=0 \/ v2=1)->∃ (l':List UInt8) (k:Nat),l'.length<=1010/\k<=cnt+10/\Qbc tb Qs4 [] [.bptr 0 0 0,SB l] ((R code c cnt::bs)::Ms)=some ⟨SB l',[],(R code c k::bs)::Ms,[]⟩:=by
  intro hlt h01;obtain ⟨t,k3,ht,hk3,e3⟩:=Jsy code c hc k2 (by omega) [⟨#[48]⟩,⟨#[49]⟩,⟨#[55]⟩,⟨#[44]⟩,⟨#[58]⟩,⟨#[45]⟩,⟨#[97]⟩,⟨#[32]⟩] false (by simp) bs (Ms++[[]]);have hts:t.data.toList.length=1:=by
   simp only [Kaf,Kaw,Kcf] at ht;rcases ht with rfl | rfl | rfl | rfl | rfl | rfl | rfl | rfl <;> rfl
  have e3:Qbc tb Qh0 [] [.bptr 0 0 0,.lst 1 [[Str ⟨#[48]⟩],[Str ⟨#[49]⟩],[Str ⟨#[55]⟩],[Str ⟨#[44]⟩],[Str ⟨#[58]⟩],[Str ⟨#[45]⟩],[Str ⟨#[97]⟩],[Str ⟨#[32]⟩]] false] ((R code c k2::bs)::(Ms++[[]]))=some ⟨Str t,[],(R code c k3::bs)::(Ms++[[]]),[]⟩:=e3;rw [<- bs_of t] at e3;generalize t.data.toList=T at *
  have c1:=Qhj l 0 v;have c2:=Qhj l (v+1) l.length;have w2:IntKind.i64.wrap ((v:Int)+1)=((v+1:Nat):Int):=Qas (by omega);have q2:v+1<=l.length:=by omega
  have hA:((l.drop 0).take (v - 0)).length<=1000:=by simp;omega
  have hB:((l.drop (v+1)).take (l.length - (v+1))).length<=l.length - (v+1):=by simp
  have hA2:((l.drop 0).take (v - 0)).length=v:=by simp;omega
  generalize (l.drop 0).take (v - 0)=A at *
  generalize (l.drop (v+1)).take (l.length - (v+1))=B at *
  have a1:=Qcr (a:=A) (b:=T) (by omega);have a2:=Qcr (a:=A++T) (b:=B) (by simp;omega);refine ⟨A++T++B,k3,by simp;omega,by omega,Qaa ?_⟩;generalize A++T++B=U at *
  generalize A++T=W at *
  rcases h01 with rfl | rfl
  . rw [show ((0:Nat):Int)=0 from rfl] at e2;refine jC Qut rfl ?_;have Hq:=Jlb e1 e2 e3 w1 w2 hs hvl hlt q2 c1 c2 a1 a2;repeat refine go1 ?_
    simp [Qnp]
  . rw [show ((1:Nat):Int)=1 from rfl] at e2;refine jC Qut rfl ?_;have Hq:=Jlb e1 e2 e3 w1 w2 hs hvl hlt q2 c1 c2 a1 a2;repeat refine go1 ?_
    simp [Qnp]
 by_cases h01:v2=0 \/ v2=1
 . by_cases hlt:v < l.length
   . exact one hlt h01
   . refine pre k2 (by omega) (Qaa ?_);rcases h01 with rfl | rfl
     . rw [show ((0:Nat):Int)=0 from rfl] at e2;refine jC Qut rfl ?_;have Hq:=cj5 e1 e2 w1 hs hlt;repeat refine go1 ?_
       simp [Qnp]
     . rw [show ((1:Nat):Int)=1 from rfl] at e2;refine jC Qut rfl ?_;have Hq:=cj5 e1 e2 w1 hs hlt;repeat refine go1 ?_
       simp [Qnp]
 have n0:¬ v2=0:=fun h=>h01 (.inl h);have n1:¬ (v2:Int)=1:=fun h=>h01 (.inr (by omega));have n0':¬ (v2:Int)=0:=by omega
 by_cases h2:v2=2
 . subst h2;rw [show ((2:Nat):Int)=2 from rfl] at e2;have c1:=Qhj l 0 v;refine ⟨(l.drop 0).take (v - 0),k2,by simp;omega,by omega,Qaa ?_⟩;generalize (l.drop 0).take (v - 0)=A at *
   refine jC Qut rfl ?_;have Hq:=cj6 e1 e2 w1 hs hvl c1;repeat refine go1 ?_
   simp [Qnp]
 have n2:¬ (v2:Int)=2:=by omega
 by_cases h3:v2=3
 . subst h3;rw [show ((3:Nat):Int)=3 from rfl] at e2;obtain ⟨t,k3,ht,hk3,e3⟩:=Jsy code c hc k2 (by omega) [⟨#[48]⟩,⟨#[44]⟩,⟨#[32]⟩,⟨#[49,50]⟩] false (by simp) bs (Ms++[[]]);have hts:t.data.toList.length<=2:=by
    simp only [Kaf,Kaw,Kcf] at ht;rcases ht with rfl | rfl | rfl | rfl <;> simp
   have e3:Qbc tb Qh0 [] [.bptr 0 0 0,.lst 1 [[Str ⟨#[48]⟩],[Str ⟨#[44]⟩],[Str ⟨#[32]⟩],[Str ⟨#[49,50]⟩]] false] ((R code c k2::bs)::(Ms++[[]]))=some ⟨Str t,[],(R code c k3::bs)::(Ms++[[]]),[]⟩:=e3;rw [<- bs_of t] at e3;generalize t.data.toList=T at *
   have a1:=Qcr (a:=l) (b:=T) (by omega);refine ⟨l++T,k3,by simp;omega,by omega,Qaa ?_⟩;generalize l++T=W at *
   refine jC Qut rfl ?_;have Hq:=cj6 e1 e2 e3 w1 hs a1;repeat refine go1 ?_
   simp [Qnp]
 have n3:¬ (v2:Int)=3:=by omega
 refine pre k2 (by omega) (Qaa ?_);refine jC Qut rfl ?_;have Hq:=cj9 e1 e2 w1 hs n0 n0' n1 n2 n3;repeat refine go1 ?_
 simp [Qnp]
theorem of9 (code:List Int) (c:Bool) (hc:Qdv code) (cnt:Nat) (hn:cnt<=2000000) (l:List (List UInt8)) (hl:0 < l.length/\l.length<=1000) (h10:∀ x ∈ l,x.length<=20) (bs:Qad) (Ms:List Qad) :
 ∃ (s:List UInt8) (k:Nat),s.length<=20/\k<=cnt+1/\Qbc tb Qh0 [] [.bptr 0 0 0,.lst 1 (Qag l) false] ((R code c cnt::bs)::Ms)=some ⟨SB s,[],(R code c k::bs)::Ms,[]⟩:=by
 obtain ⟨t,k,ht,hk,e⟩:=Jsy code c hc cnt hn (l.map fun x=>⟨x.toArray⟩) false (by simpa using hl) bs Ms;obtain ⟨x,hx,rfl⟩:=Kck.1 ht;refine ⟨x,k,h10 x hx,hk,?_⟩;have:Qd2 (l.map fun x=>(⟨x.toArray⟩:ByteArray))=Qag l:=by simp [Qd2,Qag]
 rw [<- this];exact e
set_option maxHeartbeats 4000000 in
theorem Qe4 (code:List Int) (c:Bool) (hc:Qdv code):∀ (m cnt:Nat) (A:List (List UInt8)),cnt+400 * m<=70000->A.length<=1000->(∀ l ∈ A,l.length<=1010)->m<=6->A.length+m<=6 ->
 wp tb (.loop Jka) { T:=[(3,.bptr 0 0 0),(4,.own 1 (Qag A)),(5,I m)],loc:=[R code c cnt],M:=[] }
  fun ex st=>ex=.exit 0/\∃ (A:List (List UInt8)) (k:Nat),(A.length<=6/\∀ l ∈ A,l.length<=1010)/\st={ T:=[(3,.bptr 0 0 0),(4,.own 1 (Qag A)),(5,I 0),(14,Bo false)],loc:=[R code c k],M:=[] }
 | 0,cnt,A,hcn,hA,hAl,hm,hAm=>by
   refine jL ?_
   repeat refine go0 ?_
   exact ⟨rfl,A,cnt,⟨by omega,hAl⟩,rfl⟩
 | m+1,cnt,A,hcn,hA,hAl,hm,hAm=>by
   obtain ⟨s1,k1,hs1,hk1,e1⟩:=of9 code c hc cnt (by omega) [wG,wR,wT,wH,wS] (by simp) (by simp) [] [];obtain ⟨d,k2,hd7,hd9,hk2,e2⟩:=Ql5 code c hc k1 (by omega) [] [];have e3:=Qaa (Qhi d false (by omega) hd9);have hdl:(d.map dgt).length<=7:=by simpa using hd7
   have a1:=Qcr (a:=s1) (b:=[32]) (by simp;omega);have a2:=Qcr (a:=s1++[32]) (b:=d.map dgt) (by simp;omega);obtain ⟨v,k3,hv,hk3,e4⟩:=Qlx code c hc k2 (by omega) 3 (by omega) [] [];have hv:=hv (by omega);have w1:IntKind.i64.wrap (m:Int)=(m:Int):=Qac (by omega) (by omega);have hm1:(0:Int) < ((m+1:Nat):Int):=by omega
   have e1:Qbc tb Qh0 [] [.bptr 0 0 0,.lst 1 [[Str ⟨#[103,114,97,112,104,105,99]⟩],[Str ⟨#[114,101,97,108,105,122,101]⟩],[Str ⟨#[116,114,101,101]⟩],[Str ⟨#[116,104,114,101,115,104,111,108,100]⟩],[Str ⟨#[115,112,108,105,116]⟩]] false] [[R code c cnt]]=some ⟨SB s1,[],[[R code c k1]],[]⟩:=e1;obtain ⟨L0,hL0⟩:∃ L0,L0=s1++[32]++d.map dgt:=⟨_,rfl⟩;have hL0l:L0.length<=1000:=by rw [hL0];simp;omega
   rw [<- hL0] at a2;generalize s1++[32]=W1 at *
   generalize d.map dgt=D1 at *
   by_cases hv0:v=0
   . subst hv0;rw [show ((0:Nat):Int)=0 from rfl] at e4;obtain ⟨s2,k4,hs2,hk4,e5⟩:=of9 code c hc k3 (by omega) [wD,wC,wM,wK] (by simp) (by simp) [] [];have e5:Qbc tb Qh0 [] [.bptr 0 0 0,.lst 1 [[Str ⟨#[100,101,103,114,101,101,115]⟩],[Str ⟨#[99,111,110,110,101,99,116,101,100]⟩],[Str ⟨#[99,111,109,112,108,101,109,101,110,116]⟩],[Str ⟨#[99,111,100,101]⟩]] false] [[R code c k3]]=some ⟨SB s2,[],[[R code c k4]],[]⟩:=e5;obtain ⟨n,es,k5,hn7,hsub,hk5,g1⟩:=Qj3 code c hc k4 (by omega) [] [];have g1:=Qaa g1;have hvg:Qak n es=true:=Qcx.2 ⟨(Qs9 n).sublist hsub,fun e he=>hsub.subset he,hn7⟩;have hel:=Qec hvg;have g2:=Qaa (Qej n es false (by omega) (by omega) (Qh5 hn7 hvg));have hgl:=Qul n es;have a3:=Qcr (a:=s2) (b:=[32]) (by simp;omega);have a4:=Qcr (a:=s2++[32]) (b:=gtx n es) (by simp;omega);obtain ⟨L1,hL1⟩:∃ L1,L1=s2++[32]++gtx n es:=⟨_,rfl⟩;have hL1l:L1.length<=1000:=by rw [hL1];simp;omega
     rw [<- hL1] at a4;generalize s2++[32]=W2 at *
     generalize gtx (n:Int) es=D2 at *
     obtain ⟨v5,k6,hv5,hk6,e6⟩:=Qlx code c hc k5 (by omega) 12 (by omega) [] [];have hS:(Qag A).length=A.length:=by simp [Qag]
     have hlm:A.length+1<=274877906944:=by omega
     by_cases hv5:v5=0
     . subst hv5;rw [show ((0:Nat):Int)=0 from rfl] at e6;obtain ⟨L',k7,hL',hk7,e7⟩:=Qg2 code c hc k6 (by omega) (L1) (by omega) [] [];have ih:=Qe4 code c hc m k7 (A++[L']) (by omega) (by simp;omega) (fun l hl=>by
        rcases Kah.1 hl with hl | hl
        . exact hAl l hl
        . rw [Kce.1 hl];exact hL') (by omega) (by simp;omega)
       rw [show Qag (A++[L'])=Qag A++[[SB L']] from by simp [Qag]] at ih;generalize Qag A=S at *
       have htA:S.take A.length=S:=Kae (by omega);refine jL ?_;have Hq:=cj18 e1 e2 e3 a1 a2 e4 w1 hm1 e5 g1 g2 a3 a4 e6 e7 hS hlm htA;repeat refine go1 ?_
       exact ih
     . have hv5':¬ (v5:Int)=0:=by omega
       have ih:=Qe4 code c hc m k6 (A++[L1]) (by omega) (by simp;omega) (fun l hl=>by
        rcases Kah.1 hl with hl | hl
        . exact hAl l hl
        . rw [Kce.1 hl];omega) (by omega) (by simp;omega)
       rw [show Qag (A++[L1])=Qag A++[[SB (L1)]] from by simp [Qag]] at ih;generalize Qag A=S at *
       have htA:S.take A.length=S:=Kae (by omega);refine jL ?_;have Hq:=cj19 e1 e2 e3 a1 a2 e4 w1 hm1 e5 g1 g2 a3 a4 e6 hv5 hv5' hS hlm htA;repeat refine go1 ?_
       exact ih
   have hv0':¬ (v:Int)=0:=by omega
   by_cases hv1:v=1
   . subst hv1;rw [show ((1:Nat):Int)=1 from rfl] at e4;obtain ⟨v4,k4,hv4,hk4,e5⟩:=Qlx code c hc k3 (by omega) 4 (by omega) [] [];by_cases hv4:v4=0
     . subst hv4;rw [show ((0:Nat):Int)=0 from rfl] at e5;obtain ⟨L1,k5,hL1,hk5,g1⟩:=of9 code c hc k4 (by omega) [[],[104,101,108,112],[103,114,97,112,104,105,99],[99,111,100,101,32,120],[119,97,108,107,32,51,58,48,49],[116,114,101,101,32],[99,111,100,101,32,48,58]] (by simp) (by simp) [] [];have g1:Qbc tb Qh0 [] [.bptr 0 0 0,.lst 1 [[Str ByteArray.empty],[Str ⟨#[104,101,108,112]⟩],[Str ⟨#[103,114,97,112,104,105,99]⟩],[Str ⟨#[99,111,100,101,32,120]⟩],[Str ⟨#[119,97,108,107,32,51,58,48,49]⟩],[Str ⟨#[116,114,101,101,32]⟩],[Str ⟨#[99,111,100,101,32,48,58]⟩]] false] [[R code c k4]]=some ⟨SB L1,[],[[R code c k5]],[]⟩:=g1;obtain ⟨v5,k6,hv5,hk6,e6⟩:=Qlx code c hc k5 (by omega) 12 (by omega) [] [];have hS:(Qag A).length=A.length:=by simp [Qag]
       have hlm:A.length+1<=274877906944:=by omega
       by_cases hv5:v5=0
       . subst hv5;rw [show ((0:Nat):Int)=0 from rfl] at e6;obtain ⟨L',k7,hL',hk7,e7⟩:=Qg2 code c hc k6 (by omega) (L1) (by omega) [] [];have ih:=Qe4 code c hc m k7 (A++[L']) (by omega) (by simp;omega) (fun l hl=>by
          rcases Kah.1 hl with hl | hl
          . exact hAl l hl
          . rw [Kce.1 hl];exact hL') (by omega) (by simp;omega)
         rw [show Qag (A++[L'])=Qag A++[[SB L']] from by simp [Qag]] at ih;generalize Qag A=S at *
         have htA:S.take A.length=S:=Kae (by omega);refine jL ?_;have Hq:=cj15 e1 e2 e3 a1 a2 e4 w1 hm1 e5 g1 e6 e7 hS hlm htA;repeat refine go1 ?_
         exact ih
       . have hv5':¬ (v5:Int)=0:=by omega
         have ih:=Qe4 code c hc m k6 (A++[L1]) (by omega) (by simp;omega) (fun l hl=>by
          rcases Kah.1 hl with hl | hl
          . exact hAl l hl
          . rw [Kce.1 hl];omega) (by omega) (by simp;omega)
         rw [show Qag (A++[L1])=Qag A++[[SB (L1)]] from by simp [Qag]] at ih;generalize Qag A=S at *
         have htA:S.take A.length=S:=Kae (by omega);refine jL ?_;have Hq:=cj16 e1 e2 e3 a1 a2 e4 w1 hm1 e5 g1 e6 hv5 hv5' hS hlm htA;repeat refine go1 ?_
         exact ih
     . have hv4':¬ (v4:Int)=0:=by omega
       obtain ⟨v5,k6,hv5,hk6,e6⟩:=Qlx code c hc k4 (by omega) 12 (by omega) [] [];have hS:(Qag A).length=A.length:=by simp [Qag]
       have hlm:A.length+1<=274877906944:=by omega
       by_cases hv5:v5=0
       . subst hv5;rw [show ((0:Nat):Int)=0 from rfl] at e6;obtain ⟨L',k7,hL',hk7,e7⟩:=Qg2 code c hc k6 (by omega) (L0) (by omega) [] [];have ih:=Qe4 code c hc m k7 (A++[L']) (by omega) (by simp;omega) (fun l hl=>by
          rcases Kah.1 hl with hl | hl
          . exact hAl l hl
          . rw [Kce.1 hl];exact hL') (by omega) (by simp;omega)
         rw [show Qag (A++[L'])=Qag A++[[SB L']] from by simp [Qag]] at ih;generalize Qag A=S at *
         have htA:S.take A.length=S:=Kae (by omega);refine jL ?_;have Hq:=cj16 e1 e2 e3 a1 a2 e4 w1 hm1 e5 hv4 hv4' e6 e7 hS hlm htA;repeat refine go1 ?_
         exact ih
       . have hv5':¬ (v5:Int)=0:=by omega
         have ih:=Qe4 code c hc m k6 (A++[L0]) (by omega) (by simp;omega) (fun l hl=>by
          rcases Kah.1 hl with hl | hl
          . exact hAl l hl
          . rw [Kce.1 hl];omega) (by omega) (by simp;omega)
         rw [show Qag (A++[L0])=Qag A++[[SB (L0)]] from by simp [Qag]] at ih;generalize Qag A=S at *
         have htA:S.take A.length=S:=Kae (by omega);refine jL ?_;have Hq:=cj17 e1 e2 e3 a1 a2 e4 w1 hm1 e5 hv4 hv4' e6 hv5 hv5' hS hlm htA;repeat refine go1 ?_
         exact ih
   have hv1':¬ (v:Int)=1:=by omega
   obtain ⟨v5,k6,hv5,hk6,e6⟩:=Qlx code c hc k3 (by omega) 12 (by omega) [] [];have hS:(Qag A).length=A.length:=by simp [Qag]
   have hlm:A.length+1<=274877906944:=by omega
   by_cases hv5:v5=0
   . subst hv5;rw [show ((0:Nat):Int)=0 from rfl] at e6;obtain ⟨L',k7,hL',hk7,e7⟩:=Qg2 code c hc k6 (by omega) (L0) (by omega) [] [];have ih:=Qe4 code c hc m k7 (A++[L']) (by omega) (by simp;omega) (fun l hl=>by
      rcases Kah.1 hl with hl | hl
      . exact hAl l hl
      . rw [Kce.1 hl];exact hL') (by omega) (by simp;omega)
     rw [show Qag (A++[L'])=Qag A++[[SB L']] from by simp [Qag]] at ih;generalize Qag A=S at *
     have htA:S.take A.length=S:=Kae (by omega);refine jL ?_;have Hq:=cj17 e1 e2 e3 a1 a2 e4 w1 hm1 hv0 hv0' hv1 hv1' e6 e7 hS hlm htA;repeat refine go1 ?_
     exact ih
   . have hv5':¬ (v5:Int)=0:=by omega
     have ih:=Qe4 code c hc m k6 (A++[L0]) (by omega) (by simp;omega) (fun l hl=>by
      rcases Kah.1 hl with hl | hl
      . exact hAl l hl
      . rw [Kce.1 hl];omega) (by omega) (by simp;omega)
     rw [show Qag (A++[L0])=Qag A++[[SB (L0)]] from by simp [Qag]] at ih;generalize Qag A=S at *
     have htA:S.take A.length=S:=Kae (by omega);refine jL ?_;have Hq:=cj18 e1 e2 e3 a1 a2 e4 w1 hm1 hv0 hv0' hv1 hv1' e6 hv5 hv5' hS hlm htA;repeat refine go1 ?_
     exact ih
theorem Qoj (code:List Int) (c:Bool) (h:∀ x ∈ code,0<=x/\x<=255) (hl:code.length<=10000000) :
 ∃ A:List (List UInt8),A.length<=6/\(∀ l ∈ A,l.length<=1010)/\Qbc tb Qzp [] [.lst 1 (bytes code) c] []=some ⟨.own 1 (Qag A),[],[],[]⟩:=by
 obtain ⟨c',e⟩:=Qtz code c [[]] (by omega);have e1:=Qaa e;obtain ⟨x,k1,hx,hk1,e2⟩:=one2 (code.take 2000) c' (Jez h) 0 (by omega) [4,6,2,0] (by simp) [] [];rw [show ((0:Nat):Int)=0 from rfl] at e2;obtain ⟨m,rfl,hm⟩:∃ m:Nat,x=(m:Int)/\m<=6:=by
  simp at hx;exact ⟨x.toNat,by omega,by omega⟩
 have lp:=Qe4 (code.take 2000) c' (Jez h) m k1 [] (by omega) (by simp) (by simp) hm (by simpa using hm)
 suffices hh:∃ r,(∃ A:List (List UInt8),A.length<=6/\(∀ l ∈ A,l.length<=1010)/\r=⟨.own 1 (Qag A),[],[],[]⟩)/\Ev tb Qzp [] [.lst 1 (bytes code) c] [] r by
  obtain ⟨r,⟨A,q1,q2,rfl⟩,q3⟩:=hh;exact ⟨A,q1,q2,Qaa q3⟩
 refine Qf5 zt311 rfl ?_;have Hq:=cj2 e1 e2;repeat refine go1 ?_
 refine Qab lp ?_;rintro ex st ⟨rfl,A,k,⟨q1,q2⟩,rfl⟩;show wp tb _ _ _
 repeat refine go0 ?_
 refine ⟨.inr rfl,_,⟨A,q1,q2,rfl⟩,?_⟩;simp [Job]
end Go.Idl
namespace Go.Idl
open Go
theorem Qxd {x:Int} (h:0<=x/\x < 10):dgt x ≠ 10:=by
 intro e;have:=congrArg UInt8.toNat e;rw [dgt,UInt8.toNat_ofNat'] at this;have h2:(10:UInt8).toNat=10:=rfl;omega
theorem etx_nl {es:List (Int×Int)} (h:Jok es):(10:UInt8) ∉ etx es:=by
 have two:∀ e ∈ es,(10:UInt8) ∉ [dgt e.1,dgt e.2]:=fun e he hm=>by
  have hb:=h e he;have h1:=Qxd (x:=e.1) ⟨hb.1,hb.2.1⟩;have h2:=Qxd (x:=e.2) ⟨hb.2.2.1,hb.2.2.2⟩;simp only [Kaf,Kaw,Kcf] at hm;rcases hm with hm | hm
  . exact h1 hm.symm
  . exact h2 hm.symm
 intro hm;cases es with
 | nil=>simp [Jt3] at hm
 | cons x r =>
   have e:etx (x::r)=[dgt x.1,dgt x.2]++((r.map fun e=>[dgt e.1,dgt e.2]).map fun y=>[44]++y).flatten:=rfl;rw [e] at hm;rcases Kah.1 hm with hm | hm
   . exact two x (by simp) hm
   . obtain ⟨l,hl,h10⟩:=List.mem_flatten.1 hm;obtain ⟨y,hy,rfl⟩:=Kck.1 hl;obtain ⟨e,he,rfl⟩:=Kck.1 hy;rcases Kah.1 h10 with h10 | h10
     . simp at h10
     . exact two e (by simp [he]) h10
theorem Jqm {n:Nat} {es:List (Int×Int)} (hv:Qak n es=true):(10:UInt8) ∉ gtx n es:=by
 have h7:=(Qcx.1 hv).2.2;have h1:=Qxd (x:=(n:Int)) (by omega);rw [gtx];simp only [Kah,Kce,not_or];exact ⟨⟨Ne.symm h1,by decide⟩,etx_nl (Qh5 h7 hv)⟩
theorem Qsv (b:Bool):(10:UInt8) ∉ Qjm b:=by cases b <;> decide
theorem Jvo (w:List UInt8) {d:List Int} (hv:Qba d=true):(10:UInt8) ∉ Qzi w d:=by
 rw [Qzi];split;· exact Qsv _
 split;· exact Qsv _
 split;· exact Qsv _
 split;· exact Qsv _
 split
 . rename_i es hr;exact Jqm ((Qqs d hv).2 es hr).1
 . decide
theorem askG_nl (w:List UInt8) {n:Nat} {es:List (Int×Int)} (hv:Qak n es=true):(10:UInt8) ∉ Jcn w n es:=by
 have h7:=(Qcx.1 hv).2.2;rw [Jcn];split
 . intro hm;obtain ⟨x,hx,he⟩:=Kck.1 hm;have h1:=(Qam (Qew hv)).1;have h2:=Qcs (Qew hv) x hx;exact Qxd (x:=x) (by omega) he
 split;· exact Qsv _
 split;· exact Jqm (Qlj h7 es)
 split;· decide
 split
 . rename_i l o hq;intro hm;obtain ⟨x,hx,he⟩:=Kck.1 hm;rcases (Jku hq).2.2.let_ x hx with rfl | rfl <;> exact absurd he (by decide)
 . decide
theorem Jy4 (l:List UInt8):(10:UInt8) ∉ Qnm l:=by
 rw [Qnm];split
 . split
   . decide
   . rw [Qfw];split
     . split
       . rename_i d hp;exact Jvo _ (Qco hp)
       . decide
     split
     . split
       . rename_i n es hp;obtain ⟨hv,-⟩:=Qc7 hp;obtain ⟨m,rfl,h7⟩:=Qni hv;rw [Kax];exact askG_nl _ hv
       . decide
     . decide
 . decide
theorem Jhv:∀ ls:List (List UInt8),(Qcw ls).count 10=ls.length
 | []=>rfl
 | l::ls=>by
   have e:Qcw (l::ls)=(Qnm l++[10])++Qcw ls:=rfl;rw [e,List.count_append,List.count_append,Jhv ls,List.count_eq_zero.2 (Jy4 l)];simp;omega
theorem Jmo (A B:List (List UInt8)):Qcw (A++B)=Qcw A++Qcw B:=by simp [Qcw]
theorem Qvf (l:List UInt8) (hl:l.length<=2000000):Ev tb Jg2 [] [SB l] [] ⟨I (l.count 10),[],[],[]⟩:=by
 have hs:(⟨l.toArray⟩:ByteArray).size=l.length:=rfl;have loop:∀ (m i:Nat),i+m=l.length->wp tb (.loop Jse) { T:=[(0,SB l),(3,I ((l.take i).count 10)),(4,I i)],loc:=[],M:=[] }
  fun ex st=>ex=.exit 0/\st={ T:=[(0,SB l),(3,I (l.count 10)),(4,I l.length),(8,Bo false)],loc:=[],M:=[] }:=by
  intro m
  induction m with
  | zero =>
    intro i hi;have:i=l.length:=by omega
    subst this;rw [Kdb];refine jL ?_;have Hq:=hs;repeat refine go1 ?_
    exact ⟨rfl,rfl⟩
  | succ m ih =>
    intro i hi;have hlt:i < l.length:=by omega
    have hlt':(i:Int) < l.length:=by omega
    have w1:IntKind.i64.wrap ((i:Int)+1)=((i+1:Nat):Int):=Qas (by omega);have g1:=bs_get? l i hlt;have hn:=ih (i+1) (by omega);have hle:(l.take i).count 10<=i:=by have:=List.count_le_length (a:=(10:UInt8)) (l:=l.take i);rw [Kas] at this;omega
    rw [Kau hlt,List.count_append] at hn;generalize (l.take i).count 10=q at *
    have w2:IntKind.i64.wrap ((q:Int)+1)=((q+1:Nat):Int):=Qas (by omega);by_cases hq:l[i]=10
    . have hq2:l[i].toNat=10:=by rw [hq];rfl
      have hq3:((l[i].toNat:Nat):Int)=10:=by omega
      rw [hq,show List.count (10:UInt8) [10]=1 from rfl] at hn;refine jL ?_;have Hq:=cj8 hs hlt hlt' g1 hq2 hq3 w1 w2;repeat refine go1 ?_
      exact hn
    . have hq2:¬ l[i].toNat=10:=fun h=>hq (by rw [<- UInt8.toNat_inj];exact h);have hq3:¬ ((l[i].toNat:Nat):Int)=10:=by omega
      rw [show List.count (10:UInt8) [l[i]]=0 from List.count_eq_zero.2 (by simpa using Ne.symm hq),Keh] at hn;refine jL ?_;have Hq:=cj7 hs hlt hlt' g1 hq2 hq3 w1;repeat refine go1 ?_
      exact hn
 have lp:=loop l.length 0 (by omega);rw [Kcz,show List.count (10:UInt8) []=0 from rfl,show ((0:Nat):Int)=0 from rfl] at lp;generalize l.count 10=q at *
 refine jC zt245 rfl ?_
 repeat refine go0 ?_
 refine Qab lp ?_;rintro ex st ⟨rfl,rfl⟩;show wp tb _ _ _
 repeat refine go0 ?_
 simp [Jp3]
@[simp] theorem Qv1:∀ (l:List (List UInt8)),Qd4 (Qag l)=Qag l
  | []=>rfl
  | s::l=>by
    show [SB s]::Qd4 (Qag l)=[SB s]::Qag l;rw [Qv1 l]
@[simp] theorem Qq6:∀ (l:List (List UInt8)),Qcb (Qag l)=true
  | []=>rfl
  | s::l=>by
    show (Qbm [SB s] && Qcb (Qag l))=true;rw [Qq6 l];rfl
theorem Jgv (A:List (List UInt8)) (hA:A.length<=6) (hAl:∀ l ∈ A,l.length<=1010):∀ (m k:Nat),k+m=A.length+1 ->
 wp tb (.loop Jdp) { T:=[(3,.own 1 (Qag A)),(4,SB (Qcw A)),(5,I k)],loc:=[],M:=[] }
  fun ex st=>ex=.exit 0/\st={ T:=[(3,.own 1 (Qag A)),(4,SB (Qcw A)),(5,I ((A.length:Int)+1)),(29,Bo false)],loc:=[],M:=[] }
 | 0,k,hk=>by
   have hS:(Qag A).length=A.length:=by simp [Qag]
   have:k=A.length+1:=by omega
   subst this;have h1:¬ ((A.length:Int)+1<=A.length):=by omega
   refine jL ?_;have Hq:=cj2 hS h1;repeat refine go1 ?_
   exact ⟨rfl,rfl⟩
 | m+1,k,hk=>by
   have hS:(Qag A).length=A.length:=by simp [Qag]
   have hle:k<=A.length:=by omega
   have hle':(k:Int)<=A.length:=by omega
   have ih:=Jgv A hA hAl m (k+1) (by omega);have hT:List.take k (Qag A)=Qag (A.take k):=by simp [Qag,List.map_take]
   have e1:=fun c=>Qaa (Qgg (A.take k) c (fun l hl=>by have:=hAl l (Kbv hl);omega) (by rw [Kas];omega));have hY:Qcw A=Qcw (A.take k)++Qcw (A.drop k):=by rw [<- Jmo,Kcg]
   have hl1:(Qcw (A.take k)).length<=(Qcw A).length:=by rw [hY];simp
   have c1:=Qhj (Qcw A) 0 (Qcw (A.take k)).length;have hc1:((Qcw A).drop 0).take ((Qcw (A.take k)).length - 0)=Qcw (A.take k):=by rw [hY];simp
   rw [hc1] at c1;have s1:=Jem ⟨(Qcw (A.take k)).toArray⟩ ⟨(Qcw (A.take k)).toArray⟩;rw [Kbo rfl] at s1;have w1:IntKind.i64.wrap ((k:Int)+1)=((k+1:Nat):Int):=Qas (by omega);have z1:(⟨(Qcw A).toArray⟩:ByteArray).size=(Qcw A).length:=rfl;have z2:(⟨(Qcw (A.take k)).toArray⟩:ByteArray).size=(Qcw (A.take k)).length:=rfl;generalize Qcw (A.take k)=Yk at *
   generalize Qcw A=Y at *
   have hl2:¬ ((Y.length:Int) < Yk.length):=by omega
   have hl3:¬ (Y.length < Yk.length):=by omega
   refine jL ?_;have Hq:=Jlb hS hT hle hle' e1 z1 z2 hl1 hl2 hl3 c1 s1 w1;repeat refine go1 ?_
   exact ih
set_option maxHeartbeats 4000000 in
theorem ev_FnRunDesk (code:List Int) (c:Bool) (h:∀ x ∈ code,0<=x/\x<=255) :
 Ev tb Jov [] [.lst 1 (bytes code) c] [] ⟨Bo true,[],[],[]⟩:=by
 by_cases hc:(1048576:Int) < code.length
 . refine jC Jz9 rfl ?_;have Hq:=hc;repeat refine go1 ?_
   simp [Jat]
 obtain ⟨A,hA,hAl,e1⟩:=Qoj code c h (by omega);have e2:=fun c=>Qaa (Qgg A c (fun l hl=>by have:=hAl l hl;omega) (by omega));have e3:=fun c=>Qaa (Qnd A c (fun l hl=>by have:=hAl l hl;omega) (by omega));have lp:=Jgv A hA hAl (A.length+1) 0 (by omega);rw [show ((0:Nat):Int)=0 from rfl] at lp;have hlen:=Qqb A;have e4:=Qaa (Qvf (Qcw A) (by omega));rw [Jhv] at e4;have s1:=Jem ⟨(Qcw A).toArray⟩ ⟨(Qcw A).toArray⟩;have s2:=Qyi ⟨(Qcw A).toArray⟩ ⟨(Qcw A).toArray⟩;rw [Kbo rfl] at s1 s2;have s3:Op.stringOp .eql (⟨(Qcw A).toArray⟩:ByteArray) ByteArray.empty=Sem.pure (.bool (decide (Qcw A=[]))):=Ji0 (Qcw A) [];have hS:(Qag A).length=A.length:=by simp [Qag]
 generalize Qcw A=Y at *
 by_cases hY:Y=[]
 . rw [Kbo hY] at s3;refine jC Jz9 rfl ?_;have Hq:=cj7 hc e1 e2 e3 s1 s2 s3;repeat refine go1 ?_
   simp [Jat]
 . rw [Kbf hY] at s3;refine jC Jz9 rfl ?_;have Hq:=cj7 hc e1 e2 e3 s1 s2 s3;repeat refine go1 ?_
   refine Qab lp ?_;rintro ex st ⟨rfl,rfl⟩;show wp tb _ _ _;have Hq:=cj2 e4 hS;repeat refine go1 ?_
   simp [Jat]
end Go.Idl
